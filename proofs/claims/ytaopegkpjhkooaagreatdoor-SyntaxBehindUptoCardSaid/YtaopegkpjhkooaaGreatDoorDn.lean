/- strconv.Itoa by the shelf's contract. -/
import Derived.Test.YtaopegkpjhkooaaGreatDoorDj
import Derived.Test.YtaopegkpjhkooaaGreatDoorDz
import Derived.Lib.ItoaLen
import Derived.Test.YtaopegkpjhkooaaGreatDoorDm
import Derived.Lib.TrimByte
set_option linter.all false
namespace Go.Proofs.YtaopegkpjhkooaaGreatDoor.Dx
open Go Go.RowKit Go.Proofs Go.Sort
set_option maxRecDepth 100000
set_option maxHeartbeats 4000000
variable {γ : Gm} {V : Know} {W : World}
theorem Sees.below (h : Sees V W) {W' : World} (hb : Below W.heap.size W W') : Sees V W':=by
 refine ⟨λ b o v hc=>?_,λ r x hx=>?_,h.lib,h.keepRow λ b o v hc=>hb.block b (h.lt hc)⟩
 . exact (hb.cell (p:=⟨b,o,none⟩) (h.lt hc)).trans (h.cell b o v hc)
 . obtain ⟨h1,h2⟩:=h.obj r x hx
   exact ⟨(hb.block r (C8 h1)).trans h1,h2⟩
end Go.Proofs.YtaopegkpjhkooaaGreatDoor.Dx
/- Times in the code and in the reference (chapter 05 on: without courses). -/
namespace Go.Proofs.YtaopegkpjhkooaaGreatDoor.Dx
open Go Go.RowKit Go.Proofs
set_option maxRecDepth 100000
set_option maxHeartbeats 16000000
theorem Ks {a b : List UInt8} {E : Prop} (e : E) (h : a.length + b.length <= 9223372036854775807:=by ((try simp only [List.length_append,List.length_cons,List.length_nil]); omega)) : (a.length <= maxLen -> b.length <= maxLen -> a.length + b.length <= maxLen) /\ E:=⟨λ _ _=>(by unfold maxLen; exact h),e⟩
theorem Kq {H1 H2 : Prop} {a b : Int} {E : Prop} (e : E) (h : H1 -> H2 -> 0 <= a /\ 1 <= b:=by (intro h1 h2; have:=h1.1; have:=h1.2; omega)) : (H1 -> H2 -> 0 <= a /\ 1 <= b) /\ E:=⟨h,e⟩
theorem Kt {n : Nat} {i j : Int} {E : Prop} (e : E) (h : n <= maxLen -> 0 <= i /\ i <= j /\ j <= (n : Int):=by (intro _; (try simp only [List.length_cons,List.length_nil]); omega)) : (n <= maxLen -> 0 <= i /\ i <= j /\ j <= (n : Int)) /\ E:=⟨h,e⟩
end Go.Proofs.YtaopegkpjhkooaaGreatDoor.Dx
