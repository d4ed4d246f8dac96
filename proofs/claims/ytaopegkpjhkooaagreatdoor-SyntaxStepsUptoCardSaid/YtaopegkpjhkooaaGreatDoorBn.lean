/- strconv.Itoa by the shelf's contract. -/
import Derived.Test.YtaopegkpjhkooaaGreatDoorBj
import Derived.Test.YtaopegkpjhkooaaGreatDoorBz
import Derived.Lib.ItoaLen
import Derived.Test.YtaopegkpjhkooaaGreatDoorBm
import Derived.Lib.TrimByte
set_option linter.all false
namespace Go.Proofs.YtaopegkpjhkooaaGreatDoor.Dx
open Go Go.RowKit Go.Proofs Go.Sort
set_option maxRecDepth 100000
set_option maxHeartbeats 4000000
variable {γ : Gm} {V : Know} {W : World}
theorem tab_pow10 (hs : Sees V W) : Lib.TabIs Tryz.prog W "internal/strconv.uint64pow10" .u64 Lib.pow10Tab := by
 obtain ⟨e, he⟩ := hs.row
 have hg : Tryz.prog.globalNamed "internal/strconv.uint64pow10" = some gPow10 := by kernel_rfl
 unfold World.shape? at he
 split at he
 case h_2 => cases he
 rename_i cs e' fz hh
 simp only [Option.some.injEq, Prod.mk.injEq] at he
 unfold Lib.TabIs World.var?
 rw [hg]
 simp only [Option.bind_some, hh, Option.some.injEq]
 apply Array.ext_getElem?
 intro j
 have hp : Lib.pow10Tab = [1, 10, 100, 1000, 10000, 100000, 1000000, 10000000, 100000000, 1000000000, 10000000000, 100000000000, 1000000000000, 10000000000000, 100000000000000, 1000000000000000, 10000000000000000, 100000000000000000, 1000000000000000000, 10000000000000000000] := by decide
 rcases Nat.lt_or_ge j 20 with hj | hj
 · obtain ⟨z, hz⟩ : ∃ z, Lib.pow10Tab[j]? = some z := ⟨_, List.getElem?_eq_getElem (by rw [Lib.pow10Tab_length]; exact hj)⟩
   have h2 := hs.cell gPow10 j _ (hs.lib.2 j z (by rw [← hp]; exact hz))
   simp only [World.cell?, hh] at h2
   have h2 : cs[j]? = some (Value.int IntKind.u64 z) := h2
   rw [h2]
   simp [hz]
 · rw [Array.getElem?_eq_none (by omega)]
   simp [Lib.pow10Tab_length, hj]
theorem Sees.below (h : Sees V W) {W' : World} (hb : Below W.heap.size W W') : Sees V W' := by
 refine ⟨fun b o v hc => ?_, fun r x hx => ?_, h.lib, h.keepRow fun b o v hc => hb.block b (h.lt hc)⟩
 · exact (hb.cell (p := ⟨b, o, none⟩) (h.lt hc)).trans (h.cell b o v hc)
 · obtain ⟨h1, h2⟩ := h.obj r x hx
   exact ⟨(hb.block r (heap_lt h1)).trans h1, h2⟩
theorem below_gr (w : World) (k : Nat) (os : Array Obj) : Below w.heap.size w (grow (w.drewN k) os) :=
 ⟨rfl, rfl, rfl, by simp [grow], fun j hj => by simp only [grow]; exact Array.getElem?_append_left hj⟩
theorem Itoa_meets (n : Int) : Meets Tryz.prog 10 [.v (.int .i64 n)] fun d => d = .str (Lib.itoa n) := by
 refine ⟨⟨⟨_, _, Tryz.func10, rfl, by kernel_rfl⟩, fun γ V W xs hs hv ho hi => ?_⟩⟩
 obtain ⟨x, xs', rfl, hx, hv'⟩ := hv.cons_l
 obtain rfl := hv'.nil_l
 obtain ⟨rfl, hn⟩ := Rep.int_inv hx
 refine (Tryz.strconv_Itoa n hn.1 hn.2 W (tab_pow10 hs)).mono ?_
 rintro e W' ⟨rfl, k, os, rfl⟩
 have hb := below_gr W k os
 have hl : (Lib.itoa n).length ≤ maxLen := by have := Lib.itoa_length_le n hn.1 hn.2; unfold maxLen; omega
 exact ⟨γ, V, .ret (.d (.str (Lib.itoa n))), [], Rep.str _ hl, .of hb, .refl _ _ _, hs.below hb, fun n b h => (by rw [look_nil] at h; cases h), fun n b h => (by rw [look_nil] at h; cases h), fun n n' b b' h => (by rw [look_nil] at h; cases h),
  fun _ _ _ _ => rfl, _, rfl, rfl, rfl⟩
end Go.Proofs.YtaopegkpjhkooaaGreatDoor.Dx
/- Times in the code and in the reference (chapter 05 on: without courses). -/
namespace Go.Proofs.YtaopegkpjhkooaaGreatDoor.Dx
open Go Go.RowKit Go.Proofs
set_option maxRecDepth 100000
set_option maxHeartbeats 16000000
/-! times -/
theorem Ks {a b : List UInt8} {E : Prop} (e : E) (h : a.length + b.length ≤ 9223372036854775807 := by ((try simp only [List.length_append, List.length_cons, List.length_nil]); omega)) : (a.length ≤ maxLen → b.length ≤ maxLen → a.length + b.length ≤ maxLen) ∧ E := ⟨fun _ _ => (by unfold maxLen; exact h), e⟩
/-- division and remainder; a piece of a string -/
theorem Kq {H1 H2 : Prop} {a b : Int} {E : Prop} (e : E) (h : H1 → H2 → 0 ≤ a ∧ 1 ≤ b := by (intro h1 h2; have := h1.1; have := h1.2; omega)) : (H1 → H2 → 0 ≤ a ∧ 1 ≤ b) ∧ E := ⟨h, e⟩
theorem Kt {n : Nat} {i j : Int} {E : Prop} (e : E) (h : n ≤ maxLen → 0 ≤ i ∧ i ≤ j ∧ j ≤ (n : Int) := by (intro _; (try simp only [List.length_cons, List.length_nil]); omega)) : (n ≤ maxLen → 0 ≤ i ∧ i ≤ j ∧ j ≤ (n : Int)) ∧ E := ⟨h, e⟩
end Go.Proofs.YtaopegkpjhkooaaGreatDoor.Dx
