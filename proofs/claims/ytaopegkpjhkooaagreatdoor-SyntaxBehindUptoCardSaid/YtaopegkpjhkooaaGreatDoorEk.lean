/- What the statements of chapter 06 share: the listed tables,the errors' cells,the witness. -/
import Derived.Test.YtaopegkpjhkooaaGreatDoorDm
import Derived.Test.YtaopegkpjhkooaaGreatDoorDk
import Derived.Test.YtaopegkpjhkooaaGreatDoorDz
import Derived.Test.YtaopegkpjhkooaaGreatDoorCards
import Derived.Test.YtaopegkpjhkooaaGreatDoorTie
import Derived.WalkKit
import Derived.ProofKit
import Derived.OpenShut
import Derived.MakeChecks
import Derived.Deep.DeepHandedRow
import Derived.Lib.LaidTab
import Derived.Lay
import Derived.SevenTiedAt
set_option linter.all false
namespace Go.Proofs.YtaopegkpjhkooaaGreatDoor.Dx
open Go Go.RowKit
set_option maxRecDepth 100000
theorem a9U : ownKnob Tryz.prog.godebug = none:=by kernel_rfl
theorem a9j : laidOutB Tryz.prog = true:=by kernel_rfl
theorem gPow : Tryz.prog.globalNamed "internal/strconv.uint64pow10" = some 0 := by kernel_rfl
theorem gPowT : (Tryz.prog.globals[0]?).map (·.type) = some 208:=by kernel_rfl
abbrev laidL : List (String × DataW Unit):=Rows.syntaxBindsRow.laid
theorem a9Y : (laidL.all λ x=>x.2.handleName?.isNone) = true:=by kernel_rfl
theorem a5l {W : World} {n : String} {d : DataW Unit} : ∀ {laid : List (String × DataW Unit)} {ps : List MemPlace},DataW.LaidVars Tryz.prog W laid ps -> (n,d) ∈ laid ->
 ∃ g t cs fuel p,Tryz.prog.globalNamed n = some g /\ (Tryz.prog.globals[g]?).map (·.type) = some t /\ W.var? Tryz.prog n = some cs /\ DataW.trod (λ _=>()) Tryz.prog W 0 (λ _=>true) false fuel t cs.toList = some (d,p)
 | [],_,_,hm=>by cases hm
 | (_,_) :: r,ps,h,hm=>by
   obtain ⟨g,t,cs,fuel,p,q,h1,h2,h3,h4,h5,_⟩:=h
   rcases List.mem_cons.1 hm with e | hm
   . cases e
     exact ⟨g,t,cs,fuel,p,h1,h2,h3,h4⟩
   . exact a5l h5 hm
theorem a2W {W : World} (h : laidMetH Tryz.prog laidL W) : Lib.TabIs Tryz.prog W "internal/strconv.uint64pow10" .u64 Lib.pow10Tab := by
 rw [MakeChecks.laidMetH_plain _ _ _ a9Y] at h
 obtain ⟨ps,h,_⟩:=h
 obtain ⟨g', t', cs, fuel, p, hg', ht', hvar, hd⟩ := a5l h (n := "internal/strconv.uint64pow10") (.tail _ (.tail _ (.head _)))
 obtain rfl:=Option.some.inj (gPow.symm.trans hg')
 obtain rfl:=Option.some.inj (gPowT.symm.trans ht')
 unfold Lib.TabIs
 rw [hvar,<- Lib.cells_of_tab (k:=.u64) (zs:=Lib.pow10Tab) Tryz.underlying208 Tryz.underlying181 (by kernel_rfl) (by kernel_rfl) (by exact hd)]
theorem b9Y {W : World} {t : TypeId} {ms : Array (String × TypeId)} (hu : Tryz.prog.underlying t = some (.interface ms)) {fuel : Nat} {cs : List Value} {name : String} {x : DataW Unit} {p : List MemPlace}
 (h : DataW.trod (λ _=>()) Tryz.prog W 0 (λ _=>true) false fuel t cs = some (.iface name x,p)) : ∃ u v,cs = [.iface u v]:=by
 cases fuel with
 | zero=>cases h
 | succ fuel =>
   unfold DataW.trod at h
   rw [hu] at h
   match cs,h with
   | [],h=>cases h
   | [v],h =>
     cases v with
     | iface u v=>exact ⟨u,v,rfl⟩
     | nilIface=>cases h
     | _=>cases h
   | a :: b :: r,h=>cases a <;> (first | (cases h; done) | (simp at h; done))
theorem a9k {W : World} (h : laidMetH Tryz.prog laidL W) {n : String} {g : Nat} {name : String} {x : DataW Unit} (hm : (n,DataW.iface name x) ∈ laidL) (hg : Tryz.prog.globalNamed n = some g) (ht : (Tryz.prog.globals[g]?).map (·.type) = some 194) :
 ∃ v,W.cell? ⟨g,0,none⟩ = some v /\ a4d v:=by
 rw [MakeChecks.laidMetH_plain _ _ _ a9Y] at h
 obtain ⟨ps,h,_⟩:=h
 obtain ⟨g',t',cs,fuel,p,hg',ht',hvar,hd⟩:=a5l h hm
 obtain rfl:=Option.some.inj (hg.symm.trans hg')
 obtain rfl:=Option.some.inj (ht.symm.trans ht')
 obtain ⟨u,v,hcs⟩:=b9Y Tryz.underlying194 hd
 unfold World.var? at hvar
 rw [hg,Option.bind_some] at hvar
 split at hvar
 case h_2=>cases hvar
 rename_i cs' e fz hh
 cases hvar
 refine ⟨.iface u v,?_,.inr ⟨u,v,rfl⟩⟩
 have : cs[0]? = some (.iface u v):=by
  rw [<- Array.getElem?_toList,hcs]; rfl
 simp [World.cell?,hh,this]
theorem a8M {W : World} (h : Lib.TabIs Tryz.prog W "internal/strconv.uint64pow10" .u64 Lib.pow10Tab) : GlobW W := by
 unfold Lib.TabIs World.var? at h
 rw [gPow,Option.bind_some] at h
 split at h
 case h_2=>cases h
 rename_i cs e fz hh
 refine ⟨e,?_⟩
 unfold World.shape?
 rw [hh]
 have:=congrArg (λ o : Option (Array Value)=>o.map Array.size) h
 simp only [Option.map_some,Option.some.injEq] at this
 show some (e,cs.size) = some (e,20)
 rw [this]
 rfl
theorem a8L {W : World} (hL : laidMetH Tryz.prog laidL W) (h : Lib.TabIs Tryz.prog W "internal/strconv.uint64pow10" .u64 Lib.pow10Tab) (hs : W.ShapedOpen Tryz.prog) : Glob (V0 W) := by
 refine ⟨⟨Tryz.laysM219.s1_3 W hs, a9k hL (n := "strconv.ErrSyntax") (.tail _ (.tail _ (.tail _ (.tail _ (.tail _ (.head _)))))) (by kernel_rfl) (by kernel_rfl), a9k hL (n := "strconv.ErrRange") (.tail _ (.tail _ (.tail _ (.tail _ (.head _))))) (by kernel_rfl) (by kernel_rfl)⟩, λ j z hz => ?_⟩
 have hj : j < 20:=by
  rcases Nat.lt_or_ge j 20 with h | h
  . exact h
  . rw [List.getElem?_eq_none (by simpa using h)] at hz; cases hz
 have hc:=h.cell gPow j (by rw [Lib.pow10Tab_length]; exact hj)
 have hp : Lib.pow10Tab = [1,10,100,1000,10000,100000,1000000,10000000,100000000,1000000000,10000000000,100000000000,1000000000000,10000000000000,100000000000000,1000000000000000,10000000000000000,100000000000000000,1000000000000000000,10000000000000000000]:=by decide
 rw [List.getD_eq_getElem?_getD,hp,hz] at hc
 exact hc
theorem b1S {H : Type} {enc : TypeId × Value -> H} {C : Checked} {os : Os} {f : FuncId} {fn : Func} {s : OpenSpec} {conds : List PathCond} {apart : Bool} {laid : List (String × DataW Unit)} (modest : Bool) (w0 : World) (args : Array Value) (hos : w0.os = os)
 (hs : ∀ xs : Array Value,(w0.forCall (λ _ _=>0) ⟨#[],xs,[]⟩).Shaped C.prog)
 (hok : Input.okWideB C.prog (w0.forCall (λ _ _=>0) ⟨#[],args,[]⟩) f ⟨#[],args,[]⟩ = true)
 (hrow : s.preRow enc C.prog fn conds apart laid (w0.forCall (λ _ _=>0) ⟨#[],args,[]⟩).memory args) :
 ∃ (w : World) (tape : Tape) (i : Input),w.os = os /\ (w.forCall tape i).Shaped C.prog /\ i.vars = [] /\ Input.okWide C.prog (w.forCall tape i) .any w.heap.size f i /\
   s.preRow enc C.prog fn conds apart laid (w.forCall tape i).memory i.args /\ ({ modest:=modest } : Assume).holds C.prog (lone (Frame.enter C.prog f i.args .normal) [] (w.forCall tape i)) :=
 ⟨w0,λ _ _=>0,⟨#[],args,[]⟩,hos,hs args,(Input.okWide_of_okWideB (base:=0) hok).1,(Input.okWide_of_okWideB hok).2,hrow,by
  simp only [Assume.holds]
  exact ⟨by simp,by simp,λ _=>Modest.zero,by simp,by simp⟩⟩
theorem b0S {os : Os} (xs : Array Value) : ((World.laidAll Tryz.prog os laidL).forCall (λ _ _=>0) ⟨#[],xs,[]⟩).Shaped Tryz.prog:=World.shaped_of_ZipB (by kernel_rfl) (by kernel_rfl)
theorem a9m {os : Os} : (World.holding Tryz.prog os ⟨#[],#[],[]⟩).layFits Tryz.prog laidL [] = true:=by kernel_rfl
theorem a9n {os : Os} : (World.holding Tryz.prog os ⟨#[],#[],[]⟩).layIfaces Tryz.prog laidL (World.laidAll Tryz.prog os laidL) = true:=by kernel_rfl
theorem a7L : a1g T [3,4,5,9,35] = true:=rfl
theorem b1x {ds : List D} {ms : List Nat} (h : Q6 T [] ds ms) : ds = [] /\ ms = []:=by
 cases ds <;> cases ms <;> first | exact ⟨rfl,rfl⟩ | exact h.elim
theorem a6t {f : TypeId} {fs : List TypeId} {xs : List D} {ms : List Nat} (h : Q6 T (f :: fs) xs ms) :
 ∃ x xs' m ms',xs = x :: xs' /\ ms = m :: ms' /\ TyV T f x m /\ Q6 T fs xs' ms':=by
 cases xs <;> cases ms <;> first | exact ⟨_,_,_,_,rfl,rfl,h.1,h.2⟩ | exact h.elim
theorem b8J : shp T 3 = some (.i .i64):=rfl
theorem b8K : shp T 5 = some (.i .u8):=rfl
theorem c0o {d : D} {m : Nat} (h : TyV T 3 d m) : ∃ i : Int,d = iD i:=by
 obtain ⟨n,cs,h1,h2⟩:=h
 obtain ⟨i,rfl⟩:=h1.int_ b8J
 exact ⟨i,by rw [h2]; rfl⟩
end Go.Proofs.YtaopegkpjhkooaaGreatDoor.Dx
/- Chapter 06: arguments that are bytes. -/
namespace Go.Proofs.YtaopegkpjhkooaaGreatDoor.Dx
open Go Go.RowKit
set_option maxRecDepth 100000
theorem b8L : shp T 35 = some (.sl 5):=rfl
theorem b1A {d : D} {m : Nat} (h : TyV T 35 d m) : ∃ l : List Int,d = .sl (l.map λ i=>[.v (.int .u8 i)]) /\ l.length <= m:=by
 obtain ⟨n,cs,h1,h2⟩:=h
 obtain ⟨l,rfl,hl⟩:=h1.sl_ b8L (λ i : Int=>[.v (.int .u8 i)]) (λ _ _=>True) (λ n' ds m hn h=>by
  obtain ⟨i,rfl⟩:=h.int_ b8K
  exact ⟨i,rfl,True.intro⟩)
 exact ⟨l,by rw [h2]; rfl,Nat.le_of_lt hl.len⟩
theorem c0f {V : Know} {x : Value} {xs : List (List D)} {n : Int} (h : Rep V x (.sl xs)) (hi : [D.v (.int .u8 n)] ∈ xs) : 0 <= n /\ n <= 255:=by
 cases h with
 | nil=>simp at hi
 | empty=>simp at hi
 | sl b o c k xs hc hm hk hex hr =>
   obtain ⟨j,hj,he⟩:=List.getElem_of_mem hi
   have h1 : xs[j]? = some [D.v (.int .u8 n)]:=by rw [List.getElem?_eq_getElem hj,he]
   obtain ⟨u,hu,_⟩:=hex j _ 0 _ h1 rfl
   obtain ⟨_,hw⟩:=Rep.v_inv (hr j _ 0 _ u h1 rfl hu)
   exact hw.2 .u8 n rfl
theorem Meets.vac {P : Program} {f : FuncId} {ds : List D} {R : D -> Prop} (hf : G8 P f) {i : Nat} {d : D} (hd : ds[i]? = some d) (h : (∃ V x,Rep V x d) -> Meets P f ds R) : Meets P f ds R:=by
 by_cases hr : ∃ V x,Rep V x d
 . exact h hr
 . refine ⟨⟨hf,λ γ V W xs h1 h2 h3 h4=>?_⟩⟩
   exfalso
   have hl:=h2.len
   have hi : i < xs.length:=by
    have:=(List.getElem?_eq_some_iff.1 hd).1
    simp only [List.length_map] at hl
    omega
   exact hr ⟨V,xs[i],h2.get i (.d d) xs[i] (by rw [List.getElem?_map,hd]; rfl) (List.getElem?_eq_getElem hi)⟩
theorem a8Q {l : List Int} (h : ∃ V x,Rep V x (.sl (l.map λ i=>[.v (.int .u8 i)]))) : ∃ b : List UInt8,D.sl (l.map λ i=>[.v (.int .u8 i)]) = .sl (d9 b) /\ b.length = l.length:=by
 obtain ⟨V,x,h⟩:=h
 have hr : ∀ i ∈ l,0 <= i /\ i <= 255:=λ i hi=>c0f h (List.mem_map.2 ⟨i,hi,rfl⟩)
 refine ⟨l.map λ i=>UInt8.ofNat i.toNat,?_,by simp⟩
 rw [d9,List.map_map]
 congr 1
 refine List.map_congr_left λ i hi=>?_
 have:=hr i hi
 have e : (((UInt8.ofNat i.toNat).toNat : Nat) : Int) = i:=by rw [UInt8.toNat_ofNat']; omega
 show _ = [D.v (.int .u8 ((UInt8.ofNat i.toNat).toNat : Int))]
 rw [e]
end Go.Proofs.YtaopegkpjhkooaaGreatDoor.Dx
