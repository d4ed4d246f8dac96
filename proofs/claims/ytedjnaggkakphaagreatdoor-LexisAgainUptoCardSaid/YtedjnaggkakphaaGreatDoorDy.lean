/- What the statements of chapter 05 share: the listed tables, the witness. -/
import Derived.Test.YtedjnaggkakphaaGreatDoorDl
import Derived.Test.YtedjnaggkakphaaGreatDoorDk
import Derived.Test.YtedjnaggkakphaaGreatDoorDz
import Derived.Test.YtedjnaggkakphaaGreatDoorCards
import Derived.Test.YtedjnaggkakphaaGreatDoorTie
import Derived.WalkKit
import Derived.ProofKit
import Derived.OpenShut
import Derived.MakeChecks
import Derived.Deep.DeepHandedRow
import Derived.Lib.LaidTab
import Derived.Lay
import Derived.SevenTiedAt
set_option linter.all false
namespace Go.Proofs.YtedjnaggkakphaaGreatDoor.Dx
open Go Go.RowKit
set_option maxRecDepth 100000
theorem own8 : ownKnob Tryz.prog.godebug = none := by kernel_rfl
theorem laid8 : laidOutB Tryz.prog = true := by kernel_rfl
theorem gPow : Tryz.prog.globalNamed "internal/strconv.uint64pow10" = some 3 := by kernel_rfl
theorem gPowT : (Tryz.prog.globals[3]?).map (·.type) = some 182 := by kernel_rfl
abbrev laidL : List (String × DataW Unit) := Rows.lexisTimesRow.laid
theorem plainL : (laidL.all fun x => x.2.handleName?.isNone) = true := by kernel_rfl
theorem laid_pow {W : World} (h : laidMetH Tryz.prog laidL W) : Lib.TabIs Tryz.prog W "internal/strconv.uint64pow10" .u64 Lib.pow10Tab := by
 rw [MakeChecks.laidMetH_plain _ _ _ plainL] at h
 obtain ⟨ps, ⟨_, _, _, _, _, _, _, _, _, _, ⟨_, _, _, _, _, _, _, _, _, _, ⟨g', t', cs, fuel, p, q, hg', ht', hvar, hd, _, _⟩, _⟩, _⟩, _⟩ := h
 obtain rfl := Option.some.inj (gPow.symm.trans hg')
 obtain rfl := Option.some.inj (gPowT.symm.trans ht')
 unfold Lib.TabIs
 rw [hvar, ← Lib.cells_of_tab (k := .u64) (zs := Lib.pow10Tab) Tryz.underlying182 Tryz.underlying148 (by kernel_rfl) (by kernel_rfl) (by exact hd)]
theorem globW8 {W : World} (h : Lib.TabIs Tryz.prog W "internal/strconv.uint64pow10" .u64 Lib.pow10Tab) : GlobW W := by
 unfold Lib.TabIs World.var? at h
 rw [gPow, Option.bind_some] at h
 split at h
 case h_2 => cases h
 rename_i cs e fz hh
 refine ⟨e, ?_⟩
 unfold World.shape?
 rw [hh]
 have := congrArg (fun o : Option (Array Value) => o.map Array.size) h
 simp only [Option.map_some, Option.some.injEq] at this
 show some (e, cs.size) = some (e, 20)
 rw [this]
 rfl
theorem glob8 {W : World} (h : Lib.TabIs Tryz.prog W "internal/strconv.uint64pow10" .u64 Lib.pow10Tab) (hs : W.ShapedOpen Tryz.prog) : Glob (V0 W) := by
 refine ⟨Tryz.laysM219.s1_3 W hs, fun j z hz => ?_⟩
 have hj : j < 20 := by
  rcases Nat.lt_or_ge j 20 with h | h
  · exact h
  · rw [List.getElem?_eq_none (by simpa using h)] at hz; cases hz
 have hc := h.cell gPow j (by rw [Lib.pow10Tab_length]; exact hj)
 have hp : Lib.pow10Tab = [1, 10, 100, 1000, 10000, 100000, 1000000, 10000000, 100000000, 1000000000, 10000000000, 100000000000, 1000000000000, 10000000000000, 100000000000000, 1000000000000000, 10000000000000000, 100000000000000000, 1000000000000000000, 10000000000000000000] := by decide
 rw [List.getD_eq_getElem?_getD, hp, hz] at hc
 exact hc
/-- 'there is an input that fits', at a world that is written out: its shape by one pass -/
theorem witness_lay {H : Type} {enc : TypeId × Value → H} {C : Checked} {os : Os} {f : FuncId} {fn : Func} {s : OpenSpec} {conds : List PathCond} {apart : Bool} {laid : List (String × DataW Unit)} (modest : Bool) (w0 : World) (args : Array Value) (hos : w0.os = os)
 (hs : ∀ xs : Array Value, (w0.forCall (fun _ _ => 0) ⟨#[], xs, []⟩).Shaped C.prog)
 (hok : Input.okWideB C.prog (w0.forCall (fun _ _ => 0) ⟨#[], args, []⟩) f ⟨#[], args, []⟩ = true)
 (hrow : s.preRow enc C.prog fn conds apart laid (w0.forCall (fun _ _ => 0) ⟨#[], args, []⟩).memory args) :
 ∃ (w : World) (tape : Tape) (i : Input), w.os = os ∧ (w.forCall tape i).Shaped C.prog ∧ i.vars = [] ∧ Input.okWide C.prog (w.forCall tape i) .any w.heap.size f i ∧
   s.preRow enc C.prog fn conds apart laid (w.forCall tape i).memory i.args ∧ ({ modest := modest } : Assume).holds C.prog (lone (Frame.enter C.prog f i.args .normal) [] (w.forCall tape i)) :=
 ⟨w0, fun _ _ => 0, ⟨#[], args, []⟩, hos, hs args, (Input.okWide_of_okWideB (base := 0) hok).1, (Input.okWide_of_okWideB hok).2, hrow, by
  simp only [Assume.holds]
  exact ⟨by simp, by simp, fun _ => Modest.zero, by simp, by simp⟩⟩
theorem shape8 {os : Os} (xs : Array Value) : ((World.laidAll Tryz.prog os laidL).forCall (fun _ _ => 0) ⟨#[], xs, []⟩).Shaped Tryz.prog := World.shaped_of_ZipB (by kernel_rfl) (by kernel_rfl)
theorem lay8a {os : Os} : (World.holding Tryz.prog os ⟨#[], #[], []⟩).layFits Tryz.prog laidL [] = true := by kernel_rfl
theorem lay8b {os : Os} : (World.holding Tryz.prog os ⟨#[], #[], []⟩).layIfaces Tryz.prog laidL (World.laidAll Tryz.prog os laidL) = true := by kernel_rfl
theorem closedT : closedB T [3, 4, 5, 9, 22, 42] = true := rfl
theorem tyVs_nil {ds : List D} {ms : List Nat} (h : TyVs T [] ds ms) : ds = [] ∧ ms = [] := by
 cases ds <;> cases ms <;> first | exact ⟨rfl, rfl⟩ | exact h.elim
theorem tyVs_cons {f : TypeId} {fs : List TypeId} {xs : List D} {ms : List Nat} (h : TyVs T (f :: fs) xs ms) :
 ∃ x xs' m ms', xs = x :: xs' ∧ ms = m :: ms' ∧ TyV T f x m ∧ TyVs T fs xs' ms' := by
 cases xs <;> cases ms <;> first | exact ⟨_, _, _, _, rfl, rfl, h.1, h.2⟩ | exact h.elim
theorem shp3 : shp T 3 = some (.i .i64) := rfl
theorem shp9 : shp T 9 = some .s := rfl
theorem shp5 : shp T 5 = some (.i .u8) := rfl
theorem shp22 : shp T 22 = some (.sl 5) := rfl
theorem vStr {d : D} {m : Nat} (h : TyV T 9 d m) (hm : m ≤ 1048576) : ∃ s : List UInt8, d = .str s ∧ s.length ≤ 1048576 := by
 obtain ⟨n, cs, h1, h2⟩ := h
 obtain ⟨s, rfl, hs⟩ := h1.str_ shp9
 exact ⟨s, by rw [h2]; rfl, by omega⟩
end Go.Proofs.YtedjnaggkakphaaGreatDoor.Dx
/- Arguments that are bytes or unsigned numbers. -/
namespace Go.Proofs.YtedjnaggkakphaaGreatDoor.Dx
open Go Go.RowKit
set_option maxRecDepth 100000
theorem vInts {d : D} {m : Nat} (h : TyV T 22 d m) : ∃ l : List Int, d = .sl (l.map fun i => [.v (.int .u8 i)]) ∧ l.length ≤ m := by
 obtain ⟨n, cs, h1, h2⟩ := h
 obtain ⟨l, rfl, hl⟩ := h1.sl_ shp22 (fun i : Int => [.v (.int .u8 i)]) (fun _ _ => True) (fun n' ds m hn h => by
  obtain ⟨i, rfl⟩ := h.int_ shp5
  exact ⟨i, rfl, True.intro⟩)
 exact ⟨l, by rw [h2]; rfl, Nat.le_of_lt hl.len⟩
theorem u8_range {V : Know} {x : Value} {xs : List (List D)} {n : Int} (h : Rep V x (.sl xs)) (hi : [D.v (.int .u8 n)] ∈ xs) : 0 ≤ n ∧ n ≤ 255 := by
 cases h with
 | nil => simp at hi
 | empty => simp at hi
 | sl b o c k xs hc hm hk hex hr =>
   obtain ⟨j, hj, he⟩ := List.getElem_of_mem hi
   have h1 : xs[j]? = some [D.v (.int .u8 n)] := by rw [List.getElem?_eq_getElem hj, he]
   obtain ⟨u, hu, _⟩ := hex j _ 0 _ h1 rfl
   obtain ⟨_, hw⟩ := Rep.v_inv (hr j _ 0 _ u h1 rfl hu)
   exact hw.2 .u8 n rfl
/-- what no value reads as need not be walked -/
theorem Meets.vac {P : Program} {f : FuncId} {ds : List D} {R : D → Prop} (hf : FnOk P f) {i : Nat} {d : D} (hd : ds[i]? = some d) (h : (∃ V x, Rep V x d) → Meets P f ds R) : Meets P f ds R := by
 by_cases hr : ∃ V x, Rep V x d
 · exact h hr
 · refine ⟨⟨hf, fun γ V W xs h1 h2 h3 h4 => ?_⟩⟩
   exfalso
   have hl := h2.len
   have hi : i < xs.length := by
    have := (List.getElem?_eq_some_iff.1 hd).1
    simp only [List.length_map] at hl
    omega
   exact hr ⟨V, xs[i], h2.get i (.d d) xs[i] (by rw [List.getElem?_map, hd]; rfl) (List.getElem?_eq_getElem hi)⟩
theorem ints_bytes {l : List Int} (h : ∃ V x, Rep V x (.sl (l.map fun i => [.v (.int .u8 i)]))) : ∃ b : List UInt8, D.sl (l.map fun i => [.v (.int .u8 i)]) = .sl (byteCells b) ∧ b.length = l.length := by
 obtain ⟨V, x, h⟩ := h
 have hr : ∀ i ∈ l, 0 ≤ i ∧ i ≤ 255 := fun i hi => u8_range h (List.mem_map.2 ⟨i, hi, rfl⟩)
 refine ⟨l.map fun i => UInt8.ofNat i.toNat, ?_, by simp⟩
 rw [byteCells, List.map_map]
 congr 1
 refine List.map_congr_left fun i hi => ?_
 have := hr i hi
 have e : (((UInt8.ofNat i.toNat).toNat : Nat) : Int) = i := by rw [UInt8.toNat_ofNat']; omega
 show _ = [D.v (.int .u8 ((UInt8.ofNat i.toNat).toNat : Int))]
 rw [e]
end Go.Proofs.YtedjnaggkakphaaGreatDoor.Dx
