/- Arguments that are bytes or unsigned numbers. -/
import Derived.Test.YtedjnaggkakphaaGreatDoorLm
set_option linter.all false
namespace Go.Proofs.YtedjnaggkakphaaGreatDoor.Dx
open Go Go.RowKit
set_option linter.all false
set_option maxRecDepth 100000

theorem shp42 : shp T 42 = some (.i .u64) := rfl
theorem vUint {d : D} {m : Nat} (h : TyV T 42 d m) : ∃ i : Int, d = .v (.int .u64 i) := by
  obtain ⟨n, cs, h1, h2⟩ := h
  obtain ⟨i, rfl⟩ := h1.int_ shp42
  exact ⟨i, by rw [h2]; rfl⟩
theorem vInts {d : D} {m : Nat} (h : TyV T 22 d m) : ∃ l : List Int, d = .sl (l.map fun i => [.v (.int .u8 i)]) ∧ l.length ≤ m := by
  obtain ⟨n, cs, h1, h2⟩ := h
  obtain ⟨l, rfl, hl⟩ := h1.sl_ shp22 (fun i : Int => [.v (.int .u8 i)]) (fun _ _ => True) (fun n' ds m hn h => by
    obtain ⟨i, rfl⟩ := h.int_ shp5
    exact ⟨i, rfl, True.intro⟩)
  exact ⟨l, by rw [h2]; rfl, Nat.le_of_lt hl.len⟩
theorem u8_range {V : Know} {x : Value} {xs : List (List D)} {n : Int} (h : Rep V x (.sl xs)) (hi : [D.v (.int .u8 n)] ∈ xs) : 0 ≤ n ∧ n ≤ 255 := by
  cases h with
  | nil => simp at hi
  | empty => simp at hi
  | sl b o c k xs hc hm hk hex hr =>
    obtain ⟨j, hj, he⟩ := List.getElem_of_mem hi
    have h1 : xs[j]? = some [D.v (.int .u8 n)] := by rw [List.getElem?_eq_getElem hj, he]
    obtain ⟨u, hu, _⟩ := hex j _ 0 _ h1 rfl
    obtain ⟨_, hw⟩ := Rep.v_inv (hr j _ 0 _ u h1 rfl hu)
    exact hw.2 .u8 n rfl
/-- what no value reads as need not be walked -/
theorem Meets.vac {P : Program} {f : FuncId} {ds : List D} {R : D → Prop} (hf : FnOk P f) {i : Nat} {d : D} (hd : ds[i]? = some d) (h : (∃ V x, Rep V x d) → Meets P f ds R) : Meets P f ds R := by
  by_cases hr : ∃ V x, Rep V x d
  · exact h hr
  · refine ⟨⟨hf, fun γ V W xs h1 h2 h3 h4 => ?_⟩⟩
    exfalso
    have hl := h2.len
    have hi : i < xs.length := by
      have := (List.getElem?_eq_some_iff.1 hd).1
      simp only [List.length_map] at hl
      omega
    exact hr ⟨V, xs[i], h2.get i (.d d) xs[i] (by rw [List.getElem?_map, hd]; rfl) (List.getElem?_eq_getElem hi)⟩
theorem ints_bytes {l : List Int} (h : ∃ V x, Rep V x (.sl (l.map fun i => [.v (.int .u8 i)]))) : ∃ b : List UInt8, D.sl (l.map fun i => [.v (.int .u8 i)]) = .sl (byteCells b) ∧ b.length = l.length := by
  obtain ⟨V, x, h⟩ := h
  have hr : ∀ i ∈ l, 0 ≤ i ∧ i ≤ 255 := fun i hi => u8_range h (List.mem_map.2 ⟨i, hi, rfl⟩)
  refine ⟨l.map fun i => UInt8.ofNat i.toNat, ?_, by simp⟩
  rw [byteCells, List.map_map]
  congr 1
  refine List.map_congr_left fun i hi => ?_
  have := hr i hi
  have e : (((UInt8.ofNat i.toNat).toNat : Nat) : Int) = i := by rw [UInt8.toNat_ofNat']; omega
  show _ = [D.v (.int .u8 ((UInt8.ofNat i.toNat).toNat : Int))]
  rw [e]
end Go.Proofs.YtedjnaggkakphaaGreatDoor.Dx

