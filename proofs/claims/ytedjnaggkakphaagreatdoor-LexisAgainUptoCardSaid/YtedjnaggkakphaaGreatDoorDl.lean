/- The executor over data, part Z: loops over functions. -/
import Derived.Test.YtedjnaggkakphaaGreatDoorDi
import Derived.Test.YtedjnaggkakphaaGreatDoorDg
import Derived.Test.YtedjnaggkakphaaGreatDoorDj
set_option linter.all false
namespace Go.Proofs.YtedjnaggkakphaaGreatDoor.Dx
open Go Go.RowKit
section
variable {P : Program} {T : List (Nat × TI)} {C : Cx} {γ : Gm} {st : SSt} {V : Know} {a : Act} {W : World}
end
end Go.Proofs.YtedjnaggkakphaaGreatDoor.Dx
/- Small laws for walks over data. -/
namespace Go.Proofs.YtedjnaggkakphaaGreatDoor.Dx
open Go Go.RowKit
theorem getD_at {α : Type} {xs : List α} (f : α → List D) {i : Nat} (h : i < xs.length) {ds : List D} (hd : f xs[i] = ds) : (xs.map f)[((i : Nat) : Int).toNat]? = some ds := by
 rw [Int.toNat_natCast, List.getElem?_map, List.getElem?_eq_getElem h, Option.map_some, hd]
theorem str_at {s : List UInt8} {i : Nat} (h : i < s.length) : s[((i : Nat) : Int).toNat]? = some s[i] := by
 rw [Int.toNat_natCast, List.getElem?_eq_getElem h]
/-- truth values as propositions -/
theorem BB : (∀ (p : Prop) [Decidable p], (decide p = true) = p) ∧ (∀ (p : Prop) [Decidable p], (decide p = false) = ¬ p) ∧ (∀ b : Bool, ((!b) = true) = (b = false)) ∧ (∀ b : Bool, ((!b) = false) = (b = true)) ∧
 (∀ b : Bool, (¬ (b = true)) = (b = false)) ∧ (∀ b : Bool, (¬ (b = false)) = (b = true)) ∧ (∀ a b : Bool, ((a || b) = true) = (a = true ∨ b = true)) ∧ (∀ a b : Bool, ((a && b) = true) = (a = true ∧ b = true)) ∧
 (∀ a b : Bool, ((a || b) = false) = (a = false ∧ b = false)) ∧ (∀ a b : Bool, ((a && b) = false) = (a = true → b = false)) :=
 ⟨fun p _ => by simp, fun p _ => by simp, by decide, by decide, by decide, by decide, by decide, by decide, by decide, by decide⟩
theorem i64 {n : Int} (h0 : -9223372036854775808 ≤ n) (h1 : n ≤ 9223372036854775807) : inKind .i64 n := ⟨h0, h1⟩
/-! ### obligations that come again and again: what is left over is shown by the tactic in the argument's place -/
theorem Ka {H1 H2 C E : Prop} (e : E) (h : H1 → H2 → C := by (intro h1 h2; have := h1.1; have := h1.2; have := h2.1; have := h2.2; refine ⟨?_, ?_⟩ <;> ((try dsimp only at *); first | omega | (simp only [List.length_map] at *; omega)))) : (H1 → H2 → C) ∧ E := ⟨h, e⟩
theorem Kb {a b c d : Int} {E : Prop} (e : E) (h1 : a ≤ b := by ((try dsimp only at *); omega)) (h2 : c < d := by ((try dsimp only at *); omega)) : (a ≤ b ∧ c < d) ∧ E := ⟨⟨h1, h2⟩, e⟩
theorem Kc {α : Type} {xs : List α} {f : α → List D} {i n : Nat} {ds : List D} {E : List D → Prop} (h : i < xs.length := by ((try dsimp only at *); (try simp only [List.length_map] at *); omega)) (hd : f (xs[i]'h) = ds) (e : E ds)
 (hl : ds.length = n := by rfl) : ∃ ds, (0 ≤ (i : Int) ∧ (xs.map f)[((i : Nat) : Int).toNat]? = some ds ∧ ds.length = n) ∧ E ds :=
 ⟨ds, ⟨Int.natCast_nonneg _, getD_at f h hd, hl⟩, e⟩
theorem Kd {s : List UInt8} {i : Nat} {E : UInt8 → Prop} (h : i < s.length := by ((try dsimp only at *); (try simp only [List.length_map] at *); omega)) (e : E (s[i]'h)) : ∃ c, (0 ≤ (i : Int) ∧ s[((i : Nat) : Int).toNat]? = some c) ∧ E c :=
 ⟨s[i], ⟨Int.natCast_nonneg _, str_at h⟩, e⟩
theorem Z {C : Cx} {st : SSt} {c : Code} {Q : Post} (h : plainC c = true) (k : vcC Tryz.prog T C {} c Q st) : J Tryz.prog C c Q st := vcC_go tok {} h k
theorem Kl {n m : Nat} {O O' : List (Nat × Blk)} {E : Prop} (h : look n O = look m O') (e : E) : look n O = look m O' ∧ E := ⟨h, e⟩
theorem Kh {c d : Bool} {E F : Prop} (h : c = true → E) (k : d = false → F) : (c = true → E) ∧ (d = false → F) := ⟨h, k⟩
theorem Kr {E : Prop} (h : E := by repeat' (first | exact True.intro | exact rfl | refine And.intro ?_ ?_)) : E := h
theorem SL : (∀ (α β : Type) (f : α → β) (l : List α), (l.map f).length = l.length) ∧ maxLen = 2 ^ 63 - 1 := ⟨fun _ _ _ _ => List.length_map .., rfl⟩
theorem BL : ((∀ (p : Prop) [Decidable p], (decide p = true) = p) ∧ (∀ (p : Prop) [Decidable p], (decide p = false) = ¬ p) ∧ (∀ b : Bool, ((!b) = true) = (b = false)) ∧ (∀ b : Bool, ((!b) = false) = (b = true)) ∧
 (∀ b : Bool, (¬ (b = true)) = (b = false)) ∧ (∀ b : Bool, (¬ (b = false)) = (b = true)) ∧ (∀ a b : Bool, ((a || b) = true) = (a = true ∨ b = true)) ∧ (∀ a b : Bool, ((a && b) = true) = (a = true ∧ b = true)) ∧
 (∀ a b : Bool, ((a || b) = false) = (a = false ∧ b = false)) ∧ (∀ a b : Bool, ((a && b) = false) = (a = true → b = false))) ∧ ∀ (α β : Type) (f : α → β) (l : List α), (l.map f).length = l.length := ⟨BB, fun _ _ _ _ => List.length_map ..⟩
end Go.Proofs.YtedjnaggkakphaaGreatDoor.Dx
/- Integers and truth values as data, strings in cells (for seats without courses: in the place of DD). -/
namespace Go.Proofs.YtedjnaggkakphaaGreatDoor.Dx
open Go Go.RowKit
abbrev iD (n : Int) : D := .v (.int .i64 n)
abbrev bD (b : Bool) : D := .v (.bool b)
abbrev iB (n : Int) : Base := .d (iD n)
abbrev icells (n : Int) : List D := [iD n]
theorem icells_eq (n : Int) : icells n = [iD n] := rfl
abbrev scells (s : List UInt8) : List D := [.str s]
theorem scells_eq (s : List UInt8) : scells s = [.str s] := rfl
theorem take_snoc {α : Type} {p : α → Prop} {xs : List α} {i : Nat} (hi : i < xs.length) (h : ∀ x ∈ xs.take i, p x) (hx : p xs[i]) : ∀ x ∈ xs.take (i + 1), p x := by
 intro x hm
 rw [List.take_succ_eq_append_getElem hi, List.mem_append, List.mem_singleton] at hm
 rcases hm with hm | rfl
 · exact h x hm
 · exact hx
theorem all_false {α : Type} {p : α → Bool} {xs : List α} {x : α} (hx : x ∈ xs) (h : p x = false) : xs.all p = false := by
 rw [List.all_eq_false]; exact ⟨x, hx, by rw [h]; simp⟩
theorem all_true {α : Type} {p : α → Bool} {xs : List α} {i : Nat} (hi : ¬ i < xs.length) (h : ∀ x ∈ xs.take i, p x = true) : xs.all p = true := by
 rw [List.take_of_length_le (by omega)] at h
 exact List.all_eq_true.2 h
theorem Meets.bl {P : Program} {f : FuncId} {ds : List D} {b : Bool} (h : Meets P f ds fun d => d = bD b) : Meets P f ds fun d => d = .bl b := by
 refine ⟨⟨h.out.fn, fun γ V W xs h1 h2 h3 h4 => (h.out.run γ V W xs h1 h2 h3 h4).mono ?_⟩⟩
 rintro e W' ⟨γ', V', o, O', a1, a2, a3, a4, a5, a6, a7, a8, d, rfl, rfl, rfl⟩
 refine ⟨γ', V', _, [], ?_, a2, a3, a4, a5, a6, a7, a8, .bl b, rfl, rfl, rfl⟩
 cases e with
 | returned v =>
   obtain ⟨rfl, _⟩ := Rep.v_inv (show Rep V' v (.v (.bool b)) from a1)
   exact Rep.bl b
 | _ => exact a1
/-- a function whose contract speaks of values: it returns memoryless data and leaves the world as it was -/
theorem Meets.still {P : Program} {f : FuncId} {ds : List D} {d : D} (hf : FnOk P f)
 (h : ∀ V W xs, Sees V W → Reps V xs ds → Calls P f xs.toArray W fun e W' => ∃ v, e = .returned v ∧ W' = W ∧ Rep V v d) : Meets P f ds fun r => r = d := by
 refine ⟨⟨hf, fun γ V W xs h1 h2 h3 h4 => ?_⟩⟩
 have hr : Reps V xs ds := by
  refine ⟨by have := h2.len; simpa using this.symm, fun i u d h5 h6 => ?_⟩
  exact h2.get i (.d d) u (by simp [h6]) h5
 refine (h V W xs h1 hr).mono ?_
 rintro e W' ⟨v, rfl, rfl, hv⟩
 exact ⟨γ, V, .ret (.d d), [], hv, .refl _ _ _, .refl _ _ _, h1, fun n b h => (by rw [look_nil] at h; cases h), fun n b h => (by rw [look_nil] at h; cases h), fun n n' b b' h => (by rw [look_nil] at h; cases h),
  fun _ _ _ _ => rfl, d, rfl, rfl, rfl⟩
end Go.Proofs.YtedjnaggkakphaaGreatDoor.Dx
