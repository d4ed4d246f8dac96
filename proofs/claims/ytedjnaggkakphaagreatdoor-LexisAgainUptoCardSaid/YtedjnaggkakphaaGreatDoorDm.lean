/- Words and keywords (for seats without courses: E15, E16, E17 joined). -/
import Derived.Test.YtedjnaggkakphaaGreatDoorDl
import Derived.Test.YtedjnaggkakphaaGreatDoorDz
set_option linter.all false
namespace Go.Proofs.YtedjnaggkakphaaGreatDoor.Dx
open Go Go.RowKit
set_option maxRecDepth 100000
set_option maxHeartbeats 8000000
def words : List (List UInt8) := [
 [99, 111, 117, 114, 115, 101],
 [109, 97, 116, 115],
 [115, 116, 97, 114, 116],
 [112, 97, 115, 115],
 [101, 110, 100],
 [108, 101, 103],
 [116, 111],
 [100, 105, 115, 116, 97, 110, 99, 101],
 [103, 117, 110],
 [99, 104, 105, 112],
 [115, 108, 111, 116],
 [108, 97, 112, 115],
 [108, 97, 112],
 [99, 117, 116, 111, 102, 102],
 [101, 120, 116, 114, 97],
 [119, 97, 118, 101],
 [111, 102, 102, 101, 110, 99, 101],
 [111, 117, 116],
 [99, 97, 116, 101, 103, 111, 114, 121],
 [112, 114, 105, 122, 101],
 [97, 108, 108],
 [116, 105, 101, 115],
 [105, 102],
 [101, 108, 115, 101],
 [97, 110, 100],
 [111, 114],
 [110, 111, 116],
 [111, 108, 100, 101, 114],
 [121, 111, 117, 110, 103, 101, 114],
 [98, 105, 98],
 [100, 114, 97, 119],
 [102, 105, 101, 108, 100],
 [115, 104, 111, 114, 116],
 [102, 97, 117, 108, 116, 115],
 [109, 105, 115, 115, 101, 115],
 [115, 116, 114, 97, 121, 115],
 [119, 105, 110, 100, 111, 119],
 [114, 101, 115, 105, 100, 117, 97, 108],
 [100, 114, 105, 102, 116],
 [112, 114, 111, 116, 101, 115, 116],
 [102, 101, 101],
 [100, 101, 97, 100, 108, 105, 110, 101]]
def kw (s : List UInt8) : Bool := words.contains s
theorem rKeyword_meets (s : List UInt8) : Meets Tryz.prog 20 [.str s] fun d => d = bD (kw s) := by
 refine enter tok {} Tryz.func20 rfl (by kernel_rfl) Tryz.ntmps20 (by simp) fun B0 W0 V0 lent g0 => ?_
 ((conv => whnf); repeat' (refine Z rfl ?_; conv => whnf))
 repeat' ((first | (intro hlq; (try simp only [SL] at hlq)) | ((refine Kh (fun hb => ?_) fun hb => ?_) <;> (try simp only [BL] at hb)) | refine Ka ?_ | refine Kb ?_ | refine Kc (hd := rfl) (e := ?_) | refine Kc (hd := icells_eq _) (e := ?_) | refine Kd (e := ?_) | refine Kl rfl ?_ | fail) <;> ((conv => whnf); repeat' (refine Z rfl ?_; conv => whnf)))
 all_goals refine ⟨congrArg bD ?_⟩
 all_goals first
  | (subst hb; decide)
  | (simp only [kw, words, List.contains_eq_mem]; simp; (repeat' (first | assumption | refine And.intro ?_ ?_)))
abbrev cB (n : Int) : Base := .d (.v (.int .u8 n))
abbrev cD (n : Int) : D := .v (.int .u8 n)
def tabB (f : Nat → Int) : List Base := (List.range 256).map fun b => cB (f b)
def tabD (f : Nat → Int) : List D := (List.range 256).map fun b => cD (f b)
theorem tab_len (f : Nat → Int) : (tabB f).length = 256 := by simp [tabB]
theorem tab_set {f g : Nat → Int} {i : Nat} {v : Int} (hi : i < 256) (h : ∀ b, b < 256 → g b = if b = i then v else f b) : (tabB f).set i (cB v) = tabB g := by
 apply List.ext_getElem?
 intro b
 simp only [tabB, List.getElem?_set, List.length_map, List.length_range, List.getElem?_map]
 by_cases hb : b < 256
 · rw [List.getElem?_range hb]
   simp only [Option.map_some]
   rw [h b hb]
   by_cases e : i = b
   · subst e; simp [hi]
   · rw [if_neg e, if_neg (Ne.symm e)]
 · rw [if_neg (by omega), List.getElem?_eq_none (by simp; omega)]
   rfl
theorem tab_get (f : Nat → Int) {i : Nat} (h : i < 256) : (tabB f)[i]? = some (cB (f i)) := by
 simp only [tabB, List.getElem?_map, List.getElem?_range h, Option.map_some]
theorem tab_vals (O : List (Nat × Blk)) (f : Nat → Int) : valBs O (tabB f) = some (tabD f) := by
 unfold tabB tabD
 generalize List.range 256 = l
 induction l with
 | nil => rfl
 | cons x l ih => simp only [List.map_cons, valBs, ih]; rfl
theorem tab_whole (O : List (Nat × Blk)) (f : Nat → Int) : valBs O (((tabB f).drop 0).take 256) = some (tabD f) := by
 rw [List.drop_zero, List.take_of_length_le (by rw [tab_len]; decide), tab_vals]
theorem tabD_len (f : Nat → Int) : (tabD f).length = 256 := by simp [tabD]
theorem tabD_map (f : Nat → Int) : (tabD f).map .d = tabB f := by simp [tabD, tabB]
theorem setRun_self {α : Type} (l : List α) : setRun l 0 l = l := by
 apply List.ext_getElem?
 intro j
 rw [setRun_get l l 0 j (by omega)]
 split
 · simp
 · rfl
theorem SubBs_tab (O : List (Nat × Blk)) (f : Nat → Int) : SubBs O (tabB f) (tabB f) := by
 unfold tabB
 generalize List.range 256 = l
 induction l with
 | nil => trivial
 | cons x l ih => exact ⟨rfl, ih⟩
def signs : List Int := [123, 125, 40, 41, 91, 93, 59, 44, 61, 60, 62]
def blanks : List Int := [32, 9, 10, 13]
def c1 (i : Int) (b : Nat) : Int := if (97 ≤ (b : Int) ∧ (b : Int) < i) ∨ (65 ≤ (b : Int) ∧ (b : Int) < i - 32) then 2 else 0
def c2 (i : Int) (b : Nat) : Int := if 48 ≤ (b : Int) ∧ (b : Int) < i then 3 else c1 123 b
def c3 (l : List Int) (b : Nat) : Int := if (b : Int) ∈ l then 4 else c2 58 b
def c4 (l : List Int) (b : Nat) : Int := if (b : Int) ∈ l then 1 else c3 signs b
/-- the class of a byte -/
def cls (b : Nat) : Int := c4 blanks b
theorem mem_take_succ {l : List Int} {k : Nat} (h : k < l.length) (x : Int) : x ∈ l.take (k + 1) ↔ x ∈ l.take k ∨ x = l[k] := by
 rw [List.take_succ_eq_append_getElem h, List.mem_append, List.mem_singleton]
theorem classes_meets : Meets Tryz.prog 26 [] fun d => d = .agg (tabD cls) := by
 refine enter tok {sym := [0], priv := [22]} Tryz.func26 rfl (by kernel_rfl) Tryz.ntmps26 (by simp) fun B0 W0 V0 lent g0 => ?_
 ((conv => whnf); repeat' (refine vcC_go tok {sym := [0], priv := [22]} rfl ?_; conv => whnf))
 refine J_cells 0 (tabB (c1 97)) ?_
 conv => whnf
 refine ⟨by kernel_rfl, ?_⟩
 conv => whnf
 refine loop_upd tok {sym := [0], priv := [22]} [] (X := Int) (fun i => [(1, cB i)]) (fun i => [(0, .box (tabB (c1 i)) 50)]) [] (fun i => 97 ≤ i ∧ i ≤ 123) (fun i => (123 - i).toNat) 97 ?_
 ((conv => whnf); repeat' (refine vcC_go tok {sym := [0], priv := [22]} rfl ?_; conv => whnf))
 refine And.intro ?_ ⟨⟨by omega, by omega⟩, fun i hΦ => ?_⟩
 · repeat' (first | exact SubBs_tab _ _ | exact True.intro | exact rfl | refine And.intro ?_ ?_)
 obtain ⟨hi1, hi2⟩ := hΦ
 ((conv => whnf); repeat' (refine vcC_go tok {sym := [0], priv := [22]} rfl ?_; conv => whnf))
 refine ⟨fun h1 => ?_, fun h1 => ?_⟩ <;> (try simp only [BL] at h1) <;> ((conv => whnf); repeat' (refine vcC_go tok {sym := [0], priv := [22]} rfl ?_; conv => whnf))
 · repeat' ((first | (intro hlq; (try simp only [SL] at hlq)) | refine Ka ?_ | refine Kb ?_ | refine Kc (hd := rfl) (e := ?_) | refine Kc (hd := icells_eq _) (e := ?_) | refine Kd (e := ?_) | refine Kl rfl ?_ | fail) <;> ((conv => whnf); repeat' (refine vcC_go tok {sym := [0], priv := [22]} rfl ?_; conv => whnf)))
   refine ⟨by dsimp only; rw [tab_len]; omega, ?_⟩
   ((conv => whnf); repeat' (refine vcC_go tok {sym := [0], priv := [22]} rfl ?_; conv => whnf))
   repeat' ((first | (intro hlq; (try simp only [SL] at hlq)) | refine Ka ?_ | refine Kb ?_ | refine Kc (hd := rfl) (e := ?_) | refine Kc (hd := icells_eq _) (e := ?_) | refine Kd (e := ?_) | refine Kl rfl ?_ | fail) <;> ((conv => whnf); repeat' (refine vcC_go tok {sym := [0], priv := [22]} rfl ?_; conv => whnf)))
   refine ⟨by dsimp only; rw [List.length_set, tab_len]; omega, ?_⟩
   ((conv => whnf); repeat' (refine vcC_go tok {sym := [0], priv := [22]} rfl ?_; conv => whnf))
   repeat' ((first | (intro hlq; (try simp only [SL] at hlq)) | refine Ka ?_ | refine Kb ?_ | refine Kc (hd := rfl) (e := ?_) | refine Kc (hd := icells_eq _) (e := ?_) | refine Kd (e := ?_) | refine Kl rfl ?_ | fail) <;> ((conv => whnf); repeat' (refine vcC_go tok {sym := [0], priv := [22]} rfl ?_; conv => whnf)))
   have e1 : ((tabB (c1 i)).set (0 + i.toNat * 1) (cB 2)).set (0 + (i - 32).toNat * 1) (cB 2) = tabB (c1 (i + 1)) := by
    rw [tab_set (g := fun b => if b = 0 + i.toNat * 1 then 2 else c1 i b) (by omega) fun _ _ => rfl]
    refine tab_set (by omega) fun b hb => ?_
    simp only [c1]
    repeat' split
    all_goals omega
   dsimp only
   rw [e1]
   refine ⟨⟨i + 1, ?_, ⟨by omega, by omega⟩, by omega⟩⟩
   repeat' (first | exact SubBs_tab _ _ | exact True.intro | exact rfl | refine And.intro ?_ ?_)
 obtain rfl : i = 123 := by omega
 refine loop_upd tok {sym := [0], priv := [22]} [] (X := Int) (fun i => [(2, cB i)]) (fun i => [(0, .box (tabB (c2 i)) 50)]) [] (fun i => 48 ≤ i ∧ i ≤ 58) (fun i => (58 - i).toNat) 48 ?_
 ((conv => whnf); repeat' (refine vcC_go tok {sym := [0], priv := [22]} rfl ?_; conv => whnf))
 have e0 : c1 123 = c2 48 := by
  funext b
  simp only [c2]
  rw [if_neg (by omega)]
 rw [e0]
 refine And.intro ?_ ⟨⟨by omega, by omega⟩, fun i hΦ => ?_⟩
 · repeat' (first | exact SubBs_tab _ _ | exact True.intro | exact rfl | refine And.intro ?_ ?_)
 obtain ⟨hi1, hi2⟩ := hΦ
 ((conv => whnf); repeat' (refine vcC_go tok {sym := [0], priv := [22]} rfl ?_; conv => whnf))
 refine ⟨fun h1 => ?_, fun h1 => ?_⟩ <;> (try simp only [BL] at h1) <;> ((conv => whnf); repeat' (refine vcC_go tok {sym := [0], priv := [22]} rfl ?_; conv => whnf))
 · repeat' ((first | (intro hlq; (try simp only [SL] at hlq)) | refine Ka ?_ | refine Kb ?_ | refine Kc (hd := rfl) (e := ?_) | refine Kc (hd := icells_eq _) (e := ?_) | refine Kd (e := ?_) | refine Kl rfl ?_ | fail) <;> ((conv => whnf); repeat' (refine vcC_go tok {sym := [0], priv := [22]} rfl ?_; conv => whnf)))
   refine ⟨by dsimp only; rw [tab_len]; omega, ?_⟩
   ((conv => whnf); repeat' (refine vcC_go tok {sym := [0], priv := [22]} rfl ?_; conv => whnf))
   repeat' ((first | (intro hlq; (try simp only [SL] at hlq)) | refine Ka ?_ | refine Kb ?_ | refine Kc (hd := rfl) (e := ?_) | refine Kc (hd := icells_eq _) (e := ?_) | refine Kd (e := ?_) | refine Kl rfl ?_ | fail) <;> ((conv => whnf); repeat' (refine vcC_go tok {sym := [0], priv := [22]} rfl ?_; conv => whnf)))
   have e1 : (tabB (c2 i)).set (0 + i.toNat * 1) (cB 3) = tabB (c2 (i + 1)) := by
    refine tab_set (by omega) fun b hb => ?_
    simp only [c2]
    repeat' split
    all_goals omega
   dsimp only
   rw [e1]
   refine ⟨⟨i + 1, ?_, ⟨by omega, by omega⟩, by omega⟩⟩
   repeat' (first | exact SubBs_tab _ _ | exact True.intro | exact rfl | refine And.intro ?_ ?_)
 obtain rfl : i = 58 := by omega
 repeat' ((first | (intro hlq; (try simp only [SL] at hlq)) | refine Ka ?_ | refine Kb ?_ | refine Kc (hd := rfl) (e := ?_) | refine Kc (hd := icells_eq _) (e := ?_) | refine Kd (e := ?_) | refine Kl rfl ?_ | fail) <;> ((conv => whnf); repeat' (refine vcC_go tok {sym := [0], priv := [22]} rfl ?_; conv => whnf)))
 have hsg : ∀ x ∈ signs, 0 ≤ x ∧ x < 256 := by decide
 have hbl : ∀ x ∈ blanks, 0 ≤ x ∧ x < 256 := by decide
 refine loop_upd tok {sym := [0], priv := [22]} [] (X := Nat) (fun i => [(25, iB i)]) (fun i => [(0, .box (tabB (c3 (signs.take i))) 50)]) [] (fun i => i ≤ signs.length) (fun i => signs.length - i) 0 ?_
 ((conv => whnf); repeat' (refine vcC_go tok {sym := [0], priv := [22]} rfl ?_; conv => whnf))
 have e0 : c2 58 = c3 (signs.take 0) := by
  funext b
  simp only [c3, List.take_zero, List.not_mem_nil, if_false]
 rw [e0]
 refine And.intro ?_ ⟨by decide, fun k hk => ?_⟩
 · repeat' (first | exact SubBs_tab _ _ | exact True.intro | exact rfl | refine And.intro ?_ ?_)
 ((conv => whnf); repeat' (refine vcC_go tok {sym := [0], priv := [22]} rfl ?_; conv => whnf))
 refine ⟨fun h1 => ?_, fun h1 => ?_⟩ <;> (try simp only [BL] at h1) <;> ((conv => whnf); repeat' (refine vcC_go tok {sym := [0], priv := [22]} rfl ?_; conv => whnf))
 · have h1' : k < signs.length := by simp only [signs, List.length_cons, List.length_nil] at h1 ⊢; omega
   refine ⟨_, ⟨by omega, getD_at (xs := signs) (fun x => [cD x]) h1' rfl, rfl⟩, ?_⟩
   ((conv => whnf); repeat' (refine vcC_go tok {sym := [0], priv := [22]} rfl ?_; conv => whnf))
   have hb := hsg _ (List.getElem_mem h1')
   repeat' ((first | (intro hlq; (try simp only [SL] at hlq)) | refine Ka ?_ | refine Kb ?_ | refine Kc (hd := rfl) (e := ?_) | refine Kc (hd := icells_eq _) (e := ?_) | refine Kd (e := ?_) | refine Kl rfl ?_ | fail) <;> ((conv => whnf); repeat' (refine vcC_go tok {sym := [0], priv := [22]} rfl ?_; conv => whnf)))
   refine ⟨by dsimp only; rw [tab_len]; omega, ?_⟩
   ((conv => whnf); repeat' (refine vcC_go tok {sym := [0], priv := [22]} rfl ?_; conv => whnf))
   repeat' ((first | (intro hlq; (try simp only [SL] at hlq)) | refine Ka ?_ | refine Kb ?_ | refine Kc (hd := rfl) (e := ?_) | refine Kc (hd := icells_eq _) (e := ?_) | refine Kd (e := ?_) | refine Kl rfl ?_ | fail) <;> ((conv => whnf); repeat' (refine vcC_go tok {sym := [0], priv := [22]} rfl ?_; conv => whnf)))
   have e1 : (tabB (c3 (signs.take k))).set (0 + signs[k].toNat * 1) (cB 4) = tabB (c3 (signs.take (k + 1))) := by
    refine tab_set (by omega) fun b hb => ?_
    simp only [c3, mem_take_succ h1']
    by_cases e : b = 0 + signs[k].toNat * 1
    · rw [if_pos e, if_pos (.inr (by omega))]
    · rw [if_neg e]
      by_cases e2 : (b : Int) ∈ signs.take k
      · rw [if_pos e2, if_pos (.inl e2)]
      · rw [if_neg e2, if_neg (fun h => h.elim e2 fun h => e (by omega))]
   dsimp only
   rw [e1]
   refine ⟨⟨k + 1, ?_, by omega, by omega⟩⟩
   repeat' (first | exact SubBs_tab _ _ | exact True.intro | exact rfl | refine And.intro ?_ ?_)
 have hk2 : k = signs.length := by simp only [signs, List.length_cons, List.length_nil] at h1 hk ⊢; omega
 subst hk2
 repeat' ((first | (intro hlq; (try simp only [SL] at hlq)) | refine Ka ?_ | refine Kb ?_ | refine Kc (hd := rfl) (e := ?_) | refine Kc (hd := icells_eq _) (e := ?_) | refine Kd (e := ?_) | refine Kl rfl ?_ | fail) <;> ((conv => whnf); repeat' (refine vcC_go tok {sym := [0], priv := [22]} rfl ?_; conv => whnf)))
 refine loop_upd tok {sym := [0], priv := [22]} [] (X := Nat) (fun i => [(34, iB i)]) (fun i => [(0, .box (tabB (c4 (blanks.take i))) 50)]) [] (fun i => i ≤ blanks.length) (fun i => blanks.length - i) 0 ?_
 ((conv => whnf); repeat' (refine vcC_go tok {sym := [0], priv := [22]} rfl ?_; conv => whnf))
 have e0 : c3 (signs.take signs.length) = c4 (blanks.take 0) := by
  funext b
  simp only [c4, List.take_zero, List.not_mem_nil, if_false, List.take_length]
 rw [e0]
 refine And.intro ?_ ⟨by decide, fun k hk => ?_⟩
 · repeat' (first | exact SubBs_tab _ _ | exact True.intro | exact rfl | refine And.intro ?_ ?_)
 ((conv => whnf); repeat' (refine vcC_go tok {sym := [0], priv := [22]} rfl ?_; conv => whnf))
 refine ⟨fun h1 => ?_, fun h1 => ?_⟩ <;> (try simp only [BL] at h1) <;> ((conv => whnf); repeat' (refine vcC_go tok {sym := [0], priv := [22]} rfl ?_; conv => whnf))
 · have h1' : k < blanks.length := by simp only [blanks, List.length_cons, List.length_nil] at h1 ⊢; omega
   refine ⟨_, ⟨by omega, getD_at (xs := blanks) (fun x => [cD x]) h1' rfl, rfl⟩, ?_⟩
   ((conv => whnf); repeat' (refine vcC_go tok {sym := [0], priv := [22]} rfl ?_; conv => whnf))
   have hb := hbl _ (List.getElem_mem h1')
   repeat' ((first | (intro hlq; (try simp only [SL] at hlq)) | refine Ka ?_ | refine Kb ?_ | refine Kc (hd := rfl) (e := ?_) | refine Kc (hd := icells_eq _) (e := ?_) | refine Kd (e := ?_) | refine Kl rfl ?_ | fail) <;> ((conv => whnf); repeat' (refine vcC_go tok {sym := [0], priv := [22]} rfl ?_; conv => whnf)))
   refine ⟨by dsimp only; rw [tab_len]; omega, ?_⟩
   ((conv => whnf); repeat' (refine vcC_go tok {sym := [0], priv := [22]} rfl ?_; conv => whnf))
   repeat' ((first | (intro hlq; (try simp only [SL] at hlq)) | refine Ka ?_ | refine Kb ?_ | refine Kc (hd := rfl) (e := ?_) | refine Kc (hd := icells_eq _) (e := ?_) | refine Kd (e := ?_) | refine Kl rfl ?_ | fail) <;> ((conv => whnf); repeat' (refine vcC_go tok {sym := [0], priv := [22]} rfl ?_; conv => whnf)))
   have e1 : (tabB (c4 (blanks.take k))).set (0 + blanks[k].toNat * 1) (cB 1) = tabB (c4 (blanks.take (k + 1))) := by
    refine tab_set (by omega) fun b hb => ?_
    simp only [c4, mem_take_succ h1']
    by_cases e : b = 0 + blanks[k].toNat * 1
    · rw [if_pos e, if_pos (.inr (by omega))]
    · rw [if_neg e]
      by_cases e2 : (b : Int) ∈ blanks.take k
      · rw [if_pos e2, if_pos (.inl e2)]
      · rw [if_neg e2, if_neg (fun h => h.elim e2 fun h => e (by omega))]
   dsimp only
   rw [e1]
   refine ⟨⟨k + 1, ?_, by omega, by omega⟩⟩
   repeat' (first | exact SubBs_tab _ _ | exact True.intro | exact rfl | refine And.intro ?_ ?_)
 have hk2 : k = blanks.length := by simp only [blanks, List.length_cons, List.length_nil] at h1 hk ⊢; omega
 subst hk2
 have e1 : c4 (blanks.take blanks.length) = cls := by rw [List.take_length]; rfl
 rw [e1]
 refine ⟨tabD cls, ⟨tab_whole _ _, tabD_len _⟩, ?_⟩
 ((conv => whnf); repeat' (refine vcC_go tok {sym := [0], priv := [22]} rfl ?_; conv => whnf))
 show 0 + (tabB cls).length ≤ (tabB cls).length ∧ setO _ (Blk.box (setRun (tabB cls) 0 (tabB cls)) 50) _ _
 rw [setRun_self]
 refine ⟨by omega, ?_⟩
 ((conv => whnf); repeat' (refine vcC_go tok {sym := [0], priv := [22]} rfl ?_; conv => whnf))
 refine ⟨tabD cls, ⟨tab_whole _ _, tabD_len _⟩, ?_⟩
 ((conv => whnf); repeat' (refine vcC_go tok {sym := [0], priv := [22]} rfl ?_; conv => whnf))
 exact ⟨rfl⟩
theorem setRun_whole {α : Type} {l m : List α} (h : l.length = m.length) : setRun l 0 m = m := by
 apply List.ext_getElem?
 intro j
 rw [setRun_get m l 0 j (by omega)]
 split
 · simp
 · rw [List.getElem?_eq_none (by omega), List.getElem?_eq_none (by omega)]
def wordCh (b : UInt8) : Bool := decide (cls b.toNat = 2) || (decide (cls b.toNat = 3) || decide ((b.toNat : Int) = 95))
def wordFst (s : List UInt8) : Bool := match s with | [] => false | b :: _ => decide (cls b.toNat = 2)
theorem wordFst_eq {s : List UInt8} (h : 0 < s.length) : wordFst s = decide (cls s[0].toNat = 2) := by
 cases s with
 | nil => simp at h
 | cons b r => rfl
def isWd (s : List UInt8) : Bool := wordFst s && s.all wordCh
theorem isWord_meets (s : List UInt8) : Meets Tryz.prog 31 [.str s] fun d => d = bD (isWd s) := by
 refine enter tok {sym := [3]} Tryz.func31 rfl (by kernel_rfl) Tryz.ntmps31 (by simp) fun B0 W0 V0 lent g0 => ?_
 ((conv => whnf); repeat' (refine vcC_go tok {sym := [3]} rfl ?_; conv => whnf))
 refine Meets.k classes_meets ?_
 ((conv => whnf); repeat' (refine vcC_go tok {sym := [3]} rfl ?_; conv => whnf))
 show 0 + (tabB cls).length ≤ _ ∧ setO _ (Blk.box (setRun _ 0 (tabB cls)) 50) _ _
 refine ⟨by rw [tab_len]; decide, ?_⟩
 rw [setRun_whole (by rw [tab_len]; rfl)]
 ((conv => whnf); repeat' (refine vcC_go tok {sym := [3]} rfl ?_; conv => whnf))
 repeat' ((first | (intro hlq; (try simp only [SL] at hlq)) | refine Ka ?_ | refine Kb ?_ | refine Kc (hd := rfl) (e := ?_) | refine Kc (hd := icells_eq _) (e := ?_) | refine Kd (e := ?_) | refine Kl rfl ?_ | fail) <;> ((conv => whnf); repeat' (refine vcC_go tok {sym := [3]} rfl ?_; conv => whnf)))
 refine loop_upd tok {sym := [3]} [] (X := Nat) (fun i => [(9, iB i)]) (fun _ => []) [] (fun i => i ≤ s.length ∧ (∀ x ∈ s.take i, wordCh x = true) ∧ (0 < i → wordFst s = true)) (fun i => s.length - i) 0 ?_
 ((conv => whnf); repeat' (refine vcC_go tok {sym := [3]} rfl ?_; conv => whnf))
 refine And.intro ?_ ⟨⟨by omega, by simp, by omega⟩, fun i hΦ => ?_⟩
 · repeat' (first | exact SubBs_tab _ _ | exact True.intro | exact rfl | refine And.intro ?_ ?_)
 obtain ⟨hi, hp, hf⟩ := hΦ
 ((conv => whnf); repeat' (refine vcC_go tok {sym := [3]} rfl ?_; conv => whnf))
 refine ⟨fun h1 => ?_, fun h1 => ?_⟩ <;> (try simp only [BL] at h1) <;> ((conv => whnf); repeat' (refine vcC_go tok {sym := [3]} rfl ?_; conv => whnf))
 · have h1' : i < s.length := by omega
   have hpos : 0 < s.length := by omega
   have hb := s[i].toNat_lt
   repeat' ((first | (intro hlq; (try simp only [SL] at hlq)) | refine Ka ?_ | refine Kb ?_ | refine Kc (hd := rfl) (e := ?_) | refine Kc (hd := icells_eq _) (e := ?_) | refine Kd (e := ?_) | refine Kl rfl ?_ | fail) <;> ((conv => whnf); repeat' (refine vcC_go tok {sym := [3]} rfl ?_; conv => whnf)))
   refine ⟨_, tab_get cls (i := 0 + ((s[i].toNat : Int)).toNat * 1) (by omega), ?_⟩
   rw [show 0 + ((s[i].toNat : Int)).toNat * 1 = s[i].toNat by omega]
   ((conv => whnf); repeat' (refine vcC_go tok {sym := [3]} rfl ?_; conv => whnf))
   repeat' ((first | (intro hlq; (try simp only [SL] at hlq)) | ((refine Kh (fun hb => ?_) fun hb => ?_) <;> (try simp only [BL] at hb)) | refine Ka ?_ | refine Kb ?_ | refine Kc (hd := rfl) (e := ?_) | refine Kc (hd := icells_eq _) (e := ?_) | refine Kd (e := ?_) | refine Kl rfl ?_ | fail) <;> ((conv => whnf); repeat' (refine vcC_go tok {sym := [3]} rfl ?_; conv => whnf)))
   all_goals first
    | (refine ⟨congrArg bD ?_⟩
       have hc : wordCh s[i] = false := by
        simp only [wordCh, Bool.or_eq_false_iff, decide_eq_false_iff_not]; omega
       simp only [isWd, all_false (List.getElem_mem h1') hc, Bool.and_false]
       done)
    | (refine ⟨congrArg bD ?_⟩
       obtain rfl : i = 0 := by omega
       rw [isWd, wordFst_eq hpos, decide_eq_false (by omega)]
       rfl)
    | (refine ⟨⟨i + 1, ?_, ⟨by omega, take_snoc h1' hp ?_, fun _ => ?_⟩, by omega⟩⟩
       · repeat' (first | exact SubBs_tab _ _ | exact True.intro | exact rfl | refine And.intro ?_ ?_)
       · simp only [wordCh, Bool.or_eq_true, decide_eq_true_eq]; omega
       · by_cases e : i = 0
         · subst e
           rw [wordFst_eq hpos, decide_eq_true_eq]; omega
         · exact hf (by omega))
 · skip
   refine ⟨congrArg bD ?_⟩
   rw [isWd, all_true (by omega) hp, Bool.and_true]
   cases s with
   | nil => rfl
   | cons b r =>
     simp only [List.length_cons] at h1 hi
     rw [hf (by omega)]
     rfl
theorem SContains_meets (s t : List UInt8) (hs : s.length < 4294967281) : Meets Tryz.prog 43 [.str s, .str t] fun d => d = bD (Lib.contains s t) := by
 refine Meets.still ⟨Tryz.f43, _, Tryz.func43, rfl, by kernel_rfl⟩ fun V W xs hS hx => ?_
 obtain ⟨u, w, rfl, h1, h2⟩ := hx.two
 obtain ⟨rfl, _⟩ := h1.str_inv
 obtain ⟨rfl, _⟩ := h2.str_inv
 obtain ⟨m, hm⟩ := hS.lib.maxLen
 refine (Tryz.strings_Contains ⟨⟨s⟩⟩ ⟨⟨t⟩⟩ m W hs (hS.cell _ _ _ hm)).mono ?_
 rintro e W' ⟨rfl, rfl⟩
 exact ⟨_, rfl, rfl, .b _⟩
/-! the keywords, in one text -/
def flat (ws : List (List UInt8)) : List UInt8 := 32 :: ws.flatMap (· ++ [32])
theorem contains_iff (s t : List UInt8) : Lib.contains s t = true ↔ t <:+: s := by
 rw [Lib.contains, decide_eq_true_eq]
 constructor
 · intro h
   rcases Lib.index_spec s t with ⟨h1, _⟩ | ⟨i, h1, h2, h3, _⟩
   · omega
   · exact (List.isPrefixOf_iff_prefix.1 h3).isInfix.trans (List.drop_suffix i s).isInfix
 · rintro ⟨a, b, rfl⟩
   rcases Lib.index_spec (a ++ t ++ b) t with ⟨h1, h2⟩ | ⟨i, h1, _⟩
   · have := h2 a.length (by simp)
     rw [Lib.occAt, List.append_assoc, List.drop_left] at this
     rw [List.isPrefixOf_iff_prefix.2 (List.prefix_append t b)] at this
     cases this
   · omega
theorem pre_eq : ∀ {w x r : List UInt8}, (32 : UInt8) ∉ w → (32 : UInt8) ∉ x → (w ++ [32] <+: x ++ 32 :: r ↔ w = x)
 | [], [], r, _, _ => by simp
 | [], b :: x, r, _, hx => by
   simp only [List.nil_append, List.cons_append, List.cons_prefix_cons, List.nil_prefix, and_true]
   constructor
   · intro h; exact absurd (h ▸ List.mem_cons_self ..) hx
   · intro h; cases h
 | a :: w, [], r, hw, _ => by
   simp only [List.nil_append, List.cons_append, List.cons_prefix_cons]
   constructor
   · rintro ⟨h, _⟩; exact absurd (h ▸ List.mem_cons_self ..) hw
   · intro h; cases h
 | a :: w, b :: x, r, hw, hx => by
   simp only [List.cons_append, List.cons_prefix_cons, List.cons.injEq]
   rw [pre_eq (fun h => hw (List.mem_cons_of_mem _ h)) (fun h => hx (List.mem_cons_of_mem _ h))]
theorem infix_skip {p t : List UInt8} : ∀ {x : List UInt8}, (32 : UInt8) ∉ x → (32 :: p <:+: x ++ t ↔ 32 :: p <:+: t)
 | [], _ => by simp
 | b :: x, hx => by
   rw [List.cons_append, List.infix_cons_iff, infix_skip fun h => hx (List.mem_cons_of_mem _ h)]
   constructor
   · rintro (h | h)
     · rw [List.cons_prefix_cons] at h
       exact absurd (h.1 ▸ List.mem_cons_self ..) hx
     · exact h
   · exact .inr
theorem flat_iff {w : List UInt8} (hw : (32 : UInt8) ∉ w) : ∀ {ws : List (List UInt8)}, (∀ x ∈ ws, (32 : UInt8) ∉ x) → (32 :: (w ++ [32]) <:+: flat ws ↔ w ∈ ws)
 | [], _ => by
   simp only [flat, List.flatMap_nil, List.not_mem_nil, iff_false]
   intro h
   have := h.length_le
   simp at this
 | x :: ws, h => by
   have ih := flat_iff hw (ws := ws) fun y hy => h y (List.mem_cons_of_mem _ hy)
   have hx := h x (List.mem_cons_self ..)
   have e : flat (x :: ws) = 32 :: (x ++ flat ws) := by simp [flat]
   rw [e, List.infix_cons_iff, infix_skip hx, ih, List.cons_prefix_cons, List.mem_cons]
   rw [show x ++ flat ws = x ++ 32 :: ws.flatMap (· ++ [32]) from rfl, pre_eq hw hx]
   simp
theorem wd_no {s : List UInt8} (h : isWd s = true) : (32 : UInt8) ∉ s := by
 intro hm
 rw [isWd, Bool.and_eq_true, List.all_eq_true] at h
 exact absurd (h.2 _ hm) (by decide)
theorem kw_wd : ∀ s ∈ words, isWd s = true := by decide
theorem kw_no : ∀ s ∈ words, (32 : UInt8) ∉ s := by decide
theorem kw_flat {s : List UInt8} (h : isWd s = true) : Lib.contains (flat words) ([32] ++ s ++ [32]) = kw s := by
 rw [Bool.eq_iff_iff, contains_iff, List.append_assoc, show [32] ++ (s ++ [32]) = 32 :: (s ++ [32]) from rfl, flat_iff (wd_no h) kw_no, kw, List.contains_iff_mem]
theorem kw_not {s : List UInt8} (h : isWd s = false) : kw s = false := by
 rw [kw, Bool.eq_false_iff]
 intro hm
 rw [kw_wd s (List.contains_iff_mem.1 hm)] at h
 cases h
theorem Keyword_meets (s : List UInt8) (hs : s.length ≤ 1048576) : Meets Tryz.prog 19 [.str s] fun d => d = bD (kw s) := by
 refine enter tok {} Tryz.func19 rfl (by kernel_rfl) Tryz.ntmps19 (by simp) fun B0 W0 V0 lent g0 => ?_
 ((conv => whnf); repeat' (refine Z rfl ?_; conv => whnf))
 repeat' ((first | (intro hlq; (try simp only [SL] at hlq)) | refine Meets.k (isWord_meets _) ?_ | ((refine Kh (fun hb => ?_) fun hb => ?_) <;> (try simp only [BL] at hb)) | refine Ka ?_ | refine Kb ?_ | refine Kc (hd := rfl) (e := ?_) | refine Kc (hd := icells_eq _) (e := ?_) | refine Kd (e := ?_) | refine Kl rfl ?_ | fail) <;> ((conv => whnf); repeat' (refine Z rfl ?_; conv => whnf)))
 · refine ⟨fun _ _ => by simp [maxLen]; omega, ?_⟩
   ((conv => whnf); repeat' (refine Z rfl ?_; conv => whnf))
   refine ⟨fun _ _ => by simp [maxLen]; omega, ?_⟩
   ((conv => whnf); repeat' (refine Z rfl ?_; conv => whnf))
   refine Meets.k (SContains_meets (flat words) ([32] ++ s ++ [32]) (by decide)) ?_
   ((conv => whnf); repeat' (refine Z rfl ?_; conv => whnf))
   refine ⟨congrArg bD ?_⟩
   exact kw_flat (by assumption)
 · refine ⟨congrArg bD ?_⟩
   exact (kw_not (by assumption)).symm
end Go.Proofs.YtedjnaggkakphaaGreatDoor.Dx
