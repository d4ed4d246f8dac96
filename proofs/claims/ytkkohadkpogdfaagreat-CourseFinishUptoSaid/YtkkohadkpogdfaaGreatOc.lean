/- course.find, course.build: the route of a distance with its penalty laps. -/
import Derived.Test.YtkkohadkpogdfaaGreatOb
import Derived.Test.YtkkohadkpogdfaaGreatNb
namespace Go.Proofs.YtkkohadkpogdfaaGreat.Dx
open Go Go.RowKit
set_option linter.all false
set_option maxRecDepth 100000
set_option maxHeartbeats 16000000

/-! ### the place behind a mat's last occurrence -/

def lastN : List Int → Int → Nat
  | [], _ => 0
  | x :: t, e => if lastN t e > 0 then lastN t e + 1 else if x = e then 1 else 0
theorem lastN_le (e : Int) : ∀ m : List Int, lastN m e ≤ m.length
  | [] => Nat.le_refl _
  | x :: t => by
    have := lastN_le e t
    rw [lastN, List.length_cons]
    split
    · omega
    · split <;> omega
theorem lastN_get (e : Int) : ∀ m : List Int, 0 < lastN m e → m[lastN m e - 1]? = some e
  | [], h => by simp [lastN] at h
  | x :: t, h => by
    rw [lastN] at h ⊢
    by_cases h1 : lastN t e > 0
    · rw [if_pos h1, show lastN t e + 1 - 1 = (lastN t e - 1) + 1 by omega, List.getElem?_cons_succ]
      exact lastN_get e t h1
    · rw [if_neg h1] at h ⊢
      by_cases h2 : x = e
      · rw [if_pos h2]; simp [h2]
      · rw [if_neg h2] at h; omega
theorem lastN_ge (e : Int) : ∀ (m : List Int) (a : Nat), m[a]? = some e → a < lastN m e
  | [], a, h => by simp at h
  | x :: t, 0, h => by
    have h2 : x = e := by simpa using h
    rw [lastN]
    rw [if_pos h2]
    split <;> omega
  | x :: t, a + 1, h => by
    have := lastN_ge e t a (by simpa using h)
    rw [lastN, if_pos (by omega)]
    omega
theorem lastN_eq {m : List Int} {e : Int} {a : Nat} (h : m[a]? = some e) (hn : lastN m e ≤ a + 1) : lastN m e = a + 1 := by
  have := lastN_ge e m a h
  omega
theorem lastN_snoc (t : List Int) (y e : Int) : lastN (t ++ [y]) e = if y = e then t.length + 1 else lastN t e := by
  split
  · rename_i h
    have h1 := lastN_ge e (t ++ [y]) t.length (by simp [h])
    have h2 := lastN_le e (t ++ [y])
    simp at h2
    omega
  · rename_i h
    have hle := lastN_le e t
    by_cases h0 : 0 < lastN t e
    · have h1 := lastN_ge e (t ++ [y]) (lastN t e - 1) (by rw [List.getElem?_append_left (by omega)]; exact lastN_get e t h0)
      by_cases h2 : lastN (t ++ [y]) e = lastN t e
      · exact h2
      · exfalso
        have h3 := lastN_get e (t ++ [y]) (by omega)
        have h4 := lastN_le e (t ++ [y])
        simp at h4
        by_cases h5 : lastN (t ++ [y]) e - 1 < t.length
        · rw [List.getElem?_append_left h5] at h3
          have := lastN_ge e t _ h3
          omega
        · rw [List.getElem?_append_right (by omega), show lastN (t ++ [y]) e - 1 - t.length = 0 by omega] at h3
          simp at h3
          exact h h3
    · by_cases h2 : lastN (t ++ [y]) e = lastN t e
      · exact h2
      · exfalso
        have h3 := lastN_get e (t ++ [y]) (by omega)
        have h4 := lastN_le e (t ++ [y])
        simp at h4
        by_cases h5 : lastN (t ++ [y]) e - 1 < t.length
        · rw [List.getElem?_append_left h5] at h3
          have := lastN_ge e t _ h3
          omega
        · rw [List.getElem?_append_right (by omega), show lastN (t ++ [y]) e - 1 - t.length = 0 by omega] at h3
          simp at h3
          exact h h3

/-! ### what find and build answer -/

def findE (c : Course) (d : Int) : Int := if courseE c ≠ 0 then courseE c else if d < 0 ∨ d ≥ c.distances.length then 90 else 0
def findD (c : Course) (d : Int) : Distance := if findE c d = 0 then c.distances.getD d.toNat ⟨[], [], 0, [], 0⟩ else ⟨[], [], 0, [], 0⟩
def mats0 (c : Course) (d : Int) : List Int := Part.fullL (findD c d).route
def buildE (c : Course) (d x : Int) : Int :=
  if findE c d ≠ 0 then findE c d else if x < 0 ∨ (x > 0 ∧ (findD c d).extra < 0) then 90 else if x > 256 - ((mats0 c d).length : Int) then 2 else 0
def insL (m : List Int) (e : Int) (n : Nat) : List Int := m.take (lastN m e) ++ (List.replicate n e ++ m.drop (lastN m e))
def matsX (c : Course) (d x : Int) : List Int := if x > 0 then insL (mats0 c d) (findD c d).extra x.toNat else mats0 c d
def buildM (c : Course) (d x : Int) : List Int :=
  if findE c d ≠ 0 then [] else if x < 0 ∨ (x > 0 ∧ (findD c d).extra < 0) then [] else if x > 256 - ((mats0 c d).length : Int) then mats0 c d else matsX c d x
noncomputable def legML (l : List Leg) : List (D × D) := l.foldl (fun m x => mput m x.key x.d) []
theorem legML_snoc (l : List Leg) (x : Leg) : legML (l ++ [x]) = mput (legML l) x.key x.d := by simp [legML]
noncomputable def buildL (c : Course) (d x : Int) : List (D × D) := if buildE c d x = 0 then legML c.legs else []
noncomputable abbrev pathD (m : List Int) (l : List (D × D)) : D := .agg [.sl (m.map icells), .mp l]

theorem findE_zero {c : Course} {d : Int} (h : findE c d = 0) : courseE c = 0 ∧ 0 ≤ d ∧ d < c.distances.length := by
  rw [findE] at h
  split at h
  · rename_i h1; exact absurd h h1
  · rename_i h1
    split at h
    · omega
    · exact ⟨Decidable.not_not.1 h1, by omega, by omega⟩
theorem findD_at {c : Course} {d : Int} (h : findE c d = 0) : ∃ hd : d.toNat < c.distances.length, findD c d = c.distances[d.toNat] := by
  obtain ⟨_, h1, h2⟩ := findE_zero h
  refine ⟨by omega, ?_⟩
  rw [findD, if_pos h, List.getD_eq_getElem?_getD, List.getElem?_eq_getElem (by omega)]; rfl

theorem getZ_at {α : Type} {xs : List α} (f : α → List D) {d : Int} (h : d.toNat < xs.length) {ds : List D} (hd : f xs[d.toNat] = ds) : (xs.map f)[d.toNat]? = some ds := by
  rw [List.getElem?_map, List.getElem?_eq_getElem h, Option.map_some, hd]

theorem find_meets (c : Course) (hc : c.small) (d : Int) : Meets Tryz.prog 45 [c.d, iD d] fun r => r = .tup [(findD c d).d, iD (findE c d)] := by
  refine enter tok {} Tryz.func45 rfl (by kernel_rfl) Tryz.ntmps45 (by simp) fun B0 W0 V0 lent g0 => ?_
  ((conv => whnf); repeat' (refine vcC_go tok {} rfl ?_; conv => whnf))
  repeat' ((first | (intro hlq; (try simp only [List.length_map, maxLen] at hlq)) | refine Meets.k (Course_meets c hc) ?_ | ((refine ⟨fun (hb : _ = true) => ?_, fun (hb : _ = false) => ?_⟩) <;> (try simp only [BB, List.length_map] at hb)) | refine Ka ?_ | refine Kb ?_ | refine Kc (hd := rfl) (e := ?_) | refine Kc (hd := Cond.cells_eq _) (e := ?_) | refine Kd (e := ?_) | refine ⟨(rfl : look _ _ = look _ _), ?_⟩ | fail) <;> ((conv => whnf); repeat' (refine vcC_go tok {} rfl ?_; conv => whnf)))
  · have h : findE c d ≠ 0 := by rw [findE, if_pos (by assumption)]; assumption
    have h2 : findE c d = courseE c := by rw [findE, if_pos (by assumption)]
    exact ⟨by rw [findD, if_neg h, h2]; rfl⟩
  · have h2 : findE c d = 90 := by rw [findE, if_neg (by assumption), if_pos (.inl (by assumption))]
    exact ⟨by rw [findD, if_neg (by rw [h2]; decide), h2]; rfl⟩
  · have h2 : findE c d = 90 := by rw [findE, if_neg (by assumption), if_pos (.inr (by assumption))]
    exact ⟨by rw [findD, if_neg (by rw [h2]; decide), h2]; rfl⟩
  have h2 : findE c d = 0 := by rw [findE, if_neg (by assumption), if_neg (by omega)]
  obtain ⟨hlt, hD⟩ := findD_at h2
  refine ⟨_, ⟨by omega, getZ_at _ hlt (Distance.cells_eq _), rfl⟩, ?_⟩
  ((conv => whnf); repeat' (refine vcC_go tok {} rfl ?_; conv => whnf))
  repeat' ((first | (intro hlq; (try simp only [List.length_map, maxLen] at hlq)) | refine Ka ?_ | refine Kb ?_ | refine Kc (hd := rfl) (e := ?_) | refine Kc (hd := Cond.cells_eq _) (e := ?_) | refine Kd (e := ?_) | refine ⟨(rfl : look _ _ = look _ _), ?_⟩ | fail) <;> ((conv => whnf); repeat' (refine vcC_go tok {} rfl ?_; conv => whnf)))
  exact ⟨by rw [hD, h2]⟩

theorem courseE_zero {c : Course} (h : courseE c = 0) : NumsOk c ∧ ∀ d ∈ c.distances, routeOk c d = true := by
  rw [courseE] at h
  split at h
  · omega
  · split at h
    · omega
    · split at h
      · omega
      · rename_i h3
        refine ⟨(nums_iff c).1 (by simpa using h3), ?_⟩
        split at h
        · split at h
          · rename_i h5; exact List.all_eq_true.1 h5
          · omega
        · rename_i h4; exact absurd h h4

structure Valid (c : Course) (d : Int) : Prop where
  zero : findE c d = 0
  mem : findD c d ∈ c.distances
  nums : NumsOk c
  good : ∀ p ∈ (findD c d).route, p.good c.m = true
  route : routeOk c (findD c d) = true
  ex : Part.exL (findD c d).route [] = mats0 c d
  ge : 2 ≤ (mats0 c d).length
  le : (mats0 c d).length ≤ 256
theorem valid_of {c : Course} {d : Int} (h : findE c d = 0) : Valid c d := by
  obtain ⟨h1, h2⟩ := courseE_zero (findE_zero h).1
  obtain ⟨hlt, hD⟩ := findD_at h
  have hm : findD c d ∈ c.distances := by rw [hD]; exact List.getElem_mem hlt
  have hr := h2 _ hm
  have hr' := hr
  simp only [routeOk, Bool.and_eq_true, decide_eq_true_eq] at hr'
  have he := exL_small (findD c d).route [] hr'.1.2
  rw [List.nil_append] at he
  have hg := h1.distances _ hm
  simp only [Distance.good, Bool.and_eq_true, List.all_eq_true] at hg
  exact ⟨h, hm, h1, hg.2.2.1, hr, he, by have := hr'.1.1; rw [he] at this; exact this, by have := hr'.1.2; rw [he] at this; exact this⟩
theorem Valid.extra {c : Course} {d : Int} (h : Valid c d) (hx : 0 ≤ (findD c d).extra) : 0 < lastN (mats0 c d) (findD c d).extra ∧ lastN (mats0 c d) (findD c d).extra < (mats0 c d).length := by
  have hr := h.route
  simp only [routeOk, Bool.and_eq_true, h.ex, extraOk, Bool.or_eq_true, decide_eq_true_eq, List.all_eq_true, List.mem_range] at hr
  obtain ⟨_, hp, he, _⟩ := hr
  rcases he with he | ⟨he, hk, _⟩
  · omega
  have hmem := List.count_pos_iff.1 he
  obtain ⟨a, ha⟩ := List.getElem?_of_mem hmem
  have hge := lastN_ge _ _ _ ha
  have hle := lastN_le (findD c d).extra (mats0 c d)
  refine ⟨by omega, ?_⟩
  by_cases e : lastN (mats0 c d) (findD c d).extra = (mats0 c d).length
  · exfalso
    have hg := lastN_get _ _ (show 0 < lastN (mats0 c d) (findD c d).extra by omega)
    have h2 := h.ge
    have := hp ((mats0 c d).length - 1) (by omega)
    rw [e] at hg
    simp only [posOk, Bool.and_eq_true, decide_eq_true_eq, List.getD_eq_getElem?_getD, hg, Option.getD_some] at this
    rw [if_neg (by omega), if_pos (by omega)] at this
    omega
  · omega

theorem legML_keys' : ∀ (l : List Leg) (m : List (D × D)), (∀ p ∈ m, KInts 2 p.1) → ∀ p ∈ l.foldl (fun m x => mput m x.key x.d) m, KInts 2 p.1
  | [], _, h => h
  | x :: l, m, h => legML_keys' l _ fun p hp => by
    rcases (mput_keys.2 p.1).1 (List.mem_map.2 ⟨p, hp, rfl⟩) with h1 | h1
    · obtain ⟨q, hq, e⟩ := List.mem_map.1 h1
      rw [← e]; exact h q hq
    · rw [h1]; exact ⟨[x.src, x.dst], rfl, rfl⟩
theorem legML_keys (l : List Leg) : ∀ p ∈ legML l, KInts 2 p.1 := legML_keys' l [] (fun p h => by cases h)

theorem build_meets (c : Course) (hc : c.small) (d x : Int) : Meets Tryz.prog 26 [c.d, iD d, iD x] fun r => r = .tup [pathD (buildM c d x) (buildL c d x), iD (buildE c d x)] := by
  refine enter tok {rs := [36, 73, 74]} Tryz.func26 rfl (by kernel_rfl) Tryz.ntmps26 (by simp) fun B0 W0 V0 lent g0 => ?_
  ((conv => whnf); repeat' ((fail_if_success (refine J_at 8 ?_)); (fail_if_success (refine J_at 20 ?_)); refine vcC_go tok {rs := [36, 73, 74]} rfl ?_; conv => whnf))
  repeat' ((first | (intro hlq; (try simp only [List.length_map, maxLen] at hlq)) | refine Meets.k (find_meets c hc d) ?_ | ((refine ⟨fun (hb : _ = true) => ?_, fun (hb : _ = false) => ?_⟩) <;> (try simp only [BB, List.length_map] at hb)) | refine Ka ?_ | refine Kb ?_ | refine Kc (hd := rfl) (e := ?_) | refine Kc (hd := Cond.cells_eq _) (e := ?_) | refine Kd (e := ?_) | refine ⟨(rfl : look _ _ = look _ _), ?_⟩ | fail) <;> ((conv => whnf); repeat' ((fail_if_success (refine J_at 8 ?_)); (fail_if_success (refine J_at 20 ?_)); refine vcC_go tok {rs := [36, 73, 74]} rfl ?_; conv => whnf)))
  · have e : buildE c d x = findE c d := by rw [buildE, if_pos (by assumption)]
    exact ⟨by rw [buildL, if_neg (by rw [e]; assumption), e, buildM, if_pos (by assumption)]; rfl⟩
  · have e : buildE c d x = 90 := by rw [buildE, if_neg (by assumption), if_pos (.inl (by assumption))]
    exact ⟨by rw [buildL, if_neg (by rw [e]; decide), e, buildM, if_neg (by assumption), if_pos (.inl (by assumption))]; rfl⟩
  · have e : buildE c d x = 90 := by rw [buildE, if_neg (by assumption), if_pos (.inr ⟨by assumption, by assumption⟩)]
    exact ⟨by rw [buildL, if_neg (by rw [e]; decide), e, buildM, if_neg (by assumption), if_pos (.inr ⟨by assumption, by assumption⟩)]; rfl⟩
  all_goals
    have hz : findE c d = 0 := Decidable.not_not.1 (by assumption)
    have hv := valid_of hz
    have hx0 : ¬ (x < 0 ∨ (x > 0 ∧ (findD c d).extra < 0)) := by omega
    refine ⟨[], [.d (.sl ((findD c d).route.map Part.cells))], ⟨?_, ?_⟩, (expand_own c.m (findD c d).route hv.good (by have := hv.le; simp only [mats0] at this; omega)).mono ?_⟩
    · repeat' (first | exact True.intro | exact rfl | refine And.intro ?_ ?_)
    · repeat' (first | exact True.intro | exact rfl | refine And.intro ?_ ?_)
    rintro o O' ⟨rfl, rfl⟩
    rw [show Part.fullL (findD c d).route = mats0 c d from rfl]
    have hle := hv.le
    ((conv => whnf); repeat' ((fail_if_success (refine J_at 8 ?_)); (fail_if_success (refine J_at 20 ?_)); refine vcC_go tok {rs := [36, 73, 74]} rfl ?_; conv => whnf))
  all_goals
    repeat' ((first | (intro hlq; (try simp only [List.length_map, maxLen] at hlq)) | ((refine ⟨fun (hb : _ = true) => ?_, fun (hb : _ = false) => ?_⟩) <;> (try simp only [BB, List.length_map] at hb)) | refine Ka ?_ | refine Kb ?_ | refine Kc (hd := rfl) (e := ?_) | refine Kc (hd := Cond.cells_eq _) (e := ?_) | refine Kd (e := ?_) | refine ⟨(rfl : look _ _ = look _ _), ?_⟩ | fail) <;> ((conv => whnf); repeat' ((fail_if_success (refine J_at 8 ?_)); (fail_if_success (refine J_at 20 ?_)); refine vcC_go tok {rs := [36, 73, 74]} rfl ?_; conv => whnf)))
  all_goals (try (exfalso; omega))
  · have e : buildE c d x = 2 := by rw [buildE, if_neg (by assumption), if_neg hx0, if_pos (by assumption)]
    refine J_frz [1002] ?_
    ((conv => whnf); repeat' (refine vcC_go tok {rs := [36, 73, 74]} rfl ?_; conv => whnf))
    exact ⟨by rw [buildL, if_neg (by rw [e]; decide), e, buildM, if_neg (by assumption), if_neg hx0, if_pos (by assumption)]⟩
  focus
    refine loop_upd tok {rs := [36, 73, 74]} [] (X := Int) (fun a => [(9, iB a)]) (fun _ => []) [] (fun a => 0 ≤ a ∧ a < (mats0 c d).length ∧ lastN (mats0 c d) (findD c d).extra ≤ a.toNat + 1) (fun a => a.toNat) ((((mats0 c d).map icells).length : Int) - 1) ?_
    ((conv => whnf); repeat' (refine vcC_go tok {rs := [36, 73, 74]} rfl ?_; conv => whnf))
    have hge := hv.ge
    have hln := lastN_le (findD c d).extra (mats0 c d)
    have hlm : ((mats0 c d).map icells).length = (mats0 c d).length := List.length_map ..
    refine And.intro ?_ ⟨⟨by omega, by omega, by omega⟩, fun a ha => ?_⟩
    · repeat' (first | exact True.intro | exact rfl | refine And.intro ?_ ?_)
    obtain ⟨ha0, hal, hal2⟩ := ha
    obtain ⟨a, rfl⟩ := Int.eq_ofNat_of_zero_le ha0
    rw [Int.toNat_natCast] at hal2
    have hex := hv.extra (by omega)
    ((conv => whnf); repeat' (refine vcC_go tok {rs := [36, 73, 74]} rfl ?_; conv => whnf))
    refine draw_rule tok (cf := {rs := [36, 73, 74]}) (by kernel_rfl) [.p 0, .p 1, .p 2, .p 3, .p 4, .p 5, .p 6, .p 7, .p 8, .p 9, .p 10, .p 11] (by kernel_rfl) ?_
    ((conv => whnf); repeat' (refine vcC_go tok {rs := [36, 73, 74]} rfl ?_; conv => whnf))
    repeat' ((first | (intro hlq; (try simp only [List.length_map, maxLen] at hlq)) | ((refine ⟨fun (hb : _ = true) => ?_, fun (hb : _ = false) => ?_⟩) <;> (try simp only [BB, List.length_map] at hb)) | refine Ka ?_ | refine Kb ?_ | refine Kc (hd := rfl) (e := ?_) | refine Kc (hd := Cond.cells_eq _) (e := ?_) | refine Kd (e := ?_) | refine ⟨(rfl : look _ _ = look _ _), ?_⟩ | fail) <;> ((conv => whnf); repeat' (refine vcC_go tok {rs := [36, 73, 74]} rfl ?_; conv => whnf)))
    focus
      refine ⟨⟨by omega, by dsimp only; omega, rfl⟩, ?_⟩
      ((conv => whnf); repeat' (refine vcC_go tok {rs := [36, 73, 74]} rfl ?_; conv => whnf))
      refine ⟨_, ⟨getZ_at icells (by omega) rfl, rfl⟩, ?_⟩
      ((conv => whnf); repeat' (refine vcC_go tok {rs := [36, 73, 74]} rfl ?_; conv => whnf))
      repeat' (first | (refine ⟨(rfl : look _ _ = look _ _), ?_⟩; ((conv => whnf); repeat' (refine vcC_go tok {rs := [36, 73, 74]} rfl ?_; conv => whnf))) | fail)
      repeat' ((first | (intro hlq; (try simp only [List.length_map, maxLen] at hlq)) | ((refine ⟨fun (hb : _ = true) => ?_, fun (hb : _ = false) => ?_⟩) <;> (try simp only [BB, List.length_map] at hb)) | refine Ka ?_ | refine Kb ?_ | refine Kc (hd := rfl) (e := ?_) | refine Kc (hd := Cond.cells_eq _) (e := ?_) | refine Kd (e := ?_) | refine ⟨(rfl : look _ _ = look _ _), ?_⟩ | fail) <;> ((conv => whnf); repeat' (refine vcC_go tok {rs := [36, 73, 74]} rfl ?_; conv => whnf)))
    focus
      refine ⟨⟨(a : Int) - 1, ?_, ⟨by omega, by omega, ?_⟩, by omega⟩⟩
      · repeat' (first | exact True.intro | exact rfl | refine And.intro ?_ ?_)
      by_cases e : lastN (mats0 c d) (findD c d).extra = a + 1
      · exfalso
        have h1 := lastN_get (findD c d).extra (mats0 c d) (by omega)
        rw [e, Nat.add_sub_cancel, List.getElem?_eq_getElem (by omega)] at h1
        have h2 : (mats0 c d)[a] = (findD c d).extra := by simpa using h1
        revert hb
        simp only [Int.toNat_natCast, h2, ne_eq, not_true_eq_false, false_implies]
      · omega
    all_goals
      have hL : lastN (mats0 c d) (findD c d).extra = a + 1 := by
        first
        | omega
        | exact lastN_eq (by rw [List.getElem?_eq_getElem (by omega)]; exact congrArg some (Decidable.not_not.1 hb)) hal2
    all_goals
      have hM : (mats0 c d).take (a + 1) ++ (List.replicate x.toNat (findD c d).extra ++ (mats0 c d).drop (a + 1)) = matsX c d x := by rw [matsX, if_pos (by assumption), insL, hL]
      refine draw_rule tok (cf := {rs := [36, 73, 74]}) (by kernel_rfl) [.p 0, .p 1, .p 2, .p 3, .p 4, .p 5, .p 6, .p 7, .s 8 [6,7,5,4], .s 9 [1,3,0,2], .p 10, .s 11 [10]] (by kernel_rfl) ?_
      ((conv => whnf); repeat' (refine vcC_go tok {rs := [36, 73, 74]} rfl ?_; conv => whnf))
      repeat' ((first | (intro hlq; (try simp only [List.length_map, maxLen] at hlq)) | ((refine ⟨fun (hb : _ = true) => ?_, fun (hb : _ = false) => ?_⟩) <;> (try simp only [BB, List.length_map] at hb)) | refine Ka ?_ | refine Kb ?_ | refine Kc (hd := rfl) (e := ?_) | refine Kc (hd := Cond.cells_eq _) (e := ?_) | refine Kd (e := ?_) | refine ⟨(rfl : look _ _ = look _ _), ?_⟩ | fail) <;> ((conv => whnf); repeat' (refine vcC_go tok {rs := [36, 73, 74]} rfl ?_; conv => whnf)))
      refine ⟨[], [.d (.sl [icells (findD c d).extra]), iB x], ⟨?_, ?_⟩, (Repeat_meets (findD c d).extra x (by omega) (by omega)).mono ?_⟩
      · repeat' (first | exact True.intro | exact rfl | refine And.intro ?_ ?_)
      · repeat' (first | exact True.intro | exact rfl | refine And.intro ?_ ?_)
      rintro o O' ⟨rfl, rfl⟩
      ((conv => whnf); repeat' (refine vcC_go tok {rs := [36, 73, 74]} rfl ?_; conv => whnf))
      repeat' (first | (refine ⟨(rfl : look _ _ = look _ _), ?_⟩; ((conv => whnf); repeat' (refine vcC_go tok {rs := [36, 73, 74]} rfl ?_; conv => whnf))) | fail)
      have hI := Insert_meets 1002 30 (a + 1) (by decide) (mats0 c d) (List.replicate x.toNat (findD c d).extra) (by omega) (by intro e; have := congrArg List.length e; simp at this; omega) (by rw [List.length_replicate]; omega)
      rw [hM, List.map_replicate] at hI
      refine ⟨_, _, ⟨?_, ?_⟩, hI.mono ?_⟩
      · repeat' (first | exact True.intro | exact rfl | refine And.intro ?_ ?_)
      · repeat' (first | exact True.intro | exact rfl | refine And.intro ?_ ?_)
      rintro o O' ⟨rfl, rfl⟩
      ((conv => whnf); repeat' (refine vcC_go tok {rs := [36, 73, 74]} rfl ?_; conv => whnf))
      repeat' (first | (refine ⟨(rfl : look _ _ = look _ _), ?_⟩; ((conv => whnf); repeat' (refine vcC_go tok {rs := [36, 73, 74]} rfl ?_; conv => whnf))) | fail)
    all_goals
      repeat' ((first | (intro hlq; (try simp only [List.length_map, maxLen] at hlq)) | ((refine ⟨fun (hb : _ = true) => ?_, fun (hb : _ = false) => ?_⟩) <;> (try simp only [BB, List.length_map] at hb)) | refine Ka ?_ | refine Kb ?_ | refine Kc (hd := rfl) (e := ?_) | refine Kc (hd := Cond.cells_eq _) (e := ?_) | refine Kd (e := ?_) | refine ⟨(rfl : look _ _ = look _ _), ?_⟩ | fail) <;> ((conv => whnf); repeat' ((fail_if_success (refine J_at 20 ?_)); refine vcC_go tok {rs := [36, 73, 74]} rfl ?_; conv => whnf)))
  all_goals
    have hE : buildE c d x = 0 := by rw [buildE, if_neg (by assumption), if_neg hx0, if_neg (by assumption)]
    refine loop_upd tok {rs := [36, 73, 74]} [] (X := Nat) (fun i => [(81, iB i)]) (fun i => [(76, .mp (legML (c.legs.take i)))]) [11] (fun i => i ≤ c.legs.length) (fun i => c.legs.length - i) 0 ?_
    ((conv => whnf); repeat' ((fail_if_success (refine J_at 20 ?_)); refine vcC_go tok {rs := [36, 73, 74]} rfl ?_; conv => whnf))
    refine And.intro ?_ ⟨by omega, fun i hi => ?_⟩
    · repeat' (first | exact True.intro | exact rfl | refine And.intro ?_ ?_)
    ((conv => whnf); repeat' ((fail_if_success (refine J_at 20 ?_)); refine vcC_go tok {rs := [36, 73, 74]} rfl ?_; conv => whnf))
    refine ⟨fun h1 => ?_, fun h1 => ?_⟩ <;> (try simp only [BB, List.length_map] at h1) <;> ((conv => whnf); repeat' ((fail_if_success (refine J_at 20 ?_)); refine vcC_go tok {rs := [36, 73, 74]} rfl ?_; conv => whnf))
    · have h1' : i < c.legs.length := by omega
      repeat' ((first | (intro hlq; (try simp only [List.length_map, maxLen] at hlq)) | refine Ka ?_ | refine Kb ?_ | refine Kc (hd := rfl) (e := ?_) | refine Kc (hd := Leg.cells_eq _) (e := ?_) | refine Kd (e := ?_) | refine ⟨(rfl : look _ _ = look _ _), ?_⟩ | fail) <;> ((conv => whnf); repeat' ((fail_if_success (refine J_at 20 ?_)); refine vcC_go tok {rs := [36, 73, 74]} rfl ?_; conv => whnf)))
      refine ⟨⟨⟨[c.legs[i].src, c.legs[i].dst], rfl, rfl⟩, legML_keys _⟩, ?_⟩
      rw [show mput (legML (List.take i c.legs)) (.agg [iD c.legs[i].src, iD c.legs[i].dst]) (.agg [iD c.legs[i].src, iD c.legs[i].dst, iD c.legs[i].lo, iD c.legs[i].hi]) = legML (List.take (i + 1) c.legs) from by
        rw [List.take_succ_eq_append_getElem h1', legML_snoc]]
      ((conv => whnf); repeat' ((fail_if_success (refine J_at 20 ?_)); refine vcC_go tok {rs := [36, 73, 74]} rfl ?_; conv => whnf))
      repeat' ((first | (intro hlq; (try simp only [List.length_map, maxLen] at hlq)) | refine Ka ?_ | refine Kb ?_ | refine Kc (hd := rfl) (e := ?_) | refine Kc (hd := Cond.cells_eq _) (e := ?_) | refine Kd (e := ?_) | refine ⟨(rfl : look _ _ = look _ _), ?_⟩ | fail) <;> ((conv => whnf); repeat' ((fail_if_success (refine J_at 20 ?_)); refine vcC_go tok {rs := [36, 73, 74]} rfl ?_; conv => whnf)))
      refine ⟨⟨i + 1, ?_, by omega, by omega⟩⟩
      repeat' (first | exact True.intro | exact rfl | refine And.intro ?_ ?_)
    · have e : c.legs.take i = c.legs := List.take_of_length_le (by omega)
      rw [e]
      refine J_frz [1002, 76] ?_
      ((conv => whnf); repeat' (refine vcC_go tok {rs := [36, 73, 74]} rfl ?_; conv => whnf))
      have hB : buildM c d x = matsX c d x := by rw [buildM, if_neg (by assumption), if_neg hx0, if_neg (by assumption)]
      exact ⟨by first | (rw [buildL, if_pos hE, hE, hB]; done) | (rw [buildL, if_pos hE, hE, hB, matsX, if_neg (by assumption)])⟩
end Go.Proofs.YtkkohadkpogdfaaGreat.Dx

/- Route, laps, and the small functions of the reference. -/
namespace Go.Proofs.YtkkohadkpogdfaaGreat.Dx
open Go Go.RowKit
set_option linter.all false
set_option maxRecDepth 100000
set_option maxHeartbeats 16000000

def routeM (c : Course) (d x : Int) : List Int := if buildE c d x = 0 then matsX c d x else []
theorem buildM_zero {c : Course} {d x : Int} (h : buildE c d x = 0) : buildM c d x = matsX c d x := by
  rw [buildE] at h
  split at h
  · rename_i h1; exact absurd h h1
  · rename_i h1
    rw [buildM, if_neg h1]
    split at h
    · omega
    · rename_i h2
      rw [if_neg h2]
      split at h
      · omega
      · rename_i h3; rw [if_neg h3]

theorem Route_meets (c : Course) (hc : c.small) (d x : Int) : Meets Tryz.prog 10 [c.d, iD d, iD x] fun r => r = .tup [.sl ((routeM c d x).map icells), iD (buildE c d x)] := by
  refine enter tok {} Tryz.func10 rfl (by kernel_rfl) Tryz.ntmps10 (by simp) fun B0 W0 V0 lent g0 => ?_
  ((conv => whnf); repeat' (refine vcC_go tok {} rfl ?_; conv => whnf))
  repeat' ((first | (intro hlq; (try simp only [List.length_map, maxLen] at hlq)) | refine Meets.k (build_meets c hc d x) ?_ | ((refine ⟨fun (hb : _ = true) => ?_, fun (hb : _ = false) => ?_⟩) <;> (try simp only [BB, List.length_map] at hb)) | refine Ka ?_ | refine Kb ?_ | refine Kc (hd := rfl) (e := ?_) | refine Kc (hd := Cond.cells_eq _) (e := ?_) | refine Kd (e := ?_) | refine ⟨(rfl : look _ _ = look _ _), ?_⟩ | fail) <;> ((conv => whnf); repeat' (refine vcC_go tok {} rfl ?_; conv => whnf)))
  · exact ⟨by rw [routeM, if_neg (by assumption)]; rfl⟩
  · have e : buildE c d x = 0 := Decidable.not_not.1 (by assumption)
    exact ⟨by rw [routeM, if_pos e, e, buildM_zero e]⟩

theorem laps_meets (m : List Int) (l : List (D × D)) : Meets Tryz.prog 30 [pathD m l] fun r => r = .fn 48 [] [.ptr [.sl (m.map icells), .mp l] 0] := by
  refine enter tok {} Tryz.func30 rfl (by kernel_rfl) Tryz.ntmps30 (by simp) fun B0 W0 V0 lent g0 => ?_
  ((conv => whnf); repeat' (refine vcC_go tok {} rfl ?_; conv => whnf))
  exact ⟨rfl⟩

theorem Same_meets (a b : List Int) : Meets Tryz.prog 12 [.sl (a.map icells), .sl (b.map icells)] fun r => r = bD (decide (a = b)) := by
  refine enter tok {} Tryz.func12 rfl (by kernel_rfl) Tryz.ntmps12 (by simp) fun B0 W0 V0 lent g0 => ?_
  ((conv => whnf); repeat' (refine vcC_go tok {} rfl ?_; conv => whnf))
  repeat' ((first | (intro hlq; (try simp only [List.length_map, maxLen] at hlq)) | ((refine ⟨fun (hb : _ = true) => ?_, fun (hb : _ = false) => ?_⟩) <;> (try simp only [BB, List.length_map] at hb)) | refine Ka ?_ | refine Kb ?_ | refine Kc (hd := rfl) (e := ?_) | refine Kc (hd := Cond.cells_eq _) (e := ?_) | refine Kd (e := ?_) | refine ⟨(rfl : look _ _ = look _ _), ?_⟩ | fail) <;> ((conv => whnf); repeat' (refine vcC_go tok {} rfl ?_; conv => whnf)))
  · refine ⟨congrArg bD (Eq.symm (decide_eq_false fun e => ?_))⟩
    subst e
    rename_i hb
    exact hb rfl
  refine loop_upd tok {} [] (X := Nat) (fun i => [(5, iB i)]) (fun _ => []) [] (fun i => i ≤ a.length ∧ a.take i = b.take i) (fun i => a.length - i) 0 ?_
  ((conv => whnf); repeat' (refine vcC_go tok {} rfl ?_; conv => whnf))
  refine And.intro ?_ ⟨⟨by omega, by simp⟩, fun i hΦ => ?_⟩
  · repeat' (first | exact True.intro | exact rfl | refine And.intro ?_ ?_)
  obtain ⟨hi, hp⟩ := hΦ
  ((conv => whnf); repeat' (refine vcC_go tok {} rfl ?_; conv => whnf))
  repeat' ((first | (intro hlq; (try simp only [List.length_map, maxLen] at hlq)) | refine Ka ?_ | refine Kb ?_ | refine Kc (hd := rfl) (e := ?_) | refine Kc (hd := Cond.cells_eq _) (e := ?_) | refine Kd (e := ?_) | refine ⟨(rfl : look _ _ = look _ _), ?_⟩ | fail) <;> ((conv => whnf); repeat' (refine vcC_go tok {} rfl ?_; conv => whnf)))
  refine ⟨fun h1 => ?_, fun h1 => ?_⟩ <;> (try simp only [BB, List.length_map] at h1) <;> ((conv => whnf); repeat' (refine vcC_go tok {} rfl ?_; conv => whnf))
  · have h1' : i < a.length := by omega
    have h2' : i < b.length := by omega
    refine draw_rule tok (cf := {}) (by kernel_rfl) [.p 0, .p 1, .p 2, .p 3, .p 4, .p 5, .p 6, .p 7, .p 8] (by kernel_rfl) ?_
    ((conv => whnf); repeat' (refine vcC_go tok {} rfl ?_; conv => whnf))
    repeat' ((first | (intro hlq; (try simp only [List.length_map, maxLen] at hlq)) | ((refine ⟨fun (hb : _ = true) => ?_, fun (hb : _ = false) => ?_⟩) <;> (try simp only [BB, List.length_map] at hb)) | refine Ka ?_ | refine Kb ?_ | refine Kc (hd := rfl) (e := ?_) | refine Kc (hd := icells_eq _) (e := ?_) | refine Kd (e := ?_) | refine ⟨(rfl : look _ _ = look _ _), ?_⟩ | fail) <;> ((conv => whnf); repeat' (refine vcC_go tok {} rfl ?_; conv => whnf)))
    · refine ⟨congrArg bD (Eq.symm (decide_eq_false fun e => ?_))⟩
      subst e
      rename_i hb
      exact hb rfl
    · refine ⟨⟨i + 1, ?_, ⟨by omega, ?_⟩, by omega⟩⟩
      · repeat' (first | exact True.intro | exact rfl | refine And.intro ?_ ?_)
      · rw [List.take_succ_eq_append_getElem h1', List.take_succ_eq_append_getElem h2', hp]
        rename_i hb
        rw [Decidable.not_not.1 hb]
  · refine ⟨congrArg bD (Eq.symm (decide_eq_true ?_))⟩
    rwa [List.take_of_length_le (by omega), List.take_of_length_le (by omega)] at hp

def lapN (m : List Int) (i : Nat) : Nat := (m.take (i + 1)).count (m.getD i 0)
theorem Lap_meets (m : List Int) (a : Nat) (ha : a < m.length) (hm : m.length ≤ 1048576) : Meets Tryz.prog 31 [.sl (m.map icells), iD a] fun r => r = iD (lapN m a : Nat) := by
  have hg : m.getD a 0 = m[a] := by rw [List.getD_eq_getElem?_getD, List.getElem?_eq_getElem ha]; rfl
  refine enter tok {} Tryz.func31 rfl (by kernel_rfl) Tryz.ntmps31 (by simp) fun B0 W0 V0 lent g0 => ?_
  ((conv => whnf); repeat' (refine vcC_go tok {} rfl ?_; conv => whnf))
  refine loop_upd tok {} [] (X := Nat × Int) (fun x => [(6, iB x.1), (5, iB x.2)]) (fun _ => []) [] (fun x => x.1 ≤ a + 1 ∧ x.2 = ((m.take x.1).count m[a] : Int)) (fun x => a + 1 - x.1) (0, 0) ?_
  ((conv => whnf); repeat' (refine vcC_go tok {} rfl ?_; conv => whnf))
  refine And.intro ?_ ⟨⟨by omega, by simp⟩, fun x hΦ => ?_⟩
  · repeat' (first | exact True.intro | exact rfl | refine And.intro ?_ ?_)
  obtain ⟨i, k⟩ := x
  obtain ⟨hi, hk⟩ := hΦ
  dsimp only at hi hk
  subst hk
  ((conv => whnf); repeat' (refine vcC_go tok {} rfl ?_; conv => whnf))
  refine ⟨fun h1 => ?_, fun h1 => ?_⟩ <;> (try simp only [BB, List.length_map] at h1) <;> ((conv => whnf); repeat' (refine vcC_go tok {} rfl ?_; conv => whnf))
  · have h1' : i < m.length := by omega
    have hc := List.count_le_length (a := m[a]) (l := m.take i)
    rw [List.length_take] at hc
    have hs : (m.take (i + 1)).count m[a] = (m.take i).count m[a] + if m[i] = m[a] then 1 else 0 := by
      rw [List.take_succ_eq_append_getElem h1', List.count_append, List.count_singleton]
      simp
    refine draw_rule tok (cf := {}) (by kernel_rfl) [.p 0, .p 1, .p 2, .p 3, .p 4, .p 5, .p 6, .p 7, .p 8] (by kernel_rfl) ?_
    ((conv => whnf); repeat' (refine vcC_go tok {} rfl ?_; conv => whnf))
    repeat' ((first | (intro hlq; (try simp only [List.length_map, maxLen] at hlq)) | refine Ka ?_ | refine Kb ?_ | refine Kc (hd := rfl) (e := ?_) | refine Kc (hd := icells_eq _) (e := ?_) | refine Kd (e := ?_) | refine ⟨(rfl : look _ _ = look _ _), ?_⟩ | fail) <;> ((conv => whnf); repeat' (refine vcC_go tok {} rfl ?_; conv => whnf)))
    refine ⟨fun h2 => ?_, fun h2 => ?_⟩ <;> (try simp only [BB, List.length_map] at h2) <;> ((conv => whnf); repeat' (refine vcC_go tok {} rfl ?_; conv => whnf))
    · (try dsimp only at h2)
      rw [if_pos h2] at hs
      repeat' ((first | (intro hlq; (try simp only [List.length_map, maxLen] at hlq)) | refine Ka ?_ | refine Kb ?_ | refine Kc (hd := rfl) (e := ?_) | refine Kc (hd := Cond.cells_eq _) (e := ?_) | refine Kd (e := ?_) | refine ⟨(rfl : look _ _ = look _ _), ?_⟩ | fail) <;> ((conv => whnf); repeat' (refine vcC_go tok {} rfl ?_; conv => whnf)))
      refine ⟨⟨(i + 1, ((m.take i).count m[a] : Int) + 1), ?_, ⟨by (try dsimp only at *); omega, by dsimp only; rw [hs]; rfl⟩, by (try dsimp only at *); omega⟩⟩
      repeat' (first | exact True.intro | exact rfl | refine And.intro ?_ ?_)
    · (try dsimp only at h2)
      rw [if_neg h2] at hs
      repeat' ((first | (intro hlq; (try simp only [List.length_map, maxLen] at hlq)) | refine Ka ?_ | refine Kb ?_ | refine Kc (hd := rfl) (e := ?_) | refine Kc (hd := Cond.cells_eq _) (e := ?_) | refine Kd (e := ?_) | refine ⟨(rfl : look _ _ = look _ _), ?_⟩ | fail) <;> ((conv => whnf); repeat' (refine vcC_go tok {} rfl ?_; conv => whnf)))
      refine ⟨⟨(i + 1, ((m.take i).count m[a] : Int)), ?_, ⟨by (try dsimp only at *); omega, by dsimp only; rw [hs]; rfl⟩, by (try dsimp only at *); omega⟩⟩
      repeat' (first | exact True.intro | exact rfl | refine And.intro ?_ ?_)
  · obtain rfl : i = a + 1 := by omega
    refine ⟨?_⟩
    rw [lapN, hg]

theorem last_meets (m : List Int) (e : Int) : Meets Tryz.prog 29 [.sl (m.map icells), iD e] fun r => r = iD ((lastN m e : Int) - 1) := by
  refine enter tok {} Tryz.func29 rfl (by kernel_rfl) Tryz.ntmps29 (by simp) fun B0 W0 V0 lent g0 => ?_
  ((conv => whnf); repeat' (refine vcC_go tok {} rfl ?_; conv => whnf))
  refine loop_upd tok {} [] (X := Nat × Int) (fun x => [(6, iB x.1), (5, iB x.2)]) (fun _ => []) [] (fun x => x.1 ≤ m.length ∧ x.2 = (lastN (m.take x.1) e : Int) - 1) (fun x => m.length - x.1) (0, -1) ?_
  ((conv => whnf); repeat' (refine vcC_go tok {} rfl ?_; conv => whnf))
  refine And.intro ?_ ⟨⟨by omega, by simp [lastN]⟩, fun x hΦ => ?_⟩
  · repeat' (first | exact True.intro | exact rfl | refine And.intro ?_ ?_)
  obtain ⟨i, k⟩ := x
  obtain ⟨hi, hk⟩ := hΦ
  dsimp only at hi hk
  subst hk
  ((conv => whnf); repeat' (refine vcC_go tok {} rfl ?_; conv => whnf))
  repeat' ((first | (intro hlq; (try simp only [List.length_map, maxLen] at hlq)) | refine Ka ?_ | refine Kb ?_ | refine Kc (hd := rfl) (e := ?_) | refine Kc (hd := Cond.cells_eq _) (e := ?_) | refine Kd (e := ?_) | refine ⟨(rfl : look _ _ = look _ _), ?_⟩ | fail) <;> ((conv => whnf); repeat' (refine vcC_go tok {} rfl ?_; conv => whnf)))
  refine ⟨fun h1 => ?_, fun h1 => ?_⟩ <;> (try simp only [BB, List.length_map] at h1) <;> ((conv => whnf); repeat' (refine vcC_go tok {} rfl ?_; conv => whnf))
  · have h1' : i < m.length := by omega
    have hs : lastN (m.take (i + 1)) e = if m[i] = e then i + 1 else lastN (m.take i) e := by
      rw [List.take_succ_eq_append_getElem h1', lastN_snoc, List.length_take, Nat.min_eq_left (by omega)]
    repeat' ((first | (intro hlq; (try simp only [List.length_map, maxLen] at hlq)) | refine Ka ?_ | refine Kb ?_ | refine Kc (hd := rfl) (e := ?_) | refine Kc (hd := icells_eq _) (e := ?_) | refine Kd (e := ?_) | refine ⟨(rfl : look _ _ = look _ _), ?_⟩ | fail) <;> ((conv => whnf); repeat' (refine vcC_go tok {} rfl ?_; conv => whnf)))
    refine ⟨fun h2 => ?_, fun h2 => ?_⟩ <;> (try simp only [BB, List.length_map] at h2) <;> ((conv => whnf); repeat' (refine vcC_go tok {} rfl ?_; conv => whnf))
    · (try dsimp only at h2)
      rw [if_pos h2] at hs
      repeat' ((first | (intro hlq; (try simp only [List.length_map, maxLen] at hlq)) | refine Ka ?_ | refine Kb ?_ | refine Kc (hd := rfl) (e := ?_) | refine Kc (hd := Cond.cells_eq _) (e := ?_) | refine Kd (e := ?_) | refine ⟨(rfl : look _ _ = look _ _), ?_⟩ | fail) <;> ((conv => whnf); repeat' (refine vcC_go tok {} rfl ?_; conv => whnf)))
      refine ⟨⟨(i + 1, (i : Int)), ?_, ⟨by (try dsimp only at *); omega, by dsimp only; rw [hs]; omega⟩, by (try dsimp only at *); omega⟩⟩
      repeat' (first | exact True.intro | exact rfl | refine And.intro ?_ ?_)
    · (try dsimp only at h2)
      rw [if_neg h2] at hs
      repeat' ((first | (intro hlq; (try simp only [List.length_map, maxLen] at hlq)) | refine Ka ?_ | refine Kb ?_ | refine Kc (hd := rfl) (e := ?_) | refine Kc (hd := Cond.cells_eq _) (e := ?_) | refine Kd (e := ?_) | refine ⟨(rfl : look _ _ = look _ _), ?_⟩ | fail) <;> ((conv => whnf); repeat' (refine vcC_go tok {} rfl ?_; conv => whnf)))
      refine ⟨⟨(i + 1, (lastN (m.take i) e : Int) - 1), ?_, ⟨by (try dsimp only at *); omega, by dsimp only; rw [hs]⟩, by (try dsimp only at *); omega⟩⟩
      repeat' (first | exact True.intro | exact rfl | refine And.intro ?_ ?_)
  · refine ⟨congrArg iD ?_⟩
    rw [List.take_of_length_le (by (try dsimp only at *); omega)]

theorem rcheck_meets (c : Course) (hc : c.small) (d : Int) : Meets Tryz.prog 27 [c.d, iD d] fun r => r = iD (findE c d) := by
  refine enter tok {} Tryz.func27 rfl (by kernel_rfl) Tryz.ntmps27 (by simp) fun B0 W0 V0 lent g0 => ?_
  ((conv => whnf); repeat' (refine vcC_go tok {} rfl ?_; conv => whnf))
  repeat' ((first | (intro hlq; (try simp only [List.length_map, maxLen] at hlq)) | refine Meets.k (rCourse_meets c hc) ?_ | ((refine ⟨fun (hb : _ = true) => ?_, fun (hb : _ = false) => ?_⟩) <;> (try simp only [BB, List.length_map] at hb)) | refine Ka ?_ | refine Kb ?_ | refine Kc (hd := rfl) (e := ?_) | refine Kc (hd := Cond.cells_eq _) (e := ?_) | refine Kd (e := ?_) | refine ⟨(rfl : look _ _ = look _ _), ?_⟩ | fail) <;> ((conv => whnf); repeat' (refine vcC_go tok {} rfl ?_; conv => whnf)))
  · exact ⟨congrArg iD (by rw [findE, if_pos (by assumption)])⟩
  · exact ⟨congrArg iD (by rw [findE, if_neg (by assumption), if_pos (.inl (by assumption))])⟩
  · exact ⟨congrArg iD (by rw [findE, if_neg (by assumption), if_pos (.inr (by assumption))])⟩
  · exact ⟨congrArg iD (by rw [findE, if_neg (by assumption), if_neg (by omega)])⟩
end Go.Proofs.YtkkohadkpogdfaaGreat.Dx

