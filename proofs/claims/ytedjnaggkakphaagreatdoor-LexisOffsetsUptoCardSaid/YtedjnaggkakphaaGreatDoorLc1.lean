/- The walk of the law of offsets. -/
import Derived.Test.YtedjnaggkakphaaGreatDoorLk
set_option linter.all false
namespace Go.Proofs.YtedjnaggkakphaaGreatDoor.Dx
open Go Go.RowKit Go.Proofs
set_option linter.all false
set_option maxRecDepth 100000
set_option maxHeartbeats 2000000

theorem toks_inc : ∀ (k : Nat) (r : List UInt8) (a : Nat), r.length ≤ k → (toks r a).Pairwise fun x y => x.at_ < y.at_
  | _, [], a, _ => by rw [toks_nil]; simp
  | 0, c :: t, _, h => by simp at h
  | k + 1, c :: t, a, h => by
    have h1 := stepT_le c t
    simp only [List.length_cons] at h
    have ih := toks_inc k ((c :: t).drop (stepT (c :: t)).2.2) (a + (stepT (c :: t)).2.2) (by rw [List.length_drop, List.length_cons]; omega)
    rw [toks_cons]
    split
    · refine List.pairwise_cons.2 ⟨fun x hx => ?_, ih⟩
      have := (starts_ge _ _ _ (Nat.le_refl _) x hx).1
      dsimp only; omega
    · exact ih
def imap (l : List Nat) : List (D × D) := l.map fun (n : Nat) => (iD (n : Int), bD true)
theorem imap_key {l : List Nat} : ∀ p ∈ imap l, KInt .i64 p.1 := by
  intro p hp
  obtain ⟨s, _, rfl⟩ := List.mem_map.1 hp
  exact ⟨_, rfl⟩
theorem imap_get (l : List Nat) (s : Nat) : (mget (imap l) (iD s)).getD (bD false) = bD (decide (s ∈ l)) := by
  induction l with
  | nil => rfl
  | cons x l ih =>
    simp only [imap, List.map_cons, mget] at ih ⊢
    by_cases e : x = s
    · subst e; simp
    · have : ¬ (iD x = iD s) := by
        intro h
        have := (Value.int.inj (D.v.inj h)).2
        omega
      rw [if_neg this, ih]
      simp [Ne.symm e]
theorem imap_put {l : List Nat} {s : Nat} (h : s ∉ l) : mput (imap l) (iD s) (bD true) = imap (l ++ [s]) := by
  rw [mput_none]
  · simp [imap]
  · intro p hp e
    obtain ⟨x, hx, rfl⟩ := List.mem_map.1 hp
    have := (Value.int.inj (D.v.inj e)).2
    have : x = s := by omega
    exact h (this ▸ hx)
theorem LOffsets_meets (src : List UInt8) (hm : src.length ≤ 1048576) : Meets Tryz.prog 7 [.sl (byteCells src)] fun r => r = bD true := by
  have kS := sane_meets.bl
  by_cases hl : src.length ≤ 3000
  · have k1 := cTokens_meets cTime_meets src (by omega)
    unfold tokD at k1
    obtain ⟨ini, hi, hx⟩ := toks_init _ src 0 (Nat.le_refl _)
    have hinc := toks_inc _ src 0 (Nat.le_refl _)
    obtain ⟨hb1, hb2, hb3⟩ := bads_all _ src 0 (-1) 0 (Nat.le_refl _) (by omega)
    have hge := starts_ge _ src 0 (Nat.le_refl _)
    generalize toks src 0 = ts at *
    generalize bads src 0 (-1) 0 = bs at *
    have hn : ts.length = ini.length + 1 := by rw [hi]; simp
    have F1 : ∀ (i : Nat) (h : i < ts.length), i + 1 < ts.length → ts[i].at_ < src.length ∧ 1 ≤ ts[i].kind ∧ ts[i].kind ≤ 5 ∧ (ts[i].kind = 4 → ∃ h : ts[i].at_ < src.length, src[ts[i].at_] = 34) ∧
        (ts[i].kind ≠ 4 → ts[i].text ≠ [] ∧ ts[i].at_ + ts[i].text.length ≤ src.length ∧ (src.drop ts[i].at_).take ts[i].text.length = ts[i].text) := by
      intro i h h'
      have hii : i < ini.length := by omega
      have e : ts[i] = ini[i] := by
        have : ts[i]? = ini[i]? := by rw [hi, List.getElem?_append_left hii]
        rw [List.getElem?_eq_getElem h, List.getElem?_eq_getElem hii] at this
        exact Option.some.inj this
      obtain ⟨_, h2, h3, h4⟩ := hx ini[i] (List.getElem_mem hii)
      rw [← e] at h2 h3 h4
      rw [Nat.sub_zero] at h4
      rw [Nat.zero_add] at h2
      have h3 := of_decide_eq_true h3
      refine ⟨h2, h3.1, h3.2, fun hk => ⟨h2, ?_⟩, fun hk => ?_⟩
      · have := h4.1 hk
        rw [List.drop_eq_getElem_cons h2] at this
        exact Option.some.inj this
      · obtain ⟨g1, g2⟩ := h4.2 hk
        have g3 := g2.length_le
        rw [List.length_drop] at g3
        exact ⟨g1, by omega, (List.prefix_iff_eq_take.1 g2).symm⟩
    have F2 : ∀ (i j : Nat) (h : i < j) (hj : j < ts.length), (ts[i]'(by omega)).at_ < ts[j].at_ := by
      intro i j h hj
      exact List.pairwise_iff_getElem.1 hinc i j (by omega) hj h
    have F3 : (ts.map tkC)[((ts.map tkC).length - 1 : Int).toNat]? = some (tkC ⟨6, [], src.length⟩) := by
      have e : (((ts.map tkC).length : Int) - 1).toNat = ini.length := by rw [List.length_map]; omega
      rw [e, List.getElem?_map, hi, List.getElem?_append_right (Nat.le_refl _), Nat.sub_self, Nat.zero_add]
      rfl
    have F4 : ∀ (j : Nat) (h : j < bs.length), bs[j] < src.length ∧ ∀ n, bs[j] ∉ (ts.map (·.at_)).take n := by
      intro j h
      obtain ⟨_, h2, h3⟩ := hb1 bs[j] (List.getElem_mem h)
      refine ⟨by omega, fun n hm => ?_⟩
      obtain ⟨x, hx, e⟩ := List.mem_map.1 (List.mem_of_mem_take hm)
      exact h3 x hx e
    have F5 : ∀ (j : Nat) (h : j < bs.length) (h0 : 0 < j), (bs[j - 1]'(by omega)) < bs[j] := by
      intro j h h0
      exact List.pairwise_iff_getElem.1 hb2 (j - 1) j (by omega) h (by omega)
    have F6 : ∀ (i : Nat) (h : i < ts.length), ts[i].at_ ∉ (ts.map (·.at_)).take i := by
      intro i h hm
      obtain ⟨j, hj, e⟩ := List.getElem_of_mem hm
      simp only [List.length_take, List.length_map] at hj
      rw [List.getElem_take, List.getElem_map] at e
      have := F2 j i (by omega) h
      omega
    have htl : ts.length ≤ 3001 := by
      have : ts.length ≤ src.length + 1 := by
        rcases Nat.lt_or_ge (src.length + 1) ts.length with h | h
        · exfalso
          have key : ∀ i, ∀ h : i < ts.length, i ≤ ts[i].at_ := by
            intro i
            induction i with
            | zero => intro _; omega
            | succ i ih => intro h; have := ih (by omega); have := F2 i (i + 1) (by omega) h; omega
          have h1 := key (src.length + 1) h
          have h2 := (hge _ (List.getElem_mem h)).2
          omega
        · exact h
      omega
    clear hx hinc hb1 hb2 hge hi
    refine enter tok {} Tryz.func7 rfl (by kernel_rfl) Tryz.ntmps7 (by simp) fun B0 W0 V0 lent g0 => ?_
    ((conv => whnf); repeat' (refine vcC_go tok {} rfl ?_; conv => whnf))
    repeat' ((first | (intro hlq; (try simp only [List.length_map, maxLen] at hlq)) | refine Meets.k (kS) ?_ | refine Meets.k (k1) ?_ | refine ⟨tkC ⟨6, [], src.length⟩, ⟨by simp only [List.length_map]; omega, F3, rfl⟩, ?_⟩ | refine Ks ?_ | refine Kq ?_ | refine Kt ?_ | ((refine ⟨fun (hb : _ = true) => ?_, fun (hb : _ = false) => ?_⟩) <;> (try simp only [BB, List.length_map] at hb)) | refine Ka ?_ | refine Kb ?_ | refine Kc (hd := rfl) (e := ?_) | refine Kc (hd := icells_eq _) (e := ?_) | refine Kd (e := ?_) | refine ⟨(rfl : look _ _ = look _ _), ?_⟩ | fail) <;> ((conv => whnf); repeat' (refine vcC_go tok {} rfl ?_; conv => whnf)))
    all_goals try first
      | exact ⟨rfl⟩
      | contradiction
      | (exfalso; omega)
      | (exfalso; simp only [List.length_map] at *; omega)
    refine loop_upd tok {} [] (X := Nat) (fun i => [(7, iB i)]) (fun i => [(55, .mp (imap ((ts.map (·.at_)).take i)))]) [] (fun i => i + 1 ≤ ts.length) (fun i => ts.length - i) 0 ?_
    ((conv => whnf); repeat' (refine vcC_go tok {} rfl ?_; conv => whnf))
    refine And.intro ?_ ⟨by omega, fun i hi => ?_⟩
    · repeat' (first | exact True.intro | exact rfl | refine And.intro ?_ ?_)
    ((conv => whnf); repeat' (refine vcC_go tok {} rfl ?_; conv => whnf))
    repeat' ((first | (intro hlq; (try simp only [List.length_map, maxLen] at hlq)) | refine Ks ?_ | refine Kq ?_ | refine Kt ?_ | refine Ka ?_ | refine Kb ?_ | refine Kc (hd := rfl) (e := ?_) | refine Kc (hd := icells_eq _) (e := ?_) | refine Kd (e := ?_) | refine ⟨(rfl : look _ _ = look _ _), ?_⟩ | fail) <;> ((conv => whnf); repeat' (refine vcC_go tok {} rfl ?_; conv => whnf)))
    refine ⟨fun h3 => ?_, fun h3 => ?_⟩ <;> (try simp only [BB, List.length_map] at h3) <;> ((conv => whnf); repeat' (refine vcC_go tok {} rfl ?_; conv => whnf))
    · have hi1 : i < ts.length := by omega
      have hi2 : i + 1 < ts.length := by omega
      obtain ⟨f1, f2, f3, f4, f5⟩ := F1 i hi1 hi2
      have f6 := F2 i (i + 1) (by omega) hi2
      repeat' ((first | (intro hlq; (try simp only [List.length_map, maxLen] at hlq)) | refine Ks ?_ | refine Kq ?_ | refine Kt ?_ | refine Ka ?_ | refine Kb ?_ | refine Kc (hd := rfl) (e := ?_) | refine Kc (hd := rfl) (e := ?_) | refine Kd (e := ?_) | refine ⟨(rfl : look _ _ = look _ _), ?_⟩ | fail) <;> ((conv => whnf); repeat' (refine vcC_go tok {} rfl ?_; conv => whnf)))
      refine draw_rule tok (cf := {}) (by kernel_rfl) [.p 0, .p 1, .p 2, .p 3, .p 4, .p 5, .p 6, .p 7, .p 8, .p 9, .p 10, .p 11, .p 12, .p 13, .p 14, .p 15, .p 16, .p 17, .p 18, .p 19, .p 20, .p 21, .p 22, .p 23, .p 24, .p 25] (by kernel_rfl) ?_
      ((conv => whnf); repeat' (refine vcC_go tok {} rfl ?_; conv => whnf))
      repeat' ((first | (intro hlq; (try simp only [List.length_map, maxLen] at hlq)) | refine Ks ?_ | refine Kq ?_ | refine Kt ?_ | ((refine ⟨fun (hb : _ = true) => ?_, fun (hb : _ = false) => ?_⟩) <;> (try simp only [BB, List.length_map] at hb)) | refine Ka ?_ | refine Kb ?_ | refine Kc (hd := rfl) (e := ?_) | refine Kc (hd := rfl) (e := ?_) | refine Kd (e := ?_) | refine ⟨(rfl : look _ _ = look _ _), ?_⟩ | fail) <;> ((conv => whnf); repeat' (refine vcC_go tok {} rfl ?_; conv => whnf)))
      all_goals try (exfalso; omega)
      refine ⟨⟨⟨_, rfl⟩, imap_key⟩, ?_⟩
      rw [imap_put (F6 i hi1)]
      have e7 : (ts.map (·.at_)).take i ++ [ts[i].at_] = (ts.map (·.at_)).take (i + 1) := by
        rw [List.take_succ_eq_append_getElem (by simpa using hi1), List.getElem_map]
      rw [e7]
      ((conv => whnf); repeat' (refine vcC_go tok {} rfl ?_; conv => whnf))
      refine ⟨fun h4 => ?_, fun h4 => ?_⟩ <;> (try simp only [BB, List.length_map] at h4) <;> ((conv => whnf); repeat' (refine vcC_go tok {} rfl ?_; conv => whnf))
      · obtain ⟨g1, g2⟩ := f4 (by omega)
        repeat' ((first | (intro hlq; (try simp only [List.length_map, maxLen] at hlq)) | refine Ks ?_ | refine Kq ?_ | refine Kt ?_ | refine Ka ?_ | refine Kb ?_ | refine Kc (hd := rfl) (e := ?_) | refine Kc (hd := rfl) (e := ?_) | refine Kd (e := ?_) | refine ⟨(rfl : look _ _ = look _ _), ?_⟩ | fail) <;> ((conv => whnf); repeat' (refine vcC_go tok {} rfl ?_; conv => whnf)))
        refine ⟨fun h5 => ?_, fun h5 => ?_⟩ <;> (try simp only [BB, List.length_map] at h5) <;> ((conv => whnf); repeat' (refine vcC_go tok {} rfl ?_; conv => whnf))
        · exfalso
          rw [g2] at h5
          exact h5 rfl
        · repeat' ((first | (intro hlq; (try simp only [List.length_map, maxLen] at hlq)) | refine Ks ?_ | refine Kq ?_ | refine Kt ?_ | ((refine ⟨fun (hb : _ = true) => ?_, fun (hb : _ = false) => ?_⟩) <;> (try simp only [BB, List.length_map] at hb)) | refine Ka ?_ | refine Kb ?_ | refine Kc (hd := rfl) (e := ?_) | refine Kc (hd := icells_eq _) (e := ?_) | refine Kd (e := ?_) | refine ⟨(rfl : look _ _ = look _ _), ?_⟩ | fail) <;> ((conv => whnf); repeat' (refine vcC_go tok {} rfl ?_; conv => whnf)))
          refine ⟨⟨i + 1, ?_, by omega, by omega⟩⟩
          repeat' (first | exact True.intro | exact rfl | refine And.intro ?_ ?_)
      · obtain ⟨g1, g2, g3⟩ := f5 (by omega)
        have e8 : List.drop ((ts[i].at_ : Nat) : Int).toNat (List.take ((ts[i].at_ : Int) + (ts[i].text.length : Int)).toNat src) = ts[i].text := by
          rw [show ((ts[i].at_ : Int) + (ts[i].text.length : Int)).toNat = ts[i].at_ + ts[i].text.length by omega, Int.toNat_natCast, List.drop_take, Nat.add_sub_cancel_left]
          exact g3
        refine draw_rule tok (cf := {}) (by kernel_rfl) [.p 0, .p 1, .p 2, .p 3, .p 4, .p 5, .p 6, .p 7, .p 8, .p 9, .p 10, .p 11, .p 12, .p 13, .p 14, .p 15, .p 16, .p 17, .p 18, .p 19, .p 20, .p 21, .p 22, .p 23, .p 24, .p 25, .p 26, .p 27, .p 28, .p 29] (by kernel_rfl) ?_
        ((conv => whnf); repeat' (refine vcC_go tok {} rfl ?_; conv => whnf))
        repeat' ((first | (intro hlq; (try simp only [List.length_map, maxLen] at hlq)) | refine Ky ?_ | refine ⟨_, bc_eq _ _ _, ?_⟩ | refine ⟨fun _ _ => i64 (by omega) (by omega), ?_⟩ | refine Ks ?_ | refine Kq ?_ | refine Kt ?_ | ((refine ⟨fun (hb : _ = true) => ?_, fun (hb : _ = false) => ?_⟩) <;> (try simp only [BB, List.length_map] at hb)) | refine Ka ?_ | refine Kb ?_ | refine Kc (hd := rfl) (e := ?_) | refine Kc (hd := icells_eq _) (e := ?_) | refine Kd (e := ?_) | refine ⟨(rfl : look _ _ = look _ _), ?_⟩ | fail) <;> ((conv => whnf); repeat' (refine vcC_go tok {} rfl ?_; conv => whnf)))
        all_goals first
          | (exfalso; omega)
          | (exfalso; exact absurd (by assumption) g1)
          | (exfalso; exact absurd e8 (by assumption))
          | (refine ⟨⟨i + 1, ?_, by omega, by omega⟩⟩
             repeat' (first | exact True.intro | exact rfl | refine And.intro ?_ ?_))
    · have hi1 : i + 1 = ts.length := by omega
      refine loop_upd tok {} [] (X := Nat) (fun j => [(9, iB j)]) (fun _ => []) [] (fun j => j ≤ bs.length) (fun j => bs.length - j) 0 ?_
      ((conv => whnf); repeat' (refine vcC_go tok {} rfl ?_; conv => whnf))
      refine And.intro ?_ ⟨by omega, fun j hj => ?_⟩
      · repeat' (first | exact True.intro | exact rfl | refine And.intro ?_ ?_)
      ((conv => whnf); repeat' (refine vcC_go tok {} rfl ?_; conv => whnf))
      repeat' ((first | (intro hlq; (try simp only [List.length_map, maxLen] at hlq)) | refine Ks ?_ | refine Kq ?_ | refine Kt ?_ | refine Ka ?_ | refine Kb ?_ | refine Kc (hd := rfl) (e := ?_) | refine Kc (hd := icells_eq _) (e := ?_) | refine Kd (e := ?_) | refine ⟨(rfl : look _ _ = look _ _), ?_⟩ | fail) <;> ((conv => whnf); repeat' (refine vcC_go tok {} rfl ?_; conv => whnf)))
      refine ⟨fun h5 => ?_, fun h5 => ?_⟩ <;> (try simp only [BB, List.length_map] at h5) <;> ((conv => whnf); repeat' (refine vcC_go tok {} rfl ?_; conv => whnf))
      · have hj1 : j < bs.length := by omega
        obtain ⟨f1, f2⟩ := F4 j hj1
        refine draw_rule tok (cf := {}) (by kernel_rfl) [.p 0, .p 1, .p 2, .p 3, .p 4, .p 5, .p 6, .p 7, .p 8, .p 9, .p 10, .p 11, .p 12, .p 13, .p 14, .p 15, .p 16, .p 17, .p 18, .p 19, .p 20, .p 21, .p 22, .p 23, .p 24, .p 25, .p 26, .p 27, .p 28, .p 29, .p 30, .p 31, .p 32, .p 33, .p 34, .p 35, .p 36, .p 37, .p 38, .p 39, .p 40, .p 41, .p 42, .p 43, .p 44, .p 45, .p 46, .p 47, .p 48, .p 49, .p 50] (by kernel_rfl) ?_
        ((conv => whnf); repeat' (refine vcC_go tok {} rfl ?_; conv => whnf))
        repeat' ((first | (intro hlq; (try simp only [List.length_map, maxLen] at hlq)) | refine Ks ?_ | refine Kq ?_ | refine Kt ?_ | ((refine ⟨fun (hb : _ = true) => ?_, fun (hb : _ = false) => ?_⟩) <;> (try simp only [BB, List.length_map] at hb)) | refine Ka ?_ | refine Kb ?_ | refine Kc (hd := rfl) (e := ?_) | refine Kc (hd := rfl) (e := ?_) | refine Kd (e := ?_) | refine ⟨(rfl : look _ _ = look _ _), ?_⟩ | fail) <;> ((conv => whnf); repeat' (refine vcC_go tok {} rfl ?_; conv => whnf)))
        all_goals try first
          | (exfalso; omega)
        refine ⟨⟨⟨_, rfl⟩, imap_key⟩, ?_⟩
        refine ⟨_, imap_get _ _, ?_⟩
        rw [decide_eq_false (f2 i)]
        ((conv => whnf); repeat' (refine vcC_go tok {} rfl ?_; conv => whnf))
        by_cases h0 : 0 < j
        · have f5 := F5 j hj1 h0
          have hj0 : ((j : Nat) : Int) - 1 = ((j - 1 : Nat) : Int) := by omega
          have hx0 : (bs.map prC)[((j : Int) - 1).toNat]? = some (prC (bs[j - 1]'(by omega))) := by
            rw [hj0, Int.toNat_natCast, List.getElem?_map, List.getElem?_eq_getElem (by omega)]; rfl
          repeat' ((first | (intro hlq; (try simp only [List.length_map, maxLen] at hlq)) | refine ⟨prC (bs[j - 1]'(by omega)), ⟨by omega, hx0, rfl⟩, ?_⟩ | refine Ks ?_ | refine Kq ?_ | refine Kt ?_ | ((refine ⟨fun (hb : _ = true) => ?_, fun (hb : _ = false) => ?_⟩) <;> (try simp only [BB, List.length_map] at hb)) | refine Ka ?_ | refine Kb ?_ | refine Kc (hd := rfl) (e := ?_) | refine Kc (hd := rfl) (e := ?_) | refine Kd (e := ?_) | refine ⟨(rfl : look _ _ = look _ _), ?_⟩ | fail) <;> ((conv => whnf); repeat' (refine vcC_go tok {} rfl ?_; conv => whnf)))
          all_goals first
            | contradiction
            | (exfalso; omega)
            | (refine ⟨⟨j + 1, ?_, by omega, by omega⟩⟩
               repeat' (first | exact True.intro | exact rfl | refine And.intro ?_ ?_))
        · repeat' ((first | (intro hlq; (try simp only [List.length_map, maxLen] at hlq)) | refine Ks ?_ | refine Kq ?_ | refine Kt ?_ | ((refine ⟨fun (hb : _ = true) => ?_, fun (hb : _ = false) => ?_⟩) <;> (try simp only [BB, List.length_map] at hb)) | refine Ka ?_ | refine Kb ?_ | refine Kc (hd := rfl) (e := ?_) | refine Kc (hd := rfl) (e := ?_) | refine Kd (e := ?_) | refine ⟨(rfl : look _ _ = look _ _), ?_⟩ | fail) <;> ((conv => whnf); repeat' (refine vcC_go tok {} rfl ?_; conv => whnf)))
          all_goals first
            | contradiction
            | (exfalso; omega)
            | (refine ⟨⟨j + 1, ?_, by omega, by omega⟩⟩
               repeat' (first | exact True.intro | exact rfl | refine And.intro ?_ ?_))
      · exact ⟨rfl⟩
  · refine enter tok {} Tryz.func7 rfl (by kernel_rfl) Tryz.ntmps7 (by simp) fun B0 W0 V0 lent g0 => ?_
    ((conv => whnf); repeat' (refine vcC_go tok {} rfl ?_; conv => whnf))
    repeat' ((first | (intro hlq; (try simp only [List.length_map, maxLen] at hlq)) | refine Meets.k (kS) ?_ | refine Ks ?_ | refine Kq ?_ | refine Kt ?_ | ((refine ⟨fun (hb : _ = true) => ?_, fun (hb : _ = false) => ?_⟩) <;> (try simp only [BB, List.length_map] at hb)) | refine Ka ?_ | refine Kb ?_ | refine Kc (hd := rfl) (e := ?_) | refine Kc (hd := icells_eq _) (e := ?_) | refine Kd (e := ?_) | refine ⟨(rfl : look _ _ = look _ _), ?_⟩ | fail) <;> ((conv => whnf); repeat' (refine vcC_go tok {} rfl ?_; conv => whnf)))
    all_goals first
      | exact ⟨rfl⟩
      | contradiction
      | (exfalso; omega)
end Go.Proofs.YtedjnaggkakphaaGreatDoor.Dx

