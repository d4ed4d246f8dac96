/- The walk of the law of comments. -/
import Derived.Test.YtedjnaggkakphaaGreatDoorLk
set_option linter.all false
namespace Go.Proofs.YtedjnaggkakphaaGreatDoor.Dx
open Go Go.RowKit Go.Proofs
set_option linter.all false
set_option maxRecDepth 100000
set_option maxHeartbeats 1000000

theorem Alike_meets (xs ys : List Tk) (h1 : xs.length ≤ 1048576) (h2 : ys.length ≤ 1048576) (hA : xs.map Tk.bare = ys.map Tk.bare) : Meets Tryz.prog 21 [.sl (xs.map tkC), .sl (ys.map tkC)] fun d => d = bD true := by
  have hlen : xs.length = ys.length := by
    have := congrArg List.length hA
    simpa using this
  have hat : ∀ (i : Nat) (hx : i < xs.length) (hy : i < ys.length), xs[i].kind = ys[i].kind ∧ xs[i].text = ys[i].text := by
    intro i hx hy
    have h := congrArg (fun l => l[i]?) hA
    simp only [List.getElem?_map, List.getElem?_eq_getElem hx, List.getElem?_eq_getElem hy, Option.map_some, Option.some.injEq, Tk.bare, Prod.mk.injEq] at h
    exact h
  refine enter tok {} Tryz.func21 rfl (by kernel_rfl) Tryz.ntmps21 (by simp) fun B0 W0 V0 lent g0 => ?_
  ((conv => whnf); repeat' (refine vcC_go tok {} rfl ?_; conv => whnf))
  repeat' ((first | (intro hlq; (try simp only [List.length_map, maxLen] at hlq)) | refine Ks ?_ | refine Kq ?_ | refine Kt ?_ | refine Ka ?_ | refine Kb ?_ | refine Kc (hd := rfl) (e := ?_) | refine Kc (hd := icells_eq _) (e := ?_) | refine Kd (e := ?_) | refine ⟨(rfl : look _ _ = look _ _), ?_⟩ | fail) <;> ((conv => whnf); repeat' (refine vcC_go tok {} rfl ?_; conv => whnf)))
  refine ⟨fun h0 => ?_, fun h0 => ?_⟩ <;> (try simp only [BB, List.length_map] at h0) <;> ((conv => whnf); repeat' (refine vcC_go tok {} rfl ?_; conv => whnf))
  · exfalso; omega
  refine loop_upd tok {} [] (X := Nat) (fun i => [(5, iB i)]) (fun _ => []) [] (fun i => i ≤ xs.length) (fun i => xs.length - i) 0 ?_
  ((conv => whnf); repeat' (refine vcC_go tok {} rfl ?_; conv => whnf))
  refine And.intro ?_ ⟨by omega, fun i hi => ?_⟩
  · repeat' (first | exact True.intro | exact rfl | refine And.intro ?_ ?_)
  ((conv => whnf); repeat' (refine vcC_go tok {} rfl ?_; conv => whnf))
  repeat' ((first | (intro hlq; (try simp only [List.length_map, maxLen] at hlq)) | refine Ks ?_ | refine Kq ?_ | refine Kt ?_ | refine Ka ?_ | refine Kb ?_ | refine Kc (hd := rfl) (e := ?_) | refine Kc (hd := icells_eq _) (e := ?_) | refine Kd (e := ?_) | refine ⟨(rfl : look _ _ = look _ _), ?_⟩ | fail) <;> ((conv => whnf); repeat' (refine vcC_go tok {} rfl ?_; conv => whnf)))
  refine ⟨fun h3 => ?_, fun h3 => ?_⟩ <;> (try simp only [BB, List.length_map] at h3) <;> ((conv => whnf); repeat' (refine vcC_go tok {} rfl ?_; conv => whnf))
  · have hx : i < xs.length := by omega
    have hy : i < ys.length := by omega
    obtain ⟨e1, e2⟩ := hat i hx hy
    refine draw_rule tok (cf := {}) (by kernel_rfl) [.p 0, .p 1, .p 2, .p 3, .p 4, .p 5, .p 6, .p 7, .p 8, .p 9, .p 10, .p 11, .p 12, .p 13, .p 14, .p 15, .p 16, .p 17, .p 18, .p 19, .p 20, .p 21, .p 22, .p 23] (by kernel_rfl) ?_
    ((conv => whnf); repeat' (refine vcC_go tok {} rfl ?_; conv => whnf))
    repeat' ((first | (intro hlq; (try simp only [List.length_map, maxLen] at hlq)) | refine Ks ?_ | refine Kq ?_ | refine Kt ?_ | ((refine ⟨fun (hb : _ = true) => ?_, fun (hb : _ = false) => ?_⟩) <;> (try simp only [BB, List.length_map] at hb)) | refine Ka ?_ | refine Kb ?_ | refine Kc (hd := rfl) (e := ?_) | refine Kc (hd := icells_eq _) (e := ?_) | refine Kd (e := ?_) | refine ⟨(rfl : look _ _ = look _ _), ?_⟩ | fail) <;> ((conv => whnf); repeat' (refine vcC_go tok {} rfl ?_; conv => whnf)))
    all_goals first
      | (exfalso; omega)
      | (exfalso; exact absurd e2 (by assumption))
      | (refine ⟨⟨i + 1, ?_, by omega, by omega⟩⟩
         repeat' (first | exact True.intro | exact rfl | refine And.intro ?_ ?_))
  · exact ⟨rfl⟩
theorem toks_len (src : List UInt8) : (toks src 0).length ≤ src.length + 1 := by
  have key : ∀ (k : Nat) (r : List UInt8) (a : Nat), r.length ≤ k → (toks r a).length ≤ r.length + 1 := by
    intro k
    induction k with
    | zero => intro r a h; have e := List.eq_nil_of_length_eq_zero (l := r) (by omega); subst e; rw [toks_nil]; simp
    | succ k ih =>
      intro r a h
      cases r with
      | nil => rw [toks_nil]; simp
      | cons c t =>
        have h1 := stepT_le c t
        simp only [List.length_cons] at h ⊢
        have := ih ((c :: t).drop (stepT (c :: t)).2.2) (a + (stepT (c :: t)).2.2) (by rw [List.length_drop, List.length_cons]; omega)
        rw [List.length_drop, List.length_cons] at this
        rw [toks_cons]
        split
        · rw [List.length_cons]; omega
        · omega
  exact key _ src 0 (Nat.le_refl _)
def filt (l : List UInt8) : List UInt8 := l.filter fun b => b != 10 && b != 34
theorem LComments_meets (src : List UInt8) (n : Int) (remark : List UInt8) (h1 : src.length ≤ 1048576) (h2 : remark.length ≤ 1048576) : Meets Tryz.prog 8 [.sl (byteCells src), .v (.int .u64 n), .sl (byteCells remark)] fun r => r = bD true := by
  have kS := sane_meets.bl
  by_cases hl : src.length ≤ 2000 ∧ remark.length ≤ 100
  · obtain ⟨hl1, hl2⟩ := hl
    have k1 := cTokens_meets cTime_meets src (by omega)
    obtain ⟨i, hi, hx⟩ := toks_init _ src 0 (Nat.le_refl _)
    have hne : 0 < (toks src 0).length := by rw [hi]; simp
    have hsl := starts_ge _ src 0 (Nat.le_refl _)
    unfold tokD at k1
    refine enter tok {} Tryz.func8 rfl (by kernel_rfl) Tryz.ntmps8 (by simp) fun B0 W0 V0 lent g0 => ?_
    ((conv => whnf); repeat' (refine vcC_go tok {} rfl ?_; conv => whnf))
    repeat' ((first | (intro hlq; (try simp only [List.length_map, maxLen] at hlq)) | refine Meets.k (kS) ?_ | refine Meets.k (k1) ?_ | refine Ks ?_ | refine Kq ?_ | refine Kt ?_ | ((refine ⟨fun (hb : _ = true) => ?_, fun (hb : _ = false) => ?_⟩) <;> (try simp only [BB, List.length_map] at hb)) | refine Ka ?_ | refine Kb ?_ | refine Kc (hd := rfl) (e := ?_) | refine Kc (hd := icells_eq _) (e := ?_) | refine Kd (e := ?_) | refine ⟨(rfl : look _ _ = look _ _), ?_⟩ | fail) <;> ((conv => whnf); repeat' (refine vcC_go tok {} rfl ?_; conv => whnf)))
    all_goals try first
      | exact ⟨rfl⟩
      | contradiction
      | (exfalso; omega)
    have hm1 : (toks src 0).length ≤ 2001 := by
      have := toks_len src
      omega
    refine ⟨fun _ => ⟨by simp only [List.length_map]; omega, by simp only [List.length_map]; omega⟩, ?_⟩
    ((conv => whnf); repeat' (refine vcC_go tok {} rfl ?_; conv => whnf))
    refine ⟨fun h _ => ⟨h.1, by simp only [List.length_map]; omega⟩, ?_⟩
    ((conv => whnf); repeat' (refine vcC_go tok {} rfl ?_; conv => whnf))
    refine ⟨fun h => ⟨by have := h.1; omega, by
      have := Int.emod_lt_of_pos n (show (0 : Int) < ((toks src 0).map tkC).length by simp only [List.length_map]; omega)
      simp only [List.length_map] at *; omega⟩, ?_⟩
    obtain ⟨q, hq, hqe⟩ : ∃ q : Nat, q < (toks src 0).length ∧ n % (((toks src 0).map tkC).length : Int) = (q : Int) := by
      have h0 : (0 : Int) < ((toks src 0).map tkC).length := by simp only [List.length_map]; omega
      have := Int.emod_lt_of_pos n h0
      have := Int.emod_nonneg n (Int.ne_of_gt h0)
      exact ⟨(n % (((toks src 0).map tkC).length : Int)).toNat, by simp only [List.length_map] at *; omega, by omega⟩
    rw [hqe]
    obtain ⟨a1, a2⟩ := hsl _ (List.getElem_mem hq)
    have hlen := toks_len src
    ((conv => whnf); repeat' (refine vcC_go tok {} rfl ?_; conv => whnf))
    repeat' ((first | (intro hlq; (try simp only [List.length_map, maxLen] at hlq)) | refine Ks ?_ | refine Kq ?_ | refine Kt ?_ | ((refine ⟨fun (hb : _ = true) => ?_, fun (hb : _ = false) => ?_⟩) <;> (try simp only [BB, List.length_map] at hb)) | refine Ka ?_ | refine Kb ?_ | refine Kc (hd := rfl) (e := ?_) | refine Kc (hd := rfl) (e := ?_) | refine Kd (e := ?_) | refine ⟨(rfl : look _ _ = look _ _), ?_⟩ | fail) <;> ((conv => whnf); repeat' (refine vcC_go tok {} rfl ?_; conv => whnf)))
    all_goals try first
      | (exfalso; omega)
    generalize hat : (toks src 0)[q].at_ = at_ at *
    have e0 : List.drop (Int.toNat 0) (List.take ((at_ : Nat) : Int).toNat (byteCells src)) = byteCells (src.take at_) := by
      rw [Int.toNat_natCast]; simp [byteCells, List.map_take]
    refine ⟨fun _ => ⟨by omega, by omega, by simp only [List.length_map]; omega, bc_len src⟩, ?_⟩
    ((conv => whnf); repeat' (refine vcC_go tok {} rfl ?_; conv => whnf))
    rw [e0]
    refine ⟨bc_len _, ?_⟩
    ((conv => whnf); repeat' (refine vcC_go tok {} rfl ?_; conv => whnf))
    have htl : (src.take at_).length ≤ 2000 := by rw [List.length_take]; omega
    refine ⟨⟨fun _ _ => ⟨by simp only [List.length_map, List.length_nil]; omega, by simp only [List.length_map, List.length_nil]; omega⟩, by simp⟩, ?_⟩
    ((conv => whnf); repeat' (refine vcC_go tok {} rfl ?_; conv => whnf))
    repeat' ((first | (intro hlq; (try simp only [List.length_map, maxLen] at hlq)) | refine Kar ?_ | refine Ks ?_ | refine Kq ?_ | refine Kt ?_ | ((refine ⟨fun (hb : _ = true) => ?_, fun (hb : _ = false) => ?_⟩) <;> (try simp only [BB, List.length_map] at hb)) | refine Ka ?_ | refine Kb ?_ | refine Kc (hd := rfl) (e := ?_) | refine Kc (hd := icells_eq _) (e := ?_) | refine Kd (e := ?_) | refine ⟨(rfl : look _ _ = look _ _), ?_⟩ | fail) <;> ((conv => whnf); repeat' (refine vcC_go tok {} rfl ?_; conv => whnf)))
    refine ⟨fun _ _ => by dsimp only; rw [List.nil_append]; simp only [List.length_map, List.length_cons, List.length_nil]; omega, ?_⟩
    ((conv => whnf); repeat' (refine vcC_go tok {} rfl ?_; conv => whnf))
    refine loop_upd tok {} [] (X := Nat × List UInt8) (fun x => [(12, iB x.1), (11, .own 61), (64, .junk)]) (fun x => [(61, .sl ⟨5, 1, byteCells (src.take at_ ++ 35 :: x.2), true⟩)]) [] (fun x => x.1 ≤ remark.length ∧ x.2 = filt (remark.take x.1)) (fun x => remark.length - x.1) (0, []) ?_
    ((conv => whnf); repeat' (refine vcC_go tok {} rfl ?_; conv => whnf))
    refine And.intro ?_ ⟨⟨by dsimp only; omega, rfl⟩, fun x hi => ?_⟩
    · repeat' (first | exact True.intro | exact rfl | (simp [byteCells]; done) | refine And.intro ?_ ?_)
    obtain ⟨i, acc⟩ := x
    dsimp only at hi ⊢
    obtain ⟨hi, ha⟩ := hi
    have hf : acc.length ≤ 100 := by rw [ha]; exact Nat.le_trans (List.length_filter_le _ _) (by rw [List.length_take]; omega)
    have hbl : (byteCells (src.take at_ ++ 35 :: acc)).length ≤ 3000 := by
      simp only [List.length_map, List.length_append, List.length_cons]; omega
    ((conv => whnf); repeat' (refine vcC_go tok {} rfl ?_; conv => whnf))
    repeat' ((first | (intro hlq; (try simp only [List.length_map, maxLen] at hlq)) | refine Ks ?_ | refine Kq ?_ | refine Kt ?_ | refine Ka ?_ | refine Kb ?_ | refine Kc (hd := rfl) (e := ?_) | refine Kc (hd := icells_eq _) (e := ?_) | refine Kd (e := ?_) | refine ⟨(rfl : look _ _ = look _ _), ?_⟩ | fail) <;> ((conv => whnf); repeat' (refine vcC_go tok {} rfl ?_; conv => whnf)))
    refine ⟨fun h3 => ?_, fun h3 => ?_⟩ <;> (try simp only [BB, List.length_map] at h3) <;> ((conv => whnf); repeat' (refine vcC_go tok {} rfl ?_; conv => whnf))
    · have hx : i < remark.length := by omega
      have hst : filt (remark.take (i + 1)) = acc ++ filt [remark[i]] := by
        rw [ha, List.take_succ_eq_append_getElem hx, filt, List.filter_append]; rfl
      have e10 : remark[i] = 10 ↔ (remark[i].toNat : Int) = 10 := u8_eq (n := 10) (by decide)
      have e34 : remark[i] = 34 ↔ (remark[i].toNat : Int) = 34 := u8_eq (n := 34) (by decide)
      clear ha
      repeat' ((first | (intro hlq; (try simp only [List.length_map, maxLen] at hlq)) | refine Kar ?_ | refine ⟨fun _ _ => ⟨by dsimp only; simp only [List.length_cons, List.length_nil]; omega, by dsimp only; simp only [List.length_cons, List.length_nil]; omega⟩, ?_⟩ | refine Ks ?_ | refine Kq ?_ | refine Kt ?_ | ((refine ⟨fun (hb : _ = true) => ?_, fun (hb : _ = false) => ?_⟩) <;> (try simp only [BB, List.length_map] at hb)) | refine Ka ?_ | refine Kb ?_ | refine Kc (hd := rfl) (e := ?_) | refine Kc (hd := rfl) (e := ?_) | refine Kd (e := ?_) | refine ⟨(rfl : look _ _ = look _ _), ?_⟩ | fail) <;> ((conv => whnf); repeat' (refine vcC_go tok {} rfl ?_; conv => whnf)))
      · have ek : filt [remark[i]] = [remark[i]] := by
          have n10 : (remark[i] != 10) = true := by rw [bne_iff_ne]; exact fun e => (by assumption : (remark[i].toNat : Int) ≠ 10) (e10.1 e)
          have n34 : (remark[i] != 34) = true := by rw [bne_iff_ne]; exact fun e => (by assumption : (remark[i].toNat : Int) ≠ 34) (e34.1 e)
          simp only [filt, List.filter_cons, n10, n34, Bool.and_self, if_true, List.filter_nil]
        refine ⟨⟨(i + 1, acc ++ [remark[i]]), ?_, ⟨by dsimp only; omega, by dsimp only; rw [hst, ek]⟩, by dsimp only; omega⟩⟩
        repeat' (first | exact True.intro | exact rfl | (show _ = byteCells _; simp [byteCells]; done) | refine And.intro ?_ ?_)
      · have ek : filt [remark[i]] = [] := by
          rw [e34.2 (by omega)]; rfl
        refine ⟨⟨(i + 1, acc), ?_, ⟨by dsimp only; omega, by dsimp only; rw [hst, ek, List.append_nil]⟩, by dsimp only; omega⟩⟩
        repeat' (first | exact True.intro | exact rfl | refine And.intro ?_ ?_)
      · have ek : filt [remark[i]] = [] := by
          rw [e10.2 (by omega)]; rfl
        refine ⟨⟨(i + 1, acc), ?_, ⟨by dsimp only; omega, by dsimp only; rw [hst, ek, List.append_nil]⟩, by dsimp only; omega⟩⟩
        repeat' (first | exact True.intro | exact rfl | refine And.intro ?_ ?_)
    · rw [List.take_of_length_le (l := remark) (by omega)] at ha
      have e1 : List.drop ((at_ : Nat) : Int).toNat (List.take ((byteCells src).length : Int).toNat (byteCells src)) = byteCells (src.drop at_) := by
        rw [Int.toNat_natCast, Int.toNat_natCast, List.take_of_length_le (Nat.le_refl _)]; simp [byteCells, List.map_drop]
      have hdl : (byteCells (src.drop at_)).length ≤ 2000 := by simp only [List.length_map, List.length_drop]; omega
      refine draw_rule tok (cf := {}) (by kernel_rfl) [.p 0, .p 1, .p 3, .p 4, .p 5, .s 2 [0,1], .s 6 [5,3,4], .p 7] (by kernel_rfl) ?_
      ((conv => whnf); repeat' (refine vcC_go tok {} rfl ?_; conv => whnf))
      repeat' ((first | (intro hlq; (try simp only [List.length_map, maxLen] at hlq)) | refine Kyz ?_ | refine Kar ?_ | refine ⟨fun _ _ => ⟨by dsimp only; simp only [List.length_cons, List.length_nil]; omega, by dsimp only; simp only [List.length_cons, List.length_nil]; omega⟩, ?_⟩ | refine Ks ?_ | refine Kq ?_ | refine Kt ?_ | ((refine ⟨fun (hb : _ = true) => ?_, fun (hb : _ = false) => ?_⟩) <;> (try simp only [BB, List.length_map] at hb)) | refine Ka ?_ | refine Kb ?_ | refine Kc (hd := rfl) (e := ?_) | refine Kc (hd := icells_eq _) (e := ?_) | refine Kd (e := ?_) | refine ⟨(rfl : look _ _ = look _ _), ?_⟩ | fail) <;> ((conv => whnf); repeat' (refine vcC_go tok {} rfl ?_; conv => whnf)))
      rw [e1]
      refine ⟨bc_len _, ?_⟩
      ((conv => whnf); repeat' (refine vcC_go tok {} rfl ?_; conv => whnf))
      repeat' ((first | (intro hlq; (try simp only [List.length_map, maxLen] at hlq)) | refine ⟨fun _ _ => ⟨by dsimp only; simp only [List.length_append, List.length_cons, List.length_nil]; omega, by dsimp only; simp only [List.length_append, List.length_cons, List.length_nil]; omega⟩, ?_⟩ | refine Ks ?_ | refine Kq ?_ | refine Kt ?_ | ((refine ⟨fun (hb : _ = true) => ?_, fun (hb : _ = false) => ?_⟩) <;> (try simp only [BB, List.length_map] at hb)) | refine Ka ?_ | refine Kb ?_ | refine Kc (hd := rfl) (e := ?_) | refine Kc (hd := icells_eq _) (e := ?_) | refine Kd (e := ?_) | refine ⟨(rfl : look _ _ = look _ _), ?_⟩ | fail) <;> ((conv => whnf); repeat' (refine vcC_go tok {} rfl ?_; conv => whnf)))
      have hno : ∀ c, (c = 10 ∨ c = 34) → c ∉ acc := by
        intro c hc hm
        rw [ha, filt, List.mem_filter] at hm
        rcases hc with rfl | rfl
        · exact absurd hm.2 (by decide)
        · exact absurd hm.2 (by decide)
      have hXl : (src.take at_ ++ 35 :: (acc ++ 10 :: src.drop at_)).length ≤ 65536 := by
        simp only [List.length_append, List.length_cons, List.length_take, List.length_drop]; omega
      have hlaw := comment_law (src.drop at_) acc (hno 34 (.inr rfl)) (hno 10 (.inl rfl)) _ (src.take at_) 0 0 (Nat.le_refl _) (by
        rw [List.take_append_drop]
        exact ⟨_, List.getElem_mem hq, by rw [hat, List.length_take]; omega⟩)
      rw [List.take_append_drop] at hlaw
      have hXt := toks_len (src.take at_ ++ 35 :: (acc ++ 10 :: src.drop at_))
      have k2 : Meets Tryz.prog 12 [.sl ((byteCells (src.take at_ ++ 35 :: acc) ++ [[cD 10]]) ++ byteCells (src.drop at_))] fun d => d = .tup [.sl ((toks (src.take at_ ++ 35 :: (acc ++ 10 :: src.drop at_)) 0).map tkC), .sl ((bads (src.take at_ ++ 35 :: (acc ++ 10 :: src.drop at_)) 0 (-1) 0).map prC), iD 0] := by
        have e : (byteCells (src.take at_ ++ 35 :: acc) ++ [[cD 10]]) ++ byteCells (src.drop at_) = byteCells (src.take at_ ++ 35 :: (acc ++ 10 :: src.drop at_)) := by
          simp [byteCells]
        rw [e]
        exact cTokens_meets cTime_meets _ hXl
      have k3 := (Alike_meets (toks src 0) (toks (src.take at_ ++ 35 :: (acc ++ 10 :: src.drop at_)) 0) (by omega) (by omega) hlaw.symm).bl
      refine Meets.k k2 ?_
      ((conv => whnf); repeat' (refine vcC_go tok {} rfl ?_; conv => whnf))
      repeat' ((first | (intro hlq; (try simp only [List.length_map, maxLen] at hlq)) | refine Meets.k (k3) ?_ | refine Ks ?_ | refine Kq ?_ | refine Kt ?_ | ((refine ⟨fun (hb : _ = true) => ?_, fun (hb : _ = false) => ?_⟩) <;> (try simp only [BB, List.length_map] at hb)) | refine Ka ?_ | refine Kb ?_ | refine Kc (hd := rfl) (e := ?_) | refine Kc (hd := icells_eq _) (e := ?_) | refine Kd (e := ?_) | refine ⟨(rfl : look _ _ = look _ _), ?_⟩ | fail) <;> ((conv => whnf); repeat' (refine vcC_go tok {} rfl ?_; conv => whnf)))
      all_goals first
        | exact ⟨rfl⟩
        | contradiction
  · refine enter tok {} Tryz.func8 rfl (by kernel_rfl) Tryz.ntmps8 (by simp) fun B0 W0 V0 lent g0 => ?_
    ((conv => whnf); repeat' (refine vcC_go tok {} rfl ?_; conv => whnf))
    repeat' ((first | (intro hlq; (try simp only [List.length_map, maxLen] at hlq)) | refine Meets.k (kS) ?_ | refine Ks ?_ | refine Kq ?_ | refine Kt ?_ | ((refine ⟨fun (hb : _ = true) => ?_, fun (hb : _ = false) => ?_⟩) <;> (try simp only [BB, List.length_map] at hb)) | refine Ka ?_ | refine Kb ?_ | refine Kc (hd := rfl) (e := ?_) | refine Kc (hd := icells_eq _) (e := ?_) | refine Kd (e := ?_) | refine ⟨(rfl : look _ _ = look _ _), ?_⟩ | fail) <;> ((conv => whnf); repeat' (refine vcC_go tok {} rfl ?_; conv => whnf)))
    all_goals first
      | exact ⟨rfl⟩
      | contradiction
      | (exfalso; omega)
end Go.Proofs.YtedjnaggkakphaaGreatDoor.Dx

