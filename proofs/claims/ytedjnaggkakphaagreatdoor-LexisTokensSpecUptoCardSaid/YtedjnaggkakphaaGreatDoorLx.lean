/- The reference's Tokens. -/
import Derived.Test.YtedjnaggkakphaaGreatDoorLw
import Derived.Test.YtedjnaggkakphaaGreatDoorLv
import Derived.Test.YtedjnaggkakphaaGreatDoorLk
set_option linter.all false
namespace Go.Proofs.YtedjnaggkakphaaGreatDoor.Dx
open Go Go.RowKit Go.Proofs
set_option linter.all false
set_option maxRecDepth 100000
set_option maxHeartbeats 1000000

theorem rtoken_meets (hR : RTimeOk) (src : List UInt8) (a : Nat) (ha : a < src.length) (hl : src.length ≤ 65536) : Meets Tryz.prog 30 [.sl (byteCells src), iD a] fun d => d = .tup [tkA a (readT (src.drop a)), iD (readT (src.drop a)).2.2] := by
  cases h1 : isLt src[a] with
  | true => exact rtoken_word src a ha hl h1
  | false =>
    cases h2 : (isDg src[a] || (src[a] == 45 && hdDg (src.drop (a + 1)))) with
    | true => exact rtoken_num hR src a ha hl h1 h2
    | false =>
      by_cases h3 : src[a] = 34
      · cases hq : quoN (src.drop (a + 1)) with
        | none => exact rtoken_sign src a ha hl h1 h2 fun _ => hq
        | some x => exact rtoken_text src a ha hl h1 h2 h3 hq
      · exact rtoken_sign src a ha hl h1 h2 fun e => absurd e h3
theorem TAt.at_ {src : List UInt8} {a j : Nat} {acc : List Tk} {nb : List Nat} {en : Int} (h : TAt src a acc nb en) (hb : BAt src a j) : TAt src j acc nb en := by
  have h1 := hb.lo; have h2 := h.tl; have h3 := h.bl
  exact ⟨hb.hi, by omega, by omega, h.en0, by rw [hb.tk]; exact h.tk, by rw [hb.bd]; exact h.bd⟩
theorem rTokens_big (src : List UInt8) (hl : 65536 < src.length) (hm : src.length ≤ 1048576) : Meets Tryz.prog 13 [.sl (byteCells src)] fun d => d = .tup [.sl [], .sl [], iD 2] := by
  refine enter tok {} Tryz.func13 rfl (by kernel_rfl) Tryz.ntmps13 (by simp) fun B0 W0 V0 lent g0 => ?_
  ((conv => whnf); repeat' (refine vcC_go tok {} rfl ?_; conv => whnf))
  repeat' ((first | (intro hlq; (try simp only [List.length_map, maxLen] at hlq)) | refine Ks ?_ | refine Kq ?_ | refine Kt ?_ | refine Ka ?_ | refine Kb ?_ | refine Kc (hd := rfl) (e := ?_) | refine Kc (hd := icells_eq _) (e := ?_) | refine Kd (e := ?_) | refine ⟨(rfl : look _ _ = look _ _), ?_⟩ | fail) <;> ((conv => whnf); repeat' (refine vcC_go tok {} rfl ?_; conv => whnf)))
  refine ⟨fun h0 => ?_, fun h0 => ?_⟩ <;> (try simp only [BB, List.length_map] at h0) <;> ((conv => whnf); repeat' (refine vcC_go tok {} rfl ?_; conv => whnf))
  · exact ⟨rfl⟩
  · exfalso; omega
theorem rTokens_meets (hR : RTimeOk) (src : List UInt8) (hl : src.length ≤ 65536) : Meets Tryz.prog 13 [.sl (byteCells src)] fun d => d = tokD src := by
  refine enter tok {} Tryz.func13 rfl (by kernel_rfl) Tryz.ntmps13 (by simp) fun B0 W0 V0 lent g0 => ?_
  ((conv => whnf); repeat' (refine vcC_go tok {} rfl ?_; conv => whnf))
  repeat' ((first | (intro hlq; (try simp only [List.length_map, maxLen] at hlq)) | refine Ks ?_ | refine Kq ?_ | refine Kt ?_ | refine Ka ?_ | refine Kb ?_ | refine Kc (hd := rfl) (e := ?_) | refine Kc (hd := icells_eq _) (e := ?_) | refine Kd (e := ?_) | refine ⟨(rfl : look _ _ = look _ _), ?_⟩ | fail) <;> ((conv => whnf); repeat' (refine vcC_go tok {} rfl ?_; conv => whnf)))
  refine ⟨fun h0 => ?_, fun h0 => ?_⟩ <;> (try simp only [BB, List.length_map] at h0) <;> ((conv => whnf); repeat' (refine vcC_go tok {} rfl ?_; conv => whnf))
  · exfalso; omega
  refine loop_upd tok {} [(.inl 5, 5, 38, 3), (.inl 6, 6, 41, 2)] (X := Nat × List Tk × List Nat × Int) (fun x => [(7, iB x.1), (8, iB x.2.2.2), (5, .own 5), (6, .own 6)]) (fun x => [(5, .sl ⟨38, 3, x.2.1.map tkC, true⟩), (6, .sl ⟨41, 2, x.2.2.1.map prC, true⟩)]) [] (fun x => TAt src x.1 x.2.1 x.2.2.1 x.2.2.2) (fun x => src.length - x.1) (0, [], [], -1) ?_
  ((conv => whnf); repeat' (refine vcC_go tok {} rfl ?_; conv => whnf))
  refine ⟨by simp, ?_⟩
  ((conv => whnf); repeat' (refine vcC_go tok {} rfl ?_; conv => whnf))
  refine ⟨by simp, ?_⟩
  ((conv => whnf); repeat' (refine vcC_go tok {} rfl ?_; conv => whnf))
  refine And.intro ?_ ⟨TAt.zero src, fun x hΦ => ?_⟩
  · repeat' (first | exact True.intro | exact rfl | refine And.intro ?_ ?_)
  obtain ⟨a, acc, nb, en⟩ := x
  dsimp only at hΦ ⊢
  have ha := hΦ.le
  ((conv => whnf); repeat' (refine vcC_go tok {} rfl ?_; conv => whnf))
  refine (rblank_meets src a ha hl).mono ?_
  rintro _ ⟨j, rfl, hB, hj⟩
  have hΨ := hΦ.at_ hB
  have hjl := hB.hi
  have hlo := hB.lo
  have htl := hΨ.tl
  have hbl := hΨ.bl
  have hen := hΨ.en0
  ((conv => whnf); repeat' (refine vcC_go tok {} rfl ?_; conv => whnf))
  repeat' ((first | (intro hlq; (try simp only [List.length_map, maxLen] at hlq)) | refine Ks ?_ | refine Kq ?_ | refine Kt ?_ | refine Ka ?_ | refine Kb ?_ | refine Kc (hd := rfl) (e := ?_) | refine Kc (hd := icells_eq _) (e := ?_) | refine Kd (e := ?_) | refine ⟨(rfl : look _ _ = look _ _), ?_⟩ | fail) <;> ((conv => whnf); repeat' (refine vcC_go tok {} rfl ?_; conv => whnf)))
  refine ⟨fun h1 => ?_, fun h1 => ?_⟩ <;> (try simp only [BB, List.length_map] at h1) <;> ((conv => whnf); repeat' (refine vcC_go tok {} rfl ?_; conv => whnf))
  · have h1' : j = src.length := by omega
    subst h1'
    have htk := hΨ.tk
    have hbd := hΨ.bd
    rw [List.drop_length, toks_nil] at htk
    rw [List.drop_length, bads_nil, List.append_nil] at hbd
    repeat' ((first | (intro hlq; (try simp only [List.length_map, maxLen] at hlq)) | refine Kar ?_ | refine Kap ?_ | refine Ks ?_ | refine Kq ?_ | refine Kt ?_ | ((refine ⟨fun (hb : _ = true) => ?_, fun (hb : _ = false) => ?_⟩) <;> (try simp only [BB, List.length_map] at hb)) | refine Ka ?_ | refine Kb ?_ | refine Kc (hd := rfl) (e := ?_) | refine Kc (hd := icells_eq _) (e := ?_) | refine Kd (e := ?_) | refine ⟨(rfl : look _ _ = look _ _), ?_⟩ | fail) <;> ((conv => whnf); repeat' (refine vcC_go tok {} rfl ?_; conv => whnf)))
    refine ⟨?_⟩
    rw [tokD, ← htk, ← hbd, List.map_append]
    rfl
  have h1' : j < src.length := by omega
  obtain ⟨hb, h35⟩ := hj h1'
  have hr := stepT_read h1' hb h35
  have hkd : (readT (src.drop j)).1 ≤ 5 := by rw [List.drop_eq_getElem_cons h1']; exact readT_kind _ _
  have kr := rtoken_meets hR src j h1' hl
  rcases hx : readT (src.drop j) with ⟨k, s, n⟩
  rw [hx] at hr hkd kr
  have hS := hΨ.step h1' hr
  dsimp only at hkd kr
  clear hr hx h35 hb hj hB hΦ
  by_cases hk0 : k = 0
  · subst hk0
    obtain ⟨s1, s2, _, _, s5⟩ := hS
    obtain ⟨t1, t2⟩ := s5 rfl
    have kr : Meets Tryz.prog 30 [.sl (byteCells src), iD j] fun d => d = .tup [tkD 0 [] 0, iD n] := kr
    repeat' ((first | (intro hlq; (try simp only [List.length_map, maxLen] at hlq)) | refine Meets.k (kr) ?_ | refine Kar ?_ | refine Kap ?_ | refine ⟨fun _ _ => i64 (by omega) (by omega), ?_⟩ | refine Ks ?_ | refine Kq ?_ | refine Kt ?_ | ((refine ⟨fun (hb : _ = true) => ?_, fun (hb : _ = false) => ?_⟩) <;> (try simp only [BB, List.length_map] at hb)) | refine Ka ?_ | refine Kb ?_ | refine Kc (hd := rfl) (e := ?_) | refine Kc (hd := icells_eq _) (e := ?_) | refine Kd (e := ?_) | refine ⟨(rfl : look _ _ = look _ _), ?_⟩ | fail) <;> ((conv => whnf); repeat' (refine vcC_go tok {} rfl ?_; conv => whnf)))
    all_goals first
      | contradiction
      | (exfalso; omega)
      | (refine ⟨⟨(j + n, acc, nb ++ [j], ((j + n : Nat) : Int)), ?_, t1 ⟨by omega, by simp only [List.length_map] at *; omega⟩, by dsimp only; omega⟩⟩
         dsimp only
         repeat' (first | exact True.intro | exact rfl | (simp only [List.map_append]; rfl) | refine And.intro ?_ ?_))
      | (refine ⟨⟨(j + n, acc, nb, ((j + n : Nat) : Int)), ?_, t2 (by simp only [List.length_map] at *; omega), by dsimp only; omega⟩⟩
         dsimp only
         repeat' (first | exact True.intro | exact rfl | (simp only [List.map_append]; rfl) | refine And.intro ?_ ?_))
  · obtain ⟨s1, s2, s3, _, _⟩ := hS
    have s3 := s3 (decide_eq_true ⟨by omega, hkd⟩) hk0
    have kr : Meets Tryz.prog 30 [.sl (byteCells src), iD j] fun d => d = .tup [tkD k s j, iD n] := by
      have e : tkA j (k, s, n) = tkD k s j := if_neg hk0
      rw [← e]; exact kr
    repeat' ((first | (intro hlq; (try simp only [List.length_map, maxLen] at hlq)) | refine Meets.k (kr) ?_ | refine Kar ?_ | refine Kap ?_ | refine ⟨fun _ _ => i64 (by omega) (by omega), ?_⟩ | refine Ks ?_ | refine Kq ?_ | refine Kt ?_ | ((refine ⟨fun (hb : _ = true) => ?_, fun (hb : _ = false) => ?_⟩) <;> (try simp only [BB, List.length_map] at hb)) | refine Ka ?_ | refine Kb ?_ | refine Kc (hd := rfl) (e := ?_) | refine Kc (hd := icells_eq _) (e := ?_) | refine Kd (e := ?_) | refine ⟨(rfl : look _ _ = look _ _), ?_⟩ | fail) <;> ((conv => whnf); repeat' (refine vcC_go tok {} rfl ?_; conv => whnf)))
    all_goals first
      | contradiction
      | (exfalso; omega)
      | (refine ⟨⟨(j + n, acc ++ [⟨k, s, j⟩], nb, en), ?_, s3, by dsimp only; omega⟩⟩
         dsimp only
         repeat' (first | exact True.intro | exact rfl | (simp only [List.map_append]; rfl) | refine And.intro ?_ ?_))
theorem starts_len (src : List UInt8) : (toks src 0).length ≤ src.length + 1 ∧ (bads src 0 (-1) 0).length ≤ 64 := by
  refine ⟨?_, ?_⟩
  · have key : ∀ (k : Nat) (r : List UInt8) (a : Nat), r.length ≤ k → (toks r a).length ≤ r.length + 1 := by
      intro k
      induction k with
      | zero => intro r a h; have e := List.eq_nil_of_length_eq_zero (l := r) (by omega); subst e; rw [toks_nil]; simp
      | succ k ih =>
        intro r a h
        cases r with
        | nil => rw [toks_nil]; simp
        | cons c t =>
          have h1 := stepT_le c t
          simp only [List.length_cons] at h ⊢
          have := ih ((c :: t).drop (stepT (c :: t)).2.2) (a + (stepT (c :: t)).2.2) (by rw [List.length_drop, List.length_cons]; omega)
          rw [List.length_drop, List.length_cons] at this
          rw [toks_cons]
          split
          · rw [List.length_cons]; omega
          · omega
    exact key _ src 0 (Nat.le_refl _)
  · have := (bads_all _ src 0 (-1) 0 (Nat.le_refl _) (by omega)).2.2
    omega
theorem LTokensSpec_meets (hR : RTimeOk) (src : List UInt8) (hm : src.length ≤ 1048576) : Meets Tryz.prog 3 [.sl (byteCells src)] fun r => r = bD true := by
  have kS := sane_meets.bl
  by_cases h1 : src.length ≤ 65536
  · by_cases h2 : src.length ≤ 3000
    · have k1 := cTokens_meets cTime_meets src h1
      have k2 := rTokens_meets hR src h1
      have e1 := starts_len src
      have k3 := (Same_meets (toks src 0) (toks src 0) (by omega) (by omega)).bl
      have k4 := (SameP_meets (bads src 0 (-1) 0) (bads src 0 (-1) 0) (by omega) (by omega)).bl
      rw [decide_eq_true rfl] at k3 k4
      unfold tokD at k1 k2
      clear e1 hR
      generalize toks src 0 = ts at *
      generalize bads src 0 (-1) 0 = bs at *
      refine enter tok {} Tryz.func3 rfl (by kernel_rfl) Tryz.ntmps3 (by simp) fun B0 W0 V0 lent g0 => ?_
      ((conv => whnf); repeat' (refine vcC_go tok {} rfl ?_; conv => whnf))
      repeat' ((first | (intro hlq; (try simp only [List.length_map, maxLen] at hlq)) | refine Meets.k (kS) ?_ | refine Meets.k (k1) ?_ | refine Meets.k (k2) ?_ | refine Meets.k (k3) ?_ | refine Meets.k (k4) ?_ | refine Ks ?_ | refine Kq ?_ | refine Kt ?_ | ((refine ⟨fun (hb : _ = true) => ?_, fun (hb : _ = false) => ?_⟩) <;> (try simp only [BB, List.length_map] at hb)) | refine Ka ?_ | refine Kb ?_ | refine Kc (hd := rfl) (e := ?_) | refine Kc (hd := icells_eq _) (e := ?_) | refine Kd (e := ?_) | refine ⟨(rfl : look _ _ = look _ _), ?_⟩ | fail) <;> ((conv => whnf); repeat' (refine vcC_go tok {} rfl ?_; conv => whnf)))
      all_goals first
        | exact ⟨rfl⟩
        | contradiction
        | (exfalso; omega)
    · refine enter tok {} Tryz.func3 rfl (by kernel_rfl) Tryz.ntmps3 (by simp) fun B0 W0 V0 lent g0 => ?_
      ((conv => whnf); repeat' (refine vcC_go tok {} rfl ?_; conv => whnf))
      repeat' ((first | (intro hlq; (try simp only [List.length_map, maxLen] at hlq)) | refine Meets.k (kS) ?_ | refine Ks ?_ | refine Kq ?_ | refine Kt ?_ | ((refine ⟨fun (hb : _ = true) => ?_, fun (hb : _ = false) => ?_⟩) <;> (try simp only [BB, List.length_map] at hb)) | refine Ka ?_ | refine Kb ?_ | refine Kc (hd := rfl) (e := ?_) | refine Kc (hd := icells_eq _) (e := ?_) | refine Kd (e := ?_) | refine ⟨(rfl : look _ _ = look _ _), ?_⟩ | fail) <;> ((conv => whnf); repeat' (refine vcC_go tok {} rfl ?_; conv => whnf)))
      all_goals first
        | exact ⟨rfl⟩
        | contradiction
        | (exfalso; omega)
  · have k1 := cTokens_big src (by omega) hm
    have k2 := rTokens_big src (by omega) hm
    have k3 := (Same_meets [] [] (by decide) (by decide)).bl
    have k4 := (SameP_meets [] [] (by decide) (by decide)).bl
    rw [decide_eq_true rfl] at k3 k4
    have k3 : Meets Tryz.prog 14 [.sl [], .sl []] _ := k3
    have k4 : Meets Tryz.prog 15 [.sl [], .sl []] _ := k4
    refine enter tok {} Tryz.func3 rfl (by kernel_rfl) Tryz.ntmps3 (by simp) fun B0 W0 V0 lent g0 => ?_
    ((conv => whnf); repeat' (refine vcC_go tok {} rfl ?_; conv => whnf))
    repeat' ((first | (intro hlq; (try simp only [List.length_map, maxLen] at hlq)) | refine Meets.k (kS) ?_ | refine Meets.k (k1) ?_ | refine Meets.k (k2) ?_ | refine Meets.k (k3) ?_ | refine Meets.k (k4) ?_ | refine Ks ?_ | refine Kq ?_ | refine Kt ?_ | ((refine ⟨fun (hb : _ = true) => ?_, fun (hb : _ = false) => ?_⟩) <;> (try simp only [BB, List.length_map] at hb)) | refine Ka ?_ | refine Kb ?_ | refine Kc (hd := rfl) (e := ?_) | refine Kc (hd := icells_eq _) (e := ?_) | refine Kd (e := ?_) | refine ⟨(rfl : look _ _ = look _ _), ?_⟩ | fail) <;> ((conv => whnf); repeat' (refine vcC_go tok {} rfl ?_; conv => whnf)))
    all_goals first
      | exact ⟨rfl⟩
      | contradiction
      | (exfalso; omega)
end Go.Proofs.YtedjnaggkakphaaGreatDoor.Dx

