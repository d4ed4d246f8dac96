/- The reference's scanner: blank, token. -/
import Derived.Test.YtedjnaggkakphaaGreatDoorLj
set_option linter.all false
namespace Go.Proofs.YtedjnaggkakphaaGreatDoor.Dx
open Go Go.RowKit Go.Proofs
set_option linter.all false
set_option maxRecDepth 100000
set_option maxHeartbeats 1000000

/-- the same tokens from here -/
structure BAt (src : List UInt8) (a j : Nat) : Prop where
  lo : a ≤ j
  hi : j ≤ src.length
  tk : toks (src.drop j) j = toks (src.drop a) a
  bd : ∀ en nb, bads (src.drop j) j en nb = bads (src.drop a) a en nb
theorem BAt.step {src : List UInt8} {a j n : Nat} (h : BAt src a j) (hj : j < src.length) (hs : stepT (src.drop j) = (7, [], n)) : 1 ≤ n ∧ j + n ≤ src.length ∧ BAt src a (j + n) := by
  have hd := List.drop_eq_getElem_cons hj
  rw [hd] at hs
  have hle := stepT_le src[j] (src.drop (j + 1))
  rw [hs, List.length_drop] at hle
  dsimp only at hle
  have h1 := h.lo
  refine ⟨hle.1, by omega, by omega, by omega, ?_, fun en nb => ?_⟩
  · rw [← h.tk, hd, toks_cons, hs, if_neg (by simp [isTk])]
    dsimp only
    rw [← hd, List.drop_drop]
  · rw [← h.bd, hd, bads_cons, hs, if_neg (by simp)]
    dsimp only
    rw [← hd, List.drop_drop]
theorem rblank_meets (src : List UInt8) (a : Nat) (ha : a ≤ src.length) (hl : src.length ≤ 65536) : Meets Tryz.prog 29 [.sl (byteCells src), iD a] fun d => ∃ j : Nat, d = iD j ∧ BAt src a j ∧ ∀ h : j < src.length, blB src[j] = false ∧ src[j] ≠ 35 := by
  refine enter tok {} Tryz.func29 rfl (by kernel_rfl) Tryz.ntmps29 (by simp) fun B0 W0 V0 lent g0 => ?_
  ((conv => whnf); repeat' (refine vcC_go tok {} rfl ?_; conv => whnf))
  refine loop_upd tok {} [] (X := Nat) (fun j => [(1, iB j)]) (fun _ => []) [] (fun j => BAt src a j) (fun j => src.length - j) a ?_
  ((conv => whnf); repeat' (refine vcC_go tok {} rfl ?_; conv => whnf))
  refine And.intro ?_ ⟨⟨Nat.le_refl _, ha, rfl, fun _ _ => rfl⟩, fun j hΦ => ?_⟩
  · repeat' (first | exact True.intro | exact rfl | refine And.intro ?_ ?_)
  have hj := hΦ.hi
  ((conv => whnf); repeat' (refine vcC_go tok {} rfl ?_; conv => whnf))
  repeat' ((first | (intro hlq; (try simp only [List.length_map, maxLen] at hlq)) | refine Ks ?_ | refine Kq ?_ | refine Kt ?_ | refine Ka ?_ | refine Kb ?_ | refine Kc (hd := rfl) (e := ?_) | refine Kc (hd := icells_eq _) (e := ?_) | refine Kd (e := ?_) | refine ⟨(rfl : look _ _ = look _ _), ?_⟩ | fail) <;> ((conv => whnf); repeat' (refine vcC_go tok {} rfl ?_; conv => whnf)))
  refine ⟨fun h1 => ?_, fun h1 => ?_⟩ <;> (try simp only [BB, List.length_map] at h1) <;> ((conv => whnf); repeat' (refine vcC_go tok {} rfl ?_; conv => whnf))
  · have h1' : j < src.length := by omega
    have hbl := blB_iff src[j]
    have h35 : src[j] = 35 ↔ (src[j].toNat : Int) = 35 := u8_eq (n := 35) (by decide)
    repeat' ((first | (intro hlq; (try simp only [List.length_map, maxLen] at hlq)) | refine Ks ?_ | refine Kq ?_ | refine Kt ?_ | ((refine ⟨fun (hb : _ = true) => ?_, fun (hb : _ = false) => ?_⟩) <;> (try simp only [BB, List.length_map] at hb)) | refine Ka ?_ | refine Kb ?_ | refine Kc (hd := rfl) (e := ?_) | refine Kc (hd := rfl) (e := ?_) | refine Kd (e := ?_) | refine ⟨(rfl : look _ _ = look _ _), ?_⟩ | fail) <;> ((conv => whnf); repeat' (refine vcC_go tok {} rfl ?_; conv => whnf)))
    all_goals first
      | (refine ⟨⟨j, rfl, hΦ, fun _ => ⟨?_, fun e => ?_⟩⟩⟩
         · cases hb' : blB src[j]
           · rfl
           · exfalso; have := hbl.1 hb'; omega
         · have := h35.1 e; omega)
      | (have hs := hΦ.step h1' (stepT_blank h1' (hbl.2 (by omega)))
         refine ⟨⟨j + 1, ?_, hs.2.2, by omega⟩⟩
         repeat' (first | exact True.intro | exact rfl | refine And.intro ?_ ?_))
      | skip
    have hs := hΦ.step h1' (stepT_comment h1' (h35.2 (by omega)))
    have hsk := (skip_step h1').2 (by omega)
    refine loop_upd tok {} [] (X := Nat) (fun q => [(1, iB q)]) (fun _ => []) [] (fun q => q ≤ src.length ∧ q + skipC (src.drop q) = j + skipC (src.drop j)) (fun q => src.length - q) j ?_
    ((conv => whnf); repeat' (refine vcC_go tok {} rfl ?_; conv => whnf))
    refine And.intro ?_ ⟨⟨by omega, rfl⟩, fun q hq => ?_⟩
    · repeat' (first | exact True.intro | exact rfl | refine And.intro ?_ ?_)
    obtain ⟨hq, he⟩ := hq
    ((conv => whnf); repeat' (refine vcC_go tok {} rfl ?_; conv => whnf))
    repeat' ((first | (intro hlq; (try simp only [List.length_map, maxLen] at hlq)) | refine Ks ?_ | refine Kq ?_ | refine Kt ?_ | refine Ka ?_ | refine Kb ?_ | refine Kc (hd := rfl) (e := ?_) | refine Kc (hd := icells_eq _) (e := ?_) | refine Kd (e := ?_) | refine ⟨(rfl : look _ _ = look _ _), ?_⟩ | fail) <;> ((conv => whnf); repeat' (refine vcC_go tok {} rfl ?_; conv => whnf)))
    refine ⟨fun h2 => ?_, fun h2 => ?_⟩ <;> (try simp only [BB, List.length_map] at h2) <;> ((conv => whnf); repeat' (refine vcC_go tok {} rfl ?_; conv => whnf))
    · have h2' : q < src.length := by omega
      obtain ⟨s1, s2⟩ := skip_step h2'
      repeat' ((first | (intro hlq; (try simp only [List.length_map, maxLen] at hlq)) | refine Ks ?_ | refine Kq ?_ | refine Kt ?_ | ((refine ⟨fun (hb : _ = true) => ?_, fun (hb : _ = false) => ?_⟩) <;> (try simp only [BB, List.length_map] at hb)) | refine Ka ?_ | refine Kb ?_ | refine Kc (hd := rfl) (e := ?_) | refine Kc (hd := rfl) (e := ?_) | refine Kd (e := ?_) | refine ⟨(rfl : look _ _ = look _ _), ?_⟩ | fail) <;> ((conv => whnf); repeat' (refine vcC_go tok {} rfl ?_; conv => whnf)))
      · refine ⟨⟨q + 1, ?_, ⟨by omega, ?_⟩, by omega⟩⟩
        · repeat' (first | exact True.intro | exact rfl | refine And.intro ?_ ?_)
        · have := s2 (by assumption); omega
      · have := s1 (by omega)
        refine ⟨⟨j + skipC (src.drop j), ?_, hs.2.2, by omega⟩⟩
        rw [show j + skipC (src.drop j) = q by omega]
        repeat' (first | exact True.intro | exact rfl | refine And.intro ?_ ?_)
    · obtain rfl : q = src.length := by omega
      rw [skip_end] at he
      refine ⟨⟨j + skipC (src.drop j), ?_, hs.2.2, by omega⟩⟩
      rw [← he]
      repeat' (first | exact True.intro | exact rfl | refine And.intro ?_ ?_)
  · obtain rfl : j = src.length := by omega
    exact ⟨⟨_, rfl, hΦ, fun h => absurd h (Nat.lt_irrefl _)⟩⟩
end Go.Proofs.YtedjnaggkakphaaGreatDoor.Dx

/- The reference's scanner: other tokens, all tokens; Tokens. -/
namespace Go.Proofs.YtedjnaggkakphaaGreatDoor.Dx
open Go Go.RowKit Go.Proofs
set_option linter.all false
set_option maxRecDepth 100000
set_option maxHeartbeats 1000000

theorem sgA_one (c : UInt8) : sgnL [c] = sgB c := by
  have h : ∀ n : Fin 256, sgnL [UInt8.ofNat n.1] = sgB (UInt8.ofNat n.1) := by decide +kernel
  have := h ⟨c.toNat, c.toNat_lt⟩
  simpa using this
theorem sgA_two (c d : UInt8) (t : List UInt8) : sgnL [c, d] = dblB c (d :: t) := by
  rw [Bool.eq_iff_iff]
  simp [sgnL, dblB]
  constructor
  · rintro (⟨rfl, rfl⟩ | ⟨rfl, rfl⟩ | ⟨rfl, rfl⟩) <;> simp
  · rintro (⟨rfl | rfl, rfl⟩ | ⟨rfl, rfl⟩) <;> simp
theorem num_no {src : List UInt8} {a : Nat} (ha : a < src.length) (hd : (isDg src[a] || (src[a] == 45 && hdDg (src.drop (a + 1)))) = false) : isDg src[a] = false ∧ ((src[a].toNat : Int) = 45 → ∀ h : a + 1 < src.length, isDg src[a + 1] = false) := by
  rw [beq_c] at hd
  simp only [Bool.or_eq_false_iff, Bool.and_eq_false_iff, decide_eq_false_iff_not] at hd
  refine ⟨hd.1, fun h45 h => ?_⟩
  rcases hd.2 with h2 | h2
  · exact absurd h45 h2
  · rw [List.drop_eq_getElem_cons h] at h2
    exact h2
theorem rtoken_text (src : List UInt8) (a : Nat) (ha : a < src.length) (hl : src.length ≤ 65536) (hc : isLt src[a] = false) (hd : (isDg src[a] || (src[a] == 45 && hdDg (src.drop (a + 1)))) = false) (h34 : src[a] = 34) {s : List UInt8} {m : Nat} (hq : quoN (src.drop (a + 1)) = some (s, m)) :
    Meets Tryz.prog 30 [.sl (byteCells src), iD a] fun d => d = .tup [tkA a (readT (src.drop a)), iD (readT (src.drop a)).2.2] := by
  have hdrop : src.drop a = 34 :: src.drop (a + 1) := by rw [List.drop_eq_getElem_cons ha, h34]
  have hr : readT (src.drop a) = (4, s, m + 1) := by
    rw [hdrop, readT, if_neg (by decide), if_neg (by simp; decide), if_pos rfl, hq]
  have kq := rQuoted_meets (src.drop (a + 1)) (by rw [List.length_cons, List.length_drop]; omega)
  rw [← hdrop, hq] at kq
  have e : List.drop ((a : Nat) : Int).toNat (List.take ((byteCells src).length : Int).toNat (byteCells src)) = byteCells (src.drop a) := by
    rw [Int.toNat_natCast, Int.toNat_natCast, List.take_of_length_le (Nat.le_refl _)]; simp [byteCells, List.map_drop]
  rw [← e] at kq
  have kq : Meets Tryz.prog 79 _ fun d => d = .tup [.str s, iD (m + 1 : Nat)] := kq
  rw [hr]
  have k := (rletter_meets src[a]).bl
  rw [hc] at k
  have kd := (rdigit_meets src[a]).bl
  rw [(num_no ha hd).1] at kd
  have h45 : ¬ (src[a].toNat : Int) = 45 := by rw [h34]; decide
  clear hr e hdrop hc hd
  refine enter tok {} Tryz.func30 rfl (by kernel_rfl) Tryz.ntmps30 (by simp) fun B0 W0 V0 lent g0 => ?_
  ((conv => whnf); repeat' (refine vcC_go tok {} rfl ?_; conv => whnf))
  repeat' ((first | (intro hlq; (try simp only [List.length_map, maxLen] at hlq)) | refine Meets.k (k) ?_ | refine Meets.k (kd) ?_ | refine Ks ?_ | refine Kq ?_ | refine Kt ?_ | ((refine ⟨fun (hb : _ = true) => ?_, fun (hb : _ = false) => ?_⟩) <;> (try simp only [BB, List.length_map] at hb)) | refine Ka ?_ | refine Kb ?_ | refine Kc (hd := rfl) (e := ?_) | refine Kc (hd := rfl) (e := ?_) | refine Kd (e := ?_) | refine ⟨(rfl : look _ _ = look _ _), ?_⟩ | fail) <;> ((conv => whnf); repeat' (refine vcC_go tok {} rfl ?_; conv => whnf)))
  · exfalso; omega
  repeat' ((first | (intro hlq; (try simp only [List.length_map, maxLen] at hlq)) | refine Kyz ?_ | refine Meets.k (kq) ?_ | refine Ks ?_ | refine Kq ?_ | refine Kt ?_ | ((refine ⟨fun (hb : _ = true) => ?_, fun (hb : _ = false) => ?_⟩) <;> (try simp only [BB, List.length_map] at hb)) | refine Ka ?_ | refine Kb ?_ | refine Kc (hd := rfl) (e := ?_) | refine Kc (hd := icells_eq _) (e := ?_) | refine Kd (e := ?_) | refine ⟨(rfl : look _ _ = look _ _), ?_⟩ | fail) <;> ((conv => whnf); repeat' (refine vcC_go tok {} rfl ?_; conv => whnf)))
  all_goals first
    | exact ⟨rfl⟩
    | (exfalso; omega)
theorem rtoken_sign (src : List UInt8) (a : Nat) (ha : a < src.length) (hl : src.length ≤ 65536) (hc : isLt src[a] = false) (hd : (isDg src[a] || (src[a] == 45 && hdDg (src.drop (a + 1)))) = false) (h34 : src[a] = 34 → quoN (src.drop (a + 1)) = none) :
    Meets Tryz.prog 30 [.sl (byteCells src), iD a] fun d => d = .tup [tkA a (readT (src.drop a)), iD (readT (src.drop a)).2.2] := by
  have hr : readT (src.drop a) = if dblB src[a] (src.drop (a + 1)) then (5, (src.drop a).take 2, 2) else if sgB src[a] then (5, [src[a]], 1) else (0, [], 1) := by
    rw [List.drop_eq_getElem_cons ha, readT, if_neg (by rw [hc]; decide), if_neg (by rw [hd]; decide)]
    by_cases h : src[a] = 34
    · rw [if_pos h, h34 h, h]
      have : dblB 34 (src.drop (a + 1)) = false := by
        cases src.drop (a + 1) <;> rfl
      rw [this]
      rfl
    · rw [if_neg h]
  have kq : Meets Tryz.prog 79 [.sl (List.drop ((a : Nat) : Int).toNat (List.take ((byteCells src).length : Int).toNat (byteCells src)))] fun d => d = .tup [.str [], iD 0] := by
    have e : List.drop ((a : Nat) : Int).toNat (List.take ((byteCells src).length : Int).toNat (byteCells src)) = byteCells (src.drop a) := by
      rw [Int.toNat_natCast, Int.toNat_natCast, List.take_of_length_le (Nat.le_refl _)]; simp [byteCells, List.map_drop]
    rw [e]
    by_cases h : src[a] = 34
    · have hdrop : src.drop a = 34 :: src.drop (a + 1) := by rw [List.drop_eq_getElem_cons ha, h]
      have kq := rQuoted_meets (src.drop (a + 1)) (by rw [List.length_cons, List.length_drop]; omega)
      rw [← hdrop, h34 h] at kq
      exact kq
    · exact rQuoted_none (src.drop a) (by rw [List.length_drop]; omega) (by
        intro t ht
        rw [List.drop_eq_getElem_cons ha] at ht
        exact h (List.cons.inj ht).1)
  have k := (rletter_meets src[a]).bl
  rw [hc] at k
  have kd := (rdigit_meets src[a]).bl
  obtain ⟨hd1, hd2⟩ := num_no ha hd
  rw [hd1] at kd
  have e1 : List.drop ((a : Nat) : Int).toNat (List.take ((a : Int) + 1).toNat src) = [src[a]] := by
    rw [show ((a : Int) + 1).toNat = a + 1 by omega, Int.toNat_natCast, List.drop_take, show a + 1 - a = 1 by omega, List.drop_eq_getElem_cons ha]
    rfl
  have kS := rSign_meets [src[a]]
  rw [sgA_one, ← e1] at kS
  have e2 : List.drop ((a : Nat) : Int).toNat (List.take ((a : Int) + 2).toNat src) = (src.drop a).take 2 := by
    rw [show ((a : Int) + 2).toNat = a + 2 by omega, Int.toNat_natCast, List.drop_take, show a + 2 - a = 2 by omega]
  have kS2 : a + 1 < src.length → Meets Tryz.prog 42 [.str (List.drop ((a : Nat) : Int).toNat (List.take ((a : Int) + 2).toNat src))] fun d => d = bD (dblB src[a] (src.drop (a + 1))) := by
    intro h
    rw [e2, List.drop_eq_getElem_cons ha, List.drop_eq_getElem_cons h, ← sgA_two src[a] src[a + 1] (src.drop (a + 1 + 1))]
    exact rSign_meets _
  have hdn : ¬ a + 1 < src.length → dblB src[a] (src.drop (a + 1)) = false := by
    intro h
    rw [List.drop_eq_nil_of_le (by omega)]; rfl
  rw [hr]
  have h45a : ((src[a].toNat : Int) = 45) ∨ ¬ ((src[a].toNat : Int) = 45) := by omega
  clear hr hc hd h34
  by_cases hlt : a + 1 < src.length
  · have kS2 := kS2 hlt
    have kd2 := fun h => (rdigit_meets src[a + 1]).bl
    have kd2' : (src[a].toNat : Int) = 45 → Meets Tryz.prog 78 [.v (.int .u8 (src[a + 1].toNat : Int))] fun d => d = .bl false := by
      intro h
      have := (rdigit_meets src[a + 1]).bl
      rw [hd2 h hlt] at this
      exact this
    clear hdn kd2
    generalize dblB src[a] (src.drop (a + 1)) = db at *
    generalize hsg : sgB src[a] = sg at *
    refine enter tok {} Tryz.func30 rfl (by kernel_rfl) Tryz.ntmps30 (by simp) fun B0 W0 V0 lent g0 => ?_
    ((conv => whnf); repeat' (refine vcC_go tok {} rfl ?_; conv => whnf))
    repeat' ((first | (intro hlq; (try simp only [List.length_map, maxLen] at hlq)) | refine Meets.k (k) ?_ | refine Meets.k (kd) ?_ | refine Meets.k (kd2' (by assumption)) ?_ | refine Kyz ?_ | refine Meets.k (kq) ?_ | refine Meets.k (kS2) ?_ | refine Meets.k (kS) ?_ | refine Ky ?_ | refine ⟨_, bc_eq _ _ _, ?_⟩ | refine Ks ?_ | refine Kq ?_ | refine Kt ?_ | ((refine ⟨fun (hb : _ = true) => ?_, fun (hb : _ = false) => ?_⟩) <;> (try simp only [BB, List.length_map] at hb)) | refine Ka ?_ | refine Kb ?_ | refine Kc (hd := rfl) (e := ?_) | refine Kc (hd := rfl) (e := ?_) | refine Kd (e := ?_) | refine ⟨(rfl : look _ _ = look _ _), ?_⟩ | fail) <;> ((conv => whnf); repeat' (refine vcC_go tok {} rfl ?_; conv => whnf)))
    all_goals first
      | contradiction
      | (exfalso; omega)
      | (refine ⟨?_⟩; simp_all [tkA]; done)
  · have hdn := hdn hlt
    rw [hdn]
    clear kS2
    generalize hsg : sgB src[a] = sg at *
    refine enter tok {} Tryz.func30 rfl (by kernel_rfl) Tryz.ntmps30 (by simp) fun B0 W0 V0 lent g0 => ?_
    ((conv => whnf); repeat' (refine vcC_go tok {} rfl ?_; conv => whnf))
    repeat' ((first | (intro hlq; (try simp only [List.length_map, maxLen] at hlq)) | refine Meets.k (k) ?_ | refine Meets.k (kd) ?_ | refine Kyz ?_ | refine Meets.k (kq) ?_ | refine Meets.k (kS) ?_ | refine Ky ?_ | refine ⟨_, bc_eq _ _ _, ?_⟩ | refine Ks ?_ | refine Kq ?_ | refine Kt ?_ | ((refine ⟨fun (hb : _ = true) => ?_, fun (hb : _ = false) => ?_⟩) <;> (try simp only [BB, List.length_map] at hb)) | refine Ka ?_ | refine Kb ?_ | refine Kc (hd := rfl) (e := ?_) | refine Kc (hd := rfl) (e := ?_) | refine Kd (e := ?_) | refine ⟨(rfl : look _ _ = look _ _), ?_⟩ | fail) <;> ((conv => whnf); repeat' (refine vcC_go tok {} rfl ?_; conv => whnf)))
    all_goals first
      | contradiction
      | (exfalso; omega)
      | (refine ⟨?_⟩; simp_all [tkA]; done)
end Go.Proofs.YtedjnaggkakphaaGreatDoor.Dx

