/- The code's Time. -/
import Derived.Test.YtedjnaggkakphaaGreatDoorDr
import Derived.Test.YtedjnaggkakphaaGreatDoorDp
set_option linter.all false
namespace Go.Proofs.YtedjnaggkakphaaGreatDoor.Dx
open Go Go.RowKit Go.Proofs
set_option maxRecDepth 100000
set_option maxHeartbeats 8000000
theorem signcut_meets {s u : List UInt8} {sg : Int} (h : signS s = (sg, u)) (hs : s.length ≤ maxLen) : Meets Tryz.prog 44 [.str s, .str [45]] fun d => d = .tup [.str u, bD (decide (sg < 0))] := by
 have hc := CutPrefix_meets s [45] hs
 by_cases hb : ∃ r, s = 45 :: r
 · obtain ⟨r, rfl⟩ := hb
   cases h
   rw [(cut_minus u).1, (cut_minus u).2] at hc
   exact hc
 · have hb : ∀ r, s ≠ 45 :: r := fun r e => hb ⟨r, e⟩
   rw [signS_pos (by cases s with | nil => simp | cons b r => intro e; exact hb r (by rw [show b = 45 by simpa using e]))] at h
   cases h
   rw [(cut_plus hb).1, (cut_plus hb).2] at hc
   exact hc
theorem ccut_at {s : List UInt8} {c : UInt8} {w r : List UInt8} {p : Bool} (h : cutB c s = (w, r, p)) (hs : s.length < 4294967281) : Meets Tryz.prog 45 [.str s, .str [c]] fun d => d = .tup [.str w, .str r, bD p] := by
 have := Cut_meets s [c] hs
 rw [lib_cut, h] at this
 exact this
theorem signS_le {s u : List UInt8} {sg : Int} (h : signS s = (sg, u)) : u.length ≤ s.length ∧ (sg = 1 ∨ sg = -1) := by
 unfold signS at h
 split at h
 · cases h; simp
 · cases h; simp
theorem cutB_le {c : UInt8} {s w r : List UInt8} {p : Bool} (h : cutB c s = (w, r, p)) : w.length ≤ s.length := by
 cases p
 · obtain ⟨rfl, _, _⟩ := cutB_false h; exact Nat.le_refl _
 · obtain ⟨rfl, _⟩ := cutB_true h; simp
theorem cutB_le2 {c : UInt8} {s w r : List UInt8} {p : Bool} (h : cutB c s = (w, r, p)) : r.length ≤ s.length := by
 cases p
 · obtain ⟨rfl, rfl, _⟩ := cutB_false h; simp
 · obtain ⟨rfl, _⟩ := cutB_true h; simp; omega
/-- the elements behind the first -/
theorem Kq1 {α : Type} {xs : List α} {f : α → List D} {x : List D} {n : Nat} {E : Prop} (hk : ∀ y, (f y).length = n) (hx : x.length = n) (e : E) : ((x :: xs.map f).length ≤ maxLen → 0 ≤ (1 : Int) ∧ (1 : Int) ≤ ((x :: xs.map f).length : Int) ∧ ((x :: xs.map f).length : Int) ≤ ((x :: xs.map f).length : Int) ∧ ∀ ds ∈ x :: xs.map f, ds.length = n) ∧ E :=
 ⟨fun _ => ⟨by omega, by simp only [List.length_cons]; omega, Int.le_refl _, fun ds h => by
  rcases List.mem_cons.1 h with rfl | h
  · exact hx
  · obtain ⟨y, _, rfl⟩ := List.mem_map.1 h; exact hk y⟩, e⟩
theorem tail_eq (x : List D) (r : List (List D)) : List.drop (Int.toNat 1) (List.take (Int.toNat ((x :: r).length : Int)) (x :: r)) = r := by
 rw [Int.toNat_natCast, List.take_of_length_le (Nat.le_refl _)]; rfl
theorem cTime_meets (s : List UInt8) (hl : s.length ≤ 1048576) : Meets Tryz.prog 22 [.str s] fun d => d = timeD s := by
 obtain ⟨sg, u, hs⟩ : ∃ sg u, signS s = (sg, u) := ⟨_, _, rfl⟩
 obtain ⟨hul, hsg⟩ := signS_le hs
 rw [timeD_sign, hs]
 dsimp only
 have k0 := signcut_meets hs (by unfold maxLen; omega)
 rcases hp : cutB 46 u with ⟨w, f, p⟩
 rcases hq : cutB 58 w with ⟨a, r, c⟩
 have hwl := cutB_le hp
 obtain ⟨rest, hsp, hU⟩ := timeU_code hp hq
 rw [hU]
 have k1 := ccut_at hp (by omega)
 have k2 := Split_meets w [58] (by omega) (by simp)
 rw [hsp] at k2
 have k2 : Meets Tryz.prog 46 [.str w, .str [58]] fun d => d = .sl (scells a :: rest.map scells) := k2
 have k3 := (isNumeral_meets a).bl
 have k4 := (digits_meets f 1 6).bl
 have k5 := fun (h : numB a = true) => Atoi_meets a (numN a : Int) (numB_digits h).2 (atoi_num (numB_dg h).1 (numB_dg h).2) (i64 (by omega) (by have := numN_le (numB_digits h).1 (numB_digits h).2; omega))
 have hna := fun (h : numB a = true) => numN_le (numB_digits h).1 (numB_digits h).2
 have hmic : numB a = numB a := rfl
 have hfl : f.length ≤ 1048576 := by
  have := cutB_le2 hp; omega
 have hfd : p = false → f = [] := fun h => by subst h; exact (cutB_false hp).2.1
 clear hU hp hq hsp hs hwl hul
 by_cases hE : numB a = false ∨ rest.length > 2 ∨ (rest.length = 0 ∧ p = false) ∨ (p = true ∧ digitsB f 1 6 = false)
 · rw [codeU, if_pos hE]
   show Meets _ _ _ fun d => d = errD
   clear k5 hna hmic hfd
   generalize decide (sg < 0) = ng at *
   generalize numB a = nb at *
   generalize digitsB f 1 6 = df at *
   cases nb <;> cases p <;> cases df
   all_goals
    refine enter tok {} Tryz.func22 rfl (by kernel_rfl) Tryz.ntmps22 (by simp) fun B0 W0 V0 lent g0 => ?_
    ((conv => whnf); repeat' (refine Z rfl ?_; conv => whnf))
    repeat' ((first | (intro hlq; (try simp only [SL] at hlq)) | refine Meets.k (k0) ?_ | refine Meets.k (k1) ?_ | refine Meets.k (k2) ?_ | refine Meets.k (k3) ?_ | refine Meets.k (k4) ?_ | refine ⟨scells a, ⟨by omega, rfl, rfl⟩, ?_⟩ | refine Ks ?_ | refine Kq ?_ | refine Kt ?_ | ((refine Kh (fun hb => ?_) fun hb => ?_) <;> (try simp only [BL] at hb)) | refine Ka ?_ | refine Kb ?_ | refine Kc (hd := rfl) (e := ?_) | refine Kc (hd := icells_eq _) (e := ?_) | refine Kd (e := ?_) | refine Kl rfl ?_ | fail) <;> ((conv => whnf); repeat' (refine Z rfl ?_; conv => whnf)))
    all_goals first
     | contradiction
     | exact ⟨rfl⟩
     | (exfalso
        simp only [List.length_cons, List.length_map] at *
        rcases hE with h9 | h9 | ⟨h9, h10⟩ | ⟨h9, h10⟩ <;> first | (cases h9; done) | (cases h10; done) | omega)
 · rw [codeU, if_neg hE]
   simp only [not_or, Bool.not_eq_false] at hE
   obtain ⟨hA, hR, hP, hF⟩ := hE
   have k7 := k5 hA
   have hna7 := hna hA
   clear k5 hna
   have hz : ((f ++ [48, 48, 48, 48, 48, 48]).take 6).all isDg = true ∧ ((f ++ [48, 48, 48, 48, 48, 48]).take 6).length = 6 := by
    refine ⟨?_, by simp⟩
    cases p with
    | false => rw [hfd rfl]; decide
    | true =>
      rcases fracN_eq f with ⟨_, _, h⟩ | ⟨h, _⟩
      · exact h
      · exact absurd ⟨rfl, h⟩ hF
   have hm0 := numN_lt 6 _ hz.2 hz.1
   have k6 : Meets Tryz.prog 49 [.str ((f ++ [48, 48, 48, 48, 48, 48]).take 6)] fun d => d = .tup [iD (numN ((f ++ [48, 48, 48, 48, 48, 48]).take 6) : Int), .v .nilIface] :=
    Atoi_meets _ _ (by rw [hz.2]; decide) (atoi_num hz.1 (fun e => by have := hz.2; rw [e] at this; cases this)) (i64 (by omega) (by omega))
   clear hfd hz
   generalize hmm : (numN ((f ++ [48, 48, 48, 48, 48, 48]).take 6) : Int) = mic at *
   have hmic0 : 0 ≤ mic ∧ mic < 1000000 := by omega
   clear hmic hmm hm0
   generalize hnn : (numN a : Int) = na at *
   have hna0 : 0 ≤ na ∧ na < 1000000000000000000 := by omega
   have hlen : (scells a :: rest.map scells).length = rest.length + 1 := by simp
   clear hna7 hnn
   have hgo : (rest.length = 0 → p = true) := by
    intro h
    cases p
    · exact absurd ⟨h, rfl⟩ hP
    · rfl
   rw [hA] at k3
   have k4' : p = true → Meets Tryz.prog 48 [.str f, iD 1, iD 6] fun d => d = .bl true := by
    intro h
    have : digitsB f 1 6 = true := by
     cases hd : digitsB f 1 6
     · exact absurd ⟨h, hd⟩ hF
     · rfl
    rw [this] at k4
    exact k4
   generalize numB a = nb at *
   clear hP
   have sx := fun x => sixN_eq x
   refine enter tok {} Tryz.func22 rfl (by kernel_rfl) Tryz.ntmps22 (by simp) fun B0 W0 V0 lent g0 => ?_
   ((conv => whnf); repeat' ((fail_if_success (refine J_at2 4 ?_)); refine Z rfl ?_; conv => whnf))
   repeat' ((first | (intro hlq; (try simp only [SL] at hlq)) | refine Meets.k (k0) ?_ | refine Meets.k (k1) ?_ | refine Meets.k (k2) ?_ | refine Ks ?_ | refine Kq ?_ | refine Kt ?_ | ((refine Kh (fun hb => ?_) fun hb => ?_) <;> (try simp only [BL] at hb)) | refine Ka ?_ | refine Kb ?_ | refine Kc (hd := rfl) (e := ?_) | refine Kc (hd := icells_eq _) (e := ?_) | refine Kd (e := ?_) | refine Kl rfl ?_ | fail) <;> ((conv => whnf); repeat' ((fail_if_success (refine J_at2 4 ?_)); refine Z rfl ?_; conv => whnf)))
   refine J_seq (cut_rule tok (cf := {}) (X := Unit) (fun _ => ⟨[(8, .d (.sl (scells a :: rest.map scells))), (6, .d (.str f)), (4, .d (bD (decide (sg < 0)))), (3, iB 0), (2, iB 0)], [], []⟩) (fun _ => True) ?_ (fun _ _ => ?_))
   · clear k6 k7
     cases p
     all_goals
      conv => whnf
      repeat' ((first | (intro hlq; (try simp only [SL] at hlq)) | refine Meets.k (k3) ?_ | refine Meets.k (k4' rfl) ?_ | refine ⟨scells a, ⟨by omega, rfl, rfl⟩, ?_⟩ | refine Ks ?_ | refine Kq ?_ | refine Kt ?_ | ((refine Kh (fun hb => ?_) fun hb => ?_) <;> (try simp only [BL] at hb)) | refine Ka ?_ | refine Kb ?_ | refine Kc (hd := rfl) (e := ?_) | refine Kc (hd := icells_eq _) (e := ?_) | refine Kd (e := ?_) | refine Kl rfl ?_ | fail) <;> ((conv => whnf); repeat' (refine Z rfl ?_; conv => whnf)))
      all_goals first
       | contradiction
       | (exfalso; omega)
       | (exfalso; cases hgo (by omega); done)
       | (refine ⟨⟨(), ?_, True.intro⟩⟩
          repeat' (first | exact True.intro | exact rfl | refine And.intro ?_ ?_))
   clear k0 k1 k2 k3 k4 k4'
   ((conv => whnf); repeat' (refine Z rfl ?_; conv => whnf))
   repeat' ((first | (intro hlq; (try simp only [SL] at hlq)) | refine Meets.k (k7) ?_ | refine ⟨scells a, ⟨by omega, rfl, rfl⟩, ?_⟩ | refine Kq1 (fun _ => rfl) rfl ?_ | refine Ks ?_ | refine Kq ?_ | refine Kt ?_ | ((refine Kh (fun hb => ?_) fun hb => ?_) <;> (try simp only [BL] at hb)) | refine Ka ?_ | refine Kb ?_ | refine Kc (hd := rfl) (e := ?_) | refine Kc (hd := icells_eq _) (e := ?_) | refine Kd (e := ?_) | refine Kl rfl ?_ | fail) <;> ((conv => whnf); repeat' (refine Z rfl ?_; conv => whnf)))
   rw [tail_eq]
   refine loop_upd tok {} [] (X := Nat × Int) (fun x => [(67, iB x.1), (9, iB x.2)]) (fun _ => []) [] (fun x => x.1 ≤ rest.length ∧ 0 ≤ x.2 ∧ x.2 < 1000000000000000000 ∧ secF (rest.drop x.1) x.2 = secF rest na) (fun x => rest.length - x.1) (0, na) ?_
   ((conv => whnf); repeat' (refine Z rfl ?_; conv => whnf))
   refine And.intro ?_ ⟨⟨by dsimp only; omega, by dsimp only; omega, by dsimp only; omega, rfl⟩, fun x hΦ => ?_⟩
   · exact Kr
   obtain ⟨i, t⟩ := x
   dsimp only at hΦ ⊢
   obtain ⟨hi, ht0, ht1, he⟩ := hΦ
   rw [← he]
   ((conv => whnf); repeat' (refine Z rfl ?_; conv => whnf))
   refine ⟨fun h1 => ?_, fun h1 => ?_⟩ <;> (try simp only [BL] at h1) <;> ((conv => whnf); repeat' (refine Z rfl ?_; conv => whnf))
   · have h1' : i < rest.length := by omega
     rw [List.drop_eq_getElem_cons h1', secF] at he ⊢
     have kd := (digits_meets rest[i] 2 2).bl
     rcases sx rest[i] with ⟨s1, b0, r0, s2, s3, s4⟩ | ⟨s1, s4, b0, r0, s2, s3⟩ | ⟨s1, s4⟩
     · rw [s1] at kd
       have e0 : rest[i][Int.toNat 0]? = some b0 := by rw [s2]; rfl
       have hd : rest[i].all isDg = true ∧ rest[i].length ≤ 2 := by
        simp only [digitsB, Bool.and_eq_true, decide_eq_true_eq] at s1; exact ⟨s1.2.2, by omega⟩
       have hlt := numN_lt _ _ rfl hd.1
       have hlt2 : 10 ^ rest[i].length ≤ 10 ^ 2 := Nat.pow_le_pow_right (by omega) hd.2
       have ka := Atoi_meets rest[i] (numN rest[i] : Int) (by omega) (atoi_num hd.1 (by rw [s2]; simp)) (i64 (by omega) (by omega))
       rw [s4] at he ⊢
       have hx : 0 ≤ (numN rest[i] : Int) ∧ (numN rest[i] : Int) < 100 := by omega
       clear hlt hlt2 sx
       generalize (numN rest[i] : Int) = nx at *
       repeat' ((first | (intro hlq; (try simp only [SL] at hlq)) | refine Meets.k (kd) ?_ | refine ⟨b0, ⟨by omega, e0⟩, ?_⟩ | refine Meets.k (ka) ?_ | refine ⟨fun _ => i64 (by omega) (by omega), ?_⟩ | refine ⟨fun _ _ => i64 (by omega) (by omega), ?_⟩ | refine Ks ?_ | refine Kq ?_ | refine Kt ?_ | ((refine Kh (fun hb => ?_) fun hb => ?_) <;> (try simp only [BL] at hb)) | refine Ka ?_ | refine Kb ?_ | refine Kc (hd := rfl) (e := ?_) | refine Kc (hd := scells_eq _) (e := ?_) | refine Kd (e := ?_) | refine Kl rfl ?_ | fail) <;> ((conv => whnf); repeat' (refine Z rfl ?_; conv => whnf)))
       all_goals first
        | contradiction
        | (exfalso; omega)
        | (refine ⟨?_⟩; rw [if_pos (.inr (by assumption))]; rfl)
        | (refine ⟨⟨(i + 1, 60 * t + nx), ?_, ⟨by dsimp only; omega, by dsimp only; omega, by dsimp only; omega, (if_neg (by omega)).symm⟩, by dsimp only; omega⟩⟩
           repeat' (first | exact True.intro | exact rfl | refine And.intro ?_ ?_))
     · rw [s1] at kd
       have e0 : rest[i][Int.toNat 0]? = some b0 := by rw [s2]; rfl
       repeat' ((first | (intro hlq; (try simp only [SL] at hlq)) | refine Meets.k (kd) ?_ | refine ⟨b0, ⟨by omega, e0⟩, ?_⟩ | refine Ks ?_ | refine Kq ?_ | refine Kt ?_ | ((refine Kh (fun hb => ?_) fun hb => ?_) <;> (try simp only [BL] at hb)) | refine Ka ?_ | refine Kb ?_ | refine Kc (hd := rfl) (e := ?_) | refine Kc (hd := scells_eq _) (e := ?_) | refine Kd (e := ?_) | refine Kl rfl ?_ | fail) <;> ((conv => whnf); repeat' (refine Z rfl ?_; conv => whnf)))
       all_goals first
        | contradiction
        | (exfalso; omega)
        | (refine ⟨?_⟩; rw [if_pos (.inl (by omega))]; rfl)
     · rw [s1] at kd
       repeat' ((first | (intro hlq; (try simp only [SL] at hlq)) | refine Meets.k (kd) ?_ | refine Ks ?_ | refine Kq ?_ | refine Kt ?_ | ((refine Kh (fun hb => ?_) fun hb => ?_) <;> (try simp only [BL] at hb)) | refine Ka ?_ | refine Kb ?_ | refine Kc (hd := rfl) (e := ?_) | refine Kc (hd := scells_eq _) (e := ?_) | refine Kd (e := ?_) | refine Kl rfl ?_ | fail) <;> ((conv => whnf); repeat' (refine Z rfl ?_; conv => whnf)))
       all_goals first
        | contradiction
        | (refine ⟨?_⟩; rw [if_pos (.inl (by omega))]; rfl)
   · obtain rfl : i = rest.length := by omega
     rw [List.drop_length] at he ⊢
     rw [secF]
     clear sx
     dsimp only
     rcases hsg with rfl | rfl
     all_goals
      repeat' ((first | (intro hlq; (try simp only [SL] at hlq)) | refine Meets.k (k6) ?_ | refine ⟨fun _ => ⟨by omega, by omega, by simp; omega⟩, ?_⟩ | refine ⟨fun _ _ => i64 (by omega) (by omega), ?_⟩ | refine ⟨fun _ => i64 (by omega) (by omega), ?_⟩ | refine Ks ?_ | refine Kq ?_ | refine Kt ?_ | ((refine Kh (fun hb => ?_) fun hb => ?_) <;> (try simp only [BL] at hb)) | refine Ka ?_ | refine Kb ?_ | refine Kc (hd := rfl) (e := ?_) | refine Kc (hd := icells_eq _) (e := ?_) | refine Kd (e := ?_) | refine Kl rfl ?_ | fail) <;> ((conv => whnf); repeat' (refine Z rfl ?_; conv => whnf)))
      all_goals first
       | contradiction
       | (exfalso; omega)
       | (refine ⟨?_⟩; rw [if_pos (by omega)]; rfl)
       | (refine ⟨?_⟩; rw [if_neg (by omega)]; show _ = timeO _ (some _); unfold timeO; dsimp only; rw [if_pos (by omega)]; done)
       | (refine ⟨?_⟩; rw [if_neg (by omega)]; show _ = timeO _ (some _); unfold timeO; dsimp only; rw [if_neg (by omega)]; rw [show t * 1000000 + mic = 1 * (1000000 * t + mic) by omega]; done)
       | (refine ⟨?_⟩; rw [if_neg (by omega)]; show _ = timeO _ (some _); unfold timeO; dsimp only; rw [if_neg (by omega)]; rw [show -(t * 1000000 + mic) = -1 * (1000000 * t + mic) by omega]; done)
end Go.Proofs.YtedjnaggkakphaaGreatDoor.Dx
