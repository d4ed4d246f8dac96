/- format.Course. -/
import Derived.Test.YteckbkljaneppaaGreatDoorPk
set_option linter.all false
namespace Go.Proofs.YteckbkljaneppaaGreatDoor.Dx
open Go Go.RowKit Go.Proofs
set_option maxRecDepth 100000
set_option maxHeartbeats 32000000
theorem matB {cs : List Base} {b : Int} {o : Nat} (h : 1 ≤ b ∧ b ≤ 3) (ho : o = 0 + b.toNat * 1) (hc : cs = [.d (.str []), .d (.str [115, 116, 97, 114, 116]), .d (.str [112, 97, 115, 115]), .d (.str [101, 110, 100])]) : cs[o]? = some (.d (.str (matKT b))) := by
 subst ho hc
 rcases (by omega : b = 1 ∨ b = 2 ∨ b = 3) with rfl | rfl | rfl <;> rfl
theorem course_parts (c : Course) : courseT c = [99, 111, 117, 114, 115, 101, 32] ++ c.name ++ [32, 123, 10] ++ lineT (matsT c) ++ c.legs.flatMap (fun x => lineT (legT c x)) ++ c.distances.flatMap (distP c) ++ c.waves.flatMap (fun x => lineT (waveT x)) ++ c.offences.flatMap (fun x => lineT (offT x)) ++
 c.categories.flatMap (fun x => lineT (catT x)) ++ c.prizes.flatMap (fun x => lineT (prizeT c x)) ++ lineT (tiesT c) ++ lineT (faultsT c.faults) ++ lineT (feeT c) ++ [125, 10] := by
 have e : distP c = fun x => lineT (distT c x) := rfl
 simp only [courseT, linesT, List.flatMap_append, List.flatMap_cons, List.flatMap_nil, List.flatMap_map, e, List.append_assoc, List.append_nil, List.nil_append]
theorem lineT_le {s : List UInt8} (h : s.length ≤ 40000) : (lineT s).length ≤ 40003 := by
 simp only [lineT, List.length_append, List.length_cons, List.length_nil]; omega
abbrev cfGR10 : Cfg := {nm := [(30, 1000)], priv := [29], sym := [6], rs := [38, 60, 65, 78, 84, 98, 109, 130, 150, 174, 216, 221, 225, 253, 266, 270, 275]}
theorem FCourse_meets (c : Course) (hs : c.small) : Meets Tryz.prog 10 [c.d] fun d => d = .tup [.sl (byteCells (courseS c)), iD (courseX c)] := by
 refine enter tok cfGR10 Tryz.func10 rfl (by kernel_rfl) Tryz.ntmps10 (by simp) fun B0 W0 V0 lent g0 => ?_
 ((conv => whnf); repeat' (refine Y cfGR10 rfl ?_; conv => whnf))
 repeat' ((first | (intro hlq; (try simp only [SL] at hlq)) | refine Meets.k (Course_meets c hs) ?_ | refine Ks ?_ | refine Kq ?_ | refine Kt ?_ | ((refine Kh (fun hb => ?_) fun hb => ?_) <;> (try simp only [BL] at hb)) | refine Ka ?_ | refine Kb ?_ | refine Kc (hd := rfl) (e := ?_) | refine Kc (hd := Cond.cells_eq _) (e := ?_) | refine Kd (e := ?_) | refine Kl rfl ?_ | fail) <;> ((conv => whnf); repeat' (refine Y cfGR10 rfl ?_; conv => whnf)))
 · refine ⟨?_⟩
   rw [courseS, courseX, if_neg (fun e => (by assumption : courseE c ≠ 0) e.1), if_neg (by assumption)]
   rfl
 have he : courseE c = 0 := by omega
 have hg := good_of hs he
 have hll := line_le hg
 have hl := lens hg.fits
 have hF := fok hg
 have hnm := hg.name
 have hparts := course_parts c
 have mem : ∀ {s}, s ∈ linesT c → (lineT s).length ≤ 40003 := fun h => lineT_le (hll _ h)
 obtain ⟨P0, hP0⟩ : ∃ P, P = ([99, 111, 117, 114, 115, 101, 32] : List UInt8) ++ c.name ++ [32, 123, 10, 32, 32, 109, 97, 116, 115, 32, 123] := ⟨_, rfl⟩
 have hL0 := congrArg List.length hP0
 simp only [List.length_append, List.length_cons, List.length_nil] at hL0
 have hN0 : P0 ≠ [] := by rw [hP0]; simp
 refine ⟨prN (rr (cR c)) 70, _, ⟨?_, ?_⟩, (put_fresh_to (cR c) P0 [99, 111, 117, 114, 115, 101, 32] (by simp) [.s c.name, .s [32, 123, 10, 32, 32, 109, 97, 116, 115, 32, 123]] (by rw [hP0]; simp [textOf, Item.text]) (by omega)).mono ?_⟩
 · exact Kr
 · repeat' (first | exact True.intro | exact rfl | refine And.intro ?_ ?_)
   all_goals exact SubB_refl _ _
 rintro o O2 ⟨rfl, rfl⟩
 dsimp only
 rw [closedR_pr (rr_d _)]
 ((conv => whnf); repeat' (refine Y cfGR10 rfl ?_; conv => whnf))
 refine ⟨by simp, ?_⟩
 ((conv => whnf); repeat' (refine Y cfGR10 rfl ?_; conv => whnf))
 intro hq0
 ((conv => whnf); repeat' (refine Y cfGR10 rfl ?_; conv => whnf))
 have hall : ∀ x ∈ c.mats, (matT x).length ≤ 40 := fun m hm => matT_le (hg.mats m hm)
 have hB0 := flat_le matT 40 c.mats hall
 refine loop_upd tok cfGR10 [] (X := Nat × List UInt8) (fun x => [(43, iB x.1)]) (fun x => prO (rr (cR c)) 70 x.2) [8] (fun x => x.1 ≤ c.mats.length ∧ x.2 = P0 ++ (c.mats.take x.1).flatMap matT) (fun x => c.mats.length - x.1) (0, P0) ?_
 ((conv => whnf); repeat' (refine Y cfGR10 rfl ?_; conv => whnf))
 refine And.intro ?_ ⟨⟨by omega, by simp⟩, fun x hΦ => ?_⟩
 · repeat' (first | exact True.intro | exact rfl | refine And.intro ?_ ?_)
   all_goals exact SubB_refl _ _
 obtain ⟨i, xs⟩ := x
 obtain ⟨hi, hxs⟩ := hΦ
 dsimp only at hi hxs
 have hLx := congrArg List.length hxs
 simp only [List.length_append] at hLx
 have hj := flat_take_le matT c.mats i
 have hnx : xs ≠ [] := by rw [hxs]; simp [hN0]
 ((conv => whnf); repeat' (refine Y cfGR10 rfl ?_; conv => whnf))
 refine ⟨fun h1 => ?_, fun h1 => ?_⟩ <;> (try simp only [BL] at h1) <;> ((conv => whnf); repeat' (refine Y cfGR10 rfl ?_; conv => whnf))
 · have h1' : i < c.mats.length := by omega
   have hst := flat_step matT h1'
   have hm := List.getElem_mem h1'
   obtain ⟨B3, hB3⟩ : ∃ B3, B3 = xs ++ matT c.mats[i] := ⟨_, rfl⟩
   have hb3 : (matT c.mats[i]).length ≤ 40 := hall _ hm
   have hL3 : B3.length = xs.length + (matT c.mats[i]).length := by rw [hB3, List.length_append]
   have hk := hg.nums.mats _ hm
   simp only [Mat.good, inR, Bool.and_eq_true, decide_eq_true_eq] at hk
   repeat' ((first | (intro hlq; (try simp only [SL] at hlq)) | refine Ks ?_ | refine Kq ?_ | refine Kt ?_ | refine Ka ?_ | refine Kb ?_ | refine Kc (hd := rfl) (e := ?_) | refine Kc (hd := Mat.cells_eq _) (e := ?_) | refine Kd (e := ?_) | refine Kl rfl ?_ | fail) <;> ((conv => whnf); repeat' (refine Y cfGR10 rfl ?_; conv => whnf)))
   refine draw_rule tok (cf := cfGR10) (by kernel_rfl) [.p 0, .p 1, .p 2, .p 3, .p 4, .p 5, .p 6, .p 7, .p 8, .p 9, .p 10, .p 11, .p 12, .s 13 [0,12,1,6,7,10,11,5,9,4,8,3,2]] (by kernel_rfl) ?_
   ((conv => whnf); repeat' (refine Y cfGR10 rfl ?_; conv => whnf))
   repeat' ((first | (intro hlq; (try simp only [SL] at hlq)) | refine ⟨_, matB hk rfl rfl, ?_⟩ | refine Ks ?_ | refine Kq ?_ | refine Kt ?_ | ((refine Kh (fun hb => ?_) fun hb => ?_) <;> (try simp only [BL] at hb)) | refine Ka ?_ | refine Kb ?_ | refine Kc (hd := rfl) (e := ?_) | refine Kc (hd := Cond.cells_eq _) (e := ?_) | refine Kd (e := ?_) | refine Kl rfl ?_ | fail) <;> ((conv => whnf); repeat' (refine Y cfGR10 rfl ?_; conv => whnf)))
   refine ⟨prO (rr (cR c)) 70 xs, _, ⟨?_, ?_⟩, (put_to (cR c) xs B3 [.s [32], .s (matKT c.mats[i].kind), .s [32], .s c.mats[i].name, .s [59]] hnx (by rw [hB3]; simp [textOf, Item.text, matT]) (by omega)).mono ?_⟩
   · exact Ko
   · exact Ko
   rintro o O2 ⟨rfl, rfl⟩
   dsimp only
   rw [closedR_pr (rr_d _)]
   ((conv => whnf); repeat' (refine Y cfGR10 rfl ?_; conv => whnf))
   repeat' ((first | (intro hlq; (try simp only [SL] at hlq)) | refine Ks ?_ | refine Kq ?_ | refine Kt ?_ | ((refine Kh (fun hb => ?_) fun hb => ?_) <;> (try simp only [BL] at hb)) | refine Ka ?_ | refine Kb ?_ | refine Kc (hd := rfl) (e := ?_) | refine Kc (hd := Cond.cells_eq _) (e := ?_) | refine Kd (e := ?_) | refine Kl rfl ?_ | fail) <;> ((conv => whnf); repeat' (refine Y cfGR10 rfl ?_; conv => whnf)))
   refine ⟨⟨(i + 1, B3), ?_, ⟨by omega, by rw [hB3, hst, hxs, List.append_assoc]⟩, by dsimp only; omega⟩⟩
   repeat' (first | exact True.intro | exact rfl | refine And.intro ?_ ?_)
   all_goals exact SubB_refl _ _
 have e : c.mats.take i = c.mats := List.take_of_length_le (by omega)
 rw [e] at hxs hLx
 clear h1 e hall
 obtain ⟨P1, hP1⟩ : ∃ P, P = xs ++ [32, 125, 10] := ⟨_, rfl⟩
 have hL1 := congrArg List.length hP1
 simp only [List.length_append, List.length_cons, List.length_nil] at hL1
 have hN1 : P1 ≠ [] := by rw [hP1]; simp
 repeat' ((first | (intro hlq; (try simp only [SL] at hlq)) | refine Ks ?_ | refine Kq ?_ | refine Kt ?_ | ((refine Kh (fun hb => ?_) fun hb => ?_) <;> (try simp only [BL] at hb)) | refine Ka ?_ | refine Kb ?_ | refine Kc (hd := rfl) (e := ?_) | refine Kc (hd := Cond.cells_eq _) (e := ?_) | refine Kd (e := ?_) | refine Kl rfl ?_ | fail) <;> ((conv => whnf); repeat' (refine Y cfGR10 rfl ?_; conv => whnf)))
 refine ⟨prO (rr (cR c)) 70 xs, _, ⟨?_, ?_⟩, (put_to (cR c) xs P1 [.s [32, 125, 10]] hnx (by rw [hP1]; simp [textOf, Item.text]) (by omega)).mono ?_⟩
 · exact Ko
 · exact Ko
 rintro o O2 ⟨rfl, rfl⟩
 dsimp only
 rw [closedR_pr (rr_d _)]
 ((conv => whnf); repeat' (refine Y cfGR10 rfl ?_; conv => whnf))
 repeat' ((first | (intro hlq; (try simp only [SL] at hlq)) | refine Ks ?_ | refine Kq ?_ | refine Kt ?_ | ((refine Kh (fun hb => ?_) fun hb => ?_) <;> (try simp only [BL] at hb)) | refine Ka ?_ | refine Kb ?_ | refine Kc (hd := rfl) (e := ?_) | refine Kc (hd := Cond.cells_eq _) (e := ?_) | refine Kd (e := ?_) | refine Kl rfl ?_ | fail) <;> ((conv => whnf); repeat' (refine Y cfGR10 rfl ?_; conv => whnf)))
 have hQ1 : P1 = [99, 111, 117, 114, 115, 101, 32] ++ c.name ++ [32, 123, 10] ++ lineT (matsT c) := by rw [hP1, hxs, hP0]; simp [lineT, matsT]
 have hM1 : P1.length ≤ 10000 := by omega
 clear hP1 hxs hLx hj hnx hB0 hL1
 have hall : ∀ x ∈ c.legs, ((fun x => lineT (legT c x)) x).length ≤ 40003 := fun x hx => mem (by simp only [linesT, List.mem_append, List.mem_map]; exact .inl (.inl (.inl (.inl (.inl (.inl (.inr ⟨x, hx, rfl⟩)))))))
 have hB1 := flat_le (fun x => lineT (legT c x)) 40003 c.legs hall
 refine loop_upd tok cfGR10 [] (X := Nat × List UInt8) (fun x => [(69, iB x.1)]) (fun x => prO (rr (cR c)) 70 x.2) [10] (fun x => x.1 ≤ c.legs.length ∧ x.2 = P1 ++ (c.legs.take x.1).flatMap (fun x => lineT (legT c x))) (fun x => c.legs.length - x.1) (0, P1) ?_
 ((conv => whnf); repeat' (refine Y cfGR10 rfl ?_; conv => whnf))
 refine And.intro ?_ ⟨⟨by omega, by simp⟩, fun x hΦ => ?_⟩
 · repeat' (first | exact True.intro | exact rfl | refine And.intro ?_ ?_)
   all_goals exact SubB_refl _ _
 obtain ⟨i, xs⟩ := x
 obtain ⟨hi, hxs⟩ := hΦ
 dsimp only at hi hxs
 have hLx := congrArg List.length hxs
 simp only [List.length_append] at hLx
 have hj := flat_take_le (fun x => lineT (legT c x)) c.legs i
 have hnx : xs ≠ [] := by rw [hxs]; simp [hN1]
 ((conv => whnf); repeat' (refine Y cfGR10 rfl ?_; conv => whnf))
 refine ⟨fun h1 => ?_, fun h1 => ?_⟩ <;> (try simp only [BL] at h1) <;> ((conv => whnf); repeat' (refine Y cfGR10 rfl ?_; conv => whnf))
 · have h1' : i < c.legs.length := by omega
   have hst := flat_step (fun x => lineT (legT c x)) h1'
   have hm := List.getElem_mem h1'
   obtain ⟨B3, hB3⟩ : ∃ B3, B3 = xs ++ (fun x => lineT (legT c x)) c.legs[i] := ⟨_, rfl⟩
   have hb3 : ((fun x => lineT (legT c x)) c.legs[i]).length ≤ 40003 := hall _ hm
   have hL3 : B3.length = xs.length + ((fun x => lineT (legT c x)) c.legs[i]).length := by rw [hB3, List.length_append]
   have hx := lgok hg hm
   repeat' ((first | (intro hlq; (try simp only [SL] at hlq)) | refine Ks ?_ | refine Kq ?_ | refine Kt ?_ | refine Ka ?_ | refine Kb ?_ | refine Kc (hd := rfl) (e := ?_) | refine Kc (hd := Leg.cells_eq _) (e := ?_) | refine Kd (e := ?_) | refine Kl rfl ?_ | fail) <;> ((conv => whnf); repeat' (refine Y cfGR10 rfl ?_; conv => whnf)))
   refine draw_rule tok (cf := cfGR10) (by kernel_rfl) [.p 0, .p 1, .p 2, .p 3, .p 4, .p 7, .p 8, .p 9, .p 10, .p 13, .p 14, .p 15, .p 18, .p 19, .p 20, .p 23, .s 5 [2,4,3], .p 6, .s 11 [8,10,9], .p 12, .s 16 [15,14], .p 17, .s 21 [20,19], .p 22, .p 24, .s 25 [0,24,1,6,7,12,13,17,18,22,23]] (by kernel_rfl) ?_
   ((conv => whnf); repeat' (refine Y cfGR10 rfl ?_; conv => whnf))
   repeat' ((first | (intro hlq; (try simp only [SL] at hlq)) | refine Meets.k (moment_meets _) ?_ | refine Ks ?_ | refine Kq ?_ | refine Kt ?_ | ((refine Kh (fun hb => ?_) fun hb => ?_) <;> (try simp only [BL] at hb)) | refine Ka ?_ | refine Kb ?_ | refine Kc (hd := rfl) (e := ?_) | refine Kc (hd := Cond.cells_eq _) (e := ?_) | refine Kd (e := ?_) | refine Kl rfl ?_ | fail) <;> ((conv => whnf); repeat' (refine Y cfGR10 rfl ?_; conv => whnf)))
   refine ⟨prO (rr (cR c)) 70 xs, _, ⟨?_, ?_⟩, (pmat_meets c c.legs[i].src hx.src.1 hx.src.2 xs).mono ?_⟩
   · exact Ko
   · exact Ko
   rintro o O2 ⟨rfl, rfl⟩
   dsimp only
   rw [closedR_pr (rr_d _)]
   ((conv => whnf); repeat' (refine Y cfGR10 rfl ?_; conv => whnf))
   repeat' ((first | (intro hlq; (try simp only [SL] at hlq)) | refine Meets.k (moment_meets _) ?_ | refine Ks ?_ | refine Kq ?_ | refine Kt ?_ | ((refine Kh (fun hb => ?_) fun hb => ?_) <;> (try simp only [BL] at hb)) | refine Ka ?_ | refine Kb ?_ | refine Kc (hd := rfl) (e := ?_) | refine Kc (hd := Cond.cells_eq _) (e := ?_) | refine Kd (e := ?_) | refine Kl rfl ?_ | fail) <;> ((conv => whnf); repeat' (refine Y cfGR10 rfl ?_; conv => whnf)))
   refine ⟨prO (rr (cR c)) 70 xs, _, ⟨?_, ?_⟩, (pmat_meets c c.legs[i].dst hx.dst.1 hx.dst.2 xs).mono ?_⟩
   · exact Ko
   · exact Ko
   rintro o O2 ⟨rfl, rfl⟩
   dsimp only
   rw [closedR_pr (rr_d _)]
   ((conv => whnf); repeat' (refine Y cfGR10 rfl ?_; conv => whnf))
   repeat' ((first | (intro hlq; (try simp only [SL] at hlq)) | refine Meets.k (moment_meets _) ?_ | refine Ks ?_ | refine Kq ?_ | refine Kt ?_ | ((refine Kh (fun hb => ?_) fun hb => ?_) <;> (try simp only [BL] at hb)) | refine Ka ?_ | refine Kb ?_ | refine Kc (hd := rfl) (e := ?_) | refine Kc (hd := Cond.cells_eq _) (e := ?_) | refine Kd (e := ?_) | refine Kl rfl ?_ | fail) <;> ((conv => whnf); repeat' (refine Y cfGR10 rfl ?_; conv => whnf)))
   refine ⟨prO (rr (cR c)) 70 xs, _, ⟨?_, ?_⟩, (put_to (cR c) xs B3 [.s [32, 32, 108, 101, 103, 32], .s (matN c.mats c.legs[i].src), .s [32, 116, 111, 32], .s (matN c.mats c.legs[i].dst), .s [32], .s (timeS c.legs[i].lo), .s [32, 46, 46, 32], .s (timeS c.legs[i].hi), .s [59, 10]] hnx (by rw [hB3]; simp [textOf, Item.text, lineT, legT]) (by omega)).mono ?_⟩
   · exact Ko
   · exact Ko
   rintro o O2 ⟨rfl, rfl⟩
   dsimp only
   rw [closedR_pr (rr_d _)]
   ((conv => whnf); repeat' (refine Y cfGR10 rfl ?_; conv => whnf))
   repeat' ((first | (intro hlq; (try simp only [SL] at hlq)) | refine Ks ?_ | refine Kq ?_ | refine Kt ?_ | ((refine Kh (fun hb => ?_) fun hb => ?_) <;> (try simp only [BL] at hb)) | refine Ka ?_ | refine Kb ?_ | refine Kc (hd := rfl) (e := ?_) | refine Kc (hd := Cond.cells_eq _) (e := ?_) | refine Kd (e := ?_) | refine Kl rfl ?_ | fail) <;> ((conv => whnf); repeat' (refine Y cfGR10 rfl ?_; conv => whnf)))
   refine ⟨⟨(i + 1, B3), ?_, ⟨by omega, by rw [hB3, hst, hxs, List.append_assoc]⟩, by dsimp only; omega⟩⟩
   repeat' (first | exact True.intro | exact rfl | refine And.intro ?_ ?_)
   all_goals exact SubB_refl _ _
 have e : c.legs.take i = c.legs := List.take_of_length_le (by omega)
 rw [e] at hxs hLx
 clear h1 e hall
 have hN2 : xs ≠ [] := hnx
 have hQ2 := hxs
 have hM2 : xs.length ≤ 20491536 := by omega
 clear hxs hLx hj hnx hB1
 rename List UInt8 => P2
 repeat' ((first | (intro hlq; (try simp only [SL] at hlq)) | refine Ks ?_ | refine Kq ?_ | refine Kt ?_ | ((refine Kh (fun hb => ?_) fun hb => ?_) <;> (try simp only [BL] at hb)) | refine Ka ?_ | refine Kb ?_ | refine Kc (hd := rfl) (e := ?_) | refine Kc (hd := Cond.cells_eq _) (e := ?_) | refine Kd (e := ?_) | refine Kl rfl ?_ | fail) <;> ((conv => whnf); repeat' (refine Y cfGR10 rfl ?_; conv => whnf)))
 have hall : ∀ x ∈ c.distances, ((distP c) x).length ≤ 40003 := fun x hx => mem (by simp only [linesT, List.mem_append, List.mem_map]; exact .inl (.inl (.inl (.inl (.inl (.inr ⟨x, hx, rfl⟩))))))
 have hB2 := flat_le (distP c) 40003 c.distances hall
 refine loop_upd tok cfGR10 [] (X := Nat × List UInt8) (fun x => [(103, iB x.1)]) (fun x => prO (rr (cR c)) 70 x.2) [12] (fun x => x.1 ≤ c.distances.length ∧ x.2 = P2 ++ (c.distances.take x.1).flatMap (distP c)) (fun x => c.distances.length - x.1) (0, P2) ?_
 ((conv => whnf); repeat' (refine Y cfGR10 rfl ?_; conv => whnf))
 refine And.intro ?_ ⟨⟨by omega, by simp⟩, fun x hΦ => ?_⟩
 · repeat' (first | exact True.intro | exact rfl | refine And.intro ?_ ?_)
   all_goals exact SubB_refl _ _
 obtain ⟨i, xs⟩ := x
 obtain ⟨hi, hxs⟩ := hΦ
 dsimp only at hi hxs
 have hLx := congrArg List.length hxs
 simp only [List.length_append] at hLx
 have hj := flat_take_le (distP c) c.distances i
 have hnx : xs ≠ [] := by rw [hxs]; simp [hN2]
 ((conv => whnf); repeat' (refine Y cfGR10 rfl ?_; conv => whnf))
 refine ⟨fun h1 => ?_, fun h1 => ?_⟩ <;> (try simp only [BL] at h1) <;> ((conv => whnf); repeat' (refine Y cfGR10 rfl ?_; conv => whnf))
 · have h1' : i < c.distances.length := by omega
   have hst := flat_step (distP c) h1'
   have hm := List.getElem_mem h1'
   obtain ⟨B3, hB3⟩ : ∃ B3, B3 = xs ++ (distP c) c.distances[i] := ⟨_, rfl⟩
   have hb3 : ((distP c) c.distances[i]).length ≤ 40003 := hall _ hm
   have hL3 : B3.length = xs.length + ((distP c) c.distances[i]).length := by rw [hB3, List.length_append]
   have hx := dok hg hm
   repeat' ((first | (intro hlq; (try simp only [SL] at hlq)) | refine Ks ?_ | refine Kq ?_ | refine Kt ?_ | refine Ka ?_ | refine Kb ?_ | refine Kc (hd := rfl) (e := ?_) | refine Kc (hd := Distance.cells_eq _) (e := ?_) | refine Kd (e := ?_) | refine Kl rfl ?_ | fail) <;> ((conv => whnf); repeat' (refine Y cfGR10 rfl ?_; conv => whnf)))
   refine ⟨prO (rr (cR c)) 70 xs, _, ⟨?_, ?_⟩, (pdist_meets c hg c.distances[i] hx xs hnx (by omega)).mono ?_⟩
   · exact Ko
   · exact Ko
   rintro o O2 ⟨rfl, rfl⟩
   dsimp only
   rw [closedR_pr (rr_d _)]
   ((conv => whnf); repeat' (refine Y cfGR10 rfl ?_; conv => whnf))
   rw [← hB3]
   repeat' ((first | (intro hlq; (try simp only [SL] at hlq)) | refine Ks ?_ | refine Kq ?_ | refine Kt ?_ | ((refine Kh (fun hb => ?_) fun hb => ?_) <;> (try simp only [BL] at hb)) | refine Ka ?_ | refine Kb ?_ | refine Kc (hd := rfl) (e := ?_) | refine Kc (hd := Cond.cells_eq _) (e := ?_) | refine Kd (e := ?_) | refine Kl rfl ?_ | fail) <;> ((conv => whnf); repeat' (refine Y cfGR10 rfl ?_; conv => whnf)))
   refine ⟨⟨(i + 1, B3), ?_, ⟨by omega, by rw [hB3, hst, hxs, List.append_assoc]⟩, by dsimp only; omega⟩⟩
   repeat' (first | exact True.intro | exact rfl | refine And.intro ?_ ?_)
   all_goals exact SubB_refl _ _
 have e : c.distances.take i = c.distances := List.take_of_length_le (by omega)
 rw [e] at hxs hLx
 clear h1 e hall
 have hN3 : xs ≠ [] := hnx
 have hQ3 := hxs
 have hM3 : xs.length ≤ 20811560 := by omega
 clear hxs hLx hj hnx hB2
 rename List UInt8 => P3
 repeat' ((first | (intro hlq; (try simp only [SL] at hlq)) | refine Ks ?_ | refine Kq ?_ | refine Kt ?_ | ((refine Kh (fun hb => ?_) fun hb => ?_) <;> (try simp only [BL] at hb)) | refine Ka ?_ | refine Kb ?_ | refine Kc (hd := rfl) (e := ?_) | refine Kc (hd := Cond.cells_eq _) (e := ?_) | refine Kd (e := ?_) | refine Kl rfl ?_ | fail) <;> ((conv => whnf); repeat' (refine Y cfGR10 rfl ?_; conv => whnf)))
 have hall : ∀ x ∈ c.waves, ((fun x => lineT (waveT x)) x).length ≤ 40003 := fun x hx => mem (by simp only [linesT, List.mem_append, List.mem_map]; exact .inl (.inl (.inl (.inl (.inr ⟨x, hx, rfl⟩)))))
 have hB3 := flat_le (fun x => lineT (waveT x)) 40003 c.waves hall
 refine loop_upd tok cfGR10 [] (X := Nat × List UInt8) (fun x => [(114, iB x.1)]) (fun x => prO (rr (cR c)) 70 x.2) [14] (fun x => x.1 ≤ c.waves.length ∧ x.2 = P3 ++ (c.waves.take x.1).flatMap (fun x => lineT (waveT x))) (fun x => c.waves.length - x.1) (0, P3) ?_
 ((conv => whnf); repeat' (refine Y cfGR10 rfl ?_; conv => whnf))
 refine And.intro ?_ ⟨⟨by omega, by simp⟩, fun x hΦ => ?_⟩
 · repeat' (first | exact True.intro | exact rfl | refine And.intro ?_ ?_)
   all_goals exact SubB_refl _ _
 obtain ⟨i, xs⟩ := x
 obtain ⟨hi, hxs⟩ := hΦ
 dsimp only at hi hxs
 have hLx := congrArg List.length hxs
 simp only [List.length_append] at hLx
 have hj := flat_take_le (fun x => lineT (waveT x)) c.waves i
 have hnx : xs ≠ [] := by rw [hxs]; simp [hN3]
 ((conv => whnf); repeat' (refine Y cfGR10 rfl ?_; conv => whnf))
 refine ⟨fun h1 => ?_, fun h1 => ?_⟩ <;> (try simp only [BL] at h1) <;> ((conv => whnf); repeat' (refine Y cfGR10 rfl ?_; conv => whnf))
 · have h1' : i < c.waves.length := by omega
   have hst := flat_step (fun x => lineT (waveT x)) h1'
   have hm := List.getElem_mem h1'
   obtain ⟨B3, hB3⟩ : ∃ B3, B3 = xs ++ (fun x => lineT (waveT x)) c.waves[i] := ⟨_, rfl⟩
   have hb3 : ((fun x => lineT (waveT x)) c.waves[i]).length ≤ 40003 := hall _ hm
   have hL3 : B3.length = xs.length + ((fun x => lineT (waveT x)) c.waves[i]).length := by rw [hB3, List.length_append]
   repeat' ((first | (intro hlq; (try simp only [SL] at hlq)) | refine Ks ?_ | refine Kq ?_ | refine Kt ?_ | refine Ka ?_ | refine Kb ?_ | refine Kc (hd := rfl) (e := ?_) | refine Kc (hd := Wave.cells_eq _) (e := ?_) | refine Kd (e := ?_) | refine Kl rfl ?_ | fail) <;> ((conv => whnf); repeat' (refine Y cfGR10 rfl ?_; conv => whnf)))
   refine draw_rule tok (cf := cfGR10) (by kernel_rfl) [.p 0, .p 1, .p 2, .p 3, .p 4, .p 5, .p 6, .p 7, .p 10, .s 8 [7,6], .p 9, .p 11, .s 12 [0,11,1,4,5,9,10,3,2]] (by kernel_rfl) ?_
   ((conv => whnf); repeat' (refine Y cfGR10 rfl ?_; conv => whnf))
   repeat' ((first | (intro hlq; (try simp only [SL] at hlq)) | refine Meets.k (moment_meets _) ?_ | refine Ks ?_ | refine Kq ?_ | refine Kt ?_ | ((refine Kh (fun hb => ?_) fun hb => ?_) <;> (try simp only [BL] at hb)) | refine Ka ?_ | refine Kb ?_ | refine Kc (hd := rfl) (e := ?_) | refine Kc (hd := Cond.cells_eq _) (e := ?_) | refine Kd (e := ?_) | refine Kl rfl ?_ | fail) <;> ((conv => whnf); repeat' (refine Y cfGR10 rfl ?_; conv => whnf)))
   refine ⟨prO (rr (cR c)) 70 xs, _, ⟨?_, ?_⟩, (put_to (cR c) xs B3 [.s [32, 32, 119, 97, 118, 101, 32], .s c.waves[i].name, .s [32], .s (timeS c.waves[i].gun), .s [59, 10]] hnx (by rw [hB3]; simp [textOf, Item.text, lineT, waveT]) (by omega)).mono ?_⟩
   · exact Ko
   · exact Ko
   rintro o O2 ⟨rfl, rfl⟩
   dsimp only
   rw [closedR_pr (rr_d _)]
   ((conv => whnf); repeat' (refine Y cfGR10 rfl ?_; conv => whnf))
   repeat' ((first | (intro hlq; (try simp only [SL] at hlq)) | refine Ks ?_ | refine Kq ?_ | refine Kt ?_ | ((refine Kh (fun hb => ?_) fun hb => ?_) <;> (try simp only [BL] at hb)) | refine Ka ?_ | refine Kb ?_ | refine Kc (hd := rfl) (e := ?_) | refine Kc (hd := Cond.cells_eq _) (e := ?_) | refine Kd (e := ?_) | refine Kl rfl ?_ | fail) <;> ((conv => whnf); repeat' (refine Y cfGR10 rfl ?_; conv => whnf)))
   refine ⟨⟨(i + 1, B3), ?_, ⟨by omega, by rw [hB3, hst, hxs, List.append_assoc]⟩, by dsimp only; omega⟩⟩
   repeat' (first | exact True.intro | exact rfl | refine And.intro ?_ ?_)
   all_goals exact SubB_refl _ _
 have e : c.waves.take i = c.waves := List.take_of_length_le (by omega)
 rw [e] at hxs hLx
 clear h1 e hall
 have hN4 : xs ≠ [] := hnx
 have hQ4 := hxs
 have hM4 : xs.length ≤ 22091656 := by omega
 clear hxs hLx hj hnx hB3
 rename List UInt8 => P4
 repeat' ((first | (intro hlq; (try simp only [SL] at hlq)) | refine Ks ?_ | refine Kq ?_ | refine Kt ?_ | ((refine Kh (fun hb => ?_) fun hb => ?_) <;> (try simp only [BL] at hb)) | refine Ka ?_ | refine Kb ?_ | refine Kc (hd := rfl) (e := ?_) | refine Kc (hd := Cond.cells_eq _) (e := ?_) | refine Kd (e := ?_) | refine Kl rfl ?_ | fail) <;> ((conv => whnf); repeat' (refine Y cfGR10 rfl ?_; conv => whnf)))
 have hall : ∀ x ∈ c.offences, ((fun x => lineT (offT x)) x).length ≤ 40003 := fun x hx => mem (by simp only [linesT, List.mem_append, List.mem_map]; exact .inl (.inl (.inl (.inr ⟨x, hx, rfl⟩))))
 have hB4 := flat_le (fun x => lineT (offT x)) 40003 c.offences hall
 refine loop_upd tok cfGR10 [] (X := Nat × List UInt8) (fun x => [(135, iB x.1)]) (fun x => prO (rr (cR c)) 70 x.2) [16] (fun x => x.1 ≤ c.offences.length ∧ x.2 = P4 ++ (c.offences.take x.1).flatMap (fun x => lineT (offT x))) (fun x => c.offences.length - x.1) (0, P4) ?_
 ((conv => whnf); repeat' (refine Y cfGR10 rfl ?_; conv => whnf))
 refine And.intro ?_ ⟨⟨by omega, by simp⟩, fun x hΦ => ?_⟩
 · repeat' (first | exact True.intro | exact rfl | refine And.intro ?_ ?_)
   all_goals exact SubB_refl _ _
 obtain ⟨i, xs⟩ := x
 obtain ⟨hi, hxs⟩ := hΦ
 dsimp only at hi hxs
 have hLx := congrArg List.length hxs
 simp only [List.length_append] at hLx
 have hj := flat_take_le (fun x => lineT (offT x)) c.offences i
 have hnx : xs ≠ [] := by rw [hxs]; simp [hN4]
 ((conv => whnf); repeat' (refine Y cfGR10 rfl ?_; conv => whnf))
 refine ⟨fun h1 => ?_, fun h1 => ?_⟩ <;> (try simp only [BL] at h1) <;> ((conv => whnf); repeat' (refine Y cfGR10 rfl ?_; conv => whnf))
 · have h1' : i < c.offences.length := by omega
   have hst := flat_step (fun x => lineT (offT x)) h1'
   have hm := List.getElem_mem h1'
   obtain ⟨B3, hB3⟩ : ∃ B3, B3 = xs ++ (fun x => lineT (offT x)) c.offences[i] := ⟨_, rfl⟩
   have hb3 : ((fun x => lineT (offT x)) c.offences[i]).length ≤ 40003 := hall _ hm
   have hL3 : B3.length = xs.length + ((fun x => lineT (offT x)) c.offences[i]).length := by rw [hB3, List.length_append]
   have hx := hg.nums.offences _ hm
   repeat' ((first | (intro hlq; (try simp only [SL] at hlq)) | refine Ks ?_ | refine Kq ?_ | refine Kt ?_ | refine Ka ?_ | refine Kb ?_ | refine Kc (hd := rfl) (e := ?_) | refine Kc (hd := Offence.cells_eq _) (e := ?_) | refine Kd (e := ?_) | refine Kl rfl ?_ | fail) <;> ((conv => whnf); repeat' (refine Y cfGR10 rfl ?_; conv => whnf)))
   refine draw_rule tok (cf := cfGR10) (by kernel_rfl) [.p 0, .p 1, .p 2, .p 3, .p 4, .p 5, .p 6, .p 9, .s 7 [6], .p 8, .p 10, .s 11 [0,10,1,4,5,8,9,3,2]] (by kernel_rfl) ?_
   ((conv => whnf); repeat' (refine Y cfGR10 rfl ?_; conv => whnf))
   repeat' ((first | (intro hlq; (try simp only [SL] at hlq)) | refine Meets.k (penalty_meets _ hx) ?_ | refine Ks ?_ | refine Kq ?_ | refine Kt ?_ | ((refine Kh (fun hb => ?_) fun hb => ?_) <;> (try simp only [BL] at hb)) | refine Ka ?_ | refine Kb ?_ | refine Kc (hd := rfl) (e := ?_) | refine Kc (hd := Cond.cells_eq _) (e := ?_) | refine Kd (e := ?_) | refine Kl rfl ?_ | fail) <;> ((conv => whnf); repeat' (refine Y cfGR10 rfl ?_; conv => whnf)))
   refine ⟨prO (rr (cR c)) 70 xs, _, ⟨?_, ?_⟩, (put_to (cR c) xs B3 [.s [32, 32, 111, 102, 102, 101, 110, 99, 101, 32], .s c.offences[i].name, .s [32], .s (penT c.offences[i]), .s [59, 10]] hnx (by rw [hB3]; simp [textOf, Item.text, lineT, offT]) (by omega)).mono ?_⟩
   · exact Ko
   · exact Ko
   rintro o O2 ⟨rfl, rfl⟩
   dsimp only
   rw [closedR_pr (rr_d _)]
   ((conv => whnf); repeat' (refine Y cfGR10 rfl ?_; conv => whnf))
   repeat' ((first | (intro hlq; (try simp only [SL] at hlq)) | refine Ks ?_ | refine Kq ?_ | refine Kt ?_ | ((refine Kh (fun hb => ?_) fun hb => ?_) <;> (try simp only [BL] at hb)) | refine Ka ?_ | refine Kb ?_ | refine Kc (hd := rfl) (e := ?_) | refine Kc (hd := Cond.cells_eq _) (e := ?_) | refine Kd (e := ?_) | refine Kl rfl ?_ | fail) <;> ((conv => whnf); repeat' (refine Y cfGR10 rfl ?_; conv => whnf)))
   refine ⟨⟨(i + 1, B3), ?_, ⟨by omega, by rw [hB3, hst, hxs, List.append_assoc]⟩, by dsimp only; omega⟩⟩
   repeat' (first | exact True.intro | exact rfl | refine And.intro ?_ ?_)
   all_goals exact SubB_refl _ _
 have e : c.offences.take i = c.offences := List.take_of_length_le (by omega)
 rw [e] at hxs hLx
 clear h1 e hall
 have hN5 : xs ≠ [] := hnx
 have hQ5 := hxs
 have hM5 : xs.length ≤ 23371752 := by omega
 clear hxs hLx hj hnx hB4
 rename List UInt8 => P5
 repeat' ((first | (intro hlq; (try simp only [SL] at hlq)) | refine Ks ?_ | refine Kq ?_ | refine Kt ?_ | ((refine Kh (fun hb => ?_) fun hb => ?_) <;> (try simp only [BL] at hb)) | refine Ka ?_ | refine Kb ?_ | refine Kc (hd := rfl) (e := ?_) | refine Kc (hd := Cond.cells_eq _) (e := ?_) | refine Kd (e := ?_) | refine Kl rfl ?_ | fail) <;> ((conv => whnf); repeat' (refine Y cfGR10 rfl ?_; conv => whnf)))
 have hall : ∀ x ∈ c.categories, ((fun x => lineT (catT x)) x).length ≤ 40003 := fun x hx => mem (by simp only [linesT, List.mem_append, List.mem_map]; exact .inl (.inl (.inr ⟨x, hx, rfl⟩)))
 have hB5 := flat_le (fun x => lineT (catT x)) 40003 c.categories hall
 refine loop_upd tok cfGR10 [] (X := Nat × List UInt8) (fun x => [(155, iB x.1)]) (fun x => prO (rr (cR c)) 70 x.2) [18] (fun x => x.1 ≤ c.categories.length ∧ x.2 = P5 ++ (c.categories.take x.1).flatMap (fun x => lineT (catT x))) (fun x => c.categories.length - x.1) (0, P5) ?_
 ((conv => whnf); repeat' (refine Y cfGR10 rfl ?_; conv => whnf))
 refine And.intro ?_ ⟨⟨by omega, by simp⟩, fun x hΦ => ?_⟩
 · repeat' (first | exact True.intro | exact rfl | refine And.intro ?_ ?_)
   all_goals exact SubB_refl _ _
 obtain ⟨i, xs⟩ := x
 obtain ⟨hi, hxs⟩ := hΦ
 dsimp only at hi hxs
 have hLx := congrArg List.length hxs
 simp only [List.length_append] at hLx
 have hj := flat_take_le (fun x => lineT (catT x)) c.categories i
 have hnx : xs ≠ [] := by rw [hxs]; simp [hN5]
 ((conv => whnf); repeat' (refine Y cfGR10 rfl ?_; conv => whnf))
 refine ⟨fun h1 => ?_, fun h1 => ?_⟩ <;> (try simp only [BL] at h1) <;> ((conv => whnf); repeat' (refine Y cfGR10 rfl ?_; conv => whnf))
 · have h1' : i < c.categories.length := by omega
   have hst := flat_step (fun x => lineT (catT x)) h1'
   have hm := List.getElem_mem h1'
   obtain ⟨B3, hB3⟩ : ∃ B3, B3 = xs ++ (fun x => lineT (catT x)) c.categories[i] := ⟨_, rfl⟩
   have hb3 : ((fun x => lineT (catT x)) c.categories[i]).length ≤ 40003 := hall _ hm
   have hL3 : B3.length = xs.length + ((fun x => lineT (catT x)) c.categories[i]).length := by rw [hB3, List.length_append]
   repeat' ((first | (intro hlq; (try simp only [SL] at hlq)) | refine Ks ?_ | refine Kq ?_ | refine Kt ?_ | refine Ka ?_ | refine Kb ?_ | refine Kc (hd := rfl) (e := ?_) | refine Kc (hd := Category.cells_eq _) (e := ?_) | refine Kd (e := ?_) | refine Kl rfl ?_ | fail) <;> ((conv => whnf); repeat' (refine Y cfGR10 rfl ?_; conv => whnf)))
   repeat' ((first | (intro hlq; (try simp only [SL] at hlq)) | refine Ks ?_ | refine Kq ?_ | refine Kt ?_ | ((refine Kh (fun hb => ?_) fun hb => ?_) <;> (try simp only [BL] at hb)) | refine Ka ?_ | refine Kb ?_ | refine Kc (hd := rfl) (e := ?_) | refine Kc (hd := Cond.cells_eq _) (e := ?_) | refine Kd (e := ?_) | refine Kl rfl ?_ | fail) <;> ((conv => whnf); repeat' (refine Y cfGR10 rfl ?_; conv => whnf)))
   refine ⟨prO (rr (cR c)) 70 xs, _, ⟨?_, ?_⟩, (put_to (cR c) xs B3 [.s [32, 32, 99, 97, 116, 101, 103, 111, 114, 121, 32], .s c.categories[i].name, .s [32], .i c.categories[i].lo, .s [32, 116, 111, 32], .i c.categories[i].hi, .s [59, 10]] hnx (by rw [hB3]; simp [textOf, Item.text, lineT, catT]) (by omega)).mono ?_⟩
   · exact Ko
   · exact Ko
   rintro o O2 ⟨rfl, rfl⟩
   dsimp only
   rw [closedR_pr (rr_d _)]
   ((conv => whnf); repeat' (refine Y cfGR10 rfl ?_; conv => whnf))
   repeat' ((first | (intro hlq; (try simp only [SL] at hlq)) | refine Ks ?_ | refine Kq ?_ | refine Kt ?_ | ((refine Kh (fun hb => ?_) fun hb => ?_) <;> (try simp only [BL] at hb)) | refine Ka ?_ | refine Kb ?_ | refine Kc (hd := rfl) (e := ?_) | refine Kc (hd := Cond.cells_eq _) (e := ?_) | refine Kd (e := ?_) | refine Kl rfl ?_ | fail) <;> ((conv => whnf); repeat' (refine Y cfGR10 rfl ?_; conv => whnf)))
   refine ⟨⟨(i + 1, B3), ?_, ⟨by omega, by rw [hB3, hst, hxs, List.append_assoc]⟩, by dsimp only; omega⟩⟩
   repeat' (first | exact True.intro | exact rfl | refine And.intro ?_ ?_)
   all_goals exact SubB_refl _ _
 have e : c.categories.take i = c.categories := List.take_of_length_le (by omega)
 rw [e] at hxs hLx
 clear h1 e hall
 have hN6 : xs ≠ [] := hnx
 have hQ6 := hxs
 have hM6 : xs.length ≤ 24651848 := by omega
 clear hxs hLx hj hnx hB5
 rename List UInt8 => P6
 repeat' ((first | (intro hlq; (try simp only [SL] at hlq)) | refine Ks ?_ | refine Kq ?_ | refine Kt ?_ | ((refine Kh (fun hb => ?_) fun hb => ?_) <;> (try simp only [BL] at hb)) | refine Ka ?_ | refine Kb ?_ | refine Kc (hd := rfl) (e := ?_) | refine Kc (hd := Cond.cells_eq _) (e := ?_) | refine Kd (e := ?_) | refine Kl rfl ?_ | fail) <;> ((conv => whnf); repeat' (refine Y cfGR10 rfl ?_; conv => whnf)))
 have hall : ∀ x ∈ c.prizes, ((fun x => lineT (prizeT c x)) x).length ≤ 40003 := fun x hx => mem (by simp only [linesT, List.mem_append, List.mem_map]; exact .inl (.inr ⟨x, hx, rfl⟩))
 have hB6 := flat_le (fun x => lineT (prizeT c x)) 40003 c.prizes hall
 refine loop_upd tok cfGR10 [] (X := Nat × List UInt8) (fun x => [(179, iB x.1)]) (fun x => prO (rr (cR c)) 70 x.2) [20] (fun x => x.1 ≤ c.prizes.length ∧ x.2 = P6 ++ (c.prizes.take x.1).flatMap (fun x => lineT (prizeT c x))) (fun x => c.prizes.length - x.1) (0, P6) ?_
 ((conv => whnf); repeat' (refine Y cfGR10 rfl ?_; conv => whnf))
 refine And.intro ?_ ⟨⟨by omega, by simp⟩, fun x hΦ => ?_⟩
 · repeat' (first | exact True.intro | exact rfl | refine And.intro ?_ ?_)
   all_goals exact SubB_refl _ _
 obtain ⟨i, xs⟩ := x
 obtain ⟨hi, hxs⟩ := hΦ
 dsimp only at hi hxs
 have hLx := congrArg List.length hxs
 simp only [List.length_append] at hLx
 have hj := flat_take_le (fun x => lineT (prizeT c x)) c.prizes i
 have hnx : xs ≠ [] := by rw [hxs]; simp [hN6]
 ((conv => whnf); repeat' (refine Y cfGR10 rfl ?_; conv => whnf))
 refine ⟨fun h1 => ?_, fun h1 => ?_⟩ <;> (try simp only [BL] at h1) <;> ((conv => whnf); repeat' (refine Y cfGR10 rfl ?_; conv => whnf))
 · have h1' : i < c.prizes.length := by omega
   have hst := flat_step (fun x => lineT (prizeT c x)) h1'
   have hm := List.getElem_mem h1'
   obtain ⟨B3, hB3⟩ : ∃ B3, B3 = xs ++ (fun x => lineT (prizeT c x)) c.prizes[i] := ⟨_, rfl⟩
   have hb3 : ((fun x => lineT (prizeT c x)) c.prizes[i]).length ≤ 40003 := hall _ hm
   have hL3 : B3.length = xs.length + ((fun x => lineT (prizeT c x)) c.prizes[i]).length := by rw [hB3, List.length_append]
   have hx := pzok hg hm
   obtain ⟨a1, a2, a3, a4, hdist⟩ := dist_at hx.distance.1 hx.distance.2
   have hd0 := hx.distance.1
   repeat' ((first | (intro hlq; (try simp only [SL] at hlq)) | refine Ks ?_ | refine Kq ?_ | refine Kt ?_ | refine Ka ?_ | refine Kb ?_ | refine Kc (hd := rfl) (e := ?_) | refine Kc (hd := Prize.cells_eq _) (e := ?_) | refine Kd (e := ?_) | refine Kl rfl ?_ | fail) <;> ((conv => whnf); repeat' (refine Y cfGR10 rfl ?_; conv => whnf)))
   refine ⟨fun h6 => ?_, fun h6 => ?_⟩ <;> (try simp only [BL] at h6) <;> ((conv => whnf); repeat' (refine Y cfGR10 rfl ?_; conv => whnf))
   · obtain ⟨a', b', hcat⟩ := cat_at h6 hx.category.2
     repeat' ((first | (intro hlq; (try simp only [SL] at hlq)) | refine ⟨_, ⟨h6, hcat, rfl⟩, ?_⟩ | refine Ks ?_ | refine Kq ?_ | refine Kt ?_ | ((refine Kh (fun hb => ?_) fun hb => ?_) <;> (try simp only [BL] at hb)) | refine Ka ?_ | refine Kb ?_ | refine Kc (hd := rfl) (e := ?_) | refine Kc (hd := Cond.cells_eq _) (e := ?_) | refine Kd (e := ?_) | refine Kl rfl ?_ | fail) <;> ((conv => whnf); repeat' (refine Y cfGR10 rfl ?_; conv => whnf)))
     refine draw_rule tok (cf := cfGR10) (by kernel_rfl) [.p 0, .p 1, .p 2, .p 3, .p 4, .p 5, .p 6, .p 7, .p 8, .p 9, .p 10, .p 11, .p 12, .p 13, .p 14, .p 15, .p 16, .p 17, .p 18, .p 19, .p 20, .p 21, .p 22, .s 23 [0,22,1,9,10,12,13,16,17,20,21,8,11,15,19,7,14,18,6,3,5,2,4]] (by kernel_rfl) ?_
     ((conv => whnf); repeat' (refine Y cfGR10 rfl ?_; conv => whnf))
     repeat' ((first | (intro hlq; (try simp only [SL] at hlq)) | refine ⟨_, ⟨hd0, hdist, rfl⟩, ?_⟩ | refine Ks ?_ | refine Kq ?_ | refine Kt ?_ | ((refine Kh (fun hb => ?_) fun hb => ?_) <;> (try simp only [BL] at hb)) | refine Ka ?_ | refine Kb ?_ | refine Kc (hd := rfl) (e := ?_) | refine Kc (hd := Cond.cells_eq _) (e := ?_) | refine Kd (e := ?_) | refine Kl rfl ?_ | fail) <;> ((conv => whnf); repeat' (refine Y cfGR10 rfl ?_; conv => whnf)))
     refine ⟨prO (rr (cR c)) 70 xs, _, ⟨?_, ?_⟩, (put_to (cR c) xs B3 [.s [32, 32, 112, 114, 105, 122, 101, 32], .s (distN c c.prizes[i].distance), .s [32], .s (whoT c c.prizes[i].category), .s [32], .i c.prizes[i].rank, .s [32], .i c.prizes[i].amount, .s [59, 10]] hnx (by rw [hB3]; simp [textOf, Item.text, lineT, prizeT]) (by omega)).mono ?_⟩
     · exact Ko
     · exact Ko
     rintro o O2 ⟨rfl, rfl⟩
     dsimp only
     rw [closedR_pr (rr_d _)]
     ((conv => whnf); repeat' (refine Y cfGR10 rfl ?_; conv => whnf))
     repeat' ((first | (intro hlq; (try simp only [SL] at hlq)) | refine Ks ?_ | refine Kq ?_ | refine Kt ?_ | ((refine Kh (fun hb => ?_) fun hb => ?_) <;> (try simp only [BL] at hb)) | refine Ka ?_ | refine Kb ?_ | refine Kc (hd := rfl) (e := ?_) | refine Kc (hd := Cond.cells_eq _) (e := ?_) | refine Kd (e := ?_) | refine Kl rfl ?_ | fail) <;> ((conv => whnf); repeat' (refine Y cfGR10 rfl ?_; conv => whnf)))
     refine ⟨⟨(i + 1, B3), ?_, ⟨by omega, by rw [hB3, hst, hxs, List.append_assoc]⟩, by dsimp only; omega⟩⟩
     repeat' (first | exact True.intro | exact rfl | refine And.intro ?_ ?_)
     all_goals exact SubB_refl _ _
   have e6 : whoT c c.prizes[i].category = [97, 108, 108] := by rw [whoT, if_neg h6]
   refine draw_rule tok (cf := cfGR10) (by kernel_rfl) [.p 0, .p 1, .p 2, .p 3, .p 4, .p 5, .p 6, .p 7, .p 8, .p 9, .p 10, .p 11, .p 12, .p 13, .p 14, .p 15, .p 16, .p 17, .p 18, .p 19, .p 20, .p 21, .p 22, .s 23 [0,22,1,9,10,12,13,16,17,20,21,8,11,15,19,7,14,18,6,3,5,2,4]] (by kernel_rfl) ?_
   ((conv => whnf); repeat' (refine Y cfGR10 rfl ?_; conv => whnf))
   repeat' ((first | (intro hlq; (try simp only [SL] at hlq)) | refine ⟨_, ⟨hd0, hdist, rfl⟩, ?_⟩ | refine Ks ?_ | refine Kq ?_ | refine Kt ?_ | ((refine Kh (fun hb => ?_) fun hb => ?_) <;> (try simp only [BL] at hb)) | refine Ka ?_ | refine Kb ?_ | refine Kc (hd := rfl) (e := ?_) | refine Kc (hd := Cond.cells_eq _) (e := ?_) | refine Kd (e := ?_) | refine Kl rfl ?_ | fail) <;> ((conv => whnf); repeat' (refine Y cfGR10 rfl ?_; conv => whnf)))
   refine ⟨prO (rr (cR c)) 70 xs, _, ⟨?_, ?_⟩, (put_to (cR c) xs B3 [.s [32, 32, 112, 114, 105, 122, 101, 32], .s (distN c c.prizes[i].distance), .s [32], .s [97, 108, 108], .s [32], .i c.prizes[i].rank, .s [32], .i c.prizes[i].amount, .s [59, 10]] hnx (by rw [hB3]; simp [textOf, Item.text, lineT, prizeT, e6]) (by omega)).mono ?_⟩
   · exact Ko
   · exact Ko
   rintro o O2 ⟨rfl, rfl⟩
   dsimp only
   rw [closedR_pr (rr_d _)]
   ((conv => whnf); repeat' (refine Y cfGR10 rfl ?_; conv => whnf))
   repeat' ((first | (intro hlq; (try simp only [SL] at hlq)) | refine Ks ?_ | refine Kq ?_ | refine Kt ?_ | ((refine Kh (fun hb => ?_) fun hb => ?_) <;> (try simp only [BL] at hb)) | refine Ka ?_ | refine Kb ?_ | refine Kc (hd := rfl) (e := ?_) | refine Kc (hd := Cond.cells_eq _) (e := ?_) | refine Kd (e := ?_) | refine Kl rfl ?_ | fail) <;> ((conv => whnf); repeat' (refine Y cfGR10 rfl ?_; conv => whnf)))
   refine ⟨⟨(i + 1, B3), ?_, ⟨by omega, by rw [hB3, hst, hxs, List.append_assoc]⟩, by dsimp only; omega⟩⟩
   repeat' (first | exact True.intro | exact rfl | refine And.intro ?_ ?_)
   all_goals exact SubB_refl _ _
 have e : c.prizes.take i = c.prizes := List.take_of_length_le (by omega)
 rw [e] at hxs hLx
 clear h1 e hall
 have hN7 : xs ≠ [] := hnx
 have hQ7 := hxs
 have hM7 : xs.length ≤ 25931944 := by omega
 clear hxs hLx hj hnx hB6
 rename List UInt8 => P7
 have hT := stepsT_le hg.steps
 have hnst := hg.nst
 have hncd := hg.ncd
 obtain ⟨P8, hP8⟩ : ∃ P, P = P7 ++ [32, 32, 116, 105, 101, 115, 32, 123, 32] := ⟨_, rfl⟩
 have hL8 := congrArg List.length hP8
 simp only [List.length_append, List.length_cons, List.length_nil] at hL8
 have hN8 : P8 ≠ [] := by rw [hP8]; simp
 repeat' ((first | (intro hlq; (try simp only [SL] at hlq)) | refine Ks ?_ | refine Kq ?_ | refine Kt ?_ | ((refine Kh (fun hb => ?_) fun hb => ?_) <;> (try simp only [BL] at hb)) | refine Ka ?_ | refine Kb ?_ | refine Kc (hd := rfl) (e := ?_) | refine Kc (hd := Cond.cells_eq _) (e := ?_) | refine Kd (e := ?_) | refine Kl rfl ?_ | fail) <;> ((conv => whnf); repeat' (refine Y cfGR10 rfl ?_; conv => whnf)))
 refine ⟨prO (rr (cR c)) 70 P7, _, ⟨?_, ?_⟩, (put_to (cR c) P7 P8 [.s [32, 32, 116, 105, 101, 115, 32, 123, 32]] hN7 (by rw [hP8]; simp [textOf, Item.text]) (by omega)).mono ?_⟩
 · exact Ko
 · exact Ko
 rintro o O2 ⟨rfl, rfl⟩
 dsimp only
 rw [closedR_pr (rr_d _)]
 ((conv => whnf); repeat' (refine Y cfGR10 rfl ?_; conv => whnf))
 repeat' ((first | (intro hlq; (try simp only [SL] at hlq)) | refine Ks ?_ | refine Kq ?_ | refine Kt ?_ | ((refine Kh (fun hb => ?_) fun hb => ?_) <;> (try simp only [BL] at hb)) | refine Ka ?_ | refine Kb ?_ | refine Kc (hd := rfl) (e := ?_) | refine Kc (hd := Cond.cells_eq _) (e := ?_) | refine Kd (e := ?_) | refine Kl rfl ?_ | fail) <;> ((conv => whnf); repeat' (refine Y cfGR10 rfl ?_; conv => whnf)))
 refine ⟨prO (rr (cR c)) 70 P8, _, ⟨?_, ?_⟩, (psteps_meets (cR c) c.ties P8 hN8 hg.steps hs.ties.2 (by omega) (by omega)).mono ?_⟩
 · exact Ko
 · exact Ko
 rintro o O2 ⟨rfl, rfl⟩
 dsimp only
 rw [closedR_pr (rr_d _)]
 ((conv => whnf); repeat' (refine Y cfGR10 rfl ?_; conv => whnf))
 obtain ⟨P9, hP9⟩ : ∃ P, P = P8 ++ stepsT c.ties := ⟨_, rfl⟩
 have hL9 := congrArg List.length hP9
 simp only [List.length_append] at hL9
 have hN9 : P9 ≠ [] := by rw [hP9]; simp [hN8]
 rw [← hP9]
 have g1 := hF.misses
 have g2 := hF.strays
 have g3 := hF.drift
 have g4 := hF.fee
 have f1 := itoa_le c.faults.misses (by omega) (by omega)
 have f2 := itoa_le c.faults.strays (by omega) (by omega)
 have f3 := itoa_le c.faults.drift (by omega) (by omega)
 have f4 := itoa_le c.fee (by omega) (by omega)
 have f5 := timeS_le c.faults.window
 have f6 := timeS_le c.faults.residual
 have f7 := timeS_le c.deadline
 obtain ⟨P10, hP10⟩ : ∃ P, P = P9 ++ (([32, 125, 10, 32, 32, 102, 97, 117, 108, 116, 115, 32, 123, 32, 109, 105, 115, 115, 101, 115, 32] : List UInt8) ++ Lib.itoa c.faults.misses ++ [59, 32, 115, 116, 114, 97, 121, 115, 32] ++ Lib.itoa c.faults.strays ++ [59, 32, 119, 105, 110, 100, 111, 119, 32] ++ timeS c.faults.window ++ [59, 32, 114, 101, 115, 105, 100, 117, 97, 108, 32] ++ timeS c.faults.residual ++ [59, 32, 100, 114, 105, 102, 116, 32] ++ Lib.itoa c.faults.drift ++ [59, 32, 125, 10]) := ⟨_, rfl⟩
 have hL10 := congrArg List.length hP10
 simp only [List.length_append, List.length_cons, List.length_nil] at hL10
 have hN10 : P10 ≠ [] := by rw [hP10]; simp
 obtain ⟨P11, hP11⟩ : ∃ P, P = P10 ++ (([32, 32, 112, 114, 111, 116, 101, 115, 116, 32, 102, 101, 101, 32] : List UInt8) ++ Lib.itoa c.fee ++ [32, 100, 101, 97, 100, 108, 105, 110, 101, 32] ++ timeS c.deadline ++ [59, 10, 125, 10]) := ⟨_, rfl⟩
 have hL11 := congrArg List.length hP11
 simp only [List.length_append, List.length_cons, List.length_nil] at hL11
 have hN11 : P11 ≠ [] := by rw [hP11]; simp
 have hC : P11 = courseT c := by
  rw [hparts, hP11, hP10, hP9, hP8, hQ7, hQ6, hQ5, hQ4, hQ3, hQ2, hQ1]
  simp [lineT, tiesT, faultsT, feeT]
 repeat' ((first | (intro hlq; (try simp only [SL] at hlq)) | refine Ks ?_ | refine Kq ?_ | refine Kt ?_ | ((refine Kh (fun hb => ?_) fun hb => ?_) <;> (try simp only [BL] at hb)) | refine Ka ?_ | refine Kb ?_ | refine Kc (hd := rfl) (e := ?_) | refine Kc (hd := Cond.cells_eq _) (e := ?_) | refine Kd (e := ?_) | refine Kl rfl ?_ | fail) <;> ((conv => whnf); repeat' (refine Y cfGR10 rfl ?_; conv => whnf)))
 refine draw_rule tok (cf := cfGR10) (by kernel_rfl) [.p 0, .p 1, .p 2, .p 3, .p 4, .p 5, .p 6, .p 7, .p 8, .p 9, .p 10, .p 11, .p 14, .p 15, .p 16, .p 19, .p 20, .p 21, .p 22, .p 23, .s 12 [11,10], .p 13, .s 17 [16,15], .p 18, .p 24, .s 25 [0,24,1,4,5,8,9,13,14,18,19,22,23,3,7,21,2,6,20]] (by kernel_rfl) ?_
 ((conv => whnf); repeat' (refine Y cfGR10 rfl ?_; conv => whnf))
 repeat' ((first | (intro hlq; (try simp only [SL] at hlq)) | refine Meets.k (moment_meets _) ?_ | refine Ks ?_ | refine Kq ?_ | refine Kt ?_ | ((refine Kh (fun hb => ?_) fun hb => ?_) <;> (try simp only [BL] at hb)) | refine Ka ?_ | refine Kb ?_ | refine Kc (hd := rfl) (e := ?_) | refine Kc (hd := Cond.cells_eq _) (e := ?_) | refine Kd (e := ?_) | refine Kl rfl ?_ | fail) <;> ((conv => whnf); repeat' (refine Y cfGR10 rfl ?_; conv => whnf)))
 refine ⟨prO (rr (cR c)) 70 P9, _, ⟨?_, ?_⟩, (put_to (cR c) P9 P10 [.s [32, 125, 10, 32, 32, 102, 97, 117, 108, 116, 115, 32, 123, 32, 109, 105, 115, 115, 101, 115, 32], .i c.faults.misses, .s [59, 32, 115, 116, 114, 97, 121, 115, 32], .i c.faults.strays, .s [59, 32, 119, 105, 110, 100, 111, 119, 32], .s (timeS c.faults.window), .s [59, 32, 114, 101, 115, 105, 100, 117, 97, 108, 32], .s (timeS c.faults.residual), .s [59, 32, 100, 114, 105, 102, 116, 32], .i c.faults.drift, .s [59, 32, 125, 10]] hN9 (by rw [hP10]; simp [textOf, Item.text]) (by omega)).mono ?_⟩
 · exact Ko
 · exact Ko
 rintro o O2 ⟨rfl, rfl⟩
 dsimp only
 rw [closedR_pr (rr_d _)]
 ((conv => whnf); repeat' (refine Y cfGR10 rfl ?_; conv => whnf))
 repeat' ((first | (intro hlq; (try simp only [SL] at hlq)) | refine Ks ?_ | refine Kq ?_ | refine Kt ?_ | ((refine Kh (fun hb => ?_) fun hb => ?_) <;> (try simp only [BL] at hb)) | refine Ka ?_ | refine Kb ?_ | refine Kc (hd := rfl) (e := ?_) | refine Kc (hd := Cond.cells_eq _) (e := ?_) | refine Kd (e := ?_) | refine Kl rfl ?_ | fail) <;> ((conv => whnf); repeat' (refine Y cfGR10 rfl ?_; conv => whnf)))
 refine draw_rule tok (cf := cfGR10) (by kernel_rfl) [.p 0, .p 1, .p 2, .p 3, .p 4, .p 5, .p 6, .p 7, .p 10, .s 8 [7,6], .p 9, .p 11, .s 12 [0,11,1,4,5,9,10,3,2]] (by kernel_rfl) ?_
 ((conv => whnf); repeat' (refine Y cfGR10 rfl ?_; conv => whnf))
 repeat' ((first | (intro hlq; (try simp only [SL] at hlq)) | refine Meets.k (moment_meets _) ?_ | refine Ks ?_ | refine Kq ?_ | refine Kt ?_ | ((refine Kh (fun hb => ?_) fun hb => ?_) <;> (try simp only [BL] at hb)) | refine Ka ?_ | refine Kb ?_ | refine Kc (hd := rfl) (e := ?_) | refine Kc (hd := Cond.cells_eq _) (e := ?_) | refine Kd (e := ?_) | refine Kl rfl ?_ | fail) <;> ((conv => whnf); repeat' (refine Y cfGR10 rfl ?_; conv => whnf)))
 refine ⟨prO (rr (cR c)) 70 P10, _, ⟨?_, ?_⟩, (put_to (cR c) P10 P11 [.s [32, 32, 112, 114, 111, 116, 101, 115, 116, 32, 102, 101, 101, 32], .i c.fee, .s [32, 100, 101, 97, 100, 108, 105, 110, 101, 32], .s (timeS c.deadline), .s [59, 10, 125, 10]] hN10 (by rw [hP11]; simp [textOf, Item.text]) (by omega)).mono ?_⟩
 · exact Ko
 · exact Ko
 rintro o O2 ⟨rfl, rfl⟩
 dsimp only
 rw [closedR_pr (rr_d _)]
 ((conv => whnf); repeat' (refine Y cfGR10 rfl ?_; conv => whnf))
 repeat' ((first | (intro hlq; (try simp only [SL] at hlq)) | refine Ks ?_ | refine Kq ?_ | refine Kt ?_ | ((refine Kh (fun hb => ?_) fun hb => ?_) <;> (try simp only [BL] at hb)) | refine Ka ?_ | refine Kb ?_ | refine Kc (hd := rfl) (e := ?_) | refine Kc (hd := Cond.cells_eq _) (e := ?_) | refine Kd (e := ?_) | refine Kl rfl ?_ | fail) <;> ((conv => whnf); repeat' (refine Y cfGR10 rfl ?_; conv => whnf)))
 refine ⟨prO (rr (cR c)) 70 P11, _, ⟨?_, ?_⟩, (meets_Len (.loc 1000 0) P11).mono ?_⟩
 · exact Ko
 · exact Ko
 rintro o O2 ⟨rfl, rfl⟩
 dsimp only
 rw [closedR_pr (rr_d _)]
 ((conv => whnf); repeat' (refine Y cfGR10 rfl ?_; conv => whnf))
 rw [hC] at hL11 hN11 ⊢
 repeat' ((first | (intro hlq; (try simp only [SL] at hlq)) | refine Ks ?_ | refine Kq ?_ | refine Kt ?_ | ((refine Kh (fun hb => ?_) fun hb => ?_) <;> (try simp only [BL] at hb)) | refine Ka ?_ | refine Kb ?_ | refine Kc (hd := rfl) (e := ?_) | refine Kc (hd := Cond.cells_eq _) (e := ?_) | refine Kd (e := ?_) | refine Kl rfl ?_ | fail) <;> ((conv => whnf); repeat' (refine Y cfGR10 rfl ?_; conv => whnf)))
 · refine ⟨?_⟩
   rw [courseS, courseX, if_neg (fun e => by omega), if_pos he, if_neg (by omega)]
   rfl
 refine ⟨prO (rr (cR c)) 70 (courseT c), _, ⟨?_, ?_⟩, (meets_String 1000 1001 (by decide) (.loc 1000 0) (courseT c) hN11 (by unfold maxLen; omega)).mono ?_⟩
 · exact Kr
 · repeat' (first | exact True.intro | exact rfl | refine And.intro ?_ ?_)
   all_goals exact SubB_refl _ _
 rintro o O2 ⟨rfl, rfl⟩
 dsimp only
 rw [closedR_jk]
 ((conv => whnf); repeat' (refine Y cfGR10 rfl ?_; conv => whnf))
 refine ⟨?_⟩
 rw [courseS, courseX, if_pos ⟨he, by omega⟩, if_pos he, if_pos (by omega)]
end Go.Proofs.YteckbkljaneppaaGreatDoor.Dx
