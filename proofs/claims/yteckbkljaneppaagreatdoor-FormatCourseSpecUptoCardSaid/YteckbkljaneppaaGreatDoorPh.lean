/- All lines, the text of a course, in the reference. -/
import Derived.Test.YteckbkljaneppaaGreatDoorPg
set_option linter.all false
namespace Go.Proofs.YteckbkljaneppaaGreatDoor.Dx
open Go Go.RowKit Go.Proofs
set_option maxRecDepth 100000
set_option maxHeartbeats 16000000
theorem rows_step {α : Type} (P : List (List UInt8)) (f : α → List UInt8) {l : List α} {i : Nat} (h : i < l.length) : (P ++ (l.take (i + 1)).map f).map scells = (P ++ (l.take i).map f).map scells ++ [[.str (f l[i])]] := by
 rw [List.take_succ_eq_append_getElem h, List.map_append (f := f), ← List.append_assoc, List.map_append]; rfl
theorem rows_zero {α : Type} (P : List (List UInt8)) (f : α → List UInt8) (l : List α) : P.map scells = (P ++ (l.take 0).map f).map scells := by simp
theorem rows_last {α : Type} (P : List (List UInt8)) (f : α → List UInt8) {l : List α} {i : Nat} (h : ¬ i < l.length) : (P ++ (l.take i).map f).map scells = (P ++ l.map f).map scells := by
 rw [List.take_of_length_le (by omega)]
structure LgOk (c : Course) (x : Leg) : Prop where
 src : 0 ≤ x.src ∧ x.src ≤ c.m
 dst : 0 ≤ x.dst ∧ x.dst ≤ c.m
theorem lgok {c : Course} (hg : Good c) {x : Leg} (hx : x ∈ c.legs) : LgOk c x := by
 have h := hg.nums.legs x hx
 simp only [Leg.good, Bool.and_eq_true, inR, decide_eq_true_eq] at h
 exact ⟨h.1.1, h.1.2⟩
theorem ctok {c : Course} (hg : Good c) {x : Category} (hx : x ∈ c.categories) : (0 ≤ x.lo ∧ x.lo ≤ 120) ∧ 0 ≤ x.hi ∧ x.hi ≤ 120 := by
 have h := hg.nums.categories x hx
 simp only [Category.good, Bool.and_eq_true, inR, decide_eq_true_eq] at h
 exact h.1
structure FOk (c : Course) : Prop where
 misses : 0 ≤ c.faults.misses ∧ c.faults.misses ≤ 16
 strays : 0 ≤ c.faults.strays ∧ c.faults.strays ≤ 16
 window : 0 ≤ c.faults.window ∧ c.faults.window ≤ 4294967296
 residual : 0 ≤ c.faults.residual ∧ c.faults.residual ≤ 4294967296
 drift : 0 ≤ c.faults.drift ∧ c.faults.drift ≤ 100000
 fee : 0 ≤ c.fee ∧ c.fee ≤ 1125899906842624
 deadline : 0 ≤ c.deadline ∧ c.deadline ≤ 1099511627776
theorem fok {c : Course} (hg : Good c) : FOk c := by
 have h := hg.nums.rest
 simp only [Course.numsB, Bool.and_eq_true, inR, decide_eq_true_eq] at h
 exact ⟨h.1.1, h.1.2, h.2.1.1, h.2.1.2, h.2.2.1, h.2.2.2.1, h.2.2.2.2⟩
theorem lines_meets (c : Course) (hg : Good c) : Meets Tryz.prog 36 [c.d] fun d => d = .sl ((linesT c).map scells) := by
 have hl := lens hg.fits
 have hF := fok hg
 refine enter tok {} Tryz.func36 rfl (by kernel_rfl) Tryz.ntmps36 (by simp) fun B0 W0 V0 lent g0 => ?_
 ((conv => whnf); repeat' (refine Z rfl ?_; conv => whnf))
 refine Meets.k (matst_meets c hg) ?_
 ((conv => whnf); repeat' (refine Z rfl ?_; conv => whnf))
 refine loop_upd tok {} [(.inl 3, 3, 9, 1)] (X := Nat) (fun i => [(4, iB i), (3, .own 3)]) (fun i => [(3, .sl ⟨9, 1, ([matsT c] ++ (c.legs.take i).map (legT c)).map scells, true⟩)]) [5] (fun i => i ≤ c.legs.length) (fun i => c.legs.length - i) 0 ?_
 ((conv => whnf); repeat' (refine Z rfl ?_; conv => whnf))
 refine ⟨by simp, ?_⟩
 ((conv => whnf); repeat' (refine Z rfl ?_; conv => whnf))
 refine And.intro ?_ ⟨by omega, fun i hi => ?_⟩
 · repeat' (first | exact True.intro | exact rfl | refine And.intro ?_ ?_ | exact rows_zero _ _ _)
 ((conv => whnf); repeat' (refine Z rfl ?_; conv => whnf))
 repeat' ((first | (intro hlq; (try simp only [SL] at hlq)) | refine Ks ?_ | refine Kq ?_ | refine Kt ?_ | refine Ka ?_ | refine Kb ?_ | refine Kc (hd := rfl) (e := ?_) | refine Kc (hd := Cond.cells_eq _) (e := ?_) | refine Kd (e := ?_) | refine Kl rfl ?_ | fail) <;> ((conv => whnf); repeat' (refine Z rfl ?_; conv => whnf)))
 refine ⟨fun h0 => ?_, fun h0 => ?_⟩ <;> (try simp only [BL] at h0) <;> ((conv => whnf); repeat' (refine Z rfl ?_; conv => whnf))
 · have hil : i < c.legs.length := by omega
   have hst := rows_step ([matsT c]) (legT c) hil
   have hx := lgok hg (List.getElem_mem hil)
   obtain ⟨k1, hm1⟩ := mat_at hx.src.1 hx.src.2
   obtain ⟨k2, hm2⟩ := mat_at hx.dst.1 hx.dst.2
   have f1 := matN_le hg.mats c.legs[i].src
   have f2 := matN_le hg.mats c.legs[i].dst
   have f3 := timeS_le c.legs[i].lo
   have f4 := timeS_le c.legs[i].hi
   repeat' ((first | (intro hlq; (try simp only [SL] at hlq)) | refine Ks ?_ | refine Kq ?_ | refine Kt ?_ | ((refine Kh (fun hb => ?_) fun hb => ?_) <;> (try simp only [BL] at hb)) | refine Ka ?_ | refine Kb ?_ | refine Kc (hd := rfl) (e := ?_) | refine Kc (hd := Leg.cells_eq _) (e := ?_) | refine Kd (e := ?_) | refine Kl rfl ?_ | fail) <;> ((conv => whnf); repeat' (refine Z rfl ?_; conv => whnf)))
   refine draw_rule tok (cf := {}) (by kernel_rfl) [.p 0, .p 1, .p 2, .p 3, .p 4, .p 5, .p 6, .p 7, .p 8, .p 9, .p 10, .p 11, .p 12, .p 13, .p 14, .p 15, .p 16, .p 17, .p 18, .p 19, .p 20, .p 24, .p 25, .s 21 [20,19], .p 22, .p 23, .s 26 [25,24], .p 27, .p 28, .p 29, .s 30 [0,29,28,27,23,22,18,17,9,16,8,15,7,14,6,11,13,5,10,12,2,4,1,3], .p 31] (by kernel_rfl) ?_
   ((conv => whnf); repeat' (refine Z rfl ?_; conv => whnf))
   repeat' ((first | (intro hlq; (try simp only [SL] at hlq)) | refine Meets.k (rmoment_meets _) ?_ | refine ⟨_, ⟨hx.src.1, hm1, rfl⟩, ?_⟩ | refine ⟨_, ⟨hx.dst.1, hm2, rfl⟩, ?_⟩ | refine Ks ?_ | refine Kq ?_ | refine Kt ?_ | ((refine Kh (fun hb => ?_) fun hb => ?_) <;> (try simp only [BL] at hb)) | refine Ka ?_ | refine Kb ?_ | refine Kc (hd := rfl) (e := ?_) | refine Kc (hd := Leg.cells_eq _) (e := ?_) | refine Kd (e := ?_) | refine Kl rfl ?_ | fail) <;> ((conv => whnf); repeat' (refine Z rfl ?_; conv => whnf)))
   refine ⟨by simp, ?_⟩
   ((conv => whnf); repeat' (refine Z rfl ?_; conv => whnf))
   refine ⟨fun h1 h2 => ?_, ?_⟩
   · simp only [maxLen, List.length_map, List.length_append, List.length_take, List.length_cons, List.length_nil] at *
     omega
   ((conv => whnf); repeat' (refine Z rfl ?_; conv => whnf))
   repeat' ((first | (intro hlq; (try simp only [SL] at hlq)) | refine Ks ?_ | refine Kq ?_ | refine Kt ?_ | ((refine Kh (fun hb => ?_) fun hb => ?_) <;> (try simp only [BL] at hb)) | refine Ka ?_ | refine Kb ?_ | refine Kc (hd := rfl) (e := ?_) | refine Kc (hd := Cond.cells_eq _) (e := ?_) | refine Kd (e := ?_) | refine Kl rfl ?_ | fail) <;> ((conv => whnf); repeat' (refine Z rfl ?_; conv => whnf)))
   refine ⟨⟨i + 1, ?_, by omega, by omega⟩⟩
   rw [hst]
   repeat' (first | exact True.intro | exact rfl | refine And.intro ?_ ?_)
 rw [rows_last ([matsT c]) (legT c) (by omega)]
 refine loop_upd tok {} [] (X := Nat) (fun i => [(6, iB i), (3, .own 3)]) (fun i => [(3, .sl ⟨9, 1, ([matsT c] ++ c.legs.map (legT c) ++ (c.distances.take i).map (distT c)).map scells, true⟩)]) [] (fun i => i ≤ c.distances.length) (fun i => c.distances.length - i) 0 ?_
 ((conv => whnf); repeat' (refine Z rfl ?_; conv => whnf))
 refine And.intro ?_ ⟨by omega, fun i hi => ?_⟩
 · repeat' (first | exact True.intro | exact rfl | refine And.intro ?_ ?_ | exact rows_zero _ _ _)
 ((conv => whnf); repeat' (refine Z rfl ?_; conv => whnf))
 repeat' ((first | (intro hlq; (try simp only [SL] at hlq)) | refine Ks ?_ | refine Kq ?_ | refine Kt ?_ | refine Ka ?_ | refine Kb ?_ | refine Kc (hd := rfl) (e := ?_) | refine Kc (hd := Cond.cells_eq _) (e := ?_) | refine Kd (e := ?_) | refine Kl rfl ?_ | fail) <;> ((conv => whnf); repeat' (refine Z rfl ?_; conv => whnf)))
 refine ⟨fun h1 => ?_, fun h1 => ?_⟩ <;> (try simp only [BL] at h1) <;> ((conv => whnf); repeat' (refine Z rfl ?_; conv => whnf))
 · have hil : i < c.distances.length := by omega
   have hst := rows_step ([matsT c] ++ c.legs.map (legT c)) (distT c) hil
   have hx := dok hg (List.getElem_mem hil)
   repeat' ((first | (intro hlq; (try simp only [SL] at hlq)) | refine Ks ?_ | refine Kq ?_ | refine Kt ?_ | ((refine Kh (fun hb => ?_) fun hb => ?_) <;> (try simp only [BL] at hb)) | refine Ka ?_ | refine Kb ?_ | refine Kc (hd := rfl) (e := ?_) | refine Kc (hd := Distance.cells_eq _) (e := ?_) | refine Kd (e := ?_) | refine Kl rfl ?_ | fail) <;> ((conv => whnf); repeat' (refine Z rfl ?_; conv => whnf)))
   refine draw_rule tok (cf := {}) (by kernel_rfl) [.p 0, .p 1, .p 2, .p 3, .p 4, .p 5, .p 6, .s 7 [1,6,5,3,4,2], .p 8, .s 9 [0,8], .p 10] (by kernel_rfl) ?_
   ((conv => whnf); repeat' (refine Z rfl ?_; conv => whnf))
   repeat' ((first | (intro hlq; (try simp only [SL] at hlq)) | refine Meets.k (distt_meets c hg _ hx) ?_ | refine Ks ?_ | refine Kq ?_ | refine Kt ?_ | ((refine Kh (fun hb => ?_) fun hb => ?_) <;> (try simp only [BL] at hb)) | refine Ka ?_ | refine Kb ?_ | refine Kc (hd := rfl) (e := ?_) | refine Kc (hd := Distance.cells_eq _) (e := ?_) | refine Kd (e := ?_) | refine Kl rfl ?_ | fail) <;> ((conv => whnf); repeat' (refine Z rfl ?_; conv => whnf)))
   refine ⟨by simp, ?_⟩
   ((conv => whnf); repeat' (refine Z rfl ?_; conv => whnf))
   refine ⟨fun h1 h2 => ?_, ?_⟩
   · simp only [maxLen, List.length_map, List.length_append, List.length_take, List.length_cons, List.length_nil] at *
     omega
   ((conv => whnf); repeat' (refine Z rfl ?_; conv => whnf))
   repeat' ((first | (intro hlq; (try simp only [SL] at hlq)) | refine Ks ?_ | refine Kq ?_ | refine Kt ?_ | ((refine Kh (fun hb => ?_) fun hb => ?_) <;> (try simp only [BL] at hb)) | refine Ka ?_ | refine Kb ?_ | refine Kc (hd := rfl) (e := ?_) | refine Kc (hd := Cond.cells_eq _) (e := ?_) | refine Kd (e := ?_) | refine Kl rfl ?_ | fail) <;> ((conv => whnf); repeat' (refine Z rfl ?_; conv => whnf)))
   refine ⟨⟨i + 1, ?_, by omega, by omega⟩⟩
   rw [hst]
   repeat' (first | exact True.intro | exact rfl | refine And.intro ?_ ?_)
 rw [rows_last ([matsT c] ++ c.legs.map (legT c)) (distT c) (by omega)]
 refine loop_upd tok {} [] (X := Nat) (fun i => [(7, iB i), (3, .own 3)]) (fun i => [(3, .sl ⟨9, 1, ([matsT c] ++ c.legs.map (legT c) ++ c.distances.map (distT c) ++ (c.waves.take i).map waveT).map scells, true⟩)]) [] (fun i => i ≤ c.waves.length) (fun i => c.waves.length - i) 0 ?_
 ((conv => whnf); repeat' (refine Z rfl ?_; conv => whnf))
 refine And.intro ?_ ⟨by omega, fun i hi => ?_⟩
 · repeat' (first | exact True.intro | exact rfl | refine And.intro ?_ ?_ | exact rows_zero _ _ _)
 ((conv => whnf); repeat' (refine Z rfl ?_; conv => whnf))
 repeat' ((first | (intro hlq; (try simp only [SL] at hlq)) | refine Ks ?_ | refine Kq ?_ | refine Kt ?_ | refine Ka ?_ | refine Kb ?_ | refine Kc (hd := rfl) (e := ?_) | refine Kc (hd := Cond.cells_eq _) (e := ?_) | refine Kd (e := ?_) | refine Kl rfl ?_ | fail) <;> ((conv => whnf); repeat' (refine Z rfl ?_; conv => whnf)))
 refine ⟨fun h2 => ?_, fun h2 => ?_⟩ <;> (try simp only [BL] at h2) <;> ((conv => whnf); repeat' (refine Z rfl ?_; conv => whnf))
 · have hil : i < c.waves.length := by omega
   have hst := rows_step ([matsT c] ++ c.legs.map (legT c) ++ c.distances.map (distT c)) waveT hil
   have f1 := hg.waves _ (List.getElem_mem hil)
   have f2 := timeS_le c.waves[i].gun
   repeat' ((first | (intro hlq; (try simp only [SL] at hlq)) | refine Ks ?_ | refine Kq ?_ | refine Kt ?_ | ((refine Kh (fun hb => ?_) fun hb => ?_) <;> (try simp only [BL] at hb)) | refine Ka ?_ | refine Kb ?_ | refine Kc (hd := rfl) (e := ?_) | refine Kc (hd := Wave.cells_eq _) (e := ?_) | refine Kd (e := ?_) | refine Kl rfl ?_ | fail) <;> ((conv => whnf); repeat' (refine Z rfl ?_; conv => whnf)))
   refine draw_rule tok (cf := {}) (by kernel_rfl) [.p 0, .p 1, .p 2, .p 3, .p 4, .p 5, .p 6, .p 7, .p 8, .p 9, .p 10, .p 11, .p 12, .p 13, .p 14, .s 15 [14,13,12,10,11,9], .p 16, .p 17, .p 18, .s 19 [0,18,17,16,8,7,6,5,4,2,3,1], .p 20] (by kernel_rfl) ?_
   ((conv => whnf); repeat' (refine Z rfl ?_; conv => whnf))
   repeat' ((first | (intro hlq; (try simp only [SL] at hlq)) | refine Meets.k (rmoment_meets _) ?_ | refine Ks ?_ | refine Kq ?_ | refine Kt ?_ | ((refine Kh (fun hb => ?_) fun hb => ?_) <;> (try simp only [BL] at hb)) | refine Ka ?_ | refine Kb ?_ | refine Kc (hd := rfl) (e := ?_) | refine Kc (hd := Wave.cells_eq _) (e := ?_) | refine Kc (hd := Wave.cells_eq _) (e := ?_) | refine Kd (e := ?_) | refine Kl rfl ?_ | fail) <;> ((conv => whnf); repeat' (refine Z rfl ?_; conv => whnf)))
   refine ⟨by simp, ?_⟩
   ((conv => whnf); repeat' (refine Z rfl ?_; conv => whnf))
   refine ⟨fun h1 h2 => ?_, ?_⟩
   · simp only [maxLen, List.length_map, List.length_append, List.length_take, List.length_cons, List.length_nil] at *
     omega
   ((conv => whnf); repeat' (refine Z rfl ?_; conv => whnf))
   repeat' ((first | (intro hlq; (try simp only [SL] at hlq)) | refine Ks ?_ | refine Kq ?_ | refine Kt ?_ | ((refine Kh (fun hb => ?_) fun hb => ?_) <;> (try simp only [BL] at hb)) | refine Ka ?_ | refine Kb ?_ | refine Kc (hd := rfl) (e := ?_) | refine Kc (hd := Cond.cells_eq _) (e := ?_) | refine Kd (e := ?_) | refine Kl rfl ?_ | fail) <;> ((conv => whnf); repeat' (refine Z rfl ?_; conv => whnf)))
   refine ⟨⟨i + 1, ?_, by omega, by omega⟩⟩
   rw [hst]
   repeat' (first | exact True.intro | exact rfl | refine And.intro ?_ ?_)
 rw [rows_last ([matsT c] ++ c.legs.map (legT c) ++ c.distances.map (distT c)) waveT (by omega)]
 refine loop_upd tok {} [] (X := Nat) (fun i => [(8, iB i), (3, .own 3)]) (fun i => [(3, .sl ⟨9, 1, ([matsT c] ++ c.legs.map (legT c) ++ c.distances.map (distT c) ++ c.waves.map waveT ++ (c.offences.take i).map offT).map scells, true⟩)]) [] (fun i => i ≤ c.offences.length) (fun i => c.offences.length - i) 0 ?_
 ((conv => whnf); repeat' (refine Z rfl ?_; conv => whnf))
 refine And.intro ?_ ⟨by omega, fun i hi => ?_⟩
 · repeat' (first | exact True.intro | exact rfl | refine And.intro ?_ ?_ | exact rows_zero _ _ _)
 ((conv => whnf); repeat' (refine Z rfl ?_; conv => whnf))
 repeat' ((first | (intro hlq; (try simp only [SL] at hlq)) | refine Ks ?_ | refine Kq ?_ | refine Kt ?_ | refine Ka ?_ | refine Kb ?_ | refine Kc (hd := rfl) (e := ?_) | refine Kc (hd := Cond.cells_eq _) (e := ?_) | refine Kd (e := ?_) | refine Kl rfl ?_ | fail) <;> ((conv => whnf); repeat' (refine Z rfl ?_; conv => whnf)))
 refine ⟨fun h3 => ?_, fun h3 => ?_⟩ <;> (try simp only [BL] at h3) <;> ((conv => whnf); repeat' (refine Z rfl ?_; conv => whnf))
 · have hil : i < c.offences.length := by omega
   have hst := rows_step ([matsT c] ++ c.legs.map (legT c) ++ c.distances.map (distT c) ++ c.waves.map waveT) offT hil
   have hx := hg.nums.offences _ (List.getElem_mem hil)
   have f1 := hg.offences _ (List.getElem_mem hil)
   repeat' ((first | (intro hlq; (try simp only [SL] at hlq)) | refine Meets.k (offt_meets _ hx f1) ?_ | refine Ks ?_ | refine Kq ?_ | refine Kt ?_ | ((refine Kh (fun hb => ?_) fun hb => ?_) <;> (try simp only [BL] at hb)) | refine Ka ?_ | refine Kb ?_ | refine Kc (hd := rfl) (e := ?_) | refine Kc (hd := Offence.cells_eq _) (e := ?_) | refine Kd (e := ?_) | refine Kl rfl ?_ | fail) <;> ((conv => whnf); repeat' (refine Z rfl ?_; conv => whnf)))
   refine ⟨by simp, ?_⟩
   ((conv => whnf); repeat' (refine Z rfl ?_; conv => whnf))
   refine ⟨fun h1 h2 => ?_, ?_⟩
   · simp only [maxLen, List.length_map, List.length_append, List.length_take, List.length_cons, List.length_nil] at *
     omega
   ((conv => whnf); repeat' (refine Z rfl ?_; conv => whnf))
   repeat' ((first | (intro hlq; (try simp only [SL] at hlq)) | refine Ks ?_ | refine Kq ?_ | refine Kt ?_ | ((refine Kh (fun hb => ?_) fun hb => ?_) <;> (try simp only [BL] at hb)) | refine Ka ?_ | refine Kb ?_ | refine Kc (hd := rfl) (e := ?_) | refine Kc (hd := Cond.cells_eq _) (e := ?_) | refine Kd (e := ?_) | refine Kl rfl ?_ | fail) <;> ((conv => whnf); repeat' (refine Z rfl ?_; conv => whnf)))
   refine ⟨⟨i + 1, ?_, by omega, by omega⟩⟩
   rw [hst]
   repeat' (first | exact True.intro | exact rfl | refine And.intro ?_ ?_)
 rw [rows_last ([matsT c] ++ c.legs.map (legT c) ++ c.distances.map (distT c) ++ c.waves.map waveT) offT (by omega)]
 refine loop_upd tok {} [] (X := Nat) (fun i => [(9, iB i), (3, .own 3)]) (fun i => [(3, .sl ⟨9, 1, ([matsT c] ++ c.legs.map (legT c) ++ c.distances.map (distT c) ++ c.waves.map waveT ++ c.offences.map offT ++ (c.categories.take i).map catT).map scells, true⟩)]) [10] (fun i => i ≤ c.categories.length) (fun i => c.categories.length - i) 0 ?_
 ((conv => whnf); repeat' (refine Z rfl ?_; conv => whnf))
 refine And.intro ?_ ⟨by omega, fun i hi => ?_⟩
 · repeat' (first | exact True.intro | exact rfl | refine And.intro ?_ ?_ | exact rows_zero _ _ _)
 ((conv => whnf); repeat' (refine Z rfl ?_; conv => whnf))
 repeat' ((first | (intro hlq; (try simp only [SL] at hlq)) | refine Ks ?_ | refine Kq ?_ | refine Kt ?_ | refine Ka ?_ | refine Kb ?_ | refine Kc (hd := rfl) (e := ?_) | refine Kc (hd := Cond.cells_eq _) (e := ?_) | refine Kd (e := ?_) | refine Kl rfl ?_ | fail) <;> ((conv => whnf); repeat' (refine Z rfl ?_; conv => whnf)))
 refine ⟨fun h4 => ?_, fun h4 => ?_⟩ <;> (try simp only [BL] at h4) <;> ((conv => whnf); repeat' (refine Z rfl ?_; conv => whnf))
 · have hil : i < c.categories.length := by omega
   have hst := rows_step ([matsT c] ++ c.legs.map (legT c) ++ c.distances.map (distT c) ++ c.waves.map waveT ++ c.offences.map offT) catT hil
   have hx := ctok hg (List.getElem_mem hil)
   have f1 := hg.categories _ (List.getElem_mem hil)
   have f2 := itoa_le c.categories[i].lo (by omega) (by omega)
   have f3 := itoa_le c.categories[i].hi (by omega) (by omega)
   repeat' ((first | (intro hlq; (try simp only [SL] at hlq)) | refine Ks ?_ | refine Kq ?_ | refine Kt ?_ | ((refine Kh (fun hb => ?_) fun hb => ?_) <;> (try simp only [BL] at hb)) | refine Ka ?_ | refine Kb ?_ | refine Kc (hd := rfl) (e := ?_) | refine Kc (hd := Category.cells_eq _) (e := ?_) | refine Kd (e := ?_) | refine Kl rfl ?_ | fail) <;> ((conv => whnf); repeat' (refine Z rfl ?_; conv => whnf)))
   refine draw_rule tok (cf := {}) (by kernel_rfl) [.p 0, .p 1, .p 2, .p 3, .p 4, .p 5, .p 6, .p 10, .p 11, .s 7 [6,5], .p 8, .p 9, .s 12 [11,10], .p 13, .p 14, .p 15, .s 16 [0,15,14,13,9,8,4,3,2,1], .p 17] (by kernel_rfl) ?_
   ((conv => whnf); repeat' (refine Z rfl ?_; conv => whnf))
   repeat' ((first | (intro hlq; (try simp only [SL] at hlq)) | refine Meets.k (Decimal_meets _ (by omega) (by omega)) ?_ | refine Ks ?_ | refine Kq ?_ | refine Kt ?_ | ((refine Kh (fun hb => ?_) fun hb => ?_) <;> (try simp only [BL] at hb)) | refine Ka ?_ | refine Kb ?_ | refine Kc (hd := rfl) (e := ?_) | refine Kc (hd := Category.cells_eq _) (e := ?_) | refine Kd (e := ?_) | refine Kl rfl ?_ | fail) <;> ((conv => whnf); repeat' (refine Z rfl ?_; conv => whnf)))
   refine ⟨by simp, ?_⟩
   ((conv => whnf); repeat' (refine Z rfl ?_; conv => whnf))
   refine ⟨fun h1 h2 => ?_, ?_⟩
   · simp only [maxLen, List.length_map, List.length_append, List.length_take, List.length_cons, List.length_nil] at *
     omega
   ((conv => whnf); repeat' (refine Z rfl ?_; conv => whnf))
   repeat' ((first | (intro hlq; (try simp only [SL] at hlq)) | refine Ks ?_ | refine Kq ?_ | refine Kt ?_ | ((refine Kh (fun hb => ?_) fun hb => ?_) <;> (try simp only [BL] at hb)) | refine Ka ?_ | refine Kb ?_ | refine Kc (hd := rfl) (e := ?_) | refine Kc (hd := Cond.cells_eq _) (e := ?_) | refine Kd (e := ?_) | refine Kl rfl ?_ | fail) <;> ((conv => whnf); repeat' (refine Z rfl ?_; conv => whnf)))
   refine ⟨⟨i + 1, ?_, by omega, by omega⟩⟩
   rw [hst]
   repeat' (first | exact True.intro | exact rfl | refine And.intro ?_ ?_)
 rw [rows_last ([matsT c] ++ c.legs.map (legT c) ++ c.distances.map (distT c) ++ c.waves.map waveT ++ c.offences.map offT) catT (by omega)]
 refine loop_upd tok {} [] (X := Nat) (fun i => [(11, iB i), (3, .own 3)]) (fun i => [(3, .sl ⟨9, 1, ([matsT c] ++ c.legs.map (legT c) ++ c.distances.map (distT c) ++ c.waves.map waveT ++ c.offences.map offT ++ c.categories.map catT ++ (c.prizes.take i).map (prizeT c)).map scells, true⟩)]) [] (fun i => i ≤ c.prizes.length) (fun i => c.prizes.length - i) 0 ?_
 ((conv => whnf); repeat' (refine Z rfl ?_; conv => whnf))
 refine And.intro ?_ ⟨by omega, fun i hi => ?_⟩
 · repeat' (first | exact True.intro | exact rfl | refine And.intro ?_ ?_ | exact rows_zero _ _ _)
 ((conv => whnf); repeat' (refine Z rfl ?_; conv => whnf))
 repeat' ((first | (intro hlq; (try simp only [SL] at hlq)) | refine Ks ?_ | refine Kq ?_ | refine Kt ?_ | refine Ka ?_ | refine Kb ?_ | refine Kc (hd := rfl) (e := ?_) | refine Kc (hd := Cond.cells_eq _) (e := ?_) | refine Kd (e := ?_) | refine Kl rfl ?_ | fail) <;> ((conv => whnf); repeat' (refine Z rfl ?_; conv => whnf)))
 refine ⟨fun h5 => ?_, fun h5 => ?_⟩ <;> (try simp only [BL] at h5) <;> ((conv => whnf); repeat' (refine Z rfl ?_; conv => whnf))
 · have hil : i < c.prizes.length := by omega
   have hst := rows_step ([matsT c] ++ c.legs.map (legT c) ++ c.distances.map (distT c) ++ c.waves.map waveT ++ c.offences.map offT ++ c.categories.map catT) (prizeT c) hil
   have hx := pzok hg (List.getElem_mem hil)
   repeat' ((first | (intro hlq; (try simp only [SL] at hlq)) | refine Ks ?_ | refine Kq ?_ | refine Kt ?_ | ((refine Kh (fun hb => ?_) fun hb => ?_) <;> (try simp only [BL] at hb)) | refine Ka ?_ | refine Kb ?_ | refine Kc (hd := rfl) (e := ?_) | refine Kc (hd := Prize.cells_eq _) (e := ?_) | refine Kd (e := ?_) | refine Kl rfl ?_ | fail) <;> ((conv => whnf); repeat' (refine Z rfl ?_; conv => whnf)))
   refine draw_rule tok (cf := {}) (by kernel_rfl) [.p 0, .p 1, .p 2, .p 3, .p 4, .p 5, .p 6, .s 7 [1,6,5,3,4,2], .p 8, .s 9 [0,8], .p 10] (by kernel_rfl) ?_
   ((conv => whnf); repeat' (refine Z rfl ?_; conv => whnf))
   repeat' ((first | (intro hlq; (try simp only [SL] at hlq)) | refine Meets.k (prizet_meets c hg _ hx) ?_ | refine Ks ?_ | refine Kq ?_ | refine Kt ?_ | ((refine Kh (fun hb => ?_) fun hb => ?_) <;> (try simp only [BL] at hb)) | refine Ka ?_ | refine Kb ?_ | refine Kc (hd := rfl) (e := ?_) | refine Kc (hd := Prize.cells_eq _) (e := ?_) | refine Kd (e := ?_) | refine Kl rfl ?_ | fail) <;> ((conv => whnf); repeat' (refine Z rfl ?_; conv => whnf)))
   refine ⟨by simp, ?_⟩
   ((conv => whnf); repeat' (refine Z rfl ?_; conv => whnf))
   refine ⟨fun h1 h2 => ?_, ?_⟩
   · simp only [maxLen, List.length_map, List.length_append, List.length_take, List.length_cons, List.length_nil] at *
     omega
   ((conv => whnf); repeat' (refine Z rfl ?_; conv => whnf))
   repeat' ((first | (intro hlq; (try simp only [SL] at hlq)) | refine Ks ?_ | refine Kq ?_ | refine Kt ?_ | ((refine Kh (fun hb => ?_) fun hb => ?_) <;> (try simp only [BL] at hb)) | refine Ka ?_ | refine Kb ?_ | refine Kc (hd := rfl) (e := ?_) | refine Kc (hd := Cond.cells_eq _) (e := ?_) | refine Kd (e := ?_) | refine Kl rfl ?_ | fail) <;> ((conv => whnf); repeat' (refine Z rfl ?_; conv => whnf)))
   refine ⟨⟨i + 1, ?_, by omega, by omega⟩⟩
   rw [hst]
   repeat' (first | exact True.intro | exact rfl | refine And.intro ?_ ?_)
 rw [rows_last ([matsT c] ++ c.legs.map (legT c) ++ c.distances.map (distT c) ++ c.waves.map waveT ++ c.offences.map offT ++ c.categories.map catT) (prizeT c) (by omega)]
 have hT := stepsT_le hg.steps
 have hnst := hg.nst
 have hncd := hg.ncd
 repeat' ((first | (intro hlq; (try simp only [SL] at hlq)) | refine Meets.k (tsteps_meets c.ties hg.steps (by omega)) ?_ | refine Ks ?_ | refine Kq ?_ | refine Kt ?_ | ((refine Kh (fun hb => ?_) fun hb => ?_) <;> (try simp only [BL] at hb)) | refine Ka ?_ | refine Kb ?_ | refine Kc (hd := rfl) (e := ?_) | refine Kc (hd := Cond.cells_eq _) (e := ?_) | refine Kd (e := ?_) | refine Kl rfl ?_ | fail) <;> ((conv => whnf); repeat' (refine Z rfl ?_; conv => whnf)))
 refine ⟨by simp, ?_⟩
 ((conv => whnf); repeat' (refine Z rfl ?_; conv => whnf))
 refine ⟨fun h1 h2 => ?_, ?_⟩
 · simp only [maxLen, List.length_map, List.length_append, List.length_cons, List.length_nil] at *
   omega
 ((conv => whnf); repeat' (refine Z rfl ?_; conv => whnf))
 repeat' ((first | (intro hlq; (try simp only [SL] at hlq)) | refine Ks ?_ | refine Kq ?_ | refine Kt ?_ | ((refine Kh (fun hb => ?_) fun hb => ?_) <;> (try simp only [BL] at hb)) | refine Ka ?_ | refine Kb ?_ | refine Kc (hd := rfl) (e := ?_) | refine Kc (hd := Cond.cells_eq _) (e := ?_) | refine Kd (e := ?_) | refine Kl rfl ?_ | fail) <;> ((conv => whnf); repeat' (refine Z rfl ?_; conv => whnf)))
 have g1 := hF.misses
 have g2 := hF.strays
 have g3 := hF.drift
 have g4 := hF.fee
 have f1 := itoa_le c.faults.misses (by omega) (by omega)
 have f2 := itoa_le c.faults.strays (by omega) (by omega)
 have f3 := itoa_le c.faults.drift (by omega) (by omega)
 have f4 := itoa_le c.fee (by omega) (by omega)
 have f5 := timeS_le c.faults.window
 have f6 := timeS_le c.faults.residual
 have f7 := timeS_le c.deadline
 refine draw_rule tok (cf := {}) (by kernel_rfl) [.p 0, .p 1, .p 2, .p 6, .p 7, .p 11, .p 12, .p 16, .p 17, .p 21, .p 22, .s 3 [2,1], .p 4, .p 5, .s 8 [7,6], .p 9, .p 10, .s 13 [12,11], .p 14, .p 15, .s 18 [17,16], .p 19, .p 20, .s 23 [22,21], .p 24, .p 25, .p 26, .s 27 [0,26,25,24,20,19,15,14,10,9,5,4], .p 28] (by kernel_rfl) ?_
 ((conv => whnf); repeat' (refine Z rfl ?_; conv => whnf))
 repeat' ((first | (intro hlq; (try simp only [SL] at hlq)) | refine Meets.k (Decimal_meets _ (by omega) (by omega)) ?_ | refine Meets.k (rmoment_meets _) ?_ | refine Ks ?_ | refine Kq ?_ | refine Kt ?_ | ((refine Kh (fun hb => ?_) fun hb => ?_) <;> (try simp only [BL] at hb)) | refine Ka ?_ | refine Kb ?_ | refine Kc (hd := rfl) (e := ?_) | refine Kc (hd := Cond.cells_eq _) (e := ?_) | refine Kd (e := ?_) | refine Kl rfl ?_ | fail) <;> ((conv => whnf); repeat' (refine Z rfl ?_; conv => whnf)))
 refine ⟨by simp, ?_⟩
 ((conv => whnf); repeat' (refine Z rfl ?_; conv => whnf))
 refine ⟨fun h1 h2 => ?_, ?_⟩
 · simp only [maxLen, List.length_map, List.length_append, List.length_cons, List.length_nil] at *
   omega
 ((conv => whnf); repeat' (refine Z rfl ?_; conv => whnf))
 repeat' ((first | (intro hlq; (try simp only [SL] at hlq)) | refine Ks ?_ | refine Kq ?_ | refine Kt ?_ | ((refine Kh (fun hb => ?_) fun hb => ?_) <;> (try simp only [BL] at hb)) | refine Ka ?_ | refine Kb ?_ | refine Kc (hd := rfl) (e := ?_) | refine Kc (hd := Cond.cells_eq _) (e := ?_) | refine Kd (e := ?_) | refine Kl rfl ?_ | fail) <;> ((conv => whnf); repeat' (refine Z rfl ?_; conv => whnf)))
 refine draw_rule tok (cf := {}) (by kernel_rfl) [.p 0, .p 1, .p 2, .p 6, .p 7, .s 3 [2,1], .p 4, .p 5, .s 8 [7,6], .p 9, .p 10, .p 11, .s 12 [0,11,10,9,5,4], .p 13] (by kernel_rfl) ?_
 ((conv => whnf); repeat' (refine Z rfl ?_; conv => whnf))
 repeat' ((first | (intro hlq; (try simp only [SL] at hlq)) | refine Meets.k (Decimal_meets _ (by omega) (by omega)) ?_ | refine Meets.k (rmoment_meets _) ?_ | refine Ks ?_ | refine Kq ?_ | refine Kt ?_ | ((refine Kh (fun hb => ?_) fun hb => ?_) <;> (try simp only [BL] at hb)) | refine Ka ?_ | refine Kb ?_ | refine Kc (hd := rfl) (e := ?_) | refine Kc (hd := Cond.cells_eq _) (e := ?_) | refine Kd (e := ?_) | refine Kl rfl ?_ | fail) <;> ((conv => whnf); repeat' (refine Z rfl ?_; conv => whnf)))
 refine ⟨by simp, ?_⟩
 ((conv => whnf); repeat' (refine Z rfl ?_; conv => whnf))
 refine ⟨fun h1 h2 => ?_, ?_⟩
 · simp only [maxLen, List.length_map, List.length_append, List.length_cons, List.length_nil] at *
   omega
 ((conv => whnf); repeat' (refine Z rfl ?_; conv => whnf))
 repeat' ((first | (intro hlq; (try simp only [SL] at hlq)) | refine Ks ?_ | refine Kq ?_ | refine Kt ?_ | ((refine Kh (fun hb => ?_) fun hb => ?_) <;> (try simp only [BL] at hb)) | refine Ka ?_ | refine Kb ?_ | refine Kc (hd := rfl) (e := ?_) | refine Kc (hd := Cond.cells_eq _) (e := ?_) | refine Kd (e := ?_) | refine Kl rfl ?_ | fail) <;> ((conv => whnf); repeat' (refine Z rfl ?_; conv => whnf)))
 refine ⟨congrArg D.sl ?_⟩
 simp [linesT, tiesT, faultsT, feeT, scells]
end Go.Proofs.YteckbkljaneppaaGreatDoor.Dx
/- The text of a course, in the reference. -/
namespace Go.Proofs.YteckbkljaneppaaGreatDoor.Dx
open Go Go.RowKit Go.Proofs
set_option maxRecDepth 100000
set_option maxHeartbeats 16000000
theorem cutT_le {c : Course} (hg : Good c) {d : Distance} (hd : DOk c d) : ∀ x ∈ d.cutoffs, (cutT c x).length ≤ 300 := fun x hx => by
 have h := hd.cutoffs x hx
 have f1 := matN_le hg.mats x.mat
 have f2 := itoa_le x.lap (by omega) (by omega)
 have f3 := timeS_le x.limit
 simp only [cutT, List.length_append, List.length_cons, List.length_nil]; omega
theorem line_le {c : Course} (hg : Good c) : ∀ s ∈ linesT c, s.length ≤ 40000 := by
 intro s hs
 have hl := lens hg.fits
 simp only [linesT, List.mem_append, List.mem_cons, List.mem_map, List.not_mem_nil, or_false] at hs
 rcases hs with ((((((rfl | ⟨x, hx, rfl⟩) | ⟨x, hx, rfl⟩) | ⟨x, hx, rfl⟩) | ⟨x, hx, rfl⟩) | ⟨x, hx, rfl⟩) | ⟨x, hx, rfl⟩) | rfl | rfl | rfl
 · have := flat_le matT 40 c.mats fun m hm => matT_le (hg.mats m hm)
   simp only [matsT, List.length_append, List.length_cons, List.length_nil]; omega
 · have f1 := matN_le hg.mats x.src
   have f2 := matN_le hg.mats x.dst
   have f3 := timeS_le x.lo
   have f4 := timeS_le x.hi
   simp only [legT, List.length_append, List.length_cons, List.length_nil]; omega
 · have hd := dok hg hx
   have hT := flat_le (cutT c) 300 x.cutoffs (cutT_le hg hd)
   have hP := partsT_le hg.mats hd.route
   have h1 := hd.name
   have h2 := hd.ncut
   have h3 := hd.cnt
   have h4 := timingT_le x.timing
   have h5 := matN_le hg.mats x.extra
   have h6 : (extraT c x.extra).length ≤ 40 := by unfold extraT; split <;> simp only [List.length_append, List.length_cons, List.length_nil] <;> omega
   simp only [distT, List.length_append, List.length_cons, List.length_nil]; omega
 · have f1 := hg.waves _ hx
   have f2 := timeS_le x.gun
   simp only [waveT, List.length_append, List.length_cons, List.length_nil]; omega
 · have f1 := hg.offences _ hx
   have f2 := timeS_le x.time
   have h := (off_iff x).1 (hg.nums.offences _ hx)
   have hl : 0 ≤ x.laps ∧ x.laps ≤ 64 := by
    rcases h with ⟨_, h, _⟩ | ⟨_, h, _⟩ | ⟨_, h, _⟩
    · omega
    · simp only [inR, Bool.and_eq_true, decide_eq_true_eq] at h; omega
    · omega
   have f3 := itoa_le x.laps (by omega) (by omega)
   have h6 : (penT x).length ≤ 100 := by unfold penT; (repeat' split) <;> (try simp only [List.length_append, List.length_cons, List.length_nil]) <;> omega
   simp only [offT, List.length_append, List.length_cons, List.length_nil]; omega
 · have hc := ctok hg hx
   have f1 := hg.categories _ hx
   have f2 := itoa_le x.lo (by omega) (by omega)
   have f3 := itoa_le x.hi (by omega) (by omega)
   simp only [catT, List.length_append, List.length_cons, List.length_nil]; omega
 · have hp := pzok hg hx
   have h1 := hp.rank
   have h2 := hp.amount
   have f1 := itoa_le x.rank (by omega) (by omega)
   have f2 := itoa_le x.amount (by omega) (by omega)
   have f3 := distN_le hg x.distance
   have f4 := whoT_le hg x.category
   simp only [prizeT, List.length_append, List.length_cons, List.length_nil]; omega
 · have hT := stepsT_le hg.steps
   have hnst := hg.nst
   have hncd := hg.ncd
   simp only [tiesT, List.length_append, List.length_cons, List.length_nil]; omega
 · have hF := fok hg
   have g1 := hF.misses
   have g2 := hF.strays
   have g3 := hF.drift
   have f1 := itoa_le c.faults.misses (by omega) (by omega)
   have f2 := itoa_le c.faults.strays (by omega) (by omega)
   have f3 := itoa_le c.faults.drift (by omega) (by omega)
   have f5 := timeS_le c.faults.window
   have f6 := timeS_le c.faults.residual
   simp only [faultsT, List.length_append, List.length_cons, List.length_nil]; omega
 · have hF := fok hg
   have g4 := hF.fee
   have f4 := itoa_le c.fee (by omega) (by omega)
   have f7 := timeS_le c.deadline
   simp only [feeT, List.length_append, List.length_cons, List.length_nil]; omega
theorem lines_le {c : Course} (hg : Good c) : (linesT c).length ≤ 700 := by
 have hl := lens hg.fits
 simp only [linesT, List.length_append, List.length_map, List.length_cons, List.length_nil]
 omega
theorem courseT_le {c : Course} (hg : Good c) : ((linesT c).flatMap lineT).length ≤ 40003 * 700 ∧ (courseT c).length ≤ 40003 * 700 + 100 := by
 have h := flat_le lineT 40003 (linesT c) fun s hs => by
  have := line_le hg s hs
  simp only [lineT, List.length_append, List.length_cons, List.length_nil]; omega
 have h2 := lines_le hg
 have h3 := hg.name
 have h1 : ((linesT c).flatMap lineT).length ≤ 40003 * 700 := by omega
 refine ⟨h1, ?_⟩
 simp only [courseT, List.length_append, List.length_cons, List.length_nil]; omega
def courseS (c : Course) : List UInt8 := if courseE c = 0 ∧ (courseT c).length ≤ 65536 then courseT c else []
def courseX (c : Course) : Int := if courseE c = 0 then (if (courseT c).length ≤ 65536 then 0 else 2) else courseE c
theorem courset_meets (c : Course) (hs : c.small) : Meets Tryz.prog 11 [c.d] fun d => d = .tup [.sl (byteCells (courseS c)), iD (courseX c)] := by
 refine enter tok {} Tryz.func11 rfl (by kernel_rfl) Tryz.ntmps11 (by simp) fun B0 W0 V0 lent g0 => ?_
 ((conv => whnf); repeat' (refine Z rfl ?_; conv => whnf))
 refine Meets.k (rCourse_meets c hs) ?_
 ((conv => whnf); repeat' (refine Z rfl ?_; conv => whnf))
 refine ⟨fun h1 => ?_, fun h1 => ?_⟩ <;> (try simp only [BL] at h1) <;> ((conv => whnf); repeat' (refine Z rfl ?_; conv => whnf))
 · refine ⟨?_⟩
   rw [courseS, courseX, if_neg (fun e => h1 e.1), if_neg h1]
   rfl
 have he : courseE c = 0 := by omega
 have hg := good_of hs he
 have hn := hg.name
 have hT := courseT_le hg
 have hle := lines_le hg
 repeat' ((first | (intro hlq; (try simp only [SL] at hlq)) | refine Meets.k (lines_meets c hg) ?_ | refine Ks ?_ | refine Kq ?_ | refine Kt ?_ | ((refine Kh (fun hb => ?_) fun hb => ?_) <;> (try simp only [BL] at hb)) | refine Ka ?_ | refine Kb ?_ | refine Kc (hd := rfl) (e := ?_) | refine Kc (hd := Cond.cells_eq _) (e := ?_) | refine Kd (e := ?_) | refine Kl rfl ?_ | fail) <;> ((conv => whnf); repeat' (refine Z rfl ?_; conv => whnf)))
 refine loop_upd tok {} [] (X := Nat) (fun i => [(7, iB i), (5, .d (.str ([99, 111, 117, 114, 115, 101, 32] ++ c.name ++ [32, 123, 10] ++ ((linesT c).take i).flatMap lineT)))]) (fun _ => []) [] (fun i => i ≤ (linesT c).length) (fun i => (linesT c).length - i) 0 ?_
 ((conv => whnf); repeat' (refine Z rfl ?_; conv => whnf))
 refine And.intro ?_ ⟨by omega, fun i hi => ?_⟩
 · repeat' (first | exact True.intro | exact rfl | refine And.intro ?_ ?_ | (refine congrArg D.str ?_; simp [List.append_assoc]; done))
 ((conv => whnf); repeat' (refine Z rfl ?_; conv => whnf))
 repeat' ((first | (intro hlq; (try simp only [SL] at hlq)) | refine Ks ?_ | refine Kq ?_ | refine Kt ?_ | refine Ka ?_ | refine Kb ?_ | refine Kc (hd := rfl) (e := ?_) | refine Kc (hd := Cond.cells_eq _) (e := ?_) | refine Kd (e := ?_) | refine Kl rfl ?_ | fail) <;> ((conv => whnf); repeat' (refine Z rfl ?_; conv => whnf)))
 refine ⟨fun h2 => ?_, fun h2 => ?_⟩ <;> (try simp only [BL] at h2) <;> ((conv => whnf); repeat' (refine Z rfl ?_; conv => whnf))
 · have hil : i < (linesT c).length := by omega
   have hj := flat_take_le lineT (linesT c) i
   have hst := flat_step lineT hil
   have hx := line_le hg _ (List.getElem_mem hil)
   repeat' ((first | (intro hlq; (try simp only [SL] at hlq)) | refine Ks ?_ | refine Kq ?_ | refine Kt ?_ | ((refine Kh (fun hb => ?_) fun hb => ?_) <;> (try simp only [BL] at hb)) | refine Ka ?_ | refine Kb ?_ | refine Kc (hd := rfl) (e := ?_) | refine Kc (hd := scells_eq _) (e := ?_) | refine Kd (e := ?_) | refine Kl rfl ?_ | fail) <;> ((conv => whnf); repeat' (refine Z rfl ?_; conv => whnf)))
   refine ⟨⟨i + 1, ?_, by omega, by omega⟩⟩
   rw [hst]
   repeat' (first | exact True.intro | exact rfl | refine And.intro ?_ ?_ | (refine congrArg D.str ?_; simp [lineT, List.append_assoc]; done))
 · have e : (linesT c).take i = linesT c := List.take_of_length_le (by omega)
   rw [e]
   have hc : [99, 111, 117, 114, 115, 101, 32] ++ c.name ++ [32, 123, 10] ++ (linesT c).flatMap lineT ++ [125, 10] = courseT c := rfl
   repeat' ((first | (intro hlq; (try simp only [SL] at hlq)) | refine Ks ?_ | refine Kq ?_ | refine Kt ?_ | ((refine Kh (fun hb => ?_) fun hb => ?_) <;> (try simp only [BL] at hb)) | refine Ka ?_ | refine Kb ?_ | refine Kc (hd := rfl) (e := ?_) | refine Kc (hd := Cond.cells_eq _) (e := ?_) | refine Kd (e := ?_) | refine Kl rfl ?_ | fail) <;> ((conv => whnf); repeat' (refine Z rfl ?_; conv => whnf)))
   · rw [hc] at hb
     refine ⟨?_⟩
     rw [courseS, courseX, if_neg (fun e => by omega), if_pos he, if_neg (by omega)]
     rfl
   · rw [hc] at hb
     refine ⟨?_⟩
     rw [courseS, courseX, if_pos ⟨he, by omega⟩, if_pos he, if_pos (by omega)]
     rfl
end Go.Proofs.YteckbkljaneppaaGreatDoor.Dx
