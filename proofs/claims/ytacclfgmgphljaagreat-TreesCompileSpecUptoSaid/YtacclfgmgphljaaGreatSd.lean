/- The code of chapter 10: the numbers with which steps compare. -/
import Derived.Test.YtacclfgmgphljaaGreatSc
set_option linter.all false
namespace Go.Proofs.YtacclfgmgphljaaGreat.Dx
open Go Go.RowKit
set_option maxRecDepth 100000
set_option maxHeartbeats 16000000
/-- the number with which a condition itself compares a variable -/
def own1 (v k w n : Int) : List Int := if k = 1 ∧ w = v ∧ 0 < n ∧ n ≤ Tr.most w then [n] else []
mutual
def Cond.nums (v : Int) : Cond → List Int
 | ⟨k, w, n, ps⟩ => own1 v k w n ++ Cond.numsL v ps
def Cond.numsL (v : Int) : List Cond → List Int
 | [] => []
 | c :: cs => c.nums v ++ Cond.numsL v cs
end
theorem numsL_eq (v : Int) : ∀ l : List Cond, Cond.numsL v l = l.flatMap (Cond.nums v)
 | [] => rfl
 | c :: cs => by rw [Cond.numsL, numsL_eq v cs]; rfl
theorem nums_eq (v : Int) (c : Cond) : c.nums v = own1 v c.kind c.var c.n ++ c.parts.flatMap (Cond.nums v) := by
 obtain ⟨k, w, n, ps⟩ := c; rw [Cond.nums, numsL_eq]
mutual
def Step.nums (v : Int) : Step → List Int
 | ⟨_, _, c, t, e⟩ => c.nums v ++ (Step.numsL v t ++ Step.numsL v e)
def Step.numsL (v : Int) : List Step → List Int
 | [] => []
 | s :: ss => s.nums v ++ Step.numsL v ss
end
theorem snumsL_eq (v : Int) : ∀ l : List Step, Step.numsL v l = l.flatMap (Step.nums v)
 | [] => rfl
 | c :: cs => by rw [Step.numsL, snumsL_eq v cs]; rfl
theorem snums_eq (v : Int) (s : Step) : s.nums v = s.cond.nums v ++ (s.th.flatMap (Step.nums v) ++ s.el.flatMap (Step.nums v)) := by
 obtain ⟨k, b, c, t, e⟩ := s; rw [Step.nums, snumsL_eq, snumsL_eq]
theorem own1_len (v k w n : Int) : (own1 v k w n).length ≤ 1 := by unfold own1; split <;> simp
mutual
theorem nums_len (v : Int) : ∀ c : Cond, (c.nums v).length ≤ c.total
 | ⟨k, w, n, ps⟩ => by
   have h1 := own1_len v k w n
   have h2 := numsL_len v ps
   rw [Cond.nums, Cond.total_eq, List.length_append]
   simp only; omega
theorem numsL_len (v : Int) : ∀ l : List Cond, (Cond.numsL v l).length ≤ Cond.totalL l
 | [] => by simp [Cond.numsL, Cond.totalL]
 | c :: cs => by
   have h1 := nums_len v c
   have h2 := numsL_len v cs
   rw [Cond.numsL, Cond.totalL, List.length_append]; omega
end
theorem totalL_take (l : List Cond) (i : Nat) : Cond.totalL l = Cond.totalL (l.take i) + Cond.totalL (l.drop i) := by
 induction l generalizing i with
 | nil => simp [Cond.totalL]
 | cons a l ih =>
   cases i with
   | zero => simp [Cond.totalL]
   | succ i => simp only [List.take_succ_cons, List.drop_succ_cons, Cond.totalL]; have := ih i; omega
abbrev testO (F : Int → List Int) : List (Nat × Blk) :=
 [(3000, .box [.full [], .own 3001, .own 3002, .own 3003] 50), (3010, .box [.loc 3000 0] 52), (3011, .box [.fn 48 [] [.loc 3010 0, .loc 3011 0]] 97),
   (3001, .sl ⟨3, 1, (F 1).map icells, false⟩), (3002, .sl ⟨3, 1, (F 2).map icells, false⟩), (3003, .sl ⟨3, 1, (F 3).map icells, false⟩)]
theorem cond_eta (c : Cond) : (⟨c.kind, c.var, c.n, c.parts⟩ : Cond) = c := by cases c; rfl
theorem csz_mem {c : Cond} : ∀ {l : List Cond}, c ∈ l → c.sz < Cond.szL l
 | [], h => by cases h
 | a :: l, h => by
   rw [Cond.szL]
   rcases List.mem_cons.1 h with rfl | h
   · omega
   · have := csz_mem h; omega
theorem valid_tc {c : Cond} (hv : c.valid = true) : (c.kind = 1 → 1 ≤ c.var ∧ c.var ≤ 3) ∧ ∀ p ∈ c.parts, p.valid = true := by
 refine ⟨fun hk => ?_, ?_⟩
 · rw [Cond.valid_eq, if_pos hk] at hv
   simp only [inR, Bool.and_eq_true, decide_eq_true_eq] at hv
   exact hv.1
 · rcases valid_cases hv with h | ⟨_, p, h, hp⟩ | ⟨_, h⟩
   · intro p hp
     rw [Cond.valid_eq, if_pos h] at hv
     simp only [Bool.and_eq_true, decide_eq_true_eq] at hv
     have h0 : c.parts.length = 0 := by omega
     rw [List.eq_nil_of_length_eq_zero h0] at hp; cases hp
   · intro q hq; rw [h, List.mem_singleton] at hq; rw [hq]; exact hp
   · exact h
theorem tcond_meets (k w n : Int) (ps : List Cond) (F : Int → List Int) (hvc : k = 1 → 1 ≤ w ∧ w ≤ 3) (hvp : ∀ p ∈ ps, p.valid = true) (hbd : ∀ v, (F v).length + (⟨k, w, n, ps⟩ : Cond).total ≤ 1000000) :
 MeetsR Tryz.prog 48 [.d (⟨k, w, n, ps⟩ : Cond).d, .loc 3010 0, .loc 3011 0] (testO F) fun o O' => o = .ret (.d (.tup [])) ∧ O' = testO fun v => F v ++ (⟨k, w, n, ps⟩ : Cond).nums v := by
 have hsz : ∀ p ∈ ps, Cond.szL p.parts < Cond.szL ps := by
  intro p hp
  have h1 := csz_mem hp
  have h2 := p.sz_eq
  omega
 have htot : (⟨k, w, n, ps⟩ : Cond).total = 1 + Cond.totalL ps := Cond.total_eq _
 rw [htot] at hbd
 have hlen : ∀ v i (h : i < ps.length), (F v ++ (own1 v k w n ++ (ps.take i).flatMap (Cond.nums v))).length + ps[i].total ≤ 1000000 := by
  intro v i h
  have h1 := hbd v
  have h2 := own1_len v k w n
  have h3 := numsL_len v (ps.take i)
  rw [numsL_eq] at h3
  have h4 := totalL_take ps i
  rw [List.drop_eq_getElem_cons h, Cond.totalL] at h4
  simp only [List.length_append]; omega
 have hstep : ∀ v i (h : i < ps.length), (F v ++ (own1 v k w n ++ (ps.take i).flatMap (Cond.nums v))) ++ (⟨ps[i].kind, ps[i].var, ps[i].n, ps[i].parts⟩ : Cond).nums v = F v ++ (own1 v k w n ++ (ps.take (i + 1)).flatMap (Cond.nums v)) := by
  intro v i h
  rw [List.take_succ_eq_append_getElem h, List.flatMap_append, cond_eta]; simp
 refine enterR tok {rs := [51]} Tryz.func48 rfl (by kernel_rfl) Tryz.ntmps48 (by simp) fun B0 W0 V0 lent g0 => ?_
 ((conv => whnf); repeat' (refine vcC_go tok {rs := [51]} rfl ?_; conv => whnf))
 refine ⟨fun h0 => ?_, fun h0 => ?_⟩ <;> (try simp only [BL] at h0) <;> ((conv => whnf); repeat' (refine vcC_go tok {rs := [51]} rfl ?_; conv => whnf))
 · obtain ⟨hv1, hv2⟩ := hvc h0
   repeat' ((first | (intro hlq; (try simp only [SL] at hlq)) | refine Meets.k (bounds_meets w) ?_ | refine Ks ?_ | refine Kq ?_ | refine Kt ?_ | ((refine Kh (fun hb => ?_) fun hb => ?_) <;> (try simp only [BL] at hb)) | refine Ka ?_ | refine Kb ?_ | refine Kc (hd := rfl) (e := ?_) | refine Kc (hd := icells_eq _) (e := ?_) | refine Kd (e := ?_) | refine Kl rfl ?_ | fail) <;> ((conv => whnf); repeat' (refine vcC_go tok {rs := [51]} rfl ?_; conv => whnf)))
   · have hin : 0 < n ∧ n ≤ Tr.most w := by omega
     have hlv : (F w).length ≤ 1000000 := by have := hbd w; omega
     have hv3 : w = 1 ∨ w = 2 ∨ w = 3 := by omega
     rcases hv3 with rfl | rfl | rfl
     · have hown : ∀ v, own1 v k 1 n = if 1 = v then [n] else [] := fun v => by simp only [own1, h0, hin, true_and, and_true]
       refine draw_rule tok (cf := {rs := [51]}) (by kernel_rfl) [.p 0, .p 1, .p 2, .p 3, .p 4, .p 5, .p 6, .p 7, .p 8, .p 9, .p 10, .p 11, .p 13, .s 12 [8,11,7,10,6,5,9,3,4], .p 14, .s 15 [14,0,1,2,13]] (by kernel_rfl) ?_
       ((conv => whnf); repeat' (refine vcC_go tok {rs := [51]} rfl ?_; conv => whnf))
       repeat' (first | (refine Kl rfl ?_; ((conv => whnf); repeat' (refine vcC_go tok {rs := [51]} rfl ?_; conv => whnf))) | fail)
       repeat' ((first | (intro hlq; (try simp only [SL] at hlq)) | refine Ks ?_ | refine Kq ?_ | refine Kt ?_ | refine Ka ?_ | refine Kb ?_ | refine Kc (hd := rfl) (e := ?_) | refine Kc (hd := icells_eq _) (e := ?_) | refine Kd (e := ?_) | refine Kl rfl ?_ | fail) <;> ((conv => whnf); repeat' (refine vcC_go tok {rs := [51]} rfl ?_; conv => whnf)))
       refine ⟨by simp, ?_⟩
       ((conv => whnf); repeat' (refine vcC_go tok {rs := [51]} rfl ?_; conv => whnf))
       refine Kap ?_ ?_ ?_
       rotate_left 1
       · simp; omega
       · decide
       ((conv => whnf); repeat' (refine vcC_go tok {rs := [51]} rfl ?_; conv => whnf))
       repeat' (first | (refine Kl rfl ?_; ((conv => whnf); repeat' (refine vcC_go tok {rs := [51]} rfl ?_; conv => whnf))) | fail)
       repeat' ((first | (intro hlq; (try simp only [SL] at hlq)) | refine Ks ?_ | refine Kq ?_ | refine Kt ?_ | refine Ka ?_ | refine Kb ?_ | refine Kc (hd := rfl) (e := ?_) | refine Kc (hd := icells_eq _) (e := ?_) | refine Kd (e := ?_) | refine Kl rfl ?_ | fail) <;> ((conv => whnf); repeat' (refine vcC_go tok {rs := [51]} rfl ?_; conv => whnf)))
       repeat' ((first | (intro hlq; (try simp only [SL] at hlq)) | refine Ks ?_ | refine Kq ?_ | refine Kt ?_ | refine Ka ?_ | refine Kb ?_ | refine Kc (hd := rfl) (e := ?_) | refine Kc (hd := icells_eq _) (e := ?_) | refine Kd (e := ?_) | refine Kl rfl ?_ | fail) <;> ((conv => whnf); repeat' (refine vcC_go tok {rs := [51]} rfl ?_; conv => whnf)))
       refine loop_upd tok {rs := [51]} [] (X := Nat) (fun i => [(45, iB i), (39, .junk)]) (fun i => testO fun v => F v ++ (own1 v k 1 n ++ (ps.take i).flatMap (Cond.nums v))) [7] (fun i => i ≤ ps.length) (fun i => ps.length - i) 0 ?_
       ((conv => whnf); repeat' (refine vcC_go tok {rs := [51]} rfl ?_; conv => whnf))
       refine And.intro ?_ ⟨by omega, fun i hi => ?_⟩
       · repeat' (first | exact True.intro | exact rfl | refine And.intro ?_ ?_ | ((simp [hown]; done)))
       ((conv => whnf); repeat' (refine vcC_go tok {rs := [51]} rfl ?_; conv => whnf))
       refine ⟨fun h1 => ?_, fun h1 => ?_⟩ <;> (try simp only [BL] at h1) <;> ((conv => whnf); repeat' (refine vcC_go tok {rs := [51]} rfl ?_; conv => whnf))
       · have h1' : i < ps.length := by omega
         have hmem := List.getElem_mem h1'
         have hszi := hsz _ hmem
         have hrec := tcond_meets ps[i].kind ps[i].var ps[i].n ps[i].parts (fun v => F v ++ (own1 v k 1 n ++ (ps.take i).flatMap (Cond.nums v))) (valid_tc (hvp _ hmem)).1 (valid_tc (hvp _ hmem)).2 (fun v => by rw [cond_eta]; exact hlen v i h1')
         repeat' ((first | (intro hlq; (try simp only [SL] at hlq)) | refine Ks ?_ | refine Kq ?_ | refine Kt ?_ | refine Ka ?_ | refine Kb ?_ | refine Kc (hd := rfl) (e := ?_) | refine Kc (hd := Cond.cells_eq _) (e := ?_) | refine Kd (e := ?_) | refine Kl rfl ?_ | fail) <;> ((conv => whnf); repeat' (refine vcC_go tok {rs := [51]} rfl ?_; conv => whnf)))
         refine ⟨testO fun v => F v ++ (own1 v k 1 n ++ (ps.take i).flatMap (Cond.nums v)), _, ⟨?_, ?_⟩, hrec.mono ?_⟩
         · exact Kr
         · exact Kr
         rintro o O' ⟨rfl, rfl⟩
         ((conv => whnf); repeat' (refine vcC_go tok {rs := [51]} rfl ?_; conv => whnf))
         repeat' ((first | (intro hlq; (try simp only [SL] at hlq)) | refine Ks ?_ | refine Kq ?_ | refine Kt ?_ | refine Ka ?_ | refine Kb ?_ | refine Kc (hd := rfl) (e := ?_) | refine Kc (hd := icells_eq _) (e := ?_) | refine Kd (e := ?_) | refine Kl rfl ?_ | fail) <;> ((conv => whnf); repeat' (refine vcC_go tok {rs := [51]} rfl ?_; conv => whnf)))
         refine ⟨⟨i + 1, ?_, by omega, by omega⟩⟩
         repeat' (first | exact True.intro | exact rfl | refine And.intro ?_ ?_ | (exact congrArg (List.map icells) (hstep 1 i h1')) | (exact congrArg (List.map icells) (hstep 2 i h1')) | (exact congrArg (List.map icells) (hstep 3 i h1')) | (exact congrArg (List.map icells) (hstep 1 i h1').symm) | (exact congrArg (List.map icells) (hstep 2 i h1').symm) | (exact congrArg (List.map icells) (hstep 3 i h1').symm))
       · have hi' : i = ps.length := by omega
         subst hi'
         refine ⟨testO fun v => F v ++ (own1 v k 1 n ++ (ps.take ps.length).flatMap (Cond.nums v)), .d (.tup []), ?_, ⟨rfl, ?_⟩⟩
         · exact Kr
         · rw [List.take_length]
           congr 1 <;> simp only [nums_eq]
     · have hown : ∀ v, own1 v k 2 n = if 2 = v then [n] else [] := fun v => by simp only [own1, h0, hin, true_and, and_true]
       refine draw_rule tok (cf := {rs := [51]}) (by kernel_rfl) [.p 0, .p 1, .p 2, .p 3, .p 4, .p 5, .p 6, .p 7, .p 8, .p 9, .p 10, .p 11, .p 13, .s 12 [8,11,7,10,6,5,9,3,4], .p 14, .s 15 [14,0,1,2,13]] (by kernel_rfl) ?_
       ((conv => whnf); repeat' (refine vcC_go tok {rs := [51]} rfl ?_; conv => whnf))
       repeat' (first | (refine Kl rfl ?_; ((conv => whnf); repeat' (refine vcC_go tok {rs := [51]} rfl ?_; conv => whnf))) | fail)
       repeat' ((first | (intro hlq; (try simp only [SL] at hlq)) | refine Ks ?_ | refine Kq ?_ | refine Kt ?_ | refine Ka ?_ | refine Kb ?_ | refine Kc (hd := rfl) (e := ?_) | refine Kc (hd := icells_eq _) (e := ?_) | refine Kd (e := ?_) | refine Kl rfl ?_ | fail) <;> ((conv => whnf); repeat' (refine vcC_go tok {rs := [51]} rfl ?_; conv => whnf)))
       refine ⟨by simp, ?_⟩
       ((conv => whnf); repeat' (refine vcC_go tok {rs := [51]} rfl ?_; conv => whnf))
       refine Kap ?_ ?_ ?_
       rotate_left 1
       · simp; omega
       · decide
       ((conv => whnf); repeat' (refine vcC_go tok {rs := [51]} rfl ?_; conv => whnf))
       repeat' (first | (refine Kl rfl ?_; ((conv => whnf); repeat' (refine vcC_go tok {rs := [51]} rfl ?_; conv => whnf))) | fail)
       repeat' ((first | (intro hlq; (try simp only [SL] at hlq)) | refine Ks ?_ | refine Kq ?_ | refine Kt ?_ | refine Ka ?_ | refine Kb ?_ | refine Kc (hd := rfl) (e := ?_) | refine Kc (hd := icells_eq _) (e := ?_) | refine Kd (e := ?_) | refine Kl rfl ?_ | fail) <;> ((conv => whnf); repeat' (refine vcC_go tok {rs := [51]} rfl ?_; conv => whnf)))
       repeat' ((first | (intro hlq; (try simp only [SL] at hlq)) | refine Ks ?_ | refine Kq ?_ | refine Kt ?_ | refine Ka ?_ | refine Kb ?_ | refine Kc (hd := rfl) (e := ?_) | refine Kc (hd := icells_eq _) (e := ?_) | refine Kd (e := ?_) | refine Kl rfl ?_ | fail) <;> ((conv => whnf); repeat' (refine vcC_go tok {rs := [51]} rfl ?_; conv => whnf)))
       refine loop_upd tok {rs := [51]} [] (X := Nat) (fun i => [(45, iB i), (39, .junk)]) (fun i => testO fun v => F v ++ (own1 v k 2 n ++ (ps.take i).flatMap (Cond.nums v))) [7] (fun i => i ≤ ps.length) (fun i => ps.length - i) 0 ?_
       ((conv => whnf); repeat' (refine vcC_go tok {rs := [51]} rfl ?_; conv => whnf))
       refine And.intro ?_ ⟨by omega, fun i hi => ?_⟩
       · repeat' (first | exact True.intro | exact rfl | refine And.intro ?_ ?_ | ((simp [hown]; done)))
       ((conv => whnf); repeat' (refine vcC_go tok {rs := [51]} rfl ?_; conv => whnf))
       refine ⟨fun h1 => ?_, fun h1 => ?_⟩ <;> (try simp only [BL] at h1) <;> ((conv => whnf); repeat' (refine vcC_go tok {rs := [51]} rfl ?_; conv => whnf))
       · have h1' : i < ps.length := by omega
         have hmem := List.getElem_mem h1'
         have hszi := hsz _ hmem
         have hrec := tcond_meets ps[i].kind ps[i].var ps[i].n ps[i].parts (fun v => F v ++ (own1 v k 2 n ++ (ps.take i).flatMap (Cond.nums v))) (valid_tc (hvp _ hmem)).1 (valid_tc (hvp _ hmem)).2 (fun v => by rw [cond_eta]; exact hlen v i h1')
         repeat' ((first | (intro hlq; (try simp only [SL] at hlq)) | refine Ks ?_ | refine Kq ?_ | refine Kt ?_ | refine Ka ?_ | refine Kb ?_ | refine Kc (hd := rfl) (e := ?_) | refine Kc (hd := Cond.cells_eq _) (e := ?_) | refine Kd (e := ?_) | refine Kl rfl ?_ | fail) <;> ((conv => whnf); repeat' (refine vcC_go tok {rs := [51]} rfl ?_; conv => whnf)))
         refine ⟨testO fun v => F v ++ (own1 v k 2 n ++ (ps.take i).flatMap (Cond.nums v)), _, ⟨?_, ?_⟩, hrec.mono ?_⟩
         · exact Kr
         · exact Kr
         rintro o O' ⟨rfl, rfl⟩
         ((conv => whnf); repeat' (refine vcC_go tok {rs := [51]} rfl ?_; conv => whnf))
         repeat' ((first | (intro hlq; (try simp only [SL] at hlq)) | refine Ks ?_ | refine Kq ?_ | refine Kt ?_ | refine Ka ?_ | refine Kb ?_ | refine Kc (hd := rfl) (e := ?_) | refine Kc (hd := icells_eq _) (e := ?_) | refine Kd (e := ?_) | refine Kl rfl ?_ | fail) <;> ((conv => whnf); repeat' (refine vcC_go tok {rs := [51]} rfl ?_; conv => whnf)))
         refine ⟨⟨i + 1, ?_, by omega, by omega⟩⟩
         repeat' (first | exact True.intro | exact rfl | refine And.intro ?_ ?_ | (exact congrArg (List.map icells) (hstep 1 i h1')) | (exact congrArg (List.map icells) (hstep 2 i h1')) | (exact congrArg (List.map icells) (hstep 3 i h1')) | (exact congrArg (List.map icells) (hstep 1 i h1').symm) | (exact congrArg (List.map icells) (hstep 2 i h1').symm) | (exact congrArg (List.map icells) (hstep 3 i h1').symm))
       · have hi' : i = ps.length := by omega
         subst hi'
         refine ⟨testO fun v => F v ++ (own1 v k 2 n ++ (ps.take ps.length).flatMap (Cond.nums v)), .d (.tup []), ?_, ⟨rfl, ?_⟩⟩
         · exact Kr
         · rw [List.take_length]
           congr 1 <;> simp only [nums_eq]
     · have hown : ∀ v, own1 v k 3 n = if 3 = v then [n] else [] := fun v => by simp only [own1, h0, hin, true_and, and_true]
       refine draw_rule tok (cf := {rs := [51]}) (by kernel_rfl) [.p 0, .p 1, .p 2, .p 3, .p 4, .p 5, .p 6, .p 7, .p 8, .p 9, .p 10, .p 11, .p 13, .s 12 [8,11,7,10,6,5,9,3,4], .p 14, .s 15 [14,0,1,2,13]] (by kernel_rfl) ?_
       ((conv => whnf); repeat' (refine vcC_go tok {rs := [51]} rfl ?_; conv => whnf))
       repeat' (first | (refine Kl rfl ?_; ((conv => whnf); repeat' (refine vcC_go tok {rs := [51]} rfl ?_; conv => whnf))) | fail)
       repeat' ((first | (intro hlq; (try simp only [SL] at hlq)) | refine Ks ?_ | refine Kq ?_ | refine Kt ?_ | refine Ka ?_ | refine Kb ?_ | refine Kc (hd := rfl) (e := ?_) | refine Kc (hd := icells_eq _) (e := ?_) | refine Kd (e := ?_) | refine Kl rfl ?_ | fail) <;> ((conv => whnf); repeat' (refine vcC_go tok {rs := [51]} rfl ?_; conv => whnf)))
       refine ⟨by simp, ?_⟩
       ((conv => whnf); repeat' (refine vcC_go tok {rs := [51]} rfl ?_; conv => whnf))
       refine Kap ?_ ?_ ?_
       rotate_left 1
       · simp; omega
       · decide
       ((conv => whnf); repeat' (refine vcC_go tok {rs := [51]} rfl ?_; conv => whnf))
       repeat' (first | (refine Kl rfl ?_; ((conv => whnf); repeat' (refine vcC_go tok {rs := [51]} rfl ?_; conv => whnf))) | fail)
       repeat' ((first | (intro hlq; (try simp only [SL] at hlq)) | refine Ks ?_ | refine Kq ?_ | refine Kt ?_ | refine Ka ?_ | refine Kb ?_ | refine Kc (hd := rfl) (e := ?_) | refine Kc (hd := icells_eq _) (e := ?_) | refine Kd (e := ?_) | refine Kl rfl ?_ | fail) <;> ((conv => whnf); repeat' (refine vcC_go tok {rs := [51]} rfl ?_; conv => whnf)))
       repeat' ((first | (intro hlq; (try simp only [SL] at hlq)) | refine Ks ?_ | refine Kq ?_ | refine Kt ?_ | refine Ka ?_ | refine Kb ?_ | refine Kc (hd := rfl) (e := ?_) | refine Kc (hd := icells_eq _) (e := ?_) | refine Kd (e := ?_) | refine Kl rfl ?_ | fail) <;> ((conv => whnf); repeat' (refine vcC_go tok {rs := [51]} rfl ?_; conv => whnf)))
       refine loop_upd tok {rs := [51]} [] (X := Nat) (fun i => [(45, iB i), (39, .junk)]) (fun i => testO fun v => F v ++ (own1 v k 3 n ++ (ps.take i).flatMap (Cond.nums v))) [7] (fun i => i ≤ ps.length) (fun i => ps.length - i) 0 ?_
       ((conv => whnf); repeat' (refine vcC_go tok {rs := [51]} rfl ?_; conv => whnf))
       refine And.intro ?_ ⟨by omega, fun i hi => ?_⟩
       · repeat' (first | exact True.intro | exact rfl | refine And.intro ?_ ?_ | ((simp [hown]; done)))
       ((conv => whnf); repeat' (refine vcC_go tok {rs := [51]} rfl ?_; conv => whnf))
       refine ⟨fun h1 => ?_, fun h1 => ?_⟩ <;> (try simp only [BL] at h1) <;> ((conv => whnf); repeat' (refine vcC_go tok {rs := [51]} rfl ?_; conv => whnf))
       · have h1' : i < ps.length := by omega
         have hmem := List.getElem_mem h1'
         have hszi := hsz _ hmem
         have hrec := tcond_meets ps[i].kind ps[i].var ps[i].n ps[i].parts (fun v => F v ++ (own1 v k 3 n ++ (ps.take i).flatMap (Cond.nums v))) (valid_tc (hvp _ hmem)).1 (valid_tc (hvp _ hmem)).2 (fun v => by rw [cond_eta]; exact hlen v i h1')
         repeat' ((first | (intro hlq; (try simp only [SL] at hlq)) | refine Ks ?_ | refine Kq ?_ | refine Kt ?_ | refine Ka ?_ | refine Kb ?_ | refine Kc (hd := rfl) (e := ?_) | refine Kc (hd := Cond.cells_eq _) (e := ?_) | refine Kd (e := ?_) | refine Kl rfl ?_ | fail) <;> ((conv => whnf); repeat' (refine vcC_go tok {rs := [51]} rfl ?_; conv => whnf)))
         refine ⟨testO fun v => F v ++ (own1 v k 3 n ++ (ps.take i).flatMap (Cond.nums v)), _, ⟨?_, ?_⟩, hrec.mono ?_⟩
         · exact Kr
         · exact Kr
         rintro o O' ⟨rfl, rfl⟩
         ((conv => whnf); repeat' (refine vcC_go tok {rs := [51]} rfl ?_; conv => whnf))
         repeat' ((first | (intro hlq; (try simp only [SL] at hlq)) | refine Ks ?_ | refine Kq ?_ | refine Kt ?_ | refine Ka ?_ | refine Kb ?_ | refine Kc (hd := rfl) (e := ?_) | refine Kc (hd := icells_eq _) (e := ?_) | refine Kd (e := ?_) | refine Kl rfl ?_ | fail) <;> ((conv => whnf); repeat' (refine vcC_go tok {rs := [51]} rfl ?_; conv => whnf)))
         refine ⟨⟨i + 1, ?_, by omega, by omega⟩⟩
         repeat' (first | exact True.intro | exact rfl | refine And.intro ?_ ?_ | (exact congrArg (List.map icells) (hstep 1 i h1')) | (exact congrArg (List.map icells) (hstep 2 i h1')) | (exact congrArg (List.map icells) (hstep 3 i h1')) | (exact congrArg (List.map icells) (hstep 1 i h1').symm) | (exact congrArg (List.map icells) (hstep 2 i h1').symm) | (exact congrArg (List.map icells) (hstep 3 i h1').symm))
       · have hi' : i = ps.length := by omega
         subst hi'
         refine ⟨testO fun v => F v ++ (own1 v k 3 n ++ (ps.take ps.length).flatMap (Cond.nums v)), .d (.tup []), ?_, ⟨rfl, ?_⟩⟩
         · exact Kr
         · rw [List.take_length]
           congr 1 <;> simp only [nums_eq]
   · have hown : ∀ v, own1 v k w n = [] := fun v => by rw [own1, if_neg (by omega)]
     repeat' ((first | (intro hlq; (try simp only [SL] at hlq)) | refine Ks ?_ | refine Kq ?_ | refine Kt ?_ | refine Ka ?_ | refine Kb ?_ | refine Kc (hd := rfl) (e := ?_) | refine Kc (hd := icells_eq _) (e := ?_) | refine Kd (e := ?_) | refine Kl rfl ?_ | fail) <;> ((conv => whnf); repeat' (refine vcC_go tok {rs := [51]} rfl ?_; conv => whnf)))
     refine loop_upd tok {rs := [51]} [] (X := Nat) (fun i => [(45, iB i)]) (fun i => testO fun v => F v ++ (own1 v k w n ++ (ps.take i).flatMap (Cond.nums v))) [7] (fun i => i ≤ ps.length) (fun i => ps.length - i) 0 ?_
     ((conv => whnf); repeat' (refine vcC_go tok {rs := [51]} rfl ?_; conv => whnf))
     refine And.intro ?_ ⟨by omega, fun i hi => ?_⟩
     · repeat' (first | exact True.intro | exact rfl | refine And.intro ?_ ?_ | ((simp [hown]; done)))
     ((conv => whnf); repeat' (refine vcC_go tok {rs := [51]} rfl ?_; conv => whnf))
     refine ⟨fun h1 => ?_, fun h1 => ?_⟩ <;> (try simp only [BL] at h1) <;> ((conv => whnf); repeat' (refine vcC_go tok {rs := [51]} rfl ?_; conv => whnf))
     · have h1' : i < ps.length := by omega
       have hmem := List.getElem_mem h1'
       have hszi := hsz _ hmem
       have hrec := tcond_meets ps[i].kind ps[i].var ps[i].n ps[i].parts (fun v => F v ++ (own1 v k w n ++ (ps.take i).flatMap (Cond.nums v))) (valid_tc (hvp _ hmem)).1 (valid_tc (hvp _ hmem)).2 (fun v => by rw [cond_eta]; exact hlen v i h1')
       repeat' ((first | (intro hlq; (try simp only [SL] at hlq)) | refine Ks ?_ | refine Kq ?_ | refine Kt ?_ | refine Ka ?_ | refine Kb ?_ | refine Kc (hd := rfl) (e := ?_) | refine Kc (hd := Cond.cells_eq _) (e := ?_) | refine Kd (e := ?_) | refine Kl rfl ?_ | fail) <;> ((conv => whnf); repeat' (refine vcC_go tok {rs := [51]} rfl ?_; conv => whnf)))
       refine ⟨testO fun v => F v ++ (own1 v k w n ++ (ps.take i).flatMap (Cond.nums v)), _, ⟨?_, ?_⟩, hrec.mono ?_⟩
       · exact Kr
       · exact Kr
       rintro o O' ⟨rfl, rfl⟩
       ((conv => whnf); repeat' (refine vcC_go tok {rs := [51]} rfl ?_; conv => whnf))
       repeat' ((first | (intro hlq; (try simp only [SL] at hlq)) | refine Ks ?_ | refine Kq ?_ | refine Kt ?_ | refine Ka ?_ | refine Kb ?_ | refine Kc (hd := rfl) (e := ?_) | refine Kc (hd := icells_eq _) (e := ?_) | refine Kd (e := ?_) | refine Kl rfl ?_ | fail) <;> ((conv => whnf); repeat' (refine vcC_go tok {rs := [51]} rfl ?_; conv => whnf)))
       refine ⟨⟨i + 1, ?_, by omega, by omega⟩⟩
       repeat' (first | exact True.intro | exact rfl | refine And.intro ?_ ?_ | (exact congrArg (List.map icells) (hstep 1 i h1')) | (exact congrArg (List.map icells) (hstep 2 i h1')) | (exact congrArg (List.map icells) (hstep 3 i h1')) | (exact congrArg (List.map icells) (hstep 1 i h1').symm) | (exact congrArg (List.map icells) (hstep 2 i h1').symm) | (exact congrArg (List.map icells) (hstep 3 i h1').symm))
     · have hi' : i = ps.length := by omega
       subst hi'
       refine ⟨testO fun v => F v ++ (own1 v k w n ++ (ps.take ps.length).flatMap (Cond.nums v)), .d (.tup []), ?_, ⟨rfl, ?_⟩⟩
       · exact Kr
       · rw [List.take_length]
         congr 1 <;> simp only [nums_eq]
   · have hown : ∀ v, own1 v k w n = [] := fun v => by rw [own1, if_neg (by omega)]
     repeat' ((first | (intro hlq; (try simp only [SL] at hlq)) | refine Ks ?_ | refine Kq ?_ | refine Kt ?_ | refine Ka ?_ | refine Kb ?_ | refine Kc (hd := rfl) (e := ?_) | refine Kc (hd := icells_eq _) (e := ?_) | refine Kd (e := ?_) | refine Kl rfl ?_ | fail) <;> ((conv => whnf); repeat' (refine vcC_go tok {rs := [51]} rfl ?_; conv => whnf)))
     refine loop_upd tok {rs := [51]} [] (X := Nat) (fun i => [(45, iB i)]) (fun i => testO fun v => F v ++ (own1 v k w n ++ (ps.take i).flatMap (Cond.nums v))) [7] (fun i => i ≤ ps.length) (fun i => ps.length - i) 0 ?_
     ((conv => whnf); repeat' (refine vcC_go tok {rs := [51]} rfl ?_; conv => whnf))
     refine And.intro ?_ ⟨by omega, fun i hi => ?_⟩
     · repeat' (first | exact True.intro | exact rfl | refine And.intro ?_ ?_ | ((simp [hown]; done)))
     ((conv => whnf); repeat' (refine vcC_go tok {rs := [51]} rfl ?_; conv => whnf))
     refine ⟨fun h1 => ?_, fun h1 => ?_⟩ <;> (try simp only [BL] at h1) <;> ((conv => whnf); repeat' (refine vcC_go tok {rs := [51]} rfl ?_; conv => whnf))
     · have h1' : i < ps.length := by omega
       have hmem := List.getElem_mem h1'
       have hszi := hsz _ hmem
       have hrec := tcond_meets ps[i].kind ps[i].var ps[i].n ps[i].parts (fun v => F v ++ (own1 v k w n ++ (ps.take i).flatMap (Cond.nums v))) (valid_tc (hvp _ hmem)).1 (valid_tc (hvp _ hmem)).2 (fun v => by rw [cond_eta]; exact hlen v i h1')
       repeat' ((first | (intro hlq; (try simp only [SL] at hlq)) | refine Ks ?_ | refine Kq ?_ | refine Kt ?_ | refine Ka ?_ | refine Kb ?_ | refine Kc (hd := rfl) (e := ?_) | refine Kc (hd := Cond.cells_eq _) (e := ?_) | refine Kd (e := ?_) | refine Kl rfl ?_ | fail) <;> ((conv => whnf); repeat' (refine vcC_go tok {rs := [51]} rfl ?_; conv => whnf)))
       refine ⟨testO fun v => F v ++ (own1 v k w n ++ (ps.take i).flatMap (Cond.nums v)), _, ⟨?_, ?_⟩, hrec.mono ?_⟩
       · exact Kr
       · exact Kr
       rintro o O' ⟨rfl, rfl⟩
       ((conv => whnf); repeat' (refine vcC_go tok {rs := [51]} rfl ?_; conv => whnf))
       repeat' ((first | (intro hlq; (try simp only [SL] at hlq)) | refine Ks ?_ | refine Kq ?_ | refine Kt ?_ | refine Ka ?_ | refine Kb ?_ | refine Kc (hd := rfl) (e := ?_) | refine Kc (hd := icells_eq _) (e := ?_) | refine Kd (e := ?_) | refine Kl rfl ?_ | fail) <;> ((conv => whnf); repeat' (refine vcC_go tok {rs := [51]} rfl ?_; conv => whnf)))
       refine ⟨⟨i + 1, ?_, by omega, by omega⟩⟩
       repeat' (first | exact True.intro | exact rfl | refine And.intro ?_ ?_ | (exact congrArg (List.map icells) (hstep 1 i h1')) | (exact congrArg (List.map icells) (hstep 2 i h1')) | (exact congrArg (List.map icells) (hstep 3 i h1')) | (exact congrArg (List.map icells) (hstep 1 i h1').symm) | (exact congrArg (List.map icells) (hstep 2 i h1').symm) | (exact congrArg (List.map icells) (hstep 3 i h1').symm))
     · have hi' : i = ps.length := by omega
       subst hi'
       refine ⟨testO fun v => F v ++ (own1 v k w n ++ (ps.take ps.length).flatMap (Cond.nums v)), .d (.tup []), ?_, ⟨rfl, ?_⟩⟩
       · exact Kr
       · rw [List.take_length]
         congr 1 <;> simp only [nums_eq]
 · have hown : ∀ v, own1 v k w n = [] := fun v => by rw [own1, if_neg (by omega)]
   repeat' ((first | (intro hlq; (try simp only [SL] at hlq)) | refine Ks ?_ | refine Kq ?_ | refine Kt ?_ | refine Ka ?_ | refine Kb ?_ | refine Kc (hd := rfl) (e := ?_) | refine Kc (hd := icells_eq _) (e := ?_) | refine Kd (e := ?_) | refine Kl rfl ?_ | fail) <;> ((conv => whnf); repeat' (refine vcC_go tok {rs := [51]} rfl ?_; conv => whnf)))
   refine loop_upd tok {rs := [51]} [] (X := Nat) (fun i => [(45, iB i)]) (fun i => testO fun v => F v ++ (own1 v k w n ++ (ps.take i).flatMap (Cond.nums v))) [7] (fun i => i ≤ ps.length) (fun i => ps.length - i) 0 ?_
   ((conv => whnf); repeat' (refine vcC_go tok {rs := [51]} rfl ?_; conv => whnf))
   refine And.intro ?_ ⟨by omega, fun i hi => ?_⟩
   · repeat' (first | exact True.intro | exact rfl | refine And.intro ?_ ?_ | ((simp [hown]; done)))
   ((conv => whnf); repeat' (refine vcC_go tok {rs := [51]} rfl ?_; conv => whnf))
   refine ⟨fun h1 => ?_, fun h1 => ?_⟩ <;> (try simp only [BL] at h1) <;> ((conv => whnf); repeat' (refine vcC_go tok {rs := [51]} rfl ?_; conv => whnf))
   · have h1' : i < ps.length := by omega
     have hmem := List.getElem_mem h1'
     have hszi := hsz _ hmem
     have hrec := tcond_meets ps[i].kind ps[i].var ps[i].n ps[i].parts (fun v => F v ++ (own1 v k w n ++ (ps.take i).flatMap (Cond.nums v))) (valid_tc (hvp _ hmem)).1 (valid_tc (hvp _ hmem)).2 (fun v => by rw [cond_eta]; exact hlen v i h1')
     repeat' ((first | (intro hlq; (try simp only [SL] at hlq)) | refine Ks ?_ | refine Kq ?_ | refine Kt ?_ | refine Ka ?_ | refine Kb ?_ | refine Kc (hd := rfl) (e := ?_) | refine Kc (hd := Cond.cells_eq _) (e := ?_) | refine Kd (e := ?_) | refine Kl rfl ?_ | fail) <;> ((conv => whnf); repeat' (refine vcC_go tok {rs := [51]} rfl ?_; conv => whnf)))
     refine ⟨testO fun v => F v ++ (own1 v k w n ++ (ps.take i).flatMap (Cond.nums v)), _, ⟨?_, ?_⟩, hrec.mono ?_⟩
     · exact Kr
     · exact Kr
     rintro o O' ⟨rfl, rfl⟩
     ((conv => whnf); repeat' (refine vcC_go tok {rs := [51]} rfl ?_; conv => whnf))
     repeat' ((first | (intro hlq; (try simp only [SL] at hlq)) | refine Ks ?_ | refine Kq ?_ | refine Kt ?_ | refine Ka ?_ | refine Kb ?_ | refine Kc (hd := rfl) (e := ?_) | refine Kc (hd := icells_eq _) (e := ?_) | refine Kd (e := ?_) | refine Kl rfl ?_ | fail) <;> ((conv => whnf); repeat' (refine vcC_go tok {rs := [51]} rfl ?_; conv => whnf)))
     refine ⟨⟨i + 1, ?_, by omega, by omega⟩⟩
     repeat' (first | exact True.intro | exact rfl | refine And.intro ?_ ?_ | (exact congrArg (List.map icells) (hstep 1 i h1')) | (exact congrArg (List.map icells) (hstep 2 i h1')) | (exact congrArg (List.map icells) (hstep 3 i h1')) | (exact congrArg (List.map icells) (hstep 1 i h1').symm) | (exact congrArg (List.map icells) (hstep 2 i h1').symm) | (exact congrArg (List.map icells) (hstep 3 i h1').symm))
   · have hi' : i = ps.length := by omega
     subst hi'
     refine ⟨testO fun v => F v ++ (own1 v k w n ++ (ps.take ps.length).flatMap (Cond.nums v)), .d (.tup []), ?_, ⟨rfl, ?_⟩⟩
     · exact Kr
     · rw [List.take_length]
       congr 1 <;> simp only [nums_eq]
termination_by Cond.szL ps
decreasing_by all_goals assumption
abbrev valO (F : Int → List Int) : List (Nat × Blk) :=
 [(3000, .box [.full [], .own 3001, .own 3002, .own 3003] 50), (3001, .sl ⟨3, 1, (F 1).map icells, false⟩), (3002, .sl ⟨3, 1, (F 2).map icells, false⟩), (3003, .sl ⟨3, 1, (F 3).map icells, false⟩)]
theorem isZero_eq {c : Cond} (h : c.isZero = true) : c.kind = 0 ∧ c.parts = [] := by
 simp only [Cond.isZero, Bool.and_eq_true, decide_eq_true_eq] at h
 exact ⟨h.1, List.eq_nil_of_length_eq_zero (by omega)⟩
theorem step_tc {s : Step} (hv : s.valid = true) : ((s.cond.kind = 1 → 1 ≤ s.cond.var ∧ s.cond.var ≤ 3) ∧ ∀ p ∈ s.cond.parts, p.valid = true) ∧ (∀ z ∈ s.th, z.valid = true) ∧ ∀ z ∈ s.el, z.valid = true := by
 rw [Step.valid_eq] at hv
 split at hv
 · simp only [Bool.and_eq_true, decide_eq_true_eq] at hv
   obtain ⟨_, h1, h2, h3⟩ := hv
   obtain ⟨h4, h5⟩ := isZero_eq h1
   have h6 : s.th = [] := List.eq_nil_of_length_eq_zero (by omega)
   have h7 : s.el = [] := List.eq_nil_of_length_eq_zero (by omega)
   rw [h4, h5, h6, h7]
   exact ⟨⟨fun h => absurd h (by decide), fun p hp => by cases hp⟩, fun p hp => (by cases hp), fun p hp => by cases hp⟩
 · split at hv
   · simp only [Bool.and_eq_true, List.all_eq_true] at hv
     exact ⟨valid_tc hv.2.1, hv.2.2.2.1, hv.2.2.2.2⟩
   · cases hv
mutual
def Step.nc : Step → Nat
 | ⟨_, _, c, t, e⟩ => c.total + (Step.ncL t + Step.ncL e)
def Step.ncL : List Step → Nat
 | [] => 0
 | c :: cs => c.nc + Step.ncL cs
end
theorem Step.nc_eq (s : Step) : s.nc = s.cond.total + (Step.ncL s.th + Step.ncL s.el) := by obtain ⟨k, b, c, t, e⟩ := s; rfl
theorem ncL_take (l : List Step) (i : Nat) : Step.ncL l = Step.ncL (l.take i) + Step.ncL (l.drop i) := by
 induction l generalizing i with
 | nil => simp [Step.ncL]
 | cons a l ih =>
   cases i with
   | zero => simp [Step.ncL]
   | succ i => simp only [List.take_succ_cons, List.drop_succ_cons, Step.ncL]; have := ih i; omega
mutual
theorem snums_len (v : Int) : ∀ s : Step, (s.nums v).length ≤ s.nc
 | ⟨k, b, c, t, e⟩ => by
   have h1 := nums_len v c
   have h2 := snumsL_len v t
   have h3 := snumsL_len v e
   rw [Step.nums, Step.nc, List.length_append, List.length_append]; omega
theorem snumsL_len (v : Int) : ∀ l : List Step, (Step.numsL v l).length ≤ Step.ncL l
 | [] => by simp [Step.numsL, Step.ncL]
 | c :: cs => by
   have h1 := snums_len v c
   have h2 := snumsL_len v cs
   rw [Step.numsL, Step.ncL, List.length_append]; omega
end
theorem tests_meets (l : List Step) (F : Int → List Int) (hv : ∀ s ∈ l, s.valid = true) (hbd : ∀ v, (F v).length + Step.ncL l ≤ 1000000) :
 MeetsR Tryz.prog 19 [.d (.sl (l.map Step.cells)), .loc 3000 0] (valO F) fun o O' => o = .ret (.d (.tup [])) ∧ O' = valO fun v => F v ++ l.flatMap (Step.nums v) := by
 refine enterR tok {nm := [(3, 3010), (4, 3011)], rs := [17, 21, 25]} Tryz.func19 rfl (by kernel_rfl) Tryz.ntmps19 (by simp) fun B0 W0 V0 lent g0 => ?_
 ((conv => whnf); repeat' (refine vcC_go tok {nm := [(3, 3010), (4, 3011)], rs := [17, 21, 25]} rfl ?_; conv => whnf))
 repeat' ((first | (intro hlq; (try simp only [SL] at hlq)) | refine Ks ?_ | refine Kq ?_ | refine Kt ?_ | refine Ka ?_ | refine Kb ?_ | refine Kc (hd := rfl) (e := ?_) | refine Kc (hd := icells_eq _) (e := ?_) | refine Kd (e := ?_) | refine Kl rfl ?_ | fail) <;> ((conv => whnf); repeat' (refine vcC_go tok {nm := [(3, 3010), (4, 3011)], rs := [17, 21, 25]} rfl ?_; conv => whnf)))
 refine loop_upd tok {nm := [(3, 3010), (4, 3011)], rs := [17, 21, 25]} [] (X := Nat) (fun i => [(10, iB i)]) (fun i => valO fun v => F v ++ (l.take i).flatMap (Step.nums v)) [6] (fun i => i ≤ l.length) (fun i => l.length - i) 0 ?_
 ((conv => whnf); repeat' (refine vcC_go tok {nm := [(3, 3010), (4, 3011)], rs := [17, 21, 25]} rfl ?_; conv => whnf))
 refine And.intro ?_ ⟨by omega, fun i hi => ?_⟩
 · repeat' (first | exact True.intro | exact rfl | refine And.intro ?_ ?_ | ((simp; done)))
 ((conv => whnf); repeat' (refine vcC_go tok {nm := [(3, 3010), (4, 3011)], rs := [17, 21, 25]} rfl ?_; conv => whnf))
 refine ⟨fun h1 => ?_, fun h1 => ?_⟩ <;> (try simp only [BL] at h1) <;> ((conv => whnf); repeat' (refine vcC_go tok {nm := [(3, 3010), (4, 3011)], rs := [17, 21, 25]} rfl ?_; conv => whnf))
 · have h1' : i < l.length := by omega
   have hmem := List.getElem_mem h1'
   obtain ⟨⟨q1, q2⟩, q3, q4⟩ := step_tc (hv _ hmem)
   have hlens : ∀ v, (F v ++ (l.take i).flatMap (Step.nums v)).length + (l[i].cond.total + (Step.ncL l[i].th + Step.ncL l[i].el)) ≤ 1000000 := by
    intro v
    have h1 := hbd v
    have h2 := snumsL_len v (l.take i)
    rw [snumsL_eq] at h2
    have h3 := ncL_take l i
    rw [List.drop_eq_getElem_cons h1', Step.ncL, Step.nc_eq] at h3
    rw [List.length_append]; omega
   have hc1 := tcond_meets l[i].cond.kind l[i].cond.var l[i].cond.n l[i].cond.parts (fun v => F v ++ (l.take i).flatMap (Step.nums v)) q1 q2 (fun v => by rw [cond_eta]; have := hlens v; omega)
   have hlen2 : ∀ v, ((F v ++ (l.take i).flatMap (Step.nums v)) ++ (⟨l[i].cond.kind, l[i].cond.var, l[i].cond.n, l[i].cond.parts⟩ : Cond).nums v).length + (Step.ncL l[i].th + Step.ncL l[i].el) ≤ 1000000 := by
    intro v
    have h1 := hlens v
    have h2 := nums_len v l[i].cond
    rw [cond_eta, List.length_append]; omega
   have hc2 := tests_meets l[i].th (fun v => (F v ++ (l.take i).flatMap (Step.nums v)) ++ (⟨l[i].cond.kind, l[i].cond.var, l[i].cond.n, l[i].cond.parts⟩ : Cond).nums v) q3 (fun v => by have := hlen2 v; omega)
   have hc3 := tests_meets l[i].el (fun v => ((F v ++ (l.take i).flatMap (Step.nums v)) ++ (⟨l[i].cond.kind, l[i].cond.var, l[i].cond.n, l[i].cond.parts⟩ : Cond).nums v) ++ l[i].th.flatMap (Step.nums v)) q4 (fun v => by
    have h1 := hlen2 v
    have h2 := snumsL_len v l[i].th
    rw [snumsL_eq] at h2
    rw [List.length_append]; omega)
   have hstep : ∀ v, (((F v ++ (l.take i).flatMap (Step.nums v)) ++ (⟨l[i].cond.kind, l[i].cond.var, l[i].cond.n, l[i].cond.parts⟩ : Cond).nums v) ++ l[i].th.flatMap (Step.nums v)) ++ l[i].el.flatMap (Step.nums v) = F v ++ (l.take (i + 1)).flatMap (Step.nums v) := by
    intro v
    rw [List.take_succ_eq_append_getElem h1', List.flatMap_append, cond_eta]
    simp [snums_eq v l[i]]
   repeat' ((first | (intro hlq; (try simp only [SL] at hlq)) | refine Ks ?_ | refine Kq ?_ | refine Kt ?_ | refine Ka ?_ | refine Kb ?_ | refine Kc (hd := rfl) (e := ?_) | refine Kc (hd := Step.cells_eq _) (e := ?_) | refine Kd (e := ?_) | refine Kl rfl ?_ | fail) <;> ((conv => whnf); repeat' (refine vcC_go tok {nm := [(3, 3010), (4, 3011)], rs := [17, 21, 25]} rfl ?_; conv => whnf)))
   refine ⟨testO fun v => F v ++ (l.take i).flatMap (Step.nums v), _, ⟨?_, ?_⟩, hc1.mono ?_⟩
   · exact Kr
   · exact Kr
   rintro o O' ⟨rfl, rfl⟩
   ((conv => whnf); repeat' (refine vcC_go tok {nm := [(3, 3010), (4, 3011)], rs := [17, 21, 25]} rfl ?_; conv => whnf))
   refine ⟨_, _, ⟨?_, ?_⟩, hc2.mono ?_⟩
   · exact Kr
   · exact Kr
   rintro o O' ⟨rfl, rfl⟩
   ((conv => whnf); repeat' (refine vcC_go tok {nm := [(3, 3010), (4, 3011)], rs := [17, 21, 25]} rfl ?_; conv => whnf))
   refine ⟨_, _, ⟨?_, ?_⟩, hc3.mono ?_⟩
   · exact Kr
   · exact Kr
   rintro o O' ⟨rfl, rfl⟩
   ((conv => whnf); repeat' (refine vcC_go tok {nm := [(3, 3010), (4, 3011)], rs := [17, 21, 25]} rfl ?_; conv => whnf))
   repeat' ((first | (intro hlq; (try simp only [SL] at hlq)) | refine Ks ?_ | refine Kq ?_ | refine Kt ?_ | refine Ka ?_ | refine Kb ?_ | refine Kc (hd := rfl) (e := ?_) | refine Kc (hd := icells_eq _) (e := ?_) | refine Kd (e := ?_) | refine Kl rfl ?_ | fail) <;> ((conv => whnf); repeat' (refine vcC_go tok {nm := [(3, 3010), (4, 3011)], rs := [17, 21, 25]} rfl ?_; conv => whnf)))
   refine ⟨⟨i + 1, ?_, by omega, by omega⟩⟩
   repeat' (first | exact True.intro | exact rfl | refine And.intro ?_ ?_ | (exact congrArg (List.map icells) (hstep 1)) | (exact congrArg (List.map icells) (hstep 2)) | (exact congrArg (List.map icells) (hstep 3)) | (exact congrArg (List.map icells) (hstep 1).symm) | (exact congrArg (List.map icells) (hstep 2).symm) | (exact congrArg (List.map icells) (hstep 3).symm))
 · have hi' : i = l.length := by omega
   subst hi'
   refine ⟨valO fun v => F v ++ (l.take l.length).flatMap (Step.nums v), .d (.tup []), ?_, ⟨rfl, ?_⟩⟩
   · exact Kr
   · rw [List.take_length]
termination_by Step.szL l
decreasing_by
 all_goals
  have h2 := szS_mem (List.getElem_mem h1')
  have h3 := l[i].sz_eq
  omega
end Go.Proofs.YtacclfgmgphljaaGreat.Dx
