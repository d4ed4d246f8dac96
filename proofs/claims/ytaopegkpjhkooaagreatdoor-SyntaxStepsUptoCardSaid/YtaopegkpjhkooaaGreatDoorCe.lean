/- Chapter 06: the law's writer of conditions. -/
import Derived.Test.YtaopegkpjhkooaaGreatDoorCd
import Derived.Test.YtaopegkpjhkooaaGreatDoorC8
import Derived.Test.YtaopegkpjhkooaaGreatDoorBn
set_option linter.all false
namespace Go.Proofs.YtaopegkpjhkooaaGreatDoor.Dx
open Go Go.RowKit Go.Proofs
set_option maxRecDepth 100000
set_option maxHeartbeats 16000000
theorem varW_len (v : Int) : (varW v).length ≤ 8 := by unfold varW; split <;> decide
theorem joinW_len (w : List UInt8) (B : Nat) : ∀ l : List (List UInt8), (∀ x ∈ l, x.length ≤ B) → (joinW w l).length ≤ l.length * (B + w.length)
 | [], _ => by simp [joinW]
 | x :: xs, h => by
   have hx := h x (by simp)
   have key : ∀ ys : List (List UInt8), (∀ y ∈ ys, y.length ≤ B) → ((ys.map (w ++ ·)).flatten).length ≤ ys.length * (B + w.length) := by
    intro ys
    induction ys with
    | nil => intro _; simp
    | cons y ys ih =>
      intro h
      have h1 := h y (by simp)
      have h2 := ih fun z hz => h z (List.mem_cons_of_mem _ hz)
      simp only [List.map_cons, List.flatten_cons, List.length_append, List.length_cons, Nat.succ_mul]
      omega
   have := key xs fun y hy => h y (List.mem_cons_of_mem _ hy)
   simp only [joinW, List.length_append, List.length_cons, Nat.succ_mul]
   omega
theorem cTx_len : ∀ (k : Nat) (c : Cond), (cTx k c).1.length ≤ 40 * 16 ^ k - 8
 | 0, c => by simp [cTx]
 | k + 1, c => by
   have ih := cTx_len k
   have hp : 1 ≤ 16 ^ k := Nat.one_le_pow _ _ (by decide)
   have e : 40 * 16 ^ (k + 1) = 16 * (40 * 16 ^ k) := by rw [Nat.pow_succ]; omega
   rw [e]
   unfold cTx
   split
   · split
     · rename_i h
       have h1 := itoa_len h.2.1.1 h.2.1.2
       have h2 := varW_len c.var
       simp only [List.length_append, List.length_cons, List.length_nil]
       omega
     · simp
   · split
     · split
       · rename_i p _
         split
         · have := ih p
           simp only [List.length_append, List.length_cons, List.length_nil]
           omega
         · simp
       · simp
     · split
       · rename_i h
         have hB := joinW_len (if c.kind = 3 then orW else andW) (40 * 16 ^ k - 6) (c.parts.map fun p => par (cTx k p).1) (by
          intro x hx
          obtain ⟨p, _, rfl⟩ := List.mem_map.1 hx
          have := ih p
          simp only [List.length_append, List.length_cons, List.length_nil]
          omega)
         rw [List.length_map] at hB
         have hw : (if c.kind = 3 then orW else andW).length ≤ 5 := by split <;> decide
         refine Nat.le_trans hB ?_
         have h16 := h.2.1.2
         have := Nat.mul_le_mul h16 (show 40 * 16 ^ k - 6 + (if c.kind = 3 then orW else andW).length ≤ 40 * 16 ^ k - 1 by omega)
         omega
       · simp
theorem pow8 {k : Nat} (hk : k ≤ 8) : 40 * 16 ^ k ≤ 171798691840 := by
 have : 16 ^ k ≤ 16 ^ 8 := Nat.pow_le_pow_right (by decide) hk
 omega
theorem cTx_le {k : Nat} (hk : k ≤ 8) (c : Cond) : (cTx k c).1.length ≤ 171798691840 := by
 have := cTx_len k c
 have := pow8 hk
 omega
theorem condText_leaf (k : Nat) (c : Cond) (dd : Int) (hd : dd + 1 = 8 - (k : Int)) (hk1 : c.kind = 1) (res : List UInt8 × Bool)
 (hres : res = if (1 ≤ c.var ∧ c.var ≤ 3) ∧ (0 ≤ c.n ∧ c.n ≤ 1125899906842624) ∧ c.parts = [] then (varW c.var ++ ([32, 62, 61, 32] ++ Lib.itoa c.n), true) else ([], false)) : Meets Tryz.prog 29 [c.d, iD dd] fun r => r = .tup [.str res.1, bD res.2] := by
 by_cases hv : (1 ≤ c.var ∧ c.var ≤ 3) ∧ (0 ≤ c.n ∧ c.n ≤ 1125899906842624) ∧ c.parts = []
 · rw [if_pos hv] at hres
   have hp0 : c.parts.length = 0 := by rw [hv.2.2]; rfl
   have hi := itoa_len hv.2.1.1 hv.2.1.2
   have hw := varW_len c.var
   refine enter tok {} Tryz.func29 rfl (by kernel_rfl) Tryz.ntmps29 (by simp) fun B0 W0 V0 lent g0 => ?_
   ((conv => whnf); repeat' (refine Z rfl ?_; conv => whnf))
   repeat' ((first | (intro hlq; (try simp only [SL] at hlq)) | refine Meets.k (Itoa_meets c.n) ?_ | refine Ks ?_ | refine Kq ?_ | refine Kt ?_ | ((refine Kh (fun hb => ?_) fun hb => ?_) <;> (try simp only [BL] at hb)) | refine Ka ?_ | refine Kb ?_ | refine Kc (hd := rfl) (e := ?_) | refine Kc (hd := icells_eq _) (e := ?_) | refine Kd (e := ?_) | refine Kl rfl ?_ | fail) <;> ((conv => whnf); repeat' (refine Z rfl ?_; conv => whnf)))
   all_goals try (exfalso; omega)
   refine draw_rule tok (cf := {}) (by kernel_rfl) [.p 0, .p 1, .p 2, .p 3, .p 4, .p 5, .p 6, .p 7, .s 8 [7,6], .p 9, .p 10, .p 11] (by kernel_rfl) ?_
   ((conv => whnf); repeat' (refine Z rfl ?_; conv => whnf))
   repeat' ((first | (intro hlq; (try simp only [SL] at hlq)) | refine Ks ?_ | refine Kq ?_ | refine Kt ?_ | ((refine Kh (fun hb => ?_) fun hb => ?_) <;> (try simp only [BL] at hb)) | refine Ka ?_ | refine Kb ?_ | refine Kc (hd := rfl) (e := ?_) | refine Kc (hd := icells_eq _) (e := ?_) | refine Kd (e := ?_) | refine Kl rfl ?_ | fail) <;> ((conv => whnf); repeat' (refine Z rfl ?_; conv => whnf)))
   refine ⟨[.str (varW c.var)], ⟨by omega, ?_, rfl⟩, ?_⟩
   · have hv3 : c.var = 1 ∨ c.var = 2 ∨ c.var = 3 := by omega
     obtain e | e | e := hv3 <;> rw [e] <;> rfl
   ((conv => whnf); repeat' (refine Z rfl ?_; conv => whnf))
   repeat' ((first | (intro hlq; (try simp only [SL] at hlq)) | refine Meets.k (Itoa_meets c.n) ?_ | refine Ks ?_ | refine Kq ?_ | refine Kt ?_ | ((refine Kh (fun hb => ?_) fun hb => ?_) <;> (try simp only [BL] at hb)) | refine Ka ?_ | refine Kb ?_ | refine Kc (hd := rfl) (e := ?_) | refine Kc (hd := icells_eq _) (e := ?_) | refine Kd (e := ?_) | refine Kl rfl ?_ | fail) <;> ((conv => whnf); repeat' (refine Z rfl ?_; conv => whnf)))
   refine ⟨?_⟩
   rw [hres, List.append_assoc]
 · rw [if_neg hv] at hres
   rw [show (c.parts = []) = (c.parts.length = 0) from propext List.length_eq_zero_iff.symm] at hv
   refine enter tok {} Tryz.func29 rfl (by kernel_rfl) Tryz.ntmps29 (by simp) fun B0 W0 V0 lent g0 => ?_
   ((conv => whnf); repeat' (refine Z rfl ?_; conv => whnf))
   repeat' ((first | (intro hlq; (try simp only [SL] at hlq)) | refine Ks ?_ | refine Kq ?_ | refine Kt ?_ | ((refine Kh (fun hb => ?_) fun hb => ?_) <;> (try simp only [BL] at hb)) | refine Ka ?_ | refine Kb ?_ | refine Kc (hd := rfl) (e := ?_) | refine Kc (hd := icells_eq _) (e := ?_) | refine Kd (e := ?_) | refine Kl rfl ?_ | fail) <;> ((conv => whnf); repeat' (refine Z rfl ?_; conv => whnf)))
   all_goals first
    | (exfalso; omega)
    | (refine Done.mk ?_; rw [hres]; done)
    | trace_state
theorem condText_not (k : Nat) (c : Cond) (dd : Int) (hd : dd + 1 = 8 - (k : Int)) (ih : ∀ c : Cond, Meets Tryz.prog 29 [c.d, iD (dd + 1)] fun r => r = .tup [.str (cTx k c).1, bD (cTx k c).2]) (hle : ∀ p : Cond, (cTx k p).1.length ≤ 171798691840) (hk4 : c.kind = 4) (res : List UInt8 × Bool)
 (hres : res = match c.parts with | [p] => if c.var = 0 ∧ c.n = 0 then ([110, 111, 116, 32, 40] ++ (cTx k p).1 ++ [41], (cTx k p).2) else ([], false) | _ => ([], false)) : Meets Tryz.prog 29 [c.d, iD dd] fun r => r = .tup [.str res.1, bD res.2] := by
 obtain ⟨kd, v, n, ps⟩ := c
 dsimp only at hk4 hres
 match ps, hres with
 | [p], hres =>
   dsimp only at hres
   have hp := ih p
   have hpl := hle p
   by_cases hv : v = 0 ∧ n = 0
   · rw [if_pos hv] at hres
     refine enter tok {} Tryz.func29 rfl (by kernel_rfl) Tryz.ntmps29 (by simp) fun B0 W0 V0 lent g0 => ?_
     ((conv => whnf); repeat' (refine Z rfl ?_; conv => whnf))
     repeat' ((first | (intro hlq; (try simp only [SL] at hlq)) | refine Meets.k (hp) ?_ | refine Ks ?_ | refine Kq ?_ | refine Kt ?_ | ((refine Kh (fun hb => ?_) fun hb => ?_) <;> (try simp only [BL] at hb)) | refine Ka ?_ | refine Kb ?_ | refine Kc (hd := rfl) (e := ?_) | refine Kc (hd := Cond.cells_eq _) (e := ?_) | refine Kd (e := ?_) | refine Kl rfl ?_ | fail) <;> ((conv => whnf); repeat' (refine Z rfl ?_; conv => whnf)))
     all_goals first
      | (exfalso; omega)
      | (exfalso; simp only [List.length_cons, List.length_nil] at *; omega)
      | (refine Done.mk ?_; rw [hres]; done)
   · rw [if_neg hv] at hres
     refine enter tok {} Tryz.func29 rfl (by kernel_rfl) Tryz.ntmps29 (by simp) fun B0 W0 V0 lent g0 => ?_
     ((conv => whnf); repeat' (refine Z rfl ?_; conv => whnf))
     repeat' ((first | (intro hlq; (try simp only [SL] at hlq)) | refine Meets.k (hp) ?_ | refine Ks ?_ | refine Kq ?_ | refine Kt ?_ | ((refine Kh (fun hb => ?_) fun hb => ?_) <;> (try simp only [BL] at hb)) | refine Ka ?_ | refine Kb ?_ | refine Kc (hd := rfl) (e := ?_) | refine Kc (hd := Cond.cells_eq _) (e := ?_) | refine Kd (e := ?_) | refine Kl rfl ?_ | fail) <;> ((conv => whnf); repeat' (refine Z rfl ?_; conv => whnf)))
     all_goals first
      | (refine Done.mk ?_; rw [hres]; done)
      | (exfalso; omega)
      | (exfalso; simp only [List.length_cons, List.length_nil] at *; omega)
 | [], hres =>
   dsimp only at hres
   refine enter tok {} Tryz.func29 rfl (by kernel_rfl) Tryz.ntmps29 (by simp) fun B0 W0 V0 lent g0 => ?_
   ((conv => whnf); repeat' (refine Z rfl ?_; conv => whnf))
   repeat' ((first | (intro hlq; (try simp only [SL] at hlq)) | refine Ks ?_ | refine Kq ?_ | refine Kt ?_ | ((refine Kh (fun hb => ?_) fun hb => ?_) <;> (try simp only [BL] at hb)) | refine Ka ?_ | refine Kb ?_ | refine Kc (hd := rfl) (e := ?_) | refine Kc (hd := icells_eq _) (e := ?_) | refine Kd (e := ?_) | refine Kl rfl ?_ | fail) <;> ((conv => whnf); repeat' (refine Z rfl ?_; conv => whnf)))
   all_goals first
    | (refine Done.mk ?_; rw [hres]; done)
    | (exfalso; omega)
    | (exfalso; simp only [List.length_cons, List.length_nil] at *; omega)
 | p1 :: p2 :: qs, hres =>
   dsimp only at hres
   refine enter tok {} Tryz.func29 rfl (by kernel_rfl) Tryz.ntmps29 (by simp) fun B0 W0 V0 lent g0 => ?_
   ((conv => whnf); repeat' (refine Z rfl ?_; conv => whnf))
   repeat' ((first | (intro hlq; (try simp only [SL] at hlq)) | refine Ks ?_ | refine Kq ?_ | refine Kt ?_ | ((refine Kh (fun hb => ?_) fun hb => ?_) <;> (try simp only [BL] at hb)) | refine Ka ?_ | refine Kb ?_ | refine Kc (hd := rfl) (e := ?_) | refine Kc (hd := icells_eq _) (e := ?_) | refine Kd (e := ?_) | refine Kl rfl ?_ | fail) <;> ((conv => whnf); repeat' (refine Z rfl ?_; conv => whnf)))
   all_goals first
    | (refine Done.mk ?_; rw [hres]; done)
    | (exfalso; omega)
    | (exfalso; simp only [List.length_cons, List.length_nil] at *; omega)
theorem condText_bad (k : Nat) (c : Cond) (dd : Int) (hd : dd + 1 = 8 - (k : Int)) (hk1 : ¬ c.kind = 1) (hk4 : ¬ c.kind = 4) (hv : ¬ ((c.kind = 2 ∨ c.kind = 3) ∧ (2 ≤ c.parts.length ∧ c.parts.length ≤ 16) ∧ c.var = 0 ∧ c.n = 0)) : Meets Tryz.prog 29 [c.d, iD dd] fun r => r = .tup [.str [], bD false] := by
 refine enter tok {} Tryz.func29 rfl (by kernel_rfl) Tryz.ntmps29 (by simp) fun B0 W0 V0 lent g0 => ?_
 ((conv => whnf); repeat' (refine Z rfl ?_; conv => whnf))
 repeat' ((first | (intro hlq; (try simp only [SL] at hlq)) | refine Ks ?_ | refine Kq ?_ | refine Kt ?_ | ((refine Kh (fun hb => ?_) fun hb => ?_) <;> (try simp only [BL] at hb)) | refine Ka ?_ | refine Kb ?_ | refine Kc (hd := rfl) (e := ?_) | refine Kc (hd := icells_eq _) (e := ?_) | refine Kd (e := ?_) | refine Kl rfl ?_ | fail) <;> ((conv => whnf); repeat' (refine Z rfl ?_; conv => whnf)))
 all_goals first
  | exact Done.mk rfl
  | (exfalso; omega)
theorem joinW_step (w : List UInt8) (T : Cond → List UInt8) (ps : List Cond) (i : Nat) (hi : i < ps.length) :
 joinW w ((ps.take (i + 1)).map fun p => par (T p)) = if i = 0 then [] ++ ([40] ++ T ps[i] ++ [41]) else joinW w ((ps.take i).map fun p => par (T p)) ++ w ++ ([40] ++ T ps[i] ++ [41]) := by
 rw [List.take_succ_eq_append_getElem hi, List.map_append, List.map_singleton]
 split
 · rename_i e
   subst e
   simp [joinW]
 · rename_i e
   rw [joinW_snoc _ _ _ (by
    intro h
    have := congrArg List.length h
    simp only [List.length_map, List.length_take, List.length_nil] at this
    omega)]
   simp
theorem condText_join (k : Nat) (c : Cond) (dd : Int) (hd : dd + 1 = 8 - (k : Int)) (ih : ∀ c : Cond, Meets Tryz.prog 29 [c.d, iD (dd + 1)] fun r => r = .tup [.str (cTx k c).1, bD (cTx k c).2]) (hle : ∀ p : Cond, (cTx k p).1.length ≤ 171798691840) (hk23 : c.kind = 2 ∨ c.kind = 3)
 (hv : 2 ≤ c.parts.length ∧ c.parts.length ≤ 16) (hv0 : c.var = 0) (hn0 : c.n = 0) (res : List UInt8 × Bool)
 (hres : res = if c.parts.all (fun p => (cTx k p).2) = true then (joinW (if c.kind = 3 then orW else andW) (c.parts.map fun p => par (cTx k p).1), true) else ([], false)) : Meets Tryz.prog 29 [c.d, iD dd] fun r => r = .tup [.str res.1, bD res.2] := by
 obtain hk | hk := hk23
 · rw [show (if c.kind = 3 then orW else andW) = andW from if_neg (by omega)] at hres
   refine enter tok {} Tryz.func29 rfl (by kernel_rfl) Tryz.ntmps29 (by simp) fun B0 W0 V0 lent g0 => ?_
   ((conv => whnf); repeat' (refine Z rfl ?_; conv => whnf))
   repeat' ((first | (intro hlq; (try simp only [SL] at hlq)) | refine Ks ?_ | refine Kq ?_ | refine Kt ?_ | ((refine Kh (fun hb => ?_) fun hb => ?_) <;> (try simp only [BL] at hb)) | refine Ka ?_ | refine Kb ?_ | refine Kc (hd := rfl) (e := ?_) | refine Kc (hd := icells_eq _) (e := ?_) | refine Kd (e := ?_) | refine Kl rfl ?_ | fail) <;> ((conv => whnf); repeat' (refine Z rfl ?_; conv => whnf)))
   all_goals try (exfalso; omega)
   have hL : ∀ i, i ≤ c.parts.length → (joinW andW ((c.parts.take i).map fun p => par (cTx k p).1)).length ≤ 2748779069600 := by
    intro i hi
    have h := joinW_len andW 171798691842 ((c.parts.take i).map fun p => par (cTx k p).1) (by
     intro x hx
     obtain ⟨p, _, rfl⟩ := List.mem_map.1 hx
     have := hle p
     simp only [List.length_append, List.length_cons, List.length_nil]
     omega)
    rw [List.length_map, List.length_take, show (andW : List UInt8).length = 5 from rfl] at h
    have := Nat.mul_le_mul_right (171798691842 + 5) (show min i c.parts.length ≤ 16 by omega)
    omega
   refine loop_upd tok {} [] (X := Nat) (fun i => [(122, iB i), (10, .d (.str (joinW andW ((c.parts.take i).map fun p => par (cTx k p).1))))]) (fun _ => []) [] (fun i => i ≤ c.parts.length ∧ ∀ p ∈ c.parts.take i, (cTx k p).2 = true) (fun i => c.parts.length - i) 0 ?_
   ((conv => whnf); repeat' (refine Z rfl ?_; conv => whnf))
   refine And.intro ?_ ⟨⟨by omega, by simp⟩, fun i hΦ => ?_⟩
   · exact Kr
   obtain ⟨hi, hall⟩ := hΦ
   have hLi := hL i hi
   ((conv => whnf); repeat' (refine Z rfl ?_; conv => whnf))
   refine ⟨fun h1 => ?_, fun h1 => ?_⟩ <;> (try simp only [BL] at h1) <;> ((conv => whnf); repeat' (refine Z rfl ?_; conv => whnf))
   · have h1' : i < c.parts.length := by omega
     have hp := ih c.parts[i]
     have hpl := hle c.parts[i]
     have hst := joinW_step andW (fun p => (cTx k p).1) c.parts i h1'
     have hnew : (cTx k c.parts[i]).2 = true → ∀ p ∈ c.parts.take (i + 1), (cTx k p).2 = true := by
      intro ht p hp
      rw [List.take_succ_eq_append_getElem h1'] at hp
      rcases List.mem_append.1 hp with h | h
      · exact hall p h
      · rw [List.mem_singleton.1 h]; exact ht
     have hbad : (cTx k c.parts[i]).2 = false → res = ([], false) := by
      intro hf
      rw [hres, if_neg]
      intro ha
      have := List.all_eq_true.1 ha c.parts[i] (List.getElem_mem h1')
      rw [hf] at this
      cases this
     repeat' ((first | (intro hlq; (try simp only [SL] at hlq)) | refine Meets.k (hp) ?_ | refine Ks ?_ | refine Kq ?_ | refine Kt ?_ | ((refine Kh (fun hb => ?_) fun hb => ?_) <;> (try simp only [BL] at hb)) | refine Ka ?_ | refine Kb ?_ | refine Kc (hd := rfl) (e := ?_) | refine Kc (hd := Cond.cells_eq _) (e := ?_) | refine Kd (e := ?_) | refine Kl rfl ?_ | fail) <;> ((conv => whnf); repeat' (refine Z rfl ?_; conv => whnf)))
     all_goals first
      | (exfalso; omega)
      | (refine Done.mk ?_; rw [hbad (by assumption)]; done)
      | (rw [if_neg (by omega)] at hst; refine ⟨⟨i + 1, ?_, ⟨by omega, hnew (by assumption)⟩, by omega⟩⟩; (repeat' (first | exact True.intro | exact rfl | refine And.intro ?_ ?_)) <;> exact congrArg D.str hst.symm)
      | (have e0 : i = 0 := by omega
         subst e0
         rw [if_pos rfl] at hst
         refine ⟨⟨0 + 1, ?_, ⟨by omega, hnew (by assumption)⟩, by omega⟩⟩; (repeat' (first | exact True.intro | exact rfl | refine And.intro ?_ ?_)) <;> exact congrArg D.str hst.symm)
      | trace_state
   · refine Done.mk ?_
     rw [List.take_of_length_le (by omega)] at hall ⊢
     rw [hres, if_pos (List.all_eq_true.2 hall)]
 · rw [show (if c.kind = 3 then orW else andW) = orW from if_pos hk] at hres
   refine enter tok {} Tryz.func29 rfl (by kernel_rfl) Tryz.ntmps29 (by simp) fun B0 W0 V0 lent g0 => ?_
   ((conv => whnf); repeat' (refine Z rfl ?_; conv => whnf))
   repeat' ((first | (intro hlq; (try simp only [SL] at hlq)) | refine Ks ?_ | refine Kq ?_ | refine Kt ?_ | ((refine Kh (fun hb => ?_) fun hb => ?_) <;> (try simp only [BL] at hb)) | refine Ka ?_ | refine Kb ?_ | refine Kc (hd := rfl) (e := ?_) | refine Kc (hd := icells_eq _) (e := ?_) | refine Kd (e := ?_) | refine Kl rfl ?_ | fail) <;> ((conv => whnf); repeat' (refine Z rfl ?_; conv => whnf)))
   all_goals try (exfalso; omega)
   have hL : ∀ i, i ≤ c.parts.length → (joinW orW ((c.parts.take i).map fun p => par (cTx k p).1)).length ≤ 2748779069600 := by
    intro i hi
    have h := joinW_len orW 171798691842 ((c.parts.take i).map fun p => par (cTx k p).1) (by
     intro x hx
     obtain ⟨p, _, rfl⟩ := List.mem_map.1 hx
     have := hle p
     simp only [List.length_append, List.length_cons, List.length_nil]
     omega)
    rw [List.length_map, List.length_take, show (orW : List UInt8).length = 4 from rfl] at h
    have := Nat.mul_le_mul_right (171798691842 + 4) (show min i c.parts.length ≤ 16 by omega)
    omega
   refine loop_upd tok {} [] (X := Nat) (fun i => [(122, iB i), (10, .d (.str (joinW orW ((c.parts.take i).map fun p => par (cTx k p).1))))]) (fun _ => []) [] (fun i => i ≤ c.parts.length ∧ ∀ p ∈ c.parts.take i, (cTx k p).2 = true) (fun i => c.parts.length - i) 0 ?_
   ((conv => whnf); repeat' (refine Z rfl ?_; conv => whnf))
   refine And.intro ?_ ⟨⟨by omega, by simp⟩, fun i hΦ => ?_⟩
   · exact Kr
   obtain ⟨hi, hall⟩ := hΦ
   have hLi := hL i hi
   ((conv => whnf); repeat' (refine Z rfl ?_; conv => whnf))
   refine ⟨fun h1 => ?_, fun h1 => ?_⟩ <;> (try simp only [BL] at h1) <;> ((conv => whnf); repeat' (refine Z rfl ?_; conv => whnf))
   · have h1' : i < c.parts.length := by omega
     have hp := ih c.parts[i]
     have hpl := hle c.parts[i]
     have hst := joinW_step orW (fun p => (cTx k p).1) c.parts i h1'
     have hnew : (cTx k c.parts[i]).2 = true → ∀ p ∈ c.parts.take (i + 1), (cTx k p).2 = true := by
      intro ht p hp
      rw [List.take_succ_eq_append_getElem h1'] at hp
      rcases List.mem_append.1 hp with h | h
      · exact hall p h
      · rw [List.mem_singleton.1 h]; exact ht
     have hbad : (cTx k c.parts[i]).2 = false → res = ([], false) := by
      intro hf
      rw [hres, if_neg]
      intro ha
      have := List.all_eq_true.1 ha c.parts[i] (List.getElem_mem h1')
      rw [hf] at this
      cases this
     repeat' ((first | (intro hlq; (try simp only [SL] at hlq)) | refine Meets.k (hp) ?_ | refine Ks ?_ | refine Kq ?_ | refine Kt ?_ | ((refine Kh (fun hb => ?_) fun hb => ?_) <;> (try simp only [BL] at hb)) | refine Ka ?_ | refine Kb ?_ | refine Kc (hd := rfl) (e := ?_) | refine Kc (hd := Cond.cells_eq _) (e := ?_) | refine Kd (e := ?_) | refine Kl rfl ?_ | fail) <;> ((conv => whnf); repeat' (refine Z rfl ?_; conv => whnf)))
     all_goals first
      | (exfalso; omega)
      | (refine Done.mk ?_; rw [hbad (by assumption)]; done)
      | (rw [if_neg (by omega)] at hst; refine ⟨⟨i + 1, ?_, ⟨by omega, hnew (by assumption)⟩, by omega⟩⟩; (repeat' (first | exact True.intro | exact rfl | refine And.intro ?_ ?_)) <;> exact congrArg D.str hst.symm)
      | (have e0 : i = 0 := by omega
         subst e0
         rw [if_pos rfl] at hst
         refine ⟨⟨0 + 1, ?_, ⟨by omega, hnew (by assumption)⟩, by omega⟩⟩; (repeat' (first | exact True.intro | exact rfl | refine And.intro ?_ ?_)) <;> exact congrArg D.str hst.symm)
      | trace_state
   · refine Done.mk ?_
     rw [List.take_of_length_le (by omega)] at hall ⊢
     rw [hres, if_pos (List.all_eq_true.2 hall)]
end Go.Proofs.YtaopegkpjhkooaaGreatDoor.Dx
