/- typing: within, conds, steps, parts. -/
import Derived.Test.YteckbkljaneppaaGreatDoorMm
import Derived.Test.YteckbkljaneppaaGreatDoorMl
set_option linter.all false
namespace Go.Proofs.YteckbkljaneppaaGreatDoor.Dx
open Go Go.RowKit
set_option maxRecDepth 100000
set_option maxHeartbeats 4000000
theorem within_meets (lo hi : Int) (ns : List Int) : Meets Tryz.prog 111 [iD lo, iD hi, .sl (ns.map icells)] fun d => d = bD (ns.all (inR lo hi)) := by
 refine enter tok {} Tryz.func111 rfl (by kernel_rfl) Tryz.ntmps111 (by simp) fun B0 W0 V0 lent g0 => ?_
 ((conv => whnf); repeat' (refine Z rfl ?_; conv => whnf))
 refine (contains_int ns 159 [] [.ptr [iD lo] 0, .ptr [iD hi] 0] (fun n => !inR lo hi n) fun n _ => ?_).mono fun d hd => ?_
 · refine enter tok {} Tryz.func159 rfl (by kernel_rfl) Tryz.ntmps159 (by simp) fun B0 W0 V0 lent g0 => ?_
   ((conv => whnf); repeat' (refine Z rfl ?_; conv => whnf))
   refine ⟨fun h => ?_, fun h => ?_⟩ <;> (try simp only [BL] at h) <;> ((conv => whnf); repeat' (refine Z rfl ?_; conv => whnf))
   · refine ⟨congrArg bD ?_⟩
     unfold inR; by_cases a : lo ≤ n <;> by_cases b : n ≤ hi <;> simp [a, b] <;> omega
   · refine ⟨congrArg bD ?_⟩
     unfold inR; by_cases a : lo ≤ n <;> by_cases b : n ≤ hi <;> simp [a, b] <;> omega
 subst hd
 ((conv => whnf); repeat' (refine Z rfl ?_; conv => whnf))
 refine ⟨?_⟩
 rw [← List.not_all_eq_any_not, Bool.not_not]
theorem map_take_succ {α β : Type} (f : α → β) {xs : List α} {i : Nat} (h : i < xs.length) : (xs.take i).map f ++ [f xs[i]] = (xs.take (i + 1)).map f := by
 rw [List.take_succ_eq_append_getElem h, List.map_append]; rfl
theorem conds_meets (cs : List Cond) (hn : cs.length ≤ 1048576) : Meets Tryz.prog 222 [.sl (cs.map Cond.cells)] fun d => d = .sl ((formsC cs).map Form.cells) := by
 refine enter tok {} Tryz.func222 rfl (by kernel_rfl) Tryz.ntmps222 (by simp) fun B0 W0 V0 lent g0 => ?_
 ((conv => whnf); repeat' (refine Z rfl ?_; conv => whnf))
 repeat' ((first | (intro hlq; (try simp only [SL] at hlq)) | refine Ka ?_ | refine Kb ?_ | refine Kc (hd := rfl) (e := ?_) | refine Kc (hd := Cond.cells_eq _) (e := ?_) | refine Kd (e := ?_) | refine Kl rfl ?_ | fail) <;> ((conv => whnf); repeat' (refine Z rfl ?_; conv => whnf)))
 refine loop_upd tok {} [(.inl 2, 2, 198, 1)] (X := Nat × List (List D)) (fun x => [(7, iB x.1), (2, .own 2)]) (fun x => [(2, .sl ⟨198, 1, x.2, true⟩)]) [] (fun x => x.1 ≤ cs.length ∧ x.2 = (cs.take x.1).map fun c => Form.cells (.ofC c)) (fun x => cs.length - x.1) (0, []) ?_
 ((conv => whnf); repeat' (refine Z rfl ?_; conv => whnf))
 refine ⟨by simp, ?_⟩
 ((conv => whnf); repeat' (refine Z rfl ?_; conv => whnf))
 refine And.intro ?_ ⟨⟨by omega, by simp⟩, fun x hΦ => ?_⟩
 · exact Kr
 obtain ⟨i, xs⟩ := x
 obtain ⟨hi, hx⟩ := hΦ
 dsimp only at hi hx
 ((conv => whnf); repeat' (refine Z rfl ?_; conv => whnf))
 refine ⟨fun h1 => ?_, fun h1 => ?_⟩ <;> (try simp only [BL] at h1) <;> ((conv => whnf); repeat' (refine Z rfl ?_; conv => whnf))
 · have h1' : i < cs.length := by omega
   repeat' ((first | (intro hlq; (try simp only [SL] at hlq)) | refine Ka ?_ | refine Kb ?_ | refine Kc (hd := rfl) (e := ?_) | refine Kc (hd := Cond.cells_eq _) (e := ?_) | refine Kd (e := ?_) | refine Kl rfl ?_ | fail) <;> ((conv => whnf); repeat' (refine Z rfl ?_; conv => whnf)))
   refine ⟨by simp, ?_⟩
   ((conv => whnf); repeat' (refine Z rfl ?_; conv => whnf))
   refine ⟨fun h1 h2 => ?_, ?_⟩
   · have : xs.length = i := by rw [hx]; simp; omega
     simp only [maxLen, List.length_singleton] at *
     omega
   ((conv => whnf); repeat' (refine Z rfl ?_; conv => whnf))
   repeat' ((first | (intro hlq; (try simp only [SL] at hlq)) | refine Ka ?_ | refine Kb ?_ | refine Kc (hd := rfl) (e := ?_) | refine Kc (hd := Cond.cells_eq _) (e := ?_) | refine Kd (e := ?_) | refine Kl rfl ?_ | fail) <;> ((conv => whnf); repeat' (refine Z rfl ?_; conv => whnf)))
   refine ⟨⟨(i + 1, xs ++ [Form.cells (.ofC cs[i])]), ?_, ⟨by dsimp only; omega, by dsimp only; rw [hx]; exact map_take_succ (fun c => Form.cells (.ofC c)) h1'⟩, by dsimp only; omega⟩⟩
   repeat' (first | exact True.intro | exact rfl | refine And.intro ?_ ?_)
 · skip
   refine ⟨?_⟩
   have : cs.take i = cs := List.take_of_length_le (by omega)
   rw [this] at hx
   rw [hx, formsC, List.map_map]; rfl
theorem steps_own (cs : List Step) (hn : cs.length ≤ 1048576) : MeetsO Tryz.prog 88 [.sl (cs.map Step.cells)] 198 1 fun xs => xs = (formsS cs).map Form.cells := by
 refine MeetsO.of 2 ?_
 refine enterR tok {} Tryz.func88 rfl (by kernel_rfl) Tryz.ntmps88 (by simp) fun B0 W0 V0 lent g0 => ?_
 ((conv => whnf); repeat' (refine Z rfl ?_; conv => whnf))
 repeat' ((first | (intro hlq; (try simp only [SL] at hlq)) | refine Ka ?_ | refine Kb ?_ | refine Kc (hd := rfl) (e := ?_) | refine Kc (hd := Cond.cells_eq _) (e := ?_) | refine Kd (e := ?_) | refine Kl rfl ?_ | fail) <;> ((conv => whnf); repeat' (refine Z rfl ?_; conv => whnf)))
 refine loop_upd tok {} [(.inl 2, 2, 198, 1)] (X := Nat × List (List D)) (fun x => [(7, iB x.1), (2, .own 2)]) (fun x => [(2, .sl ⟨198, 1, x.2, true⟩)]) [] (fun x => x.1 ≤ cs.length ∧ x.2 = (cs.take x.1).map fun c => Form.cells (.ofS c)) (fun x => cs.length - x.1) (0, []) ?_
 ((conv => whnf); repeat' (refine Z rfl ?_; conv => whnf))
 refine ⟨by simp, ?_⟩
 ((conv => whnf); repeat' (refine Z rfl ?_; conv => whnf))
 refine And.intro ?_ ⟨⟨by omega, by simp⟩, fun x hΦ => ?_⟩
 · exact Kr
 obtain ⟨i, xs⟩ := x
 obtain ⟨hi, hx⟩ := hΦ
 dsimp only at hi hx
 ((conv => whnf); repeat' (refine Z rfl ?_; conv => whnf))
 refine ⟨fun h1 => ?_, fun h1 => ?_⟩ <;> (try simp only [BL] at h1) <;> ((conv => whnf); repeat' (refine Z rfl ?_; conv => whnf))
 · have h1' : i < cs.length := by omega
   repeat' ((first | (intro hlq; (try simp only [SL] at hlq)) | refine Ka ?_ | refine Kb ?_ | refine Kc (hd := rfl) (e := ?_) | refine Kc (hd := Step.cells_eq _) (e := ?_) | refine Kd (e := ?_) | refine Kl rfl ?_ | fail) <;> ((conv => whnf); repeat' (refine Z rfl ?_; conv => whnf)))
   refine ⟨by simp, ?_⟩
   ((conv => whnf); repeat' (refine Z rfl ?_; conv => whnf))
   refine ⟨fun h1 h2 => ?_, ?_⟩
   · have : xs.length = i := by rw [hx]; simp; omega
     simp only [maxLen, List.length_singleton] at *
     omega
   ((conv => whnf); repeat' (refine Z rfl ?_; conv => whnf))
   repeat' ((first | (intro hlq; (try simp only [SL] at hlq)) | refine Ka ?_ | refine Kb ?_ | refine Kc (hd := rfl) (e := ?_) | refine Kc (hd := Cond.cells_eq _) (e := ?_) | refine Kd (e := ?_) | refine Kl rfl ?_ | fail) <;> ((conv => whnf); repeat' (refine Z rfl ?_; conv => whnf)))
   refine ⟨⟨(i + 1, xs ++ [Form.cells (.ofS cs[i])]), ?_, ⟨by dsimp only; omega, by dsimp only; rw [hx]; exact map_take_succ (fun c => Form.cells (.ofS c)) h1'⟩, by dsimp only; omega⟩⟩
   repeat' (first | exact True.intro | exact rfl | refine And.intro ?_ ?_)
 · refine ⟨[(2, .sl ⟨198, 1, xs, true⟩)], .own 2, ?_, ⟨?_⟩⟩
   · exact Kr
   have : cs.take i = cs := List.take_of_length_le (by omega)
   rw [this] at hx
   exact ⟨_, rfl, rfl, by rw [hx, formsS, List.map_map]; rfl⟩
end Go.Proofs.YteckbkljaneppaaGreatDoor.Dx
/- typing: isZero, parts, valid. -/
namespace Go.Proofs.YteckbkljaneppaaGreatDoor.Dx
open Go Go.RowKit
set_option maxRecDepth 100000
set_option maxHeartbeats 4000000
theorem isZero_meets (c : Cond) : Meets Tryz.prog 187 [c.d] fun d => d = bD c.isZero := by
 refine enter tok {} Tryz.func187 rfl (by kernel_rfl) Tryz.ntmps187 (by simp) fun B0 W0 V0 lent g0 => ?_
 ((conv => whnf); repeat' (refine Z rfl ?_; conv => whnf))
 repeat' ((first | (intro hlq; (try simp only [SL] at hlq)) | ((refine Kh (fun hb => ?_) fun hb => ?_) <;> (try simp only [BL] at hb)) | refine Ka ?_ | refine Kb ?_ | refine Kc (hd := rfl) (e := ?_) | refine Kc (hd := Cond.cells_eq _) (e := ?_) | refine Kd (e := ?_) | refine Kl rfl ?_ | fail) <;> ((conv => whnf); repeat' (refine Z rfl ?_; conv => whnf)))
 all_goals refine ⟨congrArg bD ?_⟩
 all_goals simp_all [Cond.isZero]
theorem partsC_meets (c : Cond) (hn : c.parts.length ≤ 1048576) : Meets Tryz.prog 209 [c.d] fun d => d = .sl ((formsC c.parts).map Form.cells) := by
 refine enter tok {} Tryz.func209 rfl (by kernel_rfl) Tryz.ntmps209 (by simp) fun B0 W0 V0 lent g0 => ?_
 ((conv => whnf); repeat' (refine Z rfl ?_; conv => whnf))
 refine (conds_meets c.parts hn).mono fun d hd => ?_
 subst hd
 ((conv => whnf); repeat' (refine Z rfl ?_; conv => whnf))
 exact ⟨rfl⟩
theorem steps_meets (cs : List Step) (hn : cs.length ≤ 1048576) : Meets Tryz.prog 88 [.sl (cs.map Step.cells)] fun d => d = .sl ((formsS cs).map Form.cells) :=
 (steps_own cs hn).data.mono fun d ⟨xs, h1, h2⟩ => by rw [h1, h2]
theorem partsS_meets (s : Step) (hn : s.th.length ≤ 1048576 ∧ s.el.length ≤ 1048576) : Meets Tryz.prog 210 [s.d] fun d => d = .sl ((formsS s.th ++ formsS s.el).map Form.cells) := by
 refine enter tok {rs := [6]} Tryz.func210 rfl (by kernel_rfl) Tryz.ntmps210 (by simp) fun B0 W0 V0 lent g0 => ?_
 ((conv => whnf); repeat' (refine Y {rs := [6]} rfl ?_; conv => whnf))
 refine draw_rule tok (cf := {rs := [6]}) (by kernel_rfl) [.p 0, .p 1, .p 2, .p 4, .p 5, .p 6, .s 3 [2,1,0], .s 7 [6,5,4], .s 8 [], .p 9] (by kernel_rfl) ?_
 ((conv => whnf); repeat' (refine Y {rs := [6]} rfl ?_; conv => whnf))
 refine ⟨[], _, ⟨?_, trivial⟩, ((steps_own s.th hn.1).own 6).mono ?_⟩
 · exact Kr
 rintro o O' ⟨xs, rfl, rfl, rfl⟩
 ((conv => whnf); repeat' (refine Y {rs := [6]} rfl ?_; conv => whnf))
 repeat' ((first | (intro hlq; (try simp only [SL] at hlq)) | refine Ka ?_ | refine Kb ?_ | refine Kc (hd := rfl) (e := ?_) | refine Kc (hd := Cond.cells_eq _) (e := ?_) | refine Kd (e := ?_) | refine Kl rfl ?_ | fail) <;> ((conv => whnf); repeat' (refine Y {rs := [6]} rfl ?_; conv => whnf)))
 refine (steps_meets s.el hn.2).mono fun d hd => ?_
 subst hd
 ((conv => whnf); repeat' (refine Y {rs := [6]} rfl ?_; conv => whnf))
 refine ⟨fun ds hds => by obtain ⟨f, _, rfl⟩ := List.mem_map.1 hds; rfl, ?_⟩
 ((conv => whnf); repeat' (refine Y {rs := [6]} rfl ?_; conv => whnf))
 refine ⟨fun _ _ => by simp [formsS]; omega, ?_⟩
 ((conv => whnf); repeat' (refine Y {rs := [6]} rfl ?_; conv => whnf))
 repeat' ((first | (intro hlq; (try simp only [SL] at hlq)) | refine Ka ?_ | refine Kb ?_ | refine Kc (hd := rfl) (e := ?_) | refine Kc (hd := Cond.cells_eq _) (e := ?_) | refine Kd (e := ?_) | refine Kl rfl ?_ | fail) <;> ((conv => whnf); repeat' (refine Y {rs := [6]} rfl ?_; conv => whnf)))
 refine ⟨?_⟩
 rw [List.map_append]
theorem methC : Meth Tryz.prog 136 "stopwatch/typing.parts" 209 := fun W x => by kernel_rfl
theorem methS : Meth Tryz.prog 202 "stopwatch/typing.parts" 210 := fun W x => by kernel_rfl
theorem invalid_of {f : Form} (h : Meets Tryz.prog 189 [f.d] fun d => d = bD f.valid) : Meets Tryz.prog 152 [f.d] fun d => d = bD (!f.valid) := by
 refine enter tok {} Tryz.func152 rfl (by kernel_rfl) Tryz.ntmps152 (by simp) fun B0 W0 V0 lent g0 => ?_
 ((conv => whnf); repeat' (refine Z rfl ?_; conv => whnf))
 refine h.mono fun d hd => ?_
 subst hd
 ((conv => whnf); repeat' (refine Z rfl ?_; conv => whnf))
 exact ⟨rfl⟩
theorem anyF {l : List Form} : (l.any fun f => !f.valid) = !l.all Form.valid := by rw [List.not_all_eq_any_not]
theorem invalids {l : List Form} (hv : ∀ f ∈ l, Meets Tryz.prog 189 [f.d] fun d => d = bD f.valid) : Meets Tryz.prog 151 [.sl (l.map Form.cells), .fn 152 [] []] fun d => d = bD (!l.all Form.valid) := by
 rw [← anyF]
 exact contains_form l 152 [] [] (fun f => !f.valid) fun f hf => invalid_of (hv f hf)
theorem valid_walkC (c : Cond) (hok : c.ok) (hv : ∀ f ∈ formsC c.parts, Meets Tryz.prog 189 [f.d] fun d => d = bD f.valid) : Meets Tryz.prog 189 [(Form.ofC c).d] fun d => d = bD (Form.ofC c).valid := by
 have hl := (Cond.ok_iff.1 hok).1
 have hinv := invalids hv
 refine enter tok {} Tryz.func189 rfl (by kernel_rfl) Tryz.ntmps189 (by simp) fun B0 W0 V0 lent g0 => ?_
 ((conv => whnf); repeat' (refine Z rfl ?_; conv => whnf))
 repeat' ((first | (intro hlq; (try simp only [SL] at hlq)) | refine Meets.k (within_meets _ _ [_]) ?_ | refine Meets.k (partsC_meets c hl) ?_ | refine Meets.k (hinv) ?_ | ((refine Kh (fun hb => ?_) fun hb => ?_) <;> (try simp only [BL] at hb)) | refine Ka ?_ | refine Kb ?_ | refine Kc (hd := rfl) (e := ?_) | refine Kc (hd := Cond.cells_eq _) (e := ?_) | refine Kd (e := ?_) | refine Kl rfl ?_ | fail) <;> ((conv => whnf); repeat' (refine Z rfl ?_; conv => whnf)))
 all_goals clear hinv hv hok
 all_goals refine ⟨congrArg bD ?_⟩
 all_goals rw [show (Form.ofC c).valid = c.valid from rfl, Cond.valid_eq]
 all_goals try rw [all_formsC]
 all_goals simp_all
 all_goals omega
theorem valid_walkS (s : Step) (hok : s.ok) (hc : Meets Tryz.prog 189 [(Form.ofC s.cond).d] fun d => d = bD (Form.ofC s.cond).valid) (hv : ∀ f ∈ formsS s.th ++ formsS s.el, Meets Tryz.prog 189 [f.d] fun d => d = bD f.valid) : Meets Tryz.prog 189 [(Form.ofS s).d] fun d => d = bD (Form.ofS s).valid := by
 have ho := Step.ok_iff.1 hok
 have hinv := invalids hv
 refine enter tok {} Tryz.func189 rfl (by kernel_rfl) Tryz.ntmps189 (by simp) fun B0 W0 V0 lent g0 => ?_
 ((conv => whnf); repeat' (refine Z rfl ?_; conv => whnf))
 repeat' ((first | (intro hlq; (try simp only [SL] at hlq)) | refine Meets.k (within_meets _ _ [_]) ?_ | refine Meets.k (isZero_meets s.cond) ?_ | refine Meets.k (partsS_meets s ⟨ho.2.1.1, ho.2.2.1⟩) ?_ | refine Meets.k (hinv) ?_ | refine Meets.k (hc) ?_ | ((refine Kh (fun hb => ?_) fun hb => ?_) <;> (try simp only [BL] at hb)) | refine Ka ?_ | refine Kb ?_ | refine Kc (hd := rfl) (e := ?_) | refine Kc (hd := Cond.cells_eq _) (e := ?_) | refine Kd (e := ?_) | refine Kl rfl ?_ | fail) <;> ((conv => whnf); repeat' (refine Z rfl ?_; conv => whnf)))
 all_goals clear hinv hv hok ho hc
 all_goals refine ⟨congrArg bD ?_⟩
 all_goals rw [show (Form.ofS s).valid = s.valid from rfl, Step.valid_eq]
 all_goals try rw [List.all_append, all_formsS, all_formsS]
 all_goals simp_all [formsS, Form.valid]
 all_goals first | omega | (rw [Bool.eq_iff_iff]; simp only [decide_eq_true_eq, Bool.and_eq_true, ← List.length_eq_zero_iff]; omega)
theorem valid_meets (f : Form) (hok : f.ok) : Meets Tryz.prog 189 [f.d] fun d => d = bD f.valid := by
 cases hf : f with
 | ofC c =>
   have hc : c.ok := by rw [hf] at hok; exact hok
   refine valid_walkC c hc fun g hg => valid_meets g (ok_formsC (Cond.ok_iff.1 hc).2 g hg)
 | ofS s =>
   have hs : s.ok := by rw [hf] at hok; exact hok
   have ho := Step.ok_iff.1 hs
   refine valid_walkS s hs (valid_meets (.ofC s.cond) ho.1) fun g hg => valid_meets g ?_
   rcases List.mem_append.1 hg with h | h
   · exact ok_formsS ho.2.1.2 g h
   · exact ok_formsS ho.2.2.2 g h
termination_by f.sz
decreasing_by
 · rw [hf]
   have := szF_mem hg
   rw [szF_C] at this
   have h2 := c.sz_eq
   simp only [Form.sz] at *
   omega
 · rw [hf]
   have h2 := s.sz_eq
   simp only [Form.sz] at *
   omega
 · rw [hf]
   have := szF_mem hg
   rw [szF_append, szF_S, szF_S] at this
   have h2 := s.sz_eq
   simp only [Form.sz] at *
   omega
end Go.Proofs.YteckbkljaneppaaGreatDoor.Dx
/- typing: counting forms. -/
namespace Go.Proofs.YteckbkljaneppaaGreatDoor.Dx
open Go Go.RowKit
set_option maxRecDepth 100000
set_option maxHeartbeats 4000000
mutual
def Cond.total : Cond → Nat
 | ⟨_, _, _, ps⟩ => 1 + Cond.totalL ps
def Cond.totalL : List Cond → Nat
 | [] => 0
 | c :: cs => c.total + Cond.totalL cs
end
mutual
def Cond.deep : Cond → Nat
 | ⟨_, _, _, ps⟩ => Cond.deepL ps
def Cond.deepL : List Cond → Nat
 | [] => 0
 | c :: cs => max (1 + c.deep) (Cond.deepL cs)
end
def Cond.num (c : Cond) : Nat := if c.isZero then 0 else c.total
def Cond.dok (c : Cond) : Bool := c.isZero || decide (c.deep ≤ 16)
mutual
def Step.nst : Step → Nat
 | ⟨_, _, _, t, e⟩ => 1 + (Step.nstL t + Step.nstL e)
def Step.nstL : List Step → Nat
 | [] => 0
 | c :: cs => c.nst + Step.nstL cs
end
mutual
def Step.ncd : Step → Nat
 | ⟨_, _, c, t, e⟩ => c.num + (Step.ncdL t + Step.ncdL e)
def Step.ncdL : List Step → Nat
 | [] => 0
 | c :: cs => c.ncd + Step.ncdL cs
end
mutual
def Step.deep : Step → Nat
 | ⟨_, _, _, t, e⟩ => max (Step.deepL t) (Step.deepL e)
def Step.deepL : List Step → Nat
 | [] => 0
 | c :: cs => max (1 + c.deep) (Step.deepL cs)
end
mutual
def Step.dok : Step → Bool
 | ⟨_, _, c, t, e⟩ => c.dok && (Step.dokL t && Step.dokL e)
def Step.dokL : List Step → Bool
 | [] => true
 | c :: cs => c.dok && Step.dokL cs
end
theorem Cond.total_eq (c : Cond) : c.total = 1 + Cond.totalL c.parts := by obtain ⟨k, v, n, ps⟩ := c; rfl
theorem Cond.deep_eq (c : Cond) : c.deep = Cond.deepL c.parts := by obtain ⟨k, v, n, ps⟩ := c; rfl
theorem Step.nst_eq (s : Step) : s.nst = 1 + (Step.nstL s.th + Step.nstL s.el) := by obtain ⟨k, b, c, t, e⟩ := s; rfl
theorem Step.ncd_eq (s : Step) : s.ncd = s.cond.num + (Step.ncdL s.th + Step.ncdL s.el) := by obtain ⟨k, b, c, t, e⟩ := s; rfl
theorem Step.deep_eq (s : Step) : s.deep = max (Step.deepL s.th) (Step.deepL s.el) := by obtain ⟨k, b, c, t, e⟩ := s; rfl
theorem Step.dok_eq (s : Step) : s.dok = (s.cond.dok && (Step.dokL s.th && Step.dokL s.el)) := by obtain ⟨k, b, c, t, e⟩ := s; rfl
def Form.nst : Form → Nat | .ofC _ => 0 | .ofS s => s.nst
def Form.ncd : Form → Nat | .ofC c => c.total | .ofS s => s.ncd
def Form.deep : Form → Nat | .ofC c => c.deep | .ofS s => s.deep
def Form.dok : Form → Bool | .ofC _ => true | .ofS s => s.dok
def stF : List Form → Nat | [] => 0 | f :: l => f.nst + stF l
def cdF : List Form → Nat | [] => 0 | f :: l => f.ncd + cdF l
def dpF : List Form → Nat | [] => 0 | f :: l => max (1 + f.deep) (dpF l)
def okF : List Form → Bool | [] => true | f :: l => f.dok && okF l
theorem stF_append (a b : List Form) : stF (a ++ b) = stF a + stF b := by induction a with | nil => simp [stF] | cons x a ih => simp [stF, ih]; omega
theorem cdF_append (a b : List Form) : cdF (a ++ b) = cdF a + cdF b := by induction a with | nil => simp [cdF] | cons x a ih => simp [cdF, ih]; omega
theorem dpF_append (a b : List Form) : dpF (a ++ b) = max (dpF a) (dpF b) := by induction a with | nil => simp [dpF] | cons x a ih => (simp [dpF, ih]; try omega)
theorem okF_append (a b : List Form) : okF (a ++ b) = (okF a && okF b) := by induction a with | nil => simp [okF] | cons x a ih => simp [okF, ih, Bool.and_assoc]
theorem F_C (cs : List Cond) : stF (formsC cs) = 0 ∧ cdF (formsC cs) = Cond.totalL cs ∧ dpF (formsC cs) = Cond.deepL cs ∧ okF (formsC cs) = true := by
 induction cs with
 | nil => simp [formsC, stF, cdF, dpF, okF, Cond.totalL, Cond.deepL]
 | cons c cs ih =>
   simp only [formsC, List.map_cons, stF, cdF, dpF, okF, Cond.totalL, Cond.deepL, Form.nst, Form.ncd, Form.deep, Form.dok] at ih ⊢
   obtain ⟨h1, h2, h3, h4⟩ := ih
   exact ⟨by omega, by omega, by omega, by simp [h4]⟩
theorem F_S (cs : List Step) : stF (formsS cs) = Step.nstL cs ∧ cdF (formsS cs) = Step.ncdL cs ∧ dpF (formsS cs) = Step.deepL cs ∧ okF (formsS cs) = Step.dokL cs := by
 induction cs with
 | nil => simp [formsS, stF, cdF, dpF, okF, Step.nstL, Step.ncdL, Step.deepL, Step.dokL]
 | cons c cs ih =>
   simp only [formsS, List.map_cons, stF, cdF, dpF, okF, Step.nstL, Step.ncdL, Step.deepL, Step.dokL, Form.nst, Form.ncd, Form.deep, Form.dok] at ih ⊢
   obtain ⟨h1, h2, h3, h4⟩ := ih
   exact ⟨by omega, by omega, by omega, by rw [h4]⟩
theorem dpF_pos {l : List Form} (h : l ≠ []) : 1 ≤ dpF l := by cases l with | nil => exact absurd rfl h | cons x l => simp only [dpF]; omega
def fitsF (l : List Form) (d s c : Int) : Bool := decide (l = []) || (decide (d + dpF l ≤ 17) && okF l && (decide (s + stF l ≤ 64) && decide (c + cdF l ≤ 256)))
structure Cnt (l : List Form) (d s0 c0 : Int) (i : Nat) (s c : Int) : Prop where
 le : i ≤ l.length
 st : s = s0 + stF (l.take i)
 cd : c = c0 + cdF (l.take i)
 fit : i = 0 ∨ (d + dpF (l.take i) ≤ 17 ∧ okF (l.take i) = true ∧ s ≤ 64 ∧ c ≤ 256)
theorem split_at {l : List Form} {i : Nat} (h : i < l.length) : l = l.take i ++ (l[i] :: l.drop (i + 1)) := by
 conv => lhs; rw [← List.take_append_drop i l, List.drop_eq_getElem_cons h]
theorem Cnt.next {l : List Form} {d s0 c0 : Int} {i : Nat} {s c : Int} (h : Cnt l d s0 c0 i s c) (hi : i < l.length) (hd : d ≤ 16) (h1 : d + (1 + l[i].deep : Nat) ≤ 17) (h2 : l[i].dok = true) (h3 : s + l[i].nst ≤ 64) (h4 : c + l[i].ncd ≤ 256) :
 Cnt l d s0 c0 (i + 1) (s + l[i].nst) (c + l[i].ncd) := by
 have ht : l.take (i + 1) = l.take i ++ [l[i]] := List.take_succ_eq_append_getElem hi
 obtain ⟨a, b, e, f⟩ := h
 refine ⟨by omega, by rw [ht, stF_append, b]; simp [stF]; omega, by rw [ht, cdF_append, e]; simp [cdF]; omega, .inr ⟨?_, ?_, h3, h4⟩⟩
 · rw [ht, dpF_append]
   rcases f with rfl | ⟨f, _⟩
   · simp [dpF]; omega
   · simp only [dpF]; omega
 · rw [ht, okF_append]
   rcases f with rfl | ⟨_, f, _⟩
   · simp [okF, h2]
   · simp [okF, h2, f]
theorem Cnt.bad {l : List Form} {d s0 c0 : Int} {i : Nat} {s c : Int} (h : Cnt l d s0 c0 i s c) (hi : i < l.length) (hb : fitsF [l[i]] d s c = false) : fitsF l d s0 c0 = false := by
 have hs := split_at hi
 obtain ⟨a, b, e, f⟩ := h
 have hne : l ≠ [] := by intro e; subst e; simp at hi
 have h1 : stF l = stF (l.take i) + (l[i].nst + stF (l.drop (i + 1))) := (congrArg stF hs).trans (stF_append _ _)
 have h2 : cdF l = cdF (l.take i) + (l[i].ncd + cdF (l.drop (i + 1))) := (congrArg cdF hs).trans (cdF_append _ _)
 have h3 : dpF l = max (dpF (l.take i)) (max (1 + l[i].deep) (dpF (l.drop (i + 1)))) := (congrArg dpF hs).trans (dpF_append _ _)
 have h4 : okF l = (okF (l.take i) && (l[i].dok && okF (l.drop (i + 1)))) := (congrArg okF hs).trans (okF_append _ _)
 cases hf : fitsF l d s0 c0 with
 | false => rfl
 | true =>
   simp only [fitsF, Bool.or_eq_true, decide_eq_true_eq, Bool.and_eq_true, hne, false_or] at hf
   obtain ⟨⟨g1, g2⟩, g3, g4⟩ := hf
   rw [h4] at g2
   simp only [Bool.and_eq_true] at g2
   have : fitsF [l[i]] d s c = true := by
    simp only [fitsF, Bool.or_eq_true, Bool.and_eq_true, decide_eq_true_eq]
    simp only [stF, cdF, dpF, okF]
    refine .inr ⟨⟨?_, ?_⟩, ?_, ?_⟩
    · omega
    · simp [g2.2.1]
    · omega
    · omega
   rw [this] at hb
   cases hb
theorem Cnt.all {l : List Form} {d s0 c0 : Int} {i : Nat} {s c : Int} (h : Cnt l d s0 c0 i s c) (hi : ¬ i < l.length) : fitsF l d s0 c0 = true ∧ s = s0 + stF l ∧ c = c0 + cdF l := by
 obtain ⟨a, b, e, f⟩ := h
 have ht : l.take i = l := List.take_of_length_le (by omega)
 rw [ht] at b e f
 refine ⟨?_, b, e⟩
 rcases f with rfl | ⟨f1, f2, f3, f4⟩
 · have : l = [] := List.eq_nil_of_length_eq_zero (by omega)
   simp [fitsF, this]
 · simp only [fitsF, Bool.or_eq_true, Bool.and_eq_true, decide_eq_true_eq]
   exact .inr ⟨⟨f1, f2⟩, by omega, by omega⟩
theorem fits_C {c : Cond} {d s n : Int} (hd : d ≤ 16) : fitsF [.ofC c] d s n = (decide (s ≤ 64) && decide (n + 1 ≤ 256) && fitsF (formsC c.parts) (d + 1) s (n + 1)) := by
 obtain ⟨h1, h2, h3, h4⟩ := F_C c.parts
 have hp : formsC c.parts ≠ [] → 1 ≤ dpF (formsC c.parts) := dpF_pos
 rw [h3] at hp
 rw [Bool.eq_iff_iff]
 simp only [fitsF, Bool.or_eq_true, Bool.and_eq_true, decide_eq_true_eq]
 simp only [stF, cdF, dpF, okF, Form.nst, Form.ncd, Form.deep, Form.dok, c.total_eq, c.deep_eq, h1, h2, h3, h4, Bool.or_eq_true, Bool.and_eq_true, decide_eq_true_eq, List.cons_ne_nil, false_or, and_true]
 by_cases he : formsC c.parts = []
 · rw [he] at h2 h3
   simp only [cdF, dpF] at h2 h3
   simp only [he, true_or, and_true]
   omega
 · have hp := hp he
   simp only [he, false_or]
   omega
theorem fits_S {x : Step} {d s n : Int} (hd : d ≤ 16) : fitsF [.ofS x] d s n = ((x.cond.isZero || fitsF [.ofC x.cond] 0 (s + 1) n) && (decide (s + 1 ≤ 64) && decide (n + x.cond.num ≤ 256) && fitsF (formsS x.th ++ formsS x.el) (d + 1) (s + 1) (n + x.cond.num))) := by
 obtain ⟨h1, h2, h3, h4⟩ := F_S x.th
 obtain ⟨k1, k2, k3, k4⟩ := F_S x.el
 have hp : formsS x.th ++ formsS x.el ≠ [] → 1 ≤ dpF (formsS x.th ++ formsS x.el) := dpF_pos
 have e1 := stF_append (formsS x.th) (formsS x.el)
 have e2 := cdF_append (formsS x.th) (formsS x.el)
 have e3 := dpF_append (formsS x.th) (formsS x.el)
 have e4 := okF_append (formsS x.th) (formsS x.el)
 rw [h1, k1] at e1
 rw [h2, k2] at e2
 rw [h3, k3] at e3
 rw [h4, k4] at e4
 rw [e3] at hp
 rw [Bool.eq_iff_iff]
 simp only [fitsF, Bool.or_eq_true, Bool.and_eq_true, decide_eq_true_eq]
 simp only [stF, cdF, dpF, okF, Form.nst, Form.ncd, Form.deep, Form.dok, x.nst_eq, x.ncd_eq, x.deep_eq, x.dok_eq, e1, e2, e3, e4, Cond.dok, Cond.num, Bool.or_eq_true, Bool.and_eq_true, decide_eq_true_eq, List.cons_ne_nil, false_or, and_true]
 by_cases hz : x.cond.isZero = true
 · simp only [hz, true_or, true_and, if_true]
   by_cases he : formsS x.th ++ formsS x.el = []
   · rw [he] at e1 e2 e3 e4
     simp only [stF, cdF, dpF, okF] at e1 e2 e3 e4
     have e4' := e4.symm
     simp only [Bool.and_eq_true] at e4'
     simp only [he, true_or, and_true, e4']
     omega
   · have hp := hp he
     simp only [he, false_or]
     constructor
     · rintro ⟨⟨a, b⟩, c, e⟩; exact ⟨⟨by omega, by omega⟩, ⟨by omega, b⟩, by omega, by omega⟩
     · rintro ⟨⟨a, b⟩, ⟨c, e⟩, f, g⟩; exact ⟨⟨by omega, e⟩, by omega, by omega⟩
 · have ht := x.cond.total_eq
   simp only [hz, false_or, if_false, Bool.false_eq_true]
   by_cases he : formsS x.th ++ formsS x.el = []
   · rw [he] at e1 e2 e3 e4
     simp only [stF, cdF, dpF, okF] at e1 e2 e3 e4
     have e4' := e4.symm
     simp only [Bool.and_eq_true] at e4'
     simp only [he, true_or, and_true, e4']
     omega
   · have hp := hp he
     simp only [he, false_or]
     constructor
     · rintro ⟨⟨a, b, b'⟩, c, e⟩; exact ⟨⟨by omega, by omega, by omega⟩, ⟨by omega, by omega⟩, ⟨by omega, b'⟩, by omega, by omega⟩
     · rintro ⟨⟨h, h', h''⟩, ⟨a, b⟩, ⟨c, e⟩, f, g⟩; exact ⟨⟨by omega, by omega, e⟩, by omega, by omega⟩
end Go.Proofs.YteckbkljaneppaaGreatDoor.Dx
