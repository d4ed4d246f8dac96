/- applied. -/
import Derived.Test.YtacclfgmgphljaaGreatRo
set_option linter.all false
namespace Go.Proofs.YtacclfgmgphljaaGreat.Dx
open Go Go.RowKit
set_option maxRecDepth 100000
set_option maxHeartbeats 8000000
theorem applied_meets (l : List Step) (x : Env) (acc : List Int) (hv : ∀ s ∈ l, s.valid = true) (hb : acc.length + Step.nstL l ≤ 1048576) :
 Meets Tryz.prog 87 [.sl (l.map Step.cells), x.d, .sl (acc.map icells)] fun d => d = .sl ((Step.appL x l acc).map icells) := by
 refine enter tok {} Tryz.func87 rfl (by kernel_rfl) Tryz.ntmps87 (by simp) fun B0 W0 V0 lent g0 => ?_
 ((conv => whnf); repeat' (refine Z rfl ?_; conv => whnf))
 refine loop_upd tok {} [] (X := Nat × List (List D)) (fun s => [(7, iB s.1), (2, .d (.sl s.2))]) (fun _ => []) [8, 29] (fun s => s.1 ≤ l.length ∧ ∃ ws, s.2 = ws.map icells ∧ Step.appL x (l.drop s.1) ws = Step.appL x l acc ∧ ws.length + Step.nstL (l.drop s.1) ≤ 1048576) (fun s => l.length - s.1) (0, acc.map icells) ?_
 ((conv => whnf); repeat' (refine Z rfl ?_; conv => whnf))
 refine And.intro ?_ ⟨⟨by omega, acc, rfl, by simp, by simpa using hb⟩, fun s hΦ => ?_⟩
 · exact Kr
 obtain ⟨i, xs⟩ := s
 obtain ⟨hi, ws, hxs, heq, hlb⟩ := hΦ
 dsimp only at hi hxs heq hlb
 ((conv => whnf); repeat' (refine Z rfl ?_; conv => whnf))
 repeat' ((first | (intro hlq; (try simp only [SL] at hlq)) | refine Ka ?_ | refine Kb ?_ | refine Kc (hd := rfl) (e := ?_) | refine Kc (hd := Cond.cells_eq _) (e := ?_) | refine Kd (e := ?_) | refine Kl rfl ?_ | fail) <;> ((conv => whnf); repeat' (refine Z rfl ?_; conv => whnf)))
 refine ⟨fun h1 => ?_, fun h1 => ?_⟩ <;> (try simp only [BL] at h1) <;> ((conv => whnf); repeat' (refine Z rfl ?_; conv => whnf))
 · have h1' : i < l.length := by omega
   have hvi := valid_kind (hv _ (List.getElem_mem h1'))
   have hap := app_eq x l[i] ws
   have hln := app_len x l[i] ws
   have hn1 := l[i].nst_eq
   have hxl : xs.length = ws.length := by rw [hxs, List.length_map]
   rw [nstL_drop h1'] at hlb
   rw [List.drop_eq_getElem_cons h1', Step.appL] at heq
   repeat' ((first | (intro hlq; (try simp only [SL] at hlq)) | refine Ka ?_ | refine Kb ?_ | refine Kc (hd := rfl) (e := ?_) | refine Kc (hd := Step.cells_eq _) (e := ?_) | refine Kd (e := ?_) | refine Kl rfl ?_ | fail) <;> ((conv => whnf); repeat' (refine Z rfl ?_; conv => whnf)))
   refine ⟨fun h2 => ?_, fun h2 => ?_⟩ <;> (try simp only [BL] at h2) <;> ((conv => whnf); repeat' (refine Z rfl ?_; conv => whnf))
   · have hk : ¬ l[i].kind = 2 := by omega
     rw [if_neg hk] at hap
     have hin := In_meets ws l[i].crit
     rw [← hxs] at hin
     refine Meets.k hin ?_
     ((conv => whnf); repeat' (refine Z rfl ?_; conv => whnf))
     refine ⟨fun h3 => ?_, fun h3 => ?_⟩ <;> (try simp only [BL] at h3) <;> ((conv => whnf); repeat' (refine Z rfl ?_; conv => whnf))
     · refine draw_rule tok (cf := {}) (by kernel_rfl) [.p 0, .p 1, .p 3, .p 4, .p 5, .s 2 [0,1], .s 6 [5,4,3], .p 7] (by kernel_rfl) ?_
       ((conv => whnf); repeat' (refine Z rfl ?_; conv => whnf))
       refine ⟨fun ds hds => by rw [hxs] at hds; obtain ⟨f, _, rfl⟩ := List.mem_map.1 hds; rfl, ?_⟩
       ((conv => whnf); repeat' (refine Z rfl ?_; conv => whnf))
       refine ⟨⟨fun _ _ => by simp; omega, by simp⟩, ?_⟩
       ((conv => whnf); repeat' (refine Z rfl ?_; conv => whnf))
       repeat' ((first | (intro hlq; (try simp only [SL] at hlq)) | refine Ka ?_ | refine Kb ?_ | refine Kc (hd := rfl) (e := ?_) | refine Kc (hd := Cond.cells_eq _) (e := ?_) | refine Kd (e := ?_) | refine Kl rfl ?_ | fail) <;> ((conv => whnf); repeat' (refine Z rfl ?_; conv => whnf)))
       refine ⟨by simp, ?_⟩
       ((conv => whnf); repeat' (refine Z rfl ?_; conv => whnf))
       refine ⟨fun _ _ => by simp; omega, ?_⟩
       ((conv => whnf); repeat' (refine Z rfl ?_; conv => whnf))
       repeat' ((first | (intro hlq; (try simp only [SL] at hlq)) | refine Ka ?_ | refine Kb ?_ | refine Kc (hd := rfl) (e := ?_) | refine Kc (hd := Cond.cells_eq _) (e := ?_) | refine Kd (e := ?_) | refine Kl rfl ?_ | fail) <;> ((conv => whnf); repeat' (refine Z rfl ?_; conv => whnf)))
       refine ⟨⟨(i + 1, xs ++ [[iD l[i].crit]]), ?_, ⟨by dsimp only; omega, ws ++ [l[i].crit], by dsimp only; rw [hxs, List.map_append]; rfl, ?_, by dsimp only; simp; omega⟩, by dsimp only; omega⟩⟩
       · exact Kr
       rw [← heq, hap, h3]; rfl
     · repeat' ((first | (intro hlq; (try simp only [SL] at hlq)) | refine Ka ?_ | refine Kb ?_ | refine Kc (hd := rfl) (e := ?_) | refine Kc (hd := Cond.cells_eq _) (e := ?_) | refine Kd (e := ?_) | refine Kl rfl ?_ | fail) <;> ((conv => whnf); repeat' (refine Z rfl ?_; conv => whnf)))
       refine ⟨⟨(i + 1, xs), ?_, ⟨by dsimp only; omega, ws, hxs, ?_, by dsimp only; omega⟩, by dsimp only; omega⟩⟩
       · exact Kr
       rw [← heq, hap, h3]; rfl
   · have hk : l[i].kind = 2 ∧ l[i].cond.valid = true ∧ (∀ z ∈ l[i].th, z.valid = true) ∧ ∀ z ∈ l[i].el, z.valid = true := by
      rcases hvi with h | h
      · exact absurd h h2
      · exact h
     rw [if_pos hk.1] at hap
     refine Meets.k (rholds_meets l[i].cond x hk.2.1) ?_
     ((conv => whnf); repeat' (refine Z rfl ?_; conv => whnf))
     refine ⟨fun h3 => ?_, fun h3 => ?_⟩ <;> (try simp only [BL] at h3) <;> ((conv => whnf); repeat' (refine Z rfl ?_; conv => whnf))
     · have hrec := applied_meets l[i].th x ws hk.2.2.1 (by omega)
       rw [← hxs] at hrec
       refine Meets.k hrec ?_
       ((conv => whnf); repeat' (refine Z rfl ?_; conv => whnf))
       repeat' ((first | (intro hlq; (try simp only [SL] at hlq)) | refine Ka ?_ | refine Kb ?_ | refine Kc (hd := rfl) (e := ?_) | refine Kc (hd := Cond.cells_eq _) (e := ?_) | refine Kd (e := ?_) | refine Kl rfl ?_ | fail) <;> ((conv => whnf); repeat' (refine Z rfl ?_; conv => whnf)))
       rw [if_pos h3] at hap
       refine ⟨⟨(i + 1, (Step.appL x l[i].th ws).map icells), ?_, ⟨by dsimp only; omega, _, rfl, ?_, ?_⟩, by dsimp only; omega⟩⟩
       · exact Kr
       · rw [← heq, hap]
       · rw [← hap]; dsimp only; omega
     · have hrec := applied_meets l[i].el x ws hk.2.2.2 (by omega)
       rw [← hxs] at hrec
       refine Meets.k hrec ?_
       ((conv => whnf); repeat' (refine Z rfl ?_; conv => whnf))
       repeat' ((first | (intro hlq; (try simp only [SL] at hlq)) | refine Ka ?_ | refine Kb ?_ | refine Kc (hd := rfl) (e := ?_) | refine Kc (hd := Cond.cells_eq _) (e := ?_) | refine Kd (e := ?_) | refine Kl rfl ?_ | fail) <;> ((conv => whnf); repeat' (refine Z rfl ?_; conv => whnf)))
       rw [if_neg (by rw [h3]; simp)] at hap
       refine ⟨⟨(i + 1, (Step.appL x l[i].el ws).map icells), ?_, ⟨by dsimp only; omega, _, rfl, ?_, ?_⟩, by dsimp only; omega⟩⟩
       · exact Kr
       · rw [← heq, hap]
       · rw [← hap]; dsimp only; omega
 · refine ⟨?_⟩
   rw [List.drop_eq_nil_of_le (by omega), Step.appL] at heq
   rw [← heq, ← hxs]
termination_by Step.szL l
decreasing_by
 all_goals
  have h2 := szS_mem (List.getElem_mem h1')
  have h3 := l[i].sz_eq
  omega
end Go.Proofs.YtacclfgmgphljaaGreat.Dx
/- Direct, in the reference and in the code. -/
namespace Go.Proofs.YtacclfgmgphljaaGreat.Dx
open Go Go.RowKit
set_option maxRecDepth 100000
set_option maxHeartbeats 8000000
def tiesE (l : List Step) : Int := if fitsF (formsS l) 0 0 0 then (if l ≠ [] ∧ l.all Step.valid then 0 else 71) else 2
theorem tTies (l : List Step) (hl : l.length ≤ 1048576) (hok : ∀ s ∈ l, s.ok) : Meets Tryz.prog 18 [.sl (l.map Step.cells)] fun d => d = iD (tiesE l) := Ties_meets l hl hok
theorem ties_ok {l : List Step} (h : tiesE l = 0) : (∀ s ∈ l, s.valid = true) ∧ Step.nstL l ≤ 64 := by
 unfold tiesE at h
 split at h
 · rename_i hf
   split at h
   · rename_i hv
     refine ⟨List.all_eq_true.1 hv.2, ?_⟩
     obtain ⟨k1, _⟩ := F_S l
     simp only [fitsF, Bool.or_eq_true, Bool.and_eq_true, decide_eq_true_eq, k1] at hf
     rcases hf with hf | hf
     · exact absurd (by simpa [formsS] using hf) hv.1
     · omega
   · cases h
 · cases h
def directE (l : List Step) (x : Env) : List Int × Int := if tiesE l = 0 then (if x.good then (Step.appL x l [], 0) else ([], 1)) else ([], tiesE l)
theorem Applied_meets (l : List Step) (x : Env) (hv : ∀ s ∈ l, s.valid = true) (hb : Step.nstL l ≤ 64) : Meets Tryz.prog 57 [.sl (l.map Step.cells), x.d] fun d => d = .sl ((Step.appL x l []).map icells) := by
 refine enter tok {} Tryz.func57 rfl (by kernel_rfl) Tryz.ntmps57 (by simp) fun B0 W0 V0 lent g0 => ?_
 ((conv => whnf); repeat' (refine Z rfl ?_; conv => whnf))
 refine Meets.k (applied_meets l x [] hv (by simp; omega)) ?_
 ((conv => whnf); repeat' (refine Z rfl ?_; conv => whnf))
 exact ⟨rfl⟩
abbrev dirO (x : Env) (acc : List (List D)) : List (Nat × Blk) :=
 [(2001, .box [iB x.distance, iB x.field, iB x.short] 41), (2002, .box [.fn 51 [] [.loc 2001 0, .loc 2002 0, .loc 2003 0]] 101), (2003, .box [.own 2004] 37), (2004, .sl ⟨3, 1, acc, true⟩)]
theorem apply_meets (l : List Step) (x : Env) (acc : List Int) (hv : ∀ s ∈ l, s.valid = true) (hb : acc.length + Step.nstL l ≤ 1048576) :
 MeetsR Tryz.prog 51 [.d (.sl (l.map Step.cells)), .loc 2001 0, .loc 2002 0, .loc 2003 0] (dirO x (acc.map icells)) fun o O' => o = .ret (.d (.tup [])) ∧ O' = dirO x ((Step.appL x l acc).map icells) := by
 refine enterR tok {rs := [26, 34]} Tryz.func51 rfl (by kernel_rfl) Tryz.ntmps51 (by simp) fun B0 W0 V0 lent g0 => ?_
 ((conv => whnf); repeat' (refine vcC_go tok {rs := [26, 34]} rfl ?_; conv => whnf))
 repeat' ((first | (intro hlq; (try simp only [SL] at hlq)) | refine Ka ?_ | refine Kb ?_ | refine Kc (hd := rfl) (e := ?_) | refine Kc (hd := Cond.cells_eq _) (e := ?_) | refine Kd (e := ?_) | refine Kl rfl ?_ | fail) <;> ((conv => whnf); repeat' (refine vcC_go tok {rs := [26, 34]} rfl ?_; conv => whnf)))
 refine loop_upd tok {rs := [26, 34]} [] (X := Nat × List (List D)) (fun s => [(9, iB s.1)]) (fun s => dirO x s.2) [6] (fun s => s.1 ≤ l.length ∧ ∃ ws, s.2 = ws.map icells ∧ Step.appL x (l.drop s.1) ws = Step.appL x l acc ∧ ws.length + Step.nstL (l.drop s.1) ≤ 1048576) (fun s => l.length - s.1) (0, acc.map icells) ?_
 ((conv => whnf); repeat' (refine vcC_go tok {rs := [26, 34]} rfl ?_; conv => whnf))
 refine And.intro ?_ ⟨⟨by omega, acc, rfl, by simp, by simpa using hb⟩, fun s hΦ => ?_⟩
 · exact Kr
 obtain ⟨i, xs⟩ := s
 obtain ⟨hi, ws, hxs, heq, hlb⟩ := hΦ
 dsimp only at hi hxs heq hlb
 ((conv => whnf); repeat' (refine vcC_go tok {rs := [26, 34]} rfl ?_; conv => whnf))
 refine ⟨fun h1 => ?_, fun h1 => ?_⟩ <;> (try simp only [BL] at h1) <;> ((conv => whnf); repeat' (refine vcC_go tok {rs := [26, 34]} rfl ?_; conv => whnf))
 · have h1' : i < l.length := by omega
   have hvi := valid_kind (hv _ (List.getElem_mem h1'))
   have hap := app_eq x l[i] ws
   have hln := app_len x l[i] ws
   have hn1 := l[i].nst_eq
   have hxl : xs.length = ws.length := by rw [hxs, List.length_map]
   rw [nstL_drop h1'] at hlb
   rw [List.drop_eq_getElem_cons h1', Step.appL] at heq
   repeat' ((first | (intro hlq; (try simp only [SL] at hlq)) | refine Ka ?_ | refine Kb ?_ | refine Kc (hd := rfl) (e := ?_) | refine Kc (hd := Step.cells_eq _) (e := ?_) | refine Kd (e := ?_) | refine Kl rfl ?_ | fail) <;> ((conv => whnf); repeat' (refine vcC_go tok {rs := [26, 34]} rfl ?_; conv => whnf)))
   refine ⟨fun h2 => ?_, fun h2 => ?_⟩ <;> (try simp only [BL] at h2) <;> ((conv => whnf); repeat' (refine vcC_go tok {rs := [26, 34]} rfl ?_; conv => whnf))
   · have hk : l[i].kind = 2 ∧ l[i].cond.valid = true ∧ (∀ z ∈ l[i].th, z.valid = true) ∧ ∀ z ∈ l[i].el, z.valid = true := by
      rcases hvi with h | h
      · omega
      · exact h
     rw [if_pos hk.1] at hap
     refine Meets.k (holds_meets l[i].cond x hk.2.1) ?_
     ((conv => whnf); repeat' (refine vcC_go tok {rs := [26, 34]} rfl ?_; conv => whnf))
     refine ⟨fun h3 => ?_, fun h3 => ?_⟩ <;> (try simp only [BL] at h3) <;> ((conv => whnf); repeat' (refine vcC_go tok {rs := [26, 34]} rfl ?_; conv => whnf))
     · rw [if_pos h3] at hap
       repeat' ((first | (intro hlq; (try simp only [SL] at hlq)) | refine Ka ?_ | refine Kb ?_ | refine Kc (hd := rfl) (e := ?_) | refine Kc (hd := Step.cells_eq _) (e := ?_) | refine Kd (e := ?_) | refine Kl rfl ?_ | fail) <;> ((conv => whnf); repeat' (refine vcC_go tok {rs := [26, 34]} rfl ?_; conv => whnf)))
       have hrec := apply_meets l[i].th x ws hk.2.2.1 (by omega)
       rw [← hxs] at hrec
       refine ⟨dirO x xs, _, ⟨?_, ?_⟩, hrec.mono ?_⟩
       · exact Kr
       · exact Kr
       rintro o O' ⟨rfl, rfl⟩
       ((conv => whnf); repeat' (refine vcC_go tok {rs := [26, 34]} rfl ?_; conv => whnf))
       repeat' ((first | (intro hlq; (try simp only [SL] at hlq)) | refine Ka ?_ | refine Kb ?_ | refine Kc (hd := rfl) (e := ?_) | refine Kc (hd := Cond.cells_eq _) (e := ?_) | refine Kd (e := ?_) | refine Kl rfl ?_ | fail) <;> ((conv => whnf); repeat' (refine vcC_go tok {rs := [26, 34]} rfl ?_; conv => whnf)))
       refine ⟨⟨(i + 1, (Step.appL x l[i].th ws).map icells), ?_, ⟨by dsimp only; omega, _, rfl, ?_, ?_⟩, by dsimp only; omega⟩⟩
       · exact Kr
       · rw [← heq, hap]
       · rw [← hap]; dsimp only; omega
     · rw [if_neg (by rw [h3]; simp)] at hap
       have hrec := apply_meets l[i].el x ws hk.2.2.2 (by omega)
       rw [← hxs] at hrec
       repeat' ((first | (intro hlq; (try simp only [SL] at hlq)) | ((refine Kh (fun hb => ?_) fun hb => ?_) <;> (try simp only [BL] at hb)) | refine Ka ?_ | refine Kb ?_ | refine Kc (hd := rfl) (e := ?_) | refine Kc (hd := Step.cells_eq _) (e := ?_) | refine Kd (e := ?_) | refine Kl rfl ?_ | fail) <;> ((conv => whnf); repeat' (refine vcC_go tok {rs := [26, 34]} rfl ?_; conv => whnf)))
       all_goals try (exfalso; omega)
       refine ⟨dirO x xs, _, ⟨?_, ?_⟩, hrec.mono ?_⟩
       · exact Kr
       · exact Kr
       rintro o O' ⟨rfl, rfl⟩
       ((conv => whnf); repeat' (refine vcC_go tok {rs := [26, 34]} rfl ?_; conv => whnf))
       repeat' ((first | (intro hlq; (try simp only [SL] at hlq)) | refine Ka ?_ | refine Kb ?_ | refine Kc (hd := rfl) (e := ?_) | refine Kc (hd := Cond.cells_eq _) (e := ?_) | refine Kd (e := ?_) | refine Kl rfl ?_ | fail) <;> ((conv => whnf); repeat' (refine vcC_go tok {rs := [26, 34]} rfl ?_; conv => whnf)))
       refine ⟨⟨(i + 1, (Step.appL x l[i].el ws).map icells), ?_, ⟨by dsimp only; omega, _, rfl, ?_, ?_⟩, by dsimp only; omega⟩⟩
       · exact Kr
       · rw [← heq, hap]
       · rw [← hap]; dsimp only; omega
   · have hk : ¬ l[i].kind = 2 := h2
     rw [if_neg hk] at hap
     have hin := Contains_meets ws l[i].crit
     rw [← hxs] at hin
     repeat' ((first | (intro hlq; (try simp only [SL] at hlq)) | ((refine Kh (fun hb => ?_) fun hb => ?_) <;> (try simp only [BL] at hb)) | refine Ka ?_ | refine Kb ?_ | refine Kc (hd := rfl) (e := ?_) | refine Kc (hd := Step.cells_eq _) (e := ?_) | refine Kd (e := ?_) | refine Kl rfl ?_ | fail) <;> ((conv => whnf); repeat' (refine vcC_go tok {rs := [26, 34]} rfl ?_; conv => whnf)))
     all_goals try (exfalso; omega)
     refine Meets.k hin ?_
     ((conv => whnf); repeat' (refine vcC_go tok {rs := [26, 34]} rfl ?_; conv => whnf))
     refine ⟨fun h3 => ?_, fun h3 => ?_⟩ <;> (try simp only [BL] at h3) <;> ((conv => whnf); repeat' (refine vcC_go tok {rs := [26, 34]} rfl ?_; conv => whnf))
     · repeat' ((first | (intro hlq; (try simp only [SL] at hlq)) | refine Ka ?_ | refine Kb ?_ | refine Kc (hd := rfl) (e := ?_) | refine Kc (hd := Cond.cells_eq _) (e := ?_) | refine Kd (e := ?_) | refine Kl rfl ?_ | fail) <;> ((conv => whnf); repeat' (refine vcC_go tok {rs := [26, 34]} rfl ?_; conv => whnf)))
       refine ⟨by simp, ?_⟩
       ((conv => whnf); repeat' (refine vcC_go tok {rs := [26, 34]} rfl ?_; conv => whnf))
       refine ⟨fun _ _ => by simp; omega, ?_⟩
       ((conv => whnf); repeat' (refine vcC_go tok {rs := [26, 34]} rfl ?_; conv => whnf))
       repeat' ((first | (intro hlq; (try simp only [SL] at hlq)) | refine Ka ?_ | refine Kb ?_ | refine Kc (hd := rfl) (e := ?_) | refine Kc (hd := Cond.cells_eq _) (e := ?_) | refine Kd (e := ?_) | refine Kl rfl ?_ | fail) <;> ((conv => whnf); repeat' (refine vcC_go tok {rs := [26, 34]} rfl ?_; conv => whnf)))
       refine ⟨⟨(i + 1, xs ++ [[iD l[i].crit]]), ?_, ⟨by dsimp only; omega, ws ++ [l[i].crit], by dsimp only; rw [hxs, List.map_append]; rfl, ?_, by dsimp only; simp; omega⟩, by dsimp only; omega⟩⟩
       · exact Kr
       rw [← heq, hap, h3]; rfl
     · repeat' ((first | (intro hlq; (try simp only [SL] at hlq)) | refine Ka ?_ | refine Kb ?_ | refine Kc (hd := rfl) (e := ?_) | refine Kc (hd := Cond.cells_eq _) (e := ?_) | refine Kd (e := ?_) | refine Kl rfl ?_ | fail) <;> ((conv => whnf); repeat' (refine vcC_go tok {rs := [26, 34]} rfl ?_; conv => whnf)))
       refine ⟨⟨(i + 1, xs), ?_, ⟨by dsimp only; omega, ws, hxs, ?_, by dsimp only; omega⟩, by dsimp only; omega⟩⟩
       · exact Kr
       rw [← heq, hap, h3]; rfl
 · refine ⟨dirO x xs, .d (.tup []), ?_, ⟨rfl, ?_⟩⟩
   · exact Kr
   rw [List.drop_eq_nil_of_le (by omega), Step.appL] at heq
   rw [← heq, ← hxs]
termination_by Step.szL l
decreasing_by
 all_goals
  have h2 := szS_mem (List.getElem_mem h1')
  have h3 := l[i].sz_eq
  omega
theorem Direct_meets (l : List Step) (x : Env) (hl : l.length ≤ 1048576) (hok : ∀ s ∈ l, s.ok) : Meets Tryz.prog 24 [.sl (l.map Step.cells), x.d] fun d => d = .tup [.sl ((directE l x).1.map icells), iD (directE l x).2] := by
 refine enter tok {nm := [(3, 2001), (8, 2002), (4, 2003)], rs := [22]} Tryz.func24 rfl (by kernel_rfl) Tryz.ntmps24 (by simp) fun B0 W0 V0 lent g0 => ?_
 ((conv => whnf); repeat' (refine vcC_go tok {nm := [(3, 2001), (8, 2002), (4, 2003)], rs := [22]} rfl ?_; conv => whnf))
 refine Meets.k (tTies l hl hok) ?_
 ((conv => whnf); repeat' (refine vcC_go tok {nm := [(3, 2001), (8, 2002), (4, 2003)], rs := [22]} rfl ?_; conv => whnf))
 refine ⟨fun h1 => ?_, fun h1 => ?_⟩ <;> (try simp only [BL] at h1) <;> ((conv => whnf); repeat' (refine vcC_go tok {nm := [(3, 2001), (8, 2002), (4, 2003)], rs := [22]} rfl ?_; conv => whnf))
 · refine ⟨?_⟩
   rw [directE, if_neg h1]; rfl
 refine Meets.k (Env_meets x) ?_
 ((conv => whnf); repeat' (refine vcC_go tok {nm := [(3, 2001), (8, 2002), (4, 2003)], rs := [22]} rfl ?_; conv => whnf))
 refine ⟨fun h2 => ?_, fun h2 => ?_⟩ <;> simp only [decide_eq_true_eq, decide_eq_false_iff_not] at h2
 · ((conv => whnf); repeat' (refine vcC_go tok {nm := [(3, 2001), (8, 2002), (4, 2003)], rs := [22]} rfl ?_; conv => whnf))
   refine ⟨?_⟩
   have hg : x.good = false := by cases hg : x.good <;> simp_all
   rw [directE, if_pos (by omega), hg]
   rfl
 have hg : x.good = true := by cases hg : x.good <;> simp_all
 have ht := ties_ok (l := l) (by omega)
 refine vcC_go tok {nm := [(3, 2001), (8, 2002), (4, 2003)], rs := [22]} rfl ?_
 conv => whnf
 refine vcC_go tok {nm := [(3, 2001), (8, 2002), (4, 2003)], rs := [22]} rfl ?_
 conv => whnf
 refine vcC_go tok {nm := [(3, 2001), (8, 2002), (4, 2003)], rs := [22]} rfl ?_
 conv => whnf
 refine J_own [(.inr (2003, 0), 2004, 3, 1)] ?_
 conv => whnf
 refine ⟨by simp, ?_⟩
 ((conv => whnf); repeat' (refine vcC_go tok {nm := [(3, 2001), (8, 2002), (4, 2003)], rs := [22]} rfl ?_; conv => whnf))
 refine ⟨dirO x [], _, ⟨?_, ?_⟩, (apply_meets l x [] ht.1 (by simp; omega)).mono ?_⟩
 · exact Kr
 · exact Kr
 rintro o O' ⟨rfl, rfl⟩
 ((conv => whnf); repeat' (refine vcC_go tok {nm := [(3, 2001), (8, 2002), (4, 2003)], rs := [22]} rfl ?_; conv => whnf))
 refine ⟨?_⟩
 rw [directE, if_pos (by omega), if_pos hg]
end Go.Proofs.YtacclfgmgphljaaGreat.Dx
/- What valid steps apply: no criterion twice, each of 1..5, one list after another. -/
namespace Go.Proofs.YtacclfgmgphljaaGreat.Dx
open Go Go.RowKit
set_option maxRecDepth 100000
theorem hasI_iff {l : List Int} {n : Int} : hasI l n = true ↔ n ∈ l := by
 simp [hasI, List.any_eq_true]
theorem hasI_not {l : List Int} {n : Int} : hasI l n = false ↔ n ∉ l := by
 rw [← hasI_iff]; simp
/-- no criterion twice, each of 1..5 -/
def Crits (l : List Int) : Prop := l.Nodup ∧ ∀ y ∈ l, 1 ≤ y ∧ y ≤ 5
mutual
theorem app_crits (x : Env) : ∀ s : Step, s.valid = true → ∀ acc, Crits acc → Crits (Step.app x s acc)
 | ⟨k, b, c, t, e⟩, hv, acc, h => by
   have h1 := appL_crits x t
   have h2 := appL_crits x e
   rw [Step.valid_eq] at hv
   simp only [Step.app]
   split
   · rename_i hk
     rw [if_neg (by simp only; omega), if_pos hk] at hv
     simp only [Bool.and_eq_true, List.all_eq_true] at hv
     split
     · exact h1 hv.2.2.2.1 acc h
     · exact h2 hv.2.2.2.2 acc h
   · rename_i hk
     rw [if_neg (show ¬ k = 2 from hk)] at hv
     split at hv
     · simp only [inR, Bool.and_eq_true, decide_eq_true_eq] at hv
       split
       · exact h
       · rename_i hb
         rw [Bool.not_eq_true, hasI_not] at hb
         refine ⟨?_, ?_⟩
         · rw [List.nodup_append]
           refine ⟨h.1, by simp, fun a ha c hc => ?_⟩
           simp only [List.mem_singleton] at hc
           subst hc
           intro e
           subst e
           exact hb ha
         · intro y hy
           rcases List.mem_append.1 hy with hy | hy
           · exact h.2 y hy
           · simp only [List.mem_singleton] at hy
             subst hy
             omega
     · cases hv
theorem appL_crits (x : Env) : ∀ l : List Step, (∀ s ∈ l, s.valid = true) → ∀ acc, Crits acc → Crits (Step.appL x l acc)
 | [], _, acc, h => h
 | s :: ss, hv, acc, h => by
   rw [Step.appL]
   exact appL_crits x ss (fun s hs => hv s (by simp [hs])) _ (app_crits x s (hv s (by simp)) acc h)
end
end Go.Proofs.YtacclfgmgphljaaGreat.Dx
