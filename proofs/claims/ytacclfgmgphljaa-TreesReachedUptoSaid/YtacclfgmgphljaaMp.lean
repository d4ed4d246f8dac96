/- applied. -/
import Derived.Test.YtacclfgmgphljaaMo
set_option linter.all false
namespace Go.Proofs.Ytacclfgmgphljaa.Dx
open Go Go.RowKit
set_option maxRecDepth 100000
set_option maxHeartbeats 8000000
end Go.Proofs.Ytacclfgmgphljaa.Dx
/- Direct, in the reference and in the code. -/
namespace Go.Proofs.Ytacclfgmgphljaa.Dx
open Go Go.RowKit
set_option maxRecDepth 100000
set_option maxHeartbeats 8000000
def tiesE (l : List Step) : Int := if fitsF (formsS l) 0 0 0 then (if l ≠ [] ∧ l.all Step.valid then 0 else 71) else 2
theorem tTies (l : List Step) (hl : l.length ≤ 1048576) (hok : ∀ s ∈ l, s.ok) : Meets Try.prog 23 [.sl (l.map Step.cells)] fun d => d = iD (tiesE l) := Ties_meets l hl hok
theorem ties_ok {l : List Step} (h : tiesE l = 0) : (∀ s ∈ l, s.valid = true) ∧ Step.nstL l ≤ 64 := by
 unfold tiesE at h
 split at h
 · rename_i hf
   split at h
   · rename_i hv
     refine ⟨List.all_eq_true.1 hv.2, ?_⟩
     obtain ⟨k1, _⟩ := F_S l
     simp only [fitsF, Bool.or_eq_true, Bool.and_eq_true, decide_eq_true_eq, k1] at hf
     rcases hf with hf | hf
     · exact absurd (by simpa [formsS] using hf) hv.1
     · omega
   · cases h
 · cases h
def directE (l : List Step) (x : Env) : List Int × Int := if tiesE l = 0 then (if x.good then (Step.appL x l [], 0) else ([], 1)) else ([], tiesE l)
abbrev dirO (x : Env) (acc : List (List D)) : List (Nat × Blk) :=
 [(2001, .box [iB x.distance, iB x.field, iB x.short] 31), (2002, .box [.fn 61 [] [.loc 2001 0, .loc 2002 0, .loc 2003 0]] 106), (2003, .box [.own 2004] 34), (2004, .sl ⟨3, 1, acc, true⟩)]
theorem apply_meets (l : List Step) (x : Env) (acc : List Int) (hv : ∀ s ∈ l, s.valid = true) (hb : acc.length + Step.nstL l ≤ 1048576) :
 MeetsR Try.prog 61 [.d (.sl (l.map Step.cells)), .loc 2001 0, .loc 2002 0, .loc 2003 0] (dirO x (acc.map icells)) fun o O' => o = .ret (.d (.tup [])) ∧ O' = dirO x ((Step.appL x l acc).map icells) := by
 refine enterR tok {rs := [26, 34]} Try.func61 rfl (by kernel_rfl) Try.ntmps61 (by simp) fun B0 W0 V0 lent g0 => ?_
 ((conv => whnf); repeat' (refine vcC_go tok {rs := [26, 34]} rfl ?_; conv => whnf))
 repeat' ((first | (intro hlq; (try simp only [SL] at hlq)) | refine Ka ?_ | refine Kb ?_ | refine Kc (hd := rfl) (e := ?_) | refine Kc (hd := Cond.cells_eq _) (e := ?_) | refine Kd (e := ?_) | refine Kl rfl ?_ | fail) <;> ((conv => whnf); repeat' (refine vcC_go tok {rs := [26, 34]} rfl ?_; conv => whnf)))
 refine loop_upd tok {rs := [26, 34]} [] (X := Nat × List (List D)) (fun s => [(9, iB s.1)]) (fun s => dirO x s.2) [6] (fun s => s.1 ≤ l.length ∧ ∃ ws, s.2 = ws.map icells ∧ Step.appL x (l.drop s.1) ws = Step.appL x l acc ∧ ws.length + Step.nstL (l.drop s.1) ≤ 1048576) (fun s => l.length - s.1) (0, acc.map icells) ?_
 ((conv => whnf); repeat' (refine vcC_go tok {rs := [26, 34]} rfl ?_; conv => whnf))
 refine And.intro ?_ ⟨⟨by omega, acc, rfl, by simp, by simpa using hb⟩, fun s hΦ => ?_⟩
 · exact Kr
 obtain ⟨i, xs⟩ := s
 obtain ⟨hi, ws, hxs, heq, hlb⟩ := hΦ
 dsimp only at hi hxs heq hlb
 ((conv => whnf); repeat' (refine vcC_go tok {rs := [26, 34]} rfl ?_; conv => whnf))
 refine ⟨fun h1 => ?_, fun h1 => ?_⟩ <;> (try simp only [BL] at h1) <;> ((conv => whnf); repeat' (refine vcC_go tok {rs := [26, 34]} rfl ?_; conv => whnf))
 · have h1' : i < l.length := by omega
   have hvi := valid_kind (hv _ (List.getElem_mem h1'))
   have hap := app_eq x l[i] ws
   have hln := app_len x l[i] ws
   have hn1 := l[i].nst_eq
   have hxl : xs.length = ws.length := by rw [hxs, List.length_map]
   rw [nstL_drop h1'] at hlb
   rw [List.drop_eq_getElem_cons h1', Step.appL] at heq
   repeat' ((first | (intro hlq; (try simp only [SL] at hlq)) | refine Ka ?_ | refine Kb ?_ | refine Kc (hd := rfl) (e := ?_) | refine Kc (hd := Step.cells_eq _) (e := ?_) | refine Kd (e := ?_) | refine Kl rfl ?_ | fail) <;> ((conv => whnf); repeat' (refine vcC_go tok {rs := [26, 34]} rfl ?_; conv => whnf)))
   refine ⟨fun h2 => ?_, fun h2 => ?_⟩ <;> (try simp only [BL] at h2) <;> ((conv => whnf); repeat' (refine vcC_go tok {rs := [26, 34]} rfl ?_; conv => whnf))
   · have hk : l[i].kind = 2 ∧ l[i].cond.valid = true ∧ (∀ z ∈ l[i].th, z.valid = true) ∧ ∀ z ∈ l[i].el, z.valid = true := by
      rcases hvi with h | h
      · omega
      · exact h
     rw [if_pos hk.1] at hap
     refine Meets.k (holds_meets l[i].cond x hk.2.1) ?_
     ((conv => whnf); repeat' (refine vcC_go tok {rs := [26, 34]} rfl ?_; conv => whnf))
     refine ⟨fun h3 => ?_, fun h3 => ?_⟩ <;> (try simp only [BL] at h3) <;> ((conv => whnf); repeat' (refine vcC_go tok {rs := [26, 34]} rfl ?_; conv => whnf))
     · rw [if_pos h3] at hap
       repeat' ((first | (intro hlq; (try simp only [SL] at hlq)) | refine Ka ?_ | refine Kb ?_ | refine Kc (hd := rfl) (e := ?_) | refine Kc (hd := Step.cells_eq _) (e := ?_) | refine Kd (e := ?_) | refine Kl rfl ?_ | fail) <;> ((conv => whnf); repeat' (refine vcC_go tok {rs := [26, 34]} rfl ?_; conv => whnf)))
       have hrec := apply_meets l[i].th x ws hk.2.2.1 (by omega)
       rw [← hxs] at hrec
       refine ⟨dirO x xs, _, ⟨?_, ?_⟩, hrec.mono ?_⟩
       · exact Kr
       · exact Kr
       rintro o O' ⟨rfl, rfl⟩
       ((conv => whnf); repeat' (refine vcC_go tok {rs := [26, 34]} rfl ?_; conv => whnf))
       repeat' ((first | (intro hlq; (try simp only [SL] at hlq)) | refine Ka ?_ | refine Kb ?_ | refine Kc (hd := rfl) (e := ?_) | refine Kc (hd := Cond.cells_eq _) (e := ?_) | refine Kd (e := ?_) | refine Kl rfl ?_ | fail) <;> ((conv => whnf); repeat' (refine vcC_go tok {rs := [26, 34]} rfl ?_; conv => whnf)))
       refine ⟨⟨(i + 1, (Step.appL x l[i].th ws).map icells), ?_, ⟨by dsimp only; omega, _, rfl, ?_, ?_⟩, by dsimp only; omega⟩⟩
       · exact Kr
       · rw [← heq, hap]
       · rw [← hap]; dsimp only; omega
     · rw [if_neg (by rw [h3]; simp)] at hap
       have hrec := apply_meets l[i].el x ws hk.2.2.2 (by omega)
       rw [← hxs] at hrec
       repeat' ((first | (intro hlq; (try simp only [SL] at hlq)) | ((refine Kh (fun hb => ?_) fun hb => ?_) <;> (try simp only [BL] at hb)) | refine Ka ?_ | refine Kb ?_ | refine Kc (hd := rfl) (e := ?_) | refine Kc (hd := Step.cells_eq _) (e := ?_) | refine Kd (e := ?_) | refine Kl rfl ?_ | fail) <;> ((conv => whnf); repeat' (refine vcC_go tok {rs := [26, 34]} rfl ?_; conv => whnf)))
       all_goals try (exfalso; omega)
       refine ⟨dirO x xs, _, ⟨?_, ?_⟩, hrec.mono ?_⟩
       · exact Kr
       · exact Kr
       rintro o O' ⟨rfl, rfl⟩
       ((conv => whnf); repeat' (refine vcC_go tok {rs := [26, 34]} rfl ?_; conv => whnf))
       repeat' ((first | (intro hlq; (try simp only [SL] at hlq)) | refine Ka ?_ | refine Kb ?_ | refine Kc (hd := rfl) (e := ?_) | refine Kc (hd := Cond.cells_eq _) (e := ?_) | refine Kd (e := ?_) | refine Kl rfl ?_ | fail) <;> ((conv => whnf); repeat' (refine vcC_go tok {rs := [26, 34]} rfl ?_; conv => whnf)))
       refine ⟨⟨(i + 1, (Step.appL x l[i].el ws).map icells), ?_, ⟨by dsimp only; omega, _, rfl, ?_, ?_⟩, by dsimp only; omega⟩⟩
       · exact Kr
       · rw [← heq, hap]
       · rw [← hap]; dsimp only; omega
   · have hk : ¬ l[i].kind = 2 := h2
     rw [if_neg hk] at hap
     have hin := Contains_meets ws l[i].crit
     rw [← hxs] at hin
     repeat' ((first | (intro hlq; (try simp only [SL] at hlq)) | ((refine Kh (fun hb => ?_) fun hb => ?_) <;> (try simp only [BL] at hb)) | refine Ka ?_ | refine Kb ?_ | refine Kc (hd := rfl) (e := ?_) | refine Kc (hd := Step.cells_eq _) (e := ?_) | refine Kd (e := ?_) | refine Kl rfl ?_ | fail) <;> ((conv => whnf); repeat' (refine vcC_go tok {rs := [26, 34]} rfl ?_; conv => whnf)))
     all_goals try (exfalso; omega)
     refine Meets.k hin ?_
     ((conv => whnf); repeat' (refine vcC_go tok {rs := [26, 34]} rfl ?_; conv => whnf))
     refine ⟨fun h3 => ?_, fun h3 => ?_⟩ <;> (try simp only [BL] at h3) <;> ((conv => whnf); repeat' (refine vcC_go tok {rs := [26, 34]} rfl ?_; conv => whnf))
     · repeat' ((first | (intro hlq; (try simp only [SL] at hlq)) | refine Ka ?_ | refine Kb ?_ | refine Kc (hd := rfl) (e := ?_) | refine Kc (hd := Cond.cells_eq _) (e := ?_) | refine Kd (e := ?_) | refine Kl rfl ?_ | fail) <;> ((conv => whnf); repeat' (refine vcC_go tok {rs := [26, 34]} rfl ?_; conv => whnf)))
       refine ⟨by simp, ?_⟩
       ((conv => whnf); repeat' (refine vcC_go tok {rs := [26, 34]} rfl ?_; conv => whnf))
       refine ⟨fun _ _ => by simp; omega, ?_⟩
       ((conv => whnf); repeat' (refine vcC_go tok {rs := [26, 34]} rfl ?_; conv => whnf))
       repeat' ((first | (intro hlq; (try simp only [SL] at hlq)) | refine Ka ?_ | refine Kb ?_ | refine Kc (hd := rfl) (e := ?_) | refine Kc (hd := Cond.cells_eq _) (e := ?_) | refine Kd (e := ?_) | refine Kl rfl ?_ | fail) <;> ((conv => whnf); repeat' (refine vcC_go tok {rs := [26, 34]} rfl ?_; conv => whnf)))
       refine ⟨⟨(i + 1, xs ++ [[iD l[i].crit]]), ?_, ⟨by dsimp only; omega, ws ++ [l[i].crit], by dsimp only; rw [hxs, List.map_append]; rfl, ?_, by dsimp only; simp; omega⟩, by dsimp only; omega⟩⟩
       · exact Kr
       rw [← heq, hap, h3]; rfl
     · repeat' ((first | (intro hlq; (try simp only [SL] at hlq)) | refine Ka ?_ | refine Kb ?_ | refine Kc (hd := rfl) (e := ?_) | refine Kc (hd := Cond.cells_eq _) (e := ?_) | refine Kd (e := ?_) | refine Kl rfl ?_ | fail) <;> ((conv => whnf); repeat' (refine vcC_go tok {rs := [26, 34]} rfl ?_; conv => whnf)))
       refine ⟨⟨(i + 1, xs), ?_, ⟨by dsimp only; omega, ws, hxs, ?_, by dsimp only; omega⟩, by dsimp only; omega⟩⟩
       · exact Kr
       rw [← heq, hap, h3]; rfl
 · refine ⟨dirO x xs, .d (.tup []), ?_, ⟨rfl, ?_⟩⟩
   · exact Kr
   rw [List.drop_eq_nil_of_le (by omega), Step.appL] at heq
   rw [← heq, ← hxs]
termination_by Step.szL l
decreasing_by
 all_goals
  have h2 := szS_mem (List.getElem_mem h1')
  have h3 := l[i].sz_eq
  omega
theorem Direct_meets (l : List Step) (x : Env) (hl : l.length ≤ 1048576) (hok : ∀ s ∈ l, s.ok) : Meets Try.prog 24 [.sl (l.map Step.cells), x.d] fun d => d = .tup [.sl ((directE l x).1.map icells), iD (directE l x).2] := by
 refine enter tok {nm := [(3, 2001), (8, 2002), (4, 2003)], rs := [22]} Try.func24 rfl (by kernel_rfl) Try.ntmps24 (by simp) fun B0 W0 V0 lent g0 => ?_
 ((conv => whnf); repeat' (refine vcC_go tok {nm := [(3, 2001), (8, 2002), (4, 2003)], rs := [22]} rfl ?_; conv => whnf))
 refine Meets.k (tTies l hl hok) ?_
 ((conv => whnf); repeat' (refine vcC_go tok {nm := [(3, 2001), (8, 2002), (4, 2003)], rs := [22]} rfl ?_; conv => whnf))
 refine ⟨fun h1 => ?_, fun h1 => ?_⟩ <;> (try simp only [BL] at h1) <;> ((conv => whnf); repeat' (refine vcC_go tok {nm := [(3, 2001), (8, 2002), (4, 2003)], rs := [22]} rfl ?_; conv => whnf))
 · refine ⟨?_⟩
   rw [directE, if_neg h1]; rfl
 refine Meets.k (Env_meets x) ?_
 ((conv => whnf); repeat' (refine vcC_go tok {nm := [(3, 2001), (8, 2002), (4, 2003)], rs := [22]} rfl ?_; conv => whnf))
 refine ⟨fun h2 => ?_, fun h2 => ?_⟩ <;> simp only [decide_eq_true_eq, decide_eq_false_iff_not] at h2
 · ((conv => whnf); repeat' (refine vcC_go tok {nm := [(3, 2001), (8, 2002), (4, 2003)], rs := [22]} rfl ?_; conv => whnf))
   refine ⟨?_⟩
   have hg : x.good = false := by cases hg : x.good <;> simp_all
   rw [directE, if_pos (by omega), hg]
   rfl
 have hg : x.good = true := by cases hg : x.good <;> simp_all
 have ht := ties_ok (l := l) (by omega)
 refine vcC_go tok {nm := [(3, 2001), (8, 2002), (4, 2003)], rs := [22]} rfl ?_
 conv => whnf
 refine vcC_go tok {nm := [(3, 2001), (8, 2002), (4, 2003)], rs := [22]} rfl ?_
 conv => whnf
 refine vcC_go tok {nm := [(3, 2001), (8, 2002), (4, 2003)], rs := [22]} rfl ?_
 conv => whnf
 refine J_own [(.inr (2003, 0), 2004, 3, 1)] ?_
 conv => whnf
 refine ⟨by simp, ?_⟩
 ((conv => whnf); repeat' (refine vcC_go tok {nm := [(3, 2001), (8, 2002), (4, 2003)], rs := [22]} rfl ?_; conv => whnf))
 refine ⟨dirO x [], _, ⟨?_, ?_⟩, (apply_meets l x [] ht.1 (by simp; omega)).mono ?_⟩
 · exact Kr
 · exact Kr
 rintro o O' ⟨rfl, rfl⟩
 ((conv => whnf); repeat' (refine vcC_go tok {nm := [(3, 2001), (8, 2002), (4, 2003)], rs := [22]} rfl ?_; conv => whnf))
 refine ⟨?_⟩
 rw [directE, if_pos (by omega), if_pos hg]
end Go.Proofs.Ytacclfgmgphljaa.Dx
/- What valid steps apply: no criterion twice, each of 1..5, one list after another. -/
namespace Go.Proofs.Ytacclfgmgphljaa.Dx
open Go Go.RowKit
set_option maxRecDepth 100000
theorem hasI_iff {l : List Int} {n : Int} : hasI l n = true ↔ n ∈ l := by
 simp [hasI, List.any_eq_true]
theorem hasI_not {l : List Int} {n : Int} : hasI l n = false ↔ n ∉ l := by
 rw [← hasI_iff]; simp
/-- what a function that adds criteria does to what has been applied by others before -/
def AddsTo (f : List Int → List Int) : Prop := ∀ acc t t' : List Int, t = t'.filter (fun y => !hasI acc y) → f (acc ++ t) = acc ++ (f t').filter (fun y => !hasI acc y)
mutual
theorem app_adds (x : Env) : ∀ s : Step, AddsTo (Step.app x s)
 | ⟨k, b, c, t, e⟩ => by
   have h1 := appL_adds x t
   have h2 := appL_adds x e
   intro acc u u' hu
   simp only [Step.app]
   split
   · split
     · exact h1 acc u u' hu
     · exact h2 acc u u' hu
   · have hb : hasI (acc ++ u) b = (hasI acc b || hasI u' b) := by
      rw [Bool.eq_iff_iff, Bool.or_eq_true, hasI_iff, hasI_iff, hasI_iff, hu, List.mem_append, List.mem_filter]
      cases hx : hasI acc b
      · have := hasI_not.1 hx; simp [this]
      · have := hasI_iff.1 hx; simp [this]
     rw [hb]
     cases hx : hasI acc b <;> cases hy : hasI u' b <;> simp [hu, hx, List.filter_append]
theorem appL_adds (x : Env) : ∀ l : List Step, AddsTo (Step.appL x l)
 | [] => by
   intro acc u u' hu
   simp only [Step.appL]
   rw [hu]
 | s :: ss => by
   have h1 := app_adds x s
   have h2 := appL_adds x ss
   intro acc u u' hu
   simp only [Step.appL]
   rw [h1 acc u u' hu]
   exact h2 acc _ _ rfl
end
theorem appL_append (x : Env) : ∀ (l m : List Step) (acc : List Int), Step.appL x (l ++ m) acc = Step.appL x m (Step.appL x l acc)
 | [], m, acc => rfl
 | s :: l, m, acc => by rw [List.cons_append, Step.appL, Step.appL, appL_append x l m]
theorem appL_after (x : Env) (m : List Step) (acc : List Int) : Step.appL x m acc = acc ++ (Step.appL x m []).filter (fun y => !hasI acc y) := by
 have := appL_adds x m acc [] [] rfl
 simpa using this
/-- no criterion twice, each of 1..5 -/
def Crits (l : List Int) : Prop := l.Nodup ∧ ∀ y ∈ l, 1 ≤ y ∧ y ≤ 5
mutual
theorem app_crits (x : Env) : ∀ s : Step, s.valid = true → ∀ acc, Crits acc → Crits (Step.app x s acc)
 | ⟨k, b, c, t, e⟩, hv, acc, h => by
   have h1 := appL_crits x t
   have h2 := appL_crits x e
   rw [Step.valid_eq] at hv
   simp only [Step.app]
   split
   · rename_i hk
     rw [if_neg (by simp only; omega), if_pos hk] at hv
     simp only [Bool.and_eq_true, List.all_eq_true] at hv
     split
     · exact h1 hv.2.2.2.1 acc h
     · exact h2 hv.2.2.2.2 acc h
   · rename_i hk
     rw [if_neg (show ¬ k = 2 from hk)] at hv
     split at hv
     · simp only [inR, Bool.and_eq_true, decide_eq_true_eq] at hv
       split
       · exact h
       · rename_i hb
         rw [Bool.not_eq_true, hasI_not] at hb
         refine ⟨?_, ?_⟩
         · rw [List.nodup_append]
           refine ⟨h.1, by simp, fun a ha c hc => ?_⟩
           simp only [List.mem_singleton] at hc
           subst hc
           intro e
           subst e
           exact hb ha
         · intro y hy
           rcases List.mem_append.1 hy with hy | hy
           · exact h.2 y hy
           · simp only [List.mem_singleton] at hy
             subst hy
             omega
     · cases hv
theorem appL_crits (x : Env) : ∀ l : List Step, (∀ s ∈ l, s.valid = true) → ∀ acc, Crits acc → Crits (Step.appL x l acc)
 | [], _, acc, h => h
 | s :: ss, hv, acc, h => by
   rw [Step.appL]
   exact appL_crits x ss (fun s hs => hv s (by simp [hs])) _ (app_crits x s (hv s (by simp)) acc h)
end
end Go.Proofs.Ytacclfgmgphljaa.Dx
