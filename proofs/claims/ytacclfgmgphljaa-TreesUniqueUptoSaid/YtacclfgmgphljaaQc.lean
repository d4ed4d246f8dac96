/- Chapter 10: TreesUnique, the walk. -/
import Derived.Test.YtacclfgmgphljaaNo
import Derived.Test.YtacclfgmgphljaaNj
import Derived.WalkKit
import Derived.ProofKit
set_option linter.all false
namespace Go.Proofs.Ytacclfgmgphljaa.Dx
open Go Go.RowKit
set_option maxRecDepth 100000
set_option maxHeartbeats 16000000
theorem all_take {α : Type} {Q : α → Prop} {l : List α} {i : Nat} (h : i < l.length) : (∀ a ∈ l.take (i + 1), Q a) ↔ (∀ a ∈ l.take i, Q a) ∧ Q l[i] := by
 rw [List.take_succ_eq_append_getElem h]
 constructor
 · intro hq
   exact ⟨fun a ha => hq a (List.mem_append_left _ ha), hq _ (List.mem_append_right _ (by simp))⟩
 · rintro ⟨h1, h2⟩ a ha
   rcases List.mem_append.1 ha with ha | ha
   · exact h1 a ha
   · rw [List.mem_singleton.1 ha]; exact h2
theorem Unique_meets (l : List Step) (hl : l.length ≤ 1048576) (hok : ∀ s ∈ l, s.ok) (m : List Step) (hm : m.length ≤ 1048576) (hom : ∀ s ∈ m, s.ok) (hs : l.length + m.length ≤ 1048576) :
 Meets Try.prog 6 [.sl (l.map Step.cells), .sl (m.map Step.cells)] fun d => d = bD true := by
 have hfew := rFew_meets (l ++ m) fun s hs => (List.mem_append.1 hs).elim (hok s) (hom s)
 rw [List.map_append] at hfew
 have hc := tCompile_meets l hl hok
 have hc' := tCompile_meets m hm hom
 have hdir : (compileE l).2 = 0 → ∀ x : Env, x.good = true → directE l x = (Step.appL x l [], 0) := fun h x hx => direct_ok h hx
 have hdir' : (compileE m).2 = 0 → ∀ x : Env, x.good = true → directE m x = (Step.appL x m [], 0) := fun h x hx => direct_ok h hx
 have hDir := fun x => Direct_meets l x hl hok
 have hDir' := fun x => Direct_meets m x hm hom
 have heq : (compileE l).2 = 0 → (compileE m).2 = 0 → ((compileE l).1 = (compileE m).1 ↔ ∀ a ∈ valsL (l ++ m) 1, ∀ b ∈ valsL (l ++ m) 2, ∀ c ∈ valsL (l ++ m) 3, Step.appL ⟨a, b, c⟩ l [] = Step.appL ⟨a, b, c⟩ m []) :=
  fun h h' => (compile_eq h h').trans (treeL_over (compile_ok h).1 (compile_ok h').1)
 have v1 := values_meets l m 1 hs hok hom
 have v2 := values_meets l m 2 hs hok hom
 have v3 := values_meets l m 3 hs hok hom
 have r1 := valsL_row (l ++ m) 1
 have r2 := valsL_row (l ++ m) 2
 have r3 := valsL_row (l ++ m) 3
 have hgood : ∀ a ∈ valsL (l ++ m) 1, ∀ b ∈ valsL (l ++ m) 2, ∀ c ∈ valsL (l ++ m) 3, (⟨a, b, c⟩ : Env).good = true := fun a ha b hb c hc => good_iff.2 ⟨r1.mem a ha, r2.mem b hb, r3.mem c hc⟩
 have g1 := r1.len
 have g2 := r2.len
 have g3 := r3.len
 have m1 := most_le 1
 have m2 := most_le 2
 have m3 := most_le 3
 generalize compileE l = r at *
 generalize compileE m = r' at *
 obtain ⟨ns, e⟩ := r
 obtain ⟨ns', e'⟩ := r'
 dsimp only at hc hc' hdir hdir' heq
 generalize valsL (l ++ m) 1 = A at *
 generalize valsL (l ++ m) 2 = B at *
 generalize valsL (l ++ m) 3 = C at *
 have hall : ∀ q : List Step, ∀ ds ∈ q.map Step.cells, ds.length = 8 := step_len
 refine enter tok {} Try.func6 rfl (by kernel_rfl) Try.ntmps6 (by simp) fun B0 W0 V0 lent g0 => ?_
 ((conv => whnf); repeat' (refine Z rfl ?_; conv => whnf))
 repeat' ((first | (intro hlq; (try simp only [SL] at hlq)) | refine Meets.k (sane_meets) ?_ | refine Ks ?_ | refine Kq ?_ | refine Kt ?_ | ((refine Kh (fun hb => ?_) fun hb => ?_) <;> (try simp only [BL] at hb)) | refine Ka ?_ | refine Kb ?_ | refine Kc (hd := rfl) (e := ?_) | refine Kc (hd := icells_eq _) (e := ?_) | refine Kd (e := ?_) | refine Kl rfl ?_ | fail) <;> ((conv => whnf); repeat' (refine Z rfl ?_; conv => whnf)))
 · exact absurd hb (by decide)
 repeat' ((first | (intro hlq; (try simp only [SL] at hlq)) | refine Ks ?_ | refine Kq ?_ | refine Kt ?_ | refine Ka ?_ | refine Kb ?_ | refine Kc (hd := rfl) (e := ?_) | refine Kc (hd := icells_eq _) (e := ?_) | refine Kd (e := ?_) | refine Kl rfl ?_ | fail) <;> ((conv => whnf); repeat' (refine Z rfl ?_; conv => whnf)))
 refine ⟨hall l, ?_⟩
 ((conv => whnf); repeat' (refine Z rfl ?_; conv => whnf))
 refine ⟨⟨(Kap True.intro ?_ (by decide)).1, by simp⟩, ?_⟩
 · simp only [List.length_map, List.length_nil]; omega
 ((conv => whnf); repeat' (refine Z rfl ?_; conv => whnf))
 repeat' ((first | (intro hlq; (try simp only [SL] at hlq)) | refine Ks ?_ | refine Kq ?_ | refine Kt ?_ | refine Ka ?_ | refine Kb ?_ | refine Kc (hd := rfl) (e := ?_) | refine Kc (hd := icells_eq _) (e := ?_) | refine Kd (e := ?_) | refine Kl rfl ?_ | fail) <;> ((conv => whnf); repeat' (refine Z rfl ?_; conv => whnf)))
 refine ⟨hall m, ?_⟩
 ((conv => whnf); repeat' (refine Z rfl ?_; conv => whnf))
 refine Kap ?_ ?_ ?_
 rotate_left 1
 · simp only [List.length_append, List.length_map, List.length_nil]; omega
 · decide
 ((conv => whnf); repeat' (refine Z rfl ?_; conv => whnf))
 repeat' ((first | (intro hlq; (try simp only [SL] at hlq)) | refine Ks ?_ | refine Kq ?_ | refine Kt ?_ | refine Ka ?_ | refine Kb ?_ | refine Kc (hd := rfl) (e := ?_) | refine Kc (hd := icells_eq _) (e := ?_) | refine Kd (e := ?_) | refine Kl rfl ?_ | fail) <;> ((conv => whnf); repeat' (refine Z rfl ?_; conv => whnf)))
 refine hfew.mono fun d hd => ?_
 obtain ⟨b, rfl, _⟩ := hd
 ((conv => whnf); repeat' (refine Z rfl ?_; conv => whnf))
 repeat' ((first | (intro hlq; (try simp only [SL] at hlq)) | refine Meets.k (hc) ?_ | refine Meets.k (hc') ?_ | refine Meets.k (v1) ?_ | refine Ks ?_ | refine Kq ?_ | refine Kt ?_ | ((refine Kh (fun hb => ?_) fun hb => ?_) <;> (try simp only [BL] at hb)) | refine Ka ?_ | refine Kb ?_ | refine Kc (hd := rfl) (e := ?_) | refine Kc (hd := icells_eq _) (e := ?_) | refine Kd (e := ?_) | refine Kl rfl ?_ | fail) <;> ((conv => whnf); repeat' (refine Z rfl ?_; conv => whnf)))
 all_goals try exact ⟨rfl⟩
 have h0 : e = 0 := by omega
 have h0' : e' = 0 := by omega
 have hdir := hdir h0
 have hdir' := hdir' h0'
 have heq := heq h0 h0'
 obtain ⟨P, hP⟩ : ∃ P : Int → Int → Int → Prop, P = fun a b c => Step.appL ⟨a, b, c⟩ l [] = Step.appL ⟨a, b, c⟩ m [] := ⟨_, rfl⟩
 refine loop_upd tok {} [] (X := Nat × Bool) (fun s => [(50, iB s.1), (9, .d (bD s.2))]) (fun _ => []) [] (fun s => s.1 ≤ A.length ∧ (s.2 = true ↔ ∀ a ∈ A.take s.1, ∀ b ∈ B, ∀ c ∈ C, P a b c)) (fun s => A.length - s.1) (0, true) ?_
 ((conv => whnf); repeat' (refine Z rfl ?_; conv => whnf))
 refine And.intro ?_ ⟨⟨by omega, by simp⟩, fun s hΦ => ?_⟩
 · exact Kr
 obtain ⟨i, s⟩ := s
 obtain ⟨hi, hs1⟩ := hΦ
 dsimp only at hi hs1
 ((conv => whnf); repeat' (refine Z rfl ?_; conv => whnf))
 refine ⟨fun q1 => ?_, fun q1 => ?_⟩ <;> (try simp only [BL] at q1) <;> ((conv => whnf); repeat' (refine Z rfl ?_; conv => whnf))
 · have hi' : i < A.length := by omega
   repeat' ((first | (intro hlq; (try simp only [SL] at hlq)) | refine Meets.k (v2) ?_ | refine Ks ?_ | refine Kq ?_ | refine Kt ?_ | ((refine Kh (fun hb => ?_) fun hb => ?_) <;> (try simp only [BL] at hb)) | refine Ka ?_ | refine Kb ?_ | refine Kc (hd := rfl) (e := ?_) | refine Kc (hd := icells_eq _) (e := ?_) | refine Kd (e := ?_) | refine Kl rfl ?_ | fail) <;> ((conv => whnf); repeat' (refine Z rfl ?_; conv => whnf)))
   refine loop_upd tok {} [] (X := Nat × Bool) (fun s => [(58, iB s.1), (9, .d (bD s.2))]) (fun _ => []) [] (fun s => s.1 ≤ B.length ∧ (s.2 = true ↔ (∀ a ∈ A.take i, ∀ b ∈ B, ∀ c ∈ C, P a b c) ∧ ∀ b ∈ B.take s.1, ∀ c ∈ C, P A[i] b c)) (fun s => B.length - s.1) (0, s) ?_
   ((conv => whnf); repeat' (refine Z rfl ?_; conv => whnf))
   refine And.intro ?_ ⟨⟨by omega, by simpa using hs1⟩, fun s hΦ => ?_⟩
   · exact Kr
   obtain ⟨j, s⟩ := s
   obtain ⟨hj, hs2⟩ := hΦ
   dsimp only at hj hs2
   ((conv => whnf); repeat' (refine Z rfl ?_; conv => whnf))
   refine ⟨fun q2 => ?_, fun q2 => ?_⟩ <;> (try simp only [BL] at q2) <;> ((conv => whnf); repeat' (refine Z rfl ?_; conv => whnf))
   · have hj' : j < B.length := by omega
     repeat' ((first | (intro hlq; (try simp only [SL] at hlq)) | refine Meets.k (v3) ?_ | refine Ks ?_ | refine Kq ?_ | refine Kt ?_ | ((refine Kh (fun hb => ?_) fun hb => ?_) <;> (try simp only [BL] at hb)) | refine Ka ?_ | refine Kb ?_ | refine Kc (hd := rfl) (e := ?_) | refine Kc (hd := icells_eq _) (e := ?_) | refine Kd (e := ?_) | refine Kl rfl ?_ | fail) <;> ((conv => whnf); repeat' (refine Z rfl ?_; conv => whnf)))
     refine loop_upd tok {} [] (X := Nat × Bool) (fun s => [(66, iB s.1), (9, .d (bD s.2))]) (fun _ => []) [] (fun s => s.1 ≤ C.length ∧ (s.2 = true ↔ ((∀ a ∈ A.take i, ∀ b ∈ B, ∀ c ∈ C, P a b c) ∧ ∀ b ∈ B.take j, ∀ c ∈ C, P A[i] b c) ∧ ∀ c ∈ C.take s.1, P A[i] B[j] c)) (fun s => C.length - s.1) (0, s) ?_
     ((conv => whnf); repeat' (refine Z rfl ?_; conv => whnf))
     refine And.intro ?_ ⟨⟨by omega, by simpa using hs2⟩, fun s hΦ => ?_⟩
     · exact Kr
     obtain ⟨k, s⟩ := s
     obtain ⟨hk, hs3⟩ := hΦ
     dsimp only at hk hs3
     ((conv => whnf); repeat' (refine Z rfl ?_; conv => whnf))
     refine ⟨fun q3 => ?_, fun q3 => ?_⟩ <;> (try simp only [BL] at q3) <;> ((conv => whnf); repeat' (refine Z rfl ?_; conv => whnf))
     · have hk' : k < C.length := by omega
       have gx := hgood A[i] (List.getElem_mem hi') B[j] (List.getElem_mem hj') C[k] (List.getElem_mem hk')
       have hst := all_take (Q := fun c => P A[i] B[j] c) hk'
       have hPx : P A[i] B[j] C[k] ↔ Step.appL ⟨A[i], B[j], C[k]⟩ l [] = Step.appL ⟨A[i], B[j], C[k]⟩ m [] := by rw [hP]
       have hD := hDir ⟨A[i], B[j], C[k]⟩
       rw [hdir _ gx] at hD
       have hD' := hDir' ⟨A[i], B[j], C[k]⟩
       rw [hdir' _ gx] at hD'
       have hS := Same_meets (Step.appL ⟨A[i], B[j], C[k]⟩ l []) (Step.appL ⟨A[i], B[j], C[k]⟩ m [])
       cases s with
       | true =>
         repeat' ((first | (intro hlq; (try simp only [SL] at hlq)) | refine Meets.k (hD) ?_ | refine Meets.k (hD') ?_ | refine Meets.k (hS) ?_ | refine Ks ?_ | refine Kq ?_ | refine Kt ?_ | ((refine Kh (fun hb => ?_) fun hb => ?_) <;> (try simp only [BL] at hb)) | refine Ka ?_ | refine Kb ?_ | refine Kc (hd := rfl) (e := ?_) | refine Kc (hd := icells_eq _) (e := ?_) | refine Kd (e := ?_) | refine Kl rfl ?_ | fail) <;> ((conv => whnf); repeat' (refine Z rfl ?_; conv => whnf)))
         all_goals try exact absurd hb (by decide)
         refine ⟨⟨(k + 1, decide (Step.appL ⟨A[i], B[j], C[k]⟩ l [] = Step.appL ⟨A[i], B[j], C[k]⟩ m [])), ?_, ⟨by dsimp only; omega, ?_⟩, by dsimp only; omega⟩⟩
         · exact Kr
         rw [hst, ← and_assoc, ← hs3, decide_eq_true_eq, hPx]
         simp
       | false =>
         repeat' ((first | (intro hlq; (try simp only [SL] at hlq)) | refine Meets.k (hD) ?_ | refine Meets.k (hD') ?_ | refine Meets.k (hS) ?_ | refine Ks ?_ | refine Kq ?_ | refine Kt ?_ | ((refine Kh (fun hb => ?_) fun hb => ?_) <;> (try simp only [BL] at hb)) | refine Ka ?_ | refine Kb ?_ | refine Kc (hd := rfl) (e := ?_) | refine Kc (hd := icells_eq _) (e := ?_) | refine Kd (e := ?_) | refine Kl rfl ?_ | fail) <;> ((conv => whnf); repeat' (refine Z rfl ?_; conv => whnf)))
         all_goals try exact absurd hb (by decide)
         refine ⟨⟨(k + 1, false), ?_, ⟨by dsimp only; omega, ?_⟩, by dsimp only; omega⟩⟩
         · exact Kr
         rw [hst, ← and_assoc, ← hs3]
         simp
     · repeat' ((first | (intro hlq; (try simp only [SL] at hlq)) | refine Ks ?_ | refine Kq ?_ | refine Kt ?_ | refine Ka ?_ | refine Kb ?_ | refine Kc (hd := rfl) (e := ?_) | refine Kc (hd := icells_eq _) (e := ?_) | refine Kd (e := ?_) | refine Kl rfl ?_ | fail) <;> ((conv => whnf); repeat' (refine Z rfl ?_; conv => whnf)))
       refine ⟨⟨(j + 1, s), ?_, ⟨by dsimp only; omega, ?_⟩, by dsimp only; omega⟩⟩
       · exact Kr
       rw [all_take (Q := fun b => ∀ c ∈ C, P A[i] b c) hj', ← and_assoc]
       rw [List.take_of_length_le (l := C) (by omega)] at hs3
       exact hs3
   · repeat' ((first | (intro hlq; (try simp only [SL] at hlq)) | refine Ks ?_ | refine Kq ?_ | refine Kt ?_ | refine Ka ?_ | refine Kb ?_ | refine Kc (hd := rfl) (e := ?_) | refine Kc (hd := icells_eq _) (e := ?_) | refine Kd (e := ?_) | refine Kl rfl ?_ | fail) <;> ((conv => whnf); repeat' (refine Z rfl ?_; conv => whnf)))
     refine ⟨⟨(i + 1, s), ?_, ⟨by dsimp only; omega, ?_⟩, by dsimp only; omega⟩⟩
     · exact Kr
     rw [all_take (Q := fun a => ∀ b ∈ B, ∀ c ∈ C, P a b c) hi']
     rw [List.take_of_length_le (l := B) (by omega)] at hs2
     exact hs2
 · rw [List.take_of_length_le (by omega), hP, ← heq] at hs1
   repeat' ((first | (intro hlq; (try simp only [SL] at hlq)) | refine Meets.k (tSame_meets ns ns') ?_ | refine Ks ?_ | refine Kq ?_ | refine Kt ?_ | ((refine Kh (fun hb => ?_) fun hb => ?_) <;> (try simp only [BL] at hb)) | refine Ka ?_ | refine Kb ?_ | refine Kc (hd := rfl) (e := ?_) | refine Kc (hd := icells_eq _) (e := ?_) | refine Kd (e := ?_) | refine Kl rfl ?_ | fail) <;> ((conv => whnf); repeat' (refine Z rfl ?_; conv => whnf)))
   refine ⟨congrArg bD (decide_eq_true ?_)⟩
   rw [Bool.eq_iff_iff, decide_eq_true_eq]
   exact hs1.symm
end Go.Proofs.Ytacclfgmgphljaa.Dx
/- A LAW OF TREES, two tie rules mean the same exactly if their trees are equal: true at every input that holds at most 1048576 values. -/
namespace Go.Proofs.Ytacclfgmgphljaa.TreesUnique
open Go Go.RowKit Go.ChangeShapes Dx
set_option maxRecDepth 100000
theorem own : ownKnob Try.prog.godebug = none := by kernel_rfl
theorem laid : laidOutB Try.prog = true := by kernel_rfl
theorem glob {W : World} (h : W.ShapedOpen Try.prog) : Glob (V0 W) := True.intro
theorem contract (H : Type) (enc : TypeId × Value → H) (W : World) (base : Nat) (args : Array Value) (ds gs : List (DataW H)) (before : List MemPlace)
 (hval : ∀ (j : Nat) t v, Try.f6.params[j]? = some t → args[j]? = some v → Value.okWide Try.prog W .any base t v)
 (hW : DataW.Whole enc Try.prog Try.f6.params.toList Rows.treesUniqueSpec.vars false W args.toList ds gs before) (hk : Rows.uptoSmall H (ds ++ gs) = true) (hsh : W.ShapedOpen Try.prog) :
 Calls Try.prog 6 args W fun e W' => ∃ v, e = .returned v ∧ Rows.treesUniqueSpec.post enc Try.prog Try.f6 false true false false W args v W' := by
 refine says tok closedC laid (fn := Try.f6) (tb := 4) rfl Try.underlying4 (by kernel_rfl) (fun ds ms h hm => ?_) rfl (fun xs hx => ?_) (glob hsh) hval hW hk
 · have h : TyVs T [41, 41] ds ms := h
   obtain ⟨x0, xs, k0, ms, rfl, rfl, h0, h⟩ := tyVs_cons h
   obtain ⟨x1, xs, k1, ms, rfl, rfl, h1, h⟩ := tyVs_cons h
   obtain ⟨rfl, rfl⟩ := tyVs_nil h
   simp only [List.sum_cons, List.sum_nil] at hm
   obtain ⟨v0, rfl, g0, f0⟩ := vStepsM h0 (by omega)
   obtain ⟨v1, rfl, g1, f1⟩ := vStepsM h1 (by omega)
   exact Unique_meets v0 (by omega) f0 v1 (by omega) f1 (by omega)
 · match xs, hx with
   | [x0, x1], _ => rfl
theorem lifted (os : Os) (started : os.Started) (H : Type) (enc : TypeId × Value → H) (F : Stop.Interp) :
 ReturnsInHanded {} Try.checked os 6 .any ((Rows.OpenSpec.upto Rows.treesUniqueSpec).pre6 enc Try.prog Try.f6 Rows.treesUniqueUptoRow.domain false) (((Rows.OpenSpec.upto Rows.treesUniqueSpec).at F).post enc Try.prog Try.f6 false true false false) := by
 refine returnsInHanded_of_cond_shaped (C := Try.checked) (s := Rows.OpenSpec.upto Rows.treesUniqueSpec) (k := Rows.uptoSmall) rfl own started (by kernel_rfl) Try.func6
  (OpenSpec.witness (enc := enc) (C := Try.checked) (s := Rows.OpenSpec.upto Rows.treesUniqueSpec) (k := Rows.uptoSmall) rfl false
    ⟨#[], #[.slice none 0 0, .slice none 0 0], []⟩ 8 (by kernel_rfl) (by kernel_rfl) (by kernel_rfl)
    (x := ([.nil, .nil], [], [])) (by kernel_rfl) rfl (by kernel_rfl)) ?_
 intro W base args ds gs before hval hW hk hsh
 exact contract H enc W base args ds gs before hval hW hk hsh
theorem over : Rows.treesUniqueUptoRow.holds Try.pinned (Rows.OpenSpec.upto Rows.treesUniqueSpec) :=
 OpenClaim.holds_of_cond 6 Try.f6 rfl rfl rfl rfl rfl rfl rfl ⟨rfl, rfl, rfl, rfl, rfl⟩ rfl rfl rfl rfl rfl (by kernel_rfl) Try.func6 (by kernel_rfl)
  (of_decide_eq_true (by kernel_rfl)) (by unfold Func.isWrapper; first | (rw [if_pos (by decide +kernel)]; kernel_rfl) | (rw [if_neg (by decide +kernel)]; exact ⟨rfl, rfl⟩))
  (fun os started H enc _ F => lifted os started H enc F)
theorem proved : Rows.TreesUniqueUptoSaid := over
#print axioms proved
end Go.Proofs.Ytacclfgmgphljaa.TreesUnique
