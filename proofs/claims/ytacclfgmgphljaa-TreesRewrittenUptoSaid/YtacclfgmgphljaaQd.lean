/- Chapter 10: TreesRewritten, the walk. -/
import Derived.Test.YtacclfgmgphljaaNo
import Derived.Test.YtacclfgmgphljaaNj
import Derived.WalkKit
import Derived.ProofKit
set_option linter.all false
namespace Go.Proofs.Ytacclfgmgphljaa.Dx
open Go Go.RowKit
set_option maxRecDepth 100000
set_option maxHeartbeats 16000000
theorem step_if (c : Cond) (l m : List Step) : (⟨2, 0, c, l, m⟩ : Step).cells = [iD 2, iD 0, iD c.kind, iD c.var, iD c.n, .sl (c.parts.map Cond.cells), .sl (l.map Step.cells), .sl (m.map Step.cells)] := by rw [Step.cells_eq]
theorem ok_if {c : Cond} {l m : List Step} (hc : c.ok) (hl : l.length ≤ 1048576) (hok : ∀ s ∈ l, s.ok) (hm : m.length ≤ 1048576) (hom : ∀ s ∈ m, s.ok) : ∀ s ∈ [(⟨2, 0, c, l, m⟩ : Step)], s.ok := by
 intro s hs
 rw [List.mem_singleton.1 hs]
 exact Step.ok_iff.2 ⟨hc, ⟨hl, hok⟩, hm, hom⟩
theorem ok_not {c : Cond} (hc : c.ok) : (⟨4, 0, 0, [c]⟩ : Cond).ok := Cond.ok_iff.2 ⟨by simp, by simpa using hc⟩
theorem len_nst : ∀ l : List Step, l.length ≤ Step.nstL l
 | [] => Nat.le_refl _
 | s :: l => by
   have := len_nst l
   have := s.nst_eq
   rw [Step.nstL, List.length_cons]; omega
theorem Rewritten_meets (c : Cond) (hc : c.ok) (l : List Step) (hl : l.length ≤ 1048576) (hok : ∀ s ∈ l, s.ok) (m : List Step) (hm : m.length ≤ 1048576) (hom : ∀ s ∈ m, s.ok) (hs : l.length + m.length ≤ 1048576) :
 Meets Try.prog 7 [.agg c.cells, .sl (l.map Step.cells), .sl (m.map Step.cells)] fun d => d = bD true := by
 have hfew := rFew_meets (⟨2, 0, c, l, m⟩ :: l ++ m) fun s hs => by
  rcases List.mem_append.1 hs with hs | hs
  · rcases List.mem_cons.1 hs with e | hs
    · exact ok_if hc hl hok hm hom s (by simp [e])
    · exact hok s hs
  · exact hom s hs
 rw [List.map_append, List.map_cons, step_if] at hfew
 have k1 := tCompile_meets [⟨2, 0, c, l, m⟩] (by simp) (ok_if hc hl hok hm hom)
 have k2 := tCompile_meets [⟨2, 0, ⟨4, 0, 0, [c]⟩, m, l⟩] (by simp) (ok_if (ok_not hc) hm hom hl hok)
 have k3 := tCompile_meets l hl hok
 have k4 : (compileE [⟨2, 0, c, l, m⟩]).2 = 0 → Meets Try.prog 22 [.sl ((l ++ l).map Step.cells)] fun d => d = .tup [treeD (compileE (l ++ l)).1, iD (compileE (l ++ l)).2] := fun h => by
  have h1 := (ties_zero.1 (compile_ok h).1).2.2.2.2.1
  have h2 := len_nst l
  simp only [Step.nstL, Step.nst] at h1
  exact tCompile_meets (l ++ l) (by rw [List.length_append]; omega) fun s hs => hok s (by simpa using hs)
 have one := rewritten_one (c := c) (l := l) (m := m)
 have two := rewritten_two (c := c) (l := l) (m := m) (X := ⟨2, 0, c, l, m⟩ :: l ++ m)
 rw [List.map_cons, step_if, List.map_nil] at k1
 rw [List.map_cons, step_if, List.map_nil] at k2
 rw [List.map_cons, Cond.cells_eq, List.map_nil] at k2
 rw [List.map_append] at k4
 have hall : ∀ q : List Step, ∀ ds ∈ q.map Step.cells, ds.length = 8 := step_len
 generalize compileE [⟨2, 0, c, l, m⟩] = r1 at *
 generalize compileE [⟨2, 0, ⟨4, 0, 0, [c]⟩, m, l⟩] = r2 at *
 generalize compileE l = r3 at *
 generalize compileE (l ++ l) = r4 at *
 obtain ⟨n1, e1⟩ := r1
 obtain ⟨n2, e2⟩ := r2
 obtain ⟨n3, e3⟩ := r3
 obtain ⟨n4, e4⟩ := r4
 dsimp only at k1 k2 k3 k4 one two
 rw [Cond.cells_eq]
 refine enter tok {} Try.func7 rfl (by kernel_rfl) Try.ntmps7 (by simp) fun B0 W0 V0 lent g0 => ?_
 ((conv => whnf); repeat' (refine Z rfl ?_; conv => whnf))
 repeat' ((first | (intro hlq; (try simp only [SL] at hlq)) | refine Meets.k (sane_meets) ?_ | refine Ks ?_ | refine Kq ?_ | refine Kt ?_ | ((refine Kh (fun hb => ?_) fun hb => ?_) <;> (try simp only [BL] at hb)) | refine Ka ?_ | refine Kb ?_ | refine Kc (hd := rfl) (e := ?_) | refine Kc (hd := icells_eq _) (e := ?_) | refine Kd (e := ?_) | refine Kl rfl ?_ | fail) <;> ((conv => whnf); repeat' (refine Z rfl ?_; conv => whnf)))
 · exact absurd hb (by decide)
 refine (FewCond_meets c).mono fun d hd => ?_
 obtain ⟨b, rfl⟩ := hd
 cases b with
 | false =>
   ((conv => whnf); repeat' (refine Z rfl ?_; conv => whnf))
   repeat' ((first | (intro hlq; (try simp only [SL] at hlq)) | refine Ks ?_ | refine Kq ?_ | refine Kt ?_ | ((refine Kh (fun hb => ?_) fun hb => ?_) <;> (try simp only [BL] at hb)) | refine Ka ?_ | refine Kb ?_ | refine Kc (hd := rfl) (e := ?_) | refine Kc (hd := icells_eq _) (e := ?_) | refine Kd (e := ?_) | refine Kl rfl ?_ | fail) <;> ((conv => whnf); repeat' (refine Z rfl ?_; conv => whnf)))
   all_goals first
    | exact ⟨rfl⟩
    | exact absurd hb (by decide)
 | true =>
   ((conv => whnf); repeat' (refine Z rfl ?_; conv => whnf))
   repeat' ((first | (intro hlq; (try simp only [SL] at hlq)) | refine Ks ?_ | refine Kq ?_ | refine Kt ?_ | ((refine Kh (fun hb => ?_) fun hb => ?_) <;> (try simp only [BL] at hb)) | refine Ka ?_ | refine Kb ?_ | refine Kc (hd := rfl) (e := ?_) | refine Kc (hd := icells_eq _) (e := ?_) | refine Kd (e := ?_) | refine Kl rfl ?_ | fail) <;> ((conv => whnf); repeat' (refine Z rfl ?_; conv => whnf)))
   all_goals try exact absurd hb (by decide)
   refine ⟨hall l, ?_⟩
   ((conv => whnf); repeat' (refine Z rfl ?_; conv => whnf))
   refine ⟨⟨(Kap True.intro ?_ (by decide)).1, by simp⟩, ?_⟩
   · simp only [List.length_map, List.length_cons, List.length_nil]; omega
   ((conv => whnf); repeat' (refine Z rfl ?_; conv => whnf))
   repeat' ((first | (intro hlq; (try simp only [SL] at hlq)) | refine Ks ?_ | refine Kq ?_ | refine Kt ?_ | refine Ka ?_ | refine Kb ?_ | refine Kc (hd := rfl) (e := ?_) | refine Kc (hd := icells_eq _) (e := ?_) | refine Kd (e := ?_) | refine Kl rfl ?_ | fail) <;> ((conv => whnf); repeat' (refine Z rfl ?_; conv => whnf)))
   refine ⟨hall m, ?_⟩
   ((conv => whnf); repeat' (refine Z rfl ?_; conv => whnf))
   refine Kap ?_ ?_ ?_
   rotate_left 1
   · simp only [List.length_append, List.length_map, List.length_cons, List.length_nil]; omega
   · decide
   ((conv => whnf); repeat' (refine Z rfl ?_; conv => whnf))
   repeat' ((first | (intro hlq; (try simp only [SL] at hlq)) | refine Ks ?_ | refine Kq ?_ | refine Kt ?_ | refine Ka ?_ | refine Kb ?_ | refine Kc (hd := rfl) (e := ?_) | refine Kc (hd := icells_eq _) (e := ?_) | refine Kd (e := ?_) | refine Kl rfl ?_ | fail) <;> ((conv => whnf); repeat' (refine Z rfl ?_; conv => whnf)))
   refine hfew.mono fun d hd => ?_
   obtain ⟨b, rfl, hb300⟩ := hd
   cases b with
   | false =>
     ((conv => whnf); repeat' (refine Z rfl ?_; conv => whnf))
     repeat' ((first | (intro hlq; (try simp only [SL] at hlq)) | refine Ks ?_ | refine Kq ?_ | refine Kt ?_ | ((refine Kh (fun hb => ?_) fun hb => ?_) <;> (try simp only [BL] at hb)) | refine Ka ?_ | refine Kb ?_ | refine Kc (hd := rfl) (e := ?_) | refine Kc (hd := icells_eq _) (e := ?_) | refine Kd (e := ?_) | refine Kl rfl ?_ | fail) <;> ((conv => whnf); repeat' (refine Z rfl ?_; conv => whnf)))
     all_goals first
      | exact ⟨rfl⟩
      | exact absurd hb (by decide)
      | exact absurd trivial hb
      | contradiction
   | true =>
     ((conv => whnf); repeat' (refine Z rfl ?_; conv => whnf))
     repeat' ((first | (intro hlq; (try simp only [SL] at hlq)) | refine Ks ?_ | refine Kq ?_ | refine Kt ?_ | ((refine Kh (fun hb => ?_) fun hb => ?_) <;> (try simp only [BL] at hb)) | refine Ka ?_ | refine Kb ?_ | refine Kc (hd := rfl) (e := ?_) | refine Kc (hd := icells_eq _) (e := ?_) | refine Kd (e := ?_) | refine Kl rfl ?_ | fail) <;> ((conv => whnf); repeat' (refine Z rfl ?_; conv => whnf)))
     all_goals try exact absurd hb (by decide)
     all_goals try exact ⟨rfl⟩
     repeat' ((first | (intro hlq; (try simp only [SL] at hlq)) | refine Meets.k (k1) ?_ | refine Meets.k (k2) ?_ | refine Meets.k (k3) ?_ | refine Ks ?_ | refine Kq ?_ | refine Kt ?_ | ((refine Kh (fun hb => ?_) fun hb => ?_) <;> (try simp only [BL] at hb)) | refine Ka ?_ | refine Kb ?_ | refine Kc (hd := rfl) (e := ?_) | refine Kc (hd := icells_eq _) (e := ?_) | refine Kd (e := ?_) | refine Kl rfl ?_ | fail) <;> ((conv => whnf); repeat' (refine Z rfl ?_; conv => whnf)))
     all_goals try exact ⟨rfl⟩
     have h1 : e1 = 0 := by omega
     have h2 : e2 = 0 := by omega
     have k4 := k4 h1
     have one := one h1 h2
     have hne : l ≠ [] := by
      intro e
      subst e
      simp at *
     have two := two h1 hne (fun s hs => List.mem_append_left _ (List.mem_cons_of_mem _ hs)) (hb300 rfl)
     refine ⟨hall l, ?_⟩
     ((conv => whnf); repeat' (refine Z rfl ?_; conv => whnf))
     refine ⟨⟨(Kap True.intro ?_ (by decide)).1, by simp⟩, ?_⟩
     · simp only [List.length_map, List.length_nil]; omega
     ((conv => whnf); repeat' (refine Z rfl ?_; conv => whnf))
     repeat' ((first | (intro hlq; (try simp only [SL] at hlq)) | refine Ks ?_ | refine Kq ?_ | refine Kt ?_ | refine Ka ?_ | refine Kb ?_ | refine Kc (hd := rfl) (e := ?_) | refine Kc (hd := icells_eq _) (e := ?_) | refine Kd (e := ?_) | refine Kl rfl ?_ | fail) <;> ((conv => whnf); repeat' (refine Z rfl ?_; conv => whnf)))
     refine ⟨hall l, ?_⟩
     ((conv => whnf); repeat' (refine Z rfl ?_; conv => whnf))
     refine Kap ?_ ?_ ?_
     rotate_left 1
     · simp only [List.length_append, List.length_map, List.length_nil]; omega
     · decide
     ((conv => whnf); repeat' (refine Z rfl ?_; conv => whnf))
     repeat' ((first | (intro hlq; (try simp only [SL] at hlq)) | refine Meets.k (k4) ?_ | refine Meets.k (tSame_meets n1 n2) ?_ | refine Meets.k (tSame_meets n3 n4) ?_ | refine Ks ?_ | refine Kq ?_ | refine Kt ?_ | ((refine Kh (fun hb => ?_) fun hb => ?_) <;> (try simp only [BL] at hb)) | refine Ka ?_ | refine Kb ?_ | refine Kc (hd := rfl) (e := ?_) | refine Kc (hd := icells_eq _) (e := ?_) | refine Kd (e := ?_) | refine Kl rfl ?_ | fail) <;> ((conv => whnf); repeat' (refine Z rfl ?_; conv => whnf)))
     all_goals
      obtain ⟨t1, t2⟩ := two
      clear hfew k1 k2 k3 k4 hall
      first
       | exact ⟨rfl⟩
       | contradiction
       | exact ⟨congrArg bD (decide_eq_true (by rcases t2 with h | ⟨_, h⟩ <;> first | exact h | (exfalso; omega)))⟩
       | (exfalso; rcases t2 with h | ⟨h, _⟩ <;> omega)
end Go.Proofs.Ytacclfgmgphljaa.Dx
/- A LAW OF TREES, negated choices and repetitions lead to the same tree: true at every input that holds at most 1048576 values. -/
namespace Go.Proofs.Ytacclfgmgphljaa.TreesRewritten
open Go Go.RowKit Go.ChangeShapes Dx
set_option maxRecDepth 100000
theorem own : ownKnob Try.prog.godebug = none := by kernel_rfl
theorem laid : laidOutB Try.prog = true := by kernel_rfl
theorem glob {W : World} (h : W.ShapedOpen Try.prog) : Glob (V0 W) := True.intro
theorem contract (H : Type) (enc : TypeId × Value → H) (W : World) (base : Nat) (args : Array Value) (ds gs : List (DataW H)) (before : List MemPlace)
 (hval : ∀ (j : Nat) t v, Try.f7.params[j]? = some t → args[j]? = some v → Value.okWide Try.prog W .any base t v)
 (hW : DataW.Whole enc Try.prog Try.f7.params.toList Rows.treesRewrittenSpec.vars false W args.toList ds gs before) (hk : Rows.uptoSmall H (ds ++ gs) = true) (hsh : W.ShapedOpen Try.prog) :
 Calls Try.prog 7 args W fun e W' => ∃ v, e = .returned v ∧ Rows.treesRewrittenSpec.post enc Try.prog Try.f7 false true false false W args v W' := by
 refine says tok closedC laid (fn := Try.f7) (tb := 4) rfl Try.underlying4 (by kernel_rfl) (fun ds ms h hm => ?_) rfl (fun xs hx => ?_) (glob hsh) hval hW hk
 · have h : TyVs T [52, 41, 41] ds ms := h
   obtain ⟨x0, xs, k0, ms, rfl, rfl, h0, h⟩ := tyVs_cons h
   obtain ⟨x1, xs, k1, ms, rfl, rfl, h1, h⟩ := tyVs_cons h
   obtain ⟨x2, xs, k2, ms, rfl, rfl, h2, h⟩ := tyVs_cons h
   obtain ⟨rfl, rfl⟩ := tyVs_nil h
   simp only [List.sum_cons, List.sum_nil] at hm
   obtain ⟨v0, rfl, g0⟩ := vCond h0 (by omega)
   obtain ⟨v1, rfl, g1, f1⟩ := vStepsM h1 (by omega)
   obtain ⟨v2, rfl, g2, f2⟩ := vStepsM h2 (by omega)
   exact Rewritten_meets v0 g0 v1 (by omega) f1 v2 (by omega) f2 (by omega)
 · match xs, hx with
   | [x0, x1, x2], _ => rfl
theorem lifted (os : Os) (started : os.Started) (H : Type) (enc : TypeId × Value → H) (F : Stop.Interp) :
 ReturnsInHanded {} Try.checked os 7 .any ((Rows.OpenSpec.upto Rows.treesRewrittenSpec).pre6 enc Try.prog Try.f7 Rows.treesRewrittenUptoRow.domain false) (((Rows.OpenSpec.upto Rows.treesRewrittenSpec).at F).post enc Try.prog Try.f7 false true false false) := by
 refine returnsInHanded_of_cond_shaped (C := Try.checked) (s := Rows.OpenSpec.upto Rows.treesRewrittenSpec) (k := Rows.uptoSmall) rfl own started (by kernel_rfl) Try.func7
  (OpenSpec.witness (enc := enc) (C := Try.checked) (s := Rows.OpenSpec.upto Rows.treesRewrittenSpec) (k := Rows.uptoSmall) rfl false
    ⟨#[], #[.agg #[.int .i64 0, .int .i64 0, .int .i64 0, .slice none 0 0], .slice none 0 0, .slice none 0 0], []⟩ 8 (by kernel_rfl) (by kernel_rfl) (by kernel_rfl)
    (x := ([.agg [.lit (.int .i64 0), .lit (.int .i64 0), .lit (.int .i64 0), .nil], .nil, .nil], [], [])) (by kernel_rfl) rfl (by kernel_rfl)) ?_
 intro W base args ds gs before hval hW hk hsh
 exact contract H enc W base args ds gs before hval hW hk hsh
theorem over : Rows.treesRewrittenUptoRow.holds Try.pinned (Rows.OpenSpec.upto Rows.treesRewrittenSpec) :=
 OpenClaim.holds_of_cond 7 Try.f7 rfl rfl rfl rfl rfl rfl rfl ⟨rfl, rfl, rfl, rfl, rfl⟩ rfl rfl rfl rfl rfl (by kernel_rfl) Try.func7 (by kernel_rfl)
  (of_decide_eq_true (by kernel_rfl)) (by unfold Func.isWrapper; first | (rw [if_pos (by decide +kernel)]; kernel_rfl) | (rw [if_neg (by decide +kernel)]; exact ⟨rfl, rfl⟩))
  (fun os started H enc _ F => lifted os started H enc F)
theorem proved : Rows.TreesRewrittenUptoSaid := over
#print axioms proved
end Go.Proofs.Ytacclfgmgphljaa.TreesRewritten
