/- Chapter 10: TreesEvalSpec, the walk. -/
import Derived.Test.YtacclfgmgphljaaNn
import Derived.Test.YtacclfgmgphljaaNj
import Derived.WalkKit
import Derived.ProofKit
set_option linter.all false
namespace Go.Proofs.Ytacclfgmgphljaa.Dx
open Go Go.RowKit
set_option maxRecDepth 100000
set_option maxHeartbeats 16000000
theorem and_seven (n : Int) : ∃ m : Int, IntKind.i64.wrap (BitVec.ofInt IntKind.i64.bits n &&& BitVec.ofInt IntKind.i64.bits 7).toNat = m := ⟨_, rfl⟩
theorem EvalSpec_meets (ns : List Node) (x : Env) (n node : Int) : Meets Try.prog 4 [treeD ns, x.d, iD n, iD node] fun d => d = bD true := by
 obtain ⟨m, hm⟩ := and_seven node
 refine enter tok {} Try.func4 rfl (by kernel_rfl) Try.ntmps4 (by simp) fun B0 W0 V0 lent g0 => ?_
 ((conv => whnf); repeat' (refine Z rfl ?_; conv => whnf))
 repeat' ((first | (intro hlq; (try simp only [SL] at hlq)) | refine Meets.k (sane_meets) ?_ | refine Meets.k (few_meets ns) ?_ | refine Ks ?_ | refine Kq ?_ | refine Kt ?_ | ((refine Kh (fun hb => ?_) fun hb => ?_) <;> (try simp only [BL] at hb)) | refine Ka ?_ | refine Kb ?_ | refine Kc (hd := rfl) (e := ?_) | refine Kc (hd := icells_eq _) (e := ?_) | refine Kd (e := ?_) | refine Kl rfl ?_ | fail) <;> ((conv => whnf); repeat' ((fail_if_success (refine J_at 5 ?_)); refine Z rfl ?_; conv => whnf)))
 all_goals try exact ⟨rfl⟩
 all_goals try exact absurd hb (by decide)
 ((conv => whnf); repeat' (refine Z rfl ?_; conv => whnf))
 refine draw_rule tok (cf := {}) (by kernel_rfl) [.p 0, .p 1, .p 5, .s 2 [1], .p 3, .p 4] (by kernel_rfl) ?_
 ((conv => whnf); repeat' (refine Z rfl ?_; conv => whnf))
 refine (env_meets n).mono ?_
 rintro _ ⟨y, rfl, gy⟩
 ((conv => whnf); repeat' (refine Z rfl ?_; conv => whnf))
 repeat' ((first | (intro hlq; (try simp only [SL] at hlq)) | refine Ks ?_ | refine Kq ?_ | refine Kt ?_ | refine Ka ?_ | refine Kb ?_ | refine Kc (hd := rfl) (e := ?_) | refine Kc (hd := icells_eq _) (e := ?_) | refine Kd (e := ?_) | refine Kl rfl ?_ | fail) <;> ((conv => whnf); repeat' (refine Z rfl ?_; conv => whnf)))
 have hlen : ns.length ≤ 20 := by omega
 have hxs : ∀ i : Nat, i < 2 → ∃ z : Env, ([x, y] : List Env)[i]? = some z := by
  intro i hi
  rcases (by omega : i = 0 ∨ i = 1) with rfl | rfl
  · exact ⟨_, rfl⟩
  · exact ⟨_, rfl⟩
 refine loop_upd tok {} [] (X := Nat) (fun i => [(39, iB i)]) (fun _ => []) [] (fun i => i ≤ 2) (fun i => 2 - i) 0 ?_
 ((conv => whnf); repeat' (refine Z rfl ?_; conv => whnf))
 refine And.intro ?_ ⟨by omega, fun i hi => ?_⟩
 · exact Kr
 ((conv => whnf); repeat' (refine Z rfl ?_; conv => whnf))
 refine ⟨fun h1 => ?_, fun h1 => ?_⟩ <;> (try simp only [BL] at h1) <;> ((conv => whnf); repeat' (refine Z rfl ?_; conv => whnf))
 · have h1' : i < 2 := by simp only [List.length_cons, List.length_nil] at h1; omega
   have hx := hxs i h1'
   obtain ⟨z, hx⟩ := hx
   have hE := tEval_meets ns z
   have hR := rEval_meets ns (by omega) z
   have hS := Same_meets (evalE ns z).1 (evalE ns z).1
   rw [decide_eq_true rfl] at hS
   refine ⟨[iD z.distance, iD z.field, iD z.short], ⟨by omega, ?_, rfl⟩, ?_⟩
   · rw [Int.toNat_natCast]
     have := congrArg (Option.map fun x : Env => [iD x.distance, iD x.field, iD x.short]) hx
     rw [← List.getElem?_map] at this
     exact this
   ((conv => whnf); repeat' (refine Z rfl ?_; conv => whnf))
   repeat' ((first | (intro hlq; (try simp only [SL] at hlq)) | refine Meets.k (hE) ?_ | refine Meets.k (hR) ?_ | refine Meets.k (hS) ?_ | refine Ks ?_ | refine Kq ?_ | refine Kt ?_ | ((refine Kh (fun hb => ?_) fun hb => ?_) <;> (try simp only [BL] at hb)) | refine Ka ?_ | refine Kb ?_ | refine Kc (hd := rfl) (e := ?_) | refine Kc (hd := icells_eq _) (e := ?_) | refine Kd (e := ?_) | refine Kl rfl ?_ | fail) <;> ((conv => whnf); repeat' (refine Z rfl ?_; conv => whnf)))
   all_goals try exact absurd trivial hb
   all_goals try exact absurd hb (by decide)
   all_goals try exact absurd rfl hb
   refine ⟨⟨i + 1, ?_, by omega, by omega⟩⟩
   repeat' (first | exact True.intro | exact rfl | refine And.intro ?_ ?_)
 repeat' ((first | (intro hlq; (try simp only [SL] at hlq)) | refine Ks ?_ | refine Kq ?_ | refine Kt ?_ | refine Ka ?_ | refine Kb ?_ | refine Kc (hd := rfl) (e := ?_) | refine Kc (hd := icells_eq _) (e := ?_) | refine Kd (e := ?_) | refine Kl rfl ?_ | fail) <;> ((conv => whnf); repeat' (refine Z rfl ?_; conv => whnf)))
 have hks : ∀ i : Nat, i < 2 → ∃ z : Int, ([node, m] : List Int)[i]? = some z := by
  intro i hi
  rcases (by omega : i = 0 ∨ i = 1) with rfl | rfl
  · exact ⟨_, rfl⟩
  · exact ⟨_, rfl⟩
 refine loop_upd tok {} [] (X := Nat) (fun i => [(70, iB i)]) (fun _ => []) [] (fun i => i ≤ 2) (fun i => 2 - i) 0 ?_
 ((conv => whnf); repeat' (refine Z rfl ?_; conv => whnf))
 refine And.intro ?_ ⟨by omega, fun i hi => ?_⟩
 · exact Kr
 ((conv => whnf); repeat' (refine Z rfl ?_; conv => whnf))
 refine ⟨fun h1 => ?_, fun h1 => ?_⟩ <;> (try simp only [BL] at h1) <;> ((conv => whnf); repeat' (refine Z rfl ?_; conv => whnf))
 · have h1' : i < 2 := by simp only [List.length_cons, List.length_nil] at h1; omega
   have hx := hks i h1'
   obtain ⟨k, hx⟩ := hx
   have hA := tReach_meets ns k
   have hB := rReach_meets ns (by omega) k
   generalize reachE ns k = r at hA hB
   obtain ⟨e, o, er⟩ := r
   dsimp only at hA hB
   refine ⟨[iD k], ⟨by omega, ?_, rfl⟩, ?_⟩
   · rw [Int.toNat_natCast]
     have := congrArg (Option.map fun x : Int => [iD x]) hx
     rw [← List.getElem?_map, ← hm] at this
     exact this
   ((conv => whnf); repeat' (refine Z rfl ?_; conv => whnf))
   repeat' ((first | (intro hlq; (try simp only [SL] at hlq)) | refine Meets.k (hA) ?_ | refine Meets.k (hB) ?_ | refine ⟨⟨⟨[e.distance, e.field, e.short], rfl, rfl⟩, ⟨[e.distance, e.field, e.short], rfl, rfl⟩⟩, ?_⟩ | refine Ks ?_ | refine Kq ?_ | refine Kt ?_ | ((refine Kh (fun hb => ?_) fun hb => ?_) <;> (try simp only [BL] at hb)) | refine Ka ?_ | refine Kb ?_ | refine Kc (hd := rfl) (e := ?_) | refine Kc (hd := icells_eq _) (e := ?_) | refine Kd (e := ?_) | refine Kl rfl ?_ | fail) <;> ((conv => whnf); repeat' (refine Z rfl ?_; conv => whnf)))
   all_goals try (exfalso; revert hb; simp; done)
   all_goals
    refine ⟨⟨i + 1, ?_, by omega, by omega⟩⟩
    repeat' (first | exact True.intro | exact rfl | refine And.intro ?_ ?_)
 repeat' ((first | (intro hlq; (try simp only [SL] at hlq)) | refine Ks ?_ | refine Kq ?_ | refine Kt ?_ | refine Ka ?_ | refine Kb ?_ | refine Kc (hd := rfl) (e := ?_) | refine Kc (hd := icells_eq _) (e := ?_) | refine Kd (e := ?_) | refine Kl rfl ?_ | fail) <;> ((conv => whnf); repeat' (refine Z rfl ?_; conv => whnf)))
 exact ⟨rfl⟩
end Go.Proofs.Ytacclfgmgphljaa.Dx
/- A LAW OF TREES, the code's Eval and Reach are the reference's: true at every input that holds at most 1048576 values. -/
namespace Go.Proofs.Ytacclfgmgphljaa.TreesEvalSpec
open Go Go.RowKit Go.ChangeShapes Dx
set_option maxRecDepth 100000
theorem own : ownKnob Try.prog.godebug = none := by kernel_rfl
theorem laid : laidOutB Try.prog = true := by kernel_rfl
theorem glob {W : World} (h : W.ShapedOpen Try.prog) : Glob (V0 W) := True.intro
theorem contract (H : Type) (enc : TypeId × Value → H) (W : World) (base : Nat) (args : Array Value) (ds gs : List (DataW H)) (before : List MemPlace)
 (hval : ∀ (j : Nat) t v, Try.f4.params[j]? = some t → args[j]? = some v → Value.okWide Try.prog W .any base t v)
 (hW : DataW.Whole enc Try.prog Try.f4.params.toList Rows.treesEvalSpecSpec.vars false W args.toList ds gs before) (hk : Rows.uptoSmall H (ds ++ gs) = true) (hsh : W.ShapedOpen Try.prog) :
 Calls Try.prog 4 args W fun e W' => ∃ v, e = .returned v ∧ Rows.treesEvalSpecSpec.post enc Try.prog Try.f4 false true false false W args v W' := by
 refine says tok closedC laid (fn := Try.f4) (tb := 4) rfl Try.underlying4 (by kernel_rfl) (fun ds ms h hm => ?_) rfl (fun xs hx => ?_) (glob hsh) hval hW hk
 · have h : TyVs T [24, 31, 3, 3] ds ms := h
   obtain ⟨x0, xs, k0, ms, rfl, rfl, h0, h⟩ := tyVs_cons h
   obtain ⟨x1, xs, k1, ms, rfl, rfl, h1, h⟩ := tyVs_cons h
   obtain ⟨x2, xs, k2, ms, rfl, rfl, h2, h⟩ := tyVs_cons h
   obtain ⟨x3, xs, k3, ms, rfl, rfl, h3, h⟩ := tyVs_cons h
   obtain ⟨rfl, rfl⟩ := tyVs_nil h
   simp only [List.sum_cons, List.sum_nil] at hm
   obtain ⟨v0, rfl⟩ := vTree h0
   obtain ⟨v1, rfl⟩ := vEnv h1
   obtain ⟨v2, rfl⟩ := vInt h2
   obtain ⟨v3, rfl⟩ := vInt h3
   exact EvalSpec_meets v0 v1 v2 v3
 · match xs, hx with
   | [x0, x1, x2, x3], _ => rfl
theorem lifted (os : Os) (started : os.Started) (H : Type) (enc : TypeId × Value → H) (F : Stop.Interp) :
 ReturnsInHanded {} Try.checked os 4 .any ((Rows.OpenSpec.upto Rows.treesEvalSpecSpec).pre6 enc Try.prog Try.f4 Rows.treesEvalSpecUptoRow.domain false) (((Rows.OpenSpec.upto Rows.treesEvalSpecSpec).at F).post enc Try.prog Try.f4 false true false false) := by
 refine returnsInHanded_of_cond_shaped (C := Try.checked) (s := Rows.OpenSpec.upto Rows.treesEvalSpecSpec) (k := Rows.uptoSmall) rfl own started (by kernel_rfl) Try.func4
  (OpenSpec.witness (enc := enc) (C := Try.checked) (s := Rows.OpenSpec.upto Rows.treesEvalSpecSpec) (k := Rows.uptoSmall) rfl false
    ⟨#[], #[.agg #[.slice none 0 0], .agg #[.int .i64 0, .int .i64 0, .int .i64 0], .int .i64 0, .int .i64 0], []⟩ 8 (by kernel_rfl) (by kernel_rfl) (by kernel_rfl)
    (x := ([.agg [.nil], .agg [.lit (.int .i64 0), .lit (.int .i64 0), .lit (.int .i64 0)], .lit (.int .i64 0), .lit (.int .i64 0)], [], [])) (by kernel_rfl) rfl (by kernel_rfl)) ?_
 intro W base args ds gs before hval hW hk hsh
 exact contract H enc W base args ds gs before hval hW hk hsh
theorem over : Rows.treesEvalSpecUptoRow.holds Try.pinned (Rows.OpenSpec.upto Rows.treesEvalSpecSpec) :=
 OpenClaim.holds_of_cond 4 Try.f4 rfl rfl rfl rfl rfl rfl rfl ⟨rfl, rfl, rfl, rfl, rfl⟩ rfl rfl rfl rfl rfl (by kernel_rfl) Try.func4 (by kernel_rfl)
  (of_decide_eq_true (by kernel_rfl)) (by unfold Func.isWrapper; first | (rw [if_pos (by decide +kernel)]; kernel_rfl) | (rw [if_neg (by decide +kernel)]; exact ⟨rfl, rfl⟩))
  (fun os started H enc _ F => lifted os started H enc F)
theorem proved : Rows.TreesEvalSpecUptoSaid := over
#print axioms proved
end Go.Proofs.Ytacclfgmgphljaa.TreesEvalSpec
