/- Chapter 10: TreesReached. -/
import Derived.Test.YtacclfgmgphljaaNn
import Derived.Test.YtacclfgmgphljaaNo
import Derived.Test.YtacclfgmgphljaaNj
import Derived.WalkKit
import Derived.ProofKit
set_option linter.all false
namespace Go.Proofs.Ytacclfgmgphljaa.Dx
open Go Go.RowKit
set_option maxRecDepth 100000
set_option maxHeartbeats 16000000
theorem through_meets {ns : List Node} {d : Nat → Tr} (hf : Forest ns d) (hl : ns.length ≤ 100000) (x : Env) (j : Nat) (hj : j < ns.length) :
 Meets Try.prog 28 [treeD ns, x.d, iD j] fun r => r = bD (thr (d j) (d 0) x) := by
 have hroot := hf.den 0 (by omega)
 have hplen := pathI_len (x := x) hf hroot
 rw [← pathI_thr hf hj hroot]
 refine enter tok {} Try.func28 rfl (by kernel_rfl) Try.ntmps28 (by simp) fun B0 W0 V0 lent g0 => ?_
 ((conv => whnf); repeat' (refine Z rfl ?_; conv => whnf))
 repeat' ((first | (intro hlq; (try simp only [SL] at hlq)) | refine Ks ?_ | refine Kq ?_ | refine Kt ?_ | refine Ka ?_ | refine Kb ?_ | refine Kc (hd := rfl) (e := ?_) | refine Kc (hd := icells_eq _) (e := ?_) | refine Kd (e := ?_) | refine Kl rfl ?_ | fail) <;> ((conv => whnf); repeat' (refine Z rfl ?_; conv => whnf)))
 refine loop_upd tok {} [] (X := ((Nat × Tr) × Nat) × List Nat) (fun s => [(11, iB (s.1.2 : Int)), (7, iB (s.1.1.1 : Int))]) (fun _ => []) [] (fun s => (Den ns s.1.1.1 s.1.1.2 ∧ s.2 ++ pathI ns s.1.1.2 s.1.1.1 x = pathI ns (d 0) 0 x) ∧ j ∉ s.2 ∧ s.1.2 = s.2.length) (fun s => s.1.1.2.sz) (((0, d 0), 0), []) ?_
 ((conv => whnf); repeat' (refine Z rfl ?_; conv => whnf))
 refine And.intro ?_ ⟨⟨⟨hroot, rfl⟩, by simp, rfl⟩, fun s hΦ => ?_⟩
 · exact Kr
 obtain ⟨⟨⟨at_, tr⟩, k⟩, done⟩ := s
 obtain ⟨⟨hden, hp⟩, hnj, hk⟩ := hΦ
 dsimp only at hden hp hnj hk
 have hal := hden.lt
 have hdl : done.length + 1 ≤ ns.length := by
  obtain ⟨r, e⟩ := pathI_head (ns := ns) (t := tr) (i := at_) (x := x)
  rw [← hp, e, List.length_append, List.length_cons] at hplen
  omega
 have hat : at_ ∈ pathI ns (d 0) 0 x := by
  obtain ⟨r, e⟩ := pathI_head (ns := ns) (t := tr) (i := at_) (x := x)
  rw [← hp, e]; simp
 ((conv => whnf); repeat' (refine Z rfl ?_; conv => whnf))
 refine ⟨fun q0 => ?_, fun q0 => ?_⟩ <;> (try simp only [BL] at q0) <;> ((conv => whnf); repeat' (refine Z rfl ?_; conv => whnf))
 rotate_left 1
 · exfalso; omega
 refine ⟨fun q1 => ?_, fun q1 => ?_⟩ <;> (try simp only [BL] at q1) <;> ((conv => whnf); repeat' (refine Z rfl ?_; conv => whnf))
 · have e : at_ = j := by omega
   exact ⟨by rw [← e, decide_eq_true hat]⟩
 have hne : at_ ≠ j := fun e => q1 (by rw [e])
 have hnext : j ∉ done ++ [at_] := by
  intro h
  rcases List.mem_append.1 h with h | h
  · exact hnj h
  · exact hne (List.mem_singleton.1 h).symm
 cases hden with
 | leaf _ c hc =>
   repeat' ((first | (intro hlq; (try simp only [SL] at hlq)) | refine Kn ⟨0, 0, 0, 0, c⟩ ⟨by omega, by rw [Int.toNat_natCast, hc]⟩ ?_ | refine Ks ?_ | refine Kq ?_ | refine Kt ?_ | ((refine Kh (fun hb => ?_) fun hb => ?_) <;> (try simp only [BL] at hb)) | refine Ka ?_ | refine Kb ?_ | refine Kc (hd := rfl) (e := ?_) | refine Kc (hd := icells_eq _) (e := ?_) | refine Kd (e := ?_) | refine Kl rfl ?_ | fail) <;> ((conv => whnf); repeat' (refine Z rfl ?_; conv => whnf)))
   all_goals first
    | (exfalso; omega)
    | exact absurd trivial hb
    | skip
   have hpl : pathI ns (.leaf c) at_ x = [at_] := rfl
   rw [hpl] at hp
   exact ⟨by rw [← hp, decide_eq_false hnext]⟩
 | node _ v n y o ty to_ hc hv hy ho =>
   have hvv := rvalue_meets v x
   obtain ⟨j2, tz, hj2, hdz, hpz, hsz⟩ : ∃ (j : Nat) (tz : Tr), (if n ≤ x.value v then (y : Int) else (o : Int)) = (j : Int) ∧ Den ns j tz ∧ (done ++ [at_]) ++ pathI ns tz j x = pathI ns (d 0) 0 x ∧ tz.sz < (Tr.node v n ty to_).sz := by
    rw [pathI, show yesI ns at_ = y from by simp [yesI, hc], show noI ns at_ = o from by simp [noI, hc]] at hp
    have := to_.sz_pos; have := ty.sz_pos
    by_cases h : n ≤ x.value v
    · rw [if_pos h] at hp
      exact ⟨y, ty, if_pos h, hy, by rw [← hp]; simp, by simp only [Tr.sz]; omega⟩
    · rw [if_neg h] at hp
      exact ⟨o, to_, if_neg h, ho, by rw [← hp]; simp, by simp only [Tr.sz]; omega⟩
   repeat' ((first | (intro hlq; (try simp only [SL] at hlq)) | refine Kn ⟨v, n, (y : Int), (o : Int), []⟩ ⟨by omega, by rw [Int.toNat_natCast, hc]⟩ ?_ | refine Ks ?_ | refine Kq ?_ | refine Kt ?_ | ((refine Kh (fun hb => ?_) fun hb => ?_) <;> (try simp only [BL] at hb)) | refine Ka ?_ | refine Kb ?_ | refine Kc (hd := rfl) (e := ?_) | refine Kc (hd := icells_eq _) (e := ?_) | refine Kd (e := ?_) | refine Kl rfl ?_ | fail) <;> ((conv => whnf); repeat' (refine Z rfl ?_; conv => whnf)))
   all_goals first
    | (exfalso; omega)
    | exact absurd hb hv
    | skip
   refine draw_rule tok (cf := {}) (by kernel_rfl) [.p 0, .p 1, .p 2, .p 3, .p 4, .p 5, .p 6, .p 8, .p 9, .p 10, .p 11, .p 12, .p 13, .s 7 [5,6,4,3,1,2,0], .p 14] (by kernel_rfl) ?_
   ((conv => whnf); repeat' (refine Z rfl ?_; conv => whnf))
   repeat' ((first | (intro hlq; (try simp only [SL] at hlq)) | refine Kn ⟨v, n, (y : Int), (o : Int), []⟩ ⟨by omega, by rw [Int.toNat_natCast, hc]⟩ ?_ | refine Meets.k (hvv) ?_ | refine Ks ?_ | refine Kq ?_ | refine Kt ?_ | ((refine Kh (fun hb => ?_) fun hb => ?_) <;> (try simp only [BL] at hb)) | refine Ka ?_ | refine Kb ?_ | refine Kc (hd := rfl) (e := ?_) | refine Kc (hd := icells_eq _) (e := ?_) | refine Kd (e := ?_) | refine Kl rfl ?_ | fail) <;> ((conv => whnf); repeat' (refine Z rfl ?_; conv => whnf)))
   · have e2 : (y : Int) = (j2 : Int) := by rw [← hj2, if_pos (by omega)]
     rw [e2]
     refine ⟨⟨(((j2, tz), k + 1), done ++ [at_]), ?_, ⟨⟨hdz, hpz⟩, hnext, by simp [hk]⟩, hsz⟩⟩
     repeat' (first | exact True.intro | exact rfl | refine And.intro ?_ ?_ | ((simp; done)))
   · have e2 : (o : Int) = (j2 : Int) := by rw [← hj2, if_neg (by omega)]
     rw [e2]
     refine ⟨⟨(((j2, tz), k + 1), done ++ [at_]), ?_, ⟨⟨hdz, hpz⟩, hnext, by simp [hk]⟩, hsz⟩⟩
     repeat' (first | exact True.intro | exact rfl | refine And.intro ?_ ?_ | ((simp; done)))
theorem tless_meets (x y : Env) : Meets Try.prog 29 [x.d, y.d] fun d => ∃ b, d = bD b ∧ (lexLe y x → b = false) := by
 refine enter tok {} Try.func29 rfl (by kernel_rfl) Try.ntmps29 (by simp) fun B0 W0 V0 lent g0 => ?_
 ((conv => whnf); repeat' (refine Z rfl ?_; conv => whnf))
 repeat' ((first | (intro hlq; (try simp only [SL] at hlq)) | refine Ks ?_ | refine Kq ?_ | refine Kt ?_ | ((refine Kh (fun hb => ?_) fun hb => ?_) <;> (try simp only [BL] at hb)) | refine Ka ?_ | refine Kb ?_ | refine Kc (hd := rfl) (e := ?_) | refine Kc (hd := icells_eq _) (e := ?_) | refine Kd (e := ?_) | refine Kl rfl ?_ | fail) <;> ((conv => whnf); repeat' (refine Z rfl ?_; conv => whnf)))
 all_goals refine ⟨⟨_, rfl, fun h => decide_eq_false ?_⟩⟩
 all_goals simp only [lexLe] at h; omega
theorem Reached_meets (l : List Step) (hl : l.length ≤ 1048576) (hok : ∀ s ∈ l, s.ok) (n : Int) : Meets Try.prog 8 [.sl (l.map Step.cells), iD n] fun d => d = bD true := by
 have hc := tCompile_meets l hl hok
 have hck := check_compile (l := l)
 generalize compileE l = r at *
 obtain ⟨ns, e⟩ := r
 dsimp only at hc hck
 have hmain : e = 0 → ns.length ≤ 4096 ∧ ∀ j : Nat, j < ns.length → ∃ g : Env, g.good = true ∧ reachE ns j = (g, true, 0) ∧ ∀ x : Env, ∃ b, Meets Try.prog 28 [treeD ns, x.d, iD j] (fun r => r = bD b) ∧ (x = g → b = true) ∧ (b = true → x.good = true → lexLe g x) := by
  intro h0
  have hc := hck h0
  obtain ⟨hlen, hok⟩ := checkE_iff.1 hc
  obtain ⟨d, hf⟩ := nodes_forest hok.nodes
  refine ⟨hlen, fun j hj => ?_⟩
  have hroot := hf.den 0 (by omega)
  have hfirst := is_first hf hok (den_ok hok.nodes hroot) hj
  refine ⟨_, hfirst.good, ?_, fun x => ⟨_, through_meets hf (by omega) x j hj, fun e => ?_, fun ht hx => hfirst.first x hx ht⟩⟩
  · rw [reachE, if_pos hc, if_neg (by omega), treeOf_eq hroot, Int.toNat_natCast, treeAt_eq (hf.den j hj)]
  · rw [e]; exact hfirst.thr
 refine enter tok {} Try.func8 rfl (by kernel_rfl) Try.ntmps8 (by simp) fun B0 W0 V0 lent g0 => ?_
 ((conv => whnf); repeat' (refine Z rfl ?_; conv => whnf))
 repeat' ((first | (intro hlq; (try simp only [SL] at hlq)) | refine Meets.k (sane_meets) ?_ | refine Ks ?_ | refine Kq ?_ | refine Kt ?_ | ((refine Kh (fun hb => ?_) fun hb => ?_) <;> (try simp only [BL] at hb)) | refine Ka ?_ | refine Kb ?_ | refine Kc (hd := rfl) (e := ?_) | refine Kc (hd := icells_eq _) (e := ?_) | refine Kd (e := ?_) | refine Kl rfl ?_ | fail) <;> ((conv => whnf); repeat' (refine Z rfl ?_; conv => whnf)))
 · exact absurd hb (by decide)
 refine (rFew_meets l hok).mono fun d hd => ?_
 obtain ⟨b, rfl, _⟩ := hd
 ((conv => whnf); repeat' (refine Z rfl ?_; conv => whnf))
 repeat' ((first | (intro hlq; (try simp only [SL] at hlq)) | refine Meets.k (hc) ?_ | refine Ks ?_ | refine Kq ?_ | refine Kt ?_ | ((refine Kh (fun hb => ?_) fun hb => ?_) <;> (try simp only [BL] at hb)) | refine Ka ?_ | refine Kb ?_ | refine Kc (hd := rfl) (e := ?_) | refine Kc (hd := icells_eq _) (e := ?_) | refine Kd (e := ?_) | refine Kl rfl ?_ | fail) <;> ((conv => whnf); repeat' (refine Z rfl ?_; conv => whnf)))
 all_goals try exact ⟨rfl⟩
 have h0 : e = 0 := by omega
 have hmain := hmain h0
 obtain ⟨hlen, hmain⟩ := hmain
 refine (env_meets n).mono ?_
 rintro _ ⟨y, rfl, gy⟩
 ((conv => whnf); repeat' (refine Z rfl ?_; conv => whnf))
 repeat' ((first | (intro hlq; (try simp only [SL] at hlq)) | refine Ks ?_ | refine Kq ?_ | refine Kt ?_ | refine Ka ?_ | refine Kb ?_ | refine Kc (hd := rfl) (e := ?_) | refine Kc (hd := icells_eq _) (e := ?_) | refine Kd (e := ?_) | refine Kl rfl ?_ | fail) <;> ((conv => whnf); repeat' (refine Z rfl ?_; conv => whnf)))
 refine loop_upd tok {} [] (X := Nat) (fun i => [(35, iB i)]) (fun _ => []) [] (fun i => i ≤ ns.length) (fun i => ns.length - i) 0 ?_
 ((conv => whnf); repeat' (refine Z rfl ?_; conv => whnf))
 refine And.intro ?_ ⟨by omega, fun i hi => ?_⟩
 · exact Kr
 ((conv => whnf); repeat' (refine Z rfl ?_; conv => whnf))
 refine ⟨fun h1 => ?_, fun h1 => ?_⟩ <;> (try simp only [BL] at h1) <;> ((conv => whnf); repeat' (refine Z rfl ?_; conv => whnf))
 · have h1' : i < ns.length := by omega
   have hx := hmain i h1'
   obtain ⟨g, gg, hr, hth⟩ := hx
   have hR := tReach_meets ns i
   rw [hr] at hR
   have hE := Env_meets g
   rw [gg, if_pos rfl] at hE
   have tg := hth g
   obtain ⟨b1, hT1, k1, _⟩ := tg
   have ty := hth y
   obtain ⟨b2, hT2, _, k2⟩ := ty
   rw [k1 rfl] at hT1
   have hL : b2 = true → Meets Try.prog 29 [y.d, g.d] fun d => d = bD false := fun h => (tless_meets y g).mono fun d hd => by
    obtain ⟨c, rfl, hc⟩ := hd
    rw [hc (k2 h gy)]
   clear hth k2 k1 hmain
   cases b2 with
   | true =>
     have hL := hL rfl
     repeat' ((first | (intro hlq; (try simp only [SL] at hlq)) | refine Meets.k (hR) ?_ | refine Meets.k (hE) ?_ | refine Meets.k (hT1) ?_ | refine Meets.k (hT2) ?_ | refine Meets.k (hL) ?_ | refine Ks ?_ | refine Kq ?_ | refine Kt ?_ | ((refine Kh (fun hb => ?_) fun hb => ?_) <;> (try simp only [BL] at hb)) | refine Ka ?_ | refine Kb ?_ | refine Kc (hd := rfl) (e := ?_) | refine Kc (hd := icells_eq _) (e := ?_) | refine Kd (e := ?_) | refine Kl rfl ?_ | fail) <;> ((conv => whnf); repeat' (refine Z rfl ?_; conv => whnf)))
     all_goals try contradiction
     all_goals try exact absurd hb (by decide)
     all_goals
      refine ⟨⟨i + 1, ?_, by omega, by omega⟩⟩
      repeat' (first | exact True.intro | exact rfl | refine And.intro ?_ ?_)
   | false =>
     repeat' ((first | (intro hlq; (try simp only [SL] at hlq)) | refine Meets.k (hR) ?_ | refine Meets.k (hE) ?_ | refine Meets.k (hT1) ?_ | refine Meets.k (hT2) ?_ | refine Ks ?_ | refine Kq ?_ | refine Kt ?_ | ((refine Kh (fun hb => ?_) fun hb => ?_) <;> (try simp only [BL] at hb)) | refine Ka ?_ | refine Kb ?_ | refine Kc (hd := rfl) (e := ?_) | refine Kc (hd := icells_eq _) (e := ?_) | refine Kd (e := ?_) | refine Kl rfl ?_ | fail) <;> ((conv => whnf); repeat' (refine Z rfl ?_; conv => whnf)))
     all_goals try contradiction
     all_goals try exact absurd hb (by decide)
     all_goals
      refine ⟨⟨i + 1, ?_, by omega, by omega⟩⟩
      repeat' (first | exact True.intro | exact rfl | refine And.intro ?_ ?_)
 · repeat' ((first | (intro hlq; (try simp only [SL] at hlq)) | refine Ks ?_ | refine Kq ?_ | refine Kt ?_ | refine Ka ?_ | refine Kb ?_ | refine Kc (hd := rfl) (e := ?_) | refine Kc (hd := icells_eq _) (e := ?_) | refine Kd (e := ?_) | refine Kl rfl ?_ | fail) <;> ((conv => whnf); repeat' (refine Z rfl ?_; conv => whnf)))
   exact ⟨rfl⟩
end Go.Proofs.Ytacclfgmgphljaa.Dx
/- A LAW OF TREES, each node is reached by the first environment that leads to it: true at every input that holds at most 1048576 values. -/
namespace Go.Proofs.Ytacclfgmgphljaa.TreesReached
open Go Go.RowKit Go.ChangeShapes Dx
set_option maxRecDepth 100000
theorem own : ownKnob Try.prog.godebug = none := by kernel_rfl
theorem laid : laidOutB Try.prog = true := by kernel_rfl
theorem glob {W : World} (h : W.ShapedOpen Try.prog) : Glob (V0 W) := True.intro
theorem contract (H : Type) (enc : TypeId × Value → H) (W : World) (base : Nat) (args : Array Value) (ds gs : List (DataW H)) (before : List MemPlace)
 (hval : ∀ (j : Nat) t v, Try.f8.params[j]? = some t → args[j]? = some v → Value.okWide Try.prog W .any base t v)
 (hW : DataW.Whole enc Try.prog Try.f8.params.toList Rows.treesReachedSpec.vars false W args.toList ds gs before) (hk : Rows.uptoSmall H (ds ++ gs) = true) (hsh : W.ShapedOpen Try.prog) :
 Calls Try.prog 8 args W fun e W' => ∃ v, e = .returned v ∧ Rows.treesReachedSpec.post enc Try.prog Try.f8 false true false false W args v W' := by
 refine says tok closedC laid (fn := Try.f8) (tb := 4) rfl Try.underlying4 (by kernel_rfl) (fun ds ms h hm => ?_) rfl (fun xs hx => ?_) (glob hsh) hval hW hk
 · have h : TyVs T [41, 3] ds ms := h
   obtain ⟨x0, xs, k0, ms, rfl, rfl, h0, h⟩ := tyVs_cons h
   obtain ⟨x1, xs, k1, ms, rfl, rfl, h1, h⟩ := tyVs_cons h
   obtain ⟨rfl, rfl⟩ := tyVs_nil h
   simp only [List.sum_cons, List.sum_nil] at hm
   obtain ⟨v0, rfl, g0, f0⟩ := vStepsM h0 (by omega)
   obtain ⟨v1, rfl⟩ := vInt h1
   exact Reached_meets v0 (by omega) f0 v1
 · match xs, hx with
   | [x0, x1], _ => rfl
theorem lifted (os : Os) (started : os.Started) (H : Type) (enc : TypeId × Value → H) (F : Stop.Interp) :
 ReturnsInHanded {} Try.checked os 8 .any ((Rows.OpenSpec.upto Rows.treesReachedSpec).pre6 enc Try.prog Try.f8 Rows.treesReachedUptoRow.domain false) (((Rows.OpenSpec.upto Rows.treesReachedSpec).at F).post enc Try.prog Try.f8 false true false false) := by
 refine returnsInHanded_of_cond_shaped (C := Try.checked) (s := Rows.OpenSpec.upto Rows.treesReachedSpec) (k := Rows.uptoSmall) rfl own started (by kernel_rfl) Try.func8
  (OpenSpec.witness (enc := enc) (C := Try.checked) (s := Rows.OpenSpec.upto Rows.treesReachedSpec) (k := Rows.uptoSmall) rfl false
    ⟨#[], #[.slice none 0 0, .int .i64 0], []⟩ 8 (by kernel_rfl) (by kernel_rfl) (by kernel_rfl)
    (x := ([.nil, .lit (.int .i64 0)], [], [])) (by kernel_rfl) rfl (by kernel_rfl)) ?_
 intro W base args ds gs before hval hW hk hsh
 exact contract H enc W base args ds gs before hval hW hk hsh
theorem over : Rows.treesReachedUptoRow.holds Try.pinned (Rows.OpenSpec.upto Rows.treesReachedSpec) :=
 OpenClaim.holds_of_cond 8 Try.f8 rfl rfl rfl rfl rfl rfl rfl ⟨rfl, rfl, rfl, rfl, rfl⟩ rfl rfl rfl rfl rfl (by kernel_rfl) Try.func8 (by kernel_rfl)
  (of_decide_eq_true (by kernel_rfl)) (by unfold Func.isWrapper; first | (rw [if_pos (by decide +kernel)]; kernel_rfl) | (rw [if_neg (by decide +kernel)]; exact ⟨rfl, rfl⟩))
  (fun os started H enc _ F => lifted os started H enc F)
theorem proved : Rows.TreesReachedUptoSaid := over
#print axioms proved
end Go.Proofs.Ytacclfgmgphljaa.TreesReached
