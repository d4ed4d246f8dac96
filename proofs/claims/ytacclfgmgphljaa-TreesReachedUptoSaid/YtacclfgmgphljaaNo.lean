/- Chapter 10: TreesMeaning, the walk. -/
import Derived.Test.YtacclfgmgphljaaNm
set_option linter.all false
namespace Go.Proofs.Ytacclfgmgphljaa.Dx
open Go Go.RowKit
set_option maxRecDepth 100000
set_option maxHeartbeats 16000000
theorem direct_ok {l : List Step} (h : (compileE l).2 = 0) {x : Env} (hx : x.good = true) : directE l x = (Step.appL x l [], 0) := by
 rw [directE, if_pos (compile_ok h).1, if_pos hx]
theorem check_compile {l : List Step} (h : (compileE l).2 = 0) : checkE (compileE l).1 = 0 := by
 obtain ⟨h1, h2, h3⟩ := compile_ok h
 rw [h3]
 exact ser_check (treeL_ok h1) h2
theorem Meaning_meets (l : List Step) (hl : l.length ≤ 1048576) (hok : ∀ s ∈ l, s.ok) (n m : Int) : Meets Try.prog 5 [.sl (l.map Step.cells), iD n, iD m] fun d => d = bD true := by
 have hc := tCompile_meets l hl hok
 have hbad := compile_bad (l := l)
 have hck := check_compile (l := l)
 have hev : (compileE l).2 = 0 → ∀ x : Env, x.good = true → evalE (compileE l).1 x = (Step.appL x l [], 0) := fun h x hx => eval_compile h hx
 have hdir : (compileE l).2 = 0 → ∀ x : Env, x.good = true → directE l x = (Step.appL x l [], 0) := fun h x hx => direct_ok h hx
 have htie := tTies l hl hok
 have hDir := fun x => Direct_meets l x hl hok
 generalize compileE l = r at *
 obtain ⟨ns, e⟩ := r
 generalize tiesE l = t at *
 dsimp only at hc hbad hck hev hdir
 refine enter tok {priv := [50]} Try.func5 rfl (by kernel_rfl) Try.ntmps5 (by simp) fun B0 W0 V0 lent g0 => ?_
 ((conv => whnf); repeat' (refine vcC_go tok {priv := [50]} rfl ?_; conv => whnf))
 repeat' ((first | (intro hlq; (try simp only [SL] at hlq)) | refine Meets.k (sane_meets) ?_ | refine Ks ?_ | refine Kq ?_ | refine Kt ?_ | ((refine Kh (fun hb => ?_) fun hb => ?_) <;> (try simp only [BL] at hb)) | refine Ka ?_ | refine Kb ?_ | refine Kc (hd := rfl) (e := ?_) | refine Kc (hd := icells_eq _) (e := ?_) | refine Kd (e := ?_) | refine Kl rfl ?_ | fail) <;> ((conv => whnf); repeat' (refine vcC_go tok {priv := [50]} rfl ?_; conv => whnf)))
 · exact absurd hb (by decide)
 refine (rFew_meets l hok).mono fun d hd => ?_
 obtain ⟨b, rfl, _⟩ := hd
 ((conv => whnf); repeat' (refine vcC_go tok {priv := [50]} rfl ?_; conv => whnf))
 repeat' ((first | (intro hlq; (try simp only [SL] at hlq)) | refine Meets.k (hc) ?_ | refine Meets.k (htie) ?_ | refine Ks ?_ | refine Kq ?_ | refine Kt ?_ | ((refine Kh (fun hb => ?_) fun hb => ?_) <;> (try simp only [BL] at hb)) | refine Ka ?_ | refine Kb ?_ | refine Kc (hd := rfl) (e := ?_) | refine Kc (hd := icells_eq _) (e := ?_) | refine Kd (e := ?_) | refine Kl rfl ?_ | fail) <;> ((conv => whnf); repeat' (refine vcC_go tok {priv := [50]} rfl ?_; conv => whnf)))
 all_goals try exact ⟨rfl⟩
 · have h1 := hbad (by omega)
   exact ⟨congrArg bD (decide_eq_true (by omega))⟩
 · have h1 := hbad (by omega)
   have h2 := congrArg List.length h1.1
   rw [List.length_nil] at h2
   exfalso; omega
 have h0 : e = 0 := by omega
 have hck := hck h0
 have hev := hev h0
 have hdir := hdir h0
 have hk := tCheck_meets ns
 rw [hck] at hk
 repeat' ((first | (intro hlq; (try simp only [SL] at hlq)) | refine Meets.k (hk) ?_ | refine Ks ?_ | refine Kq ?_ | refine Kt ?_ | ((refine Kh (fun hb => ?_) fun hb => ?_) <;> (try simp only [BL] at hb)) | refine Ka ?_ | refine Kb ?_ | refine Kc (hd := rfl) (e := ?_) | refine Kc (hd := icells_eq _) (e := ?_) | refine Kd (e := ?_) | refine Kl rfl ?_ | fail) <;> ((conv => whnf); repeat' (refine vcC_go tok {priv := [50]} rfl ?_; conv => whnf)))
 · exact absurd hb (by decide)
 refine (env_meets n).mono ?_
 rintro _ ⟨x1, rfl, g1⟩
 ((conv => whnf); repeat' (refine vcC_go tok {priv := [50]} rfl ?_; conv => whnf))
 refine (env_meets m).mono ?_
 rintro _ ⟨x2, rfl, g2⟩
 ((conv => whnf); repeat' (refine vcC_go tok {priv := [50]} rfl ?_; conv => whnf))
 refine (env_meets _).mono ?_
 rintro _ ⟨x3, rfl, g3⟩
 ((conv => whnf); repeat' (refine vcC_go tok {priv := [50]} rfl ?_; conv => whnf))
 repeat' ((first | (intro hlq; (try simp only [SL] at hlq)) | refine Ks ?_ | refine Kq ?_ | refine Kt ?_ | refine Ka ?_ | refine Kb ?_ | refine Kc (hd := rfl) (e := ?_) | refine Kc (hd := icells_eq _) (e := ?_) | refine Kd (e := ?_) | refine Kl rfl ?_ | fail) <;> ((conv => whnf); repeat' (refine vcC_go tok {priv := [50]} rfl ?_; conv => whnf)))
 have hxs : ∀ i : Nat, i < 5 → ∃ x : Env, x.good = true ∧ ([x1, x2, x3, ⟨0, 0, 0⟩, ⟨7, 4000, 1⟩] : List Env)[i]? = some x := by
  intro i hi
  rcases (by omega : i = 0 ∨ i = 1 ∨ i = 2 ∨ i = 3 ∨ i = 4) with rfl | rfl | rfl | rfl | rfl
  · exact ⟨_, g1, rfl⟩
  · exact ⟨_, g2, rfl⟩
  · exact ⟨_, g3, rfl⟩
  · exact ⟨_, by decide, rfl⟩
  · exact ⟨_, by decide, rfl⟩
 refine loop_upd tok {} [] (X := Nat) (fun i => [(56, iB i)]) (fun _ => []) [] (fun i => i ≤ 5) (fun i => 5 - i) 0 ?_
 ((conv => whnf); repeat' (refine vcC_go tok {priv := [50]} rfl ?_; conv => whnf))
 refine And.intro ?_ ⟨by omega, fun i hi => ?_⟩
 · exact Kr
 ((conv => whnf); repeat' (refine vcC_go tok {priv := [50]} rfl ?_; conv => whnf))
 refine ⟨fun h1 => ?_, fun h1 => ?_⟩ <;> (try simp only [BL] at h1) <;> ((conv => whnf); repeat' (refine vcC_go tok {priv := [50]} rfl ?_; conv => whnf))
 · have h1' : i < 5 := by simp only [List.length_cons, List.length_nil] at h1; omega
   have hx := hxs i h1'
   obtain ⟨x, gx, hx⟩ := hx
   have hE := tEval_meets ns x
   rw [hev x gx] at hE
   have hD := hDir x
   rw [hdir x gx] at hD
   have hS := Same_meets (Step.appL x l []) (Step.appL x l [])
   rw [decide_eq_true rfl] at hS
   refine ⟨[iD x.distance, iD x.field, iD x.short], ⟨by omega, ?_, rfl⟩, ?_⟩
   · rw [Int.toNat_natCast]
     have := congrArg (Option.map fun x : Env => [iD x.distance, iD x.field, iD x.short]) hx
     rw [← List.getElem?_map] at this
     exact this
   ((conv => whnf); repeat' (refine vcC_go tok {priv := [50]} rfl ?_; conv => whnf))
   repeat' ((first | (intro hlq; (try simp only [SL] at hlq)) | refine Meets.k (hE) ?_ | refine Meets.k (hD) ?_ | refine Meets.k (hS) ?_ | refine Ks ?_ | refine Kq ?_ | refine Kt ?_ | ((refine Kh (fun hb => ?_) fun hb => ?_) <;> (try simp only [BL] at hb)) | refine Ka ?_ | refine Kb ?_ | refine Kc (hd := rfl) (e := ?_) | refine Kc (hd := icells_eq _) (e := ?_) | refine Kd (e := ?_) | refine Kl rfl ?_ | fail) <;> ((conv => whnf); repeat' (refine vcC_go tok {priv := [50]} rfl ?_; conv => whnf)))
   all_goals try exact absurd trivial hb
   all_goals try exact absurd hb (by decide)
   refine ⟨⟨i + 1, ?_, by omega, by omega⟩⟩
   repeat' (first | exact True.intro | exact rfl | refine And.intro ?_ ?_)
 · exact ⟨rfl⟩
end Go.Proofs.Ytacclfgmgphljaa.Dx
