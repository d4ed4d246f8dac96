/- The reference of chapter 10: Reach. -/
import Derived.Test.YtacclfgmgphljaaNm
set_option linter.all false
namespace Go.Proofs.Ytacclfgmgphljaa.Dx
open Go Go.RowKit
set_option maxRecDepth 100000
set_option maxHeartbeats 16000000
theorem sub_index {ns : List Node} {t : Tr} : ∀ {i : Nat}, Den ns i t → ∀ {w n : Int} {y o : Tr}, Sub (.node w n y o) t → n ∈ nodeNums ns w := by
 induction t with
 | leaf c => intro i _ w n y o hs; cases hs
 | node v m s u ihs ihu =>
   intro i h w n y o hs
   cases h with
   | node _ _ _ yi oi _ _ hg hv hy ho =>
     cases hs with
     | refl => exact List.mem_map.2 ⟨_, List.mem_filter.2 ⟨List.mem_of_getElem? hg, by simp⟩, rfl⟩
     | yes hs => exact ihs hy hs
     | no hs => exact ihu ho hs
theorem startsL_all {ns : List Node} (h : NodesOk ns) {v : Int} (hv : 1 ≤ v ∧ v ≤ 3) : Row v (startsL ns v) := by
 have := startsL_row h hv ns.length
 rwa [List.take_length] at this
/-- a valid tree's meaning is canonical -/
theorem den_ok {ns : List Node} (h : NodesOk ns) {t : Tr} : ∀ {i : Nat}, Den ns i t → t.ok := by
 induction t with
 | leaf c =>
   intro i hd
   cases hd with
   | leaf _ _ hg =>
     rcases h.1 _ (List.mem_of_getElem? hg) with h1 | h1
     · exact h1.1
     · exact absurd h1.1.1 (by simp)
 | node v n y o ihy iho =>
   intro i hd
   cases hd with
   | node _ _ _ yi oi _ _ hg hv hy ho =>
     refine ⟨?_, ihy hy, iho ho⟩
     rcases h.1 _ (List.mem_of_getElem? hg) with h1 | ⟨q1, q2, q3, q4, yn, on, ⟨_, hyn⟩, ⟨_, hon⟩, q5, q6⟩
     · exact absurd h1.2.1 hv
     · simp only [Int.toNat_natCast] at hyn hon
       have ey := den_var hy hyn
       have eo := den_var ho hon
       refine ⟨q1, q3, fun e => ?_, ?_, ?_⟩
       · subst e; exact q4 (congrArg (fun k : Nat => (k : Int)) (Den.inj h.2 hy ho))
       · rw [← eo.1]; exact q5
       · rw [← ey.1, ← ey.2]
         rcases q6 with q | q | ⟨qa, qb, qc⟩
         · exact .inl q
         · exact .inr (.inl q)
         · refine .inr (.inr ⟨qa, qb, fun e => qc ?_⟩)
           cases hy with
           | leaf _ c hc => rw [hc] at hyn; cases hyn; exact absurd qa.symm hv
           | node _ v' n' y' o' ty' to' hc hv' hy' ho' =>
             rw [hc] at hyn
             cases hyn
             simp only [Tr.no] at e
             subst e
             exact congrArg (fun k : Nat => (k : Int)) (Den.inj h.2 ho' ho)
/-- the first environment that leads to a node has only values of starts -/
structure IsFirst (ns : List Node) (d : Nat → Tr) (j : Nat) (g : Env) : Prop where
 in1 : g.distance ∈ startsL ns 1
 in2 : g.field ∈ startsL ns 2
 in3 : g.short ∈ startsL ns 3
 good : g.good = true
 thr : thr (d j) (d 0) g = true
 first : ∀ x : Env, x.good = true → Dx.thr (d j) (d 0) x = true → lexLe g x
theorem low_zero {t : Tr} (h : t.ok) : Low ⟨0, 0, 0⟩ t := by
 cases t with
 | leaf c => trivial
 | node v n y o =>
   refine ⟨?_, fun w _ _ => ?_⟩
   · have := h.1.2.1.1
     rw [show (⟨0, 0, 0⟩ : Env).value v = 0 by simp [Env.value]]; exact this
   · simp [Env.value]
theorem is_first {ns : List Node} {d : Nat → Tr} (hf : Forest ns d) (hok : TreeOk ns) (h0 : (d 0).ok) {j : Nat} (hj : j < ns.length) : IsFirst ns d j (greedy (d j) (d 0) ⟨0, 0, 0⟩) := by
 have hroot := hf.den 0 (by omega)
 have hin : ∀ w, 1 ≤ w ∧ w ≤ 3 → (greedy (d j) (d 0) ⟨0, 0, 0⟩).value w ∈ startsL ns w := by
  intro w hw
  refine ((vals1_spec _).2 _).2 ?_
  rcases greedy_from (S := d j) (e := ⟨0, 0, 0⟩) h0 w hw with h | ⟨y, o, h⟩
  · rw [h]; exact List.mem_append_left _ (by simp [Env.value])
  · exact List.mem_append_right _ (sub_index hroot h)
 refine ⟨hin 1 (by decide), hin 2 (by decide), hin 3 (by decide), greedy_good h0 (by decide), greedy_thr h0 (low_zero h0) (all_sub hok hf hj), fun x hx ht => greedy_first hx h0 (low_zero h0) ht ?_⟩
 have hg := good_iff.1 hx
 simp only [lexLe]
 omega
/-- what is met first is it -/
theorem first_found {ns : List Node} {d : Nat → Tr} {j : Nat} {g : Env} (hn : NodesOk ns) (h : IsFirst ns d j g) {i k m : Nat} (hi : i < (startsL ns 1).length) (hk : k < (startsL ns 2).length) (hm : m < (startsL ns 3).length)
 (h1 : g.distance ∈ (startsL ns 1).drop i) (h2 : (startsL ns 1)[i] = g.distance → g.field ∈ (startsL ns 2).drop k) (h3 : (startsL ns 1)[i] = g.distance → (startsL ns 2)[k] = g.field → g.short ∈ (startsL ns 3).drop m) :
 (thr (d j) (d 0) ⟨(startsL ns 1)[i], (startsL ns 2)[k], (startsL ns 3)[m]⟩ = true → (⟨(startsL ns 1)[i], (startsL ns 2)[k], (startsL ns 3)[m]⟩ : Env) = g) ∧
 (thr (d j) (d 0) ⟨(startsL ns 1)[i], (startsL ns 2)[k], (startsL ns 3)[m]⟩ = false → (startsL ns 1)[i] = g.distance → (startsL ns 2)[k] = g.field → g.short ∈ (startsL ns 3).drop (m + 1)) := by
 have r1 := startsL_all hn (v := 1) (by decide)
 have r2 := startsL_all hn (v := 2) (by decide)
 have r3 := startsL_all hn (v := 3) (by decide)
 have low : ∀ {l : List Int} {k : Nat} {y : Int} (hs : l.Pairwise (· < ·)) (hk : k < l.length), y ∈ l.drop k → l[k] ≤ y := by
  intro l k y hs hk hy
  rw [List.drop_eq_getElem_cons hk] at hy
  rcases List.mem_cons.1 hy with rfl | hy
  · exact Int.le_refl _
  · obtain ⟨q, hq, rfl⟩ := List.mem_iff_getElem.1 hy
    rw [List.getElem_drop]
    rw [List.length_drop] at hq
    exact Int.le_of_lt (List.pairwise_iff_getElem.1 hs k (k + 1 + q) hk (by omega) (by omega))
 have g1 := r1.mem _ (List.getElem_mem hi)
 have g2 := r2.mem _ (List.getElem_mem hk)
 have g3 := r3.mem _ (List.getElem_mem hm)
 have l1 := low r1.sorted hi h1
 constructor
 · intro ht
   have hl := h.first _ (good_iff.2 ⟨g1, g2, g3⟩) ht
   simp only [lexLe] at hl
   have e1 : (startsL ns 1)[i] = g.distance := by omega
   have l2 := low r2.sorted hk (h2 e1)
   have e2 : (startsL ns 2)[k] = g.field := by omega
   have l3 := low r3.sorted hm (h3 e1 e2)
   have e3 : (startsL ns 3)[m] = g.short := by omega
   rw [e1, e2, e3]
 · intro ht e1 e2
   have h3 := h3 e1 e2
   rw [List.drop_eq_getElem_cons hm] at h3
   rcases List.mem_cons.1 h3 with e | e
   · rw [e1, e2, ← e] at ht
     have h4 := h.thr
     have : (⟨g.distance, g.field, g.short⟩ : Env) = g := rfl
     rw [this, h4] at ht
     cases ht
   · exact e
theorem drop_next {l : List Int} {k : Nat} {y : Int} (hk : k < l.length) (h : y ∈ l.drop k) (hne : l[k] ≠ y) : y ∈ l.drop (k + 1) := by
 rw [List.drop_eq_getElem_cons hk] at h
 rcases List.mem_cons.1 h with e | e
 · exact absurd e.symm hne
 · exact e
theorem rReach_meets (ns : List Node) (hl : ns.length ≤ 4096) (k : Int) : Meets Try.prog 20 [treeD ns, iD k] fun d => d = .tup [(reachE ns k).1.d, bD (reachE ns k).2.1, iD (reachE ns k).2.2] := by
 by_cases hc : checkE ns = 0
 rotate_left 1
 · refine enter tok {} Try.func20 rfl (by kernel_rfl) Try.ntmps20 (by simp) fun B0 W0 V0 lent g0 => ?_
   ((conv => whnf); repeat' (refine Z rfl ?_; conv => whnf))
   refine Meets.k (rCheck_meets ns) ?_
   ((conv => whnf); repeat' (refine Z rfl ?_; conv => whnf))
   refine ⟨fun h1 => ?_, fun h1 => ?_⟩ <;> (try simp only [BL] at h1) <;> ((conv => whnf); repeat' (refine Z rfl ?_; conv => whnf))
   · exact ⟨by rw [reachE, if_neg h1]⟩
   · exact absurd (by omega) hc
 obtain ⟨hlen, hok⟩ := checkE_iff.1 hc
 by_cases hk0 : k < 0 ∨ (ns.length : Int) ≤ k
 · have hres : reachE ns k = (⟨0, 0, 0⟩, false, 1) := by rw [reachE, if_pos hc, if_pos hk0]
   rw [hres]
   refine enter tok {} Try.func20 rfl (by kernel_rfl) Try.ntmps20 (by simp) fun B0 W0 V0 lent g0 => ?_
   ((conv => whnf); repeat' (refine Z rfl ?_; conv => whnf))
   refine Meets.k (rCheck_meets ns) ?_
   ((conv => whnf); repeat' (refine Z rfl ?_; conv => whnf))
   refine ⟨fun h1 => ?_, fun h1 => ?_⟩ <;> (try simp only [BL] at h1) <;> ((conv => whnf); repeat' (refine Z rfl ?_; conv => whnf))
   · exact absurd hc h1
   repeat' ((first | (intro hlq; (try simp only [SL] at hlq)) | refine Ks ?_ | refine Kq ?_ | refine Kt ?_ | ((refine Kh (fun hb => ?_) fun hb => ?_) <;> (try simp only [BL] at hb)) | refine Ka ?_ | refine Kb ?_ | refine Kc (hd := rfl) (e := ?_) | refine Kc (hd := icells_eq _) (e := ?_) | refine Kd (e := ?_) | refine Kl rfl ?_ | fail) <;> ((conv => whnf); repeat' (refine Z rfl ?_; conv => whnf)))
   · exact ⟨rfl⟩
   · exact ⟨rfl⟩
   · exfalso; omega
 obtain ⟨j, rfl⟩ : ∃ j : Nat, k = j := ⟨k.toNat, by omega⟩
 have hk : j < ns.length := by omega
 obtain ⟨d, hf⟩ := nodes_forest hok.nodes
 have hroot := hf.den 0 (by omega)
 have hres : reachE ns (j : Int) = (greedy (d j) (d 0) ⟨0, 0, 0⟩, true, 0) := by
  rw [reachE, if_pos hc, if_neg hk0, treeOf_eq hroot, Int.toNat_natCast, treeAt_eq (hf.den j hk)]
 have hfirst := is_first hf hok (den_ok hok.nodes hroot) hk
 rw [hres]
 generalize greedy (d j) (d 0) ⟨0, 0, 0⟩ = g at hfirst
 have r1 := startsL_all hok.nodes (v := 1) (by decide)
 have r2 := startsL_all hok.nodes (v := 2) (by decide)
 have r3 := startsL_all hok.nodes (v := 3) (by decide)
 have s1 := starts_meets hok.nodes (by omega) 1 (by decide)
 have s2 := starts_meets hok.nodes (by omega) 2 (by decide)
 have s3 := starts_meets hok.nodes (by omega) 3 (by decide)
 have hmain : ∀ i k m (hi : i < (startsL ns 1).length) (hk : k < (startsL ns 2).length) (hm : m < (startsL ns 3).length), g.distance ∈ (startsL ns 1).drop i → ((startsL ns 1)[i] = g.distance → g.field ∈ (startsL ns 2).drop k) → ((startsL ns 1)[i] = g.distance → (startsL ns 2)[k] = g.field → g.short ∈ (startsL ns 3).drop m) →
  ∃ b, decide (j ∈ pathI ns (d 0) 0 ⟨(startsL ns 1)[i], (startsL ns 2)[k], (startsL ns 3)[m]⟩) = b ∧ (b = true → (⟨(startsL ns 1)[i], (startsL ns 2)[k], (startsL ns 3)[m]⟩ : Env) = g) ∧ (b = false → (startsL ns 1)[i] = g.distance → (startsL ns 2)[k] = g.field → g.short ∈ (startsL ns 3).drop (m + 1)) := by
  intro i k m hi hk' hm h1 h2 h3
  have := first_found hok.nodes hfirst hi hk' hm h1 h2 h3
  exact ⟨_, pathI_thr hf hk hroot, this.1, this.2⟩
 have f1 := hfirst.in1
 have f2 := hfirst.in2
 have f3 := hfirst.in3
 have hpath := fun x => path_meets hf (by omega) (by omega) x
 clear hfirst hres
 generalize startsL ns 1 = a at *
 generalize startsL ns 2 = b at *
 generalize startsL ns 3 = c at *
 have la := r1.len
 have lb := r2.len
 have lc := r3.len
 have m1 := most_le 1
 have m2 := most_le 2
 have m3 := most_le 3
 refine enter tok {} Try.func20 rfl (by kernel_rfl) Try.ntmps20 (by simp) fun B0 W0 V0 lent g0 => ?_
 ((conv => whnf); repeat' (refine Z rfl ?_; conv => whnf))
 refine Meets.k (rCheck_meets ns) ?_
 ((conv => whnf); repeat' (refine Z rfl ?_; conv => whnf))
 refine ⟨fun h1 => ?_, fun h1 => ?_⟩ <;> (try simp only [BL] at h1) <;> ((conv => whnf); repeat' (refine Z rfl ?_; conv => whnf))
 · exact absurd hc h1
 repeat' ((first | (intro hlq; (try simp only [SL] at hlq)) | refine Ks ?_ | refine Kq ?_ | refine Kt ?_ | ((refine Kh (fun hb => ?_) fun hb => ?_) <;> (try simp only [BL] at hb)) | refine Ka ?_ | refine Kb ?_ | refine Kc (hd := rfl) (e := ?_) | refine Kc (hd := icells_eq _) (e := ?_) | refine Kd (e := ?_) | refine Kl rfl ?_ | fail) <;> ((conv => whnf); repeat' (refine Z rfl ?_; conv => whnf)))
 · exact absurd (.inl hb) hk0
 · exact absurd (.inr (by omega)) hk0
 repeat' ((first | (intro hlq; (try simp only [SL] at hlq)) | refine Meets.k (s1) ?_ | refine Meets.k (s2) ?_ | refine Meets.k (s3) ?_ | refine Ks ?_ | refine Kq ?_ | refine Kt ?_ | ((refine Kh (fun hb => ?_) fun hb => ?_) <;> (try simp only [BL] at hb)) | refine Ka ?_ | refine Kb ?_ | refine Kc (hd := rfl) (e := ?_) | refine Kc (hd := icells_eq _) (e := ?_) | refine Kd (e := ?_) | refine Kl rfl ?_ | fail) <;> ((conv => whnf); repeat' (refine Z rfl ?_; conv => whnf)))
 refine loop_upd tok {} [] (X := Nat) (fun i => [(11, iB i)]) (fun _ => []) [] (fun i => i ≤ a.length ∧ g.distance ∈ a.drop i) (fun i => a.length - i) 0 ?_
 ((conv => whnf); repeat' (refine Z rfl ?_; conv => whnf))
 refine And.intro ?_ ⟨⟨by omega, f1⟩, fun i hΦ => ?_⟩
 · exact Kr
 obtain ⟨hi, hd1⟩ := hΦ
 ((conv => whnf); repeat' (refine Z rfl ?_; conv => whnf))
 repeat' ((first | (intro hlq; (try simp only [SL] at hlq)) | refine Ks ?_ | refine Kq ?_ | refine Kt ?_ | refine Ka ?_ | refine Kb ?_ | refine Kc (hd := rfl) (e := ?_) | refine Kc (hd := icells_eq _) (e := ?_) | refine Kd (e := ?_) | refine Kl rfl ?_ | fail) <;> ((conv => whnf); repeat' (refine Z rfl ?_; conv => whnf)))
 refine ⟨fun q1 => ?_, fun q1 => ?_⟩ <;> (try simp only [BL] at q1) <;> ((conv => whnf); repeat' (refine Z rfl ?_; conv => whnf))
 · have hi' : i < a.length := by omega
   refine loop_upd tok {} [] (X := Nat) (fun k => [(12, iB k)]) (fun _ => []) [] (fun k => k ≤ b.length ∧ (a[i] = g.distance → g.field ∈ b.drop k)) (fun k => b.length - k) 0 ?_
   ((conv => whnf); repeat' (refine Z rfl ?_; conv => whnf))
   refine And.intro ?_ ⟨⟨by omega, fun _ => f2⟩, fun k hΦ2 => ?_⟩
   · exact Kr
   obtain ⟨hk2, hd2⟩ := hΦ2
   ((conv => whnf); repeat' (refine Z rfl ?_; conv => whnf))
   repeat' ((first | (intro hlq; (try simp only [SL] at hlq)) | refine Ks ?_ | refine Kq ?_ | refine Kt ?_ | refine Ka ?_ | refine Kb ?_ | refine Kc (hd := rfl) (e := ?_) | refine Kc (hd := icells_eq _) (e := ?_) | refine Kd (e := ?_) | refine Kl rfl ?_ | fail) <;> ((conv => whnf); repeat' (refine Z rfl ?_; conv => whnf)))
   refine ⟨fun q2 => ?_, fun q2 => ?_⟩ <;> (try simp only [BL] at q2) <;> ((conv => whnf); repeat' (refine Z rfl ?_; conv => whnf))
   · have hk' : k < b.length := by omega
     refine loop_upd tok {} [] (X := Nat) (fun m => [(13, iB m)]) (fun _ => []) [] (fun m => m ≤ c.length ∧ (a[i] = g.distance → b[k] = g.field → g.short ∈ c.drop m)) (fun m => c.length - m) 0 ?_
     ((conv => whnf); repeat' (refine Z rfl ?_; conv => whnf))
     refine And.intro ?_ ⟨⟨by omega, fun _ _ => f3⟩, fun m hΦ3 => ?_⟩
     · exact Kr
     obtain ⟨hm2, hd3⟩ := hΦ3
     ((conv => whnf); repeat' (refine Z rfl ?_; conv => whnf))
     repeat' ((first | (intro hlq; (try simp only [SL] at hlq)) | refine Ks ?_ | refine Kq ?_ | refine Kt ?_ | refine Ka ?_ | refine Kb ?_ | refine Kc (hd := rfl) (e := ?_) | refine Kc (hd := icells_eq _) (e := ?_) | refine Kd (e := ?_) | refine Kl rfl ?_ | fail) <;> ((conv => whnf); repeat' (refine Z rfl ?_; conv => whnf)))
     refine ⟨fun q3 => ?_, fun q3 => ?_⟩ <;> (try simp only [BL] at q3) <;> ((conv => whnf); repeat' (refine Z rfl ?_; conv => whnf))
     · have hm' : m < c.length := by omega
       have hmm := hmain i k m hi' hk' hm' hd1 hd2 hd3
       obtain ⟨r, hr, hr1, hr2⟩ := hmm
       have hin := hasN_meets (pathI ns (d 0) 0 ⟨a[i], b[k], c[m]⟩) j
       rw [hr] at hin
       refine draw_rule tok (cf := {}) (by kernel_rfl) [.p 0, .p 1, .p 2, .p 3, .p 4, .p 5, .p 6, .p 7, .p 8, .p 9, .p 10, .p 11, .p 12, .s 13 [], .s 14 [12,0,1,2,3,4,5,6,7,8,9,10,11]] (by kernel_rfl) ?_
       ((conv => whnf); repeat' (refine Z rfl ?_; conv => whnf))
       repeat' ((first | (intro hlq; (try simp only [SL] at hlq)) | refine Meets.k (hpath ⟨a[i], b[k], c[m]⟩) ?_ | refine Meets.k (hin) ?_ | refine Ks ?_ | refine Kq ?_ | refine Kt ?_ | ((refine Kh (fun hb => ?_) fun hb => ?_) <;> (try simp only [BL] at hb)) | refine Ka ?_ | refine Kb ?_ | refine Kc (hd := rfl) (e := ?_) | refine Kc (hd := icells_eq _) (e := ?_) | refine Kd (e := ?_) | refine Kl rfl ?_ | fail) <;> ((conv => whnf); repeat' (refine Z rfl ?_; conv => whnf)))
       · have hr1' := hr1 (by assumption)
         subst hr1'
         exact ⟨rfl⟩
       · refine ⟨⟨m + 1, ?_, ⟨by omega, hr2 (by assumption)⟩, by omega⟩⟩
         repeat' (first | exact True.intro | exact rfl | refine And.intro ?_ ?_)
     · repeat' ((first | (intro hlq; (try simp only [SL] at hlq)) | refine Ks ?_ | refine Kq ?_ | refine Kt ?_ | refine Ka ?_ | refine Kb ?_ | refine Kc (hd := rfl) (e := ?_) | refine Kc (hd := icells_eq _) (e := ?_) | refine Kd (e := ?_) | refine Kl rfl ?_ | fail) <;> ((conv => whnf); repeat' (refine Z rfl ?_; conv => whnf)))
       refine ⟨⟨k + 1, ?_, ⟨by omega, fun e => drop_next hk' (hd2 e) fun e2 => ?_⟩, by omega⟩⟩
       · exact Kr
       have := hd3 e e2
       rw [List.drop_of_length_le (by omega)] at this
       cases this
   · repeat' ((first | (intro hlq; (try simp only [SL] at hlq)) | refine Ks ?_ | refine Kq ?_ | refine Kt ?_ | refine Ka ?_ | refine Kb ?_ | refine Kc (hd := rfl) (e := ?_) | refine Kc (hd := icells_eq _) (e := ?_) | refine Kd (e := ?_) | refine Kl rfl ?_ | fail) <;> ((conv => whnf); repeat' (refine Z rfl ?_; conv => whnf)))
     refine ⟨⟨i + 1, ?_, ⟨by omega, drop_next hi' hd1 fun e => ?_⟩, by omega⟩⟩
     · exact Kr
     have := hd2 e
     rw [List.drop_of_length_le (by omega)] at this
     cases this
 · exfalso
   rw [List.drop_of_length_le (by omega)] at hd1
   cases hd1
end Go.Proofs.Ytacclfgmgphljaa.Dx
