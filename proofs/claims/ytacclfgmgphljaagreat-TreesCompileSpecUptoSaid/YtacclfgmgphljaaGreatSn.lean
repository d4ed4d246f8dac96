/- The reference of chapter 10: the shelf's put, set, build. -/
import Derived.Test.YtacclfgmgphljaaGreatSi
import Derived.Test.YtacclfgmgphljaaGreatSm
set_option linter.all false
namespace Go.Proofs.YtacclfgmgphljaaGreat.Dx
open Go Go.RowKit
set_option maxRecDepth 100000
set_option maxHeartbeats 16000000
theorem idxOf_first {ns : List Node} {n : Node} {i : Nat} (h : i < ns.length) (e : ns[i] = n) (hb : n ∉ ns.take i) : ns.idxOf n = i := by
 have h1 : ns = ns.take i ++ (n :: ns.drop (i + 1)) := by
  conv => lhs; rw [← List.take_append_drop i ns, List.drop_eq_getElem_cons h, e]
 rw [h1, List.idxOf_append, if_neg hb]
 simp [Nat.le_of_lt h]
abbrev shO (ns : List Node) : List (Nat × Blk) := [(4002, .box [.own 4003] 73), (4003, .sl ⟨39, 5, ns.map Node.cells, true⟩)]
theorem rput_meets (ns : List Node) (n : Node) (hl : ns.length ≤ 100000000) :
 MeetsR Tryz.prog 56 [.loc 4002 0, .d n.d] (shO ns) fun o O' => o = .ret (iB (ns.idxOf n : Int)) ∧ O' = shO (putE ns n) := by
 refine enterR tok {rs := [999]} Tryz.func56 rfl (by kernel_rfl) Tryz.ntmps56 (by simp) fun B0 W0 V0 lent g0 => ?_
 ((conv => whnf); repeat' (refine vcC_go tok {rs := [999]} rfl ?_; conv => whnf))
 repeat' ((first | (intro hlq; (try simp only [SL] at hlq)) | refine Ks ?_ | refine Kq ?_ | refine Kt ?_ | refine Ka ?_ | refine Kb ?_ | refine Kc (hd := rfl) (e := ?_) | refine Kc (hd := icells_eq _) (e := ?_) | refine Kd (e := ?_) | refine Kl rfl ?_ | fail) <;> ((conv => whnf); repeat' (refine vcC_go tok {rs := [999]} rfl ?_; conv => whnf)))
 refine loop_upd tok {rs := [999]} [] (X := Nat) (fun i => [(5, iB i)]) (fun _ => []) [] (fun i => i ≤ ns.length ∧ n ∉ ns.take i) (fun i => ns.length - i) 0 ?_
 ((conv => whnf); repeat' (refine vcC_go tok {rs := [999]} rfl ?_; conv => whnf))
 refine And.intro ?_ ⟨⟨by omega, by simp⟩, fun i hΦ => ?_⟩
 · exact Kr
 obtain ⟨hi, hp⟩ := hΦ
 ((conv => whnf); repeat' (refine vcC_go tok {rs := [999]} rfl ?_; conv => whnf))
 repeat' ((first | (intro hlq; (try simp only [SL] at hlq)) | refine Ks ?_ | refine Kq ?_ | refine Kt ?_ | refine Ka ?_ | refine Kb ?_ | refine Kc (hd := rfl) (e := ?_) | refine Kc (hd := icells_eq _) (e := ?_) | refine Kd (e := ?_) | refine Kl rfl ?_ | fail) <;> ((conv => whnf); repeat' (refine vcC_go tok {rs := [999]} rfl ?_; conv => whnf)))
 refine ⟨fun h1 => ?_, fun h1 => ?_⟩ <;> (try simp only [BL] at h1) <;> ((conv => whnf); repeat' (refine vcC_go tok {rs := [999]} rfl ?_; conv => whnf))
 · have h1' : i < ns.length := by omega
   have hx : ∃ x, x = ns[i] ∧ 0 ≤ (i : Int) ∧ ns[(i : Int).toNat]? = some x := ⟨_, rfl, by omega, by rw [Int.toNat_natCast, List.getElem?_eq_getElem h1']⟩
   obtain ⟨x, hx, hxi⟩ := hx
   refine draw_rule tok (cf := {rs := [999]}) (by kernel_rfl) [.p 0, .p 1, .p 2, .p 3, .p 4, .p 5, .p 6, .p 7, .s 8 [6,7,5,3,4,2,1,0]] (by kernel_rfl) ?_
   ((conv => whnf); repeat' (refine vcC_go tok {rs := [999]} rfl ?_; conv => whnf))
   repeat' ((first | (intro hlq; (try simp only [SL] at hlq)) | refine Kn x hxi ?_ | refine Meets.k (rSameN_meets x n) ?_ | refine Ks ?_ | refine Kq ?_ | refine Kt ?_ | ((refine Kh (fun hb => ?_) fun hb => ?_) <;> (try simp only [BL] at hb)) | refine Ka ?_ | refine Kb ?_ | refine Kc (hd := rfl) (e := ?_) | refine Kc (hd := icells_eq _) (e := ?_) | refine Kd (e := ?_) | refine Kl rfl ?_ | fail) <;> ((conv => whnf); repeat' (refine vcC_go tok {rs := [999]} rfl ?_; conv => whnf)))
   · have hin : n ∈ ns := by rw [← hb, hx]; exact List.getElem_mem h1'
     have hidx := idxOf_first h1' (by rw [← hx, hb]) hp
     refine ⟨shO ns, iB (i : Int), ?_, ⟨by rw [hidx], by rw [putE, if_pos hin]⟩⟩
     repeat' (first | exact True.intro | exact rfl | refine And.intro ?_ ?_)
   · refine ⟨⟨i + 1, ?_, ⟨by omega, fun h => ?_⟩, by omega⟩⟩
     · exact Kr
     rw [List.take_succ_eq_append_getElem h1'] at h
     rcases List.mem_append.1 h with h | h
     · exact hp h
     · exact hb (by rw [hx]; exact (List.mem_singleton.1 h).symm)
 · rw [List.take_of_length_le (by omega)] at hp
   have hidx : ns.idxOf n = ns.length := List.idxOf_eq_length hp
   refine draw_rule tok (cf := {rs := [999]}) (by kernel_rfl) [.p 0, .p 1, .p 2, .p 3, .p 4, .p 5, .p 6, .s 7 [4,6,3,5,2,1], .p 8, .p 9, .s 10 [9,0,8]] (by kernel_rfl) ?_
   ((conv => whnf); repeat' (refine vcC_go tok {rs := [999]} rfl ?_; conv => whnf))
   refine ⟨by simp, ?_⟩
   ((conv => whnf); repeat' (refine vcC_go tok {rs := [999]} rfl ?_; conv => whnf))
   refine Kap ?_ ?_ ?_
   rotate_left 1
   · simp only [List.length_map, List.length_cons, List.length_nil]; omega
   · decide
   ((conv => whnf); repeat' (refine vcC_go tok {rs := [999]} rfl ?_; conv => whnf))
   repeat' (first | (refine Kl rfl ?_; ((conv => whnf); repeat' (refine vcC_go tok {rs := [999]} rfl ?_; conv => whnf))) | fail)
   repeat' ((first | (intro hlq; (try simp only [SL] at hlq)) | refine Ks ?_ | refine Kq ?_ | refine Kt ?_ | refine Ka ?_ | refine Kb ?_ | refine Kc (hd := rfl) (e := ?_) | refine Kc (hd := icells_eq _) (e := ?_) | refine Kd (e := ?_) | refine Kl rfl ?_ | fail) <;> ((conv => whnf); repeat' (refine vcC_go tok {rs := [999]} rfl ?_; conv => whnf)))
   refine ⟨shO (ns ++ [n]), iB (ns.length : Int), ?_, ⟨by rw [hidx], by rw [putE, if_neg hp]⟩⟩
   repeat' (first | exact True.intro | exact rfl | refine And.intro ?_ ?_ | ((simp; done)) | ((show D.v _ = D.v _; congr 2; simp; done)))
theorem rset_meets (x : Env) (v n : Int) (hv : 1 ≤ v ∧ v ≤ 3) : Meets Tryz.prog 58 [x.d, iD v, iD n] fun d => d = (x.set v n).d := by
 rcases (by omega : v = 1 ∨ v = 2 ∨ v = 3) with rfl | rfl | rfl
 all_goals
  refine enter tok {} Tryz.func58 rfl (by kernel_rfl) Tryz.ntmps58 (by simp) fun B0 W0 V0 lent g0 => ?_
  ((conv => whnf); repeat' (refine Z rfl ?_; conv => whnf))
  repeat' ((first | (intro hlq; (try simp only [SL] at hlq)) | refine Ks ?_ | refine Kq ?_ | refine Kt ?_ | ((refine Kh (fun hb => ?_) fun hb => ?_) <;> (try simp only [BL] at hb)) | refine Ka ?_ | refine Kb ?_ | refine Kc (hd := rfl) (e := ?_) | refine Kc (hd := icells_eq _) (e := ?_) | refine Kd (e := ?_) | refine Kl rfl ?_ | fail) <;> ((conv => whnf); repeat' (refine Z rfl ?_; conv => whnf)))
  all_goals first
   | exact ⟨rfl⟩
   | contradiction
   | exact absurd trivial hb
   | (exfalso; omega)
   | (exfalso; revert hb; decide)
/-- the code's box of the environment is not there: it is the same in each round -/
theorem BInv.back {v : Int} {xs : List Int} {T' : Env → Tr} {x0 : Env} {ns0 : List Node} {M k : Nat} {tree first : Int} {x : Env} {ns : List Node} (h : BInv v xs T' x0 ns0 M k tree first x ns) (h0 : x0.good = true) : BInv v xs T' x0 ns0 M k tree first x0 ns :=
 ⟨h.hk, h0, fun _ _ _ => rfl, h.pre, h.ok, h.len, h.new, h.old⟩
def RSpec (v : Int) (l : List Step) (N : Nat) (T : Env → Tr) : Prop := ∀ (x : Env) (ns : List Node), x.good = true → FOk ns → ns.length + N ≤ 90000000 →
 MeetsR Tryz.prog 29 [.loc 4002 0, .d (.sl (l.map Step.cells)), iB v, .d x.d] (shO ns) fun o O' => ∃ (i : Nat) (ns' : List Node), o = .ret (iB (i : Int)) ∧ O' = shO ns' ∧ BPost v T x ns N i x ns'
theorem rbuild_leaf (l : List Step) (hl : l.length ≤ 1048576) (hties : tiesE l = 0) : RSpec 4 l 1 fun x => .leaf (Step.appL x l []) := by
 intro x ns hg hf hb
 have hc : Crits (Step.appL x l []) := appL_crits x l (ties_ok hties).1 [] ⟨by simp, by simp⟩
 have ha := Applied_meets l x (ties_ok hties).1 (ties_ok hties).2
 have hsm : Small ⟨0, 0, 0, 0, Step.appL x l []⟩ := ⟨crits_len hc, hc.2⟩
 have hput := rput_meets ns ⟨0, 0, 0, 0, Step.appL x l []⟩ (by omega)
 have hden : Den (putE ns ⟨0, 0, 0, 0, Step.appL x l []⟩) (ns.idxOf ⟨0, 0, 0, 0, Step.appL x l []⟩) (.leaf (Step.appL x l [])) := .leaf _ _ (put_get _ _)
 refine enterR tok {rs := [22, 40, 59, 73]} Tryz.func29 rfl (by kernel_rfl) Tryz.ntmps29 (by simp) fun B0 W0 V0 lent g0 => ?_
 ((conv => whnf); repeat' (refine vcC_go tok {rs := [22, 40, 59, 73]} rfl ?_; conv => whnf))
 refine ⟨fun _ => ?_, fun h => absurd h (by decide)⟩
 ((conv => whnf); repeat' (refine vcC_go tok {rs := [22, 40, 59, 73]} rfl ?_; conv => whnf))
 refine Meets.k ha ?_
 ((conv => whnf); repeat' (refine vcC_go tok {rs := [22, 40, 59, 73]} rfl ?_; conv => whnf))
 refine ⟨shO ns, _, ⟨?_, ?_⟩, hput.mono ?_⟩
 · exact Kr
 · exact Kr
 rintro _ O' ⟨rfl, rfl⟩
 ((conv => whnf); repeat' (refine vcC_go tok {rs := [22, 40, 59, 73]} rfl ?_; conv => whnf))
 refine ⟨shO (putE ns ⟨0, 0, 0, 0, Step.appL x l []⟩), iB (ns.idxOf ⟨0, 0, 0, 0, Step.appL x l []⟩ : Int), ?_, ⟨_, _, rfl, rfl, ⟨hg, fun _ _ _ => rfl, put_pre _ _, put_ok hf hsm hden, hden, put_len _ _⟩⟩⟩
 repeat' (first | exact True.intro | exact rfl | refine And.intro ?_ ?_)
theorem rbuild_step (l : List Step) (hok : ∀ s ∈ l, s.ok) (v : Int) (hv : 1 ≤ v ∧ v ≤ 3) (T' : Env → Tr) (M : Nat) (hrec : RSpec (v + 1) l M T') (hT : ∀ x y : Env, (∀ u, 1 ≤ u → u < v + 1 → x.value u = y.value u) → T' x = T' y) :
 RSpec v l ((valsL l v).length * (M + 1)) fun x => fold1 v (fun n => T' (x.set v n)) (valsL l v) := by
 intro x0 ns0 hg hf hb
 have hx := valsL_ok l hv
 have ht := Tests_meets l v hok
 have hpos : 0 < (valsL l v).length := List.length_pos_iff.2 hx.ne
 have hset := fun n => rset_meets x0 v n hv
 generalize valsL l v = xs at *
 have hstep : ∀ (k : Nat) (ns : List Node), 0 < k → k ≤ xs.length → ns.length ≤ ns0.length + (xs.length - k) * (M + 1) → FOk ns → x0.good = true →
  MeetsR Tryz.prog 29 [.loc 4002 0, .d (.sl (l.map Step.cells)), iB (v + 1), .d (x0.set v (xs.getD (k - 1) 0)).d] (shO ns) fun o O' => ∃ (i : Nat) (ns' : List Node), o = .ret (iB (i : Int)) ∧ O' = shO ns' ∧ BPost (v + 1) T' (x0.set v (xs.getD (k - 1) 0)) ns M i (x0.set v (xs.getD (k - 1) 0)) ns' := by
  intro k ns hk hk' hlen hfo hg0
  have hmem : xs.getD (k - 1) 0 ∈ xs := by
   rw [List.getD_eq_getElem?_getD, List.getElem?_eq_getElem (by omega)]; exact List.getElem_mem _
  refine hrec _ ns (set_good hv hg0 ⟨hx.pos hmem, hx.most _ hmem⟩) hfo ?_
  have h2 : (xs.length - k + 1) * (M + 1) ≤ xs.length * (M + 1) := Nat.mul_le_mul_right _ (by omega)
  rw [Nat.succ_mul] at h2
  omega
 have hi0 : BInv v xs T' x0 ns0 (M + 1) xs.length (-1) (-1) x0 ns0 := ⟨Nat.le_refl _, hg, fun _ _ _ => rfl, List.prefix_refl _, hf, by simp, fun _ => rfl, fun h => absurd h (Nat.lt_irrefl _)⟩
 have hget : ∀ k : Nat, k < xs.length → 0 ≤ (k : Int) ∧ xs[(k : Int).toNat]? = some (xs.getD k 0) := fun k hk => ⟨by omega, by rw [Int.toNat_natCast, List.getD_eq_getElem?_getD, List.getElem?_eq_getElem hk]; rfl⟩
 refine enterR tok {rs := [22, 40, 59, 73]} Tryz.func29 rfl (by kernel_rfl) Tryz.ntmps29 (by simp) fun B0 W0 V0 lent g0 => ?_
 ((conv => whnf); repeat' (refine vcC_go tok {rs := [22, 40, 59, 73]} rfl ?_; conv => whnf))
 refine ⟨fun h0 => ?_, fun h0 => ?_⟩ <;> (try simp only [BL] at h0) <;> ((conv => whnf); repeat' (refine vcC_go tok {rs := [22, 40, 59, 73]} rfl ?_; conv => whnf))
 · omega
 refine Meets.k ht ?_
 ((conv => whnf); repeat' (refine vcC_go tok {rs := [22, 40, 59, 73]} rfl ?_; conv => whnf))
 repeat' ((first | (intro hlq; (try simp only [SL] at hlq)) | refine Ks ?_ | refine Kq ?_ | refine Kt ?_ | refine Ka ?_ | refine Kb ?_ | refine Kc (hd := rfl) (e := ?_) | refine Kc (hd := icells_eq _) (e := ?_) | refine Kd (e := ?_) | refine Kl rfl ?_ | fail) <;> ((conv => whnf); repeat' (refine vcC_go tok {rs := [22, 40, 59, 73]} rfl ?_; conv => whnf)))
 have hix0 : 0 ≤ ((xs.map icells).length : Int) - 1 ∧ xs[(((xs.map icells).length : Int) - 1).toNat]? = some (xs.getD (xs.length - 1) 0) := by
  rw [List.length_map]
  refine ⟨by omega, ?_⟩
  rw [show ((xs.length : Int) - 1).toNat = xs.length - 1 from by omega, List.getD_eq_getElem?_getD, List.getElem?_eq_getElem (by omega)]; rfl
 have hcall0 := hstep xs.length ns0 hpos (Nat.le_refl _) (by omega) hf hg
 refine draw_rule tok (cf := {rs := [22, 40, 59, 73]}) (by kernel_rfl) [.p 0, .p 1, .p 2, .p 3, .p 4, .p 5, .p 6, .p 7, .p 8, .p 9, .s 10 [4,5,9,8,6,7], .s 11 [0,1,3,2], .p 12] (by kernel_rfl) ?_
 ((conv => whnf); repeat' (refine vcC_go tok {rs := [22, 40, 59, 73]} rfl ?_; conv => whnf))
 repeat' ((first | (intro hlq; (try simp only [SL] at hlq)) | refine Ki _ hix0 ?_ | refine Meets.k (hset (xs.getD (xs.length - 1) 0)) ?_ | refine Ks ?_ | refine Kq ?_ | refine Kt ?_ | ((refine Kh (fun hb => ?_) fun hb => ?_) <;> (try simp only [BL] at hb)) | refine Ka ?_ | refine Kb ?_ | refine Kc (hd := rfl) (e := ?_) | refine Kc (hd := icells_eq _) (e := ?_) | refine Kd (e := ?_) | refine Kl rfl ?_ | fail) <;> ((conv => whnf); repeat' (refine vcC_go tok {rs := [22, 40, 59, 73]} rfl ?_; conv => whnf)))
 refine ⟨shO ns0, _, ⟨?_, ?_⟩, hcall0.mono ?_⟩
 · exact Kr
 · exact Kr
 rintro _ O' ⟨i0, ns1, rfl, rfl, hp0⟩
 have hb1 := (hi0.next_first hv hT hpos rfl hp0).back hg
 ((conv => whnf); repeat' (refine vcC_go tok {rs := [22, 40, 59, 73]} rfl ?_; conv => whnf))
 repeat' (first | (refine Kl rfl ?_; ((conv => whnf); repeat' (refine vcC_go tok {rs := [22, 40, 59, 73]} rfl ?_; conv => whnf))) | fail)
 repeat' ((first | (intro hlq; (try simp only [SL] at hlq)) | refine Ks ?_ | refine Kq ?_ | refine Kt ?_ | refine Ka ?_ | refine Kb ?_ | refine Kc (hd := rfl) (e := ?_) | refine Kc (hd := icells_eq _) (e := ?_) | refine Kd (e := ?_) | refine Kl rfl ?_ | fail) <;> ((conv => whnf); repeat' (refine vcC_go tok {rs := [22, 40, 59, 73]} rfl ?_; conv => whnf)))
 refine loop_upd tok {rs := [22, 40, 59, 73]} [] (X := (Nat × Int × Int) × List Node) (fun s => [(13, iB ((s.1.1 : Int) - 1)), (11, iB s.1.2.1), (12, iB s.1.2.2)]) (fun s => shO s.2) [] (fun s => BInv v xs T' x0 ns0 (M + 1) s.1.1 s.1.2.1 s.1.2.2 x0 s.2 ∧ s.1.1 < xs.length) (fun s => s.1.1) ((xs.length - 1, (i0 : Int), (i0 : Int)), ns1) ?_
 ((conv => whnf); repeat' (refine vcC_go tok {rs := [22, 40, 59, 73]} rfl ?_; conv => whnf))
 refine And.intro ?_ ⟨⟨hb1, by dsimp only; omega⟩, fun s hΦ => ?_⟩
 · repeat' (first | exact True.intro | exact rfl | refine And.intro ?_ ?_ | ((show D.v _ = D.v _; congr 2; (try dsimp only); rw [List.length_map]; omega)))
 obtain ⟨⟨k, tree, first⟩, ns⟩ := s
 obtain ⟨hbi, hkl⟩ := hΦ
 dsimp only at hbi hkl
 have hold := hbi.old hkl
 ((conv => whnf); repeat' (refine vcC_go tok {rs := [22, 40, 59, 73]} rfl ?_; conv => whnf))
 refine ⟨fun h1 => ?_, fun h1 => ?_⟩ <;> (try simp only [BL] at h1) <;> ((conv => whnf); repeat' (refine vcC_go tok {rs := [22, 40, 59, 73]} rfl ?_; conv => whnf))
 · have hk : 0 < k := by omega
   have hcall := hstep k ns hk (by omega) hbi.len hbi.ok hg
   have hix : 0 ≤ (k : Int) - 1 ∧ xs[((k : Int) - 1).toNat]? = some (xs.getD (k - 1) 0) := ⟨by omega, by rw [show ((k : Int) - 1).toNat = k - 1 from by omega, List.getD_eq_getElem?_getD, List.getElem?_eq_getElem (by omega)]; rfl⟩
   refine draw_rule tok (cf := {rs := [22, 40, 59, 73]}) (by kernel_rfl) [.p 0, .p 1, .p 2, .p 3, .p 4, .p 5, .p 6, .p 7, .p 8, .p 9, .s 10 [4,5,9,8,6,7], .s 11 [0,1,3,2], .p 12] (by kernel_rfl) ?_
   ((conv => whnf); repeat' (refine vcC_go tok {rs := [22, 40, 59, 73]} rfl ?_; conv => whnf))
   repeat' ((first | (intro hlq; (try simp only [SL] at hlq)) | refine Ki _ hix ?_ | refine Meets.k (hset (xs.getD (k - 1) 0)) ?_ | refine Ks ?_ | refine Kq ?_ | refine Kt ?_ | ((refine Kh (fun hb => ?_) fun hb => ?_) <;> (try simp only [BL] at hb)) | refine Ka ?_ | refine Kb ?_ | refine Kc (hd := rfl) (e := ?_) | refine Kc (hd := icells_eq _) (e := ?_) | refine Kd (e := ?_) | refine Kl rfl ?_ | fail) <;> ((conv => whnf); repeat' (refine vcC_go tok {rs := [22, 40, 59, 73]} rfl ?_; conv => whnf)))
   refine ⟨shO ns, _, ⟨?_, ?_⟩, hcall.mono ?_⟩
   · exact Kr
   · exact Kr
   rintro _ O' ⟨i, ns', rfl, rfl, hp⟩
   have hnl := hp.len
   have hl2 := hbi.len
   have hmul : (xs.length - k + 1) * (M + 1) ≤ xs.length * (M + 1) := Nat.mul_le_mul_right _ (by omega)
   rw [Nat.succ_mul] at hmul
   ((conv => whnf); repeat' (refine vcC_go tok {rs := [22, 40, 59, 73]} rfl ?_; conv => whnf))
   repeat' (first | (refine Kl rfl ?_; ((conv => whnf); repeat' (refine vcC_go tok {rs := [22, 40, 59, 73]} rfl ?_; conv => whnf))) | fail)
   refine ⟨fun h2 => ?_, fun h2 => ?_⟩ <;> (try simp only [BL] at h2) <;> ((conv => whnf); repeat' (refine vcC_go tok {rs := [22, 40, 59, 73]} rfl ?_; conv => whnf))
   · have hnx := hbi.next_put hv hT hk hkl hp h2
     obtain ⟨hsm, hnx⟩ := hnx
     have hput := rput_meets ns' ⟨v, xs.getD k 0, tree, (i : Int), []⟩ (by omega)
     have hixk : 0 ≤ ((k : Int) - 1) + 1 ∧ xs[(((k : Int) - 1) + 1).toNat]? = some (xs.getD k 0) := ⟨by omega, by rw [show (((k : Int) - 1) + 1).toNat = k from by omega, List.getD_eq_getElem?_getD, List.getElem?_eq_getElem hkl]; rfl⟩
     repeat' ((first | (intro hlq; (try simp only [SL] at hlq)) | refine Ki _ hixk ?_ | refine Ks ?_ | refine Kq ?_ | refine Kt ?_ | ((refine Kh (fun hb => ?_) fun hb => ?_) <;> (try simp only [BL] at hb)) | refine Ka ?_ | refine Kb ?_ | refine Kc (hd := rfl) (e := ?_) | refine Kc (hd := icells_eq _) (e := ?_) | refine Kd (e := ?_) | refine Kl rfl ?_ | fail) <;> ((conv => whnf); repeat' (refine vcC_go tok {rs := [22, 40, 59, 73]} rfl ?_; conv => whnf)))
     refine ⟨shO ns', _, ⟨?_, ?_⟩, hput.mono ?_⟩
     · exact Kr
     · exact Kr
     rintro _ O' ⟨rfl, rfl⟩
     ((conv => whnf); repeat' (refine vcC_go tok {rs := [22, 40, 59, 73]} rfl ?_; conv => whnf))
     repeat' ((first | (intro hlq; (try simp only [SL] at hlq)) | refine Ks ?_ | refine Kq ?_ | refine Kt ?_ | refine Ka ?_ | refine Kb ?_ | refine Kc (hd := rfl) (e := ?_) | refine Kc (hd := icells_eq _) (e := ?_) | refine Kd (e := ?_) | refine Kl rfl ?_ | fail) <;> ((conv => whnf); repeat' (refine vcC_go tok {rs := [22, 40, 59, 73]} rfl ?_; conv => whnf)))
     refine ⟨⟨((k - 1, (ns'.idxOf ⟨v, xs.getD k 0, tree, (i : Int), []⟩ : Int), (i : Int)), putE ns' ⟨v, xs.getD k 0, tree, (i : Int), []⟩), ?_, ⟨hnx.back hg, by dsimp only; omega⟩, by dsimp only; omega⟩⟩
     repeat' (first | exact True.intro | exact rfl | refine And.intro ?_ ?_ | ((show D.v _ = D.v _; congr 2; (try dsimp only); omega)))
   · have hnx := hbi.next_same hv hT hk hkl hp (Decidable.not_not.1 h2)
     repeat' ((first | (intro hlq; (try simp only [SL] at hlq)) | refine Ks ?_ | refine Kq ?_ | refine Kt ?_ | refine Ka ?_ | refine Kb ?_ | refine Kc (hd := rfl) (e := ?_) | refine Kc (hd := icells_eq _) (e := ?_) | refine Kd (e := ?_) | refine Kl rfl ?_ | fail) <;> ((conv => whnf); repeat' (refine vcC_go tok {rs := [22, 40, 59, 73]} rfl ?_; conv => whnf)))
     refine ⟨⟨((k - 1, tree, first), ns'), ?_, ⟨hnx.back hg, by dsimp only; omega⟩, by dsimp only; omega⟩⟩
     repeat' (first | exact True.intro | exact rfl | refine And.intro ?_ ?_ | ((show D.v _ = D.v _; congr 2; (try dsimp only); omega)))
 · have hk0 : k = 0 := by omega
   obtain ⟨q1, q2, q3, q4⟩ := hold
   have hl2 := hbi.len
   rw [hk0, Nat.sub_zero] at hl2
   rw [hk0, List.drop_zero] at q3
   refine ⟨shO ns, iB tree, ?_, ⟨tree.toNat, ns, by rw [show ((tree.toNat : Nat) : Int) = tree from by omega], rfl, ⟨hg, fun _ _ _ => rfl, hbi.pre, hbi.ok, q3, hl2⟩⟩⟩
   repeat' (first | exact True.intro | exact rfl | refine And.intro ?_ ?_)
end Go.Proofs.YtacclfgmgphljaaGreat.Dx
/- The reference of chapter 10: Compile. -/
namespace Go.Proofs.YtacclfgmgphljaaGreat.Dx
open Go Go.RowKit
set_option maxRecDepth 100000
set_option maxHeartbeats 16000000
theorem rbuild_all (l : List Step) (hl : l.length ≤ 1048576) (hok : ∀ s ∈ l, s.ok) (hties : tiesE l = 0) :
 ∃ N, N ≤ 80000000 ∧ RSpec 1 l N fun _ => treeL l := by
 have b4 := rbuild_leaf l hl hties
 have e1 := valsL_len hties 1
 have e2 := valsL_len hties 2
 have e3 := valsL_len hties 3
 have b3 := rbuild_step l hok 3 (by decide) _ 1 b4 fun x y h => by rw [env_eq h]
 have b2 := rbuild_step l hok 2 (by decide) _ _ b3 fun x y h => fold1_congr fun n _ => by
  rw [env_eq (set_agree (v := 3) (by decide) h)]
 have b1 := rbuild_step l hok 1 (by decide) _ _ b2 fun x y h => fold1_congr fun n _ => fold1_congr fun m _ => by
  rw [env_eq (set_agree (v := 3) (by decide) (set_agree (v := 2) (by decide) h))]
 refine ⟨_, ?_, b1⟩
 have h3 : (valsL l 3).length * (1 + 1) + 1 ≤ 515 := by omega
 have h2 : (valsL l 2).length * ((valsL l 3).length * (1 + 1) + 1) ≤ 257 * 515 := Nat.mul_le_mul e2 h3
 have h1 : (valsL l 1).length * ((valsL l 2).length * ((valsL l 3).length * (1 + 1) + 1) + 1) ≤ 257 * (257 * 515 + 1) := Nat.mul_le_mul e1 (by omega)
 omega
/-- where the nodes met so far go -/
def placeL (order : List Nat) (n k : Nat) : List (List D) := (List.range n).map fun j => [iD (if j ∈ order.take k then (order.idxOf j : Int) else 0)]
theorem placeL_len (order : List Nat) (n k : Nat) : (placeL order n k).length = n := by simp [placeL]
theorem placeL_get {order : List Nat} {n k j : Nat} (h : j < n) : (placeL order n k)[j]? = some [iD (if j ∈ order.take k then (order.idxOf j : Int) else 0)] := by
 rw [placeL, List.getElem?_map, List.getElem?_range h]; rfl
theorem placeL_zero (order : List Nat) (n : Nat) : List.replicate n [D.v (.int .i64 0)] = placeL order n 0 := by
 apply List.ext_getElem?
 intro j
 rw [List.getElem?_replicate]
 split
 · rw [placeL_get (by assumption)]; simp
 · rw [List.getElem?_eq_none (by rw [placeL_len]; omega)]
theorem placeL_set {order : List Nat} {n k : Nat} (hnd : order.Nodup) (hk : k < order.length) (hj : order[k] < n) : (placeL order n k).set order[k] [iD (k : Int)] = placeL order n (k + 1) := by
 apply List.ext_getElem?
 intro j
 have hidx : order.idxOf order[k] = k := hnd.idxOf_getElem k hk
 have ht : ∀ j, j ∈ order.take (k + 1) ↔ j ∈ order.take k ∨ j = order[k] := by
  intro j; rw [List.take_succ_eq_append_getElem hk, List.mem_append, List.mem_singleton]
 rw [List.getElem?_set]
 split
 · rename_i e
   subst e
   rw [if_pos (by rw [placeL_len]; exact hj), placeL_get hj, if_pos ((ht _).2 (.inr rfl)), hidx]
 · rename_i hne
   rcases Nat.lt_or_ge j n with h | h
   · rw [placeL_get h, placeL_get h]
     have : (j ∈ order.take (k + 1)) ↔ j ∈ order.take k := by rw [ht]; exact ⟨fun h => h.resolve_right fun e => hne e.symm, .inl⟩
     simp only [this]
   · rw [List.getElem?_eq_none (by rw [placeL_len]; omega), List.getElem?_eq_none (by rw [placeL_len]; omega)]
theorem placeL_at {order : List Nat} {n y : Nat} (h : y ∈ order) (hy : y < n) : (placeL order n order.length)[y]? = some [iD (order.idxOf y : Int)] := by
 rw [placeL_get hy, List.take_length, if_pos h]
theorem rCompile_meets (l : List Step) (hl : l.length ≤ 1048576) (hok : ∀ s ∈ l, s.ok) : Meets Tryz.prog 7 [.sl (l.map Step.cells)] fun d => d = .tup [treeD (compileE l).1, iD (compileE l).2] := by
 refine enter tok {nm := [(20, 4002)], rs := [24], priv := [19, 55]} Tryz.func7 rfl (by kernel_rfl) Tryz.ntmps7 (by simp) fun B0 W0 V0 lent g0 => ?_
 ((conv => whnf); repeat' (refine vcC_go tok {nm := [(20, 4002)], rs := [24], priv := [19, 55]} rfl ?_; conv => whnf))
 refine Meets.k (rTies_meets l) ?_
 rw [← tiesE]
 ((conv => whnf); repeat' ((fail_if_success (refine J_at 5 ?_)); refine vcC_go tok {nm := [(20, 4002)], rs := [24], priv := [19, 55]} rfl ?_; conv => whnf))
 refine ⟨fun h1 => ?_, fun h1 => ?_⟩ <;> (try simp only [BL] at h1) <;> ((conv => whnf); repeat' ((fail_if_success (refine J_at 5 ?_)); refine vcC_go tok {nm := [(20, 4002)], rs := [24], priv := [19, 55]} rfl ?_; conv => whnf))
 · exact ⟨by rw [compileE, if_neg h1]; rfl⟩
 have ht : tiesE l = 0 := by omega
 obtain ⟨N, hN, hB⟩ := rbuild_all l hl hok ht
 ((conv => whnf); repeat' ((fail_if_success (refine J_at 5 ?_)); refine vcC_go tok {nm := [(20, 4002)], rs := [24], priv := [19, 55]} rfl ?_; conv => whnf))
 refine J_nil 4002 0 ?_
 conv => whnf
 refine J_own [(.inr (4002, 0), 4003, 39, 5)] ?_
 conv => whnf
 refine ⟨by simp, ?_⟩
 conv => whnf
 ((conv => whnf); repeat' (refine vcC_go tok {nm := [(20, 4002)], rs := [24], priv := [19, 55]} rfl ?_; conv => whnf))
 refine ⟨shO [], _, ⟨?_, ?_⟩, (hB ⟨0, 0, 0⟩ [] (by decide) FOk.nil (by simp only [List.length_nil]; omega)).mono ?_⟩
 · exact Kr
 · exact Kr
 rintro o O' ⟨i, ns', rfl, rfl, hP⟩
 have hlen : ns'.length ≤ 80000000 := by have := hP.len; simp only [List.length_nil] at this; omega
 have hden : Den ns' i (treeL l) := hP.den
 have hfor : ∃ d, Forest ns' d := ⟨fun i => if h : i < ns'.length then (hP.ok.den i h).choose else .leaf [], hP.ok.nodup, fun i hi => by rw [dif_pos hi]; exact (hP.ok.den i hi).choose_spec⟩
 obtain ⟨d, hf⟩ := hfor
 have hvis := rVisit_meets ns' (by omega) (treeL l) i [] hden (by simp) (by simp)
 have hpm := congrArg List.length (pre_map hf hden (met := []) (by simp))
 rw [List.map_nil, List.length_map] at hpm
 have hall : ∃ order : List Nat, (Meets Tryz.prog 30 [treeD ns', iD i, .sl (([] : List Nat).map ncells)] fun d => d = .sl (order.map ncells)) ∧ order.length = (preT (treeL l) []).length ∧ (∀ j ∈ order, j < ns'.length) ∧ order.Nodup ∧ outL ns' order order.length = serT (treeL l) ∧ (∀ j ∈ order, ∀ x, ns'[j]? = some x → x.var ≠ 0 → ∃ y o : Nat, x.yes = y ∧ x.no = o ∧ y ∈ order ∧ o ∈ order) :=
  ⟨preI ns' (treeL l) i [], hvis, hpm, preI_lt hden (by simp), pre_nodup hf hden, by rw [outL, List.take_length]; exact ser_of_forest hf hden, fun j hj x hx hv => pre_closed hf hden hj hx hv⟩
 obtain ⟨order, hvis, hpm, hlt, hnd, hser, hcl⟩ := hall
 ((conv => whnf); repeat' (refine vcC_go tok {nm := [(20, 4002)], rs := [24], priv := [19, 55]} rfl ?_; conv => whnf))
 refine Meets.k hvis ?_
 ((conv => whnf); repeat' (refine vcC_go tok {nm := [(20, 4002)], rs := [24], priv := [19, 55]} rfl ?_; conv => whnf))
 repeat' ((first | (intro hlq; (try simp only [SL] at hlq)) | refine Ks ?_ | refine Kq ?_ | refine Kt ?_ | refine Ka ?_ | refine Kb ?_ | refine Kc (hd := rfl) (e := ?_) | refine Kc (hd := icells_eq _) (e := ?_) | refine Kd (e := ?_) | refine Kl rfl ?_ | fail) <;> ((conv => whnf); repeat' (refine vcC_go tok {nm := [(20, 4002)], rs := [24], priv := [19, 55]} rfl ?_; conv => whnf)))
 refine ⟨fun h3 => ?_, fun h3 => ?_⟩ <;> (try simp only [BL] at h3) <;> ((conv => whnf); repeat' (refine vcC_go tok {nm := [(20, 4002)], rs := [24], priv := [19, 55]} rfl ?_; conv => whnf))
 · exact ⟨by rw [compileE, if_pos ht, if_neg (by omega)]; rfl⟩
 have hcE : compileE l = (serT (treeL l), 0) := by rw [compileE, if_pos ht, if_pos (by omega)]
 repeat' ((first | (intro hlq; (try simp only [SL] at hlq)) | refine Ks ?_ | refine Kq ?_ | refine Kt ?_ | refine Ka ?_ | refine Kb ?_ | refine Kc (hd := rfl) (e := ?_) | refine Kc (hd := icells_eq _) (e := ?_) | refine Kd (e := ?_) | refine Kl rfl ?_ | fail) <;> ((conv => whnf); repeat' (refine vcC_go tok {nm := [(20, 4002)], rs := [24], priv := [19, 55]} rfl ?_; conv => whnf)))
 refine ⟨⟨rfl, ⟨by decide, by decide⟩, rfl, by omega, by show (8 : Int) * _ ≤ _; rw [List.length_map]; omega, by show (((ns'.map Node.cells).length : Nat) : Int) ≤ _; rw [List.length_map]; omega⟩, ?_⟩
 ((conv => whnf); repeat' (refine vcC_go tok {nm := [(20, 4002)], rs := [24], priv := [19, 55]} rfl ?_; conv => whnf))
 repeat' ((first | (intro hlq; (try simp only [SL] at hlq)) | refine Ks ?_ | refine Kq ?_ | refine Kt ?_ | refine Ka ?_ | refine Kb ?_ | refine Kc (hd := rfl) (e := ?_) | refine Kc (hd := icells_eq _) (e := ?_) | refine Kd (e := ?_) | refine Kl rfl ?_ | fail) <;> ((conv => whnf); repeat' (refine vcC_go tok {nm := [(20, 4002)], rs := [24], priv := [19, 55]} rfl ?_; conv => whnf)))
 refine loop_upd tok {nm := [(20, 4002)], rs := [24], priv := [19, 55]} [] (X := Nat) (fun k => [(9, iB (k : Int))]) (fun k => [(41, .sl ⟨3, 1, placeL order ns'.length k, false⟩)]) [] (fun k => k ≤ order.length) (fun k => order.length - k) 0 ?_
 ((conv => whnf); repeat' (refine vcC_go tok {nm := [(20, 4002)], rs := [24], priv := [19, 55]} rfl ?_; conv => whnf))
 refine And.intro ?_ ⟨by omega, fun k hk => ?_⟩
 · have e : List.replicate (((ns'.map Node.cells).length : Nat) : Int).toNat [D.v (.int .i64 0)] = placeL order ns'.length 0 := by rw [Int.toNat_natCast, List.length_map, placeL_zero]
   repeat' (first | exact True.intro | exact rfl | refine And.intro ?_ ?_ | (exact e) | (exact e.symm))
 ((conv => whnf); repeat' (refine vcC_go tok {nm := [(20, 4002)], rs := [24], priv := [19, 55]} rfl ?_; conv => whnf))
 repeat' ((first | (intro hlq; (try simp only [SL] at hlq)) | refine Ks ?_ | refine Kq ?_ | refine Kt ?_ | refine Ka ?_ | refine Kb ?_ | refine Kc (hd := rfl) (e := ?_) | refine Kc (hd := icells_eq _) (e := ?_) | refine Kd (e := ?_) | refine Kl rfl ?_ | fail) <;> ((conv => whnf); repeat' (refine vcC_go tok {nm := [(20, 4002)], rs := [24], priv := [19, 55]} rfl ?_; conv => whnf)))
 refine ⟨fun h4 => ?_, fun h4 => ?_⟩ <;> (try simp only [BL] at h4) <;> ((conv => whnf); repeat' (refine vcC_go tok {nm := [(20, 4002)], rs := [24], priv := [19, 55]} rfl ?_; conv => whnf))
 · have hk' : k < order.length := by omega
   have hj : order[k] < ns'.length := hlt _ (List.getElem_mem hk')
   have hset := placeL_set (n := ns'.length) hnd hk' hj
   repeat' ((first | (intro hlq; (try simp only [SL] at hlq)) | refine Ks ?_ | refine Kq ?_ | refine Kt ?_ | refine Ka ?_ | refine Kb ?_ | refine Kc (hd := rfl) (e := ?_) | refine Kc (hd := icells_eq _) (e := ?_) | refine Kd (e := ?_) | refine Kl rfl ?_ | fail) <;> ((conv => whnf); repeat' (refine vcC_go tok {nm := [(20, 4002)], rs := [24], priv := [19, 55]} rfl ?_; conv => whnf)))
   refine ⟨⟨by omega, by show (order[k] : Int) < ((placeL order ns'.length k).length : Int); rw [placeL_len]; omega, rfl⟩, ?_⟩
   ((conv => whnf); repeat' (refine vcC_go tok {nm := [(20, 4002)], rs := [24], priv := [19, 55]} rfl ?_; conv => whnf))
   refine ⟨_, ⟨by rw [Int.toNat_natCast]; exact placeL_get hj, rfl, Nat.le_refl _⟩, ?_⟩
   ((conv => whnf); repeat' (refine vcC_go tok {nm := [(20, 4002)], rs := [24], priv := [19, 55]} rfl ?_; conv => whnf))
   repeat' ((first | (intro hlq; (try simp only [SL] at hlq)) | refine Ks ?_ | refine Kq ?_ | refine Kt ?_ | refine Ka ?_ | refine Kb ?_ | refine Kc (hd := rfl) (e := ?_) | refine Kc (hd := icells_eq _) (e := ?_) | refine Kd (e := ?_) | refine Kl rfl ?_ | fail) <;> ((conv => whnf); repeat' (refine vcC_go tok {nm := [(20, 4002)], rs := [24], priv := [19, 55]} rfl ?_; conv => whnf)))
   refine ⟨⟨k + 1, ?_, by omega, by omega⟩⟩
   repeat' (first | exact True.intro | exact rfl | refine And.intro ?_ ?_ | (exact hset) | (exact hset.symm))
 have hk2 : k = order.length := by omega
 subst hk2
 repeat' ((first | (intro hlq; (try simp only [SL] at hlq)) | refine Ks ?_ | refine Kq ?_ | refine Kt ?_ | refine Ka ?_ | refine Kb ?_ | refine Kc (hd := rfl) (e := ?_) | refine Kc (hd := icells_eq _) (e := ?_) | refine Kd (e := ?_) | refine Kl rfl ?_ | fail) <;> ((conv => whnf); repeat' (refine vcC_go tok {nm := [(20, 4002)], rs := [24], priv := [19, 55]} rfl ?_; conv => whnf)))
 refine J_nil 10 0 ?_
 conv => whnf
 refine loop_upd tok {nm := [(20, 4002)], rs := [24], priv := [19, 55]} [(.inr (10, 0), 4010, 39, 5)] (X := Nat) (fun x => [(11, iB (x : Int))]) (fun x => [(4010, .sl ⟨39, 5, (outL ns' order x).map Node.cells, true⟩)]) [12] (fun x => x ≤ order.length) (fun x => order.length - x) 0 ?_
 ((conv => whnf); repeat' (refine vcC_go tok {nm := [(20, 4002)], rs := [24], priv := [19, 55]} rfl ?_; conv => whnf))
 refine ⟨by simp, ?_⟩
 ((conv => whnf); repeat' (refine vcC_go tok {nm := [(20, 4002)], rs := [24], priv := [19, 55]} rfl ?_; conv => whnf))
 refine And.intro ?_ ⟨by omega, fun k hk => ?_⟩
 · exact Kr
 ((conv => whnf); repeat' (refine vcC_go tok {nm := [(20, 4002)], rs := [24], priv := [19, 55]} rfl ?_; conv => whnf))
 repeat' ((first | (intro hlq; (try simp only [SL] at hlq)) | refine Ks ?_ | refine Kq ?_ | refine Kt ?_ | refine Ka ?_ | refine Kb ?_ | refine Kc (hd := rfl) (e := ?_) | refine Kc (hd := icells_eq _) (e := ?_) | refine Kd (e := ?_) | refine Kl rfl ?_ | fail) <;> ((conv => whnf); repeat' (refine vcC_go tok {nm := [(20, 4002)], rs := [24], priv := [19, 55]} rfl ?_; conv => whnf)))
 refine ⟨fun h5 => ?_, fun h5 => ?_⟩ <;> (try simp only [BL] at h5) <;> ((conv => whnf); repeat' (refine vcC_go tok {nm := [(20, 4002)], rs := [24], priv := [19, 55]} rfl ?_; conv => whnf))
 · have hk' : k < order.length := by omega
   have hj : order[k] < ns'.length := hlt _ (List.getElem_mem hk')
   have hol := outL_len ns' hk
   have hx : ∃ x, x = ns'[order[k]] ∧ 0 ≤ (order[k] : Int) ∧ ns'[(order[k] : Int).toNat]? = some x := ⟨_, rfl, by omega, by rw [Int.toNat_natCast, List.getElem?_eq_getElem hj]⟩
   obtain ⟨x, hx, hxi⟩ := hx
   refine draw_rule tok (cf := {nm := [(20, 4002)], rs := [24], priv := [19, 55]}) (by kernel_rfl) [.p 0, .p 1, .p 2, .p 3, .p 4, .p 5, .p 6, .p 7, .p 8, .p 9, .s 10 [], .s 11 [9,0,1,2,3,4,5,6,7,8]] (by kernel_rfl) ?_
   ((conv => whnf); repeat' (refine vcC_go tok {nm := [(20, 4002)], rs := [24], priv := [19, 55]} rfl ?_; conv => whnf))
   repeat' ((first | (intro hlq; (try simp only [SL] at hlq)) | refine Kn x hxi ?_ | refine Ks ?_ | refine Kq ?_ | refine Kt ?_ | ((refine Kh (fun hb => ?_) fun hb => ?_) <;> (try simp only [BL] at hb)) | refine Ka ?_ | refine Kb ?_ | refine Kc (hd := rfl) (e := ?_) | refine Kc (hd := icells_eq _) (e := ?_) | refine Kd (e := ?_) | refine Kl rfl ?_ | fail) <;> ((conv => whnf); repeat' (refine vcC_go tok {nm := [(20, 4002)], rs := [24], priv := [19, 55]} rfl ?_; conv => whnf)))
   · have hcl1 := hcl order[k] (List.getElem_mem hk') x (by rw [hx, List.getElem?_eq_getElem hj]) hb
     obtain ⟨y, o, hy, ho, hym, hom⟩ := hcl1
     have ly := hlt y hym
     have lo := hlt o hom
     refine ⟨⟨by omega, by show x.yes < ((placeL order ns'.length order.length).length : Int); rw [placeL_len]; omega, rfl⟩, ?_⟩
     ((conv => whnf); repeat' (refine vcC_go tok {nm := [(20, 4002)], rs := [24], priv := [19, 55]} rfl ?_; conv => whnf))
     refine ⟨_, ⟨by rw [hy, Int.toNat_natCast]; exact placeL_at hym ly, rfl⟩, ?_⟩
     ((conv => whnf); repeat' (refine vcC_go tok {nm := [(20, 4002)], rs := [24], priv := [19, 55]} rfl ?_; conv => whnf))
     refine ⟨⟨by omega, by show x.no < ((placeL order ns'.length order.length).length : Int); rw [placeL_len]; omega, rfl⟩, ?_⟩
     ((conv => whnf); repeat' (refine vcC_go tok {nm := [(20, 4002)], rs := [24], priv := [19, 55]} rfl ?_; conv => whnf))
     refine ⟨_, ⟨by rw [ho, Int.toNat_natCast]; exact placeL_at hom lo, rfl⟩, ?_⟩
     ((conv => whnf); repeat' (refine vcC_go tok {nm := [(20, 4002)], rs := [24], priv := [19, 55]} rfl ?_; conv => whnf))
     refine ⟨by simp, ?_⟩
     ((conv => whnf); repeat' (refine vcC_go tok {nm := [(20, 4002)], rs := [24], priv := [19, 55]} rfl ?_; conv => whnf))
     refine Kap ?_ ?_ ?_
     rotate_left 1
     · simp only [List.length_map, hol, List.length_cons, List.length_nil]; omega
     · decide
     ((conv => whnf); repeat' (refine vcC_go tok {nm := [(20, 4002)], rs := [24], priv := [19, 55]} rfl ?_; conv => whnf))
     repeat' ((first | (intro hlq; (try simp only [SL] at hlq)) | refine Ks ?_ | refine Kq ?_ | refine Kt ?_ | refine Ka ?_ | refine Kb ?_ | refine Kc (hd := rfl) (e := ?_) | refine Kc (hd := icells_eq _) (e := ?_) | refine Kd (e := ?_) | refine Kl rfl ?_ | fail) <;> ((conv => whnf); repeat' (refine vcC_go tok {nm := [(20, 4002)], rs := [24], priv := [19, 55]} rfl ?_; conv => whnf)))
     have e1 := outL_step hk' hj
     rw [← hx, renum, if_neg hb, hy, ho, Int.toNat_natCast, Int.toNat_natCast] at e1
     refine ⟨⟨k + 1, ?_, by omega, by omega⟩⟩
     repeat' (first | exact True.intro | exact rfl | refine And.intro ?_ ?_ | ((rw [e1, List.map_append]; rfl)))
   · refine ⟨by simp, ?_⟩
     ((conv => whnf); repeat' (refine vcC_go tok {nm := [(20, 4002)], rs := [24], priv := [19, 55]} rfl ?_; conv => whnf))
     refine Kap ?_ ?_ ?_
     rotate_left 1
     · simp only [List.length_map, hol, List.length_cons, List.length_nil]; omega
     · decide
     ((conv => whnf); repeat' (refine vcC_go tok {nm := [(20, 4002)], rs := [24], priv := [19, 55]} rfl ?_; conv => whnf))
     repeat' ((first | (intro hlq; (try simp only [SL] at hlq)) | refine Ks ?_ | refine Kq ?_ | refine Kt ?_ | refine Ka ?_ | refine Kb ?_ | refine Kc (hd := rfl) (e := ?_) | refine Kc (hd := icells_eq _) (e := ?_) | refine Kd (e := ?_) | refine Kl rfl ?_ | fail) <;> ((conv => whnf); repeat' (refine vcC_go tok {nm := [(20, 4002)], rs := [24], priv := [19, 55]} rfl ?_; conv => whnf)))
     have e1 := outL_step hk' hj
     have h6' : x.var = 0 := by omega
     rw [← hx, renum, if_pos h6'] at e1
     refine ⟨⟨k + 1, ?_, by omega, by omega⟩⟩
     repeat' (first | exact True.intro | exact rfl | refine And.intro ?_ ?_ | ((rw [e1, List.map_append]; rfl)))
 · have hk2 : k = order.length := by omega
   subst hk2
   repeat' ((first | (intro hlq; (try simp only [SL] at hlq)) | refine Ks ?_ | refine Kq ?_ | refine Kt ?_ | refine Ka ?_ | refine Kb ?_ | refine Kc (hd := rfl) (e := ?_) | refine Kc (hd := icells_eq _) (e := ?_) | refine Kd (e := ?_) | refine Kl rfl ?_ | fail) <;> ((conv => whnf); repeat' (refine vcC_go tok {nm := [(20, 4002)], rs := [24], priv := [19, 55]} rfl ?_; conv => whnf)))
   exact ⟨by rw [hcE, ← hser]⟩
end Go.Proofs.YtacclfgmgphljaaGreat.Dx
