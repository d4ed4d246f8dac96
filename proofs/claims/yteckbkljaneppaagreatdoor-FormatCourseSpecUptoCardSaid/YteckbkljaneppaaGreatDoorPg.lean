/- Lines of a course, in the reference. -/
import Derived.Test.YteckbkljaneppaaGreatDoorPf
set_option linter.all false
namespace Go.Proofs.YteckbkljaneppaaGreatDoor.Dx
open Go Go.RowKit Go.Proofs
set_option maxRecDepth 100000
set_option maxHeartbeats 16000000
theorem rmoment_meets (t : Int) : Meets Tryz.prog 74 [iD t] fun d => d = .str (timeS t) := by
 refine enter tok {} Tryz.func74 rfl (by kernel_rfl) Tryz.ntmps74 (by simp) fun B0 W0 V0 lent g0 => ?_
 ((conv => whnf); repeat' (refine Z rfl ?_; conv => whnf))
 repeat' ((first | (intro hlq; (try simp only [SL] at hlq)) | refine Meets.k (rTimeText_meets t) ?_ | refine Ks ?_ | refine Kq ?_ | refine Kt ?_ | ((refine Kh (fun hb => ?_) fun hb => ?_) <;> (try simp only [BL] at hb)) | refine Ka ?_ | refine Kb ?_ | refine Kc (hd := rfl) (e := ?_) | refine Kc (hd := Cond.cells_eq _) (e := ?_) | refine Kd (e := ?_) | refine Kl rfl ?_ | fail) <;> ((conv => whnf); repeat' (refine Z rfl ?_; conv => whnf)))
 exact ⟨rfl⟩
theorem offt_meets (x : Offence) (hg : x.good = true) (hn : x.name.length ≤ 24) : Meets Tryz.prog 76 [x.d] fun d => d = .str (offT x) := by
 have h := (off_iff x).1 hg
 have hl : 0 ≤ x.laps ∧ x.laps ≤ 64 := by
  rcases h with ⟨_, h, _⟩ | ⟨_, h, _⟩ | ⟨_, h, _⟩
  · omega
  · simp only [inR, Bool.and_eq_true, decide_eq_true_eq] at h; omega
  · omega
 have f1 := itoa_le x.laps (by omega) (by omega)
 have f2 := timeS_le x.time
 refine enter tok {} Tryz.func76 rfl (by kernel_rfl) Tryz.ntmps76 (by simp) fun B0 W0 V0 lent g0 => ?_
 ((conv => whnf); repeat' (refine Z rfl ?_; conv => whnf))
 repeat' ((first | (intro hlq; (try simp only [SL] at hlq)) | refine Meets.k (Decimal_meets _ (by omega) (by omega)) ?_ | refine Meets.k (rmoment_meets _) ?_ | refine Ks ?_ | refine Kq ?_ | refine Kt ?_ | ((refine Kh (fun hb => ?_) fun hb => ?_) <;> (try simp only [BL] at hb)) | refine Ka ?_ | refine Kb ?_ | refine Kc (hd := rfl) (e := ?_) | refine Kc (hd := Cond.cells_eq _) (e := ?_) | refine Kd (e := ?_) | refine Kl rfl ?_ | fail) <;> ((conv => whnf); repeat' (refine Z rfl ?_; conv => whnf)))
 all_goals (refine ⟨congrArg D.str ?_⟩; rw [offT, penT]; simp [*])
theorem flat_step {α : Type} (f : α → List UInt8) {l : List α} {i : Nat} (h : i < l.length) : (l.take (i + 1)).flatMap f = (l.take i).flatMap f ++ f l[i] := by
 rw [List.take_succ_eq_append_getElem h, List.flatMap_append]; simp
theorem flat_le {α : Type} (f : α → List UInt8) (n : Nat) : ∀ l : List α, (∀ x ∈ l, (f x).length ≤ n) → (l.flatMap f).length ≤ n * l.length
 | [], _ => by simp
 | x :: l, h => by
   have := flat_le f n l fun y hy => h y (List.mem_cons_of_mem _ hy)
   have := h x (by simp)
   rw [List.flatMap_cons, List.length_append, List.length_cons, Nat.mul_succ]
   omega
theorem flat_take_le {α : Type} (f : α → List UInt8) (l : List α) (i : Nat) : ((l.take i).flatMap f).length ≤ (l.flatMap f).length := by
 conv => rhs; rw [← List.take_append_drop i l, List.flatMap_append, List.length_append]
 omega
theorem matKT_le (k : Int) : (matKT k).length ≤ 5 := by
 unfold matKT
 split; simp
 split <;> simp
theorem matT_le {m : Mat} (h : m.name.length ≤ 24) : (matT m).length ≤ 40 := by
 have := matKT_le m.kind
 simp only [matT, List.length_append, List.length_cons, List.length_nil]; omega
theorem lens {c : Course} (h : c.fits = true) : c.mats.length ≤ 40 ∧ c.legs.length ≤ 512 ∧ c.distances.length ≤ 8 ∧ c.waves.length ≤ 32 ∧ c.offences.length ≤ 32 ∧ c.categories.length ≤ 32 ∧ c.prizes.length ≤ 32 ∧ ∀ d ∈ c.distances, d.cutoffs.length ≤ 64 ∧ Part.cntL d.route ≤ 256 := by
 simp only [Course.fits, Bool.and_eq_true, decide_eq_true_eq, List.all_eq_true, Distance.fits] at h
 obtain ⟨⟨h1, h2, h3, h4, h5, h6, h7⟩, h8⟩ := h
 exact ⟨h1, h2, h3, h4, h5, h6, h7, fun d hd => ⟨(h8 d hd).1, (h8 d hd).2.2⟩⟩
theorem matst_meets (c : Course) (hg : Good c) : Meets Tryz.prog 73 [c.d] fun d => d = .str (matsT c) := by
 have hT := flat_le matT 40 c.mats fun m hm => matT_le (hg.mats m hm)
 have hl := lens hg.fits
 refine enter tok {} Tryz.func73 rfl (by kernel_rfl) Tryz.ntmps73 (by simp) fun B0 W0 V0 lent g0 => ?_
 ((conv => whnf); repeat' (refine Z rfl ?_; conv => whnf))
 refine loop_upd tok {} [] (X := Nat) (fun i => [(4, iB i), (3, .d (.str ([109, 97, 116, 115, 32, 123] ++ (c.mats.take i).flatMap matT)))]) (fun _ => []) [] (fun i => i ≤ c.mats.length) (fun i => c.mats.length - i) 0 ?_
 ((conv => whnf); repeat' (refine Z rfl ?_; conv => whnf))
 refine And.intro ?_ ⟨by omega, fun i hi => ?_⟩
 · exact Kr
 ((conv => whnf); repeat' (refine Z rfl ?_; conv => whnf))
 repeat' ((first | (intro hlq; (try simp only [SL] at hlq)) | refine Ks ?_ | refine Kq ?_ | refine Kt ?_ | refine Ka ?_ | refine Kb ?_ | refine Kc (hd := rfl) (e := ?_) | refine Kc (hd := Cond.cells_eq _) (e := ?_) | refine Kd (e := ?_) | refine Kl rfl ?_ | fail) <;> ((conv => whnf); repeat' (refine Z rfl ?_; conv => whnf)))
 refine ⟨fun h1 => ?_, fun h1 => ?_⟩ <;> (try simp only [BL] at h1) <;> ((conv => whnf); repeat' (refine Z rfl ?_; conv => whnf))
 · have h1' : i < c.mats.length := by omega
   have hj := flat_take_le matT c.mats i
   have hst := flat_step matT h1'
   have hm := List.getElem_mem h1'
   have hn := hg.mats _ hm
   have hk := matKT_le c.mats[i].kind
   repeat' ((first | (intro hlq; (try simp only [SL] at hlq)) | refine Ks ?_ | refine Kq ?_ | refine Kt ?_ | ((refine Kh (fun hb => ?_) fun hb => ?_) <;> (try simp only [BL] at hb)) | refine Ka ?_ | refine Kb ?_ | refine Kc (hd := rfl) (e := ?_) | refine Kc (hd := Mat.cells_eq _) (e := ?_) | refine Kd (e := ?_) | refine Kl rfl ?_ | fail) <;> ((conv => whnf); repeat' (refine Z rfl ?_; conv => whnf)))
   all_goals (try first | contradiction | (exfalso; omega))
   all_goals
    refine ⟨⟨i + 1, ?_, by omega, by omega⟩⟩
    rw [hst]
    repeat' (first | exact True.intro | exact rfl | refine And.intro ?_ ?_ | (refine congrArg D.str ?_; simp [matT, matKT, *, List.append_assoc]; done))
 · have e : c.mats.take i = c.mats := List.take_of_length_le (by omega)
   rw [e]
   repeat' ((first | (intro hlq; (try simp only [SL] at hlq)) | refine Ks ?_ | refine Kq ?_ | refine Kt ?_ | refine Ka ?_ | refine Kb ?_ | refine Kc (hd := rfl) (e := ?_) | refine Kc (hd := Cond.cells_eq _) (e := ?_) | refine Kd (e := ?_) | refine Kl rfl ?_ | fail) <;> ((conv => whnf); repeat' (refine Z rfl ?_; conv => whnf)))
   exact ⟨rfl⟩
end Go.Proofs.YteckbkljaneppaaGreatDoor.Dx
/- Distances, prizes, all lines, the text of a course, in the reference. -/
namespace Go.Proofs.YteckbkljaneppaaGreatDoor.Dx
open Go Go.RowKit Go.Proofs
set_option maxRecDepth 100000
set_option maxHeartbeats 16000000
theorem timingT_le (k : Int) : (timingT k).length ≤ 4 := by
 unfold timingT
 split; simp
 split <;> simp
structure DOk (c : Course) (d : Distance) : Prop where
 name : d.name.length ≤ 24
 timing : 1 ≤ d.timing ∧ d.timing ≤ 3
 extra : -1 ≤ d.extra ∧ d.extra ≤ c.m
 route : ∀ p ∈ d.route, p.good c.m = true
 cutoffs : ∀ x ∈ d.cutoffs, (0 ≤ x.mat ∧ x.mat ≤ c.m) ∧ (1 ≤ x.lap ∧ x.lap ≤ 256) ∧ 0 ≤ x.limit ∧ x.limit ≤ 1099511627776
 ncut : d.cutoffs.length ≤ 64
 cnt : Part.cntL d.route ≤ 256
theorem dok {c : Course} (hg : Good c) {d : Distance} (hd : d ∈ c.distances) : DOk c d := by
 have h := hg.nums.distances d hd
 have hl := (lens hg.fits).2.2.2.2.2.2.2 d hd
 simp only [Distance.good, Bool.and_eq_true, List.all_eq_true, inR, decide_eq_true_eq] at h
 obtain ⟨h1, h2, h3, h4⟩ := h
 refine ⟨hg.distances d hd, h1, h2, h3, fun x hx => ?_, hl.1, hl.2⟩
 have := h4 x hx
 simp only [Cutoff.good, Bool.and_eq_true, inR, decide_eq_true_eq] at this
 have hr := hg.routes d hd
 simp only [routeOk, Bool.and_eq_true, decide_eq_true_eq, List.all_eq_true] at hr
 have hc := hr.2.2.2 x hx
 simp only [cutOk, decide_eq_true_eq] at hc
 have hcl := List.count_le_length (a := x.mat) (l := Part.exL d.route [])
 exact ⟨this.1, ⟨by omega, by omega⟩, this.2.2.1, this.2.2.2⟩
theorem distt_meets (c : Course) (hg : Good c) (d : Distance) (hd : DOk c d) : Meets Tryz.prog 75 [c.d, d.d] fun r => r = .str (distT c d) := by
 have hcl : ∀ x ∈ d.cutoffs, (cutT c x).length ≤ 300 := fun x hx => by
  have h := hd.cutoffs x hx
  have f1 := matN_le hg.mats x.mat
  have f2 := itoa_le x.lap (by omega) (by omega)
  have f3 := timeS_le x.limit
  simp only [cutT, List.length_append, List.length_cons, List.length_nil]; omega
 have hT := flat_le (cutT c) 300 d.cutoffs hcl
 have hP := partsT_le hg.mats hd.route
 have h1 := hd.name
 have h2 := hd.ncut
 have h3 := hd.cnt
 have h4 := timingT_le d.timing
 have h5 := matN_le hg.mats d.extra
 have r1 := tparts_meets c hg.mats d.route hd.route (by omega)
 refine enter tok {} Tryz.func75 rfl (by kernel_rfl) Tryz.ntmps75 (by simp) fun B0 W0 V0 lent g0 => ?_
 ((conv => whnf); repeat' (refine Z rfl ?_; conv => whnf))
 repeat' ((first | (intro hlq; (try simp only [SL] at hlq)) | refine Ks ?_ | refine Kq ?_ | refine Kt ?_ | ((refine Kh (fun hb => ?_) fun hb => ?_) <;> (try simp only [BL] at hb)) | refine Ka ?_ | refine Kb ?_ | refine Kc (hd := rfl) (e := ?_) | refine Kc (hd := Cond.cells_eq _) (e := ?_) | refine Kd (e := ?_) | refine Kl rfl ?_ | fail) <;> ((conv => whnf); repeat' (refine Z rfl ?_; conv => whnf)))
 all_goals (try first | contradiction | (exfalso; omega))
 all_goals
  refine draw_rule tok (cf := {}) (by kernel_rfl) [.p 0, .p 1, .p 2, .p 3, .p 4, .p 5, .p 6, .p 7, .p 8, .p 9, .s 10 [7,9,8], .p 11, .p 12] (by kernel_rfl) ?_
  ((conv => whnf); repeat' (refine Z rfl ?_; conv => whnf))
  repeat' ((first | (intro hlq; (try simp only [SL] at hlq)) | refine Meets.k (r1) ?_ | refine Ks ?_ | refine Kq ?_ | refine Kt ?_ | ((refine Kh (fun hb => ?_) fun hb => ?_) <;> (try simp only [BL] at hb)) | refine Ka ?_ | refine Kb ?_ | refine Kc (hd := rfl) (e := ?_) | refine Kc (hd := Cond.cells_eq _) (e := ?_) | refine Kd (e := ?_) | refine Kl rfl ?_ | fail) <;> ((conv => whnf); repeat' (refine Z rfl ?_; conv => whnf)))
 all_goals
  refine loop_upd tok {} [] (X := Nat) (fun i => [(7, iB i), (6, .d (.str ([100, 105, 115, 116, 97, 110, 99, 101, 32] ++ d.name ++ [32] ++ timingT d.timing ++ [32, 123, 32] ++ partsT c.mats d.route ++ (d.cutoffs.take i).flatMap (cutT c))))]) (fun _ => []) [8] (fun i => i ≤ d.cutoffs.length) (fun i => d.cutoffs.length - i) 0 ?_
  ((conv => whnf); repeat' (refine Z rfl ?_; conv => whnf))
  refine And.intro ?_ ⟨by omega, fun i hi => ?_⟩
  · repeat' (first | exact True.intro | exact rfl | refine And.intro ?_ ?_ | (refine congrArg D.str ?_; simp [timingT, *, List.append_assoc]; done))
  ((conv => whnf); repeat' (refine Z rfl ?_; conv => whnf))
  repeat' ((first | (intro hlq; (try simp only [SL] at hlq)) | refine Ks ?_ | refine Kq ?_ | refine Kt ?_ | refine Ka ?_ | refine Kb ?_ | refine Kc (hd := rfl) (e := ?_) | refine Kc (hd := Cond.cells_eq _) (e := ?_) | refine Kd (e := ?_) | refine Kl rfl ?_ | fail) <;> ((conv => whnf); repeat' (refine Z rfl ?_; conv => whnf)))
  refine ⟨fun h1' => ?_, fun h1' => ?_⟩ <;> (try simp only [BL] at h1') <;> ((conv => whnf); repeat' (refine Z rfl ?_; conv => whnf))
  · have hil : i < d.cutoffs.length := by omega
    have hj := flat_take_le (cutT c) d.cutoffs i
    have hst := flat_step (cutT c) hil
    have hm := List.getElem_mem hil
    have hx := hcl _ hm
    obtain ⟨⟨g0, g1⟩, g2, g3, g4⟩ := hd.cutoffs _ hm
    have f1 := matN_le hg.mats d.cutoffs[i].mat
    have f2 := itoa_le d.cutoffs[i].lap (by omega) (by omega)
    have f3 := timeS_le d.cutoffs[i].limit
    obtain ⟨k, hmat⟩ := mat_at g0 g1
    repeat' ((first | (intro hlq; (try simp only [SL] at hlq)) | refine Ks ?_ | refine Kq ?_ | refine Kt ?_ | refine Ka ?_ | refine Kb ?_ | refine Kc (hd := rfl) (e := ?_) | refine Kc (hd := Cutoff.cells_eq _) (e := ?_) | refine Kd (e := ?_) | refine Kl rfl ?_ | fail) <;> ((conv => whnf); repeat' (refine Z rfl ?_; conv => whnf)))
    refine draw_rule tok (cf := {}) (by kernel_rfl) [.p 0, .p 1, .p 2, .p 3, .p 4, .p 5, .p 6, .p 7, .p 8, .p 9, .p 10, .p 11, .p 12, .p 16, .p 17, .s 13 [12,11], .p 14, .p 15, .s 18 [17,16], .p 19, .p 20, .p 21] (by kernel_rfl) ?_
    ((conv => whnf); repeat' (refine Z rfl ?_; conv => whnf))
    repeat' ((first | (intro hlq; (try simp only [SL] at hlq)) | refine Meets.k (Decimal_meets _ (by omega) (by omega)) ?_ | refine Meets.k (rmoment_meets _) ?_ | refine ⟨_, ⟨g0, hmat, rfl⟩, ?_⟩ | refine Ks ?_ | refine Kq ?_ | refine Kt ?_ | ((refine Kh (fun hb => ?_) fun hb => ?_) <;> (try simp only [BL] at hb)) | refine Ka ?_ | refine Kb ?_ | refine Kc (hd := rfl) (e := ?_) | refine Kc (hd := Cond.cells_eq _) (e := ?_) | refine Kd (e := ?_) | refine Kl rfl ?_ | fail) <;> ((conv => whnf); repeat' (refine Z rfl ?_; conv => whnf)))
    refine ⟨⟨i + 1, ?_, by omega, by omega⟩⟩
    rw [hst]
    repeat' (first | exact True.intro | exact rfl | refine And.intro ?_ ?_ | (refine congrArg D.str ?_; simp [cutT, List.append_assoc]; done))
  · have e : d.cutoffs.take i = d.cutoffs := List.take_of_length_le (by omega)
    rw [e]
    refine ⟨fun h6 => ?_, fun h6 => ?_⟩ <;> (try simp only [BL] at h6) <;> ((conv => whnf); repeat' (refine Z rfl ?_; conv => whnf))
    · obtain ⟨k, hmat⟩ := mat_at h6 hd.extra.2
      repeat' ((first | (intro hlq; (try simp only [SL] at hlq)) | refine ⟨_, ⟨h6, hmat, rfl⟩, ?_⟩ | refine Ks ?_ | refine Kq ?_ | refine Kt ?_ | ((refine Kh (fun hb => ?_) fun hb => ?_) <;> (try simp only [BL] at hb)) | refine Ka ?_ | refine Kb ?_ | refine Kc (hd := rfl) (e := ?_) | refine Kc (hd := Cond.cells_eq _) (e := ?_) | refine Kd (e := ?_) | refine Kl rfl ?_ | fail) <;> ((conv => whnf); repeat' (refine Z rfl ?_; conv => whnf)))
      refine ⟨congrArg D.str ?_⟩
      simp [distT, extraT, h6]
    · repeat' ((first | (intro hlq; (try simp only [SL] at hlq)) | refine Ks ?_ | refine Kq ?_ | refine Kt ?_ | ((refine Kh (fun hb => ?_) fun hb => ?_) <;> (try simp only [BL] at hb)) | refine Ka ?_ | refine Kb ?_ | refine Kc (hd := rfl) (e := ?_) | refine Kc (hd := Cond.cells_eq _) (e := ?_) | refine Kd (e := ?_) | refine Kl rfl ?_ | fail) <;> ((conv => whnf); repeat' (refine Z rfl ?_; conv => whnf)))
      refine ⟨congrArg D.str ?_⟩
      simp [distT, extraT, h6]
theorem dist_at {c : Course} {i : Int} (h0 : 0 ≤ i) (h1 : i ≤ c.distances.length - 1) : ∃ a b e f, (c.distances.map Distance.cells)[i.toNat]? = some [.str (distN c i), a, b, e, f] := by
 have hl : i.toNat < c.distances.length := by omega
 refine ⟨.sl ((c.distances[i.toNat]).route.map Part.cells), iD (c.distances[i.toNat]).timing, .sl ((c.distances[i.toNat]).cutoffs.map Cutoff.cells), iD (c.distances[i.toNat]).extra, ?_⟩
 rw [List.getElem?_map, List.getElem?_eq_getElem hl]
 simp only [Option.map_some, Distance.cells]
 rw [distN, List.getElem?_eq_getElem hl]
theorem cat_at {c : Course} {i : Int} (h0 : 0 ≤ i) (h1 : i ≤ c.categories.length - 1) : ∃ a b, (c.categories.map Category.cells)[i.toNat]? = some [.str (whoT c i), a, b] := by
 have hl : i.toNat < c.categories.length := by omega
 refine ⟨iD (c.categories[i.toNat]).lo, iD (c.categories[i.toNat]).hi, ?_⟩
 rw [List.getElem?_map, List.getElem?_eq_getElem hl]
 simp only [Option.map_some, Category.cells]
 rw [whoT, if_pos h0, List.getElem?_eq_getElem hl]
theorem distN_le {c : Course} (hg : Good c) (i : Int) : (distN c i).length ≤ 24 := by
 unfold distN
 split
 · rename_i m hm; exact hg.distances m (List.mem_of_getElem? hm)
 · simp
theorem whoT_le {c : Course} (hg : Good c) (i : Int) : (whoT c i).length ≤ 24 := by
 unfold whoT
 split
 · split
   · rename_i m hm; exact hg.categories m (List.mem_of_getElem? hm)
   · simp
 · simp
structure PzOk (c : Course) (x : Prize) : Prop where
 distance : 0 ≤ x.distance ∧ x.distance ≤ c.distances.length - 1
 category : -1 ≤ x.category ∧ x.category ≤ c.categories.length - 1
 rank : 1 ≤ x.rank ∧ x.rank ≤ 4000
 amount : 1 ≤ x.amount ∧ x.amount ≤ 1125899906842624
theorem pzok {c : Course} (hg : Good c) {x : Prize} (hx : x ∈ c.prizes) : PzOk c x := by
 have h := hg.nums.prizes x hx
 simp only [Prize.good, Bool.and_eq_true, inR, decide_eq_true_eq] at h
 exact ⟨h.1, h.2.1, h.2.2.1, h.2.2.2⟩
theorem prizet_meets (c : Course) (hg : Good c) (x : Prize) (hx : PzOk c x) : Meets Tryz.prog 78 [c.d, x.d] fun r => r = .str (prizeT c x) := by
 obtain ⟨a, b, e, f, hdist⟩ := dist_at hx.distance.1 hx.distance.2
 have h1 := hx.rank
 have h2 := hx.amount
 have h0 := hx.distance.1
 have f1 := itoa_le x.rank (by omega) (by omega)
 have f2 := itoa_le x.amount (by omega) (by omega)
 have f3 := distN_le hg x.distance
 have f4 := whoT_le hg x.category
 refine enter tok {} Tryz.func78 rfl (by kernel_rfl) Tryz.ntmps78 (by simp) fun B0 W0 V0 lent g0 => ?_
 ((conv => whnf); repeat' (refine Z rfl ?_; conv => whnf))
 refine ⟨fun h6 => ?_, fun h6 => ?_⟩ <;> (try simp only [BL] at h6) <;> ((conv => whnf); repeat' (refine Z rfl ?_; conv => whnf))
 · obtain ⟨a', b', hcat⟩ := cat_at h6 hx.category.2
   repeat' ((first | (intro hlq; (try simp only [SL] at hlq)) | refine ⟨_, ⟨h6, hcat, rfl⟩, ?_⟩ | refine Ks ?_ | refine Kq ?_ | refine Kt ?_ | ((refine Kh (fun hb => ?_) fun hb => ?_) <;> (try simp only [BL] at hb)) | refine Ka ?_ | refine Kb ?_ | refine Kc (hd := rfl) (e := ?_) | refine Kc (hd := Cond.cells_eq _) (e := ?_) | refine Kd (e := ?_) | refine Kl rfl ?_ | fail) <;> ((conv => whnf); repeat' (refine Z rfl ?_; conv => whnf)))
   refine draw_rule tok (cf := {}) (by kernel_rfl) [.p 0, .p 1, .p 2, .p 3, .p 4, .p 5, .p 6, .p 7, .p 8, .p 9, .p 10, .p 11, .p 12, .p 13, .p 17, .p 18, .s 14 [13,12], .p 15, .p 16, .s 19 [18,17], .p 20, .p 21, .p 22] (by kernel_rfl) ?_
   ((conv => whnf); repeat' (refine Z rfl ?_; conv => whnf))
   repeat' ((first | (intro hlq; (try simp only [SL] at hlq)) | refine ⟨_, ⟨h0, hdist, rfl⟩, ?_⟩ | refine Meets.k (Decimal_meets _ (by omega) (by omega)) ?_ | refine Ks ?_ | refine Kq ?_ | refine Kt ?_ | ((refine Kh (fun hb => ?_) fun hb => ?_) <;> (try simp only [BL] at hb)) | refine Ka ?_ | refine Kb ?_ | refine Kc (hd := rfl) (e := ?_) | refine Kc (hd := Cond.cells_eq _) (e := ?_) | refine Kd (e := ?_) | refine Kl rfl ?_ | fail) <;> ((conv => whnf); repeat' (refine Z rfl ?_; conv => whnf)))
   exact ⟨rfl⟩
 · have e6 : whoT c x.category = [97, 108, 108] := by rw [whoT, if_neg h6]
   refine draw_rule tok (cf := {}) (by kernel_rfl) [.p 0, .p 1, .p 2, .p 3, .p 4, .p 5, .p 6, .p 7, .p 8, .p 9, .p 10, .p 11, .p 12, .p 13, .p 17, .p 18, .s 14 [13,12], .p 15, .p 16, .s 19 [18,17], .p 20, .p 21, .p 22] (by kernel_rfl) ?_
   ((conv => whnf); repeat' (refine Z rfl ?_; conv => whnf))
   repeat' ((first | (intro hlq; (try simp only [SL] at hlq)) | refine ⟨_, ⟨h0, hdist, rfl⟩, ?_⟩ | refine Meets.k (Decimal_meets _ (by omega) (by omega)) ?_ | refine Ks ?_ | refine Kq ?_ | refine Kt ?_ | ((refine Kh (fun hb => ?_) fun hb => ?_) <;> (try simp only [BL] at hb)) | refine Ka ?_ | refine Kb ?_ | refine Kc (hd := rfl) (e := ?_) | refine Kc (hd := Cond.cells_eq _) (e := ?_) | refine Kd (e := ?_) | refine Kl rfl ?_ | fail) <;> ((conv => whnf); repeat' (refine Z rfl ?_; conv => whnf)))
   exact ⟨congrArg D.str (by rw [prizeT, e6])⟩
end Go.Proofs.YteckbkljaneppaaGreatDoor.Dx
