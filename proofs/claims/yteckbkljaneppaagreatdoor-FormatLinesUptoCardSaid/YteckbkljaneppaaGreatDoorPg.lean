/- Lines of a course, in the reference. -/
import Derived.Test.YteckbkljaneppaaGreatDoorPf
set_option linter.all false
namespace Go.Proofs.YteckbkljaneppaaGreatDoor.Dx
open Go Go.RowKit Go.Proofs
set_option maxRecDepth 100000
set_option maxHeartbeats 16000000
theorem flat_step {α : Type} (f : α → List UInt8) {l : List α} {i : Nat} (h : i < l.length) : (l.take (i + 1)).flatMap f = (l.take i).flatMap f ++ f l[i] := by
 rw [List.take_succ_eq_append_getElem h, List.flatMap_append]; simp
theorem flat_le {α : Type} (f : α → List UInt8) (n : Nat) : ∀ l : List α, (∀ x ∈ l, (f x).length ≤ n) → (l.flatMap f).length ≤ n * l.length
 | [], _ => by simp
 | x :: l, h => by
   have := flat_le f n l fun y hy => h y (List.mem_cons_of_mem _ hy)
   have := h x (by simp)
   rw [List.flatMap_cons, List.length_append, List.length_cons, Nat.mul_succ]
   omega
theorem flat_take_le {α : Type} (f : α → List UInt8) (l : List α) (i : Nat) : ((l.take i).flatMap f).length ≤ (l.flatMap f).length := by
 conv => rhs; rw [← List.take_append_drop i l, List.flatMap_append, List.length_append]
 omega
theorem matKT_le (k : Int) : (matKT k).length ≤ 5 := by
 unfold matKT
 split; simp
 split <;> simp
theorem matT_le {m : Mat} (h : m.name.length ≤ 24) : (matT m).length ≤ 40 := by
 have := matKT_le m.kind
 simp only [matT, List.length_append, List.length_cons, List.length_nil]; omega
theorem lens {c : Course} (h : c.fits = true) : c.mats.length ≤ 40 ∧ c.legs.length ≤ 512 ∧ c.distances.length ≤ 8 ∧ c.waves.length ≤ 32 ∧ c.offences.length ≤ 32 ∧ c.categories.length ≤ 32 ∧ c.prizes.length ≤ 32 ∧ ∀ d ∈ c.distances, d.cutoffs.length ≤ 64 ∧ Part.cntL d.route ≤ 256 := by
 simp only [Course.fits, Bool.and_eq_true, decide_eq_true_eq, List.all_eq_true, Distance.fits] at h
 obtain ⟨⟨h1, h2, h3, h4, h5, h6, h7⟩, h8⟩ := h
 exact ⟨h1, h2, h3, h4, h5, h6, h7, fun d hd => ⟨(h8 d hd).1, (h8 d hd).2.2⟩⟩
end Go.Proofs.YteckbkljaneppaaGreatDoor.Dx
/- Distances, prizes, all lines, the text of a course, in the reference. -/
namespace Go.Proofs.YteckbkljaneppaaGreatDoor.Dx
open Go Go.RowKit Go.Proofs
set_option maxRecDepth 100000
set_option maxHeartbeats 16000000
theorem timingT_le (k : Int) : (timingT k).length ≤ 4 := by
 unfold timingT
 split; simp
 split <;> simp
/-- what a distance of a valid course is -/
structure DOk (c : Course) (d : Distance) : Prop where
 name : d.name.length ≤ 24
 timing : 1 ≤ d.timing ∧ d.timing ≤ 3
 extra : -1 ≤ d.extra ∧ d.extra ≤ c.m
 route : ∀ p ∈ d.route, p.good c.m = true
 cutoffs : ∀ x ∈ d.cutoffs, (0 ≤ x.mat ∧ x.mat ≤ c.m) ∧ (1 ≤ x.lap ∧ x.lap ≤ 256) ∧ 0 ≤ x.limit ∧ x.limit ≤ 1099511627776
 ncut : d.cutoffs.length ≤ 64
 cnt : Part.cntL d.route ≤ 256
theorem dok {c : Course} (hg : Good c) {d : Distance} (hd : d ∈ c.distances) : DOk c d := by
 have h := hg.nums.distances d hd
 have hl := (lens hg.fits).2.2.2.2.2.2.2 d hd
 simp only [Distance.good, Bool.and_eq_true, List.all_eq_true, inR, decide_eq_true_eq] at h
 obtain ⟨h1, h2, h3, h4⟩ := h
 refine ⟨hg.distances d hd, h1, h2, h3, fun x hx => ?_, hl.1, hl.2⟩
 have := h4 x hx
 simp only [Cutoff.good, Bool.and_eq_true, inR, decide_eq_true_eq] at this
 have hr := hg.routes d hd
 simp only [routeOk, Bool.and_eq_true, decide_eq_true_eq, List.all_eq_true] at hr
 have hc := hr.2.2.2 x hx
 simp only [cutOk, decide_eq_true_eq] at hc
 have hcl := List.count_le_length (a := x.mat) (l := Part.exL d.route [])
 exact ⟨this.1, ⟨by omega, by omega⟩, this.2.2.1, this.2.2.2⟩
theorem dist_at {c : Course} {i : Int} (h0 : 0 ≤ i) (h1 : i ≤ c.distances.length - 1) : ∃ a b e f, (c.distances.map Distance.cells)[i.toNat]? = some [.str (distN c i), a, b, e, f] := by
 have hl : i.toNat < c.distances.length := by omega
 refine ⟨.sl ((c.distances[i.toNat]).route.map Part.cells), iD (c.distances[i.toNat]).timing, .sl ((c.distances[i.toNat]).cutoffs.map Cutoff.cells), iD (c.distances[i.toNat]).extra, ?_⟩
 rw [List.getElem?_map, List.getElem?_eq_getElem hl]
 simp only [Option.map_some, Distance.cells]
 rw [distN, List.getElem?_eq_getElem hl]
theorem cat_at {c : Course} {i : Int} (h0 : 0 ≤ i) (h1 : i ≤ c.categories.length - 1) : ∃ a b, (c.categories.map Category.cells)[i.toNat]? = some [.str (whoT c i), a, b] := by
 have hl : i.toNat < c.categories.length := by omega
 refine ⟨iD (c.categories[i.toNat]).lo, iD (c.categories[i.toNat]).hi, ?_⟩
 rw [List.getElem?_map, List.getElem?_eq_getElem hl]
 simp only [Option.map_some, Category.cells]
 rw [whoT, if_pos h0, List.getElem?_eq_getElem hl]
theorem distN_le {c : Course} (hg : Good c) (i : Int) : (distN c i).length ≤ 24 := by
 unfold distN
 split
 · rename_i m hm; exact hg.distances m (List.mem_of_getElem? hm)
 · simp
theorem whoT_le {c : Course} (hg : Good c) (i : Int) : (whoT c i).length ≤ 24 := by
 unfold whoT
 split
 · split
   · rename_i m hm; exact hg.categories m (List.mem_of_getElem? hm)
   · simp
 · simp
/-- what a prize of a valid course is -/
structure PzOk (c : Course) (x : Prize) : Prop where
 distance : 0 ≤ x.distance ∧ x.distance ≤ c.distances.length - 1
 category : -1 ≤ x.category ∧ x.category ≤ c.categories.length - 1
 rank : 1 ≤ x.rank ∧ x.rank ≤ 4000
 amount : 1 ≤ x.amount ∧ x.amount ≤ 1125899906842624
theorem pzok {c : Course} (hg : Good c) {x : Prize} (hx : x ∈ c.prizes) : PzOk c x := by
 have h := hg.nums.prizes x hx
 simp only [Prize.good, Bool.and_eq_true, inR, decide_eq_true_eq] at h
 exact ⟨h.1, h.2.1, h.2.2.1, h.2.2.2⟩
end Go.Proofs.YteckbkljaneppaaGreatDoor.Dx
