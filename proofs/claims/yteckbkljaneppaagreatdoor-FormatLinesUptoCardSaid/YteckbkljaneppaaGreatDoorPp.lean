/- Texts of courses tell apart, and their lines (plain law). -/
import Derived.Test.YteckbkljaneppaaGreatDoorPo
import Derived.Test.YteckbkljaneppaaGreatDoorPh
import Derived.Test.YteckbkljaneppaaGreatDoorPm
set_option linter.all false
namespace Go.Proofs.YteckbkljaneppaaGreatDoor.Dx
open Go Go.RowKit Go.Proofs
set_option maxRecDepth 100000
set_option maxHeartbeats 4000000
/-! the same texts: cores -/
theorem Cond.pt_cores (c : Cond) : c.cores.pt = c.pt := by
 cases ht : c.thin with
 | true =>
   obtain ⟨hk, p, hp⟩ := Cond.thin_cases ht
   have hsz := Cond.size_part (show p ∈ c.parts by simp [hp])
   rw [Cond.cores_thin hk hp, Cond.pt_thin hk hp]
   exact Cond.pt_cores p
 | false =>
   rw [Cond.cores_self ht, Cond.pt_eq, Cond.pt_eq c, List.map_map]
   congr 1
   refine List.map_congr_left fun p hp => ?_
   have hsz := Cond.size_part hp
   exact Cond.pt_cores p
termination_by SizeOf.sizeOf c
decreasing_by all_goals exact hsz
theorem Step.tx_cores (s : Step) : s.cores.tx = s.tx := by
 have ht : (s.th.map Step.cores).map Step.tx = s.th.map Step.tx := by
  rw [List.map_map]
  exact List.map_congr_left fun x hx => by
   have := Step.size_th hx
   exact Step.tx_cores x
 have he : (s.el.map Step.cores).map Step.tx = s.el.map Step.tx := by
  rw [List.map_map]
  exact List.map_congr_left fun x hx => by
   have := Step.size_el hx
   exact Step.tx_cores x
 rw [Step.cores_eq, Step.tx_eq, Step.tx_eq s, stepsT, stepsT, ht, he, List.length_map]
 dsimp only
 split
 · rfl
 · split
   · rw [Cond.pt_cores]; rfl
   · rfl
termination_by SizeOf.sizeOf s
decreasing_by all_goals assumption
theorem stepsT_cores (l : List Step) : stepsT (l.map Step.cores) = stepsT l := by
 rw [stepsT, stepsT, List.map_map]
 congr 1
 exact List.map_congr_left fun x _ => Step.tx_cores x
theorem courseT_cores (c : Course) : courseT c.cores = courseT c := by
 simp only [courseT, linesT, tiesT, Course.cores, stepsT_cores]; rfl
/-! no line ends inside of a line -/
abbrev Nl (x : List UInt8) : Prop := ∀ b ∈ x, b ≠ 10
theorem Nl.app {x y : List UInt8} (hx : Nl x) (hy : Nl y) : Nl (x ++ y) := by
 intro b hb
 rcases List.mem_append.1 hb with h | h
 · exact hx b h
 · exact hy b h
theorem Wd.nl {x : List UInt8} (h : Wd x) : Nl x := by
 intro b hb e
 have := h b hb
 rw [e] at this
 exact absurd this (by decide)
theorem Nl.join {sep : List UInt8} (hs : Nl sep) : ∀ {l : List (List UInt8)}, (∀ x ∈ l, Nl x) → Nl (Lib.join l sep)
 | [], _ => by intro b hb; simp [Lib.join, List.intercalate] at hb
 | [x], h => by rw [Lib.join_one]; exact h x (by simp)
 | x :: y :: l, h => by
   rw [Dx.join_cons]
   exact (h x (by simp)).app (hs.app (Nl.join hs fun z hz => h z (List.mem_cons_of_mem _ hz)))
theorem Nl.sep : ∀ {b : Bool} {l : List (List UInt8)}, (∀ x ∈ l, Nl x) → Nl (sepT b l)
 | b, [], _ => by cases b <;> (intro c hc; simp [sepT] at hc)
 | true, x :: l, h => by
   rw [sepT]; exact (h x (by simp)).app (Nl.sep fun z hz => h z (List.mem_cons_of_mem _ hz))
 | false, x :: l, h => by
   rw [sepT]; exact ((show Nl [32] by decide).app (h x (by simp))).app (Nl.sep fun z hz => h z (List.mem_cons_of_mem _ hz))
theorem Nl.flat {α : Type} {f : α → List UInt8} : ∀ {l : List α}, (∀ x ∈ l, Nl (f x)) → Nl (l.flatMap f)
 | [], _ => by intro b hb; cases hb
 | x :: l, h => by
   rw [List.flatMap_cons]
   exact (h x (by simp)).app (Nl.flat fun z hz => h z (List.mem_cons_of_mem _ hz))
theorem Nl.tight {x : Int × List UInt8} (h : Nl x.2) : Nl (tightT x) := by
 unfold tightT; split
 · exact ((show Nl [40] by decide).app h).app (by decide)
 · exact h
theorem Nl.loose {x : Int × List UInt8} (h : Nl x.2) : Nl (looseT x) := by
 unfold looseT; split
 · exact ((show Nl [40] by decide).app h).app (by decide)
 · exact h
theorem Nl.cond (c : Cond) (hv : c.valid = true) : Nl c.pt.2 := by
 have ih : ∀ p ∈ c.parts, Nl p.pt.2 := fun p hp => by
  have hsz := Cond.size_part hp
  exact Nl.cond p (Cond.valid_parts hv p hp)
 cases ht : c.thin with
 | true =>
   obtain ⟨hk, p, hp⟩ := Cond.thin_cases ht
   rw [Cond.pt_thin hk hp]
   exact ih p (by simp [hp])
 | false =>
   have hT : ∀ x ∈ (c.parts.map Cond.pt).map tightT, Nl x := by
    intro x hx
    obtain ⟨y, hy, rfl⟩ := List.mem_map.1 hx
    obtain ⟨p, hp, rfl⟩ := List.mem_map.1 hy
    exact Nl.tight (ih p hp)
   have hL : ∀ x ∈ (c.parts.map Cond.pt).map looseT, Nl x := by
    intro x hx
    obtain ⟨y, hy, rfl⟩ := List.mem_map.1 hx
    obtain ⟨p, hp, rfl⟩ := List.mem_map.1 hy
    exact Nl.loose (ih p hp)
   rw [Cond.pt_core ht]
   show Nl (textK _ _ _ _)
   unfold textK
   split
   · rename_i h1
     rcases core_cases hv ht with h | h | h <;> try omega
     exact ((varT_wd _).nl.app (by decide)).app (Wd.itoa h.2.2.2.1).nl
   · split
     · exact (show Nl [110, 111, 116, 32] by decide).app (Nl.join (by decide) hT)
     · split
       · exact Nl.join (by decide) hT
       · exact Nl.join (by decide) hL
termination_by SizeOf.sizeOf c
decreasing_by exact hsz
theorem Nl.step (s : Step) (hv : s.valid = true) : Nl s.tx := by
 rw [Step.tx_eq]
 rcases Step.cases hv with ⟨k, _⟩ | ⟨k, hc, _, ht, he⟩
 · rw [if_pos k]
   exact (critT_wd _).nl.app (by decide)
 · have h1 : Nl (stepsT s.th) := Nl.sep fun x hx => by
    obtain ⟨y, hy, rfl⟩ := List.mem_map.1 hx
    have := Step.size_th hy
    exact Nl.step y (ht y hy)
   have h2 : Nl (stepsT s.el) := Nl.sep fun x hx => by
    obtain ⟨y, hy, rfl⟩ := List.mem_map.1 hx
    have := Step.size_el hy
    exact Nl.step y (he y hy)
   rw [if_neg (by omega), ifT]
   refine Nl.app (((((show Nl _ by decide).app (Nl.cond _ hc)).app (by decide)).app h1).app (by decide)) ?_
   split
   · exact ((show Nl _ by decide).app h2).app (by decide)
   · decide
termination_by SizeOf.sizeOf s
decreasing_by all_goals assumption
theorem Nl.mat {c : Course} (g : Good c) (i : Int) : Nl (matN c.mats i) := by
 have hn := g.named
 simp only [Course.named, Bool.and_eq_true] at hn
 exact (matN_wd hn.2.1 i).nl
theorem Nl.part {c : Course} (g : Good c) (m : Int) (p : Part) (hp : p.good m = true) : Nl (p.tx c.mats) := by
 rw [Part.tx_eq]
 rcases Part.facts hp with ⟨k, h0, h1, h2⟩ | ⟨k, h0, h1⟩
 · rw [if_pos k]
   exact (Nl.mat g _).app (by decide)
 · have h3 : Nl (partsT c.mats p.parts) := Nl.sep fun x hx => by
    obtain ⟨y, hy, rfl⟩ := List.mem_map.1 hx
    have := Part.size_part hy
    exact Nl.part g m y (h1 y hy)
   rw [if_neg (by omega)]
   exact ((((show Nl _ by decide).app (Wd.itoa (by omega)).nl).app (by decide)).app h3).app (by decide)
termination_by SizeOf.sizeOf p
decreasing_by assumption
/-- what a line is: it begins with a letter, and no line ends inside -/
def Ln (s : List UInt8) : Prop := (∃ b r, s = b :: r ∧ wch b = true) ∧ Nl s
structure Names (c : Course) : Prop where
 name : isNm kw c.name = true
 mats : nmL (c.mats.map (·.name)) = true
 distances : nmL (c.distances.map (·.name)) = true
 waves : nmL (c.waves.map (·.name)) = true
 offences : nmL (c.offences.map (·.name)) = true
 categories : nmL (c.categories.map (·.name)) = true
theorem Good.names {c : Course} (g : Good c) : Names c := by
 have hn := g.named
 simp only [Course.named, Bool.and_eq_true] at hn
 obtain ⟨n1, n2, n3, n4, n5, n6⟩ := hn
 exact ⟨n1, n2, n3, n4, n5, n6⟩
theorem nmL_wd {α : Type} {l : List α} {f : α → List UInt8} (h : nmL (l.map f) = true) {x : α} (hx : x ∈ l) : Wd (f x) := by
 simp only [nmL, Bool.and_eq_true, List.all_eq_true] at h
 exact Wd.name (h.1 _ (List.mem_map.2 ⟨x, hx, rfl⟩))
theorem distN_wd {c : Course} (g : Good c) (i : Int) : Wd (distN c i) := by
 unfold distN
 split
 · rename_i m hm; exact nmL_wd (f := fun x : Distance => x.name) g.names.distances (List.mem_of_getElem? hm)
 · exact .nil
theorem whoT_wd {c : Course} (g : Good c) (i : Int) : Wd (whoT c i) := by
 unfold whoT
 split
 · split
   · rename_i m hm; exact nmL_wd (f := fun x : Category => x.name) g.names.categories (List.mem_of_getElem? hm)
   · exact .nil
 · intro b hb; revert b; decide
theorem matKT_wd (k : Int) : Wd (matKT k) := by
 unfold matKT
 split
 · intro b hb; revert b; decide
 · split <;> (intro b hb; revert b; decide)
theorem timingT_wd (k : Int) : Wd (timingT k) := by
 unfold timingT
 split
 · intro b hb; revert b; decide
 · split <;> (intro b hb; revert b; decide)
structure LegOk (m : Int) (l : Leg) : Prop where
 src : 0 ≤ l.src ∧ l.src ≤ m
 dst : 0 ≤ l.dst ∧ l.dst ≤ m
 lo : 0 ≤ l.lo ∧ l.lo ≤ 1099511627776
 hi : 0 ≤ l.hi ∧ l.hi ≤ 1099511627776
theorem legOk {m : Int} {l : Leg} (h : l.good m = true) : LegOk m l := by
 simp only [Leg.good, inR, Bool.and_eq_true, decide_eq_true_eq] at h
 exact ⟨by omega, by omega, by omega, by omega⟩
structure CutOk (m : Int) (l : Cutoff) : Prop where
 mat : 0 ≤ l.mat ∧ l.mat ≤ m
 lap : 1 ≤ l.lap
 limit : 0 ≤ l.limit ∧ l.limit ≤ 1099511627776
theorem cutGd {m : Int} {l : Cutoff} (h : l.good m = true) : CutOk m l := by
 simp only [Cutoff.good, inR, Bool.and_eq_true, decide_eq_true_eq] at h
 exact ⟨by omega, by omega, by omega⟩
structure DistOk (m : Int) (d : Distance) : Prop where
 timing : 1 ≤ d.timing ∧ d.timing ≤ 3
 extra : -1 ≤ d.extra ∧ d.extra ≤ m
 route : ∀ p ∈ d.route, p.good m = true
 cutoffs : ∀ x ∈ d.cutoffs, CutOk m x
theorem distOk {m : Int} {d : Distance} (h : d.good m = true) : DistOk m d := by
 simp only [Distance.good, inR, Bool.and_eq_true, decide_eq_true_eq, List.all_eq_true] at h
 exact ⟨h.1, h.2.1, h.2.2.1, fun x hx => cutGd (h.2.2.2 x hx)⟩
theorem offOk {o : Offence} (h : o.good = true) : (o.out = true ∧ o.time = 0 ∧ o.laps = 0) ∨ (o.out = false ∧ o.laps = 0 ∧ 0 ≤ o.time ∧ o.time ≤ 1099511627776) ∨ (o.out = false ∧ o.time = 0 ∧ 1 ≤ o.laps) := by
 unfold Offence.good at h
 split at h
 · simp only [Bool.and_eq_true, decide_eq_true_eq] at h
   exact .inl ⟨by assumption, h⟩
 · split at h
   · simp only [inR, Bool.and_eq_true, decide_eq_true_eq] at h
     exact .inr (.inl ⟨by simpa using ‹¬ o.out = true›, by assumption, by omega, by omega⟩)
   · simp only [inR, Bool.and_eq_true, decide_eq_true_eq] at h
     exact .inr (.inr ⟨by simpa using ‹¬ o.out = true›, h.1, h.2.1⟩)
theorem penT_wd {o : Offence} (h : o.out = false) (hl : o.laps = 0) (h0 : 0 ≤ o.time) (h1 : o.time ≤ 1099511627776) : penT o = timeS o.time := by
 rw [penT, if_neg (by rw [h]; simp), if_neg (by omega)]
theorem Nl.time {t : Int} (h : 0 ≤ t ∧ t ≤ 1099511627776) : Nl (timeS t) := (Wd.timeS h.1 h.2).nl
theorem Nl.pen {o : Offence} (h : o.good = true) : Nl (penT o) := by
 unfold penT
 split
 · decide
 · split
   · exact (show Nl _ by decide).app (Wd.itoa (by omega)).nl
   · rcases offOk h with k | k | k
     · simp_all
     · exact Nl.time k.2.2
     · omega
theorem Ln.lit {s r : List UInt8} {b : UInt8} (h : Nl s) (e : s = b :: r) (hb : wch b = true := by decide) : Ln s := ⟨⟨b, r, e, hb⟩, h⟩
structure FaultsOk (c : Course) : Prop where
 misses : 0 ≤ c.faults.misses
 strays : 0 ≤ c.faults.strays
 window : 0 ≤ c.faults.window ∧ c.faults.window ≤ 1099511627776
 residual : 0 ≤ c.faults.residual ∧ c.faults.residual ≤ 1099511627776
 drift : 0 ≤ c.faults.drift
 fee : 0 ≤ c.fee
 deadline : 0 ≤ c.deadline ∧ c.deadline ≤ 1099511627776
theorem faultsOk {c : Course} (g : Good c) : FaultsOk c := by
 have h := g.nums.rest
 simp only [Course.numsB, inR, Bool.and_eq_true, decide_eq_true_eq] at h
 exact ⟨by omega, by omega, by omega, by omega, by omega, by omega, by omega⟩
theorem Ln.matsT {c : Course} (g : Good c) : Ln (matsT c) := by
 refine Ln.lit (.app (.app (by decide) (Nl.flat fun m hm => ?_)) (by decide)) rfl
 exact (((show Nl _ by decide).app (matKT_wd _).nl).app (by decide)).app (nmL_wd (f := fun x : Mat => x.name) g.names.mats hm).nl |>.app (by decide)
theorem Ln.legT {c : Course} (g : Good c) {x : Leg} (hx : x ∈ c.legs) : Ln (legT c x) := by
 have k := legOk (g.nums.legs x hx)
 refine Ln.lit ?_ rfl
 exact ((((((((show Nl _ by decide).app (Nl.mat g _)).app (by decide)).app (Nl.mat g _)).app (by decide)).app (Nl.time k.lo)).app (by decide)).app (Nl.time k.hi)).app (by decide)
theorem Nl.cutT {c : Course} (g : Good c) {x : Cutoff} {m : Int} (k : CutOk m x) : Nl (cutT c x) :=
 ((((((show Nl _ by decide).app (Nl.mat g _)).app (by decide)).app (Wd.itoa (by have := k.lap; omega)).nl).app (by decide)).app (Nl.time k.limit)).app (by decide)
theorem Ln.distT {c : Course} (g : Good c) {x : Distance} (hx : x ∈ c.distances) : Ln (distT c x) := by
 have k := distOk (g.nums.distances x hx)
 have he : Nl (extraT c x.extra) := by
  unfold extraT; split
  · exact ((show Nl _ by decide).app (Nl.mat g _)).app (by decide)
  · decide
 have hr : Nl (partsT c.mats x.route) := Nl.sep fun p hp => by
  obtain ⟨y, hy, rfl⟩ := List.mem_map.1 hp
  exact Nl.part g _ y (k.route y hy)
 refine Ln.lit ?_ rfl
 exact ((((((((show Nl _ by decide).app (nmL_wd (f := fun x : Distance => x.name) g.names.distances hx).nl).app (by decide)).app (timingT_wd _).nl).app (by decide)).app hr).app (Nl.flat fun y hy => Nl.cutT g (k.cutoffs y hy))).app he).app (by decide)
theorem Ln.waveT {c : Course} (g : Good c) {x : Wave} (hx : x ∈ c.waves) : Ln (waveT x) := by
 have k := g.nums.waves x hx
 simp only [Wave.good, inR, Bool.and_eq_true, decide_eq_true_eq] at k
 refine Ln.lit ?_ rfl
 exact ((((show Nl _ by decide).app (nmL_wd (f := fun x : Wave => x.name) g.names.waves hx).nl).app (by decide)).app (Nl.time k)).app (by decide)
theorem Ln.offT {c : Course} (g : Good c) {x : Offence} (hx : x ∈ c.offences) : Ln (offT x) := by
 refine Ln.lit ?_ rfl
 exact ((((show Nl _ by decide).app (nmL_wd (f := fun x : Offence => x.name) g.names.offences hx).nl).app (by decide)).app (Nl.pen (g.nums.offences x hx))).app (by decide)
theorem catOk {x : Category} (h : x.good = true) : 0 ≤ x.lo ∧ 0 ≤ x.hi := by
 simp only [Category.good, inR, Bool.and_eq_true, decide_eq_true_eq] at h; omega
theorem Ln.catT {c : Course} (g : Good c) {x : Category} (hx : x ∈ c.categories) : Ln (catT x) := by
 have k := catOk (g.nums.categories x hx)
 refine Ln.lit ?_ rfl
 exact ((((((show Nl _ by decide).app (nmL_wd (f := fun x : Category => x.name) g.names.categories hx).nl).app (by decide)).app (Wd.itoa k.1).nl).app (by decide)).app (Wd.itoa k.2).nl).app (by decide)
theorem prizeOk {c : Course} (g : Good c) {x : Prize} (hx : x ∈ c.prizes) : (0 ≤ x.distance ∧ x.distance ≤ (c.distances.length : Int) - 1) ∧ (-1 ≤ x.category ∧ x.category ≤ (c.categories.length : Int) - 1) ∧ 1 ≤ x.rank ∧ 1 ≤ x.amount := by
 have k := g.nums.prizes x hx
 simp only [Prize.good, inR, Bool.and_eq_true, decide_eq_true_eq] at k
 omega
theorem Ln.prizeT {c : Course} (g : Good c) {x : Prize} (hx : x ∈ c.prizes) : Ln (prizeT c x) := by
 have k := prizeOk g hx
 refine Ln.lit ?_ rfl
 exact ((((((((show Nl _ by decide).app (distN_wd g _).nl).app (by decide)).app (whoT_wd g _).nl).app (by decide)).app (Wd.itoa (by omega)).nl).app (by decide)).app (Wd.itoa (by omega)).nl).app (by decide)
theorem Ln.tiesT {c : Course} (g : Good c) : Ln (tiesT c) := by
 refine Ln.lit ?_ rfl
 exact ((show Nl _ by decide).app (Nl.sep fun p hp => by
  obtain ⟨y, hy, rfl⟩ := List.mem_map.1 hp
  exact Nl.step y (g.steps y hy))).app (by decide)
theorem Ln.faultsT {c : Course} (g : Good c) : Ln (faultsT c.faults) := by
 have k := faultsOk g
 refine Ln.lit ?_ rfl
 exact ((((((((((show Nl _ by decide).app (Wd.itoa k.misses).nl).app (by decide)).app (Wd.itoa k.strays).nl).app (by decide)).app (Nl.time k.window)).app (by decide)).app (Nl.time k.residual)).app (by decide)).app (Wd.itoa k.drift).nl).app (by decide)
theorem Ln.feeT {c : Course} (g : Good c) : Ln (feeT c) := by
 have k := faultsOk g
 refine Ln.lit ?_ rfl
 exact ((((show Nl _ by decide).app (Wd.itoa k.fee).nl).app (by decide)).app (Nl.time k.deadline)).app (by decide)
theorem lines_ln {c : Course} (g : Good c) : ∀ s ∈ linesT c, Ln s := by
 intro s hs
 simp only [linesT, List.mem_append, List.mem_map, List.mem_cons, List.not_mem_nil, or_false] at hs
 rcases hs with ((((((rfl | ⟨x, hx, rfl⟩) | ⟨x, hx, rfl⟩) | ⟨x, hx, rfl⟩) | ⟨x, hx, rfl⟩) | ⟨x, hx, rfl⟩) | ⟨x, hx, rfl⟩) | (rfl | rfl | rfl)
 · exact .matsT g
 · exact .legT g hx
 · exact .distT g hx
 · exact .waveT g hx
 · exact .offT g hx
 · exact .catT g hx
 · exact .prizeT g hx
 · exact .tiesT g
 · exact .faultsT g
 · exact .feeT g
end Go.Proofs.YteckbkljaneppaaGreatDoor.Dx
/- Different courses have different texts (plain law). -/
namespace Go.Proofs.YteckbkljaneppaaGreatDoor.Dx
open Go Go.RowKit Go.Proofs
set_option maxRecDepth 100000
set_option maxHeartbeats 4000000
theorem map_tell {α β : Type} (f g : α → β) : ∀ {l l' : List α}, (∀ x ∈ l, ∀ y ∈ l', f x = g y → x = y) → l.map f = l'.map g → l = l'
 | [], [], _, _ => rfl
 | [], _ :: _, _, h => by cases h
 | _ :: _, [], _, h => by cases h
 | x :: l, y :: l', hf, h => by
   simp only [List.map_cons, List.cons.injEq] at h
   rw [hf x (by simp) y (by simp) h.1, map_tell f g (fun a ha b hb => hf a (List.mem_cons_of_mem _ ha) b (List.mem_cons_of_mem _ hb)) h.2]
/-- lines that begin with a letter -/
def pick (k : UInt8) (l : List (List UInt8)) : List (List UInt8) := l.filter fun s => s.head? == some k
theorem pick_app (k : UInt8) (l m : List (List UInt8)) : pick k (l ++ m) = pick k l ++ pick k m := by simp [pick]
theorem pick_map {α : Type} (k j : UInt8) (f : α → List UInt8) (r : α → List UInt8) (h : ∀ x, f x = j :: r x) (l : List α) : pick k (l.map f) = if j = k then l.map f else [] := by
 induction l with
 | nil => simp [pick]
 | cons x l ih =>
   have e : pick k ((x :: l).map f) = if j = k then f x :: pick k (l.map f) else pick k (l.map f) := by
    rw [List.map_cons, pick, List.filter_cons, h x, List.head?_cons]
    by_cases hj : j = k
    · rw [if_pos hj, if_pos (by simp [hj])]; rfl
    · rw [if_neg hj, if_neg (by simp [hj])]; rfl
   rw [e, ih]
   split <;> simp
theorem lineT_app (x s : List UInt8) : lineT x ++ s = 32 :: 32 :: (x ++ 10 :: s) := by
 simp only [lineT, List.append_assoc, List.cons_append, List.nil_append]
theorem line_tell {x y s t : List UInt8} (hx : Ln x) (hy : Ln y) (h : lineT x ++ s = lineT y ++ t) : x = y ∧ s = t := by
 rw [lineT_app, lineT_app] at h
 simp only [List.cons.injEq, true_and] at h
 obtain ⟨e, h⟩ := cut (fun b => decide (b ≠ 10)) (fun b hb => by simpa using hx.2 b hb) (fun b hb => by simpa using hy.2 b hb) (by simp) (by simp) h
 rw [List.cons.injEq] at h
 exact ⟨e, h.2⟩
theorem mats_tell {a b : Course} (ga : Good a) (gb : Good b) (h : matsT a = matsT b) : a.mats = b.mats := by
 simp only [matsT, List.append_assoc, List.append_cancel_left_eq] at h
 have := flat_tell matT matT a.mats b.mats (fun x hx y hy s t e => by
  have k1 := g_mat (ga.nums.mats x hx)
  have k2 := g_mat (gb.nums.mats y hy)
  have w1 := nmL_wd (f := fun x : Mat => x.name) ga.names.mats hx
  have w2 := nmL_wd (f := fun x : Mat => x.name) gb.names.mats hy
  simp only [matT, List.append_assoc, List.cons_append, List.nil_append, List.cons.injEq, true_and] at e
  obtain ⟨e1, _, e⟩ := (matKT_wd _).cut (matKT_wd _) e
  obtain ⟨e2, _, e⟩ := w1.cut w2 e
  refine ⟨?_, e⟩
  obtain ⟨n, k⟩ := x
  obtain ⟨n', k'⟩ := y
  dsimp only at *
  rw [e2, matKT_inj k1.1 k1.2 k2.1 k2.2 e1]) [32, 125] [32, 125] (fun y _ u e => matK_no e) (fun y _ u e => matK_no e) h
 exact this.1
where
 g_mat {m : Mat} (h : m.good = true) : 1 ≤ m.kind ∧ m.kind ≤ 3 := by
  simpa only [Mat.good, inR, Bool.and_eq_true, decide_eq_true_eq] using h
 matKT_inj {v w : Int} (h0 : 1 ≤ v) (h1 : v ≤ 3) (k0 : 1 ≤ w) (k1 : w ≤ 3) (h : matKT v = matKT w) : v = w := by
  unfold matKT at h
  split at h <;> split at h <;> (try split at h) <;> (try split at h) <;> first | omega | (exact absurd h (by decide))
 matK_no {y : Mat} {u : List UInt8} (e : [32, 125] = matT y ++ u) : False := by
  simp only [matT, List.append_assoc, List.cons_append, List.nil_append, List.cons.injEq, true_and, matKT] at e
  split at e
  · simp at e
  · split at e <;> simp at e
theorem timing_inj {v w : Int} (h0 : 1 ≤ v) (h1 : v ≤ 3) (k0 : 1 ≤ w) (k1 : w ≤ 3) (h : timingT v = timingT w) : v = w := by
 unfold timingT at h
 split at h <;> split at h <;> (try split at h) <;> (try split at h) <;> first | omega | (exact absurd h (by decide))
theorem cutT_cons (c : Course) (x : Cutoff) (u : List UInt8) : cutT c x ++ u = 32 :: ([99, 117, 116, 111, 102, 102] ++ 32 :: (matN c.mats x.mat ++ 32 :: 108 :: 97 :: 112 :: 32 :: (Lib.itoa x.lap ++ 32 :: (timeS x.limit ++ 59 :: u)))) := by
 simp only [cutT, List.append_assoc, List.cons_append, List.nil_append]
theorem extraT_cases (c : Course) (y : Int) (u : List UInt8) : (∃ v, extraT c y ++ 32 :: 125 :: u = 32 :: ([101, 120, 116, 114, 97] ++ 32 :: v)) ∨ extraT c y ++ 32 :: 125 :: u = 32 :: 125 :: u := by
 unfold extraT
 split
 · exact .inl ⟨_, by simp only [List.append_assoc, List.cons_append, List.nil_append]; rfl⟩
 · exact .inr rfl
theorem cut_no {b c : Course} {x : Cutoff} {y : Int} {u s : List UInt8} (e : extraT c y ++ 32 :: 125 :: s = cutT b x ++ u) : False := by
 rw [cutT_cons] at e
 rcases extraT_cases c y s with ⟨v, h⟩ | h <;> (rw [h] at e; simp at e)
theorem PE.rest {ms : List Mat} (hn : nmL (ms.map (·.name)) = true) (c : Course) (l : List Cutoff) (y : Int) (u : List UInt8) : PE ms (l.flatMap (cutT c) ++ (extraT c y ++ 32 :: 125 :: u)) := by
 match l with
 | [] =>
   rw [List.flatMap_nil, List.nil_append]
   rcases extraT_cases c y u with ⟨v, h⟩ | h <;> rw [h]
   · exact .word hn (by intro b hb; revert b; decide) (by decide)
   · exact .brace hn
 | x :: l =>
   rw [List.flatMap_cons, List.append_assoc, cutT_cons]
   exact .word hn (by intro b hb; revert b; decide) (by decide)
section
variable {a b : Course} (ga : Good a) (gb : Good b) (hm : a.mats = b.mats)
include ga gb hm
theorem matN_tell {i j : Int} (h : 0 ≤ i ∧ i ≤ a.m) (k : 0 ≤ j ∧ j ≤ b.m) (e : matN a.mats i = matN b.mats j) : i = j := by
 rw [← hm] at e
 refine matN_inj ga.names.mats h.1 h.2 k.1 ?_ e
 rw [hm]; exact k.2
theorem leg_tell {x y : Leg} (hx : x ∈ a.legs) (hy : y ∈ b.legs) (e : legT a x = legT b y) : x = y := by
 have k := legOk (ga.nums.legs x hx)
 have k' := legOk (gb.nums.legs y hy)
 simp only [legT, List.append_assoc, List.cons_append, List.nil_append, List.cons.injEq, true_and] at e
 obtain ⟨e1, _, e⟩ := (matN_wd ga.names.mats _).cut (matN_wd gb.names.mats _) e
 simp only [List.cons.injEq, true_and] at e
 obtain ⟨e2, _, e⟩ := (matN_wd ga.names.mats _).cut (matN_wd gb.names.mats _) e
 obtain ⟨e3, _, e⟩ := (Wd.timeS k.lo.1 k.lo.2).cut (Wd.timeS k'.lo.1 k'.lo.2) e
 simp only [List.cons.injEq, true_and] at e
 obtain ⟨e4, _, e⟩ := (Wd.timeS k.hi.1 k.hi.2).cut (Wd.timeS k'.hi.1 k'.hi.2) e
 have h1 := matN_tell ga gb hm k.src k'.src e1
 have h2 := matN_tell ga gb hm k.dst k'.dst e2
 have h3 := timeS_inj k.lo.1 k.lo.2 k'.lo.1 k'.lo.2 e3
 have h4 := timeS_inj k.hi.1 k.hi.2 k'.hi.1 k'.hi.2 e4
 obtain ⟨_, _, _, _⟩ := x
 obtain ⟨_, _, _, _⟩ := y
 dsimp only at h1 h2 h3 h4
 rw [h1, h2, h3, h4]
theorem cut_tell {x y : Cutoff} (k : CutOk a.m x) (k' : CutOk b.m y) {s t : List UInt8} (e : cutT a x ++ s = cutT b y ++ t) : x = y ∧ s = t := by
 simp only [cutT, List.append_assoc, List.cons_append, List.nil_append, List.cons.injEq, true_and] at e
 obtain ⟨e1, _, e⟩ := (matN_wd ga.names.mats _).cut (matN_wd gb.names.mats _) e
 simp only [List.cons.injEq, true_and] at e
 obtain ⟨e2, e⟩ := itoa_cut (by have := k.lap; omega) (by have := k'.lap; omega) e
 simp only [List.cons.injEq, true_and] at e
 obtain ⟨e3, _, e⟩ := (Wd.timeS k.limit.1 k.limit.2).cut (Wd.timeS k'.limit.1 k'.limit.2) e
 have h1 := matN_tell ga gb hm k.mat k'.mat e1
 have h3 := timeS_inj k.limit.1 k.limit.2 k'.limit.1 k'.limit.2 e3
 exact ⟨Cutoff.c_iff.1 (by rw [h1, e2, h3]), e⟩
theorem extra_tell {x y : Int} (k : -1 ≤ x ∧ x ≤ a.m) (k' : -1 ≤ y ∧ y ≤ b.m) (e : extraT a x ++ [32, 125] = extraT b y ++ [32, 125]) : x = y := by
 unfold extraT at e
 split at e <;> split at e <;> simp only [List.append_assoc, List.cons_append, List.nil_append, List.cons.injEq, true_and] at e
 · obtain ⟨e1, _, e⟩ := (matN_wd ga.names.mats _).cut (matN_wd gb.names.mats _) e
   exact matN_tell ga gb hm ⟨by omega, k.2⟩ ⟨by omega, k'.2⟩ e1
 · exact absurd e.1 (by decide)
 · exact absurd e.1 (by decide)
 · omega
theorem dist_tell {x y : Distance} (hx : x ∈ a.distances) (hy : y ∈ b.distances) (e : distT a x = distT b y) : x = y := by
 have k := distOk (ga.nums.distances x hx)
 have k' := distOk (gb.nums.distances y hy)
 have w1 := nmL_wd (f := fun x : Distance => x.name) ga.names.distances hx
 have w2 := nmL_wd (f := fun x : Distance => x.name) gb.names.distances hy
 simp only [distT, List.append_assoc, List.cons_append, List.nil_append, List.cons.injEq, true_and] at e
 obtain ⟨e1, _, e⟩ := w1.cut w2 e
 obtain ⟨e2, _, e⟩ := (timingT_wd _).cut (timingT_wd _) e
 simp only [List.cons.injEq, true_and] at e
 have k2 := k'.route
 have gm : b.m = ((a.mats.map Mat.cells).length : Int) - 1 := by rw [hm]; rfl
 rw [gm] at k2
 rw [← hm] at e
 obtain ⟨e3, e⟩ := route_tell ga.names.mats k.route k2 _ _ (.rest ga.names.mats _ _ _ _) (.rest ga.names.mats _ _ _ _) e
 obtain ⟨e4, e⟩ := flat_tell (cutT a) (cutT b) x.cutoffs y.cutoffs (fun u hu v hv s t e => cut_tell ga gb hm (k.cutoffs u hu) (k'.cutoffs v hv) e) _ _ (fun v _ u e => cut_no e) (fun v _ u e => cut_no e) e
 have e5 := extra_tell ga gb hm k.extra k'.extra e
 have e2 := timing_inj k.timing.1 k.timing.2 k'.timing.1 k'.timing.2 e2
 exact Distance.e_iff.2 ⟨e1, e2, e5, e4, e3⟩
end
theorem wave_tell {a b : Course} (ga : Good a) (gb : Good b) {x y : Wave} (hx : x ∈ a.waves) (hy : y ∈ b.waves) (e : waveT x = waveT y) : x = y := by
 have k := ga.nums.waves x hx
 have k' := gb.nums.waves y hy
 simp only [Wave.good, inR, Bool.and_eq_true, decide_eq_true_eq] at k k'
 have w1 := nmL_wd (f := fun x : Wave => x.name) ga.names.waves hx
 have w2 := nmL_wd (f := fun x : Wave => x.name) gb.names.waves hy
 simp only [waveT, List.append_assoc, List.cons_append, List.nil_append, List.cons.injEq, true_and] at e
 obtain ⟨e1, _, e⟩ := w1.cut w2 e
 obtain ⟨e2, _, e⟩ := (Wd.timeS k.1 k.2).cut (Wd.timeS k'.1 k'.2) e
 have e2 := timeS_inj k.1 k.2 k'.1 k'.2 e2
 obtain ⟨_, _⟩ := x
 obtain ⟨_, _⟩ := y
 dsimp only at e1 e2
 rw [e1, e2]
theorem pen_tell {x y : Offence} (hx : x.good = true) (hy : y.good = true) (e : penT x ++ [59] = penT y ++ [59]) : x.time = y.time ∧ x.laps = y.laps ∧ x.out = y.out := by
 have time_dch : ∀ t : Int, 0 ≤ t → t ≤ 1099511627776 → ∃ b r, timeS t = b :: r ∧ dch b = true := by
  intro t h0 h1
  have hi : ∀ n : Int, 0 ≤ n → ∃ b r, Lib.itoa n = b :: r ∧ dch b = true := by
   intro n hn
   have hp := itoa_pos n
   have hd := itoa_dch hn
   match hl : Lib.itoa n, hp, hd with
   | b :: r, _, hd => exact ⟨b, r, rfl, hd b (by simp)⟩
  rw [timeS_abs h0 h1, absT, clockT]
  split
  · obtain ⟨b, r, e, h⟩ := hi (t / 1000000 / 3600) (by omega)
    rw [e]; exact ⟨b, _, rfl, h⟩
  · obtain ⟨b, r, e, h⟩ := hi (t / 1000000 / 60) (by omega)
    rw [e]; exact ⟨b, _, rfl, h⟩
 have eo : ∀ {z : Offence}, z.out = true → penT z = [111, 117, 116] := fun h => by rw [penT, if_pos h]
 have el : ∀ {z : Offence}, z.out = false → 1 ≤ z.laps → penT z = 108 :: 97 :: 112 :: 115 :: 32 :: Lib.itoa z.laps := fun h h2 => by rw [penT, if_neg (by rw [h]; simp), if_pos (by omega)]; rfl
 rcases offOk hx with ⟨x1, x2, x3⟩ | ⟨x1, x2, x3⟩ | ⟨x1, x2, x3⟩ <;> rcases offOk hy with ⟨y1, y2, y3⟩ | ⟨y1, y2, y3⟩ | ⟨y1, y2, y3⟩
 · exact ⟨by omega, by omega, by rw [x1, y1]⟩
 · obtain ⟨b, r, q, hd⟩ := time_dch _ y3.1 y3.2
   rw [eo x1, penT_wd y1 y2 y3.1 y3.2, q] at e
   simp only [List.cons_append, List.cons.injEq] at e
   rw [← e.1] at hd; exact absurd hd (by decide)
 · rw [eo x1, el y1 y3] at e
   simp at e
 · obtain ⟨b, r, q, hd⟩ := time_dch _ x3.1 x3.2
   rw [eo y1, penT_wd x1 x2 x3.1 x3.2, q] at e
   simp only [List.cons_append, List.cons.injEq] at e
   rw [e.1] at hd; exact absurd hd (by decide)
 · rw [penT_wd x1 x2 x3.1 x3.2, penT_wd y1 y2 y3.1 y3.2, List.append_cancel_right_eq] at e
   exact ⟨timeS_inj x3.1 x3.2 y3.1 y3.2 e, by omega, by rw [x1, y1]⟩
 · obtain ⟨b, r, q, hd⟩ := time_dch _ x3.1 x3.2
   rw [el y1 y3, penT_wd x1 x2 x3.1 x3.2, q] at e
   simp only [List.cons_append, List.cons.injEq] at e
   rw [e.1] at hd; exact absurd hd (by decide)
 · rw [eo y1, el x1 x3] at e
   simp at e
 · obtain ⟨b, r, q, hd⟩ := time_dch _ y3.1 y3.2
   rw [el x1 x3, penT_wd y1 y2 y3.1 y3.2, q] at e
   simp only [List.cons_append, List.cons.injEq] at e
   rw [← e.1] at hd; exact absurd hd (by decide)
 · rw [el x1 x3, el y1 y3, List.append_cancel_right_eq] at e
   simp only [List.cons.injEq, true_and] at e
   exact ⟨by omega, itoa_inj (by omega) (by omega) e, by rw [x1, y1]⟩
theorem off_tell {a b : Course} (ga : Good a) (gb : Good b) {x y : Offence} (hx : x ∈ a.offences) (hy : y ∈ b.offences) (e : offT x = offT y) : x = y := by
 have w1 := nmL_wd (f := fun x : Offence => x.name) ga.names.offences hx
 have w2 := nmL_wd (f := fun x : Offence => x.name) gb.names.offences hy
 simp only [offT, List.append_assoc, List.cons_append, List.nil_append, List.cons.injEq, true_and] at e
 obtain ⟨e1, _, e⟩ := w1.cut w2 e
 obtain ⟨e2, e3, e4⟩ := pen_tell (ga.nums.offences x hx) (gb.nums.offences y hy) e
 obtain ⟨_, _, _, _⟩ := x
 obtain ⟨_, _, _, _⟩ := y
 dsimp only at e1 e2 e3 e4
 rw [e1, e2, e3, e4]
theorem cat_tell {a b : Course} (ga : Good a) (gb : Good b) {x y : Category} (hx : x ∈ a.categories) (hy : y ∈ b.categories) (e : catT x = catT y) : x = y := by
 have k := catOk (ga.nums.categories x hx)
 have k' := catOk (gb.nums.categories y hy)
 have w1 := nmL_wd (f := fun x : Category => x.name) ga.names.categories hx
 have w2 := nmL_wd (f := fun x : Category => x.name) gb.names.categories hy
 simp only [catT, List.append_assoc, List.cons_append, List.nil_append, List.cons.injEq, true_and] at e
 obtain ⟨e1, _, e⟩ := w1.cut w2 e
 obtain ⟨e2, e⟩ := itoa_cut k.1 k'.1 e
 simp only [List.cons.injEq, true_and] at e
 obtain ⟨e3, e⟩ := itoa_cut k.2 k'.2 e
 obtain ⟨_, _, _⟩ := x
 obtain ⟨_, _, _⟩ := y
 dsimp only at e1 e2 e3
 rw [e1, e2, e3]
theorem who_tell {a b : Course} (ga : Good a) (hc : a.categories = b.categories) {i j : Int} (hi : -1 ≤ i ∧ i ≤ (a.categories.length : Int) - 1) (hj : -1 ≤ j ∧ j ≤ (b.categories.length : Int) - 1) (e : whoT a i = whoT b j) : i = j := by
 have all : ∀ x ∈ a.categories, x.name ≠ [97, 108, 108] := by
  intro x hx h
  have hn := ga.names.categories
  simp only [nmL, Bool.and_eq_true, List.all_eq_true] at hn
  have := hn.1 x.name (List.mem_map.2 ⟨x, hx, rfl⟩)
  rw [h] at this
  exact absurd this (by decide)
 have P : ∀ (c : Course) (k : Int) (x : Category), c.categories[k.toNat]? = some x → 0 ≤ k → whoT c k = x.name := by
  intro c k x hx hk
  rw [whoT, if_pos hk, hx]
 have N : ∀ (c : Course) (k : Int), ¬ 0 ≤ k → whoT c k = [97, 108, 108] := by
  intro c k hk
  rw [whoT, if_neg hk]
 by_cases h1 : 0 ≤ i <;> by_cases h2 : 0 ≤ j
 · have x1 : a.categories[i.toNat]? = some a.categories[i.toNat] := List.getElem?_eq_getElem (by omega)
   obtain ⟨y, x2⟩ : ∃ y, b.categories[j.toNat]? = some y := ⟨_, List.getElem?_eq_getElem (by omega)⟩
   rw [P a i _ x1 h1, P b j _ x2 h2] at e
   rw [← hc] at x2
   exact names_inj (f := fun x : Category => x.name) ga.names.categories h1 h2 x1 x2 e
 · have x1 : a.categories[i.toNat]? = some a.categories[i.toNat] := List.getElem?_eq_getElem (by omega)
   rw [P a i _ x1 h1, N b j h2] at e
   exact absurd e (all _ (List.getElem_mem _))
 · obtain ⟨y, x2⟩ : ∃ y, b.categories[j.toNat]? = some y := ⟨_, List.getElem?_eq_getElem (by omega)⟩
   rw [P b j _ x2 h2, N a i h1] at e
   rw [← hc] at x2
   exact absurd e.symm (all _ (List.mem_of_getElem? x2))
 · omega
theorem distN_tell {a b : Course} (ga : Good a) (hd : a.distances = b.distances) {i j : Int} (hi : 0 ≤ i ∧ i ≤ (a.distances.length : Int) - 1) (hj : 0 ≤ j ∧ j ≤ (b.distances.length : Int) - 1) (e : distN a i = distN b j) : i = j := by
 have P : ∀ (c : Course) (k : Int) (x : Distance), c.distances[k.toNat]? = some x → distN c k = x.name := by
  intro c k x hx
  rw [distN, hx]
 have x1 : a.distances[i.toNat]? = some a.distances[i.toNat] := List.getElem?_eq_getElem (by omega)
 obtain ⟨y, x2⟩ : ∃ y, b.distances[j.toNat]? = some y := ⟨_, List.getElem?_eq_getElem (by omega)⟩
 rw [P a i _ x1, P b j _ x2] at e
 rw [← hd] at x2
 exact names_inj (f := fun x : Distance => x.name) ga.names.distances hi.1 hj.1 x1 x2 e
theorem prize_tell {a b : Course} (ga : Good a) (gb : Good b) (hd : a.distances = b.distances) (hc : a.categories = b.categories) {x y : Prize} (hx : x ∈ a.prizes) (hy : y ∈ b.prizes) (e : prizeT a x = prizeT b y) : x = y := by
 have k := prizeOk ga hx
 have k' := prizeOk gb hy
 simp only [prizeT, List.append_assoc, List.cons_append, List.nil_append, List.cons.injEq, true_and] at e
 obtain ⟨e1, _, e⟩ := (distN_wd ga _).cut (distN_wd gb _) e
 obtain ⟨e2, _, e⟩ := (whoT_wd ga _).cut (whoT_wd gb _) e
 obtain ⟨e3, e⟩ := itoa_cut (by omega) (by omega) e
 simp only [List.cons.injEq, true_and] at e
 obtain ⟨e4, e⟩ := itoa_cut (by omega) (by omega) e
 have e1 := distN_tell ga hd k.1 k'.1 e1
 have e2 := who_tell ga hc k.2.1 k'.2.1 e2
 obtain ⟨_, _, _, _⟩ := x
 obtain ⟨_, _, _, _⟩ := y
 dsimp only at e1 e2 e3 e4
 rw [e1, e2, e3, e4]
theorem faults_tell {a b : Course} (ga : Good a) (gb : Good b) (e : faultsT a.faults = faultsT b.faults) : a.faults = b.faults := by
 have k := faultsOk ga
 have k' := faultsOk gb
 simp only [faultsT, List.append_assoc, List.cons_append, List.nil_append, List.cons.injEq, true_and] at e
 obtain ⟨e1, e⟩ := itoa_cut k.misses k'.misses e
 simp only [List.cons.injEq, true_and] at e
 obtain ⟨e2, e⟩ := itoa_cut k.strays k'.strays e
 simp only [List.cons.injEq, true_and] at e
 obtain ⟨e3, _, e⟩ := (Wd.timeS k.window.1 k.window.2).cut (Wd.timeS k'.window.1 k'.window.2) e
 simp only [List.cons.injEq, true_and] at e
 obtain ⟨e4, _, e⟩ := (Wd.timeS k.residual.1 k.residual.2).cut (Wd.timeS k'.residual.1 k'.residual.2) e
 simp only [List.cons.injEq, true_and] at e
 obtain ⟨e5, e⟩ := itoa_cut k.drift k'.drift e
 have e3 := timeS_inj k.window.1 k.window.2 k'.window.1 k'.window.2 e3
 have e4 := timeS_inj k.residual.1 k.residual.2 k'.residual.1 k'.residual.2 e4
 exact Faults.e_iff.2 (by rw [e1, e2, e3, e4, e5])
theorem fee_tell {a b : Course} (ga : Good a) (gb : Good b) (e : feeT a = feeT b) : a.fee = b.fee ∧ a.deadline = b.deadline := by
 have k := faultsOk ga
 have k' := faultsOk gb
 simp only [feeT, List.append_assoc, List.cons_append, List.nil_append, List.cons.injEq, true_and] at e
 obtain ⟨e1, e⟩ := itoa_cut k.fee k'.fee e
 simp only [List.cons.injEq, true_and] at e
 obtain ⟨e2, _, e⟩ := (Wd.timeS k.deadline.1 k.deadline.2).cut (Wd.timeS k'.deadline.1 k'.deadline.2) e
 exact ⟨e1, timeS_inj k.deadline.1 k.deadline.2 k'.deadline.1 k'.deadline.2 e2⟩
theorem pick_lines (c : Course) (k : UInt8) : pick k (linesT c) = (if (109 : UInt8) = k then [matsT c] else []) ++ (if (108 : UInt8) = k then c.legs.map (legT c) else []) ++ (if (100 : UInt8) = k then c.distances.map (distT c) else []) ++
 (if (119 : UInt8) = k then c.waves.map waveT else []) ++ (if (111 : UInt8) = k then c.offences.map offT else []) ++ (if (99 : UInt8) = k then c.categories.map catT else []) ++ (if (112 : UInt8) = k then c.prizes.map (prizeT c) else []) ++
 ((if (116 : UInt8) = k then [tiesT c] else []) ++ (if (102 : UInt8) = k then [faultsT c.faults] else []) ++ (if (112 : UInt8) = k then [feeT c] else [])) := by
 have one : ∀ (s r : List UInt8) (j : UInt8), s = j :: r → pick k [s] = if j = k then [s] else [] := fun s r j h => pick_map k j (fun _ : Unit => s) (fun _ => r) (fun _ => h) [()]
 have three : pick k [tiesT c, faultsT c.faults, feeT c] = pick k [tiesT c] ++ pick k [faultsT c.faults] ++ pick k [feeT c] := by rw [← pick_app, ← pick_app]; rfl
 rw [linesT, pick_app, pick_app, pick_app, pick_app, pick_app, pick_app, pick_app, three, one (matsT c) _ 109 rfl, one (tiesT c) _ 116 rfl, one (faultsT c.faults) _ 102 rfl, one (feeT c) _ 112 rfl,
  pick_map k 108 (legT c) _ (fun x => rfl), pick_map k 100 (distT c) _ (fun x => rfl), pick_map k 119 waveT _ (fun x => rfl), pick_map k 111 offT _ (fun x => rfl), pick_map k 99 catT _ (fun x => rfl), pick_map k 112 (prizeT c) _ (fun x => rfl)]
/-- DIFFERENT COURSES HAVE DIFFERENT TEXTS, apart from cores. -/
theorem course_tell {a b : Course} (ga : Good a) (gb : Good b) (h : courseT a = courseT b) : a.cores = b.cores := by
 simp only [courseT, List.append_assoc, List.cons_append, List.nil_append, List.cons.injEq, true_and] at h
 obtain ⟨e1, _, h⟩ := (Wd.name ga.names.name).cut (Wd.name gb.names.name) h
 simp only [List.cons.injEq, true_and] at h
 obtain ⟨e2, _⟩ := flat_tell lineT lineT (linesT a) (linesT b) (fun x hx y hy s t e => line_tell (lines_ln ga x hx) (lines_ln gb y hy) e) _ _
  (fun y _ u e => by rw [lineT_app] at e; simp at e) (fun y _ u e => by rw [lineT_app] at e; simp at e) h
 have P : ∀ k, pick k (linesT a) = pick k (linesT b) := fun k => by rw [e2]
 have hm := P 109
 have hl := P 108
 have hd := P 100
 have hw := P 119
 have ho := P 111
 have hc := P 99
 have hp := P 112
 have ht := P 116
 have hf := P 102
 rw [pick_lines, pick_lines] at hm hl hd hw ho hc hp ht hf
 simp (decide := true) only [if_true, if_false, List.nil_append, List.append_nil] at hm hl hd hw ho hc hp ht hf
 simp only [List.cons.injEq, and_true] at hm ht hf
 have hm := mats_tell ga gb hm
 have hl := map_tell _ _ (fun x hx y hy => leg_tell ga gb hm hx hy) hl
 have hd := map_tell _ _ (fun x hx y hy => dist_tell ga gb hm hx hy) hd
 have hw := map_tell _ _ (fun x hx y hy => wave_tell ga gb hx hy) hw
 have ho := map_tell _ _ (fun x hx y hy => off_tell ga gb hx hy) ho
 have hc := map_tell _ _ (fun x hx y hy => cat_tell ga gb hx hy) hc
 obtain ⟨hp, h3⟩ := List.append_inj' hp rfl
 simp only [List.cons.injEq, and_true] at h3
 have hp := map_tell _ _ (fun x hx y hy => prize_tell ga gb hd hc hx hy) hp
 have hf := faults_tell ga gb hf
 have h3 := fee_tell ga gb h3
 simp only [tiesT, List.append_assoc, List.append_cancel_left_eq] at ht
 have ht := (ties_tell ga.steps gb.steps [] [] ht).1
 exact Course.e_iff.2 ⟨e1, hf, h3.1, h3.2, hm, hl, hd, hw, ho, hc, hp, ht⟩
theorem course_tells {a b : Course} (ga : Good a) (gb : Good b) : courseT a = courseT b ↔ a.cores = b.cores := by
 refine ⟨course_tell ga gb, fun h => ?_⟩
 rw [← courseT_cores a, ← courseT_cores b, h]
end Go.Proofs.YteckbkljaneppaaGreatDoor.Dx
/- The lines of a text (plain law). -/
namespace Go.Proofs.YteckbkljaneppaaGreatDoor.Dx
open Go Go.RowKit Go.Proofs
set_option maxRecDepth 100000
set_option maxHeartbeats 4000000
/-- all lines of a text -/
def fullT (c : Course) : List (List UInt8) := ([99, 111, 117, 114, 115, 101, 32] ++ c.name ++ [32, 123]) :: ((linesT c).map ([32, 32] ++ ·) ++ [[125]])
def lf (s : List UInt8) : List UInt8 := s ++ [10]
def offT2 (ls : List (List UInt8)) (n : Nat) : Nat := ((ls.take n).flatMap lf).length
theorem full_text (c : Course) : (fullT c).flatMap lf = courseT c := by
 have h : ∀ l : List (List UInt8), (l.map ([32, 32] ++ ·)).flatMap lf = l.flatMap lineT := by
  intro l
  rw [List.flatMap_map]
  rfl
 rw [fullT, List.flatMap_cons, List.flatMap_append, h, courseT]
 simp [lf]
theorem full_len (c : Course) : (fullT c).length = 6 + c.legs.length + c.distances.length + c.waves.length + c.offences.length + c.categories.length + c.prizes.length := by
 simp only [fullT, linesT, List.length_append, List.length_map, List.length_cons, List.length_nil]
 omega
/-- a line of the text: the first and the last one, or one within -/
theorem full_nl {c : Course} (g : Good c) : ∀ s ∈ fullT c, Nl s := by
 intro s hs
 simp only [fullT, List.mem_cons, List.mem_append, List.mem_map, List.not_mem_nil, or_false] at hs
 rcases hs with rfl | ⟨x, hx, rfl⟩ | rfl
 · exact ((show Nl _ by decide).app (Wd.name g.names.name).nl).app (by decide)
 · exact (show Nl _ by decide).app (lines_ln g x hx).2
 · decide
theorem full_mid {c : Course} (g : Good c) {n : Nat} (h : n < (fullT c).length) (h0 : n ≠ 0) (h1 : n + 1 ≠ (fullT c).length) : ∃ b r, (fullT c)[n] = 32 :: 32 :: b :: r ∧ b ≠ 32 := by
 obtain ⟨m, rfl⟩ : ∃ m, n = m + 1 := ⟨n - 1, by omega⟩
 have hl : (fullT c).length = (linesT c).length + 2 := by simp [fullT]
 have e : (fullT c)[m + 1] = [32, 32] ++ (linesT c)[m]'(by omega) := by
  simp only [fullT, List.getElem_cons_succ]
  rw [List.getElem_append_left (by simp; omega), List.getElem_map]
 obtain ⟨⟨b, r, e2, hw⟩, _⟩ := lines_ln g _ (List.getElem_mem (by omega : m < (linesT c).length))
 refine ⟨b, r, ?_, ?_⟩
 · rw [e, e2]; rfl
 · rintro rfl; exact absurd hw (by decide)
theorem full_end {c : Course} {n : Nat} (h : n < (fullT c).length) (h0 : n = 0 ∨ n + 1 = (fullT c).length) : ∃ b r, (fullT c)[n] = b :: r ∧ b ≠ 32 := by
 have hl : (fullT c).length = (linesT c).length + 2 := by simp [fullT]
 rcases h0 with rfl | h0
 · exact ⟨99, _, rfl, by decide⟩
 · obtain ⟨m, rfl⟩ : ∃ m, n = m + 1 := ⟨n - 1, by omega⟩
   refine ⟨125, [], ?_, by decide⟩
   simp only [fullT, List.getElem_cons_succ]
   rw [List.getElem_append_right (by simp; omega)]
   simp
theorem off_succ (ls : List (List UInt8)) {n : Nat} (h : n < ls.length) : offT2 ls (n + 1) = offT2 ls n + ls[n].length + 1 := by
 rw [offT2, offT2, List.take_succ_eq_append_getElem h, List.flatMap_append, List.length_append]
 simp only [List.flatMap_cons, List.flatMap_nil, lf, List.length_append, List.length_cons, List.length_nil]
 omega
theorem off_all (ls : List (List UInt8)) {n : Nat} (h : ls.length ≤ n) : offT2 ls n = (ls.flatMap lf).length := by
 rw [offT2, List.take_of_length_le h]
theorem off_split (ls : List (List UInt8)) {n : Nat} (h : n < ls.length) : ls.flatMap lf = (ls.take n).flatMap lf ++ (ls[n] ++ ([10] ++ (ls.drop (n + 1)).flatMap lf)) := by
 conv => lhs; rw [← List.take_append_drop n ls, List.drop_eq_getElem_cons h]
 rw [List.flatMap_append, List.flatMap_cons, lf, List.append_assoc]
theorem off_le (ls : List (List UInt8)) {n : Nat} (h : n < ls.length) : offT2 ls n + ls[n].length < (ls.flatMap lf).length := by
 have := congrArg List.length (off_split ls h)
 simp only [List.length_append, List.length_cons, List.length_nil] at this
 rw [offT2]; omega
theorem line_in (ls : List (List UInt8)) {n i : Nat} (h : n < ls.length) (h1 : offT2 ls n ≤ i) (h2 : i < offT2 ls n + ls[n].length) (hi : i < (ls.flatMap lf).length) : (ls.flatMap lf)[i] = ls[n][i - offT2 ls n] := by
 have e : (ls.flatMap lf)[i]? = some ls[n][i - offT2 ls n] := by
  rw [off_split ls h, List.getElem?_append_right h1, List.getElem?_append_left (by rw [offT2] at h2 h1; omega)]
  have ho : offT2 ls n = (List.flatMap lf (List.take n ls)).length := rfl
  exact List.getElem?_eq_getElem (by omega)
 rw [List.getElem?_eq_getElem hi] at e
 exact Option.some.inj e
theorem line_lf (ls : List (List UInt8)) {n : Nat} (h : n < ls.length) (hi : offT2 ls n + ls[n].length < (ls.flatMap lf).length) : (ls.flatMap lf)[offT2 ls n + ls[n].length] = 10 := by
 have e : (ls.flatMap lf)[offT2 ls n + ls[n].length]? = some 10 := by
  rw [off_split ls h, List.getElem?_append_right (by rw [offT2]; omega), List.getElem?_append_right (by rw [offT2]; omega)]
  rw [show offT2 ls n + ls[n].length - (List.flatMap lf (List.take n ls)).length - ls[n].length = 0 by rw [offT2]; omega]
  rfl
 rw [List.getElem?_eq_getElem hi] at e
 exact Option.some.inj e
theorem line_cut (ls : List (List UInt8)) {n : Nat} (h : n < ls.length) : ((ls.flatMap lf).take (offT2 ls n + ls[n].length)).drop (offT2 ls n) = ls[n] := by
 rw [off_split ls h, ← List.append_assoc, List.take_left' (by rw [List.length_append, offT2]), List.drop_left' (by rw [offT2])]
end Go.Proofs.YteckbkljaneppaaGreatDoor.Dx
