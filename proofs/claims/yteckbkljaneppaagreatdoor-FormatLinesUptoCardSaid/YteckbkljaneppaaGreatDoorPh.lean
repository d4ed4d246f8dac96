/- All lines, the text of a course, in the reference. -/
import Derived.Test.YteckbkljaneppaaGreatDoorPg
set_option linter.all false
namespace Go.Proofs.YteckbkljaneppaaGreatDoor.Dx
open Go Go.RowKit Go.Proofs
set_option maxRecDepth 100000
set_option maxHeartbeats 16000000
/-- what the lines of a valid course are made of -/
structure LgOk (c : Course) (x : Leg) : Prop where
 src : 0 ≤ x.src ∧ x.src ≤ c.m
 dst : 0 ≤ x.dst ∧ x.dst ≤ c.m
theorem lgok {c : Course} (hg : Good c) {x : Leg} (hx : x ∈ c.legs) : LgOk c x := by
 have h := hg.nums.legs x hx
 simp only [Leg.good, Bool.and_eq_true, inR, decide_eq_true_eq] at h
 exact ⟨h.1.1, h.1.2⟩
theorem ctok {c : Course} (hg : Good c) {x : Category} (hx : x ∈ c.categories) : (0 ≤ x.lo ∧ x.lo ≤ 120) ∧ 0 ≤ x.hi ∧ x.hi ≤ 120 := by
 have h := hg.nums.categories x hx
 simp only [Category.good, Bool.and_eq_true, inR, decide_eq_true_eq] at h
 exact h.1
structure FOk (c : Course) : Prop where
 misses : 0 ≤ c.faults.misses ∧ c.faults.misses ≤ 16
 strays : 0 ≤ c.faults.strays ∧ c.faults.strays ≤ 16
 window : 0 ≤ c.faults.window ∧ c.faults.window ≤ 4294967296
 residual : 0 ≤ c.faults.residual ∧ c.faults.residual ≤ 4294967296
 drift : 0 ≤ c.faults.drift ∧ c.faults.drift ≤ 100000
 fee : 0 ≤ c.fee ∧ c.fee ≤ 1125899906842624
 deadline : 0 ≤ c.deadline ∧ c.deadline ≤ 1099511627776
theorem fok {c : Course} (hg : Good c) : FOk c := by
 have h := hg.nums.rest
 simp only [Course.numsB, Bool.and_eq_true, inR, decide_eq_true_eq] at h
 exact ⟨h.1.1, h.1.2, h.2.1.1, h.2.1.2, h.2.2.1, h.2.2.2.1, h.2.2.2.2⟩
end Go.Proofs.YteckbkljaneppaaGreatDoor.Dx
/- The text of a course, in the reference. -/
namespace Go.Proofs.YteckbkljaneppaaGreatDoor.Dx
open Go Go.RowKit Go.Proofs
set_option maxRecDepth 100000
set_option maxHeartbeats 16000000
theorem cutT_le {c : Course} (hg : Good c) {d : Distance} (hd : DOk c d) : ∀ x ∈ d.cutoffs, (cutT c x).length ≤ 300 := fun x hx => by
 have h := hd.cutoffs x hx
 have f1 := matN_le hg.mats x.mat
 have f2 := itoa_le x.lap (by omega) (by omega)
 have f3 := timeS_le x.limit
 simp only [cutT, List.length_append, List.length_cons, List.length_nil]; omega
theorem line_le {c : Course} (hg : Good c) : ∀ s ∈ linesT c, s.length ≤ 40000 := by
 intro s hs
 have hl := lens hg.fits
 simp only [linesT, List.mem_append, List.mem_cons, List.mem_map, List.not_mem_nil, or_false] at hs
 rcases hs with ((((((rfl | ⟨x, hx, rfl⟩) | ⟨x, hx, rfl⟩) | ⟨x, hx, rfl⟩) | ⟨x, hx, rfl⟩) | ⟨x, hx, rfl⟩) | ⟨x, hx, rfl⟩) | rfl | rfl | rfl
 · have := flat_le matT 40 c.mats fun m hm => matT_le (hg.mats m hm)
   simp only [matsT, List.length_append, List.length_cons, List.length_nil]; omega
 · have f1 := matN_le hg.mats x.src
   have f2 := matN_le hg.mats x.dst
   have f3 := timeS_le x.lo
   have f4 := timeS_le x.hi
   simp only [legT, List.length_append, List.length_cons, List.length_nil]; omega
 · have hd := dok hg hx
   have hT := flat_le (cutT c) 300 x.cutoffs (cutT_le hg hd)
   have hP := partsT_le hg.mats hd.route
   have h1 := hd.name
   have h2 := hd.ncut
   have h3 := hd.cnt
   have h4 := timingT_le x.timing
   have h5 := matN_le hg.mats x.extra
   have h6 : (extraT c x.extra).length ≤ 40 := by unfold extraT; split <;> simp only [List.length_append, List.length_cons, List.length_nil] <;> omega
   simp only [distT, List.length_append, List.length_cons, List.length_nil]; omega
 · have f1 := hg.waves _ hx
   have f2 := timeS_le x.gun
   simp only [waveT, List.length_append, List.length_cons, List.length_nil]; omega
 · have f1 := hg.offences _ hx
   have f2 := timeS_le x.time
   have h := (off_iff x).1 (hg.nums.offences _ hx)
   have hl : 0 ≤ x.laps ∧ x.laps ≤ 64 := by
    rcases h with ⟨_, h, _⟩ | ⟨_, h, _⟩ | ⟨_, h, _⟩
    · omega
    · simp only [inR, Bool.and_eq_true, decide_eq_true_eq] at h; omega
    · omega
   have f3 := itoa_le x.laps (by omega) (by omega)
   have h6 : (penT x).length ≤ 100 := by unfold penT; (repeat' split) <;> (try simp only [List.length_append, List.length_cons, List.length_nil]) <;> omega
   simp only [offT, List.length_append, List.length_cons, List.length_nil]; omega
 · have hc := ctok hg hx
   have f1 := hg.categories _ hx
   have f2 := itoa_le x.lo (by omega) (by omega)
   have f3 := itoa_le x.hi (by omega) (by omega)
   simp only [catT, List.length_append, List.length_cons, List.length_nil]; omega
 · have hp := pzok hg hx
   have h1 := hp.rank
   have h2 := hp.amount
   have f1 := itoa_le x.rank (by omega) (by omega)
   have f2 := itoa_le x.amount (by omega) (by omega)
   have f3 := distN_le hg x.distance
   have f4 := whoT_le hg x.category
   simp only [prizeT, List.length_append, List.length_cons, List.length_nil]; omega
 · have hT := stepsT_le hg.steps
   have hnst := hg.nst
   have hncd := hg.ncd
   simp only [tiesT, List.length_append, List.length_cons, List.length_nil]; omega
 · have hF := fok hg
   have g1 := hF.misses
   have g2 := hF.strays
   have g3 := hF.drift
   have f1 := itoa_le c.faults.misses (by omega) (by omega)
   have f2 := itoa_le c.faults.strays (by omega) (by omega)
   have f3 := itoa_le c.faults.drift (by omega) (by omega)
   have f5 := timeS_le c.faults.window
   have f6 := timeS_le c.faults.residual
   simp only [faultsT, List.length_append, List.length_cons, List.length_nil]; omega
 · have hF := fok hg
   have g4 := hF.fee
   have f4 := itoa_le c.fee (by omega) (by omega)
   have f7 := timeS_le c.deadline
   simp only [feeT, List.length_append, List.length_cons, List.length_nil]; omega
def courseS (c : Course) : List UInt8 := if courseE c = 0 ∧ (courseT c).length ≤ 65536 then courseT c else []
def courseX (c : Course) : Int := if courseE c = 0 then (if (courseT c).length ≤ 65536 then 0 else 2) else courseE c
end Go.Proofs.YteckbkljaneppaaGreatDoor.Dx
