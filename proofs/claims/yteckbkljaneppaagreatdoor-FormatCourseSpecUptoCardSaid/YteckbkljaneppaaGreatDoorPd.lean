/- What format prints, as plain functions. -/
import Derived.Test.YteckbkljaneppaaGreatDoorNb
import Derived.Lib.ItoaLen
import Derived.Lib.TrimByte
import Derived.Lib.Join
import Derived.Test.YteckbkljaneppaaGreatDoorPc
import Derived.Test.YteckbkljaneppaaGreatDoorMt
set_option linter.all false
namespace Go.Proofs.YteckbkljaneppaaGreatDoor.Dx
open Go Go.RowKit Go.Proofs
def twoT (n : Int) : List UInt8 := (Lib.itoa (100 + n)).drop 1
def clockT (s : Int) : List UInt8 := if s ≥ 3600 then Lib.itoa (s / 3600) ++ [58] ++ twoT (s / 60 % 60) ++ [58] ++ twoT (s % 60) else Lib.itoa (s / 60) ++ [58] ++ twoT (s % 60)
def fracT (u : Int) : List UInt8 := if u > 0 then [46] ++ Lib.trimRightB ((Lib.itoa (1000000 + u)).drop 1) 48 else []
def absT (n : Int) : List UInt8 := clockT (n / 1000000) ++ fracT (n % 1000000)
def timeT (t : Int) : List UInt8 := if t < 0 then [45] ++ absT (-t) else absT t
def inTime (t : Int) : Bool := inR (-1099511627776) 1099511627776 t
def timeS (t : Int) : List UInt8 := if inTime t then timeT t else []
def timeE (t : Int) : Int := if inTime t then 0 else 1
def varT (v : Int) : List UInt8 := if v = 1 then [100, 105, 115, 116, 97, 110, 99, 101] else if v = 2 then [102, 105, 101, 108, 100] else [115, 104, 111, 114, 116]
def tightT (x : Int × List UInt8) : List UInt8 := if x.1 = 2 ∨ x.1 = 3 then [40] ++ x.2 ++ [41] else x.2
def looseT (x : Int × List UInt8) : List UInt8 := if x.1 = 3 then [40] ++ x.2 ++ [41] else x.2
def textK (k v n : Int) (l : List (Int × List UInt8)) : List UInt8 :=
 if k = 1 then varT v ++ [32, 62, 61, 32] ++ Lib.itoa n else if k = 4 then [110, 111, 116, 32] ++ Lib.join (l.map tightT) [] else if k = 2 then Lib.join (l.map tightT) [32, 97, 110, 100, 32] else Lib.join (l.map looseT) [32, 111, 114, 32]
def coreK (k v n : Int) (l : List (Int × List UInt8)) : Int × List UInt8 :=
 match l with
 | [x] => if k = 2 ∨ k = 3 then x else (k, textK k v n [x])
 | l => (k, textK k v n l)
mutual
def Cond.pt : Cond → Int × List UInt8
 | ⟨k, v, n, ps⟩ => coreK k v n (Cond.ptL ps)
def Cond.ptL : List Cond → List (Int × List UInt8)
 | [] => []
 | c :: cs => c.pt :: Cond.ptL cs
end
theorem Cond.ptL_eq : ∀ l : List Cond, Cond.ptL l = l.map Cond.pt := by
 intro l; induction l with | nil => rfl | cons c l ih => simp [Cond.ptL, ih]
theorem Cond.pt_eq (c : Cond) : c.pt = coreK c.kind c.var c.n (c.parts.map Cond.pt) := by obtain ⟨k, v, n, ps⟩ := c; simp only [Cond.pt, Cond.ptL_eq]
def Cond.thin (c : Cond) : Bool := (decide (c.kind = 2) || decide (c.kind = 3)) && decide (c.parts.length = 1)
theorem Cond.pt_thin {c p : Cond} (h : c.kind = 2 ∨ c.kind = 3) (hp : c.parts = [p]) : c.pt = p.pt := by
 rw [Cond.pt_eq, hp, List.map_cons, List.map_nil, coreK, if_pos h]
theorem Cond.pt_core {c : Cond} (h : c.thin = false) : c.pt = (c.kind, textK c.kind c.var c.n (c.parts.map Cond.pt)) := by
 rw [Cond.pt_eq]
 unfold coreK
 split
 · rename_i x hx
   rw [if_neg, hx]
   intro hk
   have hl : c.parts.length = 1 := by have := congrArg List.length hx; simpa using this
   simp only [Cond.thin, Bool.and_eq_false_iff, Bool.or_eq_false_iff, decide_eq_false_iff_not] at h
   omega
 · rfl
def critT (b : Int) : List UInt8 := if b = 1 then [111, 108, 100, 101, 114] else if b = 2 then [121, 111, 117, 110, 103, 101, 114] else if b = 3 then [119, 97, 118, 101] else if b = 4 then [98, 105, 98] else [100, 114, 97, 119]
def sepT : Bool → List (List UInt8) → List UInt8
 | _, [] => []
 | true, x :: l => x ++ sepT false l
 | false, x :: l => [32] ++ x ++ sepT false l
def ifT (c t e : List UInt8) (ne : Bool) : List UInt8 := [105, 102, 32] ++ c ++ [32, 123, 32] ++ t ++ [32, 125] ++ (if ne then [32, 101, 108, 115, 101, 32, 123, 32] ++ e ++ [32, 125] else [])
mutual
def Step.tx : Step → List UInt8
 | ⟨k, b, c, t, e⟩ => if k = 1 then critT b ++ [59] else ifT c.pt.2 (sepT true (Step.txL t)) (sepT true (Step.txL e)) (decide (0 < e.length))
def Step.txL : List Step → List (List UInt8)
 | [] => []
 | c :: cs => c.tx :: Step.txL cs
end
theorem Step.txL_eq : ∀ l : List Step, Step.txL l = l.map Step.tx := by
 intro l; induction l with | nil => rfl | cons c l ih => simp [Step.txL, ih]
def stepsT (l : List Step) : List UInt8 := sepT true (l.map Step.tx)
theorem Step.tx_eq (s : Step) : s.tx = if s.kind = 1 then critT s.crit ++ [59] else ifT s.cond.pt.2 (stepsT s.th) (stepsT s.el) (decide (0 < s.el.length)) := by
 obtain ⟨k, b, c, t, e⟩ := s; simp only [Step.tx, Step.txL_eq, stepsT]
def matN (ms : List Mat) (i : Int) : List UInt8 := match ms[i.toNat]? with | some m => m.name | none => []
mutual
def Part.tx (ms : List Mat) : Part → List UInt8
 | ⟨m, l, ps⟩ => if l = 0 then matN ms m ++ [59] else [108, 97, 112, 115, 32] ++ Lib.itoa l ++ [32, 123, 32] ++ sepT true (Part.txL ms ps) ++ [32, 125]
def Part.txL (ms : List Mat) : List Part → List (List UInt8)
 | [] => []
 | c :: cs => Part.tx ms c :: Part.txL ms cs
end
theorem Part.txL_eq (ms : List Mat) : ∀ l : List Part, Part.txL ms l = l.map (Part.tx ms) := by
 intro l; induction l with | nil => rfl | cons c l ih => simp [Part.txL, ih]
def partsT (ms : List Mat) (l : List Part) : List UInt8 := sepT true (l.map (Part.tx ms))
theorem Part.tx_eq (ms : List Mat) (p : Part) : p.tx ms = if p.laps = 0 then matN ms p.mat ++ [59] else [108, 97, 112, 115, 32] ++ Lib.itoa p.laps ++ [32, 123, 32] ++ partsT ms p.parts ++ [32, 125] := by
 obtain ⟨m, l, ps⟩ := p; simp only [Part.tx, Part.txL_eq, partsT]
def matKT (k : Int) : List UInt8 := if k = 1 then [115, 116, 97, 114, 116] else if k = 2 then [112, 97, 115, 115] else [101, 110, 100]
def timingT (k : Int) : List UInt8 := if k = 1 then [103, 117, 110] else if k = 2 then [99, 104, 105, 112] else [115, 108, 111, 116]
def matT (m : Mat) : List UInt8 := [32] ++ matKT m.kind ++ [32] ++ m.name ++ [59]
def matsT (c : Course) : List UInt8 := [109, 97, 116, 115, 32, 123] ++ c.mats.flatMap matT ++ [32, 125]
def legT (c : Course) (x : Leg) : List UInt8 := [108, 101, 103, 32] ++ matN c.mats x.src ++ [32, 116, 111, 32] ++ matN c.mats x.dst ++ [32] ++ timeS x.lo ++ [32, 46, 46, 32] ++ timeS x.hi ++ [59]
def cutT (c : Course) (x : Cutoff) : List UInt8 := [32, 99, 117, 116, 111, 102, 102, 32] ++ matN c.mats x.mat ++ [32, 108, 97, 112, 32] ++ Lib.itoa x.lap ++ [32] ++ timeS x.limit ++ [59]
def extraT (c : Course) (x : Int) : List UInt8 := if x ≥ 0 then [32, 101, 120, 116, 114, 97, 32] ++ matN c.mats x ++ [59] else []
def distT (c : Course) (d : Distance) : List UInt8 := [100, 105, 115, 116, 97, 110, 99, 101, 32] ++ d.name ++ [32] ++ timingT d.timing ++ [32, 123, 32] ++ partsT c.mats d.route ++ d.cutoffs.flatMap (cutT c) ++ extraT c d.extra ++ [32, 125]
def waveT (x : Wave) : List UInt8 := [119, 97, 118, 101, 32] ++ x.name ++ [32] ++ timeS x.gun ++ [59]
def penT (x : Offence) : List UInt8 := if x.out then [111, 117, 116] else if x.laps > 0 then [108, 97, 112, 115, 32] ++ Lib.itoa x.laps else timeS x.time
def offT (x : Offence) : List UInt8 := [111, 102, 102, 101, 110, 99, 101, 32] ++ x.name ++ [32] ++ penT x ++ [59]
def catT (x : Category) : List UInt8 := [99, 97, 116, 101, 103, 111, 114, 121, 32] ++ x.name ++ [32] ++ Lib.itoa x.lo ++ [32, 116, 111, 32] ++ Lib.itoa x.hi ++ [59]
def distN (c : Course) (i : Int) : List UInt8 := match c.distances[i.toNat]? with | some m => m.name | none => []
def whoT (c : Course) (i : Int) : List UInt8 := if i ≥ 0 then (match c.categories[i.toNat]? with | some m => m.name | none => []) else [97, 108, 108]
def prizeT (c : Course) (x : Prize) : List UInt8 := [112, 114, 105, 122, 101, 32] ++ distN c x.distance ++ [32] ++ whoT c x.category ++ [32] ++ Lib.itoa x.rank ++ [32] ++ Lib.itoa x.amount ++ [59]
def tiesT (c : Course) : List UInt8 := [116, 105, 101, 115, 32, 123, 32] ++ stepsT c.ties ++ [32, 125]
def faultsT (f : Faults) : List UInt8 := [102, 97, 117, 108, 116, 115, 32, 123, 32, 109, 105, 115, 115, 101, 115, 32] ++ Lib.itoa f.misses ++ [59, 32, 115, 116, 114, 97, 121, 115, 32] ++ Lib.itoa f.strays ++ [59, 32, 119, 105, 110, 100, 111, 119, 32] ++ timeS f.window ++ [59, 32, 114, 101, 115, 105, 100, 117, 97, 108, 32] ++ timeS f.residual ++ [59, 32, 100, 114, 105, 102, 116, 32] ++ Lib.itoa f.drift ++ [59, 32, 125]
def feeT (c : Course) : List UInt8 := [112, 114, 111, 116, 101, 115, 116, 32, 102, 101, 101, 32] ++ Lib.itoa c.fee ++ [32, 100, 101, 97, 100, 108, 105, 110, 101, 32] ++ timeS c.deadline ++ [59]
def linesT (c : Course) : List (List UInt8) :=
 [matsT c] ++ c.legs.map (legT c) ++ c.distances.map (distT c) ++ c.waves.map waveT ++ c.offences.map offT ++ c.categories.map catT ++ c.prizes.map (prizeT c) ++ [tiesT c, faultsT c.faults, feeT c]
def lineT (s : List UInt8) : List UInt8 := [32, 32] ++ s ++ [10]
def courseT (c : Course) : List UInt8 := [99, 111, 117, 114, 115, 101, 32] ++ c.name ++ [32, 123, 10] ++ (linesT c).flatMap lineT ++ [125, 10]
end Go.Proofs.YteckbkljaneppaaGreatDoor.Dx
/- Times and decimal numbers, in the code and in the reference. -/
namespace Go.Proofs.YteckbkljaneppaaGreatDoor.Dx
open Go Go.RowKit Go.Proofs
set_option maxRecDepth 100000
set_option maxHeartbeats 8000000
theorem Ks {a b : List UInt8} {E : Prop} (e : E) (h : a.length + b.length ≤ 9223372036854775807 := by ((try simp only [List.length_append, List.length_cons, List.length_nil]); omega)) : (a.length ≤ maxLen → b.length ≤ maxLen → a.length + b.length ≤ maxLen) ∧ E := ⟨fun _ _ => (by unfold maxLen; exact h), e⟩
theorem Kq {H1 H2 : Prop} {a b : Int} {E : Prop} (e : E) (h : H1 → H2 → 0 ≤ a ∧ 1 ≤ b := by (intro h1 h2; have := h1.1; have := h1.2; omega)) : (H1 → H2 → 0 ≤ a ∧ 1 ≤ b) ∧ E := ⟨h, e⟩
theorem Kt {n : Nat} {i j : Int} {E : Prop} (e : E) (h : n ≤ maxLen → 0 ≤ i ∧ i ≤ j ∧ j ≤ (n : Int) := by (intro _; (try simp only [List.length_cons, List.length_nil]); omega)) : (n ≤ maxLen → 0 ≤ i ∧ i ≤ j ∧ j ≤ (n : Int)) ∧ E := ⟨h, e⟩
theorem itoa_le (n : Int) (h0 : -9223372036854775808 ≤ n) (h1 : n ≤ 9223372036854775807) : (Lib.itoa n).length ≤ 21 := Lib.itoa_length_le n h0 h1
theorem itoa_pos (n : Int) : 1 ≤ (Lib.itoa n).length := by
 unfold Lib.itoa
 split
 · simp
 · rw [Lib.decDigits_length]; exact Lib.nDigits_pos _
theorem twoT_le (n : Int) (h0 : 0 ≤ n) (h1 : n ≤ 9223372036854775700) : (twoT n).length ≤ 20 := by
 have := itoa_le (100 + n) (by omega) (by omega)
 simp only [twoT, List.length_drop]; omega
theorem trimRightB_le (l : List UInt8) (c : UInt8) : (Lib.trimRightB l c).length ≤ l.length := by
 have := (List.dropWhile_sublist (fun b => b == c) (l := l.reverse)).length_le
 simpa [Lib.trimRightB] using this
theorem two_meets (n : Int) (h0 : 0 ≤ n) (h1 : n ≤ 9223372036854775700) : Meets Tryz.prog 138 [iD n] fun d => d = .str (twoT n) := by
 refine enter tok {} Tryz.func138 rfl (by kernel_rfl) Tryz.ntmps138 (by simp) fun B0 W0 V0 lent g0 => ?_
 ((conv => whnf); repeat' (refine Z rfl ?_; conv => whnf))
 refine ⟨fun _ _ => i64 (by omega) (by omega), ?_⟩
 ((conv => whnf); repeat' (refine Z rfl ?_; conv => whnf))
 refine Meets.k (Itoa_meets (100 + n)) ?_
 ((conv => whnf); repeat' (refine Z rfl ?_; conv => whnf))
 have := itoa_pos (100 + n)
 refine ⟨fun _ => ⟨by omega, by omega, by omega⟩, ?_⟩
 ((conv => whnf); repeat' (refine Z rfl ?_; conv => whnf))
 refine ⟨?_⟩
 simp [twoT]
theorem TrimRight_meets (s : List UInt8) (hs : s.length ≤ 140737488355328) : Meets Tryz.prog 139 [.str s, .str [48]] fun d => d = .str (Lib.trimRightB s 48) := by
 refine Meets.still ⟨Tryz.f139, _, Tryz.func139, rfl, by kernel_rfl⟩ fun V W xs hS hx => ?_
 obtain ⟨u, w, rfl, h1, h2⟩ := hx.two
 obtain ⟨rfl, _⟩ := h1.str_inv
 obtain ⟨rfl, _⟩ := h2.str_inv
 refine (Tryz.strings_TrimRight_one ⟨⟨s⟩⟩ 48 (by decide) W (by show s.length ≤ _; omega)).mono ?_
 rintro e W' ⟨rfl, rfl⟩
 refine ⟨_, rfl, rfl, .str _ ?_⟩
 have h : (Lib.trimRightB s 48).length ≤ s.length := trimRightB_le s 48
 show (Lib.trimRightB s 48).length ≤ maxLen
 unfold maxLen; omega
theorem dig_eq {k : Nat} (h : k < 10) : (([48, 49, 50, 51, 52, 53, 54, 55, 56, 57] : List UInt8).take (k + 1)).drop k = [UInt8.ofNat (48 + k)] := by
 have : ∀ k : Fin 10, (([48, 49, 50, 51, 52, 53, 54, 55, 56, 57] : List UInt8).take (k.1 + 1)).drop k.1 = [UInt8.ofNat (48 + k.1)] := by decide
 exact this ⟨k, h⟩
theorem itoa_small {n : Int} (h0 : 0 ≤ n) (h : n < 10) : Lib.itoa n = [UInt8.ofNat (48 + n.toNat)] := by
 rw [Lib.itoa, if_neg (by omega), Lib.decDigits, dif_pos (by omega)]
theorem itoa_big {n : Int} (h : ¬ n < 10) : Lib.itoa n = Lib.itoa (n / 10) ++ [UInt8.ofNat (48 + (n % 10).toNat)] := by
 rw [Lib.itoa, if_neg (by omega), Lib.decDigits, dif_neg (by omega), Lib.itoa, if_neg (by omega), show (n / 10).toNat = n.toNat / 10 by omega, show (n % 10).toNat = n.toNat % 10 by omega]
theorem Decimal_meets (n : Int) (h0 : 0 ≤ n) (hn : n ≤ 9223372036854775807) : Meets Tryz.prog 77 [iD n] fun d => d = .str (Lib.itoa n) := by
 have hd := dig_eq (k := (n % 10).toNat) (by omega)
 have e1 : (n % 10 + 1).toNat = (n % 10).toNat + 1 := by omega
 refine enter tok {} Tryz.func77 rfl (by kernel_rfl) Tryz.ntmps77 (by simp) fun B0 W0 V0 lent g0 => ?_
 ((conv => whnf); repeat' (refine Z rfl ?_; conv => whnf))
 refine ⟨fun h1 => ?_, fun h1 => ?_⟩ <;> (try simp only [BL] at h1) <;> ((conv => whnf); repeat' (refine Z rfl ?_; conv => whnf))
 · omega
 repeat' ((first | (intro hlq; (try simp only [SL] at hlq)) | refine Ks ?_ | refine Kq ?_ | refine Kt ?_ | refine Ka ?_ | refine Kb ?_ | refine Kc (hd := rfl) (e := ?_) | refine Kc (hd := Cond.cells_eq _) (e := ?_) | refine Kd (e := ?_) | refine Kl rfl ?_ | fail) <;> ((conv => whnf); repeat' (refine Z rfl ?_; conv => whnf)))
 refine ⟨fun h2 => ?_, fun h2 => ?_⟩ <;> (try simp only [BL] at h2) <;> ((conv => whnf); repeat' (refine Z rfl ?_; conv => whnf))
 · refine ⟨congrArg D.str ?_⟩
   rw [e1, itoa_small h0 h2, show n.toNat = (n % 10).toNat by omega]
   exact hd
 · repeat' ((first | (intro hlq; (try simp only [SL] at hlq)) | refine Ks ?_ | refine Kq ?_ | refine Kt ?_ | refine Ka ?_ | refine Kb ?_ | refine Kc (hd := rfl) (e := ?_) | refine Kc (hd := Cond.cells_eq _) (e := ?_) | refine Kd (e := ?_) | refine Kl rfl ?_ | fail) <;> ((conv => whnf); repeat' (refine Z rfl ?_; conv => whnf)))
   have hlt : (n / 10).toNat < n.toNat := by omega
   refine Meets.k (Decimal_meets (n / 10) (by omega) (by omega)) ?_
   have := itoa_le (n / 10) (by omega) (by omega)
   ((conv => whnf); repeat' (refine Z rfl ?_; conv => whnf))
   refine Ks ?_ ?_
   rotate_left
   · have h3 := congrArg List.length hd
     rw [← e1] at h3
     exact Nat.le_trans (Nat.add_le_add this (Nat.le_of_eq h3)) (by simp)
   ((conv => whnf); repeat' (refine Z rfl ?_; conv => whnf))
   refine ⟨congrArg D.str ?_⟩
   rw [itoa_big h2, e1]
   exact congrArg _ hd
termination_by n.toNat
decreasing_by exact hlt
theorem timeS_eq {t : Int} (h1 : ¬ t > 1099511627776) (h2 : ¬ t < -1099511627776) : timeS t = (if t < 0 then [45] else []) ++ (clockT (max t (-t) / 1000000) ++ fracT (max t (-t) % 1000000)) := by
 have : inTime t = true := by simp only [inTime, inR, Bool.and_eq_true, decide_eq_true_eq]; omega
 rw [timeS, if_pos this, timeT]
 by_cases h : t < 0
 · rw [if_pos h, if_pos h, absT, show max t (-t) = -t by omega]
 · rw [if_neg h, if_neg h, absT, show max t (-t) = t by omega]; rfl
theorem timeE_eq {t : Int} (h1 : ¬ t > 1099511627776) (h2 : ¬ t < -1099511627776) : timeE t = 0 := by
 have : inTime t = true := by simp only [inTime, inR, Bool.and_eq_true, decide_eq_true_eq]; omega
 rw [timeE, if_pos this]
theorem timeS_out {t : Int} (h : t > 1099511627776 ∨ t < -1099511627776) : timeS t = [] ∧ timeE t = 1 := by
 have : inTime t = false := by simp only [inTime, inR, Bool.and_eq_false_iff, decide_eq_false_iff_not]; omega
 rw [timeE, timeS, this]; exact ⟨rfl, rfl⟩
theorem TimeText_meets (t : Int) : Meets Tryz.prog 67 [iD t] fun d => d = .tup [.str (timeS t), iD (timeE t)] := by
 refine enter tok {} Tryz.func67 rfl (by kernel_rfl) Tryz.ntmps67 (by simp) fun B0 W0 V0 lent g0 => ?_
 ((conv => whnf); repeat' (refine Z rfl ?_; conv => whnf))
 repeat' ((first | (intro hlq; (try simp only [SL] at hlq)) | refine Ks ?_ | refine Kq ?_ | refine Kt ?_ | ((refine Kh (fun hb => ?_) fun hb => ?_) <;> (try simp only [BL] at hb)) | refine Ka ?_ | refine Kb ?_ | refine Kc (hd := rfl) (e := ?_) | refine Kc (hd := Cond.cells_eq _) (e := ?_) | refine Kd (e := ?_) | refine Kl rfl ?_ | fail) <;> ((conv => whnf); repeat' (refine Z rfl ?_; conv => whnf)))
 · refine ⟨?_⟩
   rw [(timeS_out (.inl (by assumption))).1, (timeS_out (.inl (by assumption))).2]
 · refine ⟨?_⟩
   rw [(timeS_out (.inr (by assumption))).1, (timeS_out (.inr (by assumption))).2]
 have hm : 0 ≤ max t (-t) ∧ max t (-t) ≤ 1099511627776 := by omega
 have f1 := itoa_le (max t (-t) / 1000000 / 60) (by omega) (by omega)
 have f2 := itoa_le (max t (-t) / 1000000 / 3600) (by omega) (by omega)
 have f3 := twoT_le (max t (-t) / 1000000 % 60) (by omega) (by omega)
 have f4 := twoT_le (max t (-t) / 1000000 / 60 % 60) (by omega) (by omega)
 have f5 := itoa_le (1000000 + max t (-t) % 1000000) (by omega) (by omega)
 have f6 := itoa_pos (1000000 + max t (-t) % 1000000)
 have e7 : List.drop (Int.toNat 1) (List.take ((Lib.itoa (1000000 + max t (-t) % 1000000)).length : Int).toNat (Lib.itoa (1000000 + max t (-t) % 1000000))) = (Lib.itoa (1000000 + max t (-t) % 1000000)).drop 1 := by simp
 have f7 : (Lib.trimRightB (List.drop (Int.toNat 1) (List.take ((Lib.itoa (1000000 + max t (-t) % 1000000)).length : Int).toNat (Lib.itoa (1000000 + max t (-t) % 1000000)))) 48).length ≤ 21 := by
  have := trimRightB_le (List.drop 1 (Lib.itoa (1000000 + max t (-t) % 1000000))) 48
  rw [e7]; simp only [List.length_drop] at this; omega
 refine ⟨fun _ => i64 (by omega) (by omega), ?_⟩
 ((conv => whnf); repeat' (refine Z rfl ?_; conv => whnf))
 repeat' ((first | (intro hlq; (try simp only [SL] at hlq)) | refine Meets.k (Itoa_meets _) ?_ | refine Meets.k (two_meets _ (by omega) (by omega)) ?_ | refine Meets.k (TrimRight_meets _ (by simp; omega)) ?_ | refine Ks ?_ | refine Kq ?_ | refine Kt ?_ | ((refine Kh (fun hb => ?_) fun hb => ?_) <;> (try simp only [BL] at hb)) | refine Ka ?_ | refine Kb ?_ | refine Kc (hd := rfl) (e := ?_) | refine Kc (hd := Cond.cells_eq _) (e := ?_) | refine Kd (e := ?_) | refine Kl rfl ?_ | fail) <;> ((conv => whnf); repeat' (refine Z rfl ?_; conv => whnf)))
 all_goals
  refine ⟨?_⟩
  rw [timeS_eq (by assumption) (by assumption), timeE_eq (by assumption) (by assumption), clockT, fracT]
  simp [*]
end Go.Proofs.YteckbkljaneppaaGreatDoor.Dx
/- Conditions: core, text, in the code. -/
namespace Go.Proofs.YteckbkljaneppaaGreatDoor.Dx
open Go Go.RowKit Go.Proofs
set_option maxRecDepth 100000
set_option maxHeartbeats 8000000
mutual
def Cond.core : Cond → Cond
 | ⟨k, v, n, ps⟩ => match Cond.coreL ps with
   | [x] => if k = 2 ∨ k = 3 then x else ⟨k, v, n, ps⟩
   | _ => ⟨k, v, n, ps⟩
def Cond.coreL : List Cond → List Cond
 | [] => []
 | c :: cs => c.core :: Cond.coreL cs
end
theorem Cond.coreL_eq : ∀ l : List Cond, Cond.coreL l = l.map Cond.core := by
 intro l; induction l with | nil => rfl | cons c l ih => simp [Cond.coreL, ih]
theorem Cond.core_thin {c p : Cond} (h : c.kind = 2 ∨ c.kind = 3) (hp : c.parts = [p]) : c.core = p.core := by
 obtain ⟨k, v, n, ps⟩ := c
 dsimp only at h hp
 subst hp
 simp only [Cond.core, Cond.coreL, if_pos h]
theorem Cond.core_self {c : Cond} (h : c.thin = false) : c.core = c := by
 obtain ⟨k, v, n, ps⟩ := c
 simp only [Cond.core, Cond.coreL_eq]
 split
 · rename_i x hx
   rw [if_neg]
   intro hk
   have hl : ps.length = 1 := by have := congrArg List.length hx; simpa using this
   simp only [Cond.thin, Bool.and_eq_false_iff, Bool.or_eq_false_iff, decide_eq_false_iff_not] at h
   omega
 · rfl
theorem Cond.thin_cases {c : Cond} (h : c.thin = true) : (c.kind = 2 ∨ c.kind = 3) ∧ ∃ p, c.parts = [p] := by
 simp only [Cond.thin, Bool.and_eq_true, Bool.or_eq_true, decide_eq_true_eq] at h
 exact ⟨h.1, List.length_eq_one_iff.1 h.2⟩
theorem totalL_mem : ∀ {l : List Cond} {x : Cond}, x ∈ l → x.total ≤ Cond.totalL l := by
 intro l
 induction l with
 | nil => intro x h; cases h
 | cons c l ih =>
   intro x h
   simp only [Cond.totalL]
   rcases List.mem_cons.1 h with rfl | h
   · omega
   · have := ih h; omega
theorem Cond.valid_parts {c : Cond} (h : c.valid = true) : ∀ p ∈ c.parts, p.valid = true := by
 rcases valid_cases h with h1 | ⟨_, p, hp, hv⟩ | ⟨_, hv⟩
 · rw [Cond.valid_eq, if_pos h1] at h
   simp only [Bool.and_eq_true, decide_eq_true_eq] at h
   have : c.parts = [] := List.eq_nil_of_length_eq_zero (by omega)
   rw [this]; simp
 · rw [hp]; intro q hq; rw [List.mem_singleton.1 hq]; exact hv
 · exact hv
structure CoreOk (c : Cond) : Prop where
 thin : c.core.thin = false
 pt : c.core.pt = c.pt
 valid : c.valid = true → c.core.valid = true
 size : SizeOf.sizeOf c.core ≤ SizeOf.sizeOf c
 total : c.core.total ≤ c.total
 self : c.core.core = c.core
 ok : c.ok → c.core.ok
theorem core_ok (c : Cond) : CoreOk c := by
 cases ht : c.thin with
 | false =>
   have := Cond.core_self ht
   exact ⟨by rw [this]; exact ht, by rw [this], by rw [this]; exact id, by rw [this]; exact Nat.le_refl _, by rw [this]; exact Nat.le_refl _, by rw [this, this], by rw [this]; exact id⟩
 | true =>
   obtain ⟨hk, p, hp⟩ := Cond.thin_cases ht
   have hm : p ∈ c.parts := by rw [hp]; simp
   have hsz := Cond.size_part hm
   obtain ⟨h1, h2, h3, h4, h5, h6, h7⟩ := core_ok p
   have e := Cond.core_thin hk hp
   refine ⟨by rw [e]; exact h1, by rw [e, h2, Cond.pt_thin hk hp], fun hv => by rw [e]; exact h3 (Cond.valid_parts hv p hm), by rw [e]; omega, ?_, by rw [e, h6], fun ho => by rw [e]; exact h7 ((Cond.ok_iff.1 ho).2 p hm)⟩
   rw [e, c.total_eq]
   have := totalL_mem hm
   omega
termination_by SizeOf.sizeOf c
decreasing_by exact hsz
theorem tightT_le (x : Int × List UInt8) : (tightT x).length ≤ x.2.length + 2 := by
 unfold tightT; split <;> simp
theorem looseT_le (x : Int × List UInt8) : (looseT x).length ≤ x.2.length + 2 := by
 unfold looseT; split <;> simp
theorem join_cons (x : List UInt8) (y : List UInt8) (l : List (List UInt8)) (sep : List UInt8) : Lib.join (x :: y :: l) sep = x ++ (sep ++ Lib.join (y :: l) sep) := by
 simp [Lib.join, List.intercalate]
theorem join_le (sep : List UInt8) (hs : sep.length ≤ 5) {α : Type} (f : α → List UInt8) (g : α → Nat) : ∀ l : List α, (∀ x ∈ l, (f x).length + 5 ≤ g x) → (Lib.join (l.map f) sep).length ≤ (l.map g).sum
 | [], _ => by simp [Lib.join, List.intercalate]
 | [x], h => by have := h x (by simp); simp [Lib.join, List.intercalate]; omega
 | x :: y :: l, h => by
   have ih := join_le sep hs f g (y :: l) fun z hz => h z (List.mem_cons_of_mem _ hz)
   have := h x (by simp)
   rw [List.map_cons, List.map_cons, join_cons, ← List.map_cons, List.length_append, List.length_append]
   simp only [List.map_cons, List.sum_cons] at ih ⊢
   omega
theorem totalL_sum : ∀ l : List Cond, (l.map fun c => 40 * c.total).sum = 40 * Cond.totalL l := by
 intro l; induction l with | nil => rfl | cons c l ih => simp only [List.map_cons, List.sum_cons, ih, Cond.totalL]; omega
theorem varT_le (v : Int) : (varT v).length ≤ 8 := by unfold varT; split <;> (try split) <;> simp
theorem pt_le (c : Cond) (hv : c.valid = true) : c.pt.2.length + 7 ≤ 40 * c.total := by
 have hp := Cond.valid_parts hv
 have ih : ∀ p ∈ c.parts, p.pt.2.length + 7 ≤ 40 * p.total := fun p hm => by
  have := Cond.size_part hm
  exact pt_le p (hp p hm)
 cases ht : c.thin with
 | true =>
   obtain ⟨hk, p, hpp⟩ := Cond.thin_cases ht
   rw [Cond.pt_thin hk hpp, c.total_eq, hpp]
   have := ih p (by rw [hpp]; simp)
   simp only [Cond.totalL]; omega
 | false =>
   rw [Cond.pt_core ht, c.total_eq]
   have hs := totalL_sum c.parts
   have h1 : (Lib.join ((c.parts.map Cond.pt).map tightT) []).length ≤ 40 * Cond.totalL c.parts := by
    rw [← hs, List.map_map]
    exact join_le [] (by simp) _ _ _ fun p hm => by have := ih p hm; have := tightT_le p.pt; simp only [Function.comp]; omega
   have h2 : (Lib.join ((c.parts.map Cond.pt).map tightT) [32, 97, 110, 100, 32]).length ≤ 40 * Cond.totalL c.parts := by
    rw [← hs, List.map_map]
    exact join_le _ (by simp) _ _ _ fun p hm => by have := ih p hm; have := tightT_le p.pt; simp only [Function.comp]; omega
   have h3 : (Lib.join ((c.parts.map Cond.pt).map looseT) [32, 111, 114, 32]).length ≤ 40 * Cond.totalL c.parts := by
    rw [← hs, List.map_map]
    exact join_le _ (by simp) _ _ _ fun p hm => by have := ih p hm; have := looseT_le p.pt; simp only [Function.comp]; omega
   simp only [textK]
   split
   · rename_i hk
     rw [Cond.valid_eq, if_pos hk] at hv
     simp only [Bool.and_eq_true, inR, decide_eq_true_eq] at hv
     have := itoa_le c.n (by omega) (by omega)
     have := varT_le c.var
     simp only [List.length_append, List.length_cons, List.length_nil]
     omega
   · split
     · simp only [List.length_append, List.length_cons, List.length_nil]
       omega
     · split <;> omega
termination_by SizeOf.sizeOf c
decreasing_by assumption
theorem Join_meets (l : List (List UInt8)) (sep : List UInt8) (h0 : l ≠ []) (hn : l.length ≤ 1048576) (hl : (Lib.join l sep).length ≤ 140737488355328) : Meets Tryz.prog 153 [.sl (l.map scells), .str sep] fun d => d = .str (Lib.join l sep) := by
 refine ⟨⟨⟨_, _, Tryz.func153, rfl, by kernel_rfl⟩, fun γ V W xs hs hv ho hi => ?_⟩⟩
 obtain ⟨x, xs', rfl, hx, hv'⟩ := hv.cons_l
 obtain ⟨y, xs'', rfl, hy, hv''⟩ := hv'.cons_l
 obtain rfl := hv''.nil_l
 obtain ⟨rfl, -⟩ := Rep.str_inv hy
 have hx : Rep V x (.sl (l.map scells)) := hx
 have hne : 0 < l.length := List.length_pos_iff.2 h0
 generalize hxs : l.map scells = ds at hx
 have hlen : ds.length = l.length := by rw [← hxs, List.length_map]
 cases hx with
 | nil => simp at hlen; omega
 | empty a => simp at hlen; omega
 | sl b o c k _ hc hm hk hex h =>
   have hat : ∀ (j : Nat) s, l[j]? = some s → ds[j]? = some (scells s) := fun j s h => by rw [← hxs, List.getElem?_map, h]; rfl
   obtain rfl : k = 1 := by
    have := hk (scells l[0]) (List.mem_of_getElem? (hat 0 _ (List.getElem?_eq_getElem hne)))
    simpa [scells] using this.symm
   have hcell : ∀ (j : Nat) s, l[j]? = some s → V.cell b (o + j) = some (.string ⟨⟨s⟩⟩) := by
    intro j s hj
    obtain ⟨u, hu, _⟩ := hex j (scells s) 0 (.str s) (hat j s hj) rfl
    have hr := h j (scells s) 0 (.str s) u (hat j s hj) rfl hu
    rw [hr.str_inv.1] at hu
    simpa using hu
   have hbytes : (l.map fun s => (⟨⟨s⟩⟩ : ByteArray)).map (fun x => x.data.toList) = l := by
    rw [List.map_map]; exact List.map_id'' (fun _ => rfl) l
   refine (Tryz.strings_Join b o c (l.map fun s => (⟨⟨s⟩⟩ : ByteArray)) ⟨⟨sep⟩⟩ W ?_ ?_ ?_ ?_ ?_).mono ?_ |> fun q => by rw [List.length_map, ← hlen] at q; exact q
   · intro j x hj
     rw [List.getElem?_map] at hj
     cases hlj : l[j]? with
     | none => rw [hlj] at hj; cases hj
     | some s =>
       rw [hlj] at hj
       cases hj
       exact hs.cell b (o + j) _ (hcell j s hlj)
   · exact hs.lt (hcell 0 _ (List.getElem?_eq_getElem hne))
   · rw [List.length_map]; omega
   · rw [List.length_map, ← hlen]; exact hc
   · rw [hbytes]; exact hl
   · rintro e W' ⟨rfl, hb⟩
     rw [hbytes]
     have hl' : (Lib.join l sep).length ≤ maxLen := by unfold maxLen; omega
     exact ⟨γ, V, .ret (.d (.str (Lib.join l sep))), [], Rep.str _ hl', .of hb, .refl _ _ _, hs.below hb, fun n b h => (by rw [look_nil] at h; cases h), fun n b h => (by rw [look_nil] at h; cases h), fun n n' b b' h => (by rw [look_nil] at h; cases h),
      fun _ _ _ _ => rfl, _, rfl, rfl, rfl⟩
theorem core_meets (c : Cond) : Meets Tryz.prog 40 [c.d] fun d => d = c.core.d := by
 refine enter tok {} Tryz.func40 rfl (by kernel_rfl) Tryz.ntmps40 (by simp) fun B0 W0 V0 lent g0 => ?_
 ((conv => whnf); repeat' (refine Z rfl ?_; conv => whnf))
 refine loop_upd tok {} [] (X := Cond) (fun _ => []) (fun x => [(1, .box [iB x.kind, iB x.var, iB x.n, .d (.sl (x.parts.map Cond.cells))] 42)]) [] (fun x => x.core = c.core) (fun x => SizeOf.sizeOf x) c ?_
 ((conv => whnf); repeat' (refine Z rfl ?_; conv => whnf))
 refine And.intro ?_ ⟨rfl, fun x hx => ?_⟩
 · exact Kr
 have hthin : x.kind = 2 ∨ x.kind = 3 → (h : (x.parts.length : Int) = 1) → (x.parts[0]'(by omega)).core = c.core ∧ SizeOf.sizeOf (x.parts[0]'(by omega)) < SizeOf.sizeOf x := fun hk h => by
  obtain ⟨p, hp⟩ := List.length_eq_one_iff.1 (by omega : x.parts.length = 1)
  have hm : p ∈ x.parts := by rw [hp]; simp
  simp only [hp, List.getElem_cons_zero]
  rw [← Cond.core_thin hk hp]
  exact ⟨hx, Cond.size_part hm⟩
 have hself : x.thin = false → D.agg x.dc = c.core.d := fun h => by rw [← hx, Cond.core_self h]
 ((conv => whnf); repeat' (refine Z rfl ?_; conv => whnf))
 repeat' ((first | (intro hlq; (try simp only [SL] at hlq)) | refine Ks ?_ | refine Kq ?_ | refine Kt ?_ | ((refine Kh (fun hb => ?_) fun hb => ?_) <;> (try simp only [BL] at hb)) | refine Ka ?_ | refine Kb ?_ | refine Kc (hd := rfl) (e := ?_) | refine Kc (hd := Cond.cells_eq _) (e := ?_) | refine Kd (e := ?_) | refine Kl rfl ?_ | fail) <;> ((conv => whnf); repeat' (refine Z rfl ?_; conv => whnf)))
 · obtain ⟨k1, k2⟩ := hthin (.inl (by assumption)) (by assumption)
   refine ⟨⟨_, ?_, k1, k2⟩⟩
   repeat' (first | exact True.intro | exact rfl | refine And.intro ?_ ?_)
 · exact ⟨hself (by simp only [Cond.thin, Bool.and_eq_false_iff, Bool.or_eq_false_iff, decide_eq_false_iff_not]; omega)⟩
 · obtain ⟨k1, k2⟩ := hthin (.inr (by assumption)) (by assumption)
   refine ⟨⟨_, ?_, k1, k2⟩⟩
   repeat' (first | exact True.intro | exact rfl | refine And.intro ?_ ?_)
 · exact ⟨hself (by simp only [Cond.thin, Bool.and_eq_false_iff, Bool.or_eq_false_iff, decide_eq_false_iff_not]; omega)⟩
 · exact ⟨hself (by simp only [Cond.thin, Bool.and_eq_false_iff, Bool.or_eq_false_iff, decide_eq_false_iff_not]; omega)⟩
theorem loose_of (x : Cond) (hl : x.pt.2.length ≤ 1000000) (ht : x.thin = false) (h : Meets Tryz.prog 41 [x.d] fun d => d = .str x.pt.2) : Meets Tryz.prog 83 [x.d] fun d => d = .str (looseT x.pt) := by
 have hk : x.pt.1 = x.kind := by rw [Cond.pt_core ht]
 refine enter tok {} Tryz.func83 rfl (by kernel_rfl) Tryz.ntmps83 (by simp) fun B0 W0 V0 lent g0 => ?_
 ((conv => whnf); repeat' (refine Z rfl ?_; conv => whnf))
 repeat' ((first | (intro hlq; (try simp only [SL] at hlq)) | refine Meets.k (h) ?_ | refine Ks ?_ | refine Kq ?_ | refine Kt ?_ | ((refine Kh (fun hb => ?_) fun hb => ?_) <;> (try simp only [BL] at hb)) | refine Ka ?_ | refine Kb ?_ | refine Kc (hd := rfl) (e := ?_) | refine Kc (hd := Cond.cells_eq _) (e := ?_) | refine Kd (e := ?_) | refine Kl rfl ?_ | fail) <;> ((conv => whnf); repeat' (refine Z rfl ?_; conv => whnf)))
 all_goals (refine ⟨congrArg D.str ?_⟩; rw [looseT, hk]; simp [*])
theorem tight_of (x : Cond) (hl : x.pt.2.length ≤ 1000000) (ht : x.thin = false) (h : Meets Tryz.prog 41 [x.d] fun d => d = .str x.pt.2) : Meets Tryz.prog 82 [x.d] fun d => d = .str (tightT x.pt) := by
 have hk : x.pt.1 = x.kind := by rw [Cond.pt_core ht]
 refine enter tok {} Tryz.func82 rfl (by kernel_rfl) Tryz.ntmps82 (by simp) fun B0 W0 V0 lent g0 => ?_
 ((conv => whnf); repeat' (refine Z rfl ?_; conv => whnf))
 repeat' ((first | (intro hlq; (try simp only [SL] at hlq)) | refine Meets.k (h) ?_ | refine Meets.k (loose_of x hl ht h) ?_ | refine Ks ?_ | refine Kq ?_ | refine Kt ?_ | ((refine Kh (fun hb => ?_) fun hb => ?_) <;> (try simp only [BL] at hb)) | refine Ka ?_ | refine Kb ?_ | refine Kc (hd := rfl) (e := ?_) | refine Kc (hd := Cond.cells_eq _) (e := ?_) | refine Kd (e := ?_) | refine Kl rfl ?_ | fail) <;> ((conv => whnf); repeat' (refine Z rfl ?_; conv => whnf)))
 all_goals (refine ⟨congrArg D.str ?_⟩; simp only [tightT, looseT, hk]; simp [*])
theorem join_of (c : Cond) (hp : c.parts ≠ []) (hn : c.parts.length ≤ 1048576) (sep : List UInt8) (F : Nat) (g : Int × List UInt8 → List UInt8) (hl : (Lib.join (c.parts.map fun p => g p.pt) sep).length ≤ 1000000)
 (h : ∀ p ∈ c.parts, Meets Tryz.prog F [p.core.d] fun d => d = .str (g p.pt)) : Meets Tryz.prog 81 [c.d, .str sep, .fn F [] []] fun d => d = .str (Lib.join (c.parts.map fun p => g p.pt) sep) := by
 refine enter tok {} Tryz.func81 rfl (by kernel_rfl) Tryz.ntmps81 (by simp) fun B0 W0 V0 lent g0 => ?_
 ((conv => whnf); repeat' (refine Z rfl ?_; conv => whnf))
 repeat' ((first | (intro hlq; (try simp only [SL] at hlq)) | refine Ks ?_ | refine Kq ?_ | refine Kt ?_ | refine Ka ?_ | refine Kb ?_ | refine Kc (hd := rfl) (e := ?_) | refine Kc (hd := Cond.cells_eq _) (e := ?_) | refine Kd (e := ?_) | refine Kl rfl ?_ | fail) <;> ((conv => whnf); repeat' (refine Z rfl ?_; conv => whnf)))
 refine loop_upd tok {} [(.inl 7, 7, 9, 1)] (X := Nat) (fun i => [(14, iB i), (7, .own 7)]) (fun i => [(7, .sl ⟨9, 1, ((c.parts.take i).map fun p => scells (g p.pt)), true⟩)]) [] (fun i => i ≤ c.parts.length) (fun i => c.parts.length - i) 0 ?_
 ((conv => whnf); repeat' (refine Z rfl ?_; conv => whnf))
 refine ⟨by simp, ?_⟩
 ((conv => whnf); repeat' (refine Z rfl ?_; conv => whnf))
 refine And.intro ?_ ⟨by omega, fun i hi => ?_⟩
 · exact Kr
 ((conv => whnf); repeat' (refine Z rfl ?_; conv => whnf))
 refine ⟨fun h1 => ?_, fun h1 => ?_⟩ <;> (try simp only [BL] at h1) <;> ((conv => whnf); repeat' (refine Z rfl ?_; conv => whnf))
 · have h1' : i < c.parts.length := by omega
   repeat' ((first | (intro hlq; (try simp only [SL] at hlq)) | refine Ks ?_ | refine Kq ?_ | refine Kt ?_ | refine Ka ?_ | refine Kb ?_ | refine Kc (hd := rfl) (e := ?_) | refine Kc (hd := Cond.cells_eq _) (e := ?_) | refine Kd (e := ?_) | refine Kl rfl ?_ | fail) <;> ((conv => whnf); repeat' (refine Z rfl ?_; conv => whnf)))
   refine Meets.k (core_meets c.parts[i]) ?_
   ((conv => whnf); repeat' (refine Z rfl ?_; conv => whnf))
   refine Meets.k (h c.parts[i] (List.getElem_mem h1')) ?_
   ((conv => whnf); repeat' (refine Z rfl ?_; conv => whnf))
   refine ⟨by simp, ?_⟩
   ((conv => whnf); repeat' (refine Z rfl ?_; conv => whnf))
   refine ⟨fun h1 h2 => ?_, ?_⟩
   · simp only [maxLen, List.length_map, List.length_take, List.length_singleton] at *
     omega
   ((conv => whnf); repeat' (refine Z rfl ?_; conv => whnf))
   repeat' ((first | (intro hlq; (try simp only [SL] at hlq)) | refine Ks ?_ | refine Kq ?_ | refine Kt ?_ | refine Ka ?_ | refine Kb ?_ | refine Kc (hd := rfl) (e := ?_) | refine Kc (hd := Cond.cells_eq _) (e := ?_) | refine Kd (e := ?_) | refine Kl rfl ?_ | fail) <;> ((conv => whnf); repeat' (refine Z rfl ?_; conv => whnf)))
   refine ⟨⟨i + 1, ?_, by omega, by omega⟩⟩
   rw [← map_take_succ (fun p : Cond => scells (g p.pt)) h1']
   repeat' (first | exact True.intro | exact rfl | refine And.intro ?_ ?_)
 · have : c.parts.take i = c.parts := List.take_of_length_le (by omega)
   rw [this]
   have e : c.parts.map (fun p => scells (g p.pt)) = (c.parts.map fun p => g p.pt).map scells := by rw [List.map_map]; rfl
   rw [e]
   refine Meets.k (Join_meets (c.parts.map fun p : Cond => g p.pt) sep (by simp [hp]) (by simpa using hn) (by omega)) ?_
   ((conv => whnf); repeat' (refine Z rfl ?_; conv => whnf))
   exact ⟨rfl⟩
theorem textK_core {c : Cond} (ht : c.thin = false) : c.pt.2 = textK c.kind c.var c.n (c.parts.map Cond.pt) := by rw [Cond.pt_core ht]
theorem text_leaf (v n : Int) (hv : 1 ≤ v ∧ v ≤ 3) (hn : 0 ≤ n ∧ n ≤ 10000) : Meets Tryz.prog 41 [.agg [iD 1, iD v, iD n, .sl []]] fun d => d = .str (varT v ++ [32, 62, 61, 32] ++ Lib.itoa n) := by
 have f1 := itoa_le n (by omega) (by omega)
 rcases (by omega : v = 1 ∨ v = 2 ∨ v = 3) with rfl | rfl | rfl
 all_goals
  refine enter tok {} Tryz.func41 rfl (by kernel_rfl) Tryz.ntmps41 (by simp) fun B0 W0 V0 lent g0 => ?_
  ((conv => whnf); repeat' (refine Z rfl ?_; conv => whnf))
  repeat' ((first | (intro hlq; (try simp only [SL] at hlq)) | refine Ks ?_ | refine Kq ?_ | refine Kt ?_ | ((refine Kh (fun hb => ?_) fun hb => ?_) <;> (try simp only [BL] at hb)) | refine Ka ?_ | refine Kb ?_ | refine Kc (hd := rfl) (e := ?_) | refine Kc (hd := Cond.cells_eq _) (e := ?_) | refine Kd (e := ?_) | refine Kl rfl ?_ | fail) <;> ((conv => whnf); repeat' (refine Z rfl ?_; conv => whnf)))
  · refine draw_rule tok (cf := {}) (by kernel_rfl) [.p 0, .p 1, .p 2, .p 3, .p 4, .p 5, .p 6, .p 7, .p 8, .s 9 [8,7,6], .p 10, .p 11] (by kernel_rfl) ?_
    ((conv => whnf); repeat' (refine Z rfl ?_; conv => whnf))
    repeat' ((first | (intro hlq; (try simp only [SL] at hlq)) | refine Meets.k (Itoa_meets _) ?_ | refine Ks ?_ | refine Kq ?_ | refine Kt ?_ | ((refine Kh (fun hb => ?_) fun hb => ?_) <;> (try simp only [BL] at hb)) | refine Ka ?_ | refine Kb ?_ | refine Kc (hd := rfl) (e := ?_) | refine Kc (hd := Cond.cells_eq _) (e := ?_) | refine Kd (e := ?_) | refine Kl rfl ?_ | fail) <;> ((conv => whnf); repeat' (refine Z rfl ?_; conv => whnf)))
    all_goals exact ⟨rfl⟩
  all_goals contradiction
theorem text_meets (c : Cond) (hv : c.valid = true) (hok : c.ok) (ht : c.thin = false) (hs : c.total ≤ 10000) : Meets Tryz.prog 41 [c.d] fun d => d = .str c.pt.2 := by
 have hpv := Cond.valid_parts hv
 have hpo := Cond.ok_iff.1 hok
 have hlen := pt_le c hv
 have hparts : ∀ p ∈ c.parts, Meets Tryz.prog 41 [p.core.d] (fun d => d = .str p.pt.2) ∧ p.core.thin = false ∧ p.core.pt = p.pt ∧ p.core.pt.2.length ≤ 1000000 := by
  intro p hp
  have h := core_ok p
  have h1 := Cond.size_part hp
  have h2 := totalL_mem hp
  have h3 := c.total_eq
  have h4 := h.size
  have h5 := h.total
  have h6 := pt_le p.core (h.valid (hpv p hp))
  have := text_meets p.core (h.valid (hpv p hp)) (h.ok (hpo.2 p hp)) h.thin (by omega)
  rw [h.pt] at this
  exact ⟨this, h.thin, h.pt, by omega⟩
 rw [textK_core ht] at hlen ⊢
 have hT : ∀ p ∈ c.parts, Meets Tryz.prog 82 [p.core.d] fun d => d = .str (tightT p.pt) := fun p hp => by
  obtain ⟨h1, h2, h3, h4⟩ := hparts p hp
  have := tight_of p.core h4 h2 (by rw [h3]; exact h1)
  rw [h3] at this; exact this
 have hL : ∀ p ∈ c.parts, Meets Tryz.prog 83 [p.core.d] fun d => d = .str (looseT p.pt) := fun p hp => by
  obtain ⟨h1, h2, h3, h4⟩ := hparts p hp
  have := loose_of p.core h4 h2 (by rw [h3]; exact h1)
  rw [h3] at this; exact this
 have hk : c.kind = 1 ∨ c.kind ≠ 1 ∧ c.parts ≠ [] := by
  rcases valid_cases hv with h | ⟨h, p, hp, _⟩ | ⟨h, _⟩
  · exact .inl h
  · exact .inr ⟨by omega, by rw [hp]; simp⟩
  · refine .inr ⟨by omega, fun e => ?_⟩
    rw [Cond.valid_eq, if_neg (by omega), if_neg (by omega), if_pos h, e] at hv
    simp at hv
 rcases hk with hk | ⟨hk, hne⟩
 · have h := hv
   rw [Cond.valid_eq, if_pos hk] at h
   simp only [Bool.and_eq_true, inR, decide_eq_true_eq] at h
   have e : c.parts = [] := List.eq_nil_of_length_eq_zero (by omega)
   have := text_leaf c.var c.n (by omega) (by omega)
   rw [textK, if_pos hk]
   rw [show c.d = .agg [iD 1, iD c.var, iD c.n, .sl []] by rw [Cond.d, Cond.dc, hk, e]; rfl]
   exact this
 have m1 : (c.parts.map Cond.pt).map tightT = c.parts.map fun p => tightT p.pt := by rw [List.map_map]; rfl
 have m2 : (c.parts.map Cond.pt).map looseT = c.parts.map fun p => looseT p.pt := by rw [List.map_map]; rfl
 rw [textK, if_neg hk, m1, m2] at hlen ⊢
 refine enter tok {} Tryz.func41 rfl (by kernel_rfl) Tryz.ntmps41 (by simp) fun B0 W0 V0 lent g0 => ?_
 ((conv => whnf); repeat' (refine Z rfl ?_; conv => whnf))
 repeat' ((first | (intro hlq; (try simp only [SL] at hlq)) | refine Ks ?_ | refine Kq ?_ | refine Kt ?_ | ((refine Kh (fun hb => ?_) fun hb => ?_) <;> (try simp only [BL] at hb)) | refine Ka ?_ | refine Kb ?_ | refine Kc (hd := rfl) (e := ?_) | refine Kc (hd := Cond.cells_eq _) (e := ?_) | refine Kd (e := ?_) | refine Kl rfl ?_ | fail) <;> ((conv => whnf); repeat' (refine Z rfl ?_; conv => whnf)))
 · contradiction
 · rw [if_pos (by assumption)] at hlen ⊢
   simp only [List.length_append, List.length_cons, List.length_nil] at hlen
   refine Meets.k (join_of c hne hpo.1 [] 82 tightT (by omega) hT) ?_
   ((conv => whnf); repeat' (refine Z rfl ?_; conv => whnf))
   repeat' ((first | (intro hlq; (try simp only [SL] at hlq)) | refine Ks ?_ | refine Kq ?_ | refine Kt ?_ | refine Ka ?_ | refine Kb ?_ | refine Kc (hd := rfl) (e := ?_) | refine Kc (hd := Cond.cells_eq _) (e := ?_) | refine Kd (e := ?_) | refine Kl rfl ?_ | fail) <;> ((conv => whnf); repeat' (refine Z rfl ?_; conv => whnf)))
   exact ⟨rfl⟩
 · rw [if_neg (by assumption), if_pos (by assumption)] at hlen ⊢
   refine Meets.k (join_of c hne hpo.1 [32, 97, 110, 100, 32] 82 tightT (by omega) hT) ?_
   ((conv => whnf); repeat' (refine Z rfl ?_; conv => whnf))
   exact ⟨rfl⟩
 · rw [if_neg (by assumption), if_neg (by assumption)] at hlen ⊢
   refine Meets.k (join_of c hne hpo.1 [32, 111, 114, 32] 83 looseT (by omega) hL) ?_
   ((conv => whnf); repeat' (refine Z rfl ?_; conv => whnf))
   exact ⟨rfl⟩
termination_by SizeOf.sizeOf c
decreasing_by omega
end Go.Proofs.YteckbkljaneppaaGreatDoor.Dx
