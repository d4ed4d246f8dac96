/- strconv.Itoa by the shelf's contract. -/
import Derived.Test.YtedjnaggkakphaaGreatDoorKj
import Derived.Test.YtedjnaggkakphaaGreatDoorKz
import Derived.Lib.ItoaLen
import Derived.Test.YtedjnaggkakphaaGreatDoorKl
import Derived.Lib.TrimByte
set_option linter.all false
namespace Go.Proofs.YtedjnaggkakphaaGreatDoor.Dx
open Go Go.RowKit Go.Proofs Go.Sort
set_option linter.all false
set_option maxRecDepth 100000
set_option maxHeartbeats 4000000
variable {γ : Gm} {V : Know} {W : World}

theorem tab_pow10 (hs : Sees V W) : Lib.TabIs Tryz.prog W "internal/strconv.uint64pow10" .u64 Lib.pow10Tab := by
  obtain ⟨e, he⟩ := hs.row
  have hg : Tryz.prog.globalNamed "internal/strconv.uint64pow10" = some gPow10 := by kernel_rfl
  unfold World.shape? at he
  split at he
  case h_2 => cases he
  rename_i cs e' fz hh
  simp only [Option.some.injEq, Prod.mk.injEq] at he
  unfold Lib.TabIs World.var?
  rw [hg]
  simp only [Option.bind_some, hh, Option.some.injEq]
  apply Array.ext_getElem?
  intro j
  have hp : Lib.pow10Tab = [1, 10, 100, 1000, 10000, 100000, 1000000, 10000000, 100000000, 1000000000, 10000000000, 100000000000, 1000000000000, 10000000000000, 100000000000000, 1000000000000000, 10000000000000000, 100000000000000000, 1000000000000000000, 10000000000000000000] := by decide
  rcases Nat.lt_or_ge j 20 with hj | hj
  · obtain ⟨z, hz⟩ : ∃ z, Lib.pow10Tab[j]? = some z := ⟨_, List.getElem?_eq_getElem (by rw [Lib.pow10Tab_length]; exact hj)⟩
    have h2 := hs.cell gPow10 j _ (hs.lib.2 j z (by rw [← hp]; exact hz))
    simp only [World.cell?, hh] at h2
    have h2 : cs[j]? = some (Value.int IntKind.u64 z) := h2
    rw [h2]
    simp [hz]
  · rw [Array.getElem?_eq_none (by omega)]
    simp [Lib.pow10Tab_length, hj]

theorem Sees.below (h : Sees V W) {W' : World} (hb : Below W.heap.size W W') : Sees V W' := by
  refine ⟨fun b o v hc => ?_, fun r x hx => ?_, h.lib, h.keepRow fun b o v hc => hb.block b (h.lt hc)⟩
  · exact (hb.cell (p := ⟨b, o, none⟩) (h.lt hc)).trans (h.cell b o v hc)
  · obtain ⟨h1, h2⟩ := h.obj r x hx
    exact ⟨(hb.block r (heap_lt h1)).trans h1, h2⟩

theorem below_gr (w : World) (k : Nat) (os : Array Obj) : Below w.heap.size w (grow (w.drewN k) os) :=
  ⟨rfl, rfl, rfl, by simp [grow], fun j hj => by simp only [grow]; exact Array.getElem?_append_left hj⟩

theorem Itoa_meets (n : Int) : Meets Tryz.prog 56 [.v (.int .i64 n)] fun d => d = .str (Lib.itoa n) := by
  refine ⟨⟨⟨_, _, Tryz.func56, rfl, by kernel_rfl⟩, fun γ V W xs hs hv ho hi => ?_⟩⟩
  obtain ⟨x, xs', rfl, hx, hv'⟩ := hv.cons_l
  obtain rfl := hv'.nil_l
  obtain ⟨rfl, hn⟩ := Rep.int_inv hx
  refine (Tryz.strconv_Itoa n hn.1 hn.2 W (tab_pow10 hs)).mono ?_
  rintro e W' ⟨rfl, k, os, rfl⟩
  have hb := below_gr W k os
  have hl : (Lib.itoa n).length ≤ maxLen := by have := Lib.itoa_length_le n hn.1 hn.2; unfold maxLen; omega
  exact ⟨γ, V, .ret (.d (.str (Lib.itoa n))), [], Rep.str _ hl, .of hb, .refl _ _ _, hs.below hb, fun n b h => (by rw [look_nil] at h; cases h), fun n b h => (by rw [look_nil] at h; cases h), fun n n' b b' h => (by rw [look_nil] at h; cases h),
    fun _ _ _ _ => rfl, _, rfl, rfl, rfl⟩
end Go.Proofs.YtedjnaggkakphaaGreatDoor.Dx

/- Times in the code and in the reference (chapter 05 on: without courses). -/
namespace Go.Proofs.YtedjnaggkakphaaGreatDoor.Dx
open Go Go.RowKit Go.Proofs
set_option linter.all false
set_option maxRecDepth 100000
set_option maxHeartbeats 16000000

def inR (lo hi n : Int) : Bool := decide (lo ≤ n) && decide (n ≤ hi)

/-! times -/
def twoT (n : Int) : List UInt8 := (Lib.itoa (100 + n)).drop 1
def clockT (s : Int) : List UInt8 := if s ≥ 3600 then Lib.itoa (s / 3600) ++ [58] ++ twoT (s / 60 % 60) ++ [58] ++ twoT (s % 60) else Lib.itoa (s / 60) ++ [58] ++ twoT (s % 60)
def fracT (u : Int) : List UInt8 := if u > 0 then [46] ++ Lib.trimRightB ((Lib.itoa (1000000 + u)).drop 1) 48 else []
def absT (n : Int) : List UInt8 := clockT (n / 1000000) ++ fracT (n % 1000000)
def timeT (t : Int) : List UInt8 := if t < 0 then [45] ++ absT (-t) else absT t
def inTime (t : Int) : Bool := inR (-1099511627776) 1099511627776 t
def timeS (t : Int) : List UInt8 := if inTime t then timeT t else []
def timeE (t : Int) : Int := if inTime t then 0 else 1

theorem Ks {a b : List UInt8} {E : Prop} (e : E) (h : a.length + b.length ≤ 9223372036854775807 := by ((try simp only [List.length_append, List.length_cons, List.length_nil]); omega)) : (a.length ≤ maxLen → b.length ≤ maxLen → a.length + b.length ≤ maxLen) ∧ E := ⟨fun _ _ => (by unfold maxLen; exact h), e⟩

/-- division and remainder; a piece of a string -/
theorem Kq {H1 H2 : Prop} {a b : Int} {E : Prop} (e : E) (h : H1 → H2 → 0 ≤ a ∧ 1 ≤ b := by (intro h1 h2; have := h1.1; have := h1.2; omega)) : (H1 → H2 → 0 ≤ a ∧ 1 ≤ b) ∧ E := ⟨h, e⟩
theorem Kt {n : Nat} {i j : Int} {E : Prop} (e : E) (h : n ≤ maxLen → 0 ≤ i ∧ i ≤ j ∧ j ≤ (n : Int) := by (intro _; (try simp only [List.length_cons, List.length_nil]); omega)) : (n ≤ maxLen → 0 ≤ i ∧ i ≤ j ∧ j ≤ (n : Int)) ∧ E := ⟨h, e⟩

theorem itoa_le (n : Int) (h0 : -9223372036854775808 ≤ n) (h1 : n ≤ 9223372036854775807) : (Lib.itoa n).length ≤ 21 := Lib.itoa_length_le n h0 h1
theorem itoa_pos (n : Int) : 1 ≤ (Lib.itoa n).length := by
  unfold Lib.itoa
  split
  · simp
  · rw [Lib.decDigits_length]; exact Lib.nDigits_pos _
theorem twoT_le (n : Int) (h0 : 0 ≤ n) (h1 : n ≤ 9223372036854775700) : (twoT n).length ≤ 20 := by
  have := itoa_le (100 + n) (by omega) (by omega)
  simp only [twoT, List.length_drop]; omega
theorem trimRightB_le (l : List UInt8) (c : UInt8) : (Lib.trimRightB l c).length ≤ l.length := by
  have := (List.dropWhile_sublist (fun b => b == c) (l := l.reverse)).length_le
  simpa [Lib.trimRightB] using this

theorem two_meets (n : Int) (h0 : 0 ≤ n) (h1 : n ≤ 9223372036854775700) : Meets Tryz.prog 55 [iD n] fun d => d = .str (twoT n) := by
  refine enter tok {} Tryz.func55 rfl (by kernel_rfl) Tryz.ntmps55 (by simp) fun B0 W0 V0 lent g0 => ?_
  ((conv => whnf); repeat' (refine vcC_go tok {} rfl ?_; conv => whnf))
  refine ⟨fun _ _ => i64 (by omega) (by omega), ?_⟩
  ((conv => whnf); repeat' (refine vcC_go tok {} rfl ?_; conv => whnf))
  refine Meets.k (Itoa_meets (100 + n)) ?_
  ((conv => whnf); repeat' (refine vcC_go tok {} rfl ?_; conv => whnf))
  have := itoa_pos (100 + n)
  refine ⟨fun _ => ⟨by omega, by omega, by omega⟩, ?_⟩
  ((conv => whnf); repeat' (refine vcC_go tok {} rfl ?_; conv => whnf))
  refine ⟨?_⟩
  simp [twoT]

theorem TrimRight_meets (s : List UInt8) (hs : s.length ≤ 140737488355328) : Meets Tryz.prog 57 [.str s, .str [48]] fun d => d = .str (Lib.trimRightB s 48) := by
  refine Meets.still ⟨Tryz.f57, _, Tryz.func57, rfl, by kernel_rfl⟩ fun V W xs hS hx => ?_
  obtain ⟨u, w, rfl, h1, h2⟩ := hx.two
  obtain ⟨rfl, _⟩ := h1.str_inv
  obtain ⟨rfl, _⟩ := h2.str_inv
  refine (Tryz.strings_TrimRight_one ⟨⟨s⟩⟩ 48 (by decide) W (by show s.length ≤ _; omega)).mono ?_
  rintro e W' ⟨rfl, rfl⟩
  refine ⟨_, rfl, rfl, .str _ ?_⟩
  have h : (Lib.trimRightB s 48).length ≤ s.length := trimRightB_le s 48
  show (Lib.trimRightB s 48).length ≤ maxLen
  unfold maxLen; omega

theorem dig_eq {k : Nat} (h : k < 10) : (([48, 49, 50, 51, 52, 53, 54, 55, 56, 57] : List UInt8).take (k + 1)).drop k = [UInt8.ofNat (48 + k)] := by
  have : ∀ k : Fin 10, (([48, 49, 50, 51, 52, 53, 54, 55, 56, 57] : List UInt8).take (k.1 + 1)).drop k.1 = [UInt8.ofNat (48 + k.1)] := by decide
  exact this ⟨k, h⟩
theorem itoa_small {n : Int} (h0 : 0 ≤ n) (h : n < 10) : Lib.itoa n = [UInt8.ofNat (48 + n.toNat)] := by
  rw [Lib.itoa, if_neg (by omega), Lib.decDigits, dif_pos (by omega)]
theorem itoa_big {n : Int} (h : ¬ n < 10) : Lib.itoa n = Lib.itoa (n / 10) ++ [UInt8.ofNat (48 + (n % 10).toNat)] := by
  rw [Lib.itoa, if_neg (by omega), Lib.decDigits, dif_neg (by omega), Lib.itoa, if_neg (by omega), show (n / 10).toNat = n.toNat / 10 by omega, show (n % 10).toNat = n.toNat % 10 by omega]

theorem timeS_eq {t : Int} (h1 : ¬ t > 1099511627776) (h2 : ¬ t < -1099511627776) : timeS t = (if t < 0 then [45] else []) ++ (clockT (max t (-t) / 1000000) ++ fracT (max t (-t) % 1000000)) := by
  have : inTime t = true := by simp only [inTime, inR, Bool.and_eq_true, decide_eq_true_eq]; omega
  rw [timeS, if_pos this, timeT]
  by_cases h : t < 0
  · rw [if_pos h, if_pos h, absT, show max t (-t) = -t by omega]
  · rw [if_neg h, if_neg h, absT, show max t (-t) = t by omega]; rfl
theorem timeE_eq {t : Int} (h1 : ¬ t > 1099511627776) (h2 : ¬ t < -1099511627776) : timeE t = 0 := by
  have : inTime t = true := by simp only [inTime, inR, Bool.and_eq_true, decide_eq_true_eq]; omega
  rw [timeE, if_pos this]
theorem timeS_out {t : Int} (h : t > 1099511627776 ∨ t < -1099511627776) : timeS t = [] ∧ timeE t = 1 := by
  have : inTime t = false := by simp only [inTime, inR, Bool.and_eq_false_iff, decide_eq_false_iff_not]; omega
  rw [timeE, timeS, this]; exact ⟨rfl, rfl⟩

theorem TimeText_meets (t : Int) : Meets Tryz.prog 24 [iD t] fun d => d = .tup [.str (timeS t), iD (timeE t)] := by
  refine enter tok {} Tryz.func24 rfl (by kernel_rfl) Tryz.ntmps24 (by simp) fun B0 W0 V0 lent g0 => ?_
  ((conv => whnf); repeat' (refine vcC_go tok {} rfl ?_; conv => whnf))
  repeat' ((first | (intro hlq; (try simp only [List.length_map, maxLen] at hlq)) | refine Ks ?_ | refine Kq ?_ | refine Kt ?_ | ((refine ⟨fun (hb : _ = true) => ?_, fun (hb : _ = false) => ?_⟩) <;> (try simp only [BB, List.length_map] at hb)) | refine Ka ?_ | refine Kb ?_ | refine Kc (hd := rfl) (e := ?_) | refine Kc (hd := icells_eq _) (e := ?_) | refine Kd (e := ?_) | refine ⟨(rfl : look _ _ = look _ _), ?_⟩ | fail) <;> ((conv => whnf); repeat' (refine vcC_go tok {} rfl ?_; conv => whnf)))
  · refine ⟨?_⟩
    rw [(timeS_out (.inl (by assumption))).1, (timeS_out (.inl (by assumption))).2]
  · refine ⟨?_⟩
    rw [(timeS_out (.inr (by assumption))).1, (timeS_out (.inr (by assumption))).2]
  have hm : 0 ≤ max t (-t) ∧ max t (-t) ≤ 1099511627776 := by omega
  have f1 := itoa_le (max t (-t) / 1000000 / 60) (by omega) (by omega)
  have f2 := itoa_le (max t (-t) / 1000000 / 3600) (by omega) (by omega)
  have f3 := twoT_le (max t (-t) / 1000000 % 60) (by omega) (by omega)
  have f4 := twoT_le (max t (-t) / 1000000 / 60 % 60) (by omega) (by omega)
  have f5 := itoa_le (1000000 + max t (-t) % 1000000) (by omega) (by omega)
  have f6 := itoa_pos (1000000 + max t (-t) % 1000000)
  have e7 : List.drop (Int.toNat 1) (List.take ((Lib.itoa (1000000 + max t (-t) % 1000000)).length : Int).toNat (Lib.itoa (1000000 + max t (-t) % 1000000))) = (Lib.itoa (1000000 + max t (-t) % 1000000)).drop 1 := by simp
  have f7 : (Lib.trimRightB (List.drop (Int.toNat 1) (List.take ((Lib.itoa (1000000 + max t (-t) % 1000000)).length : Int).toNat (Lib.itoa (1000000 + max t (-t) % 1000000)))) 48).length ≤ 21 := by
    have := trimRightB_le (List.drop 1 (Lib.itoa (1000000 + max t (-t) % 1000000))) 48
    rw [e7]; simp only [List.length_drop] at this; omega
  refine ⟨fun _ => i64 (by omega) (by omega), ?_⟩
  ((conv => whnf); repeat' (refine vcC_go tok {} rfl ?_; conv => whnf))
  repeat' ((first | (intro hlq; (try simp only [List.length_map, maxLen] at hlq)) | refine Meets.k (Itoa_meets _) ?_ | refine Meets.k (two_meets _ (by omega) (by omega)) ?_ | refine Meets.k (TrimRight_meets _ (by simp; omega)) ?_ | refine Ks ?_ | refine Kq ?_ | refine Kt ?_ | ((refine ⟨fun (hb : _ = true) => ?_, fun (hb : _ = false) => ?_⟩) <;> (try simp only [BB, List.length_map] at hb)) | refine Ka ?_ | refine Kb ?_ | refine Kc (hd := rfl) (e := ?_) | refine Kc (hd := icells_eq _) (e := ?_) | refine Kd (e := ?_) | refine ⟨(rfl : look _ _ = look _ _), ?_⟩ | fail) <;> ((conv => whnf); repeat' (refine vcC_go tok {} rfl ?_; conv => whnf)))
  all_goals
    refine ⟨?_⟩
    rw [timeS_eq (by assumption) (by assumption), timeE_eq (by assumption) (by assumption), clockT, fracT]
    simp [*]
theorem decimal_meets (n : Int) (h0 : 0 ≤ n) (hn : n ≤ 9223372036854775807) : Meets Tryz.prog 58 [iD n] fun d => d = .str (Lib.itoa n) := by
  have hd := dig_eq (k := (n % 10).toNat) (by omega)
  have e1 : (n % 10 + 1).toNat = (n % 10).toNat + 1 := by omega
  refine enter tok {} Tryz.func58 rfl (by kernel_rfl) Tryz.ntmps58 (by simp) fun B0 W0 V0 lent g0 => ?_
  ((conv => whnf); repeat' (refine vcC_go tok {} rfl ?_; conv => whnf))
  repeat' ((first | (intro hlq; (try simp only [List.length_map, maxLen] at hlq)) | refine Ks ?_ | refine Kq ?_ | refine Kt ?_ | refine Ka ?_ | refine Kb ?_ | refine Kc (hd := rfl) (e := ?_) | refine Kc (hd := icells_eq _) (e := ?_) | refine Kd (e := ?_) | refine ⟨(rfl : look _ _ = look _ _), ?_⟩ | fail) <;> ((conv => whnf); repeat' (refine vcC_go tok {} rfl ?_; conv => whnf)))
  refine ⟨fun h2 => ?_, fun h2 => ?_⟩ <;> (try simp only [BB, List.length_map] at h2) <;> ((conv => whnf); repeat' (refine vcC_go tok {} rfl ?_; conv => whnf))
  · refine ⟨congrArg D.str ?_⟩
    rw [e1, itoa_small h0 h2, show n.toNat = (n % 10).toNat by omega]
    exact hd
  · repeat' ((first | (intro hlq; (try simp only [List.length_map, maxLen] at hlq)) | refine Ks ?_ | refine Kq ?_ | refine Kt ?_ | refine Ka ?_ | refine Kb ?_ | refine Kc (hd := rfl) (e := ?_) | refine Kc (hd := icells_eq _) (e := ?_) | refine Kd (e := ?_) | refine ⟨(rfl : look _ _ = look _ _), ?_⟩ | fail) <;> ((conv => whnf); repeat' (refine vcC_go tok {} rfl ?_; conv => whnf)))
    have hlt : (n / 10).toNat < n.toNat := by omega
    refine Meets.k (decimal_meets (n / 10) (by omega) (by omega)) ?_
    have := itoa_le (n / 10) (by omega) (by omega)
    ((conv => whnf); repeat' (refine vcC_go tok {} rfl ?_; conv => whnf))
    refine Ks ?_ ?_
    rotate_left
    · have h3 := congrArg List.length hd
      rw [← e1] at h3
      exact Nat.le_trans (Nat.add_le_add this (Nat.le_of_eq h3)) (by simp)
    ((conv => whnf); repeat' (refine vcC_go tok {} rfl ?_; conv => whnf))
    refine ⟨congrArg D.str ?_⟩
    rw [itoa_big h2, e1]
    exact congrArg _ hd
termination_by n.toNat
decreasing_by exact hlt

theorem twoT_eq {n : Int} (h0 : 0 ≤ n) (h1 : n < 100) : twoT n = Lib.itoa (n / 10) ++ Lib.itoa (n % 10) := by
  rw [twoT, itoa_big (by omega : ¬ 100 + n < 10), itoa_big (by omega : ¬ (100 + n) / 10 < 10), itoa_small (by omega : (0 : Int) ≤ (100 + n) / 10 / 10) (by omega), itoa_small (by omega : 0 ≤ n / 10) (by omega), itoa_small (by omega : 0 ≤ n % 10) (by omega),
    show ((100 + n) / 10 % 10).toNat = (n / 10).toNat by omega, show ((100 + n) % 10).toNat = (n % 10).toNat by omega]
  rfl
theorem rtwo_meets (n : Int) (h0 : 0 ≤ n) (h1 : n < 100) : Meets Tryz.prog 59 [iD n] fun d => d = .str (twoT n) := by
  have f1 := itoa_le (n / 10) (by omega) (by omega)
  have f2 := itoa_le (n % 10) (by omega) (by omega)
  rw [twoT_eq h0 h1]
  refine enter tok {} Tryz.func59 rfl (by kernel_rfl) Tryz.ntmps59 (by simp) fun B0 W0 V0 lent g0 => ?_
  ((conv => whnf); repeat' (refine vcC_go tok {} rfl ?_; conv => whnf))
  repeat' ((first | (intro hlq; (try simp only [List.length_map, maxLen] at hlq)) | refine Meets.k (decimal_meets _ (by omega) (by omega)) ?_ | refine Ks ?_ | refine Kq ?_ | refine Kt ?_ | ((refine ⟨fun (hb : _ = true) => ?_, fun (hb : _ = false) => ?_⟩) <;> (try simp only [BB, List.length_map] at hb)) | refine Ka ?_ | refine Kb ?_ | refine Kc (hd := rfl) (e := ?_) | refine Kc (hd := icells_eq _) (e := ?_) | refine Kd (e := ?_) | refine ⟨(rfl : look _ _ = look _ _), ?_⟩ | fail) <;> ((conv => whnf); repeat' (refine vcC_go tok {} rfl ?_; conv => whnf)))
  exact ⟨rfl⟩

theorem six_eq {u : Int} (h0 : 0 ≤ u) (h1 : u < 1000000) : (Lib.itoa (1000000 + u)).drop 1 =
    [UInt8.ofNat (48 + (u / 100000 % 10).toNat), UInt8.ofNat (48 + (u / 10000 % 10).toNat), UInt8.ofNat (48 + (u / 1000 % 10).toNat), UInt8.ofNat (48 + (u / 100 % 10).toNat), UInt8.ofNat (48 + (u / 10 % 10).toNat), UInt8.ofNat (48 + (u % 10).toNat)] := by
  rw [itoa_big (by omega : ¬ 1000000 + u < 10), itoa_big (by omega : ¬ (1000000 + u) / 10 < 10), itoa_big (by omega : ¬ (1000000 + u) / 10 / 10 < 10), itoa_big (by omega : ¬ (1000000 + u) / 10 / 10 / 10 < 10),
    itoa_big (by omega : ¬ (1000000 + u) / 10 / 10 / 10 / 10 < 10), itoa_big (by omega : ¬ (1000000 + u) / 10 / 10 / 10 / 10 / 10 < 10), itoa_small (by omega : (0 : Int) ≤ (1000000 + u) / 10 / 10 / 10 / 10 / 10 / 10) (by omega),
    show ((1000000 + u) / 10 / 10 / 10 / 10 / 10 % 10).toNat = (u / 100000 % 10).toNat by omega, show ((1000000 + u) / 10 / 10 / 10 / 10 % 10).toNat = (u / 10000 % 10).toNat by omega, show ((1000000 + u) / 10 / 10 / 10 % 10).toNat = (u / 1000 % 10).toNat by omega,
    show ((1000000 + u) / 10 / 10 % 10).toNat = (u / 100 % 10).toNat by omega, show ((1000000 + u) / 10 % 10).toNat = (u / 10 % 10).toNat by omega, show ((1000000 + u) % 10).toNat = (u % 10).toNat by omega]
  rfl
theorem ofNat_48 {k : Nat} (hk : k < 10) (h : UInt8.ofNat (48 + k) = 48) : k = 0 := by
  have := congrArg UInt8.toNat h
  simp at this
  omega
theorem trim_snoc (l : List UInt8) (c : UInt8) : Lib.trimRightB (l ++ [c]) 48 = if c = 48 then Lib.trimRightB l 48 else l ++ [c] := by
  simp only [Lib.trimRightB, List.reverse_append, List.reverse_cons, List.reverse_nil, List.nil_append, List.singleton_append, List.dropWhile_cons, beq_iff_eq]
  split <;> simp
theorem dw_nil {p : UInt8 → Bool} : ∀ {l : List UInt8}, l.dropWhile p = [] → ∀ x ∈ l, p x = true
  | [], _, x, hx => by cases hx
  | y :: l, h, x, hx => by
    rw [List.dropWhile_cons] at h
    split at h
    · rcases List.mem_cons.1 hx with rfl | hx
      · assumption
      · exact dw_nil h x hx
    · cases h
theorem trim_nil {l : List UInt8} (h : Lib.trimRightB l 48 = []) : ∀ x ∈ l, x = 48 := by
  have h : List.dropWhile (fun b => b == 48) l.reverse = [] := by simpa [Lib.trimRightB] using h
  intro x hx
  have := dw_nil h x (by simpa using hx)
  simpa using this
theorem six_trim {u : Int} (h0 : 0 < u) (h1 : u < 1000000) : Lib.trimRightB ((Lib.itoa (1000000 + u)).drop 1) 48 ≠ [] := by
  intro h
  have h := trim_nil h
  rw [six_eq (by omega) h1] at h
  simp only [List.mem_cons, List.not_mem_nil, or_false, forall_eq_or_imp, forall_eq] at h
  obtain ⟨a, b, c, d, e, f⟩ := h
  have := ofNat_48 (by omega) a
  have := ofNat_48 (by omega) b
  have := ofNat_48 (by omega) c
  have := ofNat_48 (by omega) d
  have := ofNat_48 (by omega) e
  have := ofNat_48 (by omega) f
  omega

theorem timeS_le (t : Int) : (timeS t).length ≤ 100 := by
  unfold timeS
  split
  · rename_i h
    simp only [inTime, inR, Bool.and_eq_true, decide_eq_true_eq] at h
    have key : ∀ n : Int, 0 ≤ n → n ≤ 1099511627776 → (absT n).length ≤ 90 := by
      intro n h0 h1
      have f1 := itoa_le (n / 1000000 / 60) (by omega) (by omega)
      have f2 := itoa_le (n / 1000000 / 3600) (by omega) (by omega)
      have f3 := twoT_le (n / 1000000 % 60) (by omega) (by omega)
      have f4 := twoT_le (n / 1000000 / 60 % 60) (by omega) (by omega)
      have f5 := itoa_le (1000000 + n % 1000000) (by omega) (by omega)
      have f7 := trimRightB_le (List.drop 1 (Lib.itoa (1000000 + n % 1000000))) 48
      simp only [List.length_drop] at f7
      unfold absT clockT fracT
      split <;> split <;> simp only [List.length_append, List.length_cons, List.length_nil] <;> omega
    unfold timeT
    split
    · have := key (-t) (by omega) (by omega)
      simp only [List.length_append, List.length_cons, List.length_nil]; omega
    · have := key t (by omega) (by omega)
      omega
  · simp

theorem rTimeText_meets (t : Int) : Meets Tryz.prog 25 [iD t] fun d => d = .tup [.str (timeS t), iD (timeE t)] := by
  refine enter tok {} Tryz.func25 rfl (by kernel_rfl) Tryz.ntmps25 (by simp) fun B0 W0 V0 lent g0 => ?_
  ((conv => whnf); repeat' (refine vcC_go tok {} rfl ?_; conv => whnf))
  repeat' ((first | (intro hlq; (try simp only [List.length_map, maxLen] at hlq)) | refine Ks ?_ | refine Kq ?_ | refine Kt ?_ | ((refine ⟨fun (hb : _ = true) => ?_, fun (hb : _ = false) => ?_⟩) <;> (try simp only [BB, List.length_map] at hb)) | refine Ka ?_ | refine Kb ?_ | refine Kc (hd := rfl) (e := ?_) | refine Kc (hd := icells_eq _) (e := ?_) | refine Kd (e := ?_) | refine ⟨(rfl : look _ _ = look _ _), ?_⟩ | fail) <;> ((conv => whnf); repeat' (refine vcC_go tok {} rfl ?_; conv => whnf)))
  · refine ⟨?_⟩
    rw [(timeS_out (.inl (by assumption))).1, (timeS_out (.inl (by assumption))).2]
  · refine ⟨?_⟩
    rw [(timeS_out (.inr (by assumption))).1, (timeS_out (.inr (by assumption))).2]
  · refine ⟨fun _ => i64 (by omega) (by omega), ?_⟩
    ((conv => whnf); repeat' (refine vcC_go tok {} rfl ?_; conv => whnf))
    have hlt : (if -t < 0 then 1 else 0 : Nat) < (if t < 0 then 1 else 0 : Nat) := by rw [if_neg (by omega), if_pos (by omega)]; omega
    refine Meets.k (rTimeText_meets (-t)) ?_
    ((conv => whnf); repeat' (refine vcC_go tok {} rfl ?_; conv => whnf))
    have := timeS_le (-t)
    repeat' ((first | (intro hlq; (try simp only [List.length_map, maxLen] at hlq)) | refine Ks ?_ | refine Kq ?_ | refine Kt ?_ | refine Ka ?_ | refine Kb ?_ | refine Kc (hd := rfl) (e := ?_) | refine Kc (hd := icells_eq _) (e := ?_) | refine Kd (e := ?_) | refine ⟨(rfl : look _ _ = look _ _), ?_⟩ | fail) <;> ((conv => whnf); repeat' (refine vcC_go tok {} rfl ?_; conv => whnf)))
    refine ⟨?_⟩
    rw [timeS_eq (by assumption) (by assumption), timeE_eq (by assumption) (by assumption), timeS_eq (by omega) (by omega), timeE_eq (by omega) (by omega), if_neg (by omega : ¬ -t < 0), if_pos (by assumption), show max (-t) (- -t) = max t (-t) by omega]
    rfl
  have e0 : max t (-t) = t := by omega
  have f1 := itoa_le (t / 1000000 / 60) (by omega) (by omega)
  have f2 := itoa_le (t / 1000000 / 3600) (by omega) (by omega)
  have f3 := twoT_le (t / 1000000 % 60) (by omega) (by omega)
  have f4 := twoT_le (t / 1000000 / 60 % 60) (by omega) (by omega)
  have f5 := itoa_le (1000000 + t % 1000000) (by omega) (by omega)
  have f6 := itoa_pos (1000000 + t % 1000000)
  repeat' ((first | (intro hlq; (try simp only [List.length_map, maxLen] at hlq)) | refine Meets.k (decimal_meets _ (by omega) (by omega)) ?_ | refine Meets.k (rtwo_meets _ (by omega) (by omega)) ?_ | refine Ks ?_ | refine Kq ?_ | refine Kt ?_ | ((refine ⟨fun (hb : _ = true) => ?_, fun (hb : _ = false) => ?_⟩) <;> (try simp only [BB, List.length_map] at hb)) | refine Ka ?_ | refine Kb ?_ | refine Kc (hd := rfl) (e := ?_) | refine Kc (hd := icells_eq _) (e := ?_) | refine Kd (e := ?_) | refine ⟨(rfl : look _ _ = look _ _), ?_⟩ | fail) <;> ((conv => whnf); repeat' (refine vcC_go tok {} rfl ?_; conv => whnf)))
  all_goals try
    refine ⟨?_⟩
    rw [timeS_eq (by assumption) (by assumption), timeE_eq (by assumption) (by assumption), e0, clockT, fracT]
    simp [*]
    done
  all_goals
    have hne := six_trim (u := t % 1000000) (by omega) (by omega)
    have e7 : List.drop (Int.toNat 1) (List.take ((Lib.itoa (1000000 + t % 1000000)).length : Int).toNat (Lib.itoa (1000000 + t % 1000000))) = (Lib.itoa (1000000 + t % 1000000)).drop 1 := by simp
    have f8 : ((Lib.itoa (1000000 + t % 1000000)).drop 1).length ≤ 20 := by rw [List.length_drop]; omega
    refine loop_upd tok {} [] (X := List UInt8) (fun s => [(9, .d (.str s))]) (fun _ => []) [] (fun s => Lib.trimRightB s 48 = Lib.trimRightB ((Lib.itoa (1000000 + t % 1000000)).drop 1) 48 ∧ s.length ≤ 20) (fun s => s.length) ((Lib.itoa (1000000 + t % 1000000)).drop 1) ?_
    ((conv => whnf); repeat' (refine vcC_go tok {} rfl ?_; conv => whnf))
    refine And.intro ?_ ⟨⟨rfl, f8⟩, fun s hΦ => ?_⟩
    · rw [← e7]
      repeat' (first | exact True.intro | exact rfl | refine And.intro ?_ ?_)
    obtain ⟨hs, hsl⟩ := hΦ
    rcases List.eq_nil_or_concat s with rfl | ⟨s, c, rfl⟩
    · exact absurd hs.symm hne
    rw [List.concat_eq_append] at hs hsl ⊢
    rw [trim_snoc] at hs
    rw [List.length_append, List.length_cons, List.length_nil] at hsl
    ((conv => whnf); repeat' (refine vcC_go tok {} rfl ?_; conv => whnf))
    repeat' ((first | (intro hlq; (try simp only [List.length_map, maxLen] at hlq)) | refine Ks ?_ | refine Kq ?_ | refine Kt ?_ | refine Ka ?_ | refine Kb ?_ | refine Kc (hd := rfl) (e := ?_) | refine Kc (hd := icells_eq _) (e := ?_) | refine Kd (e := ?_) | refine ⟨(rfl : look _ _ = look _ _), ?_⟩ | fail) <;> ((conv => whnf); repeat' (refine vcC_go tok {} rfl ?_; conv => whnf)))
    refine ⟨c, ⟨by simp only [List.length_append, List.length_cons, List.length_nil]; omega, by simp⟩, ?_⟩
    ((conv => whnf); repeat' (refine vcC_go tok {} rfl ?_; conv => whnf))
    refine ⟨fun h1 => ?_, fun h1 => ?_⟩ <;> (try simp only [BB, List.length_map] at h1) <;> ((conv => whnf); repeat' (refine vcC_go tok {} rfl ?_; conv => whnf))
    · obtain rfl : c = 48 := UInt8.toNat_inj.1 (by have : (48 : UInt8).toNat = 48 := rfl; omega)
      rw [if_pos rfl] at hs
      repeat' ((first | (intro hlq; (try simp only [List.length_map, maxLen] at hlq)) | refine Ks ?_ | refine Kq ?_ | refine Kt ?_ | refine Ka ?_ | refine Kb ?_ | refine Kc (hd := rfl) (e := ?_) | refine Kc (hd := icells_eq _) (e := ?_) | refine Kd (e := ?_) | refine ⟨(rfl : look _ _ = look _ _), ?_⟩ | fail) <;> ((conv => whnf); repeat' (refine vcC_go tok {} rfl ?_; conv => whnf)))
      refine ⟨fun _ => by simp only [List.length_append, List.length_cons, List.length_nil]; omega, ?_⟩
      ((conv => whnf); repeat' (refine vcC_go tok {} rfl ?_; conv => whnf))
      have e9 : (((s ++ [48]).length : Int) - 1).toNat = s.length := by simp
      refine ⟨⟨s, ?_, ⟨hs, by omega⟩, by simp⟩⟩
      repeat' (first | exact True.intro | exact rfl | refine And.intro ?_ ?_ | (refine congrArg D.str ?_; simp [e9, List.append_assoc]; done))
    · rw [if_neg (by rintro rfl; exact h1 rfl)] at hs
      repeat' ((first | (intro hlq; (try simp only [List.length_map, maxLen] at hlq)) | refine Ks ?_ | refine Kq ?_ | refine Kt ?_ | ((refine ⟨fun (hb : _ = true) => ?_, fun (hb : _ = false) => ?_⟩) <;> (try simp only [BB, List.length_map] at hb)) | refine Ka ?_ | refine Kb ?_ | refine Kc (hd := rfl) (e := ?_) | refine Kc (hd := icells_eq _) (e := ?_) | refine Kd (e := ?_) | refine ⟨(rfl : look _ _ = look _ _), ?_⟩ | fail) <;> ((conv => whnf); repeat' (refine vcC_go tok {} rfl ?_; conv => whnf)))
      refine ⟨?_⟩
      rw [timeS_eq (by assumption) (by assumption), timeE_eq (by assumption) (by assumption), e0, clockT, fracT, ← hs]
      simp [*]
      try omega
termination_by (if t < 0 then 1 else 0 : Nat)
decreasing_by exact hlt
end Go.Proofs.YtedjnaggkakphaaGreatDoor.Dx

