/- strconv.Itoa by the shelf's contract. -/
import Derived.Test.YtedjnaggkakphaaGreatDoorDj
import Derived.Test.YtedjnaggkakphaaGreatDoorDz
import Derived.Lib.ItoaLen
import Derived.Test.YtedjnaggkakphaaGreatDoorDl
import Derived.Lib.TrimByte
set_option linter.all false
namespace Go.Proofs.YtedjnaggkakphaaGreatDoor.Dx
open Go Go.RowKit Go.Proofs Go.Sort
set_option maxRecDepth 100000
set_option maxHeartbeats 4000000
variable {γ : Gm} {V : Know} {W : World}
theorem tab_pow10 (hs : Sees V W) : Lib.TabIs Tryz.prog W "internal/strconv.uint64pow10" .u64 Lib.pow10Tab := by
 obtain ⟨e, he⟩ := hs.row
 have hg : Tryz.prog.globalNamed "internal/strconv.uint64pow10" = some gPow10 := by kernel_rfl
 unfold World.shape? at he
 split at he
 case h_2 => cases he
 rename_i cs e' fz hh
 simp only [Option.some.injEq, Prod.mk.injEq] at he
 unfold Lib.TabIs World.var?
 rw [hg]
 simp only [Option.bind_some, hh, Option.some.injEq]
 apply Array.ext_getElem?
 intro j
 have hp : Lib.pow10Tab = [1, 10, 100, 1000, 10000, 100000, 1000000, 10000000, 100000000, 1000000000, 10000000000, 100000000000, 1000000000000, 10000000000000, 100000000000000, 1000000000000000, 10000000000000000, 100000000000000000, 1000000000000000000, 10000000000000000000] := by decide
 rcases Nat.lt_or_ge j 20 with hj | hj
 · obtain ⟨z, hz⟩ : ∃ z, Lib.pow10Tab[j]? = some z := ⟨_, List.getElem?_eq_getElem (by rw [Lib.pow10Tab_length]; exact hj)⟩
   have h2 := hs.cell gPow10 j _ (hs.lib.2 j z (by rw [← hp]; exact hz))
   simp only [World.cell?, hh] at h2
   have h2 : cs[j]? = some (Value.int IntKind.u64 z) := h2
   rw [h2]
   simp [hz]
 · rw [Array.getElem?_eq_none (by omega)]
   simp [Lib.pow10Tab_length, hj]
theorem Sees.below (h : Sees V W) {W' : World} (hb : Below W.heap.size W W') : Sees V W' := by
 refine ⟨fun b o v hc => ?_, fun r x hx => ?_, h.lib, h.keepRow fun b o v hc => hb.block b (h.lt hc)⟩
 · exact (hb.cell (p := ⟨b, o, none⟩) (h.lt hc)).trans (h.cell b o v hc)
 · obtain ⟨h1, h2⟩ := h.obj r x hx
   exact ⟨(hb.block r (heap_lt h1)).trans h1, h2⟩
theorem below_gr (w : World) (k : Nat) (os : Array Obj) : Below w.heap.size w (grow (w.drewN k) os) :=
 ⟨rfl, rfl, rfl, by simp [grow], fun j hj => by simp only [grow]; exact Array.getElem?_append_left hj⟩
theorem Itoa_meets (n : Int) : Meets Tryz.prog 56 [.v (.int .i64 n)] fun d => d = .str (Lib.itoa n) := by
 refine ⟨⟨⟨_, _, Tryz.func56, rfl, by kernel_rfl⟩, fun γ V W xs hs hv ho hi => ?_⟩⟩
 obtain ⟨x, xs', rfl, hx, hv'⟩ := hv.cons_l
 obtain rfl := hv'.nil_l
 obtain ⟨rfl, hn⟩ := Rep.int_inv hx
 refine (Tryz.strconv_Itoa n hn.1 hn.2 W (tab_pow10 hs)).mono ?_
 rintro e W' ⟨rfl, k, os, rfl⟩
 have hb := below_gr W k os
 have hl : (Lib.itoa n).length ≤ maxLen := by have := Lib.itoa_length_le n hn.1 hn.2; unfold maxLen; omega
 exact ⟨γ, V, .ret (.d (.str (Lib.itoa n))), [], Rep.str _ hl, .of hb, .refl _ _ _, hs.below hb, fun n b h => (by rw [look_nil] at h; cases h), fun n b h => (by rw [look_nil] at h; cases h), fun n n' b b' h => (by rw [look_nil] at h; cases h),
  fun _ _ _ _ => rfl, _, rfl, rfl, rfl⟩
end Go.Proofs.YtedjnaggkakphaaGreatDoor.Dx
/- Times in the code and in the reference (chapter 05 on: without courses). -/
namespace Go.Proofs.YtedjnaggkakphaaGreatDoor.Dx
open Go Go.RowKit Go.Proofs
set_option maxRecDepth 100000
set_option maxHeartbeats 16000000
def inR (lo hi n : Int) : Bool := decide (lo ≤ n) && decide (n ≤ hi)
/-! times -/
def twoT (n : Int) : List UInt8 := (Lib.itoa (100 + n)).drop 1
def clockT (s : Int) : List UInt8 := if s ≥ 3600 then Lib.itoa (s / 3600) ++ [58] ++ twoT (s / 60 % 60) ++ [58] ++ twoT (s % 60) else Lib.itoa (s / 60) ++ [58] ++ twoT (s % 60)
def fracT (u : Int) : List UInt8 := if u > 0 then [46] ++ Lib.trimRightB ((Lib.itoa (1000000 + u)).drop 1) 48 else []
def absT (n : Int) : List UInt8 := clockT (n / 1000000) ++ fracT (n % 1000000)
def timeT (t : Int) : List UInt8 := if t < 0 then [45] ++ absT (-t) else absT t
def inTime (t : Int) : Bool := inR (-1099511627776) 1099511627776 t
def timeS (t : Int) : List UInt8 := if inTime t then timeT t else []
def timeE (t : Int) : Int := if inTime t then 0 else 1
theorem Ks {a b : List UInt8} {E : Prop} (e : E) (h : a.length + b.length ≤ 9223372036854775807 := by ((try simp only [List.length_append, List.length_cons, List.length_nil]); omega)) : (a.length ≤ maxLen → b.length ≤ maxLen → a.length + b.length ≤ maxLen) ∧ E := ⟨fun _ _ => (by unfold maxLen; exact h), e⟩
/-- division and remainder; a piece of a string -/
theorem Kq {H1 H2 : Prop} {a b : Int} {E : Prop} (e : E) (h : H1 → H2 → 0 ≤ a ∧ 1 ≤ b := by (intro h1 h2; have := h1.1; have := h1.2; omega)) : (H1 → H2 → 0 ≤ a ∧ 1 ≤ b) ∧ E := ⟨h, e⟩
theorem Kt {n : Nat} {i j : Int} {E : Prop} (e : E) (h : n ≤ maxLen → 0 ≤ i ∧ i ≤ j ∧ j ≤ (n : Int) := by (intro _; (try simp only [List.length_cons, List.length_nil]); omega)) : (n ≤ maxLen → 0 ≤ i ∧ i ≤ j ∧ j ≤ (n : Int)) ∧ E := ⟨h, e⟩
theorem itoa_le (n : Int) (h0 : -9223372036854775808 ≤ n) (h1 : n ≤ 9223372036854775807) : (Lib.itoa n).length ≤ 21 := Lib.itoa_length_le n h0 h1
theorem itoa_pos (n : Int) : 1 ≤ (Lib.itoa n).length := by
 unfold Lib.itoa
 split
 · simp
 · rw [Lib.decDigits_length]; exact Lib.nDigits_pos _
theorem twoT_le (n : Int) (h0 : 0 ≤ n) (h1 : n ≤ 9223372036854775700) : (twoT n).length ≤ 20 := by
 have := itoa_le (100 + n) (by omega) (by omega)
 simp only [twoT, List.length_drop]; omega
theorem trimRightB_le (l : List UInt8) (c : UInt8) : (Lib.trimRightB l c).length ≤ l.length := by
 have := (List.dropWhile_sublist (fun b => b == c) (l := l.reverse)).length_le
 simpa [Lib.trimRightB] using this
theorem two_meets (n : Int) (h0 : 0 ≤ n) (h1 : n ≤ 9223372036854775700) : Meets Tryz.prog 55 [iD n] fun d => d = .str (twoT n) := by
 refine enter tok {} Tryz.func55 rfl (by kernel_rfl) Tryz.ntmps55 (by simp) fun B0 W0 V0 lent g0 => ?_
 ((conv => whnf); repeat' (refine Z rfl ?_; conv => whnf))
 refine ⟨fun _ _ => i64 (by omega) (by omega), ?_⟩
 ((conv => whnf); repeat' (refine Z rfl ?_; conv => whnf))
 refine Meets.k (Itoa_meets (100 + n)) ?_
 ((conv => whnf); repeat' (refine Z rfl ?_; conv => whnf))
 have := itoa_pos (100 + n)
 refine ⟨fun _ => ⟨by omega, by omega, by omega⟩, ?_⟩
 ((conv => whnf); repeat' (refine Z rfl ?_; conv => whnf))
 refine ⟨?_⟩
 simp [twoT]
theorem TrimRight_meets (s : List UInt8) (hs : s.length ≤ 140737488355328) : Meets Tryz.prog 57 [.str s, .str [48]] fun d => d = .str (Lib.trimRightB s 48) := by
 refine Meets.still ⟨Tryz.f57, _, Tryz.func57, rfl, by kernel_rfl⟩ fun V W xs hS hx => ?_
 obtain ⟨u, w, rfl, h1, h2⟩ := hx.two
 obtain ⟨rfl, _⟩ := h1.str_inv
 obtain ⟨rfl, _⟩ := h2.str_inv
 refine (Tryz.strings_TrimRight_one ⟨⟨s⟩⟩ 48 (by decide) W (by show s.length ≤ _; omega)).mono ?_
 rintro e W' ⟨rfl, rfl⟩
 refine ⟨_, rfl, rfl, .str _ ?_⟩
 have h : (Lib.trimRightB s 48).length ≤ s.length := trimRightB_le s 48
 show (Lib.trimRightB s 48).length ≤ maxLen
 unfold maxLen; omega
theorem timeS_eq {t : Int} (h1 : ¬ t > 1099511627776) (h2 : ¬ t < -1099511627776) : timeS t = (if t < 0 then [45] else []) ++ (clockT (max t (-t) / 1000000) ++ fracT (max t (-t) % 1000000)) := by
 have : inTime t = true := by simp only [inTime, inR, Bool.and_eq_true, decide_eq_true_eq]; omega
 rw [timeS, if_pos this, timeT]
 by_cases h : t < 0
 · rw [if_pos h, if_pos h, absT, show max t (-t) = -t by omega]
 · rw [if_neg h, if_neg h, absT, show max t (-t) = t by omega]; rfl
theorem timeE_eq {t : Int} (h1 : ¬ t > 1099511627776) (h2 : ¬ t < -1099511627776) : timeE t = 0 := by
 have : inTime t = true := by simp only [inTime, inR, Bool.and_eq_true, decide_eq_true_eq]; omega
 rw [timeE, if_pos this]
theorem timeS_out {t : Int} (h : t > 1099511627776 ∨ t < -1099511627776) : timeS t = [] ∧ timeE t = 1 := by
 have : inTime t = false := by simp only [inTime, inR, Bool.and_eq_false_iff, decide_eq_false_iff_not]; omega
 rw [timeE, timeS, this]; exact ⟨rfl, rfl⟩
theorem TimeText_meets (t : Int) : Meets Tryz.prog 24 [iD t] fun d => d = .tup [.str (timeS t), iD (timeE t)] := by
 refine enter tok {} Tryz.func24 rfl (by kernel_rfl) Tryz.ntmps24 (by simp) fun B0 W0 V0 lent g0 => ?_
 ((conv => whnf); repeat' (refine Z rfl ?_; conv => whnf))
 repeat' ((first | (intro hlq; (try simp only [SL] at hlq)) | refine Ks ?_ | refine Kq ?_ | refine Kt ?_ | ((refine Kh (fun hb => ?_) fun hb => ?_) <;> (try simp only [BL] at hb)) | refine Ka ?_ | refine Kb ?_ | refine Kc (hd := rfl) (e := ?_) | refine Kc (hd := icells_eq _) (e := ?_) | refine Kd (e := ?_) | refine Kl rfl ?_ | fail) <;> ((conv => whnf); repeat' (refine Z rfl ?_; conv => whnf)))
 · refine ⟨?_⟩
   rw [(timeS_out (.inl (by assumption))).1, (timeS_out (.inl (by assumption))).2]
 · refine ⟨?_⟩
   rw [(timeS_out (.inr (by assumption))).1, (timeS_out (.inr (by assumption))).2]
 have hm : 0 ≤ max t (-t) ∧ max t (-t) ≤ 1099511627776 := by omega
 have f1 := itoa_le (max t (-t) / 1000000 / 60) (by omega) (by omega)
 have f2 := itoa_le (max t (-t) / 1000000 / 3600) (by omega) (by omega)
 have f3 := twoT_le (max t (-t) / 1000000 % 60) (by omega) (by omega)
 have f4 := twoT_le (max t (-t) / 1000000 / 60 % 60) (by omega) (by omega)
 have f5 := itoa_le (1000000 + max t (-t) % 1000000) (by omega) (by omega)
 have f6 := itoa_pos (1000000 + max t (-t) % 1000000)
 have e7 : List.drop (Int.toNat 1) (List.take ((Lib.itoa (1000000 + max t (-t) % 1000000)).length : Int).toNat (Lib.itoa (1000000 + max t (-t) % 1000000))) = (Lib.itoa (1000000 + max t (-t) % 1000000)).drop 1 := by simp
 have f7 : (Lib.trimRightB (List.drop (Int.toNat 1) (List.take ((Lib.itoa (1000000 + max t (-t) % 1000000)).length : Int).toNat (Lib.itoa (1000000 + max t (-t) % 1000000)))) 48).length ≤ 21 := by
  have := trimRightB_le (List.drop 1 (Lib.itoa (1000000 + max t (-t) % 1000000))) 48
  rw [e7]; simp only [List.length_drop] at this; omega
 refine ⟨fun _ => i64 (by omega) (by omega), ?_⟩
 ((conv => whnf); repeat' (refine Z rfl ?_; conv => whnf))
 repeat' ((first | (intro hlq; (try simp only [SL] at hlq)) | refine Meets.k (Itoa_meets _) ?_ | refine Meets.k (two_meets _ (by omega) (by omega)) ?_ | refine Meets.k (TrimRight_meets _ (by simp; omega)) ?_ | refine Ks ?_ | refine Kq ?_ | refine Kt ?_ | ((refine Kh (fun hb => ?_) fun hb => ?_) <;> (try simp only [BL] at hb)) | refine Ka ?_ | refine Kb ?_ | refine Kc (hd := rfl) (e := ?_) | refine Kc (hd := icells_eq _) (e := ?_) | refine Kd (e := ?_) | refine Kl rfl ?_ | fail) <;> ((conv => whnf); repeat' (refine Z rfl ?_; conv => whnf)))
 all_goals
  refine ⟨?_⟩
  rw [timeS_eq (by assumption) (by assumption), timeE_eq (by assumption) (by assumption), clockT, fracT]
  simp [*]
end Go.Proofs.YtedjnaggkakphaaGreatDoor.Dx
