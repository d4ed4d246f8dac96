/- Texts tell apart: words, numbers, times (plain law). -/
import Derived.Test.YteckbkljaneppaaGreatDoorPf
set_option linter.all false
namespace Go.Proofs.YteckbkljaneppaaGreatDoor.Dx
open Go Go.RowKit Go.Proofs
set_option maxRecDepth 100000
set_option maxHeartbeats 4000000
/-! words -/
theorem cut (p : UInt8 → Bool) : ∀ {x y s t : List UInt8}, (∀ b ∈ x, p b = true) → (∀ b ∈ y, p b = true) → (∀ b, s.head? = some b → p b = false) → (∀ b, t.head? = some b → p b = false) → x ++ s = y ++ t → x = y ∧ s = t
 | [], [], s, t, _, _, _, _, h => ⟨rfl, h⟩
 | [], b :: y, s, t, _, hy, hs, _, h => by
   have h : s = b :: (y ++ t) := h
   have := hs b (by rw [h]; rfl)
   rw [hy b (by simp)] at this; cases this
 | b :: x, [], s, t, hx, _, _, ht, h => by
   have h : b :: (x ++ s) = t := h
   have := ht b (by rw [← h]; rfl)
   rw [hx b (by simp)] at this; cases this
 | b :: x, c :: y, s, t, hx, hy, hs, ht, h => by
   simp only [List.cons_append, List.cons.injEq] at h
   obtain ⟨rfl, h⟩ := h
   obtain ⟨h1, h2⟩ := cut p (fun z hz => hx z (List.mem_cons_of_mem _ hz)) (fun z hz => hy z (List.mem_cons_of_mem _ hz)) hs ht h
   exact ⟨by rw [h1], h2⟩
/-- characters of a word, a number or a time -/
def wch (b : UInt8) : Bool := nameCh b || (decide (b = 58) || decide (b = 46))
def Wd (x : List UInt8) : Prop := ∀ b ∈ x, wch b = true
theorem Wd.cut {x y : List UInt8} {d e : UInt8} {s t : List UInt8} (hx : Wd x) (hy : Wd y) (h : x ++ d :: s = y ++ e :: t) (hd : wch d = false := by decide) (he : wch e = false := by decide) : x = y ∧ d = e ∧ s = t := by
 obtain ⟨h1, h2⟩ := Dx.cut wch hx hy (by simpa using hd) (by simpa using he) h
 rw [List.cons.injEq] at h2
 exact ⟨h1, h2.1, h2.2⟩
theorem Wd.nil : Wd [] := by intro b h; cases h
theorem Wd.app {x y : List UInt8} (hx : Wd x) (hy : Wd y) : Wd (x ++ y) := by
 intro b hb
 rcases List.mem_append.1 hb with h | h
 · exact hx b h
 · exact hy b h
theorem Wd.cons {x : List UInt8} {b : UInt8} (h : wch b = true) (hx : Wd x) : Wd (b :: x) := by
 intro c hc
 rcases List.mem_cons.1 hc with rfl | hc
 · exact h
 · exact hx c hc
theorem Wd.name {kw : List UInt8 → Bool} {s : List UInt8} (h : isNm kw s = true) : Wd s := by
 simp only [isNm, Bool.and_eq_true, List.all_eq_true] at h
 intro b hb
 simp only [wch, h.2.2.1 b hb, Bool.true_or]
theorem Wd.sub {x y : List UInt8} (h : ∀ b ∈ x, b ∈ y) (hy : Wd y) : Wd x := fun b hb => hy b (h b hb)
/-! numbers -/
def dch (b : UInt8) : Bool := decide (48 ≤ b.toNat) && decide (b.toNat ≤ 57)
theorem dch_dig {k : Nat} (h : k < 10) : dch (UInt8.ofNat (48 + k)) = true := by
 have : ∀ k : Fin 10, dch (UInt8.ofNat (48 + k.1)) = true := by decide
 exact this ⟨k, h⟩
theorem dch_wch {b : UInt8} (h : dch b = true) : wch b = true := by
 simp only [dch, Bool.and_eq_true, decide_eq_true_eq] at h
 simp only [wch, nameCh, Bool.or_eq_true, Bool.and_eq_true, decide_eq_true_eq]
 omega
def valT (l : List UInt8) : Nat := l.foldl (fun a b => 10 * a + (b.toNat - 48)) 0
theorem dec_dch : ∀ (u : Nat), ∀ b ∈ Lib.decDigits u, dch b = true := by
 intro u
 induction u using Nat.strongRecOn with
 | _ u ih =>
   intro b hb
   by_cases h : u < 10
   · rw [Lib.decDigits_one h] at hb
     rw [List.mem_singleton.1 hb]; exact dch_dig h
   · rw [Lib.decDigits, dif_neg h] at hb
     rcases List.mem_append.1 hb with hb | hb
     · exact ih _ (by omega) b hb
     · rw [List.mem_singleton.1 hb]; exact dch_dig (by omega)
theorem dec_val : ∀ u : Nat, valT (Lib.decDigits u) = u := by
 have hv : ∀ k, k < 10 → (UInt8.ofNat (48 + k)).toNat - 48 = k := by
  have : ∀ k : Fin 10, (UInt8.ofNat (48 + k.1)).toNat - 48 = k.1 := by decide
  intro k h; exact this ⟨k, h⟩
 intro u
 induction u using Nat.strongRecOn with
 | _ u ih =>
   by_cases h : u < 10
   · rw [Lib.decDigits_one h]
     simp only [valT, List.foldl_cons, List.foldl_nil]
     rw [hv u h]; omega
   · have := ih (u / 10) (by omega)
     rw [Lib.decDigits, dif_neg h]
     unfold valT at this ⊢
     rw [List.foldl_append, this]
     simp only [List.foldl_cons, List.foldl_nil]
     rw [hv (u % 10) (by omega)]; omega
theorem itoa_dch {n : Int} (h : 0 ≤ n) : ∀ b ∈ Lib.itoa n, dch b = true := by
 rw [Lib.itoa, if_neg (by omega)]; exact dec_dch _
theorem itoa_inj {n m : Int} (hn : 0 ≤ n) (hm : 0 ≤ m) (h : Lib.itoa n = Lib.itoa m) : n = m := by
 rw [Lib.itoa, Lib.itoa, if_neg (by omega), if_neg (by omega)] at h
 have h2 := congrArg valT h
 rw [dec_val, dec_val] at h2
 omega
theorem Wd.itoa {n : Int} (h : 0 ≤ n) : Wd (Lib.itoa n) := fun b hb => dch_wch (itoa_dch h b hb)
/-! times -/
theorem itoa_cut {n m : Int} (hn : 0 ≤ n) (hm : 0 ≤ m) {d e : UInt8} {s t : List UInt8} (h : Lib.itoa n ++ d :: s = Lib.itoa m ++ e :: t) (hd : dch d = false := by decide) (he : dch e = false := by decide) : n = m ∧ d :: s = e :: t := by
 obtain ⟨h1, h2⟩ := Dx.cut dch (itoa_dch hn) (itoa_dch hm) (by simpa using hd) (by simpa using he) h
 exact ⟨itoa_inj hn hm h1, h2⟩
theorem twoT_len {n : Int} (h0 : 0 ≤ n) (h1 : n < 100) : (twoT n).length = 2 := by
 rw [twoT_eq h0 h1, itoa_small (by omega) (by omega), itoa_small (by omega) (by omega)]; rfl
theorem twoT_dch {n : Int} (h0 : 0 ≤ n) (h1 : n < 100) : ∀ b ∈ twoT n, dch b = true := by
 rw [twoT_eq h0 h1]
 intro b hb
 rcases List.mem_append.1 hb with hb | hb
 · exact itoa_dch (by omega) b hb
 · exact itoa_dch (by omega) b hb
theorem twoT_inj {n m : Int} (h0 : 0 ≤ n) (h1 : n < 100) (k0 : 0 ≤ m) (k1 : m < 100) (h : twoT n = twoT m) : n = m := by
 rw [twoT_eq h0 h1, twoT_eq k0 k1] at h
 have hl : ∀ {k : Int}, 0 ≤ k → k < 10 → (Lib.itoa k).length = 1 := fun a b => by rw [itoa_small a b]; rfl
 obtain ⟨e1, e2⟩ := List.append_inj h (by rw [hl (by omega) (by omega), hl (by omega) (by omega)])
 have := itoa_inj (by omega) (by omega) e1
 have := itoa_inj (by omega) (by omega) e2
 omega
theorem twoT_cut {n m : Int} (h0 : 0 ≤ n) (h1 : n < 100) (k0 : 0 ≤ m) (k1 : m < 100) {s t : List UInt8} (h : twoT n ++ s = twoT m ++ t) : n = m ∧ s = t := by
 obtain ⟨e1, e2⟩ := List.append_inj h (by rw [twoT_len h0 h1, twoT_len k0 k1])
 exact ⟨twoT_inj h0 h1 k0 k1 e1, e2⟩
theorem trim_pad (l : List UInt8) (c : UInt8) : ∃ k, l = Lib.trimRightB l c ++ List.replicate k c := by
 have h : ∀ l : List UInt8, ∃ k, l = List.replicate k c ++ l.dropWhile (· == c) := by
  intro l
  induction l with
  | nil => exact ⟨0, rfl⟩
  | cons b l ih =>
    rw [List.dropWhile_cons]
    split
    · rename_i hb
      obtain ⟨k, hk⟩ := ih
      refine ⟨k + 1, ?_⟩
      rw [beq_iff_eq] at hb
      rw [List.replicate_succ, List.cons_append, ← hk, hb]
    · exact ⟨0, rfl⟩
 obtain ⟨k, hk⟩ := h l.reverse
 refine ⟨k, ?_⟩
 have := congrArg List.reverse hk
 rw [List.reverse_reverse, List.reverse_append, List.reverse_replicate] at this
 exact this
theorem trim_inj {l m : List UInt8} (hl : l.length = m.length) (h : Lib.trimRightB l 48 = Lib.trimRightB m 48) : l = m := by
 obtain ⟨i, hi⟩ := trim_pad l 48
 obtain ⟨j, hj⟩ := trim_pad m 48
 have e1 := congrArg List.length hi
 have e2 := congrArg List.length hj
 simp only [List.length_append, List.length_replicate] at e1 e2
 have e3 := congrArg List.length h
 rw [hi, hj, h, show i = j by omega]
theorem six_len {u : Int} (h0 : 0 ≤ u) (h1 : u < 1000000) : ((Lib.itoa (1000000 + u)).drop 1).length = 6 := by rw [six_eq h0 h1]; rfl
theorem six_inj {u v : Int} (h0 : 0 ≤ u) (h1 : u < 1000000) (k0 : 0 ≤ v) (k1 : v < 1000000) (h : List.drop 1 (Lib.itoa (1000000 + u)) = List.drop 1 (Lib.itoa (1000000 + v))) : u = v := by
 have h := (six_eq h0 h1).symm.trans (h.trans (six_eq k0 k1))
 simp only [List.cons.injEq, and_true] at h
 have hv : ∀ {a b : Nat}, a < 10 → b < 10 → UInt8.ofNat (48 + a) = UInt8.ofNat (48 + b) → a = b := by
  intro a b ha hb h
  have := congrArg UInt8.toNat h
  simp at this
  omega
 obtain ⟨a, b, c, d, e, f⟩ := h
 have tn : ∀ {x y : Int}, 0 ≤ x → 0 ≤ y → x < 10 → y < 10 → UInt8.ofNat (48 + x.toNat) = UInt8.ofNat (48 + y.toNat) → x = y := by
  intro x y hx hy hx' hy' h
  have := hv (by omega) (by omega) h
  omega
 have m0 : ∀ x : Int, 0 ≤ x % 10 ∧ x % 10 < 10 := by intro x; omega
 have a := tn (m0 _).1 (m0 _).1 (m0 _).2 (m0 _).2 a
 have b := tn (m0 _).1 (m0 _).1 (m0 _).2 (m0 _).2 b
 have c := tn (m0 _).1 (m0 _).1 (m0 _).2 (m0 _).2 c
 have d := tn (m0 _).1 (m0 _).1 (m0 _).2 (m0 _).2 d
 have e := tn (m0 _).1 (m0 _).1 (m0 _).2 (m0 _).2 e
 have f := tn (m0 _).1 (m0 _).1 (m0 _).2 (m0 _).2 f
 have s5 : u / 100000 = v / 100000 := by clear b c d e f; omega
 have s4 : u / 10000 = v / 10000 := by clear a c d e f; omega
 have s3 : u / 1000 = v / 1000 := by clear a b d e f s5; omega
 have s2 : u / 100 = v / 100 := by clear a b c e f s5 s4; omega
 have s1 : u / 10 = v / 10 := by clear a b c d f s5 s4 s3; omega
 clear a b c d e s5 s4 s3 s2
 omega
theorem fracT_inj {u v : Int} (h0 : 0 ≤ u) (h1 : u < 1000000) (k0 : 0 ≤ v) (k1 : v < 1000000) (h : fracT u = fracT v) : u = v := by
 unfold fracT at h
 split at h <;> split at h
 · rw [List.append_cancel_left_eq] at h
   exact six_inj h0 h1 k0 k1 (trim_inj (by rw [six_len h0 h1, six_len k0 k1]) h)
 · cases h
 · cases h
 · omega
theorem fracT_head {u : Int} {s : List UInt8} : (58 : UInt8) :: s = fracT u → False := by
 unfold fracT
 split
 · intro h; simp at h
 · intro h; cases h
theorem absT_inj {n m : Int} (hn : 0 ≤ n) (hm : 0 ≤ m) (h : absT n = absT m) : n = m := by
 simp only [absT, clockT] at h
 have key : ∀ {a b : Int}, 0 ≤ a → 0 ≤ b → a % 1000000 = b % 1000000 → a / 1000000 = b / 1000000 → a = b := by intros; omega
 have fr : fracT (n % 1000000) = fracT (m % 1000000) → n % 1000000 = m % 1000000 := fun h => fracT_inj (by omega) (by omega) (by omega) (by omega) h
 split at h <;> split at h <;> simp only [List.append_assoc, List.cons_append, List.nil_append] at h
 · obtain ⟨e1, h⟩ := itoa_cut (by omega) (by omega) h
   rw [List.cons.injEq] at h
   obtain ⟨e2, h⟩ := twoT_cut (by omega) (by omega) (by omega) (by omega) h.2
   rw [List.cons.injEq] at h
   obtain ⟨e3, h⟩ := twoT_cut (by omega) (by omega) (by omega) (by omega) h.2
   exact key hn hm (fr h) (by omega)
 · obtain ⟨e1, h⟩ := itoa_cut (by omega) (by omega) h
   rw [List.cons.injEq] at h
   obtain ⟨e2, h⟩ := twoT_cut (by omega) (by omega) (by omega) (by omega) h.2
   exact (fracT_head h).elim
 · obtain ⟨e1, h⟩ := itoa_cut (by omega) (by omega) h
   rw [List.cons.injEq] at h
   obtain ⟨e2, h⟩ := twoT_cut (by omega) (by omega) (by omega) (by omega) h.2
   exact (fracT_head h.symm).elim
 · obtain ⟨e1, h⟩ := itoa_cut (by omega) (by omega) h
   rw [List.cons.injEq] at h
   obtain ⟨e2, h⟩ := twoT_cut (by omega) (by omega) (by omega) (by omega) h.2
   exact key hn hm (fr h) (by omega)
theorem timeS_abs {t : Int} (h0 : 0 ≤ t) (h1 : t ≤ 1099511627776) : timeS t = absT t := by
 have : inTime t = true := by simp only [inTime, inR, Bool.and_eq_true, decide_eq_true_eq]; omega
 rw [timeS, if_pos this, timeT, if_neg (by omega)]
theorem timeS_inj {t u : Int} (h0 : 0 ≤ t) (h1 : t ≤ 1099511627776) (k0 : 0 ≤ u) (k1 : u ≤ 1099511627776) (h : timeS t = timeS u) : t = u := by
 rw [timeS_abs h0 h1, timeS_abs k0 k1] at h
 exact absT_inj h0 k0 h
theorem Wd.two {n : Int} (h0 : 0 ≤ n) (h1 : n < 100) : Wd (twoT n) := fun b hb => dch_wch (twoT_dch h0 h1 b hb)
theorem Wd.frac {u : Int} (h0 : 0 ≤ u) (h1 : u < 1000000) : Wd (fracT u) := by
 unfold fracT
 split
 · refine Wd.app (.cons (by decide) .nil) (Wd.sub (y := Lib.itoa (1000000 + u)) (fun b hb => ?_) (Wd.itoa (by omega)))
   obtain ⟨k, hk⟩ := trim_pad (List.drop 1 (Lib.itoa (1000000 + u))) 48
   have : b ∈ List.drop 1 (Lib.itoa (1000000 + u)) := by rw [hk]; exact List.mem_append_left _ hb
   exact List.mem_of_mem_drop this
 · exact .nil
theorem Wd.timeS {t : Int} (h0 : 0 ≤ t) (h1 : t ≤ 1099511627776) : Wd (timeS t) := by
 rw [timeS_abs h0 h1, absT, clockT]
 refine Wd.app ?_ (Wd.frac (by omega) (by omega))
 split
 · exact (((Wd.itoa (by omega)).app (.cons (by decide) .nil)).app (Wd.two (by omega) (by omega))).app (.cons (by decide) .nil) |>.app (Wd.two (by omega) (by omega))
 · exact ((Wd.itoa (by omega)).app (.cons (by decide) .nil)).app (Wd.two (by omega) (by omega))
end Go.Proofs.YteckbkljaneppaaGreatDoor.Dx
/- Texts tell apart: conditions (plain law). -/
namespace Go.Proofs.YteckbkljaneppaaGreatDoor.Dx
open Go Go.RowKit Go.Proofs
set_option maxRecDepth 100000
set_option maxHeartbeats 4000000
/-! a condition in which all conditions are replaced by their cores -/
mutual
def Cond.cores : Cond → Cond
 | ⟨k, v, n, ps⟩ => match Cond.coresL ps with
   | [x] => if k = 2 ∨ k = 3 then x else ⟨k, v, n, [x]⟩
   | l => ⟨k, v, n, l⟩
def Cond.coresL : List Cond → List Cond
 | [] => []
 | c :: cs => c.cores :: Cond.coresL cs
end
theorem Cond.coresL_eq : ∀ l : List Cond, Cond.coresL l = l.map Cond.cores := by
 intro l; induction l with | nil => rfl | cons c l ih => simp [Cond.coresL, ih]
theorem Cond.cores_thin {c p : Cond} (h : c.kind = 2 ∨ c.kind = 3) (hp : c.parts = [p]) : c.cores = p.cores := by
 obtain ⟨k, v, n, ps⟩ := c
 dsimp only at h hp
 subst hp
 simp only [Cond.cores, Cond.coresL, if_pos h]
theorem Cond.cores_self {c : Cond} (h : c.thin = false) : c.cores = ⟨c.kind, c.var, c.n, c.parts.map Cond.cores⟩ := by
 obtain ⟨k, v, n, ps⟩ := c
 simp only [Cond.cores, Cond.coresL_eq]
 split
 · rename_i x hx
   rw [if_neg]
   · rw [hx]
   intro hk
   have hl : ps.length = 1 := by have := congrArg List.length hx; simpa using this
   simp only [Cond.thin, Bool.and_eq_false_iff, Bool.or_eq_false_iff, decide_eq_false_iff_not] at h
   omega
 · rfl
theorem Cond.cores_core (c : Cond) : c.core.cores = c.cores := by
 cases ht : c.thin with
 | false => rw [Cond.core_self ht]
 | true =>
   obtain ⟨hk, p, hp⟩ := Cond.thin_cases ht
   have hsz := Cond.size_part (show p ∈ c.parts by simp [hp])
   rw [Cond.core_thin hk hp, Cond.cores_thin hk hp]
   exact Cond.cores_core p
termination_by SizeOf.sizeOf c
decreasing_by exact hsz
/-! what comes behind -/
def Hd (s : List UInt8) : Prop := ∀ b, s.head? = some b → wch b = false
def NoAnd (s : List UInt8) : Prop := Hd s ∧ ∀ u, s ≠ [32, 97, 110, 100, 32] ++ u
def Stop (s : List UInt8) : Prop := NoAnd s ∧ ∀ u, s ≠ [32, 111, 114, 32] ++ u
theorem Hd.cons {b : UInt8} {s : List UInt8} (h : wch b = false := by decide) : Hd (b :: s) := by intro c hc; simp only [List.head?_cons, Option.some.injEq] at hc; rw [← hc]; exact h
theorem Stop.close {s : List UInt8} : Stop (41 :: s) := ⟨⟨.cons, fun u h => by simp at h⟩, fun u h => by simp at h⟩
theorem Stop.brace {s : List UInt8} : Stop (32 :: 123 :: s) := ⟨⟨.cons, fun u h => by simp at h⟩, fun u h => by simp at h⟩
theorem NoAnd.or {s : List UInt8} : NoAnd ([32, 111, 114, 32] ++ s) := ⟨.cons, fun u h => by simp at h⟩
theorem list_tell (f : Cond → List UInt8) (sep : List UInt8) (K : List UInt8 → Prop) (hsep : ∀ u, K (sep ++ u)) : ∀ l l' : List Cond, l ≠ [] → l' ≠ [] →
 (∀ x ∈ l, ∀ y ∈ l', ∀ s t, f x ++ s = f y ++ t → K s → K t → x.cores = y.cores ∧ s = t) → ∀ s t, K s → K t → (∀ u, s ≠ sep ++ u) → (∀ u, t ≠ sep ++ u) →
 Lib.join (l.map f) sep ++ s = Lib.join (l'.map f) sep ++ t → l.map Cond.cores = l'.map Cond.cores ∧ s = t
 | [], _, h, _, _, _, _, _, _, _, _, _ => absurd rfl h
 | _, [], _, h, _, _, _, _, _, _, _, _ => absurd rfl h
 | [x], [y], _, _, hf, s, t, hs, ht, _, _, h => by
   rw [List.map_cons, List.map_nil, List.map_cons, List.map_nil, Lib.join_one, Lib.join_one] at h
   obtain ⟨e, h⟩ := hf x (by simp) y (by simp) s t h hs ht
   exact ⟨by rw [List.map_cons, List.map_cons, e], h⟩
 | [x], y :: z :: l', _, _, hf, s, t, hs, ht, ns, _, h => by
   rw [List.map_cons, List.map_nil, List.map_cons, List.map_cons, Lib.join_one, Dx.join_cons, List.append_assoc, List.append_assoc] at h
   obtain ⟨e, h⟩ := hf x (by simp) y (by simp) _ _ h hs (hsep _)
   exact absurd h (ns _)
 | x :: z :: l, [y], _, _, hf, s, t, hs, ht, _, nt, h => by
   rw [List.map_cons, List.map_cons, List.map_cons, List.map_nil, Lib.join_one, Dx.join_cons, List.append_assoc, List.append_assoc] at h
   obtain ⟨e, h⟩ := hf x (by simp) y (by simp) _ _ h (hsep _) ht
   exact absurd h.symm (nt _)
 | x :: z :: l, y :: w :: l', _, _, hf, s, t, hs, ht, ns, nt, h => by
   rw [List.map_cons, List.map_cons, List.map_cons, List.map_cons, Dx.join_cons, Dx.join_cons, List.append_assoc, List.append_assoc, List.append_assoc, List.append_assoc] at h
   obtain ⟨e, h⟩ := hf x (by simp) y (by simp) _ _ h (hsep _) (hsep _)
   rw [List.append_cancel_left_eq, ← List.map_cons, ← List.map_cons] at h
   obtain ⟨e2, h⟩ := list_tell f sep K hsep (z :: l) (w :: l') (by simp) (by simp) (fun a ha b hb => hf a (List.mem_cons_of_mem _ ha) b (List.mem_cons_of_mem _ hb)) s t hs ht ns nt h
   exact ⟨by rw [List.map_cons, e, e2]; rfl, h⟩
def tightC (c : Cond) : List UInt8 := tightT c.pt
def looseC (c : Cond) : List UInt8 := looseT c.pt
def andL (c : Cond) : List Cond := if c.kind = 2 then c.parts else [c]
def orL (c : Cond) : List Cond := if c.kind = 3 then c.parts else [c]
/-- what a valid condition that is a core is -/
theorem core_cases {c : Cond} (hv : c.valid = true) (ht : c.thin = false) :
 (c.kind = 1 ∧ 1 ≤ c.var ∧ c.var ≤ 3 ∧ 0 ≤ c.n ∧ c.parts = []) ∨ (c.kind = 4 ∧ c.var = 0 ∧ c.n = 0 ∧ ∃ p, c.parts = [p]) ∨ ((c.kind = 2 ∨ c.kind = 3) ∧ c.var = 0 ∧ c.n = 0 ∧ 2 ≤ c.parts.length) := by
 rw [Cond.valid_eq] at hv
 split at hv
 · simp only [Bool.and_eq_true, inR, decide_eq_true_eq] at hv
   exact .inl ⟨by assumption, by omega, by omega, by omega, List.eq_nil_of_length_eq_zero (by omega)⟩
 · split at hv
   · simp only [Bool.and_eq_true, decide_eq_true_eq] at hv
     exact .inr (.inl ⟨by assumption, hv.1.1, hv.1.2, List.length_eq_one_iff.1 (by omega)⟩)
   · split at hv
     · simp only [Bool.and_eq_true, decide_eq_true_eq] at hv
       refine .inr (.inr ⟨by assumption, hv.1.1, hv.1.2, ?_⟩)
       simp only [Cond.thin, Bool.and_eq_false_iff, Bool.or_eq_false_iff, decide_eq_false_iff_not] at ht
       omega
     · cases hv
theorem tight_ne {c : Cond} (ht : c.thin = false) (h2 : c.kind ≠ 2) (h3 : c.kind ≠ 3) : tightC c = c.pt.2 := by
 rw [tightC, tightT, Cond.pt_core ht, if_neg (by simp [h2, h3])]
theorem tight_eq {c : Cond} (ht : c.thin = false) (h : c.kind = 2 ∨ c.kind = 3) : tightC c = 40 :: (c.pt.2 ++ [41]) := by
 rw [tightC, tightT, Cond.pt_core ht, if_pos h]; rfl
theorem loose_ne {c : Cond} (ht : c.thin = false) (h3 : c.kind ≠ 3) : looseC c = c.pt.2 := by
 rw [looseC, looseT, Cond.pt_core ht, if_neg (by simp [h3])]
theorem loose_eq {c : Cond} (ht : c.thin = false) (h : c.kind = 3) : looseC c = tightC c := by
 rw [looseC, looseT, tightC, tightT, Cond.pt_core ht, if_pos h, if_pos (.inr h)]
theorem loose_andL {c : Cond} (ht : c.thin = false) : looseC c = Lib.join ((andL c).map tightC) [32, 97, 110, 100, 32] := by
 rw [andL]
 split
 · rename_i h2
   rw [loose_ne ht (by omega), Cond.pt_core ht, textK, if_neg (by omega), if_neg (by omega), if_pos h2, List.map_map]; rfl
 · rw [List.map_cons, List.map_nil, Lib.join_one]
   by_cases h3 : c.kind = 3
   · exact loose_eq ht h3
   · rw [loose_ne ht h3, tight_ne ht (by assumption) h3]
theorem text_orL {c : Cond} (hv : c.valid = true) (ht : c.thin = false) : c.pt.2 = Lib.join ((orL c).map looseC) [32, 111, 114, 32] := by
 rw [orL]
 split
 · rename_i h3
   rw [Cond.pt_core ht, textK, if_neg (by omega), if_neg (by omega), if_neg (by omega), List.map_map]; rfl
 · rw [List.map_cons, List.map_nil, Lib.join_one, loose_ne ht (by assumption)]
theorem andL_tell {c d : Cond} (hc : c.valid = true) (tc : c.thin = false) (hd : d.valid = true) (td : d.thin = false) (h : (andL c).map Cond.cores = (andL d).map Cond.cores) : c.cores = d.cores := by
 have hl := congrArg List.length h
 simp only [List.length_map] at hl
 simp only [andL] at h hl
 split at h <;> split at h
 · rw [Cond.cores_self tc, Cond.cores_self td, h]
   rcases core_cases hc tc with h1 | h1 | h1 <;> rcases core_cases hd td with h2 | h2 | h2 <;> (try omega)
   rw [h1.2.1, h1.2.2.1, h2.2.1, h2.2.2.1, ‹c.kind = 2›, ‹d.kind = 2›]
 · rw [if_pos (by assumption), if_neg (by assumption)] at hl
   rcases core_cases hc tc with h1 | h1 | h1
   · omega
   · omega
   · have := h1.2.2.2
     simp only [List.length_cons, List.length_nil] at hl; omega
 · rw [if_neg (by assumption), if_pos (by assumption)] at hl
   rcases core_cases hd td with h1 | h1 | h1
   · omega
   · omega
   · have := h1.2.2.2
     simp only [List.length_cons, List.length_nil] at hl; omega
 · simpa using h
theorem orL_tell {c d : Cond} (hc : c.valid = true) (tc : c.thin = false) (hd : d.valid = true) (td : d.thin = false) (h : (orL c).map Cond.cores = (orL d).map Cond.cores) : c.cores = d.cores := by
 have hl := congrArg List.length h
 simp only [List.length_map] at hl
 simp only [orL] at h hl
 split at h <;> split at h
 · rw [Cond.cores_self tc, Cond.cores_self td, h]
   rcases core_cases hc tc with h1 | h1 | h1 <;> rcases core_cases hd td with h2 | h2 | h2 <;> (try omega)
   rw [h1.2.1, h1.2.2.1, h2.2.1, h2.2.2.1, ‹c.kind = 3›, ‹d.kind = 3›]
 · rw [if_pos (by assumption), if_neg (by assumption)] at hl
   rcases core_cases hc tc with h1 | h1 | h1
   · omega
   · omega
   · have := h1.2.2.2
     simp only [List.length_cons, List.length_nil] at hl; omega
 · rw [if_neg (by assumption), if_pos (by assumption)] at hl
   rcases core_cases hd td with h1 | h1 | h1
   · omega
   · omega
   · have := h1.2.2.2
     simp only [List.length_cons, List.length_nil] at hl; omega
 · simpa using h
structure Tells (c : Cond) : Prop where
 tight : ∀ d : Cond, d.valid = true → ∀ s t, tightC c ++ s = tightC d ++ t → Hd s → Hd t → c.cores = d.cores ∧ s = t
 loose : ∀ d : Cond, d.valid = true → ∀ s t, looseC c ++ s = looseC d ++ t → NoAnd s → NoAnd t → c.cores = d.cores ∧ s = t
 text : ∀ d : Cond, d.valid = true → ∀ s t, c.pt.2 ++ s = d.pt.2 ++ t → Stop s → Stop t → c.cores = d.cores ∧ s = t
theorem varT_wd (v : Int) : Wd (varT v) := by
 unfold varT
 split
 · intro b hb; revert b; decide
 · split
   · intro b hb; revert b; decide
   · intro b hb; revert b; decide
theorem varT_inj {v w : Int} (h0 : 1 ≤ v) (h1 : v ≤ 3) (k0 : 1 ≤ w) (k1 : w ≤ 3) (h : varT v = varT w) : v = w := by
 unfold varT at h
 split at h <;> split at h <;> (try split at h) <;> (try split at h) <;> first | omega | (exact absurd h (by decide))
theorem varT_cons (v : Int) : ∃ b r, varT v = b :: r ∧ (b = 100 ∨ b = 102 ∨ b = 115) := by
 unfold varT
 split
 · exact ⟨_, _, rfl, by decide⟩
 · split
   · exact ⟨_, _, rfl, by decide⟩
   · exact ⟨_, _, rfl, by decide⟩
theorem leaf_eq {c : Cond} (ht : c.thin = false) (h : c.kind = 1) (s : List UInt8) : tightC c ++ s = varT c.var ++ 32 :: 62 :: 61 :: 32 :: (Lib.itoa c.n ++ s) := by
 rw [tight_ne ht (by omega) (by omega), Cond.pt_core ht, textK, if_pos h]
 simp only [List.append_assoc, List.cons_append, List.nil_append]
theorem not_eq {c p : Cond} (ht : c.thin = false) (h : c.kind = 4) (hp : c.parts = [p]) (s : List UInt8) : tightC c ++ s = 110 :: 111 :: 116 :: 32 :: (tightC p ++ s) := by
 rw [tight_ne ht (by omega) (by omega), Cond.pt_core ht, textK, if_neg (by omega), if_pos h, hp, List.map_cons, List.map_nil, List.map_cons, List.map_nil, Lib.join_one]
 simp only [List.cons_append, List.nil_append]; rfl
theorem andL_ne {c : Cond} (hv : c.valid = true) (ht : c.thin = false) : andL c ≠ [] := by
 unfold andL; split
 · intro e
   rcases core_cases hv ht with h | h | h
   · omega
   · omega
   · have := h.2.2.2; rw [e] at this; simp at this
 · simp
theorem orL_ne {c : Cond} (hv : c.valid = true) (ht : c.thin = false) : orL c ≠ [] := by
 unfold orL; split
 · intro e
   rcases core_cases hv ht with h | h | h
   · omega
   · omega
   · have := h.2.2.2; rw [e] at this; simp at this
 · simp
theorem andL_valid {c : Cond} (hv : c.valid = true) : ∀ x ∈ andL c, x.valid = true := by
 unfold andL; split
 · exact Cond.valid_parts hv
 · intro x hx; rw [List.mem_singleton.1 hx]; exact hv
theorem orL_valid {c : Cond} (hv : c.valid = true) : ∀ x ∈ orL c, x.valid = true := by
 unfold orL; split
 · exact Cond.valid_parts hv
 · intro x hx; rw [List.mem_singleton.1 hx]; exact hv
theorem tightC_core (c : Cond) : tightC c.core = tightC c := by rw [tightC, tightC, (core_ok c).pt]
theorem looseC_core (c : Cond) : looseC c.core = looseC c := by rw [looseC, looseC, (core_ok c).pt]
abbrev TightTells (c d : Cond) : Prop := ∀ s t, tightC c ++ s = tightC d ++ t → Hd s → Hd t → c.cores = d.cores ∧ s = t
abbrev LooseTells (c d : Cond) : Prop := ∀ s t, looseC c ++ s = looseC d ++ t → NoAnd s → NoAnd t → c.cores = d.cores ∧ s = t
abbrev TextTells (c d : Cond) : Prop := ∀ s t, c.pt.2 ++ s = d.pt.2 ++ t → Stop s → Stop t → c.cores = d.cores ∧ s = t
theorem tight_any {c : Cond} (h : ∀ d : Cond, d.valid = true → d.thin = false → TightTells c d) (d : Cond) (hd : d.valid = true) : TightTells c d := by
 intro s t e hs ht
 rw [← tightC_core d] at e
 have := h d.core ((core_ok d).valid hd) (core_ok d).thin s t e hs ht
 rwa [Cond.cores_core] at this
theorem loose_any {c : Cond} (h : ∀ d : Cond, d.valid = true → d.thin = false → LooseTells c d) (d : Cond) (hd : d.valid = true) : LooseTells c d := by
 intro s t e hs ht
 rw [← looseC_core d] at e
 have := h d.core ((core_ok d).valid hd) (core_ok d).thin s t e hs ht
 rwa [Cond.cores_core] at this
theorem text_any {c : Cond} (h : ∀ d : Cond, d.valid = true → d.thin = false → TextTells c d) (d : Cond) (hd : d.valid = true) : TextTells c d := by
 intro s t e hs ht
 rw [← (core_ok d).pt] at e
 have := h d.core ((core_ok d).valid hd) (core_ok d).thin s t e hs ht
 rwa [Cond.cores_core] at this
theorem and_of {c d : Cond} (hv : c.valid = true) (ht : c.thin = false) (dv : d.valid = true) (dt : d.thin = false) (hf : ∀ x ∈ andL c, ∀ y, y.valid = true → TightTells x y) : LooseTells c d := by
 intro s t h hs ht'
 rw [loose_andL ht, loose_andL dt] at h
 obtain ⟨e, h⟩ := list_tell tightC _ Hd (fun u => .cons) _ _ (andL_ne hv ht) (andL_ne dv dt) (fun x hx y hy => hf x hx y (andL_valid dv y hy)) s t hs.1 ht'.1 hs.2 ht'.2 h
 exact ⟨andL_tell hv ht dv dt e, h⟩
theorem or_of {c d : Cond} (hv : c.valid = true) (ht : c.thin = false) (dv : d.valid = true) (dt : d.thin = false) (hf : ∀ x ∈ orL c, ∀ y, y.valid = true → LooseTells x y) : TextTells c d := by
 intro s t h hs ht'
 rw [text_orL hv ht, text_orL dv dt] at h
 obtain ⟨e, h⟩ := list_tell looseC _ NoAnd (fun u => .or) _ _ (orL_ne hv ht) (orL_ne dv dt) (fun x hx y hy => hf x hx y (orL_valid dv y hy)) s t hs.1 ht'.1 hs.2 ht'.2 h
 exact ⟨orL_tell hv ht dv dt e, h⟩
theorem tight_head {d : Cond} (dv : d.valid = true) (dt : d.thin = false) (hd : ¬ (d.kind = 2 ∨ d.kind = 3)) (t : List UInt8) : ∃ b r, tightC d ++ t = b :: r ∧ (b = 100 ∨ b = 102 ∨ b = 115 ∨ b = 110) := by
 rcases core_cases dv dt with h | h | h
 · rw [leaf_eq dt h.1]
   obtain ⟨b, r, e, hb⟩ := varT_cons d.var
   rw [e]
   exact ⟨b, _, rfl, by rcases hb with h | h | h <;> simp [h]⟩
 · obtain ⟨p, hp⟩ := h.2.2.2
   rw [not_eq dt h.1 hp]
   exact ⟨_, _, rfl, by decide⟩
 · exact absurd h.1 hd
theorem tight_paren {c d : Cond} (ht : c.thin = false) (hk : c.kind = 2 ∨ c.kind = 3) (dv : d.valid = true) (dt : d.thin = false) (hO : TextTells c d) : TightTells c d := by
 intro s t h hs ht'
 rw [tight_eq ht hk] at h
 by_cases hd : d.kind = 2 ∨ d.kind = 3
 · rw [tight_eq dt hd] at h
   simp only [List.cons_append, List.cons.injEq, true_and, List.append_assoc, List.nil_append] at h
   obtain ⟨e, h⟩ := hO _ _ h .close .close
   rw [List.cons.injEq] at h
   exact ⟨e, h.2⟩
 · obtain ⟨b, r, e, hb⟩ := tight_head dv dt hd t
   rw [e, List.cons_append, List.cons.injEq] at h
   obtain ⟨rfl, _⟩ := h
   exact absurd hb (by decide)
theorem Hd.dch {s : List UInt8} (h : Hd s) : ∀ b, s.head? = some b → dch b = false := by
 intro b hb
 have := h b hb
 cases hd : Dx.dch b with
 | false => rfl
 | true => rw [dch_wch hd] at this; cases this
theorem leaf_tells {c d : Cond} (hv : c.valid = true) (ht : c.thin = false) (hk : c.kind = 1) (dv : d.valid = true) (dt : d.thin = false) : TightTells c d := by
 intro s t h hs ht'
 rw [leaf_eq ht hk] at h
 rcases core_cases dv dt with k | k | k
 · rw [leaf_eq dt k.1] at h
   obtain ⟨e1, _, h⟩ := (varT_wd _).cut (varT_wd _) h
   simp only [List.cons.injEq, true_and] at h
   rcases core_cases hv ht with q | q | q <;> try omega
   obtain ⟨e2, h⟩ := cut dch (itoa_dch q.2.2.2.1) (itoa_dch k.2.2.2.1) hs.dch ht'.dch h
   refine ⟨?_, h⟩
   rw [Cond.cores_self ht, Cond.cores_self dt, q.1, k.1, varT_inj q.2.1 q.2.2.1 k.2.1 k.2.2.1 e1, itoa_inj q.2.2.2.1 k.2.2.2.1 e2, q.2.2.2.2, k.2.2.2.2]
 · obtain ⟨p, hp⟩ := k.2.2.2
   rw [not_eq dt k.1 hp] at h
   obtain ⟨b, r, e, hb⟩ := varT_cons c.var
   rw [e, List.cons_append, List.cons.injEq] at h
   obtain ⟨rfl, _⟩ := h
   exact absurd hb (by decide)
 · rw [tight_eq dt k.1, List.cons_append] at h
   obtain ⟨b, r, e, hb⟩ := varT_cons c.var
   rw [e, List.cons_append, List.cons.injEq] at h
   obtain ⟨rfl, _⟩ := h
   exact absurd hb (by decide)
theorem not_tells {c d p : Cond} (hv : c.valid = true) (ht : c.thin = false) (hk : c.kind = 4) (hp : c.parts = [p]) (ih : ∀ d : Cond, d.valid = true → TightTells p d) (dv : d.valid = true) (dt : d.thin = false) : TightTells c d := by
 intro s t h hs ht'
 rw [not_eq ht hk hp] at h
 rcases core_cases dv dt with k | k | k
 · rw [leaf_eq dt k.1] at h
   obtain ⟨b, r, e, hb⟩ := varT_cons d.var
   rw [e, List.cons_append, List.cons.injEq] at h
   obtain ⟨rfl, _⟩ := h
   exact absurd hb (by decide)
 · obtain ⟨q, hq⟩ := k.2.2.2
   rw [not_eq dt k.1 hq] at h
   simp only [List.cons.injEq, true_and] at h
   obtain ⟨e, h⟩ := ih q (Cond.valid_parts dv q (by simp [hq])) s t h hs ht'
   refine ⟨?_, h⟩
   rcases core_cases hv ht with j | j | j <;> try omega
   rw [Cond.cores_self ht, Cond.cores_self dt, j.1, k.1, j.2.1, k.2.1, j.2.2.1, k.2.2.1, hp, hq, List.map_cons, List.map_cons, e]
 · rw [tight_eq dt k.1, List.cons_append, List.cons.injEq] at h
   exact absurd h.1 (by decide)
theorem tells_core {c : Cond} (hv : c.valid = true) (ht : c.thin = false) (ih : ∀ p ∈ c.parts, Tells p) : Tells c := by
 rcases core_cases hv ht with k | k | k
 · have T : ∀ d : Cond, d.valid = true → TightTells c d := tight_any fun d => leaf_tells hv ht k.1
   have L : ∀ d : Cond, d.valid = true → LooseTells c d := loose_any fun d dv dt => and_of hv ht dv dt fun x hx => by
    rw [andL, if_neg (by omega)] at hx
    rw [List.mem_singleton.1 hx]; exact T
   exact ⟨T, L, text_any fun d dv dt => or_of hv ht dv dt fun x hx => by
    rw [orL, if_neg (by omega)] at hx
    rw [List.mem_singleton.1 hx]; exact L⟩
 · obtain ⟨p, hp⟩ := k.2.2.2
   have T : ∀ d : Cond, d.valid = true → TightTells c d := tight_any fun d => not_tells hv ht k.1 hp (ih p (by simp [hp])).tight
   have L : ∀ d : Cond, d.valid = true → LooseTells c d := loose_any fun d dv dt => and_of hv ht dv dt fun x hx => by
    rw [andL, if_neg (by omega)] at hx
    rw [List.mem_singleton.1 hx]; exact T
   exact ⟨T, L, text_any fun d dv dt => or_of hv ht dv dt fun x hx => by
    rw [orL, if_neg (by omega)] at hx
    rw [List.mem_singleton.1 hx]; exact L⟩
 · by_cases h2 : c.kind = 2
   · have L : ∀ d : Cond, d.valid = true → LooseTells c d := loose_any fun d dv dt => and_of hv ht dv dt fun x hx => by
      rw [andL, if_pos h2] at hx
      exact (ih x hx).tight
     have O : ∀ d : Cond, d.valid = true → TextTells c d := text_any fun d dv dt => or_of hv ht dv dt fun x hx => by
      rw [orL, if_neg (by omega)] at hx
      rw [List.mem_singleton.1 hx]; exact L
     exact ⟨tight_any fun d dv dt => tight_paren ht k.1 dv dt (O d dv), L, O⟩
   · have O : ∀ d : Cond, d.valid = true → TextTells c d := text_any fun d dv dt => or_of hv ht dv dt fun x hx => by
      rw [orL, if_pos (by omega)] at hx
      exact (ih x hx).loose
     have T : ∀ d : Cond, d.valid = true → TightTells c d := tight_any fun d dv dt => tight_paren ht k.1 dv dt (O d dv)
     exact ⟨T, loose_any fun d dv dt => and_of hv ht dv dt fun x hx => by
      rw [andL, if_neg (by omega)] at hx
      rw [List.mem_singleton.1 hx]; exact T, O⟩
theorem tells (c : Cond) (hv : c.valid = true) : Tells c := by
 have hvc := (core_ok c).valid hv
 have hsz := (core_ok c).size
 have ih : ∀ p ∈ c.core.parts, Tells p := fun p hp => by
  have := Cond.size_part hp
  exact tells p (Cond.valid_parts hvc p hp)
 obtain ⟨a, b, d⟩ := tells_core hvc (core_ok c).thin ih
 rw [tightC_core, Cond.cores_core] at a
 rw [looseC_core, Cond.cores_core] at b
 rw [(core_ok c).pt, Cond.cores_core] at d
 exact ⟨a, b, d⟩
termination_by SizeOf.sizeOf c
decreasing_by omega
end Go.Proofs.YteckbkljaneppaaGreatDoor.Dx
/- Texts tell apart: steps, parts of routes (plain law). -/
namespace Go.Proofs.YteckbkljaneppaaGreatDoor.Dx
open Go Go.RowKit Go.Proofs
set_option maxRecDepth 100000
set_option maxHeartbeats 4000000
/-! steps in which all conditions are replaced by their cores -/
mutual
def Step.cores : Step → Step
 | ⟨k, b, c, t, e⟩ => ⟨k, b, if k = 2 then c.cores else c, Step.coresL t, Step.coresL e⟩
def Step.coresL : List Step → List Step
 | [] => []
 | c :: cs => c.cores :: Step.coresL cs
end
theorem Step.coresL_eq : ∀ l : List Step, Step.coresL l = l.map Step.cores := by
 intro l; induction l with | nil => rfl | cons c l ih => simp [Step.coresL, ih]
theorem Step.cores_eq (s : Step) : s.cores = ⟨s.kind, s.crit, if s.kind = 2 then s.cond.cores else s.cond, s.th.map Step.cores, s.el.map Step.cores⟩ := by
 obtain ⟨k, b, c, t, e⟩ := s; simp only [Step.cores, Step.coresL_eq]
def Course.cores (c : Course) : Course := { c with ties := c.ties.map Step.cores }
/-! texts with blanks between them, and texts one behind the other -/
theorem sep_tell {α β : Type} (f : α → List UInt8) (g : α → β) (K : List UInt8 → Prop) : ∀ (b : Bool) (l l' : List α),
 (∀ x ∈ l, ∀ y ∈ l', ∀ s t, f x ++ s = f y ++ t → K s → K t → g x = g y ∧ s = t) → (∀ x, x ∈ l ∨ x ∈ l' → ∀ u, K (32 :: (f x ++ u))) →
 ∀ s t, K s → K t → (∀ x ∈ l', ∀ u, s ≠ 32 :: (f x ++ u) ∧ s ≠ f x ++ u) → (∀ x ∈ l, ∀ u, t ≠ 32 :: (f x ++ u) ∧ t ≠ f x ++ u) →
 sepT b (l.map f) ++ s = sepT b (l'.map f) ++ t → l.map g = l'.map g ∧ s = t
 | b, [], [], _, _, s, t, _, _, _, _, h => by
   cases b <;> (simp only [List.map_nil, sepT, List.nil_append] at h; exact ⟨rfl, h⟩)
 | b, [], y :: l', hf, hc, s, t, _, _, ns, _, h => by
   have := ns y (by simp)
   cases b <;> simp only [List.map_nil, List.map_cons, sepT, List.nil_append, List.cons_append, List.append_assoc] at h
   · exact absurd h (this _).1
   · exact absurd h (this _).2
 | b, x :: l, [], hf, hc, s, t, _, _, _, nt, h => by
   have := nt x (by simp)
   cases b <;> simp only [List.map_nil, List.map_cons, sepT, List.nil_append, List.cons_append, List.append_assoc] at h
   · exact absurd h.symm (this _).1
   · exact absurd h.symm (this _).2
 | b, x :: l, y :: l', hf, hc, s, t, ks, kt, ns, nt, h => by
   have h : f x ++ (sepT false (l.map f) ++ s) = f y ++ (sepT false (l'.map f) ++ t) := by
    cases b <;> simpa only [List.map_cons, sepT, List.append_assoc, List.cons_append, List.nil_append, List.cons.injEq, true_and] using h
   have hk : ∀ (m : List α) (u : List UInt8), K u → (∀ z ∈ m, z ∈ x :: l ∨ z ∈ y :: l') → K (sepT false (m.map f) ++ u) := by
    intro m u ku hm
    match m, hm with
    | [], _ => exact ku
    | z :: m, hm =>
      have := hc z (hm z (by simp)) (sepT false (m.map f) ++ u)
      simpa only [List.map_cons, sepT, List.append_assoc, List.cons_append, List.nil_append] using this
   obtain ⟨e, h⟩ := hf x (by simp) y (by simp) _ _ h (hk l s ks fun z hz => .inl (List.mem_cons_of_mem _ hz)) (hk l' t kt fun z hz => .inr (List.mem_cons_of_mem _ hz))
   obtain ⟨e2, h⟩ := sep_tell f g K false l l' (fun a ha c hc' => hf a (List.mem_cons_of_mem _ ha) c (List.mem_cons_of_mem _ hc'))
    (fun z hz => hc z (hz.elim (fun q => .inl (List.mem_cons_of_mem _ q)) fun q => .inr (List.mem_cons_of_mem _ q))) s t ks kt
    (fun z hz => ns z (List.mem_cons_of_mem _ hz)) (fun z hz => nt z (List.mem_cons_of_mem _ hz)) h
   exact ⟨by rw [List.map_cons, List.map_cons, e, e2], h⟩
theorem no_brace {x u : List UInt8} (h : ∃ b r, x = b :: r ∧ wch b = true) (v : List UInt8) : (32 :: 125 :: u : List UInt8) ≠ 32 :: (x ++ v) ∧ (32 :: 125 :: u : List UInt8) ≠ x ++ v := by
 obtain ⟨b, r, rfl, h⟩ := h
 constructor
 · intro e
   simp only [List.cons_append, List.cons.injEq, true_and] at e
   rw [← e.1] at h; exact absurd h (by decide)
 · intro e
   simp only [List.cons_append, List.cons.injEq] at e
   rw [← e.1] at h; exact absurd h (by decide)
theorem flat_tell {α : Type} (f f' : α → List UInt8) : ∀ (l l' : List α),
 (∀ x ∈ l, ∀ y ∈ l', ∀ s t, f x ++ s = f' y ++ t → x = y ∧ s = t) → ∀ s t, (∀ y ∈ l', ∀ u, s ≠ f' y ++ u) → (∀ x ∈ l, ∀ u, t ≠ f x ++ u) →
 l.flatMap f ++ s = l'.flatMap f' ++ t → l = l' ∧ s = t
 | [], [], _, s, t, _, _, h => ⟨rfl, by simpa using h⟩
 | [], y :: l', _, s, t, hs, _, h => by
   simp only [List.flatMap_nil, List.nil_append, List.flatMap_cons, List.append_assoc] at h
   exact absurd h (hs y (by simp) _)
 | x :: l, [], _, s, t, _, ht, h => by
   simp only [List.flatMap_nil, List.nil_append, List.flatMap_cons, List.append_assoc] at h
   exact absurd h.symm (ht x (by simp) _)
 | x :: l, y :: l', hf, s, t, hs, ht, h => by
   simp only [List.flatMap_cons, List.append_assoc] at h
   obtain ⟨e, h⟩ := hf x (by simp) y (by simp) _ _ h
   obtain ⟨e2, h⟩ := flat_tell f f' l l' (fun a ha c hc => hf a (List.mem_cons_of_mem _ ha) c (List.mem_cons_of_mem _ hc)) s t (fun a ha => hs a (List.mem_cons_of_mem _ ha)) (fun a ha => ht a (List.mem_cons_of_mem _ ha)) h
   exact ⟨by rw [e, e2], h⟩
/-! steps -/
theorem critT_wd (v : Int) : Wd (critT v) := by
 unfold critT
 split
 · intro b hb; revert b; decide
 · split
   · intro b hb; revert b; decide
   · split
     · intro b hb; revert b; decide
     · split <;> (intro b hb; revert b; decide)
theorem critT_inj {v w : Int} (h0 : 1 ≤ v) (h1 : v ≤ 5) (k0 : 1 ≤ w) (k1 : w ≤ 5) (h : critT v = critT w) : v = w := by
 have key : ∀ a b : Fin 5, critT ((a.1 : Int) + 1) = critT ((b.1 : Int) + 1) → a = b := by decide
 have e1 : v = ((⟨(v - 1).toNat, by omega⟩ : Fin 5).1 : Int) + 1 := by simp only; omega
 have e2 : w = ((⟨(w - 1).toNat, by omega⟩ : Fin 5).1 : Int) + 1 := by simp only; omega
 rw [e1, e2] at h
 have := congrArg Fin.val (key _ _ h)
 simp only at this
 omega
theorem critT_cons (v : Int) : ∃ b r, critT v = b :: r ∧ b ≠ 101 ∧ b ≠ 105 ∧ wch b = true := by
 unfold critT
 split
 · exact ⟨_, _, rfl, by decide⟩
 · split
   · exact ⟨_, _, rfl, by decide⟩
   · split
     · exact ⟨_, _, rfl, by decide⟩
     · split
       · exact ⟨_, _, rfl, by decide⟩
       · exact ⟨_, _, rfl, by decide⟩
def KS (s : List UInt8) : Prop := ∃ b r, s = 32 :: b :: r ∧ b ≠ 101
theorem Step.zero {s : Step} (h : s.valid = true) (hk : s.kind = 1) : s.cond = ⟨0, 0, 0, []⟩ ∧ s.th = [] ∧ s.el = [] := by
 rw [Step.valid_eq, if_pos hk] at h
 simp only [Bool.and_eq_true, decide_eq_true_eq, Cond.isZero] at h
 obtain ⟨_, ⟨h1, h2, h3, h4⟩, h5, h6⟩ := h
 refine ⟨?_, List.eq_nil_of_length_eq_zero (by omega), List.eq_nil_of_length_eq_zero (by omega)⟩
 obtain ⟨k, b, ⟨ck, cv, cn, cp⟩, t, e⟩ := s
 dsimp only at h1 h2 h3 h4 ⊢
 rw [h1, h2, h3, List.eq_nil_of_length_eq_zero (by omega : cp.length = 0)]
theorem tx_by {s : Step} (h : s.kind = 1) (u : List UInt8) : s.tx ++ u = critT s.crit ++ 59 :: u := by
 rw [Step.tx_eq, if_pos h]; simp only [List.append_assoc, List.cons_append, List.nil_append]
theorem tx_if {s : Step} (h : s.kind = 2) (u : List UInt8) : s.tx ++ u = 105 :: 102 :: 32 :: (s.cond.pt.2 ++ 32 :: 123 :: 32 :: (stepsT s.th ++ 32 :: 125 :: ((if 0 < s.el.length then [32, 101, 108, 115, 101, 32, 123, 32] ++ stepsT s.el ++ [32, 125] else []) ++ u))) := by
 rw [Step.tx_eq, if_neg (by omega), ifT]
 simp only [List.append_assoc, List.cons_append, List.nil_append, decide_eq_true_eq]
theorem tx_cons {s : Step} (hv : s.valid = true) : ∃ b r, s.tx = b :: r ∧ b ≠ 101 ∧ wch b = true := by
 rcases Step.cases hv with ⟨k, _⟩ | ⟨k, _⟩
 · have h := tx_by k []
   obtain ⟨b, r, e, h1, _, h2⟩ := critT_cons s.crit
   rw [List.append_nil, e] at h
   exact ⟨b, _, h, h1, h2⟩
 · have h := tx_if k []
   rw [List.append_nil] at h
   exact ⟨_, _, h, by decide, by decide⟩
theorem steps_tell {l l' : List Step} (hv : ∀ x ∈ l, x.valid = true) (hv' : ∀ x ∈ l', x.valid = true)
 (hf : ∀ x ∈ l, ∀ y ∈ l', ∀ s t, x.tx ++ s = y.tx ++ t → KS s → KS t → x.cores = y.cores ∧ s = t) (s t : List UInt8) (h : stepsT l ++ 32 :: 125 :: s = stepsT l' ++ 32 :: 125 :: t) : l.map Step.cores = l'.map Step.cores ∧ s = t := by
 have hb : ∀ x, x ∈ l ∨ x ∈ l' → ∃ b r, x.tx = b :: r ∧ b ≠ 101 ∧ wch b = true := fun x hx => tx_cons (hx.elim (hv x) (hv' x))
 have hw : ∀ x, x ∈ l ∨ x ∈ l' → ∃ b r, x.tx = b :: r ∧ wch b = true := fun x hx => by
  obtain ⟨b, r, e, _, h2⟩ := hb x hx
  exact ⟨b, r, e, h2⟩
 have := sep_tell Step.tx Step.cores KS true l l' hf (fun x hx u => by
  obtain ⟨b, r, e, h1, h2⟩ := hb x hx
  exact ⟨b, r ++ u, by rw [e]; rfl, h1⟩) (32 :: 125 :: s) (32 :: 125 :: t) ⟨125, _, rfl, by decide⟩ ⟨125, _, rfl, by decide⟩
  (fun x hx u => no_brace (hw x (.inr hx)) u) (fun x hx u => no_brace (hw x (.inl hx)) u) h
 simpa only [List.cons.injEq, true_and] using this
theorem step_tell (s : Step) (hs : s.valid = true) (d : Step) (hd : d.valid = true) (u v : List UInt8) (h : s.tx ++ u = d.tx ++ v) (hu : KS u) (hv : KS v) : s.cores = d.cores ∧ u = v := by
 rcases Step.cases hs with ⟨k, b0, b1⟩ | ⟨k, hc, _, ht, he⟩
 · rw [tx_by k] at h
   rcases Step.cases hd with ⟨j, c0, c1⟩ | ⟨j, _⟩
   · rw [tx_by j] at h
     obtain ⟨e, _, h⟩ := (critT_wd _).cut (critT_wd _) h
     refine ⟨?_, h⟩
     obtain ⟨a1, a2, a3⟩ := Step.zero hs k
     obtain ⟨d1, d2, d3⟩ := Step.zero hd j
     rw [Step.cores_eq, Step.cores_eq, k, j, critT_inj b0 b1 c0 c1 e, a1, a2, a3, d1, d2, d3]
   · rw [tx_if j] at h
     obtain ⟨b, r, e, _, h1, _⟩ := critT_cons s.crit
     rw [e] at h
     simp only [List.cons_append, List.cons.injEq] at h
     exact absurd h.1 h1
 · rw [tx_if k] at h
   rcases Step.cases hd with ⟨j, c0, c1⟩ | ⟨j, hc', _, ht', he'⟩
   · rw [tx_by j] at h
     obtain ⟨b, r, e, _, h1, _⟩ := critT_cons d.crit
     rw [e] at h
     simp only [List.cons_append, List.cons.injEq] at h
     exact absurd h.1.symm h1
   · rw [tx_if j] at h
     simp only [List.cons.injEq, true_and] at h
     obtain ⟨e1, h⟩ := (tells s.cond hc).text d.cond hc' _ _ h .brace .brace
     simp only [List.cons.injEq, true_and] at h
     obtain ⟨e2, h⟩ := steps_tell ht ht' (fun x hx y hy a b q qa qb => by
      have := Step.size_th hx
      exact step_tell x (ht x hx) y (ht' y hy) a b q qa qb) _ _ h
     obtain ⟨eb, er, rfl, ne⟩ := hu
     obtain ⟨fb, fr, rfl, nf⟩ := hv
     rw [Step.cores_eq s, Step.cores_eq d, k, j, e2, if_pos rfl, if_pos rfl, e1]
     have z1 : s.crit = 0 := by
      rw [Step.valid_eq, if_neg (by omega), if_pos k] at hs
      simp only [Bool.and_eq_true, decide_eq_true_eq] at hs; exact hs.1
     have z2 : d.crit = 0 := by
      rw [Step.valid_eq, if_neg (by omega), if_pos j] at hd
      simp only [Bool.and_eq_true, decide_eq_true_eq] at hd; exact hd.1
     rw [z1, z2]
     split at h <;> split at h
     · simp only [List.append_assoc, List.cons_append, List.nil_append, List.cons.injEq, true_and] at h
       obtain ⟨e3, h⟩ := steps_tell he he' (fun x hx y hy a b q qa qb => by
        have := Step.size_el hx
        exact step_tell x (he x hx) y (he' y hy) a b q qa qb) _ _ h
       rw [e3, h]
       exact ⟨rfl, rfl⟩
     · simp only [List.append_assoc, List.cons_append, List.nil_append, List.cons.injEq, true_and] at h
       exact absurd h.1.symm nf
     · simp only [List.append_assoc, List.cons_append, List.nil_append, List.cons.injEq, true_and] at h
       exact absurd h.1 ne
     · rw [List.nil_append, List.nil_append] at h
       rw [List.eq_nil_of_length_eq_zero (by omega : s.el.length = 0), List.eq_nil_of_length_eq_zero (by omega : d.el.length = 0)]
       exact ⟨rfl, h⟩
termination_by SizeOf.sizeOf s
decreasing_by all_goals assumption
theorem ties_tell {l l' : List Step} (hv : ∀ x ∈ l, x.valid = true) (hv' : ∀ x ∈ l', x.valid = true) (s t : List UInt8) (h : stepsT l ++ 32 :: 125 :: s = stepsT l' ++ 32 :: 125 :: t) : l.map Step.cores = l'.map Step.cores ∧ s = t :=
 steps_tell hv hv' (fun x hx y hy u v q qu qv => step_tell x (hv x hx) y (hv' y hy) u v q qu qv) s t h
/-! parts of routes -/
theorem matN_wd {ms : List Mat} (h : nmL (ms.map (·.name)) = true) (i : Int) : Wd (matN ms i) := by
 unfold matN
 split
 · rename_i m hm
   simp only [nmL, Bool.and_eq_true, List.all_eq_true] at h
   exact Wd.name (h.1 _ (List.mem_map.2 ⟨m, List.mem_of_getElem? hm, rfl⟩))
 · exact .nil
theorem nodup_at {α : Type} {l : List α} (h : l.Nodup) {i j : Nat} (hi : i < l.length) (hj : j < l.length) (e : l[i] = l[j]) : i = j := by
 rcases Nat.lt_trichotomy i j with k | k | k
 · exact absurd e (List.pairwise_iff_getElem.1 h i j hi hj k)
 · exact k
 · exact absurd e.symm (List.pairwise_iff_getElem.1 h j i hj hi k)
theorem names_inj {α : Type} {l : List α} {f : α → List UInt8} (h : nmL (l.map f) = true) {i j : Int} {x y : α} (hi : 0 ≤ i) (hj : 0 ≤ j) (hx : l[i.toNat]? = some x) (hy : l[j.toNat]? = some y) (e : f x = f y) : i = j := by
 simp only [nmL, Bool.and_eq_true, decide_eq_true_eq] at h
 obtain ⟨h1, hx⟩ := List.getElem?_eq_some_iff.1 hx
 obtain ⟨h2, hy⟩ := List.getElem?_eq_some_iff.1 hy
 have := nodup_at h.2 (i := i.toNat) (j := j.toNat) (by simpa using h1) (by simpa using h2) (by rw [List.getElem_map, List.getElem_map, hx, hy, e])
 omega
theorem matN_inj {ms : List Mat} (h : nmL (ms.map (·.name)) = true) {i j : Int} (hi : 0 ≤ i) (hi' : i ≤ ((ms.map Mat.cells).length : Int) - 1) (hj : 0 ≤ j) (hj' : j ≤ ((ms.map Mat.cells).length : Int) - 1) (e : matN ms i = matN ms j) : i = j := by
 simp only [List.length_map] at hi' hj'
 have a : ms[i.toNat]? = some ms[i.toNat] := List.getElem?_eq_getElem (by omega)
 have b : ms[j.toNat]? = some ms[j.toNat] := List.getElem?_eq_getElem (by omega)
 simp only [matN, a, b] at e
 exact names_inj h hi hj a b e
theorem matN_cons {ms : List Mat} (h : nmL (ms.map (·.name)) = true) {i : Int} (hi : 0 ≤ i) (hi' : i ≤ ((ms.map Mat.cells).length : Int) - 1) : ∃ b r, matN ms i = b :: r ∧ wch b = true := by
 simp only [List.length_map] at hi'
 have a : ms[i.toNat]? = some ms[i.toNat] := List.getElem?_eq_getElem (by omega)
 have hw := matN_wd h i
 simp only [nmL, Bool.and_eq_true, List.all_eq_true] at h
 have := h.1 _ (List.mem_map.2 ⟨_, List.mem_of_getElem? a, rfl⟩)
 simp only [isNm, Bool.and_eq_true] at this
 simp only [matN, a] at hw ⊢
 match hn : (ms[i.toNat]).name, this with
 | [], q => rw [nameFst] at q; simp at q
 | b :: r, _ => exact ⟨b, r, rfl, hw b (by rw [hn]; simp)⟩
theorem Part.facts {m : Int} {p : Part} (h : p.good m = true) : (p.laps = 0 ∧ 0 ≤ p.mat ∧ p.mat ≤ m ∧ p.parts = []) ∨ (1 ≤ p.laps ∧ p.mat = 0 ∧ ∀ x ∈ p.parts, x.good m = true) := by
 rw [Part.good_eq] at h
 split at h
 · simp only [Bool.and_eq_true, inR, decide_eq_true_eq] at h
   exact .inl ⟨by assumption, h.1.1, h.1.2, List.eq_nil_of_length_eq_zero (by omega)⟩
 · simp only [Bool.and_eq_true, inR, decide_eq_true_eq, List.all_eq_true] at h
   exact .inr ⟨h.1.1, h.2.1, h.2.2.2⟩
theorem ptx_mat {ms : List Mat} {p : Part} (h : p.laps = 0) (u : List UInt8) : p.tx ms ++ u = matN ms p.mat ++ 59 :: u := by
 rw [Part.tx_eq, if_pos h]; simp only [List.append_assoc, List.cons_append, List.nil_append]
theorem ptx_laps {ms : List Mat} {p : Part} (h : p.laps ≠ 0) (u : List UInt8) : p.tx ms ++ u = [108, 97, 112, 115] ++ 32 :: (Lib.itoa p.laps ++ 32 :: 123 :: 32 :: (partsT ms p.parts ++ 32 :: 125 :: u)) := by
 rw [Part.tx_eq, if_neg h]; simp only [List.append_assoc, List.cons_append, List.nil_append]
theorem Wd.laps : Wd [108, 97, 112, 115] := by intro b hb; revert b; decide
theorem ptx_cons {ms : List Mat} (hn : nmL (ms.map (·.name)) = true) {p : Part} (h : p.good (((ms.map Mat.cells).length : Int) - 1) = true) : ∃ b r, p.tx ms = b :: r ∧ wch b = true := by
 rcases Part.facts h with ⟨k, h0, h1, _⟩ | ⟨k, _⟩
 · have e := ptx_mat (ms := ms) k []
   obtain ⟨b, r, e2, hw⟩ := matN_cons hn h0 h1
   rw [List.append_nil, e2] at e
   exact ⟨b, _, e, hw⟩
 · have e := ptx_laps (ms := ms) (by omega : p.laps ≠ 0) []
   rw [List.append_nil] at e
   exact ⟨_, _, e, by decide⟩
/-- what may stand behind the parts of a route -/
def PE (ms : List Mat) (s : List UInt8) : Prop := ∀ x : Part, x.good (((ms.map Mat.cells).length : Int) - 1) = true → ∀ u, s ≠ 32 :: (x.tx ms ++ u) ∧ s ≠ x.tx ms ++ u
theorem PE.brace {ms : List Mat} (hn : nmL (ms.map (·.name)) = true) {s : List UInt8} : PE ms (32 :: 125 :: s) := fun _ hx u => no_brace (ptx_cons hn hx) u
theorem PE.word {ms : List Mat} (hn : nmL (ms.map (·.name)) = true) {w s : List UInt8} (hw : Wd w) (hl : w ≠ [108, 97, 112, 115]) : PE ms (32 :: (w ++ 32 :: s)) := by
 intro x hx u
 constructor
 · intro e
   rw [List.cons.injEq] at e
   have e := e.2
   rcases Part.facts hx with ⟨k, h0, h1, h2⟩ | ⟨k, h0, h1⟩
   · rw [ptx_mat k] at e
     exact absurd (hw.cut (matN_wd hn _) e).2.1 (by decide)
   · rw [ptx_laps (by omega)] at e
     exact hl (hw.cut .laps e).1
 · intro e
   obtain ⟨b, r, e2, h⟩ := ptx_cons hn hx
   rw [e2, List.cons_append, List.cons.injEq] at e
   rw [← e.1] at h; exact absurd h (by decide)
theorem parts_tell {ms : List Mat} {l l' : List Part} (hv : ∀ x ∈ l, x.good (((ms.map Mat.cells).length : Int) - 1) = true) (hv' : ∀ x ∈ l', x.good (((ms.map Mat.cells).length : Int) - 1) = true)
 (hf : ∀ x ∈ l, ∀ y ∈ l', ∀ s t, x.tx ms ++ s = y.tx ms ++ t → x = y ∧ s = t) (s t : List UInt8) (hs : PE ms s) (ht : PE ms t) (h : partsT ms l ++ s = partsT ms l' ++ t) : l = l' ∧ s = t := by
 have := sep_tell (Part.tx ms) id (fun _ => True) true l l' (fun x hx y hy s t e _ _ => hf x hx y hy s t e) (fun x hx u => True.intro) s t True.intro True.intro
  (fun x hx u => hs x (hv' x hx) u) (fun x hx u => ht x (hv x hx) u) h
 simpa using this
theorem part_tell {ms : List Mat} (hn : nmL (ms.map (·.name)) = true) (p : Part) (hp : p.good (((ms.map Mat.cells).length : Int) - 1) = true) (q : Part) (hq : q.good (((ms.map Mat.cells).length : Int) - 1) = true) (u v : List UInt8) (h : p.tx ms ++ u = q.tx ms ++ v) : p = q ∧ u = v := by
 rcases Part.facts hp with ⟨k, h0, h1, h2⟩ | ⟨k, h0, h1⟩
 · rw [ptx_mat k] at h
   rcases Part.facts hq with ⟨j, k0, k1, k2⟩ | ⟨j, k0, k1⟩
   · rw [ptx_mat j] at h
     obtain ⟨e, _, h9⟩ := (matN_wd hn _).cut (matN_wd hn _) h
     have := matN_inj hn h0 h1 k0 k1 e
     clear h
     obtain ⟨a, b, c⟩ := p
     obtain ⟨a', b', c'⟩ := q
     dsimp only at *
     rw [this, k, j, h2, k2, h9]
     exact ⟨rfl, rfl⟩
   · rw [ptx_laps (by omega)] at h
     obtain ⟨_, e, _⟩ := (matN_wd hn _).cut .laps h
     exact absurd e (by decide)
 · rw [ptx_laps (by omega)] at h
   rcases Part.facts hq with ⟨j, k0, k1, k2⟩ | ⟨j, k0, k1⟩
   · rw [ptx_mat j] at h
     obtain ⟨_, e, _⟩ := Wd.laps.cut (matN_wd hn _) h
     exact absurd e (by decide)
   · rw [ptx_laps (by omega), List.append_cancel_left_eq, List.cons.injEq] at h
     obtain ⟨e, h⟩ := itoa_cut (by omega) (by omega) h.2
     simp only [List.cons.injEq, true_and] at h
     obtain ⟨e2, h9⟩ := parts_tell h1 k1 (fun x hx y hy a b qq => by
      have := Part.size_part hx
      exact part_tell hn x (h1 x hx) y (k1 y hy) a b qq) _ _ (.brace hn) (.brace hn) h
     simp only [List.cons.injEq, true_and] at h9
     clear h
     obtain ⟨a, b, c⟩ := p
     obtain ⟨a', b', c'⟩ := q
     dsimp only at *
     rw [h0, k0, e, e2, h9]
     exact ⟨rfl, rfl⟩
termination_by SizeOf.sizeOf p
decreasing_by assumption
theorem route_tell {ms : List Mat} (hn : nmL (ms.map (·.name)) = true) {l l' : List Part} (hv : ∀ x ∈ l, x.good (((ms.map Mat.cells).length : Int) - 1) = true) (hv' : ∀ x ∈ l', x.good (((ms.map Mat.cells).length : Int) - 1) = true)
 (s t : List UInt8) (hs : PE ms s) (ht : PE ms t) (h : partsT ms l ++ s = partsT ms l' ++ t) : l = l' ∧ s = t :=
 parts_tell hv hv' (fun x hx y hy u v q => part_tell hn x (hv x hx) y (hv' y hy) u v q) s t hs ht h
end Go.Proofs.YteckbkljaneppaaGreatDoor.Dx
