/- Quoted texts, in the code and in the reference. -/
import Derived.Test.YtedjnaggkakphaaGreatDoorDt
set_option linter.all false
namespace Go.Proofs.YtedjnaggkakphaaGreatDoor.Dx
open Go Go.RowKit Go.Proofs
set_option maxRecDepth 100000
set_option maxHeartbeats 8000000
theorem idx_bound (s : List UInt8) (c : UInt8) : -1 ≤ Lib.indexByte s c ∧ Lib.indexByte s c ≤ s.length := by
 refine ⟨Lib.indexByte_ge s c, ?_⟩
 induction s with
 | nil => show (-1 : Int) ≤ 0; decide
 | cons b l ih =>
   unfold Lib.indexByte
   simp only [List.length_cons]
   split
   · omega
   split <;> omega
theorem IndexByte_meets (s : List UInt8) (c : UInt8) (hs : s.length ≤ 1000) : Meets Tryz.prog 96 [.str s, .v (.int .u8 (c.toNat : Int))] fun d => d = iD (Lib.indexByte s c) := by
 refine Meets.still ⟨Tryz.f96, _, Tryz.func96, rfl, by kernel_rfl⟩ fun V W xs hS hx => ?_
 obtain ⟨u, w, rfl, h1, h2⟩ := hx.two
 obtain ⟨rfl, _⟩ := h1.str_inv
 obtain ⟨rfl, _⟩ := Rep.v_inv h2
 refine (Tryz.strings_IndexByte ⟨⟨s⟩⟩ _ W).mono ?_
 rintro e W' ⟨rfl, rfl⟩
 have e : ((c.toNat : Int)).toNat.toUInt8 = c := by
  rw [Int.toNat_natCast]; exact UInt8.ofNat_toNat
 rw [e]
 have hb := idx_bound s c
 exact ⟨_, rfl, rfl, Rep.int (i64 (by show _ ≤ Lib.indexByte s c; omega) (by show Lib.indexByte s c ≤ _; omega))⟩
/-- an escaped byte, by its place -/
def escI (d : UInt8) : Int := if d = 34 then 0 else if d = 92 then 1 else if d = 110 then 2 else -1
theorem esc_place (d : UInt8) : Lib.indexByte [34, 92, 110] d = escI d := by
 have h : ∀ n : Fin 256, Lib.indexByte [34, 92, 110] (UInt8.ofNat n.1) = escI (UInt8.ofNat n.1) := by decide +kernel
 have := h ⟨d.toNat, d.toNat_lt⟩
 simpa using this
theorem quo_end (t : List UInt8) : quoN (34 :: t) = some ([], 1) := by unfold quoN; rfl
theorem quo_bad {c : UInt8} {t : List UInt8} (h1 : c ≠ 34) (h2 : c < 32 ∨ c > 126) : quoN (c :: t) = none := by
 unfold quoN; rw [if_neg h1, if_pos h2]
theorem quo_ord {c : UInt8} {t : List UInt8} (h1 : c ≠ 34) (h2 : ¬ (c < 32 ∨ c > 126)) (h3 : c ≠ 92) : quoN (c :: t) = (quoN t).map fun x => (c :: x.1, x.2 + 1) := by
 conv => lhs; unfold quoN
 rw [if_neg h1, if_neg h2, if_neg h3]
 cases quoN t <;> rfl
theorem quo_one : quoN [92] = none := by unfold quoN; rfl
theorem quo_esc (d : UInt8) (t : List UInt8) : quoN (92 :: d :: t) = match escB d with | some x => (quoN t).map fun y => (x :: y.1, y.2 + 2) | none => none := by
 conv => lhs; unfold quoN
 rw [if_neg (by decide), if_neg (by decide), if_pos rfl]
 dsimp only
 cases escB d with
 | none => rfl
 | some x => cases quoN t <;> rfl
/-- what a quoted text comes to, when some of it has been read -/
def quoR (acc : List UInt8) (i : Nat) (o : Option (List UInt8 × Nat)) : Option (List UInt8 × Nat) := o.map fun x => (acc ++ x.1, x.2 + i)
def quoD : Option (List UInt8 × Nat) → D | some (s, n) => .tup [.str s, iD n] | none => .tup [.str [], iD 0]
theorem quoR_map (acc : List UInt8) (i : Nat) (x : UInt8) (k : Nat) (o : Option (List UInt8 × Nat)) : quoR acc i (o.map fun y => (x :: y.1, y.2 + k)) = quoR (acc ++ [x]) (i + k) o := by
 cases o with
 | none => rfl
 | some y => simp only [quoR, Option.map_some, List.append_assoc, List.singleton_append]; congr 2; omega
/-- appends: one row; room -/
theorem Kar {n : Nat} {ds : List D} {E : Prop} (e : E) (h : ds.length = n := by rfl) : (∀ x ∈ [ds], x.length = n) ∧ E :=
 ⟨fun x hx => by rw [List.mem_singleton.1 hx]; exact h, e⟩
theorem Kap {xs ys : List (List D)} {b : Nat} {E : Prop} (e : E) (h : xs.length + ys.length ≤ 4611686018427387904 ∧ (xs.length + ys.length) * b ≤ 140737488355328 := by (dsimp only at *; simp only [List.length_map, List.length_cons, List.length_nil]; omega)) :
 (xs.length ≤ maxLen → ys.length ≤ maxLen → xs.length + ys.length ≤ 4611686018427387904 ∧ (xs.length + ys.length) * b ≤ 140737488355328) ∧ E := ⟨fun _ _ => h, e⟩
theorem u8_eq {b : UInt8} {n : Nat} (hn : n < 256) : (b = UInt8.ofNat n) ↔ ((b.toNat : Int) = (n : Int)) := by
 rw [← UInt8.toNat_inj, UInt8.toNat_ofNat']; omega
theorem bcs (acc : List UInt8) (b : UInt8) : byteCells acc ++ [[cD (b.toNat : Int)]] = byteCells (acc ++ [b]) := by simp [byteCells]
theorem u8_lt {b : UInt8} {n : Nat} (hn : n < 256) : (b < UInt8.ofNat n) ↔ ((b.toNat : Int) < (n : Int)) := by
 rw [UInt8.lt_iff_toNat_lt, UInt8.toNat_ofNat']; omega
theorem u8_gt {b : UInt8} {n : Nat} (hn : n < 256) : (b > UInt8.ofNat n) ↔ ((b.toNat : Int) > (n : Int)) := by
 show (UInt8.ofNat n < b) ↔ _
 rw [UInt8.lt_iff_toNat_lt, UInt8.toNat_ofNat']; omega
/-- quoN by numbers -/
theorem quo_cases (c : UInt8) (t : List UInt8) (acc : List UInt8) (i : Nat) :
 ((c.toNat : Int) = 34 → quoR acc i (quoN (c :: t)) = some (acc, i + 1)) ∧
 (¬ (c.toNat : Int) = 34 → ((c.toNat : Int) < 32 ∨ (c.toNat : Int) > 126) → quoR acc i (quoN (c :: t)) = none) ∧
 (¬ (c.toNat : Int) = 34 → ¬ (c.toNat : Int) < 32 → ¬ (c.toNat : Int) > 126 → ¬ (c.toNat : Int) = 92 → quoR acc i (quoN (c :: t)) = quoR (acc ++ [c]) (i + 1) (quoN t)) ∧
 ((c.toNat : Int) = 92 → t = [] → quoR acc i (quoN (c :: t)) = none) ∧
 (∀ d r, (c.toNat : Int) = 92 → t = d :: r → ((d.toNat : Int) = 34 ∨ (d.toNat : Int) = 92 → quoR acc i (quoN (c :: t)) = quoR (acc ++ [d]) (i + 2) (quoN r)) ∧ ((d.toNat : Int) = 110 → quoR acc i (quoN (c :: t)) = quoR (acc ++ [10]) (i + 2) (quoN r)) ∧
   (¬ (d.toNat : Int) = 34 → ¬ (d.toNat : Int) = 92 → ¬ (d.toNat : Int) = 110 → quoR acc i (quoN (c :: t)) = none)) := by
 have e34 : c = 34 ↔ (c.toNat : Int) = 34 := u8_eq (n := 34) (by decide)
 have e92 : c = 92 ↔ (c.toNat : Int) = 92 := u8_eq (n := 92) (by decide)
 have e32 : c < 32 ↔ (c.toNat : Int) < 32 := u8_lt (n := 32) (by decide)
 have e126 : c > 126 ↔ (c.toNat : Int) > 126 := u8_gt (n := 126) (by decide)
 refine ⟨fun h => ?_, fun h1 h2 => ?_, fun h1 h2 h3 h4 => ?_, fun h1 h2 => ?_, fun d r h1 h2 => ?_⟩
 · rw [e34.2 h, quo_end]
   simp [quoR]; omega
 · rw [quo_bad (fun h => h1 (e34.1 h)) (by rw [e32, e126]; exact h2)]; rfl
 · rw [quo_ord (fun h => h1 (e34.1 h)) (by rw [e32, e126]; omega) (fun h => h4 (e92.1 h)), quoR_map]
 · rw [e92.2 h1, h2, quo_one]; rfl
 · subst h2
   rw [e92.2 h1, quo_esc]
   have d34 : d = 34 ↔ (d.toNat : Int) = 34 := u8_eq (n := 34) (by decide)
   have d92 : d = 92 ↔ (d.toNat : Int) = 92 := u8_eq (n := 92) (by decide)
   have d110 : d = 110 ↔ (d.toNat : Int) = 110 := u8_eq (n := 110) (by decide)
   refine ⟨fun h => ?_, fun h => ?_, fun h3 h4 h5 => ?_⟩
   · have : escB d = some d := by
      rcases h with h | h
      · rw [d34.2 h]; rfl
      · rw [d92.2 h]; rfl
     rw [this]
     exact quoR_map acc i d 2 _
   · rw [d110.2 h]
     exact quoR_map acc i 10 2 _
   · have : escB d = none := by
      rw [escB, if_neg (fun h => h3 (d34.1 h)), if_neg (fun h => h4 (d92.1 h)), if_neg (fun h => h5 (d110.1 h))]
     rw [this]; rfl
theorem quoted_meets (l : List UInt8) (hl : l.length ≤ 65536) : Meets Tryz.prog 68 [.sl (byteCells l)] fun d => d = quoD (quoR [] 1 (quoN (l.drop 1))) := by
 refine enter tok {} Tryz.func68 rfl (by kernel_rfl) Tryz.ntmps68 (by simp) fun B0 W0 V0 lent g0 => ?_
 ((conv => whnf); repeat' (refine Z rfl ?_; conv => whnf))
 refine loop_upd tok {} [(.inl 4, 4, 5, 1)] (X := Nat × List UInt8) (fun x => [(5, iB x.1), (4, .own 4)]) (fun x => [(4, .sl ⟨5, 1, byteCells x.2, true⟩)]) [] (fun x => 1 ≤ x.1 ∧ x.1 ≤ l.length + 1 ∧ x.2.length ≤ x.1 ∧ quoR x.2 x.1 (quoN (l.drop x.1)) = quoR [] 1 (quoN (l.drop 1))) (fun x => l.length + 1 - x.1) (1, []) ?_
 ((conv => whnf); repeat' (refine Z rfl ?_; conv => whnf))
 refine ⟨by simp, ?_⟩
 ((conv => whnf); repeat' (refine Z rfl ?_; conv => whnf))
 refine And.intro ?_ ⟨⟨by omega, by dsimp only; omega, by simp, rfl⟩, fun x hΦ => ?_⟩
 · exact Kr
 obtain ⟨i, acc⟩ := x
 dsimp only at hΦ ⊢
 obtain ⟨hi, hj, hk, he⟩ := hΦ
 rw [← he]
 ((conv => whnf); repeat' (refine Z rfl ?_; conv => whnf))
 repeat' ((first | (intro hlq; (try simp only [SL] at hlq)) | refine Ks ?_ | refine Kq ?_ | refine Kt ?_ | refine Ka ?_ | refine Kb ?_ | refine Kc (hd := rfl) (e := ?_) | refine Kc (hd := icells_eq _) (e := ?_) | refine Kd (e := ?_) | refine Kl rfl ?_ | fail) <;> ((conv => whnf); repeat' (refine Z rfl ?_; conv => whnf)))
 refine ⟨fun h1 => ?_, fun h1 => ?_⟩ <;> (try simp only [BL] at h1) <;> ((conv => whnf); repeat' (refine Z rfl ?_; conv => whnf))
 · have h1' : i < l.length := by omega
   have e := List.drop_eq_getElem_cons h1'
   rw [e] at he ⊢
   obtain ⟨c1, c2, c3, c4, c5⟩ := quo_cases l[i] (l.drop (i + 1)) acc i
   have hk' : acc.length ≤ 65537 := by omega
   have hfin : ∀ {x : UInt8} {j : Nat}, j ≤ l.length → i < j → quoR acc i (quoN (l[i] :: l.drop (i + 1))) = quoR (acc ++ [x]) j (quoN (l.drop j)) → 1 ≤ j ∧ j ≤ l.length + 1 ∧ (acc ++ [x]).length ≤ j ∧ quoR (acc ++ [x]) j (quoN (l.drop j)) = quoR acc i (quoN (l[i] :: l.drop (i + 1))) := by
    intro x j h1 h2 h3
    refine ⟨by omega, by omega, by rw [List.length_append, List.length_singleton]; omega, h3.symm⟩
   by_cases he92 : (l[i].toNat : Int) = 92
   · by_cases hlt : i + 1 < l.length
     · have e2 := List.drop_eq_getElem_cons hlt
       obtain ⟨d1, d2, d3⟩ := c5 _ _ he92 e2
       have hI : Lib.indexByte [34, 92, 110] l[i + 1] = escI l[i + 1] := esc_place _
       have k1 := IndexByte_meets [34, 92, 110] l[i + 1] (by decide)
       rw [hI] at k1
       have x34 : l[i + 1] = 34 ↔ (l[i + 1].toNat : Int) = 34 := u8_eq (n := 34) (by decide)
       have x92 : l[i + 1] = 92 ↔ (l[i + 1].toNat : Int) = 92 := u8_eq (n := 92) (by decide)
       have x110 : l[i + 1] = 110 ↔ (l[i + 1].toNat : Int) = 110 := u8_eq (n := 110) (by decide)
       unfold escI at k1
       simp only [x34, x92, x110] at k1
       by_cases y34 : (l[i + 1].toNat : Int) = 34
       · rw [if_pos y34] at k1
         repeat' ((first | (intro hlq; (try simp only [SL] at hlq)) | refine Meets.k (k1) ?_ | refine Kar ?_ | refine Kap ?_ | refine ⟨34, ⟨by omega, rfl⟩, ?_⟩ | refine Ks ?_ | refine Kq ?_ | refine Kt ?_ | ((refine Kh (fun hb => ?_) fun hb => ?_) <;> (try simp only [BL] at hb)) | refine Ka ?_ | refine Kb ?_ | refine Kc (hd := rfl) (e := ?_) | refine Kc (hd := rfl) (e := ?_) | refine Kd (e := ?_) | refine Kl rfl ?_ | fail) <;> ((conv => whnf); repeat' (refine Z rfl ?_; conv => whnf)))
         all_goals first
          | (exfalso; omega)
          | (refine ⟨⟨(i + 2, acc ++ [l[i + 1]]), ?_, hfin (j := i + 2) (by omega) (by omega) (d1 (.inl y34)), by dsimp only; omega⟩⟩
             dsimp only
             rw [← bcs, x34.2 y34]
             repeat' (first | exact True.intro | exact rfl | refine And.intro ?_ ?_))
       rw [if_neg y34] at k1
       by_cases y92 : (l[i + 1].toNat : Int) = 92
       · rw [if_pos y92] at k1
         repeat' ((first | (intro hlq; (try simp only [SL] at hlq)) | refine Meets.k (k1) ?_ | refine Kar ?_ | refine Kap ?_ | refine ⟨92, ⟨by omega, rfl⟩, ?_⟩ | refine Ks ?_ | refine Kq ?_ | refine Kt ?_ | ((refine Kh (fun hb => ?_) fun hb => ?_) <;> (try simp only [BL] at hb)) | refine Ka ?_ | refine Kb ?_ | refine Kc (hd := rfl) (e := ?_) | refine Kc (hd := rfl) (e := ?_) | refine Kd (e := ?_) | refine Kl rfl ?_ | fail) <;> ((conv => whnf); repeat' (refine Z rfl ?_; conv => whnf)))
         all_goals first
          | (exfalso; omega)
          | (refine ⟨⟨(i + 2, acc ++ [l[i + 1]]), ?_, hfin (j := i + 2) (by omega) (by omega) (d1 (.inr y92)), by dsimp only; omega⟩⟩
             dsimp only
             rw [← bcs, x92.2 y92]
             repeat' (first | exact True.intro | exact rfl | refine And.intro ?_ ?_))
       rw [if_neg y92] at k1
       by_cases y110 : (l[i + 1].toNat : Int) = 110
       · rw [if_pos y110] at k1
         repeat' ((first | (intro hlq; (try simp only [SL] at hlq)) | refine Meets.k (k1) ?_ | refine Kar ?_ | refine Kap ?_ | refine ⟨10, ⟨by omega, rfl⟩, ?_⟩ | refine Ks ?_ | refine Kq ?_ | refine Kt ?_ | ((refine Kh (fun hb => ?_) fun hb => ?_) <;> (try simp only [BL] at hb)) | refine Ka ?_ | refine Kb ?_ | refine Kc (hd := rfl) (e := ?_) | refine Kc (hd := rfl) (e := ?_) | refine Kd (e := ?_) | refine Kl rfl ?_ | fail) <;> ((conv => whnf); repeat' (refine Z rfl ?_; conv => whnf)))
         all_goals first
          | (exfalso; omega)
          | (refine ⟨⟨(i + 2, acc ++ [10]), ?_, hfin (j := i + 2) (by omega) (by omega) (d2 y110), by dsimp only; omega⟩⟩
             dsimp only
             rw [← bcs]
             repeat' (first | exact True.intro | exact rfl | refine And.intro ?_ ?_))
       rw [if_neg y110] at k1
       rw [d3 y34 y92 y110]
       repeat' ((first | (intro hlq; (try simp only [SL] at hlq)) | refine Meets.k (k1) ?_ | refine Ks ?_ | refine Kq ?_ | refine Kt ?_ | ((refine Kh (fun hb => ?_) fun hb => ?_) <;> (try simp only [BL] at hb)) | refine Ka ?_ | refine Kb ?_ | refine Kc (hd := rfl) (e := ?_) | refine Kc (hd := rfl) (e := ?_) | refine Kd (e := ?_) | refine Kl rfl ?_ | fail) <;> ((conv => whnf); repeat' (refine Z rfl ?_; conv => whnf)))
       all_goals first
        | exact ⟨rfl⟩
        | (exfalso; omega)
     · have e2 : List.drop (i + 1) l = [] := List.drop_eq_nil_of_le (by omega)
       rw [c4 he92 e2]
       repeat' ((first | (intro hlq; (try simp only [SL] at hlq)) | refine Ks ?_ | refine Kq ?_ | refine Kt ?_ | ((refine Kh (fun hb => ?_) fun hb => ?_) <;> (try simp only [BL] at hb)) | refine Ka ?_ | refine Kb ?_ | refine Kc (hd := rfl) (e := ?_) | refine Kc (hd := rfl) (e := ?_) | refine Kd (e := ?_) | refine Kl rfl ?_ | fail) <;> ((conv => whnf); repeat' (refine Z rfl ?_; conv => whnf)))
       all_goals first
        | exact ⟨rfl⟩
        | (exfalso; omega)
   · repeat' ((first | (intro hlq; (try simp only [SL] at hlq)) | refine ⟨acc, rfl, ?_⟩ | refine Kar ?_ | refine Kap ?_ | refine Ks ?_ | refine Kq ?_ | refine Kt ?_ | ((refine Kh (fun hb => ?_) fun hb => ?_) <;> (try simp only [BL] at hb)) | refine Ka ?_ | refine Kb ?_ | refine Kc (hd := rfl) (e := ?_) | refine Kc (hd := rfl) (e := ?_) | refine Kd (e := ?_) | refine Kl rfl ?_ | fail) <;> ((conv => whnf); repeat' (refine Z rfl ?_; conv => whnf)))
     all_goals first
      | (exfalso; omega)
      | (refine ⟨?_⟩; rw [c1 (by assumption)]; rfl)
      | (refine ⟨?_⟩; rw [c2 (by assumption) (.inl (by assumption))]; rfl)
      | (refine ⟨?_⟩; rw [c2 (by assumption) (.inr (by assumption))]; rfl)
      | (refine ⟨⟨(i + 1, acc ++ [l[i]]), ?_, hfin (by omega) (by omega) (c3 (by omega) (by omega) (by omega) he92), by dsimp only; omega⟩⟩
         dsimp only
         rw [← bcs]
         repeat' (first | exact True.intro | exact rfl | refine And.intro ?_ ?_))
 · refine ⟨?_⟩
   rw [List.drop_eq_nil_of_le (by omega)]
   rfl
end Go.Proofs.YtedjnaggkakphaaGreatDoor.Dx
/- The reference's small functions: letter, inner, Sign, Integer. -/
namespace Go.Proofs.YtedjnaggkakphaaGreatDoor.Dx
open Go Go.RowKit Go.Proofs
set_option maxRecDepth 100000
set_option maxHeartbeats 8000000
theorem rletter_meets (b : UInt8) : Meets Tryz.prog 76 [.v (.int .u8 (b.toNat : Int))] fun d => d = bD (isLt b) := by
 refine enter tok {} Tryz.func76 rfl (by kernel_rfl) Tryz.ntmps76 (by simp) fun B0 W0 V0 lent g0 => ?_
 ((conv => whnf); repeat' (refine Z rfl ?_; conv => whnf))
 repeat' ((first | (intro hlq; (try simp only [SL] at hlq)) | refine Ks ?_ | refine Kq ?_ | refine Kt ?_ | ((refine Kh (fun hb => ?_) fun hb => ?_) <;> (try simp only [BL] at hb)) | refine Ka ?_ | refine Kb ?_ | refine Kc (hd := rfl) (e := ?_) | refine Kc (hd := icells_eq _) (e := ?_) | refine Kd (e := ?_) | refine Kl rfl ?_ | fail) <;> ((conv => whnf); repeat' (refine Z rfl ?_; conv => whnf)))
 all_goals
  refine ⟨congrArg bD ?_⟩
  simp only [isLt]
  first
   | (simp_all; done)
   | (rw [Bool.eq_iff_iff]; simp; omega)
theorem rinner_meets (b : UInt8) : Meets Tryz.prog 77 [.v (.int .u8 (b.toNat : Int))] fun d => d = bD (inB b) := by
 have h := beq_c b 95
 refine enter tok {} Tryz.func77 rfl (by kernel_rfl) Tryz.ntmps77 (by simp) fun B0 W0 V0 lent g0 => ?_
 ((conv => whnf); repeat' (refine Z rfl ?_; conv => whnf))
 repeat' ((first | (intro hlq; (try simp only [SL] at hlq)) | refine Meets.k (rletter_meets b) ?_ | refine Meets.k (rdigit_meets b) ?_ | refine Ks ?_ | refine Kq ?_ | refine Kt ?_ | ((refine Kh (fun hb => ?_) fun hb => ?_) <;> (try simp only [BL] at hb)) | refine Ka ?_ | refine Kb ?_ | refine Kc (hd := rfl) (e := ?_) | refine Kc (hd := icells_eq _) (e := ?_) | refine Kd (e := ?_) | refine Kl rfl ?_ | fail) <;> ((conv => whnf); repeat' (refine Z rfl ?_; conv => whnf)))
 all_goals
  refine ⟨congrArg bD ?_⟩
  rw [inB, h]
  simp_all
def sgnL (s : List UInt8) : Bool := [[123], [125], [40], [41], [91], [93], [59], [44], [46, 46], [61], [60], [62], [60, 61], [62, 61]].contains s
theorem rSign_meets (s : List UInt8) : Meets Tryz.prog 42 [.str s] fun d => d = bD (sgnL s) := by
 refine enter tok {} Tryz.func42 rfl (by kernel_rfl) Tryz.ntmps42 (by simp) fun B0 W0 V0 lent g0 => ?_
 ((conv => whnf); repeat' (refine Z rfl ?_; conv => whnf))
 repeat' ((first | (intro hlq; (try simp only [SL] at hlq)) | refine Ks ?_ | refine Kq ?_ | refine Kt ?_ | ((refine Kh (fun hb => ?_) fun hb => ?_) <;> (try simp only [BL] at hb)) | refine Ka ?_ | refine Kb ?_ | refine Kc (hd := rfl) (e := ?_) | refine Kc (hd := icells_eq _) (e := ?_) | refine Kd (e := ?_) | refine Kl rfl ?_ | fail) <;> ((conv => whnf); repeat' (refine Z rfl ?_; conv => whnf)))
 all_goals refine ⟨congrArg bD ?_⟩
 all_goals first
  | (subst hb; decide)
  | (simp only [sgnL, List.contains_eq_mem]; simp; (repeat' (first | assumption | refine And.intro ?_ ?_)))
theorem rInteger_meets (s : List UInt8) : Meets Tryz.prog 39 [.str s] fun d => d = bD (intgB s) := by
 rcases s with _ | ⟨b, r⟩
 · refine enter tok {} Tryz.func39 rfl (by kernel_rfl) Tryz.ntmps39 (by simp) fun B0 W0 V0 lent g0 => ?_
   ((conv => whnf); repeat' (refine Z rfl ?_; conv => whnf))
   repeat' ((first | (intro hlq; (try simp only [SL] at hlq)) | refine Meets.k (rNumeral_meets []) ?_ | refine Ks ?_ | refine Kq ?_ | refine Kt ?_ | ((refine Kh (fun hb => ?_) fun hb => ?_) <;> (try simp only [BL] at hb)) | refine Ka ?_ | refine Kb ?_ | refine Kc (hd := rfl) (e := ?_) | refine Kc (hd := icells_eq _) (e := ?_) | refine Kd (e := ?_) | refine Kl rfl ?_ | fail) <;> ((conv => whnf); repeat' (refine Z rfl ?_; conv => whnf)))
   all_goals first
    | (exfalso
       have h9 := (by assumption : (([] : List UInt8).length : Int) > 0)
       simp at h9)
    | exact ⟨rfl⟩
 · by_cases hb45 : b = 45
   · subst hb45
     have e : List.drop (Int.toNat 1) (List.take (Int.toNat ((45 :: r).length : Int)) (45 :: r)) = r := by
      rw [Int.toNat_natCast, List.take_of_length_le (Nat.le_refl _)]; rfl
     have k : Meets Tryz.prog 52 [.str (List.drop (Int.toNat 1) (List.take (Int.toNat ((45 :: r).length : Int)) (45 :: r)))] fun d => d = bD (numB r) := by
      rw [e]; exact rNumeral_meets r
     refine enter tok {} Tryz.func39 rfl (by kernel_rfl) Tryz.ntmps39 (by simp) fun B0 W0 V0 lent g0 => ?_
     ((conv => whnf); repeat' (refine Z rfl ?_; conv => whnf))
     repeat' ((first | (intro hlq; (try simp only [SL] at hlq)) | refine ⟨45, ⟨by omega, rfl⟩, ?_⟩ | refine Meets.k (k) ?_ | refine Ks ?_ | refine Kq ?_ | refine Kt ?_ | ((refine Kh (fun hb => ?_) fun hb => ?_) <;> (try simp only [BL] at hb)) | refine Ka ?_ | refine Kb ?_ | refine Kc (hd := rfl) (e := ?_) | refine Kc (hd := icells_eq _) (e := ?_) | refine Kd (e := ?_) | refine Kl rfl ?_ | fail) <;> ((conv => whnf); repeat' (refine Z rfl ?_; conv => whnf)))
     all_goals first
      | (exfalso
         have h9 := (by assumption : ¬ ((UInt8.toNat 45 : Int) = 45))
         exact h9 rfl)
      | (exfalso
         have h9 := (by assumption : ¬ ((45 :: r).length : Int) > 0)
         simp only [List.length_cons] at h9; omega)
      | (refine ⟨congrArg bD ?_⟩; simp_all [intgB]; done)
   · have hb' : ¬ (b.toNat : Int) = 45 := fun e => hb45 (UInt8.toNat_inj.1 (by have : (45 : UInt8).toNat = 45 := rfl; omega))
     have hp : intgB (b :: r) = numB (b :: r) := intgB_plus (by rintro r' e; cases e; exact hb45 rfl)
     refine enter tok {} Tryz.func39 rfl (by kernel_rfl) Tryz.ntmps39 (by simp) fun B0 W0 V0 lent g0 => ?_
     ((conv => whnf); repeat' (refine Z rfl ?_; conv => whnf))
     repeat' ((first | (intro hlq; (try simp only [SL] at hlq)) | refine ⟨b, ⟨by omega, rfl⟩, ?_⟩ | refine Meets.k (rNumeral_meets (b :: r)) ?_ | refine Ks ?_ | refine Kq ?_ | refine Kt ?_ | ((refine Kh (fun hb => ?_) fun hb => ?_) <;> (try simp only [BL] at hb)) | refine Ka ?_ | refine Kb ?_ | refine Kc (hd := rfl) (e := ?_) | refine Kc (hd := icells_eq _) (e := ?_) | refine Kd (e := ?_) | refine Kl rfl ?_ | fail) <;> ((conv => whnf); repeat' (refine Z rfl ?_; conv => whnf)))
     all_goals first
      | contradiction
      | (rw [hp]; exact ⟨rfl⟩)
      | (exfalso
         have h9 := (by assumption : ¬ ((b :: r).length : Int) > 0)
         simp only [List.length_cons] at h9; omega)
end Go.Proofs.YtedjnaggkakphaaGreatDoor.Dx
