/- Chapter 06: a replacer of bytes replaces. -/
import Derived.Test.YtedjnaggkakphaaGreatDoorEf
import Derived.Test.YtedjnaggkakphaaGreatDoorDp
set_option linter.all false
namespace Go.Proofs.YtedjnaggkakphaaGreatDoor.Dx
open Go Go.RowKit
set_option maxRecDepth 100000
set_option maxHeartbeats 16000000
/-- a byte in quotes -/
def qtB (b : UInt8) : List UInt8 := if b = 34 then [92, 34] else if b = 92 then [92, 92] else if b = 10 then [92, 110] else [b]
def qtT (s : List UInt8) : List UInt8 := s.flatMap qtB
def qtE (b : UInt8) : Bool := decide (b = 34) || (decide (b = 92) || decide (b = 10))
theorem qtB_yes {b : UInt8} (h : qtE b = true) : (qtB b).length = 2 := by
 unfold qtE at h
 unfold qtB
 repeat' split
 all_goals first | rfl | (exfalso; simp_all)
theorem qtB_no {b : UInt8} (h : qtE b = false) : qtB b = [b] := by
 unfold qtE at h
 unfold qtB
 repeat' split
 all_goals first | rfl | (exfalso; simp_all)
theorem esc_len : ∀ s : List UInt8, (qtT s).length = s.length + s.countP qtE
 | [] => rfl
 | b :: s => by
   have ih := esc_len s
   unfold qtT at ih ⊢
   rw [List.flatMap_cons, List.length_append, ih, List.countP_cons, List.length_cons]
   cases h : qtE b with
   | true => rw [qtB_yes h, if_pos rfl]; omega
   | false => rw [qtB_no h, if_neg (by decide)]; simp; omega
theorem esc_same : ∀ {s : List UInt8}, s.countP qtE = 0 → qtT s = s
 | [], _ => rfl
 | b :: s, h => by
   rw [List.countP_cons] at h
   cases hb : qtE b with
   | true => rw [hb, if_pos rfl] at h; omega
   | false =>
     have ih := esc_same (s := s) (by omega)
     unfold qtT at ih ⊢
     rw [List.flatMap_cons, ih, qtB_no hb]; rfl
theorem count_E : ∀ s : List UInt8, s.countP qtE = s.count 10 + s.count 92 + s.count 34
 | [] => rfl
 | b :: s => by
   have ih := count_E s
   rw [List.countP_cons, ih, List.count_cons, List.count_cons, List.count_cons]
   unfold qtE
   by_cases h1 : b = 34
   · subst h1; simp; omega
   by_cases h2 : b = 92
   · subst h2; simp; omega
   by_cases h3 : b = 10
   · subst h3; simp; omega
   simp [h1, h2, h3]
theorem esc_snoc (s : List UInt8) {i : Nat} (h : i < s.length) : qtT (s.take (i + 1)) = qtT (s.take i) ++ qtB s[i] := by
 unfold qtT
 rw [List.take_succ_eq_append_getElem h, List.flatMap_append]
 simp
theorem rp_drop {b : Nat} (h : b < 256) : ∃ r, rpD.drop b = rpC b :: r := by
 unfold rpD
 rw [List.drop_append_of_le_length (by simp; omega), List.drop_eq_getElem_cons (by simpa using h), List.getElem_map, List.getElem_range]
 exact ⟨_, rfl⟩
theorem count_meets (s : List UInt8) (c : UInt8) : Meets Tryz.prog 104 [.str s, .str [c]] fun d => d = iD (s.count c) := by
 refine Meets.below ⟨Tryz.f104, _, Tryz.func104, rfl, by kernel_rfl⟩ fun V W xs hS hx => ?_
 obtain ⟨u, w, rfl, h1, h2⟩ := hx.two
 obtain ⟨rfl, hl⟩ := h1.str_inv
 obtain ⟨rfl, _⟩ := h2.str_inv
 refine (Tryz.strings_Count_one ⟨⟨s⟩⟩ c W).mono ?_
 rintro e W' ⟨rfl, rfl⟩
 refine ⟨_, rfl, .refl _ _, Rep.int (wf_nat ?_)⟩
 exact Nat.le_trans (List.count_le_length ..) hl
theorem u8n {b : UInt8} : ((b = 34) ↔ b.toNat = 34) ∧ ((b = 92) ↔ b.toNat = 92) ∧ ((b = 10) ↔ b.toNat = 10) :=
 ⟨⟨fun h => by rw [h]; rfl, fun h => UInt8.toNat_inj.1 h⟩, ⟨fun h => by rw [h]; rfl, fun h => UInt8.toNat_inj.1 h⟩, ⟨fun h => by rw [h]; rfl, fun h => UInt8.toNat_inj.1 h⟩⟩
theorem rpC_yes {b : UInt8} (h : qtE b = true) : ∃ z, qtB b = [92, z] ∧ rpC b.toNat = .sl (byteCells [92, z]) := by
 obtain ⟨e1, e2, e3⟩ := u8n (b := b)
 unfold qtE at h
 unfold qtB rpC
 by_cases h1 : b = 34
 · exact ⟨34, by rw [if_pos h1], by rw [if_pos (e1.1 h1)]⟩
 by_cases h2 : b = 92
 · exact ⟨92, by rw [if_neg h1, if_pos h2], by rw [if_neg (fun g => h1 (e1.2 g)), if_pos (e2.1 h2)]⟩
 by_cases h3 : b = 10
 · exact ⟨110, by rw [if_neg h1, if_neg h2, if_pos h3], by rw [if_neg (fun g => h1 (e1.2 g)), if_neg (fun g => h2 (e2.2 g)), if_pos (e3.1 h3)]⟩
 · simp [h1, h2, h3] at h
theorem rpC_no {b : UInt8} (h : qtE b = false) : rpC b.toNat = .raw (.slice none 0 0) := by
 obtain ⟨e1, e2, e3⟩ := u8n (b := b)
 unfold qtE at h
 simp only [Bool.or_eq_false_iff, decide_eq_false_iff_not] at h
 unfold rpC
 rw [if_neg (fun g => h.1 (e1.2 g)), if_neg (fun g => h.2.1 (e2.2 g)), if_neg (fun g => h.2.2 (e3.2 g))]
theorem count_snoc {s : List UInt8} {i : Nat} (h : i < s.length) : (s.take (i + 1)).countP qtE = (s.take i).countP qtE + if qtE s[i] then 1 else 0 := by
 rw [List.take_succ_eq_append_getElem h, List.countP_append]
 simp [List.countP_cons]
/-- the row that is filled, behind i bytes -/
def quX (s : List UInt8) (i : Nat) : List (List D) := byteCells (qtT (s.take i)) ++ List.replicate ((qtT s).length - (qtT (s.take i)).length) [.v (.int .u8 0)]
theorem quX_zero (s : List UInt8) : quX s 0 = List.replicate ((qtT s).length : Int).toNat [.v (.int .u8 0)] := by
 unfold quX
 simp [qtT, byteCells]
theorem qt_le (s : List UInt8) (i : Nat) : (qtT (s.take i)).length ≤ (qtT s).length := by
 have h : qtT s = qtT (s.take i) ++ qtT (s.drop i) := by
  unfold qtT
  rw [← List.flatMap_append, List.take_append_drop]
 rw [h, List.length_append]
 omega
theorem quX_len (s : List UInt8) (i : Nat) : (quX s i).length = (qtT s).length := by
 have := qt_le s i
 unfold quX byteCells
 rw [List.length_append, List.length_map, List.length_replicate]
 omega
theorem qt_step {s : List UInt8} {i : Nat} (h : i < s.length) : qtT (s.take (i + 1)) = qtT (s.take i) ++ qtB s[i] ∧ (qtT (s.take i)).length + (qtB s[i]).length ≤ (qtT s).length := by
 have e := esc_snoc s h
 have := qt_le s (i + 1)
 rw [e, List.length_append] at this
 exact ⟨e, this⟩
theorem setRun_split {α : Type} (cs vs : List α) (off : Nat) (h : off + vs.length ≤ cs.length) : setRun cs off vs = cs.take off ++ vs ++ cs.drop (off + vs.length) := by
 apply List.ext_getElem?
 intro j
 rw [setRun_get _ _ _ _ h]
 by_cases h1 : off ≤ j ∧ j < off + vs.length
 · rw [if_pos h1, List.append_assoc, List.getElem?_append_right (by simp; omega), List.getElem?_append_left (by simp; omega)]
   congr 1
   simp; omega
 · rw [if_neg h1]
   by_cases h2 : j < off
   · rw [List.append_assoc, List.getElem?_append_left (by simp; omega), List.getElem?_take, if_pos h2]
   · rw [List.getElem?_append_right (by simp; omega), List.getElem?_drop]
     congr 1
     simp; omega
theorem quX_put {s : List UInt8} {i : Nat} (h : i < s.length) {y : List UInt8} (hy : qtB s[i] = y) : setRun (quX s i) (qtT (s.take i)).length (byteCells y) = quX s (i + 1) := by
 obtain ⟨h1, h2⟩ := qt_step h
 have hl := quX_len s i
 have hb : (byteCells y).length = y.length := by simp [byteCells]
 have ha : (byteCells (qtT (s.take i))).length = (qtT (s.take i)).length := by simp [byteCells]
 rw [hy] at h1 h2
 rw [setRun_split _ _ _ (by rw [hl, hb]; exact h2), hb]
 unfold quX
 rw [h1, List.take_left' ha, ← ha, List.drop_append, List.drop_eq_nil_of_le (by omega), List.nil_append, List.drop_replicate]
 unfold byteCells
 rw [List.map_append]
 congr 2
 simp only [List.length_append, List.length_map]
 omega
theorem quX_at {s : List UInt8} {i : Nat} (h : (qtT (s.take i)).length < (qtT s).length) : (quX s i)[(qtT (s.take i)).length]? = some [.v (.int .u8 0)] := by
 have ha : (byteCells (qtT (s.take i))).length = (qtT (s.take i)).length := by simp [byteCells]
 unfold quX
 rw [List.getElem?_append_right (by omega), ha, Nat.sub_self, List.getElem?_replicate, if_pos (by omega)]
theorem replace258 (s : List UInt8) (hs : s.length ≤ 1099511627776) : Meets Tryz.prog 209 [.ptr rpD 0, .str s] fun d => d = .str (qtT s) := by
 have hd := fun (b : Nat) (h : b < 256) => rp_drop h
 have hcnt := count_E s
 have c1 := count_meets s 10
 have c2 := count_meets s 92
 have c3 := count_meets s 34
 have n1 := List.count_le_length (a := (10 : UInt8)) (l := s)
 have n2 := List.count_le_length (a := (92 : UInt8)) (l := s)
 have n3 := List.count_le_length (a := (34 : UInt8)) (l := s)
 have hlen := esc_len s
 refine enter tok {} Tryz.func209 rfl (by kernel_rfl) Tryz.ntmps209 (by simp) fun B0 W0 V0 lent g0 => ?_
 ((conv => whnf); repeat' ((fail_if_success (refine J_at2 3 ?_)); refine Z rfl ?_; conv => whnf))
 repeat' ((first | (intro hlq; (try simp only [SL] at hlq)) | refine Ks ?_ | refine Kq ?_ | refine Kt ?_ | refine Ka ?_ | refine Kb ?_ | refine Kc (hd := rfl) (e := ?_) | refine Kc (hd := icells_eq _) (e := ?_) | refine Kd (e := ?_) | refine Kl rfl ?_ | fail) <;> ((conv => whnf); repeat' ((fail_if_success (refine J_at2 3 ?_)); refine Z rfl ?_; conv => whnf)))
 refine J_seq (cut_rule tok (cf := {}) (X := Int × Bool) (fun x => ⟨[(6, .d (bD x.2)), (5, iB x.1), (4, .d (.str [])), (1, .d (.str s)), (0, .d (.ptr rpD 0))], [], []⟩) (fun x => x.1 = ((qtT s).length : Int) ∧ (x.2 = false → qtT s = s)) ?_ (fun x hx => ?_))
 · conv => whnf
   repeat' ((first | (intro hlq; clear hlq) | refine ⟨fun _ => ?_, fun h => absurd h (by decide)⟩ | refine ⟨fun h => absurd h (by decide), fun _ => ?_⟩ | refine ⟨fun _ _ => i64 (by decide) (by decide), ?_⟩ | refine ⟨_, ⟨by decide, rfl, rfl⟩, ?_⟩ | refine JR_go tok {} ?_ | fail) <;> ((conv => whnf); repeat' (refine Z rfl ?_; conv => whnf)))
   refine ⟨fun h24 => ?_, fun h24 => ?_⟩ <;> (try simp only [BL] at h24) <;> ((conv => whnf); repeat' (refine Z rfl ?_; conv => whnf))
   · repeat' ((first | (intro hlq; clear hlq) | refine ⟨fun _ => ?_, fun h => absurd h (by decide)⟩ | refine ⟨fun h => absurd h (by decide), fun _ => ?_⟩ | refine ⟨fun _ _ => i64 (by decide) (by decide), ?_⟩ | refine ⟨_, ⟨by decide, rfl, rfl⟩, ?_⟩ | refine JR_go tok {} ?_ | fail) <;> ((conv => whnf); repeat' (refine Z rfl ?_; conv => whnf)))
     refine J_rounds tok {} 4 ?_
     ((conv => whnf); repeat' (refine Z rfl ?_; conv => whnf))
     repeat' ((first | (refine Meets.k c1 ?_) | (refine Meets.k c2 ?_) | (refine Meets.k c3 ?_) | (intro hlq; clear hlq) | refine ⟨fun _ => ?_, fun h => absurd h (by decide)⟩ | refine ⟨fun h => absurd h (by decide), fun _ => ?_⟩ | refine ⟨fun _ _ => i64 (by decide) (by decide), ?_⟩ | refine ⟨_, ⟨by decide, rfl, rfl⟩, ?_⟩ | refine JR_go tok {} ?_ | (refine draw_rule tok (cf := {}) (by kernel_rfl) [.p 0, .p 1, .p 2, .p 3, .p 4, .p 5, .p 6, .p 7, .p 8, .p 9, .p 10, .p 11, .p 12, .p 13] (by kernel_rfl) ?_) | (refine ⟨_, ⟨by decide, rfl⟩, ?_⟩) | (refine ⟨by decide, ?_⟩) | (refine ⟨fun _ _ => i64 (by (simp only [byteCells, List.length_map, List.length_cons, List.length_nil]; omega)) (by (simp only [byteCells, List.length_map, List.length_cons, List.length_nil]; omega)), ?_⟩) | ((refine ⟨fun (hb : _ = true) => ?_, fun (hb : _ = false) => ?_⟩ <;> simp only [BB] at hb)) | fail) <;> ((conv => whnf); repeat' (refine Z rfl ?_; conv => whnf)))
     all_goals
      first
       | (refine ⟨⟨(((qtT s).length : Int), true), ?_, rfl, fun h => by cases h⟩⟩
          repeat' (first | exact True.intro | exact rfl | refine And.intro ?_ ?_ | exact congrArg (fun n : Int => iD n) (by simp only [byteCells, List.length_map, List.length_cons, List.length_nil]; omega))
          done)
       | (refine ⟨⟨(((qtT s).length : Int), false), ?_, rfl, fun _ => esc_same (by omega)⟩⟩
          repeat' (first | exact True.intro | exact rfl | refine And.intro ?_ ?_ | exact congrArg (fun n : Int => iD n) (by simp only [byteCells, List.length_map, List.length_cons, List.length_nil]; omega))
          done)
   · refine loop_upd tok {} [] (X := Nat × Bool) (fun x => [(10, iB x.1), (5, iB ((s.length : Int) + ((s.take x.1).countP qtE : Int))), (6, .d (bD x.2))]) (fun _ => []) [] (fun x => x.1 ≤ s.length ∧ (x.2 = false → (s.take x.1).countP qtE = 0)) (fun x => s.length - x.1) (0, false) ?_
     ((conv => whnf); repeat' (refine Z rfl ?_; conv => whnf))
     refine And.intro ?_ ⟨⟨by omega, by simp⟩, fun x hΦ => ?_⟩
     · repeat' (first | exact True.intro | exact rfl | refine And.intro ?_ ?_ | (exact congrArg (fun n : Int => iD n) (by simp)))
     obtain ⟨i, c⟩ := x
     obtain ⟨hi, hc⟩ := hΦ
     dsimp only at hi hc
     ((conv => whnf); repeat' (refine Z rfl ?_; conv => whnf))
     repeat' ((first | (intro hlq; (try simp only [SL] at hlq)) | refine Ks ?_ | refine Kq ?_ | refine Kt ?_ | refine Ka ?_ | refine Kb ?_ | refine Kc (hd := rfl) (e := ?_) | refine Kc (hd := icells_eq _) (e := ?_) | refine Kd (e := ?_) | refine Kl rfl ?_ | fail) <;> ((conv => whnf); repeat' (refine Z rfl ?_; conv => whnf)))
     refine ⟨fun h1 => ?_, fun h1 => ?_⟩ <;> (try simp only [BL] at h1) <;> ((conv => whnf); repeat' (refine Z rfl ?_; conv => whnf))
     · have h1' : i < s.length := by omega
       have hb := s[i].toNat_lt
       have hcs := count_snoc h1'
       have hcl : (s.take i).countP qtE ≤ i := Nat.le_trans (List.countP_le_length) (by rw [List.length_take]; omega)
       obtain ⟨r, hr⟩ := hd s[i].toNat (by omega)
       refine ⟨s[i], ⟨by omega, by simp⟩, ?_⟩
       ((conv => whnf); repeat' (refine Z rfl ?_; conv => whnf))
       cases hq : qtE s[i] with
       | true =>
         obtain ⟨z, hz1, hz2⟩ := rpC_yes hq
         rw [hz2] at hr
         rw [hq, if_pos rfl] at hcs
         refine ⟨by omega, ?_⟩
         ((conv => whnf); repeat' (refine Z rfl ?_; conv => whnf))
         generalize hE : List.drop _ _ = E
         obtain rfl : E = _ := hE.symm.trans (Eq.trans (congrArg (fun k => List.drop k rpD) (by dsimp only; omega)) hr)
         clear hE
         ((conv => whnf); repeat' (refine Z rfl ?_; conv => whnf))
         refine ⟨by omega, ?_⟩
         ((conv => whnf); repeat' (refine Z rfl ?_; conv => whnf))
         generalize hE : List.drop _ _ = E
         obtain rfl : E = _ := hE.symm.trans (Eq.trans (congrArg (fun k => List.drop k rpD) (by dsimp only; omega)) hr)
         clear hE
         ((conv => whnf); repeat' (refine Z rfl ?_; conv => whnf))
         repeat' ((first | (intro hlq; clear hlq) | refine ⟨fun _ => ?_, fun h => absurd h (by decide)⟩ | refine ⟨fun h => absurd h (by decide), fun _ => ?_⟩ | refine ⟨fun _ _ => i64 (by decide) (by decide), ?_⟩ | refine ⟨_, ⟨by decide, rfl, rfl⟩, ?_⟩ | refine JR_go tok {} ?_ | (refine ⟨fun _ _ => i64 (by (simp only [byteCells, List.length_map, List.length_cons, List.length_nil]; omega)) (by (simp only [byteCells, List.length_map, List.length_cons, List.length_nil]; omega)), ?_⟩) | (refine Ka ?_) | (refine Kb ?_) | fail) <;> ((conv => whnf); repeat' (refine Z rfl ?_; conv => whnf)))
         refine ⟨⟨(i + 1, true), ?_, ⟨by dsimp only; omega, fun h => by cases h⟩, by dsimp only; omega⟩⟩
         repeat' (first | exact True.intro | exact rfl | refine And.intro ?_ ?_ | (exact congrArg (fun n : Int => iD n) (by simp only [byteCells, List.length_map, List.length_cons, List.length_nil]; omega)))
       | false =>
         rw [rpC_no hq] at hr
         rw [hq, if_neg (by decide)] at hcs
         refine ⟨by omega, ?_⟩
         ((conv => whnf); repeat' (refine Z rfl ?_; conv => whnf))
         generalize hE : List.drop _ _ = E
         obtain rfl : E = _ := hE.symm.trans (Eq.trans (congrArg (fun k => List.drop k rpD) (by dsimp only; omega)) hr)
         clear hE
         ((conv => whnf); repeat' (refine Z rfl ?_; conv => whnf))
         repeat' ((first | (intro hlq; (try simp only [SL] at hlq)) | refine Ks ?_ | refine Kq ?_ | refine Kt ?_ | refine Ka ?_ | refine Kb ?_ | refine Kc (hd := rfl) (e := ?_) | refine Kc (hd := icells_eq _) (e := ?_) | refine Kd (e := ?_) | refine Kl rfl ?_ | fail) <;> ((conv => whnf); repeat' (refine Z rfl ?_; conv => whnf)))
         refine ⟨⟨(i + 1, c), ?_, ⟨by dsimp only; omega, fun h => by dsimp only; rw [hcs, hc h]⟩, by dsimp only; omega⟩⟩
         repeat' (first | exact True.intro | exact rfl | refine And.intro ?_ ?_ | (exact congrArg (fun n : Int => iD n) (by dsimp only; omega)))
     · have : i = s.length := by omega
       subst this
       rw [List.take_length] at hc
       refine ⟨⟨(((qtT s).length : Int), c), ?_, rfl, fun h => esc_same (hc h)⟩⟩
       repeat' (first | exact True.intro | exact rfl | refine And.intro ?_ ?_ | (exact congrArg (fun n : Int => iD n) (by rw [List.take_length, hlen]; omega)))
 obtain ⟨n, c⟩ := x
 obtain ⟨hx1, hx2⟩ := hx
 dsimp only at hx1 hx2
 subst hx1
 conv => whnf
 cases c with
 | false =>
   ((conv => whnf); repeat' (refine Z rfl ?_; conv => whnf))
   refine ⟨fun _ => ?_, fun h => Bool.noConfusion (show true = false from h)⟩
   ((conv => whnf); repeat' (refine Z rfl ?_; conv => whnf))
   refine ⟨?_⟩
   rw [hx2 rfl]
 | true =>
   clear c1 c2 c3
   ((conv => whnf); repeat' (refine Z rfl ?_; conv => whnf))
   refine ⟨fun h => Bool.noConfusion (show false = true from h), fun _ => ?_⟩
   ((conv => whnf); repeat' (refine Z rfl ?_; conv => whnf))
   refine ⟨⟨rfl, ⟨by decide, by decide⟩, rfl, by dsimp only; omega, by dsimp only; omega, by dsimp only; omega⟩, ?_⟩
   ((conv => whnf); repeat' (refine Z rfl ?_; conv => whnf))
   refine loop_upd tok {} [] (X := Nat) (fun i => [(14, iB i), (13, iB ((qtT (s.take i)).length))]) (fun i => [(85, .sl ⟨5, 1, quX s i, false⟩)]) [] (fun i => i ≤ s.length) (fun i => s.length - i) 0 ?_
   ((conv => whnf); repeat' (refine Z rfl ?_; conv => whnf))
   refine And.intro ?_ ⟨by omega, fun i hi => ?_⟩
   · repeat' (first | exact True.intro | exact rfl | refine And.intro ?_ ?_ | (exact (quX_zero s).symm) | (exact quX_zero s))
   ((conv => whnf); repeat' (refine Z rfl ?_; conv => whnf))
   repeat' ((first | (intro hlq; (try simp only [SL] at hlq)) | refine Ks ?_ | refine Kq ?_ | refine Kt ?_ | refine Ka ?_ | refine Kb ?_ | refine Kc (hd := rfl) (e := ?_) | refine Kc (hd := icells_eq _) (e := ?_) | refine Kd (e := ?_) | refine Kl rfl ?_ | fail) <;> ((conv => whnf); repeat' (refine Z rfl ?_; conv => whnf)))
   refine ⟨fun h1 => ?_, fun h1 => ?_⟩ <;> (try simp only [BL] at h1) <;> ((conv => whnf); repeat' (refine Z rfl ?_; conv => whnf))
   · have h1' : i < s.length := by omega
     have hb := s[i].toNat_lt
     obtain ⟨r, hr⟩ := hd s[i].toNat (by omega)
     have hql := quX_len s i
     have hst := qt_step h1'
     refine ⟨s[i], ⟨by omega, by simp⟩, ?_⟩
     ((conv => whnf); repeat' (refine Z rfl ?_; conv => whnf))
     cases hq : qtE s[i] with
     | true =>
       obtain ⟨z, hz1, hz2⟩ := rpC_yes hq
       rw [hz2] at hr
       refine ⟨by omega, ?_⟩
       ((conv => whnf); repeat' (refine Z rfl ?_; conv => whnf))
       generalize hE : List.drop _ _ = E
       obtain rfl : E = _ := hE.symm.trans (Eq.trans (congrArg (fun k => List.drop k rpD) (by dsimp only; omega)) hr)
       clear hE
       ((conv => whnf); repeat' (refine Z rfl ?_; conv => whnf))
       have h2 : (qtB s[i]).length = 2 := by rw [hz1]; rfl
       refine draw_rule tok (cf := {}) (by kernel_rfl) [.p 0, .p 1, .p 2, .p 3, .p 4, .p 5, .p 6, .p 7, .p 8, .p 9, .s 10 [3,9,1,2,8,7,5,6,4], .p 11, .p 12] (by kernel_rfl) ?_
       ((conv => whnf); repeat' (refine Z rfl ?_; conv => whnf))
       refine ⟨fun _ => ⟨Int.natCast_nonneg _, by (show _ ≤ ((quX s i).length : Int)); rw [hql]; omega, Int.le_refl _, by (show _ < ((quX s i).length : Int)); rw [hql]; omega, rfl⟩, ?_⟩
       ((conv => whnf); repeat' (refine Z rfl ?_; conv => whnf))
       refine ⟨by omega, ?_⟩
       ((conv => whnf); repeat' (refine Z rfl ?_; conv => whnf))
       generalize hE : List.drop _ _ = E
       obtain rfl : E = _ := hE.symm.trans (Eq.trans (congrArg (fun k => List.drop k rpD) (by dsimp only; omega)) hr)
       clear hE
       ((conv => whnf); repeat' (refine Z rfl ?_; conv => whnf))
       refine ⟨⟨rfl, by (dsimp only; rw [hql]; omega), by (dsimp only; rw [hql]; omega)⟩, ?_⟩
       ((conv => whnf); repeat' (refine Z rfl ?_; conv => whnf))
       refine ⟨⟨by simp [byteCells], by (dsimp only; rw [hql]; omega), rfl, fun ds hds => ?_⟩, ?_⟩
       · simp [byteCells] at hds
         rcases hds with rfl | rfl <;> rfl
       ((conv => whnf); repeat' (refine Z rfl ?_; conv => whnf))
       have hm : (byteCells [92, z]).length.min (((quX s i).length : Int).toNat - ((qtT (s.take i)).length : Int).toNat) = 2 := by
        rw [hql]
        exact Nat.min_eq_left (by show 2 ≤ _; omega)
       have ht : (byteCells [92, z]).take (((quX s i).length : Int).toNat - ((qtT (s.take i)).length : Int).toNat) = byteCells [92, z] := List.take_of_length_le (by rw [hql]; show 2 ≤ _; omega)
       refine ⟨fun _ _ => i64 (by dsimp only; rw [hm]; omega) (by dsimp only; rw [hm]; omega), ?_⟩
       ((conv => whnf); repeat' (refine Z rfl ?_; conv => whnf))
       repeat' (first | (refine Kl rfl ?_; ((conv => whnf); repeat' (refine Z rfl ?_; conv => whnf))) | fail)
       repeat' ((first | (intro hlq; (try simp only [SL] at hlq)) | refine Ks ?_ | refine Kq ?_ | refine Kt ?_ | refine Ka ?_ | refine Kb ?_ | refine Kc (hd := rfl) (e := ?_) | refine Kc (hd := icells_eq _) (e := ?_) | refine Kd (e := ?_) | refine Kl rfl ?_ | fail) <;> ((conv => whnf); repeat' (refine Z rfl ?_; conv => whnf)))
       refine ⟨⟨i + 1, ?_, by omega, by omega⟩⟩
       repeat' (first | exact True.intro | exact rfl | refine And.intro ?_ ?_ | (exact congrArg (fun n : Int => iD n) (by dsimp only; rw [hm, hst.1, List.length_append, h2]; omega)) | (exact (by dsimp only; rw [ht, Int.toNat_natCast]; exact (quX_put h1' hz1).symm)) | (exact (by dsimp only; rw [ht, Int.toNat_natCast]; exact (quX_put h1' hz1))))
     | false =>
       rw [rpC_no hq] at hr
       refine ⟨by omega, ?_⟩
       ((conv => whnf); repeat' (refine Z rfl ?_; conv => whnf))
       generalize hE : List.drop _ _ = E
       obtain rfl : E = _ := hE.symm.trans (Eq.trans (congrArg (fun k => List.drop k rpD) (by dsimp only; omega)) hr)
       clear hE
       ((conv => whnf); repeat' (refine Z rfl ?_; conv => whnf))
       have h2 : (qtB s[i]).length = 1 := by rw [qtB_no hq]; rfl
       refine ⟨⟨Int.natCast_nonneg _, by (dsimp only; rw [hql]; omega), rfl⟩, ?_⟩
       ((conv => whnf); repeat' (refine Z rfl ?_; conv => whnf))
       refine ⟨[.v (.int .u8 0)], ⟨by (dsimp only; rw [Int.toNat_natCast]; exact quX_at (by omega)), rfl, Nat.le_refl _⟩, ?_⟩
       ((conv => whnf); repeat' (refine Z rfl ?_; conv => whnf))
       repeat' ((first | (intro hlq; (try simp only [SL] at hlq)) | refine Ks ?_ | refine Kq ?_ | refine Kt ?_ | refine Ka ?_ | refine Kb ?_ | refine Kc (hd := rfl) (e := ?_) | refine Kc (hd := icells_eq _) (e := ?_) | refine Kd (e := ?_) | refine Kl rfl ?_ | fail) <;> ((conv => whnf); repeat' (refine Z rfl ?_; conv => whnf)))
       refine ⟨⟨i + 1, ?_, by omega, by omega⟩⟩
       repeat' (first | exact True.intro | exact rfl | refine And.intro ?_ ?_ | (exact congrArg (fun n : Int => iD n) (by (try dsimp only); rw [hst.1, List.length_append, h2]; omega)) | (exact (by dsimp only; rw [Int.toNat_natCast]; exact (quX_put h1' (qtB_no hq)).symm)) | (exact (by dsimp only; rw [Int.toNat_natCast]; exact (quX_put h1' (qtB_no hq)))))
   · obtain rfl : i = s.length := by omega
     have hend : quX s s.length = byteCells (qtT s) := by
      unfold quX
      rw [List.take_length, Nat.sub_self, List.replicate_zero, List.append_nil]
     refine ⟨qtT s, hend, ?_⟩
     ((conv => whnf); repeat' (refine Z rfl ?_; conv => whnf))
     exact ⟨rfl⟩
end Go.Proofs.YtedjnaggkakphaaGreatDoor.Dx
/- Chapter 06: strings.Replacer.Replace; what Join writes for a token. -/
namespace Go.Proofs.YtedjnaggkakphaaGreatDoor.Dx
open Go Go.RowKit
set_option maxRecDepth 100000
set_option maxHeartbeats 16000000
theorem replace52 (s : List UInt8) (hs : s.length ≤ 1099511627776) : MeetsR Tryz.prog 37 [.loc 6000 0, .d (.str s)] (rpO 0 0 (.v .nilIface) (.sl sixD)) fun o O' => o = .ret (.d (.str (qtT s))) ∧ O' = rpO 1 0 rpI (.sl []) := by
 have hr := replace258 s hs
 have hd := do_meets
 revert hr hd
 unfold rpI
 generalize rpD = q
 intro hr hd
 refine enterR tok {rs := [10]} Tryz.func37 rfl (by kernel_rfl) Tryz.ntmps37 (by simp) fun B0 W0 V0 lent g0 => ?_
 ((conv => whnf); repeat' (refine vcC_go tok {rs := [10]} rfl ?_; conv => whnf))
 refine ⟨rpO 0 0 (.v .nilIface) (.sl sixD), _, ⟨?_, ?_⟩, hd.mono ?_⟩
 · exact Kr
 · exact Kr
 rintro _ O2 ⟨rfl, rfl⟩
 ((conv => whnf); repeat' (refine vcC_go tok {rs := [10]} rfl ?_; conv => whnf))
 refine ⟨209, fun W x => by kernel_rfl, ?_⟩
 ((conv => whnf); repeat' (refine vcC_go tok {rs := [10]} rfl ?_; conv => whnf))
 refine Meets.k hr ?_
 ((conv => whnf); repeat' (refine vcC_go tok {rs := [10]} rfl ?_; conv => whnf))
 refine ⟨rpO 1 0 (.iface 146 (.ptr q 0)) (.sl []), .d (.str (qtT s)), ?_, ⟨rfl, rfl⟩⟩
 repeat' (first | exact True.intro | exact rfl | refine And.intro ?_ ?_)
end Go.Proofs.YtedjnaggkakphaaGreatDoor.Dx
