/- Chapter 06: lexis.Join. -/
import Derived.Test.YtedjnaggkakphaaGreatDoorEg
set_option linter.all false
namespace Go.Proofs.YtedjnaggkakphaaGreatDoor.Dx
open Go Go.RowKit
set_option maxRecDepth 100000
set_option maxHeartbeats 16000000
/-- a token as it comes in -/
structure TkZ where
 kind : Int
 text : List UInt8
 at_ : Int
abbrev TkZ.cells (t : TkZ) : List D := [iD t.kind, .str t.text, iD t.at_]
theorem TkZ.cells_eq (t : TkZ) : t.cells = [iD t.kind, .str t.text, iD t.at_] := rfl
/-- how a token is written; whether it can be -/
def tkT (t : TkZ) : List UInt8 := if t.kind = 4 then 34 :: (qtT t.text ++ [34]) else t.text
def tkB (t : TkZ) : Bool := if t.kind = 1 then isWd t.text else if t.kind = 2 then intgB t.text else if t.kind = 3 then (timeN t.text).isSome else if t.kind = 5 then sgnB t.text else if t.kind = 4 then txtB t.text else false
/-- texts with a blank between -/
def jn : List (List UInt8) → List UInt8
 | [] => []
 | x :: xs => x ++ (xs.map (32 :: ·)).flatten
theorem jn_snoc (l : List (List UInt8)) (x : List UInt8) (h : l ≠ []) : jn (l ++ [x]) = jn l ++ 32 :: x := by
 cases l with
 | nil => exact absurd rfl h
 | cons y ys => simp [jn]
/-- what Join comes to -/
def joinR (l : List TkZ) : List UInt8 × Int := match l.getLast? with
 | none => ([], 1)
 | some e => if e.kind ≠ 6 ∨ e.text ≠ [] then ([], 1) else if l.dropLast.all tkB = false then ([], 1) else if 65536 < (jn (l.dropLast.map tkT)).length then ([], 2) else (jn (l.dropLast.map tkT), 0)
theorem qt_len2 (s : List UInt8) : (qtT s).length ≤ 2 * s.length := by
 have := esc_len s
 have := List.countP_le_length (p := qtE) (l := s)
 omega
theorem tkT_len (t : TkZ) : (tkT t).length ≤ 2 * t.text.length + 2 := by
 have := qt_len2 t.text
 unfold tkT
 split
 · simp only [List.length_cons, List.length_append, List.length_nil]; omega
 · omega
theorem jn_step (l : List TkZ) {i : Nat} (h : i < l.length) : jn ((l.take (i + 1)).map tkT) = (if i = 0 then [] else jn ((l.take i).map tkT) ++ [32]) ++ tkT l[i] := by
 rw [List.take_succ_eq_append_getElem h, List.map_append]
 by_cases hi : i = 0
 · subst hi; simp [jn]
 · rw [if_neg hi, List.map_cons, List.map_nil, jn_snoc _ _ (fun e => (by have h2 := congrArg List.length e; rw [List.length_map, List.length_take, List.length_nil] at h2; omega)), List.append_assoc]; rfl
theorem jn_bound (l : List TkZ) (h : ∀ t ∈ l, t.text.length ≤ 1048576) : ∀ i, i ≤ l.length → (jn ((l.take i).map tkT)).length ≤ 2097155 * i
 | 0, _ => by simp [jn]
 | i + 1, hi => by
   have hi' : i < l.length := hi
   have ih := jn_bound l h i (by omega)
   have h1 := tkT_len l[i]
   have h2 := h l[i] (List.getElem_mem (by omega))
   rw [jn_step l hi']
   split
   · simp only [List.length_append, List.length_nil]; omega
   · simp only [List.length_append, List.length_cons, List.length_nil]; omega
theorem snocL {α : Type} {l : List α} {e : α} (h : l.getLast? = some e) : l = l.dropLast ++ [e] := by
 have hne : l ≠ [] := by rintro rfl; cases h
 rw [List.getLast?_eq_some_getLast hne] at h
 cases h
 exact (List.dropLast_concat_getLast hne).symm
/-- the tokens ahead of the end can be joined -/
theorem join_round (hT : TimeOk) (i : List TkZ) (e : TkZ) (he : e.kind = 6 ∧ e.text = []) (hn : i.length ≤ 1048576) (hl : ∀ t ∈ i, t.text.length ≤ 1048576) (res : List UInt8 × Int)
 (hres : res = if i.all tkB = false then ([], 1) else if 65536 < (jn (i.map tkT)).length then ([], 2) else (jn (i.map tkT), 0)) :
 Meets Tryz.prog 17 [.sl ((i ++ [e]).map TkZ.cells)] fun d => d = .tup [.sl (byteCells res.1), iD res.2] := by
 have hjb := jn_bound i hl
 have hix : ∀ z : Int, z = (i.length : Int) → ((i ++ [e]).map TkZ.cells)[z.toNat]? = some e.cells := by
  rintro _ rfl
  rw [Int.toNat_natCast, List.getElem?_map, List.getElem?_append_right (Nat.le_refl _), Nat.sub_self]
  rfl
 have hle : (i ++ [e]).length = i.length + 1 := by simp
 have htk : ∀ z : Int, z = (i.length : Int) → ((i ++ [e]).map TkZ.cells).take z.toNat = i.map TkZ.cells := by
  rintro _ rfl
  rw [Int.toNat_natCast, List.map_append, List.take_left' (by simp)]
 refine enter tok {} Tryz.func17 rfl (by kernel_rfl) Tryz.ntmps17 (by simp) fun B0 W0 V0 lent g0 => ?_
 ((conv => whnf); repeat' (refine Z rfl ?_; conv => whnf))
 repeat' ((first | (intro hlq; (try simp only [SL] at hlq)) | refine Ks ?_ | refine Kq ?_ | refine Kt ?_ | refine Ka ?_ | refine Kb ?_ | refine Kc (hd := rfl) (e := ?_) | refine Kc (hd := icells_eq _) (e := ?_) | refine Kd (e := ?_) | refine Kl rfl ?_ | fail) <;> ((conv => whnf); repeat' (refine Z rfl ?_; conv => whnf)))
 refine ⟨fun h0 => ?_, fun h0 => ?_⟩ <;> (try simp only [BL] at h0) <;> ((conv => whnf); repeat' (refine Z rfl ?_; conv => whnf))
 · exfalso; omega
 refine ⟨e.cells, ⟨by (rw [List.length_map]; omega), hix _ (by rw [List.length_map]; omega), rfl⟩, ?_⟩
 ((conv => whnf); repeat' (refine Z rfl ?_; conv => whnf))
 refine ⟨fun h1 => ?_, fun h1 => ?_⟩ <;> (try simp only [BL] at h1) <;> ((conv => whnf); repeat' (refine Z rfl ?_; conv => whnf))
 · exact absurd he.1 h1
 refine ⟨e.cells, ⟨by (rw [List.length_map]; omega), hix _ (by rw [List.length_map]; omega), rfl⟩, ?_⟩
 ((conv => whnf); repeat' (refine Z rfl ?_; conv => whnf))
 refine ⟨fun h2 => ?_, fun h2 => ?_⟩ <;> (try simp only [BL] at h2) <;> ((conv => whnf); repeat' (refine Z rfl ?_; conv => whnf))
 · exact absurd he.2 h2
 refine ⟨fun _ => ⟨Int.le_refl _, by (rw [List.length_map]; omega), by (rw [List.length_map]; omega), fun ds hds => (by obtain ⟨y, _, rfl⟩ := List.mem_map.1 hds; rfl)⟩, ?_⟩
 ((conv => whnf); repeat' (refine Z rfl ?_; conv => whnf))
 have hsl : ∀ z : Int, z = (i.length : Int) → List.drop (Int.toNat 0) (List.take z.toNat ((i ++ [e]).map TkZ.cells)) = i.map TkZ.cells := fun z hz => htk z hz
 intro hlq2
 ((conv => whnf); repeat' (refine Z rfl ?_; conv => whnf))
 refine loop_upd tok {rs := [64, 66]} [(.inl 2, 2, 5, 1)] (X := Nat) (fun k => [(34, iB k), (2, .own 2)]) (fun k => [(2, .sl ⟨5, 1, byteCells (jn ((i.take k).map tkT)), true⟩)]) [] (fun k => k ≤ i.length ∧ ∀ t ∈ i.take k, tkB t = true) (fun k => i.length - k) 0 ?_
 ((conv => whnf); repeat' (refine Z rfl ?_; conv => whnf))
 refine ⟨by simp, ?_⟩
 ((conv => whnf); repeat' (refine Z rfl ?_; conv => whnf))
 refine And.intro ?_ ⟨⟨by omega, by simp⟩, fun k hΦ => ?_⟩
 · exact Kr
 obtain ⟨hk, hall⟩ := hΦ
 have hL : ((i ++ [e]).map TkZ.cells).length = i.length + 1 := by rw [List.length_map, hle]
 have hs0 := hsl (((i ++ [e]).map TkZ.cells).length - 1) (by rw [hL]; omega)
 have hN : ((List.drop (Int.toNat 0) (List.take (((i ++ [e]).map TkZ.cells).length - 1 : Int).toNat ((i ++ [e]).map TkZ.cells))).length : Int) = i.length := by rw [hs0, List.length_map]
 ((conv => whnf); repeat' (refine vcC_go tok {rs := [64, 66]} rfl ?_; conv => whnf))
 refine ⟨fun h3 => ?_, fun h3 => ?_⟩
 · have h3' : k < i.length := by
    have := of_decide_eq_true h3
    rw [hN] at this
    omega
   obtain ⟨t, ht⟩ : ∃ t, t = i[k] := ⟨_, rfl⟩
   have hget : (List.drop (Int.toNat 0) (List.take (((i ++ [e]).map TkZ.cells).length - 1 : Int).toNat ((i ++ [e]).map TkZ.cells)))[((k : Nat) : Int).toNat]? = some t.cells := by
    rw [hs0, Int.toNat_natCast, List.getElem?_map, List.getElem?_eq_getElem h3', ht]; rfl
   have htl := hl t (by rw [ht]; exact List.getElem_mem _)
   have hjs := jn_step i h3'
   rw [← ht] at hjs
   have hjb1 := hjb (k + 1) h3'
   have hjb0 := hjb k hk
   have htl2 := tkT_len t
   have a1 := isWord_meets t.text
   have a2 := isInteger_meets t.text (by simp only [maxLen]; omega)
   have a3 := isTime_meets hT t.text htl
   have a4 := isSign_meets t.text
   have a5 := isText_meets t.text
   have a6 := replace52 t.text (by omega)
   clear hs0 hN hlq2 hsl htk hix hlq h0 h1 h2 hL
   ((conv => whnf); repeat' (refine vcC_go tok {rs := [64, 66]} rfl ?_; conv => whnf))
   refine ⟨t.cells, ⟨by omega, hget, rfl⟩, ?_⟩
   ((conv => whnf); repeat' (refine vcC_go tok {rs := [64, 66]} rfl ?_; conv => whnf))
   refine draw_rule tok (cf := {rs := [64, 66]}) (by kernel_rfl) [.p 0, .p 1, .p 2, .p 3] (by kernel_rfl) ?_
   ((conv => whnf); repeat' ((fail_if_success (refine J_at2 8 ?_)); refine vcC_go tok {rs := [64, 66]} rfl ?_; conv => whnf))
   refine cut_to tok {rs := [64, 66]} [(7, .d (bD (tkB t))), (8, .d (.str (tkT t)))] ?_
   conv => whnf
   refine ⟨?_, ?_⟩
   · clear hjs hjb1 hjb0 hget hall hjb hl hres ht h3 he hle
     ((conv => whnf); repeat' (refine vcC_go tok {rs := [64, 66]} rfl ?_; conv => whnf))
     repeat' ((first | (intro hlq; (try simp only [SL] at hlq)) | refine Meets.k (a1) ?_ | refine Meets.k (a2) ?_ | refine Meets.k (a3) ?_ | refine Meets.k (a4) ?_ | refine Meets.k (a5) ?_ | refine Ks ?_ | refine Kq ?_ | refine Kt ?_ | ((refine Kh (fun hb => ?_) fun hb => ?_) <;> (try simp only [BL] at hb)) | refine Ka ?_ | refine Kb ?_ | refine Kc (hd := rfl) (e := ?_) | refine Kc (hd := icells_eq _) (e := ?_) | refine Kd (e := ?_) | refine Kl rfl ?_ | fail) <;> ((conv => whnf); repeat' (refine vcC_go tok {rs := [64, 66]} rfl ?_; conv => whnf)))
     all_goals first
      | (refine ⟨?_⟩
         repeat' (first | exact True.intro | exact rfl | refine And.intro ?_ ?_ | exact congrArg bD (by unfold tkB; simp_all; done) | exact congrArg D.str (by unfold tkT; simp_all; done))
         done)
      | skip
     · have h4 : t.kind = 4 := by omega
       have hq := qt_len2 t.text
       have e1 : tkB t = txtB t.text := by unfold tkB; rw [if_neg (by omega), if_neg (by omega), if_neg (by omega), if_neg (by omega), if_pos h4]
       have e2 : tkT t = 34 :: (qtT t.text ++ [34]) := if_pos h4
       refine ⟨[], _, ⟨?_, ?_⟩, new51.mono ?_⟩
       · exact Kr
       · exact Kr
       rintro _ O2 ⟨rfl, rfl⟩
       ((conv => whnf); repeat' (refine vcC_go tok {rs := [64, 66]} rfl ?_; conv => whnf))
       refine ⟨rpO 0 0 (.v .nilIface) (.sl sixD), _, ⟨?_, ?_⟩, a6.mono ?_⟩
       · exact Kr
       · exact Kr
       rintro _ O2 ⟨rfl, rfl⟩
       ((conv => whnf); repeat' (refine vcC_go tok {rs := [64, 66]} rfl ?_; conv => whnf))
       refine ⟨fun _ _ => (by simp only [maxLen, List.length_cons, List.length_nil]; omega), ?_⟩
       ((conv => whnf); repeat' (refine vcC_go tok {rs := [64, 66]} rfl ?_; conv => whnf))
       refine ⟨fun _ _ => (by simp only [maxLen, List.length_cons, List.length_nil, List.length_append]; omega), ?_⟩
       ((conv => whnf); repeat' (refine vcC_go tok {rs := [64, 66]} rfl ?_; conv => whnf))
       refine ⟨?_⟩
       repeat' (first | exact True.intro | exact rfl | refine And.intro ?_ ?_ | (exact congrArg bD e1) | (exact congrArg bD e1.symm) | (exact congrArg D.str (by rw [e2]; simp)) | (exact congrArg D.str (by rw [e2]; rfl)))
   · clear a1 a2 a3 a4 a5 a6
     ((conv => whnf); repeat' (refine vcC_go tok {rs := [64, 66]} rfl ?_; conv => whnf))
     refine ⟨fun h => ?_, fun h => ?_⟩
     · have hb : tkB t = false := by
        cases hb : tkB t
        · rfl
        · rw [hb] at h; cases h
       ((conv => whnf); repeat' (refine vcC_go tok {rs := [64, 66]} rfl ?_; conv => whnf))
       refine ⟨?_⟩
       have hna : i.all tkB = false := by
        rw [List.all_eq_false]
        exact ⟨t, by rw [ht]; exact List.getElem_mem _, by rw [hb]; decide⟩
       rw [hres, if_pos hna]
       rfl
     · have hb : tkB t = true := by
        cases hb : tkB t
        · rw [hb] at h; cases h
        · rfl
       have hnew : ∀ x ∈ i.take (k + 1), tkB x = true := by
        intro x hx
        rw [List.take_succ_eq_append_getElem h3'] at hx
        rcases List.mem_append.1 hx with h | h
        · exact hall x h
        · rw [List.mem_singleton.1 h, ← ht]; exact hb
       ((conv => whnf); repeat' (refine vcC_go tok {rs := [64, 66]} rfl ?_; conv => whnf))
       refine ⟨fun h5 => ?_, fun h5 => ?_⟩ <;> (try simp only [BL] at h5) <;> ((conv => whnf); repeat' (refine vcC_go tok {rs := [64, 66]} rfl ?_; conv => whnf))
       · rw [if_neg (by omega)] at hjs
         refine ⟨by simp, ?_⟩
         ((conv => whnf); repeat' (refine vcC_go tok {rs := [64, 66]} rfl ?_; conv => whnf))
         refine ⟨fun _ _ => (by simp only [byteCells, List.length_map, List.length_cons, List.length_nil]; omega), ?_⟩
         ((conv => whnf); repeat' (refine vcC_go tok {rs := [64, 66]} rfl ?_; conv => whnf))
         refine ⟨fun _ _ => (by simp only [byteCells, List.length_map, List.length_append, List.length_cons, List.length_nil]; omega), ?_⟩
         ((conv => whnf); repeat' (refine vcC_go tok {rs := [64, 66]} rfl ?_; conv => whnf))
         repeat' ((first | (intro hlq; (try simp only [SL] at hlq)) | refine Ks ?_ | refine Kq ?_ | refine Kt ?_ | refine Ka ?_ | refine Kb ?_ | refine Kc (hd := rfl) (e := ?_) | refine Kc (hd := icells_eq _) (e := ?_) | refine Kd (e := ?_) | refine Kl rfl ?_ | fail) <;> ((conv => whnf); repeat' (refine vcC_go tok {rs := [64, 66]} rfl ?_; conv => whnf)))
         refine ⟨⟨k + 1, ?_, ⟨by omega, hnew⟩, by omega⟩⟩
         repeat' (first | exact True.intro | exact rfl | refine And.intro ?_ ?_ | (exact (by rw [hjs]; simp [byteCells])) | (exact (by rw [hjs]; simp only [byteCells, List.map_append, List.map_cons, List.map_nil]; rfl)))
       · rw [if_pos (by omega)] at hjs
         refine ⟨fun _ _ => (by simp only [byteCells, List.length_map, List.length_append, List.length_cons, List.length_nil]; omega), ?_⟩
         ((conv => whnf); repeat' (refine vcC_go tok {rs := [64, 66]} rfl ?_; conv => whnf))
         repeat' ((first | (intro hlq; (try simp only [SL] at hlq)) | refine Ks ?_ | refine Kq ?_ | refine Kt ?_ | refine Ka ?_ | refine Kb ?_ | refine Kc (hd := rfl) (e := ?_) | refine Kc (hd := icells_eq _) (e := ?_) | refine Kd (e := ?_) | refine Kl rfl ?_ | fail) <;> ((conv => whnf); repeat' (refine vcC_go tok {rs := [64, 66]} rfl ?_; conv => whnf)))
         obtain rfl : k = 0 := by omega
         refine ⟨⟨1, ?_, ⟨by omega, hnew⟩, by omega⟩⟩
         repeat' (first | exact True.intro | exact rfl | refine And.intro ?_ ?_ | (exact (by rw [hjs]; simp [byteCells, jn])) | (exact (by rw [hjs]; simp only [byteCells, List.map_append, List.map_cons, List.map_nil]; rfl)))
 · have hk2 : k = i.length := by
    have := of_decide_eq_false h3
    rw [hN] at this
    omega
   subst hk2
   rw [List.take_length] at hall ⊢
   have hall2 : ¬ i.all tkB = false := by
    rw [List.all_eq_true.2 hall]; decide
   rw [if_neg hall2] at hres
   ((conv => whnf); repeat' (refine vcC_go tok {rs := [64, 66]} rfl ?_; conv => whnf))
   repeat' ((first | (intro hlq; (try simp only [SL] at hlq)) | refine Ks ?_ | refine Kq ?_ | refine Kt ?_ | refine Ka ?_ | refine Kb ?_ | refine Kc (hd := rfl) (e := ?_) | refine Kc (hd := icells_eq _) (e := ?_) | refine Kd (e := ?_) | refine Kl rfl ?_ | fail) <;> ((conv => whnf); repeat' (refine vcC_go tok {rs := [64, 66]} rfl ?_; conv => whnf)))
   refine ⟨fun h5 => ?_, fun h5 => ?_⟩ <;> (try simp only [BL] at h5) <;> ((conv => whnf); repeat' (refine vcC_go tok {rs := [64, 66]} rfl ?_; conv => whnf))
   · rw [if_pos (by omega)] at hres
     refine ⟨?_⟩
     rw [hres]
     rfl
   · rw [if_neg (by omega)] at hres
     refine ⟨?_⟩
     rw [hres]
theorem Join_meets (hT : TimeOk) (l : List TkZ) (hn : l.length ≤ 1048576) (hl : ∀ t ∈ l, t.text.length ≤ 1048576) : Meets Tryz.prog 17 [.sl (l.map TkZ.cells)] fun d => d = .tup [.sl (byteCells (joinR l).1), iD (joinR l).2] := by
 unfold joinR
 cases hg : l.getLast? with
 | none =>
   have : l = [] := List.getLast?_eq_none_iff.1 hg
   subst this
   refine enter tok {} Tryz.func17 rfl (by kernel_rfl) Tryz.ntmps17 (by simp) fun B0 W0 V0 lent g0 => ?_
   ((conv => whnf); repeat' (refine Z rfl ?_; conv => whnf))
   repeat' ((first | (intro hlq; clear hlq) | refine ⟨fun _ => ?_, fun h => absurd h (by decide)⟩ | refine ⟨fun h => absurd h (by decide), fun _ => ?_⟩ | refine ⟨fun _ _ => i64 (by decide) (by decide), ?_⟩ | refine ⟨_, ⟨by decide, rfl, rfl⟩, ?_⟩ | refine JR_go tok {} ?_ | (refine ⟨by decide, ?_⟩) | fail) <;> ((conv => whnf); repeat' (refine Z rfl ?_; conv => whnf)))
   exact ⟨rfl⟩
 | some e =>
   have hs := snocL hg
   obtain ⟨i, hi⟩ : ∃ i, i = l.dropLast := ⟨_, rfl⟩
   rw [← hi] at hs ⊢
   rw [hs] at hn hl
   rw [List.length_append, List.length_singleton] at hn
   dsimp only
   by_cases he : e.kind = 6 ∧ e.text = []
   · rw [if_neg (fun h => h.elim (fun h => h he.1) (fun h => h he.2)), hs]
     exact join_round hT i e he (by omega) (fun t ht => hl t (List.mem_append.2 (.inl ht))) _ rfl
   · rw [if_pos ((Decidable.em (e.kind = 6)).elim (fun h => .inr fun h2 => he ⟨h, h2⟩) .inl), hs]
     have hix : ∀ z : Int, z = (i.length : Int) → ((i ++ [e]).map TkZ.cells)[z.toNat]? = some e.cells := by
      rintro _ rfl
      rw [Int.toNat_natCast, List.getElem?_map, List.getElem?_append_right (Nat.le_refl _), Nat.sub_self]
      rfl
     have hle : (i ++ [e]).length = i.length + 1 := by simp
     refine enter tok {} Tryz.func17 rfl (by kernel_rfl) Tryz.ntmps17 (by simp) fun B0 W0 V0 lent g0 => ?_
     ((conv => whnf); repeat' (refine Z rfl ?_; conv => whnf))
     repeat' ((first | (intro hlq; (try simp only [SL] at hlq)) | refine Ks ?_ | refine Kq ?_ | refine Kt ?_ | refine Ka ?_ | refine Kb ?_ | refine Kc (hd := rfl) (e := ?_) | refine Kc (hd := icells_eq _) (e := ?_) | refine Kd (e := ?_) | refine Kl rfl ?_ | fail) <;> ((conv => whnf); repeat' (refine Z rfl ?_; conv => whnf)))
     refine ⟨fun h0 => ?_, fun h0 => ?_⟩ <;> (try simp only [BL] at h0) <;> ((conv => whnf); repeat' (refine Z rfl ?_; conv => whnf))
     · exfalso; omega
     refine ⟨e.cells, ⟨by (rw [List.length_map]; omega), hix _ (by rw [List.length_map]; omega), rfl⟩, ?_⟩
     ((conv => whnf); repeat' (refine Z rfl ?_; conv => whnf))
     refine ⟨fun h1 => ?_, fun h1 => ?_⟩ <;> (try simp only [BL] at h1) <;> ((conv => whnf); repeat' (refine Z rfl ?_; conv => whnf))
     · exact ⟨rfl⟩
     refine ⟨e.cells, ⟨by (rw [List.length_map]; omega), hix _ (by rw [List.length_map]; omega), rfl⟩, ?_⟩
     ((conv => whnf); repeat' (refine Z rfl ?_; conv => whnf))
     refine ⟨fun h2 => ?_, fun h2 => ?_⟩ <;> (try simp only [BL] at h2) <;> ((conv => whnf); repeat' (refine Z rfl ?_; conv => whnf))
     · exact ⟨rfl⟩
     · exact absurd ⟨Decidable.not_not.1 h1, Decidable.not_not.1 h2⟩ he
end Go.Proofs.YtedjnaggkakphaaGreatDoor.Dx
