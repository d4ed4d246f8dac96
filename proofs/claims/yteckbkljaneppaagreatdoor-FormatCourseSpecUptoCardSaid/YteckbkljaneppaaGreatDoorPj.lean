/- format's printer: steps, on a fresh Builder; Steps. -/
import Derived.Test.YteckbkljaneppaaGreatDoorPi
import Derived.Test.YteckbkljaneppaaGreatDoorPh
set_option linter.all false
namespace Go.Proofs.YteckbkljaneppaaGreatDoor.Dx
open Go Go.RowKit Go.Proofs
set_option maxRecDepth 100000
set_option maxHeartbeats 16000000
theorem critT_ne (b : Int) : critT b ≠ [] := by
 unfold critT
 split; simp
 split; simp
 split; simp
 split <;> simp
theorem put_fresh_to (r : Nat → D) (l' s : List UInt8) (hs : s ≠ []) (items : List Item) (he : l' = textOf (.s s :: items)) (hlen : l'.length ≤ 140737488355328) :
 MeetsR Tryz.prog 27 [.loc 1000 0, .d (.sl ((Item.s s :: items).map fun x => [x.d]))] (prN (rr r) 70) fun o O' => o = .ret (.d (.tup [])) ∧ O' = prO (rr r) 70 l' := by
 obtain ⟨c, t, rfl⟩ := List.exists_cons_of_ne_nil hs
 have := put_fresh r c t items (by rw [← he]; exact hlen)
 rw [← he] at this
 exact this
abbrev cfGN6 : Cfg := {sym := [4], rs := [20, 32, 42, 46, 50, 58, 62, 66]}
theorem psteps_fresh (r : Nat → D) (ss : List Step) (h0 : ss ≠ []) (hv : ∀ s ∈ ss, s.valid = true) (hok : ∀ s ∈ ss, s.ok) (hb : Step.nstL ss + Step.ncdL ss ≤ 1000) (hlen : (stepsT ss).length ≤ 140737488355328) :
 MeetsR Tryz.prog 32 [.loc 1000 0, .d (.sl (ss.map Step.cells))] (prN (rr r) 70) fun o O' => o = .ret (.d (.tup [])) ∧ O' = prO (rr r) 70 (stepsT ss) := by
 refine enterR tok cfGN6 Tryz.func32 rfl (by kernel_rfl) Tryz.ntmps32 (by simp) fun B0 W0 V0 lent g0 => ?_
 ((conv => whnf); repeat' (refine Y cfGN6 rfl ?_; conv => whnf))
 refine ⟨by simp, ?_⟩
 ((conv => whnf); repeat' (refine Y cfGN6 rfl ?_; conv => whnf))
 intro hlq
 have hlq : ss.length ≤ 9223372036854775807 := by simpa [maxLen] using hlq
 ((conv => whnf); repeat' (refine Y cfGN6 rfl ?_; conv => whnf))
 refine loop_upd tok cfGN6 [] (X := Nat × List UInt8) (fun x => [(10, iB x.1)]) (fun x => prF (rr r) 70 x.2) [6] (fun x => x.1 ≤ ss.length ∧ (x.2 = [] ↔ x.1 = 0) ∧ x.2 = sepT true ((ss.map Step.tx).take x.1)) (fun x => ss.length - x.1) (0, []) ?_
 ((conv => whnf); repeat' (refine Y cfGN6 rfl ?_; conv => whnf))
 refine And.intro ?_ ⟨⟨by omega, by simp, by simp [sepT]⟩, fun x hΦ => ?_⟩
 · repeat' (first | exact True.intro | exact rfl | refine And.intro ?_ ?_)
   all_goals exact SubB_refl _ _
 obtain ⟨i, xs⟩ := x
 obtain ⟨hi, hxe, hxs⟩ := hΦ
 dsimp only at hi hxe hxs
 have h0' : 0 < ss.length := List.length_pos_iff.2 h0
 rcases Nat.eq_zero_or_pos i with h0i | h0i
 · obtain rfl : xs = [] := hxe.2 h0i
   subst h0i
   ((conv => whnf); repeat' (refine Y cfGN6 rfl ?_; conv => whnf))
   refine ⟨fun h1 => ?_, fun h1 => ?_⟩ <;> (try simp only [BL] at h1) <;> ((conv => whnf); repeat' (refine Y cfGN6 rfl ?_; conv => whnf))
   rotate_left
   · omega
   have h1' : 0 < ss.length := by omega
   have hj : (sepT true ((ss.map Step.tx).take (0 + 1))).length ≤ (stepsT ss).length := sepT_take_le true _ _
   have hst := sepT_step Step.tx h1'
   have hm := List.getElem_mem h1'
   have hvs := hv _ hm
   have hos := Step.ok_iff.1 (hok _ hm)
   have hmem := nstL_mem hm
   have hsz := List.sizeOf_lt_of_mem hm
   have hszl := Step.szl ss[0]
   have key : ∃ A, A ++ ss[0].tx = sepT true ((ss.map Step.tx).take (0 + 1)) ∧ (0 < 0 → A = ([] : List UInt8) ++ [32]) ∧ (0 = 0 → A = ([] : List UInt8)) := by
    by_cases h0 : 0 = 0
    · exact ⟨([] : List UInt8), by rw [hst, if_pos h0, hxs]; simp [h0, sepT], by omega, fun _ => rfl⟩
    · exact ⟨([] : List UInt8) ++ [32], by rw [hst, if_neg h0, hxs], fun _ => rfl, by omega⟩
   obtain ⟨A, hAe, hA1, hA0⟩ := key
   have hal : A.length + ss[0].tx.length ≤ 140737488355328 := by
    have hl2 := congrArg List.length hAe
    simp only [List.length_append] at hl2
    omega
   have hend : ∀ A', A' = A ++ ss[0].tx → A' ≠ [] → (0 + 1 ≤ ss.length ∧ (A' = [] ↔ 0 + 1 = 0) ∧ A' = sepT true ((ss.map Step.tx).take (0 + 1))) := fun A' h hn => ⟨by omega, ⟨fun e => absurd e hn, by omega⟩, by rw [h, hAe]⟩
   clear hj hst
   rw [Step.tx_eq] at hal hend
   obtain rfl : A = [] := hA0 rfl
   repeat' ((first | (intro hlq; (try simp only [SL] at hlq)) | refine Ks ?_ | refine Kq ?_ | refine Kt ?_ | refine Ka ?_ | refine Kb ?_ | refine Kc (hd := rfl) (e := ?_) | refine Kc (hd := Step.cells_eq _) (e := ?_) | refine Kd (e := ?_) | refine Kl rfl ?_ | fail) <;> ((conv => whnf); repeat' (refine Y cfGN6 rfl ?_; conv => whnf)))
   refine ⟨fun h2 => ?_, fun h2 => ?_⟩ <;> (try simp only [BL] at h2) <;> ((conv => whnf); repeat' (refine Y cfGN6 rfl ?_; conv => whnf))
   · omega
   rcases Step.cases hvs with ⟨hk, hcr⟩ | ⟨hk, hc, hne, ht, he⟩
   · rw [if_pos hk] at hal hend
     rw [List.length_append] at hal
     obtain ⟨B, hB⟩ : ∃ B, B = ([] : List UInt8) ++ (critT ss[0].crit ++ [59]) := ⟨_, rfl⟩
     have hBl := len_at hB
     repeat' ((first | (intro hlq; (try simp only [SL] at hlq)) | refine ⟨_, critB hcr rfl rfl, ?_⟩ | refine Ks ?_ | refine Kq ?_ | refine Kt ?_ | ((refine Kh (fun hb => ?_) fun hb => ?_) <;> (try simp only [BL] at hb)) | refine Ka ?_ | refine Kb ?_ | refine Kc (hd := rfl) (e := ?_) | refine Kc (hd := Cond.cells_eq _) (e := ?_) | refine Kd (e := ?_) | refine Kl rfl ?_ | fail) <;> ((conv => whnf); repeat' (refine Y cfGN6 rfl ?_; conv => whnf)))
     all_goals (try first | contradiction | (exfalso; omega))
     refine ⟨prN (rr r) 70, _, ⟨?_, ?_⟩, (put_fresh_to r B (critT ss[0].crit) (critT_ne _) [.s [59]] (by rw [hB]; simp [textOf, Item.text]) (by simp only [List.length_append] at hBl; omega)).mono ?_⟩
     · exact Ko
     · exact Ko
     rintro o O2 ⟨rfl, rfl⟩
     dsimp only
     rw [closedR_pr (rr_d _)]
     ((conv => whnf); repeat' (refine Y cfGN6 rfl ?_; conv => whnf))
     repeat' ((first | (intro hlq; (try simp only [SL] at hlq)) | refine Ks ?_ | refine Kq ?_ | refine Kt ?_ | ((refine Kh (fun hb => ?_) fun hb => ?_) <;> (try simp only [BL] at hb)) | refine Ka ?_ | refine Kb ?_ | refine Kc (hd := rfl) (e := ?_) | refine Kc (hd := Cond.cells_eq _) (e := ?_) | refine Kd (e := ?_) | refine Kl rfl ?_ | fail) <;> ((conv => whnf); repeat' (refine Y cfGN6 rfl ?_; conv => whnf)))
     have hz := hend B hB (by rw [hB]; simp)
     obtain ⟨b1, B', hBc⟩ := List.exists_cons_of_ne_nil (by rw [hB]; simp : B ≠ [])
     rw [hBc] at hz ⊢
     refine ⟨⟨(0 + 1, b1 :: B'), ?_, hz, by dsimp only; omega⟩⟩
     repeat' (first | exact True.intro | exact rfl | refine And.intro ?_ ?_)
     all_goals exact SubB_refl _ _
   · rw [if_neg (show ¬ ss[0].kind = 1 by omega)] at hal hend
     have hcl := pt_le ss[0].cond hc
     have hn1 := ss[0].nst_eq
     have hn2 := ss[0].ncd_eq
     rw [valid_total hc] at hn2
     have hco := core_ok ss[0].cond
     have htx := text_meets ss[0].cond.core (hco.valid hc) (hco.ok hos.1) hco.thin (by have := hco.total; omega)
     rw [hco.pt] at htx
     have hE : ∃ E : List UInt8, E = (if decide (0 < ss[0].el.length) = true then ([32, 101, 108, 115, 101, 32, 123, 32] : List UInt8) ++ stepsT ss[0].el ++ [32, 125] else []) := ⟨_, rfl⟩
     obtain ⟨E, hE⟩ := hE
     rw [ifT, ← hE] at hal hend
     simp only [List.length_append, List.length_cons, List.length_nil] at hal
     obtain ⟨B1, hB1⟩ : ∃ B1, B1 = ([] : List UInt8) ++ (([105, 102, 32] : List UInt8) ++ ss[0].cond.pt.2 ++ [32, 123, 32]) := ⟨_, rfl⟩
     have hL1 := congrArg List.length hB1
     simp only [List.length_append, List.length_cons, List.length_nil] at hL1
     have hN1 : B1 ≠ [] := by rw [hB1]; simp
     obtain ⟨B3, hB3⟩ : ∃ B3, B3 = (B1 ++ stepsT ss[0].th) ++ [32, 125] := ⟨_, rfl⟩
     have hL3 := congrArg List.length hB3
     simp only [List.length_append, List.length_cons, List.length_nil] at hL3
     have hN3 : B3 ≠ [] := by rw [hB3]; simp
     repeat' ((first | (intro hlq; (try simp only [SL] at hlq)) | refine Meets.k (core_meets _) ?_ | refine Meets.k (htx) ?_ | refine Ks ?_ | refine Kq ?_ | refine Kt ?_ | ((refine Kh (fun hb => ?_) fun hb => ?_) <;> (try simp only [BL] at hb)) | refine Ka ?_ | refine Kb ?_ | refine Kc (hd := rfl) (e := ?_) | refine Kc (hd := Cond.cells_eq _) (e := ?_) | refine Kd (e := ?_) | refine Kl rfl ?_ | fail) <;> ((conv => whnf); repeat' (refine Y cfGN6 rfl ?_; conv => whnf)))
     all_goals (try first | contradiction | (exfalso; omega))
     refine ⟨prN (rr r) 70, _, ⟨?_, ?_⟩, (put_fresh_to r B1 [105, 102, 32] (by simp) [.s ss[0].cond.pt.2, .s [32, 123, 32]] (by rw [hB1]; simp [textOf, Item.text]) (by omega)).mono ?_⟩
     · exact Ko
     · exact Ko
     rintro o O2 ⟨rfl, rfl⟩
     dsimp only
     rw [closedR_pr (rr_d _)]
     ((conv => whnf); repeat' (refine Y cfGN6 rfl ?_; conv => whnf))
     repeat' ((first | (intro hlq; (try simp only [SL] at hlq)) | refine Ks ?_ | refine Kq ?_ | refine Kt ?_ | ((refine Kh (fun hb => ?_) fun hb => ?_) <;> (try simp only [BL] at hb)) | refine Ka ?_ | refine Kb ?_ | refine Kc (hd := rfl) (e := ?_) | refine Kc (hd := Cond.cells_eq _) (e := ?_) | refine Kd (e := ?_) | refine Kl rfl ?_ | fail) <;> ((conv => whnf); repeat' (refine Y cfGN6 rfl ?_; conv => whnf)))
     refine ⟨prO (rr r) 70 B1, _, ⟨?_, ?_⟩, (psteps_meets r ss[0].th B1 hN1 ht hos.2.1.2 (by omega) (by omega)).mono ?_⟩
     · exact Ko
     · exact Ko
     rintro o O2 ⟨rfl, rfl⟩
     dsimp only
     rw [closedR_pr (rr_d _)]
     ((conv => whnf); repeat' (refine Y cfGN6 rfl ?_; conv => whnf))
     repeat' ((first | (intro hlq; (try simp only [SL] at hlq)) | refine Ks ?_ | refine Kq ?_ | refine Kt ?_ | ((refine Kh (fun hb => ?_) fun hb => ?_) <;> (try simp only [BL] at hb)) | refine Ka ?_ | refine Kb ?_ | refine Kc (hd := rfl) (e := ?_) | refine Kc (hd := Cond.cells_eq _) (e := ?_) | refine Kd (e := ?_) | refine Kl rfl ?_ | fail) <;> ((conv => whnf); repeat' (refine Y cfGN6 rfl ?_; conv => whnf)))
     refine ⟨prO (rr r) 70 (B1 ++ stepsT ss[0].th), _, ⟨?_, ?_⟩, (put_to r (B1 ++ stepsT ss[0].th) B3 [.s [32, 125]] (by simp [hN1]) (by rw [hB3]; simp [textOf, Item.text]) (by omega)).mono ?_⟩
     · exact Ko
     · exact Ko
     rintro o O2 ⟨rfl, rfl⟩
     dsimp only
     rw [closedR_pr (rr_d _)]
     ((conv => whnf); repeat' (refine Y cfGN6 rfl ?_; conv => whnf))
     repeat' ((first | (intro hlq; (try simp only [SL] at hlq)) | refine Ks ?_ | refine Kq ?_ | refine Kt ?_ | ((refine Kh (fun hb => ?_) fun hb => ?_) <;> (try simp only [BL] at hb)) | refine Ka ?_ | refine Kb ?_ | refine Kc (hd := rfl) (e := ?_) | refine Kc (hd := Cond.cells_eq _) (e := ?_) | refine Kd (e := ?_) | refine Kl rfl ?_ | fail) <;> ((conv => whnf); repeat' (refine Y cfGN6 rfl ?_; conv => whnf)))
     · rw [if_pos (decide_eq_true (show 0 < ss[0].el.length by omega))] at hE
       have hLE := congrArg List.length hE
       simp only [List.length_append, List.length_cons, List.length_nil] at hLE
       obtain ⟨B4, hB4⟩ : ∃ B4, B4 = B3 ++ [32, 101, 108, 115, 101, 32, 123, 32] := ⟨_, rfl⟩
       have hL4 := congrArg List.length hB4
       simp only [List.length_append, List.length_cons, List.length_nil] at hL4
       have hN4 : B4 ≠ [] := by rw [hB4]; simp
       obtain ⟨B5, hB5⟩ : ∃ B5, B5 = (B4 ++ stepsT ss[0].el) ++ [32, 125] := ⟨_, rfl⟩
       have hL5 := congrArg List.length hB5
       simp only [List.length_append, List.length_cons, List.length_nil] at hL5
       refine ⟨prO (rr r) 70 B3, _, ⟨?_, ?_⟩, (put_to r B3 B4 [.s [32, 101, 108, 115, 101, 32, 123, 32]] hN3 (by rw [hB4]; simp [textOf, Item.text]) (by omega)).mono ?_⟩
       · exact Ko
       · exact Ko
       rintro o O2 ⟨rfl, rfl⟩
       dsimp only
       rw [closedR_pr (rr_d _)]
       ((conv => whnf); repeat' (refine Y cfGN6 rfl ?_; conv => whnf))
       repeat' ((first | (intro hlq; (try simp only [SL] at hlq)) | refine Ks ?_ | refine Kq ?_ | refine Kt ?_ | ((refine Kh (fun hb => ?_) fun hb => ?_) <;> (try simp only [BL] at hb)) | refine Ka ?_ | refine Kb ?_ | refine Kc (hd := rfl) (e := ?_) | refine Kc (hd := Cond.cells_eq _) (e := ?_) | refine Kd (e := ?_) | refine Kl rfl ?_ | fail) <;> ((conv => whnf); repeat' (refine Y cfGN6 rfl ?_; conv => whnf)))
       refine ⟨prO (rr r) 70 B4, _, ⟨?_, ?_⟩, (psteps_meets r ss[0].el B4 hN4 he hos.2.2.2 (by omega) (by omega)).mono ?_⟩
       · exact Ko
       · exact Ko
       rintro o O2 ⟨rfl, rfl⟩
       dsimp only
       rw [closedR_pr (rr_d _)]
       ((conv => whnf); repeat' (refine Y cfGN6 rfl ?_; conv => whnf))
       repeat' ((first | (intro hlq; (try simp only [SL] at hlq)) | refine Ks ?_ | refine Kq ?_ | refine Kt ?_ | ((refine Kh (fun hb => ?_) fun hb => ?_) <;> (try simp only [BL] at hb)) | refine Ka ?_ | refine Kb ?_ | refine Kc (hd := rfl) (e := ?_) | refine Kc (hd := Cond.cells_eq _) (e := ?_) | refine Kd (e := ?_) | refine Kl rfl ?_ | fail) <;> ((conv => whnf); repeat' (refine Y cfGN6 rfl ?_; conv => whnf)))
       refine ⟨prO (rr r) 70 (B4 ++ stepsT ss[0].el), _, ⟨?_, ?_⟩, (put_to r (B4 ++ stepsT ss[0].el) B5 [.s [32, 125]] (by simp [hN4]) (by rw [hB5]; simp [textOf, Item.text]) (by omega)).mono ?_⟩
       · exact Ko
       · exact Ko
       rintro o O2 ⟨rfl, rfl⟩
       dsimp only
       rw [closedR_pr (rr_d _)]
       ((conv => whnf); repeat' (refine Y cfGN6 rfl ?_; conv => whnf))
       repeat' ((first | (intro hlq; (try simp only [SL] at hlq)) | refine Ks ?_ | refine Kq ?_ | refine Kt ?_ | ((refine Kh (fun hb => ?_) fun hb => ?_) <;> (try simp only [BL] at hb)) | refine Ka ?_ | refine Kb ?_ | refine Kc (hd := rfl) (e := ?_) | refine Kc (hd := Cond.cells_eq _) (e := ?_) | refine Kd (e := ?_) | refine Kl rfl ?_ | fail) <;> ((conv => whnf); repeat' (refine Y cfGN6 rfl ?_; conv => whnf)))
       have hz := hend B5 (by rw [hB5, hB4, hB3, hB1, hE]; simp) (by rw [hB5]; simp)
       obtain ⟨b1, B', hBc⟩ := List.exists_cons_of_ne_nil (by rw [hB5]; simp : B5 ≠ [])
       rw [hBc] at hz ⊢
       refine ⟨⟨(0 + 1, b1 :: B'), ?_, hz, by dsimp only; omega⟩⟩
       repeat' (first | exact True.intro | exact rfl | refine And.intro ?_ ?_)
       all_goals exact SubB_refl _ _
     · rw [if_neg (show ¬ decide (0 < ss[0].el.length) = true by rw [decide_eq_true_eq]; omega)] at hE
       repeat' ((first | (intro hlq; (try simp only [SL] at hlq)) | refine Ks ?_ | refine Kq ?_ | refine Kt ?_ | ((refine Kh (fun hb => ?_) fun hb => ?_) <;> (try simp only [BL] at hb)) | refine Ka ?_ | refine Kb ?_ | refine Kc (hd := rfl) (e := ?_) | refine Kc (hd := Cond.cells_eq _) (e := ?_) | refine Kd (e := ?_) | refine Kl rfl ?_ | fail) <;> ((conv => whnf); repeat' (refine Y cfGN6 rfl ?_; conv => whnf)))
       have hz := hend B3 (by rw [hB3, hB1, hE]; simp) hN3
       obtain ⟨b1, B', hBc⟩ := List.exists_cons_of_ne_nil hN3
       rw [hBc] at hz ⊢
       refine ⟨⟨(0 + 1, b1 :: B'), ?_, hz, by dsimp only; omega⟩⟩
       repeat' (first | exact True.intro | exact rfl | refine And.intro ?_ ?_)
       all_goals exact SubB_refl _ _
 · obtain ⟨b0, xs', rfl⟩ := List.exists_cons_of_ne_nil (fun e => by have := hxe.1 e; omega : xs ≠ [])
   ((conv => whnf); repeat' (refine Y cfGN6 rfl ?_; conv => whnf))
   refine ⟨fun h1 => ?_, fun h1 => ?_⟩ <;> (try simp only [BL] at h1) <;> ((conv => whnf); repeat' (refine Y cfGN6 rfl ?_; conv => whnf))
   · have h1' : i < ss.length := by omega
     have hj : (sepT true ((ss.map Step.tx).take (i + 1))).length ≤ (stepsT ss).length := sepT_take_le true _ _
     have hst := sepT_step Step.tx h1'
     have hm := List.getElem_mem h1'
     have hvs := hv _ hm
     have hos := Step.ok_iff.1 (hok _ hm)
     have hmem := nstL_mem hm
     have hsz := List.sizeOf_lt_of_mem hm
     have hszl := Step.szl ss[i]
     have key : ∃ A, A ++ ss[i].tx = sepT true ((ss.map Step.tx).take (i + 1)) ∧ (0 < i → A = (b0 :: xs') ++ [32]) ∧ (i = 0 → A = (b0 :: xs')) := by
      by_cases h0 : i = 0
      · exact ⟨(b0 :: xs'), by rw [hst, if_pos h0, hxs]; simp [h0, sepT], by omega, fun _ => rfl⟩
      · exact ⟨(b0 :: xs') ++ [32], by rw [hst, if_neg h0, hxs], fun _ => rfl, by omega⟩
     obtain ⟨A, hAe, hA1, hA0⟩ := key
     have hal : A.length + ss[i].tx.length ≤ 140737488355328 := by
      have hl2 := congrArg List.length hAe
      simp only [List.length_append] at hl2
      omega
     have hend : ∀ A', A' = A ++ ss[i].tx → A' ≠ [] → (i + 1 ≤ ss.length ∧ (A' = [] ↔ i + 1 = 0) ∧ A' = sepT true ((ss.map Step.tx).take (i + 1))) := fun A' h hn => ⟨by omega, ⟨fun e => absurd e hn, by omega⟩, by rw [h, hAe]⟩
     clear hj hst
     rw [Step.tx_eq] at hal hend
     have hAn : A ≠ [] := by rw [hA1 h0i]; simp
     repeat' ((first | (intro hlq; (try simp only [SL] at hlq)) | refine Ks ?_ | refine Kq ?_ | refine Kt ?_ | refine Ka ?_ | refine Kb ?_ | refine Kc (hd := rfl) (e := ?_) | refine Kc (hd := Step.cells_eq _) (e := ?_) | refine Kd (e := ?_) | refine Kl rfl ?_ | fail) <;> ((conv => whnf); repeat' (refine Y cfGN6 rfl ?_; conv => whnf)))
     refine ⟨fun h2 => ?_, fun h2 => ?_⟩ <;> (try simp only [BL] at h2) <;> ((conv => whnf); repeat' (refine Y cfGN6 rfl ?_; conv => whnf))
     rotate_left
     · omega
     have hAl := len_at (hA1 h0i)
     refine ⟨prO (rr r) 70 (b0 :: xs'), _, ⟨?_, ?_⟩, (put_to r (b0 :: xs') A [.s [32]] (by simp) (by rw [hA1 h0i]; simp [textOf, Item.text]) (by omega)).mono ?_⟩
     · exact Ko
     · exact Ko
     rintro o O2 ⟨rfl, rfl⟩
     dsimp only
     rw [closedR_pr (rr_d _)]
     ((conv => whnf); repeat' (refine Y cfGN6 rfl ?_; conv => whnf))
     rcases Step.cases hvs with ⟨hk, hcr⟩ | ⟨hk, hc, hne, ht, he⟩
     · rw [if_pos hk] at hal hend
       rw [List.length_append] at hal
       obtain ⟨B, hB⟩ : ∃ B, B = A ++ (critT ss[i].crit ++ [59]) := ⟨_, rfl⟩
       have hBl := len_at hB
       repeat' ((first | (intro hlq; (try simp only [SL] at hlq)) | refine ⟨_, critB hcr rfl rfl, ?_⟩ | refine Ks ?_ | refine Kq ?_ | refine Kt ?_ | ((refine Kh (fun hb => ?_) fun hb => ?_) <;> (try simp only [BL] at hb)) | refine Ka ?_ | refine Kb ?_ | refine Kc (hd := rfl) (e := ?_) | refine Kc (hd := Cond.cells_eq _) (e := ?_) | refine Kd (e := ?_) | refine Kl rfl ?_ | fail) <;> ((conv => whnf); repeat' (refine Y cfGN6 rfl ?_; conv => whnf)))
       all_goals (try first | contradiction | (exfalso; omega))
       refine ⟨prO (rr r) 70 A, _, ⟨?_, ?_⟩, (put_to r A B [.s (critT ss[i].crit), .s [59]] hAn (by rw [hB]; simp [textOf, Item.text]) (by simp only [List.length_append] at hBl; omega)).mono ?_⟩
       · exact Ko
       · exact Ko
       rintro o O2 ⟨rfl, rfl⟩
       dsimp only
       rw [closedR_pr (rr_d _)]
       ((conv => whnf); repeat' (refine Y cfGN6 rfl ?_; conv => whnf))
       repeat' ((first | (intro hlq; (try simp only [SL] at hlq)) | refine Ks ?_ | refine Kq ?_ | refine Kt ?_ | ((refine Kh (fun hb => ?_) fun hb => ?_) <;> (try simp only [BL] at hb)) | refine Ka ?_ | refine Kb ?_ | refine Kc (hd := rfl) (e := ?_) | refine Kc (hd := Cond.cells_eq _) (e := ?_) | refine Kd (e := ?_) | refine Kl rfl ?_ | fail) <;> ((conv => whnf); repeat' (refine Y cfGN6 rfl ?_; conv => whnf)))
       have hz := hend B hB (by rw [hB]; simp)
       obtain ⟨b1, B', hBc⟩ := List.exists_cons_of_ne_nil (by rw [hB]; simp : B ≠ [])
       rw [hBc] at hz ⊢
       refine ⟨⟨(i + 1, b1 :: B'), ?_, hz, by dsimp only; omega⟩⟩
       repeat' (first | exact True.intro | exact rfl | refine And.intro ?_ ?_)
       all_goals exact SubB_refl _ _
     · rw [if_neg (show ¬ ss[i].kind = 1 by omega)] at hal hend
       have hcl := pt_le ss[i].cond hc
       have hn1 := ss[i].nst_eq
       have hn2 := ss[i].ncd_eq
       rw [valid_total hc] at hn2
       have hco := core_ok ss[i].cond
       have htx := text_meets ss[i].cond.core (hco.valid hc) (hco.ok hos.1) hco.thin (by have := hco.total; omega)
       rw [hco.pt] at htx
       have hE : ∃ E : List UInt8, E = (if decide (0 < ss[i].el.length) = true then ([32, 101, 108, 115, 101, 32, 123, 32] : List UInt8) ++ stepsT ss[i].el ++ [32, 125] else []) := ⟨_, rfl⟩
       obtain ⟨E, hE⟩ := hE
       rw [ifT, ← hE] at hal hend
       simp only [List.length_append, List.length_cons, List.length_nil] at hal
       obtain ⟨B1, hB1⟩ : ∃ B1, B1 = A ++ (([105, 102, 32] : List UInt8) ++ ss[i].cond.pt.2 ++ [32, 123, 32]) := ⟨_, rfl⟩
       have hL1 := congrArg List.length hB1
       simp only [List.length_append, List.length_cons, List.length_nil] at hL1
       have hN1 : B1 ≠ [] := by rw [hB1]; simp
       obtain ⟨B3, hB3⟩ : ∃ B3, B3 = (B1 ++ stepsT ss[i].th) ++ [32, 125] := ⟨_, rfl⟩
       have hL3 := congrArg List.length hB3
       simp only [List.length_append, List.length_cons, List.length_nil] at hL3
       have hN3 : B3 ≠ [] := by rw [hB3]; simp
       repeat' ((first | (intro hlq; (try simp only [SL] at hlq)) | refine Meets.k (core_meets _) ?_ | refine Meets.k (htx) ?_ | refine Ks ?_ | refine Kq ?_ | refine Kt ?_ | ((refine Kh (fun hb => ?_) fun hb => ?_) <;> (try simp only [BL] at hb)) | refine Ka ?_ | refine Kb ?_ | refine Kc (hd := rfl) (e := ?_) | refine Kc (hd := Cond.cells_eq _) (e := ?_) | refine Kd (e := ?_) | refine Kl rfl ?_ | fail) <;> ((conv => whnf); repeat' (refine Y cfGN6 rfl ?_; conv => whnf)))
       all_goals (try first | contradiction | (exfalso; omega))
       refine ⟨prO (rr r) 70 A, _, ⟨?_, ?_⟩, (put_to r A B1 [.s [105, 102, 32], .s ss[i].cond.pt.2, .s [32, 123, 32]] hAn (by rw [hB1]; simp [textOf, Item.text]) (by omega)).mono ?_⟩
       · exact Ko
       · exact Ko
       rintro o O2 ⟨rfl, rfl⟩
       dsimp only
       rw [closedR_pr (rr_d _)]
       ((conv => whnf); repeat' (refine Y cfGN6 rfl ?_; conv => whnf))
       repeat' ((first | (intro hlq; (try simp only [SL] at hlq)) | refine Ks ?_ | refine Kq ?_ | refine Kt ?_ | ((refine Kh (fun hb => ?_) fun hb => ?_) <;> (try simp only [BL] at hb)) | refine Ka ?_ | refine Kb ?_ | refine Kc (hd := rfl) (e := ?_) | refine Kc (hd := Cond.cells_eq _) (e := ?_) | refine Kd (e := ?_) | refine Kl rfl ?_ | fail) <;> ((conv => whnf); repeat' (refine Y cfGN6 rfl ?_; conv => whnf)))
       refine ⟨prO (rr r) 70 B1, _, ⟨?_, ?_⟩, (psteps_meets r ss[i].th B1 hN1 ht hos.2.1.2 (by omega) (by omega)).mono ?_⟩
       · exact Ko
       · exact Ko
       rintro o O2 ⟨rfl, rfl⟩
       dsimp only
       rw [closedR_pr (rr_d _)]
       ((conv => whnf); repeat' (refine Y cfGN6 rfl ?_; conv => whnf))
       repeat' ((first | (intro hlq; (try simp only [SL] at hlq)) | refine Ks ?_ | refine Kq ?_ | refine Kt ?_ | ((refine Kh (fun hb => ?_) fun hb => ?_) <;> (try simp only [BL] at hb)) | refine Ka ?_ | refine Kb ?_ | refine Kc (hd := rfl) (e := ?_) | refine Kc (hd := Cond.cells_eq _) (e := ?_) | refine Kd (e := ?_) | refine Kl rfl ?_ | fail) <;> ((conv => whnf); repeat' (refine Y cfGN6 rfl ?_; conv => whnf)))
       refine ⟨prO (rr r) 70 (B1 ++ stepsT ss[i].th), _, ⟨?_, ?_⟩, (put_to r (B1 ++ stepsT ss[i].th) B3 [.s [32, 125]] (by simp [hN1]) (by rw [hB3]; simp [textOf, Item.text]) (by omega)).mono ?_⟩
       · exact Ko
       · exact Ko
       rintro o O2 ⟨rfl, rfl⟩
       dsimp only
       rw [closedR_pr (rr_d _)]
       ((conv => whnf); repeat' (refine Y cfGN6 rfl ?_; conv => whnf))
       repeat' ((first | (intro hlq; (try simp only [SL] at hlq)) | refine Ks ?_ | refine Kq ?_ | refine Kt ?_ | ((refine Kh (fun hb => ?_) fun hb => ?_) <;> (try simp only [BL] at hb)) | refine Ka ?_ | refine Kb ?_ | refine Kc (hd := rfl) (e := ?_) | refine Kc (hd := Cond.cells_eq _) (e := ?_) | refine Kd (e := ?_) | refine Kl rfl ?_ | fail) <;> ((conv => whnf); repeat' (refine Y cfGN6 rfl ?_; conv => whnf)))
       · rw [if_pos (decide_eq_true (show 0 < ss[i].el.length by omega))] at hE
         have hLE := congrArg List.length hE
         simp only [List.length_append, List.length_cons, List.length_nil] at hLE
         obtain ⟨B4, hB4⟩ : ∃ B4, B4 = B3 ++ [32, 101, 108, 115, 101, 32, 123, 32] := ⟨_, rfl⟩
         have hL4 := congrArg List.length hB4
         simp only [List.length_append, List.length_cons, List.length_nil] at hL4
         have hN4 : B4 ≠ [] := by rw [hB4]; simp
         obtain ⟨B5, hB5⟩ : ∃ B5, B5 = (B4 ++ stepsT ss[i].el) ++ [32, 125] := ⟨_, rfl⟩
         have hL5 := congrArg List.length hB5
         simp only [List.length_append, List.length_cons, List.length_nil] at hL5
         refine ⟨prO (rr r) 70 B3, _, ⟨?_, ?_⟩, (put_to r B3 B4 [.s [32, 101, 108, 115, 101, 32, 123, 32]] hN3 (by rw [hB4]; simp [textOf, Item.text]) (by omega)).mono ?_⟩
         · exact Ko
         · exact Ko
         rintro o O2 ⟨rfl, rfl⟩
         dsimp only
         rw [closedR_pr (rr_d _)]
         ((conv => whnf); repeat' (refine Y cfGN6 rfl ?_; conv => whnf))
         repeat' ((first | (intro hlq; (try simp only [SL] at hlq)) | refine Ks ?_ | refine Kq ?_ | refine Kt ?_ | ((refine Kh (fun hb => ?_) fun hb => ?_) <;> (try simp only [BL] at hb)) | refine Ka ?_ | refine Kb ?_ | refine Kc (hd := rfl) (e := ?_) | refine Kc (hd := Cond.cells_eq _) (e := ?_) | refine Kd (e := ?_) | refine Kl rfl ?_ | fail) <;> ((conv => whnf); repeat' (refine Y cfGN6 rfl ?_; conv => whnf)))
         refine ⟨prO (rr r) 70 B4, _, ⟨?_, ?_⟩, (psteps_meets r ss[i].el B4 hN4 he hos.2.2.2 (by omega) (by omega)).mono ?_⟩
         · exact Ko
         · exact Ko
         rintro o O2 ⟨rfl, rfl⟩
         dsimp only
         rw [closedR_pr (rr_d _)]
         ((conv => whnf); repeat' (refine Y cfGN6 rfl ?_; conv => whnf))
         repeat' ((first | (intro hlq; (try simp only [SL] at hlq)) | refine Ks ?_ | refine Kq ?_ | refine Kt ?_ | ((refine Kh (fun hb => ?_) fun hb => ?_) <;> (try simp only [BL] at hb)) | refine Ka ?_ | refine Kb ?_ | refine Kc (hd := rfl) (e := ?_) | refine Kc (hd := Cond.cells_eq _) (e := ?_) | refine Kd (e := ?_) | refine Kl rfl ?_ | fail) <;> ((conv => whnf); repeat' (refine Y cfGN6 rfl ?_; conv => whnf)))
         refine ⟨prO (rr r) 70 (B4 ++ stepsT ss[i].el), _, ⟨?_, ?_⟩, (put_to r (B4 ++ stepsT ss[i].el) B5 [.s [32, 125]] (by simp [hN4]) (by rw [hB5]; simp [textOf, Item.text]) (by omega)).mono ?_⟩
         · exact Ko
         · exact Ko
         rintro o O2 ⟨rfl, rfl⟩
         dsimp only
         rw [closedR_pr (rr_d _)]
         ((conv => whnf); repeat' (refine Y cfGN6 rfl ?_; conv => whnf))
         repeat' ((first | (intro hlq; (try simp only [SL] at hlq)) | refine Ks ?_ | refine Kq ?_ | refine Kt ?_ | ((refine Kh (fun hb => ?_) fun hb => ?_) <;> (try simp only [BL] at hb)) | refine Ka ?_ | refine Kb ?_ | refine Kc (hd := rfl) (e := ?_) | refine Kc (hd := Cond.cells_eq _) (e := ?_) | refine Kd (e := ?_) | refine Kl rfl ?_ | fail) <;> ((conv => whnf); repeat' (refine Y cfGN6 rfl ?_; conv => whnf)))
         have hz := hend B5 (by rw [hB5, hB4, hB3, hB1, hE]; simp) (by rw [hB5]; simp)
         obtain ⟨b1, B', hBc⟩ := List.exists_cons_of_ne_nil (by rw [hB5]; simp : B5 ≠ [])
         rw [hBc] at hz ⊢
         refine ⟨⟨(i + 1, b1 :: B'), ?_, hz, by dsimp only; omega⟩⟩
         repeat' (first | exact True.intro | exact rfl | refine And.intro ?_ ?_)
         all_goals exact SubB_refl _ _
       · rw [if_neg (show ¬ decide (0 < ss[i].el.length) = true by rw [decide_eq_true_eq]; omega)] at hE
         repeat' ((first | (intro hlq; (try simp only [SL] at hlq)) | refine Ks ?_ | refine Kq ?_ | refine Kt ?_ | ((refine Kh (fun hb => ?_) fun hb => ?_) <;> (try simp only [BL] at hb)) | refine Ka ?_ | refine Kb ?_ | refine Kc (hd := rfl) (e := ?_) | refine Kc (hd := Cond.cells_eq _) (e := ?_) | refine Kd (e := ?_) | refine Kl rfl ?_ | fail) <;> ((conv => whnf); repeat' (refine Y cfGN6 rfl ?_; conv => whnf)))
         have hz := hend B3 (by rw [hB3, hB1, hE]; simp) hN3
         obtain ⟨b1, B', hBc⟩ := List.exists_cons_of_ne_nil hN3
         rw [hBc] at hz ⊢
         refine ⟨⟨(i + 1, b1 :: B'), ?_, hz, by dsimp only; omega⟩⟩
         repeat' (first | exact True.intro | exact rfl | refine And.intro ?_ ?_)
         all_goals exact SubB_refl _ _
   · obtain rfl : i = ss.length := by omega
     have e : (ss.map Step.tx).take ss.length = ss.map Step.tx := List.take_of_length_le (by simp)
     rw [e] at hxs
     exact ⟨prO (rr r) 70 (b0 :: xs'), .d (.tup []), ⟨SubB_refl _ _, ⟨⟨rfl, SubBs_refl _ _⟩, ⟨rfl, rfl, rfl, rfl⟩, trivial⟩, rfl⟩, ⟨rfl, by rw [hxs]; rfl⟩⟩
end Go.Proofs.YteckbkljaneppaaGreatDoor.Dx
/- Cond and Steps: the code and the reference. -/
namespace Go.Proofs.YteckbkljaneppaaGreatDoor.Dx
open Go Go.RowKit Go.Proofs
set_option maxRecDepth 100000
set_option maxHeartbeats 16000000
def condS (c : Cond) : List UInt8 := if c.errno = 0 then c.pt.2 else []
def stepsS (l : List Step) : List UInt8 := if tiesE l = 0 then stepsT l else []
theorem errno_ok {c : Cond} (h : c.errno = 0) : c.valid = true ∧ c.total ≤ 256 := by
 unfold Cond.errno at h
 split at h
 · split at h
   · exact ⟨by assumption, by omega⟩
   · cases h
 · cases h
theorem FCond_meets (c : Cond) (hok : c.ok) : Meets Tryz.prog 14 [c.d] fun d => d = .tup [.str (condS c), iD c.errno] := by
 refine enter tok {} Tryz.func14 rfl (by kernel_rfl) Tryz.ntmps14 (by simp) fun B0 W0 V0 lent g0 => ?_
 ((conv => whnf); repeat' (refine Z rfl ?_; conv => whnf))
 repeat' ((first | (intro hlq; (try simp only [SL] at hlq)) | refine Meets.k (tCond c hok) ?_ | refine Ks ?_ | refine Kq ?_ | refine Kt ?_ | ((refine Kh (fun hb => ?_) fun hb => ?_) <;> (try simp only [BL] at hb)) | refine Ka ?_ | refine Kb ?_ | refine Kc (hd := rfl) (e := ?_) | refine Kc (hd := Cond.cells_eq _) (e := ?_) | refine Kd (e := ?_) | refine Kl rfl ?_ | fail) <;> ((conv => whnf); repeat' (refine Z rfl ?_; conv => whnf)))
 · exact ⟨by rw [condS, if_neg (by assumption)]⟩
 have he : c.errno = 0 := by omega
 obtain ⟨hv, ht⟩ := errno_ok he
 have hco := core_ok c
 have htx := text_meets c.core (hco.valid hv) (hco.ok hok) hco.thin (by have := hco.total; omega)
 rw [hco.pt] at htx
 repeat' ((first | (intro hlq; (try simp only [SL] at hlq)) | refine Meets.k (core_meets _) ?_ | refine Meets.k (htx) ?_ | refine Ks ?_ | refine Kq ?_ | refine Kt ?_ | ((refine Kh (fun hb => ?_) fun hb => ?_) <;> (try simp only [BL] at hb)) | refine Ka ?_ | refine Kb ?_ | refine Kc (hd := rfl) (e := ?_) | refine Kc (hd := Cond.cells_eq _) (e := ?_) | refine Kd (e := ?_) | refine Kl rfl ?_ | fail) <;> ((conv => whnf); repeat' (refine Z rfl ?_; conv => whnf)))
 refine ⟨?_⟩
 rw [condS, if_pos he, he]
theorem ties_ne0 {l : List Step} (h4 : tiesE l = 0) : l ≠ [] := by
 unfold tiesE at h4
 split at h4
 · split at h4
   · rename_i hv; exact hv.1
   · cases h4
 · cases h4
theorem ncd_of {l : List Step} (h4 : tiesE l = 0) : Step.ncdL l ≤ 256 := by
 unfold tiesE at h4
 split at h4
 · rename_i hf
   split at h4
   · rename_i hv
     obtain ⟨_, k2, _⟩ := F_S l
     simp only [fitsF, Bool.or_eq_true, Bool.and_eq_true, decide_eq_true_eq, k2] at hf
     rcases hf with hf | hf
     · exact absurd (by simpa [formsS] using hf) hv.1
     · omega
   · cases h4
 · cases h4
noncomputable def zR (i : Nat) : D := [D.str [], .raw (.slice none 0 0), .raw (.slice none 0 0), .raw (.slice none 0 0), .raw (.slice none 0 0), .raw (.slice none 0 0), .raw (.slice none 0 0), .raw (.slice none 0 0), .raw (.slice none 0 0), iD 0, iD 0, iD 0, iD 0, iD 0, iD 0, iD 0].getD i .junk
theorem stepsT_ne {l : List Step} (h : l ≠ []) (hv : ∀ s ∈ l, s.valid = true) : stepsT l ≠ [] := by
 obtain ⟨s, r, rfl⟩ := List.exists_cons_of_ne_nil h
 have hs := critT_ne s.crit
 rw [stepsT, List.map_cons, sepT, Step.tx_eq]
 split
 · simp
 · simp [ifT]
theorem closedR_jk (r : Nat → D) (d : D) (ty : TypeId) : closedR (.d d) [(1000, Blk.box (.d .junk :: .d .junk :: rr r) ty)] = true := rfl
abbrev cfGO7 : Cfg := {nm := [(12, 1000)], priv := [11], rs := [15, 19]}
theorem FSteps_meets (l : List Step) (hl : l.length ≤ 1048576) (hok : ∀ s ∈ l, s.ok) : Meets Tryz.prog 16 [.sl (l.map Step.cells)] fun d => d = .tup [.str (stepsS l), iD (tiesE l)] := by
 refine enter tok cfGO7 Tryz.func16 rfl (by kernel_rfl) Tryz.ntmps16 (by simp) fun B0 W0 V0 lent g0 => ?_
 ((conv => whnf); repeat' (refine Y cfGO7 rfl ?_; conv => whnf))
 repeat' ((first | (intro hlq; (try simp only [SL] at hlq)) | refine Meets.k (tTies l hl hok) ?_ | refine Ks ?_ | refine Kq ?_ | refine Kt ?_ | ((refine Kh (fun hb => ?_) fun hb => ?_) <;> (try simp only [BL] at hb)) | refine Ka ?_ | refine Kb ?_ | refine Kc (hd := rfl) (e := ?_) | refine Kc (hd := Cond.cells_eq _) (e := ?_) | refine Kd (e := ?_) | refine Kl rfl ?_ | fail) <;> ((conv => whnf); repeat' (refine Y cfGO7 rfl ?_; conv => whnf)))
 · exact ⟨by rw [stepsS, if_neg (by assumption)]⟩
 have he : tiesE l = 0 := by omega
 have ht := ties_ok he
 have hc := ncd_of he
 have hne := ties_ne0 he
 have hT := stepsT_le ht.1
 have hT2 := stepsT_ne hne ht.1
 refine ⟨prN (rr zR) 70, _, ⟨?_, ?_⟩, (psteps_fresh zR l hne ht.1 hok (by omega) (by omega)).mono ?_⟩
 · exact Kr
 · repeat' (first | exact True.intro | exact rfl | refine And.intro ?_ ?_)
   all_goals first | exact SubB_refl _ _ | trace_state
 rintro o O2 ⟨rfl, rfl⟩
 dsimp only
 rw [closedR_pr (rr_d _)]
 ((conv => whnf); repeat' (refine Y cfGO7 rfl ?_; conv => whnf))
 refine ⟨prO (rr zR) 70 (stepsT l), _, ⟨?_, ?_⟩, (meets_String 1000 1001 (by decide) (.loc 1000 0) (stepsT l) hT2 (by unfold maxLen; omega)).mono ?_⟩
 · exact Kr
 · repeat' (first | exact True.intro | exact rfl | refine And.intro ?_ ?_)
   all_goals exact SubB_refl _ _
 rintro o O2 ⟨rfl, rfl⟩
 dsimp only
 rw [closedR_jk]
 ((conv => whnf); repeat' (refine Y cfGO7 rfl ?_; conv => whnf))
 refine ⟨?_⟩
 rw [stepsS, if_pos he, he]
end Go.Proofs.YteckbkljaneppaaGreatDoor.Dx
