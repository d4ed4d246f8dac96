/- The walks of the laws that joining and splitting are inverse to each other. -/
import Derived.Test.YtedjnaggkakphaaGreatDoorDx
import Derived.Test.YtedjnaggkakphaaGreatDoorEj
set_option linter.all false
namespace Go.Proofs.YtedjnaggkakphaaGreatDoor.Dx
open Go Go.RowKit Go.Proofs
set_option maxRecDepth 100000
set_option maxHeartbeats 2000000
theorem tk_cells (l : List Tk) : (l.map Tk.z).map TkZ.cells = l.map tkC := by
 rw [List.map_map]; rfl
theorem flat_mem {x : List UInt8} : ∀ {l : List (List UInt8)}, x ∈ l → x.length ≤ ((l.map (32 :: ·)).flatten).length
 | [], h => by cases h
 | y :: l, h => by
   rw [List.map_cons, List.flatten_cons, List.length_append, List.length_cons]
   rcases List.mem_cons.1 h with rfl | h
   · omega
   · have := flat_mem h; omega
theorem jn_mem {x : List UInt8} : ∀ {l : List (List UInt8)}, x ∈ l → x.length ≤ (jn l).length
 | [], h => by cases h
 | y :: l, h => by
   show _ ≤ (y ++ (l.map (32 :: ·)).flatten).length
   rw [List.length_append]
   rcases List.mem_cons.1 h with rfl | h
   · omega
   · have := flat_mem h; omega
theorem text_tkT (t : TkZ) : t.text.length ≤ (tkT t).length := by
 have := esc_len t.text
 unfold tkT
 split
 · simp only [List.length_cons, List.length_append, List.length_nil]; omega
 · omega
/-- texts that were joined are not long -/
theorem join_texts {l : List TkZ} {b : List UInt8} (h : joinR l = (b, 0)) : ∀ t ∈ l, t.text.length ≤ 1048576 := by
 obtain ⟨i, e, rfl, h6, ht, hB, rfl, hl⟩ := joinR_ok h
 intro t hm
 rcases List.mem_append.1 hm with hm | hm
 · have := jn_mem (List.mem_map.2 ⟨t, hm, rfl⟩ : tkT t ∈ i.map tkT)
   have := text_tkT t
   omega
 · rw [List.mem_singleton.1 hm, ht]; exact Nat.zero_le _
theorem toks_many (src : List UInt8) : (toks src 0).length ≤ src.length + 1 := by
 have key : ∀ (k : Nat) (r : List UInt8) (a : Nat), r.length ≤ k → (toks r a).length ≤ r.length + 1 := by
  intro k
  induction k with
  | zero => intro r a h; have e := List.eq_nil_of_length_eq_zero (l := r) (by omega); subst e; rw [toks_nil]; simp
  | succ k ih =>
    intro r a h
    cases r with
    | nil => rw [toks_nil]; simp
    | cons c t =>
      have h1 := stepT_le c t
      simp only [List.length_cons] at h ⊢
      have := ih ((c :: t).drop (stepT (c :: t)).2.2) (a + (stepT (c :: t)).2.2) (by rw [List.length_drop, List.length_cons]; omega)
      rw [List.length_drop, List.length_cons] at this
      rw [toks_cons]
      split
      · rw [List.length_cons]; omega
      · omega
 exact key _ src 0 (Nat.le_refl _)
/-- splitting a text that was joined -/
theorem split_meets {b : List UInt8} (hl : b.length ≤ 65536) (hb : bads b 0 (-1) 0 = []) : Meets Tryz.prog 12 [.sl (byteCells b)] fun d => d = .tup [.sl (((toks b 0).map Tk.z).map TkZ.cells), .sl [], iD 0] := by
 have := cTokens_meets cTime_meets b hl
 rw [tokD, hb] at this
 rw [tk_cells]
 exact this
theorem z_bounds {src : List UInt8} (h : src.length ≤ 65536) : ((toks src 0).map Tk.z).length ≤ 1048576 := by
 have := toks_many src
 rw [List.length_map]; omega
theorem joinR_err {l : List TkZ} (h : (joinR l).2 ≠ 0) : (joinR l).1 = [] := by
 unfold joinR at h ⊢
 cases hg : l.getLast? with
 | none => rfl
 | some e =>
   rw [hg] at h
   dsimp only at h ⊢
   by_cases h1 : e.kind ≠ 6 ∨ e.text ≠ []
   · rw [if_pos h1]
   · rw [if_neg h1] at h ⊢
     by_cases h2 : l.dropLast.all tkB = false
     · rw [if_pos h2]
     · rw [if_neg h2] at h ⊢
       by_cases h3 : 65536 < (jn (l.dropLast.map tkT)).length
       · rw [if_pos h3]
       · rw [if_neg h3] at h
         exact absurd rfl h
theorem LBack_meets (l : List TkZ) (hn : l.length ≤ 1048576) (hl : ∀ t ∈ l, t.text.length ≤ 1048576) : Meets Tryz.prog 5 [.sl (l.map TkZ.cells)] fun r => r = bD true := by
 have kS := sane_meets.bl
 have kF := (rFew_meets l hn hl).bl
 have kJ := Join_meets cTime_meets l hn hl
 by_cases he : (joinR l).2 = 0
 · obtain ⟨b, hb⟩ : ∃ b, joinR l = (b, 0) := ⟨(joinR l).1, by rw [← he]⟩
   obtain ⟨h1, h2, h3, h4⟩ := lexis_back hb
   have z1 := z_bounds h1
   have z2 := join_texts h4
   rw [hb] at kJ
   have kJ : Meets Tryz.prog 17 [.sl (l.map TkZ.cells)] fun d => d = .tup [.sl (byteCells b), iD 0] := kJ
   have kT := split_meets h1 h2
   have kG := Join_meets cTime_meets _ z1 z2
   rw [h4] at kG
   have kG : Meets Tryz.prog 17 [.sl (((toks b 0).map Tk.z).map TkZ.cells)] fun d => d = .tup [.sl (byteCells b), iD 0] := kG
   have kA := (Alike2_meets l ((toks b 0).map Tk.z) hn z1 h3).bl
   clear h1 h2 h3 h4 z1 z2 hb he
   generalize (toks b 0).map Tk.z = zs at *
   generalize fewB l = p at *
   cases p
   all_goals
    refine enter tok {} Tryz.func5 rfl (by kernel_rfl) Tryz.ntmps5 (by simp) fun B0 W0 V0 lent g0 => ?_
    ((conv => whnf); repeat' (refine Z rfl ?_; conv => whnf))
    repeat' ((first | (intro hlq; (try simp only [SL] at hlq)) | refine Meets.k (kS) ?_ | refine Meets.k (kF) ?_ | refine Meets.k (kJ) ?_ | refine Meets.k (kT) ?_ | refine Meets.k (kG) ?_ | refine Meets.k (kA) ?_ | refine ⟨b, rfl, ?_⟩ | refine Ks ?_ | refine Kq ?_ | refine Kt ?_ | ((refine Kh (fun hb => ?_) fun hb => ?_) <;> (try simp only [BL] at hb)) | refine Ka ?_ | refine Kb ?_ | refine Kc (hd := rfl) (e := ?_) | refine Kc (hd := icells_eq _) (e := ?_) | refine Kd (e := ?_) | refine Kl rfl ?_ | fail) <;> ((conv => whnf); repeat' (refine Z rfl ?_; conv => whnf)))
   all_goals first
    | exact ⟨rfl⟩
    | contradiction
    | (exfalso; omega)
    | (refine ⟨congrArg bD ?_⟩; simp; done)
 · rw [joinR_err he] at kJ
   have kJ : Meets Tryz.prog 17 [.sl (l.map TkZ.cells)] fun d => d = .tup [.sl [], iD (joinR l).2] := kJ
   generalize (joinR l).2 = e at *
   generalize fewB l = p at *
   cases p
   all_goals
    refine enter tok {} Tryz.func5 rfl (by kernel_rfl) Tryz.ntmps5 (by simp) fun B0 W0 V0 lent g0 => ?_
    ((conv => whnf); repeat' (refine Z rfl ?_; conv => whnf))
    repeat' ((first | (intro hlq; (try simp only [SL] at hlq)) | refine Meets.k (kS) ?_ | refine Meets.k (kF) ?_ | refine Meets.k (kJ) ?_ | refine Ks ?_ | refine Kq ?_ | refine Kt ?_ | ((refine Kh (fun hb => ?_) fun hb => ?_) <;> (try simp only [BL] at hb)) | refine Ka ?_ | refine Kb ?_ | refine Kc (hd := rfl) (e := ?_) | refine Kc (hd := icells_eq _) (e := ?_) | refine Kd (e := ?_) | refine Kl rfl ?_ | fail) <;> ((conv => whnf); repeat' (refine Z rfl ?_; conv => whnf)))
   all_goals first
    | exact ⟨rfl⟩
    | contradiction
    | (exfalso; omega)
theorem LAgain_meets (src : List UInt8) (hm : src.length ≤ 1048576) : Meets Tryz.prog 6 [.sl (byteCells src)] fun r => r = bD true := by
 have kS := sane_meets.bl
 by_cases hl : src.length ≤ 3000
 · obtain ⟨b, h1, h2, h3, h4⟩ := lexis_again (src := src) (by omega)
   have z1 := z_bounds (src := src) (by omega)
   have z2 := join_texts h1
   have y1 := z_bounds h2
   have kT := cTokens_meets cTime_meets src (by omega)
   rw [tokD, ← tk_cells] at kT
   have kJ := Join_meets cTime_meets _ z1 z2
   rw [h1] at kJ
   have kJ : Meets Tryz.prog 17 [.sl (((toks src 0).map Tk.z).map TkZ.cells)] fun d => d = .tup [.sl (byteCells b), iD 0] := kJ
   have kU := split_meets h2 h3
   have kA := (Alike2_meets _ _ z1 y1 h4).bl
   clear h1 h2 h3 h4 z1 z2 y1
   generalize (toks src 0).map Tk.z = zs at *
   generalize (toks b 0).map Tk.z = ys at *
   generalize (bads src 0 (-1) 0) = bs at *
   refine enter tok {} Tryz.func6 rfl (by kernel_rfl) Tryz.ntmps6 (by simp) fun B0 W0 V0 lent g0 => ?_
   ((conv => whnf); repeat' (refine Z rfl ?_; conv => whnf))
   repeat' ((first | (intro hlq; (try simp only [SL] at hlq)) | refine Meets.k (kS) ?_ | refine Meets.k (kT) ?_ | refine Meets.k (kJ) ?_ | refine Meets.k (kU) ?_ | refine Meets.k (kA) ?_ | refine Ks ?_ | refine Kq ?_ | refine Kt ?_ | ((refine Kh (fun hb => ?_) fun hb => ?_) <;> (try simp only [BL] at hb)) | refine Ka ?_ | refine Kb ?_ | refine Kc (hd := rfl) (e := ?_) | refine Kc (hd := icells_eq _) (e := ?_) | refine Kd (e := ?_) | refine Kl rfl ?_ | fail) <;> ((conv => whnf); repeat' (refine Z rfl ?_; conv => whnf)))
   all_goals first
    | exact ⟨rfl⟩
    | contradiction
    | (exfalso; omega)
 · refine enter tok {} Tryz.func6 rfl (by kernel_rfl) Tryz.ntmps6 (by simp) fun B0 W0 V0 lent g0 => ?_
   ((conv => whnf); repeat' (refine Z rfl ?_; conv => whnf))
   repeat' ((first | (intro hlq; (try simp only [SL] at hlq)) | refine Meets.k (kS) ?_ | refine Ks ?_ | refine Kq ?_ | refine Kt ?_ | ((refine Kh (fun hb => ?_) fun hb => ?_) <;> (try simp only [BL] at hb)) | refine Ka ?_ | refine Kb ?_ | refine Kc (hd := rfl) (e := ?_) | refine Kc (hd := icells_eq _) (e := ?_) | refine Kd (e := ?_) | refine Kl rfl ?_ | fail) <;> ((conv => whnf); repeat' (refine Z rfl ?_; conv => whnf)))
   all_goals first
    | exact ⟨rfl⟩
    | contradiction
    | (exfalso; omega)
end Go.Proofs.YtedjnaggkakphaaGreatDoor.Dx
