/- Tokens in the code. -/
import Derived.Test.YtedjnaggkakphaaGreatDoorDv
set_option linter.all false
namespace Go.Proofs.YtedjnaggkakphaaGreatDoor.Dx
open Go Go.RowKit Go.Proofs
set_option maxRecDepth 100000
set_option maxHeartbeats 1000000
def tkC (t : Tk) : List D := [iD t.kind, .str t.text, iD t.at_]
def prC (y : Nat) : List D := [iD y, iD 50]
abbrev tokD (src : List UInt8) : D := .tup [.sl ((toks src 0).map tkC), .sl ((bads src 0 (-1) 0).map prC), iD 0]
/-- where the scanner stands -/
structure TAt (src : List UInt8) (a : Nat) (acc : List Tk) (nb : List Nat) (en : Int) : Prop where
 le : a ≤ src.length
 tl : acc.length ≤ a
 bl : nb.length ≤ a
 en0 : -1 ≤ en ∧ en ≤ src.length
 tk : acc ++ toks (src.drop a) a = toks src 0
 bd : nb ++ bads (src.drop a) a en nb.length = bads src 0 (-1) 0
theorem TAt.zero (src : List UInt8) : TAt src 0 [] [] (-1) := ⟨Nat.zero_le _, Nat.le_refl _, Nat.le_refl _, by omega, rfl, rfl⟩
theorem TAt.step {src : List UInt8} {a : Nat} {acc : List Tk} {nb : List Nat} {en : Int} (h : TAt src a acc nb en) (ha : a < src.length) {k : Nat} {s : List UInt8} {n : Nat} (hs : stepT (src.drop a) = (k, s, n)) :
 1 ≤ n ∧ a + n ≤ src.length ∧ (isTk k = true → k ≠ 0 → TAt src (a + n) (acc ++ [⟨k, s, a⟩]) nb en) ∧ (isTk k = false → k ≠ 0 → TAt src (a + n) acc nb en) ∧
   (k = 0 → ((a : Int) ≠ en ∧ nb.length < 64 → TAt src (a + n) acc (nb ++ [a]) (a + n : Nat)) ∧ (¬ ((a : Int) ≠ en ∧ nb.length < 64) → TAt src (a + n) acc nb (a + n : Nat))) := by
 have hd := List.drop_eq_getElem_cons ha
 rw [hd] at hs
 have hle := stepT_le src[a] (src.drop (a + 1))
 rw [hs, List.length_drop] at hle
 dsimp only at hle
 have htk := h.tk
 have hbd := h.bd
 rw [hd, toks_cons, hs] at htk
 rw [hd, bads_cons, hs] at hbd
 have hdd : (src[a] :: src.drop (a + 1)).drop n = src.drop (a + n) := by rw [← hd, List.drop_drop]
 dsimp only at htk hbd
 rw [hdd] at htk hbd
 have h1 := h.le; have h2 := h.tl; have h3 := h.bl; have h4 := h.en0
 refine ⟨hle.1, by omega, fun hk h0 => ?_, fun hk h0 => ?_, fun h0 => ⟨fun hc => ?_, fun hc => ?_⟩⟩
 · rw [if_pos hk] at htk; rw [if_neg h0] at hbd
   exact ⟨by omega, by simp; omega, by omega, h4, by rw [List.append_assoc]; exact htk, hbd⟩
 · rw [if_neg (by rw [hk]; decide)] at htk; rw [if_neg h0] at hbd
   exact ⟨by omega, by omega, by omega, h4, htk, hbd⟩
 · subst h0
   rw [if_neg (by decide)] at htk; rw [if_pos rfl, if_pos hc] at hbd
   exact ⟨by omega, by omega, by simp; omega, by omega, htk, by rw [List.append_assoc, List.length_append]; exact hbd⟩
 · subst h0
   rw [if_neg (by decide)] at htk; rw [if_pos rfl, if_neg hc] at hbd
   exact ⟨by omega, by omega, by omega, by omega, htk, hbd⟩
theorem readT_kind (c : UInt8) (t : List UInt8) : (readT (c :: t)).1 ≤ 5 := by
 simp only [readT, numT]
 repeat' split
 all_goals (dsimp only; omega)
theorem cls_blank (b : UInt8) : (cls b.toNat = 1) ↔ blB b = true := by
 rw [← (cls_all b).2.2.2]; simp
theorem stepT_blank {src : List UInt8} {j : Nat} (hj : j < src.length) (hb : blB src[j] = true) : stepT (src.drop j) = (7, [], 1) := by
 rw [List.drop_eq_getElem_cons hj, stepT, if_pos hb]
theorem stepT_comment {src : List UInt8} {j : Nat} (hj : j < src.length) (hb : src[j] = 35) : stepT (src.drop j) = (7, [], skipC (src.drop j)) := by
 rw [List.drop_eq_getElem_cons hj, stepT, hb, if_neg (by decide), if_pos rfl, skipC, if_neg (by decide)]
theorem stepT_read {src : List UInt8} {j : Nat} (hj : j < src.length) (hb : blB src[j] = false) (hc : src[j] ≠ 35) : stepT (src.drop j) = readT (src.drop j) := by
 rw [List.drop_eq_getElem_cons hj, stepT, if_neg (by rw [hb]; decide), if_neg hc]
theorem skip_step {src : List UInt8} {q : Nat} (hq : q < src.length) : ((src[q].toNat : Int) = 10 → skipC (src.drop q) = 0) ∧ (¬ (src[q].toNat : Int) = 10 → skipC (src.drop q) = skipC (src.drop (q + 1)) + 1) := by
 have h10 : src[q] = 10 ↔ (src[q].toNat : Int) = 10 := u8_eq (n := 10) (by decide)
 rw [List.drop_eq_getElem_cons hq, skipC]
 exact ⟨fun h => if_pos (h10.2 h), fun h => if_neg (fun e => h (h10.1 e))⟩
theorem skip_end {src : List UInt8} : skipC (src.drop src.length) = 0 := by rw [List.drop_length]; rfl
theorem Kst {src : List UInt8} {a : Int} {E : Prop} (e : E) : 0 + 1 < (scB src a).length ∧ E := ⟨by show _ < (tabB cls).length + 1 + 1; rw [tab_len]; omega, e⟩
theorem readers_meets : Meets Tryz.prog 27 [] fun d => d = .sl rdrs := by
 refine enter tok {} Tryz.func27 rfl (by kernel_rfl) Tryz.ntmps27 (by simp) fun B0 W0 V0 lent g0 => ?_
 ((conv => whnf); repeat' (refine Z rfl ?_; conv => whnf))
 repeat' ((first | (intro hlq; (try simp only [SL] at hlq)) | refine Ks ?_ | refine Kq ?_ | refine Kt ?_ | refine Ka ?_ | refine Kb ?_ | refine Kc (hd := rfl) (e := ?_) | refine Kc (hd := icells_eq _) (e := ?_) | refine Kd (e := ?_) | refine Kl rfl ?_ | fail) <;> ((conv => whnf); repeat' (refine Z rfl ?_; conv => whnf)))
 exact ⟨rfl⟩
theorem cTokens_meets (hT : TimeOk) (src : List UInt8) (hl : src.length ≤ 65536) : Meets Tryz.prog 12 [.sl (byteCells src)] fun d => d = tokD src := by
 refine enter tok {sym := [18], rs := [32, 82, 88]} Tryz.func12 rfl (by kernel_rfl) Tryz.ntmps12 (by simp) fun B0 W0 V0 lent g0 => ?_
 ((conv => whnf); repeat' ((fail_if_success (refine J_at 3 ?_)); (fail_if_success (refine J_at2 3 ?_)); refine vcC_go tok {sym := [18], rs := [32, 82, 88]} rfl ?_; conv => whnf))
 refine J_scope ?_
 ((conv => whnf); repeat' ((fail_if_success (refine J_at 3 ?_)); (fail_if_success (refine J_at2 3 ?_)); refine vcC_go tok {sym := [18], rs := [32, 82, 88]} rfl ?_; conv => whnf))
 repeat' ((first | (intro hlq; (try simp only [SL] at hlq)) | refine Ks ?_ | refine Kq ?_ | refine Kt ?_ | refine Ka ?_ | refine Kb ?_ | refine Kc (hd := rfl) (e := ?_) | refine Kc (hd := icells_eq _) (e := ?_) | refine Kd (e := ?_) | refine Kl rfl ?_ | fail) <;> ((conv => whnf); repeat' ((fail_if_success (refine J_at 3 ?_)); (fail_if_success (refine J_at2 3 ?_)); refine vcC_go tok {sym := [18], rs := [32, 82, 88]} rfl ?_; conv => whnf)))
 refine ⟨fun h0 => ?_, fun h0 => ?_⟩ <;> (try simp only [BL] at h0) <;> ((conv => whnf); repeat' ((fail_if_success (refine J_at 3 ?_)); (fail_if_success (refine J_at2 3 ?_)); refine vcC_go tok {sym := [18], rs := [32, 82, 88]} rfl ?_; conv => whnf))
 · exfalso; omega
 refine J_seq (cut_rule tok (cf := {sym := [18], rs := [32, 82, 88]}) (X := Unit) (fun _ => ⟨[(5, .loc 18 0), (4, iB 0), (3, .full []), (2, .full []), (0, .d (.sl (byteCells src)))], [(18, .box (scB src (0 : Nat)) 53)], []⟩) (fun _ => True) ?_ (fun _ _ => ?_))
 · conv => whnf
   obtain ⟨tb, htb⟩ : ∃ tb, tb = tabD cls := ⟨_, rfl⟩
   have hc : Meets Tryz.prog 26 [] fun d => d = .agg tb := by rw [htb]; exact classes_meets
   refine Meets.k hc ?_
   show normS _ _
   rw [normS_eq]
   refine region_scan htb rfl rfl rfl rfl rfl ?_
   refine ⟨⟨(), ?_, True.intro⟩⟩
   repeat' (first | exact SubBs_sc _ _ _ | exact True.intro | exact rfl | refine And.intro ?_ ?_)
 ((conv => whnf); repeat' (refine vcC_go tok {sym := [18], rs := [32, 82, 88]} rfl ?_; conv => whnf))
 refine Meets.k readers_meets ?_
 ((conv => whnf); repeat' (refine vcC_go tok {sym := [18], rs := [32, 82, 88]} rfl ?_; conv => whnf))
 refine J_label ?_
 ((conv => whnf); repeat' (refine vcC_go tok {sym := [18], rs := [32, 82, 88]} rfl ?_; conv => whnf))
 refine loop_upd tok {sym := [18], rs := [32, 82, 88]} [(.inl 2, 2, 38, 3), (.inl 3, 3, 41, 2)] (X := Nat × List Tk × List Nat × Int) (fun x => [(7, iB x.2.2.2), (2, .own 2), (3, .own 3)]) (fun x => [(18, .box (scB src x.1) 53), (2, .sl ⟨38, 3, x.2.1.map tkC, true⟩), (3, .sl ⟨41, 2, x.2.2.1.map prC, true⟩)]) [] (fun x => TAt src x.1 x.2.1 x.2.2.1 x.2.2.2) (fun x => src.length - x.1) (0, [], [], -1) ?_
 ((conv => whnf); repeat' (refine vcC_go tok {sym := [18], rs := [32, 82, 88]} rfl ?_; conv => whnf))
 refine ⟨by simp, ?_⟩
 ((conv => whnf); repeat' (refine vcC_go tok {sym := [18], rs := [32, 82, 88]} rfl ?_; conv => whnf))
 refine ⟨by simp, ?_⟩
 ((conv => whnf); repeat' (refine vcC_go tok {sym := [18], rs := [32, 82, 88]} rfl ?_; conv => whnf))
 refine And.intro ?_ ⟨TAt.zero src, fun x hΦ => ?_⟩
 · repeat' (first | exact SubBs_sc _ _ _ | exact True.intro | exact rfl | refine And.intro ?_ ?_)
 obtain ⟨a, acc, nb, en⟩ := x
 dsimp only at hΦ ⊢
 have ha := hΦ.le
 have hen := hΦ.en0
 have htl := hΦ.tl
 have hbl := hΦ.bl
 ((conv => whnf); repeat' (refine vcC_go tok {sym := [18], rs := [32, 82, 88]} rfl ?_; conv => whnf))
 refine ⟨_, rfl, ?_⟩
 ((conv => whnf); repeat' (refine vcC_go tok {sym := [18], rs := [32, 82, 88]} rfl ?_; conv => whnf))
 repeat' ((first | (intro hlq; (try simp only [SL] at hlq)) | refine Ks ?_ | refine Kq ?_ | refine Kt ?_ | refine Ka ?_ | refine Kb ?_ | refine Kc (hd := rfl) (e := ?_) | refine Kc (hd := icells_eq _) (e := ?_) | refine Kd (e := ?_) | refine Kl rfl ?_ | fail) <;> ((conv => whnf); repeat' (refine vcC_go tok {sym := [18], rs := [32, 82, 88]} rfl ?_; conv => whnf)))
 refine ⟨fun h1 => ?_, fun h1 => ?_⟩ <;> (try simp only [BL] at h1) <;> ((conv => whnf); repeat' (refine vcC_go tok {sym := [18], rs := [32, 82, 88]} rfl ?_; conv => whnf))
 · have h1' : a < src.length := by omega
   have hstep := fun {k s n} h => @TAt.step src a acc nb en hΦ h1' k s n h
   refine ⟨_, rfl, ?_⟩
   ((conv => whnf); repeat' (refine vcC_go tok {sym := [18], rs := [32, 82, 88]} rfl ?_; conv => whnf))
   refine ⟨[(18, .box (scB src a) 53)], [.loc 18 0, iB a], ⟨?_, ?_⟩, (lent_sc (src := src) (a := a) (class_meets src a a) rfl (by rintro _ rfl; rfl)).mono ?_⟩
   · exact Kr
   · exact ⟨⟨rfl, SubBs_sc _ _ _⟩, True.intro⟩
   rintro o O2 ⟨d, rfl, rfl, rfl⟩
   dsimp only
   rw [closedR_sc]
   ((conv => whnf); repeat' (refine vcC_go tok {sym := [18], rs := [32, 82, 88]} rfl ?_; conv => whnf))
   rw [clsA_at h1']
   refine ⟨fun h2 => ?_, fun h2 => ?_⟩ <;> (try simp only [BL] at h2) <;> ((conv => whnf); repeat' (refine vcC_go tok {sym := [18], rs := [32, 82, 88]} rfl ?_; conv => whnf))
   · obtain ⟨s1, s2, _, s4, _⟩ := hstep (stepT_blank h1' ((cls_blank _).1 h2))
     refine ⟨_, rfl, ?_⟩
     ((conv => whnf); repeat' (refine vcC_go tok {sym := [18], rs := [32, 82, 88]} rfl ?_; conv => whnf))
     repeat' ((first | (intro hlq; (try simp only [SL] at hlq)) | refine Kst ?_ | refine Ks ?_ | refine Kq ?_ | refine Kt ?_ | ((refine Kh (fun hb => ?_) fun hb => ?_) <;> (try simp only [BL] at hb)) | refine Ka ?_ | refine Kb ?_ | refine Kc (hd := rfl) (e := ?_) | refine Kc (hd := icells_eq _) (e := ?_) | refine Kd (e := ?_) | refine Kl rfl ?_ | fail) <;> ((conv => whnf); repeat' (refine vcC_go tok {sym := [18], rs := [32, 82, 88]} rfl ?_; conv => whnf)))
     refine ⟨⟨(a + 1, acc, nb, en), ?_, s4 rfl (by decide), by dsimp only; omega⟩⟩
     repeat' (first | exact SubBs_sc _ _ _ | exact True.intro | exact rfl | refine And.intro ?_ ?_)
   have hnb : blB src[a] = false := by
    cases hx : blB src[a]
    · rfl
    · exact absurd ((cls_blank _).2 hx) h2
   have h35 : src[a] = 35 ↔ (src[a].toNat : Int) = 35 := u8_eq (n := 35) (by decide)
   refine ⟨_, rfl, ?_⟩
   ((conv => whnf); repeat' (refine vcC_go tok {sym := [18], rs := [32, 82, 88]} rfl ?_; conv => whnf))
   repeat' ((first | (intro hlq; (try simp only [SL] at hlq)) | refine Ks ?_ | refine Kq ?_ | refine Kt ?_ | refine Ka ?_ | refine Kb ?_ | refine Kc (hd := rfl) (e := ?_) | refine Kc (hd := rfl) (e := ?_) | refine Kd (e := ?_) | refine Kl rfl ?_ | fail) <;> ((conv => whnf); repeat' (refine vcC_go tok {sym := [18], rs := [32, 82, 88]} rfl ?_; conv => whnf)))
   refine ⟨fun h3 => ?_, fun h3 => ?_⟩ <;> (try simp only [BL] at h3) <;> ((conv => whnf); repeat' (refine vcC_go tok {sym := [18], rs := [32, 82, 88]} rfl ?_; conv => whnf))
   · obtain ⟨s1, s2, _, s4, _⟩ := hstep (stepT_comment h1' (h35.2 h3))
     have hsk := (skip_step h1').2 (by omega)
     refine loop_upd tok {sym := [18], rs := [32, 82, 88]} [] (X := Nat) (fun _ => []) (fun q => [(18, .box (scB src q) 53)]) [] (fun q => q ≤ src.length ∧ q + skipC (src.drop q) = a + skipC (src.drop a)) (fun q => src.length - q) a ?_
     ((conv => whnf); repeat' (refine vcC_go tok {sym := [18], rs := [32, 82, 88]} rfl ?_; conv => whnf))
     refine And.intro ?_ ⟨⟨by omega, rfl⟩, fun q hq => ?_⟩
     · repeat' (first | exact SubBs_sc _ _ _ | exact True.intro | exact rfl | refine And.intro ?_ ?_)
     obtain ⟨hq, he⟩ := hq
     ((conv => whnf); repeat' (refine vcC_go tok {sym := [18], rs := [32, 82, 88]} rfl ?_; conv => whnf))
     refine ⟨_, rfl, ?_⟩
     ((conv => whnf); repeat' (refine vcC_go tok {sym := [18], rs := [32, 82, 88]} rfl ?_; conv => whnf))
     repeat' ((first | (intro hlq; (try simp only [SL] at hlq)) | refine ⟨_, rfl, ?_⟩ | refine Kst ?_ | refine Ks ?_ | refine Kq ?_ | refine Kt ?_ | ((refine Kh (fun hb => ?_) fun hb => ?_) <;> (try simp only [BL] at hb)) | refine Ka ?_ | refine Kb ?_ | refine Kc (hd := rfl) (e := ?_) | refine Kc (hd := rfl) (e := ?_) | refine Kd (e := ?_) | refine Kl rfl ?_ | fail) <;> ((conv => whnf); repeat' (refine vcC_go tok {sym := [18], rs := [32, 82, 88]} rfl ?_; conv => whnf)))
     · have h2' : q < src.length := by omega
       refine ⟨⟨q + 1, ?_, ⟨by omega, ?_⟩, by omega⟩⟩
       · repeat' (first | exact SubBs_sc _ _ _ | exact True.intro | exact rfl | refine And.intro ?_ ?_)
       · have := (skip_step h2').2 (by assumption); omega
     · have h2' : q < src.length := by omega
       have hq0 := (skip_step h2').1 (by omega)
       refine ⟨⟨(q, acc, nb, en), ?_, ?_, by dsimp only; omega⟩⟩
       · repeat' (first | exact SubBs_sc _ _ _ | exact True.intro | exact rfl | refine And.intro ?_ ?_)
       · dsimp only
         rw [show q = a + skipC (src.drop a) by omega]
         exact s4 rfl (by decide)
     · obtain rfl : q = src.length := by omega
       rw [skip_end] at he
       refine ⟨⟨(src.length, acc, nb, en), ?_, ?_, by dsimp only; omega⟩⟩
       · repeat' (first | exact SubBs_sc _ _ _ | exact True.intro | exact rfl | refine And.intro ?_ ?_)
       · dsimp only
         rw [show src.length = a + skipC (src.drop a) by omega]
         exact s4 rfl (by decide)
   · have hr := stepT_read h1' hnb (fun e => h3 (h35.1 e))
     have hkd : (readT (src.drop a)).1 ≤ 5 := by rw [List.drop_eq_getElem_cons h1']; exact readT_kind _ _
     have hread := fun q hq hp => reader_at hT src a q h1' hl hq hp
     rcases hx : readT (src.drop a) with ⟨k, s, n⟩
     rw [hx] at hr hkd
     simp only [hx] at hread
     have hS := hstep hr
     dsimp only at hkd
     clear hr hstep hx h35 hnb h3
     repeat' ((first | (intro hlq; (try simp only [SL] at hlq)) | refine Ks ?_ | refine Kq ?_ | refine Kt ?_ | refine Ka ?_ | refine Kb ?_ | refine Kc (hd := rfl) (e := ?_) | refine Kc (hd := icells_eq _) (e := ?_) | refine Kd (e := ?_) | refine Kl rfl ?_ | fail) <;> ((conv => whnf); repeat' (refine vcC_go tok {sym := [18], rs := [32, 82, 88]} rfl ?_; conv => whnf)))
     refine loop_upd tok {sym := [18], rs := [32, 82, 88]} [] (X := Nat) (fun q => [(75, iB q), (7, iB en), (2, .own 2), (3, .own 3)]) (fun _ => []) [] (fun q => q < 6 ∧ ∀ p < q, begB p src[a] (src.drop (a + 1)) = false) (fun q => 6 - q) 0 ?_
     ((conv => whnf); repeat' (refine vcC_go tok {sym := [18], rs := [32, 82, 88]} rfl ?_; conv => whnf))
     refine And.intro ?_ ⟨⟨by omega, by omega⟩, fun q hq => ?_⟩
     · repeat' (first | exact SubBs_sc _ _ _ | exact True.intro | exact rfl | refine And.intro ?_ ?_)
     obtain ⟨hq, hp⟩ := hq
     obtain ⟨F, G, hel, kb, kr⟩ := hread q hq hp
     ((conv => whnf); repeat' (refine vcC_go tok {sym := [18], rs := [32, 82, 88]} rfl ?_; conv => whnf))
     refine ⟨fun h4 => ?_, fun h4 => ?_⟩ <;> (try simp only [BL] at h4) <;> ((conv => whnf); repeat' (refine vcC_go tok {sym := [18], rs := [32, 82, 88]} rfl ?_; conv => whnf))
     · refine ⟨_, ⟨by omega, hel, rfl⟩, ?_⟩
       ((conv => whnf); repeat' (refine vcC_go tok {sym := [18], rs := [32, 82, 88]} rfl ?_; conv => whnf))
       refine ⟨[(18, .box (scB src a) 53)], [.loc 18 0], ⟨?_, ?_⟩, (lent_sc (src := src) (a := a) (kb) rfl (by rintro _ rfl; rfl)).mono ?_⟩
       · exact Kr
       · exact ⟨⟨rfl, SubBs_sc _ _ _⟩, True.intro⟩
       rintro o O2 ⟨d, rfl, rfl, rfl⟩
       dsimp only
       rw [closedR_sc]
       ((conv => whnf); repeat' (refine vcC_go tok {sym := [18], rs := [32, 82, 88]} rfl ?_; conv => whnf))
       refine ⟨fun h5 => ?_, fun h5 => ?_⟩ <;> (try simp only [BL] at h5) <;> ((conv => whnf); repeat' (refine vcC_go tok {sym := [18], rs := [32, 82, 88]} rfl ?_; conv => whnf))
       · repeat' ((first | (intro hlq; (try simp only [SL] at hlq)) | refine Ks ?_ | refine Kq ?_ | refine Kt ?_ | refine Ka ?_ | refine Kb ?_ | refine Kc (hd := rfl) (e := ?_) | refine Kc (hd := icells_eq _) (e := ?_) | refine Kd (e := ?_) | refine Kl rfl ?_ | fail) <;> ((conv => whnf); repeat' (refine vcC_go tok {sym := [18], rs := [32, 82, 88]} rfl ?_; conv => whnf)))
         refine ⟨⟨q + 1, ?_, ⟨?_, ?_⟩, by omega⟩⟩
         · repeat' (first | exact SubBs_sc _ _ _ | exact True.intro | exact rfl | refine And.intro ?_ ?_)
         · have h6 : q ≠ 5 := by rintro rfl; cases h5
           omega
         · intro p hp'
           by_cases e : p = q
           · rw [e]; exact h5
           · exact hp p (by omega)
       have kr := kr h5
       clear hread kb hp hel h5
       by_cases hk0 : k = 0
       · subst hk0
         obtain ⟨s1, s2, _, _, s5⟩ := hS
         obtain ⟨t1, t2⟩ := s5 rfl
         have kr : Meets Tryz.prog G [scP src a] fun d => d = .tup [tkD 0 [] 0, iD (a + n : Nat)] := kr
         refine ⟨[(18, .box (scB src a) 53)], [.loc 18 0], ⟨?_, ?_⟩, (lent_sc (src := src) (a := a) (kr) rfl (by rintro _ rfl; rfl)).mono ?_⟩
         · exact Kr
         · exact ⟨⟨rfl, SubBs_sc _ _ _⟩, True.intro⟩
         rintro o O2 ⟨d, rfl, rfl, rfl⟩
         dsimp only
         rw [closedR_sc]
         ((conv => whnf); repeat' (refine vcC_go tok {sym := [18], rs := [32, 82, 88]} rfl ?_; conv => whnf))
         repeat' ((first | (intro hlq; (try simp only [SL] at hlq)) | refine ⟨_, rfl, ?_⟩ | refine Kar ?_ | refine Kap ?_ | refine Kst ?_ | refine Ks ?_ | refine Kq ?_ | refine Kt ?_ | ((refine Kh (fun hb => ?_) fun hb => ?_) <;> (try simp only [BL] at hb)) | refine Ka ?_ | refine Kb ?_ | refine Kc (hd := rfl) (e := ?_) | refine Kc (hd := icells_eq _) (e := ?_) | refine Kd (e := ?_) | refine Kl rfl ?_ | fail) <;> ((conv => whnf); repeat' (refine vcC_go tok {sym := [18], rs := [32, 82, 88]} rfl ?_; conv => whnf)))
         all_goals first
          | contradiction
          | (exfalso; omega)
          | (refine ⟨⟨(a + n, acc, nb ++ [a], ((a + n : Nat) : Int)), ?_, t1 ⟨by omega, by simp only [List.length_map] at *; omega⟩, by dsimp only; omega⟩⟩
             dsimp only
             repeat' (first | exact SubBs_sc _ _ _ | exact True.intro | exact rfl | (simp only [List.map_append]; rfl) | refine And.intro ?_ ?_))
          | (refine ⟨⟨(a + n, acc, nb, ((a + n : Nat) : Int)), ?_, t2 (by simp only [List.length_map] at *; omega), by dsimp only; omega⟩⟩
             dsimp only
             repeat' (first | exact SubBs_sc _ _ _ | exact True.intro | exact rfl | (simp only [List.map_append]; rfl) | refine And.intro ?_ ?_))
       · obtain ⟨s1, s2, s3, _, _⟩ := hS
         have s3 := s3 (decide_eq_true ⟨by omega, hkd⟩) hk0
         have kr : Meets Tryz.prog G [scP src a] fun d => d = .tup [tkD k s a, iD (a + n : Nat)] := by
          have e : tkA a (k, s, n) = tkD k s a := if_neg hk0
          rw [← e]; exact kr
         refine ⟨[(18, .box (scB src a) 53)], [.loc 18 0], ⟨?_, ?_⟩, (lent_sc (src := src) (a := a) (kr) rfl (by rintro _ rfl; rfl)).mono ?_⟩
         · exact Kr
         · exact ⟨⟨rfl, SubBs_sc _ _ _⟩, True.intro⟩
         rintro o O2 ⟨d, rfl, rfl, rfl⟩
         dsimp only
         rw [closedR_sc]
         ((conv => whnf); repeat' (refine vcC_go tok {sym := [18], rs := [32, 82, 88]} rfl ?_; conv => whnf))
         repeat' ((first | (intro hlq; (try simp only [SL] at hlq)) | refine ⟨_, rfl, ?_⟩ | refine Kar ?_ | refine Kap ?_ | refine Kst ?_ | refine Ks ?_ | refine Kq ?_ | refine Kt ?_ | ((refine Kh (fun hb => ?_) fun hb => ?_) <;> (try simp only [BL] at hb)) | refine Ka ?_ | refine Kb ?_ | refine Kc (hd := rfl) (e := ?_) | refine Kc (hd := icells_eq _) (e := ?_) | refine Kd (e := ?_) | refine Kl rfl ?_ | fail) <;> ((conv => whnf); repeat' (refine vcC_go tok {sym := [18], rs := [32, 82, 88]} rfl ?_; conv => whnf)))
         all_goals first
          | contradiction
          | (exfalso; omega)
          | (refine ⟨⟨(a + n, acc ++ [⟨k, s, a⟩], nb, en), ?_, s3, by dsimp only; omega⟩⟩
             dsimp only
             repeat' (first | exact SubBs_sc _ _ _ | exact True.intro | exact rfl | (simp only [List.map_append]; rfl) | refine And.intro ?_ ?_))
     · exfalso
       simp only [List.length_cons, List.length_nil] at h4
       omega
 · obtain rfl : a = src.length := by omega
   have htk := hΦ.tk
   have hbd := hΦ.bd
   rw [List.drop_length, toks_nil] at htk
   rw [List.drop_length, bads_nil, List.append_nil] at hbd
   repeat' ((first | (intro hlq; (try simp only [SL] at hlq)) | refine Kar ?_ | refine Kap ?_ | refine Ks ?_ | refine Kq ?_ | refine Kt ?_ | ((refine Kh (fun hb => ?_) fun hb => ?_) <;> (try simp only [BL] at hb)) | refine Ka ?_ | refine Kb ?_ | refine Kc (hd := rfl) (e := ?_) | refine Kc (hd := icells_eq _) (e := ?_) | refine Kd (e := ?_) | refine Kl rfl ?_ | fail) <;> ((conv => whnf); repeat' (refine vcC_go tok {sym := [18], rs := [32, 82, 88]} rfl ?_; conv => whnf)))
   refine ⟨?_⟩
   rw [tokD, ← htk, ← hbd, List.map_append]
   show D.tup [.sl (acc.map tkC ++ [[iD 6, .str [], iD ((byteCells src).length : Nat)]]), .sl (nb.map prC), iD 0] = _
   rw [List.length_map]
   rfl
end Go.Proofs.YtedjnaggkakphaaGreatDoor.Dx
