/- Chapter 06: the closures that recover. -/
import Derived.Test.YtaopegkpjhkooaaGreatDoorBx
import Derived.Test.YtaopegkpjhkooaaGreatDoorBl
import Derived.Test.YtaopegkpjhkooaaGreatDoorC4
import Derived.Test.YtaopegkpjhkooaaGreatDoorBs
set_option linter.all false
namespace Go.Proofs.YtaopegkpjhkooaaGreatDoor.Dx
open Go Go.RowKit
set_option maxRecDepth 100000
set_option maxHeartbeats 16000000
theorem catch_idle_cond (b0 b1 b2 b3 b5 b6 : D) : MeetsD Tryz.prog 54 [.loc 4 0, .loc 5 0, .loc 6 0] [(4, .box [.d b0, .d b1, .d b2, .d b3] 26), (5, .box [.d b5] 3), (6, .box [.d b6] 32)] none fun O' => O' = [(4, .box [.d b0, .d b1, .d b2, .d b3] 26), (5, .box [.d b5] 3), (6, .box [.d b6] 32)] := by
 refine enterC tok {} Tryz.func54 rfl (by kernel_rfl) Tryz.ntmps54 (by simp) (by decide) (by decide) fun B0 W0 V0 lent g0 => ?_
 ((conv => whnf); repeat' (refine Z rfl ?_; conv => whnf))
 refine ⟨_, .d (.tup []), ?_, ⟨⟨_, rfl⟩, rfl⟩⟩
 repeat' (first | exact True.intro | exact rfl | refine And.intro ?_ ?_ | (exact SubB_rf _ _))
theorem catch_cond (b0 b1 b2 b3 b5 b6 : D) (at_ e : Int) : MeetsD Tryz.prog 54 [.loc 4 0, .loc 5 0, .loc 6 0] [(4, .box [.d b0, .d b1, .d b2, .d b3] 26), (5, .box [.d b5] 3), (6, .box [.d b6] 32)] (some (.iface 130 (.agg [iD at_, iD e])))
 fun O' => O' = [(4, .box [.d (iD 0), .d (iD 0), .d (iD 0), .d (.sl [])] 26), (5, .box [.d (iD at_)] 3), (6, .box [.d (iD e)] 32)] := by
 refine enterC tok {nm := [(4, 54), (6, 56)]} Tryz.func54 rfl (by kernel_rfl) Tryz.ntmps54 (by simp) (by decide) (by decide) fun B0 W0 V0 lent g0 => ?_
 ((conv => whnf); repeat' (refine vcC_go tok {nm := [(4, 54), (6, 56)]} rfl ?_; conv => whnf))
 refine ⟨fun h => absurd h (by decide), fun _ => ?_⟩
 ((conv => whnf); repeat' (refine vcC_go tok {nm := [(4, 54), (6, 56)]} rfl ?_; conv => whnf))
 refine draw_rule tok (cf := {nm := [(4, 54), (6, 56)]}) (by kernel_rfl) [.p 0, .p 1, .p 2, .p 3, .p 4, .s 5 [0], .s 6 [2,1], .s 7 [4,3]] (by kernel_rfl) ?_
 ((conv => whnf); repeat' (refine vcC_go tok {nm := [(4, 54), (6, 56)]} rfl ?_; conv => whnf))
 repeat' ((first | (intro hlq; (try simp only [SL] at hlq)) | refine Ks ?_ | refine Kq ?_ | refine Kt ?_ | ((refine Kh (fun hb => ?_) fun hb => ?_) <;> (try simp only [BL] at hb)) | refine Ka ?_ | refine Kb ?_ | refine Kc (hd := rfl) (e := ?_) | refine Kc (hd := icells_eq _) (e := ?_) | refine Kd (e := ?_) | refine Kl rfl ?_ | fail) <;> ((conv => whnf); repeat' (refine vcC_go tok {nm := [(4, 54), (6, 56)]} rfl ?_; conv => whnf)))
 refine ⟨_, .d (.tup []), ?_, ⟨⟨_, rfl⟩, rfl⟩⟩
 repeat' (first | exact True.intro | exact rfl | refine And.intro ?_ ?_ | (exact SubB_rf _ _))
end Go.Proofs.YtaopegkpjhkooaaGreatDoor.Dx
/- Chapter 06: parsing conditions and steps. -/
namespace Go.Proofs.YtaopegkpjhkooaaGreatDoor.Dx
open Go Go.RowKit
set_option maxRecDepth 100000
set_option maxHeartbeats 16000000
/-- the parser's box with a course's cells, among other resources -/
abbrev pcO (ts : List Tk) (cs : List Base) (X : List (Nat × Blk)) : List (Nat × Blk) := (5000, .box (.d (.sl (ts.map tkC)) :: cs) 133) :: X
def RdP {α : Type} (f : α → D) (r : Rs α) (cs : List Base) (X : List (Nat × Blk)) (o : Out) (O' : List (Nat × Blk)) : Prop := match r with
 | .ok a ts => o = .ret (.d (f a)) ∧ O' = pcO ts cs X
 | .er a e => ∃ ts', o = .pan (.iface 130 (.agg [iD (a : Int), iD e])) ∧ O' = pcO ts' cs X
 | .out => False
theorem rr_list (us : List Value) (h : us.length = 16) : rrB (fun i => us.getD i undef) = us.map rawB := by
 match us, h with
 | [_, _, _, _, _, _, _, _, _, _, _, _, _, _, _, _], _ => rfl
theorem keepC {F : Nat} {args : List Base} {ts : List Tk} {cs : List Base} {X : List (Nat × Blk)} {R : Out → List Tk → Prop} (hc : cs.length = 16)
 (h : ∀ u, MeetsR Tryz.prog F args (psO ts u) fun o O' => ∃ ts', O' = psO ts' u ∧ R o ts') (hR : ∀ o ts', R o ts' → (∃ d, o = .ret (.d d)) ∨ ∃ d, o = .pan d) :
 MeetsR Tryz.prog F args (pcO ts cs X) fun o O' => ∃ ts', O' = pcO ts' cs X ∧ R o ts' := by
 have hk := MeetsR.keepRaw (P := Tryz.prog) (F := F) (args := args) (n := 5000) (l := .sl (ts.map tkC)) (cs := cs) (ty := 133) (X := X) (R := fun o l' => ∃ ts', l' = .sl (ts'.map tkC) ∧ R o ts') (fun us hus => by
  have h1 := h fun i => us.getD i undef
  unfold psO at h1
  rw [rr_list us (hus.trans hc)] at h1
  refine h1.mono ?_
  rintro o O' ⟨ts', rfl, hr⟩
  refine ⟨.sl (ts'.map tkC), ?_, ts', rfl, hr⟩
  rw [← rr_list us (hus.trans hc)]) (fun o l' ⟨ts', _, hr⟩ => hR o ts' hr)
 refine hk.mono ?_
 rintro o O' ⟨l', rfl, ts', rfl, hr⟩
 exact ⟨ts', rfl, hr⟩
theorem keepRd {α : Type} {F : Nat} {args : List Base} {ts : List Tk} {cs : List Base} {X : List (Nat × Blk)} {f : α → D} {r : Rs α} (hc : cs.length = 16)
 (h : ∀ u, MeetsR Tryz.prog F args (psO ts u) fun o O' => RdO f r u o O') : MeetsR Tryz.prog F args (pcO ts cs X) fun o O' => RdP f r cs X o O' := by
 refine (keepC (R := fun o ts' => match r with | .ok a ts => o = .ret (.d (f a)) ∧ ts' = ts | .er a e => o = .pan (.iface 130 (.agg [iD (a : Int), iD e])) | .out => False) hc (fun u => (h u).mono fun o O' ho => ?_) fun o ts' hr => ?_).mono ?_
 · cases r with
   | ok a ts => exact ⟨ts, ho.2, ho.1, rfl⟩
   | er a e => obtain ⟨ts', h1, h2⟩ := ho; exact ⟨ts', h2, h1⟩
   | out => exact ho.elim
 · cases r with
   | ok a ts => exact .inl ⟨_, hr.1⟩
   | er a e => exact .inr ⟨_, hr⟩
   | out => exact hr.elim
 · rintro o O' ⟨ts', rfl, hr⟩
   cases r with
   | ok a ts => exact ⟨hr.1, by rw [hr.2]⟩
   | er a e => exact ⟨ts', hr, rfl⟩
   | out => exact hr.elim
/-- a call that gives this, or panics with this, and keeps the tokens or takes some -/
theorem keep1 {F : Nat} {args : List Base} {ts ts' : List Tk} {cs : List Base} {X : List (Nat × Blk)} {o0 : Out} (hc : cs.length = 16) (ho : (∃ d, o0 = .ret (.d d)) ∨ ∃ d, o0 = .pan d)
 (h : ∀ u, MeetsR Tryz.prog F args (psO ts u) fun o O' => o = o0 ∧ O' = psO ts' u) : MeetsR Tryz.prog F args (pcO ts cs X) fun o O' => o = o0 ∧ O' = pcO ts' cs X := by
 refine (keepC (R := fun o t => o = o0 ∧ t = ts') hc (fun u => (h u).mono fun o O' hh => ⟨ts', hh.2, hh.1, rfl⟩) fun o t hr => ?_).mono ?_
 · obtain ⟨rfl, _⟩ := hr
   exact ho
 · rintro o O' ⟨t, rfl, h1, rfl⟩
   exact ⟨h1, rfl⟩
theorem rp_cases {α : Type} {f : α → D} {r : Rs α} {cs : List Base} {X : List (Nat × Blk)} {o : Out} {O' : List (Nat × Blk)} (h : RdP f r cs X o O') :
 (∃ a e ts', r = .er a e ∧ o = .pan (.iface 130 (.agg [iD (a : Int), iD e])) ∧ O' = pcO ts' cs X) ∨ ∃ a ts', r = .ok a ts' ∧ o = .ret (.d (f a)) ∧ O' = pcO ts' cs X := by
 cases r with
 | out => exact h.elim
 | er a e => obtain ⟨ts', h1, h2⟩ := h; exact .inl ⟨a, e, ts', rfl, h1, h2⟩
 | ok a ts => exact .inr ⟨a, ts, rfl, h.1, h.2⟩
/-- the cells of a course that nobody has filled in -/
abbrev zc16 : List Base := [.d (.str []), .d (.sl []), .d (.sl []), .d (.sl []), .d (.sl []), .d (.sl []), .d (.sl []), .d (.sl []), .d (.sl []), .d (iD 0), .d (iD 0), .d (iD 0), .d (iD 0), .d (iD 0), .d (iD 0), .d (iD 0)]
theorem next_at (ts : List Tk) (u : Nat → Value) (he : EndsT ts) : MeetsR Tryz.prog 55 [.loc 5000 0] (psO ts u) fun o O' => o = .ret (.d (.agg (tkC (hdT ts)))) ∧ O' = psO ts u := by
 obtain ⟨t, r, rfl⟩ := he.cons
 exact next_meets t r u
theorem cond27 (ts : List Tk) (u : Nat → Value) (hq : QT ts) (hn : condP FU 0 ts ≠ .out) : MeetsR Tryz.prog 27 [.loc 5000 0] (psO ts u) fun o O' => RdO Cond.d (condP FU 0 ts) u o O' := by
 have hc := cond_reads FU (by decide) 0 ts u (by omega) hq hn
 obtain ⟨res, hres⟩ : ∃ res, res = condP FU 0 ts := ⟨_, rfl⟩
 rw [← hres]
 refine enterR tok {rs := [4]} Tryz.func27 rfl (by kernel_rfl) Tryz.ntmps27 (by simp) fun B0 W0 V0 lent g0 => ?_
 ((conv => whnf); repeat' (refine vcC_go tok {rs := [4]} rfl ?_; conv => whnf))
 refine ⟨psO ts u, _, ⟨?_, ?_⟩, (hc).mono ?_⟩
 · exact Kr
 · exact Kr
 intro o O2 ho
 have hh := rd_cases ho
 clear ho
 obtain hh | hh := hh
 · obtain ⟨a, e, ts9, hU, rfl, rfl⟩ := hh
   (try dsimp only at hU)
   rw [hU] at hres
   (try rw [Rs.bind_er] at hres)
   ((conv => whnf); repeat' (refine vcC_go tok {rs := [4]} rfl ?_; conv => whnf))
   refine ⟨psO ts9 u, ⟨?_, ?_⟩, ?_⟩
   · exact Kr
   · exact Kr
   rw [hres]
   exact ⟨_, rfl, rfl⟩
 obtain ⟨c, ts2, hU, rfl, rfl⟩ := hh
 (try dsimp only at hU)
 rw [hU] at hres
 (try rw [Rs.bind_ok] at hres)
 ((conv => whnf); repeat' (refine vcC_go tok {rs := [4]} rfl ?_; conv => whnf))
 refine ⟨psO ts2 u, .d c.d, ?_, ?_⟩
 rotate_left 1
 · rw [hres]
   exact ⟨rfl, rfl⟩
 repeat' (first | exact True.intro | exact rfl | refine And.intro ?_ ?_)
theorem steps31 (ts : List Tk) (u : Nat → Value) (hq : QT ts) (hn : stepsP FU 0 [] ts ≠ .out) : MeetsR Tryz.prog 31 [.loc 5000 0] (psO ts u) fun o O' => RdO stD (stepsP FU 0 [] ts) u o O' := by
 have hc := (steps_all FU (by decide) FU (Nat.le_refl _)).1 0 ts u (by omega) hq hn
 dsimp only at hc
 obtain ⟨res, hres⟩ : ∃ res, res = stepsP FU 0 [] ts := ⟨_, rfl⟩
 rw [← hres]
 refine enterR tok {rs := [4]} Tryz.func31 rfl (by kernel_rfl) Tryz.ntmps31 (by simp) fun B0 W0 V0 lent g0 => ?_
 ((conv => whnf); repeat' (refine vcC_go tok {rs := [4]} rfl ?_; conv => whnf))
 refine ⟨psO ts u, _, ⟨?_, ?_⟩, (hc).mono ?_⟩
 · exact Kr
 · exact Kr
 intro o O2 ho
 have hh := rd_cases ho
 clear ho
 obtain hh | hh := hh
 · obtain ⟨a, e, ts9, hU, rfl, rfl⟩ := hh
   (try dsimp only at hU)
   rw [hU] at hres
   (try rw [Rs.bind_er] at hres)
   ((conv => whnf); repeat' (refine vcC_go tok {rs := [4]} rfl ?_; conv => whnf))
   refine ⟨psO ts9 u, ⟨?_, ?_⟩, ?_⟩
   · exact Kr
   · exact Kr
   rw [hres]
   exact ⟨_, rfl, rfl⟩
 obtain ⟨l, ts2, hU, rfl, rfl⟩ := hh
 (try dsimp only at hU)
 rw [hU] at hres
 (try rw [Rs.bind_ok] at hres)
 ((conv => whnf); repeat' (refine vcC_go tok {rs := [4]} rfl ?_; conv => whnf))
 refine ⟨psO ts2 u, .d (stD l), ?_, ?_⟩
 rotate_left 1
 · rw [hres]
   exact ⟨rfl, rfl⟩
 repeat' (first | exact True.intro | exact rfl | refine And.intro ?_ ?_)
theorem parse26 (hT : TimeOk) (src : List UInt8) (hl : src.length ≤ 65536) : Meets Tryz.prog 26 [.sl (byteCells src), .fn 27 [] []] fun d => d = .tup [(condR src).1.d, iD (condR src).2.1, iD (condR src).2.2] := by
 have htk := cTokens_meets hT src hl
 have hq := toks_QT src hl
 have hfu := cond_fu src hl
 obtain ⟨x, hx⟩ : ∃ x, x = condR src := ⟨_, rfl⟩
 rw [← hx]
 unfold condR prsR at hx
 refine enterD tok {nm := [(31, 5000)], rs := [34, 36, 40]} Tryz.func26 rfl (by kernel_rfl) Tryz.ntmps26 (by simp) 4 rfl (by decide) fun B0 W0 V0 lent g0 => ?_
 refine JL_cons tok {nm := [(31, 5000)], rs := [34, 36, 40]} ?_
 ((conv => whnf); repeat' (refine vcC_go tok {nm := [(31, 5000)], rs := [34, 36, 40]} rfl ?_; conv => whnf))
 refine JL_cons tok {nm := [(31, 5000)], rs := [34, 36, 40]} ?_
 ((conv => whnf); repeat' (refine vcC_go tok {nm := [(31, 5000)], rs := [34, 36, 40]} rfl ?_; conv => whnf))
 refine Meets.k htk ?_
 ((conv => whnf); repeat' (refine vcC_go tok {nm := [(31, 5000)], rs := [34, 36, 40]} rfl ?_; conv => whnf))
 refine JL_cons tok {nm := [(31, 5000)], rs := [34, 36, 40]} ?_
 ((conv => whnf); repeat' (refine vcC_go tok {nm := [(31, 5000)], rs := [34, 36, 40]} rfl ?_; conv => whnf))
 refine ⟨fun h => absurd h (by decide), fun _ => ?_⟩
 ((conv => whnf); repeat' (refine vcC_go tok {nm := [(31, 5000)], rs := [34, 36, 40]} rfl ?_; conv => whnf))
 refine JL_cons tok {nm := [(31, 5000)], rs := [34, 36, 40]} ?_
 ((conv => whnf); repeat' (refine vcC_go tok {nm := [(31, 5000)], rs := [34, 36, 40]} rfl ?_; conv => whnf))
 repeat' ((first | (intro hlq; (try simp only [SL] at hlq)) | refine Ks ?_ | refine Kq ?_ | refine Kt ?_ | refine Ka ?_ | refine Kb ?_ | refine Kc (hd := rfl) (e := ?_) | refine Kc (hd := icells_eq _) (e := ?_) | refine Kd (e := ?_) | refine Kl rfl ?_ | fail) <;> ((conv => whnf); repeat' (refine vcC_go tok {nm := [(31, 5000)], rs := [34, 36, 40]} rfl ?_; conv => whnf)))
 refine ⟨fun h0 => ?_, fun h0 => ?_⟩ <;> (try simp only [BL] at h0) <;> ((conv => whnf); repeat' (refine vcC_go tok {nm := [(31, 5000)], rs := [34, 36, 40]} rfl ?_; conv => whnf))
 · obtain ⟨b, bs, hb⟩ := List.exists_cons_of_length_pos (l := bads src 0 (-1) 0) (by omega)
   rw [hb] at hx ⊢
   dsimp only at hx
   refine draw_rule tok (cf := {nm := [(31, 5000)], rs := [34, 36, 40]}) (by kernel_rfl) [.p 0, .p 1, .p 2, .p 3, .p 4, .s 5 [0], .s 6 [4,1,2,3], .s 7 []] (by kernel_rfl) ?_
   ((conv => whnf); repeat' (refine vcC_go tok {nm := [(31, 5000)], rs := [34, 36, 40]} rfl ?_; conv => whnf))
   repeat' ((first | (intro hlq; (try simp only [SL] at hlq)) | refine Ks ?_ | refine Kq ?_ | refine Kt ?_ | ((refine Kh (fun hb => ?_) fun hb => ?_) <;> (try simp only [BL] at hb)) | refine Ka ?_ | refine Kb ?_ | refine Kc (hd := rfl) (e := ?_) | refine Kc (hd := icells_eq _) (e := ?_) | refine Kd (e := ?_) | refine Kl rfl ?_ | fail) <;> ((conv => whnf); repeat' (refine vcC_go tok {nm := [(31, 5000)], rs := [34, 36, 40]} rfl ?_; conv => whnf)))
   refine ⟨prC b, ⟨Int.le_refl _, rfl, rfl⟩, ?_⟩
   ((conv => whnf); repeat' (refine vcC_go tok {nm := [(31, 5000)], rs := [34, 36, 40]} rfl ?_; conv => whnf))
   repeat' ((first | (intro hlq; (try simp only [SL] at hlq)) | refine Ks ?_ | refine Kq ?_ | refine Kt ?_ | ((refine Kh (fun hb => ?_) fun hb => ?_) <;> (try simp only [BL] at hb)) | refine Ka ?_ | refine Kb ?_ | refine Kc (hd := rfl) (e := ?_) | refine Kc (hd := icells_eq _) (e := ?_) | refine Kd (e := ?_) | refine Kl rfl ?_ | fail) <;> ((conv => whnf); repeat' (refine vcC_go tok {nm := [(31, 5000)], rs := [34, 36, 40]} rfl ?_; conv => whnf)))
   refine ⟨?_⟩
   rw [hx]
   rfl
 · have hb : bads src 0 (-1) 0 = [] := List.eq_nil_of_length_eq_zero (by omega)
   rw [hb] at hx
   dsimp only at hx
   refine JL_nil ?_
   conv => whnf
   intro B0 W0 V0 lent g0 m0 dfr
   refine vcC_go tok {nm := [(31, 5000)], rs := [34, 36, 40]} rfl ?_
   ((conv => whnf); repeat' (refine vcC_go tok {nm := [(31, 5000)], rs := [34, 36, 40]} rfl ?_; conv => whnf))
   have hrd := keepRd (cs := zc16) (X := []) (ts := toks src 0) rfl fun u => cond27 (toks src 0) u hq hfu
   refine ⟨pcO (toks src 0) zc16 [], _, ⟨?_, ?_⟩, hrd.mono ?_⟩
   · exact Kr
   · exact Kr
   intro o O2 ho
   have hh := rp_cases ho
   clear ho
   obtain hh | hh := hh
   · obtain ⟨a, e, ts2, hU, rfl, rfl⟩ := hh
     rw [hU] at hx
     ((conv => whnf); repeat' (refine vcC_go tok {nm := [(31, 5000)], rs := [34, 36, 40]} rfl ?_; conv => whnf))
     refine ⟨[(4, .box [.d (iD 0), .d (iD 0), .d (iD 0), .d (.sl [])] 26), (5, .box [.d (iD 0)] 3), (6, .box [.d (iD 0)] 32)], ⟨?_, rfl⟩, (catch_cond _ _ _ _ _ _ _ _).mono ?_⟩
     · exact Kr
     rintro _ rfl
     ((conv => whnf); repeat' (refine vcC_go tok {nm := [(31, 5000)], rs := [34, 36, 40]} rfl ?_; conv => whnf))
     refine ⟨?_⟩
     rw [hx]
     rfl
   obtain ⟨c, ts2, hU, rfl, rfl⟩ := hh
   rw [hU] at hx
   have hx' : x = if (hdT ts2).kind = 6 then (c, 0, 0) else (cz, ((hdT ts2).at_ : Int), 60) := hx
   have he2 := ((cond_kp FU).2.2.2.1 0 _ hq _ _ hU).1
   have hnx := keep1 (cs := zc16) (X := []) rfl (.inl ⟨_, rfl⟩) fun u => next_at ts2 u he2
   have hsp := keep1 (cs := zc16) (X := []) rfl (.inr ⟨_, rfl⟩) fun u => stop_at ts2 u 60 he2
   ((conv => whnf); repeat' (refine vcC_go tok {nm := [(31, 5000)], rs := [34, 36, 40]} rfl ?_; conv => whnf))
   refine ⟨pcO ts2 zc16 [], _, ⟨?_, ?_⟩, hnx.mono ?_⟩
   · exact Kr
   · exact Kr
   rintro _ O2 ⟨rfl, rfl⟩
   ((conv => whnf); repeat' (refine vcC_go tok {nm := [(31, 5000)], rs := [34, 36, 40]} rfl ?_; conv => whnf))
   refine ⟨fun h6 => ?_, fun h6 => ?_⟩ <;> (try simp only [BL] at h6) <;> ((conv => whnf); repeat' (refine vcC_go tok {nm := [(31, 5000)], rs := [34, 36, 40]} rfl ?_; conv => whnf))
   · rw [if_neg (by omega)] at hx'
     refine ⟨pcO ts2 zc16 [], _, ⟨?_, ?_⟩, hsp.mono ?_⟩
     · exact Kr
     · exact Kr
     rintro _ O2 ⟨rfl, rfl⟩
     ((conv => whnf); repeat' (refine vcC_go tok {nm := [(31, 5000)], rs := [34, 36, 40]} rfl ?_; conv => whnf))
     refine ⟨[(4, .box [.d (iD c.kind), .d (iD c.var), .d (iD c.n), .d (.sl (c.parts.map Cond.cells))] 26), (5, .box [.d (iD 0)] 3), (6, .box [.d (iD 0)] 32)], ⟨?_, rfl⟩, (catch_cond _ _ _ _ _ _ _ _).mono ?_⟩
     · exact Kr
     rintro _ rfl
     ((conv => whnf); repeat' (refine vcC_go tok {nm := [(31, 5000)], rs := [34, 36, 40]} rfl ?_; conv => whnf))
     refine ⟨?_⟩
     rw [hx']
     rfl
   · rw [if_pos (by omega)] at hx'
     refine ⟨[(4, .box [.d (iD c.kind), .d (iD c.var), .d (iD c.n), .d (.sl (c.parts.map Cond.cells))] 26), (5, .box [.d (iD 0)] 3), (6, .box [.d (iD 0)] 32)], ⟨?_, rfl⟩, (catch_idle_cond _ _ _ _ _ _).mono ?_⟩
     · exact Kr
     rintro _ rfl
     ((conv => whnf); repeat' (refine vcC_go tok {nm := [(31, 5000)], rs := [34, 36, 40]} rfl ?_; conv => whnf))
     refine ⟨?_⟩
     rw [hx']
theorem Condition_meets (hT : TimeOk) (src : List UInt8) (hl : src.length ≤ 65536) : Meets Tryz.prog 14 [.sl (byteCells src)] fun d => d = .tup [(condR src).1.d, iD (condR src).2.1, iD (condR src).2.2] := by
 have hp := parse26 hT src hl
 revert hp
 generalize condR src = x
 intro hp
 refine enter tok {} Tryz.func14 rfl (by kernel_rfl) Tryz.ntmps14 (by simp) fun B0 W0 V0 lent g0 => ?_
 ((conv => whnf); repeat' (refine Z rfl ?_; conv => whnf))
 refine Meets.k hp ?_
 ((conv => whnf); repeat' (refine Z rfl ?_; conv => whnf))
 exact ⟨rfl⟩
end Go.Proofs.YtaopegkpjhkooaaGreatDoor.Dx
/- Chapter 06: parsing steps. -/
namespace Go.Proofs.YtaopegkpjhkooaaGreatDoor.Dx
open Go Go.RowKit
set_option maxRecDepth 100000
set_option maxHeartbeats 16000000
theorem catch_idle_steps (b0 b5 b6 : D) : MeetsD Tryz.prog 59 [.loc 4 0, .loc 5 0, .loc 6 0] [(4, .box [.d b0] 38), (5, .box [.d b5] 3), (6, .box [.d b6] 32)] none fun O' => O' = [(4, .box [.d b0] 38), (5, .box [.d b5] 3), (6, .box [.d b6] 32)] := by
 refine enterC tok {} Tryz.func59 rfl (by kernel_rfl) Tryz.ntmps59 (by simp) (by decide) (by decide) fun B0 W0 V0 lent g0 => ?_
 ((conv => whnf); repeat' (refine Z rfl ?_; conv => whnf))
 refine ⟨_, .d (.tup []), ?_, ⟨⟨_, rfl⟩, rfl⟩⟩
 repeat' (first | exact True.intro | exact rfl | refine And.intro ?_ ?_ | (exact SubB_rf _ _))
theorem catch_steps (b0 b5 b6 : D) (at_ e : Int) : MeetsD Tryz.prog 59 [.loc 4 0, .loc 5 0, .loc 6 0] [(4, .box [.d b0] 38), (5, .box [.d b5] 3), (6, .box [.d b6] 32)] (some (.iface 130 (.agg [iD at_, iD e])))
 fun O' => O' = [(4, .box [.d (.sl [])] 38), (5, .box [.d (iD at_)] 3), (6, .box [.d (iD e)] 32)] := by
 refine enterC tok {nm := [(4, 54), (6, 56)]} Tryz.func59 rfl (by kernel_rfl) Tryz.ntmps59 (by simp) (by decide) (by decide) fun B0 W0 V0 lent g0 => ?_
 ((conv => whnf); repeat' (refine vcC_go tok {nm := [(4, 54), (6, 56)]} rfl ?_; conv => whnf))
 refine ⟨fun h => absurd h (by decide), fun _ => ?_⟩
 ((conv => whnf); repeat' (refine vcC_go tok {nm := [(4, 54), (6, 56)]} rfl ?_; conv => whnf))
 refine draw_rule tok (cf := {nm := [(4, 54), (6, 56)]}) (by kernel_rfl) [.p 0, .p 1, .p 2, .p 3, .p 4, .s 5 [0], .s 6 [2,1], .s 7 [4,3]] (by kernel_rfl) ?_
 ((conv => whnf); repeat' (refine vcC_go tok {nm := [(4, 54), (6, 56)]} rfl ?_; conv => whnf))
 repeat' ((first | (intro hlq; (try simp only [SL] at hlq)) | refine Ks ?_ | refine Kq ?_ | refine Kt ?_ | ((refine Kh (fun hb => ?_) fun hb => ?_) <;> (try simp only [BL] at hb)) | refine Ka ?_ | refine Kb ?_ | refine Kc (hd := rfl) (e := ?_) | refine Kc (hd := icells_eq _) (e := ?_) | refine Kd (e := ?_) | refine Kl rfl ?_ | fail) <;> ((conv => whnf); repeat' (refine vcC_go tok {nm := [(4, 54), (6, 56)]} rfl ?_; conv => whnf)))
 refine ⟨_, .d (.tup []), ?_, ⟨⟨_, rfl⟩, rfl⟩⟩
 repeat' (first | exact True.intro | exact rfl | refine And.intro ?_ ?_ | (exact SubB_rf _ _))
theorem parse30 (hT : TimeOk) (src : List UInt8) (hl : src.length ≤ 65536) : Meets Tryz.prog 30 [.sl (byteCells src), .fn 31 [] []] fun d => d = .tup [stD (stepsR src).1, iD (stepsR src).2.1, iD (stepsR src).2.2] := by
 have htk := cTokens_meets hT src hl
 have hq := toks_QT src hl
 have hfu := steps_fu src hl
 obtain ⟨x, hx⟩ : ∃ x, x = stepsR src := ⟨_, rfl⟩
 rw [← hx]
 unfold stepsR prsR at hx
 refine enterD tok {nm := [(31, 5000)], rs := [34, 36, 40]} Tryz.func30 rfl (by kernel_rfl) Tryz.ntmps30 (by simp) 4 rfl (by decide) fun B0 W0 V0 lent g0 => ?_
 refine JL_cons tok {nm := [(31, 5000)], rs := [34, 36, 40]} ?_
 ((conv => whnf); repeat' (refine vcC_go tok {nm := [(31, 5000)], rs := [34, 36, 40]} rfl ?_; conv => whnf))
 refine JL_cons tok {nm := [(31, 5000)], rs := [34, 36, 40]} ?_
 ((conv => whnf); repeat' (refine vcC_go tok {nm := [(31, 5000)], rs := [34, 36, 40]} rfl ?_; conv => whnf))
 refine Meets.k htk ?_
 ((conv => whnf); repeat' (refine vcC_go tok {nm := [(31, 5000)], rs := [34, 36, 40]} rfl ?_; conv => whnf))
 refine JL_cons tok {nm := [(31, 5000)], rs := [34, 36, 40]} ?_
 ((conv => whnf); repeat' (refine vcC_go tok {nm := [(31, 5000)], rs := [34, 36, 40]} rfl ?_; conv => whnf))
 refine ⟨fun h => absurd h (by decide), fun _ => ?_⟩
 ((conv => whnf); repeat' (refine vcC_go tok {nm := [(31, 5000)], rs := [34, 36, 40]} rfl ?_; conv => whnf))
 refine JL_cons tok {nm := [(31, 5000)], rs := [34, 36, 40]} ?_
 ((conv => whnf); repeat' (refine vcC_go tok {nm := [(31, 5000)], rs := [34, 36, 40]} rfl ?_; conv => whnf))
 repeat' ((first | (intro hlq; (try simp only [SL] at hlq)) | refine Ks ?_ | refine Kq ?_ | refine Kt ?_ | refine Ka ?_ | refine Kb ?_ | refine Kc (hd := rfl) (e := ?_) | refine Kc (hd := icells_eq _) (e := ?_) | refine Kd (e := ?_) | refine Kl rfl ?_ | fail) <;> ((conv => whnf); repeat' (refine vcC_go tok {nm := [(31, 5000)], rs := [34, 36, 40]} rfl ?_; conv => whnf)))
 refine ⟨fun h0 => ?_, fun h0 => ?_⟩ <;> (try simp only [BL] at h0) <;> ((conv => whnf); repeat' (refine vcC_go tok {nm := [(31, 5000)], rs := [34, 36, 40]} rfl ?_; conv => whnf))
 · obtain ⟨b, bs, hb⟩ := List.exists_cons_of_length_pos (l := bads src 0 (-1) 0) (by omega)
   rw [hb] at hx ⊢
   dsimp only at hx
   refine draw_rule tok (cf := {nm := [(31, 5000)], rs := [34, 36, 40]}) (by kernel_rfl) [.p 0, .p 1, .p 2, .p 3, .p 4, .s 5 [0], .s 6 [4,1,2,3], .s 7 []] (by kernel_rfl) ?_
   ((conv => whnf); repeat' (refine vcC_go tok {nm := [(31, 5000)], rs := [34, 36, 40]} rfl ?_; conv => whnf))
   repeat' ((first | (intro hlq; (try simp only [SL] at hlq)) | refine Ks ?_ | refine Kq ?_ | refine Kt ?_ | ((refine Kh (fun hb => ?_) fun hb => ?_) <;> (try simp only [BL] at hb)) | refine Ka ?_ | refine Kb ?_ | refine Kc (hd := rfl) (e := ?_) | refine Kc (hd := icells_eq _) (e := ?_) | refine Kd (e := ?_) | refine Kl rfl ?_ | fail) <;> ((conv => whnf); repeat' (refine vcC_go tok {nm := [(31, 5000)], rs := [34, 36, 40]} rfl ?_; conv => whnf)))
   refine ⟨prC b, ⟨Int.le_refl _, rfl, rfl⟩, ?_⟩
   ((conv => whnf); repeat' (refine vcC_go tok {nm := [(31, 5000)], rs := [34, 36, 40]} rfl ?_; conv => whnf))
   repeat' ((first | (intro hlq; (try simp only [SL] at hlq)) | refine Ks ?_ | refine Kq ?_ | refine Kt ?_ | ((refine Kh (fun hb => ?_) fun hb => ?_) <;> (try simp only [BL] at hb)) | refine Ka ?_ | refine Kb ?_ | refine Kc (hd := rfl) (e := ?_) | refine Kc (hd := icells_eq _) (e := ?_) | refine Kd (e := ?_) | refine Kl rfl ?_ | fail) <;> ((conv => whnf); repeat' (refine vcC_go tok {nm := [(31, 5000)], rs := [34, 36, 40]} rfl ?_; conv => whnf)))
   refine ⟨?_⟩
   rw [hx]
   rfl
 · have hb : bads src 0 (-1) 0 = [] := List.eq_nil_of_length_eq_zero (by omega)
   rw [hb] at hx
   dsimp only at hx
   refine JL_nil ?_
   conv => whnf
   intro B0 W0 V0 lent g0 m0 dfr
   refine vcC_go tok {nm := [(31, 5000)], rs := [34, 36, 40]} rfl ?_
   ((conv => whnf); repeat' (refine vcC_go tok {nm := [(31, 5000)], rs := [34, 36, 40]} rfl ?_; conv => whnf))
   have hrd := keepRd (cs := zc16) (X := []) (ts := toks src 0) rfl fun u => steps31 (toks src 0) u hq hfu
   refine ⟨pcO (toks src 0) zc16 [], _, ⟨?_, ?_⟩, hrd.mono ?_⟩
   · exact Kr
   · exact Kr
   intro o O2 ho
   have hh := rp_cases ho
   clear ho
   obtain hh | hh := hh
   · obtain ⟨a, e, ts2, hU, rfl, rfl⟩ := hh
     rw [hU] at hx
     ((conv => whnf); repeat' (refine vcC_go tok {nm := [(31, 5000)], rs := [34, 36, 40]} rfl ?_; conv => whnf))
     refine ⟨[(4, .box [.d (.sl [])] 38), (5, .box [.d (iD 0)] 3), (6, .box [.d (iD 0)] 32)], ⟨?_, rfl⟩, (catch_steps _ _ _ _ _).mono ?_⟩
     · exact Kr
     rintro _ rfl
     ((conv => whnf); repeat' (refine vcC_go tok {nm := [(31, 5000)], rs := [34, 36, 40]} rfl ?_; conv => whnf))
     refine ⟨?_⟩
     rw [hx]
     rfl
   obtain ⟨c, ts2, hU, rfl, rfl⟩ := hh
   rw [hU] at hx
   have hx' : x = if (hdT ts2).kind = 6 then (c, 0, 0) else ([], ((hdT ts2).at_ : Int), 60) := hx
   have he2 := ((steps_kp FU).1 0 [] _ hq _ _ hU).1
   have hnx := keep1 (cs := zc16) (X := []) rfl (.inl ⟨_, rfl⟩) fun u => next_at ts2 u he2
   have hsp := keep1 (cs := zc16) (X := []) rfl (.inr ⟨_, rfl⟩) fun u => stop_at ts2 u 60 he2
   ((conv => whnf); repeat' (refine vcC_go tok {nm := [(31, 5000)], rs := [34, 36, 40]} rfl ?_; conv => whnf))
   refine ⟨pcO ts2 zc16 [], _, ⟨?_, ?_⟩, hnx.mono ?_⟩
   · exact Kr
   · exact Kr
   rintro _ O2 ⟨rfl, rfl⟩
   ((conv => whnf); repeat' (refine vcC_go tok {nm := [(31, 5000)], rs := [34, 36, 40]} rfl ?_; conv => whnf))
   refine ⟨fun h6 => ?_, fun h6 => ?_⟩ <;> (try simp only [BL] at h6) <;> ((conv => whnf); repeat' (refine vcC_go tok {nm := [(31, 5000)], rs := [34, 36, 40]} rfl ?_; conv => whnf))
   · rw [if_neg (by omega)] at hx'
     refine ⟨pcO ts2 zc16 [], _, ⟨?_, ?_⟩, hsp.mono ?_⟩
     · exact Kr
     · exact Kr
     rintro _ O2 ⟨rfl, rfl⟩
     ((conv => whnf); repeat' (refine vcC_go tok {nm := [(31, 5000)], rs := [34, 36, 40]} rfl ?_; conv => whnf))
     refine ⟨[(4, .box [.d (stD c)] 38), (5, .box [.d (iD 0)] 3), (6, .box [.d (iD 0)] 32)], ⟨?_, rfl⟩, (catch_steps _ _ _ _ _).mono ?_⟩
     · exact Kr
     rintro _ rfl
     ((conv => whnf); repeat' (refine vcC_go tok {nm := [(31, 5000)], rs := [34, 36, 40]} rfl ?_; conv => whnf))
     refine ⟨?_⟩
     rw [hx']
     rfl
   · rw [if_pos (by omega)] at hx'
     refine ⟨[(4, .box [.d (stD c)] 38), (5, .box [.d (iD 0)] 3), (6, .box [.d (iD 0)] 32)], ⟨?_, rfl⟩, (catch_idle_steps _ _ _).mono ?_⟩
     · exact Kr
     rintro _ rfl
     ((conv => whnf); repeat' (refine vcC_go tok {nm := [(31, 5000)], rs := [34, 36, 40]} rfl ?_; conv => whnf))
     refine ⟨?_⟩
     rw [hx']
theorem Steps_meets (hT : TimeOk) (src : List UInt8) (hl : src.length ≤ 65536) : Meets Tryz.prog 17 [.sl (byteCells src)] fun d => d = .tup [stD (stepsR src).1, iD (stepsR src).2.1, iD (stepsR src).2.2] := by
 have hp := parse30 hT src hl
 revert hp
 generalize stepsR src = x
 intro hp
 refine enter tok {} Tryz.func17 rfl (by kernel_rfl) Tryz.ntmps17 (by simp) fun B0 W0 V0 lent g0 => ?_
 ((conv => whnf); repeat' (refine Z rfl ?_; conv => whnf))
 refine Meets.k hp ?_
 ((conv => whnf); repeat' (refine Z rfl ?_; conv => whnf))
 exact ⟨rfl⟩
end Go.Proofs.YtaopegkpjhkooaaGreatDoor.Dx
