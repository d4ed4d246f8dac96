/- Chapter 06: sync.Once's slow road, over the model: the lock is taken, the function is called, then the two calls that were put off. -/
import Derived.Test.YtedjnaggkakphaaGreatDoorEe
import Derived.Tactics
import Derived.Tactics2
import Derived.Defers
import Derived.Laws.Pointers
import Derived.Laws.LoneSync
import Derived.RegionTactic
import Derived.RegionCalls
set_option linter.all false
namespace Go.Proofs.YtedjnaggkakphaaGreatDoor.Dx
open Go Go.RowKit Go.Proofs
set_option maxRecDepth 100000
set_option maxHeartbeats 4000000
theorem disable6 (w : World) : (callFunc 157 #[]).run Tryz.prog w = .ok (.value (.tuple #[])) w := run_call_mark0 Tryz.func157 (by kernel_rfl) (by kernel_rfl) (by kernel_rfl) .disable (by kernel_rfl) w
theorem enable6 (w : World) : (callFunc 159 #[]).run Tryz.prog w = .ok (.value (.tuple #[])) w := run_call_mark0 Tryz.func159 (by kernel_rfl) (by kernel_rfl) (by kernel_rfl) .enable (by kernel_rfl) w
theorem acquire6 (a : Addr) (w : World) : (callFunc 160 #[.pointer (some a)]).run Tryz.prog w = .ok (.value (.tuple #[])) w := run_call_marked Tryz.func160 (by kernel_rfl) (by kernel_rfl) (by kernel_rfl) .acquire (by kernel_rfl) a w
theorem releaseMerge6 (a : Addr) (w : World) : (callFunc 162 #[.pointer (some a)]).run Tryz.prog w = .ok (.value (.tuple #[])) w := run_call_marked Tryz.func162 (by kernel_rfl) (by kernel_rfl) (by kernel_rfl) .releaseMerge (by kernel_rfl) a w
theorem store164 (a : Addr) (x : Value) (u : FrameMode) (w : World) (hc : w.cell? a = some x) (hz : w.frozen? a = false) :
 CallsD Tryz.prog 122 #[.pointer (some a), .bool true] u w fun e u' w' => u' = u ∧ (e = .returned (.tuple #[]) ∧ w' = w.drew.setCell a (.int .u32 1)) := by
 have hc' : w.drew.cell? a = some x := by go_simp
 have hz' : w.drew.frozen? a = false := by go_simp
 have hst := run_call_store (P := Tryz.prog) Tryz.func143 (by kernel_rfl) (by kernel_rfl) (by kernel_rfl) (by kernel_rfl) (k := .u32) (y := 1) hc' hz'
 go_enter_d Tryz.func122, Tryz.ntmps122
 go_wp2
 go_region_calls
 all_goals (go_end0; exact ⟨rfl, rfl⟩)
theorem unlock163 (a : Addr) (u : FrameMode) (w : World) (hc : w.cell? a = some (.int .i32 1)) (hz : w.frozen? a = false) :
 CallsD Tryz.prog 121 #[.pointer (some a)] u w fun e u' w' => u' = u ∧ (e = .returned (.tuple #[]) ∧ w' = w.setCell a (.int .i32 0)) := by
 have hd := disable6
 have he := enable6
 have hr := releaseMerge6
 have hadd := run_call_add (P := Tryz.prog) Tryz.func163 (by kernel_rfl) (by kernel_rfl) (by kernel_rfl) .i32 (by kernel_rfl) (y := -1) (s := 0) hc hz (by simp [go_sem]; rfl)
 have hcv := run_convert_to_unsafe (P := Tryz.prog) (src := 186) (dst := 190) Tryz.underlying186 Tryz.underlying190 (by kernel_rfl) hc
 go_enter_d Tryz.func121, Tryz.ntmps121
 go_wp2
 go_end0
 go_wp2
 go_end0
 exact ⟨rfl, rfl⟩
theorem lock162 (a : Addr) (w : World) (hc : w.cell? a = some (.int .i32 0)) (hz : w.frozen? a = false) :
 Calls Tryz.prog 120 #[.pointer (some a)] w fun e w' => e = .returned (.tuple #[]) ∧ w' = w.setCell a (.int .i32 1) := by
 have hd := disable6
 have he := enable6
 have ha := acquire6
 have hcas := run_call_cas_hit (P := Tryz.prog) Tryz.func158 (by kernel_rfl) (by kernel_rfl) (by kernel_rfl) .i32 (by kernel_rfl) (y := 1) hc hz
 have hc' : (w.setCell a (.int .i32 1)).cell? a = some (.int .i32 1) := World.cell?_setCell_same w a _ hc
 have hcv := run_convert_to_unsafe (P := Tryz.prog) (src := 186) (dst := 190) Tryz.underlying186 Tryz.underlying190 (by kernel_rfl) hc'
 go_enter Tryz.func120, Tryz.ntmps120
 go_wp2
 first | go_end0 | (simp only [Exit.inBlock, Exit.then]; refine bodyPost_ret (results_none rfl _ _ _) rfl ?_) | refine bodyPost_ret (results_none rfl _ _ _) rfl ?_
 go_wp2
 go_end0
 exact ⟨rfl, rfl⟩
theorem slow135 (b : Nat) (w : World) (Z : World → Prop) (h0 : w.cell? ⟨b, 0, none⟩ = some (.int .u32 0)) (h1 : w.cell? ⟨b, 1, none⟩ = some (.int .i32 0)) (f1 : w.frozen? ⟨b, 1, none⟩ = false)
 (hF : Calls Tryz.prog 83 #[.pointer (some ⟨b, 0, none⟩)] (w.setCell ⟨b, 1, none⟩ (.int .i32 1)) fun e w2 => e = .returned (.tuple #[]) ∧ Z w2)
 (hZ : ∀ w2, Z w2 → w2.cell? ⟨b, 0, none⟩ = some (.int .u32 0) ∧ w2.cell? ⟨b, 1, none⟩ = some (.int .i32 1) ∧ w2.frozen? ⟨b, 0, none⟩ = false ∧ w2.frozen? ⟨b, 1, none⟩ = false) :
 Calls Tryz.prog 99 #[.pointer (some ⟨b, 0, none⟩), .func (.func 83) #[.pointer (some ⟨b, 0, none⟩)] #[]] w fun e w' => e = .returned (.tuple #[]) ∧
  ∃ w2, Z w2 ∧ w' = (w2.drew.setCell ⟨b, 0, none⟩ (.int .u32 1)).setCell ⟨b, 1, none⟩ (.int .i32 0) := by
 have hl := run_call_load (P := Tryz.prog) Tryz.func119 (by kernel_rfl) (by kernel_rfl) (by kernel_rfl) .u32 (by kernel_rfl) (w := w.setCell ⟨b, 1, none⟩ (.int .i32 1)) (a := ⟨b, 0, none⟩) (x := 0) ((World.cell?_setCell_other _ ⟨b, 1, none⟩ ⟨b, 0, none⟩ _ (by simp)).trans h0)
 have hnot : ∀ (x : Bool) (w : World), (Op.unary .not (.bool x)).run Tryz.prog w = .ok (.bool (!x)) w := fun _ _ => rfl
 go_enter_defers Tryz.func99, Tryz.ntmps99
 go_wp2_with (first
  | (go_at_call 120; refine (lock162 ⟨b, 1, none⟩ _ (by go_simp) (by go_simp)).mono ?_; rintro e w' ⟨rfl, rfl⟩)
  | (go_at_call 98; go_in)
  | (go_at_call 83; refine hF.mono ?_; rintro e w2 ⟨rfl, hz⟩))
 obtain ⟨z0, z1, y0, y1⟩ := hZ w2 hz
 refine leaves_cons (f := 122) (args := #[.pointer (some ⟨b, 0, none⟩), .bool true]) (by simp) (by simp [go_sem]) ?_
 refine (store164 ⟨b, 0, none⟩ (.int .u32 0) .returning _ z0 y0).mono ?_
 rintro e u' w'' ⟨rfl, rfl, rfl⟩
 refine leaves_cons (f := 121) (args := #[.pointer (some ⟨b, 1, none⟩)]) (by simp [settle]) (by simp [go_sem]) ?_
 refine (unlock163 ⟨b, 1, none⟩ _ _ ?_ (by simp [y1])).mono ?_
 · refine (World.cell?_setCell_other _ ⟨b, 0, none⟩ ⟨b, 1, none⟩ _ (by simp)).trans ?_
   rw [World.cell?_drew]
   exact z1
 rintro e u' w'' ⟨rfl, rfl, rfl⟩
 simp [Leaves, settle, results, Tryz.results135]
 exact ⟨w2, hz, rfl⟩
end Go.Proofs.YtedjnaggkakphaaGreatDoor.Dx
/- Chapter 06: sync.Once of a Replacer; strings.Replacer's Replace down to its replacer. -/
namespace Go.Proofs.YtedjnaggkakphaaGreatDoor.Dx
open Go Go.RowKit Go.Proofs
set_option maxRecDepth 100000
set_option maxHeartbeats 4000000
section
variable {w : World} {b k o i : Nat} {cs : Array Value} {ty : TypeId} {fz : Nat × Nat} {v : Value} {γ : Gm} {V : Know}
theorem set_row6 (h : w.heap[b]? = some (.cells cs ty fz)) : (w.setCell ⟨b, o, none⟩ v).heap[b]? = some (.cells (cs.setIfInBounds o v) ty fz) := by
 simp [World.setCell, Array.getElem?_modify, h]
theorem set_off6 (h : k ≠ b) : (w.setCell ⟨b, o, none⟩ v).heap[k]? = w.heap[k]? := by
 simp [World.setCell, Array.getElem?_modify, Ne.symm h]
theorem set_size6 : (w.setCell ⟨b, o, none⟩ v).heap.size = w.heap.size := by simp [World.setCell]
theorem frozen6 (h : w.heap[b]? = some (.cells cs ty (0, 0))) : w.frozen? ⟨b, o, none⟩ = false := by simp [World.frozen?, h]
theorem cell6 (h : w.heap[b]? = some (.cells cs ty fz)) (hc : cs.toList[o]? = some v) : w.cell? ⟨b, o, none⟩ = some v := by
 have : cs[o]? = some v := by simpa using hc
 simp [World.cell?, h, this]
theorem own1 {n : Nat} {x : Blk} (h : BlkOk γ V w (γ n) x) : OwnOk γ V w [(n, x)] := fun m y hy => by
 by_cases e : n = m
 · subst e; rw [look_cons_eq] at hy; cases hy; exact h
 · rw [look_cons_ne e, look_nil] at hy; cases hy
theorem box_set {vv : Value × Option Nat} {cells : List Base} {d : D} (h : BoxOk γ V w vv cells ty) (hg : vv = (.pointer (some ⟨b, 0, none⟩), some b)) (hv : Rep V v d) (ho : v.oneCell' = true) :
 BoxOk γ V (w.setCell ⟨b, i, none⟩ v) vv (cells.set i (.d d)) ty := by
 obtain ⟨b', cs, e, hh, hc, h1, hn⟩ := h
 rw [hg] at e
 obtain rfl : b = b' := by simpa using e
 refine ⟨b, cs.setIfInBounds i v, hg, set_row6 hh, ⟨by simp [hc.len], fun j x y hx hy => ?_⟩, fun u hu => ?_, hn⟩
 · simp only [Array.toList_setIfInBounds] at hy
   rw [List.getElem?_set] at hx hy
   have hl := hc.len
   by_cases e : i = j
   · subst e
     rw [if_pos rfl] at hx hy
     split at hx
     · rw [if_pos (by omega)] at hy
       cases hx; cases hy
       exact hv
     · cases hx
   · rw [if_neg e] at hx hy
     exact hc.get j x y hx hy
 · simp only [Array.toList_setIfInBounds] at hu
   rcases List.mem_or_eq_of_mem_set hu with h | rfl
   · exact h1 u h
   · exact ho
theorem sees_set (hs : Sees V w) (hh : w.heap[b]? = some (.cells cs ty fz)) (hn : ∀ o, V.cell b o = none) : Sees V (w.setCell ⟨b, i, none⟩ v) := by
 have ne : ∀ {c p : Nat} {u : Value}, V.cell c p = some u → c ≠ b := fun h e => by subst e; rw [hn] at h; cases h
 refine ⟨fun c p u hc => ?_, fun r x hx => ?_, hs.lib, hs.keepRow fun c p u hc => set_off6 (ne hc)⟩
 · have := hs.cell c p u hc
   simpa only [World.cell?, set_off6 (ne hc)] using this
 · obtain ⟨h1, es, clock, rfl⟩ := hs.obj r x hx
   have hne : r ≠ b := fun e => by subst e; rw [hh] at h1; cases h1
   exact ⟨by rw [set_off6 hne]; exact h1, es, clock, rfl⟩
theorem below_set {B : Nat} : BelowX [b] B w (w.setCell ⟨b, i, none⟩ v) := ⟨rfl, rfl, rfl, Nat.le_of_eq set_size6.symm, fun _ _ hn => set_off6 (fun e => hn (by rw [e]; exact List.mem_singleton.2 rfl))⟩
theorem sees_drew (hs : Sees V w) : Sees V w.drew := ⟨hs.cell, hs.obj, hs.lib, hs.keepRow fun _ _ _ _ => rfl⟩
theorem own_drew {O : List (Nat × Blk)} (h : OwnOk γ V w O) : OwnOk γ V w.drew O := fun n x hx => (h n x hx).keep (.refl V) (fun _ _ => rfl) (fun _ _ _ _ h => h) (fun _ _ _ h => h)
theorem below_drew {L : List Nat} {B : Nat} : BelowX L B w w.drew := ⟨rfl, rfl, rfl, Nat.le_refl _, fun _ _ _ => rfl⟩
end
theorem slow_meets : MeetsR Tryz.prog 99 [.loc 6000 0, .fn 83 [.loc 6000 0] []] (rpO 0 0 (.v .nilIface) (.sl sixD)) fun o O' => o = .ret (.d (.tup [])) ∧ O' = rpO 1 0 rpI (.sl []) := by
 have hF := once106
 revert hF
 unfold rpI
 generalize rpD = q
 generalize sixD = six
 intro hF
 refine ⟨⟨Tryz.f99, _, Tryz.func99, rfl, by kernel_rfl⟩, fun γ V W xs hs hv hown hinj => ?_⟩
 have hbx := hown 6000 _ (look_cons_eq ..)
 have hbx' := hbx
 obtain ⟨blk, cs, hg, hh, hc, h1, hnone⟩ := hbx'
 obtain ⟨x, xs1, rfl, hx, hv1⟩ := hv.cons_l
 obtain ⟨f, xs2, rfl, hf, hv2⟩ := hv1.cons_l
 obtain rfl := hv2.nil_l
 obtain ⟨blk', hb1, rfl⟩ := hx
 obtain rfl : blk = blk' := by rw [hg] at hb1; simpa using hb1
 obtain ⟨us, ws, rfl, hu, hw⟩ := hf
 obtain rfl := hw.nil_l
 obtain ⟨u, us1, rfl, hu1, hu2⟩ := hu.cons_l
 obtain rfl := hu2.nil_l
 obtain ⟨blk2, hb2, rfl⟩ := hu1
 obtain rfl : blk = blk2 := by rw [hg] at hb2; simpa using hb2
 obtain ⟨y0, g0, r0⟩ := hc.at (i := 0) rfl
 obtain ⟨y1, g1, r1⟩ := hc.at (i := 1) rfl
 obtain rfl : y0 = .int .u32 0 := (Rep.int_inv r0).1
 obtain rfl : y1 = .int .i32 0 := (Rep.int_inv r1).1
 have hbl : blks γ (rpO 0 0 (.v .nilIface) (.sl six)) = [blk] := by simp [blks, hg]
 have hbl1 : blks γ (rpO 0 1 (.v .nilIface) (.sl six)) = [blk] := by simp [blks, hg]
 have hs1 : Sees V (W.setCell ⟨blk, 1, none⟩ (.int .i32 1)) := sees_set hs hh hnone
 have hw1 : OwnOk γ V (W.setCell ⟨blk, 1, none⟩ (.int .i32 1)) (rpO 0 1 (.v .nilIface) (.sl six)) := own1 (box_set (i := 1) hbx hg (Rep.int (k := .i32) (n := 1) (by simp [inKind])) rfl)
 have hi1 : InjOk γ (rpO 0 1 (.v .nilIface) (.sl six)) := by
  intro n n' b b' hl hl' hne
  have one : ∀ {m : Nat} {y : Blk}, look m (rpO 0 1 (.v .nilIface) (.sl six)) = some y → m = 6000 := fun {m y} h => by
   by_cases e : 6000 = m
   · exact e.symm
   · rw [look_cons_ne e, look_nil] at h; cases h
  exact absurd ((one hl).trans (one hl').symm) hne
 have hcall := hF.run γ V (W.setCell ⟨blk, 1, none⟩ (.int .i32 1)) [.pointer (some ⟨blk, 0, none⟩)] hs1 (.cons ⟨blk, by rw [hg], rfl⟩ .nil) hw1 hi1
 rw [hbl1, set_size6] at hcall
 rw [hbl]
 refine (slow135 blk W (fun w2 => ∃ γ2 V2, BelowX [blk] W.heap.size (W.setCell ⟨blk, 1, none⟩ (.int .i32 1)) w2 ∧ Fresh V V2 [blk] W.heap.size ∧ Sees V2 w2 ∧ OwnOk γ2 V2 w2 (rpO 0 1 (.iface 146 (.ptr q 0)) (.sl [])) ∧ γ2 6000 = γ 6000)
  (cell6 hh g0) (cell6 hh g1) (frozen6 hh) (hcall.mono ?_) ?_).mono ?_
 · rintro e w2 ⟨γ2, V2, o, O2, a1, a2, a3, a4, a5, a6, a7, a8, rfl, rfl⟩
   refine ⟨?_, γ2, V2, a2, a3, a4, a5, a8 6000 _ (look_cons_eq ..) rfl⟩
   cases e with
   | returned v =>
     have a1 : Rep V2 v (.tup []) := a1
     cases a1 with
     | tup us ds hl h => obtain rfl := List.eq_nil_of_length_eq_zero hl; rfl
   | _ => exact a1.elim
 · rintro w2 ⟨γ2, V2, a2, a3, a4, a5, a8⟩
   obtain ⟨b2, cs2, e2, hh2, hc2, _⟩ := a5 6000 _ (look_cons_eq ..)
   rw [a8, hg] at e2
   obtain rfl : blk = b2 := by simpa using e2
   obtain ⟨z0, g0, r0⟩ := hc2.at (i := 0) rfl
   obtain ⟨z1, g1, r1⟩ := hc2.at (i := 1) rfl
   obtain rfl : z0 = .int .u32 0 := (Rep.int_inv r0).1
   obtain rfl : z1 = .int .i32 1 := (Rep.int_inv r1).1
   exact ⟨cell6 hh2 g0, cell6 hh2 g1, frozen6 hh2, frozen6 hh2⟩
 · rintro e w' ⟨rfl, w2, ⟨γ2, V2, a2, a3, a4, a5, a8⟩, rfl⟩
   have hb2 := a5 6000 _ (look_cons_eq ..)
   obtain ⟨b2, cs2, e2, hh2, hc2, hone2, hn2⟩ := hb2
   rw [a8, hg] at e2
   obtain rfl : blk = b2 := by simpa using e2
   have hd2 : w2.drew.heap[blk]? = some (.cells cs2 105 (0, 0)) := hh2
   have hd3 := set_row6 (o := 0) (v := .int .u32 1) hd2
   have hgg : γ2 6000 = (.pointer (some ⟨blk, 0, none⟩), some blk) := a8.trans hg
   have x1 := box_set (i := 0) (own_drew a5 6000 _ (look_cons_eq ..)) hgg (Rep.int (k := .u32) (n := 1) (V := V2) (by simp [inKind])) rfl
   have x2 := box_set (i := 1) x1 hgg (Rep.int (k := .i32) (n := 0) (V := V2) (by simp [inKind])) rfl
   refine ⟨γ2, V2, .ret (.d (.tup [])), rpO 1 0 (.iface 146 (.ptr q 0)) (.sl []), undef_rep V2, ((((below_set.trans a2).trans below_drew).trans below_set).trans below_set), a3, sees_set (sees_set (sees_drew a4) hd2 hn2) hd3 hn2, own1 x2, fun n b hl k hk => .inl ?_, ?_, fun n b hl hb => ?_, rfl, rfl⟩
   · by_cases e : 6000 = n
     · subst e; rw [hgg] at hk; cases hk; exact List.mem_singleton.2 rfl
     · rw [look_cons_ne e, look_nil] at hl; cases hl
   · intro n n' b b' hl hl' hne
     have one : ∀ {m : Nat} {y : Blk}, look m (rpO 1 0 (.iface 146 (.ptr q 0)) (.sl [])) = some y → m = 6000 := fun {m y} h => by
      by_cases e : 6000 = m
      · exact e.symm
      · rw [look_cons_ne e, look_nil] at h; cases h
     exact absurd ((one hl).trans (one hl').symm) hne
   · by_cases e : 6000 = n
     · subst e; exact a8
     · rw [look_cons_ne e, look_nil] at hl; cases hl
theorem load134w (a : Addr) (w : World) (h0 : w.cell? a = some (.int .u32 0)) : Calls Tryz.prog 98 #[.pointer (some a)] w fun e w' => e = .returned (.bool false) ∧ w' = w := by
 have hl := run_call_load (P := Tryz.prog) Tryz.func119 (by kernel_rfl) (by kernel_rfl) (by kernel_rfl) .u32 (by kernel_rfl) (w := w) (a := a) (x := 0) h0
 go_enter Tryz.func98, Tryz.ntmps98
 go_wp2
 refine bodyPost_ret (results_tmp rfl _ _ _) rfl ?_
 exact ⟨rfl, rfl⟩
theorem load_meets (m : Int) (r o : D) : MeetsR Tryz.prog 98 [.loc 6000 0] (rpO 0 m r o) fun p O' => p = .ret (.d (bD false)) ∧ O' = rpO 0 m r o := by
 refine ⟨⟨Tryz.f98, _, Tryz.func98, rfl, by kernel_rfl⟩, fun γ V W xs hs hv hown hinj => ?_⟩
 have hbx := hown 6000 _ (look_cons_eq ..)
 obtain ⟨blk, cs, hg, hh, hc, h1, hnone⟩ := hbx
 obtain ⟨x, xs1, rfl, hx, hv1⟩ := hv.cons_l
 obtain rfl := hv1.nil_l
 obtain ⟨blk', hb1, rfl⟩ := hx
 obtain rfl : blk = blk' := by rw [hg] at hb1; simpa using hb1
 obtain ⟨y0, g0, r0⟩ := hc.at (i := 0) rfl
 obtain rfl : y0 = .int .u32 0 := (Rep.int_inv r0).1
 refine (load134w ⟨blk, 0, none⟩ W (cell6 hh g0)).mono ?_
 rintro e w' ⟨rfl, rfl⟩
 exact ⟨γ, V, .ret (.d (bD false)), _, Rep.b false, .refl _ _ _, .refl _ _ _, hs, hown, fun n b hl k hk => .inl (List.mem_filterMap.2 ⟨(n, b), look_mem hl, hk⟩), hinj, fun _ _ _ _ => rfl, rfl, rfl⟩
theorem do_meets : MeetsR Tryz.prog 82 [.loc 6000 0, .fn 83 [.loc 6000 0] []] (rpO 0 0 (.v .nilIface) (.sl sixD)) fun o O' => o = .ret (.d (.tup [])) ∧ O' = rpO 1 0 rpI (.sl []) := by
 have hs := slow_meets
 revert hs
 unfold rpI
 generalize rpD = q
 intro hs
 refine enterR tok {rs := [7, 11]} Tryz.func82 rfl (by kernel_rfl) Tryz.ntmps82 (by simp) fun B0 W0 V0 lent g0 => ?_
 ((conv => whnf); repeat' (refine vcC_go tok {rs := [7, 11]} rfl ?_; conv => whnf))
 refine ⟨rpO 0 0 (.v .nilIface) (.sl sixD), _, ⟨?_, ?_⟩, (load_meets 0 (.v .nilIface) (.sl sixD)).mono ?_⟩
 · exact Kr
 · exact Kr
 rintro _ O2 ⟨rfl, rfl⟩
 ((conv => whnf); repeat' (refine vcC_go tok {rs := [7, 11]} rfl ?_; conv => whnf))
 refine ⟨fun _ => ?_, fun h => absurd h (by decide)⟩
 ((conv => whnf); repeat' (refine vcC_go tok {rs := [7, 11]} rfl ?_; conv => whnf))
 refine ⟨rpO 0 0 (.v .nilIface) (.sl sixD), _, ⟨?_, ?_⟩, hs.mono ?_⟩
 · exact Kr
 · exact Kr
 rintro _ O2 ⟨rfl, rfl⟩
 ((conv => whnf); repeat' (refine vcC_go tok {rs := [7, 11]} rfl ?_; conv => whnf))
 refine ⟨rpO 1 0 (.iface 146 (.ptr q 0)) (.sl []), .d (.tup []), ?_, ⟨rfl, rfl⟩⟩
 repeat' (first | exact True.intro | exact rfl | refine And.intro ?_ ?_)
end Go.Proofs.YtedjnaggkakphaaGreatDoor.Dx
