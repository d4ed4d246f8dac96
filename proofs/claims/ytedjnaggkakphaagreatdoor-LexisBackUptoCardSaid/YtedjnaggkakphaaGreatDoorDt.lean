/- A box of one's own is lent to a function over data; the scanner's small methods. -/
import Derived.Test.YtedjnaggkakphaaGreatDoorDq
set_option linter.all false
namespace Go.Proofs.YtedjnaggkakphaaGreatDoor.Dx
open Go Go.RowKit Go.Proofs
set_option maxRecDepth 100000
set_option maxHeartbeats 8000000
mutual
/-- data without memory -/
def flatD : D → Bool
 | .v _ => true
 | .bl _ => true
 | .str _ => true
 | .junk => true
 | .agg ds => flatDs ds
 | .tup ds => flatDs ds
 | _ => false
def flatDs : List D → Bool
 | [] => true
 | d :: ds => flatD d && flatDs ds
end
theorem flatDs_get : ∀ {ds : List D}, flatDs ds = true → ∀ {i : Nat} {d : D}, ds[i]? = some d → flatD d = true
 | [], _, i, d, h => by simp at h
 | x :: ds, h, i, d, hi => by
   simp only [flatDs, Bool.and_eq_true] at h
   cases i with
   | zero => simp at hi; subst hi; exact h.1
   | succ i => exact flatDs_get h.2 (by simpa using hi)
theorem flat_any {V V' : Know} {x : Value} {d : D} (h : Rep V x d) : flatD d = true → Rep V' x d := by
 induction h with
 | v x h => intro _; exact .v x h
 | bl b => intro _; exact .bl b
 | junk x => intro _; exact .junk x
 | str l h => intro _; exact .str l h
 | agg us ds hl h1 h ih =>
   intro hk
   simp only [flatD] at hk
   exact .agg us ds hl h1 fun i u d hu hd => ih i u d hu hd (flatDs_get hk hd)
 | tup us ds hl h ih =>
   intro hk
   simp only [flatD] at hk
   exact .tup us ds hl fun i u d hu hd => ih i u d hu hd (flatDs_get hk hd)
 | raw => intro hk; simp [flatD] at hk
 | nil => intro hk; simp [flatD] at hk
 | empty a => intro hk; simp [flatD] at hk
 | sl => intro hk; simp [flatD] at hk
 | ptr => intro hk; simp [flatD] at hk
 | mnil => intro hk; simp [flatD] at hk
 | mp => intro hk; simp [flatD] at hk
 | iface => intro hk; simp [flatD] at hk
 | fn => intro hk; simp [flatD] at hk
def Know.lack (V : Know) (g : Nat) : Know := { V with cell := fun b o => if b = g then none else V.cell b o }
theorem lack_cell {V : Know} {g b o : Nat} {u : Value} : (V.lack g).cell b o = some u ↔ b ≠ g ∧ V.cell b o = some u := by
 show (if b = g then none else V.cell b o) = some u ↔ _
 split
 · rename_i h; simp [h]
 · rename_i h; simp [h]
/-- what a base reads as while box n is lent -/
def lentB (n : Nat) (cs : List D) (b : Base) : Option D :=
 match b with
 | .d d => some d
 | .loc m off => match Nat.beq m n with
   | true => some (.ptr cs off)
   | false => none
 | _ => none
def lentBs (n : Nat) (cs : List D) : List Base → Option (List D)
 | [] => some []
 | b :: bs => match lentB n cs b with
   | some d => match lentBs n cs bs with
     | some ds => some (d :: ds)
     | none => none
   | none => none
theorem lentBs_run {γ : Gm} {V V' : Know} (hle : V.Le V') {n blk : Nat} {cs : List D} (hγ : (γ n).1 = .pointer (some ⟨blk, 0, none⟩)) (hr : ∀ off, Rep V' (.pointer (some ⟨blk, off, none⟩)) (.ptr cs off)) : ∀ {bs : List Base} {ds : List D} {vs : List Value}, lentBs n cs bs = some ds → Vals γ V bs vs → Vals γ V' (ds.map .d) vs
 | [], ds, vs, h, hv => by
   cases h
   obtain rfl := hv.nil_l
   exact All2.nil
 | b :: bs, ds, vs, h, hv => by
   obtain ⟨x, vs, rfl, h1, h2⟩ := hv.cons_l
   simp only [lentBs] at h
   split at h
   case h_2 => cases h
   rename_i d hd
   split at h
   case h_2 => cases h
   rename_i ds' hds
   cases h
   refine .cons ?_ (lentBs_run hle hγ hr hds h2)
   unfold lentB at hd
   split at hd
   · cases hd; exact Rep.mono hle h1
   · split at hd
     · rename_i e
       obtain rfl := Nat.eq_of_beq_eq_true e
       cases hd
       obtain ⟨blk', e1, rfl⟩ := h1
       rw [hγ] at e1
       cases e1
       exact hr _
     · cases hd
   · cases hd
theorem lent_meets {P : Program} {F : FuncId} {ds cs : List D} {bs : List Base} {n : Nat} {ty : TypeId} {R : D → Prop} (h : Meets P F ds R) (O : List (Nat × Blk)) (hlk : look n O = some (.box (cs.map .d) ty)) (hl : lentBs n cs bs = some ds) (hk : ∀ d, R d → flatD d = true) :
 MeetsR P F bs O fun o O' => ∃ d, o = .ret (.d d) ∧ O' = O ∧ R d := by
 refine ⟨h.out.fn, fun γ V W vs hs hv hown hinj => ?_⟩
 obtain ⟨g, cells, hγ, hh, hvr, h1, hnone⟩ := hown n _ hlk
 have hgW : g < W.heap.size := (Array.getElem?_eq_some_iff.1 hh).1
 have hcells : ∀ (j : Nat) u, cells.toList[j]? = some u → W.cell? ⟨g, j, none⟩ = some u := by
  intro j u hj
  simp only [World.cell?, hh]
  simpa using hj
 have hle : V.Le (V.with g cells.toList) := with_le' fun o u hu => by rw [hnone] at hu; cases hu
 have hs1 := with_sees' hs hle hcells
 have hat : ∀ (j : Nat) u, (V.with g cells.toList).cell g j = some u ↔ cells.toList[j]? = some u := fun j u => by
  show (if g = g then cells.toList[j]? else _) = some u ↔ _
  rw [if_pos rfl]
 have hrep : ∀ off, Rep (V.with g cells.toList) (.pointer (some ⟨g, off, none⟩)) (.ptr cs off) := by
  intro off
  have := Rep.ptr (V := V.with g cells.toList) g 0 cs off (fun j d hj => by
   obtain ⟨u, hu, _⟩ := hvr.at (i := j) (x := .d d) (by rw [List.getElem?_map, hj]; rfl)
   exact ⟨u, by rw [Nat.zero_add]; exact (hat j u).2 hu, h1 u (List.mem_of_getElem? hu)⟩) (fun j d u hj hu => by
   rw [Nat.zero_add] at hu
   have hu := (hat j u).1 hu
   exact Rep.mono hle (hvr.get j (.d d) u (by rw [List.getElem?_map, hj]; rfl) hu))
  rwa [Nat.zero_add] at this
 refine (h.out.run γ (V.with g cells.toList) W vs hs1 (lentBs_run hle (by rw [hγ]) hrep hl hv) (fun m b hl => by rw [look_nil] at hl; cases hl) (fun m m' b b' hl => by rw [look_nil] at hl; cases hl)).mono ?_
 rintro ev W' ⟨γ', V2, o, O', hout, hbel, hfr, hsees, _, _, _, _, d, rfl, rfl, hR⟩
 have hle2 : V.Le V2 := hle.trans hfr.le
 have hle3 : V.Le (V2.lack g) := ⟨fun b o v hc => lack_cell.2 ⟨fun e => (by rw [e, hnone] at hc; cases hc), hle2.cell b o v hc⟩, fun r x hx => hle2.obj r x hx⟩
 have hbel0 : BelowX [] W.heap.size W W' := hbel
 refine ⟨γ, V2.lack g, .ret (.d d), O, ?_, ⟨hbel0.os, hbel0.tape, hbel0.output, hbel0.size, fun q hq _ => hbel0.block q hq (by simp)⟩, ⟨hle3, fun b o v hc => ?_, fun r x hx => ?_⟩, ⟨fun b o v hc => hsees.cell b o v (lack_cell.1 hc).2, hsees.obj, hs.lib.mono hle3, hsees.row⟩, fun m b hlm => ?_, fun m b hlm q hq => .inl (List.mem_filterMap.2 ⟨(m, b), look_mem hlm, hq⟩), hinj, fun _ _ _ _ => rfl, d, rfl, rfl, hR⟩
 · cases ev with
   | returned v => exact flat_any (V := V2) hout (hk d hR)
   | panicked _ => exact hout.elim
   | outgrown => exact hout.elim
 · obtain ⟨hbg, hc⟩ := lack_cell.1 hc
   rcases hfr.cell b o v hc with h2 | h2 | h2
   · have h3 : (if b = g then cells.toList[o]? else V.cell b o) = some v := h2
     rw [if_neg hbg] at h3
     exact .inl h3
   · simp [blks] at h2
   · exact .inr (.inr h2)
 · rcases hfr.obj r x hx with h2 | h2 | h2
   · exact .inl h2
   · simp [blks] at h2
   · exact .inr (.inr h2)
 · have hb := hown m b hlm
   refine hb.keep hle3 (fun q hq => hbel0.block q (own_lt hb hq) (by simp)) (fun q hq o u hu => ?_) (fun r hr x hx => ?_)
   · obtain ⟨hqg, hc⟩ := lack_cell.1 hu
     rcases hfr.cell q o u hc with h2 | h2 | h2
     · have h3 : (if q = g then cells.toList[o]? else V.cell q o) = some u := h2
       rwa [if_neg hqg] at h3
     · simp [blks] at h2
     · have := own_lt hb hq; omega
   · rcases hfr.obj r x hx with h2 | h2 | h2
     · exact h2
     · simp [blks] at h2
     · have := own_lt hb hr; omega
theorem closedR_dd (d : D) (n : Nat) (cs : List D) (ty : TypeId) : closedR (.d d) [(n, .box (cs.map .d) ty)] = true := by
 have h : ((cs.map Base.d).all fun c => (keysOf c).all (hasK [(n, .box (cs.map .d) ty)])) = true := List.all_eq_true.2 fun b hb => by
  obtain ⟨d, _, rfl⟩ := List.mem_map.1 hb
  rfl
 show (true && ((((cs.map Base.d).all fun c => (keysOf c).all (hasK [(n, .box (cs.map .d) ty)]))) && true)) = true
 rw [h]; rfl
/-! the scanner -/
abbrev scC (src : List UInt8) (a : Int) : List D := .sl (byteCells src) :: iD a :: tabD cls
abbrev scP (src : List UInt8) (a : Int) : D := .ptr (scC src a) 0
def clsA (src : List UInt8) (i : Nat) : Int := match src[i]? with | some b => cls b.toNat | none => 0
def bytA (src : List UInt8) (i : Nat) : Int := match src[i]? with | some b => (b.toNat : Int) | none => 0
theorem tabD_drop (f : Nat → Int) {i : Nat} (h : i < 256) : ∃ r, (tabD f).drop i = cD (f i) :: r := by
 refine ⟨(tabD f).drop (i + 1), ?_⟩
 rw [List.drop_eq_getElem_cons (by rw [tabD_len]; exact h)]
 simp [tabD]
theorem class_meets (src : List UInt8) (a : Int) (i : Nat) : Meets Tryz.prog 28 [scP src a, iD i] fun d => d = cD (clsA src i) := by
 refine enter tok {} Tryz.func28 rfl (by kernel_rfl) Tryz.ntmps28 (by simp) fun B0 W0 V0 lent g0 => ?_
 ((conv => whnf); repeat' (refine Z rfl ?_; conv => whnf))
 repeat' ((first | (intro hlq; (try simp only [SL] at hlq)) | refine Ks ?_ | refine Kq ?_ | refine Kt ?_ | ((refine Kh (fun hb => ?_) fun hb => ?_) <;> (try simp only [BL] at hb)) | refine Ka ?_ | refine Kb ?_ | refine Kc (hd := rfl) (e := ?_) | refine Kc (hd := icells_eq _) (e := ?_) | refine Kd (e := ?_) | refine Kl rfl ?_ | fail) <;> ((conv => whnf); repeat' (refine Z rfl ?_; conv => whnf)))
 · refine ⟨?_⟩
   rw [clsA, List.getElem?_eq_none (by omega)]
 · have hi : i < src.length := by omega
   have hb := src[i].toNat_lt
   obtain ⟨r, hr⟩ := tabD_drop cls (i := src[i].toNat) (by omega)
   refine draw_rule tok (cf := {}) (by kernel_rfl) [.p 0, .p 1, .p 2, .p 3, .p 4, .p 5, .p 6, .p 7, .p 8, .p 9, .p 10, .p 11, .p 12] (by kernel_rfl) ?_
   ((conv => whnf); repeat' (refine Z rfl ?_; conv => whnf))
   repeat' ((first | (intro hlq; (try simp only [SL] at hlq)) | refine Ks ?_ | refine Kq ?_ | refine Kt ?_ | refine Ka ?_ | refine Kb ?_ | refine Kc (hd := rfl) (e := ?_) | refine Kc (hd := icells_eq _) (e := ?_) | refine Kd (e := ?_) | refine Kl rfl ?_ | fail) <;> ((conv => whnf); repeat' (refine Z rfl ?_; conv => whnf)))
   generalize hE : List.drop _ _ = E
   have h : E = cD (cls src[i].toNat) :: r := by
    rw [← hE, ← hr]
    refine Eq.trans (congrArg (fun k => List.drop k (scC src a)) (?_ : _ = src[i].toNat + 2)) rfl
    dsimp only; omega
   clear hE
   subst h
   ((conv => whnf); repeat' (refine Z rfl ?_; conv => whnf))
   refine ⟨?_⟩
   rw [clsA, List.getElem?_eq_getElem hi]
theorem byteAt_meets (src : List UInt8) (a : Int) (i : Nat) : Meets Tryz.prog 70 [scP src a, iD i] fun d => d = cD (bytA src i) := by
 refine enter tok {} Tryz.func70 rfl (by kernel_rfl) Tryz.ntmps70 (by simp) fun B0 W0 V0 lent g0 => ?_
 ((conv => whnf); repeat' (refine Z rfl ?_; conv => whnf))
 repeat' ((first | (intro hlq; (try simp only [SL] at hlq)) | refine Ks ?_ | refine Kq ?_ | refine Kt ?_ | ((refine Kh (fun hb => ?_) fun hb => ?_) <;> (try simp only [BL] at hb)) | refine Ka ?_ | refine Kb ?_ | refine Kc (hd := rfl) (e := ?_) | refine Kc (hd := icells_eq _) (e := ?_) | refine Kd (e := ?_) | refine Kl rfl ?_ | fail) <;> ((conv => whnf); repeat' (refine Z rfl ?_; conv => whnf)))
 · refine ⟨?_⟩
   rw [bytA, List.getElem?_eq_none (by omega)]
 · have hi : i < src.length := by omega
   refine ⟨?_⟩
   rw [bytA, List.getElem?_eq_getElem hi]
/-- classes and the tests of bytes -/
theorem cls_all (b : UInt8) : decide (cls b.toNat = 2) = isLt b ∧ decide (cls b.toNat = 3) = isDg b ∧ decide (cls b.toNat = 4) = sgB b ∧ decide (cls b.toNat = 1) = blB b := by
 have h : ∀ n : Fin 256, decide (cls n.1 = 2) = isLt (UInt8.ofNat n.1) ∧ decide (cls n.1 = 3) = isDg (UInt8.ofNat n.1) ∧ decide (cls n.1 = 4) = sgB (UInt8.ofNat n.1) ∧ decide (cls n.1 = 1) = blB (UInt8.ofNat n.1) := by decide +kernel
 have := h ⟨b.toNat, b.toNat_lt⟩
 simpa using this
theorem cls_hd (src : List UInt8) (i : Nat) : decide (clsA src i = 3) = hdDg (src.drop i) := by
 unfold clsA
 by_cases h : i < src.length
 · rw [List.getElem?_eq_getElem h, List.drop_eq_getElem_cons h]
   exact (cls_all src[i]).2.1
 · rw [List.getElem?_eq_none (by omega), List.drop_eq_nil_of_le (by omega)]
   rfl
theorem run_meets (src : List UInt8) (a : Int) (i : Nat) (p : Bool) (hi : i ≤ src.length) : Meets Tryz.prog 63 [scP src a, iD i, bD p] fun d => d = iD (i + runN p (src.drop i) : Nat) := by
 refine enter tok {} Tryz.func63 rfl (by kernel_rfl) Tryz.ntmps63 (by simp) fun B0 W0 V0 lent g0 => ?_
 ((conv => whnf); repeat' (refine Z rfl ?_; conv => whnf))
 refine loop_upd tok {} [] (X := Nat) (fun j => [(1, iB j)]) (fun _ => []) [] (fun j => j ≤ src.length ∧ j + runN p (src.drop j) = i + runN p (src.drop i)) (fun j => src.length - j) i ?_
 ((conv => whnf); repeat' (refine Z rfl ?_; conv => whnf))
 refine And.intro ?_ ⟨⟨hi, rfl⟩, fun j hΦ => ?_⟩
 · exact Kr
 obtain ⟨hj, he⟩ := hΦ
 ((conv => whnf); repeat' (refine Z rfl ?_; conv => whnf))
 repeat' ((first | (intro hlq; (try simp only [SL] at hlq)) | refine Ks ?_ | refine Kq ?_ | refine Kt ?_ | refine Ka ?_ | refine Kb ?_ | refine Kc (hd := rfl) (e := ?_) | refine Kc (hd := icells_eq _) (e := ?_) | refine Kd (e := ?_) | refine Kl rfl ?_ | fail) <;> ((conv => whnf); repeat' (refine Z rfl ?_; conv => whnf)))
 refine ⟨fun h1 => ?_, fun h1 => ?_⟩ <;> (try simp only [BL] at h1) <;> ((conv => whnf); repeat' (refine Z rfl ?_; conv => whnf))
 · have h1' : j < src.length := by omega
   rw [List.drop_eq_getElem_cons h1', runN] at he
   have hc := cls_all src[j]
   have hd := cls_hd src (j + 1)
   have k1 := class_meets src a j
   rw [show clsA src j = cls src[j].toNat by rw [clsA, List.getElem?_eq_getElem h1']] at k1
   have k2 := class_meets src a (j + 1)
   have hc95 : (src[j] == 95) = decide ((src[j].toNat : Int) = 95) := by
    rw [Bool.eq_iff_iff, beq_iff_eq, decide_eq_true_eq, ← UInt8.toNat_inj]; have : (95 : UInt8).toNat = 95 := rfl; omega
   have hc58 : (src[j] == 58) = decide ((src[j].toNat : Int) = 58) := by
    rw [Bool.eq_iff_iff, beq_iff_eq, decide_eq_true_eq, ← UInt8.toNat_inj]; have : (58 : UInt8).toNat = 58 := rfl; omega
   have hc46 : (src[j] == 46) = decide ((src[j].toNat : Int) = 46) := by
    rw [Bool.eq_iff_iff, beq_iff_eq, decide_eq_true_eq, ← UInt8.toNat_inj]; have : (46 : UInt8).toNat = 46 := rfl; omega
   rw [inB, ptB, ← hc.1, ← hc.2.1, hc95, hc58, hc46, ← hd] at he
   clear hc hd hc95 hc58 hc46
   generalize cls src[j].toNat = k at *
   generalize clsA src (j + 1) = k' at *
   cases p
   all_goals
    repeat' ((first | (intro hlq; (try simp only [SL] at hlq)) | refine Meets.k (k1) ?_ | refine Meets.k (k2) ?_ | refine Ks ?_ | refine Kq ?_ | refine Kt ?_ | ((refine Kh (fun hb => ?_) fun hb => ?_) <;> (try simp only [BL] at hb)) | refine Ka ?_ | refine Kb ?_ | refine Kc (hd := rfl) (e := ?_) | refine Kc (hd := icells_eq _) (e := ?_) | refine Kd (e := ?_) | refine Kl rfl ?_ | fail) <;> ((conv => whnf); repeat' (refine Z rfl ?_; conv => whnf)))
    all_goals first
     | contradiction
     | (refine ⟨congrArg iD ?_⟩; split at he <;> first | omega | (exfalso; simp_all; done))
     | (refine ⟨⟨j + 1, ?_, ⟨by omega, ?_⟩, by omega⟩⟩
        · exact Kr
        · split at he <;> first | omega | (exfalso; simp_all; done))
 · refine ⟨congrArg iD ?_⟩
   rw [← he, List.drop_eq_nil_of_le (by omega)]
   rfl
end Go.Proofs.YtedjnaggkakphaaGreatDoor.Dx
/- The scanner's readers. -/
namespace Go.Proofs.YtedjnaggkakphaaGreatDoor.Dx
open Go Go.RowKit Go.Proofs
set_option maxRecDepth 100000
set_option maxHeartbeats 8000000
abbrev tkD (k : Int) (s : List UInt8) (a : Int) : D := .agg [iD k, .str s, iD a]
/-- the token of a reading at a -/
def tkA (a : Nat) (x : Nat × List UInt8 × Nat) : D := if x.1 = 0 then tkD 0 [] 0 else tkD x.1 x.2.1 a
abbrev rdD (a : Nat) (x : Nat × List UInt8 × Nat) : D := .tup [tkA a x, iD (a + x.2.2 : Nat)]
theorem bc_len (l : List UInt8) : ∀ ds ∈ byteCells l, ds.length = 1 := by
 intro ds h; obtain ⟨b, _, rfl⟩ := List.mem_map.1 h; rfl
theorem bc_eq (l : List UInt8) (i j : Nat) : List.drop i (List.take j (byteCells l)) = byteCells (List.drop i (List.take j l)) := by
 simp only [byteCells, List.map_drop, List.map_take]
theorem dt_eq (l : List UInt8) (i n : Nat) : List.drop (i : Int).toNat (List.take ((i + n : Nat) : Int).toNat l) = (l.drop i).take n := by
 rw [Int.toNat_natCast, Int.toNat_natCast, List.drop_take, Nat.add_sub_cancel_left]
/-- bounds of a piece of bytes -/
theorem Ky {l : List UInt8} {i j : Int} {E : Prop} (e : E) (h : l.length ≤ maxLen → 0 ≤ i ∧ i ≤ j ∧ j ≤ (l.length : Int) := by (intro _; refine ⟨?_, ?_, ?_⟩ <;> omega)) : ((byteCells l).length ≤ maxLen → 0 ≤ i ∧ i ≤ j ∧ j ≤ ((byteCells l).length : Int) ∧ ∀ ds ∈ byteCells l, ds.length = 1) ∧ E :=
 ⟨fun hm => by
  simp only [List.length_map] at hm ⊢
  obtain ⟨h1, h2, h3⟩ := h hm
  exact ⟨h1, h2, h3, bc_len l⟩, e⟩
theorem take_meets (src : List UInt8) (a k : Int) (i n : Nat) (hi : i + n ≤ src.length) (ha : a = i) : Meets Tryz.prog 62 [scP src a, iD k, iD (i + n : Nat)] fun d => d = .tup [tkD k ((src.drop i).take n) i, iD (i + n : Nat)] := by
 subst ha
 refine enter tok {} Tryz.func62 rfl (by kernel_rfl) Tryz.ntmps62 (by simp) fun B0 W0 V0 lent g0 => ?_
 ((conv => whnf); repeat' (refine Z rfl ?_; conv => whnf))
 refine draw_rule tok (cf := {}) (by kernel_rfl) [.p 0, .p 1, .p 2, .p 3, .p 4, .p 5, .p 6, .p 7, .p 8, .p 9, .p 10, .p 11, .p 12, .p 13, .p 14, .p 15, .p 16, .p 17, .s 18 [16,0,1,2,3,4,5,6,7,8,9,10,11,12,13,14,15], .p 19] (by kernel_rfl) ?_
 ((conv => whnf); repeat' (refine Z rfl ?_; conv => whnf))
 repeat' ((first | (intro hlq; (try simp only [SL] at hlq)) | refine Ky ?_ | refine ⟨_, bc_eq _ _ _, ?_⟩ | refine Ks ?_ | refine Kq ?_ | refine Kt ?_ | ((refine Kh (fun hb => ?_) fun hb => ?_) <;> (try simp only [BL] at hb)) | refine Ka ?_ | refine Kb ?_ | refine Kc (hd := rfl) (e := ?_) | refine Kc (hd := icells_eq _) (e := ?_) | refine Kd (e := ?_) | refine Kl rfl ?_ | fail) <;> ((conv => whnf); repeat' (refine Z rfl ?_; conv => whnf)))
 refine ⟨?_⟩
 rw [← dt_eq]
theorem clsA_at {src : List UInt8} {a : Nat} (ha : a < src.length) : clsA src a = cls src[a].toNat := by rw [clsA, List.getElem?_eq_getElem ha]
theorem b60_meets (src : List UInt8) (a : Nat) (ha : a < src.length) : Meets Tryz.prog 60 [scP src a] fun d => d = bD (isLt src[a]) := by
 have k := class_meets src a a
 rw [clsA_at ha] at k
 refine enter tok {} Tryz.func60 rfl (by kernel_rfl) Tryz.ntmps60 (by simp) fun B0 W0 V0 lent g0 => ?_
 ((conv => whnf); repeat' (refine Z rfl ?_; conv => whnf))
 repeat' ((first | (intro hlq; (try simp only [SL] at hlq)) | refine Meets.k (k) ?_ | refine Ks ?_ | refine Kq ?_ | refine Kt ?_ | ((refine Kh (fun hb => ?_) fun hb => ?_) <;> (try simp only [BL] at hb)) | refine Ka ?_ | refine Kb ?_ | refine Kc (hd := rfl) (e := ?_) | refine Kc (hd := icells_eq _) (e := ?_) | refine Kd (e := ?_) | refine Kl rfl ?_ | fail) <;> ((conv => whnf); repeat' (refine Z rfl ?_; conv => whnf)))
 exact ⟨congrArg bD (cls_all src[a]).1⟩
theorem b72_meets (src : List UInt8) (a : Nat) (ha : a < src.length) : Meets Tryz.prog 72 [scP src a] fun d => d = bD (sgB src[a]) := by
 have k := class_meets src a a
 rw [clsA_at ha] at k
 refine enter tok {} Tryz.func72 rfl (by kernel_rfl) Tryz.ntmps72 (by simp) fun B0 W0 V0 lent g0 => ?_
 ((conv => whnf); repeat' (refine Z rfl ?_; conv => whnf))
 repeat' ((first | (intro hlq; (try simp only [SL] at hlq)) | refine Meets.k (k) ?_ | refine Ks ?_ | refine Kq ?_ | refine Kt ?_ | ((refine Kh (fun hb => ?_) fun hb => ?_) <;> (try simp only [BL] at hb)) | refine Ka ?_ | refine Kb ?_ | refine Kc (hd := rfl) (e := ?_) | refine Kc (hd := icells_eq _) (e := ?_) | refine Kd (e := ?_) | refine Kl rfl ?_ | fail) <;> ((conv => whnf); repeat' (refine Z rfl ?_; conv => whnf)))
 exact ⟨congrArg bD (cls_all src[a]).2.2.1⟩
theorem b74_meets (src : List UInt8) (a : Int) : Meets Tryz.prog 74 [scP src a] fun d => d = bD true := by
 refine enter tok {} Tryz.func74 rfl (by kernel_rfl) Tryz.ntmps74 (by simp) fun B0 W0 V0 lent g0 => ?_
 ((conv => whnf); repeat' (refine Z rfl ?_; conv => whnf))
 exact ⟨rfl⟩
theorem beq_c (b : UInt8) (c : UInt8) : (b == c) = decide ((b.toNat : Int) = (c.toNat : Int)) := by
 rw [Bool.eq_iff_iff, beq_iff_eq, decide_eq_true_eq, ← UInt8.toNat_inj]; omega
theorem b66_meets (src : List UInt8) (a : Nat) (ha : a < src.length) : Meets Tryz.prog 66 [scP src a] fun d => d = bD (src[a] == 34) := by
 refine enter tok {} Tryz.func66 rfl (by kernel_rfl) Tryz.ntmps66 (by simp) fun B0 W0 V0 lent g0 => ?_
 ((conv => whnf); repeat' (refine Z rfl ?_; conv => whnf))
 refine draw_rule tok (cf := {}) (by kernel_rfl) [.p 0, .p 1, .p 2, .p 3, .p 4, .p 5, .p 6, .p 7, .p 8, .p 9, .p 10, .p 11] (by kernel_rfl) ?_
 ((conv => whnf); repeat' (refine Z rfl ?_; conv => whnf))
 repeat' ((first | (intro hlq; (try simp only [SL] at hlq)) | refine Ks ?_ | refine Kq ?_ | refine Kt ?_ | refine Ka ?_ | refine Kb ?_ | refine Kc (hd := rfl) (e := ?_) | refine Kc (hd := icells_eq _) (e := ?_) | refine Kd (e := ?_) | refine Kl rfl ?_ | fail) <;> ((conv => whnf); repeat' (refine Z rfl ?_; conv => whnf)))
 refine ⟨congrArg bD ?_⟩
 rw [beq_c]
 rfl
theorem b64_meets (src : List UInt8) (a : Nat) (ha : a < src.length) (hl : src.length ≤ 1048576) : Meets Tryz.prog 64 [scP src a] fun d => d = bD (isDg src[a] || (src[a] == 45 && hdDg (src.drop (a + 1)))) := by
 have k := class_meets src a a
 rw [clsA_at ha] at k
 have k2 := class_meets src a (a + 1)
 have e2 := cls_hd src (a + 1)
 have e1 := (cls_all src[a]).2.1
 rw [← e1, ← e2, beq_c]
 clear e1 e2
 refine enter tok {} Tryz.func64 rfl (by kernel_rfl) Tryz.ntmps64 (by simp) fun B0 W0 V0 lent g0 => ?_
 ((conv => whnf); repeat' (refine Z rfl ?_; conv => whnf))
 refine draw_rule tok (cf := {}) (by kernel_rfl) [.p 0, .p 1, .p 2, .p 3, .p 4, .s 5 [0,4,3,2,1], .p 6, .p 7, .p 8, .p 9, .p 10, .p 11, .p 12, .p 13, .p 14, .p 15, .p 16, .p 17, .p 18, .p 19, .p 20, .p 21, .p 22, .p 23, .p 24, .p 25, .s 26 [20,25,19,24,18,7,23,17,6,22,16,21,11,15,10,14,9,13,8,12], .p 27, .p 28, .p 29, .p 30] (by kernel_rfl) ?_
 ((conv => whnf); repeat' (refine Z rfl ?_; conv => whnf))
 repeat' ((first | (intro hlq; (try simp only [SL] at hlq)) | refine Meets.k (k) ?_ | refine Meets.k (k2) ?_ | refine Ks ?_ | refine Kq ?_ | refine Kt ?_ | ((refine Kh (fun hb => ?_) fun hb => ?_) <;> (try simp only [BL] at hb)) | refine Ka ?_ | refine Kb ?_ | refine Kc (hd := rfl) (e := ?_) | refine Kc (hd := icells_eq _) (e := ?_) | refine Kd (e := ?_) | refine Kl rfl ?_ | fail) <;> ((conv => whnf); repeat' (refine Z rfl ?_; conv => whnf)))
 all_goals
  refine ⟨congrArg bD ?_⟩
  first
   | (simp_all; done)
   | (rw [Bool.eq_iff_iff]; simp only [Bool.or_eq_true, Bool.and_eq_true, decide_eq_true_eq]; simp; omega)
theorem b69_meets (src : List UInt8) (a : Nat) (ha : a < src.length) (hl : src.length ≤ 1048576) : Meets Tryz.prog 69 [scP src a] fun d => d = bD (dblB src[a] (src.drop (a + 1))) := by
 have k := byteAt_meets src a (a + 1)
 have e : dblB src[a] (src.drop (a + 1)) = (((decide ((src[a].toNat : Int) = 60) || decide ((src[a].toNat : Int) = 62)) && decide (bytA src (a + 1) = 61)) || (decide ((src[a].toNat : Int) = 46) && decide (bytA src (a + 1) = 46))) := by
  unfold bytA
  by_cases h : a + 1 < src.length
  · rw [List.drop_eq_getElem_cons h, List.getElem?_eq_getElem h]
    simp only [dblB, beq_c]
    rfl
  · rw [List.drop_eq_nil_of_le (by omega), List.getElem?_eq_none (by omega)]
    simp [dblB]
 rw [e]
 clear e
 refine enter tok {} Tryz.func69 rfl (by kernel_rfl) Tryz.ntmps69 (by simp) fun B0 W0 V0 lent g0 => ?_
 ((conv => whnf); repeat' (refine Z rfl ?_; conv => whnf))
 refine draw_rule tok (cf := {}) (by kernel_rfl) [.p 0, .p 1, .p 2, .p 3, .p 4, .p 5, .p 6, .p 7, .p 8, .p 9, .p 10, .p 11, .p 12, .p 13, .p 14, .p 15, .s 16 [10,15,14,13,12,11], .p 17, .p 18] (by kernel_rfl) ?_
 ((conv => whnf); repeat' (refine Z rfl ?_; conv => whnf))
 repeat' ((first | (intro hlq; (try simp only [SL] at hlq)) | refine Meets.k (k) ?_ | refine Ks ?_ | refine Kq ?_ | refine Kt ?_ | ((refine Kh (fun hb => ?_) fun hb => ?_) <;> (try simp only [BL] at hb)) | refine Ka ?_ | refine Kb ?_ | refine Kc (hd := rfl) (e := ?_) | refine Kc (hd := icells_eq _) (e := ?_) | refine Kd (e := ?_) | refine Kl rfl ?_ | fail) <;> ((conv => whnf); repeat' (refine Z rfl ?_; conv => whnf)))
 all_goals
  refine ⟨congrArg bD ?_⟩
  first
   | (simp_all; done)
   | (rw [Bool.eq_iff_iff]; simp only [Bool.or_eq_true, Bool.and_eq_true, decide_eq_true_eq]; simp; omega)
theorem r61_meets (src : List UInt8) (a : Nat) (ha : a < src.length) (hc : isLt src[a] = true) : Meets Tryz.prog 61 [scP src a] fun d => d = rdD a (readT (src.drop a)) := by
 have e : runN false (src.drop a) = runN false (src.drop (a + 1)) + 1 := by
  rw [List.drop_eq_getElem_cons ha, runN, inB, hc]; rfl
 have k1 := run_meets src a a false (by omega)
 have hl := runN_le false (src.drop a)
 rw [List.length_drop] at hl
 have k2 := take_meets src a 1 a (runN false (src.drop a)) (by omega) rfl
 refine enter tok {} Tryz.func61 rfl (by kernel_rfl) Tryz.ntmps61 (by simp) fun B0 W0 V0 lent g0 => ?_
 ((conv => whnf); repeat' (refine Z rfl ?_; conv => whnf))
 repeat' ((first | (intro hlq; (try simp only [SL] at hlq)) | refine Meets.k (k1) ?_ | refine Meets.k (k2) ?_ | refine Ks ?_ | refine Kq ?_ | refine Kt ?_ | ((refine Kh (fun hb => ?_) fun hb => ?_) <;> (try simp only [BL] at hb)) | refine Ka ?_ | refine Kb ?_ | refine Kc (hd := rfl) (e := ?_) | refine Kc (hd := icells_eq _) (e := ?_) | refine Kd (e := ?_) | refine Kl rfl ?_ | fail) <;> ((conv => whnf); repeat' (refine Z rfl ?_; conv => whnf)))
 refine ⟨?_⟩
 have hr : readT (src.drop a) = (1, (src.drop a).take (runN false (src.drop a)), runN false (src.drop a)) := by
  rw [e, List.drop_eq_getElem_cons ha, readT, if_pos hc]
 rw [hr]
 rfl
theorem r75_meets (src : List UInt8) (a : Nat) (ha : a < src.length) (hl : src.length ≤ 1048576) : Meets Tryz.prog 75 [scP src a] fun d => d = rdD a (0, [], 1) := by
 refine enter tok {} Tryz.func75 rfl (by kernel_rfl) Tryz.ntmps75 (by simp) fun B0 W0 V0 lent g0 => ?_
 ((conv => whnf); repeat' (refine Z rfl ?_; conv => whnf))
 refine draw_rule tok (cf := {}) (by kernel_rfl) [.p 0, .p 1, .p 2, .p 3, .p 4, .p 5, .s 6 [0], .p 7] (by kernel_rfl) ?_
 ((conv => whnf); repeat' (refine Z rfl ?_; conv => whnf))
 repeat' ((first | (intro hlq; (try simp only [SL] at hlq)) | refine Ks ?_ | refine Kq ?_ | refine Kt ?_ | refine Ka ?_ | refine Kb ?_ | refine Kc (hd := rfl) (e := ?_) | refine Kc (hd := icells_eq _) (e := ?_) | refine Kd (e := ?_) | refine Kl rfl ?_ | fail) <;> ((conv => whnf); repeat' (refine Z rfl ?_; conv => whnf)))
 exact ⟨rfl⟩
theorem r73_meets (src : List UInt8) (a : Nat) (ha : a < src.length) (hl : src.length ≤ 1048576) : Meets Tryz.prog 73 [scP src a] fun d => d = rdD a (5, [src[a]], 1) := by
 have k2 := take_meets src a 5 a 1 (by omega) rfl
 refine enter tok {} Tryz.func73 rfl (by kernel_rfl) Tryz.ntmps73 (by simp) fun B0 W0 V0 lent g0 => ?_
 ((conv => whnf); repeat' (refine Z rfl ?_; conv => whnf))
 repeat' ((first | (intro hlq; (try simp only [SL] at hlq)) | refine Meets.k (k2) ?_ | refine Ks ?_ | refine Kq ?_ | refine Kt ?_ | ((refine Kh (fun hb => ?_) fun hb => ?_) <;> (try simp only [BL] at hb)) | refine Ka ?_ | refine Kb ?_ | refine Kc (hd := rfl) (e := ?_) | refine Kc (hd := icells_eq _) (e := ?_) | refine Kd (e := ?_) | refine Kl rfl ?_ | fail) <;> ((conv => whnf); repeat' (refine Z rfl ?_; conv => whnf)))
 refine ⟨?_⟩
 rw [List.drop_eq_getElem_cons ha]
 rfl
theorem r71_meets (src : List UInt8) (a : Nat) (ha : a + 2 ≤ src.length) (hl : src.length ≤ 1048576) : Meets Tryz.prog 71 [scP src a] fun d => d = rdD a (5, (src.drop a).take 2, 2) := by
 have k2 := take_meets src a 5 a 2 ha rfl
 refine enter tok {} Tryz.func71 rfl (by kernel_rfl) Tryz.ntmps71 (by simp) fun B0 W0 V0 lent g0 => ?_
 ((conv => whnf); repeat' (refine Z rfl ?_; conv => whnf))
 repeat' ((first | (intro hlq; (try simp only [SL] at hlq)) | refine Meets.k (k2) ?_ | refine Ks ?_ | refine Kq ?_ | refine Kt ?_ | ((refine Kh (fun hb => ?_) fun hb => ?_) <;> (try simp only [BL] at hb)) | refine Ka ?_ | refine Kb ?_ | refine Kc (hd := rfl) (e := ?_) | refine Kc (hd := icells_eq _) (e := ?_) | refine Kd (e := ?_) | refine Kl rfl ?_ | fail) <;> ((conv => whnf); repeat' (refine Z rfl ?_; conv => whnf)))
 exact ⟨rfl⟩
end Go.Proofs.YtedjnaggkakphaaGreatDoor.Dx
