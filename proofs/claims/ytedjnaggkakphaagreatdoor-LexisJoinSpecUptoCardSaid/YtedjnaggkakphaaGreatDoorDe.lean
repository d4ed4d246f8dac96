/- The executor over data, part J: maps that are written; what a call comes to; one state says less than another. -/
import Derived.Test.YtedjnaggkakphaaGreatDoorDd
import Derived.OrdersIn
import Derived.RangeFuncIn
import Derived.RangeFuncLeaves
import Derived.RangeFuncNested
import Derived.RangeFuncSeq
import Derived.TacticsIn
import Derived.Sort.LoopGhostIn
import Derived.Laws.MakeOwn
set_option linter.all false
namespace Go.Proofs.YtedjnaggkakphaaGreatDoor.Dx
open Go Go.RowKit
section
variable {P : Program} {T : List (Nat × TI)} {cf : Cfg} {C : Cx} {γ : Gm} {st : SSt} {V : Know} {a : Act} {W : World} {k : SSt → Prop}
/-! ### Maps -/
theorem newMap_run (hr : Rel C γ st V a W) {dst : Option Nat} (hd : ∀ t, dst = some t → t < C.N) {nm : List (Nat × Nat)} (h : newRes nm st dst (.mp []) k) :
 ∃ γ' st', k st' ∧ Rel C γ' st' V (a.put dst (.map (some W.heap.size))) (W.alloc (.map #[] 0)) := by
 refine newRes_run (rel_grow hr (alloc_grow hr.sees _)) hd (fun n => rfl) h (v := (.map (some W.heap.size), some W.heap.size)) ?_ (fun q hq => by cases hq; exact .inr hr.bsize) (fun n' b' hl q hq hq' => by
  cases hq
  have := own_lt (hr.own n' b' hl) hq'
  omega)
 refine ⟨W.heap.size, #[], 0, rfl, heap_alloc_new W _, ?_, ⟨by simp, by simp⟩, rfl, fun i e p h => by simp at h, fun i e p h => by simp at h⟩
 cases hc : V.obj W.heap.size with
 | none => rfl
 | some u => have := heap_lt (hr.sees.obj _ _ hc).1; omega
theorem mput_none {k v : D} : ∀ {l : List (D × D)}, (∀ p ∈ l, p.1 ≠ k) → mput l k v = l ++ [(k, v)] := by
 intro l
 induction l with
 | nil => intro _; rfl
 | cons p l ih => intro h; simp only [mput, List.cons_append]; rw [if_neg (h p (by simp)), ih fun x hx => h x (by simp [hx])]
theorem mput_some {k v : D} : ∀ {l : List (D × D)} {j : Nat} {p : D × D}, l[j]? = some p → p.1 = k → (∀ (i : Nat) (x : D × D), i < j → l[i]? = some x → x.1 ≠ k) → mput l k v = l.set j (k, v) := by
 intro l
 induction l with
 | nil => intro j e h; simp at h
 | cons y l ih =>
   intro j e hj he hf
   simp only [mput]
   cases j with
   | zero => simp at hj; subst hj; rw [if_pos he]; rfl
   | succ j =>
     rw [if_neg (hf 0 y (by omega) (by simp)), ih (by simpa using hj) he fun i x hi hx => hf (i + 1) x (by omega) (by simpa using hx)]
     rfl
theorem setObj_grown (W : World) (g : Nat) (o : Obj) : W.grownBy { W with heap := W.heap.setIfInBounds g o } (some g) :=
 ⟨rfl, rfl, rfl, by simp, fun q _ hq => by have h : q ≠ g := fun e => hq (by rw [e]); simp [Ne.symm h]⟩
theorem vcMapUpd_run (hT : TOk P T) (hr : Rel C γ st V a W) {t : TypeId} {mb kx x : Base} {mv kv0 xv : Value} (hm : RVb γ V mb mv) (hkx : RVb γ V kx kv0) (hx : RVb γ V x xv) (h : vcMapUpd T st t mb kx x k) :
 ∃ st' W', (Instr.mapUpdate t mv kv0 xv).run P W = .ok () W' ∧ Rel C γ st' V a W' ∧ k st' := by
 unfold vcMapUpd at h
 split at h
 · exact h.elim
 rename_i ti hti
 split at h
 case h_2 => exact h.elim
 rename_i kt et hd
 split at h
 · exact h.elim
 rename_i tk htk
 split at h
 case h_2 => exact h.elim
 rename_i kd xd n hkd hxd
 split at h
 case h_2 => exact h.elim
 rename_i l hl
 obtain ⟨⟨hk, hkl⟩, h⟩ := h
 obtain ⟨O', h, hO⟩ := setO_run h
 obtain ⟨kv, hkv, huniq, hsame, hfind⟩ := find_key (hT _ _ htk).2.2.2.1 hk hkl
 obtain rfl := huniq V kv0 (valB_rep hr.own hkd hkx)
 have hxr := valB_rep hr.own hxd hx
 obtain ⟨r, es, clock, hg, hh, hpo, hmok, hlen, hkey, hrep⟩ := hr.own n _ hl
 have hmv : mv = .map (some r) := by rw [show mv = (γ n).1 from hm, hg]
 obtain ⟨hck, hfk⟩ := hfind W
 have hobj : (getObj r).run P W = .ok (.map es clock) W := by simp [getObj, Sem.run, hh]
 have hset : ∀ o, (setObj r o).run P W = .ok () { W with heap := W.heap.setIfInBounds r o } := fun o => by simp [setObj, Sem.run, hh]
 have hrl := heap_lt hh
 have hnew : ∀ o, ({ W with heap := W.heap.setIfInBounds r o } : World).heap[r]? = some o := fun o => by simp [hrl]
 have fin : ∀ {es' : Array MapEntry} {clock' : Nat}, (Instr.mapUpdate t mv kv0 xv).run P W = .ok () { W with heap := W.heap.setIfInBounds r (.map es' clock') } → MapOk es' clock' → es'.toList.length = (mput l kd xd).length →
  (∀ (i : Nat) e p, es'.toList[i]? = some e → (mput l kd xd)[i]? = some p → valOf p.1 = some e.key) → (∀ (i : Nat) e p, es'.toList[i]? = some e → (mput l kd xd)[i]? = some p → Rep V e.val p.2) →
  ∃ st' W', (Instr.mapUpdate t mv kv0 xv).run P W = .ok () W' ∧ Rel C γ st' V a W' ∧ k st' := by
  intro es' clock' hrun q1 q2 q3 q4
  refine ⟨_, _, hrun, rel_write hr (setObj_grown W r _) (fun _ e h => by cases e; rw [hh] at h; cases h) (fun g hg2 => ?_) (fun m y hy => ?_), h⟩
  · cases hg2
    refine ⟨hr.okb n _ hl r (by rw [hg]), fun o u hu => ?_, fun y hy => by rw [hpo] at hy; cases hy⟩
    have := hr.sees.cell r o u hu
    simp [World.cell?, hh] at this
  · rcases hO m y hy with ⟨rfl, rfl, _⟩ | ⟨hne, hl'⟩
    · exact .inl ⟨⟨r, es', clock', hg, hnew _, hpo, q1, q2, q3, q4⟩, _, hl⟩
    · exact .inr ⟨hl', fun g hg2 hg3 => by cases hg2; exact hr.inj m n y _ hl' hl hne r hg3 (by rw [hg])⟩
 rcases hfk es.toList hlen hkey with ⟨f1, f2, f3, f4⟩ | ⟨j, e, p, f1, f2, f3, f4, f5, f6, f7⟩
 · have hmp : mput l kd xd = l ++ [(kd, xd)] := mput_none f4
   refine fin (es' := es.push { key := kv0, val := xv, born := clock }) (clock' := clock + 1) ?_ ⟨?_, ?_⟩ ?_ ?_ ?_
   · simp [Instr.mapUpdate, hT.under hti W, hd, hmv, hobj, hck, f1, hset]
   · intro e he
     simp only [Array.toList_push, List.mem_append, List.mem_singleton] at he
     rcases he with he | rfl
     · have := hmok.1 e he; omega
     · simp
   · simp only [Array.toList_push, List.map_append, List.map_cons, List.map_nil]
     refine List.nodup_append.2 ⟨hmok.2, by simp, ?_⟩
     intro x hx y hy
     simp only [List.mem_singleton] at hy
     obtain ⟨e, he, rfl⟩ := List.mem_map.1 hx
     have := hmok.1 e he
     omega
   · rw [hmp]; simp only [Array.toList_push, List.length_append, hlen, List.length_cons, List.length_nil]
   · intro i e p hi hp
     rw [hmp] at hp
     simp only [Array.toList_push] at hi
     by_cases hil : i < l.length
     · rw [List.getElem?_append_left (by omega)] at hi
       rw [List.getElem?_append_left hil] at hp
       exact hkey i e p hi hp
     · rw [List.getElem?_append_right (by omega)] at hi hp
       rw [hlen] at hi
       cases hq : i - l.length with
       | zero => rw [hq] at hi hp; simp at hi hp; subst hi hp; exact hkv
       | succ q => rw [hq] at hi; simp at hi
   · intro i e p hi hp
     rw [hmp] at hp
     simp only [Array.toList_push] at hi
     by_cases hil : i < l.length
     · rw [List.getElem?_append_left (by omega)] at hi
       rw [List.getElem?_append_left hil] at hp
       exact hrep i e p hi hp
     · rw [List.getElem?_append_right (by omega)] at hi hp
       rw [hlen] at hi
       cases hq : i - l.length with
       | zero => rw [hq] at hi hp; simp at hi hp; subst hi hp; exact hxr
       | succ q => rw [hq] at hi; simp at hi
 · have hmp : mput l kd xd = l.set j (kd, xd) := mput_some f3 f5 f7
   have hj : es[j]? = some e := by simpa using f2
   have hkk : (((es[j]?).map (·.key)).getD kv0) = kv0 := by simp [hj, f4]
   have hborn : (es.modify j fun e => { e with key := kv0, val := xv }).toList.map (·.born) = es.toList.map (·.born) := by
    rw [Array.toList_modify]
    apply List.ext_getElem?
    intro i
    simp only [List.getElem?_map, List.getElem?_modify]
    cases es.toList[i]? with
    | none => rfl
    | some y => simp only [Option.map_some]; split <;> rfl
   refine fin (es' := es.modify j fun e => { e with key := kv0, val := xv }) (clock' := clock) ?_ ⟨?_, ?_⟩ ?_ ?_ ?_
   · simp [Instr.mapUpdate, hT.under hti W, hd, hmv, hobj, hck, f1, hset, hkk, Instr.keyThatStays, hsame]
   · intro y hy
     have : y.born ∈ es.toList.map (·.born) := by rw [← hborn]; exact List.mem_map.2 ⟨y, hy, rfl⟩
     obtain ⟨z, hz, hzb⟩ := List.mem_map.1 this
     have := hmok.1 z hz
     omega
   · rw [hborn]; exact hmok.2
   · rw [hmp]; simpa using hlen
   · intro i e' p' hi hp
     rw [hmp, List.getElem?_set] at hp
     simp only [Array.toList_modify, List.getElem?_modify] at hi
     by_cases e0 : j = i
     · subst e0
       have hjl : j < l.length := by
        rcases Nat.lt_or_ge j l.length with h | h
        · exact h
        · rw [List.getElem?_eq_none h] at f3; cases f3
       rw [if_pos rfl, if_pos hjl] at hp
       cases hp
       rw [f2] at hi
       simp at hi
       rw [← hi]; exact hkv
     · rw [if_neg e0] at hp
       cases hq : es.toList[i]? with
       | none => rw [hq] at hi; simp at hi
       | some y =>
         rw [hq] at hi
         simp [e0] at hi
         subst hi
         exact hkey i y p' hq hp
   · intro i e' p' hi hp
     rw [hmp, List.getElem?_set] at hp
     simp only [Array.toList_modify, List.getElem?_modify] at hi
     by_cases e0 : j = i
     · subst e0
       have hjl : j < l.length := by
        rcases Nat.lt_or_ge j l.length with h | h
        · exact h
        · rw [List.getElem?_eq_none h] at f3; cases f3
       rw [if_pos rfl, if_pos hjl] at hp
       cases hp
       rw [f2] at hi
       simp at hi
       rw [← hi]; exact hxr
     · rw [if_neg e0] at hp
       cases hq : es.toList[i]? with
       | none => rw [hq] at hi; simp at hi
       | some y =>
         rw [hq] at hi
         simp [e0] at hi
         subst hi
         exact hrep i y p' hq hp
end
/-! ### The conversion of a row of bytes to its own type (a constant text's): the row is marked, its cells stay -/
noncomputable def vcConv (T : List (Nat × TI)) (st : SSt) (dst : Option Nat) (t : TypeId) (n : Nat) (k : SSt → Prop) : Prop :=
 match look t T with
 | none => False
 | some ti => match ti.desc with
   | .slice e => match look e T with
     | none => False
     | some te => match te.desc with
       | .int .u8 => match look n st.O with
         | some (.sl s) => match s.pub with
           | true => False
           | false => match s.xs with
             | [] => False
             | _ :: _ => mapLB (subB n (fun _ => .junk) (.sl s.xs)) st.L fun L' => mapO n (subB n (fun _ => .junk) (.sl s.xs)) st.O fun O' => k (put { st with L := L', O := O' } dst (.d (.sl s.xs)))
         | _ => False
       | _ => False
   | _ => False
section
variable {P : Program} {T : List (Nat × TI)} {cf : Cfg} {C : Cx} {γ : Gm} {st : SSt} {V : Know} {a : Act} {W : World} {k : SSt → Prop}
theorem freeze_grown (W : World) (g k n : Nat) : W.grownBy (W.freeze ⟨g, k, none⟩ n) (some g) := by
 by_cases h : n = 0
 · subst h; exact ⟨rfl, rfl, rfl, Nat.le_refl _, fun _ _ _ => rfl⟩
 · unfold World.freeze
   rw [if_neg h]
   refine ⟨rfl, rfl, rfl, by simp, fun q _ hq => ?_⟩
   have hn : g ≠ q := fun e => hq (by rw [e])
   simp [Array.getElem?_modify, hn]
theorem freeze_at {W : World} {g k n : Nat} {cs : Array Value} {e : TypeId} (h : W.heap[g]? = some (.cells cs e (0, 0))) (hn : n ≠ 0) : (W.freeze ⟨g, k, none⟩ n).heap[g]? = some (.cells cs e (k, k + n)) := by
 unfold World.freeze
 rw [if_neg hn]
 simp [Array.getElem?_modify, h]
theorem vcConv_run (hT : TOk P T) (hr : Rel C γ st V a W) {dst : Option Nat} (hd : ∀ t, dst = some t → t < C.N) {t : TypeId} {n : Nat} (h : vcConv T st dst t n k) :
 ∃ v W' st' V', (convert t t (γ n).1).run P W = .ok v W' ∧ Rel C γ st' V' (a.put dst v) W' ∧ k st' := by
 unfold vcConv at h
 split at h
 · exact h.elim
 rename_i ti hti
 split at h
 case h_2 => exact h.elim
 rename_i e hd1
 split at h
 · exact h.elim
 rename_i te hte
 split at h
 case h_2 => exact h.elim
 rename_i hd2
 split at h
 case h_2 => exact h.elim
 rename_i s hn
 split at h
 · exact h.elim
 rename_i hp
 split at h
 · exact h.elim
 rename_i z0 zs hcons
 obtain ⟨L', h, hL⟩ := mapLB_run h
 obtain ⟨O', h, hO⟩ := mapO_run h
 rcases hr.own n _ hn with ⟨g, m, c, vals, hv, hown, hkk, hvr, h1, hm⟩ | ⟨hp', _⟩
 case inr =>
  rcases hp' with hp' | hp'
  · rw [hp] at hp'; cases hp'
  · rw [hcons] at hp'; cases hp'
 rw [hv] at hown
 obtain ⟨cur, hnm, hg, _, _, _, _, _⟩ := own_cap hown
 have hcells := hown.cells (g := g) rfl
 rw [hp] at hm
 have hle : V.Le (V.with g vals) := with_le' fun o u hu => by rw [hm] at hu; cases hu
 have hrep : Rep (V.with g vals) (γ n).1 (.sl s.xs) := by
  rw [hv]
  obtain ⟨_, _, _, h3, h4, _⟩ := own_cap hown
  refine rep_row hnm (by omega) h4 hkk (hvr.mono hle) h1 (fun j u hj => ?_)
  show (if g = g then vals[j]? else _) = some u
  rw [if_pos rfl]; exact hj
 have sub : ∀ b x, RVb γ V b x → RVb γ (V.with g vals) (subB n (fun _ => .junk) (.sl s.xs) b) x := by
  intro b x hx
  refine subB_run (fun off y hy => .junk _) (fun _ => hrep) (fun hp => ?_) (hx.mono hle)
  obtain ⟨blk, e⟩ := hp
  rw [hv] at e; cases e
 have hr1 : Rel C γ { st with L := L', O := O' } (V.with g vals) a W := by
  refine rel_know hr hn (by rw [hv]) hle (with_sees' hr.sees hle fun j u hj => by have := hcells j u hj; rwa [addr_add, Nat.zero_add] at this) with_only (fun r x h => .inl h) (fun t b hb => ?_) (fun m' x hx => ?_)
  · obtain ⟨b0, hb0, rfl⟩ := hL t b hb
    exact sub b0 _ (hr.slots t b0 hb0)
  · obtain ⟨hne, y, hy, rfl⟩ := hO m' x hx
    refine .inr ⟨hne, y, hy, fun hyok => ?_⟩
    have hy0 := hr.own m' y hy
    cases y with
    | box cells' ty' =>
      obtain ⟨blk', cs', e', g1, g2, g3, g4⟩ := hyok
      obtain ⟨blk'', cs'', e'', q1, q2, q3, q4⟩ := hy0
      rw [e''] at e'
      obtain rfl : blk'' = blk' := by simpa using e'
      rw [q1] at g1
      obtain rfl : cs'' = cs' := by simpa using g1
      refine ⟨blk'', cs'', e'', q1, ⟨by simp [q2.len], fun i b x hb hx => ?_⟩, q3, g4⟩
      simp only [List.getElem?_map] at hb
      cases hl : cells'[i]? with
      | none => simp [hl] at hb
      | some b0 =>
        simp only [hl, Option.map_some, Option.some.injEq] at hb
        subst hb
        exact sub _ _ (q2.get i b0 x hl hx)
    | pn g ns => exact ⟨hyok.1, fun m hm => hyok.2 m (List.mem_filter.1 hm).1⟩
    | _ => exact hyok
 have hfz := freeze_at (k := cur.size) (n := 1) hg (by decide)
 have hr2 : Rel C γ { st with L := L', O := O' } (V.with g vals) a (W.freeze ⟨g, cur.size, none⟩ 1) := by
  refine rel_write hr1 (freeze_grown W g cur.size 1) (fun _ e h => by cases e; rw [hg] at h; cases h) (fun g' hg' => ?_) (fun m' x hx => .inr ⟨hx, fun g' hg' hg2 => ?_⟩)
  · cases hg'
    refine ⟨hr.okb n _ hn g (by rw [hv]), fun o u hu => ?_, fun x hx => ?_⟩
    · have := hr1.sees.cell g o u hu
      refine ⟨?_, by simp only [World.shape?, hg, hfz]⟩
      simp only [World.cell?, hg, hfz] at this ⊢
      exact this
    · have := hr1.sees.obj g x hx
      rw [hg] at this
      obtain ⟨_, _, e⟩ := this.2; rw [e] at this; cases this.1
  · cases hg'
    obtain ⟨hne, y, hy, _⟩ := hO m' x hx
    exact hr.inj m' n y _ hy hn hne g hg2 (by rw [hv])
 refine ⟨(γ n).1, _, _, _, ?_, rel_put hr2 hd (show RVb γ (V.with g vals) (.d (.sl s.xs)) (γ n).1 from hrep), h⟩
 have hsh : W.shape? g = some (s.e, cur.size) := by simp [World.shape?, hg]
 rw [hv]
 simp [convert, hT.under hti W, hT.under hte W, hd1, hd2, markStringish, hsh]
end
/-! ### One state says less than another -/
def SubC : List Cap → List Cap → Prop
 | [], [] => True
 | .loc n o :: r, .loc n' o' :: r' => (Nat.beq n' n && Nat.beq o' o) = true ∧ SubC r r'
 | .dat d :: r, .dat d' :: r' => d' = d ∧ SubC r r'
 | _, _ => False
noncomputable def SubB (O : List (Nat × Blk)) (b b' : Base) : Prop :=
 match b with
 | .d x => match x with
   | .bl c => match b' with
     | .d (.bl c') => c' = c
     | _ => False
   | .junk => True
   | x => match valB O b' with
     | some x' => x' = x
     | none => False
 | .full xs => match b' with
   | .full xs' => xs' = xs
   | _ => False
 | .loc n o => match b' with
   | .loc n' o' => Nat.beq n' n = true ∧ o' = o
   | .d (.raw v) => o = 0 ∧ (∃ cells ty, look n O = some (.box cells ty)) ∧ ∃ p g ns, look p O = some (.pn g ns) ∧ memB n ns = true ∧ v = (g n).1
   | _ => False
 | .own n => match b' with
   | .own n' => Nat.beq n' n = true
   | _ => False
 | .oel n k i r => match b' with
   | .oel n' k' i' r' => Nat.beq n' n = true ∧ k' = k ∧ i' = i ∧ r' = r
   | _ => False
 | .win n k i r => match b' with
   | .win n' k' i' r' => Nat.beq n' n = true ∧ k' = k ∧ i' = i ∧ r' = r
   | _ => False
 | .ag p n q => match b' with
   | .ag p' n' q' => Nat.beq n' n = true ∧ p' = p ∧ q' = q
   | _ => False
 | .agl cs => match b' with
   | .agl cs' => SubC cs cs'
   | _ => False
 | .fn F fs cs => match b' with
   | .fn F' fs' cs' => F' = F ∧ SubC fs fs' ∧ SubC cs cs'
   | _ => False
 | .junk => True
noncomputable def SubBs (O : List (Nat × Blk)) : List Base → List Base → Prop
 | [], [] => True
 | b :: r, b' :: r' => SubB O b b' ∧ SubBs O r r'
 | _, _ => False
noncomputable def SubL (O : List (Nat × Blk)) (L : List (Nat × Base)) : List (Nat × Base) → Prop
 | [] => True
 | (t, b) :: r => match look t L with
   | some b' => SubB O b b' ∧ SubL O L r
   | none => False
noncomputable def SubK (O : List (Nat × Blk)) (b b' : Blk) : Prop :=
 match b, b' with
 | .box cells ty, .box cells' ty' => ty' = ty ∧ SubBs O cells cells'
 | .sl s, .sl s' => s'.e = s.e ∧ s'.k = s.k ∧ s'.xs = s.xs ∧ s'.pub = s.pub
 | .mp l, .mp l' => l' = l
 | .lp r g V pn, .lp r' g' V' pn' => r' = r ∧ g' = g ∧ V' = V ∧ pn' = pn
 | .pn g ns, .pn g' ns' => g' = g ∧ ns' = ns
 | _, _ => False
noncomputable def SubO (O : List (Nat × Blk)) : List (Nat × Blk) → Prop
 | [] => True
 | (n, b) :: r => (match look n O with
   | some b' => SubK O b b'
   | none => False) ∧ SubO O r
noncomputable def SubSt (st S : SSt) : Prop :=
 match S.pins.all fun n => memB n st.pins with
 | true => SubL st.O st.L S.L ∧ SubO st.O S.O
 | false => False
section
variable {P : Program} {T : List (Nat × TI)} {C : Cx} {γ : Gm} {st : SSt} {V : Know} {a : Act} {W : World} {O : List (Nat × Blk)}
theorem SubC_run : ∀ {cs cs' : List Cap}, SubC cs cs' → ∀ {xs : List Value}, All2 (CapR γ V) cs' xs → All2 (CapR γ V) cs xs := by
 intro cs
 induction cs with
 | nil => intro cs' h xs hx; cases cs' with
   | nil => exact hx
   | cons => exact h.elim
 | cons c cs ih =>
   intro cs' h xs hx
   cases cs' with
   | nil => cases c <;> exact h.elim
   | cons c' cs' =>
     obtain ⟨x, xs, rfl, h1, h2⟩ := hx.cons_l
     cases c with
     | loc n o =>
       cases c' with
       | loc n' o' =>
         obtain ⟨h3, h4⟩ := h
         simp only [Bool.and_eq_true] at h3
         obtain rfl := Nat.eq_of_beq_eq_true h3.1
         obtain rfl := Nat.eq_of_beq_eq_true h3.2
         exact .cons h1 (ih h4 h2)
       | dat => exact h.elim
     | dat d =>
       cases c' with
       | loc => exact h.elim
       | dat d' =>
         obtain ⟨rfl, h4⟩ := h
         exact .cons h1 (ih h4 h2)
theorem SubB_run (ho : OwnOk γ V W O) {b b' : Base} (h : SubB O b b') {x : Value} (hx : RVb γ V b' x) : RVb γ V b x := by
 unfold SubB at h
 split at h
 · split at h
   · split at h
     · cases h; exact hx
     · exact h.elim
   · exact .junk _
   · split at h
     · rename_i hv
       cases h
       exact valB_rep ho hv hx
     · exact h.elim
 · split at h
   · cases h; exact hx
   · exact h.elim
 · split at h
   · obtain ⟨h1, rfl⟩ := h
     obtain rfl := Nat.eq_of_beq_eq_true h1
     exact hx
   · rename_i n o v
     obtain ⟨rfl, ⟨cells, ty, hb⟩, p, g, ns, hp, hm, rfl⟩ := h
     obtain ⟨blk, cs, e, _⟩ := ho _ _ hb
     have hg := (ho _ _ hp).2 _ (memB_in hm)
     cases hx
     exact ⟨blk, by rw [e], by rw [← hg, e]⟩
   · exact h.elim
 · split at h
   · obtain rfl := Nat.eq_of_beq_eq_true h
     exact hx
   · exact h.elim
 · split at h
   · obtain ⟨h1, rfl, rfl, rfl⟩ := h
     obtain rfl := Nat.eq_of_beq_eq_true h1
     exact hx
   · exact h.elim
 · split at h
   · obtain ⟨h1, rfl, rfl, rfl⟩ := h
     obtain rfl := Nat.eq_of_beq_eq_true h1
     exact hx
   · exact h.elim
 · split at h
   · obtain ⟨h1, rfl, rfl⟩ := h
     obtain rfl := Nat.eq_of_beq_eq_true h1
     exact hx
   · exact h.elim
 · split at h
   · obtain ⟨us, e, h3, h4⟩ := hx
     exact ⟨us, e, SubC_run h h3, h4⟩
   · exact h.elim
 · split at h
   · obtain ⟨rfl, h1, h2⟩ := h
     obtain ⟨us, ws, e, h3, h4⟩ := hx
     exact ⟨us, ws, e, SubC_run h1 h3, SubC_run h2 h4⟩
   · exact h.elim
 · trivial
theorem SubBs_run (ho : OwnOk γ V W O) : ∀ {bs bs' : List Base}, SubBs O bs bs' → ∀ {xs : List Value}, Vals γ V bs' xs → Vals γ V bs xs := by
 intro bs
 induction bs with
 | nil => intro bs' h xs hx; cases bs' with
   | nil => exact hx
   | cons => exact h.elim
 | cons b bs ih =>
   intro bs' h xs hx
   cases bs' with
   | nil => exact h.elim
   | cons b' bs' =>
     obtain ⟨x, xs, rfl, h1, h2⟩ := hx.cons_l
     exact .cons (SubB_run ho h.1 h1) (ih h.2 h2)
theorem SubL_run {L : List (Nat × Base)} : ∀ {l : List (Nat × Base)}, SubL O L l → ∀ t b, look t l = some b → ∃ b', look t L = some b' ∧ SubB O b b' := by
 intro l
 induction l with
 | nil => intro _ t b h; rw [look_nil] at h; cases h
 | cons p l ih =>
   obtain ⟨d, y⟩ := p
   intro h t b hb
   simp only [SubL] at h
   split at h
   case h_2 => exact h.elim
   rename_i b' hb'
   by_cases e : d = t
   · subst e
     rw [look_cons_eq] at hb
     cases hb
     exact ⟨b', hb', h.1⟩
   · rw [look_cons_ne e] at hb
     exact ih h.2 t b hb
theorem SubK_run (ho : OwnOk γ V W O) {b b' : Blk} (h : SubK O b b') {v : Value × Option Nat} (hb : BlkOk γ V W v b') : BlkOk γ V W v b := by
 match b, b', h with
 | .box cells ty, .box cells' ty', ⟨h1, h2⟩ =>
   subst h1
   obtain ⟨blk, cs, e, g1, g2, g3, g4⟩ := hb
   exact ⟨blk, cs, e, g1, SubBs_run ho h2 g2, g3, g4⟩
 | .sl ⟨e, k, xs, p⟩, .sl ⟨e', k', xs', p'⟩, ⟨h1, h2, h3, h4⟩ =>
   simp only at h1 h2 h3 h4
   subst h1 h2 h3 h4
   exact hb
 | .mp l, .mp l', h => cases h; exact hb
 | .pn g ns, .pn g' ns', h =>
   obtain ⟨h1, h2⟩ := h
   subst h1 h2
   exact hb
 | .lp r g V0 pn, .lp r' g' V' pn', h =>
   obtain ⟨h1, h2, h3, h4⟩ := h
   subst h1 h2 h3 h4
   exact hb
theorem SubO_run : ∀ {l : List (Nat × Blk)}, SubO O l → ∀ n b, look n l = some b → ∃ b', look n O = some b' ∧ SubK O b b' := by
 intro l
 induction l with
 | nil => intro _ t b h; rw [look_nil] at h; cases h
 | cons p l ih =>
   obtain ⟨d, y⟩ := p
   intro h t b hb
   obtain ⟨h1, h2⟩ := h
   by_cases e : d = t
   · subst e
     rw [look_cons_eq] at hb
     cases hb
     split at h1
     · exact ⟨_, by assumption, h1⟩
     · exact h1.elim
   · rw [look_cons_ne e] at hb
     exact ih h2 t b hb
theorem sub_rel (hr : Rel C γ st V a W) {S : SSt} (h : SubSt st S) : Rel C γ S V a W := by
 unfold SubSt at h
 split at h
 case h_2 => exact h.elim
 rename_i hp
 have := rel_state hr (L' := S.L) (O' := S.O) (fun t b hb => by
  obtain ⟨b', hb', hs⟩ := SubL_run h.1 t b hb
  exact SubB_run hr.own hs (hr.slots t b' hb')) (fun n x hx => by
  obtain ⟨y, hy, hs⟩ := SubO_run h.2 n x hx
  exact ⟨SubK_run hr.own hs (hr.own n y hy), y, hy⟩)
 exact { this with pin := fun n hn => hr.pin n (memB_mem.1 (List.all_eq_true.1 hp n hn)) }
end
end Go.Proofs.YtedjnaggkakphaaGreatDoor.Dx
/- The executor over data, part K: calls. -/
namespace Go.Proofs.YtedjnaggkakphaaGreatDoor.Dx
open Go Go.RowKit
/-! ### Within a round of a loop over a function, or outside of one -/
def fen (C : Cx) : Fence := { Fence.wide with round := C.round }
theorem callsIn_fen {C : Cx} {P : Program} {f : FuncId} {args : Array Value} {w : World} {R : Ending → World → Prop} (h : Calls P f args w R) : CallsIn (fen C) 0 P f args w R := (callsIn_wide (n := 0)).2 h
/-- an operation that defers nothing -/
def opw (C : Cx) (P : Program) (o : Oper) (a : Act) (W : World) (next : Act → World → Prop) (Q : Exit → Act → World → Prop) : Prop := ((∀ c, o.op ≠ .defer c) ∧ ∀ d w', (execOp a.eval o).run P W ≠ .ok (.defer d) w') ∧ o.wpIn (fen C) 0 P a W next Q
def calmR : Result Next → Bool
 | .ok (.defer _) _ => false
 | .halt _ _ => false
 | _ => true
def ndR : Result Next → Bool
 | .ok (.defer _) _ => false
 | _ => true
theorem no_defer {P : Program} {ρ : Operand → Value} {o : Oper} {W : World} {r : Result Next} (h : (execOp ρ o).run P W = r) (hr : calmR r = true) : ∀ c, o.op ≠ .defer c := by
 intro c e
 unfold execOp at h
 simp only [e, Sem.run_bind] at h
 subst h
 cases hres : (resolve ρ c o.type).run P W <;> rw [hres] at hr <;> simp [Result.andThen, calmR] at hr
theorem sem_eq {r : Option Nat} {ρ : Operand → Value} {o : Oper} (h : ∀ c, o.op ≠ .defer c) : o.semAt r ρ = execOp ρ o := by
 cases r with
 | none => exact Oper.semAt_none _ _
 | some l => exact Oper.semAt_some l _ _ h
theorem opw_of {C : Cx} {P : Program} {o : Oper} {a : Act} {W : World} {next : Act → World → Prop} {Q : Exit → Act → World → Prop} {r : Result Next} (h : (execOp a.eval o).run P W = r) (hn : ∀ c, o.op ≠ .defer c) (hr : ndR r = true) (hu : o.uponIn (fen C) 0 P a next Q r) : opw C P o a W next Q :=
 ⟨⟨hn, fun d w' e => by rw [h] at e; rw [e] at hr; cases hr⟩, fun _ _ => trivial, by rw [sem_eq hn, h]; exact hu⟩
theorem opw_enter {C : Cx} {P : Program} {o : Oper} {a : Act} {W W' : World} {next : Act → World → Prop} {Q : Exit → Act → World → Prop} {f : FuncId} {args : Array Value} (h : (execOp a.eval o).run P W = .ok (.enter f args) W') (hc : Calls P f args W' fun
 | .returned v, w'' => next (a.put o.dst v) w''
 | .panicked chain, w'' => Q (.panic chain) a w''
 | .outgrown, _ => LetsOut Q) : opw C P o a W next Q :=
 opw_of h (no_defer h rfl) rfl ⟨fun h => (by cases h), callsIn_fen hc⟩
def FnOk (P : Program) (f : FuncId) : Prop := ∃ fn c, P.funcs[f]? = some fn ∧ fn.body = some c ∧ (fn.name == "runtime.NumGoroutine") = false
/-- how a call ends -/
inductive Out where
 | ret (b : Base)
 | pan (d : D)
def OutR (γ : Gm) (V : Know) (e : Ending) (o : Out) : Prop :=
 match e, o with
 | .returned v, .ret b => RVb γ V b v
 | .panicked ch, .pan d => ∃ v, ch = [{ v, recovered := false }] ∧ Rep V v d
 | _, _ => False
def blks (γ : Gm) (O : List (Nat × Blk)) : List Nat := O.filterMap fun e => (γ e.1).2
def InjOk (γ : Gm) (O : List (Nat × Blk)) : Prop := ∀ n n' b b', look n O = some b → look n' O = some b' → n ≠ n' → ∀ k, (γ n).2 = some k → (γ n').2 ≠ some k
/-- a resource whose handle stays what it is: boxes, and own slices of names from 9000 on -/
def isBoxB (n : Nat) (b : Blk) : Bool := match b with | .box _ _ => true | .lp _ _ _ _ => true | .sl _ => Nat.ble 9000 n | .mp _ => false | .pn _ _ => false
/-- what a call comes to that is handed resources: boxes keep their names -/
structure MeetsR (P : Program) (f : FuncId) (args : List Base) (O : List (Nat × Blk)) (R : Out → List (Nat × Blk) → Prop) : Prop where
 fn : FnOk P f
 run : ∀ (γ : Gm) (V : Know) (W : World) (xs : List Value), Sees V W → Vals γ V args xs → OwnOk γ V W O → InjOk γ O →
  Calls P f xs.toArray W fun e W' => ∃ γ' V' o O', OutR γ' V' e o ∧ BelowX (blks γ O) W.heap.size W W' ∧ Fresh V V' (blks γ O) W.heap.size ∧ Sees V' W' ∧ OwnOk γ' V' W' O' ∧
   (∀ n b, look n O' = some b → ∀ k, (γ' n).2 = some k → k ∈ blks γ O ∨ W.heap.size ≤ k) ∧ InjOk γ' O' ∧ (∀ n b, look n O = some b → isBoxB n b = true → γ' n = γ n) ∧ R o O'
theorem MeetsR.mono {P : Program} {f : FuncId} {args : List Base} {O : List (Nat × Blk)} {R R' : Out → List (Nat × Blk) → Prop} (h : MeetsR P f args O R) (hr : ∀ o O', R o O' → R' o O') : MeetsR P f args O R' :=
 ⟨h.fn, fun γ V W xs h1 h2 h3 h4 => (h.run γ V W xs h1 h2 h3 h4).mono fun _ _ ⟨γ', V', o, O', a1, a2, a3, a4, a5, a6, a7, a8, a9⟩ => ⟨γ', V', o, O', a1, a2, a3, a4, a5, a6, a7, a8, hr o O' a9⟩⟩
/-- what a call over data comes to -/
structure Meets (P : Program) (f : FuncId) (ds : List D) (R : D → Prop) : Prop where
 out : MeetsR P f (ds.map .d) [] fun o O' => ∃ d, o = .ret (.d d) ∧ O' = [] ∧ R d
theorem Meets.mono {P : Program} {f : FuncId} {ds : List D} {R R' : D → Prop} (h : Meets P f ds R) (hr : ∀ d, R d → R' d) : Meets P f ds R' :=
 ⟨h.out.mono fun _ _ ⟨d, h1, h2, h3⟩ => ⟨d, h1, h2, hr d h3⟩⟩
theorem Meets.k {P : Program} {f : FuncId} {ds : List D} {R : D → Prop} {x : D} (h : Meets P f ds fun d => d = x) (hr : R x) : Meets P f ds R := h.mono fun d hd => by rw [hd]; exact hr
/-- the method that a dynamic type has: it takes the value itself -/
def Meth (P : Program) (t : TypeId) (name : String) (f : FuncId) : Prop := ∀ (W : World) (x : Value), (method (P.types.size + Made.depth) t x name).run P W = .ok (f, x) W
noncomputable def isBox (n : Nat) (O : List (Nat × Blk)) : Bool := match look n O with | some b => isBoxB n b | none => false
def dropO (n : Nat) : List (Nat × Blk) → (List (Nat × Blk) → Prop) → Prop
 | [], k => k []
 | (t, b) :: l, k => dropO n l fun l' => match Nat.beq t n with
   | true => k l'
   | false => k ((t, b) :: l')
/-- the handed resources are gone from the caller's: boxes are still spoken of, the others are forgotten -/
noncomputable def dropKeys : List (Nat × Blk) → SSt → (SSt → Prop) → Prop
 | [], st, k => k st
 | (n, b) :: r, st, k => match isBoxB n b with
   | true => dropO n st.O fun O' => dropKeys r { st with O := O' } k
   | false => mapLB (junkB n) st.L fun L' => mapO n (junkB n) st.O fun O' => dropKeys r { st with L := L', O := O' } k
noncomputable def addKeys (ins : List (Nat × Blk)) : List (Nat × Blk) → SSt → (SSt → Prop) → Prop
 | [], st, k => k st
 | (n, b) :: r, st, k => match isBox n ins || clearOf n st with
   | true => addKeys ins r st fun st => k { st with O := (n, b) :: st.O }
   | false => False
noncomputable def hasK (O : List (Nat × Blk)) (n : Nat) : Bool := match look n O with | some _ => true | none => false
/-- names that a result speaks of are handed back, or are the boxes that were handed over -/
noncomputable def closedR (b : Base) (O : List (Nat × Blk)) : Bool :=
 (keysOf b).all (hasK O) && O.all fun e => match e.2 with
   | .box cells _ => cells.all fun c => (keysOf c).all (hasK O)
   | .lp _ _ _ pn => pn.all (hasK O)
   | .pn _ _ => false
   | _ => true
noncomputable def vcCallR (P : Program) (st : SSt) (dst : Option Nat) (F : FuncId) (bs : List Base) (k : SSt → Prop) (kp : D → SSt → Prop) : Prop :=
 ∃ (ins : List (Nat × Blk)) (args : List Base), (SubBs st.O args bs ∧ SubO st.O ins) ∧
   MeetsR P F args ins fun o O' => match o with
    | .ret b => match closedR b O' with
      | true => dropKeys ins st fun st => addKeys ins O' st fun st => k (put st dst b)
      | false => False
    | .pan d => match closedR .junk O' with
      | true => dropKeys ins st fun st => addKeys ins O' st fun st => kp d st
      | false => False
/-- what a round of a loop over a function comes to: n is the loop's record -/
structure MeetsY (P : Program) (n : Nat) (args : List D) (O : List (Nat × Blk)) (R : Out → List (Nat × Blk) → Prop) : Prop where
 here : ∃ r g V0 pn, look n O = some (.lp r g V0 pn)
 run : ∀ (γ : Gm) (V : Know) (W : World) (xs : List Value) (l : Nat), Sees V W → Reps V xs args → OwnOk γ V W O → InjOk γ O → γ n = (.func (.yield l) #[] #[], some l) →
  YieldAt Fence.wide 0 P l xs.toArray W fun e W' => ∃ γ' V' o O', OutR γ' V' e o ∧ BelowX (blks γ O) W.heap.size W W' ∧ Fresh V V' (blks γ O) W.heap.size ∧ Sees V' W' ∧ OwnOk γ' V' W' O' ∧
   (∀ n b, look n O' = some b → ∀ k, (γ' n).2 = some k → k ∈ blks γ O ∨ W.heap.size ≤ k) ∧ InjOk γ' O' ∧ (∀ n b, look n O = some b → isBoxB n b = true → γ' n = γ n) ∧ R o O'
theorem MeetsY.mono {P : Program} {n : Nat} {args : List D} {O : List (Nat × Blk)} {R R' : Out → List (Nat × Blk) → Prop} (h : MeetsY P n args O R) (hr : ∀ o O', R o O' → R' o O') : MeetsY P n args O R' :=
 ⟨h.here, fun γ V W xs l h1 h2 h3 h4 h5 => let ⟨fn, t, a, b, hy, hR⟩ := h.run γ V W xs l h1 h2 h3 h4 h5; ⟨fn, t, a, b, hy, hR.mono fun _ _ ⟨γ', V', o, O', a1, a2, a3, a4, a5, a6, a7, a8, a9⟩ => ⟨γ', V', o, O', a1, a2, a3, a4, a5, a6, a7, a8, hr o O' a9⟩⟩⟩
/-- a call of yield -/
noncomputable def vcCallY (P : Program) (st : SSt) (dst : Option Nat) (n : Nat) (bs : List Base) (k : SSt → Prop) (kp : D → SSt → Prop) : Prop :=
 datS st bs fun ds st => forceL ds fun ds => ∃ ins : List (Nat × Blk), SubO st.O ins ∧
  MeetsY P n ds ins fun o O' => match o with
   | .ret b => match closedR b O' with
     | true => dropKeys ins st fun st => addKeys ins O' st fun st => k (put st dst b)
     | false => False
   | .pan d => match closedR .junk O' with
     | true => dropKeys ins st fun st => addKeys ins O' st fun st => kp d st
     | false => False
noncomputable def vcCallD (P : Program) (st : SSt) (dst : Option Nat) (F : FuncId) (fs cs : List D) (bs : List Base) (k : SSt → Prop) : Prop :=
 datS st bs fun ds st => forceL ds fun ds => Meets P F (fs ++ (ds ++ cs)) fun d => k (put st dst (.d d))
def capBs : List Cap → List Base
 | [] => []
 | .loc n o :: r => .loc n o :: capBs r
 | .dat d :: r => .d d :: capBs r
noncomputable def vcCallV (P : Program) (r : Bool) (st : SSt) (dst : Option Nat) (F : FuncId) (fs cs : List D) (bs : List Base) (k : SSt → Prop) (kp : D → SSt → Prop) : Prop :=
 match r with
 | true => vcCallR P st dst F (fs.map .d ++ (bs ++ cs.map .d)) k kp
 | false => vcCallD P st dst F fs cs bs k
noncomputable def vcCall (P : Program) (cf : Cfg) (st : SSt) (dst : Option Nat) (c : Call) (bs : List Base) (k : SSt → Prop) (kp : D → SSt → Prop) : Prop :=
 match c.callee, bs with
 | .value _, fb :: bs => match fb with
   | .d (.fn F fs cs) => vcCallV P (match dst with | some d => memB d cf.rs | none => memB 9999 cf.rs) st dst F fs cs bs k kp
   | .fn F fs cs => vcCallV P (match dst with | some d => memB d cf.rs | none => memB 9999 cf.rs) st dst F [] [] (capBs fs ++ bs ++ capBs cs) k kp
   | .own n => vcCallY P st dst n bs k kp
   | _ => False
 | .invoke _ name, rb :: bs => match rb with
   | .d (.iface t x) => ∃ F, Meth P t name F ∧ vcCallV P (match dst with | some d => memB d cf.rs | none => memB 9999 cf.rs) st dst F [x] [] bs k kp
   | _ => False
 | _, _ => False
section
variable {P : Program} {T : List (Nat × TI)} {C : Cx} {γ : Gm} {st : SSt} {V : Know} {a : Act} {W : World} {k : SSt → Prop} {kp : D → SSt → Prop} {next : Act → World → Prop} {Q : Exit → Act → World → Prop} {o : Oper}
/-- what stands behind an operation -/
def Nx (C : Cx) (k : SSt → Prop) (next : Act → World → Prop) : Prop := ∀ γ' st' V' a' W', Rel C γ' st' V' a' W' → k st' → next a' W'
def NxP (C : Cx) (kp : D → SSt → Prop) (Q : Exit → Act → World → Prop) : Prop := ∀ γ' st' V' a' W' v d, Rel C γ' st' V' a' W' → Rep V' v d → kp d st' → Q (.panic [{ v, recovered := false }]) a' W'
theorem callFunc_run {f : FuncId} (h : FnOk P f) (args : Array Value) (W : World) : (callFunc f args).run P W = .ok (.enter f args) W := by
 obtain ⟨fn, c, hf, hb, hn⟩ := h
 have hn' : ¬ fn.name = "runtime.NumGoroutine" := by simpa using hn
 simp [callFunc, hf, hb, hn']
theorem exec_value {dst : Option Tmp} {f : Operand} {args : Array Operand} {ats : Array TypeId} {ty : TypeId} {pos : String} {af : Array Edge} {gd : Option (Nat × Bool)} {F : FuncId} {first captured : Array Value}
 (hf : a.eval f = .func (.func F) first captured) (hF : FnOk P F) :
 (execOp a.eval ⟨dst, .call { callee := .value f, args := args, argTypes := ats }, ty, pos, af, gd⟩).run P W = .ok (.enter F (first ++ args.map a.eval ++ captured)) W := by
 unfold execOp
 simp only [resolve, Sem.run_bind, hf, Deferred.ofValue, Sem.run_pure, Result.andThen_ok, invoke]
 exact callFunc_run hF _ W
theorem exec_invoke {dst : Option Tmp} {r : Operand} {name : String} {args : Array Operand} {ats : Array TypeId} {ty : TypeId} {pos : String} {af : Array Edge} {gd : Option (Nat × Bool)} {F : FuncId} {t : TypeId} {x : Value}
 (hr : a.eval r = .iface t x) (hm : Meth P t name F) (hF : FnOk P F) :
 (execOp a.eval ⟨dst, .call { callee := .invoke r name, args := args, argTypes := ats }, ty, pos, af, gd⟩).run P W = .ok (.enter F (#[x] ++ args.map a.eval)) W := by
 unfold execOp
 have h0 : (#[Value.iface t x] ++ args.map a.eval)[0]? = some (.iface t x) := by rw [Array.getElem?_append_left (by simp)]; rfl
 have h1 : (#[Value.iface t x] ++ args.map a.eval).extract 1 (#[Value.iface t x] ++ args.map a.eval).size = args.map a.eval := by
  apply Array.toList_inj.1
  simp [Array.toList_extract, List.extract_eq_take_drop, List.take_of_length_le]
 simp only [resolve, Sem.run_bind, hr, Sem.run_pure, Result.andThen_ok, invoke, h0, h1, callMethod, run_program, hm W]
 exact callFunc_run hF _ W
theorem vals_d {ds : List D} {xs : List Value} (h : Reps V xs ds) : Vals γ V (ds.map .d) xs := by
 refine ⟨by simp [h.len], fun i b x hb hx => ?_⟩
 simp only [List.getElem?_map] at hb
 cases hd : ds[i]? with
 | none => simp [hd] at hb
 | some d =>
   simp only [hd, Option.map_some, Option.some.injEq] at hb
   subst hb
   exact h.get i x d hx hd
theorem wp_callD {F : FuncId} {args : Array Value} {fs cs : List D} {bs : List Base} {us xs ws : List Value} (he : FnOk P F → (execOp a.eval o).run P W = .ok (.enter F args) W) (hl : args = (us ++ xs ++ ws).toArray) (hr : Rel C γ st V a W) (hd : ∀ t, o.dst = some t → t < C.N)
 (hus : Reps V us fs) (hws : Reps V ws cs) (hbs : Vals γ V bs xs) (h : vcCallD P st o.dst F fs cs bs k) (hn : Nx C k next) : opw C P o a W next Q := by
 obtain ⟨ds, st', V', h, hr', hreps, hle⟩ := datS_run hr hbs h
 rw [forceL_eq] at h
 have hm := h.out
 refine opw_enter (he hm.fn) ?_
 rw [hl]
 have hall : Vals γ V' ((fs ++ (ds ++ cs)).map .d) (us ++ xs ++ ws) := by
  rw [List.map_append, List.map_append, List.append_assoc]
  exact All2.append (vals_d (hus.mono hle)) (All2.append (vals_d hreps) (vals_d (hws.mono hle)))
 refine (hm.run γ V' W (us ++ xs ++ ws) hr'.sees hall (fun n b h => by rw [look_nil] at h; cases h) (fun n n' b b' h => by rw [look_nil] at h; cases h)).mono ?_
 rintro e W' ⟨γ', V'', o', O', hout, hbel, hfr, hsees, _, _, _, _, d, rfl, rfl, hK⟩
 cases e with
 | returned v =>
   have hg : Grow V' W V'' W' := ⟨hbel.to, hfr, hsees⟩
   exact hn _ _ _ _ _ (rel_put (rel_grow hr' hg) hd (show RVb γ V'' (.d d) v from hout)) hK
 | panicked ch => exact hout.elim
 | outgrown => exact hout.elim
theorem dropO_run {n : Nat} : ∀ {l : List (Nat × Blk)} {k : List (Nat × Blk) → Prop}, dropO n l k → ∃ l', k l' ∧ ∀ t b, look t l' = some b → t ≠ n ∧ look t l = some b := by
 intro l
 induction l with
 | nil => intro k h; exact ⟨[], h, fun t b h => by rw [look_nil] at h; cases h⟩
 | cons p l ih =>
   obtain ⟨d, y⟩ := p
   intro k h
   simp only [dropO] at h
   obtain ⟨l', h, hl⟩ := ih h
   split at h
   · rename_i hdn
     have hdn := Nat.eq_of_beq_eq_true hdn
     refine ⟨l', h, fun t b hb => ?_⟩
     obtain ⟨h1, h2⟩ := hl t b hb
     exact ⟨h1, by rw [look_cons_ne (fun e => h1 (by rw [← e, hdn]))]; exact h2⟩
   · rename_i hdn
     have hdn := beq_ne hdn
     refine ⟨_, h, fun t b hb => ?_⟩
     by_cases e : d = t
     · subst e; rw [look_cons_eq] at hb; cases hb; exact ⟨hdn, look_cons_eq ..⟩
     · rw [look_cons_ne e] at hb; rw [look_cons_ne e]; exact hl t b hb
/-- slots and resources that say less -/
def Weak (x y : Blk) : Prop := ∃ (h : Base → Base) (q : Nat → Bool), (∀ b, h b = b ∨ h b = .junk) ∧ x = mapBlk h q y
theorem Weak.refl (x : Blk) : Weak x x := ⟨id, fun _ => false, fun _ => .inl rfl, by cases x <;> first | (simp [mapBlk]; done) | exact congrArg (Blk.pn _) (List.filter_eq_self.2 (fun _ _ => rfl)).symm⟩
theorem Weak.trans {x y z : Blk} (h1 : Weak x y) (h2 : Weak y z) : Weak x z := by
 obtain ⟨f, p, hf, rfl⟩ := h1
 obtain ⟨g, q, hg, rfl⟩ := h2
 refine ⟨f ∘ g, fun m => p m || q m, fun b => ?_, by cases z <;> simp [mapBlk]⟩
 rcases hg b with h | h
 · rcases hf b with h' | h'
   · exact .inl (by simp [h, h'])
   · exact .inr (by simp [h, h'])
 · right
   simp only [Function.comp, h]
   rcases hf .junk with h' | h' <;> exact h'
theorem Weak.ok {x y : Blk} (h : Weak x y) {v : Value × Option Nat} (hy : BlkOk γ V W v y) : BlkOk γ V W v x := by
 obtain ⟨f, q, hf, rfl⟩ := h
 refine mapBlk_ok (fun b x hx => ?_) hy
 rcases hf b with h | h
 · rw [h]; exact hx
 · rw [h]; trivial
theorem junk_weak (n : Nat) (b : Base) : junkB n b = b ∨ junkB n b = .junk := by
 unfold junkB
 split
 · exact .inr rfl
 · exact .inl rfl
theorem dropKeys_run : ∀ (ins : List (Nat × Blk)) {st : SSt} {k : SSt → Prop}, dropKeys ins st k → ∃ st1, k st1 ∧ st1.pins = st.pins ∧ (∀ t b, look t st1.L = some b → look t st.L = some b ∨ b = .junk) ∧
 (∀ t x, look t st1.O = some x → (∀ y, (t, y) ∉ ins) ∧ ∃ y, look t st.O = some y ∧ Weak x y) := by
 intro ins
 induction ins with
 | nil => intro st k h; exact ⟨st, h, rfl, fun _ _ h => .inl h, fun t x h => ⟨by simp, x, h, .refl x⟩⟩
 | cons p ins ih =>
   obtain ⟨n, b⟩ := p
   intro st k h
   simp only [dropKeys] at h
   split at h
   · obtain ⟨O', h, hO⟩ := dropO_run h
     obtain ⟨st1, h1, h2, h3, h4⟩ := ih h
     refine ⟨st1, h1, h2, h3, fun t x hl => ?_⟩
     obtain ⟨h5, y, h6, h7⟩ := h4 t x hl
     obtain ⟨h8, h9⟩ := hO t y h6
     refine ⟨fun y hm => ?_, y, h9, h7⟩
     rcases List.mem_cons.1 hm with h | h
     · cases h; exact h8 rfl
     · exact h5 y h
   · obtain ⟨L', h, hL⟩ := mapLB_run h
     obtain ⟨O', h, hO⟩ := mapO_run h
     obtain ⟨st1, h1, h2, h3, h4⟩ := ih h
     refine ⟨st1, h1, h2, fun t b hl => ?_, fun t x hl => ?_⟩
     · rcases h3 t b hl with h5 | h5
       · obtain ⟨b0, h6, rfl⟩ := hL t b h5
         rcases junk_weak n b0 with h7 | h7
         · rw [h7]; exact .inl h6
         · exact .inr h7
       · exact .inr h5
     · obtain ⟨h5, y, h6, h7⟩ := h4 t x hl
       obtain ⟨h8, z, h9, h10⟩ := hO t y h6
       refine ⟨fun y hm => ?_, z, h9, h7.trans ⟨_, _, junk_weak n, h10⟩⟩
       rcases List.mem_cons.1 hm with h | h
       · cases h; exact h8 rfl
       · exact h5 y h
theorem addKeys_run {ins : List (Nat × Blk)} : ∀ (l : List (Nat × Blk)) {st : SSt} {k : SSt → Prop}, addKeys ins l st k → k { st with O := l ++ st.O } ∧ ∀ d b, look d l = some b → isBox d ins = true ∨ clearOf d st = true := by
 intro l
 induction l with
 | nil => intro st k h; exact ⟨h, fun d b hl => by rw [look_nil] at hl; cases hl⟩
 | cons p l ih =>
   obtain ⟨t, x⟩ := p
   intro st k h
   simp only [addKeys] at h
   split at h
   case h_2 => exact h.elim
   rename_i hc
   obtain ⟨h1, h2⟩ := ih h
   refine ⟨h1, fun d b hl => ?_⟩
   by_cases e : t = d
   · subst e; simpa using hc
   · rw [look_cons_ne e] at hl; exact h2 d b hl
theorem isBox_look {n : Nat} {O : List (Nat × Blk)} (h : isBox n O = true) : ∃ b, look n O = some b ∧ isBoxB n b = true := by
 unfold isBox at h
 split at h
 · exact ⟨_, by assumption, h⟩
 · cases h
theorem hasK_look {O : List (Nat × Blk)} {n : Nat} (h : hasK O n = true) : ∃ b, look n O = some b := by
 unfold hasK at h
 split at h
 · exact ⟨_, by assumption⟩
 · cases h
theorem look_append {O O' : List (Nat × Blk)} {n : Nat} : look n (O ++ O') = match look n O with | some b => some b | none => look n O' := by
 induction O with
 | nil => rfl
 | cons p l ih =>
   obtain ⟨d, y⟩ := p
   rw [List.cons_append]
   by_cases e : d = n
   · subst e; rw [look_cons_eq, look_cons_eq]
   · rw [look_cons_ne e, look_cons_ne e]; exact ih
theorem keys_ment {n : Nat} {b : Base} (h : ment n b = true) : n ∈ keysOf b := by
 cases b with
 | loc m _ => simp only [ment] at h; simp [keysOf, Nat.eq_of_beq_eq_true h]
 | own m => simp only [ment] at h; simp [keysOf, Nat.eq_of_beq_eq_true h]
 | oel m _ _ _ => simp only [ment] at h; simp [keysOf, Nat.eq_of_beq_eq_true h]
 | win m _ _ _ => simp only [ment] at h; simp [keysOf, Nat.eq_of_beq_eq_true h]
 | ag _ m _ => simp only [ment] at h; simp [keysOf, Nat.eq_of_beq_eq_true h]
 | agl cs =>
   have cap : ∀ l : List Cap, l.any (mentC n) = true → n ∈ capKeys l := by
    intro l
    induction l with
    | nil => intro h; cases h
    | cons c l ih =>
      intro h
      simp only [List.any_cons, Bool.or_eq_true] at h
      cases c with
      | loc m o =>
        rcases h with h | h
        · simp only [mentC] at h; simp [capKeys, Nat.eq_of_beq_eq_true h]
        · simp [capKeys, ih h]
      | dat d =>
        rcases h with h | h
        · cases h
        · simp only [capKeys]; exact ih h
   exact cap cs h
 | fn F fs cs =>
   have cap : ∀ l : List Cap, l.any (mentC n) = true → n ∈ capKeys l := by
    intro l
    induction l with
    | nil => intro h; cases h
    | cons c l ih =>
      intro h
      simp only [List.any_cons, Bool.or_eq_true] at h
      cases c with
      | loc m o =>
        rcases h with h | h
        · simp only [mentC] at h; simp [capKeys, Nat.eq_of_beq_eq_true h]
        · simp [capKeys, ih h]
      | dat d =>
        rcases h with h | h
        · cases h
        · simp only [capKeys]; exact ih h
   simp only [ment, Bool.or_eq_true] at h
   simp only [keysOf, List.mem_append]
   exact h.imp (cap fs) (cap cs)
 | _ => cases h
/-- behind a call that was handed resources -/
theorem callR_rel (hr : Rel C γ st V a W) {ins O' : List (Nat × Blk)} (hS : SubO st.O ins) {W' : World} {V' : Know} {γ' : Gm} (hbel : BelowX (blks γ ins) W.heap.size W W') (hfr : Fresh V V' (blks γ ins) W.heap.size) (hsees : Sees V' W')
 (hres : OwnOk γ' V' W' O') (hres2 : ∀ n b, look n O' = some b → ∀ k, (γ' n).2 = some k → k ∈ blks γ ins ∨ W.heap.size ≤ k) (hinj : InjOk γ' O') (hbox : ∀ n b, look n ins = some b → isBoxB n b = true → γ' n = γ n)
 {rb : Base} (hcl : closedR rb O' = true) {k : SSt → Prop} (hK : dropKeys ins st fun st => addKeys ins O' st fun st => k st) :
 ∃ γ2 st2, k st2 ∧ Rel C γ2 st2 V' a W' ∧ ∀ v, RVb γ' V' rb v → RVb γ2 V' rb v := by
 simp only [closedR, Bool.and_eq_true] at hcl
 obtain ⟨hcl1, hcl2⟩ := hcl
 obtain ⟨st1, hK, hP1, hL1, hO1⟩ := dropKeys_run _ hK
 obtain ⟨hK, hadd⟩ := addKeys_run _ hK
 have hblk : ∀ b ∈ blks γ ins, ∃ r x, (∃ y, (r, y) ∈ ins) ∧ look r st.O = some x ∧ (γ r).2 = some b := by
  intro b hb
  obtain ⟨⟨d, x⟩, hm, hbk⟩ := List.mem_filterMap.1 hb
  have hl : ∃ z, look d ins = some z := by
   have : ∀ l : List (Nat × Blk), (d, x) ∈ l → ∃ z, look d l = some z := by
    intro l
    induction l with
    | nil => intro h; cases h
    | cons p l ih =>
      obtain ⟨t, y⟩ := p
      intro h
      by_cases e : t = d
      · subst e; exact ⟨y, look_cons_eq ..⟩
      · rw [look_cons_ne e]
        rcases List.mem_cons.1 h with h | h
        · cases h; exact absurd rfl e
        · exact ih h
   exact this ins hm
  obtain ⟨z, hz⟩ := hl
  obtain ⟨b', hb', _⟩ := SubO_run hS d z hz
  exact ⟨d, b', ⟨x, hm⟩, hb', hbk⟩
 have hokb : ∀ b ∈ blks γ ins, Okb C b := by
  intro b hb
  obtain ⟨r, x, _, h1, h2⟩ := hblk b hb
  exact hr.okb r x h1 b h2
 let γ2 : Gm := fun d => match look d O' with | some _ => γ' d | none => γ d
 have hg2 : ∀ d b, look d O' = some b → γ2 d = γ' d := fun d b h => by simp only [γ2, h]
 have hg2n : ∀ d, look d O' = none → γ2 d = γ d := fun d h => by simp only [γ2, h]
 have hboxsame : ∀ d, isBox d ins = true → γ' d = γ d ∧ ∃ y, (d, y) ∈ ins := by
  intro d hd'
  obtain ⟨b, hx, hb⟩ := isBox_look hd'
  exact ⟨hbox d b hx hb, _, look_mem hx⟩
 have hkeep : ∀ d, clearOf d st1 = false ∨ look d O' = none → γ2 d = γ d := by
  intro d h
  cases hl : look d O' with
  | none => exact hg2n d hl
  | some b =>
    rw [hg2 d b hl]
    rcases h with h | h
    · rcases hadd d b hl with h' | h'
      · exact (hboxsame d h').1
      · rw [h] at h'; cases h'
    · rw [hl] at h; cases h
 have hmL : ∀ t b d, look t st1.L = some b → ment d b = true → clearOf d st1 = false := by
  intro t b d hl hm'
  cases hc : clearOf d st1 with
  | false => rfl
  | true => have := clear_slots hc hl; rw [hm'] at this; cases this
 have hmO : ∀ t x d, look t st1.O = some x → (t = d ∨ mentBlk d x = true) → clearOf d st1 = false := by
  intro t x d hl hm'
  cases hc : clearOf d st1 with
  | false => rfl
  | true =>
    have := clear_own hc hl
    rcases hm' with rfl | hm'
    · exact absurd rfl this.1
    · rw [hm'] at this; cases this.2
 have hmP : ∀ d ∈ st1.pins, clearOf d st1 = false := by
  intro d hd'
  cases hc : clearOf d st1 with
  | false => rfl
  | true => exact absurd hd' (clear_pins hc)
 have hframe : ∀ d x, look d st1.O = some x → γ2 d = γ d ∧ look d O' = none ∧ BlkOk γ2 V' W' (γ d) x ∧ (∀ b, (γ d).2 = some b → b ∉ blks γ ins ∧ b < W.heap.size) ∧ ∃ y, look d st.O = some y := by
  intro d x hl
  obtain ⟨h1, y, h2, h3⟩ := hO1 d x hl
  have hnone : look d O' = none := by
   cases hlo : look d O' with
   | none => rfl
   | some b =>
     rcases hadd d b hlo with h' | h'
     · obtain ⟨_, y, hy⟩ := hboxsame d h'
       exact absurd hy (h1 y)
     · rw [hmO d x d hl (.inl rfl)] at h'; cases h'
  have hy := hr.own d y h2
  have hnb : ∀ b, (γ d).2 = some b → b ∉ blks γ ins := by
   intro b hb hm'
   obtain ⟨r, z, ⟨y', hr1⟩, hz1, hz2⟩ := hblk b hm'
   exact hr.inj r d z y hz1 h2 (fun e => h1 y' (e ▸ hr1)) b hz2 hb
  refine ⟨hg2n d hnone, hnone, ?_, fun b hb => ⟨hnb b hb, own_lt hy hb⟩, y, h2⟩
  have hyk : BlkOk γ V' W' (γ d) y := hy.keep hfr.le (fun b hb => hbel.block b (own_lt hy hb) (hnb b hb)) (fun b hb o u hu => by
   rcases hfr.cell b o u hu with h | h | h
   · exact h
   · exact absurd h (hnb b hb)
   · have := own_lt hy hb; omega) (fun b hb u hu => by
   rcases hfr.obj b u hu with h | h | h
   · exact h
   · exact absurd h (hnb b hb)
   · have := own_lt hy hb; omega)
  have hx := h3.ok hyk
  cases x with
  | box cells ty =>
    obtain ⟨blk, cs, e1, e2, e3, e4, e5⟩ := hx
    refine ⟨blk, cs, e1, e2, e3.imp fun b hb y hy => hy.congr fun d' hd' => ?_, e4, e5⟩
    rw [hkeep d' (.inl (hmO d _ d' hl (.inr (List.any_eq_true.2 ⟨b, hb, hd'⟩))))]
  | sl s => exact hx
  | mp l => exact hx
  | pn g ns => exact ⟨hx.1, fun m hm => by rw [hkeep m (.inl (hmO d _ m hl (.inr (memB_mem.2 hm))))]; exact hx.2 m hm⟩
  | lp r g V0 pn =>
    obtain ⟨h1, h2, h3⟩ := hx
    exact ⟨h1, h2, fun m hm => ⟨by rw [hkeep m (.inl (hmO d _ m hl (.inr (memB_mem.2 hm))))]; exact (h3 m hm).1, (h3 m hm).2⟩⟩
 have hlook : ∀ d x, look d (O' ++ st1.O) = some x → look d O' = some x ∨ (look d O' = none ∧ look d st1.O = some x) := by
  intro d x hl
  rw [look_append] at hl
  split at hl
  · rename_i h0; cases hl; exact .inl h0
  · rename_i h0; exact .inr ⟨h0, hl⟩
 refine ⟨γ2, _, hK, ?_, fun v hv => hv.congr fun d hd' => ?_⟩
 · refine { size := hr.size, defers := hr.defers.keep rfl fun k h => (hbel.block k (heap_lt h) fun hm => by obtain ⟨n, x, _, hl, hk⟩ := hblk k hm; exact own_notdef (hr.own n x hl) hk h).trans h, slots := ?_, own := ?_, okb := ?_, inj := ?_, pin := fun d hd' => (hkeep d (.inl (hmP d hd'))).trans (hr.pin d (hP1 ▸ hd')), sees := hsees, fresh := ?_, below := ?_, bsize := Nat.le_trans hr.bsize hbel.size }
   · intro t b hl
     have h0 : RVb γ V' b (a.tmps.getD t undef) := by
      rcases hL1 t b hl with h | rfl
      · exact (hr.slots t b h).mono hfr.le
      · exact trivial
     exact h0.congr fun d hd' => by rw [hkeep d (.inl (hmL t b d hl hd'))]
   · intro d x hl
     rcases hlook d x hl with h | ⟨_, h⟩
     · rw [hg2 d x h]
       have hx := hres d x h
       cases x with
       | box cells ty =>
         obtain ⟨blk, cs, e1, e2, e3, e4, e5⟩ := hx
         refine ⟨blk, cs, e1, e2, e3.imp fun b hb y hy => hy.congr fun d' hd' => ?_, e4, e5⟩
         have hc := List.all_eq_true.1 hcl2 _ (look_mem h)
         simp only at hc
         have hc := List.all_eq_true.1 hc b hb
         obtain ⟨b', hb'⟩ := hasK_look (List.all_eq_true.1 hc d' (keys_ment hd'))
         rw [hg2 d' b' hb']
       | sl s => exact hx
       | mp l => exact hx
       | pn g ns => have hc := List.all_eq_true.1 hcl2 _ (look_mem h); cases hc
       | lp r g V0 pn =>
         obtain ⟨h1, h2, h3⟩ := hx
         have hc := List.all_eq_true.1 hcl2 _ (look_mem h)
         simp only at hc
         refine ⟨h1, h2, fun m hm => ⟨?_, (h3 m hm).2⟩⟩
         obtain ⟨b', hb'⟩ := hasK_look (List.all_eq_true.1 hc m hm)
         rw [hg2 m b' hb']; exact (h3 m hm).1
     · obtain ⟨h1, _, h2, _⟩ := hframe d x h
       rw [h1]; exact h2
   · intro d x hl b hb
     rcases hlook d x hl with h | ⟨_, h⟩
     · rw [hg2 d x h] at hb
       rcases hres2 d x h b hb with h1 | h1
       · exact hokb b h1
       · exact .inr (Nat.le_trans hr.bsize h1)
     · obtain ⟨h1, _, _, _, y, hy⟩ := hframe d x h
       rw [h1] at hb
       exact hr.okb d y hy b hb
   · intro d1 d2 x1 x2 hl1 hl2 hne b hb
     rcases hlook d1 x1 hl1 with h1 | ⟨_, h1⟩ <;> rcases hlook d2 x2 hl2 with h2 | ⟨_, h2⟩
     · rw [hg2 d1 x1 h1] at hb
       rw [hg2 d2 x2 h2]
       exact hinj d1 d2 x1 x2 h1 h2 hne b hb
     · rw [hg2 d1 x1 h1] at hb
       obtain ⟨e, _, _, hnb, _⟩ := hframe d2 x2 h2
       rw [e]
       intro hb2
       have hh := hnb b hb2
       rcases hres2 d1 x1 h1 b hb with h3 | h3
       · exact hh.1 h3
       · omega
     · obtain ⟨e, _, _, hnb, _⟩ := hframe d1 x1 h1
       rw [e] at hb
       rw [hg2 d2 x2 h2]
       intro hb2
       have hh := hnb b hb
       rcases hres2 d2 x2 h2 b hb2 with h3 | h3
       · exact hh.1 h3
       · omega
     · obtain ⟨e1, _, _, _, y1, hy1⟩ := hframe d1 x1 h1
       obtain ⟨e2, _, _, _, y2, hy2⟩ := hframe d2 x2 h2
       rw [e1] at hb
       rw [e2]
       exact hr.inj d1 d2 y1 y2 hy1 hy2 hne b hb
   · exact hr.fresh.trans hfr hr.bsize hokb
   · refine hr.below.trans ⟨hbel.os, hbel.tape, hbel.output, hbel.size, fun b hb hnl => hbel.block b (Nat.lt_of_lt_of_le hb hr.bsize) fun hm' => ?_⟩
     rcases hokb b hm' with h | h
     · exact hnl h
     · omega
 · obtain ⟨b, hb⟩ := hasK_look (List.all_eq_true.1 hcl1 d (keys_ment hd'))
   rw [hg2 d b hb]
theorem wp_callR {F : FuncId} {args : Array Value} {bs : List Base} {xs : List Value} (he : FnOk P F → (execOp a.eval o).run P W = .ok (.enter F args) W) (hl : args = xs.toArray) (hr : Rel C γ st V a W) (hd : ∀ t, o.dst = some t → t < C.N)
 (hbs : Vals γ V bs xs) (h : vcCallR P st o.dst F bs k kp) (hn : Nx C k next) (hp : NxP C kp Q) : opw C P o a W next Q := by
 obtain ⟨ins, args', ⟨hS1, hS2⟩, hm⟩ := h
 refine opw_enter (he hm.fn) ?_
 rw [hl]
 have hinj0 : InjOk γ ins := fun n n' b b' h1 h2 hne k hk => by
  obtain ⟨y, hy, _⟩ := SubO_run hS2 n b h1
  obtain ⟨y', hy', _⟩ := SubO_run hS2 n' b' h2
  exact hr.inj n n' y y' hy hy' hne k hk
 have hown0 : OwnOk γ V W ins := fun n b h => by
  obtain ⟨y, hy, hs⟩ := SubO_run hS2 n b h
  exact SubK_run hr.own hs (hr.own n y hy)
 refine (hm.run γ V W xs hr.sees (SubBs_run hr.own hS1 hbs) hown0 hinj0).mono ?_
 rintro e W' ⟨γ', V', o', O', hout, hbel, hfr, hsees, hres, hres2, hinj, hbox, hK⟩
 cases o' with
 | ret b =>
   cases e with
   | returned v =>
     simp only at hK
     split at hK
     case h_2 => exact hK.elim
     rename_i hcl
     obtain ⟨γ2, st2, hk, hr2, hv⟩ := callR_rel hr hS2 hbel hfr hsees hres hres2 hinj hbox hcl (k := fun st => k (put st o.dst b)) hK
     exact hn _ _ _ _ _ (rel_put hr2 hd (hv v hout)) hk
   | panicked ch => exact hout.elim
   | outgrown => exact hout.elim
 | pan d =>
   cases e with
   | returned v => exact hout.elim
   | panicked ch =>
     simp only at hK
     split at hK
     case h_2 => exact hK.elim
     rename_i hcl
     obtain ⟨γ2, st2, hk, hr2, _⟩ := callR_rel hr hS2 hbel hfr hsees hres hres2 hinj hbox hcl (k := fun st => kp d st) hK
     obtain ⟨v, rfl, hv⟩ := hout
     exact hp _ _ _ _ _ _ _ hr2 hv hk
   | outgrown => exact hout.elim
theorem exec_yield {dst : Option Tmp} {f : Operand} {args : Array Operand} {ats : Array TypeId} {ty : TypeId} {pos : String} {af : Array Edge} {gd : Option (Nat × Bool)} {l : Nat} {r : Result Next}
 (hf : a.eval f = .func (.yield l) #[] #[]) (h : (Instr.yield l (args.map a.eval)).run P W = r) :
 (execOp a.eval ⟨dst, .call { callee := .value f, args := args, argTypes := ats }, ty, pos, af, gd⟩).run P W = r := by
 unfold execOp
 simp only [resolve, Sem.run_bind, hf, Deferred.ofValue, Sem.run_pure, Result.andThen_ok, invoke]
 simpa using h
theorem wp_callY {n : Nat} {dst : Option Tmp} {f : Operand} {args : Array Operand} {ats : Array TypeId} {ty : TypeId} {pos : String} {af : Array Edge} {gd : Option (Nat × Bool)} {bs : List Base} (hf : a.eval f = (γ n).1) (hr : Rel C γ st V a W) (hd : ∀ t, dst = some t → t < C.N)
 (hbs : Vals γ V bs (args.toList.map a.eval)) (h : vcCallY P st dst n bs k kp) (hn : Nx C k next) (hp : NxP C kp Q) : opw C P ⟨dst, .call { callee := .value f, args := args, argTypes := ats }, ty, pos, af, gd⟩ a W next Q := by
 obtain ⟨ds, st', V', h, hr', hreps, hle⟩ := datS_run hr hbs h
 rw [forceL_eq] at h
 obtain ⟨ins, hS2, hm⟩ := h
 have hinj0 : InjOk γ ins := fun n n' b b' h1 h2 hne k hk => by
  obtain ⟨y, hy, _⟩ := SubO_run hS2 n b h1
  obtain ⟨y', hy', _⟩ := SubO_run hS2 n' b' h2
  exact hr'.inj n n' y y' hy hy' hne k hk
 have hown0 : OwnOk γ V' W ins := fun n b h => by
  obtain ⟨y, hy, hs⟩ := SubO_run hS2 n b h
  exact SubK_run hr'.own hs (hr'.own n y hy)
 obtain ⟨r, g, V0, pn, hl⟩ := hm.here
 obtain ⟨⟨l, hγ, _⟩, _⟩ := hown0 n _ hl
 obtain ⟨fn, tm, asg, bd, hy, hR⟩ := hm.run γ V' W _ l hr'.sees hreps hown0 hinj0 hγ
 have ha : args.map a.eval = (args.toList.map a.eval).toArray := by apply Array.toList_inj.1; simp
 have hrun := exec_yield (dst := dst) (ats := ats) (ty := ty) (pos := pos) (af := af) (gd := gd) (P := P) (W := W) (a := a) (f := f) (args := args) (l := l) (r := .ok (.round l fn tm asg bd) W) (by rw [hf, hγ]) (by rw [ha]; exact hy)
 refine opw_of hrun (no_defer hrun rfl) rfl ⟨fun h => (by cases h), RoundIn.mono (show RoundIn (fen C) 0 P l fn tm asg bd W _ from hR) ?_⟩
 rintro e W' ⟨γ', V', o', O', hout, hbel, hfr, hsees, hres, hres2, hinj, hbox, hK⟩
 cases o' with
 | ret b =>
   cases e with
   | returned v =>
     simp only at hK
     split at hK
     case h_2 => exact hK.elim
     rename_i hcl
     obtain ⟨γ2, st2, hk, hr2, hv⟩ := callR_rel hr' hS2 hbel hfr hsees hres hres2 hinj hbox hcl (k := fun st => k (put st dst b)) hK
     exact hn _ _ _ _ _ (rel_put hr2 hd (hv v hout)) hk
   | panicked ch => exact hout.elim
   | outgrown => exact hout.elim
 | pan d =>
   cases e with
   | returned v => exact hout.elim
   | panicked ch =>
     simp only at hK
     split at hK
     case h_2 => exact hK.elim
     rename_i hcl
     obtain ⟨γ2, st2, hk, hr2, _⟩ := callR_rel hr' hS2 hbel hfr hsees hres hres2 hinj hbox hcl (k := fun st => kp d st) hK
     obtain ⟨v, rfl, hv⟩ := hout
     exact hp _ _ _ _ _ _ _ hr2 hv hk
   | outgrown => exact hout.elim
theorem capBs_run : ∀ {cs : List Cap} {xs : List Value}, All2 (CapR γ V) cs xs → Vals γ V (capBs cs) xs := by
 intro cs
 induction cs with
 | nil => intro xs h; rw [h.nil_l]; exact .nil
 | cons c cs ih =>
   intro xs h
   obtain ⟨x, xs, rfl, h1, h2⟩ := h.cons_l
   cases c with
   | loc n o => exact .cons h1 (ih h2)
   | dat d => exact .cons h1 (ih h2)
theorem vcCallV_run {r : Bool} {F : FuncId} {args : Array Value} {fs cs : List D} {bs : List Base} {us xs ws : List Value} (he : FnOk P F → (execOp a.eval o).run P W = .ok (.enter F args) W) (hl : args = (us ++ xs ++ ws).toArray) (hr : Rel C γ st V a W) (hd : ∀ t, o.dst = some t → t < C.N)
 (hus : Reps V us fs) (hws : Reps V ws cs) (hbs : Vals γ V bs xs) (h : vcCallV P r st o.dst F fs cs bs k kp) (hn : Nx C k next) (hp : NxP C kp Q) : opw C P o a W next Q := by
 unfold vcCallV at h
 split at h
 · refine wp_callR he hl hr hd ?_ h hn hp
   rw [List.append_assoc]
   exact All2.append (vals_d hus) (All2.append hbs (vals_d hws))
 · exact wp_callD he hl hr hd hus hws hbs h hn
theorem vcCall_run {cf : Cfg} (hr : Rel C γ st V a W) (hd : ∀ t, o.dst = some t → t < C.N) {c : Call} (ho : o.op = .call c) {bs : List Base} (hbs : Vals γ V bs (o.op.operands.toList.map a.eval)) (h : vcCall P cf st o.dst c bs k kp) (hn : Nx C k next) (hp : NxP C kp Q) : opw C P o a W next Q := by
 obtain ⟨dst, op, ty, pos, af, gd⟩ := o
 simp only at ho hbs hd
 subst ho
 obtain ⟨callee, args, ats⟩ := c
 unfold vcCall at h
 simp only at h
 split at h
 · rename_i f fb bs
   have hbs : Vals γ V (fb :: bs) (a.eval f :: args.toList.map a.eval) := by simpa [Op.operands, Call.operands] using hbs
   have h1 := hbs.head
   have h2 := hbs.tail
   split at h
   · rename_i F fs cs
     generalize hfv : a.eval f = fv at h1
     cases h1 with
     | fn _ us ws _ _ hl1 hl2 g1 g2 =>
       refine vcCallV_run (fun hF => exec_value hfv hF) (us := us) (xs := args.toList.map a.eval) (ws := ws) ?_ hr hd ⟨hl1, g1⟩ ⟨hl2, g2⟩ h2 h hn hp
       apply Array.toList_inj.1
       simp
   · rename_i F fs cs
     obtain ⟨us, ws, hfv, g1, g2⟩ := h1
     refine vcCallV_run (fun hF => exec_value hfv hF) (us := []) (xs := us ++ args.toList.map a.eval ++ ws) (ws := []) ?_ hr hd (.nil V) (.nil V) (All2.append (All2.append (capBs_run g1) h2) (capBs_run g2)) h hn hp
     apply Array.toList_inj.1
     simp
   · exact wp_callY h1 hr hd h2 h hn hp
   · exact h.elim
 · rename_i r name rb bs
   have hbs : Vals γ V (rb :: bs) (a.eval r :: args.toList.map a.eval) := by simpa [Op.operands, Call.operands] using hbs
   have h1 := hbs.head
   have h2 := hbs.tail
   split at h
   case h_2 => exact h.elim
   rename_i t x _
   obtain ⟨F, hm, h⟩ := h
   generalize hfv : a.eval r = fv at h1
   cases h1 with
   | iface _ y _ hy =>
     refine vcCallV_run (fun hF => exec_invoke hfv hm hF) (us := [y]) (xs := args.toList.map a.eval) (ws := []) ?_ hr hd (.cons hy (.nil V)) (.nil V) h2 h hn hp
     apply Array.toList_inj.1
     simp
 · exact h.elim
end
end Go.Proofs.YtedjnaggkakphaaGreatDoor.Dx
/- The executor over data, part V: rows that are made, and copies into them. -/
namespace Go.Proofs.YtedjnaggkakphaaGreatDoor.Dx
open Go Go.RowKit
variable {P : Program} {T : List (Nat × TI)} {C : Cx} {γ : Gm} {st : SSt} {V : Know} {a : Act} {W : World} {k : SSt → Prop}
/-! ### make -/
noncomputable def vcMake (T : List (Nat × TI)) (nm : List (Nat × Nat)) (st : SSt) (dst : Option Nat) (t : TypeId) (bl bc : Base) (k : SSt → Prop) : Prop :=
 match look t T with
 | none => False
 | some ti => match ti.desc with
   | .slice e => match look e T with
     | none => False
     | some te => match te.zero with
       | .int kd z => match bl, bc with
         | .d (.v (.int _ l)), .d (.v (.int _ c)) => (te.size = 1 ∧ inKind kd z ∧ l = c ∧ 0 ≤ l ∧ (te.bytes : Int) * c ≤ 281474976710656 ∧ c ≤ 4611686018427387904) ∧ newRes nm st dst (.sl ⟨e, 1, List.replicate l.toNat [.v (.int kd z)], false⟩) k
         | _, _ => False
       | .bool z => match bl, bc with
         | .d (.v (.int _ l)), .d (.v (.int _ c)) => (te.size = 1 ∧ l = c ∧ 0 ≤ l ∧ (te.bytes : Int) * c ≤ 281474976710656 ∧ c ≤ 4611686018427387904) ∧ newRes nm st dst (.sl ⟨e, 1, List.replicate l.toNat [.v (.bool z)], false⟩) k
         | _, _ => False
       | .string _ => match bl, bc with
         | .d (.v (.int _ l)), .d (.v (.int _ c)) => (l = 0 ∧ 0 ≤ c ∧ (te.bytes : Int) * c ≤ 281474976710656 ∧ c ≤ 4611686018427387904) ∧ newRes nm st dst (.sl ⟨e, te.size, [], true⟩) k
         | _, _ => False
       | _ => False
   | _ => False
theorem flat_replicate (n : Nat) (d : D) : (List.replicate n [d]).flatten = List.replicate n d := by
 induction n with
 | zero => rfl
 | succ n ih => rw [List.replicate_succ, List.flatten_cons, ih, List.replicate_succ]; rfl
theorem madeCells_one (z : Value) (n : Nat) (h : z.cells = #[z]) : madeCells z.cells n = (List.replicate n z).toArray := by
 rw [madeCells, h]
 apply Array.ext
 · simp
 · intro i h1 h2
   simp [Nat.mod_one]
theorem vcMake_run (hT : TOk P T) (hr : Rel C γ st V a W) {dst : Option Nat} (hd : ∀ t, dst = some t → t < C.N) {t : TypeId} {bl bc : Base} {lv cv : Value} (hl : RVb γ V bl lv) (hc : RVb γ V bc cv) {nm : List (Nat × Nat)} (h : vcMake T nm st dst t bl bc k) :
 ∃ v W' γ' st', (Instr.makeSlice t lv cv).run P W = .ok v W' ∧ k st' ∧ Rel C γ' st' V (a.put dst v) W' := by
 unfold vcMake at h
 split at h
 · exact h.elim
 rename_i ti hti
 split at h
 case h_2 => exact h.elim
 rename_i e hdsc
 split at h
 · exact h.elim
 rename_i te hte
 have core : ∀ (z0 : Value) (d0 : D) (k1 k2 : IntKind) (l : Int), te.zero = z0 → lv = .int k1 l → cv = .int k2 l → Rep V z0 d0 → z0.cells = #[z0] → z0.oneCell' = true → te.size = 1 → 0 ≤ l → (te.bytes : Int) * l ≤ 281474976710656 → l ≤ 4611686018427387904 →
  newRes nm st dst (.sl ⟨e, 1, List.replicate l.toNat [d0], false⟩) k → ∃ v W' γ' st', (Instr.makeSlice t lv cv).run P W = .ok v W' ∧ k st' ∧ Rel C γ' st' V (a.put dst v) W' := by
  intro z0 d0 k1 k2 l hz e1 e2 hz0 hzc hone h1 h0 hby hmx h
  obtain ⟨i, hi, hs, hbi, hzero⟩ := hT.info hte
  subst e1 e2
  have hrun := run_make (P := P) W t e i te.zero (by rw [hT.row hti, hdsc]) hi hzero k1 k2 l l h0 (Int.le_refl _) (by rw [hbi]; exact hby) (by omega)
  rw [hs, h1, Nat.mul_one, hz, madeCells_one _ _ hzc] at hrun
  have hlm : l.toNat ≤ maxLen := by simp only [maxLen]; omega
  have hrel := rel_grow hr (alloc_grow hr.sees (.cells (List.replicate l.toNat z0).toArray e))
  have hown := World.ownsRow_lit (base := 0) (e := e) (size := 1) W (List.replicate l.toNat z0).toArray l.toNat (Nat.zero_le _) hlm (by simp)
  have hreps : Reps V (List.replicate l.toNat z0) (List.replicate l.toNat [d0]).flatten := by
   rw [flat_replicate]
   refine ⟨by simp, fun i u d hu hd => ?_⟩
   rw [List.getElem?_replicate] at hu hd
   split at hu
   · rw [if_pos ‹_›] at hd
     cases hu; cases hd
     exact hz0
   · cases hu
  obtain ⟨γ', st', hk', hr2⟩ := newRes_run hrel hd (fun n => rfl) h (v := (.slice (some ⟨W.heap.size, 0, none⟩) l.toNat l.toNat, some W.heap.size)) (.inl ⟨W.heap.size, l.toNat, l.toNat, List.replicate l.toNat z0, rfl, by simpa using hown, fun ds hds => by rw [(List.mem_replicate.1 hds).2]; rfl, hreps, fun u hu => by rw [(List.mem_replicate.1 hu).2]; exact hone, fun o => by
   cases hc : V.cell W.heap.size o with
   | none => rfl
   | some u => have := hr.sees.lt hc; omega⟩) (fun q hq => by cases hq; exact .inr hr.bsize) (fun n' b' hl q hq hq' => by
   cases hq
   have := own_lt (hr.own n' b' hl) hq'
   omega)
  exact ⟨_, _, γ', st', hrun, hk', hr2⟩
 split at h
 · rename_i kd z hz
   split at h
   case h_2 => exact h.elim
   rename_i k1 l k2 c
   obtain ⟨⟨h1, hin, rfl, h0, hby, hmx⟩, h⟩ := h
   exact core (.int kd z) _ k1 k2 l hz (Rep.int_inv hl |>.1) (Rep.int_inv hc |>.1) (.v _ (wf_int.2 hin)) rfl rfl h1 h0 hby hmx h
 · rename_i z hz
   split at h
   case h_2 => exact h.elim
   rename_i k1 l k2 c
   obtain ⟨⟨h1, rfl, h0, hby, hmx⟩, h⟩ := h
   exact core (.bool z) _ k1 k2 l hz (Rep.int_inv hl |>.1) (Rep.int_inv hc |>.1) (.b z) rfl rfl h1 h0 hby hmx h
 · rename_i z hz
   split at h
   case h_2 => exact h.elim
   rename_i k1 l k2 c
   obtain ⟨⟨rfl, h0, hby, hmx⟩, h⟩ := h
   obtain ⟨i, hi, hs, hbi, hzero⟩ := hT.info hte
   obtain ⟨c, rfl⟩ := Int.eq_ofNat_of_zero_le h0
   obtain rfl := (Rep.int_inv hl).1
   obtain rfl := (Rep.int_inv hc).1
   have hrun := run_make (P := P) W t e i te.zero (by rw [hT.row hti, hdsc]) hi hzero k1 k2 0 (c : Int) (Int.le_refl _) h0 (by rw [hbi]; exact hby) (by omega)
   have hcm : c ≤ maxLen := by simp only [maxLen]; omega
   have hrel := rel_grow hr (alloc_grow hr.sees (.cells (madeCells te.zero.cells ((c : Int).toNat * i.size)) e))
   have hown : (W.alloc (.cells (madeCells te.zero.cells ((c : Int).toNat * i.size)) e)).ownsRow 0 e te.size (.slice (some ⟨W.heap.size, 0, none⟩) 0 c) 0 [] :=
    ⟨by simp, .inr ⟨W.heap.size, c, _, rfl, Nat.zero_le _, heap_alloc_new W _, Nat.zero_le _, hcm, by rw [← hs]; simp [madeCells], by simp⟩⟩
   obtain ⟨γ', st', hk', hr2⟩ := newRes_run hrel hd (fun n => rfl) h (v := (.slice (some ⟨W.heap.size, 0, none⟩) 0 c, some W.heap.size)) (.inl ⟨W.heap.size, 0, c, [], rfl, hown, fun ds hds => by simp at hds, .nil V, fun u hu => by simp at hu, fun o u hc => (by have := hr.sees.lt hc; omega), fun j u hj => by simp at hj⟩) (fun q hq => by cases hq; exact .inr hr.bsize) (fun n' b' hl q hq hq' => by
    cases hq
    have := own_lt (hr.own n' b' hl) hq'
    omega)
   exact ⟨_, _, γ', st', hrun, hk', hr2⟩
 · exact h.elim
/-! ### a private slice of one's own is cut short -/
noncomputable def vcTrunc (T : List (Nat × TI)) (st : SSt) (dst : Option Nat) (ty : TypeId) (b hi : Base) (k : SSt → Prop) : Prop :=
 match look ty T with
 | none => False
 | some ti => match ti.desc with
   | .slice e => match look e T with
     | none => False
     | some te => match b, hi with
       | .own n, .d (.v (.int _ j)) => match look n st.O with
         | some (.sl s) => match s.pub || memB n st.pins with
           | true => False
           | false => (s.xs.length ≤ maxLen → 0 ≤ j ∧ j ≤ (s.xs.length : Int) ∧ 0 < s.xs.length ∧ s.k = te.size) ∧
             mapLB (junkB n) st.L fun L' => mapO n (junkB n) st.O fun O' => k (put { st with L := L', O := (n, .sl { s with xs := s.xs.take j.toNat }) :: O' } dst (.own n))
         | _ => False
       | _, _ => False
   | _ => False
theorem flatten_take {k : Nat} : ∀ {xs : List (List D)}, (∀ ds ∈ xs, ds.length = k) → ∀ j, (xs.take j).flatten = xs.flatten.take (j * k) := by
 intro xs
 induction xs with
 | nil => intro _ j; simp
 | cons x xs ih =>
   intro hk j
   cases j with
   | zero => simp
   | succ j =>
     rw [List.take_succ_cons, List.flatten_cons, List.flatten_cons, ih (fun z hz => hk z (by simp [hz])), List.take_append, hk x (by simp), Nat.succ_mul, List.take_of_length_le (l := x) (by rw [hk x (by simp)]; omega), Nat.add_sub_cancel]
theorem vcTrunc_run (hT : TOk P T) (hr : Rel C γ st V a W) {dst : Option Nat} (hd : ∀ t, dst = some t → t < C.N) {ty : TypeId} {b hi : Base} {xv hv : Value} (hx : RVb γ V b xv) (hh : RVb γ V hi hv) (h : vcTrunc T st dst ty b hi k) :
 ∃ v γ' st', (Instr.sliceAt ty xv none (some hv) none).run P W = .ok v W ∧ k st' ∧ Rel C γ' st' V (a.put dst v) W := by
 unfold vcTrunc at h
 split at h
 · exact h.elim
 rename_i ti hti
 split at h
 case h_2 => exact h.elim
 rename_i e hdsc
 split at h
 · exact h.elim
 rename_i te hte
 split at h
 case h_2 => exact h.elim
 rename_i n kk j
 split at h
 case h_2 => exact h.elim
 rename_i s hs
 split at h
 · exact h.elim
 rename_i hpp
 simp only [Bool.or_eq_false_iff] at hpp
 obtain ⟨hp, hpin⟩ := hpp
 have hpin : n ∉ st.pins := fun hm => by rw [memB_mem.2 hm] at hpin; cases hpin
 obtain ⟨hb, h⟩ := h
 obtain ⟨L', h, hL⟩ := mapLB_run h
 obtain ⟨O', h, hO⟩ := mapO_run h
 have e2 : hv = .int kk j := Rep.int_inv hh |>.1
 subst e2
 rcases hr.own n _ hs with ⟨g, m, c, vals, hv, hown, hk, hvr, h1, hm⟩ | ⟨hp', _⟩
 · have hown0 := hown
   rw [hv] at hown
   obtain ⟨cur, rfl, hhp, hnc, hcm, hcs, htk, hvl⟩ := own_cap hown
   obtain ⟨b1, b2, b3, b4⟩ := hb (Nat.le_trans hnc hcm)
   rw [hp] at hm
   have hbb := sliceBounds_run (P := P) (W := W) (isS := true) (lo := none) (hi := some (.int kk j)) (mx := none) (n := s.xs.length) (c := c) (l := 0) (h := j) (m := c) (.inl ⟨rfl, rfl⟩) (.inr ⟨kk, rfl⟩) (.inl ⟨rfl, rfl⟩) (fun e => absurd rfl e) ⟨by omega, b1, by omega, Int.le_refl _⟩
   have hrun : (Instr.sliceAt ty xv none (some (.int kk j)) none).run P W = .ok (.slice (some ⟨g, 0, none⟩) j.toNat c) W := by
    rw [show xv = (γ n).1 from hx, hv]
    simp only [Instr.sliceAt, Instr.slice, Sem.run_bind, hT.under hti W, Result.andThen_ok, hdsc, Option.isSome_none, hbb, hT.sizeOf hte W, Sem.run_pure]
    by_cases hc0 : c = 0
    · omega
    · simp [Addr.add]
   have hsl : SlOk V W (.slice (some ⟨g, 0, none⟩) j.toNat c, some g) { s with xs := s.xs.take j.toNat } := by
    have hlt : (s.xs.take j.toNat).length = j.toNat := by rw [List.length_take]; omega
    refine .inl ⟨g, j.toNat, c, vals.take (j.toNat * s.k), rfl, ?_, fun ds hds => hk ds (List.mem_of_mem_take hds), ?_, fun u hu => h1 u (List.mem_of_mem_take hu), ?_⟩
    · show W.ownsRow 0 s.e s.k (.slice (some ⟨g, 0, none⟩) j.toNat c) (s.xs.take j.toNat).length _
      rw [hlt]
      refine ⟨by rw [List.length_take, hvl]; exact Nat.min_eq_left (Nat.mul_le_mul_right _ (by omega)), .inr ⟨g, c, cur, rfl, Nat.zero_le _, hhp, by omega, hcm, hcs, ?_⟩⟩
      rw [← htk, List.take_take, Nat.min_eq_left (Nat.mul_le_mul_right _ (by omega))]
    · show Reps V _ (s.xs.take j.toNat).flatten
      rw [flatten_take hk]
      exact hvr.take _
    · show match s.pub with | true => _ | false => _
      rw [hp]
      exact hm
   have hr1 := rel_own_new (V1 := V) hr hs hpin (fun ad e => by rw [hv] at e; cases e) (v1 := (.slice (some ⟨g, 0, none⟩) j.toNat c, some g)) (s1 := { s with xs := s.xs.take j.toNat })
    ⟨rfl, rfl, rfl, Nat.le_refl _, fun _ _ _ => rfl⟩ (.refl V) hr.sees (fun _ _ _ h => .inl h) (fun _ _ h => h) (fun q hq => .inl (by rw [hv]; exact hq)) hsl hL hO
   exact ⟨_, _, _, hrun, h, rel_put hr1 hd (by show _ = (updG γ n _ n).1; rw [updG_same])⟩
 · rcases hp' with hp' | hp'
   · rw [hp] at hp'; cases hp'
   · obtain ⟨_, _, b3, _⟩ := hb (by rw [hp']; exact Nat.zero_le _)
     rw [hp'] at b3; simp at b3
/-! ### copy -/
noncomputable def dstWin (O : List (Nat × Blk)) (d : Base) (k : Nat → Nat → Nat → OwnS → Prop) : Prop :=
 match d with
 | .own n => match look n O with
   | some (.sl s) => match s.pub with
     | true => False
     | false => s.xs ≠ [] ∧ k n 0 s.xs.length s
   | _ => False
 | .win n m i j => match look n O with
   | some (.sl s) => match s.pub with
     | true => False
     | false => (s.k = m ∧ i < j ∧ j ≤ s.xs.length) ∧ k n i j s
   | _ => False
 | _ => False
noncomputable def srcWin (O : List (Nat × Blk)) (d : Base) (k : List (List D) → Prop) : Prop :=
 match seqB O d with
 | some ys => k ys
 | none => dstWin O d fun _ i j s => k ((s.xs.take j).drop i)
noncomputable def vcCopy (T : List (Nat × TI)) (st : SSt) (dst : Option Nat) (td : TypeId) (d s : Base) (k : SSt → Prop) : Prop :=
 match look td T with
 | none => False
 | some ti => match ti.desc with
   | .slice e => match look e T with
     | none => False
     | some te => match Nat.beq te.size 1 with
       | false => False
       | true => dstWin st.O d fun n i j os => srcWin st.O s fun ys => (ys ≠ [] ∧ i < j ∧ os.k = 1 ∧ ∀ ds ∈ ys, ds.length = 1) ∧
          setO n (.sl { os with xs := setRun os.xs i (ys.take (j - i)) }) st.O fun O' => k (put { st with O := O' } dst (.d (.v (.int .i64 (Nat.min ys.length (j - i) : Nat)))))
   | _ => False
theorem flat1_len {xs : List (List D)} (h : ∀ ds ∈ xs, ds.length = 1) : xs.flatten.length = xs.length := by rw [flatten_len h, Nat.mul_one]
theorem flat1_get {xs : List (List D)} (h : ∀ ds ∈ xs, ds.length = 1) (i : Nat) : xs.flatten[i]? = (xs[i]?).bind (·.head?) := by
 cases hx : xs[i]? with
 | none =>
   have := List.getElem?_eq_none_iff.1 hx
   rw [List.getElem?_eq_none (by rw [flat1_len h]; omega)]; rfl
 | some ds =>
   have hl := h ds (List.mem_of_getElem? hx)
   obtain ⟨d, rfl⟩ := List.length_eq_one_iff.1 hl
   have := flatten_get h (i := i) (j := 0) hx rfl
   rw [Nat.mul_one, Nat.add_zero] at this
   rw [this]; rfl
theorem flat1_win {xs : List (List D)} (h : ∀ ds ∈ xs, ds.length = 1) (i j : Nat) : ((xs.take j).drop i).flatten = (xs.flatten.take j).drop i := by
 apply List.ext_getElem?
 intro q
 rw [flat1_get (fun ds hd => h ds (List.mem_of_mem_take (List.mem_of_mem_drop hd)))]
 simp only [List.getElem?_drop, List.getElem?_take]
 split
 · rw [flat1_get h]
 · rfl
theorem flat1_setRun {xs ys : List (List D)} (h : ∀ ds ∈ xs, ds.length = 1) (h' : ∀ ds ∈ ys, ds.length = 1) {i : Nat} (hi : i + ys.length ≤ xs.length) : (setRun xs i ys).flatten = setRun xs.flatten i ys.flatten := by
 apply List.ext_getElem?
 intro q
 rw [flat1_get (setRun_all h h'), setRun_get _ _ _ _ hi, setRun_get _ _ _ _ (by rw [flat1_len h, flat1_len h']; exact hi), flat1_len h']
 split
 · rw [flat1_get h']
 · rw [flat1_get h]
/-- a window of a private row: its block and its cells -/
theorem dstWin_run (ho : OwnOk γ V W st.O) {b : Base} {x : Value} (hx : RVb γ V b x) {kk : Nat → Nat → Nat → OwnS → Prop} (h : dstWin st.O b kk) :
 ∃ n i j s, kk n i j s ∧ look n st.O = some (.sl s) ∧ s.pub = false ∧ i < j ∧ j ≤ s.xs.length ∧ ∃ g m c vals c', γ n = (.slice (some ⟨g, 0, none⟩) m c, some g) ∧ W.ownsRow 0 s.e s.k (.slice (some ⟨g, 0, none⟩) m c) s.xs.length vals ∧ (∀ ds ∈ s.xs, ds.length = s.k) ∧ Reps V vals s.xs.flatten ∧
   (∀ u ∈ vals, u.oneCell' = true) ∧ (∀ o, V.cell g o = none) ∧ x = .slice (some ⟨g, i * s.k, none⟩) (j - i) c' := by
 unfold dstWin at h
 split at h
 · rename_i n
   split at h
   case h_2 => exact h.elim
   rename_i s hs
   split at h
   · exact h.elim
   rename_i hp
   rcases ho n _ hs with ⟨g, m, c, vals, hv, hown, hk, hvr, h1, hm⟩ | ⟨hp', _⟩
   · rw [hp] at hm
     rw [hv] at hown
     obtain ⟨cur, hn, _⟩ := own_cap hown
     refine ⟨n, 0, s.xs.length, s, h.2, hs, hp, List.length_pos_iff.2 h.1, Nat.le_refl _, g, m, c, vals, c, hv, hown, hk, hvr, h1, hm, ?_⟩
     rw [show x = (γ n).1 from hx, hv, Nat.zero_mul, Nat.sub_zero, ← hn]
   · rcases hp' with e | e
     · rw [hp] at e; cases e
     · exact absurd e h.1
 · rename_i n m' i j
   split at h
   case h_2 => exact h.elim
   rename_i s hs
   split at h
   · exact h.elim
   rename_i hp
   obtain ⟨⟨rfl, hij, hj⟩, h⟩ := h
   rcases ho n _ hs with ⟨g, m, c, vals, hv, hown, hk, hvr, h1, hm⟩ | ⟨hp', _⟩
   · rw [hp] at hm
     rw [hv] at hown
     obtain ⟨g', m2, c2, e1, e2⟩ := hx
     rw [hv] at e1
     obtain ⟨rfl, rfl, rfl⟩ : g = g' ∧ m = m2 ∧ c = c2 := by simpa using e1
     exact ⟨n, i, j, s, h, hs, hp, hij, hj, g, m, c, vals, _, hv, hown, hk, hvr, h1, hm, e2⟩
   · rcases hp' with e | e
     · rw [hp] at e; cases e
     · rw [e] at hj; simp at hj; omega
 · exact h.elim
theorem srcWin_run (hs : Sees V W) (ho : OwnOk γ V W st.O) {b : Base} {x : Value} (hx : RVb γ V b x) {kk : List (List D) → Prop} (h : srcWin st.O b kk) :
 ∃ ys, kk ys ∧ (ys ≠ [] → (∀ ds ∈ ys, ds.length = 1) → ∃ us a c, x = .slice (some a) ys.length c ∧ Reps V us ys.flatten ∧ (∀ u ∈ us, u.oneCell' = true) ∧ ∀ j u, us[j]? = some u → W.cell? (a.add j) = some u) := by
 unfold srcWin at h
 split at h
 · rename_i ys hys
   refine ⟨ys, h, fun hne hk => ?_⟩
   obtain ⟨us, h1, h2, h3⟩ := sl_cells (seqB_rep ho hys hx) hk
   rcases h3 with ⟨_, e⟩ | ⟨b, o, c, rfl, h3⟩
   · exact absurd e hne
   · exact ⟨us, _, c, rfl, h1, h2, fun j u hj => by rw [addr_add]; exact hs.cell _ _ _ (h3 j u hj)⟩
 · obtain ⟨n, i, j, s, hkk, hl, hp, hij, hj, g, m, c, vals, c', hv, hown, hk, hvr, h1, hm, rfl⟩ := dstWin_run ho hx h
   refine ⟨_, hkk, fun hne hk1 => ?_⟩
   have hsk : s.k = 1 := by
    cases hz : (s.xs.take j).drop i with
    | nil => exact absurd hz hne
    | cons z zs =>
      have hmem : z ∈ (s.xs.take j).drop i := by rw [hz]; exact List.mem_cons_self ..
      rw [← hk z (List.mem_of_mem_take (List.mem_of_mem_drop hmem)), hk1 z hmem]
   rw [hsk] at hk
   refine ⟨(vals.take j).drop i, ⟨g, i * s.k, none⟩, c', by simp; omega, ?_, fun u hu => h1 u (List.mem_of_mem_take (List.mem_of_mem_drop hu)), fun q u hq => ?_⟩
   · rw [flat1_win hk]
     exact (hvr.take j).drop i
   · rw [List.getElem?_drop, List.getElem?_take] at hq
     split at hq
     · have := hown.cells (g := g) rfl _ u hq
       rw [addr_add] at this ⊢
       rwa [hsk, Nat.mul_one, ← Nat.zero_add (i + q)]
     · cases hq
theorem vcCopy_run (hT : TOk P T) (hr : Rel C γ st V a W) {dst : Option Nat} (hd : ∀ t, dst = some t → t < C.N) {td ts rt : TypeId} {d s : Base} {dv sv : Value} (hdv : RVb γ V d dv) (hsv : RVb γ V s sv) (h : vcCopy T st dst td d s k) :
 ∃ v W' st', (Builtin.copy_ #[td, ts] rt #[dv, sv]).run P W = .ok v W' ∧ k st' ∧ Rel C γ st' V (a.put dst v) W' := by
 unfold vcCopy at h
 split at h
 · exact h.elim
 rename_i ti hti
 split at h
 case h_2 => exact h.elim
 rename_i e hdsc
 split at h
 · exact h.elim
 rename_i te hte
 split at h
 · exact h.elim
 rename_i hsz
 have hsz := Nat.eq_of_beq_eq_true hsz
 obtain ⟨n, i, j, os, h, hl, hp, hij, hj, g, m, c, vals, c', hv, hown, hk, hvr, h1, hnone, rfl⟩ := dstWin_run hr.own hdv h
 obtain ⟨ys, h, hsrc⟩ := srcWin_run hr.sees hr.own hsv h
 obtain ⟨⟨hne, _, hk1, hy1⟩, h⟩ := h
 obtain ⟨O', h, hO⟩ := setO_run h
 obtain ⟨us, ad, sc, rfl, hur, hu1, huc⟩ := hsrc hne hy1
 rw [hk1] at hk hown
 obtain ⟨cur, rfl, hh, hnc, hcm, hcs', htake, hvl⟩ := own_cap hown
 rw [Nat.mul_one] at hcs' htake hvl
 have hul : us.length = ys.length := by rw [hur.len, flat1_len hy1]
 obtain ⟨ii, hi, hs, hby, hzero⟩ := hT.info hte
 have hcl : (us.take (j - i)).length = Nat.min ys.length (j - i) := by rw [List.length_take, hul, Nat.min_comm]
 have hcl' : (us.take (j - i)).length ≤ j - i := by rw [List.length_take]; exact Nat.min_le_left _ _
 have hyl : (ys.take (j - i)).length = (us.take (j - i)).length := by rw [List.length_take, List.length_take, hul]
 have hrun := run_copy_row P W td ts rt e g i (j - i) c' ad ys.length sc cur os.e (us.take (j - i)) (by rw [hT.row hti, hdsc]) (by rw [hi, Option.map_some, hs, hsz]) hh hcl (fun q u hq => by
  rw [List.getElem?_take] at hq
  split at hq
  · exact huc q u hq
  · cases hq) (by omega) (fun u hu => hu1 u (List.mem_of_mem_take hu))
 rw [hk1, Nat.mul_one]
 have hyt : ∀ ds ∈ ys.take (j - i), ds.length = 1 := fun ds hd => hy1 ds (List.mem_of_mem_take hd)
 have hr' : Rel C γ { st with O := O' } V a (W.setRow g (setRun cur.toList i (us.take (j - i))).toArray) := by
  refine rel_write hr (setRow_grown W g _) (fun _ e h => by cases e; rw [hh] at h; cases h) (fun g' hg2 => ?_) (fun q y hy => ?_)
  · cases hg2
    refine ⟨hr.okb n _ hl g (by rw [hv]), fun o u hu => (by rw [hnone] at hu; cases hu), fun y hy => ?_⟩
    have := hr.sees.obj g y hy
    rw [hh] at this
    obtain ⟨_, _, e⟩ := this.2; rw [e] at this; cases this.1
  · rcases hO q y hy with ⟨rfl, rfl, _⟩ | ⟨hne, hlq⟩
    · refine .inl ⟨.inl ⟨g, _, c, setRun vals i (us.take (j - i)), hv, ?_, ?_, ?_, ?_, by simp only [hp]; exact hnone⟩, _, hl⟩
      · rw [hv]
        simp only [hk1, setRun_length]
        refine ⟨by rw [setRun_length, hvl, Nat.mul_one], .inr ⟨g, c, _, rfl, Nat.zero_le _, setRow_heap W g cur _ os.e _ hh, hnc, hcm, by simp [setRun_length, hcs'], ?_⟩⟩
        simp only
        rw [Nat.mul_one]
        apply List.ext_getElem?
        intro q
        rw [List.getElem?_take]
        have hcl3 : i + (us.take (j - i)).length ≤ cur.toList.length := by
         have := Array.length_toList (xs := cur)
         omega
        by_cases hj' : q < os.xs.length
        · rw [if_pos hj', setRun_get _ _ _ _ hcl3, setRun_get _ _ _ _ (by omega)]
          split
          · rfl
          · rw [← htake, List.getElem?_take, if_pos hj']
        · rw [if_neg hj', List.getElem?_eq_none (by rw [setRun_length, hvl]; omega)]
      · simp only [hk1]
        exact setRun_all hk hyt
      · simp only
        rw [flat1_setRun hk hyt (by omega)]
        refine hvr.setRun ?_ (by omega)
        have := flat1_win hy1 0 (j - i)
        simp only [List.drop_zero] at this
        rw [this]
        exact hur.take _
      · exact setRun_all h1 (fun u hu => hu1 u (List.mem_of_mem_take hu))
    · exact .inr ⟨hlq, fun g' hg2 hg3 => by cases hg2; exact hr.inj q n y _ hlq hl hne g hg3 (by rw [hv])⟩
 refine ⟨_, _, _, hrun, h, ?_⟩
 rw [setCells_split _ _ _ (by simp only [Array.length_toList]; omega)] at hr'
 refine rel_put hr' hd ?_
 rw [show (Nat.min ys.length (j - i) : Nat) = (us.take (j - i)).length from hcl.symm]
 refine Rep.v _ (wf_int.2 ?_)
 have : j ≤ maxLen := by omega
 simp only [maxLen] at this
 simp only [inKind]
 omega
/-! ### an aggregate with a resource's handle -/
noncomputable def fillB (O : List (Nat × Blk)) (place : Nat → Option (Nat × Nat)) (cells : List Base) : List (Nat × Base) → Option (List Base)
 | [] => some cells
 | (i, b) :: rest => match place i with
   | none => none
   | some (off, size) => match cellsB O b with
     | none => none
     | some cs => match Nat.beq cs.length size && Nat.ble (off + size) cells.length with
       | true => fillB O place (setRun cells off cs) rest
       | false => none
theorem fillB_rep (ho : OwnOk γ V W st.O) {place : Nat → Option (Nat × Nat)} : ∀ {is : List Nat} {vs : List Value} {bs : List Base} {us : List Value} {cells r : List Base}, is.length = vs.length → Vals γ V bs vs → All2 (RVb γ V) cells us → (∀ u ∈ us, u.oneCell' = true) →
 fillB st.O place cells (is.zip bs) = some r → ∃ w, fillL place us (is.zip vs) = some w ∧ All2 (RVb γ V) r w ∧ ∀ u ∈ w, u.oneCell' = true := by
 intro is
 induction is with
 | nil => intro vs ds us cells r hl _ hu h1 h; simp only [List.zip_nil_left, fillB, Option.some.injEq] at h; subst h; exact ⟨us, rfl, hu, h1⟩
 | cons i is ih =>
   intro vs ds us cells r hl hv hu h1 h
   match vs, ds, hl, hv with
   | [], _, hl, _ => simp at hl
   | v :: vs, [], _, hv => have := hv.len; simp at this
   | v :: vs, d :: ds, hl, hv =>
     simp only [List.zip_cons_cons, fillB] at h
     split at h
     · cases h
     rename_i off size hp
     split at h
     · cases h
     rename_i cs hcs
     split at h
     case h_2 => cases h
     rename_i hb
     obtain ⟨h3, h4⟩ := cellsB_run hcs ho hv.head
     have hlen := h3.len
     simp only [Bool.and_eq_true] at hb
     have hle := Nat.le_of_ble_eq_true hb.2
     have hsz : cs.length = size := Nat.eq_of_beq_eq_true hb.1
     obtain ⟨w, hw, hr, ho⟩ := ih (us := Dx.setRun us off (cellsL v)) (by simpa using hl) hv.tail (hu.setRun h3 (by rw [hsz]; exact hle)) (setRun_all h1 h4) h
     refine ⟨w, ?_, hr, ho⟩
     simp only [List.zip_cons_cons, fillL, hp]
     rw [← hlen, ← hu.len, hb.1, hb.2]
     exact hw
def rawD1 (v : Value) : Option D := match v with | .slice none n c => some (.raw (.slice none n c)) | v => litD v
def rawDs : List Value → Option (List D)
 | [] => some []
 | v :: vs => match rawD1 v with
   | some d => match rawDs vs with
     | some ds => some (d :: ds)
     | none => none
   | none => none
theorem rawDs_rep (V : Know) : ∀ {vs : List Value} {ds : List D}, rawDs vs = some ds → Reps V vs ds ∧ ∀ v ∈ vs, v.oneCell' = true := by
 intro vs
 induction vs with
 | nil => intro ds h; cases h; exact ⟨.nil V, by simp⟩
 | cons v vs ih =>
   intro ds h
   simp only [rawDs] at h
   split at h
   case h_2 => cases h
   rename_i d hd
   split at h
   case h_2 => cases h
   rename_i es hes
   cases h
   have h12 : Rep V v d ∧ v.oneCell' = true := by
    unfold rawD1 at hd
    split at hd
    · cases hd; exact ⟨.raw _ rfl, rfl⟩
    · exact litD_rep hd V
   obtain ⟨h1, h2⟩ := h12
   obtain ⟨h3, h4⟩ := ih hes
   exact ⟨.cons h1 h3, by simpa using ⟨h2, h4⟩⟩
def capsOf : List Base → Option (List Cap)
 | [] => some []
 | .loc n o :: r => match capsOf r with | some q => some (.loc n o :: q) | none => none
 | .d d :: r => match capsOf r with | some q => some (.dat d :: q) | none => none
 | _ :: _ => none
theorem capsOf_run : ∀ {bs : List Base} {cs : List Cap} {xs : List Value}, capsOf bs = some cs → All2 (RVb γ V) bs xs → All2 (CapR γ V) cs xs := by
 intro bs
 induction bs with
 | nil => intro cs xs h hx; cases h; obtain rfl := hx.nil_l; exact .nil
 | cons b bs ih =>
   intro cs xs h hx
   obtain ⟨x, xs', rfl, hx1, hx2⟩ := hx.cons_l
   unfold capsOf at h
   split at h
   · rename_i e; cases e
   · rename_i e
     cases e
     split at h
     case h_2 => cases h
     rename_i q hq
     cases h
     exact .cons hx1 (ih hq hx2)
   · rename_i e
     cases e
     split at h
     case h_2 => cases h
     rename_i q hq
     cases h
     exact .cons hx1 (ih hq hx2)
   · cases h
def zerosOf (raw : Bool) (vs : List Value) : Option (List D) := match raw with | true => rawDs vs | false => litDs vs
theorem zerosOf_rep (V : Know) {raw : Bool} {vs : List Value} {ds : List D} (h : zerosOf raw vs = some ds) : Reps V vs ds ∧ ∀ v ∈ vs, v.oneCell' = true := by
 cases raw with
 | true => exact rawDs_rep V h
 | false => exact litDs_rep V h
/-- where the parts of an aggregate lie -/
noncomputable def placesOf (T : List (Nat × TI)) (d : TypeDesc) : Option (Nat → Option (Nat × Nat)) :=
 match d with
 | .struct fs => match fieldPlaces T fs.toList with
   | none => none
   | some pl => some fun i => (pl.drop i).head?
 | .array _ e => match look e T with
   | some te => some fun i => some (i * te.size, te.size)
   | none => none
 | _ => none
noncomputable def vcBuildO (raw : Bool) (T : List (Nat × TI)) (st : SSt) (dst : Option Nat) (ty : TypeId) (parts : Array (Nat × Operand)) (bs : List Base) (k : SSt → Prop) : Prop :=
 match look ty T with
 | none => False
 | some ti => match zerosOf raw (cellsL ti.zero) with
   | none => False
   | some zd => match placesOf T ti.desc with
     | none => False
     | some pl => match fillB st.O pl (zd.map .d) ((parts.toList.map (·.1)).zip bs) with
        | none => False
        | some r => match agOf r with
          | some (p, n, q) => k (put st dst (.ag p n q))
          | none => match capsOf r with
            | some cs => k (put st dst (.agl cs))
            | none => False
theorem vcBuildO_run {raw : Bool} (hT : TOk P T) (hr : Rel C γ st V a W) {dst : Option Nat} (hd : ∀ t, dst = some t → t < C.N) {ty : TypeId} {parts : Array (Nat × Operand)} {bs : List Base} {ρ : Operand → Value} (hx : Vals γ V bs ((Op.build ty parts).operands.toList.map ρ)) (h : vcBuildO raw T st dst ty parts bs k) :
 ∃ v st', (Instr.build ty (parts.map fun (x : Nat × Operand) => (x.1, ρ x.2))).run P W = .ok v W ∧ k st' ∧ Rel C γ st' V (a.put dst v) W := by
 unfold vcBuildO at h
 split at h
 · exact h.elim
 rename_i ti hti
 split at h
 · exact h.elim
 rename_i zd hzd
 split at h
 · exact h.elim
 rename_i pl hpl
 split at h
 · exact h.elim
 rename_i r hr'
 have hzc : ti.zero.cells = (cellsL ti.zero).toArray := by rw [← cellsL_eq]
 have hparts : (parts.map fun (x : Nat × Operand) => (x.1, ρ x.2)).toList = (parts.toList.map (·.1)).zip ((Op.build ty parts).operands.toList.map ρ) ∧ (parts.toList.map (·.1)).length = ((Op.build ty parts).operands.toList.map ρ).length := by
  simp only [Op.operands, Array.toList_map, List.map_map]
  exact ⟨(zip_parts ρ parts.toList).symm, by simp⟩
 obtain ⟨hp1, hp2⟩ := hparts
 obtain ⟨hz1, hz2⟩ := zerosOf_rep V hzd
 have hz3 : All2 (RVb γ V) (zd.map .d) (cellsL ti.zero) := ⟨by simp [hz1.len], fun i b u hb hu => by
  simp only [List.getElem?_map] at hb
  cases hl : zd[i]? with
  | none => rw [hl] at hb; cases hb
  | some d0 => rw [hl] at hb; cases hb; exact hz1.get i u d0 hu hl⟩
 obtain ⟨w, hw, hwr, hw1⟩ := fillB_rep hr.own hp2 hx hz3 hz2 hr'
 have hf := fill_eq _ _ _ _ hw
 have key : (Instr.build ty (parts.map fun (x : Nat × Operand) => (x.1, ρ x.2))).run P W = .ok (.agg ⟨w⟩) W := by
  unfold placesOf at hpl
  split at hpl
  · rename_i fs hdsc
    split at hpl
    · cases hpl
    rename_i pl' hpl'
    cases hpl
    have hpr := places_run hT W _ _ hpl'
    simp only [bind_pure_comp] at hpr
    have hpa : (Array.mapM (fun f => Prod.mk f.offset <$> Go.sizeOf f.type) fs).run P W = .ok pl'.toArray W := by
     rw [Array.mapM_eq_mapM_toList]
     simp [hpr]
    have hg : (fun i : Nat => pl'.toArray[i]?) = fun i => (pl'.drop i).head? := by funext i; simp
    simp only [Instr.build, bind_pure_comp, Sem.run_bind, hT.zeroValue hti W, Result.andThen_ok, hT.under hti W, hdsc, hpa]
    rw [hp1, hzc, hg, hf]
    simp
  · rename_i n e hdsc
    split at hpl
    case h_2 => cases hpl
    rename_i te hte
    cases hpl
    simp only [Instr.build, Sem.run_bind, hT.zeroValue hti W, Result.andThen_ok, hT.under hti W, hdsc, hT.sizeOf hte W]
    rw [hp1, hzc, hf]
    simp
  · cases hpl
 split at h
 · rename_i p n q hag
   obtain ⟨us, ws, e, r1, r2, r3⟩ := agOf_run hag hwr hw1
   exact ⟨_, _, key, h, rel_put hr hd ⟨us, ws, by rw [e], r1, r2, r3⟩⟩
 · split at h
   · rename_i cs hcs
     exact ⟨_, _, key, h, rel_put hr hd ⟨w, rfl, capsOf_run hcs hwr, hw1⟩⟩
   · exact h.elim
/-! ### an aggregate whose slices that are left out stay what they are -/
def dOf : List Base → Option (List D)
 | [] => some []
 | .d d :: r => match dOf r with
   | some ds => some (d :: ds)
   | none => none
 | _ => none
theorem dOf_run : ∀ {bs : List Base} {ds : List D} {xs : List Value}, dOf bs = some ds → All2 (RVb γ V) bs xs → Reps V xs ds := by
 intro bs
 induction bs with
 | nil => intro ds xs h hx; cases h; obtain rfl := hx.nil_l; exact .nil V
 | cons b bs ih =>
   intro ds xs h hx
   obtain ⟨x, xs', rfl, hx1, hx2⟩ := hx.cons_l
   unfold dOf at h
   split at h
   · rename_i e; cases e
   · rename_i d r e
     cases e
     split at h
     case h_2 => cases h
     rename_i es hes
     cases h
     exact .cons hx1 (ih hes hx2)
   · cases h
noncomputable def vcBuildR (T : List (Nat × TI)) (st : SSt) (dst : Option Nat) (ty : TypeId) (parts : Array (Nat × Operand)) (bs : List Base) (k : SSt → Prop) : Prop :=
 match look ty T with
 | none => False
 | some ti => match rawDs (cellsL ti.zero) with
   | none => False
   | some zd => match ti.desc with
     | .struct fs => match fieldPlaces T fs.toList with
       | none => False
       | some pl => match fillB st.O (fun i => (pl.drop i).head?) (zd.map .d) ((parts.toList.map (·.1)).zip bs) with
         | none => False
         | some r => match dOf r with
           | some ds => k (put st dst (.d (.agg ds)))
           | none => False
     | _ => False
theorem vcBuildR_run (hT : TOk P T) (hr : Rel C γ st V a W) {dst : Option Nat} (hd : ∀ t, dst = some t → t < C.N) {ty : TypeId} {parts : Array (Nat × Operand)} {bs : List Base} {ρ : Operand → Value} (hx : Vals γ V bs ((Op.build ty parts).operands.toList.map ρ)) (h : vcBuildR T st dst ty parts bs k) :
 ∃ v st', (Instr.build ty (parts.map fun (x : Nat × Operand) => (x.1, ρ x.2))).run P W = .ok v W ∧ k st' ∧ Rel C γ st' V (a.put dst v) W := by
 unfold vcBuildR at h
 split at h
 · exact h.elim
 rename_i ti hti
 split at h
 · exact h.elim
 rename_i zd hzd
 split at h
 case h_2 => exact h.elim
 rename_i fs hdsc
 split at h
 · exact h.elim
 rename_i pl hpl
 split at h
 · exact h.elim
 rename_i r hr'
 split at h
 case h_2 => exact h.elim
 rename_i es hag
 have hzc : ti.zero.cells = (cellsL ti.zero).toArray := by rw [← cellsL_eq]
 have hparts : (parts.map fun (x : Nat × Operand) => (x.1, ρ x.2)).toList = (parts.toList.map (·.1)).zip ((Op.build ty parts).operands.toList.map ρ) ∧ (parts.toList.map (·.1)).length = ((Op.build ty parts).operands.toList.map ρ).length := by
  simp only [Op.operands, Array.toList_map, List.map_map]
  exact ⟨(zip_parts ρ parts.toList).symm, by simp⟩
 obtain ⟨hp1, hp2⟩ := hparts
 obtain ⟨hz1, hz2⟩ := rawDs_rep V hzd
 have hz3 : All2 (RVb γ V) (zd.map .d) (cellsL ti.zero) := ⟨by simp [hz1.len], fun i b u hb hu => by
  simp only [List.getElem?_map] at hb
  cases hl : zd[i]? with
  | none => rw [hl] at hb; cases hb
  | some d0 => rw [hl] at hb; cases hb; exact hz1.get i u d0 hu hl⟩
 obtain ⟨w, hw, hwr, hw1⟩ := fillB_rep hr.own hp2 hx hz3 hz2 hr'
 have hrr := dOf_run hag hwr
 have hf := fill_eq _ _ _ _ hw
 have hpr := places_run hT W _ _ hpl
 simp only [bind_pure_comp] at hpr
 have hpa : (Array.mapM (fun f => Prod.mk f.offset <$> Go.sizeOf f.type) fs).run P W = .ok pl.toArray W := by
  rw [Array.mapM_eq_mapM_toList]
  simp [hpr]
 have hg : (fun i : Nat => pl.toArray[i]?) = fun i => (pl.drop i).head? := by funext i; simp
 have key : (Instr.build ty (parts.map fun (x : Nat × Operand) => (x.1, ρ x.2))).run P W = .ok (.agg ⟨w⟩) W := by
  simp only [Instr.build, bind_pure_comp, Sem.run_bind, hT.zeroValue hti W, Result.andThen_ok, hT.under hti W, hdsc, hpa]
  rw [hp1, hzc, hg, hf]
  simp
 exact ⟨_, _, key, h, rel_put hr hd (Rep.agg _ _ hrr.len hw1 hrr.get)⟩
end Go.Proofs.YtedjnaggkakphaaGreatDoor.Dx
