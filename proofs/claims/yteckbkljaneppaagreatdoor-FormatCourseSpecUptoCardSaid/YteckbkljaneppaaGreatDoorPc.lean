/- strconv.Itoa by the shelf's contract. -/
import Derived.Test.YteckbkljaneppaaGreatDoorMj
import Derived.Test.YteckbkljaneppaaGreatDoorSh
import Derived.Lib.ItoaLen
import Derived.Test.YteckbkljaneppaaGreatDoorMl
import Derived.Test.YteckbkljaneppaaGreatDoorPb
set_option linter.all false
namespace Go.Proofs.YteckbkljaneppaaGreatDoor.Dx
open Go Go.RowKit Go.Proofs Go.Sort
set_option maxRecDepth 100000
set_option maxHeartbeats 4000000
variable {γ : Gm} {V : Know} {W : World}
theorem tab_pow10 (hs : Sees V W) : Lib.TabIs Tryz.prog W "internal/strconv.uint64pow10" .u64 Lib.pow10Tab := by
 obtain ⟨e, he⟩ := hs.row
 have hg : Tryz.prog.globalNamed "internal/strconv.uint64pow10" = some 0 := by kernel_rfl
 unfold World.shape? at he
 split at he
 case h_2 => cases he
 rename_i cs e' fz hh
 simp only [Option.some.injEq, Prod.mk.injEq] at he
 unfold Lib.TabIs World.var?
 rw [hg]
 simp only [Option.bind_some, hh, Option.some.injEq]
 apply Array.ext_getElem?
 intro j
 have hp : Lib.pow10Tab = [1, 10, 100, 1000, 10000, 100000, 1000000, 10000000, 100000000, 1000000000, 10000000000, 100000000000, 1000000000000, 10000000000000, 100000000000000, 1000000000000000, 10000000000000000, 100000000000000000, 1000000000000000000, 10000000000000000000] := by decide
 rcases Nat.lt_or_ge j 20 with hj | hj
 · obtain ⟨z, hz⟩ : ∃ z, Lib.pow10Tab[j]? = some z := ⟨_, List.getElem?_eq_getElem (by rw [Lib.pow10Tab_length]; exact hj)⟩
   have h2 := hs.cell 0 j _ (hs.lib.2 j z (by rw [← hp]; exact hz))
   simp only [World.cell?, hh] at h2
   have h2 : cs[j]? = some (Value.int IntKind.u64 z) := h2
   rw [h2]
   simp [hz]
 · rw [Array.getElem?_eq_none (by omega)]
   simp [Lib.pow10Tab_length, hj]
theorem Sees.below (h : Sees V W) {W' : World} (hb : Below W.heap.size W W') : Sees V W' := by
 refine ⟨fun b o v hc => ?_, fun r x hx => ?_, h.lib, h.keepRow fun b o v hc => hb.block b (h.lt hc)⟩
 · exact (hb.cell (p := ⟨b, o, none⟩) (h.lt hc)).trans (h.cell b o v hc)
 · obtain ⟨h1, h2⟩ := h.obj r x hx
   exact ⟨(hb.block r (heap_lt h1)).trans h1, h2⟩
theorem below_gr (w : World) (k : Nat) (os : Array Obj) : Below w.heap.size w (grow (w.drewN k) os) :=
 ⟨rfl, rfl, rfl, by simp [grow], fun j hj => by simp only [grow]; exact Array.getElem?_append_left hj⟩
theorem Itoa_meets (n : Int) : Meets Tryz.prog 66 [.v (.int .i64 n)] fun d => d = .str (Lib.itoa n) := by
 refine ⟨⟨⟨_, _, Tryz.func66, rfl, by kernel_rfl⟩, fun γ V W xs hs hv ho hi => ?_⟩⟩
 obtain ⟨x, xs', rfl, hx, hv'⟩ := hv.cons_l
 obtain rfl := hv'.nil_l
 obtain ⟨rfl, hn⟩ := Rep.int_inv hx
 refine (Tryz.strconv_Itoa n hn.1 hn.2 W (tab_pow10 hs)).mono ?_
 rintro e W' ⟨rfl, k, os, rfl⟩
 have hb := below_gr W k os
 have hl : (Lib.itoa n).length ≤ maxLen := by have := Lib.itoa_length_le n hn.1 hn.2; unfold maxLen; omega
 exact ⟨γ, V, .ret (.d (.str (Lib.itoa n))), [], Rep.str _ hl, .of hb, .refl _ _ _, hs.below hb, fun n b h => (by rw [look_nil] at h; cases h), fun n b h => (by rw [look_nil] at h; cases h), fun n n' b b' h => (by rw [look_nil] at h; cases h),
  fun _ _ _ _ => rfl, _, rfl, rfl, rfl⟩
end Go.Proofs.YteckbkljaneppaaGreatDoor.Dx
/- strings.Builder inside of a greater box: Len's contract. -/
namespace Go.Proofs.YteckbkljaneppaaGreatDoor.Dx
open Go Go.RowKit
set_option maxRecDepth 100000
set_option maxHeartbeats 8000000
theorem SubC_refl : ∀ l : List Cap, SubC l l
 | [] => trivial
 | .loc n o :: r => ⟨by simp, SubC_refl r⟩
 | .dat d :: r => ⟨rfl, SubC_refl r⟩
theorem SubB_refl (O : List (Nat × Blk)) (b : Base) : SubB O b b := by
 cases b with
 | d x => cases x <;> first | rfl | trivial
 | full xs => rfl
 | loc n o => exact ⟨by simp, rfl⟩
 | own n => show Nat.beq n n = true; simp
 | oel n k i r => exact ⟨by simp, rfl, rfl, rfl⟩
 | win n k i r => exact ⟨by simp, rfl, rfl, rfl⟩
 | ag p n q => exact ⟨by simp, rfl, rfl⟩
 | fn F fs cs => exact ⟨rfl, SubC_refl _, SubC_refl _⟩
 | junk => trivial
theorem SubBs_refl (O : List (Nat × Blk)) : ∀ l : List Base, SubBs O l l
 | [] => trivial
 | b :: r => ⟨SubB_refl O b, SubBs_refl O r⟩
theorem meets_Len {ty : TypeId} {rest : List Base} (c : Base) (l : List UInt8) :
 MeetsR Tryz.prog 33 [.loc 1000 0] [(1000, .box (c :: .own 1001 :: rest) ty), (1001, .sl (builtD l))] fun o O' => o = .ret (iB l.length) ∧ O' = [(1000, .box (c :: .own 1001 :: rest) ty), (1001, .sl (builtD l))] := by
 refine enterR tok {} Tryz.func33 rfl (by kernel_rfl) Tryz.ntmps33 (by simp) fun B0 W0 V0 lent g0 => ?_
 ((conv => whnf); repeat' (refine Z rfl ?_; conv => whnf))
 intro hlq
 ((conv => whnf); repeat' (refine Z rfl ?_; conv => whnf))
 refine ⟨[(1000, .box (c :: .own 1001 :: rest) ty), (1001, .sl (builtD l))], iB l.length, ⟨?_, ?_, rfl⟩, ?_⟩
 · show SubB _ (iB l.length) (iB (builtD l).xs.length)
   rw [show (builtD l).xs.length = l.length from bytesD_length l]
   exact SubB_refl _ _
 · exact ⟨⟨rfl, SubBs_refl _ _⟩, ⟨rfl, rfl, rfl, rfl⟩, trivial⟩
 · exact ⟨rfl, rfl⟩
theorem Ko {E : Prop} (h : E := by (repeat' (first | exact True.intro | exact rfl | refine And.intro ?_ ?_)) <;> exact SubB_refl _ _) : E := h
end Go.Proofs.YteckbkljaneppaaGreatDoor.Dx
/- format's printer: put. -/
namespace Go.Proofs.YteckbkljaneppaaGreatDoor.Dx
open Go Go.RowKit
set_option maxRecDepth 100000
set_option maxHeartbeats 8000000
inductive Item where
 | s (l : List UInt8)
 | i (n : Int)
def Item.d : Item → D
 | .s l => .iface 9 (.str l)
 | .i n => .iface 3 (.v (.int .i64 n))
def Item.text : Item → List UInt8
 | .s l => l
 | .i n => Lib.itoa n
def textOf (l : List Item) : List UInt8 := l.flatMap Item.text
abbrev prO (rest : List Base) (ty : TypeId) (l : List UInt8) : List (Nat × Blk) := [(1000, .box (.loc 1000 0 :: .own 1001 :: rest) ty), (1001, .sl (builtD l))]
theorem closedR_pr {ty : TypeId} {rest : List Base} (hrd : ∀ b ∈ rest, ∃ d, b = .d d) (d : D) (l : List UInt8) : closedR (.d d) (prO rest ty l) = true := by
 have h : (rest.all fun c => (keysOf c).all (hasK (prO rest ty l))) = true := List.all_eq_true.2 fun b hb => by
  obtain ⟨d, rfl⟩ := hrd b hb
  rfl
 show (true && ((true && (true && (rest.all fun c => (keysOf c).all (hasK (prO rest ty l))))) && (true && true))) = true
 rw [h]; rfl
abbrev rr (r : Nat → D) : List Base := [.d (r 0), .d (r 1), .d (r 2), .d (r 3), .d (r 4), .d (r 5), .d (r 6), .d (r 7), .d (r 8), .d (r 9), .d (r 10), .d (r 11), .d (r 12), .d (r 13), .d (r 14), .d (r 15)]
theorem rr_d (r : Nat → D) : ∀ b ∈ rr r, ∃ d, b = .d d := by
 intro b hb
 simp only [rr, List.mem_cons, List.not_mem_nil, or_false] at hb
 rcases hb with rfl | rfl | rfl | rfl | rfl | rfl | rfl | rfl | rfl | rfl | rfl | rfl | rfl | rfl | rfl | rfl <;> exact ⟨_, rfl⟩
abbrev cfG83 : Cfg := {rs := [22, 31]}
theorem put_meets {ty : TypeId} (r : Nat → D) (l : List UInt8) (hl : l ≠ []) (items : List Item) (hlen : l.length + (textOf items).length ≤ 140737488355328) :
 MeetsR Tryz.prog 27 [.loc 1000 0, .d (.sl (items.map fun x => [x.d]))] (prO (rr r) ty l) fun o O' => o = .ret (.d (.tup [])) ∧ O' = prO (rr r) ty (l ++ textOf items) := by
 refine enterR tok cfG83 Tryz.func27 rfl (by kernel_rfl) Tryz.ntmps27 (by simp) fun B0 W0 V0 lent g0 => ?_
 ((conv => whnf); repeat' (refine Y cfG83 rfl ?_; conv => whnf))
 repeat' ((first | (intro hlq; (try simp only [SL] at hlq)) | refine Ka ?_ | refine Kb ?_ | refine Kc (hd := rfl) (e := ?_) | refine Kc (hd := Cond.cells_eq _) (e := ?_) | refine Kd (e := ?_) | refine Kl rfl ?_ | fail) <;> ((conv => whnf); repeat' (refine Y cfG83 rfl ?_; conv => whnf)))
 refine loop_upd tok cfG83 [] (X := Nat × List UInt8) (fun s => [(10, iB s.1)]) (fun s => prO (rr r) ty s.2) [] (fun s => s.1 ≤ items.length ∧ s.2 ≠ [] ∧ s.2 ++ textOf (items.drop s.1) = l ++ textOf items) (fun s => items.length - s.1) (0, l) ?_
 ((conv => whnf); repeat' (refine Y cfG83 rfl ?_; conv => whnf))
 refine And.intro ?_ ⟨⟨by omega, hl, rfl⟩, fun s hΦ => ?_⟩
 · repeat' (first | exact True.intro | exact rfl | refine And.intro ?_ ?_)
   all_goals exact SubB_refl _ _
 obtain ⟨i, xs⟩ := s
 obtain ⟨hi, hx0, heq⟩ := hΦ
 dsimp only at hi hx0 heq
 ((conv => whnf); repeat' (refine Y cfG83 rfl ?_; conv => whnf))
 refine ⟨fun h1 => ?_, fun h1 => ?_⟩ <;> (try simp only [BL] at h1) <;> ((conv => whnf); repeat' (refine Y cfG83 rfl ?_; conv => whnf))
 · have h1' : i < items.length := by omega
   rw [List.drop_eq_getElem_cons h1', textOf, List.flatMap_cons, ← textOf] at heq
   have hlx : xs.length + (items[i].text.length + (textOf (items.drop (i + 1))).length) ≤ 140737488355328 := by
    have := congrArg List.length heq
    simp only [List.length_append] at this
    omega
   repeat' ((first | (intro hlq; (try simp only [SL] at hlq)) | refine Ka ?_ | refine Kb ?_ | refine Kc (hd := rfl) (e := ?_) | refine Kc (hd := Cond.cells_eq _) (e := ?_) | refine Kd (e := ?_) | refine Kl rfl ?_ | fail) <;> ((conv => whnf); repeat' (refine Y cfG83 rfl ?_; conv => whnf)))
   dsimp only
   generalize items[i] = w at heq hlx ⊢
   cases w with
   | s t =>
     simp only [Item.text] at heq hlx
     repeat' ((first | (intro hlq; (try simp only [SL] at hlq)) | refine Ka ?_ | refine Kb ?_ | refine Kc (hd := rfl) (e := ?_) | refine Kc (hd := Item.d _) (e := ?_) | refine Kd (e := ?_) | refine Kl rfl ?_ | fail) <;> ((conv => whnf); repeat' (refine Y cfG83 rfl ?_; conv => whnf)))
     ((conv => whnf); repeat' (refine Y cfG83 rfl ?_; conv => whnf))
     ((conv => whnf); repeat' (refine Y cfG83 rfl ?_; conv => whnf))
     ((conv => whnf); repeat' (refine Y cfG83 rfl ?_; conv => whnf))
     refine ⟨prO (rr r) ty xs, _, ⟨?_, ?_⟩, (meets_WriteString 1000 1001 (by decide) (rr_d r) xs t hx0 (by omega)).mono ?_⟩
     · exact Kr
     · repeat' (first | exact True.intro | exact rfl | refine And.intro ?_ ?_)
       all_goals exact SubB_refl _ _
     rintro o O' ⟨rfl, rfl⟩
     dsimp only
     rw [closedR_pr (rr_d r)]
     ((conv => whnf); repeat' (refine Y cfG83 rfl ?_; conv => whnf))
     refine ⟨fun _ => by simp only [inKind] at *; omega, ?_⟩
     ((conv => whnf); repeat' (refine Y cfG83 rfl ?_; conv => whnf))
     refine ⟨⟨(i + 1, xs ++ t), ?_, ⟨by dsimp only; omega, by simp [hx0], by dsimp only; rw [List.append_assoc]; exact heq⟩, by dsimp only; omega⟩⟩
     repeat' (first | exact True.intro | exact rfl | refine And.intro ?_ ?_)
     all_goals exact SubB_refl _ _
   | i n =>
     simp only [Item.text] at heq hlx
     repeat' ((first | (intro hlq; (try simp only [SL] at hlq)) | refine Ka ?_ | refine Kb ?_ | refine Kc (hd := rfl) (e := ?_) | refine Kc (hd := Item.d _) (e := ?_) | refine Kd (e := ?_) | refine Kl rfl ?_ | fail) <;> ((conv => whnf); repeat' (refine Y cfG83 rfl ?_; conv => whnf)))
     ((conv => whnf); repeat' (refine Y cfG83 rfl ?_; conv => whnf))
     ((conv => whnf); repeat' (refine Y cfG83 rfl ?_; conv => whnf))
     ((conv => whnf); repeat' (refine Y cfG83 rfl ?_; conv => whnf))
     refine draw_rule tok (cf := cfG83) (by kernel_rfl) [.p 0, .p 1, .p 2, .p 3, .s 4 [3], .s 5 [2,1,0]] (by kernel_rfl) ?_
     ((conv => whnf); repeat' (refine Y cfG83 rfl ?_; conv => whnf))
     ((conv => whnf); repeat' (refine Y cfG83 rfl ?_; conv => whnf))
     refine Meets.k (Itoa_meets n) ?_
     ((conv => whnf); repeat' (refine Y cfG83 rfl ?_; conv => whnf))
     iterate 3 (try refine Kl rfl ?_)
     ((conv => whnf); repeat' (refine Y cfG83 rfl ?_; conv => whnf))
     refine ⟨prO (rr r) ty xs, _, ⟨?_, ?_⟩, (meets_WriteString 1000 1001 (by decide) (rr_d r) xs (Lib.itoa n) hx0 (by omega)).mono ?_⟩
     · exact Kr
     · repeat' (first | exact True.intro | exact rfl | refine And.intro ?_ ?_)
       all_goals exact SubB_refl _ _
     rintro o O' ⟨rfl, rfl⟩
     dsimp only
     rw [closedR_pr (rr_d r)]
     ((conv => whnf); repeat' (refine Y cfG83 rfl ?_; conv => whnf))
     refine ⟨fun _ => by simp only [inKind] at *; omega, ?_⟩
     ((conv => whnf); repeat' (refine Y cfG83 rfl ?_; conv => whnf))
     refine ⟨⟨(i + 1, xs ++ Lib.itoa n), ?_, ⟨by dsimp only; omega, by simp [hx0], by dsimp only; rw [List.append_assoc]; exact heq⟩, by dsimp only; omega⟩⟩
     repeat' (first | exact True.intro | exact rfl | refine And.intro ?_ ?_)
     all_goals exact SubB_refl _ _
 · obtain rfl : i = items.length := by omega
   rw [List.drop_length] at heq
   have heq : xs = l ++ textOf items := by simpa [textOf] using heq
   subst heq
   exact ⟨prO (rr r) ty (l ++ textOf items), .d (.tup []), ⟨SubB_refl _ _, ⟨⟨rfl, SubBs_refl _ _⟩, ⟨rfl, rfl, rfl, rfl⟩, trivial⟩, rfl⟩, ⟨rfl, rfl⟩⟩
end Go.Proofs.YteckbkljaneppaaGreatDoor.Dx
