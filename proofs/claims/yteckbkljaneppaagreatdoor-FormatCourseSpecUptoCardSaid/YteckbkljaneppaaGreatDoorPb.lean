/- strings.Builder inside of a greater block: copyCheck, by hand over the model. -/
import Derived.Test.YteckbkljaneppaaGreatDoorMj
import Derived.Shelf.Strings.Builder1
import Derived.Test.YteckbkljaneppaaGreatDoorProg
import Derived.Lib.AppendStr
import Derived.Lib.UnsafeStr
set_option linter.all false
namespace Go.Proofs.YteckbkljaneppaaGreatDoor.Dx
open Go Go.RowKit Go.Proofs
set_option maxRecDepth 100000
set_option maxHeartbeats 4000000
theorem copyCheck_used (b : Nat) (w : World) (h0 : w.cell? ⟨b, 0, none⟩ = some (.pointer (some ⟨b, 0, none⟩))) :
 Calls Tryz.prog 136 #[.pointer (some ⟨b, 0, none⟩)] w fun e w' => e = .returned (.tuple #[]) ∧ w' = w := by
 obtain ⟨j, hj, _⟩ := Option.map_eq_some_iff.1 (show (Tryz.prog.info? 68).map (·.size) = some 2 by kernel_rfl)
 have t72 := Tryz.underlying68; have a72 := Tryz.isAgg68; have z72 := Tryz.sizeOf68; have v72 := Tryz.zeroValue68; have u72 := run_underlying Tryz.underlying68
 have t70 := Tryz.underlying66; have a70 := Tryz.isAgg66; have z70 := Tryz.sizeOf66; have v70 := Tryz.zeroValue66; have u70 := run_underlying Tryz.underlying66
 have t9 := Tryz.underlying9; have a9 := Tryz.isAgg9; have z9 := Tryz.sizeOf9; have v9 := Tryz.zeroValue9; have u9 := run_underlying Tryz.underlying9
 have t4 := Tryz.underlying4; have a4 := Tryz.isAgg4; have z4 := Tryz.sizeOf4; have v4 := Tryz.zeroValue4; have u4 := run_underlying Tryz.underlying4
 go_enter Tryz.func136, Tryz.ntmps136
 go_wp2
 rw [Lib.run_neq_ptr_same w _ Tryz.underlying66 hj]
 go_wp2
 go_end0
 exact ⟨rfl, rfl⟩
theorem copyCheck_fresh (b : Nat) (w : World) {e : TypeId} {n : Nat} (h0 : w.cell? ⟨b, 0, none⟩ = some (.pointer none)) (hsh : w.shape? b = some (e, n)) (hn : 0 < n) (hl : liesAt Tryz.prog Tryz.prog.depth e (n / Tryz.prog.cellsOf e) 0 68 1 = true) (hfz : w.frozen? ⟨b, 0, none⟩ = false) :
 Calls Tryz.prog 136 #[.pointer (some ⟨b, 0, none⟩)] w fun e w' => e = .returned (.tuple #[]) ∧ w' = w.setCell ⟨b, 0, none⟩ (.pointer (some ⟨b, 0, none⟩)) := by
 obtain ⟨j, hj, hjs⟩ := Option.map_eq_some_iff.1 (show (Tryz.prog.info? 68).map (·.size) = some 2 by kernel_rfl)
 have t72 := Tryz.underlying68; have a72 := Tryz.isAgg68; have z72 := Tryz.sizeOf68; have v72 := Tryz.zeroValue68; have u72 := run_underlying Tryz.underlying68
 have t70 := Tryz.underlying66; have a70 := Tryz.isAgg66; have z70 := Tryz.sizeOf66; have v70 := Tryz.zeroValue66; have u70 := run_underlying Tryz.underlying66
 have t9 := Tryz.underlying9; have a9 := Tryz.isAgg9; have z9 := Tryz.sizeOf9; have v9 := Tryz.zeroValue9; have u9 := run_underlying Tryz.underlying9
 have t4 := Tryz.underlying4; have a4 := Tryz.isAgg4; have z4 := Tryz.sizeOf4; have v4 := Tryz.zeroValue4; have u4 := run_underlying Tryz.underlying4
 go_enter Tryz.func136, Tryz.ntmps136
 go_wp2
 rw [Lib.run_to_unsafe w ⟨b, 0, none⟩ Tryz.underlying66 Tryz.underlying210 hj (by rw [hjs]; decide) hsh hn]
 simp only [Result.andThen]
 rw [Oper.upon_value]
 go_wp2
 rw [run_callFunc_extern Tryz.func177 (by kernel_rfl) (by kernel_rfl) (by kernel_rfl) (e := Extern.AbiNoEscape.same) (by kernel_rfl)]
 rw [Lib.run_noEscape]
 simp only [Result.andThen]
 rw [Oper.upon_value]
 go_wp2
 rw [Lib.run_from_unsafe w ⟨b, 0, none⟩ Tryz.underlying210 Tryz.underlying66 hj hsh hl]
 simp only [Result.andThen]
 rw [Oper.upon_value]
 go_wp2
 go_end0
 exact ⟨rfl, rfl⟩
end Go.Proofs.YteckbkljaneppaaGreatDoor.Dx
/- strings.Builder inside of a greater block: WriteString, by hand over the model. -/
namespace Go.Proofs.YteckbkljaneppaaGreatDoor.Dx
open Go Go.RowKit Go.Proofs
set_option maxRecDepth 100000
set_option maxHeartbeats 4000000
theorem append_str_run {P : Program} (w : World) (t u ty e : TypeId) (i : TypeInfo) (ht : P.underlying t = some (.slice e)) (hu : P.underlying u = some .string) (hi : P.info? e = some i) (hz : i.zero = some (.int .u8 0))
 (hsize : i.size = 1) (hby : i.bytes = 1)
 (v : Value) (n : Nat) (xs : List Value) (hown : w.ownsRow 0 e 1 v n xs) (s : ByteArray)
 (h63 : n + s.size ≤ maxLen) (hbytes : n + s.size ≤ 140737488355328) :
 ∃ v' w', (Builtin.append_ #[t, u] ty #[v, .string s]).run P w = .ok v' w' ∧ w'.ownsRow 0 e 1 v' (n + s.size) (xs ++ Lib.strCells s) ∧ w.grownBy w' v.ownBlock ∧
   (∀ g, v'.ownBlock = some g → v.ownBlock = some g ∨ w.heap.size ≤ g) := by
 have hsmall : n + s.size ≤ 9223372036854775807 := by simp only [maxLen] at h63; omega
 obtain ⟨v', w', hr, h1, h2, h3⟩ := Lib.run_append_own_string (P := P) w 0 t u ty e i ht hu hi hz hsize hby v n xs hown s h63 hbytes (Nat.zero_le _)
 refine ⟨v', w', hr, h1, h2, fun g hg => ?_⟩
 have hxl : xs.length = n := by simpa using hown.1
 rcases hown.2 with ⟨rfl, rfl⟩ | ⟨g0, cap, cur, rfl, hbg, hh, hnc, hcm, hcs, htake⟩
 · obtain ⟨v2, w2, hr2, k1, _⟩ := Lib.run_append_own_string (P := P) w w.heap.size t u ty e i ht hu hi hz hsize hby (.slice none 0 0) 0 xs ⟨hown.1, .inl ⟨rfl, rfl⟩⟩ s h63 hbytes (Nat.le_refl _)
   rw [hr] at hr2; cases hr2
   rcases k1.2 with ⟨rfl, _⟩ | ⟨g1, _, _, rfl, hb1, _⟩
   · cases hg
   · cases hg; exact .inr hb1
 · by_cases hroom : n + s.size ≤ cap
   · have hcs' : cur.size = cap := by simpa using hcs
     have hr2 := Lib.run_append_room_string (P := P) w t u ty e i ht hu hi hsize g0 n cap cur hh s hroom (by omega)
     rw [hr] at hr2; cases hr2
     exact .inl hg
   · have holds : ∀ j u, xs[j]? = some u → w.cell? ((⟨g0, 0, none⟩ : Addr).add j) = some u := hown.cells (g := g0) rfl
     have hr2 := Lib.run_append_grow_string (P := P) w t u ty e i (.int .u8 0) ht hu hi hz ⟨g0, 0, none⟩ n cap xs (by rw [hsize]; simpa using hxl) holds s (by omega) (by omega) (by rw [hby]; exact growslice_fits (by omega) (by omega))
     rw [hr] at hr2; cases hr2
     cases hg; exact .inr (Nat.le_refl _)
def BufOk (w : World) (v : Value) (n : Nat) (xs : List Value) (s : ByteArray) (row : Option Nat) : Prop :=
 (row = v.ownBlock ∧ w.ownsRow 0 5 1 v n xs) ∨ (row = none ∧ s.size ≠ 0 ∧ n = 0 ∧ xs = [] ∧ ∃ a, v = .slice (some a) 0 0)
theorem append_str_any {P : Program} (w : World) (t u ty : TypeId) (i : TypeInfo) (ht : P.underlying t = some (.slice 5)) (hu : P.underlying u = some .string) (hi : P.info? 5 = some i) (hz : i.zero = some (.int .u8 0))
 (hsize : i.size = 1) (hby : i.bytes = 1)
 (v : Value) (n : Nat) (xs : List Value) (s : ByteArray) (row : Option Nat) (hown : BufOk w v n xs s row)
 (h63 : n + s.size ≤ maxLen) (hbytes : n + s.size ≤ 140737488355328) :
 ∃ v' w', (Builtin.append_ #[t, u] ty #[v, .string s]).run P w = .ok v' w' ∧ w'.ownsRow 0 5 1 v' (n + s.size) (xs ++ Lib.strCells s) ∧ w.grownBy w' row ∧
   (∀ g, v'.ownBlock = some g → row = some g ∨ w.heap.size ≤ g) := by
 rcases hown with ⟨rfl, h⟩ | ⟨rfl, h0, rfl, rfl, ad, rfl⟩
 · exact append_str_run w t u ty 5 i ht hu hi hz hsize hby v n xs h s h63 hbytes
 · have hr := Lib.run_append_grow_string (P := P) w t u ty 5 i (.int .u8 0) ht hu hi hz ad 0 0 [] (by simp) (by simp) s (by omega) (by simp only [maxLen] at h63; omega) (by rw [hby]; exact growslice_fits (by omega) (by omega))
   have hlen : (Lib.strCells s).length = (0 + s.size) * 1 := by rw [Lib.strCells_length]; omega
   refine ⟨_, _, hr, ⟨hlen, .inr ⟨w.heap.size, _, _, rfl, Nat.zero_le _, heap_alloc_new w.drew _, grownCap_ge w (0 + s.size) 0 5, grownCap_le_maxLen w (0 + s.size) 0 5 h63, ?_, ?_⟩⟩, ⟨rfl, rfl, rfl, by simp, fun k hk _ => heap_alloc_old w.drew _ hk⟩, fun g hg => ?_⟩
   · have hge := grownCap_ge w (0 + s.size) 0 5
     have hz1 : (Value.int IntKind.u8 0).cells.size = 1 := rfl
     simp only [Array.size_append, List.size_toArray, size_zeroCells, hz1, Lib.strCells_length, List.length_nil]
     omega
   · simp only [Array.toList_append, List.append_assoc, List.nil_append]
     rw [← hlen]
     exact List.take_left
   · cases hg; exact .inr (Nat.le_refl _)
theorem wp_append_str {P : Program} {w : World} {ops : Array Oper} {rest : List Oper} {o : Oper} {a : Act} {Q : Exit → Act → World → Prop} (hgd : o.guard = none) (sl x : Operand) (t u : TypeId)
 (ho : o.op = .call { callee := .builtin .append, args := #[sl, x], argTypes := #[t, u] })
 (i : TypeInfo) (ht : P.underlying t = some (.slice 5)) (hu : P.underlying u = some .string) (hi : P.info? 5 = some i) (hz : i.zero = some (.int .u8 0))
 (hsize : i.size = 1) (hby : i.bytes = 1)
 (v : Value) (n : Nat) (xs : List Value) (hs : a.eval sl = v) (s : ByteArray) (row : Option Nat) (hown : BufOk w v n xs s row) (hx : a.eval x = .string s)
 (h63 : n + s.size ≤ maxLen) (hbytes : n + s.size ≤ 140737488355328)
 (h : ∀ v' w', w'.ownsRow 0 5 1 v' (n + s.size) (xs ++ Lib.strCells s) → w.grownBy w' row → (∀ g, v'.ownBlock = some g → row = some g ∨ w.heap.size ≤ g) → wpList P ops Q rest (a.put o.dst v') w') : wpList P ops Q (o :: rest) a w := by
 refine wpList_plain hgd fun K hK => ?_
 obtain ⟨v', w', hr, h2, h3, h4⟩ := append_str_any (P := P) w t u o.type i ht hu hi hz hsize hby v n xs s row hown h63 hbytes
 unfold Oper.wp execOp
 simp only [ho, resolve, invoke, builtin, Sem.run_bind, Sem.run_pure, Result.andThen_ok, List.map_toArray, List.map_cons, List.map_nil, hs, hx, hr]
 exact hK _ _ (h v' w' h2 h3 h4)
theorem setCell_row {w : World} {b : Nat} {cs : Array Value} {ty : TypeId} {fz : Nat × Nat} (h : w.heap[b]? = some (.cells cs ty fz)) (o : Nat) (v : Value) : (w.setCell ⟨b, o, none⟩ v).heap[b]? = some (.cells (cs.setIfInBounds o v) ty fz) := by
 simp [World.setCell, Array.getElem?_modify, h]
theorem writeString_w (b : Nat) (w : World) (cs : Array Value) (T : TypeId) (p v : Value) (n : Nat) (xs : List Value) (s : ByteArray)
 (hbk : w.heap[b]? = some (.cells cs T (0, 0))) (h0 : cs[0]? = some p) (h1 : cs[1]? = some v)
 (hp : p = .pointer (some ⟨b, 0, none⟩) ∨ (p = .pointer none ∧ liesAt Tryz.prog Tryz.prog.depth T (cs.size / Tryz.prog.cellsOf T) 0 68 1 = true))
 (row : Option Nat) (hown : BufOk w v n xs s row) (hne : row ≠ some b) (hlen : n + s.size ≤ 140737488355328) (hcap : n + s.size ≤ maxLen) :
 Calls Tryz.prog 65 #[.pointer (some ⟨b, 0, none⟩), .string s] w fun e w' => e = .returned (.tuple #[.int .i64 s.size, .nilIface]) ∧ ∃ v' w1 w2, (w1 = w ∨ w1 = w.setCell ⟨b, 0, none⟩ (.pointer (some ⟨b, 0, none⟩))) ∧
  w1.grownBy w2 row ∧ w2.heap[b]? = some (.cells (cs.setIfInBounds 0 (.pointer (some ⟨b, 0, none⟩))) T (0, 0)) ∧ w2.ownsRow 0 5 1 v' (n + s.size) (xs ++ Lib.strCells s) ∧ (∀ g, v'.ownBlock = some g → row = some g ∨ w.heap.size ≤ g) ∧
  w' = w2.setCell ⟨b, 1, none⟩ v' := by
 obtain ⟨i0, hi, hz0, hz1, hz2⟩ := info_parts (show (Tryz.prog.info? 5).map (fun i => (i.zero, i.size, i.bytes)) = some (some (.int .u8 0), 1, 1) by kernel_rfl)
 have t72 := Tryz.underlying68; have a72 := Tryz.isAgg68; have z72 := Tryz.sizeOf68; have v72 := Tryz.zeroValue68; have u72 := run_underlying Tryz.underlying68
 have t70 := Tryz.underlying66; have a70 := Tryz.isAgg66; have z70 := Tryz.sizeOf66; have v70 := Tryz.zeroValue66; have u70 := run_underlying Tryz.underlying66
 have t37 := Tryz.underlying36; have a37 := Tryz.isAgg36; have z37 := Tryz.sizeOf36; have v37 := Tryz.zeroValue36; have u37 := run_underlying Tryz.underlying36
 have t9 := Tryz.underlying9; have a9 := Tryz.isAgg9; have z9 := Tryz.sizeOf9; have v9 := Tryz.zeroValue9; have u9 := run_underlying Tryz.underlying9
 have t5 := Tryz.underlying5; have a5 := Tryz.isAgg5; have z5 := Tryz.sizeOf5; have v5 := Tryz.zeroValue5; have u5 := run_underlying Tryz.underlying5
 have t3 := Tryz.underlying3; have a3 := Tryz.isAgg3; have z3 := Tryz.sizeOf3; have v3 := Tryz.zeroValue3; have u3 := run_underlying Tryz.underlying3
 have t4 := Tryz.underlying4; have a4 := Tryz.isAgg4; have z4 := Tryz.sizeOf4; have v4 := Tryz.zeroValue4; have u4 := run_underlying Tryz.underlying4
 have e240 : ∀ args w, (callFunc 136 args).run Tryz.prog w = .ok (.enter 136 args) w := enters_of Tryz.func136 (by kernel_rfl) rfl
 have hsz : 1 < cs.size := by
  rcases Nat.lt_or_ge 1 cs.size with h | h
  · exact h
  · rw [Array.getElem?_eq_none h] at h1; cases h1
 have hcc : Calls Tryz.prog 136 #[.pointer (some ⟨b, 0, none⟩)] w fun e w' => e = .returned (.tuple #[]) ∧ (w' = w ∨ w' = w.setCell ⟨b, 0, none⟩ (.pointer (some ⟨b, 0, none⟩))) ∧ w'.heap[b]? = some (.cells (cs.setIfInBounds 0 (.pointer (some ⟨b, 0, none⟩))) T (0, 0)) := by
  have c0 : w.cell? ⟨b, 0, none⟩ = some p := by simp only [World.cell?, hbk]; exact h0
  rcases hp with rfl | ⟨rfl, hl⟩
  · refine (copyCheck_used b w c0).mono ?_
    rintro e w' ⟨rfl, rfl⟩
    refine ⟨rfl, .inl rfl, ?_⟩
    rw [hbk]
    congr 2
    apply Array.ext_getElem?
    intro j
    rw [Array.getElem?_setIfInBounds]
    split
    · rename_i e; subst e; rw [if_pos (by omega), h0]
    · rfl
  · refine (copyCheck_fresh b w c0 (e := T) (n := cs.size) (by simp [World.shape?, hbk]) (by omega) hl (Lib.frozen_of_heap hbk 0)).mono ?_
    rintro e w' ⟨rfl, rfl⟩
    exact ⟨rfl, .inr rfl, setCell_row hbk 0 _⟩
 go_enter Tryz.func65, Tryz.ntmps65
 go_wp2_with (go_at_fn 136; refine hcc.mono ?_)
 rintro e w1 ⟨rfl, hw1, hb1⟩
 have c1 : w1.cell? ⟨b, 1, none⟩ = some v := by
  simp only [World.cell?, hb1]
  rw [Array.getElem?_setIfInBounds_ne (by decide)]; exact h1
 have hown1 : BufOk w1 v n xs s row := by
  rcases hw1 with rfl | rfl
  · exact hown
  · rcases hown with ⟨rfl, h⟩ | h
    · exact .inl ⟨rfl, ownsRow_setCell_other h (a := ⟨b, 0, none⟩) hne _⟩
    · exact .inr h
 have hsz1 : w1.heap.size = w.heap.size := by
  rcases hw1 with rfl | rfl
  · rfl
  · exact World.size_setCell ..
 go_wp2_with (at_builtin; refine wp_append_str rfl _ _ 36 9 rfl i0 Tryz.underlying36 Tryz.underlying9 hi hz0 hz1 hz2 _ _ _ rfl s row hown1 rfl ?c3 ?c4 ?_)
 case c3 => exact hcap
 case c4 => exact hlen
 intro v' w2 hown' hgrow hblk
 have hlt : b < w1.heap.size := World.block_lt_of_cell? w1 _ c1
 have hb2 : w2.heap[b]? = some (.cells (cs.setIfInBounds 0 (.pointer (some ⟨b, 0, none⟩))) T (0, 0)) := by
  rw [hgrow.block b hlt (fun e => hne e.symm)]
  exact hb1
 have d1 : w2.cell? ⟨b, 1, none⟩ = some v := by
  simp only [World.cell?, hb2]
  rw [Array.getElem?_setIfInBounds_ne (by decide)]; exact h1
 have f1 : w2.frozen? ⟨b, 1, none⟩ = false := Lib.frozen_of_heap hb2 1
 obtain ⟨ao, n', cap, rfl⟩ : ∃ ao n' cap, v' = .slice ao n' cap := by
  rcases hown'.2 with ⟨hv, _⟩ | ⟨g, cap, cur, hv, _⟩
  · exact ⟨_, _, _, hv⟩
  · exact ⟨_, _, _, hv⟩
 go_wp2
 go_ret2
 exact ⟨rfl, _, w1, w2, hw1, hgrow, hb2, hown', fun g hg => hblk g hg, rfl⟩
end Go.Proofs.YteckbkljaneppaaGreatDoor.Dx
/- strings.Builder inside of a greater box: WriteString's contract. -/
namespace Go.Proofs.YteckbkljaneppaaGreatDoor.Dx
open Go Go.RowKit Go.Proofs
set_option maxRecDepth 100000
set_option maxHeartbeats 4000000
variable {γ : Gm} {V : Know} {W : World}
def bytesD (l : List UInt8) : List (List D) := l.map fun b => [.v (.int .u8 b.toNat)]
theorem bytesD_length (l : List UInt8) : (bytesD l).length = l.length := by simp [bytesD]
theorem bytesD_k (l : List UInt8) : ∀ ds ∈ bytesD l, ds.length = 1 := by
 intro ds h
 simp only [bytesD, List.mem_map] at h
 obtain ⟨b, _, rfl⟩ := h
 rfl
theorem bytesD_flat (l : List UInt8) : (bytesD l).flatten = l.map fun b => D.v (.int .u8 b.toNat) := by
 induction l with
 | nil => rfl
 | cons b l ih => rw [bytesD, List.map_cons, List.flatten_cons]; rw [show (List.map (fun b : UInt8 => [D.v (.int .u8 b.toNat)]) l).flatten = (bytesD l).flatten from rfl, ih]; rfl
theorem bytesD_vals {vals : List Value} : ∀ {l : List UInt8}, Reps V vals (bytesD l).flatten → vals = Lib.byteCells l := by
 intro l h
 rw [bytesD_flat] at h
 apply List.ext_getElem?
 intro i
 cases hb : l[i]? with
 | none =>
   have h1 : l.length ≤ i := List.getElem?_eq_none_iff.1 hb
   have h2 := h.len
   rw [List.length_map] at h2
   rw [List.getElem?_eq_none (by omega), List.getElem?_eq_none (by rw [Lib.byteCells_length]; omega)]
 | some b =>
   obtain ⟨u, hu, hr⟩ := h.at (i := i) (d := .v (.int .u8 b.toNat)) (by rw [List.getElem?_map, hb]; rfl)
   rw [hu, hr.v_inv.1, Lib.byteCells, List.getElem?_map, hb]; rfl
theorem bytesD_reps (V : Know) (l : List UInt8) : Reps V (Lib.byteCells l) (bytesD l).flatten := by
 rw [bytesD_flat]
 refine ⟨by simp [Lib.byteCells], fun i u d hu hd => ?_⟩
 rw [Lib.byteCells, List.getElem?_map] at hu
 rw [List.getElem?_map] at hd
 cases hb : l[i]? with
 | none => rw [hb] at hu; cases hu
 | some b =>
   rw [hb] at hu hd
   cases hu; cases hd
   exact Rep.int ⟨by omega, by have := b.toNat_lt; omega⟩
theorem ws_core {ty : TypeId} {rest : List Base} {L : List Nat} (n m : Nat) (hnm : n ≠ m) (hs : Sees V W) {blk : Nat} {cs : Array Value} (hg : γ n = (.pointer (some ⟨blk, 0, none⟩), some blk)) (hh : W.heap[blk]? = some (.cells cs ty (0, 0)))
 {c0 v : Value} {cr : List Value} (hcs : cs.toList = c0 :: v :: cr) (hr : All2 (RVb γ V) rest cr) (hrd : ∀ b ∈ rest, ∃ d, b = .d d) (h1 : ∀ u ∈ cs.toList, u.oneCell' = true) (hvn : ∀ o, V.cell blk o = none)
 (l s : List UInt8) (row : Option Nat) (hbuf : BufOk W v l.length (Lib.byteCells l) ⟨⟨s⟩⟩ row) (hrow : ∀ g, row = some g → g ≠ blk ∧ (∀ o, V.cell g o = none) ∧ (∃ cur e fz, W.heap[g]? = some (.cells cur e fz)) ∧ g ∈ L) (hL : blk ∈ L)
 (hp : c0 = .pointer (some ⟨blk, 0, none⟩) ∨ (c0 = .pointer none ∧ liesAt Tryz.prog Tryz.prog.depth ty (cs.size / Tryz.prog.cellsOf ty) 0 68 1 = true))
 (hlen : l.length + s.length ≤ 140737488355328) (hne : l ++ s ≠ []) :
 Calls Tryz.prog 65 #[.pointer (some ⟨blk, 0, none⟩), .string ⟨⟨s⟩⟩] W fun e W' => ∃ γ', e = .returned (.tuple #[.int .i64 s.length, .nilIface]) ∧ BelowX L W.heap.size W W' ∧ Sees V W' ∧
  OwnOk γ' V W' [(n, .box (.loc n 0 :: .own m :: rest) ty), (m, .sl ⟨5, 1, bytesD (l ++ s), false⟩)] ∧ γ' n = γ n ∧ (∃ g', (γ' m).2 = some g' ∧ g' ≠ blk ∧ (row = some g' ∨ W.heap.size ≤ g')) := by
 have hblt := heap_lt hh
 have hsz : (⟨⟨s⟩⟩ : ByteArray).size = s.length := rfl
 refine (writeString_w blk W cs ty c0 v l.length (Lib.byteCells l) ⟨⟨s⟩⟩ hh (by rw [← Array.getElem?_toList, hcs]; rfl) (by rw [← Array.getElem?_toList, hcs]; rfl) hp row hbuf (fun e => (hrow blk e).1 rfl) (by rw [hsz]; exact hlen) (by rw [hsz]; unfold maxLen; omega)).mono ?_
 rintro e W' ⟨rfl, v', w1, w2, hw1, hgrow, hb2, hown', hblk, rfl⟩
 rw [hsz] at hown'
 have hs1 : w1.heap.size = W.heap.size := by
  rcases hw1 with rfl | rfl
  · rfl
  · exact World.size_setCell ..
 have hk1 : ∀ k, k ≠ blk → w1.heap[k]? = W.heap[k]? := by
  intro k hk
  rcases hw1 with rfl | rfl
  · rfl
  · exact Below.heap_setCell W _ _ k hk
 have hkeep : ∀ k, k < W.heap.size → k ≠ blk → row ≠ some k → (w2.setCell ⟨blk, 1, none⟩ v').heap[k]? = W.heap[k]? := by
  intro k hk hkb hkr
  rw [Below.heap_setCell w2 _ v' k hkb, hgrow.block k (by rw [hs1]; exact hk) (fun e => hkr e.symm), hk1 k hkb]
 have hlpos : 0 < l.length + s.length := by
  rcases Nat.eq_zero_or_pos (l.length + s.length) with h | h
  · exact absurd (List.eq_nil_of_length_eq_zero (by rw [List.length_append]; exact h)) hne
  · exact h
 have hbytes : Lib.byteCells l ++ Lib.strCells ⟨⟨s⟩⟩ = Lib.byteCells (l ++ s) := by rw [Lib.byteCells_append, Lib.strCells_eq]
 rw [hbytes] at hown'
 obtain ⟨g', cap, cur, rfl, -, hg', hnc, hcm, hcz, htk⟩ : ∃ g cap cur, v' = .slice (some ⟨g, 0, none⟩) (l.length + s.length) cap ∧ 0 ≤ g ∧ w2.heap[g]? = some (.cells cur 5 (0, 0)) ∧ l.length + s.length ≤ cap ∧ cap ≤ maxLen ∧ cur.size = cap * 1 ∧ cur.toList.take ((l.length + s.length) * 1) = Lib.byteCells (l ++ s) := by
  rcases hown'.2 with ⟨_, h0⟩ | h
  · omega
  · exact h
 have hgb := hblk g' rfl
 have hgne : g' ≠ blk := by
  rcases hgb with h | h
  · exact (hrow g' h).1
  · omega
 have hgcell : ∀ o, V.cell g' o = none := by
  rcases hgb with h | h
  · exact (hrow g' h).2.1
  · intro o
    cases hx : V.cell g' o with
    | none => rfl
    | some u => have := hs.lt hx; omega
 have hg2 : (w2.setCell ⟨blk, 1, none⟩ (.slice (some ⟨g', 0, none⟩) (l.length + s.length) cap)).heap[g']? = some (.cells cur 5 (0, 0)) := by
  rw [Below.heap_setCell w2 _ _ g' hgne]; exact hg'
 refine ⟨updG γ m (.slice (some ⟨g', 0, none⟩) (l.length + s.length) cap, some g'), by rw [hsz], ⟨?_, ?_, ?_, ?_, fun k hk hkl => hkeep k hk (fun e => hkl (e ▸ hL)) (fun e => hkl (hrow k e).2.2.2)⟩, ?_, ?_, updG_ne hnm, g', by rw [updG_same], hgne, hgb⟩
 · exact hgrow.os.trans (by rcases hw1 with rfl | rfl <;> rfl)
 · exact hgrow.tape.trans (by rcases hw1 with rfl | rfl <;> rfl)
 · exact hgrow.output.trans (by rcases hw1 with rfl | rfl <;> rfl)
 · rw [World.size_setCell, ← hs1]; exact hgrow.size
 · refine ⟨fun b o u hc => ?_, fun r x hx => ?_, hs.lib, hs.keepRow fun b o u hc => hkeep b (hs.lt hc) (fun e => by subst e; rw [hvn] at hc; cases hc) (fun e => by rw [(hrow b e).2.1] at hc; cases hc)⟩
   · have hb1 : b ≠ blk := fun e => by subst e; rw [hvn] at hc; cases hc
     have hb2 : row ≠ some b := fun e => by rw [(hrow b e).2.1] at hc; cases hc
     have := hs.cell b o u hc
     simp only [World.cell?, hkeep b (hs.lt hc) hb1 hb2] at this ⊢
     exact this
   · obtain ⟨q1, es, clock, rfl⟩ := hs.obj r x hx
     refine ⟨?_, es, clock, rfl⟩
     rw [hkeep r (heap_lt q1) (fun e => by subst e; rw [hh] at q1; cases q1) (fun e => by obtain ⟨_, _, ⟨_, _, _, q⟩, _⟩ := hrow r e; rw [q] at q1; cases q1)]
     exact q1
 · intro k b hl
   by_cases e : n = k
   · subst e
     rw [look_cons_eq] at hl
     cases hl
     rw [updG_ne hnm]
     have hcsz : cs.size = cr.length + 2 := by rw [← Array.length_toList, hcs]; rfl
     have hcl : ((cs.setIfInBounds 0 (.pointer (some ⟨blk, 0, none⟩))).setIfInBounds 1 (.slice (some ⟨g', 0, none⟩) (l.length + s.length) cap)).toList = .pointer (some ⟨blk, 0, none⟩) :: .slice (some ⟨g', 0, none⟩) (l.length + s.length) cap :: cr := by
      rw [Array.toList_setIfInBounds, Array.toList_setIfInBounds, hcs]; rfl
     refine ⟨blk, _, hg, setCell_row hb2 1 _, ?_, ?_, hvn⟩
     · rw [hcl]
       refine .cons ⟨blk, ?_, rfl⟩ (.cons ?_ (hr.imp fun b hb y hy => ?_))
       · rw [updG_ne hnm, hg]
       · show _ = (updG γ m _ m).1
         rw [updG_same]
       · obtain ⟨d, rfl⟩ := hrd b hb
         exact hy
     · rw [hcl]
       intro u hu
       rcases List.mem_cons.1 hu with rfl | hu
       · rfl
       · rcases List.mem_cons.1 hu with rfl | hu
         · rfl
         · exact h1 u (by rw [hcs]; exact List.mem_cons_of_mem _ (List.mem_cons_of_mem _ hu))
   · rw [look_cons_ne e] at hl
     by_cases e2 : m = k
     · subst e2
       rw [look_cons_eq] at hl
       cases hl
       rw [updG_same]
       refine .inl ⟨g', _, cap, Lib.byteCells (l ++ s), rfl, ?_, bytesD_k _, bytesD_reps V _, ?_, hgcell⟩
       · show World.ownsRow _ 0 5 1 _ (bytesD (l ++ s)).length _
         rw [bytesD_length, List.length_append]
         exact ⟨hown'.1, .inr ⟨g', cap, cur, rfl, Nat.zero_le _, hg2, hnc, hcm, hcz, htk⟩⟩
       · intro u hu
         simp only [Lib.byteCells, List.mem_map] at hu
         obtain ⟨b, _, rfl⟩ := hu
         rfl
     · rw [look_cons_ne e2, look_nil] at hl; cases hl
abbrev builtD (l : List UInt8) : OwnS := ⟨5, 1, bytesD l, false⟩
abbrev wroteD (s : List UInt8) : D := .tup [.v (.int .i64 s.length), .v .nilIface]
theorem wroteD_rep (V : Know) (s : List UInt8) (h : s.length ≤ 140737488355328) : Rep V (.tuple #[.int .i64 s.length, .nilIface]) (wroteD s) := by
 have h2 : Reps V [.int .i64 s.length, .nilIface] [.v (.int .i64 s.length), .v .nilIface] := .cons (Rep.int ⟨by omega, by omega⟩) (.cons (.v _ ⟨rfl, fun _ _ e => by cases e⟩) (.nil V))
 exact .tup _ _ h2.len h2.get
theorem meets_WriteString {ty : TypeId} {rest : List Base} (n m : Nat) (hnm : n ≠ m) (hrd : ∀ b ∈ rest, ∃ d, b = .d d) (l s : List UInt8) (hl : l ≠ []) (hlen : l.length + s.length ≤ 140737488355328) :
 MeetsR Tryz.prog 65 [.loc n 0, .d (.str s)] [(n, .box (.loc n 0 :: .own m :: rest) ty), (m, .sl (builtD l))] fun o O' => o = .ret (.d (wroteD s)) ∧ O' = [(n, .box (.loc n 0 :: .own m :: rest) ty), (m, .sl (builtD (l ++ s)))] := by
 refine ⟨⟨_, _, Tryz.func65, rfl, rfl⟩, fun γ V W xs hs hv ho hi => ?_⟩
 obtain ⟨x, xs', rfl, ⟨blk, hx, rfl⟩, hv'⟩ := hv.cons_l
 obtain ⟨y, xs'', rfl, hy, hv''⟩ := hv'.cons_l
 obtain rfl := hv''.nil_l
 obtain ⟨rfl, -⟩ := Rep.str_inv hy
 have hln := look_cons_eq n (Blk.box (.loc n 0 :: .own m :: rest) ty) [(m, Blk.sl (builtD l))]
 have hlm : look m [(n, Blk.box (.loc n 0 :: .own m :: rest) ty), (m, Blk.sl (builtD l))] = some (.sl (builtD l)) := by rw [look_cons_ne hnm, look_cons_eq]
 obtain ⟨blk', cs, hg, hh, hc, h1, hvn⟩ := ho n _ hln
 rw [hg] at hx; cases hx
 obtain ⟨c0, cs1, hcs, ⟨b2, hb2, rfl⟩, hr0⟩ := hc.cons_l
 rw [hg] at hb2; cases hb2
 obtain ⟨c1, cr, rfl, hc1, hr⟩ := hr0.cons_l
 obtain rfl : c1 = (γ m).1 := hc1
 rcases ho m _ hlm with ⟨g, nn, c, vals, hgm, hown, hk, hvals, hv1, hpub⟩ | ⟨h, _⟩
 rotate_left
 · rcases h with h | h
   · cases h
   · exact absurd (List.eq_nil_of_length_eq_zero (by rw [← bytesD_length, show bytesD l = [] from h]; rfl)) hl
 obtain rfl := bytesD_vals hvals
 have hpub : ∀ o, V.cell g o = none := hpub
 have hown : W.ownsRow 0 5 1 (γ m).1 l.length (Lib.byteCells l) := by rw [← bytesD_length l]; exact hown
 have hgne : g ≠ blk := fun e => hi n m _ _ hln hlm hnm blk (by rw [hg]) (by rw [hgm, e])
 obtain ⟨cur, -, hgc, -⟩ := own_cap (by rw [hgm] at hown; exact hown)
 refine (ws_core (L := blks γ [(n, Blk.box (.loc n 0 :: .own m :: rest) ty), (m, .sl (builtD l))]) n m hnm hs hg hh hcs hr hrd h1 hvn l s (some g) (.inl ⟨by rw [hgm]; rfl, hown⟩) ?_ ?_ (.inl rfl) hlen (by simp [hl])).mono ?_
 · intro g2 e
   cases e
   exact ⟨hgne, hpub, ⟨cur, 5, (0, 0), hgc⟩, List.mem_filterMap.2 ⟨(m, .sl (builtD l)), by simp, by rw [hgm]⟩⟩
 · exact List.mem_filterMap.2 ⟨(n, .box (.loc n 0 :: .own m :: rest) ty), by simp, by rw [hg]⟩
 · rintro e W' ⟨γ', rfl, a1, a2, a3, a4, g', a5, a6, a7⟩
   refine ⟨γ', V, .ret (.d (wroteD s)), _, wroteD_rep V s (by omega), a1, Fresh.refl V _ _, a2, a3, fun k b hkk q hq => ?_, fun k k' b b' hkk hkk' hne q hq => ?_, fun k b hkk hb => ?_, rfl, rfl⟩
   · by_cases e : n = k
     · subst e; rw [a4, hg] at hq; cases hq
       exact .inl (List.mem_filterMap.2 ⟨(n, .box (.loc n 0 :: .own m :: rest) ty), by simp, by rw [hg]⟩)
     · rw [look_cons_ne e] at hkk
       by_cases e2 : m = k
       · subst e2; rw [a5] at hq; cases hq
         rcases a7 with e | h
         · cases e; exact .inl (List.mem_filterMap.2 ⟨(m, .sl (builtD l)), by simp, by rw [hgm]⟩)
         · exact .inr h
       · rw [look_cons_ne e2, look_nil] at hkk; cases hkk
   · have two : ∀ {k b}, look k [(n, Blk.box (.loc n 0 :: .own m :: rest) ty), (m, Blk.sl (builtD (l ++ s)))] = some b → k = n ∨ k = m := by
      intro k b h
      by_cases e : n = k
      · exact .inl e.symm
      · rw [look_cons_ne e] at h
        by_cases e2 : m = k
        · exact .inr e2.symm
        · rw [look_cons_ne e2, look_nil] at h; cases h
     rcases two hkk with rfl | rfl <;> rcases two hkk' with rfl | rfl
     · exact absurd rfl hne
     · rw [a4, hg] at hq; cases hq
       rw [a5]; intro e; exact a6 (Option.some.inj e)
     · rw [a5] at hq; cases hq
       rw [a4, hg]; intro e; exact a6 (Option.some.inj e).symm
     · exact absurd rfl hne
   · by_cases e : n = k
     · subst e; exact a4
     · rw [look_cons_ne e] at hkk
       by_cases e2 : m = k
       · subst e2; rw [look_cons_eq] at hkk; cases hkk; cases hb
       · rw [look_cons_ne e2, look_nil] at hkk; cases hkk
theorem meets_WriteString_fresh {ty : TypeId} {rest : List Base} (n m : Nat) (hnm : n ≠ m) (hrd : ∀ b ∈ rest, ∃ d, b = .d d) (s : List UInt8) (hs0 : s ≠ []) (hlen : s.length ≤ 140737488355328)
 (hlie : liesAt Tryz.prog Tryz.prog.depth ty ((rest.length + 2) / Tryz.prog.cellsOf ty) 0 68 1 = true) :
 MeetsR Tryz.prog 65 [.loc n 0, .d (.str s)] [(n, .box (.d (.v (.pointer none)) :: .d (.raw (.slice none 0 0)) :: rest) ty)] fun o O' => o = .ret (.d (wroteD s)) ∧ O' = [(n, .box (.loc n 0 :: .own m :: rest) ty), (m, .sl (builtD s))] := by
 refine ⟨⟨_, _, Tryz.func65, rfl, rfl⟩, fun γ V W xs hs hv ho hi => ?_⟩
 obtain ⟨x, xs', rfl, ⟨blk, hx, rfl⟩, hv'⟩ := hv.cons_l
 obtain ⟨y, xs'', rfl, hy, hv''⟩ := hv'.cons_l
 obtain rfl := hv''.nil_l
 obtain ⟨rfl, -⟩ := Rep.str_inv hy
 have hln := look_cons_eq n (Blk.box (.d (.v (.pointer none)) :: .d (.raw (.slice none 0 0)) :: rest) ty) []
 obtain ⟨blk', cs, hg, hh, hc, h1, hvn⟩ := ho n _ hln
 rw [hg] at hx; cases hx
 obtain ⟨c0, cs1, hcs, hc0, hr0⟩ := hc.cons_l
 obtain ⟨rfl, -⟩ := Rep.v_inv hc0
 obtain ⟨c1, cr, rfl, hc1, hr⟩ := hr0.cons_l
 obtain rfl : c1 = .slice none 0 0 := by
  have hc1 : Rep V c1 (.raw (.slice none 0 0)) := hc1
  cases hc1; rfl
 have hcsz : cs.size = rest.length + 2 := by rw [← Array.length_toList, hcs, List.length_cons, List.length_cons, hr.len]
 refine (ws_core (L := blks γ [(n, Blk.box (.d (.v (.pointer none)) :: .d (.raw (.slice none 0 0)) :: rest) ty)]) n m hnm hs hg hh hcs hr hrd h1 hvn [] s none (.inl ⟨rfl, rfl, .inl ⟨rfl, rfl⟩⟩) (fun g e => by cases e) ?_ (.inr ⟨rfl, by rw [hcsz]; exact hlie⟩) (by simpa using hlen) (by simpa using hs0)).mono ?_
 · exact List.mem_filterMap.2 ⟨(n, .box (.d (.v (.pointer none)) :: .d (.raw (.slice none 0 0)) :: rest) ty), by simp, by rw [hg]⟩
 · rintro e W' ⟨γ', rfl, a1, a2, a3, a4, g', a5, a6, a7⟩
   have two : ∀ {k b}, look k [(n, Blk.box (.loc n 0 :: .own m :: rest) ty), (m, Blk.sl (builtD s))] = some b → k = n ∨ k = m := by
    intro k b h
    by_cases e : n = k
    · exact .inl e.symm
    · rw [look_cons_ne e] at h
      by_cases e2 : m = k
      · exact .inr e2.symm
      · rw [look_cons_ne e2, look_nil] at h; cases h
   refine ⟨γ', V, .ret (.d (wroteD s)), _, wroteD_rep V s (by omega), a1, Fresh.refl V _ _, a2, a3, fun k b hkk q hq => ?_, fun k k' b b' hkk hkk' hne q hq => ?_, fun k b hkk hb => ?_, rfl, rfl⟩
   · rcases two hkk with rfl | rfl
     · rw [a4, hg] at hq; cases hq
       exact .inl (List.mem_filterMap.2 ⟨(k, .box (.d (.v (.pointer none)) :: .d (.raw (.slice none 0 0)) :: rest) ty), by simp, by rw [hg]⟩)
     · rw [a5] at hq; cases hq
       rcases a7 with e | h
       · cases e
       · exact .inr h
   · rcases two hkk with rfl | rfl <;> rcases two hkk' with rfl | rfl
     · exact absurd rfl hne
     · rw [a4, hg] at hq; cases hq
       rw [a5]; intro e; exact a6 (Option.some.inj e)
     · rw [a5] at hq; cases hq
       rw [a4, hg]; intro e; exact a6 (Option.some.inj e).symm
     · exact absurd rfl hne
   · by_cases e : n = k
     · subst e; exact a4
     · rw [look_cons_ne e, look_nil] at hkk; cases hkk
end Go.Proofs.YteckbkljaneppaaGreatDoor.Dx
/- strings.Builder inside of a greater block: String, by hand over the model. -/
namespace Go.Proofs.YteckbkljaneppaaGreatDoor.Dx
open Go Go.RowKit Go.Proofs
set_option maxRecDepth 100000
set_option maxHeartbeats 4000000
theorem string_w (b g cap : Nat) (w : World) (cs cur : Array Value) (T : TypeId) (l : List UInt8) (h0 : l ≠ []) (hbk : w.heap[b]? = some (.cells cs T (0, 0))) (hc1 : cs[1]? = some (.slice (some ⟨g, 0, none⟩) l.length cap))
 (hg : w.heap[g]? = some (.cells cur 5 (0, 0))) (hown : w.ownsRow 0 5 1 (.slice (some ⟨g, 0, none⟩) l.length cap) l.length (Lib.byteCells l)) :
 Calls Tryz.prog 34 #[.pointer (some ⟨b, 0, none⟩)] w fun e w' => e = .returned (.string ⟨⟨l⟩⟩) ∧ w' = w.drew.freeze ⟨g, 0, none⟩ l.length := by
 have hl0 : l.length ≠ 0 := by simpa using h0
 obtain ⟨hnc, hcm, hcz⟩ : l.length ≤ cap ∧ cap ≤ maxLen ∧ cur.size = cap * 1 := by
  rcases hown.2 with ⟨h, _⟩ | ⟨g2, cap2, cur2, hv, _, hg2, r1, r2, r3, _⟩
  · cases h
  · cases hv
    rw [hg] at hg2; cases hg2
    exact ⟨r1, r2, r3⟩
 have c1 : w.drew.cell? ⟨b, 1, none⟩ = some (.slice (some ⟨g, 0, none⟩) l.length cap) := by
  have : w.drew.heap[b]? = some (.cells cs T (0, 0)) := hbk
  simp only [World.cell?, this]; exact hc1
 have hSD : (Builtin.unsafeSliceData_ #[36] 130 #[.slice (some ⟨g, 0, none⟩) l.length cap]).run Tryz.prog w.drew = .ok (.pointer (some ⟨g, 0, none⟩)) w.drew :=
  Lib.run_unsafeSliceData_row _ _ _ _ _ _ (by omega)
 have hUS : (Builtin.unsafeString_ #[130, 3] 9 #[.pointer (some ⟨g, 0, none⟩), .int .i64 l.length]).run Tryz.prog w.drew = .ok (.string ⟨l.toArray⟩) (w.drew.freeze ⟨g, 0, none⟩ l.length) := by
  refine Lib.run_unsafeString_row w.drew 130 3 9 5 Tryz.underlying130 (by kernel_rfl) g cur.size (by have hg' : w.drew.heap[g]? = some (.cells cur 5 (0, 0)) := hg; simp [World.shape?, hg']) l h0 (by omega) (by unfold maxLen at hcm; omega) ?_
  intro j x hx
  have := hown.cells (g := g) rfl j (.int .u8 x.toNat) (by simp [Lib.byteCells, hx])
  exact this
 have t72 := Tryz.underlying68; have a72 := Tryz.isAgg68; have z72 := Tryz.sizeOf68; have v72 := Tryz.zeroValue68; have u72 := run_underlying Tryz.underlying68
 have t70 := Tryz.underlying66; have a70 := Tryz.isAgg66; have z70 := Tryz.sizeOf66; have v70 := Tryz.zeroValue66; have u70 := run_underlying Tryz.underlying66
 have t37 := Tryz.underlying36; have a37 := Tryz.isAgg36; have z37 := Tryz.sizeOf36; have v37 := Tryz.zeroValue36; have u37 := run_underlying Tryz.underlying36
 have t127 := Tryz.underlying130; have a127 := Tryz.isAgg130; have z127 := Tryz.sizeOf130; have v127 := Tryz.zeroValue130; have u127 := run_underlying Tryz.underlying130
 have t3 := Tryz.underlying3; have a3 := Tryz.isAgg3; have z3 := Tryz.sizeOf3; have v3 := Tryz.zeroValue3; have u3 := run_underlying Tryz.underlying3
 have t9 := Tryz.underlying9; have a9 := Tryz.isAgg9; have z9 := Tryz.sizeOf9; have v9 := Tryz.zeroValue9; have u9 := run_underlying Tryz.underlying9
 have t5 := Tryz.underlying5; have a5 := Tryz.isAgg5; have z5 := Tryz.sizeOf5; have v5 := Tryz.zeroValue5; have u5 := run_underlying Tryz.underlying5
 go_enter Tryz.func34, Tryz.ntmps34
 go_wp2
 go_region
 all_goals (go_wp2; go_ret; exact ⟨rfl, rfl⟩)
end Go.Proofs.YteckbkljaneppaaGreatDoor.Dx
/- strings.Builder inside of a greater box: String's contract. -/
namespace Go.Proofs.YteckbkljaneppaaGreatDoor.Dx
open Go Go.RowKit Go.Proofs
set_option maxRecDepth 100000
set_option maxHeartbeats 4000000
variable {γ : Gm} {V : Know} {W : World}
theorem freeze_other (w : World) (g n k : Nat) (h : k ≠ g) : (w.freeze ⟨g, 0, none⟩ n).heap[k]? = w.heap[k]? := by
 unfold World.freeze
 split
 · rfl
 · simp only [Array.getElem?_modify]
   rw [if_neg (fun e => h e.symm)]
theorem meets_String {ty : TypeId} {rest : List Base} (n m : Nat) (hnm : n ≠ m) (c : Base) (l : List UInt8) (hl : l ≠ []) (hlen : l.length ≤ maxLen) :
 MeetsR Tryz.prog 34 [.loc n 0] [(n, .box (c :: .own m :: rest) ty), (m, .sl (builtD l))] fun o O' => o = .ret (.d (.str l)) ∧ O' = [(n, .box (.d .junk :: .d .junk :: rest) ty)] := by
 refine ⟨⟨_, _, Tryz.func34, rfl, rfl⟩, fun γ V W xs hs hv ho hi => ?_⟩
 obtain ⟨x, xs', rfl, ⟨blk, hx, rfl⟩, hv'⟩ := hv.cons_l
 obtain rfl := hv'.nil_l
 have hln := look_cons_eq n (Blk.box (c :: .own m :: rest) ty) [(m, Blk.sl (builtD l))]
 have hlm : look m [(n, Blk.box (c :: .own m :: rest) ty), (m, Blk.sl (builtD l))] = some (.sl (builtD l)) := by rw [look_cons_ne hnm, look_cons_eq]
 obtain ⟨blk', cs, hg, hh, hc, h1, hvn⟩ := ho n _ hln
 rw [hg] at hx; cases hx
 obtain ⟨c0, cs1, hcs, hc0, hr0⟩ := hc.cons_l
 obtain ⟨c1, cr, rfl, hc1, hr⟩ := hr0.cons_l
 obtain rfl : c1 = (γ m).1 := hc1
 rcases ho m _ hlm with ⟨g, nn, cap, vals, hgm, hown, hk, hvals, hv1, hpub⟩ | ⟨h, _⟩
 rotate_left
 · rcases h with h | h
   · cases h
   · exact absurd (List.eq_nil_of_length_eq_zero (by rw [← bytesD_length, show bytesD l = [] from h]; rfl)) hl
 obtain rfl := bytesD_vals hvals
 have hpub : ∀ o, V.cell g o = none := hpub
 have hown : W.ownsRow 0 5 1 (γ m).1 l.length (Lib.byteCells l) := by rw [← bytesD_length l]; exact hown
 have hgne : g ≠ blk := fun e => hi n m _ _ hln hlm hnm blk (by rw [hg]) (by rw [hgm, e])
 obtain ⟨cur, hnn, hgc, -⟩ := own_cap (by rw [hgm] at hown; exact hown)
 obtain rfl : nn = l.length := by
  rcases hown.2 with ⟨h, h0⟩ | ⟨_, _, _, h, _⟩
  · rw [hgm] at h; cases h
  · rw [hgm] at h; cases h; rfl
 have hmL : g ∈ blks γ [(n, Blk.box (c :: .own m :: rest) ty), (m, .sl (builtD l))] := List.mem_filterMap.2 ⟨(m, .sl (builtD l)), by simp, by rw [hgm]⟩
 refine (string_w blk g cap W cs cur ty l hl hh (by rw [← Array.getElem?_toList, hcs, hgm]; rfl) hgc (by rw [hgm] at hown; exact hown)).mono ?_
 rintro e W' ⟨rfl, rfl⟩
 have hb0 : Below 0 W (W.drew.freeze ⟨g, 0, none⟩ l.length) := Lib.below_freeze (Below.drew (Below.refl 0 W)) (Nat.zero_le _) _
 have hkeep : ∀ k, k ≠ g → (W.drew.freeze ⟨g, 0, none⟩ l.length).heap[k]? = W.heap[k]? := fun k hk => freeze_other W.drew g l.length k hk
 have two : ∀ {k b}, look k [(n, Blk.box (.d .junk :: .d .junk :: rest) ty)] = some b → k = n ∧ b = Blk.box (.d .junk :: .d .junk :: rest) ty := by
  intro k b h
  by_cases e : n = k
  · subst e; rw [look_cons_eq] at h; cases h; exact ⟨rfl, rfl⟩
  · rw [look_cons_ne e, look_nil] at h; cases h
 refine ⟨γ, V, .ret (.d (.str l)), _, Rep.str l hlen, ⟨hb0.os, hb0.tape, hb0.output, hb0.size, fun k hk hkl => hkeep k (fun e => hkl (e ▸ hmL))⟩, Fresh.refl V _ _, ?_, fun k b hl => ?_, fun k b hkk q hq => ?_, fun k k' b b' hkk hkk' hne q hq => ?_, fun k b hkk hb => rfl, rfl, rfl⟩
 · refine ⟨fun b o u hc => ?_, fun r x hx => ?_, hs.lib, hs.keepRow fun b o u hc => hkeep b (fun e => by subst e; rw [hpub] at hc; cases hc)⟩
   · have hb1 : b ≠ g := fun e => by subst e; rw [hpub] at hc; cases hc
     have := hs.cell b o u hc
     simp only [World.cell?, hkeep b hb1] at this ⊢
     exact this
   · obtain ⟨q1, es, clock, rfl⟩ := hs.obj r x hx
     refine ⟨?_, es, clock, rfl⟩
     rw [hkeep r (fun e => by subst e; rw [hgc] at q1; cases q1)]
     exact q1
 · obtain ⟨rfl, rfl⟩ := two hl
   refine ⟨blk, cs, hg, by rw [hkeep blk (Ne.symm hgne)]; exact hh, ?_, h1, hvn⟩
   rw [hcs]
   exact .cons (.junk _) (.cons (.junk _) hr)
 · obtain ⟨rfl, rfl⟩ := two hkk
   rw [hg] at hq; cases hq
   exact .inl (List.mem_filterMap.2 ⟨(k, .box (c :: .own m :: rest) ty), by simp, by rw [hg]⟩)
 · obtain ⟨rfl, rfl⟩ := two hkk
   obtain ⟨rfl, rfl⟩ := two hkk'
   exact absurd rfl hne
end Go.Proofs.YteckbkljaneppaaGreatDoor.Dx
