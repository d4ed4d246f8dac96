/- The route of a distance, written out by course.expand: plain, and walked. -/
import Derived.Test.YtkkohadkpogdfaaGreatMz
import Derived.Test.YtkkohadkpogdfaaGreatMl
import Derived.Shelf.Spec.SlicesInsert
import Derived.Shelf.Spec.SlicesInsertGrow
import Derived.Test.YtkkohadkpogdfaaGreatProg
namespace Go.Proofs.YtkkohadkpogdfaaGreat.Dx
open Go Go.RowKit
set_option linter.all false
set_option maxRecDepth 100000
set_option maxHeartbeats 16000000

mutual
def Part.full : Part → List Int
  | ⟨m, l, ps⟩ => if l > 0 then (List.replicate l.toNat (Part.fullL ps)).flatten else [m]
def Part.fullL : List Part → List Int
  | [] => []
  | p :: ps => p.full ++ Part.fullL ps
end
theorem Part.full_eq (p : Part) : p.full = if p.laps > 0 then (List.replicate p.laps.toNat (Part.fullL p.parts)).flatten else [p.mat] := by
  obtain ⟨m, l, ps⟩ := p; simp only [Part.full]
theorem fullL_append (a b : List Part) : Part.fullL (a ++ b) = Part.fullL a ++ Part.fullL b := by
  induction a with
  | nil => rfl
  | cons p a ih => simp [Part.fullL, ih]
theorem fullL_take {l : List Part} {i : Nat} (h : i < l.length) : Part.fullL (l.take (i + 1)) = Part.fullL (l.take i) ++ l[i].full := by
  rw [List.take_succ_eq_append_getElem h, fullL_append]
  simp [Part.fullL]
theorem fullL_split (l : List Part) {i : Nat} (h : i < l.length) : (Part.fullL l).length = (Part.fullL (l.take i)).length + l[i].full.length + (Part.fullL (l.drop (i + 1))).length := by
  have : l = l.take i ++ l[i] :: l.drop (i + 1) := by rw [← List.drop_eq_getElem_cons h, List.take_append_drop]
  conv => lhs; rw [this, fullL_append, Part.fullL]
  simp; omega

theorem exApp_ge (lap : List Int) : ∀ (n : Nat) (acc : List Int), acc.length ≤ (exApp lap n acc).length
  | 0, acc => Nat.le_refl _
  | n + 1, acc => by
    rw [exApp]
    split
    · exact Nat.le_refl _
    · exact Nat.le_trans (by simp) (exApp_ge lap n _)
theorem exApp_small {lap : List Int} : ∀ {n : Nat} {acc : List Int}, (exApp lap n acc).length ≤ 256 → exApp lap n acc = acc ++ (List.replicate n lap).flatten
  | 0, acc, _ => by simp [exApp]
  | n + 1, acc, h => by
    have h0 := exApp_ge lap (n + 1) acc
    have hle : ¬ acc.length > 256 := by omega
    rw [exApp, if_neg hle] at h ⊢
    rw [exApp_small h, List.replicate_succ, List.flatten_cons, List.append_assoc]
mutual
theorem ex_ge : ∀ (p : Part) (acc : List Int), acc.length ≤ (p.ex acc).length
  | ⟨m, l, ps⟩, acc => by
    rw [Part.ex_eq]
    split <;> exact exApp_ge _ _ _
theorem exL_ge : ∀ (l : List Part) (acc : List Int), acc.length ≤ (Part.exL l acc).length
  | [], acc => Nat.le_refl _
  | p :: l, acc => Nat.le_trans (ex_ge p acc) (exL_ge l _)
end
mutual
theorem ex_small : ∀ (p : Part) (acc : List Int), (p.ex acc).length ≤ 256 → p.ex acc = acc ++ p.full
  | ⟨m, l, ps⟩, acc, h => by
    rw [Part.ex_eq] at h ⊢
    rw [Part.full_eq]
    by_cases hl : l > 0
    · simp only [hl, if_true] at h ⊢
      have hin : (Part.exL ps []).length ≤ 256 := by
        have h2 := exApp_small h
        rw [h2] at h
        obtain ⟨k, hk⟩ : ∃ k, l.toNat = k + 1 := ⟨l.toNat - 1, by omega⟩
        rw [hk, List.replicate_succ, List.flatten_cons] at h
        simp at h; omega
      rw [exApp_small h, exL_small ps [] hin]
      rfl
    · simp only [hl, if_false] at h ⊢
      rw [exApp_small h]
      rfl
theorem exL_small : ∀ (l : List Part) (acc : List Int), (Part.exL l acc).length ≤ 256 → Part.exL l acc = acc ++ Part.fullL l
  | [], acc, _ => by simp [Part.exL, Part.fullL]
  | p :: l, acc, h => by
    rw [Part.exL] at h ⊢
    have h1 : (p.ex acc).length ≤ 256 := Nat.le_trans (exL_ge l _) h
    rw [exL_small l _ h, ex_small p acc h1, Part.fullL, List.append_assoc]
end
end Go.Proofs.YtkkohadkpogdfaaGreat.Dx

/- The route of a distance, written out by course.expand: the walk. -/
namespace Go.Proofs.YtkkohadkpogdfaaGreat.Dx
open Go Go.RowKit
set_option linter.all false
set_option maxRecDepth 100000
set_option maxHeartbeats 16000000

abbrev exO (acc : List (List D)) : List (Nat × Blk) :=
  [(1000, .box [.own 1002] 36), (1001, .box [.fn 49 [] [.loc 1000 0, .loc 1001 0]] 112), (1002, .sl ⟨3, 1, acc, false⟩)]

theorem walk_meets (m : Int) (l : List Part) (acc : List Int) (hg : ∀ p ∈ l, p.good m = true) (hb : acc.length + (Part.fullL l).length ≤ 1048576) :
    MeetsR Tryz.prog 49 [.d (.sl (l.map Part.cells)), .loc 1000 0, .loc 1001 0] (exO (acc.map icells)) fun o O' => o = .ret (.d (.tup [])) ∧ O' = exO ((acc ++ Part.fullL l).map icells) := by
  refine enterR tok {rs := [27]} Tryz.func49 rfl (by kernel_rfl) Tryz.ntmps49 (by simp) fun B0 W0 V0 lent g0 => ?_
  ((conv => whnf); repeat' (refine vcC_go tok {rs := [27]} rfl ?_; conv => whnf))
  repeat' ((first | (intro hlq; (try simp only [List.length_map, maxLen] at hlq)) | refine Ka ?_ | refine Kb ?_ | refine Kc (hd := rfl) (e := ?_) | refine Kc (hd := Cond.cells_eq _) (e := ?_) | refine Kd (e := ?_) | refine ⟨(rfl : look _ _ = look _ _), ?_⟩ | fail) <;> ((conv => whnf); repeat' (refine vcC_go tok {rs := [27]} rfl ?_; conv => whnf)))
  refine loop_upd tok {rs := [27]} [] (X := Nat × List (List D)) (fun s => [(8, iB s.1)]) (fun s => exO s.2) [5] (fun s => s.1 ≤ l.length ∧ s.2 = (acc ++ Part.fullL (l.take s.1)).map icells) (fun s => l.length - s.1) (0, acc.map icells) ?_
  ((conv => whnf); repeat' (refine vcC_go tok {rs := [27]} rfl ?_; conv => whnf))
  refine And.intro ?_ ⟨⟨by omega, by simp [Part.fullL]⟩, fun s hΦ => ?_⟩
  · repeat' (first | exact True.intro | exact rfl | refine And.intro ?_ ?_)
  obtain ⟨i, xs⟩ := s
  obtain ⟨hi, hxs⟩ := hΦ
  dsimp only at hi hxs
  ((conv => whnf); repeat' (refine vcC_go tok {rs := [27]} rfl ?_; conv => whnf))
  refine ⟨fun h1 => ?_, fun h1 => ?_⟩ <;> (try simp only [BB, List.length_map] at h1) <;> ((conv => whnf); repeat' (refine vcC_go tok {rs := [27]} rfl ?_; conv => whnf))
  · have h1' : i < l.length := by omega
    have hfe := l[i].full_eq
    have hgi := hg _ (List.getElem_mem h1')
    have hlp := good_laps hgi
    have hsp := fullL_split l h1'
    have hxl : xs.length = acc.length + (Part.fullL (l.take i)).length := by rw [hxs]; simp
    repeat' ((first | (intro hlq; (try simp only [List.length_map, maxLen] at hlq)) | refine Ka ?_ | refine Kb ?_ | refine Kc (hd := rfl) (e := ?_) | refine Kc (hd := Part.cells_eq _) (e := ?_) | refine Kd (e := ?_) | refine ⟨(rfl : look _ _ = look _ _), ?_⟩ | fail) <;> ((conv => whnf); repeat' (refine vcC_go tok {rs := [27]} rfl ?_; conv => whnf)))
    refine ⟨fun h2 => ?_, fun h2 => ?_⟩ <;> (try simp only [BB, List.length_map] at h2) <;> ((conv => whnf); repeat' (refine vcC_go tok {rs := [27]} rfl ?_; conv => whnf))
    · rw [if_neg (by omega)] at hfe
      rw [hfe] at hsp
      simp only [List.length_singleton] at hsp
      repeat' ((first | (intro hlq; (try simp only [List.length_map, maxLen] at hlq)) | refine Ka ?_ | refine Kb ?_ | refine Kc (hd := rfl) (e := ?_) | refine Kc (hd := Part.cells_eq _) (e := ?_) | refine Kd (e := ?_) | refine ⟨(rfl : look _ _ = look _ _), ?_⟩ | fail) <;> ((conv => whnf); repeat' (refine vcC_go tok {rs := [27]} rfl ?_; conv => whnf)))
      refine ⟨by simp, ?_⟩
      ((conv => whnf); repeat' (refine vcC_go tok {rs := [27]} rfl ?_; conv => whnf))
      refine ⟨fun _ _ => by simp only [List.length_singleton, List.length_map] at *; constructor <;> omega, ?_⟩
      ((conv => whnf); repeat' (refine vcC_go tok {rs := [27]} rfl ?_; conv => whnf))
      repeat' ((first | (intro hlq; (try simp only [List.length_map, maxLen] at hlq)) | refine Ka ?_ | refine Kb ?_ | refine Kc (hd := rfl) (e := ?_) | refine Kc (hd := Part.cells_eq _) (e := ?_) | refine Kd (e := ?_) | refine ⟨(rfl : look _ _ = look _ _), ?_⟩ | fail) <;> ((conv => whnf); repeat' (refine vcC_go tok {rs := [27]} rfl ?_; conv => whnf)))
      refine loop_upd tok {rs := [27]} [] (X := Nat) (fun k => [(22, iB k)]) (fun _ => []) [] (fun k => k = 0) (fun _ => 0) 0 ?_
      ((conv => whnf); repeat' (refine vcC_go tok {rs := [27]} rfl ?_; conv => whnf))
      refine And.intro ?_ ⟨rfl, fun k hk => ?_⟩
      · repeat' (first | exact True.intro | exact rfl | refine And.intro ?_ ?_)
      subst hk
      ((conv => whnf); repeat' (refine vcC_go tok {rs := [27]} rfl ?_; conv => whnf))
      repeat' ((first | (intro hlq; (try simp only [List.length_map, maxLen] at hlq)) | refine Ka ?_ | refine Kb ?_ | refine Kc (hd := rfl) (e := ?_) | refine Kc (hd := Cond.cells_eq _) (e := ?_) | refine Kd (e := ?_) | refine ⟨(rfl : look _ _ = look _ _), ?_⟩ | fail) <;> ((conv => whnf); repeat' (refine vcC_go tok {rs := [27]} rfl ?_; conv => whnf)))
      refine ⟨fun h3 => ?_, fun h3 => ?_⟩ <;> (try simp only [BB, List.length_map] at h3) <;> ((conv => whnf); repeat' (refine vcC_go tok {rs := [27]} rfl ?_; conv => whnf))
      · exfalso; omega
      repeat' ((first | (intro hlq; (try simp only [List.length_map, maxLen] at hlq)) | refine Ka ?_ | refine Kb ?_ | refine Kc (hd := rfl) (e := ?_) | refine Kc (hd := Cond.cells_eq _) (e := ?_) | refine Kd (e := ?_) | refine ⟨(rfl : look _ _ = look _ _), ?_⟩ | fail) <;> ((conv => whnf); repeat' (refine vcC_go tok {rs := [27]} rfl ?_; conv => whnf)))
      refine ⟨⟨(i + 1, xs ++ [[iD l[i].mat]]), ?_, ⟨by dsimp only; omega, ?_⟩, by dsimp only; omega⟩⟩
      · repeat' (first | exact True.intro | exact rfl | refine And.intro ?_ ?_)
      · dsimp only
        rw [fullL_take h1', hfe, hxs, ← List.append_assoc, List.map_append (l₂ := [l[i].mat])]
        rfl
    · rw [if_pos (by omega)] at hfe
      have hlen := congrArg List.length hfe
      rw [List.length_flatten, List.map_replicate, List.sum_replicate_nat] at hlen
      refine loop_upd tok {rs := [27]} [] (X := Nat × List (List D)) (fun s => [(22, iB s.1)]) (fun s => exO s.2) [] (fun s => s.1 ≤ l[i].laps.toNat ∧ s.2 = ((acc ++ Part.fullL (l.take i)) ++ (List.replicate s.1 (Part.fullL l[i].parts)).flatten).map icells) (fun s => l[i].laps.toNat - s.1) (0, xs) ?_
      ((conv => whnf); repeat' (refine vcC_go tok {rs := [27]} rfl ?_; conv => whnf))
      refine And.intro ?_ ⟨⟨by dsimp only; omega, by simp [hxs]⟩, fun s hΨ => ?_⟩
      · repeat' (first | exact True.intro | exact rfl | refine And.intro ?_ ?_)
      obtain ⟨k, ys⟩ := s
      obtain ⟨hk, hys⟩ := hΨ
      dsimp only at hk hys
      ((conv => whnf); repeat' (refine vcC_go tok {rs := [27]} rfl ?_; conv => whnf))
      repeat' ((first | (intro hlq; (try simp only [List.length_map, maxLen] at hlq)) | refine Ka ?_ | refine Kb ?_ | refine Kc (hd := rfl) (e := ?_) | refine Kc (hd := Cond.cells_eq _) (e := ?_) | refine Kd (e := ?_) | refine ⟨(rfl : look _ _ = look _ _), ?_⟩ | fail) <;> ((conv => whnf); repeat' (refine vcC_go tok {rs := [27]} rfl ?_; conv => whnf)))
      refine ⟨fun h3 => ?_, fun h3 => ?_⟩ <;> (try simp only [BB, List.length_map] at h3) <;> ((conv => whnf); repeat' (refine vcC_go tok {rs := [27]} rfl ?_; conv => whnf))
      · have hkl : k < l[i].laps.toNat := by omega
        have hmul : k * (Part.fullL l[i].parts).length + (Part.fullL l[i].parts).length ≤ l[i].laps.toNat * (Part.fullL l[i].parts).length := by
          rw [← Nat.succ_mul]; exact Nat.mul_le_mul_right _ hkl
        have hrec := walk_meets m l[i].parts ((acc ++ Part.fullL (l.take i)) ++ (List.replicate k (Part.fullL l[i].parts)).flatten) (good_parts hgi) (by
          rw [List.length_append, List.length_append, List.length_flatten, List.map_replicate, List.sum_replicate_nat]; omega)
        rw [← hys] at hrec
        refine ⟨exO ys, _, ⟨?_, ?_⟩, hrec.mono ?_⟩
        · repeat' (first | exact True.intro | exact rfl | refine And.intro ?_ ?_)
        · repeat' (first | exact True.intro | exact rfl | refine And.intro ?_ ?_)
        rintro o O' ⟨rfl, rfl⟩
        ((conv => whnf); repeat' (refine vcC_go tok {rs := [27]} rfl ?_; conv => whnf))
        repeat' ((first | (intro hlq; (try simp only [List.length_map, maxLen] at hlq)) | refine Ka ?_ | refine Kb ?_ | refine Kc (hd := rfl) (e := ?_) | refine Kc (hd := Cond.cells_eq _) (e := ?_) | refine Kd (e := ?_) | refine ⟨(rfl : look _ _ = look _ _), ?_⟩ | fail) <;> ((conv => whnf); repeat' (refine vcC_go tok {rs := [27]} rfl ?_; conv => whnf)))
        refine ⟨⟨(k + 1, (((acc ++ Part.fullL (l.take i)) ++ (List.replicate k (Part.fullL l[i].parts)).flatten) ++ Part.fullL l[i].parts).map icells), ?_, ⟨by dsimp only; omega, ?_⟩, by dsimp only; omega⟩⟩
        · repeat' (first | exact True.intro | exact rfl | refine And.intro ?_ ?_)
        · dsimp only
          rw [List.replicate_succ', List.flatten_append, List.flatten_singleton, List.append_assoc _ _ (Part.fullL l[i].parts)]
      · have hkl : k = l[i].laps.toNat := by omega
        repeat' ((first | (intro hlq; (try simp only [List.length_map, maxLen] at hlq)) | refine Ka ?_ | refine Kb ?_ | refine Kc (hd := rfl) (e := ?_) | refine Kc (hd := Cond.cells_eq _) (e := ?_) | refine Kd (e := ?_) | refine ⟨(rfl : look _ _ = look _ _), ?_⟩ | fail) <;> ((conv => whnf); repeat' (refine vcC_go tok {rs := [27]} rfl ?_; conv => whnf)))
        refine ⟨⟨(i + 1, ys), ?_, ⟨by dsimp only; omega, ?_⟩, by dsimp only; omega⟩⟩
        · repeat' (first | exact True.intro | exact rfl | refine And.intro ?_ ?_)
        · dsimp only
          rw [hys, hkl, fullL_take h1', hfe, ← List.append_assoc]
  · have hall : l.take i = l := List.take_of_length_le (by omega)
    rw [hall] at hxs
    subst hxs
    refine ⟨exO _, .d (.tup []), ?_, ⟨rfl, rfl⟩⟩
    repeat' (first | exact True.intro | exact rfl | refine And.intro ?_ ?_)
termination_by Part.cntL l
decreasing_by
  all_goals
    have hc := Part.cnt_part h1'
    omega

theorem expand_own (m : Int) (l : List Part) (hg : ∀ p ∈ l, p.good m = true) (hb : (Part.fullL l).length ≤ 1048576) :
    MeetsR Tryz.prog 35 [.d (.sl (l.map Part.cells))] [] fun o O' => o = .ret (.own 1002) ∧ O' = [(1002, .sl ⟨3, 1, (Part.fullL l).map icells, false⟩)] := by
  refine enterR tok {nm := [(2, 1000), (3, 1001)], rs := [7]} Tryz.func35 rfl (by kernel_rfl) Tryz.ntmps35 (by simp) fun B0 W0 V0 lent g0 => ?_
  ((conv => whnf); repeat' ((fail_if_success (refine J_at 3 ?_)); refine vcC_go tok {nm := [(2, 1000), (3, 1001)], rs := [7]} rfl ?_; conv => whnf))
  refine J_ownP 1000 0 1002 3 1 ?_
  ((conv => whnf); repeat' (refine vcC_go tok {nm := [(2, 1000), (3, 1001)], rs := [7]} rfl ?_; conv => whnf))
  have hrec := walk_meets m l [] hg (by simpa using hb)
  refine ⟨exO [], _, ⟨?_, ?_⟩, hrec.mono ?_⟩
  · repeat' (first | exact True.intro | exact rfl | refine And.intro ?_ ?_)
  · repeat' (first | exact True.intro | exact rfl | refine And.intro ?_ ?_)
  rintro o O' ⟨rfl, rfl⟩
  ((conv => whnf); repeat' (refine vcC_go tok {nm := [(2, 1000), (3, 1001)], rs := [7]} rfl ?_; conv => whnf))
  refine ⟨[(1002, .sl ⟨3, 1, (Part.fullL l).map icells, false⟩)], .own 1002, ?_, ⟨rfl, rfl⟩⟩
  repeat' (first | exact True.intro | exact rfl | refine And.intro ?_ ?_)
end Go.Proofs.YtkkohadkpogdfaaGreat.Dx

/- The laying of slices.Insert[[]int,int] in this program. -/
namespace Go.Proofs
open Go.Shelf
def Tryz.laysIns_ren : Go.Shelf.Ren := ⟨fun | 21 => 46 | 27 => 95 | 28 => 96 | 35 => 133 | 39 => 155 | n => n, fun | 22 => 36 | 3 => 3 | 4 => 4 | 0 => 0 | n => n, fun | n => n⟩
theorem Tryz.laysIns : Go.Proofs.Lays2.n21 Tryz.prog Tryz.laysIns_ren := {
  mixed := by kernel_rfl
  f21 := Tryz.func46.trans (congrArg some (by kernel_rfl))
  f27 := Tryz.func95.trans (congrArg some (by kernel_rfl))
  f28 := Tryz.func96.trans (congrArg some (by kernel_rfl))
  f35 := Tryz.func133.trans (congrArg some (by kernel_rfl))
  f39 := Tryz.func155.trans (congrArg some (by kernel_rfl))
  t0 := Tryz.underlying0
  a0 := Tryz.isAgg0
  z0 := Tryz.sizeOf0
  v0 := Tryz.zeroValue0
  t3 := Tryz.underlying3
  a3 := Tryz.isAgg3
  z3 := Tryz.sizeOf3
  v3 := Tryz.zeroValue3
  t4 := Tryz.underlying4
  a4 := Tryz.isAgg4
  z4 := Tryz.sizeOf4
  v4 := Tryz.zeroValue4
  t22 := Tryz.underlying36
  a22 := Tryz.isAgg36
  z22 := Tryz.sizeOf36
  v22 := Tryz.zeroValue36
  i3 := by kernel_rfl }
end Go.Proofs

