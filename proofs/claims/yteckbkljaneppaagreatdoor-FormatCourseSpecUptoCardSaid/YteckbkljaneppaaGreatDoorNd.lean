/- The laws TypingCourseSpec, TypingCondSpec, TypingDirectSpec. -/
import Derived.Test.YteckbkljaneppaaGreatDoorNb
import Derived.Test.YteckbkljaneppaaGreatDoorMk
set_option linter.all false
namespace Go.Proofs.YteckbkljaneppaaGreatDoor.Dx
open Go Go.RowKit
set_option maxRecDepth 100000
set_option maxHeartbeats 16000000
theorem FewCourse_meets (c : Course) (hc : c.small) : Meets Tryz.prog 9 [c.d] fun r => ∃ b, r = bD b := by
 obtain ⟨h1, h2, h3, h4, h5, h6, h7, h8, h9, h10⟩ := hc
 refine enter tok {} Tryz.func9 rfl (by kernel_rfl) Tryz.ntmps9 (by simp) fun B0 W0 V0 lent g0 => ?_
 ((conv => whnf); repeat' (refine Z rfl ?_; conv => whnf))
 repeat' ((first | (intro hlq; (try simp only [SL] at hlq)) | refine Ka ?_ | refine Kb ?_ | refine Kc (hd := rfl) (e := ?_) | refine Kc (hd := Cond.cells_eq _) (e := ?_) | refine Kd (e := ?_) | refine Kl rfl ?_ | fail) <;> ((conv => whnf); repeat' (refine Z rfl ?_; conv => whnf)))
 refine loop_upd tok {} [] (X := Nat × Int) (fun x => [(4, iB x.1), (3, iB x.2)]) (fun _ => []) [] (fun x => x.1 ≤ c.distances.length ∧ 0 ≤ x.2 ∧ x.2 ≤ 100000000) (fun x => c.distances.length - x.1) (0, ((((((((c.mats.map Mat.cells).length : Int) + (c.legs.map Leg.cells).length) + (c.distances.map Distance.cells).length) + (c.waves.map Wave.cells).length) + (c.offences.map Offence.cells).length) + (c.categories.map Category.cells).length) + (c.prizes.map Prize.cells).length)) ?_
 ((conv => whnf); repeat' (refine Z rfl ?_; conv => whnf))
 refine And.intro ?_ ⟨⟨by omega, by (try simp only [List.length_map]); omega, by (try simp only [List.length_map]); omega⟩, fun x hΦ => ?_⟩
 · exact Kr
 obtain ⟨i, m⟩ := x
 obtain ⟨hi, hm⟩ := hΦ
 dsimp only at hi hm
 ((conv => whnf); repeat' (refine Z rfl ?_; conv => whnf))
 repeat' ((first | (intro hlq; (try simp only [SL] at hlq)) | ((refine Kh (fun hb => ?_) fun hb => ?_) <;> (try simp only [BL] at hb)) | refine Ka ?_ | refine Kb ?_ | refine Kc (hd := rfl) (e := ?_) | refine Kc (hd := Cond.cells_eq _) (e := ?_) | refine Kd (e := ?_) | refine Kl rfl ?_ | fail) <;> ((conv => whnf); repeat' (refine Z rfl ?_; conv => whnf)))
 · have h1' : i < c.distances.length := by (try dsimp only at *); (try simp only [List.length_map] at *); omega
   have e1 := h9 _ (List.getElem_mem h1')
   have e2 := h10 _ (List.getElem_mem h1')
   refine draw_rule tok (cf := {}) (by kernel_rfl) [.p 0, .p 1, .p 2, .p 3, .p 4, .p 5, .p 6, .p 7, .p 8, .p 9, .p 10, .p 11, .p 12, .p 13, .p 14, .s 15 [14,13,12,10,11,9], .p 16, .p 17] (by kernel_rfl) ?_
   ((conv => whnf); repeat' (refine Z rfl ?_; conv => whnf))
   repeat' ((first | (intro hlq; (try simp only [SL] at hlq)) | refine Meets.k (rcount_meets c.distances[i].route e1) ?_ | refine Meets.k (rdepth_meets c.distances[i].route 17 (by omega) e1) ?_ | ((refine Kh (fun hb => ?_) fun hb => ?_) <;> (try simp only [BL] at hb)) | refine Ka ?_ | refine Kb ?_ | refine Kc (hd := rfl) (e := ?_) | refine Kc (hd := Distance.cells_eq _) (e := ?_) | refine Kd (e := ?_) | refine Kl rfl ?_ | fail) <;> ((conv => whnf); repeat' (refine Z rfl ?_; conv => whnf)))
   all_goals first
    | exact ⟨⟨_, rfl⟩⟩
    | (refine ⟨⟨(i + 1, (m + ((c.distances[i].cutoffs.map Cutoff.cells).length : Int)) + min (Part.cntL c.distances[i].route : Int) 257), ?_, ⟨by (try dsimp only at *); omega, ?_⟩, by (try dsimp only at *); omega⟩⟩
       · exact Kr
       (try dsimp only at *); (try simp only [List.length_map] at *); omega)
 all_goals
  repeat' ((first | (intro hlq; (try simp only [SL] at hlq)) | (refine Meets.mono (Few_meets c.ties) ?_; rintro _ ⟨_, rfl⟩) | ((refine Kh (fun hb => ?_) fun hb => ?_) <;> (try simp only [BL] at hb)) | refine Ka ?_ | refine Kb ?_ | refine Kc (hd := rfl) (e := ?_) | refine Kc (hd := Cond.cells_eq _) (e := ?_) | refine Kd (e := ?_) | refine Kl rfl ?_ | fail) <;> ((conv => whnf); repeat' (refine Z rfl ?_; conv => whnf)))
  all_goals exact ⟨⟨_, rfl⟩⟩
theorem Meets.bl {P : Program} {f : FuncId} {ds : List D} {b : Bool} (h : Meets P f ds fun d => d = bD b) : Meets P f ds fun d => d = .bl b := by
 refine ⟨⟨h.out.fn, fun γ V W xs h1 h2 h3 h4 => (h.out.run γ V W xs h1 h2 h3 h4).mono ?_⟩⟩
 rintro e W' ⟨γ', V', o, O', a1, a2, a3, a4, a5, a6, a7, a8, d, rfl, rfl, rfl⟩
 refine ⟨γ', V', _, [], ?_, a2, a3, a4, a5, a6, a7, a8, .bl b, rfl, rfl, rfl⟩
 cases e with
 | returned v =>
   obtain ⟨rfl, _⟩ := Rep.v_inv (show Rep V' v (.v (.bool b)) from a1)
   exact Rep.bl b
 | _ => exact a1
end Go.Proofs.YteckbkljaneppaaGreatDoor.Dx
/- The arguments of the laws: typed cells are a course, a condition, steps, numbers. -/
namespace Go.Proofs.YteckbkljaneppaaGreatDoor.Dx
open Go Go.RowKit
set_option maxRecDepth 100000
theorem shp3 : shp T 3 = some (.i .i64) := rfl
theorem shp4 : shp T 4 = some .b := rfl
theorem shp9 : shp T 9 = some .s := rfl
theorem shp40 : shp T 42 = some (.st [3, 3, 3, 40]) := rfl
theorem shp38 : shp T 40 = some (.sl 42) := rfl
theorem shp84 : shp T 54 = some (.st [3, 3, 42, 29, 29]) := rfl
theorem shp29 : shp T 29 = some (.sl 54) := rfl
theorem shp107 : shp T 115 = some (.st [3, 3, 59]) := rfl
theorem shp56 : shp T 59 = some (.sl 115) := rfl
theorem shp63 : shp T 74 = some (.st [9, 3]) := rfl
theorem shp65 : shp T 76 = some (.st [3, 3, 3, 3]) := rfl
theorem shp67 : shp T 57 = some (.st [3, 3, 3]) := rfl
theorem shp57 : shp T 58 = some (.sl 57) := rfl
theorem shp59 : shp T 61 = some (.st [9, 59, 3, 58, 3]) := rfl
theorem shp70 : shp T 87 = some (.st [3, 3, 3, 3]) := rfl
theorem shp72 : shp T 82 = some (.st [9, 3, 3, 4]) := rfl
theorem shp74 : shp T 80 = some (.st [9, 3]) := rfl
theorem shp121 : shp T 85 = some (.st [9, 3, 3]) := rfl
theorem shp31 : shp T 31 = some (.st [3, 3, 3, 3, 3]) := rfl
theorem shp33 : shp T 33 = some (.st [9, 22, 23, 24, 25, 26, 27, 28, 29, 31, 3, 3]) := rfl
theorem shp22 : shp T 22 = some (.sl 74) := rfl
theorem shp23 : shp T 23 = some (.sl 76) := rfl
theorem shp24 : shp T 24 = some (.sl 61) := rfl
theorem shp25 : shp T 25 = some (.sl 80) := rfl
theorem shp26 : shp T 26 = some (.sl 82) := rfl
theorem shp27 : shp T 27 = some (.sl 85) := rfl
theorem shp28 : shp T 28 = some (.sl 87) := rfl
theorem tInt {n : Nat} {ds : List D} {m : Nat} (h : TyD T n 3 ds m) : ∃ i, ds = [iD i] := h.int_ shp3
theorem tBool {n : Nat} {ds : List D} {m : Nat} (h : TyD T n 4 ds m) : ∃ b, ds = [bD b] := h.bool_ shp4
theorem tStr {n : Nat} {ds : List D} {m : Nat} (h : TyD T n 9 ds m) : ∃ s : List UInt8, ds = [.str s] := by
 obtain ⟨s, hs, _⟩ := h.str_ shp9; exact ⟨s, hs⟩
def OkB {α : Type} (p : α → Prop) (x : α) (m : Nat) : Prop := m ≤ 1048576 → p x
theorem ListOf.ok {α : Type} {p : α → Prop} {l : List α} {m : Nat} (h : ListOf (OkB p) l m) (hm : m ≤ 1048576) : l.length ≤ 1048576 ∧ ∀ x ∈ l, p x :=
 ⟨by have := h.len; omega, fun x hx => by obtain ⟨m', h1, h2⟩ := h.all x hx; exact h2 (by omega)⟩
theorem rdCond : ∀ (n : Nat) (ds : List D) (m : Nat), TyD T n 42 ds m → ∃ c : Cond, ds = c.cells ∧ OkB Cond.ok c m := by
 intro n
 induction n using Nat.strongRecOn with
 | ind n IH =>
   intro ds m h
   obtain ⟨k, rfl, xs, ms, rfl, h, hs⟩ := h.st_ shp40
   obtain ⟨x1, xs, m1, ms, rfl, rfl, h1, h⟩ := tyF_cons h
   obtain ⟨x2, xs, m2, ms, rfl, rfl, h2, h⟩ := tyF_cons h
   obtain ⟨x3, xs, m3, ms, rfl, rfl, h3, h⟩ := tyF_cons h
   obtain ⟨x4, xs, m4, ms, rfl, rfl, h4, h⟩ := tyF_cons h
   obtain ⟨rfl, rfl⟩ := tyF_nil h
   obtain ⟨i1, rfl⟩ := tInt h1
   obtain ⟨i2, rfl⟩ := tInt h2
   obtain ⟨i3, rfl⟩ := tInt h3
   obtain ⟨l, rfl, hl⟩ := h4.sl_ shp38 Cond.cells (OkB Cond.ok) (fun n' ds m hn h => IH n' (by omega) ds m h)
   simp only [List.sum_cons, List.sum_nil] at hs
   refine ⟨⟨i1, i2, i3, l⟩, by simp [Cond.cells_eq], fun hm => ?_⟩
   obtain ⟨k1, k2⟩ := hl.ok (by omega)
   exact ⟨k1, Cond.okL_iff.2 k2⟩
theorem rdStep : ∀ (n : Nat) (ds : List D) (m : Nat), TyD T n 54 ds m → ∃ c : Step, ds = c.cells ∧ OkB Step.ok c m := by
 intro n
 induction n using Nat.strongRecOn with
 | ind n IH =>
   intro ds m h
   obtain ⟨k, rfl, xs, ms, rfl, h, hs⟩ := h.st_ shp84
   obtain ⟨x1, xs, m1, ms, rfl, rfl, h1, h⟩ := tyF_cons h
   obtain ⟨x2, xs, m2, ms, rfl, rfl, h2, h⟩ := tyF_cons h
   obtain ⟨x3, xs, m3, ms, rfl, rfl, h3, h⟩ := tyF_cons h
   obtain ⟨x4, xs, m4, ms, rfl, rfl, h4, h⟩ := tyF_cons h
   obtain ⟨x5, xs, m5, ms, rfl, rfl, h5, h⟩ := tyF_cons h
   obtain ⟨rfl, rfl⟩ := tyF_nil h
   obtain ⟨i1, rfl⟩ := tInt h1
   obtain ⟨i2, rfl⟩ := tInt h2
   obtain ⟨c, rfl, hc⟩ := rdCond _ _ _ h3
   obtain ⟨l, rfl, hl⟩ := h4.sl_ shp29 Step.cells (OkB Step.ok) (fun n' ds m hn h => IH n' (by omega) ds m h)
   obtain ⟨l', rfl, hl'⟩ := h5.sl_ shp29 Step.cells (OkB Step.ok) (fun n' ds m hn h => IH n' (by omega) ds m h)
   simp only [List.sum_cons, List.sum_nil] at hs
   refine ⟨⟨i1, i2, c, l, l'⟩, by simp [Step.cells_eq, Cond.cells_eq], fun hm => ?_⟩
   obtain ⟨k1, k2⟩ := hl.ok (by omega)
   obtain ⟨k3, k4⟩ := hl'.ok (by omega)
   exact ⟨hc (by omega), ⟨k1, Step.okL_iff.2 k2⟩, k3, Step.okL_iff.2 k4⟩
theorem cntL_le {l : List Part} {m : Nat} (h : ListOf (fun p m => Part.cnt p ≤ m) l m) : Part.cntL l < m := by
 obtain ⟨ms, h1, h2⟩ := h.sums
 suffices Part.cntL l ≤ ms.sum by omega
 clear h2 h
 induction l generalizing ms with
 | nil => simp [Part.cntL]
 | cons x l ih =>
   cases ms with
   | nil => have := h1.len; simp at this
   | cons y ys =>
     have a := h1.get 0 x y rfl rfl
     have b := ih ys ⟨by have := h1.len; simpa using this, fun i a b ha hb => h1.get (i + 1) a b (by simpa using ha) (by simpa using hb)⟩
     simp only [Part.cntL, List.sum_cons]
     omega
theorem tPart : ∀ (n : Nat) (ds : List D) (m : Nat), TyD T n 115 ds m → ∃ c : Part, ds = c.cells ∧ Part.cnt c ≤ m := by
 intro n
 induction n using Nat.strongRecOn with
 | ind n IH =>
   intro ds m h
   obtain ⟨k, rfl, xs, ms, rfl, h, hs⟩ := h.st_ shp107
   obtain ⟨x1, xs, m1, ms, rfl, rfl, h1, h⟩ := tyF_cons h
   obtain ⟨x2, xs, m2, ms, rfl, rfl, h2, h⟩ := tyF_cons h
   obtain ⟨x3, xs, m3, ms, rfl, rfl, h3, h⟩ := tyF_cons h
   obtain ⟨rfl, rfl⟩ := tyF_nil h
   obtain ⟨i1, rfl⟩ := tInt h1
   obtain ⟨i2, rfl⟩ := tInt h2
   obtain ⟨l, rfl, hl⟩ := h3.sl_ shp56 Part.cells (fun p m => Part.cnt p ≤ m) (fun n' ds m hn h => IH n' (by omega) ds m h)
   simp only [List.sum_cons, List.sum_nil] at hs
   refine ⟨⟨i1, i2, l⟩, by simp [Part.cells_eq], ?_⟩
   have := cntL_le hl
   rw [Part.cnt]
   omega
def NoQ {α : Type} (_ : α) (_ : Nat) : Prop := True
theorem tMat (n : Nat) (ds : List D) (m : Nat) (h : TyD T n 74 ds m) : ∃ x : Mat, ds = x.cells ∧ NoQ x m := by
 obtain ⟨k, rfl, xs, ms, rfl, h, hs⟩ := h.st_ shp63
 obtain ⟨x1, xs, m1, ms, rfl, rfl, h1, h⟩ := tyF_cons h
 obtain ⟨x2, xs, m2, ms, rfl, rfl, h2, h⟩ := tyF_cons h
 obtain ⟨rfl, rfl⟩ := tyF_nil h
 obtain ⟨i1, rfl⟩ := tStr h1
 obtain ⟨i2, rfl⟩ := tInt h2
 exact ⟨⟨i1, i2⟩, rfl, trivial⟩
theorem tWave (n : Nat) (ds : List D) (m : Nat) (h : TyD T n 80 ds m) : ∃ x : Wave, ds = x.cells ∧ NoQ x m := by
 obtain ⟨k, rfl, xs, ms, rfl, h, hs⟩ := h.st_ shp74
 obtain ⟨x1, xs, m1, ms, rfl, rfl, h1, h⟩ := tyF_cons h
 obtain ⟨x2, xs, m2, ms, rfl, rfl, h2, h⟩ := tyF_cons h
 obtain ⟨rfl, rfl⟩ := tyF_nil h
 obtain ⟨i1, rfl⟩ := tStr h1
 obtain ⟨i2, rfl⟩ := tInt h2
 exact ⟨⟨i1, i2⟩, rfl, trivial⟩
theorem tCategory (n : Nat) (ds : List D) (m : Nat) (h : TyD T n 85 ds m) : ∃ x : Category, ds = x.cells ∧ NoQ x m := by
 obtain ⟨k, rfl, xs, ms, rfl, h, hs⟩ := h.st_ shp121
 obtain ⟨x1, xs, m1, ms, rfl, rfl, h1, h⟩ := tyF_cons h
 obtain ⟨x2, xs, m2, ms, rfl, rfl, h2, h⟩ := tyF_cons h
 obtain ⟨x3, xs, m3, ms, rfl, rfl, h3, h⟩ := tyF_cons h
 obtain ⟨rfl, rfl⟩ := tyF_nil h
 obtain ⟨i1, rfl⟩ := tStr h1
 obtain ⟨i2, rfl⟩ := tInt h2
 obtain ⟨i3, rfl⟩ := tInt h3
 exact ⟨⟨i1, i2, i3⟩, rfl, trivial⟩
theorem tCutoff (n : Nat) (ds : List D) (m : Nat) (h : TyD T n 57 ds m) : ∃ x : Cutoff, ds = x.cells ∧ NoQ x m := by
 obtain ⟨k, rfl, xs, ms, rfl, h, hs⟩ := h.st_ shp67
 obtain ⟨x1, xs, m1, ms, rfl, rfl, h1, h⟩ := tyF_cons h
 obtain ⟨x2, xs, m2, ms, rfl, rfl, h2, h⟩ := tyF_cons h
 obtain ⟨x3, xs, m3, ms, rfl, rfl, h3, h⟩ := tyF_cons h
 obtain ⟨rfl, rfl⟩ := tyF_nil h
 obtain ⟨i1, rfl⟩ := tInt h1
 obtain ⟨i2, rfl⟩ := tInt h2
 obtain ⟨i3, rfl⟩ := tInt h3
 exact ⟨⟨i1, i2, i3⟩, rfl, trivial⟩
theorem tLeg (n : Nat) (ds : List D) (m : Nat) (h : TyD T n 76 ds m) : ∃ x : Leg, ds = x.cells ∧ NoQ x m := by
 obtain ⟨k, rfl, xs, ms, rfl, h, hs⟩ := h.st_ shp65
 obtain ⟨x1, xs, m1, ms, rfl, rfl, h1, h⟩ := tyF_cons h
 obtain ⟨x2, xs, m2, ms, rfl, rfl, h2, h⟩ := tyF_cons h
 obtain ⟨x3, xs, m3, ms, rfl, rfl, h3, h⟩ := tyF_cons h
 obtain ⟨x4, xs, m4, ms, rfl, rfl, h4, h⟩ := tyF_cons h
 obtain ⟨rfl, rfl⟩ := tyF_nil h
 obtain ⟨i1, rfl⟩ := tInt h1
 obtain ⟨i2, rfl⟩ := tInt h2
 obtain ⟨i3, rfl⟩ := tInt h3
 obtain ⟨i4, rfl⟩ := tInt h4
 exact ⟨⟨i1, i2, i3, i4⟩, rfl, trivial⟩
theorem tPrize (n : Nat) (ds : List D) (m : Nat) (h : TyD T n 87 ds m) : ∃ x : Prize, ds = x.cells ∧ NoQ x m := by
 obtain ⟨k, rfl, xs, ms, rfl, h, hs⟩ := h.st_ shp70
 obtain ⟨x1, xs, m1, ms, rfl, rfl, h1, h⟩ := tyF_cons h
 obtain ⟨x2, xs, m2, ms, rfl, rfl, h2, h⟩ := tyF_cons h
 obtain ⟨x3, xs, m3, ms, rfl, rfl, h3, h⟩ := tyF_cons h
 obtain ⟨x4, xs, m4, ms, rfl, rfl, h4, h⟩ := tyF_cons h
 obtain ⟨rfl, rfl⟩ := tyF_nil h
 obtain ⟨i1, rfl⟩ := tInt h1
 obtain ⟨i2, rfl⟩ := tInt h2
 obtain ⟨i3, rfl⟩ := tInt h3
 obtain ⟨i4, rfl⟩ := tInt h4
 exact ⟨⟨i1, i2, i3, i4⟩, rfl, trivial⟩
theorem tOffence (n : Nat) (ds : List D) (m : Nat) (h : TyD T n 82 ds m) : ∃ x : Offence, ds = x.cells ∧ NoQ x m := by
 obtain ⟨k, rfl, xs, ms, rfl, h, hs⟩ := h.st_ shp72
 obtain ⟨x1, xs, m1, ms, rfl, rfl, h1, h⟩ := tyF_cons h
 obtain ⟨x2, xs, m2, ms, rfl, rfl, h2, h⟩ := tyF_cons h
 obtain ⟨x3, xs, m3, ms, rfl, rfl, h3, h⟩ := tyF_cons h
 obtain ⟨x4, xs, m4, ms, rfl, rfl, h4, h⟩ := tyF_cons h
 obtain ⟨rfl, rfl⟩ := tyF_nil h
 obtain ⟨i1, rfl⟩ := tStr h1
 obtain ⟨i2, rfl⟩ := tInt h2
 obtain ⟨i3, rfl⟩ := tInt h3
 obtain ⟨i4, rfl⟩ := tBool h4
 exact ⟨⟨i1, i2, i3, i4⟩, rfl, trivial⟩
theorem tDistance (n : Nat) (ds : List D) (m : Nat) (h : TyD T n 61 ds m) : ∃ x : Distance, ds = x.cells ∧ OkB (fun x : Distance => Part.cntL x.route ≤ 1048576 ∧ x.cutoffs.length ≤ 1048576) x m := by
 obtain ⟨k, rfl, xs, ms, rfl, h, hs⟩ := h.st_ shp59
 obtain ⟨x1, xs, m1, ms, rfl, rfl, h1, h⟩ := tyF_cons h
 obtain ⟨x2, xs, m2, ms, rfl, rfl, h2, h⟩ := tyF_cons h
 obtain ⟨x3, xs, m3, ms, rfl, rfl, h3, h⟩ := tyF_cons h
 obtain ⟨x4, xs, m4, ms, rfl, rfl, h4, h⟩ := tyF_cons h
 obtain ⟨x5, xs, m5, ms, rfl, rfl, h5, h⟩ := tyF_cons h
 obtain ⟨rfl, rfl⟩ := tyF_nil h
 obtain ⟨i1, rfl⟩ := tStr h1
 obtain ⟨l, rfl, hl⟩ := h2.sl_ shp56 Part.cells (fun p m => Part.cnt p ≤ m) (fun n' ds m hn h => tPart n' ds m h)
 obtain ⟨i3, rfl⟩ := tInt h3
 obtain ⟨l', rfl, hl'⟩ := h4.sl_ shp57 Cutoff.cells NoQ (fun n' ds m hn h => tCutoff n' ds m h)
 obtain ⟨i5, rfl⟩ := tInt h5
 simp only [List.sum_cons, List.sum_nil] at hs
 refine ⟨⟨i1, l, i3, l', i5⟩, rfl, fun hm => ⟨?_, ?_⟩⟩
 · have := cntL_le hl
   show Part.cntL l ≤ _
   omega
 · have := hl'.len
   show l'.length ≤ _
   omega
theorem tCourse (n : Nat) (ds : List D) (m : Nat) (h : TyD T n 33 ds m) : ∃ x : Course, ds = x.cells ∧ OkB Course.small x m := by
 obtain ⟨k, rfl, xs, ms, rfl, h, hs⟩ := h.st_ shp33
 obtain ⟨x1, xs, m1, ms, rfl, rfl, h1, h⟩ := tyF_cons h
 obtain ⟨x2, xs, m2, ms, rfl, rfl, h2, h⟩ := tyF_cons h
 obtain ⟨x3, xs, m3, ms, rfl, rfl, h3, h⟩ := tyF_cons h
 obtain ⟨x4, xs, m4, ms, rfl, rfl, h4, h⟩ := tyF_cons h
 obtain ⟨x5, xs, m5, ms, rfl, rfl, h5, h⟩ := tyF_cons h
 obtain ⟨x6, xs, m6, ms, rfl, rfl, h6, h⟩ := tyF_cons h
 obtain ⟨x7, xs, m7, ms, rfl, rfl, h7, h⟩ := tyF_cons h
 obtain ⟨x8, xs, m8, ms, rfl, rfl, h8, h⟩ := tyF_cons h
 obtain ⟨x9, xs, m9, ms, rfl, rfl, h9, h⟩ := tyF_cons h
 obtain ⟨x10, xs, m10, ms, rfl, rfl, h10, h⟩ := tyF_cons h
 obtain ⟨x11, xs, m11, ms, rfl, rfl, h11, h⟩ := tyF_cons h
 obtain ⟨x12, xs, m12, ms, rfl, rfl, h12, h⟩ := tyF_cons h
 obtain ⟨rfl, rfl⟩ := tyF_nil h
 obtain ⟨i1, rfl⟩ := tStr h1
 obtain ⟨l2, rfl, g2⟩ := h2.sl_ shp22 Mat.cells NoQ (fun n' ds m hn h => tMat n' ds m h)
 obtain ⟨l3, rfl, g3⟩ := h3.sl_ shp23 Leg.cells NoQ (fun n' ds m hn h => tLeg n' ds m h)
 obtain ⟨l4, rfl, g4⟩ := h4.sl_ shp24 Distance.cells _ (fun n' ds m hn h => tDistance n' ds m h)
 obtain ⟨l5, rfl, g5⟩ := h5.sl_ shp25 Wave.cells NoQ (fun n' ds m hn h => tWave n' ds m h)
 obtain ⟨l6, rfl, g6⟩ := h6.sl_ shp26 Offence.cells NoQ (fun n' ds m hn h => tOffence n' ds m h)
 obtain ⟨l7, rfl, g7⟩ := h7.sl_ shp27 Category.cells NoQ (fun n' ds m hn h => tCategory n' ds m h)
 obtain ⟨l8, rfl, g8⟩ := h8.sl_ shp28 Prize.cells NoQ (fun n' ds m hn h => tPrize n' ds m h)
 obtain ⟨l9, rfl, g9⟩ := h9.sl_ shp29 Step.cells (OkB Step.ok) (fun n' ds m hn h => rdStep n' ds m h)
 obtain ⟨_, _, ys, ns, rfl, f, _⟩ := h10.st_ shp31
 obtain ⟨y1, ys, n1, ns, rfl, rfl, f1, f⟩ := tyF_cons f
 obtain ⟨y2, ys, n2, ns, rfl, rfl, f2, f⟩ := tyF_cons f
 obtain ⟨y3, ys, n3, ns, rfl, rfl, f3, f⟩ := tyF_cons f
 obtain ⟨y4, ys, n4, ns, rfl, rfl, f4, f⟩ := tyF_cons f
 obtain ⟨y5, ys, n5, ns, rfl, rfl, f5, f⟩ := tyF_cons f
 obtain ⟨rfl, rfl⟩ := tyF_nil f
 obtain ⟨j1, rfl⟩ := tInt f1
 obtain ⟨j2, rfl⟩ := tInt f2
 obtain ⟨j3, rfl⟩ := tInt f3
 obtain ⟨j4, rfl⟩ := tInt f4
 obtain ⟨j5, rfl⟩ := tInt f5
 obtain ⟨i11, rfl⟩ := tInt h11
 obtain ⟨i12, rfl⟩ := tInt h12
 simp only [List.sum_cons, List.sum_nil] at hs
 refine ⟨⟨i1, l2, l3, l4, l5, l6, l7, l8, l9, ⟨j1, j2, j3, j4, j5⟩, i11, i12⟩, rfl, fun hm => ?_⟩
 have e2 := g2.len
 have e3 := g3.len
 have e4 := g4.ok (by omega)
 have e5 := g5.len
 have e6 := g6.len
 have e7 := g7.len
 have e8 := g8.len
 have e9 := g9.ok (by omega)
 exact ⟨by show l2.length ≤ _; omega, by show l3.length ≤ _; omega, e4.1, by show l5.length ≤ _; omega, by show l6.length ≤ _; omega, by show l7.length ≤ _; omega, by show l8.length ≤ _; omega, e9, fun d hd => (e4.2 d hd).1, fun d hd => (e4.2 d hd).2⟩
theorem tyVs_nil {ds : List D} {ms : List Nat} (h : TyVs T [] ds ms) : ds = [] ∧ ms = [] := by
 cases ds <;> cases ms <;> first | exact ⟨rfl, rfl⟩ | exact h.elim
theorem tyVs_cons {f : TypeId} {fs : List TypeId} {xs : List D} {ms : List Nat} (h : TyVs T (f :: fs) xs ms) :
 ∃ x xs' m ms', xs = x :: xs' ∧ ms = m :: ms' ∧ TyV T f x m ∧ TyVs T fs xs' ms' := by
 cases xs <;> cases ms <;> first | exact ⟨_, _, _, _, rfl, rfl, h.1, h.2⟩ | exact h.elim
theorem a1 {a : TypeId} {ds : List D} {ms : List Nat} (h : TyVs T [a] ds ms) (hm : ms.sum ≤ 1048576) : ∃ x k, ds = [x] ∧ TyV T a x k ∧ k ≤ 1048576 := by
 obtain ⟨x, xs, k, ms, rfl, rfl, h1, h⟩ := tyVs_cons h
 obtain ⟨rfl, rfl⟩ := tyVs_nil h
 simp only [List.sum_cons, List.sum_nil] at hm
 exact ⟨x, k, rfl, h1, by omega⟩
theorem a3 {a b c : TypeId} {ds : List D} {ms : List Nat} (h : TyVs T [a, b, c] ds ms) (hm : ms.sum ≤ 1048576) :
 ∃ x y z k m n, ds = [x, y, z] ∧ TyV T a x k ∧ TyV T b y m ∧ TyV T c z n ∧ k ≤ 1048576 ∧ m ≤ 1048576 ∧ n ≤ 1048576 := by
 obtain ⟨x, xs, k, ms, rfl, rfl, h1, h⟩ := tyVs_cons h
 obtain ⟨y, xs, m, ms, rfl, rfl, h2, h⟩ := tyVs_cons h
 obtain ⟨z, xs, n, ms, rfl, rfl, h3, h⟩ := tyVs_cons h
 obtain ⟨rfl, rfl⟩ := tyVs_nil h
 simp only [List.sum_cons, List.sum_nil] at hm
 exact ⟨x, y, z, k, m, n, rfl, h1, h2, h3, by omega, by omega, by omega⟩
theorem vCourse {d : D} {m : Nat} (h : TyV T 33 d m) (hm : m ≤ 1048576) : ∃ c : Course, d = c.d ∧ c.small := by
 obtain ⟨n, cs, h1, h2⟩ := h
 obtain ⟨c, rfl, hc⟩ := tCourse n cs m h1
 exact ⟨c, by rw [h2]; rfl, hc hm⟩
end Go.Proofs.YteckbkljaneppaaGreatDoor.Dx
