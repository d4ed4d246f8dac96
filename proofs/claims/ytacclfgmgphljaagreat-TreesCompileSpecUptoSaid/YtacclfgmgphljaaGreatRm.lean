/- The data of chapter 07. -/
import Derived.Test.YtacclfgmgphljaaGreatRl
set_option linter.all false
namespace Go.Proofs.YtacclfgmgphljaaGreat.Dx
open Go Go.RowKit
abbrev iD (n : Int) : D := .v (.int .i64 n)
abbrev bD (b : Bool) : D := .v (.bool b)
abbrev iB (n : Int) : Base := .d (iD n)
abbrev icells (n : Int) : List D := [iD n]
theorem icells_eq (n : Int) : icells n = [iD n] := rfl
structure Cond where
 kind : Int
 var : Int
 n : Int
 parts : List Cond
mutual
def Cond.cells : Cond → List D
 | ⟨k, v, n, ps⟩ => [iD k, iD v, iD n, .sl (Cond.cellsL ps)]
def Cond.cellsL : List Cond → List (List D)
 | [] => []
 | c :: cs => c.cells :: Cond.cellsL cs
end
theorem Cond.cellsL_eq : ∀ ps : List Cond, Cond.cellsL ps = ps.map Cond.cells := by
 intro ps
 induction ps with
 | nil => rfl
 | cons c ps ih => simp [Cond.cellsL, ih]
abbrev Cond.dc (c : Cond) : List D := [iD c.kind, iD c.var, iD c.n, .sl (c.parts.map Cond.cells)]
abbrev Cond.d (c : Cond) : D := .agg c.dc
theorem Cond.cells_eq (c : Cond) : c.cells = c.dc := by
 obtain ⟨k, v, n, ps⟩ := c
 simp only [Cond.cells, Cond.cellsL_eq]
theorem Cond.size_part {c x : Cond} (hx : x ∈ c.parts) : SizeOf.sizeOf x < SizeOf.sizeOf c := by
 obtain ⟨k, v, n, ps⟩ := c
 have := List.sizeOf_lt_of_mem hx
 simp only [Cond.mk.sizeOf_spec]
 simp only at this
 omega
structure Step where
 kind : Int
 crit : Int
 cond : Cond
 th : List Step
 el : List Step
mutual
def Step.cells : Step → List D
 | ⟨k, b, c, t, e⟩ => [iD k, iD b, iD c.kind, iD c.var, iD c.n, .sl (c.parts.map Cond.cells), .sl (Step.cellsL t), .sl (Step.cellsL e)]
def Step.cellsL : List Step → List (List D)
 | [] => []
 | c :: cs => c.cells :: Step.cellsL cs
end
theorem Step.cellsL_eq : ∀ ps : List Step, Step.cellsL ps = ps.map Step.cells := by
 intro ps
 induction ps with
 | nil => rfl
 | cons c ps ih => simp [Step.cellsL, ih]
abbrev Step.dc (s : Step) : List D := [iD s.kind, iD s.crit, iD s.cond.kind, iD s.cond.var, iD s.cond.n, .sl (s.cond.parts.map Cond.cells), .sl (s.th.map Step.cells), .sl (s.el.map Step.cells)]
abbrev Step.d (s : Step) : D := .agg s.dc
theorem Step.cells_eq (s : Step) : s.cells = s.dc := by
 obtain ⟨k, b, c, t, e⟩ := s
 simp only [Step.cells, Step.cellsL_eq]
structure Part where
 mat : Int
 laps : Int
 parts : List Part
structure Mat where
 name : List UInt8
 kind : Int
structure Leg where
 src : Int
 dst : Int
 lo : Int
 hi : Int
structure Cutoff where
 mat : Int
 lap : Int
 limit : Int
structure Distance where
 name : List UInt8
 route : List Part
 timing : Int
 cutoffs : List Cutoff
 extra : Int
structure Wave where
 name : List UInt8
 gun : Int
structure Offence where
 name : List UInt8
 time : Int
 laps : Int
 out : Bool
structure Category where
 name : List UInt8
 lo : Int
 hi : Int
structure Prize where
 distance : Int
 category : Int
 rank : Int
 amount : Int
structure Faults where
 misses : Int
 strays : Int
 window : Int
 residual : Int
 drift : Int
structure Course where
 name : List UInt8
 mats : List Mat
 legs : List Leg
 distances : List Distance
 waves : List Wave
 offences : List Offence
 categories : List Category
 prizes : List Prize
 ties : List Step
 faults : Faults
 fee : Int
 deadline : Int
structure Env where
 distance : Int
 field : Int
 short : Int
abbrev Env.d (x : Env) : D := .agg [iD x.distance, iD x.field, iD x.short]
/-- what tie rules consist of -/
inductive Form where
 | ofC (c : Cond)
 | ofS (s : Step)
def Form.t : Form → Nat | .ofC _ => 143 | .ofS _ => 123
def Form.x : Form → D | .ofC c => .agg [iD c.kind, iD c.var, iD c.n, .sl (c.parts.map Cond.cells)] | .ofS s => .agg [iD s.kind, iD s.crit, iD s.cond.kind, iD s.cond.var, iD s.cond.n, .sl (s.cond.parts.map Cond.cells), .sl (s.th.map Step.cells), .sl (s.el.map Step.cells)]
abbrev Form.d (f : Form) : D := .iface f.t f.x
abbrev Form.cells (f : Form) : List D := [f.d]
theorem Form.cells_eq (f : Form) : f.cells = [f.d] := rfl
theorem any_take {α : Type} {p : α → Bool} {xs : List α} (h : ∀ x ∈ xs, p x = false) : xs.any p = false := by
 rw [List.any_eq_false]; intro x hx; rw [h x hx]; simp
theorem take_snoc {α : Type} {p : α → Prop} {xs : List α} {i : Nat} (hi : i < xs.length) (h : ∀ x ∈ xs.take i, p x) (hx : p xs[i]) : ∀ x ∈ xs.take (i + 1), p x := by
 intro x hm
 rw [List.take_succ_eq_append_getElem hi, List.mem_append, List.mem_singleton] at hm
 rcases hm with hm | rfl
 · exact h x hm
 · exact hx
end Go.Proofs.YtacclfgmgphljaaGreat.Dx
/- Conditions and steps: what is asked of them. -/
namespace Go.Proofs.YtacclfgmgphljaaGreat.Dx
open Go Go.RowKit
def inR (lo hi n : Int) : Bool := decide (lo ≤ n) && decide (n ≤ hi)
def formsC (cs : List Cond) : List Form := cs.map .ofC
def formsS (ss : List Step) : List Form := ss.map .ofS
/-! Sizes, to go down by. -/
mutual
def Cond.sz : Cond → Nat
 | ⟨_, _, _, ps⟩ => 1 + Cond.szL ps
def Cond.szL : List Cond → Nat
 | [] => 0
 | c :: cs => 1 + c.sz + Cond.szL cs
end
mutual
def Step.sz : Step → Nat
 | ⟨_, _, c, t, e⟩ => 2 + c.sz + Step.szL t + Step.szL e
def Step.szL : List Step → Nat
 | [] => 0
 | c :: cs => 1 + c.sz + Step.szL cs
end
def Form.sz : Form → Nat | .ofC c => c.sz | .ofS s => s.sz
def szF (l : List Form) : Nat := (l.map fun f => 1 + f.sz).sum
theorem Cond.sz_eq (c : Cond) : c.sz = 1 + Cond.szL c.parts := by obtain ⟨k, v, n, ps⟩ := c; rfl
theorem Step.sz_eq (s : Step) : s.sz = 2 + s.cond.sz + Step.szL s.th + Step.szL s.el := by obtain ⟨k, b, c, t, e⟩ := s; rfl
theorem szF_C : ∀ cs : List Cond, szF (formsC cs) = Cond.szL cs := by
 intro cs
 induction cs with
 | nil => rfl
 | cons c cs ih => simp only [formsC, szF, List.map_cons, List.sum_cons, Cond.szL] at ih ⊢; rw [ih]; rfl
theorem szF_S : ∀ cs : List Step, szF (formsS cs) = Step.szL cs := by
 intro cs
 induction cs with
 | nil => rfl
 | cons c cs ih => simp only [formsS, szF, List.map_cons, List.sum_cons, Step.szL] at ih ⊢; rw [ih]; rfl
theorem szF_append (a b : List Form) : szF (a ++ b) = szF a + szF b := by simp [szF]
theorem szF_mem : ∀ {l : List Form} {f : Form}, f ∈ l → 1 + f.sz ≤ szF l := by
 intro l
 induction l with
 | nil => intro f h; cases h
 | cons x l ih =>
   intro f h
   simp only [szF, List.map_cons, List.sum_cons] at ih ⊢
   rcases List.mem_cons.1 h with rfl | h
   · omega
   · have := ih h; omega
/-! Lists that are not too long for append. -/
def small : Nat := 1048576
mutual
def Cond.ok : Cond → Prop
 | ⟨_, _, _, ps⟩ => ps.length ≤ 1048576 ∧ Cond.okL ps
def Cond.okL : List Cond → Prop
 | [] => True
 | c :: cs => c.ok ∧ Cond.okL cs
end
theorem Cond.okL_iff : ∀ {cs : List Cond}, Cond.okL cs ↔ ∀ c ∈ cs, c.ok := by
 intro cs
 induction cs with
 | nil => simp [Cond.okL]
 | cons c cs ih => simp [Cond.okL, ih]
theorem Cond.ok_iff {c : Cond} : c.ok ↔ c.parts.length ≤ 1048576 ∧ ∀ x ∈ c.parts, x.ok := by obtain ⟨k, v, n, ps⟩ := c; simp only [Cond.ok, Cond.okL_iff]
mutual
def Step.ok : Step → Prop
 | ⟨_, _, c, t, e⟩ => c.ok ∧ (t.length ≤ 1048576 ∧ Step.okL t) ∧ e.length ≤ 1048576 ∧ Step.okL e
def Step.okL : List Step → Prop
 | [] => True
 | c :: cs => c.ok ∧ Step.okL cs
end
theorem Step.okL_iff : ∀ {cs : List Step}, Step.okL cs ↔ ∀ c ∈ cs, c.ok := by
 intro cs
 induction cs with
 | nil => simp [Step.okL]
 | cons c cs ih => simp [Step.okL, ih]
theorem Step.ok_iff {s : Step} : s.ok ↔ s.cond.ok ∧ (s.th.length ≤ 1048576 ∧ ∀ x ∈ s.th, x.ok) ∧ s.el.length ≤ 1048576 ∧ ∀ x ∈ s.el, x.ok := by obtain ⟨k, b, c, t, e⟩ := s; simp only [Step.ok, Step.okL_iff]
def Form.ok : Form → Prop | .ofC c => c.ok | .ofS s => s.ok
theorem ok_formsC {cs : List Cond} (h : ∀ c ∈ cs, c.ok) : ∀ f ∈ formsC cs, f.ok := by
 intro f hf; obtain ⟨c, hc, rfl⟩ := List.mem_map.1 hf; exact h c hc
theorem ok_formsS {cs : List Step} (h : ∀ c ∈ cs, c.ok) : ∀ f ∈ formsS cs, f.ok := by
 intro f hf; obtain ⟨c, hc, rfl⟩ := List.mem_map.1 hf; exact h c hc
/-! Is a condition, a step as it should be? -/
def Cond.isZero (c : Cond) : Bool := decide (c.kind = 0) && (decide (c.var = 0) && (decide (c.n = 0) && decide ((c.parts.length : Int) = 0)))
mutual
def Cond.valid : Cond → Bool
 | ⟨k, v, n, ps⟩ =>
   if k = 1 then inR 1 3 v && (inR 0 10000 n && decide ((ps.length : Int) = 0))
   else if k = 4 then (decide (v = 0) && decide (n = 0)) && (decide ((ps.length : Int) = 1) && Cond.validL ps)
   else if k = 2 ∨ k = 3 then (decide (v = 0) && decide (n = 0)) && ((decide (0 < (ps.length : Int)) && decide ((ps.length : Int) ≤ 16)) && Cond.validL ps)
   else false
def Cond.validL : List Cond → Bool
 | [] => true
 | c :: cs => c.valid && Cond.validL cs
end
theorem Cond.validL_eq : ∀ cs : List Cond, Cond.validL cs = cs.all Cond.valid := by
 intro cs
 induction cs with
 | nil => rfl
 | cons c cs ih => simp [Cond.validL, ih]
theorem Cond.valid_eq (c : Cond) : c.valid = if c.kind = 1 then inR 1 3 c.var && (inR 0 10000 c.n && decide ((c.parts.length : Int) = 0))
 else if c.kind = 4 then (decide (c.var = 0) && decide (c.n = 0)) && (decide ((c.parts.length : Int) = 1) && c.parts.all Cond.valid)
 else if c.kind = 2 ∨ c.kind = 3 then (decide (c.var = 0) && decide (c.n = 0)) && ((decide (0 < (c.parts.length : Int)) && decide ((c.parts.length : Int) ≤ 16)) && c.parts.all Cond.valid)
 else false := by obtain ⟨k, v, n, ps⟩ := c; simp only [Cond.valid, Cond.validL_eq]
mutual
def Step.valid : Step → Bool
 | ⟨k, b, c, t, e⟩ =>
   if k = 1 then inR 1 5 b && (c.isZero && (decide ((t.length : Int) = 0) && decide ((e.length : Int) = 0)))
   else if k = 2 then decide (b = 0) && (c.valid && (decide (0 < (t.length : Int)) && (Step.validL t && Step.validL e)))
   else false
def Step.validL : List Step → Bool
 | [] => true
 | c :: cs => c.valid && Step.validL cs
end
theorem Step.validL_eq : ∀ cs : List Step, Step.validL cs = cs.all Step.valid := by
 intro cs
 induction cs with
 | nil => rfl
 | cons c cs ih => simp [Step.validL, ih]
theorem Step.valid_eq (s : Step) : s.valid = if s.kind = 1 then inR 1 5 s.crit && (s.cond.isZero && (decide ((s.th.length : Int) = 0) && decide ((s.el.length : Int) = 0)))
 else if s.kind = 2 then decide (s.crit = 0) && (s.cond.valid && (decide (0 < (s.th.length : Int)) && (s.th.all Step.valid && s.el.all Step.valid)))
 else false := by obtain ⟨k, b, c, t, e⟩ := s; simp only [Step.valid, Step.validL_eq]
def Form.valid : Form → Bool | .ofC c => c.valid | .ofS s => s.valid
theorem all_formsC (cs : List Cond) : (formsC cs).all Form.valid = cs.all Cond.valid := by simp only [formsC, List.all_map]; rfl
theorem all_formsS (cs : List Step) : (formsS cs).all Form.valid = cs.all Step.valid := by simp only [formsS, List.all_map]; rfl
end Go.Proofs.YtacclfgmgphljaaGreat.Dx
/- slices.IndexFunc, slices.ContainsFunc and typing.all. -/
namespace Go.Proofs.YtacclfgmgphljaaGreat.Dx
open Go Go.RowKit
set_option maxRecDepth 100000
set_option maxHeartbeats 4000000
theorem index_int (xs : List Int) (F : Nat) (fs cs : List D) (p : Int → Bool) (h : ∀ x ∈ xs, Meets Tryz.prog F (fs ++ ([iD x] ++ cs)) fun r => r = bD (p x)) :
 Meets Tryz.prog 103 [.sl (xs.map icells), .fn F fs cs] fun d => ∃ r : Int, d = iD r ∧ (decide (r ≥ 0)) = xs.any p := by
 refine enter tok {} Tryz.func103 rfl (by kernel_rfl) Tryz.ntmps103 (by simp) fun B0 W0 V0 lent g0 => ?_
 ((conv => whnf); repeat' (refine Z rfl ?_; conv => whnf))
 repeat' ((first | (intro hlq; (try simp only [SL] at hlq)) | refine Ka ?_ | refine Kb ?_ | refine Kc (hd := rfl) (e := ?_) | refine Kc (hd := Cond.cells_eq _) (e := ?_) | refine Kd (e := ?_) | refine Kl rfl ?_ | fail) <;> ((conv => whnf); repeat' (refine Z rfl ?_; conv => whnf)))
 refine loop_upd tok {} [] (X := Nat) (fun i => [(8, iB i)]) (fun _ => []) [] (fun i => i ≤ xs.length ∧ ∀ x ∈ xs.take i, p x = false) (fun i => xs.length - i) 0 ?_
 ((conv => whnf); repeat' (refine Z rfl ?_; conv => whnf))
 refine And.intro ?_ ⟨⟨by omega, by simp⟩, fun i hΦ => ?_⟩
 · exact Kr
 obtain ⟨hi, hp⟩ := hΦ
 ((conv => whnf); repeat' (refine Z rfl ?_; conv => whnf))
 refine ⟨fun h1 => ?_, fun h1 => ?_⟩ <;> (try simp only [BL] at h1) <;> ((conv => whnf); repeat' (refine Z rfl ?_; conv => whnf))
 · have h1' : i < xs.length := by omega
   repeat' ((first | (intro hlq; (try simp only [SL] at hlq)) | refine Ka ?_ | refine Kb ?_ | refine Kc (hd := rfl) (e := ?_) | refine Kc (hd := icells_eq _) (e := ?_) | refine Kd (e := ?_) | refine Kl rfl ?_ | fail) <;> ((conv => whnf); repeat' (refine Z rfl ?_; conv => whnf)))
   refine (h xs[i] (List.getElem_mem h1')).mono fun d hd => ?_
   subst hd
   ((conv => whnf); repeat' (refine Z rfl ?_; conv => whnf))
   refine ⟨fun h2 => ?_, fun h2 => ?_⟩ <;> (try simp only [BL] at h2) <;> ((conv => whnf); repeat' (refine Z rfl ?_; conv => whnf))
   · refine ⟨?_⟩
     exact ⟨_, rfl, by rw [List.any_eq_true.2 ⟨_, List.getElem_mem h1', h2⟩]; simp⟩
   · repeat' ((first | (intro hlq; (try simp only [SL] at hlq)) | refine Ka ?_ | refine Kb ?_ | refine Kc (hd := rfl) (e := ?_) | refine Kc (hd := Cond.cells_eq _) (e := ?_) | refine Kd (e := ?_) | refine Kl rfl ?_ | fail) <;> ((conv => whnf); repeat' (refine Z rfl ?_; conv => whnf)))
     refine ⟨⟨i + 1, ?_, ⟨by omega, take_snoc h1' hp h2⟩, by omega⟩⟩
     repeat' (first | exact True.intro | exact rfl | refine And.intro ?_ ?_)
 · refine ⟨?_⟩
   have : xs.take i = xs := List.take_of_length_le (by omega)
   rw [this] at hp
   exact ⟨_, rfl, by rw [any_take hp]; decide⟩
theorem contains_int (xs : List Int) (F : Nat) (fs cs : List D) (p : Int → Bool) (h : ∀ x ∈ xs, Meets Tryz.prog F (fs ++ ([iD x] ++ cs)) fun r => r = bD (p x)) :
 Meets Tryz.prog 88 [.sl (xs.map icells), .fn F fs cs] fun d => d = bD (xs.any p) := by
 refine enter tok {} Tryz.func88 rfl (by kernel_rfl) Tryz.ntmps88 (by simp) fun B0 W0 V0 lent g0 => ?_
 ((conv => whnf); repeat' (refine Z rfl ?_; conv => whnf))
 refine (index_int xs F fs cs p h).mono fun d hd => ?_
 obtain ⟨r, rfl, hr⟩ := hd
 ((conv => whnf); repeat' (refine Z rfl ?_; conv => whnf))
 refine ⟨?_⟩
 rw [hr]
theorem index_form (xs : List Form) (F : Nat) (fs cs : List D) (p : Form → Bool) (h : ∀ x ∈ xs, Meets Tryz.prog F (fs ++ ([x.d] ++ cs)) fun r => r = bD (p x)) :
 Meets Tryz.prog 93 [.sl (xs.map Form.cells), .fn F fs cs] fun d => ∃ r : Int, d = iD r ∧ (decide (r ≥ 0)) = xs.any p := by
 refine enter tok {} Tryz.func93 rfl (by kernel_rfl) Tryz.ntmps93 (by simp) fun B0 W0 V0 lent g0 => ?_
 ((conv => whnf); repeat' (refine Z rfl ?_; conv => whnf))
 repeat' ((first | (intro hlq; (try simp only [SL] at hlq)) | refine Ka ?_ | refine Kb ?_ | refine Kc (hd := rfl) (e := ?_) | refine Kc (hd := Cond.cells_eq _) (e := ?_) | refine Kd (e := ?_) | refine Kl rfl ?_ | fail) <;> ((conv => whnf); repeat' (refine Z rfl ?_; conv => whnf)))
 refine loop_upd tok {} [] (X := Nat) (fun i => [(8, iB i)]) (fun _ => []) [] (fun i => i ≤ xs.length ∧ ∀ x ∈ xs.take i, p x = false) (fun i => xs.length - i) 0 ?_
 ((conv => whnf); repeat' (refine Z rfl ?_; conv => whnf))
 refine And.intro ?_ ⟨⟨by omega, by simp⟩, fun i hΦ => ?_⟩
 · exact Kr
 obtain ⟨hi, hp⟩ := hΦ
 ((conv => whnf); repeat' (refine Z rfl ?_; conv => whnf))
 refine ⟨fun h1 => ?_, fun h1 => ?_⟩ <;> (try simp only [BL] at h1) <;> ((conv => whnf); repeat' (refine Z rfl ?_; conv => whnf))
 · have h1' : i < xs.length := by omega
   repeat' ((first | (intro hlq; (try simp only [SL] at hlq)) | refine Ka ?_ | refine Kb ?_ | refine Kc (hd := rfl) (e := ?_) | refine Kc (hd := Form.cells_eq _) (e := ?_) | refine Kd (e := ?_) | refine Kl rfl ?_ | fail) <;> ((conv => whnf); repeat' (refine Z rfl ?_; conv => whnf)))
   refine (h xs[i] (List.getElem_mem h1')).mono fun d hd => ?_
   subst hd
   ((conv => whnf); repeat' (refine Z rfl ?_; conv => whnf))
   refine ⟨fun h2 => ?_, fun h2 => ?_⟩ <;> (try simp only [BL] at h2) <;> ((conv => whnf); repeat' (refine Z rfl ?_; conv => whnf))
   · refine ⟨?_⟩
     exact ⟨_, rfl, by rw [List.any_eq_true.2 ⟨_, List.getElem_mem h1', h2⟩]; simp⟩
   · repeat' ((first | (intro hlq; (try simp only [SL] at hlq)) | refine Ka ?_ | refine Kb ?_ | refine Kc (hd := rfl) (e := ?_) | refine Kc (hd := Cond.cells_eq _) (e := ?_) | refine Kd (e := ?_) | refine Kl rfl ?_ | fail) <;> ((conv => whnf); repeat' (refine Z rfl ?_; conv => whnf)))
     refine ⟨⟨i + 1, ?_, ⟨by omega, take_snoc h1' hp h2⟩, by omega⟩⟩
     repeat' (first | exact True.intro | exact rfl | refine And.intro ?_ ?_)
 · refine ⟨?_⟩
   have : xs.take i = xs := List.take_of_length_le (by omega)
   rw [this] at hp
   exact ⟨_, rfl, by rw [any_take hp]; decide⟩
theorem contains_form (xs : List Form) (F : Nat) (fs cs : List D) (p : Form → Bool) (h : ∀ x ∈ xs, Meets Tryz.prog F (fs ++ ([x.d] ++ cs)) fun r => r = bD (p x)) :
 Meets Tryz.prog 69 [.sl (xs.map Form.cells), .fn F fs cs] fun d => d = bD (xs.any p) := by
 refine enter tok {} Tryz.func69 rfl (by kernel_rfl) Tryz.ntmps69 (by simp) fun B0 W0 V0 lent g0 => ?_
 ((conv => whnf); repeat' (refine Z rfl ?_; conv => whnf))
 refine (index_form xs F fs cs p h).mono fun d hd => ?_
 obtain ⟨r, rfl, hr⟩ := hd
 ((conv => whnf); repeat' (refine Z rfl ?_; conv => whnf))
 refine ⟨?_⟩
 rw [hr]
theorem index_cond (xs : List Cond) (F : Nat) (fs cs : List D) (p : Cond → Bool) (h : ∀ x ∈ xs, Meets Tryz.prog F (fs ++ ([x.d] ++ cs)) fun r => r = bD (p x)) :
 Meets Tryz.prog 100 [.sl (xs.map Cond.cells), .fn F fs cs] fun d => ∃ r : Int, d = iD r ∧ (decide (r ≥ 0)) = xs.any p := by
 refine enter tok {} Tryz.func100 rfl (by kernel_rfl) Tryz.ntmps100 (by simp) fun B0 W0 V0 lent g0 => ?_
 ((conv => whnf); repeat' (refine Z rfl ?_; conv => whnf))
 repeat' ((first | (intro hlq; (try simp only [SL] at hlq)) | refine Ka ?_ | refine Kb ?_ | refine Kc (hd := rfl) (e := ?_) | refine Kc (hd := Cond.cells_eq _) (e := ?_) | refine Kd (e := ?_) | refine Kl rfl ?_ | fail) <;> ((conv => whnf); repeat' (refine Z rfl ?_; conv => whnf)))
 refine loop_upd tok {} [] (X := Nat) (fun i => [(8, iB i)]) (fun _ => []) [] (fun i => i ≤ xs.length ∧ ∀ x ∈ xs.take i, p x = false) (fun i => xs.length - i) 0 ?_
 ((conv => whnf); repeat' (refine Z rfl ?_; conv => whnf))
 refine And.intro ?_ ⟨⟨by omega, by simp⟩, fun i hΦ => ?_⟩
 · exact Kr
 obtain ⟨hi, hp⟩ := hΦ
 ((conv => whnf); repeat' (refine Z rfl ?_; conv => whnf))
 refine ⟨fun h1 => ?_, fun h1 => ?_⟩ <;> (try simp only [BL] at h1) <;> ((conv => whnf); repeat' (refine Z rfl ?_; conv => whnf))
 · have h1' : i < xs.length := by omega
   repeat' ((first | (intro hlq; (try simp only [SL] at hlq)) | refine Ka ?_ | refine Kb ?_ | refine Kc (hd := rfl) (e := ?_) | refine Kc (hd := Cond.cells_eq _) (e := ?_) | refine Kd (e := ?_) | refine Kl rfl ?_ | fail) <;> ((conv => whnf); repeat' (refine Z rfl ?_; conv => whnf)))
   refine (h xs[i] (List.getElem_mem h1')).mono fun d hd => ?_
   subst hd
   ((conv => whnf); repeat' (refine Z rfl ?_; conv => whnf))
   refine ⟨fun h2 => ?_, fun h2 => ?_⟩ <;> (try simp only [BL] at h2) <;> ((conv => whnf); repeat' (refine Z rfl ?_; conv => whnf))
   · refine ⟨?_⟩
     exact ⟨_, rfl, by rw [List.any_eq_true.2 ⟨_, List.getElem_mem h1', h2⟩]; simp⟩
   · repeat' ((first | (intro hlq; (try simp only [SL] at hlq)) | refine Ka ?_ | refine Kb ?_ | refine Kc (hd := rfl) (e := ?_) | refine Kc (hd := Cond.cells_eq _) (e := ?_) | refine Kd (e := ?_) | refine Kl rfl ?_ | fail) <;> ((conv => whnf); repeat' (refine Z rfl ?_; conv => whnf)))
     refine ⟨⟨i + 1, ?_, ⟨by omega, take_snoc h1' hp h2⟩, by omega⟩⟩
     repeat' (first | exact True.intro | exact rfl | refine And.intro ?_ ?_)
 · refine ⟨?_⟩
   have : xs.take i = xs := List.take_of_length_le (by omega)
   rw [this] at hp
   exact ⟨_, rfl, by rw [any_take hp]; decide⟩
theorem contains_cond (xs : List Cond) (F : Nat) (fs cs : List D) (p : Cond → Bool) (h : ∀ x ∈ xs, Meets Tryz.prog F (fs ++ ([x.d] ++ cs)) fun r => r = bD (p x)) :
 Meets Tryz.prog 83 [.sl (xs.map Cond.cells), .fn F fs cs] fun d => d = bD (xs.any p) := by
 refine enter tok {} Tryz.func83 rfl (by kernel_rfl) Tryz.ntmps83 (by simp) fun B0 W0 V0 lent g0 => ?_
 ((conv => whnf); repeat' (refine Z rfl ?_; conv => whnf))
 refine (index_cond xs F fs cs p h).mono fun d hd => ?_
 obtain ⟨r, rfl, hr⟩ := hd
 ((conv => whnf); repeat' (refine Z rfl ?_; conv => whnf))
 refine ⟨?_⟩
 rw [hr]
end Go.Proofs.YtacclfgmgphljaaGreat.Dx
/- typing: within, conds, steps, parts. -/
namespace Go.Proofs.YtacclfgmgphljaaGreat.Dx
open Go Go.RowKit
set_option maxRecDepth 100000
set_option maxHeartbeats 4000000
theorem within_meets (lo hi : Int) (ns : List Int) : Meets Tryz.prog 60 [iD lo, iD hi, .sl (ns.map icells)] fun d => d = bD (ns.all (inR lo hi)) := by
 refine enter tok {} Tryz.func60 rfl (by kernel_rfl) Tryz.ntmps60 (by simp) fun B0 W0 V0 lent g0 => ?_
 ((conv => whnf); repeat' (refine Z rfl ?_; conv => whnf))
 refine (contains_int ns 89 [] [.ptr [iD lo] 0, .ptr [iD hi] 0] (fun n => !inR lo hi n) fun n _ => ?_).mono fun d hd => ?_
 · refine enter tok {} Tryz.func89 rfl (by kernel_rfl) Tryz.ntmps89 (by simp) fun B0 W0 V0 lent g0 => ?_
   ((conv => whnf); repeat' (refine Z rfl ?_; conv => whnf))
   refine ⟨fun h => ?_, fun h => ?_⟩ <;> (try simp only [BL] at h) <;> ((conv => whnf); repeat' (refine Z rfl ?_; conv => whnf))
   · refine ⟨congrArg bD ?_⟩
     unfold inR; by_cases a : lo ≤ n <;> by_cases b : n ≤ hi <;> simp [a, b] <;> omega
   · refine ⟨congrArg bD ?_⟩
     unfold inR; by_cases a : lo ≤ n <;> by_cases b : n ≤ hi <;> simp [a, b] <;> omega
 subst hd
 ((conv => whnf); repeat' (refine Z rfl ?_; conv => whnf))
 refine ⟨?_⟩
 rw [← List.not_all_eq_any_not, Bool.not_not]
theorem map_take_succ {α β : Type} (f : α → β) {xs : List α} {i : Nat} (h : i < xs.length) : (xs.take i).map f ++ [f xs[i]] = (xs.take (i + 1)).map f := by
 rw [List.take_succ_eq_append_getElem h, List.map_append]; rfl
theorem conds_meets (cs : List Cond) (hn : cs.length ≤ 1048576) : Meets Tryz.prog 108 [.sl (cs.map Cond.cells)] fun d => d = .sl ((formsC cs).map Form.cells) := by
 refine enter tok {} Tryz.func108 rfl (by kernel_rfl) Tryz.ntmps108 (by simp) fun B0 W0 V0 lent g0 => ?_
 ((conv => whnf); repeat' (refine Z rfl ?_; conv => whnf))
 repeat' ((first | (intro hlq; (try simp only [SL] at hlq)) | refine Ka ?_ | refine Kb ?_ | refine Kc (hd := rfl) (e := ?_) | refine Kc (hd := Cond.cells_eq _) (e := ?_) | refine Kd (e := ?_) | refine Kl rfl ?_ | fail) <;> ((conv => whnf); repeat' (refine Z rfl ?_; conv => whnf)))
 refine loop_upd tok {} [(.inl 2, 2, 120, 1)] (X := Nat × List (List D)) (fun x => [(7, iB x.1), (2, .own 2)]) (fun x => [(2, .sl ⟨120, 1, x.2, true⟩)]) [] (fun x => x.1 ≤ cs.length ∧ x.2 = (cs.take x.1).map fun c => Form.cells (.ofC c)) (fun x => cs.length - x.1) (0, []) ?_
 ((conv => whnf); repeat' (refine Z rfl ?_; conv => whnf))
 refine ⟨by simp, ?_⟩
 ((conv => whnf); repeat' (refine Z rfl ?_; conv => whnf))
 refine And.intro ?_ ⟨⟨by omega, by simp⟩, fun x hΦ => ?_⟩
 · exact Kr
 obtain ⟨i, xs⟩ := x
 obtain ⟨hi, hx⟩ := hΦ
 dsimp only at hi hx
 ((conv => whnf); repeat' (refine Z rfl ?_; conv => whnf))
 refine ⟨fun h1 => ?_, fun h1 => ?_⟩ <;> (try simp only [BL] at h1) <;> ((conv => whnf); repeat' (refine Z rfl ?_; conv => whnf))
 · have h1' : i < cs.length := by omega
   repeat' ((first | (intro hlq; (try simp only [SL] at hlq)) | refine Ka ?_ | refine Kb ?_ | refine Kc (hd := rfl) (e := ?_) | refine Kc (hd := Cond.cells_eq _) (e := ?_) | refine Kd (e := ?_) | refine Kl rfl ?_ | fail) <;> ((conv => whnf); repeat' (refine Z rfl ?_; conv => whnf)))
   refine ⟨by simp, ?_⟩
   ((conv => whnf); repeat' (refine Z rfl ?_; conv => whnf))
   refine ⟨fun h1 h2 => ?_, ?_⟩
   · have : xs.length = i := by rw [hx]; simp; omega
     simp only [maxLen, List.length_singleton] at *
     omega
   ((conv => whnf); repeat' (refine Z rfl ?_; conv => whnf))
   repeat' ((first | (intro hlq; (try simp only [SL] at hlq)) | refine Ka ?_ | refine Kb ?_ | refine Kc (hd := rfl) (e := ?_) | refine Kc (hd := Cond.cells_eq _) (e := ?_) | refine Kd (e := ?_) | refine Kl rfl ?_ | fail) <;> ((conv => whnf); repeat' (refine Z rfl ?_; conv => whnf)))
   refine ⟨⟨(i + 1, xs ++ [Form.cells (.ofC cs[i])]), ?_, ⟨by dsimp only; omega, by dsimp only; rw [hx]; exact map_take_succ (fun c => Form.cells (.ofC c)) h1'⟩, by dsimp only; omega⟩⟩
   repeat' (first | exact True.intro | exact rfl | refine And.intro ?_ ?_)
 · skip
   refine ⟨?_⟩
   have : cs.take i = cs := List.take_of_length_le (by omega)
   rw [this] at hx
   rw [hx, formsC, List.map_map]; rfl
theorem steps_own (cs : List Step) (hn : cs.length ≤ 1048576) : MeetsO Tryz.prog 47 [.sl (cs.map Step.cells)] 120 1 fun xs => xs = (formsS cs).map Form.cells := by
 refine MeetsO.of 2 ?_
 refine enterR tok {} Tryz.func47 rfl (by kernel_rfl) Tryz.ntmps47 (by simp) fun B0 W0 V0 lent g0 => ?_
 ((conv => whnf); repeat' (refine Z rfl ?_; conv => whnf))
 repeat' ((first | (intro hlq; (try simp only [SL] at hlq)) | refine Ka ?_ | refine Kb ?_ | refine Kc (hd := rfl) (e := ?_) | refine Kc (hd := Cond.cells_eq _) (e := ?_) | refine Kd (e := ?_) | refine Kl rfl ?_ | fail) <;> ((conv => whnf); repeat' (refine Z rfl ?_; conv => whnf)))
 refine loop_upd tok {} [(.inl 2, 2, 120, 1)] (X := Nat × List (List D)) (fun x => [(7, iB x.1), (2, .own 2)]) (fun x => [(2, .sl ⟨120, 1, x.2, true⟩)]) [] (fun x => x.1 ≤ cs.length ∧ x.2 = (cs.take x.1).map fun c => Form.cells (.ofS c)) (fun x => cs.length - x.1) (0, []) ?_
 ((conv => whnf); repeat' (refine Z rfl ?_; conv => whnf))
 refine ⟨by simp, ?_⟩
 ((conv => whnf); repeat' (refine Z rfl ?_; conv => whnf))
 refine And.intro ?_ ⟨⟨by omega, by simp⟩, fun x hΦ => ?_⟩
 · exact Kr
 obtain ⟨i, xs⟩ := x
 obtain ⟨hi, hx⟩ := hΦ
 dsimp only at hi hx
 ((conv => whnf); repeat' (refine Z rfl ?_; conv => whnf))
 refine ⟨fun h1 => ?_, fun h1 => ?_⟩ <;> (try simp only [BL] at h1) <;> ((conv => whnf); repeat' (refine Z rfl ?_; conv => whnf))
 · have h1' : i < cs.length := by omega
   repeat' ((first | (intro hlq; (try simp only [SL] at hlq)) | refine Ka ?_ | refine Kb ?_ | refine Kc (hd := rfl) (e := ?_) | refine Kc (hd := Step.cells_eq _) (e := ?_) | refine Kd (e := ?_) | refine Kl rfl ?_ | fail) <;> ((conv => whnf); repeat' (refine Z rfl ?_; conv => whnf)))
   refine ⟨by simp, ?_⟩
   ((conv => whnf); repeat' (refine Z rfl ?_; conv => whnf))
   refine ⟨fun h1 h2 => ?_, ?_⟩
   · have : xs.length = i := by rw [hx]; simp; omega
     simp only [maxLen, List.length_singleton] at *
     omega
   ((conv => whnf); repeat' (refine Z rfl ?_; conv => whnf))
   repeat' ((first | (intro hlq; (try simp only [SL] at hlq)) | refine Ka ?_ | refine Kb ?_ | refine Kc (hd := rfl) (e := ?_) | refine Kc (hd := Cond.cells_eq _) (e := ?_) | refine Kd (e := ?_) | refine Kl rfl ?_ | fail) <;> ((conv => whnf); repeat' (refine Z rfl ?_; conv => whnf)))
   refine ⟨⟨(i + 1, xs ++ [Form.cells (.ofS cs[i])]), ?_, ⟨by dsimp only; omega, by dsimp only; rw [hx]; exact map_take_succ (fun c => Form.cells (.ofS c)) h1'⟩, by dsimp only; omega⟩⟩
   repeat' (first | exact True.intro | exact rfl | refine And.intro ?_ ?_)
 · refine ⟨[(2, .sl ⟨120, 1, xs, true⟩)], .own 2, ?_, ⟨?_⟩⟩
   · exact Kr
   have : cs.take i = cs := List.take_of_length_le (by omega)
   rw [this] at hx
   exact ⟨_, rfl, rfl, by rw [hx, formsS, List.map_map]; rfl⟩
end Go.Proofs.YtacclfgmgphljaaGreat.Dx
/- typing: isZero, parts, valid. -/
namespace Go.Proofs.YtacclfgmgphljaaGreat.Dx
open Go Go.RowKit
set_option maxRecDepth 100000
set_option maxHeartbeats 4000000
theorem isZero_meets (c : Cond) : Meets Tryz.prog 92 [c.d] fun d => d = bD c.isZero := by
 refine enter tok {} Tryz.func92 rfl (by kernel_rfl) Tryz.ntmps92 (by simp) fun B0 W0 V0 lent g0 => ?_
 ((conv => whnf); repeat' (refine Z rfl ?_; conv => whnf))
 repeat' ((first | (intro hlq; (try simp only [SL] at hlq)) | ((refine Kh (fun hb => ?_) fun hb => ?_) <;> (try simp only [BL] at hb)) | refine Ka ?_ | refine Kb ?_ | refine Kc (hd := rfl) (e := ?_) | refine Kc (hd := Cond.cells_eq _) (e := ?_) | refine Kd (e := ?_) | refine Kl rfl ?_ | fail) <;> ((conv => whnf); repeat' (refine Z rfl ?_; conv => whnf)))
 all_goals refine ⟨congrArg bD ?_⟩
 all_goals simp_all [Cond.isZero]
theorem partsC_meets (c : Cond) (hn : c.parts.length ≤ 1048576) : Meets Tryz.prog 104 [c.d] fun d => d = .sl ((formsC c.parts).map Form.cells) := by
 refine enter tok {} Tryz.func104 rfl (by kernel_rfl) Tryz.ntmps104 (by simp) fun B0 W0 V0 lent g0 => ?_
 ((conv => whnf); repeat' (refine Z rfl ?_; conv => whnf))
 refine (conds_meets c.parts hn).mono fun d hd => ?_
 subst hd
 ((conv => whnf); repeat' (refine Z rfl ?_; conv => whnf))
 exact ⟨rfl⟩
theorem steps_meets (cs : List Step) (hn : cs.length ≤ 1048576) : Meets Tryz.prog 47 [.sl (cs.map Step.cells)] fun d => d = .sl ((formsS cs).map Form.cells) :=
 (steps_own cs hn).data.mono fun d ⟨xs, h1, h2⟩ => by rw [h1, h2]
theorem partsS_meets (s : Step) (hn : s.th.length ≤ 1048576 ∧ s.el.length ≤ 1048576) : Meets Tryz.prog 105 [s.d] fun d => d = .sl ((formsS s.th ++ formsS s.el).map Form.cells) := by
 refine enter tok {rs := [6]} Tryz.func105 rfl (by kernel_rfl) Tryz.ntmps105 (by simp) fun B0 W0 V0 lent g0 => ?_
 ((conv => whnf); repeat' (refine vcC_go tok {rs := [6]} rfl ?_; conv => whnf))
 refine draw_rule tok (cf := {rs := [6]}) (by kernel_rfl) [.p 0, .p 1, .p 2, .p 4, .p 5, .p 6, .s 3 [2,1,0], .s 7 [6,5,4], .s 8 [], .p 9] (by kernel_rfl) ?_
 ((conv => whnf); repeat' (refine vcC_go tok {rs := [6]} rfl ?_; conv => whnf))
 refine ⟨[], _, ⟨?_, trivial⟩, ((steps_own s.th hn.1).own 6).mono ?_⟩
 · exact Kr
 rintro o O' ⟨xs, rfl, rfl, rfl⟩
 ((conv => whnf); repeat' (refine vcC_go tok {rs := [6]} rfl ?_; conv => whnf))
 repeat' ((first | (intro hlq; (try simp only [SL] at hlq)) | refine Ka ?_ | refine Kb ?_ | refine Kc (hd := rfl) (e := ?_) | refine Kc (hd := Cond.cells_eq _) (e := ?_) | refine Kd (e := ?_) | refine Kl rfl ?_ | fail) <;> ((conv => whnf); repeat' (refine vcC_go tok {rs := [6]} rfl ?_; conv => whnf)))
 refine (steps_meets s.el hn.2).mono fun d hd => ?_
 subst hd
 ((conv => whnf); repeat' (refine vcC_go tok {rs := [6]} rfl ?_; conv => whnf))
 refine ⟨fun ds hds => by obtain ⟨f, _, rfl⟩ := List.mem_map.1 hds; rfl, ?_⟩
 ((conv => whnf); repeat' (refine vcC_go tok {rs := [6]} rfl ?_; conv => whnf))
 refine ⟨fun _ _ => by simp [formsS]; omega, ?_⟩
 ((conv => whnf); repeat' (refine vcC_go tok {rs := [6]} rfl ?_; conv => whnf))
 repeat' ((first | (intro hlq; (try simp only [SL] at hlq)) | refine Ka ?_ | refine Kb ?_ | refine Kc (hd := rfl) (e := ?_) | refine Kc (hd := Cond.cells_eq _) (e := ?_) | refine Kd (e := ?_) | refine Kl rfl ?_ | fail) <;> ((conv => whnf); repeat' (refine vcC_go tok {rs := [6]} rfl ?_; conv => whnf)))
 refine ⟨?_⟩
 rw [List.map_append]
theorem methC : Meth Tryz.prog 143 "stopwatch/typing.parts" 104 := fun W x => by kernel_rfl
theorem methS : Meth Tryz.prog 123 "stopwatch/typing.parts" 105 := fun W x => by kernel_rfl
theorem invalid_of {f : Form} (h : Meets Tryz.prog 94 [f.d] fun d => d = bD f.valid) : Meets Tryz.prog 70 [f.d] fun d => d = bD (!f.valid) := by
 refine enter tok {} Tryz.func70 rfl (by kernel_rfl) Tryz.ntmps70 (by simp) fun B0 W0 V0 lent g0 => ?_
 ((conv => whnf); repeat' (refine Z rfl ?_; conv => whnf))
 refine h.mono fun d hd => ?_
 subst hd
 ((conv => whnf); repeat' (refine Z rfl ?_; conv => whnf))
 exact ⟨rfl⟩
theorem anyF {l : List Form} : (l.any fun f => !f.valid) = !l.all Form.valid := by rw [List.not_all_eq_any_not]
theorem invalids {l : List Form} (hv : ∀ f ∈ l, Meets Tryz.prog 94 [f.d] fun d => d = bD f.valid) : Meets Tryz.prog 69 [.sl (l.map Form.cells), .fn 70 [] []] fun d => d = bD (!l.all Form.valid) := by
 rw [← anyF]
 exact contains_form l 70 [] [] (fun f => !f.valid) fun f hf => invalid_of (hv f hf)
theorem valid_walkC (c : Cond) (hok : c.ok) (hv : ∀ f ∈ formsC c.parts, Meets Tryz.prog 94 [f.d] fun d => d = bD f.valid) : Meets Tryz.prog 94 [(Form.ofC c).d] fun d => d = bD (Form.ofC c).valid := by
 have hl := (Cond.ok_iff.1 hok).1
 have hinv := invalids hv
 refine enter tok {} Tryz.func94 rfl (by kernel_rfl) Tryz.ntmps94 (by simp) fun B0 W0 V0 lent g0 => ?_
 ((conv => whnf); repeat' (refine Z rfl ?_; conv => whnf))
 repeat' ((first | (intro hlq; (try simp only [SL] at hlq)) | refine Meets.k (within_meets _ _ [_]) ?_ | refine Meets.k (partsC_meets c hl) ?_ | refine Meets.k (hinv) ?_ | ((refine Kh (fun hb => ?_) fun hb => ?_) <;> (try simp only [BL] at hb)) | refine Ka ?_ | refine Kb ?_ | refine Kc (hd := rfl) (e := ?_) | refine Kc (hd := Cond.cells_eq _) (e := ?_) | refine Kd (e := ?_) | refine Kl rfl ?_ | fail) <;> ((conv => whnf); repeat' (refine Z rfl ?_; conv => whnf)))
 all_goals clear hinv hv hok
 all_goals refine ⟨congrArg bD ?_⟩
 all_goals rw [show (Form.ofC c).valid = c.valid from rfl, Cond.valid_eq]
 all_goals try rw [all_formsC]
 all_goals simp_all
 all_goals omega
theorem valid_walkS (s : Step) (hok : s.ok) (hc : Meets Tryz.prog 94 [(Form.ofC s.cond).d] fun d => d = bD (Form.ofC s.cond).valid) (hv : ∀ f ∈ formsS s.th ++ formsS s.el, Meets Tryz.prog 94 [f.d] fun d => d = bD f.valid) : Meets Tryz.prog 94 [(Form.ofS s).d] fun d => d = bD (Form.ofS s).valid := by
 have ho := Step.ok_iff.1 hok
 have hinv := invalids hv
 refine enter tok {} Tryz.func94 rfl (by kernel_rfl) Tryz.ntmps94 (by simp) fun B0 W0 V0 lent g0 => ?_
 ((conv => whnf); repeat' (refine Z rfl ?_; conv => whnf))
 repeat' ((first | (intro hlq; (try simp only [SL] at hlq)) | refine Meets.k (within_meets _ _ [_]) ?_ | refine Meets.k (isZero_meets s.cond) ?_ | refine Meets.k (partsS_meets s ⟨ho.2.1.1, ho.2.2.1⟩) ?_ | refine Meets.k (hinv) ?_ | refine Meets.k (hc) ?_ | ((refine Kh (fun hb => ?_) fun hb => ?_) <;> (try simp only [BL] at hb)) | refine Ka ?_ | refine Kb ?_ | refine Kc (hd := rfl) (e := ?_) | refine Kc (hd := Cond.cells_eq _) (e := ?_) | refine Kd (e := ?_) | refine Kl rfl ?_ | fail) <;> ((conv => whnf); repeat' (refine Z rfl ?_; conv => whnf)))
 all_goals clear hinv hv hok ho hc
 all_goals refine ⟨congrArg bD ?_⟩
 all_goals rw [show (Form.ofS s).valid = s.valid from rfl, Step.valid_eq]
 all_goals try rw [List.all_append, all_formsS, all_formsS]
 all_goals simp_all [formsS, Form.valid]
 all_goals first | omega | (rw [Bool.eq_iff_iff]; simp only [decide_eq_true_eq, Bool.and_eq_true, ← List.length_eq_zero_iff]; omega)
theorem valid_meets (f : Form) (hok : f.ok) : Meets Tryz.prog 94 [f.d] fun d => d = bD f.valid := by
 cases hf : f with
 | ofC c =>
   have hc : c.ok := by rw [hf] at hok; exact hok
   refine valid_walkC c hc fun g hg => valid_meets g (ok_formsC (Cond.ok_iff.1 hc).2 g hg)
 | ofS s =>
   have hs : s.ok := by rw [hf] at hok; exact hok
   have ho := Step.ok_iff.1 hs
   refine valid_walkS s hs (valid_meets (.ofC s.cond) ho.1) fun g hg => valid_meets g ?_
   rcases List.mem_append.1 hg with h | h
   · exact ok_formsS ho.2.1.2 g h
   · exact ok_formsS ho.2.2.2 g h
termination_by f.sz
decreasing_by
 · rw [hf]
   have := szF_mem hg
   rw [szF_C] at this
   have h2 := c.sz_eq
   simp only [Form.sz] at *
   omega
 · rw [hf]
   have h2 := s.sz_eq
   simp only [Form.sz] at *
   omega
 · rw [hf]
   have := szF_mem hg
   rw [szF_append, szF_S, szF_S] at this
   have h2 := s.sz_eq
   simp only [Form.sz] at *
   omega
end Go.Proofs.YtacclfgmgphljaaGreat.Dx
