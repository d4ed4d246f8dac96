/- The executor over data, part Z: loops over functions. -/
import Derived.Test.YteckbkljaneppaaGreatDoorMi
import Derived.Test.YteckbkljaneppaaGreatDoorMg
import Derived.Test.YteckbkljaneppaaGreatDoorMj
set_option linter.all false
namespace Go.Proofs.YteckbkljaneppaaGreatDoor.Dx
open Go Go.RowKit
section
variable {P : Program} {T : List (Nat × TI)} {C : Cx} {γ : Gm} {st : SSt} {V : Know} {a : Act} {W : World}
end
end Go.Proofs.YteckbkljaneppaaGreatDoor.Dx
/- Small laws for walks over data. -/
namespace Go.Proofs.YteckbkljaneppaaGreatDoor.Dx
open Go Go.RowKit
theorem getD_at {α : Type} {xs : List α} (f : α → List D) {i : Nat} (h : i < xs.length) {ds : List D} (hd : f xs[i] = ds) : (xs.map f)[((i : Nat) : Int).toNat]? = some ds := by
 rw [Int.toNat_natCast, List.getElem?_map, List.getElem?_eq_getElem h, Option.map_some, hd]
theorem str_at {s : List UInt8} {i : Nat} (h : i < s.length) : s[((i : Nat) : Int).toNat]? = some s[i] := by
 rw [Int.toNat_natCast, List.getElem?_eq_getElem h]
theorem BB : (∀ (p : Prop) [Decidable p], (decide p = true) = p) ∧ (∀ (p : Prop) [Decidable p], (decide p = false) = ¬ p) ∧ (∀ b : Bool, ((!b) = true) = (b = false)) ∧ (∀ b : Bool, ((!b) = false) = (b = true)) ∧
 (∀ b : Bool, (¬ (b = true)) = (b = false)) ∧ (∀ b : Bool, (¬ (b = false)) = (b = true)) ∧ (∀ a b : Bool, ((a || b) = true) = (a = true ∨ b = true)) ∧ (∀ a b : Bool, ((a && b) = true) = (a = true ∧ b = true)) ∧
 (∀ a b : Bool, ((a || b) = false) = (a = false ∧ b = false)) ∧ (∀ a b : Bool, ((a && b) = false) = (a = true → b = false)) :=
 ⟨fun p _ => by simp, fun p _ => by simp, by decide, by decide, by decide, by decide, by decide, by decide, by decide, by decide⟩
theorem i64 {n : Int} (h0 : -9223372036854775808 ≤ n) (h1 : n ≤ 9223372036854775807) : inKind .i64 n := ⟨h0, h1⟩
theorem Ka {H1 H2 C E : Prop} (e : E) (h : H1 → H2 → C := by (intro h1 h2; have := h1.1; have := h1.2; have := h2.1; have := h2.2; refine ⟨?_, ?_⟩ <;> ((try dsimp only at *); first | omega | (simp only [List.length_map] at *; omega)))) : (H1 → H2 → C) ∧ E := ⟨h, e⟩
theorem Kb {a b c d : Int} {E : Prop} (e : E) (h1 : a ≤ b := by ((try dsimp only at *); omega)) (h2 : c < d := by ((try dsimp only at *); omega)) : (a ≤ b ∧ c < d) ∧ E := ⟨⟨h1, h2⟩, e⟩
theorem Kc {α : Type} {xs : List α} {f : α → List D} {i n : Nat} {ds : List D} {E : List D → Prop} (h : i < xs.length := by ((try dsimp only at *); (try simp only [List.length_map] at *); omega)) (hd : f (xs[i]'h) = ds) (e : E ds)
 (hl : ds.length = n := by rfl) : ∃ ds, (0 ≤ (i : Int) ∧ (xs.map f)[((i : Nat) : Int).toNat]? = some ds ∧ ds.length = n) ∧ E ds :=
 ⟨ds, ⟨Int.natCast_nonneg _, getD_at f h hd, hl⟩, e⟩
theorem Kd {s : List UInt8} {i : Nat} {E : UInt8 → Prop} (h : i < s.length := by ((try dsimp only at *); (try simp only [List.length_map] at *); omega)) (e : E (s[i]'h)) : ∃ c, (0 ≤ (i : Int) ∧ s[((i : Nat) : Int).toNat]? = some c) ∧ E c :=
 ⟨s[i], ⟨Int.natCast_nonneg _, str_at h⟩, e⟩
theorem Z {C : Cx} {st : SSt} {c : Code} {Q : Post} (h : plainC c = true) (k : vcC Tryz.prog T C {} c Q st) : J Tryz.prog C c Q st := vcC_go tok {} h k
theorem Kl {n m : Nat} {O O' : List (Nat × Blk)} {E : Prop} (h : look n O = look m O') (e : E) : look n O = look m O' ∧ E := ⟨h, e⟩
theorem Kh {c d : Bool} {E F : Prop} (h : c = true → E) (k : d = false → F) : (c = true → E) ∧ (d = false → F) := ⟨h, k⟩
theorem Kr {E : Prop} (h : E := by repeat' (first | exact True.intro | exact rfl | refine And.intro ?_ ?_)) : E := h
theorem SL : (∀ (α β : Type) (f : α → β) (l : List α), (l.map f).length = l.length) ∧ maxLen = 2 ^ 63 - 1 := ⟨fun _ _ _ _ => List.length_map .., rfl⟩
theorem BL : ((∀ (p : Prop) [Decidable p], (decide p = true) = p) ∧ (∀ (p : Prop) [Decidable p], (decide p = false) = ¬ p) ∧ (∀ b : Bool, ((!b) = true) = (b = false)) ∧ (∀ b : Bool, ((!b) = false) = (b = true)) ∧
 (∀ b : Bool, (¬ (b = true)) = (b = false)) ∧ (∀ b : Bool, (¬ (b = false)) = (b = true)) ∧ (∀ a b : Bool, ((a || b) = true) = (a = true ∨ b = true)) ∧ (∀ a b : Bool, ((a && b) = true) = (a = true ∧ b = true)) ∧
 (∀ a b : Bool, ((a || b) = false) = (a = false ∧ b = false)) ∧ (∀ a b : Bool, ((a && b) = false) = (a = true → b = false))) ∧ ∀ (α β : Type) (f : α → β) (l : List α), (l.map f).length = l.length := ⟨BB, fun _ _ _ _ => List.length_map ..⟩
theorem Y {C : Cx} {st : SSt} {c : Code} {Q : Post} (cf : Cfg) (h : plainC c = true) (k : vcC Tryz.prog T C cf c Q st) : J Tryz.prog C c Q st := vcC_go tok cf h k
end Go.Proofs.YteckbkljaneppaaGreatDoor.Dx
/- The data of chapter 07. -/
namespace Go.Proofs.YteckbkljaneppaaGreatDoor.Dx
open Go Go.RowKit
abbrev iD (n : Int) : D := .v (.int .i64 n)
abbrev bD (b : Bool) : D := .v (.bool b)
abbrev iB (n : Int) : Base := .d (iD n)
abbrev icells (n : Int) : List D := [iD n]
theorem icells_eq (n : Int) : icells n = [iD n] := rfl
structure Cond where
 kind : Int
 var : Int
 n : Int
 parts : List Cond
mutual
def Cond.cells : Cond → List D
 | ⟨k, v, n, ps⟩ => [iD k, iD v, iD n, .sl (Cond.cellsL ps)]
def Cond.cellsL : List Cond → List (List D)
 | [] => []
 | c :: cs => c.cells :: Cond.cellsL cs
end
theorem Cond.cellsL_eq : ∀ ps : List Cond, Cond.cellsL ps = ps.map Cond.cells := by
 intro ps
 induction ps with
 | nil => rfl
 | cons c ps ih => simp [Cond.cellsL, ih]
abbrev Cond.dc (c : Cond) : List D := [iD c.kind, iD c.var, iD c.n, .sl (c.parts.map Cond.cells)]
abbrev Cond.d (c : Cond) : D := .agg c.dc
theorem Cond.cells_eq (c : Cond) : c.cells = c.dc := by
 obtain ⟨k, v, n, ps⟩ := c
 simp only [Cond.cells, Cond.cellsL_eq]
theorem Cond.size_part {c x : Cond} (hx : x ∈ c.parts) : SizeOf.sizeOf x < SizeOf.sizeOf c := by
 obtain ⟨k, v, n, ps⟩ := c
 have := List.sizeOf_lt_of_mem hx
 simp only [Cond.mk.sizeOf_spec]
 simp only at this
 omega
structure Step where
 kind : Int
 crit : Int
 cond : Cond
 th : List Step
 el : List Step
mutual
def Step.cells : Step → List D
 | ⟨k, b, c, t, e⟩ => [iD k, iD b, iD c.kind, iD c.var, iD c.n, .sl (c.parts.map Cond.cells), .sl (Step.cellsL t), .sl (Step.cellsL e)]
def Step.cellsL : List Step → List (List D)
 | [] => []
 | c :: cs => c.cells :: Step.cellsL cs
end
theorem Step.cellsL_eq : ∀ ps : List Step, Step.cellsL ps = ps.map Step.cells := by
 intro ps
 induction ps with
 | nil => rfl
 | cons c ps ih => simp [Step.cellsL, ih]
abbrev Step.dc (s : Step) : List D := [iD s.kind, iD s.crit, iD s.cond.kind, iD s.cond.var, iD s.cond.n, .sl (s.cond.parts.map Cond.cells), .sl (s.th.map Step.cells), .sl (s.el.map Step.cells)]
abbrev Step.d (s : Step) : D := .agg s.dc
theorem Step.cells_eq (s : Step) : s.cells = s.dc := by
 obtain ⟨k, b, c, t, e⟩ := s
 simp only [Step.cells, Step.cellsL_eq]
theorem Step.size_th {c x : Step} (hx : x ∈ c.th) : SizeOf.sizeOf x < SizeOf.sizeOf c := by
 obtain ⟨k, b, c, t, e⟩ := c
 have := List.sizeOf_lt_of_mem hx
 simp only [Step.mk.sizeOf_spec]
 simp only at this
 omega
theorem Step.size_el {c x : Step} (hx : x ∈ c.el) : SizeOf.sizeOf x < SizeOf.sizeOf c := by
 obtain ⟨k, b, c, t, e⟩ := c
 have := List.sizeOf_lt_of_mem hx
 simp only [Step.mk.sizeOf_spec]
 simp only at this
 omega
structure Part where
 mat : Int
 laps : Int
 parts : List Part
mutual
def Part.cells : Part → List D
 | ⟨m, l, ps⟩ => [iD m, iD l, .sl (Part.cellsL ps)]
def Part.cellsL : List Part → List (List D)
 | [] => []
 | c :: cs => c.cells :: Part.cellsL cs
end
theorem Part.cellsL_eq : ∀ ps : List Part, Part.cellsL ps = ps.map Part.cells := by
 intro ps
 induction ps with
 | nil => rfl
 | cons c ps ih => simp [Part.cellsL, ih]
abbrev Part.dc (c : Part) : List D := [iD c.mat, iD c.laps, .sl (c.parts.map Part.cells)]
abbrev Part.d (c : Part) : D := .agg c.dc
theorem Part.cells_eq (c : Part) : c.cells = c.dc := by
 obtain ⟨m, l, ps⟩ := c
 simp only [Part.cells, Part.cellsL_eq]
theorem Part.size_part {c x : Part} (hx : x ∈ c.parts) : SizeOf.sizeOf x < SizeOf.sizeOf c := by
 obtain ⟨m, l, ps⟩ := c
 have := List.sizeOf_lt_of_mem hx
 simp only [Part.mk.sizeOf_spec]
 simp only at this
 omega
structure Mat where
 name : List UInt8
 kind : Int
abbrev Mat.cells (m : Mat) : List D := [.str m.name, iD m.kind]
abbrev Mat.d (m : Mat) : D := .agg m.cells
theorem Mat.cells_eq (m : Mat) : m.cells = [.str m.name, iD m.kind] := rfl
structure Leg where
 src : Int
 dst : Int
 lo : Int
 hi : Int
abbrev Leg.cells (m : Leg) : List D := [iD m.src, iD m.dst, iD m.lo, iD m.hi]
abbrev Leg.d (m : Leg) : D := .agg m.cells
theorem Leg.cells_eq (m : Leg) : m.cells = [iD m.src, iD m.dst, iD m.lo, iD m.hi] := rfl
structure Cutoff where
 mat : Int
 lap : Int
 limit : Int
abbrev Cutoff.cells (m : Cutoff) : List D := [iD m.mat, iD m.lap, iD m.limit]
abbrev Cutoff.d (m : Cutoff) : D := .agg m.cells
theorem Cutoff.cells_eq (m : Cutoff) : m.cells = [iD m.mat, iD m.lap, iD m.limit] := rfl
structure Distance where
 name : List UInt8
 route : List Part
 timing : Int
 cutoffs : List Cutoff
 extra : Int
abbrev Distance.cells (m : Distance) : List D := [.str m.name, .sl (m.route.map Part.cells), iD m.timing, .sl (m.cutoffs.map Cutoff.cells), iD m.extra]
abbrev Distance.d (m : Distance) : D := .agg m.cells
theorem Distance.cells_eq (m : Distance) : m.cells = [.str m.name, .sl (m.route.map Part.cells), iD m.timing, .sl (m.cutoffs.map Cutoff.cells), iD m.extra] := rfl
structure Wave where
 name : List UInt8
 gun : Int
abbrev Wave.cells (m : Wave) : List D := [.str m.name, iD m.gun]
abbrev Wave.d (m : Wave) : D := .agg m.cells
theorem Wave.cells_eq (m : Wave) : m.cells = [.str m.name, iD m.gun] := rfl
structure Offence where
 name : List UInt8
 time : Int
 laps : Int
 out : Bool
abbrev Offence.cells (m : Offence) : List D := [.str m.name, iD m.time, iD m.laps, bD m.out]
abbrev Offence.d (m : Offence) : D := .agg m.cells
theorem Offence.cells_eq (m : Offence) : m.cells = [.str m.name, iD m.time, iD m.laps, bD m.out] := rfl
structure Category where
 name : List UInt8
 lo : Int
 hi : Int
abbrev Category.cells (m : Category) : List D := [.str m.name, iD m.lo, iD m.hi]
abbrev Category.d (m : Category) : D := .agg m.cells
theorem Category.cells_eq (m : Category) : m.cells = [.str m.name, iD m.lo, iD m.hi] := rfl
structure Prize where
 distance : Int
 category : Int
 rank : Int
 amount : Int
abbrev Prize.cells (m : Prize) : List D := [iD m.distance, iD m.category, iD m.rank, iD m.amount]
abbrev Prize.d (m : Prize) : D := .agg m.cells
theorem Prize.cells_eq (m : Prize) : m.cells = [iD m.distance, iD m.category, iD m.rank, iD m.amount] := rfl
structure Faults where
 misses : Int
 strays : Int
 window : Int
 residual : Int
 drift : Int
structure Course where
 name : List UInt8
 mats : List Mat
 legs : List Leg
 distances : List Distance
 waves : List Wave
 offences : List Offence
 categories : List Category
 prizes : List Prize
 ties : List Step
 faults : Faults
 fee : Int
 deadline : Int
abbrev Course.cells (c : Course) : List D := [.str c.name, .sl (c.mats.map Mat.cells), .sl (c.legs.map Leg.cells), .sl (c.distances.map Distance.cells), .sl (c.waves.map Wave.cells), .sl (c.offences.map Offence.cells), .sl (c.categories.map Category.cells), .sl (c.prizes.map Prize.cells), .sl (c.ties.map Step.cells),
 iD c.faults.misses, iD c.faults.strays, iD c.faults.window, iD c.faults.residual, iD c.faults.drift, iD c.fee, iD c.deadline]
abbrev Course.d (c : Course) : D := .agg c.cells
structure Env where
 distance : Int
 field : Int
 short : Int
inductive Form where
 | ofC (c : Cond)
 | ofS (s : Step)
def Form.t : Form → Nat | .ofC _ => 136 | .ofS _ => 202
def Form.x : Form → D | .ofC c => .agg [iD c.kind, iD c.var, iD c.n, .sl (c.parts.map Cond.cells)] | .ofS s => .agg [iD s.kind, iD s.crit, iD s.cond.kind, iD s.cond.var, iD s.cond.n, .sl (s.cond.parts.map Cond.cells), .sl (s.th.map Step.cells), .sl (s.el.map Step.cells)]
abbrev Form.d (f : Form) : D := .iface f.t f.x
abbrev Form.cells (f : Form) : List D := [f.d]
theorem Form.cells_eq (f : Form) : f.cells = [f.d] := rfl
theorem any_take {α : Type} {p : α → Bool} {xs : List α} (h : ∀ x ∈ xs, p x = false) : xs.any p = false := by
 rw [List.any_eq_false]; intro x hx; rw [h x hx]; simp
theorem take_snoc {α : Type} {p : α → Prop} {xs : List α} {i : Nat} (hi : i < xs.length) (h : ∀ x ∈ xs.take i, p x) (hx : p xs[i]) : ∀ x ∈ xs.take (i + 1), p x := by
 intro x hm
 rw [List.take_succ_eq_append_getElem hi, List.mem_append, List.mem_singleton] at hm
 rcases hm with hm | rfl
 · exact h x hm
 · exact hx
end Go.Proofs.YteckbkljaneppaaGreatDoor.Dx
/- Conditions and steps: what is asked of them. -/
namespace Go.Proofs.YteckbkljaneppaaGreatDoor.Dx
open Go Go.RowKit
def inR (lo hi n : Int) : Bool := decide (lo ≤ n) && decide (n ≤ hi)
def formsC (cs : List Cond) : List Form := cs.map .ofC
def formsS (ss : List Step) : List Form := ss.map .ofS
mutual
def Cond.sz : Cond → Nat
 | ⟨_, _, _, ps⟩ => 1 + Cond.szL ps
def Cond.szL : List Cond → Nat
 | [] => 0
 | c :: cs => 1 + c.sz + Cond.szL cs
end
mutual
def Step.sz : Step → Nat
 | ⟨_, _, c, t, e⟩ => 2 + c.sz + Step.szL t + Step.szL e
def Step.szL : List Step → Nat
 | [] => 0
 | c :: cs => 1 + c.sz + Step.szL cs
end
def Form.sz : Form → Nat | .ofC c => c.sz | .ofS s => s.sz
def szF (l : List Form) : Nat := (l.map fun f => 1 + f.sz).sum
theorem Cond.sz_eq (c : Cond) : c.sz = 1 + Cond.szL c.parts := by obtain ⟨k, v, n, ps⟩ := c; rfl
theorem Step.sz_eq (s : Step) : s.sz = 2 + s.cond.sz + Step.szL s.th + Step.szL s.el := by obtain ⟨k, b, c, t, e⟩ := s; rfl
theorem szF_C : ∀ cs : List Cond, szF (formsC cs) = Cond.szL cs := by
 intro cs
 induction cs with
 | nil => rfl
 | cons c cs ih => simp only [formsC, szF, List.map_cons, List.sum_cons, Cond.szL] at ih ⊢; rw [ih]; rfl
theorem szF_S : ∀ cs : List Step, szF (formsS cs) = Step.szL cs := by
 intro cs
 induction cs with
 | nil => rfl
 | cons c cs ih => simp only [formsS, szF, List.map_cons, List.sum_cons, Step.szL] at ih ⊢; rw [ih]; rfl
theorem szF_append (a b : List Form) : szF (a ++ b) = szF a + szF b := by simp [szF]
theorem szF_mem : ∀ {l : List Form} {f : Form}, f ∈ l → 1 + f.sz ≤ szF l := by
 intro l
 induction l with
 | nil => intro f h; cases h
 | cons x l ih =>
   intro f h
   simp only [szF, List.map_cons, List.sum_cons] at ih ⊢
   rcases List.mem_cons.1 h with rfl | h
   · omega
   · have := ih h; omega
def small : Nat := 1048576
mutual
def Cond.ok : Cond → Prop
 | ⟨_, _, _, ps⟩ => ps.length ≤ 1048576 ∧ Cond.okL ps
def Cond.okL : List Cond → Prop
 | [] => True
 | c :: cs => c.ok ∧ Cond.okL cs
end
theorem Cond.okL_iff : ∀ {cs : List Cond}, Cond.okL cs ↔ ∀ c ∈ cs, c.ok := by
 intro cs
 induction cs with
 | nil => simp [Cond.okL]
 | cons c cs ih => simp [Cond.okL, ih]
theorem Cond.ok_iff {c : Cond} : c.ok ↔ c.parts.length ≤ 1048576 ∧ ∀ x ∈ c.parts, x.ok := by obtain ⟨k, v, n, ps⟩ := c; simp only [Cond.ok, Cond.okL_iff]
mutual
def Step.ok : Step → Prop
 | ⟨_, _, c, t, e⟩ => c.ok ∧ (t.length ≤ 1048576 ∧ Step.okL t) ∧ e.length ≤ 1048576 ∧ Step.okL e
def Step.okL : List Step → Prop
 | [] => True
 | c :: cs => c.ok ∧ Step.okL cs
end
theorem Step.okL_iff : ∀ {cs : List Step}, Step.okL cs ↔ ∀ c ∈ cs, c.ok := by
 intro cs
 induction cs with
 | nil => simp [Step.okL]
 | cons c cs ih => simp [Step.okL, ih]
theorem Step.ok_iff {s : Step} : s.ok ↔ s.cond.ok ∧ (s.th.length ≤ 1048576 ∧ ∀ x ∈ s.th, x.ok) ∧ s.el.length ≤ 1048576 ∧ ∀ x ∈ s.el, x.ok := by obtain ⟨k, b, c, t, e⟩ := s; simp only [Step.ok, Step.okL_iff]
def Form.ok : Form → Prop | .ofC c => c.ok | .ofS s => s.ok
theorem ok_formsC {cs : List Cond} (h : ∀ c ∈ cs, c.ok) : ∀ f ∈ formsC cs, f.ok := by
 intro f hf; obtain ⟨c, hc, rfl⟩ := List.mem_map.1 hf; exact h c hc
theorem ok_formsS {cs : List Step} (h : ∀ c ∈ cs, c.ok) : ∀ f ∈ formsS cs, f.ok := by
 intro f hf; obtain ⟨c, hc, rfl⟩ := List.mem_map.1 hf; exact h c hc
def Cond.isZero (c : Cond) : Bool := decide (c.kind = 0) && (decide (c.var = 0) && (decide (c.n = 0) && decide ((c.parts.length : Int) = 0)))
mutual
def Cond.valid : Cond → Bool
 | ⟨k, v, n, ps⟩ =>
   if k = 1 then inR 1 3 v && (inR 0 10000 n && decide ((ps.length : Int) = 0))
   else if k = 4 then (decide (v = 0) && decide (n = 0)) && (decide ((ps.length : Int) = 1) && Cond.validL ps)
   else if k = 2 ∨ k = 3 then (decide (v = 0) && decide (n = 0)) && ((decide (0 < (ps.length : Int)) && decide ((ps.length : Int) ≤ 16)) && Cond.validL ps)
   else false
def Cond.validL : List Cond → Bool
 | [] => true
 | c :: cs => c.valid && Cond.validL cs
end
theorem Cond.validL_eq : ∀ cs : List Cond, Cond.validL cs = cs.all Cond.valid := by
 intro cs
 induction cs with
 | nil => rfl
 | cons c cs ih => simp [Cond.validL, ih]
theorem Cond.valid_eq (c : Cond) : c.valid = if c.kind = 1 then inR 1 3 c.var && (inR 0 10000 c.n && decide ((c.parts.length : Int) = 0))
 else if c.kind = 4 then (decide (c.var = 0) && decide (c.n = 0)) && (decide ((c.parts.length : Int) = 1) && c.parts.all Cond.valid)
 else if c.kind = 2 ∨ c.kind = 3 then (decide (c.var = 0) && decide (c.n = 0)) && ((decide (0 < (c.parts.length : Int)) && decide ((c.parts.length : Int) ≤ 16)) && c.parts.all Cond.valid)
 else false := by obtain ⟨k, v, n, ps⟩ := c; simp only [Cond.valid, Cond.validL_eq]
mutual
def Step.valid : Step → Bool
 | ⟨k, b, c, t, e⟩ =>
   if k = 1 then inR 1 5 b && (c.isZero && (decide ((t.length : Int) = 0) && decide ((e.length : Int) = 0)))
   else if k = 2 then decide (b = 0) && (c.valid && (decide (0 < (t.length : Int)) && (Step.validL t && Step.validL e)))
   else false
def Step.validL : List Step → Bool
 | [] => true
 | c :: cs => c.valid && Step.validL cs
end
theorem Step.validL_eq : ∀ cs : List Step, Step.validL cs = cs.all Step.valid := by
 intro cs
 induction cs with
 | nil => rfl
 | cons c cs ih => simp [Step.validL, ih]
theorem Step.valid_eq (s : Step) : s.valid = if s.kind = 1 then inR 1 5 s.crit && (s.cond.isZero && (decide ((s.th.length : Int) = 0) && decide ((s.el.length : Int) = 0)))
 else if s.kind = 2 then decide (s.crit = 0) && (s.cond.valid && (decide (0 < (s.th.length : Int)) && (s.th.all Step.valid && s.el.all Step.valid)))
 else false := by obtain ⟨k, b, c, t, e⟩ := s; simp only [Step.valid, Step.validL_eq]
def Form.valid : Form → Bool | .ofC c => c.valid | .ofS s => s.valid
theorem all_formsC (cs : List Cond) : (formsC cs).all Form.valid = cs.all Cond.valid := by simp only [formsC, List.all_map]; rfl
theorem all_formsS (cs : List Step) : (formsS cs).all Form.valid = cs.all Step.valid := by simp only [formsS, List.all_map]; rfl
end Go.Proofs.YteckbkljaneppaaGreatDoor.Dx
