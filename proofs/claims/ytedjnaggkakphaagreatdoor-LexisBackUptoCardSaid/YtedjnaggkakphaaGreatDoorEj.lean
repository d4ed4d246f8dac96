/- The reference's Few and Alike. -/
import Derived.Test.YtedjnaggkakphaaGreatDoorEi
import Derived.Test.YtedjnaggkakphaaGreatDoorDy
import Derived.Test.YtedjnaggkakphaaGreatDoorEh
set_option linter.all false
namespace Go.Proofs.YtedjnaggkakphaaGreatDoor.Dx
open Go Go.RowKit Go.Proofs
set_option maxRecDepth 100000
set_option maxHeartbeats 8000000
def fewN (l : List TkZ) : Nat := (l.map fun t => 1 + t.text.length).sum
def fewB (l : List TkZ) : Bool := decide (fewN l ≤ 3000)
theorem fewN_take (l : List TkZ) {i : Nat} (h : i < l.length) : fewN (l.take (i + 1)) = fewN (l.take i) + 1 + l[i].text.length := by
 rw [List.take_succ_eq_append_getElem h, fewN, fewN, List.map_append, List.sum_append]
 simp
 omega
theorem fewN_le : ∀ (l : List TkZ) (i : Nat), fewN (l.take i) ≤ fewN l
 | [], i => by rw [List.take_nil]; exact Nat.le_refl _
 | t :: l, 0 => Nat.zero_le _
 | t :: l, i + 1 => by
   have := fewN_le l i
   simp only [fewN, List.take_succ_cons, List.map_cons, List.sum_cons] at this ⊢
   omega
theorem rFew_meets (l : List TkZ) (hn : l.length ≤ 1048576) (hl : ∀ t ∈ l, t.text.length ≤ 1048576) : Meets Tryz.prog 16 [.sl (l.map TkZ.cells)] fun d => d = bD (fewB l) := by
 have hb : ∀ i, i ≤ l.length → fewN (l.take i) ≤ 1048577 * i := by
  intro i
  induction i with
  | zero => intro _; simp [fewN]
  | succ i ih =>
    intro h
    rw [fewN_take l h]
    have := hl l[i] (List.getElem_mem _)
    have := ih (by omega)
    omega
 refine enter tok {} Tryz.func16 rfl (by kernel_rfl) Tryz.ntmps16 (by simp) fun B0 W0 V0 lent g0 => ?_
 ((conv => whnf); repeat' (refine Z rfl ?_; conv => whnf))
 refine loop_upd tok {} [] (X := Nat) (fun i => [(4, iB i), (3, iB (fewN (l.take i)))]) (fun _ => []) [] (fun i => i ≤ l.length) (fun i => l.length - i) 0 ?_
 ((conv => whnf); repeat' (refine Z rfl ?_; conv => whnf))
 refine And.intro ?_ ⟨by omega, fun i hi => ?_⟩
 · exact Kr
 have hbi := hb i hi
 have hle := fewN_le l i
 ((conv => whnf); repeat' (refine Z rfl ?_; conv => whnf))
 repeat' ((first | (intro hlq; (try simp only [SL] at hlq)) | refine Ks ?_ | refine Kq ?_ | refine Kt ?_ | ((refine Kh (fun hb => ?_) fun hb => ?_) <;> (try simp only [BL] at hb)) | refine Ka ?_ | refine Kb ?_ | refine Kc (hd := rfl) (e := ?_) | refine Kc (hd := icells_eq _) (e := ?_) | refine Kd (e := ?_) | refine Kl rfl ?_ | fail) <;> ((conv => whnf); repeat' (refine Z rfl ?_; conv => whnf)))
 · have hx : i < l.length := by omega
   have hst := fewN_take l hx
   have := hl l[i] (List.getElem_mem _)
   refine ⟨fun _ _ => i64 (by omega) (by omega), ?_⟩
   ((conv => whnf); repeat' (refine Z rfl ?_; conv => whnf))
   repeat' ((first | (intro hlq; (try simp only [SL] at hlq)) | refine Ks ?_ | refine Kq ?_ | refine Kt ?_ | refine Ka ?_ | refine Kb ?_ | refine Kc (hd := rfl) (e := ?_) | refine Kc (hd := icells_eq _) (e := ?_) | refine Kd (e := ?_) | refine Kl rfl ?_ | fail) <;> ((conv => whnf); repeat' (refine Z rfl ?_; conv => whnf)))
   refine ⟨⟨i + 1, ?_, by omega, by omega⟩⟩
   rw [show ((fewN (l.take (i + 1)) : Nat) : Int) = (fewN (l.take i) : Int) + 1 + (l[i].text.length : Int) by omega]
   repeat' (first | exact True.intro | exact rfl | refine And.intro ?_ ?_)
 · refine ⟨congrArg bD ?_⟩
   unfold fewB
   rw [decide_eq_false (by assumption), decide_eq_false (by omega)]
 · refine ⟨congrArg bD ?_⟩
   rw [List.take_of_length_le (by omega)]
   exact decide_eq_decide.2 (by omega)
theorem alike_at : ∀ {xs ys : List TkZ}, alikeB xs ys = true → xs.length = ys.length ∧ ∀ (i : Nat) (hx : i < xs.length) (hy : i < ys.length), xs[i].kind = ys[i].kind ∧ xs[i].text = ys[i].text
 | [], [], _ => ⟨rfl, fun i hx _ => absurd hx (Nat.not_lt_zero _)⟩
 | [], _ :: _, h => Bool.noConfusion (show false = true from h)
 | _ :: _, [], h => Bool.noConfusion (show false = true from h)
 | a :: xs, b :: ys, h => by
   rw [alikeB, Bool.and_eq_true, Bool.and_eq_true, decide_eq_true_eq, decide_eq_true_eq] at h
   obtain ⟨h1, h2⟩ := alike_at h.2.2
   refine ⟨by rw [List.length_cons, List.length_cons, h1], fun i hx hy => ?_⟩
   cases i with
   | zero => exact ⟨h.1, h.2.1⟩
   | succ i => exact h2 i (by simpa using hx) (by simpa using hy)
theorem Alike2_meets (xs ys : List TkZ) (h1 : xs.length ≤ 1048576) (h2 : ys.length ≤ 1048576) (hA : alikeB xs ys = true) : Meets Tryz.prog 21 [.sl (xs.map TkZ.cells), .sl (ys.map TkZ.cells)] fun d => d = bD true := by
 obtain ⟨hlen, hat⟩ := alike_at hA
 refine enter tok {} Tryz.func21 rfl (by kernel_rfl) Tryz.ntmps21 (by simp) fun B0 W0 V0 lent g0 => ?_
 ((conv => whnf); repeat' (refine Z rfl ?_; conv => whnf))
 repeat' ((first | (intro hlq; (try simp only [SL] at hlq)) | refine Ks ?_ | refine Kq ?_ | refine Kt ?_ | refine Ka ?_ | refine Kb ?_ | refine Kc (hd := rfl) (e := ?_) | refine Kc (hd := icells_eq _) (e := ?_) | refine Kd (e := ?_) | refine Kl rfl ?_ | fail) <;> ((conv => whnf); repeat' (refine Z rfl ?_; conv => whnf)))
 refine ⟨fun h0 => ?_, fun h0 => ?_⟩ <;> (try simp only [BL] at h0) <;> ((conv => whnf); repeat' (refine Z rfl ?_; conv => whnf))
 · exfalso; omega
 refine loop_upd tok {} [] (X := Nat) (fun i => [(5, iB i)]) (fun _ => []) [] (fun i => i ≤ xs.length) (fun i => xs.length - i) 0 ?_
 ((conv => whnf); repeat' (refine Z rfl ?_; conv => whnf))
 refine And.intro ?_ ⟨by omega, fun i hi => ?_⟩
 · exact Kr
 ((conv => whnf); repeat' (refine Z rfl ?_; conv => whnf))
 repeat' ((first | (intro hlq; (try simp only [SL] at hlq)) | refine Ks ?_ | refine Kq ?_ | refine Kt ?_ | refine Ka ?_ | refine Kb ?_ | refine Kc (hd := rfl) (e := ?_) | refine Kc (hd := icells_eq _) (e := ?_) | refine Kd (e := ?_) | refine Kl rfl ?_ | fail) <;> ((conv => whnf); repeat' (refine Z rfl ?_; conv => whnf)))
 refine ⟨fun h3 => ?_, fun h3 => ?_⟩ <;> (try simp only [BL] at h3) <;> ((conv => whnf); repeat' (refine Z rfl ?_; conv => whnf))
 · have hx : i < xs.length := by omega
   have hy : i < ys.length := by omega
   obtain ⟨e1, e2⟩ := hat i hx hy
   refine draw_rule tok (cf := {}) (by kernel_rfl) [.p 0, .p 1, .p 2, .p 3, .p 4, .p 5, .p 6, .p 7, .p 8, .p 9, .p 10, .p 11, .p 12, .p 13, .p 14, .p 15, .p 16, .p 17, .p 18, .p 19, .p 20, .p 21, .p 22, .p 23] (by kernel_rfl) ?_
   ((conv => whnf); repeat' (refine Z rfl ?_; conv => whnf))
   repeat' ((first | (intro hlq; (try simp only [SL] at hlq)) | refine Ks ?_ | refine Kq ?_ | refine Kt ?_ | ((refine Kh (fun hb => ?_) fun hb => ?_) <;> (try simp only [BL] at hb)) | refine Ka ?_ | refine Kb ?_ | refine Kc (hd := rfl) (e := ?_) | refine Kc (hd := TkZ.cells_eq _) (e := ?_) | refine Kd (e := ?_) | refine Kl rfl ?_ | fail) <;> ((conv => whnf); repeat' (refine Z rfl ?_; conv => whnf)))
   all_goals first
    | (exfalso; omega)
    | (exfalso; exact absurd e2 (by assumption))
    | (refine ⟨⟨i + 1, ?_, by omega, by omega⟩⟩
       repeat' (first | exact True.intro | exact rfl | refine And.intro ?_ ?_))
 · exact ⟨rfl⟩
end Go.Proofs.YtedjnaggkakphaaGreatDoor.Dx
/- Arguments that are tokens. -/
namespace Go.Proofs.YtedjnaggkakphaaGreatDoor.Dx
open Go Go.RowKit
set_option maxRecDepth 100000
theorem closedK : closedB T [3, 4, 5, 9, 22, 24, 38, 42] = true := rfl
theorem shp38 : shp T 38 = some (.st [3, 9, 3]) := rfl
theorem shp24 : shp T 24 = some (.sl 38) := rfl
theorem rdTok (n : Nat) (ds : List D) (m : Nat) (h : TyD T n 38 ds m) : ∃ t : TkZ, ds = t.cells ∧ t.text.length ≤ m := by
 obtain ⟨k, rfl, xs, ms, rfl, h, hs⟩ := h.st_ shp38
 obtain ⟨x1, xs, m1, ms, rfl, rfl, h1, h⟩ := tyF_cons h
 obtain ⟨x2, xs, m2, ms, rfl, rfl, h2, h⟩ := tyF_cons h
 obtain ⟨x3, xs, m3, ms, rfl, rfl, h3, h⟩ := tyF_cons h
 obtain ⟨rfl, rfl⟩ := tyF_nil h
 obtain ⟨i1, rfl⟩ := h1.int_ shp3
 obtain ⟨s, rfl, hl⟩ := h2.str_ shp9
 obtain ⟨i3, rfl⟩ := h3.int_ shp3
 simp only [List.sum_cons, List.sum_nil] at hs
 exact ⟨⟨i1, s, i3⟩, by simp [TkZ.cells_eq], by show s.length ≤ m; omega⟩
theorem vToks {d : D} {m : Nat} (h : TyV T 24 d m) (hm : m ≤ 1048576) : ∃ l : List TkZ, d = .sl (l.map TkZ.cells) ∧ l.length ≤ 1048576 ∧ ∀ t ∈ l, t.text.length ≤ 1048576 := by
 obtain ⟨n, cs, h1, h2⟩ := h
 obtain ⟨l, rfl, hl⟩ := h1.sl_ shp24 TkZ.cells (fun t m => t.text.length ≤ m) (fun n' ds m _ h => rdTok n' ds m h)
 refine ⟨l, by rw [h2]; rfl, by have := hl.len; omega, fun t ht => ?_⟩
 obtain ⟨m', h3, h4⟩ := hl.all t ht
 omega
end Go.Proofs.YtedjnaggkakphaaGreatDoor.Dx
