/- The reference's Expand. -/
import Derived.Test.YtkkohadkpogdfaaGreatOc
import Derived.Test.YtkkohadkpogdfaaGreatMj
namespace Go.Proofs.YtkkohadkpogdfaaGreat.Dx
open Go Go.RowKit
set_option linter.all false
set_option maxRecDepth 100000
set_option maxHeartbeats 16000000

def rxApp (lap : List Int) : Nat → List Int → List Int
  | 0, acc => acc
  | n + 1, acc => if lap.length > 0 ∧ acc.length ≤ 300 then rxApp lap n (acc ++ lap) else acc
mutual
def Part.rx : Part → List Int → List Int
  | ⟨m, l, ps⟩, acc => if l = 0 then acc ++ [m] else rxApp (Part.rxL ps []) l.toNat acc
def Part.rxL : List Part → List Int → List Int
  | [], acc => acc
  | p :: ps, acc => Part.rxL ps (p.rx acc)
end
theorem Part.rx_eq (p : Part) (acc : List Int) : p.rx acc = if p.laps = 0 then acc ++ [p.mat] else rxApp (Part.rxL p.parts []) p.laps.toNat acc := by obtain ⟨m, l, ps⟩ := p; rfl
theorem rxL_drop {l : List Part} {i : Nat} (h : i < l.length) (acc : List Int) : Part.rxL (l.drop i) acc = Part.rxL (l.drop (i + 1)) (l[i].rx acc) := by
  rw [List.drop_eq_getElem_cons h, Part.rxL]
theorem rxApp_stop {lap acc : List Int} (h : ¬ (lap.length > 0 ∧ acc.length ≤ 300)) : ∀ n, rxApp lap n acc = acc
  | 0 => rfl
  | n + 1 => by rw [rxApp, if_neg h]
theorem rxApp_len (lap : List Int) : ∀ (n : Nat) (acc : List Int), (rxApp lap n acc).length ≤ max acc.length (300 + lap.length)
  | 0, acc => Nat.le_max_left _ _
  | n + 1, acc => by
    rw [rxApp]
    split
    · have := rxApp_len lap n (acc ++ lap)
      rw [List.length_append] at this
      omega
    · exact Nat.le_max_left _ _
mutual
theorem rx_len : ∀ (p : Part) (acc : List Int), (p.rx acc).length ≤ acc.length + 301 * p.cnt
  | ⟨m, l, ps⟩, acc => by
    have h := rxL_len ps []
    have h2 := rxApp_len (Part.rxL ps []) l.toNat acc
    rw [Part.rx, Part.cnt_eq]
    simp only [List.length_nil] at *
    split
    · simp; omega
    · omega
theorem rxL_len : ∀ (l : List Part) (acc : List Int), (Part.rxL l acc).length ≤ acc.length + 301 * Part.cntL l
  | [], acc => by rw [Part.rxL]; omega
  | p :: ps, acc => by
    have h := rxL_len ps (p.rx acc)
    have h2 := rx_len p acc
    have h3 : Part.cntL (p :: ps) = p.cnt + Part.cntL ps := by
      have := Part.cntL_append [p] ps
      have h4 := Part.cntL_append [] [p]
      simp only [List.singleton_append] at this
      rw [this]
      rfl
    rw [Part.rxL, h3]
    omega
end
theorem rxApp_full {lap : List Int} : ∀ (n : Nat) (acc : List Int), acc.length + n * lap.length ≤ 256 → rxApp lap n acc = acc ++ (List.replicate n lap).flatten
  | 0, acc, _ => by simp [rxApp]
  | n + 1, acc, h => by
    rw [Nat.succ_mul] at h
    rw [rxApp]
    by_cases h0 : lap.length > 0
    · rw [if_pos ⟨h0, by omega⟩, rxApp_full n (acc ++ lap) (by rw [List.length_append]; omega), List.replicate_succ, List.flatten_cons, List.append_assoc]
    · have : lap = [] := List.eq_nil_of_length_eq_zero (by omega)
      rw [if_neg (fun h => h0 h.1), this]
      simp
mutual
theorem rx_full (m : Int) : ∀ (p : Part) (acc : List Int), p.good m = true → acc.length + p.full.length ≤ 256 → p.rx acc = acc ++ p.full
  | ⟨a, l, ps⟩, acc, hg, hl => by
    have hlp := good_laps hg
    have hgp := good_parts hg
    have hf := Part.full_eq ⟨a, l, ps⟩
    rw [Part.rx]
    simp only at hlp hgp hf
    by_cases h : l = 0
    · rw [if_pos h, hf, if_neg (by omega)]
    · have h1 : l > 0 := by omega
      rw [if_pos h1] at hf
      rw [hf] at hl ⊢
      rw [List.length_flatten, List.map_replicate, List.sum_replicate_nat] at hl
      have h2 : (Part.fullL ps).length ≤ l.toNat * (Part.fullL ps).length := Nat.le_mul_of_pos_left _ (by omega)
      have h3 := rxL_full m ps [] hgp (by simp; omega)
      rw [List.nil_append] at h3
      rw [if_neg h, h3, rxApp_full _ _ (by omega)]
theorem rxL_full (m : Int) : ∀ (l : List Part) (acc : List Int), (∀ p ∈ l, p.good m = true) → acc.length + (Part.fullL l).length ≤ 256 → Part.rxL l acc = acc ++ Part.fullL l
  | [], acc, _, _ => by simp [Part.rxL, Part.fullL]
  | p :: ps, acc, hg, hl => by
    have hs : Part.fullL (p :: ps) = p.full ++ Part.fullL ps := by
      have := fullL_append [p] ps
      rw [List.singleton_append] at this
      rw [this]
      simp [Part.fullL]
    rw [hs, List.length_append] at hl
    rw [Part.rxL, rx_full m p acc (hg p (List.mem_cons_self ..)) (by omega), rxL_full m ps _ (fun x hx => hg x (List.mem_cons_of_mem _ hx)) (by rw [List.length_append]; omega), hs, List.append_assoc]
end

theorem rExp_meets (l : List Part) (hl : Part.cntL l ≤ 1048576) : Meets Tryz.prog 28 [.sl (l.map Part.cells)] fun r => r = .sl ((Part.rxL l []).map icells) := by
  have hlen := Part.len_cnt l
  obtain ⟨K, hK⟩ : ∃ K, K = 301 * Part.cntL l := ⟨_, rfl⟩
  refine enter tok {} Tryz.func28 rfl (by kernel_rfl) Tryz.ntmps28 (by simp) fun B0 W0 V0 lent g0 => ?_
  ((conv => whnf); repeat' (refine vcC_go tok {} rfl ?_; conv => whnf))
  repeat' ((first | (intro hlq; (try simp only [List.length_map, maxLen] at hlq)) | refine Ka ?_ | refine Kb ?_ | refine Kc (hd := rfl) (e := ?_) | refine Kc (hd := Cond.cells_eq _) (e := ?_) | refine Kd (e := ?_) | refine ⟨(rfl : look _ _ = look _ _), ?_⟩ | fail) <;> ((conv => whnf); repeat' (refine vcC_go tok {} rfl ?_; conv => whnf)))
  refine loop_upd tok {} [(.inl 3, 3, 3, 1)] (X := Nat × List Int) (fun x => [(4, iB x.1), (3, .own 3)]) (fun x => [(3, .sl ⟨3, 1, x.2.map icells, true⟩)]) [] (fun x => x.1 ≤ l.length ∧ Part.rxL (l.drop x.1) x.2 = Part.rxL l [] ∧ x.2.length ≤ 301 * Part.cntL (l.take x.1)) (fun x => l.length - x.1) (0, []) ?_
  ((conv => whnf); repeat' (refine vcC_go tok {} rfl ?_; conv => whnf))
  refine ⟨by simp, ?_⟩
  ((conv => whnf); repeat' (refine vcC_go tok {} rfl ?_; conv => whnf))
  refine And.intro ?_ ⟨⟨by omega, by simp, by simp⟩, fun x hΦ => ?_⟩
  · repeat' (first | exact True.intro | exact rfl | refine And.intro ?_ ?_)
  obtain ⟨i, acc⟩ := x
  obtain ⟨hi, heq, hal⟩ := hΦ
  dsimp only at hi heq hal
  ((conv => whnf); repeat' (refine vcC_go tok {} rfl ?_; conv => whnf))
  repeat' ((first | (intro hlq; (try simp only [List.length_map, maxLen] at hlq)) | refine Ka ?_ | refine Kb ?_ | refine Kc (hd := rfl) (e := ?_) | refine Kc (hd := Cond.cells_eq _) (e := ?_) | refine Kd (e := ?_) | refine ⟨(rfl : look _ _ = look _ _), ?_⟩ | fail) <;> ((conv => whnf); repeat' (refine vcC_go tok {} rfl ?_; conv => whnf)))
  refine ⟨fun h1 => ?_, fun h1 => ?_⟩ <;> (try simp only [BB, List.length_map] at h1) <;> ((conv => whnf); repeat' (refine vcC_go tok {} rfl ?_; conv => whnf))
  · have h1' : i < l.length := by (try dsimp only at *); omega
    have hp := l[i].rx_eq acc
    have hc := Part.cnt_part h1'
    have hct := Part.cntL_take h1'
    have hca : Part.cntL l = Part.cntL (l.take i) + Part.cntL (l.drop i) := by rw [← Part.cntL_append, List.take_append_drop]
    have hca2 : Part.cntL l = Part.cntL (l.take (i + 1)) + Part.cntL (l.drop (i + 1)) := by rw [← Part.cntL_append, List.take_append_drop]
    have hrl := rx_len l[i] acc
    rw [Part.cnt_eq] at hrl
    have hpl := rxL_len l[i].parts []
    rw [List.length_nil, Nat.zero_add] at hpl
    rw [rxL_drop h1'] at heq
    repeat' ((first | (intro hlq; (try simp only [List.length_map, maxLen] at hlq)) | refine Ka ?_ | refine Kb ?_ | refine Kc (hd := rfl) (e := ?_) | refine Kc (hd := Part.cells_eq _) (e := ?_) | refine Kd (e := ?_) | refine ⟨(rfl : look _ _ = look _ _), ?_⟩ | fail) <;> ((conv => whnf); repeat' (refine vcC_go tok {} rfl ?_; conv => whnf)))
    refine ⟨fun h2 => ?_, fun h2 => ?_⟩ <;> (try simp only [BB, List.length_map] at h2) <;> ((conv => whnf); repeat' (refine vcC_go tok {} rfl ?_; conv => whnf))
    · rw [if_pos (by (try dsimp only at *); omega)] at hp
      repeat' ((first | (intro hlq; (try simp only [List.length_map, maxLen] at hlq)) | refine Ka ?_ | refine Kb ?_ | refine Kc (hd := rfl) (e := ?_) | refine Kc (hd := Part.cells_eq _) (e := ?_) | refine Kd (e := ?_) | refine ⟨(rfl : look _ _ = look _ _), ?_⟩ | fail) <;> ((conv => whnf); repeat' (refine vcC_go tok {} rfl ?_; conv => whnf)))
      refine ⟨by simp, ?_⟩
      ((conv => whnf); repeat' (refine vcC_go tok {} rfl ?_; conv => whnf))
      refine ⟨fun _ _ => by simp; omega, ?_⟩
      ((conv => whnf); repeat' (refine vcC_go tok {} rfl ?_; conv => whnf))
      repeat' ((first | (intro hlq; (try simp only [List.length_map, maxLen] at hlq)) | refine Ka ?_ | refine Kb ?_ | refine Kc (hd := rfl) (e := ?_) | refine Kc (hd := Cond.cells_eq _) (e := ?_) | refine Kd (e := ?_) | refine ⟨(rfl : look _ _ = look _ _), ?_⟩ | fail) <;> ((conv => whnf); repeat' (refine vcC_go tok {} rfl ?_; conv => whnf)))
      refine ⟨⟨(i + 1, acc ++ [l[i].mat]), ?_, ⟨by (try dsimp only at *); omega, by dsimp only; rw [← hp]; exact heq, by dsimp only; rw [List.length_append, List.length_singleton]; omega⟩, by (try dsimp only at *); omega⟩⟩
      · repeat' (first | exact True.intro | exact rfl | refine And.intro ?_ ?_)
        all_goals (first | (dsimp only; rw [List.map_append]; done) | (dsimp only; rw [List.map_append]; rfl))
    · rw [if_neg (by (try dsimp only at *); omega)] at hp
      repeat' ((first | (intro hlq; (try simp only [List.length_map, maxLen] at hlq)) | refine Ka ?_ | refine Kb ?_ | refine Kc (hd := rfl) (e := ?_) | refine Kc (hd := Part.cells_eq _) (e := ?_) | refine Kd (e := ?_) | refine ⟨(rfl : look _ _ = look _ _), ?_⟩ | fail) <;> ((conv => whnf); repeat' (refine vcC_go tok {} rfl ?_; conv => whnf)))
      refine Meets.k (rExp_meets l[i].parts (by (try dsimp only at *); omega)) ?_
      ((conv => whnf); repeat' (refine vcC_go tok {} rfl ?_; conv => whnf))
      repeat' ((first | (intro hlq; (try simp only [List.length_map, maxLen] at hlq)) | refine Ka ?_ | refine Kb ?_ | refine Kc (hd := rfl) (e := ?_) | refine Kc (hd := Cond.cells_eq _) (e := ?_) | refine Kd (e := ?_) | refine ⟨(rfl : look _ _ = look _ _), ?_⟩ | fail) <;> ((conv => whnf); repeat' (refine vcC_go tok {} rfl ?_; conv => whnf)))
      refine loop_upd tok {} [] (X := Nat × List Int) (fun x => [(6, iB x.1), (3, .own 3)]) (fun x => [(3, .sl ⟨3, 1, x.2.map icells, true⟩)]) [] (fun x => (x.1 ≤ l[i].laps.toNat ∧ x.1 ≤ x.2.length) ∧ rxApp (Part.rxL l[i].parts []) (l[i].laps.toNat - x.1) x.2 = l[i].rx acc) (fun x => l[i].laps.toNat - x.1) (0, acc) ?_
      ((conv => whnf); repeat' (refine vcC_go tok {} rfl ?_; conv => whnf))
      refine And.intro ?_ ⟨⟨⟨by dsimp only; omega, Nat.zero_le _⟩, hp.symm⟩, fun y hΨ => ?_⟩
      · repeat' (first | exact True.intro | exact rfl | refine And.intro ?_ ?_)
      obtain ⟨k, acc2⟩ := y
      obtain ⟨⟨hk, hka⟩, he2⟩ := hΨ
      dsimp only at hk hka he2
      ((conv => whnf); repeat' (refine vcC_go tok {} rfl ?_; conv => whnf))
      repeat' ((first | (intro hlq; (try simp only [List.length_map, maxLen] at hlq)) | ((refine ⟨fun (hb : _ = true) => ?_, fun (hb : _ = false) => ?_⟩) <;> (try simp only [BB, List.length_map] at hb)) | refine Ka ?_ | refine Kb ?_ | refine Kc (hd := rfl) (e := ?_) | refine Kc (hd := Part.cells_eq _) (e := ?_) | refine Kd (e := ?_) | refine ⟨(rfl : look _ _ = look _ _), ?_⟩ | fail) <;> ((conv => whnf); repeat' (refine vcC_go tok {} rfl ?_; conv => whnf)))
      · refine ⟨by simp, ?_⟩
        ((conv => whnf); repeat' (refine vcC_go tok {} rfl ?_; conv => whnf))
        refine ⟨fun _ _ => by simp; omega, ?_⟩
        ((conv => whnf); repeat' (refine vcC_go tok {} rfl ?_; conv => whnf))
        repeat' ((first | (intro hlq; (try simp only [List.length_map, maxLen] at hlq)) | refine Ka ?_ | refine Kb ?_ | refine Kc (hd := rfl) (e := ?_) | refine Kc (hd := Cond.cells_eq _) (e := ?_) | refine Kd (e := ?_) | refine ⟨(rfl : look _ _ = look _ _), ?_⟩ | fail) <;> ((conv => whnf); repeat' (refine vcC_go tok {} rfl ?_; conv => whnf)))
        have hs : l[i].laps.toNat - k = (l[i].laps.toNat - (k + 1)) + 1 := by (try dsimp only at *); omega
        rw [hs, rxApp, if_pos ⟨by omega, by omega⟩] at he2
        refine ⟨⟨(k + 1, acc2 ++ Part.rxL l[i].parts []), ?_, ⟨⟨by (try dsimp only at *); omega, by dsimp only; rw [List.length_append]; omega⟩, he2⟩, by (try dsimp only at *); omega⟩⟩
        repeat' (first | exact True.intro | exact rfl | refine And.intro ?_ ?_)
        all_goals (first | (dsimp only; rw [List.map_append]; done) | (dsimp only; rw [List.map_append]; rfl))
      · rw [rxApp_stop (fun h => by omega)] at he2
        refine ⟨⟨(i + 1, acc2), ?_, ⟨by (try dsimp only at *); omega, by dsimp only; rw [he2, heq], by dsimp only; rw [he2]; omega⟩, by (try dsimp only at *); omega⟩⟩
        repeat' (first | exact True.intro | exact rfl | refine And.intro ?_ ?_)
      · rw [rxApp_stop (fun h => by omega)] at he2
        refine ⟨⟨(i + 1, acc2), ?_, ⟨by (try dsimp only at *); omega, by dsimp only; rw [he2, heq], by dsimp only; rw [he2]; omega⟩, by (try dsimp only at *); omega⟩⟩
        repeat' (first | exact True.intro | exact rfl | refine And.intro ?_ ?_)
      · rw [show l[i].laps.toNat - k = 0 by omega, rxApp] at he2
        refine ⟨⟨(i + 1, acc2), ?_, ⟨by (try dsimp only at *); omega, by dsimp only; rw [he2, heq], by dsimp only; rw [he2]; omega⟩, by (try dsimp only at *); omega⟩⟩
        repeat' (first | exact True.intro | exact rfl | refine And.intro ?_ ?_)
  · refine ⟨congrArg (fun z : List Int => D.sl (z.map icells)) ?_⟩
    rw [List.drop_eq_nil_of_le (by omega), Part.rxL] at heq
    exact heq
termination_by Part.cntL l
decreasing_by all_goals omega

theorem Valid.exr {c : Course} {d : Int} (h : Valid c d) : Part.rxL (findD c d).route [] = mats0 c d := by
  have := rxL_full c.m (findD c d).route [] h.good (by have := h.le; simp only [mats0] at this; simpa using this)
  rwa [List.nil_append] at this
theorem Valid.extra_ge {c : Course} {d : Int} (h : Valid c d) : -1 ≤ (findD c d).extra := by
  have hg := h.nums.distances _ h.mem
  simp only [Distance.good, inR, Bool.and_eq_true, decide_eq_true_eq] at hg
  omega
theorem Course.small.cnt {c : Course} (hc : c.small) {d : Int} (h : Valid c d) : Part.cntL (findD c d).route ≤ 1048576 := hc.route _ h.mem

theorem ic1 {l : List Int} : ∀ ds ∈ l.map icells, ds.length = 1 := by
  intro ds hd
  obtain ⟨x, _, rfl⟩ := List.mem_map.1 hd
  rfl

theorem rRoute_meets (c : Course) (hc : c.small) (d x : Int) : Meets Tryz.prog 11 [c.d, iD d, iD x] fun r => r = .tup [.sl ((routeM c d x).map icells), iD (buildE c d x)] := by
  refine enter tok {} Tryz.func11 rfl (by kernel_rfl) Tryz.ntmps11 (by simp) fun B0 W0 V0 lent g0 => ?_
  ((conv => whnf); repeat' (refine vcC_go tok {} rfl ?_; conv => whnf))
  repeat' ((first | (intro hlq; (try simp only [List.length_map, maxLen] at hlq)) | refine Meets.k (rcheck_meets c hc d) ?_ | ((refine ⟨fun (hb : _ = true) => ?_, fun (hb : _ = false) => ?_⟩) <;> (try simp only [BB, List.length_map] at hb)) | refine Ka ?_ | refine Kb ?_ | refine Kc (hd := rfl) (e := ?_) | refine Kc (hd := Cond.cells_eq _) (e := ?_) | refine Kd (e := ?_) | refine ⟨(rfl : look _ _ = look _ _), ?_⟩ | fail) <;> ((conv => whnf); repeat' (refine vcC_go tok {} rfl ?_; conv => whnf)))
  · have e : buildE c d x = findE c d := by rw [buildE, if_pos (by assumption)]
    exact ⟨by rw [routeM, if_neg (by rw [e]; assumption), e]; rfl⟩
  have hz : findE c d = 0 := Decidable.not_not.1 (by assumption)
  have hv := valid_of hz
  have hxg := hv.extra_ge
  obtain ⟨hlt, hD⟩ := findD_at hz
  refine ⟨_, ⟨(findE_zero hz).2.1, getZ_at _ hlt (Distance.cells_eq _), rfl⟩, ?_⟩
  rw [← hD]
  have hEx := rExp_meets (findD c d).route (hc.cnt hv)
  rw [hv.exr] at hEx
  have hle := hv.le
  ((conv => whnf); repeat' (refine vcC_go tok {} rfl ?_; conv => whnf))
  have h90 : x < 0 ∨ (x > 0 ∧ (findD c d).extra < 0) → buildE c d x = 90 := fun h => by rw [buildE, if_neg (by assumption), if_pos h]
  have h2 : ¬ (x < 0 ∨ (x > 0 ∧ (findD c d).extra < 0)) → x > 256 - ((mats0 c d).length : Int) → buildE c d x = 2 := fun h h' => by rw [buildE, if_neg (by assumption), if_neg h, if_pos h']
  have h0 : ¬ (x < 0 ∨ (x > 0 ∧ (findD c d).extra < 0)) → ¬ x > 256 - ((mats0 c d).length : Int) → buildE c d x = 0 := fun h h' => by rw [buildE, if_neg (by assumption), if_neg h, if_neg h']
  repeat' ((first | (intro hlq; (try simp only [List.length_map, maxLen] at hlq)) | refine Meets.k (hEx) ?_ | ((refine ⟨fun (hb : _ = true) => ?_, fun (hb : _ = false) => ?_⟩) <;> (try simp only [BB, List.length_map] at hb)) | refine Ka ?_ | refine Kb ?_ | refine Kc (hd := rfl) (e := ?_) | refine Kc (hd := Cond.cells_eq _) (e := ?_) | refine Kd (e := ?_) | refine ⟨(rfl : look _ _ = look _ _), ?_⟩ | fail) <;> ((conv => whnf); repeat' (refine vcC_go tok {} rfl ?_; conv => whnf)))
  all_goals (try (exfalso; omega))
  · have e := h90 (by omega)
    exact ⟨by rw [routeM, if_neg (by rw [e]; decide), e]; rfl⟩
  · have e := h90 (by omega)
    exact ⟨by rw [routeM, if_neg (by rw [e]; decide), e]; rfl⟩
  · have e := h2 (by omega) (by omega)
    exact ⟨by rw [routeM, if_neg (by rw [e]; decide), e]; rfl⟩
  · have e := h2 (by omega) (by omega)
    exact ⟨by rw [routeM, if_neg (by rw [e]; decide), e]; rfl⟩
  focus
    have e := h0 (by omega) (by omega)
    have hln := lastN_le (findD c d).extra (mats0 c d)
    refine Meets.k (last_meets (mats0 c d) (findD c d).extra) ?_
    ((conv => whnf); repeat' (refine vcC_go tok {} rfl ?_; conv => whnf))
    repeat' ((first | (intro hlq; (try simp only [List.length_map, maxLen] at hlq)) | ((refine ⟨fun (hb : _ = true) => ?_, fun (hb : _ = false) => ?_⟩) <;> (try simp only [BB, List.length_map] at hb)) | refine Ka ?_ | refine Kb ?_ | refine Kc (hd := rfl) (e := ?_) | refine Kc (hd := Cond.cells_eq _) (e := ?_) | refine Kd (e := ?_) | refine ⟨(rfl : look _ _ = look _ _), ?_⟩ | fail) <;> ((conv => whnf); repeat' (refine vcC_go tok {} rfl ?_; conv => whnf)))
    refine ⟨fun _ => ⟨by omega, by omega, by simp; omega, by simp⟩, ?_⟩
    ((conv => whnf); repeat' (refine vcC_go tok {} rfl ?_; conv => whnf))
    rw [show ((lastN (mats0 c d) (findD c d).extra : Int) - 1 + 1).toNat = lastN (mats0 c d) (findD c d).extra by omega, Int.toNat_zero, List.drop_zero, ← List.map_take]
    refine ⟨ic1, ?_⟩
    ((conv => whnf); repeat' (refine vcC_go tok {} rfl ?_; conv => whnf))
    refine ⟨⟨fun _ _ => by simp only [List.length_nil, List.length_map, List.length_take] at *; omega, by simp⟩, ?_⟩
    ((conv => whnf); repeat' (refine vcC_go tok {} rfl ?_; conv => whnf))
    refine loop_upd tok {} [] (X := Nat × List Int) (fun y => [(13, iB y.1), (12, .own 60), (60, .junk)]) (fun y => [(60, .sl ⟨3, 1, y.2.map icells, true⟩)]) [] (fun y => y.1 ≤ x.toNat ∧ y.2 = (mats0 c d).take (lastN (mats0 c d) (findD c d).extra) ++ List.replicate y.1 (findD c d).extra) (fun y => x.toNat - y.1) (0, (mats0 c d).take (lastN (mats0 c d) (findD c d).extra)) ?_
    ((conv => whnf); repeat' (refine vcC_go tok {} rfl ?_; conv => whnf))
    refine And.intro ?_ ⟨⟨by dsimp only; omega, by simp⟩, fun y hy => ?_⟩
    · repeat' (first | exact True.intro | exact rfl | refine And.intro ?_ ?_)
    obtain ⟨i, ms⟩ := y
    obtain ⟨hi, hms⟩ := hy
    dsimp only at hi hms
    have hml : ms.length ≤ 600 := by rw [hms, List.length_append, List.length_take, List.length_replicate]; omega
    ((conv => whnf); repeat' (refine vcC_go tok {} rfl ?_; conv => whnf))
    refine ⟨fun h1 => ?_, fun h1 => ?_⟩ <;> (try simp only [BB, List.length_map] at h1) <;> ((conv => whnf); repeat' (refine vcC_go tok {} rfl ?_; conv => whnf))
    · repeat' ((first | (intro hlq; (try simp only [List.length_map, maxLen] at hlq)) | refine Ka ?_ | refine Kb ?_ | refine Kc (hd := rfl) (e := ?_) | refine Kc (hd := Cond.cells_eq _) (e := ?_) | refine Kd (e := ?_) | refine ⟨(rfl : look _ _ = look _ _), ?_⟩ | fail) <;> ((conv => whnf); repeat' (refine vcC_go tok {} rfl ?_; conv => whnf)))
      refine ⟨by simp, ?_⟩
      ((conv => whnf); repeat' (refine vcC_go tok {} rfl ?_; conv => whnf))
      refine ⟨fun _ _ => by simp; omega, ?_⟩
      ((conv => whnf); repeat' (refine vcC_go tok {} rfl ?_; conv => whnf))
      repeat' ((first | (intro hlq; (try simp only [List.length_map, maxLen] at hlq)) | refine Ka ?_ | refine Kb ?_ | refine Kc (hd := rfl) (e := ?_) | refine Kc (hd := Cond.cells_eq _) (e := ?_) | refine Kd (e := ?_) | refine ⟨(rfl : look _ _ = look _ _), ?_⟩ | fail) <;> ((conv => whnf); repeat' (refine vcC_go tok {} rfl ?_; conv => whnf)))
      refine ⟨⟨(i + 1, ms ++ [(findD c d).extra]), ?_, ⟨by (try dsimp only at *); omega, by dsimp only; rw [hms, List.append_assoc, List.replicate_succ']⟩, by (try dsimp only at *); omega⟩⟩
      repeat' (first | exact True.intro | exact rfl | refine And.intro ?_ ?_)
      all_goals (first | (dsimp only; rw [List.map_append]; done) | (dsimp only; rw [List.map_append]; rfl))
    · repeat' ((first | (intro hlq; (try simp only [List.length_map, maxLen] at hlq)) | ((refine ⟨fun (hb : _ = true) => ?_, fun (hb : _ = false) => ?_⟩) <;> (try simp only [BB, List.length_map] at hb)) | refine Ka ?_ | refine Kb ?_ | refine Kc (hd := rfl) (e := ?_) | refine Kc (hd := Cond.cells_eq _) (e := ?_) | refine Kd (e := ?_) | refine ⟨(rfl : look _ _ = look _ _), ?_⟩ | fail) <;> ((conv => whnf); repeat' (refine vcC_go tok {} rfl ?_; conv => whnf)))
      refine ⟨fun _ => ⟨by omega, by simp; omega, by simp, ic1⟩, ?_⟩
      ((conv => whnf); repeat' (refine vcC_go tok {} rfl ?_; conv => whnf))
      rw [show ((lastN (mats0 c d) (findD c d).extra : Int) - 1 + 1).toNat = lastN (mats0 c d) (findD c d).extra by omega, Int.toNat_natCast, List.take_length, ← List.map_drop]
      refine ⟨ic1, ?_⟩
      ((conv => whnf); repeat' (refine vcC_go tok {} rfl ?_; conv => whnf))
      refine ⟨fun _ _ => by simp only [List.length_map, List.length_drop] at *; omega, ?_⟩
      ((conv => whnf); repeat' (refine vcC_go tok {} rfl ?_; conv => whnf))
      refine ⟨?_⟩
      rw [routeM, if_pos e, e, matsX, if_pos (by assumption), insL, hms, show i = x.toNat by omega, ← List.map_append, List.append_assoc]
  · have e := h0 (by omega) (by omega)
    exact ⟨by rw [routeM, if_pos e, e, matsX, if_neg (by assumption)]⟩
end Go.Proofs.YtkkohadkpogdfaaGreat.Dx

/- Legs, and times between positions. -/
namespace Go.Proofs.YtkkohadkpogdfaaGreat.Dx
open Go Go.RowKit
set_option linter.all false
set_option maxRecDepth 100000
set_option maxHeartbeats 16000000

abbrev most : Int := 2199023255552
def isLeg (a b : Int) (l : Leg) : Bool := decide (l.src = a) && decide (l.dst = b)
def legOf (c : Course) (a b : Int) : Leg := (c.legs.find? (isLeg a b)).getD ⟨0, 0, 0, 0⟩

theorem find_snoc {α : Type} (p : α → Bool) (t : List α) (x : α) : (t ++ [x]).find? p = match t.find? p with | some y => some y | none => if p x then some x else none := by
  rw [List.find?_append]
  cases t.find? p with
  | some y => rfl
  | none => simp only [Option.none_or, List.find?_cons, List.find?_nil]; cases p x <;> rfl
theorem legML_get' (a b : Int) : ∀ n, ∀ ls : List Leg, ls.length = n → (ls.map fun x => (x.src, x.dst)).Nodup → mget (legML ls) (.agg [iD a, iD b]) = (ls.find? (isLeg a b)).map Leg.d := by
  intro n
  induction n with
  | zero =>
    intro ks h _
    obtain rfl := List.eq_nil_of_length_eq_zero h
    rfl
  | succ n ih =>
    intro ks h hn
    obtain ⟨l, q, rfl⟩ : ∃ l q, ks = l ++ [q] := by
      have hne : ks ≠ [] := by rintro rfl; simp at h
      exact ⟨_, _, (List.dropLast_concat_getLast hne).symm⟩
    rw [List.map_append, List.nodup_append] at hn
    have hi := ih l (by simpa using h) hn.1
    rw [legML_snoc, mget_mput, find_snoc]
    by_cases e : q.key = .agg [iD a, iD b]
    · rw [if_pos e]
      have e2 : q.src = a ∧ q.dst = b := by simpa [Leg.key] using e
      have hnone : l.find? (isLeg a b) = none := by
        rw [List.find?_eq_none]
        intro x hx hp
        simp only [isLeg, Bool.and_eq_true, decide_eq_true_eq] at hp
        exact hn.2.2 (x.src, x.dst) (List.mem_map.2 ⟨x, hx, rfl⟩) (q.src, q.dst) (by simp) (by rw [hp.1, hp.2, e2.1, e2.2])
      rw [hnone]
      simp [isLeg, e2]
    · rw [if_neg e, hi]
      have hq : isLeg a b q = false := by
        cases hq : isLeg a b q with
        | false => rfl
        | true =>
          simp only [isLeg, Bool.and_eq_true, decide_eq_true_eq] at hq
          exact absurd (by rw [Leg.key, hq.1, hq.2]) e
      rw [hq]
      cases l.find? (isLeg a b) <;> rfl
theorem legML_get {c : Course} (hn : NumsOk c) (a b : Int) : (mget (legML c.legs) (.agg [iD a, iD b])).getD (.agg [iD 0, iD 0, iD 0, iD 0]) = (legOf c a b).d := by
  rw [legML_get' a b _ c.legs rfl hn.legsN, legOf]
  cases c.legs.find? (isLeg a b) <;> rfl
theorem legOf_good {c : Course} (hn : NumsOk c) (a b : Int) : (0 ≤ (legOf c a b).lo ∧ (legOf c a b).lo ≤ 68719476736) ∧ (0 ≤ (legOf c a b).hi ∧ (legOf c a b).hi ≤ 68719476736) ∧ (legOf c a b).lo ≤ (legOf c a b).hi := by
  rw [legOf]
  cases h : c.legs.find? (isLeg a b) with
  | none => simp
  | some l =>
    have := hn.legs l (List.mem_of_find?_eq_some h)
    simp only [Leg.good, inR, Bool.and_eq_true, decide_eq_true_eq] at this
    rw [Option.getD_some]
    omega

theorem rleg_meets (c : Course) (a b : Int) : Meets Tryz.prog 34 [c.d, iD a, iD b] fun d => d = (legOf c a b).d := by
  refine enter tok {} Tryz.func34 rfl (by kernel_rfl) Tryz.ntmps34 (by simp) fun B0 W0 V0 lent g0 => ?_
  ((conv => whnf); repeat' (refine vcC_go tok {} rfl ?_; conv => whnf))
  refine loop_upd tok {} [] (X := Nat) (fun i => [(7, iB i)]) (fun _ => []) [] (fun i => i ≤ c.legs.length ∧ ∀ x ∈ c.legs.take i, isLeg a b x = false) (fun i => c.legs.length - i) 0 ?_
  ((conv => whnf); repeat' (refine vcC_go tok {} rfl ?_; conv => whnf))
  refine And.intro ?_ ⟨⟨by omega, by simp⟩, fun i hΦ => ?_⟩
  · repeat' (first | exact True.intro | exact rfl | refine And.intro ?_ ?_)
  obtain ⟨hi, hp⟩ := hΦ
  ((conv => whnf); repeat' (refine vcC_go tok {} rfl ?_; conv => whnf))
  repeat' ((first | (intro hlq; (try simp only [List.length_map, maxLen] at hlq)) | refine Ka ?_ | refine Kb ?_ | refine Kc (hd := rfl) (e := ?_) | refine Kc (hd := Cond.cells_eq _) (e := ?_) | refine Kd (e := ?_) | refine ⟨(rfl : look _ _ = look _ _), ?_⟩ | fail) <;> ((conv => whnf); repeat' (refine vcC_go tok {} rfl ?_; conv => whnf)))
  refine ⟨fun h1 => ?_, fun h1 => ?_⟩ <;> (try simp only [BB, List.length_map] at h1) <;> ((conv => whnf); repeat' (refine vcC_go tok {} rfl ?_; conv => whnf))
  · have h1' : i < c.legs.length := by omega
    have hs : c.legs.take (i + 1) = c.legs.take i ++ [c.legs[i]] := List.take_succ_eq_append_getElem h1'
    have hnone : (c.legs.take i).find? (isLeg a b) = none := List.find?_eq_none.2 fun x hx => by rw [hp x hx]; simp
    have hall : isLeg a b c.legs[i] = true → legOf c a b = c.legs[i] := fun h => by
      have e : c.legs.find? (isLeg a b) = some c.legs[i] := by
        have e0 := congrArg (List.find? (isLeg a b)) (List.take_append_drop (i + 1) c.legs)
        rw [← e0, List.find?_append, hs, find_snoc, hnone]
        simp [h]
      rw [legOf, e]; rfl
    repeat' ((first | (intro hlq; (try simp only [List.length_map, maxLen] at hlq)) | ((refine ⟨fun (hb : _ = true) => ?_, fun (hb : _ = false) => ?_⟩) <;> (try simp only [BB, List.length_map] at hb)) | refine Ka ?_ | refine Kb ?_ | refine Kc (hd := rfl) (e := ?_) | refine Kc (hd := Leg.cells_eq _) (e := ?_) | refine Kd (e := ?_) | refine ⟨(rfl : look _ _ = look _ _), ?_⟩ | fail) <;> ((conv => whnf); repeat' (refine vcC_go tok {} rfl ?_; conv => whnf)))
    all_goals first
      | (refine ⟨?_⟩
         rw [hall (by simp [isLeg, *])]
         done)
      | (refine ⟨⟨i + 1, ?_, ⟨by omega, take_snoc h1' hp ?_⟩, by omega⟩⟩
         · repeat' (first | exact True.intro | exact rfl | refine And.intro ?_ ?_)
         simp [isLeg, *])
  · refine ⟨?_⟩
    rw [List.take_of_length_le (by omega)] at hp
    rw [legOf, List.find?_eq_none.2 fun x hx => by rw [hp x hx]; simp]
    rfl

def spanF (c : Course) (m : List Int) (f : Nat) : Nat → Int × Int
  | 0 => (0, 0)
  | n + 1 => (min most ((spanF c m f n).1 + (legOf c (m.getD (f + n) 0) (m.getD (f + n + 1) 0)).lo), min most ((spanF c m f n).2 + (legOf c (m.getD (f + n) 0) (m.getD (f + n + 1) 0)).hi))
abbrev spD (s : Int × Int) : D := .agg [iD s.1, iD s.2]
theorem spanF_bound {c : Course} (hn : NumsOk c) (m : List Int) (f : Nat) : ∀ n, (0 ≤ (spanF c m f n).1 ∧ (spanF c m f n).1 ≤ most) ∧ (0 ≤ (spanF c m f n).2 ∧ (spanF c m f n).2 ≤ most) ∧ (spanF c m f n).1 ≤ (spanF c m f n).2
  | 0 => by simp [spanF]
  | n + 1 => by
    have h := spanF_bound hn m f n
    have hl := legOf_good hn (m.getD (f + n) 0) (m.getD (f + n + 1) 0)
    simp only [spanF]
    omega
theorem getD_of {m : List Int} {i : Nat} (h : i < m.length) : m.getD i 0 = m[i] := by rw [List.getD_eq_getElem?_getD, List.getElem?_eq_getElem h]; rfl

theorem span_meets (c : Course) (hn : NumsOk c) (m : List Int) (hm : m.length ≤ 1048576) (f t : Nat) (hft : f ≤ t) (ht : t < m.length) : Meets Tryz.prog 32 [pathD m (legML c.legs), iD f, iD t] fun r => r = spD (spanF c m f (t - f)) := by
  refine enter tok {} Tryz.func32 rfl (by kernel_rfl) Tryz.ntmps32 (by simp) fun B0 W0 V0 lent g0 => ?_
  ((conv => whnf); repeat' (refine vcC_go tok {} rfl ?_; conv => whnf))
  refine loop_upd tok {} [] (X := Nat) (fun n => [(7, iB ((f + n : Nat) : Int))]) (fun n => [(6, .box [iB (spanF c m f n).1, iB (spanF c m f n).2] 45)]) [8] (fun n => f + n ≤ t) (fun n => t - f - n) 0 ?_
  ((conv => whnf); repeat' (refine vcC_go tok {} rfl ?_; conv => whnf))
  refine And.intro ?_ ⟨by omega, fun n hle => ?_⟩
  · repeat' (first | exact True.intro | exact rfl | refine And.intro ?_ ?_)
  have hb := spanF_bound hn m f n
  ((conv => whnf); repeat' (refine vcC_go tok {} rfl ?_; conv => whnf))
  refine ⟨fun h1 => ?_, fun h1 => ?_⟩ <;> (try simp only [BB, List.length_map] at h1) <;> ((conv => whnf); repeat' (refine vcC_go tok {} rfl ?_; conv => whnf))
  · have h1' : f + n < m.length := by omega
    have h2' : f + n + 1 < m.length := by omega
    have hl := legOf_good hn m[f + n] m[f + n + 1]
    have hs : spanF c m f (n + 1) = (min most ((spanF c m f n).1 + (legOf c m[f + n] m[f + n + 1]).lo), min most ((spanF c m f n).2 + (legOf c m[f + n] m[f + n + 1]).hi)) := by rw [spanF, getD_of h1', getD_of h2']
    refine draw_rule tok (cf := {}) (by kernel_rfl) [.p 0, .p 1, .p 2, .p 3, .p 4, .p 5, .p 6, .p 7, .p 8, .p 9, .p 10, .p 11, .p 12, .p 13, .p 14, .s 15 [], .s 16 [14,0,1,2,3,4,5,6,7,8,9,10,11,12,13]] (by kernel_rfl) ?_
    ((conv => whnf); repeat' (refine vcC_go tok {} rfl ?_; conv => whnf))
    repeat' ((first | (intro hlq; (try simp only [List.length_map, maxLen] at hlq)) | refine Ka ?_ | refine Kb ?_ | refine Kc (hd := rfl) (e := ?_) | refine Kc (hd := icells_eq _) (e := ?_) | refine Kd (e := ?_) | refine ⟨(rfl : look _ _ = look _ _), ?_⟩ | fail) <;> ((conv => whnf); repeat' (refine vcC_go tok {} rfl ?_; conv => whnf)))
    refine ⟨⟨⟨[m[f + n], m[f + n + 1]], rfl, rfl⟩, legML_keys _⟩, ?_⟩
    refine ⟨_, legML_get hn m[f + n] m[f + n + 1], ?_⟩
    ((conv => whnf); repeat' (refine vcC_go tok {} rfl ?_; conv => whnf))
    repeat' (first | (refine ⟨(rfl : look _ _ = look _ _), ?_⟩; ((conv => whnf); repeat' (refine vcC_go tok {} rfl ?_; conv => whnf))) | fail)
    repeat' ((first | (intro hlq; (try simp only [List.length_map, maxLen] at hlq)) | refine Ka ?_ | refine Kb ?_ | refine Kc (hd := rfl) (e := ?_) | refine Kc (hd := Cond.cells_eq _) (e := ?_) | refine Kd (e := ?_) | refine ⟨(rfl : look _ _ = look _ _), ?_⟩ | fail) <;> ((conv => whnf); repeat' (refine vcC_go tok {} rfl ?_; conv => whnf)))
    simp only [most] at hb
    refine ⟨fun _ _ => by simp only [inKind]; omega, ?_⟩
    ((conv => whnf); repeat' (refine vcC_go tok {} rfl ?_; conv => whnf))
    refine ⟨fun _ _ => by simp only [inKind]; omega, ?_⟩
    ((conv => whnf); repeat' (refine vcC_go tok {} rfl ?_; conv => whnf))
    refine ⟨fun _ _ => by simp only [inKind]; omega, ?_⟩
    ((conv => whnf); repeat' (refine vcC_go tok {} rfl ?_; conv => whnf))
    refine ⟨⟨n + 1, ?_, by omega, by omega⟩⟩
    rw [hs]
    repeat' (first | exact True.intro | exact rfl | refine And.intro ?_ ?_)
  · obtain rfl : n = t - f := by omega
    exact ⟨rfl⟩

theorem rbetween_meets (c : Course) (hn : NumsOk c) (m : List Int) (hm : m.length ≤ 1048576) (f t : Nat) (hft : f ≤ t) (ht : t < m.length) : Meets Tryz.prog 33 [c.d, .sl (m.map icells), iD f, iD t] fun r => r = spD (spanF c m f (t - f)) := by
  refine enter tok {} Tryz.func33 rfl (by kernel_rfl) Tryz.ntmps33 (by simp) fun B0 W0 V0 lent g0 => ?_
  ((conv => whnf); repeat' (refine vcC_go tok {} rfl ?_; conv => whnf))
  refine loop_upd tok {} [] (X := Nat) (fun n => [(10, iB ((f + n : Nat) : Int))]) (fun n => [(9, .box [iB (spanF c m f n).1, iB (spanF c m f n).2] 45)]) [11] (fun n => f + n ≤ t) (fun n => t - f - n) 0 ?_
  ((conv => whnf); repeat' (refine vcC_go tok {} rfl ?_; conv => whnf))
  refine And.intro ?_ ⟨by omega, fun n hle => ?_⟩
  · repeat' (first | exact True.intro | exact rfl | refine And.intro ?_ ?_)
  have hb := spanF_bound hn m f n
  ((conv => whnf); repeat' (refine vcC_go tok {} rfl ?_; conv => whnf))
  refine ⟨fun h1 => ?_, fun h1 => ?_⟩ <;> (try simp only [BB, List.length_map] at h1) <;> ((conv => whnf); repeat' (refine vcC_go tok {} rfl ?_; conv => whnf))
  · have h1' : f + n < m.length := by omega
    have h2' : f + n + 1 < m.length := by omega
    have hl := legOf_good hn m[f + n] m[f + n + 1]
    have hs : spanF c m f (n + 1) = (min most ((spanF c m f n).1 + (legOf c m[f + n] m[f + n + 1]).lo), min most ((spanF c m f n).2 + (legOf c m[f + n] m[f + n + 1]).hi)) := by rw [spanF, getD_of h1', getD_of h2']
    refine draw_rule2 (cf := {}) tok (by kernel_rfl) [0, 1, 2, 3, 4, 5, 6, 7, 8, 9] [(10, [0, 4, 9, 3, 8, 1, 2, 5, 7, 6], [.s 11 [], .s 12 []]), (11, [], [.s 10 [0, 4, 9, 3, 8, 1, 2, 5, 7, 6], .s 12 []])] (by kernel_rfl) ?_
    conv => whnf
    repeat' ((first | (intro hlq; (try simp only [List.length_map, maxLen] at hlq)) | refine Ka ?_ | refine Kb ?_ | refine Kc (hd := rfl) (e := ?_) | refine Kc (hd := icells_eq _) (e := ?_) | refine Kd (e := ?_) | refine ⟨(rfl : look _ _ = look _ _), ?_⟩ | fail) <;> ((conv => whnf); repeat' (refine vcC_go tok {} rfl ?_; conv => whnf)))
    simp only [most] at hb
    refine And.intro ?_ (And.intro ?_ True.intro)
    all_goals
      ((conv => whnf); repeat' (refine vcC_go tok {} rfl ?_; conv => whnf))
      repeat' (first | (refine ⟨(rfl : look _ _ = look _ _), ?_⟩; ((conv => whnf); repeat' (refine vcC_go tok {} rfl ?_; conv => whnf))) | fail)
      refine Meets.k (rleg_meets c m[f + n] m[f + n + 1]) ?_
      ((conv => whnf); repeat' (refine vcC_go tok {} rfl ?_; conv => whnf))
      repeat' (first | (refine ⟨(rfl : look _ _ = look _ _), ?_⟩; ((conv => whnf); repeat' (refine vcC_go tok {} rfl ?_; conv => whnf))) | fail)
      repeat' ((first | (intro hlq; (try simp only [List.length_map, maxLen] at hlq)) | refine Ka ?_ | refine Kb ?_ | refine Kc (hd := rfl) (e := ?_) | refine Kc (hd := Cond.cells_eq _) (e := ?_) | refine Kd (e := ?_) | refine ⟨(rfl : look _ _ = look _ _), ?_⟩ | fail) <;> ((conv => whnf); repeat' (refine vcC_go tok {} rfl ?_; conv => whnf)))
      refine ⟨⟨n + 1, ?_, by omega, by omega⟩⟩
      rw [hs]
      repeat' (first | exact True.intro | exact rfl | refine And.intro ?_ ?_)
  · obtain rfl : n = t - f := by omega
    exact ⟨rfl⟩
end Go.Proofs.YtkkohadkpogdfaaGreat.Dx

