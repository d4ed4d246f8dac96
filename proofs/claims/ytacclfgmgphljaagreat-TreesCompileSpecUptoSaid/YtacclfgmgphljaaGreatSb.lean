/- The code of chapter 10: visit. -/
import Derived.Test.YtacclfgmgphljaaGreatSa
set_option linter.all false
namespace Go.Proofs.YtacclfgmgphljaaGreat.Dx
open Go Go.RowKit
set_option maxRecDepth 100000
set_option maxHeartbeats 16000000
def Tr.sz : Tr → Nat
 | .leaf _ => 1
 | .node _ _ y o => 1 + y.sz + o.sz
theorem Tr.sz_pos (t : Tr) : 0 < t.sz := by cases t <;> simp only [Tr.sz] <;> omega
/-- which indices were met -/
def mcells (n : Nat) (met : List Nat) : List (List D) := (List.range n).map fun i => [D.v (.bool (decide (i ∈ met)))]
theorem mcells_len (n : Nat) (met : List Nat) : (mcells n met).length = n := by simp [mcells]
theorem mcells_get {n : Nat} {met : List Nat} {i : Nat} (h : i < n) : (mcells n met)[i]? = some [D.v (.bool (decide (i ∈ met)))] := by
 rw [mcells, List.getElem?_map, List.getElem?_range h]; rfl
theorem mcells_set {n : Nat} {met : List Nat} {i : Nat} (_ : i < n) : (mcells n met).set i [D.v (.bool true)] = mcells n (met ++ [i]) := by
 apply List.ext_getElem?
 intro j
 rw [List.getElem?_set]
 split
 · rename_i e
   subst e
   rw [if_pos (by rw [mcells_len]; assumption), mcells_get (by assumption)]
   simp
 · rename_i hne
   simp only [mcells, List.getElem?_map]
   rcases Nat.lt_or_ge j n with hj | hj
   · rw [List.getElem?_range hj]
     have : j ≠ i := fun e => hne e.symm
     simp [this]
   · rw [List.getElem?_eq_none (by simp; omega)]; rfl
theorem mcells_zero (n : Nat) : List.replicate n [D.v (.bool false)] = mcells n [] := by
 apply List.ext_getElem?
 intro j
 rw [List.getElem?_replicate]
 split
 · rw [mcells_get (by assumption)]; simp
 · rw [List.getElem?_eq_none (by rw [mcells_len]; omega)]
abbrev ncells (i : Nat) : List D := [iD (i : Int)]
/-- what is still to come -/
def finI (ns : List Node) (s : List (Nat × Tr)) (met : List Nat) : List Nat := s.foldl (fun m p => preI ns p.2 p.1 m) met
def stk (s : List (Nat × Tr)) : List (List D) := (s.map fun p => ncells p.1).reverse
def szS (s : List (Nat × Tr)) : Nat := (s.map fun p => p.2.sz).sum
theorem stk_len (s : List (Nat × Tr)) : (stk s).length = s.length := by simp [stk]
theorem stk_cons (p : Nat × Tr) (s : List (Nat × Tr)) : stk (p :: s) = stk s ++ [ncells p.1] := by simp [stk]
theorem nodup_len : ∀ {n : Nat} {met : List Nat}, met.Nodup → (∀ j ∈ met, j < n) → met.length ≤ n
 | 0, met, _, hm => by
   cases met with
   | nil => simp
   | cons a l => exact absurd (hm a (by simp)) (by omega)
 | n + 1, met, h, hm => by
   by_cases hn : n ∈ met
   · have h1 := List.length_erase_of_mem hn
     have h2 := nodup_len (n := n) (h.erase n) (fun j hj => by
      have h3 := (h.mem_erase_iff).1 hj
      have := hm j h3.2
      omega)
     omega
   · have := nodup_len (n := n) h (fun j hj => by
      have := hm j hj
      have : j ≠ n := fun e => hn (e ▸ hj)
      omega)
     omega
/-- room for what is appended -/
theorem Kap {a b k : Nat} {E : Prop} (e : E) (h : a + b ≤ 2000000000) (hk : k ≤ 8192) : (a ≤ maxLen → b ≤ maxLen → a + b ≤ 4611686018427387904 ∧ (a + b) * k ≤ 140737488355328) ∧ E :=
 ⟨fun _ _ => ⟨by omega, Nat.le_trans (Nat.mul_le_mul h hk) (by decide)⟩, e⟩
theorem preI_in {ns : List Node} {t : Tr} {i : Nat} {met : List Nat} (h : i ∈ met) : preI ns t i met = met := by
 cases t <;> rw [preI, if_pos h]
theorem visit_meets (ns : List Node) (root : Nat) (t : Tr) (h : Den ns root t) (hl : ns.length ≤ 1000000000) : Meets Tryz.prog 27 [.sl (ns.map Node.cells), iD root] fun d => d = .sl ((preI ns t root []).map ncells) := by
 refine enter tok {priv := [12, 26]} Tryz.func27 rfl (by kernel_rfl) Tryz.ntmps27 (by simp) fun B0 W0 V0 lent g0 => ?_
 ((conv => whnf); repeat' (refine vcC_go tok {priv := [12, 26]} rfl ?_; conv => whnf))
 refine J_scope ?_
 ((conv => whnf); repeat' (refine vcC_go tok {priv := [12, 26]} rfl ?_; conv => whnf))
 repeat' ((first | (intro hlq; (try simp only [SL] at hlq)) | refine Ks ?_ | refine Kq ?_ | refine Kt ?_ | refine Ka ?_ | refine Kb ?_ | refine Kc (hd := rfl) (e := ?_) | refine Kc (hd := icells_eq _) (e := ?_) | refine Kd (e := ?_) | refine Kl rfl ?_ | fail) <;> ((conv => whnf); repeat' (refine vcC_go tok {priv := [12, 26]} rfl ?_; conv => whnf)))
 refine ⟨⟨rfl, rfl, by omega, by rw [List.length_map]; show (1 : Int) * _ ≤ _; omega, by rw [List.length_map]; omega⟩, ?_⟩
 ((conv => whnf); repeat' (refine vcC_go tok {priv := [12, 26]} rfl ?_; conv => whnf))
 repeat' ((first | (intro hlq; (try simp only [SL] at hlq)) | refine Ks ?_ | refine Kq ?_ | refine Kt ?_ | refine Ka ?_ | refine Kb ?_ | refine Kc (hd := rfl) (e := ?_) | refine Kc (hd := icells_eq _) (e := ?_) | refine Kd (e := ?_) | refine Kl rfl ?_ | fail) <;> ((conv => whnf); repeat' (refine vcC_go tok {priv := [12, 26]} rfl ?_; conv => whnf)))
 refine J_label ?_
 ((conv => whnf); repeat' (refine vcC_go tok {priv := [12, 26]} rfl ?_; conv => whnf))
 refine loop_upd tok {priv := [12, 26]} [(.inl 4, 4, 3, 1)] (X := List (Nat × Tr) × List Nat) (fun x => [(4, .own 4), (6, .own 12), (12, .junk)]) (fun x => [(4, .sl ⟨3, 1, x.2.map ncells, true⟩), (12, .sl ⟨3, 1, stk x.1, false⟩), (10, .sl ⟨4, 1, mcells ns.length x.2, false⟩)]) []
  (fun x => finI ns x.1 x.2 = preI ns t root [] ∧ (∀ p ∈ x.1, Den ns p.1 p.2) ∧ (x.2.Nodup ∧ ∀ j ∈ x.2, j < ns.length) ∧ x.1.length ≤ x.2.length + 1) (fun x => szS x.1) ([(root, t)], []) ?_
 ((conv => whnf); repeat' (refine vcC_go tok {priv := [12, 26]} rfl ?_; conv => whnf))
 refine ⟨by simp, ?_⟩
 ((conv => whnf); repeat' (refine vcC_go tok {priv := [12, 26]} rfl ?_; conv => whnf))
 refine And.intro ?_ ⟨⟨rfl, by simpa using h, ⟨by simp, by simp⟩, by simp⟩, fun x hΦ => ?_⟩
 · have e : List.replicate ((ns.map Node.cells).length : Int).toNat [D.v (.bool false)] = mcells ns.length [] := by rw [Int.toNat_natCast, List.length_map, mcells_zero]
   repeat' (first | exact True.intro | exact rfl | refine And.intro ?_ ?_ | (exact e))
 obtain ⟨s, met⟩ := x
 obtain ⟨hfin, hden, ⟨hnd, hlt⟩, hsl⟩ := hΦ
 dsimp only at hfin hden hnd hlt hsl
 have hmet := nodup_len hnd hlt
 have hstk := stk_len s
 ((conv => whnf); repeat' (refine vcC_go tok {priv := [12, 26]} rfl ?_; conv => whnf))
 repeat' ((first | (intro hlq; (try simp only [SL] at hlq)) | refine Ks ?_ | refine Kq ?_ | refine Kt ?_ | refine Ka ?_ | refine Kb ?_ | refine Kc (hd := rfl) (e := ?_) | refine Kc (hd := icells_eq _) (e := ?_) | refine Kd (e := ?_) | refine Kl rfl ?_ | fail) <;> ((conv => whnf); repeat' (refine vcC_go tok {priv := [12, 26]} rfl ?_; conv => whnf)))
 refine ⟨fun h1 => ?_, fun h1 => ?_⟩ <;> (try simp only [BL] at h1) <;> ((conv => whnf); repeat' (refine vcC_go tok {priv := [12, 26]} rfl ?_; conv => whnf))
 · obtain ⟨p, s, rfl⟩ : ∃ p s', s = p :: s' := by
    cases s with
    | nil => simp [stk] at h1
    | cons p s => exact ⟨p, s, rfl⟩
   obtain ⟨at_, tr⟩ := p
   have hd := hden (at_, tr) (by simp)
   simp only at hd
   have hal := hd.lt
   have hsl' : (stk s).length = s.length := stk_len s
   rw [List.length_cons] at hstk hsl
   have hix : (((stk ((at_, tr) :: s)).length : Int) - 1).toNat = (stk s).length := by omega
   have hget : (stk ((at_, tr) :: s))[(((stk ((at_, tr) :: s)).length : Int) - 1).toNat]? = some (ncells at_) := by
    rw [hix, stk_cons, List.getElem?_append_right (Nat.le_refl _), Nat.sub_self]; rfl
   have htake : (stk ((at_, tr) :: s)).take (((stk ((at_, tr) :: s)).length : Int) - 1).toNat = stk s := by
    rw [hix, stk_cons, List.take_left]
   repeat' ((first | (intro hlq; (try simp only [SL] at hlq)) | refine Ks ?_ | refine Kq ?_ | refine Kt ?_ | refine Ka ?_ | refine Kb ?_ | refine Kc (hd := rfl) (e := ?_) | refine Kc (hd := icells_eq _) (e := ?_) | refine Kd (e := ?_) | refine Kl rfl ?_ | fail) <;> ((conv => whnf); repeat' (refine vcC_go tok {priv := [12, 26]} rfl ?_; conv => whnf)))
   refine ⟨⟨by dsimp only; omega, by dsimp only; omega, rfl⟩, ?_⟩
   ((conv => whnf); repeat' (refine vcC_go tok {priv := [12, 26]} rfl ?_; conv => whnf))
   refine ⟨_, ⟨hget, rfl⟩, ?_⟩
   ((conv => whnf); repeat' (refine vcC_go tok {priv := [12, 26]} rfl ?_; conv => whnf))
   repeat' ((first | (intro hlq; (try simp only [SL] at hlq)) | refine Ks ?_ | refine Kq ?_ | refine Kt ?_ | refine Ka ?_ | refine Kb ?_ | refine Kc (hd := rfl) (e := ?_) | refine Kc (hd := icells_eq _) (e := ?_) | refine Kd (e := ?_) | refine Kl rfl ?_ | fail) <;> ((conv => whnf); repeat' (refine vcC_go tok {priv := [12, 26]} rfl ?_; conv => whnf)))
   refine ⟨fun _ => ⟨by dsimp only; omega, by dsimp only; omega, by dsimp only; omega, rfl⟩, ?_⟩
   ((conv => whnf); repeat' (refine vcC_go tok {priv := [12, 26]} rfl ?_; conv => whnf))
   refine ⟨⟨by omega, by show (at_ : Int) < ((mcells ns.length met).length : Int); rw [mcells_len]; omega, rfl⟩, ?_⟩
   ((conv => whnf); repeat' (refine vcC_go tok {priv := [12, 26]} rfl ?_; conv => whnf))
   refine ⟨_, ⟨mcells_get hal, rfl⟩, ?_⟩
   ((conv => whnf); repeat' (refine vcC_go tok {priv := [12, 26]} rfl ?_; conv => whnf))
   refine ⟨fun h2 => ?_, fun h2 => ?_⟩ <;> (try simp only [BL] at h2) <;> ((conv => whnf); repeat' (refine vcC_go tok {priv := [12, 26]} rfl ?_; conv => whnf))
   · rw [Int.toNat_natCast] at h2
     refine ⟨⟨(s, met), ?_, ⟨?_, fun p hp => hden p (List.mem_cons_of_mem _ hp), ⟨hnd, hlt⟩, by dsimp only; omega⟩, ?_⟩⟩
     · repeat' (first | exact True.intro | exact rfl | refine And.intro ?_ ?_ | (exact htake))
     · rw [← hfin]; show finI ns s met = finI ns s (preI ns tr at_ met); rw [preI_in h2]
     · have := tr.sz_pos
       simp only [szS, List.map_cons, List.sum_cons]; omega
   · rw [Int.toNat_natCast] at h2
     refine ⟨⟨by omega, by show (at_ : Int) < ((mcells ns.length met).length : Int); rw [mcells_len]; omega, rfl⟩, ?_⟩
     ((conv => whnf); repeat' (refine vcC_go tok {priv := [12, 26]} rfl ?_; conv => whnf))
     refine ⟨_, ⟨mcells_get hal, rfl, Nat.le_refl _⟩, ?_⟩
     ((conv => whnf); repeat' (refine vcC_go tok {priv := [12, 26]} rfl ?_; conv => whnf))
     refine ⟨by simp, ?_⟩
     ((conv => whnf); repeat' (refine vcC_go tok {priv := [12, 26]} rfl ?_; conv => whnf))
     refine Kap ?_ ?_ ?_
     rotate_left 1
     · simp; omega
     · decide
     ((conv => whnf); repeat' (refine vcC_go tok {priv := [12, 26]} rfl ?_; conv => whnf))
     obtain ⟨x, hx⟩ : ∃ x, ns[at_]? = some x := ⟨ns[at_], List.getElem?_eq_getElem hal⟩
     have hxi : 0 ≤ (at_ : Int) ∧ ns[(at_ : Int).toNat]? = some x := ⟨by omega, by rw [Int.toNat_natCast]; exact hx⟩
     have hset := mcells_set (met := met) hal
     have hnd' : (met ++ [at_]).Nodup ∧ ∀ j ∈ met ++ [at_], j < ns.length := by
      refine ⟨?_, fun j hj => ?_⟩
      · rw [List.nodup_append]
        exact ⟨hnd, by simp, fun a ha b hb => by rw [List.mem_singleton.1 hb]; exact fun e => h2 (e ▸ ha)⟩
      · rcases List.mem_append.1 hj with hj | hj
        · exact hlt j hj
        · rw [List.mem_singleton.1 hj]; exact hal
     have hml := nodup_len hnd'.1 hnd'.2
     rw [List.length_append, List.length_singleton] at hml
     repeat' ((first | (intro hlq; (try simp only [SL] at hlq)) | refine Kn x hxi ?_ | refine Ks ?_ | refine Kq ?_ | refine Kt ?_ | ((refine Kh (fun hb => ?_) fun hb => ?_) <;> (try simp only [BL] at hb)) | refine Ka ?_ | refine Kb ?_ | refine Kc (hd := rfl) (e := ?_) | refine Kc (hd := icells_eq _) (e := ?_) | refine Kd (e := ?_) | refine Kl rfl ?_ | fail) <;> ((conv => whnf); repeat' (refine vcC_go tok {priv := [12, 26]} rfl ?_; conv => whnf)))
     · refine draw_rule tok (cf := {priv := [12, 26]}) (by kernel_rfl) [.p 0, .p 1, .p 2, .p 3, .p 4, .p 5, .p 6, .p 7, .p 8, .p 9, .p 10, .p 11, .s 12 [0,11,5,10,4,9,3,8,1,2,6,7], .p 13] (by kernel_rfl) ?_
       ((conv => whnf); repeat' (refine vcC_go tok {priv := [12, 26]} rfl ?_; conv => whnf))
       repeat' (first | (refine Kl rfl ?_; ((conv => whnf); repeat' (refine vcC_go tok {priv := [12, 26]} rfl ?_; conv => whnf))) | fail)
       repeat' ((first | (intro hlq; (try simp only [SL] at hlq)) | refine Kn x hxi ?_ | refine Ks ?_ | refine Kq ?_ | refine Kt ?_ | ((refine Kh (fun hb => ?_) fun hb => ?_) <;> (try simp only [BL] at hb)) | refine Ka ?_ | refine Kb ?_ | refine Kc (hd := rfl) (e := ?_) | refine Kc (hd := icells_eq _) (e := ?_) | refine Kd (e := ?_) | refine Kl rfl ?_ | fail) <;> ((conv => whnf); repeat' (refine vcC_go tok {priv := [12, 26]} rfl ?_; conv => whnf)))
       refine ⟨by simp, ?_⟩
       ((conv => whnf); repeat' (refine vcC_go tok {priv := [12, 26]} rfl ?_; conv => whnf))
       refine Kap ?_ ?_ ?_
       rotate_left 1
       · simp; omega
       · decide
       ((conv => whnf); repeat' (refine vcC_go tok {priv := [12, 26]} rfl ?_; conv => whnf))
       repeat' (first | (refine Kl rfl ?_; ((conv => whnf); repeat' (refine vcC_go tok {priv := [12, 26]} rfl ?_; conv => whnf))) | fail)
       cases hd with
       | leaf _ c hc => rw [hc] at hx; cases hx; exact absurd rfl hb
       | node _ v n y o ty to_ hc hv hy ho =>
         rw [hc] at hx
         cases hx
         refine ⟨⟨((y, ty) :: (o, to_) :: s, met ++ [at_]), ?_, ⟨?_, ?_, hnd', by dsimp only; simp; omega⟩, ?_⟩⟩
         · have e : stk ((y, ty) :: (o, to_) :: s) = (stk ((at_, .node v n ty to_) :: s)).take (((stk ((at_, .node v n ty to_) :: s)).length : Int) - 1).toNat ++ [[iD (o : Int)], [iD (y : Int)]] := by
            rw [htake, stk_cons, stk_cons, List.append_assoc]; rfl
           repeat' (first | exact True.intro | exact rfl | refine And.intro ?_ ?_ | (exact e) | (exact e.symm) | (exact hset) | (exact hset.symm) | ((simp; done)))
         · rw [← hfin]
           show finI ns s (preI ns to_ o (preI ns ty y (met ++ [at_]))) = finI ns s (preI ns (.node v n ty to_) at_ met)
           rw [preI, if_neg h2, show yesI ns at_ = y from by simp [yesI, hc], show noI ns at_ = o from by simp [noI, hc]]
         · intro p hp
           simp only [List.mem_cons] at hp
           rcases hp with rfl | rfl | hp
           · exact hy
           · exact ho
           · exact hden p (List.mem_cons_of_mem _ hp)
         · simp only [szS, List.map_cons, List.sum_cons, Tr.sz]; omega
     · cases hd with
       | leaf _ c hc =>
         refine ⟨⟨(s, met ++ [at_]), ?_, ⟨?_, fun p hp => hden p (List.mem_cons_of_mem _ hp), hnd', by dsimp only; simp; omega⟩, ?_⟩⟩
         · repeat' (first | exact True.intro | exact rfl | refine And.intro ?_ ?_ | (exact htake) | (exact hset) | (exact hset.symm) | ((simp; done)))
         · rw [← hfin]; show finI ns s _ = finI ns s (preI ns (.leaf c) at_ met); rw [preI, if_neg h2]
         · simp only [szS, List.map_cons, List.sum_cons, Tr.sz]; omega
       | node _ v n y o _ _ hc hv hy ho => rw [hc] at hx; cases hx; exact absurd (Decidable.not_not.1 hb) hv
 · have hs0 : s = [] := List.eq_nil_of_length_eq_zero (by omega)
   subst hs0
   refine ⟨?_⟩
   rw [← hfin]; rfl
end Go.Proofs.YtacclfgmgphljaaGreat.Dx
/- The code of chapter 10: Check. -/
namespace Go.Proofs.YtacclfgmgphljaaGreat.Dx
open Go Go.RowKit
set_option maxRecDepth 100000
set_option maxHeartbeats 16000000
/-! ### maps -/
theorem mgetP (l : List (D × D)) (k v x : D) : mget (mput l k v) x = (open Classical in if k = x then some v else mget l x) := by
 induction l with
 | nil => simp [mput, mget]
 | cons p l ih =>
   simp only [mput]
   by_cases e : p.1 = k
   · rw [if_pos e]
     simp only [mget]
     by_cases h : k = x
     · simp [h]
     · rw [if_neg h, if_neg h, if_neg (by rw [e]; exact h)]
   · rw [if_neg e]
     simp only [mget, ih]
     by_cases h : p.1 = x
     · rw [if_pos h, if_pos h, if_neg (by rw [← h]; exact fun h2 => e h2.symm)]
     · rw [if_neg h, if_neg h]
theorem mputK {S : D → Prop} {k v : D} (hk : S k) : ∀ {l : List (D × D)}, (∀ p ∈ l, S p.1) → ∀ p ∈ mput l k v, S p.1
 | [], _, p, hp => by rw [mput, List.mem_singleton] at hp; rw [hp]; exact hk
 | q :: l, hl, p, hp => by
   rw [mput] at hp
   split at hp
   · rcases List.mem_cons.1 hp with rfl | hp
     · exact hk
     · exact hl p (by simp [hp])
   · rcases List.mem_cons.1 hp with rfl | hp
     · exact hl p (by simp)
     · exact mputK hk (fun p hp => hl p (by simp [hp])) p hp
abbrev KNode : D → Prop := KScs [.int .i64, .int .i64, .int .i64, .int .i64, .string]
theorem key_k (x : Node) : KNode x.key := ⟨[iD x.var, iD x.n, iD x.yes, iD x.no, .str (kbytes x.crit)], ⟨rfl, rfl, rfl, rfl, trivial, trivial⟩, rfl⟩
/-- a map from nodes' keys -/
structure NMap (ns : List Node) (f : Nat → D) (l : List (D × D)) : Prop where
 keys : ∀ p ∈ l, KNode p.1
 get : ∀ x, Small x → mget l x.key = if x ∈ ns then some (f (ns.idxOf x)) else none
theorem NMap.nil (f : Nat → D) : NMap [] f [] := ⟨fun p h => (by cases h), fun x _ => (by simp [mget])⟩
theorem NMap.snoc {ns : List Node} {f : Nat → D} {l : List (D × D)} (h : NMap ns f l) {x : Node} (hx : Small x) (hn : x ∉ ns) (hs : ∀ y ∈ ns, Small y) : NMap (ns ++ [x]) f (mput l x.key (f ns.length)) := by
 refine ⟨mputK (key_k x) h.keys, fun y hy => ?_⟩
 rw [mgetP]
 by_cases e : x = y
 · subst e
   rw [if_pos rfl, if_pos (by simp), List.idxOf_append, if_neg hn]
   simp
 · rw [if_neg (fun h => e (key_inj hx hy h)), h.get y hy]
   by_cases hm : y ∈ ns
   · rw [if_pos hm, if_pos (by simp [hm]), List.idxOf_append, if_pos hm]
   · rw [if_neg hm, if_neg (by simp [hm]; exact fun h => e h.symm)]
theorem crits_len {l : List Int} (h : Crits l) : l.length ≤ 5 := by
 have h1 : (l.map fun y => (y - 1).toNat).Nodup := nodup_map' h.1 fun x hx y hy e => by
  have := h.2 x hx; have := h.2 y hy; omega
 have := nodup_len (n := 5) h1 fun j hj => by
  obtain ⟨y, hy, rfl⟩ := List.mem_map.1 hj
  have := h.2 y hy; omega
 simpa using this
theorem small_ok {ns : List Node} {x : Node} (h : Leaf x ∨ Inner ns x) : Small x := by
 rcases h with h | h
 · exact ⟨crits_len h.1, h.1.2⟩
 · rw [Small, h.2.1]; simp
/-! ### order -/
theorem sorted_ext : ∀ {l m : List Int}, l.Pairwise (· < ·) → m.Pairwise (· < ·) → (∀ x, x ∈ l ↔ x ∈ m) → l = m
 | [], [], _, _, _ => rfl
 | [], b :: m, _, _, h => absurd ((h b).2 (by simp)) (by simp)
 | a :: l, [], _, _, h => absurd ((h a).1 (by simp)) (by simp)
 | a :: l, b :: m, h1, h2, h => by
   have q1 := List.pairwise_cons.1 h1
   have q2 := List.pairwise_cons.1 h2
   have hab : a = b := by
    have ha := (h a).1 (by simp)
    have hb := (h b).2 (by simp)
    rcases List.mem_cons.1 ha with e | ha
    · exact e
    · rcases List.mem_cons.1 hb with e | hb
      · exact e.symm
      · have := q1.1 b hb; have := q2.1 a ha; omega
   subst hab
   rw [sorted_ext q1.2 q2.2 fun x => ?_]
   constructor
   · intro hx
     have := q1.1 x hx
     rcases List.mem_cons.1 ((h x).1 (by simp [hx])) with e | hm
     · omega
     · exact hm
   · intro hx
     have := q2.1 x hx
     rcases List.mem_cons.1 ((h x).2 (by simp [hx])) with e | hm
     · omega
     · exact hm
theorem order_range {l : List Nat} {n : Nat} (hn : l.Nodup) (hl : ∀ j ∈ l, j < n) : (l.length = n ∧ (l.map fun i : Nat => (i : Int)).Pairwise (· ≤ ·)) ↔ l = List.range n := by
 constructor
 · rintro ⟨hlen, hs⟩
   have hall : ∀ j, j < n → j ∈ l := by
    intro j hj
    refine Classical.byContradiction fun hm => ?_
    have := nodup_len (n := n) (met := j :: l) (List.nodup_cons.2 ⟨hm, hn⟩) fun i hi => by
     rcases List.mem_cons.1 hi with rfl | hi
     · exact hj
     · exact hl i hi
    rw [List.length_cons] at this
    omega
   have hlt : (l.map fun i : Nat => (i : Int)).Pairwise (· < ·) := by
    have h2 : (l.map fun i : Nat => (i : Int)).Pairwise (· ≠ ·) := List.Pairwise.map _ (fun a b h e => h (Int.ofNat_inj.1 e)) hn
    exact (hs.and h2).imp fun h => by omega
   have hr : ((List.range n).map fun i : Nat => (i : Int)).Pairwise (· < ·) := List.Pairwise.map _ (fun a b (h : a < b) => by omega) List.pairwise_lt_range
   have := sorted_ext hlt hr fun x => by
    simp only [List.mem_map, List.mem_range]
    constructor
    · rintro ⟨j, hj, rfl⟩; exact ⟨j, hl j hj, rfl⟩
    · rintro ⟨j, hj, rfl⟩; exact ⟨j, hall j hj, rfl⟩
   have h3 := congrArg (List.map Int.toNat) this
   simpa [List.map_map, Function.comp_def] using h3
 · rintro rfl
   refine ⟨by simp, List.Pairwise.map _ (fun a b (h : a < b) => by omega) List.pairwise_lt_range⟩
theorem pre_nodup {ns : List Node} {d : Nat → Tr} (hf : Forest ns d) {t : Tr} {r : Nat} (h : Den ns r t) : (preI ns t r []).Nodup := by
 have hm := pre_map hf h (met := []) (by simp)
 have h2 := preT_nodup (t := t) (met := []) (by simp)
 rw [List.map_nil] at hm
 rw [← hm] at h2
 exact (List.pairwise_map.1 h2).imp fun h e => h (congrArg d e)
theorem isSortedN_meets (l : List Nat) : Meets Tryz.prog 39 [.sl (l.map ncells)] fun d => d = bD (decide ((l.map fun i : Nat => (i : Int)).Pairwise (· ≤ ·))) := by
 have h := isSorted_meets (l.map fun i : Nat => (i : Int))
 rw [List.map_map] at h
 exact h
/-! ### Check -/
def okTo (ns : List Node) (i : Nat) : Prop := (∀ x ∈ ns.take i, Leaf x ∨ Inner ns x) ∧ (ns.take i).Nodup
theorem okTo_step {ns : List Node} {i : Nat} (h : i < ns.length) : okTo ns (i + 1) ↔ okTo ns i ∧ (Leaf ns[i] ∨ Inner ns ns[i]) ∧ ns[i] ∉ ns.take i := by
 rw [okTo, okTo, List.take_succ_eq_append_getElem h, List.nodup_append]
 constructor
 · rintro ⟨a, b, _, c⟩
   exact ⟨⟨fun x hx => a x (List.mem_append_left _ hx), b⟩, a _ (List.mem_append_right _ (List.mem_singleton.2 rfl)), fun hm => c _ hm _ (by simp) rfl⟩
 · rintro ⟨⟨a, b⟩, c, d⟩
   refine ⟨fun x hx => ?_, b, by simp, fun x hx y hy => by rw [List.mem_singleton.1 hy]; exact fun e => d (e ▸ hx)⟩
   rcases List.mem_append.1 hx with hx | hx
   · exact a x hx
   · rw [List.mem_singleton.1 hx]; exact c
theorem okTo_not {ns : List Node} {i : Nat} (h : ¬ okTo ns i) : ¬ TreeOk ns := fun ht => h ⟨fun x hx => ht.nodes.1 x (List.mem_of_mem_take hx), ht.nodes.2.sublist (List.take_sublist _ _)⟩
theorem checkE_big {ns : List Node} (h : 4096 < ns.length) : checkE ns = 2 := by rw [checkE, if_pos h]
theorem checkE_bad {ns : List Node} (h : ¬ 4096 < ns.length) (ht : ¬ TreeOk ns) : checkE ns = 100 := by rw [checkE, if_neg h, if_neg ht]
theorem checkE_ok {ns : List Node} (h : ¬ 4096 < ns.length) (ht : TreeOk ns) : checkE ns = 0 := by rw [checkE, if_neg h, if_pos ht]
/-- what is left to be asked of nodes that are each as they should be -/
theorem treeOk_iff {ns : List Node} (hn : NodesOk ns) {d : Nat → Tr} (hf : Forest ns d) (h0 : 0 < ns.length) : TreeOk ns ↔ preI ns (d 0) 0 [] = List.range ns.length := by
 have hd := hf.den 0 h0
 constructor
 · intro h
   obtain ⟨t, ht, he⟩ := h.order
   rw [← ht.func hd]; exact he
 · exact fun h => ⟨fun e => by rw [e] at h0; simp at h0, hn, _, hd, h⟩
open Classical in
theorem tCheck_meets (ns : List Node) : Meets Tryz.prog 14 [treeD ns] fun d => d = iD (checkE ns) := by
 refine enter tok {} Tryz.func14 rfl (by kernel_rfl) Tryz.ntmps14 (by simp) fun B0 W0 V0 lent g0 => ?_
 ((conv => whnf); repeat' (refine Z rfl ?_; conv => whnf))
 repeat' ((first | (intro hlq; (try simp only [SL] at hlq)) | refine Ks ?_ | refine Kq ?_ | refine Kt ?_ | refine Ka ?_ | refine Kb ?_ | refine Kc (hd := rfl) (e := ?_) | refine Kc (hd := icells_eq _) (e := ?_) | refine Kd (e := ?_) | refine Kl rfl ?_ | fail) <;> ((conv => whnf); repeat' (refine Z rfl ?_; conv => whnf)))
 refine ⟨fun h0 => ?_, fun h0 => ?_⟩ <;> (try simp only [BL] at h0) <;> ((conv => whnf); repeat' (refine Z rfl ?_; conv => whnf))
 · exact ⟨by rw [checkE_big (by omega)]⟩
 have h0' : ¬ 4096 < ns.length := by omega
 repeat' ((first | (intro hlq; (try simp only [SL] at hlq)) | refine Ks ?_ | refine Kq ?_ | refine Kt ?_ | refine Ka ?_ | refine Kb ?_ | refine Kc (hd := rfl) (e := ?_) | refine Kc (hd := icells_eq _) (e := ?_) | refine Kd (e := ?_) | refine Kl rfl ?_ | fail) <;> ((conv => whnf); repeat' (refine Z rfl ?_; conv => whnf)))
 refine loop_upd tok {} [] (X := Nat × List (D × D)) (fun x => [(15, iB x.1)]) (fun x => [(11, .mp x.2)]) [5] (fun x => x.1 ≤ ns.length ∧ okTo ns x.1 ∧ NMap (ns.take x.1) (fun _ => bD true) x.2) (fun x => ns.length - x.1) (0, []) ?_
 ((conv => whnf); repeat' (refine Z rfl ?_; conv => whnf))
 refine And.intro ?_ ⟨⟨by omega, by simp [okTo], NMap.nil _⟩, fun x hΦ => ?_⟩
 · exact Kr
 obtain ⟨i, mp⟩ := x
 obtain ⟨hi, hok, hmp⟩ := hΦ
 dsimp only at hi hok hmp
 ((conv => whnf); repeat' (refine Z rfl ?_; conv => whnf))
 refine ⟨fun h1 => ?_, fun h1 => ?_⟩ <;> (try simp only [BL] at h1) <;> ((conv => whnf); repeat' (refine Z rfl ?_; conv => whnf))
 · have h1' : i < ns.length := by omega
   have hstep := okTo_step h1'
   repeat' ((first | (intro hlq; (try simp only [SL] at hlq)) | refine Meets.k (isLeaf_meets ns[i]) ?_ | refine Meets.k (isInner_meets ns ns[i]) ?_ | refine Ks ?_ | refine Kq ?_ | refine Kt ?_ | ((refine Kh (fun hb => ?_) fun hb => ?_) <;> (try simp only [BL] at hb)) | refine Ka ?_ | refine Kb ?_ | refine Kc (hd := rfl) (e := ?_) | refine Kc (hd := icells_eq _) (e := ?_) | refine Kd (e := ?_) | refine Kl rfl ?_ | fail) <;> ((conv => whnf); repeat' (refine Z rfl ?_; conv => whnf)))
   · exact ⟨by rw [checkE_bad h0' (okTo_not fun h => by rcases (hstep.1 h).2.1 with h | h <;> contradiction)]⟩
   all_goals
    have hnode : Leaf ns[i] ∨ Inner ns ns[i] := by first | exact .inl hb | exact .inr hb
    have hsm := small_ok hnode
    have hget : (mget mp ns[i].key).getD (bD false) = bD (decide (ns[i] ∈ ns.take i)) := by
     rw [hmp.get _ hsm]; by_cases hm : ns[i] ∈ ns.take i <;> simp [hm]
    refine Meets.k (keyOf_meets ns[i] hsm) ?_
    ((conv => whnf); repeat' (refine Z rfl ?_; conv => whnf))
    refine ⟨⟨key_k _, hmp.keys⟩, _, hget, ?_⟩
    ((conv => whnf); repeat' (refine Z rfl ?_; conv => whnf))
    refine ⟨fun h2 => ?_, fun h2 => ?_⟩ <;> (try simp only [BL] at h2) <;> ((conv => whnf); repeat' (refine Z rfl ?_; conv => whnf))
    · exact ⟨by rw [checkE_bad h0' (okTo_not fun h => (hstep.1 h).2.2 h2)]⟩
    refine Meets.k (keyOf_meets ns[i] hsm) ?_
    ((conv => whnf); repeat' (refine Z rfl ?_; conv => whnf))
    refine ⟨⟨key_k _, hmp.keys⟩, ?_⟩
    ((conv => whnf); repeat' (refine Z rfl ?_; conv => whnf))
    repeat' ((first | (intro hlq; (try simp only [SL] at hlq)) | refine Ks ?_ | refine Kq ?_ | refine Kt ?_ | refine Ka ?_ | refine Kb ?_ | refine Kc (hd := rfl) (e := ?_) | refine Kc (hd := icells_eq _) (e := ?_) | refine Kd (e := ?_) | refine Kl rfl ?_ | fail) <;> ((conv => whnf); repeat' (refine Z rfl ?_; conv => whnf)))
    have hsn := hmp.snoc hsm h2 (fun y hy => small_ok (hok.1 y hy))
    rw [← List.take_succ_eq_append_getElem h1'] at hsn
    refine ⟨⟨(i + 1, mput mp ns[i].key (bD true)), ?_, ⟨by dsimp only; omega, hstep.2 ⟨hok, hnode, h2⟩, hsn⟩, by dsimp only; omega⟩⟩
    repeat' (first | exact True.intro | exact rfl | refine And.intro ?_ ?_)
 · have hi' : i = ns.length := by omega
   subst hi'
   rw [okTo, List.take_of_length_le (Nat.le_refl _)] at hok
   have hn : NodesOk ns := hok
   obtain ⟨d, hf⟩ := nodes_forest hn
   repeat' ((first | (intro hlq; (try simp only [SL] at hlq)) | refine Ks ?_ | refine Kq ?_ | refine Kt ?_ | refine Ka ?_ | refine Kb ?_ | refine Kc (hd := rfl) (e := ?_) | refine Kc (hd := icells_eq _) (e := ?_) | refine Kd (e := ?_) | refine Kl rfl ?_ | fail) <;> ((conv => whnf); repeat' (refine Z rfl ?_; conv => whnf)))
   refine ⟨fun h3 => ?_, fun h3 => ?_⟩ <;> (try simp only [BL] at h3) <;> ((conv => whnf); repeat' (refine Z rfl ?_; conv => whnf))
   · exact ⟨by rw [checkE_bad h0' fun ht => ht.ne (List.eq_nil_of_length_eq_zero (by omega))]⟩
   have hpos : 0 < ns.length := by omega
   have hiff := treeOk_iff hn hf hpos
   have hd := hf.den 0 hpos
   have hr := order_range (pre_nodup hf hd) (preI_lt hd (by simp))
   generalize ho : preI ns (d 0) 0 [] = order at hiff hr
   have hv := visit_meets ns 0 (d 0) hd (by omega)
   rw [ho] at hv
   refine Meets.k hv ?_
   ((conv => whnf); repeat' (refine Z rfl ?_; conv => whnf))
   repeat' ((first | (intro hlq; (try simp only [SL] at hlq)) | refine Ks ?_ | refine Kq ?_ | refine Kt ?_ | refine Ka ?_ | refine Kb ?_ | refine Kc (hd := rfl) (e := ?_) | refine Kc (hd := icells_eq _) (e := ?_) | refine Kd (e := ?_) | refine Kl rfl ?_ | fail) <;> ((conv => whnf); repeat' (refine Z rfl ?_; conv => whnf)))
   repeat' ((first | (intro hlq; (try simp only [SL] at hlq)) | refine Meets.k (isSortedN_meets order) ?_ | refine Ks ?_ | refine Kq ?_ | refine Kt ?_ | ((refine Kh (fun hb => ?_) fun hb => ?_) <;> (try simp only [BL] at hb)) | refine Ka ?_ | refine Kb ?_ | refine Kc (hd := rfl) (e := ?_) | refine Kc (hd := icells_eq _) (e := ?_) | refine Kd (e := ?_) | refine Kl rfl ?_ | fail) <;> ((conv => whnf); repeat' (refine Z rfl ?_; conv => whnf)))
   · exact ⟨by rw [checkE_bad h0' fun ht => by have := (hr.2 (hiff.1 ht)).1; simp at hb; omega]⟩
   · exact ⟨by rw [checkE_bad h0' fun ht => hb (hr.2 (hiff.1 ht)).2]⟩
   · exact ⟨by rw [checkE_ok h0' (hiff.2 (hr.1 ⟨by omega, hb⟩))]⟩
end Go.Proofs.YtacclfgmgphljaaGreat.Dx
/- The code of chapter 10: Eval. -/
namespace Go.Proofs.YtacclfgmgphljaaGreat.Dx
open Go Go.RowKit
set_option maxRecDepth 100000
set_option maxHeartbeats 16000000
theorem checkE_iff {ns : List Node} : checkE ns = 0 ↔ ns.length ≤ 4096 ∧ TreeOk ns := by
 unfold checkE
 split
 · constructor
   · intro h; exact absurd h (by decide)
   · intro h; omega
 · split
   · exact ⟨fun _ => ⟨by omega, by assumption⟩, fun _ => rfl⟩
   · constructor
     · intro h; exact absurd h (by decide)
     · intro h; exact absurd h.2 (by assumption)
open Classical in
noncomputable def treeOf (ns : List Node) : Tr := if h : ∃ t, Den ns 0 t then h.choose else .leaf []
theorem treeOf_eq {ns : List Node} {t : Tr} (h : Den ns 0 t) : treeOf ns = t := by
 have : ∃ t, Den ns 0 t := ⟨t, h⟩
 rw [treeOf, dif_pos this]
 exact this.choose_spec.func h
noncomputable def evalE (ns : List Node) (x : Env) : List Int × Int := if checkE ns = 0 then (if x.good then ((treeOf ns).eval x, 0) else ([], 1)) else ([], checkE ns)
theorem tEval_meets (ns : List Node) (x : Env) : Meets Tryz.prog 12 [treeD ns, x.d] fun d => d = .tup [.sl ((evalE ns x).1.map icells), iD (evalE ns x).2] := by
 refine enter tok {} Tryz.func12 rfl (by kernel_rfl) Tryz.ntmps12 (by simp) fun B0 W0 V0 lent g0 => ?_
 ((conv => whnf); repeat' (refine Z rfl ?_; conv => whnf))
 refine Meets.k (tCheck_meets ns) ?_
 ((conv => whnf); repeat' (refine Z rfl ?_; conv => whnf))
 refine ⟨fun h1 => ?_, fun h1 => ?_⟩ <;> (try simp only [BL] at h1) <;> ((conv => whnf); repeat' (refine Z rfl ?_; conv => whnf))
 · exact ⟨by rw [evalE, if_neg h1]; rfl⟩
 have hc : checkE ns = 0 := by omega
 obtain ⟨hlen, hok⟩ := checkE_iff.1 hc
 refine Meets.k (Env_meets x) ?_
 ((conv => whnf); repeat' (refine Z rfl ?_; conv => whnf))
 refine ⟨fun h2 => ?_, fun h2 => ?_⟩ <;> simp only [decide_eq_true_eq, decide_eq_false_iff_not] at h2
 · ((conv => whnf); repeat' (refine Z rfl ?_; conv => whnf))
   refine ⟨?_⟩
   have hg : x.good = false := by cases hg : x.good <;> simp_all
   rw [evalE, if_pos hc, hg]
   rfl
 have hg : x.good = true := by cases hg : x.good <;> simp_all
 have hres : evalE ns x = ((treeOf ns).eval x, 0) := by rw [evalE, if_pos hc, if_pos hg]
 have hpos : 0 < ns.length := by
  rcases Nat.eq_zero_or_pos ns.length with h | h
  · exact absurd (List.eq_nil_of_length_eq_zero h) hok.ne
  · exact h
 obtain ⟨root, hroot, _⟩ := hok.order
 have hat : ∀ i : Nat, i < ns.length → 0 ≤ (i : Int) ∧ ns[(i : Int).toNat]? = some (ns.getD i ⟨0, 0, 0, 0, []⟩) := fun i hi => ⟨by omega, by rw [Int.toNat_natCast, List.getD_eq_getElem?_getD, List.getElem?_eq_getElem hi]; rfl⟩
 ((conv => whnf); repeat' (refine Z rfl ?_; conv => whnf))
 repeat' ((first | (intro hlq; (try simp only [SL] at hlq)) | refine Kn _ (hat 0 hpos) ?_ | refine Ks ?_ | refine Kq ?_ | refine Kt ?_ | ((refine Kh (fun hb => ?_) fun hb => ?_) <;> (try simp only [BL] at hb)) | refine Ka ?_ | refine Kb ?_ | refine Kc (hd := rfl) (e := ?_) | refine Kc (hd := icells_eq _) (e := ?_) | refine Kd (e := ?_) | refine Kl rfl ?_ | fail) <;> ((conv => whnf); repeat' (refine Z rfl ?_; conv => whnf)))
 refine loop_upd tok {} [] (X := Node × Tr) (fun _ => []) (fun s => [(8, .box (s.1.cells.map .d) 39)]) [] (fun s => (∃ i, ns[i]? = some s.1 ∧ Den ns i s.2) ∧ s.2.eval x = root.eval x) (fun s => s.2.sz) (ns.getD 0 ⟨0, 0, 0, 0, []⟩, root) ?_
 ((conv => whnf); repeat' (refine Z rfl ?_; conv => whnf))
 refine And.intro ?_ ⟨⟨⟨0, (hat 0 hpos).2, hroot⟩, rfl⟩, fun s hΦ => ?_⟩
 · exact Kr
 obtain ⟨n, tr⟩ := s
 obtain ⟨⟨i, hi, hden⟩, hev⟩ := hΦ
 dsimp only at hi hden hev
 ((conv => whnf); repeat' (refine Z rfl ?_; conv => whnf))
 refine ⟨fun h3 => ?_, fun h3 => ?_⟩ <;> (try simp only [BL] at h3) <;> ((conv => whnf); repeat' (refine Z rfl ?_; conv => whnf))
 · have hb : 1 ≤ n.var ∧ n.var ≤ 3 := by
    rcases hok.nodes.1 n (List.mem_of_getElem? hi) with h | h
    · exact absurd h.2.1 h3
    · exact h.1
   have hnx := next_meets n x hb.1 hb.2
   obtain ⟨j, z, tz, hj, hz, hdz, hez, hsz⟩ : ∃ (j : Nat) (z : Node) (tz : Tr), (if n.n ≤ x.value n.var then n.yes else n.no) = (j : Int) ∧ ns[j]? = some z ∧ Den ns j tz ∧ tz.eval x = root.eval x ∧ tz.sz < tr.sz := by
    cases hden with
    | leaf _ c hc => rw [hc] at hi; cases hi; exact absurd rfl h3
    | node _ v m y o ty to_ hc hv hy ho =>
      rw [hc] at hi
      cases hi
      have := to_.sz_pos; have := ty.sz_pos
      simp only [Tr.eval] at hev
      by_cases hc : m ≤ x.value v
      · rw [if_pos hc] at hev
        exact ⟨y, ns[y]'hy.lt, ty, if_pos hc, List.getElem?_eq_getElem hy.lt, hy, hev, by simp only [Tr.sz]; omega⟩
      · rw [if_neg hc] at hev
        exact ⟨o, ns[o]'ho.lt, to_, if_neg hc, List.getElem?_eq_getElem ho.lt, ho, hev, by simp only [Tr.sz]; omega⟩
   rw [hj] at hnx
   have hzi : 0 ≤ (j : Int) ∧ ns[(j : Int).toNat]? = some z := ⟨by omega, by rw [Int.toNat_natCast]; exact hz⟩
   refine draw_rule tok (cf := {}) (by kernel_rfl) [.p 0, .p 1, .p 2, .p 3, .s 4 [2,3], .p 5, .p 6, .s 7 [6,0,1,5]] (by kernel_rfl) ?_
   ((conv => whnf); repeat' (refine Z rfl ?_; conv => whnf))
   repeat' ((first | (intro hlq; (try simp only [SL] at hlq)) | refine Meets.k (hnx) ?_ | refine Kn z hzi ?_ | refine Ks ?_ | refine Kq ?_ | refine Kt ?_ | ((refine Kh (fun hb => ?_) fun hb => ?_) <;> (try simp only [BL] at hb)) | refine Ka ?_ | refine Kb ?_ | refine Kc (hd := rfl) (e := ?_) | refine Kc (hd := icells_eq _) (e := ?_) | refine Kd (e := ?_) | refine Kl rfl ?_ | fail) <;> ((conv => whnf); repeat' (refine Z rfl ?_; conv => whnf)))
   refine ⟨⟨(z, tz), ?_, ⟨⟨j, hz, hdz⟩, hez⟩, hsz⟩⟩
   repeat' (first | exact True.intro | exact rfl | refine And.intro ?_ ?_)
 · refine ⟨?_⟩
   rw [hres, treeOf_eq hroot, ← hev]
   cases hden with
   | leaf _ c hc => rw [hc] at hi; cases hi; rfl
   | node _ v m y o ty to_ hc hv hy ho => rw [hc] at hi; cases hi; exact absurd (Decidable.not_not.1 h3) hv
end Go.Proofs.YtacclfgmgphljaaGreat.Dx
