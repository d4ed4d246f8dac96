/- The code of chapter 10: Reach's closure. -/
import Derived.Test.YtacclfgmgphljaaGreatSb
set_option linter.all false
namespace Go.Proofs.YtacclfgmgphljaaGreat.Dx
open Go Go.RowKit
set_option maxRecDepth 100000
set_option maxHeartbeats 16000000
def subT (S : Tr) : Tr → Bool
 | .leaf c => decide (S = .leaf c)
 | .node v n y o => decide (S = .node v n y o) || (subT S y || subT S o)
theorem subT_self (S : Tr) : subT S S = true := by cases S <;> simp [subT]
/-- truth values of indices -/
def bcells (n : Nat) (f : Nat → Bool) : List (List D) := (List.range n).map fun i => [D.v (.bool (f i))]
theorem bcells_len (n : Nat) (f : Nat → Bool) : (bcells n f).length = n := by simp [bcells]
theorem bcells_get {n : Nat} {f : Nat → Bool} {i : Nat} (h : i < n) : (bcells n f)[i]? = some [D.v (.bool (f i))] := by
 rw [bcells, List.getElem?_map, List.getElem?_range h]; rfl
def updB (f : Nat → Bool) (i : Nat) (b : Bool) : Nat → Bool := fun j => if j = i then b else f j
theorem bcells_set {n : Nat} {f : Nat → Bool} {i : Nat} (b : Bool) (_ : i < n) : (bcells n f).set i [D.v (.bool b)] = bcells n (updB f i b) := by
 apply List.ext_getElem?
 intro j
 rw [List.getElem?_set]
 split
 · rename_i e
   subst e
   rw [if_pos (by rw [bcells_len]; assumption), bcells_get (by assumption)]
   simp [updB]
 · rename_i hne
   simp only [bcells, List.getElem?_map]
   rcases Nat.lt_or_ge j n with hj | hj
   · rw [List.getElem?_range hj]
     have : j ≠ i := fun e => hne e.symm
     simp [updB, this]
   · rw [List.getElem?_eq_none (by simp; omega)]; rfl
theorem bcells_zero (n : Nat) : List.replicate n [D.v (.bool false)] = bcells n fun _ => false := by
 apply List.ext_getElem?
 intro j
 rw [List.getElem?_replicate]
 split
 · rw [bcells_get (by assumption)]
 · rw [List.getElem?_eq_none (by rw [bcells_len]; omega)]
abbrev leadO (ns : List Node) (k : Nat) (K ab : Nat → Bool) : List (Nat × Blk) :=
 [(2001, .box [.d (.sl (ns.map Node.cells))] 27), (2002, .box [iB (k : Int)] 3), (2003, .box [.fn 33 [] [.loc 2004 0, .loc 2001 0, .loc 2002 0, .loc 2003 0, .loc 2005 0]] 81), (2004, .box [.own 9037] 80), (2005, .box [.own 9033] 80),
   (9037, .sl ⟨4, 1, bcells ns.length K, false⟩), (9033, .sl ⟨4, 1, bcells ns.length ab, false⟩)]
/-- what has become known is right -/
def Ext (R : Nat → Bool) (K ab K' ab' : Nat → Bool) : Prop := ∀ j, (K j = true → K' j = true ∧ ab' j = ab j) ∧ (K' j = true → K j = false → ab' j = R j)
theorem Ext.trans {R K ab K' ab' K2 ab2 : Nat → Bool} (h : Ext R K ab K' ab') (h2 : Ext R K' ab' K2 ab2) : Ext R K ab K2 ab2 := by
 intro j
 obtain ⟨a, b⟩ := h j
 obtain ⟨c, d⟩ := h2 j
 refine ⟨fun hk => ?_, fun hk hn => ?_⟩
 · obtain ⟨a1, a2⟩ := a hk
   obtain ⟨c1, c2⟩ := c a1
   exact ⟨c1, c2.trans a2⟩
 · cases hk' : K' j with
   | true => rw [(c hk').2]; exact b hk' hn
   | false => exact d hk hk'
theorem ext_close {R K ab K2 ab2 : Nat → Bool} {i : Nat} {r : Bool} (h : Ext R (updB K i true) ab K2 ab2) (hi : K i = false) (hr : r = R i) : Ext R K ab K2 (updB ab2 i r) ∧ K2 i = true := by
 refine ⟨fun j => ⟨fun hj => ?_, fun hj hn => ?_⟩, ((h i).1 (by simp [updB])).1⟩
 · have hne : j ≠ i := fun e => by rw [e, hi] at hj; cases hj
   obtain ⟨a, b⟩ := (h j).1 (by simp only [updB, if_neg hne]; exact hj)
   exact ⟨a, by simp only [updB, if_neg hne]; exact b⟩
 · by_cases e : j = i
   · subst e; simp only [updB, if_pos]; exact hr
   · simp only [updB, if_neg e]
     exact (h j).2 hj (by simp only [updB, if_neg e]; exact hn)
theorem Ext.refl (R K ab : Nat → Bool) : Ext R K ab K ab := fun j => ⟨fun h => ⟨h, rfl⟩, fun h hn => by rw [h] at hn; cases hn⟩
theorem set_get {n : Nat} {f : Nat → Bool} {i : Nat} {c : List D} (h : i < n) : ((bcells n f).set i c)[i]? = some c := by
 rw [List.getElem?_set_self (by rw [bcells_len]; exact h)]
theorem leads_meets {ns : List Node} {d : Nat → Tr} (hf : Forest ns d) (k : Nat) (hk : k < ns.length) (hl : ns.length ≤ 4096) (t : Tr) (i : Nat) (K ab : Nat → Bool) (hden : Den ns i t) (hK : ∀ j, K j = true → (d j).sz ≤ t.sz → ab j = subT (d k) (d j)) :
 MeetsR Tryz.prog 33 [iB (i : Int), .loc 2004 0, .loc 2001 0, .loc 2002 0, .loc 2003 0, .loc 2005 0] (leadO ns k K ab) fun o O' => ∃ K' ab', o = .ret (.d (bD (subT (d k) t))) ∧ O' = leadO ns k K' ab' ∧ Ext (fun j => subT (d k) (d j)) K ab K' ab' ∧ K' i = true := by
 have hi := hden.lt
 have hdi : d i = t := (hf.den i hi).func hden
 obtain ⟨x, hx⟩ : ∃ x, ns[i]? = some x := ⟨ns[i], List.getElem?_eq_getElem hi⟩
 have hxi : 0 ≤ (i : Int) ∧ ns[(i : Int).toNat]? = some x := ⟨by omega, by rw [Int.toNat_natCast]; exact hx⟩
 have hlt : ∀ f : Nat → Bool, (i : Int) < ((bcells ns.length f).length : Int) := fun f => by rw [bcells_len]; omega
 refine enterR tok {rs := [35, 40]} Tryz.func33 rfl (by kernel_rfl) Tryz.ntmps33 (by simp) fun B0 W0 V0 lent g0 => ?_
 ((conv => whnf); repeat' (refine vcC_go tok {rs := [35, 40]} rfl ?_; conv => whnf))
 refine ⟨⟨by omega, hlt _, rfl⟩, ?_⟩
 ((conv => whnf); repeat' (refine vcC_go tok {rs := [35, 40]} rfl ?_; conv => whnf))
 refine ⟨_, ⟨bcells_get hi, rfl⟩, ?_⟩
 ((conv => whnf); repeat' (refine vcC_go tok {rs := [35, 40]} rfl ?_; conv => whnf))
 refine ⟨fun h1 => ?_, fun h1 => ?_⟩ <;> (try simp only [BL] at h1) <;> ((conv => whnf); repeat' (refine vcC_go tok {rs := [35, 40]} rfl ?_; conv => whnf))
 · have hset := bcells_set (f := K) true hi
   refine ⟨⟨by omega, hlt _, rfl⟩, ?_⟩
   ((conv => whnf); repeat' (refine vcC_go tok {rs := [35, 40]} rfl ?_; conv => whnf))
   refine ⟨_, ⟨bcells_get hi, rfl, Nat.le_refl _⟩, ?_⟩
   ((conv => whnf); repeat' (refine vcC_go tok {rs := [35, 40]} rfl ?_; conv => whnf))
   repeat' ((first | (intro hlq; (try simp only [SL] at hlq)) | refine Kn x hxi ?_ | refine Ks ?_ | refine Kq ?_ | refine Kt ?_ | ((refine Kh (fun hb => ?_) fun hb => ?_) <;> (try simp only [BL] at hb)) | refine Ka ?_ | refine Kb ?_ | refine Kc (hd := rfl) (e := ?_) | refine Kc (hd := icells_eq _) (e := ?_) | refine Kd (e := ?_) | refine Kl rfl ?_ | fail) <;> ((conv => whnf); repeat' (refine vcC_go tok {rs := [35, 40]} rfl ?_; conv => whnf)))
   refine draw_rule tok (cf := {rs := [35, 40]}) (by kernel_rfl) [.p 0, .p 1, .p 2, .p 3, .p 4, .p 5, .p 6, .p 7, .p 8, .p 9, .p 10, .p 11, .p 12, .s 13 [10, 12, 9, 11, 8, 5, 7, 4, 6, 2, 3], .p 14, .p 15, .p 16, .p 17, .s 18 [15, 17, 14, 16], .p 19, .p 20, .p 21, .p 22, .s 23 [22, 21, 0, 1, 19, 20]] (by kernel_rfl) ?_
   ((conv => whnf); repeat' (refine vcC_go tok {rs := [35, 40]} rfl ?_; conv => whnf))
   have hik : d i = d k ↔ i = k := ⟨fun e => hf.inj hi hk e, fun e => by rw [e]⟩
   refine ⟨fun h2 => ?_, fun h2 => ?_⟩ <;> (try simp only [BL] at h2) <;> ((conv => whnf); repeat' (refine vcC_go tok {rs := [35, 40]} rfl ?_; conv => whnf))
   · have hr : true = subT (d k) t := by rw [← hdi, show i = k from by omega, subT_self]
     repeat' (first | (refine Kl rfl ?_; ((conv => whnf); repeat' (refine vcC_go tok {rs := [35, 40]} rfl ?_; conv => whnf))) | fail)
     refine ⟨⟨by omega, hlt _, rfl⟩, ?_⟩
     ((conv => whnf); repeat' (refine vcC_go tok {rs := [35, 40]} rfl ?_; conv => whnf))
     refine ⟨_, ⟨bcells_get hi, rfl, Nat.le_refl _⟩, ?_⟩
     ((conv => whnf); repeat' (refine vcC_go tok {rs := [35, 40]} rfl ?_; conv => whnf))
     refine ⟨⟨by omega, by show (i : Int) < (((bcells ns.length _).set _ _).length : Int); rw [List.length_set]; exact hlt _, rfl⟩, ?_⟩
     ((conv => whnf); repeat' (refine vcC_go tok {rs := [35, 40]} rfl ?_; conv => whnf))
     refine ⟨_, ⟨set_get hi, rfl⟩, ?_⟩
     ((conv => whnf); repeat' (refine vcC_go tok {rs := [35, 40]} rfl ?_; conv => whnf))
     refine ⟨leadO ns k (updB K i true) (updB ab i true), .d (bD true), ?_, ⟨_, _, ?_, rfl, ext_close (Ext.refl _ _ _) h1 ?_⟩⟩
     · have hs2 := bcells_set (f := ab) true hi
       repeat' (first | exact True.intro | exact rfl | refine And.intro ?_ ?_ | (exact hs2.symm) | (exact hs2) | (exact hset.symm) | (exact hset))
     · rw [← hr]
     · rw [hdi]; exact hr
   have hne : d k ≠ t := by rw [← hdi]; exact fun e => h2 (by rw [hik.1 e.symm])
   refine ⟨fun h3 => ?_, fun h3 => ?_⟩ <;> (try simp only [BL] at h3) <;> ((conv => whnf); repeat' (refine vcC_go tok {rs := [35, 40]} rfl ?_; conv => whnf))
   · obtain ⟨v, m, y, o, ty, to_, ht, hc, hy, ho⟩ : ∃ (v m : Int) (y o : Nat) (ty to_ : Tr), t = .node v m ty to_ ∧ ns[i]? = some ⟨v, m, (y : Int), (o : Int), []⟩ ∧ Den ns y ty ∧ Den ns o to_ := by
      cases hden with
      | leaf _ c hc => rw [hc] at hx; cases hx; exact absurd rfl h3
      | node _ v m y o ty to_ hc hv hy ho => exact ⟨v, m, y, o, ty, to_, rfl, hc, hy, ho⟩
     have hsy : ty.sz < t.sz := by rw [ht]; simp only [Tr.sz]; omega
     have hso : to_.sz < t.sz := by rw [ht]; simp only [Tr.sz]; omega
     rw [hc] at hx
     cases hx
     · have hdy : d y = ty := (hf.den y hy.lt).func hy
       have hdo : d o = to_ := (hf.den o ho.lt).func ho
       have hrt : subT (d k) t = (subT (d k) ty || subT (d k) to_) := by rw [ht] at hne ⊢; rw [subT, decide_eq_false hne, Bool.false_or]
       have hpre : ∀ j, updB K i true j = true → (d j).sz ≤ ty.sz → ab j = subT (d k) (d j) := by
        intro j hj hs
        unfold updB at hj
        split at hj
        · rename_i e; subst e; rw [hdi] at hs; omega
        · exact hK j hj (by omega)
       have hrec := leads_meets hf k hk hl ty y (updB K i true) ab hy hpre
       refine ⟨leadO ns k (updB K i true) ab, _, ⟨?_, ?_⟩, hrec.mono ?_⟩
       · exact Kr
       · repeat' (first | exact True.intro | exact rfl | refine And.intro ?_ ?_ | (exact hset) | (exact hset.symm))
       rintro _ O' ⟨K', ab', rfl, rfl, hext, hKy⟩
       ((conv => whnf); repeat' (refine vcC_go tok {rs := [35, 40]} rfl ?_; conv => whnf))
       repeat' (first | (refine Kl rfl ?_; ((conv => whnf); repeat' (refine vcC_go tok {rs := [35, 40]} rfl ?_; conv => whnf))) | fail)
       refine ⟨fun h4 => ?_, fun h4 => ?_⟩ <;> (try simp only [BL] at h4) <;> ((conv => whnf); repeat' (refine vcC_go tok {rs := [35, 40]} rfl ?_; conv => whnf))
       · have hr : true = subT (d k) t := by rw [hrt, h4, Bool.true_or]
         repeat' (first | (refine Kl rfl ?_; ((conv => whnf); repeat' (refine vcC_go tok {rs := [35, 40]} rfl ?_; conv => whnf))) | fail)
         refine ⟨⟨by omega, hlt _, rfl⟩, ?_⟩
         ((conv => whnf); repeat' (refine vcC_go tok {rs := [35, 40]} rfl ?_; conv => whnf))
         refine ⟨_, ⟨bcells_get hi, rfl, Nat.le_refl _⟩, ?_⟩
         ((conv => whnf); repeat' (refine vcC_go tok {rs := [35, 40]} rfl ?_; conv => whnf))
         refine ⟨⟨by omega, by show (i : Int) < (((bcells ns.length _).set _ _).length : Int); rw [List.length_set]; exact hlt _, rfl⟩, ?_⟩
         ((conv => whnf); repeat' (refine vcC_go tok {rs := [35, 40]} rfl ?_; conv => whnf))
         refine ⟨_, ⟨set_get hi, rfl⟩, ?_⟩
         ((conv => whnf); repeat' (refine vcC_go tok {rs := [35, 40]} rfl ?_; conv => whnf))
         refine ⟨leadO ns k K' (updB ab' i true), .d (bD true), ?_, ⟨_, _, ?_, rfl, ext_close hext h1 ?_⟩⟩
         · have hs2 := bcells_set (f := ab') true hi
           repeat' (first | exact True.intro | exact rfl | refine And.intro ?_ ?_ | (exact hs2.symm) | (exact hs2))
         · rw [← hr]
         · rw [hdi]; exact hr
       have hpre2 : ∀ j, K' j = true → (d j).sz ≤ to_.sz → ab' j = subT (d k) (d j) := by
        intro j hj hs
        cases hb : updB K i true j with
        | true =>
          rw [((hext j).1 hb).2]
          unfold updB at hb
          split at hb
          · rename_i e; subst e; rw [hdi] at hs; omega
          · exact hK j hb (by omega)
        | false => exact (hext j).2 hj hb
       have hrec2 := leads_meets hf k hk hl to_ o K' ab' ho hpre2
       refine ⟨leadO ns k K' ab', _, ⟨?_, ?_⟩, hrec2.mono ?_⟩
       · exact Kr
       · exact Kr
       rintro _ O' ⟨K2, ab2, rfl, rfl, hext2, hKo⟩
       ((conv => whnf); repeat' (refine vcC_go tok {rs := [35, 40]} rfl ?_; conv => whnf))
       repeat' (first | (refine Kl rfl ?_; ((conv => whnf); repeat' (refine vcC_go tok {rs := [35, 40]} rfl ?_; conv => whnf))) | fail)
       have hr : subT (d k) to_ = subT (d k) t := by rw [hrt, h4, Bool.false_or]
       refine ⟨⟨by omega, hlt _, rfl⟩, ?_⟩
       ((conv => whnf); repeat' (refine vcC_go tok {rs := [35, 40]} rfl ?_; conv => whnf))
       refine ⟨_, ⟨bcells_get hi, rfl, Nat.le_refl _⟩, ?_⟩
       ((conv => whnf); repeat' (refine vcC_go tok {rs := [35, 40]} rfl ?_; conv => whnf))
       refine ⟨⟨by omega, by show (i : Int) < (((bcells ns.length _).set _ _).length : Int); rw [List.length_set]; exact hlt _, rfl⟩, ?_⟩
       ((conv => whnf); repeat' (refine vcC_go tok {rs := [35, 40]} rfl ?_; conv => whnf))
       refine ⟨_, ⟨set_get hi, rfl⟩, ?_⟩
       ((conv => whnf); repeat' (refine vcC_go tok {rs := [35, 40]} rfl ?_; conv => whnf))
       refine ⟨leadO ns k K2 (updB ab2 i (subT (d k) to_)), .d (bD (subT (d k) to_)), ?_, ⟨_, _, ?_, rfl, ext_close (hext.trans hext2) h1 ?_⟩⟩
       · have hs2 := bcells_set (f := ab2) (subT (d k) to_) hi
         repeat' (first | exact True.intro | exact rfl | refine And.intro ?_ ?_ | (exact hs2.symm) | (exact hs2))
       · rw [← hr]
       · rw [hdi]; exact hr
   · have hr : false = subT (d k) t := by
      cases hden with
      | leaf _ c hc => rw [subT, decide_eq_false hne]
      | node _ v m y o ty to_ hc hv hy ho => rw [hc] at hx; cases hx; exact absurd (Decidable.not_not.1 h3) hv
     repeat' (first | (refine Kl rfl ?_; ((conv => whnf); repeat' (refine vcC_go tok {rs := [35, 40]} rfl ?_; conv => whnf))) | fail)
     refine ⟨⟨by omega, hlt _, rfl⟩, ?_⟩
     ((conv => whnf); repeat' (refine vcC_go tok {rs := [35, 40]} rfl ?_; conv => whnf))
     refine ⟨_, ⟨bcells_get hi, rfl, Nat.le_refl _⟩, ?_⟩
     ((conv => whnf); repeat' (refine vcC_go tok {rs := [35, 40]} rfl ?_; conv => whnf))
     refine ⟨⟨by omega, by show (i : Int) < (((bcells ns.length _).set _ _).length : Int); rw [List.length_set]; exact hlt _, rfl⟩, ?_⟩
     ((conv => whnf); repeat' (refine vcC_go tok {rs := [35, 40]} rfl ?_; conv => whnf))
     refine ⟨_, ⟨set_get hi, rfl⟩, ?_⟩
     ((conv => whnf); repeat' (refine vcC_go tok {rs := [35, 40]} rfl ?_; conv => whnf))
     refine ⟨leadO ns k (updB K i true) (updB ab i false), .d (bD false), ?_, ⟨_, _, ?_, rfl, ext_close (Ext.refl _ _ _) h1 ?_⟩⟩
     · have hs2 := bcells_set (f := ab) false hi
       repeat' (first | exact True.intro | exact rfl | refine And.intro ?_ ?_ | (exact hs2.symm) | (exact hs2) | (exact hset.symm) | (exact hset))
     · rw [← hr]
     · rw [hdi]; exact hr
 · refine ⟨⟨by omega, hlt _, rfl⟩, ?_⟩
   ((conv => whnf); repeat' (refine vcC_go tok {rs := [35, 40]} rfl ?_; conv => whnf))
   refine ⟨_, ⟨bcells_get hi, rfl⟩, ?_⟩
   ((conv => whnf); repeat' (refine vcC_go tok {rs := [35, 40]} rfl ?_; conv => whnf))
   rw [Int.toNat_natCast] at h1
   refine ⟨leadO ns k K ab, .d (bD (ab i)), ?_, ⟨K, ab, ?_, rfl, Ext.refl _ _ _, h1⟩⟩
   · exact Kr
   · rw [hK i h1 (by rw [hdi]; exact Nat.le_refl _), hdi]
termination_by t.sz
decreasing_by all_goals assumption
end Go.Proofs.YtacclfgmgphljaaGreat.Dx
/- The code of chapter 10: Reach. -/
namespace Go.Proofs.YtacclfgmgphljaaGreat.Dx
open Go Go.RowKit
set_option maxRecDepth 100000
set_option maxHeartbeats 16000000
def Env.set (e : Env) (v n : Int) : Env := if v = 1 then ⟨n, e.field, e.short⟩ else if v = 2 then ⟨e.distance, n, e.short⟩ else ⟨e.distance, e.field, n⟩
/-- the way to a subtree, no where it can be -/
def greedy (S : Tr) : Tr → Env → Env
 | .leaf _, e => e
 | .node v n y o, e => if S = .node v n y o then e else if subT S o then greedy S o e else greedy S y (e.set v n)
open Classical in
noncomputable def treeAt (ns : List Node) (k : Nat) : Tr := if h : ∃ t, Den ns k t then h.choose else .leaf []
theorem treeAt_eq {ns : List Node} {k : Nat} {t : Tr} (h : Den ns k t) : treeAt ns k = t := by
 have : ∃ t, Den ns k t := ⟨t, h⟩
 rw [treeAt, dif_pos this]
 exact this.choose_spec.func h
noncomputable def reachE (ns : List Node) (k : Int) : Env × Bool × Int :=
 if checkE ns = 0 then (if k < 0 ∨ (ns.length : Int) ≤ k then (⟨0, 0, 0⟩, false, 1) else (greedy (treeAt ns k.toNat) (treeOf ns) ⟨0, 0, 0⟩, true, 0)) else (⟨0, 0, 0⟩, false, checkE ns)
theorem Kmkb {xs : List Node} {s : Nat} {E : Prop} (e : E) (h : xs.length ≤ 1048576) (hs : s = 1) : (s = 1 ∧ ((xs.map Node.cells).length : Int) = ((xs.map Node.cells).length : Int) ∧ 0 ≤ ((xs.map Node.cells).length : Int) ∧ (1 : Int) * ((xs.map Node.cells).length : Int) ≤ 281474976710656 ∧ ((xs.map Node.cells).length : Int) ≤ 4611686018427387904) ∧ E := by
 refine ⟨⟨hs, rfl, ?_, ?_, ?_⟩, e⟩ <;> rw [List.length_map] <;> omega
theorem mkb_eq (xs : List Node) : List.replicate ((xs.map Node.cells).length : Int).toNat [D.v (.bool false)] = bcells xs.length fun _ => false := by
 rw [Int.toNat_natCast, List.length_map, bcells_zero]
theorem sub_subT {S t : Tr} (h : Sub S t) : subT S t = true := by
 induction h with
 | refl => exact subT_self S
 | yes _ ih => rw [subT, ih]; simp
 | no _ ih => rw [subT, ih]; simp
theorem all_sub {ns : List Node} (hok : TreeOk ns) {d : Nat → Tr} (hf : Forest ns d) {j : Nat} (hj : j < ns.length) : subT (d j) (d 0) = true := by
 have hpos : 0 < ns.length := by omega
 have ho := (treeOk_iff hok.nodes hf hpos).1 hok
 have hm := pre_map hf (hf.den 0 hpos) (met := []) (by simp)
 rw [ho, List.map_nil] at hm
 have h1 : d j ∈ preT (d 0) [] := by rw [← hm]; exact List.mem_map_of_mem (List.mem_range.2 hj)
 rcases preT_sub h1 with h | h
 · cases h
 · exact sub_subT h
theorem tReach_meets (ns : List Node) (k : Int) : Meets Tryz.prog 11 [treeD ns, iD k] fun d => d = .tup [(reachE ns k).1.d, bD (reachE ns k).2.1, iD (reachE ns k).2.2] := by
 refine enter tok {nm := [(2, 2001), (3, 2002), (9, 2003), (10, 2004), (8, 2005), (33, 9033), (37, 9037)], rs := [40, 56]} Tryz.func11 rfl (by kernel_rfl) Tryz.ntmps11 (by simp) fun B0 W0 V0 lent g0 => ?_
 ((conv => whnf); repeat' (refine vcC_go tok {nm := [(2, 2001), (3, 2002), (9, 2003), (10, 2004), (8, 2005), (33, 9033), (37, 9037)], rs := [40, 56]} rfl ?_; conv => whnf))
 refine Meets.k (tCheck_meets ns) ?_
 ((conv => whnf); repeat' (refine vcC_go tok {nm := [(2, 2001), (3, 2002), (9, 2003), (10, 2004), (8, 2005), (33, 9033), (37, 9037)], rs := [40, 56]} rfl ?_; conv => whnf))
 refine ⟨fun h1 => ?_, fun h1 => ?_⟩ <;> (try simp only [BL] at h1) <;> ((conv => whnf); repeat' (refine vcC_go tok {nm := [(2, 2001), (3, 2002), (9, 2003), (10, 2004), (8, 2005), (33, 9033), (37, 9037)], rs := [40, 56]} rfl ?_; conv => whnf))
 · exact ⟨by rw [reachE, if_neg h1]⟩
 have hc : checkE ns = 0 := by omega
 obtain ⟨hlen, hok⟩ := checkE_iff.1 hc
 repeat' ((first | (intro hlq; (try simp only [SL] at hlq)) | refine Ks ?_ | refine Kq ?_ | refine Kt ?_ | ((refine Kh (fun hb => ?_) fun hb => ?_) <;> (try simp only [BL] at hb)) | refine Ka ?_ | refine Kb ?_ | refine Kc (hd := rfl) (e := ?_) | refine Kc (hd := icells_eq _) (e := ?_) | refine Kd (e := ?_) | refine Kl rfl ?_ | fail) <;> ((conv => whnf); repeat' (refine vcC_go tok {nm := [(2, 2001), (3, 2002), (9, 2003), (10, 2004), (8, 2005), (33, 9033), (37, 9037)], rs := [40, 56]} rfl ?_; conv => whnf)))
 · exact ⟨by rw [reachE, if_pos hc, if_pos (.inl hb)]⟩
 · exact ⟨by rw [reachE, if_pos hc, if_pos (.inr (by omega))]⟩
 have hk0 : ¬ (k < 0 ∨ (ns.length : Int) ≤ k) := by omega
 obtain ⟨j, rfl⟩ : ∃ j : Nat, k = j := ⟨k.toNat, by omega⟩
 have hk : j < ns.length := by omega
 obtain ⟨d, hf⟩ := nodes_forest hok.nodes
 have hroot := hf.den 0 (by omega)
 have hres : reachE ns (j : Int) = (greedy (d j) (d 0) ⟨0, 0, 0⟩, true, 0) := by
  rw [reachE, if_pos hc, if_neg hk0, treeOf_eq hroot, Int.toNat_natCast, treeAt_eq (hf.den j hk)]
 have hsubr : subT (d j) (d 0) = true := all_sub hok hf hk
 refine Kmkb ?_ (by omega) rfl
 ((conv => whnf); repeat' (refine vcC_go tok {nm := [(2, 2001), (3, 2002), (9, 2003), (10, 2004), (8, 2005), (33, 9033), (37, 9037)], rs := [40, 56]} rfl ?_; conv => whnf))
 repeat' ((first | (intro hlq; (try simp only [SL] at hlq)) | refine Ks ?_ | refine Kq ?_ | refine Kt ?_ | refine Ka ?_ | refine Kb ?_ | refine Kc (hd := rfl) (e := ?_) | refine Kc (hd := icells_eq _) (e := ?_) | refine Kd (e := ?_) | refine Kl rfl ?_ | fail) <;> ((conv => whnf); repeat' (refine vcC_go tok {nm := [(2, 2001), (3, 2002), (9, 2003), (10, 2004), (8, 2005), (33, 9033), (37, 9037)], rs := [40, 56]} rfl ?_; conv => whnf)))
 refine Kmkb ?_ (by omega) rfl
 ((conv => whnf); repeat' (refine vcC_go tok {nm := [(2, 2001), (3, 2002), (9, 2003), (10, 2004), (8, 2005), (33, 9033), (37, 9037)], rs := [40, 56]} rfl ?_; conv => whnf))
 refine ⟨leadO ns j (fun _ => false) (fun _ => false), _, ⟨?_, ?_⟩, (leads_meets hf j hk hlen (d 0) 0 _ _ hroot (by simp)).mono ?_⟩
 · exact Kr
 · repeat' (first | exact True.intro | exact rfl | refine And.intro ?_ ?_ | (exact mkb_eq ns) | (exact (mkb_eq ns).symm))
 rintro _ O' ⟨K1, ab1, rfl, rfl, hext, hK0⟩
 have hsub0 := (hext 0).2 hK0 rfl
 ((conv => whnf); repeat' (refine vcC_go tok {nm := [(2, 2001), (3, 2002), (9, 2003), (10, 2004), (8, 2005), (33, 9033), (37, 9037)], rs := [40, 56]} rfl ?_; conv => whnf))
 refine loop_upd tok {nm := [(2, 2001), (3, 2002), (9, 2003), (10, 2004), (8, 2005), (33, 9033), (37, 9037)], rs := [40, 56]} [] (X := (Nat × Tr) × Env × (Nat → Bool) × (Nat → Bool)) (fun s => [(12, iB (s.1.1 : Int))]) (fun s => [(4, .box [iB s.2.1.distance, iB s.2.1.field, iB s.2.1.short] 41), (9037, .sl ⟨4, 1, bcells ns.length s.2.2.1, false⟩), (9033, .sl ⟨4, 1, bcells ns.length s.2.2.2, false⟩)]) [13]
  (fun s => Den ns s.1.1 s.1.2 ∧ subT (d j) s.1.2 = true ∧ greedy (d j) s.1.2 s.2.1 = greedy (d j) (d 0) ⟨0, 0, 0⟩ ∧ ∀ i, s.2.2.1 i = true → s.2.2.2 i = subT (d j) (d i)) (fun s => s.1.2.sz) ((0, d 0), ⟨0, 0, 0⟩, K1, ab1) ?_
 ((conv => whnf); repeat' (refine vcC_go tok {nm := [(2, 2001), (3, 2002), (9, 2003), (10, 2004), (8, 2005), (33, 9033), (37, 9037)], rs := [40, 56]} rfl ?_; conv => whnf))
 refine And.intro ?_ ⟨⟨hroot, ?_, rfl, fun i hi => (hext i).2 hi rfl⟩, fun s hΦ => ?_⟩
 · exact Kr
 · exact hsubr
 obtain ⟨⟨at_, tr⟩, e, K, ab⟩ := s
 obtain ⟨hden, hsub, hgr, hK⟩ := hΦ
 dsimp only at hden hsub hgr hK
 have hal := hden.lt
 have hda : d at_ = tr := (hf.den at_ hal).func hden
 ((conv => whnf); repeat' (refine vcC_go tok {nm := [(2, 2001), (3, 2002), (9, 2003), (10, 2004), (8, 2005), (33, 9033), (37, 9037)], rs := [40, 56]} rfl ?_; conv => whnf))
 refine ⟨fun h3 => ?_, fun h3 => ?_⟩ <;> (try simp only [BL] at h3) <;> ((conv => whnf); repeat' (refine vcC_go tok {nm := [(2, 2001), (3, 2002), (9, 2003), (10, 2004), (8, 2005), (33, 9033), (37, 9037)], rs := [40, 56]} rfl ?_; conv => whnf))
 · have hne : d j ≠ tr := by rw [← hda]; exact fun e => h3 (by rw [hf.inj hk hal e])
   have hq : ∃ (v m : Int) (y o : Nat) (ty to_ : Tr), tr = .node v m ty to_ ∧ ns[at_]? = some ⟨v, m, (y : Int), (o : Int), []⟩ ∧ Den ns y ty ∧ Den ns o to_ := by
    cases hden with
    | leaf _ c hc => rw [subT, decide_eq_true_eq] at hsub; exact absurd hsub hne
    | node _ v m y o ty to_ hc hv hy ho => exact ⟨v, m, y, o, ty, to_, rfl, hc, hy, ho⟩
   obtain ⟨v, m, y, o, ty, to_, ht, hcn, hy, ho⟩ := hq
   have hvb : 1 ≤ v ∧ v ≤ 3 := by
    rcases hok.nodes.1 _ (List.mem_of_getElem? hcn) with h | h
    · have hv0 : v ≠ 0 := by cases hden with
       | leaf _ c hc => cases ht
       | node _ v m y o ty to_ hc hv hy ho => cases ht; exact hv
      exact absurd h.2.1 hv0
    · exact h.1
   subst ht
   have hdo : d o = to_ := (hf.den o ho.lt).func ho
   have hrt : subT (d j) (.node v m ty to_) = (subT (d j) ty || subT (d j) to_) := by rw [subT, decide_eq_false hne, Bool.false_or]
   rw [hrt] at hsub
   simp only [greedy, if_neg hne] at hgr
   have hxi : 0 ≤ (at_ : Int) ∧ ns[(at_ : Int).toNat]? = some ⟨v, m, (y : Int), (o : Int), []⟩ := ⟨by omega, by rw [Int.toNat_natCast]; exact hcn⟩
   have hcall := leads_meets hf j hk hlen to_ o K ab ho (fun i hi _ => hK i hi)
   have hv3 : v = 1 ∨ v = 2 ∨ v = 3 := by omega
   rcases hv3 with rfl | rfl | rfl
   all_goals
    repeat' ((first | (intro hlq; (try simp only [SL] at hlq)) | refine Kn _ hxi ?_ | refine Ks ?_ | refine Kq ?_ | refine Kt ?_ | ((refine Kh (fun hb => ?_) fun hb => ?_) <;> (try simp only [BL] at hb)) | refine Ka ?_ | refine Kb ?_ | refine Kc (hd := rfl) (e := ?_) | refine Kc (hd := icells_eq _) (e := ?_) | refine Kd (e := ?_) | refine Kl rfl ?_ | fail) <;> ((conv => whnf); repeat' (refine vcC_go tok {nm := [(2, 2001), (3, 2002), (9, 2003), (10, 2004), (8, 2005), (33, 9033), (37, 9037)], rs := [40, 56]} rfl ?_; conv => whnf)))
    refine ⟨leadO ns j K ab, _, ⟨?_, ?_⟩, hcall.mono ?_⟩
    · exact Kr
    · exact Kr
    rintro _ O' ⟨K2, ab2, rfl, rfl, hext2, hKo⟩
    have hK2 : ∀ i, K2 i = true → ab2 i = subT (d j) (d i) := fun i hi => by
     cases hb : K i with
     | true => rw [((hext2 i).1 hb).2]; exact hK i hb
     | false => exact (hext2 i).2 hi hb
    ((conv => whnf); repeat' (refine vcC_go tok {nm := [(2, 2001), (3, 2002), (9, 2003), (10, 2004), (8, 2005), (33, 9033), (37, 9037)], rs := [40, 56]} rfl ?_; conv => whnf))
    refine ⟨fun h4 => ?_, fun h4 => ?_⟩ <;> (try simp only [BL] at h4) <;> ((conv => whnf); repeat' (refine vcC_go tok {nm := [(2, 2001), (3, 2002), (9, 2003), (10, 2004), (8, 2005), (33, 9033), (37, 9037)], rs := [40, 56]} rfl ?_; conv => whnf))
    · rw [if_pos h4] at hgr
      refine ⟨⟨((o, to_), e, K2, ab2), ?_, ⟨ho, h4, hgr, hK2⟩, by simp only [Tr.sz]; omega⟩⟩
      repeat' (first | exact True.intro | exact rfl | refine And.intro ?_ ?_)
    · rw [if_neg (by rw [h4]; exact Bool.false_ne_true)] at hgr
      rw [h4, Bool.or_false] at hsub
      refine draw_rule tok (cf := {nm := [(2, 2001), (3, 2002), (9, 2003), (10, 2004), (8, 2005), (33, 9033), (37, 9037)], rs := [40, 56]}) (by kernel_rfl) [.p 0, .p 1, .p 2, .p 3, .p 4, .p 5, .p 6, .s 7 [6,5,0,1,2,3,4]] (by kernel_rfl) ?_
      ((conv => whnf); repeat' (refine vcC_go tok {nm := [(2, 2001), (3, 2002), (9, 2003), (10, 2004), (8, 2005), (33, 9033), (37, 9037)], rs := [40, 56]} rfl ?_; conv => whnf))
      repeat' (first | (refine Kl rfl ?_; ((conv => whnf); repeat' (refine vcC_go tok {nm := [(2, 2001), (3, 2002), (9, 2003), (10, 2004), (8, 2005), (33, 9033), (37, 9037)], rs := [40, 56]} rfl ?_; conv => whnf))) | fail)
      refine ⟨⟨by dsimp only; omega, by dsimp only; omega⟩, ?_⟩
      ((conv => whnf); repeat' (refine vcC_go tok {nm := [(2, 2001), (3, 2002), (9, 2003), (10, 2004), (8, 2005), (33, 9033), (37, 9037)], rs := [40, 56]} rfl ?_; conv => whnf))
      repeat' (first | (refine Kl rfl ?_; ((conv => whnf); repeat' (refine vcC_go tok {nm := [(2, 2001), (3, 2002), (9, 2003), (10, 2004), (8, 2005), (33, 9033), (37, 9037)], rs := [40, 56]} rfl ?_; conv => whnf))) | fail)
      first
       | refine ⟨⟨((y, ty), e.set 1 m, K2, ab2), ?_, ⟨hy, hsub, hgr, hK2⟩, by simp only [Tr.sz]; omega⟩⟩
       | refine ⟨⟨((y, ty), e.set 2 m, K2, ab2), ?_, ⟨hy, hsub, hgr, hK2⟩, by simp only [Tr.sz]; omega⟩⟩
       | refine ⟨⟨((y, ty), e.set 3 m, K2, ab2), ?_, ⟨hy, hsub, hgr, hK2⟩, by simp only [Tr.sz]; omega⟩⟩
      repeat' (first | exact True.intro | exact rfl | refine And.intro ?_ ?_)
 · have hkj : at_ = j := by omega
   subst hkj
   refine ⟨?_⟩
   rw [hres, ← hgr, ← hda]
   cases d at_ with
   | leaf c => rfl
   | node v n y o => rw [greedy, if_pos rfl]
end Go.Proofs.YtacclfgmgphljaaGreat.Dx
