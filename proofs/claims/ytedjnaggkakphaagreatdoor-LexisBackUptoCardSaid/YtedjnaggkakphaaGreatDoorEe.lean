/- Chapter 06: which texts of tokens Join accepts: signs, texts. -/
import Derived.Test.YtedjnaggkakphaaGreatDoorDw
import Derived.Test.YtedjnaggkakphaaGreatDoorE1
import Derived.Lib.MapLaws
import Derived.ProofKit
set_option linter.all false
namespace Go.Proofs.YtedjnaggkakphaaGreatDoor.Dx
open Go Go.RowKit Go.Proofs
set_option maxRecDepth 100000
set_option maxHeartbeats 16000000
/-- a rune that no text holds -/
def badR (r : Nat) : Bool := decide (r ≠ 10) && (decide (r < 32) || decide (126 < r))
def txtB (s : List UInt8) : Bool := s.all fun b => !badR b.toNat
theorem badR_int (x : Nat) : badR x = ((x : Int) != 10 && (decide ((x : Int) < 32) || decide (126 < (x : Int)))) := by
 unfold badR
 rw [Bool.eq_iff_iff]
 simp only [Bool.and_eq_true, Bool.or_eq_true, decide_eq_true_eq, bne_iff_ne, ne_eq]
 omega
theorem r104 (x : Nat) (W : World) : Calls Tryz.prog 81 #[.int .i32 (x : Int)] W fun e w' => e = .returned (.bool (badR x)) ∧ w' = W := by
 have hb := badR_int x
 go_enter Tryz.func81, Tryz.ntmps81
 go_wp2
 all_goals
  refine bodyPost_ret (results_tmp rfl _ _ _) rfl ?_
  refine ⟨?_, rfl⟩
  first | (rw [hb]; simp_all; done) | (simp_all; done)
open Go.Lib in
/-- the first rune that is bad: there is one just if a byte is bad -/
theorem idx_bad (l : List UInt8) : ∀ (f pos : Nat), l.length ≤ pos + f → ((0 ≤ idxFuncFrom badR true ⟨⟨l⟩⟩ f pos) ↔ (l.drop pos).any (fun b => badR b.toNat) = true)
 | 0, pos, h => by
   rw [List.drop_eq_nil_of_le (by omega)]
   simp [idxFuncFrom]
 | f + 1, pos, h => by
   unfold idxFuncFrom
   have hs : (⟨⟨l⟩⟩ : ByteArray).size = l.length := rfl
   by_cases hp : pos < l.length
   · rw [if_pos (by rw [hs]; exact hp), List.drop_eq_getElem_cons hp, List.any_cons]
     have hg : (⟨⟨l⟩⟩ : ByteArray).get! pos = l[pos] := by
      show (⟨l⟩ : Array UInt8)[pos]! = _
      rw [getElem!_pos _ pos hp]; rfl
     rw [decode_at, hg]
     have ih := idx_bad l f
     have key : (l[pos].toNat < 128 ∧ decodeN ((⟨⟨l⟩⟩ : ByteArray).size - pos) l[pos].toNat ((⟨⟨l⟩⟩ : ByteArray).get! (pos + 1)).toNat ((⟨⟨l⟩⟩ : ByteArray).get! (pos + 2)).toNat ((⟨⟨l⟩⟩ : ByteArray).get! (pos + 3)).toNat = (l[pos].toNat, 1)) ∨
      (128 ≤ l[pos].toNat ∧ 128 ≤ (decodeN ((⟨⟨l⟩⟩ : ByteArray).size - pos) l[pos].toNat ((⟨⟨l⟩⟩ : ByteArray).get! (pos + 1)).toNat ((⟨⟨l⟩⟩ : ByteArray).get! (pos + 2)).toNat ((⟨⟨l⟩⟩ : ByteArray).get! (pos + 3)).toNat).1) := by
      by_cases hlt : l[pos].toNat < 128
      · exact .inl ⟨hlt, by unfold decodeN; rw [if_pos hlt]⟩
      · refine .inr ⟨by omega, ?_⟩
        rcases decodeN_shape ((⟨⟨l⟩⟩ : ByteArray).size - pos) l[pos].toNat ((⟨⟨l⟩⟩ : ByteArray).get! (pos + 1)).toNat ((⟨⟨l⟩⟩ : ByteArray).get! (pos + 2)).toNat ((⟨⟨l⟩⟩ : ByteArray).get! (pos + 3)).toNat with ⟨h1, _⟩ | ⟨_, _, _, h1, e⟩ | ⟨_, _, _, _, h1, _, e⟩ | ⟨_, _, _, _, _, h1, _, e⟩ | e
        · omega
        all_goals (rw [e]; dsimp only; omega)
     rcases key with ⟨_, e⟩ | ⟨h1, h2⟩
     · rw [e]
       dsimp only
       cases hb : badR l[pos].toNat with
       | true => rw [if_pos rfl, Bool.true_or]; simp
       | false => rw [if_neg (by decide), Bool.false_or]; exact ih (pos + 1) (by omega)
     · have bad : ∀ n : Nat, 128 ≤ n → badR n = true := fun n hn => by
        unfold badR
        rw [decide_eq_true (by omega : n ≠ 10), decide_eq_true (by omega : 126 < n), Bool.or_true, Bool.and_true]
       rw [bad _ h2, if_pos rfl, bad _ h1, Bool.true_or]
       simp
   · rw [if_neg (by rw [hs]; exact hp), List.drop_eq_nil_of_le (by omega)]
     simp
theorem ContainsFunc_meets (s : List UInt8) : Meets Tryz.prog 80 [.str s, .fn 81 [] []] fun d => d = bD (!txtB s) := by
 refine Meets.below ⟨Tryz.f80, _, Tryz.func80, rfl, by kernel_rfl⟩ fun V W xs hS hx => ?_
 obtain ⟨u, w, rfl, h1, h2⟩ := hx.two
 obtain ⟨rfl, hl⟩ := h1.str_inv
 have e2 : w = .func (.func 81) #[] #[] := by
  cases h2 with
  | fn F us ws fs cs hl1 hl2 h1 h2 =>
    have e1 : us = [] := List.eq_nil_of_length_eq_zero hl1
    have e2 : ws = [] := List.eq_nil_of_length_eq_zero hl2
    subst e1 e2
    rfl
 subst e2
 have hp : PredAt Tryz.prog 81 #[] encR badR W := fun W' x _ => (r104 x W').mono (by rintro e w' ⟨rfl, rfl⟩; exact ⟨rfl, 0, rfl⟩)
 refine (Tryz.strings_ContainsFunc 81 #[] (fun args w => callFunc_run ⟨Tryz.f81, _, Tryz.func81, rfl, by kernel_rfl⟩ args w) badR ⟨⟨s⟩⟩ W hp).mono ?_
 rintro e W' ⟨rfl, hb⟩
 have hi := idx_bad s s.length 0 (by omega)
 have e3 : decide (0 ≤ Lib.idxFunc badR true ⟨⟨s⟩⟩) = !txtB s := by
  rw [Bool.eq_iff_iff, decide_eq_true_eq]
  refine Iff.trans hi ?_
  unfold txtB
  rw [List.drop_zero, List.not_all_eq_any_not]
  simp
 exact ⟨.bool (decide (0 ≤ Lib.idxFunc badR true ⟨⟨s⟩⟩)), rfl, hb, by rw [e3]; exact .b _⟩
theorem isText_meets (s : List UInt8) : Meets Tryz.prog 35 [.str s] fun d => d = bD (txtB s) := by
 have h := ContainsFunc_meets s
 refine enter tok {} Tryz.func35 rfl (by kernel_rfl) Tryz.ntmps35 (by simp) fun B0 W0 V0 lent g0 => ?_
 ((conv => whnf); repeat' (refine Z rfl ?_; conv => whnf))
 refine Meets.k h ?_
 ((conv => whnf); repeat' (refine Z rfl ?_; conv => whnf))
 refine ⟨congrArg bD ?_⟩
 exact Bool.not_not _
abbrev signL : List UInt8 := [123, 125, 40, 41, 91, 93, 59, 44, 61, 60, 62]
def sgnB (s : List UInt8) : Bool := (decide (s.length = 1) && Lib.contains signL s) || decide (s = [60, 61]) || decide (s = [62, 61]) || decide (s = [46, 46])
theorem isSign_meets (s : List UInt8) : Meets Tryz.prog 34 [.str s] fun d => d = bD (sgnB s) := by
 have h := SContains_meets signL s (by decide)
 have hl : ((s.length : Int) = 1) = (s.length = 1) := propext ⟨fun h => by omega, fun h => by omega⟩
 unfold sgnB
 refine enter tok {} Tryz.func34 rfl (by kernel_rfl) Tryz.ntmps34 (by simp) fun B0 W0 V0 lent g0 => ?_
 ((conv => whnf); repeat' (refine Z rfl ?_; conv => whnf))
 repeat' ((first | (intro hlq; (try simp only [SL] at hlq)) | refine Meets.k (h) ?_ | refine Ks ?_ | refine Kq ?_ | refine Kt ?_ | ((refine Kh (fun hb => ?_) fun hb => ?_) <;> (try simp only [BL] at hb)) | refine Ka ?_ | refine Kb ?_ | refine Kc (hd := rfl) (e := ?_) | refine Kc (hd := icells_eq _) (e := ?_) | refine Kd (e := ?_) | refine Kl rfl ?_ | fail) <;> ((conv => whnf); repeat' (refine Z rfl ?_; conv => whnf)))
 all_goals
  refine ⟨congrArg bD ?_⟩
  clear hlq h
  simp_all
end Go.Proofs.YtedjnaggkakphaaGreatDoor.Dx
/- Chapter 06: strings.NewReplacer: the replacer that Join's texts want is built. -/
namespace Go.Proofs.YtedjnaggkakphaaGreatDoor.Dx
open Go Go.RowKit
set_option maxRecDepth 100000
set_option maxHeartbeats 16000000
/-- what Join hands to NewReplacer -/
def sixD : List (List D) := [[.str [34]], [.str [92, 34]], [.str [92]], [.str [92, 92]], [.str [10]], [.str [92, 110]]]
/-- the Replacer's box: its Once's words, the replacer, the texts -/
abbrev rpO (d m : Int) (r o : D) : List (Nat × Blk) := [(6000, .box [.d (.v (.int .u32 d)), .d (.v (.int .i32 m)), .d (.v (.int .u32 0)), .d r, .d o] 105)]
/-- the cells of the replacer -/
def rpC (b : Nat) : D := if b = 34 then .sl (byteCells [92, 34]) else if b = 92 then .sl (byteCells [92, 92]) else if b = 10 then .sl (byteCells [92, 110]) else .raw (.slice none 0 0)
def rpD : List D := (List.range 256).map rpC ++ [.sl [[.str [10]], [.str [92]], [.str [34]]]]
theorem build136 : MeetsR Tryz.prog 100 [.loc 6000 0] (rpO 0 1 (.v .nilIface) (.sl sixD)) fun o O' => o = .ret (.d (.iface 146 (.ptr rpD 0))) ∧ O' = rpO 0 1 (.v .nilIface) (.sl sixD) := by
 unfold sixD
 refine enterR tok {priv := [95]} Tryz.func100 rfl (by kernel_rfl) Tryz.ntmps100 (by simp) fun B0 W0 V0 lent g0 => ?_
 ((conv => whnf); repeat' (refine vcC_go tok {priv := [95]} rfl ?_; conv => whnf))
 repeat' ((first | (intro hlq; clear hlq) | refine ⟨fun _ => ?_, fun h => absurd h (by decide)⟩ | refine ⟨fun h => absurd h (by decide), fun _ => ?_⟩ | refine ⟨fun _ _ => i64 (by decide) (by decide), ?_⟩ | refine ⟨_, ⟨by decide, rfl, rfl⟩, ?_⟩ | refine JR_go tok {priv := [95]} ?_ | fail) <;> ((conv => whnf); repeat' (refine vcC_go tok {priv := [95]} rfl ?_; conv => whnf)))
 refine J_rounds tok {priv := [95]} 5 ?_
 ((conv => whnf); repeat' (refine vcC_go tok {priv := [95]} rfl ?_; conv => whnf))
 repeat' ((first | (intro hlq; clear hlq) | refine ⟨fun _ => ?_, fun h => absurd h (by decide)⟩ | refine ⟨fun h => absurd h (by decide), fun _ => ?_⟩ | refine ⟨fun _ _ => i64 (by decide) (by decide), ?_⟩ | refine ⟨_, ⟨by decide, rfl, rfl⟩, ?_⟩ | refine JR_go tok {priv := [95]} ?_ | fail) <;> ((conv => whnf); repeat' (refine vcC_go tok {priv := [95]} rfl ?_; conv => whnf)))
 repeat' ((first | (intro hlq; clear hlq) | refine ⟨fun _ => ?_, fun h => absurd h (by decide)⟩ | refine ⟨fun h => absurd h (by decide), fun _ => ?_⟩ | refine ⟨fun _ _ => i64 (by decide) (by decide), ?_⟩ | refine ⟨_, ⟨by decide, rfl, rfl⟩, ?_⟩ | refine JR_go tok {priv := [95]} ?_ | (refine ⟨fun _ _ => by decide, ?_⟩) | (refine ⟨⟨rfl, by decide, by decide, by decide⟩, ?_⟩) | fail) <;> ((conv => whnf); repeat' (refine vcC_go tok {priv := [95]} rfl ?_; conv => whnf)))
 refine J_rounds tok {priv := [95]} 5 ?_
 ((conv => whnf); repeat' (refine vcC_go tok {priv := [95]} rfl ?_; conv => whnf))
 repeat' ((first | (intro hlq; clear hlq) | refine ⟨fun _ => ?_, fun h => absurd h (by decide)⟩ | refine ⟨fun h => absurd h (by decide), fun _ => ?_⟩ | refine ⟨fun _ _ => i64 (by decide) (by decide), ?_⟩ | refine ⟨_, ⟨by decide, rfl, rfl⟩, ?_⟩ | refine JR_go tok {priv := [95]} ?_ | (refine ⟨[10], rfl, ?_⟩) | (refine ⟨[92], rfl, ?_⟩) | (refine ⟨[34], rfl, ?_⟩) | (refine ⟨_, ⟨by decide, rfl⟩, ?_⟩) | (refine ⟨by decide, ?_⟩) | (refine ⟨fun _ _ => by decide, ?_⟩) | (refine ⟨fun _ h => (by simp at h; rw [h]; rfl), ?_⟩) | fail) <;> ((conv => whnf); repeat' (refine vcC_go tok {priv := [95]} rfl ?_; conv => whnf)))
 refine ⟨rpO 0 1 (.v .nilIface) (.sl sixD), .d (.iface 146 (.ptr rpD 0)), ?_, ⟨rfl, rfl⟩⟩
 repeat' (first | exact True.intro | exact rfl | refine And.intro ?_ ?_)
abbrev rpI : D := .iface 146 (.ptr rpD 0)
theorem once106 : MeetsR Tryz.prog 83 [.loc 6000 0] (rpO 0 1 (.v .nilIface) (.sl sixD)) fun o O' => o = .ret (.d (.tup [])) ∧ O' = rpO 0 1 rpI (.sl []) := by
 have h := build136
 unfold rpI
 revert h
 generalize rpD = q
 intro h
 refine enterR tok {rs := [4]} Tryz.func83 rfl (by kernel_rfl) Tryz.ntmps83 (by simp) fun B0 W0 V0 lent g0 => ?_
 ((conv => whnf); repeat' (refine vcC_go tok {rs := [4]} rfl ?_; conv => whnf))
 refine ⟨rpO 0 1 (.v .nilIface) (.sl sixD), _, ⟨?_, ?_⟩, h.mono ?_⟩
 · exact Kr
 · exact Kr
 rintro _ O' ⟨rfl, rfl⟩
 ((conv => whnf); repeat' (refine vcC_go tok {rs := [4]} rfl ?_; conv => whnf))
 refine ⟨rpO 0 1 (.iface 146 (.ptr q 0)) (.sl []), .d (.tup []), ?_, ⟨rfl, rfl⟩⟩
 repeat' (first | exact True.intro | exact rfl | refine And.intro ?_ ?_)
theorem new51 : MeetsR Tryz.prog 36 [.d (.sl sixD)] [] fun o O' => o = .ret (.loc 6000 0) ∧ O' = rpO 0 0 (.v .nilIface) (.sl sixD) := by
 refine enterR tok {nm := [(11, 6000)]} Tryz.func36 rfl (by kernel_rfl) Tryz.ntmps36 (by simp) fun B0 W0 V0 lent g0 => ?_
 ((conv => whnf); repeat' (refine vcC_go tok {nm := [(11, 6000)]} rfl ?_; conv => whnf))
 repeat' ((first | (intro hlq; clear hlq) | refine ⟨fun _ => ?_, fun h => absurd h (by decide)⟩ | refine ⟨fun h => absurd h (by decide), fun _ => ?_⟩ | refine ⟨fun _ _ => i64 (by decide) (by decide), ?_⟩ | refine ⟨_, ⟨by decide, rfl, rfl⟩, ?_⟩ | refine JR_go tok {nm := [(11, 6000)]} ?_ | (refine ⟨fun _ _ => by decide, ?_⟩) | (refine ⟨by decide, ?_⟩) | fail) <;> ((conv => whnf); repeat' (refine vcC_go tok {nm := [(11, 6000)]} rfl ?_; conv => whnf)))
 refine ⟨rpO 0 0 (.v .nilIface) (.sl sixD), .loc 6000 0, ?_, ⟨rfl, rfl⟩⟩
 repeat' (first | exact True.intro | exact rfl | refine And.intro ?_ ?_)
end Go.Proofs.YtedjnaggkakphaaGreatDoor.Dx
