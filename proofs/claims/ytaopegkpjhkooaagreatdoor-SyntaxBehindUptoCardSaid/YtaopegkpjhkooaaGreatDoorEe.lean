/- Chapter 06: which texts of tokens Join accepts: signs,texts. -/
import Derived.Test.YtaopegkpjhkooaaGreatDoorEd
import Derived.Lib.MapLaws
import Derived.ProofKit
set_option linter.all false
namespace Go.Proofs.YtaopegkpjhkooaaGreatDoor.Dx
open Go Go.RowKit Go.Proofs
set_option maxRecDepth 100000
set_option maxHeartbeats 16000000
def B7 (r : Nat) : Bool:=decide (r ≠ 10) && (decide (r < 32) || decide (126 < r))
def G6 (s : List UInt8) : Bool:=s.all λ b=>!B7 b.toNat
theorem b2R (x : Nat) : B7 x = ((x : Int) != 10 && (decide ((x : Int) < 32) || decide (126 < (x : Int)))):=by
 unfold B7
 rw [Bool.eq_iff_iff]
 simp only [Bool.and_eq_true,Bool.or_eq_true,decide_eq_true_eq,bne_iff_ne,ne_eq]
 omega
theorem b7C (x : Nat) (W : World) : Calls Tryz.prog 104 #[.int .i32 (x : Int)] W λ e w'=>e = .returned (.bool (B7 x)) /\ w' = W:=by
 have hb:=b2R x
 go_enter Tryz.func104,Tryz.ntmps104
 go_wp2
 all_goals
  refine bodyPost_ret (results_tmp rfl _ _ _) rfl ?_
  refine ⟨?_,rfl⟩
  first | (rw [hb]; simp_all; done) | (simp_all; done)
open Go.Lib in
theorem a8N (l : List UInt8) : ∀ (f pos : Nat),l.length <= pos + f -> ((0 <= idxFuncFrom B7 true ⟨⟨l⟩⟩ f pos) ↔ (l.drop pos).any (λ b=>B7 b.toNat) = true)
 | 0,pos,h=>by
   rw [List.drop_eq_nil_of_le (by omega)]
   simp [idxFuncFrom]
 | f + 1,pos,h=>by
   unfold idxFuncFrom
   have hs : (⟨⟨l⟩⟩ : ByteArray).size = l.length:=rfl
   by_cases hp : pos < l.length
   . rw [if_pos (by rw [hs]; exact hp),List.drop_eq_getElem_cons hp,List.any_cons]
     have hg : (⟨⟨l⟩⟩ : ByteArray).get! pos = l[pos]:=by
      show (⟨l⟩ : Array UInt8)[pos]! = _
      rw [getElem!_pos _ pos hp]; rfl
     rw [decode_at,hg]
     have ih:=a8N l f
     have key : (l[pos].toNat < 128 /\ decodeN ((⟨⟨l⟩⟩ : ByteArray).size - pos) l[pos].toNat ((⟨⟨l⟩⟩ : ByteArray).get! (pos + 1)).toNat ((⟨⟨l⟩⟩ : ByteArray).get! (pos + 2)).toNat ((⟨⟨l⟩⟩ : ByteArray).get! (pos + 3)).toNat = (l[pos].toNat,1)) \/
      (128 <= l[pos].toNat /\ 128 <= (decodeN ((⟨⟨l⟩⟩ : ByteArray).size - pos) l[pos].toNat ((⟨⟨l⟩⟩ : ByteArray).get! (pos + 1)).toNat ((⟨⟨l⟩⟩ : ByteArray).get! (pos + 2)).toNat ((⟨⟨l⟩⟩ : ByteArray).get! (pos + 3)).toNat).1):=by
      by_cases hlt : l[pos].toNat < 128
      . exact .inl ⟨hlt,by unfold decodeN; rw [if_pos hlt]⟩
      . refine .inr ⟨by omega,?_⟩
        rcases decodeN_shape ((⟨⟨l⟩⟩ : ByteArray).size - pos) l[pos].toNat ((⟨⟨l⟩⟩ : ByteArray).get! (pos + 1)).toNat ((⟨⟨l⟩⟩ : ByteArray).get! (pos + 2)).toNat ((⟨⟨l⟩⟩ : ByteArray).get! (pos + 3)).toNat with ⟨h1,_⟩ | ⟨_,_,_,h1,e⟩ | ⟨_,_,_,_,h1,_,e⟩ | ⟨_,_,_,_,_,h1,_,e⟩ | e
        . omega
        all_goals (rw [e]; dsimp only; omega)
     rcases key with ⟨_,e⟩ | ⟨h1,h2⟩
     . rw [e]
       dsimp only
       cases hb : B7 l[pos].toNat with
       | true=>rw [if_pos rfl,Bool.true_or]; simp
       | false=>rw [if_neg (by decide),Bool.false_or]; exact ih (pos + 1) (by omega)
     . have bad : ∀ n : Nat,128 <= n -> B7 n = true:=λ n hn=>by
        unfold B7
        rw [decide_eq_true (by omega : n ≠ 10),decide_eq_true (by omega : 126 < n),Bool.or_true,Bool.and_true]
       rw [bad _ h2,if_pos rfl,bad _ h1,Bool.true_or]
       simp
   . rw [if_neg (by rw [hs]; exact hp),List.drop_eq_nil_of_le (by omega)]
     simp
theorem b1X (s : List UInt8) : Meets Tryz.prog 103 [.str s,.fn 104 [] []] λ d=>d = bD (!G6 s):=by
 refine Meets.below ⟨Tryz.f103,_,Tryz.func103,rfl,by kernel_rfl⟩ λ V W xs hS hx=>?_
 obtain ⟨u,w,rfl,h1,h2⟩:=hx.two
 obtain ⟨rfl,hl⟩:=h1.str_inv
 have e2 : w = .func (.func 104) #[] #[]:=by
  cases h2 with
  | fn F us ws fs cs hl1 hl2 h1 h2 =>
    have e1 : us = []:=List.eq_nil_of_length_eq_zero hl1
    have e2 : ws = []:=List.eq_nil_of_length_eq_zero hl2
    subst e1 e2
    rfl
 subst e2
 have hp : PredAt Tryz.prog 104 #[] encR B7 W:=λ W' x _=>(b7C x W').mono (by rintro e w' ⟨rfl,rfl⟩; exact ⟨rfl,0,rfl⟩)
 refine (Tryz.strings_ContainsFunc 104 #[] (λ args w=>a2s ⟨Tryz.f104,_,Tryz.func104,rfl,by kernel_rfl⟩ args w) B7 ⟨⟨s⟩⟩ W hp).mono ?_
 rintro e W' ⟨rfl,hb⟩
 have hi:=a8N s s.length 0 (by omega)
 have e3 : decide (0 <= Lib.idxFunc B7 true ⟨⟨s⟩⟩) = !G6 s:=by
  rw [Bool.eq_iff_iff,decide_eq_true_eq]
  refine Iff.trans hi ?_
  unfold G6
  rw [List.drop_zero,List.not_all_eq_any_not]
  simp
 exact ⟨.bool (decide (0 <= Lib.idxFunc B7 true ⟨⟨s⟩⟩)),rfl,hb,by rw [e3]; exact .b _⟩
theorem b5m (s : List UInt8) : Meets Tryz.prog 50 [.str s] λ d=>d = bD (G6 s):=by
 have h:=b1X s
 refine enter tok {} Tryz.func50 rfl (by kernel_rfl) Tryz.ntmps50 (by simp) λ B0 W0 V0 lent g0=>?_
 ((conv=>whnf);repeat'(refine Z rfl ?_;conv=>whnf))
 refine Meets.k h ?_
 ((conv=>whnf);repeat'(refine Z rfl ?_;conv=>whnf))
 refine ⟨congrArg bD ?_⟩
 exact Bool.not_not _
abbrev a5Y : List UInt8:=[123,125,40,41,91,93,59,44,61,60,62]
def P4 (s : List UInt8) : Bool:=(decide (s.length = 1) && Lib.contains a5Y s) || decide (s = [60,61]) || decide (s = [62,61]) || decide (s = [46,46])
theorem b5l (s : List UInt8) : Meets Tryz.prog 49 [.str s] λ d=>d = bD (P4 s):=by
 have h:=a7e a5Y s (by decide)
 have hl : ((s.length : Int) = 1) = (s.length = 1):=propext ⟨λ h=>by omega,λ h=>by omega⟩
 unfold P4
 refine enter tok {} Tryz.func49 rfl (by kernel_rfl) Tryz.ntmps49 (by simp) λ B0 W0 V0 lent g0=>?_
 ((conv=>whnf);repeat'(refine Z rfl ?_;conv=>whnf))
 repeat' ((first | (intro hlq; (try simp only [SL] at hlq)) | refine Meets.k (h) ?_ | refine Ks ?_ | refine Kq ?_ | refine Kt ?_ | ((refine Kh (λ hb=>?_) λ hb=>?_) <;> (try simp only [BL] at hb)) | refine Ka ?_ | refine Kb ?_ | refine Kc (hd:=rfl) (e:=?_) | refine Kc (hd:=d7 _) (e:=?_) | refine Kd (e:=?_) | refine Kl rfl ?_ | fail) <;> ((conv=>whnf);repeat'(refine Z rfl ?_;conv=>whnf)))
 all_goals
  refine ⟨congrArg bD ?_⟩
  clear hlq h
  simp_all
end Go.Proofs.YtaopegkpjhkooaaGreatDoor.Dx
/- Chapter 06: strings.NewReplacer: the replacer that Join's texts want is built. -/
namespace Go.Proofs.YtaopegkpjhkooaaGreatDoor.Dx
open Go Go.RowKit
set_option maxRecDepth 100000
set_option maxHeartbeats 16000000
def B1 : List (List D):=[[.str [34]],[.str [92,34]],[.str [92]],[.str [92,92]],[.str [10]],[.str [92,110]]]
abbrev rpO (d m : Int) (r o : D) : List (Nat × Blk):=[(6000,.box [.d (.v (.int .u32 d)),.d (.v (.int .i32 m)),.d (.v (.int .u32 0)),.d r,.d o] 178)]
def rpC (b : Nat) : D:=if b = 34 then .sl (d9 [92,34]) else if b = 92 then .sl (d9 [92,92]) else if b = 10 then .sl (d9 [92,110]) else .raw (.slice none 0 0)
def rpD : List D:=(List.range 256).map rpC ++ [.sl [[.str [10]],[.str [92]],[.str [34]]]]
theorem b2Z : MeetsR Tryz.prog 136 [.loc 6000 0] (rpO 0 1 (.v .nilIface) (.sl B1)) λ o O'=>o = .ret (.d (.iface 236 (.ptr rpD 0))) /\ O' = rpO 0 1 (.v .nilIface) (.sl B1):=by
 unfold B1
 refine i6 tok {priv:=[95]} Tryz.func136 rfl (by kernel_rfl) Tryz.ntmps136 (by simp) λ B0 W0 V0 lent g0=>?_
 ((conv=>whnf);repeat'(refine Y {priv:=[95]} rfl ?_;conv=>whnf))
 repeat' ((first | (intro hlq; clear hlq) | refine ⟨λ _=>?_,λ h=>absurd h (by decide)⟩ | refine ⟨λ h=>absurd h (by decide),λ _=>?_⟩ | refine ⟨λ _ _=>i64 (by decide) (by decide),?_⟩ | refine ⟨_,⟨by decide,rfl,rfl⟩,?_⟩ | refine I8 tok {priv:=[95]} ?_ | fail) <;> ((conv=>whnf);repeat'(refine Y {priv:=[95]} rfl ?_;conv=>whnf)))
 refine a4e tok {priv:=[95]} 5 ?_
 ((conv=>whnf);repeat'(refine Y {priv:=[95]} rfl ?_;conv=>whnf))
 repeat' ((first | (intro hlq; clear hlq) | refine ⟨λ _=>?_,λ h=>absurd h (by decide)⟩ | refine ⟨λ h=>absurd h (by decide),λ _=>?_⟩ | refine ⟨λ _ _=>i64 (by decide) (by decide),?_⟩ | refine ⟨_,⟨by decide,rfl,rfl⟩,?_⟩ | refine I8 tok {priv:=[95]} ?_ | fail) <;> ((conv=>whnf);repeat'(refine Y {priv:=[95]} rfl ?_;conv=>whnf)))
 repeat' ((first | (intro hlq; clear hlq) | refine ⟨λ _=>?_,λ h=>absurd h (by decide)⟩ | refine ⟨λ h=>absurd h (by decide),λ _=>?_⟩ | refine ⟨λ _ _=>i64 (by decide) (by decide),?_⟩ | refine ⟨_,⟨by decide,rfl,rfl⟩,?_⟩ | refine I8 tok {priv:=[95]} ?_ | (refine ⟨λ _ _=>by decide,?_⟩) | (refine ⟨⟨rfl,by decide,by decide,by decide⟩,?_⟩) | fail) <;> ((conv=>whnf);repeat'(refine Y {priv:=[95]} rfl ?_;conv=>whnf)))
 refine a4e tok {priv:=[95]} 5 ?_
 ((conv=>whnf);repeat'(refine Y {priv:=[95]} rfl ?_;conv=>whnf))
 repeat' ((first | (intro hlq; clear hlq) | refine ⟨λ _=>?_,λ h=>absurd h (by decide)⟩ | refine ⟨λ h=>absurd h (by decide),λ _=>?_⟩ | refine ⟨λ _ _=>i64 (by decide) (by decide),?_⟩ | refine ⟨_,⟨by decide,rfl,rfl⟩,?_⟩ | refine I8 tok {priv:=[95]} ?_ | (refine ⟨[10],rfl,?_⟩) | (refine ⟨[92],rfl,?_⟩) | (refine ⟨[34],rfl,?_⟩) | (refine ⟨_,⟨by decide,rfl⟩,?_⟩) | (refine ⟨by decide,?_⟩) | (refine ⟨λ _ _=>by decide,?_⟩) | (refine ⟨λ _ h=>(by simp at h; rw [h]; rfl),?_⟩) | fail) <;> ((conv=>whnf);repeat'(refine Y {priv:=[95]} rfl ?_;conv=>whnf)))
 refine ⟨rpO 0 1 (.v .nilIface) (.sl B1),.d (.iface 236 (.ptr rpD 0)),?_,⟨rfl,rfl⟩⟩
 repeat' (first | exact True.intro | exact rfl | refine And.intro ?_ ?_)
abbrev rpI : D:=.iface 236 (.ptr rpD 0)
theorem b6V : MeetsR Tryz.prog 106 [.loc 6000 0] (rpO 0 1 (.v .nilIface) (.sl B1)) λ o O'=>o = .ret (.d (.tup [])) /\ O' = rpO 0 1 rpI (.sl []):=by
 have h:=b2Z
 unfold rpI
 revert h
 generalize rpD = q
 intro h
 refine i6 tok {rs:=[4]} Tryz.func106 rfl (by kernel_rfl) Tryz.ntmps106 (by simp) λ B0 W0 V0 lent g0=>?_
 ((conv=>whnf);repeat'(refine Y {rs:=[4]} rfl ?_;conv=>whnf))
 refine ⟨rpO 0 1 (.v .nilIface) (.sl B1),_,⟨?_,?_⟩,h.mono ?_⟩
 . exact Kr
 . exact Kr
 rintro _ O' ⟨rfl,rfl⟩
 ((conv=>whnf);repeat'(refine Y {rs:=[4]} rfl ?_;conv=>whnf))
 refine ⟨rpO 0 1 (.iface 236 (.ptr q 0)) (.sl []),.d (.tup []),?_,⟨rfl,rfl⟩⟩
 repeat' (first | exact True.intro | exact rfl | refine And.intro ?_ ?_)
abbrev a2v : Cfg:={nm:=[(11,6000)]}
theorem new51 : MeetsR Tryz.prog 51 [.d (.sl B1)] [] λ o O'=>o = .ret (.loc 6000 0) /\ O' = rpO 0 0 (.v .nilIface) (.sl B1):=by
 refine i6 tok a2v Tryz.func51 rfl (by kernel_rfl) Tryz.ntmps51 (by simp) λ B0 W0 V0 lent g0=>?_
 ((conv=>whnf);repeat'(refine Y a2v rfl ?_;conv=>whnf))
 repeat' ((first | (intro hlq; clear hlq) | refine ⟨λ _=>?_,λ h=>absurd h (by decide)⟩ | refine ⟨λ h=>absurd h (by decide),λ _=>?_⟩ | refine ⟨λ _ _=>i64 (by decide) (by decide),?_⟩ | refine ⟨_,⟨by decide,rfl,rfl⟩,?_⟩ | refine I8 tok a2v ?_ | (refine ⟨λ _ _=>by decide,?_⟩) | (refine ⟨by decide,?_⟩) | fail) <;> ((conv=>whnf);repeat'(refine Y a2v rfl ?_;conv=>whnf)))
 refine ⟨rpO 0 0 (.v .nilIface) (.sl B1),.loc 6000 0,?_,⟨rfl,rfl⟩⟩
 repeat' (first | exact True.intro | exact rfl | refine And.intro ?_ ?_)
end Go.Proofs.YtaopegkpjhkooaaGreatDoor.Dx
