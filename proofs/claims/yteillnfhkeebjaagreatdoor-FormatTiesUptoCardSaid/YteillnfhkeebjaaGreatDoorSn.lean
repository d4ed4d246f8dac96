/- The reference's counting of conditions. -/
import Derived.Test.YteillnfhkeebjaaGreatDoorSk
import Derived.Test.YteillnfhkeebjaaGreatDoorSm
set_option linter.all false
namespace Go.Proofs.YteillnfhkeebjaaGreatDoor.Dx
open Go Go.RowKit
set_option maxRecDepth 100000
set_option maxHeartbeats 4000000
mutual
def Cond.conds:Cond->Int->Int
 |⟨_,_,_,ps⟩,depth=>if depth>16 then 1000 else condsL ps depth 1
def condsL:List Cond->Int->Int->Int
 |[],_,n=>n
 |c::cs,depth,n=>if n<=256 then condsL cs depth (n+c.conds (depth+1)) else n
end
theorem a5T (c:Cond)(depth:Int):c.conds depth=if depth>16 then 1000 else condsL c.parts depth 1:=by
 obtain⟨k,v,n,ps⟩:=c
 simp only[Cond.conds]
theorem a5S (c:Cond)(depth:Int)(hd:0<=depth/\depth<=17):
 Meets Tryz.prog 59 [c.d, .i depth] λd=>d= .i (c.conds depth)/\0<=c.conds depth/\c.conds depth<=1000+256*(17-depth):=by
 refine enter tok {} Tryz.func59 rfl (by kernel_rfl) Tryz.ntmps59 (by simp) λB0 W0 V0 lent g0=>?_
 refine Kw ?_
 refine⟨λh=>?_,λh=>?_⟩<;>(try simp only[BL] at h)<;>refine Kw ?_
 . refine⟨?_⟩
   rw[a5T,if_pos h]
   exact⟨rfl,by omega,by omega⟩
 refine d4 tok {} [] (X:=Nat×Int) (λx=>[(6, .i x.1),(5, .i x.2)]) (λ_=>[]) [] (λx=>x.1<=c.parts.length/\condsL (c.parts.drop x.1) depth x.2=condsL c.parts depth 1/\0<=x.2/\x.2<=1000+256*(17-depth)) (λx=>c.parts.length-x.1) (0,1) ?_
 refine Kw ?_
 refine And.intro ?_ ⟨⟨by omega,by simp,by omega,by omega⟩,λx hΦ=>?_⟩
 . exact Kr
 obtain⟨i,n⟩:=x
 obtain⟨hi,heq,hn0,hn1⟩:=hΦ
 dsimp only at hi heq hn0 hn1
 refine Kw ?_
 repeat'((first|(intro hlq;try simp only[SL] at hlq)|refine K8 ?_)<;>refine Kw ?_)
 refine⟨λh1=>?_,λh1=>?_⟩<;>(try simp only[BL] at h1)<;>refine Kw ?_
 . have h1':i<c.parts.length:=by omega
   refine⟨λh2=>?_,λh2=>?_⟩<;>(try simp only[BL] at h2)<;>refine Kw ?_
   . repeat' ((first|(intro hlq;try simp only[SL] at hlq)|refine K8 ?_)<;>refine Kw ?_)
     refine(a5S c.parts[i] (depth+1) (by omega)).mono λd hd=>?_
     obtain⟨rfl,hv0,hv1⟩:=hd
     refine Kw ?_
     repeat'((first|(intro hlq;try simp only[SL] at hlq)|refine K8 ?_)<;>refine Kw ?_)
     refine⟨⟨(i+1,n+c.parts[i].conds (depth+1)),?_,⟨by dsimp only;omega,?_,by dsimp only;omega,by dsimp only;omega⟩,by dsimp only;omega⟩⟩
     . exact Kr
     . dsimp only
       rw[<-heq,List.drop_eq_getElem_cons h1',condsL,if_pos h2]
   . refine⟨?_⟩
     have:c.conds depth=n:=by rw[a5T,if_neg h,<-heq,List.drop_eq_getElem_cons h1',condsL,if_neg h2]
     rw[this]
     exact⟨rfl,hn0,hn1⟩
 . refine⟨?_⟩
   have:c.conds depth=n:=by rw[a5T,if_neg h,<-heq,List.drop_eq_nil_of_le (by omega),condsL]
   rw[this]
   exact⟨rfl,hn0,hn1⟩
termination_by SizeOf.sizeOf c
decreasing_by exact Cond.size_part (List.getElem_mem h1')
end Go.Proofs.YteillnfhkeebjaaGreatDoor.Dx
/- typing: the walk that counts forms; check; Cond; Ties. -/
namespace Go.Proofs.YteillnfhkeebjaaGreatDoor.Dx
open Go Go.RowKit
set_option maxRecDepth 100000
set_option maxHeartbeats 8000000
abbrev w4 (s c:Int):List (Nat×Blk):=[(1000, .box [iB s,iB c] 223)]
def CntR (l:List Form)(d s0 c0:Int)(o:Out)(O':List (Nat×Blk)):Prop:=
 ∃s c,o= .ret (.d (bD (l8 l d s0 c0)))/\O'=w4 s c/\(l8 l d s0 c0=true->s=s0+stF l/\c=c0+cdF l)
theorem CntR.bad {l:List Form}{d s0 c0 s c:Int}(h:l8 l d s0 c0=false):CntR l d s0 c0 (.ret (.d (bD false))) (w4 s c):=
 ⟨s,c,by rw[h],rfl,by rw[h];simp⟩
abbrev o5:Cfg:={rs:=[58,79]}
theorem a3a (l:List Form)(d s0 c0:Int)(hl:l.length<=1048576*2)(hok:∀f∈l,f.ok)(hd:0<=d/\d<=17)(hs:0<=s0/\s0<=65/\(s0<=64\/stF l=0))(hc:0<=c0/\c0<=256):
 MeetsR Tryz.prog 146 [.loc 1000 0, .d (.sl (l.map Form.cells)),iB d] (w4 s0 c0) (CntR l d s0 c0):=by
 refine m9 tok o5 Tryz.func146 rfl (by kernel_rfl) Tryz.ntmps146 (by simp) λB0 W0 V0 lent g0=>?_
 refine Kv o5 ?_
 repeat'((first|(intro hlq;try simp only[SL] at hlq)|((refine Kh (λhb=>?_) λhb=>?_)<;>try simp only[BL] at hb)|refine K8 ?_)<;>refine Kv o5 ?_)
 . refine⟨w4 s0 c0, .d (bD false),?_,⟨CntR.bad ?_⟩⟩
   . exact Kr
   have hne:l≠[]:=by rintro rfl;simp at *
   have:=a6c hne
   simp only[l8,Bool.or_eq_false_iff,Bool.and_eq_false_iff,decide_eq_false_iff_not]
   exact⟨hne, .inl (.inl (by omega))⟩
 . have hd16:d<=16:=by omega
   refine d4 tok o5 [] (X:=Nat×Int×Int) (λx=>[(21,iB x.1)]) (λx=>w4 x.2.1 x.2.2) [9,10,11] (λx=>Cnt l d s0 c0 x.1 x.2.1 x.2.2) (λx=>l.length-x.1) (0,s0,c0) ?_
   refine Kv o5 ?_
   refine And.intro ?_ ⟨⟨by omega,by simp[stF],by simp[cdF], .inl rfl⟩,λx hΦ=>?_⟩
   . exact Kr
   obtain⟨i,s,c⟩:=x
   dsimp only at hΦ
   have hsb:0<=s/\s<=65/\0<=c/\c<=256:=by
    have h1:=hΦ.st;have h2:=hΦ.cd
    refine⟨by omega,?_,by omega,?_⟩
    . rcases hΦ.fit with rfl|h3
      . simp[stF] at h1;omega
      . omega
    . rcases hΦ.fit with rfl|h3
      . simp[cdF] at h2;omega
      . omega
   refine Kv o5 ?_
   refine⟨λh1=>?_,λh1=>?_⟩<;>(try simp only[BL] at h1)<;>refine Kv o5 ?_
   . have h1':i<l.length:=by omega
     cases hf:l[i] with
     | ofC x=>
       have hx:x.ok:=by have:=hok _ (List.getElem_mem h1');rw[hf] at this;exact this
       refine⟨_,⟨by omega,a1W Form.cells h1' (ds:=[(Form.ofC x).d]) (by rw[hf]),rfl⟩,?_⟩
       refine Kv o5 ?_
       have hfc:=b7W (c:=x) (s:=s) (n:=c) hd16
       have hbad:l8 [.ofC x] d s c=false->l8 l d s0 c0=false:=λh=>hΦ.bad h1' (by rw[hf];exact h)
       repeat'((first|(intro hlq;try simp only[SL] at hlq)|((refine Kh (λhb=>?_) λhb=>?_)<;>try simp only[BL] at hb)|refine K8 ?_)<;>refine Kv o5 ?_)
       . refine⟨w4 s (c+1), .d (bD false),?_,⟨CntR.bad (hbad ?_)⟩⟩
         . exact Kr
         rw[hfc,decide_eq_false (by omega:¬s<=64)];rfl
       . refine⟨w4 s (c+1), .d (bD false),?_,⟨CntR.bad (hbad ?_)⟩⟩
         . exact Kr
         rw[hfc,decide_eq_false (by omega:¬c+1<=256),Bool.and_false];rfl
       dsimp only at *
       have hxo:=Cond.ok_iff.1 hx
       refine⟨251,c0e,?_⟩
       refine Kv o5 ?_
       refine Meets.k (b2s x hxo.1) ?_
       refine Kv o5 ?_
       repeat'((first|(intro hlq;try simp only[SL] at hlq)|refine K8 ?_)<;>refine Kv o5 ?_)
       refine⟨w4 s (c+1),_,⟨?_,?_⟩,(a3a (w9 x.parts) (d+1) s (c+1) (by simp[w9];omega) (b2o hxo.2) (by omega) ⟨by omega,by omega, .inr (F_C x.parts).1⟩ (by omega)).mono ?_⟩
       . exact Kr
       . exact Kr
       rintro o O' ⟨s',c',rfl,rfl,hst⟩
       refine Kv o5 ?_
       repeat'((first|(intro hlq;try simp only[SL] at hlq)|((refine Kh (λhb=>?_) λhb=>?_)<;>try simp only[BL] at hb)|refine K8 ?_)<;>refine Kv o5 ?_)
       . refine⟨w4 s' c', .d (bD false),?_,⟨CntR.bad (hbad ?_)⟩⟩
         . exact Kr
         rw[hfc,hb,Bool.and_false]
       . obtain ⟨hs',hc'⟩:=hst hb
         obtain⟨k1,k2,k3,k4⟩:=F_C x.parts
         refine⟨⟨(i+1,s',c'),?_,?_,by dsimp only;omega⟩⟩
         . exact Kr
         have hn:=hΦ.next h1' hd16
         rw[hf] at hn
         simp only[Form.deep,Form.dok,Form.nst,Form.ncd,x.total_eq,x.deep_eq] at hn
         dsimp only
         have hfit:=hb
         simp only[l8,Bool.or_eq_true,Bool.and_eq_true,decide_eq_true_eq,k1,k2,k3,k4] at hfit
         have e1:s'=s+(0:Nat):=by omega
         have e2:c'=c+(1+Cond.totalL x.parts:Nat):=by omega
         rw[e1,e2]
         refine hn ?_ trivial ?_ ?_
         . rcases hfit with h|h
           . rw[h] at k3;simp only[dpF] at k3;omega
           . omega
         . omega
         . rcases hfit with h|h
           . rw[h] at k2;simp only[cdF] at k2;omega
           . omega
     | ofS x=>
       have hx:x.ok:=by have:=hok _ (List.getElem_mem h1');rw[hf] at this;exact this
       refine⟨_,⟨by omega,a1W Form.cells h1' (ds:=[(Form.ofS x).d]) (by rw[hf]),rfl⟩,?_⟩
       refine Kv o5 ?_
       have hfc:=b7X (x:=x) (s:=s) (n:=c) hd16
       have hbad:l8 [.ofS x] d s c=false->l8 l d s0 c0=false:=λh=>hΦ.bad h1' (by rw[hf];exact h)
       have hxo:=Step.ok_iff.1 hx
       have hoks:∀f∈e9 x.th++e9 x.el,f.ok:=λg hg=>by
        rcases List.mem_append.1 hg with h|h
        . exact a2w hxo.2.1.2 g h
        . exact a2w hxo.2.2.2 g h
       have hstep:∀s' c':Int,l8 (e9 x.th++e9 x.el) (d+1) (s+1) (c+x.cond.num)=true->x.cond.dok=true->s+1<=64->c+x.cond.num<=256->s'=s+1+stF (e9 x.th++e9 x.el)->c'=c+x.cond.num+cdF (e9 x.th++e9 x.el)->Cnt l d s0 c0 (i+1) s' c':=by
        intro s' c' hfit hdk hs1 hc1 e1 e2
        obtain⟨k1,k2,k3,k4⟩:=F_S x.th
        obtain⟨m1,m2,m3,m4⟩:=F_S x.el
        have hn:=hΦ.next h1' hd16
        rw[hf] at hn
        simp only[Form.deep,Form.dok,Form.nst,Form.ncd,x.nst_eq,x.ncd_eq,x.deep_eq,x.dok_eq,hdk,Bool.true_and] at hn
        rw[Z5,k1,m1] at e1
        rw[a0p,k2,m2] at e2
        simp only[l8,Bool.or_eq_true,Bool.and_eq_true,decide_eq_true_eq,Z5,a0p,a1P,a2v,k1,k2,k3,k4,m1,m2,m3,m4] at hfit
        have g1:s'=s+(1+(Step.nstL x.th+Step.nstL x.el):Nat):=by omega
        have g2:c'=c+(x.cond.num+(Step.ncdL x.th+Step.ncdL x.el):Nat):=by omega
        rw[g1,g2]
        rcases hfit with h|h
        . have z1:=Z5 (e9 x.th) (e9 x.el)
          have z2:=a0p (e9 x.th) (e9 x.el)
          have z3:=a1P (e9 x.th) (e9 x.el)
          have z4:=a2v (e9 x.th) (e9 x.el)
          rw[h,k1,m1] at z1
          rw[h,k2,m2] at z2
          rw[h,k3,m3] at z3
          rw[h,k4,m4] at z4
          simp only[stF,cdF,dpF,okF] at z1 z2 z3 z4
          exact hn (by omega) (by rw[<-z4]) (by omega) (by omega)
        . exact hn (by omega) (by simp only[Bool.and_eq_true];exact h.1.2) (by omega) (by omega)
       have hs64:s<=64:=by
        rcases hΦ.fit with h0|h3
        . have hst0:=hΦ.st
          rw[h0] at hst0
          simp only[List.take_zero,stF] at hst0
          rcases hs.2.2 with h4|h4
          . omega
          . have h5:=(congrArg stF (b3m h1')).trans (Z5 _ _)
            have h6:stF (l[i]::l.drop (i+1))=l[i].nst+stF (l.drop (i+1)):=rfl
            rw[h6,hf,h4] at h5
            simp only[Form.nst,x.nst_eq] at h5
            omega
        . omega
       repeat'((first|(intro hlq;try simp only[SL] at hlq)|refine Meets.k (b1m x.cond) ?_|((refine Kh (λhb=>?_) λhb=>?_)<;>try simp only[BL] at hb)|refine K8 ?_)<;>refine Kv o5 ?_)
       . -- with a condition
         have hz:x.cond.isZero=false:=by assumption
         have hnum':(x.cond.num:Int)=x.cond.total:=by simp[Cond.num,hz]
         have hcase:∀s1 c1:Int,l8 [.ofC x.cond] 0 (s+1) c=true->(s1=s+1+stF [.ofC x.cond]/\c1=c+cdF [.ofC x.cond])->(x.cond.num:Int)=x.cond.total->s1=s+1/\c1=c+x.cond.num/\x.cond.dok=true:=by
          intro s1 c1 hfit1 ⟨hs1,hc1⟩ hnum'
          refine⟨by simpa[stF,Form.nst] using hs1,by rw[hnum'];simpa[cdF,Form.ncd] using hc1,?_⟩
          simp only[l8,Bool.or_eq_true,Bool.and_eq_true,decide_eq_true_eq,List.cons_ne_nil,false_or] at hfit1
          simp only[Cond.dok,hz,Bool.false_or,decide_eq_true_eq]
          have:=hfit1.1.1
          simp only[dpF,Form.deep] at this
          omega
         refine⟨w4 (s+1) c,_,⟨?_,?_⟩,(a3a [.ofC x.cond] 0 (s+1) c (by simp) (by simpa using (show(Form.ofC x.cond).ok from hxo.1)) (by omega) ⟨by omega,by omega, .inr rfl⟩ (by omega)).mono ?_⟩
         . exact Kr
         . exact Kr
         rintro o O' ⟨s1,c1,rfl,rfl,hst1⟩
         refine Kv o5 ?_
         repeat'((first|(intro hlq;try simp only[SL] at hlq)|((refine Kh (λhb=>?_) λhb=>?_)<;>try simp only[BL] at hb)|refine K8 ?_)<;>refine Kv o5 ?_)
         . refine⟨w4 s1 c1, .d (bD false),?_,⟨CntR.bad (hbad ?_)⟩⟩
           . exact Kr
           rw[hfc,hz,hb];rfl
         all_goals have hfit1:l8 [.ofC x.cond] 0 (s+1) c=true:=by assumption
         all_goals obtain⟨e1,e2,hdok⟩:=hcase s1 c1 hfit1 (hst1 hfit1) hnum'
         all_goals subst e1 e2
         all_goals have hnum:(x.cond.num:Int)=x.cond.num:=rfl
         all_goals clear hnum'
         all_goals have hnum':=hnum
         . refine⟨w4 (s+1) (c+x.cond.num), .d (bD false),?_,⟨CntR.bad (hbad ?_)⟩⟩
           . exact Kr
           rw[hfc,decide_eq_false (by omega:¬s+1<=64)];simp
         . refine⟨w4 (s+1) (c+x.cond.num), .d (bD false),?_,⟨CntR.bad (hbad ?_)⟩⟩
           . exact Kr
           rw[hfc,decide_eq_false (by rw[hnum];omega:¬c+(x.cond.num:Int)<=256)];simp
         (try dsimp only at *)
         refine⟨252,b1S,?_⟩
         refine Kv o5 ?_
         refine Meets.k (a7f x ⟨hxo.2.1.1,hxo.2.2.1⟩) ?_
         refine Kv o5 ?_
         repeat'((first|(intro hlq;try simp only[SL] at hlq)|refine K8 ?_)<;>refine Kv o5 ?_)
         refine⟨w4 (s+1) (c+x.cond.num),_,⟨?_,?_⟩,(a3a (e9 x.th++e9 x.el) (d+1) (s+1) (c+x.cond.num) (by simp[e9];omega) hoks (by omega) ⟨by omega,by omega, .inl (by omega)⟩ (by omega)).mono ?_⟩
         . exact Kr
         . exact Kr
         rintro o O' ⟨s',c',rfl,rfl,hst⟩
         refine Kv o5 ?_
         repeat'((first|(intro hlq;try simp only[SL] at hlq)|((refine Kh (λhb=>?_) λhb=>?_)<;>try simp only[BL] at hb)|refine K8 ?_)<;>refine Kv o5 ?_)
         . refine⟨w4 s' c', .d (bD false),?_,⟨CntR.bad (hbad ?_)⟩⟩
           . exact Kr
           rw[hfc,hnum',hb];simp
         . obtain⟨hs',hc'⟩:=hst hb
           refine⟨⟨(i+1,s',c'),?_,?_,by dsimp only;omega⟩⟩
           . exact Kr
           exact hstep s' c' (by rw[hnum'];exact hb) hdok (by omega) (by rw[hnum'];omega) hs' (by rw[hnum'];exact hc')
       all_goals have hz:x.cond.isZero=true:=by assumption
       all_goals have hnum:(x.cond.num:Int)=0:=by simp[Cond.num,hz]
       all_goals have hdok:x.cond.dok=true:=by simp[Cond.dok,hz]
       all_goals have hnum':c+(x.cond.num:Int)=c:=by omega
       . refine⟨w4 (s+1) (c), .d (bD false),?_,⟨CntR.bad (hbad ?_)⟩⟩
         . exact Kr
         rw[hfc,decide_eq_false (by omega:¬s+1<=64)];simp
       . refine⟨w4 (s+1) (c), .d (bD false),?_,⟨CntR.bad (hbad ?_)⟩⟩
         . exact Kr
         rw[hfc,decide_eq_false (by rw[hnum];omega:¬c+(x.cond.num:Int)<=256)];simp
       (try dsimp only at *)
       refine⟨252,b1S,?_⟩
       refine Kv o5 ?_
       refine Meets.k (a7f x ⟨hxo.2.1.1,hxo.2.2.1⟩) ?_
       refine Kv o5 ?_
       repeat'((first|(intro hlq;try simp only[SL] at hlq)|refine K8 ?_)<;>refine Kv o5 ?_)
       refine⟨w4 (s+1) (c),_,⟨?_,?_⟩,(a3a (e9 x.th++e9 x.el) (d+1) (s+1) (c) (by simp[e9];omega) hoks (by omega) ⟨by omega,by omega, .inl (by omega)⟩ (by omega)).mono ?_⟩
       . exact Kr
       . exact Kr
       rintro o O' ⟨s',c',rfl,rfl,hst⟩
       refine Kv o5 ?_
       repeat'((first|(intro hlq;try simp only[SL] at hlq)|((refine Kh (λhb=>?_) λhb=>?_)<;>try simp only[BL] at hb)|refine K8 ?_)<;>refine Kv o5 ?_)
       . refine⟨w4 s' c', .d (bD false),?_,⟨CntR.bad (hbad ?_)⟩⟩
         . exact Kr
         rw[hfc,hnum',hb];simp
       . obtain⟨hs',hc'⟩:=hst hb
         refine⟨⟨(i+1,s',c'),?_,?_,by dsimp only;omega⟩⟩
         . exact Kr
         exact hstep s' c' (by rw[hnum'];exact hb) hdok (by omega) (by rw[hnum'];omega) hs' (by rw[hnum'];exact hc')
   . obtain⟨g1,g2,g3⟩:=hΦ.all (by omega)
     refine⟨w4 s c, .d (bD true),?_,⟨s,c,by rw[g1],rfl,λ_=>⟨g2,g3⟩⟩⟩
     repeat'(first|exact True.intro|exact rfl|refine And.intro ?_ ?_)
 . have hnil:l=[]:=List.eq_nil_of_length_eq_zero (by omega)
   subst hnil
   refine d4 tok o5 [] (X:=Unit) (λ_=>[(21,iB 0)]) (λ_=>w4 s0 c0) [9,10,11] (λ_=>True) (λ_=>0) () ?_
   refine Kv o5 ?_
   refine And.intro ?_ ⟨trivial,λx _=>?_⟩
   . exact Kr
   refine Kv o5 ?_
   refine⟨λh1=>?_,λh1=>?_⟩<;>(try simp only[BL] at h1)<;>refine Kv o5 ?_
   . exact absurd h1 (by simp)
   . refine⟨w4 s0 c0, .d (bD true),?_,⟨s0,c0,rfl,rfl,λ_=>by simp[stF,cdF]⟩⟩
     repeat'(first|exact True.intro|exact rfl|refine And.intro ?_ ?_)
termination_by szF l
decreasing_by
 . have h2:=Z9 (List.getElem_mem h1')
   rw[hf] at h2
   have h3:=x.sz_eq
   rw[b3C]
   simp only[Form.sz] at h2
   omega
 . have h2:=Z9 (List.getElem_mem h1')
   rw[hf] at h2
   have h3:=x.sz_eq
   simp only[Form.sz] at h2
   have h4:szF [Form.ofC x.cond]=1+x.cond.sz:=by simp[szF,Form.sz]
   rw[h4]
   omega
 . have h2:=Z9 (List.getElem_mem h1')
   rw[hf] at h2
   have h3:=x.sz_eq
   rw[a7X,Z8,Z8]
   simp only[Form.sz] at h2
   omega
 . have h2:=Z9 (List.getElem_mem h1')
   rw[hf] at h2
   have h3:=x.sz_eq
   rw[a7X,Z8,Z8]
   simp only[Form.sz] at h2
   omega
abbrev a3q:Cfg:={nm:=[(5,1000)],rs:=[8]}
theorem a9K (l:List Form)(hl:l.length<=1048576*2)(hok:∀f∈l,f.ok):Meets Tryz.prog 63 [.sl (l.map Form.cells)] λd=>d=iD (if l8 l 0 0 0 then(if l≠[]/\l.all Form.valid then 0 else 71) else 2):=by
 have hinv:=a6C (l:=l) λf hf=>a5b f (hok f hf)
 refine enter tok a3q Tryz.func63 rfl (by kernel_rfl) Tryz.ntmps63 (by simp) λB0 W0 V0 lent g0=>?_
 refine Kv a3q ?_
 refine⟨w4 0 0,_,⟨?_,?_⟩,(a3a l 0 0 0 hl hok (by omega) (by omega) (by omega)).mono ?_⟩
 . exact Kr
 . exact Kr
 rintro o O' ⟨s',c',rfl,rfl,hst⟩
 refine Kv a3q ?_
 repeat'((first|(intro hlq;try simp only[SL] at hlq)|refine Meets.k (hinv) ?_|((refine Kh (λhb=>?_) λhb=>?_)<;>try simp only[BL] at hb)|refine K8 ?_)<;>refine Kv a3q ?_)
 all_goals clear hinv hst
 all_goals refine⟨congrArg iD ?_⟩
 all_goals simp_all
 all_goals (intro h;simp[h] at *)
theorem b4x (c:Cond)(hok:c.ok):Meets Tryz.prog 15 [c.d] λd=>d=iD (if c.total<=256/\c.deep<=16 then(if c.valid then 0 else 71) else 2):=by
 refine enter tok {} Tryz.func15 rfl (by kernel_rfl) Tryz.ntmps15 (by simp) λB0 W0 V0 lent g0=>?_
 refine Kw ?_
 refine Meets.k (a9K [.ofC c] (by simp) (by simpa using (show(Form.ofC c).ok from hok))) ?_
 refine Kw ?_
 refine⟨congrArg iD ?_⟩
 have:l8 [.ofC c] 0 0 0=decide (c.total<=256/\c.deep<=16):=by
  rw[Bool.eq_iff_iff]
  simp only[l8,Bool.or_eq_true,Bool.and_eq_true,decide_eq_true_eq,List.cons_ne_nil,false_or]
  simp only[stF,cdF,dpF,okF,Form.nst,Form.ncd,Form.deep,Form.dok,Bool.and_true]
  constructor
  . rintro⟨⟨a,_⟩,b,e⟩;exact⟨by omega,by omega⟩
  . rintro⟨a,b⟩;exact⟨⟨by omega,trivial⟩,by omega,by omega⟩
 rw[this]
 simp[Form.valid]
theorem b5f (l:List Step)(hl:l.length<=1048576)(hok:∀s∈l,s.ok):Meets Tryz.prog 21 [.sl (l.map Step.cells)] λd=>d=iD (if l8 (e9 l) 0 0 0 then(if l≠[]/\l.all Step.valid then 0 else 71) else 2):=by
 refine enter tok {} Tryz.func21 rfl (by kernel_rfl) Tryz.ntmps21 (by simp) λB0 W0 V0 lent g0=>?_
 refine Kw ?_
 refine Meets.k (b3t l hl) ?_
 refine Kw ?_
 refine Meets.k (a9K (e9 l) (by simp[e9];omega) (a2w hok)) ?_
 refine Kw ?_
 refine⟨congrArg iD ?_⟩
 rw[a5x]
 simp[e9]
end Go.Proofs.YteillnfhkeebjaaGreatDoor.Dx
/- The reference: conditions and steps. -/
namespace Go.Proofs.YteillnfhkeebjaaGreatDoor.Dx
open Go Go.RowKit
set_option maxRecDepth 100000
set_option maxHeartbeats 8000000
theorem c5d (c:Cond):Meets Tryz.prog 142 [c.d] λd=>d=bD c.isZero:=by
 refine enter tok {} Tryz.func142 rfl (by kernel_rfl) Tryz.ntmps142 (by simp) λB0 W0 V0 lent g0=>?_
 refine Kw ?_
 repeat'((first|(intro hlq;try simp only[SL] at hlq)|((refine Kh (λhb=>?_) λhb=>?_)<;>try simp only[BL] at hb)|refine K8 ?_)<;>refine Kw ?_)
 all_goals refine⟨congrArg bD ?_⟩
 all_goals simp_all [Cond.isZero]
theorem a3l {α:Type}{p:α->Bool}{xs:List α}{x:α}(hx:x∈xs)(h:p x=false):xs.all p=false:=by
 rw[List.all_eq_false];exact⟨x,hx,by rw[h];simp⟩
theorem a5y {α:Type}{p:α->Bool}{xs:List α}{i:Nat}(hi:¬i<xs.length)(h:∀x∈xs.take i,p x=true):xs.all p=true:=by
 rw[List.take_of_length_le (by omega)] at h
 exact List.all_eq_true.2 h
end Go.Proofs.YteillnfhkeebjaaGreatDoor.Dx
