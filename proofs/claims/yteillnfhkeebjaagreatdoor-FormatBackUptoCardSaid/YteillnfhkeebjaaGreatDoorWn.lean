/- The. -/
import Derived.Test.YteillnfhkeebjaaGreatDoorWm
set_option linter.all false
namespace Go.Proofs.YteillnfhkeebjaaGreatDoor.Dx
open Go Go.RowKit
set_option maxRecDepth 100000
set_option maxHeartbeats 4000000
mutual
def Cond.conds:Cond->Int->Int
 |⟨_,_,_,ps⟩,depth=>if depth>16 then 1000 else condsL ps depth 1
def condsL:List Cond->Int->Int->Int
 |[],_,n=>n
 |c::cs,depth,n=>if n<=256 then condsL cs depth (n+c.conds (depth+1)) else n
end
theorem b2e (c:Cond)(depth:Int):c.conds depth=if depth>16 then 1000 else condsL c.parts depth 1:=by
 obtain⟨k,v,n,ps⟩:=c;simp only[Cond.conds]
theorem b6C (c:Cond)(depth:Int)(hd:0<=depth/\depth<=17):
 Mt 59 [c.d, .i depth] λd=>d= .i (c.conds depth)/\0<=c.conds depth/\c.conds depth<=1000+256*(17-depth):=by
 refine En {} Tryz.func59 Tryz.ntmps59 λ_ _ _ _ _=>?_;refine Kw ?_;refine⟨λh=>?_,λh=>?_⟩<;>(try simp only[BL] at h)<;>refine Kw ?_
 . refine⟨?_⟩;rw[b2e,d4 h];exact⟨rfl,by omega,by omega⟩
 refine o4 tok {} [] (X:=Nat×Int) (λx=>[(6, .i x.1),(5, .i x.2)]) (λ_=>[]) [] (λx=>x.1<=c.parts.length/\condsL (c.parts.drop x.1) depth x.2=condsL c.parts depth 1/\0<=x.2/\x.2<=1000+256*(17-depth)) (λx=>c.parts.length-x.1) (0,1) ?_;refine Kw ?_;refine d8 ?_ ⟨⟨by omega,by simp,by omega,by omega⟩,λx hΦ=>?_⟩
 . exact Kr
 obtain⟨i,n⟩:=x;obtain⟨hi,heq,hn0,hn1⟩:=hΦ;dsimp only at hi heq hn0 hn1;refine Kw ?_;repeat'((first|(intro hlq;try simp only[SL] at hlq)|refine K8 ?_)<;>refine Kw ?_)
 refine⟨λh1=>?_,λh1=>?_⟩<;>(try simp only[BL] at h1)<;>refine Kw ?_
 . have h1':i<c.parts.length:=by omega
   refine⟨λh2=>?_,λh2=>?_⟩<;>(try simp only[BL] at h2)<;>refine Kw ?_
   . repeat' ((first|(intro hlq;try simp only[SL] at hlq)|refine K8 ?_)<;>refine Kw ?_)
     refine(b6C c.parts[i] (depth+1) (by omega)).mono λd hd=>?_;obtain⟨rfl,hv0,hv1⟩:=hd;refine Kw ?_;repeat'((first|(intro hlq;try simp only[SL] at hlq)|refine K8 ?_)<;>refine Kw ?_)
     refine⟨⟨(i+1,n+c.parts[i].conds (depth+1)),?_,⟨by dsimp only;omega,?_,by dsimp only;omega,by dsimp only;omega⟩,by dsimp only;omega⟩⟩
     . exact Kr
     . dsimp only;rw[<-heq,F2 h1',condsL,d4 h2]
   . refine⟨?_⟩;have:c.conds depth=n:=by rw[b2e,c8 h,<-heq,F2 h1',condsL,c8 h2]
     rw[this];exact⟨rfl,hn0,hn1⟩
 . refine⟨?_⟩;have:c.conds depth=n:=by rw[b2e,c8 h,<-heq,a0U (by omega),condsL]
   rw[this];exact⟨rfl,hn0,hn1⟩
termination_by SizeOf.sizeOf c
decreasing_by exact Cond.size_part (q7 h1')
set_option maxHeartbeats 8000000
abbrev J7 (s c:Int):List (Nat×Blk):=[(1000, .box [iB s,iB c] 223)]
def CntR (l:List Form)(d s0 c0:Int)(o:Out)(O':List (Nat×Blk)):Prop:=
 ∃s c,o= .ret (.d (bD (C2 l d s0 c0)))/\O'=J7 s c/\(C2 l d s0 c0=true->s=s0+stF l/\c=c0+cdF l)
theorem CntR.bad {l:List Form}{d s0 c0 s c:Int}(h:C2 l d s0 c0=false):CntR l d s0 c0 (.ret (.d (bD false))) (J7 s c):=
 ⟨s,c,by rw[h],rfl,by rw[h];simp⟩
abbrev E7:Cfg:={rs:=[58,79]}
theorem a8U (l:List Form)(d s0 c0:Int)(hl:l.length<=1048576*2)(hok:∀f∈l,f.ok)(hd:0<=d/\d<=17)(hs:0<=s0/\s0<=65/\(s0<=64\/stF l=0))(hc:0<=c0/\c0<=256):
 MR 146 [.loc 1000 0, .d (.sl (l.map Form.cells)),iB d] (J7 s0 c0) (CntR l d s0 c0):=by
 refine EnR E7 Tryz.func146 Tryz.ntmps146 λ_ _ _ _ _=>?_;refine Kv E7 ?_;repeat'((first|(intro hlq;try simp only[SL] at hlq)|((refine Kh (λhb=>?_) λhb=>?_)<;>try simp only[BL] at hb)|refine K8 ?_)<;>refine Kv E7 ?_)
 . refine⟨J7 s0 c0, .d (bD false),?_,⟨CntR.bad ?_⟩⟩
   . exact Kr
   have hne:l≠[]:=by rintro rfl;simp at *
   have:=b2l hne;simp only[C2,W8,U2,L4];exact⟨hne, .inl (.inl (by omega))⟩
 . have hd16:d<=16:=by omega
   refine o4 tok E7 [] (X:=Nat×Int×Int) (λx=>[(21,iB x.1)]) (λx=>J7 x.2.1 x.2.2) [9,10,11] (λx=>Cnt l d s0 c0 x.1 x.2.1 x.2.2) (λx=>l.length-x.1) (0,s0,c0) ?_;refine Kv E7 ?_;refine d8 ?_ ⟨⟨by omega,by simp[stF],by simp[cdF], .inl rfl⟩,λx hΦ=>?_⟩
   . exact Kr
   obtain⟨i,s,c⟩:=x;dsimp only at hΦ;have hsb:0<=s/\s<=65/\0<=c/\c<=256:=by
    have h1:=hΦ.st;have h2:=hΦ.cd;refine⟨by omega,?_,by omega,?_⟩
    . rcases hΦ.fit with rfl|h3
      . simp[stF] at h1;omega
      . omega
    . rcases hΦ.fit with rfl|h3
      . simp[cdF] at h2;omega
      . omega
   refine Kv E7 ?_;refine⟨λh1=>?_,λh1=>?_⟩<;>(try simp only[BL] at h1)<;>refine Kv E7 ?_
   . have h1':i<l.length:=by omega
     cases hf:l[i] with
     | ofC x=>
       have hx:x.ok:=by have:=hok _ (q7 h1');rw[hf] at this;exact this
       refine⟨_,⟨by omega,a7P Form.cells h1' (ds:=[(Form.ofC x).d]) (by rw[hf]),rfl⟩,?_⟩;refine Kv E7 ?_;have hfc:=c6x (c:=x) (s:=s) (n:=c) hd16;have hbad:C2 [.ofC x] d s c=false->C2 l d s0 c0=false:=λh=>hΦ.bad h1' (by rw[hf];exact h);repeat'((first|(intro hlq;try simp only[SL] at hlq)|((refine Kh (λhb=>?_) λhb=>?_)<;>try simp only[BL] at hb)|refine K8 ?_)<;>refine Kv E7 ?_)
       . refine⟨J7 s (c+1), .d (bD false),?_,⟨CntR.bad (hbad ?_)⟩⟩
         . exact Kr
         rw[hfc,D5 (by omega:¬s<=64)];rfl
       . refine⟨J7 s (c+1), .d (bD false),?_,⟨CntR.bad (hbad ?_)⟩⟩
         . exact Kr
         rw[hfc,D5 (by omega:¬c+1<=256),a4c];rfl
       dsimp only at *;have hxo:=Cond.ok_iff.1 hx;refine⟨251,c8Z,?_⟩;refine Kv E7 ?_;refine Meets.k (b9p x hxo.1) ?_;refine Kv E7 ?_;repeat'((first|(intro hlq;try simp only[SL] at hlq)|refine K8 ?_)<;>refine Kv E7 ?_)
       refine⟨J7 s (c+1),_,⟨Kr,Kr⟩,(a8U (L6 x.parts) (d+1) s (c+1) (by simp[L6];omega) (b9l hxo.2) (by omega) ⟨by omega,by omega, .inr (F_C x.parts).1⟩ (by omega)).mono ?_⟩;rintro o O' ⟨s',c',rfl,rfl,hst⟩;refine Kv E7 ?_;repeat'((first|(intro hlq;try simp only[SL] at hlq)|((refine Kh (λhb=>?_) λhb=>?_)<;>try simp only[BL] at hb)|refine K8 ?_)<;>refine Kv E7 ?_)
       . refine⟨J7 s' c', .d (bD false),?_,⟨CntR.bad (hbad ?_)⟩⟩
         . exact Kr
         rw[hfc,hb,a4c]
       . obtain ⟨hs',hc'⟩:=hst hb;obtain⟨k1,k2,k3,k4⟩:=F_C x.parts;refine⟨⟨(i+1,s',c'),?_,?_,by dsimp only;omega⟩⟩
         . exact Kr
         have hn:=hΦ.next h1' hd16;rw[hf] at hn;simp only[Form.deep,Form.dok,Form.nst,Form.ncd,x.total_eq,x.deep_eq] at hn;dsimp only;have hfit:=hb;simp only[C2,C0,f0,j0,k1,k2,k3,k4] at hfit;have e1:s'=s+(0:Nat):=by omega
         have e2:c'=c+(1+Cond.totalL x.parts:Nat):=by omega
         rw[e1,e2];refine hn ?_ trivial ?_ ?_
         . rcases hfit with h|h
           . rw[h] at k3;simp only[dpF] at k3;omega
           . omega
         . omega
         . rcases hfit with h|h
           . rw[h] at k2;simp only[cdF] at k2;omega
           . omega
     | ofS x=>
       have hx:x.ok:=by have:=hok _ (q7 h1');rw[hf] at this;exact this
       refine⟨_,⟨by omega,a7P Form.cells h1' (ds:=[(Form.ofS x).d]) (by rw[hf]),rfl⟩,?_⟩;refine Kv E7 ?_;have hfc:=c6y (x:=x) (s:=s) (n:=c) hd16;have hbad:C2 [.ofS x] d s c=false->C2 l d s0 c0=false:=λh=>hΦ.bad h1' (by rw[hf];exact h);have hxo:=Step.ok_iff.1 hx;have hoks:∀f∈q9 x.th++q9 x.el,f.ok:=λg hg=>by
        rcases A8.1 hg with h|h
        . exact a8o hxo.2.1.2 g h
        . exact a8o hxo.2.2.2 g h
       have hstep:∀s' c':Int,C2 (q9 x.th++q9 x.el) (d+1) (s+1) (c+x.cond.num)=true->x.cond.dok=true->s+1<=64->c+x.cond.num<=256->s'=s+1+stF (q9 x.th++q9 x.el)->c'=c+x.cond.num+cdF (q9 x.th++q9 x.el)->Cnt l d s0 c0 (i+1) s' c':=by
        intro s' c' hfit hdk hs1 hc1 e1 e2;obtain⟨k1,k2,k3,k4⟩:=F_S x.th;obtain⟨m1,m2,m3,m4⟩:=F_S x.el;have hn:=hΦ.next h1' hd16;rw[hf] at hn;simp only[Form.deep,Form.dok,Form.nst,Form.ncd,x.nst_eq,x.ncd_eq,x.deep_eq,x.dok_eq,hdk,W9] at hn;rw[a5e,k1,m1] at e1;rw[a5P,k2,m2] at e2;simp only[C2,C0,f0,j0,a5e,a5P,a7J,a8n,k1,k2,k3,k4,m1,m2,m3,m4] at hfit;have g1:s'=s+(1+(Step.nstL x.th+Step.nstL x.el):Nat):=by omega
        have g2:c'=c+(x.cond.num+(Step.ncdL x.th+Step.ncdL x.el):Nat):=by omega
        rw[g1,g2];rcases hfit with h|h
        . have z1:=a5e (q9 x.th) (q9 x.el);have z2:=a5P (q9 x.th) (q9 x.el);have z3:=a7J (q9 x.th) (q9 x.el);have z4:=a8n (q9 x.th) (q9 x.el);rw[h,k1,m1] at z1;rw[h,k2,m2] at z2;rw[h,k3,m3] at z3;rw[h,k4,m4] at z4;simp only[stF,cdF,dpF,okF] at z1 z2 z3 z4;exact hn (by omega) (by rw[<-z4]) (by omega) (by omega)
        . exact hn (by omega) (by simp only[f0];exact h.1.2) (by omega) (by omega)
       have hs64:s<=64:=by
        rcases hΦ.fit with h0|h3
        . have hst0:=hΦ.st;rw[h0] at hst0;simp only[List.take_zero,stF] at hst0;rcases hs.2.2 with h4|h4
          . omega
          . have h5:=(d6 stF (c0r h1')).trans (a5e _ _);have h6:stF (l[i]::l.drop (i+1))=l[i].nst+stF (l.drop (i+1)):=rfl;rw[h6,hf,h4] at h5;simp only[Form.nst,x.nst_eq] at h5;omega
        . omega
       repeat'((first|(intro hlq;try simp only[SL] at hlq)|refine Meets.k (b8e x.cond) ?_|((refine Kh (λhb=>?_) λhb=>?_)<;>try simp only[BL] at hb)|refine K8 ?_)<;>refine Kv E7 ?_)
       . -- with a condition
         have hz:x.cond.isZero=false:=by assumption
         have hnum':(x.cond.num:Int)=x.cond.total:=by simp[Cond.num,hz]
         have hcase:∀s1 c1:Int,C2 [.ofC x.cond] 0 (s+1) c=true->(s1=s+1+stF [.ofC x.cond]/\c1=c+cdF [.ofC x.cond])->(x.cond.num:Int)=x.cond.total->s1=s+1/\c1=c+x.cond.num/\x.cond.dok=true:=by
          intro s1 c1 hfit1 ⟨hs1,hc1⟩ hnum';refine⟨by simpa[stF,Form.nst] using hs1,by rw[hnum'];simpa[cdF,Form.ncd] using hc1,?_⟩;simp only[C2,C0,f0,j0,List.cons_ne_nil,false_or] at hfit1;simp only[Cond.dok,hz,Bool.false_or,j0];have:=hfit1.1.1;simp only[dpF,Form.deep] at this;omega
         refine⟨J7 (s+1) c,_,⟨Kr,Kr⟩,(a8U [.ofC x.cond] 0 (s+1) c (by simp) (by simpa using (show(Form.ofC x.cond).ok from hxo.1)) (by omega) ⟨by omega,by omega, .inr rfl⟩ (by omega)).mono ?_⟩;rintro o O' ⟨s1,c1,rfl,rfl,hst1⟩;refine Kv E7 ?_;repeat'((first|(intro hlq;try simp only[SL] at hlq)|((refine Kh (λhb=>?_) λhb=>?_)<;>try simp only[BL] at hb)|refine K8 ?_)<;>refine Kv E7 ?_)
         . refine⟨J7 s1 c1, .d (bD false),?_,⟨CntR.bad (hbad ?_)⟩⟩
           . exact Kr
           rw[hfc,hz,hb];rfl
         all_goals have hfit1:C2 [.ofC x.cond] 0 (s+1) c=true:=by assumption
         all_goals obtain⟨e1,e2,hdok⟩:=hcase s1 c1 hfit1 (hst1 hfit1) hnum'
         all_goals subst e1 e2
         all_goals have hnum:(x.cond.num:Int)=x.cond.num:=rfl
         all_goals clear hnum'
         all_goals have hnum':=hnum
         . refine⟨J7 (s+1) (c+x.cond.num), .d (bD false),?_,⟨CntR.bad (hbad ?_)⟩⟩
           . exact Kr
           rw[hfc,D5 (by omega:¬s+1<=64)];simp
         . refine⟨J7 (s+1) (c+x.cond.num), .d (bD false),?_,⟨CntR.bad (hbad ?_)⟩⟩
           . exact Kr
           rw[hfc,D5 (by rw[hnum];omega:¬c+(x.cond.num:Int)<=256)];simp
         (try dsimp only at *);refine⟨252,b8N,?_⟩;refine Kv E7 ?_;refine Meets.k (b3t x ⟨hxo.2.1.1,hxo.2.2.1⟩) ?_;refine Kv E7 ?_;repeat'((first|(intro hlq;try simp only[SL] at hlq)|refine K8 ?_)<;>refine Kv E7 ?_)
         refine⟨J7 (s+1) (c+x.cond.num),_,⟨Kr,Kr⟩,(a8U (q9 x.th++q9 x.el) (d+1) (s+1) (c+x.cond.num) (by simp[q9];omega) hoks (by omega) ⟨by omega,by omega, .inl (by omega)⟩ (by omega)).mono ?_⟩;rintro o O' ⟨s',c',rfl,rfl,hst⟩;refine Kv E7 ?_;repeat'((first|(intro hlq;try simp only[SL] at hlq)|((refine Kh (λhb=>?_) λhb=>?_)<;>try simp only[BL] at hb)|refine K8 ?_)<;>refine Kv E7 ?_)
         . refine⟨J7 s' c', .d (bD false),?_,⟨CntR.bad (hbad ?_)⟩⟩
           . exact Kr
           rw[hfc,hnum',hb];simp
         . obtain⟨hs',hc'⟩:=hst hb;refine⟨⟨(i+1,s',c'),?_,?_,by dsimp only;omega⟩⟩
           . exact Kr
           exact hstep s' c' (by rw[hnum'];exact hb) hdok (by omega) (by rw[hnum'];omega) hs' (by rw[hnum'];exact hc')
       all_goals have hz:x.cond.isZero=true:=by assumption
       all_goals have hnum:(x.cond.num:Int)=0:=by simp[Cond.num,hz]
       all_goals have hdok:x.cond.dok=true:=by simp[Cond.dok,hz]
       all_goals have hnum':c+(x.cond.num:Int)=c:=by omega
       . refine⟨J7 (s+1) (c), .d (bD false),?_,⟨CntR.bad (hbad ?_)⟩⟩
         . exact Kr
         rw[hfc,D5 (by omega:¬s+1<=64)];simp
       . refine⟨J7 (s+1) (c), .d (bD false),?_,⟨CntR.bad (hbad ?_)⟩⟩
         . exact Kr
         rw[hfc,D5 (by rw[hnum];omega:¬c+(x.cond.num:Int)<=256)];simp
       (try dsimp only at *);refine⟨252,b8N,?_⟩;refine Kv E7 ?_;refine Meets.k (b3t x ⟨hxo.2.1.1,hxo.2.2.1⟩) ?_;refine Kv E7 ?_;repeat'((first|(intro hlq;try simp only[SL] at hlq)|refine K8 ?_)<;>refine Kv E7 ?_)
       refine⟨J7 (s+1) (c),_,⟨Kr,Kr⟩,(a8U (q9 x.th++q9 x.el) (d+1) (s+1) (c) (by simp[q9];omega) hoks (by omega) ⟨by omega,by omega, .inl (by omega)⟩ (by omega)).mono ?_⟩;rintro o O' ⟨s',c',rfl,rfl,hst⟩;refine Kv E7 ?_;repeat'((first|(intro hlq;try simp only[SL] at hlq)|((refine Kh (λhb=>?_) λhb=>?_)<;>try simp only[BL] at hb)|refine K8 ?_)<;>refine Kv E7 ?_)
       . refine⟨J7 s' c', .d (bD false),?_,⟨CntR.bad (hbad ?_)⟩⟩
         . exact Kr
         rw[hfc,hnum',hb];simp
       . obtain⟨hs',hc'⟩:=hst hb;refine⟨⟨(i+1,s',c'),?_,?_,by dsimp only;omega⟩⟩
         . exact Kr
         exact hstep s' c' (by rw[hnum'];exact hb) hdok (by omega) (by rw[hnum'];omega) hs' (by rw[hnum'];exact hc')
   . obtain⟨g1,g2,g3⟩:=hΦ.all (by omega);refine⟨J7 s c, .d (bD true),?_,⟨s,c,by rw[g1],rfl,λ_=>⟨g2,g3⟩⟩⟩;repeat'(first|exact d9|exact rfl|refine d8 ?_ ?_)
 . have hnil:l=[]:=C8 (by omega);subst hnil;refine o4 tok E7 [] (X:=Unit) (λ_=>[(21,iB 0)]) (λ_=>J7 s0 c0) [9,10,11] (λ_=>True) (λ_=>0) () ?_;refine Kv E7 ?_;refine d8 ?_ ⟨trivial,λx _=>?_⟩
   . exact Kr
   refine Kv E7 ?_;refine⟨λh1=>?_,λh1=>?_⟩<;>(try simp only[BL] at h1)<;>refine Kv E7 ?_
   . exact absurd h1 (by simp)
   . refine⟨J7 s0 c0, .d (bD true),?_,⟨s0,c0,rfl,rfl,λ_=>by simp[stF,cdF]⟩⟩;repeat'(first|exact d9|exact rfl|refine d8 ?_ ?_)
termination_by szF l
decreasing_by
 . have h2:=a5i (q7 h1');rw[hf] at h2;have h3:=x.sz_eq;rw[c0F];simp only[Form.sz] at h2;omega
 . have h2:=a5i (q7 h1');rw[hf] at h2;have h3:=x.sz_eq;simp only[Form.sz] at h2;have h4:szF [Form.ofC x.cond]=1+x.cond.sz:=by simp[szF,Form.sz]
   rw[h4];omega
 . have h2:=a5i (q7 h1');rw[hf] at h2;have h3:=x.sz_eq;rw[b4p,a5g,a5g];simp only[Form.sz] at h2;omega
 . have h2:=a5i (q7 h1');rw[hf] at h2;have h3:=x.sz_eq;rw[b4p,a5g,a5g];simp only[Form.sz] at h2;omega
abbrev a9x:Cfg:={nm:=[(5,1000)],rs:=[8]}
theorem b6n (l:List Form)(hl:l.length<=1048576*2)(hok:∀f∈l,f.ok):Mt 63 [.sl (l.map Form.cells)] λd=>d=iD (if C2 l 0 0 0 then(if l≠[]/\l.all Form.valid then 0 else 71) else 2):=by
 have hinv:=b2O (l:=l) λf hf=>b1g f (hok f hf);refine En a9x Tryz.func63 Tryz.ntmps63 λ_ _ _ _ _=>?_;refine Kv a9x ?_;refine⟨J7 0 0,_,⟨Kr,Kr⟩,(a8U l 0 0 0 hl hok (by omega) (by omega) (by omega)).mono ?_⟩;rintro o O' ⟨s',c',rfl,rfl,hst⟩;refine Kv a9x ?_;repeat'((first|(intro hlq;try simp only[SL] at hlq)|refine Meets.k (hinv) ?_|((refine Kh (λhb=>?_) λhb=>?_)<;>try simp only[BL] at hb)|refine K8 ?_)<;>refine Kv a9x ?_)
 all_goals clear hinv hst
 all_goals refine⟨d6 iD ?_⟩
 all_goals simp_all
 all_goals (intro h;simp[h] at *)
theorem c1D (c:Cond)(hok:c.ok):Mt 15 [c.d] λd=>d=iD (if c.total<=256/\c.deep<=16 then(if c.valid then 0 else 71) else 2):=by
 refine En {} Tryz.func15 Tryz.ntmps15 λ_ _ _ _ _=>?_;refine Kw ?_;refine Meets.k (b6n [.ofC c] (by simp) (by simpa using (show(Form.ofC c).ok from hok))) ?_;refine Kw ?_;refine⟨d6 iD ?_⟩;have:C2 [.ofC c] 0 0 0=decide (c.total<=256/\c.deep<=16):=by
  rw[G8];simp only[C2,C0,f0,j0,List.cons_ne_nil,false_or];simp only[stF,cdF,dpF,okF,Form.nst,Form.ncd,Form.deep,Form.dok,U3];constructor
  . rintro⟨⟨a,_⟩,b,e⟩;exact⟨by omega,by omega⟩
  . rintro⟨a,b⟩;exact⟨⟨by omega,trivial⟩,by omega,by omega⟩
 rw[this];simp[Form.valid]
theorem c2J (l:List Step)(hl:l.length<=1048576)(hok:∀s∈l,s.ok):Mt 21 [.sl (l.map Step.cells)] λd=>d=iD (if C2 (q9 l) 0 0 0 then(if l≠[]/\l.all Step.valid then 0 else 71) else 2):=by
 refine En {} Tryz.func21 Tryz.ntmps21 λ_ _ _ _ _=>?_;refine Kw ?_;refine Meets.k (c0w l hl) ?_;refine Kw ?_;refine Meets.k (b6n (q9 l) (by simp[q9];omega) (a8o hok)) ?_;refine Kw ?_;refine⟨d6 iD ?_⟩;rw[b1O];simp[q9]
theorem d5B (c:Cond):Mt 142 [c.d] λd=>d=bD c.isZero:=by
 refine En {} Tryz.func142 Tryz.ntmps142 λ_ _ _ _ _=>?_;refine Kw ?_;repeat'((first|(intro hlq;try simp only[SL] at hlq)|((refine Kh (λhb=>?_) λhb=>?_)<;>try simp only[BL] at hb)|refine K8 ?_)<;>refine Kw ?_)
 all_goals refine⟨d6 bD ?_⟩
 all_goals simp_all [Cond.isZero]
theorem a9r {α:Type}{p:α->Bool}{xs:List α}{x:α}(hx:x∈xs)(h:p x=false):xs.all p=false:=by
 rw[List.all_eq_false];exact⟨x,hx,by rw[h];simp⟩
theorem b1P {α:Type}{p:α->Bool}{xs:List α}{i:Nat}(hi:¬i<xs.length)(h:∀x∈xs.take i,p x=true):xs.all p=true:=by
 rw[y6 (by omega)] at h;exact n7.2 h
end Go.Proofs.YteillnfhkeebjaaGreatDoor.Dx
