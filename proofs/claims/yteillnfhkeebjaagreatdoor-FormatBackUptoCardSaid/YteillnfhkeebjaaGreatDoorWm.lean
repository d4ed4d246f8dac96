/- typing. -/
import Derived.Test.YteillnfhkeebjaaGreatDoorWl
set_option linter.all false
namespace Go.Proofs.YteillnfhkeebjaaGreatDoor.Dx
open Go Go.RowKit
set_option maxRecDepth 100000
set_option maxHeartbeats 4000000
theorem J4 (lo hi:Int)(ns:List Int):Mt 95 [iD lo,iD hi, .sl (ns.map a0D)] λd=>d=bD (ns.all (inR lo hi)):=by
 refine En {} Tryz.func95 Tryz.ntmps95 λ_ _ _ _ _=>?_;refine Kw ?_;refine(c4w ns 168 [] [.ptr [iD lo] 0, .ptr [iD hi] 0] (λn=> !inR lo hi n) λn _=>?_).mono λd hd=>?_
 . refine En {} Tryz.func168 Tryz.ntmps168 λ_ _ _ _ _=>?_;refine Kw ?_;refine⟨λh=>?_,λh=>?_⟩<;>(try simp only[BL] at h)<;>refine Kw ?_
   . refine⟨d6 bD ?_⟩;unfold inR;by_cases a:lo<=n<;>by_cases b:n<=hi<;>simp[a,b]<;>omega
   . refine⟨d6 bD ?_⟩;unfold inR;by_cases a:lo<=n<;>by_cases b:n<=hi<;>simp[a,b]<;>omega
 subst hd;refine Kw ?_;refine⟨?_⟩;rw[<-a1B,a2j]
theorem b3f {α β:Type}(f:α->β){xs:List α}{i:Nat}(h:i<xs.length):(xs.take i).map f++[f xs[i]]=(xs.take (i+1)).map f:=by
 rw[L1 h,D3];rfl
theorem c4o (cs:List Cond)(hn:cs.length<=1048576):Mt 276 [.sl (cs.map Cond.cells)] λd=>d= .sl ((L6 cs).map Form.cells):=by
 refine En {} Tryz.func276 Tryz.ntmps276 λ_ _ _ _ _=>?_;refine Kw ?_;repeat'((first|(intro hlq;try simp only[SL] at hlq)|refine K8 ?_)<;>refine Kw ?_)
 refine o4 tok {} [(.inl 2,2,227,1)] (X:=Nat×List (List D)) (λx=>[(7,iB x.1),(2, .own 2)]) (λx=>[(2, .sl ⟨227,1,x.2,true⟩)]) [] (λx=>x.1<=cs.length/\x.2=(cs.take x.1).map λc=>Form.cells (.ofC c)) (λx=>cs.length-x.1) (0,[]) ?_;refine Kw ?_;refine⟨by simp,?_⟩;refine Kw ?_;refine d8 ?_ ⟨⟨by omega,by simp⟩,λx hΦ=>?_⟩
 . exact Kr
 obtain⟨i,xs⟩:=x;obtain⟨hi,hx⟩:=hΦ;dsimp only at hi hx;refine Kw ?_;refine⟨λh1=>?_,λh1=>?_⟩<;>(try simp only[BL] at h1)<;>refine Kw ?_
 . have h1':i<cs.length:=by omega
   repeat'((first|(intro hlq;try simp only[SL] at hlq)|refine K8 ?_)<;>refine Kw ?_)
   refine⟨by simp,?_⟩;refine Kw ?_;refine⟨λh1 h2=>?_,?_⟩
   . have:xs.length=i:=by rw[hx];simp;omega
     simp only[maxLen,List.length_singleton] at *;omega
   refine Kw ?_;repeat'((first|(intro hlq;try simp only[SL] at hlq)|refine K8 ?_)<;>refine Kw ?_)
   refine⟨⟨(i+1,xs++[Form.cells (.ofC cs[i])]),?_,⟨by dsimp only;omega,by dsimp only;rw[hx];exact b3f (λc=>Form.cells (.ofC c)) h1'⟩,by dsimp only;omega⟩⟩;repeat'(first|exact d9|exact rfl|refine d8 ?_ ?_)
 . skip
   refine⟨?_⟩;have:cs.take i=cs:=y6 (by omega);rw[this] at hx;rw[hx,L6,L0];rfl
theorem c0y (cs:List Step)(hn:cs.length<=1048576):MeetsO Tryz.prog 71 [.sl (cs.map Step.cells)] 227 1 λxs=>xs=(q9 cs).map Form.cells:=by
 refine MeetsO.of 2 ?_;refine EnR {} Tryz.func71 Tryz.ntmps71 λ_ _ _ _ _=>?_;refine Kw ?_;repeat'((first|(intro hlq;try simp only[SL] at hlq)|refine K8 ?_)<;>refine Kw ?_)
 refine o4 tok {} [(.inl 2,2,227,1)] (X:=Nat×List (List D)) (λx=>[(7,iB x.1),(2, .own 2)]) (λx=>[(2, .sl ⟨227,1,x.2,true⟩)]) [] (λx=>x.1<=cs.length/\x.2=(cs.take x.1).map λc=>Form.cells (.ofS c)) (λx=>cs.length-x.1) (0,[]) ?_;refine Kw ?_;refine⟨by simp,?_⟩;refine Kw ?_;refine d8 ?_ ⟨⟨by omega,by simp⟩,λx hΦ=>?_⟩
 . exact Kr
 obtain⟨i,xs⟩:=x;obtain⟨hi,hx⟩:=hΦ;dsimp only at hi hx;refine Kw ?_;refine⟨λh1=>?_,λh1=>?_⟩<;>(try simp only[BL] at h1)<;>refine Kw ?_
 . have h1':i<cs.length:=by omega
   repeat'((first|(intro hlq;try simp only[SL] at hlq)|refine Ka ?_|refine Kb ?_|refine Kc (hd:=rfl) (e:=?_)|refine Kc (hd:=Step.cells_eq _) (e:=?_)|refine Kd (e:=?_)|refine Kl rfl ?_|fail)<;>refine Kw ?_)
   refine⟨by simp,?_⟩;refine Kw ?_;refine⟨λh1 h2=>?_,?_⟩
   . have:xs.length=i:=by rw[hx];simp;omega
     simp only[maxLen,List.length_singleton] at *;omega
   refine Kw ?_;repeat'((first|(intro hlq;try simp only[SL] at hlq)|refine K8 ?_)<;>refine Kw ?_)
   refine⟨⟨(i+1,xs++[Form.cells (.ofS cs[i])]),?_,⟨by dsimp only;omega,by dsimp only;rw[hx];exact b3f (λc=>Form.cells (.ofS c)) h1'⟩,by dsimp only;omega⟩⟩;repeat'(first|exact d9|exact rfl|refine d8 ?_ ?_)
 . refine⟨[(2, .sl ⟨227,1,xs,true⟩)], .own 2,?_,⟨?_⟩⟩
   . exact Kr
   have:cs.take i=cs:=y6 (by omega);rw[this] at hx;exact⟨_,rfl,rfl,by rw[hx,q9,L0];rfl⟩
theorem b8e (c:Cond):Mt 202 [c.d] λd=>d=bD c.isZero:=by
 refine En {} Tryz.func202 Tryz.ntmps202 λ_ _ _ _ _=>?_;refine Kw ?_;repeat'((first|(intro hlq;try simp only[SL] at hlq)|((refine Kh (λhb=>?_) λhb=>?_)<;>try simp only[BL] at hb)|refine K8 ?_)<;>refine Kw ?_)
 all_goals refine⟨d6 bD ?_⟩
 all_goals simp_all [Cond.isZero]
theorem b9p (c:Cond)(hn:c.parts.length<=1048576):Mt 251 [c.d] λd=>d= .sl ((L6 c.parts).map Form.cells):=by
 refine En {} Tryz.func251 Tryz.ntmps251 λ_ _ _ _ _=>?_;refine Kw ?_;refine(c4o c.parts hn).mono λd hd=>?_;subst hd;refine Kw ?_;exact⟨rfl⟩
theorem c0w (cs:List Step)(hn:cs.length<=1048576):Mt 71 [.sl (cs.map Step.cells)] λd=>d= .sl ((q9 cs).map Form.cells):=
 (c0y cs hn).data.mono λd ⟨xs,h1,h2⟩=>by rw[h1,h2]
theorem b3t (s:Step)(hn:s.th.length<=1048576/\s.el.length<=1048576):Mt 252 [s.d] λd=>d= .sl ((q9 s.th++q9 s.el).map Form.cells):=by
 refine En {rs:=[6]} Tryz.func252 Tryz.ntmps252 λ_ _ _ _ _=>?_;refine Kv {rs:=[6]} ?_;refine Dr {rs:=[6]} [.p 0, .p 1, .p 2, .p 4, .p 5, .p 6, .s 3 [2,1,0], .s 7 [6,5,4], .s 8 [], .p 9] ?_;refine Kv {rs:=[6]} ?_;refine⟨[],_,⟨?_,trivial⟩,((c0y s.th hn.1).own 6).mono ?_⟩
 . exact Kr
 rintro o O' ⟨xs,rfl,rfl,rfl⟩;refine Kv {rs:=[6]} ?_;repeat'((first|(intro hlq;try simp only[SL] at hlq)|refine K8 ?_)<;>refine Kv {rs:=[6]} ?_)
 refine(c0w s.el hn.2).mono λd hd=>?_;subst hd;refine Kv {rs:=[6]} ?_;refine⟨λds hds=>by obtain⟨f,_,rfl⟩:=v6.1 hds;rfl,?_⟩;refine Kv {rs:=[6]} ?_;refine⟨λ_ _=>by simp[q9];omega,?_⟩;refine Kv {rs:=[6]} ?_;repeat'((first|(intro hlq;try simp only[SL] at hlq)|refine K8 ?_)<;>refine Kv {rs:=[6]} ?_)
 refine⟨?_⟩;rw[D3]
theorem c8Z : a9i Tryz.prog 137 "stopwatch/typing.parts" 251 := λ W x => by kernel_rfl
theorem b8N : a9i Tryz.prog 233 "stopwatch/typing.parts" 252 := λ W x => by kernel_rfl
theorem c7w {f:Form}(h:Mt 204 [f.d] λd=>d=bD f.valid):Mt 148 [f.d] λd=>d=bD (!f.valid):=by
 refine En {} Tryz.func148 Tryz.ntmps148 λ_ _ _ _ _=>?_;refine Kw ?_;refine h.mono λd hd=>?_;subst hd;refine Kw ?_;exact⟨rfl⟩
theorem c3s {l:List Form}:(l.any λf=> !f.valid)= !l.all Form.valid:=by rw[a1B]
theorem b2O {l:List Form}(hv:∀f∈l,Mt 204 [f.d] λd=>d=bD f.valid):Mt 147 [.sl (l.map Form.cells), .fn 148 [] []] λd=>d=bD (!l.all Form.valid):=by
 rw[<-c3s];exact c4t l 148 [] [] (λf=> !f.valid) λf hf=>c7w (hv f hf)
theorem d4x (c:Cond)(hok:c.ok)(hv:∀f∈L6 c.parts,Mt 204 [f.d] λd=>d=bD f.valid):Mt 204 [(Form.ofC c).d] λd=>d=bD (Form.ofC c).valid:=by
 have hl:=(Cond.ok_iff.1 hok).1;have hinv:=b2O hv;refine En {} Tryz.func204 Tryz.ntmps204 λ_ _ _ _ _=>?_;refine Kw ?_;repeat'((first|(intro hlq;try simp only[SL] at hlq)|refine Meets.k (J4 _ _ [_]) ?_|refine Meets.k (b9p c hl) ?_|refine Meets.k (hinv) ?_|((refine Kh (λhb=>?_) λhb=>?_)<;>try simp only[BL] at hb)|refine K8 ?_)<;>refine Kw ?_)
 all_goals clear hinv hv hok
 all_goals refine⟨d6 bD ?_⟩
 all_goals rw[show(Form.ofC c).valid=c.valid from rfl,Cond.valid_eq]
 all_goals try rw[c3l]
 all_goals simp_all
 all_goals omega
theorem d4y (s:Step)(hok:s.ok)(hc:Mt 204 [(Form.ofC s.cond).d] λd=>d=bD (Form.ofC s.cond).valid)(hv:∀f∈q9 s.th++q9 s.el,Mt 204 [f.d] λd=>d=bD f.valid):Mt 204 [(Form.ofS s).d] λd=>d=bD (Form.ofS s).valid:=by
 have ho:=Step.ok_iff.1 hok;have hinv:=b2O hv;refine En {} Tryz.func204 Tryz.ntmps204 λ_ _ _ _ _=>?_;refine Kw ?_;repeat'((first|(intro hlq;try simp only[SL] at hlq)|refine Meets.k (J4 _ _ [_]) ?_|refine Meets.k (b8e s.cond) ?_|refine Meets.k (b3t s ⟨ho.2.1.1,ho.2.2.1⟩) ?_|refine Meets.k (hinv) ?_|refine Meets.k (hc) ?_|((refine Kh (λhb=>?_) λhb=>?_)<;>try simp only[BL] at hb)|refine K8 ?_)<;>refine Kw ?_)
 all_goals clear hinv hv hok ho hc
 all_goals refine⟨d6 bD ?_⟩
 all_goals rw[show(Form.ofS s).valid=s.valid from rfl,Step.valid_eq]
 all_goals try rw[List.all_append,b1O,b1O]
 all_goals simp_all [q9,Form.valid]
 all_goals first|omega|(rw[G8];simp only[j0,f0,<-List.length_eq_zero_iff];omega)
theorem b1g (f:Form)(hok:f.ok):Mt 204 [f.d] λd=>d=bD f.valid:=by
 cases hf:f with
 | ofC c=>
   have hc:c.ok:=by rw[hf] at hok;exact hok
   refine d4x c hc λg hg=>b1g g (b9l (Cond.ok_iff.1 hc).2 g hg)
 | ofS s=>
   have hs:s.ok:=by rw[hf] at hok;exact hok
   have ho:=Step.ok_iff.1 hs;refine d4y s hs (b1g (.ofC s.cond) ho.1) λg hg=>b1g g ?_;rcases A8.1 hg with h|h
   . exact a8o ho.2.1.2 g h
   . exact a8o ho.2.2.2 g h
termination_by f.sz
decreasing_by
 . rw[hf];have:=a5i hg;rw[c0F] at this;have h2:=c.sz_eq;simp only[Form.sz] at *;omega
 . rw[hf];have h2:=s.sz_eq;simp only[Form.sz] at *;omega
 . rw[hf];have:=a5i hg;rw[b4p,a5g,a5g] at this;have h2:=s.sz_eq;simp only[Form.sz] at *;omega
mutual
def Cond.total:Cond->Nat
 |⟨_,_,_,ps⟩=>1+Cond.totalL ps
def Cond.totalL:List Cond->Nat
 |[]=>0
 |c::cs=>c.total+Cond.totalL cs
end
mutual
def Cond.deep:Cond->Nat
 |⟨_,_,_,ps⟩=>Cond.deepL ps
def Cond.deepL:List Cond->Nat
 |[]=>0
 |c::cs=>max (1+c.deep) (Cond.deepL cs)
end
def Cond.num (c:Cond):Nat:=if c.isZero then 0 else c.total
def Cond.dok (c:Cond):Bool:=c.isZero||decide (c.deep<=16)
mutual
def Step.nst:Step->Nat
 |⟨_,_,_,t,e⟩=>1+(Step.nstL t+Step.nstL e)
def Step.nstL:List Step->Nat
 |[]=>0
 |c::cs=>c.nst+Step.nstL cs
end
mutual
def Step.ncd:Step->Nat
 |⟨_,_,c,t,e⟩=>c.num+(Step.ncdL t+Step.ncdL e)
def Step.ncdL:List Step->Nat
 |[]=>0
 |c::cs=>c.ncd+Step.ncdL cs
end
mutual
def Step.deep:Step->Nat
 |⟨_,_,_,t,e⟩=>max (Step.deepL t) (Step.deepL e)
def Step.deepL:List Step->Nat
 |[]=>0
 |c::cs=>max (1+c.deep) (Step.deepL cs)
end
mutual
def Step.dok:Step->Bool
 |⟨_,_,c,t,e⟩=>c.dok&&(Step.dokL t&&Step.dokL e)
def Step.dokL:List Step->Bool
 |[]=>true
 |c::cs=>c.dok&&Step.dokL cs
end
theorem Cond.total_eq (c:Cond):c.total=1+Cond.totalL c.parts:=by obtain⟨k,v,n,ps⟩:=c;rfl
theorem Cond.deep_eq (c:Cond):c.deep=Cond.deepL c.parts:=by obtain⟨k,v,n,ps⟩:=c;rfl
theorem Step.nst_eq (s:Step):s.nst=1+(Step.nstL s.th+Step.nstL s.el):=by obtain⟨k,b,c,t,e⟩:=s;rfl
theorem Step.ncd_eq (s:Step):s.ncd=s.cond.num+(Step.ncdL s.th+Step.ncdL s.el):=by obtain⟨k,b,c,t,e⟩:=s;rfl
theorem Step.deep_eq (s:Step):s.deep=max (Step.deepL s.th) (Step.deepL s.el):=by obtain⟨k,b,c,t,e⟩:=s;rfl
theorem Step.dok_eq (s:Step):s.dok=(s.cond.dok&&(Step.dokL s.th&&Step.dokL s.el)):=by obtain⟨k,b,c,t,e⟩:=s;rfl
def Form.nst:Form->Nat| .ofC _=>0| .ofS s=>s.nst
def Form.ncd:Form->Nat| .ofC c=>c.total| .ofS s=>s.ncd
def Form.deep:Form->Nat| .ofC c=>c.deep| .ofS s=>s.deep
def Form.dok:Form->Bool| .ofC _=>true| .ofS s=>s.dok
def stF:List Form->Nat|[]=>0|f::l=>f.nst+stF l
def cdF:List Form->Nat|[]=>0|f::l=>f.ncd+cdF l
def dpF:List Form->Nat|[]=>0|f::l=>max (1+f.deep) (dpF l)
def okF:List Form->Bool|[]=>true|f::l=>f.dok&&okF l
theorem a5e (a b:List Form):stF (a++b)=stF a+stF b:=by induction a with|nil=>simp[stF]|cons x a ih=>simp[stF,ih];omega
theorem a5P (a b:List Form):cdF (a++b)=cdF a+cdF b:=by induction a with|nil=>simp[cdF]|cons x a ih=>simp[cdF,ih];omega
theorem a7J (a b:List Form):dpF (a++b)=max (dpF a) (dpF b):=by induction a with|nil=>simp[dpF]|cons x a ih=>(simp[dpF,ih];try omega)
theorem a8n (a b:List Form):okF (a++b)=(okF a&&okF b):=by induction a with|nil=>simp[okF]|cons x a ih=>simp[okF,ih,Bool.and_assoc]
theorem F_C (cs:List Cond):stF (L6 cs)=0/\cdF (L6 cs)=Cond.totalL cs/\dpF (L6 cs)=Cond.deepL cs/\okF (L6 cs)=true:=by
 induction cs with
 |nil=>simp[L6,stF,cdF,dpF,okF,Cond.totalL,Cond.deepL]
 | cons c cs ih=>
   simp only[L6,o5,stF,cdF,dpF,okF,Cond.totalL,Cond.deepL,Form.nst,Form.ncd,Form.deep,Form.dok] at ih⊢;obtain⟨h1,h2,h3,h4⟩:=ih;exact⟨by omega,by omega,by omega,by simp[h4]⟩
theorem F_S (cs:List Step):stF (q9 cs)=Step.nstL cs/\cdF (q9 cs)=Step.ncdL cs/\dpF (q9 cs)=Step.deepL cs/\okF (q9 cs)=Step.dokL cs:=by
 induction cs with
 |nil=>simp[q9,stF,cdF,dpF,okF,Step.nstL,Step.ncdL,Step.deepL,Step.dokL]
 | cons c cs ih=>
   simp only[q9,o5,stF,cdF,dpF,okF,Step.nstL,Step.ncdL,Step.deepL,Step.dokL,Form.nst,Form.ncd,Form.deep,Form.dok] at ih⊢;obtain⟨h1,h2,h3,h4⟩:=ih;exact⟨by omega,by omega,by omega,by rw[h4]⟩
theorem b2l {l:List Form}(h:l≠[]):1<=dpF l:=by cases l with|nil=>exact absurd rfl h|cons x l=>simp only[dpF];omega
def C2 (l:List Form)(d s c:Int):Bool:=decide (l=[])||(decide (d+dpF l<=17)&&okF l&&(decide (s+stF l<=64)&&decide (c+cdF l<=256)))
structure Cnt (l:List Form) (d s0 c0:Int) (i:Nat) (s c:Int):Prop where
 le:i<=l.length
 st:s=s0+stF (l.take i)
 cd:c=c0+cdF (l.take i)
 fit:i=0\/(d+dpF (l.take i)<=17/\okF (l.take i)=true/\s<=64/\c<=256)
theorem c0r {l:List Form}{i:Nat}(h:i<l.length):l=l.take i++(l[i]::l.drop (i+1)):=by
 conv=>lhs;rw[<-a7k i l,F2 h]
theorem Cnt.next {l:List Form}{d s0 c0:Int}{i:Nat}{s c:Int}(h:Cnt l d s0 c0 i s c)(hi:i<l.length)(hd:d<=16)(h1:d+(1+l[i].deep:Nat)<=17)(h2:l[i].dok=true)(h3:s+l[i].nst<=64)(h4:c+l[i].ncd<=256):
 Cnt l d s0 c0 (i+1) (s+l[i].nst) (c+l[i].ncd):=by
 have ht:l.take (i+1)=l.take i++[l[i]]:=L1 hi;obtain⟨a,b,e,f⟩:=h;refine⟨by omega,by rw[ht,a5e,b];simp[stF];omega,by rw[ht,a5P,e];simp[cdF];omega, .inr ⟨?_,?_,h3,h4⟩⟩
 . rw[ht,a7J];rcases f with rfl|⟨f,_⟩
   . simp[dpF];omega
   . simp only[dpF];omega
 . rw[ht,a8n];rcases f with rfl|⟨_,f,_⟩
   . simp[okF,h2]
   . simp[okF,h2,f]
theorem Cnt.bad {l:List Form}{d s0 c0:Int}{i:Nat}{s c:Int}(h:Cnt l d s0 c0 i s c)(hi:i<l.length)(hb:C2 [l[i]] d s c=false):C2 l d s0 c0=false:=by
 have hs:=c0r hi;obtain⟨a,b,e,f⟩:=h;have hne:l≠[]:=by intro e;subst e;simp at hi
 have h1:stF l=stF (l.take i)+(l[i].nst+stF (l.drop (i+1))):=(d6 stF hs).trans (a5e _ _);have h2:cdF l=cdF (l.take i)+(l[i].ncd+cdF (l.drop (i+1))):=(d6 cdF hs).trans (a5P _ _);have h3:dpF l=max (dpF (l.take i)) (max (1+l[i].deep) (dpF (l.drop (i+1)))):=(d6 dpF hs).trans (a7J _ _);have h4:okF l=(okF (l.take i)&&(l[i].dok&&okF (l.drop (i+1)))):=(d6 okF hs).trans (a8n _ _);cases hf:C2 l d s0 c0 with
 |false=>rfl
 | true=>
   simp only[C2,C0,j0,f0,hne,false_or] at hf;obtain⟨⟨g1,g2⟩,g3,g4⟩:=hf;rw[h4] at g2;simp only[f0] at g2;have:C2 [l[i]] d s c=true:=by
    simp only[C2,C0,f0,j0];simp only[stF,cdF,dpF,okF];refine .inr ⟨⟨?_,?_⟩,?_,?_⟩
    . omega
    . simp[g2.2.1]
    . omega
    . omega
   rw[this] at hb;cases hb
theorem Cnt.all {l:List Form}{d s0 c0:Int}{i:Nat}{s c:Int}(h:Cnt l d s0 c0 i s c)(hi:¬i<l.length):C2 l d s0 c0=true/\s=s0+stF l/\c=c0+cdF l:=by
 obtain⟨a,b,e,f⟩:=h;have ht:l.take i=l:=y6 (by omega);rw[ht] at b e f;refine⟨?_,b,e⟩;rcases f with rfl|⟨f1,f2,f3,f4⟩
 . have:l=[]:=C8 (by omega);simp[C2,this]
 . simp only[C2,C0,f0,j0];exact .inr ⟨⟨f1,f2⟩,by omega,by omega⟩
theorem c6x {c:Cond}{d s n:Int}(hd:d<=16):C2 [.ofC c] d s n=(decide (s<=64)&&decide (n+1<=256)&&C2 (L6 c.parts) (d+1) s (n+1)):=by
 obtain⟨h1,h2,h3,h4⟩:=F_C c.parts;have hp:L6 c.parts≠[]->1<=dpF (L6 c.parts):=b2l;rw[h3] at hp;rw[G8];simp only[C2,C0,f0,j0];simp only[stF,cdF,dpF,okF,Form.nst,Form.ncd,Form.deep,Form.dok,c.total_eq,c.deep_eq,h1,h2,h3,h4,C0,f0,j0,List.cons_ne_nil,false_or,and_true];by_cases he:L6 c.parts=[]
 . rw[he] at h2 h3;simp only[cdF,dpF] at h2 h3;simp only[he,true_or,and_true];omega
 . have hp:=hp he;simp only[he,false_or];omega
theorem c6y {x:Step}{d s n:Int}(hd:d<=16):C2 [.ofS x] d s n=((x.cond.isZero||C2 [.ofC x.cond] 0 (s+1) n)&&(decide (s+1<=64)&&decide (n+x.cond.num<=256)&&C2 (q9 x.th++q9 x.el) (d+1) (s+1) (n+x.cond.num))):=by
 obtain⟨h1,h2,h3,h4⟩:=F_S x.th;obtain⟨k1,k2,k3,k4⟩:=F_S x.el;have hp:q9 x.th++q9 x.el≠[]->1<=dpF (q9 x.th++q9 x.el):=b2l;have e1:=a5e (q9 x.th) (q9 x.el);have e2:=a5P (q9 x.th) (q9 x.el);have e3:=a7J (q9 x.th) (q9 x.el);have e4:=a8n (q9 x.th) (q9 x.el);rw[h1,k1] at e1;rw[h2,k2] at e2;rw[h3,k3] at e3;rw[h4,k4] at e4;rw[e3] at hp;rw[G8];simp only[C2,C0,f0,j0];simp only[stF,cdF,dpF,okF,Form.nst,Form.ncd,Form.deep,Form.dok,x.nst_eq,x.ncd_eq,x.deep_eq,x.dok_eq,e1,e2,e3,e4,Cond.dok,Cond.num,C0,f0,j0,List.cons_ne_nil,false_or,and_true];by_cases hz:x.cond.isZero=true
 . simp only[hz,true_or,true_and,if_true];by_cases he:q9 x.th++q9 x.el=[]
   . rw[he] at e1 e2 e3 e4;simp only[stF,cdF,dpF,okF] at e1 e2 e3 e4;have e4':=e4.symm;simp only[f0] at e4';simp only[he,true_or,and_true,e4'];omega
   . have hp:=hp he;simp only[he,false_or];constructor
     . rintro⟨⟨a,b⟩,c,e⟩;exact⟨⟨by omega,by omega⟩,⟨by omega,b⟩,by omega,by omega⟩
     . rintro⟨⟨a,b⟩,⟨c,e⟩,f,g⟩;exact⟨⟨by omega,e⟩,by omega,by omega⟩
 . have ht:=x.cond.total_eq;simp only[hz,false_or,if_false,Y8];by_cases he:q9 x.th++q9 x.el=[]
   . rw[he] at e1 e2 e3 e4;simp only[stF,cdF,dpF,okF] at e1 e2 e3 e4;have e4':=e4.symm;simp only[f0] at e4';simp only[he,true_or,and_true,e4'];omega
   . have hp:=hp he;simp only[he,false_or];constructor
     . rintro⟨⟨a,b,b'⟩,c,e⟩;exact⟨⟨by omega,by omega,by omega⟩,⟨by omega,by omega⟩,⟨by omega,b'⟩,by omega,by omega⟩
     . rintro⟨⟨h,h',h''⟩,⟨a,b⟩,⟨c,e⟩,f,g⟩;exact⟨⟨by omega,by omega,e⟩,by omega,by omega⟩
end Go.Proofs.YteillnfhkeebjaaGreatDoor.Dx
