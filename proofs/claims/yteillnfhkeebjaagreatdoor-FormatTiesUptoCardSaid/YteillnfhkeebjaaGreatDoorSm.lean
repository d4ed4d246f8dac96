/- typing: within,conds,steps,parts. -/
import Derived.Test.YteillnfhkeebjaaGreatDoorSl
import Derived.Test.YteillnfhkeebjaaGreatDoorSk
set_option linter.all false
namespace Go.Proofs.YteillnfhkeebjaaGreatDoor.Dx
open Go Go.RowKit
set_option maxRecDepth 100000
set_option maxHeartbeats 4000000
theorem v6 (lo hi:Int)(ns:List Int):Meets Tryz.prog 95 [iD lo,iD hi, .sl (ns.map r7)] λd=>d=bD (ns.all (inR lo hi)):=by
 refine enter tok {} Tryz.func95 rfl (by kernel_rfl) Tryz.ntmps95 (by simp) λB0 W0 V0 lent g0=>?_
 refine Kw ?_
 refine(b6D ns 168 [] [.ptr [iD lo] 0, .ptr [iD hi] 0] (λn=> !inR lo hi n) λn _=>?_).mono λd hd=>?_
 . refine enter tok {} Tryz.func168 rfl (by kernel_rfl) Tryz.ntmps168 (by simp) λB0 W0 V0 lent g0=>?_
   refine Kw ?_
   refine⟨λh=>?_,λh=>?_⟩<;>(try simp only[BL] at h)<;>refine Kw ?_
   . refine⟨congrArg bD ?_⟩
     unfold inR;by_cases a:lo<=n<;>by_cases b:n<=hi<;>simp[a,b]<;>omega
   . refine⟨congrArg bD ?_⟩
     unfold inR;by_cases a:lo<=n<;>by_cases b:n<=hi<;>simp[a,b]<;>omega
 subst hd
 refine Kw ?_
 refine⟨?_⟩
 rw[<-List.not_all_eq_any_not,Bool.not_not]
theorem a6U {α β:Type}(f:α->β){xs:List α}{i:Nat}(h:i<xs.length):(xs.take i).map f++[f xs[i]]=(xs.take (i+1)).map f:=by
 rw[List.take_succ_eq_append_getElem h,List.map_append];rfl
theorem b6w (cs:List Cond)(hn:cs.length<=1048576):Meets Tryz.prog 276 [.sl (cs.map Cond.cells)] λd=>d= .sl ((w9 cs).map Form.cells):=by
 refine enter tok {} Tryz.func276 rfl (by kernel_rfl) Tryz.ntmps276 (by simp) λB0 W0 V0 lent g0=>?_
 refine Kw ?_
 repeat'((first|(intro hlq;try simp only[SL] at hlq)|refine K8 ?_)<;>refine Kw ?_)
 refine d4 tok {} [(.inl 2,2,227,1)] (X:=Nat×List (List D)) (λx=>[(7,iB x.1),(2, .own 2)]) (λx=>[(2, .sl ⟨227,1,x.2,true⟩)]) [] (λx=>x.1<=cs.length/\x.2=(cs.take x.1).map λc=>Form.cells (.ofC c)) (λx=>cs.length-x.1) (0,[]) ?_
 refine Kw ?_
 refine⟨by simp,?_⟩
 refine Kw ?_
 refine And.intro ?_ ⟨⟨by omega,by simp⟩,λx hΦ=>?_⟩
 . exact Kr
 obtain⟨i,xs⟩:=x
 obtain⟨hi,hx⟩:=hΦ
 dsimp only at hi hx
 refine Kw ?_
 refine⟨λh1=>?_,λh1=>?_⟩<;>(try simp only[BL] at h1)<;>refine Kw ?_
 . have h1':i<cs.length:=by omega
   repeat'((first|(intro hlq;try simp only[SL] at hlq)|refine K8 ?_)<;>refine Kw ?_)
   refine⟨by simp,?_⟩
   refine Kw ?_
   refine⟨λh1 h2=>?_,?_⟩
   . have:xs.length=i:=by rw[hx];simp;omega
     simp only[maxLen,List.length_singleton] at *
     omega
   refine Kw ?_
   repeat'((first|(intro hlq;try simp only[SL] at hlq)|refine K8 ?_)<;>refine Kw ?_)
   refine⟨⟨(i+1,xs++[Form.cells (.ofC cs[i])]),?_,⟨by dsimp only;omega,by dsimp only;rw[hx];exact a6U (λc=>Form.cells (.ofC c)) h1'⟩,by dsimp only;omega⟩⟩
   repeat'(first|exact True.intro|exact rfl|refine And.intro ?_ ?_)
 . skip
   refine⟨?_⟩
   have:cs.take i=cs:=List.take_of_length_le (by omega)
   rw[this] at hx
   rw[hx,w9,List.map_map];rfl
theorem b3w (cs:List Step)(hn:cs.length<=1048576):MeetsO Tryz.prog 71 [.sl (cs.map Step.cells)] 227 1 λxs=>xs=(e9 cs).map Form.cells:=by
 refine MeetsO.of 2 ?_
 refine m9 tok {} Tryz.func71 rfl (by kernel_rfl) Tryz.ntmps71 (by simp) λB0 W0 V0 lent g0=>?_
 refine Kw ?_
 repeat'((first|(intro hlq;try simp only[SL] at hlq)|refine K8 ?_)<;>refine Kw ?_)
 refine d4 tok {} [(.inl 2,2,227,1)] (X:=Nat×List (List D)) (λx=>[(7,iB x.1),(2, .own 2)]) (λx=>[(2, .sl ⟨227,1,x.2,true⟩)]) [] (λx=>x.1<=cs.length/\x.2=(cs.take x.1).map λc=>Form.cells (.ofS c)) (λx=>cs.length-x.1) (0,[]) ?_
 refine Kw ?_
 refine⟨by simp,?_⟩
 refine Kw ?_
 refine And.intro ?_ ⟨⟨by omega,by simp⟩,λx hΦ=>?_⟩
 . exact Kr
 obtain⟨i,xs⟩:=x
 obtain⟨hi,hx⟩:=hΦ
 dsimp only at hi hx
 refine Kw ?_
 refine⟨λh1=>?_,λh1=>?_⟩<;>(try simp only[BL] at h1)<;>refine Kw ?_
 . have h1':i<cs.length:=by omega
   repeat'((first|(intro hlq;try simp only[SL] at hlq)|refine Ka ?_|refine Kb ?_|refine Kc (hd:=rfl) (e:=?_)|refine Kc (hd:=Step.cells_eq _) (e:=?_)|refine Kd (e:=?_)|refine Kl rfl ?_|fail)<;>refine Kw ?_)
   refine⟨by simp,?_⟩
   refine Kw ?_
   refine⟨λh1 h2=>?_,?_⟩
   . have:xs.length=i:=by rw[hx];simp;omega
     simp only[maxLen,List.length_singleton] at *
     omega
   refine Kw ?_
   repeat'((first|(intro hlq;try simp only[SL] at hlq)|refine K8 ?_)<;>refine Kw ?_)
   refine⟨⟨(i+1,xs++[Form.cells (.ofS cs[i])]),?_,⟨by dsimp only;omega,by dsimp only;rw[hx];exact a6U (λc=>Form.cells (.ofS c)) h1'⟩,by dsimp only;omega⟩⟩
   repeat'(first|exact True.intro|exact rfl|refine And.intro ?_ ?_)
 . refine⟨[(2, .sl ⟨227,1,xs,true⟩)], .own 2,?_,⟨?_⟩⟩
   . exact Kr
   have:cs.take i=cs:=List.take_of_length_le (by omega)
   rw[this] at hx
   exact⟨_,rfl,rfl,by rw[hx,e9,List.map_map];rfl⟩
end Go.Proofs.YteillnfhkeebjaaGreatDoor.Dx
/- typing: isZero,parts,valid. -/
namespace Go.Proofs.YteillnfhkeebjaaGreatDoor.Dx
open Go Go.RowKit
set_option maxRecDepth 100000
set_option maxHeartbeats 4000000
theorem b1m (c:Cond):Meets Tryz.prog 202 [c.d] λd=>d=bD c.isZero:=by
 refine enter tok {} Tryz.func202 rfl (by kernel_rfl) Tryz.ntmps202 (by simp) λB0 W0 V0 lent g0=>?_
 refine Kw ?_
 repeat'((first|(intro hlq;try simp only[SL] at hlq)|((refine Kh (λhb=>?_) λhb=>?_)<;>try simp only[BL] at hb)|refine K8 ?_)<;>refine Kw ?_)
 all_goals refine⟨congrArg bD ?_⟩
 all_goals simp_all [Cond.isZero]
theorem b2s (c:Cond)(hn:c.parts.length<=1048576):Meets Tryz.prog 251 [c.d] λd=>d= .sl ((w9 c.parts).map Form.cells):=by
 refine enter tok {} Tryz.func251 rfl (by kernel_rfl) Tryz.ntmps251 (by simp) λB0 W0 V0 lent g0=>?_
 refine Kw ?_
 refine(b6w c.parts hn).mono λd hd=>?_
 subst hd
 refine Kw ?_
 exact⟨rfl⟩
theorem b3t (cs:List Step)(hn:cs.length<=1048576):Meets Tryz.prog 71 [.sl (cs.map Step.cells)] λd=>d= .sl ((e9 cs).map Form.cells):=
 (b3w cs hn).data.mono λd ⟨xs,h1,h2⟩=>by rw[h1,h2]
theorem a7f (s:Step)(hn:s.th.length<=1048576/\s.el.length<=1048576):Meets Tryz.prog 252 [s.d] λd=>d= .sl ((e9 s.th++e9 s.el).map Form.cells):=by
 refine enter tok {rs:=[6]} Tryz.func252 rfl (by kernel_rfl) Tryz.ntmps252 (by simp) λB0 W0 V0 lent g0=>?_
 refine Kv {rs:=[6]} ?_
 refine k9 tok (cf:={rs:=[6]}) (by kernel_rfl) [.p 0, .p 1, .p 2, .p 4, .p 5, .p 6, .s 3 [2,1,0], .s 7 [6,5,4], .s 8 [], .p 9] (by kernel_rfl) ?_
 refine Kv {rs:=[6]} ?_
 refine⟨[],_,⟨?_,trivial⟩,((b3w s.th hn.1).own 6).mono ?_⟩
 . exact Kr
 rintro o O' ⟨xs,rfl,rfl,rfl⟩
 refine Kv {rs:=[6]} ?_
 repeat'((first|(intro hlq;try simp only[SL] at hlq)|refine K8 ?_)<;>refine Kv {rs:=[6]} ?_)
 refine(b3t s.el hn.2).mono λd hd=>?_
 subst hd
 refine Kv {rs:=[6]} ?_
 refine⟨λds hds=>by obtain⟨f,_,rfl⟩:=List.mem_map.1 hds;rfl,?_⟩
 refine Kv {rs:=[6]} ?_
 refine⟨λ_ _=>by simp[e9];omega,?_⟩
 refine Kv {rs:=[6]} ?_
 repeat'((first|(intro hlq;try simp only[SL] at hlq)|refine K8 ?_)<;>refine Kv {rs:=[6]} ?_)
 refine⟨?_⟩
 rw[List.map_append]
theorem c0e : a3e Tryz.prog 137 "stopwatch/typing.parts" 251 := λ W x => by kernel_rfl
theorem b1S : a3e Tryz.prog 233 "stopwatch/typing.parts" 252 := λ W x => by kernel_rfl
theorem b8U {f:Form}(h:Meets Tryz.prog 204 [f.d] λd=>d=bD f.valid):Meets Tryz.prog 148 [f.d] λd=>d=bD (!f.valid):=by
 refine enter tok {} Tryz.func148 rfl (by kernel_rfl) Tryz.ntmps148 (by simp) λB0 W0 V0 lent g0=>?_
 refine Kw ?_
 refine h.mono λd hd=>?_
 subst hd
 refine Kw ?_
 exact⟨rfl⟩
theorem b5C {l:List Form}:(l.any λf=> !f.valid)= !l.all Form.valid:=by rw[List.not_all_eq_any_not]
theorem a6C {l:List Form}(hv:∀f∈l,Meets Tryz.prog 204 [f.d] λd=>d=bD f.valid):Meets Tryz.prog 147 [.sl (l.map Form.cells), .fn 148 [] []] λd=>d=bD (!l.all Form.valid):=by
 rw[<-b5C]
 exact b6B l 148 [] [] (λf=> !f.valid) λf hf=>b8U (hv f hf)
theorem c4i (c:Cond)(hok:c.ok)(hv:∀f∈w9 c.parts,Meets Tryz.prog 204 [f.d] λd=>d=bD f.valid):Meets Tryz.prog 204 [(Form.ofC c).d] λd=>d=bD (Form.ofC c).valid:=by
 have hl:=(Cond.ok_iff.1 hok).1
 have hinv:=a6C hv
 refine enter tok {} Tryz.func204 rfl (by kernel_rfl) Tryz.ntmps204 (by simp) λB0 W0 V0 lent g0=>?_
 refine Kw ?_
 repeat'((first|(intro hlq;try simp only[SL] at hlq)|refine Meets.k (v6 _ _ [_]) ?_|refine Meets.k (b2s c hl) ?_|refine Meets.k (hinv) ?_|((refine Kh (λhb=>?_) λhb=>?_)<;>try simp only[BL] at hb)|refine K8 ?_)<;>refine Kw ?_)
 all_goals clear hinv hv hok
 all_goals refine⟨congrArg bD ?_⟩
 all_goals rw[show(Form.ofC c).valid=c.valid from rfl,Cond.valid_eq]
 all_goals try rw[b5v]
 all_goals simp_all
 all_goals omega
theorem c4j (s:Step)(hok:s.ok)(hc:Meets Tryz.prog 204 [(Form.ofC s.cond).d] λd=>d=bD (Form.ofC s.cond).valid)(hv:∀f∈e9 s.th++e9 s.el,Meets Tryz.prog 204 [f.d] λd=>d=bD f.valid):Meets Tryz.prog 204 [(Form.ofS s).d] λd=>d=bD (Form.ofS s).valid:=by
 have ho:=Step.ok_iff.1 hok
 have hinv:=a6C hv
 refine enter tok {} Tryz.func204 rfl (by kernel_rfl) Tryz.ntmps204 (by simp) λB0 W0 V0 lent g0=>?_
 refine Kw ?_
 repeat'((first|(intro hlq;try simp only[SL] at hlq)|refine Meets.k (v6 _ _ [_]) ?_|refine Meets.k (b1m s.cond) ?_|refine Meets.k (a7f s ⟨ho.2.1.1,ho.2.2.1⟩) ?_|refine Meets.k (hinv) ?_|refine Meets.k (hc) ?_|((refine Kh (λhb=>?_) λhb=>?_)<;>try simp only[BL] at hb)|refine K8 ?_)<;>refine Kw ?_)
 all_goals clear hinv hv hok ho hc
 all_goals refine⟨congrArg bD ?_⟩
 all_goals rw[show(Form.ofS s).valid=s.valid from rfl,Step.valid_eq]
 all_goals try rw[List.all_append,a5x,a5x]
 all_goals simp_all [e9,Form.valid]
 all_goals first|omega|(rw[Bool.eq_iff_iff];simp only[decide_eq_true_eq,Bool.and_eq_true,<-List.length_eq_zero_iff];omega)
theorem a5b (f:Form)(hok:f.ok):Meets Tryz.prog 204 [f.d] λd=>d=bD f.valid:=by
 cases hf:f with
 | ofC c=>
   have hc:c.ok:=by rw[hf] at hok;exact hok
   refine c4i c hc λg hg=>a5b g (b2o (Cond.ok_iff.1 hc).2 g hg)
 | ofS s=>
   have hs:s.ok:=by rw[hf] at hok;exact hok
   have ho:=Step.ok_iff.1 hs
   refine c4j s hs (a5b (.ofC s.cond) ho.1) λg hg=>a5b g ?_
   rcases List.mem_append.1 hg with h|h
   . exact a2w ho.2.1.2 g h
   . exact a2w ho.2.2.2 g h
termination_by f.sz
decreasing_by
 . rw[hf]
   have:=Z9 hg
   rw[b3C] at this
   have h2:=c.sz_eq
   simp only[Form.sz] at *
   omega
 . rw[hf]
   have h2:=s.sz_eq
   simp only[Form.sz] at *
   omega
 . rw[hf]
   have:=Z9 hg
   rw[a7X,Z8,Z8] at this
   have h2:=s.sz_eq
   simp only[Form.sz] at *
   omega
end Go.Proofs.YteillnfhkeebjaaGreatDoor.Dx
/- typing: counting forms. -/
namespace Go.Proofs.YteillnfhkeebjaaGreatDoor.Dx
open Go Go.RowKit
set_option maxRecDepth 100000
set_option maxHeartbeats 4000000
mutual
def Cond.total:Cond->Nat
 |⟨_,_,_,ps⟩=>1+Cond.totalL ps
def Cond.totalL:List Cond->Nat
 |[]=>0
 |c::cs=>c.total+Cond.totalL cs
end
mutual
def Cond.deep:Cond->Nat
 |⟨_,_,_,ps⟩=>Cond.deepL ps
def Cond.deepL:List Cond->Nat
 |[]=>0
 |c::cs=>max (1+c.deep) (Cond.deepL cs)
end
def Cond.num (c:Cond):Nat:=if c.isZero then 0 else c.total
def Cond.dok (c:Cond):Bool:=c.isZero||decide (c.deep<=16)
mutual
def Step.nst:Step->Nat
 |⟨_,_,_,t,e⟩=>1+(Step.nstL t+Step.nstL e)
def Step.nstL:List Step->Nat
 |[]=>0
 |c::cs=>c.nst+Step.nstL cs
end
mutual
def Step.ncd:Step->Nat
 |⟨_,_,c,t,e⟩=>c.num+(Step.ncdL t+Step.ncdL e)
def Step.ncdL:List Step->Nat
 |[]=>0
 |c::cs=>c.ncd+Step.ncdL cs
end
mutual
def Step.deep:Step->Nat
 |⟨_,_,_,t,e⟩=>max (Step.deepL t) (Step.deepL e)
def Step.deepL:List Step->Nat
 |[]=>0
 |c::cs=>max (1+c.deep) (Step.deepL cs)
end
mutual
def Step.dok:Step->Bool
 |⟨_,_,c,t,e⟩=>c.dok&&(Step.dokL t&&Step.dokL e)
def Step.dokL:List Step->Bool
 |[]=>true
 |c::cs=>c.dok&&Step.dokL cs
end
theorem Cond.total_eq (c:Cond):c.total=1+Cond.totalL c.parts:=by obtain⟨k,v,n,ps⟩:=c;rfl
theorem Cond.deep_eq (c:Cond):c.deep=Cond.deepL c.parts:=by obtain⟨k,v,n,ps⟩:=c;rfl
theorem Step.nst_eq (s:Step):s.nst=1+(Step.nstL s.th+Step.nstL s.el):=by obtain⟨k,b,c,t,e⟩:=s;rfl
theorem Step.ncd_eq (s:Step):s.ncd=s.cond.num+(Step.ncdL s.th+Step.ncdL s.el):=by obtain⟨k,b,c,t,e⟩:=s;rfl
theorem Step.deep_eq (s:Step):s.deep=max (Step.deepL s.th) (Step.deepL s.el):=by obtain⟨k,b,c,t,e⟩:=s;rfl
theorem Step.dok_eq (s:Step):s.dok=(s.cond.dok&&(Step.dokL s.th&&Step.dokL s.el)):=by obtain⟨k,b,c,t,e⟩:=s;rfl
def Form.nst:Form->Nat| .ofC _=>0| .ofS s=>s.nst
def Form.ncd:Form->Nat| .ofC c=>c.total| .ofS s=>s.ncd
def Form.deep:Form->Nat| .ofC c=>c.deep| .ofS s=>s.deep
def Form.dok:Form->Bool| .ofC _=>true| .ofS s=>s.dok
def stF:List Form->Nat|[]=>0|f::l=>f.nst+stF l
def cdF:List Form->Nat|[]=>0|f::l=>f.ncd+cdF l
def dpF:List Form->Nat|[]=>0|f::l=>max (1+f.deep) (dpF l)
def okF:List Form->Bool|[]=>true|f::l=>f.dok&&okF l
theorem Z5 (a b:List Form):stF (a++b)=stF a+stF b:=by induction a with|nil=>simp[stF]|cons x a ih=>simp[stF,ih];omega
theorem a0p (a b:List Form):cdF (a++b)=cdF a+cdF b:=by induction a with|nil=>simp[cdF]|cons x a ih=>simp[cdF,ih];omega
theorem a1P (a b:List Form):dpF (a++b)=max (dpF a) (dpF b):=by induction a with|nil=>simp[dpF]|cons x a ih=>(simp[dpF,ih];try omega)
theorem a2v (a b:List Form):okF (a++b)=(okF a&&okF b):=by induction a with|nil=>simp[okF]|cons x a ih=>simp[okF,ih,Bool.and_assoc]
theorem F_C (cs:List Cond):stF (w9 cs)=0/\cdF (w9 cs)=Cond.totalL cs/\dpF (w9 cs)=Cond.deepL cs/\okF (w9 cs)=true:=by
 induction cs with
 |nil=>simp[w9,stF,cdF,dpF,okF,Cond.totalL,Cond.deepL]
 | cons c cs ih=>
   simp only[w9,List.map_cons,stF,cdF,dpF,okF,Cond.totalL,Cond.deepL,Form.nst,Form.ncd,Form.deep,Form.dok] at ih⊢
   obtain⟨h1,h2,h3,h4⟩:=ih
   exact⟨by omega,by omega,by omega,by simp[h4]⟩
theorem F_S (cs:List Step):stF (e9 cs)=Step.nstL cs/\cdF (e9 cs)=Step.ncdL cs/\dpF (e9 cs)=Step.deepL cs/\okF (e9 cs)=Step.dokL cs:=by
 induction cs with
 |nil=>simp[e9,stF,cdF,dpF,okF,Step.nstL,Step.ncdL,Step.deepL,Step.dokL]
 | cons c cs ih=>
   simp only[e9,List.map_cons,stF,cdF,dpF,okF,Step.nstL,Step.ncdL,Step.deepL,Step.dokL,Form.nst,Form.ncd,Form.deep,Form.dok] at ih⊢
   obtain⟨h1,h2,h3,h4⟩:=ih
   exact⟨by omega,by omega,by omega,by rw[h4]⟩
theorem a6c {l:List Form}(h:l≠[]):1<=dpF l:=by cases l with|nil=>exact absurd rfl h|cons x l=>simp only[dpF];omega
def l8 (l:List Form)(d s c:Int):Bool:=decide (l=[])||(decide (d+dpF l<=17)&&okF l&&(decide (s+stF l<=64)&&decide (c+cdF l<=256)))
structure Cnt (l:List Form) (d s0 c0:Int) (i:Nat) (s c:Int):Prop where
 le:i<=l.length
 st:s=s0+stF (l.take i)
 cd:c=c0+cdF (l.take i)
 fit:i=0\/(d+dpF (l.take i)<=17/\okF (l.take i)=true/\s<=64/\c<=256)
theorem b3m {l:List Form}{i:Nat}(h:i<l.length):l=l.take i++(l[i]::l.drop (i+1)):=by
 conv=>lhs;rw[<-List.take_append_drop i l,List.drop_eq_getElem_cons h]
theorem Cnt.next {l:List Form}{d s0 c0:Int}{i:Nat}{s c:Int}(h:Cnt l d s0 c0 i s c)(hi:i<l.length)(hd:d<=16)(h1:d+(1+l[i].deep:Nat)<=17)(h2:l[i].dok=true)(h3:s+l[i].nst<=64)(h4:c+l[i].ncd<=256):
 Cnt l d s0 c0 (i+1) (s+l[i].nst) (c+l[i].ncd):=by
 have ht:l.take (i+1)=l.take i++[l[i]]:=List.take_succ_eq_append_getElem hi
 obtain⟨a,b,e,f⟩:=h
 refine⟨by omega,by rw[ht,Z5,b];simp[stF];omega,by rw[ht,a0p,e];simp[cdF];omega, .inr ⟨?_,?_,h3,h4⟩⟩
 . rw[ht,a1P]
   rcases f with rfl|⟨f,_⟩
   . simp[dpF];omega
   . simp only[dpF];omega
 . rw[ht,a2v]
   rcases f with rfl|⟨_,f,_⟩
   . simp[okF,h2]
   . simp[okF,h2,f]
theorem Cnt.bad {l:List Form}{d s0 c0:Int}{i:Nat}{s c:Int}(h:Cnt l d s0 c0 i s c)(hi:i<l.length)(hb:l8 [l[i]] d s c=false):l8 l d s0 c0=false:=by
 have hs:=b3m hi
 obtain⟨a,b,e,f⟩:=h
 have hne:l≠[]:=by intro e;subst e;simp at hi
 have h1:stF l=stF (l.take i)+(l[i].nst+stF (l.drop (i+1))):=(congrArg stF hs).trans (Z5 _ _)
 have h2:cdF l=cdF (l.take i)+(l[i].ncd+cdF (l.drop (i+1))):=(congrArg cdF hs).trans (a0p _ _)
 have h3:dpF l=max (dpF (l.take i)) (max (1+l[i].deep) (dpF (l.drop (i+1)))):=(congrArg dpF hs).trans (a1P _ _)
 have h4:okF l=(okF (l.take i)&&(l[i].dok&&okF (l.drop (i+1)))):=(congrArg okF hs).trans (a2v _ _)
 cases hf:l8 l d s0 c0 with
 |false=>rfl
 | true=>
   simp only[l8,Bool.or_eq_true,decide_eq_true_eq,Bool.and_eq_true,hne,false_or] at hf
   obtain⟨⟨g1,g2⟩,g3,g4⟩:=hf
   rw[h4] at g2
   simp only[Bool.and_eq_true] at g2
   have:l8 [l[i]] d s c=true:=by
    simp only[l8,Bool.or_eq_true,Bool.and_eq_true,decide_eq_true_eq]
    simp only[stF,cdF,dpF,okF]
    refine .inr ⟨⟨?_,?_⟩,?_,?_⟩
    . omega
    . simp[g2.2.1]
    . omega
    . omega
   rw[this] at hb
   cases hb
theorem Cnt.all {l:List Form}{d s0 c0:Int}{i:Nat}{s c:Int}(h:Cnt l d s0 c0 i s c)(hi:¬i<l.length):l8 l d s0 c0=true/\s=s0+stF l/\c=c0+cdF l:=by
 obtain⟨a,b,e,f⟩:=h
 have ht:l.take i=l:=List.take_of_length_le (by omega)
 rw[ht] at b e f
 refine⟨?_,b,e⟩
 rcases f with rfl|⟨f1,f2,f3,f4⟩
 . have:l=[]:=List.eq_nil_of_length_eq_zero (by omega)
   simp[l8,this]
 . simp only[l8,Bool.or_eq_true,Bool.and_eq_true,decide_eq_true_eq]
   exact .inr ⟨⟨f1,f2⟩,by omega,by omega⟩
theorem b7W {c:Cond}{d s n:Int}(hd:d<=16):l8 [.ofC c] d s n=(decide (s<=64)&&decide (n+1<=256)&&l8 (w9 c.parts) (d+1) s (n+1)):=by
 obtain⟨h1,h2,h3,h4⟩:=F_C c.parts
 have hp:w9 c.parts≠[]->1<=dpF (w9 c.parts):=a6c
 rw[h3] at hp
 rw[Bool.eq_iff_iff]
 simp only[l8,Bool.or_eq_true,Bool.and_eq_true,decide_eq_true_eq]
 simp only[stF,cdF,dpF,okF,Form.nst,Form.ncd,Form.deep,Form.dok,c.total_eq,c.deep_eq,h1,h2,h3,h4,Bool.or_eq_true,Bool.and_eq_true,decide_eq_true_eq,List.cons_ne_nil,false_or,and_true]
 by_cases he:w9 c.parts=[]
 . rw[he] at h2 h3
   simp only[cdF,dpF] at h2 h3
   simp only[he,true_or,and_true]
   omega
 . have hp:=hp he
   simp only[he,false_or]
   omega
theorem b7X {x:Step}{d s n:Int}(hd:d<=16):l8 [.ofS x] d s n=((x.cond.isZero||l8 [.ofC x.cond] 0 (s+1) n)&&(decide (s+1<=64)&&decide (n+x.cond.num<=256)&&l8 (e9 x.th++e9 x.el) (d+1) (s+1) (n+x.cond.num))):=by
 obtain⟨h1,h2,h3,h4⟩:=F_S x.th
 obtain⟨k1,k2,k3,k4⟩:=F_S x.el
 have hp:e9 x.th++e9 x.el≠[]->1<=dpF (e9 x.th++e9 x.el):=a6c
 have e1:=Z5 (e9 x.th) (e9 x.el)
 have e2:=a0p (e9 x.th) (e9 x.el)
 have e3:=a1P (e9 x.th) (e9 x.el)
 have e4:=a2v (e9 x.th) (e9 x.el)
 rw[h1,k1] at e1
 rw[h2,k2] at e2
 rw[h3,k3] at e3
 rw[h4,k4] at e4
 rw[e3] at hp
 rw[Bool.eq_iff_iff]
 simp only[l8,Bool.or_eq_true,Bool.and_eq_true,decide_eq_true_eq]
 simp only[stF,cdF,dpF,okF,Form.nst,Form.ncd,Form.deep,Form.dok,x.nst_eq,x.ncd_eq,x.deep_eq,x.dok_eq,e1,e2,e3,e4,Cond.dok,Cond.num,Bool.or_eq_true,Bool.and_eq_true,decide_eq_true_eq,List.cons_ne_nil,false_or,and_true]
 by_cases hz:x.cond.isZero=true
 . simp only[hz,true_or,true_and,if_true]
   by_cases he:e9 x.th++e9 x.el=[]
   . rw[he] at e1 e2 e3 e4
     simp only[stF,cdF,dpF,okF] at e1 e2 e3 e4
     have e4':=e4.symm
     simp only[Bool.and_eq_true] at e4'
     simp only[he,true_or,and_true,e4']
     omega
   . have hp:=hp he
     simp only[he,false_or]
     constructor
     . rintro⟨⟨a,b⟩,c,e⟩;exact⟨⟨by omega,by omega⟩,⟨by omega,b⟩,by omega,by omega⟩
     . rintro⟨⟨a,b⟩,⟨c,e⟩,f,g⟩;exact⟨⟨by omega,e⟩,by omega,by omega⟩
 . have ht:=x.cond.total_eq
   simp only[hz,false_or,if_false,Bool.false_eq_true]
   by_cases he:e9 x.th++e9 x.el=[]
   . rw[he] at e1 e2 e3 e4
     simp only[stF,cdF,dpF,okF] at e1 e2 e3 e4
     have e4':=e4.symm
     simp only[Bool.and_eq_true] at e4'
     simp only[he,true_or,and_true,e4']
     omega
   . have hp:=hp he
     simp only[he,false_or]
     constructor
     . rintro⟨⟨a,b,b'⟩,c,e⟩;exact⟨⟨by omega,by omega,by omega⟩,⟨by omega,by omega⟩,⟨by omega,b'⟩,by omega,by omega⟩
     . rintro⟨⟨h,h',h''⟩,⟨a,b⟩,⟨c,e⟩,f,g⟩;exact⟨⟨by omega,by omega,e⟩,by omega,by omega⟩
end Go.Proofs.YteillnfhkeebjaaGreatDoor.Dx
