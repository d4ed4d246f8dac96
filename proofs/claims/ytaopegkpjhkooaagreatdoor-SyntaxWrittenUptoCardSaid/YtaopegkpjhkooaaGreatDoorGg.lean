/- Chapter 06: the law's writer of conditions and of steps. -/
import Derived.Test.YtaopegkpjhkooaaGreatDoorGf
set_option linter.all false
namespace Go.Proofs.YtaopegkpjhkooaaGreatDoor.Dx
open Go Go.RowKit Go.Proofs
set_option maxRecDepth 100000
set_option maxHeartbeats 16000000
theorem b0o:∀(k:Nat) (hk:k<=8) (c:Cond),Meets Tryz.prog 29 [c.d,iD (8-(k:Int))] λr=>r= .tup [.str (cTx k c).1,bD (cTx k c).2]
 | 0,_,c=>by
   refine enter tok {} Tryz.func29 rfl (by kernel_rfl) Tryz.ntmps29 (by simp) λB0 W0 V0 lent g0=>?_
   refine Kw ?_
   refine⟨λh=>?_,λh=>?_⟩<;>(try simp only[BL] at h)<;>refine Kw ?_
   . exact⟨rfl⟩
   . exact absurd h (by decide)
 | k +1,hk,c=>by
   have ih:=b0o k (by omega)
   have hle:=λp=>a6M (show k<=8 by omega) p
   have hd:(8-((k+1:Nat):Int))+1=8-(k:Int):=by omega
   obtain⟨dd,hdd⟩:∃dd:Int,dd=8-((k+1:Nat):Int):=⟨_,rfl⟩
   rw[<-hdd] at hd⊢
   rw[<-hd] at ih
   have e:=cTx.eq_2 c k
   by_cases hk1:c.kind=1
   . rw[if_pos hk1] at e
     exact b5X k c dd hd hk1 _ e
   rw[if_neg hk1] at e
   by_cases hk4:c.kind=4
   . rw[if_pos hk4] at e
     exact b5Y k c dd hd ih hle hk4 _ e
   rw[if_neg hk4] at e
   by_cases hv:(c.kind=2\/c.kind=3)/\(2<=c.parts.length/\c.parts.length<=16)/\c.var=0/\c.n=0
   . refine b5W k c dd hd ih hle hv.1 hv.2.1 hv.2.2.1 hv.2.2.2 _ ?_
     rw[e]
     by_cases ha:c.parts.all (λp=>(cTx k p).2)=true
     . rw[if_pos ⟨hv.1,hv.2.1,hv.2.2.1,hv.2.2.2,ha⟩,if_pos ha]
     . rw[if_neg (λh=>ha h.2.2.2.2),if_neg ha]
   . rw[if_neg (λh=>hv ⟨h.1,h.2.1,h.2.2.1,h.2.2.2.1⟩)] at e
     rw[e]
     exact b5V k c dd hd hk1 hk4 hv
theorem b0s (b:Int):(T9 b).length<=7:=by unfold T9;split<;>decide
def gB:Nat->Nat
 |0=>0
 |k+1=>12*(171798691900+2*gB k)
theorem gB5 {k:Nat}(hk:k<=5):gB k<=900000000000000000:=by
 have:k=0\/k=1\/k=2\/k=3\/k=4\/k=5:=by omega
 rcases this with rfl|rfl|rfl|rfl|rfl|rfl<;>decide
theorem a7i (f:Step->List UInt8)(B:Nat):∀l:List Step,(∀s∈l,(f s).length<=B)->((l.map f).flatten).length<=l.length*B
 |[],_=>by simp
 | s::l,h=>by
   have h1:=h s (by simp)
   have h2:=a7i f B l λx hx=>h x (List.mem_cons_of_mem _ hx)
   simp only[List.map_cons,List.flatten_cons,List.length_append,List.length_cons,Nat.succ_mul]
   omega
theorem b2e {F:List Step->List UInt8×Bool}{B:Nat}(hF:∀l,(F l).1.length<=B)(s:Step):(s6 F s).1.length<=171798691900+2*B:=by
 have h1:=b0s s.crit
 have h2:=a6M (k:=8) (by omega) s.cond
 have h3:=hF s.th
 have h4:=hF s.el
 unfold s6
 split
 . split
   . simp only[List.length_append,List.length_cons,List.length_nil];omega
   . simp
 . split
   . split
     . simp only[List.length_append,List.length_cons,List.length_nil];omega
     . simp only[List.length_append,List.length_cons,List.length_nil];omega
   . simp
theorem a4e:∀(k:Nat) (l:List Step),(sTx k l).1.length<=gB k
 |0,l=>by simp[sTx]
 | k +1,l=>by
   have ih:=a4e k
   unfold sTx
   split
   . rename_i h
     have:=a7i (λs=>(s6 (sTx k) s).1) _ l λs _=>b2e ih s
     have h2:=Nat.mul_le_mul_right (171798691900+2*gB k) h.1.2
     simp only[gB]
     omega
   . simp
end Go.Proofs.YtaopegkpjhkooaaGreatDoor.Dx
/- Chapter 06: the law's writer of steps. -/
namespace Go.Proofs.YtaopegkpjhkooaaGreatDoor.Dx
open Go Go.RowKit Go.Proofs
set_option maxRecDepth 100000
set_option maxHeartbeats 16000000
section
variable {F:List Step->List UInt8×Bool} {s:Step}
theorem b9H (h1:s.kind=1)(h:(1<=s.crit/\s.crit<=5)/\s.cond=cz/\s.th=[]/\s.el=[]):s6 F s=(T9 s.crit++[59,10],true):=by
 unfold s6;rw[if_pos h1,if_pos h]
theorem b9I (h1:s.kind=1)(h:¬((1<=s.crit/\s.crit<=5)/\s.cond=cz/\s.th=[]/\s.el=[])):s6 F s=([],false):=by
 unfold s6;rw[if_pos h1,if_neg h]
theorem b9J (h1:¬s.kind=1)(h:s.kind=2/\s.crit=0/\(cTx 8 s.cond).2=true/\(F s.th).2=true)(he:s.el=[]):s6 F s=([105,102,32]++(cTx 8 s.cond).1++[32,123]++(F s.th).1++[125]++[],true):=by
 unfold s6;rw[if_neg h1,if_pos ⟨h.1,h.2.1,h.2.2.1,h.2.2.2, .inl he⟩,if_pos he]
theorem b9L (h1:¬s.kind=1)(h:s.kind=2/\s.crit=0/\(cTx 8 s.cond).2=true/\(F s.th).2=true)(he:s.el≠[])(he2:(F s.el).2=true):
 s6 F s=([105,102,32]++(cTx 8 s.cond).1++[32,123]++(F s.th).1++[125]++([32,101,108,115,101,32,123]++(F s.el).1++[125]),true):=by
 unfold s6;rw[if_neg h1,if_pos ⟨h.1,h.2.1,h.2.2.1,h.2.2.2, .inr he2⟩,if_neg he]
theorem b9K (h1:¬s.kind=1)(h:¬(s.kind=2/\s.crit=0/\(cTx 8 s.cond).2=true/\(F s.th).2=true)):s6 F s=([],false):=by
 unfold s6;rw[if_neg h1,if_neg λg=>h ⟨g.1,g.2.1,g.2.2.1,g.2.2.2.1⟩]
theorem b9M (h1:¬s.kind=1)(he:s.el≠[])(he2:(F s.el).2=false):s6 F s=([],false):=by
 unfold s6;rw[if_neg h1,if_neg λg=>by
  rcases g.2.2.2.2 with h|h
  . exact he h
  . rw[he2] at h;cases h]
end
theorem b7y (T:Step->List UInt8)(l:List Step)(i:Nat)(hi:i<l.length):((l.take (i+1)).map T).flatten=((l.take i).map T).flatten++T l[i]:=by
 rw[List.take_succ_eq_append_getElem hi,List.map_append,List.flatten_append]
 simp
theorem c2s (l:List Step):Meets Tryz.prog 16 [stD l,iD 5] λr=>r= .tup [.str [],bD false]:=by
 refine enter tok {} Tryz.func16 rfl (by kernel_rfl) Tryz.ntmps16 (by simp) λB0 W0 V0 lent g0=>?_
 refine Kw ?_
 repeat'((first|(intro hlq;try simp only[SL] at hlq)|refine K9 ?_|((refine Kh (λhb=>?_) λhb=>?_)<;>try simp only[BL] at hb)|refine K8 ?_)<;>refine Kw ?_)
 all_goals first
  |exact Done.mk rfl
  |(exfalso;omega)
theorem c2q (l:List Step)(dd:Int)(h:¬(1<=l.length/\l.length<=12)):Meets Tryz.prog 16 [stD l,iD dd] λr=>r= .tup [.str [],bD false]:=by
 refine enter tok {} Tryz.func16 rfl (by kernel_rfl) Tryz.ntmps16 (by simp) λB0 W0 V0 lent g0=>?_
 refine Kw ?_
 repeat'((first|(intro hlq;try simp only[SL] at hlq)|refine K9 ?_|((refine Kh (λhb=>?_) λhb=>?_)<;>try simp only[BL] at hb)|refine K8 ?_)<;>refine Kw ?_)
 all_goals first
  |exact Done.mk rfl
  |(exfalso;omega)
theorem gB4 {k:Nat}(hk:k<=4):gB k<=30000000000000000:=by
 have:k=0\/k=1\/k=2\/k=3\/k=4:=by omega
 rcases this with rfl|rfl|rfl|rfl|rfl<;>decide
theorem c2r (k:Nat)(hk:k+1<=5)(l:List Step)(dd:Int)(hd:dd+1=5-(k:Int))(hok:∀s∈l,s.ok)(ih:∀l:List Step,(∀s∈l,s.ok)->Meets Tryz.prog 16 [stD l,iD (dd+1)] λr=>r= .tup [.str (sTx k l).1,bD (sTx k l).2])(hlen:1<=l.length/\l.length<=12)(res:List UInt8×Bool)
 (hres:res=if l.all (λs=>(s6 (sTx k) s).2)=true then((l.map λs=>(s6 (sTx k) s).1).flatten,true) else([],false)):Meets Tryz.prog 16 [stD l,iD dd] λr=>r= .tup [.str res.1,bD res.2]:=by
 have hgB:=gB4 (show k<=4 by omega)
 have hone:∀s:Step,(s6 (sTx k) s).1.length<=171798691900+2*gB k:=λs=>b2e (a4e k) s
 have hL:∀i,i<=l.length->(((l.take i).map λs=>(s6 (sTx k) s).1).flatten).length<=840000000000000000:=by
  intro i hi
  have h:=a7i (λs=>(s6 (sTx k) s).1) _ (l.take i) λs _=>hone s
  rw[List.length_take] at h
  have:=Nat.mul_le_mul (show min i l.length<=12 by omega) (show 171798691900+2*gB k<=70000000000000000 by omega)
  omega
 refine enter tok {} Tryz.func16 rfl (by kernel_rfl) Tryz.ntmps16 (by simp) λB0 W0 V0 lent g0=>?_
 refine Kw ?_
 repeat'((first|(intro hlq;try simp only[SL] at hlq)|refine K9 ?_|((refine Kh (λhb=>?_) λhb=>?_)<;>try simp only[BL] at hb)|refine K8 ?_)<;>refine Kw ?_)
 all_goals try(exfalso;omega)
 refine j7 tok {} [] (X:=Nat) (λi=>[(31,iB i),(6, .d (.str ((l.take i).map λs=>(s6 (sTx k) s).1).flatten))]) (λ_=>[]) [] (λi=>i<=l.length/\∀s∈l.take i,(s6 (sTx k) s).2=true) (λi=>l.length-i) 0 ?_
 refine Kw ?_
 refine And.intro ?_ ⟨⟨by omega,by simp⟩,λi hΦ=>?_⟩
 . exact Kr
 obtain⟨hi,hall⟩:=hΦ
 have hLi:=hL i hi
 refine Kw ?_
 refine⟨λh1=>?_,λh1=>?_⟩<;>(try simp only[BL] at h1)<;>refine Kw ?_
 . have h1':i<l.length:=by omega
   have hst:=b7y (λs=>(s6 (sTx k) s).1) l i h1'
   have hnew:(s6 (sTx k) l[i]).2=true->∀p∈l.take (i+1),(s6 (sTx k) p).2=true:=by
    intro ht p hp
    rw[List.take_succ_eq_append_getElem h1'] at hp
    rcases List.mem_append.1 hp with h|h
    . exact hall p h
    . rw[List.mem_singleton.1 h];exact ht
   have hbad:s6 (sTx k) l[i]=([],false)->res=([],false):=by
    intro hf
    rw[hres,if_neg]
    intro ha
    have:=List.all_eq_true.1 ha l[i] (List.getElem_mem h1')
    rw[hf] at this
    cases this
   have hix:(l.map Step.cells)[(i:Int).toNat]?=some l[i].dc:=by
    rw[Int.toNat_natCast,List.getElem?_map,List.getElem?_eq_getElem h1']
    simp only[Option.map_some,Step.cells_eq]
   have hcl:=a6M (k:=8) (by omega) l[i].cond
   have htl:=a4e k l[i].th
   have hel:=a4e k l[i].el
   have hcr:=b0s l[i].crit
   have hcc:=b0o 8 (by omega) l[i].cond
   rw[show(8-((8:Nat):Int))=0 from rfl] at hcc
   have hsok:=Step.ok_iff.1 (hok l[i] (List.getElem_mem h1'))
   have hth:=ih l[i].th hsok.2.1.2
   have hee:=ih l[i].el hsok.2.2.2
   have hz1:=hsok.2.1.1
   have hz2:=hsok.2.2.1
   clear hsok
   have hsc:=a5R l[i].cond cz
   revert hst hnew hbad hix hcl htl hel hcr hcc hth hee hsc hz1 hz2
   generalize l[i]=s
   intro hst hnew hbad hix hcl htl hel hcr hcc hth hee hz1 hz2 hsc
   refine⟨s.dc,⟨by omega,hix,rfl⟩,?_⟩
   clear hix
   refine Kw ?_
   by_cases hk1:s.kind=1
   . by_cases hv:(1<=s.crit/\s.crit<=5)/\s.cond=cz/\s.th=[]/\s.el=[]
     . rw [b9H hk1 hv] at hst hnew
       have hl1:s.th.length=0:=by rw[hv.2.2.1];rfl
       have hl2:s.el.length=0:=by rw[hv.2.2.2];rfl
       have hsc':=hsc.bl
       rw[a0a hv.2.1] at hsc'
       repeat'((first|(intro hlq;try simp only[SL] at hlq)|refine Meets.k (hsc') ?_|refine K9 ?_|((refine Kh (λhb=>?_) λhb=>?_)<;>try simp only[BL] at hb)|refine K8 ?_)<;>refine Kw ?_)
       all_goals first
        |(exact absurd (by assumption:(!true)=true) (by decide))
        |contradiction
        |(exfalso;omega)
        |skip
       refine⟨[.str (T9 s.crit)],⟨by omega,?_,rfl⟩,?_⟩
       . have h5:s.crit=1\/s.crit=2\/s.crit=3\/s.crit=4\/s.crit=5:=by omega
         obtain e|e|e|e|e:=h5<;>rw[e]<;>rfl
       refine Kw ?_
       repeat'((first|(intro hlq;try simp only[SL] at hlq)|refine K9 ?_|((refine Kh (λhb=>?_) λhb=>?_)<;>try simp only[BL] at hb)|refine K8 ?_)<;>refine Kw ?_)
       refine⟨⟨i+1,?_,⟨by omega,hnew rfl⟩,by omega⟩⟩
       repeat'(first|exact True.intro|exact rfl|refine And.intro ?_ ?_|(exact congrArg D.str hst.symm))
     . have hb2:=hbad (b9I hk1 hv)
       repeat'((first|(intro hlq;try simp only[SL] at hlq)|refine Meets.k (hsc) ?_|refine K9 ?_|((refine Kh (λhb=>?_) λhb=>?_)<;>try simp only[BL] at hb)|refine K8 ?_)<;>refine Kw ?_)
       all_goals first
        |(exfalso;omega)
        |(refine Done.mk ?_;rw[hb2];done)
        |contradiction
        | (have hth0:s.th.length=0:=by omega
           have hel0:s.el.length=0:=by omega
           exfalso;exact hv ⟨⟨by omega,by omega⟩,sameB_iff.1 (by assumption),List.eq_nil_of_length_eq_zero hth0,List.eq_nil_of_length_eq_zero hel0⟩)
        |trace_state
   by_cases hv:s.kind=2/\s.crit=0/\(cTx 8 s.cond).2=true/\(sTx k s.th).2=true
   . rw [hv.2.2.1] at hcc
     rw[hv.2.2.2] at hth
     by_cases he:s.el=[]
     . rw[b9J hk1 hv he] at hst hnew
       have hl2:s.el.length=0:=by rw[he];rfl
       repeat'((first|(intro hlq;try simp only[SL] at hlq)|refine Meets.k (hcc) ?_|refine Meets.k (hth) ?_|refine K9 ?_|((refine Kh (λhb=>?_) λhb=>?_)<;>try simp only[BL] at hb)|refine K8 ?_)<;>refine Kw ?_)
       all_goals first
        |(exact absurd (by assumption:(!true)=true) (by decide))
        |contradiction
        |(exfalso;omega)
        |skip
       refine⟨⟨i+1,?_,⟨by omega,hnew rfl⟩,by omega⟩⟩
       repeat'(first|exact True.intro|exact rfl|refine And.intro ?_ ?_|(exact congrArg D.str (by rw[hst];simp only[List.append_nil])))
     . have hl2:1<=s.el.length:=by
        cases hq:s.el with
        |nil=>exact absurd hq he
        |cons a b=>simp
       cases hel2:(sTx k s.el).2 with
       | true=>
         rw[b9L hk1 hv he hel2] at hst hnew
         rw[hel2] at hee
         repeat'((first|(intro hlq;try simp only[SL] at hlq)|refine Meets.k (hcc) ?_|refine Meets.k (hth) ?_|refine Meets.k (hee) ?_|refine K9 ?_|((refine Kh (λhb=>?_) λhb=>?_)<;>try simp only[BL] at hb)|refine K8 ?_)<;>refine Kw ?_)
         all_goals first
          |(exact absurd (by assumption:(!true)=true) (by decide))
          |contradiction
          |(exfalso;omega)
          |skip
         refine⟨⟨i+1,?_,⟨by omega,hnew rfl⟩,by omega⟩⟩
         repeat'(first|exact True.intro|exact rfl|refine And.intro ?_ ?_|(exact congrArg D.str (by rw[hst];exact List.append_assoc _ _ _)))
       | false=>
         have hb2:=hbad (b9M hk1 he hel2)
         rw[hel2] at hee
         repeat'((first|(intro hlq;try simp only[SL] at hlq)|refine Meets.k (hcc) ?_|refine Meets.k (hth) ?_|refine Meets.k (hee) ?_|refine K9 ?_|((refine Kh (λhb=>?_) λhb=>?_)<;>try simp only[BL] at hb)|refine K8 ?_)<;>refine Kw ?_)
         all_goals first
          |(exact absurd (by assumption:(!true)=true) (by decide))
          |(exact absurd (by assumption:(!false)=false) (by decide))
          |contradiction
          |(exfalso;omega)
          |(refine Done.mk ?_;rw[hb2];done)
   . have hb2:=hbad (b9K hk1 hv)
     repeat'((first|(intro hlq;try simp only[SL] at hlq)|refine Meets.k (hcc) ?_|refine Meets.k (hth) ?_|refine Meets.k (hee) ?_|refine K9 ?_|((refine Kh (λhb=>?_) λhb=>?_)<;>try simp only[BL] at hb)|refine K8 ?_)<;>refine Kw ?_)
     all_goals first
      |(exfalso;omega)
      |(refine Done.mk ?_;rw[hb2];done)
      |(exfalso;exact hv ⟨by omega,by omega,by assumption,by assumption⟩)
 . refine Done.mk ?_
   rw[List.take_of_length_le (by omega)] at hall⊢
   rw[hres,if_pos (List.all_eq_true.2 hall)]
theorem b3l:∀(k:Nat) (hk:k<=5) (l:List Step),(∀s∈l,s.ok)->Meets Tryz.prog 16 [stD l,iD (5-(k:Int))] λr=>r= .tup [.str (sTx k l).1,bD (sTx k l).2]
 |0,_,l,_=>c2s l
 | k +1,hk,l,hok=>by
   have ih:=b3l k (by omega)
   have hd:(5-((k+1:Nat):Int))+1=5-(k:Int):=by omega
   obtain⟨dd,hdd⟩:∃dd:Int,dd=5-((k+1:Nat):Int):=⟨_,rfl⟩
   rw[<-hdd] at hd⊢
   rw[<-hd] at ih
   have e:sTx (k+1) l=if(1<=l.length/\l.length<=12)/\l.all (λs=>(s6 (sTx k) s).2)=true then((l.map λs=>(s6 (sTx k) s).1).flatten,true) else([],false):=by
    rw[sTx]
   by_cases hv:1<=l.length/\l.length<=12
   . refine c2r k hk l dd hd hok ih hv _ ?_
     rw[e]
     by_cases ha:l.all (λs=>(s6 (sTx k) s).2)=true
     . rw[if_pos ⟨hv,ha⟩,if_pos ha]
     . rw[if_neg (λh=>ha h.2),if_neg ha]
   . rw[if_neg (λh=>hv h.1)] at e
     rw[e]
     exact c2q l dd hv
end Go.Proofs.YtaopegkpjhkooaaGreatDoor.Dx
