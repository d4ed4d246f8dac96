/- format's printer: steps,on a fresh Builder; Steps. -/
import Derived.Test.YteillnfhkeebjaaGreatDoorTa
import Derived.Test.YteillnfhkeebjaaGreatDoorSz
set_option linter.all false
namespace Go.Proofs.YteillnfhkeebjaaGreatDoor.Dx
open Go Go.RowKit Go.Proofs
set_option maxRecDepth 100000
set_option maxHeartbeats 16000000
theorem a9W (b:Int):y9 b≠[]:=by
 unfold y9
 split;simp
 split;simp
 split;simp
 split<;>simp
theorem a7m (r:Nat->D)(l' s:List UInt8)(hs:s≠[])(items:List Item)(he:l'=f0 (.s s::items))(hlen:l'.length<=140737488355328):
 MeetsR Tryz.prog 32 [.loc 1000 0, .d (.sl ((Item.s s::items).map λx=>[x.d]))] (prN (rr r) 90) λo O'=>o= .ret (.d (.tup []))/\O'=prO (rr r) 90 l':=by
 obtain⟨c,t,rfl⟩:=List.exists_cons_of_ne_nil hs
 have:=c1j r c t items (by rw[<-he];exact hlen)
 rw[<-he] at this
 exact this
abbrev j3:Cfg:={sym:=[4],rs:=[20,32,42,46,50,58,62,66]}
theorem c1e (r:Nat->D)(ss:List Step)(h0:ss≠[])(hv:∀s∈ss,s.valid=true)(hok:∀s∈ss,s.ok)(hb:Step.nstL ss+Step.ncdL ss<=1000)(hlen:(g9 ss).length<=140737488355328):
 MeetsR Tryz.prog 37 [.loc 1000 0, .d (.sl (ss.map Step.cells))] (prN (rr r) 90) λo O'=>o= .ret (.d (.tup []))/\O'=prO (rr r) 90 (g9 ss):=by
 refine m9 tok j3 Tryz.func37 rfl (by kernel_rfl) Tryz.ntmps37 (by simp) λB0 W0 V0 lent g0=>?_
 refine Kv j3 ?_
 refine⟨by simp,?_⟩
 refine Kv j3 ?_
 intro hlq
 have hlq:ss.length<=9223372036854775807:=by simpa[maxLen] using hlq
 refine Kv j3 ?_
 refine d4 tok j3 [] (X:=Nat×List UInt8) (λx=>[(10,iB x.1)]) (λx=>prF (rr r) 90 x.2) [6] (λx=>x.1<=ss.length/\(x.2=[]↔x.1=0)/\x.2=j2 true ((ss.map Step.tx).take x.1)) (λx=>ss.length-x.1) (0,[]) ?_
 refine Kv j3 ?_
 refine And.intro ?_ ⟨⟨by omega,by simp,by simp[j2]⟩,λx hΦ=>?_⟩
 . repeat'(first|exact True.intro|exact rfl|refine And.intro ?_ ?_)
   all_goals exact g6 _ _
 obtain⟨i,xs⟩:=x
 obtain⟨hi,hxe,hxs⟩:=hΦ
 dsimp only at hi hxe hxs
 have h0':0<ss.length:=List.length_pos_iff.2 h0
 rcases Nat.eq_zero_or_pos i with h0i|h0i
 . obtain rfl:xs=[]:=hxe.2 h0i
   subst h0i
   refine Kv j3 ?_
   refine⟨λh1=>?_,λh1=>?_⟩<;>(try simp only[BL] at h1)<;>refine Kv j3 ?_
   rotate_left
   . omega
   have h1':0<ss.length:=by omega
   have hj:(j2 true ((ss.map Step.tx).take (0+1))).length<=(g9 ss).length:=a0Z true _ _
   have hst:=a4I Step.tx h1'
   have hm:=List.getElem_mem h1'
   have hvs:=hv _ hm
   have hos:=Step.ok_iff.1 (hok _ hm)
   have hmem:=a6Z hm
   have hsz:=List.sizeOf_lt_of_mem hm
   have hszl:=Step.szl ss[0]
   have key:∃A,A++ss[0].tx=j2 true ((ss.map Step.tx).take (0+1))/\(0<0->A=([]:List UInt8)++[32])/\(0=0->A=([]:List UInt8)):=by
    by_cases h0:0=0
    . exact⟨([]:List UInt8),by rw[hst,if_pos h0,hxs];simp[h0,j2],by omega,λ_=>rfl⟩
    . exact⟨([]:List UInt8)++[32],by rw[hst,if_neg h0,hxs],λ_=>rfl,by omega⟩
   obtain⟨A,hAe,hA1,hA0⟩:=key
   have hal:A.length+ss[0].tx.length<=140737488355328:=by
    have hl2:=congrArg List.length hAe
    simp only[List.length_append] at hl2
    omega
   have hend:∀A',A'=A++ss[0].tx->A'≠[]->(0+1<=ss.length/\(A'=[]↔0+1=0)/\A'=j2 true ((ss.map Step.tx).take (0+1))):=λA' h hn=>⟨by omega,⟨λe=>absurd e hn,by omega⟩,by rw[h,hAe]⟩
   clear hj hst
   rw[Step.tx_eq] at hal hend
   obtain rfl:A=[]:=hA0 rfl
   repeat'((first|(intro hlq;try simp only[SL] at hlq)|refine K9 ?_|refine Ka ?_|refine Kb ?_|refine Kc (hd:=rfl) (e:=?_)|refine Kc (hd:=Step.cells_eq _) (e:=?_)|refine Kd (e:=?_)|refine Kl rfl ?_|fail)<;>refine Kv j3 ?_)
   refine⟨λh2=>?_,λh2=>?_⟩<;>(try simp only[BL] at h2)<;>refine Kv j3 ?_
   . omega
   rcases Step.cases hvs with⟨hk,hcr⟩|⟨hk,hc,hne,ht,he⟩
   . rw[if_pos hk] at hal hend
     rw[List.length_append] at hal
     obtain⟨B,hB⟩:∃B,B=([]:List UInt8)++(y9 ss[0].crit++[59]):=⟨_,rfl⟩
     have hBl:=Q1 hB
     repeat'((first|(intro hlq;try simp only[SL] at hlq)|refine⟨_,a3y hcr rfl rfl,?_⟩|refine K9 ?_|((refine Kh (λhb=>?_) λhb=>?_)<;>try simp only[BL] at hb)|refine K8 ?_)<;>refine Kv j3 ?_)
     all_goals (try first|contradiction|(exfalso;omega))
     refine⟨prN (rr r) 90,_,⟨?_,?_⟩,(a7m r B (y9 ss[0].crit) (a9W _) [.s [59]] (by rw[hB];simp[f0,Item.text]) (by simp only[List.length_append] at hBl;omega)).mono ?_⟩
     . exact Ko
     . exact Ko
     rintro o O2 ⟨rfl,rfl⟩
     dsimp only
     rw[d8 (d7 _)]
     refine Kv j3 ?_
     repeat'((first|(intro hlq;try simp only[SL] at hlq)|refine K9 ?_|((refine Kh (λhb=>?_) λhb=>?_)<;>try simp only[BL] at hb)|refine K8 ?_)<;>refine Kv j3 ?_)
     have hz:=hend B hB (by rw[hB];simp)
     obtain⟨b1,B',hBc⟩:=List.exists_cons_of_ne_nil (by rw[hB];simp:B≠[])
     rw[hBc] at hz⊢
     refine⟨⟨(0+1,b1::B'),?_,hz,by dsimp only;omega⟩⟩
     repeat'(first|exact True.intro|exact rfl|refine And.intro ?_ ?_)
     all_goals exact g6 _ _
   . rw [if_neg (show ¬ss[0].kind=1 by omega)] at hal hend
     have hcl:=Q9 ss[0].cond hc
     have hn1:=ss[0].nst_eq
     have hn2:=ss[0].ncd_eq
     rw[a2X hc] at hn2
     have hco:=y8 ss[0].cond
     have htx:=a1d ss[0].cond.core (hco.valid hc) (hco.ok hos.1) hco.thin (by have:=hco.total;omega)
     rw[hco.pt] at htx
     have hE:∃E:List UInt8,E=(if decide (0<ss[0].el.length)=true then([32,101,108,115,101,32,123,32]:List UInt8)++g9 ss[0].el++[32,125] else[]):=⟨_,rfl⟩
     obtain⟨E,hE⟩:=hE
     rw[ifT,<-hE] at hal hend
     simp only[List.length_append,List.length_cons,List.length_nil] at hal
     obtain⟨B1,hB1⟩:∃B1,B1=([]:List UInt8)++(([105,102,32]:List UInt8)++ss[0].cond.pt.2++[32,123,32]):=⟨_,rfl⟩
     have hL1:=congrArg List.length hB1
     simp only[List.length_append,List.length_cons,List.length_nil] at hL1
     have hN1:B1≠[]:=by rw[hB1];simp
     obtain⟨B3,hB3⟩:∃B3,B3=(B1++g9 ss[0].th)++[32,125]:=⟨_,rfl⟩
     have hL3:=congrArg List.length hB3
     simp only[List.length_append,List.length_cons,List.length_nil] at hL3
     have hN3:B3≠[]:=by rw[hB3];simp
     repeat'((first|(intro hlq;try simp only[SL] at hlq)|refine Meets.k (a0v _) ?_|refine Meets.k (htx) ?_|refine K9 ?_|((refine Kh (λhb=>?_) λhb=>?_)<;>try simp only[BL] at hb)|refine K8 ?_)<;>refine Kv j3 ?_)
     all_goals (try first|contradiction|(exfalso;omega))
     refine⟨prN (rr r) 90,_,⟨?_,?_⟩,(a7m r B1 [105,102,32] (by simp) [.s ss[0].cond.pt.2, .s [32,123,32]] (by rw[hB1];simp[f0,Item.text]) (by omega)).mono ?_⟩
     . exact Ko
     . exact Ko
     rintro o O2 ⟨rfl,rfl⟩
     dsimp only
     rw[d8 (d7 _)]
     refine Kv j3 ?_
     repeat'((first|(intro hlq;try simp only[SL] at hlq)|refine K9 ?_|((refine Kh (λhb=>?_) λhb=>?_)<;>try simp only[BL] at hb)|refine K8 ?_)<;>refine Kv j3 ?_)
     refine⟨prO (rr r) 90 B1,_,⟨?_,?_⟩,(Q8 r ss[0].th B1 hN1 ht hos.2.1.2 (by omega) (by omega)).mono ?_⟩
     . exact Ko
     . exact Ko
     rintro o O2 ⟨rfl,rfl⟩
     dsimp only
     rw[d8 (d7 _)]
     refine Kv j3 ?_
     repeat'((first|(intro hlq;try simp only[SL] at hlq)|refine K9 ?_|((refine Kh (λhb=>?_) λhb=>?_)<;>try simp only[BL] at hb)|refine K8 ?_)<;>refine Kv j3 ?_)
     refine⟨prO (rr r) 90 (B1++g9 ss[0].th),_,⟨?_,?_⟩,(l5 r (B1++g9 ss[0].th) B3 [.s [32,125]] (by simp[hN1]) (by rw[hB3];simp[f0,Item.text]) (by omega)).mono ?_⟩
     . exact Ko
     . exact Ko
     rintro o O2 ⟨rfl,rfl⟩
     dsimp only
     rw[d8 (d7 _)]
     refine Kv j3 ?_
     repeat'((first|(intro hlq;try simp only[SL] at hlq)|refine K9 ?_|((refine Kh (λhb=>?_) λhb=>?_)<;>try simp only[BL] at hb)|refine K8 ?_)<;>refine Kv j3 ?_)
     . rw[if_pos (decide_eq_true (show 0<ss[0].el.length by omega))] at hE
       have hLE:=congrArg List.length hE
       simp only[List.length_append,List.length_cons,List.length_nil] at hLE
       obtain⟨B4,hB4⟩:∃B4,B4=B3++[32,101,108,115,101,32,123,32]:=⟨_,rfl⟩
       have hL4:=congrArg List.length hB4
       simp only[List.length_append,List.length_cons,List.length_nil] at hL4
       have hN4:B4≠[]:=by rw[hB4];simp
       obtain⟨B5,hB5⟩:∃B5,B5=(B4++g9 ss[0].el)++[32,125]:=⟨_,rfl⟩
       have hL5:=congrArg List.length hB5
       simp only[List.length_append,List.length_cons,List.length_nil] at hL5
       refine⟨prO (rr r) 90 B3,_,⟨?_,?_⟩,(l5 r B3 B4 [.s [32,101,108,115,101,32,123,32]] hN3 (by rw[hB4];simp[f0,Item.text]) (by omega)).mono ?_⟩
       . exact Ko
       . exact Ko
       rintro o O2 ⟨rfl,rfl⟩
       dsimp only
       rw[d8 (d7 _)]
       refine Kv j3 ?_
       repeat'((first|(intro hlq;try simp only[SL] at hlq)|refine K9 ?_|((refine Kh (λhb=>?_) λhb=>?_)<;>try simp only[BL] at hb)|refine K8 ?_)<;>refine Kv j3 ?_)
       refine⟨prO (rr r) 90 B4,_,⟨?_,?_⟩,(Q8 r ss[0].el B4 hN4 he hos.2.2.2 (by omega) (by omega)).mono ?_⟩
       . exact Ko
       . exact Ko
       rintro o O2 ⟨rfl,rfl⟩
       dsimp only
       rw[d8 (d7 _)]
       refine Kv j3 ?_
       repeat'((first|(intro hlq;try simp only[SL] at hlq)|refine K9 ?_|((refine Kh (λhb=>?_) λhb=>?_)<;>try simp only[BL] at hb)|refine K8 ?_)<;>refine Kv j3 ?_)
       refine⟨prO (rr r) 90 (B4++g9 ss[0].el),_,⟨?_,?_⟩,(l5 r (B4++g9 ss[0].el) B5 [.s [32,125]] (by simp[hN4]) (by rw[hB5];simp[f0,Item.text]) (by omega)).mono ?_⟩
       . exact Ko
       . exact Ko
       rintro o O2 ⟨rfl,rfl⟩
       dsimp only
       rw[d8 (d7 _)]
       refine Kv j3 ?_
       repeat'((first|(intro hlq;try simp only[SL] at hlq)|refine K9 ?_|((refine Kh (λhb=>?_) λhb=>?_)<;>try simp only[BL] at hb)|refine K8 ?_)<;>refine Kv j3 ?_)
       have hz:=hend B5 (by rw[hB5,hB4,hB3,hB1,hE];simp) (by rw[hB5];simp)
       obtain⟨b1,B',hBc⟩:=List.exists_cons_of_ne_nil (by rw[hB5];simp:B5≠[])
       rw[hBc] at hz⊢
       refine⟨⟨(0+1,b1::B'),?_,hz,by dsimp only;omega⟩⟩
       repeat'(first|exact True.intro|exact rfl|refine And.intro ?_ ?_)
       all_goals exact g6 _ _
     . rw[if_neg (show ¬decide (0<ss[0].el.length)=true by rw[decide_eq_true_eq];omega)] at hE
       repeat'((first|(intro hlq;try simp only[SL] at hlq)|refine K9 ?_|((refine Kh (λhb=>?_) λhb=>?_)<;>try simp only[BL] at hb)|refine K8 ?_)<;>refine Kv j3 ?_)
       have hz:=hend B3 (by rw[hB3,hB1,hE];simp) hN3
       obtain⟨b1,B',hBc⟩:=List.exists_cons_of_ne_nil hN3
       rw[hBc] at hz⊢
       refine⟨⟨(0+1,b1::B'),?_,hz,by dsimp only;omega⟩⟩
       repeat'(first|exact True.intro|exact rfl|refine And.intro ?_ ?_)
       all_goals exact g6 _ _
 . obtain ⟨b0,xs',rfl⟩:=List.exists_cons_of_ne_nil (λe=>by have:=hxe.1 e;omega:xs≠[])
   refine Kv j3 ?_
   refine⟨λh1=>?_,λh1=>?_⟩<;>(try simp only[BL] at h1)<;>refine Kv j3 ?_
   . have h1':i<ss.length:=by omega
     have hj:(j2 true ((ss.map Step.tx).take (i+1))).length<=(g9 ss).length:=a0Z true _ _
     have hst:=a4I Step.tx h1'
     have hm:=List.getElem_mem h1'
     have hvs:=hv _ hm
     have hos:=Step.ok_iff.1 (hok _ hm)
     have hmem:=a6Z hm
     have hsz:=List.sizeOf_lt_of_mem hm
     have hszl:=Step.szl ss[i]
     have key:∃A,A++ss[i].tx=j2 true ((ss.map Step.tx).take (i+1))/\(0<i->A=(b0::xs')++[32])/\(i=0->A=(b0::xs')):=by
      by_cases h0:i=0
      . exact⟨(b0::xs'),by rw[hst,if_pos h0,hxs];simp[h0,j2],by omega,λ_=>rfl⟩
      . exact⟨(b0::xs')++[32],by rw[hst,if_neg h0,hxs],λ_=>rfl,by omega⟩
     obtain⟨A,hAe,hA1,hA0⟩:=key
     have hal:A.length+ss[i].tx.length<=140737488355328:=by
      have hl2:=congrArg List.length hAe
      simp only[List.length_append] at hl2
      omega
     have hend:∀A',A'=A++ss[i].tx->A'≠[]->(i+1<=ss.length/\(A'=[]↔i+1=0)/\A'=j2 true ((ss.map Step.tx).take (i+1))):=λA' h hn=>⟨by omega,⟨λe=>absurd e hn,by omega⟩,by rw[h,hAe]⟩
     clear hj hst
     rw[Step.tx_eq] at hal hend
     have hAn:A≠[]:=by rw[hA1 h0i];simp
     repeat'((first|(intro hlq;try simp only[SL] at hlq)|refine K9 ?_|refine Ka ?_|refine Kb ?_|refine Kc (hd:=rfl) (e:=?_)|refine Kc (hd:=Step.cells_eq _) (e:=?_)|refine Kd (e:=?_)|refine Kl rfl ?_|fail)<;>refine Kv j3 ?_)
     refine⟨λh2=>?_,λh2=>?_⟩<;>(try simp only[BL] at h2)<;>refine Kv j3 ?_
     rotate_left
     . omega
     have hAl:=Q1 (hA1 h0i)
     refine⟨prO (rr r) 90 (b0::xs'),_,⟨?_,?_⟩,(l5 r (b0::xs') A [.s [32]] (by simp) (by rw[hA1 h0i];simp[f0,Item.text]) (by omega)).mono ?_⟩
     . exact Ko
     . exact Ko
     rintro o O2 ⟨rfl,rfl⟩
     dsimp only
     rw[d8 (d7 _)]
     refine Kv j3 ?_
     rcases Step.cases hvs with⟨hk,hcr⟩|⟨hk,hc,hne,ht,he⟩
     . rw[if_pos hk] at hal hend
       rw[List.length_append] at hal
       obtain⟨B,hB⟩:∃B,B=A++(y9 ss[i].crit++[59]):=⟨_,rfl⟩
       have hBl:=Q1 hB
       repeat'((first|(intro hlq;try simp only[SL] at hlq)|refine⟨_,a3y hcr rfl rfl,?_⟩|refine K9 ?_|((refine Kh (λhb=>?_) λhb=>?_)<;>try simp only[BL] at hb)|refine K8 ?_)<;>refine Kv j3 ?_)
       all_goals (try first|contradiction|(exfalso;omega))
       refine⟨prO (rr r) 90 A,_,⟨?_,?_⟩,(l5 r A B [.s (y9 ss[i].crit), .s [59]] hAn (by rw[hB];simp[f0,Item.text]) (by simp only[List.length_append] at hBl;omega)).mono ?_⟩
       . exact Ko
       . exact Ko
       rintro o O2 ⟨rfl,rfl⟩
       dsimp only
       rw[d8 (d7 _)]
       refine Kv j3 ?_
       repeat'((first|(intro hlq;try simp only[SL] at hlq)|refine K9 ?_|((refine Kh (λhb=>?_) λhb=>?_)<;>try simp only[BL] at hb)|refine K8 ?_)<;>refine Kv j3 ?_)
       have hz:=hend B hB (by rw[hB];simp)
       obtain⟨b1,B',hBc⟩:=List.exists_cons_of_ne_nil (by rw[hB];simp:B≠[])
       rw[hBc] at hz⊢
       refine⟨⟨(i+1,b1::B'),?_,hz,by dsimp only;omega⟩⟩
       repeat'(first|exact True.intro|exact rfl|refine And.intro ?_ ?_)
       all_goals exact g6 _ _
     . rw [if_neg (show ¬ss[i].kind=1 by omega)] at hal hend
       have hcl:=Q9 ss[i].cond hc
       have hn1:=ss[i].nst_eq
       have hn2:=ss[i].ncd_eq
       rw[a2X hc] at hn2
       have hco:=y8 ss[i].cond
       have htx:=a1d ss[i].cond.core (hco.valid hc) (hco.ok hos.1) hco.thin (by have:=hco.total;omega)
       rw[hco.pt] at htx
       have hE:∃E:List UInt8,E=(if decide (0<ss[i].el.length)=true then([32,101,108,115,101,32,123,32]:List UInt8)++g9 ss[i].el++[32,125] else[]):=⟨_,rfl⟩
       obtain⟨E,hE⟩:=hE
       rw[ifT,<-hE] at hal hend
       simp only[List.length_append,List.length_cons,List.length_nil] at hal
       obtain⟨B1,hB1⟩:∃B1,B1=A++(([105,102,32]:List UInt8)++ss[i].cond.pt.2++[32,123,32]):=⟨_,rfl⟩
       have hL1:=congrArg List.length hB1
       simp only[List.length_append,List.length_cons,List.length_nil] at hL1
       have hN1:B1≠[]:=by rw[hB1];simp
       obtain⟨B3,hB3⟩:∃B3,B3=(B1++g9 ss[i].th)++[32,125]:=⟨_,rfl⟩
       have hL3:=congrArg List.length hB3
       simp only[List.length_append,List.length_cons,List.length_nil] at hL3
       have hN3:B3≠[]:=by rw[hB3];simp
       repeat'((first|(intro hlq;try simp only[SL] at hlq)|refine Meets.k (a0v _) ?_|refine Meets.k (htx) ?_|refine K9 ?_|((refine Kh (λhb=>?_) λhb=>?_)<;>try simp only[BL] at hb)|refine K8 ?_)<;>refine Kv j3 ?_)
       all_goals (try first|contradiction|(exfalso;omega))
       refine⟨prO (rr r) 90 A,_,⟨?_,?_⟩,(l5 r A B1 [.s [105,102,32], .s ss[i].cond.pt.2, .s [32,123,32]] hAn (by rw[hB1];simp[f0,Item.text]) (by omega)).mono ?_⟩
       . exact Ko
       . exact Ko
       rintro o O2 ⟨rfl,rfl⟩
       dsimp only
       rw[d8 (d7 _)]
       refine Kv j3 ?_
       repeat'((first|(intro hlq;try simp only[SL] at hlq)|refine K9 ?_|((refine Kh (λhb=>?_) λhb=>?_)<;>try simp only[BL] at hb)|refine K8 ?_)<;>refine Kv j3 ?_)
       refine⟨prO (rr r) 90 B1,_,⟨?_,?_⟩,(Q8 r ss[i].th B1 hN1 ht hos.2.1.2 (by omega) (by omega)).mono ?_⟩
       . exact Ko
       . exact Ko
       rintro o O2 ⟨rfl,rfl⟩
       dsimp only
       rw[d8 (d7 _)]
       refine Kv j3 ?_
       repeat'((first|(intro hlq;try simp only[SL] at hlq)|refine K9 ?_|((refine Kh (λhb=>?_) λhb=>?_)<;>try simp only[BL] at hb)|refine K8 ?_)<;>refine Kv j3 ?_)
       refine⟨prO (rr r) 90 (B1++g9 ss[i].th),_,⟨?_,?_⟩,(l5 r (B1++g9 ss[i].th) B3 [.s [32,125]] (by simp[hN1]) (by rw[hB3];simp[f0,Item.text]) (by omega)).mono ?_⟩
       . exact Ko
       . exact Ko
       rintro o O2 ⟨rfl,rfl⟩
       dsimp only
       rw[d8 (d7 _)]
       refine Kv j3 ?_
       repeat'((first|(intro hlq;try simp only[SL] at hlq)|refine K9 ?_|((refine Kh (λhb=>?_) λhb=>?_)<;>try simp only[BL] at hb)|refine K8 ?_)<;>refine Kv j3 ?_)
       . rw[if_pos (decide_eq_true (show 0<ss[i].el.length by omega))] at hE
         have hLE:=congrArg List.length hE
         simp only[List.length_append,List.length_cons,List.length_nil] at hLE
         obtain⟨B4,hB4⟩:∃B4,B4=B3++[32,101,108,115,101,32,123,32]:=⟨_,rfl⟩
         have hL4:=congrArg List.length hB4
         simp only[List.length_append,List.length_cons,List.length_nil] at hL4
         have hN4:B4≠[]:=by rw[hB4];simp
         obtain⟨B5,hB5⟩:∃B5,B5=(B4++g9 ss[i].el)++[32,125]:=⟨_,rfl⟩
         have hL5:=congrArg List.length hB5
         simp only[List.length_append,List.length_cons,List.length_nil] at hL5
         refine⟨prO (rr r) 90 B3,_,⟨?_,?_⟩,(l5 r B3 B4 [.s [32,101,108,115,101,32,123,32]] hN3 (by rw[hB4];simp[f0,Item.text]) (by omega)).mono ?_⟩
         . exact Ko
         . exact Ko
         rintro o O2 ⟨rfl,rfl⟩
         dsimp only
         rw[d8 (d7 _)]
         refine Kv j3 ?_
         repeat'((first|(intro hlq;try simp only[SL] at hlq)|refine K9 ?_|((refine Kh (λhb=>?_) λhb=>?_)<;>try simp only[BL] at hb)|refine K8 ?_)<;>refine Kv j3 ?_)
         refine⟨prO (rr r) 90 B4,_,⟨?_,?_⟩,(Q8 r ss[i].el B4 hN4 he hos.2.2.2 (by omega) (by omega)).mono ?_⟩
         . exact Ko
         . exact Ko
         rintro o O2 ⟨rfl,rfl⟩
         dsimp only
         rw[d8 (d7 _)]
         refine Kv j3 ?_
         repeat'((first|(intro hlq;try simp only[SL] at hlq)|refine K9 ?_|((refine Kh (λhb=>?_) λhb=>?_)<;>try simp only[BL] at hb)|refine K8 ?_)<;>refine Kv j3 ?_)
         refine⟨prO (rr r) 90 (B4++g9 ss[i].el),_,⟨?_,?_⟩,(l5 r (B4++g9 ss[i].el) B5 [.s [32,125]] (by simp[hN4]) (by rw[hB5];simp[f0,Item.text]) (by omega)).mono ?_⟩
         . exact Ko
         . exact Ko
         rintro o O2 ⟨rfl,rfl⟩
         dsimp only
         rw[d8 (d7 _)]
         refine Kv j3 ?_
         repeat'((first|(intro hlq;try simp only[SL] at hlq)|refine K9 ?_|((refine Kh (λhb=>?_) λhb=>?_)<;>try simp only[BL] at hb)|refine K8 ?_)<;>refine Kv j3 ?_)
         have hz:=hend B5 (by rw[hB5,hB4,hB3,hB1,hE];simp) (by rw[hB5];simp)
         obtain⟨b1,B',hBc⟩:=List.exists_cons_of_ne_nil (by rw[hB5];simp:B5≠[])
         rw[hBc] at hz⊢
         refine⟨⟨(i+1,b1::B'),?_,hz,by dsimp only;omega⟩⟩
         repeat'(first|exact True.intro|exact rfl|refine And.intro ?_ ?_)
         all_goals exact g6 _ _
       . rw[if_neg (show ¬decide (0<ss[i].el.length)=true by rw[decide_eq_true_eq];omega)] at hE
         repeat'((first|(intro hlq;try simp only[SL] at hlq)|refine K9 ?_|((refine Kh (λhb=>?_) λhb=>?_)<;>try simp only[BL] at hb)|refine K8 ?_)<;>refine Kv j3 ?_)
         have hz:=hend B3 (by rw[hB3,hB1,hE];simp) hN3
         obtain⟨b1,B',hBc⟩:=List.exists_cons_of_ne_nil hN3
         rw[hBc] at hz⊢
         refine⟨⟨(i+1,b1::B'),?_,hz,by dsimp only;omega⟩⟩
         repeat'(first|exact True.intro|exact rfl|refine And.intro ?_ ?_)
         all_goals exact g6 _ _
   . obtain rfl:i=ss.length:=by omega
     have e:(ss.map Step.tx).take ss.length=ss.map Step.tx:=List.take_of_length_le (by simp)
     rw[e] at hxs
     exact⟨prO (rr r) 90 (b0::xs'), .d (.tup []),⟨g6 _ _,⟨⟨rfl,L5 _ _⟩,⟨rfl,rfl,rfl,rfl⟩,trivial⟩,rfl⟩,⟨rfl,by rw[hxs];rfl⟩⟩
end Go.Proofs.YteillnfhkeebjaaGreatDoor.Dx
/- Cond and Steps: the code and the reference. -/
namespace Go.Proofs.YteillnfhkeebjaaGreatDoor.Dx
open Go Go.RowKit Go.Proofs
set_option maxRecDepth 100000
set_option maxHeartbeats 16000000
def a0t (c:Cond):List UInt8:=if c.errno=0 then c.pt.2 else[]
def U8 (l:List Step):List UInt8:=if p8 l=0 then g9 l else[]
theorem b0E {c:Cond}(h:c.errno=0):c.valid=true/\c.total<=256:=by
 unfold Cond.errno at h
 split at h
 . split at h
   . exact⟨by assumption,by omega⟩
   . cases h
 . cases h
theorem a8R (c:Cond)(hok:c.ok):Meets Tryz.prog 14 [c.d] λd=>d= .tup [.str (a0t c),iD c.errno]:=by
 refine enter tok {} Tryz.func14 rfl (by kernel_rfl) Tryz.ntmps14 (by simp) λB0 W0 V0 lent g0=>?_
 refine Kw ?_
 repeat'((first|(intro hlq;try simp only[SL] at hlq)|refine Meets.k (a7Y c hok) ?_|refine K9 ?_|((refine Kh (λhb=>?_) λhb=>?_)<;>try simp only[BL] at hb)|refine K8 ?_)<;>refine Kw ?_)
 . exact⟨by rw[a0t,if_neg (by assumption)]⟩
 have he:c.errno=0:=by omega
 obtain⟨hv,ht⟩:=b0E he
 have hco:=y8 c
 have htx:=a1d c.core (hco.valid hv) (hco.ok hok) hco.thin (by have:=hco.total;omega)
 rw[hco.pt] at htx
 repeat'((first|(intro hlq;try simp only[SL] at hlq)|refine Meets.k (a0v _) ?_|refine Meets.k (htx) ?_|refine K9 ?_|((refine Kh (λhb=>?_) λhb=>?_)<;>try simp only[BL] at hb)|refine K8 ?_)<;>refine Kw ?_)
 refine⟨?_⟩
 rw[a0t,if_pos he,he]
theorem c3v {l:List Step}(h4:p8 l=0):l≠[]:=by
 unfold p8 at h4
 split at h4
 . split at h4
   . rename_i hv;exact hv.1
   . cases h4
 . cases h4
theorem c0z {l:List Step}(h4:p8 l=0):Step.ncdL l<=256:=by
 unfold p8 at h4
 split at h4
 . rename_i hf
   split at h4
   . rename_i hv
     obtain⟨_,k2,_⟩:=F_S l
     simp only[l8,Bool.or_eq_true,Bool.and_eq_true,decide_eq_true_eq,k2] at hf
     rcases hf with hf|hf
     . exact absurd (by simpa[e9] using hf) hv.1
     . omega
   . cases h4
 . cases h4
noncomputable def zR (i:Nat):D:=[D.str [], .raw (.slice none 0 0), .raw (.slice none 0 0), .raw (.slice none 0 0), .raw (.slice none 0 0), .raw (.slice none 0 0), .raw (.slice none 0 0), .raw (.slice none 0 0), .raw (.slice none 0 0),iD 0,iD 0,iD 0,iD 0,iD 0,iD 0,iD 0].getD i .junk
theorem c2U {l:List Step}(h:l≠[])(hv:∀s∈l,s.valid=true):g9 l≠[]:=by
 obtain⟨s,r,rfl⟩:=List.exists_cons_of_ne_nil h
 have hs:=a9W s.crit
 rw[g9,List.map_cons,j2,Step.tx_eq]
 split
 . simp
 . simp[ifT]
theorem a9P (r:Nat->D)(d:D)(ty:TypeId):H3 (.d d) [(1000,Blk.box (.d .junk:: .d .junk::rr r) ty)]=true:=rfl
abbrev a1G:Cfg:={nm:=[(12,1000)],priv:=[11],rs:=[15,19]}
theorem a5p (l:List Step)(hl:l.length<=1048576)(hok:∀s∈l,s.ok):Meets Tryz.prog 20 [.sl (l.map Step.cells)] λd=>d= .tup [.str (U8 l),iD (p8 l)]:=by
 refine enter tok a1G Tryz.func20 rfl (by kernel_rfl) Tryz.ntmps20 (by simp) λB0 W0 V0 lent g0=>?_
 refine Kv a1G ?_
 repeat'((first|(intro hlq;try simp only[SL] at hlq)|refine Meets.k (a2K l hl hok) ?_|refine K9 ?_|((refine Kh (λhb=>?_) λhb=>?_)<;>try simp only[BL] at hb)|refine K8 ?_)<;>refine Kv a1G ?_)
 . exact⟨by rw[U8,if_neg (by assumption)]⟩
 have he:p8 l=0:=by omega
 have ht:=a8b he
 have hc:=c0z he
 have hne:=c3v he
 have hT:=a4R ht.1
 have hT2:=c2U hne ht.1
 refine⟨prN (rr zR) 90,_,⟨?_,?_⟩,(c1e zR l hne ht.1 hok (by omega) (by omega)).mono ?_⟩
 . exact Kr
 . repeat'(first|exact True.intro|exact rfl|refine And.intro ?_ ?_)
   all_goals first|exact g6 _ _|trace_state
 rintro o O2 ⟨rfl,rfl⟩
 dsimp only
 rw[d8 (d7 _)]
 refine Kv a1G ?_
 refine⟨prO (rr zR) 90 (g9 l),_,⟨?_,?_⟩,(b1P 1000 1001 (by decide) (.loc 1000 0) (g9 l) hT2 (by unfold maxLen;omega)).mono ?_⟩
 . exact Kr
 . repeat'(first|exact True.intro|exact rfl|refine And.intro ?_ ?_)
   all_goals exact g6 _ _
 rintro o O2 ⟨rfl,rfl⟩
 dsimp only
 rw[a9P]
 refine Kv a1G ?_
 refine⟨?_⟩
 rw[U8,if_pos he,he]
end Go.Proofs.YteillnfhkeebjaaGreatDoor.Dx
