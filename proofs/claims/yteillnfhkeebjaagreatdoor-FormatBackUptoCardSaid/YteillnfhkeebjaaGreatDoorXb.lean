/- format. -/
import Derived.Test.YteillnfhkeebjaaGreatDoorXa
set_option linter.all false
namespace Go.Proofs.YteillnfhkeebjaaGreatDoor.Dx
open Go Go.RowKit Go.Proofs
set_option maxRecDepth 100000
set_option maxHeartbeats 16000000
theorem b6K (b:Int):K4 b≠[]:=by
 unfold K4;split;simp;split;simp;split;simp;split<;>simp
theorem b3D (r:Nat->D)(l' s:List UInt8)(hs:s≠[])(items:List Item)(he:l'=r5 (.s s::items))(hlen:l'.length<=140737488355328):
 MR 32 [.loc 1000 0, .d (.sl ((Item.s s::items).map λx=>[x.d]))] (prN (rr r) 90) λo O'=>o= .ret (.d (.tup []))/\O'=prO (rr r) 90 l':=by
 obtain⟨c,t,rfl⟩:=a2m hs;have:=d0t r c t items (by rw[<-he];exact hlen);rw[<-he] at this;exact this
abbrev z8:Cfg:={sym:=[4],rs:=[20,32,42,46,50,58,62,66]}
theorem d0p (r:Nat->D)(ss:List Step)(h0:ss≠[])(hv:∀s∈ss,s.valid=true)(hok:∀s∈ss,s.ok)(hb:Step.nstL ss+Step.ncdL ss<=1000)(hlen:(s7 ss).length<=140737488355328):
 MR 37 [.loc 1000 0, .d (.sl (ss.map Step.cells))] (prN (rr r) 90) λo O'=>o= .ret (.d (.tup []))/\O'=prO (rr r) 90 (s7 ss):=by
 refine EnR z8 Tryz.func37 Tryz.ntmps37 λ_ _ _ _ _=>?_;refine Kv z8 ?_;refine⟨by simp,?_⟩;refine Kv z8 ?_;intro hlq;have hlq:ss.length<=9223372036854775807:=by simpa[maxLen] using hlq
 refine Kv z8 ?_;refine o4 tok z8 [] (X:=Nat×List UInt8) (λx=>[(10,iB x.1)]) (λx=>prF (rr r) 90 x.2) [6] (λx=>x.1<=ss.length/\(x.2=[]↔x.1=0)/\x.2=t8 true ((ss.map Step.tx).take x.1)) (λx=>ss.length-x.1) (0,[]) ?_;refine Kv z8 ?_;refine d8 ?_ ⟨⟨by omega,by simp,by simp[t8]⟩,λx hΦ=>?_⟩
 . repeat'(first|exact d9|exact rfl|refine d8 ?_ ?_)
   all_goals exact s6 _ _
 obtain⟨i,xs⟩:=x;obtain⟨hi,hxe,hxs⟩:=hΦ;dsimp only at hi hxe hxs;have h0':0<ss.length:=a7g.2 h0;rcases Nat.eq_zero_or_pos i with h0i|h0i
 . obtain rfl:xs=[]:=hxe.2 h0i;subst h0i;refine Kv z8 ?_;refine⟨λh1=>?_,λh1=>?_⟩<;>(try simp only[BL] at h1)<;>refine Kv z8 ?_;rotate_left
   . omega
   have h1':0<ss.length:=by omega
   have hj:(t8 true ((ss.map Step.tx).take (0+1))).length<=(s7 ss).length:=a6C true _ _;have hst:=b0N Step.tx h1';have hm:=q7 h1';have hvs:=hv _ hm;have hos:=Step.ok_iff.1 (hok _ hm);have hmem:=b3n hm;have hsz:=U6 hm;have hszl:=Step.szl ss[0];have key:∃A,A++ss[0].tx=t8 true ((ss.map Step.tx).take (0+1))/\(0<0->A=([]:List UInt8)++[32])/\(0=0->A=([]:List UInt8)):=by
    by_cases h0:0=0
    . exact⟨([]:List UInt8),by rw[hst,d4 h0,hxs];simp[h0,t8],by omega,λ_=>rfl⟩
    . exact⟨([]:List UInt8)++[32],by rw[hst,c8 h0,hxs],λ_=>rfl,by omega⟩
   obtain⟨A,hAe,hA1,hA0⟩:=key;have hal:A.length+ss[0].tx.length<=140737488355328:=by
    have hl2:=d6 List.length hAe;simp only[j6] at hl2;omega
   have hend:∀A',A'=A++ss[0].tx->A'≠[]->(0+1<=ss.length/\(A'=[]↔0+1=0)/\A'=t8 true ((ss.map Step.tx).take (0+1))):=λA' h hn=>⟨by omega,⟨λe=>absurd e hn,by omega⟩,by rw[h,hAe]⟩
   clear hj hst;rw[Step.tx_eq] at hal hend;obtain rfl:A=[]:=hA0 rfl;repeat'((first|(intro hlq;try simp only[SL] at hlq)|refine K9 ?_|refine Ka ?_|refine Kb ?_|refine Kc (hd:=rfl) (e:=?_)|refine Kc (hd:=Step.cells_eq _) (e:=?_)|refine Kd (e:=?_)|refine Kl rfl ?_|fail)<;>refine Kv z8 ?_)
   refine⟨λh2=>?_,λh2=>?_⟩<;>(try simp only[BL] at h2)<;>refine Kv z8 ?_
   . omega
   rcases Step.cases hvs with⟨hk,hcr⟩|⟨hk,hc,hne,ht,he⟩
   . rw[d4 hk] at hal hend;rw[j6] at hal;obtain⟨B,hB⟩:∃B,B=([]:List UInt8)++(K4 ss[0].crit++[59]):=⟨_,rfl⟩
     have hBl:=a2F hB;repeat'((first|(intro hlq;try simp only[SL] at hlq)|refine⟨_,a9D hcr rfl rfl,?_⟩|refine K9 ?_|((refine Kh (λhb=>?_) λhb=>?_)<;>try simp only[BL] at hb)|refine K8 ?_)<;>refine Kv z8 ?_)
     all_goals (try first|contradiction|(exfalso;omega))
     refine⟨prN (rr r) 90,_,⟨?_,?_⟩,(b3D r B (K4 ss[0].crit) (b6K _) [.s [59]] (by rw[hB];simp[r5,Item.text]) (by simp only[j6] at hBl;omega)).mono ?_⟩
     . exact Ko
     . exact Ko
     rintro o O2 ⟨rfl,rfl⟩;dsimp only;rw[p9 (p6 _)];refine Kv z8 ?_;repeat'((first|(intro hlq;try simp only[SL] at hlq)|refine K9 ?_|((refine Kh (λhb=>?_) λhb=>?_)<;>try simp only[BL] at hb)|refine K8 ?_)<;>refine Kv z8 ?_)
     have hz:=hend B hB (by rw[hB];simp);obtain⟨b1,B',hBc⟩:=a2m (by rw[hB];simp:B≠[]);rw[hBc] at hz⊢;refine⟨⟨(0+1,b1::B'),?_,hz,by dsimp only;omega⟩⟩;repeat'(first|exact d9|exact rfl|refine d8 ?_ ?_)
     all_goals exact s6 _ _
   . rw [c8 (show ¬ss[0].kind=1 by omega)] at hal hend;have hcl:=a3Q ss[0].cond hc;have hn1:=ss[0].nst_eq;have hn2:=ss[0].ncd_eq;rw[a8R hc] at hn2;have hco:=N0 ss[0].cond;have htx:=a6I ss[0].cond.core (hco.valid hc) (hco.ok hos.1) hco.thin (by have:=hco.total;omega);rw[hco.pt] at htx;have hE:∃E:List UInt8,E=(if decide (0<ss[0].el.length)=true then([32,101,108,115,101,32,123,32]:List UInt8)++s7 ss[0].el++[32,125] else[]):=⟨_,rfl⟩
     obtain⟨E,hE⟩:=hE;rw[ifT,<-hE] at hal hend;simp only[j6,i7,j8] at hal;obtain⟨B1,hB1⟩:∃B1,B1=([]:List UInt8)++(([105,102,32]:List UInt8)++ss[0].cond.pt.2++[32,123,32]):=⟨_,rfl⟩
     have hL1:=d6 List.length hB1;simp only[j6,i7,j8] at hL1;have hN1:B1≠[]:=by rw[hB1];simp
     obtain⟨B3,hB3⟩:∃B3,B3=(B1++s7 ss[0].th)++[32,125]:=⟨_,rfl⟩
     have hL3:=d6 List.length hB3;simp only[j6,i7,j8] at hL3;have hN3:B3≠[]:=by rw[hB3];simp
     repeat'((first|(intro hlq;try simp only[SL] at hlq)|refine Meets.k (a5T _) ?_|refine Meets.k (htx) ?_|refine K9 ?_|((refine Kh (λhb=>?_) λhb=>?_)<;>try simp only[BL] at hb)|refine K8 ?_)<;>refine Kv z8 ?_)
     all_goals (try first|contradiction|(exfalso;omega))
     refine⟨prN (rr r) 90,_,⟨?_,?_⟩,(b3D r B1 [105,102,32] (by simp) [.s ss[0].cond.pt.2, .s [32,123,32]] (by rw[hB1];simp[r5,Item.text]) (by omega)).mono ?_⟩
     . exact Ko
     . exact Ko
     rintro o O2 ⟨rfl,rfl⟩;dsimp only;rw[p9 (p6 _)];refine Kv z8 ?_;repeat'((first|(intro hlq;try simp only[SL] at hlq)|refine K9 ?_|((refine Kh (λhb=>?_) λhb=>?_)<;>try simp only[BL] at hb)|refine K8 ?_)<;>refine Kv z8 ?_)
     refine⟨prO (rr r) 90 B1,_,⟨?_,?_⟩,(a2S r ss[0].th B1 hN1 ht hos.2.1.2 (by omega) (by omega)).mono ?_⟩
     . exact Ko
     . exact Ko
     rintro o O2 ⟨rfl,rfl⟩;dsimp only;rw[p9 (p6 _)];refine Kv z8 ?_;repeat'((first|(intro hlq;try simp only[SL] at hlq)|refine K9 ?_|((refine Kh (λhb=>?_) λhb=>?_)<;>try simp only[BL] at hb)|refine K8 ?_)<;>refine Kv z8 ?_)
     refine⟨prO (rr r) 90 (B1++s7 ss[0].th),_,⟨?_,?_⟩,(B6 r (B1++s7 ss[0].th) B3 [.s [32,125]] (by simp[hN1]) (by rw[hB3];simp[r5,Item.text]) (by omega)).mono ?_⟩
     . exact Ko
     . exact Ko
     rintro o O2 ⟨rfl,rfl⟩;dsimp only;rw[p9 (p6 _)];refine Kv z8 ?_;repeat'((first|(intro hlq;try simp only[SL] at hlq)|refine K9 ?_|((refine Kh (λhb=>?_) λhb=>?_)<;>try simp only[BL] at hb)|refine K8 ?_)<;>refine Kv z8 ?_)
     . rw[d4 (r9 (show 0<ss[0].el.length by omega))] at hE;have hLE:=d6 List.length hE;simp only[j6,i7,j8] at hLE;obtain⟨B4,hB4⟩:∃B4,B4=B3++[32,101,108,115,101,32,123,32]:=⟨_,rfl⟩
       have hL4:=d6 List.length hB4;simp only[j6,i7,j8] at hL4;have hN4:B4≠[]:=by rw[hB4];simp
       obtain⟨B5,hB5⟩:∃B5,B5=(B4++s7 ss[0].el)++[32,125]:=⟨_,rfl⟩
       have hL5:=d6 List.length hB5;simp only[j6,i7,j8] at hL5;refine⟨prO (rr r) 90 B3,_,⟨?_,?_⟩,(B6 r B3 B4 [.s [32,101,108,115,101,32,123,32]] hN3 (by rw[hB4];simp[r5,Item.text]) (by omega)).mono ?_⟩
       . exact Ko
       . exact Ko
       rintro o O2 ⟨rfl,rfl⟩;dsimp only;rw[p9 (p6 _)];refine Kv z8 ?_;repeat'((first|(intro hlq;try simp only[SL] at hlq)|refine K9 ?_|((refine Kh (λhb=>?_) λhb=>?_)<;>try simp only[BL] at hb)|refine K8 ?_)<;>refine Kv z8 ?_)
       refine⟨prO (rr r) 90 B4,_,⟨?_,?_⟩,(a2S r ss[0].el B4 hN4 he hos.2.2.2 (by omega) (by omega)).mono ?_⟩
       . exact Ko
       . exact Ko
       rintro o O2 ⟨rfl,rfl⟩;dsimp only;rw[p9 (p6 _)];refine Kv z8 ?_;repeat'((first|(intro hlq;try simp only[SL] at hlq)|refine K9 ?_|((refine Kh (λhb=>?_) λhb=>?_)<;>try simp only[BL] at hb)|refine K8 ?_)<;>refine Kv z8 ?_)
       refine⟨prO (rr r) 90 (B4++s7 ss[0].el),_,⟨?_,?_⟩,(B6 r (B4++s7 ss[0].el) B5 [.s [32,125]] (by simp[hN4]) (by rw[hB5];simp[r5,Item.text]) (by omega)).mono ?_⟩
       . exact Ko
       . exact Ko
       rintro o O2 ⟨rfl,rfl⟩;dsimp only;rw[p9 (p6 _)];refine Kv z8 ?_;repeat'((first|(intro hlq;try simp only[SL] at hlq)|refine K9 ?_|((refine Kh (λhb=>?_) λhb=>?_)<;>try simp only[BL] at hb)|refine K8 ?_)<;>refine Kv z8 ?_)
       have hz:=hend B5 (by rw[hB5,hB4,hB3,hB1,hE];simp) (by rw[hB5];simp);obtain⟨b1,B',hBc⟩:=a2m (by rw[hB5];simp:B5≠[]);rw[hBc] at hz⊢;refine⟨⟨(0+1,b1::B'),?_,hz,by dsimp only;omega⟩⟩;repeat'(first|exact d9|exact rfl|refine d8 ?_ ?_)
       all_goals exact s6 _ _
     . rw[c8 (show ¬decide (0<ss[0].el.length)=true by rw[j0];omega)] at hE;repeat'((first|(intro hlq;try simp only[SL] at hlq)|refine K9 ?_|((refine Kh (λhb=>?_) λhb=>?_)<;>try simp only[BL] at hb)|refine K8 ?_)<;>refine Kv z8 ?_)
       have hz:=hend B3 (by rw[hB3,hB1,hE];simp) hN3;obtain⟨b1,B',hBc⟩:=a2m hN3;rw[hBc] at hz⊢;refine⟨⟨(0+1,b1::B'),?_,hz,by dsimp only;omega⟩⟩;repeat'(first|exact d9|exact rfl|refine d8 ?_ ?_)
       all_goals exact s6 _ _
 . obtain ⟨b0,xs',rfl⟩:=a2m (λe=>by have:=hxe.1 e;omega:xs≠[]);refine Kv z8 ?_;refine⟨λh1=>?_,λh1=>?_⟩<;>(try simp only[BL] at h1)<;>refine Kv z8 ?_
   . have h1':i<ss.length:=by omega
     have hj:(t8 true ((ss.map Step.tx).take (i+1))).length<=(s7 ss).length:=a6C true _ _;have hst:=b0N Step.tx h1';have hm:=q7 h1';have hvs:=hv _ hm;have hos:=Step.ok_iff.1 (hok _ hm);have hmem:=b3n hm;have hsz:=U6 hm;have hszl:=Step.szl ss[i];have key:∃A,A++ss[i].tx=t8 true ((ss.map Step.tx).take (i+1))/\(0<i->A=(b0::xs')++[32])/\(i=0->A=(b0::xs')):=by
      by_cases h0:i=0
      . exact⟨(b0::xs'),by rw[hst,d4 h0,hxs];simp[h0,t8],by omega,λ_=>rfl⟩
      . exact⟨(b0::xs')++[32],by rw[hst,c8 h0,hxs],λ_=>rfl,by omega⟩
     obtain⟨A,hAe,hA1,hA0⟩:=key;have hal:A.length+ss[i].tx.length<=140737488355328:=by
      have hl2:=d6 List.length hAe;simp only[j6] at hl2;omega
     have hend:∀A',A'=A++ss[i].tx->A'≠[]->(i+1<=ss.length/\(A'=[]↔i+1=0)/\A'=t8 true ((ss.map Step.tx).take (i+1))):=λA' h hn=>⟨by omega,⟨λe=>absurd e hn,by omega⟩,by rw[h,hAe]⟩
     clear hj hst;rw[Step.tx_eq] at hal hend;have hAn:A≠[]:=by rw[hA1 h0i];simp
     repeat'((first|(intro hlq;try simp only[SL] at hlq)|refine K9 ?_|refine Ka ?_|refine Kb ?_|refine Kc (hd:=rfl) (e:=?_)|refine Kc (hd:=Step.cells_eq _) (e:=?_)|refine Kd (e:=?_)|refine Kl rfl ?_|fail)<;>refine Kv z8 ?_)
     refine⟨λh2=>?_,λh2=>?_⟩<;>(try simp only[BL] at h2)<;>refine Kv z8 ?_;rotate_left
     . omega
     have hAl:=a2F (hA1 h0i);refine⟨prO (rr r) 90 (b0::xs'),_,⟨?_,?_⟩,(B6 r (b0::xs') A [.s [32]] (by simp) (by rw[hA1 h0i];simp[r5,Item.text]) (by omega)).mono ?_⟩
     . exact Ko
     . exact Ko
     rintro o O2 ⟨rfl,rfl⟩;dsimp only;rw[p9 (p6 _)];refine Kv z8 ?_;rcases Step.cases hvs with⟨hk,hcr⟩|⟨hk,hc,hne,ht,he⟩
     . rw[d4 hk] at hal hend;rw[j6] at hal;obtain⟨B,hB⟩:∃B,B=A++(K4 ss[i].crit++[59]):=⟨_,rfl⟩
       have hBl:=a2F hB;repeat'((first|(intro hlq;try simp only[SL] at hlq)|refine⟨_,a9D hcr rfl rfl,?_⟩|refine K9 ?_|((refine Kh (λhb=>?_) λhb=>?_)<;>try simp only[BL] at hb)|refine K8 ?_)<;>refine Kv z8 ?_)
       all_goals (try first|contradiction|(exfalso;omega))
       refine⟨prO (rr r) 90 A,_,⟨?_,?_⟩,(B6 r A B [.s (K4 ss[i].crit), .s [59]] hAn (by rw[hB];simp[r5,Item.text]) (by simp only[j6] at hBl;omega)).mono ?_⟩
       . exact Ko
       . exact Ko
       rintro o O2 ⟨rfl,rfl⟩;dsimp only;rw[p9 (p6 _)];refine Kv z8 ?_;repeat'((first|(intro hlq;try simp only[SL] at hlq)|refine K9 ?_|((refine Kh (λhb=>?_) λhb=>?_)<;>try simp only[BL] at hb)|refine K8 ?_)<;>refine Kv z8 ?_)
       have hz:=hend B hB (by rw[hB];simp);obtain⟨b1,B',hBc⟩:=a2m (by rw[hB];simp:B≠[]);rw[hBc] at hz⊢;refine⟨⟨(i+1,b1::B'),?_,hz,by dsimp only;omega⟩⟩;repeat'(first|exact d9|exact rfl|refine d8 ?_ ?_)
       all_goals exact s6 _ _
     . rw [c8 (show ¬ss[i].kind=1 by omega)] at hal hend;have hcl:=a3Q ss[i].cond hc;have hn1:=ss[i].nst_eq;have hn2:=ss[i].ncd_eq;rw[a8R hc] at hn2;have hco:=N0 ss[i].cond;have htx:=a6I ss[i].cond.core (hco.valid hc) (hco.ok hos.1) hco.thin (by have:=hco.total;omega);rw[hco.pt] at htx;have hE:∃E:List UInt8,E=(if decide (0<ss[i].el.length)=true then([32,101,108,115,101,32,123,32]:List UInt8)++s7 ss[i].el++[32,125] else[]):=⟨_,rfl⟩
       obtain⟨E,hE⟩:=hE;rw[ifT,<-hE] at hal hend;simp only[j6,i7,j8] at hal;obtain⟨B1,hB1⟩:∃B1,B1=A++(([105,102,32]:List UInt8)++ss[i].cond.pt.2++[32,123,32]):=⟨_,rfl⟩
       have hL1:=d6 List.length hB1;simp only[j6,i7,j8] at hL1;have hN1:B1≠[]:=by rw[hB1];simp
       obtain⟨B3,hB3⟩:∃B3,B3=(B1++s7 ss[i].th)++[32,125]:=⟨_,rfl⟩
       have hL3:=d6 List.length hB3;simp only[j6,i7,j8] at hL3;have hN3:B3≠[]:=by rw[hB3];simp
       repeat'((first|(intro hlq;try simp only[SL] at hlq)|refine Meets.k (a5T _) ?_|refine Meets.k (htx) ?_|refine K9 ?_|((refine Kh (λhb=>?_) λhb=>?_)<;>try simp only[BL] at hb)|refine K8 ?_)<;>refine Kv z8 ?_)
       all_goals (try first|contradiction|(exfalso;omega))
       refine⟨prO (rr r) 90 A,_,⟨?_,?_⟩,(B6 r A B1 [.s [105,102,32], .s ss[i].cond.pt.2, .s [32,123,32]] hAn (by rw[hB1];simp[r5,Item.text]) (by omega)).mono ?_⟩
       . exact Ko
       . exact Ko
       rintro o O2 ⟨rfl,rfl⟩;dsimp only;rw[p9 (p6 _)];refine Kv z8 ?_;repeat'((first|(intro hlq;try simp only[SL] at hlq)|refine K9 ?_|((refine Kh (λhb=>?_) λhb=>?_)<;>try simp only[BL] at hb)|refine K8 ?_)<;>refine Kv z8 ?_)
       refine⟨prO (rr r) 90 B1,_,⟨?_,?_⟩,(a2S r ss[i].th B1 hN1 ht hos.2.1.2 (by omega) (by omega)).mono ?_⟩
       . exact Ko
       . exact Ko
       rintro o O2 ⟨rfl,rfl⟩;dsimp only;rw[p9 (p6 _)];refine Kv z8 ?_;repeat'((first|(intro hlq;try simp only[SL] at hlq)|refine K9 ?_|((refine Kh (λhb=>?_) λhb=>?_)<;>try simp only[BL] at hb)|refine K8 ?_)<;>refine Kv z8 ?_)
       refine⟨prO (rr r) 90 (B1++s7 ss[i].th),_,⟨?_,?_⟩,(B6 r (B1++s7 ss[i].th) B3 [.s [32,125]] (by simp[hN1]) (by rw[hB3];simp[r5,Item.text]) (by omega)).mono ?_⟩
       . exact Ko
       . exact Ko
       rintro o O2 ⟨rfl,rfl⟩;dsimp only;rw[p9 (p6 _)];refine Kv z8 ?_;repeat'((first|(intro hlq;try simp only[SL] at hlq)|refine K9 ?_|((refine Kh (λhb=>?_) λhb=>?_)<;>try simp only[BL] at hb)|refine K8 ?_)<;>refine Kv z8 ?_)
       . rw[d4 (r9 (show 0<ss[i].el.length by omega))] at hE;have hLE:=d6 List.length hE;simp only[j6,i7,j8] at hLE;obtain⟨B4,hB4⟩:∃B4,B4=B3++[32,101,108,115,101,32,123,32]:=⟨_,rfl⟩
         have hL4:=d6 List.length hB4;simp only[j6,i7,j8] at hL4;have hN4:B4≠[]:=by rw[hB4];simp
         obtain⟨B5,hB5⟩:∃B5,B5=(B4++s7 ss[i].el)++[32,125]:=⟨_,rfl⟩
         have hL5:=d6 List.length hB5;simp only[j6,i7,j8] at hL5;refine⟨prO (rr r) 90 B3,_,⟨?_,?_⟩,(B6 r B3 B4 [.s [32,101,108,115,101,32,123,32]] hN3 (by rw[hB4];simp[r5,Item.text]) (by omega)).mono ?_⟩
         . exact Ko
         . exact Ko
         rintro o O2 ⟨rfl,rfl⟩;dsimp only;rw[p9 (p6 _)];refine Kv z8 ?_;repeat'((first|(intro hlq;try simp only[SL] at hlq)|refine K9 ?_|((refine Kh (λhb=>?_) λhb=>?_)<;>try simp only[BL] at hb)|refine K8 ?_)<;>refine Kv z8 ?_)
         refine⟨prO (rr r) 90 B4,_,⟨?_,?_⟩,(a2S r ss[i].el B4 hN4 he hos.2.2.2 (by omega) (by omega)).mono ?_⟩
         . exact Ko
         . exact Ko
         rintro o O2 ⟨rfl,rfl⟩;dsimp only;rw[p9 (p6 _)];refine Kv z8 ?_;repeat'((first|(intro hlq;try simp only[SL] at hlq)|refine K9 ?_|((refine Kh (λhb=>?_) λhb=>?_)<;>try simp only[BL] at hb)|refine K8 ?_)<;>refine Kv z8 ?_)
         refine⟨prO (rr r) 90 (B4++s7 ss[i].el),_,⟨?_,?_⟩,(B6 r (B4++s7 ss[i].el) B5 [.s [32,125]] (by simp[hN4]) (by rw[hB5];simp[r5,Item.text]) (by omega)).mono ?_⟩
         . exact Ko
         . exact Ko
         rintro o O2 ⟨rfl,rfl⟩;dsimp only;rw[p9 (p6 _)];refine Kv z8 ?_;repeat'((first|(intro hlq;try simp only[SL] at hlq)|refine K9 ?_|((refine Kh (λhb=>?_) λhb=>?_)<;>try simp only[BL] at hb)|refine K8 ?_)<;>refine Kv z8 ?_)
         have hz:=hend B5 (by rw[hB5,hB4,hB3,hB1,hE];simp) (by rw[hB5];simp);obtain⟨b1,B',hBc⟩:=a2m (by rw[hB5];simp:B5≠[]);rw[hBc] at hz⊢;refine⟨⟨(i+1,b1::B'),?_,hz,by dsimp only;omega⟩⟩;repeat'(first|exact d9|exact rfl|refine d8 ?_ ?_)
         all_goals exact s6 _ _
       . rw[c8 (show ¬decide (0<ss[i].el.length)=true by rw[j0];omega)] at hE;repeat'((first|(intro hlq;try simp only[SL] at hlq)|refine K9 ?_|((refine Kh (λhb=>?_) λhb=>?_)<;>try simp only[BL] at hb)|refine K8 ?_)<;>refine Kv z8 ?_)
         have hz:=hend B3 (by rw[hB3,hB1,hE];simp) hN3;obtain⟨b1,B',hBc⟩:=a2m hN3;rw[hBc] at hz⊢;refine⟨⟨(i+1,b1::B'),?_,hz,by dsimp only;omega⟩⟩;repeat'(first|exact d9|exact rfl|refine d8 ?_ ?_)
         all_goals exact s6 _ _
   . obtain rfl:i=ss.length:=by omega
     have e:(ss.map Step.tx).take ss.length=ss.map Step.tx:=y6 (by simp);rw[e] at hxs;exact⟨prO (rr r) 90 (b0::xs'), .d (.tup []),⟨s6 _ _,⟨⟨rfl,a1C _ _⟩,⟨rfl,rfl,rfl,rfl⟩,trivial⟩,rfl⟩,⟨rfl,by rw[hxs];rfl⟩⟩
def a9B (c:Cond):List UInt8:=if c.errno=0 then c.pt.2 else[]
def b0W (l:List Step):List UInt8:=if K6 l=0 then s7 l else[]
theorem c6c {c:Cond}(h:c.errno=0):c.valid=true/\c.total<=256:=by
 unfold Cond.errno at h;split at h
 . split at h
   . exact⟨by assumption,by omega⟩
   . cases h
 . cases h
theorem c1V (c:Cond)(hok:c.ok):Mt 14 [c.d] λd=>d= .tup [.str (a9B c),iD c.errno]:=by
 refine En {} Tryz.func14 Tryz.ntmps14 λ_ _ _ _ _=>?_;refine Kw ?_;repeat'((first|(intro hlq;try simp only[SL] at hlq)|refine Meets.k (d2T c hok) ?_|refine K9 ?_|((refine Kh (λhb=>?_) λhb=>?_)<;>try simp only[BL] at hb)|refine K8 ?_)<;>refine Kw ?_)
 . exact⟨by rw[a9B,c8 (by assumption)]⟩
 have he:c.errno=0:=by omega
 obtain⟨hv,ht⟩:=c6c he;have hco:=N0 c;have htx:=a6I c.core (hco.valid hv) (hco.ok hok) hco.thin (by have:=hco.total;omega);rw[hco.pt] at htx;repeat'((first|(intro hlq;try simp only[SL] at hlq)|refine Meets.k (a5T _) ?_|refine Meets.k (htx) ?_|refine K9 ?_|((refine Kh (λhb=>?_) λhb=>?_)<;>try simp only[BL] at hb)|refine K8 ?_)<;>refine Kw ?_)
 refine⟨?_⟩;rw[a9B,d4 he,he]
theorem d3z {l:List Step}(h4:K6 l=0):l≠[]:=by
 unfold K6 at h4;split at h4
 . split at h4
   . rename_i hv;exact hv.1
   . cases h4
 . cases h4
theorem c9t {l:List Step}(h4:K6 l=0):Step.ncdL l<=256:=by
 unfold K6 at h4;split at h4
 . rename_i hf;split at h4
   . rename_i hv;obtain⟨_,k2,_⟩:=F_S l;simp only[C2,C0,f0,j0,k2] at hf;rcases hf with hf|hf
     . exact absurd (by simpa[q9] using hf) hv.1
     . omega
   . cases h4
 . cases h4
noncomputable def zR (i:Nat):D:=[D.str [], .raw (.slice none 0 0), .raw (.slice none 0 0), .raw (.slice none 0 0), .raw (.slice none 0 0), .raw (.slice none 0 0), .raw (.slice none 0 0), .raw (.slice none 0 0), .raw (.slice none 0 0),iD 0,iD 0,iD 0,iD 0,iD 0,iD 0,iD 0].getD i .junk
theorem d2M {l:List Step}(h:l≠[])(hv:∀s∈l,s.valid=true):s7 l≠[]:=by
 obtain⟨s,r,rfl⟩:=a2m h;have hs:=b6K s.crit;rw[s7,o5,t8,Step.tx_eq];split
 . simp
 . simp[ifT]
theorem b6v (r:Nat->D)(d:D)(ty:TypeId):a0x (.d d) [(1000,Blk.box (.d .junk:: .d .junk::rr r) ty)]=true:=rfl
abbrev a7A:Cfg:={nm:=[(12,1000)],priv:=[11],rs:=[15,19]}
theorem c1W (l:List Step)(hl:l.length<=1048576)(hok:∀s∈l,s.ok):Mt 20 [.sl (l.map Step.cells)] λd=>d= .tup [.str (b0W l),iD (K6 l)]:=by
 refine En a7A Tryz.func20 Tryz.ntmps20 λ_ _ _ _ _=>?_;refine Kv a7A ?_;repeat'((first|(intro hlq;try simp only[SL] at hlq)|refine Meets.k (c0G l hl hok) ?_|refine K9 ?_|((refine Kh (λhb=>?_) λhb=>?_)<;>try simp only[BL] at hb)|refine K8 ?_)<;>refine Kv a7A ?_)
 . exact⟨by rw[b0W,c8 (by assumption)]⟩
 have he:K6 l=0:=by omega
 have ht:=c0K he;have hc:=c9t he;have hne:=d3z he;have hT:=b4n ht.1;have hT2:=d2M hne ht.1;refine⟨prN (rr zR) 90,_,⟨?_,?_⟩,(d0p zR l hne ht.1 hok (by omega) (by omega)).mono ?_⟩
 . exact Kr
 . repeat'(first|exact d9|exact rfl|refine d8 ?_ ?_)
   all_goals first|exact s6 _ _|trace_state
 rintro o O2 ⟨rfl,rfl⟩;dsimp only;rw[p9 (p6 _)];refine Kv a7A ?_;refine⟨prO (rr zR) 90 (s7 l),_,⟨?_,?_⟩,(b8K 1000 1001 (by decide) (.loc 1000 0) (s7 l) hT2 (by unfold maxLen;omega)).mono ?_⟩
 . exact Kr
 . repeat'(first|exact d9|exact rfl|refine d8 ?_ ?_)
   all_goals exact s6 _ _
 rintro o O2 ⟨rfl,rfl⟩;dsimp only;rw[b6v];refine Kv a7A ?_;refine⟨?_⟩;rw[b0W,d4 he,he]
end Go.Proofs.YteillnfhkeebjaaGreatDoor.Dx
