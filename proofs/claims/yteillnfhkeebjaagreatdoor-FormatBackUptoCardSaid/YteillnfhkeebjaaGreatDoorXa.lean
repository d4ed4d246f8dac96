/- format. -/
import Derived.Test.YteillnfhkeebjaaGreatDoorWz
set_option linter.all false
namespace Go.Proofs.YteillnfhkeebjaaGreatDoor.Dx
open Go Go.RowKit Go.Proofs
set_option maxRecDepth 100000
set_option maxHeartbeats 16000000
theorem a9D {cs:List Base}{b:Int}{o:Nat}(h:1<=b/\b<=5)(ho:o=0+b.toNat *1)(hc:cs=[.d (.str []), .d (.str [111,108,100,101,114]), .d (.str [121,111,117,110,103,101,114]), .d (.str [119,97,118,101]), .d (.str [98,105,98]), .d (.str [100,114,97,119])]):cs[o]?=some (.d (.str (K4 b))):=by
 subst ho hc;rcases(by omega:b=1\/b=2\/b=3\/b=4\/b=5) with rfl|rfl|rfl|rfl|rfl<;>rfl
theorem a2F {a b c:List UInt8}(h:a=b++c):a.length=b.length+c.length:=by rw[h,j6]
abbrev A4:Cfg:={sym:=[4],rs:=[20,32,42,46,50,58,62,66]}
theorem a2S (r:Nat->D)(ss:List Step)(l:List UInt8)(hl:l≠[])(hv:∀s∈ss,s.valid=true)(hok:∀s∈ss,s.ok)(hb:Step.nstL ss+Step.ncdL ss<=1000)(hlen:l.length+(s7 ss).length<=140737488355328):
 MR 37 [.loc 1000 0, .d (.sl (ss.map Step.cells))] (prO (rr r) 90 l) λo O'=>o= .ret (.d (.tup []))/\O'=prO (rr r) 90 (l++s7 ss):=by
 refine EnR A4 Tryz.func37 Tryz.ntmps37 λ_ _ _ _ _=>?_;refine Kv A4 ?_;refine⟨by simp,?_⟩;refine Kv A4 ?_;intro hlq;have hlq:ss.length<=9223372036854775807:=by simpa[maxLen] using hlq
 refine Kv A4 ?_;refine o4 tok A4 [] (X:=Nat×List UInt8) (λx=>[(10,iB x.1)]) (λx=>prO (rr r) 90 x.2) [6] (λx=>x.1<=ss.length/\x.2=l++t8 true ((ss.map Step.tx).take x.1)) (λx=>ss.length-x.1) (0,l) ?_;refine Kv A4 ?_;refine d8 ?_ ⟨⟨by omega,by simp[t8]⟩,λx hΦ=>?_⟩
 . repeat'(first|exact d9|exact rfl|refine d8 ?_ ?_)
   all_goals exact s6 _ _
 obtain⟨i,xs⟩:=x;obtain⟨hi,hxs⟩:=hΦ;dsimp only at hi hxs;refine Kv A4 ?_;refine⟨λh1=>?_,λh1=>?_⟩<;>(try simp only[BL] at h1)<;>refine Kv A4 ?_
 . have h1':i<ss.length:=by omega
   have hj:(t8 true ((ss.map Step.tx).take (i+1))).length<=(s7 ss).length:=a6C true _ _;have hst:=b0N Step.tx h1';have hm:=q7 h1';have hvs:=hv _ hm;have hos:=Step.ok_iff.1 (hok _ hm);have hmem:=b3n hm;have hsz:=U6 hm;have hszl:=Step.szl ss[i];have hnx:xs≠[]:=by rw[hxs];simp[hl]
   have key:∃A,A++ss[i].tx=l++t8 true ((ss.map Step.tx).take (i+1))/\A≠[]/\(0<i->A=xs++[32])/\(i=0->A=xs):=by
    by_cases h0:i=0
    . exact⟨xs,by rw[hst,d4 h0,hxs];subst h0;simp[t8],hnx,by omega,λ_=>rfl⟩
    . exact⟨xs++[32],by rw[hst,c8 h0,hxs];simp,by simp,λ_=>rfl,by omega⟩
   obtain⟨A,hAe,hAn,hA1,hA0⟩:=key;have hal:A.length+ss[i].tx.length<=140737488355328:=by
    have hl2:=d6 List.length hAe;simp only[j6] at hl2;omega
   have hend:∀A',A'=A++ss[i].tx->(i+1<=ss.length/\A'=l++t8 true ((ss.map Step.tx).take (i+1))):=λA' h=>⟨by omega,by rw[h,hAe]⟩
   clear hj hst;rw[Step.tx_eq] at hal hend;repeat'((first|(intro hlq;try simp only[SL] at hlq)|refine K9 ?_|refine Ka ?_|refine Kb ?_|refine Kc (hd:=rfl) (e:=?_)|refine Kc (hd:=Step.cells_eq _) (e:=?_)|refine Kd (e:=?_)|refine Kl rfl ?_|fail)<;>refine Kv A4 ?_)
   refine⟨λh2=>?_,λh2=>?_⟩<;>(try simp only[BL] at h2)<;>refine Kv A4 ?_
   . have hAl:=a2F (hA1 (by omega));refine⟨prO (rr r) 90 xs,_,⟨?_,?_⟩,(B6 r xs A [.s [32]] hnx (by rw[hA1 (by omega)];simp[r5,Item.text]) (by omega)).mono ?_⟩
     . exact Ko
     . exact Ko
     rintro o O2 ⟨rfl,rfl⟩;dsimp only;rw[p9 (p6 _)];refine Kv A4 ?_;rcases Step.cases hvs with⟨hk,hcr⟩|⟨hk,hc,hne,ht,he⟩
     . rw[d4 hk] at hal hend;rw[j6] at hal;obtain⟨B,hB⟩:∃B,B=A++(K4 ss[i].crit++[59]):=⟨_,rfl⟩
       have hBl:=a2F hB;repeat'((first|(intro hlq;try simp only[SL] at hlq)|refine⟨_,a9D hcr rfl rfl,?_⟩|refine K9 ?_|((refine Kh (λhb=>?_) λhb=>?_)<;>try simp only[BL] at hb)|refine K8 ?_)<;>refine Kv A4 ?_)
       all_goals (try first|contradiction|(exfalso;omega))
       refine⟨prO (rr r) 90 A,_,⟨?_,?_⟩,(B6 r A B [.s (K4 ss[i].crit), .s [59]] hAn (by rw[hB];simp[r5,Item.text]) (by simp only[j6] at hBl;omega)).mono ?_⟩
       . exact Ko
       . exact Ko
       rintro o O2 ⟨rfl,rfl⟩;dsimp only;rw[p9 (p6 _)];refine Kv A4 ?_;repeat'((first|(intro hlq;try simp only[SL] at hlq)|refine K9 ?_|((refine Kh (λhb=>?_) λhb=>?_)<;>try simp only[BL] at hb)|refine K8 ?_)<;>refine Kv A4 ?_)
       refine⟨⟨(i+1,B),?_,hend B hB,by dsimp only;omega⟩⟩;repeat'(first|exact d9|exact rfl|refine d8 ?_ ?_)
       all_goals exact s6 _ _
     . rw [c8 (show ¬ss[i].kind=1 by omega)] at hal hend;have hcl:=a3Q ss[i].cond hc;have hn1:=ss[i].nst_eq;have hn2:=ss[i].ncd_eq;rw[a8R hc] at hn2;have hco:=N0 ss[i].cond;have htx:=a6I ss[i].cond.core (hco.valid hc) (hco.ok hos.1) hco.thin (by have:=hco.total;omega);rw[hco.pt] at htx;have hE:∃E:List UInt8,E=(if decide (0<ss[i].el.length)=true then([32,101,108,115,101,32,123,32]:List UInt8)++s7 ss[i].el++[32,125] else[]):=⟨_,rfl⟩
       obtain⟨E,hE⟩:=hE;rw[ifT,<-hE] at hal hend;simp only[j6,i7,j8] at hal;obtain⟨B1,hB1⟩:∃B1,B1=A++(([105,102,32]:List UInt8)++ss[i].cond.pt.2++[32,123,32]):=⟨_,rfl⟩
       have hL1:=d6 List.length hB1;simp only[j6,i7,j8] at hL1;have hN1:B1≠[]:=by rw[hB1];simp
       obtain⟨B3,hB3⟩:∃B3,B3=(B1++s7 ss[i].th)++[32,125]:=⟨_,rfl⟩
       have hL3:=d6 List.length hB3;simp only[j6,i7,j8] at hL3;have hN3:B3≠[]:=by rw[hB3];simp
       repeat'((first|(intro hlq;try simp only[SL] at hlq)|refine Meets.k (a5T _) ?_|refine Meets.k (htx) ?_|refine K9 ?_|((refine Kh (λhb=>?_) λhb=>?_)<;>try simp only[BL] at hb)|refine K8 ?_)<;>refine Kv A4 ?_)
       all_goals (try first|contradiction|(exfalso;omega))
       refine⟨prO (rr r) 90 A,_,⟨?_,?_⟩,(B6 r A B1 [.s [105,102,32], .s ss[i].cond.pt.2, .s [32,123,32]] hAn (by rw[hB1];simp[r5,Item.text]) (by omega)).mono ?_⟩
       . exact Ko
       . exact Ko
       rintro o O2 ⟨rfl,rfl⟩;dsimp only;rw[p9 (p6 _)];refine Kv A4 ?_;repeat'((first|(intro hlq;try simp only[SL] at hlq)|refine K9 ?_|((refine Kh (λhb=>?_) λhb=>?_)<;>try simp only[BL] at hb)|refine K8 ?_)<;>refine Kv A4 ?_)
       refine⟨prO (rr r) 90 B1,_,⟨?_,?_⟩,(a2S r ss[i].th B1 hN1 ht hos.2.1.2 (by omega) (by omega)).mono ?_⟩
       . exact Ko
       . exact Ko
       rintro o O2 ⟨rfl,rfl⟩;dsimp only;rw[p9 (p6 _)];refine Kv A4 ?_;repeat'((first|(intro hlq;try simp only[SL] at hlq)|refine K9 ?_|((refine Kh (λhb=>?_) λhb=>?_)<;>try simp only[BL] at hb)|refine K8 ?_)<;>refine Kv A4 ?_)
       refine⟨prO (rr r) 90 (B1++s7 ss[i].th),_,⟨?_,?_⟩,(B6 r (B1++s7 ss[i].th) B3 [.s [32,125]] (by simp[hN1]) (by rw[hB3];simp[r5,Item.text]) (by omega)).mono ?_⟩
       . exact Ko
       . exact Ko
       rintro o O2 ⟨rfl,rfl⟩;dsimp only;rw[p9 (p6 _)];refine Kv A4 ?_;repeat'((first|(intro hlq;try simp only[SL] at hlq)|refine K9 ?_|((refine Kh (λhb=>?_) λhb=>?_)<;>try simp only[BL] at hb)|refine K8 ?_)<;>refine Kv A4 ?_)
       . rw[d4 (r9 (show 0<ss[i].el.length by omega))] at hE;have hLE:=d6 List.length hE;simp only[j6,i7,j8] at hLE;obtain⟨B4,hB4⟩:∃B4,B4=B3++[32,101,108,115,101,32,123,32]:=⟨_,rfl⟩
         have hL4:=d6 List.length hB4;simp only[j6,i7,j8] at hL4;have hN4:B4≠[]:=by rw[hB4];simp
         obtain⟨B5,hB5⟩:∃B5,B5=(B4++s7 ss[i].el)++[32,125]:=⟨_,rfl⟩
         have hL5:=d6 List.length hB5;simp only[j6,i7,j8] at hL5;refine⟨prO (rr r) 90 B3,_,⟨?_,?_⟩,(B6 r B3 B4 [.s [32,101,108,115,101,32,123,32]] hN3 (by rw[hB4];simp[r5,Item.text]) (by omega)).mono ?_⟩
         . exact Ko
         . exact Ko
         rintro o O2 ⟨rfl,rfl⟩;dsimp only;rw[p9 (p6 _)];refine Kv A4 ?_;repeat'((first|(intro hlq;try simp only[SL] at hlq)|refine K9 ?_|((refine Kh (λhb=>?_) λhb=>?_)<;>try simp only[BL] at hb)|refine K8 ?_)<;>refine Kv A4 ?_)
         refine⟨prO (rr r) 90 B4,_,⟨?_,?_⟩,(a2S r ss[i].el B4 hN4 he hos.2.2.2 (by omega) (by omega)).mono ?_⟩
         . exact Ko
         . exact Ko
         rintro o O2 ⟨rfl,rfl⟩;dsimp only;rw[p9 (p6 _)];refine Kv A4 ?_;repeat'((first|(intro hlq;try simp only[SL] at hlq)|refine K9 ?_|((refine Kh (λhb=>?_) λhb=>?_)<;>try simp only[BL] at hb)|refine K8 ?_)<;>refine Kv A4 ?_)
         refine⟨prO (rr r) 90 (B4++s7 ss[i].el),_,⟨?_,?_⟩,(B6 r (B4++s7 ss[i].el) B5 [.s [32,125]] (by simp[hN4]) (by rw[hB5];simp[r5,Item.text]) (by omega)).mono ?_⟩
         . exact Ko
         . exact Ko
         rintro o O2 ⟨rfl,rfl⟩;dsimp only;rw[p9 (p6 _)];refine Kv A4 ?_;repeat'((first|(intro hlq;try simp only[SL] at hlq)|refine K9 ?_|((refine Kh (λhb=>?_) λhb=>?_)<;>try simp only[BL] at hb)|refine K8 ?_)<;>refine Kv A4 ?_)
         refine⟨⟨(i+1,B5),?_,hend B5 (by rw[hB5,hB4,hB3,hB1,hE];simp),by dsimp only;omega⟩⟩;repeat'(first|exact d9|exact rfl|refine d8 ?_ ?_)
         all_goals exact s6 _ _
       . rw[c8 (show ¬decide (0<ss[i].el.length)=true by rw[j0];omega)] at hE;repeat'((first|(intro hlq;try simp only[SL] at hlq)|refine K9 ?_|((refine Kh (λhb=>?_) λhb=>?_)<;>try simp only[BL] at hb)|refine K8 ?_)<;>refine Kv A4 ?_)
         refine⟨⟨(i+1,B3),?_,hend B3 (by rw[hB3,hB1,hE];simp),by dsimp only;omega⟩⟩;repeat'(first|exact d9|exact rfl|refine d8 ?_ ?_)
         all_goals exact s6 _ _
   . obtain rfl:A=xs:=hA0 (by omega);rcases Step.cases hvs with⟨hk,hcr⟩|⟨hk,hc,hne,ht,he⟩
     . rw[d4 hk] at hal hend;rw[j6] at hal;obtain⟨B,hB⟩:∃B,B=A++(K4 ss[i].crit++[59]):=⟨_,rfl⟩
       have hBl:=a2F hB;repeat'((first|(intro hlq;try simp only[SL] at hlq)|refine⟨_,a9D hcr rfl rfl,?_⟩|refine K9 ?_|((refine Kh (λhb=>?_) λhb=>?_)<;>try simp only[BL] at hb)|refine K8 ?_)<;>refine Kv A4 ?_)
       all_goals (try first|contradiction|(exfalso;omega))
       refine⟨prO (rr r) 90 A,_,⟨?_,?_⟩,(B6 r A B [.s (K4 ss[i].crit), .s [59]] hAn (by rw[hB];simp[r5,Item.text]) (by simp only[j6] at hBl;omega)).mono ?_⟩
       . exact Ko
       . exact Ko
       rintro o O2 ⟨rfl,rfl⟩;dsimp only;rw[p9 (p6 _)];refine Kv A4 ?_;repeat'((first|(intro hlq;try simp only[SL] at hlq)|refine K9 ?_|((refine Kh (λhb=>?_) λhb=>?_)<;>try simp only[BL] at hb)|refine K8 ?_)<;>refine Kv A4 ?_)
       refine⟨⟨(i+1,B),?_,hend B hB,by dsimp only;omega⟩⟩;repeat'(first|exact d9|exact rfl|refine d8 ?_ ?_)
       all_goals exact s6 _ _
     . rw [c8 (show ¬ss[i].kind=1 by omega)] at hal hend;have hcl:=a3Q ss[i].cond hc;have hn1:=ss[i].nst_eq;have hn2:=ss[i].ncd_eq;rw[a8R hc] at hn2;have hco:=N0 ss[i].cond;have htx:=a6I ss[i].cond.core (hco.valid hc) (hco.ok hos.1) hco.thin (by have:=hco.total;omega);rw[hco.pt] at htx;have hE:∃E:List UInt8,E=(if decide (0<ss[i].el.length)=true then([32,101,108,115,101,32,123,32]:List UInt8)++s7 ss[i].el++[32,125] else[]):=⟨_,rfl⟩
       obtain⟨E,hE⟩:=hE;rw[ifT,<-hE] at hal hend;simp only[j6,i7,j8] at hal;obtain⟨B1,hB1⟩:∃B1,B1=A++(([105,102,32]:List UInt8)++ss[i].cond.pt.2++[32,123,32]):=⟨_,rfl⟩
       have hL1:=d6 List.length hB1;simp only[j6,i7,j8] at hL1;have hN1:B1≠[]:=by rw[hB1];simp
       obtain⟨B3,hB3⟩:∃B3,B3=(B1++s7 ss[i].th)++[32,125]:=⟨_,rfl⟩
       have hL3:=d6 List.length hB3;simp only[j6,i7,j8] at hL3;have hN3:B3≠[]:=by rw[hB3];simp
       repeat'((first|(intro hlq;try simp only[SL] at hlq)|refine Meets.k (a5T _) ?_|refine Meets.k (htx) ?_|refine K9 ?_|((refine Kh (λhb=>?_) λhb=>?_)<;>try simp only[BL] at hb)|refine K8 ?_)<;>refine Kv A4 ?_)
       all_goals (try first|contradiction|(exfalso;omega))
       refine⟨prO (rr r) 90 A,_,⟨?_,?_⟩,(B6 r A B1 [.s [105,102,32], .s ss[i].cond.pt.2, .s [32,123,32]] hAn (by rw[hB1];simp[r5,Item.text]) (by omega)).mono ?_⟩
       . exact Ko
       . exact Ko
       rintro o O2 ⟨rfl,rfl⟩;dsimp only;rw[p9 (p6 _)];refine Kv A4 ?_;repeat'((first|(intro hlq;try simp only[SL] at hlq)|refine K9 ?_|((refine Kh (λhb=>?_) λhb=>?_)<;>try simp only[BL] at hb)|refine K8 ?_)<;>refine Kv A4 ?_)
       refine⟨prO (rr r) 90 B1,_,⟨?_,?_⟩,(a2S r ss[i].th B1 hN1 ht hos.2.1.2 (by omega) (by omega)).mono ?_⟩
       . exact Ko
       . exact Ko
       rintro o O2 ⟨rfl,rfl⟩;dsimp only;rw[p9 (p6 _)];refine Kv A4 ?_;repeat'((first|(intro hlq;try simp only[SL] at hlq)|refine K9 ?_|((refine Kh (λhb=>?_) λhb=>?_)<;>try simp only[BL] at hb)|refine K8 ?_)<;>refine Kv A4 ?_)
       refine⟨prO (rr r) 90 (B1++s7 ss[i].th),_,⟨?_,?_⟩,(B6 r (B1++s7 ss[i].th) B3 [.s [32,125]] (by simp[hN1]) (by rw[hB3];simp[r5,Item.text]) (by omega)).mono ?_⟩
       . exact Ko
       . exact Ko
       rintro o O2 ⟨rfl,rfl⟩;dsimp only;rw[p9 (p6 _)];refine Kv A4 ?_;repeat'((first|(intro hlq;try simp only[SL] at hlq)|refine K9 ?_|((refine Kh (λhb=>?_) λhb=>?_)<;>try simp only[BL] at hb)|refine K8 ?_)<;>refine Kv A4 ?_)
       . rw[d4 (r9 (show 0<ss[i].el.length by omega))] at hE;have hLE:=d6 List.length hE;simp only[j6,i7,j8] at hLE;obtain⟨B4,hB4⟩:∃B4,B4=B3++[32,101,108,115,101,32,123,32]:=⟨_,rfl⟩
         have hL4:=d6 List.length hB4;simp only[j6,i7,j8] at hL4;have hN4:B4≠[]:=by rw[hB4];simp
         obtain⟨B5,hB5⟩:∃B5,B5=(B4++s7 ss[i].el)++[32,125]:=⟨_,rfl⟩
         have hL5:=d6 List.length hB5;simp only[j6,i7,j8] at hL5;refine⟨prO (rr r) 90 B3,_,⟨?_,?_⟩,(B6 r B3 B4 [.s [32,101,108,115,101,32,123,32]] hN3 (by rw[hB4];simp[r5,Item.text]) (by omega)).mono ?_⟩
         . exact Ko
         . exact Ko
         rintro o O2 ⟨rfl,rfl⟩;dsimp only;rw[p9 (p6 _)];refine Kv A4 ?_;repeat'((first|(intro hlq;try simp only[SL] at hlq)|refine K9 ?_|((refine Kh (λhb=>?_) λhb=>?_)<;>try simp only[BL] at hb)|refine K8 ?_)<;>refine Kv A4 ?_)
         refine⟨prO (rr r) 90 B4,_,⟨?_,?_⟩,(a2S r ss[i].el B4 hN4 he hos.2.2.2 (by omega) (by omega)).mono ?_⟩
         . exact Ko
         . exact Ko
         rintro o O2 ⟨rfl,rfl⟩;dsimp only;rw[p9 (p6 _)];refine Kv A4 ?_;repeat'((first|(intro hlq;try simp only[SL] at hlq)|refine K9 ?_|((refine Kh (λhb=>?_) λhb=>?_)<;>try simp only[BL] at hb)|refine K8 ?_)<;>refine Kv A4 ?_)
         refine⟨prO (rr r) 90 (B4++s7 ss[i].el),_,⟨?_,?_⟩,(B6 r (B4++s7 ss[i].el) B5 [.s [32,125]] (by simp[hN4]) (by rw[hB5];simp[r5,Item.text]) (by omega)).mono ?_⟩
         . exact Ko
         . exact Ko
         rintro o O2 ⟨rfl,rfl⟩;dsimp only;rw[p9 (p6 _)];refine Kv A4 ?_;repeat'((first|(intro hlq;try simp only[SL] at hlq)|refine K9 ?_|((refine Kh (λhb=>?_) λhb=>?_)<;>try simp only[BL] at hb)|refine K8 ?_)<;>refine Kv A4 ?_)
         refine⟨⟨(i+1,B5),?_,hend B5 (by rw[hB5,hB4,hB3,hB1,hE];simp),by dsimp only;omega⟩⟩;repeat'(first|exact d9|exact rfl|refine d8 ?_ ?_)
         all_goals exact s6 _ _
       . rw[c8 (show ¬decide (0<ss[i].el.length)=true by rw[j0];omega)] at hE;repeat'((first|(intro hlq;try simp only[SL] at hlq)|refine K9 ?_|((refine Kh (λhb=>?_) λhb=>?_)<;>try simp only[BL] at hb)|refine K8 ?_)<;>refine Kv A4 ?_)
         refine⟨⟨(i+1,B3),?_,hend B3 (by rw[hB3,hB1,hE];simp),by dsimp only;omega⟩⟩;repeat'(first|exact d9|exact rfl|refine d8 ?_ ?_)
         all_goals exact s6 _ _
 . obtain rfl:i=ss.length:=by omega
   have e:(ss.map Step.tx).take ss.length=ss.map Step.tx:=y6 (by simp);rw[e] at hxs;exact⟨prO (rr r) 90 xs, .d (.tup []),⟨s6 _ _,⟨⟨rfl,a1C _ _⟩,⟨rfl,rfl,rfl,rfl⟩,trivial⟩,rfl⟩,⟨rfl,by rw[hxs];rfl⟩⟩
termination_by SizeOf.sizeOf ss
decreasing_by all_goals omega
end Go.Proofs.YteillnfhkeebjaaGreatDoor.Dx
