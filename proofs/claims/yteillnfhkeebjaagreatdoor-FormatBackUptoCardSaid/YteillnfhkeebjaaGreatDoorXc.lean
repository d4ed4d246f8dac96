/- format. -/
import Derived.Test.YteillnfhkeebjaaGreatDoorXb
set_option linter.all false
namespace Go.Proofs.YteillnfhkeebjaaGreatDoor.Dx
open Go Go.RowKit Go.Proofs
set_option maxRecDepth 100000
set_option maxHeartbeats 16000000
abbrev E0:Cfg:={rs:=[18,26,30,38,42,46]}
theorem b3y (c:Course)(hg:Good c)(ss:List Part)(l:List UInt8)(hl:l≠[])(hv:∀s∈ss,s.good c.m=true)(hb:Part.cntL ss<=1000)(hlen:l.length+(Q1 c.mats ss).length<=140737488355328):
 MR 81 [.loc 1000 0, .d (.sl (ss.map Part.cells))] (prO (rr (cR c)) 90 l) λo O'=>o= .ret (.d (.tup []))/\O'=prO (rr (cR c)) 90 (l++Q1 c.mats ss):=by
 refine EnR E0 Tryz.func81 Tryz.ntmps81 λ_ _ _ _ _=>?_;refine Kv E0 ?_;intro hlq;have hlq:ss.length<=9223372036854775807:=by simpa[maxLen] using hlq
 refine Kv E0 ?_;refine o4 tok E0 [] (X:=Nat×List UInt8) (λx=>[(8,iB x.1)]) (λx=>prO (rr (cR c)) 90 x.2) [5] (λx=>x.1<=ss.length/\x.2=l++t8 true ((ss.map (Part.tx c.mats)).take x.1)) (λx=>ss.length-x.1) (0,l) ?_;refine Kv E0 ?_;refine d8 ?_ ⟨⟨by omega,by simp[t8]⟩,λx hΦ=>?_⟩
 . repeat'(first|exact d9|exact rfl|refine d8 ?_ ?_)
   all_goals exact s6 _ _
 obtain⟨i,xs⟩:=x;obtain⟨hi,hxs⟩:=hΦ;dsimp only at hi hxs;refine Kv E0 ?_;refine⟨λh1=>?_,λh1=>?_⟩<;>(try simp only[BL] at h1)<;>refine Kv E0 ?_
 . have h1':i<ss.length:=by omega
   have hj:(t8 true ((ss.map (Part.tx c.mats)).take (i+1))).length<=(Q1 c.mats ss).length:=a6C true _ _;have hst:=b0N (Part.tx c.mats) h1';have hm:=q7 h1';have hvs:=hv _ hm;have hmem:=c4l hm;have hsz:=U6 hm;have hszl:=Part.szl ss[i];have hnx:xs≠[]:=by rw[hxs];simp[hl]
   have key:∃A,A++ss[i].tx c.mats=l++t8 true ((ss.map (Part.tx c.mats)).take (i+1))/\A≠[]/\(0<i->A=xs++[32])/\(i=0->A=xs):=by
    by_cases h0:i=0
    . exact⟨xs,by rw[hst,d4 h0,hxs];subst h0;simp[t8],hnx,by omega,λ_=>rfl⟩
    . exact⟨xs++[32],by rw[hst,c8 h0,hxs];simp,by simp,λ_=>rfl,by omega⟩
   obtain⟨A,hAe,hAn,hA1,hA0⟩:=key;have hal:A.length+(ss[i].tx c.mats).length<=140737488355328:=by
    have hl2:=d6 List.length hAe;simp only[j6] at hl2;omega
   have hend:∀A',A'=A++ss[i].tx c.mats->(i+1<=ss.length/\A'=l++t8 true ((ss.map (Part.tx c.mats)).take (i+1))):=λA' h=>⟨by omega,by rw[h,hAe]⟩
   clear hj hst;rw[Part.tx_eq] at hal hend;repeat'((first|(intro hlq;try simp only[SL] at hlq)|refine K9 ?_|refine Ka ?_|refine Kb ?_|refine Kc (hd:=rfl) (e:=?_)|refine Kc (hd:=Part.cells_eq _) (e:=?_)|refine Kd (e:=?_)|refine Kl rfl ?_|fail)<;>refine Kv E0 ?_)
   refine⟨λh2=>?_,λh2=>?_⟩<;>(try simp only[BL] at h2)<;>refine Kv E0 ?_
   . have hAl:=a2F (hA1 (by omega));refine⟨prO (rr (cR c)) 90 xs,_,⟨?_,?_⟩,(B6 (cR c) xs A [.s [32]] hnx (by rw[hA1 (by omega)];simp[r5,Item.text]) (by omega)).mono ?_⟩
     . exact Ko
     . exact Ko
     rintro o O2 ⟨rfl,rfl⟩;dsimp only;rw[p9 (p6 _)];refine Kv E0 ?_;rcases Part.cases hvs with⟨hk,hm0,hm1⟩|⟨hk0,hk1,ht⟩
     . rw[d4 hk] at hal hend;rw[j6] at hal;obtain⟨B,hB⟩:∃B,B=A++(G1 c.mats ss[i].mat++[59]):=⟨_,rfl⟩
       have hBl:=a2F hB;repeat'((first|(intro hlq;try simp only[SL] at hlq)|refine K9 ?_|((refine Kh (λhb=>?_) λhb=>?_)<;>try simp only[BL] at hb)|refine K8 ?_)<;>refine Kv E0 ?_)
       all_goals (try first|contradiction|(exfalso;omega))
       refine⟨prO (rr (cR c)) 90 A,_,⟨?_,?_⟩,(a6x c ss[i].mat hm0 hm1 A).mono ?_⟩
       . exact Ko
       . exact Ko
       rintro o O2 ⟨rfl,rfl⟩;dsimp only;rw[p9 (p6 _)];refine Kv E0 ?_;repeat'((first|(intro hlq;try simp only[SL] at hlq)|refine K9 ?_|((refine Kh (λhb=>?_) λhb=>?_)<;>try simp only[BL] at hb)|refine K8 ?_)<;>refine Kv E0 ?_)
       refine⟨prO (rr (cR c)) 90 A,_,⟨?_,?_⟩,(B6 (cR c) A B [.s (G1 c.mats ss[i].mat), .s [59]] hAn (by rw[hB];simp[r5,Item.text]) (by simp only[j6] at hBl;omega)).mono ?_⟩
       . exact Ko
       . exact Ko
       rintro o O2 ⟨rfl,rfl⟩;dsimp only;rw[p9 (p6 _)];refine Kv E0 ?_;repeat'((first|(intro hlq;try simp only[SL] at hlq)|refine K9 ?_|((refine Kh (λhb=>?_) λhb=>?_)<;>try simp only[BL] at hb)|refine K8 ?_)<;>refine Kv E0 ?_)
       refine⟨⟨(i+1,B),?_,hend B hB,by dsimp only;omega⟩⟩;repeat'(first|exact d9|exact rfl|refine d8 ?_ ?_)
       all_goals exact s6 _ _
     . rw[c8 (show ¬ss[i].laps=0 by omega)] at hal hend;simp only[j6,i7,j8] at hal;have hn1:=ss[i].cnt_eq;obtain⟨B1,hB1⟩:∃B1,B1=A++(([108,97,112,115,32]:List UInt8)++Lib.itoa ss[i].laps++[32,123,32]):=⟨_,rfl⟩
       have hL1:=d6 List.length hB1;simp only[j6,i7,j8] at hL1;have hN1:B1≠[]:=by rw[hB1];simp
       obtain⟨B3,hB3⟩:∃B3,B3=(B1++Q1 c.mats ss[i].parts)++[32,125]:=⟨_,rfl⟩
       have hL3:=d6 List.length hB3;simp only[j6,i7,j8] at hL3;repeat'((first|(intro hlq;try simp only[SL] at hlq)|refine K9 ?_|((refine Kh (λhb=>?_) λhb=>?_)<;>try simp only[BL] at hb)|refine K8 ?_)<;>refine Kv E0 ?_)
       all_goals (try first|contradiction|(exfalso;omega))
       refine⟨prO (rr (cR c)) 90 A,_,⟨?_,?_⟩,(B6 (cR c) A B1 [.s [108,97,112,115,32], .i ss[i].laps, .s [32,123,32]] hAn (by rw[hB1];simp[r5,Item.text]) (by omega)).mono ?_⟩
       . exact Ko
       . exact Ko
       rintro o O2 ⟨rfl,rfl⟩;dsimp only;rw[p9 (p6 _)];refine Kv E0 ?_;repeat'((first|(intro hlq;try simp only[SL] at hlq)|refine K9 ?_|((refine Kh (λhb=>?_) λhb=>?_)<;>try simp only[BL] at hb)|refine K8 ?_)<;>refine Kv E0 ?_)
       refine⟨prO (rr (cR c)) 90 B1,_,⟨?_,?_⟩,(b3y c hg ss[i].parts B1 hN1 ht (by omega) (by omega)).mono ?_⟩
       . exact Ko
       . exact Ko
       rintro o O2 ⟨rfl,rfl⟩;dsimp only;rw[p9 (p6 _)];refine Kv E0 ?_;repeat'((first|(intro hlq;try simp only[SL] at hlq)|refine K9 ?_|((refine Kh (λhb=>?_) λhb=>?_)<;>try simp only[BL] at hb)|refine K8 ?_)<;>refine Kv E0 ?_)
       refine⟨prO (rr (cR c)) 90 (B1++Q1 c.mats ss[i].parts),_,⟨?_,?_⟩,(B6 (cR c) (B1++Q1 c.mats ss[i].parts) B3 [.s [32,125]] (by simp[hN1]) (by rw[hB3];simp[r5,Item.text]) (by omega)).mono ?_⟩
       . exact Ko
       . exact Ko
       rintro o O2 ⟨rfl,rfl⟩;dsimp only;rw[p9 (p6 _)];refine Kv E0 ?_;repeat'((first|(intro hlq;try simp only[SL] at hlq)|refine K9 ?_|((refine Kh (λhb=>?_) λhb=>?_)<;>try simp only[BL] at hb)|refine K8 ?_)<;>refine Kv E0 ?_)
       refine⟨⟨(i+1,B3),?_,hend B3 (by rw[hB3,hB1];simp),by dsimp only;omega⟩⟩;repeat'(first|exact d9|exact rfl|refine d8 ?_ ?_)
       all_goals exact s6 _ _
   . obtain rfl:A=xs:=hA0 (by omega);rcases Part.cases hvs with⟨hk,hm0,hm1⟩|⟨hk0,hk1,ht⟩
     . rw[d4 hk] at hal hend;rw[j6] at hal;obtain⟨B,hB⟩:∃B,B=A++(G1 c.mats ss[i].mat++[59]):=⟨_,rfl⟩
       have hBl:=a2F hB;repeat'((first|(intro hlq;try simp only[SL] at hlq)|refine K9 ?_|((refine Kh (λhb=>?_) λhb=>?_)<;>try simp only[BL] at hb)|refine K8 ?_)<;>refine Kv E0 ?_)
       all_goals (try first|contradiction|(exfalso;omega))
       refine⟨prO (rr (cR c)) 90 A,_,⟨?_,?_⟩,(a6x c ss[i].mat hm0 hm1 A).mono ?_⟩
       . exact Ko
       . exact Ko
       rintro o O2 ⟨rfl,rfl⟩;dsimp only;rw[p9 (p6 _)];refine Kv E0 ?_;repeat'((first|(intro hlq;try simp only[SL] at hlq)|refine K9 ?_|((refine Kh (λhb=>?_) λhb=>?_)<;>try simp only[BL] at hb)|refine K8 ?_)<;>refine Kv E0 ?_)
       refine⟨prO (rr (cR c)) 90 A,_,⟨?_,?_⟩,(B6 (cR c) A B [.s (G1 c.mats ss[i].mat), .s [59]] hAn (by rw[hB];simp[r5,Item.text]) (by simp only[j6] at hBl;omega)).mono ?_⟩
       . exact Ko
       . exact Ko
       rintro o O2 ⟨rfl,rfl⟩;dsimp only;rw[p9 (p6 _)];refine Kv E0 ?_;repeat'((first|(intro hlq;try simp only[SL] at hlq)|refine K9 ?_|((refine Kh (λhb=>?_) λhb=>?_)<;>try simp only[BL] at hb)|refine K8 ?_)<;>refine Kv E0 ?_)
       refine⟨⟨(i+1,B),?_,hend B hB,by dsimp only;omega⟩⟩;repeat'(first|exact d9|exact rfl|refine d8 ?_ ?_)
       all_goals exact s6 _ _
     . rw[c8 (show ¬ss[i].laps=0 by omega)] at hal hend;simp only[j6,i7,j8] at hal;have hn1:=ss[i].cnt_eq;obtain⟨B1,hB1⟩:∃B1,B1=A++(([108,97,112,115,32]:List UInt8)++Lib.itoa ss[i].laps++[32,123,32]):=⟨_,rfl⟩
       have hL1:=d6 List.length hB1;simp only[j6,i7,j8] at hL1;have hN1:B1≠[]:=by rw[hB1];simp
       obtain⟨B3,hB3⟩:∃B3,B3=(B1++Q1 c.mats ss[i].parts)++[32,125]:=⟨_,rfl⟩
       have hL3:=d6 List.length hB3;simp only[j6,i7,j8] at hL3;repeat'((first|(intro hlq;try simp only[SL] at hlq)|refine K9 ?_|((refine Kh (λhb=>?_) λhb=>?_)<;>try simp only[BL] at hb)|refine K8 ?_)<;>refine Kv E0 ?_)
       all_goals (try first|contradiction|(exfalso;omega))
       refine⟨prO (rr (cR c)) 90 A,_,⟨?_,?_⟩,(B6 (cR c) A B1 [.s [108,97,112,115,32], .i ss[i].laps, .s [32,123,32]] hAn (by rw[hB1];simp[r5,Item.text]) (by omega)).mono ?_⟩
       . exact Ko
       . exact Ko
       rintro o O2 ⟨rfl,rfl⟩;dsimp only;rw[p9 (p6 _)];refine Kv E0 ?_;repeat'((first|(intro hlq;try simp only[SL] at hlq)|refine K9 ?_|((refine Kh (λhb=>?_) λhb=>?_)<;>try simp only[BL] at hb)|refine K8 ?_)<;>refine Kv E0 ?_)
       refine⟨prO (rr (cR c)) 90 B1,_,⟨?_,?_⟩,(b3y c hg ss[i].parts B1 hN1 ht (by omega) (by omega)).mono ?_⟩
       . exact Ko
       . exact Ko
       rintro o O2 ⟨rfl,rfl⟩;dsimp only;rw[p9 (p6 _)];refine Kv E0 ?_;repeat'((first|(intro hlq;try simp only[SL] at hlq)|refine K9 ?_|((refine Kh (λhb=>?_) λhb=>?_)<;>try simp only[BL] at hb)|refine K8 ?_)<;>refine Kv E0 ?_)
       refine⟨prO (rr (cR c)) 90 (B1++Q1 c.mats ss[i].parts),_,⟨?_,?_⟩,(B6 (cR c) (B1++Q1 c.mats ss[i].parts) B3 [.s [32,125]] (by simp[hN1]) (by rw[hB3];simp[r5,Item.text]) (by omega)).mono ?_⟩
       . exact Ko
       . exact Ko
       rintro o O2 ⟨rfl,rfl⟩;dsimp only;rw[p9 (p6 _)];refine Kv E0 ?_;repeat'((first|(intro hlq;try simp only[SL] at hlq)|refine K9 ?_|((refine Kh (λhb=>?_) λhb=>?_)<;>try simp only[BL] at hb)|refine K8 ?_)<;>refine Kv E0 ?_)
       refine⟨⟨(i+1,B3),?_,hend B3 (by rw[hB3,hB1];simp),by dsimp only;omega⟩⟩;repeat'(first|exact d9|exact rfl|refine d8 ?_ ?_)
       all_goals exact s6 _ _
 . obtain rfl:i=ss.length:=by omega
   have e:(ss.map (Part.tx c.mats)).take ss.length=ss.map (Part.tx c.mats):=y6 (by simp);rw[e] at hxs;exact⟨prO (rr (cR c)) 90 xs, .d (.tup []),⟨s6 _ _,⟨⟨rfl,a1C _ _⟩,⟨rfl,rfl,rfl,rfl⟩,trivial⟩,rfl⟩,⟨rfl,by rw[hxs];rfl⟩⟩
termination_by SizeOf.sizeOf ss
decreasing_by all_goals omega
theorem d3C {cs:List Base}{b:Int}{o:Nat}(h:1<=b/\b<=3)(ho:o=0+b.toNat *1)(hc:cs=[.d (.str []), .d (.str [103,117,110]), .d (.str [99,104,105,112]), .d (.str [115,108,111,116])]):cs[o]?=some (.d (.str (a5o b))):=by
 subst ho hc;rcases(by omega:b=1\/b=2\/b=3) with rfl|rfl|rfl<;>rfl
def O7 (c:Course)(d:Distance):List UInt8:=k9 (a1I c d)
abbrev E2:Cfg:={sym:=[4],rs:=[21,25,38,51,61,65,69]}
theorem d0c (c:Course)(hg:Good c)(d:Distance)(hd:DOk c d)(l:List UInt8)(hl:l≠[])(hlen:l.length<=1000000000):
 MR 35 [.loc 1000 0, .d d.d] (prO (rr (cR c)) 90 l) λo O'=>o= .ret (.d (.tup []))/\O'=prO (rr (cR c)) 90 (l++O7 c d):=by
 have hcl:=b6P hg hd;have hT:=a1g (a0A c) 300 d.cutoffs hcl;have hP:=b9q hg.mats hd.route;have h1:=hd.name;have h2:=hd.ncut;have h3:=hd.cnt;have h4:=c0N d.timing;have h5:=a6o hg.mats d.extra;have htm:=hd.timing;obtain⟨B1,hB1⟩:∃B1,B1=l++(([32,32,100,105,115,116,97,110,99,101,32]:List UInt8)++d.name++[32]++a5o d.timing++[32,123,32]):=⟨_,rfl⟩
 have hL1:=d6 List.length hB1;simp only[j6,i7,j8] at hL1;have hN1:B1≠[]:=by rw[hB1];simp
 obtain⟨B2,hB2⟩:∃B2,B2=B1++Q1 c.mats d.route:=⟨_,rfl⟩
 have hL2:=d6 List.length hB2;simp only[j6,i7,j8] at hL2;have hN2:B2≠[]:=by rw[hB2];simp[hN1]
 refine EnR E2 Tryz.func35 Tryz.ntmps35 λB0 W0 V0 lent g0=>?_;refine Kv E2 ?_;refine⟨by simp,?_⟩;refine Kv E2 ?_;refine Dr E2 [.p 0, .p 1, .p 2, .p 3, .p 4, .p 5, .p 6, .p 7, .p 8, .p 9, .p 10, .p 11, .p 12, .s 13 [0,12,1,4,5,10,11,3,9,2,8,7,6]] ?_;refine Kv E2 ?_;repeat'((first|(intro hlq;try simp only[SL] at hlq)|refine⟨_,d3C htm rfl rfl,?_⟩|refine K9 ?_|((refine Kh (λhb=>?_) λhb=>?_)<;>try simp only[BL] at hb)|refine K8 ?_)<;>refine Kv E2 ?_)
 refine⟨prO (rr (cR c)) 90 l,_,⟨?_,?_⟩,(B6 (cR c) l B1 [.s [32,32,100,105,115,116,97,110,99,101,32], .s d.name, .s [32], .s (a5o d.timing), .s [32,123,32]] hl (by rw[hB1];simp[r5,Item.text]) (by omega)).mono ?_⟩
 . exact Ko
 . exact Ko
 rintro o O2 ⟨rfl,rfl⟩;dsimp only;rw[p9 (p6 _)];refine Kv E2 ?_;repeat'((first|(intro hlq;try simp only[SL] at hlq)|refine K9 ?_|((refine Kh (λhb=>?_) λhb=>?_)<;>try simp only[BL] at hb)|refine K8 ?_)<;>refine Kv E2 ?_)
 refine⟨prO (rr (cR c)) 90 B1,_,⟨?_,?_⟩,(b3y c hg d.route B1 hN1 hd.route (by omega) (by omega)).mono ?_⟩
 . exact Ko
 . exact Ko
 rintro o O2 ⟨rfl,rfl⟩;dsimp only;rw[p9 (p6 _)];refine Kv E2 ?_;rw[<-hB2];repeat'((first|(intro hlq;try simp only[SL] at hlq)|refine K9 ?_|((refine Kh (λhb=>?_) λhb=>?_)<;>try simp only[BL] at hb)|refine K8 ?_)<;>refine Kv E2 ?_)
 refine o4 tok E2 [] (X:=Nat×List UInt8) (λx=>[(29,iB x.1)]) (λx=>prO (rr (cR c)) 90 x.2) [6] (λx=>x.1<=d.cutoffs.length/\x.2=B2++(d.cutoffs.take x.1).flatMap (a0A c)) (λx=>d.cutoffs.length-x.1) (0,B2) ?_;refine Kv E2 ?_;refine d8 ?_ ⟨⟨by omega,by simp⟩,λx hΦ=>?_⟩
 . repeat'(first|exact d9|exact rfl|refine d8 ?_ ?_)
   all_goals exact s6 _ _
 obtain⟨i,xs⟩:=x;obtain⟨hi,hxs⟩:=hΦ;dsimp only at hi hxs;have hLx:=d6 List.length hxs;simp only[j6] at hLx;have hj:=a3G (a0A c) d.cutoffs i;have hnx:xs≠[]:=by rw[hxs];simp[hN2]
 refine Kv E2 ?_;refine⟨λh1=>?_,λh1=>?_⟩<;>(try simp only[BL] at h1)<;>refine Kv E2 ?_
 . have h1':i<d.cutoffs.length:=by omega
   have hst:=a3F (a0A c) h1';have hm:=q7 h1';have hx:=hcl _ hm;obtain⟨⟨g0,g1⟩,g2,g3,g4⟩:=hd.cutoffs _ hm;obtain⟨B3,hB3⟩:∃B3,B3=xs++a0A c d.cutoffs[i]:=⟨_,rfl⟩
   have hL3:=d6 List.length hB3;simp only[j6,i7,j8] at hL3;repeat'((first|(intro hlq;try simp only[SL] at hlq)|refine K9 ?_|refine Ka ?_|refine Kb ?_|refine Kc (hd:=rfl) (e:=?_)|refine Kc (hd:=Cutoff.cells_eq _) (e:=?_)|refine Kd (e:=?_)|refine Kl rfl ?_|fail)<;>refine Kv E2 ?_)
   refine Dr E2 [.p 0, .p 1, .p 2, .p 3, .p 4, .p 7, .p 8, .p 9, .p 10, .p 11, .p 12, .p 13, .p 16, .s 5 [2,4,3], .p 6, .s 14 [13,12], .p 15, .p 17, .s 18 [0,17,1,6,7,10,11,15,16,9,8]] ?_;refine Kv E2 ?_;repeat'((first|(intro hlq;try simp only[SL] at hlq)|refine Meets.k (a2I _) ?_|refine K9 ?_|((refine Kh (λhb=>?_) λhb=>?_)<;>try simp only[BL] at hb)|refine K8 ?_)<;>refine Kv E2 ?_)
   refine⟨prO (rr (cR c)) 90 xs,_,⟨?_,?_⟩,(a6x c d.cutoffs[i].mat g0 g1 xs).mono ?_⟩
   . exact Ko
   . exact Ko
   rintro o O2 ⟨rfl,rfl⟩;dsimp only;rw[p9 (p6 _)];refine Kv E2 ?_;repeat'((first|(intro hlq;try simp only[SL] at hlq)|refine Meets.k (a2I _) ?_|refine K9 ?_|((refine Kh (λhb=>?_) λhb=>?_)<;>try simp only[BL] at hb)|refine K8 ?_)<;>refine Kv E2 ?_)
   refine⟨prO (rr (cR c)) 90 xs,_,⟨?_,?_⟩,(B6 (cR c) xs B3 [.s [32,99,117,116,111,102,102,32], .s (G1 c.mats d.cutoffs[i].mat), .s [32,108,97,112,32], .i d.cutoffs[i].lap, .s [32], .s (timeS d.cutoffs[i].limit), .s [59]] hnx (by rw[hB3];simp[r5,Item.text,a0A]) (by omega)).mono ?_⟩
   . exact Ko
   . exact Ko
   rintro o O2 ⟨rfl,rfl⟩;dsimp only;rw[p9 (p6 _)];refine Kv E2 ?_;repeat'((first|(intro hlq;try simp only[SL] at hlq)|refine K9 ?_|((refine Kh (λhb=>?_) λhb=>?_)<;>try simp only[BL] at hb)|refine K8 ?_)<;>refine Kv E2 ?_)
   refine⟨⟨(i+1,B3),?_,⟨by omega,by rw[hB3,hst,hxs];simp⟩,by dsimp only;omega⟩⟩;repeat'(first|exact d9|exact rfl|refine d8 ?_ ?_)
   all_goals exact s6 _ _
 . have e:d.cutoffs.take i=d.cutoffs:=y6 (by omega);rw[e] at hxs;refine⟨λh6=>?_,λh6=>?_⟩<;>(try simp only[BL] at h6)<;>refine Kv E2 ?_
   . obtain⟨B4,hB4⟩:∃B4,B4=xs++(([32,101,120,116,114,97,32]:List UInt8)++G1 c.mats d.extra++[59]):=⟨_,rfl⟩
     have hL4:=d6 List.length hB4;simp only[j6,i7,j8] at hL4;have hN4:B4≠[]:=by rw[hB4];simp
     have hPe:l++O7 c d=B4++[32,125,10]:=by rw[hB4,hxs,hB2,hB1];simp[O7,k9,a1I,a4D,h6]
     repeat'((first|(intro hlq;try simp only[SL] at hlq)|refine K9 ?_|((refine Kh (λhb=>?_) λhb=>?_)<;>try simp only[BL] at hb)|refine K8 ?_)<;>refine Kv E2 ?_)
     refine⟨prO (rr (cR c)) 90 xs,_,⟨?_,?_⟩,(a6x c d.extra h6 hd.extra.2 xs).mono ?_⟩
     . exact Ko
     . exact Ko
     rintro o O2 ⟨rfl,rfl⟩;dsimp only;rw[p9 (p6 _)];refine Kv E2 ?_;repeat'((first|(intro hlq;try simp only[SL] at hlq)|refine K9 ?_|((refine Kh (λhb=>?_) λhb=>?_)<;>try simp only[BL] at hb)|refine K8 ?_)<;>refine Kv E2 ?_)
     refine⟨prO (rr (cR c)) 90 xs,_,⟨?_,?_⟩,(B6 (cR c) xs B4 [.s [32,101,120,116,114,97,32], .s (G1 c.mats d.extra), .s [59]] hnx (by rw[hB4];simp[r5,Item.text]) (by omega)).mono ?_⟩
     . exact Ko
     . exact Ko
     rintro o O2 ⟨rfl,rfl⟩;dsimp only;rw[p9 (p6 _)];refine Kv E2 ?_;repeat'((first|(intro hlq;try simp only[SL] at hlq)|refine K9 ?_|((refine Kh (λhb=>?_) λhb=>?_)<;>try simp only[BL] at hb)|refine K8 ?_)<;>refine Kv E2 ?_)
     refine⟨prO (rr (cR c)) 90 B4,_,⟨?_,?_⟩,(B6 (cR c) B4 (l++O7 c d) [.s [32,125,10]] hN4 (by rw[hPe];simp[r5,Item.text]) (by rw[hPe];simp only[j6,i7,j8];omega)).mono ?_⟩
     . exact Ko
     . exact Ko
     rintro o O2 ⟨rfl,rfl⟩;dsimp only;rw[p9 (p6 _)];refine Kv E2 ?_;repeat'((first|(intro hlq;try simp only[SL] at hlq)|refine K9 ?_|((refine Kh (λhb=>?_) λhb=>?_)<;>try simp only[BL] at hb)|refine K8 ?_)<;>refine Kv E2 ?_)
     exact⟨prO (rr (cR c)) 90 (l++O7 c d), .d (.tup []),⟨s6 _ _,⟨⟨rfl,a1C _ _⟩,⟨rfl,rfl,rfl,rfl⟩,trivial⟩,rfl⟩,⟨rfl,rfl⟩⟩
   . have hPe:l++O7 c d=xs++[32,125,10]:=by rw[hxs,hB2,hB1];simp[O7,k9,a1I,a4D,h6]
     repeat'((first|(intro hlq;try simp only[SL] at hlq)|refine K9 ?_|((refine Kh (λhb=>?_) λhb=>?_)<;>try simp only[BL] at hb)|refine K8 ?_)<;>refine Kv E2 ?_)
     refine⟨prO (rr (cR c)) 90 xs,_,⟨?_,?_⟩,(B6 (cR c) xs (l++O7 c d) [.s [32,125,10]] hnx (by rw[hPe];simp[r5,Item.text]) (by rw[hPe];simp only[j6,i7,j8];omega)).mono ?_⟩
     . exact Ko
     . exact Ko
     rintro o O2 ⟨rfl,rfl⟩;dsimp only;rw[p9 (p6 _)];refine Kv E2 ?_;repeat'((first|(intro hlq;try simp only[SL] at hlq)|refine K9 ?_|((refine Kh (λhb=>?_) λhb=>?_)<;>try simp only[BL] at hb)|refine K8 ?_)<;>refine Kv E2 ?_)
     exact⟨prO (rr (cR c)) 90 (l++O7 c d), .d (.tup []),⟨s6 _ _,⟨⟨rfl,a1C _ _⟩,⟨rfl,rfl,rfl,rfl⟩,trivial⟩,rfl⟩,⟨rfl,rfl⟩⟩
end Go.Proofs.YteillnfhkeebjaaGreatDoor.Dx
