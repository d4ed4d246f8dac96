/- Chapter 06: the parser's distances and settings. -/
import Derived.Test.YtaopegkpjhkooaaGreatDoorGb
set_option linter.all false
namespace Go.Proofs.YtaopegkpjhkooaaGreatDoor.Dx
open Go Go.RowKit
set_option maxRecDepth 100000
set_option maxHeartbeats 16000000
theorem c3a (ts:List Tk):(a1G ts=none/\(hdT ts).kind≠1)\/((hdT ts).kind=1/\a1G ts=none/\(if(hdT ts).text=[103,117,110] then 1 else if(hdT ts).text=[99,104,105,112] then 2 else if(hdT ts).text=[115,108,111,116] then 3 else 0)=(0:Int)/\decide ((hdT ts).text=[103,117,110]\/(hdT ts).text=[99,104,105,112]\/(hdT ts).text=[115,108,111,116])=false)\/
 ∃v:Int,(hdT ts).kind=1/\a1G ts=some v/\(if(hdT ts).text=[103,117,110] then 1 else if(hdT ts).text=[99,104,105,112] then 2 else if(hdT ts).text=[115,108,111,116] then 3 else 0)=v/\decide ((hdT ts).text=[103,117,110]\/(hdT ts).text=[99,104,105,112]\/(hdT ts).text=[115,108,111,116])=true:=by
 unfold a1G
 by_cases hk:(hdT ts).kind=1
 . right
   rw[if_pos hk]
   by_cases h1:(hdT ts).text=[103,117,110]
   . exact .inr ⟨1,hk,by rw[if_pos h1],by rw[if_pos h1],by simp[h1]⟩
   by_cases h2:(hdT ts).text=[99,104,105,112]
   . exact .inr ⟨2,hk,by rw[if_neg h1,if_pos h2],by rw[if_neg h1,if_pos h2],by simp[h2]⟩
   by_cases h3:(hdT ts).text=[115,108,111,116]
   . exact .inr ⟨3,hk,by rw[if_neg h1,if_neg h2,if_pos h3],by rw[if_neg h1,if_neg h2,if_pos h3],by simp[h3]⟩
   . exact .inl ⟨hk,by rw[if_neg h1,if_neg h2,if_neg h3],by rw[if_neg h1,if_neg h2,if_neg h3],by simp[h1,h2,h3]⟩
 . exact .inl ⟨if_neg hk,hk⟩
abbrev a0r:Cfg:={rs:=[11,13,16]}
theorem a4i (F:Nat)(P:List Tk->Rs Int)(hP:∀ts u,QT ts->MeetsR Tryz.prog F [.loc 5000 0] (psO ts u) λo O'=>RdO iD (P ts) u o O')(hk:∀ts,QT ts->(P ts).kp)(w:List UInt8)(ts:List Tk)(u:Nat->Value)(hq:QT ts):
 MeetsR Tryz.prog 79 [.loc 5000 0, .d (.str w), .fn F [.loc 5000 0] []] (psO ts u) λo O'=>RdO iD (G7 w P ts) u o O':=by
 obtain⟨res,hres⟩:∃res,res=G7 w P ts:=⟨_,rfl⟩
 rw[<-hres]
 unfold G7 at hres
 refine k8 tok a0r Tryz.func79 rfl (by kernel_rfl) Tryz.ntmps79 (by simp) λB0 W0 V0 lent g0=>?_
 refine Kv a0r ?_
 refine⟨psO ts u,_,⟨?_,?_⟩,(r9 ts u w hq.1).mono ?_⟩
 . exact Kr
 . exact Kr
 intro o O2 ho
 have hh:=z6 ho
 clear ho
 obtain hh|hh:=hh
 . obtain⟨a,e,ts9,hU,rfl,rfl⟩:=hh
   (try dsimp only at hU)
   rw[hU] at hres
   (try rw[Rs.bind_er] at hres)
   refine Kv a0r ?_
   refine⟨psO ts9 u,⟨?_,?_⟩,?_⟩
   . exact Kr
   . exact Kr
   rw[hres]
   exact⟨_,rfl,rfl⟩
 obtain⟨x1,ts2,hU,rfl,rfl⟩:=hh
 (try dsimp only at hU)
 rw[hU] at hres
 (try rw[Rs.bind_ok] at hres)
 refine Kv a0r ?_
 have hq2:=n9 hq _ _ hU
 refine⟨psO ts2 u,_,⟨?_,?_⟩,(hP ts2 u hq2).mono ?_⟩
 . exact Kr
 . exact Kr
 intro o O2 ho
 have hh:=z6 ho
 clear ho
 obtain hh|hh:=hh
 . obtain⟨a,e,ts9,hU,rfl,rfl⟩:=hh
   (try dsimp only at hU)
   rw[hU] at hres
   (try rw[Rs.bind_er] at hres)
   refine Kv a0r ?_
   refine⟨psO ts9 u,⟨?_,?_⟩,?_⟩
   . exact Kr
   . exact Kr
   rw[hres]
   exact⟨_,rfl,rfl⟩
 obtain⟨n,ts3,hU,rfl,rfl⟩:=hh
 (try dsimp only at hU)
 rw[hU] at hres
 (try rw[Rs.bind_ok] at hres)
 refine Kv a0r ?_
 have hq3:=hk _ hq2 _ _ hU
 refine⟨psO ts3 u,_,⟨?_,?_⟩,(r9 ts3 u [59] hq3.1).mono ?_⟩
 . exact Kr
 . exact Kr
 intro o O2 ho
 have hh:=z6 ho
 clear ho
 obtain hh|hh:=hh
 . obtain⟨a,e,ts9,hU,rfl,rfl⟩:=hh
   (try dsimp only at hU)
   rw[hU] at hres
   (try rw[Rs.bind_er] at hres)
   refine Kv a0r ?_
   refine⟨psO ts9 u,⟨?_,?_⟩,?_⟩
   . exact Kr
   . exact Kr
   rw[hres]
   exact⟨_,rfl,rfl⟩
 obtain⟨x2,ts4,hU,rfl,rfl⟩:=hh
 (try dsimp only at hU)
 rw[hU] at hres
 (try rw[Rs.bind_ok] at hres)
 refine Kv a0r ?_
 refine⟨psO ts4 u, .d (iD n),?_,?_⟩
 rotate_left 1
 . rw[hres]
   exact⟨rfl,rfl⟩
 repeat'(first|exact True.intro|exact rfl|refine And.intro ?_ ?_)
abbrev k9:Cfg:={rs:=[6,9,14,23,25,28,30,33,35,39,41,44,48,56,58,62,65],priv:=[7]}
theorem b6K (hT:C2)(k:Nat)(hk:k<=1000000000)(ts:List Tk)(c:Course)(hq:QT ts)(hl:c.distances.length<=1000000000)(hn:((K2 c.ms k ts).bind λx ts=>(.ok {c with distances:=c.distances++[x]} ts:Rs Course))≠ .out):
 MeetsR Tryz.prog 74 [.loc 5000 0] (psC ts c) λo O'=>RdV (λ_=> .tup []) id ((K2 c.ms k ts).bind λx ts=> .ok {c with distances:=c.distances++[x]} ts) o O':=by
 obtain⟨res,hres⟩:∃res,res=(K2 c.ms k ts).bind λx ts=> .ok {c with distances:=c.distances++[x]} ts:=⟨_,rfl⟩
 rw[<-hres] at hn⊢
 simp only[K2,Rs.bind_assoc,Rs.bind_ok] at hres
 refine k8 tok k9 Tryz.func74 rfl (by kernel_rfl) Tryz.ntmps74 (by simp) λB0 W0 V0 lent g0=>?_
 refine Kv k9 ?_
 refine⟨psC (ts) c,_,⟨?_,?_⟩,(kR (c:=c) λu=>Z3 ts u hq).mono ?_⟩
 . exact Kr
 . exact Kr
 intro o O2 ho
 have hh:=d8 ho
 clear ho
 obtain hh|hh:=hh
 . obtain⟨a,e,ts9,c9,hU,rfl,rfl⟩:=hh
   (try dsimp only at hU)
   rw[hU] at hres
   (try rw[Rs.bind_er] at hres)
   ((conv=>whnf);repeat'((fail_if_success (refine L6 1 ?_));refine Y k9 rfl ?_;conv=>whnf))
   refine⟨psC ts9 c9,⟨?_,?_⟩,?_⟩
   . exact Kr
   . exact Kr
   rw[hres]
   exact⟨_,_,rfl,rfl⟩
 obtain⟨w,ts2,hU,rfl,rfl⟩:=hh
 (try dsimp only at hU)
 rw[hU] at hres
 (try rw[Rs.bind_ok] at hres)
 ((conv=>whnf);repeat'((fail_if_success (refine L6 1 ?_));refine Y k9 rfl ?_;conv=>whnf))
 have hq2:=L2 hq _ _ hU
 refine a9t 2 [.d (.str w), .d (.raw (.slice none 0 0)),iB 0, .full [],iB (-1)] rfl ⟨.inl rfl, .inl rfl, .inl rfl, .inr ⟨rfl, .inl rfl⟩, .inl rfl,True.intro⟩ ?_
 refine Kv k9 ?_
 have he:=hq2.1
 have hnx:=λu=>a5E ts2 u he
 have htc:=c3a ts2
 have htm:=c3k (hdT ts2).text
 unfold a1H at hres
 obtain⟨g1,g2⟩|⟨g2,g1,g3,g4⟩|⟨v,g2,g1,g3,g4⟩:=htc
 . rw[g1] at hres
   dsimp only at hres
   refine⟨psC (ts2) c,_,⟨?_,?_⟩,(kC (c:=c) λu=>hnx u).mono ?_⟩
   . exact Kr
   . exact Kr
   rintro _ O2 ⟨rfl,rfl⟩
   refine Kv k9 ?_
   refine⟨λh6=>?_,λh6=>?_⟩<;>(try simp only[BL] at h6)<;>refine Kv k9 ?_
   . exact absurd h6 (by omega)
   refine⟨λ_=>?_,λh=>absurd h (by decide)⟩
   refine Kv k9 ?_
   refine⟨psC (ts2) c,_,⟨?_,?_⟩,(kP (c:=c) λu=>F5 ts2 u 60 he).mono ?_⟩
   . exact Kr
   . exact Kr
   rintro _ O2 ⟨rfl,rfl⟩
   refine Kv k9 ?_
   refine⟨psC (ts2) c,⟨?_,?_⟩,?_⟩
   . exact Kr
   . exact Kr
   rw[hres]
   exact⟨_,_,rfl,rfl⟩
 . rw[g1] at hres
   dsimp only at hres
   rw[g3,g4] at htm
   refine⟨psC (ts2) c,_,⟨?_,?_⟩,(kC (c:=c) λu=>hnx u).mono ?_⟩
   . exact Kr
   . exact Kr
   rintro _ O2 ⟨rfl,rfl⟩
   refine Kv k9 ?_
   refine⟨λh6=>?_,λh6=>?_⟩<;>(try simp only[BL] at h6)<;>refine Kv k9 ?_
   rotate_left 1
   . exact absurd h6 (by omega)
   refine⟨psC (ts2) c,_,⟨?_,?_⟩,(kC (c:=c) λu=>hnx u).mono ?_⟩
   . exact Kr
   . exact Kr
   rintro _ O2 ⟨rfl,rfl⟩
   refine Kv k9 ?_
   repeat'((first|(intro hlq;try simp only[SL] at hlq)|refine Meets.k (htm) ?_|refine K9 ?_|((refine Kh (λhb=>?_) λhb=>?_)<;>try simp only[BL] at hb)|refine K8 ?_)<;>refine Kv k9 ?_)
   all_goals try(exact absurd hb (by decide))
   refine⟨psC (ts2) c,_,⟨?_,?_⟩,(kP (c:=c) λu=>F5 ts2 u 60 he).mono ?_⟩
   . exact Kr
   . exact Kr
   rintro _ O2 ⟨rfl,rfl⟩
   refine Kv k9 ?_
   refine⟨psC (ts2) c,⟨?_,?_⟩,?_⟩
   . exact Kr
   . exact Kr
   rw[hres]
   exact⟨_,_,rfl,rfl⟩
 rw[g1] at hres
 dsimp only at hres
 rw[Rs.bind_ok] at hres
 rw[g3,g4] at htm
 have hq3:QT ts2.tail:=hq2.tail (by rw[g2];decide)
 refine⟨psC (ts2) c,_,⟨?_,?_⟩,(kC (c:=c) λu=>hnx u).mono ?_⟩
 . exact Kr
 . exact Kr
 rintro _ O2 ⟨rfl,rfl⟩
 refine Kv k9 ?_
 refine⟨λh6=>?_,λh6=>?_⟩<;>(try simp only[BL] at h6)<;>refine Kv k9 ?_
 rotate_left 1
 . exact absurd h6 (by omega)
 refine⟨psC (ts2) c,_,⟨?_,?_⟩,(kC (c:=c) λu=>hnx u).mono ?_⟩
 . exact Kr
 . exact Kr
 rintro _ O2 ⟨rfl,rfl⟩
 refine Kv k9 ?_
 repeat'((first|(intro hlq;try simp only[SL] at hlq)|refine Meets.k (htm) ?_|refine K9 ?_|((refine Kh (λhb=>?_) λhb=>?_)<;>try simp only[BL] at hb)|refine K8 ?_)<;>refine Kv k9 ?_)
 all_goals try(exact absurd hb (by decide))
 refine⟨psC (ts2) c,_,⟨?_,?_⟩,(kC (c:=c) λu=>S7 ts2 u he).mono ?_⟩
 . exact Kr
 . exact Kr
 rintro _ O2 ⟨rfl,rfl⟩
 refine Kv k9 ?_
 refine⟨psC (ts2.tail) c,_,⟨?_,?_⟩,(kR (c:=c) λu=>r9 ts2.tail u [123] hq3.1).mono ?_⟩
 . exact Kr
 . exact Kr
 intro o O2 ho
 have hh:=d8 ho
 clear ho
 obtain hh|hh:=hh
 . obtain⟨a,e,ts9,c9,hU,rfl,rfl⟩:=hh
   (try dsimp only at hU)
   rw[hU] at hres
   (try rw[Rs.bind_er] at hres)
   refine Kv k9 ?_
   refine⟨psC ts9 c9,⟨?_,?_⟩,?_⟩
   . exact Kr
   . exact Kr
   rw[hres]
   exact⟨_,_,rfl,rfl⟩
 obtain⟨x1,ts4,hU,rfl,rfl⟩:=hh
 (try dsimp only at hU)
 rw[hU] at hres
 (try rw[Rs.bind_ok] at hres)
 refine Kv k9 ?_
 have hq4:=n9 hq3 _ _ hU
 have hn2:p6 c.ms k 0 [] ts4≠ .out:=J8 (by rw[<-hres];exact hn)
 refine⟨psC (ts4) c,_,⟨?_,?_⟩,(b2l k hk k (Nat.le_refl _) 0 ts4 c (by omega) hq4 hn2).mono ?_⟩
 . exact Kr
 . exact Kr
 intro o O2 ho
 have hh:=d8 ho
 clear ho
 obtain hh|hh:=hh
 . obtain⟨a,e,ts9,c9,hU,rfl,rfl⟩:=hh
   (try dsimp only at hU)
   rw[hU] at hres
   (try rw[Rs.bind_er] at hres)
   refine Kv k9 ?_
   refine⟨psC ts9 c9,⟨?_,?_⟩,?_⟩
   . exact Kr
   . exact Kr
   rw[hres]
   exact⟨_,_,rfl,rfl⟩
 obtain⟨r,ts5,hU,rfl,rfl⟩:=hh
 (try dsimp only at hU)
 rw[hU] at hres
 (try rw[Rs.bind_ok] at hres)
 refine Kv k9 ?_
 have hq5:=a3X _ _ _ _ hq4 _ _ hU
 refine j7 tok k9 [(.inr (2,3),7100,94,3)] (X:=Nat×List Cutoff×List Tk) (λ_=>[]) (λs=>(2, .box [.d (.str w), .d (ptD r),iB v, .own 7100,iB (-1)] 91)::(7100, .sl ⟨94,3,s.2.1.map Cutoff.cells,true⟩)::psC s.2.2 c) [] (λs=>s.1<=k/\QT s.2.2/\res=((C4 c.ms s.1 s.2.1 s.2.2).bind λa ts=>(U2 c.ms ts).bind λa_1 ts=>(d7 [125] ts).bind λ_ ts=> .ok {c with distances:=c.distances++[⟨w,r,v,a,a_1⟩]} ts)/\s.2.1.length+s.1<=k) (λs=>s.1) (k,[],ts5) ?_
 refine Kv k9 ?_
 refine⟨by simp,?_⟩
 refine Kv k9 ?_
 refine And.intro ?_ ⟨⟨Nat.le_refl _,hq5,hres,by simp⟩,λs hΦ=>?_⟩
 . exact Kr
 clear hres hU hq5 hn2 hq4 htm g1 g3 g4 hnx he hq2 hq3 h6 g2
 obtain⟨j,l,ts6⟩:=s
 obtain⟨hj,hq6,hres,hlen⟩:=hΦ
 dsimp only at hj hq6 hres hlen
 cases j with
 |zero=>rw[C4] at hres;exact absurd hres hn
 |succ j=>
 rw[C4] at hres
 have h1:=Bool.eq_false_or_eq_true (isW [99,117,116,111,102,102] ts6)
 refine Kv k9 ?_
 obtain h1|h1:=h1
 . rw [if_pos h1] at hres
   simp only[Rs.bind_assoc,Rs.bind_ok] at hres
   have hq7:=hq6.isW h1
   refine⟨psC (ts6) c,_,⟨?_,?_⟩,(kC (c:=c) λu=>A5 ts6 u [99,117,116,111,102,102] hq6.1 h1).mono ?_⟩
   . exact Kr
   . exact Kr
   rintro _ O2 ⟨rfl,rfl⟩
   refine Kv k9 ?_
   refine⟨psC (ts6.tail) c,_,⟨?_,?_⟩,(a2A ts6.tail c hq7).mono ?_⟩
   . exact Kr
   . exact Kr
   intro o O2 ho
   have hh:=d8 ho
   clear ho
   obtain hh|hh:=hh
   . obtain⟨a,e,ts9,c9,hU,rfl,rfl⟩:=hh
     (try dsimp only at hU)
     rw[hU] at hres
     (try rw[Rs.bind_er] at hres)
     refine Kv k9 ?_
     refine⟨psC ts9 c9,⟨?_,?_⟩,?_⟩
     . exact Kr
     . exact Kr
     rw[hres]
     exact⟨_,_,rfl,rfl⟩
   obtain⟨m,ts7,hU,rfl,rfl⟩:=hh
   (try dsimp only at hU)
   rw[hU] at hres
   (try rw[Rs.bind_ok] at hres)
   refine Kv k9 ?_
   have hq8:=I6 hq7 _ _ hU
   refine⟨psC (ts7) c,_,⟨?_,?_⟩,(kR (c:=c) λu=>r9 ts7 u [108,97,112] hq8.1).mono ?_⟩
   . exact Kr
   . exact Kr
   intro o O2 ho
   have hh:=d8 ho
   clear ho
   obtain hh|hh:=hh
   . obtain⟨a,e,ts9,c9,hU,rfl,rfl⟩:=hh
     (try dsimp only at hU)
     rw[hU] at hres
     (try rw[Rs.bind_er] at hres)
     refine Kv k9 ?_
     refine⟨psC ts9 c9,⟨?_,?_⟩,?_⟩
     . exact Kr
     . exact Kr
     rw[hres]
     exact⟨_,_,rfl,rfl⟩
   obtain⟨x2,ts8,hU,rfl,rfl⟩:=hh
   (try dsimp only at hU)
   rw[hU] at hres
   (try rw[Rs.bind_ok] at hres)
   refine Kv k9 ?_
   have hq9:=n9 hq8 _ _ hU
   refine⟨psC (ts8) c,_,⟨?_,?_⟩,(kR (c:=c) λu=>A2 ts8 u hq9).mono ?_⟩
   . exact Kr
   . exact Kr
   intro o O2 ho
   have hh:=d8 ho
   clear ho
   obtain hh|hh:=hh
   . obtain⟨a,e,ts9,c9,hU,rfl,rfl⟩:=hh
     (try dsimp only at hU)
     rw[hU] at hres
     (try rw[Rs.bind_er] at hres)
     refine Kv k9 ?_
     refine⟨psC ts9 c9,⟨?_,?_⟩,?_⟩
     . exact Kr
     . exact Kr
     rw[hres]
     exact⟨_,_,rfl,rfl⟩
   obtain⟨n,ts9,hU,rfl,rfl⟩:=hh
   (try dsimp only at hU)
   rw[hU] at hres
   (try rw[Rs.bind_ok] at hres)
   refine Kv k9 ?_
   have hqa:=A1 hq9 _ _ hU
   refine⟨psC (ts9) c,_,⟨?_,?_⟩,(kR (c:=c) λu=>a1I hT ts9 u hqa).mono ?_⟩
   . exact Kr
   . exact Kr
   intro o O2 ho
   have hh:=d8 ho
   clear ho
   obtain hh|hh:=hh
   . obtain⟨a,e,ts9,c9,hU,rfl,rfl⟩:=hh
     (try dsimp only at hU)
     rw[hU] at hres
     (try rw[Rs.bind_er] at hres)
     refine Kv k9 ?_
     refine⟨psC ts9 c9,⟨?_,?_⟩,?_⟩
     . exact Kr
     . exact Kr
     rw[hres]
     exact⟨_,_,rfl,rfl⟩
   obtain⟨t,tsa,hU,rfl,rfl⟩:=hh
   (try dsimp only at hU)
   rw[hU] at hres
   (try rw[Rs.bind_ok] at hres)
   refine Kv k9 ?_
   have hqb:=I1 hqa _ _ hU
   refine⟨psC (tsa) c,_,⟨?_,?_⟩,(kR (c:=c) λu=>r9 tsa u [59] hqb.1).mono ?_⟩
   . exact Kr
   . exact Kr
   intro o O2 ho
   have hh:=d8 ho
   clear ho
   obtain hh|hh:=hh
   . obtain⟨a,e,ts9,c9,hU,rfl,rfl⟩:=hh
     (try dsimp only at hU)
     rw[hU] at hres
     (try rw[Rs.bind_er] at hres)
     refine Kv k9 ?_
     refine⟨psC ts9 c9,⟨?_,?_⟩,?_⟩
     . exact Kr
     . exact Kr
     rw[hres]
     exact⟨_,_,rfl,rfl⟩
   obtain⟨x3,tsb,hU,rfl,rfl⟩:=hh
   (try dsimp only at hU)
   rw[hU] at hres
   (try rw[Rs.bind_ok] at hres)
   refine Kv k9 ?_
   have hqc:=n9 hqb _ _ hU
   refine⟨by simp,?_⟩
   refine Kv k9 ?_
   refine⟨λh1 h2=>?_,?_⟩
   . simp only[List.length_map,List.length_cons,List.length_nil]
     omega
   refine Kv k9 ?_
   refine⟨⟨(j,l++[⟨m,n,t⟩],tsb),?_,⟨by dsimp only;omega,hqc,hres,by dsimp only;simp only[List.length_append,List.length_cons,List.length_nil];omega⟩,by dsimp only;omega⟩⟩
   repeat'(first|exact True.intro|exact rfl|refine And.intro ?_ ?_|(exact(by simp only[List.map_append,List.map_cons,List.map_nil])))
 rw[if_neg (by rw[h1];decide),Rs.bind_ok] at hres
 refine⟨psC (ts6) c,_,⟨?_,?_⟩,(kC (c:=c) λu=>j0 ts6 u [99,117,116,111,102,102] hq6.1 h1).mono ?_⟩
 . exact Kr
 . exact Kr
 rintro _ O2 ⟨rfl,rfl⟩
 refine Kv k9 ?_
 unfold U2 at hres
 have h2:=Bool.eq_false_or_eq_true (isW [101,120,116,114,97] ts6)
 obtain h2|h2:=h2
 . rw [if_pos h2] at hres
   simp only[Rs.bind_assoc,Rs.bind_ok] at hres
   have hq7:=hq6.isW h2
   refine⟨psC (ts6) c,_,⟨?_,?_⟩,(kC (c:=c) λu=>A5 ts6 u [101,120,116,114,97] hq6.1 h2).mono ?_⟩
   . exact Kr
   . exact Kr
   rintro _ O2 ⟨rfl,rfl⟩
   refine Kv k9 ?_
   refine⟨psC (ts6.tail) c,_,⟨?_,?_⟩,(a2A ts6.tail c hq7).mono ?_⟩
   . exact Kr
   . exact Kr
   intro o O2 ho
   have hh:=d8 ho
   clear ho
   obtain hh|hh:=hh
   . obtain⟨a,e,ts9,c9,hU,rfl,rfl⟩:=hh
     (try dsimp only at hU)
     rw[hU] at hres
     (try rw[Rs.bind_er] at hres)
     refine Kv k9 ?_
     refine⟨psC ts9 c9,⟨?_,?_⟩,?_⟩
     . exact Kr
     . exact Kr
     rw[hres]
     exact⟨_,_,rfl,rfl⟩
   obtain⟨m,ts7,hU,rfl,rfl⟩:=hh
   (try dsimp only at hU)
   rw[hU] at hres
   (try rw[Rs.bind_ok] at hres)
   refine Kv k9 ?_
   have hq8:=I6 hq7 _ _ hU
   refine⟨psC (ts7) c,_,⟨?_,?_⟩,(kR (c:=c) λu=>r9 ts7 u [59] hq8.1).mono ?_⟩
   . exact Kr
   . exact Kr
   intro o O2 ho
   have hh:=d8 ho
   clear ho
   obtain hh|hh:=hh
   . obtain⟨a,e,ts9,c9,hU,rfl,rfl⟩:=hh
     (try dsimp only at hU)
     rw[hU] at hres
     (try rw[Rs.bind_er] at hres)
     refine Kv k9 ?_
     refine⟨psC ts9 c9,⟨?_,?_⟩,?_⟩
     . exact Kr
     . exact Kr
     rw[hres]
     exact⟨_,_,rfl,rfl⟩
   obtain⟨x2,ts8,hU,rfl,rfl⟩:=hh
   (try dsimp only at hU)
   rw[hU] at hres
   (try rw[Rs.bind_ok] at hres)
   refine Kv k9 ?_
   have hq9:=n9 hq8 _ _ hU
   refine⟨psC (ts8) c,_,⟨?_,?_⟩,(kR (c:=c) λu=>r9 ts8 u [125] hq9.1).mono ?_⟩
   . exact Kr
   . exact Kr
   intro o O2 ho
   have hh:=d8 ho
   clear ho
   obtain hh|hh:=hh
   . obtain⟨a,e,ts9,c9,hU,rfl,rfl⟩:=hh
     (try dsimp only at hU)
     rw[hU] at hres
     (try rw[Rs.bind_er] at hres)
     refine Kv k9 ?_
     refine⟨psC ts9 c9,⟨?_,?_⟩,?_⟩
     . exact Kr
     . exact Kr
     rw[hres]
     exact⟨_,_,rfl,rfl⟩
   obtain⟨x3,ts9,hU,rfl,rfl⟩:=hh
   (try dsimp only at hU)
   rw[hU] at hres
   (try rw[Rs.bind_ok] at hres)
   refine Kv k9 ?_
   refine j9 tok (cf:=k9) (by kernel_rfl) [.p 0, .p 1, .p 2, .p 3, .p 4, .p 5, .p 6, .p 7, .s 8 [5,7,4,6,3,2,1], .p 9, .p 10, .p 11, .s 12 [11,0,10,9]] (by kernel_rfl) ?_
   refine Kv k9 ?_
   refine⟨by simp,?_⟩
   refine Kv k9 ?_
   refine⟨λh1 h2=>?_,?_⟩
   . simp only[List.length_map,List.length_cons,List.length_nil]
     omega
   refine Kv k9 ?_
   refine⟨psC (ts9) {c with distances:=c.distances++[⟨w,r,v,l,m⟩]}, .d (.tup []),?_,?_⟩
   rotate_left 1
   . rw[hres]
     exact⟨rfl,rfl⟩
   repeat'(first|exact True.intro|exact rfl|refine And.intro ?_ ?_|(exact(by simp only[List.map_append,List.map_cons,List.map_nil])))
 . rw [if_neg (by rw[h2];decide)] at hres
   simp only[Rs.bind_assoc,Rs.bind_ok] at hres
   refine⟨psC (ts6) c,_,⟨?_,?_⟩,(kC (c:=c) λu=>j0 ts6 u [101,120,116,114,97] hq6.1 h2).mono ?_⟩
   . exact Kr
   . exact Kr
   rintro _ O2 ⟨rfl,rfl⟩
   refine Kv k9 ?_
   refine⟨psC (ts6) c,_,⟨?_,?_⟩,(kR (c:=c) λu=>r9 ts6 u [125] hq6.1).mono ?_⟩
   . exact Kr
   . exact Kr
   intro o O2 ho
   have hh:=d8 ho
   clear ho
   obtain hh|hh:=hh
   . obtain⟨a,e,ts9,c9,hU,rfl,rfl⟩:=hh
     (try dsimp only at hU)
     rw[hU] at hres
     (try rw[Rs.bind_er] at hres)
     refine Kv k9 ?_
     refine⟨psC ts9 c9,⟨?_,?_⟩,?_⟩
     . exact Kr
     . exact Kr
     rw[hres]
     exact⟨_,_,rfl,rfl⟩
   obtain⟨x3,ts9,hU,rfl,rfl⟩:=hh
   (try dsimp only at hU)
   rw[hU] at hres
   (try rw[Rs.bind_ok] at hres)
   refine Kv k9 ?_
   refine j9 tok (cf:=k9) (by kernel_rfl) [.p 0, .p 1, .p 2, .p 3, .p 4, .p 5, .p 6, .p 7, .s 8 [5,7,4,6,3,2,1], .p 9, .p 10, .p 11, .s 12 [11,0,10,9]] (by kernel_rfl) ?_
   refine Kv k9 ?_
   refine⟨by simp,?_⟩
   refine Kv k9 ?_
   refine⟨λh1 h2=>?_,?_⟩
   . simp only[List.length_map,List.length_cons,List.length_nil]
     omega
   refine Kv k9 ?_
   refine⟨psC (ts9) {c with distances:=c.distances++[⟨w,r,v,l,-1⟩]}, .d (.tup []),?_,?_⟩
   rotate_left 1
   . rw[hres]
     exact⟨rfl,rfl⟩
   repeat'(first|exact True.intro|exact rfl|refine And.intro ?_ ?_|(exact(by simp only[List.map_append,List.map_cons,List.map_nil])))
end Go.Proofs.YtaopegkpjhkooaaGreatDoor.Dx
