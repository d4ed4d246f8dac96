/- Chapter. -/
import Derived.Test.YteillnfhkeebjaaGreatDoorXu
set_option linter.all false
namespace Go.Proofs.YteillnfhkeebjaaGreatDoor.Dx
open Go Go.RowKit
set_option maxRecDepth 100000
set_option maxHeartbeats 16000000
theorem d3F (ts:List Tk):(a5j ts=none/\(hdT ts).kind≠1)\/((hdT ts).kind=1/\a5j ts=none/\(if(hdT ts).text=[103,117,110] then 1 else if(hdT ts).text=[99,104,105,112] then 2 else if(hdT ts).text=[115,108,111,116] then 3 else 0)=(0:Int)/\decide ((hdT ts).text=[103,117,110]\/(hdT ts).text=[99,104,105,112]\/(hdT ts).text=[115,108,111,116])=false)\/
 ∃v:Int,(hdT ts).kind=1/\a5j ts=some v/\(if(hdT ts).text=[103,117,110] then 1 else if(hdT ts).text=[99,104,105,112] then 2 else if(hdT ts).text=[115,108,111,116] then 3 else 0)=v/\decide ((hdT ts).text=[103,117,110]\/(hdT ts).text=[99,104,105,112]\/(hdT ts).text=[115,108,111,116])=true:=by
 unfold a5j;by_cases hk:(hdT ts).kind=1
 . right
   rw[d4 hk];by_cases h1:(hdT ts).text=[103,117,110]
   . exact .inr ⟨1,hk,by rw[d4 h1],by rw[d4 h1],by simp[h1]⟩
   by_cases h2:(hdT ts).text=[99,104,105,112]
   . exact .inr ⟨2,hk,by rw[c8 h1,d4 h2],by rw[c8 h1,d4 h2],by simp[h2]⟩
   by_cases h3:(hdT ts).text=[115,108,111,116]
   . exact .inr ⟨3,hk,by rw[c8 h1,c8 h2,d4 h3],by rw[c8 h1,c8 h2,d4 h3],by simp[h3]⟩
   . exact .inl ⟨hk,by rw[c8 h1,c8 h2,c8 h3],by rw[c8 h1,c8 h2,c8 h3],by simp[h1,h2,h3]⟩
 . exact .inl ⟨c8 hk,hk⟩
abbrev a3z:Cfg:={rs:=[11,13,16]}
theorem a8B (F:Nat)(P:List Tk->Rs Int)(hP:∀ts u,QT ts->MR F [.loc 5000 0] (psO ts u) λo O'=>RdO iD (P ts) u o O')(hk:∀ts,QT ts->(P ts).kp)(w:List UInt8)(ts:List Tk)(u:Nat->Value)(hq:QT ts):
 MR 135 [.loc 5000 0, .d (.str w), .fn F [.loc 5000 0] []] (psO ts u) λo O'=>RdO iD (S8 w P ts) u o O':=by
 obtain⟨res,hres⟩:∃res,res=S8 w P ts:=⟨_,rfl⟩
 rw[<-hres];unfold S8 at hres;refine EnR a3z Tryz.func135 Tryz.ntmps135 λ_ _ _ _ _=>?_;refine Kv a3z ?_;refine⟨psO ts u,_,⟨Kr,Kr⟩,(D1 ts u w hq.1).mono ?_⟩;intro o O2 ho;have hh:=H6 ho;clear ho;obtain hh|hh:=hh
 . obtain⟨a,e,ts9,hU,rfl,rfl⟩:=hh;(try dsimp only at hU);rw[hU] at hres;(try rw[j9] at hres);refine Kv a3z ?_;refine⟨psO ts9 u,⟨Kr,Kr⟩,?_⟩;rw[hres];exact⟨_,rfl,rfl⟩
 obtain⟨x1,ts2,hU,rfl,rfl⟩:=hh;(try dsimp only at hU);rw[hU] at hres;(try rw[j7] at hres);refine Kv a3z ?_;have hq2:=v7 hq _ _ hU;refine⟨psO ts2 u,_,⟨Kr,Kr⟩,(hP ts2 u hq2).mono ?_⟩;intro o O2 ho;have hh:=H6 ho;clear ho;obtain hh|hh:=hh
 . obtain⟨a,e,ts9,hU,rfl,rfl⟩:=hh;(try dsimp only at hU);rw[hU] at hres;(try rw[j9] at hres);refine Kv a3z ?_;refine⟨psO ts9 u,⟨Kr,Kr⟩,?_⟩;rw[hres];exact⟨_,rfl,rfl⟩
 obtain⟨n,ts3,hU,rfl,rfl⟩:=hh;(try dsimp only at hU);rw[hU] at hres;(try rw[j7] at hres);refine Kv a3z ?_;have hq3:=hk _ hq2 _ _ hU;refine⟨psO ts3 u,_,⟨Kr,Kr⟩,(D1 ts3 u [59] hq3.1).mono ?_⟩;intro o O2 ho;have hh:=H6 ho;clear ho;obtain hh|hh:=hh
 . obtain⟨a,e,ts9,hU,rfl,rfl⟩:=hh;(try dsimp only at hU);rw[hU] at hres;(try rw[j9] at hres);refine Kv a3z ?_;refine⟨psO ts9 u,⟨Kr,Kr⟩,?_⟩;rw[hres];exact⟨_,rfl,rfl⟩
 obtain⟨x2,ts4,hU,rfl,rfl⟩:=hh;(try dsimp only at hU);rw[hU] at hres;(try rw[j7] at hres);refine Kv a3z ?_;refine⟨psO ts4 u, .d (iD n),?_,?_⟩;rotate_left 1
 . rw[hres];exact⟨rfl,rfl⟩
 repeat'(first|exact d9|exact rfl|refine d8 ?_ ?_)
abbrev s9:Cfg:={rs:=[6,9,14,23,25,28,30,33,35,39,41,44,48,56,58,62,65],priv:=[7]}
theorem c5A (hT:R7)(k:Nat)(hk:k<=1000000000)(ts:List Tk)(c:Course)(hq:QT ts)(hl:c.distances.length<=1000000000)(hn:((X8 c.ms k ts).bind λx ts=>(.ok {c with distances:=c.distances++[x]} ts:Rs Course))≠ .out):
 MR 128 [.loc 5000 0] (psC ts c) λo O'=>RdV (λ_=> .tup []) id ((X8 c.ms k ts).bind λx ts=> .ok {c with distances:=c.distances++[x]} ts) o O':=by
 obtain⟨res,hres⟩:∃res,res=(X8 c.ms k ts).bind λx ts=> .ok {c with distances:=c.distances++[x]} ts:=⟨_,rfl⟩
 rw[<-hres] at hn⊢;simp only[X8,O3,j7] at hres;refine EnR s9 Tryz.func128 Tryz.ntmps128 λ_ _ _ _ _=>?_;refine Kv s9 ?_;refine⟨psC (ts) c,_,⟨Kr,Kr⟩,(kR (c:=c) λu=>a3O ts u hq).mono ?_⟩;intro o O2 ho;have hh:=o7 ho;clear ho;obtain hh|hh:=hh
 . obtain⟨a,e,ts9,c9,hU,rfl,rfl⟩:=hh;(try dsimp only at hU);rw[hU] at hres;(try rw[j9] at hres);((conv=>whnf);repeat'((fail_if_success (refine a4j 1 ?_));refine Y s9 rfl ?_;conv=>whnf))
   refine⟨psC ts9 c9,⟨Kr,Kr⟩,?_⟩;rw[hres];exact⟨_,_,rfl,rfl⟩
 obtain⟨w,ts2,hU,rfl,rfl⟩:=hh;(try dsimp only at hU);rw[hU] at hres;(try rw[j7] at hres);((conv=>whnf);repeat'((fail_if_success (refine a4j 1 ?_));refine Y s9 rfl ?_;conv=>whnf))
 have hq2:=Y5 hq _ _ hU;refine b5r 2 [.d (.str w), .d (.raw (.slice none 0 0)),iB 0, .full [],iB (-1)] rfl ⟨.inl rfl, .inl rfl, .inl rfl, .inr ⟨rfl, .inl rfl⟩, .inl rfl,d9⟩ ?_;refine Kv s9 ?_;have he:=hq2.1;have hnx:=λu=>b8Z ts2 u he;have htc:=d3F ts2;have htm:=d3R (hdT ts2).text;unfold a5k at hres;obtain⟨g1,g2⟩|⟨g2,g1,g3,g4⟩|⟨v,g2,g1,g3,g4⟩:=htc
 . rw[g1] at hres;dsimp only at hres;refine⟨psC (ts2) c,_,⟨Kr,Kr⟩,(kC (c:=c) λu=>hnx u).mono ?_⟩;rintro _ O2 ⟨rfl,rfl⟩;refine Kv s9 ?_;refine⟨λh6=>?_,λh6=>?_⟩<;>(try simp only[BL] at h6)<;>refine Kv s9 ?_
   . exact absurd h6 (by omega)
   refine⟨λ_=>?_,λh=>absurd h (by decide)⟩;refine Kv s9 ?_;refine⟨psC (ts2) c,_,⟨Kr,Kr⟩,(kP (c:=c) λu=>T9 ts2 u 60 he).mono ?_⟩;rintro _ O2 ⟨rfl,rfl⟩;refine Kv s9 ?_;refine⟨psC (ts2) c,⟨Kr,Kr⟩,?_⟩;rw[hres];exact⟨_,_,rfl,rfl⟩
 . rw[g1] at hres;dsimp only at hres;rw[g3,g4] at htm;refine⟨psC (ts2) c,_,⟨Kr,Kr⟩,(kC (c:=c) λu=>hnx u).mono ?_⟩;rintro _ O2 ⟨rfl,rfl⟩;refine Kv s9 ?_;refine⟨λh6=>?_,λh6=>?_⟩<;>(try simp only[BL] at h6)<;>refine Kv s9 ?_;rotate_left 1
   . exact absurd h6 (by omega)
   refine⟨psC (ts2) c,_,⟨Kr,Kr⟩,(kC (c:=c) λu=>hnx u).mono ?_⟩;rintro _ O2 ⟨rfl,rfl⟩;refine Kv s9 ?_;repeat'((first|(intro hlq;try simp only[SL] at hlq)|refine Meets.k (htm) ?_|refine K9 ?_|((refine Kh (λhb=>?_) λhb=>?_)<;>try simp only[BL] at hb)|refine K8 ?_)<;>refine Kv s9 ?_)
   all_goals try(exact absurd hb (by decide))
   refine⟨psC (ts2) c,_,⟨Kr,Kr⟩,(kP (c:=c) λu=>T9 ts2 u 60 he).mono ?_⟩;rintro _ O2 ⟨rfl,rfl⟩;refine Kv s9 ?_;refine⟨psC (ts2) c,⟨Kr,Kr⟩,?_⟩;rw[hres];exact⟨_,_,rfl,rfl⟩
 rw[g1] at hres;dsimp only at hres;rw[j7] at hres;rw[g3,g4] at htm;have hq3:QT ts2.tail:=hq2.tail (by rw[g2];decide);refine⟨psC (ts2) c,_,⟨Kr,Kr⟩,(kC (c:=c) λu=>hnx u).mono ?_⟩;rintro _ O2 ⟨rfl,rfl⟩;refine Kv s9 ?_;refine⟨λh6=>?_,λh6=>?_⟩<;>(try simp only[BL] at h6)<;>refine Kv s9 ?_;rotate_left 1
 . exact absurd h6 (by omega)
 refine⟨psC (ts2) c,_,⟨Kr,Kr⟩,(kC (c:=c) λu=>hnx u).mono ?_⟩;rintro _ O2 ⟨rfl,rfl⟩;refine Kv s9 ?_;repeat'((first|(intro hlq;try simp only[SL] at hlq)|refine Meets.k (htm) ?_|refine K9 ?_|((refine Kh (λhb=>?_) λhb=>?_)<;>try simp only[BL] at hb)|refine K8 ?_)<;>refine Kv s9 ?_)
 all_goals try(exact absurd hb (by decide))
 refine⟨psC (ts2) c,_,⟨Kr,Kr⟩,(kC (c:=c) λu=>a1p ts2 u he).mono ?_⟩;rintro _ O2 ⟨rfl,rfl⟩;refine Kv s9 ?_;refine⟨psC (ts2.tail) c,_,⟨Kr,Kr⟩,(kR (c:=c) λu=>D1 ts2.tail u [123] hq3.1).mono ?_⟩;intro o O2 ho;have hh:=o7 ho;clear ho;obtain hh|hh:=hh
 . obtain⟨a,e,ts9,c9,hU,rfl,rfl⟩:=hh;(try dsimp only at hU);rw[hU] at hres;(try rw[j9] at hres);refine Kv s9 ?_;refine⟨psC ts9 c9,⟨Kr,Kr⟩,?_⟩;rw[hres];exact⟨_,_,rfl,rfl⟩
 obtain⟨x1,ts4,hU,rfl,rfl⟩:=hh;(try dsimp only at hU);rw[hU] at hres;(try rw[j7] at hres);refine Kv s9 ?_;have hq4:=v7 hq3 _ _ hU;have hn2:A3 c.ms k 0 [] ts4≠ .out:=X4 (by rw[<-hres];exact hn);refine⟨psC (ts4) c,_,⟨Kr,Kr⟩,(b9s k hk k (p0 _) 0 ts4 c (by omega) hq4 hn2).mono ?_⟩;intro o O2 ho;have hh:=o7 ho;clear ho;obtain hh|hh:=hh
 . obtain⟨a,e,ts9,c9,hU,rfl,rfl⟩:=hh;(try dsimp only at hU);rw[hU] at hres;(try rw[j9] at hres);refine Kv s9 ?_;refine⟨psC ts9 c9,⟨Kr,Kr⟩,?_⟩;rw[hres];exact⟨_,_,rfl,rfl⟩
 obtain⟨r,ts5,hU,rfl,rfl⟩:=hh;(try dsimp only at hU);rw[hU] at hres;(try rw[j7] at hres);refine Kv s9 ?_;have hq5:=a8q _ _ _ _ hq4 _ _ hU;refine o4 tok s9 [(.inr (2,3),7100,78,3)] (X:=Nat×List Cutoff×List Tk) (λ_=>[]) (λs=>(2, .box [.d (.str w), .d (ptD r),iB v, .own 7100,iB (-1)] 82)::(7100, .sl ⟨78,3,s.2.1.map Cutoff.cells,true⟩)::psC s.2.2 c) [] (λs=>s.1<=k/\QT s.2.2/\res=((J8 c.ms s.1 s.2.1 s.2.2).bind λa ts=>(a1K c.ms ts).bind λa_1 ts=>(o3 [125] ts).bind λ_ ts=> .ok {c with distances:=c.distances++[⟨w,r,v,a,a_1⟩]} ts)/\s.2.1.length+s.1<=k) (λs=>s.1) (k,[],ts5) ?_;refine Kv s9 ?_;refine⟨by simp,?_⟩;refine Kv s9 ?_;refine d8 ?_ ⟨⟨p0 _,hq5,hres,by simp⟩,λs hΦ=>?_⟩
 . exact Kr
 clear hres hU hq5 hn2 hq4 htm g1 g3 g4 hnx he hq2 hq3 h6 g2;obtain⟨j,l,ts6⟩:=s;obtain⟨hj,hq6,hres,hlen⟩:=hΦ;dsimp only at hj hq6 hres hlen;cases j with
 |zero=>rw[J8] at hres;exact absurd hres hn
 |succ j=>
 rw[J8] at hres;have h1:=a1A (isW [99,117,116,111,102,102] ts6);refine Kv s9 ?_;obtain h1|h1:=h1
 . rw [d4 h1] at hres;simp only[O3,j7] at hres;have hq7:=hq6.isW h1;refine⟨psC (ts6) c,_,⟨Kr,Kr⟩,(kC (c:=c) λu=>G7 ts6 u [99,117,116,111,102,102] hq6.1 h1).mono ?_⟩;rintro _ O2 ⟨rfl,rfl⟩;refine Kv s9 ?_;refine⟨psC (ts6.tail) c,_,⟨Kr,Kr⟩,(a6p ts6.tail c hq7).mono ?_⟩;intro o O2 ho;have hh:=o7 ho;clear ho;obtain hh|hh:=hh
   . obtain⟨a,e,ts9,c9,hU,rfl,rfl⟩:=hh;(try dsimp only at hU);rw[hU] at hres;(try rw[j9] at hres);refine Kv s9 ?_;refine⟨psC ts9 c9,⟨Kr,Kr⟩,?_⟩;rw[hres];exact⟨_,_,rfl,rfl⟩
   obtain⟨m,ts7,hU,rfl,rfl⟩:=hh;(try dsimp only at hU);rw[hU] at hres;(try rw[j7] at hres);refine Kv s9 ?_;have hq8:=V5 hq7 _ _ hU;refine⟨psC (ts7) c,_,⟨Kr,Kr⟩,(kR (c:=c) λu=>D1 ts7 u [108,97,112] hq8.1).mono ?_⟩;intro o O2 ho;have hh:=o7 ho;clear ho;obtain hh|hh:=hh
   . obtain⟨a,e,ts9,c9,hU,rfl,rfl⟩:=hh;(try dsimp only at hU);rw[hU] at hres;(try rw[j9] at hres);refine Kv s9 ?_;refine⟨psC ts9 c9,⟨Kr,Kr⟩,?_⟩;rw[hres];exact⟨_,_,rfl,rfl⟩
   obtain⟨x2,ts8,hU,rfl,rfl⟩:=hh;(try dsimp only at hU);rw[hU] at hres;(try rw[j7] at hres);refine Kv s9 ?_;have hq9:=v7 hq8 _ _ hU;refine⟨psC (ts8) c,_,⟨Kr,Kr⟩,(kR (c:=c) λu=>G4 ts8 u hq9).mono ?_⟩;intro o O2 ho;have hh:=o7 ho;clear ho;obtain hh|hh:=hh
   . obtain⟨a,e,ts9,c9,hU,rfl,rfl⟩:=hh;(try dsimp only at hU);rw[hU] at hres;(try rw[j9] at hres);refine Kv s9 ?_;refine⟨psC ts9 c9,⟨Kr,Kr⟩,?_⟩;rw[hres];exact⟨_,_,rfl,rfl⟩
   obtain⟨n,ts9,hU,rfl,rfl⟩:=hh;(try dsimp only at hU);rw[hU] at hres;(try rw[j7] at hres);refine Kv s9 ?_;have hqa:=G3 hq9 _ _ hU;refine⟨psC (ts9) c,_,⟨Kr,Kr⟩,(kR (c:=c) λu=>a5l hT ts9 u hqa).mono ?_⟩;intro o O2 ho;have hh:=o7 ho;clear ho;obtain hh|hh:=hh
   . obtain⟨a,e,ts9,c9,hU,rfl,rfl⟩:=hh;(try dsimp only at hU);rw[hU] at hres;(try rw[j9] at hres);refine Kv s9 ?_;refine⟨psC ts9 c9,⟨Kr,Kr⟩,?_⟩;rw[hres];exact⟨_,_,rfl,rfl⟩
   obtain⟨t,tsa,hU,rfl,rfl⟩:=hh;(try dsimp only at hU);rw[hU] at hres;(try rw[j7] at hres);refine Kv s9 ?_;have hqb:=U0 hqa _ _ hU;refine⟨psC (tsa) c,_,⟨Kr,Kr⟩,(kR (c:=c) λu=>D1 tsa u [59] hqb.1).mono ?_⟩;intro o O2 ho;have hh:=o7 ho;clear ho;obtain hh|hh:=hh
   . obtain⟨a,e,ts9,c9,hU,rfl,rfl⟩:=hh;(try dsimp only at hU);rw[hU] at hres;(try rw[j9] at hres);refine Kv s9 ?_;refine⟨psC ts9 c9,⟨Kr,Kr⟩,?_⟩;rw[hres];exact⟨_,_,rfl,rfl⟩
   obtain⟨x3,tsb,hU,rfl,rfl⟩:=hh;(try dsimp only at hU);rw[hU] at hres;(try rw[j7] at hres);refine Kv s9 ?_;have hqc:=v7 hqb _ _ hU;refine⟨by simp,?_⟩;refine Kv s9 ?_;refine⟨λh1 h2=>?_,?_⟩
   . simp only[o9,i7,j8];omega
   refine Kv s9 ?_;refine⟨⟨(j,l++[⟨m,n,t⟩],tsb),?_,⟨by dsimp only;omega,hqc,hres,by dsimp only;simp only[j6,i7,j8];omega⟩,by dsimp only;omega⟩⟩;repeat'(first|exact d9|exact rfl|refine d8 ?_ ?_|(exact(by simp only[D3,o5,B8])))
 rw[c8 (by rw[h1];decide),j7] at hres;refine⟨psC (ts6) c,_,⟨Kr,Kr⟩,(kC (c:=c) λu=>q0 ts6 u [99,117,116,111,102,102] hq6.1 h1).mono ?_⟩;rintro _ O2 ⟨rfl,rfl⟩;refine Kv s9 ?_;unfold a1K at hres;have h2:=a1A (isW [101,120,116,114,97] ts6);obtain h2|h2:=h2
 . rw [d4 h2] at hres;simp only[O3,j7] at hres;have hq7:=hq6.isW h2;refine⟨psC (ts6) c,_,⟨Kr,Kr⟩,(kC (c:=c) λu=>G7 ts6 u [101,120,116,114,97] hq6.1 h2).mono ?_⟩;rintro _ O2 ⟨rfl,rfl⟩;refine Kv s9 ?_;refine⟨psC (ts6.tail) c,_,⟨Kr,Kr⟩,(a6p ts6.tail c hq7).mono ?_⟩;intro o O2 ho;have hh:=o7 ho;clear ho;obtain hh|hh:=hh
   . obtain⟨a,e,ts9,c9,hU,rfl,rfl⟩:=hh;(try dsimp only at hU);rw[hU] at hres;(try rw[j9] at hres);refine Kv s9 ?_;refine⟨psC ts9 c9,⟨Kr,Kr⟩,?_⟩;rw[hres];exact⟨_,_,rfl,rfl⟩
   obtain⟨m,ts7,hU,rfl,rfl⟩:=hh;(try dsimp only at hU);rw[hU] at hres;(try rw[j7] at hres);refine Kv s9 ?_;have hq8:=V5 hq7 _ _ hU;refine⟨psC (ts7) c,_,⟨Kr,Kr⟩,(kR (c:=c) λu=>D1 ts7 u [59] hq8.1).mono ?_⟩;intro o O2 ho;have hh:=o7 ho;clear ho;obtain hh|hh:=hh
   . obtain⟨a,e,ts9,c9,hU,rfl,rfl⟩:=hh;(try dsimp only at hU);rw[hU] at hres;(try rw[j9] at hres);refine Kv s9 ?_;refine⟨psC ts9 c9,⟨Kr,Kr⟩,?_⟩;rw[hres];exact⟨_,_,rfl,rfl⟩
   obtain⟨x2,ts8,hU,rfl,rfl⟩:=hh;(try dsimp only at hU);rw[hU] at hres;(try rw[j7] at hres);refine Kv s9 ?_;have hq9:=v7 hq8 _ _ hU;refine⟨psC (ts8) c,_,⟨Kr,Kr⟩,(kR (c:=c) λu=>D1 ts8 u [125] hq9.1).mono ?_⟩;intro o O2 ho;have hh:=o7 ho;clear ho;obtain hh|hh:=hh
   . obtain⟨a,e,ts9,c9,hU,rfl,rfl⟩:=hh;(try dsimp only at hU);rw[hU] at hres;(try rw[j9] at hres);refine Kv s9 ?_;refine⟨psC ts9 c9,⟨Kr,Kr⟩,?_⟩;rw[hres];exact⟨_,_,rfl,rfl⟩
   obtain⟨x3,ts9,hU,rfl,rfl⟩:=hh;(try dsimp only at hU);rw[hU] at hres;(try rw[j7] at hres);refine Kv s9 ?_;refine Dr s9 [.p 0, .p 1, .p 2, .p 3, .p 4, .p 5, .p 6, .p 7, .s 8 [5,7,4,6,3,2,1], .p 9, .p 10, .p 11, .s 12 [11,0,10,9]] ?_;refine Kv s9 ?_;refine⟨by simp,?_⟩;refine Kv s9 ?_;refine⟨λh1 h2=>?_,?_⟩
   . simp only[o9,i7,j8];omega
   refine Kv s9 ?_;refine⟨psC (ts9) {c with distances:=c.distances++[⟨w,r,v,l,m⟩]}, .d (.tup []),?_,?_⟩;rotate_left 1
   . rw[hres];exact⟨rfl,rfl⟩
   repeat'(first|exact d9|exact rfl|refine d8 ?_ ?_|(exact(by simp only[D3,o5,B8])))
 . rw [c8 (by rw[h2];decide)] at hres;simp only[O3,j7] at hres;refine⟨psC (ts6) c,_,⟨Kr,Kr⟩,(kC (c:=c) λu=>q0 ts6 u [101,120,116,114,97] hq6.1 h2).mono ?_⟩;rintro _ O2 ⟨rfl,rfl⟩;refine Kv s9 ?_;refine⟨psC (ts6) c,_,⟨Kr,Kr⟩,(kR (c:=c) λu=>D1 ts6 u [125] hq6.1).mono ?_⟩;intro o O2 ho;have hh:=o7 ho;clear ho;obtain hh|hh:=hh
   . obtain⟨a,e,ts9,c9,hU,rfl,rfl⟩:=hh;(try dsimp only at hU);rw[hU] at hres;(try rw[j9] at hres);refine Kv s9 ?_;refine⟨psC ts9 c9,⟨Kr,Kr⟩,?_⟩;rw[hres];exact⟨_,_,rfl,rfl⟩
   obtain⟨x3,ts9,hU,rfl,rfl⟩:=hh;(try dsimp only at hU);rw[hU] at hres;(try rw[j7] at hres);refine Kv s9 ?_;refine Dr s9 [.p 0, .p 1, .p 2, .p 3, .p 4, .p 5, .p 6, .p 7, .s 8 [5,7,4,6,3,2,1], .p 9, .p 10, .p 11, .s 12 [11,0,10,9]] ?_;refine Kv s9 ?_;refine⟨by simp,?_⟩;refine Kv s9 ?_;refine⟨λh1 h2=>?_,?_⟩
   . simp only[o9,i7,j8];omega
   refine Kv s9 ?_;refine⟨psC (ts9) {c with distances:=c.distances++[⟨w,r,v,l,-1⟩]}, .d (.tup []),?_,?_⟩;rotate_left 1
   . rw[hres];exact⟨rfl,rfl⟩
   repeat'(first|exact d9|exact rfl|refine d8 ?_ ?_|(exact(by simp only[D3,o5,B8])))
end Go.Proofs.YteillnfhkeebjaaGreatDoor.Dx
