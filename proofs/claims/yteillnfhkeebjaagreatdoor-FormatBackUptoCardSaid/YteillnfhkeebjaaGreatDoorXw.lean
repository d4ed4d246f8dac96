/- Chapter. -/
import Derived.Test.YteillnfhkeebjaaGreatDoorXv
set_option linter.all false
namespace Go.Proofs.YteillnfhkeebjaaGreatDoor.Dx
open Go Go.RowKit
set_option maxRecDepth 100000
set_option maxHeartbeats 16000000
def scF:Nat->Nat
 |0=>127
 |1=>128
 |2=>129
 |3=>130
 |4=>131
 |_=>132
def T6 (c:Course):Nat->Nat
 |0=>c.legs.length
 |1=>c.distances.length
 |2=>c.waves.length
 |3=>c.offences.length
 |4=>c.categories.length
 |_=>c.prizes.length
theorem d1A (hT:R7)(k:Nat)(hk:k<=1000000000)(i:Nat)(hi:i<6)(ts:List Tk)(c:Course)(hq:QT ts)(hl:T6 c i<=1000000000)(hn:S7 k i c ts≠ .out):
 MR (scF i) [.loc 5000 0] (psC ts c) λo O'=>RdV (λ_=> .tup []) id (S7 k i c ts) o O':=by
 match i,hi with
 |0,_=>exact c8j hT ts c hq hl
 |1,_=>exact c5A hT k hk ts c hq hl hn
 |2,_=>exact d5d hT ts c hq hl
 |3,_=>exact c9P hT ts c hq hl
 |4,_=>exact c4e ts c hq hl
 |5,_=>exact d0m ts c hq hl
theorem a3p {α β:Type}{r:Rs α}{f:α->List Tk->Rs β}{b:β}{ts:List Tk}(h:r.bind f= .ok b ts):∃a ts',r= .ok a ts'/\f a ts'= .ok b ts:=by
 cases r with
 |ok a ts'=>exact⟨a,ts',rfl,h⟩
 |er a e=>cases h
 |out=>cases h
theorem six {j:Nat}(hj:j<6):j=0\/j=1\/j=2\/j=3\/j=4\/j=5:=by omega
theorem d1z {k i:Nat}{c c':Course}{ts ts':List Tk}(hi:i<6)(h:S7 k i c ts= .ok c' ts'):T6 c' i=T6 c i+1/\∀j,j<6->j≠i->T6 c' j=T6 c j:=by
 match i,hi,h with
 |0,_,h=>obtain⟨a,ts2,_,h⟩:=a3p h;cases h;exact⟨by simp[T6],λj hj hne=>by rcases six hj with rfl|rfl|rfl|rfl|rfl|rfl<;>first|rfl|exact absurd rfl hne⟩
 |1,_,h=>obtain⟨a,ts2,_,h⟩:=a3p h;cases h;exact⟨by simp[T6],λj hj hne=>by rcases six hj with rfl|rfl|rfl|rfl|rfl|rfl<;>first|rfl|exact absurd rfl hne⟩
 |2,_,h=>obtain⟨a,ts2,_,h⟩:=a3p h;cases h;exact⟨by simp[T6],λj hj hne=>by rcases six hj with rfl|rfl|rfl|rfl|rfl|rfl<;>first|rfl|exact absurd rfl hne⟩
 |3,_,h=>obtain⟨a,ts2,_,h⟩:=a3p h;cases h;exact⟨by simp[T6],λj hj hne=>by rcases six hj with rfl|rfl|rfl|rfl|rfl|rfl<;>first|rfl|exact absurd rfl hne⟩
 |4,_,h=>obtain⟨a,ts2,_,h⟩:=a3p h;cases h;exact⟨by simp[T6],λj hj hne=>by rcases six hj with rfl|rfl|rfl|rfl|rfl|rfl<;>first|rfl|exact absurd rfl hne⟩
 |5,_,h=>obtain⟨a,ts2,_,h⟩:=a3p h;cases h;exact⟨by simp[T6],λj hj hne=>by rcases six hj with rfl|rfl|rfl|rfl|rfl|rfl<;>first|rfl|exact absurd rfl hne⟩
def d1t (v:Value):List (List D):=[[.str [108,101,103], .fn 127 [.raw v] []],[.str [100,105,115,116,97,110,99,101], .fn 128 [.raw v] []],[.str [119,97,118,101], .fn 129 [.raw v] []],[.str [111,102,102,101,110,99,101], .fn 130 [.raw v] []],[.str [99,97,116,101,103,111,114,121], .fn 131 [.raw v] []],[.str [112,114,105,122,101], .fn 132 [.raw v] []]]
theorem d1v {v:Value}{i:Nat}(hi:i<6):(d1t v)[(i:Int).toNat]?=some [.str (secW.getD i []), .fn (scF i) [.raw v] []]:=by
 rw[U4];match i,hi with
 |0,_=>rfl
 |1,_=>rfl
 |2,_=>rfl
 |3,_=>rfl
 |4,_=>rfl
 |5,_=>rfl
abbrev b1q:List Base:=[.d (.str []), .d (.raw (.slice none 0 0)), .d (.raw (.slice none 0 0)), .d (.raw (.slice none 0 0)), .d (.raw (.slice none 0 0)), .d (.raw (.slice none 0 0)), .d (.raw (.slice none 0 0)), .d (.raw (.slice none 0 0)), .d (.raw (.slice none 0 0)), .d (iD 0), .d (iD 0), .d (iD 0), .d (iD 0), .d (iD 0), .d (iD 0), .d (iD 0)]
def nmC (w:List UInt8):Course:=⟨w,[],[],[],[],[],[],[],[],⟨0,0,0,0,0⟩,0,0⟩
def a4S (k:Nat)(c:Course)(ts:List Tk):Rs Course:=(O9 [[109,97,116,115],[123]] ts).bind λ_ ts=>(H9 k c.mats ts).bind λms ts=> .ok {c with mats:=ms} ts
def a6j (k:Nat)(c:Course)(ts:List Tk):Rs Course:=
 (o3 [116,105,101,115] ts).bind λ_ ts=>(blockP k 0 ts).bind λl ts=>(O9 [[102,97,117,108,116,115],[123]] ts).bind λ_ ts=>
 (S8 [109,105,115,115,101,115] y0 ts).bind λa ts=>(S8 [115,116,114,97,121,115] y0 ts).bind λb ts=>(S8 [119,105,110,100,111,119] J2 ts).bind λw ts=>(S8 [114,101,115,105,100,117,97,108] J2 ts).bind λr ts=>(S8 [100,114,105,102,116] y0 ts).bind λd ts=>
 (O9 [[125],[112,114,111,116,101,115,116],[102,101,101]] ts).bind λ_ ts=>(y0 ts).bind λf ts=>(o3 [100,101,97,100,108,105,110,101] ts).bind λ_ ts=>(J2 ts).bind λt ts=>
 (O9 [[59],[125]] ts).bind λ_ ts=> .ok {c with ties:=l,faults:=⟨a,b,w,r,d⟩,fee:=f,deadline:=t} ts
theorem b8r (k:Nat)(c:Course)(ts:List Tk):a1k k c ts=a6j k c ts:=by
 unfold a1k a6j;simp only[O9,O3,j7]
theorem c4K (k:Nat)(ts:List Tk):N2 k ts=(o3 [99,111,117,114,115,101] ts).bind λ_ ts=>(O8 ts).bind λw ts=>(o3 [123] ts).bind λ_ ts=>(a4S k (nmC w) ts).bind λc ts=>(G6 k 6 0 c ts).bind λc ts=>a6j k c ts:=by
 unfold N2 a4S;simp only[O9,O3,j7,b8r];rfl
theorem c8S {k:Nat}{c c':Course}{ts ts':List Tk}(h:a4S k c ts= .ok c' ts'):∀j,j<6->T6 c' j=T6 c j:=by
 obtain⟨a,ts2,_,h⟩:=a3p h;obtain⟨l,ts3,_,h⟩:=a3p h;cases h;intro j hj;rcases six hj with rfl|rfl|rfl|rfl|rfl|rfl<;>rfl
theorem c8R {k:Nat}{c:Course}{ts:List Tk}(h:QT ts):(a4S k c ts).kp:=n8 (a4U h) λ_ _ h=>n8 (b3i _ _ _ h) λ_ _ h=>C3 h
theorem c8T (k:Nat)(ts:List Tk)(c:Course)(hq:QT ts)(hl:c.mats.length+k<=1000000000)(hn:a4S k c ts≠ .out):MR 126 [.loc 5000 0] (psC ts c) λo O'=>RdV (λ_=> .tup []) id (a4S k c ts) o O':=c8V k ts c hq hl hn
abbrev y7:Cfg:={rs:=[8,11,17,19,47,50,54,57,63,72,79,86,93,100,105,108,114,117,123],priv:=[21,24,27,30,33,36]}
theorem c4R (hT:R7)(k:Nat)(hk:k<=400000)(ts:List Tk)(hq:QT ts)(hn:N2 k ts≠ .out):
 MR 48 [.loc 5000 0] (pcO ts b1q []) λo O'=>RdV Course.d id (N2 k ts) o O':=by
 obtain⟨res,hres⟩:∃res,res=N2 k ts:=⟨_,rfl⟩
 rw[<-hres] at hn⊢;rw[c4K] at hres;refine EnR y7 Tryz.func48 Tryz.ntmps48 λ_ _ _ _ _=>?_;((conv=>whnf);repeat'((fail_if_success (refine a4j 1 ?_));refine Y y7 rfl ?_;conv=>whnf))
 refine b5r 5000 [.d (.sl (ts.map tkC)), .d (.str []), .full [], .full [], .full [], .full [], .full [], .full [], .full [], .d (.sl []),iB 0,iB 0,iB 0,iB 0,iB 0,iB 0,iB 0] rfl ⟨.inl rfl, .inl rfl, .inr ⟨rfl, .inl rfl⟩, .inr ⟨rfl, .inl rfl⟩, .inr ⟨rfl, .inl rfl⟩, .inr ⟨rfl, .inl rfl⟩, .inr ⟨rfl, .inl rfl⟩, .inr ⟨rfl, .inl rfl⟩, .inr ⟨rfl, .inl rfl⟩, .inr ⟨rfl, .inr rfl⟩, .inl rfl, .inl rfl, .inl rfl, .inl rfl, .inl rfl, .inl rfl, .inl rfl,d9⟩ ?_;conv=>whnf
 refine c2j [(.inr (5000,2),7001,94,2),(.inr (5000,3),7002,96,4),(.inr (5000,4),7003,82,5),(.inr (5000,5),7004,100,2),(.inr (5000,6),7005,102,4),(.inr (5000,7),7006,105,3),(.inr (5000,8),7007,107,4)] ?_;iterate 7
  conv=>whnf
  refine⟨λ_ h=>absurd h (by simp),?_⟩
 conv=>whnf
 refine c2k 10000 5000 rfl (by decide) λg=>?_;refine Y y7 rfl ?_;refine Kv y7 ?_;refine⟨psC (ts) zC,_,⟨Kr,Kr⟩,(kR (c:=zC) λu=>D1 ts u [99,111,117,114,115,101] hq.1).mono ?_⟩;intro o O2 ho;have hh:=o7 ho;clear ho;obtain hh|hh:=hh
 . obtain⟨a,e,ts9,c9,hU,rfl,rfl⟩:=hh;(try dsimp only at hU);rw[hU] at hres;(try rw[j9] at hres);refine Kv y7 ?_;refine⟨psC ts9 c9,⟨Kr,Kr⟩,?_⟩;rw[hres];exact⟨_,_,rfl,rfl⟩
 obtain⟨x1,ts1,hU,rfl,rfl⟩:=hh;(try dsimp only at hU);rw[hU] at hres;(try rw[j7] at hres);refine Kv y7 ?_;have hq1:=v7 hq _ _ hU;refine⟨psC (ts1) zC,_,⟨Kr,Kr⟩,(kR (c:=zC) λu=>a3O ts1 u hq1).mono ?_⟩;intro o O2 ho;have hh:=o7 ho;clear ho;obtain hh|hh:=hh
 . obtain⟨a,e,ts9,c9,hU,rfl,rfl⟩:=hh;(try dsimp only at hU);rw[hU] at hres;(try rw[j9] at hres);refine Kv y7 ?_;refine⟨psC ts9 c9,⟨Kr,Kr⟩,?_⟩;rw[hres];exact⟨_,_,rfl,rfl⟩
 obtain⟨w,ts2,hU,rfl,rfl⟩:=hh;(try dsimp only at hU);rw[hU] at hres;(try rw[j7] at hres);refine Kv y7 ?_;have hq2:=Y5 hq1 _ _ hU;refine⟨psC (ts2) (nmC w),_,⟨Kr,Kr⟩,(kR (c:=(nmC w)) λu=>D1 ts2 u [123] hq2.1).mono ?_⟩;intro o O2 ho;have hh:=o7 ho;clear ho;obtain hh|hh:=hh
 . obtain⟨a,e,ts9,c9,hU,rfl,rfl⟩:=hh;(try dsimp only at hU);rw[hU] at hres;(try rw[j9] at hres);refine Kv y7 ?_;refine⟨psC ts9 c9,⟨Kr,Kr⟩,?_⟩;rw[hres];exact⟨_,_,rfl,rfl⟩
 obtain⟨x2,ts3,hU,rfl,rfl⟩:=hh;(try dsimp only at hU);rw[hU] at hres;(try rw[j7] at hres);refine Kv y7 ?_;have hq3:=v7 hq2 _ _ hU;have hn3:a4S k (nmC w) ts3≠ .out:=X4 (by rw[<-hres];exact hn);refine⟨psC (ts3) (nmC w),_,⟨Kr,Kr⟩,(c8T k ts3 (nmC w) hq3 (by show 0+k<=_;omega) hn3).mono ?_⟩;intro o O2 ho;have hh:=o7 ho;clear ho;obtain hh|hh:=hh
 . obtain⟨a,e,ts9,c9,hU,rfl,rfl⟩:=hh;(try dsimp only at hU);rw[hU] at hres;(try rw[j9] at hres);refine Kv y7 ?_;refine⟨psC ts9 c9,⟨Kr,Kr⟩,?_⟩;rw[hres];exact⟨_,_,rfl,rfl⟩
 obtain⟨c0,ts4,hU,rfl,rfl⟩:=hh;(try dsimp only at hU);rw[hU] at hres;(try rw[j7] at hres);refine Kv y7 ?_;have hq4:=c8R hq3 _ _ hU;have hl4:=c8S hU;repeat'((first|(intro hlq;try simp only[SL] at hlq)|refine K9 ?_|refine K8 ?_)<;>refine Kv y7 ?_)
 refine o4 tok y7 [] (X:=Nat×Course×List Tk) (λs=>[(40,iB s.1)]) (λs=>(10000, .pn g [5000])::psC s.2.2 s.2.1) [] (λs=>s.1<=6/\QT s.2.2/\res=((G6 k (6-s.1) s.1 s.2.1 s.2.2).bind λc ts=>a6j k c ts)/\∀j,j<6->s.1<=j->T6 s.2.1 j=0) (λs=>6-s.1) (0,c0,ts4) ?_;refine Kv y7 ?_;refine d8 ?_ ⟨⟨by omega,hq4,hres,λj hj _=>(hl4 j hj).trans (by rcases six hj with rfl|rfl|rfl|rfl|rfl|rfl<;>rfl)⟩,λs hΦ=>?_⟩
 . exact Kr
 clear hres hU hq4 hq3 hn3 hl4 hq2 hq1 hq;obtain⟨i,c,ts5⟩:=s;obtain⟨hi,hq5,hres,hlen⟩:=hΦ;dsimp only at hi hq5 hres hlen;refine Kv y7 ?_;refine⟨λh1=>?_,λh1=>?_⟩<;>(try simp only[BL] at h1)<;>refine Kv y7 ?_
 . have h1':(i:Int)<((6:Nat):Int):=h1;have hi':i<6:=by omega
   refine⟨[.str (secW.getD i []), .fn (scF i) [.raw (g 5000).1] []],⟨by omega,d1v hi',rfl⟩,?_⟩;refine Kv y7 ?_;rw[show 6-i=(5-i)+1 by omega,G6,O3] at hres;refine o4 tok y7 [] (X:=Nat×Course×List Tk) (λ_=>[]) (λs=>(4, .box [.d (.str (secW.getD i [])), .d (.fn (scF i) [.raw (g 5000).1] [])] 212)::(10000, .pn g [5000])::psC s.2.2 s.2.1) [] (λs=>s.1<=k/\QT s.2.2/\res=((G5 i s.1 s.2.1 s.2.2).bind λc ts=>(G6 k (5-i) (i+1) c ts).bind λc ts=>a6j k c ts)/\T6 s.2.1 i+s.1<=k/\∀j,j<6->i<j->T6 s.2.1 j=0) (λs=>s.1) (k,c,ts5) ?_;refine Kv y7 ?_;refine d8 ?_ ⟨⟨p0 _,hq5,hres,by rw[hlen i hi' (p0 _)];omega,λj hj hij=>hlen j hj (by omega)⟩,λs hΦ=>?_⟩
   . exact Kr
   clear hres hlen hq5;obtain⟨j,c,ts6⟩:=s;obtain⟨hj,hq6,hres,hli,hlen⟩:=hΦ;dsimp only at hj hq6 hres hli hlen;cases j with
   |zero=>rw[G5] at hres;exact absurd hres hn
   |succ j=>
   rw[G5] at hres;have h2:=a1A (isW (secW.getD i []) ts6);refine Kv y7 ?_;obtain h2|h2:=h2
   . rw [d4 h2] at hres;simp only[O3] at hres;have hq7:=hq6.isW h2;have hn7:S7 j i c ts6.tail≠ .out:=X4 (by rw[<-hres];exact hn);refine⟨psC (ts6) c,_,⟨Kr,Kr⟩,(kC (c:=c) λu=>G7 ts6 u (secW.getD i []) hq6.1 h2).mono ?_⟩;rintro _ O2 ⟨rfl,rfl⟩;refine Kv y7 ?_;refine⟨psC ts6.tail c,_,⟨?_,?_⟩,(d1A hT j (by omega) i hi' ts6.tail c hq7 (by omega) hn7).mono ?_⟩
     . exact⟨⟨rfl,⟨_,_,rfl⟩,10000,g,_,rfl,rfl,rfl⟩,d9⟩
     . exact Kr
     intro o O2 ho;have hh:=o7 ho;clear ho;obtain hh|hh:=hh
     . obtain⟨a,e,ts9,c9,hU,rfl,rfl⟩:=hh;rw[hU] at hres;rw[j9] at hres;refine Kv y7 ?_;refine⟨psC ts9 c9,⟨Kr,Kr⟩,?_⟩;rw[hres];exact⟨_,_,rfl,rfl⟩
     obtain⟨c2,ts7,hU,rfl,rfl⟩:=hh;rw[hU] at hres;rw[j7] at hres;have hq8:=c0b hq7 _ _ hU;have hls:=d1z hi' hU;refine Kv y7 ?_;refine⟨⟨(j,c2,ts7),?_,⟨by dsimp only;omega,hq8,hres,by dsimp only;omega,λj' hj' hij=>(hls.2 j' hj' (by omega)).trans (hlen j' hj' hij)⟩,by dsimp only;omega⟩⟩;repeat'(first|exact d9|exact rfl|refine d8 ?_ ?_)
   . rw[c8 (by rw[h2];decide),j7] at hres;refine⟨psC (ts6) c,_,⟨Kr,Kr⟩,(kC (c:=c) λu=>q0 ts6 u (secW.getD i []) hq6.1 h2).mono ?_⟩;rintro _ O2 ⟨rfl,rfl⟩;refine Kv y7 ?_;repeat'((first|(intro hlq;try simp only[SL] at hlq)|refine K9 ?_|refine K8 ?_)<;>refine Kv y7 ?_)
     refine⟨⟨(i+1,c,ts6),?_,⟨by dsimp only;omega,hq6,by rw[hres];dsimp only;rw[show 6-(i+1)=5-i by omega],λj' hj' hij=>hlen j' hj' (by omega)⟩,by dsimp only;omega⟩⟩;repeat'(first|exact d9|exact rfl|refine d8 ?_ ?_)
 . have h1':¬(i:Int)<((6:Nat):Int):=h1;obtain rfl:i=6:=by omega
   rw[show 6-6=0 from rfl,G6,j7] at hres;unfold a6j at hres;refine⟨psC (ts5) c,_,⟨Kr,Kr⟩,(kR (c:=c) λu=>D1 ts5 u [116,105,101,115] hq5.1).mono ?_⟩;intro o O2 ho;have hh:=o7 ho;clear ho;obtain hh|hh:=hh
   . obtain⟨a,e,ts9,c9,hU,rfl,rfl⟩:=hh;(try dsimp only at hU);rw[hU] at hres;(try rw[j9] at hres);refine Kv y7 ?_;refine⟨psC ts9 c9,⟨Kr,Kr⟩,?_⟩;rw[hres];exact⟨_,_,rfl,rfl⟩
   obtain⟨x3,ts6,hU,rfl,rfl⟩:=hh;(try dsimp only at hU);rw[hU] at hres;(try rw[j7] at hres);refine Kv y7 ?_;have hq6:=v7 hq5 _ _ hU;have hn6:blockP k 0 ts6≠ .out:=X4 (by rw[<-hres];exact hn);have hbl:=λu=>(c0t k (by omega) k (p0 _)).2 0 ts6 u (by omega) hq6 hn6;refine⟨psC (ts6) c,_,⟨Kr,Kr⟩,(kR (c:=c) λu=>hbl u).mono ?_⟩;intro o O2 ho;have hh:=o7 ho;clear ho;obtain hh|hh:=hh
   . obtain⟨a,e,ts9,c9,hU,rfl,rfl⟩:=hh;(try dsimp only at hU);rw[hU] at hres;(try rw[j9] at hres);refine Kv y7 ?_;refine⟨psC ts9 c9,⟨Kr,Kr⟩,?_⟩;rw[hres];exact⟨_,_,rfl,rfl⟩
   obtain⟨l,ts7,hU,rfl,rfl⟩:=hh;(try dsimp only at hU);rw[hU] at hres;(try rw[j7] at hres);refine Kv y7 ?_;have hq7:=(a6E k).2 _ _ hq6 _ _ hU;refine⟨psC (ts7) {c with ties:=l},_,⟨Kr,Kr⟩,(kR (c:={c with ties:=l}) λu=>b0s [[102,97,117,108,116,115],[123]] ts7 u hq7.1).mono ?_⟩;intro o O2 ho;have hh:=o7 ho;clear ho;obtain hh|hh:=hh
   . obtain⟨a,e,ts9,c9,hU,rfl,rfl⟩:=hh;(try dsimp only at hU);rw[hU] at hres;(try rw[j9] at hres);refine Kv y7 ?_;refine⟨psC ts9 c9,⟨Kr,Kr⟩,?_⟩;rw[hres];exact⟨_,_,rfl,rfl⟩
   obtain⟨x4,ts8,hU,rfl,rfl⟩:=hh;(try dsimp only at hU);rw[hU] at hres;(try rw[j7] at hres);refine Kv y7 ?_;have hq8:=a4U hq7 _ _ hU;refine⟨psC (ts8) {c with ties:=l},_,⟨Kr,Kr⟩,(kR (c:={c with ties:=l}) λu=>a8B 136 y0 G4 (λ_ h=>G3 h) [109,105,115,115,101,115] ts8 u hq8).mono ?_⟩;intro o O2 ho;have hh:=o7 ho;clear ho;obtain hh|hh:=hh
   . obtain⟨a,e,ts9,c9,hU,rfl,rfl⟩:=hh;(try dsimp only at hU);rw[hU] at hres;(try rw[j9] at hres);refine Kv y7 ?_;refine⟨psC ts9 c9,⟨Kr,Kr⟩,?_⟩;rw[hres];exact⟨_,_,rfl,rfl⟩
   obtain⟨a,ts9,hU,rfl,rfl⟩:=hh;(try dsimp only at hU);rw[hU] at hres;(try rw[j7] at hres);refine Kv y7 ?_;have hq9:=a1W (λ_ h=>G3 h) hq8 _ _ hU;refine⟨psC (ts9) {c with ties:=l,faults:={c.faults with misses:=a}},_,⟨Kr,Kr⟩,(kR (c:={c with ties:=l,faults:={c.faults with misses:=a}}) λu=>a8B 136 y0 G4 (λ_ h=>G3 h) [115,116,114,97,121,115] ts9 u hq9).mono ?_⟩;intro o O2 ho;have hh:=o7 ho;clear ho;obtain hh|hh:=hh
   . obtain⟨a,e,ts9,c9,hU,rfl,rfl⟩:=hh;(try dsimp only at hU);rw[hU] at hres;(try rw[j9] at hres);refine Kv y7 ?_;refine⟨psC ts9 c9,⟨Kr,Kr⟩,?_⟩;rw[hres];exact⟨_,_,rfl,rfl⟩
   obtain⟨b,tsa,hU,rfl,rfl⟩:=hh;(try dsimp only at hU);rw[hU] at hres;(try rw[j7] at hres);refine Kv y7 ?_;have hqa:=a1W (λ_ h=>G3 h) hq9 _ _ hU;refine⟨psC (tsa) {c with ties:=l,faults:={c.faults with misses:=a,strays:=b}},_,⟨Kr,Kr⟩,(kR (c:={c with ties:=l,faults:={c.faults with misses:=a,strays:=b}}) λu=>a8B 137 J2 (a5l hT) (λ_ h=>U0 h) [119,105,110,100,111,119] tsa u hqa).mono ?_⟩;intro o O2 ho;have hh:=o7 ho;clear ho;obtain hh|hh:=hh
   . obtain⟨a,e,ts9,c9,hU,rfl,rfl⟩:=hh;(try dsimp only at hU);rw[hU] at hres;(try rw[j9] at hres);refine Kv y7 ?_;refine⟨psC ts9 c9,⟨Kr,Kr⟩,?_⟩;rw[hres];exact⟨_,_,rfl,rfl⟩
   obtain⟨w2,tsb,hU,rfl,rfl⟩:=hh;(try dsimp only at hU);rw[hU] at hres;(try rw[j7] at hres);refine Kv y7 ?_;have hqb:=a1W (λ_ h=>U0 h) hqa _ _ hU;refine⟨psC (tsb) {c with ties:=l,faults:={c.faults with misses:=a,strays:=b,window:=w2}},_,⟨Kr,Kr⟩,(kR (c:={c with ties:=l,faults:={c.faults with misses:=a,strays:=b,window:=w2}}) λu=>a8B 137 J2 (a5l hT) (λ_ h=>U0 h) [114,101,115,105,100,117,97,108] tsb u hqb).mono ?_⟩;intro o O2 ho;have hh:=o7 ho;clear ho;obtain hh|hh:=hh
   . obtain⟨a,e,ts9,c9,hU,rfl,rfl⟩:=hh;(try dsimp only at hU);rw[hU] at hres;(try rw[j9] at hres);refine Kv y7 ?_;refine⟨psC ts9 c9,⟨Kr,Kr⟩,?_⟩;rw[hres];exact⟨_,_,rfl,rfl⟩
   obtain⟨r,tsc,hU,rfl,rfl⟩:=hh;(try dsimp only at hU);rw[hU] at hres;(try rw[j7] at hres);refine Kv y7 ?_;have hqc:=a1W (λ_ h=>U0 h) hqb _ _ hU;refine⟨psC (tsc) {c with ties:=l,faults:={c.faults with misses:=a,strays:=b,window:=w2,residual:=r}},_,⟨Kr,Kr⟩,(kR (c:={c with ties:=l,faults:={c.faults with misses:=a,strays:=b,window:=w2,residual:=r}}) λu=>a8B 136 y0 G4 (λ_ h=>G3 h) [100,114,105,102,116] tsc u hqc).mono ?_⟩;intro o O2 ho;have hh:=o7 ho;clear ho;obtain hh|hh:=hh
   . obtain⟨a,e,ts9,c9,hU,rfl,rfl⟩:=hh;(try dsimp only at hU);rw[hU] at hres;(try rw[j9] at hres);refine Kv y7 ?_;refine⟨psC ts9 c9,⟨Kr,Kr⟩,?_⟩;rw[hres];exact⟨_,_,rfl,rfl⟩
   obtain⟨d,tsd,hU,rfl,rfl⟩:=hh;(try dsimp only at hU);rw[hU] at hres;(try rw[j7] at hres);refine Kv y7 ?_;have hqd:=a1W (λ_ h=>G3 h) hqc _ _ hU;refine⟨psC (tsd) {c with ties:=l,faults:=⟨a,b,w2,r,d⟩},_,⟨Kr,Kr⟩,(kR (c:={c with ties:=l,faults:=⟨a,b,w2,r,d⟩}) λu=>b0s [[125],[112,114,111,116,101,115,116],[102,101,101]] tsd u hqd.1).mono ?_⟩;intro o O2 ho;have hh:=o7 ho;clear ho;obtain hh|hh:=hh
   . obtain⟨a,e,ts9,c9,hU,rfl,rfl⟩:=hh;(try dsimp only at hU);rw[hU] at hres;(try rw[j9] at hres);refine Kv y7 ?_;refine⟨psC ts9 c9,⟨Kr,Kr⟩,?_⟩;rw[hres];exact⟨_,_,rfl,rfl⟩
   obtain⟨x5,tse,hU,rfl,rfl⟩:=hh;(try dsimp only at hU);rw[hU] at hres;(try rw[j7] at hres);refine Kv y7 ?_;have hqe:=a4U hqd _ _ hU;refine⟨psC (tse) {c with ties:=l,faults:=⟨a,b,w2,r,d⟩},_,⟨Kr,Kr⟩,(kR (c:={c with ties:=l,faults:=⟨a,b,w2,r,d⟩}) λu=>G4 tse u hqe).mono ?_⟩;intro o O2 ho;have hh:=o7 ho;clear ho;obtain hh|hh:=hh
   . obtain⟨a,e,ts9,c9,hU,rfl,rfl⟩:=hh;(try dsimp only at hU);rw[hU] at hres;(try rw[j9] at hres);refine Kv y7 ?_;refine⟨psC ts9 c9,⟨Kr,Kr⟩,?_⟩;rw[hres];exact⟨_,_,rfl,rfl⟩
   obtain⟨f,tsf,hU,rfl,rfl⟩:=hh;(try dsimp only at hU);rw[hU] at hres;(try rw[j7] at hres);refine Kv y7 ?_;have hqf:=G3 hqe _ _ hU;refine⟨psC (tsf) {c with ties:=l,faults:=⟨a,b,w2,r,d⟩,fee:=f},_,⟨Kr,Kr⟩,(kR (c:={c with ties:=l,faults:=⟨a,b,w2,r,d⟩,fee:=f}) λu=>D1 tsf u [100,101,97,100,108,105,110,101] hqf.1).mono ?_⟩;intro o O2 ho;have hh:=o7 ho;clear ho;obtain hh|hh:=hh
   . obtain⟨a,e,ts9,c9,hU,rfl,rfl⟩:=hh;(try dsimp only at hU);rw[hU] at hres;(try rw[j9] at hres);refine Kv y7 ?_;refine⟨psC ts9 c9,⟨Kr,Kr⟩,?_⟩;rw[hres];exact⟨_,_,rfl,rfl⟩
   obtain⟨x6,tsg,hU,rfl,rfl⟩:=hh;(try dsimp only at hU);rw[hU] at hres;(try rw[j7] at hres);refine Kv y7 ?_;have hqg:=v7 hqf _ _ hU;refine⟨psC (tsg) {c with ties:=l,faults:=⟨a,b,w2,r,d⟩,fee:=f},_,⟨Kr,Kr⟩,(kR (c:={c with ties:=l,faults:=⟨a,b,w2,r,d⟩,fee:=f}) λu=>a5l hT tsg u hqg).mono ?_⟩;intro o O2 ho;have hh:=o7 ho;clear ho;obtain hh|hh:=hh
   . obtain⟨a,e,ts9,c9,hU,rfl,rfl⟩:=hh;(try dsimp only at hU);rw[hU] at hres;(try rw[j9] at hres);refine Kv y7 ?_;refine⟨psC ts9 c9,⟨Kr,Kr⟩,?_⟩;rw[hres];exact⟨_,_,rfl,rfl⟩
   obtain⟨t,tsh,hU,rfl,rfl⟩:=hh;(try dsimp only at hU);rw[hU] at hres;(try rw[j7] at hres);refine Kv y7 ?_;have hqh:=U0 hqg _ _ hU;refine⟨psC (tsh) {c with ties:=l,faults:=⟨a,b,w2,r,d⟩,fee:=f,deadline:=t},_,⟨Kr,Kr⟩,(kR (c:={c with ties:=l,faults:=⟨a,b,w2,r,d⟩,fee:=f,deadline:=t}) λu=>b0s [[59],[125]] tsh u hqh.1).mono ?_⟩;intro o O2 ho;have hh:=o7 ho;clear ho;obtain hh|hh:=hh
   . obtain⟨a,e,ts9,c9,hU,rfl,rfl⟩:=hh;(try dsimp only at hU);rw[hU] at hres;(try rw[j9] at hres);refine Kv y7 ?_;refine⟨psC ts9 c9,⟨Kr,Kr⟩,?_⟩;rw[hres];exact⟨_,_,rfl,rfl⟩
   obtain⟨x7,tsi,hU,rfl,rfl⟩:=hh;(try dsimp only at hU);rw[hU] at hres;(try rw[j7] at hres);refine Kv y7 ?_;refine⟨psC (tsi) {c with ties:=l,faults:=⟨a,b,w2,r,d⟩,fee:=f,deadline:=t}, .d (Course.d {c with ties:=l,faults:=⟨a,b,w2,r,d⟩,fee:=f,deadline:=t}),?_,?_⟩;rotate_left 1
   . rw[hres];exact⟨rfl,rfl⟩
   repeat'(first|exact d9|exact rfl|refine d8 ?_ ?_)
theorem c4c (b0 b1 b2 b3 b4 b5 b6 b7 b8 b9 c0 c1 c2 c3 c4 c5 e5 e6:D):MeetsD Tryz.prog 121 [.loc 4 0, .loc 5 0, .loc 6 0] [(4, .box [.d b0, .d b1, .d b2, .d b3, .d b4, .d b5, .d b6, .d b7, .d b8, .d b9, .d c0, .d c1, .d c2, .d c3, .d c4, .d c5] 33),(5, .box [.d e5] 3),(6, .box [.d e6] 37)] none λO'=>O'=[(4, .box [.d b0, .d b1, .d b2, .d b3, .d b4, .d b5, .d b6, .d b7, .d b8, .d b9, .d c0, .d c1, .d c2, .d c3, .d c4, .d c5] 33),(5, .box [.d e5] 3),(6, .box [.d e6] 37)]:=by
 refine b7j tok {} Tryz.func121 rfl (by kernel_rfl) Tryz.ntmps121 (by simp) (by decide) (by decide) λB0 W0 V0 lent g0=>?_;refine Kw ?_;refine⟨_, .d (.tup []),?_,⟨⟨_,rfl⟩,rfl⟩⟩;repeat'(first|exact d9|exact rfl|refine d8 ?_ ?_|(exact b5E _ _))
abbrev a5Q:Cfg:={nm:=[(4,54),(6,56)]}
theorem b6k (b0 b1 b2 b3 b4 b5 b6 b7 b8 b9 c0 c1 c2 c3 c4 c5 e5 e6:D)(at_ e:Int):MeetsD Tryz.prog 121 [.loc 4 0, .loc 5 0, .loc 6 0] [(4, .box [.d b0, .d b1, .d b2, .d b3, .d b4, .d b5, .d b6, .d b7, .d b8, .d b9, .d c0, .d c1, .d c2, .d c3, .d c4, .d c5] 33),(5, .box [.d e5] 3),(6, .box [.d e6] 37)] (some (.iface 203 (.agg [iD at_,iD e])))
 λO'=>O'=[(4, .box [.d (.str []), .d (.sl []), .d (.sl []), .d (.sl []), .d (.sl []), .d (.sl []), .d (.sl []), .d (.sl []), .d (.sl []), .d (iD 0), .d (iD 0), .d (iD 0), .d (iD 0), .d (iD 0), .d (iD 0), .d (iD 0)] 33),(5, .box [.d (iD at_)] 3),(6, .box [.d (iD e)] 37)]:=by
 refine b7j tok a5Q Tryz.func121 rfl (by kernel_rfl) Tryz.ntmps121 (by simp) (by decide) (by decide) λB0 W0 V0 lent g0=>?_;refine Kv a5Q ?_;refine⟨λh=>absurd h (by decide),λ_=>?_⟩;refine Kv a5Q ?_;refine Dr a5Q [.p 0, .p 1, .p 2, .p 3, .p 4, .s 5 [0], .s 6 [2,1], .s 7 [4,3]] ?_;refine Kv a5Q ?_;repeat'((first|(intro hlq;try simp only[SL] at hlq)|refine K9 ?_|((refine Kh (λhb=>?_) λhb=>?_)<;>try simp only[BL] at hb)|refine K8 ?_)<;>refine Kv a5Q ?_)
 refine⟨_, .d (.tup []),?_,⟨⟨_,rfl⟩,rfl⟩⟩;repeat'(first|exact d9|exact rfl|refine d8 ?_ ?_|(exact b5E _ _))
theorem c4I (hT:R7)(ts:List Tk)(hq:QT ts)(hn:N2 FU ts≠ .out):MR 47 [.loc 5000 0] (pcO ts b1q []) λo O'=>RdV Course.d id (N2 FU ts) o O':=by
 have hc:=c4R hT FU (by decide) ts hq hn;obtain⟨res,hres⟩:∃res,res=N2 FU ts:=⟨_,rfl⟩
 rw[<-hres] at hc⊢;refine EnR {rs:=[4]} Tryz.func47 Tryz.ntmps47 λ_ _ _ _ _=>?_;refine Kv {rs:=[4]} ?_;refine⟨pcO ts b1q [],_,⟨Kr,Kr⟩,hc.mono ?_⟩;intro o O2 ho;have hh:=o7 ho;clear ho;obtain hh|hh:=hh
 . obtain⟨a,e,ts9,c9,hU,rfl,rfl⟩:=hh;refine Kv {rs:=[4]} ?_;refine⟨psC ts9 c9,⟨Kr,Kr⟩,?_⟩;rw[hU];exact⟨_,_,rfl,rfl⟩
 obtain⟨c,ts2,hU,rfl,rfl⟩:=hh;refine Kv {rs:=[4]} ?_;refine⟨psC ts2 c, .d c.d,?_,?_⟩;rotate_left 1
 . rw[hU];exact⟨rfl,rfl⟩
 . exact Kr
theorem c7X {k:Nat}{c:Course}{ts:List Tk}(h:QT ts):(a1k k c ts).kp:=by
 rw[b8r];exact n8 (v7 h) λ_ _ h=>n8 ((a6E k).2 _ _ h) λ_ _ h=>n8 (a4U h) λ_ _ h=>n8 (a1W (λ_ h=>G3 h) h) λ_ _ h=>n8 (a1W (λ_ h=>G3 h) h) λ_ _ h=>n8 (a1W (λ_ h=>U0 h) h) λ_ _ h=>n8 (a1W (λ_ h=>U0 h) h) λ_ _ h=>n8 (a1W (λ_ h=>G3 h) h) λ_ _ h=>
  n8 (a4U h) λ_ _ h=>n8 (G3 h) λ_ _ h=>n8 (v7 h) λ_ _ h=>n8 (U0 h) λ_ _ h=>n8 (a4U h) λ_ _ h=>C3 h
theorem c4Q {k:Nat}{ts:List Tk}(h:QT ts):(N2 k ts).kp:=
 n8 (v7 h) λ_ _ h=>n8 (Y5 h) λ_ _ h=>n8 (v7 h) λ_ _ h=>n8 (v7 h) λ_ _ h=>n8 (v7 h) λ_ _ h=>n8 (b3i _ _ _ h) λ_ _ h=>n8 (c0f _ _ _ _ h) λ_ _ h=>c7X h
abbrev H4:Cfg:={nm:=[(31,5000)],rs:=[34,36,40],priv:=[30]}
theorem c9W (hT:R7)(src:List UInt8)(hl:src.length<=65536):Mt 46 [.sl (byteCells src), .fn 47 [] []] λd=>d= .tup [(a0y src).1.d,iD (a0y src).2.1,iD (a0y src).2.2]:=by
 have htk:=c3T hT src hl;have hq:=d3T src hl;have hfu:=b6H src hl;obtain⟨x,hx⟩:∃x,x=a0y src:=⟨_,rfl⟩
 rw[<-hx];unfold a0y b3z at hx;refine c5N tok H4 Tryz.func46 rfl (by kernel_rfl) Tryz.ntmps46 (by simp) 4 rfl (by decide) λB0 W0 V0 lent g0=>?_;refine a9b tok H4 ?_;refine Kv H4 ?_;refine a9b tok H4 ?_;refine Kv H4 ?_;refine Meets.k htk ?_;refine Kv H4 ?_;refine a9b tok H4 ?_;refine Kv H4 ?_;refine⟨λh=>absurd h (by decide),λ_=>?_⟩;refine Kv H4 ?_;refine a9b tok H4 ?_;refine Kv H4 ?_;repeat'((first|(intro hlq;try simp only[SL] at hlq)|refine K9 ?_|refine K8 ?_)<;>refine Kv H4 ?_)
 refine⟨λh0=>?_,λh0=>?_⟩<;>(try simp only[BL] at h0)<;>refine Kv H4 ?_
 . obtain⟨b,bs,hb⟩:=List.exists_cons_of_length_pos (l:=bads src 0 (-1) 0) (by omega);rw[hb] at hx⊢;dsimp only at hx;refine Dr H4 [.p 0, .p 1, .p 2, .p 3, .p 4, .s 5 [0], .s 6 [4,1,2,3], .s 7 []] ?_;refine Kv H4 ?_;repeat'((first|(intro hlq;try simp only[SL] at hlq)|refine K9 ?_|((refine Kh (λhb=>?_) λhb=>?_)<;>try simp only[BL] at hb)|refine K8 ?_)<;>refine Kv H4 ?_)
   refine⟨prC b,⟨a0o _,rfl,rfl⟩,?_⟩;refine Kv H4 ?_;repeat'((first|(intro hlq;try simp only[SL] at hlq)|refine K9 ?_|((refine Kh (λhb=>?_) λhb=>?_)<;>try simp only[BL] at hb)|refine K8 ?_)<;>refine Kv H4 ?_)
   refine⟨?_⟩;rw[hx];rfl
 . have hb:bads src 0 (-1) 0=[]:=C8 (by omega);rw[hb] at hx;dsimp only at hx;refine c2e ?_;conv=>whnf
   intro B0 W0 V0 lent g0 m0 dfr;refine Y H4 rfl ?_;refine Kv H4 ?_;have hrd:=c4I hT (toks src 0) hq hfu;refine⟨pcO (toks src 0) b1q [],_,⟨Kr,Kr⟩,hrd.mono ?_⟩;intro o O2 ho;have hh:=o7 ho;clear ho;obtain hh|hh:=hh
   . obtain⟨a,e,ts2,c2,hU,rfl,rfl⟩:=hh;rw[hU] at hx;refine Kv H4 ?_;refine⟨[(4, .box [.d (.str []), .d (.sl []), .d (.sl []), .d (.sl []), .d (.sl []), .d (.sl []), .d (.sl []), .d (.sl []), .d (.sl []), .d (iD 0), .d (iD 0), .d (iD 0), .d (iD 0), .d (iD 0), .d (iD 0), .d (iD 0)] 33),(5, .box [.d (iD 0)] 3),(6, .box [.d (iD 0)] 37)],⟨?_,rfl⟩,(b6k _ _ _ _ _ _ _ _ _ _ _ _ _ _ _ _ _ _ _ _).mono ?_⟩
     . exact Kr
     rintro _ rfl;refine Kv H4 ?_;refine⟨?_⟩;rw[hx];rfl
   obtain⟨c,ts2,hU,rfl,rfl⟩:=hh;rw[hU] at hx;have hx':x=if(hdT ts2).kind=6 then(c,0,0) else(zC,((hdT ts2).at_:Int),60):=hx
   have he2:=(c4Q hq _ _ hU).1;have hnx:=kC (c:=c) λu=>b8Z ts2 u he2;have hsp:=kP (c:=c) λu=>T9 ts2 u 60 he2;refine Kv H4 ?_;refine⟨psC ts2 c,_,⟨Kr,Kr⟩,hnx.mono ?_⟩;rintro _ O2 ⟨rfl,rfl⟩;refine Kv H4 ?_;refine⟨λh6=>?_,λh6=>?_⟩<;>(try simp only[BL] at h6)<;>refine Kv H4 ?_
   . rw[c8 (by omega)] at hx';refine⟨psC ts2 c,_,⟨Kr,Kr⟩,hsp.mono ?_⟩;rintro _ O2 ⟨rfl,rfl⟩;refine Kv H4 ?_;refine⟨[(4, .box [.d (.str c.name), .d (.sl (c.mats.map Mat.cells)), .d (.sl (c.legs.map Leg.cells)), .d (.sl (c.distances.map Distance.cells)), .d (.sl (c.waves.map Wave.cells)), .d (.sl (c.offences.map Offence.cells)), .d (.sl (c.categories.map Category.cells)), .d (.sl (c.prizes.map Prize.cells)), .d (.sl (c.ties.map Step.cells)), .d (iD c.faults.misses), .d (iD c.faults.strays), .d (iD c.faults.window), .d (iD c.faults.residual), .d (iD c.faults.drift), .d (iD c.fee), .d (iD c.deadline)] 33),(5, .box [.d (iD 0)] 3),(6, .box [.d (iD 0)] 37)],⟨?_,rfl⟩,(b6k _ _ _ _ _ _ _ _ _ _ _ _ _ _ _ _ _ _ _ _).mono ?_⟩
     . exact Kr
     rintro _ rfl;refine Kv H4 ?_;refine⟨?_⟩;rw[hx'];rfl
   . rw[d4 (by omega)] at hx';refine⟨[(4, .box [.d (.str c.name), .d (.sl (c.mats.map Mat.cells)), .d (.sl (c.legs.map Leg.cells)), .d (.sl (c.distances.map Distance.cells)), .d (.sl (c.waves.map Wave.cells)), .d (.sl (c.offences.map Offence.cells)), .d (.sl (c.categories.map Category.cells)), .d (.sl (c.prizes.map Prize.cells)), .d (.sl (c.ties.map Step.cells)), .d (iD c.faults.misses), .d (iD c.faults.strays), .d (iD c.faults.window), .d (iD c.faults.residual), .d (iD c.faults.drift), .d (iD c.fee), .d (iD c.deadline)] 33),(5, .box [.d (iD 0)] 3),(6, .box [.d (iD 0)] 37)],⟨?_,rfl⟩,(c4c _ _ _ _ _ _ _ _ _ _ _ _ _ _ _ _ _ _).mono ?_⟩
     . exact Kr
     rintro _ rfl;refine Kv H4 ?_;refine⟨?_⟩;rw[hx']
theorem c1H (hT:R7)(src:List UInt8)(hl:src.length<=65536):Mt 9 [.sl (byteCells src)] λd=>d= .tup [(a0y src).1.d,iD (a0y src).2.1,iD (a0y src).2.2]:=by
 have hp:=c9W hT src hl;revert hp;generalize a0y src=x;intro hp;refine En {} Tryz.func9 Tryz.ntmps9 λ_ _ _ _ _=>?_;refine Kw ?_;refine Meets.k hp ?_;refine Kw ?_;exact⟨rfl⟩
end Go.Proofs.YteillnfhkeebjaaGreatDoor.Dx
