/- Chapter 06: the parser of a course. -/
import Derived.Test.YtaopegkpjhkooaaGreatDoorGc
set_option linter.all false
namespace Go.Proofs.YtaopegkpjhkooaaGreatDoor.Dx
open Go Go.RowKit
set_option maxRecDepth 100000
set_option maxHeartbeats 16000000
def scF:Nat->Nat
 |0=>73
 |1=>74
 |2=>75
 |3=>76
 |4=>77
 |_=>78
def H7 (c:Course):Nat->Nat
 |0=>c.legs.length
 |1=>c.distances.length
 |2=>c.waves.length
 |3=>c.offences.length
 |4=>c.categories.length
 |_=>c.prizes.length
theorem c1n (hT:C2)(k:Nat)(hk:k<=1000000000)(i:Nat)(hi:i<6)(ts:List Tk)(c:Course)(hq:QT ts)(hl:H7 c i<=1000000000)(hn:G6 k i c ts≠ .out):
 MeetsR Tryz.prog (scF i) [.loc 5000 0] (psC ts c) λo O'=>RdV (λ_=> .tup []) id (G6 k i c ts) o O':=by
 match i,hi with
 |0,_=>exact b8A hT ts c hq hl
 |1,_=>exact b6K hT k hk ts c hq hl hn
 |2,_=>exact c4n hT ts c hq hl
 |3,_=>exact b9G hT ts c hq hl
 |4,_=>exact b5O ts c hq hl
 |5,_=>exact b9Z ts c hq hl
theorem Rs.bind_eq {α β:Type}{r:Rs α}{f:α->List Tk->Rs β}{b:β}{ts:List Tk}(h:r.bind f= .ok b ts):∃a ts',r= .ok a ts'/\f a ts'= .ok b ts:=by
 cases r with
 |ok a ts'=>exact⟨a,ts',rfl,h⟩
 |er a e=>cases h
 |out=>cases h
theorem six {j:Nat}(hj:j<6):j=0\/j=1\/j=2\/j=3\/j=4\/j=5:=by omega
theorem c1m {k i:Nat}{c c':Course}{ts ts':List Tk}(hi:i<6)(h:G6 k i c ts= .ok c' ts'):H7 c' i=H7 c i+1/\∀j,j<6->j≠i->H7 c' j=H7 c j:=by
 match i,hi,h with
 |0,_,h=>obtain⟨a,ts2,_,h⟩:=Rs.bind_eq h;cases h;exact⟨by simp[H7],λj hj hne=>by rcases six hj with rfl|rfl|rfl|rfl|rfl|rfl<;>first|rfl|exact absurd rfl hne⟩
 |1,_,h=>obtain⟨a,ts2,_,h⟩:=Rs.bind_eq h;cases h;exact⟨by simp[H7],λj hj hne=>by rcases six hj with rfl|rfl|rfl|rfl|rfl|rfl<;>first|rfl|exact absurd rfl hne⟩
 |2,_,h=>obtain⟨a,ts2,_,h⟩:=Rs.bind_eq h;cases h;exact⟨by simp[H7],λj hj hne=>by rcases six hj with rfl|rfl|rfl|rfl|rfl|rfl<;>first|rfl|exact absurd rfl hne⟩
 |3,_,h=>obtain⟨a,ts2,_,h⟩:=Rs.bind_eq h;cases h;exact⟨by simp[H7],λj hj hne=>by rcases six hj with rfl|rfl|rfl|rfl|rfl|rfl<;>first|rfl|exact absurd rfl hne⟩
 |4,_,h=>obtain⟨a,ts2,_,h⟩:=Rs.bind_eq h;cases h;exact⟨by simp[H7],λj hj hne=>by rcases six hj with rfl|rfl|rfl|rfl|rfl|rfl<;>first|rfl|exact absurd rfl hne⟩
 |5,_,h=>obtain⟨a,ts2,_,h⟩:=Rs.bind_eq h;cases h;exact⟨by simp[H7],λj hj hne=>by rcases six hj with rfl|rfl|rfl|rfl|rfl|rfl<;>first|rfl|exact absurd rfl hne⟩
def c1g (v:Value):List (List D):=[[.str [108,101,103], .fn 73 [.raw v] []],[.str [100,105,115,116,97,110,99,101], .fn 74 [.raw v] []],[.str [119,97,118,101], .fn 75 [.raw v] []],[.str [111,102,102,101,110,99,101], .fn 76 [.raw v] []],[.str [99,97,116,101,103,111,114,121], .fn 77 [.raw v] []],[.str [112,114,105,122,101], .fn 78 [.raw v] []]]
theorem c1i {v:Value}{i:Nat}(hi:i<6):(c1g v)[(i:Int).toNat]?=some [.str (secW.getD i []), .fn (scF i) [.raw v] []]:=by
 rw[Int.toNat_natCast]
 match i,hi with
 |0,_=>rfl
 |1,_=>rfl
 |2,_=>rfl
 |3,_=>rfl
 |4,_=>rfl
 |5,_=>rfl
abbrev a6x:List Base:=[.d (.str []), .d (.raw (.slice none 0 0)), .d (.raw (.slice none 0 0)), .d (.raw (.slice none 0 0)), .d (.raw (.slice none 0 0)), .d (.raw (.slice none 0 0)), .d (.raw (.slice none 0 0)), .d (.raw (.slice none 0 0)), .d (.raw (.slice none 0 0)), .d (iD 0), .d (iD 0), .d (iD 0), .d (iD 0), .d (iD 0), .d (iD 0), .d (iD 0)]
def nmC (w:List UInt8):Course:=⟨w,[],[],[],[],[],[],[],[],⟨0,0,0,0,0⟩,0,0⟩
def a1s (k:Nat)(c:Course)(ts:List Tk):Rs Course:=(E0 [[109,97,116,115],[123]] ts).bind λ_ ts=>(A9 k c.mats ts).bind λms ts=> .ok {c with mats:=ms} ts
def a2t (k:Nat)(c:Course)(ts:List Tk):Rs Course:=
 (d7 [116,105,101,115] ts).bind λ_ ts=>(blockP k 0 ts).bind λl ts=>(E0 [[102,97,117,108,116,115],[123]] ts).bind λ_ ts=>
 (G7 [109,105,115,115,101,115] o7 ts).bind λa ts=>(G7 [115,116,114,97,121,115] o7 ts).bind λb ts=>(G7 [119,105,110,100,111,119] C1 ts).bind λw ts=>(G7 [114,101,115,105,100,117,97,108] C1 ts).bind λr ts=>(G7 [100,114,105,102,116] o7 ts).bind λd ts=>
 (E0 [[125],[112,114,111,116,101,115,116],[102,101,101]] ts).bind λ_ ts=>(o7 ts).bind λf ts=>(d7 [100,101,97,100,108,105,110,101] ts).bind λ_ ts=>(C1 ts).bind λt ts=>
 (E0 [[59],[125]] ts).bind λ_ ts=> .ok {c with ties:=l,faults:=⟨a,b,w,r,d⟩,fee:=f,deadline:=t} ts
theorem b1F (k:Nat)(c:Course)(ts:List Tk):S0 k c ts=a2t k c ts:=by
 unfold S0 a2t
 simp only[E0,Rs.bind_assoc,Rs.bind_ok]
theorem b6d (k:Nat)(ts:List Tk):D9 k ts=(d7 [99,111,117,114,115,101] ts).bind λ_ ts=>(D1 ts).bind λw ts=>(d7 [123] ts).bind λ_ ts=>(a1s k (nmC w) ts).bind λc ts=>(A4 k 6 0 c ts).bind λc ts=>a2t k c ts:=by
 unfold D9 a1s
 simp only[E0,Rs.bind_assoc,Rs.bind_ok,b1F]
 rfl
theorem b8X {k:Nat}{c c':Course}{ts ts':List Tk}(h:a1s k c ts= .ok c' ts'):∀j,j<6->H7 c' j=H7 c j:=by
 obtain⟨a,ts2,_,h⟩:=Rs.bind_eq h
 obtain⟨l,ts3,_,h⟩:=Rs.bind_eq h
 cases h
 intro j hj
 rcases six hj with rfl|rfl|rfl|rfl|rfl|rfl<;>rfl
theorem b8W {k:Nat}{c:Course}{ts:List Tk}(h:QT ts):(a1s k c ts).kp:=d6 (a1v h) λ_ _ h=>d6 (a7K _ _ _ h) λ_ _ h=>r8 h
theorem b8Y (k:Nat)(ts:List Tk)(c:Course)(hq:QT ts)(hl:c.mats.length+k<=1000000000)(hn:a1s k c ts≠ .out):MeetsR Tryz.prog 72 [.loc 5000 0] (psC ts c) λo O'=>RdV (λ_=> .tup []) id (a1s k c ts) o O':=b9b k ts c hq hl hn
abbrev o9:Cfg:={rs:=[8,11,17,19,47,50,54,57,63,72,79,86,93,100,105,108,114,117,123],priv:=[21,24,27,30,33,36]}
theorem b6k (hT:C2)(k:Nat)(hk:k<=400000)(ts:List Tk)(hq:QT ts)(hn:D9 k ts≠ .out):
 MeetsR Tryz.prog 41 [.loc 5000 0] (pcO ts a6x []) λo O'=>RdV Course.d id (D9 k ts) o O':=by
 obtain⟨res,hres⟩:∃res,res=D9 k ts:=⟨_,rfl⟩
 rw[<-hres] at hn⊢
 rw[b6d] at hres
 refine k8 tok o9 Tryz.func41 rfl (by kernel_rfl) Tryz.ntmps41 (by simp) λB0 W0 V0 lent g0=>?_
 ((conv=>whnf);repeat'((fail_if_success (refine L6 1 ?_));refine Y o9 rfl ?_;conv=>whnf))
 refine a9t 5000 [.d (.sl (ts.map tkC)), .d (.str []), .full [], .full [], .full [], .full [], .full [], .full [], .full [], .d (.sl []),iB 0,iB 0,iB 0,iB 0,iB 0,iB 0,iB 0] rfl ⟨.inl rfl, .inl rfl, .inr ⟨rfl, .inl rfl⟩, .inr ⟨rfl, .inl rfl⟩, .inr ⟨rfl, .inl rfl⟩, .inr ⟨rfl, .inl rfl⟩, .inr ⟨rfl, .inl rfl⟩, .inr ⟨rfl, .inl rfl⟩, .inr ⟨rfl, .inl rfl⟩, .inr ⟨rfl, .inr rfl⟩, .inl rfl, .inl rfl, .inl rfl, .inl rfl, .inl rfl, .inl rfl, .inl rfl,True.intro⟩ ?_
 conv=>whnf
 refine b4C [(.inr (5000,2),7001,84,2),(.inr (5000,3),7002,86,4),(.inr (5000,4),7003,91,5),(.inr (5000,5),7004,96,2),(.inr (5000,6),7005,98,4),(.inr (5000,7),7006,100,3),(.inr (5000,8),7007,102,4)] ?_
 iterate 7
  conv=>whnf
  refine⟨λ_ h=>absurd h (by simp),?_⟩
 conv=>whnf
 refine b4D 10000 5000 rfl (by decide) λg=>?_
 refine Y o9 rfl ?_
 refine Kv o9 ?_
 refine⟨psC (ts) zC,_,⟨?_,?_⟩,(kR (c:=zC) λu=>r9 ts u [99,111,117,114,115,101] hq.1).mono ?_⟩
 . exact Kr
 . exact Kr
 intro o O2 ho
 have hh:=d8 ho
 clear ho
 obtain hh|hh:=hh
 . obtain⟨a,e,ts9,c9,hU,rfl,rfl⟩:=hh
   (try dsimp only at hU)
   rw[hU] at hres
   (try rw[Rs.bind_er] at hres)
   refine Kv o9 ?_
   refine⟨psC ts9 c9,⟨?_,?_⟩,?_⟩
   . exact Kr
   . exact Kr
   rw[hres]
   exact⟨_,_,rfl,rfl⟩
 obtain⟨x1,ts1,hU,rfl,rfl⟩:=hh
 (try dsimp only at hU)
 rw[hU] at hres
 (try rw[Rs.bind_ok] at hres)
 refine Kv o9 ?_
 have hq1:=n9 hq _ _ hU
 refine⟨psC (ts1) zC,_,⟨?_,?_⟩,(kR (c:=zC) λu=>Z3 ts1 u hq1).mono ?_⟩
 . exact Kr
 . exact Kr
 intro o O2 ho
 have hh:=d8 ho
 clear ho
 obtain hh|hh:=hh
 . obtain⟨a,e,ts9,c9,hU,rfl,rfl⟩:=hh
   (try dsimp only at hU)
   rw[hU] at hres
   (try rw[Rs.bind_er] at hres)
   refine Kv o9 ?_
   refine⟨psC ts9 c9,⟨?_,?_⟩,?_⟩
   . exact Kr
   . exact Kr
   rw[hres]
   exact⟨_,_,rfl,rfl⟩
 obtain⟨w,ts2,hU,rfl,rfl⟩:=hh
 (try dsimp only at hU)
 rw[hU] at hres
 (try rw[Rs.bind_ok] at hres)
 refine Kv o9 ?_
 have hq2:=L2 hq1 _ _ hU
 refine⟨psC (ts2) (nmC w),_,⟨?_,?_⟩,(kR (c:=(nmC w)) λu=>r9 ts2 u [123] hq2.1).mono ?_⟩
 . exact Kr
 . exact Kr
 intro o O2 ho
 have hh:=d8 ho
 clear ho
 obtain hh|hh:=hh
 . obtain⟨a,e,ts9,c9,hU,rfl,rfl⟩:=hh
   (try dsimp only at hU)
   rw[hU] at hres
   (try rw[Rs.bind_er] at hres)
   refine Kv o9 ?_
   refine⟨psC ts9 c9,⟨?_,?_⟩,?_⟩
   . exact Kr
   . exact Kr
   rw[hres]
   exact⟨_,_,rfl,rfl⟩
 obtain⟨x2,ts3,hU,rfl,rfl⟩:=hh
 (try dsimp only at hU)
 rw[hU] at hres
 (try rw[Rs.bind_ok] at hres)
 refine Kv o9 ?_
 have hq3:=n9 hq2 _ _ hU
 have hn3:a1s k (nmC w) ts3≠ .out:=J8 (by rw[<-hres];exact hn)
 refine⟨psC (ts3) (nmC w),_,⟨?_,?_⟩,(b8Y k ts3 (nmC w) hq3 (by show 0+k<=_;omega) hn3).mono ?_⟩
 . exact Kr
 . exact Kr
 intro o O2 ho
 have hh:=d8 ho
 clear ho
 obtain hh|hh:=hh
 . obtain⟨a,e,ts9,c9,hU,rfl,rfl⟩:=hh
   (try dsimp only at hU)
   rw[hU] at hres
   (try rw[Rs.bind_er] at hres)
   refine Kv o9 ?_
   refine⟨psC ts9 c9,⟨?_,?_⟩,?_⟩
   . exact Kr
   . exact Kr
   rw[hres]
   exact⟨_,_,rfl,rfl⟩
 obtain⟨c0,ts4,hU,rfl,rfl⟩:=hh
 (try dsimp only at hU)
 rw[hU] at hres
 (try rw[Rs.bind_ok] at hres)
 refine Kv o9 ?_
 have hq4:=b8W hq3 _ _ hU
 have hl4:=b8X hU
 repeat'((first|(intro hlq;try simp only[SL] at hlq)|refine K9 ?_|refine K8 ?_)<;>refine Kv o9 ?_)
 refine j7 tok o9 [] (X:=Nat×Course×List Tk) (λs=>[(40,iB s.1)]) (λs=>(10000, .pn g [5000])::psC s.2.2 s.2.1) [] (λs=>s.1<=6/\QT s.2.2/\res=((A4 k (6-s.1) s.1 s.2.1 s.2.2).bind λc ts=>a2t k c ts)/\∀j,j<6->s.1<=j->H7 s.2.1 j=0) (λs=>6-s.1) (0,c0,ts4) ?_
 refine Kv o9 ?_
 refine And.intro ?_ ⟨⟨by omega,hq4,hres,λj hj _=>(hl4 j hj).trans (by rcases six hj with rfl|rfl|rfl|rfl|rfl|rfl<;>rfl)⟩,λs hΦ=>?_⟩
 . exact Kr
 clear hres hU hq4 hq3 hn3 hl4 hq2 hq1 hq
 obtain⟨i,c,ts5⟩:=s
 obtain⟨hi,hq5,hres,hlen⟩:=hΦ
 dsimp only at hi hq5 hres hlen
 refine Kv o9 ?_
 refine⟨λh1=>?_,λh1=>?_⟩<;>(try simp only[BL] at h1)<;>refine Kv o9 ?_
 . have h1':(i:Int)<((6:Nat):Int):=h1
   have hi':i<6:=by omega
   refine⟨[.str (secW.getD i []), .fn (scF i) [.raw (g 5000).1] []],⟨by omega,c1i hi',rfl⟩,?_⟩
   refine Kv o9 ?_
   rw[show 6-i=(5-i)+1 by omega,A4,Rs.bind_assoc] at hres
   refine j7 tok o9 [] (X:=Nat×Course×List Tk) (λ_=>[]) (λs=>(4, .box [.d (.str (secW.getD i [])), .d (.fn (scF i) [.raw (g 5000).1] [])] 147)::(10000, .pn g [5000])::psC s.2.2 s.2.1) [] (λs=>s.1<=k/\QT s.2.2/\res=((A3 i s.1 s.2.1 s.2.2).bind λc ts=>(A4 k (5-i) (i+1) c ts).bind λc ts=>a2t k c ts)/\H7 s.2.1 i+s.1<=k/\∀j,j<6->i<j->H7 s.2.1 j=0) (λs=>s.1) (k,c,ts5) ?_
   refine Kv o9 ?_
   refine And.intro ?_ ⟨⟨Nat.le_refl _,hq5,hres,by rw[hlen i hi' (Nat.le_refl _)];omega,λj hj hij=>hlen j hj (by omega)⟩,λs hΦ=>?_⟩
   . exact Kr
   clear hres hlen hq5
   obtain⟨j,c,ts6⟩:=s
   obtain⟨hj,hq6,hres,hli,hlen⟩:=hΦ
   dsimp only at hj hq6 hres hli hlen
   cases j with
   |zero=>rw[A3] at hres;exact absurd hres hn
   |succ j=>
   rw[A3] at hres
   have h2:=Bool.eq_false_or_eq_true (isW (secW.getD i []) ts6)
   refine Kv o9 ?_
   obtain h2|h2:=h2
   . rw [if_pos h2] at hres
     simp only[Rs.bind_assoc] at hres
     have hq7:=hq6.isW h2
     have hn7:G6 j i c ts6.tail≠ .out:=J8 (by rw[<-hres];exact hn)
     refine⟨psC (ts6) c,_,⟨?_,?_⟩,(kC (c:=c) λu=>A5 ts6 u (secW.getD i []) hq6.1 h2).mono ?_⟩
     . exact Kr
     . exact Kr
     rintro _ O2 ⟨rfl,rfl⟩
     refine Kv o9 ?_
     refine⟨psC ts6.tail c,_,⟨?_,?_⟩,(c1n hT j (by omega) i hi' ts6.tail c hq7 (by omega) hn7).mono ?_⟩
     . exact⟨⟨rfl,⟨_,_,rfl⟩,10000,g,_,rfl,rfl,rfl⟩,True.intro⟩
     . exact Kr
     intro o O2 ho
     have hh:=d8 ho
     clear ho
     obtain hh|hh:=hh
     . obtain⟨a,e,ts9,c9,hU,rfl,rfl⟩:=hh
       rw[hU] at hres
       rw[Rs.bind_er] at hres
       refine Kv o9 ?_
       refine⟨psC ts9 c9,⟨?_,?_⟩,?_⟩
       . exact Kr
       . exact Kr
       rw[hres]
       exact⟨_,_,rfl,rfl⟩
     obtain⟨c2,ts7,hU,rfl,rfl⟩:=hh
     rw[hU] at hres
     rw[Rs.bind_ok] at hres
     have hq8:=b2V hq7 _ _ hU
     have hls:=c1m hi' hU
     refine Kv o9 ?_
     refine⟨⟨(j,c2,ts7),?_,⟨by dsimp only;omega,hq8,hres,by dsimp only;omega,λj' hj' hij=>(hls.2 j' hj' (by omega)).trans (hlen j' hj' hij)⟩,by dsimp only;omega⟩⟩
     repeat'(first|exact True.intro|exact rfl|refine And.intro ?_ ?_)
   . rw[if_neg (by rw[h2];decide),Rs.bind_ok] at hres
     refine⟨psC (ts6) c,_,⟨?_,?_⟩,(kC (c:=c) λu=>j0 ts6 u (secW.getD i []) hq6.1 h2).mono ?_⟩
     . exact Kr
     . exact Kr
     rintro _ O2 ⟨rfl,rfl⟩
     refine Kv o9 ?_
     repeat'((first|(intro hlq;try simp only[SL] at hlq)|refine K9 ?_|refine K8 ?_)<;>refine Kv o9 ?_)
     refine⟨⟨(i+1,c,ts6),?_,⟨by dsimp only;omega,hq6,by rw[hres];dsimp only;rw[show 6-(i+1)=5-i by omega],λj' hj' hij=>hlen j' hj' (by omega)⟩,by dsimp only;omega⟩⟩
     repeat'(first|exact True.intro|exact rfl|refine And.intro ?_ ?_)
 . have h1':¬(i:Int)<((6:Nat):Int):=h1
   obtain rfl:i=6:=by omega
   rw[show 6-6=0 from rfl,A4,Rs.bind_ok] at hres
   unfold a2t at hres
   refine⟨psC (ts5) c,_,⟨?_,?_⟩,(kR (c:=c) λu=>r9 ts5 u [116,105,101,115] hq5.1).mono ?_⟩
   . exact Kr
   . exact Kr
   intro o O2 ho
   have hh:=d8 ho
   clear ho
   obtain hh|hh:=hh
   . obtain⟨a,e,ts9,c9,hU,rfl,rfl⟩:=hh
     (try dsimp only at hU)
     rw[hU] at hres
     (try rw[Rs.bind_er] at hres)
     refine Kv o9 ?_
     refine⟨psC ts9 c9,⟨?_,?_⟩,?_⟩
     . exact Kr
     . exact Kr
     rw[hres]
     exact⟨_,_,rfl,rfl⟩
   obtain⟨x3,ts6,hU,rfl,rfl⟩:=hh
   (try dsimp only at hU)
   rw[hU] at hres
   (try rw[Rs.bind_ok] at hres)
   refine Kv o9 ?_
   have hq6:=n9 hq5 _ _ hU
   have hn6:blockP k 0 ts6≠ .out:=J8 (by rw[<-hres];exact hn)
   have hbl:=λu=>(a8x k (by omega) k (Nat.le_refl _)).2 0 ts6 u (by omega) hq6 hn6
   refine⟨psC (ts6) c,_,⟨?_,?_⟩,(kR (c:=c) λu=>hbl u).mono ?_⟩
   . exact Kr
   . exact Kr
   intro o O2 ho
   have hh:=d8 ho
   clear ho
   obtain hh|hh:=hh
   . obtain⟨a,e,ts9,c9,hU,rfl,rfl⟩:=hh
     (try dsimp only at hU)
     rw[hU] at hres
     (try rw[Rs.bind_er] at hres)
     refine Kv o9 ?_
     refine⟨psC ts9 c9,⟨?_,?_⟩,?_⟩
     . exact Kr
     . exact Kr
     rw[hres]
     exact⟨_,_,rfl,rfl⟩
   obtain⟨l,ts7,hU,rfl,rfl⟩:=hh
   (try dsimp only at hU)
   rw[hU] at hres
   (try rw[Rs.bind_ok] at hres)
   refine Kv o9 ?_
   have hq7:=(a1F k).2 _ _ hq6 _ _ hU
   refine⟨psC (ts7) {c with ties:=l},_,⟨?_,?_⟩,(kR (c:={c with ties:=l}) λu=>a5D [[102,97,117,108,116,115],[123]] ts7 u hq7.1).mono ?_⟩
   . exact Kr
   . exact Kr
   intro o O2 ho
   have hh:=d8 ho
   clear ho
   obtain hh|hh:=hh
   . obtain⟨a,e,ts9,c9,hU,rfl,rfl⟩:=hh
     (try dsimp only at hU)
     rw[hU] at hres
     (try rw[Rs.bind_er] at hres)
     refine Kv o9 ?_
     refine⟨psC ts9 c9,⟨?_,?_⟩,?_⟩
     . exact Kr
     . exact Kr
     rw[hres]
     exact⟨_,_,rfl,rfl⟩
   obtain⟨x4,ts8,hU,rfl,rfl⟩:=hh
   (try dsimp only at hU)
   rw[hU] at hres
   (try rw[Rs.bind_ok] at hres)
   refine Kv o9 ?_
   have hq8:=a1v hq7 _ _ hU
   refine⟨psC (ts8) {c with ties:=l},_,⟨?_,?_⟩,(kR (c:={c with ties:=l}) λu=>a4i 80 o7 A2 (λ_ h=>A1 h) [109,105,115,115,101,115] ts8 u hq8).mono ?_⟩
   . exact Kr
   . exact Kr
   intro o O2 ho
   have hh:=d8 ho
   clear ho
   obtain hh|hh:=hh
   . obtain⟨a,e,ts9,c9,hU,rfl,rfl⟩:=hh
     (try dsimp only at hU)
     rw[hU] at hres
     (try rw[Rs.bind_er] at hres)
     refine Kv o9 ?_
     refine⟨psC ts9 c9,⟨?_,?_⟩,?_⟩
     . exact Kr
     . exact Kr
     rw[hres]
     exact⟨_,_,rfl,rfl⟩
   obtain⟨a,ts9,hU,rfl,rfl⟩:=hh
   (try dsimp only at hU)
   rw[hU] at hres
   (try rw[Rs.bind_ok] at hres)
   refine Kv o9 ?_
   have hq9:=V8 (λ_ h=>A1 h) hq8 _ _ hU
   refine⟨psC (ts9) {c with ties:=l,faults:={c.faults with misses:=a}},_,⟨?_,?_⟩,(kR (c:={c with ties:=l,faults:={c.faults with misses:=a}}) λu=>a4i 80 o7 A2 (λ_ h=>A1 h) [115,116,114,97,121,115] ts9 u hq9).mono ?_⟩
   . exact Kr
   . exact Kr
   intro o O2 ho
   have hh:=d8 ho
   clear ho
   obtain hh|hh:=hh
   . obtain⟨a,e,ts9,c9,hU,rfl,rfl⟩:=hh
     (try dsimp only at hU)
     rw[hU] at hres
     (try rw[Rs.bind_er] at hres)
     refine Kv o9 ?_
     refine⟨psC ts9 c9,⟨?_,?_⟩,?_⟩
     . exact Kr
     . exact Kr
     rw[hres]
     exact⟨_,_,rfl,rfl⟩
   obtain⟨b,tsa,hU,rfl,rfl⟩:=hh
   (try dsimp only at hU)
   rw[hU] at hres
   (try rw[Rs.bind_ok] at hres)
   refine Kv o9 ?_
   have hqa:=V8 (λ_ h=>A1 h) hq9 _ _ hU
   refine⟨psC (tsa) {c with ties:=l,faults:={c.faults with misses:=a,strays:=b}},_,⟨?_,?_⟩,(kR (c:={c with ties:=l,faults:={c.faults with misses:=a,strays:=b}}) λu=>a4i 81 C1 (a1I hT) (λ_ h=>I1 h) [119,105,110,100,111,119] tsa u hqa).mono ?_⟩
   . exact Kr
   . exact Kr
   intro o O2 ho
   have hh:=d8 ho
   clear ho
   obtain hh|hh:=hh
   . obtain⟨a,e,ts9,c9,hU,rfl,rfl⟩:=hh
     (try dsimp only at hU)
     rw[hU] at hres
     (try rw[Rs.bind_er] at hres)
     refine Kv o9 ?_
     refine⟨psC ts9 c9,⟨?_,?_⟩,?_⟩
     . exact Kr
     . exact Kr
     rw[hres]
     exact⟨_,_,rfl,rfl⟩
   obtain⟨w2,tsb,hU,rfl,rfl⟩:=hh
   (try dsimp only at hU)
   rw[hU] at hres
   (try rw[Rs.bind_ok] at hres)
   refine Kv o9 ?_
   have hqb:=V8 (λ_ h=>I1 h) hqa _ _ hU
   refine⟨psC (tsb) {c with ties:=l,faults:={c.faults with misses:=a,strays:=b,window:=w2}},_,⟨?_,?_⟩,(kR (c:={c with ties:=l,faults:={c.faults with misses:=a,strays:=b,window:=w2}}) λu=>a4i 81 C1 (a1I hT) (λ_ h=>I1 h) [114,101,115,105,100,117,97,108] tsb u hqb).mono ?_⟩
   . exact Kr
   . exact Kr
   intro o O2 ho
   have hh:=d8 ho
   clear ho
   obtain hh|hh:=hh
   . obtain⟨a,e,ts9,c9,hU,rfl,rfl⟩:=hh
     (try dsimp only at hU)
     rw[hU] at hres
     (try rw[Rs.bind_er] at hres)
     refine Kv o9 ?_
     refine⟨psC ts9 c9,⟨?_,?_⟩,?_⟩
     . exact Kr
     . exact Kr
     rw[hres]
     exact⟨_,_,rfl,rfl⟩
   obtain⟨r,tsc,hU,rfl,rfl⟩:=hh
   (try dsimp only at hU)
   rw[hU] at hres
   (try rw[Rs.bind_ok] at hres)
   refine Kv o9 ?_
   have hqc:=V8 (λ_ h=>I1 h) hqb _ _ hU
   refine⟨psC (tsc) {c with ties:=l,faults:={c.faults with misses:=a,strays:=b,window:=w2,residual:=r}},_,⟨?_,?_⟩,(kR (c:={c with ties:=l,faults:={c.faults with misses:=a,strays:=b,window:=w2,residual:=r}}) λu=>a4i 80 o7 A2 (λ_ h=>A1 h) [100,114,105,102,116] tsc u hqc).mono ?_⟩
   . exact Kr
   . exact Kr
   intro o O2 ho
   have hh:=d8 ho
   clear ho
   obtain hh|hh:=hh
   . obtain⟨a,e,ts9,c9,hU,rfl,rfl⟩:=hh
     (try dsimp only at hU)
     rw[hU] at hres
     (try rw[Rs.bind_er] at hres)
     refine Kv o9 ?_
     refine⟨psC ts9 c9,⟨?_,?_⟩,?_⟩
     . exact Kr
     . exact Kr
     rw[hres]
     exact⟨_,_,rfl,rfl⟩
   obtain⟨d,tsd,hU,rfl,rfl⟩:=hh
   (try dsimp only at hU)
   rw[hU] at hres
   (try rw[Rs.bind_ok] at hres)
   refine Kv o9 ?_
   have hqd:=V8 (λ_ h=>A1 h) hqc _ _ hU
   refine⟨psC (tsd) {c with ties:=l,faults:=⟨a,b,w2,r,d⟩},_,⟨?_,?_⟩,(kR (c:={c with ties:=l,faults:=⟨a,b,w2,r,d⟩}) λu=>a5D [[125],[112,114,111,116,101,115,116],[102,101,101]] tsd u hqd.1).mono ?_⟩
   . exact Kr
   . exact Kr
   intro o O2 ho
   have hh:=d8 ho
   clear ho
   obtain hh|hh:=hh
   . obtain⟨a,e,ts9,c9,hU,rfl,rfl⟩:=hh
     (try dsimp only at hU)
     rw[hU] at hres
     (try rw[Rs.bind_er] at hres)
     refine Kv o9 ?_
     refine⟨psC ts9 c9,⟨?_,?_⟩,?_⟩
     . exact Kr
     . exact Kr
     rw[hres]
     exact⟨_,_,rfl,rfl⟩
   obtain⟨x5,tse,hU,rfl,rfl⟩:=hh
   (try dsimp only at hU)
   rw[hU] at hres
   (try rw[Rs.bind_ok] at hres)
   refine Kv o9 ?_
   have hqe:=a1v hqd _ _ hU
   refine⟨psC (tse) {c with ties:=l,faults:=⟨a,b,w2,r,d⟩},_,⟨?_,?_⟩,(kR (c:={c with ties:=l,faults:=⟨a,b,w2,r,d⟩}) λu=>A2 tse u hqe).mono ?_⟩
   . exact Kr
   . exact Kr
   intro o O2 ho
   have hh:=d8 ho
   clear ho
   obtain hh|hh:=hh
   . obtain⟨a,e,ts9,c9,hU,rfl,rfl⟩:=hh
     (try dsimp only at hU)
     rw[hU] at hres
     (try rw[Rs.bind_er] at hres)
     refine Kv o9 ?_
     refine⟨psC ts9 c9,⟨?_,?_⟩,?_⟩
     . exact Kr
     . exact Kr
     rw[hres]
     exact⟨_,_,rfl,rfl⟩
   obtain⟨f,tsf,hU,rfl,rfl⟩:=hh
   (try dsimp only at hU)
   rw[hU] at hres
   (try rw[Rs.bind_ok] at hres)
   refine Kv o9 ?_
   have hqf:=A1 hqe _ _ hU
   refine⟨psC (tsf) {c with ties:=l,faults:=⟨a,b,w2,r,d⟩,fee:=f},_,⟨?_,?_⟩,(kR (c:={c with ties:=l,faults:=⟨a,b,w2,r,d⟩,fee:=f}) λu=>r9 tsf u [100,101,97,100,108,105,110,101] hqf.1).mono ?_⟩
   . exact Kr
   . exact Kr
   intro o O2 ho
   have hh:=d8 ho
   clear ho
   obtain hh|hh:=hh
   . obtain⟨a,e,ts9,c9,hU,rfl,rfl⟩:=hh
     (try dsimp only at hU)
     rw[hU] at hres
     (try rw[Rs.bind_er] at hres)
     refine Kv o9 ?_
     refine⟨psC ts9 c9,⟨?_,?_⟩,?_⟩
     . exact Kr
     . exact Kr
     rw[hres]
     exact⟨_,_,rfl,rfl⟩
   obtain⟨x6,tsg,hU,rfl,rfl⟩:=hh
   (try dsimp only at hU)
   rw[hU] at hres
   (try rw[Rs.bind_ok] at hres)
   refine Kv o9 ?_
   have hqg:=n9 hqf _ _ hU
   refine⟨psC (tsg) {c with ties:=l,faults:=⟨a,b,w2,r,d⟩,fee:=f},_,⟨?_,?_⟩,(kR (c:={c with ties:=l,faults:=⟨a,b,w2,r,d⟩,fee:=f}) λu=>a1I hT tsg u hqg).mono ?_⟩
   . exact Kr
   . exact Kr
   intro o O2 ho
   have hh:=d8 ho
   clear ho
   obtain hh|hh:=hh
   . obtain⟨a,e,ts9,c9,hU,rfl,rfl⟩:=hh
     (try dsimp only at hU)
     rw[hU] at hres
     (try rw[Rs.bind_er] at hres)
     refine Kv o9 ?_
     refine⟨psC ts9 c9,⟨?_,?_⟩,?_⟩
     . exact Kr
     . exact Kr
     rw[hres]
     exact⟨_,_,rfl,rfl⟩
   obtain⟨t,tsh,hU,rfl,rfl⟩:=hh
   (try dsimp only at hU)
   rw[hU] at hres
   (try rw[Rs.bind_ok] at hres)
   refine Kv o9 ?_
   have hqh:=I1 hqg _ _ hU
   refine⟨psC (tsh) {c with ties:=l,faults:=⟨a,b,w2,r,d⟩,fee:=f,deadline:=t},_,⟨?_,?_⟩,(kR (c:={c with ties:=l,faults:=⟨a,b,w2,r,d⟩,fee:=f,deadline:=t}) λu=>a5D [[59],[125]] tsh u hqh.1).mono ?_⟩
   . exact Kr
   . exact Kr
   intro o O2 ho
   have hh:=d8 ho
   clear ho
   obtain hh|hh:=hh
   . obtain⟨a,e,ts9,c9,hU,rfl,rfl⟩:=hh
     (try dsimp only at hU)
     rw[hU] at hres
     (try rw[Rs.bind_er] at hres)
     refine Kv o9 ?_
     refine⟨psC ts9 c9,⟨?_,?_⟩,?_⟩
     . exact Kr
     . exact Kr
     rw[hres]
     exact⟨_,_,rfl,rfl⟩
   obtain⟨x7,tsi,hU,rfl,rfl⟩:=hh
   (try dsimp only at hU)
   rw[hU] at hres
   (try rw[Rs.bind_ok] at hres)
   refine Kv o9 ?_
   refine⟨psC (tsi) {c with ties:=l,faults:=⟨a,b,w2,r,d⟩,fee:=f,deadline:=t}, .d (Course.d {c with ties:=l,faults:=⟨a,b,w2,r,d⟩,fee:=f,deadline:=t}),?_,?_⟩
   rotate_left 1
   . rw[hres]
     exact⟨rfl,rfl⟩
   repeat'(first|exact True.intro|exact rfl|refine And.intro ?_ ?_)
end Go.Proofs.YtaopegkpjhkooaaGreatDoor.Dx
/- Chapter 06: parsing a course. -/
namespace Go.Proofs.YtaopegkpjhkooaaGreatDoor.Dx
open Go Go.RowKit
set_option maxRecDepth 100000
set_option maxHeartbeats 16000000
theorem b5M (b0 b1 b2 b3 b4 b5 b6 b7 b8 b9 c0 c1 c2 c3 c4 c5 e5 e6:D):MeetsD Tryz.prog 70 [.loc 4 0, .loc 5 0, .loc 6 0] [(4, .box [.d b0, .d b1, .d b2, .d b3, .d b4, .d b5, .d b6, .d b7, .d b8, .d b9, .d c0, .d c1, .d c2, .d c3, .d c4, .d c5] 55),(5, .box [.d e5] 3),(6, .box [.d e6] 32)] none λO'=>O'=[(4, .box [.d b0, .d b1, .d b2, .d b3, .d b4, .d b5, .d b6, .d b7, .d b8, .d b9, .d c0, .d c1, .d c2, .d c3, .d c4, .d c5] 55),(5, .box [.d e5] 3),(6, .box [.d e6] 32)]:=by
 refine a1i tok {} Tryz.func70 rfl (by kernel_rfl) Tryz.ntmps70 (by simp) (by decide) (by decide) λB0 W0 V0 lent g0=>?_
 refine Kw ?_
 refine⟨_, .d (.tup []),?_,⟨⟨_,rfl⟩,rfl⟩⟩
 repeat'(first|exact True.intro|exact rfl|refine And.intro ?_ ?_|(exact a0U _ _))
abbrev a1X:Cfg:={nm:=[(4,54),(6,56)]}
theorem b0b (b0 b1 b2 b3 b4 b5 b6 b7 b8 b9 c0 c1 c2 c3 c4 c5 e5 e6:D)(at_ e:Int):MeetsD Tryz.prog 70 [.loc 4 0, .loc 5 0, .loc 6 0] [(4, .box [.d b0, .d b1, .d b2, .d b3, .d b4, .d b5, .d b6, .d b7, .d b8, .d b9, .d c0, .d c1, .d c2, .d c3, .d c4, .d c5] 55),(5, .box [.d e5] 3),(6, .box [.d e6] 32)] (some (.iface 130 (.agg [iD at_,iD e])))
 λO'=>O'=[(4, .box [.d (.str []), .d (.sl []), .d (.sl []), .d (.sl []), .d (.sl []), .d (.sl []), .d (.sl []), .d (.sl []), .d (.sl []), .d (iD 0), .d (iD 0), .d (iD 0), .d (iD 0), .d (iD 0), .d (iD 0), .d (iD 0)] 55),(5, .box [.d (iD at_)] 3),(6, .box [.d (iD e)] 32)]:=by
 refine a1i tok a1X Tryz.func70 rfl (by kernel_rfl) Tryz.ntmps70 (by simp) (by decide) (by decide) λB0 W0 V0 lent g0=>?_
 refine Kv a1X ?_
 refine⟨λh=>absurd h (by decide),λ_=>?_⟩
 refine Kv a1X ?_
 refine j9 tok (cf:=a1X) (by kernel_rfl) [.p 0, .p 1, .p 2, .p 3, .p 4, .s 5 [0], .s 6 [2,1], .s 7 [4,3]] (by kernel_rfl) ?_
 refine Kv a1X ?_
 repeat'((first|(intro hlq;try simp only[SL] at hlq)|refine K9 ?_|((refine Kh (λhb=>?_) λhb=>?_)<;>try simp only[BL] at hb)|refine K8 ?_)<;>refine Kv a1X ?_)
 refine⟨_, .d (.tup []),?_,⟨⟨_,rfl⟩,rfl⟩⟩
 repeat'(first|exact True.intro|exact rfl|refine And.intro ?_ ?_|(exact a0U _ _))
theorem b6c (hT:C2)(ts:List Tk)(hq:QT ts)(hn:D9 FU ts≠ .out):MeetsR Tryz.prog 40 [.loc 5000 0] (pcO ts a6x []) λo O'=>RdV Course.d id (D9 FU ts) o O':=by
 have hc:=b6k hT FU (by decide) ts hq hn
 obtain⟨res,hres⟩:∃res,res=D9 FU ts:=⟨_,rfl⟩
 rw[<-hres] at hc⊢
 refine k8 tok {rs:=[4]} Tryz.func40 rfl (by kernel_rfl) Tryz.ntmps40 (by simp) λB0 W0 V0 lent g0=>?_
 refine Kv {rs:=[4]} ?_
 refine⟨pcO ts a6x [],_,⟨?_,?_⟩,hc.mono ?_⟩
 . exact Kr
 . exact Kr
 intro o O2 ho
 have hh:=d8 ho
 clear ho
 obtain hh|hh:=hh
 . obtain⟨a,e,ts9,c9,hU,rfl,rfl⟩:=hh
   refine Kv {rs:=[4]} ?_
   refine⟨psC ts9 c9,⟨?_,?_⟩,?_⟩
   . exact Kr
   . exact Kr
   rw[hU]
   exact⟨_,_,rfl,rfl⟩
 obtain⟨c,ts2,hU,rfl,rfl⟩:=hh
 refine Kv {rs:=[4]} ?_
 refine⟨psC ts2 c, .d c.d,?_,?_⟩
 rotate_left 1
 . rw[hU]
   exact⟨rfl,rfl⟩
 . exact Kr
theorem b8s {k:Nat}{c:Course}{ts:List Tk}(h:QT ts):(S0 k c ts).kp:=by
 rw[b1F]
 exact d6 (n9 h) λ_ _ h=>d6 ((a1F k).2 _ _ h) λ_ _ h=>d6 (a1v h) λ_ _ h=>d6 (V8 (λ_ h=>A1 h) h) λ_ _ h=>d6 (V8 (λ_ h=>A1 h) h) λ_ _ h=>d6 (V8 (λ_ h=>I1 h) h) λ_ _ h=>d6 (V8 (λ_ h=>I1 h) h) λ_ _ h=>d6 (V8 (λ_ h=>A1 h) h) λ_ _ h=>
  d6 (a1v h) λ_ _ h=>d6 (A1 h) λ_ _ h=>d6 (n9 h) λ_ _ h=>d6 (I1 h) λ_ _ h=>d6 (a1v h) λ_ _ h=>r8 h
theorem b6j {k:Nat}{ts:List Tk}(h:QT ts):(D9 k ts).kp:=
 d6 (n9 h) λ_ _ h=>d6 (L2 h) λ_ _ h=>d6 (n9 h) λ_ _ h=>d6 (n9 h) λ_ _ h=>d6 (n9 h) λ_ _ h=>d6 (a7K _ _ _ h) λ_ _ h=>d6 (b2Z _ _ _ _ h) λ_ _ h=>b8s h
abbrev A6:Cfg:={nm:=[(31,5000)],rs:=[34,36,40],priv:=[30]}
theorem b9R (hT:C2)(src:List UInt8)(hl:src.length<=65536):Meets Tryz.prog 39 [.sl (o8 src), .fn 40 [] []] λd=>d= .tup [(P3 src).1.d,iD (P3 src).2.1,iD (P3 src).2.2]:=by
 have htk:=a4R hT src hl
 have hq:=a6k src hl
 have hfu:=b0r src hl
 obtain⟨x,hx⟩:∃x,x=P3 src:=⟨_,rfl⟩
 rw[<-hx]
 unfold P3 U8 at hx
 refine a5k tok A6 Tryz.func39 rfl (by kernel_rfl) Tryz.ntmps39 (by simp) 4 rfl (by decide) λB0 W0 V0 lent g0=>?_
 refine G8 tok A6 ?_
 refine Kv A6 ?_
 refine G8 tok A6 ?_
 refine Kv A6 ?_
 refine Meets.k htk ?_
 refine Kv A6 ?_
 refine G8 tok A6 ?_
 refine Kv A6 ?_
 refine⟨λh=>absurd h (by decide),λ_=>?_⟩
 refine Kv A6 ?_
 refine G8 tok A6 ?_
 refine Kv A6 ?_
 repeat'((first|(intro hlq;try simp only[SL] at hlq)|refine K9 ?_|refine K8 ?_)<;>refine Kv A6 ?_)
 refine⟨λh0=>?_,λh0=>?_⟩<;>(try simp only[BL] at h0)<;>refine Kv A6 ?_
 . obtain⟨b,bs,hb⟩:=List.exists_cons_of_length_pos (l:=bads src 0 (-1) 0) (by omega)
   rw[hb] at hx⊢
   dsimp only at hx
   refine j9 tok (cf:=A6) (by kernel_rfl) [.p 0, .p 1, .p 2, .p 3, .p 4, .s 5 [0], .s 6 [4,1,2,3], .s 7 []] (by kernel_rfl) ?_
   refine Kv A6 ?_
   repeat'((first|(intro hlq;try simp only[SL] at hlq)|refine K9 ?_|((refine Kh (λhb=>?_) λhb=>?_)<;>try simp only[BL] at hb)|refine K8 ?_)<;>refine Kv A6 ?_)
   refine⟨prC b,⟨Int.le_refl _,rfl,rfl⟩,?_⟩
   refine Kv A6 ?_
   repeat'((first|(intro hlq;try simp only[SL] at hlq)|refine K9 ?_|((refine Kh (λhb=>?_) λhb=>?_)<;>try simp only[BL] at hb)|refine K8 ?_)<;>refine Kv A6 ?_)
   refine⟨?_⟩
   rw[hx]
   rfl
 . have hb:bads src 0 (-1) 0=[]:=List.eq_nil_of_length_eq_zero (by omega)
   rw[hb] at hx
   dsimp only at hx
   refine a4E ?_
   conv=>whnf
   intro B0 W0 V0 lent g0 m0 dfr
   refine Y A6 rfl ?_
   refine Kv A6 ?_
   have hrd:=b6c hT (toks src 0) hq hfu
   refine⟨pcO (toks src 0) a6x [],_,⟨?_,?_⟩,hrd.mono ?_⟩
   . exact Kr
   . exact Kr
   intro o O2 ho
   have hh:=d8 ho
   clear ho
   obtain hh|hh:=hh
   . obtain⟨a,e,ts2,c2,hU,rfl,rfl⟩:=hh
     rw[hU] at hx
     refine Kv A6 ?_
     refine⟨[(4, .box [.d (.str []), .d (.sl []), .d (.sl []), .d (.sl []), .d (.sl []), .d (.sl []), .d (.sl []), .d (.sl []), .d (.sl []), .d (iD 0), .d (iD 0), .d (iD 0), .d (iD 0), .d (iD 0), .d (iD 0), .d (iD 0)] 55),(5, .box [.d (iD 0)] 3),(6, .box [.d (iD 0)] 32)],⟨?_,rfl⟩,(b0b _ _ _ _ _ _ _ _ _ _ _ _ _ _ _ _ _ _ _ _).mono ?_⟩
     . exact Kr
     rintro _ rfl
     refine Kv A6 ?_
     refine⟨?_⟩
     rw[hx]
     rfl
   obtain⟨c,ts2,hU,rfl,rfl⟩:=hh
   rw[hU] at hx
   have hx':x=if(hdT ts2).kind=6 then(c,0,0) else(zC,((hdT ts2).at_:Int),60):=hx
   have he2:=(b6j hq _ _ hU).1
   have hnx:=kC (c:=c) λu=>a5E ts2 u he2
   have hsp:=kP (c:=c) λu=>F5 ts2 u 60 he2
   refine Kv A6 ?_
   refine⟨psC ts2 c,_,⟨?_,?_⟩,hnx.mono ?_⟩
   . exact Kr
   . exact Kr
   rintro _ O2 ⟨rfl,rfl⟩
   refine Kv A6 ?_
   refine⟨λh6=>?_,λh6=>?_⟩<;>(try simp only[BL] at h6)<;>refine Kv A6 ?_
   . rw[if_neg (by omega)] at hx'
     refine⟨psC ts2 c,_,⟨?_,?_⟩,hsp.mono ?_⟩
     . exact Kr
     . exact Kr
     rintro _ O2 ⟨rfl,rfl⟩
     refine Kv A6 ?_
     refine⟨[(4, .box [.d (.str c.name), .d (.sl (c.mats.map Mat.cells)), .d (.sl (c.legs.map Leg.cells)), .d (.sl (c.distances.map Distance.cells)), .d (.sl (c.waves.map Wave.cells)), .d (.sl (c.offences.map Offence.cells)), .d (.sl (c.categories.map Category.cells)), .d (.sl (c.prizes.map Prize.cells)), .d (.sl (c.ties.map Step.cells)), .d (iD c.faults.misses), .d (iD c.faults.strays), .d (iD c.faults.window), .d (iD c.faults.residual), .d (iD c.faults.drift), .d (iD c.fee), .d (iD c.deadline)] 55),(5, .box [.d (iD 0)] 3),(6, .box [.d (iD 0)] 32)],⟨?_,rfl⟩,(b0b _ _ _ _ _ _ _ _ _ _ _ _ _ _ _ _ _ _ _ _).mono ?_⟩
     . exact Kr
     rintro _ rfl
     refine Kv A6 ?_
     refine⟨?_⟩
     rw[hx']
     rfl
   . rw[if_pos (by omega)] at hx'
     refine⟨[(4, .box [.d (.str c.name), .d (.sl (c.mats.map Mat.cells)), .d (.sl (c.legs.map Leg.cells)), .d (.sl (c.distances.map Distance.cells)), .d (.sl (c.waves.map Wave.cells)), .d (.sl (c.offences.map Offence.cells)), .d (.sl (c.categories.map Category.cells)), .d (.sl (c.prizes.map Prize.cells)), .d (.sl (c.ties.map Step.cells)), .d (iD c.faults.misses), .d (iD c.faults.strays), .d (iD c.faults.window), .d (iD c.faults.residual), .d (iD c.faults.drift), .d (iD c.fee), .d (iD c.deadline)] 55),(5, .box [.d (iD 0)] 3),(6, .box [.d (iD 0)] 32)],⟨?_,rfl⟩,(b5M _ _ _ _ _ _ _ _ _ _ _ _ _ _ _ _ _ _).mono ?_⟩
     . exact Kr
     rintro _ rfl
     refine Kv A6 ?_
     refine⟨?_⟩
     rw[hx']
theorem b4g (hT:C2)(src:List UInt8)(hl:src.length<=65536):Meets Tryz.prog 21 [.sl (o8 src)] λd=>d= .tup [(P3 src).1.d,iD (P3 src).2.1,iD (P3 src).2.2]:=by
 have hp:=b9R hT src hl
 revert hp
 generalize P3 src=x
 intro hp
 refine enter tok {} Tryz.func21 rfl (by kernel_rfl) Tryz.ntmps21 (by simp) λB0 W0 V0 lent g0=>?_
 refine Kw ?_
 refine Meets.k hp ?_
 refine Kw ?_
 exact⟨rfl⟩
end Go.Proofs.YtaopegkpjhkooaaGreatDoor.Dx
