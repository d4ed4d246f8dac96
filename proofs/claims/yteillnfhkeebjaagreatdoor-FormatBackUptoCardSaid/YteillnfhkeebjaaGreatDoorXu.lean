/- Chapter. -/
import Derived.Test.YteillnfhkeebjaaGreatDoorXt
set_option linter.all false
namespace Go.Proofs.YteillnfhkeebjaaGreatDoor.Dx
open Go Go.RowKit
set_option maxRecDepth 100000
set_option maxHeartbeats 16000000
theorem b0s (ws:List (List UInt8))(ts:List Tk)(u:Nat->Value)(he:EndsT ts):MR 124 [.loc 5000 0, .d (.sl (ws.map I0))] (psO ts u) λo O'=>RdO (λ_=> .tup []) (O9 ws ts) u o O':=b8V ws ts u he
theorem a4U {ws:List (List UInt8)}:∀{ts:List Tk},QT ts->(O9 ws ts).kp:=by
 induction ws with
 |nil=>intro ts h;exact C3 h
 |cons w ws ih=>intro ts h;exact n8 (v7 h) λ_ _ h=>ih h
theorem c8Q (ts:List Tk):(isW [115,116,97,114,116] ts=true/\Y4 ts=some 1)\/(isW [115,116,97,114,116] ts=false/\isW [112,97,115,115] ts=true/\Y4 ts=some 2)\/(isW [115,116,97,114,116] ts=false/\isW [112,97,115,115] ts=false/\isW [101,110,100] ts=true/\Y4 ts=some 3)\/(isW [115,116,97,114,116] ts=false/\isW [112,97,115,115] ts=false/\isW [101,110,100] ts=false/\Y4 ts=none):=by
 unfold Y4;cases isW [115,116,97,114,116] ts<;>cases isW [112,97,115,115] ts<;>cases isW [101,110,100] ts<;>simp
abbrev B7:Cfg:={rs:=[5,9,12,16,20,23,27]}
theorem c8V (k:Nat)(ts:List Tk)(c0:Course)(hq:QT ts)(hl:c0.mats.length+k<=1000000000)(hn:((O9 [[109,97,116,115],[123]] ts).bind λ_ ts=>(H9 k c0.mats ts).bind λms ts=> .ok {c0 with mats:=ms} ts)≠ .out):
 MR 126 [.loc 5000 0] (psC ts c0) λo O'=>RdV (λ_=> .tup []) id ((O9 [[109,97,116,115],[123]] ts).bind λ_ ts=>(H9 k c0.mats ts).bind λms ts=> .ok {c0 with mats:=ms} ts) o O':=by
 obtain⟨res,hres⟩:∃res,res=(O9 [[109,97,116,115],[123]] ts).bind λ_ ts=>(H9 k c0.mats ts).bind λms ts=> .ok {c0 with mats:=ms} ts:=⟨_,rfl⟩
 rw[<-hres] at hn⊢;obtain⟨c,hc⟩:∃c,c=c0:=⟨_,rfl⟩
 rw[<-hc] at hl hres⊢;refine EnR B7 Tryz.func126 Tryz.ntmps126 λ_ _ _ _ _=>?_;refine Kv B7 ?_;refine⟨psC (ts) c,_,⟨Kr,Kr⟩,(kR (c:=c) λu=>b0s [[109,97,116,115],[123]] ts u hq.1).mono ?_⟩;intro o O2 ho;have hh:=o7 ho;clear ho;obtain hh|hh:=hh
 . obtain⟨a,e,ts9,c9,hU,rfl,rfl⟩:=hh;(try dsimp only at hU);rw[hU] at hres;(try rw[j9] at hres);refine Kv B7 ?_;refine⟨psC ts9 c9,⟨Kr,Kr⟩,?_⟩;rw[hres];exact⟨_,_,rfl,rfl⟩
 obtain⟨x,ts1,hU,rfl,rfl⟩:=hh;(try dsimp only at hU);rw[hU] at hres;(try rw[j7] at hres);refine Kv B7 ?_;have hq1:=a4U hq _ _ hU;refine o4 tok B7 [] (X:=Nat×Course×List Tk) (λ_=>[]) (λs=>psC s.2.2 s.2.1) [] (λs=>s.1<=k/\QT s.2.2/\res=((H9 s.1 s.2.1.mats s.2.2).bind λms ts=> .ok {s.2.1 with mats:=ms} ts)/\s.2.1.mats.length+s.1<=1000000000) (λs=>s.1) (k,c,ts1) ?_;refine Kv B7 ?_;refine d8 ?_ ⟨⟨p0 _,hq1,hres,hl⟩,λs hΦ=>?_⟩
 . exact Kr
 clear hc hl hres hU hq1 hq;obtain⟨j,c,ts2⟩:=s;obtain⟨hj,hq2,heq,hlen⟩:=hΦ;dsimp only at hj hq2 heq hlen;cases j with
 |zero=>rw[H9] at heq;exact absurd heq hn
 |succ j=>
 rw[H9] at heq;have he:=hq2.1;refine Kv B7 ?_;have hm:=c8Q ts2;obtain⟨g1,hm⟩|⟨g1,g2,hm⟩|⟨g1,g2,g3,hm⟩|⟨g1,g2,g3,hm⟩:=hm
 . refine ⟨psC (ts2) c,_,⟨Kr,Kr⟩,(kC (c:=c) λu=>G7 ts2 u [115,116,97,114,116] he g1).mono ?_⟩;rintro _ O2 ⟨rfl,rfl⟩;refine Kv B7 ?_;rw[hm] at heq;dsimp only at heq;have hres:=heq;simp only[O3,j7] at hres;have hq3:=b0o hq2 hm;refine⟨psC (ts2.tail) c,_,⟨Kr,Kr⟩,(kR (c:=c) λu=>a3O ts2.tail u hq3).mono ?_⟩;intro o O2 ho;have hh:=o7 ho;clear ho;obtain hh|hh:=hh
   . obtain⟨a,e,ts9,c9,hU,rfl,rfl⟩:=hh;(try dsimp only at hU);rw[hU] at hres;(try rw[j9] at hres);refine Kv B7 ?_;refine⟨psC ts9 c9,⟨Kr,Kr⟩,?_⟩;rw[hres];exact⟨_,_,rfl,rfl⟩
   obtain⟨w,ts3,hU,rfl,rfl⟩:=hh;(try dsimp only at hU);rw[hU] at hres;(try rw[j7] at hres);refine Kv B7 ?_;have hq4:=Y5 hq3 _ _ hU;refine⟨psC (ts3) c,_,⟨Kr,Kr⟩,(kR (c:=c) λu=>D1 ts3 u [59] hq4.1).mono ?_⟩;intro o O2 ho;have hh:=o7 ho;clear ho;obtain hh|hh:=hh
   . obtain⟨a,e,ts9,c9,hU,rfl,rfl⟩:=hh;(try dsimp only at hU);rw[hU] at hres;(try rw[j9] at hres);refine Kv B7 ?_;refine⟨psC ts9 c9,⟨Kr,Kr⟩,?_⟩;rw[hres];exact⟨_,_,rfl,rfl⟩
   obtain⟨x1,ts4,hU,rfl,rfl⟩:=hh;(try dsimp only at hU);rw[hU] at hres;(try rw[j7] at hres);refine Kv B7 ?_;have hq5:=v7 hq4 _ _ hU;refine Dr B7 [.p 0, .p 1, .p 2, .p 3, .p 4, .p 5, .p 6, .p 7, .s 8 [5,7,4,6,3,2,1], .p 9, .p 10, .p 11, .s 12 [11,0,10,9]] ?_;refine Kv B7 ?_;refine⟨by simp,?_⟩;refine Kv B7 ?_;refine⟨λh1 h2=>?_,?_⟩
   . simp only[o9,i7,j8];omega
   refine Kv B7 ?_;refine⟨⟨(j,{c with mats:=c.mats++[⟨w,1⟩]},ts4),?_,⟨by dsimp only;omega,hq5,hres,by dsimp only;simp only[j6,i7,j8];omega⟩,by dsimp only;omega⟩⟩;repeat'(first|exact d9|exact rfl|refine d8 ?_ ?_|(exact(by simp only[D3,o5,B8])))
 . refine ⟨psC (ts2) c,_,⟨Kr,Kr⟩,(kC (c:=c) λu=>q0 ts2 u [115,116,97,114,116] he g1).mono ?_⟩;rintro _ O2 ⟨rfl,rfl⟩;refine Kv B7 ?_;refine⟨psC (ts2) c,_,⟨Kr,Kr⟩,(kC (c:=c) λu=>G7 ts2 u [112,97,115,115] he g2).mono ?_⟩;rintro _ O2 ⟨rfl,rfl⟩;refine Kv B7 ?_;rw[hm] at heq;dsimp only at heq;have hres:=heq;simp only[O3,j7] at hres;have hq3:=b0o hq2 hm;refine⟨psC (ts2.tail) c,_,⟨Kr,Kr⟩,(kR (c:=c) λu=>a3O ts2.tail u hq3).mono ?_⟩;intro o O2 ho;have hh:=o7 ho;clear ho;obtain hh|hh:=hh
   . obtain⟨a,e,ts9,c9,hU,rfl,rfl⟩:=hh;(try dsimp only at hU);rw[hU] at hres;(try rw[j9] at hres);refine Kv B7 ?_;refine⟨psC ts9 c9,⟨Kr,Kr⟩,?_⟩;rw[hres];exact⟨_,_,rfl,rfl⟩
   obtain⟨w,ts3,hU,rfl,rfl⟩:=hh;(try dsimp only at hU);rw[hU] at hres;(try rw[j7] at hres);refine Kv B7 ?_;have hq4:=Y5 hq3 _ _ hU;refine⟨psC (ts3) c,_,⟨Kr,Kr⟩,(kR (c:=c) λu=>D1 ts3 u [59] hq4.1).mono ?_⟩;intro o O2 ho;have hh:=o7 ho;clear ho;obtain hh|hh:=hh
   . obtain⟨a,e,ts9,c9,hU,rfl,rfl⟩:=hh;(try dsimp only at hU);rw[hU] at hres;(try rw[j9] at hres);refine Kv B7 ?_;refine⟨psC ts9 c9,⟨Kr,Kr⟩,?_⟩;rw[hres];exact⟨_,_,rfl,rfl⟩
   obtain⟨x1,ts4,hU,rfl,rfl⟩:=hh;(try dsimp only at hU);rw[hU] at hres;(try rw[j7] at hres);refine Kv B7 ?_;have hq5:=v7 hq4 _ _ hU;refine Dr B7 [.p 0, .p 1, .p 2, .p 3, .p 4, .p 5, .p 6, .p 7, .s 8 [5,7,4,6,3,2,1], .p 9, .p 10, .p 11, .s 12 [11,0,10,9]] ?_;refine Kv B7 ?_;refine⟨by simp,?_⟩;refine Kv B7 ?_;refine⟨λh1 h2=>?_,?_⟩
   . simp only[o9,i7,j8];omega
   refine Kv B7 ?_;refine⟨⟨(j,{c with mats:=c.mats++[⟨w,2⟩]},ts4),?_,⟨by dsimp only;omega,hq5,hres,by dsimp only;simp only[j6,i7,j8];omega⟩,by dsimp only;omega⟩⟩;repeat'(first|exact d9|exact rfl|refine d8 ?_ ?_|(exact(by simp only[D3,o5,B8])))
 . refine ⟨psC (ts2) c,_,⟨Kr,Kr⟩,(kC (c:=c) λu=>q0 ts2 u [115,116,97,114,116] he g1).mono ?_⟩;rintro _ O2 ⟨rfl,rfl⟩;refine Kv B7 ?_;refine⟨psC (ts2) c,_,⟨Kr,Kr⟩,(kC (c:=c) λu=>q0 ts2 u [112,97,115,115] he g2).mono ?_⟩;rintro _ O2 ⟨rfl,rfl⟩;refine Kv B7 ?_;refine⟨psC (ts2) c,_,⟨Kr,Kr⟩,(kC (c:=c) λu=>G7 ts2 u [101,110,100] he g3).mono ?_⟩;rintro _ O2 ⟨rfl,rfl⟩;refine Kv B7 ?_;rw[hm] at heq;dsimp only at heq;have hres:=heq;simp only[O3,j7] at hres;have hq3:=b0o hq2 hm;refine⟨psC (ts2.tail) c,_,⟨Kr,Kr⟩,(kR (c:=c) λu=>a3O ts2.tail u hq3).mono ?_⟩;intro o O2 ho;have hh:=o7 ho;clear ho;obtain hh|hh:=hh
   . obtain⟨a,e,ts9,c9,hU,rfl,rfl⟩:=hh;(try dsimp only at hU);rw[hU] at hres;(try rw[j9] at hres);refine Kv B7 ?_;refine⟨psC ts9 c9,⟨Kr,Kr⟩,?_⟩;rw[hres];exact⟨_,_,rfl,rfl⟩
   obtain⟨w,ts3,hU,rfl,rfl⟩:=hh;(try dsimp only at hU);rw[hU] at hres;(try rw[j7] at hres);refine Kv B7 ?_;have hq4:=Y5 hq3 _ _ hU;refine⟨psC (ts3) c,_,⟨Kr,Kr⟩,(kR (c:=c) λu=>D1 ts3 u [59] hq4.1).mono ?_⟩;intro o O2 ho;have hh:=o7 ho;clear ho;obtain hh|hh:=hh
   . obtain⟨a,e,ts9,c9,hU,rfl,rfl⟩:=hh;(try dsimp only at hU);rw[hU] at hres;(try rw[j9] at hres);refine Kv B7 ?_;refine⟨psC ts9 c9,⟨Kr,Kr⟩,?_⟩;rw[hres];exact⟨_,_,rfl,rfl⟩
   obtain⟨x1,ts4,hU,rfl,rfl⟩:=hh;(try dsimp only at hU);rw[hU] at hres;(try rw[j7] at hres);refine Kv B7 ?_;have hq5:=v7 hq4 _ _ hU;refine Dr B7 [.p 0, .p 1, .p 2, .p 3, .p 4, .p 5, .p 6, .p 7, .s 8 [5,7,4,6,3,2,1], .p 9, .p 10, .p 11, .s 12 [11,0,10,9]] ?_;refine Kv B7 ?_;refine⟨by simp,?_⟩;refine Kv B7 ?_;refine⟨λh1 h2=>?_,?_⟩
   . simp only[o9,i7,j8];omega
   refine Kv B7 ?_;refine⟨⟨(j,{c with mats:=c.mats++[⟨w,3⟩]},ts4),?_,⟨by dsimp only;omega,hq5,hres,by dsimp only;simp only[j6,i7,j8];omega⟩,by dsimp only;omega⟩⟩;repeat'(first|exact d9|exact rfl|refine d8 ?_ ?_|(exact(by simp only[D3,o5,B8])))
 . refine ⟨psC (ts2) c,_,⟨Kr,Kr⟩,(kC (c:=c) λu=>q0 ts2 u [115,116,97,114,116] he g1).mono ?_⟩;rintro _ O2 ⟨rfl,rfl⟩;refine Kv B7 ?_;refine⟨psC (ts2) c,_,⟨Kr,Kr⟩,(kC (c:=c) λu=>q0 ts2 u [112,97,115,115] he g2).mono ?_⟩;rintro _ O2 ⟨rfl,rfl⟩;refine Kv B7 ?_;refine⟨psC (ts2) c,_,⟨Kr,Kr⟩,(kC (c:=c) λu=>q0 ts2 u [101,110,100] he g3).mono ?_⟩;rintro _ O2 ⟨rfl,rfl⟩;refine Kv B7 ?_;rw[hm] at heq;dsimp only at heq;have hres:=heq;simp only[O3,j7] at hres;refine⟨psC (ts2) c,_,⟨Kr,Kr⟩,(kR (c:=c) λu=>D1 ts2 u [125] he).mono ?_⟩;intro o O2 ho;have hh:=o7 ho;clear ho;obtain hh|hh:=hh
   . obtain⟨a,e,ts9,c9,hU,rfl,rfl⟩:=hh;(try dsimp only at hU);rw[hU] at hres;(try rw[j9] at hres);refine Kv B7 ?_;refine⟨psC ts9 c9,⟨Kr,Kr⟩,?_⟩;rw[hres];exact⟨_,_,rfl,rfl⟩
   obtain⟨x1,ts3,hU,rfl,rfl⟩:=hh;(try dsimp only at hU);rw[hU] at hres;(try rw[j7] at hres);refine Kv B7 ?_;refine⟨psC (ts3) c, .d (.tup []),?_,?_⟩;rotate_left 1
   . rw[hres];exact⟨rfl,rfl⟩
   repeat'(first|exact d9|exact rfl|refine d8 ?_ ?_)
abbrev ptD (l:List Part):D:= .sl (l.map Part.cells)
def b1E (k:Nat):Prop:=∀(d:Nat) (ts:List Tk) (c:Course),d<=16->QT ts->A3 c.ms k d [] ts≠ .out->MR 192 [.loc 5000 0, .d (iD d)] (psC ts c) λo O'=>RdV ptD (λ_=>c) (A3 c.ms k d [] ts) o O'
abbrev s8:Cfg:={rs:=[11,15,18,22,28,31,33,35,39,43,47]}
theorem d0a (k:Nat)(hk:k<=1000000000)(hb:∀j,j<=k->b1E j):b1E (k+1):=by
 intro d ts c hd hq hn;obtain⟨res,hres⟩:∃res,res=A3 c.ms (k+1) d [] ts:=⟨_,rfl⟩
 rw[<-hres] at hn⊢;refine EnR s8 Tryz.func192 Tryz.ntmps192 λ_ _ _ _ _=>?_;refine Kv s8 ?_;refine o4 tok s8 [(.inl 4,4,150,3)] (X:=Nat×List Part×List Tk) (λs=>[(4, .own 4)]) (λs=>(4, .sl ⟨150,3,s.2.1.map Part.cells,true⟩)::psC s.2.2 c) [] (λs=>s.1<=k+1/\QT s.2.2/\res=A3 c.ms s.1 d s.2.1 s.2.2/\s.2.1.length+s.1<=k+1) (λs=>s.1) (k+1,[],ts) ?_;refine Kv s8 ?_;refine⟨by simp,?_⟩;refine Kv s8 ?_;refine d8 ?_ ⟨⟨p0 _,hq,hres,by simp⟩,λs hΦ=>?_⟩
 . exact Kr
 clear hres hq;obtain⟨j,l,ts2⟩:=s;obtain⟨hj,hq2,hres,hlen⟩:=hΦ;dsimp only at hj hq2 hres hlen;cases j with
 |zero=>rw[A3] at hres;exact absurd hres hn
 |succ j=>
 rw[A3] at hres;have he:=hq2.1;have hi:=λu=>a7T ts2 u hq2;have h1:=a1A (isW [108,97,112,115] ts2);have h2:=a1A (S0 ts2);refine Kv s8 ?_;repeat'((first|(intro hlq;try simp only[SL] at hlq)|refine K9 ?_|refine K8 ?_)<;>refine Kv s8 ?_)
 by_cases hl:l.length=0
 . have hl2:l.isEmpty=true:=by cases l with|nil=>rfl|cons _ _=>simp at hl
   refine⟨λh=>?_,λh=>absurd (of_decide_eq_false h) (by rw[o9,hl];decide)⟩;refine Kv s8 ?_;obtain h1|h1:=h1
   . rw [d4 (by rw[h1,Bool.or_true,a2k]),d4 h1] at hres;refine⟨psC (ts2) c,_,⟨Kr,Kr⟩,(kC (c:=c) λu=>a2r ts2 u [108,97,112,115] he h1).mono ?_⟩;rintro _ O2 ⟨rfl,rfl⟩;refine Kv s8 ?_;refine⟨λh=>absurd h (by decide),λ_=>?_⟩;refine Kv s8 ?_;have hdd:=C5 d 16;obtain hdd|hdd:=hdd;rotate_left 1
     . rw[d4 hdd] at hres;refine⟨psC (ts2) c,_,⟨Kr,Kr⟩,(kP (c:=c) λu=>a7F ts2 u d he hdd).mono ?_⟩;rintro _ O2 ⟨rfl,rfl⟩;refine Kv s8 ?_;refine⟨psC (ts2) c,⟨Kr,Kr⟩,?_⟩;rw[hres];exact⟨_,_,rfl,rfl⟩
     rw[c8 (by omega)] at hres;have hq3:=hq2.isW h1;refine⟨psC (ts2) c,_,⟨Kr,Kr⟩,(kC (c:=c) λu=>a7H ts2 u d he hdd).mono ?_⟩;rintro _ O2 ⟨rfl,rfl⟩;refine Kv s8 ?_;refine⟨psC (ts2) c,_,⟨Kr,Kr⟩,(kC (c:=c) λu=>a1p ts2 u he).mono ?_⟩;rintro _ O2 ⟨rfl,rfl⟩;refine Kv s8 ?_;refine⟨psC (ts2.tail) c,_,⟨Kr,Kr⟩,(kR (c:=c) λu=>G4 ts2.tail u hq3).mono ?_⟩;intro o O2 ho;have hh:=o7 ho;clear ho;obtain hh|hh:=hh
     . obtain⟨a,e,ts9,c9,hU,rfl,rfl⟩:=hh;(try dsimp only at hU);rw[hU] at hres;(try rw[j9] at hres);refine Kv s8 ?_;refine⟨psC ts9 c9,⟨Kr,Kr⟩,?_⟩;rw[hres];exact⟨_,_,rfl,rfl⟩
     obtain⟨n,ts3,hU,rfl,rfl⟩:=hh;(try dsimp only at hU);rw[hU] at hres;(try rw[j7] at hres);refine Kv s8 ?_;have hq4:=G3 hq3 _ _ hU;refine⟨psC (ts3) c,_,⟨Kr,Kr⟩,(kR (c:=c) λu=>D1 ts3 u [123] hq4.1).mono ?_⟩;intro o O2 ho;have hh:=o7 ho;clear ho;obtain hh|hh:=hh
     . obtain⟨a,e,ts9,c9,hU,rfl,rfl⟩:=hh;(try dsimp only at hU);rw[hU] at hres;(try rw[j9] at hres);refine Kv s8 ?_;refine⟨psC ts9 c9,⟨Kr,Kr⟩,?_⟩;rw[hres];exact⟨_,_,rfl,rfl⟩
     obtain⟨x1,ts4,hU,rfl,rfl⟩:=hh;(try dsimp only at hU);rw[hU] at hres;(try rw[j7] at hres);refine Kv s8 ?_;have hq5:=v7 hq4 _ _ hU;have hn2:A3 c.ms j (d+1) [] ts4≠ .out:=X4 (by rw[<-hres];exact hn);repeat'((first|(intro hlq;try simp only[SL] at hlq)|refine K9 ?_|refine K8 ?_)<;>refine Kv s8 ?_)
     refine⟨psC (ts4) c,_,⟨Kr,Kr⟩,(hb j (by omega) (d+1) ts4 c (by omega) hq5 hn2).mono ?_⟩;intro o O2 ho;have hh:=o7 ho;clear ho;obtain hh|hh:=hh
     . obtain⟨a,e,ts9,c9,hU,rfl,rfl⟩:=hh;(try dsimp only at hU);rw[hU] at hres;(try rw[j9] at hres);refine Kv s8 ?_;refine⟨psC ts9 c9,⟨Kr,Kr⟩,?_⟩;rw[hres];exact⟨_,_,rfl,rfl⟩
     obtain⟨x,ts5,hU,rfl,rfl⟩:=hh;(try dsimp only at hU);rw[hU] at hres;(try rw[j7] at hres);refine Kv s8 ?_;have hq6:=a8q _ _ _ _ hq5 _ _ hU;refine⟨psC (ts5) c,_,⟨Kr,Kr⟩,(kR (c:=c) λu=>D1 ts5 u [125] hq6.1).mono ?_⟩;intro o O2 ho;have hh:=o7 ho;clear ho;obtain hh|hh:=hh
     . obtain⟨a,e,ts9,c9,hU,rfl,rfl⟩:=hh;(try dsimp only at hU);rw[hU] at hres;(try rw[j9] at hres);refine Kv s8 ?_;refine⟨psC ts9 c9,⟨Kr,Kr⟩,?_⟩;rw[hres];exact⟨_,_,rfl,rfl⟩
     obtain⟨x2,ts6,hU,rfl,rfl⟩:=hh;(try dsimp only at hU);rw[hU] at hres;(try rw[j7] at hres);refine Kv s8 ?_;have hq7:=v7 hq6 _ _ hU;refine⟨by simp,?_⟩;refine Kv s8 ?_;refine⟨λh1 h2=>?_,?_⟩
     . simp only[o9,i7,j8];omega
     refine Kv s8 ?_;refine⟨⟨(j,l++[⟨0,n,x⟩],ts6),?_,⟨by dsimp only;omega,hq7,hres,by dsimp only;simp only[j6,i7,j8];omega⟩,by dsimp only;omega⟩⟩;repeat'(first|exact d9|exact rfl|refine d8 ?_ ?_|(exact(by simp only[D3,o5,B8,Part.cells_eq];try rfl)))
   . rw [d4 (by rw[hl2,a2k,a2k]),c8 (by rw[h1];decide)] at hres;refine⟨psC (ts2) c,_,⟨Kr,Kr⟩,(kC (c:=c) λu=>X3 ts2 u [108,97,112,115] he h1).mono ?_⟩;rintro _ O2 ⟨rfl,rfl⟩;refine Kv s8 ?_;refine⟨λ_=>?_,λh=>absurd h (by decide)⟩;refine Kv s8 ?_;refine⟨psC (ts2) c,_,⟨Kr,Kr⟩,(a6p ts2 c hq2).mono ?_⟩;intro o O2 ho;have hh:=o7 ho;clear ho;obtain hh|hh:=hh
     . obtain⟨a,e,ts9,c9,hU,rfl,rfl⟩:=hh;(try dsimp only at hU);rw[hU] at hres;(try rw[j9] at hres);refine Kv s8 ?_;refine⟨psC ts9 c9,⟨Kr,Kr⟩,?_⟩;rw[hres];exact⟨_,_,rfl,rfl⟩
     obtain⟨m,ts3,hU,rfl,rfl⟩:=hh;(try dsimp only at hU);rw[hU] at hres;(try rw[j7] at hres);refine Kv s8 ?_;have hq4:=V5 hq2 _ _ hU;refine⟨by simp,?_⟩;refine Kv s8 ?_;refine⟨λh1 h2=>?_,?_⟩
     . simp only[o9,i7,j8];omega
     refine Kv s8 ?_;refine⟨psC (ts3) c,_,⟨Kr,Kr⟩,(kR (c:=c) λu=>D1 ts3 u [59] hq4.1).mono ?_⟩;intro o O2 ho;have hh:=o7 ho;clear ho;obtain hh|hh:=hh
     . obtain⟨a,e,ts9,c9,hU,rfl,rfl⟩:=hh;(try dsimp only at hU);rw[hU] at hres;(try rw[j9] at hres);refine Kv s8 ?_;refine⟨psC ts9 c9,⟨Kr,Kr⟩,?_⟩;rw[hres];exact⟨_,_,rfl,rfl⟩
     obtain⟨x2,ts6,hU,rfl,rfl⟩:=hh;(try dsimp only at hU);rw[hU] at hres;(try rw[j7] at hres);refine Kv s8 ?_;have hq7:=v7 hq4 _ _ hU;refine⟨⟨(j,l++[⟨m,0,[]⟩],ts6),?_,⟨by dsimp only;omega,hq7,hres,by dsimp only;simp only[j6,i7,j8];omega⟩,by dsimp only;omega⟩⟩;repeat'(first|exact d9|exact rfl|refine d8 ?_ ?_|(exact(by simp only[D3,o5,B8,Part.cells_eq];try rfl)))
 . have hl2:l.isEmpty=false:=by cases l with|nil=>simp at hl|cons _ _=>rfl
   refine⟨λh=>absurd (a1R h) (λe=>hl (by have e:((l.map Part.cells).length:Int)=0:=e;rw[o9] at e;omega)),λh=>?_⟩;refine Kv s8 ?_;obtain h1|h1:=h1
   . refine ⟨psC (ts2) c,_,⟨Kr,Kr⟩,(kC (c:=c) λu=>a2r ts2 u [108,97,112,115] he h1).mono ?_⟩;rintro _ O2 ⟨rfl,rfl⟩;refine Kv s8 ?_;rw[d4 (by rw[h1,Bool.or_true,a2k]),d4 h1] at hres;refine⟨psC (ts2) c,_,⟨Kr,Kr⟩,(kC (c:=c) λu=>a2r ts2 u [108,97,112,115] he h1).mono ?_⟩;rintro _ O2 ⟨rfl,rfl⟩;refine Kv s8 ?_;refine⟨λh=>absurd h (by decide),λ_=>?_⟩;refine Kv s8 ?_;have hdd:=C5 d 16;obtain hdd|hdd:=hdd;rotate_left 1
     . rw[d4 hdd] at hres;refine⟨psC (ts2) c,_,⟨Kr,Kr⟩,(kP (c:=c) λu=>a7F ts2 u d he hdd).mono ?_⟩;rintro _ O2 ⟨rfl,rfl⟩;refine Kv s8 ?_;refine⟨psC (ts2) c,⟨Kr,Kr⟩,?_⟩;rw[hres];exact⟨_,_,rfl,rfl⟩
     rw[c8 (by omega)] at hres;have hq3:=hq2.isW h1;refine⟨psC (ts2) c,_,⟨Kr,Kr⟩,(kC (c:=c) λu=>a7H ts2 u d he hdd).mono ?_⟩;rintro _ O2 ⟨rfl,rfl⟩;refine Kv s8 ?_;refine⟨psC (ts2) c,_,⟨Kr,Kr⟩,(kC (c:=c) λu=>a1p ts2 u he).mono ?_⟩;rintro _ O2 ⟨rfl,rfl⟩;refine Kv s8 ?_;refine⟨psC (ts2.tail) c,_,⟨Kr,Kr⟩,(kR (c:=c) λu=>G4 ts2.tail u hq3).mono ?_⟩;intro o O2 ho;have hh:=o7 ho;clear ho;obtain hh|hh:=hh
     . obtain⟨a,e,ts9,c9,hU,rfl,rfl⟩:=hh;(try dsimp only at hU);rw[hU] at hres;(try rw[j9] at hres);refine Kv s8 ?_;refine⟨psC ts9 c9,⟨Kr,Kr⟩,?_⟩;rw[hres];exact⟨_,_,rfl,rfl⟩
     obtain⟨n,ts3,hU,rfl,rfl⟩:=hh;(try dsimp only at hU);rw[hU] at hres;(try rw[j7] at hres);refine Kv s8 ?_;have hq4:=G3 hq3 _ _ hU;refine⟨psC (ts3) c,_,⟨Kr,Kr⟩,(kR (c:=c) λu=>D1 ts3 u [123] hq4.1).mono ?_⟩;intro o O2 ho;have hh:=o7 ho;clear ho;obtain hh|hh:=hh
     . obtain⟨a,e,ts9,c9,hU,rfl,rfl⟩:=hh;(try dsimp only at hU);rw[hU] at hres;(try rw[j9] at hres);refine Kv s8 ?_;refine⟨psC ts9 c9,⟨Kr,Kr⟩,?_⟩;rw[hres];exact⟨_,_,rfl,rfl⟩
     obtain⟨x1,ts4,hU,rfl,rfl⟩:=hh;(try dsimp only at hU);rw[hU] at hres;(try rw[j7] at hres);refine Kv s8 ?_;have hq5:=v7 hq4 _ _ hU;have hn2:A3 c.ms j (d+1) [] ts4≠ .out:=X4 (by rw[<-hres];exact hn);repeat'((first|(intro hlq;try simp only[SL] at hlq)|refine K9 ?_|refine K8 ?_)<;>refine Kv s8 ?_)
     refine⟨psC (ts4) c,_,⟨Kr,Kr⟩,(hb j (by omega) (d+1) ts4 c (by omega) hq5 hn2).mono ?_⟩;intro o O2 ho;have hh:=o7 ho;clear ho;obtain hh|hh:=hh
     . obtain⟨a,e,ts9,c9,hU,rfl,rfl⟩:=hh;(try dsimp only at hU);rw[hU] at hres;(try rw[j9] at hres);refine Kv s8 ?_;refine⟨psC ts9 c9,⟨Kr,Kr⟩,?_⟩;rw[hres];exact⟨_,_,rfl,rfl⟩
     obtain⟨x,ts5,hU,rfl,rfl⟩:=hh;(try dsimp only at hU);rw[hU] at hres;(try rw[j7] at hres);refine Kv s8 ?_;have hq6:=a8q _ _ _ _ hq5 _ _ hU;refine⟨psC (ts5) c,_,⟨Kr,Kr⟩,(kR (c:=c) λu=>D1 ts5 u [125] hq6.1).mono ?_⟩;intro o O2 ho;have hh:=o7 ho;clear ho;obtain hh|hh:=hh
     . obtain⟨a,e,ts9,c9,hU,rfl,rfl⟩:=hh;(try dsimp only at hU);rw[hU] at hres;(try rw[j9] at hres);refine Kv s8 ?_;refine⟨psC ts9 c9,⟨Kr,Kr⟩,?_⟩;rw[hres];exact⟨_,_,rfl,rfl⟩
     obtain⟨x2,ts6,hU,rfl,rfl⟩:=hh;(try dsimp only at hU);rw[hU] at hres;(try rw[j7] at hres);refine Kv s8 ?_;have hq7:=v7 hq6 _ _ hU;refine⟨by simp,?_⟩;refine Kv s8 ?_;refine⟨λh1 h2=>?_,?_⟩
     . simp only[o9,i7,j8];omega
     refine Kv s8 ?_;refine⟨⟨(j,l++[⟨0,n,x⟩],ts6),?_,⟨by dsimp only;omega,hq7,hres,by dsimp only;simp only[j6,i7,j8];omega⟩,by dsimp only;omega⟩⟩;repeat'(first|exact d9|exact rfl|refine d8 ?_ ?_|(exact(by simp only[D3,o5,B8,Part.cells_eq];try rfl)))
   . refine ⟨psC (ts2) c,_,⟨Kr,Kr⟩,(kC (c:=c) λu=>X3 ts2 u [108,97,112,115] he h1).mono ?_⟩;rintro _ O2 ⟨rfl,rfl⟩;refine Kv s8 ?_;obtain h2|h2:=h2
     . rw [h2] at hi;refine⟨psC (ts2) c,_,⟨Kr,Kr⟩,(kC (c:=c) λu=>hi u).mono ?_⟩;rintro _ O2 ⟨rfl,rfl⟩;refine Kv s8 ?_;rw[d4 (by rw[h2,Bool.or_true]),c8 (by rw[h1];decide)] at hres;refine⟨psC (ts2) c,_,⟨Kr,Kr⟩,(kC (c:=c) λu=>X3 ts2 u [108,97,112,115] he h1).mono ?_⟩;rintro _ O2 ⟨rfl,rfl⟩;refine Kv s8 ?_;refine⟨λ_=>?_,λh=>absurd h (by decide)⟩;refine Kv s8 ?_;refine⟨psC (ts2) c,_,⟨Kr,Kr⟩,(a6p ts2 c hq2).mono ?_⟩;intro o O2 ho;have hh:=o7 ho;clear ho;obtain hh|hh:=hh
       . obtain⟨a,e,ts9,c9,hU,rfl,rfl⟩:=hh;(try dsimp only at hU);rw[hU] at hres;(try rw[j9] at hres);refine Kv s8 ?_;refine⟨psC ts9 c9,⟨Kr,Kr⟩,?_⟩;rw[hres];exact⟨_,_,rfl,rfl⟩
       obtain⟨m,ts3,hU,rfl,rfl⟩:=hh;(try dsimp only at hU);rw[hU] at hres;(try rw[j7] at hres);refine Kv s8 ?_;have hq4:=V5 hq2 _ _ hU;refine⟨by simp,?_⟩;refine Kv s8 ?_;refine⟨λh1 h2=>?_,?_⟩
       . simp only[o9,i7,j8];omega
       refine Kv s8 ?_;refine⟨psC (ts3) c,_,⟨Kr,Kr⟩,(kR (c:=c) λu=>D1 ts3 u [59] hq4.1).mono ?_⟩;intro o O2 ho;have hh:=o7 ho;clear ho;obtain hh|hh:=hh
       . obtain⟨a,e,ts9,c9,hU,rfl,rfl⟩:=hh;(try dsimp only at hU);rw[hU] at hres;(try rw[j9] at hres);refine Kv s8 ?_;refine⟨psC ts9 c9,⟨Kr,Kr⟩,?_⟩;rw[hres];exact⟨_,_,rfl,rfl⟩
       obtain⟨x2,ts6,hU,rfl,rfl⟩:=hh;(try dsimp only at hU);rw[hU] at hres;(try rw[j7] at hres);refine Kv s8 ?_;have hq7:=v7 hq4 _ _ hU;refine⟨⟨(j,l++[⟨m,0,[]⟩],ts6),?_,⟨by dsimp only;omega,hq7,hres,by dsimp only;simp only[j6,i7,j8];omega⟩,by dsimp only;omega⟩⟩;repeat'(first|exact d9|exact rfl|refine d8 ?_ ?_|(exact(by simp only[D3,o5,B8,Part.cells_eq];try rfl)))
     . rw [h2] at hi;rw[c8 (by rw[hl2,h1,h2];decide)] at hres;refine⟨psC (ts2) c,_,⟨Kr,Kr⟩,(kC (c:=c) λu=>hi u).mono ?_⟩;rintro _ O2 ⟨rfl,rfl⟩;refine Kv s8 ?_;refine⟨psC (ts2) c, .d (ptD l),?_,?_⟩;rotate_left 1
       . rw[hres];exact⟨rfl,rfl⟩
       repeat'(first|exact d9|exact rfl|refine d8 ?_ ?_)
theorem b9s:∀k:Nat,k<=1000000000->∀j,j<=k->b1E j
 | 0,_,j,hj=>by
   obtain rfl:j=0:=by omega
   exact λd ts c _ _ h=>absurd (by rw[A3]) h
 | k +1,hk,j,hj=>by
   have ih:=b9s k (by omega);by_cases e:j=k+1
   . subst e;exact d0a k (by omega) ih
   . exact ih j (by omega)
end Go.Proofs.YteillnfhkeebjaaGreatDoor.Dx
