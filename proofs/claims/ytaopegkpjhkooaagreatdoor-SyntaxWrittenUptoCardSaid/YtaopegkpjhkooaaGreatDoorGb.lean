/- Chapter 06: the parser's mats and parts of routes. -/
import Derived.Test.YtaopegkpjhkooaaGreatDoorGa
import Derived.Test.YtaopegkpjhkooaaGreatDoorG9
set_option linter.all false
namespace Go.Proofs.YtaopegkpjhkooaaGreatDoor.Dx
open Go Go.RowKit
set_option maxRecDepth 100000
set_option maxHeartbeats 16000000
theorem a5D (ws:List (List UInt8))(ts:List Tk)(u:Nat->Value)(he:EndsT ts):MeetsR Tryz.prog 62 [.loc 5000 0, .d (.sl (ws.map J1))] (psO ts u) λo O'=>RdO (λ_=> .tup []) (E0 ws ts) u o O':=a7M ws ts u he
theorem a1v {ws:List (List UInt8)}:∀{ts:List Tk},QT ts->(E0 ws ts).kp:=by
 induction ws with
 |nil=>intro ts h;exact r8 h
 |cons w ws ih=>intro ts h;exact d6 (n9 h) λ_ _ h=>ih h
theorem b8T (ts:List Tk):(isW [115,116,97,114,116] ts=true/\L1 ts=some 1)\/(isW [115,116,97,114,116] ts=false/\isW [112,97,115,115] ts=true/\L1 ts=some 2)\/(isW [115,116,97,114,116] ts=false/\isW [112,97,115,115] ts=false/\isW [101,110,100] ts=true/\L1 ts=some 3)\/(isW [115,116,97,114,116] ts=false/\isW [112,97,115,115] ts=false/\isW [101,110,100] ts=false/\L1 ts=none):=by
 unfold L1
 cases isW [115,116,97,114,116] ts<;>cases isW [112,97,115,115] ts<;>cases isW [101,110,100] ts<;>simp
abbrev r4:Cfg:={rs:=[5,9,12,16,20,23,27]}
theorem b9b (k:Nat)(ts:List Tk)(c0:Course)(hq:QT ts)(hl:c0.mats.length+k<=1000000000)(hn:((E0 [[109,97,116,115],[123]] ts).bind λ_ ts=>(A9 k c0.mats ts).bind λms ts=> .ok {c0 with mats:=ms} ts)≠ .out):
 MeetsR Tryz.prog 72 [.loc 5000 0] (psC ts c0) λo O'=>RdV (λ_=> .tup []) id ((E0 [[109,97,116,115],[123]] ts).bind λ_ ts=>(A9 k c0.mats ts).bind λms ts=> .ok {c0 with mats:=ms} ts) o O':=by
 obtain⟨res,hres⟩:∃res,res=(E0 [[109,97,116,115],[123]] ts).bind λ_ ts=>(A9 k c0.mats ts).bind λms ts=> .ok {c0 with mats:=ms} ts:=⟨_,rfl⟩
 rw[<-hres] at hn⊢
 obtain⟨c,hc⟩:∃c,c=c0:=⟨_,rfl⟩
 rw[<-hc] at hl hres⊢
 refine k8 tok r4 Tryz.func72 rfl (by kernel_rfl) Tryz.ntmps72 (by simp) λB0 W0 V0 lent g0=>?_
 refine Kv r4 ?_
 refine⟨psC (ts) c,_,⟨?_,?_⟩,(kR (c:=c) λu=>a5D [[109,97,116,115],[123]] ts u hq.1).mono ?_⟩
 . exact Kr
 . exact Kr
 intro o O2 ho
 have hh:=d8 ho
 clear ho
 obtain hh|hh:=hh
 . obtain⟨a,e,ts9,c9,hU,rfl,rfl⟩:=hh
   (try dsimp only at hU)
   rw[hU] at hres
   (try rw[Rs.bind_er] at hres)
   refine Kv r4 ?_
   refine⟨psC ts9 c9,⟨?_,?_⟩,?_⟩
   . exact Kr
   . exact Kr
   rw[hres]
   exact⟨_,_,rfl,rfl⟩
 obtain⟨x,ts1,hU,rfl,rfl⟩:=hh
 (try dsimp only at hU)
 rw[hU] at hres
 (try rw[Rs.bind_ok] at hres)
 refine Kv r4 ?_
 have hq1:=a1v hq _ _ hU
 refine j7 tok r4 [] (X:=Nat×Course×List Tk) (λ_=>[]) (λs=>psC s.2.2 s.2.1) [] (λs=>s.1<=k/\QT s.2.2/\res=((A9 s.1 s.2.1.mats s.2.2).bind λms ts=> .ok {s.2.1 with mats:=ms} ts)/\s.2.1.mats.length+s.1<=1000000000) (λs=>s.1) (k,c,ts1) ?_
 refine Kv r4 ?_
 refine And.intro ?_ ⟨⟨Nat.le_refl _,hq1,hres,hl⟩,λs hΦ=>?_⟩
 . exact Kr
 clear hc hl hres hU hq1 hq
 obtain⟨j,c,ts2⟩:=s
 obtain⟨hj,hq2,heq,hlen⟩:=hΦ
 dsimp only at hj hq2 heq hlen
 cases j with
 |zero=>rw[A9] at heq;exact absurd heq hn
 |succ j=>
 rw[A9] at heq
 have he:=hq2.1
 refine Kv r4 ?_
 have hm:=b8T ts2
 obtain⟨g1,hm⟩|⟨g1,g2,hm⟩|⟨g1,g2,g3,hm⟩|⟨g1,g2,g3,hm⟩:=hm
 . refine ⟨psC (ts2) c,_,⟨?_,?_⟩,(kC (c:=c) λu=>A5 ts2 u [115,116,97,114,116] he g1).mono ?_⟩
   . exact Kr
   . exact Kr
   rintro _ O2 ⟨rfl,rfl⟩
   refine Kv r4 ?_
   rw[hm] at heq
   dsimp only at heq
   have hres:=heq
   simp only[Rs.bind_assoc,Rs.bind_ok] at hres
   have hq3:=a5B hq2 hm
   refine⟨psC (ts2.tail) c,_,⟨?_,?_⟩,(kR (c:=c) λu=>Z3 ts2.tail u hq3).mono ?_⟩
   . exact Kr
   . exact Kr
   intro o O2 ho
   have hh:=d8 ho
   clear ho
   obtain hh|hh:=hh
   . obtain⟨a,e,ts9,c9,hU,rfl,rfl⟩:=hh
     (try dsimp only at hU)
     rw[hU] at hres
     (try rw[Rs.bind_er] at hres)
     refine Kv r4 ?_
     refine⟨psC ts9 c9,⟨?_,?_⟩,?_⟩
     . exact Kr
     . exact Kr
     rw[hres]
     exact⟨_,_,rfl,rfl⟩
   obtain⟨w,ts3,hU,rfl,rfl⟩:=hh
   (try dsimp only at hU)
   rw[hU] at hres
   (try rw[Rs.bind_ok] at hres)
   refine Kv r4 ?_
   have hq4:=L2 hq3 _ _ hU
   refine⟨psC (ts3) c,_,⟨?_,?_⟩,(kR (c:=c) λu=>r9 ts3 u [59] hq4.1).mono ?_⟩
   . exact Kr
   . exact Kr
   intro o O2 ho
   have hh:=d8 ho
   clear ho
   obtain hh|hh:=hh
   . obtain⟨a,e,ts9,c9,hU,rfl,rfl⟩:=hh
     (try dsimp only at hU)
     rw[hU] at hres
     (try rw[Rs.bind_er] at hres)
     refine Kv r4 ?_
     refine⟨psC ts9 c9,⟨?_,?_⟩,?_⟩
     . exact Kr
     . exact Kr
     rw[hres]
     exact⟨_,_,rfl,rfl⟩
   obtain⟨x1,ts4,hU,rfl,rfl⟩:=hh
   (try dsimp only at hU)
   rw[hU] at hres
   (try rw[Rs.bind_ok] at hres)
   refine Kv r4 ?_
   have hq5:=n9 hq4 _ _ hU
   refine j9 tok (cf:=r4) (by kernel_rfl) [.p 0, .p 1, .p 2, .p 3, .p 4, .p 5, .p 6, .p 7, .s 8 [5,7,4,6,3,2,1], .p 9, .p 10, .p 11, .s 12 [11,0,10,9]] (by kernel_rfl) ?_
   refine Kv r4 ?_
   refine⟨by simp,?_⟩
   refine Kv r4 ?_
   refine⟨λh1 h2=>?_,?_⟩
   . simp only[List.length_map,List.length_cons,List.length_nil]
     omega
   refine Kv r4 ?_
   refine⟨⟨(j,{c with mats:=c.mats++[⟨w,1⟩]},ts4),?_,⟨by dsimp only;omega,hq5,hres,by dsimp only;simp only[List.length_append,List.length_cons,List.length_nil];omega⟩,by dsimp only;omega⟩⟩
   repeat'(first|exact True.intro|exact rfl|refine And.intro ?_ ?_|(exact(by simp only[List.map_append,List.map_cons,List.map_nil])))
 . refine ⟨psC (ts2) c,_,⟨?_,?_⟩,(kC (c:=c) λu=>j0 ts2 u [115,116,97,114,116] he g1).mono ?_⟩
   . exact Kr
   . exact Kr
   rintro _ O2 ⟨rfl,rfl⟩
   refine Kv r4 ?_
   refine⟨psC (ts2) c,_,⟨?_,?_⟩,(kC (c:=c) λu=>A5 ts2 u [112,97,115,115] he g2).mono ?_⟩
   . exact Kr
   . exact Kr
   rintro _ O2 ⟨rfl,rfl⟩
   refine Kv r4 ?_
   rw[hm] at heq
   dsimp only at heq
   have hres:=heq
   simp only[Rs.bind_assoc,Rs.bind_ok] at hres
   have hq3:=a5B hq2 hm
   refine⟨psC (ts2.tail) c,_,⟨?_,?_⟩,(kR (c:=c) λu=>Z3 ts2.tail u hq3).mono ?_⟩
   . exact Kr
   . exact Kr
   intro o O2 ho
   have hh:=d8 ho
   clear ho
   obtain hh|hh:=hh
   . obtain⟨a,e,ts9,c9,hU,rfl,rfl⟩:=hh
     (try dsimp only at hU)
     rw[hU] at hres
     (try rw[Rs.bind_er] at hres)
     refine Kv r4 ?_
     refine⟨psC ts9 c9,⟨?_,?_⟩,?_⟩
     . exact Kr
     . exact Kr
     rw[hres]
     exact⟨_,_,rfl,rfl⟩
   obtain⟨w,ts3,hU,rfl,rfl⟩:=hh
   (try dsimp only at hU)
   rw[hU] at hres
   (try rw[Rs.bind_ok] at hres)
   refine Kv r4 ?_
   have hq4:=L2 hq3 _ _ hU
   refine⟨psC (ts3) c,_,⟨?_,?_⟩,(kR (c:=c) λu=>r9 ts3 u [59] hq4.1).mono ?_⟩
   . exact Kr
   . exact Kr
   intro o O2 ho
   have hh:=d8 ho
   clear ho
   obtain hh|hh:=hh
   . obtain⟨a,e,ts9,c9,hU,rfl,rfl⟩:=hh
     (try dsimp only at hU)
     rw[hU] at hres
     (try rw[Rs.bind_er] at hres)
     refine Kv r4 ?_
     refine⟨psC ts9 c9,⟨?_,?_⟩,?_⟩
     . exact Kr
     . exact Kr
     rw[hres]
     exact⟨_,_,rfl,rfl⟩
   obtain⟨x1,ts4,hU,rfl,rfl⟩:=hh
   (try dsimp only at hU)
   rw[hU] at hres
   (try rw[Rs.bind_ok] at hres)
   refine Kv r4 ?_
   have hq5:=n9 hq4 _ _ hU
   refine j9 tok (cf:=r4) (by kernel_rfl) [.p 0, .p 1, .p 2, .p 3, .p 4, .p 5, .p 6, .p 7, .s 8 [5,7,4,6,3,2,1], .p 9, .p 10, .p 11, .s 12 [11,0,10,9]] (by kernel_rfl) ?_
   refine Kv r4 ?_
   refine⟨by simp,?_⟩
   refine Kv r4 ?_
   refine⟨λh1 h2=>?_,?_⟩
   . simp only[List.length_map,List.length_cons,List.length_nil]
     omega
   refine Kv r4 ?_
   refine⟨⟨(j,{c with mats:=c.mats++[⟨w,2⟩]},ts4),?_,⟨by dsimp only;omega,hq5,hres,by dsimp only;simp only[List.length_append,List.length_cons,List.length_nil];omega⟩,by dsimp only;omega⟩⟩
   repeat'(first|exact True.intro|exact rfl|refine And.intro ?_ ?_|(exact(by simp only[List.map_append,List.map_cons,List.map_nil])))
 . refine ⟨psC (ts2) c,_,⟨?_,?_⟩,(kC (c:=c) λu=>j0 ts2 u [115,116,97,114,116] he g1).mono ?_⟩
   . exact Kr
   . exact Kr
   rintro _ O2 ⟨rfl,rfl⟩
   refine Kv r4 ?_
   refine⟨psC (ts2) c,_,⟨?_,?_⟩,(kC (c:=c) λu=>j0 ts2 u [112,97,115,115] he g2).mono ?_⟩
   . exact Kr
   . exact Kr
   rintro _ O2 ⟨rfl,rfl⟩
   refine Kv r4 ?_
   refine⟨psC (ts2) c,_,⟨?_,?_⟩,(kC (c:=c) λu=>A5 ts2 u [101,110,100] he g3).mono ?_⟩
   . exact Kr
   . exact Kr
   rintro _ O2 ⟨rfl,rfl⟩
   refine Kv r4 ?_
   rw[hm] at heq
   dsimp only at heq
   have hres:=heq
   simp only[Rs.bind_assoc,Rs.bind_ok] at hres
   have hq3:=a5B hq2 hm
   refine⟨psC (ts2.tail) c,_,⟨?_,?_⟩,(kR (c:=c) λu=>Z3 ts2.tail u hq3).mono ?_⟩
   . exact Kr
   . exact Kr
   intro o O2 ho
   have hh:=d8 ho
   clear ho
   obtain hh|hh:=hh
   . obtain⟨a,e,ts9,c9,hU,rfl,rfl⟩:=hh
     (try dsimp only at hU)
     rw[hU] at hres
     (try rw[Rs.bind_er] at hres)
     refine Kv r4 ?_
     refine⟨psC ts9 c9,⟨?_,?_⟩,?_⟩
     . exact Kr
     . exact Kr
     rw[hres]
     exact⟨_,_,rfl,rfl⟩
   obtain⟨w,ts3,hU,rfl,rfl⟩:=hh
   (try dsimp only at hU)
   rw[hU] at hres
   (try rw[Rs.bind_ok] at hres)
   refine Kv r4 ?_
   have hq4:=L2 hq3 _ _ hU
   refine⟨psC (ts3) c,_,⟨?_,?_⟩,(kR (c:=c) λu=>r9 ts3 u [59] hq4.1).mono ?_⟩
   . exact Kr
   . exact Kr
   intro o O2 ho
   have hh:=d8 ho
   clear ho
   obtain hh|hh:=hh
   . obtain⟨a,e,ts9,c9,hU,rfl,rfl⟩:=hh
     (try dsimp only at hU)
     rw[hU] at hres
     (try rw[Rs.bind_er] at hres)
     refine Kv r4 ?_
     refine⟨psC ts9 c9,⟨?_,?_⟩,?_⟩
     . exact Kr
     . exact Kr
     rw[hres]
     exact⟨_,_,rfl,rfl⟩
   obtain⟨x1,ts4,hU,rfl,rfl⟩:=hh
   (try dsimp only at hU)
   rw[hU] at hres
   (try rw[Rs.bind_ok] at hres)
   refine Kv r4 ?_
   have hq5:=n9 hq4 _ _ hU
   refine j9 tok (cf:=r4) (by kernel_rfl) [.p 0, .p 1, .p 2, .p 3, .p 4, .p 5, .p 6, .p 7, .s 8 [5,7,4,6,3,2,1], .p 9, .p 10, .p 11, .s 12 [11,0,10,9]] (by kernel_rfl) ?_
   refine Kv r4 ?_
   refine⟨by simp,?_⟩
   refine Kv r4 ?_
   refine⟨λh1 h2=>?_,?_⟩
   . simp only[List.length_map,List.length_cons,List.length_nil]
     omega
   refine Kv r4 ?_
   refine⟨⟨(j,{c with mats:=c.mats++[⟨w,3⟩]},ts4),?_,⟨by dsimp only;omega,hq5,hres,by dsimp only;simp only[List.length_append,List.length_cons,List.length_nil];omega⟩,by dsimp only;omega⟩⟩
   repeat'(first|exact True.intro|exact rfl|refine And.intro ?_ ?_|(exact(by simp only[List.map_append,List.map_cons,List.map_nil])))
 . refine ⟨psC (ts2) c,_,⟨?_,?_⟩,(kC (c:=c) λu=>j0 ts2 u [115,116,97,114,116] he g1).mono ?_⟩
   . exact Kr
   . exact Kr
   rintro _ O2 ⟨rfl,rfl⟩
   refine Kv r4 ?_
   refine⟨psC (ts2) c,_,⟨?_,?_⟩,(kC (c:=c) λu=>j0 ts2 u [112,97,115,115] he g2).mono ?_⟩
   . exact Kr
   . exact Kr
   rintro _ O2 ⟨rfl,rfl⟩
   refine Kv r4 ?_
   refine⟨psC (ts2) c,_,⟨?_,?_⟩,(kC (c:=c) λu=>j0 ts2 u [101,110,100] he g3).mono ?_⟩
   . exact Kr
   . exact Kr
   rintro _ O2 ⟨rfl,rfl⟩
   refine Kv r4 ?_
   rw[hm] at heq
   dsimp only at heq
   have hres:=heq
   simp only[Rs.bind_assoc,Rs.bind_ok] at hres
   refine⟨psC (ts2) c,_,⟨?_,?_⟩,(kR (c:=c) λu=>r9 ts2 u [125] he).mono ?_⟩
   . exact Kr
   . exact Kr
   intro o O2 ho
   have hh:=d8 ho
   clear ho
   obtain hh|hh:=hh
   . obtain⟨a,e,ts9,c9,hU,rfl,rfl⟩:=hh
     (try dsimp only at hU)
     rw[hU] at hres
     (try rw[Rs.bind_er] at hres)
     refine Kv r4 ?_
     refine⟨psC ts9 c9,⟨?_,?_⟩,?_⟩
     . exact Kr
     . exact Kr
     rw[hres]
     exact⟨_,_,rfl,rfl⟩
   obtain⟨x1,ts3,hU,rfl,rfl⟩:=hh
   (try dsimp only at hU)
   rw[hU] at hres
   (try rw[Rs.bind_ok] at hres)
   refine Kv r4 ?_
   refine⟨psC (ts3) c, .d (.tup []),?_,?_⟩
   rotate_left 1
   . rw[hres]
     exact⟨rfl,rfl⟩
   repeat'(first|exact True.intro|exact rfl|refine And.intro ?_ ?_)
abbrev ptD (l:List Part):D:= .sl (l.map Part.cells)
def a6C (k:Nat):Prop:=∀(d:Nat) (ts:List Tk) (c:Course),d<=16->QT ts->p6 c.ms k d [] ts≠ .out->MeetsR Tryz.prog 119 [.loc 5000 0, .d (iD d)] (psC ts c) λo O'=>RdV ptD (λ_=>c) (p6 c.ms k d [] ts) o O'
abbrev j8:Cfg:={rs:=[11,15,18,22,28,31,33,35,39,43,47]}
theorem b9U (k:Nat)(hk:k<=1000000000)(hb:∀j,j<=k->a6C j):a6C (k+1):=by
 intro d ts c hd hq hn
 obtain⟨res,hres⟩:∃res,res=p6 c.ms (k+1) d [] ts:=⟨_,rfl⟩
 rw[<-hres] at hn⊢
 refine k8 tok j8 Tryz.func119 rfl (by kernel_rfl) Tryz.ntmps119 (by simp) λB0 W0 V0 lent g0=>?_
 refine Kv j8 ?_
 refine j7 tok j8 [(.inl 4,4,143,3)] (X:=Nat×List Part×List Tk) (λs=>[(4, .own 4)]) (λs=>(4, .sl ⟨143,3,s.2.1.map Part.cells,true⟩)::psC s.2.2 c) [] (λs=>s.1<=k+1/\QT s.2.2/\res=p6 c.ms s.1 d s.2.1 s.2.2/\s.2.1.length+s.1<=k+1) (λs=>s.1) (k+1,[],ts) ?_
 refine Kv j8 ?_
 refine⟨by simp,?_⟩
 refine Kv j8 ?_
 refine And.intro ?_ ⟨⟨Nat.le_refl _,hq,hres,by simp⟩,λs hΦ=>?_⟩
 . exact Kr
 clear hres hq
 obtain⟨j,l,ts2⟩:=s
 obtain⟨hj,hq2,hres,hlen⟩:=hΦ
 dsimp only at hj hq2 hres hlen
 cases j with
 |zero=>rw[p6] at hres;exact absurd hres hn
 |succ j=>
 rw[p6] at hres
 have he:=hq2.1
 have hi:=λu=>a3F ts2 u hq2
 have h1:=Bool.eq_false_or_eq_true (isW [108,97,112,115] ts2)
 have h2:=Bool.eq_false_or_eq_true (G3 ts2)
 refine Kv j8 ?_
 repeat'((first|(intro hlq;try simp only[SL] at hlq)|refine K9 ?_|refine K8 ?_)<;>refine Kv j8 ?_)
 by_cases hl:l.length=0
 . have hl2:l.isEmpty=true:=by cases l with|nil=>rfl|cons _ _=>simp at hl
   refine⟨λh=>?_,λh=>absurd (of_decide_eq_false h) (by rw[List.length_map,hl];decide)⟩
   refine Kv j8 ?_
   obtain h1|h1:=h1
   . rw [if_pos (by rw[h1,Bool.or_true,Bool.true_or]),if_pos h1] at hres
     refine⟨psC (ts2) c,_,⟨?_,?_⟩,(kC (c:=c) λu=>X5 ts2 u [108,97,112,115] he h1).mono ?_⟩
     . exact Kr
     . exact Kr
     rintro _ O2 ⟨rfl,rfl⟩
     refine Kv j8 ?_
     refine⟨λh=>absurd h (by decide),λ_=>?_⟩
     refine Kv j8 ?_
     have hdd:=Nat.lt_or_ge d 16
     obtain hdd|hdd:=hdd
     rotate_left 1
     . rw[if_pos hdd] at hres
       refine⟨psC (ts2) c,_,⟨?_,?_⟩,(kP (c:=c) λu=>a3v ts2 u d he hdd).mono ?_⟩
       . exact Kr
       . exact Kr
       rintro _ O2 ⟨rfl,rfl⟩
       refine Kv j8 ?_
       refine⟨psC (ts2) c,⟨?_,?_⟩,?_⟩
       . exact Kr
       . exact Kr
       rw[hres]
       exact⟨_,_,rfl,rfl⟩
     rw[if_neg (by omega)] at hres
     have hq3:=hq2.isW h1
     refine⟨psC (ts2) c,_,⟨?_,?_⟩,(kC (c:=c) λu=>a3w ts2 u d he hdd).mono ?_⟩
     . exact Kr
     . exact Kr
     rintro _ O2 ⟨rfl,rfl⟩
     refine Kv j8 ?_
     refine⟨psC (ts2) c,_,⟨?_,?_⟩,(kC (c:=c) λu=>S7 ts2 u he).mono ?_⟩
     . exact Kr
     . exact Kr
     rintro _ O2 ⟨rfl,rfl⟩
     refine Kv j8 ?_
     refine⟨psC (ts2.tail) c,_,⟨?_,?_⟩,(kR (c:=c) λu=>A2 ts2.tail u hq3).mono ?_⟩
     . exact Kr
     . exact Kr
     intro o O2 ho
     have hh:=d8 ho
     clear ho
     obtain hh|hh:=hh
     . obtain⟨a,e,ts9,c9,hU,rfl,rfl⟩:=hh
       (try dsimp only at hU)
       rw[hU] at hres
       (try rw[Rs.bind_er] at hres)
       refine Kv j8 ?_
       refine⟨psC ts9 c9,⟨?_,?_⟩,?_⟩
       . exact Kr
       . exact Kr
       rw[hres]
       exact⟨_,_,rfl,rfl⟩
     obtain⟨n,ts3,hU,rfl,rfl⟩:=hh
     (try dsimp only at hU)
     rw[hU] at hres
     (try rw[Rs.bind_ok] at hres)
     refine Kv j8 ?_
     have hq4:=A1 hq3 _ _ hU
     refine⟨psC (ts3) c,_,⟨?_,?_⟩,(kR (c:=c) λu=>r9 ts3 u [123] hq4.1).mono ?_⟩
     . exact Kr
     . exact Kr
     intro o O2 ho
     have hh:=d8 ho
     clear ho
     obtain hh|hh:=hh
     . obtain⟨a,e,ts9,c9,hU,rfl,rfl⟩:=hh
       (try dsimp only at hU)
       rw[hU] at hres
       (try rw[Rs.bind_er] at hres)
       refine Kv j8 ?_
       refine⟨psC ts9 c9,⟨?_,?_⟩,?_⟩
       . exact Kr
       . exact Kr
       rw[hres]
       exact⟨_,_,rfl,rfl⟩
     obtain⟨x1,ts4,hU,rfl,rfl⟩:=hh
     (try dsimp only at hU)
     rw[hU] at hres
     (try rw[Rs.bind_ok] at hres)
     refine Kv j8 ?_
     have hq5:=n9 hq4 _ _ hU
     have hn2:p6 c.ms j (d+1) [] ts4≠ .out:=J8 (by rw[<-hres];exact hn)
     repeat'((first|(intro hlq;try simp only[SL] at hlq)|refine K9 ?_|refine K8 ?_)<;>refine Kv j8 ?_)
     refine⟨psC (ts4) c,_,⟨?_,?_⟩,(hb j (by omega) (d+1) ts4 c (by omega) hq5 hn2).mono ?_⟩
     . exact Kr
     . exact Kr
     intro o O2 ho
     have hh:=d8 ho
     clear ho
     obtain hh|hh:=hh
     . obtain⟨a,e,ts9,c9,hU,rfl,rfl⟩:=hh
       (try dsimp only at hU)
       rw[hU] at hres
       (try rw[Rs.bind_er] at hres)
       refine Kv j8 ?_
       refine⟨psC ts9 c9,⟨?_,?_⟩,?_⟩
       . exact Kr
       . exact Kr
       rw[hres]
       exact⟨_,_,rfl,rfl⟩
     obtain⟨x,ts5,hU,rfl,rfl⟩:=hh
     (try dsimp only at hU)
     rw[hU] at hres
     (try rw[Rs.bind_ok] at hres)
     refine Kv j8 ?_
     have hq6:=a3X _ _ _ _ hq5 _ _ hU
     refine⟨psC (ts5) c,_,⟨?_,?_⟩,(kR (c:=c) λu=>r9 ts5 u [125] hq6.1).mono ?_⟩
     . exact Kr
     . exact Kr
     intro o O2 ho
     have hh:=d8 ho
     clear ho
     obtain hh|hh:=hh
     . obtain⟨a,e,ts9,c9,hU,rfl,rfl⟩:=hh
       (try dsimp only at hU)
       rw[hU] at hres
       (try rw[Rs.bind_er] at hres)
       refine Kv j8 ?_
       refine⟨psC ts9 c9,⟨?_,?_⟩,?_⟩
       . exact Kr
       . exact Kr
       rw[hres]
       exact⟨_,_,rfl,rfl⟩
     obtain⟨x2,ts6,hU,rfl,rfl⟩:=hh
     (try dsimp only at hU)
     rw[hU] at hres
     (try rw[Rs.bind_ok] at hres)
     refine Kv j8 ?_
     have hq7:=n9 hq6 _ _ hU
     refine⟨by simp,?_⟩
     refine Kv j8 ?_
     refine⟨λh1 h2=>?_,?_⟩
     . simp only[List.length_map,List.length_cons,List.length_nil]
       omega
     refine Kv j8 ?_
     refine⟨⟨(j,l++[⟨0,n,x⟩],ts6),?_,⟨by dsimp only;omega,hq7,hres,by dsimp only;simp only[List.length_append,List.length_cons,List.length_nil];omega⟩,by dsimp only;omega⟩⟩
     repeat'(first|exact True.intro|exact rfl|refine And.intro ?_ ?_|(exact(by simp only[List.map_append,List.map_cons,List.map_nil,Part.cells_eq];try rfl)))
   . rw [if_pos (by rw[hl2,Bool.true_or,Bool.true_or]),if_neg (by rw[h1];decide)] at hres
     refine⟨psC (ts2) c,_,⟨?_,?_⟩,(kC (c:=c) λu=>J7 ts2 u [108,97,112,115] he h1).mono ?_⟩
     . exact Kr
     . exact Kr
     rintro _ O2 ⟨rfl,rfl⟩
     refine Kv j8 ?_
     refine⟨λ_=>?_,λh=>absurd h (by decide)⟩
     refine Kv j8 ?_
     refine⟨psC (ts2) c,_,⟨?_,?_⟩,(a2A ts2 c hq2).mono ?_⟩
     . exact Kr
     . exact Kr
     intro o O2 ho
     have hh:=d8 ho
     clear ho
     obtain hh|hh:=hh
     . obtain⟨a,e,ts9,c9,hU,rfl,rfl⟩:=hh
       (try dsimp only at hU)
       rw[hU] at hres
       (try rw[Rs.bind_er] at hres)
       refine Kv j8 ?_
       refine⟨psC ts9 c9,⟨?_,?_⟩,?_⟩
       . exact Kr
       . exact Kr
       rw[hres]
       exact⟨_,_,rfl,rfl⟩
     obtain⟨m,ts3,hU,rfl,rfl⟩:=hh
     (try dsimp only at hU)
     rw[hU] at hres
     (try rw[Rs.bind_ok] at hres)
     refine Kv j8 ?_
     have hq4:=I6 hq2 _ _ hU
     refine⟨by simp,?_⟩
     refine Kv j8 ?_
     refine⟨λh1 h2=>?_,?_⟩
     . simp only[List.length_map,List.length_cons,List.length_nil]
       omega
     refine Kv j8 ?_
     refine⟨psC (ts3) c,_,⟨?_,?_⟩,(kR (c:=c) λu=>r9 ts3 u [59] hq4.1).mono ?_⟩
     . exact Kr
     . exact Kr
     intro o O2 ho
     have hh:=d8 ho
     clear ho
     obtain hh|hh:=hh
     . obtain⟨a,e,ts9,c9,hU,rfl,rfl⟩:=hh
       (try dsimp only at hU)
       rw[hU] at hres
       (try rw[Rs.bind_er] at hres)
       refine Kv j8 ?_
       refine⟨psC ts9 c9,⟨?_,?_⟩,?_⟩
       . exact Kr
       . exact Kr
       rw[hres]
       exact⟨_,_,rfl,rfl⟩
     obtain⟨x2,ts6,hU,rfl,rfl⟩:=hh
     (try dsimp only at hU)
     rw[hU] at hres
     (try rw[Rs.bind_ok] at hres)
     refine Kv j8 ?_
     have hq7:=n9 hq4 _ _ hU
     refine⟨⟨(j,l++[⟨m,0,[]⟩],ts6),?_,⟨by dsimp only;omega,hq7,hres,by dsimp only;simp only[List.length_append,List.length_cons,List.length_nil];omega⟩,by dsimp only;omega⟩⟩
     repeat'(first|exact True.intro|exact rfl|refine And.intro ?_ ?_|(exact(by simp only[List.map_append,List.map_cons,List.map_nil,Part.cells_eq];try rfl)))
 . have hl2:l.isEmpty=false:=by cases l with|nil=>simp at hl|cons _ _=>rfl
   refine⟨λh=>absurd (of_decide_eq_true h) (λe=>hl (by have e:((l.map Part.cells).length:Int)=0:=e;rw[List.length_map] at e;omega)),λh=>?_⟩
   refine Kv j8 ?_
   obtain h1|h1:=h1
   . refine ⟨psC (ts2) c,_,⟨?_,?_⟩,(kC (c:=c) λu=>X5 ts2 u [108,97,112,115] he h1).mono ?_⟩
     . exact Kr
     . exact Kr
     rintro _ O2 ⟨rfl,rfl⟩
     refine Kv j8 ?_
     rw[if_pos (by rw[h1,Bool.or_true,Bool.true_or]),if_pos h1] at hres
     refine⟨psC (ts2) c,_,⟨?_,?_⟩,(kC (c:=c) λu=>X5 ts2 u [108,97,112,115] he h1).mono ?_⟩
     . exact Kr
     . exact Kr
     rintro _ O2 ⟨rfl,rfl⟩
     refine Kv j8 ?_
     refine⟨λh=>absurd h (by decide),λ_=>?_⟩
     refine Kv j8 ?_
     have hdd:=Nat.lt_or_ge d 16
     obtain hdd|hdd:=hdd
     rotate_left 1
     . rw[if_pos hdd] at hres
       refine⟨psC (ts2) c,_,⟨?_,?_⟩,(kP (c:=c) λu=>a3v ts2 u d he hdd).mono ?_⟩
       . exact Kr
       . exact Kr
       rintro _ O2 ⟨rfl,rfl⟩
       refine Kv j8 ?_
       refine⟨psC (ts2) c,⟨?_,?_⟩,?_⟩
       . exact Kr
       . exact Kr
       rw[hres]
       exact⟨_,_,rfl,rfl⟩
     rw[if_neg (by omega)] at hres
     have hq3:=hq2.isW h1
     refine⟨psC (ts2) c,_,⟨?_,?_⟩,(kC (c:=c) λu=>a3w ts2 u d he hdd).mono ?_⟩
     . exact Kr
     . exact Kr
     rintro _ O2 ⟨rfl,rfl⟩
     refine Kv j8 ?_
     refine⟨psC (ts2) c,_,⟨?_,?_⟩,(kC (c:=c) λu=>S7 ts2 u he).mono ?_⟩
     . exact Kr
     . exact Kr
     rintro _ O2 ⟨rfl,rfl⟩
     refine Kv j8 ?_
     refine⟨psC (ts2.tail) c,_,⟨?_,?_⟩,(kR (c:=c) λu=>A2 ts2.tail u hq3).mono ?_⟩
     . exact Kr
     . exact Kr
     intro o O2 ho
     have hh:=d8 ho
     clear ho
     obtain hh|hh:=hh
     . obtain⟨a,e,ts9,c9,hU,rfl,rfl⟩:=hh
       (try dsimp only at hU)
       rw[hU] at hres
       (try rw[Rs.bind_er] at hres)
       refine Kv j8 ?_
       refine⟨psC ts9 c9,⟨?_,?_⟩,?_⟩
       . exact Kr
       . exact Kr
       rw[hres]
       exact⟨_,_,rfl,rfl⟩
     obtain⟨n,ts3,hU,rfl,rfl⟩:=hh
     (try dsimp only at hU)
     rw[hU] at hres
     (try rw[Rs.bind_ok] at hres)
     refine Kv j8 ?_
     have hq4:=A1 hq3 _ _ hU
     refine⟨psC (ts3) c,_,⟨?_,?_⟩,(kR (c:=c) λu=>r9 ts3 u [123] hq4.1).mono ?_⟩
     . exact Kr
     . exact Kr
     intro o O2 ho
     have hh:=d8 ho
     clear ho
     obtain hh|hh:=hh
     . obtain⟨a,e,ts9,c9,hU,rfl,rfl⟩:=hh
       (try dsimp only at hU)
       rw[hU] at hres
       (try rw[Rs.bind_er] at hres)
       refine Kv j8 ?_
       refine⟨psC ts9 c9,⟨?_,?_⟩,?_⟩
       . exact Kr
       . exact Kr
       rw[hres]
       exact⟨_,_,rfl,rfl⟩
     obtain⟨x1,ts4,hU,rfl,rfl⟩:=hh
     (try dsimp only at hU)
     rw[hU] at hres
     (try rw[Rs.bind_ok] at hres)
     refine Kv j8 ?_
     have hq5:=n9 hq4 _ _ hU
     have hn2:p6 c.ms j (d+1) [] ts4≠ .out:=J8 (by rw[<-hres];exact hn)
     repeat'((first|(intro hlq;try simp only[SL] at hlq)|refine K9 ?_|refine K8 ?_)<;>refine Kv j8 ?_)
     refine⟨psC (ts4) c,_,⟨?_,?_⟩,(hb j (by omega) (d+1) ts4 c (by omega) hq5 hn2).mono ?_⟩
     . exact Kr
     . exact Kr
     intro o O2 ho
     have hh:=d8 ho
     clear ho
     obtain hh|hh:=hh
     . obtain⟨a,e,ts9,c9,hU,rfl,rfl⟩:=hh
       (try dsimp only at hU)
       rw[hU] at hres
       (try rw[Rs.bind_er] at hres)
       refine Kv j8 ?_
       refine⟨psC ts9 c9,⟨?_,?_⟩,?_⟩
       . exact Kr
       . exact Kr
       rw[hres]
       exact⟨_,_,rfl,rfl⟩
     obtain⟨x,ts5,hU,rfl,rfl⟩:=hh
     (try dsimp only at hU)
     rw[hU] at hres
     (try rw[Rs.bind_ok] at hres)
     refine Kv j8 ?_
     have hq6:=a3X _ _ _ _ hq5 _ _ hU
     refine⟨psC (ts5) c,_,⟨?_,?_⟩,(kR (c:=c) λu=>r9 ts5 u [125] hq6.1).mono ?_⟩
     . exact Kr
     . exact Kr
     intro o O2 ho
     have hh:=d8 ho
     clear ho
     obtain hh|hh:=hh
     . obtain⟨a,e,ts9,c9,hU,rfl,rfl⟩:=hh
       (try dsimp only at hU)
       rw[hU] at hres
       (try rw[Rs.bind_er] at hres)
       refine Kv j8 ?_
       refine⟨psC ts9 c9,⟨?_,?_⟩,?_⟩
       . exact Kr
       . exact Kr
       rw[hres]
       exact⟨_,_,rfl,rfl⟩
     obtain⟨x2,ts6,hU,rfl,rfl⟩:=hh
     (try dsimp only at hU)
     rw[hU] at hres
     (try rw[Rs.bind_ok] at hres)
     refine Kv j8 ?_
     have hq7:=n9 hq6 _ _ hU
     refine⟨by simp,?_⟩
     refine Kv j8 ?_
     refine⟨λh1 h2=>?_,?_⟩
     . simp only[List.length_map,List.length_cons,List.length_nil]
       omega
     refine Kv j8 ?_
     refine⟨⟨(j,l++[⟨0,n,x⟩],ts6),?_,⟨by dsimp only;omega,hq7,hres,by dsimp only;simp only[List.length_append,List.length_cons,List.length_nil];omega⟩,by dsimp only;omega⟩⟩
     repeat'(first|exact True.intro|exact rfl|refine And.intro ?_ ?_|(exact(by simp only[List.map_append,List.map_cons,List.map_nil,Part.cells_eq];try rfl)))
   . refine ⟨psC (ts2) c,_,⟨?_,?_⟩,(kC (c:=c) λu=>J7 ts2 u [108,97,112,115] he h1).mono ?_⟩
     . exact Kr
     . exact Kr
     rintro _ O2 ⟨rfl,rfl⟩
     refine Kv j8 ?_
     obtain h2|h2:=h2
     . rw [h2] at hi
       refine⟨psC (ts2) c,_,⟨?_,?_⟩,(kC (c:=c) λu=>hi u).mono ?_⟩
       . exact Kr
       . exact Kr
       rintro _ O2 ⟨rfl,rfl⟩
       refine Kv j8 ?_
       rw[if_pos (by rw[h2,Bool.or_true]),if_neg (by rw[h1];decide)] at hres
       refine⟨psC (ts2) c,_,⟨?_,?_⟩,(kC (c:=c) λu=>J7 ts2 u [108,97,112,115] he h1).mono ?_⟩
       . exact Kr
       . exact Kr
       rintro _ O2 ⟨rfl,rfl⟩
       refine Kv j8 ?_
       refine⟨λ_=>?_,λh=>absurd h (by decide)⟩
       refine Kv j8 ?_
       refine⟨psC (ts2) c,_,⟨?_,?_⟩,(a2A ts2 c hq2).mono ?_⟩
       . exact Kr
       . exact Kr
       intro o O2 ho
       have hh:=d8 ho
       clear ho
       obtain hh|hh:=hh
       . obtain⟨a,e,ts9,c9,hU,rfl,rfl⟩:=hh
         (try dsimp only at hU)
         rw[hU] at hres
         (try rw[Rs.bind_er] at hres)
         refine Kv j8 ?_
         refine⟨psC ts9 c9,⟨?_,?_⟩,?_⟩
         . exact Kr
         . exact Kr
         rw[hres]
         exact⟨_,_,rfl,rfl⟩
       obtain⟨m,ts3,hU,rfl,rfl⟩:=hh
       (try dsimp only at hU)
       rw[hU] at hres
       (try rw[Rs.bind_ok] at hres)
       refine Kv j8 ?_
       have hq4:=I6 hq2 _ _ hU
       refine⟨by simp,?_⟩
       refine Kv j8 ?_
       refine⟨λh1 h2=>?_,?_⟩
       . simp only[List.length_map,List.length_cons,List.length_nil]
         omega
       refine Kv j8 ?_
       refine⟨psC (ts3) c,_,⟨?_,?_⟩,(kR (c:=c) λu=>r9 ts3 u [59] hq4.1).mono ?_⟩
       . exact Kr
       . exact Kr
       intro o O2 ho
       have hh:=d8 ho
       clear ho
       obtain hh|hh:=hh
       . obtain⟨a,e,ts9,c9,hU,rfl,rfl⟩:=hh
         (try dsimp only at hU)
         rw[hU] at hres
         (try rw[Rs.bind_er] at hres)
         refine Kv j8 ?_
         refine⟨psC ts9 c9,⟨?_,?_⟩,?_⟩
         . exact Kr
         . exact Kr
         rw[hres]
         exact⟨_,_,rfl,rfl⟩
       obtain⟨x2,ts6,hU,rfl,rfl⟩:=hh
       (try dsimp only at hU)
       rw[hU] at hres
       (try rw[Rs.bind_ok] at hres)
       refine Kv j8 ?_
       have hq7:=n9 hq4 _ _ hU
       refine⟨⟨(j,l++[⟨m,0,[]⟩],ts6),?_,⟨by dsimp only;omega,hq7,hres,by dsimp only;simp only[List.length_append,List.length_cons,List.length_nil];omega⟩,by dsimp only;omega⟩⟩
       repeat'(first|exact True.intro|exact rfl|refine And.intro ?_ ?_|(exact(by simp only[List.map_append,List.map_cons,List.map_nil,Part.cells_eq];try rfl)))
     . rw [h2] at hi
       rw[if_neg (by rw[hl2,h1,h2];decide)] at hres
       refine⟨psC (ts2) c,_,⟨?_,?_⟩,(kC (c:=c) λu=>hi u).mono ?_⟩
       . exact Kr
       . exact Kr
       rintro _ O2 ⟨rfl,rfl⟩
       refine Kv j8 ?_
       refine⟨psC (ts2) c, .d (ptD l),?_,?_⟩
       rotate_left 1
       . rw[hres]
         exact⟨rfl,rfl⟩
       repeat'(first|exact True.intro|exact rfl|refine And.intro ?_ ?_)
theorem b2l:∀k:Nat,k<=1000000000->∀j,j<=k->a6C j
 | 0,_,j,hj=>by
   obtain rfl:j=0:=by omega
   exact λd ts c _ _ h=>absurd (by rw[p6]) h
 | k +1,hk,j,hj=>by
   have ih:=b2l k (by omega)
   by_cases e:j=k+1
   . subst e
     exact b9U k (by omega) ih
   . exact ih j (by omega)
end Go.Proofs.YtaopegkpjhkooaaGreatDoor.Dx
