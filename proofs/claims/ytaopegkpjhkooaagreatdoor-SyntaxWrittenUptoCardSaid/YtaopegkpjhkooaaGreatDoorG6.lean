/- Chapter 06: names; the example of a course that ends too early. -/
import Derived.Test.YtaopegkpjhkooaaGreatDoorG5
set_option linter.all false
namespace Go.Proofs.YtaopegkpjhkooaaGreatDoor.Dx
open Go Go.RowKit
set_option maxRecDepth 100000
set_option maxHeartbeats 16000000
def G3 (ts:List Tk):Bool:=decide ((hdT ts).kind=1)&& !kw (hdT ts).text
def D1 (ts:List Tk):Rs (List UInt8):=if G3 ts then .ok (hdT ts).text ts.tail else B5 60 ts
theorem a3F (ts:List Tk)(u:Nat->Value)(hq:QT ts):MeetsR Tryz.prog 116 [.loc 5000 0] (psO ts u) λo O'=>o= .ret (.d (.bl (G3 ts)))/\O'=psO ts u:=by
 refine MeetsR.bl ?_
 have hc:=hq.1.cons
 obtain⟨t,r,rfl⟩:=hc
 exact b7W t r u (hq.2 t (by simp)).1
abbrev T6:Cfg:={rs:=[4,7,9]}
theorem Z3 (ts:List Tk)(u:Nat->Value)(hq:QT ts):MeetsR Tryz.prog 71 [.loc 5000 0] (psO ts u) λo O'=>RdO D.str (D1 ts) u o O':=by
 obtain⟨res,hres⟩:∃res,res=D1 ts:=⟨_,rfl⟩
 rw[<-hres]
 unfold D1 at hres
 have hi:=a3F ts u hq
 cases h:G3 ts with
 | true=>
   rw[h] at hi hres
   rw[if_pos rfl] at hres
   refine k8 tok T6 Tryz.func71 rfl (by kernel_rfl) Tryz.ntmps71 (by simp) λB0 W0 V0 lent g0=>?_
   refine Kv T6 ?_
   refine⟨psO ts u,_,⟨?_,?_⟩,(hi).mono ?_⟩
   . exact Kr
   . exact Kr
   rintro _ O2 ⟨rfl,rfl⟩
   refine Kv T6 ?_
   refine⟨λh=>absurd h (by decide),λ_=>?_⟩
   refine Kv T6 ?_
   refine⟨psO ts u,_,⟨?_,?_⟩,(S7 ts u hq.1).mono ?_⟩
   . exact Kr
   . exact Kr
   rintro _ O2 ⟨rfl,rfl⟩
   refine Kv T6 ?_
   refine⟨psO ts.tail u, .d (.str (hdT ts).text),?_,?_⟩
   rotate_left 1
   . rw[hres]
     exact⟨rfl,rfl⟩
   repeat'(first|exact True.intro|exact rfl|refine And.intro ?_ ?_)
 | false=>
   rw[h] at hi hres
   rw[if_neg (by decide)] at hres
   refine k8 tok T6 Tryz.func71 rfl (by kernel_rfl) Tryz.ntmps71 (by simp) λB0 W0 V0 lent g0=>?_
   refine Kv T6 ?_
   refine⟨psO ts u,_,⟨?_,?_⟩,(hi).mono ?_⟩
   . exact Kr
   . exact Kr
   rintro _ O2 ⟨rfl,rfl⟩
   refine Kv T6 ?_
   refine⟨λ_=>?_,λh=>absurd h (by decide)⟩
   refine Kv T6 ?_
   refine⟨psO ts u,_,⟨?_,?_⟩,(F5 ts u 60 hq.1).mono ?_⟩
   . exact Kr
   . exact Kr
   rintro _ O2 ⟨rfl,rfl⟩
   refine Kv T6 ?_
   refine⟨psO ts u,⟨?_,?_⟩,?_⟩
   . exact Kr
   . exact Kr
   rw[hres]
   exact⟨_,rfl,rfl⟩
def exT:List Tk:=[⟨1,[99,111,117,114,115,101],0⟩,⟨1,[97],7⟩,⟨5,[123],9⟩,⟨6,[],10⟩]
theorem exT_eq:toks [99,111,117,114,115,101,32,97,32,123] 0=exT/\bads [99,111,117,114,115,101,32,97,32,123] 0 (-1) 0=[]:=by constructor<;>decide+kernel
theorem b8Z (ts:List Tk)(u:Nat->Value)(he:EndsT ts){a:Nat}{e:Int}(h:E0 [[109,97,116,115],[123]] ts= .er a e):MeetsR Tryz.prog 72 [.loc 5000 0] (psO ts u) λo O'=>RdO (λ_:Unit=> .tup []) (.er a e) u o O':=by
 have hm:=a7M [[109,97,116,115],[123]] ts u he
 rw[h] at hm
 obtain⟨res,hres⟩:∃res,res=(Rs.er a e:Rs Unit):=⟨_,rfl⟩
 rw[<-hres]
 refine k8 tok {rs:=[5]} Tryz.func72 rfl (by kernel_rfl) Tryz.ntmps72 (by simp) λB0 W0 V0 lent g0=>?_
 refine Kv {rs:=[5]} ?_
 refine⟨psO ts u,_,⟨?_,?_⟩,hm.mono ?_⟩
 . exact Kr
 . exact Kr
 rintro o O2 ⟨ts9,rfl,rfl⟩
 refine Kv {rs:=[5]} ?_
 refine⟨psO ts9 u,⟨?_,?_⟩,?_⟩
 . exact Kr
 . exact Kr
 rw[hres]
 exact⟨_,rfl,rfl⟩
theorem b7d:QT exT:=by
 have:=a6k [99,111,117,114,115,101,32,97,32,123] (by decide)
 rw[exT_eq.1] at this
 exact this
abbrev a0O:List Base:=[.d (.str [97]), .d (.sl []), .d (.sl []), .d (.sl []), .d (.sl []), .d (.sl []), .d (.sl []), .d (.sl []), .d (.sl []), .d (iD 0), .d (iD 0), .d (iD 0), .d (iD 0), .d (iD 0), .d (iD 0), .d (iD 0)]
abbrev a2a:Cfg:={rs:=[8,11,17,19]}
theorem course_ex:MeetsR Tryz.prog 41 [.loc 5000 0] (pcO exT C8 []) λo O'=>o= .pan (.iface 130 (.agg [iD 10,iD 60]))/\∃ts,O'=pcO ts a0O []:=by
 have hq:=b7d
 have hq1:QT exT.tail:=hq.isW (w:=[99,111,117,114,115,101]) rfl
 have hq2:QT exT.tail.tail:=hq1.tail (by decide)
 have hq3:QT exT.tail.tail.tail:=hq2.isW (w:=[123]) rfl
 have h1:=a1p (cs:=C8) (X:=[]) rfl λu=>r9 exT u [99,111,117,114,115,101] hq.1
 have h2:=a1p (cs:=C8) (X:=[]) rfl λu=>Z3 exT.tail u hq1
 rw[show d7 [99,111,117,114,115,101] exT= .ok () exT.tail from rfl] at h1
 rw[show D1 exT.tail= .ok [97] exT.tail.tail from by rw[D1,if_pos (by decide+kernel)];rfl] at h2
 refine k8 tok a2a Tryz.func41 rfl (by kernel_rfl) Tryz.ntmps41 (by simp) λB0 W0 V0 lent g0=>?_
 refine Kv a2a ?_
 refine⟨pcO exT C8 [],_,⟨?_,?_⟩,h1.mono ?_⟩
 . exact Kr
 . exact Kr
 rintro _ O2 ⟨rfl,rfl⟩
 refine Kv a2a ?_
 refine⟨pcO exT.tail C8 [],_,⟨?_,?_⟩,h2.mono ?_⟩
 . exact Kr
 . exact Kr
 rintro _ O2 ⟨rfl,rfl⟩
 refine Kv a2a ?_
 have h3:=a1p (cs:=a0O) (X:=[]) rfl λu=>r9 exT.tail.tail u [123] hq2.1
 rw[show d7 [123] exT.tail.tail= .ok () exT.tail.tail.tail from rfl] at h3
 have h4:=a1p (cs:=a0O) (X:=[]) rfl λu=>b8Z exT.tail.tail.tail u hq3.1 (a:=10) (e:=60) rfl
 refine⟨pcO exT.tail.tail a0O [],_,⟨?_,?_⟩,h3.mono ?_⟩
 . exact Kr
 . exact Kr
 rintro _ O2 ⟨rfl,rfl⟩
 refine Kv a2a ?_
 refine⟨pcO exT.tail.tail.tail a0O [],_,⟨?_,?_⟩,h4.mono ?_⟩
 . exact Kr
 . exact Kr
 rintro _ O2 ⟨ts9,rfl,rfl⟩
 refine Kv a2a ?_
 refine⟨pcO ts9 a0O [],⟨?_,?_⟩,rfl,ts9,rfl⟩
 . exact Kr
 . exact Kr
end Go.Proofs.YtaopegkpjhkooaaGreatDoor.Dx
/- Chapter 06: the closure that recovers,for courses; the example. -/
namespace Go.Proofs.YtaopegkpjhkooaaGreatDoor.Dx
open Go Go.RowKit
set_option maxRecDepth 100000
set_option maxHeartbeats 16000000
abbrev a2b:Cfg:={nm:=[(4,54),(6,56)]}
theorem b5K (b0 b1 b2 b3 b4 b7 b8 b9 c0 c1 c2 c3 c4 c5 c6 c7 b5 b6:D)(at_ e:Int):MeetsD Tryz.prog 70 [.loc 4 0, .loc 5 0, .loc 6 0] [(4, .box [.d b0, .d b1, .d b2, .d b3, .d b4, .d b7, .d b8, .d b9, .d c0, .d c1, .d c2, .d c3, .d c4, .d c5, .d c6, .d c7] 55),(5, .box [.d b5] 3),(6, .box [.d b6] 32)] (some (.iface 130 (.agg [iD at_,iD e])))
 λO'=>O'=[(4, .box C8 55),(5, .box [.d (iD at_)] 3),(6, .box [.d (iD e)] 32)]:=by
 refine a1i tok a2b Tryz.func70 rfl (by kernel_rfl) Tryz.ntmps70 (by simp) (by decide) (by decide) λB0 W0 V0 lent g0=>?_
 refine Kv a2b ?_
 refine⟨λh=>absurd h (by decide),λ_=>?_⟩
 refine Kv a2b ?_
 refine j9 tok (cf:=a2b) (by kernel_rfl) [.p 0, .p 1, .p 2, .p 3, .p 4, .s 5 [0], .s 6 [2,1], .s 7 [4,3]] (by kernel_rfl) ?_
 refine Kv a2b ?_
 repeat'((first|(intro hlq;try simp only[SL] at hlq)|refine K9 ?_|((refine Kh (λhb=>?_) λhb=>?_)<;>try simp only[BL] at hb)|refine K8 ?_)<;>refine Kv a2b ?_)
 refine⟨_, .d (.tup []),?_,⟨⟨_,rfl⟩,rfl⟩⟩
 repeat'(first|exact True.intro|exact rfl|refine And.intro ?_ ?_|(exact a0U _ _))
def zCourse:Course:=⟨[],[],[],[],[],[],[],[],[],⟨0,0,0,0,0⟩,0,0⟩
theorem course40_ex:MeetsR Tryz.prog 40 [.loc 5000 0] (pcO exT C8 []) λo O'=>o= .pan (.iface 130 (.agg [iD 10,iD 60]))/\∃ts,O'=pcO ts a0O []:=by
 refine k8 tok {rs:=[4]} Tryz.func40 rfl (by kernel_rfl) Tryz.ntmps40 (by simp) λB0 W0 V0 lent g0=>?_
 refine Kv {rs:=[4]} ?_
 refine⟨pcO exT C8 [],_,⟨?_,?_⟩,course_ex.mono ?_⟩
 . exact Kr
 . exact Kr
 rintro _ O2 ⟨rfl,ts,rfl⟩
 refine Kv {rs:=[4]} ?_
 refine⟨pcO ts a0O [],⟨?_,?_⟩,rfl,ts,rfl⟩
 . exact Kr
 . exact Kr
abbrev G1:Cfg:={nm:=[(31,5000)],rs:=[34,36,40]}
theorem b9S (hT:C2):Meets Tryz.prog 39 [.sl (o8 [99,111,117,114,115,101,32,97,32,123]), .fn 40 [] []] λd=>d= .tup [zCourse.d,iD 10,iD 60]:=by
 have htk:=a4R hT [99,111,117,114,115,101,32,97,32,123] (by decide)
 rw[a8F,exT_eq.1,exT_eq.2] at htk
 refine a5k tok G1 Tryz.func39 rfl (by kernel_rfl) Tryz.ntmps39 (by simp) 4 rfl (by decide) λB0 W0 V0 lent g0=>?_
 refine G8 tok G1 ?_
 refine Kv G1 ?_
 refine G8 tok G1 ?_
 refine Kv G1 ?_
 refine Meets.k htk ?_
 refine Kv G1 ?_
 refine G8 tok G1 ?_
 refine Kv G1 ?_
 refine⟨λh=>absurd h (by decide),λ_=>?_⟩
 refine Kv G1 ?_
 refine G8 tok G1 ?_
 refine Kv G1 ?_
 repeat'((first|(intro hlq;try simp only[SL] at hlq)|refine K9 ?_|refine K8 ?_)<;>refine Kv G1 ?_)
 refine⟨λh0=>?_,λh0=>?_⟩<;>(try simp only[BL] at h0)<;>refine Kv G1 ?_
 . exact absurd h0 (by decide)
 . refine a4E ?_
   conv=>whnf
   intro B0 W0 V0 lent g0 m0 dfr
   refine Y G1 rfl ?_
   refine Kv G1 ?_
   refine⟨pcO exT C8 [],_,⟨?_,?_⟩,course40_ex.mono ?_⟩
   . exact Kr
   . exact Kr
   rintro _ O2 ⟨rfl,ts,rfl⟩
   refine Kv G1 ?_
   refine⟨[(4, .box C8 55),(5, .box [.d (iD 0)] 3),(6, .box [.d (iD 0)] 32)],⟨?_,rfl⟩,(b5K _ _ _ _ _ _ _ _ _ _ _ _ _ _ _ _ _ _ _ _).mono ?_⟩
   . exact Kr
   rintro _ rfl
   refine Kv G1 ?_
   exact⟨rfl⟩
theorem b4f (hT:C2):Meets Tryz.prog 21 [.sl (o8 [99,111,117,114,115,101,32,97,32,123])] λd=>d= .tup [zCourse.d,iD 10,iD 60]:=by
 have hp:=b9S hT
 refine enter tok {} Tryz.func21 rfl (by kernel_rfl) Tryz.ntmps21 (by simp) λB0 W0 V0 lent g0=>?_
 refine Kw ?_
 refine Meets.k hp ?_
 refine Kw ?_
 exact⟨rfl⟩
end Go.Proofs.YtaopegkpjhkooaaGreatDoor.Dx
