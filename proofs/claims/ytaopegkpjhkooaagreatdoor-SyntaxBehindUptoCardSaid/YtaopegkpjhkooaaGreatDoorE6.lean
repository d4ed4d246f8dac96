/- Chapter 06: names; the example of a course that ends too early. -/
import Derived.Test.YtaopegkpjhkooaaGreatDoorE5
set_option linter.all false
namespace Go.Proofs.YtaopegkpjhkooaaGreatDoor.Dx
open Go Go.RowKit
set_option maxRecDepth 100000
set_option maxHeartbeats 16000000
def A2 (ts : List Tk) : Bool:=decide ((hdT ts).kind = 1) && !kw (hdT ts).text
def y7 (ts : List Tk) : Rs (List UInt8):=if A2 ts then .ok (hdT ts).text ts.tail else n6 60 ts
theorem a1w (ts : List Tk) (u : Nat -> Value) (hq : QT ts) : MeetsR Tryz.prog 116 [.loc 5000 0] (psO ts u) λ o O'=>o = .ret (.d (.bl (A2 ts))) /\ O' = psO ts u:=by
 refine MeetsR.bl ?_
 have hc:=hq.1.cons
 obtain ⟨t,r,rfl⟩:=hc
 exact b5j t r u (hq.2 t (by simp)).1
abbrev K7 : Cfg:={rs:=[4,7,9]}
theorem O8 (ts : List Tk) (u : Nat -> Value) (hq : QT ts) : MeetsR Tryz.prog 71 [.loc 5000 0] (psO ts u) λ o O'=>RdO D.str (y7 ts) u o O':=by
 obtain ⟨res,hres⟩ : ∃ res,res = y7 ts:=⟨_,rfl⟩
 rw [<- hres]
 unfold y7 at hres
 have hi:=a1w ts u hq
 cases h : A2 ts with
 | true =>
   rw [h] at hi hres
   rw [if_pos rfl] at hres
   refine i6 tok K7 Tryz.func71 rfl (by kernel_rfl) Tryz.ntmps71 (by simp) λ B0 W0 V0 lent g0=>?_
   ((conv=>whnf);repeat'(refine Y K7 rfl ?_;conv=>whnf))
   refine ⟨psO ts u,_,⟨?_,?_⟩,(hi).mono ?_⟩
   . exact Kr
   . exact Kr
   rintro _ O2 ⟨rfl,rfl⟩
   ((conv=>whnf);repeat'(refine Y K7 rfl ?_;conv=>whnf))
   refine ⟨λ h=>absurd h (by decide),λ _=>?_⟩
   ((conv=>whnf);repeat'(refine Y K7 rfl ?_;conv=>whnf))
   refine ⟨psO ts u,_,⟨?_,?_⟩,(J7 ts u hq.1).mono ?_⟩
   . exact Kr
   . exact Kr
   rintro _ O2 ⟨rfl,rfl⟩
   ((conv=>whnf);repeat'(refine Y K7 rfl ?_;conv=>whnf))
   refine ⟨psO ts.tail u,.d (.str (hdT ts).text),?_,?_⟩
   rotate_left 1
   . rw [hres]
     exact ⟨rfl,rfl⟩
   repeat' (first | exact True.intro | exact rfl | refine And.intro ?_ ?_)
 | false =>
   rw [h] at hi hres
   rw [if_neg (by decide)] at hres
   refine i6 tok K7 Tryz.func71 rfl (by kernel_rfl) Tryz.ntmps71 (by simp) λ B0 W0 V0 lent g0=>?_
   ((conv=>whnf);repeat'(refine Y K7 rfl ?_;conv=>whnf))
   refine ⟨psO ts u,_,⟨?_,?_⟩,(hi).mono ?_⟩
   . exact Kr
   . exact Kr
   rintro _ O2 ⟨rfl,rfl⟩
   ((conv=>whnf);repeat'(refine Y K7 rfl ?_;conv=>whnf))
   refine ⟨λ _=>?_,λ h=>absurd h (by decide)⟩
   ((conv=>whnf);repeat'(refine Y K7 rfl ?_;conv=>whnf))
   refine ⟨psO ts u,_,⟨?_,?_⟩,(B2 ts u 60 hq.1).mono ?_⟩
   . exact Kr
   . exact Kr
   rintro _ O2 ⟨rfl,rfl⟩
   ((conv=>whnf);repeat'(refine Y K7 rfl ?_;conv=>whnf))
   refine ⟨psO ts u,⟨?_,?_⟩,?_⟩
   . exact Kr
   . exact Kr
   rw [hres]
   exact ⟨_,rfl,rfl⟩
def exT : List Tk:=[⟨1,[99,111,117,114,115,101],0⟩,⟨1,[97],7⟩,⟨5,[123],9⟩,⟨6,[],10⟩]
theorem exT_eq : toks [99,111,117,114,115,101,32,97,32,123] 0 = exT /\ bads [99,111,117,114,115,101,32,97,32,123] 0 (-1) 0 = []:=by constructor <;> decide +kernel
theorem b6p (ts : List Tk) (u : Nat -> Value) (he : EndsT ts) {a : Nat} {e : Int} (h : y8 [[109,97,116,115],[123]] ts = .er a e) : MeetsR Tryz.prog 72 [.loc 5000 0] (psO ts u) λ o O'=>RdO (λ _ : Unit=>.tup []) (.er a e) u o O':=by
 have hm:=a5w [[109,97,116,115],[123]] ts u he
 rw [h] at hm
 obtain ⟨res,hres⟩ : ∃ res,res = (Rs.er a e : Rs Unit):=⟨_,rfl⟩
 rw [<- hres]
 refine i6 tok {rs:=[5]} Tryz.func72 rfl (by kernel_rfl) Tryz.ntmps72 (by simp) λ B0 W0 V0 lent g0=>?_
 ((conv=>whnf);repeat'(refine Y {rs:=[5]} rfl ?_;conv=>whnf))
 refine ⟨psO ts u,_,⟨?_,?_⟩,hm.mono ?_⟩
 . exact Kr
 . exact Kr
 rintro o O2 ⟨ts9,rfl,rfl⟩
 ((conv=>whnf);repeat'(refine Y {rs:=[5]} rfl ?_;conv=>whnf))
 refine ⟨psO ts9 u,⟨?_,?_⟩,?_⟩
 . exact Kr
 . exact Kr
 rw [hres]
 exact ⟨_,rfl,rfl⟩
theorem b4v : QT exT:=by
 have:=a3L [99,111,117,114,115,101,32,97,32,123] (by decide)
 rw [exT_eq.1] at this
 exact this
abbrev T8 : List Base:=[.d (.str [97]),.d (.sl []),.d (.sl []),.d (.sl []),.d (.sl []),.d (.sl []),.d (.sl []),.d (.sl []),.d (.sl []),.d (iD 0),.d (iD 0),.d (iD 0),.d (iD 0),.d (iD 0),.d (iD 0),.d (iD 0)]
abbrev a0c : Cfg:={rs:=[8,11,17,19]}
theorem course_ex : MeetsR Tryz.prog 41 [.loc 5000 0] (pcO exT w3 []) λ o O'=>o = .pan (.iface 130 (.agg [iD 10,iD 60])) /\ ∃ ts,O' = pcO ts T8 []:=by
 have hq:=b4v
 have hq1 : QT exT.tail:=hq.isW (w:=[99,111,117,114,115,101]) rfl
 have hq2 : QT exT.tail.tail:=hq1.tail (by decide)
 have hq3 : QT exT.tail.tail.tail:=hq2.isW (w:=[123]) rfl
 have h1:=X1 (cs:=w3) (X:=[]) rfl λ u=>m7 exT u [99,111,117,114,115,101] hq.1
 have h2:=X1 (cs:=w3) (X:=[]) rfl λ u=>O8 exT.tail u hq1
 rw [show f9 [99,111,117,114,115,101] exT = .ok () exT.tail from rfl] at h1
 rw [show y7 exT.tail = .ok [97] exT.tail.tail from by rw [y7,if_pos (by decide +kernel)]; rfl] at h2
 refine i6 tok a0c Tryz.func41 rfl (by kernel_rfl) Tryz.ntmps41 (by simp) λ B0 W0 V0 lent g0=>?_
 ((conv=>whnf);repeat'(refine Y a0c rfl ?_;conv=>whnf))
 refine ⟨pcO exT w3 [],_,⟨?_,?_⟩,h1.mono ?_⟩
 . exact Kr
 . exact Kr
 rintro _ O2 ⟨rfl,rfl⟩
 ((conv=>whnf);repeat'(refine Y a0c rfl ?_;conv=>whnf))
 refine ⟨pcO exT.tail w3 [],_,⟨?_,?_⟩,h2.mono ?_⟩
 . exact Kr
 . exact Kr
 rintro _ O2 ⟨rfl,rfl⟩
 ((conv=>whnf);repeat'(refine Y a0c rfl ?_;conv=>whnf))
 have h3:=X1 (cs:=T8) (X:=[]) rfl λ u=>m7 exT.tail.tail u [123] hq2.1
 rw [show f9 [123] exT.tail.tail = .ok () exT.tail.tail.tail from rfl] at h3
 have h4:=X1 (cs:=T8) (X:=[]) rfl λ u=>b6p exT.tail.tail.tail u hq3.1 (a:=10) (e:=60) rfl
 refine ⟨pcO exT.tail.tail T8 [],_,⟨?_,?_⟩,h3.mono ?_⟩
 . exact Kr
 . exact Kr
 rintro _ O2 ⟨rfl,rfl⟩
 ((conv=>whnf);repeat'(refine Y a0c rfl ?_;conv=>whnf))
 refine ⟨pcO exT.tail.tail.tail T8 [],_,⟨?_,?_⟩,h4.mono ?_⟩
 . exact Kr
 . exact Kr
 rintro _ O2 ⟨ts9,rfl,rfl⟩
 ((conv=>whnf);repeat'(refine Y a0c rfl ?_;conv=>whnf))
 refine ⟨pcO ts9 T8 [],⟨?_,?_⟩,rfl,ts9,rfl⟩
 . exact Kr
 . exact Kr
end Go.Proofs.YtaopegkpjhkooaaGreatDoor.Dx
/- Chapter 06: the closure that recovers,for courses; the example. -/
namespace Go.Proofs.YtaopegkpjhkooaaGreatDoor.Dx
open Go Go.RowKit
set_option maxRecDepth 100000
set_option maxHeartbeats 16000000
abbrev a0d : Cfg:={nm:=[(4,54),(6,56)]}
theorem b3l (b0 b1 b2 b3 b4 b7 b8 b9 c0 c1 c2 c3 c4 c5 c6 c7 b5 b6 : D) (at_ e : Int) : MeetsD Tryz.prog 70 [.loc 4 0,.loc 5 0,.loc 6 0] [(4,.box [.d b0,.d b1,.d b2,.d b3,.d b4,.d b7,.d b8,.d b9,.d c0,.d c1,.d c2,.d c3,.d c4,.d c5,.d c6,.d c7] 55),(5,.box [.d b5] 3),(6,.box [.d b6] 32)] (some (.iface 130 (.agg [iD at_,iD e])))
 λ O'=>O' = [(4,.box w3 55),(5,.box [.d (iD at_)] 3),(6,.box [.d (iD e)] 32)]:=by
 refine V8 tok a0d Tryz.func70 rfl (by kernel_rfl) Tryz.ntmps70 (by simp) (by decide) (by decide) λ B0 W0 V0 lent g0=>?_
 ((conv=>whnf);repeat'(refine Y a0d rfl ?_;conv=>whnf))
 refine ⟨λ h=>absurd h (by decide),λ _=>?_⟩
 ((conv=>whnf);repeat'(refine Y a0d rfl ?_;conv=>whnf))
 refine k9 tok (cf:=a0d) (by kernel_rfl) [.p 0,.p 1,.p 2,.p 3,.p 4,.s 5 [0],.s 6 [2,1],.s 7 [4,3]] (by kernel_rfl) ?_
 ((conv=>whnf);repeat'(refine Y a0d rfl ?_;conv=>whnf))
 repeat' ((first | (intro hlq; (try simp only [SL] at hlq)) | refine Ks ?_ | refine Kq ?_ | refine Kt ?_ | ((refine Kh (λ hb=>?_) λ hb=>?_) <;> (try simp only [BL] at hb)) | refine Ka ?_ | refine Kb ?_ | refine Kc (hd:=rfl) (e:=?_) | refine Kc (hd:=d7 _) (e:=?_) | refine Kd (e:=?_) | refine Kl rfl ?_ | fail) <;> ((conv=>whnf);repeat'(refine Y a0d rfl ?_;conv=>whnf)))
 refine ⟨_,.d (.tup []),?_,⟨⟨_,rfl⟩,rfl⟩⟩
 repeat' (first | exact True.intro | exact rfl | refine And.intro ?_ ?_ | (exact U2 _ _))
def zCourse : Course:=⟨[],[],[],[],[],[],[],[],[],⟨0,0,0,0,0⟩,0,0⟩
theorem course40_ex : MeetsR Tryz.prog 40 [.loc 5000 0] (pcO exT w3 []) λ o O'=>o = .pan (.iface 130 (.agg [iD 10,iD 60])) /\ ∃ ts,O' = pcO ts T8 []:=by
 refine i6 tok {rs:=[4]} Tryz.func40 rfl (by kernel_rfl) Tryz.ntmps40 (by simp) λ B0 W0 V0 lent g0=>?_
 ((conv=>whnf);repeat'(refine Y {rs:=[4]} rfl ?_;conv=>whnf))
 refine ⟨pcO exT w3 [],_,⟨?_,?_⟩,course_ex.mono ?_⟩
 . exact Kr
 . exact Kr
 rintro _ O2 ⟨rfl,ts,rfl⟩
 ((conv=>whnf);repeat'(refine Y {rs:=[4]} rfl ?_;conv=>whnf))
 refine ⟨pcO ts T8 [],⟨?_,?_⟩,rfl,ts,rfl⟩
 . exact Kr
 . exact Kr
abbrev C0 : Cfg:={nm:=[(31,5000)],rs:=[34,36,40]}
theorem b7b (hT : s8) : Meets Tryz.prog 39 [.sl (d9 [99,111,117,114,115,101,32,97,32,123]),.fn 40 [] []] λ d=>d = .tup [zCourse.d,iD 10,iD 60]:=by
 have htk:=R2 hT [99,111,117,114,115,101,32,97,32,123] (by decide)
 rw [a0M,exT_eq.1,exT_eq.2] at htk
 refine a2M tok C0 Tryz.func39 rfl (by kernel_rfl) Tryz.ntmps39 (by simp) 4 rfl (by decide) λ B0 W0 V0 lent g0=>?_
 refine C4 tok C0 ?_
 ((conv=>whnf);repeat'(refine Y C0 rfl ?_;conv=>whnf))
 refine C4 tok C0 ?_
 ((conv=>whnf);repeat'(refine Y C0 rfl ?_;conv=>whnf))
 refine Meets.k htk ?_
 ((conv=>whnf);repeat'(refine Y C0 rfl ?_;conv=>whnf))
 refine C4 tok C0 ?_
 ((conv=>whnf);repeat'(refine Y C0 rfl ?_;conv=>whnf))
 refine ⟨λ h=>absurd h (by decide),λ _=>?_⟩
 ((conv=>whnf);repeat'(refine Y C0 rfl ?_;conv=>whnf))
 refine C4 tok C0 ?_
 ((conv=>whnf);repeat'(refine Y C0 rfl ?_;conv=>whnf))
 repeat' ((first | (intro hlq; (try simp only [SL] at hlq)) | refine Ks ?_ | refine Kq ?_ | refine Kt ?_ | refine Ka ?_ | refine Kb ?_ | refine Kc (hd:=rfl) (e:=?_) | refine Kc (hd:=d7 _) (e:=?_) | refine Kd (e:=?_) | refine Kl rfl ?_ | fail) <;> ((conv=>whnf);repeat'(refine Y C0 rfl ?_;conv=>whnf)))
 refine ⟨λ h0=>?_,λ h0=>?_⟩ <;> (try simp only [BL] at h0) <;> ((conv=>whnf);repeat'(refine Y C0 rfl ?_;conv=>whnf))
 . exact absurd h0 (by decide)
 . refine a2j ?_
   conv=>whnf
   intro B0 W0 V0 lent g0 m0 dfr
   refine Y C0 rfl ?_
   ((conv=>whnf);repeat'(refine Y C0 rfl ?_;conv=>whnf))
   refine ⟨pcO exT w3 [],_,⟨?_,?_⟩,course40_ex.mono ?_⟩
   . exact Kr
   . exact Kr
   rintro _ O2 ⟨rfl,ts,rfl⟩
   ((conv=>whnf);repeat'(refine Y C0 rfl ?_;conv=>whnf))
   refine ⟨[(4,.box w3 55),(5,.box [.d (iD 0)] 3),(6,.box [.d (iD 0)] 32)],⟨?_,rfl⟩,(b3l _ _ _ _ _ _ _ _ _ _ _ _ _ _ _ _ _ _ _ _).mono ?_⟩
   . exact Kr
   rintro _ rfl
   ((conv=>whnf);repeat'(refine Y C0 rfl ?_;conv=>whnf))
   exact ⟨rfl⟩
theorem b1Y (hT : s8) : Meets Tryz.prog 21 [.sl (d9 [99,111,117,114,115,101,32,97,32,123])] λ d=>d = .tup [zCourse.d,iD 10,iD 60]:=by
 have hp:=b7b hT
 refine enter tok {} Tryz.func21 rfl (by kernel_rfl) Tryz.ntmps21 (by simp) λ B0 W0 V0 lent g0=>?_
 ((conv=>whnf);repeat'(refine Z rfl ?_;conv=>whnf))
 refine Meets.k hp ?_
 ((conv=>whnf);repeat'(refine Z rfl ?_;conv=>whnf))
 exact ⟨rfl⟩
end Go.Proofs.YtaopegkpjhkooaaGreatDoor.Dx
