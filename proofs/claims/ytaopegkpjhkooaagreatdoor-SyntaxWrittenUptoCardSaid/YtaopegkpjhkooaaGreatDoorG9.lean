/- The executor over data,part AB: zero slices that stand raw in a box's cells; function values that have captured a box's address,as data. -/
import Derived.Test.YtaopegkpjhkooaaGreatDoorFx
import Derived.LoopNIn
import Derived.Test.YtaopegkpjhkooaaGreatDoorG6
set_option linter.all false
namespace Go.Proofs.YtaopegkpjhkooaaGreatDoor.Dx
open Go Go.RowKit
section
variable {P:Program} {C:Cx} {st:SSt} {c:Code} {Q:y8}
theorem b4F (n:Nat){cells cells':List Base}{ty:TypeId}(hn:c8 n st.O=some (.box cells ty))(hl:cells'.length=cells.length)
 (hw:∀(γ:Gm) (V:Know) (i:Nat) b b' x,cells[i]?=some b->cells'[i]?=some b'->RVb γ V b x->RVb γ V b' x)
 (h:D4 n (.box cells' ty) st.O λO'=>J P C c Q {st with O:=O'}):J P C c Q st:=by
 refine⟨λγ V a W hr=>?_⟩
 obtain⟨O',h,hO⟩:=V6 h
 refine h.run γ V a W (Q9 hr hr.slots λm x hx=>?_)
 rcases hO m x hx with⟨rfl,rfl,_⟩|⟨_,hl'⟩
 . refine⟨?_,_,hn⟩
   obtain⟨blk,cs,hg,hh,hcells,h1,hnone⟩:=hr.own m _ hn
   refine⟨blk,cs,hg,hh,⟨by rw[hl,hcells.len],λi b x hb hx=>?_⟩,h1,hnone⟩
   have hi:i<cells.length:=by rw[<-hl];exact(List.getElem?_eq_some_iff.1 hb).1
   exact hw γ V i _ b x (List.getElem?_eq_getElem hi) hb (hcells.get i _ x (List.getElem?_eq_getElem hi) hx)
 . exact⟨hr.own m x hl',x,hl'⟩
def NilOk (b b':Base):Prop:=b'=b\/(b= .d (.raw (.slice none 0 0))/\(b'= .full []\/b'= .d (.sl [])))
def NilOks:List Base->List Base->Prop
 |[],[]=>True
 |b::r,b'::r'=>NilOk b b'/\NilOks r r'
 |_,_=>False
theorem NilOk.run {b b':Base}(h:NilOk b b'){γ:Gm}{V:Know}{x:Value}(hx:RVb γ V b x):RVb γ V b' x:=by
 rcases h with rfl|⟨rfl,rfl|rfl⟩
 . exact hx
 . cases hx;exact⟨.nil,none,0,rfl⟩
 . cases hx;exact .nil
theorem NilOks.get:∀{l l':List Base},NilOks l l'->l'.length=l.length/\∀(i:Nat) b b',l[i]?=some b->l'[i]?=some b'->NilOk b b'
 |[],[],_=>⟨rfl,λi b b' h=>by simp at h⟩
 |[],_::_,h=>h.elim
 |_::_,[],h=>h.elim
 | b::r,b'::r',h=>by
   obtain⟨h1,h2⟩:=NilOks.get h.2
   refine⟨by simp[h1],λi x y hx hy=>?_⟩
   cases i with
   |zero=>simp at hx hy;subst hx hy;exact h.1
   |succ i=>exact h2 i x y (by simpa using hx) (by simpa using hy)
theorem a9t (n:Nat){cells:List Base}(cells':List Base){ty:TypeId}(hn:c8 n st.O=some (.box cells ty))(hk:NilOks cells cells')
 (h:D4 n (.box cells' ty) st.O λO'=>J P C c Q {st with O:=O'}):J P C c Q st:=
 b4F n hn hk.get.1 (λ_ _ i _ _ _ hb hb' hx=>(hk.get.2 i _ _ hb hb').run hx) h
theorem b4D (p n:Nat)(hc:z8 p st=true)(hpn:p≠n)
 (h:∀g:Nat->Value×Option Nat,J P C c Q {st with O:=(p, .pn g [n])::st.O}):J P C c Q st:=by
 refine⟨λγ V a W hr=>?_⟩
 have hq:o4 p [n]=false:=by
  simp only[o4]
  cases e:Nat.beq n p with
  |false=>rfl
  |true=>exact absurd (Nat.eq_of_beq_eq_true e).symm hpn
 exact(h γ).run _ V a W (a1z (b:= .pn γ [n]) (v:=(.bool false,none)) hr hc hq ⟨rfl,λ_ _=>rfl⟩ (by simp) (by simp))
structure JR (P:Program) (C:Cx) (c:Code) (Q:y8) (m:Nat) (st:SSt):Prop where
 run:∀γ V a W,Rel C γ st V a W->Code.roundsIn (fen C) 0 P c (LiftQ C Q) m a W
end
end Go.Proofs.YtaopegkpjhkooaaGreatDoor.Dx
/- Chapter 06: the parser of courses as plain functions over tokens. -/
namespace Go.Proofs.YtaopegkpjhkooaaGreatDoor.Dx
open Go Go.RowKit
set_option maxRecDepth 100000
def B3 (t:Tk):Option Int:=if t.kind=3 then match B9 t.text with|some v=>if 0<=v then some v else none|none=>none else none
def C1 (ts:List Tk):Rs Int:=match B3 (hdT ts) with|some v=> .ok v ts.tail|none=>B5 60 ts
def y7 (l:List (List UInt8))(ts:List Tk):Rs Int:=if G3 ts then match l.findIdx? (λx=>decide (x=(hdT ts).text)) with|some i=> .ok (i:Int) ts.tail|none=>B5 70 ts else B5 60 ts
def p6 (ms:List (List UInt8)):Nat->Nat->List Part->List Tk->Rs (List Part)
 |0,_,_,_=> .out
 | k +1,d,l,ts=>
   if l.isEmpty||isW [108,97,112,115] ts||G3 ts then
    if isW [108,97,112,115] ts then
     if 16<=d then B5 2 ts
     else(o7 ts.tail).bind λn ts=>(d7 [123] ts).bind λ_ ts=>(p6 ms k (d+1) [] ts).bind λx ts=>(d7 [125] ts).bind λ_ ts=>p6 ms k d (l++[⟨0,n,x⟩]) ts
    else(y7 ms ts).bind λm ts=>(d7 [59] ts).bind λ_ ts=>p6 ms k d (l++[⟨m,0,[]⟩]) ts
   else .ok l ts
def Y9 (ms:List (List UInt8))(ts:List Tk):Rs Leg:=
 (y7 ms ts).bind λa ts=>(d7 [116,111] ts).bind λ_ ts=>(y7 ms ts).bind λb ts=>(C1 ts).bind λlo ts=>(d7 [46,46] ts).bind λ_ ts=>(C1 ts).bind λhi ts=>(d7 [59] ts).bind λ_ ts=> .ok ⟨a,b,lo,hi⟩ ts
def a1G (ts:List Tk):Option Int:=if(hdT ts).kind=1 then if(hdT ts).text=[103,117,110] then some 1 else if(hdT ts).text=[99,104,105,112] then some 2 else if(hdT ts).text=[115,108,111,116] then some 3 else none else none
def a1H (ts:List Tk):Rs Int:=match a1G ts with|some v=> .ok v ts.tail|none=>B5 60 ts
def C4 (ms:List (List UInt8)):Nat->List Cutoff->List Tk->Rs (List Cutoff)
 |0,_,_=> .out
 | k +1,l,ts=>if isW [99,117,116,111,102,102] ts then
     (y7 ms ts.tail).bind λm ts=>(d7 [108,97,112] ts).bind λ_ ts=>(o7 ts).bind λn ts=>(C1 ts).bind λt ts=>(d7 [59] ts).bind λ_ ts=>C4 ms k (l++[⟨m,n,t⟩]) ts
   else .ok l ts
def U2 (ms:List (List UInt8))(ts:List Tk):Rs Int:=if isW [101,120,116,114,97] ts then(y7 ms ts.tail).bind λm ts=>(d7 [59] ts).bind λ_ ts=> .ok m ts else .ok (-1) ts
def K2 (ms:List (List UInt8))(k:Nat)(ts:List Tk):Rs Distance:=
 (D1 ts).bind λw ts=>(a1H ts).bind λg ts=>(d7 [123] ts).bind λ_ ts=>(p6 ms k 0 [] ts).bind λr ts=>(C4 ms k [] ts).bind λcs ts=>(U2 ms ts).bind λx ts=>(d7 [125] ts).bind λ_ ts=> .ok ⟨w,r,g,cs,x⟩ ts
def a0f (ts:List Tk):Rs Wave:=(D1 ts).bind λw ts=>(C1 ts).bind λt ts=>(d7 [59] ts).bind λ_ ts=> .ok ⟨w,t⟩ ts
def Q6 (w:List UInt8)(ts:List Tk):Rs Offence:=match B3 (hdT ts) with
 |some t=> .ok ⟨w,t,0,false⟩ ts.tail
 |none=>if isW [108,97,112,115] ts then(o7 ts.tail).bind λn ts=> .ok ⟨w,0,n,false⟩ ts else(d7 [111,117,116] ts).bind λ_ ts=> .ok ⟨w,0,0,true⟩ ts
def Z7 (ts:List Tk):Rs Offence:=(D1 ts).bind λw ts=>(Q6 w ts).bind λx ts=>(d7 [59] ts).bind λ_ ts=> .ok x ts
def X7 (ts:List Tk):Rs Category:=(D1 ts).bind λw ts=>(o7 ts).bind λa ts=>(d7 [116,111] ts).bind λ_ ts=>(o7 ts).bind λb ts=>(d7 [59] ts).bind λ_ ts=> .ok ⟨w,a,b⟩ ts
def X0 (cs:List (List UInt8))(ts:List Tk):Rs Int:=if isW [97,108,108] ts then .ok (-1) ts.tail else y7 cs ts
def Z9 (ds cs:List (List UInt8))(ts:List Tk):Rs Prize:=
 (y7 ds ts).bind λd ts=>(X0 cs ts).bind λc ts=>(o7 ts).bind λa ts=>(o7 ts).bind λb ts=>(d7 [59] ts).bind λ_ ts=> .ok ⟨d,c,a,b⟩ ts
def L1 (ts:List Tk):Option Int:=if isW [115,116,97,114,116] ts then some 1 else if isW [112,97,115,115] ts then some 2 else if isW [101,110,100] ts then some 3 else none
def A9:Nat->List Mat->List Tk->Rs (List Mat)
 |0,_,_=> .out
 | k+1,l,ts=>match L1 ts with
   |some g=>(D1 ts.tail).bind λw ts=>(d7 [59] ts).bind λ_ ts=>A9 k (l++[⟨w,g⟩]) ts
   |none=>(d7 [125] ts).bind λ_ ts=> .ok l ts
def secW:List (List UInt8):=[[108,101,103],[100,105,115,116,97,110,99,101],[119,97,118,101],[111,102,102,101,110,99,101],[99,97,116,101,103,111,114,121],[112,114,105,122,101]]
abbrev Course.ms (c:Course):List (List UInt8):=c.mats.map (·.name)
def G6 (k:Nat):Nat->Course->List Tk->Rs Course
 |0,c,ts=>(Y9 c.ms ts).bind λx ts=> .ok {c with legs:=c.legs++[x]} ts
 |1,c,ts=>(K2 c.ms k ts).bind λx ts=> .ok {c with distances:=c.distances++[x]} ts
 |2,c,ts=>(a0f ts).bind λx ts=> .ok {c with waves:=c.waves++[x]} ts
 |3,c,ts=>(Z7 ts).bind λx ts=> .ok {c with offences:=c.offences++[x]} ts
 |4,c,ts=>(X7 ts).bind λx ts=> .ok {c with categories:=c.categories++[x]} ts
 |_,c,ts=>(Z9 (c.distances.map (·.name)) (c.categories.map (·.name)) ts).bind λx ts=> .ok {c with prizes:=c.prizes++[x]} ts
def A3 (i:Nat):Nat->Course->List Tk->Rs Course
 |0,_,_=> .out
 |k+1,c,ts=>if isW (secW.getD i []) ts then(G6 k i c ts.tail).bind λc ts=>A3 i k c ts else .ok c ts
def A4 (k:Nat):Nat->Nat->Course->List Tk->Rs Course
 |0,_,c,ts=> .ok c ts
 |n+1,i,c,ts=>(A3 i k c ts).bind λc ts=>A4 k n (i+1) c ts
def G7 (w:List UInt8)(P:List Tk->Rs Int)(ts:List Tk):Rs Int:=(d7 w ts).bind λ_ ts=>(P ts).bind λn ts=>(d7 [59] ts).bind λ_ ts=> .ok n ts
def S0 (k:Nat)(c:Course)(ts:List Tk):Rs Course:=
 (d7 [116,105,101,115] ts).bind λ_ ts=>(blockP k 0 ts).bind λl ts=>(d7 [102,97,117,108,116,115] ts).bind λ_ ts=>(d7 [123] ts).bind λ_ ts=>
 (G7 [109,105,115,115,101,115] o7 ts).bind λa ts=>(G7 [115,116,114,97,121,115] o7 ts).bind λb ts=>(G7 [119,105,110,100,111,119] C1 ts).bind λw ts=>(G7 [114,101,115,105,100,117,97,108] C1 ts).bind λr ts=>(G7 [100,114,105,102,116] o7 ts).bind λd ts=>
 (d7 [125] ts).bind λ_ ts=>(d7 [112,114,111,116,101,115,116] ts).bind λ_ ts=>(d7 [102,101,101] ts).bind λ_ ts=>(o7 ts).bind λf ts=>(d7 [100,101,97,100,108,105,110,101] ts).bind λ_ ts=>(C1 ts).bind λt ts=>
 (d7 [59] ts).bind λ_ ts=>(d7 [125] ts).bind λ_ ts=> .ok {c with ties:=l,faults:=⟨a,b,w,r,d⟩,fee:=f,deadline:=t} ts
def zC:Course:=⟨[],[],[],[],[],[],[],[],[],⟨0,0,0,0,0⟩,0,0⟩
def D9 (k:Nat)(ts:List Tk):Rs Course:=
 (d7 [99,111,117,114,115,101] ts).bind λ_ ts=>(D1 ts).bind λw ts=>(d7 [123] ts).bind λ_ ts=>(d7 [109,97,116,115] ts).bind λ_ ts=>(d7 [123] ts).bind λ_ ts=>(A9 k [] ts).bind λms ts=>
 (A4 k 6 0 {zC with name:=w,mats:=ms} ts).bind λc ts=>S0 k c ts
def P3 (src:List UInt8):Course×Int×Int:=U8 zC (D9 FU) src
end Go.Proofs.YtaopegkpjhkooaaGreatDoor.Dx
/- Chapter 06: the parser of courses: what is left are tokens that an end closes; more fuel does no harm; enough fuel. -/
namespace Go.Proofs.YtaopegkpjhkooaaGreatDoor.Dx
open Go Go.RowKit
set_option maxRecDepth 100000
theorem b1v {ts:List Tk}(h:G3 ts=true):(hdT ts).kind=1:=by
 unfold G3 at h
 simp only[Bool.and_eq_true,decide_eq_true_eq] at h
 exact h.1
theorem L2 {ts:List Tk}(h:QT ts):(D1 ts).kp:=by
 unfold D1
 split
 . rename_i hw;exact r8 (h.tail (by rw[b1v hw];decide))
 . exact L0
theorem a8D {t:Tk}{v:Int}(h:B3 t=some v):t.kind=3:=by
 unfold B3 at h
 split at h
 . assumption
 . cases h
theorem I1 {ts:List Tk}(h:QT ts):(C1 ts).kp:=by
 unfold C1
 split
 . rename_i hv;exact r8 (h.tail (by rw[a8D hv];decide))
 . exact L0
theorem I6 {l:List (List UInt8)}{ts:List Tk}(h:QT ts):(y7 l ts).kp:=by
 unfold y7
 split
 . rename_i hw
   split
   . exact r8 (h.tail (by rw[b1v hw];decide))
   . exact L0
 . exact L0
theorem c2Z {ts:List Tk}{v:Int}(h:a1G ts=some v):(hdT ts).kind=1:=by
 unfold a1G at h
 split at h
 . assumption
 . cases h
theorem c3b {ts:List Tk}(h:QT ts):(a1H ts).kp:=by
 unfold a1H
 split
 . rename_i hv;exact r8 (h.tail (by rw[c2Z hv];decide))
 . exact L0
theorem a3X {ms:List (List UInt8)}:∀(k d:Nat) (l:List Part) (ts:List Tk),QT ts->(p6 ms k d l ts).kp
 |0,d,l,ts,h=>by rw[p6];exact Q1
 | k + 1,d,l,ts,h=>by
   have ih:=a3X (ms:=ms) k
   rw[p6]
   split
   . split
     . split
       . exact L0
       . exact d6 (A1 (h.isW (by assumption))) λ_ _ h=>d6 (n9 h) λ_ _ h=>d6 (ih _ _ _ h) λ_ _ h=>d6 (n9 h) λ_ _ h=>ih _ _ _ h
     . exact d6 (I6 h) λ_ _ h=>d6 (n9 h) λ_ _ h=>ih _ _ _ h
   . exact r8 h
theorem b8z {ms:List (List UInt8)}{ts:List Tk}(h:QT ts):(Y9 ms ts).kp:=
 d6 (I6 h) λ_ _ h=>d6 (n9 h) λ_ _ h=>d6 (I6 h) λ_ _ h=>d6 (I1 h) λ_ _ h=>d6 (n9 h) λ_ _ h=>d6 (I1 h) λ_ _ h=>d6 (n9 h) λ_ _ h=>r8 h
theorem b0x {ms:List (List UInt8)}:∀(k:Nat) (l:List Cutoff) (ts:List Tk),QT ts->(C4 ms k l ts).kp
 |0,l,ts,h=>by rw[C4];exact Q1
 | k+1,l,ts,h=>by
   have ih:=b0x (ms:=ms) k
   rw[C4]
   split
   . exact d6 (I6 (h.isW (by assumption))) λ_ _ h=>d6 (n9 h) λ_ _ h=>d6 (A1 h) λ_ _ h=>d6 (I1 h) λ_ _ h=>d6 (n9 h) λ_ _ h=>ih _ _ h
   . exact r8 h
theorem b7i {ms:List (List UInt8)}{ts:List Tk}(h:QT ts):(U2 ms ts).kp:=by
 unfold U2
 split
 . exact d6 (I6 (h.isW (by assumption))) λ_ _ h=>d6 (n9 h) λ_ _ h=>r8 h
 . exact r8 h
theorem b6J {ms:List (List UInt8)}{k:Nat}{ts:List Tk}(h:QT ts):(K2 ms k ts).kp:=
 d6 (L2 h) λ_ _ h=>d6 (c3b h) λ_ _ h=>d6 (n9 h) λ_ _ h=>d6 (a3X _ _ _ _ h) λ_ _ h=>d6 (b0x _ _ _ h) λ_ _ h=>d6 (b7i h) λ_ _ h=>d6 (n9 h) λ_ _ h=>r8 h
theorem c4m {ts:List Tk}(h:QT ts):(a0f ts).kp:=
 d6 (L2 h) λ_ _ h=>d6 (I1 h) λ_ _ h=>d6 (n9 h) λ_ _ h=>r8 h
theorem b9V {w:List UInt8}{ts:List Tk}(h:QT ts):(Q6 w ts).kp:=by
 unfold Q6
 split
 . rename_i hv;exact r8 (h.tail (by rw[a8D hv];decide))
 . split
   . exact d6 (A1 (h.isW (by assumption))) λ_ _ h=>r8 h
   . exact d6 (n9 h) λ_ _ h=>r8 h
theorem b9D {ts:List Tk}(h:QT ts):(Z7 ts).kp:=
 d6 (L2 h) λ_ _ h=>d6 (b9V h) λ_ _ h=>d6 (n9 h) λ_ _ h=>r8 h
theorem b5H {ts:List Tk}(h:QT ts):(X7 ts).kp:=
 d6 (L2 h) λ_ _ h=>d6 (A1 h) λ_ _ h=>d6 (n9 h) λ_ _ h=>d6 (A1 h) λ_ _ h=>d6 (n9 h) λ_ _ h=>r8 h
theorem c4v {cs:List (List UInt8)}{ts:List Tk}(h:QT ts):(X0 cs ts).kp:=by
 unfold X0
 split
 . exact r8 (h.isW (by assumption))
 . exact I6 h
theorem b9Y {ds cs:List (List UInt8)}{ts:List Tk}(h:QT ts):(Z9 ds cs ts).kp:=
 d6 (I6 h) λ_ _ h=>d6 (c4v h) λ_ _ h=>d6 (A1 h) λ_ _ h=>d6 (A1 h) λ_ _ h=>d6 (n9 h) λ_ _ h=>r8 h
theorem a5B {ts:List Tk}{g:Int}(h:QT ts)(hv:L1 ts=some g):QT ts.tail:=by
 unfold L1 at hv
 repeat' split at hv
 all_goals first|exact h.isW (by assumption)|cases hv
theorem a7K:∀(k:Nat) (l:List Mat) (ts:List Tk),QT ts->(A9 k l ts).kp
 |0,l,ts,h=>by rw[A9];exact Q1
 | k+1,l,ts,h=>by
   have ih:=a7K k
   rw[A9]
   split
   . exact d6 (L2 (a5B h (by assumption))) λ_ _ h=>d6 (n9 h) λ_ _ h=>ih _ _ h
   . exact d6 (n9 h) λ_ _ h=>r8 h
theorem b2V {k i:Nat}{c:Course}{ts:List Tk}(h:QT ts):(G6 k i c ts).kp:=by
 unfold G6
 split
 . exact d6 (b8z h) λ_ _ h=>r8 h
 . exact d6 (b6J h) λ_ _ h=>r8 h
 . exact d6 (c4m h) λ_ _ h=>r8 h
 . exact d6 (b9D h) λ_ _ h=>r8 h
 . exact d6 (b5H h) λ_ _ h=>r8 h
 . exact d6 (b9Y h) λ_ _ h=>r8 h
theorem b2W {i:Nat}:∀(k:Nat) (c:Course) (ts:List Tk),QT ts->(A3 i k c ts).kp
 |0,c,ts,h=>by rw[A3];exact Q1
 | k+1,c,ts,h=>by
   rw[A3]
   split
   . exact d6 (b2V (h.isW (by assumption))) λ_ _ h=>b2W k _ _ h
   . exact r8 h
theorem b2Z {k:Nat}:∀(n i:Nat) (c:Course) (ts:List Tk),QT ts->(A4 k n i c ts).kp
 |0,i,c,ts,h=>by rw[A4];exact r8 h
 |n+1,i,c,ts,h=>by rw[A4];exact d6 (b2W _ _ _ h) λ_ _ h=>b2Z n _ _ _ h
theorem V8 {w:List UInt8}{P:List Tk->Rs Int}{ts:List Tk}(hP:∀ts,QT ts->(P ts).kp)(h:QT ts):(G7 w P ts).kp:=
 d6 (n9 h) λ_ _ h=>d6 (hP _ h) λ_ _ h=>d6 (n9 h) λ_ _ h=>r8 h
theorem bm {α β:Type}{r:Rs α}{f f':α->List Tk->Rs β}(hf:∀a ts,f a ts≠ .out->f' a ts=f a ts)(hn:r.bind f≠ .out):r.bind f'=r.bind f:=C6 (λ_=>rfl) hf hn
theorem b2k {ms:List (List UInt8)}:∀(k d:Nat) (l:List Part) (ts:List Tk),p6 ms k d l ts≠ .out->p6 ms (k+1) d l ts=p6 ms k d l ts
 |0,d,l,ts,h=>absurd (by rw[p6]) h
 | k + 1,d,l,ts,h=>by
   have ih:=b2k (ms:=ms) k
   rw[p6] at h
   conv=>lhs;rw[p6]
   conv=>rhs;rw[p6]
   split
   . rename_i q1
     rw[if_pos q1] at h
     split
     . rename_i q2
       rw[if_pos q2] at h
       split
       . rfl
       . rename_i q3
         rw[if_neg q3] at h
         exact bm (λ_ _=>bm (λ_ _=>C6 (ih _ _ _) (λ_ _=>bm (λ_ _=>ih _ _ _)))) h
     . rename_i q2
       rw[if_neg q2] at h
       exact bm (λ_ _=>bm (λ_ _=>ih _ _ _)) h
   . rfl
theorem b0y {ms:List (List UInt8)}:∀(k:Nat) (l:List Cutoff) (ts:List Tk),C4 ms k l ts≠ .out->C4 ms (k+1) l ts=C4 ms k l ts
 |0,l,ts,h=>absurd (by rw[C4]) h
 | k +1,l,ts,h=>by
   have ih:=b0y (ms:=ms) k
   rw[C4] at h
   conv=>lhs;rw[C4]
   conv=>rhs;rw[C4]
   split
   . rename_i q1
     rw[if_pos q1] at h
     exact bm (λ_ _=>bm (λ_ _=>bm (λ_ _=>bm (λ_ _=>bm (λ_ _=>ih _ _))))) h
   . rfl
theorem b6L {ms:List (List UInt8)}{k:Nat}{ts:List Tk}(h:K2 ms k ts≠ .out):K2 ms (k+1) ts=K2 ms k ts:=
 bm (λ_ _=>bm (λ_ _=>bm (λ_ _=>C6 (b2k _ _ _ _) (λ_ _=>C6 (b0y _ _ _) (λ_ _ _=>rfl))))) h
theorem b1P:∀(k:Nat) (l:List Mat) (ts:List Tk),A9 k l ts≠ .out->A9 (k+1) l ts=A9 k l ts
 |0,l,ts,h=>absurd (by rw[A9]) h
 | k +1,l,ts,h=>by
   have ih:=b1P k
   rw[A9] at h
   conv=>lhs;rw[A9]
   conv=>rhs;rw[A9]
   split
   . rename_i g hg
     rw[hg] at h
     exact bm (λ_ _=>bm (λ_ _=>ih _ _)) h
   . rfl
theorem c1k {k i:Nat}{c:Course}{ts:List Tk}(h:G6 k i c ts≠ .out):G6 (k+1) i c ts=G6 k i c ts:=by
 unfold G6 at h⊢
 split
 case h_2=>exact C6 b6L (λ_ _ _=>rfl) h
 all_goals rfl
theorem b2X {i:Nat}:∀(k:Nat) (c:Course) (ts:List Tk),A3 i k c ts≠ .out->A3 i (k+1) c ts=A3 i k c ts
 |0,c,ts,h=>absurd (by rw[A3]) h
 | k +1,c,ts,h=>by
   have ih:=b2X (i:=i) k
   rw[A3] at h
   conv=>lhs;rw[A3]
   conv=>rhs;rw[A3]
   split
   . rename_i q1
     rw[if_pos q1] at h
     exact C6 c1k (λ_ _=>ih _ _) h
   . rfl
theorem b3a {k:Nat}:∀(n i:Nat) (c:Course) (ts:List Tk),A4 k n i c ts≠ .out->A4 (k+1) n i c ts=A4 k n i c ts
 |0,i,c,ts,h=>by rw[A4,A4]
 | n+1,i,c,ts,h=>by
   rw[A4] at h
   conv=>lhs;rw[A4]
   conv=>rhs;rw[A4]
   exact C6 (b2X _ _ _) (λ_ _=>b3a n _ _ _) h
theorem b8t {k:Nat}{c:Course}{ts:List Tk}(h:S0 k c ts≠ .out):S0 (k+1) c ts=S0 k c ts:=
 bm (λ_ _=>C6 ((a8z k).2 _ _) (λ_ _ _=>rfl)) h
theorem b6l {k:Nat}{ts:List Tk}(h:D9 k ts≠ .out):D9 (k+1) ts=D9 k ts:=
 bm (λ_ _=>bm (λ_ _=>bm (λ_ _=>bm (λ_ _=>bm (λ_ _=>C6 (b1P _ _ _) (λ_ _=>C6 (b3a _ _ _ _) (λ_ _=>b8t))))))) h
section
variable {ts:List Tk} {n:Nat}
theorem a2C (h:ts.length<=n+1):(D1 ts).short n:=by
 unfold D1
 split
 . exact .ok (by rw[List.length_tail];omega)
 . exact I0
theorem a1K (h:ts.length<=n+1):(C1 ts).short n:=by
 unfold C1
 split
 . exact .ok (by rw[List.length_tail];omega)
 . exact I0
theorem c3c (h:ts.length<=n+1):(a1H ts).short n:=by
 unfold a1H
 split
 . exact .ok (by rw[List.length_tail];omega)
 . exact I0
theorem a1j {l:List (List UInt8)}(h:ts.length<=n+1):(y7 l ts).short n:=by
 unfold y7
 split
 . split
   . exact .ok (by rw[List.length_tail];omega)
   . exact I0
 . exact I0
theorem b8B {ms:List (List UInt8)}(h:ts.length<=n):(Y9 ms ts).short n:=
 (a1j (n:=n) (by omega)).bind λ_ _ h=>(v6 (n:=n) (by omega)).bind λ_ _ h=>(a1j (n:=n) (by omega)).bind λ_ _ h=>(a1K (n:=n) (by omega)).bind λ_ _ h=>(v6 (n:=n) (by omega)).bind λ_ _ h=>(a1K (n:=n) (by omega)).bind λ_ _ h=>(v6 (n:=n) (by omega)).bind λ_ _ h=> .ok h
theorem b7j {ms:List (List UInt8)}(h:ts.length<=n):(U2 ms ts).short n:=by
 unfold U2
 split
 . exact(a1j (n:=n) (by rw[List.length_tail];omega)).bind λ_ _ h=>(v6 (n:=n) (by omega)).bind λ_ _ h=> .ok h
 . exact .ok h
theorem c4o (h:ts.length<=n):(a0f ts).short n:=
 (a2C (n:=n) (by omega)).bind λ_ _ h=>(a1K (n:=n) (by omega)).bind λ_ _ h=>(v6 (n:=n) (by omega)).bind λ_ _ h=> .ok h
theorem b9W {w:List UInt8}(h:ts.length<=n):(Q6 w ts).short n:=by
 unfold Q6
 split
 . exact .ok (by rw[List.length_tail];omega)
 . split
   . exact(Q5 (n:=n) (by rw[List.length_tail];omega)).bind λ_ _ h=> .ok h
   . exact(v6 (n:=n) (by omega)).bind λ_ _ h=> .ok h
theorem b9E (h:ts.length<=n):(Z7 ts).short n:=
 (a2C (n:=n) (by omega)).bind λ_ _ h=>(b9W h).bind λ_ _ h=>(v6 (n:=n) (by omega)).bind λ_ _ h=> .ok h
theorem b5I (h:ts.length<=n):(X7 ts).short n:=
 (a2C (n:=n) (by omega)).bind λ_ _ h=>(Q5 (n:=n) (by omega)).bind λ_ _ h=>(v6 (n:=n) (by omega)).bind λ_ _ h=>(Q5 (n:=n) (by omega)).bind λ_ _ h=>(v6 (n:=n) (by omega)).bind λ_ _ h=> .ok h
theorem c4w {cs:List (List UInt8)}(h:ts.length<=n):(X0 cs ts).short n:=by
 unfold X0
 split
 . exact .ok (by rw[List.length_tail];omega)
 . exact a1j (n:=n) (by omega)
theorem c0a {ds cs:List (List UInt8)}(h:ts.length<=n):(Z9 ds cs ts).short n:=
 (a1j (n:=n) (by omega)).bind λ_ _ h=>(c4w h).bind λ_ _ h=>(Q5 (n:=n) (by omega)).bind λ_ _ h=>(Q5 (n:=n) (by omega)).bind λ_ _ h=>(v6 (n:=n) (by omega)).bind λ_ _ h=> .ok h
end
theorem b8S {ts:List Tk}{g:Int}(h:L1 ts=some g):ts.tail.length+1=ts.length:=by
 unfold L1 at h
 repeat' split at h
 all_goals first|exact Y6 (by assumption)|cases h
theorem Rs.short.up {α:Type}{r:Rs α}{m n:Nat}(h:r.short m)(hm:m<=n):r.short n:=⟨h.1,λa ts e=>by have:=h.2 a ts e;omega⟩
theorem b9T {ms:List (List UInt8)}:∀(n k d:Nat) (l:List Part) (ts:List Tk),ts.length<=n->n+1<=k->(p6 ms k d l ts).short n:=by
 intro n
 induction n with
 | zero=>
   intro k d l ts hts hk
   obtain⟨k,rfl⟩:∃j,k=j+1:=⟨k-1,by omega⟩
   obtain rfl:ts=[]:=List.eq_nil_of_length_eq_zero (by omega)
   rw[p6]
   split
   . exact I0
   . exact .ok hts
 | succ n ih=>
   intro k d l ts hts hk
   obtain⟨k,rfl⟩:∃j,k=j+1:=⟨k-1,by omega⟩
   rw[p6]
   split
   . split
     . rename_i q
       have:=Y6 q
       split
       . exact I0
       . exact Rs.short.up ((Q5 (n:=n) (by omega)).bind λ_ _ h=>(v6 (n:=n) (by omega)).bind λ_ _ h=>(ih k _ _ _ h (by omega)).bind λ_ _ h=>(v6 (n:=n) (by omega)).bind λ_ _ h=>ih k _ _ _ h (by omega)) (Nat.le_succ n)
     . exact Rs.short.up ((a1j hts).bind λ_ _ h=>(v6 (n:=n) (by omega)).bind λ_ _ h=>ih k _ _ _ h (by omega)) (Nat.le_succ n)
   . exact .ok hts
theorem b6t {ms:List (List UInt8)}:∀(n k:Nat) (l:List Cutoff) (ts:List Tk),ts.length<=n->n+1<=k->(C4 ms k l ts).short n:=by
 intro n
 induction n with
 | zero=>
   intro k l ts hts hk
   obtain⟨k,rfl⟩:∃j,k=j+1:=⟨k-1,by omega⟩
   obtain rfl:ts=[]:=List.eq_nil_of_length_eq_zero (by omega)
   exact .ok hts
 | succ n ih=>
   intro k l ts hts hk
   obtain⟨k,rfl⟩:∃j,k=j+1:=⟨k-1,by omega⟩
   rw[C4]
   split
   . rename_i q
     have:=Y6 q
     exact Rs.short.up ((a1j (n:=n) (by omega)).bind λ_ _ h=>(v6 (n:=n) (by omega)).bind λ_ _ h=>(Q5 (n:=n) (by omega)).bind λ_ _ h=>(a1K (n:=n) (by omega)).bind λ_ _ h=>(v6 (n:=n) (by omega)).bind λ_ _ h=>ih k _ _ h (by omega)) (Nat.le_succ n)
   . exact .ok hts
theorem b9a:∀(n k:Nat) (l:List Mat) (ts:List Tk),ts.length<=n->n+1<=k->(A9 k l ts).short n:=by
 intro n
 induction n with
 | zero=>
   intro k l ts hts hk
   obtain⟨k,rfl⟩:∃j,k=j+1:=⟨k-1,by omega⟩
   obtain rfl:ts=[]:=List.eq_nil_of_length_eq_zero (by omega)
   exact I0
 | succ n ih=>
   intro k l ts hts hk
   obtain⟨k,rfl⟩:∃j,k=j+1:=⟨k-1,by omega⟩
   rw[A9]
   split
   . rename_i q
     have:=b8S q
     exact Rs.short.up ((a2C (n:=n) (by omega)).bind λ_ _ h=>(v6 (n:=n) (by omega)).bind λ_ _ h=>ih k _ _ h (by omega)) (Nat.le_succ n)
   . exact Rs.short.up ((v6 (n:=n) (by omega)).bind λ_ _ h=> .ok h) (Nat.le_succ n)
theorem b6I {ms:List (List UInt8)}{n k:Nat}{ts:List Tk}(h:ts.length<=n)(hk:n+1<=k):(K2 ms k ts).short n:=
 (a2C (n:=n) (by omega)).bind λ_ _ h=>(c3c (n:=n) (by omega)).bind λ_ _ h=>(v6 (n:=n) (by omega)).bind λ_ _ h=>(b9T n k _ _ _ h hk).bind λ_ _ h=>(b6t n k _ _ h hk).bind λ_ _ h=>(b7j h).bind λ_ _ h=>(v6 (n:=n) (by omega)).bind λ_ _ h=> .ok h
theorem c1j {n k i:Nat}{c:Course}{ts:List Tk}(h:ts.length<=n)(hk:n+1<=k):(G6 k i c ts).short n:=by
 unfold G6
 split
 . exact(b8B h).bind λ_ _ h=> .ok h
 . exact(b6I h hk).bind λ_ _ h=> .ok h
 . exact(c4o h).bind λ_ _ h=> .ok h
 . exact(b9E h).bind λ_ _ h=> .ok h
 . exact(b5I h).bind λ_ _ h=> .ok h
 . exact(c0a h).bind λ_ _ h=> .ok h
theorem c1l {i:Nat}:∀(n k:Nat) (c:Course) (ts:List Tk),ts.length<=n->n+1<=k->(A3 i k c ts).short n:=by
 intro n
 induction n with
 | zero=>
   intro k c ts hts hk
   obtain⟨k,rfl⟩:∃j,k=j+1:=⟨k-1,by omega⟩
   obtain rfl:ts=[]:=List.eq_nil_of_length_eq_zero (by omega)
   exact .ok hts
 | succ n ih=>
   intro k c ts hts hk
   obtain⟨k,rfl⟩:∃j,k=j+1:=⟨k-1,by omega⟩
   rw[A3]
   split
   . rename_i q
     have:=Y6 q
     exact Rs.short.up ((c1j (n:=n) (by omega) (by omega)).bind λ_ _ h=>ih k _ _ h (by omega)) (Nat.le_succ n)
   . exact .ok hts
theorem b2Y {n k:Nat}(hk:n+1<=k):∀(m i:Nat) (c:Course) (ts:List Tk),ts.length<=n->(A4 k m i c ts).short n
 |0,i,c,ts,h=>by rw[A4];exact .ok h
 |m+1,i,c,ts,h=>by rw[A4];exact(c1l n k _ _ h hk).bind λ_ _ h=>b2Y hk m _ _ _ h
theorem a4g {w:List UInt8}{P:List Tk->Rs Int}{n:Nat}{ts:List Tk}(hP:∀ts:List Tk,ts.length<=n->(P ts).short n)(h:ts.length<=n):(G7 w P ts).short n:=
 (v6 (n:=n) (by omega)).bind λ_ _ h=>(hP _ h).bind λ_ _ h=>(v6 (n:=n) (by omega)).bind λ_ _ h=> .ok h
theorem b8r {n k:Nat}{c:Course}{ts:List Tk}(h:ts.length<=n)(hk:5*n+1<=k):(S0 k c ts).short n:=
 (v6 (n:=n) (by omega)).bind λ_ _ h=>((a8y n).2 k 0 _ h hk).bind λ_ _ h=>(v6 (n:=n) (by omega)).bind λ_ _ h=>(v6 (n:=n) (by omega)).bind λ_ _ h=>
 (a4g (λ_ h=>Q5 (n:=n) (by omega)) h).bind λ_ _ h=>(a4g (λ_ h=>Q5 (n:=n) (by omega)) h).bind λ_ _ h=>(a4g (λ_ h=>a1K (n:=n) (by omega)) h).bind λ_ _ h=>(a4g (λ_ h=>a1K (n:=n) (by omega)) h).bind λ_ _ h=>(a4g (λ_ h=>Q5 (n:=n) (by omega)) h).bind λ_ _ h=>
 (v6 (n:=n) (by omega)).bind λ_ _ h=>(v6 (n:=n) (by omega)).bind λ_ _ h=>(v6 (n:=n) (by omega)).bind λ_ _ h=>(Q5 (n:=n) (by omega)).bind λ_ _ h=>(v6 (n:=n) (by omega)).bind λ_ _ h=>(a1K (n:=n) (by omega)).bind λ_ _ h=>
 (v6 (n:=n) (by omega)).bind λ_ _ h=>(v6 (n:=n) (by omega)).bind λ_ _ h=> .ok h
theorem b6i {n k:Nat}{ts:List Tk}(h:ts.length<=n)(hk:5*n+1<=k)(hn:1<=n):(D9 k ts).short n:=
 (v6 (n:=n) (by omega)).bind λ_ _ h=>(a2C (n:=n) (by omega)).bind λ_ _ h=>(v6 (n:=n) (by omega)).bind λ_ _ h=>(v6 (n:=n) (by omega)).bind λ_ _ h=>(v6 (n:=n) (by omega)).bind λ_ _ h=>(b9a n k _ _ h (by omega)).bind λ_ _ h=>
 (b2Y (by omega) 6 0 _ _ h).bind λ_ _ h=>b8r h hk
theorem b0r (src:List UInt8)(hl:src.length<=65536):D9 FU (toks src 0)≠ .out:=by
 have:=a8G src
 exact(b6i (n:=src.length+1) (by omega) (by unfold FU;omega) (by omega)).1
end Go.Proofs.YtaopegkpjhkooaaGreatDoor.Dx
