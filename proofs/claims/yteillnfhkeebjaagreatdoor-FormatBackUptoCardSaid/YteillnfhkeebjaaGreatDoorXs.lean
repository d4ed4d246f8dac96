/- Chapter. -/
import Derived.Test.YteillnfhkeebjaaGreatDoorXq
import Derived.LoopNIn
set_option linter.all false
namespace Go.Proofs.YteillnfhkeebjaaGreatDoor.Dx
open Go Go.RowKit
set_option maxRecDepth 100000
set_option maxHeartbeats 16000000
def S0 (ts:List Tk):Bool:=decide ((hdT ts).kind=1)&& !kw (hdT ts).text
def O8 (ts:List Tk):Rs (List UInt8):=if S0 ts then .ok (hdT ts).text ts.tail else I6 60 ts
theorem a7T (ts:List Tk)(u:Nat->Value)(hq:QT ts):MR 189 [.loc 5000 0] (psO ts u) λo O'=>o= .ret (.d (.bl (S0 ts)))/\O'=psO ts u:=by
 refine MeetsR.bl ?_;have hc:=hq.1.cons;obtain⟨t,r,rfl⟩:=hc;exact c7z t r u (hq.2 t (by simp)).1
abbrev a1F:Cfg:={rs:=[4,7,9]}
theorem a3O (ts:List Tk)(u:Nat->Value)(hq:QT ts):MR 125 [.loc 5000 0] (psO ts u) λo O'=>RdO D.str (O8 ts) u o O':=by
 obtain⟨res,hres⟩:∃res,res=O8 ts:=⟨_,rfl⟩
 rw[<-hres];unfold O8 at hres;have hi:=a7T ts u hq;cases h:S0 ts with
 | true=>
   rw[h] at hi hres;rw[d4 rfl] at hres;refine EnR a1F Tryz.func125 Tryz.ntmps125 λ_ _ _ _ _=>?_;refine Kv a1F ?_;refine⟨psO ts u,_,⟨Kr,Kr⟩,(hi).mono ?_⟩;rintro _ O2 ⟨rfl,rfl⟩;refine Kv a1F ?_;refine⟨λh=>absurd h (by decide),λ_=>?_⟩;refine Kv a1F ?_;refine⟨psO ts u,_,⟨Kr,Kr⟩,(a1p ts u hq.1).mono ?_⟩;rintro _ O2 ⟨rfl,rfl⟩;refine Kv a1F ?_;refine⟨psO ts.tail u, .d (.str (hdT ts).text),?_,?_⟩;rotate_left 1
   . rw[hres];exact⟨rfl,rfl⟩
   repeat'(first|exact d9|exact rfl|refine d8 ?_ ?_)
 | false=>
   rw[h] at hi hres;rw[c8 (by decide)] at hres;refine EnR a1F Tryz.func125 Tryz.ntmps125 λ_ _ _ _ _=>?_;refine Kv a1F ?_;refine⟨psO ts u,_,⟨Kr,Kr⟩,(hi).mono ?_⟩;rintro _ O2 ⟨rfl,rfl⟩;refine Kv a1F ?_;refine⟨λ_=>?_,λh=>absurd h (by decide)⟩;refine Kv a1F ?_;refine⟨psO ts u,_,⟨Kr,Kr⟩,(T9 ts u 60 hq.1).mono ?_⟩;rintro _ O2 ⟨rfl,rfl⟩;refine Kv a1F ?_;refine⟨psO ts u,⟨Kr,Kr⟩,?_⟩;rw[hres];exact⟨_,rfl,rfl⟩
section
variable {P:Program} {C:Cx} {st:SSt} {c:Code} {Q:E6}
theorem c2m (n:Nat){cells cells':List Base}{ty:TypeId}(hn:d7 n st.O=some (.box cells ty))(hl:cells'.length=cells.length)
 (hw:∀(γ:Gm) (V:Know) (i:Nat) b b' x,cells[i]?=some b->cells'[i]?=some b'->RVb γ V b x->RVb γ V b' x)
 (h:M0 n (.box cells' ty) st.O λO'=>J P C c Q {st with O:=O'}):J P C c Q st:=by
 refine⟨λγ V a W hr=>?_⟩;obtain⟨O',h,hO⟩:=a1U h;refine h.run γ V a W (a0N hr hr.slots λm x hx=>?_);rcases hO m x hx with⟨rfl,rfl,_⟩|⟨_,hl'⟩
 . refine⟨?_,_,hn⟩;obtain⟨blk,cs,hg,hh,hcells,h1,hnone⟩:=hr.own m _ hn;refine⟨blk,cs,hg,hh,⟨by rw[hl,hcells.len],λi b x hb hx=>?_⟩,h1,hnone⟩;have hi:i<cells.length:=by rw[<-hl];exact(List.getElem?_eq_some_iff.1 hb).1
   exact hw γ V i _ b x (t6 hi) hb (hcells.get i _ x (t6 hi) hx)
 . exact⟨hr.own m x hl',x,hl'⟩
def NilOk (b b':Base):Prop:=b'=b\/(b= .d (.raw (.slice none 0 0))/\(b'= .full []\/b'= .d (.sl [])))
def NilOks:List Base->List Base->Prop
 |[],[]=>True
 |b::r,b'::r'=>NilOk b b'/\NilOks r r'
 |_,_=>False
theorem NilOk.run {b b':Base}(h:NilOk b b'){γ:Gm}{V:Know}{x:Value}(hx:RVb γ V b x):RVb γ V b' x:=by
 rcases h with rfl|⟨rfl,rfl|rfl⟩
 . exact hx
 . cases hx;exact⟨.nil,none,0,rfl⟩
 . cases hx;exact .nil
theorem NilOks.get:∀{l l':List Base},NilOks l l'->l'.length=l.length/\∀(i:Nat) b b',l[i]?=some b->l'[i]?=some b'->NilOk b b'
 |[],[],_=>⟨rfl,λi b b' h=>by simp at h⟩
 |[],_::_,h=>h.elim
 |_::_,[],h=>h.elim
 | b::r,b'::r',h=>by
   obtain⟨h1,h2⟩:=NilOks.get h.2;refine⟨by simp[h1],λi x y hx hy=>?_⟩;cases i with
   |zero=>simp at hx hy;subst hx hy;exact h.1
   |succ i=>exact h2 i x y (by simpa using hx) (by simpa using hy)
theorem b5r (n:Nat){cells:List Base}(cells':List Base){ty:TypeId}(hn:d7 n st.O=some (.box cells ty))(hk:NilOks cells cells')
 (h:M0 n (.box cells' ty) st.O λO'=>J P C c Q {st with O:=O'}):J P C c Q st:=
 c2m n hn hk.get.1 (λ_ _ i _ _ _ hb hb' hx=>(hk.get.2 i _ _ hb hb').run hx) h
theorem c2k (p n:Nat)(hc:F9 p st=true)(hpn:p≠n)
 (h:∀g:Nat->Value×Option Nat,J P C c Q {st with O:=(p, .pn g [n])::st.O}):J P C c Q st:=by
 refine⟨λγ V a W hr=>?_⟩;have hq:w6 p [n]=false:=by
  simp only[w6];cases e:Nat.beq n p with
  |false=>rfl
  |true=>exact absurd (t7 e).symm hpn
 exact(h γ).run _ V a W (a4Z (b:= .pn γ [n]) (v:=(.bool false,none)) hr hc hq ⟨rfl,λ_ _=>rfl⟩ (by simp) (by simp))
structure JR (P:Program) (C:Cx) (c:Code) (Q:E6) (m:Nat) (st:SSt):Prop where
 run:∀γ V a W,Rel C γ st V a W->Code.roundsIn (fen C) 0 P c (LiftQ C Q) m a W
end
def I1 (t:Tk):Option Int:=if t.kind=3 then match I9 t.text with|some v=>if 0<=v then some v else none|none=>none else none
def J2 (ts:List Tk):Rs Int:=match I1 (hdT ts) with|some v=> .ok v ts.tail|none=>I6 60 ts
def F1 (l:List (List UInt8))(ts:List Tk):Rs Int:=if S0 ts then match l.findIdx? (λx=>decide (x=(hdT ts).text)) with|some i=> .ok (i:Int) ts.tail|none=>I6 70 ts else I6 60 ts
def A3 (ms:List (List UInt8)):Nat->Nat->List Part->List Tk->Rs (List Part)
 |0,_,_,_=> .out
 | k +1,d,l,ts=>
   if l.isEmpty||isW [108,97,112,115] ts||S0 ts then
    if isW [108,97,112,115] ts then
     if 16<=d then I6 2 ts
     else(y0 ts.tail).bind λn ts=>(o3 [123] ts).bind λ_ ts=>(A3 ms k (d+1) [] ts).bind λx ts=>(o3 [125] ts).bind λ_ ts=>A3 ms k d (l++[⟨0,n,x⟩]) ts
    else(F1 ms ts).bind λm ts=>(o3 [59] ts).bind λ_ ts=>A3 ms k d (l++[⟨m,0,[]⟩]) ts
   else .ok l ts
def a2E (ms:List (List UInt8))(ts:List Tk):Rs Leg:=
 (F1 ms ts).bind λa ts=>(o3 [116,111] ts).bind λ_ ts=>(F1 ms ts).bind λb ts=>(J2 ts).bind λlo ts=>(o3 [46,46] ts).bind λ_ ts=>(J2 ts).bind λhi ts=>(o3 [59] ts).bind λ_ ts=> .ok ⟨a,b,lo,hi⟩ ts
def a5j (ts:List Tk):Option Int:=if(hdT ts).kind=1 then if(hdT ts).text=[103,117,110] then some 1 else if(hdT ts).text=[99,104,105,112] then some 2 else if(hdT ts).text=[115,108,111,116] then some 3 else none else none
def a5k (ts:List Tk):Rs Int:=match a5j ts with|some v=> .ok v ts.tail|none=>I6 60 ts
def J8 (ms:List (List UInt8)):Nat->List Cutoff->List Tk->Rs (List Cutoff)
 |0,_,_=> .out
 | k +1,l,ts=>if isW [99,117,116,111,102,102] ts then
     (F1 ms ts.tail).bind λm ts=>(o3 [108,97,112] ts).bind λ_ ts=>(y0 ts).bind λn ts=>(J2 ts).bind λt ts=>(o3 [59] ts).bind λ_ ts=>J8 ms k (l++[⟨m,n,t⟩]) ts
   else .ok l ts
def a1K (ms:List (List UInt8))(ts:List Tk):Rs Int:=if isW [101,120,116,114,97] ts then(F1 ms ts.tail).bind λm ts=>(o3 [59] ts).bind λ_ ts=> .ok m ts else .ok (-1) ts
def X8 (ms:List (List UInt8))(k:Nat)(ts:List Tk):Rs Distance:=
 (O8 ts).bind λw ts=>(a5k ts).bind λg ts=>(o3 [123] ts).bind λ_ ts=>(A3 ms k 0 [] ts).bind λr ts=>(J8 ms k [] ts).bind λcs ts=>(a1K ms ts).bind λx ts=>(o3 [125] ts).bind λ_ ts=> .ok ⟨w,r,g,cs,x⟩ ts
def a3a (ts:List Tk):Rs Wave:=(O8 ts).bind λw ts=>(J2 ts).bind λt ts=>(o3 [59] ts).bind λ_ ts=> .ok ⟨w,t⟩ ts
def a0L (w:List UInt8)(ts:List Tk):Rs Offence:=match I1 (hdT ts) with
 |some t=> .ok ⟨w,t,0,false⟩ ts.tail
 |none=>if isW [108,97,112,115] ts then(y0 ts.tail).bind λn ts=> .ok ⟨w,0,n,false⟩ ts else(o3 [111,117,116] ts).bind λ_ ts=> .ok ⟨w,0,0,true⟩ ts
def a2P (ts:List Tk):Rs Offence:=(O8 ts).bind λw ts=>(a0L w ts).bind λx ts=>(o3 [59] ts).bind λ_ ts=> .ok x ts
def a2t (ts:List Tk):Rs Category:=(O8 ts).bind λw ts=>(y0 ts).bind λa ts=>(o3 [116,111] ts).bind λ_ ts=>(y0 ts).bind λb ts=>(o3 [59] ts).bind λ_ ts=> .ok ⟨w,a,b⟩ ts
def a2d (cs:List (List UInt8))(ts:List Tk):Rs Int:=if isW [97,108,108] ts then .ok (-1) ts.tail else F1 cs ts
def a2R (ds cs:List (List UInt8))(ts:List Tk):Rs Prize:=
 (F1 ds ts).bind λd ts=>(a2d cs ts).bind λc ts=>(y0 ts).bind λa ts=>(y0 ts).bind λb ts=>(o3 [59] ts).bind λ_ ts=> .ok ⟨d,c,a,b⟩ ts
def Y4 (ts:List Tk):Option Int:=if isW [115,116,97,114,116] ts then some 1 else if isW [112,97,115,115] ts then some 2 else if isW [101,110,100] ts then some 3 else none
def H9:Nat->List Mat->List Tk->Rs (List Mat)
 |0,_,_=> .out
 | k+1,l,ts=>match Y4 ts with
   |some g=>(O8 ts.tail).bind λw ts=>(o3 [59] ts).bind λ_ ts=>H9 k (l++[⟨w,g⟩]) ts
   |none=>(o3 [125] ts).bind λ_ ts=> .ok l ts
def secW:List (List UInt8):=[[108,101,103],[100,105,115,116,97,110,99,101],[119,97,118,101],[111,102,102,101,110,99,101],[99,97,116,101,103,111,114,121],[112,114,105,122,101]]
abbrev Course.ms (c:Course):List (List UInt8):=c.mats.map (·.name)
def S7 (k:Nat):Nat->Course->List Tk->Rs Course
 |0,c,ts=>(a2E c.ms ts).bind λx ts=> .ok {c with legs:=c.legs++[x]} ts
 |1,c,ts=>(X8 c.ms k ts).bind λx ts=> .ok {c with distances:=c.distances++[x]} ts
 |2,c,ts=>(a3a ts).bind λx ts=> .ok {c with waves:=c.waves++[x]} ts
 |3,c,ts=>(a2P ts).bind λx ts=> .ok {c with offences:=c.offences++[x]} ts
 |4,c,ts=>(a2t ts).bind λx ts=> .ok {c with categories:=c.categories++[x]} ts
 |_,c,ts=>(a2R (c.distances.map (·.name)) (c.categories.map (·.name)) ts).bind λx ts=> .ok {c with prizes:=c.prizes++[x]} ts
def G5 (i:Nat):Nat->Course->List Tk->Rs Course
 |0,_,_=> .out
 |k+1,c,ts=>if isW (secW.getD i []) ts then(S7 k i c ts.tail).bind λc ts=>G5 i k c ts else .ok c ts
def G6 (k:Nat):Nat->Nat->Course->List Tk->Rs Course
 |0,_,c,ts=> .ok c ts
 |n+1,i,c,ts=>(G5 i k c ts).bind λc ts=>G6 k n (i+1) c ts
def S8 (w:List UInt8)(P:List Tk->Rs Int)(ts:List Tk):Rs Int:=(o3 w ts).bind λ_ ts=>(P ts).bind λn ts=>(o3 [59] ts).bind λ_ ts=> .ok n ts
def a1k (k:Nat)(c:Course)(ts:List Tk):Rs Course:=
 (o3 [116,105,101,115] ts).bind λ_ ts=>(blockP k 0 ts).bind λl ts=>(o3 [102,97,117,108,116,115] ts).bind λ_ ts=>(o3 [123] ts).bind λ_ ts=>
 (S8 [109,105,115,115,101,115] y0 ts).bind λa ts=>(S8 [115,116,114,97,121,115] y0 ts).bind λb ts=>(S8 [119,105,110,100,111,119] J2 ts).bind λw ts=>(S8 [114,101,115,105,100,117,97,108] J2 ts).bind λr ts=>(S8 [100,114,105,102,116] y0 ts).bind λd ts=>
 (o3 [125] ts).bind λ_ ts=>(o3 [112,114,111,116,101,115,116] ts).bind λ_ ts=>(o3 [102,101,101] ts).bind λ_ ts=>(y0 ts).bind λf ts=>(o3 [100,101,97,100,108,105,110,101] ts).bind λ_ ts=>(J2 ts).bind λt ts=>
 (o3 [59] ts).bind λ_ ts=>(o3 [125] ts).bind λ_ ts=> .ok {c with ties:=l,faults:=⟨a,b,w,r,d⟩,fee:=f,deadline:=t} ts
def zC:Course:=⟨[],[],[],[],[],[],[],[],[],⟨0,0,0,0,0⟩,0,0⟩
def N2 (k:Nat)(ts:List Tk):Rs Course:=
 (o3 [99,111,117,114,115,101] ts).bind λ_ ts=>(O8 ts).bind λw ts=>(o3 [123] ts).bind λ_ ts=>(o3 [109,97,116,115] ts).bind λ_ ts=>(o3 [123] ts).bind λ_ ts=>(H9 k [] ts).bind λms ts=>
 (G6 k 6 0 {zC with name:=w,mats:=ms} ts).bind λc ts=>a1k k c ts
def a0y (src:List UInt8):Course×Int×Int:=b3z zC (N2 FU) src
theorem b8b {ts:List Tk}(h:S0 ts=true):(hdT ts).kind=1:=by
 unfold S0 at h;simp only[f0,j0] at h;exact h.1
theorem Y5 {ts:List Tk}(h:QT ts):(O8 ts).kp:=by
 unfold O8;split
 . rename_i hw;exact C3 (h.tail (by rw[b8b hw];decide))
 . exact Y2
theorem b4s {t:Tk}{v:Int}(h:I1 t=some v):t.kind=3:=by
 unfold I1 at h;split at h
 . assumption
 . cases h
theorem U0 {ts:List Tk}(h:QT ts):(J2 ts).kp:=by
 unfold J2;split
 . rename_i hv;exact C3 (h.tail (by rw[b4s hv];decide))
 . exact Y2
theorem V5 {l:List (List UInt8)}{ts:List Tk}(h:QT ts):(F1 l ts).kp:=by
 unfold F1;split
 . rename_i hw;split
   . exact C3 (h.tail (by rw[b8b hw];decide))
   . exact Y2
 . exact Y2
theorem d3D {ts:List Tk}{v:Int}(h:a5j ts=some v):(hdT ts).kind=1:=by
 unfold a5j at h;split at h
 . assumption
 . cases h
theorem d3G {ts:List Tk}(h:QT ts):(a5k ts).kp:=by
 unfold a5k;split
 . rename_i hv;exact C3 (h.tail (by rw[d3D hv];decide))
 . exact Y2
theorem a8q {ms:List (List UInt8)}:∀(k d:Nat) (l:List Part) (ts:List Tk),QT ts->(A3 ms k d l ts).kp
 |0,d,l,ts,h=>by rw[A3];exact a0F
 | k + 1,d,l,ts,h=>by
   have ih:=a8q (ms:=ms) k;rw[A3];split
   . split
     . split
       . exact Y2
       . exact n8 (G3 (h.isW (by assumption))) λ_ _ h=>n8 (v7 h) λ_ _ h=>n8 (ih _ _ _ h) λ_ _ h=>n8 (v7 h) λ_ _ h=>ih _ _ _ h
     . exact n8 (V5 h) λ_ _ h=>n8 (v7 h) λ_ _ h=>ih _ _ _ h
   . exact C3 h
theorem c8i {ms:List (List UInt8)}{ts:List Tk}(h:QT ts):(a2E ms ts).kp:=
 n8 (V5 h) λ_ _ h=>n8 (v7 h) λ_ _ h=>n8 (V5 h) λ_ _ h=>n8 (U0 h) λ_ _ h=>n8 (v7 h) λ_ _ h=>n8 (U0 h) λ_ _ h=>n8 (v7 h) λ_ _ h=>C3 h
theorem b6Q {ms:List (List UInt8)}:∀(k:Nat) (l:List Cutoff) (ts:List Tk),QT ts->(J8 ms k l ts).kp
 |0,l,ts,h=>by rw[J8];exact a0F
 | k+1,l,ts,h=>by
   have ih:=b6Q (ms:=ms) k;rw[J8];split
   . exact n8 (V5 (h.isW (by assumption))) λ_ _ h=>n8 (v7 h) λ_ _ h=>n8 (G3 h) λ_ _ h=>n8 (U0 h) λ_ _ h=>n8 (v7 h) λ_ _ h=>ih _ _ h
   . exact C3 h
theorem c6n {ms:List (List UInt8)}{ts:List Tk}(h:QT ts):(a1K ms ts).kp:=by
 unfold a1K;split
 . exact n8 (V5 (h.isW (by assumption))) λ_ _ h=>n8 (v7 h) λ_ _ h=>C3 h
 . exact C3 h
theorem c5z {ms:List (List UInt8)}{k:Nat}{ts:List Tk}(h:QT ts):(X8 ms k ts).kp:=
 n8 (Y5 h) λ_ _ h=>n8 (d3G h) λ_ _ h=>n8 (v7 h) λ_ _ h=>n8 (a8q _ _ _ _ h) λ_ _ h=>n8 (b6Q _ _ _ h) λ_ _ h=>n8 (c6n h) λ_ _ h=>n8 (v7 h) λ_ _ h=>C3 h
theorem d5c {ts:List Tk}(h:QT ts):(a3a ts).kp:=
 n8 (Y5 h) λ_ _ h=>n8 (U0 h) λ_ _ h=>n8 (v7 h) λ_ _ h=>C3 h
theorem d0d {w:List UInt8}{ts:List Tk}(h:QT ts):(a0L w ts).kp:=by
 unfold a0L;split
 . rename_i hv;exact C3 (h.tail (by rw[b4s hv];decide))
 . split
   . exact n8 (G3 (h.isW (by assumption))) λ_ _ h=>C3 h
   . exact n8 (v7 h) λ_ _ h=>C3 h
theorem c9M {ts:List Tk}(h:QT ts):(a2P ts).kp:=
 n8 (Y5 h) λ_ _ h=>n8 (d0d h) λ_ _ h=>n8 (v7 h) λ_ _ h=>C3 h
theorem c4a {ts:List Tk}(h:QT ts):(a2t ts).kp:=
 n8 (Y5 h) λ_ _ h=>n8 (G3 h) λ_ _ h=>n8 (v7 h) λ_ _ h=>n8 (G3 h) λ_ _ h=>n8 (v7 h) λ_ _ h=>C3 h
theorem d5n {cs:List (List UInt8)}{ts:List Tk}(h:QT ts):(a2d cs ts).kp:=by
 unfold a2d;split
 . exact C3 (h.isW (by assumption))
 . exact V5 h
theorem d0l {ds cs:List (List UInt8)}{ts:List Tk}(h:QT ts):(a2R ds cs ts).kp:=
 n8 (V5 h) λ_ _ h=>n8 (d5n h) λ_ _ h=>n8 (G3 h) λ_ _ h=>n8 (G3 h) λ_ _ h=>n8 (v7 h) λ_ _ h=>C3 h
theorem b0o {ts:List Tk}{g:Int}(h:QT ts)(hv:Y4 ts=some g):QT ts.tail:=by
 unfold Y4 at hv;repeat' split at hv
 all_goals first|exact h.isW (by assumption)|cases hv
theorem b3i:∀(k:Nat) (l:List Mat) (ts:List Tk),QT ts->(H9 k l ts).kp
 |0,l,ts,h=>by rw[H9];exact a0F
 | k+1,l,ts,h=>by
   have ih:=b3i k;rw[H9];split
   . exact n8 (Y5 (b0o h (by assumption))) λ_ _ h=>n8 (v7 h) λ_ _ h=>ih _ _ h
   . exact n8 (v7 h) λ_ _ h=>C3 h
theorem c0b {k i:Nat}{c:Course}{ts:List Tk}(h:QT ts):(S7 k i c ts).kp:=by
 unfold S7;split
 . exact n8 (c8i h) λ_ _ h=>C3 h
 . exact n8 (c5z h) λ_ _ h=>C3 h
 . exact n8 (d5c h) λ_ _ h=>C3 h
 . exact n8 (c9M h) λ_ _ h=>C3 h
 . exact n8 (c4a h) λ_ _ h=>C3 h
 . exact n8 (d0l h) λ_ _ h=>C3 h
theorem c0c {i:Nat}:∀(k:Nat) (c:Course) (ts:List Tk),QT ts->(G5 i k c ts).kp
 |0,c,ts,h=>by rw[G5];exact a0F
 | k+1,c,ts,h=>by
   rw[G5];split
   . exact n8 (c0b (h.isW (by assumption))) λ_ _ h=>c0c k _ _ h
   . exact C3 h
theorem c0f {k:Nat}:∀(n i:Nat) (c:Course) (ts:List Tk),QT ts->(G6 k n i c ts).kp
 |0,i,c,ts,h=>by rw[G6];exact C3 h
 |n+1,i,c,ts,h=>by rw[G6];exact n8 (c0c _ _ _ h) λ_ _ h=>c0f n _ _ _ h
theorem a1W {w:List UInt8}{P:List Tk->Rs Int}{ts:List Tk}(hP:∀ts,QT ts->(P ts).kp)(h:QT ts):(S8 w P ts).kp:=
 n8 (v7 h) λ_ _ h=>n8 (hP _ h) λ_ _ h=>n8 (v7 h) λ_ _ h=>C3 h
theorem bm {α β:Type}{r:Rs α}{f f':α->List Tk->Rs β}(hf:∀a ts,f a ts≠ .out->f' a ts=f a ts)(hn:r.bind f≠ .out):r.bind f'=r.bind f:=K3 (λ_=>rfl) hf hn
theorem b9r {ms:List (List UInt8)}:∀(k d:Nat) (l:List Part) (ts:List Tk),A3 ms k d l ts≠ .out->A3 ms (k+1) d l ts=A3 ms k d l ts
 |0,d,l,ts,h=>absurd (by rw[A3]) h
 | k + 1,d,l,ts,h=>by
   have ih:=b9r (ms:=ms) k;rw[A3] at h;conv=>lhs;rw[A3]
   conv=>rhs;rw[A3]
   split
   . rename_i q1;rw[d4 q1] at h;split
     . rename_i q2;rw[d4 q2] at h;split
       . rfl
       . rename_i q3;rw[c8 q3] at h;exact bm (λ_ _=>bm (λ_ _=>K3 (ih _ _ _) (λ_ _=>bm (λ_ _=>ih _ _ _)))) h
     . rename_i q2;rw[c8 q2] at h;exact bm (λ_ _=>bm (λ_ _=>ih _ _ _)) h
   . rfl
theorem b6R {ms:List (List UInt8)}:∀(k:Nat) (l:List Cutoff) (ts:List Tk),J8 ms k l ts≠ .out->J8 ms (k+1) l ts=J8 ms k l ts
 |0,l,ts,h=>absurd (by rw[J8]) h
 | k +1,l,ts,h=>by
   have ih:=b6R (ms:=ms) k;rw[J8] at h;conv=>lhs;rw[J8]
   conv=>rhs;rw[J8]
   split
   . rename_i q1;rw[d4 q1] at h;exact bm (λ_ _=>bm (λ_ _=>bm (λ_ _=>bm (λ_ _=>bm (λ_ _=>ih _ _))))) h
   . rfl
theorem c5B {ms:List (List UInt8)}{k:Nat}{ts:List Tk}(h:X8 ms k ts≠ .out):X8 ms (k+1) ts=X8 ms k ts:=
 bm (λ_ _=>bm (λ_ _=>bm (λ_ _=>K3 (b9r _ _ _ _) (λ_ _=>K3 (b6R _ _ _) (λ_ _ _=>rfl))))) h
theorem b8J:∀(k:Nat) (l:List Mat) (ts:List Tk),H9 k l ts≠ .out->H9 (k+1) l ts=H9 k l ts
 |0,l,ts,h=>absurd (by rw[H9]) h
 | k +1,l,ts,h=>by
   have ih:=b8J k;rw[H9] at h;conv=>lhs;rw[H9]
   conv=>rhs;rw[H9]
   split
   . rename_i g hg;rw[hg] at h;exact bm (λ_ _=>bm (λ_ _=>ih _ _)) h
   . rfl
theorem d1x {k i:Nat}{c:Course}{ts:List Tk}(h:S7 k i c ts≠ .out):S7 (k+1) i c ts=S7 k i c ts:=by
 unfold S7 at h⊢;split
 case h_2=>exact K3 c5B (λ_ _ _=>rfl) h
 all_goals rfl
theorem c0d {i:Nat}:∀(k:Nat) (c:Course) (ts:List Tk),G5 i k c ts≠ .out->G5 i (k+1) c ts=G5 i k c ts
 |0,c,ts,h=>absurd (by rw[G5]) h
 | k +1,c,ts,h=>by
   have ih:=c0d (i:=i) k;rw[G5] at h;conv=>lhs;rw[G5]
   conv=>rhs;rw[G5]
   split
   . rename_i q1;rw[d4 q1] at h;exact K3 d1x (λ_ _=>ih _ _) h
   . rfl
theorem c0g {k:Nat}:∀(n i:Nat) (c:Course) (ts:List Tk),G6 k n i c ts≠ .out->G6 (k+1) n i c ts=G6 k n i c ts
 |0,i,c,ts,h=>by rw[G6,G6]
 | n+1,i,c,ts,h=>by
   rw[G6] at h;conv=>lhs;rw[G6]
   conv=>rhs;rw[G6]
   exact K3 (c0d _ _ _) (λ_ _=>c0g n _ _ _) h
theorem c7Y {k:Nat}{c:Course}{ts:List Tk}(h:a1k k c ts≠ .out):a1k (k+1) c ts=a1k k c ts:=
 bm (λ_ _=>K3 ((c0x k).2 _ _) (λ_ _ _=>rfl)) h
theorem c4S {k:Nat}{ts:List Tk}(h:N2 k ts≠ .out):N2 (k+1) ts=N2 k ts:=
 bm (λ_ _=>bm (λ_ _=>bm (λ_ _=>bm (λ_ _=>bm (λ_ _=>K3 (b8J _ _ _) (λ_ _=>K3 (c0g _ _ _ _) (λ_ _=>c7Y))))))) h
section
variable {ts:List Tk} {n:Nat}
theorem a6r (h:ts.length<=n+1):(O8 ts).short n:=by
 unfold O8;split
 . exact .ok (by rw[a0q];omega)
 . exact T8
theorem a5n (h:ts.length<=n+1):(J2 ts).short n:=by
 unfold J2;split
 . exact .ok (by rw[a0q];omega)
 . exact T8
theorem d3H (h:ts.length<=n+1):(a5k ts).short n:=by
 unfold a5k;split
 . exact .ok (by rw[a0q];omega)
 . exact T8
theorem a4H {l:List (List UInt8)}(h:ts.length<=n+1):(F1 l ts).short n:=by
 unfold F1;split
 . split
   . exact .ok (by rw[a0q];omega)
   . exact T8
 . exact T8
theorem c8k {ms:List (List UInt8)}(h:ts.length<=n):(a2E ms ts).short n:=
 (a4H (n:=n) (by omega)).bind λ_ _ h=>(D2 (n:=n) (by omega)).bind λ_ _ h=>(a4H (n:=n) (by omega)).bind λ_ _ h=>(a5n (n:=n) (by omega)).bind λ_ _ h=>(D2 (n:=n) (by omega)).bind λ_ _ h=>(a5n (n:=n) (by omega)).bind λ_ _ h=>(D2 (n:=n) (by omega)).bind λ_ _ h=> .ok h
theorem c6o {ms:List (List UInt8)}(h:ts.length<=n):(a1K ms ts).short n:=by
 unfold a1K;split
 . exact(a4H (n:=n) (by rw[a0q];omega)).bind λ_ _ h=>(D2 (n:=n) (by omega)).bind λ_ _ h=> .ok h
 . exact .ok h
theorem d5e (h:ts.length<=n):(a3a ts).short n:=
 (a6r (n:=n) (by omega)).bind λ_ _ h=>(a5n (n:=n) (by omega)).bind λ_ _ h=>(D2 (n:=n) (by omega)).bind λ_ _ h=> .ok h
theorem d0e {w:List UInt8}(h:ts.length<=n):(a0L w ts).short n:=by
 unfold a0L;split
 . exact .ok (by rw[a0q];omega)
 . split
   . exact(a0K (n:=n) (by rw[a0q];omega)).bind λ_ _ h=> .ok h
   . exact(D2 (n:=n) (by omega)).bind λ_ _ h=> .ok h
theorem c9N (h:ts.length<=n):(a2P ts).short n:=
 (a6r (n:=n) (by omega)).bind λ_ _ h=>(d0e h).bind λ_ _ h=>(D2 (n:=n) (by omega)).bind λ_ _ h=> .ok h
theorem c4b (h:ts.length<=n):(a2t ts).short n:=
 (a6r (n:=n) (by omega)).bind λ_ _ h=>(a0K (n:=n) (by omega)).bind λ_ _ h=>(D2 (n:=n) (by omega)).bind λ_ _ h=>(a0K (n:=n) (by omega)).bind λ_ _ h=>(D2 (n:=n) (by omega)).bind λ_ _ h=> .ok h
theorem d5o {cs:List (List UInt8)}(h:ts.length<=n):(a2d cs ts).short n:=by
 unfold a2d;split
 . exact .ok (by rw[a0q];omega)
 . exact a4H (n:=n) (by omega)
theorem d0n {ds cs:List (List UInt8)}(h:ts.length<=n):(a2R ds cs ts).short n:=
 (a4H (n:=n) (by omega)).bind λ_ _ h=>(d5o h).bind λ_ _ h=>(a0K (n:=n) (by omega)).bind λ_ _ h=>(a0K (n:=n) (by omega)).bind λ_ _ h=>(D2 (n:=n) (by omega)).bind λ_ _ h=> .ok h
end
theorem c8N {ts:List Tk}{g:Int}(h:Y4 ts=some g):ts.tail.length+1=ts.length:=by
 unfold Y4 at h;repeat' split at h
 all_goals first|exact a2C (by assumption)|cases h
theorem Rs.short.up {α:Type}{r:Rs α}{m n:Nat}(h:r.short m)(hm:m<=n):r.short n:=⟨h.1,λa ts e=>by have:=h.2 a ts e;omega⟩
theorem c9Z {ms:List (List UInt8)}:∀(n k d:Nat) (l:List Part) (ts:List Tk),ts.length<=n->n+1<=k->(A3 ms k d l ts).short n:=by
 intro n;induction n with
 | zero=>
   intro k d l ts hts hk;obtain⟨k,rfl⟩:∃j,k=j+1:=⟨k-1,by omega⟩
   obtain rfl:ts=[]:=C8 (by omega);rw[A3];split
   . exact T8
   . exact .ok hts
 | succ n ih=>
   intro k d l ts hts hk;obtain⟨k,rfl⟩:∃j,k=j+1:=⟨k-1,by omega⟩
   rw[A3];split
   . split
     . rename_i q;have:=a2C q;split
       . exact T8
       . exact Rs.short.up ((a0K (n:=n) (by omega)).bind λ_ _ h=>(D2 (n:=n) (by omega)).bind λ_ _ h=>(ih k _ _ _ h (by omega)).bind λ_ _ h=>(D2 (n:=n) (by omega)).bind λ_ _ h=>ih k _ _ _ h (by omega)) (Nat.le_succ n)
     . exact Rs.short.up ((a4H hts).bind λ_ _ h=>(D2 (n:=n) (by omega)).bind λ_ _ h=>ih k _ _ _ h (by omega)) (Nat.le_succ n)
   . exact .ok hts
theorem c5e {ms:List (List UInt8)}:∀(n k:Nat) (l:List Cutoff) (ts:List Tk),ts.length<=n->n+1<=k->(J8 ms k l ts).short n:=by
 intro n;induction n with
 | zero=>
   intro k l ts hts hk;obtain⟨k,rfl⟩:∃j,k=j+1:=⟨k-1,by omega⟩
   obtain rfl:ts=[]:=C8 (by omega);exact .ok hts
 | succ n ih=>
   intro k l ts hts hk;obtain⟨k,rfl⟩:∃j,k=j+1:=⟨k-1,by omega⟩
   rw[J8];split
   . rename_i q;have:=a2C q;exact Rs.short.up ((a4H (n:=n) (by omega)).bind λ_ _ h=>(D2 (n:=n) (by omega)).bind λ_ _ h=>(a0K (n:=n) (by omega)).bind λ_ _ h=>(a5n (n:=n) (by omega)).bind λ_ _ h=>(D2 (n:=n) (by omega)).bind λ_ _ h=>ih k _ _ h (by omega)) (Nat.le_succ n)
   . exact .ok hts
theorem c8U:∀(n k:Nat) (l:List Mat) (ts:List Tk),ts.length<=n->n+1<=k->(H9 k l ts).short n:=by
 intro n;induction n with
 | zero=>
   intro k l ts hts hk;obtain⟨k,rfl⟩:∃j,k=j+1:=⟨k-1,by omega⟩
   obtain rfl:ts=[]:=C8 (by omega);exact T8
 | succ n ih=>
   intro k l ts hts hk;obtain⟨k,rfl⟩:∃j,k=j+1:=⟨k-1,by omega⟩
   rw[H9];split
   . rename_i q;have:=c8N q;exact Rs.short.up ((a6r (n:=n) (by omega)).bind λ_ _ h=>(D2 (n:=n) (by omega)).bind λ_ _ h=>ih k _ _ h (by omega)) (Nat.le_succ n)
   . exact Rs.short.up ((D2 (n:=n) (by omega)).bind λ_ _ h=> .ok h) (Nat.le_succ n)
theorem c5y {ms:List (List UInt8)}{n k:Nat}{ts:List Tk}(h:ts.length<=n)(hk:n+1<=k):(X8 ms k ts).short n:=
 (a6r (n:=n) (by omega)).bind λ_ _ h=>(d3H (n:=n) (by omega)).bind λ_ _ h=>(D2 (n:=n) (by omega)).bind λ_ _ h=>(c9Z n k _ _ _ h hk).bind λ_ _ h=>(c5e n k _ _ h hk).bind λ_ _ h=>(c6o h).bind λ_ _ h=>(D2 (n:=n) (by omega)).bind λ_ _ h=> .ok h
theorem d1w {n k i:Nat}{c:Course}{ts:List Tk}(h:ts.length<=n)(hk:n+1<=k):(S7 k i c ts).short n:=by
 unfold S7;split
 . exact(c8k h).bind λ_ _ h=> .ok h
 . exact(c5y h hk).bind λ_ _ h=> .ok h
 . exact(d5e h).bind λ_ _ h=> .ok h
 . exact(c9N h).bind λ_ _ h=> .ok h
 . exact(c4b h).bind λ_ _ h=> .ok h
 . exact(d0n h).bind λ_ _ h=> .ok h
theorem d1y {i:Nat}:∀(n k:Nat) (c:Course) (ts:List Tk),ts.length<=n->n+1<=k->(G5 i k c ts).short n:=by
 intro n;induction n with
 | zero=>
   intro k c ts hts hk;obtain⟨k,rfl⟩:∃j,k=j+1:=⟨k-1,by omega⟩
   obtain rfl:ts=[]:=C8 (by omega);exact .ok hts
 | succ n ih=>
   intro k c ts hts hk;obtain⟨k,rfl⟩:∃j,k=j+1:=⟨k-1,by omega⟩
   rw[G5];split
   . rename_i q;have:=a2C q;exact Rs.short.up ((d1w (n:=n) (by omega) (by omega)).bind λ_ _ h=>ih k _ _ h (by omega)) (Nat.le_succ n)
   . exact .ok hts
theorem c0e {n k:Nat}(hk:n+1<=k):∀(m i:Nat) (c:Course) (ts:List Tk),ts.length<=n->(G6 k m i c ts).short n
 |0,i,c,ts,h=>by rw[G6];exact .ok h
 |m+1,i,c,ts,h=>by rw[G6];exact(d1y n k _ _ h hk).bind λ_ _ h=>c0e hk m _ _ _ h
theorem a8A {w:List UInt8}{P:List Tk->Rs Int}{n:Nat}{ts:List Tk}(hP:∀ts:List Tk,ts.length<=n->(P ts).short n)(h:ts.length<=n):(S8 w P ts).short n:=
 (D2 (n:=n) (by omega)).bind λ_ _ h=>(hP _ h).bind λ_ _ h=>(D2 (n:=n) (by omega)).bind λ_ _ h=> .ok h
theorem c7W {n k:Nat}{c:Course}{ts:List Tk}(h:ts.length<=n)(hk:5*n+1<=k):(a1k k c ts).short n:=
 (D2 (n:=n) (by omega)).bind λ_ _ h=>((c0v n).2 k 0 _ h hk).bind λ_ _ h=>(D2 (n:=n) (by omega)).bind λ_ _ h=>(D2 (n:=n) (by omega)).bind λ_ _ h=>
 (a8A (λ_ h=>a0K (n:=n) (by omega)) h).bind λ_ _ h=>(a8A (λ_ h=>a0K (n:=n) (by omega)) h).bind λ_ _ h=>(a8A (λ_ h=>a5n (n:=n) (by omega)) h).bind λ_ _ h=>(a8A (λ_ h=>a5n (n:=n) (by omega)) h).bind λ_ _ h=>(a8A (λ_ h=>a0K (n:=n) (by omega)) h).bind λ_ _ h=>
 (D2 (n:=n) (by omega)).bind λ_ _ h=>(D2 (n:=n) (by omega)).bind λ_ _ h=>(D2 (n:=n) (by omega)).bind λ_ _ h=>(a0K (n:=n) (by omega)).bind λ_ _ h=>(D2 (n:=n) (by omega)).bind λ_ _ h=>(a5n (n:=n) (by omega)).bind λ_ _ h=>
 (D2 (n:=n) (by omega)).bind λ_ _ h=>(D2 (n:=n) (by omega)).bind λ_ _ h=> .ok h
theorem c4O {n k:Nat}{ts:List Tk}(h:ts.length<=n)(hk:5*n+1<=k)(hn:1<=n):(N2 k ts).short n:=
 (D2 (n:=n) (by omega)).bind λ_ _ h=>(a6r (n:=n) (by omega)).bind λ_ _ h=>(D2 (n:=n) (by omega)).bind λ_ _ h=>(D2 (n:=n) (by omega)).bind λ_ _ h=>(D2 (n:=n) (by omega)).bind λ_ _ h=>(c8U n k _ _ h (by omega)).bind λ_ _ h=>
 (c0e (by omega) 6 0 _ _ h).bind λ_ _ h=>c7W h hk
theorem b6H (src:List UInt8)(hl:src.length<=65536):N2 FU (toks src 0)≠ .out:=by
 have:=d3U src;exact(c4O (n:=src.length+1) (by omega) (by unfold FU;omega) (by omega)).1
end Go.Proofs.YteillnfhkeebjaaGreatDoor.Dx
