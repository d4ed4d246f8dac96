/- Tokens. -/
import Derived.Test.YteillnfhkeebjaaGreatDoorXh
import Derived.Lib.SplitLaws
set_option linter.all false
namespace Go.Proofs.YteillnfhkeebjaaGreatDoor.Dx
open Go Go.RowKit Go.Proofs
set_option maxRecDepth 100000
set_option maxHeartbeats 8000000
def L7 (b:UInt8):Bool:=(decide (97<=(b.toNat:Int))&&decide ((b.toNat:Int)<=122))||(decide (65<=(b.toNat:Int))&&decide ((b.toNat:Int)<=90))
def inB (b:UInt8):Bool:=L7 b||(p4 b||b==95)
def a0C:List UInt8->Bool|[]=>false|b::_=>p4 b
def ptB (b:UInt8)(t:List UInt8):Bool:=(b==58||b==46)&&a0C t
def A0 (p:Bool):List UInt8->Nat
 |[]=>0
 |b::t=>if inB b||(p&&ptB b t) then A0 p t+1 else 0
def a6a (b:UInt8):Option UInt8:=if b=34 then some 34 else if b=92 then some 92 else if b=110 then some 10 else none
def B9 :List UInt8->Option (List UInt8×Nat)
 |[]=>none
 | c :: t=>
   if c=34 then some ([],1)
   else if c<32\/c>126 then none
   else if c=92 then match t with
    |[]=>none
    | d ::t=>match a6a d with
      | some x=>match B9 t with
        |some (s,n)=>some (x::s,n+2)
        |none=>none
      |none=>none
   else match B9 t with
    |some (s,n)=>some (c::s,n+1)
    |none=>none
def sgB (b:UInt8):Bool:=[123,125,40,41,91,93,59,44,61,60,62].contains b
def blB (b:UInt8):Bool:=[32,9,10,13].contains b
def a2w (c:UInt8)(t:List UInt8):Bool:=match t with|[]=>false|d::_=>((c==60||c==62)&&d==61)||(c==46&&d==46)
def a1n (s:List UInt8)(n:Nat):Nat×List UInt8×Nat:=if Y1 s then(2,s,n) else if(I9 s).isSome then(3,s,n) else(0,[],n)
def C4:List UInt8->Nat×List UInt8×Nat
 |[]=>(0,[],1)
 | c::t=>
   if L7 c then(1,(c::t).take (A0 false t+1),A0 false t+1)
   else if p4 c||(c==45&&a0C t) then a1n ((c::t).take (A0 true t+1)) (A0 true t+1)
   else if c=34 then match B9 t with
    |some (s,n)=>(4,s,n+1)
    |none=>(0,[],1)
   else if a2w c t then(5,(c::t).take 2,2)
   else if sgB c then(5,[c],1)
   else(0,[],1)
def V9:List UInt8->Nat
 |[]=>0
 |b::t=>if b=10 then 0 else V9 t+1
def w7:List UInt8->Nat×List UInt8×Nat
 |[]=>(7,[],0)
 |c::t=>if blB c then(7,[],1) else if c=35 then(7,[],V9 t+1) else C4 (c::t)
structure Tk where
 kind:Nat
 text:List UInt8
 at_:Nat
deriving DecidableEq
def a1j (k:Nat):Bool:=decide (1<=k/\k<=5)
def a6J:Nat->List UInt8->Nat->List Tk
 |0,_,_=>[]
 |_+1,[],a=>[⟨6,[],a⟩]
 | k+1,c::t,a=>
   let x:=w7 (c::t)
   let r:=a6J k ((c::t).drop x.2.2) (a+x.2.2)
   if a1j x.1 then⟨x.1,x.2.1,a⟩::r else r
def a3w:Nat->List UInt8->Nat->Int->Nat->List Nat
 |0,_,_,_,_=>[]
 |_+1,[],_,_,_=>[]
 | k+1,c::t,a,en,nb=>
   let x:=w7 (c::t)
   if x.1=0 then
    if(a:Int)≠en/\nb<64 then a::a3w k ((c::t).drop x.2.2) (a+x.2.2) (a+x.2.2:Nat) (nb+1)
    else a3w k ((c::t).drop x.2.2) (a+x.2.2) (a+x.2.2:Nat) nb
   else a3w k ((c::t).drop x.2.2) (a+x.2.2) en nb
def toks (r:List UInt8)(a:Nat):List Tk:=a6J (r.length+1) r a
def bads (r:List UInt8)(a:Nat)(en:Int)(nb:Nat):List Nat:=a3w (r.length+1) r a en nb
theorem a5b (p:Bool):∀t:List UInt8,A0 p t<=t.length
 |[]=>p0 _
 | b::t=>by
   have:=a5b p t;unfold A0;split<;>simp only[i7]<;>omega
theorem c0o:∀t:List UInt8,V9 t<=t.length
 |[]=>p0 _
 | b::t=>by
   have:=c0o t;unfold V9;split<;>simp only[i7]<;>omega
theorem b0D:∀(k:Nat) (t:List UInt8),t.length<=k->∀s n,B9 t=some (s,n)->1<=n/\n<=t.length
 |k,[],_,s,n,h=>by cases h
 |0,c::t,hk,_,_,_=>by simp at hk
 | k + 1, c::t,hk,s,n,h=>by
   unfold B9 at h;simp only[i7] at hk⊢;split at h
   . cases h;omega
   split at h
   . cases h
   split at h
   . match t,h,hk with
     |[],h,_=>cases h
     | d ::t,h,hk=>
       simp only[i7] at hk⊢;simp only at h;split at h
       . split at h
         . rename_i s' n' hq;cases h;have:=b0D k t (by omega) _ _ hq;omega
         . cases h
       . cases h
   . split at h
     . rename_i s' n' hq;cases h;have:=b0D k t (by omega) _ _ hq;omega
     . cases h
theorem c9H (s:List UInt8)(n:Nat):(a1n s n).2.2=n:=by
 unfold a1n;split<;>(try split)<;>rfl
theorem d0Q (c:UInt8)(t:List UInt8):1<=(C4 (c::t)).2.2/\(C4 (c::t)).2.2<=t.length+1:=by
 have h1:=a5b false t;have h2:=a5b true t;simp only[C4];split
 . exact⟨by simp,by simp;omega⟩
 split
 . rw[c9H];omega
 split
 . split
   . rename_i s n hq;have:=b0D _ t (p0 _) _ _ hq;dsimp only;omega
   . dsimp only;omega
 split
 . rename_i hd;cases t with
   |nil=>cases hd
   |cons d t=>simp only[i7];omega
 split<;>(dsimp only;omega)
theorem a5f (c:UInt8)(t:List UInt8):1<=(w7 (c::t)).2.2/\(w7 (c::t)).2.2<=t.length+1:=by
 have h1:=c0o t;simp only[w7];split
 . dsimp only;omega
 split
 . dsimp only;omega
 . exact d0Q c t
theorem c0Q:∀(k j:Nat) (r:List UInt8) (a:Nat),r.length<k->r.length<j->a6J k r a=a6J j r a
 |0,_,_,_,h,_=>by omega
 |_,0,_,_,_,h=>by omega
 |_+1,_+1,[],_,_,_=>rfl
 | k+1,j+1,c::t,a,hk,hj=>by
   have:=a5f c t;simp only[i7] at hk hj;simp only[a6J];rw[c0Q k j _ _ (by rw[K2,i7];omega) (by rw[K2,i7];omega)]
theorem b6a:∀(k j:Nat) (r:List UInt8) (a:Nat) (en:Int) (nb:Nat),r.length<k->r.length<j->a3w k r a en nb=a3w j r a en nb
 |0,_,_,_,_,_,h,_=>by omega
 |_,0,_,_,_,_,_,h=>by omega
 |_+1,_+1,[],_,_,_,_,_=>rfl
 | k+1,j+1,c::t,a,en,nb,hk,hj=>by
   have:=a5f c t;simp only[i7] at hk hj;have ih:=λa en nb=>b6a k j ((c::t).drop (w7 (c::t)).2.2) a en nb (by rw[K2,i7];omega) (by rw[K2,i7];omega);simp only[a3w,ih]
theorem c0S (a:Nat):toks [] a=[⟨6,[],a⟩]:=rfl
theorem c3G (a:Nat)(en:Int)(nb:Nat):bads [] a en nb=[]:=rfl
theorem a8O (c:UInt8)(t:List UInt8)(a:Nat):toks (c::t) a=if a1j (w7 (c::t)).1 then⟨(w7 (c::t)).1,(w7 (c::t)).2.1,a⟩::toks ((c::t).drop (w7 (c::t)).2.2) (a+(w7 (c::t)).2.2) else toks ((c::t).drop (w7 (c::t)).2.2) (a+(w7 (c::t)).2.2):=by
 have:=a5f c t;unfold toks;conv=>lhs;unfold a6J
 dsimp only;rw[c0Q (c::t).length _ _ _ (by rw[K2,i7];omega) (Nat.lt_succ_self _)]
theorem b1T (c:UInt8)(t:List UInt8)(a:Nat)(en:Int)(nb:Nat):bads (c::t) a en nb=
 if(w7 (c::t)).1=0 then
  if(a:Int)≠en/\nb<64 then a::bads ((c::t).drop (w7 (c::t)).2.2) (a+(w7 (c::t)).2.2) (a+(w7 (c::t)).2.2:Nat) (nb+1)
  else bads ((c::t).drop (w7 (c::t)).2.2) (a+(w7 (c::t)).2.2) (a+(w7 (c::t)).2.2:Nat) nb
 else bads ((c::t).drop (w7 (c::t)).2.2) (a+(w7 (c::t)).2.2) en nb:=by
 have:=a5f c t;have ih:=λa en nb=>b6a (c::t).length (((c::t).drop (w7 (c::t)).2.2).length+1) ((c::t).drop (w7 (c::t)).2.2) a en nb (by rw[K2,i7];omega) (Nat.lt_succ_self _);unfold bads;conv=>lhs;unfold a3w
 simp only[ih]
def Tk.bare (x:Tk):Nat×List UInt8:=(x.kind,x.text)
def good (s:List UInt8)(x:Tk):Prop:=(x.kind=4->s.head?=some 34)/\(x.kind≠4->x.text≠[]/\x.text<+:s)
theorem d0O (c:UInt8)(t:List UInt8)(a:Nat)(h:a1j (C4 (c::t)).1=true):good (c::t) ⟨(C4 (c::t)).1,(C4 (c::t)).2.1,a⟩:=by
 have tk:∀n,(c::t).take (n+1)≠[]/\(c::t).take (n+1)<+:c::t:=λn=>⟨by simp,List.take_prefix _ _⟩
 simp only[C4] at h⊢;split
 . exact⟨λh=>absurd (show(_:Nat)=4 from h) (by dsimp only;omega),λ_=>tk _⟩
 rename_i h1;rw[c8 h1] at h;split
 . rename_i h2;rw[d4 h2] at h;simp only[a1n] at h⊢;split
   . exact⟨λh=>absurd (show(_:Nat)=4 from h) (by dsimp only;omega),λ_=>tk _⟩
   rename_i h3;rw[c8 h3] at h;split
   . exact⟨λh=>absurd (show(_:Nat)=4 from h) (by dsimp only;omega),λ_=>tk _⟩
   . rename_i h4;rw[c8 h4] at h;cases h
 rename_i h2;rw[c8 h2] at h;split
 . rename_i h3;rw[d4 h3] at h;cases hq:B9 t with
   |none=>rw[hq] at h;cases h
   |some x=>exact⟨λ_=>by rw[h3];rfl,λh=>absurd rfl h⟩
 rename_i h3;rw[c8 h3] at h;split
 . exact⟨λh=>absurd (show(_:Nat)=4 from h) (by dsimp only;omega),λ_=>tk 1⟩
 rename_i h4;rw[c8 h4] at h;split
 . exact⟨λh=>absurd (show(_:Nat)=4 from h) (by dsimp only;omega),λ_=>tk 0⟩
 . rename_i h5;rw[c8 h5] at h;cases h
theorem d2H (c:UInt8)(t:List UInt8)(a:Nat)(h:a1j (w7 (c::t)).1=true):good (c::t) ⟨(w7 (c::t)).1,(w7 (c::t)).2.1,a⟩:=by
 simp only[w7] at h⊢;split
 . rename_i h1;rw[d4 h1] at h;cases h
 rename_i h1;rw[c8 h1] at h;split
 . rename_i h2;rw[d4 h2] at h;cases h
 rename_i h2;rw[c8 h2] at h;exact d0O c t a h
theorem c0R:∀(k:Nat) (r:List UInt8) (a:Nat),r.length<=k->∃i,toks r a=i++[⟨6,[],a+r.length⟩]/\∀x∈i,a<=x.at_/\x.at_<a+r.length/\a1j x.kind=true/\good (r.drop (x.at_-a)) x
 |_,[],a,_=>⟨[],rfl,by simp⟩
 |0,c::t,_,h=>by simp at h
 | k + 1,c::t,a,h=>by
   have h1:=a5f c t;simp only[i7] at h⊢;obtain⟨i,hi,hx⟩:=c0R k ((c::t).drop (w7 (c::t)).2.2) (a+(w7 (c::t)).2.2) (by rw[K2,i7];omega);rw[K2,i7] at hi hx;have e:a+(w7 (c::t)).2.2+(t.length+1-(w7 (c::t)).2.2)=a+(t.length+1):=by omega
   rw[e] at hi hx;have hx':∀x∈i,a<=x.at_/\x.at_<a+(t.length+1)/\a1j x.kind=true/\good ((c::t).drop (x.at_-a)) x:=by
    intro x hm;obtain⟨h3,h4,h5,h6⟩:=hx x hm;rw[a5A,show(w7 (c::t)).2.2+(x.at_-(a+(w7 (c::t)).2.2))=x.at_-a by omega] at h6;exact⟨by omega,h4,h5,h6⟩
   rw[a8O,hi];split
   . rename_i hk;refine⟨_::i,rfl,λx hm=>?_⟩;rcases p8.1 hm with rfl|hm
     . refine⟨p0 _,by dsimp only;omega,hk,?_⟩;rw[Nat.sub_self];exact d2H c t a hk
     . exact hx' x hm
   . exact⟨i,rfl,hx'⟩
theorem a0z {c:UInt8}:∀{s w r:List UInt8},C1 c s=(w,r,true)->s=w++c::r/\c∉w
 |[],w,r,h=>by simp[C1] at h
 | b ::s,w,r,h=>by
   by_cases hb:b=c
   . subst hb;simp[C1] at h;obtain⟨rfl,rfl⟩:=h;simp
   . have hb':(b !=c)=true:=by simpa using hb
     have hb2:(b==c)=false:=by simpa using hb
     have ih:= @a0z c s (s.takeWhile (· !=c)) r
     simp only[C1,List.takeWhile_cons,a5z,hb',if_true,List.any_cons,hb2,Bool.false_or,Prod.mk.injEq] at h ih;obtain⟨rfl,h2,h3⟩:=h;have:=ih ⟨trivial,h2,h3⟩;exact⟨by rw[q8,<-this.1],by simp only[p8,not_or];exact⟨Ne.symm hb,this.2⟩⟩
theorem X7 {c:UInt8}:∀{s w r:List UInt8},C1 c s=(w,r,false)->s=w/\r=[]/\c∉w
 |[],w,r,h=>by simp[C1] at h;simp[h]
 | b ::s,w,r,h=>by
   by_cases hb:b=c
   . subst hb;simp[C1] at h
   . have hb':(b !=c)=true:=by simpa using hb
     have hb2:(b==c)=false:=by simpa using hb
     have ih:= @X7 c s (s.takeWhile (· !=c)) r
     simp only[C1,List.takeWhile_cons,a5z,hb',if_true,List.any_cons,hb2,Bool.false_or,Prod.mk.injEq] at h ih;obtain⟨rfl,h2,h3⟩:=h;have:=ih ⟨trivial,h2,h3⟩;exact⟨by rw[<-this.1],this.2.1,by simp only[p8,not_or];exact⟨Ne.symm hb,this.2.2⟩⟩
theorem a9G {c:UInt8}:∀{w:List UInt8} (r:List UInt8),c∉w->C1 c (w++c::r)=(w,r,true)
 |[],r,_=>by simp[C1]
 | b::w,r,h=>by
   simp only[p8,not_or] at h;have hb':(b !=c)=true:=by simpa using Ne.symm h.1
   have ih:=a9G r h.2;simp only[C1,Prod.mk.injEq,q8,List.takeWhile_cons,a5z,hb',if_true,List.any_cons] at ih⊢;obtain⟨h1,h2,h3⟩:=ih;exact⟨by rw[h1],h2,by rw[h3];simp⟩
theorem b2j {c:UInt8}:∀{w:List UInt8},c∉w->C1 c w=(w,[],false)
 |[],_=>rfl
 | b::w,h=>by
   simp only[p8,not_or] at h;have hb':(b !=c)=true:=by simpa using Ne.symm h.1
   have ih:=b2j h.2;simp only[C1,Prod.mk.injEq,List.takeWhile_cons,a5z,hb',if_true,List.any_cons] at ih⊢;obtain⟨h1,h2,h3⟩:=ih;have hb2:(b==c)=false:=by simpa using Ne.symm h.1
   exact⟨by rw[h1],h2,by rw[h3,hb2];rfl⟩
theorem b7b {b:UInt8}(h:p4 b=true):inB b=true:=by simp[inB,h]
theorem a5c (y:List UInt8):∀{x:List UInt8},x.all p4=true->A0 true (x++y)=x.length+A0 true y
 |[],_=>by simp
 | b::x,h=>by
   simp only[F8,f0] at h;rw[q8,A0,b7b h.1,a2k,d4 rfl,a5c y h.2,i7];omega
theorem b9S {y:List UInt8}(h:a0C y=true):A0 true (58::y)=1+A0 true y:=by
 rw[A0,ptB,h];simp;omega
theorem d1n {y:List UInt8}(h:a0C y=true):A0 true (46::y)=1+A0 true y:=by
 rw[A0,ptB,h];simp;omega
theorem a6f {x:List UInt8}(y:List UInt8)(h:x.all p4=true)(hx:x≠[]):a0C (x++y)=true:=by
 cases x with
 |nil=>exact absurd rfl hx
 |cons b x=>simp only[F8,f0] at h;exact h.1
theorem a4W {s:List UInt8}(h:E4 s=true):s.all p4=true/\s≠[]:=by
 simp only[E4,G0,f0,j0] at h;refine⟨h.1.2.2,?_⟩;rintro rfl;have:=h.1.1;simp at this
theorem c6P {s:List UInt8}(h:¬X9 s<0):s.all p4=true/\s≠[]:=by
 unfold X9 at h;split at h
 . rename_i h1;simp only[f0,j0] at h1;refine⟨h1.2.2,?_⟩;rintro rfl;have:=h1.1;simp at this
 . exact absurd (by decide) h
theorem b3X {s:List UInt8}(h:¬F7 s<0):s.all p4=true/\s≠[]:=by
 unfold F7 at h;split at h
 . split at h
   . rename_i h1;simp only[f0] at h1;simp[h1.1,h1.2.1]
   . exact absurd (by decide) h
 . exact absurd (by decide) h
structure Shape (u:List UInt8) where
 a:List UInt8
 y:List UInt8
 eq:u=a++y
 dg:a.all p4=true
 ne:a≠[]
 more:y≠[]
 run:∀z,A0 true z=0->A0 true (y++z)=y.length
 bad:∃b∈u,p4 b=false
theorem b1c {u:List UInt8}{v:Int}(h:W7 u=some v):Nonempty (Shape u):=by
 rcases hp:C1 46 u with⟨w,f,p⟩
 rcases hq:C1 58 w with⟨a,r,c⟩
 rcases hr:C1 58 r with⟨b,r2,c2⟩
 simp only[W7,hp,hq,a2J,hr] at h;by_cases h1:E4 a=false\/(a.length:Int)>13\/(if p=true then X9 f else 0)<0\/(c=false/\p=false)
 . rw[d4 h1] at h;cases h
 rw[c8 h1] at h;simp only[not_or,Bool.not_eq_false] at h1;obtain⟨hA,_,hF,hC⟩:=h1;have ha:=a4W hA;obtain ⟨F,hu,hFr⟩:∃F,u=w++F/\((p=true/\∃f,F=46::f/\f.all p4=true/\f≠[])\/(p=false/\F=[])):=by
  cases p with
  | true=>
    have:=c6P (s:=f) (by simpa using hF);exact⟨46::f,(a0z hp).1, .inl ⟨rfl,f,rfl,this.1,this.2⟩⟩
  |false=>exact⟨[],by rw[R4];exact(X7 hp).1, .inr ⟨rfl,rfl⟩⟩
 have runF:∀z,A0 true z=0->A0 true (F++z)=F.length:=by
  intro z hz;rcases hFr with⟨_,f,rfl,h1,h2⟩|⟨_,rfl⟩
  . rw[q8,d1n (a6f z h1 h2),a5c z h1,hz,i7];omega
  . simpa using hz
 cases c with
 | false=>
   obtain⟨rfl,rfl,_⟩:=X7 hq;rcases hFr with⟨_,f,rfl,h1,h2⟩|⟨rfl,_⟩
   . exact⟨⟨w,46::f,hu,ha.1,ha.2,by simp,runF,46,by rw[hu];simp,by decide⟩⟩
   . simp at hC
 | true =>
   obtain⟨rfl,hnw⟩:=a0z hq;simp only[if_true] at h;split at h
   . cases h
   rename_i tt ht;split at ht
   . cases ht
   rename_i hb;have hb:=b3X hb;obtain⟨R,hR,runR,hdR⟩:∃R,r=R/\(∀z,A0 true z=0->A0 true (R++(F++z))=R.length+F.length)/\∀z,a0C (R++z)=true:=by
    refine⟨r,rfl,λz hz=>?_,λz=>?_⟩
    . cases c2 with
      | false=>
        obtain⟨rfl,rfl,_⟩:=X7 hr;rw[a5c _ hb.1,runF z hz]
      | true=>
        obtain⟨rfl,_⟩:=a0z hr;simp only[if_true] at ht;split at ht
        . cases ht
        rename_i hc;have hc:=b3X hc;rw[n9,a5c _ hb.1,q8,b9S (a6f _ hc.1 hc.2),a5c _ hc.1,runF z hz,j6,i7];omega
    . cases c2 with
      | false=>
        obtain⟨rfl,rfl,_⟩:=X7 hr;exact a6f _ hb.1 hb.2
      | true=>
        obtain⟨rfl,_⟩:=a0z hr;rw[n9];exact a6f _ hb.1 hb.2
   subst hR;refine⟨⟨a,58::(r++F),by rw[hu];simp,ha.1,ha.2,by simp,λz hz=>?_,58,by rw[hu];simp,by decide⟩⟩;rw[q8,n9,b9S (hdR _),runR z hz,i7,j6];omega
theorem b9f {u:List UInt8}(h:∃b∈u,p4 b=false):E4 u=false:=by
 cases hn:E4 u with
 |false=>rfl
 | true=>
   obtain⟨b,hb,h2⟩:=h;have:=n7.1 (a4W hn).1 b hb;rw[this] at h2;cases h2
theorem c8C:∀b:UInt8,p4 b=true->L7 b=false:=by
 intro b h;have:=isDg_iff.1 h;simp only[L7,W8,U2,L4];omega
theorem d0S {s:List UInt8}{v:Int}(h:I9 s=some v){z:List UInt8}(hz:A0 true z=0):C4 (s++z)=(3,s,s.length):=by
 have main:∀u,∀S:Shape u,A0 true (u++z)=u.length/\a0C (u++z)=true:=by
  intro u S;rw[S.eq,n9];exact⟨by rw[a5c _ S.dg,S.run z hz,j6],a6f _ S.dg S.ne⟩
 unfold I9 at h;split at h
 . rename_i u;split at h
   . rename_i v' hv;obtain⟨S⟩:=b1c hv;obtain⟨h1,h2⟩:=main u S;have hN:I9 (45::u)=some v:=by rw[I9,hv];exact h
     have hI:Y1 (45::u)=false:=by rw[Y1,b9f S.bad];rfl
     rw[q8,C4,c8 (by decide),h2,h1,show((45:UInt8)==45)=true from rfl,W9,Bool.or_true,d4 rfl];rw[show(45::(u++z)).take (u.length+1)=45::u by simp,a1n,hI,hN];rfl
   . cases h
 . obtain ⟨S⟩:=b1c h;obtain⟨h1,h2⟩:=main s S;have hN:I9 s=some v:=by
    unfold I9;split
    . simp_all
    . exact h
   have hI:Y1 s=false:=by
    unfold Y1;split
    . simp_all
    . exact b9f S.bad
   cases s with
   | nil=>
     exfalso;have h3:=S.eq;have h4:=S.ne;exact h4 (List.append_eq_nil_iff.1 h3.symm).1
   | cons b s=>
     have hb:p4 b=true:=h2;rw[q8] at h1⊢;rw[A0,b7b hb,a2k,d4 rfl,i7] at h1;rw[C4,c8 (by rw[c8C b hb];decide),hb,a2k,d4 rfl,h1];rw[show(b::(s++z)).take (s.length+1)=b::s by simp,a1n,hI,hN];rfl
theorem c7a {s:List UInt8}{v:Int}(h:I9 s=some v):∃b t,s=b::t/\blB b=false/\b≠35:=by
 have main:∀u,∀_:Shape u,∃b t,u=b::t/\p4 b=true:=by
  intro u S;have:=S.eq;have h2:=S.ne;have h3:=S.dg;match ha:S.a with
  |[]=>exact absurd ha h2
  | b::a=>
    rw[ha] at this h3;simp only[F8,f0] at h3;exact⟨b,a++S.y,this,h3.1⟩
 have dgs:∀b,p4 b=true->blB b=false/\b≠35:=by
  intro b hb;have:=isDg_iff.1 hb;constructor
  . simp only[blB,List.contains_eq_mem,p8,Z1,or_false,L4,not_or];refine⟨?_,?_,?_,?_⟩<;>(rintro rfl;revert hb;decide)
  . rintro rfl;revert hb;decide
 unfold I9 at h;split at h
 . exact⟨_,_,rfl,by decide,by decide⟩
 . obtain⟨S⟩:=b1c h;obtain⟨b,t,rfl,hb⟩:=main s S;exact⟨b,t,rfl,dgs b hb⟩
theorem chr {k:Nat}(h:k<10):(UInt8.ofNat (48+k)).toNat=48+k:=by
 rw[UInt8.toNat_ofNat'];omega
theorem a0w {k:Nat}(h:k<10):p4 (UInt8.ofNat (48+k))=true:=by
 rw[isDg_iff,chr h];omega
theorem a9K (u:Nat):(Lib.decDigits u).all p4=true/\numN (Lib.decDigits u)=u/\Lib.decDigits u≠[]/\(u≠0->(Lib.decDigits u).head?≠some 48)/\∀k,u<10^(k+1)->(Lib.decDigits u).length<=k+1:=by
 induction u using Nat.strongRecOn with
 | _ u ih=>
   rw[Lib.decDigits];split
   . rename_i h;refine⟨by simp only[F8,a2l,U3,a0w h],by simp only[numN,Z0,List.foldl_nil,chr h];omega,by simp,λh0=>?_,λk _=>by simp⟩;intro e;have e:UInt8.ofNat (48+u)=48:=by simpa using e
     have:=d6 UInt8.toNat e;rw[chr h] at this;have h48:(48:UInt8).toNat=48:=rfl;omega
   . rename_i h;obtain⟨h1,h2,h3,h4,h5⟩:=ih (u/10) (by omega);refine⟨by rw[List.all_append,h1];simp only[F8,a2l,U3,a0w (Nat.mod_lt u (by decide:0<10))],?_,by simp,λ_=>?_,λk hk=>?_⟩
     . rw[b0z,h2,chr (Nat.mod_lt u (by decide))];omega
     . rw[List.head?_append];have:=h4 (by omega);cases hd:(Lib.decDigits (u/10)).head? with
       |none=>rw[List.head?_eq_none_iff] at hd;exact absurd hd h3
       |some x=>rw[hd] at this;simpa using this
     . cases k with
       |zero=>simp at hk;omega
       | succ k=>
         have:=h5 k (by rw[Nat.pow_succ] at hk;omega);rw[j6,List.length_singleton];omega
theorem a9Y {n:Int}(h:0<=n):Lib.itoa n=Lib.decDigits n.toNat:=by rw[Lib.itoa,c8 (by omega)]
theorem a7U {n:Int}(h:0<=n):(Lib.itoa n).all p4=true:=by rw[a9Y h];exact(a9K _).1
theorem b2S {n:Int}(h:0<=n):(numN (Lib.itoa n):Int)=n:=by rw[a9Y h,(a9K _).2.1];omega
theorem b8g {n:Int}(h0:0<=n)(h:n<10000000000000):E4 (Lib.itoa n)=true/\(Lib.itoa n).length<=13:=by
 rw[a9Y h0];obtain⟨h1,h2,h3,h4,h5⟩:=a9K n.toNat;have hl:=h5 12 (by omega);refine⟨?_,hl⟩;have hp:1<=(Lib.decDigits n.toNat).length:=by
  cases hd:Lib.decDigits n.toNat with
  |nil=>exact absurd hd h3
  |cons=>simp
 simp only[E4,G0,h1,U3,f0,j0,C0];refine⟨⟨by omega,by omega⟩,?_⟩;by_cases e:n.toNat=0
 . left;rw[e,Lib.decDigits,dif_pos (by omega)];rfl
 . exact .inr (h4 e)
theorem c0Z {n:Int}(h0:0<=n)(h1:n<100):R2 n=[UInt8.ofNat (48+(n/10).toNat),UInt8.ofNat (48+(n%10).toNat)]:=by
 rw[c0Y h0 h1,a6i (by omega) (by omega),a6i (by omega) (by omega)];rfl
theorem b4y {n:Int}(h0:0<=n)(h1:n<60):F7 (R2 n)=n:=by
 rw[c0Z h0 (by omega)];have a:=a0w (k:=(n/10).toNat) (by omega);have b:=a0w (k:=(n%10).toNat) (by omega);have a':=chr (k:=(n/10).toNat) (by omega);have b':=chr (k:=(n%10).toNat) (by omega);simp only[F7,a,b,W9,j0];rw[d4 (by omega)];simp only[numN,Z0,List.foldl_nil,a',b'];omega
theorem a2M {s:List UInt8}(h:s.all p4=true){c:UInt8}(hc:p4 c=false):c∉s:=by
 intro hm;have:=n7.1 h c hm;rw[hc] at this;cases this
theorem a8P {n:Int}(h0:0<=n)(h1:n<100):(R2 n).all p4=true:=by
 rw[c0Z h0 h1];simp only[F8,a2l,U3,a0w (k:=(n/10).toNat) (by omega),a0w (k:=(n%10).toNat) (by omega)]
theorem d4d (l:List UInt8):∃k,l=Lib.trimRightB l 48++List.replicate k 48:=by
 have:=List.takeWhile_append_dropWhile (p:=(· ==(48:UInt8))) (l:=l.reverse)
 have h2:=d6 List.reverse this;rw[List.reverse_append,List.reverse_reverse] at h2;refine⟨(l.reverse.takeWhile (· ==(48:UInt8))).length,?_⟩
 have h3:(l.reverse.takeWhile (· ==(48:UInt8))).reverse=List.replicate (l.reverse.takeWhile (· ==(48:UInt8))).length 48:=by
  rw[List.eq_replicate_iff];refine⟨by simp,λb hb=>?_⟩;rw[List.mem_reverse] at hb;have:=n7.1 (List.all_takeWhile (p:=(· ==(48:UInt8))) (l:=l.reverse)) b hb
  simpa using this
 rw[h3] at h2;exact h2.symm
theorem b3o (w:List UInt8):∀k,numN (w++List.replicate k 48)=numN w*10^k
 |0=>by simp
 | k+1=>by
   rw[List.replicate_succ',<-n9,b0z,b3o w k,Nat.pow_succ,<-Nat.mul_assoc (numN w)];have:(48:UInt8).toNat=48:=rfl;omega
theorem d2l {u:Int}(h0:0<=u)(h1:u<1000000):(numN ((Lib.itoa (1000000+u)).drop 1):Int)=u/\((Lib.itoa (1000000+u)).drop 1).all p4=true/\((Lib.itoa (1000000+u)).drop 1).length=6:=by
 rw[c0n h0 h1];have c:=λ(k:Nat) (hk:k<10)=>chr hk;refine⟨?_,?_,rfl⟩
 . have st:∀(l:List UInt8) (a b:Int),(numN l:Int)=a->0<=b->b/10=a->(numN (l++[UInt8.ofNat (48+(b%10).toNat)]):Int)=b:=by
    intro l a b h2 h3 h4;rw[b0z,chr (by omega)];omega
   have e1:=st [] 0 (u/100000) rfl (by omega) (by omega);have e2:=st _ _ (u/10000) e1 (by omega) (by omega);have e3:=st _ _ (u/1000) e2 (by omega) (by omega);have e4:=st _ _ (u/100) e3 (by omega) (by omega);have e5:=st _ _ (u/10) e4 (by omega) (by omega);exact st _ _ u e5 (by omega) (by omega)
 . simp only[F8,a2l,U3];rw[a0w (k:=(u/100000%10).toNat) (by omega),a0w (k:=(u/10000%10).toNat) (by omega),a0w (k:=(u/1000%10).toNat) (by omega),a0w (k:=(u/100%10).toNat) (by omega),a0w (k:=(u/10%10).toNat) (by omega),a0w (k:=(u%10).toNat) (by omega)];rfl
theorem c6Q {u:Int}(h0:0<u)(h1:u<1000000):X9 (Lib.trimRightB ((Lib.itoa (1000000+u)).drop 1) 48)=u:=by
 obtain⟨h2,h3,h4⟩:=d2l (by omega:0<=u) h1;have hne:=d2m h0 h1;generalize (Lib.itoa (1000000+u)).drop 1=d at *;obtain⟨k,hk⟩:=d4d d;generalize Lib.trimRightB d 48=w at *;have hl:w.length+k=6:=by rw[<-h4,hk];simp
 have hw:1<=w.length:=by cases w with|nil=>exact absurd rfl hne|cons=>simp
 rw[hk,List.all_append,f0] at h3;rw[hk,b3o] at h2;rw[X9,r9 (by omega),r9 (by omega),h3.1,show 6-w.length=k by omega];simpa using h2
theorem c0E {n:Int}(h0:0<=n)(h1:n<=1099511627776):W7 (a0Z n)=some n:=by
 have hs0:0<=n/1000000:=by omega
 have hs1:n/1000000<=1099511:=by omega
 have hu0:0<=n%1000000:=by omega
 have hu1:n%1000000<1000000:=by omega
 have hn:1000000*(n/1000000)+n%1000000=n:=by omega
 unfold a0Z;generalize n/1000000=s at *;generalize n%1000000=u at *;obtain⟨a,r,t,hc,ha,har,han,hm,hno⟩:∃(a r:List UInt8) (t:Int),a4B s=a++58::r/\(E4 a=true/\a.length<=13)/\58∉a/\(numN a:Int)=t/\a2J true r t=some s/\46∉a++58::r:=by
  unfold a4B;split
  . rename_i h;refine⟨Lib.itoa (s/3600),R2 (s/60%60)++58::R2 (s%60),s/3600,by simp,b8g (by omega) (by omega),a2M (a7U (by omega)) (by decide),b2S (by omega),?_,?_⟩
    . have hcut:=a9G (c:=(58:UInt8)) (R2 (s%60)) (a2M (a8P (n:=s/60%60) (by omega) (by omega)) (by decide));simp only[a2J,hcut,if_true];rw[b4y (by omega) (by omega),b4y (by omega) (by omega),c8 (by omega),c8 (by omega)];congr 1;omega
    . simp only[A8,p8,not_or];exact⟨a2M (a7U (by omega)) (by decide),by decide,a2M (a8P (by omega) (by omega)) (by decide),by decide,a2M (a8P (by omega) (by omega)) (by decide)⟩
  . rename_i h;refine⟨Lib.itoa (s/60),R2 (s%60),s/60,by simp,b8g (by omega) (by omega),a2M (a7U (by omega)) (by decide),b2S (by omega),?_,?_⟩
    . have hcut:=b2j (c:=(58:UInt8)) (a2M (a8P (n:=s%60) (by omega) (by omega)) (by decide));simp only[a2J,hcut,if_true];rw[b4y (by omega) (by omega),c8 (by omega)];simp only[Y8,if_false];congr 1;omega
    . simp only[A8,p8,not_or];exact⟨a2M (a7U (by omega)) (by decide),by decide,a2M (a8P (by omega) (by omega)) (by decide)⟩
 rw[hc];have hq:=a9G r har;have hb:¬(s>1099511627776\/1000000*s+u>1099511627776):=by omega
 have h13:¬((a.length:Int)>13):=by omega
 unfold a4K;split
 . rename_i hu;have hp:=a9G (c:=(46:UInt8)) (Lib.trimRightB ((Lib.itoa (1000000+u)).drop 1) 48) hno;have hf:=c6Q hu hu1;simp only[W7,a4k,hp,hq,hf,if_true,ha.1,h13,han,hm];rw[c8 (by simp;omega),c8 hb,hn]
 . rename_i hu;have hp:=b2j hno;have h00:u=0:=by omega
   subst h00;simp only[W7,R4,hp,hq,ha.1,h13,han,hm];rw[c8 (by simp)];simp only[Y8,if_false];rw[c8 hb,hn]
theorem d3M {t:Int}(h:Y0 t=true):I9 (timeS t)=some t:=by
 rw[timeS,d4 h,a8M];simp only[Y0,inR,f0,j0] at h;split
 . rename_i hneg;rw[a4k,I9,c0E (n:= -t) (by omega) (by omega)];simp only;rw[c8 (by omega),Int.neg_neg]
 . rename_i hpos;have hb:=c0E (n:=t) (by omega) (by omega);obtain⟨S⟩:=b1c hb;unfold I9;split
   . rename_i r hr;exfalso;have h1:a0C (a0Z t)=true:=by
      have:=a6f S.y S.dg S.ne;rwa[<-S.eq] at this
     rw[hr] at h1;exact absurd h1 (by show ¬p4 45=true;decide)
   . exact hb
theorem a9T {c:UInt8}{r:List UInt8}:∀{w:List UInt8},c∉w->Lib.index (w++c::r) [c]=(w.length:Int)
 | [],_=>by
   rw[y8,Lib.index];simp[List.isPrefixOf]
 | b::w,h=>by
   simp only[p8,not_or] at h;have ih:=a9T (r:=r) h.2;have hp:([c]:List UInt8).isPrefixOf (b::(w++c::r))=false:=by simp[List.isPrefixOf,h.1]
   rw[q8,Lib.index,hp,ih];have:(((w.length:Nat):Int)== -1)=false:=by rw[beq_eq_false_iff_ne];omega
   rw[this];simp
theorem b2J {c:UInt8}:∀{s:List UInt8},c∉s->Lib.index s [c]= -1
 |[],_=>rfl
 | b::s,h=>by
   simp only[p8,not_or] at h;have ih:=b2J h.2;have hp:([c]:List UInt8).isPrefixOf (b::s)=false:=by simp[List.isPrefixOf,h.1]
   rw[Lib.index,hp,ih];rfl
theorem c8p (c:UInt8)(s:List UInt8):Lib.cut s [c]=C1 c s:=by
 rcases hq:C1 c s with⟨w,r,_|_⟩
 . obtain⟨rfl,rfl,hn⟩:=X7 hq;rw[Lib.cut,b2J hn];rfl
 . obtain⟨rfl,hn⟩:=a0z hq;rw[Lib.cut,a9T hn,d4 (by omega),U4];simp
theorem b4j (s sep:List UInt8):a0Q s sep=Lib.splitK sep 0 (Lib.count s sep) s:=by
 rw[a0Q,Lib.splitB_data]
theorem b0U {c:UInt8}{s:List UInt8}(h:c∉s):a0Q s [c]=[s]:=by
 rw[b4j,Lib.count_miss (b2J h)];rfl
theorem b0T {c:UInt8}{w r:List UInt8}(h:c∉w):a0Q (w++c::r) [c]=w::a0Q r [c]:=by
 rw[b4j,b4j,Lib.count_hit (by simp) (a9T h)];have e:(w++c::r).drop (w.length+[c].length)=r:=by simp
 rw[e,Nat.add_comm 1];rw[Lib.splitK,a9T h];have:(((w.length:Nat):Int)== -1)=false:=by rw[beq_eq_false_iff_ne];omega
 rw[this,U4,e];simp
theorem d2z (c:UInt8)(s:List UInt8):a0Q s [c]≠[]:=by
 rcases hq:C1 c s with⟨w,r,_|_⟩
 . obtain⟨rfl,rfl,hn⟩:=X7 hq;rw[b0U hn];simp
 . obtain⟨rfl,hn⟩:=a0z hq;rw[b0T hn];simp
theorem b6V:∀(s:List UInt8) (acc:Nat),s.all p4=true->Lib.decFrom acc s=some (s.foldl (λa b=>10*a+(b.toNat-48)) acc)
 |[],_,_=>rfl
 | b::s,acc,h=>by
   simp only[F8,f0] at h;have hb:=isDg_iff.1 h.1;rw[Lib.decFrom,Lib.digitVal,d4 hb];simp only;rw[b6V s _ h.2,Z0,Nat.mul_comm]
theorem b1S {s:List UInt8}(h:s.all p4=true)(hne:s≠[]):Lib.atoi s=some (numN s:Int):=by
 cases s with
 |nil=>exact absurd rfl hne
 | cons b r=>
   have hb:=isDg_iff.1 (by simp only[F8,f0] at h;exact h.1);have h45:(b==45)=false:=by rw[beq_eq_false_iff_ne];rintro rfl;revert hb;decide
   have h43:(b==43)=false:=by rw[beq_eq_false_iff_ne];rintro rfl;revert hb;decide
   have hd:Lib.decNat (b::r)=some (numN (b::r)):=by
    unfold Lib.decNat;simp only[List.isEmpty_cons,Y8,if_false];exact b6V _ _ h
   rw[Lib.atoi,h45,h43];simp only[Y8,if_false];rw[hd];rfl
theorem d2k (p:List UInt8):(G0 p 2 2=true/\∃a r,p=a::r/\(a.toNat:Int)<=53/\F7 p=(numN p:Int))\/(G0 p 2 2=true/\F7 p= -1/\∃a r,p=a::r/\(a.toNat:Int)>53)\/(G0 p 2 2=false/\F7 p= -1):=by
 match p with
 |[]=>exact .inr (.inr ⟨rfl,rfl⟩)
 |[_]=>exact .inr (.inr ⟨by simp[G0],rfl⟩)
 | [a,b]=>
   have e:G0 [a,b] 2 2=(p4 a&&p4 b):=by simp[G0]
   rw[e];by_cases h1:p4 a&&p4 b
   . rw[h1];simp only[f0] at h1;by_cases h2:(a.toNat:Int)<=53
     . exact .inl ⟨rfl,a,[b],rfl,h2,by rw[F7,h1.1,h1.2,r9 h2];rfl⟩
     . exact .inr (.inl ⟨rfl,by rw[F7,h1.1,h1.2,D5 h2];rfl,a,[b],rfl,by omega⟩)
   . have h1:(p4 a&&p4 b)=false:=by simpa using h1
     refine .inr (.inr ⟨h1,?_⟩);rw[F7];rw[c8];intro h;simp only[f0] at h;rw[h.1,h.2.1] at h1;cases h1
 | a::b::c::r=>
   refine .inr (.inr ⟨?_,rfl⟩);rw[G0,D5 (by simp only[i7];omega:¬(((a::b::c::r).length:Nat):Int)<=2)];simp
theorem b7I (f:List UInt8):(G0 f 1 6=true/\X9 f=(numN ((f++[48,48,48,48,48,48]).take 6):Int)/\((f++[48,48,48,48,48,48]).take 6).all p4=true)\/(G0 f 1 6=false/\X9 f= -1):=by
 cases h:G0 f 1 6
 . refine .inr ⟨rfl,?_⟩;rw[X9,c8];intro h2;simp only[f0,j0] at h2;rw[G0,r9 (by omega),r9 (by omega),h2.2.2] at h;cases h
 . refine .inl ⟨rfl,?_⟩;simp only[G0,f0,j0] at h;obtain⟨h1,h2,h3⟩:=h;have e:(f++[48,48,48,48,48,48]).take 6=f++List.replicate (6-f.length) 48:=by
    rw[List.take_append,y6 (by omega),show[48,48,48,48,48,48]=List.replicate 6 (48:UInt8) from rfl,List.take_replicate,Nat.min_eq_left (by omega)]
   rw[e,b3o,List.all_append,h3];refine⟨?_,by simp[p4]⟩;rw[X9,r9 (by omega),r9 (by omega),h3];rfl
def a2T:List (List UInt8)->Int->Option Int
 |[],t=>some t
 |p::ps,t=>if F7 p<0\/t>1099511627776 then none else a2T ps (60*t+F7 p)
def a9A (a:List UInt8)(rest:List (List UInt8))(p:Bool)(f:List UInt8):Option Int:=
 if E4 a=false\/rest.length>2\/(rest.length=0/\p=false)\/(p=true/\G0 f 1 6=false) then none
 else match a2T rest (numN a) with
  |none=>none
  |some t=>if t>1099511\/1000000*t+(numN ((f++[48,48,48,48,48,48]).take 6):Int)>1099511627776 then none else some (1000000*t+(numN ((f++[48,48,48,48,48,48]).take 6):Int))
theorem b7F:∀(s:List UInt8) (acc:Nat),acc*10^s.length<=s.foldl (λa b=>10*a+(b.toNat-48)) acc
 |[],acc=>by simp
 | b::s,acc=>by
   have ih:=b7F s (10*acc+(b.toNat-48));rw[Z0,i7,Nat.pow_succ];refine H8 ?_ ih;rw[Nat.mul_comm (10^s.length) 10,<-Nat.mul_assoc];exact a3n _ (by omega)
theorem c9I {a:List UInt8}(h:E4 a=true)(hl:¬(a.length:Int)<=13):(10000000000000:Int)<=numN a:=by
 cases a with
 |nil=>exact absurd (by simp) hl
 | cons b r=>
   have hd:=(a4W h).1;simp only[F8,f0] at hd;have hb:=isDg_iff.1 hd.1;simp only[E4,f0,C0,j0,List.head?_cons,ne_eq,H0] at h;simp only[i7] at hl;have hb':b.toNat≠48:=by
    intro e;rcases h.2 with h2|h2
    . cases h2;simp at hl
    . exact h2 (a5L.1 e)
   have:=b7F r (10*0+(b.toNat-48));have h10:10^13<=10^r.length:=Nat.pow_le_pow_right (by omega) (by omega);have h1:1*10^r.length<=(10*0+(b.toNat-48))*10^r.length:=a3n _ (by omega);have e:numN (b::r)=r.foldl (λa b=>10*a+(b.toNat-48)) (10*0+(b.toNat-48)):=rfl;rw[e];omega
theorem d3P {u w f a r:List UInt8} {p c:Bool} (hp:C1 46 u=(w,f,p)) (hq:C1 58 w=(a,r,c)):∃rest,a0Q w [58]=a::rest/\W7 u=a9A a rest p f:=by
 rw[d3Q hp hq];have hfr:((p=true/\G0 f 1 6=false)/\(if p then X9 f else 0)<0)\/(¬(p=true/\G0 f 1 6=false)/\(if p then X9 f else 0)=(numN ((f++[48,48,48,48,48,48]).take 6):Int)/\0<=(numN ((f++[48,48,48,48,48,48]).take 6):Int)):=by
  cases p with
  | false=>
    obtain⟨_,rfl,_⟩:=X7 hp;exact .inr ⟨by simp,rfl,by omega⟩
  | true=>
    rcases b7I f with⟨h1,h2,h3⟩|⟨h1,h2⟩
    . exact .inr ⟨by simp[h1],by simpa using h2,by omega⟩
    . exact .inl ⟨⟨rfl,h1⟩,by simp[h2]⟩
 have hnum:=λh=>c9I (a:=a) h;have hna:(0:Int)<=numN a:=by omega
 unfold a9A;generalize (numN ((f++[48,48,48,48,48,48]).take 6):Int)=mic at *;generalize (if p then X9 f else 0)=fr at *;generalize G0 f 1 6=df at *;clear hp;cases c with
 | false =>
   obtain⟨rfl,rfl,hn⟩:=X7 hq;refine⟨[],b0U hn,?_⟩;simp only[a2J,a2T,a8N,j8,Y8,if_false];generalize (numN w:Int)=na at *;generalize E4 w=nb at *;clear hn hq;rcases hfr with⟨h1,h2⟩|⟨h1,h2,h3⟩
   . rw[d4 (.inr (.inr (.inl h2))),d4 (.inr (.inr (.inr h1)))]
   . subst h2;cases nb with
     |false=>rw[d4 (.inl rfl),d4 (.inl rfl)]
     | true=>
       cases p with
       |false=>rw[d4 (.inr (.inr (.inr ⟨trivial,rfl⟩))),d4 (.inr (.inr (.inl ⟨trivial,rfl⟩)))]
       | true=>
         refine Eq.trans ?_ (c8 (by simpa using h1)).symm;by_cases hl:(w.length:Int)<=13
         . rw[c8 (by simp;omega)];by_cases h4:na>1099511\/1000000*na+fr>1099511627776
           . rw[d4 h4,d4 (by omega)]
           . rw[c8 h4,c8 (by omega)]
         . have:=hnum rfl hl;rw[d4 (.inr (.inl (by omega))),d4 (by omega)]
 | true =>
   obtain⟨rfl,hn⟩:=a0z hq;refine⟨a0Q r [58],b0T hn,?_⟩;rcases hr:C1 58 r with⟨b,r2,c2⟩
   rw[c9e hr];have hsb:=c0m b;cases c2 with
   | false =>
     obtain⟨rfl,rfl,hn2⟩:=X7 hr;rw[b0U hn2];simp only[a2T,a8N,i7,j8,if_true,Y8,if_false];generalize (numN a:Int)=na at *;generalize E4 a=nb at *;generalize F7 r=sb at *;clear hn hq hn2 hr;rcases hfr with⟨h1,h2⟩|⟨h1,h2,h3⟩
     . rw[d4 (.inr (.inr (.inl h2))),d4 (.inr (.inr (.inr h1)))]
     . subst h2;cases nb with
       |false=>rw[d4 (.inl rfl),d4 (.inl rfl)]
       | true=>
         refine Eq.trans ?_ (c8 (by simpa using h1)).symm;by_cases hl:(a.length:Int)<=13
         . rw [c8 (by simp;omega)];by_cases h5:sb<0
           . rw[d4 h5,d4 (.inl h5)]
           rw[c8 h5];by_cases h4:na>1099511627776
           . rw[d4 (.inr h4)];dsimp only;rw[d4 (by omega)]
           . rw[c8 (by omega)];dsimp only;by_cases h4:60*na+sb>1099511\/1000000*(60*na+sb)+fr>1099511627776
             . rw[d4 h4,d4 (by omega)]
             . rw[c8 h4,c8 (by omega)]
         . have:=hnum rfl hl;rw[d4 (.inr (.inl (by omega))),d4 (.inr (by omega))]
   | true =>
     obtain⟨rfl,hn2⟩:=a0z hr;rw[b0T hn2];rcases hr3:C1 58 r2 with⟨d,r3,c3⟩
     have hsd:=c0m r2;cases c3 with
     | false =>
       obtain⟨rfl,rfl,hn3⟩:=X7 hr3;rw[b0U hn3];simp only[a2T,a8N,i7,j8,if_true];generalize (numN a:Int)=na at *;generalize E4 a=nb at *;generalize F7 r2=sd at *;generalize F7 b=sb at *;clear hn hq hn2 hr hn3 hr3;rcases hfr with⟨h1,h2⟩|⟨h1,h2,h3⟩
       . rw[d4 (.inr (.inr (.inl h2))),d4 (.inr (.inr (.inr h1)))]
       . subst h2;cases nb with
         |false=>rw[d4 (.inl rfl),d4 (.inl rfl)]
         | true=>
           refine Eq.trans ?_ (c8 (by simpa using h1)).symm;by_cases hl:(a.length:Int)<=13
           . rw [c8 (by simp;omega)];by_cases h5:sb<0
             . rw[d4 h5,d4 (.inl h5)]
             rw[c8 h5];by_cases h6:sd<0
             . rw[d4 h6];by_cases h4:na>1099511627776
               . rw[d4 (.inr h4)]
               . rw[c8 (by omega),d4 (.inl h6)]
             rw[c8 h6];by_cases h4:na>1099511627776
             . rw[d4 (.inr h4)];dsimp only;rw[d4 (by omega)]
             rw[c8 (by omega)];by_cases h4:60*na+sb>1099511627776
             . rw[d4 (.inr h4)];dsimp only;rw[d4 (by omega)]
             rw[c8 (by omega)];dsimp only;by_cases h4:60*(60*na+sb)+sd>1099511\/1000000*(60*(60*na+sb)+sd)+fr>1099511627776
             . rw[d4 h4,d4 (by omega)]
             . rw[c8 h4,c8 (by omega)]
           . have:=hnum rfl hl;rw[d4 (.inr (.inl (by omega))),d4 (.inr (by omega))]
     | true=>
       obtain⟨rfl,hn3⟩:=a0z hr3;rw[b0T hn3];have h1:F7 (d++58::r3)<0:=by
        by_cases h:F7 (d++58::r3)<0
        . exact h
        . exfalso;have:=n7.1 (b3X h).1 58 (by simp);revert this;decide
       have h2:(a0Q r3 [58]).length≥1:=by
        have:=d2z 58 r3;cases hs:a0Q r3 [58] with
        |nil=>exact absurd hs this
        |cons=>simp
       rw[d4 (c:=_\/_) (.inr (.inl (by simp only[i7];omega)))];rw[d4 h1];simp only[a8N,if_true,ite_self]
end Go.Proofs.YteillnfhkeebjaaGreatDoor.Dx
