/- Tokens as plain functions; a comment ahead of a token; offsets. -/
import Derived.Test.YtaopegkpjhkooaaGreatDoorFp
set_option linter.all false
namespace Go.Proofs.YtaopegkpjhkooaaGreatDoor.Dx
open Go Go.RowKit Go.Proofs
set_option maxRecDepth 100000
set_option maxHeartbeats 8000000
def B6 (b:UInt8):Bool:=(decide (97<=(b.toNat:Int))&&decide ((b.toNat:Int)<=122))||(decide (65<=(b.toNat:Int))&&decide ((b.toNat:Int)<=90))
def inB (b:UInt8):Bool:=B6 b||(d9 b||b==95)
def P9:List UInt8->Bool|[]=>false|b::_=>d9 b
def ptB (b:UInt8)(t:List UInt8):Bool:=(b==58||b==46)&&P9 t
def p4 (p:Bool):List UInt8->Nat
 |[]=>0
 |b::t=>if inB b||(p&&ptB b t) then p4 p t+1 else 0
def a2l (b:UInt8):Option UInt8:=if b=34 then some 34 else if b=92 then some 92 else if b=110 then some 10 else none
def r6 :List UInt8->Option (List UInt8×Nat)
 |[]=>none
 | c :: t=>
   if c=34 then some ([],1)
   else if c<32\/c>126 then none
   else if c=92 then match t with
    |[]=>none
    | d ::t=>match a2l d with
      | some x=>match r6 t with
        |some (s,n)=>some (x::s,n+2)
        |none=>none
      |none=>none
   else match r6 t with
    |some (s,n)=>some (c::s,n+1)
    |none=>none
def sgB (b:UInt8):Bool:=[123,125,40,41,91,93,59,44,61,60,62].contains b
def blB (b:UInt8):Bool:=[32,9,10,13].contains b
def Y0 (c:UInt8)(t:List UInt8):Bool:=match t with|[]=>false|d::_=>((c==60||c==62)&&d==61)||(c==46&&d==46)
def S5 (s:List UInt8)(n:Nat):Nat×List UInt8×Nat:=if K7 s then(2,s,n) else if(B9 s).isSome then(3,s,n) else(0,[],n)
def s7:List UInt8->Nat×List UInt8×Nat
 |[]=>(0,[],1)
 | c::t=>
   if B6 c then(1,(c::t).take (p4 false t+1),p4 false t+1)
   else if d9 c||(c==45&&P9 t) then S5 ((c::t).take (p4 true t+1)) (p4 true t+1)
   else if c=34 then match r6 t with
    |some (s,n)=>(4,s,n+1)
    |none=>(0,[],1)
   else if Y0 c t then(5,(c::t).take 2,2)
   else if sgB c then(5,[c],1)
   else(0,[],1)
def J2:List UInt8->Nat
 |[]=>0
 |b::t=>if b=10 then 0 else J2 t+1
def o5:List UInt8->Nat×List UInt8×Nat
 |[]=>(7,[],0)
 |c::t=>if blB c then(7,[],1) else if c=35 then(7,[],J2 t+1) else s7 (c::t)
structure Tk where
 kind:Nat
 text:List UInt8
 at_:Nat
deriving DecidableEq
def R8 (k:Nat):Bool:=decide (1<=k/\k<=5)
def a2Q:Nat->List UInt8->Nat->List Tk
 |0,_,_=>[]
 |_+1,[],a=>[⟨6,[],a⟩]
 | k+1,c::t,a=>
   let x:=o5 (c::t)
   let r:=a2Q k ((c::t).drop x.2.2) (a+x.2.2)
   if R8 x.1 then⟨x.1,x.2.1,a⟩::r else r
def a0o:Nat->List UInt8->Nat->Int->Nat->List Nat
 |0,_,_,_,_=>[]
 |_+1,[],_,_,_=>[]
 | k+1,c::t,a,en,nb=>
   let x:=o5 (c::t)
   if x.1=0 then
    if(a:Int)≠en/\nb<64 then a::a0o k ((c::t).drop x.2.2) (a+x.2.2) (a+x.2.2:Nat) (nb+1)
    else a0o k ((c::t).drop x.2.2) (a+x.2.2) (a+x.2.2:Nat) nb
   else a0o k ((c::t).drop x.2.2) (a+x.2.2) en nb
def toks (r:List UInt8)(a:Nat):List Tk:=a2Q (r.length+1) r a
def bads (r:List UInt8)(a:Nat)(en:Int)(nb:Nat):List Nat:=a0o (r.length+1) r a en nb
theorem a1B (p:Bool):∀t:List UInt8,p4 p t<=t.length
 |[]=>Nat.le_refl _
 | b::t=>by
   have:=a1B p t
   unfold p4
   split<;>simp only[List.length_cons]<;>omega
theorem b3i:∀t:List UInt8,J2 t<=t.length
 |[]=>Nat.le_refl _
 | b::t=>by
   have:=b3i t
   unfold J2
   split<;>simp only[List.length_cons]<;>omega
theorem a5M:∀(k:Nat) (t:List UInt8),t.length<=k->∀s n,r6 t=some (s,n)->1<=n/\n<=t.length
 |k,[],_,s,n,h=>by cases h
 |0,c::t,hk,_,_,_=>by simp at hk
 | k + 1, c::t,hk,s,n,h=>by
   unfold r6 at h
   simp only[List.length_cons] at hk⊢
   split at h
   . cases h;omega
   split at h
   . cases h
   split at h
   . match t,h,hk with
     |[],h,_=>cases h
     | d ::t,h,hk=>
       simp only[List.length_cons] at hk⊢
       simp only at h
       split at h
       . split at h
         . rename_i s' n' hq
           cases h
           have:=a5M k t (by omega) _ _ hq
           omega
         . cases h
       . cases h
   . split at h
     . rename_i s' n' hq
       cases h
       have:=a5M k t (by omega) _ _ hq
       omega
     . cases h
theorem b9z (s:List UInt8)(n:Nat):(S5 s n).2.2=n:=by
 unfold S5;split<;>(try split)<;>rfl
theorem c0B (c:UInt8)(t:List UInt8):1<=(s7 (c::t)).2.2/\(s7 (c::t)).2.2<=t.length+1:=by
 have h1:=a1B false t
 have h2:=a1B true t
 simp only[s7]
 split
 . exact⟨by simp,by simp;omega⟩
 split
 . rw[b9z];omega
 split
 . split
   . rename_i s n hq
     have:=a5M _ t (Nat.le_refl _) _ _ hq
     dsimp only;omega
   . dsimp only;omega
 split
 . rename_i hd
   cases t with
   |nil=>cases hd
   |cons d t=>simp only[List.length_cons];omega
 split<;>(dsimp only;omega)
theorem a1E (c:UInt8)(t:List UInt8):1<=(o5 (c::t)).2.2/\(o5 (c::t)).2.2<=t.length+1:=by
 have h1:=b3i t
 simp only[o5]
 split
 . dsimp only;omega
 split
 . dsimp only;omega
 . exact c0B c t
theorem b3x:∀(k j:Nat) (r:List UInt8) (a:Nat),r.length<k->r.length<j->a2Q k r a=a2Q j r a
 |0,_,_,_,h,_=>by omega
 |_,0,_,_,_,h=>by omega
 |_+1,_+1,[],_,_,_=>rfl
 | k+1,j+1,c::t,a,hk,hj=>by
   have:=a1E c t
   simp only[List.length_cons] at hk hj
   simp only[a2Q]
   rw[b3x k j _ _ (by rw[List.length_drop,List.length_cons];omega) (by rw[List.length_drop,List.length_cons];omega)]
theorem a9R:∀(k j:Nat) (r:List UInt8) (a:Nat) (en:Int) (nb:Nat),r.length<k->r.length<j->a0o k r a en nb=a0o j r a en nb
 |0,_,_,_,_,_,h,_=>by omega
 |_,0,_,_,_,_,_,h=>by omega
 |_+1,_+1,[],_,_,_,_,_=>rfl
 | k+1,j+1,c::t,a,en,nb,hk,hj=>by
   have:=a1E c t
   simp only[List.length_cons] at hk hj
   have ih:=λa en nb=>a9R k j ((c::t).drop (o5 (c::t)).2.2) a en nb (by rw[List.length_drop,List.length_cons];omega) (by rw[List.length_drop,List.length_cons];omega)
   simp only[a0o,ih]
theorem b3z (a:Nat):toks [] a=[⟨6,[],a⟩]:=rfl
theorem b5q (a:Nat)(en:Int)(nb:Nat):bads [] a en nb=[]:=rfl
theorem a4t (c:UInt8)(t:List UInt8)(a:Nat):toks (c::t) a=if R8 (o5 (c::t)).1 then⟨(o5 (c::t)).1,(o5 (c::t)).2.1,a⟩::toks ((c::t).drop (o5 (c::t)).2.2) (a+(o5 (c::t)).2.2) else toks ((c::t).drop (o5 (c::t)).2.2) (a+(o5 (c::t)).2.2):=by
 have:=a1E c t
 unfold toks
 conv=>lhs;unfold a2Q
 dsimp only
 rw[b3x (c::t).length _ _ _ (by rw[List.length_drop,List.length_cons];omega) (Nat.lt_succ_self _)]
theorem a6J (c:UInt8)(t:List UInt8)(a:Nat)(en:Int)(nb:Nat):bads (c::t) a en nb=
 if(o5 (c::t)).1=0 then
  if(a:Int)≠en/\nb<64 then a::bads ((c::t).drop (o5 (c::t)).2.2) (a+(o5 (c::t)).2.2) (a+(o5 (c::t)).2.2:Nat) (nb+1)
  else bads ((c::t).drop (o5 (c::t)).2.2) (a+(o5 (c::t)).2.2) (a+(o5 (c::t)).2.2:Nat) nb
 else bads ((c::t).drop (o5 (c::t)).2.2) (a+(o5 (c::t)).2.2) en nb:=by
 have:=a1E c t
 have ih:=λa en nb=>a9R (c::t).length (((c::t).drop (o5 (c::t)).2.2).length+1) ((c::t).drop (o5 (c::t)).2.2) a en nb (by rw[List.length_drop,List.length_cons];omega) (Nat.lt_succ_self _)
 unfold bads
 conv=>lhs;unfold a0o
 simp only[ih]
def Tk.bare (x:Tk):Nat×List UInt8:=(x.kind,x.text)
def a5n (s:List UInt8)(x:Tk):Prop:=(x.kind=4->s.head?=some 34)/\(x.kind≠4->x.text≠[]/\x.text<+:s)
theorem c0z (c:UInt8)(t:List UInt8)(a:Nat)(h:R8 (s7 (c::t)).1=true):a5n (c::t) ⟨(s7 (c::t)).1,(s7 (c::t)).2.1,a⟩:=by
 have tk:∀n,(c::t).take (n+1)≠[]/\(c::t).take (n+1)<+:c::t:=λn=>⟨by simp,List.take_prefix _ _⟩
 simp only[s7] at h⊢
 split
 . exact⟨λh=>absurd (show(_:Nat)=4 from h) (by dsimp only;omega),λ_=>tk _⟩
 rename_i h1
 rw[if_neg h1] at h
 split
 . rename_i h2
   rw[if_pos h2] at h
   simp only[S5] at h⊢
   split
   . exact⟨λh=>absurd (show(_:Nat)=4 from h) (by dsimp only;omega),λ_=>tk _⟩
   rename_i h3
   rw[if_neg h3] at h
   split
   . exact⟨λh=>absurd (show(_:Nat)=4 from h) (by dsimp only;omega),λ_=>tk _⟩
   . rename_i h4
     rw[if_neg h4] at h
     cases h
 rename_i h2
 rw[if_neg h2] at h
 split
 . rename_i h3
   rw[if_pos h3] at h
   cases hq:r6 t with
   |none=>rw[hq] at h;cases h
   |some x=>exact⟨λ_=>by rw[h3];rfl,λh=>absurd rfl h⟩
 rename_i h3
 rw[if_neg h3] at h
 split
 . exact⟨λh=>absurd (show(_:Nat)=4 from h) (by dsimp only;omega),λ_=>tk 1⟩
 rename_i h4
 rw[if_neg h4] at h
 split
 . exact⟨λh=>absurd (show(_:Nat)=4 from h) (by dsimp only;omega),λ_=>tk 0⟩
 . rename_i h5
   rw[if_neg h5] at h
   cases h
theorem c2k (c:UInt8)(t:List UInt8)(a:Nat)(h:R8 (o5 (c::t)).1=true):a5n (c::t) ⟨(o5 (c::t)).1,(o5 (c::t)).2.1,a⟩:=by
 simp only[o5] at h⊢
 split
 . rename_i h1;rw[if_pos h1] at h;cases h
 rename_i h1
 rw[if_neg h1] at h
 split
 . rename_i h2;rw[if_pos h2] at h;cases h
 rename_i h2
 rw[if_neg h2] at h
 exact c0z c t a h
theorem b3y:∀(k:Nat) (r:List UInt8) (a:Nat),r.length<=k->∃i,toks r a=i++[⟨6,[],a+r.length⟩]/\∀x∈i,a<=x.at_/\x.at_<a+r.length/\R8 x.kind=true/\a5n (r.drop (x.at_-a)) x
 |_,[],a,_=>⟨[],rfl,by simp⟩
 |0,c::t,_,h=>by simp at h
 | k + 1,c::t,a,h=>by
   have h1:=a1E c t
   simp only[List.length_cons] at h⊢
   obtain⟨i,hi,hx⟩:=b3y k ((c::t).drop (o5 (c::t)).2.2) (a+(o5 (c::t)).2.2) (by rw[List.length_drop,List.length_cons];omega)
   rw[List.length_drop,List.length_cons] at hi hx
   have e:a+(o5 (c::t)).2.2+(t.length+1-(o5 (c::t)).2.2)=a+(t.length+1):=by omega
   rw[e] at hi hx
   have hx':∀x∈i,a<=x.at_/\x.at_<a+(t.length+1)/\R8 x.kind=true/\a5n ((c::t).drop (x.at_-a)) x:=by
    intro x hm
    obtain⟨h3,h4,h5,h6⟩:=hx x hm
    rw[List.drop_drop,show(o5 (c::t)).2.2+(x.at_-(a+(o5 (c::t)).2.2))=x.at_-a by omega] at h6
    exact⟨by omega,h4,h5,h6⟩
   rw[a4t,hi]
   split
   . rename_i hk
     refine⟨_::i,rfl,λx hm=>?_⟩
     rcases List.mem_cons.1 hm with rfl|hm
     . refine⟨Nat.le_refl _,by dsimp only;omega,hk,?_⟩
       rw[Nat.sub_self]
       exact c2k c t a hk
     . exact hx' x hm
   . exact⟨i,rfl,hx'⟩
end Go.Proofs.YtaopegkpjhkooaaGreatDoor.Dx
/- Times as tokens; the text of a time denotes it. -/
namespace Go.Proofs.YtaopegkpjhkooaaGreatDoor.Dx
open Go Go.RowKit Go.Proofs
set_option maxRecDepth 100000
set_option maxHeartbeats 8000000
theorem P4 {c:UInt8}:∀{s w r:List UInt8},r7 c s=(w,r,true)->s=w++c::r/\c∉w
 |[],w,r,h=>by simp[r7] at h
 | b ::s,w,r,h=>by
   by_cases hb:b=c
   . subst hb
     simp[r7] at h
     obtain⟨rfl,rfl⟩:=h
     simp
   . have hb':(b !=c)=true:=by simpa using hb
     have hb2:(b==c)=false:=by simpa using hb
     have ih:= @P4 c s (s.takeWhile (· !=c)) r
     simp only[r7,List.takeWhile_cons,List.dropWhile_cons,hb',if_true,List.any_cons,hb2,Bool.false_or,Prod.mk.injEq] at h ih
     obtain⟨rfl,h2,h3⟩:=h
     have:=ih ⟨trivial,h2,h3⟩
     exact⟨by rw[List.cons_append,<-this.1],by simp only[List.mem_cons,not_or];exact⟨Ne.symm hb,this.2⟩⟩
theorem K0 {c:UInt8}:∀{s w r:List UInt8},r7 c s=(w,r,false)->s=w/\r=[]/\c∉w
 |[],w,r,h=>by simp[r7] at h;simp[h]
 | b ::s,w,r,h=>by
   by_cases hb:b=c
   . subst hb
     simp[r7] at h
   . have hb':(b !=c)=true:=by simpa using hb
     have hb2:(b==c)=false:=by simpa using hb
     have ih:= @K0 c s (s.takeWhile (· !=c)) r
     simp only[r7,List.takeWhile_cons,List.dropWhile_cons,hb',if_true,List.any_cons,hb2,Bool.false_or,Prod.mk.injEq] at h ih
     obtain⟨rfl,h2,h3⟩:=h
     have:=ih ⟨trivial,h2,h3⟩
     exact⟨by rw[<-this.1],this.2.1,by simp only[List.mem_cons,not_or];exact⟨Ne.symm hb,this.2.2⟩⟩
theorem a5a {c:UInt8}:∀{w:List UInt8} (r:List UInt8),c∉w->r7 c (w++c::r)=(w,r,true)
 |[],r,_=>by simp[r7]
 | b::w,r,h=>by
   simp only[List.mem_cons,not_or] at h
   have hb':(b !=c)=true:=by simpa using Ne.symm h.1
   have ih:=a5a r h.2
   simp only[r7,Prod.mk.injEq,List.cons_append,List.takeWhile_cons,List.dropWhile_cons,hb',if_true,List.any_cons] at ih⊢
   obtain⟨h1,h2,h3⟩:=ih
   exact⟨by rw[h1],h2,by rw[h3];simp⟩
theorem a6W {c:UInt8}:∀{w:List UInt8},c∉w->r7 c w=(w,[],false)
 |[],_=>rfl
 | b::w,h=>by
   simp only[List.mem_cons,not_or] at h
   have hb':(b !=c)=true:=by simpa using Ne.symm h.1
   have ih:=a6W h.2
   simp only[r7,Prod.mk.injEq,List.takeWhile_cons,List.dropWhile_cons,hb',if_true,List.any_cons] at ih⊢
   obtain⟨h1,h2,h3⟩:=ih
   have hb2:(b==c)=false:=by simpa using Ne.symm h.1
   exact⟨by rw[h1],h2,by rw[h3,hb2];rfl⟩
theorem b0F {b:UInt8}(h:d9 b=true):inB b=true:=by simp[inB,h]
theorem a1C (y:List UInt8):∀{x:List UInt8},x.all d9=true->p4 true (x++y)=x.length+p4 true y
 |[],_=>by simp
 | b::x,h=>by
   simp only[List.all_cons,Bool.and_eq_true] at h
   rw[List.cons_append,p4,b0F h.1,Bool.true_or,if_pos rfl,a1C y h.2,List.length_cons];omega
theorem b2K {y:List UInt8}(h:P9 y=true):p4 true (58::y)=1+p4 true y:=by
 rw[p4,ptB,h];simp;omega
theorem c0X {y:List UInt8}(h:P9 y=true):p4 true (46::y)=1+p4 true y:=by
 rw[p4,ptB,h];simp;omega
theorem a2q {x:List UInt8}(y:List UInt8)(h:x.all d9=true)(hx:x≠[]):P9 (x++y)=true:=by
 cases x with
 |nil=>exact absurd rfl hx
 |cons b x=>simp only[List.all_cons,Bool.and_eq_true] at h;exact h.1
theorem a1x {s:List UInt8}(h:w7 s=true):s.all d9=true/\s≠[]:=by
 simp only[w7,A0,Bool.and_eq_true,decide_eq_true_eq] at h
 refine⟨h.1.2.2,?_⟩
 rintro rfl
 have:=h.1.1;simp at this
theorem b7D {s:List UInt8}(h:¬K6 s<0):s.all d9=true/\s≠[]:=by
 unfold K6 at h
 split at h
 . rename_i h1
   simp only[Bool.and_eq_true,decide_eq_true_eq] at h1
   refine⟨h1.2.2,?_⟩
   rintro rfl
   have:=h1.1;simp at this
 . exact absurd (by decide) h
theorem a8l {s:List UInt8}(h:¬z7 s<0):s.all d9=true/\s≠[]:=by
 unfold z7 at h
 split at h
 . split at h
   . rename_i h1
     simp only[Bool.and_eq_true] at h1
     simp[h1.1,h1.2.1]
   . exact absurd (by decide) h
 . exact absurd (by decide) h
structure Shape (u:List UInt8) where
 a:List UInt8
 y:List UInt8
 eq:u=a++y
 dg:a.all d9=true
 ne:a≠[]
 more:y≠[]
 run:∀z,p4 true z=0->p4 true (y++z)=y.length
 bad:∃b∈u,d9 b=false
theorem a6j {u:List UInt8}{v:Int}(h:J5 u=some v):Nonempty (Shape u):=by
 rcases hp:r7 46 u with⟨w,f,p⟩
 rcases hq:r7 58 w with⟨a,r,c⟩
 rcases hr:r7 58 r with⟨b,r2,c2⟩
 simp only[J5,hp,hq,Z2,hr] at h
 by_cases h1:w7 a=false\/(a.length:Int)>13\/(if p=true then K6 f else 0)<0\/(c=false/\p=false)
 . rw[if_pos h1] at h;cases h
 rw[if_neg h1] at h
 simp only[not_or,Bool.not_eq_false] at h1
 obtain⟨hA,_,hF,hC⟩:=h1
 have ha:=a1x hA
 obtain ⟨F,hu,hFr⟩:∃F,u=w++F/\((p=true/\∃f,F=46::f/\f.all d9=true/\f≠[])\/(p=false/\F=[])):=by
  cases p with
  | true=>
    have:=b7D (s:=f) (by simpa using hF)
    exact⟨46::f,(P4 hp).1, .inl ⟨rfl,f,rfl,this.1,this.2⟩⟩
  |false=>exact⟨[],by rw[List.append_nil];exact(K0 hp).1, .inr ⟨rfl,rfl⟩⟩
 have runF:∀z,p4 true z=0->p4 true (F++z)=F.length:=by
  intro z hz
  rcases hFr with⟨_,f,rfl,h1,h2⟩|⟨_,rfl⟩
  . rw[List.cons_append,c0X (a2q z h1 h2),a1C z h1,hz,List.length_cons];omega
  . simpa using hz
 cases c with
 | false=>
   obtain⟨rfl,rfl,_⟩:=K0 hq
   rcases hFr with⟨_,f,rfl,h1,h2⟩|⟨rfl,_⟩
   . exact⟨⟨w,46::f,hu,ha.1,ha.2,by simp,runF,46,by rw[hu];simp,by decide⟩⟩
   . simp at hC
 | true =>
   obtain⟨rfl,hnw⟩:=P4 hq
   simp only[if_true] at h
   split at h
   . cases h
   rename_i tt ht
   split at ht
   . cases ht
   rename_i hb
   have hb:=a8l hb
   obtain⟨R,hR,runR,hdR⟩:∃R,r=R/\(∀z,p4 true z=0->p4 true (R++(F++z))=R.length+F.length)/\∀z,P9 (R++z)=true:=by
    refine⟨r,rfl,λz hz=>?_,λz=>?_⟩
    . cases c2 with
      | false=>
        obtain⟨rfl,rfl,_⟩:=K0 hr
        rw[a1C _ hb.1,runF z hz]
      | true=>
        obtain⟨rfl,_⟩:=P4 hr
        simp only[if_true] at ht
        split at ht
        . cases ht
        rename_i hc
        have hc:=a8l hc
        rw[List.append_assoc,a1C _ hb.1,List.cons_append,b2K (a2q _ hc.1 hc.2),a1C _ hc.1,runF z hz,List.length_append,List.length_cons];omega
    . cases c2 with
      | false=>
        obtain⟨rfl,rfl,_⟩:=K0 hr
        exact a2q _ hb.1 hb.2
      | true=>
        obtain⟨rfl,_⟩:=P4 hr
        rw[List.append_assoc]
        exact a2q _ hb.1 hb.2
   subst hR
   refine⟨⟨a,58::(r++F),by rw[hu];simp,ha.1,ha.2,by simp,λz hz=>?_,58,by rw[hu];simp,by decide⟩⟩
   rw[List.cons_append,List.append_assoc,b2K (hdR _),runR z hz,List.length_cons,List.length_append];omega
theorem b2b {u:List UInt8}(h:∃b∈u,d9 b=false):w7 u=false:=by
 cases hn:w7 u with
 |false=>rfl
 | true=>
   obtain⟨b,hb,h2⟩:=h
   have:=List.all_eq_true.1 (a1x hn).1 b hb
   rw[this] at h2;cases h2
theorem b8M:∀b:UInt8,d9 b=true->B6 b=false:=by
 intro b h
 have:=isDg_iff.1 h
 simp only[B6,Bool.or_eq_false_iff,Bool.and_eq_false_iff,decide_eq_false_iff_not];omega
theorem c0D {s:List UInt8}{v:Int}(h:B9 s=some v){z:List UInt8}(hz:p4 true z=0):s7 (s++z)=(3,s,s.length):=by
 have main:∀u,∀S:Shape u,p4 true (u++z)=u.length/\P9 (u++z)=true:=by
  intro u S
  rw[S.eq,List.append_assoc]
  exact⟨by rw[a1C _ S.dg,S.run z hz,List.length_append],a2q _ S.dg S.ne⟩
 unfold B9 at h
 split at h
 . rename_i u
   split at h
   . rename_i v' hv
     obtain⟨S⟩:=a6j hv
     obtain⟨h1,h2⟩:=main u S
     have hN:B9 (45::u)=some v:=by rw[B9,hv];exact h
     have hI:K7 (45::u)=false:=by rw[K7,b2b S.bad];rfl
     rw[List.cons_append,s7,if_neg (by decide),h2,h1,show((45:UInt8)==45)=true from rfl,Bool.true_and,Bool.or_true,if_pos rfl]
     rw[show(45::(u++z)).take (u.length+1)=45::u by simp,S5,hI,hN]
     rfl
   . cases h
 . obtain ⟨S⟩:=a6j h
   obtain⟨h1,h2⟩:=main s S
   have hN:B9 s=some v:=by
    unfold B9
    split
    . simp_all
    . exact h
   have hI:K7 s=false:=by
    unfold K7
    split
    . simp_all
    . exact b2b S.bad
   cases s with
   | nil=>
     exfalso
     have h3:=S.eq
     have h4:=S.ne
     exact h4 (List.append_eq_nil_iff.1 h3.symm).1
   | cons b s=>
     have hb:d9 b=true:=h2
     rw[List.cons_append] at h1⊢
     rw[p4,b0F hb,Bool.true_or,if_pos rfl,List.length_cons] at h1
     rw[s7,if_neg (by rw[b8M b hb];decide),hb,Bool.true_or,if_pos rfl,h1]
     rw[show(b::(s++z)).take (s.length+1)=b::s by simp,S5,hI,hN]
     rfl
theorem b7L {s:List UInt8}{v:Int}(h:B9 s=some v):∃b t,s=b::t/\blB b=false/\b≠35:=by
 have main:∀u,∀_:Shape u,∃b t,u=b::t/\d9 b=true:=by
  intro u S
  have:=S.eq
  have h2:=S.ne
  have h3:=S.dg
  match ha:S.a with
  |[]=>exact absurd ha h2
  | b::a=>
    rw[ha] at this h3
    simp only[List.all_cons,Bool.and_eq_true] at h3
    exact⟨b,a++S.y,this,h3.1⟩
 have dgs:∀b,d9 b=true->blB b=false/\b≠35:=by
  intro b hb
  have:=isDg_iff.1 hb
  constructor
  . simp only[blB,List.contains_eq_mem,List.mem_cons,List.not_mem_nil,or_false,decide_eq_false_iff_not,not_or]
    refine⟨?_,?_,?_,?_⟩<;>(rintro rfl;revert hb;decide)
  . rintro rfl;revert hb;decide
 unfold B9 at h
 split at h
 . exact⟨_,_,rfl,by decide,by decide⟩
 . obtain⟨S⟩:=a6j h
   obtain⟨b,t,rfl,hb⟩:=main s S
   exact⟨b,t,rfl,dgs b hb⟩
theorem chr {k:Nat}(h:k<10):(UInt8.ofNat (48+k)).toNat=48+k:=by
 rw[UInt8.toNat_ofNat'];omega
theorem P2 {k:Nat}(h:k<10):d9 (UInt8.ofNat (48+k))=true:=by
 rw[isDg_iff,chr h];omega
theorem a3t (u:Nat):(Lib.decDigits u).all d9=true/\numN (Lib.decDigits u)=u/\Lib.decDigits u≠[]/\(u≠0->(Lib.decDigits u).head?≠some 48)/\∀k,u<10^(k+1)->(Lib.decDigits u).length<=k+1:=by
 induction u using Nat.strongRecOn with
 | _ u ih=>
   rw[Lib.decDigits]
   split
   . rename_i h
     refine⟨by simp only[List.all_cons,List.all_nil,Bool.and_true,P2 h],by simp only[numN,List.foldl_cons,List.foldl_nil,chr h];omega,by simp,λh0=>?_,λk _=>by simp⟩
     intro e
     have e:UInt8.ofNat (48+u)=48:=by simpa using e
     have:=congrArg UInt8.toNat e
     rw[chr h] at this
     have h48:(48:UInt8).toNat=48:=rfl
     omega
   . rename_i h
     obtain⟨h1,h2,h3,h4,h5⟩:=ih (u/10) (by omega)
     refine⟨by rw[List.all_append,h1];simp only[List.all_cons,List.all_nil,Bool.and_true,P2 (Nat.mod_lt u (by decide:0<10))],?_,by simp,λ_=>?_,λk hk=>?_⟩
     . rw[a5J,h2,chr (Nat.mod_lt u (by decide))];omega
     . rw[List.head?_append]
       have:=h4 (by omega)
       cases hd:(Lib.decDigits (u/10)).head? with
       |none=>rw[List.head?_eq_none_iff] at hd;exact absurd hd h3
       |some x=>rw[hd] at this;simpa using this
     . cases k with
       |zero=>simp at hk;omega
       | succ k=>
         have:=h5 k (by rw[Nat.pow_succ] at hk;omega)
         rw[List.length_append,List.length_singleton];omega
theorem a3H {n:Int}(h:0<=n):Lib.itoa n=Lib.decDigits n.toNat:=by rw[Lib.itoa,if_neg (by omega)]
theorem a3G {n:Int}(h:0<=n):(Lib.itoa n).all d9=true:=by rw[a3H h];exact(a3t _).1
theorem a7z {n:Int}(h:0<=n):(numN (Lib.itoa n):Int)=n:=by rw[a3H h,(a3t _).2.1];omega
theorem b1y {n:Int}(h0:0<=n)(h:n<10000000000000):w7 (Lib.itoa n)=true/\(Lib.itoa n).length<=13:=by
 rw[a3H h0]
 obtain⟨h1,h2,h3,h4,h5⟩:=a3t n.toNat
 have hl:=h5 12 (by omega)
 refine⟨?_,hl⟩
 have hp:1<=(Lib.decDigits n.toNat).length:=by
  cases hd:Lib.decDigits n.toNat with
  |nil=>exact absurd hd h3
  |cons=>simp
 simp only[w7,A0,h1,Bool.and_true,Bool.and_eq_true,decide_eq_true_eq,Bool.or_eq_true]
 refine⟨⟨by omega,by omega⟩,?_⟩
 by_cases e:n.toNat=0
 . left;rw[e,Lib.decDigits,dif_pos (by omega)];rfl
 . exact .inr (h4 e)
theorem b3E {n:Int}(h0:0<=n)(h1:n<100):J6 n=[UInt8.ofNat (48+(n/10).toNat),UInt8.ofNat (48+(n%10).toNat)]:=by
 rw[b3D h0 h1,a1o (by omega) (by omega),a1o (by omega) (by omega)];rfl
theorem a8J {n:Int}(h0:0<=n)(h1:n<60):z7 (J6 n)=n:=by
 rw[b3E h0 (by omega)]
 have a:=P2 (k:=(n/10).toNat) (by omega)
 have b:=P2 (k:=(n%10).toNat) (by omega)
 have a':=chr (k:=(n/10).toNat) (by omega)
 have b':=chr (k:=(n%10).toNat) (by omega)
 simp only[z7,a,b,Bool.true_and,decide_eq_true_eq]
 rw[if_pos (by omega)]
 simp only[numN,List.foldl_cons,List.foldl_nil,a',b']
 omega
theorem Z4 {s:List UInt8}(h:s.all d9=true){c:UInt8}(hc:d9 c=false):c∉s:=by
 intro hm
 have:=List.all_eq_true.1 h c hm
 rw[hc] at this;cases this
theorem a4v {n:Int}(h0:0<=n)(h1:n<100):(J6 n).all d9=true:=by
 rw[b3E h0 h1];simp only[List.all_cons,List.all_nil,Bool.and_true,P2 (k:=(n/10).toNat) (by omega),P2 (k:=(n%10).toNat) (by omega)]
theorem c3v (l:List UInt8):∃k,l=Lib.trimRightB l 48++List.replicate k 48:=by
 have:=List.takeWhile_append_dropWhile (p:=(· ==(48:UInt8))) (l:=l.reverse)
 have h2:=congrArg List.reverse this
 rw[List.reverse_append,List.reverse_reverse] at h2
 refine⟨(l.reverse.takeWhile (· ==(48:UInt8))).length,?_⟩
 have h3:(l.reverse.takeWhile (· ==(48:UInt8))).reverse=List.replicate (l.reverse.takeWhile (· ==(48:UInt8))).length 48:=by
  rw[List.eq_replicate_iff]
  refine⟨by simp,λb hb=>?_⟩
  rw[List.mem_reverse] at hb
  have:=List.all_eq_true.1 (List.all_takeWhile (p:=(· ==(48:UInt8))) (l:=l.reverse)) b hb
  simpa using this
 rw[h3] at h2
 exact h2.symm
theorem a7Q (w:List UInt8):∀k,numN (w++List.replicate k 48)=numN w*10^k
 |0=>by simp
 | k+1=>by
   rw[List.replicate_succ',<-List.append_assoc,a5J,a7Q w k,Nat.pow_succ,<-Nat.mul_assoc (numN w)]
   have:(48:UInt8).toNat=48:=rfl
   omega
theorem c1X {u:Int}(h0:0<=u)(h1:u<1000000):(numN ((Lib.itoa (1000000+u)).drop 1):Int)=u/\((Lib.itoa (1000000+u)).drop 1).all d9=true/\((Lib.itoa (1000000+u)).drop 1).length=6:=by
 rw[b3f h0 h1]
 have c:=λ(k:Nat) (hk:k<10)=>chr hk
 refine⟨?_,?_,rfl⟩
 . have st:∀(l:List UInt8) (a b:Int),(numN l:Int)=a->0<=b->b/10=a->(numN (l++[UInt8.ofNat (48+(b%10).toNat)]):Int)=b:=by
    intro l a b h2 h3 h4
    rw[a5J,chr (by omega)]
    omega
   have e1:=st [] 0 (u/100000) rfl (by omega) (by omega)
   have e2:=st _ _ (u/10000) e1 (by omega) (by omega)
   have e3:=st _ _ (u/1000) e2 (by omega) (by omega)
   have e4:=st _ _ (u/100) e3 (by omega) (by omega)
   have e5:=st _ _ (u/10) e4 (by omega) (by omega)
   exact st _ _ u e5 (by omega) (by omega)
 . simp only[List.all_cons,List.all_nil,Bool.and_true]
   rw[P2 (k:=(u/100000%10).toNat) (by omega),P2 (k:=(u/10000%10).toNat) (by omega),P2 (k:=(u/1000%10).toNat) (by omega),P2 (k:=(u/100%10).toNat) (by omega),P2 (k:=(u/10%10).toNat) (by omega),P2 (k:=(u%10).toNat) (by omega)]
   rfl
theorem b7E {u:Int}(h0:0<u)(h1:u<1000000):K6 (Lib.trimRightB ((Lib.itoa (1000000+u)).drop 1) 48)=u:=by
 obtain⟨h2,h3,h4⟩:=c1X (by omega:0<=u) h1
 have hne:=b3g h0 h1
 generalize (Lib.itoa (1000000+u)).drop 1=d at *
 obtain⟨k,hk⟩:=c3v d
 generalize Lib.trimRightB d 48=w at *
 have hl:w.length+k=6:=by rw[<-h4,hk];simp
 have hw:1<=w.length:=by cases w with|nil=>exact absurd rfl hne|cons=>simp
 rw[hk,List.all_append,Bool.and_eq_true] at h3
 rw[hk,a7Q] at h2
 rw[K6,decide_eq_true (by omega),decide_eq_true (by omega),h3.1,show 6-w.length=k by omega]
 simpa using h2
theorem b3s {n:Int}(h0:0<=n)(h1:n<=1099511627776):J5 (X3 n)=some n:=by
 have hs0:0<=n/1000000:=by omega
 have hs1:n/1000000<=1099511:=by omega
 have hu0:0<=n%1000000:=by omega
 have hu1:n%1000000<1000000:=by omega
 have hn:1000000*(n/1000000)+n%1000000=n:=by omega
 unfold X3
 generalize n/1000000=s at *
 generalize n%1000000=u at *
 obtain⟨a,r,t,hc,ha,har,han,hm,hno⟩:∃(a r:List UInt8) (t:Int),a1e s=a++58::r/\(w7 a=true/\a.length<=13)/\58∉a/\(numN a:Int)=t/\Z2 true r t=some s/\46∉a++58::r:=by
  unfold a1e
  split
  . rename_i h
    refine⟨Lib.itoa (s/3600),J6 (s/60%60)++58::J6 (s%60),s/3600,by simp,b1y (by omega) (by omega),Z4 (a3G (by omega)) (by decide),a7z (by omega),?_,?_⟩
    . have hcut:=a5a (c:=(58:UInt8)) (J6 (s%60)) (Z4 (a4v (n:=s/60%60) (by omega) (by omega)) (by decide))
      simp only[Z2,hcut,if_true]
      rw[a8J (by omega) (by omega),a8J (by omega) (by omega),if_neg (by omega),if_neg (by omega)]
      congr 1;omega
    . simp only[List.mem_append,List.mem_cons,not_or]
      exact⟨Z4 (a3G (by omega)) (by decide),by decide,Z4 (a4v (by omega) (by omega)) (by decide),by decide,Z4 (a4v (by omega) (by omega)) (by decide)⟩
  . rename_i h
    refine⟨Lib.itoa (s/60),J6 (s%60),s/60,by simp,b1y (by omega) (by omega),Z4 (a3G (by omega)) (by decide),a7z (by omega),?_,?_⟩
    . have hcut:=a6W (c:=(58:UInt8)) (Z4 (a4v (n:=s%60) (by omega) (by omega)) (by decide))
      simp only[Z2,hcut,if_true]
      rw[a8J (by omega) (by omega),if_neg (by omega)]
      simp only[Bool.false_eq_true,if_false]
      congr 1;omega
    . simp only[List.mem_append,List.mem_cons,not_or]
      exact⟨Z4 (a3G (by omega)) (by decide),by decide,Z4 (a4v (by omega) (by omega)) (by decide)⟩
 rw[hc]
 have hq:=a5a r har
 have hb:¬(s>1099511627776\/1000000*s+u>1099511627776):=by omega
 have h13:¬((a.length:Int)>13):=by omega
 unfold a2p
 split
 . rename_i hu
   have hp:=a5a (c:=(46:UInt8)) (Lib.trimRightB ((Lib.itoa (1000000+u)).drop 1) 48) hno
   have hf:=b7E hu hu1
   simp only[J5,List.singleton_append,hp,hq,hf,if_true,ha.1,h13,han,hm]
   rw[if_neg (by simp;omega),if_neg hb,hn]
 . rename_i hu
   have hp:=a6W hno
   have h00:u=0:=by omega
   subst h00
   simp only[J5,List.append_nil,hp,hq,ha.1,h13,han,hm]
   rw[if_neg (by simp)]
   simp only[Bool.false_eq_true,if_false]
   rw[if_neg hb,hn]
theorem c3g {t:Int}(h:Q0 t=true):B9 (s8 t)=some t:=by
 rw[s8,if_pos h,a6i]
 simp only[Q0,inR,Bool.and_eq_true,decide_eq_true_eq] at h
 split
 . rename_i hneg
   rw[List.singleton_append,B9,b3s (n:= -t) (by omega) (by omega)]
   simp only
   rw[if_neg (by omega),Int.neg_neg]
 . rename_i hpos
   have hb:=b3s (n:=t) (by omega) (by omega)
   obtain⟨S⟩:=a6j hb
   unfold B9
   split
   . rename_i r hr
     exfalso
     have h1:P9 (X3 t)=true:=by
      have:=a2q S.y S.dg S.ne
      rwa[<-S.eq] at this
     rw[hr] at h1
     exact absurd h1 (by show ¬d9 45=true;decide)
   . exact hb
end Go.Proofs.YtaopegkpjhkooaaGreatDoor.Dx
