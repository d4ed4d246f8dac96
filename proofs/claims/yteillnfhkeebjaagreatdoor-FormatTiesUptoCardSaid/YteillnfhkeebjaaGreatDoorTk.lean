/- Tokens as plain functions; a comment ahead of a token; offsets. -/
import Derived.Test.YteillnfhkeebjaaGreatDoorTj
set_option linter.all false
namespace Go.Proofs.YteillnfhkeebjaaGreatDoor.Dx
open Go Go.RowKit Go.Proofs
set_option maxRecDepth 100000
set_option maxHeartbeats 8000000
def B9 (b:UInt8):Bool:=(decide (97<=(b.toNat:Int))&&decide ((b.toNat:Int)<=122))||(decide (65<=(b.toNat:Int))&&decide ((b.toNat:Int)<=90))
def inB (b:UInt8):Bool:=B9 b||(d9 b||b==95)
def J9:List UInt8->Bool|[]=>false|b::_=>d9 b
def ptB (b:UInt8)(t:List UInt8):Bool:=(b==58||b==46)&&J9 t
def j4 (p:Bool):List UInt8->Nat
 |[]=>0
 |b::t=>if inB b||(p&&ptB b t) then j4 p t+1 else 0
def a0B (b:UInt8):Option UInt8:=if b=34 then some 34 else if b=92 then some 92 else if b=110 then some 10 else none
def l7 :List UInt8->Option (List UInt8×Nat)
 |[]=>none
 | c :: t=>
   if c=34 then some ([],1)
   else if c<32\/c>126 then none
   else if c=92 then match t with
    |[]=>none
    | d ::t=>match a0B d with
      | some x=>match l7 t with
        |some (s,n)=>some (x::s,n+2)
        |none=>none
      |none=>none
   else match l7 t with
    |some (s,n)=>some (c::s,n+1)
    |none=>none
def sgB (b:UInt8):Bool:=[123,125,40,41,91,93,59,44,61,60,62].contains b
def blB (b:UInt8):Bool:=[32,9,10,13].contains b
def O3 (c:UInt8)(t:List UInt8):Bool:=match t with|[]=>false|d::_=>((c==60||c==62)&&d==61)||(c==46&&d==46)
def K3 (s:List UInt8)(n:Nat):Nat×List UInt8×Nat:=if E4 s then(2,s,n) else if(D3 s).isSome then(3,s,n) else(0,[],n)
def l9:List UInt8->Nat×List UInt8×Nat
 |[]=>(0,[],1)
 | c::t=>
   if B9 c then(1,(c::t).take (j4 false t+1),j4 false t+1)
   else if d9 c||(c==45&&J9 t) then K3 ((c::t).take (j4 true t+1)) (j4 true t+1)
   else if c=34 then match l7 t with
    |some (s,n)=>(4,s,n+1)
    |none=>(0,[],1)
   else if O3 c t then(5,(c::t).take 2,2)
   else if sgB c then(5,[c],1)
   else(0,[],1)
def D8:List UInt8->Nat
 |[]=>0
 |b::t=>if b=10 then 0 else D8 t+1
def i6:List UInt8->Nat×List UInt8×Nat
 |[]=>(7,[],0)
 |c::t=>if blB c then(7,[],1) else if c=35 then(7,[],D8 t+1) else l9 (c::t)
structure Tk where
 kind:Nat
 text:List UInt8
 at_:Nat
deriving DecidableEq
def K0 (k:Nat):Bool:=decide (1<=k/\k<=5)
def a1f:Nat->List UInt8->Nat->List Tk
 |0,_,_=>[]
 |_+1,[],a=>[⟨6,[],a⟩]
 | k+1,c::t,a=>
   let x:=i6 (c::t)
   let r:=a1f k ((c::t).drop x.2.2) (a+x.2.2)
   if K0 x.1 then⟨x.1,x.2.1,a⟩::r else r
def S6:Nat->List UInt8->Nat->Int->Nat->List Nat
 |0,_,_,_,_=>[]
 |_+1,[],_,_,_=>[]
 | k+1,c::t,a,en,nb=>
   let x:=i6 (c::t)
   if x.1=0 then
    if(a:Int)≠en/\nb<64 then a::S6 k ((c::t).drop x.2.2) (a+x.2.2) (a+x.2.2:Nat) (nb+1)
    else S6 k ((c::t).drop x.2.2) (a+x.2.2) (a+x.2.2:Nat) nb
   else S6 k ((c::t).drop x.2.2) (a+x.2.2) en nb
def toks (r:List UInt8)(a:Nat):List Tk:=a1f (r.length+1) r a
def bads (r:List UInt8)(a:Nat)(en:Int)(nb:Nat):List Nat:=S6 (r.length+1) r a en nb
theorem Z2 (p:Bool):∀t:List UInt8,j4 p t<=t.length
 |[]=>Nat.le_refl _
 | b::t=>by
   have:=Z2 p t
   unfold j4
   split<;>simp only[List.length_cons]<;>omega
theorem b3j:∀t:List UInt8,D8 t<=t.length
 |[]=>Nat.le_refl _
 | b::t=>by
   have:=b3j t
   unfold D8
   split<;>simp only[List.length_cons]<;>omega
theorem a4w:∀(k:Nat) (t:List UInt8),t.length<=k->∀s n,l7 t=some (s,n)->1<=n/\n<=t.length
 |k,[],_,s,n,h=>by cases h
 |0,c::t,hk,_,_,_=>by simp at hk
 | k + 1, c::t,hk,s,n,h=>by
   unfold l7 at h
   simp only[List.length_cons] at hk⊢
   split at h
   . cases h;omega
   split at h
   . cases h
   split at h
   . match t,h,hk with
     |[],h,_=>cases h
     | d ::t,h,hk=>
       simp only[List.length_cons] at hk⊢
       simp only at h
       split at h
       . split at h
         . rename_i s' n' hq
           cases h
           have:=a4w k t (by omega) _ _ hq
           omega
         . cases h
       . cases h
   . split at h
     . rename_i s' n' hq
       cases h
       have:=a4w k t (by omega) _ _ hq
       omega
     . cases h
theorem c0L (s:List UInt8)(n:Nat):(K3 s n).2.2=n:=by
 unfold K3;split<;>(try split)<;>rfl
theorem c1F (c:UInt8)(t:List UInt8):1<=(l9 (c::t)).2.2/\(l9 (c::t)).2.2<=t.length+1:=by
 have h1:=Z2 false t
 have h2:=Z2 true t
 simp only[l9]
 split
 . exact⟨by simp,by simp;omega⟩
 split
 . rw[c0L];omega
 split
 . split
   . rename_i s n hq
     have:=a4w _ t (Nat.le_refl _) _ _ hq
     dsimp only;omega
   . dsimp only;omega
 split
 . rename_i hd
   cases t with
   |nil=>cases hd
   |cons d t=>simp only[List.length_cons];omega
 split<;>(dsimp only;omega)
theorem Z6 (c:UInt8)(t:List UInt8):1<=(i6 (c::t)).2.2/\(i6 (c::t)).2.2<=t.length+1:=by
 have h1:=b3j t
 simp only[i6]
 split
 . dsimp only;omega
 split
 . dsimp only;omega
 . exact c1F c t
theorem b3L:∀(k j:Nat) (r:List UInt8) (a:Nat),r.length<k->r.length<j->a1f k r a=a1f j r a
 |0,_,_,_,h,_=>by omega
 |_,0,_,_,_,h=>by omega
 |_+1,_+1,[],_,_,_=>rfl
 | k+1,j+1,c::t,a,hk,hj=>by
   have:=Z6 c t
   simp only[List.length_cons] at hk hj
   simp only[a1f]
   rw[b3L k j _ _ (by rw[List.length_drop,List.length_cons];omega) (by rw[List.length_drop,List.length_cons];omega)]
theorem a9v:∀(k j:Nat) (r:List UInt8) (a:Nat) (en:Int) (nb:Nat),r.length<k->r.length<j->S6 k r a en nb=S6 j r a en nb
 |0,_,_,_,_,_,h,_=>by omega
 |_,0,_,_,_,_,_,h=>by omega
 |_+1,_+1,[],_,_,_,_,_=>rfl
 | k+1,j+1,c::t,a,en,nb,hk,hj=>by
   have:=Z6 c t
   simp only[List.length_cons] at hk hj
   have ih:=λa en nb=>a9v k j ((c::t).drop (i6 (c::t)).2.2) a en nb (by rw[List.length_drop,List.length_cons];omega) (by rw[List.length_drop,List.length_cons];omega)
   simp only[S6,ih]
theorem b3P (a:Nat):toks [] a=[⟨6,[],a⟩]:=rfl
theorem b5P (a:Nat)(en:Int)(nb:Nat):bads [] a en nb=[]:=rfl
theorem a2U (c:UInt8)(t:List UInt8)(a:Nat):toks (c::t) a=if K0 (i6 (c::t)).1 then⟨(i6 (c::t)).1,(i6 (c::t)).2.1,a⟩::toks ((c::t).drop (i6 (c::t)).2.2) (a+(i6 (c::t)).2.2) else toks ((c::t).drop (i6 (c::t)).2.2) (a+(i6 (c::t)).2.2):=by
 have:=Z6 c t
 unfold toks
 conv=>lhs;unfold a1f
 dsimp only
 rw[b3L (c::t).length _ _ _ (by rw[List.length_drop,List.length_cons];omega) (Nat.lt_succ_self _)]
theorem a5F (c:UInt8)(t:List UInt8)(a:Nat)(en:Int)(nb:Nat):bads (c::t) a en nb=
 if(i6 (c::t)).1=0 then
  if(a:Int)≠en/\nb<64 then a::bads ((c::t).drop (i6 (c::t)).2.2) (a+(i6 (c::t)).2.2) (a+(i6 (c::t)).2.2:Nat) (nb+1)
  else bads ((c::t).drop (i6 (c::t)).2.2) (a+(i6 (c::t)).2.2) (a+(i6 (c::t)).2.2:Nat) nb
 else bads ((c::t).drop (i6 (c::t)).2.2) (a+(i6 (c::t)).2.2) en nb:=by
 have:=Z6 c t
 have ih:=λa en nb=>a9v (c::t).length (((c::t).drop (i6 (c::t)).2.2).length+1) ((c::t).drop (i6 (c::t)).2.2) a en nb (by rw[List.length_drop,List.length_cons];omega) (Nat.lt_succ_self _)
 unfold bads
 conv=>lhs;unfold S6
 simp only[ih]
def Tk.bare (x:Tk):Nat×List UInt8:=(x.kind,x.text)
def good (s:List UInt8)(x:Tk):Prop:=(x.kind=4->s.head?=some 34)/\(x.kind≠4->x.text≠[]/\x.text<+:s)
theorem c1D (c:UInt8)(t:List UInt8)(a:Nat)(h:K0 (l9 (c::t)).1=true):good (c::t) ⟨(l9 (c::t)).1,(l9 (c::t)).2.1,a⟩:=by
 have tk:∀n,(c::t).take (n+1)≠[]/\(c::t).take (n+1)<+:c::t:=λn=>⟨by simp,List.take_prefix _ _⟩
 simp only[l9] at h⊢
 split
 . exact⟨λh=>absurd (show(_:Nat)=4 from h) (by dsimp only;omega),λ_=>tk _⟩
 rename_i h1
 rw[if_neg h1] at h
 split
 . rename_i h2
   rw[if_pos h2] at h
   simp only[K3] at h⊢
   split
   . exact⟨λh=>absurd (show(_:Nat)=4 from h) (by dsimp only;omega),λ_=>tk _⟩
   rename_i h3
   rw[if_neg h3] at h
   split
   . exact⟨λh=>absurd (show(_:Nat)=4 from h) (by dsimp only;omega),λ_=>tk _⟩
   . rename_i h4
     rw[if_neg h4] at h
     cases h
 rename_i h2
 rw[if_neg h2] at h
 split
 . rename_i h3
   rw[if_pos h3] at h
   cases hq:l7 t with
   |none=>rw[hq] at h;cases h
   |some x=>exact⟨λ_=>by rw[h3];rfl,λh=>absurd rfl h⟩
 rename_i h3
 rw[if_neg h3] at h
 split
 . exact⟨λh=>absurd (show(_:Nat)=4 from h) (by dsimp only;omega),λ_=>tk 1⟩
 rename_i h4
 rw[if_neg h4] at h
 split
 . exact⟨λh=>absurd (show(_:Nat)=4 from h) (by dsimp only;omega),λ_=>tk 0⟩
 . rename_i h5
   rw[if_neg h5] at h
   cases h
theorem c2O (c:UInt8)(t:List UInt8)(a:Nat)(h:K0 (i6 (c::t)).1=true):good (c::t) ⟨(i6 (c::t)).1,(i6 (c::t)).2.1,a⟩:=by
 simp only[i6] at h⊢
 split
 . rename_i h1;rw[if_pos h1] at h;cases h
 rename_i h1
 rw[if_neg h1] at h
 split
 . rename_i h2;rw[if_pos h2] at h;cases h
 rename_i h2
 rw[if_neg h2] at h
 exact c1D c t a h
theorem b3N:∀(k:Nat) (r:List UInt8) (a:Nat),r.length<=k->∃i,toks r a=i++[⟨6,[],a+r.length⟩]/\∀x∈i,a<=x.at_/\x.at_<a+r.length/\K0 x.kind=true/\good (r.drop (x.at_-a)) x
 |_,[],a,_=>⟨[],rfl,by simp⟩
 |0,c::t,_,h=>by simp at h
 | k + 1,c::t,a,h=>by
   have h1:=Z6 c t
   simp only[List.length_cons] at h⊢
   obtain⟨i,hi,hx⟩:=b3N k ((c::t).drop (i6 (c::t)).2.2) (a+(i6 (c::t)).2.2) (by rw[List.length_drop,List.length_cons];omega)
   rw[List.length_drop,List.length_cons] at hi hx
   have e:a+(i6 (c::t)).2.2+(t.length+1-(i6 (c::t)).2.2)=a+(t.length+1):=by omega
   rw[e] at hi hx
   have hx':∀x∈i,a<=x.at_/\x.at_<a+(t.length+1)/\K0 x.kind=true/\good ((c::t).drop (x.at_-a)) x:=by
    intro x hm
    obtain⟨h3,h4,h5,h6⟩:=hx x hm
    rw[List.drop_drop,show(i6 (c::t)).2.2+(x.at_-(a+(i6 (c::t)).2.2))=x.at_-a by omega] at h6
    exact⟨by omega,h4,h5,h6⟩
   rw[a2U,hi]
   split
   . rename_i hk
     refine⟨_::i,rfl,λx hm=>?_⟩
     rcases List.mem_cons.1 hm with rfl|hm
     . refine⟨Nat.le_refl _,by dsimp only;omega,hk,?_⟩
       rw[Nat.sub_self]
       exact c2O c t a hk
     . exact hx' x hm
   . exact⟨i,rfl,hx'⟩
end Go.Proofs.YteillnfhkeebjaaGreatDoor.Dx
/- Times as tokens; the text of a time denotes it. -/
namespace Go.Proofs.YteillnfhkeebjaaGreatDoor.Dx
open Go Go.RowKit Go.Proofs
set_option maxRecDepth 100000
set_option maxHeartbeats 8000000
theorem H5 {c:UInt8}:∀{s w r:List UInt8},n7 c s=(w,r,true)->s=w++c::r/\c∉w
 |[],w,r,h=>by simp[n7] at h
 | b ::s,w,r,h=>by
   by_cases hb:b=c
   . subst hb
     simp[n7] at h
     obtain⟨rfl,rfl⟩:=h
     simp
   . have hb':(b !=c)=true:=by simpa using hb
     have hb2:(b==c)=false:=by simpa using hb
     have ih:= @H5 c s (s.takeWhile (· !=c)) r
     simp only[n7,List.takeWhile_cons,List.dropWhile_cons,hb',if_true,List.any_cons,hb2,Bool.false_or,Prod.mk.injEq] at h ih
     obtain⟨rfl,h2,h3⟩:=h
     have:=ih ⟨trivial,h2,h3⟩
     exact⟨by rw[List.cons_append,<-this.1],by simp only[List.mem_cons,not_or];exact⟨Ne.symm hb,this.2⟩⟩
theorem E2 {c:UInt8}:∀{s w r:List UInt8},n7 c s=(w,r,false)->s=w/\r=[]/\c∉w
 |[],w,r,h=>by simp[n7] at h;simp[h]
 | b ::s,w,r,h=>by
   by_cases hb:b=c
   . subst hb
     simp[n7] at h
   . have hb':(b !=c)=true:=by simpa using hb
     have hb2:(b==c)=false:=by simpa using hb
     have ih:= @E2 c s (s.takeWhile (· !=c)) r
     simp only[n7,List.takeWhile_cons,List.dropWhile_cons,hb',if_true,List.any_cons,hb2,Bool.false_or,Prod.mk.injEq] at h ih
     obtain⟨rfl,h2,h3⟩:=h
     have:=ih ⟨trivial,h2,h3⟩
     exact⟨by rw[<-this.1],this.2.1,by simp only[List.mem_cons,not_or];exact⟨Ne.symm hb,this.2.2⟩⟩
theorem b0m {b:UInt8}(h:d9 b=true):inB b=true:=by simp[inB,h]
theorem Z3 (y:List UInt8):∀{x:List UInt8},x.all d9=true->j4 true (x++y)=x.length+j4 true y
 |[],_=>by simp
 | b::x,h=>by
   simp only[List.all_cons,Bool.and_eq_true] at h
   rw[List.cons_append,j4,b0m h.1,Bool.true_or,if_pos rfl,Z3 y h.2,List.length_cons];omega
theorem b2T {y:List UInt8}(h:J9 y=true):j4 true (58::y)=1+j4 true y:=by
 rw[j4,ptB,h];simp;omega
theorem c2b {y:List UInt8}(h:J9 y=true):j4 true (46::y)=1+j4 true y:=by
 rw[j4,ptB,h];simp;omega
theorem a1Y {x:List UInt8}(y:List UInt8)(h:x.all d9=true)(hx:x≠[]):J9 (x++y)=true:=by
 cases x with
 |nil=>exact absurd rfl hx
 |cons b x=>simp only[List.all_cons,Bool.and_eq_true] at h;exact h.1
theorem Y9 {s:List UInt8}(h:p4 s=true):s.all d9=true/\s≠[]:=by
 simp only[p4,q8,Bool.and_eq_true,decide_eq_true_eq] at h
 refine⟨h.1.2.2,?_⟩
 rintro rfl
 have:=h.1.1;simp at this
theorem b8l {s:List UInt8}(h:¬H7 s<0):s.all d9=true/\s≠[]:=by
 unfold H7 at h
 split at h
 . rename_i h1
   simp only[Bool.and_eq_true,decide_eq_true_eq] at h1
   refine⟨h1.2.2,?_⟩
   rintro rfl
   have:=h1.1;simp at this
 . exact absurd (by decide) h
theorem a7J {s:List UInt8}(h:¬r5 s<0):s.all d9=true/\s≠[]:=by
 unfold r5 at h
 split at h
 . split at h
   . rename_i h1
     simp only[Bool.and_eq_true] at h1
     simp[h1.1,h1.2.1]
   . exact absurd (by decide) h
 . exact absurd (by decide) h
structure Shape (u:List UInt8) where
 a:List UInt8
 y:List UInt8
 eq:u=a++y
 dg:a.all d9=true
 ne:a≠[]
 more:y≠[]
 run:∀z,j4 true z=0->j4 true (y++z)=y.length
 bad:∃b∈u,d9 b=false
theorem a8d {u:List UInt8}{v:Int}(h:I7 u=some v):Nonempty (Shape u):=by
 rcases hp:n7 46 u with⟨w,f,p⟩
 rcases hq:n7 58 w with⟨a,r,c⟩
 rcases hr:n7 58 r with⟨b,r2,c2⟩
 simp only[I7,hp,hq,a0L,hr] at h
 by_cases h1:p4 a=false\/(a.length:Int)>13\/(if p=true then H7 f else 0)<0\/(c=false/\p=false)
 . rw[if_pos h1] at h;cases h
 rw[if_neg h1] at h
 simp only[not_or,Bool.not_eq_false] at h1
 obtain⟨hA,_,hF,hC⟩:=h1
 have ha:=Y9 hA
 obtain ⟨F,hu,hFr⟩:∃F,u=w++F/\((p=true/\∃f,F=46::f/\f.all d9=true/\f≠[])\/(p=false/\F=[])):=by
  cases p with
  | true=>
    have:=b8l (s:=f) (by simpa using hF)
    exact⟨46::f,(H5 hp).1, .inl ⟨rfl,f,rfl,this.1,this.2⟩⟩
  |false=>exact⟨[],by rw[List.append_nil];exact(E2 hp).1, .inr ⟨rfl,rfl⟩⟩
 have runF:∀z,j4 true z=0->j4 true (F++z)=F.length:=by
  intro z hz
  rcases hFr with⟨_,f,rfl,h1,h2⟩|⟨_,rfl⟩
  . rw[List.cons_append,c2b (a1Y z h1 h2),Z3 z h1,hz,List.length_cons];omega
  . simpa using hz
 cases c with
 | false=>
   obtain⟨rfl,rfl,_⟩:=E2 hq
   rcases hFr with⟨_,f,rfl,h1,h2⟩|⟨rfl,_⟩
   . exact⟨⟨w,46::f,hu,ha.1,ha.2,by simp,runF,46,by rw[hu];simp,by decide⟩⟩
   . simp at hC
 | true =>
   obtain⟨rfl,hnw⟩:=H5 hq
   simp only[if_true] at h
   split at h
   . cases h
   rename_i tt ht
   split at ht
   . cases ht
   rename_i hb
   have hb:=a7J hb
   obtain⟨R,hR,runR,hdR⟩:∃R,r=R/\(∀z,j4 true z=0->j4 true (R++(F++z))=R.length+F.length)/\∀z,J9 (R++z)=true:=by
    refine⟨r,rfl,λz hz=>?_,λz=>?_⟩
    . cases c2 with
      | false=>
        obtain⟨rfl,rfl,_⟩:=E2 hr
        rw[Z3 _ hb.1,runF z hz]
      | true=>
        obtain⟨rfl,_⟩:=H5 hr
        simp only[if_true] at ht
        split at ht
        . cases ht
        rename_i hc
        have hc:=a7J hc
        rw[List.append_assoc,Z3 _ hb.1,List.cons_append,b2T (a1Y _ hc.1 hc.2),Z3 _ hc.1,runF z hz,List.length_append,List.length_cons];omega
    . cases c2 with
      | false=>
        obtain⟨rfl,rfl,_⟩:=E2 hr
        exact a1Y _ hb.1 hb.2
      | true=>
        obtain⟨rfl,_⟩:=H5 hr
        rw[List.append_assoc]
        exact a1Y _ hb.1 hb.2
   subst hR
   refine⟨⟨a,58::(r++F),by rw[hu];simp,ha.1,ha.2,by simp,λz hz=>?_,58,by rw[hu];simp,by decide⟩⟩
   rw[List.cons_append,List.append_assoc,b2T (hdR _),runR z hz,List.length_cons,List.length_append];omega
theorem b2j {u:List UInt8}(h:∃b∈u,d9 b=false):p4 u=false:=by
 cases hn:p4 u with
 |false=>rfl
 | true=>
   obtain⟨b,hb,h2⟩:=h
   have:=List.all_eq_true.1 (Y9 hn).1 b hb
   rw[this] at h2;cases h2
theorem b9R:∀b:UInt8,d9 b=true->B9 b=false:=by
 intro b h
 have:=isDg_iff.1 h
 simp only[B9,Bool.or_eq_false_iff,Bool.and_eq_false_iff,decide_eq_false_iff_not];omega
theorem c1H {s:List UInt8}{v:Int}(h:D3 s=some v){z:List UInt8}(hz:j4 true z=0):l9 (s++z)=(3,s,s.length):=by
 have main:∀u,∀S:Shape u,j4 true (u++z)=u.length/\J9 (u++z)=true:=by
  intro u S
  rw[S.eq,List.append_assoc]
  exact⟨by rw[Z3 _ S.dg,S.run z hz,List.length_append],a1Y _ S.dg S.ne⟩
 unfold D3 at h
 split at h
 . rename_i u
   split at h
   . rename_i v' hv
     obtain⟨S⟩:=a8d hv
     obtain⟨h1,h2⟩:=main u S
     have hN:D3 (45::u)=some v:=by rw[D3,hv];exact h
     have hI:E4 (45::u)=false:=by rw[E4,b2j S.bad];rfl
     rw[List.cons_append,l9,if_neg (by decide),h2,h1,show((45:UInt8)==45)=true from rfl,Bool.true_and,Bool.or_true,if_pos rfl]
     rw[show(45::(u++z)).take (u.length+1)=45::u by simp,K3,hI,hN]
     rfl
   . cases h
 . obtain ⟨S⟩:=a8d h
   obtain⟨h1,h2⟩:=main s S
   have hN:D3 s=some v:=by
    unfold D3
    split
    . simp_all
    . exact h
   have hI:E4 s=false:=by
    unfold E4
    split
    . simp_all
    . exact b2j S.bad
   cases s with
   | nil=>
     exfalso
     have h3:=S.eq
     have h4:=S.ne
     exact h4 (List.append_eq_nil_iff.1 h3.symm).1
   | cons b s=>
     have hb:d9 b=true:=h2
     rw[List.cons_append] at h1⊢
     rw[j4,b0m hb,Bool.true_or,if_pos rfl,List.length_cons] at h1
     rw[l9,if_neg (by rw[b9R b hb];decide),hb,Bool.true_or,if_pos rfl,h1]
     rw[show(b::(s++z)).take (s.length+1)=b::s by simp,K3,hI,hN]
     rfl
theorem b8x {s:List UInt8}{v:Int}(h:D3 s=some v):∃b t,s=b::t/\blB b=false/\b≠35:=by
 have main:∀u,∀_:Shape u,∃b t,u=b::t/\d9 b=true:=by
  intro u S
  have:=S.eq
  have h2:=S.ne
  have h3:=S.dg
  match ha:S.a with
  |[]=>exact absurd ha h2
  | b::a=>
    rw[ha] at this h3
    simp only[List.all_cons,Bool.and_eq_true] at h3
    exact⟨b,a++S.y,this,h3.1⟩
 have dgs:∀b,d9 b=true->blB b=false/\b≠35:=by
  intro b hb
  have:=isDg_iff.1 hb
  constructor
  . simp only[blB,List.contains_eq_mem,List.mem_cons,List.not_mem_nil,or_false,decide_eq_false_iff_not,not_or]
    refine⟨?_,?_,?_,?_⟩<;>(rintro rfl;revert hb;decide)
  . rintro rfl;revert hb;decide
 unfold D3 at h
 split at h
 . exact⟨_,_,rfl,by decide,by decide⟩
 . obtain⟨S⟩:=a8d h
   obtain⟨b,t,rfl,hb⟩:=main s S
   exact⟨b,t,rfl,dgs b hb⟩
theorem chr {k:Nat}(h:k<10):(UInt8.ofNat (48+k)).toNat=48+k:=by
 rw[UInt8.toNat_ofNat'];omega
theorem a9L {k:Nat}(h:k<10):d9 (UInt8.ofNat (48+k))=true:=by
 rw[isDg_iff,chr h];omega
theorem a5Y (u:Nat):(Lib.decDigits u).all d9=true/\numN (Lib.decDigits u)=u/\Lib.decDigits u≠[]/\(u≠0->(Lib.decDigits u).head?≠some 48)/\∀k,u<10^(k+1)->(Lib.decDigits u).length<=k+1:=by
 induction u using Nat.strongRecOn with
 | _ u ih=>
   rw[Lib.decDigits]
   split
   . rename_i h
     refine⟨by simp only[List.all_cons,List.all_nil,Bool.and_true,a9L h],by simp only[numN,List.foldl_cons,List.foldl_nil,chr h];omega,by simp,λh0=>?_,λk _=>by simp⟩
     intro e
     have e:UInt8.ofNat (48+u)=48:=by simpa using e
     have:=congrArg UInt8.toNat e
     rw[chr h] at this
     have h48:(48:UInt8).toNat=48:=rfl
     omega
   . rename_i h
     obtain⟨h1,h2,h3,h4,h5⟩:=ih (u/10) (by omega)
     refine⟨by rw[List.all_append,h1];simp only[List.all_cons,List.all_nil,Bool.and_true,a9L (Nat.mod_lt u (by decide:0<10))],?_,by simp,λ_=>?_,λk hk=>?_⟩
     . rw[a7a,h2,chr (Nat.mod_lt u (by decide))];omega
     . rw[List.head?_append]
       have:=h4 (by omega)
       cases hd:(Lib.decDigits (u/10)).head? with
       |none=>rw[List.head?_eq_none_iff] at hd;exact absurd hd h3
       |some x=>rw[hd] at this;simpa using this
     . cases k with
       |zero=>simp at hk;omega
       | succ k=>
         have:=h5 k (by rw[Nat.pow_succ] at hk;omega)
         rw[List.length_append,List.length_singleton];omega
theorem a6G {n:Int}(h:0<=n):Lib.itoa n=Lib.decDigits n.toNat:=by rw[Lib.itoa,if_neg (by omega)]
theorem b9e {n:Int}(h:0<=n):(Lib.itoa n).all d9=true:=by rw[a6G h];exact(a5Y _).1
theorem b9f {n:Int}(h:0<=n):(numN (Lib.itoa n):Int)=n:=by rw[a6G h,(a5Y _).2.1];omega
theorem b2l (w:List UInt8):∀k,numN (w++List.replicate k 48)=numN w*10^k
 |0=>by simp
 | k+1=>by
   rw[List.replicate_succ',<-List.append_assoc,a7a,b2l w k,Nat.pow_succ,<-Nat.mul_assoc (numN w)]
   have:(48:UInt8).toNat=48:=rfl
   omega
end Go.Proofs.YteillnfhkeebjaaGreatDoor.Dx
