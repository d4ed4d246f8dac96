/- Chapter 06: the parser of conditions and steps as plain functions over tokens. -/
import Derived.Test.YtaopegkpjhkooaaGreatDoorFq
import Derived.Test.YtaopegkpjhkooaaGreatDoorFl
set_option linter.all false
namespace Go.Proofs.YtaopegkpjhkooaaGreatDoor.Dx
open Go Go.RowKit
set_option maxRecDepth 100000
inductive Rs (α:Type) where
 |ok (a:α) (ts:List Tk)
 |er (at_:Nat) (e:Int)
 |out
def Rs.bind {α β:Type}(r:Rs α)(f:α->List Tk->Rs β):Rs β:=match r with| .ok a ts=>f a ts| .er a e=> .er a e| .out=> .out
theorem Rs.bind_ok {α β:Type}{a:α}{ts:List Tk}{f:α->List Tk->Rs β}:(Rs.ok a ts).bind f=f a ts:=rfl
theorem Rs.bind_er {α β:Type}{a:Nat}{e:Int}{f:α->List Tk->Rs β}:(Rs.er a e:Rs α).bind f= .er a e:=rfl
def hdT (ts:List Tk):Tk:=ts.headD ⟨6,[],0⟩
def B5 {α:Type}(e:Int)(ts:List Tk):Rs α:= .er (hdT ts).at_ e
def isW (w:List UInt8)(ts:List Tk):Bool:=(decide ((hdT ts).kind=1)||decide ((hdT ts).kind=5))&&decide ((hdT ts).text=w)
def d7 (w:List UInt8)(ts:List Tk):Rs Unit:=if isW w ts then .ok () ts.tail else B5 60 ts
def N4 (t:Tk):Option Int:=if t.kind=2/\t.text.head?≠some 45/\(numN t.text:Int)<=1125899906842624 then some (numN t.text) else none
def o7 (ts:List Tk):Rs Int:=match N4 (hdT ts) with|some n=> .ok n ts.tail|none=>B5 60 ts
def T2 (ts:List Tk):Option Int:=if isW [100,105,115,116,97,110,99,101] ts then some 1 else if isW [102,105,101,108,100] ts then some 2 else if isW [115,104,111,114,116] ts then some 3 else none
abbrev B1 (c:Cond):Cond:=⟨4,0,0,[c]⟩
abbrev leC (v n:Int):Cond:=⟨1,v,n,[]⟩
def E1 (v:Int)(ts:List Tk):Rs Cond:=
 if isW [62,61] ts then(o7 ts.tail).bind λn ts=> .ok (leC v n) ts
 else if isW [62] ts then(o7 ts.tail).bind λn ts=> .ok (leC v (n+1)) ts
 else if isW [60,61] ts then(o7 ts.tail).bind λn ts=> .ok (B1 (leC v (n+1))) ts
 else if isW [60] ts then(o7 ts.tail).bind λn ts=> .ok (B1 (leC v n)) ts
 else if isW [61] ts then(o7 ts.tail).bind λn ts=> .ok ⟨2,0,0,[leC v n,B1 (leC v (n+1))]⟩ ts
 else B5 60 ts
def mkC (k:Int):List Cond->Cond
 |[c]=>c
 |l=>⟨k,0,0,l⟩
mutual
def p5:Nat->Nat->List Tk->Rs Cond
 |0,_,_=> .out
 | k+1,d,ts=>
   if(isW [110,111,116] ts||isW [40] ts)&&decide (16<=d) then B5 2 ts
   else if isW [110,111,116] ts then(p5 k (d+1) ts.tail).bind λc ts=> .ok (B1 c) ts
   else if isW [40] ts then(condP k (d+1) ts.tail).bind λc ts=>(d7 [41] ts).bind λ_ ts=> .ok c ts
   else match T2 ts with
    |none=>B5 60 ts
    |some v=>E1 v ts.tail
def y0:Nat->Nat->List Tk->Rs Cond
 |0,_,_=> .out
 |k+1,d,ts=>(p5 k d ts).bind λc ts=>conjL k d [c] ts
def conjL:Nat->Nat->List Cond->List Tk->Rs Cond
 |0,_,_,_=> .out
 |k+1,d,l,ts=>if isW [97,110,100] ts then(p5 k d ts.tail).bind λc ts=>conjL k d (l++[c]) ts else .ok (mkC 2 l) ts
def condP:Nat->Nat->List Tk->Rs Cond
 |0,_,_=> .out
 |k+1,d,ts=>(y0 k d ts).bind λc ts=>condL k d [c] ts
def condL:Nat->Nat->List Cond->List Tk->Rs Cond
 |0,_,_,_=> .out
 |k+1,d,l,ts=>if isW [111,114] ts then(y0 k d ts.tail).bind λc ts=>condL k d (l++[c]) ts else .ok (mkC 3 l) ts
end
def critW:List (List UInt8×Int):=[([111,108,100,101,114],1),([121,111,117,110,103,101,114],2),([119,97,118,101],3),([98,105,98],4),([100,114,97,119],5)]
def E5 (ts:List Tk):Option Int:=if(hdT ts).kind=1 then(critW.find? λp=>p.1==(hdT ts).text).map (·.2) else none
mutual
def n8 :Nat->Nat->List Step->List Tk->Rs (List Step)
 |0,_,_,_=> .out
 | k + 1,d,l,ts=>match E5 ts with
   |some b=>(d7 [59] ts.tail).bind λ_ ts=>n8 k d (l++[⟨1,b,⟨0,0,0,[]⟩,[],[]⟩]) ts
   | none=>
     if isW [105,102] ts then
      if 16<=d then B5 2 ts
      else(condP k 0 ts.tail).bind λc ts=>(blockP k (d+1) ts).bind λt ts=>
       if isW [101,108,115,101] ts then(blockP k (d+1) ts.tail).bind λe ts=>n8 k d (l++[⟨2,0,c,t,e⟩]) ts
       else n8 k d (l++[⟨2,0,c,t,[]⟩]) ts
     else if l=[] then B5 60 ts else .ok l ts
def blockP:Nat->Nat->List Tk->Rs (List Step)
 |0,_,_=> .out
 |k+1,d,ts=>(d7 [123] ts).bind λ_ ts=>(n8 k d [] ts).bind λl ts=>(d7 [125] ts).bind λ_ ts=> .ok l ts
end
theorem C6 {α β:Type}{r r':Rs α}{f f':α->List Tk->Rs β}(h:r≠ .out->r'=r)(hf:∀a ts,f a ts≠ .out->f' a ts=f a ts)(hn:r.bind f≠ .out):r'.bind f'=r.bind f:=by
 cases r with
 |ok a ts=>rw[h (by simp)];exact hf a ts hn
 |er a e=>rw[h (by simp)];rfl
 |out=>exact absurd rfl hn
theorem a6U:∀k:Nat,(∀d ts,p5 k d ts≠ .out->p5 (k+1) d ts=p5 k d ts)/\(∀d ts,y0 k d ts≠ .out->y0 (k+1) d ts=y0 k d ts)/\(∀d l ts,conjL k d l ts≠ .out->conjL (k+1) d l ts=conjL k d l ts)/\
 (∀d ts,condP k d ts≠ .out->condP (k+1) d ts=condP k d ts)/\(∀d l ts,condL k d l ts≠ .out->condL (k+1) d l ts=condL k d l ts)
 |0=>⟨λd ts h=>absurd (by rw[p5]) h,λd ts h=>absurd (by rw[y0]) h,λd l ts h=>absurd (by rw[conjL]) h,λd ts h=>absurd (by rw[condP]) h,λd l ts h=>absurd (by rw[condL]) h⟩
 | k + 1 =>by
   obtain⟨h1,h2,h3,h4,h5⟩:=a6U k
   refine⟨λd ts h=>?_,λd ts h=>?_,λd l ts h=>?_,λd ts h=>?_,λd l ts h=>?_⟩
   . rw [p5] at h
     conv=>lhs;rw[p5]
     conv=>rhs;rw[p5]
     split
     . rfl
     . rename_i q1
       rw[if_neg q1] at h
       split
       . rename_i q2
         rw[if_pos q2] at h
         exact C6 (h1 _ _) (λ_ _ _=>rfl) h
       . rename_i q2
         rw[if_neg q2] at h
         split
         . rename_i q3
           rw[if_pos q3] at h
           exact C6 (h4 _ _) (λ_ _ _=>rfl) h
         . rfl
   . rw[y0] at h
     conv=>lhs;rw[y0]
     conv=>rhs;rw[y0]
     exact C6 (h1 _ _) (λ_ _=>h3 _ _ _) h
   . rw [conjL] at h
     conv=>lhs;rw[conjL]
     conv=>rhs;rw[conjL]
     split
     . rename_i q
       rw[if_pos q] at h
       exact C6 (h1 _ _) (λ_ _=>h3 _ _ _) h
     . rfl
   . rw[condP] at h
     conv=>lhs;rw[condP]
     conv=>rhs;rw[condP]
     exact C6 (h2 _ _) (λ_ _=>h5 _ _ _) h
   . rw [condL] at h
     conv=>lhs;rw[condL]
     conv=>rhs;rw[condL]
     split
     . rename_i q
       rw[if_pos q] at h
       exact C6 (h2 _ _) (λ_ _=>h5 _ _ _) h
     . rfl
theorem a8z :∀k:Nat,(∀d l ts,n8 k d l ts≠ .out->n8 (k+1) d l ts=n8 k d l ts)/\(∀d ts,blockP k d ts≠ .out->blockP (k+1) d ts=blockP k d ts)
 |0=>⟨λd l ts h=>absurd (by rw[n8]) h,λd ts h=>absurd (by rw[blockP]) h⟩
 | k + 1 => by
   obtain⟨h1,h2⟩:=a8z k
   have h4:=(a6U k).2.2.2.1
   refine⟨λd l ts h=>?_,λd ts h=>?_⟩
   . rw [n8] at h
     conv=>lhs;rw[n8]
     conv=>rhs;rw[n8]
     split
     . rename_i b hb
       rw[hb] at h
       exact C6 (λ_=>rfl) (λ_ _=>h1 _ _ _) h
     . rename_i hb
       rw[hb] at h
       split
       . rename_i q
         simp only[if_pos q] at h
         split
         . rfl
         . rename_i q2
           rw[if_neg q2] at h
           refine C6 (h4 _ _) (λc ts hh=>?_) h
           refine C6 (h2 _ _) (λt ts hh=>?_) hh
           split
           . rename_i q3
             rw[if_pos q3] at hh
             exact C6 (h2 _ _) (λ_ _=>h1 _ _ _) hh
           . rename_i q3
             rw[if_neg q3] at hh
             exact h1 _ _ _ hh
       . rfl
   . rw[blockP] at h
     conv=>lhs;rw[blockP]
     conv=>rhs;rw[blockP]
     exact C6 (λ_=>rfl) (λ_ _ hh=>C6 (h1 _ _ _) (λ_ _ _=>rfl) hh) h
theorem a7L {α:Type}{f:Nat->Rs α}(h:∀k,f k≠ .out->f (k+1)=f k){k j:Nat}(hk:f k≠ .out)(hj:k<=j):f j=f k:=by
 obtain⟨i,rfl⟩:∃i,j=k+i:=⟨j-k,by omega⟩
 clear hj
 induction i with
 |zero=>rfl
 |succ i ih=>rw[<-ih];exact h (k+i) (by rw[ih];exact hk)
def Rs.short {α:Type}(r:Rs α)(n:Nat):Prop:=r≠ .out/\∀a ts,r= .ok a ts->ts.length<=n
theorem I0 {α:Type}{e:Int}{ts:List Tk}{n:Nat}:(B5 e ts:Rs α).short n:=⟨by simp[B5],λa ts h=>by simp[B5] at h⟩
theorem Rs.short.bind {α β:Type}{r:Rs α}{f:α->List Tk->Rs β}{n m:Nat}(h:r.short n)(hf:∀a ts,ts.length<=n->(f a ts).short m):(r.bind f).short m:=by
 cases r with
 |ok a ts=>exact hf a ts (h.2 a ts rfl)
 |er a e=>exact⟨by simp[Rs.bind],λa ts h=>by simp[Rs.bind] at h⟩
 |out=>exact absurd rfl h.1
theorem b7Z {w:List UInt8}{ts:List Tk}(h:isW w ts=true):∃t r,ts=t::r:=by
 cases ts with
 |nil=>simp[isW,hdT] at h
 |cons t r=>exact⟨t,r,rfl⟩
theorem Y6 {w:List UInt8}{ts:List Tk}(h:isW w ts=true):ts.tail.length+1=ts.length:=by
 obtain⟨t,r,rfl⟩:=b7Z h;rfl
theorem v6 {w:List UInt8}{ts:List Tk}{n:Nat}(h:ts.length<=n+1):(d7 w ts).short n:=by
 rw[d7]
 split
 . rename_i q
   exact⟨by simp,λa r e=>by cases e;rw[List.length_tail];omega⟩
 . exact I0
theorem Q5 {ts:List Tk}{n:Nat}(h:ts.length<=n+1):(o7 ts).short n:=by
 rw[o7]
 split
 . exact⟨by simp,λa r e=>by cases e;rw[List.length_tail];omega⟩
 . exact I0
theorem Rs.short.ok {α:Type}{a:α}{ts:List Tk}{n:Nat}(h:ts.length<=n):(Rs.ok a ts).short n:=⟨by simp,λ_ _ e=>by cases e;exact h⟩
theorem c0I {v:Int}{ts:List Tk}{n:Nat}(h:ts.length<=n):(E1 v ts).short n:=by
 have ht:ts.tail.length<=n+1:=by rw[List.length_tail];omega
 rw[E1]
 repeat' split
 all_goals first
  |exact I0
  |exact(Q5 ht).bind λ_ _ h=> .ok h
theorem a6T (n:Nat):(∀k d ts,ts.length<=n->5*n+1<=k->(p5 k d ts).short n)/\(∀k d ts,ts.length<=n->5*n+3<=k->(y0 k d ts).short n)/\(∀k d l ts,ts.length<=n->5*n+2<=k->(conjL k d l ts).short n)/\
 (∀k d ts,ts.length<=n->5*n+5<=k->(condP k d ts).short n)/\(∀k d l ts,ts.length<=n->5*n+4<=k->(condL k d l ts).short n):=by
 have ih:∀m,m+1=n->(∀k d ts,ts.length<=m->5*m+1<=k->(p5 k d ts).short m)/\(∀k d ts,ts.length<=m->5*m+3<=k->(y0 k d ts).short m)/\(∀k d l ts,ts.length<=m->5*m+2<=k->(conjL k d l ts).short m)/\
  (∀k d ts,ts.length<=m->5*m+5<=k->(condP k d ts).short m)/\(∀k d l ts,ts.length<=m->5*m+4<=k->(condL k d l ts).short m):=λm hm=>a6T m
 have up:∀{α:Type} {r:Rs α} {m:Nat},m+1=n->r.short m->r.short n:=λhm h=>⟨h.1,λa ts e=>by have:=h.2 a ts e;omega⟩
 have h1:∀k d ts,ts.length<=n->5*n+1<=k->(p5 k d ts).short n:=by
  intro k d ts hts hk
  obtain⟨k,rfl⟩:∃j,k=j+1:=⟨k-1,by omega⟩
  rw[p5]
  split
  . exact I0
  split
  . rename_i q
    have:=Y6 q
    obtain⟨m,hm⟩:∃m,m+1=n:=⟨n-1,by omega⟩
    exact up hm (((ih m hm).1 k (d+1) ts.tail (by omega) (by omega)).bind λ_ _ h=> .ok h)
  split
  . rename_i q
    have:=Y6 q
    obtain⟨m,hm⟩:∃m,m+1=n:=⟨n-1,by omega⟩
    exact up hm (((ih m hm).2.2.2.1 k (d+1) ts.tail (by omega) (by omega)).bind λ_ _ h=>(v6 (by omega)).bind λ_ _ h=> .ok h)
  . split
    . exact I0
    . exact c0I (by rw[List.length_tail];omega)
 have h3:∀k d l ts,ts.length<=n->5*n+2<=k->(conjL k d l ts).short n:=by
  intro k d l ts hts hk
  obtain⟨k,rfl⟩:∃j,k=j+1:=⟨k-1,by omega⟩
  rw[conjL]
  split
  . rename_i q
    have:=Y6 q
    obtain⟨m,hm⟩:∃m,m+1=n:=⟨n-1,by omega⟩
    exact up hm (((ih m hm).1 k d ts.tail (by omega) (by omega)).bind λ_ _ h=>(ih m hm).2.2.1 k d _ _ h (by omega))
  . exact .ok hts
 have h2:∀k d ts,ts.length<=n->5*n+3<=k->(y0 k d ts).short n:=by
  intro k d ts hts hk
  obtain⟨k,rfl⟩:∃j,k=j+1:=⟨k-1,by omega⟩
  rw[y0]
  exact(h1 k d ts hts (by omega)).bind λ_ _ h=>h3 k d _ _ h (by omega)
 have h5:∀k d l ts,ts.length<=n->5*n+4<=k->(condL k d l ts).short n:=by
  intro k d l ts hts hk
  obtain⟨k,rfl⟩:∃j,k=j+1:=⟨k-1,by omega⟩
  rw[condL]
  split
  . rename_i q
    have:=Y6 q
    obtain⟨m,hm⟩:∃m,m+1=n:=⟨n-1,by omega⟩
    exact up hm (((ih m hm).2.1 k d ts.tail (by omega) (by omega)).bind λ_ _ h=>(ih m hm).2.2.2.2 k d _ _ h (by omega))
  . exact .ok hts
 refine⟨h1,h2,h3,λk d ts hts hk=>?_,h5⟩
 obtain⟨k,rfl⟩:∃j,k=j+1:=⟨k-1,by omega⟩
 rw[condP]
 exact(h2 k d ts hts (by omega)).bind λ_ _ h=>h5 k d _ _ h (by omega)
termination_by n
decreasing_by omega
end Go.Proofs.YtaopegkpjhkooaaGreatDoor.Dx
/- Chapter 06: how a written text is split into tokens (plain). -/
namespace Go.Proofs.YtaopegkpjhkooaaGreatDoor.Dx
open Go Go.RowKit
set_option maxRecDepth 100000
structure Lx (r:List UInt8) (l:List (Nat×List UInt8)):Prop where
 toks:∀a,(Dx.toks r a).map Tk.bare=l
 bads:∀a en nb,Dx.bads r a en nb=[]
theorem Lx.nil:Lx [] [(6,[])]:=⟨λa=>rfl,λa en nb=>rfl⟩
theorem Lx.step {c:UInt8}{t r:List UInt8}{l:List (Nat×List UInt8)}{k:Nat}{s:List UInt8}{n:Nat}(hs:o5 (c::t)=(k,s,n))(hd:(c::t).drop n=r)(h:Lx r l)(hk:R8 k=true):Lx (c::t) ((k,s)::l):=by
 refine⟨λa=>?_,λa en nb=>?_⟩
 . rw[a4t,hs]
   simp only[hk,if_true,List.map_cons]
   rw[hd,h.toks];rfl
 . rw[a6J,hs]
   have:¬k=0:=by intro e;subst e;simp[R8] at hk
   simp only[this,if_false]
   rw[hd,h.bads]
theorem Lx.skip {c:UInt8}{t r:List UInt8}{l:List (Nat×List UInt8)}{s:List UInt8}{n:Nat}(hs:o5 (c::t)=(7,s,n))(hd:(c::t).drop n=r)(h:Lx r l):Lx (c::t) l:=by
 refine⟨λa=>?_,λa en nb=>?_⟩
 . rw[a4t,hs]
   simp only[R8]
   rw[hd]
   exact h.toks _
 . rw[a6J,hs]
   simp only
   rw[hd]
   exact h.bads _ _ _
theorem Lx.blank {c:UInt8}{r:List UInt8}{l:List (Nat×List UInt8)}(hc:blB c=true)(h:Lx r l):Lx (c::r) l:=
 Lx.skip (s:=[]) (n:=1) (by rw[o5,if_pos hc]) rfl h
def Brk (r:List UInt8):Prop:=p4 true r=0
theorem c0W {r:List UInt8}(h:Brk r):p4 false r=0:=by
 cases r with
 |nil=>rfl
 | cons b t=>
   unfold Brk at h
   unfold p4 at h⊢
   split at h
   . cases h
   . rename_i q
     rw[if_neg]
     intro h2
     simp only[Bool.false_and,Bool.or_false] at h2
     exact q (by rw[h2];rfl)
theorem Brk.cons {c:UInt8}{t:List UInt8}(h1:inB c=false)(h2:c≠58/\c≠46):Brk (c::t):=by
 unfold Brk p4
 rw[if_neg]
 rw[h1]
 have:ptB c t=false:=by
  unfold ptB
  have e1:(c==58)=false:=by simpa using h2.1
  have e2:(c==46)=false:=by simpa using h2.2
  rw[e1,e2];rfl
 rw[this];decide
theorem Brk.nil:Brk []:=rfl
theorem b2P (y:List UInt8):∀{x:List UInt8},x.all inB=true->p4 false (x++y)=x.length+p4 false y
 |[],_=>by simp
 | b::x,h=>by
   rw[List.all_cons,Bool.and_eq_true] at h
   rw[List.cons_append,p4,if_pos (by rw[h.1];rfl),b2P y h.2,List.length_cons];omega
def T3 (w:List UInt8):Bool:=match w with|[]=>false|c::t=>B6 c&&t.all inB
theorem a6G {p:UInt8->Prop}(h:∀n:Fin 256,p (UInt8.ofNat n.1))(b:UInt8):p b:=by
 have:=h ⟨b.toNat,b.toNat_lt⟩
 simpa using this
theorem b8L (c:UInt8):B6 c=true->blB c=false/\c≠35:=a6G (p:=λc=>B6 c=true->blB c=false/\c≠35) (by decide+kernel) c
theorem Lx.word {w r:List UInt8}{l:List (Nat×List UInt8)}(hw:T3 w=true)(hr:Brk r)(h:Lx r l):Lx (w++r) ((1,w)::l):=by
 cases w with
 |nil=>cases hw
 | cons c t=>
   simp only[T3,Bool.and_eq_true] at hw
   have hb:=b8L c hw.1
   have hrun:p4 false (t++r)=t.length:=by rw[b2P r hw.2,c0W hr];rfl
   rw[List.cons_append]
   refine Lx.step (k:=1) (s:=c::t) (n:=t.length+1) ?_ ?_ h (by decide)
   . rw[o5,if_neg (by rw[hb.1];decide),if_neg hb.2,s7,if_pos hw.1,hrun]
     simp
   . simp
theorem b6F (c:UInt8):d9 c=true->blB c=false/\c≠35/\B6 c=false:=a6G (p:=λc=>d9 c=true->blB c=false/\c≠35/\B6 c=false) (by decide+kernel) c
theorem Lx.num {s r:List UInt8}{l:List (Nat×List UInt8)}(hs:w7 s=true)(hr:Brk r)(h:Lx r l):Lx (s++r) ((2,s)::l):=by
 obtain⟨hd,hne⟩:=a1x hs
 cases s with
 |nil=>exact absurd rfl hne
 | cons c t=>
   rw[List.all_cons,Bool.and_eq_true] at hd
   have hb:=b6F c hd.1
   have hrun:p4 true (t++r)=t.length:=by rw[a1C r hd.2,hr];rfl
   have hint:K7 (c::t)=true:=by
    rw[a7v]
    . exact hs
    . intro q e
      cases e
      exact absurd hd.1 (by decide)
   rw[List.cons_append]
   refine Lx.step (k:=2) (s:=c::t) (n:=t.length+1) ?_ ?_ h (by decide)
   . rw[o5,if_neg (by rw[hb.1];decide),if_neg hb.2.1,s7,if_neg (by rw[hb.2.2];decide),if_pos (by rw[hd.1];rfl),hrun]
     have:(c::(t++r)).take (t.length+1)=c::t:=by simp
     rw[this,S5,if_pos hint]
   . simp
theorem c1s (c:UInt8):sgB c=true->blB c=false/\c≠35/\B6 c=false/\d9 c=false/\c≠45/\c≠34:=a6G (p:=λc=>sgB c=true->blB c=false/\c≠35/\B6 c=false/\d9 c=false/\c≠45/\c≠34) (by decide+kernel) c
theorem Lx.sign {c:UInt8}{r:List UInt8}{l:List (Nat×List UInt8)}(hc:sgB c=true)(hd:Y0 c r=false)(h:Lx r l):Lx (c::r) ((5,[c])::l):=by
 have hb:=c1s c hc
 refine Lx.step (k:=5) (s:=[c]) (n:=1) ?_ rfl h (by decide)
 have e45:(c==45)=false:=by simpa using hb.2.2.2.2.1
 rw[o5,if_neg (by rw[hb.1];decide),if_neg hb.2.1,s7,if_neg (by rw[hb.2.2.1];decide),if_neg (by rw[hb.2.2.2.1,e45];simp),if_neg hb.2.2.2.2.2,if_neg (by rw[hd];decide),if_pos hc]
theorem Lx.dbl {c d:UInt8}{r:List UInt8}{l:List (Nat×List UInt8)}(hc:Y0 c (d::r)=true)(h:Lx r l):Lx (c::d::r) ((5,[c,d])::l):=by
 have hcd:(c=60\/c=62\/c=46):=by
  simp only[Y0,Bool.or_eq_true,Bool.and_eq_true,beq_iff_eq] at hc
  rcases hc with⟨h|h,_⟩|⟨h,_⟩
  . exact .inl h
  . exact .inr (.inl h)
  . exact .inr (.inr h)
 have hb:blB c=false/\c≠35/\B6 c=false/\d9 c=false/\(c==45)=false/\c≠34:=by
  rcases hcd with rfl|rfl|rfl<;>decide
 refine Lx.step (k:=5) (s:=[c,d]) (n:=2) ?_ rfl h (by decide)
 rw[o5,if_neg (by rw[hb.1];decide),if_neg hb.2.1,s7,if_neg (by rw[hb.2.2.1];decide),if_neg (by rw[hb.2.2.2.1,hb.2.2.2.2.1];simp),if_neg hb.2.2.2.2.2,if_pos hc]
 rfl
theorem Lx.time {s r:List UInt8}{l:List (Nat×List UInt8)}{v:Int}(hs:B9 s=some v)(hr:Brk r)(h:Lx r l):Lx (s++r) ((3,s)::l):=by
 obtain⟨b,t,rfl,h1,h2⟩:=b7L hs
 have hrd:=c0D hs hr
 rw[List.cons_append] at hrd⊢
 refine Lx.step (k:=3) (s:=b::t) (n:=(b::t).length) ?_ ?_ h (by decide)
 . rw[o5,if_neg (by rw[h1];decide),if_neg h2,hrd]
 . simp
end Go.Proofs.YtaopegkpjhkooaaGreatDoor.Dx
