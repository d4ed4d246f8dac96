/- A. -/
import Derived.Test.YteillnfhkeebjaaGreatDoorXi
set_option linter.all false
namespace Go.Proofs.YteillnfhkeebjaaGreatDoor.Dx
open Go Go.RowKit
abbrev I8 (u:Value):Base:= .d (.raw u)
theorem b9F {γ:Gm}{V:Know}:∀{us ws:List Value},All2 (RVb γ V) (us.map I8) ws->ws=us
 |[],ws,h=>h.nil_l
 | u::us,ws,h=>by
   obtain⟨w,ws',rfl,h1,h2⟩:=All2.cons_l (by simpa using h);rw[b9F h2];have h1:Rep V w (.raw u):=h1;cases h1;rfl
theorem b5W {γ:Gm}{V:Know}:∀{us:List Value},(∀u∈us,u.oneCell'=true)->All2 (RVb γ V) (us.map I8) us
 |[],_=> .nil
 |u::us,h=> .cons (show Rep V u (.raw u) from .raw u (h u (by simp))) (b5W λx hx=>h x (r6 _ hx))
theorem c2w {P:Program}{F:FuncId}{args:List Base}{n:Nat}{l:D}{cs:List Base}{ty:TypeId}{X:List (Nat×Blk)}{R:Out->D->Prop}
 (h:∀us:List Value,us.length=cs.length->MeetsR P F args [(n, .box (.d l::us.map I8) ty)] λo O'=>∃l',O'=[(n, .box (.d l'::us.map I8) ty)]/\R o l')
 (hR:∀o l',R o l'->(∃d,o= .ret (.d d))\/∃d,o= .pan d):
 MeetsR P F args ((n, .box (.d l::cs) ty)::X) λo O'=>∃l',O'=(n, .box (.d l'::cs) ty)::X/\R o l':=by
 refine⟨(h (List.replicate cs.length undef) (by simp)).fn,λγ V W xs hs hv hown hinj=>?_⟩;have hl0:d7 n ((n,Blk.box (.d l::cs) ty)::X)=some (.box (.d l::cs) ty):=w9 ..;obtain⟨blk,csv,hg,hh,hc,h1,hnone⟩:=hown n _ hl0;obtain⟨u0,us,hus,hu0,huc⟩:=All2.cons_l hc;have hlen:us.length=cs.length:=huc.len.symm;have hone:∀u∈us,u.oneCell'=true:=λu hu=>h1 u (by rw[hus];exact r6 _ hu);have hraw:A2 γ V W [(n, .box (.d l::us.map I8) ty)]:=by
  intro m b hb;by_cases e:n=m
  . subst e;rw[w9] at hb;cases hb;exact⟨blk,csv,hg,hh,by rw[hus];exact .cons hu0 (b5W hone),h1,hnone⟩
  . rw[p5 e,r7] at hb;cases hb
 have hinj1:M4 γ [(n,Blk.box (.d l::us.map I8) ty)]:=by
  intro m m' b b' hb hb' hne;have one:∀{m:Nat} {b:Blk},d7 m [(n,Blk.box (.d l::us.map I8) ty)]=some b->m=n:=by
   intro m b hb;by_cases e:n=m
   . exact e.symm
   . rw[p5 e,r7] at hb;cases hb
  exact absurd ((one hb).trans (one hb').symm) hne
 have hblk1:o8 γ [(n,Blk.box (.d l::us.map I8) ty)]=[blk]:=by simp[o8,hg]
 have hin:blk∈o8 γ ((n,Blk.box (.d l::cs) ty)::X):=by simp[o8,hg]
 refine((h us hlen).run γ V W xs hs hv hraw hinj1).mono ?_;rintro e W' ⟨γ1,V1,o,O1,a1,a2,a3,a4,a5,a6,a7,a8,l',rfl,hr⟩;rw[hblk1] at a2 a3;have hgn:γ1 n=γ n:=a8 n _ (w9 ..) rfl;refine⟨γ,V1,o,_,?_,?_,?_,a4,?_,?_,?_,λ_ _ _ _=>rfl,l',rfl,hr⟩
 . rcases hR o l' hr with⟨d,rfl⟩|⟨d,rfl⟩
   . cases e<;>exact a1
   . cases e<;>exact a1
 . exact⟨a2.os,a2.tape,a2.output,a2.size,λk hk hn=>a2.block k hk λhm=>hn (by rw[I4.1 hm];exact hin)⟩
 . refine⟨a3.le,λb o v hv=>(a3.cell b o v hv).imp id (Or.imp (λhm=>by rw[I4.1 hm];exact hin) id),λr x hx=>(a3.obj r x hx).imp id (Or.imp (λhm=>by rw[I4.1 hm];exact hin) id)⟩
 . intro m b hb;by_cases e:n=m
   . subst e;rw[w9] at hb;cases hb;obtain⟨blk',csv',hg',hh',hc',h1',hnone'⟩:=a5 n _ (w9 ..);rw[hgn,hg] at hg';obtain rfl:blk=blk':=by simpa using hg'
     obtain⟨u0',us',hus',hu0',huc'⟩:=All2.cons_l hc';have e2:=b9F huc';subst e2;refine⟨blk,csv',hg,hh',?_,h1',hnone'⟩;rw[hus'];exact .cons hu0' (huc.imp λb _ y hy=>hy.mono a3.le)
   . rw [p5 e] at hb;have hb0:=hown m b (by rw[p5 e];exact hb);have hne:∀k,(γ m).2=some k->k≠blk:=λk hk hkb=>hinj m n b _ (by rw[p5 e];exact hb) hl0 (λh=>e h.symm) k hk (by rw[hg,hkb]);refine hb0.keep a3.le (λk hk=>a2.block k (I2 hb0 hk) (by simpa using hne k hk)) (λk hk o u hu=>?_) (λk hk u hu=>?_)
     . rcases a3.cell k o u hu with h|h|h
       . exact h
       . exact absurd (I4.1 h) (hne k hk)
       . have:=I2 hb0 hk;omega
     . rcases a3.obj k u hu with h|h|h
       . exact h
       . exact absurd (I4.1 h) (hne k hk)
       . have:=I2 hb0 hk;omega
 . intro m b hb k hk;refine .inl ?_;by_cases e:n=m
   . subst e;rw[hg] at hk;cases hk;exact hin
   . rw[p5 e] at hb;exact R6.2 ⟨(m,b),r6 _ (Y3 hb),hk⟩
 . have fix:∀{m:Nat} {b:Blk},d7 m ((n,Blk.box (.d l'::cs) ty)::X)=some b->∃b',d7 m ((n,Blk.box (.d l::cs) ty)::X)=some b':=by
    intro m b hb;by_cases e:n=m
    . subst e;exact⟨_,hl0⟩
    . rw[p5 e] at hb⊢;exact⟨b,hb⟩
   intro m m' b b' hb hb' hne k hk;obtain⟨c,hc⟩:=fix hb;obtain⟨c',hc'⟩:=fix hb';exact hinj m m' c c' hc hc' hne k hk
set_option maxRecDepth 100000
inductive Rs (α:Type) where
 |ok (a:α) (ts:List Tk)
 |er (at_:Nat) (e:Int)
 |out
def Rs.bind {α β:Type}(r:Rs α)(f:α->List Tk->Rs β):Rs β:=match r with| .ok a ts=>f a ts| .er a e=> .er a e| .out=> .out
theorem j7 {α β:Type}{a:α}{ts:List Tk}{f:α->List Tk->Rs β}:(Rs.ok a ts).bind f=f a ts:=rfl
theorem j9 {α β:Type}{a:Nat}{e:Int}{f:α->List Tk->Rs β}:(Rs.er a e:Rs α).bind f= .er a e:=rfl
def hdT (ts:List Tk):Tk:=ts.headD ⟨6,[],0⟩
def I6 {α:Type}(e:Int)(ts:List Tk):Rs α:= .er (hdT ts).at_ e
def isW (w:List UInt8)(ts:List Tk):Bool:=(decide ((hdT ts).kind=1)||decide ((hdT ts).kind=5))&&decide ((hdT ts).text=w)
def o3 (w:List UInt8)(ts:List Tk):Rs Unit:=if isW w ts then .ok () ts.tail else I6 60 ts
def a0i (t:Tk):Option Int:=if t.kind=2/\t.text.head?≠some 45/\(numN t.text:Int)<=1125899906842624 then some (numN t.text) else none
def y0 (ts:List Tk):Rs Int:=match a0i (hdT ts) with|some n=> .ok n ts.tail|none=>I6 60 ts
def a1x (ts:List Tk):Option Int:=if isW [100,105,115,116,97,110,99,101] ts then some 1 else if isW [102,105,101,108,100] ts then some 2 else if isW [115,104,111,114,116] ts then some 3 else none
abbrev K5 (c:Cond):Cond:=⟨4,0,0,[c]⟩
abbrev leC (v n:Int):Cond:=⟨1,v,n,[]⟩
def N5 (v:Int)(ts:List Tk):Rs Cond:=
 if isW [62,61] ts then(y0 ts.tail).bind λn ts=> .ok (leC v n) ts
 else if isW [62] ts then(y0 ts.tail).bind λn ts=> .ok (leC v (n+1)) ts
 else if isW [60,61] ts then(y0 ts.tail).bind λn ts=> .ok (K5 (leC v (n+1))) ts
 else if isW [60] ts then(y0 ts.tail).bind λn ts=> .ok (K5 (leC v n)) ts
 else if isW [61] ts then(y0 ts.tail).bind λn ts=> .ok ⟨2,0,0,[leC v n,K5 (leC v (n+1))]⟩ ts
 else I6 60 ts
def mkC (k:Int):List Cond->Cond
 |[c]=>c
 |l=>⟨k,0,0,l⟩
mutual
def A1:Nat->Nat->List Tk->Rs Cond
 |0,_,_=> .out
 | k+1,d,ts=>
   if(isW [110,111,116] ts||isW [40] ts)&&decide (16<=d) then I6 2 ts
   else if isW [110,111,116] ts then(A1 k (d+1) ts.tail).bind λc ts=> .ok (K5 c) ts
   else if isW [40] ts then(condP k (d+1) ts.tail).bind λc ts=>(o3 [41] ts).bind λ_ ts=> .ok c ts
   else match a1x ts with
    |none=>I6 60 ts
    |some v=>N5 v ts.tail
def E9:Nat->Nat->List Tk->Rs Cond
 |0,_,_=> .out
 |k+1,d,ts=>(A1 k d ts).bind λc ts=>conjL k d [c] ts
def conjL:Nat->Nat->List Cond->List Tk->Rs Cond
 |0,_,_,_=> .out
 |k+1,d,l,ts=>if isW [97,110,100] ts then(A1 k d ts.tail).bind λc ts=>conjL k d (l++[c]) ts else .ok (mkC 2 l) ts
def condP:Nat->Nat->List Tk->Rs Cond
 |0,_,_=> .out
 |k+1,d,ts=>(E9 k d ts).bind λc ts=>condL k d [c] ts
def condL:Nat->Nat->List Cond->List Tk->Rs Cond
 |0,_,_,_=> .out
 |k+1,d,l,ts=>if isW [111,114] ts then(E9 k d ts.tail).bind λc ts=>condL k d (l++[c]) ts else .ok (mkC 3 l) ts
end
def critW:List (List UInt8×Int):=[([111,108,100,101,114],1),([121,111,117,110,103,101,114],2),([119,97,118,101],3),([98,105,98],4),([100,114,97,119],5)]
def O6 (ts:List Tk):Option Int:=if(hdT ts).kind=1 then(critW.find? λp=>p.1==(hdT ts).text).map (·.2) else none
mutual
def y9 :Nat->Nat->List Step->List Tk->Rs (List Step)
 |0,_,_,_=> .out
 | k + 1,d,l,ts=>match O6 ts with
   |some b=>(o3 [59] ts.tail).bind λ_ ts=>y9 k d (l++[⟨1,b,⟨0,0,0,[]⟩,[],[]⟩]) ts
   | none=>
     if isW [105,102] ts then
      if 16<=d then I6 2 ts
      else(condP k 0 ts.tail).bind λc ts=>(blockP k (d+1) ts).bind λt ts=>
       if isW [101,108,115,101] ts then(blockP k (d+1) ts.tail).bind λe ts=>y9 k d (l++[⟨2,0,c,t,e⟩]) ts
       else y9 k d (l++[⟨2,0,c,t,[]⟩]) ts
     else if l=[] then I6 60 ts else .ok l ts
def blockP:Nat->Nat->List Tk->Rs (List Step)
 |0,_,_=> .out
 |k+1,d,ts=>(o3 [123] ts).bind λ_ ts=>(y9 k d [] ts).bind λl ts=>(o3 [125] ts).bind λ_ ts=> .ok l ts
end
theorem K3 {α β:Type}{r r':Rs α}{f f':α->List Tk->Rs β}(h:r≠ .out->r'=r)(hf:∀a ts,f a ts≠ .out->f' a ts=f a ts)(hn:r.bind f≠ .out):r'.bind f'=r.bind f:=by
 cases r with
 |ok a ts=>rw[h (by simp)];exact hf a ts hn
 |er a e=>rw[h (by simp)];rfl
 |out=>exact absurd rfl hn
theorem b6B:∀k:Nat,(∀d ts,A1 k d ts≠ .out->A1 (k+1) d ts=A1 k d ts)/\(∀d ts,E9 k d ts≠ .out->E9 (k+1) d ts=E9 k d ts)/\(∀d l ts,conjL k d l ts≠ .out->conjL (k+1) d l ts=conjL k d l ts)/\
 (∀d ts,condP k d ts≠ .out->condP (k+1) d ts=condP k d ts)/\(∀d l ts,condL k d l ts≠ .out->condL (k+1) d l ts=condL k d l ts)
 |0=>⟨λd ts h=>absurd (by rw[A1]) h,λd ts h=>absurd (by rw[E9]) h,λd l ts h=>absurd (by rw[conjL]) h,λd ts h=>absurd (by rw[condP]) h,λd l ts h=>absurd (by rw[condL]) h⟩
 | k + 1 =>by
   obtain⟨h1,h2,h3,h4,h5⟩:=b6B k;refine⟨λd ts h=>?_,λd ts h=>?_,λd l ts h=>?_,λd ts h=>?_,λd l ts h=>?_⟩
   . rw [A1] at h;conv=>lhs;rw[A1]
     conv=>rhs;rw[A1]
     split
     . rfl
     . rename_i q1;rw[c8 q1] at h;split
       . rename_i q2;rw[d4 q2] at h;exact K3 (h1 _ _) (λ_ _ _=>rfl) h
       . rename_i q2;rw[c8 q2] at h;split
         . rename_i q3;rw[d4 q3] at h;exact K3 (h4 _ _) (λ_ _ _=>rfl) h
         . rfl
   . rw[E9] at h;conv=>lhs;rw[E9]
     conv=>rhs;rw[E9]
     exact K3 (h1 _ _) (λ_ _=>h3 _ _ _) h
   . rw [conjL] at h;conv=>lhs;rw[conjL]
     conv=>rhs;rw[conjL]
     split
     . rename_i q;rw[d4 q] at h;exact K3 (h1 _ _) (λ_ _=>h3 _ _ _) h
     . rfl
   . rw[condP] at h;conv=>lhs;rw[condP]
     conv=>rhs;rw[condP]
     exact K3 (h2 _ _) (λ_ _=>h5 _ _ _) h
   . rw [condL] at h;conv=>lhs;rw[condL]
     conv=>rhs;rw[condL]
     split
     . rename_i q;rw[d4 q] at h;exact K3 (h2 _ _) (λ_ _=>h5 _ _ _) h
     . rfl
theorem c0x :∀k:Nat,(∀d l ts,y9 k d l ts≠ .out->y9 (k+1) d l ts=y9 k d l ts)/\(∀d ts,blockP k d ts≠ .out->blockP (k+1) d ts=blockP k d ts)
 |0=>⟨λd l ts h=>absurd (by rw[y9]) h,λd ts h=>absurd (by rw[blockP]) h⟩
 | k + 1 => by
   obtain⟨h1,h2⟩:=c0x k;have h4:=(b6B k).2.2.2.1;refine⟨λd l ts h=>?_,λd ts h=>?_⟩
   . rw [y9] at h;conv=>lhs;rw[y9]
     conv=>rhs;rw[y9]
     split
     . rename_i b hb;rw[hb] at h;exact K3 (λ_=>rfl) (λ_ _=>h1 _ _ _) h
     . rename_i hb;rw[hb] at h;split
       . rename_i q;simp only[d4 q] at h;split
         . rfl
         . rename_i q2;rw[c8 q2] at h;refine K3 (h4 _ _) (λc ts hh=>?_) h;refine K3 (h2 _ _) (λt ts hh=>?_) hh;split
           . rename_i q3;rw[d4 q3] at hh;exact K3 (h2 _ _) (λ_ _=>h1 _ _ _) hh
           . rename_i q3;rw[c8 q3] at hh;exact h1 _ _ _ hh
       . rfl
   . rw[blockP] at h;conv=>lhs;rw[blockP]
     conv=>rhs;rw[blockP]
     exact K3 (λ_=>rfl) (λ_ _ hh=>K3 (h1 _ _ _) (λ_ _ _=>rfl) hh) h
theorem c9f {α:Type}{f:Nat->Rs α}(h:∀k,f k≠ .out->f (k+1)=f k){k j:Nat}(hk:f k≠ .out)(hj:k<=j):f j=f k:=by
 obtain⟨i,rfl⟩:∃i,j=k+i:=⟨j-k,by omega⟩
 clear hj;induction i with
 |zero=>rfl
 |succ i ih=>rw[<-ih];exact h (k+i) (by rw[ih];exact hk)
def Rs.short {α:Type}(r:Rs α)(n:Nat):Prop:=r≠ .out/\∀a ts,r= .ok a ts->ts.length<=n
theorem T8 {α:Type}{e:Int}{ts:List Tk}{n:Nat}:(I6 e ts:Rs α).short n:=⟨by simp[I6],λa ts h=>by simp[I6] at h⟩
theorem Rs.short.bind {α β:Type}{r:Rs α}{f:α->List Tk->Rs β}{n m:Nat}(h:r.short n)(hf:∀a ts,ts.length<=n->(f a ts).short m):(r.bind f).short m:=by
 cases r with
 |ok a ts=>exact hf a ts (h.2 a ts rfl)
 |er a e=>exact⟨by simp[Rs.bind],λa ts h=>by simp[Rs.bind] at h⟩
 |out=>exact absurd rfl h.1
theorem c7E {w:List UInt8}{ts:List Tk}(h:isW w ts=true):∃t r,ts=t::r:=by
 cases ts with
 |nil=>simp[isW,hdT] at h
 |cons t r=>exact⟨t,r,rfl⟩
theorem a2C {w:List UInt8}{ts:List Tk}(h:isW w ts=true):ts.tail.length+1=ts.length:=by
 obtain⟨t,r,rfl⟩:=c7E h;rfl
theorem D2 {w:List UInt8}{ts:List Tk}{n:Nat}(h:ts.length<=n+1):(o3 w ts).short n:=by
 rw[o3];split
 . rename_i q;exact⟨by simp,λa r e=>by cases e;rw[a0q];omega⟩
 . exact T8
theorem a0K {ts:List Tk}{n:Nat}(h:ts.length<=n+1):(y0 ts).short n:=by
 rw[y0];split
 . exact⟨by simp,λa r e=>by cases e;rw[a0q];omega⟩
 . exact T8
theorem Rs.short.ok {α:Type}{a:α}{ts:List Tk}{n:Nat}(h:ts.length<=n):(Rs.ok a ts).short n:=⟨by simp,λ_ _ e=>by cases e;exact h⟩
theorem d0X {v:Int}{ts:List Tk}{n:Nat}(h:ts.length<=n):(N5 v ts).short n:=by
 have ht:ts.tail.length<=n+1:=by rw[a0q];omega
 rw[N5];repeat' split
 all_goals first
  |exact T8
  |exact(a0K ht).bind λ_ _ h=> .ok h
theorem b6A (n:Nat):(∀k d ts,ts.length<=n->5*n+1<=k->(A1 k d ts).short n)/\(∀k d ts,ts.length<=n->5*n+3<=k->(E9 k d ts).short n)/\(∀k d l ts,ts.length<=n->5*n+2<=k->(conjL k d l ts).short n)/\
 (∀k d ts,ts.length<=n->5*n+5<=k->(condP k d ts).short n)/\(∀k d l ts,ts.length<=n->5*n+4<=k->(condL k d l ts).short n):=by
 have ih:∀m,m+1=n->(∀k d ts,ts.length<=m->5*m+1<=k->(A1 k d ts).short m)/\(∀k d ts,ts.length<=m->5*m+3<=k->(E9 k d ts).short m)/\(∀k d l ts,ts.length<=m->5*m+2<=k->(conjL k d l ts).short m)/\
  (∀k d ts,ts.length<=m->5*m+5<=k->(condP k d ts).short m)/\(∀k d l ts,ts.length<=m->5*m+4<=k->(condL k d l ts).short m):=λm hm=>b6A m
 have up:∀{α:Type} {r:Rs α} {m:Nat},m+1=n->r.short m->r.short n:=λhm h=>⟨h.1,λa ts e=>by have:=h.2 a ts e;omega⟩
 have h1:∀k d ts,ts.length<=n->5*n+1<=k->(A1 k d ts).short n:=by
  intro k d ts hts hk;obtain⟨k,rfl⟩:∃j,k=j+1:=⟨k-1,by omega⟩
  rw[A1];split
  . exact T8
  split
  . rename_i q;have:=a2C q;obtain⟨m,hm⟩:∃m,m+1=n:=⟨n-1,by omega⟩
    exact up hm (((ih m hm).1 k (d+1) ts.tail (by omega) (by omega)).bind λ_ _ h=> .ok h)
  split
  . rename_i q;have:=a2C q;obtain⟨m,hm⟩:∃m,m+1=n:=⟨n-1,by omega⟩
    exact up hm (((ih m hm).2.2.2.1 k (d+1) ts.tail (by omega) (by omega)).bind λ_ _ h=>(D2 (by omega)).bind λ_ _ h=> .ok h)
  . split
    . exact T8
    . exact d0X (by rw[a0q];omega)
 have h3:∀k d l ts,ts.length<=n->5*n+2<=k->(conjL k d l ts).short n:=by
  intro k d l ts hts hk;obtain⟨k,rfl⟩:∃j,k=j+1:=⟨k-1,by omega⟩
  rw[conjL];split
  . rename_i q;have:=a2C q;obtain⟨m,hm⟩:∃m,m+1=n:=⟨n-1,by omega⟩
    exact up hm (((ih m hm).1 k d ts.tail (by omega) (by omega)).bind λ_ _ h=>(ih m hm).2.2.1 k d _ _ h (by omega))
  . exact .ok hts
 have h2:∀k d ts,ts.length<=n->5*n+3<=k->(E9 k d ts).short n:=by
  intro k d ts hts hk;obtain⟨k,rfl⟩:∃j,k=j+1:=⟨k-1,by omega⟩
  rw[E9];exact(h1 k d ts hts (by omega)).bind λ_ _ h=>h3 k d _ _ h (by omega)
 have h5:∀k d l ts,ts.length<=n->5*n+4<=k->(condL k d l ts).short n:=by
  intro k d l ts hts hk;obtain⟨k,rfl⟩:∃j,k=j+1:=⟨k-1,by omega⟩
  rw[condL];split
  . rename_i q;have:=a2C q;obtain⟨m,hm⟩:∃m,m+1=n:=⟨n-1,by omega⟩
    exact up hm (((ih m hm).2.1 k d ts.tail (by omega) (by omega)).bind λ_ _ h=>(ih m hm).2.2.2.2 k d _ _ h (by omega))
  . exact .ok hts
 refine⟨h1,h2,h3,λk d ts hts hk=>?_,h5⟩;obtain⟨k,rfl⟩:∃j,k=j+1:=⟨k-1,by omega⟩
 rw[condP];exact(h2 k d ts hts (by omega)).bind λ_ _ h=>h5 k d _ _ h (by omega)
termination_by n
decreasing_by omega
structure Lx (r:List UInt8) (l:List (Nat×List UInt8)):Prop where
 toks:∀a,(Dx.toks r a).map Tk.bare=l
 bads:∀a en nb,Dx.bads r a en nb=[]
theorem Lx.nil:Lx [] [(6,[])]:=⟨λa=>rfl,λa en nb=>rfl⟩
theorem Lx.step {c:UInt8}{t r:List UInt8}{l:List (Nat×List UInt8)}{k:Nat}{s:List UInt8}{n:Nat}(hs:w7 (c::t)=(k,s,n))(hd:(c::t).drop n=r)(h:Lx r l)(hk:a1j k=true):Lx (c::t) ((k,s)::l):=by
 refine⟨λa=>?_,λa en nb=>?_⟩
 . rw[a8O,hs];simp only[hk,if_true,o5];rw[hd,h.toks];rfl
 . rw[b1T,hs];have:¬k=0:=by intro e;subst e;simp[a1j] at hk
   simp only[this,if_false];rw[hd,h.bads]
theorem Lx.skip {c:UInt8}{t r:List UInt8}{l:List (Nat×List UInt8)}{s:List UInt8}{n:Nat}(hs:w7 (c::t)=(7,s,n))(hd:(c::t).drop n=r)(h:Lx r l):Lx (c::t) l:=by
 refine⟨λa=>?_,λa en nb=>?_⟩
 . rw[a8O,hs];simp only[a1j];rw[hd];exact h.toks _
 . rw[b1T,hs];simp only;rw[hd];exact h.bads _ _ _
theorem b5y {c:UInt8}{r:List UInt8}{l:List (Nat×List UInt8)}(hc:blB c=true)(h:Lx r l):Lx (c::r) l:=
 Lx.skip (s:=[]) (n:=1) (by rw[w7,d4 hc]) rfl h
def Brk (r:List UInt8):Prop:=A0 true r=0
theorem d1m {r:List UInt8}(h:Brk r):A0 false r=0:=by
 cases r with
 |nil=>rfl
 | cons b t=>
   unfold Brk at h;unfold A0 at h⊢;split at h
   . cases h
   . rename_i q;rw[c8];intro h2;simp only[a5r,Bool.or_false] at h2;exact q (by rw[h2];rfl)
theorem Brk.cons {c:UInt8}{t:List UInt8}(h1:inB c=false)(h2:c≠58/\c≠46):Brk (c::t):=by
 unfold Brk A0;rw[c8];rw[h1];have:ptB c t=false:=by
  unfold ptB;have e1:(c==58)=false:=by simpa using h2.1
  have e2:(c==46)=false:=by simpa using h2.2
  rw[e1,e2];rfl
 rw[this];decide
theorem Brk.nil:Brk []:=rfl
theorem b9X (y:List UInt8):∀{x:List UInt8},x.all inB=true->A0 false (x++y)=x.length+A0 false y
 |[],_=>by simp
 | b::x,h=>by
   rw[F8,f0] at h;rw[q8,A0,d4 (by rw[h.1];rfl),b9X y h.2,i7];omega
def a3b (w:List UInt8):Bool:=match w with|[]=>false|c::t=>L7 c&&t.all inB
theorem a7t {p:UInt8->Prop}(h:∀n:Fin 256,p (UInt8.ofNat n.1))(b:UInt8):p b:=by
 have:=h ⟨b.toNat,b.toNat_lt⟩;simpa using this
theorem c8B (c:UInt8):L7 c=true->blB c=false/\c≠35:=a7t (p:=λc=>L7 c=true->blB c=false/\c≠35) (by decide+kernel) c
theorem Lx.word {w r:List UInt8}{l:List (Nat×List UInt8)}(hw:a3b w=true)(hr:Brk r)(h:Lx r l):Lx (w++r) ((1,w)::l):=by
 cases w with
 |nil=>cases hw
 | cons c t=>
   simp only[a3b,f0] at hw;have hb:=c8B c hw.1;have hrun:A0 false (t++r)=t.length:=by rw[b9X r hw.2,d1m hr];rfl
   rw[q8];refine Lx.step (k:=1) (s:=c::t) (n:=t.length+1) ?_ ?_ h (by decide)
   . rw[w7,c8 (by rw[hb.1];decide),c8 hb.2,C4,d4 hw.1,hrun];simp
   . simp
theorem c5s (c:UInt8):p4 c=true->blB c=false/\c≠35/\L7 c=false:=a7t (p:=λc=>p4 c=true->blB c=false/\c≠35/\L7 c=false) (by decide+kernel) c
theorem Lx.num {s r:List UInt8}{l:List (Nat×List UInt8)}(hs:E4 s=true)(hr:Brk r)(h:Lx r l):Lx (s++r) ((2,s)::l):=by
 obtain⟨hd,hne⟩:=a4W hs;cases s with
 |nil=>exact absurd rfl hne
 | cons c t=>
   rw[F8,f0] at hd;have hb:=c5s c hd.1;have hrun:A0 true (t++r)=t.length:=by rw[a5c r hd.2,hr];rfl
   have hint:Y1 (c::t)=true:=by
    rw[b2N]
    . exact hs
    . intro q e;cases e;exact absurd hd.1 (by decide)
   rw[q8];refine Lx.step (k:=2) (s:=c::t) (n:=t.length+1) ?_ ?_ h (by decide)
   . rw[w7,c8 (by rw[hb.1];decide),c8 hb.2.1,C4,c8 (by rw[hb.2.2];decide),d4 (by rw[hd.1];rfl),hrun];have:(c::(t++r)).take (t.length+1)=c::t:=by simp
     rw[this,a1n,d4 hint]
   . simp
theorem d1F (c:UInt8):sgB c=true->blB c=false/\c≠35/\L7 c=false/\p4 c=false/\c≠45/\c≠34:=a7t (p:=λc=>sgB c=true->blB c=false/\c≠35/\L7 c=false/\p4 c=false/\c≠45/\c≠34) (by decide+kernel) c
theorem a7m {c:UInt8}{r:List UInt8}{l:List (Nat×List UInt8)}(hc:sgB c=true)(hd:a2w c r=false)(h:Lx r l):Lx (c::r) ((5,[c])::l):=by
 have hb:=d1F c hc;refine Lx.step (k:=5) (s:=[c]) (n:=1) ?_ rfl h (by decide);have e45:(c==45)=false:=by simpa using hb.2.2.2.2.1
 rw[w7,c8 (by rw[hb.1];decide),c8 hb.2.1,C4,c8 (by rw[hb.2.2.1];decide),c8 (by rw[hb.2.2.2.1,e45];simp),c8 hb.2.2.2.2.2,c8 (by rw[hd];decide),d4 hc]
theorem b5z {c d:UInt8}{r:List UInt8}{l:List (Nat×List UInt8)}(hc:a2w c (d::r)=true)(h:Lx r l):Lx (c::d::r) ((5,[c,d])::l):=by
 have hcd:(c=60\/c=62\/c=46):=by
  simp only[a2w,C0,f0,beq_iff_eq] at hc;rcases hc with⟨h|h,_⟩|⟨h,_⟩
  . exact .inl h
  . exact .inr (.inl h)
  . exact .inr (.inr h)
 have hb:blB c=false/\c≠35/\L7 c=false/\p4 c=false/\(c==45)=false/\c≠34:=by
  rcases hcd with rfl|rfl|rfl<;>decide
 refine Lx.step (k:=5) (s:=[c,d]) (n:=2) ?_ rfl h (by decide);rw[w7,c8 (by rw[hb.1];decide),c8 hb.2.1,C4,c8 (by rw[hb.2.2.1];decide),c8 (by rw[hb.2.2.2.1,hb.2.2.2.2.1];simp),c8 hb.2.2.2.2.2,d4 hc];rfl
theorem Lx.time {s r:List UInt8}{l:List (Nat×List UInt8)}{v:Int}(hs:I9 s=some v)(hr:Brk r)(h:Lx r l):Lx (s++r) ((3,s)::l):=by
 obtain⟨b,t,rfl,h1,h2⟩:=c7a hs;have hrd:=d0S hs hr;rw[q8] at hrd⊢;refine Lx.step (k:=3) (s:=b::t) (n:=(b::t).length) ?_ ?_ h (by decide)
 . rw[w7,c8 (by rw[h1];decide),c8 h2,hrd]
 . simp
end Go.Proofs.YteillnfhkeebjaaGreatDoor.Dx
