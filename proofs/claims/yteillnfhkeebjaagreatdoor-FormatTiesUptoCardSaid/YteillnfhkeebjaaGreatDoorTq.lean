/- A box whose further cells a function only keeps: what they hold does not matter. -/
import Derived.Test.YteillnfhkeebjaaGreatDoorSg
import Derived.Test.YteillnfhkeebjaaGreatDoorTk
import Derived.Test.YteillnfhkeebjaaGreatDoorSk
set_option linter.all false
namespace Go.Proofs.YteillnfhkeebjaaGreatDoor.Dx
open Go Go.RowKit
abbrev t8 (u:Value):Base:= .d (.raw u)
theorem b2H {γ:Gm}{V:Know}:∀{us ws:List Value},All2 (RVb γ V) (us.map t8) ws->ws=us
 |[],ws,h=>h.nil_l
 | u::us,ws,h=>by
   obtain⟨w,ws',rfl,h1,h2⟩:=All2.cons_l (by simpa using h)
   rw[b2H h2]
   have h1:Rep V w (.raw u):=h1
   cases h1
   rfl
theorem a9q {γ:Gm}{V:Know}:∀{us:List Value},(∀u∈us,u.oneCell'=true)->All2 (RVb γ V) (us.map t8) us
 |[],_=> .nil
 |u::us,h=> .cons (show Rep V u (.raw u) from .raw u (h u (by simp))) (a9q λx hx=>h x (List.mem_cons_of_mem _ hx))
theorem MeetsR.keepRaw {P:Program}{F:FuncId}{args:List Base}{n:Nat}{l:D}{cs:List Base}{ty:TypeId}{X:List (Nat×Blk)}{R:Out->D->Prop}
 (h:∀us:List Value,us.length=cs.length->MeetsR P F args [(n, .box (.d l::us.map t8) ty)] λo O'=>∃l',O'=[(n, .box (.d l'::us.map t8) ty)]/\R o l')
 (hR:∀o l',R o l'->(∃d,o= .ret (.d d))\/∃d,o= .pan d):
 MeetsR P F args ((n, .box (.d l::cs) ty)::X) λo O'=>∃l',O'=(n, .box (.d l'::cs) ty)::X/\R o l':=by
 refine⟨(h (List.replicate cs.length undef) (by simp)).fn,λγ V W xs hs hv hown hinj=>?_⟩
 have hl0:b7 n ((n,Blk.box (.d l::cs) ty)::X)=some (.box (.d l::cs) ty):=j0 ..
 obtain⟨blk,csv,hg,hh,hc,h1,hnone⟩:=hown n _ hl0
 obtain⟨u0,us,hus,hu0,huc⟩:=All2.cons_l hc
 have hlen:us.length=cs.length:=huc.len.symm
 have hone:∀u∈us,u.oneCell'=true:=λu hu=>h1 u (by rw[hus];exact List.mem_cons_of_mem _ hu)
 have hraw:j6 γ V W [(n, .box (.d l::us.map t8) ty)]:=by
  intro m b hb
  by_cases e:n=m
  . subst e
    rw[j0] at hb
    cases hb
    exact⟨blk,csv,hg,hh,by rw[hus];exact .cons hu0 (a9q hone),h1,hnone⟩
  . rw[d6 e,f8] at hb;cases hb
 have hinj1:y5 γ [(n,Blk.box (.d l::us.map t8) ty)]:=by
  intro m m' b b' hb hb' hne
  have one:∀{m:Nat} {b:Blk},b7 m [(n,Blk.box (.d l::us.map t8) ty)]=some b->m=n:=by
   intro m b hb
   by_cases e:n=m
   . exact e.symm
   . rw[d6 e,f8] at hb;cases hb
  exact absurd ((one hb).trans (one hb').symm) hne
 have hblk1:d5 γ [(n,Blk.box (.d l::us.map t8) ty)]=[blk]:=by simp[d5,hg]
 have hin:blk∈d5 γ ((n,Blk.box (.d l::cs) ty)::X):=by simp[d5,hg]
 refine((h us hlen).run γ V W xs hs hv hraw hinj1).mono ?_
 rintro e W' ⟨γ1,V1,o,O1,a1,a2,a3,a4,a5,a6,a7,a8,l',rfl,hr⟩
 rw[hblk1] at a2 a3
 have hgn:γ1 n=γ n:=a8 n _ (j0 ..) rfl
 refine⟨γ,V1,o,_,?_,?_,?_,a4,?_,?_,?_,λ_ _ _ _=>rfl,l',rfl,hr⟩
 . rcases hR o l' hr with⟨d,rfl⟩|⟨d,rfl⟩
   . cases e<;>exact a1
   . cases e<;>exact a1
 . exact⟨a2.os,a2.tape,a2.output,a2.size,λk hk hn=>a2.block k hk λhm=>hn (by rw[List.mem_singleton.1 hm];exact hin)⟩
 . refine⟨a3.le,λb o v hv=>(a3.cell b o v hv).imp id (Or.imp (λhm=>by rw[List.mem_singleton.1 hm];exact hin) id),λr x hx=>(a3.obj r x hx).imp id (Or.imp (λhm=>by rw[List.mem_singleton.1 hm];exact hin) id)⟩
 . intro m b hb
   by_cases e:n=m
   . subst e
     rw[j0] at hb
     cases hb
     obtain⟨blk',csv',hg',hh',hc',h1',hnone'⟩:=a5 n _ (j0 ..)
     rw[hgn,hg] at hg'
     obtain rfl:blk=blk':=by simpa using hg'
     obtain⟨u0',us',hus',hu0',huc'⟩:=All2.cons_l hc'
     have e2:=b2H huc'
     subst e2
     refine⟨blk,csv',hg,hh',?_,h1',hnone'⟩
     rw[hus']
     exact .cons hu0' (huc.imp λb _ y hy=>hy.mono a3.le)
   . rw [d6 e] at hb
     have hb0:=hown m b (by rw[d6 e];exact hb)
     have hne:∀k,(γ m).2=some k->k≠blk:=λk hk hkb=>hinj m n b _ (by rw[d6 e];exact hb) hl0 (λh=>e h.symm) k hk (by rw[hg,hkb])
     refine hb0.keep a3.le (λk hk=>a2.block k (r9 hb0 hk) (by simpa using hne k hk)) (λk hk o u hu=>?_) (λk hk u hu=>?_)
     . rcases a3.cell k o u hu with h|h|h
       . exact h
       . exact absurd (List.mem_singleton.1 h) (hne k hk)
       . have:=r9 hb0 hk;omega
     . rcases a3.obj k u hu with h|h|h
       . exact h
       . exact absurd (List.mem_singleton.1 h) (hne k hk)
       . have:=r9 hb0 hk;omega
 . intro m b hb k hk
   refine .inl ?_
   by_cases e:n=m
   . subst e
     rw[hg] at hk
     cases hk
     exact hin
   . rw[d6 e] at hb
     exact List.mem_filterMap.2 ⟨(m,b),List.mem_cons_of_mem _ (E5 hb),hk⟩
 . have fix:∀{m:Nat} {b:Blk},b7 m ((n,Blk.box (.d l'::cs) ty)::X)=some b->∃b',b7 m ((n,Blk.box (.d l::cs) ty)::X)=some b':=by
    intro m b hb
    by_cases e:n=m
    . subst e;exact⟨_,hl0⟩
    . rw[d6 e] at hb⊢;exact⟨b,hb⟩
   intro m m' b b' hb hb' hne k hk
   obtain⟨c,hc⟩:=fix hb
   obtain⟨c',hc'⟩:=fix hb'
   exact hinj m m' c c' hc hc' hne k hk
end Go.Proofs.YteillnfhkeebjaaGreatDoor.Dx
/- Chapter 06: the parser of conditions and steps as plain functions over tokens. -/
namespace Go.Proofs.YteillnfhkeebjaaGreatDoor.Dx
open Go Go.RowKit
set_option maxRecDepth 100000
inductive Rs (α:Type) where
 |ok (a:α) (ts:List Tk)
 |er (at_:Nat) (e:Int)
 |out
def Rs.bind {α β:Type}(r:Rs α)(f:α->List Tk->Rs β):Rs β:=match r with| .ok a ts=>f a ts| .er a e=> .er a e| .out=> .out
theorem Rs.bind_ok {α β:Type}{a:α}{ts:List Tk}{f:α->List Tk->Rs β}:(Rs.ok a ts).bind f=f a ts:=rfl
theorem Rs.bind_er {α β:Type}{a:Nat}{e:Int}{f:α->List Tk->Rs β}:(Rs.er a e:Rs α).bind f= .er a e:=rfl
def hdT (ts:List Tk):Tk:=ts.headD ⟨6,[],0⟩
def C8 {α:Type}(e:Int)(ts:List Tk):Rs α:= .er (hdT ts).at_ e
def isW (w:List UInt8)(ts:List Tk):Bool:=(decide ((hdT ts).kind=1)||decide ((hdT ts).kind=5))&&decide ((hdT ts).text=w)
def p7 (w:List UInt8)(ts:List Tk):Rs Unit:=if isW w ts then .ok () ts.tail else C8 60 ts
def G2 (t:Tk):Option Int:=if t.kind=2/\t.text.head?≠some 45/\(numN t.text:Int)<=1125899906842624 then some (numN t.text) else none
def r4 (ts:List Tk):Rs Int:=match G2 (hdT ts) with|some n=> .ok n ts.tail|none=>C8 60 ts
def L4 (ts:List Tk):Option Int:=if isW [100,105,115,116,97,110,99,101] ts then some 1 else if isW [102,105,101,108,100] ts then some 2 else if isW [115,104,111,114,116] ts then some 3 else none
abbrev w6 (c:Cond):Cond:=⟨4,0,0,[c]⟩
abbrev leC (v n:Int):Cond:=⟨1,v,n,[]⟩
def z7 (v:Int)(ts:List Tk):Rs Cond:=
 if isW [62,61] ts then(r4 ts.tail).bind λn ts=> .ok (leC v n) ts
 else if isW [62] ts then(r4 ts.tail).bind λn ts=> .ok (leC v (n+1)) ts
 else if isW [60,61] ts then(r4 ts.tail).bind λn ts=> .ok (w6 (leC v (n+1))) ts
 else if isW [60] ts then(r4 ts.tail).bind λn ts=> .ok (w6 (leC v n)) ts
 else if isW [61] ts then(r4 ts.tail).bind λn ts=> .ok ⟨2,0,0,[leC v n,w6 (leC v (n+1))]⟩ ts
 else C8 60 ts
def mkC (k:Int):List Cond->Cond
 |[c]=>c
 |l=>⟨k,0,0,l⟩
mutual
def j5:Nat->Nat->List Tk->Rs Cond
 |0,_,_=> .out
 | k+1,d,ts=>
   if(isW [110,111,116] ts||isW [40] ts)&&decide (16<=d) then C8 2 ts
   else if isW [110,111,116] ts then(j5 k (d+1) ts.tail).bind λc ts=> .ok (w6 c) ts
   else if isW [40] ts then(condP k (d+1) ts.tail).bind λc ts=>(p7 [41] ts).bind λ_ ts=> .ok c ts
   else match L4 ts with
    |none=>C8 60 ts
    |some v=>z7 v ts.tail
def o7:Nat->Nat->List Tk->Rs Cond
 |0,_,_=> .out
 |k+1,d,ts=>(j5 k d ts).bind λc ts=>conjL k d [c] ts
def conjL:Nat->Nat->List Cond->List Tk->Rs Cond
 |0,_,_,_=> .out
 |k+1,d,l,ts=>if isW [97,110,100] ts then(j5 k d ts.tail).bind λc ts=>conjL k d (l++[c]) ts else .ok (mkC 2 l) ts
def condP:Nat->Nat->List Tk->Rs Cond
 |0,_,_=> .out
 |k+1,d,ts=>(o7 k d ts).bind λc ts=>condL k d [c] ts
def condL:Nat->Nat->List Cond->List Tk->Rs Cond
 |0,_,_,_=> .out
 |k+1,d,l,ts=>if isW [111,114] ts then(o7 k d ts.tail).bind λc ts=>condL k d (l++[c]) ts else .ok (mkC 3 l) ts
end
def critW:List (List UInt8×Int):=[([111,108,100,101,114],1),([121,111,117,110,103,101,114],2),([119,97,118,101],3),([98,105,98],4),([100,114,97,119],5)]
def A2 (ts:List Tk):Option Int:=if(hdT ts).kind=1 then(critW.find? λp=>p.1==(hdT ts).text).map (·.2) else none
mutual
def g8 :Nat->Nat->List Step->List Tk->Rs (List Step)
 |0,_,_,_=> .out
 | k + 1,d,l,ts=>match A2 ts with
   |some b=>(p7 [59] ts.tail).bind λ_ ts=>g8 k d (l++[⟨1,b,⟨0,0,0,[]⟩,[],[]⟩]) ts
   | none=>
     if isW [105,102] ts then
      if 16<=d then C8 2 ts
      else(condP k 0 ts.tail).bind λc ts=>(blockP k (d+1) ts).bind λt ts=>
       if isW [101,108,115,101] ts then(blockP k (d+1) ts.tail).bind λe ts=>g8 k d (l++[⟨2,0,c,t,e⟩]) ts
       else g8 k d (l++[⟨2,0,c,t,[]⟩]) ts
     else if l=[] then C8 60 ts else .ok l ts
def blockP:Nat->Nat->List Tk->Rs (List Step)
 |0,_,_=> .out
 |k+1,d,ts=>(p7 [123] ts).bind λ_ ts=>(g8 k d [] ts).bind λl ts=>(p7 [125] ts).bind λ_ ts=> .ok l ts
end
theorem G9 {α β:Type}{r r':Rs α}{f f':α->List Tk->Rs β}(h:r≠ .out->r'=r)(hf:∀a ts,f a ts≠ .out->f' a ts=f a ts)(hn:r.bind f≠ .out):r'.bind f'=r.bind f:=by
 cases r with
 |ok a ts=>rw[h (by simp)];exact hf a ts hn
 |er a e=>rw[h (by simp)];rfl
 |out=>exact absurd rfl hn
theorem a5R:∀k:Nat,(∀d ts,j5 k d ts≠ .out->j5 (k+1) d ts=j5 k d ts)/\(∀d ts,o7 k d ts≠ .out->o7 (k+1) d ts=o7 k d ts)/\(∀d l ts,conjL k d l ts≠ .out->conjL (k+1) d l ts=conjL k d l ts)/\
 (∀d ts,condP k d ts≠ .out->condP (k+1) d ts=condP k d ts)/\(∀d l ts,condL k d l ts≠ .out->condL (k+1) d l ts=condL k d l ts)
 |0=>⟨λd ts h=>absurd (by rw[j5]) h,λd ts h=>absurd (by rw[o7]) h,λd l ts h=>absurd (by rw[conjL]) h,λd ts h=>absurd (by rw[condP]) h,λd l ts h=>absurd (by rw[condL]) h⟩
 | k + 1 =>by
   obtain⟨h1,h2,h3,h4,h5⟩:=a5R k
   refine⟨λd ts h=>?_,λd ts h=>?_,λd l ts h=>?_,λd ts h=>?_,λd l ts h=>?_⟩
   . rw [j5] at h
     conv=>lhs;rw[j5]
     conv=>rhs;rw[j5]
     split
     . rfl
     . rename_i q1
       rw[if_neg q1] at h
       split
       . rename_i q2
         rw[if_pos q2] at h
         exact G9 (h1 _ _) (λ_ _ _=>rfl) h
       . rename_i q2
         rw[if_neg q2] at h
         split
         . rename_i q3
           rw[if_pos q3] at h
           exact G9 (h4 _ _) (λ_ _ _=>rfl) h
         . rfl
   . rw[o7] at h
     conv=>lhs;rw[o7]
     conv=>rhs;rw[o7]
     exact G9 (h1 _ _) (λ_ _=>h3 _ _ _) h
   . rw [conjL] at h
     conv=>lhs;rw[conjL]
     conv=>rhs;rw[conjL]
     split
     . rename_i q
       rw[if_pos q] at h
       exact G9 (h1 _ _) (λ_ _=>h3 _ _ _) h
     . rfl
   . rw[condP] at h
     conv=>lhs;rw[condP]
     conv=>rhs;rw[condP]
     exact G9 (h2 _ _) (λ_ _=>h5 _ _ _) h
   . rw [condL] at h
     conv=>lhs;rw[condL]
     conv=>rhs;rw[condL]
     split
     . rename_i q
       rw[if_pos q] at h
       exact G9 (h2 _ _) (λ_ _=>h5 _ _ _) h
     . rfl
theorem b3v :∀k:Nat,(∀d l ts,g8 k d l ts≠ .out->g8 (k+1) d l ts=g8 k d l ts)/\(∀d ts,blockP k d ts≠ .out->blockP (k+1) d ts=blockP k d ts)
 |0=>⟨λd l ts h=>absurd (by rw[g8]) h,λd ts h=>absurd (by rw[blockP]) h⟩
 | k + 1 => by
   obtain⟨h1,h2⟩:=b3v k
   have h4:=(a5R k).2.2.2.1
   refine⟨λd l ts h=>?_,λd ts h=>?_⟩
   . rw [g8] at h
     conv=>lhs;rw[g8]
     conv=>rhs;rw[g8]
     split
     . rename_i b hb
       rw[hb] at h
       exact G9 (λ_=>rfl) (λ_ _=>h1 _ _ _) h
     . rename_i hb
       rw[hb] at h
       split
       . rename_i q
         simp only[if_pos q] at h
         split
         . rfl
         . rename_i q2
           rw[if_neg q2] at h
           refine G9 (h4 _ _) (λc ts hh=>?_) h
           refine G9 (h2 _ _) (λt ts hh=>?_) hh
           split
           . rename_i q3
             rw[if_pos q3] at hh
             exact G9 (h2 _ _) (λ_ _=>h1 _ _ _) hh
           . rename_i q3
             rw[if_neg q3] at hh
             exact h1 _ _ _ hh
       . rfl
   . rw[blockP] at h
     conv=>lhs;rw[blockP]
     conv=>rhs;rw[blockP]
     exact G9 (λ_=>rfl) (λ_ _ hh=>G9 (h1 _ _ _) (λ_ _ _=>rfl) hh) h
theorem c0l {α:Type}{f:Nat->Rs α}(h:∀k,f k≠ .out->f (k+1)=f k){k j:Nat}(hk:f k≠ .out)(hj:k<=j):f j=f k:=by
 obtain⟨i,rfl⟩:∃i,j=k+i:=⟨j-k,by omega⟩
 clear hj
 induction i with
 |zero=>rfl
 |succ i ih=>rw[<-ih];exact h (k+i) (by rw[ih];exact hk)
def Rs.short {α:Type}(r:Rs α)(n:Nat):Prop:=r≠ .out/\∀a ts,r= .ok a ts->ts.length<=n
theorem U6 {α:Type}{e:Int}{ts:List Tk}{n:Nat}:(C8 e ts:Rs α).short n:=⟨by simp[C8],λa ts h=>by simp[C8] at h⟩
theorem Rs.short.bind {α β:Type}{r:Rs α}{f:α->List Tk->Rs β}{n m:Nat}(h:r.short n)(hf:∀a ts,ts.length<=n->(f a ts).short m):(r.bind f).short m:=by
 cases r with
 |ok a ts=>exact hf a ts (h.2 a ts rfl)
 |er a e=>exact⟨by simp[Rs.bind],λa ts h=>by simp[Rs.bind] at h⟩
 |out=>exact absurd rfl h.1
theorem b9b {w:List UInt8}{ts:List Tk}(h:isW w ts=true):∃t r,ts=t::r:=by
 cases ts with
 |nil=>simp[isW,hdT] at h
 |cons t r=>exact⟨t,r,rfl⟩
theorem a2b {w:List UInt8}{ts:List Tk}(h:isW w ts=true):ts.tail.length+1=ts.length:=by
 obtain⟨t,r,rfl⟩:=b9b h;rfl
theorem a4m {w:List UInt8}{ts:List Tk}{n:Nat}(h:ts.length<=n+1):(p7 w ts).short n:=by
 rw[p7]
 split
 . rename_i q
   exact⟨by simp,λa r e=>by cases e;rw[List.length_tail];omega⟩
 . exact U6
theorem c0K {ts:List Tk}{n:Nat}(h:ts.length<=n+1):(r4 ts).short n:=by
 rw[r4]
 split
 . exact⟨by simp,λa r e=>by cases e;rw[List.length_tail];omega⟩
 . exact U6
theorem Rs.short.ok {α:Type}{a:α}{ts:List Tk}{n:Nat}(h:ts.length<=n):(Rs.ok a ts).short n:=⟨by simp,λ_ _ e=>by cases e;exact h⟩
theorem c1M {v:Int}{ts:List Tk}{n:Nat}(h:ts.length<=n):(z7 v ts).short n:=by
 have ht:ts.tail.length<=n+1:=by rw[List.length_tail];omega
 rw[z7]
 repeat' split
 all_goals first
  |exact U6
  |exact(c0K ht).bind λ_ _ h=> .ok h
theorem a5Q (n:Nat):(∀k d ts,ts.length<=n->5*n+1<=k->(j5 k d ts).short n)/\(∀k d ts,ts.length<=n->5*n+3<=k->(o7 k d ts).short n)/\(∀k d l ts,ts.length<=n->5*n+2<=k->(conjL k d l ts).short n)/\
 (∀k d ts,ts.length<=n->5*n+5<=k->(condP k d ts).short n)/\(∀k d l ts,ts.length<=n->5*n+4<=k->(condL k d l ts).short n):=by
 have ih:∀m,m+1=n->(∀k d ts,ts.length<=m->5*m+1<=k->(j5 k d ts).short m)/\(∀k d ts,ts.length<=m->5*m+3<=k->(o7 k d ts).short m)/\(∀k d l ts,ts.length<=m->5*m+2<=k->(conjL k d l ts).short m)/\
  (∀k d ts,ts.length<=m->5*m+5<=k->(condP k d ts).short m)/\(∀k d l ts,ts.length<=m->5*m+4<=k->(condL k d l ts).short m):=λm hm=>a5Q m
 have up:∀{α:Type} {r:Rs α} {m:Nat},m+1=n->r.short m->r.short n:=λhm h=>⟨h.1,λa ts e=>by have:=h.2 a ts e;omega⟩
 have h1:∀k d ts,ts.length<=n->5*n+1<=k->(j5 k d ts).short n:=by
  intro k d ts hts hk
  obtain⟨k,rfl⟩:∃j,k=j+1:=⟨k-1,by omega⟩
  rw[j5]
  split
  . exact U6
  split
  . rename_i q
    have:=a2b q
    obtain⟨m,hm⟩:∃m,m+1=n:=⟨n-1,by omega⟩
    exact up hm (((ih m hm).1 k (d+1) ts.tail (by omega) (by omega)).bind λ_ _ h=> .ok h)
  split
  . rename_i q
    have:=a2b q
    obtain⟨m,hm⟩:∃m,m+1=n:=⟨n-1,by omega⟩
    exact up hm (((ih m hm).2.2.2.1 k (d+1) ts.tail (by omega) (by omega)).bind λ_ _ h=>(a4m (by omega)).bind λ_ _ h=> .ok h)
  . split
    . exact U6
    . exact c1M (by rw[List.length_tail];omega)
 have h3:∀k d l ts,ts.length<=n->5*n+2<=k->(conjL k d l ts).short n:=by
  intro k d l ts hts hk
  obtain⟨k,rfl⟩:∃j,k=j+1:=⟨k-1,by omega⟩
  rw[conjL]
  split
  . rename_i q
    have:=a2b q
    obtain⟨m,hm⟩:∃m,m+1=n:=⟨n-1,by omega⟩
    exact up hm (((ih m hm).1 k d ts.tail (by omega) (by omega)).bind λ_ _ h=>(ih m hm).2.2.1 k d _ _ h (by omega))
  . exact .ok hts
 have h2:∀k d ts,ts.length<=n->5*n+3<=k->(o7 k d ts).short n:=by
  intro k d ts hts hk
  obtain⟨k,rfl⟩:∃j,k=j+1:=⟨k-1,by omega⟩
  rw[o7]
  exact(h1 k d ts hts (by omega)).bind λ_ _ h=>h3 k d _ _ h (by omega)
 have h5:∀k d l ts,ts.length<=n->5*n+4<=k->(condL k d l ts).short n:=by
  intro k d l ts hts hk
  obtain⟨k,rfl⟩:∃j,k=j+1:=⟨k-1,by omega⟩
  rw[condL]
  split
  . rename_i q
    have:=a2b q
    obtain⟨m,hm⟩:∃m,m+1=n:=⟨n-1,by omega⟩
    exact up hm (((ih m hm).2.1 k d ts.tail (by omega) (by omega)).bind λ_ _ h=>(ih m hm).2.2.2.2 k d _ _ h (by omega))
  . exact .ok hts
 refine⟨h1,h2,h3,λk d ts hts hk=>?_,h5⟩
 obtain⟨k,rfl⟩:∃j,k=j+1:=⟨k-1,by omega⟩
 rw[condP]
 exact(h2 k d ts hts (by omega)).bind λ_ _ h=>h5 k d _ _ h (by omega)
termination_by n
decreasing_by omega
end Go.Proofs.YteillnfhkeebjaaGreatDoor.Dx
/- Chapter 06: how a written text is split into tokens (plain). -/
namespace Go.Proofs.YteillnfhkeebjaaGreatDoor.Dx
open Go Go.RowKit
set_option maxRecDepth 100000
structure Lx (r:List UInt8) (l:List (Nat×List UInt8)):Prop where
 toks:∀a,(Dx.toks r a).map Tk.bare=l
 bads:∀a en nb,Dx.bads r a en nb=[]
theorem Lx.nil:Lx [] [(6,[])]:=⟨λa=>rfl,λa en nb=>rfl⟩
theorem Lx.step {c:UInt8}{t r:List UInt8}{l:List (Nat×List UInt8)}{k:Nat}{s:List UInt8}{n:Nat}(hs:i6 (c::t)=(k,s,n))(hd:(c::t).drop n=r)(h:Lx r l)(hk:K0 k=true):Lx (c::t) ((k,s)::l):=by
 refine⟨λa=>?_,λa en nb=>?_⟩
 . rw[a2U,hs]
   simp only[hk,if_true,List.map_cons]
   rw[hd,h.toks];rfl
 . rw[a5F,hs]
   have:¬k=0:=by intro e;subst e;simp[K0] at hk
   simp only[this,if_false]
   rw[hd,h.bads]
theorem Lx.skip {c:UInt8}{t r:List UInt8}{l:List (Nat×List UInt8)}{s:List UInt8}{n:Nat}(hs:i6 (c::t)=(7,s,n))(hd:(c::t).drop n=r)(h:Lx r l):Lx (c::t) l:=by
 refine⟨λa=>?_,λa en nb=>?_⟩
 . rw[a2U,hs]
   simp only[K0]
   rw[hd]
   exact h.toks _
 . rw[a5F,hs]
   simp only
   rw[hd]
   exact h.bads _ _ _
theorem Lx.blank {c:UInt8}{r:List UInt8}{l:List (Nat×List UInt8)}(hc:blB c=true)(h:Lx r l):Lx (c::r) l:=
 Lx.skip (s:=[]) (n:=1) (by rw[i6,if_pos hc]) rfl h
def Brk (r:List UInt8):Prop:=j4 true r=0
theorem c2a {r:List UInt8}(h:Brk r):j4 false r=0:=by
 cases r with
 |nil=>rfl
 | cons b t=>
   unfold Brk at h
   unfold j4 at h⊢
   split at h
   . cases h
   . rename_i q
     rw[if_neg]
     intro h2
     simp only[Bool.false_and,Bool.or_false] at h2
     exact q (by rw[h2];rfl)
theorem Brk.cons {c:UInt8}{t:List UInt8}(h1:inB c=false)(h2:c≠58/\c≠46):Brk (c::t):=by
 unfold Brk j4
 rw[if_neg]
 rw[h1]
 have:ptB c t=false:=by
  unfold ptB
  have e1:(c==58)=false:=by simpa using h2.1
  have e2:(c==46)=false:=by simpa using h2.2
  rw[e1,e2];rfl
 rw[this];decide
theorem Brk.nil:Brk []:=rfl
theorem b2Y (y:List UInt8):∀{x:List UInt8},x.all inB=true->j4 false (x++y)=x.length+j4 false y
 |[],_=>by simp
 | b::x,h=>by
   rw[List.all_cons,Bool.and_eq_true] at h
   rw[List.cons_append,j4,if_pos (by rw[h.1];rfl),b2Y y h.2,List.length_cons];omega
def a5i (w:List UInt8):Bool:=match w with|[]=>false|c::t=>B9 c&&t.all inB
theorem a5z {p:UInt8->Prop}(h:∀n:Fin 256,p (UInt8.ofNat n.1))(b:UInt8):p b:=by
 have:=h ⟨b.toNat,b.toNat_lt⟩
 simpa using this
theorem b9Q (c:UInt8):B9 c=true->blB c=false/\c≠35:=a5z (p:=λc=>B9 c=true->blB c=false/\c≠35) (by decide+kernel) c
theorem Lx.word {w r:List UInt8}{l:List (Nat×List UInt8)}(hw:a5i w=true)(hr:Brk r)(h:Lx r l):Lx (w++r) ((1,w)::l):=by
 cases w with
 |nil=>cases hw
 | cons c t=>
   simp only[a5i,Bool.and_eq_true] at hw
   have hb:=b9Q c hw.1
   have hrun:j4 false (t++r)=t.length:=by rw[b2Y r hw.2,c2a hr];rfl
   rw[List.cons_append]
   refine Lx.step (k:=1) (s:=c::t) (n:=t.length+1) ?_ ?_ h (by decide)
   . rw[i6,if_neg (by rw[hb.1];decide),if_neg hb.2,l9,if_pos hw.1,hrun]
     simp
   . simp
theorem b7m (c:UInt8):d9 c=true->blB c=false/\c≠35/\B9 c=false:=a5z (p:=λc=>d9 c=true->blB c=false/\c≠35/\B9 c=false) (by decide+kernel) c
theorem Lx.num {s r:List UInt8}{l:List (Nat×List UInt8)}(hs:p4 s=true)(hr:Brk r)(h:Lx r l):Lx (s++r) ((2,s)::l):=by
 obtain⟨hd,hne⟩:=Y9 hs
 cases s with
 |nil=>exact absurd rfl hne
 | cons c t=>
   rw[List.all_cons,Bool.and_eq_true] at hd
   have hb:=b7m c hd.1
   have hrun:j4 true (t++r)=t.length:=by rw[Z3 r hd.2,hr];rfl
   have hint:E4 (c::t)=true:=by
    rw[a6B]
    . exact hs
    . intro q e
      cases e
      exact absurd hd.1 (by decide)
   rw[List.cons_append]
   refine Lx.step (k:=2) (s:=c::t) (n:=t.length+1) ?_ ?_ h (by decide)
   . rw[i6,if_neg (by rw[hb.1];decide),if_neg hb.2.1,l9,if_neg (by rw[hb.2.2];decide),if_pos (by rw[hd.1];rfl),hrun]
     have:(c::(t++r)).take (t.length+1)=c::t:=by simp
     rw[this,K3,if_pos hint]
   . simp
theorem c2k (c:UInt8):sgB c=true->blB c=false/\c≠35/\B9 c=false/\d9 c=false/\c≠45/\c≠34:=a5z (p:=λc=>sgB c=true->blB c=false/\c≠35/\B9 c=false/\d9 c=false/\c≠45/\c≠34) (by decide+kernel) c
theorem Lx.sign {c:UInt8}{r:List UInt8}{l:List (Nat×List UInt8)}(hc:sgB c=true)(hd:O3 c r=false)(h:Lx r l):Lx (c::r) ((5,[c])::l):=by
 have hb:=c2k c hc
 refine Lx.step (k:=5) (s:=[c]) (n:=1) ?_ rfl h (by decide)
 have e45:(c==45)=false:=by simpa using hb.2.2.2.2.1
 rw[i6,if_neg (by rw[hb.1];decide),if_neg hb.2.1,l9,if_neg (by rw[hb.2.2.1];decide),if_neg (by rw[hb.2.2.2.1,e45];simp),if_neg hb.2.2.2.2.2,if_neg (by rw[hd];decide),if_pos hc]
theorem Lx.dbl {c d:UInt8}{r:List UInt8}{l:List (Nat×List UInt8)}(hc:O3 c (d::r)=true)(h:Lx r l):Lx (c::d::r) ((5,[c,d])::l):=by
 have hcd:(c=60\/c=62\/c=46):=by
  simp only[O3,Bool.or_eq_true,Bool.and_eq_true,beq_iff_eq] at hc
  rcases hc with⟨h|h,_⟩|⟨h,_⟩
  . exact .inl h
  . exact .inr (.inl h)
  . exact .inr (.inr h)
 have hb:blB c=false/\c≠35/\B9 c=false/\d9 c=false/\(c==45)=false/\c≠34:=by
  rcases hcd with rfl|rfl|rfl<;>decide
 refine Lx.step (k:=5) (s:=[c,d]) (n:=2) ?_ rfl h (by decide)
 rw[i6,if_neg (by rw[hb.1];decide),if_neg hb.2.1,l9,if_neg (by rw[hb.2.2.1];decide),if_neg (by rw[hb.2.2.2.1,hb.2.2.2.2.1];simp),if_neg hb.2.2.2.2.2,if_pos hc]
 rfl
theorem Lx.time {s r:List UInt8}{l:List (Nat×List UInt8)}{v:Int}(hs:D3 s=some v)(hr:Brk r)(h:Lx r l):Lx (s++r) ((3,s)::l):=by
 obtain⟨b,t,rfl,h1,h2⟩:=b8x hs
 have hrd:=c1H hs hr
 rw[List.cons_append] at hrd⊢
 refine Lx.step (k:=3) (s:=b::t) (n:=(b::t).length) ?_ ?_ h (by decide)
 . rw[i6,if_neg (by rw[h1];decide),if_neg h2,hrd]
 . simp
end Go.Proofs.YteillnfhkeebjaaGreatDoor.Dx
