/- The. -/
import Derived.Test.YteillnfhkeebjaaGreatDoorWb
import Derived.Laws.AppendOwn
set_option linter.all false
namespace Go.Proofs.YteillnfhkeebjaaGreatDoor.Dx
open Go Go.RowKit
structure BelowX (lent:List Nat) (B:Nat) (w w':World):Prop where
 os:w'.os=w.os
 tape:w'.tape=w.tape
 output:w'.output=w.output
 size:w.heap.size<=w'.heap.size
 block:∀k,k<B->k∉lent->w'.heap[k]?=w.heap[k]?
theorem BelowX.refl (lent:List Nat)(B:Nat)(w:World):BelowX lent B w w:=⟨rfl,rfl,rfl,p0 _,λ_ _ _=>rfl⟩
theorem BelowX.trans {lent:List Nat}{B:Nat}{a b c:World}(h:BelowX lent B a b)(k:BelowX lent B b c):BelowX lent B a c:=
 ⟨k.os.trans h.os,k.tape.trans h.tape,k.output.trans h.output,H8 h.size k.size,λi hi hn=>(k.block i hi hn).trans (h.block i hi hn)⟩
theorem BelowX.of {lent:List Nat}{B:Nat}{w w':World}(h:Below B w w'):BelowX lent B w w':=⟨h.os,h.tape,h.output,h.size,λk hk _=>h.block k hk⟩
theorem BelowX.to {B:Nat}{w w':World}(h:BelowX [] B w w'):Below B w w':=⟨h.os,h.tape,h.output,h.size,λk hk=>h.block k hk (by simp)⟩
abbrev Gm:=Nat->Value×Option Nat
def CapR (γ:Gm)(V:Know)(c:Cap)(x:Value):Prop:=
 match c with
 | .loc n off=>∃blk,(γ n).1= .pointer (some ⟨blk,0,none⟩)/\x= .pointer (some ⟨blk,off,none⟩)
 | .dat d=>Rep V x d
structure All2 {α β:Type} (R:α->β->Prop) (l:List α) (m:List β):Prop where
 len:l.length=m.length
 get:∀(i:Nat) x y,l[i]?=some x->m[i]?=some y->R x y
section
variable {α β:Type} {R:α->β->Prop}
theorem All2.nil:All2 R [] []:=⟨rfl,λi x y h=>by simp at h⟩
theorem All2.cons {x:α}{y:β}{l:List α}{m:List β}(h1:R x y)(h2:All2 R l m):All2 R (x::l) (y::m):=by
 refine⟨by simp[h2.len],λi a b ha hb=>?_⟩;cases i with
 |zero=>simp at ha hb;subst ha hb;exact h1
 |succ i=>exact h2.get i a b (by simpa using ha) (by simpa using hb)
theorem All2.head {x:α}{y:β}{l:List α}{m:List β}(h:All2 R (x::l) (y::m)):R x y:=h.get 0 x y rfl rfl
theorem All2.tail {x:α}{y:β}{l:List α}{m:List β}(h:All2 R (x::l) (y::m)):All2 R l m:=
 ⟨by have:=h.len;simpa using this,λi a b ha hb=>h.get (i+1) a b (by simpa using ha) (by simpa using hb)⟩
theorem All2.imp {R':α->β->Prop}{l:List α}{m:List β}(h:All2 R l m)(hi:∀x∈l,∀y,R x y->R' x y):All2 R' l m:=
 ⟨h.len,λi x y hx hy=>hi x (M6 hx) y (h.get i x y hx hy)⟩
theorem All2.at {l:List α}{m:List β}(h:All2 R l m){i:Nat}{x:α}(hx:l[i]?=some x):∃y,m[i]?=some y/\R x y:=by
 have hi:i<l.length:=by
  rcases C5 i l.length with h|h
  . exact h
  . rw[z6 h] at hx;cases hx
 have hu:i<m.length:=by rw[<-h.len];exact hi
 exact⟨m[i],t6 hu,h.get i _ _ hx (t6 hu)⟩
theorem All2.take {l:List α}{m:List β}(h:All2 R l m)(n:Nat):All2 R (l.take n) (m.take n):=
 ⟨by simp[h.len],λi u d h1 h2=>by
  rw[X1] at h1 h2;split at h1
  . rename_i hi;rw[d4 hi] at h2;exact h.get i u d h1 h2
  . cases h1⟩
theorem All2.drop {l:List α}{m:List β}(h:All2 R l m)(n:Nat):All2 R (l.drop n) (m.drop n):=
 ⟨by simp[h.len],λi u d h1 h2=>h.get (n+i) u d (by simpa using h1) (by simpa using h2)⟩
theorem All2.append {l l':List α}{m m':List β}(h:All2 R l m)(k:All2 R l' m'):All2 R (l++l') (m++m'):=
 ⟨by simp[h.len,k.len],λi u d h1 h2=>by
  by_cases hi:i<l.length
  . rw[Q4 hi] at h1;rw[Q4 (by rw[<-h.len];exact hi)] at h2;exact h.get i u d h1 h2
  . rw[X0 (by omega)] at h1;rw[X0 (by rw[<-h.len];omega),<-h.len] at h2;exact k.get _ u d h1 h2⟩
theorem All2.nil_l {m:List β}(h:All2 R [] m):m=[]:=by cases m with|nil=>rfl|cons y m=>have:=h.len;simp at this
theorem All2.cons_l {x:α}{l:List α}{m:List β}(h:All2 R (x::l) m):∃y m',m=y::m'/\R x y/\All2 R l m':=by
 cases m with
 |nil=>have:=h.len;simp at this
 |cons y m=>exact⟨y,m,rfl,h.head,h.tail⟩
end
def RVb (γ:Gm)(V:Know)(b:Base)(x:Value):Prop:=
 match b with
 | .d d=>Rep V x d
 | .full xs=>Rep V x (.sl xs)/\∃a n,x= .slice a n n
 | .loc n off=>∃blk,(γ n).1= .pointer (some ⟨blk,0,none⟩)/\x= .pointer (some ⟨blk,off,none⟩)
 | .own n=>x=(γ n).1
 | .oel n k i r=>∃blk m c,(γ n).1= .slice (some ⟨blk,0,none⟩) m c/\x= .pointer (some ⟨blk,i*k+r,none⟩)
 | .win n k i j=>∃blk m c,(γ n).1= .slice (some ⟨blk,0,none⟩) m c/\x= .slice (some ⟨blk,i*k,none⟩) (j-i) (c-i)
 | .ag p n q=>∃us ws,x= .agg ⟨us++(γ n).1::ws⟩/\Reps V us p/\Reps V ws q/\∀u∈us++(γ n).1::ws,u.oneCell'=true
 | .agl cs=>∃us,x= .agg ⟨us⟩/\All2 (CapR γ V) cs us/\∀u∈us,u.oneCell'=true
 | .fn F fs cs=>∃us ws,x= .func (.func F) ⟨us⟩ ⟨ws⟩/\All2 (CapR γ V) fs us/\All2 (CapR γ V) cs ws
 | .junk=>True
abbrev Vals (γ:Gm)(V:Know)(bs:List Base)(xs:List Value):Prop:=All2 (RVb γ V) bs xs
structure Cx where
 B0:Nat
 N:Nat
 W0:World
 V0:Know
 lent:List Nat
 g0:Gm
 round:Option Nat:=none
 m0:Nat:=B0
 dfr:Option (List Deferred):=some []
def Okb (C:Cx)(blk:Nat):Prop:=blk∈C.lent\/C.B0<=blk
def c1z (γ:Gm)(V:Know)(W:World)(v:Value×Option Nat)(cells:List Base)(ty:TypeId):Prop:=
 ∃(blk:Nat) (cs:Array Value),v=(.pointer (some ⟨blk,0,none⟩),some blk)/\W.heap[blk]?=some (.cells cs ty (0,0))/\All2 (RVb γ V) cells cs.toList/\(∀u∈cs.toList,u.oneCell'=true)/\∀o,V.cell blk o=none
def a5J (V:Know)(W:World)(v:Value×Option Nat)(s:OwnS):Prop:=
 (∃g n c vals,v=(.slice (some ⟨g,0,none⟩) n c,some g)/\W.ownsRow 0 s.e s.k v.1 s.xs.length vals/\(∀ds∈s.xs,ds.length=s.k)/\Reps V vals s.xs.flatten/\(∀u∈vals,u.oneCell'=true)/\
   (match s.pub with
   |true=>(∀o u,V.cell g o=some u->o<vals.length)/\∀(j:Nat) u,vals[j]?=some u->V.cell g j=some u
   |false=>∀o,V.cell g o=none))\/
 ((s.pub=true\/s.xs=[])/\v.2=none/\(∀ds∈s.xs,ds.length=s.k)/\Rep V v.1 (.sl s.xs)/\∃a n,v.1= .slice a n n)
def c2x (V:Know)(W:World)(v:Value×Option Nat)(l:List (D×D)):Prop:=
 ∃ r es clock,v=(.map (some r),some r)/\W.heap[r]?=some (.map es clock)/\V.obj r=none/\b1A es clock/\es.toList.length=l.length/\
   (∀(i:Nat) e p,es.toList[i]?=some e->l[i]?=some p->I3 p.1=some e.key)/\(∀(i:Nat) e p,es.toList[i]?=some e->l[i]?=some p->Rep V e.val p.2)
def c2o (γ:Gm)(V:Know)(W:World)(v:Value×Option Nat)(r:Loop)(g:Gm)(V0:Know)(pn:List Nat):Prop:=
 (∃k,v=(.func (.yield k) #[] #[],some k)/\W.heap[k]?=some (.loop r)/\V.obj k=none/\∀o,V.cell k o=none)/\V0.Le V/\∀n∈pn,γ n=g n/\∃ad,(g n).1= .pointer ad
def BlkOk (γ:Gm)(V:Know)(W:World)(v:Value×Option Nat)(b:Blk):Prop:=
 match b with
 | .box cells ty=>c1z γ V W v cells ty
 | .sl s=>a5J V W v s
 | .mp l=>c2x V W v l
 | .lp r g V0 pn=>c2o γ V W v r g V0 pn
 | .pn g ns=>v=(.bool false,none)/\∀n∈ns,γ n=g n
def A2 (γ:Gm)(V:Know)(W:World)(O:List (Nat×Blk)):Prop:=∀n b,d7 n O=some b->BlkOk γ V W (γ n) b
def a1O (ks:List Nat):List Deferred:=ks.map λk=>{target:= .collected k,args:= #[]}
def MarksOk (m0:Nat)(dfr:Option (List Deferred))(a:Act)(W:World):Prop:=match dfr with
 |none=>a.defers=[]
 |some l=>∃ks ks2:List Nat,a.defers=a1O ks++(l++a1O ks2)/\(ks++ks2).Nodup/\∀k∈ks++ks2,m0<=k/\W.heap[k]?=some (.deferred (some []))
theorem MarksOk.keep {m0:Nat}{dfr:Option (List Deferred)}{a a':Act}{W W':World}(h:MarksOk m0 dfr a W)(ha:a'.defers=a.defers)(hk:∀k:Nat,W.heap[k]?=some (Obj.deferred (some []))->W'.heap[k]?=some (Obj.deferred (some []))):MarksOk m0 dfr a' W':=
 by
 cases dfr with
 |none=>exact ha.trans h
 |some l=>
 obtain⟨ks,ks2,h1,h3,h2⟩:=h;exact⟨ks,ks2,ha.trans h1,h3,λk hm=>⟨(h2 k hm).1,hk k (h2 k hm).2⟩⟩
theorem MarksOk.nil {m0:Nat}{a:Act}{W:World}(h:a.defers=[]):MarksOk m0 (some []) a W:=⟨[],[],h, .nil,λ_ h=>by cases h⟩
structure Rel (C:Cx) (γ:Gm) (st:SSt) (V:Know) (a:Act) (W:World):Prop where
 size:a.tmps.size=C.N
 defers:MarksOk C.m0 C.dfr a W
 slots:∀t b,d7 t st.L=some b->RVb γ V b (a.tmps.getD t undef)
 own:A2 γ V W st.O
 okb:∀n b,d7 n st.O=some b->∀k,(γ n).2=some k->Okb C k
 inj:∀n n' b b',d7 n st.O=some b->d7 n' st.O=some b'->n≠n'->∀k,(γ n).2=some k->(γ n').2≠some k
 pin:∀n∈st.pins,γ n=C.g0 n
 sees:Sees V W
 fresh:Fresh C.V0 V C.lent C.B0
 below:BelowX C.lent C.B0 C.W0 W
 bsize:C.B0<=W.heap.size
structure Grow (V:Know) (W:World) (V':Know) (W':World):Prop where
 below:Below W.heap.size W W'
 fresh:Fresh V V' [] W.heap.size
 sees:Sees V' W'
theorem Fresh.refl (V:Know)(L:List Nat)(B:Nat):Fresh V V L B:=⟨.refl V,λ_ _ _ h=> .inl h,λ_ _ h=> .inl h⟩
theorem Fresh.trans {V V' V'':Know}{L L':List Nat}{B B':Nat}(h:Fresh V V' L B)(h':Fresh V' V'' L' B')(hB:B<=B')(hL:∀k∈L',k∈L\/B<=k):Fresh V V'' L B:=
 ⟨h.le.trans h'.le,λb o v hv=>by
  rcases h'.cell b o v hv with h1|h1|h1
  . exact h.cell b o v h1
  . exact .inr (hL b h1)
  . exact .inr (.inr (H8 hB h1)),λr x hx=>by
  rcases h'.obj r x hx with h1|h1|h1
  . exact h.obj r x h1
  . exact .inr (hL r h1)
  . exact .inr (.inr (H8 hB h1))⟩
theorem Grow.refl {V:Know}{W:World}(h:Sees V W):Grow V W V W:=⟨Below.refl _ _,Fresh.refl V _ _,h⟩
noncomputable def a9F (v:Value)(k:Base->Prop):Prop:=
 match v with
 | .bool b=>k (.d (.bl b))
 | .slice none n c=>match n,c with|0,0=>k (.full [])|_,_=>False
 | v=>match a7Z v with
   |some d=>k (.d d)
   |none=>k .junk
noncomputable def a1i (st:SSt)(x:Operand)(k:Base->Prop):Prop:=
 match x with
 | .const v=>a9F v k
 | .global _=>False
 | .func f=>k (.d (.fn f [] []))
 | .tmp t=>match d7 t st.L with
   |some b=>k b
   |none=>False
noncomputable def Q9 (st:SSt):List Operand->(List Base->Prop)->Prop
 |[],k=>k []
 |x::xs,k=>a1i st x λb=>Q9 st xs λbs=>k (b::bs)
section
variable {C:Cx} {γ:Gm} {st:SSt} {V:Know} {a:Act} {W:World}
theorem b6M {v:Value}{k:Base->Prop}(h:a9F v k):∃b,k b/\∀γ V,RVb γ V b v:=by
 unfold a9F at h;split at h
 . exact⟨_,h,λγ V=> .bl _⟩
 . split at h
   . exact⟨_,h,λγ V=>⟨.nil,_,_,rfl⟩⟩
   . exact h.elim
 . split at h
   . rename_i d hd;exact⟨_,h,λγ V=>b0l hd V⟩
   . exact⟨_,h,λγ V=>trivial⟩
theorem b7E (V:Know)(f:Nat):Rep V (.func (.func f) #[] #[]) (.fn f [] []):= .fn f [] [] [] [] rfl rfl (λi u d h=>by simp at h) (λi u d h=>by simp at h)
theorem a9S (hs:∀t b,d7 t st.L=some b->RVb γ V b (a.tmps.getD t undef)){x:Operand}{k:Base->Prop}(h:a1i st x k):∃b,k b/\RVb γ V b (a.eval x):=by
 cases x with
 |const v=>obtain⟨b,hb,hv⟩:=b6M h;exact⟨b,hb,hv γ V⟩
 |global g=>exact h.elim
 |func f=>exact⟨_,h,b7E V f⟩
 | tmp t=>
   simp only[a1i] at h;split at h
   . rename_i b hb;exact⟨b,h,hs t b hb⟩
   . exact h.elim
theorem b7P (hs:∀t b,d7 t st.L=some b->RVb γ V b (a.tmps.getD t undef))(xs:List Operand):∀{k:List Base->Prop},Q9 st xs k->∃bs,k bs/\Vals γ V bs (xs.map a.eval):=by
 induction xs with
 |nil=>intro k h;exact⟨[],h, .nil⟩
 | cons x xs ih=>
   intro k h;obtain⟨b,hb,hv⟩:=a9S hs h;obtain⟨bs,hbs,hvs⟩:=ih hb;exact⟨b::bs,hbs, .cons hv hvs⟩
end
def c3W (c:Cap):Option D:=match c with| .dat d=>some d| .loc _ _=>none
def a2s:List Cap->Option (List D)
 |[]=>some []
 | c ::cs=>match c3W c with
   | some d=>match a2s cs with
     |some ds=>some (d::ds)
     |none=>none
   |none=>none
noncomputable def Y6 (O:List (Nat×Blk))(b:Base):Option (List (List D)):=
 match b with
 | .d (.sl xs)=>some xs
 | .full xs=>some xs
 | .own n=>match d7 n O with
   |some (.sl s)=>match s.pub with|true=>some s.xs|false=>none
   |_=>none
 |_=>none
noncomputable def a0n (O:List (Nat×Blk))(b:Base):Option D:=
 match b with
 | .d d=>match d with| .bl b=>some (.v (.bool b))|d=>some d
 | .full xs=>some (.sl xs)
 | .own n=>match d7 n O with
   |some (.sl s)=>match s.pub with|true=>some (.sl s.xs)|false=>none
   |_=>none
 | .fn F fs cs=>match a2s fs,a2s cs with
   |some fs,some cs=>some (.fn F fs cs)
   |_,_=>none
 |_=>none
noncomputable def D8 (O:List (Nat×Blk)):List Base->Option (List D)
 |[]=>some []
 | b ::bs=>match a0n O b with
   | some d=>match D8 O bs with
     |some ds=>some (d::ds)
     |none=>none
   |none=>none
section
variable {γ:Gm} {V:Know} {W:World} {O:List (Nat×Blk)}
theorem a9w:∀{cs:List Cap} {ds:List D} {us:List Value},a2s cs=some ds->All2 (CapR γ V) cs us->Reps V us ds:=by
 intro cs;induction cs with
 |nil=>intro ds us h hu;cases h;rw[hu.nil_l];exact .nil V
 | cons c cs ih=>
   intro ds us h hu;simp only[a2s] at h;split at h
   case h_2=>cases h
   rename_i d hd;split at h
   case h_2=>cases h
   rename_i es hes;cases h;obtain⟨u,us',rfl,h1,h2⟩:=hu.cons_l;cases c with
   |loc=>cases hd
   |dat d'=>cases hd;exact .cons h1 (ih hes h2)
theorem a4I {k:Nat}:∀{xs:List (List D)},(∀ds∈xs,ds.length=k)->∀{i:Nat} {ds:List D} {j:Nat} {d:D},xs[i]?=some ds->ds[j]?=some d->xs.flatten[i*k+j]?=some d:=by
 intro xs;induction xs with
 |nil=>intro _ i ds j d h;simp at h
 | cons x xs ih=>
   intro hk i ds j d hi hj;have hx:=hk x (by simp);rw[K0];cases i with
   | zero=>
     simp at hi;subst hi;have hlt:j<x.length:=by
      rcases C5 j x.length with h|h
      . exact h
      . rw[z6 h] at hj;cases hj
     rw[Nat.zero_mul,F3,Q4 hlt];exact hj
   | succ i=>
     have:=ih (λz hz=>hk z (by simp[hz])) (i:=i) (by simpa using hi) hj;rw[X0 (by rw[hx,Z2];omega),hx];have e:(i+1)*k+j-k=i*k+j:=by rw[Z2];omega
     rw[e];exact this
theorem a3H {k:Nat}:∀{xs:List (List D)},(∀ds∈xs,ds.length=k)->xs.flatten.length=xs.length*k:=by
 intro xs;induction xs with
 |nil=>intro _;simp
 | cons x xs ih=>
   intro hk;rw[K0,j6,ih (λz hz=>hk z (by simp[hz])),hk x (by simp),i7,a3o];omega
theorem Q0 {w:World}{base:Nat}{e:TypeId}{size g n c:Nat}{m:Nat}{xs:List Value}(h:w.ownsRow base e size (.slice (some ⟨g,0,none⟩) n c) m xs):
 ∃cur,n=m/\w.heap[g]?=some (.cells cur e (0,0))/\m<=c/\c<=maxLen/\cur.size=c*size/\cur.toList.take (m*size)=xs/\xs.length=m*size:=by
 obtain⟨h0,h⟩:=h;rcases h with⟨h,_⟩|⟨g',cap,cur,hv,_,hg,hnc,hcm,hcs,ht⟩
 . cases h
 . obtain⟨rfl,rfl,rfl⟩:g=g'/\n=m/\c=cap:=by simpa using hv
   exact⟨cur,rfl,hg,hnc,hcm,hcs,ht,h0⟩
theorem a8x {g n c k:Nat}{xs:List (List D)}{vals:List Value}(hn:n=xs.length)(hc:n<=c)(hm:c<=maxLen)(hk:∀ds∈xs,ds.length=k)(hv:Reps V vals xs.flatten)(h1:∀u∈vals,u.oneCell'=true)
 (hcell:∀(j:Nat) u,vals[j]?=some u->V.cell g j=some u):Rep V (.slice (some ⟨g,0,none⟩) n c) (.sl xs):=by
 subst hn;refine .sl g 0 c k xs hc hm hk (λi ds j d hi hj=>?_) (λi ds j d u hi hj hu=>?_)
 . obtain⟨u,hu,_⟩:=hv.at (a4I hk hi hj);rw[F3];exact⟨u,hcell _ u hu,h1 u (M6 hu)⟩
 . obtain⟨u',hu',hr⟩:=hv.at (a4I hk hi hj);rw[F3,hcell _ u' hu'] at hu;cases hu;exact hr
theorem b4d {v:Value×Option Nat}{s:OwnS}(h:a5J V W v s)(hp:s.pub=true):Rep V v.1 (.sl s.xs):=by
 rcases h with⟨g,n,c,vals,rfl,hown,hk,hv,h1,hm⟩|⟨_,_,_,h,_⟩
 . rw[hp] at hm;obtain⟨cur,hn,_,hnc,hcm,_⟩:=Q0 hown;exact a8x hn (by omega) hcm hk hv h1 hm.2
 . exact h
theorem a3S (hO:A2 γ V W O){b:Base}{xs:List (List D)}{x:Value}(h:Y6 O b=some xs)(hx:RVb γ V b x):Rep V x (.sl xs):=by
 unfold Y6 at h;split at h
 . cases h;exact hx
 . cases h;exact hx.1
 . rename_i n;split at h
   case h_2=>cases h
   rename_i s hs;split at h
   case h_2=>cases h
   rename_i hp;cases h;have:=hO n _ hs;rw[show x=(γ n).1 from hx];exact b4d this hp
 . cases h
theorem a5p (hO:A2 γ V W O){b:Base}{d:D}{x:Value}(h:a0n O b=some d)(hx:RVb γ V b x):Rep V x d:=by
 unfold a0n at h;split at h
 . split at h
   . cases h;rw[Rep.bl_b hx];exact .b _
   . cases h;exact hx
 . cases h;exact hx.1
 . rename_i n;split at h
   case h_2=>cases h
   rename_i s hs;split at h
   case h_2=>cases h
   rename_i hp;cases h;have:=hO n _ hs;rw[show x=(γ n).1 from hx];exact b4d this hp
 . split at h
   case h_2=>cases h
   rename_i fs' cs' hf hc;cases h;obtain⟨us,ws,rfl,h1,h2⟩:=hx;have r1:=a9w hf h1;have r2:=a9w hc h2;exact .fn _ us ws fs' cs' r1.len r2.len r1.get r2.get
 . cases h
theorem a3X (hO:A2 γ V W O):∀{bs:List Base} {ds:List D} {xs:List Value},D8 O bs=some ds->Vals γ V bs xs->Reps V xs ds:=by
 intro bs;induction bs with
 |nil=>intro ds xs h hx;cases h;rw[hx.nil_l];exact .nil V
 | cons b bs ih=>
   intro ds xs h hx;simp only[D8] at h;split at h
   case h_2=>cases h
   rename_i d hd;split at h
   case h_2=>cases h
   rename_i es hes;cases h;obtain⟨u,us,rfl,h1,h2⟩:=hx.cons_l;exact .cons (a5p hO hd h1) (ih hes h2)
def a1q:List (Nat×Blk)->List Nat
 |[]=>[]
 |(n, .pn _ _)::r=>n::a1q r
 |(_, .box _ _)::r=>a1q r
 |(_, .sl _)::r=>a1q r
 |(_, .mp _)::r=>a1q r
 |(_, .lp _ _ _ _)::r=>a1q r
theorem b9x {p:Nat}{g:Nat->Value×Option Nat}{ns:List Nat}:∀{O:List (Nat×Blk)},d7 p O=some (.pn g ns)->p∈a1q O
 |[],h=>by cases h
 | (t,x)::r,h=>by
   have h':cond (Nat.beq t p) (some x) (d7 p r)=some (.pn g ns):=h;cases e:Nat.beq t p with
   | true=>
     rw[e] at h';cases h';rw[t7 e];exact A9 ..
   | false=>
     rw[e] at h';have:=b9x h';cases x<;>first|exact this|exact r6 _ this
def c5p (O:List (Nat×Blk))(x:Option Blk):List Nat:=
 match x with
 |none=>[]
 | some b=>match b with
   | .box cells _=>cells.flatMap A7
   | .sl _=>[]
   | .mp _=>[]
   | .lp _ _ _ _=>[]
   | .pn _ _=>[]
noncomputable def F0 (O:List (Nat×Blk))(bs:List Base):List Nat:=
 (bs.flatMap A7)++(bs.flatMap A7).flatMap λn=>c5p O (d7 n O)
noncomputable def b3c (T:List (Nat×TI))(ty:TypeId):Bool:=match d7 ty T with|some ti=>ti.agg|none=>true
def a8s (op:Op):Bool:=match op with| .nilCheck _=>true| .fieldAddr _ _ _=>true| .move _=>true| .assign _=>true|_=>false
noncomputable def a1H (T:List (Nat×TI))(O:List (Nat×Blk))(op:Op)(bs:List Base):List Nat:=
 match a8s op with
 |true=>[]
 | false=>match op with
   | .load ty _=>match b3c T ty with
     |true=>F0 O bs++a1q O
     |false=>bs.flatMap A7++a1q O
   |_=>F0 O bs
theorem a9M {T:List (Nat×TI)}{op:Op}{bs:List Base}{n:Nat}(h:n∈bs.flatMap A7)(hq:a8s op=false:=by rfl):n∈a1H T O op bs:=by
 have hd:n∈F0 O bs:=a9d _ h;unfold a1H;rw[hq];dsimp only;split
 . split
   . exact a9d _ hd
   . exact a9d _ h
 . exact hd
theorem b6X {T:List (Nat×TI)}{ty:TypeId}{ti:TI}{x:Operand}{bs:List Base}{n:Nat}(ht:d7 ty T=some ti)(hag:ti.agg=true)(h:n∈F0 O bs):n∈a1H T O (.load ty x) bs:=by
 have:b3c T ty=true:=by simp only[b3c,ht,hag]
 simp only[a1H,a8s,this];exact a9d _ h
theorem c5r {T:List (Nat×TI)}{ty:TypeId}{x:Operand}{bs:List Base}{n:Nat}(h:n∈a1q O):n∈a1H T O (.load ty x) bs:=by
 simp only[a1H,a8s];split<;>exact List.mem_append_right _ h
def N8 (O O':List (Nat×Blk))(N:List Nat):Prop:=∀n∈N,d7 n O'=d7 n O
theorem b4C {O':List (Nat×Blk)}{b:Base}(h:N8 O O' (A7 b)):a0n O' b=a0n O b:=by
 cases b<;>try rfl
 rename_i n;simp only[a0n,h n (by simp[A7])]
theorem b0O {O':List (Nat×Blk)}{b:Base}(h:N8 O O' (A7 b)):Y6 O' b=Y6 O b:=by
 cases b with
 |own n=>simp only[Y6,h n (by simp[A7])]
 |d x=>cases x<;>rfl
 |_=>rfl
theorem b4D {O':List (Nat×Blk)}:∀{bs:List Base},N8 O O' (bs.flatMap A7)->D8 O' bs=D8 O bs:=by
 intro bs;induction bs with
 |nil=>intro _;rfl
 | cons b bs ih=>
   intro h;simp only[D8];rw[b4C (λn hn=>h n (by simp[hn])),ih (λn hn=>h n (by simp only[a2n,A8];exact .inr hn))]
end
def ldD (ti:TI)(off:Nat)(cs:List D)(kb:Base->Prop):Prop:=
 match ti.agg with
 | true=>match Nat.ble (off+ti.size) cs.length with
   |true=>kb (.d (.agg ((cs.drop off).take ti.size)))
   |false=>False
 | false=>match cs.drop off with
   |d::_=>kb (.d d)
   |[]=>False
def a7E:List Base->Option (List D)
 |[]=>some []
 | .d d::r=>match a7E r with|some q=>some (d::q)|none=>none
 | .full xs::r=>match a7E r with|some q=>some (.sl xs::q)|none=>none
 |_::_=>none
def a3v:List Base->Option (List D×Nat×List D)
 |[]=>none
 | .d d::r=>match a3v r with|some (p,n,q)=>some (d::p,n,q)|none=>none
 | .full xs::r=>match a3v r with|some (p,n,q)=>some (.sl xs::p,n,q)|none=>none
 | .own n::r=>match a7E r with|some q=>some ([],n,q)|none=>none
 |_::_=>none
noncomputable def b8s (O:List (Nat×Blk))(ti:TI)(off:Nat)(cells:List Base)(kb:Base->Prop):Prop:=
 match ti.agg with
 | true=>match D8 O ((cells.drop off).take ti.size) with
   | some ds=>match Nat.beq ds.length ti.size with
     |true=>kb (.d (.agg ds))
     |false=>False
   | none=>match a3v ((cells.drop off).take ti.size) with
     | some (p,n,q)=>match Nat.beq (p.length+(1+q.length)) ti.size with
       |true=>kb (.ag p n q)
       |false=>False
     |none=>False
 | false=>match cells.drop off with
   |b::_=>kb b
   |[]=>False
noncomputable def b4B (O:List (Nat×Blk))(kb:Base->Prop)(b:Base):Prop:=
 match a1q O with
 |[]=>kb b
 | _ ::_=>match b with
   | .d d=>match d with
     | .raw v=>∃p m g ns,(d7 p O=some (.pn g ns)/\w6 m ns=true/\(g m).1=v)/\kb (.own m)
     |d=>kb (.d d)
   |b=>kb b
noncomputable def b1j (T:List (Nat×TI))(cf:Cfg)(O:List (Nat×Blk))(ty:TypeId)(b:Base)(kb:Base->Prop):Prop:=
 match d7 ty T with
 |none=>False
 | some ti=>match b with
   | .d (.ptr cs off)=>ldD ti off cs kb
   | .loc n off=>match d7 n O with
     | some (.box cells _)=>match w6 n cf.sym with
       |false=>b8s O ti off cells kb
       | true=>match ti.agg with
         |false=>∃b,cells[off]?=some b/\kb b
         |true=>∃ds,(D8 O ((cells.drop off).take ti.size)=some ds/\ds.length=ti.size)/\kb (.d (.agg ds))
     |_=>False
   | .oel n k i r=>match d7 n O with
     | some (.sl s)=>match s.pub with
       |false=>∃ds,(s.xs[i]?=some ds/\s.k=k)/\ldD ti r ds (b4B O kb)
       |true=>False
     |_=>False
   |_=>False
noncomputable def b4O (T:List (Nat×TI))(ty:TypeId)(f:Nat)(b:Base)(kb:Base->Prop):Prop:=
 match d7 ty T with
 |none=>False
 | some ti =>match ti.desc with
   | .struct fs=>match fs.toList.drop f with
     | fd ::_=>match d7 fd.type T with
       | some tf=>match Nat.beq tf.size 0 with
         |true=>False
         | false=>match b with
           | .loc n o=>kb (.loc n (o+fd.offset))
           | .d (.ptr cs o)=>kb (.d (.ptr cs (o+fd.offset)))
           | .oel n k i r=>kb (.oel n k i (r+fd.offset))
           |_=>False
       |none=>False
     |[]=>False
   |_=>False
noncomputable def b4Q (T:List (Nat×TI))(O:List (Nat×Blk))(ty:TypeId)(b ib:Base)(kb:Base->Prop):Prop:=
 match d7 ty T,ib with
 | some ti, .d (.v (.int _ i))=>match ti.desc with
   | .slice e=>match d7 e T with
     | some te=>match Y6 O b with
       |some xs=>∃ds,(0<=i/\xs[i.toNat]?=some ds/\ds.length=te.size)/\kb (.d (.ptr ds 0))
       | none=>match b with
         | .own n=>match d7 n O with
           | some (.sl s)=>match s.pub with
             |false=>(0<=i/\i<(s.xs.length:Int)/\s.k=te.size)/\kb (.oel n te.size i.toNat 0)
             |true=>False
           |_=>False
         |_=>False
     |none=>False
   | .array n e=>match d7 e T with
     | some te=>match b with
       | .loc m o=>(0<=i/\i<(n:Int))/\kb (.loc m (o+i.toNat *te.size))
       | .d (.ptr cs o)=>(0<=i/\i<(n:Int))/\kb (.d (.ptr cs (o+i.toNat *te.size)))
       |_=>False
     |none=>False
   |_=>False
 |_,_=>False
noncomputable def b4R (T:List (Nat×TI))(O:List (Nat×Blk))(ty:TypeId)(b:Base)(kb:Base->Prop):Prop:=
 match d7 ty T with
 |none=>False
 | some ti=>match ti.desc with
   | .slice _=>match Y6 O b with
     |some xs=>xs.length<=maxLen->kb (.d (.v (.int .i64 (xs.length:Int))))
     | none=>match b with
       | .own n=>match d7 n O with
         |some (.sl s)=>s.xs.length<=maxLen->kb (.d (.v (.int .i64 (s.xs.length:Int))))
         |_=>False
       |_=>False
   | .string=>match b with
     | .d (.str l)=>l.length<=maxLen->kb (.d (.v (.int .i64 (l.length:Int))))
     |_=>False
   | .map _ _=>match b with
     | .d (.mp l)=>l.length<=maxLen/\kb (.d (.v (.int .i64 (l.length:Int))))
     | .own n=>match d7 n O with
       |some (.mp l)=>l.length<=maxLen/\kb (.d (.v (.int .i64 (l.length:Int))))
       |_=>False
     |_=>False
   |_=>False
def b2L (b:Base):Option Int:=match b with| .d (.v (.int _ i))=>some i|_=>none
def a1o (x:Option Base)(d:Int)(k:Int->Prop):Prop:=
 match x with
 |none=>k d
 | some b=>match b2L b with
   |some i=>k i
   |none=>False
noncomputable def a4a (T:List (Nat×TI))(O:List (Nat×Blk))(ty:TypeId)(b:Base)(lo hi mx:Option Base)(kb:Base->Prop):Prop:=
 match d7 ty T with
 |none=>False
 | some ti =>match ti.desc with
   | .string=>match b,mx with
     | .d (.str l),none=>a1o lo 0 λi=>a1o hi l.length λj=>(l.length<=maxLen->0<=i/\i<=j/\j<=(l.length:Int))/\kb (.d (.str ((l.take j.toNat).drop i.toNat)))
     |_,_=>False
   | .slice e=>match d7 e T with
     |none=>False
     | some te=>match Y6 O b with
       | none=>match b,mx with
         | .own n,none=>match d7 n O with
           | some (.sl s)=>match s.pub with
             |true=>False
             |false=>a1o lo 0 λi=>a1o hi s.xs.length λj=>(s.xs.length<=maxLen->0<=i/\i<=j/\j<=(s.xs.length:Int)/\i<(s.xs.length:Int)/\s.k=te.size)/\kb (.win n te.size i.toNat j.toNat)
           |_=>False
         |_,_=>False
       | some xs=>match mx with
         |none=>a1o lo 0 λi=>a1o hi xs.length λj=>(xs.length<=maxLen->0<=i/\i<=j/\j<=(xs.length:Int)/\∀ds∈xs,ds.length=te.size)/\kb (.d (.sl ((xs.take j.toNat).drop i.toNat)))
         | some _=>match hi with
           |none=>False
           |some _=>a1o lo 0 λi=>a1o hi xs.length λj=>a1o mx 0 λm=>(xs.length<=maxLen->0<=i/\i<=j/\j=m/\j<=(xs.length:Int)/\∀ds∈xs,ds.length=te.size)/\kb (.full ((xs.take j.toNat).drop i.toNat))
   |_=>False
noncomputable def b4W (T:List (Nat×TI))(O:List (Nat×Blk))(ty:TypeId)(lo hi mx:Option Operand)(bs:List Base)(kb:Base->Prop):Prop:=
 match lo,hi,mx,bs with
 |none,none,none,[b]=>a4a T O ty b none none none kb
 |some _,none,none,[b,l]=>a4a T O ty b (some l) none none kb
 |none,some _,none,[b,h]=>a4a T O ty b none (some h) none kb
 |some _,some _,none,[b,l,h]=>a4a T O ty b (some l) (some h) none kb
 |none,some _,some _,[b,h,m]=>a4a T O ty b none (some h) (some m) kb
 |some _,some _,some _,[b,l,h,m]=>a4a T O ty b (some l) (some h) (some m) kb
 |_,_,_,_=>False
def b4V (c x y:Base)(kb:Base->Prop):Prop:=
 match c with
 | .d (.bl b)=>match b with
   |true=>kb x
   |false=>kb y
 | .d (.v (.bool b))=>(b=true->kb x)/\(b=false->kb y)
 |_=>False
noncomputable def b3e (O:List (Nat×Blk))(b:Base):Option (List (D×D)):=
 match b with
 | .d (.mp l)=>some l
 | .own n=>match d7 n O with
   |some (.mp l)=>some l
   |_=>none
 |_=>none
noncomputable def b4S (T:List (Nat×TI))(O:List (Nat×Blk))(t:TypeId)(ok:Bool)(mb kx:Base)(kb:Base->Prop):Prop:=
 match d7 t T with
 |none=>False
 | some ti=>match ti.desc with
   | .map kt et=>match d7 kt T,d7 et T with
     | some tk,some te=>match a0n O kx,b3e O mb,a7Z te.zero with
       | some kd,some l,some z=>(tk.key kd/\∀p∈l,tk.key p.1)/\match ok with
         |false=>∃d,(G2 l kd).getD z=d/\kb (.d d)
         |true=>∃d f,((G2 l kd).getD z=d/\(G2 l kd).isSome=f)/\kb (.d (.tup [d, .v (.bool f)]))
       |_,_,_=>False
     |_,_=>False
   |_=>False
def a9V (b:Base):Option (IntKind×Int):=match b with| .d (.v (.int k i))=>some (k,i)|_=>none
def b1k (mx:Bool)(x y:Base)(kb:Base->Prop):Prop:=
 match a9V x,a9V y with
 | some (k,i),some (k',j)=>match b0H k k' with
   | true=>match mx with
     |true=>kb (.d (.v (.int k (max i j))))
     |false=>kb (.d (.v (.int k (min i j))))
   |false=>False
 |_,_=>False
noncomputable def a2Y (O:List (Nat×Blk)):List Base->Option (List Cap)
 |[]=>some []
 | b ::r=>match b with
   | .loc n o=>match a2Y O r with
     |some cs=>some (.loc n o::cs)
     |none=>none
   | b =>match a0n O b with
     | some d=>match a2Y O r with
       |some cs=>some (.dat d::cs)
       |none=>none
     |none=>none
def cellsOf (k:Nat):List D->Option (List (List D))
 |[]=>some []
 | d ::ds=>match a5X d with
   | some cs=>match Nat.beq cs.length k with
     | true=>match cellsOf k ds with
       |some r=>some (cs::r)
       |none=>none
     |false=>none
   |none=>none
noncomputable def a7Y (T:List (Nat×TI))(O:List (Nat×Blk))(t:TypeId)(len:Nat)(parts:List Nat)(bs:List Base)(k:TypeId->Nat->List (List D)->Prop):Prop:=
 match d7 t T with
 |none=>False
 | some ti =>match ti.desc with
   | .slice e=>match d7 e T with
     |none=>False
     | some te=>match Nat.ble (len*te.size) 16777216&&(Nat.blt 0 te.size&&(b0i parts 0&&(Nat.beq parts.length len&&Nat.beq bs.length len))) with
       |false=>False
       | true=>match D8 O bs with
         |none=>False
         | some ds=>match cellsOf te.size ds with
           |none=>False
           |some xs=>Z9 xs λxs=>k e te.size xs
   |_=>False
noncomputable def a6z (T:List (Nat×TI))(O:List (Nat×Blk))(op:Op)(bs:List Base)(kb:Base->Prop):Prop:=
 match D8 O bs with
 |some ds=>a6y T op ds λd=>kb (.d d)
 |none=>False
abbrev byteCells (l:List UInt8):List (List D):=l.map λc=>[D.v (.int .u8 (c.toNat:Int))]
noncomputable def c1o (T:List (Nat×TI))(O:List (Nat×Blk))(e:TypeId)(b:Base)(kb:Base->Prop):Prop:=
 match d7 e T with
 | some te=>match te.desc with
   | .int .u8=>match Y6 O b with
     |some xs=>∃l:List UInt8,xs=byteCells l/\kb (.d (.str l))
     |none=>False
   |_=>False
 |none=>False
noncomputable def b4H (T:List (Nat×TI))(e:TypeId)(b:Base)(kb:Base->Prop):Prop:=
 match d7 e T with
 | some te=>match te.desc with
   | .int .u8=>match b with
     | .d (.str l)=>kb (.d (.sl (byteCells l)))
     |_=>False
   |_=>False
 |none=>False
noncomputable def b4L (T:List (Nat×TI))(O:List (Nat×Blk))(s d:TypeId)(op:Op)(bs:List Base)(kb:Base->Prop):Prop:=
 match d7 s T,d7 d T,bs with
 | some ts,some td,[b]=>match ts.desc,td.desc with
   | .slice e, .string=>c1o T O e b kb
   | .string, .slice e=>b4H T e b kb
   |_,_=>a6z T O op [b] kb
 |_,_,bs=>a6z T O op bs kb
noncomputable def vcV (T:List (Nat×TI))(cf:Cfg)(O:List (Nat×Blk))(op:Op)(bs:List Base)(kb:Base->Prop):Prop:=
 match op with
 | .move _=>match bs with|[b]=>kb b|_=>False
 | .assign _=>match bs with|[b]=>kb b|_=>False
 | .pick _ _ _=>match bs with|[c,x,y]=>b4V c x y kb|_=>False
 | .fieldAddr ty _ f=>match bs with|[b]=>b4O T ty f b kb|_=>False
 | .indexAddr ty _ _=>match bs with|[b,i]=>b4Q T O ty b i kb|_=>False
 | .load ty _=>match bs with|[b]=>b1j T cf O ty b kb|_=>False
 | .nilCheck _=>match bs with
   | [b]=>match b with
     | .loc _ _=>kb b
     | .oel _ _ _ _=>kb b
     | .fn _ _ _=>kb b
     | .d (.ptr _ _)=>kb b
     | .d (.fn _ _ _)=>kb b
     |_=>False
   |_=>False
 | .slice ty _ lo hi mx=>b4W T O ty lo hi mx bs kb
 | .lookup ty _ _ ok=>match bs with|[m,k]=>b4S T O ty ok m k kb|_=>False
 | .makeFunc fn first _=>match fn with
   | .func F=>match a2Y O (bs.take first.size),a2Y O (bs.drop first.size) with
     | some fs,some cs=>match a2s fs,a2s cs with
       |some fs,some cs=>kb (.d (.fn F fs cs))
       |_,_=>kb (.fn F fs cs)
     |_,_=>False
   |_=>False
 | .buildSlice t len parts=>a7Y T O t len (parts.toList.map (·.1)) bs λ_ _ xs=>kb (.full xs)
 | .call {callee:= .builtin .len,args:=⟨[_]⟩,argTypes:=⟨[ty]⟩}=>match bs with|[b]=>b4R T O ty b kb|_=>False
 | .call {callee:= .builtin .max,args:=⟨[_,_]⟩, .. }=>match bs with|[x,y]=>b1k true x y kb|_=>False
 | .call {callee:= .builtin .min,args:=⟨[_,_]⟩, .. }=>match bs with|[x,y]=>b1k false x y kb|_=>False
 | .call _=>False
 | .convert s d x=>b4L T O s d (.convert s d x) bs kb
 |op=>a6z T O op bs kb
theorem c5i {γ:Gm}{V:Know}:∀{cs:List Base} {q:List D} {us:List Value},a7E cs=some q->All2 (RVb γ V) cs us->Reps V us q:=by
 intro cs;induction cs with
 | nil=>
   intro q us h hv;cases h;obtain rfl:=hv.nil_l;exact .nil V
 | cons b r ih=>
   intro q us h hv;obtain⟨x,us,rfl,h1,h2⟩:=hv.cons_l;cases b<;>simp only[a7E] at h<;>try cases h
   . split at h
     . rename_i q' hq;cases h;exact .cons h1 (ih hq h2)
     . cases h
   . split at h
     . rename_i q' hq;cases h;exact .cons h1.1 (ih hq h2)
     . cases h
theorem c3f {γ:Gm}{V:Know}:∀{cs:List Base} {p q:List D} {m:Nat} {vs:List Value},a3v cs=some (p,m,q)->All2 (RVb γ V) cs vs->∃us ws,vs=us++(γ m).1::ws/\Reps V us p/\Reps V ws q:=by
 intro cs;induction cs with
 |nil=>intro p q m vs h;cases h
 | cons b r ih=>
   intro p q m vs h hv;obtain⟨x,us,rfl,h1,h2⟩:=hv.cons_l;cases b<;>simp only[a3v] at h<;>try cases h
   . split at h
     . rename_i p' m' q' hq;cases h;obtain⟨us',ws,rfl,r1,r2⟩:=ih hq h2;exact⟨x::us',ws,rfl, .cons h1 r1,r2⟩
     . cases h
   . split at h
     . rename_i p' m' q' hq;cases h;obtain⟨us',ws,rfl,r1,r2⟩:=ih hq h2;exact⟨x::us',ws,rfl, .cons h1.1 r1,r2⟩
     . cases h
   . split at h
     . rename_i q' hq;cases h;exact⟨[],us,by rw[show x=_ from h1];rfl, .nil V,c5i hq h2⟩
     . cases h
theorem b5R {γ:Gm}{V:Know}{cs:List Base}{p q:List D}{m:Nat}{vs:List Value}(h:a3v cs=some (p,m,q))(hv:All2 (RVb γ V) cs vs)(h1:∀u∈vs,u.oneCell'=true):
 ∃us ws,vs=us++(γ m).1::ws/\Reps V us p/\Reps V ws q/\∀u∈us++(γ m).1::ws,u.oneCell'=true:=by
 obtain⟨us,ws,rfl,r1,r2⟩:=c3f h hv;exact⟨us,ws,rfl,r1,r2,h1⟩
def a3e (P:Program)(T:List (Nat×TI))(O:List (Nat×Blk))(op:Op)(bs:List Base)(b:Base):Prop:=
 ∀ (γ:Gm) (V:Know) (W:World) (O':List (Nat×Blk)) (xs:List Value),N8 O O' (a1H T O op bs)->Sees V W->A2 γ V W O'->Vals γ V bs xs->
   ∀(o:Oper) (ρ:Operand->Value),o.op=op->o.op.operands.toList.map ρ=xs->∃v V' W',(execOp ρ o).run P W= .ok (.value v) W'/\Grow V W V' W'/\RVb γ V' b v
def Reads (P:Program)(T:List (Nat×TI))(O:List (Nat×Blk))(op:Op)(bs:List Base)(b:Base):Prop:=
 ∀ (γ:Gm) (V:Know) (W:World) (O':List (Nat×Blk)) (xs:List Value),N8 O O' (a1H T O op bs)->Sees V W->A2 γ V W O'->Vals γ V bs xs->
   ∀(ρ:Operand->Value),op.operands.toList.map ρ=xs->∃v,RVb γ V b v/\∀(dst:Option Nat) (ty:TypeId) (pos:String) (af:Array Edge) (gd:Option (Nat×Bool)),(execOp ρ ⟨dst,op,ty,pos,af,gd⟩).run P W= .ok (.value v) W
theorem Reads.gives {P:Program}{T:List (Nat×TI)}{O:List (Nat×Blk)}{op:Op}{bs:List Base}{b:Base}(h:Reads P T O op bs b):a3e P T O op bs b:=by
 rintro γ V W O' xs h1 h2 h3 h4 ⟨dst,op',ty,pos,af,gd⟩ ρ rfl hm;obtain⟨v,hv,hr⟩:=h γ V W O' xs h1 h2 h3 h4 ρ hm;exact⟨v,V,W,hr dst ty pos af gd, .refl h2,hv⟩
def Real (O:List (Nat×Blk))(bs:List Base):Prop:=∃γ V W xs,Sees V W/\A2 γ V W O/\Vals γ V bs xs
section
variable {P:Program} {T:List (Nat×TI)} {cf:Cfg} {O:List (Nat×Blk)} {kb:Base->Prop} {γ:Gm} {V:Know} {W:World}
theorem v1 {xs:List Value}{b:Base}(h:Vals γ V [b] xs):∃x,xs=[x]/\RVb γ V b x:=by
 obtain⟨x,m,rfl,h1,h2⟩:=h.cons_l;obtain rfl:=h2.nil_l;exact⟨x,rfl,h1⟩
theorem v2 {xs:List Value}{b c:Base}(h:Vals γ V [b,c] xs):∃x y,xs=[x,y]/\RVb γ V b x/\RVb γ V c y:=by
 obtain⟨x,m,rfl,h1,h2⟩:=h.cons_l;obtain⟨y,rfl,h3⟩:=v1 h2;exact⟨x,y,rfl,h1,h3⟩
theorem v3 {xs:List Value}{b c d:Base}(h:Vals γ V [b,c,d] xs):∃x y z,xs=[x,y,z]/\RVb γ V b x/\RVb γ V c y/\RVb γ V d z:=by
 obtain⟨x,m,rfl,h1,h2⟩:=h.cons_l;obtain⟨y,z,rfl,h3,h4⟩:=v2 h2;exact⟨x,y,z,rfl,h1,h3,h4⟩
theorem o1 {ρ:Operand->Value}{a:Operand}{xs:List Value}{x:Value}(hm:[a].map ρ=xs)(hx:xs=[x]):ρ a=x:=by subst hm;simpa using hx
theorem o2 {ρ:Operand->Value}{a b:Operand}{xs:List Value}{x y:Value}(hm:[a,b].map ρ=xs)(hx:xs=[x,y]):ρ a=x/\ρ b=y:=by subst hm;simpa using hx
theorem T0 (b o j:Nat):(⟨b,o,none⟩:Addr).add j=⟨b,o+j,none⟩:=by
 unfold Addr.add;split<;>simp_all
theorem a8b (hT:TOk P T){ty:TypeId}{ti:TI}(ht:d7 ty T=some ti){W:World}{b o:Nat}{cs:List Value}
 (hc:∀j v,cs[j]?=some v->W.cell? ⟨b,o+j,none⟩=some v) (hl:ti.agg=true->cs.length=ti.size) (v:Value)
 (hv:if ti.agg=true then v= .agg cs.toArray else cs[0]?=some v):(loadVar ty ⟨b,o,none⟩).run P W= .ok v W:=by
 simp only[loadVar,r4,hT.isAgg ht W,r8];by_cases hag:ti.agg=true
 . have hz:=hl hag;rw[d4 hag] at hv;rw[d4 hag];have:=run_loadCells_list (P:=P) W ⟨b,o,none⟩ cs (λj v hj=>by rw[T0];exact hc j v hj);simp only[r4,hT.sizeOf ht W,r8,<-hz,this,hv];rfl
 . rw[c8 hag] at hv;rw[c8 hag];have:=hc 0 v hv;simp only[a3m] at this;simp[this]
theorem a8a {ty:TypeId}{b o:Nat}{v:Value}(h:(loadVar ty ⟨b,o,none⟩).run P W= .ok v W):(Instr.loadAt ty (.pointer (some ⟨b,o,none⟩))).run P W= .ok v W:=by
 simp only[Instr.loadAt,Instr.sureAddr,r4,H3,r8,h]
theorem b1a {α:Type}{l:List α}{off n j:Nat}{x:α}(h:((l.drop off).take n)[j]?=some x):l[off+j]?=some x:=by
 rw[X1] at h;split at h
 . simpa using h
 . simp at h
theorem b8D (hT:TOk P T){ty:TypeId}{ti:TI}(ht:d7 ty T=some ti){off:Nat}{cs:List D}(h:ldD ti off cs kb):
 ∃ b,kb b/\∀(γ:Gm) (V:Know) (W:World) (blk o:Nat) (us:List Value),Reps V us cs->(∀u∈us,u.oneCell'=true)->(∀(j:Nat) u,us[j]?=some u->W.cell? ⟨blk,o+j,none⟩=some u)->
   ∃v,RVb γ V b v/\(Instr.loadAt ty (.pointer (some ⟨blk,o+off,none⟩))).run P W= .ok v W:=by
 unfold ldD at h;split at h
 . rename_i hag;split at h
   case h_2=>exact h.elim
   rename_i hle;have hle:=X2 hle;refine⟨_,h,λγ V W blk o us hr h1 hc=>?_⟩;have hr':=(hr.drop off).take ti.size;refine⟨.agg ⟨(us.drop off).take ti.size⟩, .agg _ _ hr'.len (λu hu=>h1 u (a0V (Q5 hu))) hr'.get,a8a (a8b hT ht (cs:=(us.drop off).take ti.size) (λj v hj=>?_) (λ_=>by simp[hr.len];omega) _ (by rw[d4 hag]))⟩;have:=hc (off+j) v (b1a hj);rwa[<-Nat.add_assoc] at this
 . rename_i hag;split at h
   case h_2=>exact h.elim
   rename_i d r hd;refine⟨_,h,λγ V W blk o us hr h1 hc=>?_⟩;obtain⟨u,hu,hru⟩:=hr.at (a4L hd);refine⟨u,hru,a8a (a8b hT ht (cs:=[u]) (λj v hj=>?_) (λe=>by rw[hag] at e;cases e) _ (by rw[c8 (by simp[hag])];rfl))⟩;cases j with
   |zero=>simp at hj;subst hj;exact hc off u hu
   |succ j=>simp at hj
theorem d0q {x:Value}{cs:List D}{off:Nat}(h:Rep V x (.ptr cs off)):∃b o us,x= .pointer (some ⟨b,o+off,none⟩)/\Reps V us cs/\(∀u∈us,u.oneCell'=true)/\∀(j:Nat) u,us[j]?=some u->V.cell b (o+j)=some u:=by
 cases h with
 | ptr b o cs off hex h=>
   have :∀(l:List D) (i:Nat),(∀(j:Nat) d,l[j]?=some d->cs[i+j]?=some d)->∃us,Reps V us l/\(∀u∈us,u.oneCell'=true)/\∀(j:Nat) u,us[j]?=some u->V.cell b (o+(i+j))=some u:=by
    intro l;induction l with
    |nil=>intro i _;exact⟨[], .nil V,by simp,λj u h=>by simp at h⟩
    | cons d l ih=>
      intro i hl;obtain⟨us,h1,h2,h3⟩:=ih (i+1) (λj d hj=>by have:=hl (j+1) d (by simpa using hj);rwa[show i+1+j=i+(j+1) from by omega]);have h0:=hl 0 d rfl;obtain⟨u,hu,hu1⟩:=hex (i+0) d h0;refine⟨u::us, .cons (h _ _ _ h0 hu) h1,?_,?_⟩
      . intro w hw;rcases p8.1 hw with rfl|hw
        . exact hu1
        . exact h2 w hw
      . intro j w hj;cases j with
        |zero=>simp at hj;subst hj;exact hu
        |succ j=>have:=h3 j w (by simpa using hj);rwa[show i+1+j=i+(j+1) from by omega] at this
   obtain⟨us,h1,h2,h3⟩:=this cs 0 (λj d hj=>by rwa[F3]);exact⟨b,o,us,rfl,h1,h2,λj u hj=>by have:=h3 j u hj;rwa[F3] at this⟩
theorem b0r {n:Nat}:∀{ns:List Nat},w6 n ns=true->n∈ns
 |[],h=>by cases h
 | x::xs,h=>by
   rw[w6] at h;split at h
   . rename_i e;rw[t7 e];exact A9 ..
   . exact r6 _ (b0r h)
theorem d4s {op:Op}{bs:List Base}{b:Base}(h:b4B O kb b)(hd:∀p∈a1q O,p∈a1H T O op bs)(hr:Reads P T O op bs b):∃b',kb b'/\Reads P T O op bs b':=by
 unfold b4B at h;split at h
 . exact⟨b,h,hr⟩
 split at h
 . split at h
   . obtain⟨p,m,g,ns,⟨h1,h2,h3⟩,h⟩:=h;refine⟨_,h,λγ V W O' xs ha hs ho hv ρ hm=>?_⟩;obtain⟨v,hrv,hrun⟩:=hr γ V W O' xs ha hs ho hv ρ hm;refine⟨v,?_,hrun⟩;have hp:=ho p _ ((ha p (hd p (b9x h1))).trans h1);have hv2:v=(g m).1:=by
      rw[h3];cases hrv with
      |raw x h=>rfl
     show v=(γ m).1;rw[hv2,hp.2 m (b0r h2)]
   . exact⟨_,h,hr⟩
 . exact⟨_,h,hr⟩
theorem c1k (hT:TOk P T){ty:TypeId}{x:Operand}{b:Base}(h:b1j T cf O ty b kb):∃b',kb b'/\Reads P T O (.load ty x) [b] b':=by
 unfold b1j at h;split at h
 . exact h.elim
 rename_i ti ht;have mk:∀{γ:Gm} {V:Know} {W:World} {xs:List Value} {b b':Base},Vals γ V [b] xs->(∀x,RVb γ V b x->∃v,RVb γ V b' v/\(Instr.loadAt ty x).run P W= .ok v W)->
  ∀(ρ:Operand->Value),(Op.load ty x).operands.toList.map ρ=xs->∃v,RVb γ V b' v/\∀(dst:Option Nat) (ty':TypeId) (pos:String) (af:Array Edge) (gd:Option (Nat×Bool)),(execOp ρ ⟨dst, .load ty x,ty',pos,af,gd⟩).run P W= .ok (.value v) W:=by
  intro γ V W xs b b' hv hk ρ hm;obtain⟨y,rfl,hy⟩:=v1 hv;obtain⟨v,h1,h2⟩:=hk y hy;refine⟨v,h1,λdst ty' pos af gd=>A5 ?_⟩;rw[o1 hm rfl];exact h2
 split at h
 . rename_i cs off;obtain⟨b',hb,hr⟩:=b8D hT ht h;refine⟨b',hb,λγ V W O' xs _ hs _ hv=>mk hv λx hx=>?_⟩;obtain⟨bk,o,us,rfl,h1,h2,h3⟩:=d0q hx;exact hr γ V W bk o us h1 h2 (λj u hj=>hs.cell _ _ _ (h3 j u hj))
 . rename_i n off;split at h
   case h_2=>exact h.elim
   rename_i cells bty hb;have hkey:n∈F0 O [Base.loc n off]:=by simp[F0,A7]
   have hdep:∀m∈cells.flatMap A7,m∈F0 O [Base.loc n off]:=by
    intro m hm;simp only[F0,a2n,List.flatMap_nil,R4,A7,hb,A8];exact .inr hm
   have box:∀{γ:Gm} {V:Know} {W:World} {O':List (Nat×Blk)} {x:Value},d7 n O'=d7 n O->A2 γ V W O'->RVb γ V (.loc n off) x->
    ∃(blk:Nat) (cs:Array Value),x= .pointer (some ⟨blk,off,none⟩)/\W.heap[blk]?=some (.cells cs bty (0,0))/\All2 (RVb γ V) cells cs.toList/\(∀u∈cs.toList,u.oneCell'=true):=by
    intro γ V W O' x hl ho hx;rw[hb] at hl;obtain⟨blk,cs,hg,hh,h1,h2,_⟩:=ho n _ hl;obtain⟨blk',hg',rfl⟩:=hx;rw[hg] at hg';obtain rfl:blk=blk':=by simpa using hg'
    exact⟨blk,cs,rfl,hh,h1,h2⟩
   have one:∀{b':Base},ti.agg=false->cells[off]?=some b'->Reads P T O (.load ty x) [.loc n off] b':=by
    intro b' hag hc γ V W O' xs ha hs ho hv;refine mk hv λx hx=>?_;obtain⟨blk,cs,rfl,hh,h1,h2⟩:=box (ha n (a9M (by simp[A7]))) ho hx;obtain⟨u,hu,hru⟩:=h1.at hc;refine⟨u,hru,a8a (a8b hT ht (cs:=[u]) (λj v hj=>?_) (λe=>by rw[hag] at e;cases e) _ (by rw[c8 (by simp[hag])];rfl))⟩;cases j with
    |zero=>simp at hj;subst hj;simpa[World.cell?,hh] using hu
    |succ j=>simp at hj
   have whole:∀{ds:List D},ti.agg=true->D8 O ((cells.drop off).take ti.size)=some ds->ds.length=ti.size->Reads P T O (.load ty x) [.loc n off] (.d (.agg ds)):=by
    intro ds hag hds hlen γ V W O' xs ha hs ho hv;replace ha:N8 O O' (F0 O [Base.loc n off]):=λm hm=>ha m (b6X ht hag hm)
    refine mk hv λx hx=>?_;obtain⟨blk,cs,rfl,hh,h1,h2⟩:=box (ha n hkey) ho hx;have h1':=(h1.drop off).take ti.size;have hag':D8 O' ((cells.drop off).take ti.size)=D8 O ((cells.drop off).take ti.size):=by
     refine b4D λm hm=>ha m (hdep m ?_);obtain⟨b',hb',hm'⟩:=a3j.1 hm;exact a3j.2 ⟨b',a0V (Q5 hb'),hm'⟩
    have hr:=a3X ho (hag'.trans hds) h1';refine⟨.agg ⟨(cs.toList.drop off).take ti.size⟩, .agg _ _ hr.len (λu hu=>h2 u (a0V (Q5 hu))) hr.get,a8a (a8b hT ht (cs:=(cs.toList.drop off).take ti.size) (λj v hj=>?_) (λ_=>by rw[hr.len,hlen]) _ (by rw[d4 hag]))⟩;have:=b1a hj;simpa[World.cell?,hh] using this
   have wholeA:∀{p q:List D} {m:Nat},ti.agg=true->a3v ((cells.drop off).take ti.size)=some (p,m,q)->p.length+(1+q.length)=ti.size->Reads P T O (.load ty x) [.loc n off] (.ag p m q):=by
    intro p q m hag hds hlen γ V W O' xs ha hs ho hv;replace ha:N8 O O' (F0 O [Base.loc n off]):=λm hm=>ha m (b6X ht hag hm)
    refine mk hv λx hx=>?_;obtain⟨blk,cs,rfl,hh,h1,h2⟩:=box (ha n hkey) ho hx;have h1':=(h1.drop off).take ti.size;obtain⟨us,ws,e,r1,r2,r3⟩:=b5R hds h1' (λu hu=>h2 u (a0V (Q5 hu)));refine⟨.agg ⟨(cs.toList.drop off).take ti.size⟩,⟨us,ws,by rw[e],r1,r2,r3⟩,a8a (a8b hT ht (cs:=(cs.toList.drop off).take ti.size) (λj v hj=>?_) (λ_=>by rw[e,j6,i7,r1.len,r2.len];omega) _ (by rw[d4 hag]))⟩;have:=b1a hj;simpa[World.cell?,hh] using this
   split at h
   . unfold b8s at h;split at h
     . rename_i hag;split at h
       case h_2=>
        split at h
        case h_2=>exact h.elim
        rename_i p m q hds;split at h
        case h_2=>exact h.elim
        rename_i hlen;exact⟨_,h,wholeA hag hds (t7 hlen)⟩
       rename_i ds hds;split at h
       case h_2=>exact h.elim
       rename_i hlen;exact⟨_,h,whole hag hds (t7 hlen)⟩
     . rename_i hag;split at h
       case h_2=>exact h.elim
       rename_i b' r hd;exact⟨b',h,one hag (a4L hd)⟩
   . split at h
     . rename_i hag;obtain⟨b',hb',h⟩:=h;exact⟨b',h,one hag hb'⟩
     . rename_i hag;obtain⟨ds,⟨h1,h2⟩,h⟩:=h;exact⟨_,h,whole hag h1 h2⟩
 . rename_i n k i r;split at h
   case h_2=>exact h.elim
   rename_i s hsl;split at h
   case h_2=>exact h.elim
   rename_i hpf;obtain⟨ds,⟨hds,hsk⟩,h⟩:=h;subst hsk;obtain⟨b',hb,hr⟩:=b8D hT ht h;refine d4s hb (λp hp=>?_) (λγ V W O' xs ha hs ho hv=>mk hv λx hx=>?_)
   . exact c5r hp
   have hl:=ha n (a9M (by simp[A7]));rw[hsl] at hl;obtain⟨blk,m,c,hg',rfl⟩:=hx;rcases ho n _ hl with⟨g,n',c',vals,hv,hown,hk,hvr,h1,_⟩|⟨hp,_⟩
   . rw [hv] at hg';obtain⟨rfl,rfl,rfl⟩:g=blk/\n'=m/\c'=c:=by simpa using hg'
     rw[hv] at hown;have hdl:=hk ds (M6 hds);have hget:∀(j:Nat) d,ds[j]?=some d->s.xs.flatten[i*s.k+j]?=some d:=λj d hj=>a4I hk hds hj;have hfl:=a3H hk;have hil:i<s.xs.length:=by
      rcases C5 i s.xs.length with h|h
      . exact h
      . rw[z6 h] at hds;cases hds
     have hin:i*s.k+s.k<=s.xs.flatten.length:=by
      rw[hfl,<-a3o];exact a3n _ hil
     have hsub:(s.xs.flatten.drop (i*s.k)).take s.k=ds:=by
      apply O0;intro j;rw[X1];by_cases hj:j<s.k
      . rw[d4 hj,a5C];have hj':j<ds.length:=by omega
        rw[hget j _ (t6 hj'),t6 hj']
      . rw[c8 hj,z6 (by omega)]
     have hrr:=(hvr.drop (i*s.k)).take s.k;rw[hsub] at hrr;exact hr γ V W g (i*s.k) _ hrr (λu hu=>h1 u (a0V (Q5 hu))) (λj u hj=>by
      have:=hown.cells (g:=g) rfl _ u (b1a hj);rwa[T0,F3] at this)
   . rcases hp with hp|hp
     . rw[hp] at hpf;cases hpf
     . rw[hp] at hds;simp at hds
 . exact h.elim
theorem d4M (hT:TOk P T){ty:TypeId}{f:Nat}{x:Operand}{b:Base}(h:b4O T ty f b kb):∃b',kb b'/\Reads P T O (.fieldAddr ty x f) [b] b':=by
 unfold b4O at h;split at h
 . exact h.elim
 rename_i ti hti;split at h
 case h_2=>exact h.elim
 rename_i fs hd;split at h
 case h_2=>exact h.elim
 rename_i fd r hfd;split at h
 case h_2=>exact h.elim
 rename_i tf htf;split at h
 . exact h.elim
 rename_i hz;have hf:fs[f]?=some fd:=by simpa using a4L hfd
 have hne:¬tf.size=0:=λe=>by rw[e] at hz;exact absurd hz (by decide)
 have key:∀(W:World) blk o,(Instr.fieldAt ty (.pointer (some ⟨blk,o,none⟩)) f).run P W= .ok (.pointer (some ⟨blk,o+fd.offset,none⟩)) W:=by
  intro W blk o;simp only[Instr.fieldAt,r4,hT.under hti W,r8,hd,hf,Instr.sureAddr,H3,fieldPlace,hT.sizeOf htf W,c8 hne,T0]
 have mk:∀{γ:Gm} {V:Know} {W:World} {xs:List Value} {b b':Base},Vals γ V [b] xs->(∀x,RVb γ V b x->∃blk o,x= .pointer (some ⟨blk,o,none⟩)/\RVb γ V b' (.pointer (some ⟨blk,o+fd.offset,none⟩)))->
  ∀(ρ:Operand->Value),(Op.fieldAddr ty x f).operands.toList.map ρ=xs->∃v,RVb γ V b' v/\∀(dst:Option Nat) (ty':TypeId) (pos:String) (af:Array Edge) (gd:Option (Nat×Bool)),(execOp ρ ⟨dst, .fieldAddr ty x f,ty',pos,af,gd⟩).run P W= .ok (.value v) W:=by
  intro γ V W xs b b' hv hk ρ hm;obtain⟨y,rfl,hy⟩:=v1 hv;obtain⟨blk,o,rfl,h2⟩:=hk y hy;refine⟨_,h2,λdst ty' pos af gd=>A5 ?_⟩;rw[o1 hm rfl];exact key W blk o
 split at h
 . refine⟨_,h,λγ V W O' xs _ _ _ hv=>mk hv λx hx=>?_⟩;obtain⟨blk,hg,rfl⟩:=hx;exact⟨blk,_,rfl,blk,hg,rfl⟩
 . rename_i cs o;refine⟨_,h,λγ V W O' xs _ _ _ hv=>mk hv λx hx=>?_⟩;cases hx with
   |ptr b o' cs off hex h=>exact⟨b,_,rfl,by rw[Nat.add_assoc];exact .ptr b o' cs _ hex h⟩
 . refine⟨_,h,λγ V W O' xs _ _ _ hv=>mk hv λx hx=>?_⟩;obtain⟨blk,n,c,hg,rfl⟩:=hx;exact⟨blk,_,rfl,blk,n,c,hg,by rw[Nat.add_assoc]⟩
 . exact h.elim
theorem d2o {x:Value}{xs:List (List D)}(h:Rep V x (.sl xs)){i:Nat}{ds:List D}(hi:xs[i]?=some ds):
 ∃b o c,x= .slice (some ⟨b,o,none⟩) xs.length c/\i<xs.length/\Rep V (.pointer (some ⟨b,o+i*ds.length,none⟩)) (.ptr ds 0):=by
 cases h with
 |nil=>simp at hi
 |empty a=>simp at hi
 | sl b o c k xs hc hm hk hex h=>
   have hlt:i<xs.length:=by
    rcases C5 i xs.length with h|h
    . exact h
    . rw[z6 h] at hi;cases hi
   have hdk:=hk ds (M6 hi);refine⟨b,o,c,rfl,hlt,?_⟩;rw[hdk];exact .ptr b (o+i*k) ds 0 (λj d hj=>hex i ds j d hi hj) (λj d u hj hu=>h i ds j d u hi hj hu)
theorem d4O (hT:TOk P T){ty:TypeId}{x ix:Operand}{b ib:Base}(h:b4Q T O ty b ib kb):∃b',kb b'/\Reads P T O (.indexAddr ty x ix) [b,ib] b':=by
 unfold b4Q at h;split at h
 case h_2=>exact h.elim
 rename_i ti k i hti;have mk:∀{γ:Gm} {V:Know} {W:World} {xs:List Value} {b':Base},Vals γ V [b, .d (.v (.int k i))] xs->(∀x,RVb γ V b x->∃v,RVb γ V b' v/\(Instr.indexAt ty x (.int k i)).run P W= .ok v W)->
  ∀(ρ:Operand->Value),(Op.indexAddr ty x ix).operands.toList.map ρ=xs->∃v,RVb γ V b' v/\∀(dst:Option Nat) (ty':TypeId) (pos:String) (af:Array Edge) (gd:Option (Nat×Bool)),(execOp ρ ⟨dst, .indexAddr ty x ix,ty',pos,af,gd⟩).run P W= .ok (.value v) W:=by
  intro γ V W xs b' hv hk ρ hm;obtain⟨y,z,rfl,hy,hz⟩:=v2 hv;obtain⟨v,h1,h2⟩:=hk y hy;refine⟨v,h1,λdst ty' pos af gd=>A5 ?_⟩;obtain⟨e1,e2⟩:=o2 hm rfl;rw[e1,e2,Rep.int_inv hz|>.1];exact h2
 split at h
 . rename_i e hd;split at h
   case h_2=>exact h.elim
   rename_i te hte;have key:∀(W:World) (blk o n c:Nat),0<=i/\i<(n:Int)->
    (Instr.indexAt ty (.slice (some ⟨blk,o,none⟩) n c) (.int k i)).run P W= .ok (.pointer (some ⟨blk,o+i.toNat *te.size,none⟩)) W:=by
    intro W blk o n c hb;simp only[Instr.indexAt,asIntOf,r4,H3,r8,hT.under hti W,hd,d4 hb,hT.sizeOf hte W,T0]
   split at h
   . rename_i xs hxs;obtain⟨ds,⟨h0,hget,hlen⟩,h⟩:=h;refine⟨_,h,λγ V W O' ys ha hs ho hv=>mk hv λx hx=>?_⟩;have hxs':Y6 O' b=some xs:=(b0O λn hn=>ha n (by show n∈F0 _ _;simp[F0,hn])).trans hxs;obtain⟨bk,o,c,rfl,hlt,hr⟩:=d2o (a3S ho hxs' hx) hget;rw[hlen] at hr;exact⟨_,hr,key W bk o _ c (by omega)⟩
   . split at h
     case h_2=>exact h.elim
     rename_i n hseq;split at h
     case h_2=>exact h.elim
     rename_i s hsl;split at h
     case h_2=>exact h.elim
     rename_i hp;obtain⟨⟨h0,hn,hk⟩,h⟩:=h;refine⟨_,h,λγ V W O' ys ha hs ho hv=>mk hv λx hx=>?_⟩;have hl:=ha n (by show n∈F0 _ _;simp[F0,A7]);rw[hsl] at hl;rcases ho n _ hl with⟨g,n',c',vals,hv',hown,_⟩|⟨hp',_⟩
     . rw[show x=(γ n).1 from hx];rw[hv'] at hown⊢;obtain⟨cur,hnn,_⟩:=Q0 hown;have:=key W g 0 n' c' ⟨h0,by omega⟩;rw[F3] at this;exact⟨_,⟨g,n',c',by rw[hv'],by rw[a3m]⟩,this⟩
     . rcases hp' with hp'|hp'
       . rw[hp] at hp';cases hp'
       . rw[hp',j8] at hn;exact absurd (Int.lt_of_le_of_lt h0 hn) (by simp)
 . rename_i len e hd;split at h
   case h_2=>exact h.elim
   rename_i te hte;have key:∀(W:World) (blk o:Nat),0<=i/\i<(len:Int)->
    (Instr.indexAt ty (.pointer (some ⟨blk,o,none⟩)) (.int k i)).run P W= .ok (.pointer (some ⟨blk,o+i.toNat *te.size,none⟩)) W:=by
    intro W blk o hb;simp only[Instr.indexAt,asIntOf,r4,H3,r8,hT.under hti W,hd,Instr.sureAddr,d4 hb,hT.sizeOf hte W,T0]
   split at h
   . rename_i m o;refine⟨_,h.2,λγ V W O' ys ha hs ho hv=>mk hv λx hx=>?_⟩;obtain⟨blk,hg,rfl⟩:=hx;exact⟨_,⟨blk,hg,rfl⟩,key W blk o h.1⟩
   . rename_i cs o;refine⟨_,h.2,λγ V W O' ys ha hs ho hv=>mk hv λx hx=>?_⟩;cases hx with
     |ptr b o' cs off hex hh=>exact⟨_,by rw[Nat.add_assoc];exact .ptr b o' cs _ hex hh,key W b _ h.1⟩
   . exact h.elim
 . exact h.elim
theorem a3T {x:Value}{xs:List (List D)}(h:Rep V x (.sl xs)):∃a c,x= .slice a xs.length c/\xs.length<=c/\c<=maxLen:=by
 generalize hd:D.sl xs=d at h;cases h<;>cases hd
 . exact⟨_,_,rfl,p0 _,F4 _⟩
 . exact⟨_,_,rfl,p0 _,F4 _⟩
 . exact⟨_,_,rfl,‹_›,‹_›⟩
theorem d5k {n:Nat}(h:n<=maxLen):w8 .i64 (n:Int):=by simp only[maxLen] at h;simp only[w8];omega
theorem d4P (hT:TOk P T){ty:TypeId}{x:Operand}{b:Base}(hreal:Real O [b])(h:b4R T O ty b kb):
 ∃b',kb b'/\Reads P T O (.call {callee:= .builtin .len,args:= #[x],argTypes:= #[ty]}) [b] b':=by
 unfold b4R at h;split at h
 . exact h.elim
 rename_i ti hti;have mk:∀{γ:Gm} {V:Know} {W:World} {xs:List Value} {b b':Base},Vals γ V [b] xs->(∀x,RVb γ V b x->∃v,RVb γ V b' v/\∀rt,(Builtin.len_ #[ty] rt #[x]).run P W= .ok v W)->
  ∀(ρ:Operand->Value),(Op.call {callee:= .builtin .len,args:= #[x],argTypes:= #[ty]}).operands.toList.map ρ=xs->∃v,RVb γ V b' v/\∀(dst:Option Nat) (ty':TypeId) (pos:String) (af:Array Edge) (gd:Option (Nat×Bool)),(execOp ρ ⟨dst, .call {callee:= .builtin .len,args:= #[x],argTypes:= #[ty]},ty',pos,af,gd⟩).run P W= .ok (.value v) W:=by
  intro γ V W xs b b' hv hk ρ hm;obtain⟨y,rfl,hy⟩:=v1 hv;obtain⟨v,h1,h2⟩:=hk y hy;refine⟨v,h1,λdst ty' pos af gd=>?_⟩;have e:ρ x=y:=o1 (a:=x) (by simpa[Op.operands,Call.operands] using hm) rfl;simp[execOp,resolve,invoke,builtin,e,h2 ty']
 obtain⟨γ0,V0,W0,xs0,hs0,ho0,hv0⟩:=hreal;obtain⟨x0,rfl,hx0⟩:=v1 hv0;have out:∀{γ:Gm} {V:Know} {n:Nat},n<=maxLen->RVb γ V (.d (.v (.int .i64 (n:Int)))) (goInt n):=λh=> .int (d5k h);have slen:∀{W:World} {e:TypeId} {a:Option Addr} {n c:Nat} (rt:TypeId),ti.desc= .slice e->(Builtin.len_ #[ty] rt #[.slice a n c]).run P W= .ok (goInt n) W:=by
  intro W e a n c rt hd;simp[Builtin.len_,hT.under hti W,hd]
 split at h
 . rename_i e hd;split at h
   . rename_i xs hxs;obtain⟨_,_,rfl,h1,h2⟩:=a3T (a3S ho0 hxs hx0);have hle:xs.length<=maxLen:=H8 h1 h2;refine⟨_,h hle,λγ V W O' ys ha hs ho hv=>mk hv λx hx=>?_⟩;have hxs':Y6 O' b=some xs:=(b0O λn hn=>ha n (by show n∈F0 _ _;simp[F0,hn])).trans hxs;obtain⟨_,_,rfl,_,_⟩:=a3T (a3S ho hxs' hx);exact⟨_,out hle,λrt=>slen rt hd⟩
   . split at h
     case h_2=>exact h.elim
     rename_i n hseq;split at h
     case h_2=>exact h.elim
     rename_i s hsl;have get:∀{γ:Gm} {V:Know} {W:World} {O':List (Nat×Blk)} {x:Value},N8 O O' (F0 O [Base.own n])->A2 γ V W O'->RVb γ V (.own n) x->∃a c,x= .slice a s.xs.length c/\s.xs.length<=maxLen:=by
      intro γ V W O' x ha ho hx;have hl:=ha n (by show n∈F0 _ _;simp[F0,A7]);rw[hsl] at hl;rw[show x=(γ n).1 from hx];rcases ho n _ hl with⟨g,n',c',vals,hv',hown,_⟩|⟨_,_,_,hr,_⟩
      . rw[hv'] at hown⊢;obtain⟨cur,rfl,_,h1,h2,_⟩:=Q0 hown;exact⟨_,_,rfl,H8 h1 h2⟩
      . obtain⟨a,c,e,h1,h2⟩:=a3T hr;exact⟨a,c,e,H8 h1 h2⟩
     obtain⟨_,_,_,hle⟩:=get (λ_ _=>rfl) ho0 hx0;refine⟨_,h hle,λγ V W O' ys ha hs ho hv=>mk hv λx hx=>?_⟩;obtain⟨_,_,rfl,_⟩:=get ha ho hx;exact⟨_,out hle,λrt=>slen rt hd⟩
 . rename_i hd;split at h
   case h_2=>exact h.elim
   rename_i l;have hle:=(Rep.str_inv hx0).2;refine⟨_,h hle,λγ V W O' ys ha hs ho hv=>mk hv λx hx=>?_⟩;obtain⟨rfl,_⟩:=Rep.str_inv hx;refine⟨_,out hle,λrt=>?_⟩;simp[Builtin.len_,hT.under hti W,hd];rfl
 . rename_i kt et hd;have mlen:∀{W:World} {r:Nat} {es:Array MapEntry} {clock:Nat} {l:List (D×D)} (rt:TypeId),W.heap[r]?=some (.map es clock)->es.toList.length=l.length->(Builtin.len_ #[ty] rt #[.map (some r)]).run P W= .ok (goInt l.length) W:=by
    intro W r es clock l rt hh hl;have:es.size=l.length:=by rw[<-hl];simp
    simp[Builtin.len_,hT.under hti W,hd,getObj,Sem.run,hh,this]
   split at h
   . rename_i l;refine⟨_,h.2,λγ V W O' ys ha hs ho hv=>mk hv λx hx=>?_⟩;refine⟨_,out h.1,λrt=>?_⟩;cases hx with
     |mnil=>simp[Builtin.len_,hT.under hti W,hd]
     |mp r clock es l ho' hm hl hkey hh=>exact mlen rt (hs.obj _ _ ho').1 hl
   . rename_i n;split at h
     case h_2=>exact h.elim
     rename_i l hml;refine⟨_,h.2,λγ V W O' ys ha hs ho hv=>mk hv λx hx=>?_⟩;refine⟨_,out h.1,λrt=>?_⟩;have hl:=ha n (by show n∈F0 _ _;simp[F0,A7]);rw[hml] at hl;obtain⟨r,es,clock,hg,hh,_,_,hlen,_⟩:=ho n _ hl;rw[show x=(γ n).1 from hx,hg];exact mlen rt hh hlen
   . exact h.elim
 . exact h.elim
end
end Go.Proofs.YteillnfhkeebjaaGreatDoor.Dx
