/- The. -/
import Derived.Test.YteillnfhkeebjaaGreatDoorWg
import Derived.Orders
set_option linter.all false
namespace Go.Proofs.YteillnfhkeebjaaGreatDoor.Dx
open Go Go.RowKit
inductive Stp where
 |p (i:Nat)
 |s (i:Nat) (anc:List Nat)
structure Fl where
 i:Nat
 dst:Option Nat
 b:Base
 keys:List Nat
 dep:List Nat
def onB (o:Oper)(j:Nat):Bool:=o.after.toList.any λe=>Region.binds .any e&&Nat.beq e.on j
def b3q (ops:Array Oper)(i j:Nat)(o w:Oper):Bool:=
 match Nat.beq i j,w.dst with
 |true,_=>true
 |false,none=>true
 |false,some t=>(match o.dst with|some d=> !Nat.beq d t|none=>true)&&(!w6 t (o.looksAt ops)||(onB o j||onB w i))
def b4m (ops:Array Oper):Bool:=
 (List.range ops.size).all λi=>match ops[i]? with
   |none=>true
   | some o=>(o.after.toList.all λe=> !Region.binds .any e||Nat.blt e.on i)&&
     (List.range ops.size).all λj=>match ops[j]? with
       |none=>true
       |some w=>b3q ops i j o w
def a4Y (ops:Array Oper)(lc:List Nat)(i:Nat):Bool:=
 (!w6 i lc)&&match ops[i]? with
   |none=>false
   |some o=>o.after.toList.all λe=> !Region.binds .any e||w6 e.on lc
def a7w (ops:Array Oper):List Nat->List Nat->Bool
 |_,[]=>true
 |dn,a::r=>(dn.any λj=>match ops[j]? with|some o=>onB o a|none=>false)&&a7w ops (a::dn) r
def a1d (ops:Array Oper):List Stp->List Nat->Bool
 |[],lc=>(List.range ops.size).all λj=>w6 j lc
 | .p i::r,lc=>a4Y ops lc i&&a1d ops r (i::lc)
 | .s i anc::r,lc=>a4Y ops lc i&&(((List.range ops.size).all λj=>Nat.beq j i|| !a4Y ops lc j)&&(a7w ops [i] anc&&a1d ops r (i::lc)))
def L5:List Fl->List (Nat×Base)->List (Nat×Base)
 |[],L=>L
 |⟨_,some t,b,_,_⟩::F,L=>(t,b)::L5 F L
 |⟨_,none,_,_,_⟩::F,L=>L5 F L
def a4v:List Fl->List (Nat×Base)->(List (Nat×Base)->Prop)->Prop
 |[],L,k=>k L
 |⟨_,some t,b,_,_⟩::F,L,k=>a4v F L λL=>k ((t,b)::L)
 |⟨_,none,_,_,_⟩::F,L,k=>a4v F L k
def b2A (d:Option Nat)(k:Option Nat->Prop):Prop:=match d with|none=>k none|some t=>k (some t)
theorem b7G (d:Option Nat)(k:Option Nat->Prop):b2A d k=k d:=by cases d<;>rfl
def a3t:List Nat->List Nat->(List Nat->Prop)->Prop
 |[],l,k=>k l
 | n::r,l,k=>match w6 n l with
   |true=>a3t r l k
   |false=>a3t r (n::l) k
def a9O (n:Nat):List (Nat×Base)->(List (Nat×Base)->Prop)->Prop
 |[],k=>k []
 | (t,b)::l,k=>a9O n l λl'=>match Nat.beq t n with
   |true=>k l'
   |false=>k ((t,b)::l')
def b2m (d:Option Nat)(L:List (Nat×Base))(k:List (Nat×Base)->Prop):Prop:=
 match d with
 |none=>k L
 |some t=>a9O t L k
def rfF (c:Nat)(b:Bool)(f:Fl):Fl:=
 match f.dst with
 | some t=>match Nat.beq t c with
   |true=>⟨f.i,f.dst, .d (.bl b),f.keys,f.dep⟩
   |false=>f
 |none=>f
def b0E (c:Nat)(b:Bool):List Fl->(List Fl->Prop)->Prop
 |[],k=>k []
 | f ::F,k=>b0E c b F λF=>match f.dst with
   | some t=>match Nat.beq t c with
     |true=>k (⟨f.i,f.dst, .d (.bl b),f.keys,f.dep⟩::F)
     |false=>k (f::F)
   |none=>k (f::F)
def b4i (anc:List Nat):List Fl->(List Fl->List Fl->Prop)->Prop
 |[],k=>k [] []
 | f::F,k=>b4i anc F λM F=>match w6 f.i anc with
   |true=>k (f::M) F
   |false=>k M (f::F)
def b2V:List Fl->List Nat->(List Nat->Prop)->Prop
 |[],l,k=>k l
 |f::F,l,k=>a3t f.keys l λl=>b2V F l k
def a9L:List Fl->List Nat->(List Nat->Prop)->Prop
 |[],l,k=>k l
 |f::F,l,k=>a3t f.dep l λl=>a9L F l k
noncomputable def b0V (O O':List (Nat×Blk)):List Nat->Prop->Prop
 |[],k=>k
 |n::r,k=>d7 n O'=d7 n O/\b0V O O' r k
def eqB (b w:Bool):Bool:=match b,w with|true,true=>true|false,false=>true|true,false=>false|false,true=>false
def a7s (l m:List Nat):Bool:=l.all λn=>w6 n m
noncomputable def b3l (F:List Fl)(L:List (Nat×Base)):Bool:=F.all λf=>match f.dst with
 |none=>true
 |some t=>match d7 t L with|none=>true|some _=>false
noncomputable def gd1 (w:Bool)(b:Base)(F:List Fl)(st:SSt)(set:Bool->(List Fl->SSt->Prop)->Prop)(k:Bool->List Fl->SSt->Prop):Prop:=
 match b with
 | .d (.bl b)=>match eqB b w with
   |true=>k true F st
   |false=>k false F st
 | .d (.v (.bool b))=>(b=true->set true λF st=>match w with|true=>k true F st|false=>k false F st)/\(b=false->set false λF st=>match w with|true=>k false F st|false=>k true F st)
 | .d (.tup [])=>k false F st
 |_=>False
noncomputable def b4P (ops:Array Oper)(g:Option (Nat×Bool))(F:List Fl)(st:SSt)(k:Bool->List Fl->SSt->Prop):Prop:=
 match g with
 |none=>k true F st
 | some (j,w)=>match(ops[j]?).bind (·.dst) with
   |none=>False
   | some c=>match d7 c (L5 F []) with
     |some b=>gd1 w b F st (λx k=>b0E c x F λF=>k F st) k
     | none=>match d7 c st.L with
       |some b=>gd1 w b F st (λx k=>k F (put st (some c) (.d (.bl x)))) k
       |none=>False
noncomputable def vcD (P:Program)(T:List (Nat×TI))(N:Nat)(cf:Cfg)(ops:Array Oper)(kp:D->SSt->Prop):List Stp->List Fl->SSt->(SSt->Prop)->Prop
 |[],F,st,k=>a4v F st.L λL=>k ⟨L,st.O,st.pins⟩
 | .p i ::r,F,st,k=>match ops[i]? with
   |none=>False
   | some o=>match(match o.dst with|some d=>Nat.blt d N|none=>true) with
     |false=>False
     | true=>b4P ops o.guard F st λrun F st=>match run with
       |false=>b2m o.dst st.L λL=>b2A o.dst λd=>a2N ⟨L,st.O,st.pins⟩ λst=>vcD P T N cf ops kp r (⟨i,d, .d (.tup []),[],[]⟩::F) st k
       | true=>Q9 ⟨L5 F st.L,[],[]⟩ o.op.operands.toList λbs=>vcV T cf st.O o.op bs λb=>a4J b λb=>a3t (bs.flatMap A7) (A7 b) λks=>a3t (a1H T st.O o.op bs) [] λdp=>
         b2m o.dst st.L λL=>b2A o.dst λd=>a2N ⟨L,st.O,st.pins⟩ λst=>vcD P T N cf ops kp r (⟨i,d,b,ks,dp⟩::F) st k
 | .s i anc::r,F,st,k=>match ops[i]? with
   |none=>False
   | some o=>b4i anc F λM F=>a4v M st.L λL=>b2V F st.pins λps=>
     a6L P T N cf ops o ⟨L,st.O,ps⟩ (λst2=>match a7s ps st2.pins&&b3l F st2.L with
      |true=>a9L F [] λdp=>b0V st.O st2.O dp (a2N ⟨st2.L,st2.O,st.pins⟩ λst3=>vcD P T N cf ops kp r F st3 k)
      |false=>False) (λd st2=>match a7s st.pins st2.pins with
      |true=>kp d ⟨st2.L,st2.O,st.pins⟩
      |false=>False)
section
theorem b5Q:∀(F:List Fl) (L:List (Nat×Base)) (k:List (Nat×Base)->Prop),a4v F L k=k (L5 F L):=by
 intro F;induction F with
 |nil=>intro L k;rfl
 | cons f F ih=>
   intro L k;obtain⟨i,d,b,ks,dp⟩:=f;cases d<;>simp only[a4v,ih,L5]
theorem d0V (c:Nat)(b:Bool):∀(F:List Fl) (k:List Fl->Prop),b0E c b F k=k (F.map (rfF c b)):=by
 intro F;induction F with
 |nil=>intro k;rfl
 | cons f F ih=>
   intro k;simp only[b0E,ih,o5,rfF];cases f.dst with
   |none=>rfl
   |some t=>dsimp only;cases Nat.beq t c<;>rfl
theorem a9q:∀(m:List Nat) {l:List Nat} {k:List Nat->Prop},a3t m l k->∃l',k l'/\(∀n∈m,n∈l')/\∀n∈l,n∈l':=by
 intro m;induction m with
 |nil=>intro l k h;exact⟨l,h,by simp,λn h=>h⟩
 | cons x m ih=>
   intro l k h;simp only[a3t] at h;split at h
   . rename_i hm;obtain⟨l',h1,h2,h3⟩:=ih h;refine⟨l',h1,λn hn=>?_,h3⟩;rcases p8.1 hn with rfl|hn
     . exact h3 n (memB_mem.1 hm)
     . exact h2 n hn
   . obtain⟨l',h1,h2,h3⟩:=ih h;refine⟨l',h1,λn hn=>?_,λn hn=>h3 n (r6 _ hn)⟩;rcases p8.1 hn with rfl|hn
     . exact h3 n (A9 ..)
     . exact h2 n hn
theorem c7M:∀(F:List Fl) {l:List Nat} {k:List Nat->Prop},b2V F l k->∃l',k l'/\(∀f∈F,∀n∈f.keys,n∈l')/\∀n∈l,n∈l':=by
 intro F;induction F with
 |nil=>intro l k h;exact⟨l,h,by simp,λn h=>h⟩
 | cons f F ih=>
   intro l k h;obtain⟨l1,h,h1,h2⟩:=a9q _ h;obtain⟨l',h3,h4,h5⟩:=ih h;refine⟨l',h3,λg hg n hn=>?_,λn hn=>h5 n (h2 n hn)⟩;rcases p8.1 hg with rfl|hg
   . exact h5 n (h1 n hn)
   . exact h4 g hg n hn
theorem c5q:∀(F:List Fl) {l:List Nat} {k:List Nat->Prop},a9L F l k->∃l',k l'/\(∀f∈F,∀n∈f.dep,n∈l')/\∀n∈l,n∈l':=by
 intro F;induction F with
 |nil=>intro l k h;exact⟨l,h,by simp,λn h=>h⟩
 | cons f F ih=>
   intro l k h;obtain⟨l1,h,h1,h2⟩:=a9q _ h;obtain⟨l',h3,h4,h5⟩:=ih h;refine⟨l',h3,λg hg n hn=>?_,λn hn=>h5 n (h2 n hn)⟩;rcases p8.1 hg with rfl|hg
   . exact h5 n (h1 n hn)
   . exact h4 g hg n hn
theorem d2y {anc:List Nat}:∀(F:List Fl) {k:List Fl->List Fl->Prop},b4i anc F k->∃M F',k M F'/\(∀f∈M,f∈F/\f.i∈anc)/\(∀f∈F',f∈F)/\∀f∈F,f∈M\/f∈F':=by
 intro F;induction F with
 |nil=>intro k h;exact⟨[],[],h,by simp,by simp,by simp⟩
 | cons f F ih=>
   intro k h;obtain⟨M,F',h,h1,h2,h3⟩:=ih h;split at h
   . rename_i hm;refine⟨_,_,h,λg hg=>?_,λg hg=>r6 _ (h2 g hg),λg hg=>?_⟩
     . rcases p8.1 hg with rfl|hg
       . exact⟨A9 ..,memB_mem.1 hm⟩
       . exact⟨r6 _ (h1 g hg).1,(h1 g hg).2⟩
     . rcases p8.1 hg with rfl|hg
       . exact .inl (A9 ..)
       . exact(h3 g hg).imp (r6 _) id
   . refine ⟨_,_,h,λg hg=>⟨r6 _ (h1 g hg).1,(h1 g hg).2⟩,λg hg=>?_,λg hg=>?_⟩
     . rcases p8.1 hg with rfl|hg
       . exact A9 ..
       . exact r6 _ (h2 g hg)
     . rcases p8.1 hg with rfl|hg
       . exact .inr (A9 ..)
       . exact(h3 g hg).imp id (r6 _)
theorem c5K {n:Nat}:∀{l:List (Nat×Base)} {k:List (Nat×Base)->Prop},a9O n l k->∃l',k l'/\∀t b,d7 t l'=some b->t≠n/\d7 t l=some b:=by
 intro l;induction l with
 |nil=>intro k h;exact⟨[],h,λt b h=>by rw[r7] at h;cases h⟩
 | cons p l ih=>
   obtain⟨d,y⟩:=p;intro k h;simp only[a9O] at h;obtain⟨l',h,hl⟩:=ih h;split at h
   . rename_i hdn;have hdn:=t7 hdn;refine⟨l',h,λt b hb=>?_⟩;obtain⟨h1,h2⟩:=hl t b hb;exact⟨h1,by rw[p5 (λe=>h1 (by rw[<-e,hdn]))];exact h2⟩
   . rename_i hdn;have hdn:=a3y hdn;refine⟨_,h,λt b hb=>?_⟩;by_cases e:d=t
     . subst e;rw[w9] at hb;cases hb;exact⟨hdn,w9 ..⟩
     . rw[p5 e] at hb;rw[p5 e];exact hl t b hb
theorem b7d {d:Option Nat}{l:List (Nat×Base)}{k:List (Nat×Base)->Prop}(h:b2m d l k):∃l',k l'/\∀t b,d7 t l'=some b->d≠some t/\d7 t l=some b:=by
 cases d with
 |none=>exact⟨l,h,λt b hb=>⟨by simp,hb⟩⟩
 | some n=>
   obtain⟨l',h1,h2⟩:=c5K h;exact⟨l',h1,λt b hb=>⟨λe=>(h2 t b hb).1 (by cases e;rfl),(h2 t b hb).2⟩⟩
theorem d2C {O O':List (Nat×Blk)}:∀(l:List Nat) {k:Prop},b0V O O' l k->k/\∀n∈l,d7 n O'=d7 n O:=by
 intro l;induction l with
 |nil=>intro k h;exact⟨h,by simp⟩
 | cons n l ih=>
   intro k h;obtain⟨h1,h2⟩:=h;obtain⟨h3,h4⟩:=ih h2;refine⟨h3,λm hm=>?_⟩;rcases p8.1 hm with rfl|hm
   . exact h1
   . exact h4 m hm
theorem a8c {t:Nat}{b:Base}:∀{F:List Fl} {L:List (Nat×Base)},d7 t (L5 F L)=some b->(∃f∈F,f.dst=some t/\f.b=b)\/((∀f∈F,f.dst≠some t)/\d7 t L=some b):=by
 intro F;induction F with
 |nil=>intro L h;exact .inr ⟨by simp,h⟩
 | cons f F ih=>
   intro L h;have up:d7 t (L5 F L)=some b->f.dst≠some t->(∃g∈f::F,g.dst=some t/\g.b=b)\/((∀g∈f::F,g.dst≠some t)/\d7 t L=some b):=by
    intro h hne;rcases ih h with⟨g,hg,h1⟩|⟨h1,h2⟩
    . exact .inl ⟨g,r6 _ hg,h1⟩
    . refine .inr ⟨λg hg=>?_,h2⟩;rcases p8.1 hg with rfl|hg
      . exact hne
      . exact h1 g hg
   obtain⟨i,d,b',ks,dp⟩:=f;cases d with
   | some d=>
     simp only[L5] at h;by_cases e:d=t
     . subst e;rw[w9] at h;cases h;exact .inl ⟨_,A9 ..,rfl,rfl⟩
     . rw[p5 e] at h;exact up h (by simpa using e)
   | none=>
     simp only[L5] at h;exact up h (by simp)
theorem b5S {l m:List Nat}(h:a7s l m=true):∀n∈l,n∈m:=λn hn=>memB_mem.1 (n7.1 h n hn)
theorem c9C {F:List Fl}{L:List (Nat×Base)}(h:b3l F L=true):∀f∈F,∀t,f.dst=some t->d7 t L=none:=by
 intro f hf t ht;have:=n7.1 h f hf;simp only[ht] at this;split at this
 . assumption
 . cases this
theorem onB_iff {o:Oper}{j:Nat}:onB o j=true↔∃e∈o.after,Region.binds .any e=true/\e.on=j:=by
 simp only[onB,N9,f0,Array.mem_toList_iff];constructor
 . rintro⟨e,h1,h2,h3⟩;exact⟨e,h1,h2,t7 h3⟩
 . rintro⟨e,h1,h2,rfl⟩;exact⟨e,h1,h2,Z3 _⟩
end
structure Static (ops:Array Oper):Prop where
 back:∀(i:Nat) o,ops[i]?=some o->∀e∈o.after,Region.binds .any e=true->e.on<i
 one:∀(i j:Nat) o w t,ops[i]?=some o->ops[j]?=some w->i≠j->w.dst=some t->o.dst≠some t
 meet:∀(i j:Nat) o w t,ops[i]?=some o->ops[j]?=some w->i≠j->w.dst=some t->t∈o.looksAt ops->onB o j=true\/onB w i=true
theorem d2D {ops:Array Oper}(h:b4m ops=true):Static ops:=by
 have lt:∀{i:Nat} {o:Oper},ops[i]?=some o->i∈List.range ops.size:=λho=>a5F.2 (a1y.1 ho).1;have key:∀(i:Nat) o,ops[i]?=some o->(o.after.toList.all λe=> !Region.binds .any e||Nat.blt e.on i)=true/\∀(j:Nat) w,ops[j]?=some w->b3q ops i j o w=true:=by
  intro i o ho;have h1:=n7.1 h i (lt ho);simp only[ho,f0] at h1;refine⟨h1.1,λj w hw=>?_⟩;have h2:=n7.1 h1.2 j (lt hw);simpa only[hw] using h2
 have pr:∀(i j:Nat) o w t,ops[i]?=some o->ops[j]?=some w->i≠j->w.dst=some t->o.dst≠some t/\(t∈o.looksAt ops->onB o j=true\/onB w i=true):=by
  intro i j o w t ho hw hne ht;have h1:=(key i o ho).2 j w hw;have hb:Nat.beq i j=false:=by
   cases hb:Nat.beq i j with
   |false=>rfl
   |true=>exact absurd (t7 hb) hne
  simp only[b3q,hb,ht,f0,C0,a3d] at h1;refine⟨λe=>?_,λhm=>?_⟩
  . have h2:=h1.1;rw[e] at h2;simp only[Z3] at h2;cases h2
  . rcases h1.2 with h2|h2
    . rw[memB_mem.2 hm] at h2;cases h2
    . exact h2
 refine⟨λi o ho e he hb=>?_,λi j o w t a b c d=>(pr i j o w t a b c d).1,λi j o w t a b c d=>(pr i j o w t a b c d).2⟩;have h1:=n7.1 (key i o ho).1 e (by simpa using he);simp only[hb,Bool.not_true,Bool.false_or] at h1;exact X2 h1
theorem rdy_run {ops:Array Oper}{lc:List Nat}{i:Nat}:a4Y ops lc i=true↔i∉lc/\∃o,ops[i]?=some o/\∀e∈o.after,Region.binds .any e=true->e.on∈lc:=by
 unfold a4Y;rw[f0,a3d];have hm:w6 i lc=false↔i∉lc:=by rw[<-memB_mem];simp
 rw[hm];refine and_congr_right λ_=>?_;cases ho:ops[i]? with
 |none=>simp
 | some o=>
   simp only[H0,exists_eq_left',n7,Array.mem_toList_iff,C0,a3d];constructor
   . intro h e he hb;rcases h e he with h|h
     . rw[hb] at h;cases h
     . exact memB_mem.1 h
   . intro h e he;cases hb:Region.binds .any e with
     |false=>exact .inl rfl
     |true=>exact .inr (memB_mem.2 (h e he hb))
def b5i (P:Program)(ops:Array Oper)(O:List (Nat×Blk))(f:Fl)(need:List (Operand×Base)):Prop:=
 ∀ (γ:Gm) (V:Know) (W:World) (O':List (Nat×Blk)) (a:Act),N8 O O' f.dep->Sees V W->A2 γ V W O'->(∀p∈need,RVb γ V p.2 (a.eval p.1))->
   ∃v V' W',Grow V W V' W'/\RVb γ V' f.b v/\∀(C:Cx) (K:Act->World->Prop) (Q:Exit->Act->World->Prop),K (a.put f.dst v) W'->wpOpIn (fen C) 0 P ops Q f.i K a W
def a5H (ops:Array Oper)(γ:Gm)(V:Know)(a:Act)(F:List Fl)(l:Array Bool)(f:Fl)(p:Operand×Base):Prop:=
 (∃g∈F,∃t o,p.1= .tmp t/\g.dst=some t/\ops[f.i]?=some o/\onB o g.i=true/\∀γ V v,RVb γ V g.b v->RVb γ V p.2 v)\/
 (RVb γ V p.2 (a.eval p.1)/\∀t,p.1= .tmp t->∀j w,ops[j]?=some w->w.dst=some t->l.getD j false=true\/j=f.i\/onB w f.i=true)
structure Inv (P:Program) (ops:Array Oper) (C:Cx) (γ:Gm) (V:Know) (a:Act) (W:World) (lc:List Nat) (l:Array Bool) (F:List Fl) (st:SSt):Prop where
 rel:Rel C γ st V a W
 size:l.size=ops.size
 sub:∀j,l.getD j false=true->j∈lc
 lcs:∀j∈lc,j<ops.size
 cov:∀j∈lc,l.getD j false=true\/∃f∈F,f.i=j
 closed:∀j o,l.getD j false=true->ops[j]?=some o->∀e∈o.after,Region.binds .any e=true->l.getD e.on false=true
 inF:∀f∈F,f.i∈lc/\∃o,ops[f.i]?=some o/\o.dst=f.dst/\∀e∈o.after,Region.binds .any e=true->e.on∈lc
 uniq:∀f∈F,∀g∈F,f.i=g.i->f=g
 noL:∀f∈F,∀t,f.dst=some t->d7 t st.L=none
 dN:∀f∈F,∀t,f.dst=some t->t<C.N
 val:∀f∈F,l.getD f.i false=true->∀t,f.dst=some t->RVb γ V f.b (a.tmps.getD t undef)
 able:∀f∈F,∃need,b5i P ops st.O f need/\(∀p∈need,∀n,F6 n p.2=true->n∈f.keys)/\(l.getD f.i false=false->∀p∈need,a5H ops γ V a F l f p)
 keys:∀f∈F,∀n,F6 n f.b=true->n∈f.keys
section
variable {P:Program} {T:List (Nat×TI)} {cf:Cfg} {ops:Array Oper} {C:Cx} {γ:Gm} {V:Know} {a:Act} {W:World} {lc:List Nat} {l:Array Bool} {F:List Fl} {st:SSt} {Q:Exit->Act->World->Prop}
theorem b3a {j:Nat}(h:l.getD j true=false):l.getD j false=false/\j<l.size:=by
 have hj:j<l.size:=by
  rcases C5 j l.size with h'|h'
  . exact h'
  . simp[a6S h'] at h
 refine⟨?_,hj⟩;simp only[a2i,Array.getElem?_eq_getElem hj,Option.getD_some] at h⊢;exact h
theorem b8A {j:Nat}(h:l.getD j false=false)(hj:j<l.size):l.getD j true=false:=by
 simp only[a2i,Array.getElem?_eq_getElem hj,Option.getD_some] at h⊢;exact h
theorem a6l {i j:Nat}(h:(l.setIfInBounds i true).getD j false=true):j=i\/l.getD j false=true:=by
 by_cases e:i=j
 . exact .inl e.symm
 . rw[getD_set_ne false e] at h;exact .inr h
theorem b3b {i:Nat}(hi:i<l.size):(l.setIfInBounds i true).getD i false=true:=by simp[hi]
theorem a0G {i j:Nat}(h:l.getD j false=true):(l.setIfInBounds i true).getD j false=true:=getD_set_true h
theorem b8B {i j:Nat}(h:(l.setIfInBounds i true).getD j false=false):l.getD j false=false:=by
 cases hl:l.getD j false with
 |false=>rfl
 |true=>rw[a0G hl] at h;cases h
theorem c6f {d:Option Nat}{v:Value}{x:Operand}(hd:∀t,d=some t->t<a.tmps.size)(h:∀t,x= .tmp t->d≠some t):(a.put d v).eval x=a.eval x:=by
 cases x with
 | tmp t=>
   cases d with
   |none=>rfl
   | some d=>
     show(a.put (some d) v).tmps.getD t undef=a.tmps.getD t undef;rw[a8r (hd d rfl),c8 (λe=>h t rfl (by rw[e]))]
 |_=>cases d<;>rfl
theorem d1f (hr:Rel C γ st V a W){d:Option Nat}(hd:∀t,d=some t->t<C.N)(hn:∀t,d=some t->d7 t st.L=none)(v:Value):Rel C γ st V (a.put d v) W:=by
 refine {hr with size:=by rw[put_size];exact hr.size,defers:=hr.defers.keep b9B λ_ h=>h,slots:=λt b hl=>?_};cases d with
 |none=>exact hr.slots t b hl
 | some d=>
   rw[a8r (by rw[hr.size];exact hd d rfl)];by_cases e:t=d
   . subst e;rw[hn t rfl] at hl;cases hl
   . rw[c8 e];exact hr.slots t b hl
theorem b8a (hs:Static ops)(h:Inv P ops C γ V a W lc l F st){f:Fl}(hf:f∈F)(hul:l.getD f.i false=false)
 (hrdy:∀o,ops[f.i]?=some o->∀e∈o.after,Region.binds .any e=true->l.getD e.on false=true):
 ∃v V' W',(∀(K:Act->World->Prop) (Q:Exit->Act->World->Prop),K (a.put f.dst v) W'->wpOpIn (fen C) 0 P ops Q f.i K a W)/\Inv P ops C γ V' (a.put f.dst v) W' lc (l.setIfInBounds f.i true) F st:=by
 obtain⟨need,hdo,hkeys,hneed⟩:=h.able f hf;obtain⟨hlc,o,ho,hod,hoa⟩:=h.inF f hf;have hlt:f.i<l.size:=by rw[h.size];exact(a1y.1 ho).1
 have hN:∀t,f.dst=some t->t<a.tmps.size:=λt ht=>by rw[h.rel.size];exact h.dN f hf t ht
 have hon:∀{j:Nat},onB o j=true->l.getD j false=true:=λhj=>by
  obtain⟨e,he,hb,rfl⟩:=onB_iff.1 hj;exact hrdy o ho e he hb
 obtain ⟨v,V',W',hg,hv,hrun⟩:=hdo γ V W st.O a (λ_ _=>rfl) h.rel.sees h.rel.own λp hp=>by
  rcases hneed hul p hp with⟨g,hg,t,o',e1,e2,e3,e4,e5⟩|⟨h1,_⟩
  . rw[ho] at e3;cases e3;rw[e1];exact e5 _ _ _ (h.val g hg (hon e4) t e2)
  . exact h1
 have hle:V.Le V':=hg.fresh.le;refine⟨v,V',W',hrun C,d1f (a1S h.rel hg) (h.dN f hf) (h.noL f hf) v,by simp[h.size],λj hj=>?_,h.lcs,λj hj=>?_,λj o' hj ho' e he hb=>?_,h.inF,h.uniq,h.noL,h.dN,λg hg' hgl t ht=>?_,λg hg'=>?_,h.keys⟩
 . rcases a6l hj with rfl|hj
   . exact hlc
   . exact h.sub j hj
 . exact(h.cov j hj).imp a0G id
 . rcases a6l hj with rfl|hj
   . exact a0G (hrdy o' ho' e he hb)
   . exact a0G (h.closed j o' hj ho' e he hb)
 . rcases a6l hgl with e|hgl
   . obtain rfl:=h.uniq g hg' f hf e;rw[ht,a8r (hN t ht),d4 rfl];exact hv
   . have hne:g.i≠f.i:=λe=>by rw[e,hul] at hgl;cases hgl
     obtain⟨_,og,hog,hogd,_⟩:=h.inF g hg';have:=(h.val g hg' hgl t ht).mono hle;cases hfd:f.dst with
     |none=>exact this
     | some d=>
       rw[a8r (hN d hfd),c8 (λe=>?_)]
       . exact this
       . subst e;exact hs.one f.i g.i o og t ho hog (Ne.symm hne) (hogd.trans ht) (hod.trans hfd)
 . obtain ⟨need',h1,h2,h3⟩:=h.able g hg';refine⟨need',h1,h2,λhgu p hp=>?_⟩;have hgu':=b8B hgu;have hne:g.i≠f.i:=λe=>by rw[e,b3b hlt] at hgu;cases hgu
   rcases h3 hgu' p hp with h4|⟨h4,h5⟩
   . exact .inl h4
   . refine .inr ⟨?_,λt ht j w hw hwd=>(h5 t ht j w hw hwd).imp a0G id⟩;rw[c6f hN (λt ht hd=>?_)]
     . exact h4.mono hle
     . rcases h5 t ht f.i o ho (hod.trans hd) with h6|h6|h6
       . rw[hul] at h6;cases h6
       . exact hne h6.symm
       . rw[hon h6] at hgu';cases hgu'
theorem c7s (hs:Static ops)(h:Inv P ops C γ V a W lc l F st):∃V' a' W' l',Inv P ops C γ V' a' W' lc l' F st/\∀f∈F,l'.getD f.i false=true:=by
 have key:∀n,∃V' a' W' l',Inv P ops C γ V' a' W' lc l' F st/\∀f∈F,f.i<n->l'.getD f.i false=true:=by
  intro n;induction n with
  |zero=>exact⟨V,a,W,l,h,λf hf hn=>absurd hn (Nat.not_lt_zero _)⟩
  | succ n ih=>
    obtain⟨V',a',W',l',h',hl⟩:=ih;by_cases hex:∃f∈F,f.i=n/\l'.getD f.i false=false
    . obtain ⟨f,hf,hfi,hul⟩:=hex;obtain⟨v,V2,W2,_,h2⟩:=b8a hs h' hf hul λo ho e he hb=>by
       obtain⟨_,o',ho',_,hoa⟩:=h'.inF f hf;rw[ho] at ho';cases ho';have hlt:=hs.back f.i o ho e he hb;rcases h'.cov e.on (hoa e he hb) with h3|⟨g,hg,hgi⟩
       . exact h3
       . rw[<-hgi];exact hl g hg (by omega)
      refine⟨V2,_,W2,_,h2,λg hg hn=>?_⟩;by_cases e:g.i=f.i
      . have hlt:f.i<l'.size:=by
         obtain⟨_,o',ho',_⟩:=h'.inF f hf;rw[h'.size];exact(a1y.1 ho').1
        rw[e];exact b3b hlt
      . exact a0G (hl g hg (by omega))
    . refine ⟨V',a',W',l',h',λg hg hn=>?_⟩;by_cases e:g.i=n
      . cases hgl:l'.getD g.i false with
        |true=>rfl
        |false=>exact absurd ⟨g,hg,e,hgl⟩ hex
      . exact hl g hg (by omega)
 obtain⟨V',a',W',l',h',hl⟩:=key ops.size;refine⟨V',a',W',l',h',λf hf=>hl f hf (h'.lcs _ (h'.inF f hf).1)⟩
theorem c7t (hs:Static ops)(h:Inv P ops C γ V a W lc l F st)(hr:Region.ready .any ops l=[]):∀f∈F,l.getD f.i false=true:=by
 have key:∀n,∀f∈F,f.i<n->l.getD f.i false=true:=by
  intro n;induction n with
  |zero=>intro f hf hn;exact absurd hn (Nat.not_lt_zero _)
  | succ n ih=>
    intro f hf hn;cases hgl:l.getD f.i false with
    |true=>rfl
    | false=>
      obtain⟨_,o,ho,_,hoa⟩:=h.inF f hf;have hlt:f.i<l.size:=by rw[h.size];exact(a1y.1 ho).1
      have:f.i∈Region.ready .any ops l:=mem_ready.2 ⟨b8A hgl hlt,o,ho,λe he hb=>by
       have hlt:=hs.back f.i o ho e he hb;rcases h.cov e.on (hoa e he hb) with h3|⟨g,hg,hgi⟩
       . exact h3
       . rw[<-hgi];exact ih g hg (by omega)⟩
      rw[hr] at this;cases this
 exact λf hf=>key ops.size f hf (h.lcs _ (h.inF f hf).1)
theorem b7k (h:Inv P ops C γ V a W lc l F st)(hl:∀f∈F,l.getD f.i false=true):∀t b,d7 t (L5 F st.L)=some b->RVb γ V b (a.tmps.getD t undef):=by
 intro t b hb;rcases a8c hb with⟨f,hf,h1,rfl⟩|⟨_,h1⟩
 . exact h.val f hf (hl f hf) t h1
 . exact h.rel.slots t b h1
end
section
variable {P:Program} {T:List (Nat×TI)} {cf:Cfg} {ops:Array Oper} {C:Cx} {γ:Gm} {V:Know} {a:Act} {W:World} {lc:List Nat} {l:Array Bool} {F:List Fl} {st:SSt} {Q:Exit->Act->World->Prop}
theorem a1T (c:Nat)(b:Bool)(f:Fl):(rfF c b f).i=f.i:=by unfold rfF;split<;>(try split)<;>rfl
theorem a3R (c:Nat)(b:Bool)(f:Fl):(rfF c b f).dst=f.dst:=by unfold rfF;split<;>(try split)<;>rfl
theorem b9P (c:Nat)(b:Bool)(f:Fl):(rfF c b f).keys=f.keys:=by unfold rfF;split<;>(try split)<;>rfl
theorem d1l (c:Nat)(b:Bool)(f:Fl):(rfF c b f).dep=f.dep:=by unfold rfF;split<;>(try split)<;>rfl
theorem b3K {c:Nat}{b:Bool}{f:Fl}(h:f.dst=some c):(rfF c b f).b= .d (.bl b):=by simp[rfF,h,Z3]
theorem b9Q {c:Nat}{b:Bool}{f:Fl}(h:f.dst≠some c):rfF c b f=f:=by
 unfold rfF;split
 . rename_i t ht;split
   . rename_i e;exact absurd (by rw[ht,t7 e]) h
   . rfl
 . rfl
theorem bool_iff {x:Bool}{v:Value}:RVb γ V (.d (.bl x)) v↔RVb γ V (.d (.v (.bool x))) v:=by
 constructor
 . intro h;rw[Rep.bl_b h];exact .b _
 . intro h;rw[(Rep.v_inv h).1];exact .bl _
theorem c7v (h:Inv P ops C γ V a W lc l F st){c:Nat}{x:Bool}(hc:∀f∈F,f.dst=some c->f.b= .d (.v (.bool x))):Inv P ops C γ V a W lc l (F.map (rfF c x)) st:=by
 have hb:∀f∈F,∀γ V v,RVb γ V (rfF c x f).b v↔RVb γ V f.b v:=by
  intro f hf γ V v;by_cases e:f.dst=some c
  . rw[b3K e,hc f hf e];exact bool_iff
  . rw[b9Q e]
 have un:∀{f:Fl},f∈F.map (rfF c x)->∃g∈F,f=rfF c x g:=λhf=>by
  obtain⟨g,hg,rfl⟩:=v6.1 hf;exact⟨g,hg,rfl⟩
 refine⟨h.rel,h.size,h.sub,h.lcs,λj hj=>?_,h.closed,λf hf=>?_,λf hf g hg e=>?_,λf hf=>?_,λf hf=>?_,λf hf=>?_,λf hf=>?_,λf hf n hn=>?_⟩
 . rcases h.cov j hj with h1|⟨f,hf,rfl⟩
   . exact .inl h1
   . exact .inr ⟨_,List.mem_map_of_mem hf,a1T ..⟩
 . obtain⟨g,hg,rfl⟩:=un hf;rw[a1T,a3R];exact h.inF g hg
 . obtain⟨f',hf',rfl⟩:=un hf;obtain⟨g',hg',rfl⟩:=un hg;rw[a1T,a1T] at e;rw[h.uniq f' hf' g' hg' e]
 . obtain⟨g,hg,rfl⟩:=un hf;rw[a3R];exact h.noL g hg
 . obtain⟨g,hg,rfl⟩:=un hf;rw[a3R];exact h.dN g hg
 . obtain⟨g,hg,rfl⟩:=un hf;rw[a1T,a3R];exact λhl t ht=>(hb g hg _ _ _).2 (h.val g hg hl t ht)
 . obtain ⟨g,hg,rfl⟩:=un hf;rw[a1T,b9P];obtain⟨need,h1,h2,h3⟩:=h.able g hg;refine⟨need,λγ V W O' a hag hs ho hn=>?_,h2,λhl p hp=>?_⟩
   . rw[d1l] at hag;obtain⟨v,V',W',e1,e2,e3⟩:=h1 γ V W O' a hag hs ho hn;rw[a3R,a1T];exact⟨v,V',W',e1,(hb g hg _ _ _).2 e2,e3⟩
   . rcases h3 hl p hp with⟨f',hf',t,o,e1,e2,e3,e4,e5⟩|⟨e1,e2⟩
     . refine .inl ⟨_,List.mem_map_of_mem hf',t,o,e1,by rw[a3R];exact e2,by rw[a1T];exact e3,by rw[a1T];exact e4,λγ V v hv=>e5 γ V v ((hb f' hf' _ _ _).1 hv)⟩
     . refine .inr ⟨e1,λt ht j w hw hwd=>?_⟩;rw[a1T];exact e2 t ht j w hw hwd
 . obtain⟨g,hg,rfl⟩:=un hf;rw[b9P];by_cases e:g.dst=some c
   . rw[b3K e] at hn;cases hn
   . rw[b9Q e] at hn;exact h.keys g hg n hn
theorem a8d {c:Nat}:∀{F:List Fl} {L:List (Nat×Base)},(∃f∈F,f.dst=some c)->∃f∈F,f.dst=some c/\d7 c (L5 F L)=some f.b:=by
 intro F;induction F with
 |nil=>rintro L ⟨f,hf,_⟩;cases hf
 | cons f F ih=>
   rintro L ⟨g,hg,hgd⟩;by_cases e:f.dst=some c
   . refine⟨f,A9 ..,e,?_⟩;obtain⟨i,d,b,ks,dp⟩:=f;cases e;exact w9 ..
   . have hg':g∈F:=by
      rcases p8.1 hg with rfl|hg
      . exact absurd hgd e
      . exact hg
     obtain⟨f',hf',h1,h2⟩:=ih (L:=L) ⟨g,hg',hgd⟩;refine⟨f',r6 _ hf',h1,?_⟩;obtain⟨i,d,b,ks,dp⟩:=f;cases d with
     |some d=>simp only[L5];rw[p5 (λe'=>e (by rw[e']))];exact h2
     |none=>exact h2
theorem b8F {c:Nat}{F:List Fl}{L:List (Nat×Base)}(h:∀f∈F,f.dst≠some c):d7 c (L5 F L)=d7 c L:=by
 induction F with
 |nil=>rfl
 | cons f F ih=>
   have ih:=ih λg hg=>h g (r6 _ hg);have e:=h f (A9 ..);obtain⟨i,d,b,ks,dp⟩:=f;cases d with
   |some d=>simp only[L5];rw[p5 (λe'=>e (by rw[e']))];exact ih
   |none=>exact ih
def a7b (w:Bool)(b:Base)(r:Bool):Prop:=(∀n,F6 n b=false)/\∀γ V v,RVb γ V b v->(v= .bool w↔r=true)
theorem b7N (w x:Bool):a7b w (.d (.bl x)) (eqB x w):=by
 refine⟨λn=>rfl,λγ V v hv=>?_⟩;rw[Rep.bl_b hv];cases x<;>cases w<;>simp[eqB]
theorem b7M {w:Bool}{b:Base}{set:Bool->(List Fl->SSt->Prop)->Prop}{k:Bool->List Fl->SSt->Prop}(h:gd1 w b F st set k):
 (∃r,k r F st/\a7b w b r)\/∃x r,b= .d (.v (.bool x))/\set x (λF st=>k r F st)/\a7b w (.d (.bl x)) r:=by
 unfold gd1 at h;split at h
 . rename_i x;refine .inl ⟨eqB x w,?_,b7N w x⟩;revert h;cases eqB x w<;>exact id
 . rename_i x;refine .inr ⟨x,eqB x w,rfl,?_,b7N w x⟩;cases x
   . have:=h.2 rfl;cases w<;>exact this
   . have:=h.1 rfl;cases w<;>exact this
 . refine .inl ⟨false,h,λn=>rfl,λγ V v hv=>?_⟩;obtain⟨us,rfl,_⟩:=Rep.tup_inv hv;simp
 . exact h.elim
def c1Z (ops:Array Oper)(lk:Nat->Option Base)(g:Option (Nat×Bool))(r:Bool):Prop:=
 match g with
 |none=>r=true
 |some (j,w)=>∃c b,(ops[j]?).bind (·.dst)=some c/\lk c=some b/\a7b w b r
theorem d4N (hs:Static ops)(h:Inv P ops C γ V a W lc l F st){g:Option (Nat×Bool)}{k:Bool->List Fl->SSt->Prop}(hv:b4P ops g F st k):
 ∃r F' st',k r F' st'/\Inv P ops C γ V a W lc l F' st'/\c1Z ops (λc=>d7 c (L5 F' st'.L)) g r:=by
 cases g with
 |none=>exact⟨true,F,st,hv,h,rfl⟩
 |some q=>
 obtain⟨j,w⟩:=q;simp only[b4P] at hv;cases hc:(ops[j]?).bind (·.dst) with
 |none=>rw[hc] at hv;exact hv.elim
 |some c=>
 rw[hc] at hv;simp only at hv;show ∃r F' st',k r F' st'/\Inv P ops C γ V a W lc l F' st'/\∃c b,(ops[j]?).bind (·.dst)=some c/\d7 c (L5 F' st'.L)=some b/\a7b w b r;split at hv
 . rename_i b hb;have hlook:d7 c (L5 F st.L)=some b:=by
    rcases a8c hb with⟨f,hf,h1,h2⟩|⟨_,h1⟩
    . obtain⟨f',hf',h3,h4⟩:=a8d (L:=st.L) ⟨f,hf,h1⟩;obtain⟨f2,hf2,h5,h6⟩:=a8d (L:=([]:List (Nat×Base))) ⟨f,hf,h1⟩;have e:f'=f2:=by
       obtain⟨_,o,ho,hod,_⟩:=h.inF f' hf';obtain⟨_,o2,ho2,hod2,_⟩:=h.inF f2 hf2;by_cases e:f'.i=f2.i
       . exact h.uniq _ hf' _ hf2 e
       . exact absurd (hod.trans h3) (hs.one _ _ o o2 c ho ho2 e (hod2.trans h5))
      rw[h4,e,<-h6,hb]
    . rw[r7] at h1;cases h1
   rcases b7M hv with⟨r,h1,h2⟩|⟨x,r,rfl,h1,h2⟩
   . exact⟨r,F,st,h1,h,c,b,hc,hlook,h2⟩
   . rw [d0V] at h1;have hall:∀f∈F,f.dst=some c->f.b= .d (.v (.bool x)):=by
      intro f hf hfd;obtain⟨f',hf',h3,h4⟩:=a8d (L:=st.L) ⟨f,hf,hfd⟩;have e:f=f':=by
       obtain⟨_,o,ho,hod,_⟩:=h.inF f hf;obtain⟨_,o2,ho2,hod2,_⟩:=h.inF f' hf';by_cases e:f.i=f'.i
       . exact h.uniq _ hf _ hf' e
       . exact absurd (hod.trans hfd) (hs.one _ _ o o2 c ho ho2 e (hod2.trans h3))
      rw[hlook] at h4;rw[e];exact(U7 h4).symm
     refine⟨r,_,st,h1,c7v h hall,c,_,hc,?_,h2⟩;have hex:∃f∈F.map (rfF c x),f.dst=some c:=by
      rcases a8c hb with⟨f,hf,h3,_⟩|⟨_,h3⟩
      . exact⟨_,List.mem_map_of_mem hf,by rw[a3R];exact h3⟩
      . rw[r7] at h3;cases h3
     obtain⟨f',hf',h3,h4⟩:=a8d (L:=st.L) hex;obtain⟨g,hg,rfl⟩:=v6.1 hf';rw[a3R] at h3;rw[h4,b3K h3]
 . rename_i hnone;have hno:∀f∈F,f.dst≠some c:=by
    intro f hf e;obtain⟨f',_,_,h4⟩:=a8d (L:=([]:List (Nat×Base))) ⟨f,hf,e⟩;rw[hnone] at h4;cases h4
   split at hv
   case h_2=>exact hv.elim
   rename_i b hb;rcases b7M hv with⟨r,h1,h2⟩|⟨x,r,rfl,h1,h2⟩
   . exact⟨r,F,st,h1,h,c,b,hc,by rw[b8F hno];exact hb,h2⟩
   . refine ⟨r,F,_,h1,?_,c,_,hc,by rw[b8F hno];exact w9 ..,h2⟩;have hrel:Rel C γ (put st (some c) (.d (.bl x))) V a W:=by
      refine a0N h.rel (L':=(c, .d (.bl x))::st.L) (O':=st.O) (λt y hy=>?_) (λn y hy=>⟨h.rel.own n y hy,y,hy⟩);by_cases e:c=t
      . subst e;rw[w9] at hy;cases hy;exact bool_iff.2 (h.rel.slots c _ hb)
      . rw[p5 e] at hy;exact h.rel.slots t y hy
     have hnoL:∀f∈F,∀t,f.dst=some t->d7 t (put st (some c) (.d (.bl x))).L=none:=λf hf t ht=>by
      show d7 t ((c,_)::st.L)=none;rw[p5 (λe=>hno f hf (by rw[ht,e]))];exact h.noL f hf t ht
     exact {h with rel:=hrel,noL:=hnoL}
def a9a (L:List (Nat×Base))(x:Operand)(b:Base):Prop:=(∃t,x= .tmp t/\d7 t L=some b)\/((∀t,x≠ .tmp t)/\∀γ V (a:Act),RVb γ V b (a.eval x))
theorem c6V {st0:SSt}:∀(xs:List Operand) {k:List Base->Prop},Q9 st0 xs k->∃bs,k bs/\All2 (λx b=>a9a st0.L x b) xs bs:=by
 intro xs;induction xs with
 |nil=>intro k h;exact⟨[],h, .nil⟩
 | cons x xs ih=>
   intro k h;simp only[Q9] at h;have:∃b,Q9 st0 xs (λbs=>k (b::bs))/\a9a st0.L x b:=by
    cases x with
    |const v=>obtain⟨b,h1,h2⟩:=b6M (show a9F v (λb=>Q9 st0 xs λbs=>k (b::bs)) from h);exact⟨b,h1, .inr ⟨by simp,λγ V a=>h2 γ V⟩⟩
    |global g=>exact h.elim
    |func f=>exact⟨_,h, .inr ⟨by simp,λγ V a=>b7E V f⟩⟩
    | tmp t=>
      simp only[a1i] at h;split at h
      . rename_i b hb;exact⟨b,h, .inl ⟨t,rfl,hb⟩⟩
      . exact h.elim
   obtain⟨b,h1,h2⟩:=this;obtain⟨bs,h3,h4⟩:=ih h1;exact⟨b::bs,h3, .cons h2 h4⟩
theorem c8w {o:Oper}{t:Nat}(h:Operand.tmp t∈o.op.operands.toList):t∈o.looksAt ops:=by
 unfold Oper.looksAt;refine A8.2 (.inl (R6.2 ⟨_,h,rfl⟩))
theorem c8v {o:Oper}{j c:Nat}{w:Bool}(hg:o.guard=some (j,w))(hc:(ops[j]?).bind (·.dst)=some c):c∈o.looksAt ops:=by
 unfold Oper.looksAt;refine A8.2 (.inr ?_);simp[hg,hc]
theorem b8W (hs:Static ops)(h:Inv P ops C γ V a W lc l F st){i:Nat}{o:Oper}(ho:ops[i]?=some o)(hi:i∉lc)(hoa:∀e∈o.after,Region.binds .any e=true->e.on∈lc){f:Fl}(hf:f.i=i)
 {x:Operand} {b:Base} (hx:∀t,x= .tmp t->t∈o.looksAt ops) (hfr:a9a (L5 F st.L) x b):a5H ops γ V a F l f (x,b):=by
 rcases hfr with⟨t,rfl,hl⟩|⟨hne,hv⟩
 . have hin:∀{j:Nat},onB o j=true->j∈lc:=λhj=>by
    obtain⟨e,he,hb,rfl⟩:=onB_iff.1 hj;exact hoa e he hb
   rcases a8c hl with⟨g,hg,h1,rfl⟩|⟨hno,h1⟩
   . obtain ⟨hglc,og,hog,hogd,hoga⟩:=h.inF g hg;refine .inl ⟨g,hg,t,o,rfl,h1,by rw[hf];exact ho,?_,λ_ _ _ h=>h⟩;rcases hs.meet i g.i o og t ho hog (λe=>hi (e▸hglc)) (hogd.trans h1) (hx t rfl) with h2|h2
     . exact h2
     . obtain⟨e,he,hb,hei⟩:=onB_iff.1 h2;exact absurd (hei▸hoga e he hb) hi
   . refine .inr ⟨h.rel.slots t b h1,λt' ht' j w hw hwd=>?_⟩;cases ht';by_cases e:j=i
     . exact .inr (.inl (by rw[hf];exact e))
     . rcases hs.meet i j o w t ho hw (Ne.symm e) hwd (hx t rfl) with h2|h2
       . rcases h.cov j (hin h2) with h3|⟨g,hg,hgj⟩
         . exact .inl h3
         . obtain⟨_,og,hog,hogd,_⟩:=h.inF g hg;rw[hgj,hw] at hog;cases hog;exact absurd (hogd.symm.trans hwd) (hno g hg)
       . exact .inr (.inr (by rw[hf];exact h2))
 . exact .inr ⟨hv _ _ _,λt ht=>absurd ht (hne t)⟩
theorem b7Z (h:Inv P ops C γ V a W lc l F st){i:Nat}{o:Oper}(ho:ops[i]?=some o)(hi:i∉lc)(hoa:∀e∈o.after,Region.binds .any e=true->e.on∈lc){f:Fl}(hf:f.i=i)(hfd:f.dst=o.dst)
 {L:List (Nat×Base)} (hL:∀t b,d7 t L=some b->o.dst≠some t/\d7 t st.L=some b) (hdN:∀t,o.dst=some t->t<C.N) {need:List (Operand×Base)} (hdo:b5i P ops st.O f need)
 (hk:∀p∈need,∀n,F6 n p.2=true->n∈f.keys) (hkb:∀n,F6 n f.b=true->n∈f.keys) (hn:∀p∈need,a5H ops γ V a F l f p):Inv P ops C γ V a W (i::lc) l (f::F) ⟨L,st.O,st.pins⟩:=by
 have up:∀{g:Fl} {p:Operand×Base},a5H ops γ V a F l g p->a5H ops γ V a (f::F) l g p:=by
  rintro g p (⟨g',hg',h1⟩|h1)
  . exact .inl ⟨g',r6 _ hg',h1⟩
  . exact .inr h1
 have hul:l.getD i false=true->False:=λe=>hi (h.sub i e);have all:∀{p:Fl->Prop},p f->(∀g∈F,p g)->∀g∈f::F,p g:=λh1 h2 g hg=>by
  rcases p8.1 hg with rfl|hg
  . exact h1
  . exact h2 g hg
 refine⟨a0N h.rel (λt b hb=>h.rel.slots t b (hL t b hb).2) (λn x hx=>⟨h.rel.own n x hx,x,hx⟩),h.size,λj hj=>r6 _ (h.sub j hj),λj hj=>?_,λj hj=>?_,h.closed,
  all ⟨by rw[hf];exact A9 ..,o,by rw[hf];exact ho,hfd.symm,λe he hb=>r6 _ (hoa e he hb)⟩ λg hg=>?_,
  all (all (λ_=>rfl) λg hg e=>?_) λg hg=>all (λe=>?_) λg' hg' e=>h.uniq g hg g' hg' e,all (λt ht=>?_) λg hg t ht=>?_,all (λt ht=>hdN t (hfd.symm.trans ht)) h.dN,all (λhl=>(hul (hf▸hl)).elim) h.val,
  all ⟨need,hdo,hk,λ_ p hp=>up (hn p hp)⟩ λg hg=>?_,all hkb h.keys⟩
 . rcases p8.1 hj with rfl|hj
   . exact(a1y.1 ho).1
   . exact h.lcs j hj
 . rcases p8.1 hj with rfl|hj
   . exact .inr ⟨f,A9 ..,hf⟩
   . rcases h.cov j hj with h1|⟨g,hg,h1⟩
     . exact .inl h1
     . exact .inr ⟨g,r6 _ hg,h1⟩
 . obtain⟨h1,o',h2,h3,h4⟩:=h.inF g hg;exact⟨r6 _ h1,o',h2,h3,λe he hb=>r6 _ (h4 e he hb)⟩
 . exact absurd ((hf.symm.trans e)▸(h.inF g hg).1) hi
 . exact absurd ((hf.symm.trans e.symm)▸(h.inF g hg).1) hi
 . cases hl:d7 t L with
   |none=>rfl
   |some b=>exact absurd (hfd.symm.trans ht) (hL t b hl).1
 . cases hl:d7 t L with
   |none=>rfl
   |some b=>have:=(hL t b hl).2;rw[h.noL g hg t ht] at this;cases this
 . obtain⟨need',h1,h2,h3⟩:=h.able g hg;exact⟨need',h1,h2,λhl p hp=>up (h3 hl p hp)⟩
theorem d4Z {o:Oper}{j c:Nat}{w:Bool}(hg:o.guard=some (j,w))(hc:(ops[j]?).bind (·.dst)=some c):Region.wanted o (yielded ops a.tmps)=true↔a.tmps.getD c undef= .bool w:=by
 simp only[Region.wanted,hg,yielded,hc,Option.bind_some,beq_iff_eq,a2i];cases hx:a.tmps[c]? with
 |none=>simp[undef]
 |some x=>cases x<;>simp
theorem c3e (hT:TOk P T)(hs:Static ops){kp:D->SSt->Prop}{i:Nat}{r:List Stp}{k:SSt->Prop}(h:Inv P ops C γ V a W lc l F st)(hb:a4Y ops lc i=true)(hv:vcD P T C.N cf ops kp (.p i::r) F st k):
 ∃F' st',vcD P T C.N cf ops kp r F' st' k/\Inv P ops C γ V a W (i::lc) l F' st':=by
 obtain⟨hi,o,ho,hoa⟩:=rdy_run.1 hb;simp only[vcD,ho] at hv;split at hv
 . exact hv.elim
 rename_i hN;have hdN:∀t,o.dst=some t->t<C.N:=by
  intro t ht;rw[ht] at hN;exact X2 hN
 obtain⟨run,F,st,hv,h,hg⟩:=d4N hs h hv;obtain⟨gn,hgn1,hgn2,hgn3⟩:∃gn:List (Operand×Base),(∀p∈gn,∀n,F6 n p.2=false)/\(∀f:Fl,f.i=i->∀p∈gn,a5H ops γ V a F l f p)/\∀γ V (a:Act),(∀p∈gn,RVb γ V p.2 (a.eval p.1))->(Region.wanted o (yielded ops a.tmps)=true↔run=true):=by
  cases hog:o.guard with
  | none=>
    rw[hog] at hg;refine⟨[],by simp,by simp,λγ V a _=>?_⟩;simp only[Region.wanted,hog];exact⟨λ_=>hg,λ_=>(by first|rfl|trivial)⟩
  | some q=>
    obtain⟨j,w⟩:=q;rw[hog] at hg;obtain⟨c,b,hc,hl,hgk⟩:=hg;refine⟨[(.tmp c,b)],by simpa using hgk.1,λf hf p hp=>?_,λγ V a hp=>?_⟩
    . obtain rfl:=I4.1 hp;exact b8W hs h ho hi hoa hf (λt ht=>by cases ht;exact c8v hog hc) (.inl ⟨c,rfl,hl⟩)
    . rw[d4Z hog hc];exact hgk.2 γ V _ (hp _ (I4.2 rfl))
 split at hv
 . -- not run
   rename_i hrun;obtain⟨L,hv,hL⟩:=b7d hv;rw[b7G,a3P] at hv;refine⟨_,_,hv,b7Z h ho hi hoa rfl rfl hL hdN (need:=gn) ?_ (λp hp n hn=>by rw[hgn1 p hp n] at hn;cases hn) (λn hn=>by cases hn) (λp hp=>hgn2 _ rfl p hp)⟩;intro γ V W O' a _ hsees _ hn;refine⟨undef,V,W, .refl hsees,c1b V,λC' K Q hK=>?_⟩;have hw:¬Region.wanted o (yielded ops a.tmps)=true:=λe=>by have:=(hgn3 γ V a hn).1 e;cases this
   simp only[wpOpIn,ho,c8 hw];exact⟨λ_ _=>trivial,hK⟩
 . rename_i hrun;obtain⟨bs,hv,hfr⟩:=c6V _ hv;obtain⟨V',a',W',l',hinv,hall⟩:=c7s hs h;have hvals:Vals γ V' bs (o.op.operands.toList.map a'.eval):=by
    refine⟨by simp[hfr.len],λj b x hb hx=>?_⟩;rw[z7] at hx;cases hox:o.op.operands.toList[j]? with
    |none=>simp[hox] at hx
    | some y=>
      simp only[hox,G9,H0] at hx;subst hx;rcases hfr.get j y b hox hb with⟨t,rfl,hl⟩|⟨_,hc⟩
      . exact b7k hinv hall t b hl
      . exact hc _ _ _
   obtain⟨b,hv,hgive⟩:=c1p hT ⟨γ,V',W',_,hinv.rel.sees,hinv.rel.own,hvals⟩ hv;rw[a7N] at hv;obtain⟨ks,hv,hk1,hk2⟩:=a9q _ hv;obtain⟨dp,hv,hd1,_⟩:=a9q _ hv;obtain⟨L,hv,hL⟩:=b7d hv;rw[b7G,a3P] at hv;refine⟨_,_,hv,b7Z h ho hi hoa rfl rfl hL hdN (need:=gn++o.op.operands.toList.zip bs) ?_ ?_ (λn hn=>hk2 n (b0c hn)) ?_⟩
   . intro γ V W O' a hag hsees hown hn;have hw:Region.wanted o (yielded ops a.tmps)=true:=(hgn3 γ V a λp hp=>hn p (A8.2 (.inl hp))).2 rfl;obtain ⟨v,V',W',h1,h2,h3⟩:=hgive γ V W O' _ (λn hn=>hag n (hd1 n hn)) hsees hown (show Vals γ V bs (o.op.operands.toList.map a.eval) from⟨by simp[hfr.len],λj b x hb hx=>by
      rw[z7] at hx;cases hox:o.op.operands.toList[j]? with
      |none=>simp[hox] at hx
      | some y=>
        simp only[hox,G9,H0] at hx;subst hx;refine hn (y,b) (A8.2 (.inr (a9e.2 ⟨j,?_⟩)));rw[List.getElem?_zip_eq_some];exact⟨hox,hb⟩⟩) o a.eval rfl rfl
     refine⟨v,V',W',h2,h3,λC' K Q hK=>?_⟩;simp only[wpOpIn,ho,d4 hw];exact(R3 (C:=C') h1 hK).2
   . intro p hp n hn;rcases A8.1 hp with hp|hp
     . rw[hgn1 p hp n] at hn;cases hn
     . obtain⟨x,b⟩:=p;exact hk1 n (a3j.2 ⟨b,(List.of_mem_zip hp).2,b0c hn⟩)
   . intro p hp;rcases A8.1 hp with hp|hp
     . exact hgn2 _ rfl p hp
     . obtain⟨x,b⟩:=p;obtain⟨j,hj⟩:=a9e.1 hp;rw[List.getElem?_zip_eq_some] at hj;exact b8W hs h ho hi hoa rfl (λt ht=>c8w (by rw[<-ht];exact M6 hj.1)) (hfr.get j x b hj.1 hj.2)
theorem adv (hT:TOk P T)(hs:Static ops){kp:D->SSt->Prop}{k:SSt->Prop}:∀(r:List Stp) {lc:List Nat} {F:List Fl} {st:SSt},Inv P ops C γ V a W lc l F st->a1d ops r lc=true->vcD P T C.N cf ops kp r F st k->
 ∃r' lc' F' st',(∀i r2,r'≠ .p i::r2)/\a1d ops r' lc'=true/\vcD P T C.N cf ops kp r' F' st' k/\Inv P ops C γ V a W lc' l F' st':=by
 intro r;induction r with
 |nil=>intro lc F st h hb hv;exact⟨[],lc,F,st,by simp,hb,hv,h⟩
 | cons s r ih=>
   intro lc F st h hb hv;cases s with
   | p i=>
     simp only[a1d,f0] at hb;obtain⟨F',st',hv',h'⟩:=c3e hT hs h hb.1 hv;exact ih h' hb.2 hv'
   |s i anc=>exact⟨_,lc,F,st,by simp,hb,hv,h⟩
end
section
variable {P:Program} {T:List (Nat×TI)} {cf:Cfg} {ops:Array Oper} {C:Cx} {γ:Gm} {V:Know} {a:Act} {W:World} {lc:List Nat} {l:Array Bool} {F:List Fl} {st:SSt} {Q:Exit->Act->World->Prop}
theorem c3r (hcl:∀j o,l.getD j false=true->ops[j]?=some o->∀e∈o.after,Region.binds .any e=true->l.getD e.on false=true):∀(anc dn:List Nat),(∀j∈dn,∀o,ops[j]?=some o->∀e∈o.after,Region.binds .any e=true->l.getD e.on false=true)->
 a7w ops dn anc=true->∀x∈anc,l.getD x false=true:=by
 intro anc;induction anc with
 |nil=>intro dn _ _ x hx;cases hx
 | cons y r ih=>
   intro dn hdn h x hx;simp only[a7w,f0,N9] at h;obtain⟨⟨j,hj,hy⟩,hr⟩:=h;have hyl:l.getD y false=true:=by
    split at hy
    . rename_i o ho;obtain⟨e,he,hb,rfl⟩:=onB_iff.1 hy;exact hdn j hj o ho e he hb
    . cases hy
   rcases p8.1 hx with rfl|hx
   . exact hyl
   . refine ih (y::dn) (λk hk o ho=>?_) hr x hx;rcases p8.1 hk with rfl|hk
     . exact hcl k o hyl ho
     . exact hdn k hk o ho
def a5W (C:Cx)(γ:Gm)(V:Know)(W:World)(st:SSt):Cx:=⟨W.heap.size,C.N,W,V,o8 γ st.O,γ,C.round,C.m0,C.dfr⟩
theorem d0Z (hr:Rel C γ st V a W){L:List (Nat×Base)}(hL:∀t b,d7 t L=some b->RVb γ V b (a.tmps.getD t undef))(ps:List Nat):Rel (a5W C γ V W st) γ ⟨L,st.O,ps⟩ V a W:=
 {size:=hr.size,defers:=hr.defers,slots:=hL,own:=hr.own,okb:=λn b hl k hk=> .inl (R6.2 ⟨(n,b),Y3 hl,hk⟩),inj:=hr.inj,pin:=λ_ _=>rfl,sees:=hr.sees,fresh:= .refl _ _ _,below:= .refl _ _ _,bsize:=p0 _}
theorem b1W (hr:Rel C γ st V a W){k:Nat}(h:k∈o8 γ st.O):Okb C k:=by
 obtain⟨⟨n,b⟩,hm,hk⟩:=R6.1 h;have :∀l:List (Nat×Blk),(n,b)∈l->∃z,d7 n l=some z:=by
  intro l;induction l with
  |nil=>intro h;cases h
  | cons p l ih=>
    obtain⟨t,y⟩:=p;intro h;by_cases e:t=n
    . subst e;exact⟨y,w9 ..⟩
    . rw[p5 e];rcases p8.1 h with h|h
      . cases h;exact absurd rfl e
      . exact ih h
 obtain⟨z,hz⟩:=this _ hm;exact hr.okb n z hz k hk
theorem b9L (hr:Rel C γ st V a W){γ':Gm}{st2:SSt}{V':Know}{a':Act}{W':World}(h:Rel (a5W C γ V W st) γ' st2 V' a' W')(hp:∀n∈st.pins,n∈st2.pins):Rel C γ' ⟨st2.L,st2.O,st.pins⟩ V' a' W':=by
 have ok:∀{k:Nat},Okb (a5W C γ V W st) k->Okb C k:=by
  rintro k (h1|h1)
  . exact b1W hr h1
  . exact .inr (H8 hr.bsize h1)
 refine {size:=h.size,defers:=h.defers,slots:=h.slots,own:=h.own,okb:=λn b hl k hk=>ok (h.okb n b hl k hk),inj:=h.inj,pin:=λn hn=>(h.pin n (hp n hn)).trans (hr.pin n hn),sees:=h.sees,fresh:=?_,below:=?_,bsize:=H8 hr.bsize h.bsize}
 . exact hr.fresh.trans h.fresh hr.bsize λk hk=>b1W hr hk
 . refine hr.below.trans ⟨h.below.os,h.below.tape,h.below.output,h.below.size,λb hb hnl=>h.below.block b (a7n hb hr.bsize) λhm=>?_⟩;rcases b1W hr hm with h1|h1
   . exact hnl h1
   . omega
theorem d5y {o:Oper}{K:Act->World->Prop}(h:opw C P o a W K Q):opw C P o a W (λa' W'=>K a' W'/\∃v,a'=a.put o.dst v) Q:=by
 obtain⟨⟨hnd,hnr⟩,hab,h⟩:=h;refine⟨⟨hnd,hnr⟩,hab,?_⟩;rw[b3S hnd] at h⊢;cases hrun:(execOp a.eval o).run P W with
 | halt x w'=>
   rw[hrun] at h;cases x<;>exact h
 | ok n w'=>
   rw[hrun] at h;cases n with
   |value u=>exact⟨h,u,rfl⟩
   |skip=>exact⟨h,undef,rfl⟩
   | enter f args=>
     exact⟨h.1,CallsIn.mono h.2 λe w2 he=>match e,he with
      | .returned u,he=>⟨he,u,rfl⟩
      | .panicked c,he=>he
      | .outgrown,he=>he⟩
   | round l f tmps assign body=>
     exact⟨h.1,RoundIn.mono h.2 λe w2 he=>match e,he with
      | .returned u,he=>⟨he,u,rfl⟩
      | .panicked c,he=>he
      | .outgrown,he=>he⟩
   |row r args=>exact⟨h.1,RowsIn.mono h.2 λu w2 he=>⟨he,u,rfl⟩⟩
   |defer x=>exact absurd hrun (hnr _ _)
   |_=>exact h
theorem d2K (hT:TOk P T)(hs:Static ops)(h:Inv P ops C γ V a W lc l F st){i:Nat}{o:Oper}{anc:List Nat}{r:List Stp}(ho:ops[i]?=some o)(hi:i∉lc)(hoa:∀e∈o.after,Region.binds .any e=true->e.on∈lc)
 (hrl:∀e∈o.after,Region.binds .any e=true->l.getD e.on false=true) (hanc:a7w ops [i] anc=true) {kp:D->SSt->Prop} {k:SSt->Prop} (hv:vcD P T C.N cf ops kp (.s i anc::r) F st k) (hp:NxP C kp Q) {K:Act->World->Prop}
 (hK:∀γ' V' a' W' F' st',Inv P ops C γ' V' a' W' (i::lc) (l.setIfInBounds i true) F' st'->vcD P T C.N cf ops kp r F' st' k->K a' W'):wpOpIn (fen C) 0 P ops Q i K a W:=by
 simp only[vcD,ho] at hv;obtain⟨M,F',hv,hM,hF',hMF⟩:=d2y _ hv;rw[b5Q] at hv;obtain⟨ps,hv,hps1,hps2⟩:=c7M _ hv;have hil:l.getD i false=false:=by
  cases e:l.getD i false with
  |false=>rfl
  |true=>exact absurd (h.sub i e) hi
 have hlt:i<l.size:=by rw[h.size];exact(a1y.1 ho).1
 have hlis:∀x∈anc,l.getD x false=true:=c3r h.closed anc [i] (λj hj o' ho'=>by
  obtain rfl:=I4.1 hj;rw[ho] at ho';cases ho';exact hrl) hanc
 have hslots:∀t b,d7 t (L5 M st.L)=some b->RVb γ V b (a.tmps.getD t undef):=by
  intro t b hb;rcases a8c hb with⟨f,hf,h1,rfl⟩|⟨_,h1⟩
  . exact h.val f (hM f hf).1 (hlis _ (hM f hf).2) t h1
  . exact h.rel.slots t b h1
 have hin:=d0Z h.rel hslots ps;have hon:∀{j:Nat},onB o j=true->l.getD j false=true:=λhj=>by
  obtain⟨e,he,hb,rfl⟩:=onB_iff.1 hj;exact hrl e he hb
 let K1:Act->World->Prop:=λa' W'=>∃γ' V' st2,Rel (a5W C γ V W st) γ' st2 V' a' W'/\(match a7s ps st2.pins&&b3l F' st2.L with
  |true=>a9L F' [] λdp=>b0V st.O st2.O dp (a2N ⟨st2.L,st2.O,st.pins⟩ λst3=>vcD P T C.N cf ops kp r F' st3 k)
  |false=>False)
 have fin :∀a' W' v,K1 a' W'->a'=a.put o.dst v->K a' W':=by
  rintro a' W' v ⟨γ',V',st2,hr2,hk⟩ rfl;split at hk
  case h_2=>exact hk.elim
  rename_i hc;simp only[f0] at hc;obtain⟨hc1,hc2⟩:=hc;have hc1:=b5S hc1;have hc2:=c9C hc2;obtain⟨dp,hk,hd1,_⟩:=c5q _ hk;obtain⟨hk,hst⟩:=d2C _ hk;rw[a3P] at hk;have hrel:=b9L h.rel hr2 λn hn=>hc1 n (hps2 n hn);have hg:∀f∈F',∀n∈f.keys,γ' n=γ n:=λf hf n hn=>hr2.pin n (hc1 n (hps1 f hf n hn));have hle:V.Le V':=hr2.fresh.le;have move:∀{f:Fl} {b:Base} {v:Value},f∈F'->(∀n,F6 n b=true->n∈f.keys)->RVb γ V b v->RVb γ' V' b v:=λhf hk hv=>(hv.mono hle).congr λn hn=>by rw[hg _ hf n (hk n hn)]
  have hsz:a.tmps.size=C.N:=h.rel.size;have hdo:∀t,o.dst=some t->t<a.tmps.size\/True:=λ_ _=> .inr trivial;have slot:∀t,o.dst≠some t->(a.put o.dst v).tmps.getD t undef=a.tmps.getD t undef:=by
   intro t ht;cases hod:o.dst with
   |none=>rfl
   | some d=>
     have hne:d≠t:=λe=>ht (by rw[hod,e]);simp only[Act.put,a2i,Array.getElem?_setIfInBounds_ne hne]
  have ev:∀x:Operand,(∀t,x= .tmp t->o.dst≠some t)->(a.put o.dst v).eval x=a.eval x:=by
   intro x hx;cases x with
   |tmp t=>exact slot t (hx t rfl)
   |_=>cases o.dst<;>rfl
  refine hK γ' V' _ W' F' _ ⟨hrel,by simp[h.size],λj hj=>?_,λj hj=>?_,λj hj=>?_,λj o' hj ho' e he hb=>?_,λf hf=>?_,λf hf g hg e=>h.uniq f (hF' f hf) g (hF' g hg) e,hc2,λf hf=>h.dN f (hF' f hf),λf hf hl t ht=>?_,λf hf=>?_,λf hf=>h.keys f (hF' f hf)⟩ hk
  . rcases a6l hj with rfl|hj
    . exact A9 ..
    . exact r6 _ (h.sub j hj)
  . rcases p8.1 hj with rfl|hj
    . exact(a1y.1 ho).1
    . exact h.lcs j hj
  . rcases p8.1 hj with rfl|hj
    . exact .inl (b3b hlt)
    . rcases h.cov j hj with h1|⟨f,hf,rfl⟩
      . exact .inl (a0G h1)
      . rcases hMF f hf with h2|h2
        . exact .inl (a0G (hlis _ (hM f h2).2))
        . exact .inr ⟨f,h2,rfl⟩
  . rcases a6l hj with rfl|hj
    . rw[ho] at ho';cases ho';exact a0G (hrl e he hb)
    . exact a0G (h.closed j o' hj ho' e he hb)
  . obtain⟨h1,o',h2,h3,h4⟩:=h.inF f (hF' f hf);exact⟨r6 _ h1,o',h2,h3,λe he hb=>r6 _ (h4 e he hb)⟩
  . obtain⟨h1,o',h2,h3,h4⟩:=h.inF f (hF' f hf);have hne:f.i≠i:=λe=>hi (e▸h1);have hl:l.getD f.i false=true:=(a6l hl).resolve_left hne;rw[slot t (hs.one i f.i o o' t ho h2 (Ne.symm hne) (h3.trans ht))];exact move hf (h.keys f (hF' f hf)) (h.val f (hF' f hf) hl t ht)
  . obtain ⟨need,h1,h2,h3⟩:=h.able f (hF' f hf);obtain⟨hflc,of,hof,hofd,hofa⟩:=h.inF f (hF' f hf);have hne:f.i≠i:=λe=>hi (e▸hflc);refine⟨need,λγ V W O' a hag=>h1 γ V W O' a λn hn=>(hag n hn).trans (hst n (hd1 f hf n hn)),h2,λhl p hp=>?_⟩;have hul:=b8B hl;rcases h3 hul p hp with⟨g,hg',t,o',e1,e2,e3,e4,e5⟩|⟨e1,e2⟩
    . rcases hMF g hg' with hgM|hgF
      . -- its value is there
        have hgl:=hlis _ (hM g hgM).2;obtain⟨hglc,og,hog,hogd,_⟩:=h.inF g hg';have hgi:g.i≠i:=λe=>hi (e▸hglc);refine .inr ⟨?_,λt' ht' j w hw hwd=>?_⟩
        . have hx:(a.put o.dst v).eval p.1=a.tmps.getD t undef:=by
           rw[e1];exact slot t (hs.one i g.i o og t ho hog (Ne.symm hgi) (hogd.trans e2))
          rw[hx];exact move hf (λn hn=>h2 p hp n hn) (e5 _ _ _ (h.val g hg' hgl t e2))
        . rw[e1] at ht';cases ht';by_cases e:j=g.i
          . rw[e];exact .inl (a0G hgl)
          . exact absurd (hogd.trans e2) (hs.one g.i j og w t hog hw (Ne.symm e) hwd)
      . exact .inl ⟨g,hgF,t,o',e1,e2,e3,e4,e5⟩
    . refine .inr ⟨?_,λt ht j w hw hwd=>(e2 t ht j w hw hwd).imp a0G id⟩;rw[ev p.1 λt ht hod=>?_]
      . exact move hf (λn hn=>h2 p hp n hn) e1
      . rcases e2 t ht i o ho hod with h6|h6|h6
        . rw[hil] at h6;cases h6
        . exact hne h6.symm
        . rw[hon h6] at hul;cases hul
 have hpan:NxP (a5W C γ V W st) (λd st2=>match a7s st.pins st2.pins with|true=>kp d ⟨st2.L,st2.O,st.pins⟩|false=>False) Q:=by
  intro γ' st2 V' a' W' v d hr2 hd hk;split at hk
  . rename_i hc;exact hp _ _ _ _ _ _ _ (b9L h.rel hr2 (b5S hc)) hd hk
  . exact hk.elim
 have key:=c1n (C:=a5W C γ V W st) (Q:=Q) (next:=K1) hT hin hv (λγ' st2 V' a' W' hr2 hk=>⟨γ',V',st2,hr2,hk⟩) hpan;simp only[wpOpIn,ho];split at key
 . rename_i hw;rw[d4 hw];refine Oper.wpIn_mono (λa' W' hh=>?_) (d5y (K:=K1) key).2;obtain⟨hh,v,e⟩:=hh;exact fin a' W' v hh e
 . rename_i hw;rw[c8 hw];exact⟨λ_ _=>trivial,fin _ _ undef key rfl⟩
theorem c9D:∀(n:Nat) (J:List Nat),J.Nodup->(∀j∈J,j<n)->J.length<=n:=by
 intro n;induction n with
 | zero=>intro J _ h;cases J with
   |nil=>simp
   |cons j J=>exact absurd (h j (A9 ..)) (Nat.not_lt_zero _)
 | succ n ih=>
   intro J hJ h;have h1:=ih (J.erase n) (hJ.erase n) λj hj=>by
    have h2:=h j (List.mem_of_mem_erase hj);have:j≠n:=λe=>by subst e;exact(List.Nodup.not_mem_erase hJ) hj
    omega
   have h2:J.length<=(J.erase n).length+1:=by
    rw[List.length_erase];split<;>omega
   omega
theorem c5F (hT:TOk P T)(hs:Static ops){kp:D->SSt->Prop}{k:SSt->Prop}(hp:NxP C kp Q)(hn:∀γ st V a W,Rel C γ st V a W->k st->Q .normal a W):∀(fuel:Nat) {r:List Stp} {γ:Gm} {V:Know} {a:Act} {W:World} {lc:List Nat} {l:Array Bool} {F:List Fl} {st:SSt},
 Inv P ops C γ V a W lc l F st->a1d ops r lc=true->vcD P T C.N cf ops kp r F st k->(∀J:List Nat,J.Nodup->(∀j∈J,l.getD j true=false)->J.length<=fuel)->wpAnyIn (fen C) 0 P .any ops Q fuel l a W:=by
 have last:∀{r:List Stp} {γ:Gm} {V:Know} {a:Act} {W:World} {lc:List Nat} {l:Array Bool} {F:List Fl} {st:SSt},
  Inv P ops C γ V a W lc l F st->a1d ops r lc=true->vcD P T C.N cf ops kp r F st k->Region.ready .any ops l=[]->Q .normal a W:=by
  intro r γ V a W lc l F st h hb hv hr;obtain⟨r,lc,F,st,hne,hb,hv,h⟩:=adv hT hs r h hb hv;have hall:=c7t hs h hr;cases r with
  | nil=>
    have hv:a4v F st.L λL=>k ⟨L,st.O,st.pins⟩:=hv;rw[b5Q] at hv;refine hn γ _ V a W (a0N h.rel (L':=L5 F st.L) (O':=st.O) (b7k h hall) (λn x hx=>⟨h.rel.own n x hx,x,hx⟩)) hv
  | cons s r=>
    cases s with
    |p i=>exact absurd rfl (hne i r)
    | s i anc=>
      simp only[a1d,f0] at hb;obtain⟨hi,o,ho,hoa⟩:=rdy_run.1 hb.1;have hlt:i<l.size:=by rw[h.size];exact(a1y.1 ho).1
      have hil:l.getD i false=false:=by
       cases e:l.getD i false with
       |false=>rfl
       |true=>exact absurd (h.sub i e) hi
      have:i∈Region.ready .any ops l:=mem_ready.2 ⟨b8A hil hlt,o,ho,λe he hb=>by
       rcases h.cov e.on (hoa e he hb) with h3|⟨g,hg,hgi⟩
       . exact h3
       . rw[<-hgi];exact hall g hg⟩
      rw[hr] at this;cases this
 have less:∀{n i:Nat} {l:Array Bool},l.getD i true=false->(∀J:List Nat,J.Nodup->(∀j∈J,l.getD j true=false)->J.length<=n+1)->
  ∀J:List Nat,J.Nodup->(∀j∈J,(l.setIfInBounds i true).getD j true=false)->J.length<=n:=by
  intro n i l hi hb J hJ hj;have hlt:=(b3a hi).2;have hni:i∉J:=λhm=>by
   have:=hj i hm;simp[hlt] at this
  have:=hb (i::J) (List.nodup_cons.2 ⟨hni,hJ⟩) λj hm=>by
   rcases p8.1 hm with rfl|hm
   . exact hi
   . have h1:=hj j hm;have hne:i≠j:=λe=>hni (e▸hm);rwa[getD_set_ne true hne] at h1
  simp only[i7] at this;omega
 intro fuel;induction fuel with
 | zero=>
   intro r γ V a W lc l F st h hb hv hf;have hr:Region.ready .any ops l=[]:=by
    cases hr:Region.ready .any ops l with
    |nil=>rfl
    | cons i is=>
      have hi:i∈Region.ready .any ops l:=by rw[hr];exact A9 ..
      have:=hf [i] (List.nodup_cons.2 ⟨by simp,List.nodup_nil⟩) λj hj=>by
       obtain rfl:=I4.1 hj;exact(mem_ready.1 hi).1
      simp at this
   exact⟨hr,last h hb hv hr⟩
 | succ n ih=>
   intro r γ V a W lc l F st h hb hv hf;refine⟨λhr=>last h hb hv hr,λi hi=>?_⟩;obtain⟨r,lc,F,st,hne,hb,hv,h⟩:=adv hT hs r h hb hv;obtain⟨hun,o,ho,hrl⟩:=mem_ready.1 hi;have hul:=(b3a hun).1;have hlt:i<ops.size:=(a1y.1 ho).1;have float:i∈lc->wpOpIn (fen C) 0 P ops Q i (wpAnyIn (fen C) 0 P .any ops Q n (l.setIfInBounds i true)) a W:=by
    intro hlc;rcases h.cov i hlc with h1|⟨f,hf',rfl⟩
    . rw[hul] at h1;cases h1
    . obtain⟨v,V',W',hrun,h'⟩:=b8a hs h hf' hul λo' ho'=>by
       rw[ho] at ho';cases ho';exact hrl
      exact hrun _ _ (ih h' hb hv (less hun hf))
   cases r with
   | nil=>
     refine float (memB_mem.1 ?_);exact n7.1 hb i (a5F.2 hlt)
   | cons s r=>
     cases s with
     |p j=>exact absurd rfl (hne j r)
     | s j anc=>
       by_cases hlc:i∈lc
       . exact float hlc
       . have hb':=hb;simp only[a1d,f0] at hb';obtain⟨hj,hall,hanc,hb2⟩:=hb';have hij:j=i:=by
          have h1:=n7.1 hall i (a5F.2 hlt);rw[C0] at h1;rcases h1 with h1|h1
          . exact(t7 h1).symm
          . have:a4Y ops lc i=true:=rdy_run.2 ⟨hlc,o,ho,λe he hb=>h.sub _ (hrl e he hb)⟩;rw[this] at h1;cases h1
         subst hij;obtain⟨_,o',ho',hoa⟩:=rdy_run.1 hj;rw[ho] at ho';cases ho';exact d2K hT hs h ho hlc hoa hrl hanc hv hp λγ' V' a' W' F' st' h' hv'=>ih h' hb2 hv' (less hun hf)
theorem c5G (hT:TOk P T)(hm:P.follows .mixedOrders=true)(r:List Stp){id:Nat}{Q:E6}(hb:(b4m ops&&a1d ops r [])=true)
 (h:vcD P T C.N cf ops (λd st=>Q (.pan d) st) r [] st λst=>Q .nrm st):J P C (.region id ops true) Q st:=by
 simp only[f0] at hb;refine⟨λγ V a W hr=>wpIn_region_any hm ?_⟩;have hr':Rel C γ st V a {W with drawn:=W.drawn+1}:=a1S hr ⟨⟨rfl,rfl,rfl,p0 _,λ_ _=>rfl⟩,Fresh.refl V _ _,⟨λb o v hc=>hr.sees.cell b o v hc,λr x hx=>hr.sees.obj r x hx,hr.sees.lib,hr.sees.keepRow λ_ _ _ _=>rfl⟩⟩;refine c5F (C:=C) hT (d2D hb.1) (k:=λst=>Q .nrm st) (kp:=λd st=>Q (.pan d) st) (λγ' st' V' a' W' v d hr' hv hk=>⟨γ',st',V',v,d,rfl,hv,hr',hk⟩) (λγ st V a W hr hk=>⟨γ,st,V,hr,hk⟩) ops.size (r:=r) (γ:=γ) (V:=V) (lc:=[]) (F:=[]) (st:=st) ?_ hb.2 h ?_
 . have no:∀j,(Array.replicate ops.size false).getD j false=true->False:=λj hj=>by
    by_cases e:j<ops.size<;>simp[e] at hj
   exact⟨hr',by simp,λj hj=>(no j hj).elim,by simp,by simp,λj o hj=>(no j hj).elim,by simp,by simp,by simp,by simp,by simp,by simp,by simp⟩
 . intro J hJ hj;refine c9D _ J hJ λj hm=>?_;have:=(b3a (hj j hm)).2;simpa using this
end
end Go.Proofs.YteillnfhkeebjaaGreatDoor.Dx
