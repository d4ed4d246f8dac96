/- The executor over data,part P: regions that draw their order. -/
import Derived.Test.YteillnfhkeebjaaGreatDoorSg
import Derived.Orders
set_option linter.all false
namespace Go.Proofs.YteillnfhkeebjaaGreatDoor.Dx
open Go Go.RowKit
inductive Stp where
 |p (i:Nat)
 |s (i:Nat) (anc:List Nat)
structure Fl where
 i:Nat
 dst:Option Nat
 b:Base
 keys:List Nat
 dep:List Nat
def onB (o:Oper)(j:Nat):Bool:=o.after.toList.any λe=>Region.binds .any e&&Nat.beq e.on j
def a7c (ops:Array Oper)(i j:Nat)(o w:Oper):Bool:=
 match Nat.beq i j,w.dst with
 |true,_=>true
 |false,none=>true
 |false,some t=>(match o.dst with|some d=> !Nat.beq d t|none=>true)&&(!j1 t (o.looksAt ops)||(onB o j||onB w i))
def b3o (ops:Array Oper):Bool:=
 (List.range ops.size).all λi=>match ops[i]? with
   |none=>true
   | some o=>(o.after.toList.all λe=> !Region.binds .any e||Nat.blt e.on i)&&
     (List.range ops.size).all λj=>match ops[j]? with
       |none=>true
       |some w=>a7c ops i j o w
def Z0 (ops:Array Oper)(lc:List Nat)(i:Nat):Bool:=
 (!j1 i lc)&&match ops[i]? with
   |none=>false
   |some o=>o.after.toList.all λe=> !Region.binds .any e||j1 e.on lc
def a1A (ops:Array Oper):List Nat->List Nat->Bool
 |_,[]=>true
 |dn,a::r=>(dn.any λj=>match ops[j]? with|some o=>onB o a|none=>false)&&a1A ops (a::dn) r
def L6 (ops:Array Oper):List Stp->List Nat->Bool
 |[],lc=>(List.range ops.size).all λj=>j1 j lc
 | .p i::r,lc=>Z0 ops lc i&&L6 ops r (i::lc)
 | .s i anc::r,lc=>Z0 ops lc i&&(((List.range ops.size).all λj=>Nat.beq j i|| !Z0 ops lc j)&&(a1A ops [i] anc&&L6 ops r (i::lc)))
def w8:List Fl->List (Nat×Base)->List (Nat×Base)
 |[],L=>L
 |⟨_,some t,b,_,_⟩::F,L=>(t,b)::w8 F L
 |⟨_,none,_,_,_⟩::F,L=>w8 F L
def X0:List Fl->List (Nat×Base)->(List (Nat×Base)->Prop)->Prop
 |[],L,k=>k L
 |⟨_,some t,b,_,_⟩::F,L,k=>X0 F L λL=>k ((t,b)::L)
 |⟨_,none,_,_,_⟩::F,L,k=>X0 F L k
def a6q (d:Option Nat)(k:Option Nat->Prop):Prop:=match d with|none=>k none|some t=>k (some t)
theorem b0P (d:Option Nat)(k:Option Nat->Prop):a6q d k=k d:=by cases d<;>rfl
def S4:List Nat->List Nat->(List Nat->Prop)->Prop
 |[],l,k=>k l
 | n::r,l,k=>match j1 n l with
   |true=>S4 r l k
   |false=>S4 r (n::l) k
def a3H (n:Nat):List (Nat×Base)->(List (Nat×Base)->Prop)->Prop
 |[],k=>k []
 | (t,b)::l,k=>a3H n l λl'=>match Nat.beq t n with
   |true=>k l'
   |false=>k ((t,b)::l')
def a6d (d:Option Nat)(L:List (Nat×Base))(k:List (Nat×Base)->Prop):Prop:=
 match d with
 |none=>k L
 |some t=>a3H t L k
def rfF (c:Nat)(b:Bool)(f:Fl):Fl:=
 match f.dst with
 | some t=>match Nat.beq t c with
   |true=>⟨f.i,f.dst, .d (.bl b),f.keys,f.dep⟩
   |false=>f
 |none=>f
def a4y (c:Nat)(b:Bool):List Fl->(List Fl->Prop)->Prop
 |[],k=>k []
 | f ::F,k=>a4y c b F λF=>match f.dst with
   | some t=>match Nat.beq t c with
     |true=>k (⟨f.i,f.dst, .d (.bl b),f.keys,f.dep⟩::F)
     |false=>k (f::F)
   |none=>k (f::F)
def a7S (anc:List Nat):List Fl->(List Fl->List Fl->Prop)->Prop
 |[],k=>k [] []
 | f::F,k=>a7S anc F λM F=>match j1 f.i anc with
   |true=>k (f::M) F
   |false=>k M (f::F)
def a6K:List Fl->List Nat->(List Nat->Prop)->Prop
 |[],l,k=>k l
 |f::F,l,k=>S4 f.keys l λl=>a6K F l k
def a3E:List Fl->List Nat->(List Nat->Prop)->Prop
 |[],l,k=>k l
 |f::F,l,k=>S4 f.dep l λl=>a3E F l k
noncomputable def a4Q (O O':List (Nat×Blk)):List Nat->Prop->Prop
 |[],k=>k
 |n::r,k=>b7 n O'=b7 n O/\a4Q O O' r k
def eqB (b w:Bool):Bool:=match b,w with|true,true=>true|false,false=>true|true,false=>false|false,true=>false
def a1y (l m:List Nat):Bool:=l.all λn=>j1 n m
noncomputable def a6X (F:List Fl)(L:List (Nat×Base)):Bool:=F.all λf=>match f.dst with
 |none=>true
 |some t=>match b7 t L with|none=>true|some _=>false
noncomputable def gd1 (w:Bool)(b:Base)(F:List Fl)(st:SSt)(set:Bool->(List Fl->SSt->Prop)->Prop)(k:Bool->List Fl->SSt->Prop):Prop:=
 match b with
 | .d (.bl b)=>match eqB b w with
   |true=>k true F st
   |false=>k false F st
 | .d (.v (.bool b))=>(b=true->set true λF st=>match w with|true=>k true F st|false=>k false F st)/\(b=false->set false λF st=>match w with|true=>k false F st|false=>k true F st)
 | .d (.tup [])=>k false F st
 |_=>False
noncomputable def a8z (ops:Array Oper)(g:Option (Nat×Bool))(F:List Fl)(st:SSt)(k:Bool->List Fl->SSt->Prop):Prop:=
 match g with
 |none=>k true F st
 | some (j,w)=>match(ops[j]?).bind (·.dst) with
   |none=>False
   | some c=>match b7 c (w8 F []) with
     |some b=>gd1 w b F st (λx k=>a4y c x F λF=>k F st) k
     | none=>match b7 c st.L with
       |some b=>gd1 w b F st (λx k=>k F (put st (some c) (.d (.bl x)))) k
       |none=>False
noncomputable def vcD (P:Program)(T:List (Nat×TI))(N:Nat)(cf:Cfg)(ops:Array Oper)(kp:D->SSt->Prop):List Stp->List Fl->SSt->(SSt->Prop)->Prop
 |[],F,st,k=>X0 F st.L λL=>k ⟨L,st.O,st.pins⟩
 | .p i ::r,F,st,k=>match ops[i]? with
   |none=>False
   | some o=>match(match o.dst with|some d=>Nat.blt d N|none=>true) with
     |false=>False
     | true=>a8z ops o.guard F st λrun F st=>match run with
       |false=>a6d o.dst st.L λL=>a6q o.dst λd=>Q5 ⟨L,st.O,st.pins⟩ λst=>vcD P T N cf ops kp r (⟨i,d, .d (.tup []),[],[]⟩::F) st k
       | true=>B7 ⟨w8 F st.L,[],[]⟩ o.op.operands.toList λbs=>vcV T cf st.O o.op bs λb=>X8 b λb=>S4 (bs.flatMap k8) (k8 b) λks=>S4 (L9 T st.O o.op bs) [] λdp=>
         a6d o.dst st.L λL=>a6q o.dst λd=>Q5 ⟨L,st.O,st.pins⟩ λst=>vcD P T N cf ops kp r (⟨i,d,b,ks,dp⟩::F) st k
 | .s i anc::r,F,st,k=>match ops[i]? with
   |none=>False
   | some o=>a7S anc F λM F=>X0 M st.L λL=>a6K F st.pins λps=>
     a1j P T N cf ops o ⟨L,st.O,ps⟩ (λst2=>match a1y ps st2.pins&&a6X F st2.L with
      |true=>a3E F [] λdp=>a4Q st.O st2.O dp (Q5 ⟨st2.L,st2.O,st.pins⟩ λst3=>vcD P T N cf ops kp r F st3 k)
      |false=>False) (λd st2=>match a1y st.pins st2.pins with
      |true=>kp d ⟨st2.L,st2.O,st.pins⟩
      |false=>False)
section
theorem a9l:∀(F:List Fl) (L:List (Nat×Base)) (k:List (Nat×Base)->Prop),X0 F L k=k (w8 F L):=by
 intro F
 induction F with
 |nil=>intro L k;rfl
 | cons f F ih=>
   intro L k
   obtain⟨i,d,b,ks,dp⟩:=f
   cases d<;>simp only[X0,ih,w8]
theorem c1K (c:Nat)(b:Bool):∀(F:List Fl) (k:List Fl->Prop),a4y c b F k=k (F.map (rfF c b)):=by
 intro F
 induction F with
 |nil=>intro k;rfl
 | cons f F ih=>
   intro k
   simp only[a4y,ih,List.map_cons,rfF]
   cases f.dst with
   |none=>rfl
   |some t=>dsimp only;cases Nat.beq t c<;>rfl
theorem a3k:∀(m:List Nat) {l:List Nat} {k:List Nat->Prop},S4 m l k->∃l',k l'/\(∀n∈m,n∈l')/\∀n∈l,n∈l':=by
 intro m
 induction m with
 |nil=>intro l k h;exact⟨l,h,by simp,λn h=>h⟩
 | cons x m ih=>
   intro l k h
   simp only[S4] at h
   split at h
   . rename_i hm
     obtain⟨l',h1,h2,h3⟩:=ih h
     refine⟨l',h1,λn hn=>?_,h3⟩
     rcases List.mem_cons.1 hn with rfl|hn
     . exact h3 n (memB_mem.1 hm)
     . exact h2 n hn
   . obtain⟨l',h1,h2,h3⟩:=ih h
     refine⟨l',h1,λn hn=>?_,λn hn=>h3 n (List.mem_cons_of_mem _ hn)⟩
     rcases List.mem_cons.1 hn with rfl|hn
     . exact h3 n (List.mem_cons_self ..)
     . exact h2 n hn
theorem b9j:∀(F:List Fl) {l:List Nat} {k:List Nat->Prop},a6K F l k->∃l',k l'/\(∀f∈F,∀n∈f.keys,n∈l')/\∀n∈l,n∈l':=by
 intro F
 induction F with
 |nil=>intro l k h;exact⟨l,h,by simp,λn h=>h⟩
 | cons f F ih=>
   intro l k h
   obtain⟨l1,h,h1,h2⟩:=a3k _ h
   obtain⟨l',h3,h4,h5⟩:=ih h
   refine⟨l',h3,λg hg n hn=>?_,λn hn=>h5 n (h2 n hn)⟩
   rcases List.mem_cons.1 hg with rfl|hg
   . exact h5 n (h1 n hn)
   . exact h4 g hg n hn
theorem b7k:∀(F:List Fl) {l:List Nat} {k:List Nat->Prop},a3E F l k->∃l',k l'/\(∀f∈F,∀n∈f.dep,n∈l')/\∀n∈l,n∈l':=by
 intro F
 induction F with
 |nil=>intro l k h;exact⟨l,h,by simp,λn h=>h⟩
 | cons f F ih=>
   intro l k h
   obtain⟨l1,h,h1,h2⟩:=a3k _ h
   obtain⟨l',h3,h4,h5⟩:=ih h
   refine⟨l',h3,λg hg n hn=>?_,λn hn=>h5 n (h2 n hn)⟩
   rcases List.mem_cons.1 hg with rfl|hg
   . exact h5 n (h1 n hn)
   . exact h4 g hg n hn
theorem c2F {anc:List Nat}:∀(F:List Fl) {k:List Fl->List Fl->Prop},a7S anc F k->∃M F',k M F'/\(∀f∈M,f∈F/\f.i∈anc)/\(∀f∈F',f∈F)/\∀f∈F,f∈M\/f∈F':=by
 intro F
 induction F with
 |nil=>intro k h;exact⟨[],[],h,by simp,by simp,by simp⟩
 | cons f F ih=>
   intro k h
   obtain⟨M,F',h,h1,h2,h3⟩:=ih h
   split at h
   . rename_i hm
     refine⟨_,_,h,λg hg=>?_,λg hg=>List.mem_cons_of_mem _ (h2 g hg),λg hg=>?_⟩
     . rcases List.mem_cons.1 hg with rfl|hg
       . exact⟨List.mem_cons_self ..,memB_mem.1 hm⟩
       . exact⟨List.mem_cons_of_mem _ (h1 g hg).1,(h1 g hg).2⟩
     . rcases List.mem_cons.1 hg with rfl|hg
       . exact .inl (List.mem_cons_self ..)
       . exact(h3 g hg).imp (List.mem_cons_of_mem _) id
   . refine ⟨_,_,h,λg hg=>⟨List.mem_cons_of_mem _ (h1 g hg).1,(h1 g hg).2⟩,λg hg=>?_,λg hg=>?_⟩
     . rcases List.mem_cons.1 hg with rfl|hg
       . exact List.mem_cons_self ..
       . exact List.mem_cons_of_mem _ (h2 g hg)
     . rcases List.mem_cons.1 hg with rfl|hg
       . exact .inr (List.mem_cons_self ..)
       . exact(h3 g hg).imp id (List.mem_cons_of_mem _)
theorem b7z {n:Nat}:∀{l:List (Nat×Base)} {k:List (Nat×Base)->Prop},a3H n l k->∃l',k l'/\∀t b,b7 t l'=some b->t≠n/\b7 t l=some b:=by
 intro l
 induction l with
 |nil=>intro k h;exact⟨[],h,λt b h=>by rw[f8] at h;cases h⟩
 | cons p l ih=>
   obtain⟨d,y⟩:=p
   intro k h
   simp only[a3H] at h
   obtain⟨l',h,hl⟩:=ih h
   split at h
   . rename_i hdn
     have hdn:=Nat.eq_of_beq_eq_true hdn
     refine⟨l',h,λt b hb=>?_⟩
     obtain⟨h1,h2⟩:=hl t b hb
     exact⟨h1,by rw[d6 (λe=>h1 (by rw[<-e,hdn]))];exact h2⟩
   . rename_i hdn
     have hdn:=S8 hdn
     refine⟨_,h,λt b hb=>?_⟩
     by_cases e:d=t
     . subst e;rw[j0] at hb;cases hb;exact⟨hdn,j0 ..⟩
     . rw[d6 e] at hb;rw[d6 e];exact hl t b hb
theorem b0p {d:Option Nat}{l:List (Nat×Base)}{k:List (Nat×Base)->Prop}(h:a6d d l k):∃l',k l'/\∀t b,b7 t l'=some b->d≠some t/\b7 t l=some b:=by
 cases d with
 |none=>exact⟨l,h,λt b hb=>⟨by simp,hb⟩⟩
 | some n=>
   obtain⟨l',h1,h2⟩:=b7z h
   exact⟨l',h1,λt b hb=>⟨λe=>(h2 t b hb).1 (by cases e;rfl),(h2 t b hb).2⟩⟩
theorem c2J {O O':List (Nat×Blk)}:∀(l:List Nat) {k:Prop},a4Q O O' l k->k/\∀n∈l,b7 n O'=b7 n O:=by
 intro l
 induction l with
 |nil=>intro k h;exact⟨h,by simp⟩
 | cons n l ih=>
   intro k h
   obtain⟨h1,h2⟩:=h
   obtain⟨h3,h4⟩:=ih h2
   refine⟨h3,λm hm=>?_⟩
   rcases List.mem_cons.1 hm with rfl|hm
   . exact h1
   . exact h4 m hm
theorem a2k {t:Nat}{b:Base}:∀{F:List Fl} {L:List (Nat×Base)},b7 t (w8 F L)=some b->(∃f∈F,f.dst=some t/\f.b=b)\/((∀f∈F,f.dst≠some t)/\b7 t L=some b):=by
 intro F
 induction F with
 |nil=>intro L h;exact .inr ⟨by simp,h⟩
 | cons f F ih=>
   intro L h
   have up:b7 t (w8 F L)=some b->f.dst≠some t->(∃g∈f::F,g.dst=some t/\g.b=b)\/((∀g∈f::F,g.dst≠some t)/\b7 t L=some b):=by
    intro h hne
    rcases ih h with⟨g,hg,h1⟩|⟨h1,h2⟩
    . exact .inl ⟨g,List.mem_cons_of_mem _ hg,h1⟩
    . refine .inr ⟨λg hg=>?_,h2⟩
      rcases List.mem_cons.1 hg with rfl|hg
      . exact hne
      . exact h1 g hg
   obtain⟨i,d,b',ks,dp⟩:=f
   cases d with
   | some d=>
     simp only[w8] at h
     by_cases e:d=t
     . subst e
       rw[j0] at h
       cases h
       exact .inl ⟨_,List.mem_cons_self ..,rfl,rfl⟩
     . rw[d6 e] at h
       exact up h (by simpa using e)
   | none=>
     simp only[w8] at h
     exact up h (by simp)
theorem a9n {l m:List Nat}(h:a1y l m=true):∀n∈l,n∈m:=λn hn=>memB_mem.1 (List.all_eq_true.1 h n hn)
theorem c0D {F:List Fl}{L:List (Nat×Base)}(h:a6X F L=true):∀f∈F,∀t,f.dst=some t->b7 t L=none:=by
 intro f hf t ht
 have:=List.all_eq_true.1 h f hf
 simp only[ht] at this
 split at this
 . assumption
 . cases this
theorem onB_iff {o:Oper}{j:Nat}:onB o j=true↔∃e∈o.after,Region.binds .any e=true/\e.on=j:=by
 simp only[onB,List.any_eq_true,Bool.and_eq_true,Array.mem_toList_iff]
 constructor
 . rintro⟨e,h1,h2,h3⟩;exact⟨e,h1,h2,Nat.eq_of_beq_eq_true h3⟩
 . rintro⟨e,h1,h2,rfl⟩;exact⟨e,h1,h2,Nat.beq_refl _⟩
end
structure Static (ops:Array Oper):Prop where
 back:∀(i:Nat) o,ops[i]?=some o->∀e∈o.after,Region.binds .any e=true->e.on<i
 one:∀(i j:Nat) o w t,ops[i]?=some o->ops[j]?=some w->i≠j->w.dst=some t->o.dst≠some t
 meet:∀(i j:Nat) o w t,ops[i]?=some o->ops[j]?=some w->i≠j->w.dst=some t->t∈o.looksAt ops->onB o j=true\/onB w i=true
theorem c2K {ops:Array Oper}(h:b3o ops=true):Static ops:=by
 have lt:∀{i:Nat} {o:Oper},ops[i]?=some o->i∈List.range ops.size:=λho=>List.mem_range.2 (Array.getElem?_eq_some_iff.1 ho).1
 have key:∀(i:Nat) o,ops[i]?=some o->(o.after.toList.all λe=> !Region.binds .any e||Nat.blt e.on i)=true/\∀(j:Nat) w,ops[j]?=some w->a7c ops i j o w=true:=by
  intro i o ho
  have h1:=List.all_eq_true.1 h i (lt ho)
  simp only[ho,Bool.and_eq_true] at h1
  refine⟨h1.1,λj w hw=>?_⟩
  have h2:=List.all_eq_true.1 h1.2 j (lt hw)
  simpa only[hw] using h2
 have pr:∀(i j:Nat) o w t,ops[i]?=some o->ops[j]?=some w->i≠j->w.dst=some t->o.dst≠some t/\(t∈o.looksAt ops->onB o j=true\/onB w i=true):=by
  intro i j o w t ho hw hne ht
  have h1:=(key i o ho).2 j w hw
  have hb:Nat.beq i j=false:=by
   cases hb:Nat.beq i j with
   |false=>rfl
   |true=>exact absurd (Nat.eq_of_beq_eq_true hb) hne
  simp only[a7c,hb,ht,Bool.and_eq_true,Bool.or_eq_true,Bool.not_eq_true'] at h1
  refine⟨λe=>?_,λhm=>?_⟩
  . have h2:=h1.1
    rw[e] at h2
    simp only[Nat.beq_refl] at h2
    cases h2
  . rcases h1.2 with h2|h2
    . rw[memB_mem.2 hm] at h2;cases h2
    . exact h2
 refine⟨λi o ho e he hb=>?_,λi j o w t a b c d=>(pr i j o w t a b c d).1,λi j o w t a b c d=>(pr i j o w t a b c d).2⟩
 have h1:=List.all_eq_true.1 (key i o ho).1 e (by simpa using he)
 simp only[hb,Bool.not_true,Bool.false_or] at h1
 exact Nat.le_of_ble_eq_true h1
theorem rdy_run {ops:Array Oper}{lc:List Nat}{i:Nat}:Z0 ops lc i=true↔i∉lc/\∃o,ops[i]?=some o/\∀e∈o.after,Region.binds .any e=true->e.on∈lc:=by
 unfold Z0
 rw[Bool.and_eq_true,Bool.not_eq_true']
 have hm:j1 i lc=false↔i∉lc:=by rw[<-memB_mem];simp
 rw[hm]
 refine and_congr_right λ_=>?_
 cases ho:ops[i]? with
 |none=>simp
 | some o=>
   simp only[Option.some.injEq,exists_eq_left',List.all_eq_true,Array.mem_toList_iff,Bool.or_eq_true,Bool.not_eq_true']
   constructor
   . intro h e he hb
     rcases h e he with h|h
     . rw[hb] at h;cases h
     . exact memB_mem.1 h
   . intro h e he
     cases hb:Region.binds .any e with
     |false=>exact .inl rfl
     |true=>exact .inr (memB_mem.2 (h e he hb))
end Go.Proofs.YteillnfhkeebjaaGreatDoor.Dx
/- The executor over data,part Q: regions that draw their order: what stays true. -/
namespace Go.Proofs.YteillnfhkeebjaaGreatDoor.Dx
open Go Go.RowKit
def a8O (P:Program)(ops:Array Oper)(O:List (Nat×Blk))(f:Fl)(need:List (Operand×Base)):Prop:=
 ∀ (γ:Gm) (V:Know) (W:World) (O':List (Nat×Blk)) (a:Act),A0 O O' f.dep->Sees V W->j6 γ V W O'->(∀p∈need,RVb γ V p.2 (a.eval p.1))->
   ∃v V' W',Grow V W V' W'/\RVb γ V' f.b v/\∀(C:Cx) (K:Act->World->Prop) (Q:Exit->Act->World->Prop),K (a.put f.dst v) W'->wpOpIn (fen C) 0 P ops Q f.i K a W
def a0g (ops:Array Oper)(γ:Gm)(V:Know)(a:Act)(F:List Fl)(l:Array Bool)(f:Fl)(p:Operand×Base):Prop:=
 (∃g∈F,∃t o,p.1= .tmp t/\g.dst=some t/\ops[f.i]?=some o/\onB o g.i=true/\∀γ V v,RVb γ V g.b v->RVb γ V p.2 v)\/
 (RVb γ V p.2 (a.eval p.1)/\∀t,p.1= .tmp t->∀j w,ops[j]?=some w->w.dst=some t->l.getD j false=true\/j=f.i\/onB w f.i=true)
structure Inv (P:Program) (ops:Array Oper) (C:Cx) (γ:Gm) (V:Know) (a:Act) (W:World) (lc:List Nat) (l:Array Bool) (F:List Fl) (st:SSt):Prop where
 rel:Rel C γ st V a W
 size:l.size=ops.size
 sub:∀j,l.getD j false=true->j∈lc
 lcs:∀j∈lc,j<ops.size
 cov:∀j∈lc,l.getD j false=true\/∃f∈F,f.i=j
 closed:∀j o,l.getD j false=true->ops[j]?=some o->∀e∈o.after,Region.binds .any e=true->l.getD e.on false=true
 inF:∀f∈F,f.i∈lc/\∃o,ops[f.i]?=some o/\o.dst=f.dst/\∀e∈o.after,Region.binds .any e=true->e.on∈lc
 uniq:∀f∈F,∀g∈F,f.i=g.i->f=g
 noL:∀f∈F,∀t,f.dst=some t->b7 t st.L=none
 dN:∀f∈F,∀t,f.dst=some t->t<C.N
 val:∀f∈F,l.getD f.i false=true->∀t,f.dst=some t->RVb γ V f.b (a.tmps.getD t undef)
 able:∀f∈F,∃need,a8O P ops st.O f need/\(∀p∈need,∀n,p0 n p.2=true->n∈f.keys)/\(l.getD f.i false=false->∀p∈need,a0g ops γ V a F l f p)
 keys:∀f∈F,∀n,p0 n f.b=true->n∈f.keys
section
variable {P:Program} {T:List (Nat×TI)} {cf:Cfg} {ops:Array Oper} {C:Cx} {γ:Gm} {V:Know} {a:Act} {W:World} {lc:List Nat} {l:Array Bool} {F:List Fl} {st:SSt} {Q:Exit->Act->World->Prop}
theorem a6P {j:Nat}(h:l.getD j true=false):l.getD j false=false/\j<l.size:=by
 have hj:j<l.size:=by
  rcases Nat.lt_or_ge j l.size with h'|h'
  . exact h'
  . simp[Array.getElem?_eq_none h'] at h
 refine⟨?_,hj⟩
 simp only[Array.getD_eq_getD_getElem?,Array.getElem?_eq_getElem hj,Option.getD_some] at h⊢
 exact h
theorem b1F {j:Nat}(h:l.getD j false=false)(hj:j<l.size):l.getD j true=false:=by
 simp only[Array.getD_eq_getD_getElem?,Array.getElem?_eq_getElem hj,Option.getD_some] at h⊢
 exact h
theorem a0I {i j:Nat}(h:(l.setIfInBounds i true).getD j false=true):j=i\/l.getD j false=true:=by
 by_cases e:i=j
 . exact .inl e.symm
 . rw[getD_set_ne false e] at h;exact .inr h
theorem a6Q {i:Nat}(hi:i<l.size):(l.setIfInBounds i true).getD i false=true:=by simp[hi]
theorem I0 {i j:Nat}(h:l.getD j false=true):(l.setIfInBounds i true).getD j false=true:=getD_set_true h
theorem b1G {i j:Nat}(h:(l.setIfInBounds i true).getD j false=false):l.getD j false=false:=by
 cases hl:l.getD j false with
 |false=>rfl
 |true=>rw[I0 hl] at h;cases h
theorem b7O {d:Option Nat}{v:Value}{x:Operand}(hd:∀t,d=some t->t<a.tmps.size)(h:∀t,x= .tmp t->d≠some t):(a.put d v).eval x=a.eval x:=by
 cases x with
 | tmp t=>
   cases d with
   |none=>rfl
   | some d=>
     show(a.put (some d) v).tmps.getD t undef=a.tmps.getD t undef
     rw[a2y (hd d rfl),if_neg (λe=>h t rfl (by rw[e]))]
 |_=>cases d<;>rfl
theorem c1U (hr:Rel C γ st V a W){d:Option Nat}(hd:∀t,d=some t->t<C.N)(hn:∀t,d=some t->b7 t st.L=none)(v:Value):Rel C γ st V (a.put d v) W:=by
 refine {hr with size:=by rw[put_size];exact hr.size,defers:=hr.defers.keep b2D λ_ h=>h,slots:=λt b hl=>?_}
 cases d with
 |none=>exact hr.slots t b hl
 | some d=>
   rw[a2y (by rw[hr.size];exact hd d rfl)]
   by_cases e:t=d
   . subst e;rw[hn t rfl] at hl;cases hl
   . rw[if_neg e];exact hr.slots t b hl
theorem b1j (hs:Static ops)(h:Inv P ops C γ V a W lc l F st){f:Fl}(hf:f∈F)(hul:l.getD f.i false=false)
 (hrdy:∀o,ops[f.i]?=some o->∀e∈o.after,Region.binds .any e=true->l.getD e.on false=true):
 ∃v V' W',(∀(K:Act->World->Prop) (Q:Exit->Act->World->Prop),K (a.put f.dst v) W'->wpOpIn (fen C) 0 P ops Q f.i K a W)/\Inv P ops C γ V' (a.put f.dst v) W' lc (l.setIfInBounds f.i true) F st:=by
 obtain⟨need,hdo,hkeys,hneed⟩:=h.able f hf
 obtain⟨hlc,o,ho,hod,hoa⟩:=h.inF f hf
 have hlt:f.i<l.size:=by rw[h.size];exact(Array.getElem?_eq_some_iff.1 ho).1
 have hN:∀t,f.dst=some t->t<a.tmps.size:=λt ht=>by rw[h.rel.size];exact h.dN f hf t ht
 have hon:∀{j:Nat},onB o j=true->l.getD j false=true:=λhj=>by
  obtain⟨e,he,hb,rfl⟩:=onB_iff.1 hj
  exact hrdy o ho e he hb
 obtain ⟨v,V',W',hg,hv,hrun⟩:=hdo γ V W st.O a (λ_ _=>rfl) h.rel.sees h.rel.own λp hp=>by
  rcases hneed hul p hp with⟨g,hg,t,o',e1,e2,e3,e4,e5⟩|⟨h1,_⟩
  . rw[ho] at e3;cases e3
    rw[e1]
    exact e5 _ _ _ (h.val g hg (hon e4) t e2)
  . exact h1
 have hle:V.Le V':=hg.fresh.le
 refine⟨v,V',W',hrun C,c1U (M7 h.rel hg) (h.dN f hf) (h.noL f hf) v,by simp[h.size],λj hj=>?_,h.lcs,λj hj=>?_,λj o' hj ho' e he hb=>?_,h.inF,h.uniq,h.noL,h.dN,λg hg' hgl t ht=>?_,λg hg'=>?_,h.keys⟩
 . rcases a0I hj with rfl|hj
   . exact hlc
   . exact h.sub j hj
 . exact(h.cov j hj).imp I0 id
 . rcases a0I hj with rfl|hj
   . exact I0 (hrdy o' ho' e he hb)
   . exact I0 (h.closed j o' hj ho' e he hb)
 . rcases a0I hgl with e|hgl
   . obtain rfl:=h.uniq g hg' f hf e
     rw[ht,a2y (hN t ht),if_pos rfl]
     exact hv
   . have hne:g.i≠f.i:=λe=>by rw[e,hul] at hgl;cases hgl
     obtain⟨_,og,hog,hogd,_⟩:=h.inF g hg'
     have:=(h.val g hg' hgl t ht).mono hle
     cases hfd:f.dst with
     |none=>exact this
     | some d=>
       rw[a2y (hN d hfd),if_neg (λe=>?_)]
       . exact this
       . subst e
         exact hs.one f.i g.i o og t ho hog (Ne.symm hne) (hogd.trans ht) (hod.trans hfd)
 . obtain ⟨need',h1,h2,h3⟩:=h.able g hg'
   refine⟨need',h1,h2,λhgu p hp=>?_⟩
   have hgu':=b1G hgu
   have hne:g.i≠f.i:=λe=>by rw[e,a6Q hlt] at hgu;cases hgu
   rcases h3 hgu' p hp with h4|⟨h4,h5⟩
   . exact .inl h4
   . refine .inr ⟨?_,λt ht j w hw hwd=>(h5 t ht j w hw hwd).imp I0 id⟩
     rw[b7O hN (λt ht hd=>?_)]
     . exact h4.mono hle
     . rcases h5 t ht f.i o ho (hod.trans hd) with h6|h6|h6
       . rw[hul] at h6;cases h6
       . exact hne h6.symm
       . rw[hon h6] at hgu';cases hgu'
theorem b8R (hs:Static ops)(h:Inv P ops C γ V a W lc l F st):∃V' a' W' l',Inv P ops C γ V' a' W' lc l' F st/\∀f∈F,l'.getD f.i false=true:=by
 have key:∀n,∃V' a' W' l',Inv P ops C γ V' a' W' lc l' F st/\∀f∈F,f.i<n->l'.getD f.i false=true:=by
  intro n
  induction n with
  |zero=>exact⟨V,a,W,l,h,λf hf hn=>absurd hn (Nat.not_lt_zero _)⟩
  | succ n ih=>
    obtain⟨V',a',W',l',h',hl⟩:=ih
    by_cases hex:∃f∈F,f.i=n/\l'.getD f.i false=false
    . obtain ⟨f,hf,hfi,hul⟩:=hex
      obtain⟨v,V2,W2,_,h2⟩:=b1j hs h' hf hul λo ho e he hb=>by
       obtain⟨_,o',ho',_,hoa⟩:=h'.inF f hf
       rw[ho] at ho';cases ho'
       have hlt:=hs.back f.i o ho e he hb
       rcases h'.cov e.on (hoa e he hb) with h3|⟨g,hg,hgi⟩
       . exact h3
       . rw[<-hgi];exact hl g hg (by omega)
      refine⟨V2,_,W2,_,h2,λg hg hn=>?_⟩
      by_cases e:g.i=f.i
      . have hlt:f.i<l'.size:=by
         obtain⟨_,o',ho',_⟩:=h'.inF f hf
         rw[h'.size];exact(Array.getElem?_eq_some_iff.1 ho').1
        rw[e];exact a6Q hlt
      . exact I0 (hl g hg (by omega))
    . refine ⟨V',a',W',l',h',λg hg hn=>?_⟩
      by_cases e:g.i=n
      . cases hgl:l'.getD g.i false with
        |true=>rfl
        |false=>exact absurd ⟨g,hg,e,hgl⟩ hex
      . exact hl g hg (by omega)
 obtain⟨V',a',W',l',h',hl⟩:=key ops.size
 refine⟨V',a',W',l',h',λf hf=>hl f hf (h'.lcs _ (h'.inF f hf).1)⟩
theorem b8S (hs:Static ops)(h:Inv P ops C γ V a W lc l F st)(hr:Region.ready .any ops l=[]):∀f∈F,l.getD f.i false=true:=by
 have key:∀n,∀f∈F,f.i<n->l.getD f.i false=true:=by
  intro n
  induction n with
  |zero=>intro f hf hn;exact absurd hn (Nat.not_lt_zero _)
  | succ n ih=>
    intro f hf hn
    cases hgl:l.getD f.i false with
    |true=>rfl
    | false=>
      obtain⟨_,o,ho,_,hoa⟩:=h.inF f hf
      have hlt:f.i<l.size:=by rw[h.size];exact(Array.getElem?_eq_some_iff.1 ho).1
      have:f.i∈Region.ready .any ops l:=mem_ready.2 ⟨b1F hgl hlt,o,ho,λe he hb=>by
       have hlt:=hs.back f.i o ho e he hb
       rcases h.cov e.on (hoa e he hb) with h3|⟨g,hg,hgi⟩
       . exact h3
       . rw[<-hgi];exact ih g hg (by omega)⟩
      rw[hr] at this;cases this
 exact λf hf=>key ops.size f hf (h.lcs _ (h.inF f hf).1)
theorem b0t (h:Inv P ops C γ V a W lc l F st)(hl:∀f∈F,l.getD f.i false=true):∀t b,b7 t (w8 F st.L)=some b->RVb γ V b (a.tmps.getD t undef):=by
 intro t b hb
 rcases a2k hb with⟨f,hf,h1,rfl⟩|⟨_,h1⟩
 . exact h.val f hf (hl f hf) t h1
 . exact h.rel.slots t b h1
end
end Go.Proofs.YteillnfhkeebjaaGreatDoor.Dx
/- The executor over data,part R: regions that draw their order: operations that only give a value are put off. -/
namespace Go.Proofs.YteillnfhkeebjaaGreatDoor.Dx
open Go Go.RowKit
section
variable {P:Program} {T:List (Nat×TI)} {cf:Cfg} {ops:Array Oper} {C:Cx} {γ:Gm} {V:Know} {a:Act} {W:World} {lc:List Nat} {l:Array Bool} {F:List Fl} {st:SSt} {Q:Exit->Act->World->Prop}
theorem M8 (c:Nat)(b:Bool)(f:Fl):(rfF c b f).i=f.i:=by unfold rfF;split<;>(try split)<;>rfl
theorem U3 (c:Nat)(b:Bool)(f:Fl):(rfF c b f).dst=f.dst:=by unfold rfF;split<;>(try split)<;>rfl
theorem b2P (c:Nat)(b:Bool)(f:Fl):(rfF c b f).keys=f.keys:=by unfold rfF;split<;>(try split)<;>rfl
theorem c1Z (c:Nat)(b:Bool)(f:Fl):(rfF c b f).dep=f.dep:=by unfold rfF;split<;>(try split)<;>rfl
theorem a7v {c:Nat}{b:Bool}{f:Fl}(h:f.dst=some c):(rfF c b f).b= .d (.bl b):=by simp[rfF,h,Nat.beq_refl]
theorem b2Q {c:Nat}{b:Bool}{f:Fl}(h:f.dst≠some c):rfF c b f=f:=by
 unfold rfF
 split
 . rename_i t ht
   split
   . rename_i e;exact absurd (by rw[ht,Nat.eq_of_beq_eq_true e]) h
   . rfl
 . rfl
theorem bool_iff {x:Bool}{v:Value}:RVb γ V (.d (.bl x)) v↔RVb γ V (.d (.v (.bool x))) v:=by
 constructor
 . intro h;rw[Rep.bl_b h];exact .b _
 . intro h;rw[(Rep.v_inv h).1];exact .bl _
theorem b8T (h:Inv P ops C γ V a W lc l F st){c:Nat}{x:Bool}(hc:∀f∈F,f.dst=some c->f.b= .d (.v (.bool x))):Inv P ops C γ V a W lc l (F.map (rfF c x)) st:=by
 have hb:∀f∈F,∀γ V v,RVb γ V (rfF c x f).b v↔RVb γ V f.b v:=by
  intro f hf γ V v
  by_cases e:f.dst=some c
  . rw[a7v e,hc f hf e];exact bool_iff
  . rw[b2Q e]
 have un:∀{f:Fl},f∈F.map (rfF c x)->∃g∈F,f=rfF c x g:=λhf=>by
  obtain⟨g,hg,rfl⟩:=List.mem_map.1 hf;exact⟨g,hg,rfl⟩
 refine⟨h.rel,h.size,h.sub,h.lcs,λj hj=>?_,h.closed,λf hf=>?_,λf hf g hg e=>?_,λf hf=>?_,λf hf=>?_,λf hf=>?_,λf hf=>?_,λf hf n hn=>?_⟩
 . rcases h.cov j hj with h1|⟨f,hf,rfl⟩
   . exact .inl h1
   . exact .inr ⟨_,List.mem_map_of_mem hf,M8 ..⟩
 . obtain⟨g,hg,rfl⟩:=un hf
   rw[M8,U3];exact h.inF g hg
 . obtain⟨f',hf',rfl⟩:=un hf
   obtain⟨g',hg',rfl⟩:=un hg
   rw[M8,M8] at e
   rw[h.uniq f' hf' g' hg' e]
 . obtain⟨g,hg,rfl⟩:=un hf
   rw[U3];exact h.noL g hg
 . obtain⟨g,hg,rfl⟩:=un hf
   rw[U3];exact h.dN g hg
 . obtain⟨g,hg,rfl⟩:=un hf
   rw[M8,U3]
   exact λhl t ht=>(hb g hg _ _ _).2 (h.val g hg hl t ht)
 . obtain ⟨g,hg,rfl⟩:=un hf
   rw[M8,b2P]
   obtain⟨need,h1,h2,h3⟩:=h.able g hg
   refine⟨need,λγ V W O' a hag hs ho hn=>?_,h2,λhl p hp=>?_⟩
   . rw[c1Z] at hag
     obtain⟨v,V',W',e1,e2,e3⟩:=h1 γ V W O' a hag hs ho hn
     rw[U3,M8]
     exact⟨v,V',W',e1,(hb g hg _ _ _).2 e2,e3⟩
   . rcases h3 hl p hp with⟨f',hf',t,o,e1,e2,e3,e4,e5⟩|⟨e1,e2⟩
     . refine .inl ⟨_,List.mem_map_of_mem hf',t,o,e1,by rw[U3];exact e2,by rw[M8];exact e3,by rw[M8];exact e4,λγ V v hv=>e5 γ V v ((hb f' hf' _ _ _).1 hv)⟩
     . refine .inr ⟨e1,λt ht j w hw hwd=>?_⟩
       rw[M8];exact e2 t ht j w hw hwd
 . obtain⟨g,hg,rfl⟩:=un hf
   rw[b2P]
   by_cases e:g.dst=some c
   . rw[a7v e] at hn;cases hn
   . rw[b2Q e] at hn;exact h.keys g hg n hn
theorem a2l {c:Nat}:∀{F:List Fl} {L:List (Nat×Base)},(∃f∈F,f.dst=some c)->∃f∈F,f.dst=some c/\b7 c (w8 F L)=some f.b:=by
 intro F
 induction F with
 |nil=>rintro L ⟨f,hf,_⟩;cases hf
 | cons f F ih=>
   rintro L ⟨g,hg,hgd⟩
   by_cases e:f.dst=some c
   . refine⟨f,List.mem_cons_self ..,e,?_⟩
     obtain⟨i,d,b,ks,dp⟩:=f
     cases e
     exact j0 ..
   . have hg':g∈F:=by
      rcases List.mem_cons.1 hg with rfl|hg
      . exact absurd hgd e
      . exact hg
     obtain⟨f',hf',h1,h2⟩:=ih (L:=L) ⟨g,hg',hgd⟩
     refine⟨f',List.mem_cons_of_mem _ hf',h1,?_⟩
     obtain⟨i,d,b,ks,dp⟩:=f
     cases d with
     |some d=>simp only[w8];rw[d6 (λe'=>e (by rw[e']))];exact h2
     |none=>exact h2
theorem b1K {c:Nat}{F:List Fl}{L:List (Nat×Base)}(h:∀f∈F,f.dst≠some c):b7 c (w8 F L)=b7 c L:=by
 induction F with
 |nil=>rfl
 | cons f F ih=>
   have ih:=ih λg hg=>h g (List.mem_cons_of_mem _ hg)
   have e:=h f (List.mem_cons_self ..)
   obtain⟨i,d,b,ks,dp⟩:=f
   cases d with
   |some d=>simp only[w8];rw[d6 (λe'=>e (by rw[e']))];exact ih
   |none=>exact ih
def a1s (w:Bool)(b:Base)(r:Bool):Prop:=(∀n,p0 n b=false)/\∀γ V v,RVb γ V b v->(v= .bool w↔r=true)
theorem b0W (w x:Bool):a1s w (.d (.bl x)) (eqB x w):=by
 refine⟨λn=>rfl,λγ V v hv=>?_⟩
 rw[Rep.bl_b hv]
 cases x<;>cases w<;>simp[eqB]
theorem b0V {w:Bool}{b:Base}{set:Bool->(List Fl->SSt->Prop)->Prop}{k:Bool->List Fl->SSt->Prop}(h:gd1 w b F st set k):
 (∃r,k r F st/\a1s w b r)\/∃x r,b= .d (.v (.bool x))/\set x (λF st=>k r F st)/\a1s w (.d (.bl x)) r:=by
 unfold gd1 at h
 split at h
 . rename_i x
   refine .inl ⟨eqB x w,?_,b0W w x⟩
   revert h
   cases eqB x w<;>exact id
 . rename_i x
   refine .inr ⟨x,eqB x w,rfl,?_,b0W w x⟩
   cases x
   . have:=h.2 rfl
     cases w<;>exact this
   . have:=h.1 rfl
     cases w<;>exact this
 . refine .inl ⟨false,h,λn=>rfl,λγ V v hv=>?_⟩
   obtain⟨us,rfl,_⟩:=Rep.tup_inv hv
   simp
 . exact h.elim
def b4G (ops:Array Oper)(lk:Nat->Option Base)(g:Option (Nat×Bool))(r:Bool):Prop:=
 match g with
 |none=>r=true
 |some (j,w)=>∃c b,(ops[j]?).bind (·.dst)=some c/\lk c=some b/\a1s w b r
theorem c4z (hs:Static ops)(h:Inv P ops C γ V a W lc l F st){g:Option (Nat×Bool)}{k:Bool->List Fl->SSt->Prop}(hv:a8z ops g F st k):
 ∃r F' st',k r F' st'/\Inv P ops C γ V a W lc l F' st'/\b4G ops (λc=>b7 c (w8 F' st'.L)) g r:=by
 cases g with
 |none=>exact⟨true,F,st,hv,h,rfl⟩
 |some q=>
 obtain⟨j,w⟩:=q
 simp only[a8z] at hv
 cases hc:(ops[j]?).bind (·.dst) with
 |none=>rw[hc] at hv;exact hv.elim
 |some c=>
 rw[hc] at hv
 simp only at hv
 show ∃r F' st',k r F' st'/\Inv P ops C γ V a W lc l F' st'/\∃c b,(ops[j]?).bind (·.dst)=some c/\b7 c (w8 F' st'.L)=some b/\a1s w b r
 split at hv
 . rename_i b hb
   have hlook:b7 c (w8 F st.L)=some b:=by
    rcases a2k hb with⟨f,hf,h1,h2⟩|⟨_,h1⟩
    . obtain⟨f',hf',h3,h4⟩:=a2l (L:=st.L) ⟨f,hf,h1⟩
      obtain⟨f2,hf2,h5,h6⟩:=a2l (L:=([]:List (Nat×Base))) ⟨f,hf,h1⟩
      have e:f'=f2:=by
       obtain⟨_,o,ho,hod,_⟩:=h.inF f' hf'
       obtain⟨_,o2,ho2,hod2,_⟩:=h.inF f2 hf2
       by_cases e:f'.i=f2.i
       . exact h.uniq _ hf' _ hf2 e
       . exact absurd (hod.trans h3) (hs.one _ _ o o2 c ho ho2 e (hod2.trans h5))
      rw[h4,e,<-h6,hb]
    . rw[f8] at h1;cases h1
   rcases b0V hv with⟨r,h1,h2⟩|⟨x,r,rfl,h1,h2⟩
   . exact⟨r,F,st,h1,h,c,b,hc,hlook,h2⟩
   . rw [c1K] at h1
     have hall:∀f∈F,f.dst=some c->f.b= .d (.v (.bool x)):=by
      intro f hf hfd
      obtain⟨f',hf',h3,h4⟩:=a2l (L:=st.L) ⟨f,hf,hfd⟩
      have e:f=f':=by
       obtain⟨_,o,ho,hod,_⟩:=h.inF f hf
       obtain⟨_,o2,ho2,hod2,_⟩:=h.inF f' hf'
       by_cases e:f.i=f'.i
       . exact h.uniq _ hf _ hf' e
       . exact absurd (hod.trans hfd) (hs.one _ _ o o2 c ho ho2 e (hod2.trans h3))
      rw[hlook] at h4
      rw[e];exact(Option.some.inj h4).symm
     refine⟨r,_,st,h1,b8T h hall,c,_,hc,?_,h2⟩
     have hex:∃f∈F.map (rfF c x),f.dst=some c:=by
      rcases a2k hb with⟨f,hf,h3,_⟩|⟨_,h3⟩
      . exact⟨_,List.mem_map_of_mem hf,by rw[U3];exact h3⟩
      . rw[f8] at h3;cases h3
     obtain⟨f',hf',h3,h4⟩:=a2l (L:=st.L) hex
     obtain⟨g,hg,rfl⟩:=List.mem_map.1 hf'
     rw[U3] at h3
     rw[h4,a7v h3]
 . rename_i hnone
   have hno:∀f∈F,f.dst≠some c:=by
    intro f hf e
    obtain⟨f',_,_,h4⟩:=a2l (L:=([]:List (Nat×Base))) ⟨f,hf,e⟩
    rw[hnone] at h4;cases h4
   split at hv
   case h_2=>exact hv.elim
   rename_i b hb
   rcases b0V hv with⟨r,h1,h2⟩|⟨x,r,rfl,h1,h2⟩
   . exact⟨r,F,st,h1,h,c,b,hc,by rw[b1K hno];exact hb,h2⟩
   . refine ⟨r,F,_,h1,?_,c,_,hc,by rw[b1K hno];exact j0 ..,h2⟩
     have hrel:Rel C γ (put st (some c) (.d (.bl x))) V a W:=by
      refine K6 h.rel (L':=(c, .d (.bl x))::st.L) (O':=st.O) (λt y hy=>?_) (λn y hy=>⟨h.rel.own n y hy,y,hy⟩)
      by_cases e:c=t
      . subst e
        rw[j0] at hy
        cases hy
        exact bool_iff.2 (h.rel.slots c _ hb)
      . rw[d6 e] at hy
        exact h.rel.slots t y hy
     have hnoL:∀f∈F,∀t,f.dst=some t->b7 t (put st (some c) (.d (.bl x))).L=none:=λf hf t ht=>by
      show b7 t ((c,_)::st.L)=none
      rw[d6 (λe=>hno f hf (by rw[ht,e]))]
      exact h.noL f hf t ht
     exact {h with rel:=hrel,noL:=hnoL}
def a3c (L:List (Nat×Base))(x:Operand)(b:Base):Prop:=(∃t,x= .tmp t/\b7 t L=some b)\/((∀t,x≠ .tmp t)/\∀γ V (a:Act),RVb γ V b (a.eval x))
theorem b8q {st0:SSt}:∀(xs:List Operand) {k:List Base->Prop},B7 st0 xs k->∃bs,k bs/\All2 (λx b=>a3c st0.L x b) xs bs:=by
 intro xs
 induction xs with
 |nil=>intro k h;exact⟨[],h, .nil⟩
 | cons x xs ih=>
   intro k h
   simp only[B7] at h
   have:∃b,B7 st0 xs (λbs=>k (b::bs))/\a3c st0.L x b:=by
    cases x with
    |const v=>obtain⟨b,h1,h2⟩:=a9Y (show a3A v (λb=>B7 st0 xs λbs=>k (b::bs)) from h);exact⟨b,h1, .inr ⟨by simp,λγ V a=>h2 γ V⟩⟩
    |global g=>exact h.elim
    |func f=>exact⟨_,h, .inr ⟨by simp,λγ V a=>b0N V f⟩⟩
    | tmp t=>
      simp only[J8] at h
      split at h
      . rename_i b hb;exact⟨b,h, .inl ⟨t,rfl,hb⟩⟩
      . exact h.elim
   obtain⟨b,h1,h2⟩:=this
   obtain⟨bs,h3,h4⟩:=ih h1
   exact⟨b::bs,h3, .cons h2 h4⟩
theorem b9L {o:Oper}{t:Nat}(h:Operand.tmp t∈o.op.operands.toList):t∈o.looksAt ops:=by
 unfold Oper.looksAt
 refine List.mem_append.2 (.inl (List.mem_filterMap.2 ⟨_,h,rfl⟩))
theorem b9K {o:Oper}{j c:Nat}{w:Bool}(hg:o.guard=some (j,w))(hc:(ops[j]?).bind (·.dst)=some c):c∈o.looksAt ops:=by
 unfold Oper.looksAt
 refine List.mem_append.2 (.inr ?_)
 simp[hg,hc]
theorem b2a (hs:Static ops)(h:Inv P ops C γ V a W lc l F st){i:Nat}{o:Oper}(ho:ops[i]?=some o)(hi:i∉lc)(hoa:∀e∈o.after,Region.binds .any e=true->e.on∈lc){f:Fl}(hf:f.i=i)
 {x:Operand} {b:Base} (hx:∀t,x= .tmp t->t∈o.looksAt ops) (hfr:a3c (w8 F st.L) x b):a0g ops γ V a F l f (x,b):=by
 rcases hfr with⟨t,rfl,hl⟩|⟨hne,hv⟩
 . have hin:∀{j:Nat},onB o j=true->j∈lc:=λhj=>by
    obtain⟨e,he,hb,rfl⟩:=onB_iff.1 hj
    exact hoa e he hb
   rcases a2k hl with⟨g,hg,h1,rfl⟩|⟨hno,h1⟩
   . obtain ⟨hglc,og,hog,hogd,hoga⟩:=h.inF g hg
     refine .inl ⟨g,hg,t,o,rfl,h1,by rw[hf];exact ho,?_,λ_ _ _ h=>h⟩
     rcases hs.meet i g.i o og t ho hog (λe=>hi (e▸hglc)) (hogd.trans h1) (hx t rfl) with h2|h2
     . exact h2
     . obtain⟨e,he,hb,hei⟩:=onB_iff.1 h2
       exact absurd (hei▸hoga e he hb) hi
   . refine .inr ⟨h.rel.slots t b h1,λt' ht' j w hw hwd=>?_⟩
     cases ht'
     by_cases e:j=i
     . exact .inr (.inl (by rw[hf];exact e))
     . rcases hs.meet i j o w t ho hw (Ne.symm e) hwd (hx t rfl) with h2|h2
       . rcases h.cov j (hin h2) with h3|⟨g,hg,hgj⟩
         . exact .inl h3
         . obtain⟨_,og,hog,hogd,_⟩:=h.inF g hg
           rw[hgj,hw] at hog
           cases hog
           exact absurd (hogd.symm.trans hwd) (hno g hg)
       . exact .inr (.inr (by rw[hf];exact h2))
 . exact .inr ⟨hv _ _ _,λt ht=>absurd ht (hne t)⟩
theorem b1i (h:Inv P ops C γ V a W lc l F st){i:Nat}{o:Oper}(ho:ops[i]?=some o)(hi:i∉lc)(hoa:∀e∈o.after,Region.binds .any e=true->e.on∈lc){f:Fl}(hf:f.i=i)(hfd:f.dst=o.dst)
 {L:List (Nat×Base)} (hL:∀t b,b7 t L=some b->o.dst≠some t/\b7 t st.L=some b) (hdN:∀t,o.dst=some t->t<C.N) {need:List (Operand×Base)} (hdo:a8O P ops st.O f need)
 (hk:∀p∈need,∀n,p0 n p.2=true->n∈f.keys) (hkb:∀n,p0 n f.b=true->n∈f.keys) (hn:∀p∈need,a0g ops γ V a F l f p):Inv P ops C γ V a W (i::lc) l (f::F) ⟨L,st.O,st.pins⟩:=by
 have up:∀{g:Fl} {p:Operand×Base},a0g ops γ V a F l g p->a0g ops γ V a (f::F) l g p:=by
  rintro g p (⟨g',hg',h1⟩|h1)
  . exact .inl ⟨g',List.mem_cons_of_mem _ hg',h1⟩
  . exact .inr h1
 have hul:l.getD i false=true->False:=λe=>hi (h.sub i e)
 have all:∀{p:Fl->Prop},p f->(∀g∈F,p g)->∀g∈f::F,p g:=λh1 h2 g hg=>by
  rcases List.mem_cons.1 hg with rfl|hg
  . exact h1
  . exact h2 g hg
 refine⟨K6 h.rel (λt b hb=>h.rel.slots t b (hL t b hb).2) (λn x hx=>⟨h.rel.own n x hx,x,hx⟩),h.size,λj hj=>List.mem_cons_of_mem _ (h.sub j hj),λj hj=>?_,λj hj=>?_,h.closed,
  all ⟨by rw[hf];exact List.mem_cons_self ..,o,by rw[hf];exact ho,hfd.symm,λe he hb=>List.mem_cons_of_mem _ (hoa e he hb)⟩ λg hg=>?_,
  all (all (λ_=>rfl) λg hg e=>?_) λg hg=>all (λe=>?_) λg' hg' e=>h.uniq g hg g' hg' e,all (λt ht=>?_) λg hg t ht=>?_,all (λt ht=>hdN t (hfd.symm.trans ht)) h.dN,all (λhl=>(hul (hf▸hl)).elim) h.val,
  all ⟨need,hdo,hk,λ_ p hp=>up (hn p hp)⟩ λg hg=>?_,all hkb h.keys⟩
 . rcases List.mem_cons.1 hj with rfl|hj
   . exact(Array.getElem?_eq_some_iff.1 ho).1
   . exact h.lcs j hj
 . rcases List.mem_cons.1 hj with rfl|hj
   . exact .inr ⟨f,List.mem_cons_self ..,hf⟩
   . rcases h.cov j hj with h1|⟨g,hg,h1⟩
     . exact .inl h1
     . exact .inr ⟨g,List.mem_cons_of_mem _ hg,h1⟩
 . obtain⟨h1,o',h2,h3,h4⟩:=h.inF g hg
   exact⟨List.mem_cons_of_mem _ h1,o',h2,h3,λe he hb=>List.mem_cons_of_mem _ (h4 e he hb)⟩
 . exact absurd ((hf.symm.trans e)▸(h.inF g hg).1) hi
 . exact absurd ((hf.symm.trans e.symm)▸(h.inF g hg).1) hi
 . cases hl:b7 t L with
   |none=>rfl
   |some b=>exact absurd (hfd.symm.trans ht) (hL t b hl).1
 . cases hl:b7 t L with
   |none=>rfl
   |some b=>have:=(hL t b hl).2;rw[h.noL g hg t ht] at this;cases this
 . obtain⟨need',h1,h2,h3⟩:=h.able g hg
   exact⟨need',h1,h2,λhl p hp=>up (h3 hl p hp)⟩
theorem c4L {o:Oper}{j c:Nat}{w:Bool}(hg:o.guard=some (j,w))(hc:(ops[j]?).bind (·.dst)=some c):Region.wanted o (yielded ops a.tmps)=true↔a.tmps.getD c undef= .bool w:=by
 simp only[Region.wanted,hg,yielded,hc,Option.bind_some,beq_iff_eq,Array.getD_eq_getD_getElem?]
 cases hx:a.tmps[c]? with
 |none=>simp[undef]
 |some x=>cases x<;>simp
theorem b5o (hT:TOk P T)(hs:Static ops){kp:D->SSt->Prop}{i:Nat}{r:List Stp}{k:SSt->Prop}(h:Inv P ops C γ V a W lc l F st)(hb:Z0 ops lc i=true)(hv:vcD P T C.N cf ops kp (.p i::r) F st k):
 ∃F' st',vcD P T C.N cf ops kp r F' st' k/\Inv P ops C γ V a W (i::lc) l F' st':=by
 obtain⟨hi,o,ho,hoa⟩:=rdy_run.1 hb
 simp only[vcD,ho] at hv
 split at hv
 . exact hv.elim
 rename_i hN
 have hdN:∀t,o.dst=some t->t<C.N:=by
  intro t ht
  rw[ht] at hN
  exact Nat.le_of_ble_eq_true hN
 obtain⟨run,F,st,hv,h,hg⟩:=c4z hs h hv
 obtain⟨gn,hgn1,hgn2,hgn3⟩:∃gn:List (Operand×Base),(∀p∈gn,∀n,p0 n p.2=false)/\(∀f:Fl,f.i=i->∀p∈gn,a0g ops γ V a F l f p)/\∀γ V (a:Act),(∀p∈gn,RVb γ V p.2 (a.eval p.1))->(Region.wanted o (yielded ops a.tmps)=true↔run=true):=by
  cases hog:o.guard with
  | none=>
    rw[hog] at hg
    refine⟨[],by simp,by simp,λγ V a _=>?_⟩
    simp only[Region.wanted,hog]
    exact⟨λ_=>hg,λ_=>(by first|rfl|trivial)⟩
  | some q=>
    obtain⟨j,w⟩:=q
    rw[hog] at hg
    obtain⟨c,b,hc,hl,hgk⟩:=hg
    refine⟨[(.tmp c,b)],by simpa using hgk.1,λf hf p hp=>?_,λγ V a hp=>?_⟩
    . obtain rfl:=List.mem_singleton.1 hp
      exact b2a hs h ho hi hoa hf (λt ht=>by cases ht;exact b9K hog hc) (.inl ⟨c,rfl,hl⟩)
    . rw[c4L hog hc]
      exact hgk.2 γ V _ (hp _ (List.mem_singleton.2 rfl))
 split at hv
 . -- not run
   rename_i hrun
   obtain⟨L,hv,hL⟩:=b0p hv
   rw[b0P,U2] at hv
   refine⟨_,_,hv,b1i h ho hi hoa rfl rfl hL hdN (need:=gn) ?_ (λp hp n hn=>by rw[hgn1 p hp n] at hn;cases hn) (λn hn=>by cases hn) (λp hp=>hgn2 _ rfl p hp)⟩
   intro γ V W O' a _ hsees _ hn
   refine⟨undef,V,W, .refl hsees,b3W V,λC' K Q hK=>?_⟩
   have hw:¬Region.wanted o (yielded ops a.tmps)=true:=λe=>by have:=(hgn3 γ V a hn).1 e;cases this
   simp only[wpOpIn,ho,if_neg hw]
   exact⟨λ_ _=>trivial,hK⟩
 . rename_i hrun
   obtain⟨bs,hv,hfr⟩:=b8q _ hv
   obtain⟨V',a',W',l',hinv,hall⟩:=b8R hs h
   have hvals:Vals γ V' bs (o.op.operands.toList.map a'.eval):=by
    refine⟨by simp[hfr.len],λj b x hb hx=>?_⟩
    rw[List.getElem?_map] at hx
    cases hox:o.op.operands.toList[j]? with
    |none=>simp[hox] at hx
    | some y=>
      simp only[hox,Option.map_some,Option.some.injEq] at hx
      subst hx
      rcases hfr.get j y b hox hb with⟨t,rfl,hl⟩|⟨_,hc⟩
      . exact b0t hinv hall t b hl
      . exact hc _ _ _
   obtain⟨b,hv,hgive⟩:=b4k hT ⟨γ,V',W',_,hinv.rel.sees,hinv.rel.own,hvals⟩ hv
   rw[a1U] at hv
   obtain⟨ks,hv,hk1,hk2⟩:=a3k _ hv
   obtain⟨dp,hv,hd1,_⟩:=a3k _ hv
   obtain⟨L,hv,hL⟩:=b0p hv
   rw[b0P,U2] at hv
   refine⟨_,_,hv,b1i h ho hi hoa rfl rfl hL hdN (need:=gn++o.op.operands.toList.zip bs) ?_ ?_ (λn hn=>hk2 n (a3X hn)) ?_⟩
   . intro γ V W O' a hag hsees hown hn
     have hw:Region.wanted o (yielded ops a.tmps)=true:=(hgn3 γ V a λp hp=>hn p (List.mem_append.2 (.inl hp))).2 rfl
     obtain ⟨v,V',W',h1,h2,h3⟩:=hgive γ V W O' _ (λn hn=>hag n (hd1 n hn)) hsees hown (show Vals γ V bs (o.op.operands.toList.map a.eval) from⟨by simp[hfr.len],λj b x hb hx=>by
      rw[List.getElem?_map] at hx
      cases hox:o.op.operands.toList[j]? with
      |none=>simp[hox] at hx
      | some y=>
        simp only[hox,Option.map_some,Option.some.injEq] at hx
        subst hx
        refine hn (y,b) (List.mem_append.2 (.inr (List.mem_iff_getElem?.2 ⟨j,?_⟩)))
        rw[List.getElem?_zip_eq_some]
        exact⟨hox,hb⟩⟩) o a.eval rfl rfl
     refine⟨v,V',W',h2,h3,λC' K Q hK=>?_⟩
     simp only[wpOpIn,ho,if_pos hw]
     exact(C1 (C:=C') h1 hK).2
   . intro p hp n hn
     rcases List.mem_append.1 hp with hp|hp
     . rw[hgn1 p hp n] at hn;cases hn
     . obtain⟨x,b⟩:=p
       exact hk1 n (List.mem_flatMap.2 ⟨b,(List.of_mem_zip hp).2,a3X hn⟩)
   . intro p hp
     rcases List.mem_append.1 hp with hp|hp
     . exact hgn2 _ rfl p hp
     . obtain⟨x,b⟩:=p
       obtain⟨j,hj⟩:=List.mem_iff_getElem?.1 hp
       rw[List.getElem?_zip_eq_some] at hj
       exact b2a hs h ho hi hoa rfl (λt ht=>b9L (by rw[<-ht];exact List.mem_of_getElem? hj.1)) (hfr.get j x b hj.1 hj.2)
theorem adv (hT:TOk P T)(hs:Static ops){kp:D->SSt->Prop}{k:SSt->Prop}:∀(r:List Stp) {lc:List Nat} {F:List Fl} {st:SSt},Inv P ops C γ V a W lc l F st->L6 ops r lc=true->vcD P T C.N cf ops kp r F st k->
 ∃r' lc' F' st',(∀i r2,r'≠ .p i::r2)/\L6 ops r' lc'=true/\vcD P T C.N cf ops kp r' F' st' k/\Inv P ops C γ V a W lc' l F' st':=by
 intro r
 induction r with
 |nil=>intro lc F st h hb hv;exact⟨[],lc,F,st,by simp,hb,hv,h⟩
 | cons s r ih=>
   intro lc F st h hb hv
   cases s with
   | p i=>
     simp only[L6,Bool.and_eq_true] at hb
     obtain⟨F',st',hv',h'⟩:=b5o hT hs h hb.1 hv
     exact ih h' hb.2 hv'
   |s i anc=>exact⟨_,lc,F,st,by simp,hb,hv,h⟩
end
end Go.Proofs.YteillnfhkeebjaaGreatDoor.Dx
/- The executor over data,part S: regions that draw their order: the rule. -/
namespace Go.Proofs.YteillnfhkeebjaaGreatDoor.Dx
open Go Go.RowKit
section
variable {P:Program} {T:List (Nat×TI)} {cf:Cfg} {ops:Array Oper} {C:Cx} {γ:Gm} {V:Know} {a:Act} {W:World} {lc:List Nat} {l:Array Bool} {F:List Fl} {st:SSt} {Q:Exit->Act->World->Prop}
theorem b5B (hcl:∀j o,l.getD j false=true->ops[j]?=some o->∀e∈o.after,Region.binds .any e=true->l.getD e.on false=true):∀(anc dn:List Nat),(∀j∈dn,∀o,ops[j]?=some o->∀e∈o.after,Region.binds .any e=true->l.getD e.on false=true)->
 a1A ops dn anc=true->∀x∈anc,l.getD x false=true:=by
 intro anc
 induction anc with
 |nil=>intro dn _ _ x hx;cases hx
 | cons y r ih=>
   intro dn hdn h x hx
   simp only[a1A,Bool.and_eq_true,List.any_eq_true] at h
   obtain⟨⟨j,hj,hy⟩,hr⟩:=h
   have hyl:l.getD y false=true:=by
    split at hy
    . rename_i o ho
      obtain⟨e,he,hb,rfl⟩:=onB_iff.1 hy
      exact hdn j hj o ho e he hb
    . cases hy
   rcases List.mem_cons.1 hx with rfl|hx
   . exact hyl
   . refine ih (y::dn) (λk hk o ho=>?_) hr x hx
     rcases List.mem_cons.1 hk with rfl|hk
     . exact hcl k o hyl ho
     . exact hdn k hk o ho
def a0w (C:Cx)(γ:Gm)(V:Know)(W:World)(st:SSt):Cx:=⟨W.heap.size,C.N,W,V,d5 γ st.O,γ,C.round,C.m0,C.dfr⟩
theorem c1O (hr:Rel C γ st V a W){L:List (Nat×Base)}(hL:∀t b,b7 t L=some b->RVb γ V b (a.tmps.getD t undef))(ps:List Nat):Rel (a0w C γ V W st) γ ⟨L,st.O,ps⟩ V a W:=
 {size:=hr.size,defers:=hr.defers,slots:=hL,own:=hr.own,okb:=λn b hl k hk=> .inl (List.mem_filterMap.2 ⟨(n,b),E5 hl,hk⟩),inj:=hr.inj,pin:=λ_ _=>rfl,sees:=hr.sees,fresh:= .refl _ _ _,below:= .refl _ _ _,bsize:=Nat.le_refl _}
theorem a5I (hr:Rel C γ st V a W){k:Nat}(h:k∈d5 γ st.O):Okb C k:=by
 obtain⟨⟨n,b⟩,hm,hk⟩:=List.mem_filterMap.1 h
 have :∀l:List (Nat×Blk),(n,b)∈l->∃z,b7 n l=some z:=by
  intro l
  induction l with
  |nil=>intro h;cases h
  | cons p l ih=>
    obtain⟨t,y⟩:=p
    intro h
    by_cases e:t=n
    . subst e;exact⟨y,j0 ..⟩
    . rw[d6 e]
      rcases List.mem_cons.1 h with h|h
      . cases h;exact absurd rfl e
      . exact ih h
 obtain⟨z,hz⟩:=this _ hm
 exact hr.okb n z hz k hk
theorem b2K (hr:Rel C γ st V a W){γ':Gm}{st2:SSt}{V':Know}{a':Act}{W':World}(h:Rel (a0w C γ V W st) γ' st2 V' a' W')(hp:∀n∈st.pins,n∈st2.pins):Rel C γ' ⟨st2.L,st2.O,st.pins⟩ V' a' W':=by
 have ok:∀{k:Nat},Okb (a0w C γ V W st) k->Okb C k:=by
  rintro k (h1|h1)
  . exact a5I hr h1
  . exact .inr (Nat.le_trans hr.bsize h1)
 refine {size:=h.size,defers:=h.defers,slots:=h.slots,own:=h.own,okb:=λn b hl k hk=>ok (h.okb n b hl k hk),inj:=h.inj,pin:=λn hn=>(h.pin n (hp n hn)).trans (hr.pin n hn),sees:=h.sees,fresh:=?_,below:=?_,bsize:=Nat.le_trans hr.bsize h.bsize}
 . exact hr.fresh.trans h.fresh hr.bsize λk hk=>a5I hr hk
 . refine hr.below.trans ⟨h.below.os,h.below.tape,h.below.output,h.below.size,λb hb hnl=>h.below.block b (Nat.lt_of_lt_of_le hb hr.bsize) λhm=>?_⟩
   rcases a5I hr hm with h1|h1
   . exact hnl h1
   . omega
theorem c5a {o:Oper}{K:Act->World->Prop}(h:opw C P o a W K Q):opw C P o a W (λa' W'=>K a' W'/\∃v,a'=a.put o.dst v) Q:=by
 obtain⟨⟨hnd,hnr⟩,hab,h⟩:=h
 refine⟨⟨hnd,hnr⟩,hab,?_⟩
 rw[a7E hnd] at h⊢
 cases hrun:(execOp a.eval o).run P W with
 | halt x w'=>
   rw[hrun] at h
   cases x<;>exact h
 | ok n w'=>
   rw[hrun] at h
   cases n with
   |value u=>exact⟨h,u,rfl⟩
   |skip=>exact⟨h,undef,rfl⟩
   | enter f args=>
     exact⟨h.1,CallsIn.mono h.2 λe w2 he=>match e,he with
      | .returned u,he=>⟨he,u,rfl⟩
      | .panicked c,he=>he
      | .outgrown,he=>he⟩
   | round l f tmps assign body=>
     exact⟨h.1,RoundIn.mono h.2 λe w2 he=>match e,he with
      | .returned u,he=>⟨he,u,rfl⟩
      | .panicked c,he=>he
      | .outgrown,he=>he⟩
   |row r args=>exact⟨h.1,RowsIn.mono h.2 λu w2 he=>⟨he,u,rfl⟩⟩
   |defer x=>exact absurd hrun (hnr _ _)
   |_=>exact h
theorem c2R (hT:TOk P T)(hs:Static ops)(h:Inv P ops C γ V a W lc l F st){i:Nat}{o:Oper}{anc:List Nat}{r:List Stp}(ho:ops[i]?=some o)(hi:i∉lc)(hoa:∀e∈o.after,Region.binds .any e=true->e.on∈lc)
 (hrl:∀e∈o.after,Region.binds .any e=true->l.getD e.on false=true) (hanc:a1A ops [i] anc=true) {kp:D->SSt->Prop} {k:SSt->Prop} (hv:vcD P T C.N cf ops kp (.s i anc::r) F st k) (hp:NxP C kp Q) {K:Act->World->Prop}
 (hK:∀γ' V' a' W' F' st',Inv P ops C γ' V' a' W' (i::lc) (l.setIfInBounds i true) F' st'->vcD P T C.N cf ops kp r F' st' k->K a' W'):wpOpIn (fen C) 0 P ops Q i K a W:=by
 simp only[vcD,ho] at hv
 obtain⟨M,F',hv,hM,hF',hMF⟩:=c2F _ hv
 rw[a9l] at hv
 obtain⟨ps,hv,hps1,hps2⟩:=b9j _ hv
 have hil:l.getD i false=false:=by
  cases e:l.getD i false with
  |false=>rfl
  |true=>exact absurd (h.sub i e) hi
 have hlt:i<l.size:=by rw[h.size];exact(Array.getElem?_eq_some_iff.1 ho).1
 have hlis:∀x∈anc,l.getD x false=true:=b5B h.closed anc [i] (λj hj o' ho'=>by
  obtain rfl:=List.mem_singleton.1 hj
  rw[ho] at ho';cases ho'
  exact hrl) hanc
 have hslots:∀t b,b7 t (w8 M st.L)=some b->RVb γ V b (a.tmps.getD t undef):=by
  intro t b hb
  rcases a2k hb with⟨f,hf,h1,rfl⟩|⟨_,h1⟩
  . exact h.val f (hM f hf).1 (hlis _ (hM f hf).2) t h1
  . exact h.rel.slots t b h1
 have hin:=c1O h.rel hslots ps
 have hon:∀{j:Nat},onB o j=true->l.getD j false=true:=λhj=>by
  obtain⟨e,he,hb,rfl⟩:=onB_iff.1 hj
  exact hrl e he hb
 let K1:Act->World->Prop:=λa' W'=>∃γ' V' st2,Rel (a0w C γ V W st) γ' st2 V' a' W'/\(match a1y ps st2.pins&&a6X F' st2.L with
  |true=>a3E F' [] λdp=>a4Q st.O st2.O dp (Q5 ⟨st2.L,st2.O,st.pins⟩ λst3=>vcD P T C.N cf ops kp r F' st3 k)
  |false=>False)
 have fin :∀a' W' v,K1 a' W'->a'=a.put o.dst v->K a' W':=by
  rintro a' W' v ⟨γ',V',st2,hr2,hk⟩ rfl
  split at hk
  case h_2=>exact hk.elim
  rename_i hc
  simp only[Bool.and_eq_true] at hc
  obtain⟨hc1,hc2⟩:=hc
  have hc1:=a9n hc1
  have hc2:=c0D hc2
  obtain⟨dp,hk,hd1,_⟩:=b7k _ hk
  obtain⟨hk,hst⟩:=c2J _ hk
  rw[U2] at hk
  have hrel:=b2K h.rel hr2 λn hn=>hc1 n (hps2 n hn)
  have hg:∀f∈F',∀n∈f.keys,γ' n=γ n:=λf hf n hn=>hr2.pin n (hc1 n (hps1 f hf n hn))
  have hle:V.Le V':=hr2.fresh.le
  have move:∀{f:Fl} {b:Base} {v:Value},f∈F'->(∀n,p0 n b=true->n∈f.keys)->RVb γ V b v->RVb γ' V' b v:=λhf hk hv=>(hv.mono hle).congr λn hn=>by rw[hg _ hf n (hk n hn)]
  have hsz:a.tmps.size=C.N:=h.rel.size
  have hdo:∀t,o.dst=some t->t<a.tmps.size\/True:=λ_ _=> .inr trivial
  have slot:∀t,o.dst≠some t->(a.put o.dst v).tmps.getD t undef=a.tmps.getD t undef:=by
   intro t ht
   cases hod:o.dst with
   |none=>rfl
   | some d=>
     have hne:d≠t:=λe=>ht (by rw[hod,e])
     simp only[Act.put,Array.getD_eq_getD_getElem?,Array.getElem?_setIfInBounds_ne hne]
  have ev:∀x:Operand,(∀t,x= .tmp t->o.dst≠some t)->(a.put o.dst v).eval x=a.eval x:=by
   intro x hx
   cases x with
   |tmp t=>exact slot t (hx t rfl)
   |_=>cases o.dst<;>rfl
  refine hK γ' V' _ W' F' _ ⟨hrel,by simp[h.size],λj hj=>?_,λj hj=>?_,λj hj=>?_,λj o' hj ho' e he hb=>?_,λf hf=>?_,λf hf g hg e=>h.uniq f (hF' f hf) g (hF' g hg) e,hc2,λf hf=>h.dN f (hF' f hf),λf hf hl t ht=>?_,λf hf=>?_,λf hf=>h.keys f (hF' f hf)⟩ hk
  . rcases a0I hj with rfl|hj
    . exact List.mem_cons_self ..
    . exact List.mem_cons_of_mem _ (h.sub j hj)
  . rcases List.mem_cons.1 hj with rfl|hj
    . exact(Array.getElem?_eq_some_iff.1 ho).1
    . exact h.lcs j hj
  . rcases List.mem_cons.1 hj with rfl|hj
    . exact .inl (a6Q hlt)
    . rcases h.cov j hj with h1|⟨f,hf,rfl⟩
      . exact .inl (I0 h1)
      . rcases hMF f hf with h2|h2
        . exact .inl (I0 (hlis _ (hM f h2).2))
        . exact .inr ⟨f,h2,rfl⟩
  . rcases a0I hj with rfl|hj
    . rw[ho] at ho';cases ho'
      exact I0 (hrl e he hb)
    . exact I0 (h.closed j o' hj ho' e he hb)
  . obtain⟨h1,o',h2,h3,h4⟩:=h.inF f (hF' f hf)
    exact⟨List.mem_cons_of_mem _ h1,o',h2,h3,λe he hb=>List.mem_cons_of_mem _ (h4 e he hb)⟩
  . obtain⟨h1,o',h2,h3,h4⟩:=h.inF f (hF' f hf)
    have hne:f.i≠i:=λe=>hi (e▸h1)
    have hl:l.getD f.i false=true:=(a0I hl).resolve_left hne
    rw[slot t (hs.one i f.i o o' t ho h2 (Ne.symm hne) (h3.trans ht))]
    exact move hf (h.keys f (hF' f hf)) (h.val f (hF' f hf) hl t ht)
  . obtain ⟨need,h1,h2,h3⟩:=h.able f (hF' f hf)
    obtain⟨hflc,of,hof,hofd,hofa⟩:=h.inF f (hF' f hf)
    have hne:f.i≠i:=λe=>hi (e▸hflc)
    refine⟨need,λγ V W O' a hag=>h1 γ V W O' a λn hn=>(hag n hn).trans (hst n (hd1 f hf n hn)),h2,λhl p hp=>?_⟩
    have hul:=b1G hl
    rcases h3 hul p hp with⟨g,hg',t,o',e1,e2,e3,e4,e5⟩|⟨e1,e2⟩
    . rcases hMF g hg' with hgM|hgF
      . -- its value is there
        have hgl:=hlis _ (hM g hgM).2
        obtain⟨hglc,og,hog,hogd,_⟩:=h.inF g hg'
        have hgi:g.i≠i:=λe=>hi (e▸hglc)
        refine .inr ⟨?_,λt' ht' j w hw hwd=>?_⟩
        . have hx:(a.put o.dst v).eval p.1=a.tmps.getD t undef:=by
           rw[e1];exact slot t (hs.one i g.i o og t ho hog (Ne.symm hgi) (hogd.trans e2))
          rw[hx]
          exact move hf (λn hn=>h2 p hp n hn) (e5 _ _ _ (h.val g hg' hgl t e2))
        . rw[e1] at ht';cases ht'
          by_cases e:j=g.i
          . rw[e];exact .inl (I0 hgl)
          . exact absurd (hogd.trans e2) (hs.one g.i j og w t hog hw (Ne.symm e) hwd)
      . exact .inl ⟨g,hgF,t,o',e1,e2,e3,e4,e5⟩
    . refine .inr ⟨?_,λt ht j w hw hwd=>(e2 t ht j w hw hwd).imp I0 id⟩
      rw[ev p.1 λt ht hod=>?_]
      . exact move hf (λn hn=>h2 p hp n hn) e1
      . rcases e2 t ht i o ho hod with h6|h6|h6
        . rw[hil] at h6;cases h6
        . exact hne h6.symm
        . rw[hon h6] at hul;cases hul
 have hpan:NxP (a0w C γ V W st) (λd st2=>match a1y st.pins st2.pins with|true=>kp d ⟨st2.L,st2.O,st.pins⟩|false=>False) Q:=by
  intro γ' st2 V' a' W' v d hr2 hd hk
  split at hk
  . rename_i hc
    exact hp _ _ _ _ _ _ _ (b2K h.rel hr2 (a9n hc)) hd hk
  . exact hk.elim
 have key:=b4i (C:=a0w C γ V W st) (Q:=Q) (next:=K1) hT hin hv (λγ' st2 V' a' W' hr2 hk=>⟨γ',V',st2,hr2,hk⟩) hpan
 simp only[wpOpIn,ho]
 split at key
 . rename_i hw
   rw[if_pos hw]
   refine Oper.wpIn_mono (λa' W' hh=>?_) (c5a (K:=K1) key).2
   obtain⟨hh,v,e⟩:=hh;exact fin a' W' v hh e
 . rename_i hw
   rw[if_neg hw]
   exact⟨λ_ _=>trivial,fin _ _ undef key rfl⟩
theorem c0E:∀(n:Nat) (J:List Nat),J.Nodup->(∀j∈J,j<n)->J.length<=n:=by
 intro n
 induction n with
 | zero=>intro J _ h;cases J with
   |nil=>simp
   |cons j J=>exact absurd (h j (List.mem_cons_self ..)) (Nat.not_lt_zero _)
 | succ n ih=>
   intro J hJ h
   have h1:=ih (J.erase n) (hJ.erase n) λj hj=>by
    have h2:=h j (List.mem_of_mem_erase hj)
    have:j≠n:=λe=>by subst e;exact(List.Nodup.not_mem_erase hJ) hj
    omega
   have h2:J.length<=(J.erase n).length+1:=by
    rw[List.length_erase];split<;>omega
   omega
theorem b7v (hT:TOk P T)(hs:Static ops){kp:D->SSt->Prop}{k:SSt->Prop}(hp:NxP C kp Q)(hn:∀γ st V a W,Rel C γ st V a W->k st->Q .normal a W):∀(fuel:Nat) {r:List Stp} {γ:Gm} {V:Know} {a:Act} {W:World} {lc:List Nat} {l:Array Bool} {F:List Fl} {st:SSt},
 Inv P ops C γ V a W lc l F st->L6 ops r lc=true->vcD P T C.N cf ops kp r F st k->(∀J:List Nat,J.Nodup->(∀j∈J,l.getD j true=false)->J.length<=fuel)->wpAnyIn (fen C) 0 P .any ops Q fuel l a W:=by
 have last:∀{r:List Stp} {γ:Gm} {V:Know} {a:Act} {W:World} {lc:List Nat} {l:Array Bool} {F:List Fl} {st:SSt},
  Inv P ops C γ V a W lc l F st->L6 ops r lc=true->vcD P T C.N cf ops kp r F st k->Region.ready .any ops l=[]->Q .normal a W:=by
  intro r γ V a W lc l F st h hb hv hr
  obtain⟨r,lc,F,st,hne,hb,hv,h⟩:=adv hT hs r h hb hv
  have hall:=b8S hs h hr
  cases r with
  | nil=>
    have hv:X0 F st.L λL=>k ⟨L,st.O,st.pins⟩:=hv
    rw[a9l] at hv
    refine hn γ _ V a W (K6 h.rel (L':=w8 F st.L) (O':=st.O) (b0t h hall) (λn x hx=>⟨h.rel.own n x hx,x,hx⟩)) hv
  | cons s r=>
    cases s with
    |p i=>exact absurd rfl (hne i r)
    | s i anc=>
      simp only[L6,Bool.and_eq_true] at hb
      obtain⟨hi,o,ho,hoa⟩:=rdy_run.1 hb.1
      have hlt:i<l.size:=by rw[h.size];exact(Array.getElem?_eq_some_iff.1 ho).1
      have hil:l.getD i false=false:=by
       cases e:l.getD i false with
       |false=>rfl
       |true=>exact absurd (h.sub i e) hi
      have:i∈Region.ready .any ops l:=mem_ready.2 ⟨b1F hil hlt,o,ho,λe he hb=>by
       rcases h.cov e.on (hoa e he hb) with h3|⟨g,hg,hgi⟩
       . exact h3
       . rw[<-hgi];exact hall g hg⟩
      rw[hr] at this;cases this
 have less:∀{n i:Nat} {l:Array Bool},l.getD i true=false->(∀J:List Nat,J.Nodup->(∀j∈J,l.getD j true=false)->J.length<=n+1)->
  ∀J:List Nat,J.Nodup->(∀j∈J,(l.setIfInBounds i true).getD j true=false)->J.length<=n:=by
  intro n i l hi hb J hJ hj
  have hlt:=(a6P hi).2
  have hni:i∉J:=λhm=>by
   have:=hj i hm
   simp[hlt] at this
  have:=hb (i::J) (List.nodup_cons.2 ⟨hni,hJ⟩) λj hm=>by
   rcases List.mem_cons.1 hm with rfl|hm
   . exact hi
   . have h1:=hj j hm
     have hne:i≠j:=λe=>hni (e▸hm)
     rwa[getD_set_ne true hne] at h1
  simp only[List.length_cons] at this
  omega
 intro fuel
 induction fuel with
 | zero=>
   intro r γ V a W lc l F st h hb hv hf
   have hr:Region.ready .any ops l=[]:=by
    cases hr:Region.ready .any ops l with
    |nil=>rfl
    | cons i is=>
      have hi:i∈Region.ready .any ops l:=by rw[hr];exact List.mem_cons_self ..
      have:=hf [i] (List.nodup_cons.2 ⟨by simp,List.nodup_nil⟩) λj hj=>by
       obtain rfl:=List.mem_singleton.1 hj
       exact(mem_ready.1 hi).1
      simp at this
   exact⟨hr,last h hb hv hr⟩
 | succ n ih=>
   intro r γ V a W lc l F st h hb hv hf
   refine⟨λhr=>last h hb hv hr,λi hi=>?_⟩
   obtain⟨r,lc,F,st,hne,hb,hv,h⟩:=adv hT hs r h hb hv
   obtain⟨hun,o,ho,hrl⟩:=mem_ready.1 hi
   have hul:=(a6P hun).1
   have hlt:i<ops.size:=(Array.getElem?_eq_some_iff.1 ho).1
   have float:i∈lc->wpOpIn (fen C) 0 P ops Q i (wpAnyIn (fen C) 0 P .any ops Q n (l.setIfInBounds i true)) a W:=by
    intro hlc
    rcases h.cov i hlc with h1|⟨f,hf',rfl⟩
    . rw[hul] at h1;cases h1
    . obtain⟨v,V',W',hrun,h'⟩:=b1j hs h hf' hul λo' ho'=>by
       rw[ho] at ho';cases ho';exact hrl
      exact hrun _ _ (ih h' hb hv (less hun hf))
   cases r with
   | nil=>
     refine float (memB_mem.1 ?_)
     exact List.all_eq_true.1 hb i (List.mem_range.2 hlt)
   | cons s r=>
     cases s with
     |p j=>exact absurd rfl (hne j r)
     | s j anc=>
       by_cases hlc:i∈lc
       . exact float hlc
       . have hb':=hb
         simp only[L6,Bool.and_eq_true] at hb'
         obtain⟨hj,hall,hanc,hb2⟩:=hb'
         have hij:j=i:=by
          have h1:=List.all_eq_true.1 hall i (List.mem_range.2 hlt)
          rw[Bool.or_eq_true] at h1
          rcases h1 with h1|h1
          . exact(Nat.eq_of_beq_eq_true h1).symm
          . have:Z0 ops lc i=true:=rdy_run.2 ⟨hlc,o,ho,λe he hb=>h.sub _ (hrl e he hb)⟩
            rw[this] at h1;cases h1
         subst hij
         obtain⟨_,o',ho',hoa⟩:=rdy_run.1 hj
         rw[ho] at ho';cases ho'
         exact c2R hT hs h ho hlc hoa hrl hanc hv hp λγ' V' a' W' F' st' h' hv'=>ih h' hb2 hv' (less hun hf)
theorem k9 (hT:TOk P T)(hm:P.follows .mixedOrders=true)(r:List Stp){id:Nat}{Q:p5}(hb:(b3o ops&&L6 ops r [])=true)
 (h:vcD P T C.N cf ops (λd st=>Q (.pan d) st) r [] st λst=>Q .nrm st):J P C (.region id ops true) Q st:=by
 simp only[Bool.and_eq_true] at hb
 refine⟨λγ V a W hr=>wpIn_region_any hm ?_⟩
 have hr':Rel C γ st V a {W with drawn:=W.drawn+1}:=M7 hr ⟨⟨rfl,rfl,rfl,Nat.le_refl _,λ_ _=>rfl⟩,Fresh.refl V _ _,⟨λb o v hc=>hr.sees.cell b o v hc,λr x hx=>hr.sees.obj r x hx,hr.sees.lib,hr.sees.keepRow λ_ _ _ _=>rfl⟩⟩
 refine b7v (C:=C) hT (c2K hb.1) (k:=λst=>Q .nrm st) (kp:=λd st=>Q (.pan d) st) (λγ' st' V' a' W' v d hr' hv hk=>⟨γ',st',V',v,d,rfl,hv,hr',hk⟩) (λγ st V a W hr hk=>⟨γ,st,V,hr,hk⟩) ops.size (r:=r) (γ:=γ) (V:=V) (lc:=[]) (F:=[]) (st:=st) ?_ hb.2 h ?_
 . have no:∀j,(Array.replicate ops.size false).getD j false=true->False:=λj hj=>by
    by_cases e:j<ops.size<;>simp[e] at hj
   exact⟨hr',by simp,λj hj=>(no j hj).elim,by simp,by simp,λj o hj=>(no j hj).elim,by simp,by simp,by simp,by simp,by simp,by simp,by simp⟩
 . intro J hJ hj
   refine c0E _ J hJ λj hm=>?_
   have:=(a6P (hj j hm)).2
   simpa using this
end
end Go.Proofs.YteillnfhkeebjaaGreatDoor.Dx
