/- The executor over data,part P: regions that draw their order. -/
import Derived.Test.YtaopegkpjhkooaaGreatDoorFf
import Derived.Orders
set_option linter.all false
namespace Go.Proofs.YtaopegkpjhkooaaGreatDoor.Dx
open Go Go.RowKit
inductive Stp where
 |p (i:Nat)
 |s (i:Nat) (anc:List Nat)
structure Fl where
 i:Nat
 dst:Option Nat
 b:Base
 keys:List Nat
 dep:List Nat
def onB (o:Oper)(j:Nat):Bool:=o.after.toList.any λe=>Region.binds .any e&&Nat.beq e.on j
def a7R (ops:Array Oper)(i j:Nat)(o w:Oper):Bool:=
 match Nat.beq i j,w.dst with
 |true,_=>true
 |false,none=>true
 |false,some t=>(match o.dst with|some d=> !Nat.beq d t|none=>true)&&(!o4 t (o.looksAt ops)||(onB o j||onB w i))
def b3k (ops:Array Oper):Bool:=
 (List.range ops.size).all λi=>match ops[i]? with
   |none=>true
   | some o=>(o.after.toList.all λe=> !Region.binds .any e||Nat.blt e.on i)&&
     (List.range ops.size).all λj=>match ops[j]? with
       |none=>true
       |some w=>a7R ops i j o w
def a1y (ops:Array Oper)(lc:List Nat)(i:Nat):Bool:=
 (!o4 i lc)&&match ops[i]? with
   |none=>false
   |some o=>o.after.toList.all λe=> !Region.binds .any e||o4 e.on lc
def a3k (ops:Array Oper):List Nat->List Nat->Bool
 |_,[]=>true
 |dn,a::r=>(dn.any λj=>match ops[j]? with|some o=>onB o a|none=>false)&&a3k ops (a::dn) r
def T7 (ops:Array Oper):List Stp->List Nat->Bool
 |[],lc=>(List.range ops.size).all λj=>o4 j lc
 | .p i::r,lc=>a1y ops lc i&&T7 ops r (i::lc)
 | .s i anc::r,lc=>a1y ops lc i&&(((List.range ops.size).all λj=>Nat.beq j i|| !a1y ops lc j)&&(a3k ops [i] anc&&T7 ops r (i::lc)))
def D0:List Fl->List (Nat×Base)->List (Nat×Base)
 |[],L=>L
 |⟨_,some t,b,_,_⟩::F,L=>(t,b)::D0 F L
 |⟨_,none,_,_,_⟩::F,L=>D0 F L
def a0Y:List Fl->List (Nat×Base)->(List (Nat×Base)->Prop)->Prop
 |[],L,k=>k L
 |⟨_,some t,b,_,_⟩::F,L,k=>a0Y F L λL=>k ((t,b)::L)
 |⟨_,none,_,_,_⟩::F,L,k=>a0Y F L k
def a7k (d:Option Nat)(k:Option Nat->Prop):Prop:=match d with|none=>k none|some t=>k (some t)
theorem b1g (d:Option Nat)(k:Option Nat->Prop):a7k d k=k d:=by cases d<;>rfl
def a0l:List Nat->List Nat->(List Nat->Prop)->Prop
 |[],l,k=>k l
 | n::r,l,k=>match o4 n l with
   |true=>a0l r l k
   |false=>a0l r (n::l) k
def a5i (n:Nat):List (Nat×Base)->(List (Nat×Base)->Prop)->Prop
 |[],k=>k []
 | (t,b)::l,k=>a5i n l λl'=>match Nat.beq t n with
   |true=>k l'
   |false=>k ((t,b)::l')
def a6Z (d:Option Nat)(L:List (Nat×Base))(k:List (Nat×Base)->Prop):Prop:=
 match d with
 |none=>k L
 |some t=>a5i t L k
def rfF (c:Nat)(b:Bool)(f:Fl):Fl:=
 match f.dst with
 | some t=>match Nat.beq t c with
   |true=>⟨f.i,f.dst, .d (.bl b),f.keys,f.dep⟩
   |false=>f
 |none=>f
def a5N (c:Nat)(b:Bool):List Fl->(List Fl->Prop)->Prop
 |[],k=>k []
 | f ::F,k=>a5N c b F λF=>match f.dst with
   | some t=>match Nat.beq t c with
     |true=>k (⟨f.i,f.dst, .d (.bl b),f.keys,f.dep⟩::F)
     |false=>k (f::F)
   |none=>k (f::F)
def a8s (anc:List Nat):List Fl->(List Fl->List Fl->Prop)->Prop
 |[],k=>k [] []
 | f::F,k=>a8s anc F λM F=>match o4 f.i anc with
   |true=>k (f::M) F
   |false=>k M (f::F)
def a7C:List Fl->List Nat->(List Nat->Prop)->Prop
 |[],l,k=>k l
 |f::F,l,k=>a0l f.keys l λl=>a7C F l k
def a5e:List Fl->List Nat->(List Nat->Prop)->Prop
 |[],l,k=>k l
 |f::F,l,k=>a0l f.dep l λl=>a5e F l k
noncomputable def a6a (O O':List (Nat×Blk)):List Nat->Prop->Prop
 |[],k=>k
 |n::r,k=>c8 n O'=c8 n O/\a6a O O' r k
def eqB (b w:Bool):Bool:=match b,w with|true,true=>true|false,false=>true|true,false=>false|false,true=>false
def a3i (l m:List Nat):Bool:=l.all λn=>o4 n m
noncomputable def a7O (F:List Fl)(L:List (Nat×Base)):Bool:=F.all λf=>match f.dst with
 |none=>true
 |some t=>match c8 t L with|none=>true|some _=>false
noncomputable def gd1 (w:Bool)(b:Base)(F:List Fl)(st:SSt)(set:Bool->(List Fl->SSt->Prop)->Prop)(k:Bool->List Fl->SSt->Prop):Prop:=
 match b with
 | .d (.bl b)=>match eqB b w with
   |true=>k true F st
   |false=>k false F st
 | .d (.v (.bool b))=>(b=true->set true λF st=>match w with|true=>k true F st|false=>k false F st)/\(b=false->set false λF st=>match w with|true=>k false F st|false=>k true F st)
 | .d (.tup [])=>k false F st
 |_=>False
noncomputable def a8X (ops:Array Oper)(g:Option (Nat×Bool))(F:List Fl)(st:SSt)(k:Bool->List Fl->SSt->Prop):Prop:=
 match g with
 |none=>k true F st
 | some (j,w)=>match(ops[j]?).bind (·.dst) with
   |none=>False
   | some c=>match c8 c (D0 F []) with
     |some b=>gd1 w b F st (λx k=>a5N c x F λF=>k F st) k
     | none=>match c8 c st.L with
       |some b=>gd1 w b F st (λx k=>k F (put st (some c) (.d (.bl x)))) k
       |none=>False
noncomputable def vcD (P:Program)(T:List (Nat×TI))(N:Nat)(cf:Cfg)(ops:Array Oper)(kp:D->SSt->Prop):List Stp->List Fl->SSt->(SSt->Prop)->Prop
 |[],F,st,k=>a0Y F st.L λL=>k ⟨L,st.O,st.pins⟩
 | .p i ::r,F,st,k=>match ops[i]? with
   |none=>False
   | some o=>match(match o.dst with|some d=>Nat.blt d N|none=>true) with
     |false=>False
     | true=>a8X ops o.guard F st λrun F st=>match run with
       |false=>a6Z o.dst st.L λL=>a7k o.dst λd=>Z5 ⟨L,st.O,st.pins⟩ λst=>vcD P T N cf ops kp r (⟨i,d, .d (.tup []),[],[]⟩::F) st k
       | true=>F2 ⟨D0 F st.L,[],[]⟩ o.op.operands.toList λbs=>vcV T cf st.O o.op bs λb=>a1k b λb=>a0l (bs.flatMap r5) (r5 b) λks=>a0l (U0 T st.O o.op bs) [] λdp=>
         a6Z o.dst st.L λL=>a7k o.dst λd=>Z5 ⟨L,st.O,st.pins⟩ λst=>vcD P T N cf ops kp r (⟨i,d,b,ks,dp⟩::F) st k
 | .s i anc::r,F,st,k=>match ops[i]? with
   |none=>False
   | some o=>a8s anc F λM F=>a0Y M st.L λL=>a7C F st.pins λps=>
     a2S P T N cf ops o ⟨L,st.O,ps⟩ (λst2=>match a3i ps st2.pins&&a7O F st2.L with
      |true=>a5e F [] λdp=>a6a st.O st2.O dp (Z5 ⟨st2.L,st2.O,st.pins⟩ λst3=>vcD P T N cf ops kp r F st3 k)
      |false=>False) (λd st2=>match a3i st.pins st2.pins with
      |true=>kp d ⟨st2.L,st2.O,st.pins⟩
      |false=>False)
section
theorem a9L:∀(F:List Fl) (L:List (Nat×Base)) (k:List (Nat×Base)->Prop),a0Y F L k=k (D0 F L):=by
 intro F
 induction F with
 |nil=>intro L k;rfl
 | cons f F ih=>
   intro L k
   obtain⟨i,d,b,ks,dp⟩:=f
   cases d<;>simp only[a0Y,ih,D0]
theorem c0G (c:Nat)(b:Bool):∀(F:List Fl) (k:List Fl->Prop),a5N c b F k=k (F.map (rfF c b)):=by
 intro F
 induction F with
 |nil=>intro k;rfl
 | cons f F ih=>
   intro k
   simp only[a5N,ih,List.map_cons,rfF]
   cases f.dst with
   |none=>rfl
   |some t=>dsimp only;cases Nat.beq t c<;>rfl
theorem a4I:∀(m:List Nat) {l:List Nat} {k:List Nat->Prop},a0l m l k->∃l',k l'/\(∀n∈m,n∈l')/\∀n∈l,n∈l':=by
 intro m
 induction m with
 |nil=>intro l k h;exact⟨l,h,by simp,λn h=>h⟩
 | cons x m ih=>
   intro l k h
   simp only[a0l] at h
   split at h
   . rename_i hm
     obtain⟨l',h1,h2,h3⟩:=ih h
     refine⟨l',h1,λn hn=>?_,h3⟩
     rcases List.mem_cons.1 hn with rfl|hn
     . exact h3 n (memB_mem.1 hm)
     . exact h2 n hn
   . obtain⟨l',h1,h2,h3⟩:=ih h
     refine⟨l',h1,λn hn=>?_,λn hn=>h3 n (List.mem_cons_of_mem _ hn)⟩
     rcases List.mem_cons.1 hn with rfl|hn
     . exact h3 n (List.mem_cons_self ..)
     . exact h2 n hn
theorem b8i:∀(F:List Fl) {l:List Nat} {k:List Nat->Prop},a7C F l k->∃l',k l'/\(∀f∈F,∀n∈f.keys,n∈l')/\∀n∈l,n∈l':=by
 intro F
 induction F with
 |nil=>intro l k h;exact⟨l,h,by simp,λn h=>h⟩
 | cons f F ih=>
   intro l k h
   obtain⟨l1,h,h1,h2⟩:=a4I _ h
   obtain⟨l',h3,h4,h5⟩:=ih h
   refine⟨l',h3,λg hg n hn=>?_,λn hn=>h5 n (h2 n hn)⟩
   rcases List.mem_cons.1 hg with rfl|hg
   . exact h5 n (h1 n hn)
   . exact h4 g hg n hn
theorem b6D:∀(F:List Fl) {l:List Nat} {k:List Nat->Prop},a5e F l k->∃l',k l'/\(∀f∈F,∀n∈f.dep,n∈l')/\∀n∈l,n∈l':=by
 intro F
 induction F with
 |nil=>intro l k h;exact⟨l,h,by simp,λn h=>h⟩
 | cons f F ih=>
   intro l k h
   obtain⟨l1,h,h1,h2⟩:=a4I _ h
   obtain⟨l',h3,h4,h5⟩:=ih h
   refine⟨l',h3,λg hg n hn=>?_,λn hn=>h5 n (h2 n hn)⟩
   rcases List.mem_cons.1 hg with rfl|hg
   . exact h5 n (h1 n hn)
   . exact h4 g hg n hn
theorem c2a {anc:List Nat}:∀(F:List Fl) {k:List Fl->List Fl->Prop},a8s anc F k->∃M F',k M F'/\(∀f∈M,f∈F/\f.i∈anc)/\(∀f∈F',f∈F)/\∀f∈F,f∈M\/f∈F':=by
 intro F
 induction F with
 |nil=>intro k h;exact⟨[],[],h,by simp,by simp,by simp⟩
 | cons f F ih=>
   intro k h
   obtain⟨M,F',h,h1,h2,h3⟩:=ih h
   split at h
   . rename_i hm
     refine⟨_,_,h,λg hg=>?_,λg hg=>List.mem_cons_of_mem _ (h2 g hg),λg hg=>?_⟩
     . rcases List.mem_cons.1 hg with rfl|hg
       . exact⟨List.mem_cons_self ..,memB_mem.1 hm⟩
       . exact⟨List.mem_cons_of_mem _ (h1 g hg).1,(h1 g hg).2⟩
     . rcases List.mem_cons.1 hg with rfl|hg
       . exact .inl (List.mem_cons_self ..)
       . exact(h3 g hg).imp (List.mem_cons_of_mem _) id
   . refine ⟨_,_,h,λg hg=>⟨List.mem_cons_of_mem _ (h1 g hg).1,(h1 g hg).2⟩,λg hg=>?_,λg hg=>?_⟩
     . rcases List.mem_cons.1 hg with rfl|hg
       . exact List.mem_cons_self ..
       . exact List.mem_cons_of_mem _ (h2 g hg)
     . rcases List.mem_cons.1 hg with rfl|hg
       . exact .inr (List.mem_cons_self ..)
       . exact(h3 g hg).imp id (List.mem_cons_of_mem _)
theorem b6S {n:Nat}:∀{l:List (Nat×Base)} {k:List (Nat×Base)->Prop},a5i n l k->∃l',k l'/\∀t b,c8 t l'=some b->t≠n/\c8 t l=some b:=by
 intro l
 induction l with
 |nil=>intro k h;exact⟨[],h,λt b h=>by rw[o6] at h;cases h⟩
 | cons p l ih=>
   obtain⟨d,y⟩:=p
   intro k h
   simp only[a5i] at h
   obtain⟨l',h,hl⟩:=ih h
   split at h
   . rename_i hdn
     have hdn:=Nat.eq_of_beq_eq_true hdn
     refine⟨l',h,λt b hb=>?_⟩
     obtain⟨h1,h2⟩:=hl t b hb
     exact⟨h1,by rw[j6 (λe=>h1 (by rw[<-e,hdn]))];exact h2⟩
   . rename_i hdn
     have hdn:=a0q hdn
     refine⟨_,h,λt b hb=>?_⟩
     by_cases e:d=t
     . subst e;rw[p8] at hb;cases hb;exact⟨hdn,p8 ..⟩
     . rw[j6 e] at hb;rw[j6 e];exact hl t b hb
theorem b0H {d:Option Nat}{l:List (Nat×Base)}{k:List (Nat×Base)->Prop}(h:a6Z d l k):∃l',k l'/\∀t b,c8 t l'=some b->d≠some t/\c8 t l=some b:=by
 cases d with
 |none=>exact⟨l,h,λt b hb=>⟨by simp,hb⟩⟩
 | some n=>
   obtain⟨l',h1,h2⟩:=b6S h
   exact⟨l',h1,λt b hb=>⟨λe=>(h2 t b hb).1 (by cases e;rfl),(h2 t b hb).2⟩⟩
theorem c2e {O O':List (Nat×Blk)}:∀(l:List Nat) {k:Prop},a6a O O' l k->k/\∀n∈l,c8 n O'=c8 n O:=by
 intro l
 induction l with
 |nil=>intro k h;exact⟨h,by simp⟩
 | cons n l ih=>
   intro k h
   obtain⟨h1,h2⟩:=h
   obtain⟨h3,h4⟩:=ih h2
   refine⟨h3,λm hm=>?_⟩
   rcases List.mem_cons.1 hm with rfl|hm
   . exact h1
   . exact h4 m hm
theorem a3P {t:Nat}{b:Base}:∀{F:List Fl} {L:List (Nat×Base)},c8 t (D0 F L)=some b->(∃f∈F,f.dst=some t/\f.b=b)\/((∀f∈F,f.dst≠some t)/\c8 t L=some b):=by
 intro F
 induction F with
 |nil=>intro L h;exact .inr ⟨by simp,h⟩
 | cons f F ih=>
   intro L h
   have up:c8 t (D0 F L)=some b->f.dst≠some t->(∃g∈f::F,g.dst=some t/\g.b=b)\/((∀g∈f::F,g.dst≠some t)/\c8 t L=some b):=by
    intro h hne
    rcases ih h with⟨g,hg,h1⟩|⟨h1,h2⟩
    . exact .inl ⟨g,List.mem_cons_of_mem _ hg,h1⟩
    . refine .inr ⟨λg hg=>?_,h2⟩
      rcases List.mem_cons.1 hg with rfl|hg
      . exact hne
      . exact h1 g hg
   obtain⟨i,d,b',ks,dp⟩:=f
   cases d with
   | some d=>
     simp only[D0] at h
     by_cases e:d=t
     . subst e
       rw[p8] at h
       cases h
       exact .inl ⟨_,List.mem_cons_self ..,rfl,rfl⟩
     . rw[j6 e] at h
       exact up h (by simpa using e)
   | none=>
     simp only[D0] at h
     exact up h (by simp)
theorem a9N {l m:List Nat}(h:a3i l m=true):∀n∈l,n∈m:=λn hn=>memB_mem.1 (List.all_eq_true.1 h n hn)
theorem b9r {F:List Fl}{L:List (Nat×Base)}(h:a7O F L=true):∀f∈F,∀t,f.dst=some t->c8 t L=none:=by
 intro f hf t ht
 have:=List.all_eq_true.1 h f hf
 simp only[ht] at this
 split at this
 . assumption
 . cases this
theorem onB_iff {o:Oper}{j:Nat}:onB o j=true↔∃e∈o.after,Region.binds .any e=true/\e.on=j:=by
 simp only[onB,List.any_eq_true,Bool.and_eq_true,Array.mem_toList_iff]
 constructor
 . rintro⟨e,h1,h2,h3⟩;exact⟨e,h1,h2,Nat.eq_of_beq_eq_true h3⟩
 . rintro⟨e,h1,h2,rfl⟩;exact⟨e,h1,h2,Nat.beq_refl _⟩
end
structure Static (ops:Array Oper):Prop where
 back:∀(i:Nat) o,ops[i]?=some o->∀e∈o.after,Region.binds .any e=true->e.on<i
 one:∀(i j:Nat) o w t,ops[i]?=some o->ops[j]?=some w->i≠j->w.dst=some t->o.dst≠some t
 meet:∀(i j:Nat) o w t,ops[i]?=some o->ops[j]?=some w->i≠j->w.dst=some t->t∈o.looksAt ops->onB o j=true\/onB w i=true
theorem c2f {ops:Array Oper}(h:b3k ops=true):Static ops:=by
 have lt:∀{i:Nat} {o:Oper},ops[i]?=some o->i∈List.range ops.size:=λho=>List.mem_range.2 (Array.getElem?_eq_some_iff.1 ho).1
 have key:∀(i:Nat) o,ops[i]?=some o->(o.after.toList.all λe=> !Region.binds .any e||Nat.blt e.on i)=true/\∀(j:Nat) w,ops[j]?=some w->a7R ops i j o w=true:=by
  intro i o ho
  have h1:=List.all_eq_true.1 h i (lt ho)
  simp only[ho,Bool.and_eq_true] at h1
  refine⟨h1.1,λj w hw=>?_⟩
  have h2:=List.all_eq_true.1 h1.2 j (lt hw)
  simpa only[hw] using h2
 have pr:∀(i j:Nat) o w t,ops[i]?=some o->ops[j]?=some w->i≠j->w.dst=some t->o.dst≠some t/\(t∈o.looksAt ops->onB o j=true\/onB w i=true):=by
  intro i j o w t ho hw hne ht
  have h1:=(key i o ho).2 j w hw
  have hb:Nat.beq i j=false:=by
   cases hb:Nat.beq i j with
   |false=>rfl
   |true=>exact absurd (Nat.eq_of_beq_eq_true hb) hne
  simp only[a7R,hb,ht,Bool.and_eq_true,Bool.or_eq_true,Bool.not_eq_true'] at h1
  refine⟨λe=>?_,λhm=>?_⟩
  . have h2:=h1.1
    rw[e] at h2
    simp only[Nat.beq_refl] at h2
    cases h2
  . rcases h1.2 with h2|h2
    . rw[memB_mem.2 hm] at h2;cases h2
    . exact h2
 refine⟨λi o ho e he hb=>?_,λi j o w t a b c d=>(pr i j o w t a b c d).1,λi j o w t a b c d=>(pr i j o w t a b c d).2⟩
 have h1:=List.all_eq_true.1 (key i o ho).1 e (by simpa using he)
 simp only[hb,Bool.not_true,Bool.false_or] at h1
 exact Nat.le_of_ble_eq_true h1
theorem rdy_run {ops:Array Oper}{lc:List Nat}{i:Nat}:a1y ops lc i=true↔i∉lc/\∃o,ops[i]?=some o/\∀e∈o.after,Region.binds .any e=true->e.on∈lc:=by
 unfold a1y
 rw[Bool.and_eq_true,Bool.not_eq_true']
 have hm:o4 i lc=false↔i∉lc:=by rw[<-memB_mem];simp
 rw[hm]
 refine and_congr_right λ_=>?_
 cases ho:ops[i]? with
 |none=>simp
 | some o=>
   simp only[Option.some.injEq,exists_eq_left',List.all_eq_true,Array.mem_toList_iff,Bool.or_eq_true,Bool.not_eq_true']
   constructor
   . intro h e he hb
     rcases h e he with h|h
     . rw[hb] at h;cases h
     . exact memB_mem.1 h
   . intro h e he
     cases hb:Region.binds .any e with
     |false=>exact .inl rfl
     |true=>exact .inr (memB_mem.2 (h e he hb))
end Go.Proofs.YtaopegkpjhkooaaGreatDoor.Dx
/- The executor over data,part Q: regions that draw their order: what stays true. -/
namespace Go.Proofs.YtaopegkpjhkooaaGreatDoor.Dx
open Go Go.RowKit
def a9m (P:Program)(ops:Array Oper)(O:List (Nat×Blk))(f:Fl)(need:List (Operand×Base)):Prop:=
 ∀ (γ:Gm) (V:Know) (W:World) (O':List (Nat×Blk)) (a:Act),E3 O O' f.dep->Sees V W->p7 γ V W O'->(∀p∈need,RVb γ V p.2 (a.eval p.1))->
   ∃v V' W',Grow V W V' W'/\RVb γ V' f.b v/\∀(C:Cx) (K:Act->World->Prop) (Q:Exit->Act->World->Prop),K (a.put f.dst v) W'->wpOpIn (fen C) 0 P ops Q f.i K a W
def a1S (ops:Array Oper)(γ:Gm)(V:Know)(a:Act)(F:List Fl)(l:Array Bool)(f:Fl)(p:Operand×Base):Prop:=
 (∃g∈F,∃t o,p.1= .tmp t/\g.dst=some t/\ops[f.i]?=some o/\onB o g.i=true/\∀γ V v,RVb γ V g.b v->RVb γ V p.2 v)\/
 (RVb γ V p.2 (a.eval p.1)/\∀t,p.1= .tmp t->∀j w,ops[j]?=some w->w.dst=some t->l.getD j false=true\/j=f.i\/onB w f.i=true)
structure Inv (P:Program) (ops:Array Oper) (C:Cx) (γ:Gm) (V:Know) (a:Act) (W:World) (lc:List Nat) (l:Array Bool) (F:List Fl) (st:SSt):Prop where
 rel:Rel C γ st V a W
 size:l.size=ops.size
 sub:∀j,l.getD j false=true->j∈lc
 lcs:∀j∈lc,j<ops.size
 cov:∀j∈lc,l.getD j false=true\/∃f∈F,f.i=j
 closed:∀j o,l.getD j false=true->ops[j]?=some o->∀e∈o.after,Region.binds .any e=true->l.getD e.on false=true
 inF:∀f∈F,f.i∈lc/\∃o,ops[f.i]?=some o/\o.dst=f.dst/\∀e∈o.after,Region.binds .any e=true->e.on∈lc
 uniq:∀f∈F,∀g∈F,f.i=g.i->f=g
 noL:∀f∈F,∀t,f.dst=some t->c8 t st.L=none
 dN:∀f∈F,∀t,f.dst=some t->t<C.N
 val:∀f∈F,l.getD f.i false=true->∀t,f.dst=some t->RVb γ V f.b (a.tmps.getD t undef)
 able:∀f∈F,∃need,a9m P ops st.O f need/\(∀p∈need,∀n,z1 n p.2=true->n∈f.keys)/\(l.getD f.i false=false->∀p∈need,a1S ops γ V a F l f p)
 keys:∀f∈F,∀n,z1 n f.b=true->n∈f.keys
section
variable {P:Program} {T:List (Nat×TI)} {cf:Cfg} {ops:Array Oper} {C:Cx} {γ:Gm} {V:Know} {a:Act} {W:World} {lc:List Nat} {l:Array Bool} {F:List Fl} {st:SSt} {Q:Exit->Act->World->Prop}
theorem a7F {j:Nat}(h:l.getD j true=false):l.getD j false=false/\j<l.size:=by
 have hj:j<l.size:=by
  rcases Nat.lt_or_ge j l.size with h'|h'
  . exact h'
  . simp[Array.getElem?_eq_none h'] at h
 refine⟨?_,hj⟩
 simp only[Array.getD_eq_getD_getElem?,Array.getElem?_eq_getElem hj,Option.getD_some] at h⊢
 exact h
theorem b1J {j:Nat}(h:l.getD j false=false)(hj:j<l.size):l.getD j true=false:=by
 simp only[Array.getD_eq_getD_getElem?,Array.getElem?_eq_getElem hj,Option.getD_some] at h⊢
 exact h
theorem a2w {i j:Nat}(h:(l.setIfInBounds i true).getD j false=true):j=i\/l.getD j false=true:=by
 by_cases e:i=j
 . exact .inl e.symm
 . rw[getD_set_ne false e] at h;exact .inr h
theorem a7G {i:Nat}(hi:i<l.size):(l.setIfInBounds i true).getD i false=true:=by simp[hi]
theorem Q2 {i j:Nat}(h:l.getD j false=true):(l.setIfInBounds i true).getD j false=true:=getD_set_true h
theorem b1K {i j:Nat}(h:(l.setIfInBounds i true).getD j false=false):l.getD j false=false:=by
 cases hl:l.getD j false with
 |false=>rfl
 |true=>rw[Q2 hl] at h;cases h
theorem b7c {d:Option Nat}{v:Value}{x:Operand}(hd:∀t,d=some t->t<a.tmps.size)(h:∀t,x= .tmp t->d≠some t):(a.put d v).eval x=a.eval x:=by
 cases x with
 | tmp t=>
   cases d with
   |none=>rfl
   | some d=>
     show(a.put (some d) v).tmps.getD t undef=a.tmps.getD t undef
     rw[a3Z (hd d rfl),if_neg (λe=>h t rfl (by rw[e]))]
 |_=>cases d<;>rfl
theorem c0P (hr:Rel C γ st V a W){d:Option Nat}(hd:∀t,d=some t->t<C.N)(hn:∀t,d=some t->c8 t st.L=none)(v:Value):Rel C γ st V (a.put d v) W:=by
 refine {hr with size:=by rw[put_size];exact hr.size,defers:=hr.defers.keep b2t λ_ h=>h,slots:=λt b hl=>?_}
 cases d with
 |none=>exact hr.slots t b hl
 | some d=>
   rw[a3Z (by rw[hr.size];exact hd d rfl)]
   by_cases e:t=d
   . subst e;rw[hn t rfl] at hl;cases hl
   . rw[if_neg e];exact hr.slots t b hl
theorem b1t (hs:Static ops)(h:Inv P ops C γ V a W lc l F st){f:Fl}(hf:f∈F)(hul:l.getD f.i false=false)
 (hrdy:∀o,ops[f.i]?=some o->∀e∈o.after,Region.binds .any e=true->l.getD e.on false=true):
 ∃v V' W',(∀(K:Act->World->Prop) (Q:Exit->Act->World->Prop),K (a.put f.dst v) W'->wpOpIn (fen C) 0 P ops Q f.i K a W)/\Inv P ops C γ V' (a.put f.dst v) W' lc (l.setIfInBounds f.i true) F st:=by
 obtain⟨need,hdo,hkeys,hneed⟩:=h.able f hf
 obtain⟨hlc,o,ho,hod,hoa⟩:=h.inF f hf
 have hlt:f.i<l.size:=by rw[h.size];exact(Array.getElem?_eq_some_iff.1 ho).1
 have hN:∀t,f.dst=some t->t<a.tmps.size:=λt ht=>by rw[h.rel.size];exact h.dN f hf t ht
 have hon:∀{j:Nat},onB o j=true->l.getD j false=true:=λhj=>by
  obtain⟨e,he,hb,rfl⟩:=onB_iff.1 hj
  exact hrdy o ho e he hb
 obtain ⟨v,V',W',hg,hv,hrun⟩:=hdo γ V W st.O a (λ_ _=>rfl) h.rel.sees h.rel.own λp hp=>by
  rcases hneed hul p hp with⟨g,hg,t,o',e1,e2,e3,e4,e5⟩|⟨h1,_⟩
  . rw[ho] at e3;cases e3
    rw[e1]
    exact e5 _ _ _ (h.val g hg (hon e4) t e2)
  . exact h1
 have hle:V.Le V':=hg.fresh.le
 refine⟨v,V',W',hrun C,c0P (U9 h.rel hg) (h.dN f hf) (h.noL f hf) v,by simp[h.size],λj hj=>?_,h.lcs,λj hj=>?_,λj o' hj ho' e he hb=>?_,h.inF,h.uniq,h.noL,h.dN,λg hg' hgl t ht=>?_,λg hg'=>?_,h.keys⟩
 . rcases a2w hj with rfl|hj
   . exact hlc
   . exact h.sub j hj
 . exact(h.cov j hj).imp Q2 id
 . rcases a2w hj with rfl|hj
   . exact Q2 (hrdy o' ho' e he hb)
   . exact Q2 (h.closed j o' hj ho' e he hb)
 . rcases a2w hgl with e|hgl
   . obtain rfl:=h.uniq g hg' f hf e
     rw[ht,a3Z (hN t ht),if_pos rfl]
     exact hv
   . have hne:g.i≠f.i:=λe=>by rw[e,hul] at hgl;cases hgl
     obtain⟨_,og,hog,hogd,_⟩:=h.inF g hg'
     have:=(h.val g hg' hgl t ht).mono hle
     cases hfd:f.dst with
     |none=>exact this
     | some d=>
       rw[a3Z (hN d hfd),if_neg (λe=>?_)]
       . exact this
       . subst e
         exact hs.one f.i g.i o og t ho hog (Ne.symm hne) (hogd.trans ht) (hod.trans hfd)
 . obtain ⟨need',h1,h2,h3⟩:=h.able g hg'
   refine⟨need',h1,h2,λhgu p hp=>?_⟩
   have hgu':=b1K hgu
   have hne:g.i≠f.i:=λe=>by rw[e,a7G hlt] at hgu;cases hgu
   rcases h3 hgu' p hp with h4|⟨h4,h5⟩
   . exact .inl h4
   . refine .inr ⟨?_,λt ht j w hw hwd=>(h5 t ht j w hw hwd).imp Q2 id⟩
     rw[b7c hN (λt ht hd=>?_)]
     . exact h4.mono hle
     . rcases h5 t ht f.i o ho (hod.trans hd) with h6|h6|h6
       . rw[hul] at h6;cases h6
       . exact hne h6.symm
       . rw[hon h6] at hgu';cases hgu'
theorem b7R (hs:Static ops)(h:Inv P ops C γ V a W lc l F st):∃V' a' W' l',Inv P ops C γ V' a' W' lc l' F st/\∀f∈F,l'.getD f.i false=true:=by
 have key:∀n,∃V' a' W' l',Inv P ops C γ V' a' W' lc l' F st/\∀f∈F,f.i<n->l'.getD f.i false=true:=by
  intro n
  induction n with
  |zero=>exact⟨V,a,W,l,h,λf hf hn=>absurd hn (Nat.not_lt_zero _)⟩
  | succ n ih=>
    obtain⟨V',a',W',l',h',hl⟩:=ih
    by_cases hex:∃f∈F,f.i=n/\l'.getD f.i false=false
    . obtain ⟨f,hf,hfi,hul⟩:=hex
      obtain⟨v,V2,W2,_,h2⟩:=b1t hs h' hf hul λo ho e he hb=>by
       obtain⟨_,o',ho',_,hoa⟩:=h'.inF f hf
       rw[ho] at ho';cases ho'
       have hlt:=hs.back f.i o ho e he hb
       rcases h'.cov e.on (hoa e he hb) with h3|⟨g,hg,hgi⟩
       . exact h3
       . rw[<-hgi];exact hl g hg (by omega)
      refine⟨V2,_,W2,_,h2,λg hg hn=>?_⟩
      by_cases e:g.i=f.i
      . have hlt:f.i<l'.size:=by
         obtain⟨_,o',ho',_⟩:=h'.inF f hf
         rw[h'.size];exact(Array.getElem?_eq_some_iff.1 ho').1
        rw[e];exact a7G hlt
      . exact Q2 (hl g hg (by omega))
    . refine ⟨V',a',W',l',h',λg hg hn=>?_⟩
      by_cases e:g.i=n
      . cases hgl:l'.getD g.i false with
        |true=>rfl
        |false=>exact absurd ⟨g,hg,e,hgl⟩ hex
      . exact hl g hg (by omega)
 obtain⟨V',a',W',l',h',hl⟩:=key ops.size
 refine⟨V',a',W',l',h',λf hf=>hl f hf (h'.lcs _ (h'.inF f hf).1)⟩
theorem b7S (hs:Static ops)(h:Inv P ops C γ V a W lc l F st)(hr:Region.ready .any ops l=[]):∀f∈F,l.getD f.i false=true:=by
 have key:∀n,∀f∈F,f.i<n->l.getD f.i false=true:=by
  intro n
  induction n with
  |zero=>intro f hf hn;exact absurd hn (Nat.not_lt_zero _)
  | succ n ih=>
    intro f hf hn
    cases hgl:l.getD f.i false with
    |true=>rfl
    | false=>
      obtain⟨_,o,ho,_,hoa⟩:=h.inF f hf
      have hlt:f.i<l.size:=by rw[h.size];exact(Array.getElem?_eq_some_iff.1 ho).1
      have:f.i∈Region.ready .any ops l:=mem_ready.2 ⟨b1J hgl hlt,o,ho,λe he hb=>by
       have hlt:=hs.back f.i o ho e he hb
       rcases h.cov e.on (hoa e he hb) with h3|⟨g,hg,hgi⟩
       . exact h3
       . rw[<-hgi];exact ih g hg (by omega)⟩
      rw[hr] at this;cases this
 exact λf hf=>key ops.size f hf (h.lcs _ (h.inF f hf).1)
theorem b0O (h:Inv P ops C γ V a W lc l F st)(hl:∀f∈F,l.getD f.i false=true):∀t b,c8 t (D0 F st.L)=some b->RVb γ V b (a.tmps.getD t undef):=by
 intro t b hb
 rcases a3P hb with⟨f,hf,h1,rfl⟩|⟨_,h1⟩
 . exact h.val f hf (hl f hf) t h1
 . exact h.rel.slots t b h1
end
end Go.Proofs.YtaopegkpjhkooaaGreatDoor.Dx
