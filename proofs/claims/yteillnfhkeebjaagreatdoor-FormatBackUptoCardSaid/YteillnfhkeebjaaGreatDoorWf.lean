/- The. -/
import Derived.Test.YteillnfhkeebjaaGreatDoorWe
import Derived.OrdersIn
import Derived.RangeFuncIn
import Derived.RangeFuncLeaves
import Derived.RangeFuncNested
import Derived.RangeFuncSeq
import Derived.TacticsIn
import Derived.Sort.LoopGhostIn
import Derived.Laws.MakeOwn
set_option linter.all false
namespace Go.Proofs.YteillnfhkeebjaaGreatDoor.Dx
open Go Go.RowKit
section
variable {P:Program} {T:List (Nat×TI)} {cf:Cfg} {C:Cx} {γ:Gm} {st:SSt} {V:Know} {a:Act} {W:World} {k:SSt->Prop}
theorem c9w (hr:Rel C γ st V a W){dst:Option Nat}(hd:∀t,dst=some t->t<C.N){nm:List (Nat×Nat)}(h:a0J nm st dst (.mp []) k):
 ∃γ' st',k st'/\Rel C γ' st' V (a.put dst (.map (some W.heap.size))) (W.alloc (.map #[] 0)):=by
 refine a6s (a1S hr (a7v hr.sees _)) hd (λn=>rfl) h (v:=(.map (some W.heap.size),some W.heap.size)) ?_ (λq hq=>by cases hq;exact .inr hr.bsize) (λn' b' hl q hq hq'=>by
  cases hq;have:=I2 (hr.own n' b' hl) hq';omega)
 refine⟨W.heap.size, #[],0,rfl,heap_alloc_new W _,?_,⟨by simp,by simp⟩,rfl,λi e p h=>by simp at h,λi e p h=>by simp at h⟩;cases hc:V.obj W.heap.size with
 |none=>rfl
 |some u=>have:=R0 (hr.sees.obj _ _ hc).1;omega
theorem b8U {k v:D}:∀{l:List (D×D)},(∀p∈l,p.1≠k)->H5 l k v=l++[(k,v)]:=by
 intro l;induction l with
 |nil=>intro _;rfl
 |cons p l ih=>intro h;simp only[H5,q8];rw[c8 (h p (by simp)),ih λx hx=>h x (by simp[hx])]
theorem c9g {k v:D}:∀{l:List (D×D)} {j:Nat} {p:D×D},l[j]?=some p->p.1=k->(∀(i:Nat) (x:D×D),i<j->l[i]?=some x->x.1≠k)->H5 l k v=l.set j (k,v):=by
 intro l;induction l with
 |nil=>intro j e h;simp at h
 | cons y l ih=>
   intro j e hj he hf;simp only[H5];cases j with
   |zero=>simp at hj;subst hj;rw[d4 he];rfl
   | succ j=>
     rw[c8 (hf 0 y (by omega) (by simp)),ih (by simpa using hj) he λi x hi hx=>hf (i+1) x (by omega) (by simpa using hx)];rfl
theorem d1C (W:World)(g:Nat)(o:Obj):W.grownBy {W with heap:=W.heap.setIfInBounds g o} (some g):=
 ⟨rfl,rfl,rfl,by simp,λq _ hq=>by have h:q≠g:=λe=>hq (by rw[e]);simp[Ne.symm h]⟩
theorem c1m (hT:TOk P T)(hr:Rel C γ st V a W){t:TypeId}{mb kx x:Base}{mv kv0 xv:Value}(hm:RVb γ V mb mv)(hkx:RVb γ V kx kv0)(hx:RVb γ V x xv)(h:b1l T st t mb kx x k):
 ∃st' W',(Instr.mapUpdate t mv kv0 xv).run P W= .ok () W'/\Rel C γ st' V a W'/\k st':=by
 unfold b1l at h;split at h
 . exact h.elim
 rename_i ti hti;split at h
 case h_2=>exact h.elim
 rename_i kt et hd;split at h
 . exact h.elim
 rename_i tk htk;split at h
 case h_2=>exact h.elim
 rename_i kd xd n hkd hxd;split at h
 case h_2=>exact h.elim
 rename_i l hl;obtain⟨⟨hk,hkl⟩,h⟩:=h;obtain⟨O',h,hO⟩:=a1U h;obtain⟨kv,hkv,huniq,hsame,hfind⟩:=b7B (hT _ _ htk).2.2.2.1 hk hkl;obtain rfl:=huniq V kv0 (a5p hr.own hkd hkx);have hxr:=a5p hr.own hxd hx;obtain⟨r,es,clock,hg,hh,hpo,hmok,hlen,hkey,hrep⟩:=hr.own n _ hl;have hmv:mv= .map (some r):=by rw[show mv=(γ n).1 from hm,hg]
 obtain⟨hck,hfk⟩:=hfind W;have hobj:(getObj r).run P W= .ok (.map es clock) W:=by simp[getObj,Sem.run,hh]
 have hset:∀o,(setObj r o).run P W= .ok () {W with heap:=W.heap.setIfInBounds r o}:=λo=>by simp[setObj,Sem.run,hh]
 have hrl:=R0 hh;have hnew:∀o,({W with heap:=W.heap.setIfInBounds r o}:World).heap[r]?=some o:=λo=>by simp[hrl]
 have fin:∀{es':Array MapEntry} {clock':Nat},(Instr.mapUpdate t mv kv0 xv).run P W= .ok () {W with heap:=W.heap.setIfInBounds r (.map es' clock')}->b1A es' clock'->es'.toList.length=(H5 l kd xd).length->
  (∀(i:Nat) e p,es'.toList[i]?=some e->(H5 l kd xd)[i]?=some p->I3 p.1=some e.key)->(∀(i:Nat) e p,es'.toList[i]?=some e->(H5 l kd xd)[i]?=some p->Rep V e.val p.2)->
  ∃st' W',(Instr.mapUpdate t mv kv0 xv).run P W= .ok () W'/\Rel C γ st' V a W'/\k st':=by
  intro es' clock' hrun q1 q2 q3 q4;refine⟨_,_,hrun,a8w hr (d1C W r _) (λ_ e h=>by cases e;rw[hh] at h;cases h) (λg hg2=>?_) (λm y hy=>?_),h⟩
  . cases hg2;refine⟨hr.okb n _ hl r (by rw[hg]),λo u hu=>?_,λy hy=>by rw[hpo] at hy;cases hy⟩;have:=hr.sees.cell r o u hu;simp[World.cell?,hh] at this
  . rcases hO m y hy with⟨rfl,rfl,_⟩|⟨hne,hl'⟩
    . exact .inl ⟨⟨r,es',clock',hg,hnew _,hpo,q1,q2,q3,q4⟩,_,hl⟩
    . exact .inr ⟨hl',λg hg2 hg3=>by cases hg2;exact hr.inj m n y _ hl' hl hne r hg3 (by rw[hg])⟩
 rcases hfk es.toList hlen hkey with⟨f1,f2,f3,f4⟩|⟨j,e,p,f1,f2,f3,f4,f5,f6,f7⟩
 . have hmp:H5 l kd xd=l++[(kd,xd)]:=b8U f4;refine fin (es':=es.push {key:=kv0,val:=xv,born:=clock}) (clock':=clock+1) ?_ ⟨?_,?_⟩ ?_ ?_ ?_
   . simp[Instr.mapUpdate,hT.under hti W,hd,hmv,hobj,hck,f1,hset]
   . intro e he;simp only[Array.toList_push,A8,I4] at he;rcases he with he|rfl
     . have:=hmok.1 e he;omega
     . simp
   . simp only[Array.toList_push,D3,o5,B8];refine a7j.2 ⟨hmok.2,by simp,?_⟩;intro x hx y hy;simp only[I4] at hy;obtain⟨e,he,rfl⟩:=v6.1 hx;have:=hmok.1 e he;omega
   . rw[hmp];simp only[Array.toList_push,j6,hlen,i7,j8]
   . intro i e p hi hp;rw[hmp] at hp;simp only[Array.toList_push] at hi;by_cases hil:i<l.length
     . rw[Q4 (by omega)] at hi;rw[Q4 hil] at hp;exact hkey i e p hi hp
     . rw[X0 (by omega)] at hi hp;rw[hlen] at hi;cases hq:i-l.length with
       |zero=>rw[hq] at hi hp;simp at hi hp;subst hi hp;exact hkv
       |succ q=>rw[hq] at hi;simp at hi
   . intro i e p hi hp;rw[hmp] at hp;simp only[Array.toList_push] at hi;by_cases hil:i<l.length
     . rw[Q4 (by omega)] at hi;rw[Q4 hil] at hp;exact hrep i e p hi hp
     . rw[X0 (by omega)] at hi hp;rw[hlen] at hi;cases hq:i-l.length with
       |zero=>rw[hq] at hi hp;simp at hi hp;subst hi hp;exact hxr
       |succ q=>rw[hq] at hi;simp at hi
 . have hmp:H5 l kd xd=l.set j (kd,xd):=c9g f3 f5 f7;have hj:es[j]?=some e:=by simpa using f2
   have hkk:(((es[j]?).map (·.key)).getD kv0)=kv0:=by simp[hj,f4]
   have hborn:(es.modify j λe=>{e with key:=kv0,val:=xv}).toList.map (·.born)=es.toList.map (·.born):=by
    rw[Array.toList_modify];apply O0;intro i;simp only[z7,List.getElem?_modify];cases es.toList[i]? with
    |none=>rfl
    |some y=>simp only[G9];split<;>rfl
   refine fin (es':=es.modify j λe=>{e with key:=kv0,val:=xv}) (clock':=clock) ?_ ⟨?_,?_⟩ ?_ ?_ ?_
   . simp[Instr.mapUpdate,hT.under hti W,hd,hmv,hobj,hck,f1,hset,hkk,Instr.keyThatStays,hsame]
   . intro y hy;have:y.born∈es.toList.map (·.born):=by rw[<-hborn];exact v6.2 ⟨y,hy,rfl⟩
     obtain⟨z,hz,hzb⟩:=v6.1 this;have:=hmok.1 z hz;omega
   . rw[hborn];exact hmok.2
   . rw[hmp];simpa using hlen
   . intro i e' p' hi hp;rw[hmp,a7f] at hp;simp only[Array.toList_modify,List.getElem?_modify] at hi;by_cases e0:j=i
     . subst e0;have hjl:j<l.length:=by
        rcases C5 j l.length with h|h
        . exact h
        . rw[z6 h] at f3;cases f3
       rw[d4 rfl,d4 hjl] at hp;cases hp;rw[f2] at hi;simp at hi;rw[<-hi];exact hkv
     . rw [c8 e0] at hp;cases hq:es.toList[i]? with
       |none=>rw[hq] at hi;simp at hi
       | some y=>
         rw[hq] at hi;simp[e0] at hi;subst hi;exact hkey i y p' hq hp
   . intro i e' p' hi hp;rw[hmp,a7f] at hp;simp only[Array.toList_modify,List.getElem?_modify] at hi;by_cases e0:j=i
     . subst e0;have hjl:j<l.length:=by
        rcases C5 j l.length with h|h
        . exact h
        . rw[z6 h] at f3;cases f3
       rw[d4 rfl,d4 hjl] at hp;cases hp;rw[f2] at hi;simp at hi;rw[<-hi];exact hxr
     . rw [c8 e0] at hp;cases hq:es.toList[i]? with
       |none=>rw[hq] at hi;simp at hi
       | some y=>
         rw[hq] at hi;simp[e0] at hi;subst hi;exact hrep i y p' hq hp
end
noncomputable def b4M (T:List (Nat×TI))(st:SSt)(dst:Option Nat)(t:TypeId)(n:Nat)(k:SSt->Prop):Prop:=
 match d7 t T with
 |none=>False
 | some ti =>match ti.desc with
   | .slice e=>match d7 e T with
     |none=>False
     | some te=>match te.desc with
       | .int .u8=>match d7 n st.O with
         | some (.sl s)=>match s.pub with
           |true=>False
           | false=>match s.xs with
             |[]=>False
             |_::_=>a0d (D7 n (λ_=> .junk) (.sl s.xs)) st.L λL'=>a0e n (D7 n (λ_=> .junk) (.sl s.xs)) st.O λO'=>k (put {st with L:=L',O:=O'} dst (.d (.sl s.xs)))
         |_=>False
       |_=>False
   |_=>False
section
variable {P:Program} {T:List (Nat×TI)} {cf:Cfg} {C:Cx} {γ:Gm} {st:SSt} {V:Know} {a:Act} {W:World} {k:SSt->Prop}
theorem c6S (W:World)(g k n:Nat):W.grownBy (W.freeze ⟨g,k,none⟩ n) (some g):=by
 by_cases h:n=0
 . subst h;exact⟨rfl,rfl,rfl,p0 _,λ_ _ _=>rfl⟩
 . unfold World.freeze;rw[c8 h];refine⟨rfl,rfl,rfl,by simp,λq _ hq=>?_⟩;have hn:g≠q:=λe=>hq (by rw[e]);simp[Array.getElem?_modify,hn]
theorem c6R {W:World}{g k n:Nat}{cs:Array Value}{e:TypeId}(h:W.heap[g]?=some (.cells cs e (0,0)))(hn:n≠0):(W.freeze ⟨g,k,none⟩ n).heap[g]?=some (.cells cs e (k,k+n)):=by
 unfold World.freeze;rw[c8 hn];simp[Array.getElem?_modify,h]
theorem d4K (hT:TOk P T)(hr:Rel C γ st V a W){dst:Option Nat}(hd:∀t,dst=some t->t<C.N){t:TypeId}{n:Nat}(h:b4M T st dst t n k):
 ∃v W' st' V',(convert t t (γ n).1).run P W= .ok v W'/\Rel C γ st' V' (a.put dst v) W'/\k st':=by
 unfold b4M at h;split at h
 . exact h.elim
 rename_i ti hti;split at h
 case h_2=>exact h.elim
 rename_i e hd1;split at h
 . exact h.elim
 rename_i te hte;split at h
 case h_2=>exact h.elim
 rename_i hd2;split at h
 case h_2=>exact h.elim
 rename_i s hn;split at h
 . exact h.elim
 rename_i hp;split at h
 . exact h.elim
 rename_i z0 zs hcons;obtain⟨L',h,hL⟩:=a4P h;obtain⟨O',h,hO⟩:=a4Q h;rcases hr.own n _ hn with⟨g,m,c,vals,hv,hown,hkk,hvr,h1,hm⟩|⟨hp',_⟩
 case inr=>
  rcases hp' with hp'|hp'
  . rw[hp] at hp';cases hp'
  . rw[hcons] at hp';cases hp'
 rw[hv] at hown;obtain⟨cur,hnm,hg,_,_,_,_,_⟩:=Q0 hown;have hcells:=hown.cells (g:=g) rfl;rw[hp] at hm;have hle:V.Le (V.with g vals):=a2f λo u hu=>by rw[hm] at hu;cases hu
 have hrep:Rep (V.with g vals) (γ n).1 (.sl s.xs):=by
  rw[hv];obtain⟨_,_,_,h3,h4,_⟩:=Q0 hown;refine a8x hnm (by omega) h4 hkk (hvr.mono hle) h1 (λj u hj=>?_);show(if g=g then vals[j]? else _)=some u;rw[d4 rfl];exact hj
 have sub:∀b x,RVb γ V b x->RVb γ (V.with g vals) (D7 n (λ_=> .junk) (.sl s.xs) b) x:=by
  intro b x hx;refine b0Y (λoff y hy=> .junk _) (λ_=>hrep) (λhp=>?_) (hx.mono hle);obtain⟨blk,e⟩:=hp;rw[hv] at e;cases e
 have hr1:Rel C γ {st with L:=L',O:=O'} (V.with g vals) a W:=by
  refine a8v hr hn (by rw[hv]) hle (a6O hr.sees hle λj u hj=>by have:=hcells j u hj;rwa[T0,F3] at this) a4b (λr x h=> .inl h) (λt b hb=>?_) (λm' x hx=>?_)
  . obtain⟨b0,hb0,rfl⟩:=hL t b hb;exact sub b0 _ (hr.slots t b0 hb0)
  . obtain ⟨hne,y,hy,rfl⟩:=hO m' x hx;refine .inr ⟨hne,y,hy,λhyok=>?_⟩;have hy0:=hr.own m' y hy;cases y with
    | box cells' ty'=>
      obtain⟨blk',cs',e',g1,g2,g3,g4⟩:=hyok;obtain⟨blk'',cs'',e'',q1,q2,q3,q4⟩:=hy0;rw[e''] at e';obtain rfl:blk''=blk':=by simpa using e'
      rw[q1] at g1;obtain rfl:cs''=cs':=by simpa using g1
      refine⟨blk'',cs'',e'',q1,⟨by simp[q2.len],λi b x hb hx=>?_⟩,q3,g4⟩;simp only[z7] at hb;cases hl:cells'[i]? with
      |none=>simp[hl] at hb
      | some b0=>
        simp only[hl,G9,H0] at hb;subst hb;exact sub _ _ (q2.get i b0 x hl hx)
    |pn g ns=>exact⟨hyok.1,λm hm=>hyok.2 m (a5E.1 hm).1⟩
    |_=>exact hyok
 have hfz:=c6R (k:=cur.size) (n:=1) hg (by decide);have hr2:Rel C γ {st with L:=L',O:=O'} (V.with g vals) a (W.freeze ⟨g,cur.size,none⟩ 1):=by
  refine a8w hr1 (c6S W g cur.size 1) (λ_ e h=>by cases e;rw[hg] at h;cases h) (λg' hg'=>?_) (λm' x hx=> .inr ⟨hx,λg' hg' hg2=>?_⟩)
  . cases hg';refine⟨hr.okb n _ hn g (by rw[hv]),λo u hu=>?_,λx hx=>?_⟩
    . have:=hr1.sees.cell g o u hu;refine⟨?_,by simp only[World.shape?,hg,hfz]⟩;simp only[World.cell?,hg,hfz] at this⊢;exact this
    . have:=hr1.sees.obj g x hx;rw[hg] at this;obtain⟨_,_,e⟩:=this.2;rw[e] at this;cases this.1
  . cases hg';obtain⟨hne,y,hy,_⟩:=hO m' x hx;exact hr.inj m' n y _ hy hn hne g hg2 (by rw[hv])
 refine⟨(γ n).1,_,_,_,?_,L9 hr2 hd (show RVb γ (V.with g vals) (.d (.sl s.xs)) (γ n).1 from hrep),h⟩;have hsh:W.shape? g=some (s.e,cur.size):=by simp[World.shape?,hg]
 rw[hv];simp[convert,hT.under hti W,hT.under hte W,hd1,hd2,markStringish,hsh]
end
def a3s:List Cap->List Cap->Prop
 |[],[]=>True
 | .loc n o::r, .loc n' o'::r'=>(Nat.beq n' n&&Nat.beq o' o)=true/\a3s r r'
 | .dat d::r, .dat d'::r'=>d'=d/\a3s r r'
 |_,_=>False
noncomputable def a0X (O:List (Nat×Blk))(b b':Base):Prop:=
 match b with
 | .d x=>match x with
   | .bl c=>match b' with
     | .d (.bl c')=>c'=c
     |_=>False
   | .junk=>True
   | x=>match a0n O b' with
     |some x'=>x'=x
     |none=>False
 | .full xs=>match b' with
   | .full xs'=>xs'=xs
   |_=>False
 | .loc n o=>match b' with
   | .loc n' o'=>Nat.beq n' n=true/\o'=o
   | .d (.raw v)=>o=0/\(∃cells ty,d7 n O=some (.box cells ty))/\∃p g ns,d7 p O=some (.pn g ns)/\w6 n ns=true/\v=(g n).1
   |_=>False
 | .own n=>match b' with
   | .own n'=>Nat.beq n' n=true
   |_=>False
 | .oel n k i r=>match b' with
   | .oel n' k' i' r'=>Nat.beq n' n=true/\k'=k/\i'=i/\r'=r
   |_=>False
 | .win n k i r=>match b' with
   | .win n' k' i' r'=>Nat.beq n' n=true/\k'=k/\i'=i/\r'=r
   |_=>False
 | .ag p n q=>match b' with
   | .ag p' n' q'=>Nat.beq n' n=true/\p'=p/\q'=q
   |_=>False
 | .agl cs=>match b' with
   | .agl cs'=>a3s cs cs'
   |_=>False
 | .fn F fs cs=>match b' with
   | .fn F' fs' cs'=>F'=F/\a3s fs fs'/\a3s cs cs'
   |_=>False
 | .junk=>True
noncomputable def a3r (O:List (Nat×Blk)):List Base->List Base->Prop
 |[],[]=>True
 |b::r,b'::r'=>a0X O b b'/\a3r O r r'
 |_,_=>False
noncomputable def a9p (O:List (Nat×Blk))(L:List (Nat×Base)):List (Nat×Base)->Prop
 |[]=>True
 | (t,b)::r=>match d7 t L with
   |some b'=>a0X O b b'/\a9p O L r
   |none=>False
noncomputable def b1K (O:List (Nat×Blk))(b b':Blk):Prop:=
 match b,b' with
 | .box cells ty, .box cells' ty'=>ty'=ty/\a3r O cells cells'
 | .sl s, .sl s'=>s'.e=s.e/\s'.k=s.k/\s'.xs=s.xs/\s'.pub=s.pub
 | .mp l, .mp l'=>l'=l
 | .lp r g V pn, .lp r' g' V' pn'=>r'=r/\g'=g/\V'=V/\pn'=pn
 | .pn g ns, .pn g' ns'=>g'=g/\ns'=ns
 |_,_=>False
noncomputable def a0r (O:List (Nat×Blk)):List (Nat×Blk)->Prop
 |[]=>True
 | (n,b)::r=>(match d7 n O with
   |some b'=>b1K O b b'
   |none=>False)/\a0r O r
noncomputable def a4t (st S:SSt):Prop:=
 match S.pins.all λn=>w6 n st.pins with
 |true=>a9p st.O st.L S.L/\a0r st.O S.O
 |false=>False
section
variable {P:Program} {T:List (Nat×TI)} {C:Cx} {γ:Gm} {st:SSt} {V:Know} {a:Act} {W:World} {O:List (Nat×Blk)}
theorem b1J:∀{cs cs':List Cap},a3s cs cs'->∀{xs:List Value},All2 (CapR γ V) cs' xs->All2 (CapR γ V) cs xs:=by
 intro cs;induction cs with
 | nil=>intro cs' h xs hx;cases cs' with
   |nil=>exact hx
   |cons=>exact h.elim
 | cons c cs ih=>
   intro cs' h xs hx;cases cs' with
   |nil=>cases c<;>exact h.elim
   | cons c' cs'=>
     obtain⟨x,xs,rfl,h1,h2⟩:=hx.cons_l;cases c with
     | loc n o=>
       cases c' with
       | loc n' o'=>
         obtain⟨h3,h4⟩:=h;simp only[f0] at h3;obtain rfl:=t7 h3.1;obtain rfl:=t7 h3.2;exact .cons h1 (ih h4 h2)
       |dat=>exact h.elim
     | dat d=>
       cases c' with
       |loc=>exact h.elim
       | dat d'=>
         obtain⟨rfl,h4⟩:=h;exact .cons h1 (ih h4 h2)
theorem b1I (ho:A2 γ V W O){b b':Base}(h:a0X O b b'){x:Value}(hx:RVb γ V b' x):RVb γ V b x:=by
 unfold a0X at h;split at h
 . split at h
   . split at h
     . cases h;exact hx
     . exact h.elim
   . exact .junk _
   . split at h
     . rename_i hv;cases h;exact a5p ho hv hx
     . exact h.elim
 . split at h
   . cases h;exact hx
   . exact h.elim
 . split at h
   . obtain⟨h1,rfl⟩:=h;obtain rfl:=t7 h1;exact hx
   . rename_i n o v;obtain⟨rfl,⟨cells,ty,hb⟩,p,g,ns,hp,hm,rfl⟩:=h;obtain⟨blk,cs,e,_⟩:=ho _ _ hb;have hg:=(ho _ _ hp).2 _ (b0r hm);cases hx;exact⟨blk,by rw[e],by rw[<-hg,e]⟩
   . exact h.elim
 . split at h
   . obtain rfl:=t7 h;exact hx
   . exact h.elim
 . split at h
   . obtain⟨h1,rfl,rfl,rfl⟩:=h;obtain rfl:=t7 h1;exact hx
   . exact h.elim
 . split at h
   . obtain⟨h1,rfl,rfl,rfl⟩:=h;obtain rfl:=t7 h1;exact hx
   . exact h.elim
 . split at h
   . obtain⟨h1,rfl,rfl⟩:=h;obtain rfl:=t7 h1;exact hx
   . exact h.elim
 . split at h
   . obtain⟨us,e,h3,h4⟩:=hx;exact⟨us,e,b1J h h3,h4⟩
   . exact h.elim
 . split at h
   . obtain⟨rfl,h1,h2⟩:=h;obtain⟨us,ws,e,h3,h4⟩:=hx;exact⟨us,ws,e,b1J h1 h3,b1J h2 h4⟩
   . exact h.elim
 . trivial
theorem b5F (ho:A2 γ V W O):∀{bs bs':List Base},a3r O bs bs'->∀{xs:List Value},Vals γ V bs' xs->Vals γ V bs xs:=by
 intro bs;induction bs with
 | nil=>intro bs' h xs hx;cases bs' with
   |nil=>exact hx
   |cons=>exact h.elim
 | cons b bs ih=>
   intro bs' h xs hx;cases bs' with
   |nil=>exact h.elim
   | cons b' bs'=>
     obtain⟨x,xs,rfl,h1,h2⟩:=hx.cons_l;exact .cons (b1I ho h.1 h1) (ih h.2 h2)
theorem c2I {L:List (Nat×Base)}:∀{l:List (Nat×Base)},a9p O L l->∀t b,d7 t l=some b->∃b',d7 t L=some b'/\a0X O b b':=by
 intro l;induction l with
 |nil=>intro _ t b h;rw[r7] at h;cases h
 | cons p l ih=>
   obtain⟨d,y⟩:=p;intro h t b hb;simp only[a9p] at h;split at h
   case h_2=>exact h.elim
   rename_i b' hb';by_cases e:d=t
   . subst e;rw[w9] at hb;cases hb;exact⟨b',hb',h.1⟩
   . rw[p5 e] at hb;exact ih h.2 t b hb
theorem a5K (ho:A2 γ V W O){b b':Blk}(h:b1K O b b'){v:Value×Option Nat}(hb:BlkOk γ V W v b'):BlkOk γ V W v b:=by
 match b,b',h with
 | .box cells ty, .box cells' ty',⟨h1,h2⟩=>
   subst h1;obtain⟨blk,cs,e,g1,g2,g3,g4⟩:=hb;exact⟨blk,cs,e,g1,b5F ho h2 g2,g3,g4⟩
 | .sl ⟨e,k,xs,p⟩, .sl ⟨e',k',xs',p'⟩,⟨h1,h2,h3,h4⟩=>
   simp only at h1 h2 h3 h4;subst h1 h2 h3 h4;exact hb
 | .mp l, .mp l',h=>cases h;exact hb
 | .pn g ns, .pn g' ns',h=>
   obtain⟨h1,h2⟩:=h;subst h1 h2;exact hb
 | .lp r g V0 pn, .lp r' g' V' pn',h=>
   obtain⟨h1,h2,h3,h4⟩:=h;subst h1 h2 h3 h4;exact hb
theorem M7:∀{l:List (Nat×Blk)},a0r O l->∀n b,d7 n l=some b->∃b',d7 n O=some b'/\b1K O b b':=by
 intro l;induction l with
 |nil=>intro _ t b h;rw[r7] at h;cases h
 | cons p l ih=>
   obtain⟨d,y⟩:=p;intro h t b hb;obtain⟨h1,h2⟩:=h;by_cases e:d=t
   . subst e;rw[w9] at hb;cases hb;split at h1
     . exact⟨_,by assumption,h1⟩
     . exact h1.elim
   . rw[p5 e] at hb;exact ih h2 t b hb
theorem b4o (hr:Rel C γ st V a W){S:SSt}(h:a4t st S):Rel C γ S V a W:=by
 unfold a4t at h;split at h
 case h_2=>exact h.elim
 rename_i hp;have:=a0N hr (L':=S.L) (O':=S.O) (λt b hb=>by
  obtain⟨b',hb',hs⟩:=c2I h.1 t b hb;exact b1I hr.own hs (hr.slots t b' hb')) (λn x hx=>by
  obtain⟨y,hy,hs⟩:=M7 h.2 n x hx;exact⟨a5K hr.own hs (hr.own n y hy),y,hy⟩)
 exact {this with pin:=λn hn=>hr.pin n (memB_mem.1 (n7.1 hp n hn))}
end
def fen (C:Cx):Fence:={Fence.wide with round:=C.round}
theorem c3U {C:Cx}{P:Program}{f:FuncId}{args:Array Value}{w:World}{R:Ending->World->Prop}(h:Calls P f args w R):CallsIn (fen C) 0 P f args w R:=(callsIn_wide (n:=0)).2 h
def opw (C:Cx)(P:Program)(o:Oper)(a:Act)(W:World)(next:Act->World->Prop)(Q:Exit->Act->World->Prop):Prop:=((∀c,o.op≠ .defer c)/\∀d w',(execOp a.eval o).run P W≠ .ok (.defer d) w')/\o.wpIn (fen C) 0 P a W next Q
def b6i:Result Next->Bool
 | .ok (.defer _) _=>false
 | .halt _ _=>false
 |_=>true
def ndR:Result Next->Bool
 | .ok (.defer _) _=>false
 |_=>true
theorem b0v {P:Program}{ρ:Operand->Value}{o:Oper}{W:World}{r:Result Next}(h:(execOp ρ o).run P W=r)(hr:b6i r=true):∀c,o.op≠ .defer c:=by
 intro c e;unfold execOp at h;simp only[e,r4] at h;subst h;cases hres:(resolve ρ c o.type).run P W<;>rw[hres] at hr<;>simp[Result.andThen,b6i] at hr
theorem b3S {r:Option Nat}{ρ:Operand->Value}{o:Oper}(h:∀c,o.op≠ .defer c):o.semAt r ρ=execOp ρ o:=by
 cases r with
 |none=>exact Oper.semAt_none _ _
 |some l=>exact Oper.semAt_some l _ _ h
theorem a8p {C:Cx}{P:Program}{o:Oper}{a:Act}{W:World}{next:Act->World->Prop}{Q:Exit->Act->World->Prop}{r:Result Next}(h:(execOp a.eval o).run P W=r)(hn:∀c,o.op≠ .defer c)(hr:ndR r=true)(hu:o.uponIn (fen C) 0 P a next Q r):opw C P o a W next Q:=
 ⟨⟨hn,λd w' e=>by rw[h] at e;rw[e] at hr;cases hr⟩,λ_ _=>trivial,by rw[b3S hn,h];exact hu⟩
theorem b9m {C:Cx}{P:Program}{o:Oper}{a:Act}{W W':World}{next:Act->World->Prop}{Q:Exit->Act->World->Prop}{f:FuncId}{args:Array Value}(h:(execOp a.eval o).run P W= .ok (.enter f args) W')(hc:Calls P f args W' fun
 | .returned v,w''=>next (a.put o.dst v) w''
 | .panicked chain,w''=>Q (.panic chain) a w''
 | .outgrown,_=>LetsOut Q):opw C P o a W next Q:=
 a8p h (b0v h rfl) rfl ⟨λh=>(by cases h),c3U hc⟩
def a0T (P : Program) (f : FuncId) : Prop := ∃ fn c, P.funcs[f]? = some fn /\ fn.body = some c /\ (fn.name == "runtime.NumGoroutine") = false
inductive Out where
 |ret (b:Base)
 |pan (d:D)
def a4p (γ:Gm)(V:Know)(e:Ending)(o:Out):Prop:=
 match e,o with
 | .returned v, .ret b=>RVb γ V b v
 | .panicked ch, .pan d=>∃v,ch=[{v,recovered:=false}]/\Rep V v d
 |_,_=>False
def o8 (γ:Gm)(O:List (Nat×Blk)):List Nat:=O.filterMap λe=>(γ e.1).2
def M4 (γ:Gm)(O:List (Nat×Blk)):Prop:=∀n n' b b',d7 n O=some b->d7 n' O=some b'->n≠n'->∀k,(γ n).2=some k->(γ n').2≠some k
def T4 (n:Nat)(b:Blk):Bool:=match b with| .box _ _=>true| .lp _ _ _ _=>true| .sl _=>Nat.ble 9000 n| .mp _=>false| .pn _ _=>false
structure MeetsR (P:Program) (f:FuncId) (args:List Base) (O:List (Nat×Blk)) (R:Out->List (Nat×Blk)->Prop):Prop where
 fn:a0T P f
 run:∀(γ:Gm) (V:Know) (W:World) (xs:List Value),Sees V W->Vals γ V args xs->A2 γ V W O->M4 γ O->
  Calls P f xs.toArray W λe W'=>∃γ' V' o O',a4p γ' V' e o/\BelowX (o8 γ O) W.heap.size W W'/\Fresh V V' (o8 γ O) W.heap.size/\Sees V' W'/\A2 γ' V' W' O'/\
   (∀n b,d7 n O'=some b->∀k,(γ' n).2=some k->k∈o8 γ O\/W.heap.size<=k)/\M4 γ' O'/\(∀n b,d7 n O=some b->T4 n b=true->γ' n=γ n)/\R o O'
theorem MeetsR.mono {P:Program}{f:FuncId}{args:List Base}{O:List (Nat×Blk)}{R R':Out->List (Nat×Blk)->Prop}(h:MeetsR P f args O R)(hr:∀o O',R o O'->R' o O'):MeetsR P f args O R':=
 ⟨h.fn,λγ V W xs h1 h2 h3 h4=>(h.run γ V W xs h1 h2 h3 h4).mono λ_ _ ⟨γ',V',o,O',a1,a2,a3,a4,a5,a6,a7,a8,a9⟩=>⟨γ',V',o,O',a1,a2,a3,a4,a5,a6,a7,a8,hr o O' a9⟩⟩
structure Meets (P:Program) (f:FuncId) (ds:List D) (R:D->Prop):Prop where
 out:MeetsR P f (ds.map .d) [] λo O'=>∃d,o= .ret (.d d)/\O'=[]/\R d
theorem Meets.mono {P:Program}{f:FuncId}{ds:List D}{R R':D->Prop}(h:Meets P f ds R)(hr:∀d,R d->R' d):Meets P f ds R':=
 ⟨h.out.mono λ_ _ ⟨d,h1,h2,h3⟩=>⟨d,h1,h2,hr d h3⟩⟩
theorem Meets.k {P:Program}{f:FuncId}{ds:List D}{R:D->Prop}{x:D}(h:Meets P f ds λd=>d=x)(hr:R x):Meets P f ds R:=h.mono λd hd=>by rw[hd];exact hr
def a9i (P:Program)(t:TypeId)(name:String)(f:FuncId):Prop:=∀(W:World) (x:Value),(method (P.types.size+Made.depth) t x name).run P W= .ok (f,x) W
noncomputable def a7R (n:Nat)(O:List (Nat×Blk)):Bool:=match d7 n O with|some b=>T4 n b|none=>false
def a9N (n:Nat):List (Nat×Blk)->(List (Nat×Blk)->Prop)->Prop
 |[],k=>k []
 | (t,b)::l,k=>a9N n l λl'=>match Nat.beq t n with
   |true=>k l'
   |false=>k ((t,b)::l')
noncomputable def a1J:List (Nat×Blk)->SSt->(SSt->Prop)->Prop
 |[],st,k=>k st
 | (n,b)::r,st,k=>match T4 n b with
   |true=>a9N n st.O λO'=>a1J r {st with O:=O'} k
   |false=>a0d (a0a n) st.L λL'=>a0e n (a0a n) st.O λO'=>a1J r {st with L:=L',O:=O'} k
noncomputable def a2q (ins:List (Nat×Blk)):List (Nat×Blk)->SSt->(SSt->Prop)->Prop
 |[],st,k=>k st
 | (n,b)::r,st,k=>match a7R n ins||F9 n st with
   |true=>a2q ins r st λst=>k {st with O:=(n,b)::st.O}
   |false=>False
noncomputable def a2A (O:List (Nat×Blk))(n:Nat):Bool:=match d7 n O with|some _=>true|none=>false
noncomputable def a0x (b:Base)(O:List (Nat×Blk)):Bool:=
 (A7 b).all (a2A O)&&O.all λe=>match e.2 with
   | .box cells _=>cells.all λc=>(A7 c).all (a2A O)
   | .lp _ _ _ pn=>pn.all (a2A O)
   | .pn _ _=>false
   |_=>true
noncomputable def c1g (P:Program)(st:SSt)(dst:Option Nat)(F:FuncId)(bs:List Base)(k:SSt->Prop)(kp:D->SSt->Prop):Prop:=
 ∃ (ins:List (Nat×Blk)) (args:List Base),(a3r st.O args bs/\a0r st.O ins)/\
   MeetsR P F args ins λo O'=>match o with
    | .ret b=>match a0x b O' with
      |true=>a1J ins st λst=>a2q ins O' st λst=>k (put st dst b)
      |false=>False
    | .pan d=>match a0x .junk O' with
      |true=>a1J ins st λst=>a2q ins O' st λst=>kp d st
      |false=>False
structure MeetsY (P:Program) (n:Nat) (args:List D) (O:List (Nat×Blk)) (R:Out->List (Nat×Blk)->Prop):Prop where
 here:∃r g V0 pn,d7 n O=some (.lp r g V0 pn)
 run:∀(γ:Gm) (V:Know) (W:World) (xs:List Value) (l:Nat),Sees V W->Reps V xs args->A2 γ V W O->M4 γ O->γ n=(.func (.yield l) #[] #[],some l)->
  YieldAt Fence.wide 0 P l xs.toArray W λe W'=>∃γ' V' o O',a4p γ' V' e o/\BelowX (o8 γ O) W.heap.size W W'/\Fresh V V' (o8 γ O) W.heap.size/\Sees V' W'/\A2 γ' V' W' O'/\
   (∀n b,d7 n O'=some b->∀k,(γ' n).2=some k->k∈o8 γ O\/W.heap.size<=k)/\M4 γ' O'/\(∀n b,d7 n O=some b->T4 n b=true->γ' n=γ n)/\R o O'
theorem MeetsY.mono {P:Program}{n:Nat}{args:List D}{O:List (Nat×Blk)}{R R':Out->List (Nat×Blk)->Prop}(h:MeetsY P n args O R)(hr:∀o O',R o O'->R' o O'):MeetsY P n args O R':=
 ⟨h.here,λγ V W xs l h1 h2 h3 h4 h5=>let ⟨fn,t,a,b,hy,hR⟩:=h.run γ V W xs l h1 h2 h3 h4 h5;⟨fn,t,a,b,hy,hR.mono λ_ _ ⟨γ',V',o,O',a1,a2,a3,a4,a5,a6,a7,a8,a9⟩=>⟨γ',V',o,O',a1,a2,a3,a4,a5,a6,a7,a8,hr o O' a9⟩⟩⟩
noncomputable def c1i (P:Program)(st:SSt)(dst:Option Nat)(n:Nat)(bs:List Base)(k:SSt->Prop)(kp:D->SSt->Prop):Prop:=
 a2v st bs λds st=>Z9 ds λds=>∃ins:List (Nat×Blk),a0r st.O ins/\
  MeetsY P n ds ins λo O'=>match o with
   | .ret b=>match a0x b O' with
     |true=>a1J ins st λst=>a2q ins O' st λst=>k (put st dst b)
     |false=>False
   | .pan d=>match a0x .junk O' with
     |true=>a1J ins st λst=>a2q ins O' st λst=>kp d st
     |false=>False
noncomputable def c1f (P:Program)(st:SSt)(dst:Option Nat)(F:FuncId)(fs cs:List D)(bs:List Base)(k:SSt->Prop):Prop:=
 a2v st bs λds st=>Z9 ds λds=>Meets P F (fs++(ds++cs)) λd=>k (put st dst (.d d))
def a7y:List Cap->List Base
 |[]=>[]
 | .loc n o::r=> .loc n o::a7y r
 | .dat d::r=> .d d::a7y r
noncomputable def a8T (P:Program)(r:Bool)(st:SSt)(dst:Option Nat)(F:FuncId)(fs cs:List D)(bs:List Base)(k:SSt->Prop)(kp:D->SSt->Prop):Prop:=
 match r with
 |true=>c1g P st dst F (fs.map .d++(bs++cs.map .d)) k kp
 |false=>c1f P st dst F fs cs bs k
noncomputable def b4J (P:Program)(cf:Cfg)(st:SSt)(dst:Option Nat)(c:Call)(bs:List Base)(k:SSt->Prop)(kp:D->SSt->Prop):Prop:=
 match c.callee,bs with
 | .value _,fb::bs=>match fb with
   | .d (.fn F fs cs)=>a8T P (match dst with|some d=>w6 d cf.rs|none=>w6 9999 cf.rs) st dst F fs cs bs k kp
   | .fn F fs cs=>a8T P (match dst with|some d=>w6 d cf.rs|none=>w6 9999 cf.rs) st dst F [] [] (a7y fs++bs++a7y cs) k kp
   | .own n=>c1i P st dst n bs k kp
   |_=>False
 | .invoke _ name,rb::bs=>match rb with
   | .d (.iface t x)=>∃F,a9i P t name F/\a8T P (match dst with|some d=>w6 d cf.rs|none=>w6 9999 cf.rs) st dst F [x] [] bs k kp
   |_=>False
 |_,_=>False
section
variable {P:Program} {T:List (Nat×TI)} {C:Cx} {γ:Gm} {st:SSt} {V:Know} {a:Act} {W:World} {k:SSt->Prop} {kp:D->SSt->Prop} {next:Act->World->Prop} {Q:Exit->Act->World->Prop} {o:Oper}
def Nx (C:Cx)(k:SSt->Prop)(next:Act->World->Prop):Prop:=∀γ' st' V' a' W',Rel C γ' st' V' a' W'->k st'->next a' W'
def NxP (C:Cx)(kp:D->SSt->Prop)(Q:Exit->Act->World->Prop):Prop:=∀γ' st' V' a' W' v d,Rel C γ' st' V' a' W'->Rep V' v d->kp d st'->Q (.panic [{v,recovered:=false}]) a' W'
theorem b1X {f:FuncId}(h:a0T P f)(args:Array Value)(W:World):(callFunc f args).run P W= .ok (.enter f args) W:=by
 obtain⟨fn,c,hf,hb,hn⟩:=h
 have hn' : ¬ fn.name = "runtime.NumGoroutine" := by simpa using hn
 simp[callFunc,hf,hb,hn']
theorem b7v {dst:Option Tmp}{f:Operand}{args:Array Operand}{ats:Array TypeId}{ty:TypeId}{pos:String}{af:Array Edge}{gd:Option (Nat×Bool)}{F:FuncId}{first captured:Array Value}
 (hf:a.eval f= .func (.func F) first captured) (hF:a0T P F):
 (execOp a.eval ⟨dst, .call {callee:= .value f,args:=args,argTypes:=ats},ty,pos,af,gd⟩).run P W= .ok (.enter F (first++args.map a.eval++captured)) W:=by
 unfold execOp;simp only[resolve,r4,hf,Deferred.ofValue,H3,r8,invoke];exact b1X hF _ W
theorem c6j {dst:Option Tmp}{r:Operand}{name:String}{args:Array Operand}{ats:Array TypeId}{ty:TypeId}{pos:String}{af:Array Edge}{gd:Option (Nat×Bool)}{F:FuncId}{t:TypeId}{x:Value}
 (hr:a.eval r= .iface t x) (hm:a9i P t name F) (hF:a0T P F):
 (execOp a.eval ⟨dst, .call {callee:= .invoke r name,args:=args,argTypes:=ats},ty,pos,af,gd⟩).run P W= .ok (.enter F (#[x]++args.map a.eval)) W:=by
 unfold execOp;have h0:(#[Value.iface t x]++args.map a.eval)[0]?=some (.iface t x):=by rw[a6R (by simp)];rfl
 have h1:(#[Value.iface t x]++args.map a.eval).extract 1 (#[Value.iface t x]++args.map a.eval).size=args.map a.eval:=by
  apply a0R.1;simp[Array.toList_extract,List.extract_eq_take_drop,y6]
 simp only[resolve,r4,hr,H3,r8,invoke,h0,h1,callMethod,run_program,hm W];exact b1X hF _ W
theorem a8S {ds:List D}{xs:List Value}(h:Reps V xs ds):Vals γ V (ds.map .d) xs:=by
 refine⟨by simp[h.len],λi b x hb hx=>?_⟩;simp only[z7] at hb;cases hd:ds[i]? with
 |none=>simp[hd] at hb
 | some d=>
   simp only[hd,G9,H0] at hb;subst hb;exact h.get i x d hx hd
theorem d5v {F:FuncId}{args:Array Value}{fs cs:List D}{bs:List Base}{us xs ws:List Value}(he:a0T P F->(execOp a.eval o).run P W= .ok (.enter F args) W)(hl:args=(us++xs++ws).toArray)(hr:Rel C γ st V a W)(hd:∀t,o.dst=some t->t<C.N)
 (hus:Reps V us fs) (hws:Reps V ws cs) (hbs:Vals γ V bs xs) (h:c1f P st o.dst F fs cs bs k) (hn:Nx C k next):opw C P o a W next Q:=by
 obtain⟨ds,st',V',h,hr',hreps,hle⟩:=a5Y hr hbs h;rw[a3I] at h;have hm:=h.out;refine b9m (he hm.fn) ?_;rw[hl];have hall:Vals γ V' ((fs++(ds++cs)).map .d) (us++xs++ws):=by
  rw[D3,D3,n9];exact All2.append (a8S (hus.mono hle)) (All2.append (a8S hreps) (a8S (hws.mono hle)))
 refine(hm.run γ V' W (us++xs++ws) hr'.sees hall (λn b h=>by rw[r7] at h;cases h) (λn n' b b' h=>by rw[r7] at h;cases h)).mono ?_;rintro e W' ⟨γ',V'',o',O',hout,hbel,hfr,hsees,_,_,_,_,d,rfl,rfl,hK⟩;cases e with
 | returned v=>
   have hg:Grow V' W V'' W':=⟨hbel.to,hfr,hsees⟩
   exact hn _ _ _ _ _ (L9 (a1S hr' hg) hd (show RVb γ V'' (.d d) v from hout)) hK
 |panicked ch=>exact hout.elim
 |outgrown=>exact hout.elim
theorem c5J {n:Nat}:∀{l:List (Nat×Blk)} {k:List (Nat×Blk)->Prop},a9N n l k->∃l',k l'/\∀t b,d7 t l'=some b->t≠n/\d7 t l=some b:=by
 intro l;induction l with
 |nil=>intro k h;exact⟨[],h,λt b h=>by rw[r7] at h;cases h⟩
 | cons p l ih=>
   obtain⟨d,y⟩:=p;intro k h;simp only[a9N] at h;obtain⟨l',h,hl⟩:=ih h;split at h
   . rename_i hdn;have hdn:=t7 hdn;refine⟨l',h,λt b hb=>?_⟩;obtain⟨h1,h2⟩:=hl t b hb;exact⟨h1,by rw[p5 (λe=>h1 (by rw[<-e,hdn]))];exact h2⟩
   . rename_i hdn;have hdn:=a3y hdn;refine⟨_,h,λt b hb=>?_⟩;by_cases e:d=t
     . subst e;rw[w9] at hb;cases hb;exact⟨hdn,w9 ..⟩
     . rw[p5 e] at hb;rw[p5 e];exact hl t b hb
def Weak (x y:Blk):Prop:=∃(h:Base->Base) (q:Nat->Bool),(∀b,h b=b\/h b= .junk)/\x=a2G h q y
theorem Weak.refl (x:Blk):Weak x x:=⟨id,λ_=>false,λ_=> .inl rfl,by cases x<;>first|(simp[a2G];done)|exact d6 (Blk.pn _) (List.filter_eq_self.2 (λ_ _=>rfl)).symm⟩
theorem Weak.trans {x y z:Blk}(h1:Weak x y)(h2:Weak y z):Weak x z:=by
 obtain⟨f,p,hf,rfl⟩:=h1;obtain⟨g,q,hg,rfl⟩:=h2;refine⟨f∘g,λm=>p m||q m,λb=>?_,by cases z<;>simp[a2G]⟩;rcases hg b with h|h
 . rcases hf b with h'|h'
   . exact .inl (by simp[h,h'])
   . exact .inr (by simp[h,h'])
 . right
   simp only[Function.comp,h];rcases hf .junk with h'|h'<;>exact h'
theorem Weak.ok {x y:Blk}(h:Weak x y){v:Value×Option Nat}(hy:BlkOk γ V W v y):BlkOk γ V W v x:=by
 obtain⟨f,q,hf,rfl⟩:=h;refine c8F (λb x hx=>?_) hy;rcases hf b with h|h
 . rw[h];exact hx
 . rw[h];trivial
theorem b8j (n:Nat)(b:Base):a0a n b=b\/a0a n b= .junk:=by
 unfold a0a;split
 . exact .inr rfl
 . exact .inl rfl
theorem c5I:∀(ins:List (Nat×Blk)) {st:SSt} {k:SSt->Prop},a1J ins st k->∃st1,k st1/\st1.pins=st.pins/\(∀t b,d7 t st1.L=some b->d7 t st.L=some b\/b= .junk)/\
 (∀t x,d7 t st1.O=some x->(∀y,(t,y)∉ins)/\∃y,d7 t st.O=some y/\Weak x y):=by
 intro ins;induction ins with
 |nil=>intro st k h;exact⟨st,h,rfl,λ_ _ h=> .inl h,λt x h=>⟨by simp,x,h, .refl x⟩⟩
 | cons p ins ih=>
   obtain⟨n,b⟩:=p;intro st k h;simp only[a1J] at h;split at h
   . obtain⟨O',h,hO⟩:=c5J h;obtain⟨st1,h1,h2,h3,h4⟩:=ih h;refine⟨st1,h1,h2,h3,λt x hl=>?_⟩;obtain⟨h5,y,h6,h7⟩:=h4 t x hl;obtain⟨h8,h9⟩:=hO t y h6;refine⟨λy hm=>?_,y,h9,h7⟩;rcases p8.1 hm with h|h
     . cases h;exact h8 rfl
     . exact h5 y h
   . obtain ⟨L',h,hL⟩:=a4P h;obtain⟨O',h,hO⟩:=a4Q h;obtain⟨st1,h1,h2,h3,h4⟩:=ih h;refine⟨st1,h1,h2,λt b hl=>?_,λt x hl=>?_⟩
     . rcases h3 t b hl with h5|h5
       . obtain⟨b0,h6,rfl⟩:=hL t b h5;rcases b8j n b0 with h7|h7
         . rw[h7];exact .inl h6
         . exact .inr h7
       . exact .inr h5
     . obtain⟨h5,y,h6,h7⟩:=h4 t x hl;obtain⟨h8,z,h9,h10⟩:=hO t y h6;refine⟨λy hm=>?_,z,h9,h7.trans ⟨_,_,b8j n,h10⟩⟩;rcases p8.1 hm with h|h
       . cases h;exact h8 rfl
       . exact h5 y h
theorem c3d {ins:List (Nat×Blk)}:∀(l:List (Nat×Blk)) {st:SSt} {k:SSt->Prop},a2q ins l st k->k {st with O:=l++st.O}/\∀d b,d7 d l=some b->a7R d ins=true\/F9 d st=true:=by
 intro l;induction l with
 |nil=>intro st k h;exact⟨h,λd b hl=>by rw[r7] at hl;cases hl⟩
 | cons p l ih=>
   obtain⟨t,x⟩:=p;intro st k h;simp only[a2q] at h;split at h
   case h_2=>exact h.elim
   rename_i hc;obtain⟨h1,h2⟩:=ih h;refine⟨h1,λd b hl=>?_⟩;by_cases e:t=d
   . subst e;simpa using hc
   . rw[p5 e] at hl;exact h2 d b hl
theorem c7x {n:Nat}{O:List (Nat×Blk)}(h:a7R n O=true):∃b,d7 n O=some b/\T4 n b=true:=by
 unfold a7R at h;split at h
 . exact⟨_,by assumption,h⟩
 . cases h
theorem b2G {O:List (Nat×Blk)}{n:Nat}(h:a2A O n=true):∃b,d7 n O=some b:=by
 unfold a2A at h;split at h
 . exact⟨_,by assumption⟩
 . cases h
theorem c8t {O O':List (Nat×Blk)}{n:Nat}:d7 n (O++O')=match d7 n O with|some b=>some b|none=>d7 n O':=by
 induction O with
 |nil=>rfl
 | cons p l ih=>
   obtain⟨d,y⟩:=p;rw[q8];by_cases e:d=n
   . subst e;rw[w9,w9]
   . rw[p5 e,p5 e];exact ih
theorem b0c {n:Nat}{b:Base}(h:F6 n b=true):n∈A7 b:=by
 cases b with
 |loc m _=>simp only[F6] at h;simp[A7,t7 h]
 |own m=>simp only[F6] at h;simp[A7,t7 h]
 |oel m _ _ _=>simp only[F6] at h;simp[A7,t7 h]
 |win m _ _ _=>simp only[F6] at h;simp[A7,t7 h]
 |ag _ m _=>simp only[F6] at h;simp[A7,t7 h]
 | agl cs=>
   have cap:∀l:List Cap,l.any (a2H n)=true->n∈Z4 l:=by
    intro l;induction l with
    |nil=>intro h;cases h
    | cons c l ih=>
      intro h;simp only[List.any_cons,C0] at h;cases c with
      | loc m o=>
        rcases h with h|h
        . simp only[a2H] at h;simp[Z4,t7 h]
        . simp[Z4,ih h]
      | dat d=>
        rcases h with h|h
        . cases h
        . simp only[Z4];exact ih h
   exact cap cs h
 | fn F fs cs=>
   have cap:∀l:List Cap,l.any (a2H n)=true->n∈Z4 l:=by
    intro l;induction l with
    |nil=>intro h;cases h
    | cons c l ih=>
      intro h;simp only[List.any_cons,C0] at h;cases c with
      | loc m o=>
        rcases h with h|h
        . simp only[a2H] at h;simp[Z4,t7 h]
        . simp[Z4,ih h]
      | dat d=>
        rcases h with h|h
        . cases h
        . simp only[Z4];exact ih h
   simp only[F6,C0] at h;simp only[A7,A8];exact h.imp (cap fs) (cap cs)
 |_=>cases h
theorem a7x (hr:Rel C γ st V a W){ins O':List (Nat×Blk)}(hS:a0r st.O ins){W':World}{V':Know}{γ':Gm}(hbel:BelowX (o8 γ ins) W.heap.size W W')(hfr:Fresh V V' (o8 γ ins) W.heap.size)(hsees:Sees V' W')
 (hres:A2 γ' V' W' O') (hres2:∀n b,d7 n O'=some b->∀k,(γ' n).2=some k->k∈o8 γ ins\/W.heap.size<=k) (hinj:M4 γ' O') (hbox:∀n b,d7 n ins=some b->T4 n b=true->γ' n=γ n)
 {rb:Base} (hcl:a0x rb O'=true) {k:SSt->Prop} (hK:a1J ins st λst=>a2q ins O' st λst=>k st):
 ∃γ2 st2,k st2/\Rel C γ2 st2 V' a W'/\∀v,RVb γ' V' rb v->RVb γ2 V' rb v:=by
 simp only[a0x,f0] at hcl;obtain⟨hcl1,hcl2⟩:=hcl;obtain⟨st1,hK,hP1,hL1,hO1⟩:=c5I _ hK;obtain⟨hK,hadd⟩:=c3d _ hK;have hblk:∀b∈o8 γ ins,∃r x,(∃y,(r,y)∈ins)/\d7 r st.O=some x/\(γ r).2=some b:=by
  intro b hb;obtain⟨⟨d,x⟩,hm,hbk⟩:=R6.1 hb;have hl:∃z,d7 d ins=some z:=by
   have :∀l:List (Nat×Blk),(d,x)∈l->∃z,d7 d l=some z:=by
    intro l;induction l with
    |nil=>intro h;cases h
    | cons p l ih=>
      obtain⟨t,y⟩:=p;intro h;by_cases e:t=d
      . subst e;exact⟨y,w9 ..⟩
      . rw[p5 e];rcases p8.1 h with h|h
        . cases h;exact absurd rfl e
        . exact ih h
   exact this ins hm
  obtain⟨z,hz⟩:=hl;obtain⟨b',hb',_⟩:=M7 hS d z hz;exact⟨d,b',⟨x,hm⟩,hb',hbk⟩
 have hokb:∀b∈o8 γ ins,Okb C b:=by
  intro b hb;obtain⟨r,x,_,h1,h2⟩:=hblk b hb;exact hr.okb r x h1 b h2
 let γ2:Gm:=λd=>match d7 d O' with|some _=>γ' d|none=>γ d
 have hg2:∀d b,d7 d O'=some b->γ2 d=γ' d:=λd b h=>by simp only[γ2,h]
 have hg2n:∀d,d7 d O'=none->γ2 d=γ d:=λd h=>by simp only[γ2,h]
 have hboxsame:∀d,a7R d ins=true->γ' d=γ d/\∃y,(d,y)∈ins:=by
  intro d hd';obtain⟨b,hx,hb⟩:=c7x hd';exact⟨hbox d b hx hb,_,Y3 hx⟩
 have hkeep:∀d,F9 d st1=false\/d7 d O'=none->γ2 d=γ d:=by
  intro d h;cases hl:d7 d O' with
  |none=>exact hg2n d hl
  | some b=>
    rw[hg2 d b hl];rcases h with h|h
    . rcases hadd d b hl with h'|h'
      . exact(hboxsame d h').1
      . rw[h] at h';cases h'
    . rw[hl] at h;cases h
 have hmL:∀t b d,d7 t st1.L=some b->F6 d b=true->F9 d st1=false:=by
  intro t b d hl hm';cases hc:F9 d st1 with
  |false=>rfl
  |true=>have:=b6q hc hl;rw[hm'] at this;cases this
 have hmO:∀t x d,d7 t st1.O=some x->(t=d\/a1P d x=true)->F9 d st1=false:=by
  intro t x d hl hm';cases hc:F9 d st1 with
  |false=>rfl
  | true=>
    have:=b2d hc hl;rcases hm' with rfl|hm'
    . exact absurd rfl this.1
    . rw[hm'] at this;cases this.2
 have hmP:∀d∈st1.pins,F9 d st1=false:=by
  intro d hd';cases hc:F9 d st1 with
  |false=>rfl
  |true=>exact absurd hd' (b6p hc)
 have hframe:∀d x,d7 d st1.O=some x->γ2 d=γ d/\d7 d O'=none/\BlkOk γ2 V' W' (γ d) x/\(∀b,(γ d).2=some b->b∉o8 γ ins/\b<W.heap.size)/\∃y,d7 d st.O=some y:=by
  intro d x hl;obtain⟨h1,y,h2,h3⟩:=hO1 d x hl;have hnone:d7 d O'=none:=by
   cases hlo:d7 d O' with
   |none=>rfl
   | some b=>
     rcases hadd d b hlo with h'|h'
     . obtain⟨_,y,hy⟩:=hboxsame d h';exact absurd hy (h1 y)
     . rw[hmO d x d hl (.inl rfl)] at h';cases h'
  have hy:=hr.own d y h2;have hnb:∀b,(γ d).2=some b->b∉o8 γ ins:=by
   intro b hb hm';obtain⟨r,z,⟨y',hr1⟩,hz1,hz2⟩:=hblk b hm';exact hr.inj r d z y hz1 h2 (λe=>h1 y' (e▸hr1)) b hz2 hb
  refine⟨hg2n d hnone,hnone,?_,λb hb=>⟨hnb b hb,I2 hy hb⟩,y,h2⟩;have hyk:BlkOk γ V' W' (γ d) y:=hy.keep hfr.le (λb hb=>hbel.block b (I2 hy hb) (hnb b hb)) (λb hb o u hu=>by
   rcases hfr.cell b o u hu with h|h|h
   . exact h
   . exact absurd h (hnb b hb)
   . have:=I2 hy hb;omega) (λb hb u hu=>by
   rcases hfr.obj b u hu with h|h|h
   . exact h
   . exact absurd h (hnb b hb)
   . have:=I2 hy hb;omega)
  have hx:=h3.ok hyk;cases x with
  | box cells ty=>
    obtain⟨blk,cs,e1,e2,e3,e4,e5⟩:=hx;refine⟨blk,cs,e1,e2,e3.imp λb hb y hy=>hy.congr λd' hd'=>?_,e4,e5⟩;rw[hkeep d' (.inl (hmO d _ d' hl (.inr (N9.2 ⟨b,hb,hd'⟩))))]
  |sl s=>exact hx
  |mp l=>exact hx
  |pn g ns=>exact⟨hx.1,λm hm=>by rw[hkeep m (.inl (hmO d _ m hl (.inr (memB_mem.2 hm))))];exact hx.2 m hm⟩
  | lp r g V0 pn=>
    obtain⟨h1,h2,h3⟩:=hx;exact⟨h1,h2,λm hm=>⟨by rw[hkeep m (.inl (hmO d _ m hl (.inr (memB_mem.2 hm))))];exact(h3 m hm).1,(h3 m hm).2⟩⟩
 have hlook:∀d x,d7 d (O'++st1.O)=some x->d7 d O'=some x\/(d7 d O'=none/\d7 d st1.O=some x):=by
  intro d x hl;rw[c8t] at hl;split at hl
  . rename_i h0;cases hl;exact .inl h0
  . rename_i h0;exact .inr ⟨h0,hl⟩
 refine⟨γ2,_,hK,?_,λv hv=>hv.congr λd hd'=>?_⟩
 . refine {size:=hr.size,defers:=hr.defers.keep rfl λk h=>(hbel.block k (R0 h) λhm=>by obtain⟨n,x,_,hl,hk⟩:=hblk k hm;exact b0B (hr.own n x hl) hk h).trans h,slots:=?_,own:=?_,okb:=?_,inj:=?_,pin:=λd hd'=>(hkeep d (.inl (hmP d hd'))).trans (hr.pin d (hP1▸hd')),sees:=hsees,fresh:=?_,below:=?_,bsize:=H8 hr.bsize hbel.size}
   . intro t b hl;have h0:RVb γ V' b (a.tmps.getD t undef):=by
      rcases hL1 t b hl with h|rfl
      . exact(hr.slots t b h).mono hfr.le
      . exact trivial
     exact h0.congr λd hd'=>by rw[hkeep d (.inl (hmL t b d hl hd'))]
   . intro d x hl;rcases hlook d x hl with h|⟨_,h⟩
     . rw [hg2 d x h];have hx:=hres d x h;cases x with
       | box cells ty=>
         obtain⟨blk,cs,e1,e2,e3,e4,e5⟩:=hx;refine⟨blk,cs,e1,e2,e3.imp λb hb y hy=>hy.congr λd' hd'=>?_,e4,e5⟩;have hc:=n7.1 hcl2 _ (Y3 h);simp only at hc;have hc:=n7.1 hc b hb;obtain⟨b',hb'⟩:=b2G (n7.1 hc d' (b0c hd'));rw[hg2 d' b' hb']
       |sl s=>exact hx
       |mp l=>exact hx
       |pn g ns=>have hc:=n7.1 hcl2 _ (Y3 h);cases hc
       | lp r g V0 pn=>
         obtain⟨h1,h2,h3⟩:=hx;have hc:=n7.1 hcl2 _ (Y3 h);simp only at hc;refine⟨h1,h2,λm hm=>⟨?_,(h3 m hm).2⟩⟩;obtain⟨b',hb'⟩:=b2G (n7.1 hc m hm);rw[hg2 m b' hb'];exact(h3 m hm).1
     . obtain⟨h1,_,h2,_⟩:=hframe d x h;rw[h1];exact h2
   . intro d x hl b hb;rcases hlook d x hl with h|⟨_,h⟩
     . rw[hg2 d x h] at hb;rcases hres2 d x h b hb with h1|h1
       . exact hokb b h1
       . exact .inr (H8 hr.bsize h1)
     . obtain⟨h1,_,_,_,y,hy⟩:=hframe d x h;rw[h1] at hb;exact hr.okb d y hy b hb
   . intro d1 d2 x1 x2 hl1 hl2 hne b hb;rcases hlook d1 x1 hl1 with h1|⟨_,h1⟩<;>rcases hlook d2 x2 hl2 with h2|⟨_,h2⟩
     . rw[hg2 d1 x1 h1] at hb;rw[hg2 d2 x2 h2];exact hinj d1 d2 x1 x2 h1 h2 hne b hb
     . rw[hg2 d1 x1 h1] at hb;obtain⟨e,_,_,hnb,_⟩:=hframe d2 x2 h2;rw[e];intro hb2;have hh:=hnb b hb2;rcases hres2 d1 x1 h1 b hb with h3|h3
       . exact hh.1 h3
       . omega
     . obtain⟨e,_,_,hnb,_⟩:=hframe d1 x1 h1;rw[e] at hb;rw[hg2 d2 x2 h2];intro hb2;have hh:=hnb b hb;rcases hres2 d2 x2 h2 b hb2 with h3|h3
       . exact hh.1 h3
       . omega
     . obtain⟨e1,_,_,_,y1,hy1⟩:=hframe d1 x1 h1;obtain⟨e2,_,_,_,y2,hy2⟩:=hframe d2 x2 h2;rw[e1] at hb;rw[e2];exact hr.inj d1 d2 y1 y2 hy1 hy2 hne b hb
   . exact hr.fresh.trans hfr hr.bsize hokb
   . refine hr.below.trans ⟨hbel.os,hbel.tape,hbel.output,hbel.size,λb hb hnl=>hbel.block b (a7n hb hr.bsize) λhm'=>?_⟩;rcases hokb b hm' with h|h
     . exact hnl h
     . omega
 . obtain⟨b,hb⟩:=b2G (n7.1 hcl1 d (b0c hd'));rw[hg2 d b hb]
theorem d5w {F:FuncId}{args:Array Value}{bs:List Base}{xs:List Value}(he:a0T P F->(execOp a.eval o).run P W= .ok (.enter F args) W)(hl:args=xs.toArray)(hr:Rel C γ st V a W)(hd:∀t,o.dst=some t->t<C.N)
 (hbs:Vals γ V bs xs) (h:c1g P st o.dst F bs k kp) (hn:Nx C k next) (hp:NxP C kp Q):opw C P o a W next Q:=by
 obtain⟨ins,args',⟨hS1,hS2⟩,hm⟩:=h;refine b9m (he hm.fn) ?_;rw[hl];have hinj0:M4 γ ins:=λn n' b b' h1 h2 hne k hk=>by
  obtain⟨y,hy,_⟩:=M7 hS2 n b h1;obtain⟨y',hy',_⟩:=M7 hS2 n' b' h2;exact hr.inj n n' y y' hy hy' hne k hk
 have hown0:A2 γ V W ins:=λn b h=>by
  obtain⟨y,hy,hs⟩:=M7 hS2 n b h;exact a5K hr.own hs (hr.own n y hy)
 refine(hm.run γ V W xs hr.sees (b5F hr.own hS1 hbs) hown0 hinj0).mono ?_;rintro e W' ⟨γ',V',o',O',hout,hbel,hfr,hsees,hres,hres2,hinj,hbox,hK⟩;cases o' with
 | ret b=>
   cases e with
   | returned v=>
     simp only at hK;split at hK
     case h_2=>exact hK.elim
     rename_i hcl;obtain⟨γ2,st2,hk,hr2,hv⟩:=a7x hr hS2 hbel hfr hsees hres hres2 hinj hbox hcl (k:=λst=>k (put st o.dst b)) hK;exact hn _ _ _ _ _ (L9 hr2 hd (hv v hout)) hk
   |panicked ch=>exact hout.elim
   |outgrown=>exact hout.elim
 | pan d=>
   cases e with
   |returned v=>exact hout.elim
   | panicked ch=>
     simp only at hK;split at hK
     case h_2=>exact hK.elim
     rename_i hcl;obtain⟨γ2,st2,hk,hr2,_⟩:=a7x hr hS2 hbel hfr hsees hres hres2 hinj hbox hcl (k:=λst=>kp d st) hK;obtain⟨v,rfl,hv⟩:=hout;exact hp _ _ _ _ _ _ _ hr2 hv hk
   |outgrown=>exact hout.elim
theorem c6k {dst:Option Tmp}{f:Operand}{args:Array Operand}{ats:Array TypeId}{ty:TypeId}{pos:String}{af:Array Edge}{gd:Option (Nat×Bool)}{l:Nat}{r:Result Next}
 (hf:a.eval f= .func (.yield l) #[] #[]) (h:(Instr.yield l (args.map a.eval)).run P W=r):
 (execOp a.eval ⟨dst, .call {callee:= .value f,args:=args,argTypes:=ats},ty,pos,af,gd⟩).run P W=r:=by
 unfold execOp;simp only[resolve,r4,hf,Deferred.ofValue,H3,r8,invoke];simpa using h
theorem d5x {n:Nat}{dst:Option Tmp}{f:Operand}{args:Array Operand}{ats:Array TypeId}{ty:TypeId}{pos:String}{af:Array Edge}{gd:Option (Nat×Bool)}{bs:List Base}(hf:a.eval f=(γ n).1)(hr:Rel C γ st V a W)(hd:∀t,dst=some t->t<C.N)
 (hbs:Vals γ V bs (args.toList.map a.eval)) (h:c1i P st dst n bs k kp) (hn:Nx C k next) (hp:NxP C kp Q):opw C P ⟨dst, .call {callee:= .value f,args:=args,argTypes:=ats},ty,pos,af,gd⟩ a W next Q:=by
 obtain⟨ds,st',V',h,hr',hreps,hle⟩:=a5Y hr hbs h;rw[a3I] at h;obtain⟨ins,hS2,hm⟩:=h;have hinj0:M4 γ ins:=λn n' b b' h1 h2 hne k hk=>by
  obtain⟨y,hy,_⟩:=M7 hS2 n b h1;obtain⟨y',hy',_⟩:=M7 hS2 n' b' h2;exact hr'.inj n n' y y' hy hy' hne k hk
 have hown0:A2 γ V' W ins:=λn b h=>by
  obtain⟨y,hy,hs⟩:=M7 hS2 n b h;exact a5K hr'.own hs (hr'.own n y hy)
 obtain⟨r,g,V0,pn,hl⟩:=hm.here;obtain⟨⟨l,hγ,_⟩,_⟩:=hown0 n _ hl;obtain⟨fn,tm,asg,bd,hy,hR⟩:=hm.run γ V' W _ l hr'.sees hreps hown0 hinj0 hγ;have ha:args.map a.eval=(args.toList.map a.eval).toArray:=by apply a0R.1;simp
 have hrun:=c6k (dst:=dst) (ats:=ats) (ty:=ty) (pos:=pos) (af:=af) (gd:=gd) (P:=P) (W:=W) (a:=a) (f:=f) (args:=args) (l:=l) (r:= .ok (.round l fn tm asg bd) W) (by rw[hf,hγ]) (by rw[ha];exact hy);refine a8p hrun (b0v hrun rfl) rfl ⟨λh=>(by cases h),RoundIn.mono (show RoundIn (fen C) 0 P l fn tm asg bd W _ from hR) ?_⟩;rintro e W' ⟨γ',V',o',O',hout,hbel,hfr,hsees,hres,hres2,hinj,hbox,hK⟩;cases o' with
 | ret b=>
   cases e with
   | returned v=>
     simp only at hK;split at hK
     case h_2=>exact hK.elim
     rename_i hcl;obtain⟨γ2,st2,hk,hr2,hv⟩:=a7x hr' hS2 hbel hfr hsees hres hres2 hinj hbox hcl (k:=λst=>k (put st dst b)) hK;exact hn _ _ _ _ _ (L9 hr2 hd (hv v hout)) hk
   |panicked ch=>exact hout.elim
   |outgrown=>exact hout.elim
 | pan d=>
   cases e with
   |returned v=>exact hout.elim
   | panicked ch=>
     simp only at hK;split at hK
     case h_2=>exact hK.elim
     rename_i hcl;obtain⟨γ2,st2,hk,hr2,_⟩:=a7x hr' hS2 hbel hfr hsees hres hres2 hinj hbox hcl (k:=λst=>kp d st) hK;obtain⟨v,rfl,hv⟩:=hout;exact hp _ _ _ _ _ _ _ hr2 hv hk
   |outgrown=>exact hout.elim
theorem b6j:∀{cs:List Cap} {xs:List Value},All2 (CapR γ V) cs xs->Vals γ V (a7y cs) xs:=by
 intro cs;induction cs with
 |nil=>intro xs h;rw[h.nil_l];exact .nil
 | cons c cs ih=>
   intro xs h;obtain⟨x,xs,rfl,h1,h2⟩:=h.cons_l;cases c with
   |loc n o=>exact .cons h1 (ih h2)
   |dat d=>exact .cons h1 (ih h2)
theorem b4K {r:Bool}{F:FuncId}{args:Array Value}{fs cs:List D}{bs:List Base}{us xs ws:List Value}(he:a0T P F->(execOp a.eval o).run P W= .ok (.enter F args) W)(hl:args=(us++xs++ws).toArray)(hr:Rel C γ st V a W)(hd:∀t,o.dst=some t->t<C.N)
 (hus:Reps V us fs) (hws:Reps V ws cs) (hbs:Vals γ V bs xs) (h:a8T P r st o.dst F fs cs bs k kp) (hn:Nx C k next) (hp:NxP C kp Q):opw C P o a W next Q:=by
 unfold a8T at h;split at h
 . refine d5w he hl hr hd ?_ h hn hp;rw[n9];exact All2.append (a8S hus) (All2.append hbs (a8S hws))
 . exact d5v he hl hr hd hus hws hbs h hn
theorem d4I {cf:Cfg}(hr:Rel C γ st V a W)(hd:∀t,o.dst=some t->t<C.N){c:Call}(ho:o.op= .call c){bs:List Base}(hbs:Vals γ V bs (o.op.operands.toList.map a.eval))(h:b4J P cf st o.dst c bs k kp)(hn:Nx C k next)(hp:NxP C kp Q):opw C P o a W next Q:=by
 obtain⟨dst,op,ty,pos,af,gd⟩:=o;simp only at ho hbs hd;subst ho;obtain⟨callee,args,ats⟩:=c;unfold b4J at h;simp only at h;split at h
 . rename_i f fb bs;have hbs:Vals γ V (fb::bs) (a.eval f::args.toList.map a.eval):=by simpa[Op.operands,Call.operands] using hbs
   have h1:=hbs.head;have h2:=hbs.tail;split at h
   . rename_i F fs cs;generalize hfv:a.eval f=fv at h1;cases h1 with
     | fn _ us ws _ _ hl1 hl2 g1 g2=>
       refine b4K (λhF=>b7v hfv hF) (us:=us) (xs:=args.toList.map a.eval) (ws:=ws) ?_ hr hd ⟨hl1,g1⟩ ⟨hl2,g2⟩ h2 h hn hp;apply a0R.1;simp
   . rename_i F fs cs;obtain⟨us,ws,hfv,g1,g2⟩:=h1;refine b4K (λhF=>b7v hfv hF) (us:=[]) (xs:=us++args.toList.map a.eval++ws) (ws:=[]) ?_ hr hd (.nil V) (.nil V) (All2.append (All2.append (b6j g1) h2) (b6j g2)) h hn hp;apply a0R.1;simp
   . exact d5x h1 hr hd h2 h hn hp
   . exact h.elim
 . rename_i r name rb bs;have hbs:Vals γ V (rb::bs) (a.eval r::args.toList.map a.eval):=by simpa[Op.operands,Call.operands] using hbs
   have h1:=hbs.head;have h2:=hbs.tail;split at h
   case h_2=>exact h.elim
   rename_i t x _;obtain⟨F,hm,h⟩:=h;generalize hfv:a.eval r=fv at h1;cases h1 with
   | iface _ y _ hy=>
     refine b4K (λhF=>c6j hfv hm hF) (us:=[y]) (xs:=args.toList.map a.eval) (ws:=[]) ?_ hr hd (.cons hy (.nil V)) (.nil V) h2 h hn hp;apply a0R.1;simp
 . exact h.elim
end
variable {P:Program} {T:List (Nat×TI)} {C:Cx} {γ:Gm} {st:SSt} {V:Know} {a:Act} {W:World} {k:SSt->Prop}
noncomputable def b4T (T:List (Nat×TI))(nm:List (Nat×Nat))(st:SSt)(dst:Option Nat)(t:TypeId)(bl bc:Base)(k:SSt->Prop):Prop:=
 match d7 t T with
 |none=>False
 | some ti=>match ti.desc with
   | .slice e=>match d7 e T with
     |none=>False
     | some te=>match te.zero with
       | .int kd z=>match bl,bc with
         | .d (.v (.int _ l)), .d (.v (.int _ c))=>(te.size=1/\w8 kd z/\l=c/\0<=l/\(te.bytes:Int)*c<=281474976710656/\c<=4611686018427387904)/\a0J nm st dst (.sl ⟨e,1,List.replicate l.toNat [.v (.int kd z)],false⟩) k
         |_,_=>False
       | .bool z=>match bl,bc with
         | .d (.v (.int _ l)), .d (.v (.int _ c))=>(te.size=1/\l=c/\0<=l/\(te.bytes:Int)*c<=281474976710656/\c<=4611686018427387904)/\a0J nm st dst (.sl ⟨e,1,List.replicate l.toNat [.v (.bool z)],false⟩) k
         |_,_=>False
       | .string _=>match bl,bc with
         | .d (.v (.int _ l)), .d (.v (.int _ c))=>(l=0/\0<=c/\(te.bytes:Int)*c<=281474976710656/\c<=4611686018427387904)/\a0J nm st dst (.sl ⟨e,te.size,[],true⟩) k
         |_,_=>False
       |_=>False
   |_=>False
theorem c6G (n:Nat)(d:D):(List.replicate n [d]).flatten=List.replicate n d:=by
 induction n with
 |zero=>rfl
 |succ n ih=>rw[a9f,K0,ih,a9f];rfl
theorem c8E (z:Value)(n:Nat)(h:z.cells= #[z]):madeCells z.cells n=(List.replicate n z).toArray:=by
 rw[madeCells,h];apply Array.ext
 . simp
 . intro i h1 h2;simp[Nat.mod_one]
theorem d4R (hT:TOk P T)(hr:Rel C γ st V a W){dst:Option Nat}(hd:∀t,dst=some t->t<C.N){t:TypeId}{bl bc:Base}{lv cv:Value}(hl:RVb γ V bl lv)(hc:RVb γ V bc cv){nm:List (Nat×Nat)}(h:b4T T nm st dst t bl bc k):
 ∃v W' γ' st',(Instr.makeSlice t lv cv).run P W= .ok v W'/\k st'/\Rel C γ' st' V (a.put dst v) W':=by
 unfold b4T at h;split at h
 . exact h.elim
 rename_i ti hti;split at h
 case h_2=>exact h.elim
 rename_i e hdsc;split at h
 . exact h.elim
 rename_i te hte;have core:∀(z0:Value) (d0:D) (k1 k2:IntKind) (l:Int),te.zero=z0->lv= .int k1 l->cv= .int k2 l->Rep V z0 d0->z0.cells= #[z0]->z0.oneCell'=true->te.size=1->0<=l->(te.bytes:Int)*l<=281474976710656->l<=4611686018427387904->
  a0J nm st dst (.sl ⟨e,1,List.replicate l.toNat [d0],false⟩) k->∃v W' γ' st',(Instr.makeSlice t lv cv).run P W= .ok v W'/\k st'/\Rel C γ' st' V (a.put dst v) W':=by
  intro z0 d0 k1 k2 l hz e1 e2 hz0 hzc hone h1 h0 hby hmx h;obtain⟨i,hi,hs,hbi,hzero⟩:=hT.info hte;subst e1 e2;have hrun:=run_make (P:=P) W t e i te.zero (by rw[hT.row hti,hdsc]) hi hzero k1 k2 l l h0 (a0o _) (by rw[hbi];exact hby) (by omega);rw[hs,h1,a2o,hz,c8E _ _ hzc] at hrun;have hlm:l.toNat<=maxLen:=by simp only[maxLen];omega
  have hrel:=a1S hr (a7v hr.sees (.cells (List.replicate l.toNat z0).toArray e));have hown:=World.ownsRow_lit (base:=0) (e:=e) (size:=1) W (List.replicate l.toNat z0).toArray l.toNat (F4 _) hlm (by simp);have hreps:Reps V (List.replicate l.toNat z0) (List.replicate l.toNat [d0]).flatten:=by
   rw[c6G];refine⟨by simp,λi u d hu hd=>?_⟩;rw[List.getElem?_replicate] at hu hd;split at hu
   . rw[d4 ‹_›] at hd;cases hu;cases hd;exact hz0
   . cases hu
  obtain⟨γ',st',hk',hr2⟩:=a6s hrel hd (λn=>rfl) h (v:=(.slice (some ⟨W.heap.size,0,none⟩) l.toNat l.toNat,some W.heap.size)) (.inl ⟨W.heap.size,l.toNat,l.toNat,List.replicate l.toNat z0,rfl,by simpa using hown,λds hds=>by rw[(List.mem_replicate.1 hds).2];rfl,hreps,λu hu=>by rw[(List.mem_replicate.1 hu).2];exact hone,λo=>by
   cases hc:V.cell W.heap.size o with
   |none=>rfl
   |some u=>have:=hr.sees.lt hc;omega⟩) (λq hq=>by cases hq;exact .inr hr.bsize) (λn' b' hl q hq hq'=>by
   cases hq;have:=I2 (hr.own n' b' hl) hq';omega)
  exact⟨_,_,γ',st',hrun,hk',hr2⟩
 split at h
 . rename_i kd z hz;split at h
   case h_2=>exact h.elim
   rename_i k1 l k2 c;obtain⟨⟨h1,hin,rfl,h0,hby,hmx⟩,h⟩:=h;exact core (.int kd z) _ k1 k2 l hz (Rep.int_inv hl|>.1) (Rep.int_inv hc|>.1) (.v _ (wf_int.2 hin)) rfl rfl h1 h0 hby hmx h
 . rename_i z hz;split at h
   case h_2=>exact h.elim
   rename_i k1 l k2 c;obtain⟨⟨h1,rfl,h0,hby,hmx⟩,h⟩:=h;exact core (.bool z) _ k1 k2 l hz (Rep.int_inv hl|>.1) (Rep.int_inv hc|>.1) (.b z) rfl rfl h1 h0 hby hmx h
 . rename_i z hz;split at h
   case h_2=>exact h.elim
   rename_i k1 l k2 c;obtain⟨⟨rfl,h0,hby,hmx⟩,h⟩:=h;obtain⟨i,hi,hs,hbi,hzero⟩:=hT.info hte;obtain⟨c,rfl⟩:=Int.eq_ofNat_of_zero_le h0;obtain rfl:=(Rep.int_inv hl).1;obtain rfl:=(Rep.int_inv hc).1;have hrun:=run_make (P:=P) W t e i te.zero (by rw[hT.row hti,hdsc]) hi hzero k1 k2 0 (c:Int) (a0o _) h0 (by rw[hbi];exact hby) (by omega);have hcm:c<=maxLen:=by simp only[maxLen];omega
   have hrel:=a1S hr (a7v hr.sees (.cells (madeCells te.zero.cells ((c:Int).toNat *i.size)) e));have hown:(W.alloc (.cells (madeCells te.zero.cells ((c:Int).toNat *i.size)) e)).ownsRow 0 e te.size (.slice (some ⟨W.heap.size,0,none⟩) 0 c) 0 []:=
    ⟨by simp, .inr ⟨W.heap.size,c,_,rfl,F4 _,heap_alloc_new W _,F4 _,hcm,by rw[<-hs];simp[madeCells],by simp⟩⟩
   obtain⟨γ',st',hk',hr2⟩:=a6s hrel hd (λn=>rfl) h (v:=(.slice (some ⟨W.heap.size,0,none⟩) 0 c,some W.heap.size)) (.inl ⟨W.heap.size,0,c,[],rfl,hown,λds hds=>by simp at hds, .nil V,λu hu=>by simp at hu,λo u hc=>(by have:=hr.sees.lt hc;omega),λj u hj=>by simp at hj⟩) (λq hq=>by cases hq;exact .inr hr.bsize) (λn' b' hl q hq hq'=>by
    cases hq;have:=I2 (hr.own n' b' hl) hq';omega)
   exact⟨_,_,γ',st',hrun,hk',hr2⟩
 . exact h.elim
noncomputable def b4Y (T:List (Nat×TI))(st:SSt)(dst:Option Nat)(ty:TypeId)(b hi:Base)(k:SSt->Prop):Prop:=
 match d7 ty T with
 |none=>False
 | some ti =>match ti.desc with
   | .slice e=>match d7 e T with
     |none=>False
     | some te=>match b,hi with
       | .own n, .d (.v (.int _ j))=>match d7 n st.O with
         | some (.sl s)=>match s.pub||w6 n st.pins with
           |true=>False
           | false=>(s.xs.length<=maxLen->0<=j/\j<=(s.xs.length:Int)/\0<s.xs.length/\s.k=te.size)/\
             a0d (a0a n) st.L λL'=>a0e n (a0a n) st.O λO'=>k (put {st with L:=L',O:=(n, .sl {s with xs:=s.xs.take j.toNat})::O'} dst (.own n))
         |_=>False
       |_,_=>False
   |_=>False
theorem c6J {k:Nat}:∀{xs:List (List D)},(∀ds∈xs,ds.length=k)->∀j,(xs.take j).flatten=xs.flatten.take (j*k):=by
 intro xs;induction xs with
 |nil=>intro _ j;simp
 | cons x xs ih=>
   intro hk j;cases j with
   |zero=>simp
   | succ j=>
     rw[List.take_succ_cons,K0,K0,ih (λz hz=>hk z (by simp[hz])),List.take_append,hk x (by simp),a3o,y6 (l:=x) (by rw[hk x (by simp)];omega),Nat.add_sub_cancel]
theorem d4Y (hT:TOk P T)(hr:Rel C γ st V a W){dst:Option Nat}(hd:∀t,dst=some t->t<C.N){ty:TypeId}{b hi:Base}{xv hv:Value}(hx:RVb γ V b xv)(hh:RVb γ V hi hv)(h:b4Y T st dst ty b hi k):
 ∃v γ' st',(Instr.sliceAt ty xv none (some hv) none).run P W= .ok v W/\k st'/\Rel C γ' st' V (a.put dst v) W:=by
 unfold b4Y at h;split at h
 . exact h.elim
 rename_i ti hti;split at h
 case h_2=>exact h.elim
 rename_i e hdsc;split at h
 . exact h.elim
 rename_i te hte;split at h
 case h_2=>exact h.elim
 rename_i n kk j;split at h
 case h_2=>exact h.elim
 rename_i s hs;split at h
 . exact h.elim
 rename_i hpp;simp only[W8] at hpp;obtain⟨hp,hpin⟩:=hpp;have hpin:n∉st.pins:=λhm=>by rw[memB_mem.2 hm] at hpin;cases hpin
 obtain⟨hb,h⟩:=h;obtain⟨L',h,hL⟩:=a4P h;obtain⟨O',h,hO⟩:=a4Q h;have e2:hv= .int kk j:=Rep.int_inv hh|>.1
 subst e2;rcases hr.own n _ hs with⟨g,m,c,vals,hv,hown,hk,hvr,h1,hm⟩|⟨hp',_⟩
 . have hown0:=hown;rw[hv] at hown;obtain⟨cur,rfl,hhp,hnc,hcm,hcs,htk,hvl⟩:=Q0 hown;obtain⟨b1,b2,b3,b4⟩:=hb (H8 hnc hcm);rw[hp] at hm;have hbb:=b4f (P:=P) (W:=W) (isS:=true) (lo:=none) (hi:=some (.int kk j)) (mx:=none) (n:=s.xs.length) (c:=c) (l:=0) (h:=j) (m:=c) (.inl ⟨rfl,rfl⟩) (.inr ⟨kk,rfl⟩) (.inl ⟨rfl,rfl⟩) (λe=>absurd rfl e) ⟨by omega,b1,by omega,a0o _⟩;have hrun:(Instr.sliceAt ty xv none (some (.int kk j)) none).run P W= .ok (.slice (some ⟨g,0,none⟩) j.toNat c) W:=by
    rw[show xv=(γ n).1 from hx,hv];simp only[Instr.sliceAt,Instr.slice,r4,hT.under hti W,r8,hdsc,Option.isSome_none,hbb,hT.sizeOf hte W,H3];by_cases hc0:c=0
    . omega
    . simp[Addr.add]
   have hsl:a5J V W (.slice (some ⟨g,0,none⟩) j.toNat c,some g) {s with xs:=s.xs.take j.toNat}:=by
    have hlt:(s.xs.take j.toNat).length=j.toNat:=by rw[R5];omega
    refine .inl ⟨g,j.toNat,c,vals.take (j.toNat *s.k),rfl,?_,λds hds=>hk ds (Q5 hds),?_,λu hu=>h1 u (Q5 hu),?_⟩
    . show W.ownsRow 0 s.e s.k (.slice (some ⟨g,0,none⟩) j.toNat c) (s.xs.take j.toNat).length _;rw[hlt];refine⟨by rw[R5,hvl];exact Nat.min_eq_left (a3n _ (by omega)), .inr ⟨g,c,cur,rfl,F4 _,hhp,by omega,hcm,hcs,?_⟩⟩;rw[<-htk,List.take_take,Nat.min_eq_left (a3n _ (by omega))]
    . show Reps V _ (s.xs.take j.toNat).flatten;rw[c6J hk];exact hvr.take _
    . show match s.pub with|true=>_|false=>_
      rw[hp];exact hm
   have hr1:=b9M (V1:=V) hr hs hpin (λad e=>by rw[hv] at e;cases e) (v1:=(.slice (some ⟨g,0,none⟩) j.toNat c,some g)) (s1:={s with xs:=s.xs.take j.toNat})
    ⟨rfl,rfl,rfl,p0 _,λ_ _ _=>rfl⟩ (.refl V) hr.sees (λ_ _ _ h=> .inl h) (λ_ _ h=>h) (λq hq=> .inl (by rw[hv];exact hq)) hsl hL hO
   exact⟨_,_,_,hrun,h,L9 hr1 hd (by show _=(J3 γ n _ n).1;rw[M3])⟩
 . rcases hp' with hp'|hp'
   . rw[hp] at hp';cases hp'
   . obtain⟨_,_,b3,_⟩:=hb (by rw[hp'];exact F4 _);rw[hp'] at b3;simp at b3
noncomputable def a9P (O:List (Nat×Blk))(d:Base)(k:Nat->Nat->Nat->OwnS->Prop):Prop:=
 match d with
 | .own n=>match d7 n O with
   | some (.sl s)=>match s.pub with
     |true=>False
     |false=>s.xs≠[]/\k n 0 s.xs.length s
   |_=>False
 | .win n m i j=>match d7 n O with
   | some (.sl s)=>match s.pub with
     |true=>False
     |false=>(s.k=m/\i<j/\j<=s.xs.length)/\k n i j s
   |_=>False
 |_=>False
noncomputable def b4l (O:List (Nat×Blk))(d:Base)(k:List (List D)->Prop):Prop:=
 match Y6 O d with
 |some ys=>k ys
 |none=>a9P O d λ_ i j s=>k ((s.xs.take j).drop i)
noncomputable def b4N (T:List (Nat×TI))(st:SSt)(dst:Option Nat)(td:TypeId)(d s:Base)(k:SSt->Prop):Prop:=
 match d7 td T with
 |none=>False
 | some ti=>match ti.desc with
   | .slice e=>match d7 e T with
     |none=>False
     | some te=>match Nat.beq te.size 1 with
       |false=>False
       | true=>a9P st.O d λn i j os=>b4l st.O s λys=>(ys≠[]/\i<j/\os.k=1/\∀ds∈ys,ds.length=1)/\
          M0 n (.sl {os with xs:=setRun os.xs i (ys.take (j-i))}) st.O λO'=>k (put {st with O:=O'} dst (.d (.v (.int .i64 (Nat.min ys.length (j-i):Nat)))))
   |_=>False
theorem a7M {xs:List (List D)}(h:∀ds∈xs,ds.length=1):xs.flatten.length=xs.length:=by rw[a3H h,a2o]
theorem a7L {xs:List (List D)}(h:∀ds∈xs,ds.length=1)(i:Nat):xs.flatten[i]?=(xs[i]?).bind (·.head?):=by
 cases hx:xs[i]? with
 | none=>
   have:=b1z.1 hx;rw[z6 (by rw[a7M h];omega)];rfl
 | some ds=>
   have hl:=h ds (M6 hx);obtain⟨d,rfl⟩:=a5D.1 hl;have:=a4I h (i:=i) (j:=0) hx rfl;rw[a2o,a3m] at this;rw[this];rfl
theorem b7C {xs:List (List D)}(h:∀ds∈xs,ds.length=1)(i j:Nat):((xs.take j).drop i).flatten=(xs.flatten.take j).drop i:=by
 apply O0;intro q;rw[a7L (λds hd=>h ds (Q5 (a0V hd)))];simp only[a5C,X1];split
 . rw[a7L h]
 . rfl
theorem c6B {xs ys:List (List D)}(h:∀ds∈xs,ds.length=1)(h':∀ds∈ys,ds.length=1){i:Nat}(hi:i+ys.length<=xs.length):(setRun xs i ys).flatten=setRun xs.flatten i ys.flatten:=by
 apply O0;intro q;rw[a7L (a5d h h'),Q2 _ _ _ _ hi,Q2 _ _ _ _ (by rw[a7M h,a7M h'];exact hi),a7M h'];split
 . rw[a7L h']
 . rw[a7L h]
theorem b7e (ho:A2 γ V W st.O){b:Base}{x:Value}(hx:RVb γ V b x){kk:Nat->Nat->Nat->OwnS->Prop}(h:a9P st.O b kk):
 ∃ n i j s,kk n i j s/\d7 n st.O=some (.sl s)/\s.pub=false/\i<j/\j<=s.xs.length/\∃g m c vals c',γ n=(.slice (some ⟨g,0,none⟩) m c,some g)/\W.ownsRow 0 s.e s.k (.slice (some ⟨g,0,none⟩) m c) s.xs.length vals/\(∀ds∈s.xs,ds.length=s.k)/\Reps V vals s.xs.flatten/\
   (∀u∈vals,u.oneCell'=true)/\(∀o,V.cell g o=none)/\x= .slice (some ⟨g,i*s.k,none⟩) (j-i) c':=by
 unfold a9P at h;split at h
 . rename_i n;split at h
   case h_2=>exact h.elim
   rename_i s hs;split at h
   . exact h.elim
   rename_i hp;rcases ho n _ hs with⟨g,m,c,vals,hv,hown,hk,hvr,h1,hm⟩|⟨hp',_⟩
   . rw[hp] at hm;rw[hv] at hown;obtain⟨cur,hn,_⟩:=Q0 hown;refine⟨n,0,s.xs.length,s,h.2,hs,hp,a7g.2 h.1,p0 _,g,m,c,vals,c,hv,hown,hk,hvr,h1,hm,?_⟩;rw[show x=(γ n).1 from hx,hv,Nat.zero_mul,Nat.sub_zero,<-hn]
   . rcases hp' with e|e
     . rw[hp] at e;cases e
     . exact absurd e h.1
 . rename_i n m' i j;split at h
   case h_2=>exact h.elim
   rename_i s hs;split at h
   . exact h.elim
   rename_i hp;obtain⟨⟨rfl,hij,hj⟩,h⟩:=h;rcases ho n _ hs with⟨g,m,c,vals,hv,hown,hk,hvr,h1,hm⟩|⟨hp',_⟩
   . rw[hp] at hm;rw[hv] at hown;obtain⟨g',m2,c2,e1,e2⟩:=hx;rw[hv] at e1;obtain⟨rfl,rfl,rfl⟩:g=g'/\m=m2/\c=c2:=by simpa using e1
     exact⟨n,i,j,s,h,hs,hp,hij,hj,g,m,c,vals,_,hv,hown,hk,hvr,h1,hm,e2⟩
   . rcases hp' with e|e
     . rw[hp] at e;cases e
     . rw[e] at hj;simp at hj;omega
 . exact h.elim
theorem d2B (hs:Sees V W)(ho:A2 γ V W st.O){b:Base}{x:Value}(hx:RVb γ V b x){kk:List (List D)->Prop}(h:b4l st.O b kk):
 ∃ys,kk ys/\(ys≠[]->(∀ds∈ys,ds.length=1)->∃us a c,x= .slice (some a) ys.length c/\Reps V us ys.flatten/\(∀u∈us,u.oneCell'=true)/\∀j u,us[j]?=some u->W.cell? (a.add j)=some u):=by
 unfold b4l at h;split at h
 . rename_i ys hys;refine⟨ys,h,λhne hk=>?_⟩;obtain⟨us,h1,h2,h3⟩:=b4a (a3S ho hys hx) hk;rcases h3 with⟨_,e⟩|⟨b,o,c,rfl,h3⟩
   . exact absurd e hne
   . exact⟨us,_,c,rfl,h1,h2,λj u hj=>by rw[T0];exact hs.cell _ _ _ (h3 j u hj)⟩
 . obtain ⟨n,i,j,s,hkk,hl,hp,hij,hj,g,m,c,vals,c',hv,hown,hk,hvr,h1,hm,rfl⟩:=b7e ho hx h;refine⟨_,hkk,λhne hk1=>?_⟩;have hsk:s.k=1:=by
    cases hz:(s.xs.take j).drop i with
    |nil=>exact absurd hz hne
    | cons z zs=>
      have hmem:z∈(s.xs.take j).drop i:=by rw[hz];exact A9 ..
      rw[<-hk z (Q5 (a0V hmem)),hk1 z hmem]
   rw[hsk] at hk;refine⟨(vals.take j).drop i,⟨g,i*s.k,none⟩,c',by simp;omega,?_,λu hu=>h1 u (Q5 (a0V hu)),λq u hq=>?_⟩
   . rw[b7C hk];exact(hvr.take j).drop i
   . rw [a5C,X1] at hq;split at hq
     . have:=hown.cells (g:=g) rfl _ u hq;rw[T0] at this⊢;rwa[hsk,a2o,<-F3 (i+q)]
     . cases hq
theorem d4L (hT:TOk P T)(hr:Rel C γ st V a W){dst:Option Nat}(hd:∀t,dst=some t->t<C.N){td ts rt:TypeId}{d s:Base}{dv sv:Value}(hdv:RVb γ V d dv)(hsv:RVb γ V s sv)(h:b4N T st dst td d s k):
 ∃v W' st',(Builtin.copy_ #[td,ts] rt #[dv,sv]).run P W= .ok v W'/\k st'/\Rel C γ st' V (a.put dst v) W':=by
 unfold b4N at h;split at h
 . exact h.elim
 rename_i ti hti;split at h
 case h_2=>exact h.elim
 rename_i e hdsc;split at h
 . exact h.elim
 rename_i te hte;split at h
 . exact h.elim
 rename_i hsz;have hsz:=t7 hsz;obtain⟨n,i,j,os,h,hl,hp,hij,hj,g,m,c,vals,c',hv,hown,hk,hvr,h1,hnone,rfl⟩:=b7e hr.own hdv h;obtain⟨ys,h,hsrc⟩:=d2B hr.sees hr.own hsv h;obtain⟨⟨hne,_,hk1,hy1⟩,h⟩:=h;obtain⟨O',h,hO⟩:=a1U h;obtain⟨us,ad,sc,rfl,hur,hu1,huc⟩:=hsrc hne hy1;rw[hk1] at hk hown;obtain⟨cur,rfl,hh,hnc,hcm,hcs',htake,hvl⟩:=Q0 hown;rw[a2o] at hcs' htake hvl;have hul:us.length=ys.length:=by rw[hur.len,a7M hy1]
 obtain⟨ii,hi,hs,hby,hzero⟩:=hT.info hte;have hcl:(us.take (j-i)).length=Nat.min ys.length (j-i):=by rw[R5,hul,Nat.min_comm]
 have hcl':(us.take (j-i)).length<=j-i:=by rw[R5];exact Nat.min_le_left _ _
 have hyl:(ys.take (j-i)).length=(us.take (j-i)).length:=by rw[R5,R5,hul]
 have hrun:=run_copy_row P W td ts rt e g i (j-i) c' ad ys.length sc cur os.e (us.take (j-i)) (by rw[hT.row hti,hdsc]) (by rw[hi,G9,hs,hsz]) hh hcl (λq u hq=>by
  rw[X1] at hq;split at hq
  . exact huc q u hq
  . cases hq) (by omega) (λu hu=>hu1 u (Q5 hu))
 rw[hk1,a2o];have hyt:∀ds∈ys.take (j-i),ds.length=1:=λds hd=>hy1 ds (Q5 hd);have hr' :Rel C γ {st with O:=O'} V a (W.setRow g (setRun cur.toList i (us.take (j-i))).toArray):=by
  refine a8w hr (b0Q W g _) (λ_ e h=>by cases e;rw[hh] at h;cases h) (λg' hg2=>?_) (λq y hy=>?_)
  . cases hg2;refine⟨hr.okb n _ hl g (by rw[hv]),λo u hu=>(by rw[hnone] at hu;cases hu),λy hy=>?_⟩;have:=hr.sees.obj g y hy;rw[hh] at this;obtain⟨_,_,e⟩:=this.2;rw[e] at this;cases this.1
  . rcases hO q y hy with⟨rfl,rfl,_⟩|⟨hne,hlq⟩
    . refine .inl ⟨.inl ⟨g,_,c,setRun vals i (us.take (j-i)),hv,?_,?_,?_,?_,by simp only[hp];exact hnone⟩,_,hl⟩
      . rw [hv];simp only[hk1,a1V];refine⟨by rw[a1V,hvl,a2o], .inr ⟨g,c,_,rfl,F4 _,setRow_heap W g cur _ os.e _ hh,hnc,hcm,by simp[a1V,hcs'],?_⟩⟩;simp only;rw[a2o];apply O0;intro q;rw[X1];have hcl3:i+(us.take (j-i)).length<=cur.toList.length:=by
         have:=a3c (xs:=cur);omega
        by_cases hj':q<os.xs.length
        . rw[d4 hj',Q2 _ _ _ _ hcl3,Q2 _ _ _ _ (by omega)];split
          . rfl
          . rw[<-htake,X1,d4 hj']
        . rw[c8 hj',z6 (by rw[a1V,hvl];omega)]
      . simp only[hk1];exact a5d hk hyt
      . simp only;rw[c6B hk hyt (by omega)];refine hvr.setRun ?_ (by omega);have:=b7C hy1 0 (j-i);simp only[List.drop_zero] at this;rw[this];exact hur.take _
      . exact a5d h1 (λu hu=>hu1 u (Q5 hu))
    . exact .inr ⟨hlq,λg' hg2 hg3=>by cases hg2;exact hr.inj q n y _ hlq hl hne g hg3 (by rw[hv])⟩
 refine⟨_,_,_,hrun,h,?_⟩;rw[c0j _ _ _ (by simp only[a3c];omega)] at hr';refine L9 hr' hd ?_;rw[show(Nat.min ys.length (j-i):Nat)=(us.take (j-i)).length from hcl.symm];refine Rep.v _ (wf_int.2 ?_);have:j<=maxLen:=by omega
 simp only[maxLen] at this;simp only[w8];omega
noncomputable def a6c (O:List (Nat×Blk))(place:Nat->Option (Nat×Nat))(cells:List Base):List (Nat×Base)->Option (List Base)
 |[]=>some cells
 | (i, b)::rest=>match place i with
   |none=>none
   | some (off,size)=>match a4w O b with
     |none=>none
     | some cs=>match Nat.beq cs.length size&&Nat.ble (off+size) cells.length with
       |true=>a6c O place (setRun cells off cs) rest
       |false=>none
theorem b7y (ho:A2 γ V W st.O){place:Nat->Option (Nat×Nat)}:∀{is:List Nat} {vs:List Value} {bs:List Base} {us:List Value} {cells r:List Base},is.length=vs.length->Vals γ V bs vs->All2 (RVb γ V) cells us->(∀u∈us,u.oneCell'=true)->
 a6c st.O place cells (is.zip bs)=some r->∃w,a1M place us (is.zip vs)=some w/\All2 (RVb γ V) r w/\∀u∈w,u.oneCell'=true:=by
 intro is;induction is with
 |nil=>intro vs ds us cells r hl _ hu h1 h;simp only[List.zip_nil_left,a6c,H0] at h;subst h;exact⟨us,rfl,hu,h1⟩
 | cons i is ih=>
   intro vs ds us cells r hl hv hu h1 h;match vs,ds,hl,hv with
   |[],_,hl,_=>simp at hl
   |v::vs,[],_,hv=>have:=hv.len;simp at this
   | v::vs,d::ds,hl,hv=>
     simp only[a5G,a6c] at h;split at h
     . cases h
     rename_i off size hp;split at h
     . cases h
     rename_i cs hcs;split at h
     case h_2=>cases h
     rename_i hb;obtain⟨h3,h4⟩:=b1Y hcs ho hv.head;have hlen:=h3.len;simp only[f0] at hb;have hle:=X2 hb.2;have hsz:cs.length=size:=t7 hb.1;obtain⟨w,hw,hr,ho⟩:=ih (us:=Dx.setRun us off (cellsL v)) (by simpa using hl) hv.tail (hu.setRun h3 (by rw[hsz];exact hle)) (a5d h1 h4) h;refine⟨w,?_,hr,ho⟩;simp only[a5G,a1M,hp];rw[<-hlen,<-hu.len,hb.1,hb.2];exact hw
def b9D (v:Value):Option D:=match v with| .slice none n c=>some (.raw (.slice none n c))|v=>a6m v
def a8t:List Value->Option (List D)
 |[]=>some []
 | v ::vs=>match b9D v with
   | some d=>match a8t vs with
     |some ds=>some (d::ds)
     |none=>none
   |none=>none
theorem b9E (V:Know):∀{vs:List Value} {ds:List D},a8t vs=some ds->Reps V vs ds/\∀v∈vs,v.oneCell'=true:=by
 intro vs;induction vs with
 |nil=>intro ds h;cases h;exact⟨.nil V,by simp⟩
 | cons v vs ih=>
   intro ds h;simp only[a8t] at h;split at h
   case h_2=>cases h
   rename_i d hd;split at h
   case h_2=>cases h
   rename_i es hes;cases h;have h12:Rep V v d/\v.oneCell'=true:=by
    unfold b9D at hd;split at hd
    . cases hd;exact⟨.raw _ rfl,rfl⟩
    . exact b0j hd V
   obtain⟨h1,h2⟩:=h12;obtain⟨h3,h4⟩:=ih hes;exact⟨.cons h1 h3,by simpa using ⟨h2,h4⟩⟩
def a7z:List Base->Option (List Cap)
 |[]=>some []
 | .loc n o::r=>match a7z r with|some q=>some (.loc n o::q)|none=>none
 | .d d::r=>match a7z r with|some q=>some (.dat d::q)|none=>none
 |_::_=>none
theorem c3X:∀{bs:List Base} {cs:List Cap} {xs:List Value},a7z bs=some cs->All2 (RVb γ V) bs xs->All2 (CapR γ V) cs xs:=by
 intro bs;induction bs with
 |nil=>intro cs xs h hx;cases h;obtain rfl:=hx.nil_l;exact .nil
 | cons b bs ih=>
   intro cs xs h hx;obtain⟨x,xs',rfl,hx1,hx2⟩:=hx.cons_l;unfold a7z at h;split at h
   . rename_i e;cases e
   . rename_i e;cases e;split at h
     case h_2=>cases h
     rename_i q hq;cases h;exact .cons hx1 (ih hq hx2)
   . rename_i e;cases e;split at h
     case h_2=>cases h
     rename_i q hq;cases h;exact .cons hx1 (ih hq hx2)
   . cases h
def c1x (raw:Bool)(vs:List Value):Option (List D):=match raw with|true=>a8t vs|false=>a4O vs
theorem d5C (V:Know){raw:Bool}{vs:List Value}{ds:List D}(h:c1x raw vs=some ds):Reps V vs ds/\∀v∈vs,v.oneCell'=true:=by
 cases raw with
 |true=>exact b9E V h
 |false=>exact b0k V h
noncomputable def b9v (T:List (Nat×TI))(d:TypeDesc):Option (Nat->Option (Nat×Nat)):=
 match d with
 | .struct fs=>match a2y T fs.toList with
   |none=>none
   |some pl=>some λi=>(pl.drop i).head?
 | .array _ e=>match d7 e T with
   |some te=>some λi=>some (i*te.size,te.size)
   |none=>none
 |_=>none
noncomputable def b1i (raw:Bool)(T:List (Nat×TI))(st:SSt)(dst:Option Nat)(ty:TypeId)(parts:Array (Nat×Operand))(bs:List Base)(k:SSt->Prop):Prop:=
 match d7 ty T with
 |none=>False
 | some ti =>match c1x raw (cellsL ti.zero) with
   |none=>False
   | some zd=>match b9v T ti.desc with
     |none=>False
     | some pl=>match a6c st.O pl (zd.map .d) ((parts.toList.map (·.1)).zip bs) with
        |none=>False
        | some r=>match a3v r with
          |some (p,n,q)=>k (put st dst (.ag p n q))
          | none=>match a7z r with
            |some cs=>k (put st dst (.agl cs))
            |none=>False
theorem c1e {raw:Bool}(hT:TOk P T)(hr:Rel C γ st V a W){dst:Option Nat}(hd:∀t,dst=some t->t<C.N){ty:TypeId}{parts:Array (Nat×Operand)}{bs:List Base}{ρ:Operand->Value}(hx:Vals γ V bs ((Op.build ty parts).operands.toList.map ρ))(h:b1i raw T st dst ty parts bs k):
 ∃v st',(Instr.build ty (parts.map λ(x:Nat×Operand)=>(x.1,ρ x.2))).run P W= .ok v W/\k st'/\Rel C γ st' V (a.put dst v) W:=by
 unfold b1i at h;split at h
 . exact h.elim
 rename_i ti hti;split at h
 . exact h.elim
 rename_i zd hzd;split at h
 . exact h.elim
 rename_i pl hpl;split at h
 . exact h.elim
 rename_i r hr';have hzc:ti.zero.cells=(cellsL ti.zero).toArray:=by rw[<-cellsL_eq]
 have hparts:(parts.map λ(x:Nat×Operand)=>(x.1,ρ x.2)).toList=(parts.toList.map (·.1)).zip ((Op.build ty parts).operands.toList.map ρ)/\(parts.toList.map (·.1)).length=((Op.build ty parts).operands.toList.map ρ).length:=by
  simp only[Op.operands,a1z,L0];exact⟨(b1p ρ parts.toList).symm,by simp⟩
 obtain⟨hp1,hp2⟩:=hparts;obtain⟨hz1,hz2⟩:=d5C V hzd;have hz3:All2 (RVb γ V) (zd.map .d) (cellsL ti.zero):=⟨by simp[hz1.len],λi b u hb hu=>by
  simp only[z7] at hb;cases hl:zd[i]? with
  |none=>rw[hl] at hb;cases hb
  |some d0=>rw[hl] at hb;cases hb;exact hz1.get i u d0 hu hl⟩
 obtain⟨w,hw,hwr,hw1⟩:=b7y hr.own hp2 hx hz3 hz2 hr';have hf:=a7K _ _ _ _ hw;have key:(Instr.build ty (parts.map λ(x:Nat×Operand)=>(x.1,ρ x.2))).run P W= .ok (.agg ⟨w⟩) W:=by
  unfold b9v at hpl;split at hpl
  . rename_i fs hdsc;split at hpl
    . cases hpl
    rename_i pl' hpl';cases hpl;have hpr:=b3w hT W _ _ hpl';simp only[bind_pure_comp] at hpr;have hpa:(Array.mapM (λf=>Prod.mk f.offset<$>Go.sizeOf f.type) fs).run P W= .ok pl'.toArray W:=by
     rw[b1r];simp[hpr]
    have hg:(λi:Nat=>pl'.toArray[i]?)=λi=>(pl'.drop i).head?:=by funext i;simp
    simp only[Instr.build,bind_pure_comp,r4,hT.zeroValue hti W,r8,hT.under hti W,hdsc,hpa];rw[hp1,hzc,hg,hf];simp
  . rename_i n e hdsc;split at hpl
    case h_2=>cases hpl
    rename_i te hte;cases hpl;simp only[Instr.build,r4,hT.zeroValue hti W,r8,hT.under hti W,hdsc,hT.sizeOf hte W];rw[hp1,hzc,hf];simp
  . cases hpl
 split at h
 . rename_i p n q hag;obtain⟨us,ws,e,r1,r2,r3⟩:=b5R hag hwr hw1;exact⟨_,_,key,h,L9 hr hd ⟨us,ws,by rw[e],r1,r2,r3⟩⟩
 . split at h
   . rename_i cs hcs;exact⟨_,_,key,h,L9 hr hd ⟨w,rfl,c3X hcs hwr,hw1⟩⟩
   . exact h.elim
def dOf:List Base->Option (List D)
 |[]=>some []
 | .d d::r=>match dOf r with
   |some ds=>some (d::ds)
   |none=>none
 |_=>none
theorem c5g:∀{bs:List Base} {ds:List D} {xs:List Value},dOf bs=some ds->All2 (RVb γ V) bs xs->Reps V xs ds:=by
 intro bs;induction bs with
 |nil=>intro ds xs h hx;cases h;obtain rfl:=hx.nil_l;exact .nil V
 | cons b bs ih=>
   intro ds xs h hx;obtain⟨x,xs',rfl,hx1,hx2⟩:=hx.cons_l;unfold dOf at h;split at h
   . rename_i e;cases e
   . rename_i d r e;cases e;split at h
     case h_2=>cases h
     rename_i es hes;cases h;exact .cons hx1 (ih hes hx2)
   . cases h
noncomputable def b4G (T:List (Nat×TI))(st:SSt)(dst:Option Nat)(ty:TypeId)(parts:Array (Nat×Operand))(bs:List Base)(k:SSt->Prop):Prop:=
 match d7 ty T with
 |none=>False
 | some ti =>match a8t (cellsL ti.zero) with
   |none=>False
   | some zd=>match ti.desc with
     | .struct fs=>match a2y T fs.toList with
       |none=>False
       | some pl=>match a6c st.O (λi=>(pl.drop i).head?) (zd.map .d) ((parts.toList.map (·.1)).zip bs) with
         |none=>False
         | some r=>match dOf r with
           |some ds=>k (put st dst (.d (.agg ds)))
           |none=>False
     |_=>False
theorem d4F (hT:TOk P T)(hr:Rel C γ st V a W){dst:Option Nat}(hd:∀t,dst=some t->t<C.N){ty:TypeId}{parts:Array (Nat×Operand)}{bs:List Base}{ρ:Operand->Value}(hx:Vals γ V bs ((Op.build ty parts).operands.toList.map ρ))(h:b4G T st dst ty parts bs k):
 ∃v st',(Instr.build ty (parts.map λ(x:Nat×Operand)=>(x.1,ρ x.2))).run P W= .ok v W/\k st'/\Rel C γ st' V (a.put dst v) W:=by
 unfold b4G at h;split at h
 . exact h.elim
 rename_i ti hti;split at h
 . exact h.elim
 rename_i zd hzd;split at h
 case h_2=>exact h.elim
 rename_i fs hdsc;split at h
 . exact h.elim
 rename_i pl hpl;split at h
 . exact h.elim
 rename_i r hr';split at h
 case h_2=>exact h.elim
 rename_i es hag;have hzc:ti.zero.cells=(cellsL ti.zero).toArray:=by rw[<-cellsL_eq]
 have hparts:(parts.map λ(x:Nat×Operand)=>(x.1,ρ x.2)).toList=(parts.toList.map (·.1)).zip ((Op.build ty parts).operands.toList.map ρ)/\(parts.toList.map (·.1)).length=((Op.build ty parts).operands.toList.map ρ).length:=by
  simp only[Op.operands,a1z,L0];exact⟨(b1p ρ parts.toList).symm,by simp⟩
 obtain⟨hp1,hp2⟩:=hparts;obtain⟨hz1,hz2⟩:=b9E V hzd;have hz3:All2 (RVb γ V) (zd.map .d) (cellsL ti.zero):=⟨by simp[hz1.len],λi b u hb hu=>by
  simp only[z7] at hb;cases hl:zd[i]? with
  |none=>rw[hl] at hb;cases hb
  |some d0=>rw[hl] at hb;cases hb;exact hz1.get i u d0 hu hl⟩
 obtain⟨w,hw,hwr,hw1⟩:=b7y hr.own hp2 hx hz3 hz2 hr';have hrr:=c5g hag hwr;have hf:=a7K _ _ _ _ hw;have hpr:=b3w hT W _ _ hpl;simp only[bind_pure_comp] at hpr;have hpa:(Array.mapM (λf=>Prod.mk f.offset<$>Go.sizeOf f.type) fs).run P W= .ok pl.toArray W:=by
  rw[b1r];simp[hpr]
 have hg:(λi:Nat=>pl.toArray[i]?)=λi=>(pl.drop i).head?:=by funext i;simp
 have key:(Instr.build ty (parts.map λ(x:Nat×Operand)=>(x.1,ρ x.2))).run P W= .ok (.agg ⟨w⟩) W:=by
  simp only[Instr.build,bind_pure_comp,r4,hT.zeroValue hti W,r8,hT.under hti W,hdsc,hpa];rw[hp1,hzc,hg,hf];simp
 exact⟨_,_,key,h,L9 hr hd (Rep.agg _ _ hrr.len hw1 hrr.get)⟩
end Go.Proofs.YteillnfhkeebjaaGreatDoor.Dx
