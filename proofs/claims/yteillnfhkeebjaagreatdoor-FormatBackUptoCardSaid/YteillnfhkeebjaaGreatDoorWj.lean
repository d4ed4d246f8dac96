/- Functions. -/
import Derived.Test.YteillnfhkeebjaaGreatDoorWi
import Derived.Test.YteillnfhkeebjaaGreatDoorRows
import Derived.Carry
import Derived.JoinedCond
import Derived.HandedShaped
set_option linter.all false
namespace Go.Proofs.YteillnfhkeebjaaGreatDoor.Dx
open Go Go.RowKit
structure MeetsO (P:Program) (f:FuncId) (ds:List D) (e:TypeId) (k:Nat) (R:List (List D)->Prop):Prop where
 own:∀r,MeetsR P f (ds.map .d) [] λo O'=>∃xs,o= .ret (.own r)/\O'=[(r, .sl ⟨e,k,xs,true⟩)]/\R xs
theorem MeetsO.of {P:Program}{f:FuncId}{ds:List D}{e:TypeId}{k:Nat}{R:List (List D)->Prop}(r0:Nat)
 (h:MeetsR P f (ds.map .d) [] λo O'=>∃xs,o= .ret (.own r0)/\O'=[(r0, .sl ⟨e,k,xs,true⟩)]/\R xs):MeetsO P f ds e k R:=by
 refine⟨λr=>⟨h.fn,λγ V W xs h1 h2 h3 h4=>(h.run γ V W xs h1 h2 h3 h4).mono ?_⟩⟩;rintro en W' ⟨γ',V',o,O',a1,a2,a3,a4,a5,a6,a7,a8,ys,rfl,rfl,hR⟩;refine⟨J3 γ' r (γ' r0),V', .ret (.own r),_,?_,a2,a3,a4,λn b hl=>?_,λn b hl q hq=>?_,λn n' b b' hl hl' hne=>?_,λn b hl=>(by rw[r7] at hl;cases hl),ys,rfl,rfl,hR⟩
 . cases en with
   | returned v=>
     show v=(J3 γ' r (γ' r0) r).1;rw[M3];exact a1
   |_=>exact a1
 . have h5:=a5 r0 _ (w9 ..);by_cases e:r=n
   . subst e;rw[w9] at hl;cases hl;rw[M3];exact h5
   . rw[p5 e,r7] at hl;cases hl
 . by_cases e:r=n
   . subst e;rw[M3] at hq;exact a6 r0 _ (w9 ..) q hq
   . rw[p5 e,r7] at hl;cases hl
 . by_cases e:r=n
   . by_cases e':r=n'
     . exact absurd (e.symm.trans e') hne
     . rw[p5 e',r7] at hl';cases hl'
   . rw[p5 e,r7] at hl;cases hl
theorem MeetsO.data {P:Program}{f:FuncId}{ds:List D}{e:TypeId}{k:Nat}{R:List (List D)->Prop}(h:MeetsO P f ds e k R):Meets P f ds λd=>∃xs,d= .sl xs/\R xs:=by
 refine⟨⟨(h.own 0).fn,λγ V W xs h1 h2 h3 h4=>((h.own 0).run γ V W xs h1 h2 h3 h4).mono ?_⟩⟩;rintro en W' ⟨γ',V',o,O',a1,a2,a3,a4,a5,a6,a7,a8,ys,rfl,rfl,hR⟩;refine⟨γ',V', .ret (.d (.sl ys)),[],?_,a2,a3,a4,λn b hl=>(by rw[r7] at hl;cases hl),λn b hl=>(by rw[r7] at hl;cases hl),λn n' b b' hl=>(by rw[r7] at hl;cases hl),λn b hl=>(by rw[r7] at hl;cases hl),_,rfl,rfl,ys,rfl,hR⟩;cases en with
 | returned v=>
   have hs:=b4d (a5 0 _ (w9 ..)) rfl;have e:v=(γ' 0).1:=a1;show Rep V' v (.sl ys);rw[e];exact hs
 |_=>exact a1
def a0E (F:List D->List D)(x0:List D):Nat->List D
 |0=>x0
 |n+1=>F (a0E F x0 n)
section
variable {P:Program} {T:List (Nat×TI)} {C:Cx} {γ:Gm} {st:SSt} {V:Know} {a:Act} {W:World}
theorem d1g (V:Know)(us:List Value):Reps V us (us.map λ_=> .junk):=by
 refine⟨by simp,λi u d h1 h2=>?_⟩;simp only[z7,h1,G9,H0] at h2;subst h2;exact .junk u
theorem d0Y (hr:Rel C γ st V a W){n:Nat}{cells:List Base}{ty:TypeId}(hn:d7 n st.O=some (.box cells ty))(F:List D->List D)(x0:List D)(N:Nat)
 (hx0:x0=cells.map λ_=> .junk) (hF:∀x,D8 [] (cells.map (D7 n (λoff=> .ptr x off) .junk))=some (F x))
 {k:SSt->Prop} (h:a0d (D7 n (λoff=> .ptr (F (a0E F x0 N)) off) .junk) st.L λL'=>a0e n (D7 n (λoff=> .ptr (F (a0E F x0 N)) off) .junk) st.O λO'=>k {st with L:=L',O:=O'}):
 ∃st' V',k st'/\Rel C γ st' V' a W:=by
 obtain⟨L',h,hL⟩:=a4P h;obtain⟨O',h,hO⟩:=a4Q h;obtain⟨blk,cs,hv,hh,hc,h1,hnone⟩:=hr.own n _ hn;have hle:V.Le (V.with blk cs.toList):=a2f λo u hu=>by rw[hnone] at hu;cases hu
 have hcell:∀(j:Nat) u,cs.toList[j]?=some u->(V.with blk cs.toList).cell blk j=some u:=λj u hj=>by
  show(if blk=blk then cs.toList[j]? else _)=some u;rw[d4 rfl];exact hj
 have subx:∀ds,Reps (V.with blk cs.toList) cs.toList ds->∀b x,RVb γ V b x->RVb γ (V.with blk cs.toList) (D7 n (λoff=> .ptr ds off) .junk b) x:=by
  intro ds hreps b x hx;refine b0Y (λoff y hy=>?_) (λhne=>absurd (by rw[hv]) (hne blk)) (λ_=>rfl) (hx.mono hle);obtain⟨blk',e,rfl⟩:=hy;rw[hv] at e;obtain rfl:blk=blk':=by simpa using e
  have:=Rep.ptr (V:=V.with blk cs.toList) blk 0 ds off (λj d hj=>by
   obtain⟨u,hu,_⟩:=hreps.at hj;exact⟨u,by rw[F3];exact hcell j u hu,h1 u (M6 hu)⟩) (λj d u hj hu=>by
   obtain⟨u',hu',hr'⟩:=hreps.at hj;rw[F3,hcell j u' hu'] at hu;cases hu;exact hr')
  rwa[F3] at this
 have stepx:∀ds,Reps (V.with blk cs.toList) cs.toList ds->Reps (V.with blk cs.toList) cs.toList (F ds):=by
  intro ds hreps;have hv':Vals γ (V.with blk cs.toList) (cells.map (D7 n (λoff=> .ptr ds off) .junk)) cs.toList:=by
   refine⟨by simp[hc.len],λi b x hb hx=>?_⟩;simp only[z7] at hb;cases hl:cells[i]? with
   |none=>simp[hl] at hb
   | some b0=>
     simp only[hl,G9,H0] at hb;subst hb;exact subx ds hreps _ _ (hc.get i b0 x hl hx)
  exact a3X (O:=[]) (W:=W) (λm b h=>by rw[r7] at h;cases h) (hF ds) hv'
 have hall:∀m,Reps (V.with blk cs.toList) cs.toList (a0E F x0 m):=by
  intro m;induction m with
  | zero=>
    rw[a0E,hx0];have:=d1g (V.with blk cs.toList) cs.toList;have e:(cells.map λ_=>D.junk)=cs.toList.map λ_=>D.junk:=by
     apply O0;intro i;simp only[z7];have hl:=hc.len;by_cases hi:i<cells.length
     . rw[t6 hi,t6 (by omega)];rfl
     . rw[z6 (by omega),z6 (by omega)];rfl
    rw[e];exact this
  |succ m ih=>exact stepx _ ih
 have sub:=subx _ (stepx _ (hall N));refine⟨_,V.with blk cs.toList,h,a8v hr hn (by rw[hv]) hle (a6O hr.sees hle λj u hj=>by simp only[World.cell?,hh];simpa using hj) a4b (λr x h=> .inl h) (λt b hb=>?_) (λm x hx=>?_)⟩
 . obtain⟨b0,hb0,rfl⟩:=hL t b hb;exact sub b0 _ (hr.slots t b0 hb0)
 . obtain ⟨hne,y,hy,rfl⟩:=hO m x hx;refine .inr ⟨hne,y,hy,λhyok=>?_⟩;have hy0:=hr.own m y hy;cases y with
   | box cells' ty'=>
     obtain⟨blk',cs',e',g1,g2,g3,g4⟩:=hyok;obtain⟨blk'',cs'',e'',q1,q2,q3,q4⟩:=hy0;rw[e''] at e';obtain rfl:blk''=blk':=by simpa using e'
     rw[q1] at g1;obtain rfl:cs''=cs':=by simpa using g1
     refine⟨blk'',cs'',e'',q1,⟨by simp[q2.len],λi b x hb hx=>?_⟩,q3,g4⟩;simp only[z7] at hb;cases hl:cells'[i]? with
     |none=>simp[hl] at hb
     | some b0=>
       simp only[hl,G9,H0] at hb;subst hb;exact sub _ _ (q2.get i b0 x hl hx)
   |pn g ns=>exact⟨hyok.1,λm hm=>hyok.2 m (a5E.1 hm).1⟩
   |_=>exact hyok
theorem c2f {c:Code}{Q:E6}(n:Nat)(F:List D->List D)(x0:List D)(N:Nat)(h:match st with
 | ⟨L,O,p⟩=>match d7 n O with
   | some (.box cells _)=>(x0=cells.map λ_=> .junk)/\(∀x,D8 [] (cells.map (D7 n (λoff=> .ptr x off) .junk))=some (F x))/\
      a0d (D7 n (λoff=> .ptr (F (a0E F x0 N)) off) .junk) L λL'=>a0e n (D7 n (λoff=> .ptr (F (a0E F x0 N)) off) .junk) O λO'=>J P C c Q ⟨L',O',p⟩
   |_=>False):J P C c Q st:=by
 refine⟨λγ V a W hr=>?_⟩;obtain⟨L,O,p⟩:=st;simp only at h;split at h
 case h_2=>exact h.elim
 rename_i cells ty hn;obtain⟨h1,h2,h3⟩:=h;obtain⟨st',V',hj,hr'⟩:=d0Y hr hn F x0 N h1 h2 (k:=λst=>J P C c Q st) h3;exact hj.run γ V' a W hr'
theorem a4j {Q:E6}(n:Nat){ops:Array Oper}{d:Bool}{y:Code}(h:J P C (.seq (.region n ops d) y) Q st):J P C (.seq (.region n ops d) y) Q st:=h
end
section
variable {P:Program} {T:List (Nat×TI)} {cf:Cfg} {ops:Array Oper} {C:Cx} {γ:Gm} {V:Know} {a:Act} {W:World} {lc:List Nat} {l:Array Bool} {F:List Fl} {st:SSt} {Q:Exit->Act->World->Prop}
end
open Go.ChangeShapes
def V0 (W:World):Know:=⟨λb o=>W.cell? ⟨b,o,none⟩,λr=>match W.heap[r]? with|some (.map es clock)=>some (.map es clock)|_=>none⟩
theorem d1B {W:World}(h:Glob (V0 W))(hw:GlobW W):Sees (V0 W) W:=by
 refine⟨λb o v h=>h,λr x hx=>?_,h,hw⟩;simp only[V0] at hx;split at hx
 . rename_i es clock he;cases hx;exact⟨he,es,clock,rfl⟩
 . cases hx
def TyF (R:TypeId->List D->Nat->Prop):List TypeId->List (List D)->List Nat->Prop
 |[],[],[]=>True
 |f::fs,x::xs,m::ms=>R f x m/\TyF R fs xs ms
 |_,_,_=>False
inductive Shp where
 |b|s
 |i (k:IntKind)
 |sl (e:TypeId)
 |st (l:List TypeId)
noncomputable def shp (T:List (Nat×TI))(t:TypeId):Option Shp:=match d7 t T with
 |none=>none
 | some ti=>match ti.desc with
   | .bool=>some .b
   | .int k=>some (.i k)
   | .string=>some .s
   | .slice e=>some (.sl e)
   | .struct fs=>some (.st (fs.toList.map (·.type)))
   |_=>none
def TyD (T:List (Nat×TI)):Nat->TypeId->List D->Nat->Prop
 |0,_,_,_=>False
 | k+1,t,ds,n=>match shp T t with
   |none=>False
   |some .b=>(∃b,ds=[.v (.bool b)])/\1<=n
   |some (.i k)=>(∃i,ds=[.v (.int k i)])/\1<=n
   |some .s=>∃s:List UInt8,ds=[.str s]/\s.length+1<=n
   |some (.sl e)=>∃(xs:List (List D)) (ms:List Nat),ds=[.sl xs]/\All2 (TyD T k e) xs ms/\ms.sum+1<=n
   |some (.st l)=>∃(xs:List (List D)) (ms:List Nat),ds=xs.flatten/\TyF (TyD T k) l xs ms/\ms.sum+1<=n
noncomputable def a6v (T:List (Nat×TI))(S:List Nat):List Field->Nat->Nat->Bool
 |[],off,tot=>Nat.beq off tot
 | f::fs,off,tot=>match d7 f.type T with
   |some ti=>Nat.beq f.offset off&&(w6 f.type S&&a6v T S fs (off+ti.size) tot)
   |none=>false
noncomputable def a7B (T:List (Nat×TI))(S:List Nat):Bool:=S.all λt=>match d7 t T with
 |none=>false
 | some ti=>match ti.desc with
   | .bool=>Nat.beq ti.size 1
   | .int k=>Nat.beq ti.size 1&&a6w k
   | .string=>Nat.beq ti.size 1
   | .slice e=>Nat.beq ti.size 1&&(w6 e S&&match d7 e T with|some te=>Nat.blt 0 te.size|none=>false)
   | .struct fs=>a6v T S fs.toList 0 ti.size
   |_=>false
theorem d5j {k:IntKind}{n:Int}(hk:a6w k=true)(h:(Lit.int k n).wf=true):w8 k n:=by
 cases k<;>first|(exact absurd hk (by decide))|(simp[Lit.wf,IntKind.min,IntKind.max,IntKind.signed,IntKind.bits] at h;simp only[w8];omega)
theorem c6l {α:Type}{p:Nat->α->Prop}:∀(n:Nat),(∀i,i<n->∃a,p i a)->∃l:List α,l.length=n/\∀(i:Nat) a,l[i]?=some a->p i a:=by
 intro n;induction n with
 |zero=>intro _;exact⟨[],rfl,λi a h=>by simp at h⟩
 | succ n ih=>
   intro h;obtain⟨l,hl,hp⟩:=ih λi hi=>h i (by omega);obtain⟨a,ha⟩:=h n (by omega);refine⟨l++[a],by simp[hl],λi b hb=>?_⟩;by_cases hi:i<l.length
   . rw[Q4 hi] at hb;exact hp i b hb
   . rw[X0 (by omega)] at hb;have:i=n:=by
      by_cases e:i-l.length=0
      . omega
      . rw[z6 (by simp;omega)] at hb;cases hb
     subst this;simp[hl] at hb;subst hb;exact ha
theorem c8G {α β:Type}{f:α->Option β}:∀{l:List α} {r:List β},l.mapM f=some r->r.length=l.length/\∀(i:Nat) a,l[i]?=some a->∃b,r[i]?=some b/\f a=some b:=by
 intro l;induction l with
 |nil=>intro r h;simp at h;subst h;exact⟨rfl,λi a h=>by simp at h⟩
 | cons x l ih=>
   intro r h;rw[List.mapM_cons] at h;simp only[Option.bind_eq_bind,Option.bind_eq_some_iff,Option.pure_def,H0] at h;obtain⟨y,hy,ys,hys,rfl⟩:=h;obtain⟨h1,h2⟩:=ih hys;refine⟨by simp[h1],λi a hi=>?_⟩;cases i with
   |zero=>simp at hi;subst hi;exact⟨y,rfl,hy⟩
   |succ i=>simpa using h2 i a (by simpa using hi)
theorem b2b {W:World}{a:Addr}{n:Nat}{cs:List Value}(h:W.cells? 0 a n=some cs):cs.length=n/\∀j,j<n->∃u,cs[j]?=some u/\W.cell? (a.add j)=some u:=by
 unfold World.cells? at h;split at h
 case isFalse=>cases h
 obtain⟨h1,h2⟩:=c8G h;refine⟨by simpa using h1,λj hj=>?_⟩;obtain⟨u,hu,hc⟩:=h2 j j (by simp[hj]);exact⟨u,hu,hc⟩
theorem b6l {W:World}{a:Addr}{u:Value}(h:W.cell? a=some u):a.spot=none:=by
 unfold World.cell? at h;split at h
 . split at h
   . cases h
   . rename_i h1;simpa using h1
 . cases h
theorem b6d {H:Type}(l:List (DataW H)):Rows.uptoBulkAll l=(l.map Rows.uptoBulk).sum:=by
 induction l with
 |nil=>simp[Rows.uptoBulkAll]
 |cons d l ih=>simp[Rows.uptoBulkAll,ih]
section
variable {P:Program} {T:List (Nat×TI)} {S:List Nat} {H:Type} {enc:TypeId×Value->H} {W:World}
theorem b2a (hT:TOk P T){t:TypeId}{ti:TI}(h:d7 t T=some ti):P.cellsOf t=ti.size:=by
 have:=(hT t ti h).2.1;unfold Program.cellsOf;cases hi:P.info? t with
 |none=>rw[hi] at this;cases this
 |some i=>rw[hi] at this;simp at this;simp[this.1]
theorem d4f (hT :TOk P T) (hS:a7B T S=true):∀(n:Nat) (t:TypeId) (cs:List Value) (x:DataW H×List MemPlace),t∈S->DataW.trod enc P W 0 (λ_=>true) true n t cs=some x->
 ∃ds,Reps (V0 W) cs ds/\(∀u∈cs,u.oneCell'=true)/\TyD T n t ds (Rows.uptoBulk x.1):=by
 intro n;induction n with
 |zero=>intro t cs x _ h;simp[DataW.trod] at h
 | succ n ih =>
   intro t cs x ht h;have hc:=n7.1 hS t ht;simp only[TyD];cases hl:d7 t T with
   |none=>rw[hl] at hc;cases hc
   | some ti =>
     rw[hl] at hc;have hrow:=hT.row hl;simp only at hc;simp only[shp,hl];cases hd:ti.desc with
     | bool=>
       rw[hd] at hrow;obtain⟨b,rfl,rfl⟩:=DataW.trod_bool hrow h;exact⟨_, .cons (.b b) (.nil _),by simp[Value.oneCell'],⟨b,rfl⟩,by simp[Rows.uptoBulk]⟩
     | int k=>
       rw[hd] at hrow hc;simp only[f0] at hc;obtain⟨i,rfl,rfl,hw⟩:=DataW.trod_int hrow h;exact⟨_, .cons (.int (d5j hc.2 hw)) (.nil _),by simp[Value.oneCell'],⟨i,rfl⟩,by simp[Rows.uptoBulk]⟩
     | string=>
       rw[hd] at hrow;obtain⟨s,rfl,rfl,hw⟩:=DataW.trod_string hrow h;obtain⟨⟨l⟩⟩:=s;exact⟨_, .cons (.str l hw) (.nil _),by simp[Value.oneCell'],l,rfl,by simp[Rows.uptoBulk]⟩
     | slice e =>
       rw[hd] at hrow hc;simp only[f0] at hc;obtain⟨_,he,hte⟩:=hc;have he:e∈S:=memB_mem.1 he;cases hle:d7 e T with
       |none=>rw[hle] at hte;cases hte
       |some te=>
       rw[hle] at hte;have hsz:0<te.size:=X2 hte;have hco:=b2a hT hle;rcases DataW.trod_slice hrow h with⟨rfl,rfl⟩|⟨a,len,cap,elems,rest,n',hn,rfl,rfl,_,hlc,hcm,hel,hget,hrest,_⟩
       . exact⟨_, .cons .nil (.nil _),by simp[Value.oneCell'],[],[],rfl, .nil,by simp[Rows.uptoBulk]⟩
       . obtain rfl:n=n':=by omega
         rw[hco] at hget hrest;have helem:∀i,i<len->∃p:List D×List Value,W.cells? 0 (a.add (i*te.size)) te.size=some p.2/\Reps (V0 W) p.2 p.1/\(∀u∈p.2,u.oneCell'=true)/\∃y,elems[i]?=some y/\TyD T n e p.1 (Rows.uptoBulk y.1):=by
          intro i hi;have h1:=hget i hi;have h2:∃y,elems[i]?=some y:=⟨_,t6 (by omega)⟩
          obtain⟨y,hy⟩:=h2;rw[hy] at h1;simp only[Option.bind_eq_some_iff] at h1;obtain⟨cs',hcs,htr⟩:=h1;obtain⟨ds,g1,g2,g3⟩:=ih e cs' y he htr;exact⟨(ds,cs'),hcs,g1,g2,y,hy,g3⟩
         obtain⟨ps,hpl,hps⟩:=c6l len helem;have hxl:(ps.map (·.1)).length=len:=by simp[hpl]
         have hrep:Rep (V0 W) (.slice (some a) len cap) (.sl (ps.map (·.1))):=by
          by_cases hcap:cap=0
          . have h0:len=0:=by omega
            have:ps=[]:=C8 (by omega);subst this;rw[hcap,h0];exact .empty a
          . have hspot:a.spot=none:=by
             by_cases h0:0<len
             . obtain⟨p,hp⟩:∃p,ps[0]?=some p:=⟨_,t6 (by omega)⟩
               obtain⟨g1,_⟩:=hps 0 p hp;obtain⟨_,g2⟩:=b2b g1;obtain⟨u,_,hu⟩:=g2 0 hsz;simp only[Nat.zero_mul,Addr.add,if_true] at hu;exact b6l hu
             . obtain⟨hr1,hr2⟩:=hrest rfl;have h1:=hr2 0 (by omega);have h2:∃y,rest[0]?=some y:=⟨_,t6 (by omega)⟩
               obtain⟨y,hy⟩:=h2;rw[hy] at h1;simp only[Option.bind_eq_some_iff] at h1;obtain⟨cs',hcs,_⟩:=h1;obtain⟨_,g2⟩:=b2b hcs;obtain⟨u,_,hu⟩:=g2 0 hsz;have h00:len=0:=by omega
               simp only[h00,a3m,Nat.zero_mul,Addr.add,if_true] at hu;exact b6l hu
            obtain⟨b,o,sp⟩:=a;simp only at hspot;subst hspot;have hcell:∀(i:Nat) (p:List D×List Value),ps[i]?=some p->p.2.length=te.size/\∀j,j<te.size->∃u,p.2[j]?=some u/\(V0 W).cell b (o+i*te.size+j)=some u:=by
             intro i p hp;obtain⟨g1,_⟩:=hps i p hp;obtain⟨k1,k2⟩:=b2b g1;refine⟨k1,λj hj=>?_⟩;obtain⟨u,hu,hc⟩:=k2 j hj;rw[T0,T0] at hc;exact⟨u,hu,hc⟩
            rw[<-hxl];refine .sl b o cap te.size _ (by omega) hcm (λds hds=>?_) (λi ds j d hi hj=>?_) (λi ds j d u hi hj hu=>?_)
            . obtain⟨p,hp,rfl⟩:=v6.1 hds;obtain⟨i,hi⟩:=List.getElem?_of_mem hp;rw[<-(hps i p hi).2.1.len];exact(hcell i p hi).1
            . simp only[z7] at hi;obtain⟨p,hp,rfl⟩:=a5I.1 hi;obtain⟨_,g2,g3,_⟩:=hps i p hp;have hj':j<te.size:=by
               rcases C5 j p.1.length with h|h
               . rw[<-g2.len,(hcell i p hp).1] at h;exact h
               . rw[z6 h] at hj;cases hj
              obtain⟨u,hu,hc⟩:=(hcell i p hp).2 j hj';exact⟨u,hc,g3 u (M6 hu)⟩
            . simp only[z7] at hi;obtain⟨p,hp,rfl⟩:=a5I.1 hi;obtain⟨_,g2,g3,_⟩:=hps i p hp;obtain⟨u',hu',hr⟩:=g2.at hj;have hj':j<te.size:=by
               rcases C5 j p.1.length with h|h
               . rw[<-g2.len,(hcell i p hp).1] at h;exact h
               . rw[z6 h] at hj;cases hj
              obtain⟨u2,hu2,hc⟩:=(hcell i p hp).2 j hj';rw[hu] at hc;cases hc;rw[hu2] at hu';cases hu';exact hr
         refine⟨[.sl (ps.map (·.1))], .cons hrep (.nil _),by simp[Value.oneCell'],_,elems.map (λy=>Rows.uptoBulk y.1),rfl,⟨by simp[hpl,hel],λi xs m hx hm=>?_⟩,?_⟩
         . simp only[z7] at hx hm;obtain⟨p,hp,rfl⟩:=a5I.1 hx;obtain⟨y,hy,rfl⟩:=a5I.1 hm;obtain⟨_,_,_,y',hy',g⟩:=hps i p hp;rw[hy] at hy';cases hy';exact g
         . simp only[Rows.uptoBulk];rw[b6d,L0];simp only[Function.comp_def];omega
     | struct fs=>
       rw[hd] at hrow hc;obtain⟨xs,n',hn,rfl,hlen,hxl,hget⟩:=DataW.trod_struct hrow h;obtain rfl:n=n':=by omega
       rw[b2a hT hl] at hlen;have key :∀(l:List Field) (ys:List (DataW H×List MemPlace)) (off:Nat),a6v T S l off ti.size=true->off<=cs.length->ys.length=l.length->(∀(i:Nat) f,l[i]?=some f->DataW.trod enc P W 0 (λ_=>true) true n f.type ((cs.drop f.offset).take (P.cellsOf f.type))=ys[i]?)->
        ∃zs:List (List D),Reps (V0 W) (cs.drop off) zs.flatten/\(∀u∈cs.drop off,u.oneCell'=true)/\TyF (TyD T n) (l.map (·.type)) zs (ys.map λy=>Rows.uptoBulk y.1):=by
        intro l;induction l with
        | nil=>
          intro ys off ho _ hy _;have ho:=t7 ho;have:ys=[]:=C8 (by simpa using hy);subst this;have hdr:cs.drop off=[]:=a0U (by omega);exact⟨[],by rw[hdr];exact .nil _,by rw[hdr];simp,trivial⟩
        | cons f l ihl=>
          intro ys off ho hoff hy hgt;simp only[a6v] at ho;cases hlf:d7 f.type T with
          |none=>rw[hlf] at ho;cases ho
          |some tf=>
          rw[hlf] at ho;simp only[f0] at ho;obtain⟨ho1,ho2,ho3⟩:=ho;have ho1:=t7 ho1;have ho2:=memB_mem.1 ho2;cases ys with
          |nil=>simp at hy
          |cons y ys=>
          have h0:=hgt 0 f rfl;simp only[List.getElem?_cons_zero] at h0;rw[ho1,b2a hT hlf] at h0;obtain⟨ds,g1,g2,g3⟩:=ih f.type _ y ho2 h0;have hle:off+tf.size<=cs.length:=by
           have :∀(l:List Field) (o:Nat),a6v T S l o ti.size=true->o<=ti.size:=by
            intro l;induction l with
            |nil=>intro o h;exact Nat.le_of_eq (t7 h)
            | cons q l ihq=>
              intro o h;simp only[a6v] at h;cases hlq:d7 q.type T with
              |none=>rw[hlq] at h;cases h
              | some tq=>
                rw[hlq] at h;simp only[f0] at h;have:=ihq _ h.2.2;omega
           have:=this l _ ho3;omega
          obtain⟨zs,k1,k2,k3⟩:=ihl ys (off+tf.size) ho3 hle (by simpa using hy) (λi q hq=>by have:=hgt (i+1) q (by simpa using hq);simpa using this);have hsplit:cs.drop off=(cs.drop off).take tf.size++cs.drop (off+tf.size):=by
           rw[<-a5A,a7k]
          refine⟨ds::zs,?_,?_,g3,k3⟩
          . rw[hsplit,K0];exact g1.append k1
          . rw[hsplit];intro u hu;rcases A8.1 hu with hu|hu
            . exact g2 u hu
            . exact k2 u hu
       obtain⟨zs,k1,k2,k3⟩:=key fs.toList xs 0 hc (by omega) (by simpa using hxl) (λi f hf=>hget i f (by simpa using hf));refine⟨zs.flatten,by simpa using k1,by simpa using k2,zs,_,rfl,k3,?_⟩;simp only[Rows.uptoBulk];rw[b6d,L0];exact p0 _
     |_=>rw[hd] at hc;cases hc
end
open Go.WideShapes
def TyV (T:List (Nat×TI))(t:TypeId)(d:D)(m:Nat):Prop:=∃n ds,TyD T n t ds m/\d=match shp T t with
 |some (.st _)=> .agg ds
 |_=>ds.headD .junk
def a2p (T:List (Nat×TI)):List TypeId->List D->List Nat->Prop
 |[],[],[]=>True
 |t::ts,d::ds,m::ms=>TyV T t d m/\a2p T ts ds ms
 |_,_,_=>False
section
variable {P:Program} {T:List (Nat×TI)} {S:List Nat} {H:Type} {enc:TypeId×Value->H} {W:World}
theorem TyD.one {n:Nat}{t:TypeId}{ds:List D}{m:Nat}(h:TyD T n t ds m)(hs:∀l,shp T t≠some (.st l)):∃d,ds=[d]:=by
 cases n with
 |zero=>exact h.elim
 | succ n=>
   simp only[TyD] at h;split at h
   . exact h.elim
   . obtain⟨⟨b,rfl⟩,_⟩:=h;exact⟨_,rfl⟩
   . obtain⟨⟨b,rfl⟩,_⟩:=h;exact⟨_,rfl⟩
   . obtain⟨s,rfl,_⟩:=h;exact⟨_,rfl⟩
   . obtain⟨xs,ms,rfl,_⟩:=h;exact⟨_,rfl⟩
   . rename_i l hl;exact absurd hl (hs l)
theorem d2g (hT:TOk P T){t:TypeId}{q:Shp}(h:shp T t=some q):match q with
 | .b=>P.underlying t=some .bool
 | .s=>P.underlying t=some .string
 | .i k=>P.underlying t=some (.int k)
 | .sl e=>P.underlying t=some (.slice e)
 | .st _=>∃fs,P.underlying t=some (.struct fs):=by
 unfold shp at h;cases hl:d7 t T with
 |none=>rw[hl] at h;cases h
 | some ti=>
   have hrow:=hT.row hl;rw[hl] at h;simp only at h;cases hd:ti.desc<;>rw[hd] at h hrow<;>cases h<;>first|exact hrow|exact⟨_,hrow⟩
theorem d4g (hT:TOk P T)(hS:a7B T S=true){base:Nat}{t:TypeId}{v:Value}{x:DataW H}{ps:List MemPlace}(ht:t∈S)
 (hv:Value.okWide P W .any base t v) (h:DataW.Trod enc P W 0 (λ_=>true) true t v x ps):∃d,Rep (V0 W) v d/\TyV T t d (Rows.uptoBulk x):=by
 obtain⟨n,h⟩:=h;obtain⟨ds,h1,h2,h3⟩:=d4f hT hS n t _ _ ht h;cases hsh:shp T t with
 | none=>
   cases n with
   |zero=>exact h3.elim
   |succ n=>simp only[TyD,hsh] at h3
 | some q=>
   have hu:=d2g hT hsh;have hone:(∀l,q≠ .st l)->v.cells.toList=[v]->∃d,Rep (V0 W) v d/\TyV T t d (Rows.uptoBulk x):=by
    intro hq hcell;obtain⟨d,rfl⟩:=h3.one (λl e=>by rw[hsh] at e;exact hq l (U7 e));rw[hcell] at h1;refine⟨d,h1.get 0 v d rfl rfl,n,[d],h3,?_⟩;rw[hsh];cases q with
    |st l=>exact absurd rfl (hq l)
    |_=>rfl
   cases q with
   | st l=>
     obtain⟨fs,hfs⟩:=hu;obtain⟨cs,rfl,_⟩:=okWide_struct hfs hv;refine⟨.agg ds,?_,n,ds,h3,by rw[hsh]⟩;have h1':Reps (V0 W) cs.toList ds:=h1;obtain⟨l⟩:=cs;exact .agg l ds h1'.len h2 h1'.get
   | _=>
     simp only at hu;refine hone (λl=>by simp) ?_;cases v with
     |agg cs=>exfalso;simp[Value.okWide,hu,Cell.okWide,Cell.ok] at hv
     |_=>rfl
theorem c0X (hT:TOk P T)(hS:a7B T S=true){base:Nat}:∀{ts:List TypeId} {vs:List Value} {xs:List (DataW H)} {ps:List MemPlace},(∀t∈ts,t∈S)->
 (∀(j:Nat) t v,ts[j]?=some t->vs[j]?=some v->Value.okWide P W .any base t v)->DataW.TrodAll enc P W 0 (λ_=>true) true ts vs xs ps->
 ∃ds ms,All2 (Rep (V0 W)) vs ds/\a2p T ts ds ms/\ms.sum=Rows.uptoBulkAll xs
 | [],_,_,_,_,_,h=>by
   obtain⟨rfl,rfl,rfl⟩:=trodAll_nil h;exact⟨[],[], .nil,trivial,rfl⟩
 | t::ts,_,_,_,hts,hv,h=>by
   obtain⟨v,vs,d,xs,p,q,rfl,rfl,rfl,h1,h2⟩:=trodAll_cons h;obtain⟨d',k1,k2⟩:=d4g hT hS (hts t (by simp)) (hv 0 t v rfl rfl) h1;obtain⟨ds,ms,l1,l2,l3⟩:=c0X hT hS (λt ht=>hts t (by simp[ht])) (λj t v ht hv'=>hv (j+1) t v (by simpa using ht) (by simpa using hv')) h2;exact⟨d'::ds,_::ms, .cons k1 l1,⟨k2,l2⟩,by simp[Rows.uptoBulkAll,l3]⟩
theorem c0V (hl:laidOutB P=true){W':World}(hb:Below W.heap.size W W'):∀{ts:List TypeId} {vs:List Value} {xs:List (DataW H)} {ps:List MemPlace},(∀t∈ts,P.readableRec t=true/\t<P.types.size)->
 DataW.TrodAll enc P W 0 (λ_=>true) true ts vs xs ps->(∀p∈ps,p.block<W.heap.size)->DataW.TrodAll enc P W' 0 (λb=>decide (b<W.heap.size)) true ts vs xs ps
 | [],_,_,_,_,h,_=>by
   obtain⟨rfl,rfl,rfl⟩:=trodAll_nil h;exact h
 | t::ts,_,_,_,hts,h,hlt=>by
   obtain⟨v,vs,d,xs,p,q,rfl,rfl,rfl,h1,h2⟩:=trodAll_cons h;refine⟨p,q,Below.trod hl (hts t (by simp)).1 (hts t (by simp)).2 h1 hb (λx hx=>hlt x (by simp[hx])),c0V hl hb (λt ht=>hts t (by simp[ht])) h2 (λx hx=>hlt x (by simp[hx])),rfl⟩
theorem c0W:∀{ts:List TypeId} {vs:List Value} {xs:List (DataW H)} {ps:List MemPlace} {W:World} {b:Nat} {sp:Nat->Bool} {hd:Bool},DataW.TrodAll enc P W b sp hd ts vs xs ps->xs.length=ts.length
 | [],_,_,_,_,_,_,_,h=>by
   obtain⟨rfl,rfl,rfl⟩:=trodAll_nil h;rfl
 | t::ts,_,_,_,_,_,_,_,h=>by
   obtain⟨v,vs,d,xs,p,q,rfl,rfl,rfl,h1,h2⟩:=trodAll_cons h;simp[c0W h2]
theorem says (hT:TOk P T)(hS:a7B T S=true)(hl:laidOutB P=true){f:FuncId}{fn:Func}{tb:TypeId}(hr:fn.resultTypes= #[tb])(htb:P.underlying tb=some .bool)
 (hp:fn.params.toList.all (λt=>w6 t S&&(P.readableRec t&&Nat.blt t P.types.size))=true) (hm:∀ds ms,a2p T fn.params.toList ds ms->ms.sum<=1048576->Meets P f ds λr=>r= .v (.bool true))
 {s:ChangeSpec} (hvars:s.vars=[]) {fresh handsOn:Bool} (hs:∀xs:List (DataW H),xs.length=fn.params.toList.length->s.fn H xs={results:=[.lit (.bool true)],args:=xs})
 (hg:Glob (V0 W)) {base:Nat} {args:Array Value} {xs gs:List (DataW H)} {before:List MemPlace}
 (hval:∀(j:Nat) t v,fn.params[j]?=some t->args[j]?=some v->Value.okWide P W .any base t v)
 (hW:DataW.Whole enc P fn.params.toList s.vars false W args.toList xs gs before) (hk:Rows.uptoSmall H (xs++gs)=true) (hgw:GlobW W:=by exact d9):
 Calls P f args W λe W'=>∃v,e= .returned v/\s.post enc P fn false fresh handsOn false W args v W':=by
 have hW':=hW;obtain⟨p,q,hA,hV,rfl,_,_⟩:=hW;rw[hvars] at hV;obtain⟨rfl,rfl⟩:=trodVars_none hV;rw[R4] at hk;have hp':=λt ht=>n7.1 hp t ht;simp only[f0] at hp';obtain⟨ds,ms,h1,h2,h3⟩:=c0X hT hS (λt ht=>memB_mem.1 (hp' t ht).1) (λj t v ht hv=>hval j t v (by simpa using ht) (by simpa using hv)) hA;have hk:=a1R hk;have hrun:=(hm ds ms h2 (by omega)).out.run (λ_=>(.nilIface,none)) (V0 W) W args.toList (d1B hg hgw)
  ⟨by simp[h1.len],λi b x hb hx=>by
   rw[z7] at hb;obtain⟨d,hd,rfl⟩:=a5I.1 hb;exact h1.get i x d hx hd⟩ (λn b h=>by cases h) (λn n' b b' h=>by cases h)
 rw[Array.toArray_toList] at hrun;refine hrun.mono λe W' ⟨γ',V',o,O',a1,a2,_,_,_,_,_,_,d,ho,_,hd⟩=>?_;subst ho;subst hd;have hb:Below W.heap.size W W':=a2.to;have hlt:∀x∈p,x.block<W.heap.size:=λx hx=>by simpa using hW'.lt x (by simpa using hx)
 cases e with
 | returned v=>
   obtain⟨rfl,_⟩:=Rep.v_inv (show Rep V' v (.v (.bool true)) from a1);have hlen:=c0W hA;have hfn:=hs (xs++[]) (by simpa using hlen);refine⟨_,rfl,xs,[],p++[],[],p,[],hW',?_,?_,?_,hb.frame _,λh=>by cases h⟩
   . rw[hfn,hr];exact trodAll_mk1 (shut_bool htb true)
   . rw[hfn,R4];exact c0V hl hb (λt ht=>⟨(hp' t ht).2.1,X2 (hp' t ht).2.2⟩) hA hlt
   . rw[hfn,hvars];exact rfl
 |_=>exact a1.elim
end
section
variable {T:List (Nat×TI)}
theorem TyD.pos {n:Nat}{t:TypeId}{ds:List D}{m:Nat}(h:TyD T n t ds m):1<=m:=by
 cases n with
 |zero=>exact h.elim
 | succ n=>
   simp only[TyD] at h;split at h
   . exact h.elim
   . exact h.2
   . exact h.2
   . obtain⟨s,_,h⟩:=h;omega
   . obtain⟨xs,ms,_,_,h⟩:=h;omega
   . obtain⟨xs,ms,_,_,h⟩:=h;omega
theorem TyD.int_ {k:IntKind}{t:TypeId}(hs:shp T t=some (.i k)){n:Nat}{ds:List D}{m:Nat}(h:TyD T n t ds m):∃i,ds=[.v (.int k i)]:=by
 cases n with
 |zero=>exact h.elim
 |succ n=>simp only[TyD,hs] at h;exact h.1
theorem TyD.bool_ {t:TypeId}(hs:shp T t=some .b){n:Nat}{ds:List D}{m:Nat}(h:TyD T n t ds m):∃b,ds=[.v (.bool b)]:=by
 cases n with
 |zero=>exact h.elim
 |succ n=>simp only[TyD,hs] at h;exact h.1
theorem TyD.str_ {t:TypeId}(hs:shp T t=some .s){n:Nat}{ds:List D}{m:Nat}(h:TyD T n t ds m):∃s:List UInt8,ds=[.str s]/\s.length+1<=m:=by
 cases n with
 |zero=>exact h.elim
 |succ n=>simpa only[TyD,hs] using h
theorem TyD.st_ {l:List TypeId}{t:TypeId}(hs:shp T t=some (.st l)){n:Nat}{ds:List D}{m:Nat}(h:TyD T n t ds m):
 ∃n',n=n'+1/\∃(xs:List (List D)) (ms:List Nat),ds=xs.flatten/\TyF (TyD T n') l xs ms/\ms.sum+1<=m:=by
 cases n with
 |zero=>exact h.elim
 |succ n=>simp only[TyD,hs] at h;exact⟨n,rfl,h⟩
theorem a0m {R:TypeId->List D->Nat->Prop}{xs:List (List D)}{ms:List Nat}(h:TyF R [] xs ms):xs=[]/\ms=[]:=by
 cases xs<;>cases ms<;>first|exact⟨rfl,rfl⟩|exact h.elim
theorem v8 {R:TypeId->List D->Nat->Prop}{f:TypeId}{fs:List TypeId}{xs:List (List D)}{ms:List Nat}(h:TyF R (f::fs) xs ms):
 ∃x xs' m ms',xs=x::xs'/\ms=m::ms'/\R f x m/\TyF R fs xs' ms':=by
 cases xs<;>cases ms<;>first|exact⟨_,_,_,_,rfl,rfl,h.1,h.2⟩|exact h.elim
theorem c3g {α β γ:Type}{R:β->γ->Prop}{Q:α->γ->Prop}{f:α->β}(hq:∀x y,R x y->∃a,x=f a/\Q a y):∀{xs:List β} {ys:List γ},All2 R xs ys->∃l:List α,xs=l.map f/\All2 Q l ys:=by
 intro xs;induction xs with
 | nil=>
   intro ys h;have:ys=[]:=C8 (by simpa using h.len.symm);subst this;exact⟨[],rfl, .nil⟩
 | cons x xs ih=>
   intro ys h;cases ys with
   |nil=>have:=h.len;simp at this
   | cons y ys=>
     obtain⟨l,hl,h2⟩:=ih (ys:=ys) ⟨by have:=h.len;simpa using this,λi a b ha hb=>h.get (i+1) a b (by simpa using ha) (by simpa using hb)⟩;obtain⟨a,ha,hq'⟩:=hq x y (h.get 0 x y rfl rfl);exact⟨a::l,by simp[ha,hl], .cons hq' h2⟩
theorem c3i {α γ:Type}{Q:α->γ->Prop}{l:List α}{ys:List γ}(h:All2 Q l ys){a:α}(ha:a∈l):∃y∈ys,Q a y:=by
 obtain⟨i,hi⟩:=List.getElem?_of_mem ha;have hlt:i<ys.length:=by
  rw[<-h.len];rcases C5 i l.length with k|k
  . exact k
  . rw[z6 k] at hi;cases hi
 exact⟨ys[i],q7 hlt,h.get i a _ hi (t6 hlt)⟩
theorem c8b:∀{l:List Nat} {m:Nat},m∈l->m<=l.sum:=by
 intro l;induction l with
 |nil=>intro m h;cases h
 | cons x l ih=>
   intro m h;rw[Q6];rcases p8.1 h with rfl|h
   . omega
   . have:=ih h;omega
theorem c8l:∀{l:List Nat},(∀m∈l,1<=m)->l.length<=l.sum:=by
 intro l;induction l with
 |nil=>intro _;simp
 | cons x l ih=>
   intro h;have h1:=h x (by simp);have h2:=ih λm hm=>h m (by simp[hm]);simp only[i7,Q6];omega
structure ListOf {α:Type} (Q:α->Nat->Prop) (l:List α) (m:Nat):Prop where
 len:l.length<m
 all:∀x∈l,∃m',m'<m/\Q x m'
 sums:∃ms:List Nat,All2 Q l ms/\ms.sum<m
theorem TyD.sl_ {e t:TypeId}(hs:shp T t=some (.sl e)){α:Type}(f:α->List D)(Q:α->Nat->Prop){n:Nat}{ds:List D}{m:Nat}(h:TyD T n t ds m)
 (ih:∀n' ds m,n'<n->TyD T n' e ds m->∃x,ds=f x/\Q x m):∃l:List α,ds=[.sl (l.map f)]/\ListOf Q l m:=by
 cases n with
 |zero=>exact h.elim
 | succ n=>
   simp only[TyD,hs] at h;obtain⟨xs,ms,rfl,h2,h3⟩:=h;obtain⟨l,hl,h4⟩:=c3g (f:=f) (Q:=λa m=>Q a m/\1<=m) (λx y hxy=>by
    obtain⟨a,ha,hq⟩:=ih n x y (by omega) hxy;exact⟨a,ha,hq,hxy.pos⟩) h2
   have hall:∀m∈ms,1<=m:=by
    intro m hm;obtain⟨i,hi⟩:=List.getElem?_of_mem hm;have hlt:i<l.length:=by
     rw[h4.len];rcases C5 i ms.length with k|k
     . exact k
     . rw[z6 k] at hi;cases hi
    exact(h4.get i _ m (t6 hlt) hi).2
   have hsum:=c8l hall;refine⟨l,by rw[hl],by rw[h4.len];omega,λx hx=>?_,ms,⟨h4.len,λi x y hx hy=>(h4.get i x y hx hy).1⟩,by omega⟩;obtain⟨y,hy,hq⟩:=c3i h4 hx;have:=c8b hy;exact⟨y,by omega,hq.1⟩
end
end Go.Proofs.YteillnfhkeebjaaGreatDoor.Dx
