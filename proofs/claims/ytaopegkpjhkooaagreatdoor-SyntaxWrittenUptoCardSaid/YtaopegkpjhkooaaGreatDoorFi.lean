/- The executor over data,part R: regions that draw their order: operations that only give a value are put off. -/
import Derived.Test.YtaopegkpjhkooaaGreatDoorFh
set_option linter.all false
namespace Go.Proofs.YtaopegkpjhkooaaGreatDoor.Dx
open Go Go.RowKit
section
variable {P:Program} {T:List (Nat×TI)} {cf:Cfg} {ops:Array Oper} {C:Cx} {γ:Gm} {V:Know} {a:Act} {W:World} {lc:List Nat} {l:Array Bool} {F:List Fl} {st:SSt} {Q:Exit->Act->World->Prop}
theorem V5 (c:Nat)(b:Bool)(f:Fl):(rfF c b f).i=f.i:=by unfold rfF;split<;>(try split)<;>rfl
theorem a0D (c:Nat)(b:Bool)(f:Fl):(rfF c b f).dst=f.dst:=by unfold rfF;split<;>(try split)<;>rfl
theorem b2F (c:Nat)(b:Bool)(f:Fl):(rfF c b f).keys=f.keys:=by unfold rfF;split<;>(try split)<;>rfl
theorem c0T (c:Nat)(b:Bool)(f:Fl):(rfF c b f).dep=f.dep:=by unfold rfF;split<;>(try split)<;>rfl
theorem a8d {c:Nat}{b:Bool}{f:Fl}(h:f.dst=some c):(rfF c b f).b= .d (.bl b):=by simp[rfF,h,Nat.beq_refl]
theorem b2G {c:Nat}{b:Bool}{f:Fl}(h:f.dst≠some c):rfF c b f=f:=by
 unfold rfF
 split
 . rename_i t ht
   split
   . rename_i e;exact absurd (by rw[ht,Nat.eq_of_beq_eq_true e]) h
   . rfl
 . rfl
theorem bool_iff {x:Bool}{v:Value}:RVb γ V (.d (.bl x)) v↔RVb γ V (.d (.v (.bool x))) v:=by
 constructor
 . intro h;rw[Rep.bl_b h];exact .b _
 . intro h;rw[(Rep.v_inv h).1];exact .bl _
theorem b7T (h:Inv P ops C γ V a W lc l F st){c:Nat}{x:Bool}(hc:∀f∈F,f.dst=some c->f.b= .d (.v (.bool x))):Inv P ops C γ V a W lc l (F.map (rfF c x)) st:=by
 have hb:∀f∈F,∀γ V v,RVb γ V (rfF c x f).b v↔RVb γ V f.b v:=by
  intro f hf γ V v
  by_cases e:f.dst=some c
  . rw[a8d e,hc f hf e];exact bool_iff
  . rw[b2G e]
 have un:∀{f:Fl},f∈F.map (rfF c x)->∃g∈F,f=rfF c x g:=λhf=>by
  obtain⟨g,hg,rfl⟩:=List.mem_map.1 hf;exact⟨g,hg,rfl⟩
 refine⟨h.rel,h.size,h.sub,h.lcs,λj hj=>?_,h.closed,λf hf=>?_,λf hf g hg e=>?_,λf hf=>?_,λf hf=>?_,λf hf=>?_,λf hf=>?_,λf hf n hn=>?_⟩
 . rcases h.cov j hj with h1|⟨f,hf,rfl⟩
   . exact .inl h1
   . exact .inr ⟨_,List.mem_map_of_mem hf,V5 ..⟩
 . obtain⟨g,hg,rfl⟩:=un hf
   rw[V5,a0D];exact h.inF g hg
 . obtain⟨f',hf',rfl⟩:=un hf
   obtain⟨g',hg',rfl⟩:=un hg
   rw[V5,V5] at e
   rw[h.uniq f' hf' g' hg' e]
 . obtain⟨g,hg,rfl⟩:=un hf
   rw[a0D];exact h.noL g hg
 . obtain⟨g,hg,rfl⟩:=un hf
   rw[a0D];exact h.dN g hg
 . obtain⟨g,hg,rfl⟩:=un hf
   rw[V5,a0D]
   exact λhl t ht=>(hb g hg _ _ _).2 (h.val g hg hl t ht)
 . obtain ⟨g,hg,rfl⟩:=un hf
   rw[V5,b2F]
   obtain⟨need,h1,h2,h3⟩:=h.able g hg
   refine⟨need,λγ V W O' a hag hs ho hn=>?_,h2,λhl p hp=>?_⟩
   . rw[c0T] at hag
     obtain⟨v,V',W',e1,e2,e3⟩:=h1 γ V W O' a hag hs ho hn
     rw[a0D,V5]
     exact⟨v,V',W',e1,(hb g hg _ _ _).2 e2,e3⟩
   . rcases h3 hl p hp with⟨f',hf',t,o,e1,e2,e3,e4,e5⟩|⟨e1,e2⟩
     . refine .inl ⟨_,List.mem_map_of_mem hf',t,o,e1,by rw[a0D];exact e2,by rw[V5];exact e3,by rw[V5];exact e4,λγ V v hv=>e5 γ V v ((hb f' hf' _ _ _).1 hv)⟩
     . refine .inr ⟨e1,λt ht j w hw hwd=>?_⟩
       rw[V5];exact e2 t ht j w hw hwd
 . obtain⟨g,hg,rfl⟩:=un hf
   rw[b2F]
   by_cases e:g.dst=some c
   . rw[a8d e] at hn;cases hn
   . rw[b2G e] at hn;exact h.keys g hg n hn
theorem a3Q {c:Nat}:∀{F:List Fl} {L:List (Nat×Base)},(∃f∈F,f.dst=some c)->∃f∈F,f.dst=some c/\c8 c (D0 F L)=some f.b:=by
 intro F
 induction F with
 |nil=>rintro L ⟨f,hf,_⟩;cases hf
 | cons f F ih=>
   rintro L ⟨g,hg,hgd⟩
   by_cases e:f.dst=some c
   . refine⟨f,List.mem_cons_self ..,e,?_⟩
     obtain⟨i,d,b,ks,dp⟩:=f
     cases e
     exact p8 ..
   . have hg':g∈F:=by
      rcases List.mem_cons.1 hg with rfl|hg
      . exact absurd hgd e
      . exact hg
     obtain⟨f',hf',h1,h2⟩:=ih (L:=L) ⟨g,hg',hgd⟩
     refine⟨f',List.mem_cons_of_mem _ hf',h1,?_⟩
     obtain⟨i,d,b,ks,dp⟩:=f
     cases d with
     |some d=>simp only[D0];rw[j6 (λe'=>e (by rw[e']))];exact h2
     |none=>exact h2
theorem b1O {c:Nat}{F:List Fl}{L:List (Nat×Base)}(h:∀f∈F,f.dst≠some c):c8 c (D0 F L)=c8 c L:=by
 induction F with
 |nil=>rfl
 | cons f F ih=>
   have ih:=ih λg hg=>h g (List.mem_cons_of_mem _ hg)
   have e:=h f (List.mem_cons_self ..)
   obtain⟨i,d,b,ks,dp⟩:=f
   cases d with
   |some d=>simp only[D0];rw[j6 (λe'=>e (by rw[e']))];exact ih
   |none=>exact ih
def a3a (w:Bool)(b:Base)(r:Bool):Prop:=(∀n,z1 n b=false)/\∀γ V v,RVb γ V b v->(v= .bool w↔r=true)
theorem b1n (w x:Bool):a3a w (.d (.bl x)) (eqB x w):=by
 refine⟨λn=>rfl,λγ V v hv=>?_⟩
 rw[Rep.bl_b hv]
 cases x<;>cases w<;>simp[eqB]
theorem b1m {w:Bool}{b:Base}{set:Bool->(List Fl->SSt->Prop)->Prop}{k:Bool->List Fl->SSt->Prop}(h:gd1 w b F st set k):
 (∃r,k r F st/\a3a w b r)\/∃x r,b= .d (.v (.bool x))/\set x (λF st=>k r F st)/\a3a w (.d (.bl x)) r:=by
 unfold gd1 at h
 split at h
 . rename_i x
   refine .inl ⟨eqB x w,?_,b1n w x⟩
   revert h
   cases eqB x w<;>exact id
 . rename_i x
   refine .inr ⟨x,eqB x w,rfl,?_,b1n w x⟩
   cases x
   . have:=h.2 rfl
     cases w<;>exact this
   . have:=h.1 rfl
     cases w<;>exact this
 . refine .inl ⟨false,h,λn=>rfl,λγ V v hv=>?_⟩
   obtain⟨us,rfl,_⟩:=Rep.tup_inv hv
   simp
 . exact h.elim
def b4v (ops:Array Oper)(lk:Nat->Option Base)(g:Option (Nat×Bool))(r:Bool):Prop:=
 match g with
 |none=>r=true
 |some (j,w)=>∃c b,(ops[j]?).bind (·.dst)=some c/\lk c=some b/\a3a w b r
theorem c3W (hs:Static ops)(h:Inv P ops C γ V a W lc l F st){g:Option (Nat×Bool)}{k:Bool->List Fl->SSt->Prop}(hv:a8X ops g F st k):
 ∃r F' st',k r F' st'/\Inv P ops C γ V a W lc l F' st'/\b4v ops (λc=>c8 c (D0 F' st'.L)) g r:=by
 cases g with
 |none=>exact⟨true,F,st,hv,h,rfl⟩
 |some q=>
 obtain⟨j,w⟩:=q
 simp only[a8X] at hv
 cases hc:(ops[j]?).bind (·.dst) with
 |none=>rw[hc] at hv;exact hv.elim
 |some c=>
 rw[hc] at hv
 simp only at hv
 show ∃r F' st',k r F' st'/\Inv P ops C γ V a W lc l F' st'/\∃c b,(ops[j]?).bind (·.dst)=some c/\c8 c (D0 F' st'.L)=some b/\a3a w b r
 split at hv
 . rename_i b hb
   have hlook:c8 c (D0 F st.L)=some b:=by
    rcases a3P hb with⟨f,hf,h1,h2⟩|⟨_,h1⟩
    . obtain⟨f',hf',h3,h4⟩:=a3Q (L:=st.L) ⟨f,hf,h1⟩
      obtain⟨f2,hf2,h5,h6⟩:=a3Q (L:=([]:List (Nat×Base))) ⟨f,hf,h1⟩
      have e:f'=f2:=by
       obtain⟨_,o,ho,hod,_⟩:=h.inF f' hf'
       obtain⟨_,o2,ho2,hod2,_⟩:=h.inF f2 hf2
       by_cases e:f'.i=f2.i
       . exact h.uniq _ hf' _ hf2 e
       . exact absurd (hod.trans h3) (hs.one _ _ o o2 c ho ho2 e (hod2.trans h5))
      rw[h4,e,<-h6,hb]
    . rw[o6] at h1;cases h1
   rcases b1m hv with⟨r,h1,h2⟩|⟨x,r,rfl,h1,h2⟩
   . exact⟨r,F,st,h1,h,c,b,hc,hlook,h2⟩
   . rw [c0G] at h1
     have hall:∀f∈F,f.dst=some c->f.b= .d (.v (.bool x)):=by
      intro f hf hfd
      obtain⟨f',hf',h3,h4⟩:=a3Q (L:=st.L) ⟨f,hf,hfd⟩
      have e:f=f':=by
       obtain⟨_,o,ho,hod,_⟩:=h.inF f hf
       obtain⟨_,o2,ho2,hod2,_⟩:=h.inF f' hf'
       by_cases e:f.i=f'.i
       . exact h.uniq _ hf _ hf' e
       . exact absurd (hod.trans hfd) (hs.one _ _ o o2 c ho ho2 e (hod2.trans h3))
      rw[hlook] at h4
      rw[e];exact(Option.some.inj h4).symm
     refine⟨r,_,st,h1,b7T h hall,c,_,hc,?_,h2⟩
     have hex:∃f∈F.map (rfF c x),f.dst=some c:=by
      rcases a3P hb with⟨f,hf,h3,_⟩|⟨_,h3⟩
      . exact⟨_,List.mem_map_of_mem hf,by rw[a0D];exact h3⟩
      . rw[o6] at h3;cases h3
     obtain⟨f',hf',h3,h4⟩:=a3Q (L:=st.L) hex
     obtain⟨g,hg,rfl⟩:=List.mem_map.1 hf'
     rw[a0D] at h3
     rw[h4,a8d h3]
 . rename_i hnone
   have hno:∀f∈F,f.dst≠some c:=by
    intro f hf e
    obtain⟨f',_,_,h4⟩:=a3Q (L:=([]:List (Nat×Base))) ⟨f,hf,e⟩
    rw[hnone] at h4;cases h4
   split at hv
   case h_2=>exact hv.elim
   rename_i b hb
   rcases b1m hv with⟨r,h1,h2⟩|⟨x,r,rfl,h1,h2⟩
   . exact⟨r,F,st,h1,h,c,b,hc,by rw[b1O hno];exact hb,h2⟩
   . refine ⟨r,F,_,h1,?_,c,_,hc,by rw[b1O hno];exact p8 ..,h2⟩
     have hrel:Rel C γ (put st (some c) (.d (.bl x))) V a W:=by
      refine Q9 h.rel (L':=(c, .d (.bl x))::st.L) (O':=st.O) (λt y hy=>?_) (λn y hy=>⟨h.rel.own n y hy,y,hy⟩)
      by_cases e:c=t
      . subst e
        rw[p8] at hy
        cases hy
        exact bool_iff.2 (h.rel.slots c _ hb)
      . rw[j6 e] at hy
        exact h.rel.slots t y hy
     have hnoL:∀f∈F,∀t,f.dst=some t->c8 t (put st (some c) (.d (.bl x))).L=none:=λf hf t ht=>by
      show c8 t ((c,_)::st.L)=none
      rw[j6 (λe=>hno f hf (by rw[ht,e]))]
      exact h.noL f hf t ht
     exact {h with rel:=hrel,noL:=hnoL}
def a4D (L:List (Nat×Base))(x:Operand)(b:Base):Prop:=(∃t,x= .tmp t/\c8 t L=some b)\/((∀t,x≠ .tmp t)/\∀γ V (a:Act),RVb γ V b (a.eval x))
theorem b7H {st0:SSt}:∀(xs:List Operand) {k:List Base->Prop},F2 st0 xs k->∃bs,k bs/\All2 (λx b=>a4D st0.L x b) xs bs:=by
 intro xs
 induction xs with
 |nil=>intro k h;exact⟨[],h, .nil⟩
 | cons x xs ih=>
   intro k h
   simp only[F2] at h
   have:∃b,F2 st0 xs (λbs=>k (b::bs))/\a4D st0.L x b:=by
    cases x with
    |const v=>obtain⟨b,h1,h2⟩:=b0v (show a4Z v (λb=>F2 st0 xs λbs=>k (b::bs)) from h);exact⟨b,h1, .inr ⟨by simp,λγ V a=>h2 γ V⟩⟩
    |global g=>exact h.elim
    |func f=>exact⟨_,h, .inr ⟨by simp,λγ V a=>b1e V f⟩⟩
    | tmp t=>
      simp only[R7] at h
      split at h
      . rename_i b hb;exact⟨b,h, .inl ⟨t,rfl,hb⟩⟩
      . exact h.elim
   obtain⟨b,h1,h2⟩:=this
   obtain⟨bs,h3,h4⟩:=ih h1
   exact⟨b::bs,h3, .cons h2 h4⟩
theorem b8J {o:Oper}{t:Nat}(h:Operand.tmp t∈o.op.operands.toList):t∈o.looksAt ops:=by
 unfold Oper.looksAt
 refine List.mem_append.2 (.inl (List.mem_filterMap.2 ⟨_,h,rfl⟩))
theorem b8I {o:Oper}{j c:Nat}{w:Bool}(hg:o.guard=some (j,w))(hc:(ops[j]?).bind (·.dst)=some c):c∈o.looksAt ops:=by
 unfold Oper.looksAt
 refine List.mem_append.2 (.inr ?_)
 simp[hg,hc]
theorem b1U (hs:Static ops)(h:Inv P ops C γ V a W lc l F st){i:Nat}{o:Oper}(ho:ops[i]?=some o)(hi:i∉lc)(hoa:∀e∈o.after,Region.binds .any e=true->e.on∈lc){f:Fl}(hf:f.i=i)
 {x:Operand} {b:Base} (hx:∀t,x= .tmp t->t∈o.looksAt ops) (hfr:a4D (D0 F st.L) x b):a1S ops γ V a F l f (x,b):=by
 rcases hfr with⟨t,rfl,hl⟩|⟨hne,hv⟩
 . have hin:∀{j:Nat},onB o j=true->j∈lc:=λhj=>by
    obtain⟨e,he,hb,rfl⟩:=onB_iff.1 hj
    exact hoa e he hb
   rcases a3P hl with⟨g,hg,h1,rfl⟩|⟨hno,h1⟩
   . obtain ⟨hglc,og,hog,hogd,hoga⟩:=h.inF g hg
     refine .inl ⟨g,hg,t,o,rfl,h1,by rw[hf];exact ho,?_,λ_ _ _ h=>h⟩
     rcases hs.meet i g.i o og t ho hog (λe=>hi (e▸hglc)) (hogd.trans h1) (hx t rfl) with h2|h2
     . exact h2
     . obtain⟨e,he,hb,hei⟩:=onB_iff.1 h2
       exact absurd (hei▸hoga e he hb) hi
   . refine .inr ⟨h.rel.slots t b h1,λt' ht' j w hw hwd=>?_⟩
     cases ht'
     by_cases e:j=i
     . exact .inr (.inl (by rw[hf];exact e))
     . rcases hs.meet i j o w t ho hw (Ne.symm e) hwd (hx t rfl) with h2|h2
       . rcases h.cov j (hin h2) with h3|⟨g,hg,hgj⟩
         . exact .inl h3
         . obtain⟨_,og,hog,hogd,_⟩:=h.inF g hg
           rw[hgj,hw] at hog
           cases hog
           exact absurd (hogd.symm.trans hwd) (hno g hg)
       . exact .inr (.inr (by rw[hf];exact h2))
 . exact .inr ⟨hv _ _ _,λt ht=>absurd ht (hne t)⟩
theorem b1s (h:Inv P ops C γ V a W lc l F st){i:Nat}{o:Oper}(ho:ops[i]?=some o)(hi:i∉lc)(hoa:∀e∈o.after,Region.binds .any e=true->e.on∈lc){f:Fl}(hf:f.i=i)(hfd:f.dst=o.dst)
 {L:List (Nat×Base)} (hL:∀t b,c8 t L=some b->o.dst≠some t/\c8 t st.L=some b) (hdN:∀t,o.dst=some t->t<C.N) {need:List (Operand×Base)} (hdo:a9m P ops st.O f need)
 (hk:∀p∈need,∀n,z1 n p.2=true->n∈f.keys) (hkb:∀n,z1 n f.b=true->n∈f.keys) (hn:∀p∈need,a1S ops γ V a F l f p):Inv P ops C γ V a W (i::lc) l (f::F) ⟨L,st.O,st.pins⟩:=by
 have up:∀{g:Fl} {p:Operand×Base},a1S ops γ V a F l g p->a1S ops γ V a (f::F) l g p:=by
  rintro g p (⟨g',hg',h1⟩|h1)
  . exact .inl ⟨g',List.mem_cons_of_mem _ hg',h1⟩
  . exact .inr h1
 have hul:l.getD i false=true->False:=λe=>hi (h.sub i e)
 have all:∀{p:Fl->Prop},p f->(∀g∈F,p g)->∀g∈f::F,p g:=λh1 h2 g hg=>by
  rcases List.mem_cons.1 hg with rfl|hg
  . exact h1
  . exact h2 g hg
 refine⟨Q9 h.rel (λt b hb=>h.rel.slots t b (hL t b hb).2) (λn x hx=>⟨h.rel.own n x hx,x,hx⟩),h.size,λj hj=>List.mem_cons_of_mem _ (h.sub j hj),λj hj=>?_,λj hj=>?_,h.closed,
  all ⟨by rw[hf];exact List.mem_cons_self ..,o,by rw[hf];exact ho,hfd.symm,λe he hb=>List.mem_cons_of_mem _ (hoa e he hb)⟩ λg hg=>?_,
  all (all (λ_=>rfl) λg hg e=>?_) λg hg=>all (λe=>?_) λg' hg' e=>h.uniq g hg g' hg' e,all (λt ht=>?_) λg hg t ht=>?_,all (λt ht=>hdN t (hfd.symm.trans ht)) h.dN,all (λhl=>(hul (hf▸hl)).elim) h.val,
  all ⟨need,hdo,hk,λ_ p hp=>up (hn p hp)⟩ λg hg=>?_,all hkb h.keys⟩
 . rcases List.mem_cons.1 hj with rfl|hj
   . exact(Array.getElem?_eq_some_iff.1 ho).1
   . exact h.lcs j hj
 . rcases List.mem_cons.1 hj with rfl|hj
   . exact .inr ⟨f,List.mem_cons_self ..,hf⟩
   . rcases h.cov j hj with h1|⟨g,hg,h1⟩
     . exact .inl h1
     . exact .inr ⟨g,List.mem_cons_of_mem _ hg,h1⟩
 . obtain⟨h1,o',h2,h3,h4⟩:=h.inF g hg
   exact⟨List.mem_cons_of_mem _ h1,o',h2,h3,λe he hb=>List.mem_cons_of_mem _ (h4 e he hb)⟩
 . exact absurd ((hf.symm.trans e)▸(h.inF g hg).1) hi
 . exact absurd ((hf.symm.trans e.symm)▸(h.inF g hg).1) hi
 . cases hl:c8 t L with
   |none=>rfl
   |some b=>exact absurd (hfd.symm.trans ht) (hL t b hl).1
 . cases hl:c8 t L with
   |none=>rfl
   |some b=>have:=(hL t b hl).2;rw[h.noL g hg t ht] at this;cases this
 . obtain⟨need',h1,h2,h3⟩:=h.able g hg
   exact⟨need',h1,h2,λhl p hp=>up (h3 hl p hp)⟩
theorem c4j {o:Oper}{j c:Nat}{w:Bool}(hg:o.guard=some (j,w))(hc:(ops[j]?).bind (·.dst)=some c):Region.wanted o (yielded ops a.tmps)=true↔a.tmps.getD c undef= .bool w:=by
 simp only[Region.wanted,hg,yielded,hc,Option.bind_some,beq_iff_eq,Array.getD_eq_getD_getElem?]
 cases hx:a.tmps[c]? with
 |none=>simp[undef]
 |some x=>cases x<;>simp
theorem b4Z (hT:TOk P T)(hs:Static ops){kp:D->SSt->Prop}{i:Nat}{r:List Stp}{k:SSt->Prop}(h:Inv P ops C γ V a W lc l F st)(hb:a1y ops lc i=true)(hv:vcD P T C.N cf ops kp (.p i::r) F st k):
 ∃F' st',vcD P T C.N cf ops kp r F' st' k/\Inv P ops C γ V a W (i::lc) l F' st':=by
 obtain⟨hi,o,ho,hoa⟩:=rdy_run.1 hb
 simp only[vcD,ho] at hv
 split at hv
 . exact hv.elim
 rename_i hN
 have hdN:∀t,o.dst=some t->t<C.N:=by
  intro t ht
  rw[ht] at hN
  exact Nat.le_of_ble_eq_true hN
 obtain⟨run,F,st,hv,h,hg⟩:=c3W hs h hv
 obtain⟨gn,hgn1,hgn2,hgn3⟩:∃gn:List (Operand×Base),(∀p∈gn,∀n,z1 n p.2=false)/\(∀f:Fl,f.i=i->∀p∈gn,a1S ops γ V a F l f p)/\∀γ V (a:Act),(∀p∈gn,RVb γ V p.2 (a.eval p.1))->(Region.wanted o (yielded ops a.tmps)=true↔run=true):=by
  cases hog:o.guard with
  | none=>
    rw[hog] at hg
    refine⟨[],by simp,by simp,λγ V a _=>?_⟩
    simp only[Region.wanted,hog]
    exact⟨λ_=>hg,λ_=>(by first|rfl|trivial)⟩
  | some q=>
    obtain⟨j,w⟩:=q
    rw[hog] at hg
    obtain⟨c,b,hc,hl,hgk⟩:=hg
    refine⟨[(.tmp c,b)],by simpa using hgk.1,λf hf p hp=>?_,λγ V a hp=>?_⟩
    . obtain rfl:=List.mem_singleton.1 hp
      exact b1U hs h ho hi hoa hf (λt ht=>by cases ht;exact b8I hog hc) (.inl ⟨c,rfl,hl⟩)
    . rw[c4j hog hc]
      exact hgk.2 γ V _ (hp _ (List.mem_singleton.2 rfl))
 split at hv
 . -- not run
   rename_i hrun
   obtain⟨L,hv,hL⟩:=b0H hv
   rw[b1g,a0C] at hv
   refine⟨_,_,hv,b1s h ho hi hoa rfl rfl hL hdN (need:=gn) ?_ (λp hp n hn=>by rw[hgn1 p hp n] at hn;cases hn) (λn hn=>by cases hn) (λp hp=>hgn2 _ rfl p hp)⟩
   intro γ V W O' a _ hsees _ hn
   refine⟨undef,V,W, .refl hsees,b3F V,λC' K Q hK=>?_⟩
   have hw:¬Region.wanted o (yielded ops a.tmps)=true:=λe=>by have:=(hgn3 γ V a hn).1 e;cases this
   simp only[wpOpIn,ho,if_neg hw]
   exact⟨λ_ _=>trivial,hK⟩
 . rename_i hrun
   obtain⟨bs,hv,hfr⟩:=b7H _ hv
   obtain⟨V',a',W',l',hinv,hall⟩:=b7R hs h
   have hvals:Vals γ V' bs (o.op.operands.toList.map a'.eval):=by
    refine⟨by simp[hfr.len],λj b x hb hx=>?_⟩
    rw[List.getElem?_map] at hx
    cases hox:o.op.operands.toList[j]? with
    |none=>simp[hox] at hx
    | some y=>
      simp only[hox,Option.map_some,Option.some.injEq] at hx
      subst hx
      rcases hfr.get j y b hox hb with⟨t,rfl,hl⟩|⟨_,hc⟩
      . exact b0O hinv hall t b hl
      . exact hc _ _ _
   obtain⟨b,hv,hgive⟩:=b3U hT ⟨γ,V',W',_,hinv.rel.sees,hinv.rel.own,hvals⟩ hv
   rw[a3B] at hv
   obtain⟨ks,hv,hk1,hk2⟩:=a4I _ hv
   obtain⟨dp,hv,hd1,_⟩:=a4I _ hv
   obtain⟨L,hv,hL⟩:=b0H hv
   rw[b1g,a0C] at hv
   refine⟨_,_,hv,b1s h ho hi hoa rfl rfl hL hdN (need:=gn++o.op.operands.toList.zip bs) ?_ ?_ (λn hn=>hk2 n (a5s hn)) ?_⟩
   . intro γ V W O' a hag hsees hown hn
     have hw:Region.wanted o (yielded ops a.tmps)=true:=(hgn3 γ V a λp hp=>hn p (List.mem_append.2 (.inl hp))).2 rfl
     obtain ⟨v,V',W',h1,h2,h3⟩:=hgive γ V W O' _ (λn hn=>hag n (hd1 n hn)) hsees hown (show Vals γ V bs (o.op.operands.toList.map a.eval) from⟨by simp[hfr.len],λj b x hb hx=>by
      rw[List.getElem?_map] at hx
      cases hox:o.op.operands.toList[j]? with
      |none=>simp[hox] at hx
      | some y=>
        simp only[hox,Option.map_some,Option.some.injEq] at hx
        subst hx
        refine hn (y,b) (List.mem_append.2 (.inr (List.mem_iff_getElem?.2 ⟨j,?_⟩)))
        rw[List.getElem?_zip_eq_some]
        exact⟨hox,hb⟩⟩) o a.eval rfl rfl
     refine⟨v,V',W',h2,h3,λC' K Q hK=>?_⟩
     simp only[wpOpIn,ho,if_pos hw]
     exact(F9 (C:=C') h1 hK).2
   . intro p hp n hn
     rcases List.mem_append.1 hp with hp|hp
     . rw[hgn1 p hp n] at hn;cases hn
     . obtain⟨x,b⟩:=p
       exact hk1 n (List.mem_flatMap.2 ⟨b,(List.of_mem_zip hp).2,a5s hn⟩)
   . intro p hp
     rcases List.mem_append.1 hp with hp|hp
     . exact hgn2 _ rfl p hp
     . obtain⟨x,b⟩:=p
       obtain⟨j,hj⟩:=List.mem_iff_getElem?.1 hp
       rw[List.getElem?_zip_eq_some] at hj
       exact b1U hs h ho hi hoa rfl (λt ht=>b8J (by rw[<-ht];exact List.mem_of_getElem? hj.1)) (hfr.get j x b hj.1 hj.2)
theorem adv (hT:TOk P T)(hs:Static ops){kp:D->SSt->Prop}{k:SSt->Prop}:∀(r:List Stp) {lc:List Nat} {F:List Fl} {st:SSt},Inv P ops C γ V a W lc l F st->T7 ops r lc=true->vcD P T C.N cf ops kp r F st k->
 ∃r' lc' F' st',(∀i r2,r'≠ .p i::r2)/\T7 ops r' lc'=true/\vcD P T C.N cf ops kp r' F' st' k/\Inv P ops C γ V a W lc' l F' st':=by
 intro r
 induction r with
 |nil=>intro lc F st h hb hv;exact⟨[],lc,F,st,by simp,hb,hv,h⟩
 | cons s r ih=>
   intro lc F st h hb hv
   cases s with
   | p i=>
     simp only[T7,Bool.and_eq_true] at hb
     obtain⟨F',st',hv',h'⟩:=b4Z hT hs h hb.1 hv
     exact ih h' hb.2 hv'
   |s i anc=>exact⟨_,lc,F,st,by simp,hb,hv,h⟩
end
end Go.Proofs.YtaopegkpjhkooaaGreatDoor.Dx
/- The executor over data,part S: regions that draw their order: the rule. -/
namespace Go.Proofs.YtaopegkpjhkooaaGreatDoor.Dx
open Go Go.RowKit
section
variable {P:Program} {T:List (Nat×TI)} {cf:Cfg} {ops:Array Oper} {C:Cx} {γ:Gm} {V:Know} {a:Act} {W:World} {lc:List Nat} {l:Array Bool} {F:List Fl} {st:SSt} {Q:Exit->Act->World->Prop}
theorem b5f (hcl:∀j o,l.getD j false=true->ops[j]?=some o->∀e∈o.after,Region.binds .any e=true->l.getD e.on false=true):∀(anc dn:List Nat),(∀j∈dn,∀o,ops[j]?=some o->∀e∈o.after,Region.binds .any e=true->l.getD e.on false=true)->
 a3k ops dn anc=true->∀x∈anc,l.getD x false=true:=by
 intro anc
 induction anc with
 |nil=>intro dn _ _ x hx;cases hx
 | cons y r ih=>
   intro dn hdn h x hx
   simp only[a3k,Bool.and_eq_true,List.any_eq_true] at h
   obtain⟨⟨j,hj,hy⟩,hr⟩:=h
   have hyl:l.getD y false=true:=by
    split at hy
    . rename_i o ho
      obtain⟨e,he,hb,rfl⟩:=onB_iff.1 hy
      exact hdn j hj o ho e he hb
    . cases hy
   rcases List.mem_cons.1 hx with rfl|hx
   . exact hyl
   . refine ih (y::dn) (λk hk o ho=>?_) hr x hx
     rcases List.mem_cons.1 hk with rfl|hk
     . exact hcl k o hyl ho
     . exact hdn k hk o ho
def a2f (C:Cx)(γ:Gm)(V:Know)(W:World)(st:SSt):Cx:=⟨W.heap.size,C.N,W,V,i7 γ st.O,γ,C.round,C.m0,C.dfr⟩
theorem c0J (hr:Rel C γ st V a W){L:List (Nat×Base)}(hL:∀t b,c8 t L=some b->RVb γ V b (a.tmps.getD t undef))(ps:List Nat):Rel (a2f C γ V W st) γ ⟨L,st.O,ps⟩ V a W:=
 {size:=hr.size,defers:=hr.defers,slots:=hL,own:=hr.own,okb:=λn b hl k hk=> .inl (List.mem_filterMap.2 ⟨(n,b),M9 hl,hk⟩),inj:=hr.inj,pin:=λ_ _=>rfl,sees:=hr.sees,fresh:= .refl _ _ _,below:= .refl _ _ _,bsize:=Nat.le_refl _}
theorem a6L (hr:Rel C γ st V a W){k:Nat}(h:k∈i7 γ st.O):Okb C k:=by
 obtain⟨⟨n,b⟩,hm,hk⟩:=List.mem_filterMap.1 h
 have :∀l:List (Nat×Blk),(n,b)∈l->∃z,c8 n l=some z:=by
  intro l
  induction l with
  |nil=>intro h;cases h
  | cons p l ih=>
    obtain⟨t,y⟩:=p
    intro h
    by_cases e:t=n
    . subst e;exact⟨y,p8 ..⟩
    . rw[j6 e]
      rcases List.mem_cons.1 h with h|h
      . cases h;exact absurd rfl e
      . exact ih h
 obtain⟨z,hz⟩:=this _ hm
 exact hr.okb n z hz k hk
theorem b2A (hr:Rel C γ st V a W){γ':Gm}{st2:SSt}{V':Know}{a':Act}{W':World}(h:Rel (a2f C γ V W st) γ' st2 V' a' W')(hp:∀n∈st.pins,n∈st2.pins):Rel C γ' ⟨st2.L,st2.O,st.pins⟩ V' a' W':=by
 have ok:∀{k:Nat},Okb (a2f C γ V W st) k->Okb C k:=by
  rintro k (h1|h1)
  . exact a6L hr h1
  . exact .inr (Nat.le_trans hr.bsize h1)
 refine {size:=h.size,defers:=h.defers,slots:=h.slots,own:=h.own,okb:=λn b hl k hk=>ok (h.okb n b hl k hk),inj:=h.inj,pin:=λn hn=>(h.pin n (hp n hn)).trans (hr.pin n hn),sees:=h.sees,fresh:=?_,below:=?_,bsize:=Nat.le_trans hr.bsize h.bsize}
 . exact hr.fresh.trans h.fresh hr.bsize λk hk=>a6L hr hk
 . refine hr.below.trans ⟨h.below.os,h.below.tape,h.below.output,h.below.size,λb hb hnl=>h.below.block b (Nat.lt_of_lt_of_le hb hr.bsize) λhm=>?_⟩
   rcases a6L hr hm with h1|h1
   . exact hnl h1
   . omega
theorem c4E {o:Oper}{K:Act->World->Prop}(h:opw C P o a W K Q):opw C P o a W (λa' W'=>K a' W'/\∃v,a'=a.put o.dst v) Q:=by
 obtain⟨⟨hnd,hnr⟩,hab,h⟩:=h
 refine⟨⟨hnd,hnr⟩,hab,?_⟩
 rw[a8g hnd] at h⊢
 cases hrun:(execOp a.eval o).run P W with
 | halt x w'=>
   rw[hrun] at h
   cases x<;>exact h
 | ok n w'=>
   rw[hrun] at h
   cases n with
   |value u=>exact⟨h,u,rfl⟩
   |skip=>exact⟨h,undef,rfl⟩
   | enter f args=>
     exact⟨h.1,CallsIn.mono h.2 λe w2 he=>match e,he with
      | .returned u,he=>⟨he,u,rfl⟩
      | .panicked c,he=>he
      | .outgrown,he=>he⟩
   | round l f tmps assign body=>
     exact⟨h.1,RoundIn.mono h.2 λe w2 he=>match e,he with
      | .returned u,he=>⟨he,u,rfl⟩
      | .panicked c,he=>he
      | .outgrown,he=>he⟩
   |row r args=>exact⟨h.1,RowsIn.mono h.2 λu w2 he=>⟨he,u,rfl⟩⟩
   |defer x=>exact absurd hrun (hnr _ _)
   |_=>exact h
theorem c2n (hT:TOk P T)(hs:Static ops)(h:Inv P ops C γ V a W lc l F st){i:Nat}{o:Oper}{anc:List Nat}{r:List Stp}(ho:ops[i]?=some o)(hi:i∉lc)(hoa:∀e∈o.after,Region.binds .any e=true->e.on∈lc)
 (hrl:∀e∈o.after,Region.binds .any e=true->l.getD e.on false=true) (hanc:a3k ops [i] anc=true) {kp:D->SSt->Prop} {k:SSt->Prop} (hv:vcD P T C.N cf ops kp (.s i anc::r) F st k) (hp:NxP C kp Q) {K:Act->World->Prop}
 (hK:∀γ' V' a' W' F' st',Inv P ops C γ' V' a' W' (i::lc) (l.setIfInBounds i true) F' st'->vcD P T C.N cf ops kp r F' st' k->K a' W'):wpOpIn (fen C) 0 P ops Q i K a W:=by
 simp only[vcD,ho] at hv
 obtain⟨M,F',hv,hM,hF',hMF⟩:=c2a _ hv
 rw[a9L] at hv
 obtain⟨ps,hv,hps1,hps2⟩:=b8i _ hv
 have hil:l.getD i false=false:=by
  cases e:l.getD i false with
  |false=>rfl
  |true=>exact absurd (h.sub i e) hi
 have hlt:i<l.size:=by rw[h.size];exact(Array.getElem?_eq_some_iff.1 ho).1
 have hlis:∀x∈anc,l.getD x false=true:=b5f h.closed anc [i] (λj hj o' ho'=>by
  obtain rfl:=List.mem_singleton.1 hj
  rw[ho] at ho';cases ho'
  exact hrl) hanc
 have hslots:∀t b,c8 t (D0 M st.L)=some b->RVb γ V b (a.tmps.getD t undef):=by
  intro t b hb
  rcases a3P hb with⟨f,hf,h1,rfl⟩|⟨_,h1⟩
  . exact h.val f (hM f hf).1 (hlis _ (hM f hf).2) t h1
  . exact h.rel.slots t b h1
 have hin:=c0J h.rel hslots ps
 have hon:∀{j:Nat},onB o j=true->l.getD j false=true:=λhj=>by
  obtain⟨e,he,hb,rfl⟩:=onB_iff.1 hj
  exact hrl e he hb
 let K1:Act->World->Prop:=λa' W'=>∃γ' V' st2,Rel (a2f C γ V W st) γ' st2 V' a' W'/\(match a3i ps st2.pins&&a7O F' st2.L with
  |true=>a5e F' [] λdp=>a6a st.O st2.O dp (Z5 ⟨st2.L,st2.O,st.pins⟩ λst3=>vcD P T C.N cf ops kp r F' st3 k)
  |false=>False)
 have fin :∀a' W' v,K1 a' W'->a'=a.put o.dst v->K a' W':=by
  rintro a' W' v ⟨γ',V',st2,hr2,hk⟩ rfl
  split at hk
  case h_2=>exact hk.elim
  rename_i hc
  simp only[Bool.and_eq_true] at hc
  obtain⟨hc1,hc2⟩:=hc
  have hc1:=a9N hc1
  have hc2:=b9r hc2
  obtain⟨dp,hk,hd1,_⟩:=b6D _ hk
  obtain⟨hk,hst⟩:=c2e _ hk
  rw[a0C] at hk
  have hrel:=b2A h.rel hr2 λn hn=>hc1 n (hps2 n hn)
  have hg:∀f∈F',∀n∈f.keys,γ' n=γ n:=λf hf n hn=>hr2.pin n (hc1 n (hps1 f hf n hn))
  have hle:V.Le V':=hr2.fresh.le
  have move:∀{f:Fl} {b:Base} {v:Value},f∈F'->(∀n,z1 n b=true->n∈f.keys)->RVb γ V b v->RVb γ' V' b v:=λhf hk hv=>(hv.mono hle).congr λn hn=>by rw[hg _ hf n (hk n hn)]
  have hsz:a.tmps.size=C.N:=h.rel.size
  have hdo:∀t,o.dst=some t->t<a.tmps.size\/True:=λ_ _=> .inr trivial
  have slot:∀t,o.dst≠some t->(a.put o.dst v).tmps.getD t undef=a.tmps.getD t undef:=by
   intro t ht
   cases hod:o.dst with
   |none=>rfl
   | some d=>
     have hne:d≠t:=λe=>ht (by rw[hod,e])
     simp only[Act.put,Array.getD_eq_getD_getElem?,Array.getElem?_setIfInBounds_ne hne]
  have ev:∀x:Operand,(∀t,x= .tmp t->o.dst≠some t)->(a.put o.dst v).eval x=a.eval x:=by
   intro x hx
   cases x with
   |tmp t=>exact slot t (hx t rfl)
   |_=>cases o.dst<;>rfl
  refine hK γ' V' _ W' F' _ ⟨hrel,by simp[h.size],λj hj=>?_,λj hj=>?_,λj hj=>?_,λj o' hj ho' e he hb=>?_,λf hf=>?_,λf hf g hg e=>h.uniq f (hF' f hf) g (hF' g hg) e,hc2,λf hf=>h.dN f (hF' f hf),λf hf hl t ht=>?_,λf hf=>?_,λf hf=>h.keys f (hF' f hf)⟩ hk
  . rcases a2w hj with rfl|hj
    . exact List.mem_cons_self ..
    . exact List.mem_cons_of_mem _ (h.sub j hj)
  . rcases List.mem_cons.1 hj with rfl|hj
    . exact(Array.getElem?_eq_some_iff.1 ho).1
    . exact h.lcs j hj
  . rcases List.mem_cons.1 hj with rfl|hj
    . exact .inl (a7G hlt)
    . rcases h.cov j hj with h1|⟨f,hf,rfl⟩
      . exact .inl (Q2 h1)
      . rcases hMF f hf with h2|h2
        . exact .inl (Q2 (hlis _ (hM f h2).2))
        . exact .inr ⟨f,h2,rfl⟩
  . rcases a2w hj with rfl|hj
    . rw[ho] at ho';cases ho'
      exact Q2 (hrl e he hb)
    . exact Q2 (h.closed j o' hj ho' e he hb)
  . obtain⟨h1,o',h2,h3,h4⟩:=h.inF f (hF' f hf)
    exact⟨List.mem_cons_of_mem _ h1,o',h2,h3,λe he hb=>List.mem_cons_of_mem _ (h4 e he hb)⟩
  . obtain⟨h1,o',h2,h3,h4⟩:=h.inF f (hF' f hf)
    have hne:f.i≠i:=λe=>hi (e▸h1)
    have hl:l.getD f.i false=true:=(a2w hl).resolve_left hne
    rw[slot t (hs.one i f.i o o' t ho h2 (Ne.symm hne) (h3.trans ht))]
    exact move hf (h.keys f (hF' f hf)) (h.val f (hF' f hf) hl t ht)
  . obtain ⟨need,h1,h2,h3⟩:=h.able f (hF' f hf)
    obtain⟨hflc,of,hof,hofd,hofa⟩:=h.inF f (hF' f hf)
    have hne:f.i≠i:=λe=>hi (e▸hflc)
    refine⟨need,λγ V W O' a hag=>h1 γ V W O' a λn hn=>(hag n hn).trans (hst n (hd1 f hf n hn)),h2,λhl p hp=>?_⟩
    have hul:=b1K hl
    rcases h3 hul p hp with⟨g,hg',t,o',e1,e2,e3,e4,e5⟩|⟨e1,e2⟩
    . rcases hMF g hg' with hgM|hgF
      . -- its value is there
        have hgl:=hlis _ (hM g hgM).2
        obtain⟨hglc,og,hog,hogd,_⟩:=h.inF g hg'
        have hgi:g.i≠i:=λe=>hi (e▸hglc)
        refine .inr ⟨?_,λt' ht' j w hw hwd=>?_⟩
        . have hx:(a.put o.dst v).eval p.1=a.tmps.getD t undef:=by
           rw[e1];exact slot t (hs.one i g.i o og t ho hog (Ne.symm hgi) (hogd.trans e2))
          rw[hx]
          exact move hf (λn hn=>h2 p hp n hn) (e5 _ _ _ (h.val g hg' hgl t e2))
        . rw[e1] at ht';cases ht'
          by_cases e:j=g.i
          . rw[e];exact .inl (Q2 hgl)
          . exact absurd (hogd.trans e2) (hs.one g.i j og w t hog hw (Ne.symm e) hwd)
      . exact .inl ⟨g,hgF,t,o',e1,e2,e3,e4,e5⟩
    . refine .inr ⟨?_,λt ht j w hw hwd=>(e2 t ht j w hw hwd).imp Q2 id⟩
      rw[ev p.1 λt ht hod=>?_]
      . exact move hf (λn hn=>h2 p hp n hn) e1
      . rcases e2 t ht i o ho hod with h6|h6|h6
        . rw[hil] at h6;cases h6
        . exact hne h6.symm
        . rw[hon h6] at hul;cases hul
 have hpan:NxP (a2f C γ V W st) (λd st2=>match a3i st.pins st2.pins with|true=>kp d ⟨st2.L,st2.O,st.pins⟩|false=>False) Q:=by
  intro γ' st2 V' a' W' v d hr2 hd hk
  split at hk
  . rename_i hc
    exact hp _ _ _ _ _ _ _ (b2A h.rel hr2 (a9N hc)) hd hk
  . exact hk.elim
 have key:=b3S (C:=a2f C γ V W st) (Q:=Q) (next:=K1) hT hin hv (λγ' st2 V' a' W' hr2 hk=>⟨γ',V',st2,hr2,hk⟩) hpan
 simp only[wpOpIn,ho]
 split at key
 . rename_i hw
   rw[if_pos hw]
   refine Oper.wpIn_mono (λa' W' hh=>?_) (c4E (K:=K1) key).2
   obtain⟨hh,v,e⟩:=hh;exact fin a' W' v hh e
 . rename_i hw
   rw[if_neg hw]
   exact⟨λ_ _=>trivial,fin _ _ undef key rfl⟩
theorem b9s:∀(n:Nat) (J:List Nat),J.Nodup->(∀j∈J,j<n)->J.length<=n:=by
 intro n
 induction n with
 | zero=>intro J _ h;cases J with
   |nil=>simp
   |cons j J=>exact absurd (h j (List.mem_cons_self ..)) (Nat.not_lt_zero _)
 | succ n ih=>
   intro J hJ h
   have h1:=ih (J.erase n) (hJ.erase n) λj hj=>by
    have h2:=h j (List.mem_of_mem_erase hj)
    have:j≠n:=λe=>by subst e;exact(List.Nodup.not_mem_erase hJ) hj
    omega
   have h2:J.length<=(J.erase n).length+1:=by
    rw[List.length_erase];split<;>omega
   omega
theorem b6O (hT:TOk P T)(hs:Static ops){kp:D->SSt->Prop}{k:SSt->Prop}(hp:NxP C kp Q)(hn:∀γ st V a W,Rel C γ st V a W->k st->Q .normal a W):∀(fuel:Nat) {r:List Stp} {γ:Gm} {V:Know} {a:Act} {W:World} {lc:List Nat} {l:Array Bool} {F:List Fl} {st:SSt},
 Inv P ops C γ V a W lc l F st->T7 ops r lc=true->vcD P T C.N cf ops kp r F st k->(∀J:List Nat,J.Nodup->(∀j∈J,l.getD j true=false)->J.length<=fuel)->wpAnyIn (fen C) 0 P .any ops Q fuel l a W:=by
 have last:∀{r:List Stp} {γ:Gm} {V:Know} {a:Act} {W:World} {lc:List Nat} {l:Array Bool} {F:List Fl} {st:SSt},
  Inv P ops C γ V a W lc l F st->T7 ops r lc=true->vcD P T C.N cf ops kp r F st k->Region.ready .any ops l=[]->Q .normal a W:=by
  intro r γ V a W lc l F st h hb hv hr
  obtain⟨r,lc,F,st,hne,hb,hv,h⟩:=adv hT hs r h hb hv
  have hall:=b7S hs h hr
  cases r with
  | nil=>
    have hv:a0Y F st.L λL=>k ⟨L,st.O,st.pins⟩:=hv
    rw[a9L] at hv
    refine hn γ _ V a W (Q9 h.rel (L':=D0 F st.L) (O':=st.O) (b0O h hall) (λn x hx=>⟨h.rel.own n x hx,x,hx⟩)) hv
  | cons s r=>
    cases s with
    |p i=>exact absurd rfl (hne i r)
    | s i anc=>
      simp only[T7,Bool.and_eq_true] at hb
      obtain⟨hi,o,ho,hoa⟩:=rdy_run.1 hb.1
      have hlt:i<l.size:=by rw[h.size];exact(Array.getElem?_eq_some_iff.1 ho).1
      have hil:l.getD i false=false:=by
       cases e:l.getD i false with
       |false=>rfl
       |true=>exact absurd (h.sub i e) hi
      have:i∈Region.ready .any ops l:=mem_ready.2 ⟨b1J hil hlt,o,ho,λe he hb=>by
       rcases h.cov e.on (hoa e he hb) with h3|⟨g,hg,hgi⟩
       . exact h3
       . rw[<-hgi];exact hall g hg⟩
      rw[hr] at this;cases this
 have less:∀{n i:Nat} {l:Array Bool},l.getD i true=false->(∀J:List Nat,J.Nodup->(∀j∈J,l.getD j true=false)->J.length<=n+1)->
  ∀J:List Nat,J.Nodup->(∀j∈J,(l.setIfInBounds i true).getD j true=false)->J.length<=n:=by
  intro n i l hi hb J hJ hj
  have hlt:=(a7F hi).2
  have hni:i∉J:=λhm=>by
   have:=hj i hm
   simp[hlt] at this
  have:=hb (i::J) (List.nodup_cons.2 ⟨hni,hJ⟩) λj hm=>by
   rcases List.mem_cons.1 hm with rfl|hm
   . exact hi
   . have h1:=hj j hm
     have hne:i≠j:=λe=>hni (e▸hm)
     rwa[getD_set_ne true hne] at h1
  simp only[List.length_cons] at this
  omega
 intro fuel
 induction fuel with
 | zero=>
   intro r γ V a W lc l F st h hb hv hf
   have hr:Region.ready .any ops l=[]:=by
    cases hr:Region.ready .any ops l with
    |nil=>rfl
    | cons i is=>
      have hi:i∈Region.ready .any ops l:=by rw[hr];exact List.mem_cons_self ..
      have:=hf [i] (List.nodup_cons.2 ⟨by simp,List.nodup_nil⟩) λj hj=>by
       obtain rfl:=List.mem_singleton.1 hj
       exact(mem_ready.1 hi).1
      simp at this
   exact⟨hr,last h hb hv hr⟩
 | succ n ih=>
   intro r γ V a W lc l F st h hb hv hf
   refine⟨λhr=>last h hb hv hr,λi hi=>?_⟩
   obtain⟨r,lc,F,st,hne,hb,hv,h⟩:=adv hT hs r h hb hv
   obtain⟨hun,o,ho,hrl⟩:=mem_ready.1 hi
   have hul:=(a7F hun).1
   have hlt:i<ops.size:=(Array.getElem?_eq_some_iff.1 ho).1
   have float:i∈lc->wpOpIn (fen C) 0 P ops Q i (wpAnyIn (fen C) 0 P .any ops Q n (l.setIfInBounds i true)) a W:=by
    intro hlc
    rcases h.cov i hlc with h1|⟨f,hf',rfl⟩
    . rw[hul] at h1;cases h1
    . obtain⟨v,V',W',hrun,h'⟩:=b1t hs h hf' hul λo' ho'=>by
       rw[ho] at ho';cases ho';exact hrl
      exact hrun _ _ (ih h' hb hv (less hun hf))
   cases r with
   | nil=>
     refine float (memB_mem.1 ?_)
     exact List.all_eq_true.1 hb i (List.mem_range.2 hlt)
   | cons s r=>
     cases s with
     |p j=>exact absurd rfl (hne j r)
     | s j anc=>
       by_cases hlc:i∈lc
       . exact float hlc
       . have hb':=hb
         simp only[T7,Bool.and_eq_true] at hb'
         obtain⟨hj,hall,hanc,hb2⟩:=hb'
         have hij:j=i:=by
          have h1:=List.all_eq_true.1 hall i (List.mem_range.2 hlt)
          rw[Bool.or_eq_true] at h1
          rcases h1 with h1|h1
          . exact(Nat.eq_of_beq_eq_true h1).symm
          . have:a1y ops lc i=true:=rdy_run.2 ⟨hlc,o,ho,λe he hb=>h.sub _ (hrl e he hb)⟩
            rw[this] at h1;cases h1
         subst hij
         obtain⟨_,o',ho',hoa⟩:=rdy_run.1 hj
         rw[ho] at ho';cases ho'
         exact c2n hT hs h ho hlc hoa hrl hanc hv hp λγ' V' a' W' F' st' h' hv'=>ih h' hb2 hv' (less hun hf)
theorem j9 (hT:TOk P T)(hm:P.follows .mixedOrders=true)(r:List Stp){id:Nat}{Q:y8}(hb:(b3k ops&&T7 ops r [])=true)
 (h:vcD P T C.N cf ops (λd st=>Q (.pan d) st) r [] st λst=>Q .nrm st):J P C (.region id ops true) Q st:=by
 simp only[Bool.and_eq_true] at hb
 refine⟨λγ V a W hr=>wpIn_region_any hm ?_⟩
 have hr':Rel C γ st V a {W with drawn:=W.drawn+1}:=U9 hr ⟨⟨rfl,rfl,rfl,Nat.le_refl _,λ_ _=>rfl⟩,Fresh.refl V _ _,⟨λb o v hc=>hr.sees.cell b o v hc,λr x hx=>hr.sees.obj r x hx,hr.sees.lib,hr.sees.keepRow λ_ _ _ _=>rfl⟩⟩
 refine b6O (C:=C) hT (c2f hb.1) (k:=λst=>Q .nrm st) (kp:=λd st=>Q (.pan d) st) (λγ' st' V' a' W' v d hr' hv hk=>⟨γ',st',V',v,d,rfl,hv,hr',hk⟩) (λγ st V a W hr hk=>⟨γ,st,V,hr,hk⟩) ops.size (r:=r) (γ:=γ) (V:=V) (lc:=[]) (F:=[]) (st:=st) ?_ hb.2 h ?_
 . have no:∀j,(Array.replicate ops.size false).getD j false=true->False:=λj hj=>by
    by_cases e:j<ops.size<;>simp[e] at hj
   exact⟨hr',by simp,λj hj=>(no j hj).elim,by simp,by simp,λj o hj=>(no j hj).elim,by simp,by simp,by simp,by simp,by simp,by simp,by simp⟩
 . intro J hJ hj
   refine b9s _ J hJ λj hm=>?_
   have:=(a7F (hj j hm)).2
   simpa using this
end
end Go.Proofs.YtaopegkpjhkooaaGreatDoor.Dx
