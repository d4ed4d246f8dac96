/- The. -/
import Derived.Test.YteillnfhkeebjaaGreatDoorWd
import Derived.Maps.AppendAt
import Derived.Lib.AppendStr
set_option linter.all false
namespace Go.Proofs.YteillnfhkeebjaaGreatDoor.Dx
open Go Go.RowKit
noncomputable def frz:Nat->List Nat->SSt->List Base->(SSt->List Base->Prop)->Prop
 |0,_,_,_,_=>False
 |_+1,[],st,bs,k=>k st bs
 | f +1,n::todo,st,bs,k=>match d7 n st.O with
   |none=>frz f todo st bs k
   | some (.sl s)=>match s.pub with
     |true=>frz f todo st bs k
     |false=>M0 n (.sl {s with pub:=true}) st.O λO'=>frz f todo {st with O:=O'} bs k
   |some (.mp l)=>a0d (D7 n (λ_=> .junk) (.mp l)) st.L λL'=>a0e n (D7 n (λ_=> .junk) (.mp l)) st.O λO'=>a3M (D7 n (λ_=> .junk) (.mp l)) bs λbs'=>frz f todo {st with L:=L',O:=O'} bs' k
   | some (.box cells _)=>match D8 st.O cells with
     |some ds=>a0d (D7 n (λoff=> .ptr ds off) .junk) st.L λL'=>a0e n (D7 n (λoff=> .ptr ds off) .junk) st.O λO'=>a3M (D7 n (λoff=> .ptr ds off) .junk) bs λbs'=>frz f todo {st with L:=L',O:=O'} bs' k
     |none=>frz f (cells.flatMap A7++n::todo) st bs k
   |some (.lp _ _ _ _)=>frz f todo st bs k
   |some (.pn _ _)=>frz f todo st bs k
noncomputable def a2v (st:SSt)(bs:List Base)(k:List D->SSt->Prop):Prop:=
 match D8 st.O bs with
 |some ds=>k ds st
 | none=>frz 60 (bs.flatMap A7) st bs λst' bs'=>match D8 st'.O bs' with
   |some ds=>k ds st'
   |none=>False
def b3k (op:Op):Bool:=
 match op with
 | .binOp .. =>true| .unOp .. =>true| .convert .. =>true| .makeInterface .. =>true| .extract .. =>true| .field .. =>true| .build .. =>true| .typeAssert .. =>true| .index .. =>true
 | .buildSlice .. =>true
 |_=>false
def c9V (b:Base):List Nat:=match b with| .own n=>[n]|_=>[]
noncomputable def vcP (T:List (Nat×TI))(cf:Cfg)(op:Op)(dst:Option Nat)(bs:List Base)(st:SSt)(k:SSt->Prop):Prop:=
 match b3k op with
 | true=>match D8 st.O bs with
   |some _=>vcV T cf st.O op bs λb=>k (put st dst b)
   |none=>frz 60 (bs.flatMap A7) st bs λst bs=>vcV T cf st.O op bs λb=>k (put st dst b)
 | false=>match op with
   | .makeFunc _ _ _=>match(match a2Y st.O bs with|some _=>true|none=>false) with
     |true=>vcV T cf st.O op bs λb=>k (put st dst b)
     |false=>frz 60 (bs.flatMap c9V) st bs λst bs=>vcV T cf st.O op bs λb=>k (put st dst b)
   |_=>vcV T cf st.O op bs λb=>k (put st dst b)
noncomputable def a4w (O:List (Nat×Blk))(b:Base):Option (List Base):=
 match b with
 | .d (.bl b)=>some [.d (.bl b)]
 | .d d=>match a5X d with
   |some cs=>some (cs.map .d)
   |none=>none
 | .junk=>none
 | .own n=>match d7 n O with
   |some _=>some [.own n]
   |none=>none
 | .ag p n q=>match d7 n O with
   |some _=>some (p.map .d++ .own n::q.map .d)
   |none=>none
 | .agl cs=>some (cs.map c3V)
 |b=>some [b]
noncomputable def c1w (v:Value):Option Base:=
 match v with
 | .bool b=>some (.d (.bl b))
 | .slice none n c=>match n,c with|0,0=>some (.full [])|_,_=>none
 | .nilFunc=>some .junk
 | v=>match a6m v with
   |some d=>some (.d d)
   |none=>none
noncomputable def b1o:List Value->Option (List Base)
 |[]=>some []
 | v ::vs=>match c1w v with
   | some b=>match b1o vs with
     |some bs=>some (b::bs)
     |none=>none
   |none=>none
noncomputable def a0g (nm:List (Nat×Nat))(d:Nat):Nat:=match d7 d nm with|some r=>r|none=>d
noncomputable def a4V (nm:List (Nat×Nat))(st:SSt)(d:Option Nat)(ty:TypeId)(cells:List Base)(k:SSt->Prop):Prop:=
 match d with
 |none=>False
 | some d=>match F9 (a0g nm d) st&& !cells.any (F6 (a0g nm d)) with
   |false=>False
   |true=>k (put {st with O:=(a0g nm d, .box cells ty)::st.O} (some d) (.loc (a0g nm d) 0))
noncomputable def a0J (nm:List (Nat×Nat))(st:SSt)(d:Option Nat)(x:Blk)(k:SSt->Prop):Prop:=
 match d with
 |none=>False
 | some d=>match F9 (a0g nm d) st with
   |false=>False
   |true=>k (put {st with O:=(a0g nm d,x)::st.O} (some d) (.own (a0g nm d)))
noncomputable def a8E (st:SSt)(ti:TI)(n m i r:Nat)(s:OwnS)(x:Base)(k:SSt->Prop):Prop:=
 match a0n st.O x with
 |none=>False
 | some d=>match a5X d with
   |none=>False
   | some cs=>match Nat.beq cs.length ti.size with
     |false=>False
     |true=>∃ds,(s.xs[i]?=some ds/\s.k=m/\r+ti.size<=ds.length)/\M0 n (.sl {s with xs:=s.xs.set i (setRun ds r cs)}) st.O λO'=>k {st with O:=O'}
def a7I (n:Nat):List (Nat×Blk)->(List (Nat×Blk)->Prop)->Prop
 |[],k=>k []
 | (t,b)::l,k=>a7I n l λl'=>match Nat.beq t n with
   |true=>k l'
   |false=>k ((t,b)::l')
noncomputable def b0X (st:SSt)(ti:TI)(n m i r q:Nat)(s:OwnS)(k:SSt->Prop):Prop:=
 match d7 q st.O with
 | some (.sl _)=>match Nat.beq ti.size 1 with
   | true=>∃ds,(s.xs[i]?=some ds/\s.k=m/\r+1<=ds.length)/\∀g:Nat->Value×Option Nat,M0 n (.sl {s with xs:=s.xs.set i (setRun ds r [.raw (g q).1])}) st.O λO'=>
     a7I (q+5000) O' λO'=>match F9 (q+5000) {st with O:=O'} with
      |true=>k {st with O:=(q+5000, .pn g [q])::O'}
      |false=>False
   |false=>False
 |_=>False
noncomputable def b4X (T:List (Nat×TI))(cf:Cfg)(st:SSt)(ty:TypeId)(ad x:Base)(k:SSt->Prop):Prop:=
 match d7 ty T with
 |none=>False
 | some ti => match ad with
   | .loc n off=>match d7 n st.O with
     | some (.box cells bty)=>match a4w st.O x with
       |none=>False
       | some cs=>match Nat.beq cs.length ti.size with
         |false=>False
         | true=>match w6 n cf.sym with
           | true=>match cs with
             |[b]=>off<cells.length/\M0 n (.box (cells.set off b) bty) st.O λO'=>k {st with O:=O'}
             |cs=>off+cs.length<=cells.length/\M0 n (.box (setRun cells off cs) bty) st.O λO'=>k {st with O:=O'}
           | false=>match Nat.ble (off+ti.size) cells.length with
             |true=>a2z (setRun cells off cs) λcells=>M0 n (.box cells bty) st.O λO'=>k {st with O:=O'}
             |false=>False
     |_=>False
   | .oel n m i r=>match d7 n st.O with
     | some (.sl s)=>match s.pub with
       |true=>False
       | false =>match d7 n cf.raws with
         |none=>a8E st ti n m i r s x k
         | some q=>match x with
           | .own q'=>match Nat.beq q' q with
             |true=>b0X st ti n m i r q s k
             |false=>a8E st ti n m i r s x k
           | .full []=>match ti.desc with
             | .slice e=>match d7 e T with
               | some te=>match Nat.beq n q,F9 q st with
                 |false,true=>b0X {st with O:=(q, .sl ⟨e,te.size,[],false⟩)::st.O} ti n m i r q s k
                 |_,_=>False
               |none=>False
             |_=>False
           |x=>a8E st ti n m i r s x k
     |_=>False
   |_=>False
noncomputable def b4k (T:List (Nat×TI))(O:List (Nat×Blk))(size:Nat)(tx:TypeId)(xb:Base)(k:List (List D)->Prop):Prop:=
 match d7 tx T with
 |none=>False
 | some ti=>match ti.desc with
   | .slice _=>match Y6 O xb with
     |some ys=>(∀ds∈ys,ds.length=size)/\k ys
     | none=>match xb with
       | .own n=>match d7 n O with
         |some (.sl s)=>s.k=size/\k s.xs
         |_=>False
       |_=>False
   | .string=>match xb,size with
     | .d (.str l),1=>k (l.map λb=>[.v (.int .u8 (b.toNat:Int))])
     |_,_=>False
   |_=>False
def c7B (n:Nat)(b:Base):Bool:=match b with| .own m=>Nat.beq m n|_=>false
noncomputable def b4F (T:List (Nat×TI))(cf:Cfg)(st:SSt)(dst:Option Nat)(ts tx:TypeId)(s x:Base)(k:SSt->Prop):Prop:=
 match d7 ts T with
 |none=>False
 | some tis => match tis.desc with
   | .slice e =>match d7 e T with
     |none=>False
     | some te =>match Nat.blt 0 te.size with
       |false=>False
       | true =>b4k T st.O te.size tx x λys=>match s with
         | .own r=>match d7 r st.O with
           | some (.sl os)=>match Nat.beq os.k te.size&&(Nat.beq os.e e&&(!w6 r st.pins&& !c7B r x)) with
             |false=>False
             | true=>(os.xs.length<=maxLen->ys.length<=maxLen->os.xs.length+ys.length<=4611686018427387904/\(os.xs.length+ys.length)*te.bytes<=140737488355328)/\
                a0d (a0a r) st.L λL'=>a0e r (a0a r) st.O λO'=>k (put {st with L:=L',O:=(r, .sl ⟨e,te.size,os.xs++ys,os.pub⟩)::O'} dst (.own r))
           |_=>False
         | .full xs=>((xs.length<=maxLen->ys.length<=maxLen->xs.length+ys.length<=4611686018427387904/\(xs.length+ys.length)*te.bytes<=140737488355328)/\∀ds∈xs,ds.length=te.size)/\
            match(match dst with|some d=>w6 d cf.priv|none=>false) with
            |false=>a0J cf.nm st dst (.sl ⟨e,te.size,xs++ys,true⟩) k
            |true=>ys≠[]/\a0J cf.nm st dst (.sl ⟨e,te.size,xs++ys,false⟩) k
         |_=>False
   |_=>False
noncomputable def b1l (T:List (Nat×TI))(st:SSt)(t:TypeId)(mb kx x:Base)(k:SSt->Prop):Prop:=
 match d7 t T with
 |none=>False
 | some ti=>match ti.desc with
   | .map kt _=>match d7 kt T with
     |none=>False
     | some tk=>match a0n st.O kx,a0n st.O x,mb with
       | some kd,some xd, .own n=>match d7 n st.O with
         |some (.mp l)=>(tk.key kd/\∀p∈l,tk.key p.1)/\M0 n (.mp (H5 l kd xd)) st.O λO'=>k {st with O:=O'}
         |_=>False
       |_,_,_=>False
   |_=>False
section
variable {P:Program} {T:List (Nat×TI)} {cf:Cfg} {C:Cx} {γ:Gm} {st:SSt} {V:Know} {a:Act} {W:World} {k:SSt->Prop}
theorem b2B :∀(f:Nat) {names:List Nat} {st:SSt} {V:Know} {bs:List Base} {xs:List Value} {k:SSt->List Base->Prop},Rel C γ st V a W->Vals γ V bs xs->frz f names st bs k->
 ∃st' bs' V',k st' bs'/\Rel C γ st' V' a W/\Vals γ V' bs' xs/\V.Le V':=by
 intro f;induction f with
 |zero=>intro names st V bs xs k _ _ h;exact h.elim
 | succ f ih=>
   intro names st V bs xs k hr hx h;cases names with
   |nil=>exact⟨st,bs,V,h,hr,hx, .refl V⟩
   | cons n todo=>
     simp only[frz] at h;split at h
     . exact ih hr hx h
     . rename_i s hs;split at h
       . exact ih hr hx h
       . obtain⟨O',V',h,hr',hle⟩:=d1e hr hs h;obtain⟨st',bs',V'',h1,h2,h3,h4⟩:=ih hr' (hx.mono hle) h;exact⟨st',bs',V'',h1,h2,h3,hle.trans h4⟩
     . rename_i l hl;obtain⟨st1,V',h,hr',hle,hsub⟩:=d1d hr hl (k:=λst1=>a3M (D7 n (λ_=> .junk) (.mp l)) bs λbs'=>frz f todo st1 bs' k) h;have h:=b3d h;obtain ⟨st',bs',V'',h1,h2,h3,h4⟩:=ih hr' (bs:=bs.map (D7 n (λ_=> .junk) (.mp l))) (xs:=xs) ⟨by simp[hx.len],λi b y hb hy=>by
        simp only[z7] at hb;cases hl:bs[i]? with
        |none=>simp[hl] at hb
        | some b0=>
          simp only[hl,G9,H0] at hb;subst hb;exact hsub _ _ (hx.get i b0 y hl hy)⟩ h
       exact⟨st',bs',V'',h1,h2,h3,hle.trans h4⟩
     . rename_i cells ty hc;split at h
       . rename_i ds hds;obtain⟨st1,V',h,hr',hle,hsub⟩:=d1c hr hc hds (k:=λst1=>a3M (D7 n (λoff=> .ptr ds off) .junk) bs λbs'=>frz f todo st1 bs' k) h;have h:=b3d h;obtain ⟨st',bs',V'',h1,h2,h3,h4⟩:=ih hr' (bs:=bs.map (D7 n (λoff=> .ptr ds off) .junk)) (xs:=xs) ⟨by simp[hx.len],λi b y hb hy=>by
          simp only[z7] at hb;cases hl:bs[i]? with
          |none=>simp[hl] at hb
          | some b0=>
            simp only[hl,G9,H0] at hb;subst hb;exact hsub _ _ (hx.get i b0 y hl hy)⟩ h
         exact⟨st',bs',V'',h1,h2,h3,hle.trans h4⟩
       . exact ih hr hx h
     . exact ih hr hx h
     . exact ih hr hx h
theorem a5Y (hr:Rel C γ st V a W){bs:List Base}{xs:List Value}(hx:Vals γ V bs xs){k:List D->SSt->Prop}(h:a2v st bs k):
 ∃ds st' V',k ds st'/\Rel C γ st' V' a W/\Reps V' xs ds/\V.Le V':=by
 unfold a2v at h;split at h
 . rename_i ds hds;exact⟨ds,st,V,h,hr,a3X hr.own hds hx, .refl V⟩
 . obtain ⟨st',bs',V',h,hr',hx',hle⟩:=b2B 60 hr hx h;split at h
   . rename_i ds hds;exact⟨ds,st',V',h,hr',a3X hr'.own hds hx',hle⟩
   . exact h.elim
theorem b1m (hT:TOk P T)(hr:Rel C γ st V a W){o:Oper}{bs:List Base}(hx:Vals γ V bs (o.op.operands.toList.map a.eval))(hd:∀t,o.dst=some t->t<C.N)(h:vcV T cf st.O o.op bs λb=>k (put st o.dst b)):
 ∃v V' W' st',(execOp a.eval o).run P W= .ok (.value v) W'/\k st'/\Rel C γ st' V' (a.put o.dst v) W':=by
 obtain⟨b,hk,hg⟩:=c1p hT ⟨γ,V,W,_,hr.sees,hr.own,hx⟩ h;obtain⟨v,V',W',hrun,hgr,hv⟩:=hg γ V W st.O _ (λ_ _=>rfl) hr.sees hr.own hx o a.eval rfl rfl;exact⟨v,V',W',_,hrun,hk,L9 (a1S hr hgr) hd hv⟩
theorem d4T (hT:TOk P T)(hr:Rel C γ st V a W){o:Oper}{bs:List Base}(hx:Vals γ V bs (o.op.operands.toList.map a.eval))(hd:∀t,o.dst=some t->t<C.N)(h:vcP T cf o.op o.dst bs st k):
 ∃v V' W' st',(execOp a.eval o).run P W= .ok (.value v) W'/\k st'/\Rel C γ st' V' (a.put o.dst v) W':=by
 have fz:∀{names:List Nat},frz 60 names st bs (λst bs=>vcV T cf st.O o.op bs λb=>k (put st o.dst b))->∃v V' W' st',(execOp a.eval o).run P W= .ok (.value v) W'/\k st'/\Rel C γ st' V' (a.put o.dst v) W':=by
  intro names h;obtain⟨st',bs',V',h,hr',hx',hle⟩:=b2B 60 hr hx h;exact b1m hT hr' hx' hd h
 unfold vcP at h;split at h
 . split at h
   . exact b1m hT hr hx hd h
   . exact fz h
 . split at h
   . split at h
     . exact b1m hT hr hx hd h
     . exact fz h
   . exact b1m hT hr hx hd h
theorem b9O (hr:Rel C γ st V a W){W':World}{row:Option Nat}(hg:W.grownBy W' row)
 (hdf:MarksOk C.m0 C.dfr a W') (hrow:∀g,row=some g->Okb C g/\(∀o u,V.cell g o=some u->W'.cell? ⟨g,o,none⟩=some u/\W'.shape? g=W.shape? g)/\∀x,V.obj g=some x->W'.heap[g]?=some x) {O':List (Nat×Blk)}
 (hO:∀m x,d7 m O'=some x->(BlkOk γ V W' (γ m) x/\∃y,d7 m st.O=some y)\/(d7 m st.O=some x/\∀g,row=some g->(γ m).2≠some g)):Rel C γ {st with O:=O'} V a W':=by
 have hk:∀k,k<W.heap.size->row≠some k->W'.heap[k]?=W.heap[k]?:=λk h1 h2=>hg.block k h1 (λe=>h2 e.symm);have ex:∀{m x},d7 m O'=some x->∃y,d7 m st.O=some y:=by
  intro m x hx;rcases hO m x hx with⟨_,h⟩|⟨h,_⟩
  . exact h
  . exact⟨x,h⟩
 refine {hr with defers:=hdf,own:=?_,okb:=?_,inj:=?_,sees:=?_,below:=?_,bsize:=H8 hr.bsize hg.size}
 . intro m x hx;rcases hO m x hx with⟨h,_⟩|⟨h,hne⟩
   . exact h
   . have hb:=hr.own m x h;exact hb.keep (.refl V) (λq hq=>hk q (I2 hb hq) (λe=>hne q e hq)) (λ_ _ _ _ h=>h) (λ_ _ _ h=>h)
 . intro m x hx;obtain⟨y,hy⟩:=ex hx;exact hr.okb m y hy
 . intro m m' x x' hx hx' hne;obtain⟨y,hy⟩:=ex hx;obtain⟨y',hy'⟩:=ex hx';exact hr.inj m m' y y' hy hy' hne
 . refine ⟨λb o v hc=>?_,λr x hx=>?_,hr.sees.lib,hr.sees.row.keep hr.sees.lib λb o v hc=>?_⟩
   . have hlt:=hr.sees.lt hc;have h0:=hr.sees.cell b o v hc;by_cases e:row=some b
     . exact((hrow b e).2.1 o v hc).1
     . have:=hk b hlt e;simp only[World.cell?,this] at h0⊢;exact h0
   . have h0:=hr.sees.obj r x hx;by_cases e:row=some r
     . exact⟨(hrow r e).2.2 x hx,h0.2⟩
     . exact⟨by rw[hk r (R0 h0.1) e];exact h0.1,h0.2⟩
   . by_cases e:row=some b
     . exact((hrow b e).2.1 o v hc).2
     . simp only[World.shape?,hk b (hr.sees.lt hc) e]
 . refine hr.below.trans ⟨hg.os,hg.tape,hg.output,hg.size,λq hq hn=>hk q (a7n hq hr.bsize) (λe=>?_)⟩;rcases(hrow q e).1 with h|h
   . exact hn h
   . omega
theorem a8w (hr:Rel C γ st V a W){W':World}{row:Option Nat}(hg:W.grownBy W' row)
 (hdf:∀g,row=some g->W.heap[g]?≠some (.deferred (some []))) (hrow:∀g,row=some g->Okb C g/\(∀o u,V.cell g o=some u->W'.cell? ⟨g,o,none⟩=some u/\W'.shape? g=W.shape? g)/\∀x,V.obj g=some x->W'.heap[g]?=some x) {O':List (Nat×Blk)}
 (hO:∀m x,d7 m O'=some x->(BlkOk γ V W' (γ m) x/\∃y,d7 m st.O=some y)\/(d7 m st.O=some x/\∀g,row=some g->(γ m).2≠some g)):Rel C γ {st with O:=O'} V a W':=
 b9O hr hg (hr.defers.keep rfl λk h=>(hg.block k (R0 h) λe=>hdf k e.symm h).trans h) hrow hO
theorem b0Q (W:World)(g:Nat)(cs:Array Value):W.grownBy (W.setRow g cs) (some g):=
 ⟨rfl,rfl,rfl,by simp,λk _ hk=>setRow_other W g k cs (λe=>hk (by rw[e]))⟩
theorem c0j (cs vs:List Value)(off:Nat)(h:off+vs.length<=cs.length):setRun cs off vs=cs.take off++vs++cs.drop (off+vs.length):=by
 apply O0;intro j;rw[Q2 _ _ _ _ h];by_cases h1:off<=j/\j<off+vs.length
 . rw[d4 h1,n9,X0 (by simp;omega),Q4 (by simp;omega)];congr 1
   simp;omega
 . rw [c8 h1];by_cases h2:j<off
   . rw[n9,Q4 (by simp;omega),X1,d4 h2]
   . rw[X0 (by simp;omega),a5C];congr 1
     simp;omega
theorem c0C (hT:TOk P T){ty:TypeId}{ti:TI}(ht:d7 ty T=some ti){g o:Nat}{cur:Array Value}{e:TypeId}{v:Value}
 (hg:W.heap[g]?=some (.cells cur e (0,0))) (hl:(cellsL v).length=ti.size) (h1:∀u∈cellsL v,u.oneCell'=true) (hle:o+ti.size<=cur.size):
 (storeVar ty ⟨g,o,none⟩ v).run P W= .ok () (W.setRow g (setRun cur.toList o (cellsL v)).toArray):=by
 have hs:v.cells.size=ti.size:=by rw[<-hl,<-cellsL_eq];simp
 have:=run_storeCells_at (P:=P) g o e (cellsL v) 0 cur W hg (by rw[hl];omega) h1;simp only[a3m] at this;simp only[storeVar,r4,hT.sizeOf ht W,r8,hs,ne_eq,not_true_eq_false,if_false,cellsL_eq,this];rw[c0j _ _ _ (by rw[hl];simpa using hle)]
theorem b1Y {b:Base}{cs:List Base}{x:Value}(h:a4w st.O b=some cs)(ho:A2 γ V W st.O)(hx:RVb γ V b x):All2 (RVb γ V) cs (cellsL x)/\∀u∈cellsL x,u.oneCell'=true:=by
 have one:∀{b':Base},x.oneCell'=true->RVb γ V b' x->cs=[b']->All2 (RVb γ V) cs (cellsL x)/\∀u∈cellsL x,u.oneCell'=true:=by
  intro b' h1 h2 h3;subst h3;rw[b1Z h1];exact⟨.cons h2 .nil,by simpa using h1⟩
 unfold a4w at h;split at h
 . cases h;have:=Rep.bl_b hx;subst this;exact one rfl hx rfl
 . split at h
   . rename_i d hne ds hds;cases h;obtain⟨h1,h2⟩:=a9J hds hx;refine⟨⟨by simp[h1.len],λi b u hb hu=>?_⟩,h2⟩;simp only[z7] at hb;cases hl:ds[i]? with
     |none=>simp[hl] at hb
     | some d0=>
       simp only[hl,G9,H0] at hb;subst hb;exact h1.get i u d0 hu hl
   . cases h
 . cases h
 . rename_i n;split at h
   case h_2=>cases h
   rename_i y hy;cases h;have hb:=ho n y hy;refine one ?_ hx rfl;rw[show x=(γ n).1 from hx];cases y with
   |box cells ty=>obtain⟨_,_,e,_⟩:=hb;rw[e];rfl
   | sl s=>
     rcases hb with⟨_,_,_,_,e,_⟩|⟨_,_,_,_,_,_,e⟩
     . rw[e];rfl
     . rw[e];rfl
   |mp l=>obtain⟨_,_,_,e,_⟩:=hb;rw[e];rfl
   |lp r g V0 pn=>obtain⟨⟨_,e,_⟩,_⟩:=hb;rw[e];rfl
   |pn g ns=>rw[hb.1];rfl
 . rename_i p n q;split at h
   case h_2=>cases h
   cases h;obtain⟨us,ws,rfl,h1,h2,h3⟩:=hx;refine⟨?_,h3⟩;have lift:∀{us:List Value} {p:List D},Reps V us p->All2 (RVb γ V) (p.map .d) us:=λh=>⟨by simp[h.len],λi b u hb hu=>by
    simp only[z7] at hb;cases hl:(_:List D)[i]? with
    |none=>rw[hl] at hb;cases hb
    |some d0=>rw[hl] at hb;cases hb;exact h.get i u d0 hu hl⟩
   exact(lift h1).append (.cons rfl (lift h2))
 . cases h;obtain⟨us,rfl,h1,h3⟩:=hx;refine⟨⟨(o9 ..).trans h1.len,λi b u hb hu=>?_⟩,h3⟩;simp only[z7] at hb;rename_i cs0;cases hl:cs0[i]? with
   |none=>rw[hl] at hb;cases hb
   | some c0=>
     rw[hl] at hb;cases hb;have:=h1.get i c0 u hl hu;cases c0 with
     |loc n o=>exact this
     |dat d=>exact this
 . rename_i h1 hnd hnj hno hna hnl;cases h;cases b with
   |d d=>exact absurd rfl (hnd d)
   |ag p n q=>exact absurd rfl (hna p n q)
   |agl cs=>exact absurd rfl (hnl cs)
   |junk=>exact absurd rfl hnj
   |own n=>exact absurd rfl (hno n)
   |full xs=>obtain⟨_,_,rfl⟩:=hx.2;exact one rfl hx rfl
   |loc n off=>obtain⟨_,_,rfl⟩:=id hx;exact one rfl hx rfl
   |oel n k i r=>obtain⟨_,_,_,_,rfl⟩:=id hx;exact one rfl hx rfl
   |win n k i r=>obtain⟨_,_,_,_,rfl⟩:=id hx;exact one rfl hx rfl
   |fn F fs cs=>obtain⟨_,_,rfl,_⟩:=id hx;exact one rfl hx rfl
theorem All2.setRun {R:Base->Value->Prop}{bs cs:List Base}{xs us:List Value}(h:All2 R bs xs)(k:All2 R cs us){off:Nat}(hf:off+cs.length<=bs.length):All2 R (Dx.setRun bs off cs) (Dx.setRun xs off us):=by
 refine⟨by simp[a1V,h.len],λi u d h1 h2=>?_⟩;rw[Q2 _ _ _ _ hf] at h1;rw[Q2 _ _ _ _ (by rw[<-k.len,<-h.len];exact hf),<-k.len] at h2;split at h1
 . rename_i hc;rw[d4 hc] at h2;exact k.get _ u d h1 h2
 . rename_i hc;rw[c8 hc] at h2;exact h.get i u d h1 h2
theorem c6I {k:Nat}:∀{xs:List (List D)},(∀ds∈xs,ds.length=k)->∀{i:Nat} {ds es:List D},xs[i]?=some ds->es.length=k->(xs.set i es).flatten=setRun xs.flatten (i*k) es:=by
 intro xs hk i ds es hi he;have hil:i<xs.length:=by
  rcases C5 i xs.length with h|h
  . exact h
  . rw[z6 h] at hi;cases hi
 have hk':∀z∈xs.set i es,z.length=k:=by
  intro z hz;rcases List.mem_or_eq_of_mem_set hz with hz|rfl
  . exact hk z hz
  . exact he
 have hl1:=a3H hk;have hl2:=a3H hk';rw[List.length_set] at hl2;have hin:i*k+k<=xs.flatten.length:=by rw[hl1,<-a3o];exact a3n _ hil
 apply O0;intro j;rw[Q2 _ _ _ _ (by rw[he];exact hin),he];rcases C5 j (xs.length*k) with hj|hj
 . have hkpos:0<k:=by
    rcases Nat.eq_zero_or_pos k with rfl|h
    . simp at hj
    . exact h
   have hq:j/k<xs.length:=Nat.div_lt_of_lt_mul (by rw[Nat.mul_comm];exact hj);have hjd:j/k*k+j%k=j:=by rw[Nat.mul_comm];exact Nat.div_add_mod j k
   have hm:j%k<k:=Nat.mod_lt _ hkpos;have get1:∀{ys:List (List D)} (hy:∀z∈ys,z.length=k) (hlt:j/k<ys.length),ys.flatten[j]?=(ys[j/k])[j%k]?:=by
    intro ys hy hlt;have hlen:(ys[j/k]).length=k:=hy _ (q7 hlt);have:=a4I hy (i:=j/k) (j:=j%k) (t6 hlt) (t6 (by rw[hlen];exact hm));rw[hjd] at this;rw[this,t6 (by rw[hlen];exact hm)]
   rw[get1 hk' (by rw[List.length_set];exact hq),get1 hk hq];by_cases hji:j/k=i
   . subst hji;rw[List.getElem_set_self,d4 ⟨by omega,by omega⟩];congr 1
     omega
   . rw[List.getElem_set_ne (Ne.symm hji),c8];intro ⟨h1,h2⟩;apply hji;have:j/k=i:=by
      rw[Nat.div_eq_iff hkpos];omega
     exact this
 . rw[z6 (by omega),c8 (by omega),z6 (by omega)]
theorem c0z {ty:TypeId}{p v:Value}{ad:Addr}{W W':World}(hp:p= .pointer (some ad))(h:(storeVar ty ad v).run P W= .ok () W'):(Instr.storeAt ty p v).run P W= .ok () W':=by
 subst hp;exact(r4 P W _ _).trans h
theorem c0A (hT:TOk P T)(hr:Rel C γ st V a W){ty:TypeId}{ti:TI}(hti:d7 ty T=some ti){n i r:Nat}{s:OwnS}{av xv:Value}(hs:d7 n st.O=some (.sl s))(hp:s.pub=false)(ha:RVb γ V (.oel n s.k i r) av)
 {cs:List D} (hc1:Reps V (cellsL xv) cs) (hc2:∀u∈cellsL xv,u.oneCell'=true) (hlen:cs.length=ti.size) {ds:List D} (hds:s.xs[i]?=some ds) (hrl:r+ti.size<=ds.length)
 {k:SSt->Prop} (h:M0 n (.sl {s with xs:=s.xs.set i (setRun ds r cs)}) st.O λO'=>k {st with O:=O'}):
 ∃st' W',(Instr.storeAt ty av xv).run P W= .ok () W'/\Rel C γ st' V a W'/\k st':=by
 obtain⟨O',h,hO⟩:=a1U h;obtain⟨blk,n',c,hg',rfl⟩:=ha;rcases hr.own n _ hs with⟨g,n'',c'',vals,hv,hown,hk,hvr,h1,hnone⟩|⟨hp',_⟩
 case inr=>
  rcases hp' with hp'|hp'
  . rw[hp] at hp';cases hp'
  . rw[hp'] at hds;simp at hds
 rw[hp] at hnone;rw[hv] at hg';obtain⟨rfl,rfl,rfl⟩:g=blk/\n''=n'/\c''=c:=by simpa using hg'
 rw[hv] at hown;obtain⟨cur,hnn,hh,hnc,hcm,hcs',htake,hvl⟩:=Q0 hown;have hdl:=hk ds (M6 hds);have hil:i<s.xs.length:=by
  rcases C5 i s.xs.length with h|h
  . exact h
  . rw[z6 h] at hds;cases hds
 have hin:i*s.k+s.k<=s.xs.length*s.k:=by rw[<-a3o];exact a3n _ hil
 have hcap:s.xs.length*s.k<=c''*s.k:=a3n _ hnc;have hxl:(cellsL xv).length=ti.size:=by rw[hc1.len,hlen]
 have hrun:=c0C hT hti (o:=i*s.k+r) hh hxl hc2 (by omega);refine⟨_,_,c0z rfl hrun,a8w hr (b0Q W g _) (λ_ e h=>by cases e;rw[hh] at h;cases h) (λg' hg2=>?_) (λm y hy=>?_),h⟩
 . cases hg2;refine⟨hr.okb n _ hs g (by rw[hv]),λo u hu=>(by rw[hnone] at hu;cases hu),λy hy=>?_⟩;have:=hr.sees.obj g y hy;rw[hh] at this;obtain⟨_,_,e⟩:=this.2;rw[e] at this;cases this.1
 . rcases hO m y hy with⟨rfl,rfl,_⟩|⟨hne,hl⟩
   . have hsetl:(setRun ds r cs).length=s.k:=by rw[a1V,hdl]
     have hflat:(s.xs.set i (setRun ds r cs)).flatten=setRun s.xs.flatten (i*s.k+r) cs:=by
      rw[c6I hk hds hsetl];have hl1:=a3H hk;apply O0;intro j;rw[Q2 _ _ _ _ (by rw[hsetl];omega),Q2 cs s.xs.flatten (i*s.k+r) j (by omega),hsetl];by_cases hj:i*s.k<=j/\j<i*s.k+s.k
      . rw [d4 hj,Q2 _ _ _ _ (by omega)];by_cases hj2:r<=j-i*s.k/\j-i*s.k<r+cs.length
        . rw[d4 hj2,d4 (by omega)];congr 1
          omega
        . rw[c8 hj2,c8 (by omega)];have hjl:j-i*s.k<ds.length:=by omega
          have:=a4I hk (i:=i) (j:=j-i*s.k) hds (t6 hjl);rw[show i*s.k+(j-i*s.k)=j from by omega] at this;rw[this,t6 hjl]
      . rw[c8 hj,c8 (by omega)]
     refine .inl ⟨.inl ⟨g,n'',c'',setRun vals (i*s.k+r) (cellsL xv),hv,?_,?_,?_,?_,by simp only[hp];exact hnone⟩,_,hs⟩
     . rw [hv];simp only[List.length_set];refine⟨by rw[a1V,hvl], .inr ⟨g,c'',_,by rw[hnn],F4 _,setRow_heap W g cur _ s.e _ hh,hnc,hcm,by simp[a1V,hcs'],?_⟩⟩;simp only;apply O0;intro j;rw[X1];have hcl:i*s.k+r+(cellsL xv).length<=cur.toList.length:=by
        have:=a3c (xs:=cur);omega
       by_cases hj:j<s.xs.length*s.k
       . rw[d4 hj,Q2 _ _ _ _ hcl,Q2 _ _ _ _ (by omega)];split
         . rfl
         . rw[<-htake,X1,d4 hj]
       . rw[c8 hj,z6 (by rw[a1V,hvl];omega)]
     . intro z hz;rcases List.mem_or_eq_of_mem_set hz with hz|rfl
       . exact hk z hz
       . exact hsetl
     . rw[hflat];exact hvr.setRun hc1 (by rw[hvl];omega)
     . exact a5d h1 hc2
   . exact .inr ⟨hl,λg' hg2 hg3=>by cases hg2;exact hr.inj m n y _ hl hs hne g hg3 (by rw[hv])⟩
theorem c5o {n:Nat}:∀{l:List (Nat×Blk)} {k:List (Nat×Blk)->Prop},a7I n l k->∃l',k l'/\∀t b,d7 t l'=some b->t≠n/\d7 t l=some b:=by
 intro l;induction l with
 |nil=>intro k h;exact⟨[],h,λt b h=>by rw[r7] at h;cases h⟩
 | cons p l ih=>
   obtain⟨d,y⟩:=p;intro k h;simp only[a7I] at h;obtain⟨l',h,hl⟩:=ih h;split at h
   . rename_i hdn;have hdn:=t7 hdn;refine⟨_,h,λt b hb=>?_⟩;obtain⟨h1,h2⟩:=hl t b hb;exact⟨h1,by rw[p5 (λe=>h1 (e.symm.trans hdn))];exact h2⟩
   . rename_i hdn;have hdn:=a3y hdn;refine⟨_,h,λt b hb=>?_⟩;by_cases e:d=t
     . subst e;rw[w9] at hb⊢;exact⟨hdn,hb⟩
     . rw[p5 e] at hb⊢;exact hl t b hb
theorem c0B (hT:TOk P T)(hr:Rel C γ st V a W){ty:TypeId}{ti:TI}(hti:d7 ty T=some ti){n m i r q:Nat}{s:OwnS}{av xv:Value}(hs:d7 n st.O=some (.sl s))(hp:s.pub=false)(ha:RVb γ V (.oel n m i r) av)(hx:RVb γ V (.own q) xv)
 {k:SSt->Prop} (h:b0X st ti n m i r q s k):∃γ' st' W',(Instr.storeAt ty av xv).run P W= .ok () W'/\Rel C γ' st' V a W'/\k st':=by
 unfold b0X at h;split at h
 case h_2=>exact h.elim
 rename_i t ht;split at h
 case h_2=>exact h.elim
 rename_i h1;have h1:=t7 h1;obtain⟨ds,⟨hds,rfl,hrl⟩,h⟩:=h;have hxv:xv=(γ q).1:=hx;have hone:xv.oneCell'=true:=by
  rw[hxv];rcases hr.own q _ ht with⟨_,_,_,_,e,_⟩|⟨_,_,_,_,_,_,e⟩
  . rw[e];rfl
  . rw[e];rfl
 have hcl:cellsL xv=[xv]:=b1Z hone;obtain⟨st',W',hrun,hr',h⟩:=c0A (cs:=[.raw (γ q).1]) hT hr hti hs hp ha (by rw[hcl,hxv];exact .cons (.raw _ (hxv▸hone)) (.nil V)) (by rw[hcl];simpa using hone) (by rw[h1];rfl) hds (by rw[h1];exact hrl)
  (k:=λst'=>a7I (q+5000) st'.O λO'=>match F9 (q+5000) {st' with O:=O'} with|true=>k {st' with O:=(q+5000, .pn γ [q])::O'}|false=>False) (h γ)
 obtain⟨O',h,hO⟩:=c5o h;split at h
 case h_2=>exact h.elim
 rename_i hc;have hr2:=a0N hr' (L':=st'.L) (O':=O') hr'.slots (λm x hm=>⟨hr'.own m x (hO m x hm).2,x,(hO m x hm).2⟩);have hq:w6 (q+5000) [q]=false:=by
  simp only[w6];cases e:Nat.beq q (q+5000) with
  |false=>rfl
  |true=>have:=t7 e;omega
 have hr3:=a4Z (b:= .pn γ [q]) (v:=(.bool false,none)) hr2 hc hq ⟨rfl,λ_ _=>rfl⟩ (by simp) (by simp);exact⟨_,_,W',hrun,hr3,h⟩
theorem d4X (hT:TOk P T)(hr:Rel C γ st V a W){ty:TypeId}{ad x:Base}{av xv:Value}(ha:RVb γ V ad av)(hx:RVb γ V x xv)(h:b4X T cf st ty ad x k):
 ∃γ' st' W',(Instr.storeAt ty av xv).run P W= .ok () W'/\Rel C γ' st' V a W'/\k st':=by
 unfold b4X at h;split at h
 . exact h.elim
 rename_i ti hti;split at h
 . rename_i n off;split at h
   case h_2=>exact h.elim
   rename_i cells bty hb;split at h
   . exact h.elim
   rename_i cs hcs;split at h
   . exact h.elim
   rename_i hlen;have hlen:=t7 hlen;obtain⟨hc1,hc2⟩:=b1Y hcs hr.own hx;obtain⟨blk,cur,hg,hh,hcells,h1,hnone⟩:=hr.own n _ hb;obtain⟨blk',hg',rfl⟩:=ha;rw[hg] at hg';obtain rfl:blk=blk':=by simpa using hg'
   have fin:∀{cells':List Base} {O':List (Nat×Blk)},off+ti.size<=cells.length->cells'=setRun cells off cs->(∀t x,d7 t O'=some x->(t=n/\x= .box cells' bty/\∃y,d7 n st.O=some y)\/(t≠n/\d7 t st.O=some x))->k {st with O:=O'}->
    ∃γ' st' W',(Instr.storeAt ty (.pointer (some ⟨blk,off,none⟩)) xv).run P W= .ok () W'/\Rel C γ' st' V a W'/\k st':=by
    intro cells' O' hle hc' hO hk;have hsz:off+ti.size<=cur.size:=by rw[<-a3c,<-hcells.len];exact hle
    have hrun:=c0C hT hti hh (by rw[<-hc1.len];exact hlen) hc2 hsz;refine⟨γ,_,_,c0z rfl hrun,a8w hr (b0Q W blk _) (λ_ e h=>by cases e;rw[hh] at h;cases h) (λg hg2=>?_) (λm y hy=>?_),hk⟩
    . cases hg2;refine⟨hr.okb n _ hb blk (by rw[hg]),λo u hu=>(by rw[hnone] at hu;cases hu),λy hy=>?_⟩;have:=hr.sees.obj blk y hy;rw[hh] at this;obtain⟨_,_,e⟩:=this.2;rw[e] at this;cases this.1
    . rcases hO m y hy with⟨rfl,rfl,_⟩|⟨hne,hl⟩
      . refine .inl ⟨⟨blk,_,hg,setRow_heap W blk cur _ bty _ hh,?_,?_,hnone⟩,_,hb⟩
        . rw[hc'];exact hcells.setRun hc1 (by rw[hlen];exact hle)
        . exact λu hu=>a5d h1 hc2 u hu
      . exact .inr ⟨hl,λg hg2 hg3=>by cases hg2;exact hr.inj m n y _ hl hb hne blk hg3 (by rw[hg])⟩
   split at h
   . split at h
     . rename_i b;obtain⟨hlt,h⟩:=h;obtain⟨O',h,hO⟩:=a1U h;simp only[i7,j8,F3] at hlen;exact fin (by omega) rfl hO h
     . obtain⟨hlt,h⟩:=h;obtain⟨O',h,hO⟩:=a1U h;exact fin (by omega) rfl hO h
   . split at h
     case h_2=>exact h.elim
     rename_i hle;rw[a7O] at h;obtain⟨O',h,hO⟩:=a1U h;exact fin (X2 hle) rfl hO h
 . rename_i n m i r;split at h
   case h_2=>exact h.elim
   rename_i s hs;split at h
   . exact h.elim
   rename_i hp;have data:a8E st ti n m i r s x k->∃γ' st' W',(Instr.storeAt ty av xv).run P W= .ok () W'/\Rel C γ' st' V a W'/\k st':=by
    intro q;unfold a8E at q;split at q
    . exact q.elim
    rename_i d hd;split at q
    . exact q.elim
    rename_i cs hcs;split at q
    . exact q.elim
    rename_i hlen;have hlen:=t7 hlen;obtain⟨ds,⟨hds,hkm,hrl⟩,q⟩:=q;obtain⟨hc1,hc2⟩:=a9J hcs (a5p hr.own hd hx);obtain⟨st',W',h1,h2,h3⟩:=c0A hT hr hti hs hp (hkm▸ha) hc1 hc2 hlen hds hrl q;exact⟨γ,st',W',h1,h2,h3⟩
   split at h
   . exact data h
   rename_i q hq;split at h
   . rename_i q';split at h
     . rename_i e;obtain rfl:=t7 e;exact c0B hT hr hti hs hp ha hx h
     . exact data h
   . split at h
     case h_2=>exact h.elim
     rename_i e hde;split at h
     case h_2=>exact h.elim
     rename_i te hte;split at h
     case h_2=>exact h.elim
     rename_i hnq hcl;obtain⟨hrep,a0,n0,hx0⟩:=hx;have hr2:=a4Z (b:= .sl ⟨e,te.size,[],false⟩) (v:=(xv,none)) hr hcl rfl (.inr ⟨.inr rfl,rfl,by simp,hrep,a0,n0,hx0⟩) (by simp) (by simp);have hne:q≠n:=λe=>by rw[e] at hnq;simp at hnq
     refine c0B (st:={st with O:=(q, .sl ⟨e,te.size,[],false⟩)::st.O}) hT hr2 hti (by rw[p5 hne];exact hs) hp (ha.upd (by show Nat.beq n q=false;exact hnq)) (by show xv=(J3 γ q (xv,none) q).1;rw[M3]) h
   . exact data h
 . exact h.elim
end
open Go.Lib
section
variable {P:Program} {T:List (Nat×TI)} {cf:Cfg} {C:Cx} {γ:Gm} {st:SSt} {V:Know} {a:Act} {W:World} {k:SSt->Prop}
theorem b8Y (ty:TypeId)(v:Value)(W:World):(newVar ty v).run P W= .ok ⟨W.heap.size,0,none⟩ (W.alloc (.cells (cellsL v).toArray ty)):=by
 simp[newVar,newRow,<-cellsL_eq]
theorem b8X (hr:Rel C γ st V a W){nm:List (Nat×Nat)}{dst:Option Nat}(hd:∀t,dst=some t->t<C.N){ty:TypeId}{cells:List Base}(h:a4V nm st dst ty cells k)
 {vs:List Value} (hc:All2 (RVb γ V) cells vs) (h1:∀u∈vs,u.oneCell'=true):
 ∃γ' st',k st'/\Rel C γ' st' V (a.put dst (.pointer (some ⟨W.heap.size,0,none⟩))) (W.alloc (.cells vs.toArray ty)):=by
 unfold a4V at h;split at h
 . exact h.elim
 rename_i d;split at h
 . exact h.elim
 rename_i hcl;simp only[f0,a3d] at hcl;refine⟨J3 γ (a0g nm d) (.pointer (some ⟨W.heap.size,0,none⟩),some W.heap.size),_,h,L9 (d1b (b:= .box cells ty) hr hcl.1 hcl.2 rfl ?_) hd ⟨W.heap.size,by rw[M3],rfl⟩⟩;refine⟨W.heap.size,vs.toArray,rfl,heap_alloc_new W _,hc,h1,λo=>?_⟩;cases hc:V.cell W.heap.size o with
 |none=>rfl
 |some u=>have:=hr.sees.lt hc;omega
theorem d5A (γ:Gm)(V:Know):∀{vs:List Value} {bs:List Base},b1o vs=some bs->All2 (RVb γ V) bs vs/\∀u∈vs,u.oneCell'=true:=by
 intro vs;induction vs with
 |nil=>intro bs h;cases h;exact⟨.nil,by simp⟩
 | cons v vs ih=>
   intro bs h;simp only[b1o] at h;split at h
   case h_2=>cases h
   rename_i b hb;split at h
   case h_2=>cases h
   rename_i r hr;cases h;obtain⟨h1,h2⟩:=ih hr;have:RVb γ V b v/\v.oneCell'=true:=by
    unfold c1w at hb;split at hb
    . cases hb;exact⟨.bl _,rfl⟩
    . split at hb
      . cases hb;exact⟨⟨.nil,_,_,rfl⟩,rfl⟩
      . cases hb
    . cases hb;exact⟨trivial,rfl⟩
    . split at hb
      . rename_i d hd;cases hb;exact b0j hd V
      . cases hb
   exact⟨.cons this.1 h1,by simpa using ⟨this.2,h2⟩⟩
theorem a6s (hr:Rel C γ st V a W){dst:Option Nat}(hd:∀t,dst=some t->t<C.N){x:Blk}(hm:∀n,a1P n x=false){nm:List (Nat×Nat)}(h:a0J nm st dst x k){v:Value×Option Nat}(hv:BlkOk γ V W v x)(hok:∀q,v.2=some q->Okb C q)
 (hi:∀n' b',d7 n' st.O=some b'->∀q,v.2=some q->(γ n').2≠some q):
 ∃γ' st',k st'/\Rel C γ' st' V (a.put dst v.1) W:=by
 unfold a0J at h;split at h
 . exact h.elim
 rename_i d;split at h
 . exact h.elim
 rename_i hc;exact⟨J3 γ (a0g nm d) v,_,h,L9 (a4Z hr hc (hm _) hv hok hi) hd (by rw[show RVb (J3 γ (a0g nm d) v) V (.own (a0g nm d)) v.1↔v.1=(J3 γ (a0g nm d) v (a0g nm d)).1 from Iff.rfl,M3])⟩
structure Src (P:Program) (W:World) (tx:TypeId) (size:Nat) (x:Value) (m:Nat) (news:List Value):Prop where
 under:∃d,P.underlying tx=some d/\∀k,d≠ .int k
 len:∀W',(Builtin.lenOf x).run P W'= .ok m W'
 cells:(Builtin.firstCells size m x).run P W= .ok news.toArray W
 cells':(Builtin.firstCells size m x).run P W.drew= .ok news.toArray W.drew
 hl:news.length=m*size
 one:∀u∈news,u.oneCell'=true
theorem c3x (hT:TOk P T){ts tx rt e:TypeId}{tis te:TI}(hts:d7 ts T=some tis)(hdsc:tis.desc= .slice e)(hte:d7 e T=some te)
 {g n cap:Nat} {cur:Array Value} (hg:W.heap[g]?=some (.cells cur e (0,0))) {x:Value} {m:Nat} {news:List Value} (hx:Src P W tx te.size x m news)
 (hroom:n+m<=cap) (hfit:n*te.size+news.length<=cur.size):
 (Builtin.append_ #[ts,tx] rt #[.slice (some ⟨g,0,none⟩) n cap,x]).run P W=
   .ok (.slice (some ⟨g,0,none⟩) (n+m) cap) (W.setRow g (cur.toList.take (n*te.size)++news++cur.toList.drop (n*te.size+news.length)).toArray):=by
 obtain⟨d,hd,hni⟩:=hx.under;have hst:=run_storeCells_at (P:=P) g (n*te.size) e news 0 cur W hg (by simpa using hfit) hx.one;simp only[a3m] at hst;have hz:(d matches .int _)=false:=by cases d<;>first|rfl|exact absurd rfl (hni _)
 simp[Builtin.append_,hT.under hts,hdsc,run_underlying hd,hT.sizeOf hte,hx.len,hroom,hx.cells,Addr.add_lit,hst,hz]
theorem c3w (hT:TOk P T){ts tx rt e:TypeId}{tis te:TI}(hts:d7 ts T=some tis)(hdsc:tis.desc= .slice e)(hte:d7 e T=some te)
 {base:Option Addr} {n cap:Nat} (hnc:n<=cap) {x:Value} {news:List Value} (hx:Src P W tx te.size x 0 news):
 (Builtin.append_ #[ts,tx] rt #[.slice base n cap,x]).run P W= .ok (.slice base n cap) W:=by
 obtain⟨d,hd,hni⟩:=hx.under;have hz:(d matches .int _)=false:=by cases d<;>first|rfl|exact absurd rfl (hni _)
 have hn:news=[]:=C8 (by simpa using hx.hl);have hc:=hx.cells;rw[hn] at hc;cases base<;>simp[Builtin.append_,hT.under hts,hdsc,run_underlying hd,hT.sizeOf hte,hx.len,hnc,hc,storeCells,hz]
theorem b5Z (hT:TOk P T){ts tx rt e:TypeId}{tis te:TI}(hts:d7 ts T=some tis)(hdsc:tis.desc= .slice e)(hte:d7 e T=some te)
 {base:Option Addr} {n cap:Nat} {olds:List Value} (hlo:olds.length=n*te.size) (holds:(base=none/\n=0)\/∃b,base=some b/\∀j v,olds[j]?=some v->W.cell? (b.add j)=some v)
 {x:Value} {m:Nat} {news:List Value} (hx:Src P W tx te.size x m news)
 (hg:cap<n+m) (h63:n+m<=9223372036854775807) (hbytes:(n+m)*te.bytes<=140737488355328):
 ∃ c' cells,(Builtin.append_ #[ts,tx] rt #[.slice base n cap,x]).run P W= .ok (.slice (some ⟨W.heap.size,0,none⟩) (n+m) c') (W.drew.alloc (.cells cells e))/\
   n+m<=c'/\c'<=maxLen/\cells.size=c'*te.size/\cells.toList.take ((n+m)*te.size)=olds++news:=by
 obtain⟨d,hd,hni⟩:=hx.under;have hz:(d matches .int _)=false:=by cases d<;>first|rfl|exact absurd rfl (hni _)
 obtain⟨i,hi,hs,hby,hzero⟩:=hT.info hte;have hzs:te.zero.cells.size=te.size:=(hT _ _ hte).2.2.1;have hn:¬(n+m<=cap):=by omega
 have h63':¬(9223372036854775807<((n:Int)+(m:Int))):=by omega
 have hfit:=growslice_fits hg hbytes;have h48':¬(281474976710656<Builtin.nextslicecap (n+m) cap*te.bytes):=by omega
 have hfo:(Builtin.firstCells te.size n (.slice base n cap)).run P W.drew= .ok olds.toArray W.drew:=by
  rcases holds with⟨rfl,rfl⟩|⟨b,rfl,hb⟩
  . have:olds=[]:=C8 (by simpa using hlo);subst this;exact run_firstCells_none ..
  . exact run_firstCells_some (P:=P) W.drew te.size n b n cap olds hlo (by simpa using hb)
 have hge:=grownCap_ge W (n+m) cap e;have hcm:grownCap W (n+m) cap e<=maxLen:=grownCap_le_maxLen W (n+m) cap e (by simp only[maxLen];exact h63);refine⟨grownCap W (n+m) cap e,olds.toArray++news.toArray++Builtin.zeroCells te.zero.cells (grownCap W (n+m) cap e-(n+m)),?_,hge,hcm,?_,?_⟩
 . simp[Builtin.append_,hT.under hts,hdsc,run_underlying hd,sizeOf,typeInfo,zeroValue,hi,hs,hby,hzero,hx.len,hn,h63',h48',Question.forced,hx.cells',hfo,newRow,grownCap,hz];try(congr 2;apply Array.ext';simp[n9])
 . simp only[Array.size_append,List.size_toArray,size_zeroCells,hzs,hlo,hx.hl,<-Z2];congr 1
   omega
 . simp only[Array.toList_append,n9];rw[<-n9,show(n+m)*te.size=(olds++news).length from by rw[j6,hlo,hx.hl,Z2]];exact List.take_left
theorem b4a {x:Value}{xs:List (List D)}(h:Rep V x (.sl xs)){size:Nat}(hsz:∀ds∈xs,ds.length=size):∃us,Reps V us xs.flatten/\(∀u∈us,u.oneCell'=true)/\
 (((x= .slice none 0 0\/∃a,x= .slice (some a) 0 0)/\xs=[])\/∃b o c,x= .slice (some ⟨b,o,none⟩) xs.length c/\∀(j:Nat) u,us[j]?=some u->V.cell b (o+j)=some u):=by
 generalize hd:D.sl xs=d at h;cases h<;>cases hd
 . exact⟨[], .nil V,by simp, .inl ⟨.inl rfl,rfl⟩⟩
 . exact⟨[], .nil V,by simp, .inl ⟨.inr ⟨_,rfl⟩,rfl⟩⟩
 . rename_i b o c k hc hm hk hex h;have : ∀(l:List (List D)) (i:Nat),(∀ds∈l,ds.length=k)->(∀(j:Nat) ds,l[j]?=some ds->xs[i+j]?=some ds)->∃us,Reps V us l.flatten/\(∀u∈us,u.oneCell'=true)/\∀(j:Nat) u,us[j]?=some u->V.cell b (o+i*k+j)=some u:=by
    intro l;induction l with
    |nil=>intro i _ _;exact⟨[], .nil V,by simp,λj u h=>by simp at h⟩
    | cons ds l ih=>
      intro i hlk hl;obtain⟨us,r1,r2,r3⟩:=ih (i+1) (λds hd=>hlk ds (by simp[hd])) (λj d hj=>by have:=hl (j+1) d (by simpa using hj);rwa[show i+1+j=i+(j+1) from by omega]);have h0:=hl 0 ds rfl;have inner:∀(es:List D) (q:Nat),(∀(j:Nat) d,es[j]?=some d->ds[q+j]?=some d)->∃ws,Reps V ws es/\(∀u∈ws,u.oneCell'=true)/\∀(j:Nat) u,ws[j]?=some u->V.cell b (o+i*k+(q+j))=some u:=by
       intro es;induction es with
       |nil=>intro q _;exact⟨[], .nil V,by simp,λj u h=>by simp at h⟩
       | cons d es ih'=>
         intro q hes;obtain⟨ws,s1,s2,s3⟩:=ih' (q+1) (λj d hj=>by have:=hes (j+1) d (by simpa using hj);rwa[show q+1+j=q+(j+1) from by omega]);have e0:=hes 0 d rfl;obtain⟨u,hu,hu1⟩:=hex (i+0) ds (q+0) d h0 e0;refine⟨u::ws, .cons (h (i+0) ds (q+0) d u h0 e0 hu) s1,?_,?_⟩
         . intro w hw;rcases p8.1 hw with rfl|hw
           . exact hu1
           . exact s2 w hw
         . intro j w hj;cases j with
           |zero=>simp at hj;subst hj;exact hu
           |succ j=>have:=s3 j w (by simpa using hj);rwa[show q+1+j=q+(j+1) from by omega] at this
      obtain⟨ws,s1,s2,s3⟩:=inner ds 0 (λj d hj=>by rwa[F3]);have hdl:ds.length=k:=hlk ds (by simp);refine⟨ws++us,by rw[K0];exact s1.append r1,?_,?_⟩
      . intro w hw;rcases A8.1 hw with hw|hw
        . exact s2 w hw
        . exact r2 w hw
      . intro j w hj;by_cases hjl:j<ws.length
        . rw[Q4 hjl] at hj;have:=s3 j w hj;rwa[F3] at this
        . rw[X0 (by omega)] at hj;have:=r3 _ w hj;rw[s1.len,hdl,Z2] at this;have hjl':k<=j:=by rw[<-hdl,<-s1.len];omega
          rwa[show o+(i*k+1*k)+(j-k)=o+i*k+j from by omega] at this
   obtain⟨us,r1,r2,r3⟩:=this xs 0 hk (λj d hj=>by rwa[F3]);exact⟨us,r1,r2, .inr ⟨b,o,c,rfl,λj u hj=>by have:=r3 j u hj;rwa[Nat.zero_mul,a3m] at this⟩⟩
theorem c6D (l:List UInt8):(l.map λb=>[D.v (.int .u8 (b.toNat:Int))]).flatten=l.map λb=>D.v (.int .u8 (b.toNat:Int)):=by
 induction l with
 |nil=>rfl
 |cons b l ih=>simp[ih]
theorem d2A (hT:TOk P T){size:Nat}{tx:TypeId}{xb:Base}{x:Value}(hs:Sees V W)(ho:A2 γ V W st.O)(hx:RVb γ V xb x){kk:List (List D)->Prop}(h:b4k T st.O size tx xb kk):
 ∃ys news,kk ys/\(∀ds∈ys,ds.length=size)/\ys.length<=maxLen/\Src P W tx size x ys.length news/\Reps V news ys.flatten:=by
 unfold b4k at h;split at h
 . exact h.elim
 rename_i ti hti;have hrow:=hT.row hti;have mk:∀{e:TypeId} {ad:Addr} {m c:Nat} {us:List Value},ti.desc= .slice e->us.length=m*size->(∀u∈us,u.oneCell'=true)->(∀j u,us[j]?=some u->W.cell? (ad.add j)=some u)->Src P W tx size (.slice (some ad) m c) m us:=by
  intro e ad m c us hd hl h1 hc;exact⟨⟨_,hrow,λk e'=>by rw[hd] at e';cases e'⟩,λW'=>by simp[Builtin.lenOf],run_firstCells_some (P:=P) W size m ad m c us hl hc,run_firstCells_some (P:=P) W.drew size m ad m c us hl hc,hl,h1⟩
 have mk0:∀{e:TypeId},ti.desc= .slice e->Src P W tx size (.slice none 0 0) 0 []:=by
  intro e hd;exact⟨⟨_,hrow,λk e'=>by rw[hd] at e';cases e'⟩,λW'=>by simp[Builtin.lenOf],run_firstCells_none ..,run_firstCells_none ..,by simp,by simp⟩
 have data:∀{e:TypeId} {ys:List (List D)},ti.desc= .slice e->Rep V x (.sl ys)->(∀ds∈ys,ds.length=size)->kk ys->∃ys news,kk ys/\(∀ds∈ys,ds.length=size)/\ys.length<=maxLen/\Src P W tx size x ys.length news/\Reps V news ys.flatten:=by
  intro e ys hd hr hsz h;obtain⟨_,_,_,hl1,hl2⟩:=a3T hr;obtain⟨us,h1,h2,h3⟩:=b4a hr hsz;refine⟨ys,us,h,hsz,H8 hl1 hl2,?_,h1⟩;rcases h3 with⟨rfl|⟨a,rfl⟩,rfl⟩|⟨b,o,c,rfl,h3⟩
  . have:us=[]:=C8 (by rw[h1.len];simp);subst this;exact mk0 hd
  . have:us=[]:=C8 (by rw[h1.len];simp);subst this;exact mk hd (by simp) (by simp) (λj u hj=>by simp at hj)
  . exact mk hd (by rw[h1.len,a3H hsz]) h2 (λj u hj=>by rw[T0];exact hs.cell _ _ _ (h3 j u hj))
 split at h
 . rename_i e hd;split at h
   . rename_i ys hys;exact data hd (a3S ho hys hx) h.1 h.2
   . split at h
     case h_2=>exact h.elim
     rename_i n hseq;split at h
     case h_2=>exact h.elim
     rename_i s hsl;obtain⟨rfl,h⟩:=h;rcases ho n _ hsl with⟨g,n',c',vals,hv,hown,hk,hvr,h1,_⟩|⟨hp,_,hk,hrep,_⟩
     . rw[show x=(γ n).1 from hx];rw[hv] at hown⊢;obtain⟨cur,rfl,_,hnc,hcm,_,_,hvl⟩:=Q0 hown;exact⟨s.xs,vals,h,hk,H8 hnc hcm,mk hd hvl h1 (hown.cells (g:=g) rfl),hvr⟩
     . rw[show x=(γ n).1 from hx] at data⊢;exact data hd hrep hk h
 . rename_i hd;split at h
   case h_2=>exact h.elim
   rename_i l;obtain⟨rfl,hl⟩:=Rep.str_inv hx;have hsz:(⟨⟨l⟩⟩:ByteArray).size=l.length:=rfl;have hf:=λW':World=>run_firstCells_string (P:=P) W' 1 ⟨⟨l⟩⟩;have hfl:=c6D l;refine⟨_,strCells ⟨⟨l⟩⟩,h,by simp,by simpa using hl,⟨⟨_,hrow,λk e'=>by rw[hd] at e';cases e'⟩,λW'=>by simp[Builtin.lenOf,hsz],?_,?_,?_,?_⟩,?_⟩
   . have:=hf W;rw[hsz] at this;simpa using this
   . have:=hf W.drew;rw[hsz] at this;simpa using this
   . rw[strCells_length,hsz];simp
   . exact strCells_oneCell _
   . rw [hfl];refine⟨by simp[strCells],λi u d hu hd=>?_⟩;simp only[strCells,z7] at hu hd;cases hc:l[i]? with
     |none=>simp[hc] at hd
     | some b=>
       simp only[hc,G9,H0] at hu hd;subst hu hd;have:=b.toNat_lt;exact .int (by simp only[w8];omega)
 . exact h.elim
theorem b9M (hr:Rel C γ st V a W){r:Nat}{b0:Blk}(hb:d7 r st.O=some b0)(hpin:r∉st.pins)(hptr:∀ad,(γ r).1≠ .pointer ad){W1:World}{V1:Know}{v1:Value×Option Nat}{s1:OwnS}
 (hg:W.grownBy W1 (γ r).2) (hle:V.Le V1) (hs:Sees V1 W1) (hc:∀b o u,V1.cell b o=some u->V.cell b o=some u\/(γ r).2=some b\/W.heap.size<=b) (hobj:∀q x,V1.obj q=some x->V.obj q=some x)
 (hv:∀q,v1.2=some q->(γ r).2=some q\/W.heap.size<=q) (hn:a5J V1 W1 v1 s1)
 {L':List (Nat×Base)} {O':List (Nat×Blk)} (hL:∀t b,d7 t L'=some b->∃b0,d7 t st.L=some b0/\b=a0a r b0) (hO:∀t x,d7 t O'=some x->t≠r/\∃y,d7 t st.O=some y/\x=a2G (a0a r) (λm=>Nat.beq m r) y):
 Rel C (J3 γ r v1) {st with L:=L',O:=(r, .sl s1)::O'} V1 a W1:=by
 have hk:∀k,k<W.heap.size->(γ r).2≠some k->W1.heap[k]?=W.heap[k]?:=λk h1 h2=>hg.block k h1 (λe=>h2 e.symm);have junk:∀{b:Base} {x:Value},RVb γ V b x->RVb (J3 γ r v1) V1 (a0a r b) x:=by
  intro b x hx;unfold a0a;split
  . trivial
  . rename_i hm;exact(hx.upd hm).mono hle
 refine {hr with defers:=hr.defers.keep rfl λk h=>(hk k (R0 h) λe=>b0B (hr.own r b0 hb) e h).trans h,slots:=?_,own:=?_,okb:=?_,inj:=?_,pin:=?_,sees:=hs,fresh:=?_,below:=?_,bsize:=H8 hr.bsize hg.size}
 . intro t b hl;obtain⟨b0,h0,rfl⟩:=hL t b hl;exact junk (hr.slots t b0 h0)
 . intro m x hx;by_cases e:m=r
   . subst e;rw[w9] at hx;cases hx;rw[M3];exact hn
   . rw [p5 (Ne.symm e)] at hx;obtain⟨_,y,hy,rfl⟩:=hO m x hx;rw[M2 e];have hym:=hr.own m y hy;have hne:∀q,(γ m).2=some q->(γ r).2≠some q:=hr.inj m r y b0 hy hb e;have hk2:=hym.keep hle (λq hq=>hk q (I2 hym hq) (hne q hq)) (λq hq o u hu=>by
      rcases hc q o u hu with h|h|h
      . exact h
      . exact absurd h (hne q hq)
      . have:=I2 hym hq;omega) (λq _ u hu=>hobj q u hu)
     cases y with
     | box cells ty=>
       obtain⟨blk,cs,e1,e2,e3,e4,e5⟩:=hk2;obtain⟨blk',cs',f1,f2,f3,f4,f5⟩:=hym;rw[f1] at e1;obtain rfl:blk'=blk:=by simpa using e1
       have hblk:W1.heap[blk']?=W.heap[blk']?:=hk blk' (R0 f2) (hne blk' (by rw[f1]));rw[hblk,f2] at e2;obtain rfl:cs'=cs:=by simpa using e2
       refine⟨blk',cs',f1,hblk.trans f2,⟨by simp[f3.len],λi b x hb hx=>?_⟩,f4,e5⟩;simp only[z7] at hb;cases hl:cells[i]? with
       |none=>simp[hl] at hb
       | some c0=>
         simp only[hl,G9,H0] at hb;subst hb;exact junk (f3.get i c0 x hl hx)
     |sl s=>exact hk2
     |mp l=>exact hk2
     | pn g ns=>exact⟨hk2.1,λq hq=>by
        have hqr:q≠r:=λe=>by have:=(a5E.1 hq).2;rw[e] at this;simp at this
        rw[M2 hqr];exact hk2.2 q ((a5E.1 hq).1)⟩
     |lp l g V0 pn=>exact⟨hk2.1,hk2.2.1,λq hq=>⟨by rw[M2 (λe=>by subst e;obtain⟨e1,ad,e2⟩:=hk2.2.2 q hq;rw[<-e1] at e2;exact hptr ad e2)];exact(hk2.2.2 q hq).1,(hk2.2.2 q hq).2⟩⟩
 . intro m x hx q hq;by_cases e:m=r
   . subst e;rw[M3] at hq;rcases hv q hq with h|h
     . exact hr.okb m b0 hb q h
     . exact .inr (H8 hr.bsize h)
   . rw[p5 (Ne.symm e)] at hx;obtain⟨_,y,hy,_⟩:=hO m x hx;rw[M2 e] at hq;exact hr.okb m y hy q hq
 . have self:∀{m y q},d7 m st.O=some y->m≠r->v1.2=some q->(γ m).2≠some q:=by
    intro m y q hy hne hq hm;rcases hv q hq with h|h
    . exact hr.inj m r y b0 hy hb hne q hm h
    . have:=I2 (hr.own m y hy) hm;omega
   intro m m' x x' hx hx' hne q hq;by_cases e:m=r
   . subst e;rw[M3] at hq;rw[p5 hne] at hx';obtain⟨_,y,hy,_⟩:=hO m' x' hx';rw[M2 (Ne.symm hne)];exact self hy (Ne.symm hne) hq
   . rw [p5 (Ne.symm e)] at hx;obtain⟨_,y,hy,_⟩:=hO m x hx;rw[M2 e] at hq;by_cases e':m'=r
     . subst e';rw[M3];intro hq';exact self hy e hq' hq
     . rw[p5 (Ne.symm e')] at hx';obtain⟨_,y',hy',_⟩:=hO m' x' hx';rw[M2 e'];exact hr.inj m m' y y' hy hy' hne q hq
 . intro m hm;rw[M2 (λe=>hpin (by rw[<-e];exact hm))];exact hr.pin m hm
 . refine⟨hr.fresh.le.trans hle,λb o u hu=>?_,λq x hx=>hr.fresh.obj q x (hobj q x hx)⟩;rcases hc b o u hu with h|h|h
   . exact hr.fresh.cell b o u h
   . exact .inr (hr.okb r b0 hb b h)
   . exact .inr (.inr (H8 hr.bsize h))
 . refine hr.below.trans ⟨hg.os,hg.tape,hg.output,hg.size,λq hq hn=>hk q (a7n hq hr.bsize) (λe=>?_)⟩;rcases hr.okb r b0 hb q e with h|h
   . exact hn h
   . omega
theorem c6Z (hs:Sees V W){cells:Array Value}(e:TypeId){known:List Value}(hk:∀(j:Nat) u,known[j]?=some u->cells[j]?=some u):Grow V W (V.with W.heap.size known) (W.drew.alloc (.cells cells e)):=by
 have hb:Below W.heap.size W (W.drew.alloc (.cells cells e)):=((Below.refl _ _).drew).alloc (p0 _) _;have hle:V.Le (V.with W.heap.size known):=a2f λo u h=>by have:=hs.lt h;omega
 refine⟨hb,⟨hle,λb o v h=>?_,λr x h=> .inl h⟩,⟨λb o v h=>?_,λr x h=>?_,hs.lib.mono hle,hs.keepRow λb o v h=>hb.block b (hs.lt h)⟩⟩
 . rcases a4b b o v h with h|rfl
   . exact .inl h
   . exact .inr (.inr (p0 _))
 . change (if b=W.heap.size then known[o]? else V.cell b o)=some v at h
   split at h
   . rename_i e';subst e';have hh:=heap_alloc_new W.drew (.cells cells e);simp only[World.cell?,show W.drew.heap.size=W.heap.size from rfl] at hh⊢;rw[hh];simpa using hk o v h
   . exact(hb.cell (p:=⟨b,o,none⟩) (hs.lt h)).trans (hs.cell b o v h)
 . obtain⟨h1,h2⟩:=hs.obj r x h;exact⟨(hb.block r (R0 h1)).trans h1,h2⟩
theorem d4E (hT:TOk P T) (hr:Rel C γ st V a W) {dst:Option Nat} (hd:∀t,dst=some t->t<C.N) {ts tx rt:TypeId} {s x:Base} {sv xv:Value} (hsv:RVb γ V s sv) (hxv:RVb γ V x xv) (h:b4F T cf st dst ts tx s x k):
 ∃v W' γ' st' V',(Builtin.append_ #[ts,tx] rt #[sv,xv]).run P W= .ok v W'/\k st'/\Rel C γ' st' V' (a.put dst v) W':=by
 unfold b4F at h;split at h
 . exact h.elim
 rename_i tis hts;split at h
 case h_2=>exact h.elim
 rename_i e hdsc;split at h
 . exact h.elim
 rename_i te hte;split at h
 . exact h.elim
 rename_i hpos;have hpos:0<te.size:=X2 hpos;obtain⟨ys,news,h,hyk,hyl,hsrc,hyr⟩:=d2A hT hr.sees hr.own hxv h;have lens:∀{xs:List (List D)} {vals:List Value},(∀ds∈xs,ds.length=te.size)->Reps V vals xs.flatten->vals.length=xs.length*te.size:=λhx hv=>by rw[hv.len,a3H hx]
 have both:∀{xs:List (List D)},(∀ds∈xs,ds.length=te.size)->∀ds∈xs++ys,ds.length=te.size:=by
  intro xs hx ds hds;rcases A8.1 hds with h|h
  . exact hx ds h
  . exact hyk ds h
 have full:∀{xs:List (List D)} {ad:Option Addr} {n:Nat},Rep V (.slice ad n n) (.sl xs)->(∀ds∈xs,ds.length=te.size)->(xs.length<=maxLen->ys.length<=maxLen->xs.length+ys.length<=4611686018427387904/\(xs.length+ys.length)*te.bytes<=140737488355328)->
  (ys=[]/\(Builtin.append_ #[ts,tx] rt #[.slice ad n n,xv]).run P W= .ok (.slice ad n n) W)\/
  ∃ c' cells vals,(Builtin.append_ #[ts,tx] rt #[.slice ad n n,xv]).run P W= .ok (.slice (some ⟨W.heap.size,0,none⟩) (xs.length+ys.length) c') (W.drew.alloc (.cells cells e))/\xs.length+ys.length<=c'/\c'<=maxLen/\cells.size=c'*te.size/\
    cells.toList.take ((xs.length+ys.length)*te.size)=vals++news/\Reps V (vals++news) (xs++ys).flatten/\∀u∈vals++news,u.oneCell'=true:=by
  intro xs ad n hrep hxk hroom;obtain⟨a0,c0,e0,hl1,hl2⟩:=a3T hrep;obtain⟨rfl,rfl,rfl⟩:ad=a0/\n=xs.length/\n=c0:=by simpa using e0
  obtain⟨vals,hv,h1,hcells⟩:=b4a hrep hxk;obtain⟨hrm,hby⟩:=hroom (by omega) hyl;by_cases hm:ys.length=0
  . left
    have hy0:ys=[]:=C8 hm;refine⟨hy0,?_⟩;rw[hm] at hsrc;exact c3w hT hts hdsc hte (p0 _) hsrc
  . right
    obtain ⟨c',cells,hrun,q1,q2,q3,q4⟩:=b5Z (rt:=rt) hT hts hdsc hte (base:=ad) (cap:=xs.length) (lens hxk hv) (by
     rcases hcells with⟨hc1|⟨a,hc1⟩,hc2⟩|⟨b,o,c,hc1,hc2⟩
     . left;simp at hc1;exact⟨hc1.1,by rw[hc2];rfl⟩
     . right
       simp at hc1;have hv0:vals=[]:=C8 (by rw[hv.len,hc2];rfl);exact⟨a,hc1.1,λj u hj=>by rw[hv0] at hj;simp at hj⟩
     . right
       simp at hc1;exact⟨_,hc1.1,λj u hj=>by rw[T0];exact hr.sees.cell _ _ _ (hc2 j u hj)⟩) hsrc (by omega) (by omega) hby
    refine⟨c',cells,vals,hrun,q1,q2,q3,q4,?_,?_⟩
    . rw[List.flatten_append];exact hv.append hyr
    . intro u hu;rcases A8.1 hu with h|h
      . exact h1 u h
      . exact hsrc.one u h
 have fresh:∀{xs:List (List D)} {c':Nat} {cells:Array Value} {vals:List Value} (p:Bool),(∀ds∈xs,ds.length=te.size)->xs.length+ys.length<=c'->c'<=maxLen->cells.size=c'*te.size->
  cells.toList.take ((xs.length+ys.length)*te.size)=vals++news->Reps V (vals++news) (xs++ys).flatten->(∀u∈vals++news,u.oneCell'=true)->
  Grow V W (V.with W.heap.size (if p=true then vals++news else[])) (W.drew.alloc (.cells cells e))/\
  a5J (V.with W.heap.size (if p=true then vals++news else[])) (W.drew.alloc (.cells cells e)) (.slice (some ⟨W.heap.size,0,none⟩) (xs.length+ys.length) c',some W.heap.size) ⟨e,te.size,xs++ys,p⟩:=by
  intro xs c' cells vals p hxk q1 q2 q3 q4 hvr h1;have hlen:(vals++news).length=(xs.length+ys.length)*te.size:=by rw[hvr.len,a3H (both hxk),j6]
  have hkn:∀(j:Nat) u,(if p=true then vals++news else[])[j]?=some u->cells[j]?=some u:=by
   intro j u hj;cases p with
   |false=>simp at hj
   | true=>
     simp only[if_true] at hj;rw[<-q4,X1] at hj;split at hj
     . simpa using hj
     . cases hj
  have hgr:=c6Z hr.sees e hkn;refine⟨hgr, .inl ⟨W.heap.size,_,c',vals++news,rfl,⟨by simpa using hlen, .inr ⟨W.heap.size,c',cells,by simp,F4 _,heap_alloc_new W.drew _,by simpa using q1,q2,q3,by simpa using q4⟩⟩,both hxk,hvr.mono hgr.fresh.le,h1,?_⟩⟩;cases p with
  | true=>
    simp only[if_true];refine⟨λo u hu=>?_,λj u hj=>?_⟩
    . change (if W.heap.size=W.heap.size then(vals++news)[o]? else _)=some u at hu
      rw[d4 rfl] at hu;rcases C5 o (vals++news).length with h|h
      . exact h
      . rw[z6 h] at hu;cases hu
    . show(if W.heap.size=W.heap.size then(vals++news)[j]? else _)=some u;rw[d4 rfl];exact hj
  | false=>
    intro o;show(if W.heap.size=W.heap.size then([]:List Value)[o]? else _)=none;rw[d4 rfl];rfl
 split at h
 . rename_i r _;split at h
   case h_2=>exact h.elim
   rename_i os hos;split at h
   . exact h.elim
   rename_i hchk;simp only[f0,a3d] at hchk;obtain⟨c1,c2,c3,c4⟩:=hchk;have c1:=t7 c1;have c2:=t7 c2;have hpin:r∉st.pins:=λhm=>by rw[memB_mem.2 hm] at c3;cases c3
   obtain⟨hroom,h⟩:=h;obtain⟨L',h,hL⟩:=a4P h;obtain⟨O',h,hO⟩:=a4Q h;have hsv:sv=(γ r).1:=hsv;have fin:∀{v1:Value×Option Nat} {W1:World} {V1:Know},(Builtin.append_ #[ts,tx] rt #[sv,xv]).run P W= .ok v1.1 W1->W.grownBy W1 (γ r).2->V.Le V1->Sees V1 W1->(∀b o u,V1.cell b o=some u->V.cell b o=some u\/(γ r).2=some b\/W.heap.size<=b)->(∀q x,V1.obj q=some x->V.obj q=some x)->
    (∀q,v1.2=some q->(γ r).2=some q\/W.heap.size<=q)->a5J V1 W1 v1 ⟨e,te.size,os.xs++ys,os.pub⟩->
    ∃v W' γ' st' V',(Builtin.append_ #[ts,tx] rt #[sv,xv]).run P W= .ok v W'/\k st'/\Rel C γ' st' V' (a.put dst v) W':=by
    intro v1 W1 V1 hrun hg hle hs hc hobj hv hn;have hr1:=b9M hr hos hpin (λad e=>by rcases hr.own r _ hos with⟨_,_,_,_,e2,_⟩|⟨_,_,_,_,_,_,e2⟩<;>rw[e2] at e<;>cases e) hg hle hs hc hobj hv hn hL hO;exact⟨_,_,_,_,_,hrun,h,L9 hr1 hd (by rw[show RVb (J3 γ r v1) V1 (.own r) v1.1↔v1.1=(J3 γ r v1 r).1 from Iff.rfl,M3])⟩
   rcases hr.own r _ hos with⟨g,n,c,vals,hv,hown,hk,hvr,h1,hm⟩|⟨hp,hv2,hkk,hrep,ad,n,hv1⟩
   . rw [hsv, hv] at fin⊢;simp only at fin;rw[hv] at hown;rw[c1] at hown hk;rw[c2] at hown;obtain⟨cur,rfl,hh,hnc,hcm,hcs,htake,hvl⟩:=Q0 hown;obtain⟨hrm,hby⟩:=hroom (by omega) hyl;have hold:∀j u,vals[j]?=some u->W.cell? ((⟨g,0,none⟩:Addr).add j)=some u:=hown.cells (g:=g) rfl;have hone:∀u∈vals++news,u.oneCell'=true:=by
      intro u hu;rcases A8.1 hu with h|h
      . exact h1 u h
      . exact hsrc.one u h
     have hvr2:Reps V (vals++news) (os.xs++ys).flatten:=by rw[List.flatten_append];exact hvr.append hyr
     by_cases hrm2:os.xs.length+ys.length<=c
     . have hfit:os.xs.length*te.size+news.length<=cur.size:=by rw[hsrc.hl,hcs,<-Z2];exact a3n _ hrm2
       have hrun:=c3x (rt:=rt) hT hts hdsc hte hh hsrc hrm2 hfit;have hlen:(vals++news).length=(os.xs.length+ys.length)*te.size:=by rw[j6,hvl,hsrc.hl,Z2]
       have hheap:=setRow_heap W g cur (cur.toList.take (os.xs.length*te.size)++news++cur.toList.drop (os.xs.length*te.size+news.length)).toArray e _ hh;have htk:(cur.toList.take (os.xs.length*te.size)++news++cur.toList.drop (os.xs.length*te.size+news.length)).take ((os.xs.length+ys.length)*te.size)=vals++news:=by
        rw[htake,<-hlen];exact List.take_left
       have hkn:∀(j:Nat) u,(if os.pub=true then vals++news else[])[j]?=some u->(W.setRow g (cur.toList.take (os.xs.length*te.size)++news++cur.toList.drop (os.xs.length*te.size+news.length)).toArray).cell? ⟨g,j,none⟩=some u:=by
        intro j u hj;have hj':(vals++news)[j]?=some u:=by
         cases hp:os.pub with
         |true=>rw[hp] at hj;simpa using hj
         |false=>rw[hp] at hj;simp at hj
        rw[<-htk,X1] at hj';split at hj'
        . simp only[World.cell?,hheap];simpa using hj'
        . cases hj'
       have hsub:∀o u,V.cell g o=some u->(if os.pub=true then vals++news else[])[o]?=some u:=by
        intro o u hu;cases hp:os.pub with
        | true=>
          rw[hp] at hm;have hlt:=hm.1 o u hu;have h2:=hm.2 o _ (t6 hlt);rw[hu] at h2;simp only[if_true];rw[Q4 hlt,t6 hlt];exact h2.symm
        |false=>rw[hp] at hm;rw[hm] at hu;cases hu
       refine fin (v1:=(.slice (some ⟨g,0,none⟩) (os.xs.length+ys.length) c,some g)) (V1:=V.with g (if os.pub=true then vals++news else[])) hrun (b0Q W g _) (a2f hsub) ?_ (λb o u hu=>?_) (λ_ _ h=>h) (λq hq=> .inl hq) ?_
       . refine ⟨λb o u hu=>?_,λq x hx=>?_,hr.sees.lib.mono (a2f hsub),hr.sees.row.keep hr.sees.lib λb o u hu=>?_⟩;rotate_left 2
         . by_cases e':b=g
           . subst e';have h9:=setRow_heap W b cur (cur.toList.take (os.xs.length*te.size)++news++cur.toList.drop (os.xs.length*te.size+news.length)).toArray e _ hh;simp only[World.shape?,h9,hh];congr 2
             simp only[List.size_toArray,j6,R5,K2,a3c];omega
           . have h9:=setRow_other W g b (cur.toList.take (os.xs.length*te.size)++news++cur.toList.drop (os.xs.length*te.size+news.length)).toArray e';simp only[World.shape?,h9]
         . change (if b=g then _ else V.cell b o)=some u at hu
           split at hu
           . rename_i e';subst e';exact hkn o u hu
           . rename_i hne;have h0:=hr.sees.cell b o u hu;have:=setRow_other W g b (cur.toList.take (os.xs.length*te.size)++news++cur.toList.drop (os.xs.length*te.size+news.length)).toArray hne;simp only[World.cell?,this] at h0⊢;exact h0
         . have h0:=hr.sees.obj q x hx;have hqg:q≠g:=λe'=>by subst e';rw[hh] at h0;obtain⟨_,_,e2⟩:=h0.2;rw[e2] at h0;cases h0.1
           exact⟨by rw[setRow_other W g q _ hqg];exact h0.1,h0.2⟩
       . rcases a4b b o u hu with h|rfl
         . exact .inl h
         . exact .inr (.inl rfl)
       . refine .inl ⟨g,_,c,vals++news,rfl,⟨by simpa using hlen, .inr ⟨g,c,_,by simp,F4 _,hheap,by simpa using hrm2,hcm,?_,by simpa using htk⟩⟩,both hk,hvr2.mono (a2f hsub),hone,?_⟩
         . simp only[List.size_toArray,j6,R5,K2,a3c];omega
         . cases hp:os.pub with
           | true=>
             simp only[if_true];refine⟨λo u hu=>?_,λj u hj=>?_⟩
             . change (if g=g then(vals++news)[o]? else _)=some u at hu
               rw[d4 rfl] at hu;rcases C5 o (vals++news).length with h|h
               . exact h
               . rw[z6 h] at hu;cases hu
             . show(if g=g then(vals++news)[j]? else _)=some u;rw[d4 rfl];exact hj
           | false=>
             intro o;show(if g=g then(if false=true then _ else([]:List Value))[o]? else _)=none;rw[d4 rfl];rfl
     . obtain⟨c',cells,hrun,q1,q2,q3,q4⟩:=b5Z (rt:=rt) hT hts hdsc hte (base:=some ⟨g,0,none⟩) (cap:=c) hvl (.inr ⟨_,rfl,hold⟩) hsrc (by omega) (by omega) hby;obtain⟨hgr,hsl⟩:=fresh os.pub hk q1 q2 q3 q4 hvr2 hone;refine fin (v1:=(_,some W.heap.size)) hrun ⟨rfl,rfl,rfl,by simp,λq hq _=>heap_alloc_old W.drew _ hq⟩ hgr.fresh.le hgr.sees (λb o u hu=>?_) (λ_ _ h=>h) (λq hq=>by cases hq;exact .inr (p0 _)) hsl;rcases a4b b o u hu with h|rfl
       . exact .inl h
       . exact .inr (.inr (p0 _))
   . have hsv1:sv= .slice ad n n:=hsv.trans hv1;rw[hsv1] at fin⊢;rw[hv1] at hrep;rw[c1] at hkk;rcases full hrep hkk hroom with⟨hy,hrun⟩|⟨c',cells,vals,hrun,q1,q2,q3,q4,q5,q6⟩
     . refine fin (v1:=(.slice ad n n,none)) hrun ⟨rfl,rfl,rfl,p0 _,λ_ _ _=>rfl⟩ (.refl V) hr.sees (λ_ _ _ h=> .inl h) (λ_ _ h=>h) (λq hq=>by cases hq) ?_;refine .inr ⟨hp.imp id λe=>by rw[e,hy];rfl,rfl,both hkk,?_,_,_,rfl⟩;rw[hy,R4];exact hrep
     . obtain⟨hgr,hsl⟩:=fresh os.pub hkk q1 q2 q3 q4 q5 q6;refine fin (v1:=(_,some W.heap.size)) hrun ⟨rfl,rfl,rfl,by simp,λq hq _=>heap_alloc_old W.drew _ hq⟩ hgr.fresh.le hgr.sees (λb o u hu=>?_) (λ_ _ h=>h) (λq hq=>by cases hq;exact .inr (p0 _)) hsl;rcases a4b b o u hu with h|rfl
       . exact .inl h
       . exact .inr (.inr (p0 _))
 . rename_i xs _;obtain⟨⟨hroom,hxk⟩,h⟩:=h;obtain⟨hrep,ad,n,rfl⟩:=hsv;have put1:∀{p:Bool} {c':Nat} {cells:Array Value} {vals:List Value},a0J cf.nm st dst (.sl ⟨e,te.size,xs++ys,p⟩) k->(Builtin.append_ #[ts,tx] rt #[.slice ad n n,xv]).run P W= .ok (.slice (some ⟨W.heap.size,0,none⟩) (xs.length+ys.length) c') (W.drew.alloc (.cells cells e))->xs.length+ys.length<=c'->c'<=maxLen->cells.size=c'*te.size->
    cells.toList.take ((xs.length+ys.length)*te.size)=vals++news->Reps V (vals++news) (xs++ys).flatten->(∀u∈vals++news,u.oneCell'=true)->
    ∃v W' γ' st' V',(Builtin.append_ #[ts,tx] rt #[.slice ad n n,xv]).run P W= .ok v W'/\k st'/\Rel C γ' st' V' (a.put dst v) W':=by
    intro p c' cells vals h hrun q1 q2 q3 q4 q5 q6;obtain⟨hgr,hsl⟩:=fresh p hxk q1 q2 q3 q4 q5 q6;obtain⟨γ',st',hk,hr'⟩:=a6s (a1S hr hgr) hd (λn=>rfl) h (v:=(.slice (some ⟨W.heap.size,0,none⟩) (xs.length+ys.length) c',some W.heap.size)) hsl (λq hq=>by cases hq;exact .inr hr.bsize) (λn' b' hl q hq hq'=>by
     cases hq;have:=I2 (hr.own n' b' hl) hq';omega)
    exact⟨_,_,γ',st',_,hrun,hk,hr'⟩
   split at h
   . rcases full hrep hxk hroom with⟨hy,hrun⟩|⟨c',cells,vals,hrun,q1,q2,q3,q4,q5,q6⟩
     . subst hy;obtain⟨γ',st',hk,hr'⟩:=a6s hr hd (λn=>rfl) h (v:=(.slice ad n n,none)) (.inr ⟨.inl rfl,rfl,both hxk,by simpa using hrep,_,_,rfl⟩) (λq hq=>by cases hq) (λn' b' hl q hq hq'=>by cases hq);exact⟨_,_,γ',st',_,hrun,hk,hr'⟩
     . exact put1 h hrun q1 q2 q3 q4 q5 q6
   . obtain⟨hne,h⟩:=h;rcases full hrep hxk hroom with⟨hy,hrun⟩|⟨c',cells,vals,hrun,q1,q2,q3,q4,q5,q6⟩
     . exact absurd hy hne
     . exact put1 h hrun q1 q2 q3 q4 q5 q6
 . exact h.elim
end
end Go.Proofs.YteillnfhkeebjaaGreatDoor.Dx
