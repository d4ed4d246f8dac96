/- A. -/
import Derived.Test.YteillnfhkeebjaaGreatDoorWj
import Derived.Shelf.Strings.Builder1
import Derived.Test.YteillnfhkeebjaaGreatDoorProg
import Derived.Lib.AppendStr
import Derived.Lib.UnsafeStr
set_option linter.all false
namespace Go.Proofs.YteillnfhkeebjaaGreatDoor.Dx
open Go Go.RowKit
set_option maxHeartbeats 1000000
def b2c (d e:D):Bool:=
 match d,e with
 | .v (.int k a), .v (.int k' b)=> !decide (a=b)
 | .v (.int _ _), .str _=>true
 | .v (.int _ _), .sl _=>true
 | .str _, .v (.int _ _)=>true
 | .str s, .str t=> !decide (s=t)
 | .str _, .sl _=>true
 | .sl _, .v (.int _ _)=>true
 | .sl _, .str _=>true
 |_,_=>false
theorem b0R {V:Know}{x:Value}{xs:List (List D)}(h:Rep V x (.sl xs)):∃a n c,x= .slice a n c:=by
 cases h
 . exact⟨_,_,_,rfl⟩
 . exact⟨_,_,_,rfl⟩
 . exact⟨_,_,_,rfl⟩
theorem c4i {V:Know}{u:Value}{d e:D}(h:b2c d e=true)(h1:Rep V u d)(h2:Rep V u e):False:=by
 unfold b2c at h;split at h
 . have e1:=h1.v_inv.1;have e2:=h2.v_inv.1;rw[e1] at e2;cases e2;simp at h
 . rw[h1.v_inv.1] at h2;have:=h2.str_inv.1;cases this
 . rw[h1.v_inv.1] at h2;obtain⟨_,_,_,e⟩:=b0R h2;cases e
 . rw[h2.v_inv.1] at h1;have:=h1.str_inv.1;cases this
 . have e1:=h1.str_inv.1;have e2:=h2.str_inv.1;rw[e1] at e2;have:(⟨⟨_⟩⟩:ByteArray)=⟨⟨_⟩⟩:=Value.string.inj e2;have:=d6 (λb:ByteArray=>b.data.toList) this;simp at this;simp[this] at h
 . rw[h1.str_inv.1] at h2;obtain⟨_,_,_,e⟩:=b0R h2;cases e
 . rw[h2.v_inv.1] at h1;obtain⟨_,_,_,e⟩:=b0R h1;cases e
 . rw[h2.str_inv.1] at h1;obtain⟨_,_,_,e⟩:=b0R h1;cases e
 . cases h
def b8P (gs fl:List D)(o:Nat):Bool:=(List.range fl.length).any λj=>match gs[o+j]?,fl[j]? with
 |none,_=>true
 |some e,some d=>b2c d e
 |some _,none=>false
def b8Q (gs fl:List D):Bool:=fl.isEmpty||(List.range gs.length).all (b8P gs fl)
mutual
def a0b (gs:List D):D->Bool
 | .v _=>true
 | .bl _=>true
 | .junk=>true
 | .str _=>true
 | .agg ds=>keepDs gs ds
 | .tup ds=>keepDs gs ds
 | .sl xs=>b8Q gs xs.flatten&&keepDss gs xs
 |_=>false
def keepDs (gs:List D):List D->Bool
 |[]=>true
 |d::ds=>a0b gs d&&keepDs gs ds
def keepDss (gs:List D):List (List D)->Bool
 |[]=>true
 |ds::xs=>keepDs gs ds&&keepDss gs xs
end
theorem b0b {gs:List D}:∀{ds:List D},keepDs gs ds=true->∀{i:Nat} {d:D},ds[i]?=some d->a0b gs d=true
 |[],_,i,d,h=>by simp at h
 | x::ds,h,i,d,hi=>by
   simp only[keepDs,f0] at h;cases i with
   |zero=>simp at hi;subst hi;exact h.1
   |succ i=>exact b0b h.2 (by simpa using hi)
theorem b8m {gs:List D}:∀{xs:List (List D)},keepDss gs xs=true->∀{i:Nat} {ds:List D},xs[i]?=some ds->keepDs gs ds=true
 |[],_,i,d,h=>by simp at h
 | x::ds,h,i,d,hi=>by
   simp only[keepDss,f0] at h;cases i with
   |zero=>simp at hi;subst hi;exact h.1
   |succ i=>exact b8m h.2 (by simpa using hi)
def Know.less (V:Know)(g:Nat):Know:={V with cell:=λb o=>if b=g then none else V.cell b o}
theorem less_cell {V:Know}{g b o:Nat}{u:Value}:(V.less g).cell b o=some u↔b≠g/\V.cell b o=some u:=by
 show(if b=g then none else V.cell b o)=some u↔_;split
 . rename_i h;simp[h]
 . rename_i h;simp[h]
theorem c6H {k:Nat}:∀{xs:List (List D)},(∀ds∈xs,ds.length=k)->∀{q:Nat} {d:D},xs.flatten[q]?=some d->∃i ds j,xs[i]?=some ds/\ds[j]?=some d/\q=i*k+j:=by
 intro xs;induction xs with
 |nil=>intro _ q d h;simp at h
 | cons x xs ih=>
   intro hk q d h;rw[K0] at h;have hx:=hk x (by simp);by_cases hq:q<x.length
   . rw[Q4 hq] at h;exact⟨0,x,q,rfl,h,by omega⟩
   . rw[X0 (by omega)] at h;obtain⟨i,ds,j,h1,h2,h3⟩:=ih (λz hz=>hk z (by simp[hz])) h;exact⟨i+1,ds,j,by simpa using h1,h2,by rw[a3o];omega⟩
theorem c7L {V:Know}{g:Nat}{gs:List D}(hg:∀o u,V.cell g o=some u->∃e,gs[o]?=some e/\Rep V u e){x:Value}{d:D}(h:Rep V x d):a0b gs d=true->Rep (V.less g) x d:=by
 induction h with
 |v x h=>intro _;exact .v x h
 |bl b=>intro _;exact .bl b
 |junk x=>intro _;exact .junk x
 |raw x=>intro hk;simp[a0b] at hk
 |str l h=>intro _;exact .str l h
 | agg us ds hl h1 h ih=>
   intro hk;simp only[a0b] at hk;exact .agg us ds hl h1 λi u d hu hd=>ih i u d hu hd (b0b hk hd)
 | tup us ds hl h ih=>
   intro hk;simp only[a0b] at hk;exact .tup us ds hl λi u d hu hd=>ih i u d hu hd (b0b hk hd)
 |nil=>intro _;exact .nil
 |empty a=>intro _;exact .empty a
 | sl b o c k xs hc hm hk hex h ih=>
   intro hkk;simp only[a0b,f0] at hkk;obtain⟨hmiss,hcells⟩:=hkk;have hne:∀{i:Nat} {ds:List D} {j:Nat} {d:D},xs[i]?=some ds->ds[j]?=some d->b≠g:=by
    intro i ds j d hi hj e;subst e;have hfl:=a4I hk hi hj;simp only[b8Q,C0,List.isEmpty_iff,n7,a5F] at hmiss;rcases hmiss with hm0|hm0
    . rw[hm0] at hfl;simp at hfl
    have at':∀q d,xs.flatten[q]?=some d->∃u,V.cell b (o+q)=some u/\Rep V u d:=by
     intro q d hq;obtain⟨i,ds,j,h1,h2,rfl⟩:=c6H hk hq;obtain⟨u,hu,_⟩:=hex i ds j d h1 h2;refine⟨u,?_,h i ds j d u h1 h2 hu⟩;rwa[<-Nat.add_assoc]
    have hlt0:0<xs.flatten.length:=by
     rcases C5 (i*k+j) xs.flatten.length with h3|h3
     . omega
     . rw[z6 h3] at hfl;cases hfl
    obtain⟨u0,hu0,_⟩:=at' 0 _ (t6 hlt0);obtain⟨e0,he0,_⟩:=hg _ _ hu0;have ho:o<gs.length:=by
     rcases C5 o gs.length with h3|h3
     . exact h3
     . rw[z6 (by omega)] at he0;cases he0
    have hma:=hm0 o ho;simp only[b8P,N9,a5F] at hma;obtain⟨q,hq,hmq⟩:=hma;obtain⟨u,hu,hru⟩:=at' q _ (t6 hq);obtain⟨e,he,hre⟩:=hg _ _ hu;rw[he,t6 hq] at hmq;exact c4i hmq hru hre
   refine .sl b o c k xs hc hm hk (λi ds j d h1 h2=>?_) (λi ds j d u h1 h2 h3=>?_)
   . obtain⟨u,hu,ho⟩:=hex i ds j d h1 h2;exact⟨u,less_cell.2 ⟨hne h1 h2,hu⟩,ho⟩
   . exact ih i ds j d u h1 h2 (less_cell.1 h3).2 (b0b (b8m hcells h1) h2)
 |ptr=>intro hk;simp[a0b] at hk
 |mnil=>intro hk;simp[a0b] at hk
 |mp=>intro hk;simp[a0b] at hk
 |iface=>intro hk;simp[a0b] at hk
 |fn=>intro hk;simp[a0b] at hk
def b8w (n:Nat)(xs:List (List D))(b:Base):Option D:=
 match b with
 | .d d=>some d
 | .ag p m q=>match Nat.beq m n with
   |true=>some (.agg (p++ .sl xs::q))
   |false=>none
 |_=>none
def b0f (n:Nat)(xs:List (List D)):List Base->Option (List D)
 |[]=>some []
 | b ::bs=>match b8w n xs b with
   | some d=>match b0f n xs bs with
     |some ds=>some (d::ds)
     |none=>none
   |none=>none
theorem b8x {γ:Gm}{V V':Know}(hle:V.Le V'){n:Nat}{xs:List (List D)}(hr:Rep V' (γ n).1 (.sl xs)):∀{bs:List Base} {ds:List D} {vs:List Value},b0f n xs bs=some ds->Vals γ V bs vs->Vals γ V' (ds.map .d) vs
 | [],ds,vs,h,hv=>by
   cases h;obtain rfl:=hv.nil_l;exact All2.nil
 | b ::bs,ds,vs,h,hv=>by
   obtain⟨x,vs,rfl,h1,h2⟩:=hv.cons_l;simp only[b0f] at h;split at h
   case h_2=>cases h
   rename_i d hd;split at h
   case h_2=>cases h
   rename_i ds' hds;cases h;refine .cons ?_ (b8x hle hr hds h2);unfold b8w at hd;split at hd
   . cases hd;exact Rep.mono hle h1
   . split at hd
     . rename_i e;obtain rfl:=t7 e;cases hd;obtain⟨us,ws,rfl,r1,r2,r3⟩:=h1;have:=(r1.mono hle).append (Reps.cons hr (r2.mono hle));exact .agg _ _ this.len r3 this.get
     . cases hd
   . cases hd
theorem c8m {P:Program}{F:FuncId}{ds:List D}{bs:List Base}{n:Nat}{e:TypeId}{k:Nat}{xs:List (List D)}{R:D->Prop}(h:Meets P F ds R)(O:List (Nat×Blk))(hlk:d7 n O=some (.sl ⟨e,k,xs,false⟩))(hl:b0f n xs bs=some ds)(hx:xs≠[])(hk:∀d,R d->a0b xs.flatten d=true):
 MeetsR P F bs O λo O'=>∃d,o= .ret (.d d)/\O'=O/\R d:=by
 refine⟨h.out.fn,λγ V W vs hs hv hown hinj=>?_⟩;rcases hown n _ hlk with⟨g,m,c,vals,hγ,hrow,hkk,hvr,h1,hnone⟩|⟨hp,_⟩
 case inr=>
  rcases hp with hp|hp
  . cases hp
  . exact absurd hp hx
 simp only at hkk hvr hnone hrow;have hcells:=hrow.cells (g:=g) (by rw[hγ];rfl);have hle:V.Le (V.with g vals):=a2f λo u hu=>by rw[hnone] at hu;cases hu
 have hs1:=a6O hs hle λj u hj=>by have:=hcells j u hj;rwa[T0,F3] at this
 rw[hγ] at hrow;obtain⟨cur,hm,hh,hnc,hcm,hcs,ht,hvl⟩:=Q0 hrow;have hrep:Rep (V.with g vals) (γ n).1 (.sl xs):=by
  rw[hγ];exact a8x hm (by omega) hcm hkk (hvr.mono hle) h1 λj u hj=>by
   show(if g=g then vals[j]? else _)=some u;rw[d4 rfl];exact hj
 have hgW:g<W.heap.size:=(a1y.1 hh).1;refine(h.out.run γ (V.with g vals) W vs hs1 (b8x hle hrep hl hv) (λm b hl=>by rw[r7] at hl;cases hl) (λm m' b b' hl=>by rw[r7] at hl;cases hl)).mono ?_;rintro ev W' ⟨γ',V2,o,O',hout,hbel,hfr,hsees,_,_,_,_,d,rfl,rfl,hR⟩;have hV2:∀o u,V2.cell g o=some u->vals[o]?=some u:=λo u hu=>by
  rcases hfr.cell g o u hu with h2|h2|h2
  . have h3:(if g=g then vals[o]? else V.cell g o)=some u:=h2;rwa[d4 rfl] at h3
  . simp[o8] at h2
  . omega
 have hle2:V.Le V2:=hle.trans hfr.le;have hle3:V.Le (V2.less g):=⟨λb o v hc=>less_cell.2 ⟨λe=>(by rw[e,hnone] at hc;cases hc),hle2.cell b o v hc⟩,λr x hx=>hle2.obj r x hx⟩
 have hbel0:BelowX [] W.heap.size W W':=hbel;refine⟨γ,V2.less g, .ret (.d d),O,?_,⟨hbel0.os,hbel0.tape,hbel0.output,hbel0.size,λq hq _=>hbel0.block q hq (by simp)⟩,⟨hle3,λb o v hc=>?_,λr x hx=>?_⟩,⟨λb o v hc=>hsees.cell b o v (less_cell.1 hc).2,hsees.obj,hs.lib.mono hle3,hsees.row⟩,λm b hlm=>?_,λm b hlm q hq=> .inl (R6.2 ⟨(m,b),Y3 hlm,hq⟩),hinj,λ_ _ _ _=>rfl,d,rfl,rfl,hR⟩
 . cases ev with
   | returned v=>
     refine c7L (V:=V2) (gs:=xs.flatten) (λo u hu=>?_) hout (hk d hR);have hvo:=hV2 o u hu;have hol:o<vals.length:=(List.getElem?_eq_some_iff.1 hvo).1;have hol2:o<xs.flatten.length:=by rw[<-hvr.len];exact hol
     exact⟨_,t6 hol2,(hvr.get o u _ hvo (t6 hol2)).mono hle2⟩
   |panicked _=>exact hout.elim
   |outgrown=>exact hout.elim
 . obtain ⟨hbg,hc⟩:=less_cell.1 hc;rcases hfr.cell b o v hc with h2|h2|h2
   . have h3:(if b=g then vals[o]? else V.cell b o)=some v:=h2;rw[c8 hbg] at h3;exact .inl h3
   . simp[o8] at h2
   . exact .inr (.inr h2)
 . rcases hfr.obj r x hx with h2|h2|h2
   . exact .inl h2
   . simp[o8] at h2
   . exact .inr (.inr h2)
 . have hb:=hown m b hlm;refine hb.keep hle3 (λq hq=>hbel0.block q (I2 hb hq) (by simp)) (λq hq o u hu=>?_) (λr hr x hx=>?_)
   . obtain ⟨hqg,hc⟩:=less_cell.1 hu;rcases hfr.cell q o u hc with h2|h2|h2
     . have h3:(if q=g then vals[o]? else V.cell q o)=some u:=h2;rwa[c8 hqg] at h3
     . simp[o8] at h2
     . have:=I2 hb hq;omega
   . rcases hfr.obj r x hx with h2|h2|h2
     . exact h2
     . simp[o8] at h2
     . have:=I2 hb hr;omega
open Go.Proofs
set_option maxRecDepth 100000
set_option maxHeartbeats 4000000
theorem c4E (b:Nat)(w:World)(h0:w.cell? ⟨b,0,none⟩=some (.pointer (some ⟨b,0,none⟩))):
 Calls Tryz.prog 162 #[.pointer (some ⟨b,0,none⟩)] w λe w'=>e= .returned (.tuple #[])/\w'=w:=by
 obtain⟨j,hj,_⟩:=a5I.1 (show(Tryz.prog.info? 88).map (·.size)=some 2 by kernel_rfl);have t72:=Tryz.underlying88;have a72:=Tryz.isAgg88;have z72:=Tryz.sizeOf88;have v72:=Tryz.zeroValue88;have u72:=run_underlying Tryz.underlying88;have t70:=Tryz.underlying86;have a70:=Tryz.isAgg86;have z70:=Tryz.sizeOf86;have v70:=Tryz.zeroValue86;have u70:=run_underlying Tryz.underlying86;have t9:=Tryz.underlying9;have a9:=Tryz.isAgg9;have z9:=Tryz.sizeOf9;have v9:=Tryz.zeroValue9;have u9:=run_underlying Tryz.underlying9;have t4:=Tryz.underlying4;have a4:=Tryz.isAgg4;have z4:=Tryz.sizeOf4;have v4:=Tryz.zeroValue4;have u4:=run_underlying Tryz.underlying4;go_enter Tryz.func162,Tryz.ntmps162
 go_wp2
 rw[Lib.run_neq_ptr_same w _ Tryz.underlying86 hj];go_wp2
 go_end0
 exact⟨rfl,rfl⟩
theorem c4D (b:Nat)(w:World){e:TypeId}{n:Nat}(h0:w.cell? ⟨b,0,none⟩=some (.pointer none))(hsh:w.shape? b=some (e,n))(hn:0<n)(hl:liesAt Tryz.prog Tryz.prog.depth e (n/Tryz.prog.cellsOf e) 0 88 1=true)(hfz:w.frozen? ⟨b,0,none⟩=false):
 Calls Tryz.prog 162 #[.pointer (some ⟨b,0,none⟩)] w λe w'=>e= .returned (.tuple #[])/\w'=w.setCell ⟨b,0,none⟩ (.pointer (some ⟨b,0,none⟩)):=by
 obtain⟨j,hj,hjs⟩:=a5I.1 (show(Tryz.prog.info? 88).map (·.size)=some 2 by kernel_rfl);have t72:=Tryz.underlying88;have a72:=Tryz.isAgg88;have z72:=Tryz.sizeOf88;have v72:=Tryz.zeroValue88;have u72:=run_underlying Tryz.underlying88;have t70:=Tryz.underlying86;have a70:=Tryz.isAgg86;have z70:=Tryz.sizeOf86;have v70:=Tryz.zeroValue86;have u70:=run_underlying Tryz.underlying86;have t9:=Tryz.underlying9;have a9:=Tryz.isAgg9;have z9:=Tryz.sizeOf9;have v9:=Tryz.zeroValue9;have u9:=run_underlying Tryz.underlying9;have t4:=Tryz.underlying4;have a4:=Tryz.isAgg4;have z4:=Tryz.sizeOf4;have v4:=Tryz.zeroValue4;have u4:=run_underlying Tryz.underlying4;go_enter Tryz.func162,Tryz.ntmps162
 go_wp2
 rw[Lib.run_to_unsafe w ⟨b,0,none⟩ Tryz.underlying86 Tryz.underlying268 hj (by rw[hjs];decide) hsh hn];simp only[Result.andThen];rw[Oper.upon_value];go_wp2
 rw[run_callFunc_extern Tryz.func207 (by kernel_rfl) (by kernel_rfl) (by kernel_rfl) (e:=Extern.AbiNoEscape.same) (by kernel_rfl)];rw[Lib.run_noEscape];simp only[Result.andThen];rw[Oper.upon_value];go_wp2
 rw[Lib.run_from_unsafe w ⟨b,0,none⟩ Tryz.underlying268 Tryz.underlying86 hj hsh hl];simp only[Result.andThen];rw[Oper.upon_value];go_wp2
 go_end0
 exact⟨rfl,rfl⟩
theorem c3z {P:Program}(w:World)(t u ty e:TypeId)(i:TypeInfo)(ht:P.underlying t=some (.slice e))(hu:P.underlying u=some .string)(hi:P.info? e=some i)(hz:i.zero=some (.int .u8 0))
 (hsize:i.size=1) (hby:i.bytes=1)
 (v:Value) (n:Nat) (xs:List Value) (hown:w.ownsRow 0 e 1 v n xs) (s:ByteArray)
 (h63:n+s.size<=maxLen) (hbytes:n+s.size<=140737488355328):
 ∃ v' w',(Builtin.append_ #[t,u] ty #[v, .string s]).run P w= .ok v' w'/\w'.ownsRow 0 e 1 v' (n+s.size) (xs++Lib.strCells s)/\w.grownBy w' v.ownBlock/\
   (∀g,v'.ownBlock=some g->v.ownBlock=some g\/w.heap.size<=g):=by
 have hsmall:n+s.size<=9223372036854775807:=by simp only[maxLen] at h63;omega
 obtain⟨v',w',hr,h1,h2,h3⟩:=Lib.run_append_own_string (P:=P) w 0 t u ty e i ht hu hi hz hsize hby v n xs hown s h63 hbytes (F4 _);refine⟨v',w',hr,h1,h2,λg hg=>?_⟩;have hxl:xs.length=n:=by simpa using hown.1
 rcases hown.2 with⟨rfl,rfl⟩|⟨g0,cap,cur,rfl,hbg,hh,hnc,hcm,hcs,htake⟩
 . obtain⟨v2,w2,hr2,k1,_⟩:=Lib.run_append_own_string (P:=P) w w.heap.size t u ty e i ht hu hi hz hsize hby (.slice none 0 0) 0 xs ⟨hown.1, .inl ⟨rfl,rfl⟩⟩ s h63 hbytes (p0 _);rw[hr] at hr2;cases hr2;rcases k1.2 with⟨rfl,_⟩|⟨g1,_,_,rfl,hb1,_⟩
   . cases hg
   . cases hg;exact .inr hb1
 . by_cases hroom:n+s.size<=cap
   . have hcs':cur.size=cap:=by simpa using hcs
     have hr2:=Lib.run_append_room_string (P:=P) w t u ty e i ht hu hi hsize g0 n cap cur hh s hroom (by omega);rw[hr] at hr2;cases hr2;exact .inl hg
   . have holds:∀j u,xs[j]?=some u->w.cell? ((⟨g0,0,none⟩:Addr).add j)=some u:=hown.cells (g:=g0) rfl;have hr2:=Lib.run_append_grow_string (P:=P) w t u ty e i (.int .u8 0) ht hu hi hz ⟨g0,0,none⟩ n cap xs (by rw[hsize];simpa using hxl) holds s (by omega) (by omega) (by rw[hby];exact growslice_fits (by omega) (by omega));rw[hr] at hr2;cases hr2;cases hg;exact .inr (p0 _)
def a6T (w:World)(v:Value)(n:Nat)(xs:List Value)(s:ByteArray)(row:Option Nat):Prop:=
 (row=v.ownBlock/\w.ownsRow 0 5 1 v n xs)\/(row=none/\s.size≠0/\n=0/\xs=[]/\∃a,v= .slice (some a) 0 0)
theorem c3y {P:Program}(w:World)(t u ty:TypeId)(i:TypeInfo)(ht:P.underlying t=some (.slice 5))(hu:P.underlying u=some .string)(hi:P.info? 5=some i)(hz:i.zero=some (.int .u8 0))
 (hsize:i.size=1) (hby:i.bytes=1)
 (v:Value) (n:Nat) (xs:List Value) (s:ByteArray) (row:Option Nat) (hown:a6T w v n xs s row)
 (h63:n+s.size<=maxLen) (hbytes:n+s.size<=140737488355328):
 ∃ v' w',(Builtin.append_ #[t,u] ty #[v, .string s]).run P w= .ok v' w'/\w'.ownsRow 0 5 1 v' (n+s.size) (xs++Lib.strCells s)/\w.grownBy w' row/\
   (∀g,v'.ownBlock=some g->row=some g\/w.heap.size<=g):=by
 rcases hown with⟨rfl,h⟩|⟨rfl,h0,rfl,rfl,ad,rfl⟩
 . exact c3z w t u ty 5 i ht hu hi hz hsize hby v n xs h s h63 hbytes
 . have hr:=Lib.run_append_grow_string (P:=P) w t u ty 5 i (.int .u8 0) ht hu hi hz ad 0 0 [] (by simp) (by simp) s (by omega) (by simp only[maxLen] at h63;omega) (by rw[hby];exact growslice_fits (by omega) (by omega));have hlen:(Lib.strCells s).length=(0+s.size)*1:=by rw[Lib.strCells_length];omega
   refine⟨_,_,hr,⟨hlen, .inr ⟨w.heap.size,_,_,rfl,F4 _,heap_alloc_new w.drew _,grownCap_ge w (0+s.size) 0 5,grownCap_le_maxLen w (0+s.size) 0 5 h63,?_,?_⟩⟩,⟨rfl,rfl,rfl,by simp,λk hk _=>heap_alloc_old w.drew _ hk⟩,λg hg=>?_⟩
   . have hge:=grownCap_ge w (0+s.size) 0 5;have hz1:(Value.int IntKind.u8 0).cells.size=1:=rfl;simp only[Array.size_append,List.size_toArray,size_zeroCells,hz1,Lib.strCells_length,j8];omega
   . simp only[Array.toList_append,n9,y8];rw[<-hlen];exact List.take_left
   . cases hg;exact .inr (p0 _)
theorem d5t {P:Program}{w:World}{ops:Array Oper}{rest:List Oper}{o:Oper}{a:Act}{Q:Exit->Act->World->Prop}(hgd:o.guard=none)(sl x:Operand)(t u:TypeId)
 (ho:o.op= .call {callee:= .builtin .append,args:= #[sl,x],argTypes:= #[t,u]})
 (i:TypeInfo) (ht:P.underlying t=some (.slice 5)) (hu:P.underlying u=some .string) (hi:P.info? 5=some i) (hz:i.zero=some (.int .u8 0))
 (hsize:i.size=1) (hby:i.bytes=1)
 (v:Value) (n:Nat) (xs:List Value) (hs:a.eval sl=v) (s:ByteArray) (row:Option Nat) (hown:a6T w v n xs s row) (hx:a.eval x= .string s)
 (h63:n+s.size<=maxLen) (hbytes:n+s.size<=140737488355328)
 (h:∀v' w',w'.ownsRow 0 5 1 v' (n+s.size) (xs++Lib.strCells s)->w.grownBy w' row->(∀g,v'.ownBlock=some g->row=some g\/w.heap.size<=g)->wpList P ops Q rest (a.put o.dst v') w'):wpList P ops Q (o::rest) a w:=by
 refine wpList_plain hgd λK hK=>?_;obtain⟨v',w',hr,h2,h3,h4⟩:=c3y (P:=P) w t u o.type i ht hu hi hz hsize hby v n xs s row hown h63 hbytes;unfold Oper.wp execOp;simp only[ho,resolve,invoke,builtin,r4,H3,r8,List.map_toArray,o5,B8,hs,hx,hr];exact hK _ _ (h v' w' h2 h3 h4)
theorem c0i {w:World}{b:Nat}{cs:Array Value}{ty:TypeId}{fz:Nat×Nat}(h:w.heap[b]?=some (.cells cs ty fz))(o:Nat)(v:Value):(w.setCell ⟨b,o,none⟩ v).heap[b]?=some (.cells (cs.setIfInBounds o v) ty fz):=by
 simp[World.setCell,Array.getElem?_modify,h]
theorem d5z (b:Nat)(w:World)(cs:Array Value)(T:TypeId)(p v:Value)(n:Nat)(xs:List Value)(s:ByteArray)
 (hbk:w.heap[b]?=some (.cells cs T (0,0))) (h0:cs[0]?=some p) (h1:cs[1]?=some v)
 (hp:p= .pointer (some ⟨b,0,none⟩)\/(p= .pointer none/\liesAt Tryz.prog Tryz.prog.depth T (cs.size/Tryz.prog.cellsOf T) 0 88 1=true))
 (row:Option Nat) (hown:a6T w v n xs s row) (hne:row≠some b) (hlen:n+s.size<=140737488355328) (hcap:n+s.size<=maxLen):
 Calls Tryz.prog 78 #[.pointer (some ⟨b,0,none⟩), .string s] w λe w'=>e= .returned (.tuple #[.int .i64 s.size, .nilIface])/\∃v' w1 w2,(w1=w\/w1=w.setCell ⟨b,0,none⟩ (.pointer (some ⟨b,0,none⟩)))/\
  w1.grownBy w2 row/\w2.heap[b]?=some (.cells (cs.setIfInBounds 0 (.pointer (some ⟨b,0,none⟩))) T (0,0))/\w2.ownsRow 0 5 1 v' (n+s.size) (xs++Lib.strCells s)/\(∀g,v'.ownBlock=some g->row=some g\/w.heap.size<=g)/\
  w'=w2.setCell ⟨b,1,none⟩ v':=by
 obtain⟨i0,hi,hz0,hz1,hz2⟩:=info_parts (show(Tryz.prog.info? 5).map (λi=>(i.zero,i.size,i.bytes))=some (some (.int .u8 0),1,1) by kernel_rfl);have t72:=Tryz.underlying88;have a72:=Tryz.isAgg88;have z72:=Tryz.sizeOf88;have v72:=Tryz.zeroValue88;have u72:=run_underlying Tryz.underlying88;have t70:=Tryz.underlying86;have a70:=Tryz.isAgg86;have z70:=Tryz.sizeOf86;have v70:=Tryz.zeroValue86;have u70:=run_underlying Tryz.underlying86;have t37:=Tryz.underlying36;have a37:=Tryz.isAgg36;have z37:=Tryz.sizeOf36;have v37:=Tryz.zeroValue36;have u37:=run_underlying Tryz.underlying36;have t9:=Tryz.underlying9;have a9:=Tryz.isAgg9;have z9:=Tryz.sizeOf9;have v9:=Tryz.zeroValue9;have u9:=run_underlying Tryz.underlying9;have t5:=Tryz.underlying5;have a5:=Tryz.isAgg5;have z5:=Tryz.sizeOf5;have v5:=Tryz.zeroValue5;have u5:=run_underlying Tryz.underlying5;have t3:=Tryz.underlying3;have a3:=Tryz.isAgg3;have z3:=Tryz.sizeOf3;have v3:=Tryz.zeroValue3;have u3:=run_underlying Tryz.underlying3;have t4:=Tryz.underlying4;have a4:=Tryz.isAgg4;have z4:=Tryz.sizeOf4;have v4:=Tryz.zeroValue4;have u4:=run_underlying Tryz.underlying4;have e240:∀args w,(callFunc 162 args).run Tryz.prog w= .ok (.enter 162 args) w:=enters_of Tryz.func162 (by kernel_rfl) rfl;have hsz:1<cs.size:=by
  rcases C5 1 cs.size with h|h
  . exact h
  . rw[a6S h] at h1;cases h1
 have hcc:Calls Tryz.prog 162 #[.pointer (some ⟨b,0,none⟩)] w λe w'=>e= .returned (.tuple #[])/\(w'=w\/w'=w.setCell ⟨b,0,none⟩ (.pointer (some ⟨b,0,none⟩)))/\w'.heap[b]?=some (.cells (cs.setIfInBounds 0 (.pointer (some ⟨b,0,none⟩))) T (0,0)):=by
  have c0:w.cell? ⟨b,0,none⟩=some p:=by simp only[World.cell?,hbk];exact h0
  rcases hp with rfl|⟨rfl,hl⟩
  . refine(c4E b w c0).mono ?_;rintro e w' ⟨rfl,rfl⟩;refine⟨rfl, .inl rfl,?_⟩;rw[hbk];congr 2
    apply Array.ext_getElem?;intro j;rw[Array.getElem?_setIfInBounds];split
    . rename_i e;subst e;rw[d4 (by omega),h0]
    . rfl
  . refine(c4D b w c0 (e:=T) (n:=cs.size) (by simp[World.shape?,hbk]) (by omega) hl (Lib.frozen_of_heap hbk 0)).mono ?_;rintro e w' ⟨rfl,rfl⟩;exact⟨rfl, .inr rfl,c0i hbk 0 _⟩
 go_enter Tryz.func78,Tryz.ntmps78
 go_wp2_with (go_at_fn 162;refine hcc.mono ?_)
 rintro e w1 ⟨rfl,hw1,hb1⟩;have c1:w1.cell? ⟨b,1,none⟩=some v:=by
  simp only[World.cell?,hb1];rw[Array.getElem?_setIfInBounds_ne (by decide)];exact h1
 have hown1:a6T w1 v n xs s row:=by
  rcases hw1 with rfl|rfl
  . exact hown
  . rcases hown with⟨rfl,h⟩|h
    . exact .inl ⟨rfl,ownsRow_setCell_other h (a:=⟨b,0,none⟩) hne _⟩
    . exact .inr h
 have hsz1:w1.heap.size=w.heap.size:=by
  rcases hw1 with rfl|rfl
  . rfl
  . exact World.size_setCell ..
 go_wp2_with (at_builtin;refine d5t rfl _ _ 36 9 rfl i0 Tryz.underlying36 Tryz.underlying9 hi hz0 hz1 hz2 _ _ _ rfl s row hown1 rfl ?c3 ?c4 ?_)
 case c3=>exact hcap
 case c4=>exact hlen
 intro v' w2 hown' hgrow hblk;have hlt:b<w1.heap.size:=World.block_lt_of_cell? w1 _ c1;have hb2:w2.heap[b]?=some (.cells (cs.setIfInBounds 0 (.pointer (some ⟨b,0,none⟩))) T (0,0)):=by
  rw[hgrow.block b hlt (λe=>hne e.symm)];exact hb1
 have d1:w2.cell? ⟨b,1,none⟩=some v:=by
  simp only[World.cell?,hb2];rw[Array.getElem?_setIfInBounds_ne (by decide)];exact h1
 have f1:w2.frozen? ⟨b,1,none⟩=false:=Lib.frozen_of_heap hb2 1;obtain⟨ao,n',cap,rfl⟩:∃ao n' cap,v'= .slice ao n' cap:=by
  rcases hown'.2 with⟨hv,_⟩|⟨g,cap,cur,hv,_⟩
  . exact⟨_,_,_,hv⟩
  . exact⟨_,_,_,hv⟩
 go_wp2
 go_ret2
 exact⟨rfl,_,w1,w2,hw1,hgrow,hb2,hown',λg hg=>hblk g hg,rfl⟩
variable {γ:Gm} {V:Know} {W:World}
def X5 (l:List UInt8):List (List D):=l.map λb=>[.v (.int .u8 b.toNat)]
theorem a5O (l:List UInt8):(X5 l).length=l.length:=by simp[X5]
theorem c3P (l:List UInt8):∀ds∈X5 l,ds.length=1:=by
 intro ds h;simp only[X5,v6] at h;obtain⟨b,_,rfl⟩:=h;rfl
theorem b6e (l:List UInt8):(X5 l).flatten=l.map λb=>D.v (.int .u8 b.toNat):=by
 induction l with
 |nil=>rfl
 |cons b l ih=>rw[X5,o5,K0];rw[show(List.map (λb:UInt8=>[D.v (.int .u8 b.toNat)]) l).flatten=(X5 l).flatten from rfl,ih];rfl
theorem b6f {vals:List Value}:∀{l:List UInt8},Reps V vals (X5 l).flatten->vals=Lib.byteCells l:=by
 intro l h;rw[b6e] at h;apply O0;intro i;cases hb:l[i]? with
 | none=>
   have h1:l.length<=i:=b1z.1 hb;have h2:=h.len;rw[o9] at h2;rw[z6 (by omega),z6 (by rw[Lib.byteCells_length];omega)]
 | some b=>
   obtain⟨u,hu,hr⟩:=h.at (i:=i) (d:= .v (.int .u8 b.toNat)) (by rw[z7,hb];rfl);rw[hu,hr.v_inv.1,Lib.byteCells,z7,hb];rfl
theorem c3Q (V:Know)(l:List UInt8):Reps V (Lib.byteCells l) (X5 l).flatten:=by
 rw[b6e];refine⟨by simp[Lib.byteCells],λi u d hu hd=>?_⟩;rw[Lib.byteCells,z7] at hu;rw[z7] at hd;cases hb:l[i]? with
 |none=>rw[hb] at hu;cases hu
 | some b=>
   rw[hb] at hu hd;cases hu;cases hd;exact Rep.int ⟨by omega,by have:=b.toNat_lt;omega⟩
theorem c1v {ty:TypeId}{rest:List Base}{L:List Nat}(n m:Nat)(hnm:n≠m)(hs:Sees V W){blk:Nat}{cs:Array Value}(hg:γ n=(.pointer (some ⟨blk,0,none⟩),some blk))(hh:W.heap[blk]?=some (.cells cs ty (0,0)))
 {c0 v:Value} {cr:List Value} (hcs:cs.toList=c0::v::cr) (hr:All2 (RVb γ V) rest cr) (hrd:∀b∈rest,∃d,b= .d d) (h1:∀u∈cs.toList,u.oneCell'=true) (hvn:∀o,V.cell blk o=none)
 (l s:List UInt8) (row:Option Nat) (hbuf:a6T W v l.length (Lib.byteCells l) ⟨⟨s⟩⟩ row) (hrow:∀g,row=some g->g≠blk/\(∀o,V.cell g o=none)/\(∃cur e fz,W.heap[g]?=some (.cells cur e fz))/\g∈L) (hL:blk∈L)
 (hp:c0= .pointer (some ⟨blk,0,none⟩)\/(c0= .pointer none/\liesAt Tryz.prog Tryz.prog.depth ty (cs.size/Tryz.prog.cellsOf ty) 0 88 1=true))
 (hlen:l.length+s.length<=140737488355328) (hne:l++s≠[]):
 Calls Tryz.prog 78 #[.pointer (some ⟨blk,0,none⟩), .string ⟨⟨s⟩⟩] W λe W'=>∃γ',e= .returned (.tuple #[.int .i64 s.length, .nilIface])/\BelowX L W.heap.size W W'/\Sees V W'/\
  A2 γ' V W' [(n, .box (.loc n 0:: .own m::rest) ty),(m, .sl ⟨5,1,X5 (l++s),false⟩)]/\γ' n=γ n/\(∃g',(γ' m).2=some g'/\g'≠blk/\(row=some g'\/W.heap.size<=g')):=by
 have hblt:=R0 hh;have hsz:(⟨⟨s⟩⟩:ByteArray).size=s.length:=rfl;refine(d5z blk W cs ty c0 v l.length (Lib.byteCells l) ⟨⟨s⟩⟩ hh (by rw[<-Array.getElem?_toList,hcs];rfl) (by rw[<-Array.getElem?_toList,hcs];rfl) hp row hbuf (λe=>(hrow blk e).1 rfl) (by rw[hsz];exact hlen) (by rw[hsz];unfold maxLen;omega)).mono ?_;rintro e W' ⟨rfl,v',w1,w2,hw1,hgrow,hb2,hown',hblk,rfl⟩;rw[hsz] at hown';have hs1:w1.heap.size=W.heap.size:=by
  rcases hw1 with rfl|rfl
  . rfl
  . exact World.size_setCell ..
 have hk1:∀k,k≠blk->w1.heap[k]?=W.heap[k]?:=by
  intro k hk;rcases hw1 with rfl|rfl
  . rfl
  . exact Below.heap_setCell W _ _ k hk
 have hkeep:∀k,k<W.heap.size->k≠blk->row≠some k->(w2.setCell ⟨blk,1,none⟩ v').heap[k]?=W.heap[k]?:=by
  intro k hk hkb hkr;rw[Below.heap_setCell w2 _ v' k hkb,hgrow.block k (by rw[hs1];exact hk) (λe=>hkr e.symm),hk1 k hkb]
 have hlpos:0<l.length+s.length:=by
  rcases Nat.eq_zero_or_pos (l.length+s.length) with h|h
  . exact absurd (C8 (by rw[j6];exact h)) hne
  . exact h
 have hbytes:Lib.byteCells l++Lib.strCells ⟨⟨s⟩⟩=Lib.byteCells (l++s):=by rw[Lib.byteCells_append,Lib.strCells_eq]
 rw[hbytes] at hown';obtain⟨g',cap,cur,rfl,-,hg',hnc,hcm,hcz,htk⟩:∃g cap cur,v'= .slice (some ⟨g,0,none⟩) (l.length+s.length) cap/\0<=g/\w2.heap[g]?=some (.cells cur 5 (0,0))/\l.length+s.length<=cap/\cap<=maxLen/\cur.size=cap*1/\cur.toList.take ((l.length+s.length)*1)=Lib.byteCells (l++s):=by
  rcases hown'.2 with⟨_,h0⟩|h
  . omega
  . exact h
 have hgb:=hblk g' rfl;have hgne:g'≠blk:=by
  rcases hgb with h|h
  . exact(hrow g' h).1
  . omega
 have hgcell:∀o,V.cell g' o=none:=by
  rcases hgb with h|h
  . exact(hrow g' h).2.1
  . intro o;cases hx:V.cell g' o with
    |none=>rfl
    |some u=>have:=hs.lt hx;omega
 have hg2:(w2.setCell ⟨blk,1,none⟩ (.slice (some ⟨g',0,none⟩) (l.length+s.length) cap)).heap[g']?=some (.cells cur 5 (0,0)):=by
  rw[Below.heap_setCell w2 _ _ g' hgne];exact hg'
 refine⟨J3 γ m (.slice (some ⟨g',0,none⟩) (l.length+s.length) cap,some g'),by rw[hsz],⟨?_,?_,?_,?_,λk hk hkl=>hkeep k hk (λe=>hkl (e▸hL)) (λe=>hkl (hrow k e).2.2.2)⟩,?_,?_,M2 hnm,g',by rw[M3],hgne,hgb⟩
 . exact hgrow.os.trans (by rcases hw1 with rfl|rfl<;>rfl)
 . exact hgrow.tape.trans (by rcases hw1 with rfl|rfl<;>rfl)
 . exact hgrow.output.trans (by rcases hw1 with rfl|rfl<;>rfl)
 . rw[World.size_setCell,<-hs1];exact hgrow.size
 . refine ⟨λb o u hc=>?_,λr x hx=>?_,hs.lib,hs.keepRow λb o u hc=>hkeep b (hs.lt hc) (λe=>by subst e;rw[hvn] at hc;cases hc) (λe=>by rw[(hrow b e).2.1] at hc;cases hc)⟩
   . have hb1:b≠blk:=λe=>by subst e;rw[hvn] at hc;cases hc
     have hb2:row≠some b:=λe=>by rw[(hrow b e).2.1] at hc;cases hc
     have:=hs.cell b o u hc;simp only[World.cell?,hkeep b (hs.lt hc) hb1 hb2] at this⊢;exact this
   . obtain⟨q1,es,clock,rfl⟩:=hs.obj r x hx;refine⟨?_,es,clock,rfl⟩;rw[hkeep r (R0 q1) (λe=>by subst e;rw[hh] at q1;cases q1) (λe=>by obtain⟨_,_,⟨_,_,_,q⟩,_⟩:=hrow r e;rw[q] at q1;cases q1)];exact q1
 . intro k b hl;by_cases e:n=k
   . subst e;rw[w9] at hl;cases hl;rw[M2 hnm];have hcsz:cs.size=cr.length+2:=by rw[<-a3c,hcs];rfl
     have hcl:((cs.setIfInBounds 0 (.pointer (some ⟨blk,0,none⟩))).setIfInBounds 1 (.slice (some ⟨g',0,none⟩) (l.length+s.length) cap)).toList= .pointer (some ⟨blk,0,none⟩):: .slice (some ⟨g',0,none⟩) (l.length+s.length) cap::cr:=by
      rw[Array.toList_setIfInBounds,Array.toList_setIfInBounds,hcs];rfl
     refine⟨blk,_,hg,c0i hb2 1 _,?_,?_,hvn⟩
     . rw [hcl];refine .cons ⟨blk,?_,rfl⟩ (.cons ?_ (hr.imp λb hb y hy=>?_))
       . rw[M2 hnm,hg]
       . show _=(J3 γ m _ m).1;rw[M3]
       . obtain⟨d,rfl⟩:=hrd b hb;exact hy
     . rw [hcl];intro u hu;rcases p8.1 hu with rfl|hu
       . rfl
       . rcases p8.1 hu with rfl|hu
         . rfl
         . exact h1 u (by rw[hcs];exact r6 _ (r6 _ hu))
   . rw [p5 e] at hl;by_cases e2:m=k
     . subst e2;rw[w9] at hl;cases hl;rw[M3];refine .inl ⟨g',_,cap,Lib.byteCells (l++s),rfl,?_,c3P _,c3Q V _,?_,hgcell⟩
       . show World.ownsRow _ 0 5 1 _ (X5 (l++s)).length _;rw[a5O,j6];exact⟨hown'.1, .inr ⟨g',cap,cur,rfl,F4 _,hg2,hnc,hcm,hcz,htk⟩⟩
       . intro u hu;simp only[Lib.byteCells,v6] at hu;obtain⟨b,_,rfl⟩:=hu;rfl
     . rw[p5 e2,r7] at hl;cases hl
abbrev J0 (l:List UInt8):OwnS:=⟨5,1,X5 l,false⟩
abbrev a6Q (s:List UInt8):D:= .tup [.v (.int .i64 s.length), .v .nilIface]
theorem c1t (V:Know)(s:List UInt8)(h:s.length<=140737488355328):Rep V (.tuple #[.int .i64 s.length, .nilIface]) (a6Q s):=by
 have h2:Reps V [.int .i64 s.length, .nilIface] [.v (.int .i64 s.length), .v .nilIface]:= .cons (Rep.int ⟨by omega,by omega⟩) (.cons (.v _ ⟨rfl,λ_ _ e=>by cases e⟩) (.nil V));exact .tup _ _ h2.len h2.get
theorem b0q {ty:TypeId}{rest:List Base}(n m:Nat)(hnm:n≠m)(hrd:∀b∈rest,∃d,b= .d d)(l s:List UInt8)(hl:l≠[])(hlen:l.length+s.length<=140737488355328)(hm9:Nat.ble 9000 m=false:=by rfl):
 MeetsR Tryz.prog 78 [.loc n 0, .d (.str s)] [(n, .box (.loc n 0:: .own m::rest) ty),(m, .sl (J0 l))] λo O'=>o= .ret (.d (a6Q s))/\O'=[(n, .box (.loc n 0:: .own m::rest) ty),(m, .sl (J0 (l++s)))]:=by
 refine⟨⟨_,_,Tryz.func78,rfl,rfl⟩,λγ V W xs hs hv ho hi=>?_⟩;obtain⟨x,xs',rfl,⟨blk,hx,rfl⟩,hv'⟩:=hv.cons_l;obtain⟨y,xs'',rfl,hy,hv''⟩:=hv'.cons_l;obtain rfl:=hv''.nil_l;obtain⟨rfl,-⟩:=Rep.str_inv hy;have hln:=w9 n (Blk.box (.loc n 0:: .own m::rest) ty) [(m,Blk.sl (J0 l))];have hlm:d7 m [(n,Blk.box (.loc n 0:: .own m::rest) ty),(m,Blk.sl (J0 l))]=some (.sl (J0 l)):=by rw[p5 hnm,w9]
 obtain⟨blk',cs,hg,hh,hc,h1,hvn⟩:=ho n _ hln;rw[hg] at hx;cases hx;obtain⟨c0,cs1,hcs,⟨b2,hb2,rfl⟩,hr0⟩:=hc.cons_l;rw[hg] at hb2;cases hb2;obtain⟨c1,cr,rfl,hc1,hr⟩:=hr0.cons_l;obtain rfl:c1=(γ m).1:=hc1;rcases ho m _ hlm with⟨g,nn,c,vals,hgm,hown,hk,hvals,hv1,hpub⟩|⟨h,_⟩;rotate_left
 . rcases h with h|h
   . cases h
   . exact absurd (C8 (by rw[<-a5O,show X5 l=[] from h];rfl)) hl
 obtain rfl:=b6f hvals;have hpub:∀o,V.cell g o=none:=hpub;have hown:W.ownsRow 0 5 1 (γ m).1 l.length (Lib.byteCells l):=by rw[<-a5O l];exact hown
 have hgne:g≠blk:=λe=>hi n m _ _ hln hlm hnm blk (by rw[hg]) (by rw[hgm,e]);obtain⟨cur,-,hgc,-⟩:=Q0 (by rw[hgm] at hown;exact hown);refine(c1v (L:=o8 γ [(n,Blk.box (.loc n 0:: .own m::rest) ty),(m, .sl (J0 l))]) n m hnm hs hg hh hcs hr hrd h1 hvn l s (some g) (.inl ⟨by rw[hgm];rfl,hown⟩) ?_ ?_ (.inl rfl) hlen (by simp[hl])).mono ?_
 . intro g2 e;cases e;exact⟨hgne,hpub,⟨cur,5,(0,0),hgc⟩,R6.2 ⟨(m, .sl (J0 l)),by simp,by rw[hgm]⟩⟩
 . exact R6.2 ⟨(n, .box (.loc n 0:: .own m::rest) ty),by simp,by rw[hg]⟩
 . rintro e W' ⟨γ',rfl,a1,a2,a3,a4,g',a5,a6,a7⟩;refine⟨γ',V, .ret (.d (a6Q s)),_,c1t V s (by omega),a1,Fresh.refl V _ _,a2,a3,λk b hkk q hq=>?_,λk k' b b' hkk hkk' hne q hq=>?_,λk b hkk hb=>?_,rfl,rfl⟩
   . by_cases e:n=k
     . subst e;rw[a4,hg] at hq;cases hq;exact .inl (R6.2 ⟨(n, .box (.loc n 0:: .own m::rest) ty),by simp,by rw[hg]⟩)
     . rw [p5 e] at hkk;by_cases e2:m=k
       . subst e2;rw[a5] at hq;cases hq;rcases a7 with e|h
         . cases e;exact .inl (R6.2 ⟨(m, .sl (J0 l)),by simp,by rw[hgm]⟩)
         . exact .inr h
       . rw[p5 e2,r7] at hkk;cases hkk
   . have two:∀{k b},d7 k [(n,Blk.box (.loc n 0:: .own m::rest) ty),(m,Blk.sl (J0 (l++s)))]=some b->k=n\/k=m:=by
      intro k b h;by_cases e:n=k
      . exact .inl e.symm
      . rw[p5 e] at h;by_cases e2:m=k
        . exact .inr e2.symm
        . rw[p5 e2,r7] at h;cases h
     rcases two hkk with rfl|rfl<;>rcases two hkk' with rfl|rfl
     . exact absurd rfl hne
     . rw[a4,hg] at hq;cases hq;rw[a5];intro e;exact a6 (U7 e)
     . rw[a5] at hq;cases hq;rw[a4,hg];intro e;exact a6 (U7 e).symm
     . exact absurd rfl hne
   . by_cases e:n=k
     . subst e;exact a4
     . rw[p5 e] at hkk;by_cases e2:m=k
       . subst e2;rw[w9] at hkk;cases hkk;exact absurd (hm9.symm.trans hb) (by decide)
       . rw[p5 e2,r7] at hkk;cases hkk
theorem c8X {ty:TypeId}{rest:List Base}(n m:Nat)(hnm:n≠m)(hrd:∀b∈rest,∃d,b= .d d)(s:List UInt8)(hs0:s≠[])(hlen:s.length<=140737488355328)
 (hlie:liesAt Tryz.prog Tryz.prog.depth ty ((rest.length+2)/Tryz.prog.cellsOf ty) 0 88 1=true):
 MeetsR Tryz.prog 78 [.loc n 0, .d (.str s)] [(n, .box (.d (.v (.pointer none)):: .d (.raw (.slice none 0 0))::rest) ty)] λo O'=>o= .ret (.d (a6Q s))/\O'=[(n, .box (.loc n 0:: .own m::rest) ty),(m, .sl (J0 s))]:=by
 refine⟨⟨_,_,Tryz.func78,rfl,rfl⟩,λγ V W xs hs hv ho hi=>?_⟩;obtain⟨x,xs',rfl,⟨blk,hx,rfl⟩,hv'⟩:=hv.cons_l;obtain⟨y,xs'',rfl,hy,hv''⟩:=hv'.cons_l;obtain rfl:=hv''.nil_l;obtain⟨rfl,-⟩:=Rep.str_inv hy;have hln:=w9 n (Blk.box (.d (.v (.pointer none)):: .d (.raw (.slice none 0 0))::rest) ty) [];obtain⟨blk',cs,hg,hh,hc,h1,hvn⟩:=ho n _ hln;rw[hg] at hx;cases hx;obtain⟨c0,cs1,hcs,hc0,hr0⟩:=hc.cons_l;obtain⟨rfl,-⟩:=Rep.v_inv hc0;obtain⟨c1,cr,rfl,hc1,hr⟩:=hr0.cons_l;obtain rfl:c1= .slice none 0 0:=by
  have hc1:Rep V c1 (.raw (.slice none 0 0)):=hc1;cases hc1;rfl
 have hcsz:cs.size=rest.length+2:=by rw[<-a3c,hcs,i7,i7,hr.len]
 refine(c1v (L:=o8 γ [(n,Blk.box (.d (.v (.pointer none)):: .d (.raw (.slice none 0 0))::rest) ty)]) n m hnm hs hg hh hcs hr hrd h1 hvn [] s none (.inl ⟨rfl,rfl, .inl ⟨rfl,rfl⟩⟩) (λg e=>by cases e) ?_ (.inr ⟨rfl,by rw[hcsz];exact hlie⟩) (by simpa using hlen) (by simpa using hs0)).mono ?_
 . exact R6.2 ⟨(n, .box (.d (.v (.pointer none)):: .d (.raw (.slice none 0 0))::rest) ty),by simp,by rw[hg]⟩
 . rintro e W' ⟨γ',rfl,a1,a2,a3,a4,g',a5,a6,a7⟩;have two:∀{k b},d7 k [(n,Blk.box (.loc n 0:: .own m::rest) ty),(m,Blk.sl (J0 s))]=some b->k=n\/k=m:=by
    intro k b h;by_cases e:n=k
    . exact .inl e.symm
    . rw[p5 e] at h;by_cases e2:m=k
      . exact .inr e2.symm
      . rw[p5 e2,r7] at h;cases h
   refine⟨γ',V, .ret (.d (a6Q s)),_,c1t V s (by omega),a1,Fresh.refl V _ _,a2,a3,λk b hkk q hq=>?_,λk k' b b' hkk hkk' hne q hq=>?_,λk b hkk hb=>?_,rfl,rfl⟩
   . rcases two hkk with rfl|rfl
     . rw[a4,hg] at hq;cases hq;exact .inl (R6.2 ⟨(k, .box (.d (.v (.pointer none)):: .d (.raw (.slice none 0 0))::rest) ty),by simp,by rw[hg]⟩)
     . rw[a5] at hq;cases hq;rcases a7 with e|h
       . cases e
       . exact .inr h
   . rcases two hkk with rfl|rfl<;>rcases two hkk' with rfl|rfl
     . exact absurd rfl hne
     . rw[a4,hg] at hq;cases hq;rw[a5];intro e;exact a6 (U7 e)
     . rw[a5] at hq;cases hq;rw[a4,hg];intro e;exact a6 (U7 e).symm
     . exact absurd rfl hne
   . by_cases e:n=k
     . subst e;exact a4
     . rw[p5 e,r7] at hkk;cases hkk
theorem d2P (b g cap:Nat)(w:World)(cs cur:Array Value)(T:TypeId)(l:List UInt8)(h0:l≠[])(hbk:w.heap[b]?=some (.cells cs T (0,0)))(hc1:cs[1]?=some (.slice (some ⟨g,0,none⟩) l.length cap))
 (hg:w.heap[g]?=some (.cells cur 5 (0,0))) (hown:w.ownsRow 0 5 1 (.slice (some ⟨g,0,none⟩) l.length cap) l.length (Lib.byteCells l)):
 Calls Tryz.prog 39 #[.pointer (some ⟨b,0,none⟩)] w λe w'=>e= .returned (.string ⟨⟨l⟩⟩)/\w'=w.drew.freeze ⟨g,0,none⟩ l.length:=by
 have hl0:l.length≠0:=by simpa using h0
 obtain ⟨hnc,hcm,hcz⟩:l.length<=cap/\cap<=maxLen/\cur.size=cap*1:=by
  rcases hown.2 with⟨h,_⟩|⟨g2,cap2,cur2,hv,_,hg2,r1,r2,r3,_⟩
  . cases h
  . cases hv;rw[hg] at hg2;cases hg2;exact⟨r1,r2,r3⟩
 have c1:w.drew.cell? ⟨b,1,none⟩=some (.slice (some ⟨g,0,none⟩) l.length cap):=by
  have:w.drew.heap[b]?=some (.cells cs T (0,0)):=hbk;simp only[World.cell?,this];exact hc1
 have hSD:(Builtin.unsafeSliceData_ #[36] 159 #[.slice (some ⟨g,0,none⟩) l.length cap]).run Tryz.prog w.drew= .ok (.pointer (some ⟨g,0,none⟩)) w.drew:=
  Lib.run_unsafeSliceData_row _ _ _ _ _ _ (by omega)
 have hUS:(Builtin.unsafeString_ #[159,3] 9 #[.pointer (some ⟨g,0,none⟩), .int .i64 l.length]).run Tryz.prog w.drew= .ok (.string ⟨l.toArray⟩) (w.drew.freeze ⟨g,0,none⟩ l.length):=by
  refine Lib.run_unsafeString_row w.drew 159 3 9 5 Tryz.underlying159 (by kernel_rfl) g cur.size (by have hg':w.drew.heap[g]?=some (.cells cur 5 (0,0)):=hg;simp[World.shape?,hg']) l h0 (by omega) (by unfold maxLen at hcm;omega) ?_;intro j x hx;have:=hown.cells (g:=g) rfl j (.int .u8 x.toNat) (by simp[Lib.byteCells,hx]);exact this
 have t72:=Tryz.underlying88;have a72:=Tryz.isAgg88;have z72:=Tryz.sizeOf88;have v72:=Tryz.zeroValue88;have u72:=run_underlying Tryz.underlying88;have t70:=Tryz.underlying86;have a70:=Tryz.isAgg86;have z70:=Tryz.sizeOf86;have v70:=Tryz.zeroValue86;have u70:=run_underlying Tryz.underlying86;have t37:=Tryz.underlying36;have a37:=Tryz.isAgg36;have z37:=Tryz.sizeOf36;have v37:=Tryz.zeroValue36;have u37:=run_underlying Tryz.underlying36;have t127:=Tryz.underlying159;have a127:=Tryz.isAgg159;have z127:=Tryz.sizeOf159;have v127:=Tryz.zeroValue159;have u127:=run_underlying Tryz.underlying159;have t3:=Tryz.underlying3;have a3:=Tryz.isAgg3;have z3:=Tryz.sizeOf3;have v3:=Tryz.zeroValue3;have u3:=run_underlying Tryz.underlying3;have t9:=Tryz.underlying9;have a9:=Tryz.isAgg9;have z9:=Tryz.sizeOf9;have v9:=Tryz.zeroValue9;have u9:=run_underlying Tryz.underlying9;have t5:=Tryz.underlying5;have a5:=Tryz.isAgg5;have z5:=Tryz.sizeOf5;have v5:=Tryz.zeroValue5;have u5:=run_underlying Tryz.underlying5;go_enter Tryz.func39,Tryz.ntmps39
 go_wp2
 go_region
 all_goals (go_wp2;go_ret;exact⟨rfl,rfl⟩)
variable {γ:Gm} {V:Know} {W:World}
theorem c6T (w:World)(g n k:Nat)(h:k≠g):(w.freeze ⟨g,0,none⟩ n).heap[k]?=w.heap[k]?:=by
 unfold World.freeze;split
 . rfl
 . simp only[Array.getElem?_modify];rw[c8 (λe=>h e.symm)]
theorem b8K {ty:TypeId}{rest:List Base}(n m:Nat)(hnm:n≠m)(c:Base)(l:List UInt8)(hl:l≠[])(hlen:l.length<=maxLen):
 MeetsR Tryz.prog 39 [.loc n 0] [(n, .box (c:: .own m::rest) ty),(m, .sl (J0 l))] λo O'=>o= .ret (.d (.str l))/\O'=[(n, .box (.d .junk:: .d .junk::rest) ty)]:=by
 refine⟨⟨_,_,Tryz.func39,rfl,rfl⟩,λγ V W xs hs hv ho hi=>?_⟩;obtain⟨x,xs',rfl,⟨blk,hx,rfl⟩,hv'⟩:=hv.cons_l;obtain rfl:=hv'.nil_l;have hln:=w9 n (Blk.box (c:: .own m::rest) ty) [(m,Blk.sl (J0 l))];have hlm:d7 m [(n,Blk.box (c:: .own m::rest) ty),(m,Blk.sl (J0 l))]=some (.sl (J0 l)):=by rw[p5 hnm,w9]
 obtain⟨blk',cs,hg,hh,hc,h1,hvn⟩:=ho n _ hln;rw[hg] at hx;cases hx;obtain⟨c0,cs1,hcs,hc0,hr0⟩:=hc.cons_l;obtain⟨c1,cr,rfl,hc1,hr⟩:=hr0.cons_l;obtain rfl:c1=(γ m).1:=hc1;rcases ho m _ hlm with⟨g,nn,cap,vals,hgm,hown,hk,hvals,hv1,hpub⟩|⟨h,_⟩;rotate_left
 . rcases h with h|h
   . cases h
   . exact absurd (C8 (by rw[<-a5O,show X5 l=[] from h];rfl)) hl
 obtain rfl:=b6f hvals;have hpub:∀o,V.cell g o=none:=hpub;have hown:W.ownsRow 0 5 1 (γ m).1 l.length (Lib.byteCells l):=by rw[<-a5O l];exact hown
 have hgne:g≠blk:=λe=>hi n m _ _ hln hlm hnm blk (by rw[hg]) (by rw[hgm,e]);obtain⟨cur,hnn,hgc,-⟩:=Q0 (by rw[hgm] at hown;exact hown);obtain rfl:nn=l.length:=by
  rcases hown.2 with⟨h,h0⟩|⟨_,_,_,h,_⟩
  . rw[hgm] at h;cases h
  . rw[hgm] at h;cases h;rfl
 have hmL:g∈o8 γ [(n,Blk.box (c:: .own m::rest) ty),(m, .sl (J0 l))]:=R6.2 ⟨(m, .sl (J0 l)),by simp,by rw[hgm]⟩;refine(d2P blk g cap W cs cur ty l hl hh (by rw[<-Array.getElem?_toList,hcs,hgm];rfl) hgc (by rw[hgm] at hown;exact hown)).mono ?_;rintro e W' ⟨rfl,rfl⟩;have hb0:Below 0 W (W.drew.freeze ⟨g,0,none⟩ l.length):=Lib.below_freeze (Below.drew (Below.refl 0 W)) (F4 _) _;have hkeep:∀k,k≠g->(W.drew.freeze ⟨g,0,none⟩ l.length).heap[k]?=W.heap[k]?:=λk hk=>c6T W.drew g l.length k hk;have two:∀{k b},d7 k [(n,Blk.box (.d .junk:: .d .junk::rest) ty)]=some b->k=n/\b=Blk.box (.d .junk:: .d .junk::rest) ty:=by
  intro k b h;by_cases e:n=k
  . subst e;rw[w9] at h;cases h;exact⟨rfl,rfl⟩
  . rw[p5 e,r7] at h;cases h
 refine⟨γ,V, .ret (.d (.str l)),_,Rep.str l hlen,⟨hb0.os,hb0.tape,hb0.output,hb0.size,λk hk hkl=>hkeep k (λe=>hkl (e▸hmL))⟩,Fresh.refl V _ _,?_,λk b hl=>?_,λk b hkk q hq=>?_,λk k' b b' hkk hkk' hne q hq=>?_,λk b hkk hb=>rfl,rfl,rfl⟩
 . refine ⟨λb o u hc=>?_,λr x hx=>?_,hs.lib,hs.keepRow λb o u hc=>hkeep b (λe=>by subst e;rw[hpub] at hc;cases hc)⟩
   . have hb1:b≠g:=λe=>by subst e;rw[hpub] at hc;cases hc
     have:=hs.cell b o u hc;simp only[World.cell?,hkeep b hb1] at this⊢;exact this
   . obtain⟨q1,es,clock,rfl⟩:=hs.obj r x hx;refine⟨?_,es,clock,rfl⟩;rw[hkeep r (λe=>by subst e;rw[hgc] at q1;cases q1)];exact q1
 . obtain⟨rfl,rfl⟩:=two hl;refine⟨blk,cs,hg,by rw[hkeep blk (Ne.symm hgne)];exact hh,?_,h1,hvn⟩;rw[hcs];exact .cons (.junk _) (.cons (.junk _) hr)
 . obtain⟨rfl,rfl⟩:=two hkk;rw[hg] at hq;cases hq;exact .inl (R6.2 ⟨(k, .box (c:: .own m::rest) ty),by simp,by rw[hg]⟩)
 . obtain⟨rfl,rfl⟩:=two hkk;obtain⟨rfl,rfl⟩:=two hkk';exact absurd rfl hne
end Go.Proofs.YteillnfhkeebjaaGreatDoor.Dx
