/- A box of one's own is lent to a function over data; the scanner's small methods. -/
import Derived.Test.YtaopegkpjhkooaaGreatDoorFq
set_option linter.all false
namespace Go.Proofs.YtaopegkpjhkooaaGreatDoor.Dx
open Go Go.RowKit Go.Proofs
set_option maxRecDepth 100000
set_option maxHeartbeats 8000000
mutual
def H4:D->Bool
 | .v _=>true
 | .bl _=>true
 | .str _=>true
 | .junk=>true
 | .agg ds=>flatDs ds
 | .tup ds=>flatDs ds
 |_=>false
def flatDs:List D->Bool
 |[]=>true
 |d::ds=>H4 d&&flatDs ds
end
theorem a7g:∀{ds:List D},flatDs ds=true->∀{i:Nat} {d:D},ds[i]?=some d->H4 d=true
 |[],_,i,d,h=>by simp at h
 | x::ds,h,i,d,hi=>by
   simp only[flatDs,Bool.and_eq_true] at h
   cases i with
   |zero=>simp at hi;subst hi;exact h.1
   |succ i=>exact a7g h.2 (by simpa using hi)
theorem b7s {V V':Know}{x:Value}{d:D}(h:Rep V x d):H4 d=true->Rep V' x d:=by
 induction h with
 |v x h=>intro _;exact .v x h
 |bl b=>intro _;exact .bl b
 |junk x=>intro _;exact .junk x
 |str l h=>intro _;exact .str l h
 | agg us ds hl h1 h ih=>
   intro hk
   simp only[H4] at hk
   exact .agg us ds hl h1 λi u d hu hd=>ih i u d hu hd (a7g hk hd)
 | tup us ds hl h ih=>
   intro hk
   simp only[H4] at hk
   exact .tup us ds hl λi u d hu hd=>ih i u d hu hd (a7g hk hd)
 |raw=>intro hk;simp[H4] at hk
 |nil=>intro hk;simp[H4] at hk
 |empty a=>intro hk;simp[H4] at hk
 |sl=>intro hk;simp[H4] at hk
 |ptr=>intro hk;simp[H4] at hk
 |mnil=>intro hk;simp[H4] at hk
 |mp=>intro hk;simp[H4] at hk
 |iface=>intro hk;simp[H4] at hk
 |fn=>intro hk;simp[H4] at hk
def Know.lack (V:Know)(g:Nat):Know:={V with cell:=λb o=>if b=g then none else V.cell b o}
theorem lack_cell {V:Know}{g b o:Nat}{u:Value}:(V.lack g).cell b o=some u↔b≠g/\V.cell b o=some u:=by
 show(if b=g then none else V.cell b o)=some u↔_
 split
 . rename_i h;simp[h]
 . rename_i h;simp[h]
def b1H (n:Nat)(cs:List D)(b:Base):Option D:=
 match b with
 | .d d=>some d
 | .loc m off=>match Nat.beq m n with
   |true=>some (.ptr cs off)
   |false=>none
 |_=>none
def a3K (n:Nat)(cs:List D):List Base->Option (List D)
 |[]=>some []
 | b ::bs=>match b1H n cs b with
   | some d=>match a3K n cs bs with
     |some ds=>some (d::ds)
     |none=>none
   |none=>none
theorem b1I {γ:Gm}{V V':Know}(hle:V.Le V'){n blk:Nat}{cs:List D}(hγ:(γ n).1= .pointer (some ⟨blk,0,none⟩))(hr:∀off,Rep V' (.pointer (some ⟨blk,off,none⟩)) (.ptr cs off)):∀{bs:List Base} {ds:List D} {vs:List Value},a3K n cs bs=some ds->Vals γ V bs vs->Vals γ V' (ds.map .d) vs
 | [],ds,vs,h,hv=>by
   cases h
   obtain rfl:=hv.nil_l
   exact All2.nil
 | b ::bs,ds,vs,h,hv=>by
   obtain⟨x,vs,rfl,h1,h2⟩:=hv.cons_l
   simp only[a3K] at h
   split at h
   case h_2=>cases h
   rename_i d hd
   split at h
   case h_2=>cases h
   rename_i ds' hds
   cases h
   refine .cons ?_ (b1I hle hγ hr hds h2)
   unfold b1H at hd
   split at hd
   . cases hd;exact Rep.mono hle h1
   . split at hd
     . rename_i e
       obtain rfl:=Nat.eq_of_beq_eq_true e
       cases hd
       obtain⟨blk',e1,rfl⟩:=h1
       rw[hγ] at e1
       cases e1
       exact hr _
     . cases hd
   . cases hd
theorem b8E {P:Program}{F:FuncId}{ds cs:List D}{bs:List Base}{n:Nat}{ty:TypeId}{R:D->Prop}(h:Meets P F ds R)(O:List (Nat×Blk))(hlk:c8 n O=some (.box (cs.map .d) ty))(hl:a3K n cs bs=some ds)(hk:∀d,R d->H4 d=true):
 MeetsR P F bs O λo O'=>∃d,o= .ret (.d d)/\O'=O/\R d:=by
 refine⟨h.out.fn,λγ V W vs hs hv hown hinj=>?_⟩
 obtain⟨g,cells,hγ,hh,hvr,h1,hnone⟩:=hown n _ hlk
 have hgW:g<W.heap.size:=(Array.getElem?_eq_some_iff.1 hh).1
 have hcells:∀(j:Nat) u,cells.toList[j]?=some u->W.cell? ⟨g,j,none⟩=some u:=by
  intro j u hj
  simp only[World.cell?,hh]
  simpa using hj
 have hle:V.Le (V.with g cells.toList):=a0N λo u hu=>by rw[hnone] at hu;cases hu
 have hs1:=a6t hs hle hcells
 have hat:∀(j:Nat) u,(V.with g cells.toList).cell g j=some u↔cells.toList[j]?=some u:=λj u=>by
  show(if g=g then cells.toList[j]? else _)=some u↔_
  rw[if_pos rfl]
 have hrep:∀off,Rep (V.with g cells.toList) (.pointer (some ⟨g,off,none⟩)) (.ptr cs off):=by
  intro off
  have:=Rep.ptr (V:=V.with g cells.toList) g 0 cs off (λj d hj=>by
   obtain⟨u,hu,_⟩:=hvr.at (i:=j) (x:= .d d) (by rw[List.getElem?_map,hj];rfl)
   exact⟨u,by rw[Nat.zero_add];exact(hat j u).2 hu,h1 u (List.mem_of_getElem? hu)⟩) (λj d u hj hu=>by
   rw[Nat.zero_add] at hu
   have hu:=(hat j u).1 hu
   exact Rep.mono hle (hvr.get j (.d d) u (by rw[List.getElem?_map,hj];rfl) hu))
  rwa[Nat.zero_add] at this
 refine(h.out.run γ (V.with g cells.toList) W vs hs1 (b1I hle (by rw[hγ]) hrep hl hv) (λm b hl=>by rw[o6] at hl;cases hl) (λm m' b b' hl=>by rw[o6] at hl;cases hl)).mono ?_
 rintro ev W' ⟨γ',V2,o,O',hout,hbel,hfr,hsees,_,_,_,_,d,rfl,rfl,hR⟩
 have hle2:V.Le V2:=hle.trans hfr.le
 have hle3:V.Le (V2.lack g):=⟨λb o v hc=>lack_cell.2 ⟨λe=>(by rw[e,hnone] at hc;cases hc),hle2.cell b o v hc⟩,λr x hx=>hle2.obj r x hx⟩
 have hbel0:BelowX [] W.heap.size W W':=hbel
 refine⟨γ,V2.lack g, .ret (.d d),O,?_,⟨hbel0.os,hbel0.tape,hbel0.output,hbel0.size,λq hq _=>hbel0.block q hq (by simp)⟩,⟨hle3,λb o v hc=>?_,λr x hx=>?_⟩,⟨λb o v hc=>hsees.cell b o v (lack_cell.1 hc).2,hsees.obj,hs.lib.mono hle3,hsees.row⟩,λm b hlm=>?_,λm b hlm q hq=> .inl (List.mem_filterMap.2 ⟨(m,b),M9 hlm,hq⟩),hinj,λ_ _ _ _=>rfl,d,rfl,rfl,hR⟩
 . cases ev with
   |returned v=>exact b7s (V:=V2) hout (hk d hR)
   |panicked _=>exact hout.elim
   |outgrown=>exact hout.elim
 . obtain ⟨hbg,hc⟩:=lack_cell.1 hc
   rcases hfr.cell b o v hc with h2|h2|h2
   . have h3:(if b=g then cells.toList[o]? else V.cell b o)=some v:=h2
     rw[if_neg hbg] at h3
     exact .inl h3
   . simp[i7] at h2
   . exact .inr (.inr h2)
 . rcases hfr.obj r x hx with h2|h2|h2
   . exact .inl h2
   . simp[i7] at h2
   . exact .inr (.inr h2)
 . have hb:=hown m b hlm
   refine hb.keep hle3 (λq hq=>hbel0.block q (C5 hb hq) (by simp)) (λq hq o u hu=>?_) (λr hr x hx=>?_)
   . obtain ⟨hqg,hc⟩:=lack_cell.1 hu
     rcases hfr.cell q o u hc with h2|h2|h2
     . have h3:(if q=g then cells.toList[o]? else V.cell q o)=some u:=h2
       rwa[if_neg hqg] at h3
     . simp[i7] at h2
     . have:=C5 hb hq;omega
   . rcases hfr.obj r x hx with h2|h2|h2
     . exact h2
     . simp[i7] at h2
     . have:=C5 hb hr;omega
theorem b5S (d:D)(n:Nat)(cs:List D)(ty:TypeId):X8 (.d d) [(n, .box (cs.map .d) ty)]=true:=by
 have h:((cs.map Base.d).all λc=>(r5 c).all (a1m [(n, .box (cs.map .d) ty)]))=true:=List.all_eq_true.2 λb hb=>by
  obtain⟨d,_,rfl⟩:=List.mem_map.1 hb
  rfl
 show(true&&((((cs.map Base.d).all λc=>(r5 c).all (a1m [(n, .box (cs.map .d) ty)])))&&true))=true
 rw[h];rfl
abbrev scC (src:List UInt8)(a:Int):List D:= .sl (o8 src)::iD a::E2 cls
abbrev scP (src:List UInt8)(a:Int):D:= .ptr (scC src a) 0
def T8 (src:List UInt8)(i:Nat):Int:=match src[i]? with|some b=>cls b.toNat|none=>0
def a1W (src:List UInt8)(i:Nat):Int:=match src[i]? with|some b=>(b.toNat:Int)|none=>0
theorem c2J (f:Nat->Int){i:Nat}(h:i<256):∃r,(E2 f).drop i=cD (f i)::r:=by
 refine⟨(E2 f).drop (i+1),?_⟩
 rw[List.drop_eq_getElem_cons (by rw[a6c];exact h)]
 simp[E2]
theorem a1d (src:List UInt8)(a:Int)(i:Nat):Meets Tryz.prog 45 [scP src a,iD i] λd=>d=cD (T8 src i):=by
 refine enter tok {} Tryz.func45 rfl (by kernel_rfl) Tryz.ntmps45 (by simp) λB0 W0 V0 lent g0=>?_
 refine Kw ?_
 repeat'((first|(intro hlq;try simp only[SL] at hlq)|refine K9 ?_|((refine Kh (λhb=>?_) λhb=>?_)<;>try simp only[BL] at hb)|refine K8 ?_)<;>refine Kw ?_)
 . refine⟨?_⟩
   rw[T8,List.getElem?_eq_none (by omega)]
 . have hi:i<src.length:=by omega
   have hb:=src[i].toNat_lt
   obtain⟨r,hr⟩:=c2J cls (i:=src[i].toNat) (by omega)
   refine j9 tok (cf:={}) (by kernel_rfl) [.p 0, .p 1, .p 2, .p 3, .p 4, .p 5, .p 6, .p 7, .p 8, .p 9, .p 10, .p 11, .p 12] (by kernel_rfl) ?_
   refine Kw ?_
   repeat'((first|(intro hlq;try simp only[SL] at hlq)|refine K9 ?_|refine K8 ?_)<;>refine Kw ?_)
   generalize hE:List.drop _ _=E
   have h:E=cD (cls src[i].toNat)::r:=by
    rw[<-hE,<-hr]
    refine Eq.trans (congrArg (λk=>List.drop k (scC src a)) (?_:_=src[i].toNat+2)) rfl
    dsimp only;omega
   clear hE
   subst h
   refine Kw ?_
   refine⟨?_⟩
   rw[T8,List.getElem?_eq_getElem hi]
theorem b5y (src:List UInt8)(a:Int)(i:Nat):Meets Tryz.prog 93 [scP src a,iD i] λd=>d=cD (a1W src i):=by
 refine enter tok {} Tryz.func93 rfl (by kernel_rfl) Tryz.ntmps93 (by simp) λB0 W0 V0 lent g0=>?_
 refine Kw ?_
 repeat'((first|(intro hlq;try simp only[SL] at hlq)|refine K9 ?_|((refine Kh (λhb=>?_) λhb=>?_)<;>try simp only[BL] at hb)|refine K8 ?_)<;>refine Kw ?_)
 . refine⟨?_⟩
   rw[a1W,List.getElem?_eq_none (by omega)]
 . have hi:i<src.length:=by omega
   refine⟨?_⟩
   rw[a1W,List.getElem?_eq_getElem hi]
theorem a2d (b:UInt8):decide (cls b.toNat=2)=B6 b/\decide (cls b.toNat=3)=d9 b/\decide (cls b.toNat=4)=sgB b/\decide (cls b.toNat=1)=blB b:=by
 have h:∀n:Fin 256,decide (cls n.1=2)=B6 (UInt8.ofNat n.1)/\decide (cls n.1=3)=d9 (UInt8.ofNat n.1)/\decide (cls n.1=4)=sgB (UInt8.ofNat n.1)/\decide (cls n.1=1)=blB (UInt8.ofNat n.1):=by decide+kernel
 have:=h ⟨b.toNat,b.toNat_lt⟩
 simpa using this
theorem b0n (src:List UInt8)(i:Nat):decide (T8 src i=3)=P9 (src.drop i):=by
 unfold T8
 by_cases h:i<src.length
 . rw[List.getElem?_eq_getElem h,List.drop_eq_getElem_cons h]
   exact(a2d src[i]).2.1
 . rw[List.getElem?_eq_none (by omega),List.drop_eq_nil_of_le (by omega)]
   rfl
theorem b2O (src:List UInt8)(a:Int)(i:Nat)(p:Bool)(hi:i<=src.length):Meets Tryz.prog 86 [scP src a,iD i,bD p] λd=>d=iD (i+p4 p (src.drop i):Nat):=by
 refine enter tok {} Tryz.func86 rfl (by kernel_rfl) Tryz.ntmps86 (by simp) λB0 W0 V0 lent g0=>?_
 refine Kw ?_
 refine j7 tok {} [] (X:=Nat) (λj=>[(1,iB j)]) (λ_=>[]) [] (λj=>j<=src.length/\j+p4 p (src.drop j)=i+p4 p (src.drop i)) (λj=>src.length-j) i ?_
 refine Kw ?_
 refine And.intro ?_ ⟨⟨hi,rfl⟩,λj hΦ=>?_⟩
 . exact Kr
 obtain⟨hj,he⟩:=hΦ
 refine Kw ?_
 repeat'((first|(intro hlq;try simp only[SL] at hlq)|refine K9 ?_|refine K8 ?_)<;>refine Kw ?_)
 refine⟨λh1=>?_,λh1=>?_⟩<;>(try simp only[BL] at h1)<;>refine Kw ?_
 . have h1':j<src.length:=by omega
   rw[List.drop_eq_getElem_cons h1',p4] at he
   have hc:=a2d src[j]
   have hd:=b0n src (j+1)
   have k1:=a1d src a j
   rw[show T8 src j=cls src[j].toNat by rw[T8,List.getElem?_eq_getElem h1']] at k1
   have k2:=a1d src a (j+1)
   have hc95:(src[j]==95)=decide ((src[j].toNat:Int)=95):=by
    rw[Bool.eq_iff_iff,beq_iff_eq,decide_eq_true_eq,<-UInt8.toNat_inj];have:(95:UInt8).toNat=95:=rfl;omega
   have hc58:(src[j]==58)=decide ((src[j].toNat:Int)=58):=by
    rw[Bool.eq_iff_iff,beq_iff_eq,decide_eq_true_eq,<-UInt8.toNat_inj];have:(58:UInt8).toNat=58:=rfl;omega
   have hc46:(src[j]==46)=decide ((src[j].toNat:Int)=46):=by
    rw[Bool.eq_iff_iff,beq_iff_eq,decide_eq_true_eq,<-UInt8.toNat_inj];have:(46:UInt8).toNat=46:=rfl;omega
   rw[inB,ptB,<-hc.1,<-hc.2.1,hc95,hc58,hc46,<-hd] at he
   clear hc hd hc95 hc58 hc46
   generalize cls src[j].toNat=k at *
   generalize T8 src (j+1)=k' at *
   cases p
   all_goals
    repeat'((first|(intro hlq;try simp only[SL] at hlq)|refine Meets.k (k1) ?_|refine Meets.k (k2) ?_|refine K9 ?_|((refine Kh (λhb=>?_) λhb=>?_)<;>try simp only[BL] at hb)|refine K8 ?_)<;>refine Kw ?_)
    all_goals first
     |contradiction
     |(refine⟨congrArg iD ?_⟩;split at he<;>first|omega|(exfalso;simp_all;done))
     | (refine⟨⟨j+1,?_,⟨by omega,?_⟩,by omega⟩⟩
        . exact Kr
        . split at he<;>first|omega|(exfalso;simp_all;done))
 . refine⟨congrArg iD ?_⟩
   rw[<-he,List.drop_eq_nil_of_le (by omega)]
   rfl
end Go.Proofs.YtaopegkpjhkooaaGreatDoor.Dx
/- The scanner's readers. -/
namespace Go.Proofs.YtaopegkpjhkooaaGreatDoor.Dx
open Go Go.RowKit Go.Proofs
set_option maxRecDepth 100000
set_option maxHeartbeats 8000000
abbrev tkD (k:Int)(s:List UInt8)(a:Int):D:= .agg [iD k, .str s,iD a]
def tkA (a:Nat)(x:Nat×List UInt8×Nat):D:=if x.1=0 then tkD 0 [] 0 else tkD x.1 x.2.1 a
abbrev rdD (a:Nat)(x:Nat×List UInt8×Nat):D:= .tup [tkA a x,iD (a+x.2.2:Nat)]
theorem a9T (l:List UInt8):∀ds∈o8 l,ds.length=1:=by
 intro ds h;obtain⟨b,_,rfl⟩:=List.mem_map.1 h;rfl
theorem a9S (l:List UInt8)(i j:Nat):List.drop i (List.take j (o8 l))=o8 (List.drop i (List.take j l)):=by
 simp only[o8,List.map_drop,List.map_take]
theorem b0L (l:List UInt8)(i n:Nat):List.drop (i:Int).toNat (List.take ((i+n:Nat):Int).toNat l)=(l.drop i).take n:=by
 rw[Int.toNat_natCast,Int.toNat_natCast,List.drop_take,Nat.add_sub_cancel_left]
theorem Ky {l:List UInt8}{i j:Int}{E:Prop}(e:E)(h:l.length<=maxLen->0<=i/\i<=j/\j<=(l.length:Int):=by(intro _;refine⟨?_,?_,?_⟩<;>omega)):((o8 l).length<=maxLen->0<=i/\i<=j/\j<=((o8 l).length:Int)/\∀ds∈o8 l,ds.length=1)/\E:=
 ⟨λhm=>by
  simp only[List.length_map] at hm⊢
  obtain⟨h1,h2,h3⟩:=h hm
  exact⟨h1,h2,h3,a9T l⟩,e⟩
theorem a4o (src:List UInt8)(a k:Int)(i n:Nat)(hi:i+n<=src.length)(ha:a=i):Meets Tryz.prog 85 [scP src a,iD k,iD (i+n:Nat)] λd=>d= .tup [tkD k ((src.drop i).take n) i,iD (i+n:Nat)]:=by
 subst ha
 refine enter tok {} Tryz.func85 rfl (by kernel_rfl) Tryz.ntmps85 (by simp) λB0 W0 V0 lent g0=>?_
 refine Kw ?_
 refine j9 tok (cf:={}) (by kernel_rfl) [.p 0, .p 1, .p 2, .p 3, .p 4, .p 5, .p 6, .p 7, .p 8, .p 9, .p 10, .p 11, .p 12, .p 13, .p 14, .p 15, .p 16, .p 17, .s 18 [16,0,1,2,3,4,5,6,7,8,9,10,11,12,13,14,15], .p 19] (by kernel_rfl) ?_
 refine Kw ?_
 repeat'((first|(intro hlq;try simp only[SL] at hlq)|refine Ky ?_|refine⟨_,a9S _ _ _,?_⟩|refine K9 ?_|((refine Kh (λhb=>?_) λhb=>?_)<;>try simp only[BL] at hb)|refine K8 ?_)<;>refine Kw ?_)
 refine⟨?_⟩
 rw[<-b0L]
theorem a4U {src:List UInt8}{a:Nat}(ha:a<src.length):T8 src a=cls src[a].toNat:=by rw[T8,List.getElem?_eq_getElem ha]
theorem b5k (src:List UInt8)(a:Nat)(ha:a<src.length):Meets Tryz.prog 83 [scP src a] λd=>d=bD (B6 src[a]):=by
 have k:=a1d src a a
 rw[a4U ha] at k
 refine enter tok {} Tryz.func83 rfl (by kernel_rfl) Tryz.ntmps83 (by simp) λB0 W0 V0 lent g0=>?_
 refine Kw ?_
 repeat'((first|(intro hlq;try simp only[SL] at hlq)|refine Meets.k (k) ?_|refine K9 ?_|((refine Kh (λhb=>?_) λhb=>?_)<;>try simp only[BL] at hb)|refine K8 ?_)<;>refine Kw ?_)
 exact⟨congrArg bD (a2d src[a]).1⟩
theorem b5o (src:List UInt8)(a:Nat)(ha:a<src.length):Meets Tryz.prog 95 [scP src a] λd=>d=bD (sgB src[a]):=by
 have k:=a1d src a a
 rw[a4U ha] at k
 refine enter tok {} Tryz.func95 rfl (by kernel_rfl) Tryz.ntmps95 (by simp) λB0 W0 V0 lent g0=>?_
 refine Kw ?_
 repeat'((first|(intro hlq;try simp only[SL] at hlq)|refine Meets.k (k) ?_|refine K9 ?_|((refine Kh (λhb=>?_) λhb=>?_)<;>try simp only[BL] at hb)|refine K8 ?_)<;>refine Kw ?_)
 exact⟨congrArg bD (a2d src[a]).2.2.1⟩
theorem b5p (src:List UInt8)(a:Int):Meets Tryz.prog 97 [scP src a] λd=>d=bD true:=by
 refine enter tok {} Tryz.func97 rfl (by kernel_rfl) Tryz.ntmps97 (by simp) λB0 W0 V0 lent g0=>?_
 refine Kw ?_
 exact⟨rfl⟩
theorem a4N (b:UInt8)(c:UInt8):(b==c)=decide ((b.toNat:Int)=(c.toNat:Int)):=by
 rw[Bool.eq_iff_iff,beq_iff_eq,decide_eq_true_eq,<-UInt8.toNat_inj];omega
theorem b5m (src:List UInt8)(a:Nat)(ha:a<src.length):Meets Tryz.prog 89 [scP src a] λd=>d=bD (src[a]==34):=by
 refine enter tok {} Tryz.func89 rfl (by kernel_rfl) Tryz.ntmps89 (by simp) λB0 W0 V0 lent g0=>?_
 refine Kw ?_
 refine j9 tok (cf:={}) (by kernel_rfl) [.p 0, .p 1, .p 2, .p 3, .p 4, .p 5, .p 6, .p 7, .p 8, .p 9, .p 10, .p 11] (by kernel_rfl) ?_
 refine Kw ?_
 repeat'((first|(intro hlq;try simp only[SL] at hlq)|refine K9 ?_|refine K8 ?_)<;>refine Kw ?_)
 refine⟨congrArg bD ?_⟩
 rw[a4N]
 rfl
theorem b5l (src:List UInt8)(a:Nat)(ha:a<src.length)(hl:src.length<=1048576):Meets Tryz.prog 87 [scP src a] λd=>d=bD (d9 src[a]||(src[a]==45&&P9 (src.drop (a+1)))):=by
 have k:=a1d src a a
 rw[a4U ha] at k
 have k2:=a1d src a (a+1)
 have e2:=b0n src (a+1)
 have e1:=(a2d src[a]).2.1
 rw[<-e1,<-e2,a4N]
 clear e1 e2
 refine enter tok {} Tryz.func87 rfl (by kernel_rfl) Tryz.ntmps87 (by simp) λB0 W0 V0 lent g0=>?_
 refine Kw ?_
 refine j9 tok (cf:={}) (by kernel_rfl) [.p 0, .p 1, .p 2, .p 3, .p 4, .s 5 [0,4,3,2,1], .p 6, .p 7, .p 8, .p 9, .p 10, .p 11, .p 12, .p 13, .p 14, .p 15, .p 16, .p 17, .p 18, .p 19, .p 20, .p 21, .p 22, .p 23, .p 24, .p 25, .s 26 [20,25,19,24,18,7,23,17,6,22,16,21,11,15,10,14,9,13,8,12], .p 27, .p 28, .p 29, .p 30] (by kernel_rfl) ?_
 refine Kw ?_
 repeat'((first|(intro hlq;try simp only[SL] at hlq)|refine Meets.k (k) ?_|refine Meets.k (k2) ?_|refine K9 ?_|((refine Kh (λhb=>?_) λhb=>?_)<;>try simp only[BL] at hb)|refine K8 ?_)<;>refine Kw ?_)
 all_goals
  refine⟨congrArg bD ?_⟩
  first
   |(simp_all;done)
   |(rw[Bool.eq_iff_iff];simp only[Bool.or_eq_true,Bool.and_eq_true,decide_eq_true_eq];simp;omega)
theorem b5n (src:List UInt8)(a:Nat)(ha:a<src.length)(hl:src.length<=1048576):Meets Tryz.prog 92 [scP src a] λd=>d=bD (Y0 src[a] (src.drop (a+1))):=by
 have k:=b5y src a (a+1)
 have e:Y0 src[a] (src.drop (a+1))=(((decide ((src[a].toNat:Int)=60)||decide ((src[a].toNat:Int)=62))&&decide (a1W src (a+1)=61))||(decide ((src[a].toNat:Int)=46)&&decide (a1W src (a+1)=46))):=by
  unfold a1W
  by_cases h:a+1<src.length
  . rw[List.drop_eq_getElem_cons h,List.getElem?_eq_getElem h]
    simp only[Y0,a4N]
    rfl
  . rw[List.drop_eq_nil_of_le (by omega),List.getElem?_eq_none (by omega)]
    simp[Y0]
 rw[e]
 clear e
 refine enter tok {} Tryz.func92 rfl (by kernel_rfl) Tryz.ntmps92 (by simp) λB0 W0 V0 lent g0=>?_
 refine Kw ?_
 refine j9 tok (cf:={}) (by kernel_rfl) [.p 0, .p 1, .p 2, .p 3, .p 4, .p 5, .p 6, .p 7, .p 8, .p 9, .p 10, .p 11, .p 12, .p 13, .p 14, .p 15, .s 16 [10,15,14,13,12,11], .p 17, .p 18] (by kernel_rfl) ?_
 refine Kw ?_
 repeat'((first|(intro hlq;try simp only[SL] at hlq)|refine Meets.k (k) ?_|refine K9 ?_|((refine Kh (λhb=>?_) λhb=>?_)<;>try simp only[BL] at hb)|refine K8 ?_)<;>refine Kw ?_)
 all_goals
  refine⟨congrArg bD ?_⟩
  first
   |(simp_all;done)
   |(rw[Bool.eq_iff_iff];simp only[Bool.or_eq_true,Bool.and_eq_true,decide_eq_true_eq];simp;omega)
theorem c0o (src:List UInt8)(a:Nat)(ha:a<src.length)(hc:B6 src[a]=true):Meets Tryz.prog 84 [scP src a] λd=>d=rdD a (s7 (src.drop a)):=by
 have e:p4 false (src.drop a)=p4 false (src.drop (a+1))+1:=by
  rw[List.drop_eq_getElem_cons ha,p4,inB,hc];rfl
 have k1:=b2O src a a false (by omega)
 have hl:=a1B false (src.drop a)
 rw[List.length_drop] at hl
 have k2:=a4o src a 1 a (p4 false (src.drop a)) (by omega) rfl
 refine enter tok {} Tryz.func84 rfl (by kernel_rfl) Tryz.ntmps84 (by simp) λB0 W0 V0 lent g0=>?_
 refine Kw ?_
 repeat'((first|(intro hlq;try simp only[SL] at hlq)|refine Meets.k (k1) ?_|refine Meets.k (k2) ?_|refine K9 ?_|((refine Kh (λhb=>?_) λhb=>?_)<;>try simp only[BL] at hb)|refine K8 ?_)<;>refine Kw ?_)
 refine⟨?_⟩
 have hr:s7 (src.drop a)=(1,(src.drop a).take (p4 false (src.drop a)),p4 false (src.drop a)):=by
  rw[e,List.drop_eq_getElem_cons ha,s7,if_pos hc]
 rw[hr]
 rfl
theorem c0t (src:List UInt8)(a:Nat)(ha:a<src.length)(hl:src.length<=1048576):Meets Tryz.prog 98 [scP src a] λd=>d=rdD a (0,[],1):=by
 refine enter tok {} Tryz.func98 rfl (by kernel_rfl) Tryz.ntmps98 (by simp) λB0 W0 V0 lent g0=>?_
 refine Kw ?_
 refine j9 tok (cf:={}) (by kernel_rfl) [.p 0, .p 1, .p 2, .p 3, .p 4, .p 5, .s 6 [0], .p 7] (by kernel_rfl) ?_
 refine Kw ?_
 repeat'((first|(intro hlq;try simp only[SL] at hlq)|refine K9 ?_|refine K8 ?_)<;>refine Kw ?_)
 exact⟨rfl⟩
theorem c0s (src:List UInt8)(a:Nat)(ha:a<src.length)(hl:src.length<=1048576):Meets Tryz.prog 96 [scP src a] λd=>d=rdD a (5,[src[a]],1):=by
 have k2:=a4o src a 5 a 1 (by omega) rfl
 refine enter tok {} Tryz.func96 rfl (by kernel_rfl) Tryz.ntmps96 (by simp) λB0 W0 V0 lent g0=>?_
 refine Kw ?_
 repeat'((first|(intro hlq;try simp only[SL] at hlq)|refine Meets.k (k2) ?_|refine K9 ?_|((refine Kh (λhb=>?_) λhb=>?_)<;>try simp only[BL] at hb)|refine K8 ?_)<;>refine Kw ?_)
 refine⟨?_⟩
 rw[List.drop_eq_getElem_cons ha]
 rfl
theorem c0r (src:List UInt8)(a:Nat)(ha:a+2<=src.length)(hl:src.length<=1048576):Meets Tryz.prog 94 [scP src a] λd=>d=rdD a (5,(src.drop a).take 2,2):=by
 have k2:=a4o src a 5 a 2 ha rfl
 refine enter tok {} Tryz.func94 rfl (by kernel_rfl) Tryz.ntmps94 (by simp) λB0 W0 V0 lent g0=>?_
 refine Kw ?_
 repeat'((first|(intro hlq;try simp only[SL] at hlq)|refine Meets.k (k2) ?_|refine K9 ?_|((refine Kh (λhb=>?_) λhb=>?_)<;>try simp only[BL] at hb)|refine K8 ?_)<;>refine Kw ?_)
 exact⟨rfl⟩
end Go.Proofs.YtaopegkpjhkooaaGreatDoor.Dx
