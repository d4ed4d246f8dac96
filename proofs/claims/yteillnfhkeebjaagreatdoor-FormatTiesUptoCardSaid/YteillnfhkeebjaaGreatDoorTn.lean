/- A box of one's own is lent to a function over data; the scanner's small methods. -/
import Derived.Test.YteillnfhkeebjaaGreatDoorTk
set_option linter.all false
namespace Go.Proofs.YteillnfhkeebjaaGreatDoor.Dx
open Go Go.RowKit Go.Proofs
set_option maxRecDepth 100000
set_option maxHeartbeats 8000000
mutual
def C9:D->Bool
 | .v _=>true
 | .bl _=>true
 | .str _=>true
 | .junk=>true
 | .agg ds=>flatDs ds
 | .tup ds=>flatDs ds
 |_=>false
def flatDs:List D->Bool
 |[]=>true
 |d::ds=>C9 d&&flatDs ds
end
theorem a6o:∀{ds:List D},flatDs ds=true->∀{i:Nat} {d:D},ds[i]?=some d->C9 d=true
 |[],_,i,d,h=>by simp at h
 | x::ds,h,i,d,hi=>by
   simp only[flatDs,Bool.and_eq_true] at h
   cases i with
   |zero=>simp at hi;subst hi;exact h.1
   |succ i=>exact a6o h.2 (by simpa using hi)
theorem b8a {V V':Know}{x:Value}{d:D}(h:Rep V x d):C9 d=true->Rep V' x d:=by
 induction h with
 |v x h=>intro _;exact .v x h
 |bl b=>intro _;exact .bl b
 |junk x=>intro _;exact .junk x
 |str l h=>intro _;exact .str l h
 | agg us ds hl h1 h ih=>
   intro hk
   simp only[C9] at hk
   exact .agg us ds hl h1 λi u d hu hd=>ih i u d hu hd (a6o hk hd)
 | tup us ds hl h ih=>
   intro hk
   simp only[C9] at hk
   exact .tup us ds hl λi u d hu hd=>ih i u d hu hd (a6o hk hd)
 |raw=>intro hk;simp[C9] at hk
 |nil=>intro hk;simp[C9] at hk
 |empty a=>intro hk;simp[C9] at hk
 |sl=>intro hk;simp[C9] at hk
 |ptr=>intro hk;simp[C9] at hk
 |mnil=>intro hk;simp[C9] at hk
 |mp=>intro hk;simp[C9] at hk
 |iface=>intro hk;simp[C9] at hk
 |fn=>intro hk;simp[C9] at hk
def Know.lack (V:Know)(g:Nat):Know:={V with cell:=λb o=>if b=g then none else V.cell b o}
theorem lack_cell {V:Know}{g b o:Nat}{u:Value}:(V.lack g).cell b o=some u↔b≠g/\V.cell b o=some u:=by
 show(if b=g then none else V.cell b o)=some u↔_
 split
 . rename_i h;simp[h]
 . rename_i h;simp[h]
def b1D (n:Nat)(cs:List D)(b:Base):Option D:=
 match b with
 | .d d=>some d
 | .loc m off=>match Nat.beq m n with
   |true=>some (.ptr cs off)
   |false=>none
 |_=>none
def a2e (n:Nat)(cs:List D):List Base->Option (List D)
 |[]=>some []
 | b ::bs=>match b1D n cs b with
   | some d=>match a2e n cs bs with
     |some ds=>some (d::ds)
     |none=>none
   |none=>none
theorem b1E {γ:Gm}{V V':Know}(hle:V.Le V'){n blk:Nat}{cs:List D}(hγ:(γ n).1= .pointer (some ⟨blk,0,none⟩))(hr:∀off,Rep V' (.pointer (some ⟨blk,off,none⟩)) (.ptr cs off)):∀{bs:List Base} {ds:List D} {vs:List Value},a2e n cs bs=some ds->Vals γ V bs vs->Vals γ V' (ds.map .d) vs
 | [],ds,vs,h,hv=>by
   cases h
   obtain rfl:=hv.nil_l
   exact All2.nil
 | b ::bs,ds,vs,h,hv=>by
   obtain⟨x,vs,rfl,h1,h2⟩:=hv.cons_l
   simp only[a2e] at h
   split at h
   case h_2=>cases h
   rename_i d hd
   split at h
   case h_2=>cases h
   rename_i ds' hds
   cases h
   refine .cons ?_ (b1E hle hγ hr hds h2)
   unfold b1D at hd
   split at hd
   . cases hd;exact Rep.mono hle h1
   . split at hd
     . rename_i e
       obtain rfl:=Nat.eq_of_beq_eq_true e
       cases hd
       obtain⟨blk',e1,rfl⟩:=h1
       rw[hγ] at e1
       cases e1
       exact hr _
     . cases hd
   . cases hd
theorem b9D {P:Program}{F:FuncId}{ds cs:List D}{bs:List Base}{n:Nat}{ty:TypeId}{R:D->Prop}(h:Meets P F ds R)(O:List (Nat×Blk))(hlk:b7 n O=some (.box (cs.map .d) ty))(hl:a2e n cs bs=some ds)(hk:∀d,R d->C9 d=true):
 MeetsR P F bs O λo O'=>∃d,o= .ret (.d d)/\O'=O/\R d:=by
 refine⟨h.out.fn,λγ V W vs hs hv hown hinj=>?_⟩
 obtain⟨g,cells,hγ,hh,hvr,h1,hnone⟩:=hown n _ hlk
 have hgW:g<W.heap.size:=(Array.getElem?_eq_some_iff.1 hh).1
 have hcells:∀(j:Nat) u,cells.toList[j]?=some u->W.cell? ⟨g,j,none⟩=some u:=by
  intro j u hj
  simp only[World.cell?,hh]
  simpa using hj
 have hle:V.Le (V.with g cells.toList):=N5 λo u hu=>by rw[hnone] at hu;cases hu
 have hs1:=a1l hs hle hcells
 have hat:∀(j:Nat) u,(V.with g cells.toList).cell g j=some u↔cells.toList[j]?=some u:=λj u=>by
  show(if g=g then cells.toList[j]? else _)=some u↔_
  rw[if_pos rfl]
 have hrep:∀off,Rep (V.with g cells.toList) (.pointer (some ⟨g,off,none⟩)) (.ptr cs off):=by
  intro off
  have:=Rep.ptr (V:=V.with g cells.toList) g 0 cs off (λj d hj=>by
   obtain⟨u,hu,_⟩:=hvr.at (i:=j) (x:= .d d) (by rw[List.getElem?_map,hj];rfl)
   exact⟨u,by rw[Nat.zero_add];exact(hat j u).2 hu,h1 u (List.mem_of_getElem? hu)⟩) (λj d u hj hu=>by
   rw[Nat.zero_add] at hu
   have hu:=(hat j u).1 hu
   exact Rep.mono hle (hvr.get j (.d d) u (by rw[List.getElem?_map,hj];rfl) hu))
  rwa[Nat.zero_add] at this
 refine(h.out.run γ (V.with g cells.toList) W vs hs1 (b1E hle (by rw[hγ]) hrep hl hv) (λm b hl=>by rw[f8] at hl;cases hl) (λm m' b b' hl=>by rw[f8] at hl;cases hl)).mono ?_
 rintro ev W' ⟨γ',V2,o,O',hout,hbel,hfr,hsees,_,_,_,_,d,rfl,rfl,hR⟩
 have hle2:V.Le V2:=hle.trans hfr.le
 have hle3:V.Le (V2.lack g):=⟨λb o v hc=>lack_cell.2 ⟨λe=>(by rw[e,hnone] at hc;cases hc),hle2.cell b o v hc⟩,λr x hx=>hle2.obj r x hx⟩
 have hbel0:BelowX [] W.heap.size W W':=hbel
 refine⟨γ,V2.lack g, .ret (.d d),O,?_,⟨hbel0.os,hbel0.tape,hbel0.output,hbel0.size,λq hq _=>hbel0.block q hq (by simp)⟩,⟨hle3,λb o v hc=>?_,λr x hx=>?_⟩,⟨λb o v hc=>hsees.cell b o v (lack_cell.1 hc).2,hsees.obj,hs.lib.mono hle3,hsees.row⟩,λm b hlm=>?_,λm b hlm q hq=> .inl (List.mem_filterMap.2 ⟨(m,b),E5 hlm,hq⟩),hinj,λ_ _ _ _=>rfl,d,rfl,rfl,hR⟩
 . cases ev with
   |returned v=>exact b8a (V:=V2) hout (hk d hR)
   |panicked _=>exact hout.elim
   |outgrown=>exact hout.elim
 . obtain ⟨hbg,hc⟩:=lack_cell.1 hc
   rcases hfr.cell b o v hc with h2|h2|h2
   . have h3:(if b=g then cells.toList[o]? else V.cell b o)=some v:=h2
     rw[if_neg hbg] at h3
     exact .inl h3
   . simp[d5] at h2
   . exact .inr (.inr h2)
 . rcases hfr.obj r x hx with h2|h2|h2
   . exact .inl h2
   . simp[d5] at h2
   . exact .inr (.inr h2)
 . have hb:=hown m b hlm
   refine hb.keep hle3 (λq hq=>hbel0.block q (r9 hb hq) (by simp)) (λq hq o u hu=>?_) (λr hr x hx=>?_)
   . obtain ⟨hqg,hc⟩:=lack_cell.1 hu
     rcases hfr.cell q o u hc with h2|h2|h2
     . have h3:(if q=g then cells.toList[o]? else V.cell q o)=some u:=h2
       rwa[if_neg hqg] at h3
     . simp[d5] at h2
     . have:=r9 hb hq;omega
   . rcases hfr.obj r x hx with h2|h2|h2
     . exact h2
     . simp[d5] at h2
     . have:=r9 hb hr;omega
theorem b6n (d:D)(n:Nat)(cs:List D)(ty:TypeId):H3 (.d d) [(n, .box (cs.map .d) ty)]=true:=by
 have h:((cs.map Base.d).all λc=>(k8 c).all (O7 [(n, .box (cs.map .d) ty)]))=true:=List.all_eq_true.2 λb hb=>by
  obtain⟨d,_,rfl⟩:=List.mem_map.1 hb
  rfl
 show(true&&((((cs.map Base.d).all λc=>(k8 c).all (O7 [(n, .box (cs.map .d) ty)])))&&true))=true
 rw[h];rfl
abbrev scC (src:List UInt8)(a:Int):List D:= .sl (byteCells src)::iD a::z8 cls
abbrev scP (src:List UInt8)(a:Int):D:= .ptr (scC src a) 0
def L7 (src:List UInt8)(i:Nat):Int:=match src[i]? with|some b=>cls b.toNat|none=>0
def a0n (src:List UInt8)(i:Nat):Int:=match src[i]? with|some b=>(b.toNat:Int)|none=>0
theorem c3a (f:Nat->Int){i:Nat}(h:i<256):∃r,(z8 f).drop i=cD (f i)::r:=by
 refine⟨(z8 f).drop (i+1),?_⟩
 rw[List.drop_eq_getElem_cons (by rw[a4U];exact h)]
 simp[z8]
theorem X2 (src:List UInt8)(a:Int)(i:Nat):Meets Tryz.prog 188 [scP src a,iD i] λd=>d=cD (L7 src i):=by
 refine enter tok {} Tryz.func188 rfl (by kernel_rfl) Tryz.ntmps188 (by simp) λB0 W0 V0 lent g0=>?_
 refine Kw ?_
 repeat'((first|(intro hlq;try simp only[SL] at hlq)|refine K9 ?_|((refine Kh (λhb=>?_) λhb=>?_)<;>try simp only[BL] at hb)|refine K8 ?_)<;>refine Kw ?_)
 . refine⟨?_⟩
   rw[L7,List.getElem?_eq_none (by omega)]
 . have hi:i<src.length:=by omega
   have hb:=src[i].toNat_lt
   obtain⟨r,hr⟩:=c3a cls (i:=src[i].toNat) (by omega)
   refine k9 tok (cf:={}) (by kernel_rfl) [.p 0, .p 1, .p 2, .p 3, .p 4, .p 5, .p 6, .p 7, .p 8, .p 9, .p 10, .p 11, .p 12] (by kernel_rfl) ?_
   refine Kw ?_
   repeat'((first|(intro hlq;try simp only[SL] at hlq)|refine K9 ?_|refine K8 ?_)<;>refine Kw ?_)
   generalize hE:List.drop _ _=E
   have h:E=cD (cls src[i].toNat)::r:=by
    rw[<-hE,<-hr]
    refine Eq.trans (congrArg (λk=>List.drop k (scC src a)) (?_:_=src[i].toNat+2)) rfl
    dsimp only;omega
   clear hE
   subst h
   refine Kw ?_
   refine⟨?_⟩
   rw[L7,List.getElem?_eq_getElem hi]
theorem b5Y (src:List UInt8)(a:Int)(i:Nat):Meets Tryz.prog 236 [scP src a,iD i] λd=>d=cD (a0n src i):=by
 refine enter tok {} Tryz.func236 rfl (by kernel_rfl) Tryz.ntmps236 (by simp) λB0 W0 V0 lent g0=>?_
 refine Kw ?_
 repeat'((first|(intro hlq;try simp only[SL] at hlq)|refine K9 ?_|((refine Kh (λhb=>?_) λhb=>?_)<;>try simp only[BL] at hb)|refine K8 ?_)<;>refine Kw ?_)
 . refine⟨?_⟩
   rw[a0n,List.getElem?_eq_none (by omega)]
 . have hi:i<src.length:=by omega
   refine⟨?_⟩
   rw[a0n,List.getElem?_eq_getElem hi]
theorem a0s (b:UInt8):decide (cls b.toNat=2)=B9 b/\decide (cls b.toNat=3)=d9 b/\decide (cls b.toNat=4)=sgB b/\decide (cls b.toNat=1)=blB b:=by
 have h:∀n:Fin 256,decide (cls n.1=2)=B9 (UInt8.ofNat n.1)/\decide (cls n.1=3)=d9 (UInt8.ofNat n.1)/\decide (cls n.1=4)=sgB (UInt8.ofNat n.1)/\decide (cls n.1=1)=blB (UInt8.ofNat n.1):=by decide+kernel
 have:=h ⟨b.toNat,b.toNat_lt⟩
 simpa using this
theorem a9R (src:List UInt8)(i:Nat):decide (L7 src i=3)=J9 (src.drop i):=by
 unfold L7
 by_cases h:i<src.length
 . rw[List.getElem?_eq_getElem h,List.drop_eq_getElem_cons h]
   exact(a0s src[i]).2.1
 . rw[List.getElem?_eq_none (by omega),List.drop_eq_nil_of_le (by omega)]
   rfl
theorem b2X (src:List UInt8)(a:Int)(i:Nat)(p:Bool)(hi:i<=src.length):Meets Tryz.prog 227 [scP src a,iD i,bD p] λd=>d=iD (i+j4 p (src.drop i):Nat):=by
 refine enter tok {} Tryz.func227 rfl (by kernel_rfl) Tryz.ntmps227 (by simp) λB0 W0 V0 lent g0=>?_
 refine Kw ?_
 refine d4 tok {} [] (X:=Nat) (λj=>[(1,iB j)]) (λ_=>[]) [] (λj=>j<=src.length/\j+j4 p (src.drop j)=i+j4 p (src.drop i)) (λj=>src.length-j) i ?_
 refine Kw ?_
 refine And.intro ?_ ⟨⟨hi,rfl⟩,λj hΦ=>?_⟩
 . exact Kr
 obtain⟨hj,he⟩:=hΦ
 refine Kw ?_
 repeat'((first|(intro hlq;try simp only[SL] at hlq)|refine K9 ?_|refine K8 ?_)<;>refine Kw ?_)
 refine⟨λh1=>?_,λh1=>?_⟩<;>(try simp only[BL] at h1)<;>refine Kw ?_
 . have h1':j<src.length:=by omega
   rw[List.drop_eq_getElem_cons h1',j4] at he
   have hc:=a0s src[j]
   have hd:=a9R src (j+1)
   have k1:=X2 src a j
   rw[show L7 src j=cls src[j].toNat by rw[L7,List.getElem?_eq_getElem h1']] at k1
   have k2:=X2 src a (j+1)
   have hc95:(src[j]==95)=decide ((src[j].toNat:Int)=95):=by
    rw[Bool.eq_iff_iff,beq_iff_eq,decide_eq_true_eq,<-UInt8.toNat_inj];have:(95:UInt8).toNat=95:=rfl;omega
   have hc58:(src[j]==58)=decide ((src[j].toNat:Int)=58):=by
    rw[Bool.eq_iff_iff,beq_iff_eq,decide_eq_true_eq,<-UInt8.toNat_inj];have:(58:UInt8).toNat=58:=rfl;omega
   have hc46:(src[j]==46)=decide ((src[j].toNat:Int)=46):=by
    rw[Bool.eq_iff_iff,beq_iff_eq,decide_eq_true_eq,<-UInt8.toNat_inj];have:(46:UInt8).toNat=46:=rfl;omega
   rw[inB,ptB,<-hc.1,<-hc.2.1,hc95,hc58,hc46,<-hd] at he
   clear hc hd hc95 hc58 hc46
   generalize cls src[j].toNat=k at *
   generalize L7 src (j+1)=k' at *
   cases p
   all_goals
    repeat'((first|(intro hlq;try simp only[SL] at hlq)|refine Meets.k (k1) ?_|refine Meets.k (k2) ?_|refine K9 ?_|((refine Kh (λhb=>?_) λhb=>?_)<;>try simp only[BL] at hb)|refine K8 ?_)<;>refine Kw ?_)
    all_goals first
     |contradiction
     |(refine⟨congrArg iD ?_⟩;split at he<;>first|omega|(exfalso;simp_all;done))
     | (refine⟨⟨j+1,?_,⟨by omega,?_⟩,by omega⟩⟩
        . exact Kr
        . split at he<;>first|omega|(exfalso;simp_all;done))
 . refine⟨congrArg iD ?_⟩
   rw[<-he,List.drop_eq_nil_of_le (by omega)]
   rfl
end Go.Proofs.YteillnfhkeebjaaGreatDoor.Dx
/- The scanner's readers. -/
namespace Go.Proofs.YteillnfhkeebjaaGreatDoor.Dx
open Go Go.RowKit Go.Proofs
set_option maxRecDepth 100000
set_option maxHeartbeats 8000000
abbrev tkD (k:Int)(s:List UInt8)(a:Int):D:= .agg [iD k, .str s,iD a]
def tkA (a:Nat)(x:Nat×List UInt8×Nat):D:=if x.1=0 then tkD 0 [] 0 else tkD x.1 x.2.1 a
abbrev rdD (a:Nat)(x:Nat×List UInt8×Nat):D:= .tup [tkA a x,iD (a+x.2.2:Nat)]
theorem a9x (l:List UInt8):∀ds∈byteCells l,ds.length=1:=by
 intro ds h;obtain⟨b,_,rfl⟩:=List.mem_map.1 h;rfl
theorem a9w (l:List UInt8)(i j:Nat):List.drop i (List.take j (byteCells l))=byteCells (List.drop i (List.take j l)):=by
 simp only[byteCells,List.map_drop,List.map_take]
theorem b0r (l:List UInt8)(i n:Nat):List.drop (i:Int).toNat (List.take ((i+n:Nat):Int).toNat l)=(l.drop i).take n:=by
 rw[Int.toNat_natCast,Int.toNat_natCast,List.drop_take,Nat.add_sub_cancel_left]
theorem Ky {l:List UInt8}{i j:Int}{E:Prop}(e:E)(h:l.length<=maxLen->0<=i/\i<=j/\j<=(l.length:Int):=by(intro _;refine⟨?_,?_,?_⟩<;>omega)):((byteCells l).length<=maxLen->0<=i/\i<=j/\j<=((byteCells l).length:Int)/\∀ds∈byteCells l,ds.length=1)/\E:=
 ⟨λhm=>by
  simp only[List.length_map] at hm⊢
  obtain⟨h1,h2,h3⟩:=h hm
  exact⟨h1,h2,h3,a9x l⟩,e⟩
theorem a2O (src:List UInt8)(a k:Int)(i n:Nat)(hi:i+n<=src.length)(ha:a=i):Meets Tryz.prog 226 [scP src a,iD k,iD (i+n:Nat)] λd=>d= .tup [tkD k ((src.drop i).take n) i,iD (i+n:Nat)]:=by
 subst ha
 refine enter tok {} Tryz.func226 rfl (by kernel_rfl) Tryz.ntmps226 (by simp) λB0 W0 V0 lent g0=>?_
 refine Kw ?_
 refine k9 tok (cf:={}) (by kernel_rfl) [.p 0, .p 1, .p 2, .p 3, .p 4, .p 5, .p 6, .p 7, .p 8, .p 9, .p 10, .p 11, .p 12, .p 13, .p 14, .p 15, .p 16, .p 17, .s 18 [16,0,1,2,3,4,5,6,7,8,9,10,11,12,13,14,15], .p 19] (by kernel_rfl) ?_
 refine Kw ?_
 repeat'((first|(intro hlq;try simp only[SL] at hlq)|refine Ky ?_|refine⟨_,a9w _ _ _,?_⟩|refine K9 ?_|((refine Kh (λhb=>?_) λhb=>?_)<;>try simp only[BL] at hb)|refine K8 ?_)<;>refine Kw ?_)
 refine⟨?_⟩
 rw[<-b0r]
theorem a3t {src:List UInt8}{a:Nat}(ha:a<src.length):L7 src a=cls src[a].toNat:=by rw[L7,List.getElem?_eq_getElem ha]
theorem b5J (src:List UInt8)(a:Nat)(ha:a<src.length):Meets Tryz.prog 224 [scP src a] λd=>d=bD (B9 src[a]):=by
 have k:=X2 src a a
 rw[a3t ha] at k
 refine enter tok {} Tryz.func224 rfl (by kernel_rfl) Tryz.ntmps224 (by simp) λB0 W0 V0 lent g0=>?_
 refine Kw ?_
 repeat'((first|(intro hlq;try simp only[SL] at hlq)|refine Meets.k (k) ?_|refine K9 ?_|((refine Kh (λhb=>?_) λhb=>?_)<;>try simp only[BL] at hb)|refine K8 ?_)<;>refine Kw ?_)
 exact⟨congrArg bD (a0s src[a]).1⟩
theorem b5N (src:List UInt8)(a:Nat)(ha:a<src.length):Meets Tryz.prog 238 [scP src a] λd=>d=bD (sgB src[a]):=by
 have k:=X2 src a a
 rw[a3t ha] at k
 refine enter tok {} Tryz.func238 rfl (by kernel_rfl) Tryz.ntmps238 (by simp) λB0 W0 V0 lent g0=>?_
 refine Kw ?_
 repeat'((first|(intro hlq;try simp only[SL] at hlq)|refine Meets.k (k) ?_|refine K9 ?_|((refine Kh (λhb=>?_) λhb=>?_)<;>try simp only[BL] at hb)|refine K8 ?_)<;>refine Kw ?_)
 exact⟨congrArg bD (a0s src[a]).2.2.1⟩
theorem b5O (src:List UInt8)(a:Int):Meets Tryz.prog 240 [scP src a] λd=>d=bD true:=by
 refine enter tok {} Tryz.func240 rfl (by kernel_rfl) Tryz.ntmps240 (by simp) λB0 W0 V0 lent g0=>?_
 refine Kw ?_
 exact⟨rfl⟩
theorem a5G (b:UInt8)(c:UInt8):(b==c)=decide ((b.toNat:Int)=(c.toNat:Int)):=by
 rw[Bool.eq_iff_iff,beq_iff_eq,decide_eq_true_eq,<-UInt8.toNat_inj];omega
theorem b5L (src:List UInt8)(a:Nat)(ha:a<src.length):Meets Tryz.prog 232 [scP src a] λd=>d=bD (src[a]==34):=by
 refine enter tok {} Tryz.func232 rfl (by kernel_rfl) Tryz.ntmps232 (by simp) λB0 W0 V0 lent g0=>?_
 refine Kw ?_
 refine k9 tok (cf:={}) (by kernel_rfl) [.p 0, .p 1, .p 2, .p 3, .p 4, .p 5, .p 6, .p 7, .p 8, .p 9, .p 10, .p 11] (by kernel_rfl) ?_
 refine Kw ?_
 repeat'((first|(intro hlq;try simp only[SL] at hlq)|refine K9 ?_|refine K8 ?_)<;>refine Kw ?_)
 refine⟨congrArg bD ?_⟩
 rw[a5G]
 rfl
theorem b5K (src:List UInt8)(a:Nat)(ha:a<src.length)(hl:src.length<=1048576):Meets Tryz.prog 228 [scP src a] λd=>d=bD (d9 src[a]||(src[a]==45&&J9 (src.drop (a+1)))):=by
 have k:=X2 src a a
 rw[a3t ha] at k
 have k2:=X2 src a (a+1)
 have e2:=a9R src (a+1)
 have e1:=(a0s src[a]).2.1
 rw[<-e1,<-e2,a5G]
 clear e1 e2
 refine enter tok {} Tryz.func228 rfl (by kernel_rfl) Tryz.ntmps228 (by simp) λB0 W0 V0 lent g0=>?_
 refine Kw ?_
 refine k9 tok (cf:={}) (by kernel_rfl) [.p 0, .p 1, .p 2, .p 3, .p 4, .s 5 [0,4,3,2,1], .p 6, .p 7, .p 8, .p 9, .p 10, .p 11, .p 12, .p 13, .p 14, .p 15, .p 16, .p 17, .p 18, .p 19, .p 20, .p 21, .p 22, .p 23, .p 24, .p 25, .s 26 [20,25,19,24,18,7,23,17,6,22,16,21,11,15,10,14,9,13,8,12], .p 27, .p 28, .p 29, .p 30] (by kernel_rfl) ?_
 refine Kw ?_
 repeat'((first|(intro hlq;try simp only[SL] at hlq)|refine Meets.k (k) ?_|refine Meets.k (k2) ?_|refine K9 ?_|((refine Kh (λhb=>?_) λhb=>?_)<;>try simp only[BL] at hb)|refine K8 ?_)<;>refine Kw ?_)
 all_goals
  refine⟨congrArg bD ?_⟩
  first
   |(simp_all;done)
   |(rw[Bool.eq_iff_iff];simp only[Bool.or_eq_true,Bool.and_eq_true,decide_eq_true_eq];simp;omega)
theorem b5M (src:List UInt8)(a:Nat)(ha:a<src.length)(hl:src.length<=1048576):Meets Tryz.prog 235 [scP src a] λd=>d=bD (O3 src[a] (src.drop (a+1))):=by
 have k:=b5Y src a (a+1)
 have e:O3 src[a] (src.drop (a+1))=(((decide ((src[a].toNat:Int)=60)||decide ((src[a].toNat:Int)=62))&&decide (a0n src (a+1)=61))||(decide ((src[a].toNat:Int)=46)&&decide (a0n src (a+1)=46))):=by
  unfold a0n
  by_cases h:a+1<src.length
  . rw[List.drop_eq_getElem_cons h,List.getElem?_eq_getElem h]
    simp only[O3,a5G]
    rfl
  . rw[List.drop_eq_nil_of_le (by omega),List.getElem?_eq_none (by omega)]
    simp[O3]
 rw[e]
 clear e
 refine enter tok {} Tryz.func235 rfl (by kernel_rfl) Tryz.ntmps235 (by simp) λB0 W0 V0 lent g0=>?_
 refine Kw ?_
 refine k9 tok (cf:={}) (by kernel_rfl) [.p 0, .p 1, .p 2, .p 3, .p 4, .p 5, .p 6, .p 7, .p 8, .p 9, .p 10, .p 11, .p 12, .p 13, .p 14, .p 15, .s 16 [10,15,14,13,12,11], .p 17, .p 18] (by kernel_rfl) ?_
 refine Kw ?_
 repeat'((first|(intro hlq;try simp only[SL] at hlq)|refine Meets.k (k) ?_|refine K9 ?_|((refine Kh (λhb=>?_) λhb=>?_)<;>try simp only[BL] at hb)|refine K8 ?_)<;>refine Kw ?_)
 all_goals
  refine⟨congrArg bD ?_⟩
  first
   |(simp_all;done)
   |(rw[Bool.eq_iff_iff];simp only[Bool.or_eq_true,Bool.and_eq_true,decide_eq_true_eq];simp;omega)
theorem c1t (src:List UInt8)(a:Nat)(ha:a<src.length)(hc:B9 src[a]=true):Meets Tryz.prog 225 [scP src a] λd=>d=rdD a (l9 (src.drop a)):=by
 have e:j4 false (src.drop a)=j4 false (src.drop (a+1))+1:=by
  rw[List.drop_eq_getElem_cons ha,j4,inB,hc];rfl
 have k1:=b2X src a a false (by omega)
 have hl:=Z2 false (src.drop a)
 rw[List.length_drop] at hl
 have k2:=a2O src a 1 a (j4 false (src.drop a)) (by omega) rfl
 refine enter tok {} Tryz.func225 rfl (by kernel_rfl) Tryz.ntmps225 (by simp) λB0 W0 V0 lent g0=>?_
 refine Kw ?_
 repeat'((first|(intro hlq;try simp only[SL] at hlq)|refine Meets.k (k1) ?_|refine Meets.k (k2) ?_|refine K9 ?_|((refine Kh (λhb=>?_) λhb=>?_)<;>try simp only[BL] at hb)|refine K8 ?_)<;>refine Kw ?_)
 refine⟨?_⟩
 have hr:l9 (src.drop a)=(1,(src.drop a).take (j4 false (src.drop a)),j4 false (src.drop a)):=by
  rw[e,List.drop_eq_getElem_cons ha,l9,if_pos hc]
 rw[hr]
 rfl
theorem c1z (src:List UInt8)(a:Nat)(ha:a<src.length)(hl:src.length<=1048576):Meets Tryz.prog 241 [scP src a] λd=>d=rdD a (0,[],1):=by
 refine enter tok {} Tryz.func241 rfl (by kernel_rfl) Tryz.ntmps241 (by simp) λB0 W0 V0 lent g0=>?_
 refine Kw ?_
 refine k9 tok (cf:={}) (by kernel_rfl) [.p 0, .p 1, .p 2, .p 3, .p 4, .p 5, .s 6 [0], .p 7] (by kernel_rfl) ?_
 refine Kw ?_
 repeat'((first|(intro hlq;try simp only[SL] at hlq)|refine K9 ?_|refine K8 ?_)<;>refine Kw ?_)
 exact⟨rfl⟩
theorem c1y (src:List UInt8)(a:Nat)(ha:a<src.length)(hl:src.length<=1048576):Meets Tryz.prog 239 [scP src a] λd=>d=rdD a (5,[src[a]],1):=by
 have k2:=a2O src a 5 a 1 (by omega) rfl
 refine enter tok {} Tryz.func239 rfl (by kernel_rfl) Tryz.ntmps239 (by simp) λB0 W0 V0 lent g0=>?_
 refine Kw ?_
 repeat'((first|(intro hlq;try simp only[SL] at hlq)|refine Meets.k (k2) ?_|refine K9 ?_|((refine Kh (λhb=>?_) λhb=>?_)<;>try simp only[BL] at hb)|refine K8 ?_)<;>refine Kw ?_)
 refine⟨?_⟩
 rw[List.drop_eq_getElem_cons ha]
 rfl
theorem c1x (src:List UInt8)(a:Nat)(ha:a+2<=src.length)(hl:src.length<=1048576):Meets Tryz.prog 237 [scP src a] λd=>d=rdD a (5,(src.drop a).take 2,2):=by
 have k2:=a2O src a 5 a 2 ha rfl
 refine enter tok {} Tryz.func237 rfl (by kernel_rfl) Tryz.ntmps237 (by simp) λB0 W0 V0 lent g0=>?_
 refine Kw ?_
 repeat'((first|(intro hlq;try simp only[SL] at hlq)|refine Meets.k (k2) ?_|refine K9 ?_|((refine Kh (λhb=>?_) λhb=>?_)<;>try simp only[BL] at hb)|refine K8 ?_)<;>refine Kw ?_)
 exact⟨rfl⟩
end Go.Proofs.YteillnfhkeebjaaGreatDoor.Dx
/- Quoted texts,in the code and in the reference. -/
namespace Go.Proofs.YteillnfhkeebjaaGreatDoor.Dx
open Go Go.RowKit Go.Proofs
set_option maxRecDepth 100000
set_option maxHeartbeats 8000000
theorem b8B (s:List UInt8)(c:UInt8): -1<=Lib.indexByte s c/\Lib.indexByte s c<=s.length:=by
 refine⟨Lib.indexByte_ge s c,?_⟩
 induction s with
 |nil=>show(-1:Int)<=0;decide
 | cons b l ih=>
   unfold Lib.indexByte
   simp only[List.length_cons]
   split
   . omega
   split<;>omega
theorem b4I (s:List UInt8)(c:UInt8)(hs:s.length<=1000):Meets Tryz.prog 265 [.str s, .v (.int .u8 (c.toNat:Int))] λd=>d=iD (Lib.indexByte s c):=by
 refine Meets.still ⟨Tryz.f265,_,Tryz.func265,rfl,by kernel_rfl⟩ λV W xs hS hx=>?_
 obtain⟨u,w,rfl,h1,h2⟩:=hx.two
 obtain⟨rfl,_⟩:=h1.str_inv
 obtain⟨rfl,_⟩:=Rep.v_inv h2
 refine(Tryz.strings_IndexByte ⟨⟨s⟩⟩ _ W).mono ?_
 rintro e W' ⟨rfl,rfl⟩
 have e:((c.toNat:Int)).toNat.toUInt8=c:=by
  rw[Int.toNat_natCast];exact UInt8.ofNat_toNat
 rw[e]
 have hb:=b8B s c
 exact⟨_,rfl,rfl,Rep.int (i64 (by show _<=Lib.indexByte s c;omega) (by show Lib.indexByte s c<=_;omega))⟩
def a3K (d:UInt8):Int:=if d=34 then 0 else if d=92 then 1 else if d=110 then 2 else-1
theorem b7N (d:UInt8):Lib.indexByte [34,92,110] d=a3K d:=by
 have h:∀n:Fin 256,Lib.indexByte [34,92,110] (UInt8.ofNat n.1)=a3K (UInt8.ofNat n.1):=by decide+kernel
 have:=h ⟨d.toNat,d.toNat_lt⟩
 simpa using this
theorem c1o (t:List UInt8):l7 (34::t)=some ([],1):=by unfold l7;rfl
theorem c1m {c:UInt8}{t:List UInt8}(h1:c≠34)(h2:c<32\/c>126):l7 (c::t)=none:=by
 unfold l7;rw[if_neg h1,if_pos h2]
theorem c1r {c:UInt8}{t:List UInt8}(h1:c≠34)(h2:¬(c<32\/c>126))(h3:c≠92):l7 (c::t)=(l7 t).map λx=>(c::x.1,x.2+1):=by
 conv=>lhs;unfold l7
 rw[if_neg h1,if_neg h2,if_neg h3]
 cases l7 t<;>rfl
theorem c1q:l7 [92]=none:=by unfold l7;rfl
theorem c1p (d:UInt8)(t:List UInt8):l7 (92::d::t)=match a0B d with|some x=>(l7 t).map λy=>(x::y.1,y.2+2)|none=>none:=by
 conv=>lhs;unfold l7
 rw[if_neg (by decide),if_neg (by decide),if_pos rfl]
 dsimp only
 cases a0B d with
 |none=>rfl
 |some x=>cases l7 t<;>rfl
def x6 (acc:List UInt8)(i:Nat)(o:Option (List UInt8×Nat)):Option (List UInt8×Nat):=o.map λx=>(acc++x.1,x.2+i)
def c1l:Option (List UInt8×Nat)->D|some (s,n)=> .tup [.str s,iD n]|none=> .tup [.str [],iD 0]
theorem a7o (acc:List UInt8)(i:Nat)(x:UInt8)(k:Nat)(o:Option (List UInt8×Nat)):x6 acc i (o.map λy=>(x::y.1,y.2+k))=x6 (acc++[x]) (i+k) o:=by
 cases o with
 |none=>rfl
 |some y=>simp only[x6,Option.map_some,List.append_assoc,List.singleton_append];congr 2;omega
theorem Kar {n:Nat}{ds:List D}{E:Prop}(e:E)(h:ds.length=n:=by rfl):(∀x∈[ds],x.length=n)/\E:=
 ⟨λx hx=>by rw[List.mem_singleton.1 hx];exact h,e⟩
theorem Kap {xs ys:List (List D)}{b:Nat}{E:Prop}(e:E)(h:xs.length+ys.length<=4611686018427387904/\(xs.length+ys.length)*b<=140737488355328:=by(dsimp only at *;simp only[List.length_map,List.length_cons,List.length_nil];omega)):
 (xs.length<=maxLen->ys.length<=maxLen->xs.length+ys.length<=4611686018427387904/\(xs.length+ys.length)*b<=140737488355328)/\E:=⟨λ_ _=>h,e⟩
theorem N3 {b:UInt8}{n:Nat}(hn:n<256):(b=UInt8.ofNat n)↔((b.toNat:Int)=(n:Int)):=by
 rw[<-UInt8.toNat_inj,UInt8.toNat_ofNat'];omega
theorem bcs (acc:List UInt8)(b:UInt8):byteCells acc++[[cD (b.toNat:Int)]]=byteCells (acc++[b]):=by simp[byteCells]
theorem c3W {b:UInt8}{n:Nat}(hn:n<256):(b<UInt8.ofNat n)↔((b.toNat:Int)<(n:Int)):=by
 rw[UInt8.lt_iff_toNat_lt,UInt8.toNat_ofNat'];omega
theorem c3V {b:UInt8}{n:Nat}(hn:n<256):(b>UInt8.ofNat n)↔((b.toNat:Int)>(n:Int)):=by
 show(UInt8.ofNat n<b)↔_
 rw[UInt8.lt_iff_toNat_lt,UInt8.toNat_ofNat'];omega
theorem c1n (c:UInt8)(t:List UInt8)(acc:List UInt8)(i:Nat):
 ((c.toNat:Int)=34->x6 acc i (l7 (c::t))=some (acc,i+1))/\
 (¬(c.toNat:Int)=34->((c.toNat:Int)<32\/(c.toNat:Int)>126)->x6 acc i (l7 (c::t))=none)/\
 (¬(c.toNat:Int)=34->¬(c.toNat:Int)<32->¬(c.toNat:Int)>126->¬(c.toNat:Int)=92->x6 acc i (l7 (c::t))=x6 (acc++[c]) (i+1) (l7 t))/\
 ((c.toNat:Int)=92->t=[]->x6 acc i (l7 (c::t))=none)/\
 (∀d r,(c.toNat:Int)=92->t=d::r->((d.toNat:Int)=34\/(d.toNat:Int)=92->x6 acc i (l7 (c::t))=x6 (acc++[d]) (i+2) (l7 r))/\((d.toNat:Int)=110->x6 acc i (l7 (c::t))=x6 (acc++[10]) (i+2) (l7 r))/\
   (¬(d.toNat:Int)=34->¬(d.toNat:Int)=92->¬(d.toNat:Int)=110->x6 acc i (l7 (c::t))=none)):=by
 have e34:c=34↔(c.toNat:Int)=34:=N3 (n:=34) (by decide)
 have e92:c=92↔(c.toNat:Int)=92:=N3 (n:=92) (by decide)
 have e32:c<32↔(c.toNat:Int)<32:=c3W (n:=32) (by decide)
 have e126:c>126↔(c.toNat:Int)>126:=c3V (n:=126) (by decide)
 refine⟨λh=>?_,λh1 h2=>?_,λh1 h2 h3 h4=>?_,λh1 h2=>?_,λd r h1 h2=>?_⟩
 . rw[e34.2 h,c1o]
   simp[x6];omega
 . rw[c1m (λh=>h1 (e34.1 h)) (by rw[e32,e126];exact h2)];rfl
 . rw[c1r (λh=>h1 (e34.1 h)) (by rw[e32,e126];omega) (λh=>h4 (e92.1 h)),a7o]
 . rw[e92.2 h1,h2,c1q];rfl
 . subst h2
   rw[e92.2 h1,c1p]
   have d34:d=34↔(d.toNat:Int)=34:=N3 (n:=34) (by decide)
   have d92:d=92↔(d.toNat:Int)=92:=N3 (n:=92) (by decide)
   have d110:d=110↔(d.toNat:Int)=110:=N3 (n:=110) (by decide)
   refine⟨λh=>?_,λh=>?_,λh3 h4 h5=>?_⟩
   . have:a0B d=some d:=by
      rcases h with h|h
      . rw[d34.2 h];rfl
      . rw[d92.2 h];rfl
     rw[this]
     exact a7o acc i d 2 _
   . rw[d110.2 h]
     exact a7o acc i 10 2 _
   . have:a0B d=none:=by
      rw[a0B,if_neg (λh=>h3 (d34.1 h)),if_neg (λh=>h4 (d92.1 h)),if_neg (λh=>h5 (d110.1 h))]
     rw[this];rfl
theorem c1s (l:List UInt8)(hl:l.length<=65536):Meets Tryz.prog 234 [.sl (byteCells l)] λd=>d=c1l (x6 [] 1 (l7 (l.drop 1))):=by
 refine enter tok {} Tryz.func234 rfl (by kernel_rfl) Tryz.ntmps234 (by simp) λB0 W0 V0 lent g0=>?_
 refine Kw ?_
 refine d4 tok {} [(.inl 4,4,5,1)] (X:=Nat×List UInt8) (λx=>[(5,iB x.1),(4, .own 4)]) (λx=>[(4, .sl ⟨5,1,byteCells x.2,true⟩)]) [] (λx=>1<=x.1/\x.1<=l.length+1/\x.2.length<=x.1/\x6 x.2 x.1 (l7 (l.drop x.1))=x6 [] 1 (l7 (l.drop 1))) (λx=>l.length+1-x.1) (1,[]) ?_
 refine Kw ?_
 refine⟨by simp,?_⟩
 refine Kw ?_
 refine And.intro ?_ ⟨⟨by omega,by dsimp only;omega,by simp,rfl⟩,λx hΦ=>?_⟩
 . exact Kr
 obtain⟨i,acc⟩:=x
 dsimp only at hΦ⊢
 obtain⟨hi,hj,hk,he⟩:=hΦ
 rw[<-he]
 refine Kw ?_
 repeat'((first|(intro hlq;try simp only[SL] at hlq)|refine K9 ?_|refine K8 ?_)<;>refine Kw ?_)
 refine⟨λh1=>?_,λh1=>?_⟩<;>(try simp only[BL] at h1)<;>refine Kw ?_
 . have h1' :i<l.length:=by omega
   have e:=List.drop_eq_getElem_cons h1'
   rw[e] at he⊢
   obtain⟨c1,c2,c3,c4,c5⟩:=c1n l[i] (l.drop (i+1)) acc i
   have hk':acc.length<=65537:=by omega
   have hfin:∀{x:UInt8} {j:Nat},j<=l.length->i<j->x6 acc i (l7 (l[i]::l.drop (i+1)))=x6 (acc++[x]) j (l7 (l.drop j))->1<=j/\j<=l.length+1/\(acc++[x]).length<=j/\x6 (acc++[x]) j (l7 (l.drop j))=x6 acc i (l7 (l[i]::l.drop (i+1))):=by
    intro x j h1 h2 h3
    refine⟨by omega,by omega,by rw[List.length_append,List.length_singleton];omega,h3.symm⟩
   by_cases he92:(l[i].toNat:Int)=92
   . by_cases hlt:i+1<l.length
     . have e2:=List.drop_eq_getElem_cons hlt
       obtain⟨d1,d2,d3⟩:=c5 _ _ he92 e2
       have hI:Lib.indexByte [34,92,110] l[i+1]=a3K l[i+1]:=b7N _
       have k1:=b4I [34,92,110] l[i+1] (by decide)
       rw[hI] at k1
       have x34:l[i+1]=34↔(l[i+1].toNat:Int)=34:=N3 (n:=34) (by decide)
       have x92:l[i+1]=92↔(l[i+1].toNat:Int)=92:=N3 (n:=92) (by decide)
       have x110:l[i+1]=110↔(l[i+1].toNat:Int)=110:=N3 (n:=110) (by decide)
       unfold a3K at k1
       simp only[x34,x92,x110] at k1
       by_cases y34:(l[i+1].toNat:Int)=34
       . rw [if_pos y34] at k1
         repeat'((first|(intro hlq;try simp only[SL] at hlq)|refine Meets.k (k1) ?_|refine Kar ?_|refine Kap ?_|refine⟨34,⟨by omega,rfl⟩,?_⟩|refine K9 ?_|((refine Kh (λhb=>?_) λhb=>?_)<;>try simp only[BL] at hb)|refine Ka ?_|refine Kb ?_|refine Kc (hd:=rfl) (e:=?_)|refine Kc (hd:=rfl) (e:=?_)|refine Kd (e:=?_)|refine Kl rfl ?_|fail)<;>refine Kw ?_)
         all_goals first
          |(exfalso;omega)
          | (refine⟨⟨(i+2,acc++[l[i+1]]),?_,hfin (j:=i+2) (by omega) (by omega) (d1 (.inl y34)),by dsimp only;omega⟩⟩
             dsimp only
             rw[<-bcs,x34.2 y34]
             repeat'(first|exact True.intro|exact rfl|refine And.intro ?_ ?_))
       rw[if_neg y34] at k1
       by_cases y92:(l[i+1].toNat:Int)=92
       . rw [if_pos y92] at k1
         repeat'((first|(intro hlq;try simp only[SL] at hlq)|refine Meets.k (k1) ?_|refine Kar ?_|refine Kap ?_|refine⟨92,⟨by omega,rfl⟩,?_⟩|refine K9 ?_|((refine Kh (λhb=>?_) λhb=>?_)<;>try simp only[BL] at hb)|refine Ka ?_|refine Kb ?_|refine Kc (hd:=rfl) (e:=?_)|refine Kc (hd:=rfl) (e:=?_)|refine Kd (e:=?_)|refine Kl rfl ?_|fail)<;>refine Kw ?_)
         all_goals first
          |(exfalso;omega)
          | (refine⟨⟨(i+2,acc++[l[i+1]]),?_,hfin (j:=i+2) (by omega) (by omega) (d1 (.inr y92)),by dsimp only;omega⟩⟩
             dsimp only
             rw[<-bcs,x92.2 y92]
             repeat'(first|exact True.intro|exact rfl|refine And.intro ?_ ?_))
       rw[if_neg y92] at k1
       by_cases y110:(l[i+1].toNat:Int)=110
       . rw [if_pos y110] at k1
         repeat'((first|(intro hlq;try simp only[SL] at hlq)|refine Meets.k (k1) ?_|refine Kar ?_|refine Kap ?_|refine⟨10,⟨by omega,rfl⟩,?_⟩|refine K9 ?_|((refine Kh (λhb=>?_) λhb=>?_)<;>try simp only[BL] at hb)|refine Ka ?_|refine Kb ?_|refine Kc (hd:=rfl) (e:=?_)|refine Kc (hd:=rfl) (e:=?_)|refine Kd (e:=?_)|refine Kl rfl ?_|fail)<;>refine Kw ?_)
         all_goals first
          |(exfalso;omega)
          | (refine⟨⟨(i+2,acc++[10]),?_,hfin (j:=i+2) (by omega) (by omega) (d2 y110),by dsimp only;omega⟩⟩
             dsimp only
             rw[<-bcs]
             repeat'(first|exact True.intro|exact rfl|refine And.intro ?_ ?_))
       rw[if_neg y110] at k1
       rw[d3 y34 y92 y110]
       repeat'((first|(intro hlq;try simp only[SL] at hlq)|refine Meets.k (k1) ?_|refine K9 ?_|((refine Kh (λhb=>?_) λhb=>?_)<;>try simp only[BL] at hb)|refine Ka ?_|refine Kb ?_|refine Kc (hd:=rfl) (e:=?_)|refine Kc (hd:=rfl) (e:=?_)|refine Kd (e:=?_)|refine Kl rfl ?_|fail)<;>refine Kw ?_)
       all_goals first
        |exact⟨rfl⟩
        |(exfalso;omega)
     . have e2:List.drop (i+1) l=[]:=List.drop_eq_nil_of_le (by omega)
       rw[c4 he92 e2]
       repeat'((first|(intro hlq;try simp only[SL] at hlq)|refine K9 ?_|((refine Kh (λhb=>?_) λhb=>?_)<;>try simp only[BL] at hb)|refine Ka ?_|refine Kb ?_|refine Kc (hd:=rfl) (e:=?_)|refine Kc (hd:=rfl) (e:=?_)|refine Kd (e:=?_)|refine Kl rfl ?_|fail)<;>refine Kw ?_)
       all_goals first
        |exact⟨rfl⟩
        |(exfalso;omega)
   . repeat' ((first|(intro hlq;try simp only[SL] at hlq)|refine⟨acc,rfl,?_⟩|refine Kar ?_|refine Kap ?_|refine K9 ?_|((refine Kh (λhb=>?_) λhb=>?_)<;>try simp only[BL] at hb)|refine Ka ?_|refine Kb ?_|refine Kc (hd:=rfl) (e:=?_)|refine Kc (hd:=rfl) (e:=?_)|refine Kd (e:=?_)|refine Kl rfl ?_|fail)<;>refine Kw ?_)
     all_goals first
      |(exfalso;omega)
      |(refine⟨?_⟩;rw[c1 (by assumption)];rfl)
      |(refine⟨?_⟩;rw[c2 (by assumption) (.inl (by assumption))];rfl)
      |(refine⟨?_⟩;rw[c2 (by assumption) (.inr (by assumption))];rfl)
      | (refine⟨⟨(i+1,acc++[l[i]]),?_,hfin (by omega) (by omega) (c3 (by omega) (by omega) (by omega) he92),by dsimp only;omega⟩⟩
         dsimp only
         rw[<-bcs]
         repeat'(first|exact True.intro|exact rfl|refine And.intro ?_ ?_))
 . refine⟨?_⟩
   rw[List.drop_eq_nil_of_le (by omega)]
   rfl
end Go.Proofs.YteillnfhkeebjaaGreatDoor.Dx
/- The reference's small functions: letter,inner,Sign,Integer. -/
namespace Go.Proofs.YteillnfhkeebjaaGreatDoor.Dx
open Go Go.RowKit Go.Proofs
set_option maxRecDepth 100000
set_option maxHeartbeats 8000000
end Go.Proofs.YteillnfhkeebjaaGreatDoor.Dx
