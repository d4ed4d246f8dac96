/- A. -/
import Derived.Test.YteillnfhkeebjaaGreatDoorXi
set_option linter.all false
namespace Go.Proofs.YteillnfhkeebjaaGreatDoor.Dx
open Go Go.RowKit Go.Proofs
set_option maxRecDepth 100000
set_option maxHeartbeats 8000000
mutual
def T3:D->Bool
 | .v _=>true
 | .bl _=>true
 | .str _=>true
 | .junk=>true
 | .agg ds=>flatDs ds
 | .tup ds=>flatDs ds
 |_=>false
def flatDs:List D->Bool
 |[]=>true
 |d::ds=>T3 d&&flatDs ds
end
theorem b2y:∀{ds:List D},flatDs ds=true->∀{i:Nat} {d:D},ds[i]?=some d->T3 d=true
 |[],_,i,d,h=>by simp at h
 | x::ds,h,i,d,hi=>by
   simp only[flatDs,f0] at h;cases i with
   |zero=>simp at hi;subst hi;exact h.1
   |succ i=>exact b2y h.2 (by simpa using hi)
theorem c6C {V V':Know}{x:Value}{d:D}(h:Rep V x d):T3 d=true->Rep V' x d:=by
 induction h with
 |v x h=>intro _;exact .v x h
 |bl b=>intro _;exact .bl b
 |junk x=>intro _;exact .junk x
 |str l h=>intro _;exact .str l h
 | agg us ds hl h1 h ih=>
   intro hk;simp only[T3] at hk;exact .agg us ds hl h1 λi u d hu hd=>ih i u d hu hd (b2y hk hd)
 | tup us ds hl h ih=>
   intro hk;simp only[T3] at hk;exact .tup us ds hl λi u d hu hd=>ih i u d hu hd (b2y hk hd)
 |raw=>intro hk;simp[T3] at hk
 |nil=>intro hk;simp[T3] at hk
 |empty a=>intro hk;simp[T3] at hk
 |sl=>intro hk;simp[T3] at hk
 |ptr=>intro hk;simp[T3] at hk
 |mnil=>intro hk;simp[T3] at hk
 |mp=>intro hk;simp[T3] at hk
 |iface=>intro hk;simp[T3] at hk
 |fn=>intro hk;simp[T3] at hk
def Know.lack (V:Know)(g:Nat):Know:={V with cell:=λb o=>if b=g then none else V.cell b o}
theorem lack_cell {V:Know}{g b o:Nat}{u:Value}:(V.lack g).cell b o=some u↔b≠g/\V.cell b o=some u:=by
 show(if b=g then none else V.cell b o)=some u↔_;split
 . rename_i h;simp[h]
 . rename_i h;simp[h]
def b8y (n:Nat)(cs:List D)(b:Base):Option D:=
 match b with
 | .d d=>some d
 | .loc m off=>match Nat.beq m n with
   |true=>some (.ptr cs off)
   |false=>none
 |_=>none
def a7X (n:Nat)(cs:List D):List Base->Option (List D)
 |[]=>some []
 | b ::bs=>match b8y n cs b with
   | some d=>match a7X n cs bs with
     |some ds=>some (d::ds)
     |none=>none
   |none=>none
theorem b8z {γ:Gm}{V V':Know}(hle:V.Le V'){n blk:Nat}{cs:List D}(hγ:(γ n).1= .pointer (some ⟨blk,0,none⟩))(hr:∀off,Rep V' (.pointer (some ⟨blk,off,none⟩)) (.ptr cs off)):∀{bs:List Base} {ds:List D} {vs:List Value},a7X n cs bs=some ds->Vals γ V bs vs->Vals γ V' (ds.map .d) vs
 | [],ds,vs,h,hv=>by
   cases h;obtain rfl:=hv.nil_l;exact All2.nil
 | b ::bs,ds,vs,h,hv=>by
   obtain⟨x,vs,rfl,h1,h2⟩:=hv.cons_l;simp only[a7X] at h;split at h
   case h_2=>cases h
   rename_i d hd;split at h
   case h_2=>cases h
   rename_i ds' hds;cases h;refine .cons ?_ (b8z hle hγ hr hds h2);unfold b8y at hd;split at hd
   . cases hd;exact Rep.mono hle h1
   . split at hd
     . rename_i e;obtain rfl:=t7 e;cases hd;obtain⟨blk',e1,rfl⟩:=h1;rw[hγ] at e1;cases e1;exact hr _
     . cases hd
   . cases hd
theorem c8n {P:Program}{F:FuncId}{ds cs:List D}{bs:List Base}{n:Nat}{ty:TypeId}{R:D->Prop}(h:Meets P F ds R)(O:List (Nat×Blk))(hlk:d7 n O=some (.box (cs.map .d) ty))(hl:a7X n cs bs=some ds)(hk:∀d,R d->T3 d=true):
 MeetsR P F bs O λo O'=>∃d,o= .ret (.d d)/\O'=O/\R d:=by
 refine⟨h.out.fn,λγ V W vs hs hv hown hinj=>?_⟩;obtain⟨g,cells,hγ,hh,hvr,h1,hnone⟩:=hown n _ hlk;have hgW:g<W.heap.size:=(a1y.1 hh).1;have hcells:∀(j:Nat) u,cells.toList[j]?=some u->W.cell? ⟨g,j,none⟩=some u:=by
  intro j u hj;simp only[World.cell?,hh];simpa using hj
 have hle:V.Le (V.with g cells.toList):=a2f λo u hu=>by rw[hnone] at hu;cases hu
 have hs1:=a6O hs hle hcells;have hat:∀(j:Nat) u,(V.with g cells.toList).cell g j=some u↔cells.toList[j]?=some u:=λj u=>by
  show(if g=g then cells.toList[j]? else _)=some u↔_;rw[d4 rfl]
 have hrep:∀off,Rep (V.with g cells.toList) (.pointer (some ⟨g,off,none⟩)) (.ptr cs off):=by
  intro off;have:=Rep.ptr (V:=V.with g cells.toList) g 0 cs off (λj d hj=>by
   obtain⟨u,hu,_⟩:=hvr.at (i:=j) (x:= .d d) (by rw[z7,hj];rfl);exact⟨u,by rw[F3];exact(hat j u).2 hu,h1 u (M6 hu)⟩) (λj d u hj hu=>by
   rw[F3] at hu;have hu:=(hat j u).1 hu;exact Rep.mono hle (hvr.get j (.d d) u (by rw[z7,hj];rfl) hu))
  rwa[F3] at this
 refine(h.out.run γ (V.with g cells.toList) W vs hs1 (b8z hle (by rw[hγ]) hrep hl hv) (λm b hl=>by rw[r7] at hl;cases hl) (λm m' b b' hl=>by rw[r7] at hl;cases hl)).mono ?_;rintro ev W' ⟨γ',V2,o,O',hout,hbel,hfr,hsees,_,_,_,_,d,rfl,rfl,hR⟩;have hle2:V.Le V2:=hle.trans hfr.le;have hle3:V.Le (V2.lack g):=⟨λb o v hc=>lack_cell.2 ⟨λe=>(by rw[e,hnone] at hc;cases hc),hle2.cell b o v hc⟩,λr x hx=>hle2.obj r x hx⟩
 have hbel0:BelowX [] W.heap.size W W':=hbel;refine⟨γ,V2.lack g, .ret (.d d),O,?_,⟨hbel0.os,hbel0.tape,hbel0.output,hbel0.size,λq hq _=>hbel0.block q hq (by simp)⟩,⟨hle3,λb o v hc=>?_,λr x hx=>?_⟩,⟨λb o v hc=>hsees.cell b o v (lack_cell.1 hc).2,hsees.obj,hs.lib.mono hle3,hsees.row⟩,λm b hlm=>?_,λm b hlm q hq=> .inl (R6.2 ⟨(m,b),Y3 hlm,hq⟩),hinj,λ_ _ _ _=>rfl,d,rfl,rfl,hR⟩
 . cases ev with
   |returned v=>exact c6C (V:=V2) hout (hk d hR)
   |panicked _=>exact hout.elim
   |outgrown=>exact hout.elim
 . obtain ⟨hbg,hc⟩:=lack_cell.1 hc;rcases hfr.cell b o v hc with h2|h2|h2
   . have h3:(if b=g then cells.toList[o]? else V.cell b o)=some v:=h2;rw[c8 hbg] at h3;exact .inl h3
   . simp[o8] at h2
   . exact .inr (.inr h2)
 . rcases hfr.obj r x hx with h2|h2|h2
   . exact .inl h2
   . simp[o8] at h2
   . exact .inr (.inr h2)
 . have hb:=hown m b hlm;refine hb.keep hle3 (λq hq=>hbel0.block q (I2 hb hq) (by simp)) (λq hq o u hu=>?_) (λr hr x hx=>?_)
   . obtain ⟨hqg,hc⟩:=lack_cell.1 hu;rcases hfr.cell q o u hc with h2|h2|h2
     . have h3:(if q=g then cells.toList[o]? else V.cell q o)=some u:=h2;rwa[c8 hqg] at h3
     . simp[o8] at h2
     . have:=I2 hb hq;omega
   . rcases hfr.obj r x hx with h2|h2|h2
     . exact h2
     . simp[o8] at h2
     . have:=I2 hb hr;omega
theorem c4j (d:D)(n:Nat)(cs:List D)(ty:TypeId):a0x (.d d) [(n, .box (cs.map .d) ty)]=true:=by
 have h:((cs.map Base.d).all λc=>(A7 c).all (a2A [(n, .box (cs.map .d) ty)]))=true:=n7.2 λb hb=>by
  obtain⟨d,_,rfl⟩:=v6.1 hb;rfl
 show(true&&((((cs.map Base.d).all λc=>(A7 c).all (a2A [(n, .box (cs.map .d) ty)])))&&true))=true;rw[h];rfl
abbrev scC (src:List UInt8)(a:Int):List D:= .sl (byteCells src)::iD a::N6 cls
abbrev scP (src:List UInt8)(a:Int):D:= .ptr (scC src a) 0
def a1G (src:List UInt8)(i:Nat):Int:=match src[i]? with|some b=>cls b.toNat|none=>0
def a5N (src:List UInt8)(i:Nat):Int:=match src[i]? with|some b=>(b.toNat:Int)|none=>0
theorem d3e (f:Nat->Int){i:Nat}(h:i<256):∃r,(N6 f).drop i=cD (f i)::r:=by
 refine⟨(N6 f).drop (i+1),?_⟩;rw[F2 (by rw[b0Z];exact h)];simp[N6]
theorem a4A (src:List UInt8)(a:Int)(i:Nat):Mt 188 [scP src a,iD i] λd=>d=cD (a1G src i):=by
 refine En {} Tryz.func188 Tryz.ntmps188 λ_ _ _ _ _=>?_;refine Kw ?_;repeat'((first|(intro hlq;try simp only[SL] at hlq)|refine K9 ?_|((refine Kh (λhb=>?_) λhb=>?_)<;>try simp only[BL] at hb)|refine K8 ?_)<;>refine Kw ?_)
 . refine⟨?_⟩;rw[a1G,z6 (by omega)]
 . have hi:i<src.length:=by omega
   have hb:=src[i].toNat_lt;obtain⟨r,hr⟩:=d3e cls (i:=src[i].toNat) (by omega);refine Dr {} [.p 0, .p 1, .p 2, .p 3, .p 4, .p 5, .p 6, .p 7, .p 8, .p 9, .p 10, .p 11, .p 12] ?_;refine Kw ?_;repeat'((first|(intro hlq;try simp only[SL] at hlq)|refine K9 ?_|refine K8 ?_)<;>refine Kw ?_)
   generalize hE:List.drop _ _=E;have h:E=cD (cls src[i].toNat)::r:=by
    rw[<-hE,<-hr];refine Eq.trans (d6 (λk=>List.drop k (scC src a)) (?_:_=src[i].toNat+2)) rfl;dsimp only;omega
   clear hE;subst h;refine Kw ?_;refine⟨?_⟩;rw[a1G,t6 hi]
theorem c3O (src:List UInt8)(a:Int)(i:Nat):Mt 236 [scP src a,iD i] λd=>d=cD (a5N src i):=by
 refine En {} Tryz.func236 Tryz.ntmps236 λ_ _ _ _ _=>?_;refine Kw ?_;repeat'((first|(intro hlq;try simp only[SL] at hlq)|refine K9 ?_|((refine Kh (λhb=>?_) λhb=>?_)<;>try simp only[BL] at hb)|refine K8 ?_)<;>refine Kw ?_)
 . refine⟨?_⟩;rw[a5N,z6 (by omega)]
 . have hi:i<src.length:=by omega
   refine⟨?_⟩;rw[a5N,t6 hi]
theorem a5R (b:UInt8):decide (cls b.toNat=2)=L7 b/\decide (cls b.toNat=3)=p4 b/\decide (cls b.toNat=4)=sgB b/\decide (cls b.toNat=1)=blB b:=by
 have h:∀n:Fin 256,decide (cls n.1=2)=L7 (UInt8.ofNat n.1)/\decide (cls n.1=3)=p4 (UInt8.ofNat n.1)/\decide (cls n.1=4)=sgB (UInt8.ofNat n.1)/\decide (cls n.1=1)=blB (UInt8.ofNat n.1):=by decide+kernel
 have:=h ⟨b.toNat,b.toNat_lt⟩;simpa using this
theorem b6x (src:List UInt8)(i:Nat):decide (a1G src i=3)=a0C (src.drop i):=by
 unfold a1G;by_cases h:i<src.length
 . rw[t6 h,F2 h];exact(a5R src[i]).2.1
 . rw[z6 (by omega),a0U (by omega)];rfl
theorem b9W (src:List UInt8)(a:Int)(i:Nat)(p:Bool)(hi:i<=src.length):Mt 227 [scP src a,iD i,bD p] λd=>d=iD (i+A0 p (src.drop i):Nat):=by
 refine En {} Tryz.func227 Tryz.ntmps227 λ_ _ _ _ _=>?_;refine Kw ?_;refine o4 tok {} [] (X:=Nat) (λj=>[(1,iB j)]) (λ_=>[]) [] (λj=>j<=src.length/\j+A0 p (src.drop j)=i+A0 p (src.drop i)) (λj=>src.length-j) i ?_;refine Kw ?_;refine d8 ?_ ⟨⟨hi,rfl⟩,λj hΦ=>?_⟩
 . exact Kr
 obtain⟨hj,he⟩:=hΦ;refine Kw ?_;repeat'((first|(intro hlq;try simp only[SL] at hlq)|refine K9 ?_|refine K8 ?_)<;>refine Kw ?_)
 refine⟨λh1=>?_,λh1=>?_⟩<;>(try simp only[BL] at h1)<;>refine Kw ?_
 . have h1':j<src.length:=by omega
   rw[F2 h1',A0] at he;have hc:=a5R src[j];have hd:=b6x src (j+1);have k1:=a4A src a j;rw[show a1G src j=cls src[j].toNat by rw[a1G,t6 h1']] at k1;have k2:=a4A src a (j+1);have hc95:(src[j]==95)=decide ((src[j].toNat:Int)=95):=by
    rw[G8,beq_iff_eq,j0,<-a5L];have:(95:UInt8).toNat=95:=rfl;omega
   have hc58:(src[j]==58)=decide ((src[j].toNat:Int)=58):=by
    rw[G8,beq_iff_eq,j0,<-a5L];have:(58:UInt8).toNat=58:=rfl;omega
   have hc46:(src[j]==46)=decide ((src[j].toNat:Int)=46):=by
    rw[G8,beq_iff_eq,j0,<-a5L];have:(46:UInt8).toNat=46:=rfl;omega
   rw[inB,ptB,<-hc.1,<-hc.2.1,hc95,hc58,hc46,<-hd] at he;clear hc hd hc95 hc58 hc46;generalize cls src[j].toNat=k at *;generalize a1G src (j+1)=k' at *;cases p;all_goals
    repeat'((first|(intro hlq;try simp only[SL] at hlq)|refine Meets.k (k1) ?_|refine Meets.k (k2) ?_|refine K9 ?_|((refine Kh (λhb=>?_) λhb=>?_)<;>try simp only[BL] at hb)|refine K8 ?_)<;>refine Kw ?_)
    all_goals first
     |contradiction
     |(refine⟨d6 iD ?_⟩;split at he<;>first|omega|(exfalso;simp_all;done))
     | (refine⟨⟨j+1,?_,⟨by omega,?_⟩,by omega⟩⟩
        . exact Kr
        . split at he<;>first|omega|(exfalso;simp_all;done))
 . refine⟨d6 iD ?_⟩;rw[<-he,a0U (by omega)];rfl
abbrev tkD (k:Int)(s:List UInt8)(a:Int):D:= .agg [iD k, .str s,iD a]
def tkA (a:Nat)(x:Nat×List UInt8×Nat):D:=if x.1=0 then tkD 0 [] 0 else tkD x.1 x.2.1 a
abbrev rdD (a:Nat)(x:Nat×List UInt8×Nat):D:= .tup [tkA a x,iD (a+x.2.2:Nat)]
theorem b6c (l:List UInt8):∀ds∈byteCells l,ds.length=1:=by
 intro ds h;obtain⟨b,_,rfl⟩:=v6.1 h;rfl
theorem b6b (l:List UInt8)(i j:Nat):List.drop i (List.take j (byteCells l))=byteCells (List.drop i (List.take j l)):=by
 simp only[byteCells,List.map_drop,List.map_take]
theorem b7f (l:List UInt8)(i n:Nat):List.drop (i:Int).toNat (List.take ((i+n:Nat):Int).toNat l)=(l.drop i).take n:=by
 rw[U4,U4,List.drop_take,Nat.add_sub_cancel_left]
theorem Ky {l:List UInt8}{i j:Int}{E:Prop}(e:E)(h:l.length<=maxLen->0<=i/\i<=j/\j<=(l.length:Int):=by(intro _;refine⟨?_,?_,?_⟩<;>omega)):((byteCells l).length<=maxLen->0<=i/\i<=j/\j<=((byteCells l).length:Int)/\∀ds∈byteCells l,ds.length=1)/\E:=
 ⟨λhm=>by
  simp only[o9] at hm⊢;obtain⟨h1,h2,h3⟩:=h hm;exact⟨h1,h2,h3,b6c l⟩,e⟩
theorem a8I (src:List UInt8)(a k:Int)(i n:Nat)(hi:i+n<=src.length)(ha:a=i):Mt 226 [scP src a,iD k,iD (i+n:Nat)] λd=>d= .tup [tkD k ((src.drop i).take n) i,iD (i+n:Nat)]:=by
 subst ha;refine En {} Tryz.func226 Tryz.ntmps226 λ_ _ _ _ _=>?_;refine Kw ?_;refine Dr {} [.p 0, .p 1, .p 2, .p 3, .p 4, .p 5, .p 6, .p 7, .p 8, .p 9, .p 10, .p 11, .p 12, .p 13, .p 14, .p 15, .p 16, .p 17, .s 18 [16,0,1,2,3,4,5,6,7,8,9,10,11,12,13,14,15], .p 19] ?_;refine Kw ?_;repeat'((first|(intro hlq;try simp only[SL] at hlq)|refine Ky ?_|refine⟨_,b6b _ _ _,?_⟩|refine K9 ?_|((refine Kh (λhb=>?_) λhb=>?_)<;>try simp only[BL] at hb)|refine K8 ?_)<;>refine Kw ?_)
 refine⟨?_⟩;rw[<-b7f]
theorem a9z {src:List UInt8}{a:Nat}(ha:a<src.length):a1G src a=cls src[a].toNat:=by rw[a1G,t6 ha]
theorem c3A (src:List UInt8)(a:Nat)(ha:a<src.length):Mt 224 [scP src a] λd=>d=bD (L7 src[a]):=by
 have k:=a4A src a a;rw[a9z ha] at k;refine En {} Tryz.func224 Tryz.ntmps224 λ_ _ _ _ _=>?_;refine Kw ?_;repeat'((first|(intro hlq;try simp only[SL] at hlq)|refine Meets.k (k) ?_|refine K9 ?_|((refine Kh (λhb=>?_) λhb=>?_)<;>try simp only[BL] at hb)|refine K8 ?_)<;>refine Kw ?_)
 exact⟨d6 bD (a5R src[a]).1⟩
theorem c3E (src:List UInt8)(a:Nat)(ha:a<src.length):Mt 238 [scP src a] λd=>d=bD (sgB src[a]):=by
 have k:=a4A src a a;rw[a9z ha] at k;refine En {} Tryz.func238 Tryz.ntmps238 λ_ _ _ _ _=>?_;refine Kw ?_;repeat'((first|(intro hlq;try simp only[SL] at hlq)|refine Meets.k (k) ?_|refine K9 ?_|((refine Kh (λhb=>?_) λhb=>?_)<;>try simp only[BL] at hb)|refine K8 ?_)<;>refine Kw ?_)
 exact⟨d6 bD (a5R src[a]).2.2.1⟩
theorem c3F (src:List UInt8)(a:Int):Mt 240 [scP src a] λd=>d=bD true:=by
 refine En {} Tryz.func240 Tryz.ntmps240 λ_ _ _ _ _=>?_;refine Kw ?_;exact⟨rfl⟩
theorem b1U (b:UInt8)(c:UInt8):(b==c)=decide ((b.toNat:Int)=(c.toNat:Int)):=by
 rw[G8,beq_iff_eq,j0,<-a5L];omega
theorem c3C (src:List UInt8)(a:Nat)(ha:a<src.length):Mt 232 [scP src a] λd=>d=bD (src[a]==34):=by
 refine En {} Tryz.func232 Tryz.ntmps232 λ_ _ _ _ _=>?_;refine Kw ?_;refine Dr {} [.p 0, .p 1, .p 2, .p 3, .p 4, .p 5, .p 6, .p 7, .p 8, .p 9, .p 10, .p 11] ?_;refine Kw ?_;repeat'((first|(intro hlq;try simp only[SL] at hlq)|refine K9 ?_|refine K8 ?_)<;>refine Kw ?_)
 refine⟨d6 bD ?_⟩;rw[b1U];rfl
theorem c3B (src:List UInt8)(a:Nat)(ha:a<src.length)(hl:src.length<=1048576):Mt 228 [scP src a] λd=>d=bD (p4 src[a]||(src[a]==45&&a0C (src.drop (a+1)))):=by
 have k:=a4A src a a;rw[a9z ha] at k;have k2:=a4A src a (a+1);have e2:=b6x src (a+1);have e1:=(a5R src[a]).2.1;rw[<-e1,<-e2,b1U];clear e1 e2;refine En {} Tryz.func228 Tryz.ntmps228 λ_ _ _ _ _=>?_;refine Kw ?_;refine Dr {} [.p 0, .p 1, .p 2, .p 3, .p 4, .s 5 [0,4,3,2,1], .p 6, .p 7, .p 8, .p 9, .p 10, .p 11, .p 12, .p 13, .p 14, .p 15, .p 16, .p 17, .p 18, .p 19, .p 20, .p 21, .p 22, .p 23, .p 24, .p 25, .s 26 [20,25,19,24,18,7,23,17,6,22,16,21,11,15,10,14,9,13,8,12], .p 27, .p 28, .p 29, .p 30] ?_;refine Kw ?_;repeat'((first|(intro hlq;try simp only[SL] at hlq)|refine Meets.k (k) ?_|refine Meets.k (k2) ?_|refine K9 ?_|((refine Kh (λhb=>?_) λhb=>?_)<;>try simp only[BL] at hb)|refine K8 ?_)<;>refine Kw ?_)
 all_goals
  refine⟨d6 bD ?_⟩;first
   |(simp_all;done)
   |(rw[G8];simp only[C0,f0,j0];simp;omega)
theorem c3D (src:List UInt8)(a:Nat)(ha:a<src.length)(hl:src.length<=1048576):Mt 235 [scP src a] λd=>d=bD (a2w src[a] (src.drop (a+1))):=by
 have k:=c3O src a (a+1);have e:a2w src[a] (src.drop (a+1))=(((decide ((src[a].toNat:Int)=60)||decide ((src[a].toNat:Int)=62))&&decide (a5N src (a+1)=61))||(decide ((src[a].toNat:Int)=46)&&decide (a5N src (a+1)=46))):=by
  unfold a5N;by_cases h:a+1<src.length
  . rw[F2 h,t6 h];simp only[a2w,b1U];rfl
  . rw[a0U (by omega),z6 (by omega)];simp[a2w]
 rw[e];clear e;refine En {} Tryz.func235 Tryz.ntmps235 λ_ _ _ _ _=>?_;refine Kw ?_;refine Dr {} [.p 0, .p 1, .p 2, .p 3, .p 4, .p 5, .p 6, .p 7, .p 8, .p 9, .p 10, .p 11, .p 12, .p 13, .p 14, .p 15, .s 16 [10,15,14,13,12,11], .p 17, .p 18] ?_;refine Kw ?_;repeat'((first|(intro hlq;try simp only[SL] at hlq)|refine Meets.k (k) ?_|refine K9 ?_|((refine Kh (λhb=>?_) λhb=>?_)<;>try simp only[BL] at hb)|refine K8 ?_)<;>refine Kw ?_)
 all_goals
  refine⟨d6 bD ?_⟩;first
   |(simp_all;done)
   |(rw[G8];simp only[C0,f0,j0];simp;omega)
theorem d0E (src:List UInt8)(a:Nat)(ha:a<src.length)(hc:L7 src[a]=true):Mt 225 [scP src a] λd=>d=rdD a (C4 (src.drop a)):=by
 have e:A0 false (src.drop a)=A0 false (src.drop (a+1))+1:=by
  rw[F2 ha,A0,inB,hc];rfl
 have k1:=b9W src a a false (by omega);have hl:=a5b false (src.drop a);rw[K2] at hl;have k2:=a8I src a 1 a (A0 false (src.drop a)) (by omega) rfl;refine En {} Tryz.func225 Tryz.ntmps225 λ_ _ _ _ _=>?_;refine Kw ?_;repeat'((first|(intro hlq;try simp only[SL] at hlq)|refine Meets.k (k1) ?_|refine Meets.k (k2) ?_|refine K9 ?_|((refine Kh (λhb=>?_) λhb=>?_)<;>try simp only[BL] at hb)|refine K8 ?_)<;>refine Kw ?_)
 refine⟨?_⟩;have hr:C4 (src.drop a)=(1,(src.drop a).take (A0 false (src.drop a)),A0 false (src.drop a)):=by
  rw[e,F2 ha,C4,d4 hc]
 rw[hr];rfl
theorem d0J (src:List UInt8)(a:Nat)(ha:a<src.length)(hl:src.length<=1048576):Mt 241 [scP src a] λd=>d=rdD a (0,[],1):=by
 refine En {} Tryz.func241 Tryz.ntmps241 λ_ _ _ _ _=>?_;refine Kw ?_;refine Dr {} [.p 0, .p 1, .p 2, .p 3, .p 4, .p 5, .s 6 [0], .p 7] ?_;refine Kw ?_;repeat'((first|(intro hlq;try simp only[SL] at hlq)|refine K9 ?_|refine K8 ?_)<;>refine Kw ?_)
 exact⟨rfl⟩
theorem d0I (src:List UInt8)(a:Nat)(ha:a<src.length)(hl:src.length<=1048576):Mt 239 [scP src a] λd=>d=rdD a (5,[src[a]],1):=by
 have k2:=a8I src a 5 a 1 (by omega) rfl;refine En {} Tryz.func239 Tryz.ntmps239 λ_ _ _ _ _=>?_;refine Kw ?_;repeat'((first|(intro hlq;try simp only[SL] at hlq)|refine Meets.k (k2) ?_|refine K9 ?_|((refine Kh (λhb=>?_) λhb=>?_)<;>try simp only[BL] at hb)|refine K8 ?_)<;>refine Kw ?_)
 refine⟨?_⟩;rw[F2 ha];rfl
theorem d0H (src:List UInt8)(a:Nat)(ha:a+2<=src.length)(hl:src.length<=1048576):Mt 237 [scP src a] λd=>d=rdD a (5,(src.drop a).take 2,2):=by
 have k2:=a8I src a 5 a 2 ha rfl;refine En {} Tryz.func237 Tryz.ntmps237 λ_ _ _ _ _=>?_;refine Kw ?_;repeat'((first|(intro hlq;try simp only[SL] at hlq)|refine Meets.k (k2) ?_|refine K9 ?_|((refine Kh (λhb=>?_) λhb=>?_)<;>try simp only[BL] at hb)|refine K8 ?_)<;>refine Kw ?_)
 exact⟨rfl⟩
theorem c7c (s:List UInt8)(c:UInt8): -1<=Lib.indexByte s c/\Lib.indexByte s c<=s.length:=by
 refine⟨Lib.indexByte_ge s c,?_⟩;induction s with
 |nil=>show(-1:Int)<=0;decide
 | cons b l ih=>
   unfold Lib.indexByte;simp only[i7];split
   . omega
   split<;>omega
theorem c2b (s:List UInt8)(c:UInt8)(hs:s.length<=1000):Mt 265 [.str s, .v (.int .u8 (c.toNat:Int))] λd=>d=iD (Lib.indexByte s c):=by
 refine a9g ⟨Tryz.f265,_,Tryz.func265,rfl,by kernel_rfl⟩ λV W xs hS hx=>?_;obtain⟨u,w,rfl,h1,h2⟩:=hx.two;obtain⟨rfl,_⟩:=h1.str_inv;obtain⟨rfl,_⟩:=Rep.v_inv h2;refine(Tryz.strings_IndexByte ⟨⟨s⟩⟩ _ W).mono ?_;rintro e W' ⟨rfl,rfl⟩;have e:((c.toNat:Int)).toNat.toUInt8=c:=by
  rw[U4];exact UInt8.ofNat_toNat
 rw[e];have hb:=c7c s c;exact⟨_,rfl,rfl,Rep.int (i64 (by show _<=Lib.indexByte s c;omega) (by show Lib.indexByte s c<=_;omega))⟩
def a9Q (d:UInt8):Int:=if d=34 then 0 else if d=92 then 1 else if d=110 then 2 else-1
theorem c6d (d:UInt8):Lib.indexByte [34,92,110] d=a9Q d:=by
 have h:∀n:Fin 256,Lib.indexByte [34,92,110] (UInt8.ofNat n.1)=a9Q (UInt8.ofNat n.1):=by decide+kernel
 have:=h ⟨d.toNat,d.toNat_lt⟩;simpa using this
theorem d0z (t:List UInt8):B9 (34::t)=some ([],1):=by unfold B9;rfl
theorem d0x {c:UInt8}{t:List UInt8}(h1:c≠34)(h2:c<32\/c>126):B9 (c::t)=none:=by
 unfold B9;rw[c8 h1,d4 h2]
theorem d0C {c:UInt8}{t:List UInt8}(h1:c≠34)(h2:¬(c<32\/c>126))(h3:c≠92):B9 (c::t)=(B9 t).map λx=>(c::x.1,x.2+1):=by
 conv=>lhs;unfold B9
 rw[c8 h1,c8 h2,c8 h3];cases B9 t<;>rfl
theorem d0B:B9 [92]=none:=by unfold B9;rfl
theorem d0A (d:UInt8)(t:List UInt8):B9 (92::d::t)=match a6a d with|some x=>(B9 t).map λy=>(x::y.1,y.2+2)|none=>none:=by
 conv=>lhs;unfold B9
 rw[c8 (by decide),c8 (by decide),d4 rfl];dsimp only;cases a6a d with
 |none=>rfl
 |some x=>cases B9 t<;>rfl
def L8 (acc:List UInt8)(i:Nat)(o:Option (List UInt8×Nat)):Option (List UInt8×Nat):=o.map λx=>(acc++x.1,x.2+i)
def d0w:Option (List UInt8×Nat)->D|some (s,n)=> .tup [.str s,iD n]|none=> .tup [.str [],iD 0]
theorem b3F (acc:List UInt8)(i:Nat)(x:UInt8)(k:Nat)(o:Option (List UInt8×Nat)):L8 acc i (o.map λy=>(x::y.1,y.2+k))=L8 (acc++[x]) (i+k) o:=by
 cases o with
 |none=>rfl
 |some y=>simp only[L8,G9,n9,a4k];congr 2;omega
theorem Kar {n:Nat}{ds:List D}{E:Prop}(e:E)(h:ds.length=n:=by rfl):(∀x∈[ds],x.length=n)/\E:=
 ⟨λx hx=>by rw[I4.1 hx];exact h,e⟩
theorem Kap {xs ys:List (List D)}{b:Nat}{E:Prop}(e:E)(h:xs.length+ys.length<=4611686018427387904/\(xs.length+ys.length)*b<=140737488355328:=by(dsimp only at *;simp only[o9,i7,j8];omega)):
 (xs.length<=maxLen->ys.length<=maxLen->xs.length+ys.length<=4611686018427387904/\(xs.length+ys.length)*b<=140737488355328)/\E:=⟨λ_ _=>h,e⟩
theorem a2a {b:UInt8}{n:Nat}(hn:n<256):(b=UInt8.ofNat n)↔((b.toNat:Int)=(n:Int)):=by
 rw[<-a5L,UInt8.toNat_ofNat'];omega
theorem bcs (acc:List UInt8)(b:UInt8):byteCells acc++[[cD (b.toNat:Int)]]=byteCells (acc++[b]):=by simp[byteCells]
theorem d4n {b:UInt8}{n:Nat}(hn:n<256):(b<UInt8.ofNat n)↔((b.toNat:Int)<(n:Int)):=by
 rw[UInt8.lt_iff_toNat_lt,UInt8.toNat_ofNat'];omega
theorem d4m {b:UInt8}{n:Nat}(hn:n<256):(b>UInt8.ofNat n)↔((b.toNat:Int)>(n:Int)):=by
 show(UInt8.ofNat n<b)↔_;rw[UInt8.lt_iff_toNat_lt,UInt8.toNat_ofNat'];omega
theorem d0y (c:UInt8)(t:List UInt8)(acc:List UInt8)(i:Nat):
 ((c.toNat:Int)=34->L8 acc i (B9 (c::t))=some (acc,i+1))/\
 (¬(c.toNat:Int)=34->((c.toNat:Int)<32\/(c.toNat:Int)>126)->L8 acc i (B9 (c::t))=none)/\
 (¬(c.toNat:Int)=34->¬(c.toNat:Int)<32->¬(c.toNat:Int)>126->¬(c.toNat:Int)=92->L8 acc i (B9 (c::t))=L8 (acc++[c]) (i+1) (B9 t))/\
 ((c.toNat:Int)=92->t=[]->L8 acc i (B9 (c::t))=none)/\
 (∀d r,(c.toNat:Int)=92->t=d::r->((d.toNat:Int)=34\/(d.toNat:Int)=92->L8 acc i (B9 (c::t))=L8 (acc++[d]) (i+2) (B9 r))/\((d.toNat:Int)=110->L8 acc i (B9 (c::t))=L8 (acc++[10]) (i+2) (B9 r))/\
   (¬(d.toNat:Int)=34->¬(d.toNat:Int)=92->¬(d.toNat:Int)=110->L8 acc i (B9 (c::t))=none)):=by
 have e34:c=34↔(c.toNat:Int)=34:=a2a (n:=34) (by decide);have e92:c=92↔(c.toNat:Int)=92:=a2a (n:=92) (by decide);have e32:c<32↔(c.toNat:Int)<32:=d4n (n:=32) (by decide);have e126:c>126↔(c.toNat:Int)>126:=d4m (n:=126) (by decide);refine⟨λh=>?_,λh1 h2=>?_,λh1 h2 h3 h4=>?_,λh1 h2=>?_,λd r h1 h2=>?_⟩
 . rw[e34.2 h,d0z];simp[L8];omega
 . rw[d0x (λh=>h1 (e34.1 h)) (by rw[e32,e126];exact h2)];rfl
 . rw[d0C (λh=>h1 (e34.1 h)) (by rw[e32,e126];omega) (λh=>h4 (e92.1 h)),b3F]
 . rw[e92.2 h1,h2,d0B];rfl
 . subst h2;rw[e92.2 h1,d0A];have d34:d=34↔(d.toNat:Int)=34:=a2a (n:=34) (by decide);have d92:d=92↔(d.toNat:Int)=92:=a2a (n:=92) (by decide);have d110:d=110↔(d.toNat:Int)=110:=a2a (n:=110) (by decide);refine⟨λh=>?_,λh=>?_,λh3 h4 h5=>?_⟩
   . have:a6a d=some d:=by
      rcases h with h|h
      . rw[d34.2 h];rfl
      . rw[d92.2 h];rfl
     rw[this];exact b3F acc i d 2 _
   . rw[d110.2 h];exact b3F acc i 10 2 _
   . have:a6a d=none:=by
      rw[a6a,c8 (λh=>h3 (d34.1 h)),c8 (λh=>h4 (d92.1 h)),c8 (λh=>h5 (d110.1 h))]
     rw[this];rfl
theorem d0D (l:List UInt8)(hl:l.length<=65536):Mt 234 [.sl (byteCells l)] λd=>d=d0w (L8 [] 1 (B9 (l.drop 1))):=by
 refine En {} Tryz.func234 Tryz.ntmps234 λ_ _ _ _ _=>?_;refine Kw ?_;refine o4 tok {} [(.inl 4,4,5,1)] (X:=Nat×List UInt8) (λx=>[(5,iB x.1),(4, .own 4)]) (λx=>[(4, .sl ⟨5,1,byteCells x.2,true⟩)]) [] (λx=>1<=x.1/\x.1<=l.length+1/\x.2.length<=x.1/\L8 x.2 x.1 (B9 (l.drop x.1))=L8 [] 1 (B9 (l.drop 1))) (λx=>l.length+1-x.1) (1,[]) ?_;refine Kw ?_;refine⟨by simp,?_⟩;refine Kw ?_;refine d8 ?_ ⟨⟨by omega,by dsimp only;omega,by simp,rfl⟩,λx hΦ=>?_⟩
 . exact Kr
 obtain⟨i,acc⟩:=x;dsimp only at hΦ⊢;obtain⟨hi,hj,hk,he⟩:=hΦ;rw[<-he];refine Kw ?_;repeat'((first|(intro hlq;try simp only[SL] at hlq)|refine K9 ?_|refine K8 ?_)<;>refine Kw ?_)
 refine⟨λh1=>?_,λh1=>?_⟩<;>(try simp only[BL] at h1)<;>refine Kw ?_
 . have h1' :i<l.length:=by omega
   have e:=F2 h1';rw[e] at he⊢;obtain⟨c1,c2,c3,c4,c5⟩:=d0y l[i] (l.drop (i+1)) acc i;have hk':acc.length<=65537:=by omega
   have hfin:∀{x:UInt8} {j:Nat},j<=l.length->i<j->L8 acc i (B9 (l[i]::l.drop (i+1)))=L8 (acc++[x]) j (B9 (l.drop j))->1<=j/\j<=l.length+1/\(acc++[x]).length<=j/\L8 (acc++[x]) j (B9 (l.drop j))=L8 acc i (B9 (l[i]::l.drop (i+1))):=by
    intro x j h1 h2 h3;refine⟨by omega,by omega,by rw[j6,List.length_singleton];omega,h3.symm⟩
   by_cases he92:(l[i].toNat:Int)=92
   . by_cases hlt:i+1<l.length
     . have e2:=F2 hlt;obtain⟨d1,d2,d3⟩:=c5 _ _ he92 e2;have hI:Lib.indexByte [34,92,110] l[i+1]=a9Q l[i+1]:=c6d _;have k1:=c2b [34,92,110] l[i+1] (by decide);rw[hI] at k1;have x34:l[i+1]=34↔(l[i+1].toNat:Int)=34:=a2a (n:=34) (by decide);have x92:l[i+1]=92↔(l[i+1].toNat:Int)=92:=a2a (n:=92) (by decide);have x110:l[i+1]=110↔(l[i+1].toNat:Int)=110:=a2a (n:=110) (by decide);unfold a9Q at k1;simp only[x34,x92,x110] at k1;by_cases y34:(l[i+1].toNat:Int)=34
       . rw [d4 y34] at k1;repeat'((first|(intro hlq;try simp only[SL] at hlq)|refine Meets.k (k1) ?_|refine Kar ?_|refine Kap ?_|refine⟨34,⟨by omega,rfl⟩,?_⟩|refine K9 ?_|((refine Kh (λhb=>?_) λhb=>?_)<;>try simp only[BL] at hb)|refine Ka ?_|refine Kb ?_|refine Kc (hd:=rfl) (e:=?_)|refine Kc (hd:=rfl) (e:=?_)|refine Kd (e:=?_)|refine Kl rfl ?_|fail)<;>refine Kw ?_)
         all_goals first
          |(exfalso;omega)
          | (refine⟨⟨(i+2,acc++[l[i+1]]),?_,hfin (j:=i+2) (by omega) (by omega) (d1 (.inl y34)),by dsimp only;omega⟩⟩
             dsimp only;rw[<-bcs,x34.2 y34];repeat'(first|exact d9|exact rfl|refine d8 ?_ ?_))
       rw[c8 y34] at k1;by_cases y92:(l[i+1].toNat:Int)=92
       . rw [d4 y92] at k1;repeat'((first|(intro hlq;try simp only[SL] at hlq)|refine Meets.k (k1) ?_|refine Kar ?_|refine Kap ?_|refine⟨92,⟨by omega,rfl⟩,?_⟩|refine K9 ?_|((refine Kh (λhb=>?_) λhb=>?_)<;>try simp only[BL] at hb)|refine Ka ?_|refine Kb ?_|refine Kc (hd:=rfl) (e:=?_)|refine Kc (hd:=rfl) (e:=?_)|refine Kd (e:=?_)|refine Kl rfl ?_|fail)<;>refine Kw ?_)
         all_goals first
          |(exfalso;omega)
          | (refine⟨⟨(i+2,acc++[l[i+1]]),?_,hfin (j:=i+2) (by omega) (by omega) (d1 (.inr y92)),by dsimp only;omega⟩⟩
             dsimp only;rw[<-bcs,x92.2 y92];repeat'(first|exact d9|exact rfl|refine d8 ?_ ?_))
       rw[c8 y92] at k1;by_cases y110:(l[i+1].toNat:Int)=110
       . rw [d4 y110] at k1;repeat'((first|(intro hlq;try simp only[SL] at hlq)|refine Meets.k (k1) ?_|refine Kar ?_|refine Kap ?_|refine⟨10,⟨by omega,rfl⟩,?_⟩|refine K9 ?_|((refine Kh (λhb=>?_) λhb=>?_)<;>try simp only[BL] at hb)|refine Ka ?_|refine Kb ?_|refine Kc (hd:=rfl) (e:=?_)|refine Kc (hd:=rfl) (e:=?_)|refine Kd (e:=?_)|refine Kl rfl ?_|fail)<;>refine Kw ?_)
         all_goals first
          |(exfalso;omega)
          | (refine⟨⟨(i+2,acc++[10]),?_,hfin (j:=i+2) (by omega) (by omega) (d2 y110),by dsimp only;omega⟩⟩
             dsimp only;rw[<-bcs];repeat'(first|exact d9|exact rfl|refine d8 ?_ ?_))
       rw[c8 y110] at k1;rw[d3 y34 y92 y110];repeat'((first|(intro hlq;try simp only[SL] at hlq)|refine Meets.k (k1) ?_|refine K9 ?_|((refine Kh (λhb=>?_) λhb=>?_)<;>try simp only[BL] at hb)|refine Ka ?_|refine Kb ?_|refine Kc (hd:=rfl) (e:=?_)|refine Kc (hd:=rfl) (e:=?_)|refine Kd (e:=?_)|refine Kl rfl ?_|fail)<;>refine Kw ?_)
       all_goals first
        |exact⟨rfl⟩
        |(exfalso;omega)
     . have e2:List.drop (i+1) l=[]:=a0U (by omega);rw[c4 he92 e2];repeat'((first|(intro hlq;try simp only[SL] at hlq)|refine K9 ?_|((refine Kh (λhb=>?_) λhb=>?_)<;>try simp only[BL] at hb)|refine Ka ?_|refine Kb ?_|refine Kc (hd:=rfl) (e:=?_)|refine Kc (hd:=rfl) (e:=?_)|refine Kd (e:=?_)|refine Kl rfl ?_|fail)<;>refine Kw ?_)
       all_goals first
        |exact⟨rfl⟩
        |(exfalso;omega)
   . repeat' ((first|(intro hlq;try simp only[SL] at hlq)|refine⟨acc,rfl,?_⟩|refine Kar ?_|refine Kap ?_|refine K9 ?_|((refine Kh (λhb=>?_) λhb=>?_)<;>try simp only[BL] at hb)|refine Ka ?_|refine Kb ?_|refine Kc (hd:=rfl) (e:=?_)|refine Kc (hd:=rfl) (e:=?_)|refine Kd (e:=?_)|refine Kl rfl ?_|fail)<;>refine Kw ?_)
     all_goals first
      |(exfalso;omega)
      |(refine⟨?_⟩;rw[c1 (by assumption)];rfl)
      |(refine⟨?_⟩;rw[c2 (by assumption) (.inl (by assumption))];rfl)
      |(refine⟨?_⟩;rw[c2 (by assumption) (.inr (by assumption))];rfl)
      | (refine⟨⟨(i+1,acc++[l[i]]),?_,hfin (by omega) (by omega) (c3 (by omega) (by omega) (by omega) he92),by dsimp only;omega⟩⟩
         dsimp only;rw[<-bcs];repeat'(first|exact d9|exact rfl|refine d8 ?_ ?_))
 . refine⟨?_⟩;rw[a0U (by omega)];rfl
end Go.Proofs.YteillnfhkeebjaaGreatDoor.Dx
