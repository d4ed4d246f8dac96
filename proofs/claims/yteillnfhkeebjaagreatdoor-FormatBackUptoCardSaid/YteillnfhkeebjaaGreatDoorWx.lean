/- strconv. -/
import Derived.Test.YteillnfhkeebjaaGreatDoorWa
import Derived.Lib.ItoaLen
import Derived.Test.YteillnfhkeebjaaGreatDoorWk
import Derived.Test.YteillnfhkeebjaaGreatDoorWw
set_option linter.all false
namespace Go.Proofs.YteillnfhkeebjaaGreatDoor.Dx
open Go Go.RowKit Go.Proofs Go.Sort
set_option maxRecDepth 100000
set_option maxHeartbeats 4000000
variable {γ:Gm} {V:Know} {W:World}
theorem d3o (hs : Sees V W) : Lib.TabIs Tryz.prog W "internal/strconv.uint64pow10" .u64 Lib.pow10Tab := by
 obtain⟨e,he⟩:=hs.row
 have hg : Tryz.prog.globalNamed "internal/strconv.uint64pow10" = some b7L := by kernel_rfl
 unfold World.shape? at he;split at he
 case h_2=>cases he
 rename_i cs e' fz hh;simp only[H0,Prod.mk.injEq] at he;unfold Lib.TabIs World.var?;rw[hg];simp only[Option.bind_some,hh,H0];apply Array.ext_getElem?;intro j;have hp:Lib.pow10Tab=[1,10,100,1000,10000,100000,1000000,10000000,100000000,1000000000,10000000000,100000000000,1000000000000,10000000000000,100000000000000,1000000000000000,10000000000000000,100000000000000000,1000000000000000000,10000000000000000000]:=by decide
 rcases C5 j 20 with hj|hj
 . obtain⟨z,hz⟩:∃z,Lib.pow10Tab[j]?=some z:=⟨_,t6 (by rw[Lib.pow10Tab_length];exact hj)⟩
   have h2:=hs.cell b7L j _ (hs.lib.2 j z (by rw[<-hp];exact hz));simp only[World.cell?,hh] at h2;have h2:cs[j]?=some (Value.int IntKind.u64 z):=h2;rw[h2];simp[hz]
 . rw[a6S (by omega)];simp[Lib.pow10Tab_length,hj]
theorem Sees.below (h:Sees V W){W':World}(hb:Below W.heap.size W W'):Sees V W':=by
 refine⟨λb o v hc=>?_,λr x hx=>?_,h.lib,h.keepRow λb o v hc=>hb.block b (h.lt hc)⟩
 . exact(hb.cell (p:=⟨b,o,none⟩) (h.lt hc)).trans (h.cell b o v hc)
 . obtain⟨h1,h2⟩:=h.obj r x hx;exact⟨(hb.block r (R0 h1)).trans h1,h2⟩
theorem c3H (w:World)(k:Nat)(os:Array Obj):Below w.heap.size w (grow (w.drewN k) os):=
 ⟨rfl,rfl,rfl,by simp[grow],λj hj=>by simp only[grow];exact a6R hj⟩
theorem a5x (n:Int):Meets Tryz.prog 79 [.v (.int .i64 n)] λd=>d= .str (Lib.itoa n):=by
 refine⟨⟨⟨_,_,Tryz.func79,rfl,by kernel_rfl⟩,λγ V W xs hs hv ho hi=>?_⟩⟩;obtain⟨x,xs',rfl,hx,hv'⟩:=hv.cons_l;obtain rfl:=hv'.nil_l;obtain⟨rfl,hn⟩:=Rep.int_inv hx;refine(Tryz.strconv_Itoa n hn.1 hn.2 W (d3o hs)).mono ?_;rintro e W' ⟨rfl,k,os,rfl⟩;have hb:=c3H W k os;have hl:(Lib.itoa n).length<=maxLen:=by have:=Lib.itoa_length_le n hn.1 hn.2;unfold maxLen;omega
 exact⟨γ,V, .ret (.d (.str (Lib.itoa n))),[],Rep.str _ hl, .of hb, .refl _ _ _,hs.below hb,λn b h=>(by rw[r7] at h;cases h),λn b h=>(by rw[r7] at h;cases h),λn n' b b' h=>(by rw[r7] at h;cases h),
  λ_ _ _ _=>rfl,_,rfl,rfl,rfl⟩
set_option maxHeartbeats 8000000
theorem a7p:∀l:List Cap,a3s l l
 |[]=>trivial
 | .loc n o::r=>⟨by simp,a7p r⟩
 | .dat d::r=>⟨rfl,a7p r⟩
theorem s6 (O:List (Nat×Blk))(b:Base):a0X O b b:=by
 cases b with
 |d x=>cases x<;>first|rfl|trivial
 |full xs=>rfl
 |loc n o=>exact⟨by simp,rfl⟩
 |own n=>show Nat.beq n n=true;simp
 |oel n k i r=>exact⟨by simp,rfl,rfl,rfl⟩
 |win n k i r=>exact⟨by simp,rfl,rfl,rfl⟩
 |ag p n q=>exact⟨by simp,rfl,rfl⟩
 |agl cs=>exact a7p _
 |fn F fs cs=>exact⟨rfl,a7p _,a7p _⟩
 |junk=>trivial
theorem a1C (O:List (Nat×Blk)):∀l:List Base,a3r O l l
 |[]=>trivial
 |b::r=>⟨s6 O b,a1C O r⟩
theorem c8W {ty:TypeId}{rest:List Base}(c:Base)(l:List UInt8):
 MR 38 [.loc 1000 0] [(1000, .box (c:: .own 1001::rest) ty),(1001, .sl (J0 l))] λo O'=>o= .ret (iB l.length)/\O'=[(1000, .box (c:: .own 1001::rest) ty),(1001, .sl (J0 l))]:=by
 refine EnR {} Tryz.func38 Tryz.ntmps38 λ_ _ _ _ _=>?_;refine Kw ?_;intro hlq;refine Kw ?_;refine⟨[(1000, .box (c:: .own 1001::rest) ty),(1001, .sl (J0 l))],iB l.length,⟨?_,?_,rfl⟩,?_⟩
 . show a0X _ (iB l.length) (iB (J0 l).xs.length);rw[show(J0 l).xs.length=l.length from a5O l];exact s6 _ _
 . exact⟨⟨rfl,a1C _ _⟩,⟨rfl,rfl,rfl,rfl⟩,trivial⟩
 . exact⟨rfl,rfl⟩
theorem Ko {E:Prop}(h:E:=by(repeat'(first|exact d9|exact rfl|refine d8 ?_ ?_))<;>exact s6 _ _):E:=h
inductive Item where
 |s (l:List UInt8)
 |i (n:Int)
def Item.d:Item->D
 | .s l=> .iface 9 (.str l)
 | .i n=> .iface 3 (.v (.int .i64 n))
def Item.text:Item->List UInt8
 | .s l=>l
 | .i n=>Lib.itoa n
def r5 (l:List Item):List UInt8:=l.flatMap Item.text
abbrev prO (rest:List Base)(ty:TypeId)(l:List UInt8):List (Nat×Blk):=[(1000, .box (.loc 1000 0:: .own 1001::rest) ty),(1001, .sl (J0 l))]
theorem p9 {ty:TypeId}{rest:List Base}(hrd:∀b∈rest,∃d,b= .d d)(d:D)(l:List UInt8):a0x (.d d) (prO rest ty l)=true:=by
 have h:(rest.all λc=>(A7 c).all (a2A (prO rest ty l)))=true:=n7.2 λb hb=>by
  obtain⟨d,rfl⟩:=hrd b hb;rfl
 show(true&&((true&&(true&&(rest.all λc=>(A7 c).all (a2A (prO rest ty l)))))&&(true&&true)))=true;rw[h];rfl
abbrev rr (r:Nat->D):List Base:=[.d (r 0), .d (r 1), .d (r 2), .d (r 3), .d (r 4), .d (r 5), .d (r 6), .d (r 7), .d (r 8), .d (r 9), .d (r 10), .d (r 11), .d (r 12), .d (r 13), .d (r 14), .d (r 15)]
theorem p6 (r:Nat->D):∀b∈rr r,∃d,b= .d d:=by
 intro b hb;simp only[rr,p8,Z1,or_false] at hb;rcases hb with rfl|rfl|rfl|rfl|rfl|rfl|rfl|rfl|rfl|rfl|rfl|rfl|rfl|rfl|rfl|rfl<;>exact⟨_,rfl⟩
abbrev I5:Cfg:={rs:=[22,31]}
theorem d0v {ty:TypeId}(r:Nat->D)(l:List UInt8)(hl:l≠[])(items:List Item)(hlen:l.length+(r5 items).length<=140737488355328):
 MR 32 [.loc 1000 0, .d (.sl (items.map λx=>[x.d]))] (prO (rr r) ty l) λo O'=>o= .ret (.d (.tup []))/\O'=prO (rr r) ty (l++r5 items):=by
 refine EnR I5 Tryz.func32 Tryz.ntmps32 λ_ _ _ _ _=>?_;refine Kv I5 ?_;repeat'((first|(intro hlq;try simp only[SL] at hlq)|refine K8 ?_)<;>refine Kv I5 ?_)
 refine o4 tok I5 [] (X:=Nat×List UInt8) (λs=>[(10,iB s.1)]) (λs=>prO (rr r) ty s.2) [] (λs=>s.1<=items.length/\s.2≠[]/\s.2++r5 (items.drop s.1)=l++r5 items) (λs=>items.length-s.1) (0,l) ?_;refine Kv I5 ?_;refine d8 ?_ ⟨⟨by omega,hl,rfl⟩,λs hΦ=>?_⟩
 . repeat'(first|exact d9|exact rfl|refine d8 ?_ ?_)
   all_goals exact s6 _ _
 obtain⟨i,xs⟩:=s;obtain⟨hi,hx0,heq⟩:=hΦ;dsimp only at hi hx0 heq;refine Kv I5 ?_;refine⟨λh1=>?_,λh1=>?_⟩<;>(try simp only[BL] at h1)<;>refine Kv I5 ?_
 . have h1':i<items.length:=by omega
   rw[F2 h1',r5,a2n,<-r5] at heq;have hlx:xs.length+(items[i].text.length+(r5 (items.drop (i+1))).length)<=140737488355328:=by
    have:=d6 List.length heq;simp only[j6] at this;omega
   repeat'((first|(intro hlq;try simp only[SL] at hlq)|refine K8 ?_)<;>refine Kv I5 ?_)
   dsimp only;generalize items[i]=w at heq hlx⊢;cases w with
   | s t=>
     simp only[Item.text] at heq hlx;repeat'((first|(intro hlq;try simp only[SL] at hlq)|refine Ka ?_|refine Kb ?_|refine Kc (hd:=rfl) (e:=?_)|refine Kc (hd:=Item.d _) (e:=?_)|refine Kd (e:=?_)|refine Kl rfl ?_|fail)<;>refine Kv I5 ?_)
     refine Kv I5 ?_;refine Kv I5 ?_;refine Kv I5 ?_;refine⟨prO (rr r) ty xs,_,⟨?_,?_⟩,(b0q 1000 1001 (by decide) (p6 r) xs t hx0 (by omega)).mono ?_⟩
     . exact Kr
     . repeat'(first|exact d9|exact rfl|refine d8 ?_ ?_)
       all_goals exact s6 _ _
     rintro o O' ⟨rfl,rfl⟩;dsimp only;rw[p9 (p6 r)];refine Kv I5 ?_;refine⟨λ_=>by simp only[w8] at *;omega,?_⟩;refine Kv I5 ?_;refine⟨⟨(i+1,xs++t),?_,⟨by dsimp only;omega,by simp[hx0],by dsimp only;rw[n9];exact heq⟩,by dsimp only;omega⟩⟩;repeat'(first|exact d9|exact rfl|refine d8 ?_ ?_)
     all_goals exact s6 _ _
   | i n=>
     simp only[Item.text] at heq hlx;repeat'((first|(intro hlq;try simp only[SL] at hlq)|refine Ka ?_|refine Kb ?_|refine Kc (hd:=rfl) (e:=?_)|refine Kc (hd:=Item.d _) (e:=?_)|refine Kd (e:=?_)|refine Kl rfl ?_|fail)<;>refine Kv I5 ?_)
     refine Kv I5 ?_;refine Kv I5 ?_;refine Kv I5 ?_;refine Dr I5 [.p 0, .p 1, .p 2, .p 3, .s 4 [3], .s 5 [2,1,0]] ?_;refine Kv I5 ?_;refine Kv I5 ?_;refine Meets.k (a5x n) ?_;refine Kv I5 ?_;iterate 3 (try refine Kl rfl ?_)
     refine Kv I5 ?_;refine⟨prO (rr r) ty xs,_,⟨?_,?_⟩,(b0q 1000 1001 (by decide) (p6 r) xs (Lib.itoa n) hx0 (by omega)).mono ?_⟩
     . exact Kr
     . repeat'(first|exact d9|exact rfl|refine d8 ?_ ?_)
       all_goals exact s6 _ _
     rintro o O' ⟨rfl,rfl⟩;dsimp only;rw[p9 (p6 r)];refine Kv I5 ?_;refine⟨λ_=>by simp only[w8] at *;omega,?_⟩;refine Kv I5 ?_;refine⟨⟨(i+1,xs++Lib.itoa n),?_,⟨by dsimp only;omega,by simp[hx0],by dsimp only;rw[n9];exact heq⟩,by dsimp only;omega⟩⟩;repeat'(first|exact d9|exact rfl|refine d8 ?_ ?_)
     all_goals exact s6 _ _
 . obtain rfl:i=items.length:=by omega
   rw[a5B] at heq;have heq:xs=l++r5 items:=by simpa[r5] using heq
   subst heq;exact⟨prO (rr r) ty (l++r5 items), .d (.tup []),⟨s6 _ _,⟨⟨rfl,a1C _ _⟩,⟨rfl,rfl,rfl,rfl⟩,trivial⟩,rfl⟩,⟨rfl,rfl⟩⟩
end Go.Proofs.YteillnfhkeebjaaGreatDoor.Dx
