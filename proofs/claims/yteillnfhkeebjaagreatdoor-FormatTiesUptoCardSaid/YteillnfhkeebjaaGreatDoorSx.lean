/- strconv.Itoa by the shelf's contract. -/
import Derived.Test.YteillnfhkeebjaaGreatDoorSj
import Derived.Test.YteillnfhkeebjaaGreatDoorSa
import Derived.Lib.ItoaLen
import Derived.Test.YteillnfhkeebjaaGreatDoorSk
import Derived.Test.YteillnfhkeebjaaGreatDoorSw
set_option linter.all false
namespace Go.Proofs.YteillnfhkeebjaaGreatDoor.Dx
open Go Go.RowKit Go.Proofs Go.Sort
set_option maxRecDepth 100000
set_option maxHeartbeats 4000000
variable {γ:Gm} {V:Know} {W:World}
theorem c3k (hs : Sees V W) : Lib.TabIs Tryz.prog W "internal/strconv.uint64pow10" .u64 Lib.pow10Tab := by
 obtain⟨e,he⟩:=hs.row
 have hg : Tryz.prog.globalNamed "internal/strconv.uint64pow10" = some b0U := by kernel_rfl
 unfold World.shape? at he
 split at he
 case h_2=>cases he
 rename_i cs e' fz hh
 simp only[Option.some.injEq,Prod.mk.injEq] at he
 unfold Lib.TabIs World.var?
 rw[hg]
 simp only[Option.bind_some,hh,Option.some.injEq]
 apply Array.ext_getElem?
 intro j
 have hp:Lib.pow10Tab=[1,10,100,1000,10000,100000,1000000,10000000,100000000,1000000000,10000000000,100000000000,1000000000000,10000000000000,100000000000000,1000000000000000,10000000000000000,100000000000000000,1000000000000000000,10000000000000000000]:=by decide
 rcases Nat.lt_or_ge j 20 with hj|hj
 . obtain⟨z,hz⟩:∃z,Lib.pow10Tab[j]?=some z:=⟨_,List.getElem?_eq_getElem (by rw[Lib.pow10Tab_length];exact hj)⟩
   have h2:=hs.cell b0U j _ (hs.lib.2 j z (by rw[<-hp];exact hz))
   simp only[World.cell?,hh] at h2
   have h2:cs[j]?=some (Value.int IntKind.u64 z):=h2
   rw[h2]
   simp[hz]
 . rw[Array.getElem?_eq_none (by omega)]
   simp[Lib.pow10Tab_length,hj]
theorem Sees.below (h:Sees V W){W':World}(hb:Below W.heap.size W W'):Sees V W':=by
 refine⟨λb o v hc=>?_,λr x hx=>?_,h.lib,h.keepRow λb o v hc=>hb.block b (h.lt hc)⟩
 . exact(hb.cell (p:=⟨b,o,none⟩) (h.lt hc)).trans (h.cell b o v hc)
 . obtain⟨h1,h2⟩:=h.obj r x hx
   exact⟨(hb.block r (B8 h1)).trans h1,h2⟩
theorem b5Q (w:World)(k:Nat)(os:Array Obj):Below w.heap.size w (grow (w.drewN k) os):=
 ⟨rfl,rfl,rfl,by simp[grow],λj hj=>by simp only[grow];exact Array.getElem?_append_left hj⟩
theorem a0e (n:Int):Meets Tryz.prog 79 [.v (.int .i64 n)] λd=>d= .str (Lib.itoa n):=by
 refine⟨⟨⟨_,_,Tryz.func79,rfl,by kernel_rfl⟩,λγ V W xs hs hv ho hi=>?_⟩⟩
 obtain⟨x,xs',rfl,hx,hv'⟩:=hv.cons_l
 obtain rfl:=hv'.nil_l
 obtain⟨rfl,hn⟩:=Rep.int_inv hx
 refine(Tryz.strconv_Itoa n hn.1 hn.2 W (c3k hs)).mono ?_
 rintro e W' ⟨rfl,k,os,rfl⟩
 have hb:=b5Q W k os
 have hl:(Lib.itoa n).length<=maxLen:=by have:=Lib.itoa_length_le n hn.1 hn.2;unfold maxLen;omega
 exact⟨γ,V, .ret (.d (.str (Lib.itoa n))),[],Rep.str _ hl, .of hb, .refl _ _ _,hs.below hb,λn b h=>(by rw[f8] at h;cases h),λn b h=>(by rw[f8] at h;cases h),λn n' b b' h=>(by rw[f8] at h;cases h),
  λ_ _ _ _=>rfl,_,rfl,rfl,rfl⟩
end Go.Proofs.YteillnfhkeebjaaGreatDoor.Dx
/- strings.Builder inside of a greater box: Len's contract. -/
namespace Go.Proofs.YteillnfhkeebjaaGreatDoor.Dx
open Go Go.RowKit
set_option maxRecDepth 100000
set_option maxHeartbeats 8000000
theorem a1w:∀l:List Cap,S2 l l
 |[]=>trivial
 | .loc n o::r=>⟨by simp,a1w r⟩
 | .dat d::r=>⟨rfl,a1w r⟩
theorem g6 (O:List (Nat×Blk))(b:Base):J2 O b b:=by
 cases b with
 |d x=>cases x<;>first|rfl|trivial
 |full xs=>rfl
 |loc n o=>exact⟨by simp,rfl⟩
 |own n=>show Nat.beq n n=true;simp
 |oel n k i r=>exact⟨by simp,rfl,rfl,rfl⟩
 |win n k i r=>exact⟨by simp,rfl,rfl,rfl⟩
 |ag p n q=>exact⟨by simp,rfl,rfl⟩
 |agl cs=>exact a1w _
 |fn F fs cs=>exact⟨rfl,a1w _,a1w _⟩
 |junk=>trivial
theorem L5 (O:List (Nat×Blk)):∀l:List Base,S1 O l l
 |[]=>trivial
 |b::r=>⟨g6 O b,L5 O r⟩
theorem c0b {ty:TypeId}{rest:List Base}(c:Base)(l:List UInt8):
 MeetsR Tryz.prog 38 [.loc 1000 0] [(1000, .box (c:: .own 1001::rest) ty),(1001, .sl (v7 l))] λo O'=>o= .ret (iB l.length)/\O'=[(1000, .box (c:: .own 1001::rest) ty),(1001, .sl (v7 l))]:=by
 refine m9 tok {} Tryz.func38 rfl (by kernel_rfl) Tryz.ntmps38 (by simp) λB0 W0 V0 lent g0=>?_
 refine Kw ?_
 intro hlq
 refine Kw ?_
 refine⟨[(1000, .box (c:: .own 1001::rest) ty),(1001, .sl (v7 l))],iB l.length,⟨?_,?_,rfl⟩,?_⟩
 . show J2 _ (iB l.length) (iB (v7 l).xs.length)
   rw[show(v7 l).xs.length=l.length from a0o l]
   exact g6 _ _
 . exact⟨⟨rfl,L5 _ _⟩,⟨rfl,rfl,rfl,rfl⟩,trivial⟩
 . exact⟨rfl,rfl⟩
theorem Ko {E:Prop}(h:E:=by(repeat'(first|exact True.intro|exact rfl|refine And.intro ?_ ?_))<;>exact g6 _ _):E:=h
end Go.Proofs.YteillnfhkeebjaaGreatDoor.Dx
/- format's printer: put. -/
namespace Go.Proofs.YteillnfhkeebjaaGreatDoor.Dx
open Go Go.RowKit
set_option maxRecDepth 100000
set_option maxHeartbeats 8000000
inductive Item where
 |s (l:List UInt8)
 |i (n:Int)
def Item.d:Item->D
 | .s l=> .iface 9 (.str l)
 | .i n=> .iface 3 (.v (.int .i64 n))
def Item.text:Item->List UInt8
 | .s l=>l
 | .i n=>Lib.itoa n
def f0 (l:List Item):List UInt8:=l.flatMap Item.text
abbrev prO (rest:List Base)(ty:TypeId)(l:List UInt8):List (Nat×Blk):=[(1000, .box (.loc 1000 0:: .own 1001::rest) ty),(1001, .sl (v7 l))]
theorem d8 {ty:TypeId}{rest:List Base}(hrd:∀b∈rest,∃d,b= .d d)(d:D)(l:List UInt8):H3 (.d d) (prO rest ty l)=true:=by
 have h:(rest.all λc=>(k8 c).all (O7 (prO rest ty l)))=true:=List.all_eq_true.2 λb hb=>by
  obtain⟨d,rfl⟩:=hrd b hb
  rfl
 show(true&&((true&&(true&&(rest.all λc=>(k8 c).all (O7 (prO rest ty l)))))&&(true&&true)))=true
 rw[h];rfl
abbrev rr (r:Nat->D):List Base:=[.d (r 0), .d (r 1), .d (r 2), .d (r 3), .d (r 4), .d (r 5), .d (r 6), .d (r 7), .d (r 8), .d (r 9), .d (r 10), .d (r 11), .d (r 12), .d (r 13), .d (r 14), .d (r 15)]
theorem d7 (r:Nat->D):∀b∈rr r,∃d,b= .d d:=by
 intro b hb
 simp only[rr,List.mem_cons,List.not_mem_nil,or_false] at hb
 rcases hb with rfl|rfl|rfl|rfl|rfl|rfl|rfl|rfl|rfl|rfl|rfl|rfl|rfl|rfl|rfl|rfl<;>exact⟨_,rfl⟩
abbrev t6:Cfg:={rs:=[22,31]}
theorem c1k {ty:TypeId}(r:Nat->D)(l:List UInt8)(hl:l≠[])(items:List Item)(hlen:l.length+(f0 items).length<=140737488355328):
 MeetsR Tryz.prog 32 [.loc 1000 0, .d (.sl (items.map λx=>[x.d]))] (prO (rr r) ty l) λo O'=>o= .ret (.d (.tup []))/\O'=prO (rr r) ty (l++f0 items):=by
 refine m9 tok t6 Tryz.func32 rfl (by kernel_rfl) Tryz.ntmps32 (by simp) λB0 W0 V0 lent g0=>?_
 refine Kv t6 ?_
 repeat'((first|(intro hlq;try simp only[SL] at hlq)|refine K8 ?_)<;>refine Kv t6 ?_)
 refine d4 tok t6 [] (X:=Nat×List UInt8) (λs=>[(10,iB s.1)]) (λs=>prO (rr r) ty s.2) [] (λs=>s.1<=items.length/\s.2≠[]/\s.2++f0 (items.drop s.1)=l++f0 items) (λs=>items.length-s.1) (0,l) ?_
 refine Kv t6 ?_
 refine And.intro ?_ ⟨⟨by omega,hl,rfl⟩,λs hΦ=>?_⟩
 . repeat'(first|exact True.intro|exact rfl|refine And.intro ?_ ?_)
   all_goals exact g6 _ _
 obtain⟨i,xs⟩:=s
 obtain⟨hi,hx0,heq⟩:=hΦ
 dsimp only at hi hx0 heq
 refine Kv t6 ?_
 refine⟨λh1=>?_,λh1=>?_⟩<;>(try simp only[BL] at h1)<;>refine Kv t6 ?_
 . have h1':i<items.length:=by omega
   rw[List.drop_eq_getElem_cons h1',f0,List.flatMap_cons,<-f0] at heq
   have hlx:xs.length+(items[i].text.length+(f0 (items.drop (i+1))).length)<=140737488355328:=by
    have:=congrArg List.length heq
    simp only[List.length_append] at this
    omega
   repeat'((first|(intro hlq;try simp only[SL] at hlq)|refine K8 ?_)<;>refine Kv t6 ?_)
   dsimp only
   generalize items[i]=w at heq hlx⊢
   cases w with
   | s t=>
     simp only[Item.text] at heq hlx
     repeat'((first|(intro hlq;try simp only[SL] at hlq)|refine Ka ?_|refine Kb ?_|refine Kc (hd:=rfl) (e:=?_)|refine Kc (hd:=Item.d _) (e:=?_)|refine Kd (e:=?_)|refine Kl rfl ?_|fail)<;>refine Kv t6 ?_)
     refine Kv t6 ?_
     refine Kv t6 ?_
     refine Kv t6 ?_
     refine⟨prO (rr r) ty xs,_,⟨?_,?_⟩,(a4j 1000 1001 (by decide) (d7 r) xs t hx0 (by omega)).mono ?_⟩
     . exact Kr
     . repeat'(first|exact True.intro|exact rfl|refine And.intro ?_ ?_)
       all_goals exact g6 _ _
     rintro o O' ⟨rfl,rfl⟩
     dsimp only
     rw[d8 (d7 r)]
     refine Kv t6 ?_
     refine⟨λ_=>by simp only[i7] at *;omega,?_⟩
     refine Kv t6 ?_
     refine⟨⟨(i+1,xs++t),?_,⟨by dsimp only;omega,by simp[hx0],by dsimp only;rw[List.append_assoc];exact heq⟩,by dsimp only;omega⟩⟩
     repeat'(first|exact True.intro|exact rfl|refine And.intro ?_ ?_)
     all_goals exact g6 _ _
   | i n=>
     simp only[Item.text] at heq hlx
     repeat'((first|(intro hlq;try simp only[SL] at hlq)|refine Ka ?_|refine Kb ?_|refine Kc (hd:=rfl) (e:=?_)|refine Kc (hd:=Item.d _) (e:=?_)|refine Kd (e:=?_)|refine Kl rfl ?_|fail)<;>refine Kv t6 ?_)
     refine Kv t6 ?_
     refine Kv t6 ?_
     refine Kv t6 ?_
     refine k9 tok (cf:=t6) (by kernel_rfl) [.p 0, .p 1, .p 2, .p 3, .s 4 [3], .s 5 [2,1,0]] (by kernel_rfl) ?_
     refine Kv t6 ?_
     refine Kv t6 ?_
     refine Meets.k (a0e n) ?_
     refine Kv t6 ?_
     iterate 3 (try refine Kl rfl ?_)
     refine Kv t6 ?_
     refine⟨prO (rr r) ty xs,_,⟨?_,?_⟩,(a4j 1000 1001 (by decide) (d7 r) xs (Lib.itoa n) hx0 (by omega)).mono ?_⟩
     . exact Kr
     . repeat'(first|exact True.intro|exact rfl|refine And.intro ?_ ?_)
       all_goals exact g6 _ _
     rintro o O' ⟨rfl,rfl⟩
     dsimp only
     rw[d8 (d7 r)]
     refine Kv t6 ?_
     refine⟨λ_=>by simp only[i7] at *;omega,?_⟩
     refine Kv t6 ?_
     refine⟨⟨(i+1,xs++Lib.itoa n),?_,⟨by dsimp only;omega,by simp[hx0],by dsimp only;rw[List.append_assoc];exact heq⟩,by dsimp only;omega⟩⟩
     repeat'(first|exact True.intro|exact rfl|refine And.intro ?_ ?_)
     all_goals exact g6 _ _
 . obtain rfl:i=items.length:=by omega
   rw[List.drop_length] at heq
   have heq:xs=l++f0 items:=by simpa[f0] using heq
   subst heq
   exact⟨prO (rr r) ty (l++f0 items), .d (.tup []),⟨g6 _ _,⟨⟨rfl,L5 _ _⟩,⟨rfl,rfl,rfl,rfl⟩,trivial⟩,rfl⟩,⟨rfl,rfl⟩⟩
end Go.Proofs.YteillnfhkeebjaaGreatDoor.Dx
