/- Integers and truth values as data (this seat: out of chapter 07's texts). -/
import Derived.Test.YteillnfhkeebjaaGreatDoorSk
import Derived.Test.YteillnfhkeebjaaGreatDoorSm
import Derived.Test.YteillnfhkeebjaaGreatDoorSn
import Derived.Test.YteillnfhkeebjaaGreatDoorSq
import Derived.Test.YteillnfhkeebjaaGreatDoorSr
import Derived.Test.YteillnfhkeebjaaGreatDoorSv
import Derived.Test.YteillnfhkeebjaaGreatDoorSp
import Derived.Test.YteillnfhkeebjaaGreatDoorSx
import Derived.Test.YteillnfhkeebjaaGreatDoorSy
import Derived.Test.YteillnfhkeebjaaGreatDoorSz
import Derived.Lib.SplitLaws
set_option linter.all false
/- Words and keywords (this seat: out of chapter 07's texts). -/
/- Times (this seat: out of chapter 08's texts). -/
/- Digits: strings.Trim at the ten digits,lexis.digits,isNumeral. -/
namespace Go.Proofs.YteillnfhkeebjaaGreatDoor.Dx
open Go Go.RowKit Go.Proofs
set_option maxRecDepth 100000
set_option maxHeartbeats 8000000
abbrev qB (b:Bool):Base:= .d (.bl b)
def A9 (f:Nat->Bool):List Base:=(List.range 256).map λb=>qB (f b)
def C0 (f:Nat->Bool):List D:=(List.range 256).map λb=>bD (f b)
theorem a1c (f:Nat->Bool):(A9 f).length=256:=by simp[A9]
theorem a7Z (f:Nat->Bool):(C0 f).length=256:=by simp[C0]
theorem c3d {f g:Nat->Bool}{i:Nat}{v:Bool}(hi:i<256)(h:∀b,b<256->g b=if b=i then v else f b):(A9 f).set i (qB v)=A9 g:=by
 apply List.ext_getElem?
 intro b
 simp only[A9,List.getElem?_set,List.length_map,List.length_range,List.getElem?_map]
 by_cases hb:b<256
 . rw[List.getElem?_range hb]
   simp only[Option.map_some]
   rw[h b hb]
   by_cases e:i=b
   . subst e;simp[hi]
   . rw[if_neg e,if_neg (Ne.symm e)]
 . rw[if_neg (by omega),List.getElem?_eq_none (by simp;omega)]
   rfl
theorem c3e (O:List (Nat×Blk))(f:Nat->Bool):n9 O (A9 f)=some (C0 f):=by
 unfold A9 C0
 generalize List.range 256=l
 induction l with
 |nil=>rfl
 |cons x l ih=>simp only[List.map_cons,n9,ih];rfl
theorem c3f (O:List (Nat×Blk))(f:Nat->Bool):n9 O (((A9 f).drop 0).take 256)=some (C0 f):=by
 rw[List.drop_zero,List.take_of_length_le (by rw[a1c];decide),c3e]
def R4 (f:Nat->Bool):List Base:=(List.range 256).map λb=> .d (bD (f b))
theorem a2L (f:Nat->Bool):(R4 f).length=256:=by simp[R4]
theorem c3g (O:List (Nat×Blk))(f:Nat->Bool):n9 O (R4 f)=some (C0 f):=by
 unfold R4 C0
 generalize List.range 256=l
 induction l with
 |nil=>rfl
 |cons x l ih=>simp only[List.map_cons,n9,ih];rfl
theorem c3i (O:List (Nat×Blk))(f:Nat->Bool):n9 O (((R4 f).drop 0).take 256)=some (C0 f):=by
 rw[List.drop_zero,List.take_of_length_le (by rw[a2L];decide),c3g]
theorem c3c (f:Nat->Bool){i:Nat}(h:i<256):∃r,(C0 f).drop i=bD (f i)::r:=by
 refine⟨(C0 f).drop (i+1),?_⟩
 rw[List.drop_eq_getElem_cons (by rw[a7Z];exact h)]
 simp[C0]
theorem a9i (O:List (Nat×Blk))(f:Nat->Bool):S1 O (A9 f) (A9 f):=by
 unfold A9
 generalize List.range 256=l
 induction l with
 |nil=>trivial
 |cons x l ih=>exact⟨rfl,ih⟩
abbrev tenL:List UInt8:=[48,49,50,51,52,53,54,55,56,57]
def x8 (i:Nat)(b:Nat):Bool:=(tenL.take i).any λc=>decide (c.toNat=b)
theorem c3n {i:Nat}(h:i<tenL.length)(b:Nat):x8 (i+1) b=if b=tenL[i].toNat then true else x8 i b:=by
 rw[x8,List.take_succ_eq_append_getElem h,List.any_append]
 by_cases e:b=tenL[i].toNat
 . rw[if_pos e];simp[e]
 . rw[if_neg e]
   simp only[List.any_cons,List.any_nil,Bool.or_false,decide_eq_false (Ne.symm e)]
   rfl
theorem c0i:Meets Tryz.prog 210 [.str tenL] λd=>d= .tup [.agg (C0 (x8 10)),bD true]:=by
 have hten:∀x∈tenL,x.toNat<128:=by decide
 refine enter tok {sym:=[2]} Tryz.func210 rfl (by kernel_rfl) Tryz.ntmps210 (by simp) λB0 W0 V0 lent g0=>?_
 refine Kv {sym:=[2]} ?_
 refine a8Y 2 (A9 (x8 0)) ?_
 conv=>whnf
 refine⟨by kernel_rfl,?_⟩
 conv=>whnf
 refine d4 tok {sym:=[2]} [] (X:=Nat) (λi=>[(4,iB i)]) (λi=>[(2, .box (A9 (x8 i)) 273)]) [5] (λi=>i<=tenL.length) (λi=>tenL.length-i) 0 ?_
 refine Kv {sym:=[2]} ?_
 refine And.intro ?_ ⟨by decide,λk hk=>?_⟩
 . repeat'(first|exact a9i _ _|exact True.intro|exact rfl|refine And.intro ?_ ?_)
 refine Kv {sym:=[2]} ?_
 repeat'((first|(intro hlq;try simp only[SL] at hlq)|refine K9 ?_|refine K8 ?_)<;>refine Kv {sym:=[2]} ?_)
 refine⟨λh1=>?_,λh1=>?_⟩<;>(try simp only[BL] at h1)<;>refine Kv {sym:=[2]} ?_
 . have h1':k<tenL.length:=by simp only[tenL,List.length_cons,List.length_nil] at h1⊢;omega
   have hb:=hten _ (List.getElem_mem h1')
   refine⟨_,⟨by omega,by rw[Int.toNat_natCast,List.getElem?_eq_getElem h1']⟩,?_⟩
   refine Kv {sym:=[2]} ?_
   refine⟨λh2=>?_,λh2=>?_⟩<;>(try simp only[BL] at h2)<;>refine Kv {sym:=[2]} ?_
   . omega
   repeat'((first|(intro hlq;try simp only[SL] at hlq)|refine K9 ?_|refine K8 ?_)<;>refine Kv {sym:=[2]} ?_)
   refine⟨by dsimp only;rw[a1c];omega,?_⟩
   refine Kv {sym:=[2]} ?_
   repeat'((first|(intro hlq;try simp only[SL] at hlq)|refine K9 ?_|refine K8 ?_)<;>refine Kv {sym:=[2]} ?_)
   have e1:(A9 (x8 k)).set (0+(tenL[k].toNat:Int).toNat *1) (qB true)=A9 (x8 (k+1)):=by
    refine c3d (by omega) λb hb=>?_
    rw[c3n h1',show 0+(tenL[k].toNat:Int).toNat *1=tenL[k].toNat by omega]
   rw[e1]
   refine⟨⟨k+1,?_,by omega,by omega⟩⟩
   repeat'(first|exact a9i _ _|exact True.intro|exact rfl|refine And.intro ?_ ?_)
 . obtain rfl:k=10:=by simp only[tenL,List.length_cons,List.length_nil] at h1 hk;omega
   refine⟨C0 (x8 10),⟨c3f _ _,a7Z _⟩,?_⟩
   refine Kv {sym:=[2]} ?_
   show 0+(R4 (x8 10)).length<=(A9 (x8 10)).length/\A7 _ (Blk.box (setRun (A9 (x8 10)) 0 (R4 (x8 10))) 273) _ _
   rw[a7H (by rw[a1c,a2L])]
   refine⟨by rw[a1c,a2L];decide,?_⟩
   refine Kv {sym:=[2]} ?_
   refine⟨C0 (x8 10),⟨c3i _ _,a7Z _⟩,?_⟩
   refine Kv {sym:=[2]} ?_
   exact⟨rfl⟩
theorem a9k (f:Nat->Bool)(b:UInt8):Meets Tryz.prog 259 [.ptr (C0 f) 0, .v (.int .u8 (b.toNat:Int))] λd=>d=bD (f b.toNat):=by
 have hb:=b.toNat_lt
 obtain⟨r,hr⟩:=c3c f (i:=b.toNat) (by omega)
 refine enter tok {} Tryz.func259 rfl (by kernel_rfl) Tryz.ntmps259 (by simp) λB0 W0 V0 lent g0=>?_
 refine Kw ?_
 refine⟨by omega,?_⟩
 refine Kw ?_
 generalize hE:List.drop _ _=E
 have h:E=bD (f b.toNat)::r:=by
  rw[<-hE,<-hr]
  exact congrArg (λk=>List.drop k (C0 f)) (by dsimp only;omega)
 clear hE
 subst h
 refine Kw ?_
 exact⟨rfl⟩
def N2 (p:UInt8->Bool)(s:List UInt8):List UInt8:=(s.reverse.dropWhile p).reverse
theorem a6e (p:UInt8->Bool)(b:UInt8)(x:List UInt8):(b::x).dropWhile p=if p b then x.dropWhile p else b::x:=by rw[List.dropWhile_cons]
theorem c3K (p:UInt8->Bool)(b:UInt8)(x:List UInt8):N2 p (x++[b])=if p b then N2 p x else x++[b]:=by
 rw[N2,List.reverse_append,List.reverse_singleton,List.singleton_append,a6e]
 split
 . rfl
 . simp
theorem c3I (f:Nat->Bool)(s:List UInt8):Meets Tryz.prog 306 [.str s, .ptr (C0 f) 0] λd=>d= .str (s.dropWhile λb=>f b.toNat):=by
 refine enter tok {} Tryz.func306 rfl (by kernel_rfl) Tryz.ntmps306 (by simp) λB0 W0 V0 lent g0=>?_
 refine Kw ?_
 refine d4 tok {} [] (X:=List UInt8) (λx=>[(0, .d (.str x))]) (λ_=>[]) [] (λx=>x.dropWhile (λb=>f b.toNat)=s.dropWhile (λb=>f b.toNat)) (λx=>x.length) s ?_
 refine Kw ?_
 refine And.intro ?_ ⟨rfl,λx hx=>?_⟩
 . exact Kr
 refine Kw ?_
 repeat'((first|(intro hlq;try simp only[SL] at hlq)|refine K9 ?_|refine K8 ?_)<;>refine Kw ?_)
 refine⟨λh1=>?_,λh1=>?_⟩<;>(try simp only[BL] at h1)<;>refine Kw ?_
 . match x,hx with
   |[],_=>simp at h1
   | b ::x,hx=>
     rw[a6e] at hx
     refine⟨b,⟨by omega,rfl⟩,?_⟩
     refine Kw ?_
     refine Meets.k (a9k f b) ?_
     refine Kw ?_
     refine⟨λh2=>?_,λh2=>?_⟩<;>(try simp only[BL] at h2)<;>refine Kw ?_
     . rw[h2] at hx
       refine⟨?_⟩
       rw[<-hx];rfl
     . rw[h2,if_pos rfl] at hx
       repeat'((first|(intro hlq;try simp only[SL] at hlq)|refine K9 ?_|refine K8 ?_)<;>refine Kw ?_)
       refine⟨⟨x,?_,hx,by simp⟩⟩
       repeat'(first|exact True.intro|exact rfl|refine And.intro ?_ ?_|(refine congrArg D.str ?_;simp[List.append_assoc];done))
 . match x,hx with
   |[],hx=>exact⟨by rw[<-hx];rfl⟩
   |b::x,_=>simp at h1
theorem c3L (f:Nat->Bool)(s:List UInt8):Meets Tryz.prog 211 [.str s, .ptr (C0 f) 0] λd=>d= .str (N2 (λb=>f b.toNat) s):=by
 refine enter tok {} Tryz.func211 rfl (by kernel_rfl) Tryz.ntmps211 (by simp) λB0 W0 V0 lent g0=>?_
 refine Kw ?_
 refine d4 tok {} [] (X:=List UInt8) (λx=>[(0, .d (.str x))]) (λ_=>[]) [] (λx=>N2 (λb=>f b.toNat) x=N2 (λb=>f b.toNat) s) (λx=>x.length) s ?_
 refine Kw ?_
 refine And.intro ?_ ⟨rfl,λx hx=>?_⟩
 . exact Kr
 refine Kw ?_
 repeat'((first|(intro hlq;try simp only[SL] at hlq)|refine K9 ?_|refine K8 ?_)<;>refine Kw ?_)
 rcases List.eq_nil_or_concat x with rfl|⟨x,b,rfl⟩
 . refine⟨λh1=>?_,λh1=>?_⟩<;>(try simp only[BL] at h1)<;>refine Kw ?_
   . simp at h1
   . exact⟨by rw[<-hx];rfl⟩
 rw[List.concat_eq_append] at hx⊢
 rw[c3K] at hx
 refine⟨λh1=>?_,λh1=>?_⟩<;>(try simp only[BL] at h1)<;>refine Kw ?_
 . repeat' ((first|(intro hlq;try simp only[SL] at hlq)|refine K9 ?_|refine K8 ?_)<;>refine Kw ?_)
   refine⟨b,⟨by simp only[List.length_append,List.length_cons,List.length_nil];omega,by simp⟩,?_⟩
   refine Kw ?_
   refine Meets.k (a9k f b) ?_
   refine Kw ?_
   refine⟨λh2=>?_,λh2=>?_⟩<;>(try simp only[BL] at h2)<;>refine Kw ?_
   . rw[h2] at hx
     refine⟨?_⟩
     rw[<-hx];rfl
   . rw[h2,if_pos rfl] at hx
     repeat'((first|(intro hlq;try simp only[SL] at hlq)|refine K9 ?_|refine K8 ?_)<;>refine Kw ?_)
     refine⟨⟨x,?_,hx,by simp⟩⟩
     have e:(((x++[b]).length:Int)-1).toNat=x.length:=by simp
     rw[e]
     repeat'(first|exact True.intro|exact rfl|refine And.intro ?_ ?_|(refine congrArg D.str ?_;simp[List.append_assoc];done))
 . simp at h1
def d9 (b:UInt8):Bool:=decide (48<=(b.toNat:Int))&&decide ((b.toNat:Int)<=57)
theorem c3o (b:UInt8):x8 10 b.toNat=d9 b:=by
 have h:∀n:Fin 256,x8 10 n.1=(decide (48<=(n.1:Int))&&decide ((n.1:Int)<=57)):=by decide+kernel
 exact h ⟨b.toNat,b.toNat_lt⟩
theorem b5j (s:List UInt8):Meets Tryz.prog 290 [.str s, .str tenL] λd=>d= .str ((N2 d9 s).dropWhile d9):=by
 have e:(λb:UInt8=>x8 10 b.toNat)=d9:=funext c3o
 have hR:=c3L (x8 10) s
 have hL:=c3I (x8 10) (N2 d9 s)
 rw[e] at hR hL
 refine enter tok {sym:=[5]} Tryz.func290 rfl (by kernel_rfl) Tryz.ntmps290 (by simp) λB0 W0 V0 lent g0=>?_
 refine Kv {sym:=[5]} ?_
 repeat'((first|(intro hlq;try simp only[SL] at hlq)|refine Meets.k (c0i) ?_|refine K9 ?_|((refine Kh (λhb=>?_) λhb=>?_)<;>try simp only[BL] at hb)|refine K8 ?_)<;>refine Kv {sym:=[5]} ?_)
 . subst hb;exact⟨rfl⟩
 . cases hb
 . exact absurd (by assumption:(tenL.length:Int)=1) (by decide)
 . exact absurd (by assumption:(tenL.length:Int)=1) (by decide)
 show 0+(R4 (x8 10)).length<=(A9 (λ_=>false)).length/\A7 _ (Blk.box (setRun (A9 (λ_=>false)) 0 (R4 (x8 10))) 273) _ _
 rw[a7H (by rw[a1c,a2L])]
 refine⟨by rw[a1c,a2L];decide,?_⟩
 refine Kv {sym:=[5]} ?_
 repeat'((first|(intro hlq;try simp only[SL] at hlq)|refine Meets.k (hR) ?_|refine Meets.k (hL) ?_|refine K9 ?_|((refine Kh (λhb=>?_) λhb=>?_)<;>try simp only[BL] at hb)|refine K8 ?_)<;>refine Kv {sym:=[5]} ?_)
 . exact⟨rfl⟩
 . cases hb
theorem c3M (s:List UInt8):(N2 d9 s).dropWhile d9=[]↔s.all d9=true:=by
 have dw:∀(p:UInt8->Bool) (l:List UInt8),l.dropWhile p=[]↔∀x∈l,p x=true:=by
  intro p l
  induction l with
  |nil=>simp
  | cons b l ih=>
    rw[a6e]
    by_cases h:p b=true
    . rw[if_pos h,ih];simp[h]
    . rw[if_neg h];simp[h]
 have split:s=N2 d9 s++(s.reverse.takeWhile d9).reverse:=by
  have:=List.takeWhile_append_dropWhile (p:=d9) (l:=s.reverse)
  have h2:=congrArg List.reverse this
  rw[List.reverse_append,List.reverse_reverse] at h2
  exact h2.symm
 have tail:∀x∈(s.reverse.takeWhile d9).reverse,d9 x=true:=by
  intro x hx
  rw[List.mem_reverse] at hx
  exact List.all_eq_true.1 (List.all_takeWhile (p:=d9) (l:=s.reverse)) x hx
 rw[dw,List.all_eq_true]
 constructor
 . intro h x hx
   rw[split,List.mem_append] at hx
   exact hx.elim (h x) (tail x)
 . intro h x hx
   exact h x (by rw[split,List.mem_append];exact .inl hx)
def q8 (s:List UInt8)(lo hi:Int):Bool:=decide ((s.length:Int)≥lo)&&(decide ((s.length:Int)<=hi)&&s.all d9)
theorem a6b (s:List UInt8)(lo hi:Int):Meets Tryz.prog 269 [.str s,iD lo,iD hi] λd=>d=bD (q8 s lo hi):=by
 refine enter tok {} Tryz.func269 rfl (by kernel_rfl) Tryz.ntmps269 (by simp) λB0 W0 V0 lent g0=>?_
 refine Kw ?_
 repeat'((first|(intro hlq;try simp only[SL] at hlq)|refine Meets.k (b5j s) ?_|refine K9 ?_|((refine Kh (λhb=>?_) λhb=>?_)<;>try simp only[BL] at hb)|refine K8 ?_)<;>refine Kw ?_)
 all_goals
  refine⟨congrArg bD ?_⟩
  try rw[Bool.eq_iff_iff]
  simp only[q8,<-c3M,Bool.and_eq_true,decide_eq_true_eq,Bool.false_eq_true,false_iff]
  first
   |(simp_all;done)
   |(intro h;have:=h.1;have:=h.2.1;omega)
def p4 (s:List UInt8):Bool:=q8 s 1 18&&(decide (s=[48])||decide (s.head?≠some 48))
theorem a6E (s:List UInt8):Meets Tryz.prog 264 [.str s] λd=>d=bD (p4 s):=by
 have hd:=a6b s 1 18
 rcases s with _|⟨b,r⟩
 . rw[show q8 [] 1 18=false from rfl] at hd
   refine enter tok {} Tryz.func264 rfl (by kernel_rfl) Tryz.ntmps264 (by simp) λB0 W0 V0 lent g0=>?_
   refine Kw ?_
   repeat'((first|(intro hlq;try simp only[SL] at hlq)|refine Meets.k (hd) ?_|refine K9 ?_|((refine Kh (λhb=>?_) λhb=>?_)<;>try simp only[BL] at hb)|refine K8 ?_)<;>refine Kw ?_)
   all_goals first|exact absurd (by assumption:false=true) (by decide)|exact⟨rfl⟩
 . have h48:(b=48)=((b.toNat:Int)=48):=by
    rw[<-UInt8.toNat_inj]
    exact propext ⟨λh=>by rw[h];rfl,λh=>by have:(48:UInt8).toNat=48:=rfl;omega⟩
   refine enter tok {} Tryz.func264 rfl (by kernel_rfl) Tryz.ntmps264 (by simp) λB0 W0 V0 lent g0=>?_
   refine Kw ?_
   repeat'((first|(intro hlq;try simp only[SL] at hlq)|refine Meets.k (hd) ?_|refine⟨b,⟨by omega,rfl⟩,?_⟩|refine K9 ?_|((refine Kh (λhb=>?_) λhb=>?_)<;>try simp only[BL] at hb)|refine K8 ?_)<;>refine Kw ?_)
   all_goals
    refine⟨congrArg bD ?_⟩
    simp only[p4,List.head?_cons,Option.some.injEq,h48,ne_eq]
    simp_all
def E4 (s:List UInt8):Bool:=match s with|45::r=>p4 r&& !decide (r=[48])|s=>p4 s
end Go.Proofs.YteillnfhkeebjaaGreatDoor.Dx
/- strings.CutPrefix; isInteger,in the code. -/
namespace Go.Proofs.YteillnfhkeebjaaGreatDoor.Dx
open Go Go.RowKit Go.Proofs
set_option maxRecDepth 100000
set_option maxHeartbeats 8000000
theorem a1g {V:Know}{x y:Value}{d e:D}(h:Rep V x d)(k:Rep V y e):Rep V (.tuple #[x,y]) (.tup [d,e]):=by
 refine .tup [x,y] [d,e] rfl λi u c hu hc=>?_
 match i with
 |0=>simp at hu hc;subst hu hc;exact h
 |1=>simp at hu hc;subst hu hc;exact k
 |i+2=>simp at hu
theorem c3J (s p:List UInt8):(Lib.trimPrefix s p).length<=s.length:=by
 unfold Lib.trimPrefix
 split
 . simp
 . exact Nat.le_refl _
theorem a8N (s p:List UInt8)(hs:s.length<=maxLen):Meets Tryz.prog 263 [.str s, .str p] λd=>d= .tup [.str (Lib.trimPrefix s p),bD (Lib.hasPrefix s p)]:=by
 refine Meets.still ⟨Tryz.f263,_,Tryz.func263,rfl,by kernel_rfl⟩ λV W xs hS hx=>?_
 obtain⟨u,w,rfl,h1,h2⟩:=hx.two
 obtain⟨rfl,_⟩:=h1.str_inv
 obtain⟨rfl,_⟩:=h2.str_inv
 refine(Tryz.strings_CutPrefix ⟨⟨s⟩⟩ ⟨⟨p⟩⟩ W).mono ?_
 rintro e W' ⟨rfl,rfl⟩
 refine⟨_,rfl,rfl,?_⟩
 exact a1g (.str _ (Nat.le_trans (c3J s p) hs)) (.b _)
theorem a3B (r:List UInt8):Lib.trimPrefix (45::r) [45]=r/\Lib.hasPrefix (45::r) [45]=true:=by
 simp[Lib.trimPrefix,Lib.hasPrefix,List.isPrefixOf]
theorem a3C {s:List UInt8}(h:∀r,s≠45::r):Lib.trimPrefix s [45]=s/\Lib.hasPrefix s [45]=false:=by
 have e:Lib.hasPrefix s [45]=false:=by
  unfold Lib.hasPrefix
  match s,h with
  |[],_=>rfl
  | b::r,h=>
    have hb:b≠45:=λe=>h r (by rw[e])
    simp[List.isPrefixOf,Ne.symm hb]
 exact⟨by rw[Lib.trimPrefix,e];rfl,e⟩
theorem a6B {s:List UInt8}(h:∀r,s≠45::r):E4 s=p4 s:=by
 unfold E4
 split
 . exact absurd rfl (h _)
 . rfl
theorem b8W (s:List UInt8)(hs:s.length<=maxLen):Meets Tryz.prog 230 [.str s] λd=>d=bD (E4 s):=by
 have hc:=a8N s [45] hs
 by_cases h:∃r,s=45::r
 . obtain⟨r,rfl⟩:=h
   rw[(a3B r).1,(a3B r).2] at hc
   refine enter tok {} Tryz.func230 rfl (by kernel_rfl) Tryz.ntmps230 (by simp) λB0 W0 V0 lent g0=>?_
   refine Kw ?_
   repeat'((first|(intro hlq;try simp only[SL] at hlq)|refine Meets.k (hc) ?_|refine Meets.k (a6E r) ?_|refine K9 ?_|((refine Kh (λhb=>?_) λhb=>?_)<;>try simp only[BL] at hb)|refine K8 ?_)<;>refine Kw ?_)
   all_goals (refine⟨congrArg bD ?_⟩;simp_all [E4])
 . have h:∀r,s≠45::r:=λr e=>h ⟨r,e⟩
   rw[(a3C h).1,(a3C h).2] at hc
   refine enter tok {} Tryz.func230 rfl (by kernel_rfl) Tryz.ntmps230 (by simp) λB0 W0 V0 lent g0=>?_
   refine Kw ?_
   repeat'((first|(intro hlq;try simp only[SL] at hlq)|refine Meets.k (hc) ?_|refine Meets.k (a6E s) ?_|refine K9 ?_|((refine Kh (λhb=>?_) λhb=>?_)<;>try simp only[BL] at hb)|refine K8 ?_)<;>refine Kw ?_)
   all_goals (rw[a6B h];first|(exact absurd (by assumption:false=true) (by decide))|(refine⟨congrArg bD ?_⟩;simp_all;done))
end Go.Proofs.YteillnfhkeebjaaGreatDoor.Dx
/- strings.Cut,strconv.Atoi by the shelf's contracts. -/
namespace Go.Proofs.YteillnfhkeebjaaGreatDoor.Dx
open Go Go.RowKit Go.Proofs Go.Sort
set_option maxRecDepth 100000
set_option maxHeartbeats 8000000
theorem Meets.below {P:Program}{f:FuncId}{ds:List D}{d:D}(hf:J1 P f)
 (h:∀V W xs,Sees V W->Reps V xs ds->Calls P f xs.toArray W λe W'=>∃v,e= .returned v/\Below W.heap.size W W'/\Rep V v d):Meets P f ds λr=>r=d:=by
 refine⟨⟨hf,λγ V W xs h1 h2 h3 h4=>?_⟩⟩
 have hr:Reps V xs ds:=by
  refine⟨by have:=h2.len;simpa using this.symm,λi u d h5 h6=>?_⟩
  exact h2.get i (.d d) u (by simp[h6]) h5
 refine(h V W xs h1 hr).mono ?_
 rintro e W' ⟨v,rfl,hb,hv⟩
 exact⟨γ,V, .ret (.d d),[],hv, .of hb, .refl _ _ _,h1.below hb,λn b h=>(by rw[f8] at h;cases h),λn b h=>(by rw[f8] at h;cases h),λn n' b b' h=>(by rw[f8] at h;cases h),
  λ_ _ _ _=>rfl,d,rfl,rfl,rfl⟩
theorem b6Y (s sep:List UInt8):(Lib.cut s sep).1.length<=s.length/\(Lib.cut s sep).2.1.length<=s.length:=by
 unfold Lib.cut
 split
 . simp
   omega
 . simp
theorem c3Q {V:Know}{x y z:Value}{d e f:D}(h:Rep V x d)(k:Rep V y e)(l:Rep V z f):Rep V (.tuple #[x,y,z]) (.tup [d,e,f]):=by
 refine .tup [x,y,z] [d,e,f] rfl λi u c hu hc=>?_
 match i with
 |0=>simp at hu hc;subst hu hc;exact h
 |1=>simp at hu hc;subst hu hc;exact k
 |2=>simp at hu hc;subst hu hc;exact l
 |i+3=>simp at hu
theorem b7w (w:World)(n:Nat):Below w.heap.size w (w.drewN n):=⟨rfl,rfl,rfl,Nat.le_refl _,λ_ _=>rfl⟩
theorem a9B (w:World)(e:TypeId)(s:ByteArray):Below w.heap.size w (Lib.bytesWorld w e s):=
 ⟨rfl,rfl,rfl,by rw[Lib.bytesWorld_size];omega,λj hj=>Lib.bytesWorld_at_old w e s j hj⟩
theorem b4B (s sep:List UInt8)(hs:s.length<4294967281):Meets Tryz.prog 267 [.str s, .str sep] λd=>d= .tup [.str (Lib.cut s sep).1, .str (Lib.cut s sep).2.1,bD (Lib.cut s sep).2.2]:=by
 refine Meets.below ⟨Tryz.f267,_,Tryz.func267,rfl,by kernel_rfl⟩ λV W xs hS hx=>?_
 obtain⟨u,w,rfl,h1,h2⟩:=hx.two
 obtain⟨rfl,_⟩:=h1.str_inv
 obtain⟨rfl,_⟩:=h2.str_inv
 obtain⟨m,hm⟩:=hS.lib.maxLen
 refine(Tryz.strings_Cut ⟨⟨s⟩⟩ ⟨⟨sep⟩⟩ m W hs (hS.cell _ _ _ hm)).mono ?_
 rintro e W' ⟨rfl,n,rfl⟩
 have hl:=b6Y s sep
 have hm:s.length<=maxLen:=by unfold maxLen;omega
 exact⟨_,rfl,b7w W n,c3Q (.str _ (Nat.le_trans hl.1 hm)) (.str _ (Nat.le_trans hl.2 hm)) (.b _)⟩
theorem a5m (s:List UInt8)(n:Int)(hs:s.length<=18)(h:Lib.atoi s=some n)(hn:i7 .i64 n):Meets Tryz.prog 198 [.str s] λd=>d= .tup [iD n, .v .nilIface]:=by
 refine Meets.below ⟨Tryz.f198,_,Tryz.func198,rfl,by kernel_rfl⟩ λV W xs hS hx=>?_
 obtain⟨u,hu⟩:∃u,xs=[u]:=by
  have:=hx.len
  match xs,this with
  |[u],_=>exact⟨u,rfl⟩
 subst hu
 obtain⟨rfl,_⟩:=(hx.get 0 _ _ rfl rfl).str_inv
 refine(Tryz.strconv_Atoi ⟨⟨s⟩⟩ n hs h W).mono ?_
 rintro e W' ⟨rfl,t,rfl⟩
 exact⟨_,rfl,a9B W 5 t,a1g (Rep.int hn) (.v _ ⟨rfl,λ_ _ e=>by cases e⟩)⟩
end Go.Proofs.YteillnfhkeebjaaGreatDoor.Dx
/- strings.Split by the shelf's contract. -/
namespace Go.Proofs.YteillnfhkeebjaaGreatDoor.Dx
open Go Go.RowKit Go.Proofs Go.Sort
set_option maxRecDepth 100000
set_option maxHeartbeats 8000000
theorem b3l (sep:ByteArray)(save:Nat):∀(k:Nat) (s:ByteArray),∀x∈Lib.splitB sep save k s,x.size<=s.size
 | 0,s,x,hx=>by
   rw[Lib.splitB_zero,List.mem_singleton] at hx;rw[hx];exact Nat.le_refl _
 | k + 1,s,x,hx=>by
   unfold Lib.splitB at hx
   split at hx
   . rw[List.mem_singleton] at hx;rw[hx];exact Nat.le_refl _
   . rcases List.mem_cons.1 hx with rfl|hx
     . simp only[ByteArray.size_extract];omega
     . have:=b3l sep save k _ x hx
       simp only[ByteArray.size_extract] at this;omega
def I5 (s sep:List UInt8):List (List UInt8):=(Lib.splitB ⟨⟨sep⟩⟩ 0 (Lib.countB ⟨⟨s⟩⟩ ⟨⟨sep⟩⟩) ⟨⟨s⟩⟩).map (·.data.toList)
theorem b5c (s sep:List UInt8)(hs:s.length<4294967281)(hp:1<=sep.length):Meets Tryz.prog 268 [.str s, .str sep] λd=>d= .sl ((I5 s sep).map s6):=by
 refine⟨⟨⟨Tryz.f268,_,Tryz.func268,rfl,by kernel_rfl⟩,λγ V W xs h1 h2 h3 h4=>?_⟩⟩
 have hx:Reps V xs [.str s, .str sep]:=by
  refine⟨by have:=h2.len;simpa using this.symm,λi u d h5 h6=>?_⟩
  exact h2.get i (.d d) u (by rw[List.getElem?_map,h6];rfl) h5
 obtain⟨u,w,rfl,k1,k2⟩:=hx.two
 obtain⟨rfl,_⟩:=k1.str_inv
 obtain⟨rfl,_⟩:=k2.str_inv
 obtain⟨m,hm⟩:=h1.lib.maxLen
 refine(Tryz.strings_Split ⟨⟨s⟩⟩ ⟨⟨sep⟩⟩ m W hs (h1.cell _ _ _ hm) hp).mono ?_
 rintro e W' ⟨rfl,rfl⟩
 have hl:=Lib.splitB_all ⟨⟨sep⟩⟩ hp 0 (Lib.countB ⟨⟨s⟩⟩ ⟨⟨sep⟩⟩) ⟨⟨s⟩⟩ rfl
 have hcb:Lib.countB ⟨⟨s⟩⟩ ⟨⟨sep⟩⟩<=s.length:=Lib.countB_le ⟨⟨sep⟩⟩ hp _ ⟨⟨s⟩⟩ (Nat.le_refl _)
 have hle:=b3l ⟨⟨sep⟩⟩ 0 (Lib.countB ⟨⟨s⟩⟩ ⟨⟨sep⟩⟩) ⟨⟨s⟩⟩
 unfold I5
 generalize Lib.splitB ⟨⟨sep⟩⟩ 0 (Lib.countB ⟨⟨s⟩⟩ ⟨⟨sep⟩⟩) ⟨⟨s⟩⟩=ps at *
 generalize Lib.countB ⟨⟨s⟩⟩ ⟨⟨sep⟩⟩=k at *
 have hg:=b4m h1 (ps.map Value.string) 9
 have hk:k+1<=maxLen:=by unfold maxLen;omega
 have hrep:∀(V':Know) (ps:List ByteArray),(∀x∈ps,x.size<=maxLen)->Reps V' (ps.map Value.string) ((ps.map (·.data.toList)).map s6).flatten:=by
  intro V' ps
  induction ps with
  |nil=>intro _;exact .nil _
  |cons x ps ih=>intro h;exact .cons (.str _ (h x (by simp))) (ih λy hy=>h y (by simp[hy]))
 have hsz:s.length<=maxLen:=by unfold maxLen;omega
 refine⟨γ,_, .ret (.d (.sl ((ps.map (·.data.toList)).map s6))),[],?_, .of hg.below,hg.fresh,hg.sees,λn b h=>(by rw[f8] at h;cases h),λn b h=>(by rw[f8] at h;cases h),λn n' b b' h=>(by rw[f8] at h;cases h),
  λ_ _ _ _=>rfl,_,rfl,rfl,rfl⟩
 refine a2D (k:=1) (by simp[hl]) (Nat.le_refl _) hk (λds hds=>by obtain⟨x,_,rfl⟩:=List.mem_map.1 hds;rfl) (hrep _ ps λx hx=>Nat.le_trans (hle x hx) hsz) (λu hu=>by obtain⟨x,_,rfl⟩:=List.mem_map.1 hu;rfl) (λj u hj=>?_)
 show(if W.heap.size=W.heap.size then _ else _)=some u
 rw[if_pos rfl];exact hj
end Go.Proofs.YteillnfhkeebjaaGreatDoor.Dx
