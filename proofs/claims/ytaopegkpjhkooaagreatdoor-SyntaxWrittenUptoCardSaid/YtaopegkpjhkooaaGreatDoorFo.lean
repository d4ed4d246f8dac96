/- Digits: strings.Trim at the ten digits,lexis.digits,isNumeral. -/
import Derived.Test.YtaopegkpjhkooaaGreatDoorFm
import Derived.Test.YtaopegkpjhkooaaGreatDoorFn
import Derived.Lib.SplitLaws
set_option linter.all false
namespace Go.Proofs.YtaopegkpjhkooaaGreatDoor.Dx
open Go Go.RowKit Go.Proofs
set_option maxRecDepth 100000
set_option maxHeartbeats 8000000
abbrev qB (b:Bool):Base:= .d (.bl b)
def E8 (f:Nat->Bool):List Base:=(List.range 256).map λb=>qB (f b)
def F6 (f:Nat->Bool):List D:=(List.range 256).map λb=>bD (f b)
theorem a2O (f:Nat->Bool):(E8 f).length=256:=by simp[E8]
theorem a8B (f:Nat->Bool):(F6 f).length=256:=by simp[F6]
theorem c2M {f g:Nat->Bool}{i:Nat}{v:Bool}(hi:i<256)(h:∀b,b<256->g b=if b=i then v else f b):(E8 f).set i (qB v)=E8 g:=by
 apply List.ext_getElem?
 intro b
 simp only[E8,List.getElem?_set,List.length_map,List.length_range,List.getElem?_map]
 by_cases hb:b<256
 . rw[List.getElem?_range hb]
   simp only[Option.map_some]
   rw[h b hb]
   by_cases e:i=b
   . subst e;simp[hi]
   . rw[if_neg e,if_neg (Ne.symm e)]
 . rw[if_neg (by omega),List.getElem?_eq_none (by simp;omega)]
   rfl
theorem c2N (O:List (Nat×Blk))(f:Nat->Bool):w9 O (E8 f)=some (F6 f):=by
 unfold E8 F6
 generalize List.range 256=l
 induction l with
 |nil=>rfl
 |cons x l ih=>simp only[List.map_cons,w9,ih];rfl
theorem c2O (O:List (Nat×Blk))(f:Nat->Bool):w9 O (((E8 f).drop 0).take 256)=some (F6 f):=by
 rw[List.drop_zero,List.take_of_length_le (by rw[a2O];decide),c2N]
def a0d (f:Nat->Bool):List Base:=(List.range 256).map λb=> .d (bD (f b))
theorem a4l (f:Nat->Bool):(a0d f).length=256:=by simp[a0d]
theorem c2P (O:List (Nat×Blk))(f:Nat->Bool):w9 O (a0d f)=some (F6 f):=by
 unfold a0d F6
 generalize List.range 256=l
 induction l with
 |nil=>rfl
 |cons x l ih=>simp only[List.map_cons,w9,ih];rfl
theorem c2Q (O:List (Nat×Blk))(f:Nat->Bool):w9 O (((a0d f).drop 0).take 256)=some (F6 f):=by
 rw[List.drop_zero,List.take_of_length_le (by rw[a4l];decide),c2P]
theorem c2L (f:Nat->Bool){i:Nat}(h:i<256):∃r,(F6 f).drop i=bD (f i)::r:=by
 refine⟨(F6 f).drop (i+1),?_⟩
 rw[List.drop_eq_getElem_cons (by rw[a8B];exact h)]
 simp[F6]
theorem a9C (O:List (Nat×Blk))(f:Nat->Bool):a0V O (E8 f) (E8 f):=by
 unfold E8
 generalize List.range 256=l
 induction l with
 |nil=>trivial
 |cons x l ih=>exact⟨rfl,ih⟩
abbrev tenL:List UInt8:=[48,49,50,51,52,53,54,55,56,57]
def D5 (i:Nat)(b:Nat):Bool:=(tenL.take i).any λc=>decide (c.toNat=b)
theorem c2W {i:Nat}(h:i<tenL.length)(b:Nat):D5 (i+1) b=if b=tenL[i].toNat then true else D5 i b:=by
 rw[D5,List.take_succ_eq_append_getElem h,List.any_append]
 by_cases e:b=tenL[i].toNat
 . rw[if_pos e];simp[e]
 . rw[if_neg e]
   simp only[List.any_cons,List.any_nil,Bool.or_false,decide_eq_false (Ne.symm e)]
   rfl
theorem b9f:Meets Tryz.prog 179 [.str tenL] λd=>d= .tup [.agg (F6 (D5 10)),bD true]:=by
 have hten:∀x∈tenL,x.toNat<128:=by decide
 refine enter tok {sym:=[2]} Tryz.func179 rfl (by kernel_rfl) Tryz.ntmps179 (by simp) λB0 W0 V0 lent g0=>?_
 refine Kv {sym:=[2]} ?_
 refine a9s 2 (E8 (D5 0)) ?_
 conv=>whnf
 refine⟨by kernel_rfl,?_⟩
 conv=>whnf
 refine j7 tok {sym:=[2]} [] (X:=Nat) (λi=>[(4,iB i)]) (λi=>[(2, .box (E8 (D5 i)) 248)]) [5] (λi=>i<=tenL.length) (λi=>tenL.length-i) 0 ?_
 refine Kv {sym:=[2]} ?_
 refine And.intro ?_ ⟨by decide,λk hk=>?_⟩
 . repeat'(first|exact a9C _ _|exact True.intro|exact rfl|refine And.intro ?_ ?_)
 refine Kv {sym:=[2]} ?_
 repeat'((first|(intro hlq;try simp only[SL] at hlq)|refine K9 ?_|refine K8 ?_)<;>refine Kv {sym:=[2]} ?_)
 refine⟨λh1=>?_,λh1=>?_⟩<;>(try simp only[BL] at h1)<;>refine Kv {sym:=[2]} ?_
 . have h1':k<tenL.length:=by simp only[tenL,List.length_cons,List.length_nil] at h1⊢;omega
   have hb:=hten _ (List.getElem_mem h1')
   refine⟨_,⟨by omega,by rw[Int.toNat_natCast,List.getElem?_eq_getElem h1']⟩,?_⟩
   refine Kv {sym:=[2]} ?_
   refine⟨λh2=>?_,λh2=>?_⟩<;>(try simp only[BL] at h2)<;>refine Kv {sym:=[2]} ?_
   . omega
   repeat'((first|(intro hlq;try simp only[SL] at hlq)|refine K9 ?_|refine K8 ?_)<;>refine Kv {sym:=[2]} ?_)
   refine⟨by dsimp only;rw[a2O];omega,?_⟩
   refine Kv {sym:=[2]} ?_
   repeat'((first|(intro hlq;try simp only[SL] at hlq)|refine K9 ?_|refine K8 ?_)<;>refine Kv {sym:=[2]} ?_)
   have e1:(E8 (D5 k)).set (0+(tenL[k].toNat:Int).toNat *1) (qB true)=E8 (D5 (k+1)):=by
    refine c2M (by omega) λb hb=>?_
    rw[c2W h1',show 0+(tenL[k].toNat:Int).toNat *1=tenL[k].toNat by omega]
   rw[e1]
   refine⟨⟨k+1,?_,by omega,by omega⟩⟩
   repeat'(first|exact a9C _ _|exact True.intro|exact rfl|refine And.intro ?_ ?_)
 . obtain rfl:k=10:=by simp only[tenL,List.length_cons,List.length_nil] at h1 hk;omega
   refine⟨F6 (D5 10),⟨c2O _ _,a8B _⟩,?_⟩
   refine Kv {sym:=[2]} ?_
   show 0+(a0d (D5 10)).length<=(E8 (D5 10)).length/\D4 _ (Blk.box (setRun (E8 (D5 10)) 0 (a0d (D5 10))) 248) _ _
   rw[a8j (by rw[a2O,a4l])]
   refine⟨by rw[a2O,a4l];decide,?_⟩
   refine Kv {sym:=[2]} ?_
   refine⟨F6 (D5 10),⟨c2Q _ _,a8B _⟩,?_⟩
   refine Kv {sym:=[2]} ?_
   exact⟨rfl⟩
theorem a9E (f:Nat->Bool)(b:UInt8):Meets Tryz.prog 198 [.ptr (F6 f) 0, .v (.int .u8 (b.toNat:Int))] λd=>d=bD (f b.toNat):=by
 have hb:=b.toNat_lt
 obtain⟨r,hr⟩:=c2L f (i:=b.toNat) (by omega)
 refine enter tok {} Tryz.func198 rfl (by kernel_rfl) Tryz.ntmps198 (by simp) λB0 W0 V0 lent g0=>?_
 refine Kw ?_
 refine⟨by omega,?_⟩
 refine Kw ?_
 generalize hE:List.drop _ _=E
 have h:E=bD (f b.toNat)::r:=by
  rw[<-hE,<-hr]
  exact congrArg (λk=>List.drop k (F6 f)) (by dsimp only;omega)
 clear hE
 subst h
 refine Kw ?_
 exact⟨rfl⟩
def W5 (p:UInt8->Bool)(s:List UInt8):List UInt8:=(s.reverse.dropWhile p).reverse
theorem a7a (p:UInt8->Bool)(b:UInt8)(x:List UInt8):(b::x).dropWhile p=if p b then x.dropWhile p else b::x:=by rw[List.dropWhile_cons]
theorem c3o (p:UInt8->Bool)(b:UInt8)(x:List UInt8):W5 p (x++[b])=if p b then W5 p x else x++[b]:=by
 rw[W5,List.reverse_append,List.reverse_singleton,List.singleton_append,a7a]
 split
 . rfl
 . simp
theorem c3m (f:Nat->Bool)(s:List UInt8):Meets Tryz.prog 180 [.str s, .ptr (F6 f) 0] λd=>d= .str (s.dropWhile λb=>f b.toNat):=by
 refine enter tok {} Tryz.func180 rfl (by kernel_rfl) Tryz.ntmps180 (by simp) λB0 W0 V0 lent g0=>?_
 refine Kw ?_
 refine j7 tok {} [] (X:=List UInt8) (λx=>[(0, .d (.str x))]) (λ_=>[]) [] (λx=>x.dropWhile (λb=>f b.toNat)=s.dropWhile (λb=>f b.toNat)) (λx=>x.length) s ?_
 refine Kw ?_
 refine And.intro ?_ ⟨rfl,λx hx=>?_⟩
 . exact Kr
 refine Kw ?_
 repeat'((first|(intro hlq;try simp only[SL] at hlq)|refine K9 ?_|refine K8 ?_)<;>refine Kw ?_)
 refine⟨λh1=>?_,λh1=>?_⟩<;>(try simp only[BL] at h1)<;>refine Kw ?_
 . match x,hx with
   |[],_=>simp at h1
   | b ::x,hx=>
     rw[a7a] at hx
     refine⟨b,⟨by omega,rfl⟩,?_⟩
     refine Kw ?_
     refine Meets.k (a9E f b) ?_
     refine Kw ?_
     refine⟨λh2=>?_,λh2=>?_⟩<;>(try simp only[BL] at h2)<;>refine Kw ?_
     . rw[h2] at hx
       refine⟨?_⟩
       rw[<-hx];rfl
     . rw[h2,if_pos rfl] at hx
       repeat'((first|(intro hlq;try simp only[SL] at hlq)|refine K9 ?_|refine K8 ?_)<;>refine Kw ?_)
       refine⟨⟨x,?_,hx,by simp⟩⟩
       repeat'(first|exact True.intro|exact rfl|refine And.intro ?_ ?_|(refine congrArg D.str ?_;simp[List.append_assoc];done))
 . match x,hx with
   |[],hx=>exact⟨by rw[<-hx];rfl⟩
   |b::x,_=>simp at h1
theorem c3p (f:Nat->Bool)(s:List UInt8):Meets Tryz.prog 181 [.str s, .ptr (F6 f) 0] λd=>d= .str (W5 (λb=>f b.toNat) s):=by
 refine enter tok {} Tryz.func181 rfl (by kernel_rfl) Tryz.ntmps181 (by simp) λB0 W0 V0 lent g0=>?_
 refine Kw ?_
 refine j7 tok {} [] (X:=List UInt8) (λx=>[(0, .d (.str x))]) (λ_=>[]) [] (λx=>W5 (λb=>f b.toNat) x=W5 (λb=>f b.toNat) s) (λx=>x.length) s ?_
 refine Kw ?_
 refine And.intro ?_ ⟨rfl,λx hx=>?_⟩
 . exact Kr
 refine Kw ?_
 repeat'((first|(intro hlq;try simp only[SL] at hlq)|refine K9 ?_|refine K8 ?_)<;>refine Kw ?_)
 rcases List.eq_nil_or_concat x with rfl|⟨x,b,rfl⟩
 . refine⟨λh1=>?_,λh1=>?_⟩<;>(try simp only[BL] at h1)<;>refine Kw ?_
   . simp at h1
   . exact⟨by rw[<-hx];rfl⟩
 rw[List.concat_eq_append] at hx⊢
 rw[c3o] at hx
 refine⟨λh1=>?_,λh1=>?_⟩<;>(try simp only[BL] at h1)<;>refine Kw ?_
 . repeat' ((first|(intro hlq;try simp only[SL] at hlq)|refine K9 ?_|refine K8 ?_)<;>refine Kw ?_)
   refine⟨b,⟨by simp only[List.length_append,List.length_cons,List.length_nil];omega,by simp⟩,?_⟩
   refine Kw ?_
   refine Meets.k (a9E f b) ?_
   refine Kw ?_
   refine⟨λh2=>?_,λh2=>?_⟩<;>(try simp only[BL] at h2)<;>refine Kw ?_
   . rw[h2] at hx
     refine⟨?_⟩
     rw[<-hx];rfl
   . rw[h2,if_pos rfl] at hx
     repeat'((first|(intro hlq;try simp only[SL] at hlq)|refine K9 ?_|refine K8 ?_)<;>refine Kw ?_)
     refine⟨⟨x,?_,hx,by simp⟩⟩
     have e:(((x++[b]).length:Int)-1).toNat=x.length:=by simp
     rw[e]
     repeat'(first|exact True.intro|exact rfl|refine And.intro ?_ ?_|(refine congrArg D.str ?_;simp[List.append_assoc];done))
 . simp at h1
def d9 (b:UInt8):Bool:=decide (48<=(b.toNat:Int))&&decide ((b.toNat:Int)<=57)
theorem c2X (b:UInt8):D5 10 b.toNat=d9 b:=by
 have h:∀n:Fin 256,D5 10 n.1=(decide (48<=(n.1:Int))&&decide ((n.1:Int)<=57)):=by decide+kernel
 exact h ⟨b.toNat,b.toNat_lt⟩
theorem b4U (s:List UInt8):Meets Tryz.prog 156 [.str s, .str tenL] λd=>d= .str ((W5 d9 s).dropWhile d9):=by
 have e:(λb:UInt8=>D5 10 b.toNat)=d9:=funext c2X
 have hR:=c3p (D5 10) s
 have hL:=c3m (D5 10) (W5 d9 s)
 rw[e] at hR hL
 refine enter tok {sym:=[5]} Tryz.func156 rfl (by kernel_rfl) Tryz.ntmps156 (by simp) λB0 W0 V0 lent g0=>?_
 refine Kv {sym:=[5]} ?_
 repeat'((first|(intro hlq;try simp only[SL] at hlq)|refine Meets.k (b9f) ?_|refine K9 ?_|((refine Kh (λhb=>?_) λhb=>?_)<;>try simp only[BL] at hb)|refine K8 ?_)<;>refine Kv {sym:=[5]} ?_)
 . subst hb;exact⟨rfl⟩
 . cases hb
 . exact absurd (by assumption:(tenL.length:Int)=1) (by decide)
 . exact absurd (by assumption:(tenL.length:Int)=1) (by decide)
 show 0+(a0d (D5 10)).length<=(E8 (λ_=>false)).length/\D4 _ (Blk.box (setRun (E8 (λ_=>false)) 0 (a0d (D5 10))) 248) _ _
 rw[a8j (by rw[a2O,a4l])]
 refine⟨by rw[a2O,a4l];decide,?_⟩
 refine Kv {sym:=[5]} ?_
 repeat'((first|(intro hlq;try simp only[SL] at hlq)|refine Meets.k (hR) ?_|refine Meets.k (hL) ?_|refine K9 ?_|((refine Kh (λhb=>?_) λhb=>?_)<;>try simp only[BL] at hb)|refine K8 ?_)<;>refine Kv {sym:=[5]} ?_)
 . exact⟨rfl⟩
 . cases hb
theorem c3r (s:List UInt8):(W5 d9 s).dropWhile d9=[]↔s.all d9=true:=by
 have dw:∀(p:UInt8->Bool) (l:List UInt8),l.dropWhile p=[]↔∀x∈l,p x=true:=by
  intro p l
  induction l with
  |nil=>simp
  | cons b l ih=>
    rw[a7a]
    by_cases h:p b=true
    . rw[if_pos h,ih];simp[h]
    . rw[if_neg h];simp[h]
 have split:s=W5 d9 s++(s.reverse.takeWhile d9).reverse:=by
  have:=List.takeWhile_append_dropWhile (p:=d9) (l:=s.reverse)
  have h2:=congrArg List.reverse this
  rw[List.reverse_append,List.reverse_reverse] at h2
  exact h2.symm
 have tail:∀x∈(s.reverse.takeWhile d9).reverse,d9 x=true:=by
  intro x hx
  rw[List.mem_reverse] at hx
  exact List.all_eq_true.1 (List.all_takeWhile (p:=d9) (l:=s.reverse)) x hx
 rw[dw,List.all_eq_true]
 constructor
 . intro h x hx
   rw[split,List.mem_append] at hx
   exact hx.elim (h x) (tail x)
 . intro h x hx
   exact h x (by rw[split,List.mem_append];exact .inl hx)
def A0 (s:List UInt8)(lo hi:Int):Bool:=decide ((s.length:Int)≥lo)&&(decide ((s.length:Int)<=hi)&&s.all d9)
theorem a6Y (s:List UInt8)(lo hi:Int):Meets Tryz.prog 129 [.str s,iD lo,iD hi] λd=>d=bD (A0 s lo hi):=by
 refine enter tok {} Tryz.func129 rfl (by kernel_rfl) Tryz.ntmps129 (by simp) λB0 W0 V0 lent g0=>?_
 refine Kw ?_
 repeat'((first|(intro hlq;try simp only[SL] at hlq)|refine Meets.k (b4U s) ?_|refine K9 ?_|((refine Kh (λhb=>?_) λhb=>?_)<;>try simp only[BL] at hb)|refine K8 ?_)<;>refine Kw ?_)
 all_goals
  refine⟨congrArg bD ?_⟩
  try rw[Bool.eq_iff_iff]
  simp only[A0,<-c3r,Bool.and_eq_true,decide_eq_true_eq,Bool.false_eq_true,false_iff]
  first
   |(simp_all;done)
   |(intro h;have:=h.1;have:=h.2.1;omega)
def w7 (s:List UInt8):Bool:=A0 s 1 18&&(decide (s=[48])||decide (s.head?≠some 48))
theorem a7x (s:List UInt8):Meets Tryz.prog 100 [.str s] λd=>d=bD (w7 s):=by
 have hd:=a6Y s 1 18
 rcases s with _|⟨b,r⟩
 . rw[show A0 [] 1 18=false from rfl] at hd
   refine enter tok {} Tryz.func100 rfl (by kernel_rfl) Tryz.ntmps100 (by simp) λB0 W0 V0 lent g0=>?_
   refine Kw ?_
   repeat'((first|(intro hlq;try simp only[SL] at hlq)|refine Meets.k (hd) ?_|refine K9 ?_|((refine Kh (λhb=>?_) λhb=>?_)<;>try simp only[BL] at hb)|refine K8 ?_)<;>refine Kw ?_)
   all_goals first|exact absurd (by assumption:false=true) (by decide)|exact⟨rfl⟩
 . have h48:(b=48)=((b.toNat:Int)=48):=by
    rw[<-UInt8.toNat_inj]
    exact propext ⟨λh=>by rw[h];rfl,λh=>by have:(48:UInt8).toNat=48:=rfl;omega⟩
   refine enter tok {} Tryz.func100 rfl (by kernel_rfl) Tryz.ntmps100 (by simp) λB0 W0 V0 lent g0=>?_
   refine Kw ?_
   repeat'((first|(intro hlq;try simp only[SL] at hlq)|refine Meets.k (hd) ?_|refine⟨b,⟨by omega,rfl⟩,?_⟩|refine K9 ?_|((refine Kh (λhb=>?_) λhb=>?_)<;>try simp only[BL] at hb)|refine K8 ?_)<;>refine Kw ?_)
   all_goals
    refine⟨congrArg bD ?_⟩
    simp only[w7,List.head?_cons,Option.some.injEq,h48,ne_eq]
    simp_all
def K7 (s:List UInt8):Bool:=match s with|45::r=>w7 r&& !decide (r=[48])|s=>w7 s
end Go.Proofs.YtaopegkpjhkooaaGreatDoor.Dx
/- strings.CutPrefix; isInteger,in the code. -/
namespace Go.Proofs.YtaopegkpjhkooaaGreatDoor.Dx
open Go Go.RowKit Go.Proofs
set_option maxRecDepth 100000
set_option maxHeartbeats 8000000
theorem a2R {V:Know}{x y:Value}{d e:D}(h:Rep V x d)(k:Rep V y e):Rep V (.tuple #[x,y]) (.tup [d,e]):=by
 refine .tup [x,y] [d,e] rfl λi u c hu hc=>?_
 match i with
 |0=>simp at hu hc;subst hu hc;exact h
 |1=>simp at hu hc;subst hu hc;exact k
 |i+2=>simp at hu
theorem c3n (s p:List UInt8):(Lib.trimPrefix s p).length<=s.length:=by
 unfold Lib.trimPrefix
 split
 . simp
 . exact Nat.le_refl _
theorem a9l (s p:List UInt8)(hs:s.length<=maxLen):Meets Tryz.prog 99 [.str s, .str p] λd=>d= .tup [.str (Lib.trimPrefix s p),bD (Lib.hasPrefix s p)]:=by
 refine Meets.still ⟨Tryz.f99,_,Tryz.func99,rfl,by kernel_rfl⟩ λV W xs hS hx=>?_
 obtain⟨u,w,rfl,h1,h2⟩:=hx.two
 obtain⟨rfl,_⟩:=h1.str_inv
 obtain⟨rfl,_⟩:=h2.str_inv
 refine(Tryz.strings_CutPrefix ⟨⟨s⟩⟩ ⟨⟨p⟩⟩ W).mono ?_
 rintro e W' ⟨rfl,rfl⟩
 refine⟨_,rfl,rfl,?_⟩
 exact a2R (.str _ (Nat.le_trans (c3n s p) hs)) (.b _)
theorem a5b (r:List UInt8):Lib.trimPrefix (45::r) [45]=r/\Lib.hasPrefix (45::r) [45]=true:=by
 simp[Lib.trimPrefix,Lib.hasPrefix,List.isPrefixOf]
theorem a5c {s:List UInt8}(h:∀r,s≠45::r):Lib.trimPrefix s [45]=s/\Lib.hasPrefix s [45]=false:=by
 have e:Lib.hasPrefix s [45]=false:=by
  unfold Lib.hasPrefix
  match s,h with
  |[],_=>rfl
  | b::r,h=>
    have hb:b≠45:=λe=>h r (by rw[e])
    simp[List.isPrefixOf,Ne.symm hb]
 exact⟨by rw[Lib.trimPrefix,e];rfl,e⟩
theorem a7v {s:List UInt8}(h:∀r,s≠45::r):K7 s=w7 s:=by
 unfold K7
 split
 . exact absurd rfl (h _)
 . rfl
theorem b7V (s:List UInt8)(hs:s.length<=maxLen):Meets Tryz.prog 47 [.str s] λd=>d=bD (K7 s):=by
 have hc:=a9l s [45] hs
 by_cases h:∃r,s=45::r
 . obtain⟨r,rfl⟩:=h
   rw[(a5b r).1,(a5b r).2] at hc
   refine enter tok {} Tryz.func47 rfl (by kernel_rfl) Tryz.ntmps47 (by simp) λB0 W0 V0 lent g0=>?_
   refine Kw ?_
   repeat'((first|(intro hlq;try simp only[SL] at hlq)|refine Meets.k (hc) ?_|refine Meets.k (a7x r) ?_|refine K9 ?_|((refine Kh (λhb=>?_) λhb=>?_)<;>try simp only[BL] at hb)|refine K8 ?_)<;>refine Kw ?_)
   all_goals (refine⟨congrArg bD ?_⟩;simp_all [K7])
 . have h:∀r,s≠45::r:=λr e=>h ⟨r,e⟩
   rw[(a5c h).1,(a5c h).2] at hc
   refine enter tok {} Tryz.func47 rfl (by kernel_rfl) Tryz.ntmps47 (by simp) λB0 W0 V0 lent g0=>?_
   refine Kw ?_
   repeat'((first|(intro hlq;try simp only[SL] at hlq)|refine Meets.k (hc) ?_|refine Meets.k (a7x s) ?_|refine K9 ?_|((refine Kh (λhb=>?_) λhb=>?_)<;>try simp only[BL] at hb)|refine K8 ?_)<;>refine Kw ?_)
   all_goals (rw[a7v h];first|(exact absurd (by assumption:false=true) (by decide))|(refine⟨congrArg bD ?_⟩;simp_all;done))
end Go.Proofs.YtaopegkpjhkooaaGreatDoor.Dx
/- strings.Cut,strconv.Atoi by the shelf's contracts. -/
namespace Go.Proofs.YtaopegkpjhkooaaGreatDoor.Dx
open Go Go.RowKit Go.Proofs Go.Sort
set_option maxRecDepth 100000
set_option maxHeartbeats 8000000
theorem Meets.below {P:Program}{f:FuncId}{ds:List D}{d:D}(hf:R2 P f)
 (h:∀V W xs,Sees V W->Reps V xs ds->Calls P f xs.toArray W λe W'=>∃v,e= .returned v/\Below W.heap.size W W'/\Rep V v d):Meets P f ds λr=>r=d:=by
 refine⟨⟨hf,λγ V W xs h1 h2 h3 h4=>?_⟩⟩
 have hr:Reps V xs ds:=by
  refine⟨by have:=h2.len;simpa using this.symm,λi u d h5 h6=>?_⟩
  exact h2.get i (.d d) u (by simp[h6]) h5
 refine(h V W xs h1 hr).mono ?_
 rintro e W' ⟨v,rfl,hb,hv⟩
 exact⟨γ,V, .ret (.d d),[],hv, .of hb, .refl _ _ _,h1.below hb,λn b h=>(by rw[o6] at h;cases h),λn b h=>(by rw[o6] at h;cases h),λn n' b b' h=>(by rw[o6] at h;cases h),
  λ_ _ _ _=>rfl,d,rfl,rfl,rfl⟩
theorem b6s (s sep:List UInt8):(Lib.cut s sep).1.length<=s.length/\(Lib.cut s sep).2.1.length<=s.length:=by
 unfold Lib.cut
 split
 . simp
   omega
 . simp
theorem c3z {V:Know}{x y z:Value}{d e f:D}(h:Rep V x d)(k:Rep V y e)(l:Rep V z f):Rep V (.tuple #[x,y,z]) (.tup [d,e,f]):=by
 refine .tup [x,y,z] [d,e,f] rfl λi u c hu hc=>?_
 match i with
 |0=>simp at hu hc;subst hu hc;exact h
 |1=>simp at hu hc;subst hu hc;exact k
 |2=>simp at hu hc;subst hu hc;exact l
 |i+3=>simp at hu
theorem b6P (w:World)(n:Nat):Below w.heap.size w (w.drewN n):=⟨rfl,rfl,rfl,Nat.le_refl _,λ_ _=>rfl⟩
theorem a9V (w:World)(e:TypeId)(s:ByteArray):Below w.heap.size w (Lib.bytesWorld w e s):=
 ⟨rfl,rfl,rfl,by rw[Lib.bytesWorld_size];omega,λj hj=>Lib.bytesWorld_at_old w e s j hj⟩
theorem b4i (s sep:List UInt8)(hs:s.length<4294967281):Meets Tryz.prog 130 [.str s, .str sep] λd=>d= .tup [.str (Lib.cut s sep).1, .str (Lib.cut s sep).2.1,bD (Lib.cut s sep).2.2]:=by
 refine Meets.below ⟨Tryz.f130,_,Tryz.func130,rfl,by kernel_rfl⟩ λV W xs hS hx=>?_
 obtain⟨u,w,rfl,h1,h2⟩:=hx.two
 obtain⟨rfl,_⟩:=h1.str_inv
 obtain⟨rfl,_⟩:=h2.str_inv
 obtain⟨m,hm⟩:=hS.lib.maxLen
 refine(Tryz.strings_Cut ⟨⟨s⟩⟩ ⟨⟨sep⟩⟩ m W hs (hS.cell _ _ _ hm)).mono ?_
 rintro e W' ⟨rfl,n,rfl⟩
 have hl:=b6s s sep
 have hm:s.length<=maxLen:=by unfold maxLen;omega
 exact⟨_,rfl,b6P W n,c3z (.str _ (Nat.le_trans hl.1 hm)) (.str _ (Nat.le_trans hl.2 hm)) (.b _)⟩
theorem a6z (s:List UInt8)(n:Int)(hs:s.length<=18)(h:Lib.atoi s=some n)(hn:p0 .i64 n):Meets Tryz.prog 125 [.str s] λd=>d= .tup [iD n, .v .nilIface]:=by
 refine Meets.below ⟨Tryz.f125,_,Tryz.func125,rfl,by kernel_rfl⟩ λV W xs hS hx=>?_
 obtain⟨u,hu⟩:∃u,xs=[u]:=by
  have:=hx.len
  match xs,this with
  |[u],_=>exact⟨u,rfl⟩
 subst hu
 obtain⟨rfl,_⟩:=(hx.get 0 _ _ rfl rfl).str_inv
 refine(Tryz.strconv_Atoi ⟨⟨s⟩⟩ n hs h W).mono ?_
 rintro e W' ⟨rfl,t,rfl⟩
 exact⟨_,rfl,a9V W 5 t,a2R (Rep.int hn) (.v _ ⟨rfl,λ_ _ e=>by cases e⟩)⟩
end Go.Proofs.YtaopegkpjhkooaaGreatDoor.Dx
/- strings.Split by the shelf's contract. -/
namespace Go.Proofs.YtaopegkpjhkooaaGreatDoor.Dx
open Go Go.RowKit Go.Proofs Go.Sort
set_option maxRecDepth 100000
set_option maxHeartbeats 8000000
theorem b3j (sep:ByteArray)(save:Nat):∀(k:Nat) (s:ByteArray),∀x∈Lib.splitB sep save k s,x.size<=s.size
 | 0,s,x,hx=>by
   rw[Lib.splitB_zero,List.mem_singleton] at hx;rw[hx];exact Nat.le_refl _
 | k + 1,s,x,hx=>by
   unfold Lib.splitB at hx
   split at hx
   . rw[List.mem_singleton] at hx;rw[hx];exact Nat.le_refl _
   . rcases List.mem_cons.1 hx with rfl|hx
     . simp only[ByteArray.size_extract];omega
     . have:=b3j sep save k _ x hx
       simp only[ByteArray.size_extract] at this;omega
def R0 (s sep:List UInt8):List (List UInt8):=(Lib.splitB ⟨⟨sep⟩⟩ 0 (Lib.countB ⟨⟨s⟩⟩ ⟨⟨sep⟩⟩) ⟨⟨s⟩⟩).map (·.data.toList)
theorem b4R (s sep:List UInt8)(hs:s.length<4294967281)(hp:1<=sep.length):Meets Tryz.prog 131 [.str s, .str sep] λd=>d= .sl ((R0 s sep).map J1):=by
 refine⟨⟨⟨Tryz.f131,_,Tryz.func131,rfl,by kernel_rfl⟩,λγ V W xs h1 h2 h3 h4=>?_⟩⟩
 have hx:Reps V xs [.str s, .str sep]:=by
  refine⟨by have:=h2.len;simpa using this.symm,λi u d h5 h6=>?_⟩
  exact h2.get i (.d d) u (by rw[List.getElem?_map,h6];rfl) h5
 obtain⟨u,w,rfl,k1,k2⟩:=hx.two
 obtain⟨rfl,_⟩:=k1.str_inv
 obtain⟨rfl,_⟩:=k2.str_inv
 obtain⟨m,hm⟩:=h1.lib.maxLen
 refine(Tryz.strings_Split ⟨⟨s⟩⟩ ⟨⟨sep⟩⟩ m W hs (h1.cell _ _ _ hm) hp).mono ?_
 rintro e W' ⟨rfl,rfl⟩
 have hl:=Lib.splitB_all ⟨⟨sep⟩⟩ hp 0 (Lib.countB ⟨⟨s⟩⟩ ⟨⟨sep⟩⟩) ⟨⟨s⟩⟩ rfl
 have hcb:Lib.countB ⟨⟨s⟩⟩ ⟨⟨sep⟩⟩<=s.length:=Lib.countB_le ⟨⟨sep⟩⟩ hp _ ⟨⟨s⟩⟩ (Nat.le_refl _)
 have hle:=b3j ⟨⟨sep⟩⟩ 0 (Lib.countB ⟨⟨s⟩⟩ ⟨⟨sep⟩⟩) ⟨⟨s⟩⟩
 unfold R0
 generalize Lib.splitB ⟨⟨sep⟩⟩ 0 (Lib.countB ⟨⟨s⟩⟩ ⟨⟨sep⟩⟩) ⟨⟨s⟩⟩=ps at *
 generalize Lib.countB ⟨⟨s⟩⟩ ⟨⟨sep⟩⟩=k at *
 have hg:=b3W h1 (ps.map Value.string) 9
 have hk:k+1<=maxLen:=by unfold maxLen;omega
 have hrep:∀(V':Know) (ps:List ByteArray),(∀x∈ps,x.size<=maxLen)->Reps V' (ps.map Value.string) ((ps.map (·.data.toList)).map J1).flatten:=by
  intro V' ps
  induction ps with
  |nil=>intro _;exact .nil _
  |cons x ps ih=>intro h;exact .cons (.str _ (h x (by simp))) (ih λy hy=>h y (by simp[hy]))
 have hsz:s.length<=maxLen:=by unfold maxLen;omega
 refine⟨γ,_, .ret (.d (.sl ((ps.map (·.data.toList)).map J1))),[],?_, .of hg.below,hg.fresh,hg.sees,λn b h=>(by rw[o6] at h;cases h),λn b h=>(by rw[o6] at h;cases h),λn n' b b' h=>(by rw[o6] at h;cases h),
  λ_ _ _ _=>rfl,_,rfl,rfl,rfl⟩
 refine a5P (k:=1) (by simp[hl]) (Nat.le_refl _) hk (λds hds=>by obtain⟨x,_,rfl⟩:=List.mem_map.1 hds;rfl) (hrep _ ps λx hx=>Nat.le_trans (hle x hx) hsz) (λu hu=>by obtain⟨x,_,rfl⟩:=List.mem_map.1 hu;rfl) (λj u hj=>?_)
 show(if W.heap.size=W.heap.size then _ else _)=some u
 rw[if_pos rfl];exact hj
end Go.Proofs.YtaopegkpjhkooaaGreatDoor.Dx
