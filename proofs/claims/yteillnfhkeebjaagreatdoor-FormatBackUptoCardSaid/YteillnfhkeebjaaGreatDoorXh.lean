/- Integers. -/
import Derived.Test.YteillnfhkeebjaaGreatDoorWz
import Derived.Lib.SplitLaws
set_option linter.all false
namespace Go.Proofs.YteillnfhkeebjaaGreatDoor.Dx
open Go Go.RowKit Go.Proofs
set_option maxRecDepth 100000
set_option maxHeartbeats 8000000
abbrev qB (b:Bool):Base:= .d (.bl b)
def Q3 (f:Nat->Bool):List Base:=(List.range 256).map λb=>qB (f b)
def R1 (f:Nat->Bool):List D:=(List.range 256).map λb=>bD (f b)
theorem a6H (f:Nat->Bool):(Q3 f).length=256:=by simp[Q3]
theorem b4q (f:Nat->Bool):(R1 f).length=256:=by simp[R1]
theorem d3i {f g:Nat->Bool}{i:Nat}{v:Bool}(hi:i<256)(h:∀b,b<256->g b=if b=i then v else f b):(Q3 f).set i (qB v)=Q3 g:=by
 apply O0;intro b;simp only[Q3,a7f,o9,List.length_range,z7];by_cases hb:b<256
 . rw[List.getElem?_range hb];simp only[G9];rw[h b hb];by_cases e:i=b
   . subst e;simp[hi]
   . rw[c8 e,c8 (Ne.symm e)]
 . rw[c8 (by omega),z6 (by simp;omega)];rfl
theorem d3j (O:List (Nat×Blk))(f:Nat->Bool):D8 O (Q3 f)=some (R1 f):=by
 unfold Q3 R1;generalize List.range 256=l;induction l with
 |nil=>rfl
 |cons x l ih=>simp only[o5,D8,ih];rfl
theorem d3k (O:List (Nat×Blk))(f:Nat->Bool):D8 O (((Q3 f).drop 0).take 256)=some (R1 f):=by
 rw[List.drop_zero,y6 (by rw[a6H];decide),d3j]
def a2W (f:Nat->Bool):List Base:=(List.range 256).map λb=> .d (bD (f b))
theorem a8F (f:Nat->Bool):(a2W f).length=256:=by simp[a2W]
theorem d3l (O:List (Nat×Blk))(f:Nat->Bool):D8 O (a2W f)=some (R1 f):=by
 unfold a2W R1;generalize List.range 256=l;induction l with
 |nil=>rfl
 |cons x l ih=>simp only[o5,D8,ih];rfl
theorem d3m (O:List (Nat×Blk))(f:Nat->Bool):D8 O (((a2W f).drop 0).take 256)=some (R1 f):=by
 rw[List.drop_zero,y6 (by rw[a8F];decide),d3l]
theorem d3g (f:Nat->Bool){i:Nat}(h:i<256):∃r,(R1 f).drop i=bD (f i)::r:=by
 refine⟨(R1 f).drop (i+1),?_⟩;rw[F2 (by rw[b4q];exact h)];simp[R1]
theorem b5G (O:List (Nat×Blk))(f:Nat->Bool):a3r O (Q3 f) (Q3 f):=by
 unfold Q3;generalize List.range 256=l;induction l with
 |nil=>trivial
 |cons x l ih=>exact⟨rfl,ih⟩
abbrev tenL:List UInt8:=[48,49,50,51,52,53,54,55,56,57]
def M1 (i:Nat)(b:Nat):Bool:=(tenL.take i).any λc=>decide (c.toNat=b)
theorem d3s {i:Nat}(h:i<tenL.length)(b:Nat):M1 (i+1) b=if b=tenL[i].toNat then true else M1 i b:=by
 rw[M1,L1 h,List.any_append];by_cases e:b=tenL[i].toNat
 . rw[d4 e];simp[e]
 . rw[c8 e];simp only[List.any_cons,List.any_nil,Bool.or_false,D5 (Ne.symm e)];rfl
theorem c9c:Mt 210 [.str tenL] λd=>d= .tup [.agg (R1 (M1 10)),bD true]:=by
 have hten:∀x∈tenL,x.toNat<128:=by decide
 refine En {sym:=[2]} Tryz.func210 Tryz.ntmps210 λ_ _ _ _ _=>?_;refine Kv {sym:=[2]} ?_;refine b5q 2 (Q3 (M1 0)) ?_;conv=>whnf
 refine⟨by kernel_rfl,?_⟩;conv=>whnf
 refine o4 tok {sym:=[2]} [] (X:=Nat) (λi=>[(4,iB i)]) (λi=>[(2, .box (Q3 (M1 i)) 273)]) [5] (λi=>i<=tenL.length) (λi=>tenL.length-i) 0 ?_;refine Kv {sym:=[2]} ?_;refine d8 ?_ ⟨by decide,λk hk=>?_⟩
 . repeat'(first|exact b5G _ _|exact d9|exact rfl|refine d8 ?_ ?_)
 refine Kv {sym:=[2]} ?_;repeat'((first|(intro hlq;try simp only[SL] at hlq)|refine K9 ?_|refine K8 ?_)<;>refine Kv {sym:=[2]} ?_)
 refine⟨λh1=>?_,λh1=>?_⟩<;>(try simp only[BL] at h1)<;>refine Kv {sym:=[2]} ?_
 . have h1':k<tenL.length:=by simp only[tenL,i7,j8] at h1⊢;omega
   have hb:=hten _ (q7 h1');refine⟨_,⟨by omega,by rw[U4,t6 h1']⟩,?_⟩;refine Kv {sym:=[2]} ?_;refine⟨λh2=>?_,λh2=>?_⟩<;>(try simp only[BL] at h2)<;>refine Kv {sym:=[2]} ?_
   . omega
   repeat'((first|(intro hlq;try simp only[SL] at hlq)|refine K9 ?_|refine K8 ?_)<;>refine Kv {sym:=[2]} ?_)
   refine⟨by dsimp only;rw[a6H];omega,?_⟩;refine Kv {sym:=[2]} ?_;repeat'((first|(intro hlq;try simp only[SL] at hlq)|refine K9 ?_|refine K8 ?_)<;>refine Kv {sym:=[2]} ?_)
   have e1:(Q3 (M1 k)).set (0+(tenL[k].toNat:Int).toNat *1) (qB true)=Q3 (M1 (k+1)):=by
    refine d3i (by omega) λb hb=>?_;rw[d3s h1',show 0+(tenL[k].toNat:Int).toNat *1=tenL[k].toNat by omega]
   rw[e1];refine⟨⟨k+1,?_,by omega,by omega⟩⟩;repeat'(first|exact b5G _ _|exact d9|exact rfl|refine d8 ?_ ?_)
 . obtain rfl:k=10:=by simp only[tenL,i7,j8] at h1 hk;omega
   refine⟨R1 (M1 10),⟨d3k _ _,b4q _⟩,?_⟩;refine Kv {sym:=[2]} ?_;show 0+(a2W (M1 10)).length<=(Q3 (M1 10)).length/\M0 _ (Blk.box (setRun (Q3 (M1 10)) 0 (a2W (M1 10))) 273) _ _;rw[b3V (by rw[a6H,a8F])];refine⟨by rw[a6H,a8F];decide,?_⟩;refine Kv {sym:=[2]} ?_;refine⟨R1 (M1 10),⟨d3m _ _,b4q _⟩,?_⟩;refine Kv {sym:=[2]} ?_;exact⟨rfl⟩
theorem b5J (f:Nat->Bool)(b:UInt8):Mt 259 [.ptr (R1 f) 0, .v (.int .u8 (b.toNat:Int))] λd=>d=bD (f b.toNat):=by
 have hb:=b.toNat_lt;obtain⟨r,hr⟩:=d3g f (i:=b.toNat) (by omega);refine En {} Tryz.func259 Tryz.ntmps259 λ_ _ _ _ _=>?_;refine Kw ?_;refine⟨by omega,?_⟩;refine Kw ?_;generalize hE:List.drop _ _=E;have h:E=bD (f b.toNat)::r:=by
  rw[<-hE,<-hr];exact d6 (λk=>List.drop k (R1 f)) (by dsimp only;omega)
 clear hE;subst h;refine Kw ?_;exact⟨rfl⟩
def a1Z (p:UInt8->Bool)(s:List UInt8):List UInt8:=(s.reverse.dropWhile p).reverse
theorem b2n (p:UInt8->Bool)(b:UInt8)(x:List UInt8):(b::x).dropWhile p=if p b then x.dropWhile p else b::x:=by rw[a5z]
theorem d3Y (p:UInt8->Bool)(b:UInt8)(x:List UInt8):a1Z p (x++[b])=if p b then a1Z p x else x++[b]:=by
 rw[a1Z,List.reverse_append,List.reverse_singleton,a4k,b2n];split
 . rfl
 . simp
theorem d3W (f:Nat->Bool)(s:List UInt8):Mt 306 [.str s, .ptr (R1 f) 0] λd=>d= .str (s.dropWhile λb=>f b.toNat):=by
 refine En {} Tryz.func306 Tryz.ntmps306 λ_ _ _ _ _=>?_;refine Kw ?_;refine o4 tok {} [] (X:=List UInt8) (λx=>[(0, .d (.str x))]) (λ_=>[]) [] (λx=>x.dropWhile (λb=>f b.toNat)=s.dropWhile (λb=>f b.toNat)) (λx=>x.length) s ?_;refine Kw ?_;refine d8 ?_ ⟨rfl,λx hx=>?_⟩
 . exact Kr
 refine Kw ?_;repeat'((first|(intro hlq;try simp only[SL] at hlq)|refine K9 ?_|refine K8 ?_)<;>refine Kw ?_)
 refine⟨λh1=>?_,λh1=>?_⟩<;>(try simp only[BL] at h1)<;>refine Kw ?_
 . match x,hx with
   |[],_=>simp at h1
   | b ::x,hx=>
     rw[b2n] at hx;refine⟨b,⟨by omega,rfl⟩,?_⟩;refine Kw ?_;refine Meets.k (b5J f b) ?_;refine Kw ?_;refine⟨λh2=>?_,λh2=>?_⟩<;>(try simp only[BL] at h2)<;>refine Kw ?_
     . rw[h2] at hx;refine⟨?_⟩;rw[<-hx];rfl
     . rw[h2,d4 rfl] at hx;repeat'((first|(intro hlq;try simp only[SL] at hlq)|refine K9 ?_|refine K8 ?_)<;>refine Kw ?_)
       refine⟨⟨x,?_,hx,by simp⟩⟩;repeat'(first|exact d9|exact rfl|refine d8 ?_ ?_|(refine d6 D.str ?_;simp[n9];done))
 . match x,hx with
   |[],hx=>exact⟨by rw[<-hx];rfl⟩
   |b::x,_=>simp at h1
theorem d3Z (f:Nat->Bool)(s:List UInt8):Mt 211 [.str s, .ptr (R1 f) 0] λd=>d= .str (a1Z (λb=>f b.toNat) s):=by
 refine En {} Tryz.func211 Tryz.ntmps211 λ_ _ _ _ _=>?_;refine Kw ?_;refine o4 tok {} [] (X:=List UInt8) (λx=>[(0, .d (.str x))]) (λ_=>[]) [] (λx=>a1Z (λb=>f b.toNat) x=a1Z (λb=>f b.toNat) s) (λx=>x.length) s ?_;refine Kw ?_;refine d8 ?_ ⟨rfl,λx hx=>?_⟩
 . exact Kr
 refine Kw ?_;repeat'((first|(intro hlq;try simp only[SL] at hlq)|refine K9 ?_|refine K8 ?_)<;>refine Kw ?_)
 rcases List.eq_nil_or_concat x with rfl|⟨x,b,rfl⟩
 . refine⟨λh1=>?_,λh1=>?_⟩<;>(try simp only[BL] at h1)<;>refine Kw ?_
   . simp at h1
   . exact⟨by rw[<-hx];rfl⟩
 rw[List.concat_eq_append] at hx⊢;rw[d3Y] at hx;refine⟨λh1=>?_,λh1=>?_⟩<;>(try simp only[BL] at h1)<;>refine Kw ?_
 . repeat' ((first|(intro hlq;try simp only[SL] at hlq)|refine K9 ?_|refine K8 ?_)<;>refine Kw ?_)
   refine⟨b,⟨by simp only[j6,i7,j8];omega,by simp⟩,?_⟩;refine Kw ?_;refine Meets.k (b5J f b) ?_;refine Kw ?_;refine⟨λh2=>?_,λh2=>?_⟩<;>(try simp only[BL] at h2)<;>refine Kw ?_
   . rw[h2] at hx;refine⟨?_⟩;rw[<-hx];rfl
   . rw[h2,d4 rfl] at hx;repeat'((first|(intro hlq;try simp only[SL] at hlq)|refine K9 ?_|refine K8 ?_)<;>refine Kw ?_)
     refine⟨⟨x,?_,hx,by simp⟩⟩;have e:(((x++[b]).length:Int)-1).toNat=x.length:=by simp
     rw[e];repeat'(first|exact d9|exact rfl|refine d8 ?_ ?_|(refine d6 D.str ?_;simp[n9];done))
 . simp at h1
def p4 (b:UInt8):Bool:=decide (48<=(b.toNat:Int))&&decide ((b.toNat:Int)<=57)
theorem d3t (b:UInt8):M1 10 b.toNat=p4 b:=by
 have h:∀n:Fin 256,M1 10 n.1=(decide (48<=(n.1:Int))&&decide ((n.1:Int)<=57)):=by decide+kernel
 exact h ⟨b.toNat,b.toNat_lt⟩
theorem c2M (s:List UInt8):Mt 290 [.str s, .str tenL] λd=>d= .str ((a1Z p4 s).dropWhile p4):=by
 have e:(λb:UInt8=>M1 10 b.toNat)=p4:=funext d3t;have hR:=d3Z (M1 10) s;have hL:=d3W (M1 10) (a1Z p4 s);rw[e] at hR hL;refine En {sym:=[5]} Tryz.func290 Tryz.ntmps290 λ_ _ _ _ _=>?_;refine Kv {sym:=[5]} ?_;repeat'((first|(intro hlq;try simp only[SL] at hlq)|refine Meets.k (c9c) ?_|refine K9 ?_|((refine Kh (λhb=>?_) λhb=>?_)<;>try simp only[BL] at hb)|refine K8 ?_)<;>refine Kv {sym:=[5]} ?_)
 . subst hb;exact⟨rfl⟩
 . cases hb
 . exact absurd (by assumption:(tenL.length:Int)=1) (by decide)
 . exact absurd (by assumption:(tenL.length:Int)=1) (by decide)
 show 0+(a2W (M1 10)).length<=(Q3 (λ_=>false)).length/\M0 _ (Blk.box (setRun (Q3 (λ_=>false)) 0 (a2W (M1 10))) 273) _ _;rw[b3V (by rw[a6H,a8F])];refine⟨by rw[a6H,a8F];decide,?_⟩;refine Kv {sym:=[5]} ?_;repeat'((first|(intro hlq;try simp only[SL] at hlq)|refine Meets.k (hR) ?_|refine Meets.k (hL) ?_|refine K9 ?_|((refine Kh (λhb=>?_) λhb=>?_)<;>try simp only[BL] at hb)|refine K8 ?_)<;>refine Kv {sym:=[5]} ?_)
 . exact⟨rfl⟩
 . cases hb
theorem d4a (s:List UInt8):(a1Z p4 s).dropWhile p4=[]↔s.all p4=true:=by
 have dw:∀(p:UInt8->Bool) (l:List UInt8),l.dropWhile p=[]↔∀x∈l,p x=true:=by
  intro p l;induction l with
  |nil=>simp
  | cons b l ih=>
    rw[b2n];by_cases h:p b=true
    . rw[d4 h,ih];simp[h]
    . rw[c8 h];simp[h]
 have split:s=a1Z p4 s++(s.reverse.takeWhile p4).reverse:=by
  have:=List.takeWhile_append_dropWhile (p:=p4) (l:=s.reverse);have h2:=d6 List.reverse this;rw[List.reverse_append,List.reverse_reverse] at h2;exact h2.symm
 have tail:∀x∈(s.reverse.takeWhile p4).reverse,p4 x=true:=by
  intro x hx;rw[List.mem_reverse] at hx;exact n7.1 (List.all_takeWhile (p:=p4) (l:=s.reverse)) x hx
 rw[dw,n7];constructor
 . intro h x hx;rw[split,A8] at hx;exact hx.elim (h x) (tail x)
 . intro h x hx;exact h x (by rw[split,A8];exact .inl hx)
def G0 (s:List UInt8)(lo hi:Int):Bool:=decide ((s.length:Int)≥lo)&&(decide ((s.length:Int)<=hi)&&s.all p4)
theorem b2k (s:List UInt8)(lo hi:Int):Mt 269 [.str s,iD lo,iD hi] λd=>d=bD (G0 s lo hi):=by
 refine En {} Tryz.func269 Tryz.ntmps269 λ_ _ _ _ _=>?_;refine Kw ?_;repeat'((first|(intro hlq;try simp only[SL] at hlq)|refine Meets.k (c2M s) ?_|refine K9 ?_|((refine Kh (λhb=>?_) λhb=>?_)<;>try simp only[BL] at hb)|refine K8 ?_)<;>refine Kw ?_)
 all_goals
  refine⟨d6 bD ?_⟩;try rw[G8]
  simp only[G0,<-d4a,f0,j0,Y8,false_iff];first
   |(simp_all;done)
   |(intro h;have:=h.1;have:=h.2.1;omega)
def E4 (s:List UInt8):Bool:=G0 s 1 18&&(decide (s=[48])||decide (s.head?≠some 48))
theorem b2Q (s:List UInt8):Mt 264 [.str s] λd=>d=bD (E4 s):=by
 have hd:=b2k s 1 18;rcases s with _|⟨b,r⟩
 . rw[show G0 [] 1 18=false from rfl] at hd;refine En {} Tryz.func264 Tryz.ntmps264 λ_ _ _ _ _=>?_;refine Kw ?_;repeat'((first|(intro hlq;try simp only[SL] at hlq)|refine Meets.k (hd) ?_|refine K9 ?_|((refine Kh (λhb=>?_) λhb=>?_)<;>try simp only[BL] at hb)|refine K8 ?_)<;>refine Kw ?_)
   all_goals first|exact absurd (by assumption:false=true) (by decide)|exact⟨rfl⟩
 . have h48:(b=48)=((b.toNat:Int)=48):=by
    rw[<-a5L];exact propext ⟨λh=>by rw[h];rfl,λh=>by have:(48:UInt8).toNat=48:=rfl;omega⟩
   refine En {} Tryz.func264 Tryz.ntmps264 λ_ _ _ _ _=>?_;refine Kw ?_;repeat'((first|(intro hlq;try simp only[SL] at hlq)|refine Meets.k (hd) ?_|refine⟨b,⟨by omega,rfl⟩,?_⟩|refine K9 ?_|((refine Kh (λhb=>?_) λhb=>?_)<;>try simp only[BL] at hb)|refine K8 ?_)<;>refine Kw ?_)
   all_goals
    refine⟨d6 bD ?_⟩;simp only[E4,List.head?_cons,H0,h48,ne_eq];simp_all
def Y1 (s:List UInt8):Bool:=match s with|45::r=>E4 r&& !decide (r=[48])|s=>E4 s
theorem a6K {V:Know}{x y:Value}{d e:D}(h:Rep V x d)(k:Rep V y e):Rep V (.tuple #[x,y]) (.tup [d,e]):=by
 refine .tup [x,y] [d,e] rfl λi u c hu hc=>?_;match i with
 |0=>simp at hu hc;subst hu hc;exact h
 |1=>simp at hu hc;subst hu hc;exact k
 |i+2=>simp at hu
theorem d3X (s p:List UInt8):(Lib.trimPrefix s p).length<=s.length:=by
 unfold Lib.trimPrefix;split
 . simp
 . exact p0 _
theorem b5g (s p:List UInt8)(hs:s.length<=maxLen):Mt 263 [.str s, .str p] λd=>d= .tup [.str (Lib.trimPrefix s p),bD (Lib.hasPrefix s p)]:=by
 refine a9g ⟨Tryz.f263,_,Tryz.func263,rfl,by kernel_rfl⟩ λV W xs hS hx=>?_;obtain⟨u,w,rfl,h1,h2⟩:=hx.two;obtain⟨rfl,_⟩:=h1.str_inv;obtain⟨rfl,_⟩:=h2.str_inv;refine(Tryz.strings_CutPrefix ⟨⟨s⟩⟩ ⟨⟨p⟩⟩ W).mono ?_;rintro e W' ⟨rfl,rfl⟩;refine⟨_,rfl,rfl,?_⟩;exact a6K (.str _ (H8 (d3X s p) hs)) (.b _)
theorem a9H (r:List UInt8):Lib.trimPrefix (45::r) [45]=r/\Lib.hasPrefix (45::r) [45]=true:=by
 simp[Lib.trimPrefix,Lib.hasPrefix,List.isPrefixOf]
theorem a9I {s:List UInt8}(h:∀r,s≠45::r):Lib.trimPrefix s [45]=s/\Lib.hasPrefix s [45]=false:=by
 have e:Lib.hasPrefix s [45]=false:=by
  unfold Lib.hasPrefix;match s,h with
  |[],_=>rfl
  | b::r,h=>
    have hb:b≠45:=λe=>h r (by rw[e]);simp[List.isPrefixOf,Ne.symm hb]
 exact⟨by rw[Lib.trimPrefix,e];rfl,e⟩
theorem b2N {s:List UInt8}(h:∀r,s≠45::r):Y1 s=E4 s:=by
 unfold Y1;split
 . exact absurd rfl (h _)
 . rfl
theorem c7y (s:List UInt8)(hs:s.length<=maxLen):Mt 230 [.str s] λd=>d=bD (Y1 s):=by
 have hc:=b5g s [45] hs;by_cases h:∃r,s=45::r
 . obtain⟨r,rfl⟩:=h;rw[(a9H r).1,(a9H r).2] at hc;refine En {} Tryz.func230 Tryz.ntmps230 λ_ _ _ _ _=>?_;refine Kw ?_;repeat'((first|(intro hlq;try simp only[SL] at hlq)|refine Meets.k (hc) ?_|refine Meets.k (b2Q r) ?_|refine K9 ?_|((refine Kh (λhb=>?_) λhb=>?_)<;>try simp only[BL] at hb)|refine K8 ?_)<;>refine Kw ?_)
   all_goals (refine⟨d6 bD ?_⟩;simp_all [Y1])
 . have h:∀r,s≠45::r:=λr e=>h ⟨r,e⟩;rw[(a9I h).1,(a9I h).2] at hc;refine En {} Tryz.func230 Tryz.ntmps230 λ_ _ _ _ _=>?_;refine Kw ?_;repeat'((first|(intro hlq;try simp only[SL] at hlq)|refine Meets.k (hc) ?_|refine Meets.k (b2Q s) ?_|refine K9 ?_|((refine Kh (λhb=>?_) λhb=>?_)<;>try simp only[BL] at hb)|refine K8 ?_)<;>refine Kw ?_)
   all_goals (rw[b2N h];first|(exact absurd (by assumption:false=true) (by decide))|(refine⟨d6 bD ?_⟩;simp_all;done))
open Go.Sort
theorem Meets.below {P:Program}{f:FuncId}{ds:List D}{d:D}(hf:a0T P f)
 (h:∀V W xs,Sees V W->Reps V xs ds->Calls P f xs.toArray W λe W'=>∃v,e= .returned v/\Below W.heap.size W W'/\Rep V v d):Meets P f ds λr=>r=d:=by
 refine⟨⟨hf,λγ V W xs h1 h2 h3 h4=>?_⟩⟩;have hr:Reps V xs ds:=by
  refine⟨by have:=h2.len;simpa using this.symm,λi u d h5 h6=>?_⟩;exact h2.get i (.d d) u (by simp[h6]) h5
 refine(h V W xs h1 hr).mono ?_;rintro e W' ⟨v,rfl,hb,hv⟩;exact⟨γ,V, .ret (.d d),[],hv, .of hb, .refl _ _ _,h1.below hb,λn b h=>(by rw[r7] at h;cases h),λn b h=>(by rw[r7] at h;cases h),λn n' b b' h=>(by rw[r7] at h;cases h),
  λ_ _ _ _=>rfl,d,rfl,rfl,rfl⟩
theorem c5d (s sep:List UInt8):(Lib.cut s sep).1.length<=s.length/\(Lib.cut s sep).2.1.length<=s.length:=by
 unfold Lib.cut;split
 . simp;omega
 . simp
theorem d4i {V:Know}{x y z:Value}{d e f:D}(h:Rep V x d)(k:Rep V y e)(l:Rep V z f):Rep V (.tuple #[x,y,z]) (.tup [d,e,f]):=by
 refine .tup [x,y,z] [d,e,f] rfl λi u c hu hc=>?_;match i with
 |0=>simp at hu hc;subst hu hc;exact h
 |1=>simp at hu hc;subst hu hc;exact k
 |2=>simp at hu hc;subst hu hc;exact l
 |i+3=>simp at hu
theorem c5H (w:World)(n:Nat):Below w.heap.size w (w.drewN n):=⟨rfl,rfl,rfl,p0 _,λ_ _=>rfl⟩
theorem b6g (w:World)(e:TypeId)(s:ByteArray):Below w.heap.size w (Lib.bytesWorld w e s):=
 ⟨rfl,rfl,rfl,by rw[Lib.bytesWorld_size];omega,λj hj=>Lib.bytesWorld_at_old w e s j hj⟩
theorem c1I (s sep:List UInt8)(hs:s.length<4294967281):Mt 267 [.str s, .str sep] λd=>d= .tup [.str (Lib.cut s sep).1, .str (Lib.cut s sep).2.1,bD (Lib.cut s sep).2.2]:=by
 refine Meets.below ⟨Tryz.f267,_,Tryz.func267,rfl,by kernel_rfl⟩ λV W xs hS hx=>?_;obtain⟨u,w,rfl,h1,h2⟩:=hx.two;obtain⟨rfl,_⟩:=h1.str_inv;obtain⟨rfl,_⟩:=h2.str_inv;obtain⟨m,hm⟩:=hS.lib.maxLen;refine(Tryz.strings_Cut ⟨⟨s⟩⟩ ⟨⟨sep⟩⟩ m W hs (hS.cell _ _ _ hm)).mono ?_;rintro e W' ⟨rfl,n,rfl⟩;have hl:=c5d s sep;have hm:s.length<=maxLen:=by unfold maxLen;omega
 exact⟨_,rfl,c5H W n,d4i (.str _ (H8 hl.1 hm)) (.str _ (H8 hl.2 hm)) (.b _)⟩
theorem b1t (s:List UInt8)(n:Int)(hs:s.length<=18)(h:Lib.atoi s=some n)(hn:w8 .i64 n):Mt 198 [.str s] λd=>d= .tup [iD n, .v .nilIface]:=by
 refine Meets.below ⟨Tryz.f198,_,Tryz.func198,rfl,by kernel_rfl⟩ λV W xs hS hx=>?_;obtain⟨u,hu⟩:∃u,xs=[u]:=by
  have:=hx.len;match xs,this with
  |[u],_=>exact⟨u,rfl⟩
 subst hu;obtain⟨rfl,_⟩:=(hx.get 0 _ _ rfl rfl).str_inv;refine(Tryz.strconv_Atoi ⟨⟨s⟩⟩ n hs h W).mono ?_;rintro e W' ⟨rfl,t,rfl⟩;exact⟨_,rfl,b6g W 5 t,a6K (Rep.int hn) (.v _ ⟨rfl,λ_ _ e=>by cases e⟩)⟩
theorem c0q (sep:ByteArray)(save:Nat):∀(k:Nat) (s:ByteArray),∀x∈Lib.splitB sep save k s,x.size<=s.size
 | 0,s,x,hx=>by
   rw[Lib.splitB_zero,I4] at hx;rw[hx];exact p0 _
 | k + 1,s,x,hx=>by
   unfold Lib.splitB at hx;split at hx
   . rw[I4] at hx;rw[hx];exact p0 _
   . rcases p8.1 hx with rfl|hx
     . simp only[ByteArray.size_extract];omega
     . have:=c0q sep save k _ x hx;simp only[ByteArray.size_extract] at this;omega
def a0Q (s sep:List UInt8):List (List UInt8):=(Lib.splitB ⟨⟨sep⟩⟩ 0 (Lib.countB ⟨⟨s⟩⟩ ⟨⟨sep⟩⟩) ⟨⟨s⟩⟩).map (·.data.toList)
theorem c2G (s sep:List UInt8)(hs:s.length<4294967281)(hp:1<=sep.length):Mt 268 [.str s, .str sep] λd=>d= .sl ((a0Q s sep).map I0):=by
 refine⟨⟨⟨Tryz.f268,_,Tryz.func268,rfl,by kernel_rfl⟩,λγ V W xs h1 h2 h3 h4=>?_⟩⟩;have hx:Reps V xs [.str s, .str sep]:=by
  refine⟨by have:=h2.len;simpa using this.symm,λi u d h5 h6=>?_⟩;exact h2.get i (.d d) u (by rw[z7,h6];rfl) h5
 obtain⟨u,w,rfl,k1,k2⟩:=hx.two;obtain⟨rfl,_⟩:=k1.str_inv;obtain⟨rfl,_⟩:=k2.str_inv;obtain⟨m,hm⟩:=h1.lib.maxLen;refine(Tryz.strings_Split ⟨⟨s⟩⟩ ⟨⟨sep⟩⟩ m W hs (h1.cell _ _ _ hm) hp).mono ?_;rintro e W' ⟨rfl,rfl⟩;have hl:=Lib.splitB_all ⟨⟨sep⟩⟩ hp 0 (Lib.countB ⟨⟨s⟩⟩ ⟨⟨sep⟩⟩) ⟨⟨s⟩⟩ rfl;have hcb:Lib.countB ⟨⟨s⟩⟩ ⟨⟨sep⟩⟩<=s.length:=Lib.countB_le ⟨⟨sep⟩⟩ hp _ ⟨⟨s⟩⟩ (p0 _);have hle:=c0q ⟨⟨sep⟩⟩ 0 (Lib.countB ⟨⟨s⟩⟩ ⟨⟨sep⟩⟩) ⟨⟨s⟩⟩;unfold a0Q;generalize Lib.splitB ⟨⟨sep⟩⟩ 0 (Lib.countB ⟨⟨s⟩⟩ ⟨⟨sep⟩⟩) ⟨⟨s⟩⟩=ps at *;generalize Lib.countB ⟨⟨s⟩⟩ ⟨⟨sep⟩⟩=k at *;have hg:=c1r h1 (ps.map Value.string) 9;have hk:k+1<=maxLen:=by unfold maxLen;omega
 have hrep:∀(V':Know) (ps:List ByteArray),(∀x∈ps,x.size<=maxLen)->Reps V' (ps.map Value.string) ((ps.map (·.data.toList)).map I0).flatten:=by
  intro V' ps;induction ps with
  |nil=>intro _;exact .nil _
  |cons x ps ih=>intro h;exact .cons (.str _ (h x (by simp))) (ih λy hy=>h y (by simp[hy]))
 have hsz:s.length<=maxLen:=by unfold maxLen;omega
 refine⟨γ,_, .ret (.d (.sl ((ps.map (·.data.toList)).map I0))),[],?_, .of hg.below,hg.fresh,hg.sees,λn b h=>(by rw[r7] at h;cases h),λn b h=>(by rw[r7] at h;cases h),λn n' b b' h=>(by rw[r7] at h;cases h),
  λ_ _ _ _=>rfl,_,rfl,rfl,rfl⟩
 refine a8x (k:=1) (by simp[hl]) (p0 _) hk (λds hds=>by obtain⟨x,_,rfl⟩:=v6.1 hds;rfl) (hrep _ ps λx hx=>H8 (hle x hx) hsz) (λu hu=>by obtain⟨x,_,rfl⟩:=v6.1 hu;rfl) (λj u hj=>?_);show(if W.heap.size=W.heap.size then _ else _)=some u;rw[d4 rfl];exact hj
def numN (s:List UInt8):Nat:=s.foldl (λa b=>10*a+(b.toNat-48)) 0
theorem b0z (s:List UInt8)(b:UInt8):numN (s++[b])=10*numN s+(b.toNat-48):=by simp[numN,List.foldl_append]
theorem isDg_iff {b:UInt8}:p4 b=true↔48<=b.toNat/\b.toNat<=57:=by
 simp only[p4,f0,j0];omega
theorem b0y:∀(n:Nat) (s:List UInt8),s.length=n->s.all p4=true->numN s<10^n
 |0,s,h,_=>by rw[C8 h];decide
 | n+1,s,h,hd=>by
   rcases List.eq_nil_or_concat s with rfl|⟨s,b,rfl⟩
   . cases h
   rw[List.concat_eq_append] at *;rw[j6,List.length_singleton] at h;rw[List.all_append,f0] at hd;have ih:=b0y n s (by omega) hd.1;have hb:=isDg_iff.1 (by simpa using hd.2:p4 b=true);rw[b0z,Nat.pow_succ];omega
theorem b9g {s:List UInt8}(hd:s.all p4=true)(hl:s.length<=18):numN s<1000000000000000000:=by
 have h:=b0y _ s rfl hd;have:10^s.length<=10^18:=Nat.pow_le_pow_right (by omega) hl;omega
def F7 (s:List UInt8):Int:=match s with
 |[a,b]=>if p4 a&&(p4 b&&decide ((a.toNat:Int)<=53)) then(numN [a,b]:Nat) else-1
 |_=> -1
def X9 (s:List UInt8):Int:=if decide (1<=s.length)&&(decide (s.length<=6)&&s.all p4) then((numN s*10^(6-s.length):Nat):Int) else-1
def C1 (c:UInt8)(s:List UInt8):List UInt8×List UInt8×Bool:=(s.takeWhile (· !=c),(s.dropWhile (· !=c)).drop 1,s.any (· ==c))
def a2J (colon:Bool)(rest:List UInt8)(t:Int):Option Int:=
 if colon then
  if F7 (C1 58 rest).1<0 then none
  else if(C1 58 rest).2.2 then
   if F7 (C1 58 rest).2.1<0 then none
   else some (60*(60*t+F7 (C1 58 rest).1)+F7 (C1 58 rest).2.1)
  else some (60*t+F7 (C1 58 rest).1)
 else some t
def W7 (s:List UInt8):Option Int:=
 let p:=C1 46 s
 let f:=if p.2.2 then X9 p.2.1 else 0
 let q:=C1 58 p.1
 if E4 q.1=false\/(q.1.length:Int)>13\/f<0\/(q.2.2=false/\p.2.2=false) then none
 else match a2J q.2.2 q.2.1 (numN q.1) with
  |none=>none
  |some t=>if t>1099511627776\/1000000*t+f>1099511627776 then none else some (1000000*t+f)
def I9 (s:List UInt8):Option Int:=
 match s with
 | 45::r=>match W7 r with
   |some v=>if v=0 then none else some (-v)
   |none=>none
 |r=>W7 r
def a5m (s:List UInt8):D:=match I9 s with
 |some v=> .tup [iD v, .v (.int .i64 0)]
 |none=> .tup [iD 0, .v (.int .i64 50)]
theorem c0m (s:List UInt8): -1<=F7 s/\F7 s<60:=by
 unfold F7;split
 . rename_i a b;split
   . rename_i h;simp only[f0,j0] at h;have h1:=isDg_iff.1 h.1;have h2:=isDg_iff.1 h.2.1;have:numN [a,b]=10*(10*0+(a.toNat-48))+(b.toNat-48):=rfl;omega
   . omega
 . omega
theorem a8k {s:List UInt8}(h:E4 s=true):s.all p4=true/\s.length<=18:=by
 simp only[E4,G0,f0,j0] at h;exact⟨by simp_all,by omega⟩
theorem d3K (r:List UInt8):I9 (45::r)=match W7 r with
 |some v=>if v=0 then none else some (-v)
 |none=>none:=rfl
theorem d3L {s:List UInt8}(h:s.head?≠some 45):I9 s=W7 s:=by
 unfold I9;split
 . simp at h
 . rfl
def a2U (s:List UInt8):Int×List UInt8:=match s with|45::r=>(-1,r)|r=>(1,r)
theorem c0l {s:List UInt8}(h:s.head?≠some 45):a2U s=(1,s):=by
 unfold a2U;split
 . simp at h
 . rfl
abbrev b2q:D:= .tup [iD 0, .v (.int .i64 50)]
def a3W (sg:Int)(o:Option Int):D:=match o with
 |some v=>if sg<0/\v=0 then b2q else .tup [iD (sg*v), .v (.int .i64 0)]
 |none=>b2q
theorem d3I (s:List UInt8):a5m s=a3W (a2U s).1 (W7 (a2U s).2):=by
 unfold a5m a3W;rcases s with _|⟨b,s⟩
 . rfl
 by_cases hb:b=45
 . subst hb;rw[d3K,show a2U (45::s)=(-1,s) from rfl];cases W7 s with
   |none=>rfl
   | some v=>
     dsimp only;by_cases h:v=0
     . rw[d4 h,d4 ⟨by omega,h⟩]
     . rw[c8 h,c8 (λe=>h e.2),Int.neg_one_mul]
 . have h:(b::s).head?≠some 45:=by simpa using hb
   rw[d3L h,c0l h];cases W7 (b::s) with
   |none=>rfl
   | some v=>
     dsimp only;rw[c8 (by omega),Int.one_mul]
def a8N (num:Bool)(len f:Int)(p c:Bool)(m:Option Int):Option Int:=
 if num=false\/len>13\/f<0\/(c=false/\p=false) then none
 else match m with
  |none=>none
  |some t=>if t>1099511627776\/1000000*t+f>1099511627776 then none else some (1000000*t+f)
theorem d3Q {s w f a r:List UInt8}{p c:Bool}(hp:C1 46 s=(w,f,p))(hq:C1 58 w=(a,r,c)):W7 s=a8N (E4 a) a.length (if p then X9 f else 0) p c (a2J c r (numN a)):=by
 simp only[W7,hp,hq];rfl
theorem c9e {r b r2:List UInt8}{c2:Bool}(hr:C1 58 r=(b,r2,c2))(c:Bool)(t:Int):a2J c r t=if c then(if F7 b<0 then none else if c2 then if F7 r2<0 then none else some (60*(60*t+F7 b)+F7 r2) else some (60*t+F7 b)) else some t:=by
 simp only[a2J,hr]
theorem a5y {P:Program}{C:Cx}{st:SSt}{Q:E6}(n:Nat){ops:Array Oper}{d:Bool}{y z:Code}(h:J P C (.seq (.seq (.region n ops d) y) z) Q st):J P C (.seq (.seq (.region n ops d) y) z) Q st:=h
theorem b5t {P:Program}{C:Cx}{st:SSt}{x y:Code}{Q:E6}(h:J P C x (λe st=>match e with| .nrm=>J P C y Q st| .ret=>Q .ret st| .exit n=>Q (.exit n) st| .pan d=>Q (.pan d) st) st):J P C (.seq x y) Q st:=by
 refine⟨λγ V a W hr=>wpIn_seq (Go.wpIn_mono (h.run γ V a W hr) λe a W hq=>?_)⟩;cases e with
 |normal=>obtain⟨γ,st,V,h1,h2⟩:=hq;exact h2.run γ V a W h1
 |ret=>exact hq
 |exit n=>exact hq
 |panic c=>exact hq
 |goto l=>exact hq.elim
 |outgrown=>exact hq.elim
theorem a6D {P:Program}{b:Frame}{a:Act}{k:List Go.Item}{cs:List Frame}{w:World}{c:Code}:step P (lone (b.atR a (.code (.scope c)::k)) cs w)= .next (lone (b.atR a (.code c:: .inScope c::k)) cs w):=
 step_lone_go (by simp[stepG,stepG.exec,Frame.atR])
theorem d2E {P:Program}{b:Frame}{a:Act}{k:List Go.Item}{cs:List Frame}{w:World}{c:Code}:step P (lone (b.atR a (.inScope c::k)) cs w)= .next (lone (b.atR a k) cs w):=
 step_lone_go (by simp[stepG,stepG.exec,Frame.atR])
theorem d5s {F:Fence}{n:Nat}{P:Program}{Q:Exit->Act->World->Prop}{a:Act}{w:World}{c:Code}(h:c.wpIn F n P (Exit.noGoto Q) a w):(Code.scope c).wpIn F n P Q a w:=by
 intro b k cs hro hb hr;have h0:(lone (b.atR a (.code (.scope c)::k)) cs w).fenced P F:=fenced_calm hb hr rfl;obtain⟨e,a₁,w₁,hq,harr⟩:=h b (.inScope c::k) cs hro hb hr;cases e with
 |normal=>exact⟨.normal,a₁,w₁,hq, .head h0 a6D (StepsIn.trans harr (.one (fenced_calm hb hr rfl) d2E))⟩
 | exit id=>
   have hx:exitTo id (.inScope c::k)=exitTo id k:=by simp[exitTo]
   exact⟨.exit id,a₁,w₁,hq,λk' hk=> .head h0 a6D (harr.1 k' (by rw[hx];exact hk)),
    λhr' hk=>let ⟨k₁,h1,h2⟩:=harr.2 hr' (by rw[hx];exact hk);⟨k₁,h1, .head h0 a6D h2⟩⟩
 |goto l=>exact hq.elim
 |ret=>exact⟨_,a₁,w₁,hq, .of_steps (.one h0 a6D) harr⟩
 |panic ch=>exact⟨_,a₁,w₁,hq, .of_steps (.one h0 a6D) harr⟩
 |outgrown=>exact⟨_,a₁,w₁,hq, .of_steps (.one h0 a6D) harr⟩
theorem c2l {P:Program}{C:Cx}{st:SSt}{x:Code}{Q:E6}(h:J P C x Q st):J P C (.scope x) Q st:=by
 refine⟨λγ V a W hr=>d5s (Go.wpIn_mono (h.run γ V a W hr) λe a W hq=>?_)⟩;cases e with
 |goto l=>exact hq.elim
 |_=>exact hq
theorem c2i {P:Program}{C:Cx}{st:SSt}{l:Nat}{Q:E6}(h:Q .nrm st):J P C (.label l) Q st:=
 ⟨λγ V a W hr=>wpIn_label ⟨γ,st,V,hr,h⟩⟩
end Go.Proofs.YteillnfhkeebjaaGreatDoor.Dx
