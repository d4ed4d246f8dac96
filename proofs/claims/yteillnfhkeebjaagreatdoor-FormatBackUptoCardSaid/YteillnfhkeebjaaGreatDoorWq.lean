/- The. -/
import Derived.Test.YteillnfhkeebjaaGreatDoorWp
import Derived.Test.YteillnfhkeebjaaGreatDoorWa
set_option linter.all false
namespace Go.Proofs.YteillnfhkeebjaaGreatDoor.Dx
open Go Go.RowKit
set_option maxRecDepth 100000
set_option maxHeartbeats 8000000
abbrev cB (n:Int):Base:= .d (.v (.int .u8 n))
abbrev cD (n:Int):D:= .v (.int .u8 n)
def C7 (f:Nat->Int):List Base:=(List.range 256).map λb=>cB (f b)
def N6 (f:Nat->Int):List D:=(List.range 256).map λb=>cD (f b)
theorem a1Y (f:Nat->Int):(C7 f).length=256:=by simp[C7]
theorem a8G {f g:Nat->Int}{i:Nat}{v:Int}(hi:i<256)(h:∀b,b<256->g b=if b=i then v else f b):(C7 f).set i (cB v)=C7 g:=by
 apply O0;intro b;simp only[C7,a7f,o9,List.length_range,z7];by_cases hb:b<256
 . rw[List.getElem?_range hb];simp only[G9];rw[h b hb];by_cases e:i=b
   . subst e;simp[hi]
   . rw[c8 e,c8 (Ne.symm e)]
 . rw[c8 (by omega),z6 (by simp;omega)];rfl
theorem d3n (f:Nat->Int){i:Nat}(h:i<256):(C7 f)[i]?=some (cB (f i)):=by
 simp only[C7,z7,List.getElem?_range h,G9]
theorem d3p (O:List (Nat×Blk))(f:Nat->Int):D8 O (C7 f)=some (N6 f):=by
 unfold C7 N6;generalize List.range 256=l;induction l with
 |nil=>rfl
 |cons x l ih=>simp only[o5,D8,ih];rfl
theorem c0H (O:List (Nat×Blk))(f:Nat->Int):D8 O (((C7 f).drop 0).take 256)=some (N6 f):=by
 rw[List.drop_zero,y6 (by rw[a1Y];decide),d3p]
theorem b0Z (f:Nat->Int):(N6 f).length=256:=by simp[N6]
theorem d3f (f:Nat->Int):(N6 f).map .d=C7 f:=by simp[N6,C7]
theorem d1D {α:Type}(l:List α):setRun l 0 l=l:=by
 apply O0;intro j;rw[Q2 l l 0 j (by omega)];split
 . simp
 . rfl
theorem a0Y (O:List (Nat×Blk))(f:Nat->Int):a3r O (C7 f) (C7 f):=by
 unfold C7;generalize List.range 256=l;induction l with
 |nil=>trivial
 |cons x l ih=>exact⟨rfl,ih⟩
def signs:List Int:=[123,125,40,41,91,93,59,44,61,60,62]
def blanks:List Int:=[32,9,10,13]
def c1 (i:Int)(b:Nat):Int:=if(97<=(b:Int)/\(b:Int)<i)\/(65<=(b:Int)/\(b:Int)<i-32) then 2 else 0
def c2 (i:Int)(b:Nat):Int:=if 48<=(b:Int)/\(b:Int)<i then 3 else c1 123 b
def c3 (l:List Int)(b:Nat):Int:=if(b:Int)∈l then 4 else c2 58 b
def c4 (l:List Int)(b:Nat):Int:=if(b:Int)∈l then 1 else c3 signs b
def cls (b:Nat):Int:=c4 blanks b
theorem b8M {l:List Int}{k:Nat}(h:k<l.length)(x:Int):x∈l.take (k+1)↔x∈l.take k\/x=l[k]:=by
 rw[L1 h,A8,I4]
abbrev C6:Cfg:={sym:=[0],priv:=[22]}
theorem b6o:Mt 186 [] λd=>d= .agg (N6 cls):=by
 refine En C6 Tryz.func186 Tryz.ntmps186 λ_ _ _ _ _=>?_;refine Kv C6 ?_;refine b5q 0 (C7 (c1 97)) ?_;conv=>whnf
 refine⟨by kernel_rfl,?_⟩;conv=>whnf
 refine o4 tok C6 [] (X:=Int) (λi=>[(1,cB i)]) (λi=>[(0, .box (C7 (c1 i)) 245)]) [] (λi=>97<=i/\i<=123) (λi=>(123-i).toNat) 97 ?_;refine Kv C6 ?_;refine d8 ?_ ⟨⟨by omega,by omega⟩,λi hΦ=>?_⟩
 . repeat'(first|exact a0Y _ _|exact d9|exact rfl|refine d8 ?_ ?_)
 obtain⟨hi1,hi2⟩:=hΦ;refine Kv C6 ?_;refine⟨λh1=>?_,λh1=>?_⟩<;>(try simp only[BL] at h1)<;>refine Kv C6 ?_
 . repeat'((first|(intro hlq;try simp only[SL] at hlq)|refine K8 ?_)<;>refine Kv C6 ?_)
   refine⟨by dsimp only;rw[a1Y];omega,?_⟩;refine Kv C6 ?_;repeat'((first|(intro hlq;try simp only[SL] at hlq)|refine K8 ?_)<;>refine Kv C6 ?_)
   refine⟨by dsimp only;rw[List.length_set,a1Y];omega,?_⟩;refine Kv C6 ?_;repeat'((first|(intro hlq;try simp only[SL] at hlq)|refine K8 ?_)<;>refine Kv C6 ?_)
   have e1:((C7 (c1 i)).set (0+i.toNat *1) (cB 2)).set (0+(i-32).toNat *1) (cB 2)=C7 (c1 (i+1)):=by
    rw[a8G (g:=λb=>if b=0+i.toNat *1 then 2 else c1 i b) (by omega) λ_ _=>rfl];refine a8G (by omega) λb hb=>?_;simp only[c1];repeat' split
    all_goals omega
   dsimp only;rw[e1];refine⟨⟨i+1,?_,⟨by omega,by omega⟩,by omega⟩⟩;repeat'(first|exact a0Y _ _|exact d9|exact rfl|refine d8 ?_ ?_)
 obtain rfl:i=123:=by omega
 refine o4 tok C6 [] (X:=Int) (λi=>[(2,cB i)]) (λi=>[(0, .box (C7 (c2 i)) 245)]) [] (λi=>48<=i/\i<=58) (λi=>(58-i).toNat) 48 ?_;refine Kv C6 ?_;have e0:c1 123=c2 48:=by
  funext b
  simp only[c2];rw[c8 (by omega)]
 rw[e0];refine d8 ?_ ⟨⟨by omega,by omega⟩,λi hΦ=>?_⟩
 . repeat'(first|exact a0Y _ _|exact d9|exact rfl|refine d8 ?_ ?_)
 obtain⟨hi1,hi2⟩:=hΦ;refine Kv C6 ?_;refine⟨λh1=>?_,λh1=>?_⟩<;>(try simp only[BL] at h1)<;>refine Kv C6 ?_
 . repeat'((first|(intro hlq;try simp only[SL] at hlq)|refine K8 ?_)<;>refine Kv C6 ?_)
   refine⟨by dsimp only;rw[a1Y];omega,?_⟩;refine Kv C6 ?_;repeat'((first|(intro hlq;try simp only[SL] at hlq)|refine K8 ?_)<;>refine Kv C6 ?_)
   have e1:(C7 (c2 i)).set (0+i.toNat *1) (cB 3)=C7 (c2 (i+1)):=by
    refine a8G (by omega) λb hb=>?_;simp only[c2];repeat' split
    all_goals omega
   dsimp only;rw[e1];refine⟨⟨i+1,?_,⟨by omega,by omega⟩,by omega⟩⟩;repeat'(first|exact a0Y _ _|exact d9|exact rfl|refine d8 ?_ ?_)
 obtain rfl:i=58:=by omega
 repeat'((first|(intro hlq;try simp only[SL] at hlq)|refine K8 ?_)<;>refine Kv C6 ?_)
 have hsg:∀x∈signs,0<=x/\x<256:=by decide
 have hbl:∀x∈blanks,0<=x/\x<256:=by decide
 refine o4 tok C6 [] (X:=Nat) (λi=>[(25,iB i)]) (λi=>[(0, .box (C7 (c3 (signs.take i))) 245)]) [] (λi=>i<=signs.length) (λi=>signs.length-i) 0 ?_;refine Kv C6 ?_;have e0:c2 58=c3 (signs.take 0):=by
  funext b
  simp only[c3,List.take_zero,Z1,if_false]
 rw[e0];refine d8 ?_ ⟨by decide,λk hk=>?_⟩
 . repeat'(first|exact a0Y _ _|exact d9|exact rfl|refine d8 ?_ ?_)
 refine Kv C6 ?_;refine⟨λh1=>?_,λh1=>?_⟩<;>(try simp only[BL] at h1)<;>refine Kv C6 ?_
 . have h1':k<signs.length:=by simp only[signs,i7,j8] at h1⊢;omega
   refine⟨_,⟨by omega,a7P (xs:=signs) (λx=>[cD x]) h1' rfl,rfl⟩,?_⟩;refine Kv C6 ?_;have hb:=hsg _ (q7 h1');repeat'((first|(intro hlq;try simp only[SL] at hlq)|refine K8 ?_)<;>refine Kv C6 ?_)
   refine⟨by dsimp only;rw[a1Y];omega,?_⟩;refine Kv C6 ?_;repeat'((first|(intro hlq;try simp only[SL] at hlq)|refine K8 ?_)<;>refine Kv C6 ?_)
   have e1:(C7 (c3 (signs.take k))).set (0+signs[k].toNat *1) (cB 4)=C7 (c3 (signs.take (k+1))):=by
    refine a8G (by omega) λb hb=>?_;simp only[c3,b8M h1'];by_cases e:b=0+signs[k].toNat *1
    . rw[d4 e,d4 (.inr (by omega))]
    . rw[c8 e];by_cases e2:(b:Int)∈signs.take k
      . rw[d4 e2,d4 (.inl e2)]
      . rw[c8 e2,c8 (λh=>h.elim e2 λh=>e (by omega))]
   dsimp only;rw[e1];refine⟨⟨k+1,?_,by omega,by omega⟩⟩;repeat'(first|exact a0Y _ _|exact d9|exact rfl|refine d8 ?_ ?_)
 have hk2:k=signs.length:=by simp only[signs,i7,j8] at h1 hk⊢;omega
 subst hk2;repeat'((first|(intro hlq;try simp only[SL] at hlq)|refine K8 ?_)<;>refine Kv C6 ?_)
 refine o4 tok C6 [] (X:=Nat) (λi=>[(34,iB i)]) (λi=>[(0, .box (C7 (c4 (blanks.take i))) 245)]) [] (λi=>i<=blanks.length) (λi=>blanks.length-i) 0 ?_;refine Kv C6 ?_;have e0:c3 (signs.take signs.length)=c4 (blanks.take 0):=by
  funext b
  simp only[c4,List.take_zero,Z1,if_false,List.take_length]
 rw[e0];refine d8 ?_ ⟨by decide,λk hk=>?_⟩
 . repeat'(first|exact a0Y _ _|exact d9|exact rfl|refine d8 ?_ ?_)
 refine Kv C6 ?_;refine⟨λh1=>?_,λh1=>?_⟩<;>(try simp only[BL] at h1)<;>refine Kv C6 ?_
 . have h1':k<blanks.length:=by simp only[blanks,i7,j8] at h1⊢;omega
   refine⟨_,⟨by omega,a7P (xs:=blanks) (λx=>[cD x]) h1' rfl,rfl⟩,?_⟩;refine Kv C6 ?_;have hb:=hbl _ (q7 h1');repeat'((first|(intro hlq;try simp only[SL] at hlq)|refine K8 ?_)<;>refine Kv C6 ?_)
   refine⟨by dsimp only;rw[a1Y];omega,?_⟩;refine Kv C6 ?_;repeat'((first|(intro hlq;try simp only[SL] at hlq)|refine K8 ?_)<;>refine Kv C6 ?_)
   have e1:(C7 (c4 (blanks.take k))).set (0+blanks[k].toNat *1) (cB 1)=C7 (c4 (blanks.take (k+1))):=by
    refine a8G (by omega) λb hb=>?_;simp only[c4,b8M h1'];by_cases e:b=0+blanks[k].toNat *1
    . rw[d4 e,d4 (.inr (by omega))]
    . rw[c8 e];by_cases e2:(b:Int)∈blanks.take k
      . rw[d4 e2,d4 (.inl e2)]
      . rw[c8 e2,c8 (λh=>h.elim e2 λh=>e (by omega))]
   dsimp only;rw[e1];refine⟨⟨k+1,?_,by omega,by omega⟩⟩;repeat'(first|exact a0Y _ _|exact d9|exact rfl|refine d8 ?_ ?_)
 have hk2:k=blanks.length:=by simp only[blanks,i7,j8] at h1 hk⊢;omega
 subst hk2;have e1:c4 (blanks.take blanks.length)=cls:=by rw[List.take_length];rfl
 rw[e1];refine⟨N6 cls,⟨c0H _ _,b0Z _⟩,?_⟩;refine Kv C6 ?_;show 0+(C7 cls).length<=(C7 cls).length/\M0 _ (Blk.box (setRun (C7 cls) 0 (C7 cls)) 245) _ _;rw[d1D];refine⟨by omega,?_⟩;refine Kv C6 ?_;refine⟨N6 cls,⟨c0H _ _,b0Z _⟩,?_⟩;refine Kv C6 ?_;exact⟨rfl⟩
theorem b3V {α:Type}{l m:List α}(h:l.length=m.length):setRun l 0 m=m:=by
 apply O0;intro j;rw[Q2 m l 0 j (by omega)];split
 . simp
 . rw[z6 (by omega),z6 (by omega)]
def a8V (b:UInt8):Bool:=decide (cls b.toNat=2)||(decide (cls b.toNat=3)||decide ((b.toNat:Int)=95))
def b4Z (s:List UInt8):Bool:=match s with|[]=>false|b::_=>decide (cls b.toNat=2)
theorem c1s {s:List UInt8}(h:0<s.length):b4Z s=decide (cls s[0].toNat=2):=by
 cases s with
 |nil=>simp at h
 |cons b r=>rfl
def a2D (s:List UInt8):Bool:=b4Z s&&s.all a8V
theorem c7F (s:List UInt8):Mt 213 [.str s] λd=>d=bD (a2D s):=by
 refine En {sym:=[3]} Tryz.func213 Tryz.ntmps213 λ_ _ _ _ _=>?_;refine Kv {sym:=[3]} ?_;refine Meets.k b6o ?_;refine Kv {sym:=[3]} ?_;show 0+(C7 cls).length<=_/\M0 _ (Blk.box (setRun _ 0 (C7 cls)) 245) _ _;refine⟨by rw[a1Y];decide,?_⟩;rw[b3V (by rw[a1Y];rfl)];refine Kv {sym:=[3]} ?_;repeat'((first|(intro hlq;try simp only[SL] at hlq)|refine K8 ?_)<;>refine Kv {sym:=[3]} ?_)
 refine o4 tok {sym:=[3]} [] (X:=Nat) (λi=>[(9,iB i)]) (λ_=>[]) [] (λi=>i<=s.length/\(∀x∈s.take i,a8V x=true)/\(0<i->b4Z s=true)) (λi=>s.length-i) 0 ?_;refine Kv {sym:=[3]} ?_;refine d8 ?_ ⟨⟨by omega,by simp,by omega⟩,λi hΦ=>?_⟩
 . repeat'(first|exact a0Y _ _|exact d9|exact rfl|refine d8 ?_ ?_)
 obtain⟨hi,hp,hf⟩:=hΦ;refine Kv {sym:=[3]} ?_;refine⟨λh1=>?_,λh1=>?_⟩<;>(try simp only[BL] at h1)<;>refine Kv {sym:=[3]} ?_
 . have h1':i<s.length:=by omega
   have hpos:0<s.length:=by omega
   have hb:=s[i].toNat_lt;repeat'((first|(intro hlq;try simp only[SL] at hlq)|refine K8 ?_)<;>refine Kv {sym:=[3]} ?_)
   refine⟨_,d3n cls (i:=0+((s[i].toNat:Int)).toNat *1) (by omega),?_⟩;rw[show 0+((s[i].toNat:Int)).toNat *1=s[i].toNat by omega];refine Kv {sym:=[3]} ?_;repeat'((first|(intro hlq;try simp only[SL] at hlq)|((refine Kh (λhb=>?_) λhb=>?_)<;>try simp only[BL] at hb)|refine K8 ?_)<;>refine Kv {sym:=[3]} ?_)
   all_goals first
    | (refine⟨d6 bD ?_⟩
       have hc:a8V s[i]=false:=by
        simp only[a8V,W8,L4];omega
       simp only[a2D,a9r (q7 h1') hc,a4c];done)
    | (refine⟨d6 bD ?_⟩
       obtain rfl:i=0:=by omega
       rw[a2D,c1s hpos,D5 (by omega)];rfl)
    | (refine ⟨⟨i+1,?_,⟨by omega,Y7 h1' hp ?_,λ_=>?_⟩,by omega⟩⟩
       . repeat'(first|exact a0Y _ _|exact d9|exact rfl|refine d8 ?_ ?_)
       . simp only[a8V,C0,j0];omega
       . by_cases e:i=0
         . subst e;rw[c1s hpos,j0];omega
         . exact hf (by omega))
 . skip
   refine⟨d6 bD ?_⟩;rw[a2D,b1P (by omega) hp,U3];cases s with
   |nil=>rfl
   | cons b r=>
     simp only[i7] at h1 hi;rw[hf (by omega)];rfl
theorem a9g {P:Program}{f:FuncId}{ds:List D}{d:D}(hf:a0T P f)
 (h:∀V W xs,Sees V W->Reps V xs ds->Calls P f xs.toArray W λe W'=>∃v,e= .returned v/\W'=W/\Rep V v d):Meets P f ds λr=>r=d:=by
 refine⟨⟨hf,λγ V W xs h1 h2 h3 h4=>?_⟩⟩;have hr:Reps V xs ds:=by
  refine⟨by have:=h2.len;simpa using this.symm,λi u d h5 h6=>?_⟩;exact h2.get i (.d d) u (by simp[h6]) h5
 refine(h V W xs h1 hr).mono ?_;rintro e W' ⟨v,rfl,rfl,hv⟩;exact⟨γ,V, .ret (.d d),[],hv, .refl _ _ _, .refl _ _ _,h1,λn b h=>(by rw[r7] at h;cases h),λn b h=>(by rw[r7] at h;cases h),λn n' b b' h=>(by rw[r7] at h;cases h),
  λ_ _ _ _=>rfl,d,rfl,rfl,rfl⟩
theorem c2C (s t:List UInt8)(hs:s.length<4294967281):Mt 214 [.str s, .str t] λd=>d=bD (Lib.contains s t):=by
 refine a9g ⟨Tryz.f214,_,Tryz.func214,rfl,by kernel_rfl⟩ λV W xs hS hx=>?_;obtain⟨u,w,rfl,h1,h2⟩:=hx.two;obtain⟨rfl,_⟩:=h1.str_inv;obtain⟨rfl,_⟩:=h2.str_inv;obtain⟨m,hm⟩:=hS.lib.maxLen;refine(Tryz.strings_Contains ⟨⟨s⟩⟩ ⟨⟨t⟩⟩ m W hs (hS.cell _ _ _ hm)).mono ?_;rintro e W' ⟨rfl,rfl⟩;exact⟨_,rfl,rfl, .b _⟩
def flat (ws:List (List UInt8)):List UInt8:=32::ws.flatMap (· ++[32])
theorem c4v (s t:List UInt8):Lib.contains s t=true↔t<:+:s:=by
 rw[Lib.contains,j0];constructor
 . intro h;rcases Lib.index_spec s t with⟨h1,_⟩|⟨i,h1,h2,h3,_⟩
   . omega
   . exact(List.isPrefixOf_iff_prefix.1 h3).isInfix.trans (List.drop_suffix i s).isInfix
 . rintro ⟨a,b,rfl⟩;rcases Lib.index_spec (a++t++b) t with⟨h1,h2⟩|⟨i,h1,_⟩
   . have:=h2 a.length (by simp);rw[Lib.occAt,n9,List.drop_left] at this;rw[List.isPrefixOf_iff_prefix.2 (List.prefix_append t b)] at this;cases this
   . omega
theorem b9y:∀{w x r:List UInt8},(32:UInt8)∉w->(32:UInt8)∉x->(w++[32]<+:x++32::r↔w=x)
 |[],[],r,_,_=>by simp
 | [],b::x,r,_,hx=>by
   simp only[y8,q8,a9c,List.nil_prefix,and_true];constructor
   . intro h;exact absurd (h▸A9 ..) hx
   . intro h;cases h
 | a::w,[],r,hw,_=>by
   simp only[y8,q8,a9c];constructor
   . rintro⟨h,_⟩;exact absurd (h▸A9 ..) hw
   . intro h;cases h
 | a::w,b::x,r,hw,hx=>by
   simp only[q8,a9c,List.cons.injEq];rw[b9y (λh=>hw (r6 _ h)) (λh=>hx (r6 _ h))]
theorem b7X {p t:List UInt8}:∀{x:List UInt8},(32:UInt8)∉x->(32::p<:+:x++t↔32::p<:+:t)
 |[],_=>by simp
 | b ::x,hx=>by
   rw[q8,List.infix_cons_iff,b7X λh=>hx (r6 _ h)];constructor
   . rintro (h|h)
     . rw[a9c] at h;exact absurd (h.1▸A9 ..) hx
     . exact h
   . exact .inr
theorem b7D {w:List UInt8}(hw:(32:UInt8)∉w):∀{ws:List (List UInt8)},(∀x∈ws,(32:UInt8)∉x)->(32::(w++[32])<:+:flat ws↔w∈ws)
 | [],_=>by
   simp only[flat,List.flatMap_nil,Z1,iff_false];intro h;have:=h.length_le;simp at this
 | x::ws,h=>by
   have ih:=b7D hw (ws:=ws) λy hy=>h y (r6 _ hy);have hx:=h x (A9 ..);have e:flat (x::ws)=32::(x++flat ws):=by simp[flat]
   rw[e,List.infix_cons_iff,b7X hx,ih,a9c,p8];rw[show x++flat ws=x++32::ws.flatMap (· ++[32]) from rfl,b9y hw hx]
   simp
theorem d5f {s:List UInt8}(h:a2D s=true):(32:UInt8)∉s:=by
 intro hm;rw[a2D,f0,n7] at h;exact absurd (h.2 _ hm) (by decide)
theorem c7U:∀s∈words,a2D s=true:=by decide
theorem c7S:∀s∈words,(32:UInt8)∉s:=by decide
theorem c7R {s:List UInt8}(h:a2D s=true):Lib.contains (flat words) ([32]++s++[32])=kw s:=by
 rw[G8,c4v,n9,show[32]++(s++[32])=32::(s++[32]) from rfl,b7D (d5f h) c7S,kw,List.contains_iff_mem]
theorem c7T {s:List UInt8}(h:a2D s=false):kw s=false:=by
 rw[kw,Bool.eq_false_iff];intro hm;rw[c7U s (List.contains_iff_mem.1 hm)] at h;cases h
theorem b5x (s:List UInt8)(hs:s.length<=1048576):Mt 166 [.str s] λd=>d=bD (kw s):=by
 refine En {} Tryz.func166 Tryz.ntmps166 λ_ _ _ _ _=>?_;refine Kw ?_;repeat'((first|(intro hlq;try simp only[SL] at hlq)|refine Meets.k (c7F _) ?_|((refine Kh (λhb=>?_) λhb=>?_)<;>try simp only[BL] at hb)|refine K8 ?_)<;>refine Kw ?_)
 . refine⟨λ_ _=>by simp[maxLen];omega,?_⟩;refine Kw ?_;refine⟨λ_ _=>by simp[maxLen];omega,?_⟩;refine Kw ?_;refine Meets.k (c2C (flat words) ([32]++s++[32]) (by decide)) ?_;refine Kw ?_;refine⟨d6 bD ?_⟩;exact c7R (by assumption)
 . refine⟨d6 bD ?_⟩;exact(c7T (by assumption)).symm
theorem a6g (s:List UInt8):Mt 83 [.str s] λd=>d=bD (N3 kw s):=c7A kw s λh=>b5x s (by omega)
end Go.Proofs.YteillnfhkeebjaaGreatDoor.Dx
