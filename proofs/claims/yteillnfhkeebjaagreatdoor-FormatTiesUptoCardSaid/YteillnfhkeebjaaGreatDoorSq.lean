/- The classes of bytes. -/
import Derived.Test.YteillnfhkeebjaaGreatDoorSp
import Derived.Test.YteillnfhkeebjaaGreatDoorSa
set_option linter.all false
namespace Go.Proofs.YteillnfhkeebjaaGreatDoor.Dx
open Go Go.RowKit
set_option maxRecDepth 100000
set_option maxHeartbeats 8000000
abbrev cB (n:Int):Base:= .d (.v (.int .u8 n))
abbrev cD (n:Int):D:= .v (.int .u8 n)
def m7 (f:Nat->Int):List Base:=(List.range 256).map λb=>cB (f b)
def z8 (f:Nat->Int):List D:=(List.range 256).map λb=>cD (f b)
theorem N1 (f:Nat->Int):(m7 f).length=256:=by simp[m7]
theorem a2M {f g:Nat->Int}{i:Nat}{v:Int}(hi:i<256)(h:∀b,b<256->g b=if b=i then v else f b):(m7 f).set i (cB v)=m7 g:=by
 apply List.ext_getElem?
 intro b
 simp only[m7,List.getElem?_set,List.length_map,List.length_range,List.getElem?_map]
 by_cases hb:b<256
 . rw[List.getElem?_range hb]
   simp only[Option.map_some]
   rw[h b hb]
   by_cases e:i=b
   . subst e;simp[hi]
   . rw[if_neg e,if_neg (Ne.symm e)]
 . rw[if_neg (by omega),List.getElem?_eq_none (by simp;omega)]
   rfl
theorem c3j (f:Nat->Int){i:Nat}(h:i<256):(m7 f)[i]?=some (cB (f i)):=by
 simp only[m7,List.getElem?_map,List.getElem?_range h,Option.map_some]
theorem c3l (O:List (Nat×Blk))(f:Nat->Int):n9 O (m7 f)=some (z8 f):=by
 unfold m7 z8
 generalize List.range 256=l
 induction l with
 |nil=>rfl
 |cons x l ih=>simp only[List.map_cons,n9,ih];rfl
theorem b3E (O:List (Nat×Blk))(f:Nat->Int):n9 O (((m7 f).drop 0).take 256)=some (z8 f):=by
 rw[List.drop_zero,List.take_of_length_le (by rw[N1];decide),c3l]
theorem a4U (f:Nat->Int):(z8 f).length=256:=by simp[z8]
theorem c3b (f:Nat->Int):(z8 f).map .d=m7 f:=by simp[z8,m7]
theorem c2i {α:Type}(l:List α):setRun l 0 l=l:=by
 apply List.ext_getElem?
 intro j
 rw[A8 l l 0 j (by omega)]
 split
 . simp
 . rfl
theorem J3 (O:List (Nat×Blk))(f:Nat->Int):S1 O (m7 f) (m7 f):=by
 unfold m7
 generalize List.range 256=l
 induction l with
 |nil=>trivial
 |cons x l ih=>exact⟨rfl,ih⟩
def signs:List Int:=[123,125,40,41,91,93,59,44,61,60,62]
def blanks:List Int:=[32,9,10,13]
def c1 (i:Int)(b:Nat):Int:=if(97<=(b:Int)/\(b:Int)<i)\/(65<=(b:Int)/\(b:Int)<i-32) then 2 else 0
def c2 (i:Int)(b:Nat):Int:=if 48<=(b:Int)/\(b:Int)<i then 3 else c1 123 b
def c3 (l:List Int)(b:Nat):Int:=if(b:Int)∈l then 4 else c2 58 b
def c4 (l:List Int)(b:Nat):Int:=if(b:Int)∈l then 1 else c3 signs b
def cls (b:Nat):Int:=c4 blanks b
theorem b1R {l:List Int}{k:Nat}(h:k<l.length)(x:Int):x∈l.take (k+1)↔x∈l.take k\/x=l[k]:=by
 rw[List.take_succ_eq_append_getElem h,List.mem_append,List.mem_singleton]
abbrev m6:Cfg:={sym:=[0],priv:=[22]}
theorem a9M:Meets Tryz.prog 186 [] λd=>d= .agg (z8 cls):=by
 refine enter tok m6 Tryz.func186 rfl (by kernel_rfl) Tryz.ntmps186 (by simp) λB0 W0 V0 lent g0=>?_
 refine Kv m6 ?_
 refine a8Y 0 (m7 (c1 97)) ?_
 conv=>whnf
 refine⟨by kernel_rfl,?_⟩
 conv=>whnf
 refine d4 tok m6 [] (X:=Int) (λi=>[(1,cB i)]) (λi=>[(0, .box (m7 (c1 i)) 245)]) [] (λi=>97<=i/\i<=123) (λi=>(123-i).toNat) 97 ?_
 refine Kv m6 ?_
 refine And.intro ?_ ⟨⟨by omega,by omega⟩,λi hΦ=>?_⟩
 . repeat'(first|exact J3 _ _|exact True.intro|exact rfl|refine And.intro ?_ ?_)
 obtain⟨hi1,hi2⟩:=hΦ
 refine Kv m6 ?_
 refine⟨λh1=>?_,λh1=>?_⟩<;>(try simp only[BL] at h1)<;>refine Kv m6 ?_
 . repeat'((first|(intro hlq;try simp only[SL] at hlq)|refine K8 ?_)<;>refine Kv m6 ?_)
   refine⟨by dsimp only;rw[N1];omega,?_⟩
   refine Kv m6 ?_
   repeat'((first|(intro hlq;try simp only[SL] at hlq)|refine K8 ?_)<;>refine Kv m6 ?_)
   refine⟨by dsimp only;rw[List.length_set,N1];omega,?_⟩
   refine Kv m6 ?_
   repeat'((first|(intro hlq;try simp only[SL] at hlq)|refine K8 ?_)<;>refine Kv m6 ?_)
   have e1:((m7 (c1 i)).set (0+i.toNat *1) (cB 2)).set (0+(i-32).toNat *1) (cB 2)=m7 (c1 (i+1)):=by
    rw[a2M (g:=λb=>if b=0+i.toNat *1 then 2 else c1 i b) (by omega) λ_ _=>rfl]
    refine a2M (by omega) λb hb=>?_
    simp only[c1]
    repeat' split
    all_goals omega
   dsimp only
   rw[e1]
   refine⟨⟨i+1,?_,⟨by omega,by omega⟩,by omega⟩⟩
   repeat'(first|exact J3 _ _|exact True.intro|exact rfl|refine And.intro ?_ ?_)
 obtain rfl:i=123:=by omega
 refine d4 tok m6 [] (X:=Int) (λi=>[(2,cB i)]) (λi=>[(0, .box (m7 (c2 i)) 245)]) [] (λi=>48<=i/\i<=58) (λi=>(58-i).toNat) 48 ?_
 refine Kv m6 ?_
 have e0:c1 123=c2 48:=by
  funext b
  simp only[c2]
  rw[if_neg (by omega)]
 rw[e0]
 refine And.intro ?_ ⟨⟨by omega,by omega⟩,λi hΦ=>?_⟩
 . repeat'(first|exact J3 _ _|exact True.intro|exact rfl|refine And.intro ?_ ?_)
 obtain⟨hi1,hi2⟩:=hΦ
 refine Kv m6 ?_
 refine⟨λh1=>?_,λh1=>?_⟩<;>(try simp only[BL] at h1)<;>refine Kv m6 ?_
 . repeat'((first|(intro hlq;try simp only[SL] at hlq)|refine K8 ?_)<;>refine Kv m6 ?_)
   refine⟨by dsimp only;rw[N1];omega,?_⟩
   refine Kv m6 ?_
   repeat'((first|(intro hlq;try simp only[SL] at hlq)|refine K8 ?_)<;>refine Kv m6 ?_)
   have e1:(m7 (c2 i)).set (0+i.toNat *1) (cB 3)=m7 (c2 (i+1)):=by
    refine a2M (by omega) λb hb=>?_
    simp only[c2]
    repeat' split
    all_goals omega
   dsimp only
   rw[e1]
   refine⟨⟨i+1,?_,⟨by omega,by omega⟩,by omega⟩⟩
   repeat'(first|exact J3 _ _|exact True.intro|exact rfl|refine And.intro ?_ ?_)
 obtain rfl:i=58:=by omega
 repeat'((first|(intro hlq;try simp only[SL] at hlq)|refine K8 ?_)<;>refine Kv m6 ?_)
 have hsg:∀x∈signs,0<=x/\x<256:=by decide
 have hbl:∀x∈blanks,0<=x/\x<256:=by decide
 refine d4 tok m6 [] (X:=Nat) (λi=>[(25,iB i)]) (λi=>[(0, .box (m7 (c3 (signs.take i))) 245)]) [] (λi=>i<=signs.length) (λi=>signs.length-i) 0 ?_
 refine Kv m6 ?_
 have e0:c2 58=c3 (signs.take 0):=by
  funext b
  simp only[c3,List.take_zero,List.not_mem_nil,if_false]
 rw[e0]
 refine And.intro ?_ ⟨by decide,λk hk=>?_⟩
 . repeat'(first|exact J3 _ _|exact True.intro|exact rfl|refine And.intro ?_ ?_)
 refine Kv m6 ?_
 refine⟨λh1=>?_,λh1=>?_⟩<;>(try simp only[BL] at h1)<;>refine Kv m6 ?_
 . have h1':k<signs.length:=by simp only[signs,List.length_cons,List.length_nil] at h1⊢;omega
   refine⟨_,⟨by omega,a1W (xs:=signs) (λx=>[cD x]) h1' rfl,rfl⟩,?_⟩
   refine Kv m6 ?_
   have hb:=hsg _ (List.getElem_mem h1')
   repeat'((first|(intro hlq;try simp only[SL] at hlq)|refine K8 ?_)<;>refine Kv m6 ?_)
   refine⟨by dsimp only;rw[N1];omega,?_⟩
   refine Kv m6 ?_
   repeat'((first|(intro hlq;try simp only[SL] at hlq)|refine K8 ?_)<;>refine Kv m6 ?_)
   have e1:(m7 (c3 (signs.take k))).set (0+signs[k].toNat *1) (cB 4)=m7 (c3 (signs.take (k+1))):=by
    refine a2M (by omega) λb hb=>?_
    simp only[c3,b1R h1']
    by_cases e:b=0+signs[k].toNat *1
    . rw[if_pos e,if_pos (.inr (by omega))]
    . rw[if_neg e]
      by_cases e2:(b:Int)∈signs.take k
      . rw[if_pos e2,if_pos (.inl e2)]
      . rw[if_neg e2,if_neg (λh=>h.elim e2 λh=>e (by omega))]
   dsimp only
   rw[e1]
   refine⟨⟨k+1,?_,by omega,by omega⟩⟩
   repeat'(first|exact J3 _ _|exact True.intro|exact rfl|refine And.intro ?_ ?_)
 have hk2:k=signs.length:=by simp only[signs,List.length_cons,List.length_nil] at h1 hk⊢;omega
 subst hk2
 repeat'((first|(intro hlq;try simp only[SL] at hlq)|refine K8 ?_)<;>refine Kv m6 ?_)
 refine d4 tok m6 [] (X:=Nat) (λi=>[(34,iB i)]) (λi=>[(0, .box (m7 (c4 (blanks.take i))) 245)]) [] (λi=>i<=blanks.length) (λi=>blanks.length-i) 0 ?_
 refine Kv m6 ?_
 have e0:c3 (signs.take signs.length)=c4 (blanks.take 0):=by
  funext b
  simp only[c4,List.take_zero,List.not_mem_nil,if_false,List.take_length]
 rw[e0]
 refine And.intro ?_ ⟨by decide,λk hk=>?_⟩
 . repeat'(first|exact J3 _ _|exact True.intro|exact rfl|refine And.intro ?_ ?_)
 refine Kv m6 ?_
 refine⟨λh1=>?_,λh1=>?_⟩<;>(try simp only[BL] at h1)<;>refine Kv m6 ?_
 . have h1':k<blanks.length:=by simp only[blanks,List.length_cons,List.length_nil] at h1⊢;omega
   refine⟨_,⟨by omega,a1W (xs:=blanks) (λx=>[cD x]) h1' rfl,rfl⟩,?_⟩
   refine Kv m6 ?_
   have hb:=hbl _ (List.getElem_mem h1')
   repeat'((first|(intro hlq;try simp only[SL] at hlq)|refine K8 ?_)<;>refine Kv m6 ?_)
   refine⟨by dsimp only;rw[N1];omega,?_⟩
   refine Kv m6 ?_
   repeat'((first|(intro hlq;try simp only[SL] at hlq)|refine K8 ?_)<;>refine Kv m6 ?_)
   have e1:(m7 (c4 (blanks.take k))).set (0+blanks[k].toNat *1) (cB 1)=m7 (c4 (blanks.take (k+1))):=by
    refine a2M (by omega) λb hb=>?_
    simp only[c4,b1R h1']
    by_cases e:b=0+blanks[k].toNat *1
    . rw[if_pos e,if_pos (.inr (by omega))]
    . rw[if_neg e]
      by_cases e2:(b:Int)∈blanks.take k
      . rw[if_pos e2,if_pos (.inl e2)]
      . rw[if_neg e2,if_neg (λh=>h.elim e2 λh=>e (by omega))]
   dsimp only
   rw[e1]
   refine⟨⟨k+1,?_,by omega,by omega⟩⟩
   repeat'(first|exact J3 _ _|exact True.intro|exact rfl|refine And.intro ?_ ?_)
 have hk2:k=blanks.length:=by simp only[blanks,List.length_cons,List.length_nil] at h1 hk⊢;omega
 subst hk2
 have e1:c4 (blanks.take blanks.length)=cls:=by rw[List.take_length];rfl
 rw[e1]
 refine⟨z8 cls,⟨b3E _ _,a4U _⟩,?_⟩
 refine Kv m6 ?_
 show 0+(m7 cls).length<=(m7 cls).length/\A7 _ (Blk.box (setRun (m7 cls) 0 (m7 cls)) 245) _ _
 rw[c2i]
 refine⟨by omega,?_⟩
 refine Kv m6 ?_
 refine⟨z8 cls,⟨b3E _ _,a4U _⟩,?_⟩
 refine Kv m6 ?_
 exact⟨rfl⟩
end Go.Proofs.YteillnfhkeebjaaGreatDoor.Dx
/- Words and keywords. -/
namespace Go.Proofs.YteillnfhkeebjaaGreatDoor.Dx
open Go Go.RowKit
set_option maxRecDepth 100000
set_option maxHeartbeats 8000000
theorem a7H {α:Type}{l m:List α}(h:l.length=m.length):setRun l 0 m=m:=by
 apply List.ext_getElem?
 intro j
 rw[A8 m l 0 j (by omega)]
 split
 . simp
 . rw[List.getElem?_eq_none (by omega),List.getElem?_eq_none (by omega)]
def a3b (b:UInt8):Bool:=decide (cls b.toNat=2)||(decide (cls b.toNat=3)||decide ((b.toNat:Int)=95))
def a8J (s:List UInt8):Bool:=match s with|[]=>false|b::_=>decide (cls b.toNat=2)
theorem b4n {s:List UInt8}(h:0<s.length):a8J s=decide (cls s[0].toNat=2):=by
 cases s with
 |nil=>simp at h
 |cons b r=>rfl
def O9 (s:List UInt8):Bool:=a8J s&&s.all a3b
theorem b9c (s:List UInt8):Meets Tryz.prog 213 [.str s] λd=>d=bD (O9 s):=by
 refine enter tok {sym:=[3]} Tryz.func213 rfl (by kernel_rfl) Tryz.ntmps213 (by simp) λB0 W0 V0 lent g0=>?_
 refine Kv {sym:=[3]} ?_
 refine Meets.k a9M ?_
 refine Kv {sym:=[3]} ?_
 show 0+(m7 cls).length<=_/\A7 _ (Blk.box (setRun _ 0 (m7 cls)) 245) _ _
 refine⟨by rw[N1];decide,?_⟩
 rw[a7H (by rw[N1];rfl)]
 refine Kv {sym:=[3]} ?_
 repeat'((first|(intro hlq;try simp only[SL] at hlq)|refine K8 ?_)<;>refine Kv {sym:=[3]} ?_)
 refine d4 tok {sym:=[3]} [] (X:=Nat) (λi=>[(9,iB i)]) (λ_=>[]) [] (λi=>i<=s.length/\(∀x∈s.take i,a3b x=true)/\(0<i->a8J s=true)) (λi=>s.length-i) 0 ?_
 refine Kv {sym:=[3]} ?_
 refine And.intro ?_ ⟨⟨by omega,by simp,by omega⟩,λi hΦ=>?_⟩
 . repeat'(first|exact J3 _ _|exact True.intro|exact rfl|refine And.intro ?_ ?_)
 obtain⟨hi,hp,hf⟩:=hΦ
 refine Kv {sym:=[3]} ?_
 refine⟨λh1=>?_,λh1=>?_⟩<;>(try simp only[BL] at h1)<;>refine Kv {sym:=[3]} ?_
 . have h1':i<s.length:=by omega
   have hpos:0<s.length:=by omega
   have hb:=s[i].toNat_lt
   repeat'((first|(intro hlq;try simp only[SL] at hlq)|refine K8 ?_)<;>refine Kv {sym:=[3]} ?_)
   refine⟨_,c3j cls (i:=0+((s[i].toNat:Int)).toNat *1) (by omega),?_⟩
   rw[show 0+((s[i].toNat:Int)).toNat *1=s[i].toNat by omega]
   refine Kv {sym:=[3]} ?_
   repeat'((first|(intro hlq;try simp only[SL] at hlq)|((refine Kh (λhb=>?_) λhb=>?_)<;>try simp only[BL] at hb)|refine K8 ?_)<;>refine Kv {sym:=[3]} ?_)
   all_goals first
    | (refine⟨congrArg bD ?_⟩
       have hc:a3b s[i]=false:=by
        simp only[a3b,Bool.or_eq_false_iff,decide_eq_false_iff_not];omega
       simp only[O9,a3l (List.getElem_mem h1') hc,Bool.and_false]
       done)
    | (refine⟨congrArg bD ?_⟩
       obtain rfl:i=0:=by omega
       rw[O9,b4n hpos,decide_eq_false (by omega)]
       rfl)
    | (refine ⟨⟨i+1,?_,⟨by omega,D2 h1' hp ?_,λ_=>?_⟩,by omega⟩⟩
       . repeat'(first|exact J3 _ _|exact True.intro|exact rfl|refine And.intro ?_ ?_)
       . simp only[a3b,Bool.or_eq_true,decide_eq_true_eq];omega
       . by_cases e:i=0
         . subst e
           rw[b4n hpos,decide_eq_true_eq];omega
         . exact hf (by omega))
 . skip
   refine⟨congrArg bD ?_⟩
   rw[O9,a5y (by omega) hp,Bool.and_true]
   cases s with
   |nil=>rfl
   | cons b r=>
     simp only[List.length_cons] at h1 hi
     rw[hf (by omega)]
     rfl
theorem Meets.still {P:Program}{f:FuncId}{ds:List D}{d:D}(hf:J1 P f)
 (h:∀V W xs,Sees V W->Reps V xs ds->Calls P f xs.toArray W λe W'=>∃v,e= .returned v/\W'=W/\Rep V v d):Meets P f ds λr=>r=d:=by
 refine⟨⟨hf,λγ V W xs h1 h2 h3 h4=>?_⟩⟩
 have hr:Reps V xs ds:=by
  refine⟨by have:=h2.len;simpa using this.symm,λi u d h5 h6=>?_⟩
  exact h2.get i (.d d) u (by simp[h6]) h5
 refine(h V W xs h1 hr).mono ?_
 rintro e W' ⟨v,rfl,rfl,hv⟩
 exact⟨γ,V, .ret (.d d),[],hv, .refl _ _ _, .refl _ _ _,h1,λn b h=>(by rw[f8] at h;cases h),λn b h=>(by rw[f8] at h;cases h),λn n' b b' h=>(by rw[f8] at h;cases h),
  λ_ _ _ _=>rfl,d,rfl,rfl,rfl⟩
theorem b4X (s t:List UInt8)(hs:s.length<4294967281):Meets Tryz.prog 214 [.str s, .str t] λd=>d=bD (Lib.contains s t):=by
 refine Meets.still ⟨Tryz.f214,_,Tryz.func214,rfl,by kernel_rfl⟩ λV W xs hS hx=>?_
 obtain⟨u,w,rfl,h1,h2⟩:=hx.two
 obtain⟨rfl,_⟩:=h1.str_inv
 obtain⟨rfl,_⟩:=h2.str_inv
 obtain⟨m,hm⟩:=hS.lib.maxLen
 refine(Tryz.strings_Contains ⟨⟨s⟩⟩ ⟨⟨t⟩⟩ m W hs (hS.cell _ _ _ hm)).mono ?_
 rintro e W' ⟨rfl,rfl⟩
 exact⟨_,rfl,rfl, .b _⟩
def T2 (ws:List (List UInt8)):List UInt8:=32::ws.flatMap (· ++[32])
theorem b6C (s t:List UInt8):Lib.contains s t=true↔t<:+:s:=by
 rw[Lib.contains,decide_eq_true_eq]
 constructor
 . intro h
   rcases Lib.index_spec s t with⟨h1,_⟩|⟨i,h1,h2,h3,_⟩
   . omega
   . exact(List.isPrefixOf_iff_prefix.1 h3).isInfix.trans (List.drop_suffix i s).isInfix
 . rintro ⟨a,b,rfl⟩
   rcases Lib.index_spec (a++t++b) t with⟨h1,h2⟩|⟨i,h1,_⟩
   . have:=h2 a.length (by simp)
     rw[Lib.occAt,List.append_assoc,List.drop_left] at this
     rw[List.isPrefixOf_iff_prefix.2 (List.prefix_append t b)] at this
     cases this
   . omega
theorem b2z:∀{w x r:List UInt8},(32:UInt8)∉w->(32:UInt8)∉x->(w++[32]<+:x++32::r↔w=x)
 |[],[],r,_,_=>by simp
 | [],b::x,r,_,hx=>by
   simp only[List.nil_append,List.cons_append,List.cons_prefix_cons,List.nil_prefix,and_true]
   constructor
   . intro h;exact absurd (h▸List.mem_cons_self ..) hx
   . intro h;cases h
 | a::w,[],r,hw,_=>by
   simp only[List.nil_append,List.cons_append,List.cons_prefix_cons]
   constructor
   . rintro⟨h,_⟩;exact absurd (h▸List.mem_cons_self ..) hw
   . intro h;cases h
 | a::w,b::x,r,hw,hx=>by
   simp only[List.cons_append,List.cons_prefix_cons,List.cons.injEq]
   rw[b2z (λh=>hw (List.mem_cons_of_mem _ h)) (λh=>hx (List.mem_cons_of_mem _ h))]
theorem b1f {p t:List UInt8}:∀{x:List UInt8},(32:UInt8)∉x->(32::p<:+:x++t↔32::p<:+:t)
 |[],_=>by simp
 | b ::x,hx=>by
   rw[List.cons_append,List.infix_cons_iff,b1f λh=>hx (List.mem_cons_of_mem _ h)]
   constructor
   . rintro (h|h)
     . rw[List.cons_prefix_cons] at h
       exact absurd (h.1▸List.mem_cons_self ..) hx
     . exact h
   . exact .inr
theorem b0M {w:List UInt8}(hw:(32:UInt8)∉w):∀{ws:List (List UInt8)},(∀x∈ws,(32:UInt8)∉x)->(32::(w++[32])<:+:T2 ws↔w∈ws)
 | [],_=>by
   simp only[T2,List.flatMap_nil,List.not_mem_nil,iff_false]
   intro h
   have:=h.length_le
   simp at this
 | x::ws,h=>by
   have ih:=b0M hw (ws:=ws) λy hy=>h y (List.mem_cons_of_mem _ hy)
   have hx:=h x (List.mem_cons_self ..)
   have e:T2 (x::ws)=32::(x++T2 ws):=by simp[T2]
   rw[e,List.infix_cons_iff,b1f hx,ih,List.cons_prefix_cons,List.mem_cons]
   rw[show x++T2 ws=x++32::ws.flatMap (· ++[32]) from rfl,b2z hw hx]
   simp
theorem c4N {s:List UInt8}(h:O9 s=true):(32:UInt8)∉s:=by
 intro hm
 rw[O9,Bool.and_eq_true,List.all_eq_true] at h
 exact absurd (h.2 _ hm) (by decide)
theorem b9r:∀s∈words,O9 s=true:=by decide
theorem b9p:∀s∈words,(32:UInt8)∉s:=by decide
theorem b9o {s:List UInt8}(h:O9 s=true):Lib.contains (T2 words) ([32]++s++[32])=kw s:=by
 rw[Bool.eq_iff_iff,b6C,List.append_assoc,show[32]++(s++[32])=32::(s++[32]) from rfl,b0M (c4N h) b9p,kw,List.contains_iff_mem]
theorem b9q {s:List UInt8}(h:O9 s=false):kw s=false:=by
 rw[kw,Bool.eq_false_iff]
 intro hm
 rw[b9r s (List.contains_iff_mem.1 hm)] at h
 cases h
theorem b4S (s:List UInt8)(hs:s.length<=1048576):Meets Tryz.prog 166 [.str s] λd=>d=bD (kw s):=by
 refine enter tok {} Tryz.func166 rfl (by kernel_rfl) Tryz.ntmps166 (by simp) λB0 W0 V0 lent g0=>?_
 refine Kw ?_
 repeat'((first|(intro hlq;try simp only[SL] at hlq)|refine Meets.k (b9c _) ?_|((refine Kh (λhb=>?_) λhb=>?_)<;>try simp only[BL] at hb)|refine K8 ?_)<;>refine Kw ?_)
 . refine⟨λ_ _=>by simp[maxLen];omega,?_⟩
   refine Kw ?_
   refine⟨λ_ _=>by simp[maxLen];omega,?_⟩
   refine Kw ?_
   refine Meets.k (b4X (T2 words) ([32]++s++[32]) (by decide)) ?_
   refine Kw ?_
   refine⟨congrArg bD ?_⟩
   exact b9o (by assumption)
 . refine⟨congrArg bD ?_⟩
   exact(b9q (by assumption)).symm
theorem a0G (s:List UInt8):Meets Tryz.prog 83 [.str s] λd=>d=bD (C4 kw s):=b8X kw s λh=>b4S s (by omega)
end Go.Proofs.YteillnfhkeebjaaGreatDoor.Dx
