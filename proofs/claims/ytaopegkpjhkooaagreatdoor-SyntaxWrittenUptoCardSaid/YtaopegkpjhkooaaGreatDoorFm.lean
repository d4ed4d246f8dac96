/- Small laws beside the courses' data (for chapter 06: in the place of DS). -/
import Derived.Test.YtaopegkpjhkooaaGreatDoorFl
import Derived.Test.YtaopegkpjhkooaaGreatDoorFz
set_option linter.all false
namespace Go.Proofs.YtaopegkpjhkooaaGreatDoor.Dx
open Go Go.RowKit
abbrev J1 (s:List UInt8):List D:=[.str s]
theorem a5U (s:List UInt8):J1 s=[.str s]:=rfl
theorem b8R {α β:Type}(f:α->β){xs:List α}{i:Nat}(h:i<xs.length):(xs.take i).map f++[f xs[i]]=(xs.take (i+1)).map f:=by
 rw[List.take_succ_eq_append_getElem h,List.map_append];rfl
theorem a4L {α:Type}{p:α->Bool}{xs:List α}{x:α}(hx:x∈xs)(h:p x=false):xs.all p=false:=by
 rw[List.all_eq_false];exact⟨x,hx,by rw[h];simp⟩
theorem b5e {α:Type}{p:α->Bool}{xs:List α}{i:Nat}(hi:¬i<xs.length)(h:∀x∈xs.take i,p x=true):xs.all p=true:=by
 rw[List.take_of_length_le (by omega)] at h
 exact List.all_eq_true.2 h
theorem Meets.bl {P:Program}{f:FuncId}{ds:List D}{b:Bool}(h:Meets P f ds λd=>d=bD b):Meets P f ds λd=>d= .bl b:=by
 refine⟨⟨h.out.fn,λγ V W xs h1 h2 h3 h4=>(h.out.run γ V W xs h1 h2 h3 h4).mono ?_⟩⟩
 rintro e W' ⟨γ',V',o,O',a1,a2,a3,a4,a5,a6,a7,a8,d,rfl,rfl,rfl⟩
 refine⟨γ',V',_,[],?_,a2,a3,a4,a5,a6,a7,a8, .bl b,rfl,rfl,rfl⟩
 cases e with
 | returned v=>
   obtain⟨rfl,_⟩:=Rep.v_inv (show Rep V' v (.v (.bool b)) from a1)
   exact Rep.bl b
 |_=>exact a1
theorem Meets.still {P:Program}{f:FuncId}{ds:List D}{d:D}(hf:R2 P f)
 (h:∀V W xs,Sees V W->Reps V xs ds->Calls P f xs.toArray W λe W'=>∃v,e= .returned v/\W'=W/\Rep V v d):Meets P f ds λr=>r=d:=by
 refine⟨⟨hf,λγ V W xs h1 h2 h3 h4=>?_⟩⟩
 have hr:Reps V xs ds:=by
  refine⟨by have:=h2.len;simpa using this.symm,λi u d h5 h6=>?_⟩
  exact h2.get i (.d d) u (by simp[h6]) h5
 refine(h V W xs h1 hr).mono ?_
 rintro e W' ⟨v,rfl,rfl,hv⟩
 exact⟨γ,V, .ret (.d d),[],hv, .refl _ _ _, .refl _ _ _,h1,λn b h=>(by rw[o6] at h;cases h),λn b h=>(by rw[o6] at h;cases h),λn n' b b' h=>(by rw[o6] at h;cases h),
  λ_ _ _ _=>rfl,d,rfl,rfl,rfl⟩
end Go.Proofs.YtaopegkpjhkooaaGreatDoor.Dx
/- Words and keywords (for seats without courses: E15,E16,E17 joined). -/
namespace Go.Proofs.YtaopegkpjhkooaaGreatDoor.Dx
open Go Go.RowKit
set_option maxRecDepth 100000
set_option maxHeartbeats 8000000
def words:List (List UInt8):=[
 [99,111,117,114,115,101],
 [109,97,116,115],
 [115,116,97,114,116],
 [112,97,115,115],
 [101,110,100],
 [108,101,103],
 [116,111],
 [100,105,115,116,97,110,99,101],
 [103,117,110],
 [99,104,105,112],
 [115,108,111,116],
 [108,97,112,115],
 [108,97,112],
 [99,117,116,111,102,102],
 [101,120,116,114,97],
 [119,97,118,101],
 [111,102,102,101,110,99,101],
 [111,117,116],
 [99,97,116,101,103,111,114,121],
 [112,114,105,122,101],
 [97,108,108],
 [116,105,101,115],
 [105,102],
 [101,108,115,101],
 [97,110,100],
 [111,114],
 [110,111,116],
 [111,108,100,101,114],
 [121,111,117,110,103,101,114],
 [98,105,98],
 [100,114,97,119],
 [102,105,101,108,100],
 [115,104,111,114,116],
 [102,97,117,108,116,115],
 [109,105,115,115,101,115],
 [115,116,114,97,121,115],
 [119,105,110,100,111,119],
 [114,101,115,105,100,117,97,108],
 [100,114,105,102,116],
 [112,114,111,116,101,115,116],
 [102,101,101],
 [100,101,97,100,108,105,110,101]]
def kw (s:List UInt8):Bool:=words.contains s
theorem c0v (s:List UInt8):Meets Tryz.prog 68 [.str s] λd=>d=bD (kw s):=by
 refine enter tok {} Tryz.func68 rfl (by kernel_rfl) Tryz.ntmps68 (by simp) λB0 W0 V0 lent g0=>?_
 refine Kw ?_
 repeat'((first|(intro hlq;try simp only[SL] at hlq)|((refine Kh (λhb=>?_) λhb=>?_)<;>try simp only[BL] at hb)|refine K8 ?_)<;>refine Kw ?_)
 all_goals refine⟨congrArg bD ?_⟩
 all_goals first
  |(subst hb;decide)
  |(simp only[kw,words,List.contains_eq_mem];simp;(repeat'(first|assumption|refine And.intro ?_ ?_)))
abbrev cB (n:Int):Base:= .d (.v (.int .u8 n))
abbrev cD (n:Int):D:= .v (.int .u8 n)
def t6 (f:Nat->Int):List Base:=(List.range 256).map λb=>cB (f b)
def E2 (f:Nat->Int):List D:=(List.range 256).map λb=>cD (f b)
theorem V9 (f:Nat->Int):(t6 f).length=256:=by simp[t6]
theorem a4m {f g:Nat->Int}{i:Nat}{v:Int}(hi:i<256)(h:∀b,b<256->g b=if b=i then v else f b):(t6 f).set i (cB v)=t6 g:=by
 apply List.ext_getElem?
 intro b
 simp only[t6,List.getElem?_set,List.length_map,List.length_range,List.getElem?_map]
 by_cases hb:b<256
 . rw[List.getElem?_range hb]
   simp only[Option.map_some]
   rw[h b hb]
   by_cases e:i=b
   . subst e;simp[hi]
   . rw[if_neg e,if_neg (Ne.symm e)]
 . rw[if_neg (by omega),List.getElem?_eq_none (by simp;omega)]
   rfl
theorem c2R (f:Nat->Int){i:Nat}(h:i<256):(t6 f)[i]?=some (cB (f i)):=by
 simp only[t6,List.getElem?_map,List.getElem?_range h,Option.map_some]
theorem c2T (O:List (Nat×Blk))(f:Nat->Int):w9 O (t6 f)=some (E2 f):=by
 unfold t6 E2
 generalize List.range 256=l
 induction l with
 |nil=>rfl
 |cons x l ih=>simp only[List.map_cons,w9,ih];rfl
theorem b3t (O:List (Nat×Blk))(f:Nat->Int):w9 O (((t6 f).drop 0).take 256)=some (E2 f):=by
 rw[List.drop_zero,List.take_of_length_le (by rw[V9];decide),c2T]
theorem a6c (f:Nat->Int):(E2 f).length=256:=by simp[E2]
theorem c2K (f:Nat->Int):(E2 f).map .d=t6 f:=by simp[E2,t6]
theorem c1q {α:Type}(l:List α):setRun l 0 l=l:=by
 apply List.ext_getElem?
 intro j
 rw[E7 l l 0 j (by omega)]
 split
 . simp
 . rfl
theorem R3 (O:List (Nat×Blk))(f:Nat->Int):a0V O (t6 f) (t6 f):=by
 unfold t6
 generalize List.range 256=l
 induction l with
 |nil=>trivial
 |cons x l ih=>exact⟨rfl,ih⟩
def signs:List Int:=[123,125,40,41,91,93,59,44,61,60,62]
def blanks:List Int:=[32,9,10,13]
def c1 (i:Int)(b:Nat):Int:=if(97<=(b:Int)/\(b:Int)<i)\/(65<=(b:Int)/\(b:Int)<i-32) then 2 else 0
def c2 (i:Int)(b:Nat):Int:=if 48<=(b:Int)/\(b:Int)<i then 3 else c1 123 b
def c3 (l:List Int)(b:Nat):Int:=if(b:Int)∈l then 4 else c2 58 b
def c4 (l:List Int)(b:Nat):Int:=if(b:Int)∈l then 1 else c3 signs b
def cls (b:Nat):Int:=c4 blanks b
theorem b1R {l:List Int}{k:Nat}(h:k<l.length)(x:Int):x∈l.take (k+1)↔x∈l.take k\/x=l[k]:=by
 rw[List.take_succ_eq_append_getElem h,List.mem_append,List.mem_singleton]
abbrev s9:Cfg:={sym:=[0],priv:=[22]}
theorem b0f:Meets Tryz.prog 43 [] λd=>d= .agg (E2 cls):=by
 refine enter tok s9 Tryz.func43 rfl (by kernel_rfl) Tryz.ntmps43 (by simp) λB0 W0 V0 lent g0=>?_
 refine Kv s9 ?_
 refine a9s 0 (t6 (c1 97)) ?_
 conv=>whnf
 refine⟨by kernel_rfl,?_⟩
 conv=>whnf
 refine j7 tok s9 [] (X:=Int) (λi=>[(1,cB i)]) (λi=>[(0, .box (t6 (c1 i)) 110)]) [] (λi=>97<=i/\i<=123) (λi=>(123-i).toNat) 97 ?_
 refine Kv s9 ?_
 refine And.intro ?_ ⟨⟨by omega,by omega⟩,λi hΦ=>?_⟩
 . repeat'(first|exact R3 _ _|exact True.intro|exact rfl|refine And.intro ?_ ?_)
 obtain⟨hi1,hi2⟩:=hΦ
 refine Kv s9 ?_
 refine⟨λh1=>?_,λh1=>?_⟩<;>(try simp only[BL] at h1)<;>refine Kv s9 ?_
 . repeat'((first|(intro hlq;try simp only[SL] at hlq)|refine K8 ?_)<;>refine Kv s9 ?_)
   refine⟨by dsimp only;rw[V9];omega,?_⟩
   refine Kv s9 ?_
   repeat'((first|(intro hlq;try simp only[SL] at hlq)|refine K8 ?_)<;>refine Kv s9 ?_)
   refine⟨by dsimp only;rw[List.length_set,V9];omega,?_⟩
   refine Kv s9 ?_
   repeat'((first|(intro hlq;try simp only[SL] at hlq)|refine K8 ?_)<;>refine Kv s9 ?_)
   have e1:((t6 (c1 i)).set (0+i.toNat *1) (cB 2)).set (0+(i-32).toNat *1) (cB 2)=t6 (c1 (i+1)):=by
    rw[a4m (g:=λb=>if b=0+i.toNat *1 then 2 else c1 i b) (by omega) λ_ _=>rfl]
    refine a4m (by omega) λb hb=>?_
    simp only[c1]
    repeat' split
    all_goals omega
   dsimp only
   rw[e1]
   refine⟨⟨i+1,?_,⟨by omega,by omega⟩,by omega⟩⟩
   repeat'(first|exact R3 _ _|exact True.intro|exact rfl|refine And.intro ?_ ?_)
 obtain rfl:i=123:=by omega
 refine j7 tok s9 [] (X:=Int) (λi=>[(2,cB i)]) (λi=>[(0, .box (t6 (c2 i)) 110)]) [] (λi=>48<=i/\i<=58) (λi=>(58-i).toNat) 48 ?_
 refine Kv s9 ?_
 have e0:c1 123=c2 48:=by
  funext b
  simp only[c2]
  rw[if_neg (by omega)]
 rw[e0]
 refine And.intro ?_ ⟨⟨by omega,by omega⟩,λi hΦ=>?_⟩
 . repeat'(first|exact R3 _ _|exact True.intro|exact rfl|refine And.intro ?_ ?_)
 obtain⟨hi1,hi2⟩:=hΦ
 refine Kv s9 ?_
 refine⟨λh1=>?_,λh1=>?_⟩<;>(try simp only[BL] at h1)<;>refine Kv s9 ?_
 . repeat'((first|(intro hlq;try simp only[SL] at hlq)|refine K8 ?_)<;>refine Kv s9 ?_)
   refine⟨by dsimp only;rw[V9];omega,?_⟩
   refine Kv s9 ?_
   repeat'((first|(intro hlq;try simp only[SL] at hlq)|refine K8 ?_)<;>refine Kv s9 ?_)
   have e1:(t6 (c2 i)).set (0+i.toNat *1) (cB 3)=t6 (c2 (i+1)):=by
    refine a4m (by omega) λb hb=>?_
    simp only[c2]
    repeat' split
    all_goals omega
   dsimp only
   rw[e1]
   refine⟨⟨i+1,?_,⟨by omega,by omega⟩,by omega⟩⟩
   repeat'(first|exact R3 _ _|exact True.intro|exact rfl|refine And.intro ?_ ?_)
 obtain rfl:i=58:=by omega
 repeat'((first|(intro hlq;try simp only[SL] at hlq)|refine K8 ?_)<;>refine Kv s9 ?_)
 have hsg:∀x∈signs,0<=x/\x<256:=by decide
 have hbl:∀x∈blanks,0<=x/\x<256:=by decide
 refine j7 tok s9 [] (X:=Nat) (λi=>[(25,iB i)]) (λi=>[(0, .box (t6 (c3 (signs.take i))) 110)]) [] (λi=>i<=signs.length) (λi=>signs.length-i) 0 ?_
 refine Kv s9 ?_
 have e0:c2 58=c3 (signs.take 0):=by
  funext b
  simp only[c3,List.take_zero,List.not_mem_nil,if_false]
 rw[e0]
 refine And.intro ?_ ⟨by decide,λk hk=>?_⟩
 . repeat'(first|exact R3 _ _|exact True.intro|exact rfl|refine And.intro ?_ ?_)
 refine Kv s9 ?_
 refine⟨λh1=>?_,λh1=>?_⟩<;>(try simp only[BL] at h1)<;>refine Kv s9 ?_
 . have h1':k<signs.length:=by simp only[signs,List.length_cons,List.length_nil] at h1⊢;omega
   refine⟨_,⟨by omega,a7n (xs:=signs) (λx=>[cD x]) h1' rfl,rfl⟩,?_⟩
   refine Kv s9 ?_
   have hb:=hsg _ (List.getElem_mem h1')
   repeat'((first|(intro hlq;try simp only[SL] at hlq)|refine K8 ?_)<;>refine Kv s9 ?_)
   refine⟨by dsimp only;rw[V9];omega,?_⟩
   refine Kv s9 ?_
   repeat'((first|(intro hlq;try simp only[SL] at hlq)|refine K8 ?_)<;>refine Kv s9 ?_)
   have e1:(t6 (c3 (signs.take k))).set (0+signs[k].toNat *1) (cB 4)=t6 (c3 (signs.take (k+1))):=by
    refine a4m (by omega) λb hb=>?_
    simp only[c3,b1R h1']
    by_cases e:b=0+signs[k].toNat *1
    . rw[if_pos e,if_pos (.inr (by omega))]
    . rw[if_neg e]
      by_cases e2:(b:Int)∈signs.take k
      . rw[if_pos e2,if_pos (.inl e2)]
      . rw[if_neg e2,if_neg (λh=>h.elim e2 λh=>e (by omega))]
   dsimp only
   rw[e1]
   refine⟨⟨k+1,?_,by omega,by omega⟩⟩
   repeat'(first|exact R3 _ _|exact True.intro|exact rfl|refine And.intro ?_ ?_)
 have hk2:k=signs.length:=by simp only[signs,List.length_cons,List.length_nil] at h1 hk⊢;omega
 subst hk2
 repeat'((first|(intro hlq;try simp only[SL] at hlq)|refine K8 ?_)<;>refine Kv s9 ?_)
 refine j7 tok s9 [] (X:=Nat) (λi=>[(34,iB i)]) (λi=>[(0, .box (t6 (c4 (blanks.take i))) 110)]) [] (λi=>i<=blanks.length) (λi=>blanks.length-i) 0 ?_
 refine Kv s9 ?_
 have e0:c3 (signs.take signs.length)=c4 (blanks.take 0):=by
  funext b
  simp only[c4,List.take_zero,List.not_mem_nil,if_false,List.take_length]
 rw[e0]
 refine And.intro ?_ ⟨by decide,λk hk=>?_⟩
 . repeat'(first|exact R3 _ _|exact True.intro|exact rfl|refine And.intro ?_ ?_)
 refine Kv s9 ?_
 refine⟨λh1=>?_,λh1=>?_⟩<;>(try simp only[BL] at h1)<;>refine Kv s9 ?_
 . have h1':k<blanks.length:=by simp only[blanks,List.length_cons,List.length_nil] at h1⊢;omega
   refine⟨_,⟨by omega,a7n (xs:=blanks) (λx=>[cD x]) h1' rfl,rfl⟩,?_⟩
   refine Kv s9 ?_
   have hb:=hbl _ (List.getElem_mem h1')
   repeat'((first|(intro hlq;try simp only[SL] at hlq)|refine K8 ?_)<;>refine Kv s9 ?_)
   refine⟨by dsimp only;rw[V9];omega,?_⟩
   refine Kv s9 ?_
   repeat'((first|(intro hlq;try simp only[SL] at hlq)|refine K8 ?_)<;>refine Kv s9 ?_)
   have e1:(t6 (c4 (blanks.take k))).set (0+blanks[k].toNat *1) (cB 1)=t6 (c4 (blanks.take (k+1))):=by
    refine a4m (by omega) λb hb=>?_
    simp only[c4,b1R h1']
    by_cases e:b=0+blanks[k].toNat *1
    . rw[if_pos e,if_pos (.inr (by omega))]
    . rw[if_neg e]
      by_cases e2:(b:Int)∈blanks.take k
      . rw[if_pos e2,if_pos (.inl e2)]
      . rw[if_neg e2,if_neg (λh=>h.elim e2 λh=>e (by omega))]
   dsimp only
   rw[e1]
   refine⟨⟨k+1,?_,by omega,by omega⟩⟩
   repeat'(first|exact R3 _ _|exact True.intro|exact rfl|refine And.intro ?_ ?_)
 have hk2:k=blanks.length:=by simp only[blanks,List.length_cons,List.length_nil] at h1 hk⊢;omega
 subst hk2
 have e1:c4 (blanks.take blanks.length)=cls:=by rw[List.take_length];rfl
 rw[e1]
 refine⟨E2 cls,⟨b3t _ _,a6c _⟩,?_⟩
 refine Kv s9 ?_
 show 0+(t6 cls).length<=(t6 cls).length/\D4 _ (Blk.box (setRun (t6 cls) 0 (t6 cls)) 110) _ _
 rw[c1q]
 refine⟨by omega,?_⟩
 refine Kv s9 ?_
 refine⟨E2 cls,⟨b3t _ _,a6c _⟩,?_⟩
 refine Kv s9 ?_
 exact⟨rfl⟩
theorem a8j {α:Type}{l m:List α}(h:l.length=m.length):setRun l 0 m=m:=by
 apply List.ext_getElem?
 intro j
 rw[E7 m l 0 j (by omega)]
 split
 . simp
 . rw[List.getElem?_eq_none (by omega),List.getElem?_eq_none (by omega)]
def a4y (b:UInt8):Bool:=decide (cls b.toNat=2)||(decide (cls b.toNat=3)||decide ((b.toNat:Int)=95))
def a9i (s:List UInt8):Bool:=match s with|[]=>false|b::_=>decide (cls b.toNat=2)
theorem b3Y {s:List UInt8}(h:0<s.length):a9i s=decide (cls s[0].toNat=2):=by
 cases s with
 |nil=>simp at h
 |cons b r=>rfl
def Y7 (s:List UInt8):Bool:=a9i s&&s.all a4y
theorem b8a (s:List UInt8):Meets Tryz.prog 46 [.str s] λd=>d=bD (Y7 s):=by
 refine enter tok {sym:=[3]} Tryz.func46 rfl (by kernel_rfl) Tryz.ntmps46 (by simp) λB0 W0 V0 lent g0=>?_
 refine Kv {sym:=[3]} ?_
 refine Meets.k b0f ?_
 refine Kv {sym:=[3]} ?_
 show 0+(t6 cls).length<=_/\D4 _ (Blk.box (setRun _ 0 (t6 cls)) 110) _ _
 refine⟨by rw[V9];decide,?_⟩
 rw[a8j (by rw[V9];rfl)]
 refine Kv {sym:=[3]} ?_
 repeat'((first|(intro hlq;try simp only[SL] at hlq)|refine K8 ?_)<;>refine Kv {sym:=[3]} ?_)
 refine j7 tok {sym:=[3]} [] (X:=Nat) (λi=>[(9,iB i)]) (λ_=>[]) [] (λi=>i<=s.length/\(∀x∈s.take i,a4y x=true)/\(0<i->a9i s=true)) (λi=>s.length-i) 0 ?_
 refine Kv {sym:=[3]} ?_
 refine And.intro ?_ ⟨⟨by omega,by simp,by omega⟩,λi hΦ=>?_⟩
 . repeat'(first|exact R3 _ _|exact True.intro|exact rfl|refine And.intro ?_ ?_)
 obtain⟨hi,hp,hf⟩:=hΦ
 refine Kv {sym:=[3]} ?_
 refine⟨λh1=>?_,λh1=>?_⟩<;>(try simp only[BL] at h1)<;>refine Kv {sym:=[3]} ?_
 . have h1':i<s.length:=by omega
   have hpos:0<s.length:=by omega
   have hb:=s[i].toNat_lt
   repeat'((first|(intro hlq;try simp only[SL] at hlq)|refine K8 ?_)<;>refine Kv {sym:=[3]} ?_)
   refine⟨_,c2R cls (i:=0+((s[i].toNat:Int)).toNat *1) (by omega),?_⟩
   rw[show 0+((s[i].toNat:Int)).toNat *1=s[i].toNat by omega]
   refine Kv {sym:=[3]} ?_
   repeat'((first|(intro hlq;try simp only[SL] at hlq)|((refine Kh (λhb=>?_) λhb=>?_)<;>try simp only[BL] at hb)|refine K8 ?_)<;>refine Kv {sym:=[3]} ?_)
   all_goals first
    | (refine⟨congrArg bD ?_⟩
       have hc:a4y s[i]=false:=by
        simp only[a4y,Bool.or_eq_false_iff,decide_eq_false_iff_not];omega
       simp only[Y7,a4L (List.getElem_mem h1') hc,Bool.and_false]
       done)
    | (refine⟨congrArg bD ?_⟩
       obtain rfl:i=0:=by omega
       rw[Y7,b3Y hpos,decide_eq_false (by omega)]
       rfl)
    | (refine ⟨⟨i+1,?_,⟨by omega,a2P h1' hp ?_,λ_=>?_⟩,by omega⟩⟩
       . repeat'(first|exact R3 _ _|exact True.intro|exact rfl|refine And.intro ?_ ?_)
       . simp only[a4y,Bool.or_eq_true,decide_eq_true_eq];omega
       . by_cases e:i=0
         . subst e
           rw[b3Y hpos,decide_eq_true_eq];omega
         . exact hf (by omega))
 . skip
   refine⟨congrArg bD ?_⟩
   rw[Y7,b5e (by omega) hp,Bool.and_true]
   cases s with
   |nil=>rfl
   | cons b r=>
     simp only[List.length_cons] at h1 hi
     rw[hf (by omega)]
     rfl
theorem b4M (s t:List UInt8)(hs:s.length<4294967281):Meets Tryz.prog 102 [.str s, .str t] λd=>d=bD (Lib.contains s t):=by
 refine Meets.still ⟨Tryz.f102,_,Tryz.func102,rfl,by kernel_rfl⟩ λV W xs hS hx=>?_
 obtain⟨u,w,rfl,h1,h2⟩:=hx.two
 obtain⟨rfl,_⟩:=h1.str_inv
 obtain⟨rfl,_⟩:=h2.str_inv
 obtain⟨m,hm⟩:=hS.lib.maxLen
 refine(Tryz.strings_Contains ⟨⟨s⟩⟩ ⟨⟨t⟩⟩ m W hs (hS.cell _ _ _ hm)).mono ?_
 rintro e W' ⟨rfl,rfl⟩
 exact⟨_,rfl,rfl, .b _⟩
def a0x (ws:List (List UInt8)):List UInt8:=32::ws.flatMap (· ++[32])
theorem b6b (s t:List UInt8):Lib.contains s t=true↔t<:+:s:=by
 rw[Lib.contains,decide_eq_true_eq]
 constructor
 . intro h
   rcases Lib.index_spec s t with⟨h1,_⟩|⟨i,h1,h2,h3,_⟩
   . omega
   . exact(List.isPrefixOf_iff_prefix.1 h3).isInfix.trans (List.drop_suffix i s).isInfix
 . rintro ⟨a,b,rfl⟩
   rcases Lib.index_spec (a++t++b) t with⟨h1,h2⟩|⟨i,h1,_⟩
   . have:=h2 a.length (by simp)
     rw[Lib.occAt,List.append_assoc,List.drop_left] at this
     rw[List.isPrefixOf_iff_prefix.2 (List.prefix_append t b)] at this
     cases this
   . omega
theorem b2p:∀{w x r:List UInt8},(32:UInt8)∉w->(32:UInt8)∉x->(w++[32]<+:x++32::r↔w=x)
 |[],[],r,_,_=>by simp
 | [],b::x,r,_,hx=>by
   simp only[List.nil_append,List.cons_append,List.cons_prefix_cons,List.nil_prefix,and_true]
   constructor
   . intro h;exact absurd (h▸List.mem_cons_self ..) hx
   . intro h;cases h
 | a::w,[],r,hw,_=>by
   simp only[List.nil_append,List.cons_append,List.cons_prefix_cons]
   constructor
   . rintro⟨h,_⟩;exact absurd (h▸List.mem_cons_self ..) hw
   . intro h;cases h
 | a::w,b::x,r,hw,hx=>by
   simp only[List.cons_append,List.cons_prefix_cons,List.cons.injEq]
   rw[b2p (λh=>hw (List.mem_cons_of_mem _ h)) (λh=>hx (List.mem_cons_of_mem _ h))]
theorem b1q {p t:List UInt8}:∀{x:List UInt8},(32:UInt8)∉x->(32::p<:+:x++t↔32::p<:+:t)
 |[],_=>by simp
 | b ::x,hx=>by
   rw[List.cons_append,List.infix_cons_iff,b1q λh=>hx (List.mem_cons_of_mem _ h)]
   constructor
   . rintro (h|h)
     . rw[List.cons_prefix_cons] at h
       exact absurd (h.1▸List.mem_cons_self ..) hx
     . exact h
   . exact .inr
theorem b1d {w:List UInt8}(hw:(32:UInt8)∉w):∀{ws:List (List UInt8)},(∀x∈ws,(32:UInt8)∉x)->(32::(w++[32])<:+:a0x ws↔w∈ws)
 | [],_=>by
   simp only[a0x,List.flatMap_nil,List.not_mem_nil,iff_false]
   intro h
   have:=h.length_le
   simp at this
 | x::ws,h=>by
   have ih:=b1d hw (ws:=ws) λy hy=>h y (List.mem_cons_of_mem _ hy)
   have hx:=h x (List.mem_cons_self ..)
   have e:a0x (x::ws)=32::(x++a0x ws):=by simp[a0x]
   rw[e,List.infix_cons_iff,b1q hx,ih,List.cons_prefix_cons,List.mem_cons]
   rw[show x++a0x ws=x++32::ws.flatMap (· ++[32]) from rfl,b2p hw hx]
   simp
theorem c4p {s:List UInt8}(h:Y7 s=true):(32:UInt8)∉s:=by
 intro hm
 rw[Y7,Bool.and_eq_true,List.all_eq_true] at h
 exact absurd (h.2 _ hm) (by decide)
theorem b8p:∀s∈words,Y7 s=true:=by decide
theorem b8n:∀s∈words,(32:UInt8)∉s:=by decide
theorem b8m {s:List UInt8}(h:Y7 s=true):Lib.contains (a0x words) ([32]++s++[32])=kw s:=by
 rw[Bool.eq_iff_iff,b6b,List.append_assoc,show[32]++(s++[32])=32::(s++[32]) from rfl,b1d (c4p h) b8n,kw,List.contains_iff_mem]
theorem b8o {s:List UInt8}(h:Y7 s=false):kw s=false:=by
 rw[kw,Bool.eq_false_iff]
 intro hm
 rw[b8p s (List.contains_iff_mem.1 hm)] at h
 cases h
theorem b4G (s:List UInt8)(hs:s.length<=1048576):Meets Tryz.prog 145 [.str s] λd=>d=bD (kw s):=by
 refine enter tok {} Tryz.func145 rfl (by kernel_rfl) Tryz.ntmps145 (by simp) λB0 W0 V0 lent g0=>?_
 refine Kw ?_
 repeat'((first|(intro hlq;try simp only[SL] at hlq)|refine Meets.k (b8a _) ?_|((refine Kh (λhb=>?_) λhb=>?_)<;>try simp only[BL] at hb)|refine K8 ?_)<;>refine Kw ?_)
 . refine⟨λ_ _=>by simp[maxLen];omega,?_⟩
   refine Kw ?_
   refine⟨λ_ _=>by simp[maxLen];omega,?_⟩
   refine Kw ?_
   refine Meets.k (b4M (a0x words) ([32]++s++[32]) (by decide)) ?_
   refine Kw ?_
   refine⟨congrArg bD ?_⟩
   exact b8m (by assumption)
 . refine⟨congrArg bD ?_⟩
   exact(b8o (by assumption)).symm
end Go.Proofs.YtaopegkpjhkooaaGreatDoor.Dx
