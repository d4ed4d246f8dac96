/- The scanner's other readers,and all of them in a row. -/
import Derived.Test.YteillnfhkeebjaaGreatDoorTn
import Derived.Test.YteillnfhkeebjaaGreatDoorTj
set_option linter.all false
namespace Go.Proofs.YteillnfhkeebjaaGreatDoor.Dx
open Go Go.RowKit Go.Proofs
set_option maxRecDepth 100000
set_option maxHeartbeats 8000000
abbrev S3:Prop:=∀s:List UInt8,s.length<=1048576->Meets Tryz.prog 244 [.str s] λd=>d=a2R s
theorem b9a (hT:S3)(s:List UInt8)(hs:s.length<=1048576):Meets Tryz.prog 231 [.str s] λd=>d=bD (D3 s).isSome:=by
 have k:=hT s hs
 unfold a2R at k
 cases ht:D3 s with
 | none=>
   rw[ht] at k
   refine enter tok {} Tryz.func231 rfl (by kernel_rfl) Tryz.ntmps231 (by simp) λB0 W0 V0 lent g0=>?_
   refine Kw ?_
   repeat'((first|(intro hlq;try simp only[SL] at hlq)|refine Meets.k (k) ?_|refine K9 ?_|((refine Kh (λhb=>?_) λhb=>?_)<;>try simp only[BL] at hb)|refine K8 ?_)<;>refine Kw ?_)
   all_goals first|exact⟨rfl⟩|(exfalso;omega)
 | some v=>
   rw[ht] at k
   refine enter tok {} Tryz.func231 rfl (by kernel_rfl) Tryz.ntmps231 (by simp) λB0 W0 V0 lent g0=>?_
   refine Kw ?_
   repeat'((first|(intro hlq;try simp only[SL] at hlq)|refine Meets.k (k) ?_|refine K9 ?_|((refine Kh (λhb=>?_) λhb=>?_)<;>try simp only[BL] at hb)|refine K8 ?_)<;>refine Kw ?_)
   all_goals first|exact⟨rfl⟩|(exfalso;omega)
theorem c1v (hT:S3)(src:List UInt8)(a:Nat)(ha:a<src.length)(hl:src.length<=65536)(hc:B9 src[a]=false)(hd:(d9 src[a]||(src[a]==45&&J9 (src.drop (a+1))))=true):
 Meets Tryz.prog 229 [scP src a] λd=>d=rdD a (l9 (src.drop a)):=by
 have k1:=b2X src a (a+1) true (by omega)
 have hle:=Z2 true (src.drop (a+1))
 rw[List.length_drop] at hle
 have hr:l9 (src.drop a)=K3 ((src.drop a).take (j4 true (src.drop (a+1))+1)) (j4 true (src.drop (a+1))+1):=by
  rw[List.drop_eq_getElem_cons ha,l9,hc,if_neg (by decide),if_pos hd]
 rw[hr]
 generalize hn:j4 true (src.drop (a+1))+1=n at *
 have k1:Meets Tryz.prog 227 [scP src a,iD ((a:Int)+1),bD true] λd=>d=iD (a+n:Nat):=by
  rw[show a+1+j4 true (src.drop (a+1))=a+n by omega] at k1
  exact k1
 have hn':a+n<=src.length:=by omega
 have k2:=a2O src a 2 a n hn' rfl
 have k3:=a2O src a 3 a n hn' rfl
 have e:=b0r src a n
 have hlen:((src.drop a).take n).length<=65536:=by rw[List.length_take,List.length_drop];omega
 have k4:=b8W ((src.drop a).take n) (by unfold maxLen;omega)
 have k5:=b9a hT ((src.drop a).take n) (by omega)
 rw[<-e] at k4 k5
 clear hr hn hle hd hc
 rw[K3]
 refine enter tok {} Tryz.func229 rfl (by kernel_rfl) Tryz.ntmps229 (by simp) λB0 W0 V0 lent g0=>?_
 refine Kw ?_
 repeat'((first|(intro hlq;try simp only[SL] at hlq)|refine Meets.k (k1) ?_|refine K9 ?_|((refine Kh (λhb=>?_) λhb=>?_)<;>try simp only[BL] at hb)|refine K8 ?_)<;>refine Kw ?_)
 refine k9 tok (cf:={}) (by kernel_rfl) [.p 0, .p 1, .p 2, .p 3, .p 4, .p 5, .p 6, .p 7, .p 8, .p 9, .p 10, .p 11] (by kernel_rfl) ?_
 refine Kw ?_
 repeat'((first|(intro hlq;try simp only[SL] at hlq)|refine Ky ?_|refine⟨_,a9w _ _ _,?_⟩|refine K9 ?_|((refine Kh (λhb=>?_) λhb=>?_)<;>try simp only[BL] at hb)|refine K8 ?_)<;>refine Kw ?_)
 repeat'((first|(intro hlq;try simp only[SL] at hlq)|refine Meets.k (k4) ?_|refine Meets.k (k5) ?_|refine Meets.k (k2) ?_|refine Meets.k (k3) ?_|refine K9 ?_|((refine Kh (λhb=>?_) λhb=>?_)<;>try simp only[BL] at hb)|refine K8 ?_)<;>refine Kw ?_)
 all_goals
  rw[e] at *
  refine⟨?_⟩
  simp[tkA, *]
theorem Kyz {l:List UInt8}{i:Int}{E:Prop}(e:E)(h:0<=i/\i<=(l.length:Int):=by omega):((byteCells l).length<=maxLen->0<=i/\i<=((byteCells l).length:Int)/\((byteCells l).length:Int)<=((byteCells l).length:Int)/\∀ds∈byteCells l,ds.length=1)/\E:=
 ⟨λ_=>⟨h.1,by rw[List.length_map];exact h.2,Int.le_refl _,a9x l⟩,e⟩
theorem c1w (src:List UInt8)(a:Nat)(ha:a<src.length)(hl:src.length<=65536)(h34:src[a]=34):
 Meets Tryz.prog 233 [scP src a] λd=>d=rdD a (l9 (src.drop a)):=by
 have hd:src.drop a=34::src.drop (a+1):=by rw[List.drop_eq_getElem_cons ha,h34]
 have kq:=c1s (src.drop a) (by rw[List.length_drop];omega)
 have e:List.drop ((a:Nat):Int).toNat (List.take ((byteCells src).length:Int).toNat (byteCells src))=byteCells (src.drop a):=by
  rw[Int.toNat_natCast,Int.toNat_natCast,List.take_of_length_le (Nat.le_refl _)];simp[byteCells,List.map_drop]
 rw[<-e] at kq
 rw[show(src.drop a).drop 1=src.drop (a+1) by rw[List.drop_drop]] at kq
 have hr:l9 (src.drop a)=match l7 (src.drop (a+1)) with|some (s,n)=>(4,s,n+1)|none=>(0,[],1):=by
  rw[hd,l9,if_neg (by decide),if_neg (by simp;decide),if_pos rfl]
  rfl
 rw[hr]
 clear hr hd e
 cases hq:l7 (src.drop (a+1)) with
 | none=>
   rw[hq] at kq
   have kq:Meets Tryz.prog 234 _ λd=>d= .tup [.str [],iD 0]:=kq
   refine enter tok {} Tryz.func233 rfl (by kernel_rfl) Tryz.ntmps233 (by simp) λB0 W0 V0 lent g0=>?_
   refine Kw ?_
   refine k9 tok (cf:={}) (by kernel_rfl) [.p 0, .p 1, .p 2, .p 3, .p 4, .p 5, .p 6, .p 7, .p 8, .s 9 [8,3,7,2,6,1,5,0,4], .p 10, .p 11, .p 12, .p 13, .p 14] (by kernel_rfl) ?_
   refine Kw ?_
   repeat'((first|(intro hlq;try simp only[SL] at hlq)|refine Kyz ?_|refine Meets.k (kq) ?_|refine K9 ?_|((refine Kh (λhb=>?_) λhb=>?_)<;>try simp only[BL] at hb)|refine K8 ?_)<;>refine Kw ?_)
   . refine k9 tok (cf:={}) (by kernel_rfl) [.p 0, .p 1, .p 2, .p 3, .p 4, .p 5, .s 6 [0], .p 7] (by kernel_rfl) ?_
     refine Kw ?_
     repeat'((first|(intro hlq;try simp only[SL] at hlq)|refine K9 ?_|((refine Kh (λhb=>?_) λhb=>?_)<;>try simp only[BL] at hb)|refine K8 ?_)<;>refine Kw ?_)
     exact⟨rfl⟩
   . exfalso;exact absurd trivial (by assumption)
 | some x=>
   obtain⟨s,n⟩:=x
   have hb:=a4w _ _ (Nat.le_refl _) _ _ hq
   rw[List.length_drop] at hb
   rw[hq] at kq
   have kq:Meets Tryz.prog 234 _ λd=>d= .tup [.str s,iD (n+1:Nat)]:=kq
   refine enter tok {} Tryz.func233 rfl (by kernel_rfl) Tryz.ntmps233 (by simp) λB0 W0 V0 lent g0=>?_
   refine Kw ?_
   refine k9 tok (cf:={}) (by kernel_rfl) [.p 0, .p 1, .p 2, .p 3, .p 4, .p 5, .p 6, .p 7, .p 8, .s 9 [8,3,7,2,6,1,5,0,4], .p 10, .p 11, .p 12, .p 13, .p 14] (by kernel_rfl) ?_
   refine Kw ?_
   repeat'((first|(intro hlq;try simp only[SL] at hlq)|refine Kyz ?_|refine Meets.k (kq) ?_|refine K9 ?_|((refine Kh (λhb=>?_) λhb=>?_)<;>try simp only[BL] at hb)|refine K8 ?_)<;>refine Kw ?_)
   . exfalso;omega
   . refine k9 tok (cf:={}) (by kernel_rfl) [.p 0, .p 1, .p 2, .p 3, .p 4, .p 5, .p 6, .p 7, .p 8, .p 9, .p 10, .p 11, .s 12 [5,0,1,2,3,4], .p 13] (by kernel_rfl) ?_
     refine Kw ?_
     repeat'((first|(intro hlq;try simp only[SL] at hlq)|refine⟨λ_ _=>i64 (by omega) (by omega),?_⟩|refine K9 ?_|((refine Kh (λhb=>?_) λhb=>?_)<;>try simp only[BL] at hb)|refine K8 ?_)<;>refine Kw ?_)
     exact⟨rfl⟩
def S7 (q:Nat)(c:UInt8)(t:List UInt8):Bool:=match q with
 |0=>B9 c
 |1=>d9 c||(c==45&&J9 t)
 |2=>c==34
 |3=>O3 c t
 |4=>sgB c
 |_=>true
abbrev b2J:List (List D):=[[.fn 224 [] [], .fn 225 [] []],[.fn 228 [] [], .fn 229 [] []],[.fn 232 [] [], .fn 233 [] []],[.fn 235 [] [], .fn 237 [] []],[.fn 238 [] [], .fn 239 [] []],[.fn 240 [] [], .fn 241 [] []]]
theorem c1I (hT:S3)(src:List UInt8)(a q:Nat)(ha:a<src.length)(hl:src.length<=65536)(hq:q<6)(hp:∀p<q,S7 p src[a] (src.drop (a+1))=false):
 ∃ F G,b2J[((q:Nat):Int).toNat]?=some [.fn F [] [], .fn G [] []]/\(Meets Tryz.prog F [scP src a] λd=>d=bD (S7 q src[a] (src.drop (a+1))))/\
   (S7 q src[a] (src.drop (a+1))=true->Meets Tryz.prog G [scP src a] λd=>d=rdD a (l9 (src.drop a))):=by
 have hd:=List.drop_eq_getElem_cons ha
 match q,hq with
 |0,_=>exact⟨224,225,rfl,b5J src a ha,λh=>c1t src a ha h⟩
 |1,_=>exact⟨228,229,rfl,b5K src a ha (by omega),λh=>c1v hT src a ha hl (hp 0 (by omega)) h⟩
 |2,_=>exact⟨232,233,rfl,b5L src a ha,λh=>c1w src a ha hl (by simpa[S7] using h)⟩
 | 3,_=>
   refine⟨235,237,rfl,b5M src a ha (by omega),λh=>?_⟩
   have h0:=hp 0 (by omega)
   have h1:=hp 1 (by omega)
   have h2:=hp 2 (by omega)
   simp only[S7] at h h0 h1 h2
   have hlen:a+2<=src.length:=by
    by_cases hlt:a+1<src.length
    . omega
    . rw[List.drop_eq_nil_of_le (by omega)] at h;cases h
   have hr:l9 (src.drop a)=(5,(src.drop a).take 2,2):=by
    rw[hd,l9,h0,if_neg (by decide),h1,if_neg (by decide),if_neg (by simpa using h2),if_pos h]
   rw[hr]
   exact c1x src a hlen (by omega)
 | 4,_=>
   refine⟨238,239,rfl,b5N src a ha,λh=>?_⟩
   have h0:=hp 0 (by omega)
   have h1:=hp 1 (by omega)
   have h2:=hp 2 (by omega)
   have h3:=hp 3 (by omega)
   simp only[S7] at h h0 h1 h2 h3
   have hr:l9 (src.drop a)=(5,[src[a]],1):=by
    rw[hd,l9,h0,if_neg (by decide),h1,if_neg (by decide),if_neg (by simpa using h2),h3,if_neg (by decide),if_pos h]
   rw[hr]
   exact c1y src a ha (by omega)
 | 5,_=>
   refine⟨240,241,rfl,b5O src a,λh=>?_⟩
   have h0:=hp 0 (by omega)
   have h1:=hp 1 (by omega)
   have h2:=hp 2 (by omega)
   have h3:=hp 3 (by omega)
   have h4:=hp 4 (by omega)
   simp only[S7] at h h0 h1 h2 h3 h4
   have hr:l9 (src.drop a)=(0,[],1):=by
    rw[hd,l9,h0,if_neg (by decide),h1,if_neg (by decide),if_neg (by simpa using h2),h3,if_neg (by decide),h4,if_neg (by decide)]
   rw[hr]
   exact c1z src a ha (by omega)
end Go.Proofs.YteillnfhkeebjaaGreatDoor.Dx
/- The scanner's box is made. -/
namespace Go.Proofs.YteillnfhkeebjaaGreatDoor.Dx
open Go Go.RowKit Go.Proofs
set_option maxRecDepth 100000
set_option maxHeartbeats 1000000
abbrev scB (src:List UInt8)(a:Int):List Base:= .d (.sl (byteCells src))::iB a::m7 cls
theorem a7A (src:List UInt8)(a:Int):(scC src a).map Base.d=scB src a:=by
 show _::_::(z8 cls).map Base.d=_
 rw[c3b]
theorem c2j {α:Type}(x y:α)(tb zs:List α)(h:tb.length=zs.length):setRun (x::y::zs) 2 tb=x::y::tb:=by
 apply List.ext_getElem?
 intro j
 rw[A8 tb (x::y::zs) 2 j (by simp;omega)]
 match j with
 |0=>simp
 |1=>simp
 | j +2=>
   by_cases hj:j<tb.length
   . rw[if_pos (by omega)];simp
   . rw[if_neg (by omega)]
     simp only[List.getElem?_cons_succ]
     rw[List.getElem?_eq_none (by omega),List.getElem?_eq_none (by omega)]
theorem b7V (xs:List (List D))(tb:List D)(htl:tb.length=256):F2 (λi=>(([(0,1),(1,1),(2,256)]:List (Nat×Nat)).drop i).head?) (.sl []::iD 0::List.replicate 256 (cD 0)) [(0, .sl xs),(2, .agg tb)]=some (.sl xs::iD 0::tb):=by
 have h1:F2 (λi=>(([(0,1),(1,1),(2,256)]:List (Nat×Nat)).drop i).head?) (.sl []::iD 0::List.replicate 256 (cD 0)) [(0, .sl xs),(2, .agg tb)]=F2 (λi=>(([(0,1),(1,1),(2,256)]:List (Nat×Nat)).drop i).head?) (.sl xs::iD 0::List.replicate 256 (cD 0)) [(2, .agg tb)]:=by
  rw[F2]
  rfl
 rw[h1]
 unfold F2
 dsimp only[a0x,List.drop,List.head?]
 rw[htl]
 show F2 _ (setRun _ 2 tb) []=_
 rw[c2j _ _ _ _ (by rw[htl,List.length_replicate])]
 rfl
theorem b5X (xs:List (List D))(tb:List D)(htl:tb.length=256)(kd:D->Prop)(h:kd (.agg (.sl xs::iD 0::tb))):a0U T (.build 248 #[(0, .tmp 15),(2, .tmp 16)]) [.sl xs, .agg tb] kd:=by
 obtain⟨ti,hti⟩:∃ti,b7 248 T=some ti:=⟨_,rfl⟩
 obtain⟨fs,hfs⟩:∃fs,ti.desc= .struct fs:=by cases hti;exact⟨_,rfl⟩
 have hz:Y2 (cellsL ti.zero)=some (.sl []::iD 0::List.replicate 256 (cD 0)):=by cases hti;kernel_rfl
 have hp:O5 T fs.toList=some [(0,1),(1,1),(2,256)]:=by cases hti;cases hfs;kernel_rfl
 unfold a0U
 simp only[hti,hz,hfs,hp]
 show match F2 _ _ [(0,D.sl xs),(2,D.agg tb)] with|some r=>kd (.agg r)|none=>False
 rw[b7V xs tb htl]
 exact h
theorem c2Z (n:Nat)(f:Nat->Int):(m7 f).any (p0 n)=false:=by
 rw[List.any_eq_false]
 intro b hb
 obtain⟨d,_,rfl⟩:=List.mem_map.1 hb
 simp[p0]
theorem b5U {cf:Cfg}{xs:List UInt8}{st:SSt}{k:SSt->Prop}(hO:st.O=[])(hnm:cf.nm=[])(hc:q7 18 st=true)(h:k (put {st with O:=[(18, .box (scB xs 0) 248)]} (some 18) (.loc 18 0))):
 Y8 cf.nm st (some 18) 248 (scB xs 0) k:=by
 unfold Y8
 dsimp only
 rw[hnm]
 show match q7 18 st&& !(scB xs 0).any (p0 18) with|false=>False|true=>_
 have e:(scB xs 0).any (p0 18)=false:=by
  show(false||(false||(m7 cls).any (p0 18)))=false
  rw[c2Z];rfl
 rw[hc,e]
 show k (put {st with O:=(18, .box (scB xs 0) 248)::st.O} _ _)
 rw[hO]
 exact h
theorem b5T {cf:Cfg}{xs:List UInt8}{st:SSt}{k:SSt->Prop}{kp:D->SSt->Prop}(hO:st.O=[])(hnm:cf.nm=[])(hc:q7 18 st=true)(h:k (put {st with O:=[(18, .box (scB xs 0) 248)]} (some 18) (.loc 18 0))):
 vcS Tryz.prog T cf (.box 248 (.tmp 17)) (some 18) [.d (.agg (.sl (byteCells xs)::iD 0::z8 cls))] st k kp:=by
 obtain⟨ti,hti⟩:∃ti,b7 248 T=some ti:=⟨_,rfl⟩
 have hs:ti.size=258:=by cases hti;rfl
 unfold vcS
 simp only[hti]
 show match X1 st.O (.d (.agg (.sl (byteCells xs)::iD 0::z8 cls))) with|some cs=>(match Nat.beq cs.length ti.size with|true=>O6 cs λcs=>Y8 cf.nm st (some 18) 248 cs k|false=>False)|none=>False
 have e:X1 st.O (.d (.agg (.sl (byteCells xs)::iD 0::z8 cls)))=some (scB xs 0):=by
  show some ((scC xs 0).map Base.d)=_
  rw[a7A]
 have hl:(scB xs 0).length=258:=by
  show(m7 cls).length+1+1=258
  rw[N1]
 rw[e]
 dsimp only
 rw[hl,hs]
 show O6 (scB xs 0) _
 rw[a1V]
 exact b5U hO hnm hc h
theorem a8E {P:Program}{T:List (Nat×TI)}{N:Nat}{cf:Cfg}{all:Array Oper}{o:Oper}{st:SSt}{k:SSt->Prop}{kp:D->SSt->Prop}{d:Nat}(hd:o.dst=some d)(hN:Nat.blt d N=true)(hg:o.guard=none)
 (h:B7 st o.op.operands.toList λbs=>vcS P T cf o.op (some d) bs st k kp):a1j P T N cf all o st k kp:=by
 obtain⟨dst,op,ty,pos,af,gd⟩:=o
 cases hd
 cases hg
 unfold a1j
 dsimp only
 rw[hN]
 exact h
theorem b0X {st:SSt}{t:Nat}{b:Base}{k:List Base->Prop}(h:b7 t st.L=some b)(hk:k [b]):B7 st [.tmp t] k:=by
 unfold B7 J8
 dsimp only
 rw[h]
 exact hk
theorem c1L {cf:Cfg}{all:Array Oper}{kp:D->SSt->Prop}{k:SSt->Prop}{xs:List UInt8}{tb:List D}(htb:tb=z8 cls){L:List (Nat×Base)}{p:List Nat}{y1 y2 y3:TypeId}{p1 p2 p3:String}{a1 a2 a3:Array Edge}(hnm:cf.nm=[])(hpr:j1 17 cf.priv=false)
 (h16:b7 16 L=some (.d (.agg tb))) (h15:b7 15 L=some (.d (.sl (byteCells xs)))) (hc:q7 18 ⟨(17, .d (.agg (.sl (byteCells xs)::iD 0::tb)))::L,[],p⟩=true)
 (h:k ⟨(5, .loc 18 0)::(18, .loc 18 0)::(17, .d (.agg (.sl (byteCells xs)::iD 0::tb)))::L,[(18, .box (scB xs 0) 248)],p⟩):
 V8 Tryz.prog T 130 cf all kp [⟨some 17, .build 248 #[(0, .tmp 15),(2, .tmp 16)],y1,p1,a1,none⟩,⟨some 18, .box 248 (.tmp 17),y2,p2,a2,none⟩,⟨some 5, .assign (.tmp 18),y3,p3,a3,none⟩] ⟨L,[],p⟩ k:=by
 unfold V8
 refine a8E rfl rfl rfl ?_
 show J8 _ (.tmp 15) λb=>J8 _ (.tmp 16) λb'=>_
 unfold J8
 dsimp only
 rw[h15,h16]
 dsimp only
 unfold vcS
 dsimp only
 rw[hpr]
 have hv:n9 [] [Base.d (D.sl (byteCells xs)),Base.d (D.agg tb)]=some [D.sl (byteCells xs),D.agg tb]:=rfl
 simp only[List.map_nil,B7]
 rw[hv]
 dsimp only
 unfold vcP
 simp only[a6W]
 rw[hv]
 dsimp only
 unfold vcV
 dsimp only
 unfold a0V
 rw[hv]
 show a0U T (.build 248 #[(0, .tmp 15),(2, .tmp 16)]) [.sl (byteCells xs), .agg tb] _
 refine b5X _ _ (by rw[htb];exact a4U cls) _ ?_
 show Q5 _ _
 rw[U2]
 unfold V8
 refine a8E rfl rfl rfl (b0X (t:=17) rfl ?_)
 subst htb
 refine b5T rfl hnm hc ?_
 rw[U2]
 unfold V8
 refine a8E rfl rfl rfl (b0X (t:=18) rfl ?_)
 unfold vcS
 dsimp only
 unfold vcP
 simp only[a6W]
 unfold vcV
 dsimp only
 rw[U2]
 exact h
theorem C6 (O:List (Nat×Blk))(src:List UInt8)(a:Int):S1 O (scB src a) (scB src a):=⟨rfl,rfl,J3 _ _⟩
theorem a4b {F:FuncId}{ds:List D}{R:D->Prop}{src:List UInt8}{a:Int}{bs:List Base}(h:Meets Tryz.prog F ds R)(hl:a2e 18 (scC src a) bs=some ds)(hk:∀d,R d->C9 d=true):
 MeetsR Tryz.prog F bs [(18, .box (scB src a) 248)] λo O'=>∃d,o= .ret (.d d)/\O'=[(18, .box (scB src a) 248)]/\R d:=by
 rw[<-a7A]
 exact b9D h [(18, .box ((scC src a).map .d) 248)] rfl hl hk
theorem a3s (d:D)(src:List UInt8)(a:Int):H3 (.d d) [(18, .box (scB src a) 248)]=true:=by
 rw[<-a7A];exact b6n _ _ _ _
end Go.Proofs.YteillnfhkeebjaaGreatDoor.Dx
