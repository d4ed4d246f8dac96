/- The scanner's other readers,and all of them in a row. -/
import Derived.Test.YtaopegkpjhkooaaGreatDoorFu
import Derived.Test.YtaopegkpjhkooaaGreatDoorFp
set_option linter.all false
namespace Go.Proofs.YtaopegkpjhkooaaGreatDoor.Dx
open Go Go.RowKit Go.Proofs
set_option maxRecDepth 100000
set_option maxHeartbeats 8000000
abbrev C2:Prop:=∀s:List UInt8,s.length<=1048576->Meets Tryz.prog 101 [.str s] λd=>d=a1J s
theorem b7Y (hT:C2)(s:List UInt8)(hs:s.length<=1048576):Meets Tryz.prog 48 [.str s] λd=>d=bD (B9 s).isSome:=by
 have k:=hT s hs
 unfold a1J at k
 cases ht:B9 s with
 | none=>
   rw[ht] at k
   refine enter tok {} Tryz.func48 rfl (by kernel_rfl) Tryz.ntmps48 (by simp) λB0 W0 V0 lent g0=>?_
   refine Kw ?_
   repeat'((first|(intro hlq;try simp only[SL] at hlq)|refine Meets.k (k) ?_|refine K9 ?_|((refine Kh (λhb=>?_) λhb=>?_)<;>try simp only[BL] at hb)|refine K8 ?_)<;>refine Kw ?_)
   all_goals first|exact⟨rfl⟩|(exfalso;omega)
 | some v=>
   rw[ht] at k
   refine enter tok {} Tryz.func48 rfl (by kernel_rfl) Tryz.ntmps48 (by simp) λB0 W0 V0 lent g0=>?_
   refine Kw ?_
   repeat'((first|(intro hlq;try simp only[SL] at hlq)|refine Meets.k (k) ?_|refine K9 ?_|((refine Kh (λhb=>?_) λhb=>?_)<;>try simp only[BL] at hb)|refine K8 ?_)<;>refine Kw ?_)
   all_goals first|exact⟨rfl⟩|(exfalso;omega)
theorem c0p (hT:C2)(src:List UInt8)(a:Nat)(ha:a<src.length)(hl:src.length<=65536)(hc:B6 src[a]=false)(hd:(d9 src[a]||(src[a]==45&&P9 (src.drop (a+1))))=true):
 Meets Tryz.prog 88 [scP src a] λd=>d=rdD a (s7 (src.drop a)):=by
 have k1:=b2O src a (a+1) true (by omega)
 have hle:=a1B true (src.drop (a+1))
 rw[List.length_drop] at hle
 have hr:s7 (src.drop a)=S5 ((src.drop a).take (p4 true (src.drop (a+1))+1)) (p4 true (src.drop (a+1))+1):=by
  rw[List.drop_eq_getElem_cons ha,s7,hc,if_neg (by decide),if_pos hd]
 rw[hr]
 generalize hn:p4 true (src.drop (a+1))+1=n at *
 have k1:Meets Tryz.prog 86 [scP src a,iD ((a:Int)+1),bD true] λd=>d=iD (a+n:Nat):=by
  rw[show a+1+p4 true (src.drop (a+1))=a+n by omega] at k1
  exact k1
 have hn':a+n<=src.length:=by omega
 have k2:=a4o src a 2 a n hn' rfl
 have k3:=a4o src a 3 a n hn' rfl
 have e:=b0L src a n
 have hlen:((src.drop a).take n).length<=65536:=by rw[List.length_take,List.length_drop];omega
 have k4:=b7V ((src.drop a).take n) (by unfold maxLen;omega)
 have k5:=b7Y hT ((src.drop a).take n) (by omega)
 rw[<-e] at k4 k5
 clear hr hn hle hd hc
 rw[S5]
 refine enter tok {} Tryz.func88 rfl (by kernel_rfl) Tryz.ntmps88 (by simp) λB0 W0 V0 lent g0=>?_
 refine Kw ?_
 repeat'((first|(intro hlq;try simp only[SL] at hlq)|refine Meets.k (k1) ?_|refine K9 ?_|((refine Kh (λhb=>?_) λhb=>?_)<;>try simp only[BL] at hb)|refine K8 ?_)<;>refine Kw ?_)
 refine j9 tok (cf:={}) (by kernel_rfl) [.p 0, .p 1, .p 2, .p 3, .p 4, .p 5, .p 6, .p 7, .p 8, .p 9, .p 10, .p 11] (by kernel_rfl) ?_
 refine Kw ?_
 repeat'((first|(intro hlq;try simp only[SL] at hlq)|refine Ky ?_|refine⟨_,a9S _ _ _,?_⟩|refine K9 ?_|((refine Kh (λhb=>?_) λhb=>?_)<;>try simp only[BL] at hb)|refine K8 ?_)<;>refine Kw ?_)
 repeat'((first|(intro hlq;try simp only[SL] at hlq)|refine Meets.k (k4) ?_|refine Meets.k (k5) ?_|refine Meets.k (k2) ?_|refine Meets.k (k3) ?_|refine K9 ?_|((refine Kh (λhb=>?_) λhb=>?_)<;>try simp only[BL] at hb)|refine K8 ?_)<;>refine Kw ?_)
 all_goals
  rw[e] at *
  refine⟨?_⟩
  simp[tkA, *]
theorem Kyz {l:List UInt8}{i:Int}{E:Prop}(e:E)(h:0<=i/\i<=(l.length:Int):=by omega):((o8 l).length<=maxLen->0<=i/\i<=((o8 l).length:Int)/\((o8 l).length:Int)<=((o8 l).length:Int)/\∀ds∈o8 l,ds.length=1)/\E:=
 ⟨λ_=>⟨h.1,by rw[List.length_map];exact h.2,Int.le_refl _,a9T l⟩,e⟩
theorem c0q (src:List UInt8)(a:Nat)(ha:a<src.length)(hl:src.length<=65536)(h34:src[a]=34):
 Meets Tryz.prog 90 [scP src a] λd=>d=rdD a (s7 (src.drop a)):=by
 have hd:src.drop a=34::src.drop (a+1):=by rw[List.drop_eq_getElem_cons ha,h34]
 have kq:=c0n (src.drop a) (by rw[List.length_drop];omega)
 have e:List.drop ((a:Nat):Int).toNat (List.take ((o8 src).length:Int).toNat (o8 src))=o8 (src.drop a):=by
  rw[Int.toNat_natCast,Int.toNat_natCast,List.take_of_length_le (Nat.le_refl _)];simp[o8,List.map_drop]
 rw[<-e] at kq
 rw[show(src.drop a).drop 1=src.drop (a+1) by rw[List.drop_drop]] at kq
 have hr:s7 (src.drop a)=match r6 (src.drop (a+1)) with|some (s,n)=>(4,s,n+1)|none=>(0,[],1):=by
  rw[hd,s7,if_neg (by decide),if_neg (by simp;decide),if_pos rfl]
  rfl
 rw[hr]
 clear hr hd e
 cases hq:r6 (src.drop (a+1)) with
 | none=>
   rw[hq] at kq
   have kq:Meets Tryz.prog 91 _ λd=>d= .tup [.str [],iD 0]:=kq
   refine enter tok {} Tryz.func90 rfl (by kernel_rfl) Tryz.ntmps90 (by simp) λB0 W0 V0 lent g0=>?_
   refine Kw ?_
   refine j9 tok (cf:={}) (by kernel_rfl) [.p 0, .p 1, .p 2, .p 3, .p 4, .p 5, .p 6, .p 7, .p 8, .s 9 [8,3,7,2,6,1,5,0,4], .p 10, .p 11, .p 12, .p 13, .p 14] (by kernel_rfl) ?_
   refine Kw ?_
   repeat'((first|(intro hlq;try simp only[SL] at hlq)|refine Kyz ?_|refine Meets.k (kq) ?_|refine K9 ?_|((refine Kh (λhb=>?_) λhb=>?_)<;>try simp only[BL] at hb)|refine K8 ?_)<;>refine Kw ?_)
   . refine j9 tok (cf:={}) (by kernel_rfl) [.p 0, .p 1, .p 2, .p 3, .p 4, .p 5, .s 6 [0], .p 7] (by kernel_rfl) ?_
     refine Kw ?_
     repeat'((first|(intro hlq;try simp only[SL] at hlq)|refine K9 ?_|((refine Kh (λhb=>?_) λhb=>?_)<;>try simp only[BL] at hb)|refine K8 ?_)<;>refine Kw ?_)
     exact⟨rfl⟩
   . exfalso;exact absurd trivial (by assumption)
 | some x=>
   obtain⟨s,n⟩:=x
   have hb:=a5M _ _ (Nat.le_refl _) _ _ hq
   rw[List.length_drop] at hb
   rw[hq] at kq
   have kq:Meets Tryz.prog 91 _ λd=>d= .tup [.str s,iD (n+1:Nat)]:=kq
   refine enter tok {} Tryz.func90 rfl (by kernel_rfl) Tryz.ntmps90 (by simp) λB0 W0 V0 lent g0=>?_
   refine Kw ?_
   refine j9 tok (cf:={}) (by kernel_rfl) [.p 0, .p 1, .p 2, .p 3, .p 4, .p 5, .p 6, .p 7, .p 8, .s 9 [8,3,7,2,6,1,5,0,4], .p 10, .p 11, .p 12, .p 13, .p 14] (by kernel_rfl) ?_
   refine Kw ?_
   repeat'((first|(intro hlq;try simp only[SL] at hlq)|refine Kyz ?_|refine Meets.k (kq) ?_|refine K9 ?_|((refine Kh (λhb=>?_) λhb=>?_)<;>try simp only[BL] at hb)|refine K8 ?_)<;>refine Kw ?_)
   . exfalso;omega
   . refine j9 tok (cf:={}) (by kernel_rfl) [.p 0, .p 1, .p 2, .p 3, .p 4, .p 5, .p 6, .p 7, .p 8, .p 9, .p 10, .p 11, .s 12 [5,0,1,2,3,4], .p 13] (by kernel_rfl) ?_
     refine Kw ?_
     repeat'((first|(intro hlq;try simp only[SL] at hlq)|refine⟨λ_ _=>i64 (by omega) (by omega),?_⟩|refine K9 ?_|((refine Kh (λhb=>?_) λhb=>?_)<;>try simp only[BL] at hb)|refine K8 ?_)<;>refine Kw ?_)
     exact⟨rfl⟩
def a0p (q:Nat)(c:UInt8)(t:List UInt8):Bool:=match q with
 |0=>B6 c
 |1=>d9 c||(c==45&&P9 t)
 |2=>c==34
 |3=>Y0 c t
 |4=>sgB c
 |_=>true
abbrev b2z:List (List D):=[[.fn 83 [] [], .fn 84 [] []],[.fn 87 [] [], .fn 88 [] []],[.fn 89 [] [], .fn 90 [] []],[.fn 92 [] [], .fn 94 [] []],[.fn 95 [] [], .fn 96 [] []],[.fn 97 [] [], .fn 98 [] []]]
theorem c0E (hT:C2)(src:List UInt8)(a q:Nat)(ha:a<src.length)(hl:src.length<=65536)(hq:q<6)(hp:∀p<q,a0p p src[a] (src.drop (a+1))=false):
 ∃ F G,b2z[((q:Nat):Int).toNat]?=some [.fn F [] [], .fn G [] []]/\(Meets Tryz.prog F [scP src a] λd=>d=bD (a0p q src[a] (src.drop (a+1))))/\
   (a0p q src[a] (src.drop (a+1))=true->Meets Tryz.prog G [scP src a] λd=>d=rdD a (s7 (src.drop a))):=by
 have hd:=List.drop_eq_getElem_cons ha
 match q,hq with
 |0,_=>exact⟨83,84,rfl,b5k src a ha,λh=>c0o src a ha h⟩
 |1,_=>exact⟨87,88,rfl,b5l src a ha (by omega),λh=>c0p hT src a ha hl (hp 0 (by omega)) h⟩
 |2,_=>exact⟨89,90,rfl,b5m src a ha,λh=>c0q src a ha hl (by simpa[a0p] using h)⟩
 | 3,_=>
   refine⟨92,94,rfl,b5n src a ha (by omega),λh=>?_⟩
   have h0:=hp 0 (by omega)
   have h1:=hp 1 (by omega)
   have h2:=hp 2 (by omega)
   simp only[a0p] at h h0 h1 h2
   have hlen:a+2<=src.length:=by
    by_cases hlt:a+1<src.length
    . omega
    . rw[List.drop_eq_nil_of_le (by omega)] at h;cases h
   have hr:s7 (src.drop a)=(5,(src.drop a).take 2,2):=by
    rw[hd,s7,h0,if_neg (by decide),h1,if_neg (by decide),if_neg (by simpa using h2),if_pos h]
   rw[hr]
   exact c0r src a hlen (by omega)
 | 4,_=>
   refine⟨95,96,rfl,b5o src a ha,λh=>?_⟩
   have h0:=hp 0 (by omega)
   have h1:=hp 1 (by omega)
   have h2:=hp 2 (by omega)
   have h3:=hp 3 (by omega)
   simp only[a0p] at h h0 h1 h2 h3
   have hr:s7 (src.drop a)=(5,[src[a]],1):=by
    rw[hd,s7,h0,if_neg (by decide),h1,if_neg (by decide),if_neg (by simpa using h2),h3,if_neg (by decide),if_pos h]
   rw[hr]
   exact c0s src a ha (by omega)
 | 5,_=>
   refine⟨97,98,rfl,b5p src a,λh=>?_⟩
   have h0:=hp 0 (by omega)
   have h1:=hp 1 (by omega)
   have h2:=hp 2 (by omega)
   have h3:=hp 3 (by omega)
   have h4:=hp 4 (by omega)
   simp only[a0p] at h h0 h1 h2 h3 h4
   have hr:s7 (src.drop a)=(0,[],1):=by
    rw[hd,s7,h0,if_neg (by decide),h1,if_neg (by decide),if_neg (by simpa using h2),h3,if_neg (by decide),h4,if_neg (by decide)]
   rw[hr]
   exact c0t src a ha (by omega)
end Go.Proofs.YtaopegkpjhkooaaGreatDoor.Dx
/- The scanner's box is made. -/
namespace Go.Proofs.YtaopegkpjhkooaaGreatDoor.Dx
open Go Go.RowKit Go.Proofs
set_option maxRecDepth 100000
set_option maxHeartbeats 1000000
abbrev scB (src:List UInt8)(a:Int):List Base:= .d (.sl (o8 src))::iB a::t6 cls
theorem a8f (src:List UInt8)(a:Int):(scC src a).map Base.d=scB src a:=by
 show _::_::(E2 cls).map Base.d=_
 rw[c2K]
theorem c1r {α:Type}(x y:α)(tb zs:List α)(h:tb.length=zs.length):setRun (x::y::zs) 2 tb=x::y::tb:=by
 apply List.ext_getElem?
 intro j
 rw[E7 tb (x::y::zs) 2 j (by simp;omega)]
 match j with
 |0=>simp
 |1=>simp
 | j +2=>
   by_cases hj:j<tb.length
   . rw[if_pos (by omega)];simp
   . rw[if_neg (by omega)]
     simp only[List.getElem?_cons_succ]
     rw[List.getElem?_eq_none (by omega),List.getElem?_eq_none (by omega)]
theorem b7m (xs:List (List D))(tb:List D)(htl:tb.length=256):M6 (λi=>(([(0,1),(1,1),(2,256)]:List (Nat×Nat)).drop i).head?) (.sl []::iD 0::List.replicate 256 (cD 0)) [(0, .sl xs),(2, .agg tb)]=some (.sl xs::iD 0::tb):=by
 have h1:M6 (λi=>(([(0,1),(1,1),(2,256)]:List (Nat×Nat)).drop i).head?) (.sl []::iD 0::List.replicate 256 (cD 0)) [(0, .sl xs),(2, .agg tb)]=M6 (λi=>(([(0,1),(1,1),(2,256)]:List (Nat×Nat)).drop i).head?) (.sl xs::iD 0::List.replicate 256 (cD 0)) [(2, .agg tb)]:=by
  rw[M6]
  rfl
 rw[h1]
 unfold M6
 dsimp only[a2g,List.drop,List.head?]
 rw[htl]
 show M6 _ (setRun _ 2 tb) []=_
 rw[c1r _ _ _ _ (by rw[htl,List.length_replicate])]
 rfl
theorem b5x (xs:List (List D))(tb:List D)(htl:tb.length=256)(kd:D->Prop)(h:kd (.agg (.sl xs::iD 0::tb))):a2I T (.build 113 #[(0, .tmp 15),(2, .tmp 16)]) [.sl xs, .agg tb] kd:=by
 obtain⟨ti,hti⟩:∃ti,c8 113 T=some ti:=⟨_,rfl⟩
 obtain⟨fs,hfs⟩:∃fs,ti.desc= .struct fs:=by cases hti;exact⟨_,rfl⟩
 have hz:a1q (cellsL ti.zero)=some (.sl []::iD 0::List.replicate 256 (cD 0)):=by cases hti;kernel_rfl
 have hp:Y2 T fs.toList=some [(0,1),(1,1),(2,256)]:=by cases hti;cases hfs;kernel_rfl
 unfold a2I
 simp only[hti,hz,hfs,hp]
 show match M6 _ _ [(0,D.sl xs),(2,D.agg tb)] with|some r=>kd (.agg r)|none=>False
 rw[b7m xs tb htl]
 exact h
theorem c2I (n:Nat)(f:Nat->Int):(t6 f).any (z1 n)=false:=by
 rw[List.any_eq_false]
 intro b hb
 obtain⟨d,_,rfl⟩:=List.mem_map.1 hb
 simp[z1]
theorem b5w {cf:Cfg}{xs:List UInt8}{st:SSt}{k:SSt->Prop}(hO:st.O=[])(hnm:cf.nm=[])(hc:z8 18 st=true)(h:k (put {st with O:=[(18, .box (scB xs 0) 113)]} (some 18) (.loc 18 0))):
 a1w cf.nm st (some 18) 113 (scB xs 0) k:=by
 unfold a1w
 dsimp only
 rw[hnm]
 show match z8 18 st&& !(scB xs 0).any (z1 18) with|false=>False|true=>_
 have e:(scB xs 0).any (z1 18)=false:=by
  show(false||(false||(t6 cls).any (z1 18)))=false
  rw[c2I];rfl
 rw[hc,e]
 show k (put {st with O:=(18, .box (scB xs 0) 113)::st.O} _ _)
 rw[hO]
 exact h
theorem b5v {cf:Cfg}{xs:List UInt8}{st:SSt}{k:SSt->Prop}{kp:D->SSt->Prop}(hO:st.O=[])(hnm:cf.nm=[])(hc:z8 18 st=true)(h:k (put {st with O:=[(18, .box (scB xs 0) 113)]} (some 18) (.loc 18 0))):
 vcS Tryz.prog T cf (.box 113 (.tmp 17)) (some 18) [.d (.agg (.sl (o8 xs)::iD 0::E2 cls))] st k kp:=by
 obtain⟨ti,hti⟩:∃ti,c8 113 T=some ti:=⟨_,rfl⟩
 have hs:ti.size=258:=by cases hti;rfl
 unfold vcS
 simp only[hti]
 show match a0Z st.O (.d (.agg (.sl (o8 xs)::iD 0::E2 cls))) with|some cs=>(match Nat.beq cs.length ti.size with|true=>Y4 cs λcs=>a1w cf.nm st (some 18) 113 cs k|false=>False)|none=>False
 have e:a0Z st.O (.d (.agg (.sl (o8 xs)::iD 0::E2 cls)))=some (scB xs 0):=by
  show some ((scC xs 0).map Base.d)=_
  rw[a8f]
 have hl:(scB xs 0).length=258:=by
  show(t6 cls).length+1+1=258
  rw[V9]
 rw[e]
 dsimp only
 rw[hl,hs]
 show Y4 (scB xs 0) _
 rw[a3C]
 exact b5w hO hnm hc h
theorem a9c {P:Program}{T:List (Nat×TI)}{N:Nat}{cf:Cfg}{all:Array Oper}{o:Oper}{st:SSt}{k:SSt->Prop}{kp:D->SSt->Prop}{d:Nat}(hd:o.dst=some d)(hN:Nat.blt d N=true)(hg:o.guard=none)
 (h:F2 st o.op.operands.toList λbs=>vcS P T cf o.op (some d) bs st k kp):a2S P T N cf all o st k kp:=by
 obtain⟨dst,op,ty,pos,af,gd⟩:=o
 cases hd
 cases hg
 unfold a2S
 dsimp only
 rw[hN]
 exact h
theorem b1o {st:SSt}{t:Nat}{b:Base}{k:List Base->Prop}(h:c8 t st.L=some b)(hk:k [b]):F2 st [.tmp t] k:=by
 unfold F2 R7
 dsimp only
 rw[h]
 exact hk
theorem c0H {cf:Cfg}{all:Array Oper}{kp:D->SSt->Prop}{k:SSt->Prop}{xs:List UInt8}{tb:List D}(htb:tb=E2 cls){L:List (Nat×Base)}{p:List Nat}{y1 y2 y3:TypeId}{p1 p2 p3:String}{a1 a2 a3:Array Edge}(hnm:cf.nm=[])(hpr:o4 17 cf.priv=false)
 (h16:c8 16 L=some (.d (.agg tb))) (h15:c8 15 L=some (.d (.sl (o8 xs)))) (hc:z8 18 ⟨(17, .d (.agg (.sl (o8 xs)::iD 0::tb)))::L,[],p⟩=true)
 (h:k ⟨(5, .loc 18 0)::(18, .loc 18 0)::(17, .d (.agg (.sl (o8 xs)::iD 0::tb)))::L,[(18, .box (scB xs 0) 113)],p⟩):
 a0L Tryz.prog T 130 cf all kp [⟨some 17, .build 113 #[(0, .tmp 15),(2, .tmp 16)],y1,p1,a1,none⟩,⟨some 18, .box 113 (.tmp 17),y2,p2,a2,none⟩,⟨some 5, .assign (.tmp 18),y3,p3,a3,none⟩] ⟨L,[],p⟩ k:=by
 unfold a0L
 refine a9c rfl rfl rfl ?_
 show R7 _ (.tmp 15) λb=>R7 _ (.tmp 16) λb'=>_
 unfold R7
 dsimp only
 rw[h15,h16]
 dsimp only
 unfold vcS
 dsimp only
 rw[hpr]
 have hv:w9 [] [Base.d (D.sl (o8 xs)),Base.d (D.agg tb)]=some [D.sl (o8 xs),D.agg tb]:=rfl
 simp only[List.map_nil,F2]
 rw[hv]
 dsimp only
 unfold vcP
 simp only[a7N]
 rw[hv]
 dsimp only
 unfold vcV
 dsimp only
 unfold a2J
 rw[hv]
 show a2I T (.build 113 #[(0, .tmp 15),(2, .tmp 16)]) [.sl (o8 xs), .agg tb] _
 refine b5x _ _ (by rw[htb];exact a6c cls) _ ?_
 show Z5 _ _
 rw[a0C]
 unfold a0L
 refine a9c rfl rfl rfl (b1o (t:=17) rfl ?_)
 subst htb
 refine b5v rfl hnm hc ?_
 rw[a0C]
 unfold a0L
 refine a9c rfl rfl rfl (b1o (t:=18) rfl ?_)
 unfold vcS
 dsimp only
 unfold vcP
 simp only[a7N]
 unfold vcV
 dsimp only
 rw[a0C]
 exact h
theorem G9 (O:List (Nat×Blk))(src:List UInt8)(a:Int):a0V O (scB src a) (scB src a):=⟨rfl,rfl,R3 _ _⟩
theorem a5t {F:FuncId}{ds:List D}{R:D->Prop}{src:List UInt8}{a:Int}{bs:List Base}(h:Meets Tryz.prog F ds R)(hl:a3K 18 (scC src a) bs=some ds)(hk:∀d,R d->H4 d=true):
 MeetsR Tryz.prog F bs [(18, .box (scB src a) 113)] λo O'=>∃d,o= .ret (.d d)/\O'=[(18, .box (scB src a) 113)]/\R d:=by
 rw[<-a8f]
 exact b8E h [(18, .box ((scC src a).map .d) 113)] rfl hl hk
theorem a4T (d:D)(src:List UInt8)(a:Int):X8 (.d d) [(18, .box (scB src a) 113)]=true:=by
 rw[<-a8f];exact b5S _ _ _ _
end Go.Proofs.YtaopegkpjhkooaaGreatDoor.Dx
