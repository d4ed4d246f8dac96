/- The. -/
import Derived.Test.YteillnfhkeebjaaGreatDoorXk
set_option linter.all false
namespace Go.Proofs.YteillnfhkeebjaaGreatDoor.Dx
open Go Go.RowKit Go.Proofs
set_option maxRecDepth 100000
set_option maxHeartbeats 8000000
abbrev R7:Prop:=∀s:List UInt8,s.length<=1048576->Mt 244 [.str s] λd=>d=a5m s
theorem c7D (hT:R7)(s:List UInt8)(hs:s.length<=1048576):Mt 231 [.str s] λd=>d=bD (I9 s).isSome:=by
 have k:=hT s hs;unfold a5m at k;cases ht:I9 s with
 | none=>
   rw[ht] at k;refine En {} Tryz.func231 Tryz.ntmps231 λ_ _ _ _ _=>?_;refine Kw ?_;repeat'((first|(intro hlq;try simp only[SL] at hlq)|refine Meets.k (k) ?_|refine K9 ?_|((refine Kh (λhb=>?_) λhb=>?_)<;>try simp only[BL] at hb)|refine K8 ?_)<;>refine Kw ?_)
   all_goals first|exact⟨rfl⟩|(exfalso;omega)
 | some v=>
   rw[ht] at k;refine En {} Tryz.func231 Tryz.ntmps231 λ_ _ _ _ _=>?_;refine Kw ?_;repeat'((first|(intro hlq;try simp only[SL] at hlq)|refine Meets.k (k) ?_|refine K9 ?_|((refine Kh (λhb=>?_) λhb=>?_)<;>try simp only[BL] at hb)|refine K8 ?_)<;>refine Kw ?_)
   all_goals first|exact⟨rfl⟩|(exfalso;omega)
theorem d0F (hT:R7)(src:List UInt8)(a:Nat)(ha:a<src.length)(hl:src.length<=65536)(hc:L7 src[a]=false)(hd:(p4 src[a]||(src[a]==45&&a0C (src.drop (a+1))))=true):
 Mt 229 [scP src a] λd=>d=rdD a (C4 (src.drop a)):=by
 have k1:=b9W src a (a+1) true (by omega);have hle:=a5b true (src.drop (a+1));rw[K2] at hle;have hr:C4 (src.drop a)=a1n ((src.drop a).take (A0 true (src.drop (a+1))+1)) (A0 true (src.drop (a+1))+1):=by
  rw[F2 ha,C4,hc,c8 (by decide),d4 hd]
 rw[hr];generalize hn:A0 true (src.drop (a+1))+1=n at *;have k1:Mt 227 [scP src a,iD ((a:Int)+1),bD true] λd=>d=iD (a+n:Nat):=by
  rw[show a+1+A0 true (src.drop (a+1))=a+n by omega] at k1;exact k1
 have hn':a+n<=src.length:=by omega
 have k2:=a8I src a 2 a n hn' rfl;have k3:=a8I src a 3 a n hn' rfl;have e:=b7f src a n;have hlen:((src.drop a).take n).length<=65536:=by rw[R5,K2];omega
 have k4:=c7y ((src.drop a).take n) (by unfold maxLen;omega);have k5:=c7D hT ((src.drop a).take n) (by omega);rw[<-e] at k4 k5;clear hr hn hle hd hc;rw[a1n];refine En {} Tryz.func229 Tryz.ntmps229 λ_ _ _ _ _=>?_;refine Kw ?_;repeat'((first|(intro hlq;try simp only[SL] at hlq)|refine Meets.k (k1) ?_|refine K9 ?_|((refine Kh (λhb=>?_) λhb=>?_)<;>try simp only[BL] at hb)|refine K8 ?_)<;>refine Kw ?_)
 refine Dr {} [.p 0, .p 1, .p 2, .p 3, .p 4, .p 5, .p 6, .p 7, .p 8, .p 9, .p 10, .p 11] ?_;refine Kw ?_;repeat'((first|(intro hlq;try simp only[SL] at hlq)|refine Ky ?_|refine⟨_,b6b _ _ _,?_⟩|refine K9 ?_|((refine Kh (λhb=>?_) λhb=>?_)<;>try simp only[BL] at hb)|refine K8 ?_)<;>refine Kw ?_)
 repeat'((first|(intro hlq;try simp only[SL] at hlq)|refine Meets.k (k4) ?_|refine Meets.k (k5) ?_|refine Meets.k (k2) ?_|refine Meets.k (k3) ?_|refine K9 ?_|((refine Kh (λhb=>?_) λhb=>?_)<;>try simp only[BL] at hb)|refine K8 ?_)<;>refine Kw ?_)
 all_goals
  rw[e] at *;refine⟨?_⟩;simp[tkA, *]
theorem Kyz {l:List UInt8}{i:Int}{E:Prop}(e:E)(h:0<=i/\i<=(l.length:Int):=by omega):((byteCells l).length<=maxLen->0<=i/\i<=((byteCells l).length:Int)/\((byteCells l).length:Int)<=((byteCells l).length:Int)/\∀ds∈byteCells l,ds.length=1)/\E:=
 ⟨λ_=>⟨h.1,by rw[o9];exact h.2,a0o _,b6c l⟩,e⟩
theorem d0G (src:List UInt8)(a:Nat)(ha:a<src.length)(hl:src.length<=65536)(h34:src[a]=34):
 Mt 233 [scP src a] λd=>d=rdD a (C4 (src.drop a)):=by
 have hd:src.drop a=34::src.drop (a+1):=by rw[F2 ha,h34]
 have kq:=d0D (src.drop a) (by rw[K2];omega);have e:List.drop ((a:Nat):Int).toNat (List.take ((byteCells src).length:Int).toNat (byteCells src))=byteCells (src.drop a):=by
  rw[U4,U4,y6 (p0 _)];simp[byteCells,List.map_drop]
 rw[<-e] at kq;rw[show(src.drop a).drop 1=src.drop (a+1) by rw[a5A]] at kq;have hr:C4 (src.drop a)=match B9 (src.drop (a+1)) with|some (s,n)=>(4,s,n+1)|none=>(0,[],1):=by
  rw[hd,C4,c8 (by decide),c8 (by simp;decide),d4 rfl];rfl
 rw[hr];clear hr hd e;cases hq:B9 (src.drop (a+1)) with
 | none=>
   rw[hq] at kq;have kq:Mt 234 _ λd=>d= .tup [.str [],iD 0]:=kq;refine En {} Tryz.func233 Tryz.ntmps233 λ_ _ _ _ _=>?_;refine Kw ?_;refine Dr {} [.p 0, .p 1, .p 2, .p 3, .p 4, .p 5, .p 6, .p 7, .p 8, .s 9 [8,3,7,2,6,1,5,0,4], .p 10, .p 11, .p 12, .p 13, .p 14] ?_;refine Kw ?_;repeat'((first|(intro hlq;try simp only[SL] at hlq)|refine Kyz ?_|refine Meets.k (kq) ?_|refine K9 ?_|((refine Kh (λhb=>?_) λhb=>?_)<;>try simp only[BL] at hb)|refine K8 ?_)<;>refine Kw ?_)
   . refine Dr {} [.p 0, .p 1, .p 2, .p 3, .p 4, .p 5, .s 6 [0], .p 7] ?_;refine Kw ?_;repeat'((first|(intro hlq;try simp only[SL] at hlq)|refine K9 ?_|((refine Kh (λhb=>?_) λhb=>?_)<;>try simp only[BL] at hb)|refine K8 ?_)<;>refine Kw ?_)
     exact⟨rfl⟩
   . exfalso;exact absurd trivial (by assumption)
 | some x=>
   obtain⟨s,n⟩:=x;have hb:=b0D _ _ (p0 _) _ _ hq;rw[K2] at hb;rw[hq] at kq;have kq:Mt 234 _ λd=>d= .tup [.str s,iD (n+1:Nat)]:=kq;refine En {} Tryz.func233 Tryz.ntmps233 λ_ _ _ _ _=>?_;refine Kw ?_;refine Dr {} [.p 0, .p 1, .p 2, .p 3, .p 4, .p 5, .p 6, .p 7, .p 8, .s 9 [8,3,7,2,6,1,5,0,4], .p 10, .p 11, .p 12, .p 13, .p 14] ?_;refine Kw ?_;repeat'((first|(intro hlq;try simp only[SL] at hlq)|refine Kyz ?_|refine Meets.k (kq) ?_|refine K9 ?_|((refine Kh (λhb=>?_) λhb=>?_)<;>try simp only[BL] at hb)|refine K8 ?_)<;>refine Kw ?_)
   . exfalso;omega
   . refine Dr {} [.p 0, .p 1, .p 2, .p 3, .p 4, .p 5, .p 6, .p 7, .p 8, .p 9, .p 10, .p 11, .s 12 [5,0,1,2,3,4], .p 13] ?_;refine Kw ?_;repeat'((first|(intro hlq;try simp only[SL] at hlq)|refine⟨λ_ _=>i64 (by omega) (by omega),?_⟩|refine K9 ?_|((refine Kh (λhb=>?_) λhb=>?_)<;>try simp only[BL] at hb)|refine K8 ?_)<;>refine Kw ?_)
     exact⟨rfl⟩
def a3x (q:Nat)(c:UInt8)(t:List UInt8):Bool:=match q with
 |0=>L7 c
 |1=>p4 c||(c==45&&a0C t)
 |2=>c==34
 |3=>a2w c t
 |4=>sgB c
 |_=>true
abbrev b9K:List (List D):=[[.fn 224 [] [], .fn 225 [] []],[.fn 228 [] [], .fn 229 [] []],[.fn 232 [] [], .fn 233 [] []],[.fn 235 [] [], .fn 237 [] []],[.fn 238 [] [], .fn 239 [] []],[.fn 240 [] [], .fn 241 [] []]]
theorem d0T (hT:R7)(src:List UInt8)(a q:Nat)(ha:a<src.length)(hl:src.length<=65536)(hq:q<6)(hp:∀p<q,a3x p src[a] (src.drop (a+1))=false):
 ∃ F G,b9K[((q:Nat):Int).toNat]?=some [.fn F [] [], .fn G [] []]/\(Mt F [scP src a] λd=>d=bD (a3x q src[a] (src.drop (a+1))))/\
   (a3x q src[a] (src.drop (a+1))=true->Mt G [scP src a] λd=>d=rdD a (C4 (src.drop a))):=by
 have hd:=F2 ha;match q,hq with
 |0,_=>exact⟨224,225,rfl,c3A src a ha,λh=>d0E src a ha h⟩
 |1,_=>exact⟨228,229,rfl,c3B src a ha (by omega),λh=>d0F hT src a ha hl (hp 0 (by omega)) h⟩
 |2,_=>exact⟨232,233,rfl,c3C src a ha,λh=>d0G src a ha hl (by simpa[a3x] using h)⟩
 | 3,_=>
   refine⟨235,237,rfl,c3D src a ha (by omega),λh=>?_⟩;have h0:=hp 0 (by omega);have h1:=hp 1 (by omega);have h2:=hp 2 (by omega);simp only[a3x] at h h0 h1 h2;have hlen:a+2<=src.length:=by
    by_cases hlt:a+1<src.length
    . omega
    . rw[a0U (by omega)] at h;cases h
   have hr:C4 (src.drop a)=(5,(src.drop a).take 2,2):=by
    rw[hd,C4,h0,c8 (by decide),h1,c8 (by decide),c8 (by simpa using h2),d4 h]
   rw[hr];exact d0H src a hlen (by omega)
 | 4,_=>
   refine⟨238,239,rfl,c3E src a ha,λh=>?_⟩;have h0:=hp 0 (by omega);have h1:=hp 1 (by omega);have h2:=hp 2 (by omega);have h3:=hp 3 (by omega);simp only[a3x] at h h0 h1 h2 h3;have hr:C4 (src.drop a)=(5,[src[a]],1):=by
    rw[hd,C4,h0,c8 (by decide),h1,c8 (by decide),c8 (by simpa using h2),h3,c8 (by decide),d4 h]
   rw[hr];exact d0I src a ha (by omega)
 | 5,_=>
   refine⟨240,241,rfl,c3F src a,λh=>?_⟩;have h0:=hp 0 (by omega);have h1:=hp 1 (by omega);have h2:=hp 2 (by omega);have h3:=hp 3 (by omega);have h4:=hp 4 (by omega);simp only[a3x] at h h0 h1 h2 h3 h4;have hr:C4 (src.drop a)=(0,[],1):=by
    rw[hd,C4,h0,c8 (by decide),h1,c8 (by decide),c8 (by simpa using h2),h3,c8 (by decide),h4,c8 (by decide)]
   rw[hr];exact d0J src a ha (by omega)
set_option maxHeartbeats 1000000
abbrev scB (src:List UInt8)(a:Int):List Base:= .d (.sl (byteCells src))::iB a::C7 cls
theorem b3M (src:List UInt8)(a:Int):(scC src a).map Base.d=scB src a:=by
 show _::_::(N6 cls).map Base.d=_;rw[d3f]
theorem d1E {α:Type}(x y:α)(tb zs:List α)(h:tb.length=zs.length):setRun (x::y::zs) 2 tb=x::y::tb:=by
 apply O0;intro j;rw[Q2 tb (x::y::zs) 2 j (by simp;omega)];match j with
 |0=>simp
 |1=>simp
 | j +2=>
   by_cases hj:j<tb.length
   . rw[d4 (by omega)];simp
   . rw[c8 (by omega)];simp only[List.getElem?_cons_succ];rw[z6 (by omega),z6 (by omega)]
theorem c6s (xs:List (List D))(tb:List D)(htl:tb.length=256):Z8 (λi=>(([(0,1),(1,1),(2,256)]:List (Nat×Nat)).drop i).head?) (.sl []::iD 0::List.replicate 256 (cD 0)) [(0, .sl xs),(2, .agg tb)]=some (.sl xs::iD 0::tb):=by
 have h1:Z8 (λi=>(([(0,1),(1,1),(2,256)]:List (Nat×Nat)).drop i).head?) (.sl []::iD 0::List.replicate 256 (cD 0)) [(0, .sl xs),(2, .agg tb)]=Z8 (λi=>(([(0,1),(1,1),(2,256)]:List (Nat×Nat)).drop i).head?) (.sl xs::iD 0::List.replicate 256 (cD 0)) [(2, .agg tb)]:=by
  rw[Z8];rfl
 rw[h1];unfold Z8;dsimp only[a5X,List.drop,List.head?];rw[htl];show Z8 _ (setRun _ 2 tb) []=_;rw[d1E _ _ _ _ (by rw[htl,List.length_replicate])];rfl
theorem c3N (xs:List (List D))(tb:List D)(htl:tb.length=256)(kd:D->Prop)(h:kd (.agg (.sl xs::iD 0::tb))):a6y T (.build 248 #[(0, .tmp 15),(2, .tmp 16)]) [.sl xs, .agg tb] kd:=by
 obtain⟨ti,hti⟩:∃ti,d7 248 T=some ti:=⟨_,rfl⟩
 obtain⟨fs,hfs⟩:∃fs,ti.desc= .struct fs:=by cases hti;exact⟨_,rfl⟩
 have hz:a4O (cellsL ti.zero)=some (.sl []::iD 0::List.replicate 256 (cD 0)):=by cases hti;kernel_rfl
 have hp:a2y T fs.toList=some [(0,1),(1,1),(2,256)]:=by cases hti;cases hfs;kernel_rfl
 unfold a6y;simp only[hti,hz,hfs,hp];show match Z8 _ _ [(0,D.sl xs),(2,D.agg tb)] with|some r=>kd (.agg r)|none=>False
 rw[c6s xs tb htl];exact h
theorem d3d (n:Nat)(f:Nat->Int):(C7 f).any (F6 n)=false:=by
 rw[List.any_eq_false];intro b hb;obtain⟨d,_,rfl⟩:=v6.1 hb;simp[F6]
theorem c3L {cf:Cfg}{xs:List UInt8}{st:SSt}{k:SSt->Prop}(hO:st.O=[])(hnm:cf.nm=[])(hc:F9 18 st=true)(h:k (put {st with O:=[(18, .box (scB xs 0) 248)]} (some 18) (.loc 18 0))):
 a4V cf.nm st (some 18) 248 (scB xs 0) k:=by
 unfold a4V;dsimp only;rw[hnm];show match F9 18 st&& !(scB xs 0).any (F6 18) with|false=>False|true=>_
 have e:(scB xs 0).any (F6 18)=false:=by
  show(false||(false||(C7 cls).any (F6 18)))=false;rw[d3d];rfl
 rw[hc,e];show k (put {st with O:=(18, .box (scB xs 0) 248)::st.O} _ _);rw[hO];exact h
theorem c3K {cf:Cfg}{xs:List UInt8}{st:SSt}{k:SSt->Prop}{kp:D->SSt->Prop}(hO:st.O=[])(hnm:cf.nm=[])(hc:F9 18 st=true)(h:k (put {st with O:=[(18, .box (scB xs 0) 248)]} (some 18) (.loc 18 0))):
 vcS Tryz.prog T cf (.box 248 (.tmp 17)) (some 18) [.d (.agg (.sl (byteCells xs)::iD 0::N6 cls))] st k kp:=by
 obtain⟨ti,hti⟩:∃ti,d7 248 T=some ti:=⟨_,rfl⟩
 have hs:ti.size=258:=by cases hti;rfl
 unfold vcS;simp only[hti];show match a4w st.O (.d (.agg (.sl (byteCells xs)::iD 0::N6 cls))) with|some cs=>(match Nat.beq cs.length ti.size with|true=>a2z cs λcs=>a4V cf.nm st (some 18) 248 cs k|false=>False)|none=>False
 have e:a4w st.O (.d (.agg (.sl (byteCells xs)::iD 0::N6 cls)))=some (scB xs 0):=by
  show some ((scC xs 0).map Base.d)=_;rw[b3M]
 have hl:(scB xs 0).length=258:=by
  show(C7 cls).length+1+1=258;rw[a1Y]
 rw[e];dsimp only;rw[hl,hs];show a2z (scB xs 0) _;rw[a7O];exact c3L hO hnm hc h
theorem b4U {P:Program}{T:List (Nat×TI)}{N:Nat}{cf:Cfg}{all:Array Oper}{o:Oper}{st:SSt}{k:SSt->Prop}{kp:D->SSt->Prop}{d:Nat}(hd:o.dst=some d)(hN:Nat.blt d N=true)(hg:o.guard=none)
 (h:Q9 st o.op.operands.toList λbs=>vcS P T cf o.op (some d) bs st k kp):a6L P T N cf all o st k kp:=by
 obtain⟨dst,op,ty,pos,af,gd⟩:=o;cases hd;cases hg;unfold a6L;dsimp only;rw[hN];exact h
theorem b7O {st:SSt}{t:Nat}{b:Base}{k:List Base->Prop}(h:d7 t st.L=some b)(hk:k [b]):Q9 st [.tmp t] k:=by
 unfold Q9 a1i;dsimp only;rw[h];exact hk
theorem d0W {cf:Cfg}{all:Array Oper}{kp:D->SSt->Prop}{k:SSt->Prop}{xs:List UInt8}{tb:List D}(htb:tb=N6 cls){L:List (Nat×Base)}{p:List Nat}{y1 y2 y3:TypeId}{p1 p2 p3:String}{a1 a2 a3:Array Edge}(hnm:cf.nm=[])(hpr:w6 17 cf.priv=false)
 (h16:d7 16 L=some (.d (.agg tb))) (h15:d7 15 L=some (.d (.sl (byteCells xs)))) (hc:F9 18 ⟨(17, .d (.agg (.sl (byteCells xs)::iD 0::tb)))::L,[],p⟩=true)
 (h:k ⟨(5, .loc 18 0)::(18, .loc 18 0)::(17, .d (.agg (.sl (byteCells xs)::iD 0::tb)))::L,[(18, .box (scB xs 0) 248)],p⟩):
 a3Z Tryz.prog T 130 cf all kp [⟨some 17, .build 248 #[(0, .tmp 15),(2, .tmp 16)],y1,p1,a1,none⟩,⟨some 18, .box 248 (.tmp 17),y2,p2,a2,none⟩,⟨some 5, .assign (.tmp 18),y3,p3,a3,none⟩] ⟨L,[],p⟩ k:=by
 unfold a3Z;refine b4U rfl rfl rfl ?_;show a1i _ (.tmp 15) λb=>a1i _ (.tmp 16) λb'=>_;unfold a1i;dsimp only;rw[h15,h16];dsimp only;unfold vcS;dsimp only;rw[hpr];have hv:D8 [] [Base.d (D.sl (byteCells xs)),Base.d (D.agg tb)]=some [D.sl (byteCells xs),D.agg tb]:=rfl;simp only[B8,Q9];rw[hv];dsimp only;unfold vcP;simp only[b3k];rw[hv];dsimp only;unfold vcV;dsimp only;unfold a6z;rw[hv];show a6y T (.build 248 #[(0, .tmp 15),(2, .tmp 16)]) [.sl (byteCells xs), .agg tb] _;refine c3N _ _ (by rw[htb];exact b0Z cls) _ ?_;show a2N _ _;rw[a3P];unfold a3Z;refine b4U rfl rfl rfl (b7O (t:=17) rfl ?_);subst htb;refine c3K rfl hnm hc ?_;rw[a3P];unfold a3Z;refine b4U rfl rfl rfl (b7O (t:=18) rfl ?_);unfold vcS;dsimp only;unfold vcP;simp only[b3k];unfold vcV;dsimp only;rw[a3P];exact h
theorem S9 (O:List (Nat×Blk))(src:List UInt8)(a:Int):a3r O (scB src a) (scB src a):=⟨rfl,rfl,a0Y _ _⟩
theorem b0g {F:FuncId}{ds:List D}{R:D->Prop}{src:List UInt8}{a:Int}{bs:List Base}(h:Mt F ds R)(hl:a7X 18 (scC src a) bs=some ds)(hk:∀d,R d->T3 d=true):
 MR F bs [(18, .box (scB src a) 248)] λo O'=>∃d,o= .ret (.d d)/\O'=[(18, .box (scB src a) 248)]/\R d:=by
 rw[<-b3M];exact c8n h [(18, .box ((scC src a).map .d) 248)] rfl hl hk
theorem a9y (d:D)(src:List UInt8)(a:Int):a0x (.d d) [(18, .box (scB src a) 248)]=true:=by
 rw[<-b3M];exact c4j _ _ _ _
end Go.Proofs.YteillnfhkeebjaaGreatDoor.Dx
