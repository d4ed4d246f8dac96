/- Tokens. -/
import Derived.Test.YteillnfhkeebjaaGreatDoorXl
set_option linter.all false
namespace Go.Proofs.YteillnfhkeebjaaGreatDoor.Dx
open Go Go.RowKit Go.Proofs
set_option maxRecDepth 100000
set_option maxHeartbeats 1000000
def tkC (t:Tk):List D:=[iD t.kind, .str t.text,iD t.at_]
def prC (y:Nat):List D:=[iD y,iD 50]
abbrev c0P (src:List UInt8):D:= .tup [.sl ((toks src 0).map tkC), .sl ((bads src 0 (-1) 0).map prC),iD 0]
structure TAt (src:List UInt8) (a:Nat) (acc:List Tk) (nb:List Nat) (en:Int):Prop where
 le:a<=src.length
 tl:acc.length<=a
 bl:nb.length<=a
 en0: -1<=en/\en<=src.length
 tk:acc++toks (src.drop a) a=toks src 0
 bd:nb++bads (src.drop a) a en nb.length=bads src 0 (-1) 0
theorem TAt.zero (src:List UInt8):TAt src 0 [] [] (-1):=⟨F4 _,p0 _,p0 _,by omega,rfl,rfl⟩
theorem TAt.step {src:List UInt8}{a:Nat}{acc:List Tk}{nb:List Nat}{en:Int}(h:TAt src a acc nb en)(ha:a<src.length){k:Nat}{s:List UInt8}{n:Nat}(hs:w7 (src.drop a)=(k,s,n)):
 1 <=n/\a+n<=src.length/\(a1j k=true->k≠0->TAt src (a+n) (acc++[⟨k,s,a⟩]) nb en)/\(a1j k=false->k≠0->TAt src (a+n) acc nb en)/\
   (k=0->((a:Int)≠en/\nb.length<64->TAt src (a+n) acc (nb++[a]) (a+n:Nat))/\(¬((a:Int)≠en/\nb.length<64)->TAt src (a+n) acc nb (a+n:Nat))):=by
 have hd:=F2 ha;rw[hd] at hs;have hle:=a5f src[a] (src.drop (a+1));rw[hs,K2] at hle;dsimp only at hle;have htk:=h.tk;have hbd:=h.bd;rw[hd,a8O,hs] at htk;rw[hd,b1T,hs] at hbd;have hdd:(src[a]::src.drop (a+1)).drop n=src.drop (a+n):=by rw[<-hd,a5A]
 dsimp only at htk hbd;rw[hdd] at htk hbd;have h1:=h.le;have h2:=h.tl;have h3:=h.bl;have h4:=h.en0;refine⟨hle.1,by omega,λhk h0=>?_,λhk h0=>?_,λh0=>⟨λhc=>?_,λhc=>?_⟩⟩
 . rw[d4 hk] at htk;rw[c8 h0] at hbd;exact⟨by omega,by simp;omega,by omega,h4,by rw[n9];exact htk,hbd⟩
 . rw[c8 (by rw[hk];decide)] at htk;rw[c8 h0] at hbd;exact⟨by omega,by omega,by omega,h4,htk,hbd⟩
 . subst h0;rw[c8 (by decide)] at htk;rw[d4 rfl,d4 hc] at hbd;exact⟨by omega,by omega,by simp;omega,by omega,htk,by rw[n9,j6];exact hbd⟩
 . subst h0;rw[c8 (by decide)] at htk;rw[d4 rfl,c8 hc] at hbd;exact⟨by omega,by omega,by omega,by omega,htk,hbd⟩
theorem d0P (c:UInt8)(t:List UInt8):(C4 (c::t)).1<=5:=by
 simp only[C4,a1n];repeat' split
 all_goals (dsimp only;omega)
theorem b6w (b:UInt8):(cls b.toNat=1)↔blB b=true:=by
 rw[<-(a5R b).2.2.2];simp
theorem d2F {src:List UInt8}{j:Nat}(hj:j<src.length)(hb:blB src[j]=true):w7 (src.drop j)=(7,[],1):=by
 rw[F2 hj,w7,d4 hb]
theorem d2G {src:List UInt8}{j:Nat}(hj:j<src.length)(hb:src[j]=35):w7 (src.drop j)=(7,[],V9 (src.drop j)):=by
 rw[F2 hj,w7,hb,c8 (by decide),d4 rfl,V9,c8 (by decide)]
theorem d2J {src:List UInt8}{j:Nat}(hj:j<src.length)(hb:blB src[j]=false)(hc:src[j]≠35):w7 (src.drop j)=C4 (src.drop j):=by
 rw[F2 hj,w7,c8 (by rw[hb];decide),c8 hc]
theorem b3Z {src:List UInt8}{q:Nat}(hq:q<src.length):((src[q].toNat:Int)=10->V9 (src.drop q)=0)/\(¬(src[q].toNat:Int)=10->V9 (src.drop q)=V9 (src.drop (q+1))+1):=by
 have h10:src[q]=10↔(src[q].toNat:Int)=10:=a2a (n:=10) (by decide);rw[F2 hq,V9];exact⟨λh=>d4 (h10.2 h),λh=>c8 (λe=>h (h10.1 e))⟩
theorem d2n {src:List UInt8}:V9 (src.drop src.length)=0:=by rw[a5B];rfl
theorem Kst {src:List UInt8}{a:Int}{E:Prop}(e:E):0+1<(scB src a).length/\E:=⟨by show _<(C7 cls).length+1+1;rw[a1Y];omega,e⟩
theorem d0U:Mt 187 [] λd=>d= .sl b9K:=by
 refine En {} Tryz.func187 Tryz.ntmps187 λ_ _ _ _ _=>?_;refine Kw ?_;repeat'((first|(intro hlq;try simp only[SL] at hlq)|refine K9 ?_|refine K8 ?_)<;>refine Kw ?_)
 exact⟨rfl⟩
abbrev A6:Cfg:={sym:=[18],rs:=[32,82,88]}
theorem c3T (hT:R7)(src:List UInt8)(hl:src.length<=65536):Mt 120 [.sl (byteCells src)] λd=>d=c0P src:=by
 refine En A6 Tryz.func120 Tryz.ntmps120 λ_ _ _ _ _=>?_;((conv=>whnf);repeat'((fail_if_success (refine a4j 3 ?_));(fail_if_success (refine a5y 3 ?_));refine Y A6 rfl ?_;conv=>whnf))
 refine c2l ?_;((conv=>whnf);repeat'((fail_if_success (refine a4j 3 ?_));(fail_if_success (refine a5y 3 ?_));refine Y A6 rfl ?_;conv=>whnf))
 repeat'((first|(intro hlq;try simp only[SL] at hlq)|refine K9 ?_|refine K8 ?_)<;>((conv=>whnf);repeat'((fail_if_success (refine a4j 3 ?_));(fail_if_success (refine a5y 3 ?_));refine Y A6 rfl ?_;conv=>whnf)))
 refine⟨λh0=>?_,λh0=>?_⟩<;>(try simp only[BL] at h0)<;>((conv=>whnf);repeat'((fail_if_success (refine a4j 3 ?_));(fail_if_success (refine a5y 3 ?_));refine Y A6 rfl ?_;conv=>whnf))
 . exfalso;omega
 refine b5t (b6S tok (cf:=A6) (X:=Unit) (λ_=>⟨[(5, .loc 18 0),(4,iB 0),(3, .full []),(2, .full []),(0, .d (.sl (byteCells src)))],[(18, .box (scB src (0:Nat)) 248)],[]⟩) (λ_=>True) ?_ (λ_ _=>?_))
 . conv=>whnf
   obtain⟨tb,htb⟩:∃tb,tb=N6 cls:=⟨_,rfl⟩
   have hc:Mt 186 [] λd=>d= .agg tb:=by rw[htb];exact b6o
   refine Meets.k hc ?_;show a2N _ _;rw[a3P];refine d0W htb rfl rfl rfl rfl rfl ?_;refine⟨⟨(),?_,d9⟩⟩;repeat'(first|exact S9 _ _ _|exact d9|exact rfl|refine d8 ?_ ?_)
 refine Kv A6 ?_;refine Meets.k d0U ?_;refine Kv A6 ?_;refine c2i ?_;refine Kv A6 ?_;refine o4 tok A6 [(.inl 2,2,208,3),(.inl 3,3,201,2)] (X:=Nat×List Tk×List Nat×Int) (λx=>[(7,iB x.2.2.2),(2, .own 2),(3, .own 3)]) (λx=>[(18, .box (scB src x.1) 248),(2, .sl ⟨208,3,x.2.1.map tkC,true⟩),(3, .sl ⟨201,2,x.2.2.1.map prC,true⟩)]) [] (λx=>TAt src x.1 x.2.1 x.2.2.1 x.2.2.2) (λx=>src.length-x.1) (0,[],[],-1) ?_;refine Kv A6 ?_;refine⟨by simp,?_⟩;refine Kv A6 ?_;refine⟨by simp,?_⟩;refine Kv A6 ?_;refine d8 ?_ ⟨TAt.zero src,λx hΦ=>?_⟩
 . repeat'(first|exact S9 _ _ _|exact d9|exact rfl|refine d8 ?_ ?_)
 obtain⟨a,acc,nb,en⟩:=x;dsimp only at hΦ⊢;have ha:=hΦ.le;have hen:=hΦ.en0;have htl:=hΦ.tl;have hbl:=hΦ.bl;refine Kv A6 ?_;refine⟨_,rfl,?_⟩;refine Kv A6 ?_;repeat'((first|(intro hlq;try simp only[SL] at hlq)|refine K9 ?_|refine K8 ?_)<;>refine Kv A6 ?_)
 refine⟨λh1=>?_,λh1=>?_⟩<;>(try simp only[BL] at h1)<;>refine Kv A6 ?_
 . have h1' :a<src.length:=by omega
   have hstep:=λ{k s n} h=> @TAt.step src a acc nb en hΦ h1' k s n h;refine⟨_,rfl,?_⟩;refine Kv A6 ?_;refine⟨[(18, .box (scB src a) 248)],[.loc 18 0,iB a],⟨?_,?_⟩,(b0g (src:=src) (a:=a) (a4A src a a) rfl (by rintro _ rfl;rfl)).mono ?_⟩
   . exact Kr
   . exact⟨⟨rfl,S9 _ _ _⟩,d9⟩
   rintro o O2 ⟨d,rfl,rfl,rfl⟩;dsimp only;rw[a9y];refine Kv A6 ?_;rw[a9z h1'];refine⟨λh2=>?_,λh2=>?_⟩<;>(try simp only[BL] at h2)<;>refine Kv A6 ?_
   . obtain⟨s1,s2,_,s4,_⟩:=hstep (d2F h1' ((b6w _).1 h2));refine⟨_,rfl,?_⟩;refine Kv A6 ?_;repeat'((first|(intro hlq;try simp only[SL] at hlq)|refine Kst ?_|refine K9 ?_|((refine Kh (λhb=>?_) λhb=>?_)<;>try simp only[BL] at hb)|refine K8 ?_)<;>refine Kv A6 ?_)
     refine⟨⟨(a+1,acc,nb,en),?_,s4 rfl (by decide),by dsimp only;omega⟩⟩;repeat'(first|exact S9 _ _ _|exact d9|exact rfl|refine d8 ?_ ?_)
   have hnb:blB src[a]=false:=by
    cases hx:blB src[a]
    . rfl
    . exact absurd ((b6w _).2 hx) h2
   have h35:src[a]=35↔(src[a].toNat:Int)=35:=a2a (n:=35) (by decide);refine⟨_,rfl,?_⟩;refine Kv A6 ?_;repeat'((first|(intro hlq;try simp only[SL] at hlq)|refine K9 ?_|refine Ka ?_|refine Kb ?_|refine Kc (hd:=rfl) (e:=?_)|refine Kc (hd:=rfl) (e:=?_)|refine Kd (e:=?_)|refine Kl rfl ?_|fail)<;>refine Kv A6 ?_)
   refine⟨λh3=>?_,λh3=>?_⟩<;>(try simp only[BL] at h3)<;>refine Kv A6 ?_
   . obtain ⟨s1,s2,_,s4,_⟩:=hstep (d2G h1' (h35.2 h3));have hsk:=(b3Z h1').2 (by omega);refine o4 tok A6 [] (X:=Nat) (λ_=>[]) (λq=>[(18, .box (scB src q) 248)]) [] (λq=>q<=src.length/\q+V9 (src.drop q)=a+V9 (src.drop a)) (λq=>src.length-q) a ?_;refine Kv A6 ?_;refine d8 ?_ ⟨⟨by omega,rfl⟩,λq hq=>?_⟩
     . repeat'(first|exact S9 _ _ _|exact d9|exact rfl|refine d8 ?_ ?_)
     obtain⟨hq,he⟩:=hq;refine Kv A6 ?_;refine⟨_,rfl,?_⟩;refine Kv A6 ?_;repeat'((first|(intro hlq;try simp only[SL] at hlq)|refine⟨_,rfl,?_⟩|refine Kst ?_|refine K9 ?_|((refine Kh (λhb=>?_) λhb=>?_)<;>try simp only[BL] at hb)|refine Ka ?_|refine Kb ?_|refine Kc (hd:=rfl) (e:=?_)|refine Kc (hd:=rfl) (e:=?_)|refine Kd (e:=?_)|refine Kl rfl ?_|fail)<;>refine Kv A6 ?_)
     . have h2':q<src.length:=by omega
       refine⟨⟨q+1,?_,⟨by omega,?_⟩,by omega⟩⟩
       . repeat'(first|exact S9 _ _ _|exact d9|exact rfl|refine d8 ?_ ?_)
       . have:=(b3Z h2').2 (by assumption);omega
     . have h2':q<src.length:=by omega
       have hq0:=(b3Z h2').1 (by omega);refine⟨⟨(q,acc,nb,en),?_,?_,by dsimp only;omega⟩⟩
       . repeat'(first|exact S9 _ _ _|exact d9|exact rfl|refine d8 ?_ ?_)
       . dsimp only;rw[show q=a+V9 (src.drop a) by omega];exact s4 rfl (by decide)
     . obtain rfl:q=src.length:=by omega
       rw[d2n] at he;refine⟨⟨(src.length,acc,nb,en),?_,?_,by dsimp only;omega⟩⟩
       . repeat'(first|exact S9 _ _ _|exact d9|exact rfl|refine d8 ?_ ?_)
       . dsimp only;rw[show src.length=a+V9 (src.drop a) by omega];exact s4 rfl (by decide)
   . have hr :=d2J h1' hnb (λe=>h3 (h35.1 e));have hkd:(C4 (src.drop a)).1<=5:=by rw[F2 h1'];exact d0P _ _
     have hread:=λq hq hp=>d0T hT src a q h1' hl hq hp;rcases hx:C4 (src.drop a) with⟨k,s,n⟩
     rw[hx] at hr hkd;simp only[hx] at hread;have hS:=hstep hr;dsimp only at hkd;clear hr hstep hx h35 hnb h3;repeat'((first|(intro hlq;try simp only[SL] at hlq)|refine K9 ?_|refine K8 ?_)<;>refine Kv A6 ?_)
     refine o4 tok A6 [] (X:=Nat) (λq=>[(75,iB q),(7,iB en),(2, .own 2),(3, .own 3)]) (λ_=>[]) [] (λq=>q<6/\∀p<q,a3x p src[a] (src.drop (a+1))=false) (λq=>6-q) 0 ?_;refine Kv A6 ?_;refine d8 ?_ ⟨⟨by omega,by omega⟩,λq hq=>?_⟩
     . repeat'(first|exact S9 _ _ _|exact d9|exact rfl|refine d8 ?_ ?_)
     obtain⟨hq,hp⟩:=hq;obtain⟨F,G,hel,kb,kr⟩:=hread q hq hp;refine Kv A6 ?_;refine⟨λh4=>?_,λh4=>?_⟩<;>(try simp only[BL] at h4)<;>refine Kv A6 ?_
     . refine ⟨_,⟨by omega,hel,rfl⟩,?_⟩;refine Kv A6 ?_;refine⟨[(18, .box (scB src a) 248)],[.loc 18 0],⟨?_,?_⟩,(b0g (src:=src) (a:=a) (kb) rfl (by rintro _ rfl;rfl)).mono ?_⟩
       . exact Kr
       . exact⟨⟨rfl,S9 _ _ _⟩,d9⟩
       rintro o O2 ⟨d,rfl,rfl,rfl⟩;dsimp only;rw[a9y];refine Kv A6 ?_;refine⟨λh5=>?_,λh5=>?_⟩<;>(try simp only[BL] at h5)<;>refine Kv A6 ?_
       . repeat' ((first|(intro hlq;try simp only[SL] at hlq)|refine K9 ?_|refine K8 ?_)<;>refine Kv A6 ?_)
         refine⟨⟨q+1,?_,⟨?_,?_⟩,by omega⟩⟩
         . repeat'(first|exact S9 _ _ _|exact d9|exact rfl|refine d8 ?_ ?_)
         . have h6:q≠5:=by rintro rfl;cases h5
           omega
         . intro p hp';by_cases e:p=q
           . rw[e];exact h5
           . exact hp p (by omega)
       have kr:=kr h5;clear hread kb hp hel h5;by_cases hk0:k=0
       . subst hk0;obtain⟨s1,s2,_,_,s5⟩:=hS;obtain⟨t1,t2⟩:=s5 rfl;have kr:Mt G [scP src a] λd=>d= .tup [tkD 0 [] 0,iD (a+n:Nat)]:=kr;refine⟨[(18, .box (scB src a) 248)],[.loc 18 0],⟨?_,?_⟩,(b0g (src:=src) (a:=a) (kr) rfl (by rintro _ rfl;rfl)).mono ?_⟩
         . exact Kr
         . exact⟨⟨rfl,S9 _ _ _⟩,d9⟩
         rintro o O2 ⟨d,rfl,rfl,rfl⟩;dsimp only;rw[a9y];refine Kv A6 ?_;repeat'((first|(intro hlq;try simp only[SL] at hlq)|refine⟨_,rfl,?_⟩|refine Kar ?_|refine Kap ?_|refine Kst ?_|refine K9 ?_|((refine Kh (λhb=>?_) λhb=>?_)<;>try simp only[BL] at hb)|refine K8 ?_)<;>refine Kv A6 ?_)
         all_goals first
          |contradiction
          |(exfalso;omega)
          | (refine⟨⟨(a+n,acc,nb++[a],((a+n:Nat):Int)),?_,t1 ⟨by omega,by simp only[o9] at *;omega⟩,by dsimp only;omega⟩⟩
             dsimp only;repeat'(first|exact S9 _ _ _|exact d9|exact rfl|(simp only[D3];rfl)|refine d8 ?_ ?_))
          | (refine⟨⟨(a+n,acc,nb,((a+n:Nat):Int)),?_,t2 (by simp only[o9] at *;omega),by dsimp only;omega⟩⟩
             dsimp only;repeat'(first|exact S9 _ _ _|exact d9|exact rfl|(simp only[D3];rfl)|refine d8 ?_ ?_))
       . obtain ⟨s1,s2,s3,_,_⟩:=hS;have s3:=s3 (r9 ⟨by omega,hkd⟩) hk0;have kr:Mt G [scP src a] λd=>d= .tup [tkD k s a,iD (a+n:Nat)]:=by
          have e:tkA a (k,s,n)=tkD k s a:=c8 hk0;rw[<-e];exact kr
         refine⟨[(18, .box (scB src a) 248)],[.loc 18 0],⟨?_,?_⟩,(b0g (src:=src) (a:=a) (kr) rfl (by rintro _ rfl;rfl)).mono ?_⟩
         . exact Kr
         . exact⟨⟨rfl,S9 _ _ _⟩,d9⟩
         rintro o O2 ⟨d,rfl,rfl,rfl⟩;dsimp only;rw[a9y];refine Kv A6 ?_;repeat'((first|(intro hlq;try simp only[SL] at hlq)|refine⟨_,rfl,?_⟩|refine Kar ?_|refine Kap ?_|refine Kst ?_|refine K9 ?_|((refine Kh (λhb=>?_) λhb=>?_)<;>try simp only[BL] at hb)|refine K8 ?_)<;>refine Kv A6 ?_)
         all_goals first
          |contradiction
          |(exfalso;omega)
          | (refine⟨⟨(a+n,acc++[⟨k,s,a⟩],nb,en),?_,s3,by dsimp only;omega⟩⟩
             dsimp only;repeat'(first|exact S9 _ _ _|exact d9|exact rfl|(simp only[D3];rfl)|refine d8 ?_ ?_))
     . exfalso;simp only[i7,j8] at h4;omega
 . obtain rfl:a=src.length:=by omega
   have htk:=hΦ.tk;have hbd:=hΦ.bd;rw[a5B,c0S] at htk;rw[a5B,c3G,R4] at hbd;repeat'((first|(intro hlq;try simp only[SL] at hlq)|refine Kar ?_|refine Kap ?_|refine K9 ?_|((refine Kh (λhb=>?_) λhb=>?_)<;>try simp only[BL] at hb)|refine K8 ?_)<;>refine Kv A6 ?_)
   refine⟨?_⟩;rw[c0P,<-htk,<-hbd,D3];show D.tup [.sl (acc.map tkC++[[iD 6, .str [],iD ((byteCells src).length:Nat)]]), .sl (nb.map prC),iD 0]=_;rw[o9];rfl
end Go.Proofs.YteillnfhkeebjaaGreatDoor.Dx
