/- Tokens in the code. -/
import Derived.Test.YteillnfhkeebjaaGreatDoorTo
set_option linter.all false
namespace Go.Proofs.YteillnfhkeebjaaGreatDoor.Dx
open Go Go.RowKit Go.Proofs
set_option maxRecDepth 100000
set_option maxHeartbeats 1000000
def tkC (t:Tk):List D:=[iD t.kind, .str t.text,iD t.at_]
def prC (y:Nat):List D:=[iD y,iD 50]
abbrev b3K (src:List UInt8):D:= .tup [.sl ((toks src 0).map tkC), .sl ((bads src 0 (-1) 0).map prC),iD 0]
structure TAt (src:List UInt8) (a:Nat) (acc:List Tk) (nb:List Nat) (en:Int):Prop where
 le:a<=src.length
 tl:acc.length<=a
 bl:nb.length<=a
 en0: -1<=en/\en<=src.length
 tk:acc++toks (src.drop a) a=toks src 0
 bd:nb++bads (src.drop a) a en nb.length=bads src 0 (-1) 0
theorem TAt.zero (src:List UInt8):TAt src 0 [] [] (-1):=⟨Nat.zero_le _,Nat.le_refl _,Nat.le_refl _,by omega,rfl,rfl⟩
theorem TAt.step {src:List UInt8}{a:Nat}{acc:List Tk}{nb:List Nat}{en:Int}(h:TAt src a acc nb en)(ha:a<src.length){k:Nat}{s:List UInt8}{n:Nat}(hs:i6 (src.drop a)=(k,s,n)):
 1 <=n/\a+n<=src.length/\(K0 k=true->k≠0->TAt src (a+n) (acc++[⟨k,s,a⟩]) nb en)/\(K0 k=false->k≠0->TAt src (a+n) acc nb en)/\
   (k=0->((a:Int)≠en/\nb.length<64->TAt src (a+n) acc (nb++[a]) (a+n:Nat))/\(¬((a:Int)≠en/\nb.length<64)->TAt src (a+n) acc nb (a+n:Nat))):=by
 have hd:=List.drop_eq_getElem_cons ha
 rw[hd] at hs
 have hle:=Z6 src[a] (src.drop (a+1))
 rw[hs,List.length_drop] at hle
 dsimp only at hle
 have htk:=h.tk
 have hbd:=h.bd
 rw[hd,a2U,hs] at htk
 rw[hd,a5F,hs] at hbd
 have hdd:(src[a]::src.drop (a+1)).drop n=src.drop (a+n):=by rw[<-hd,List.drop_drop]
 dsimp only at htk hbd
 rw[hdd] at htk hbd
 have h1:=h.le;have h2:=h.tl;have h3:=h.bl;have h4:=h.en0
 refine⟨hle.1,by omega,λhk h0=>?_,λhk h0=>?_,λh0=>⟨λhc=>?_,λhc=>?_⟩⟩
 . rw[if_pos hk] at htk;rw[if_neg h0] at hbd
   exact⟨by omega,by simp;omega,by omega,h4,by rw[List.append_assoc];exact htk,hbd⟩
 . rw[if_neg (by rw[hk];decide)] at htk;rw[if_neg h0] at hbd
   exact⟨by omega,by omega,by omega,h4,htk,hbd⟩
 . subst h0
   rw[if_neg (by decide)] at htk;rw[if_pos rfl,if_pos hc] at hbd
   exact⟨by omega,by omega,by simp;omega,by omega,htk,by rw[List.append_assoc,List.length_append];exact hbd⟩
 . subst h0
   rw[if_neg (by decide)] at htk;rw[if_pos rfl,if_neg hc] at hbd
   exact⟨by omega,by omega,by omega,by omega,htk,hbd⟩
theorem c1E (c:UInt8)(t:List UInt8):(l9 (c::t)).1<=5:=by
 simp only[l9,K3]
 repeat' split
 all_goals (dsimp only;omega)
theorem a9Q (b:UInt8):(cls b.toNat=1)↔blB b=true:=by
 rw[<-(a0s b).2.2.2];simp
theorem c2M {src:List UInt8}{j:Nat}(hj:j<src.length)(hb:blB src[j]=true):i6 (src.drop j)=(7,[],1):=by
 rw[List.drop_eq_getElem_cons hj,i6,if_pos hb]
theorem c2N {src:List UInt8}{j:Nat}(hj:j<src.length)(hb:src[j]=35):i6 (src.drop j)=(7,[],D8 (src.drop j)):=by
 rw[List.drop_eq_getElem_cons hj,i6,hb,if_neg (by decide),if_pos rfl,D8,if_neg (by decide)]
theorem c2Q {src:List UInt8}{j:Nat}(hj:j<src.length)(hb:blB src[j]=false)(hc:src[j]≠35):i6 (src.drop j)=l9 (src.drop j):=by
 rw[List.drop_eq_getElem_cons hj,i6,if_neg (by rw[hb];decide),if_neg hc]
theorem a7L {src:List UInt8}{q:Nat}(hq:q<src.length):((src[q].toNat:Int)=10->D8 (src.drop q)=0)/\(¬(src[q].toNat:Int)=10->D8 (src.drop q)=D8 (src.drop (q+1))+1):=by
 have h10:src[q]=10↔(src[q].toNat:Int)=10:=N3 (n:=10) (by decide)
 rw[List.drop_eq_getElem_cons hq,D8]
 exact⟨λh=>if_pos (h10.2 h),λh=>if_neg (λe=>h (h10.1 e))⟩
theorem c2w {src:List UInt8}:D8 (src.drop src.length)=0:=by rw[List.drop_length];rfl
theorem Kst {src:List UInt8}{a:Int}{E:Prop}(e:E):0+1<(scB src a).length/\E:=⟨by show _<(m7 cls).length+1+1;rw[N1];omega,e⟩
theorem c1J:Meets Tryz.prog 187 [] λd=>d= .sl b2J:=by
 refine enter tok {} Tryz.func187 rfl (by kernel_rfl) Tryz.ntmps187 (by simp) λB0 W0 V0 lent g0=>?_
 refine Kw ?_
 repeat'((first|(intro hlq;try simp only[SL] at hlq)|refine K9 ?_|refine K8 ?_)<;>refine Kw ?_)
 exact⟨rfl⟩
abbrev j9:Cfg:={sym:=[18],rs:=[32,82,88]}
theorem a9D (hT:S3)(src:List UInt8)(hl:src.length<=65536):Meets Tryz.prog 120 [.sl (byteCells src)] λd=>d=b3K src:=by
 refine enter tok j9 Tryz.func120 rfl (by kernel_rfl) Tryz.ntmps120 (by simp) λB0 W0 V0 lent g0=>?_
 ((conv=>whnf);repeat'((fail_if_success (refine a3d 3 ?_));(fail_if_success (refine a0f 3 ?_));refine Y j9 rfl ?_;conv=>whnf))
 refine b4Q ?_
 ((conv=>whnf);repeat'((fail_if_success (refine a3d 3 ?_));(fail_if_success (refine a0f 3 ?_));refine Y j9 rfl ?_;conv=>whnf))
 repeat'((first|(intro hlq;try simp only[SL] at hlq)|refine K9 ?_|refine K8 ?_)<;>((conv=>whnf);repeat'((fail_if_success (refine a3d 3 ?_));(fail_if_success (refine a0f 3 ?_));refine Y j9 rfl ?_;conv=>whnf)))
 refine⟨λh0=>?_,λh0=>?_⟩<;>(try simp only[BL] at h0)<;>((conv=>whnf);repeat'((fail_if_success (refine a3d 3 ?_));(fail_if_success (refine a0f 3 ?_));refine Y j9 rfl ?_;conv=>whnf))
 . exfalso;omega
 refine a9a (b0c tok (cf:=j9) (X:=Unit) (λ_=>⟨[(5, .loc 18 0),(4,iB 0),(3, .full []),(2, .full []),(0, .d (.sl (byteCells src)))],[(18, .box (scB src (0:Nat)) 248)],[]⟩) (λ_=>True) ?_ (λ_ _=>?_))
 . conv=>whnf
   obtain⟨tb,htb⟩:∃tb,tb=z8 cls:=⟨_,rfl⟩
   have hc:Meets Tryz.prog 186 [] λd=>d= .agg tb:=by rw[htb];exact a9M
   refine Meets.k hc ?_
   show Q5 _ _
   rw[U2]
   refine c1L htb rfl rfl rfl rfl rfl ?_
   refine⟨⟨(),?_,True.intro⟩⟩
   repeat'(first|exact C6 _ _ _|exact True.intro|exact rfl|refine And.intro ?_ ?_)
 refine Kv j9 ?_
 refine Meets.k c1J ?_
 refine Kv j9 ?_
 refine b4O ?_
 refine Kv j9 ?_
 refine d4 tok j9 [(.inl 2,2,208,3),(.inl 3,3,201,2)] (X:=Nat×List Tk×List Nat×Int) (λx=>[(7,iB x.2.2.2),(2, .own 2),(3, .own 3)]) (λx=>[(18, .box (scB src x.1) 248),(2, .sl ⟨208,3,x.2.1.map tkC,true⟩),(3, .sl ⟨201,2,x.2.2.1.map prC,true⟩)]) [] (λx=>TAt src x.1 x.2.1 x.2.2.1 x.2.2.2) (λx=>src.length-x.1) (0,[],[],-1) ?_
 refine Kv j9 ?_
 refine⟨by simp,?_⟩
 refine Kv j9 ?_
 refine⟨by simp,?_⟩
 refine Kv j9 ?_
 refine And.intro ?_ ⟨TAt.zero src,λx hΦ=>?_⟩
 . repeat'(first|exact C6 _ _ _|exact True.intro|exact rfl|refine And.intro ?_ ?_)
 obtain⟨a,acc,nb,en⟩:=x
 dsimp only at hΦ⊢
 have ha:=hΦ.le
 have hen:=hΦ.en0
 have htl:=hΦ.tl
 have hbl:=hΦ.bl
 refine Kv j9 ?_
 refine⟨_,rfl,?_⟩
 refine Kv j9 ?_
 repeat'((first|(intro hlq;try simp only[SL] at hlq)|refine K9 ?_|refine K8 ?_)<;>refine Kv j9 ?_)
 refine⟨λh1=>?_,λh1=>?_⟩<;>(try simp only[BL] at h1)<;>refine Kv j9 ?_
 . have h1' :a<src.length:=by omega
   have hstep:=λ{k s n} h=> @TAt.step src a acc nb en hΦ h1' k s n h
   refine⟨_,rfl,?_⟩
   refine Kv j9 ?_
   refine⟨[(18, .box (scB src a) 248)],[.loc 18 0,iB a],⟨?_,?_⟩,(a4b (src:=src) (a:=a) (X2 src a a) rfl (by rintro _ rfl;rfl)).mono ?_⟩
   . exact Kr
   . exact⟨⟨rfl,C6 _ _ _⟩,True.intro⟩
   rintro o O2 ⟨d,rfl,rfl,rfl⟩
   dsimp only
   rw[a3s]
   refine Kv j9 ?_
   rw[a3t h1']
   refine⟨λh2=>?_,λh2=>?_⟩<;>(try simp only[BL] at h2)<;>refine Kv j9 ?_
   . obtain⟨s1,s2,_,s4,_⟩:=hstep (c2M h1' ((a9Q _).1 h2))
     refine⟨_,rfl,?_⟩
     refine Kv j9 ?_
     repeat'((first|(intro hlq;try simp only[SL] at hlq)|refine Kst ?_|refine K9 ?_|((refine Kh (λhb=>?_) λhb=>?_)<;>try simp only[BL] at hb)|refine K8 ?_)<;>refine Kv j9 ?_)
     refine⟨⟨(a+1,acc,nb,en),?_,s4 rfl (by decide),by dsimp only;omega⟩⟩
     repeat'(first|exact C6 _ _ _|exact True.intro|exact rfl|refine And.intro ?_ ?_)
   have hnb:blB src[a]=false:=by
    cases hx:blB src[a]
    . rfl
    . exact absurd ((a9Q _).2 hx) h2
   have h35:src[a]=35↔(src[a].toNat:Int)=35:=N3 (n:=35) (by decide)
   refine⟨_,rfl,?_⟩
   refine Kv j9 ?_
   repeat'((first|(intro hlq;try simp only[SL] at hlq)|refine K9 ?_|refine Ka ?_|refine Kb ?_|refine Kc (hd:=rfl) (e:=?_)|refine Kc (hd:=rfl) (e:=?_)|refine Kd (e:=?_)|refine Kl rfl ?_|fail)<;>refine Kv j9 ?_)
   refine⟨λh3=>?_,λh3=>?_⟩<;>(try simp only[BL] at h3)<;>refine Kv j9 ?_
   . obtain ⟨s1,s2,_,s4,_⟩:=hstep (c2N h1' (h35.2 h3))
     have hsk:=(a7L h1').2 (by omega)
     refine d4 tok j9 [] (X:=Nat) (λ_=>[]) (λq=>[(18, .box (scB src q) 248)]) [] (λq=>q<=src.length/\q+D8 (src.drop q)=a+D8 (src.drop a)) (λq=>src.length-q) a ?_
     refine Kv j9 ?_
     refine And.intro ?_ ⟨⟨by omega,rfl⟩,λq hq=>?_⟩
     . repeat'(first|exact C6 _ _ _|exact True.intro|exact rfl|refine And.intro ?_ ?_)
     obtain⟨hq,he⟩:=hq
     refine Kv j9 ?_
     refine⟨_,rfl,?_⟩
     refine Kv j9 ?_
     repeat'((first|(intro hlq;try simp only[SL] at hlq)|refine⟨_,rfl,?_⟩|refine Kst ?_|refine K9 ?_|((refine Kh (λhb=>?_) λhb=>?_)<;>try simp only[BL] at hb)|refine Ka ?_|refine Kb ?_|refine Kc (hd:=rfl) (e:=?_)|refine Kc (hd:=rfl) (e:=?_)|refine Kd (e:=?_)|refine Kl rfl ?_|fail)<;>refine Kv j9 ?_)
     . have h2':q<src.length:=by omega
       refine⟨⟨q+1,?_,⟨by omega,?_⟩,by omega⟩⟩
       . repeat'(first|exact C6 _ _ _|exact True.intro|exact rfl|refine And.intro ?_ ?_)
       . have:=(a7L h2').2 (by assumption);omega
     . have h2':q<src.length:=by omega
       have hq0:=(a7L h2').1 (by omega)
       refine⟨⟨(q,acc,nb,en),?_,?_,by dsimp only;omega⟩⟩
       . repeat'(first|exact C6 _ _ _|exact True.intro|exact rfl|refine And.intro ?_ ?_)
       . dsimp only
         rw[show q=a+D8 (src.drop a) by omega]
         exact s4 rfl (by decide)
     . obtain rfl:q=src.length:=by omega
       rw[c2w] at he
       refine⟨⟨(src.length,acc,nb,en),?_,?_,by dsimp only;omega⟩⟩
       . repeat'(first|exact C6 _ _ _|exact True.intro|exact rfl|refine And.intro ?_ ?_)
       . dsimp only
         rw[show src.length=a+D8 (src.drop a) by omega]
         exact s4 rfl (by decide)
   . have hr :=c2Q h1' hnb (λe=>h3 (h35.1 e))
     have hkd:(l9 (src.drop a)).1<=5:=by rw[List.drop_eq_getElem_cons h1'];exact c1E _ _
     have hread:=λq hq hp=>c1I hT src a q h1' hl hq hp
     rcases hx:l9 (src.drop a) with⟨k,s,n⟩
     rw[hx] at hr hkd
     simp only[hx] at hread
     have hS:=hstep hr
     dsimp only at hkd
     clear hr hstep hx h35 hnb h3
     repeat'((first|(intro hlq;try simp only[SL] at hlq)|refine K9 ?_|refine K8 ?_)<;>refine Kv j9 ?_)
     refine d4 tok j9 [] (X:=Nat) (λq=>[(75,iB q),(7,iB en),(2, .own 2),(3, .own 3)]) (λ_=>[]) [] (λq=>q<6/\∀p<q,S7 p src[a] (src.drop (a+1))=false) (λq=>6-q) 0 ?_
     refine Kv j9 ?_
     refine And.intro ?_ ⟨⟨by omega,by omega⟩,λq hq=>?_⟩
     . repeat'(first|exact C6 _ _ _|exact True.intro|exact rfl|refine And.intro ?_ ?_)
     obtain⟨hq,hp⟩:=hq
     obtain⟨F,G,hel,kb,kr⟩:=hread q hq hp
     refine Kv j9 ?_
     refine⟨λh4=>?_,λh4=>?_⟩<;>(try simp only[BL] at h4)<;>refine Kv j9 ?_
     . refine ⟨_,⟨by omega,hel,rfl⟩,?_⟩
       refine Kv j9 ?_
       refine⟨[(18, .box (scB src a) 248)],[.loc 18 0],⟨?_,?_⟩,(a4b (src:=src) (a:=a) (kb) rfl (by rintro _ rfl;rfl)).mono ?_⟩
       . exact Kr
       . exact⟨⟨rfl,C6 _ _ _⟩,True.intro⟩
       rintro o O2 ⟨d,rfl,rfl,rfl⟩
       dsimp only
       rw[a3s]
       refine Kv j9 ?_
       refine⟨λh5=>?_,λh5=>?_⟩<;>(try simp only[BL] at h5)<;>refine Kv j9 ?_
       . repeat' ((first|(intro hlq;try simp only[SL] at hlq)|refine K9 ?_|refine K8 ?_)<;>refine Kv j9 ?_)
         refine⟨⟨q+1,?_,⟨?_,?_⟩,by omega⟩⟩
         . repeat'(first|exact C6 _ _ _|exact True.intro|exact rfl|refine And.intro ?_ ?_)
         . have h6:q≠5:=by rintro rfl;cases h5
           omega
         . intro p hp'
           by_cases e:p=q
           . rw[e];exact h5
           . exact hp p (by omega)
       have kr:=kr h5
       clear hread kb hp hel h5
       by_cases hk0:k=0
       . subst hk0
         obtain⟨s1,s2,_,_,s5⟩:=hS
         obtain⟨t1,t2⟩:=s5 rfl
         have kr:Meets Tryz.prog G [scP src a] λd=>d= .tup [tkD 0 [] 0,iD (a+n:Nat)]:=kr
         refine⟨[(18, .box (scB src a) 248)],[.loc 18 0],⟨?_,?_⟩,(a4b (src:=src) (a:=a) (kr) rfl (by rintro _ rfl;rfl)).mono ?_⟩
         . exact Kr
         . exact⟨⟨rfl,C6 _ _ _⟩,True.intro⟩
         rintro o O2 ⟨d,rfl,rfl,rfl⟩
         dsimp only
         rw[a3s]
         refine Kv j9 ?_
         repeat'((first|(intro hlq;try simp only[SL] at hlq)|refine⟨_,rfl,?_⟩|refine Kar ?_|refine Kap ?_|refine Kst ?_|refine K9 ?_|((refine Kh (λhb=>?_) λhb=>?_)<;>try simp only[BL] at hb)|refine K8 ?_)<;>refine Kv j9 ?_)
         all_goals first
          |contradiction
          |(exfalso;omega)
          | (refine⟨⟨(a+n,acc,nb++[a],((a+n:Nat):Int)),?_,t1 ⟨by omega,by simp only[List.length_map] at *;omega⟩,by dsimp only;omega⟩⟩
             dsimp only
             repeat'(first|exact C6 _ _ _|exact True.intro|exact rfl|(simp only[List.map_append];rfl)|refine And.intro ?_ ?_))
          | (refine⟨⟨(a+n,acc,nb,((a+n:Nat):Int)),?_,t2 (by simp only[List.length_map] at *;omega),by dsimp only;omega⟩⟩
             dsimp only
             repeat'(first|exact C6 _ _ _|exact True.intro|exact rfl|(simp only[List.map_append];rfl)|refine And.intro ?_ ?_))
       . obtain ⟨s1,s2,s3,_,_⟩:=hS
         have s3:=s3 (decide_eq_true ⟨by omega,hkd⟩) hk0
         have kr:Meets Tryz.prog G [scP src a] λd=>d= .tup [tkD k s a,iD (a+n:Nat)]:=by
          have e:tkA a (k,s,n)=tkD k s a:=if_neg hk0
          rw[<-e];exact kr
         refine⟨[(18, .box (scB src a) 248)],[.loc 18 0],⟨?_,?_⟩,(a4b (src:=src) (a:=a) (kr) rfl (by rintro _ rfl;rfl)).mono ?_⟩
         . exact Kr
         . exact⟨⟨rfl,C6 _ _ _⟩,True.intro⟩
         rintro o O2 ⟨d,rfl,rfl,rfl⟩
         dsimp only
         rw[a3s]
         refine Kv j9 ?_
         repeat'((first|(intro hlq;try simp only[SL] at hlq)|refine⟨_,rfl,?_⟩|refine Kar ?_|refine Kap ?_|refine Kst ?_|refine K9 ?_|((refine Kh (λhb=>?_) λhb=>?_)<;>try simp only[BL] at hb)|refine K8 ?_)<;>refine Kv j9 ?_)
         all_goals first
          |contradiction
          |(exfalso;omega)
          | (refine⟨⟨(a+n,acc++[⟨k,s,a⟩],nb,en),?_,s3,by dsimp only;omega⟩⟩
             dsimp only
             repeat'(first|exact C6 _ _ _|exact True.intro|exact rfl|(simp only[List.map_append];rfl)|refine And.intro ?_ ?_))
     . exfalso
       simp only[List.length_cons,List.length_nil] at h4
       omega
 . obtain rfl:a=src.length:=by omega
   have htk:=hΦ.tk
   have hbd:=hΦ.bd
   rw[List.drop_length,b3P] at htk
   rw[List.drop_length,b5P,List.append_nil] at hbd
   repeat'((first|(intro hlq;try simp only[SL] at hlq)|refine Kar ?_|refine Kap ?_|refine K9 ?_|((refine Kh (λhb=>?_) λhb=>?_)<;>try simp only[BL] at hb)|refine K8 ?_)<;>refine Kv j9 ?_)
   refine⟨?_⟩
   rw[b3K,<-htk,<-hbd,List.map_append]
   show D.tup [.sl (acc.map tkC++[[iD 6, .str [],iD ((byteCells src).length:Nat)]]), .sl (nb.map prC),iD 0]=_
   rw[List.length_map]
   rfl
end Go.Proofs.YteillnfhkeebjaaGreatDoor.Dx
