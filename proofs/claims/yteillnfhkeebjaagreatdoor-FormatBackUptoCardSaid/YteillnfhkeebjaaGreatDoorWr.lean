/- Parts. -/
import Derived.Test.YteillnfhkeebjaaGreatDoorWq
set_option linter.all false
namespace Go.Proofs.YteillnfhkeebjaaGreatDoor.Dx
open Go Go.RowKit
set_option maxRecDepth 100000
set_option maxHeartbeats 8000000
mutual
def Part.deep:Part->Nat
 |⟨_,_,ps⟩=>if ps.isEmpty then 0 else 1+Part.deepL ps
def Part.deepL:List Part->Nat
 |[]=>0
 |p::ps=>max p.deep (Part.deepL ps)
end
mutual
def Part.cnt:Part->Nat
 |⟨_,_,ps⟩=>1+Part.cntL ps
def Part.cntL:List Part->Nat
 |[]=>0
 |p::ps=>p.cnt+Part.cntL ps
end
theorem Part.deep_eq (p:Part):p.deep=if p.parts.isEmpty then 0 else 1+Part.deepL p.parts:=by obtain⟨m,n,ps⟩:=p;rfl
theorem Part.cnt_eq (p:Part):p.cnt=1+Part.cntL p.parts:=by obtain⟨m,n,ps⟩:=p;rfl
theorem b1C:∀a b:List Part,Part.deepL (a++b)=max (Part.deepL a) (Part.deepL b)
 |[],b=>by simp[Part.deepL]
 |x::a,b=>by rw[q8,Part.deepL,b1C a b,Part.deepL];omega
theorem a9k:∀a b:List Part,Part.cntL (a++b)=Part.cntL a+Part.cntL b
 |[],b=>by simp[Part.cntL]
 |x::a,b=>by rw[q8,Part.cntL,a9k a b,Part.cntL];omega
theorem a4s:∀l:List Part,l.length<=Part.cntL l
 |[]=>by simp
 |x::l=>by have:=a4s l;rw[Part.cntL,Part.cnt_eq,i7];omega
theorem b1D {l:List Part}{i:Nat}(h:i<l.length):Part.deepL (l.take (i+1))=max (Part.deepL (l.take i)) l[i].deep:=by
 rw[L1 h,b1C];simp[Part.deepL]
theorem b1B {l:List Part}{i:Nat}(h:i<l.length):Part.cntL (l.take (i+1))=Part.cntL (l.take i)+(1+Part.cntL l[i].parts):=by
 rw[L1 h,a9k];simp[Part.cntL,Part.cnt_eq]
theorem a9l {l:List Part}{i:Nat}(h:i<l.length):1+Part.cntL l[i].parts<=Part.cntL l:=by
 have h1:=b1B h;have h2:=a9k (l.take (i+1)) (l.drop (i+1));rw[a7k] at h2;omega
mutual
theorem c2z:∀p:Part,p.deep<=p.cnt
 | ⟨m,n,ps⟩=>by
   have:=a4q ps;simp only[Part.deep,Part.cnt];split<;>omega
theorem a4q:∀l:List Part,Part.deepL l<=Part.cntL l
 |[]=>by simp[Part.deepL]
 | p::l=>by
   have h1:=c2z p;have h2:=a4q l;simp only[Part.deepL,Part.cntL];omega
end
theorem Part.deep_or (p:Part):(p.parts.length=0/\p.deep=0/\Part.cntL p.parts=0)\/(0<p.parts.length/\p.deep=1+Part.deepL p.parts):=by
 obtain⟨m,n,ps⟩:=p;cases ps with
 |nil=>exact .inl ⟨rfl,rfl,rfl⟩
 |cons x l=>exact .inr ⟨Nat.succ_pos _,rfl⟩
def Dep (n:Nat)(t:List Part)(left d m:Int):Prop:=
 (m+t.length<=n+Part.cntL t/\(n:Int)<=m)/\(0<=d/\d<=Part.deepL t)/\(m<=256->((Part.deepL t:Int)<=left->d=Part.deepL t/\m+t.length=n+Part.cntL t)/\(left<(Part.deepL t:Int)->left<=d))
theorem b6Y (l:List Part)(left:Int)(h0:0<=left/\left<=17)(hl:Part.cntL l<=1048576):
 Mt 82 [.sl (l.map Part.cells),iD left] λr=>∃d m:Int,r= .tup [iD d,iD m]/\Dep l.length l left d m:=by
 have hlen:=a4s l;refine En {} Tryz.func82 Tryz.ntmps82 λ_ _ _ _ _=>?_;refine Kw ?_;repeat'((first|(intro hlq;try simp only[SL] at hlq)|refine K8 ?_)<;>refine Kw ?_)
 refine o4 tok {} [] (X:=Nat×Int×Int) (λx=>[(14,iB x.1),(4,iB x.2.1),(5,iB x.2.2)]) (λ_=>[]) [7] (λx=>x.1<=l.length/\Dep l.length (l.take x.1) left x.2.1 x.2.2) (λx=>l.length-x.1) (0,0,((l.map Part.cells).length:Int)) ?_;refine Kw ?_;refine d8 ?_ ⟨⟨by omega,by simp[Dep,Part.deepL,Part.cntL];omega⟩,λx hΦ=>?_⟩
 . exact Kr
 obtain⟨i,d,m⟩:=x;obtain⟨hi,hD⟩:=hΦ;dsimp only at hi hD;refine Kw ?_;refine⟨λh1=>?_,λh1=>?_⟩<;>(try simp only[BL] at h1)<;>refine Kw ?_
 . have h1':i<l.length:=by omega
   have e1:=b1D h1';have e2:=b1B h1';have e3:=l[i].deep_or;have e4:=a9l h1';have e5:=a4s l[i].parts;have e6:(l.take (i+1)).length=i+1:=by rw[R5];omega
   have e7:(l.take i).length=i:=by rw[R5];omega
   rw[Dep,e7] at hD;have hskip:(l[i].parts.length=0\/left=0\/m>256)->Dep l.length (l.take (i+1)) left d m:=by
    intro h;rw[Dep,e1,e2,e6];omega
   repeat'((first|(intro hlq;try simp only[SL] at hlq)|((refine Kh (λhb=>?_) λhb=>?_)<;>try simp only[BL] at hb)|refine Ka ?_|refine Kb ?_|refine Kc (hd:=rfl) (e:=?_)|refine Kc (hd:=Part.cells_eq _) (e:=?_)|refine Kd (e:=?_)|refine Kl rfl ?_|fail)<;>refine Kw ?_)
   iterate 3
    . refine⟨⟨(i+1,d,m),?_,⟨by dsimp only;omega,hskip (by(try dsimp only at *);omega)⟩,by dsimp only;omega⟩⟩;repeat'(first|exact d9|exact rfl|refine d8 ?_ ?_)
   (try dsimp only at *);refine(b6Y l[i].parts (left-1) (by omega) (by omega)).mono λr hr=>?_;obtain⟨d',m',rfl,hD'⟩:=hr;have e8:=a4q l[i].parts;rw[Dep] at hD';refine Kw ?_;repeat'((first|(intro hlq;try simp only[SL] at hlq)|refine K8 ?_)<;>refine Kw ?_)
   refine⟨⟨(i+1,max d (d'+1),m+m'),?_,⟨by dsimp only;omega,?_⟩,by dsimp only;omega⟩⟩
   . exact Kr
   dsimp only;rw[Dep,e1,e2,e6];omega
 . skip
   have e:l.take i=l:=y6 (by omega);rw[e] at hD;exact⟨d,m,rfl,hD⟩
termination_by Part.cntL l
decreasing_by omega
theorem Dep.fit {l:List Part}{d m:Int}(h:Dep l.length l 17 d m):(d<=16/\m<=256)↔(Part.deepL l<=16/\Part.cntL l<=256):=by
 rw[Dep] at h;omega
theorem b9H (l:List Part)(hl:Part.cntL l<=1048576):Mt 30 [.sl (l.map Part.cells)] λr=>r=iD (min (Part.cntL l:Int) 257):=by
 have hlen:=a4s l;refine En {} Tryz.func30 Tryz.ntmps30 λ_ _ _ _ _=>?_;refine Kw ?_;repeat'((first|(intro hlq;try simp only[SL] at hlq)|refine K8 ?_)<;>refine Kw ?_)
 refine o4 tok {} [] (X:=Nat×Int) (λx=>[(4,iB x.1),(3,iB x.2)]) (λ_=>[]) [] (λx=>x.1<=l.length/\((l.length:Int)<=x.2/\x.2+x.1<=l.length+Part.cntL (l.take x.1)/\(x.2<=256->x.2+x.1=l.length+Part.cntL (l.take x.1)))) (λx=>l.length-x.1) (0,((l.map Part.cells).length:Int)) ?_;refine Kw ?_;refine d8 ?_ ⟨⟨by omega,by simp[Part.cntL]⟩,λx hΦ=>?_⟩
 . exact Kr
 obtain⟨i,m⟩:=x;obtain⟨hi,hD⟩:=hΦ;dsimp only at hi hD;refine Kw ?_;have hsub:=a9k (l.take i) (l.drop i);rw[a7k] at hsub;have hge:=a4s (l.drop i);rw[K2] at hge;repeat'((first|(intro hlq;try simp only[SL] at hlq)|((refine Kh (λhb=>?_) λhb=>?_)<;>try simp only[BL] at hb)|refine Ka ?_|refine Kb ?_|refine Kc (hd:=rfl) (e:=?_)|refine Kc (hd:=Part.cells_eq _) (e:=?_)|refine Kd (e:=?_)|refine Kl rfl ?_|fail)<;>refine Kw ?_)
 . have h1':i<l.length:=by(try dsimp only at *);omega
   have e2:=b1B h1';have e4:=a9l h1';(try dsimp only at *);refine Meets.k (b9H l[i].parts (by omega)) ?_;refine Kw ?_;repeat'((first|(intro hlq;try simp only[SL] at hlq)|refine K8 ?_)<;>refine Kw ?_)
   refine⟨⟨(i+1,m+min (Part.cntL l[i].parts:Int) 257),?_,⟨by dsimp only;omega,?_⟩,by dsimp only;omega⟩⟩
   . exact Kr
   dsimp only;rw[e2];omega
 . refine⟨d6 iD ?_⟩;(try dsimp only at *);omega
 . refine⟨d6 iD ?_⟩;(try dsimp only at *);have e:l.take i=l:=y6 (by omega);rw[e] at hD;omega
termination_by Part.cntL l
decreasing_by omega
theorem b9J (l:List Part)(most:Int)(h0:0<=most/\most<=17)(hl:Part.cntL l<=1048576):Mt 31 [.sl (l.map Part.cells),iD most] λr=>r=iD (min (Part.deepL l:Int) most):=by
 have hlen:=a4s l;refine En {} Tryz.func31 Tryz.ntmps31 λ_ _ _ _ _=>?_;refine Kw ?_;repeat'((first|(intro hlq;try simp only[SL] at hlq)|refine K8 ?_)<;>refine Kw ?_)
 refine o4 tok {} [] (X:=Nat×Int) (λx=>[(6,iB x.1),(5,iB x.2)]) (λ_=>[]) [] (λx=>x.1<=l.length/\x.2=min (Part.deepL (l.take x.1):Int) most) (λx=>l.length-x.1) (0,0) ?_;refine Kw ?_;refine d8 ?_ ⟨⟨by omega,by simp[Part.deepL];omega⟩,λx hΦ=>?_⟩
 . exact Kr
 obtain⟨i,m⟩:=x;obtain⟨hi,hD⟩:=hΦ;dsimp only at hi hD;refine Kw ?_;have hsub:=b1C (l.take i) (l.drop i);rw[a7k] at hsub;have hge:=a4q l;repeat'((first|(intro hlq;try simp only[SL] at hlq)|((refine Kh (λhb=>?_) λhb=>?_)<;>try simp only[BL] at hb)|refine Ka ?_|refine Kb ?_|refine Kc (hd:=rfl) (e:=?_)|refine Kc (hd:=Part.cells_eq _) (e:=?_)|refine Kd (e:=?_)|refine Kl rfl ?_|fail)<;>refine Kw ?_)
 . have h1':i<l.length:=by(try dsimp only at *);omega
   have e1:=b1D h1';have e3:=l[i].deep_or;have e4:=a9l h1';(try dsimp only at *);refine Meets.k (b9J l[i].parts (most-1) (by omega) (by omega)) ?_;refine Kw ?_;have hge2:=a4q l[i].parts;repeat'((first|(intro hlq;try simp only[SL] at hlq)|refine K8 ?_)<;>refine Kw ?_)
   refine⟨⟨(i+1,max m (1+min (Part.deepL l[i].parts:Int) (most-1))),?_,⟨by dsimp only;omega,?_⟩,by dsimp only;omega⟩⟩
   . exact Kr
   dsimp only;rw[e1];omega
 . have h1':i<l.length:=by(try dsimp only at *);omega
   have e1:=b1D h1';have e3:=l[i].deep_or;(try dsimp only at *);refine⟨⟨(i+1,m),?_,⟨by dsimp only;omega,?_⟩,by dsimp only;omega⟩⟩
   . exact Kr
   dsimp only;rw[e1];omega
 . refine⟨d6 iD ?_⟩;(try dsimp only at *);omega
 . refine⟨d6 iD ?_⟩;(try dsimp only at *);have e:l.take i=l:=y6 (by omega);rw[e] at hD;omega
termination_by Part.cntL l
decreasing_by omega
def Distance.fits (d:Distance):Bool:=decide (d.cutoffs.length<=64)&&(decide (Part.deepL d.route<=16)&&decide (Part.cntL d.route<=256))
def Course.fits (c:Course):Bool:=(decide (c.mats.length<=40)&&(decide (c.legs.length<=512)&&(decide (c.distances.length<=8)&&(decide (c.waves.length<=32)&&(decide (c.offences.length<=32)&&(decide (c.categories.length<=32)&&decide (c.prizes.length<=32)))))))&&c.distances.all Distance.fits
theorem c1G {c:Course}(h:c.mats.length>40\/c.legs.length>512\/c.distances.length>8\/c.waves.length>32\/c.offences.length>32\/c.categories.length>32\/c.prizes.length>32):c.fits=false:=by
 cases hf:c.fits with
 |false=>rfl
 | true=>
   simp only[Course.fits,f0,j0] at hf;omega
theorem c1F {c:Course}(h:¬(c.mats.length>40\/c.legs.length>512\/c.distances.length>8\/c.waves.length>32\/c.offences.length>32\/c.categories.length>32\/c.prizes.length>32)):c.fits=c.distances.all Distance.fits:=by
 rw[Course.fits,r9 (by omega),r9 (by omega),r9 (by omega),r9 (by omega),r9 (by omega),r9 (by omega),r9 (by omega)];rfl
theorem c6z (c:Course)(hc:∀d∈c.distances,Part.cntL d.route<=1048576):Mt 40 [c.d] λr=>r=bD c.fits:=by
 refine En {} Tryz.func40 Tryz.ntmps40 λ_ _ _ _ _=>?_;refine Kw ?_;repeat'((first|(intro hlq;try simp only[SL] at hlq)|((refine Kh (λhb=>?_) λhb=>?_)<;>try simp only[BL] at hb)|refine K8 ?_)<;>refine Kw ?_)
 iterate 7
  . exact⟨d6 bD (c1G (by omega)).symm⟩
 rw[c1F (by omega)];refine o4 tok {} [] (X:=Nat) (λi=>[(50,iB i)]) (λ_=>[]) [4] (λi=>i<=c.distances.length/\∀x∈c.distances.take i,Distance.fits x=true) (λi=>c.distances.length-i) 0 ?_;refine Kw ?_;refine d8 ?_ ⟨⟨by omega,by simp⟩,λi hΦ=>?_⟩
 . exact Kr
 obtain⟨hi,hp⟩:=hΦ;refine Kw ?_;refine⟨λh1=>?_,λh1=>?_⟩<;>(try simp only[BL] at h1)<;>refine Kw ?_
 . have h1':i<c.distances.length:=by omega
   repeat'((first|(intro hlq;try simp only[SL] at hlq)|refine Ka ?_|refine Kb ?_|refine Kc (hd:=rfl) (e:=?_)|refine Kc (hd:=Distance.cells_eq _) (e:=?_)|refine Kd (e:=?_)|refine Kl rfl ?_|fail)<;>refine Kw ?_)
   refine(b6Y c.distances[i].route 17 (by omega) (hc _ (q7 h1'))).mono λr hr=>?_;obtain⟨d,m,rfl,hD⟩:=hr;have hf:=hD.fit;refine Kw ?_;repeat'((first|(intro hlq;try simp only[SL] at hlq)|((refine Kh (λhb=>?_) λhb=>?_)<;>try simp only[BL] at hb)|refine K8 ?_)<;>refine Kw ?_)
   all_goals first
    | (refine⟨d6 bD ?_⟩
       have hn:Distance.fits c.distances[i]=false:=by
        simp only[Distance.fits,U2,L4];omega
       rw[a9r (q7 h1') hn];done)
    | (refine⟨⟨i+1,?_,⟨by omega,Y7 h1' hp ?_⟩,by omega⟩⟩
       . exact Kr
       simp only[Distance.fits,f0,j0];omega)
 . refine⟨d6 bD ?_⟩;rw[b1P (by omega) hp]
def nmL (l:List (List UInt8)):Bool:=l.all (N3 kw)&&decide l.Nodup
def a1r (l:List (List UInt8)):List (D×D):=l.map λs=>(.str s,bD true)
theorem a1X {l:List (List UInt8)}:∀p∈a1r l,a7c p.1:=by
 intro p hp;obtain⟨s,_,rfl⟩:=v6.1 hp;exact⟨s,rfl⟩
theorem a8C (l:List (List UInt8))(s:List UInt8):(G2 (a1r l) (.str s)).getD (bD false)=bD (decide (s∈l)):=by
 induction l with
 |nil=>rfl
 | cons x l ih=>
   simp only[a1r,o5,G2] at ih⊢;by_cases e:x=s
   . subst e;simp
   . have:¬(D.str x=D.str s):=by simpa using e
     rw[c8 this,ih];simp[Ne.symm e]
theorem a8D {l:List (List UInt8)}{s:List UInt8}(h:s∉l):H5 (a1r l) (.str s) (bD true)=a1r (l++[s]):=by
 rw[b8U]
 . simp[a1r]
 . intro p hp e;obtain⟨x,hx,rfl⟩:=v6.1 hp;simp only[D.str.injEq] at e;exact h (e▸hx)
theorem a8i {l:List (List UInt8)}{i:Nat}(h:i<l.length)(hp:nmL (l.take i)=true):
 ((N3 kw l[i]=true/\decide (l[i]∈l.take i)=false)->nmL (l.take (i+1))=true)/\(N3 kw l[i]=false->nmL l=false)/\(decide (l[i]∈l.take i)=true->nmL l=false):=by
 rw[nmL,f0,n7,j0] at hp;refine⟨λ⟨h1,h2⟩=>?_,λh1=>?_,λh1=>?_⟩
 . rw [L4] at h2;rw[nmL,f0,n7,j0,L1 h];refine⟨λx hx=>?_,?_⟩
   . rcases A8.1 hx with hx|hx
     . exact hp.1 x hx
     . rw[I4.1 hx];exact h1
   . rw[a7j];refine⟨hp.2,by simp,λa ha b hb=>?_⟩;rw[I4.1 hb];rintro rfl;exact h2 ha
 . rw[nmL,a9r (q7 h) h1];rfl
 . rw[j0] at h1;rw[nmL,U2];right
   rw[L4];intro hn;have h2:(l.take (i+1)).Nodup:=hn.sublist (List.take_sublist _ _);rw[L1 h,a7j] at h2;exact h2.2.2 _ h1 _ (I4.2 rfl) rfl
theorem a7Q {α β:Type}{f:α->β}{xs:List α}{i:Nat}(h:i<xs.length):(xs.map f)[i]'(by simpa using h)=f xs[i]:=by simp
theorem a8H {α:Type}{l:List α}{i:Nat}(h:i<l.length):l.take (i+1)=l.take i++[l[i]]:=L1 h
theorem c9k (x:Mat):Mt 85 [x.d] λd=>d= .str x.name:=by
 refine En {} Tryz.func85 Tryz.ntmps85 λ_ _ _ _ _=>?_;refine Kw ?_;exact⟨rfl⟩
theorem c9p (xs:List Mat)(hl:xs.length<=1048576):Mt 84 [.sl (xs.map Mat.cells), .fn 85 [] []] λd=>d=bD (nmL (xs.map (·.name))):=by
 refine En {} Tryz.func84 Tryz.ntmps84 λ_ _ _ _ _=>?_;refine Kw ?_;repeat'((first|(intro hlq;try simp only[SL] at hlq)|refine K8 ?_)<;>refine Kw ?_)
 refine o4 tok {} [] (X:=Nat) (λi=>[(12,iB i)]) (λi=>[(9, .mp (a1r ((xs.map (·.name)).take i)))]) [7] (λi=>i<=xs.length/\nmL ((xs.map (·.name)).take i)=true) (λi=>xs.length-i) 0 ?_;refine Kw ?_;refine d8 ?_ ⟨⟨by omega,by simp[nmL]⟩,λi hΦ=>?_⟩
 . exact Kr
 obtain⟨hi,hp⟩:=hΦ;refine Kw ?_;refine⟨λh1=>?_,λh1=>?_⟩<;>(try simp only[BL] at h1)<;>refine Kw ?_
 . have h1':i<xs.length:=by omega
   have hstep:=a8i (l:=xs.map (·.name)) (i:=i) (by simpa using h1') hp;simp only[a3i] at hstep;repeat'((first|(intro hlq;try simp only[SL] at hlq)|refine Meets.k (c9k xs[i]) ?_|refine Meets.k (a6g xs[i].name) ?_|((refine Kh (λhb=>?_) λhb=>?_)<;>try simp only[BL] at hb)|refine K8 ?_)<;>refine Kw ?_)
   all_goals first
    | (refine⟨⟨⟨_,rfl⟩,a1X⟩,?_⟩
       refine⟨_,a8C _ _,?_⟩;(conv=>whnf);repeat'(refine Z rfl ?_;conv=>whnf))
    |skip
   repeat'((first|(intro hlq;try simp only[SL] at hlq)|((refine Kh (λhb=>?_) λhb=>?_)<;>try simp only[BL] at hb)|refine K8 ?_)<;>refine Kw ?_)
   all_goals first
    | (refine⟨d6 bD ?_⟩
       exact(hstep.2.2 (by assumption)).symm)
    | (refine⟨d6 bD ?_⟩
       exact(hstep.2.1 (by assumption)).symm)
    | (refine⟨d6 bD ?_⟩
       exact(hstep.2.2 (r9 (by assumption))).symm)
    |skip
   refine⟨⟨⟨_,rfl⟩,a1X⟩,?_⟩;rw[a8D (by assumption),<-a7Q (f:=λx:Mat=>x.name) h1',<-a8H];refine Kw ?_;repeat'((first|(intro hlq;try simp only[SL] at hlq)|refine K8 ?_)<;>refine Kw ?_)
   refine⟨⟨i+1,?_,⟨by omega,hstep.1 ⟨by assumption,D5 (by assumption)⟩⟩,by omega⟩⟩;repeat'(first|exact d9|exact rfl|refine d8 ?_ ?_)
 . refine⟨d6 bD ?_⟩;rw[y6 (by simp;omega)] at hp;exact hp.symm
theorem c9j (x:Distance):Mt 87 [x.d] λd=>d= .str x.name:=by
 refine En {} Tryz.func87 Tryz.ntmps87 λ_ _ _ _ _=>?_;refine Kw ?_;exact⟨rfl⟩
theorem c9o (xs:List Distance)(hl:xs.length<=1048576):Mt 86 [.sl (xs.map Distance.cells), .fn 87 [] []] λd=>d=bD (nmL (xs.map (·.name))):=by
 refine En {} Tryz.func86 Tryz.ntmps86 λ_ _ _ _ _=>?_;refine Kw ?_;repeat'((first|(intro hlq;try simp only[SL] at hlq)|refine K8 ?_)<;>refine Kw ?_)
 refine o4 tok {} [] (X:=Nat) (λi=>[(12,iB i)]) (λi=>[(9, .mp (a1r ((xs.map (·.name)).take i)))]) [7] (λi=>i<=xs.length/\nmL ((xs.map (·.name)).take i)=true) (λi=>xs.length-i) 0 ?_;refine Kw ?_;refine d8 ?_ ⟨⟨by omega,by simp[nmL]⟩,λi hΦ=>?_⟩
 . exact Kr
 obtain⟨hi,hp⟩:=hΦ;refine Kw ?_;refine⟨λh1=>?_,λh1=>?_⟩<;>(try simp only[BL] at h1)<;>refine Kw ?_
 . have h1':i<xs.length:=by omega
   have hstep:=a8i (l:=xs.map (·.name)) (i:=i) (by simpa using h1') hp;simp only[a3i] at hstep;repeat'((first|(intro hlq;try simp only[SL] at hlq)|refine Meets.k (c9j xs[i]) ?_|refine Meets.k (a6g xs[i].name) ?_|((refine Kh (λhb=>?_) λhb=>?_)<;>try simp only[BL] at hb)|refine K8 ?_)<;>refine Kw ?_)
   all_goals first
    | (refine⟨⟨⟨_,rfl⟩,a1X⟩,?_⟩
       refine⟨_,a8C _ _,?_⟩;(conv=>whnf);repeat'(refine Z rfl ?_;conv=>whnf))
    |skip
   repeat'((first|(intro hlq;try simp only[SL] at hlq)|((refine Kh (λhb=>?_) λhb=>?_)<;>try simp only[BL] at hb)|refine K8 ?_)<;>refine Kw ?_)
   all_goals first
    | (refine⟨d6 bD ?_⟩
       exact(hstep.2.2 (by assumption)).symm)
    | (refine⟨d6 bD ?_⟩
       exact(hstep.2.1 (by assumption)).symm)
    | (refine⟨d6 bD ?_⟩
       exact(hstep.2.2 (r9 (by assumption))).symm)
    |skip
   refine⟨⟨⟨_,rfl⟩,a1X⟩,?_⟩;rw[a8D (by assumption),<-a7Q (f:=λx:Distance=>x.name) h1',<-a8H];refine Kw ?_;repeat'((first|(intro hlq;try simp only[SL] at hlq)|refine K8 ?_)<;>refine Kw ?_)
   refine⟨⟨i+1,?_,⟨by omega,hstep.1 ⟨by assumption,D5 (by assumption)⟩⟩,by omega⟩⟩;repeat'(first|exact d9|exact rfl|refine d8 ?_ ?_)
 . refine⟨d6 bD ?_⟩;rw[y6 (by simp;omega)] at hp;exact hp.symm
theorem c9m (x:Wave):Mt 89 [x.d] λd=>d= .str x.name:=by
 refine En {} Tryz.func89 Tryz.ntmps89 λ_ _ _ _ _=>?_;refine Kw ?_;exact⟨rfl⟩
theorem c9r (xs:List Wave)(hl:xs.length<=1048576):Mt 88 [.sl (xs.map Wave.cells), .fn 89 [] []] λd=>d=bD (nmL (xs.map (·.name))):=by
 refine En {} Tryz.func88 Tryz.ntmps88 λ_ _ _ _ _=>?_;refine Kw ?_;repeat'((first|(intro hlq;try simp only[SL] at hlq)|refine K8 ?_)<;>refine Kw ?_)
 refine o4 tok {} [] (X:=Nat) (λi=>[(12,iB i)]) (λi=>[(9, .mp (a1r ((xs.map (·.name)).take i)))]) [7] (λi=>i<=xs.length/\nmL ((xs.map (·.name)).take i)=true) (λi=>xs.length-i) 0 ?_;refine Kw ?_;refine d8 ?_ ⟨⟨by omega,by simp[nmL]⟩,λi hΦ=>?_⟩
 . exact Kr
 obtain⟨hi,hp⟩:=hΦ;refine Kw ?_;refine⟨λh1=>?_,λh1=>?_⟩<;>(try simp only[BL] at h1)<;>refine Kw ?_
 . have h1':i<xs.length:=by omega
   have hstep:=a8i (l:=xs.map (·.name)) (i:=i) (by simpa using h1') hp;simp only[a3i] at hstep;repeat'((first|(intro hlq;try simp only[SL] at hlq)|refine Meets.k (c9m xs[i]) ?_|refine Meets.k (a6g xs[i].name) ?_|((refine Kh (λhb=>?_) λhb=>?_)<;>try simp only[BL] at hb)|refine K8 ?_)<;>refine Kw ?_)
   all_goals first
    | (refine⟨⟨⟨_,rfl⟩,a1X⟩,?_⟩
       refine⟨_,a8C _ _,?_⟩;(conv=>whnf);repeat'(refine Z rfl ?_;conv=>whnf))
    |skip
   repeat'((first|(intro hlq;try simp only[SL] at hlq)|((refine Kh (λhb=>?_) λhb=>?_)<;>try simp only[BL] at hb)|refine K8 ?_)<;>refine Kw ?_)
   all_goals first
    | (refine⟨d6 bD ?_⟩
       exact(hstep.2.2 (by assumption)).symm)
    | (refine⟨d6 bD ?_⟩
       exact(hstep.2.1 (by assumption)).symm)
    | (refine⟨d6 bD ?_⟩
       exact(hstep.2.2 (r9 (by assumption))).symm)
    |skip
   refine⟨⟨⟨_,rfl⟩,a1X⟩,?_⟩;rw[a8D (by assumption),<-a7Q (f:=λx:Wave=>x.name) h1',<-a8H];refine Kw ?_;repeat'((first|(intro hlq;try simp only[SL] at hlq)|refine K8 ?_)<;>refine Kw ?_)
   refine⟨⟨i+1,?_,⟨by omega,hstep.1 ⟨by assumption,D5 (by assumption)⟩⟩,by omega⟩⟩;repeat'(first|exact d9|exact rfl|refine d8 ?_ ?_)
 . refine⟨d6 bD ?_⟩;rw[y6 (by simp;omega)] at hp;exact hp.symm
theorem c9l (x:Offence):Mt 91 [x.d] λd=>d= .str x.name:=by
 refine En {} Tryz.func91 Tryz.ntmps91 λ_ _ _ _ _=>?_;refine Kw ?_;exact⟨rfl⟩
theorem c9q (xs:List Offence)(hl:xs.length<=1048576):Mt 90 [.sl (xs.map Offence.cells), .fn 91 [] []] λd=>d=bD (nmL (xs.map (·.name))):=by
 refine En {} Tryz.func90 Tryz.ntmps90 λ_ _ _ _ _=>?_;refine Kw ?_;repeat'((first|(intro hlq;try simp only[SL] at hlq)|refine K8 ?_)<;>refine Kw ?_)
 refine o4 tok {} [] (X:=Nat) (λi=>[(12,iB i)]) (λi=>[(9, .mp (a1r ((xs.map (·.name)).take i)))]) [7] (λi=>i<=xs.length/\nmL ((xs.map (·.name)).take i)=true) (λi=>xs.length-i) 0 ?_;refine Kw ?_;refine d8 ?_ ⟨⟨by omega,by simp[nmL]⟩,λi hΦ=>?_⟩
 . exact Kr
 obtain⟨hi,hp⟩:=hΦ;refine Kw ?_;refine⟨λh1=>?_,λh1=>?_⟩<;>(try simp only[BL] at h1)<;>refine Kw ?_
 . have h1':i<xs.length:=by omega
   have hstep:=a8i (l:=xs.map (·.name)) (i:=i) (by simpa using h1') hp;simp only[a3i] at hstep;repeat'((first|(intro hlq;try simp only[SL] at hlq)|refine Meets.k (c9l xs[i]) ?_|refine Meets.k (a6g xs[i].name) ?_|((refine Kh (λhb=>?_) λhb=>?_)<;>try simp only[BL] at hb)|refine K8 ?_)<;>refine Kw ?_)
   all_goals first
    | (refine⟨⟨⟨_,rfl⟩,a1X⟩,?_⟩
       refine⟨_,a8C _ _,?_⟩;(conv=>whnf);repeat'(refine Z rfl ?_;conv=>whnf))
    |skip
   repeat'((first|(intro hlq;try simp only[SL] at hlq)|((refine Kh (λhb=>?_) λhb=>?_)<;>try simp only[BL] at hb)|refine K8 ?_)<;>refine Kw ?_)
   all_goals first
    | (refine⟨d6 bD ?_⟩
       exact(hstep.2.2 (by assumption)).symm)
    | (refine⟨d6 bD ?_⟩
       exact(hstep.2.1 (by assumption)).symm)
    | (refine⟨d6 bD ?_⟩
       exact(hstep.2.2 (r9 (by assumption))).symm)
    |skip
   refine⟨⟨⟨_,rfl⟩,a1X⟩,?_⟩;rw[a8D (by assumption),<-a7Q (f:=λx:Offence=>x.name) h1',<-a8H];refine Kw ?_;repeat'((first|(intro hlq;try simp only[SL] at hlq)|refine K8 ?_)<;>refine Kw ?_)
   refine⟨⟨i+1,?_,⟨by omega,hstep.1 ⟨by assumption,D5 (by assumption)⟩⟩,by omega⟩⟩;repeat'(first|exact d9|exact rfl|refine d8 ?_ ?_)
 . refine⟨d6 bD ?_⟩;rw[y6 (by simp;omega)] at hp;exact hp.symm
theorem c9i (x:Category):Mt 93 [x.d] λd=>d= .str x.name:=by
 refine En {} Tryz.func93 Tryz.ntmps93 λ_ _ _ _ _=>?_;refine Kw ?_;exact⟨rfl⟩
theorem c9n (xs:List Category)(hl:xs.length<=1048576):Mt 92 [.sl (xs.map Category.cells), .fn 93 [] []] λd=>d=bD (nmL (xs.map (·.name))):=by
 refine En {} Tryz.func92 Tryz.ntmps92 λ_ _ _ _ _=>?_;refine Kw ?_;repeat'((first|(intro hlq;try simp only[SL] at hlq)|refine K8 ?_)<;>refine Kw ?_)
 refine o4 tok {} [] (X:=Nat) (λi=>[(12,iB i)]) (λi=>[(9, .mp (a1r ((xs.map (·.name)).take i)))]) [7] (λi=>i<=xs.length/\nmL ((xs.map (·.name)).take i)=true) (λi=>xs.length-i) 0 ?_;refine Kw ?_;refine d8 ?_ ⟨⟨by omega,by simp[nmL]⟩,λi hΦ=>?_⟩
 . exact Kr
 obtain⟨hi,hp⟩:=hΦ;refine Kw ?_;refine⟨λh1=>?_,λh1=>?_⟩<;>(try simp only[BL] at h1)<;>refine Kw ?_
 . have h1':i<xs.length:=by omega
   have hstep:=a8i (l:=xs.map (·.name)) (i:=i) (by simpa using h1') hp;simp only[a3i] at hstep;repeat'((first|(intro hlq;try simp only[SL] at hlq)|refine Meets.k (c9i xs[i]) ?_|refine Meets.k (a6g xs[i].name) ?_|((refine Kh (λhb=>?_) λhb=>?_)<;>try simp only[BL] at hb)|refine K8 ?_)<;>refine Kw ?_)
   all_goals first
    | (refine⟨⟨⟨_,rfl⟩,a1X⟩,?_⟩
       refine⟨_,a8C _ _,?_⟩;(conv=>whnf);repeat'(refine Z rfl ?_;conv=>whnf))
    |skip
   repeat'((first|(intro hlq;try simp only[SL] at hlq)|((refine Kh (λhb=>?_) λhb=>?_)<;>try simp only[BL] at hb)|refine K8 ?_)<;>refine Kw ?_)
   all_goals first
    | (refine⟨d6 bD ?_⟩
       exact(hstep.2.2 (by assumption)).symm)
    | (refine⟨d6 bD ?_⟩
       exact(hstep.2.1 (by assumption)).symm)
    | (refine⟨d6 bD ?_⟩
       exact(hstep.2.2 (r9 (by assumption))).symm)
    |skip
   refine⟨⟨⟨_,rfl⟩,a1X⟩,?_⟩;rw[a8D (by assumption),<-a7Q (f:=λx:Category=>x.name) h1',<-a8H];refine Kw ?_;repeat'((first|(intro hlq;try simp only[SL] at hlq)|refine K8 ?_)<;>refine Kw ?_)
   refine⟨⟨i+1,?_,⟨by omega,hstep.1 ⟨by assumption,D5 (by assumption)⟩⟩,by omega⟩⟩;repeat'(first|exact d9|exact rfl|refine d8 ?_ ?_)
 . refine⟨d6 bD ?_⟩;rw[y6 (by simp;omega)] at hp;exact hp.symm
def Course.named (c:Course):Bool:=N3 kw c.name&&(nmL (c.mats.map (·.name))&&(nmL (c.distances.map (·.name))&&(nmL (c.waves.map (·.name))&&(nmL (c.offences.map (·.name))&&nmL (c.categories.map (·.name))))))
structure Course.small (c:Course):Prop where
 mats:c.mats.length<=1048576
 legs:c.legs.length<=1048576
 distances:c.distances.length<=1048576
 waves:c.waves.length<=1048576
 offences:c.offences.length<=1048576
 categories:c.categories.length<=1048576
 prizes:c.prizes.length<=1048576
 ties:c.ties.length<=1048576/\∀s∈c.ties,s.ok
 route:∀d∈c.distances,Part.cntL d.route<=1048576
 cutoffs:∀d∈c.distances,d.cutoffs.length<=1048576
theorem c9s (c:Course)(hc:c.small):Mt 41 [c.d] λr=>r=bD c.named:=by
 refine En {} Tryz.func41 Tryz.ntmps41 λ_ _ _ _ _=>?_;refine Kw ?_;repeat'((first|(intro hlq;try simp only[SL] at hlq)|refine Meets.k (a6g c.name) ?_|refine Meets.k (c9p c.mats hc.mats) ?_|refine Meets.k (c9o c.distances hc.distances) ?_|refine Meets.k (c9r c.waves hc.waves) ?_|refine Meets.k (c9q c.offences hc.offences) ?_|refine Meets.k (c9n c.categories hc.categories) ?_|((refine Kh (λhb=>?_) λhb=>?_)<;>try simp only[BL] at hb)|refine K8 ?_)<;>refine Kw ?_)
 all_goals (refine⟨d6 bD ?_⟩;rw[Course.named];simp_all)
abbrev I0 (s:List UInt8):List D:=[.str s]
theorem b0I (s:List UInt8):I0 s=[.str s]:=rfl
end Go.Proofs.YteillnfhkeebjaaGreatDoor.Dx
