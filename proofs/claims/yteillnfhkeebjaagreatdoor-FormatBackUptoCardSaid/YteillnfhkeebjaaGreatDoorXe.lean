/- Same. -/
import Derived.Test.YteillnfhkeebjaaGreatDoorWy
set_option linter.all false
namespace Go.Proofs.YteillnfhkeebjaaGreatDoor.Dx
open Go Go.RowKit Go.Proofs
set_option maxRecDepth 100000
set_option maxHeartbeats 16000000
open Classical in
noncomputable def D6 {α:Type}(a b:α):Bool:=decide (a=b)
theorem a0P {α:Type}{a b:α}(h:a=b):D6 a b=true:=by simp only[D6,j0];exact h
theorem H7 {α:Type}{a b:α}(h:a≠b):D6 a b=false:=by simp only[D6,L4];exact h
theorem sameB_iff {α:Type}{a b:α}:D6 a b=true↔a=b:=by simp only[D6,j0]
theorem sameB_niff {α:Type}{a b:α}:D6 a b=false↔a≠b:=by simp only[D6,L4,ne_eq]
theorem a1v {α:Type}{xs ys:List α}{i:Nat}(hi:i<xs.length)(hj:i<ys.length)(h:xs.take i=ys.take i)(e:xs[i]=ys[i]):xs.take (i+1)=ys.take (i+1):=by
 rw[L1 hi,L1 hj,h,e]
theorem a1l {α:Type}{xs ys:List α}{i:Nat}(hi:i<xs.length)(hj:i<ys.length)(e:xs[i]≠ys[i]):xs≠ys:=by
 rintro rfl;exact e rfl
theorem a1m {α:Type}{xs ys:List α}(h:(xs.length:Int)≠ys.length):xs≠ys:=by
 rintro rfl;exact h rfl
theorem a1t {α:Type}{xs ys:List α}{i:Nat}(hi:¬(i:Int)<xs.length)(hl:xs.length=ys.length)(h:xs.take i=ys.take i):xs=ys:=by
 rwa[y6 (by omega),y6 (by omega)] at h
theorem Mat.c_iff {a b:Mat}:a.cells=b.cells↔a=b:=by obtain⟨_,_⟩:=a;obtain⟨_,_⟩:=b;simp[Mat.cells]
theorem Leg.c_iff {a b:Leg}:[a.src,a.dst,a.lo,a.hi]=[b.src,b.dst,b.lo,b.hi]↔a=b:=by obtain⟨_,_,_,_⟩:=a;obtain⟨_,_,_,_⟩:=b;simp
theorem Wave.c_iff {a b:Wave}:a.cells=b.cells↔a=b:=by obtain⟨_,_⟩:=a;obtain⟨_,_⟩:=b;simp[Wave.cells]
theorem Offence.c_iff {a b:Offence}:a.cells=b.cells↔a=b:=by obtain⟨_,_,_,_⟩:=a;obtain⟨_,_,_,_⟩:=b;simp[Offence.cells]
theorem Category.c_iff {a b:Category}:a.cells=b.cells↔a=b:=by obtain⟨_,_,_⟩:=a;obtain⟨_,_,_⟩:=b;simp[Category.cells]
theorem Prize.c_iff {a b:Prize}:[a.distance,a.category,a.rank,a.amount]=[b.distance,b.category,b.rank,b.amount]↔a=b:=by obtain⟨_,_,_,_⟩:=a;obtain⟨_,_,_,_⟩:=b;simp
theorem Cutoff.c_iff {a b:Cutoff}:[a.mat,a.lap,a.limit]=[b.mat,b.lap,b.limit]↔a=b:=by obtain⟨_,_,_⟩:=a;obtain⟨_,_,_⟩:=b;simp
theorem Cond.e_iff {a b:Cond}:a=b↔a.kind=b.kind/\a.var=b.var/\a.n=b.n/\a.parts=b.parts:=by obtain⟨_,_,_,_⟩:=a;obtain⟨_,_,_,_⟩:=b;simp
theorem Step.e_iff {a b:Step}:a=b↔a.kind=b.kind/\a.crit=b.crit/\a.cond=b.cond/\a.th=b.th/\a.el=b.el:=by obtain⟨_,_,_,_,_⟩:=a;obtain⟨_,_,_,_,_⟩:=b;simp
theorem Part.e_iff {a b:Part}:a=b↔a.mat=b.mat/\a.laps=b.laps/\a.parts=b.parts:=by obtain⟨_,_,_⟩:=a;obtain⟨_,_,_⟩:=b;simp
theorem Distance.e_iff {a b:Distance}:a=b↔a.name=b.name/\a.timing=b.timing/\a.extra=b.extra/\a.cutoffs=b.cutoffs/\a.route=b.route:=by
 constructor
 . rintro rfl;simp
 . obtain⟨⟩:=a;obtain⟨⟩:=b;rintro⟨h1,h2,h3,h4,h5⟩;simp_all
theorem Faults.e_iff {a b:Faults}:a=b↔[a.misses,a.strays,a.window,a.residual,a.drift]=[b.misses,b.strays,b.window,b.residual,b.drift]:=by obtain⟨_,_,_,_,_⟩:=a;obtain⟨_,_,_,_,_⟩:=b;simp
theorem Course.e_iff {a b:Course}:a=b↔a.name=b.name/\a.faults=b.faults/\a.fee=b.fee/\a.deadline=b.deadline/\a.mats=b.mats/\a.legs=b.legs/\a.distances=b.distances/\a.waves=b.waves/\a.offences=b.offences/\a.categories=b.categories/\a.prizes=b.prizes/\a.ties=b.ties:=by
 constructor
 . rintro rfl;simp
 . obtain⟨⟩:=a;obtain⟨⟩:=b;rintro⟨h1,h2,h3,h4,h5,h6,h7,h8,h9,h10,h11,h12⟩;simp_all
theorem c5X (xs ys:List Mat):Mt 49 [.sl (xs.map Mat.cells), .sl (ys.map Mat.cells)] λd=>d=bD (D6 xs ys):=by
 refine En {} Tryz.func49 Tryz.ntmps49 λ_ _ _ _ _=>?_;refine Kw ?_;repeat'((first|(intro hlq;try simp only[SL] at hlq)|refine K9 ?_|refine K8 ?_)<;>refine Kw ?_)
 refine⟨λh0=>?_,λh0=>?_⟩<;>(try simp only[BL] at h0)<;>refine Kw ?_
 . exact⟨d6 bD (H7 (a1m (by simpa using h0))).symm⟩
 have hl:xs.length=ys.length:=by omega
 repeat'((first|(intro hlq;try simp only[SL] at hlq)|refine K9 ?_|refine K8 ?_)<;>refine Kw ?_)
 refine o4 tok {} [] (X:=Nat) (λi=>[(13,iB i)]) (λ_=>[]) [] (λi=>i<=xs.length/\xs.take i=ys.take i) (λi=>xs.length-i) 0 ?_;refine Kw ?_;refine d8 ?_ ⟨⟨by omega,rfl⟩,λi hΦ=>?_⟩
 . exact Kr
 obtain⟨hi,hp⟩:=hΦ;refine Kw ?_;refine⟨λh1=>?_,λh1=>?_⟩<;>(try simp only[BL] at h1)<;>refine Kw ?_
 . have h1':i<xs.length:=by omega
   have h2':i<ys.length:=by omega
   repeat'((first|(intro hlq;try simp only[SL] at hlq)|refine K9 ?_|refine K8 ?_)<;>refine Kw ?_)
   refine Dr {} [.p 0, .p 1, .p 2, .p 3, .p 4, .p 5, .p 6, .p 7, .p 8] ?_;refine Kw ?_;repeat'((first|(intro hlq;try simp only[SL] at hlq)|refine K9 ?_|refine Ka ?_|refine Kb ?_|refine Kc (hd:=rfl) (e:=?_)|refine Kc (hd:=Mat.cells_eq _) (e:=?_)|refine Kd (e:=?_)|refine Kl rfl ?_|fail)<;>refine Kw ?_)
   refine⟨⟨⟨_,by simp[a0p,KSc],rfl⟩,⟨_,by simp[a0p,KSc],rfl⟩⟩,?_⟩;refine Kw ?_;repeat'((first|(intro hlq;try simp only[SL] at hlq)|refine K9 ?_|((refine Kh (λhb=>?_) λhb=>?_)<;>try simp only[BL] at hb)|refine K8 ?_)<;>refine Kw ?_)
   . exact⟨d6 bD (H7 (a1l h1' h2' λe=>(by assumption:_≠_) (Mat.c_iff.2 e))).symm⟩
   . refine⟨⟨i+1,?_,⟨by omega,a1v h1' h2' hp (Mat.c_iff.1 (Classical.not_not.1 (by assumption)))⟩,by omega⟩⟩;repeat'(first|exact d9|exact rfl|refine d8 ?_ ?_)
 . exact⟨d6 bD (a0P (a1t (by omega) hl hp)).symm⟩
theorem c5W (xs ys:List Leg):Mt 50 [.sl (xs.map Leg.cells), .sl (ys.map Leg.cells)] λd=>d=bD (D6 xs ys):=by
 refine En {} Tryz.func50 Tryz.ntmps50 λ_ _ _ _ _=>?_;refine Kw ?_;repeat'((first|(intro hlq;try simp only[SL] at hlq)|refine K9 ?_|refine K8 ?_)<;>refine Kw ?_)
 refine⟨λh0=>?_,λh0=>?_⟩<;>(try simp only[BL] at h0)<;>refine Kw ?_
 . exact⟨d6 bD (H7 (a1m (by simpa using h0))).symm⟩
 have hl:xs.length=ys.length:=by omega
 repeat'((first|(intro hlq;try simp only[SL] at hlq)|refine K9 ?_|refine K8 ?_)<;>refine Kw ?_)
 refine o4 tok {} [] (X:=Nat) (λi=>[(13,iB i)]) (λ_=>[]) [] (λi=>i<=xs.length/\xs.take i=ys.take i) (λi=>xs.length-i) 0 ?_;refine Kw ?_;refine d8 ?_ ⟨⟨by omega,rfl⟩,λi hΦ=>?_⟩
 . exact Kr
 obtain⟨hi,hp⟩:=hΦ;refine Kw ?_;refine⟨λh1=>?_,λh1=>?_⟩<;>(try simp only[BL] at h1)<;>refine Kw ?_
 . have h1':i<xs.length:=by omega
   have h2':i<ys.length:=by omega
   repeat'((first|(intro hlq;try simp only[SL] at hlq)|refine K9 ?_|refine K8 ?_)<;>refine Kw ?_)
   refine Dr {} [.p 0, .p 1, .p 2, .p 3, .p 4, .p 5, .p 6, .p 7, .p 8] ?_;refine Kw ?_;repeat'((first|(intro hlq;try simp only[SL] at hlq)|refine K9 ?_|refine Ka ?_|refine Kb ?_|refine Kc (hd:=rfl) (e:=?_)|refine Kc (hd:=Leg.cells_eq _) (e:=?_)|refine Kd (e:=?_)|refine Kl rfl ?_|fail)<;>refine Kw ?_)
   refine⟨⟨⟨[xs[i].src,xs[i].dst,xs[i].lo,xs[i].hi],rfl,rfl⟩,⟨[ys[i].src,ys[i].dst,ys[i].lo,ys[i].hi],rfl,rfl⟩⟩,?_⟩;refine Kw ?_;repeat'((first|(intro hlq;try simp only[SL] at hlq)|refine K9 ?_|((refine Kh (λhb=>?_) λhb=>?_)<;>try simp only[BL] at hb)|refine K8 ?_)<;>refine Kw ?_)
   . exact⟨d6 bD (H7 (a1l h1' h2' λe=>(by assumption:_≠_) (Leg.c_iff.2 e))).symm⟩
   . refine⟨⟨i+1,?_,⟨by omega,a1v h1' h2' hp (Leg.c_iff.1 (Classical.not_not.1 (by assumption)))⟩,by omega⟩⟩;repeat'(first|exact d9|exact rfl|refine d8 ?_ ?_)
 . exact⟨d6 bD (a0P (a1t (by omega) hl hp)).symm⟩
theorem c6a (xs ys:List Wave):Mt 53 [.sl (xs.map Wave.cells), .sl (ys.map Wave.cells)] λd=>d=bD (D6 xs ys):=by
 refine En {} Tryz.func53 Tryz.ntmps53 λ_ _ _ _ _=>?_;refine Kw ?_;repeat'((first|(intro hlq;try simp only[SL] at hlq)|refine K9 ?_|refine K8 ?_)<;>refine Kw ?_)
 refine⟨λh0=>?_,λh0=>?_⟩<;>(try simp only[BL] at h0)<;>refine Kw ?_
 . exact⟨d6 bD (H7 (a1m (by simpa using h0))).symm⟩
 have hl:xs.length=ys.length:=by omega
 repeat'((first|(intro hlq;try simp only[SL] at hlq)|refine K9 ?_|refine K8 ?_)<;>refine Kw ?_)
 refine o4 tok {} [] (X:=Nat) (λi=>[(13,iB i)]) (λ_=>[]) [] (λi=>i<=xs.length/\xs.take i=ys.take i) (λi=>xs.length-i) 0 ?_;refine Kw ?_;refine d8 ?_ ⟨⟨by omega,rfl⟩,λi hΦ=>?_⟩
 . exact Kr
 obtain⟨hi,hp⟩:=hΦ;refine Kw ?_;refine⟨λh1=>?_,λh1=>?_⟩<;>(try simp only[BL] at h1)<;>refine Kw ?_
 . have h1':i<xs.length:=by omega
   have h2':i<ys.length:=by omega
   repeat'((first|(intro hlq;try simp only[SL] at hlq)|refine K9 ?_|refine K8 ?_)<;>refine Kw ?_)
   refine Dr {} [.p 0, .p 1, .p 2, .p 3, .p 4, .p 5, .p 6, .p 7, .p 8] ?_;refine Kw ?_;repeat'((first|(intro hlq;try simp only[SL] at hlq)|refine K9 ?_|refine Ka ?_|refine Kb ?_|refine Kc (hd:=rfl) (e:=?_)|refine Kc (hd:=Wave.cells_eq _) (e:=?_)|refine Kd (e:=?_)|refine Kl rfl ?_|fail)<;>refine Kw ?_)
   refine⟨⟨⟨_,by simp[a0p,KSc],rfl⟩,⟨_,by simp[a0p,KSc],rfl⟩⟩,?_⟩;refine Kw ?_;repeat'((first|(intro hlq;try simp only[SL] at hlq)|refine K9 ?_|((refine Kh (λhb=>?_) λhb=>?_)<;>try simp only[BL] at hb)|refine K8 ?_)<;>refine Kw ?_)
   . exact⟨d6 bD (H7 (a1l h1' h2' λe=>(by assumption:_≠_) (Wave.c_iff.2 e))).symm⟩
   . refine⟨⟨i+1,?_,⟨by omega,a1v h1' h2' hp (Wave.c_iff.1 (Classical.not_not.1 (by assumption)))⟩,by omega⟩⟩;repeat'(first|exact d9|exact rfl|refine d8 ?_ ?_)
 . exact⟨d6 bD (a0P (a1t (by omega) hl hp)).symm⟩
theorem c5Y (xs ys:List Offence):Mt 54 [.sl (xs.map Offence.cells), .sl (ys.map Offence.cells)] λd=>d=bD (D6 xs ys):=by
 refine En {} Tryz.func54 Tryz.ntmps54 λ_ _ _ _ _=>?_;refine Kw ?_;repeat'((first|(intro hlq;try simp only[SL] at hlq)|refine K9 ?_|refine K8 ?_)<;>refine Kw ?_)
 refine⟨λh0=>?_,λh0=>?_⟩<;>(try simp only[BL] at h0)<;>refine Kw ?_
 . exact⟨d6 bD (H7 (a1m (by simpa using h0))).symm⟩
 have hl:xs.length=ys.length:=by omega
 repeat'((first|(intro hlq;try simp only[SL] at hlq)|refine K9 ?_|refine K8 ?_)<;>refine Kw ?_)
 refine o4 tok {} [] (X:=Nat) (λi=>[(13,iB i)]) (λ_=>[]) [] (λi=>i<=xs.length/\xs.take i=ys.take i) (λi=>xs.length-i) 0 ?_;refine Kw ?_;refine d8 ?_ ⟨⟨by omega,rfl⟩,λi hΦ=>?_⟩
 . exact Kr
 obtain⟨hi,hp⟩:=hΦ;refine Kw ?_;refine⟨λh1=>?_,λh1=>?_⟩<;>(try simp only[BL] at h1)<;>refine Kw ?_
 . have h1':i<xs.length:=by omega
   have h2':i<ys.length:=by omega
   repeat'((first|(intro hlq;try simp only[SL] at hlq)|refine K9 ?_|refine K8 ?_)<;>refine Kw ?_)
   refine Dr {} [.p 0, .p 1, .p 2, .p 3, .p 4, .p 5, .p 6, .p 7, .p 8] ?_;refine Kw ?_;repeat'((first|(intro hlq;try simp only[SL] at hlq)|refine K9 ?_|refine Ka ?_|refine Kb ?_|refine Kc (hd:=rfl) (e:=?_)|refine Kc (hd:=Offence.cells_eq _) (e:=?_)|refine Kd (e:=?_)|refine Kl rfl ?_|fail)<;>refine Kw ?_)
   refine⟨⟨⟨_,by simp[a0p,KSc],rfl⟩,⟨_,by simp[a0p,KSc],rfl⟩⟩,?_⟩;refine Kw ?_;repeat'((first|(intro hlq;try simp only[SL] at hlq)|refine K9 ?_|((refine Kh (λhb=>?_) λhb=>?_)<;>try simp only[BL] at hb)|refine K8 ?_)<;>refine Kw ?_)
   . exact⟨d6 bD (H7 (a1l h1' h2' λe=>(by assumption:_≠_) (Offence.c_iff.2 e))).symm⟩
   . refine⟨⟨i+1,?_,⟨by omega,a1v h1' h2' hp (Offence.c_iff.1 (Classical.not_not.1 (by assumption)))⟩,by omega⟩⟩;repeat'(first|exact d9|exact rfl|refine d8 ?_ ?_)
 . exact⟨d6 bD (a0P (a1t (by omega) hl hp)).symm⟩
theorem c5U (xs ys:List Category):Mt 55 [.sl (xs.map Category.cells), .sl (ys.map Category.cells)] λd=>d=bD (D6 xs ys):=by
 refine En {} Tryz.func55 Tryz.ntmps55 λ_ _ _ _ _=>?_;refine Kw ?_;repeat'((first|(intro hlq;try simp only[SL] at hlq)|refine K9 ?_|refine K8 ?_)<;>refine Kw ?_)
 refine⟨λh0=>?_,λh0=>?_⟩<;>(try simp only[BL] at h0)<;>refine Kw ?_
 . exact⟨d6 bD (H7 (a1m (by simpa using h0))).symm⟩
 have hl:xs.length=ys.length:=by omega
 repeat'((first|(intro hlq;try simp only[SL] at hlq)|refine K9 ?_|refine K8 ?_)<;>refine Kw ?_)
 refine o4 tok {} [] (X:=Nat) (λi=>[(13,iB i)]) (λ_=>[]) [] (λi=>i<=xs.length/\xs.take i=ys.take i) (λi=>xs.length-i) 0 ?_;refine Kw ?_;refine d8 ?_ ⟨⟨by omega,rfl⟩,λi hΦ=>?_⟩
 . exact Kr
 obtain⟨hi,hp⟩:=hΦ;refine Kw ?_;refine⟨λh1=>?_,λh1=>?_⟩<;>(try simp only[BL] at h1)<;>refine Kw ?_
 . have h1':i<xs.length:=by omega
   have h2':i<ys.length:=by omega
   repeat'((first|(intro hlq;try simp only[SL] at hlq)|refine K9 ?_|refine K8 ?_)<;>refine Kw ?_)
   refine Dr {} [.p 0, .p 1, .p 2, .p 3, .p 4, .p 5, .p 6, .p 7, .p 8] ?_;refine Kw ?_;repeat'((first|(intro hlq;try simp only[SL] at hlq)|refine K9 ?_|refine Ka ?_|refine Kb ?_|refine Kc (hd:=rfl) (e:=?_)|refine Kc (hd:=Category.cells_eq _) (e:=?_)|refine Kd (e:=?_)|refine Kl rfl ?_|fail)<;>refine Kw ?_)
   refine⟨⟨⟨_,by simp[a0p,KSc],rfl⟩,⟨_,by simp[a0p,KSc],rfl⟩⟩,?_⟩;refine Kw ?_;repeat'((first|(intro hlq;try simp only[SL] at hlq)|refine K9 ?_|((refine Kh (λhb=>?_) λhb=>?_)<;>try simp only[BL] at hb)|refine K8 ?_)<;>refine Kw ?_)
   . exact⟨d6 bD (H7 (a1l h1' h2' λe=>(by assumption:_≠_) (Category.c_iff.2 e))).symm⟩
   . refine⟨⟨i+1,?_,⟨by omega,a1v h1' h2' hp (Category.c_iff.1 (Classical.not_not.1 (by assumption)))⟩,by omega⟩⟩;repeat'(first|exact d9|exact rfl|refine d8 ?_ ?_)
 . exact⟨d6 bD (a0P (a1t (by omega) hl hp)).symm⟩
theorem c5Z (xs ys:List Prize):Mt 56 [.sl (xs.map Prize.cells), .sl (ys.map Prize.cells)] λd=>d=bD (D6 xs ys):=by
 refine En {} Tryz.func56 Tryz.ntmps56 λ_ _ _ _ _=>?_;refine Kw ?_;repeat'((first|(intro hlq;try simp only[SL] at hlq)|refine K9 ?_|refine K8 ?_)<;>refine Kw ?_)
 refine⟨λh0=>?_,λh0=>?_⟩<;>(try simp only[BL] at h0)<;>refine Kw ?_
 . exact⟨d6 bD (H7 (a1m (by simpa using h0))).symm⟩
 have hl:xs.length=ys.length:=by omega
 repeat'((first|(intro hlq;try simp only[SL] at hlq)|refine K9 ?_|refine K8 ?_)<;>refine Kw ?_)
 refine o4 tok {} [] (X:=Nat) (λi=>[(13,iB i)]) (λ_=>[]) [] (λi=>i<=xs.length/\xs.take i=ys.take i) (λi=>xs.length-i) 0 ?_;refine Kw ?_;refine d8 ?_ ⟨⟨by omega,rfl⟩,λi hΦ=>?_⟩
 . exact Kr
 obtain⟨hi,hp⟩:=hΦ;refine Kw ?_;refine⟨λh1=>?_,λh1=>?_⟩<;>(try simp only[BL] at h1)<;>refine Kw ?_
 . have h1':i<xs.length:=by omega
   have h2':i<ys.length:=by omega
   repeat'((first|(intro hlq;try simp only[SL] at hlq)|refine K9 ?_|refine K8 ?_)<;>refine Kw ?_)
   refine Dr {} [.p 0, .p 1, .p 2, .p 3, .p 4, .p 5, .p 6, .p 7, .p 8] ?_;refine Kw ?_;repeat'((first|(intro hlq;try simp only[SL] at hlq)|refine K9 ?_|refine Ka ?_|refine Kb ?_|refine Kc (hd:=rfl) (e:=?_)|refine Kc (hd:=Prize.cells_eq _) (e:=?_)|refine Kd (e:=?_)|refine Kl rfl ?_|fail)<;>refine Kw ?_)
   refine⟨⟨⟨[xs[i].distance,xs[i].category,xs[i].rank,xs[i].amount],rfl,rfl⟩,⟨[ys[i].distance,ys[i].category,ys[i].rank,ys[i].amount],rfl,rfl⟩⟩,?_⟩;refine Kw ?_;repeat'((first|(intro hlq;try simp only[SL] at hlq)|refine K9 ?_|((refine Kh (λhb=>?_) λhb=>?_)<;>try simp only[BL] at hb)|refine K8 ?_)<;>refine Kw ?_)
   . exact⟨d6 bD (H7 (a1l h1' h2' λe=>(by assumption:_≠_) (Prize.c_iff.2 e))).symm⟩
   . refine⟨⟨i+1,?_,⟨by omega,a1v h1' h2' hp (Prize.c_iff.1 (Classical.not_not.1 (by assumption)))⟩,by omega⟩⟩;repeat'(first|exact d9|exact rfl|refine d8 ?_ ?_)
 . exact⟨d6 bD (a0P (a1t (by omega) hl hp)).symm⟩
theorem c5V (xs ys:List Cutoff):Mt 138 [.sl (xs.map Cutoff.cells), .sl (ys.map Cutoff.cells)] λd=>d=bD (D6 xs ys):=by
 refine En {} Tryz.func138 Tryz.ntmps138 λ_ _ _ _ _=>?_;refine Kw ?_;repeat'((first|(intro hlq;try simp only[SL] at hlq)|refine K9 ?_|refine K8 ?_)<;>refine Kw ?_)
 refine⟨λh0=>?_,λh0=>?_⟩<;>(try simp only[BL] at h0)<;>refine Kw ?_
 . exact⟨d6 bD (H7 (a1m (by simpa using h0))).symm⟩
 have hl:xs.length=ys.length:=by omega
 repeat'((first|(intro hlq;try simp only[SL] at hlq)|refine K9 ?_|refine K8 ?_)<;>refine Kw ?_)
 refine o4 tok {} [] (X:=Nat) (λi=>[(13,iB i)]) (λ_=>[]) [] (λi=>i<=xs.length/\xs.take i=ys.take i) (λi=>xs.length-i) 0 ?_;refine Kw ?_;refine d8 ?_ ⟨⟨by omega,rfl⟩,λi hΦ=>?_⟩
 . exact Kr
 obtain⟨hi,hp⟩:=hΦ;refine Kw ?_;refine⟨λh1=>?_,λh1=>?_⟩<;>(try simp only[BL] at h1)<;>refine Kw ?_
 . have h1':i<xs.length:=by omega
   have h2':i<ys.length:=by omega
   repeat'((first|(intro hlq;try simp only[SL] at hlq)|refine K9 ?_|refine K8 ?_)<;>refine Kw ?_)
   refine Dr {} [.p 0, .p 1, .p 2, .p 3, .p 4, .p 5, .p 6, .p 7, .p 8] ?_;refine Kw ?_;repeat'((first|(intro hlq;try simp only[SL] at hlq)|refine K9 ?_|refine Ka ?_|refine Kb ?_|refine Kc (hd:=rfl) (e:=?_)|refine Kc (hd:=Cutoff.cells_eq _) (e:=?_)|refine Kd (e:=?_)|refine Kl rfl ?_|fail)<;>refine Kw ?_)
   refine⟨⟨⟨[xs[i].mat,xs[i].lap,xs[i].limit],rfl,rfl⟩,⟨[ys[i].mat,ys[i].lap,ys[i].limit],rfl,rfl⟩⟩,?_⟩;refine Kw ?_;repeat'((first|(intro hlq;try simp only[SL] at hlq)|refine K9 ?_|((refine Kh (λhb=>?_) λhb=>?_)<;>try simp only[BL] at hb)|refine K8 ?_)<;>refine Kw ?_)
   . exact⟨d6 bD (H7 (a1l h1' h2' λe=>(by assumption:_≠_) (Cutoff.c_iff.2 e))).symm⟩
   . refine⟨⟨i+1,?_,⟨by omega,a1v h1' h2' hp (Cutoff.c_iff.1 (Classical.not_not.1 (by assumption)))⟩,by omega⟩⟩;repeat'(first|exact d9|exact rfl|refine d8 ?_ ?_)
 . exact⟨d6 bD (a0P (a1t (by omega) hl hp)).symm⟩
theorem c5S (xs ys:List Distance)(G:Nat)(h:∀x∈xs,∀y,Mt G [x.d,y.d] λd=>d=bD (D6 x y)):Mt 51 [.sl (xs.map Distance.cells), .sl (ys.map Distance.cells), .fn G [] []] λd=>d=bD (D6 xs ys):=by
 refine En {} Tryz.func51 Tryz.ntmps51 λ_ _ _ _ _=>?_;refine Kw ?_;repeat'((first|(intro hlq;try simp only[SL] at hlq)|refine K9 ?_|refine K8 ?_)<;>refine Kw ?_)
 refine⟨λh0=>?_,λh0=>?_⟩<;>(try simp only[BL] at h0)<;>refine Kw ?_
 . exact⟨d6 bD (H7 (a1m (by simpa using h0))).symm⟩
 have hl:xs.length=ys.length:=by omega
 repeat'((first|(intro hlq;try simp only[SL] at hlq)|refine K9 ?_|refine K8 ?_)<;>refine Kw ?_)
 refine o4 tok {} [] (X:=Nat) (λi=>[(17,iB i)]) (λ_=>[]) [8,9] (λi=>i<=xs.length/\xs.take i=ys.take i) (λi=>xs.length-i) 0 ?_;refine Kw ?_;refine d8 ?_ ⟨⟨by omega,rfl⟩,λi hΦ=>?_⟩
 . exact Kr
 obtain⟨hi,hp⟩:=hΦ;refine Kw ?_;refine⟨λh1=>?_,λh1=>?_⟩<;>(try simp only[BL] at h1)<;>refine Kw ?_
 . have h1':i<xs.length:=by omega
   have h2':i<ys.length:=by omega
   repeat'((first|(intro hlq;try simp only[SL] at hlq)|refine Meets.k (h xs[i] (q7 h1') ys[i]) ?_|refine K9 ?_|((refine Kh (λhb=>?_) λhb=>?_)<;>try simp only[BL] at hb)|refine Ka ?_|refine Kb ?_|refine Kc (hd:=rfl) (e:=?_)|refine Kc (hd:=Distance.cells_eq _) (e:=?_)|refine Kd (e:=?_)|refine Kl rfl ?_|fail)<;>refine Kw ?_)
   . exact⟨d6 bD (H7 (a1l h1' h2' (sameB_niff.1 (by assumption)))).symm⟩
   . refine⟨⟨i+1,?_,⟨by omega,a1v h1' h2' hp (sameB_iff.1 (by assumption))⟩,by omega⟩⟩;repeat'(first|exact d9|exact rfl|refine d8 ?_ ?_)
 . exact⟨d6 bD (a0P (a1t (by omega) hl hp)).symm⟩
theorem b2p (xs ys:List Step)(G:Nat)(h:∀x∈xs,∀y,Mt G [x.d,y.d] λd=>d=bD (D6 x y)):Mt 57 [.sl (xs.map Step.cells), .sl (ys.map Step.cells), .fn G [] []] λd=>d=bD (D6 xs ys):=by
 refine En {} Tryz.func57 Tryz.ntmps57 λ_ _ _ _ _=>?_;refine Kw ?_;repeat'((first|(intro hlq;try simp only[SL] at hlq)|refine K9 ?_|refine K8 ?_)<;>refine Kw ?_)
 refine⟨λh0=>?_,λh0=>?_⟩<;>(try simp only[BL] at h0)<;>refine Kw ?_
 . exact⟨d6 bD (H7 (a1m (by simpa using h0))).symm⟩
 have hl:xs.length=ys.length:=by omega
 repeat'((first|(intro hlq;try simp only[SL] at hlq)|refine K9 ?_|refine K8 ?_)<;>refine Kw ?_)
 refine o4 tok {} [] (X:=Nat) (λi=>[(17,iB i)]) (λ_=>[]) [8,9] (λi=>i<=xs.length/\xs.take i=ys.take i) (λi=>xs.length-i) 0 ?_;refine Kw ?_;refine d8 ?_ ⟨⟨by omega,rfl⟩,λi hΦ=>?_⟩
 . exact Kr
 obtain⟨hi,hp⟩:=hΦ;refine Kw ?_;refine⟨λh1=>?_,λh1=>?_⟩<;>(try simp only[BL] at h1)<;>refine Kw ?_
 . have h1':i<xs.length:=by omega
   have h2':i<ys.length:=by omega
   repeat'((first|(intro hlq;try simp only[SL] at hlq)|refine Meets.k (h xs[i] (q7 h1') ys[i]) ?_|refine K9 ?_|((refine Kh (λhb=>?_) λhb=>?_)<;>try simp only[BL] at hb)|refine Ka ?_|refine Kb ?_|refine Kc (hd:=rfl) (e:=?_)|refine Kc (hd:=Step.cells_eq _) (e:=?_)|refine Kd (e:=?_)|refine Kl rfl ?_|fail)<;>refine Kw ?_)
   . exact⟨d6 bD (H7 (a1l h1' h2' (sameB_niff.1 (by assumption)))).symm⟩
   . refine⟨⟨i+1,?_,⟨by omega,a1v h1' h2' hp (sameB_iff.1 (by assumption))⟩,by omega⟩⟩;repeat'(first|exact d9|exact rfl|refine d8 ?_ ?_)
 . exact⟨d6 bD (a0P (a1t (by omega) hl hp)).symm⟩
theorem b7s (xs ys:List Part)(G:Nat)(h:∀x∈xs,∀y,Mt G [x.d,y.d] λd=>d=bD (D6 x y)):Mt 139 [.sl (xs.map Part.cells), .sl (ys.map Part.cells), .fn G [] []] λd=>d=bD (D6 xs ys):=by
 refine En {} Tryz.func139 Tryz.ntmps139 λ_ _ _ _ _=>?_;refine Kw ?_;repeat'((first|(intro hlq;try simp only[SL] at hlq)|refine K9 ?_|refine K8 ?_)<;>refine Kw ?_)
 refine⟨λh0=>?_,λh0=>?_⟩<;>(try simp only[BL] at h0)<;>refine Kw ?_
 . exact⟨d6 bD (H7 (a1m (by simpa using h0))).symm⟩
 have hl:xs.length=ys.length:=by omega
 repeat'((first|(intro hlq;try simp only[SL] at hlq)|refine K9 ?_|refine K8 ?_)<;>refine Kw ?_)
 refine o4 tok {} [] (X:=Nat) (λi=>[(17,iB i)]) (λ_=>[]) [8,9] (λi=>i<=xs.length/\xs.take i=ys.take i) (λi=>xs.length-i) 0 ?_;refine Kw ?_;refine d8 ?_ ⟨⟨by omega,rfl⟩,λi hΦ=>?_⟩
 . exact Kr
 obtain⟨hi,hp⟩:=hΦ;refine Kw ?_;refine⟨λh1=>?_,λh1=>?_⟩<;>(try simp only[BL] at h1)<;>refine Kw ?_
 . have h1':i<xs.length:=by omega
   have h2':i<ys.length:=by omega
   repeat'((first|(intro hlq;try simp only[SL] at hlq)|refine Meets.k (h xs[i] (q7 h1') ys[i]) ?_|refine K9 ?_|((refine Kh (λhb=>?_) λhb=>?_)<;>try simp only[BL] at hb)|refine Ka ?_|refine Kb ?_|refine Kc (hd:=rfl) (e:=?_)|refine Kc (hd:=Part.cells_eq _) (e:=?_)|refine Kd (e:=?_)|refine Kl rfl ?_|fail)<;>refine Kw ?_)
   . exact⟨d6 bD (H7 (a1l h1' h2' (sameB_niff.1 (by assumption)))).symm⟩
   . refine⟨⟨i+1,?_,⟨by omega,a1v h1' h2' hp (sameB_iff.1 (by assumption))⟩,by omega⟩⟩;repeat'(first|exact d9|exact rfl|refine d8 ?_ ?_)
 . exact⟨d6 bD (a0P (a1t (by omega) hl hp)).symm⟩
theorem c5R (xs ys:List Cond)(G:Nat)(h:∀x∈xs,∀y,Mt G [x.d,y.d] λd=>d=bD (D6 x y)):Mt 200 [.sl (xs.map Cond.cells), .sl (ys.map Cond.cells), .fn G [] []] λd=>d=bD (D6 xs ys):=by
 refine En {} Tryz.func200 Tryz.ntmps200 λ_ _ _ _ _=>?_;refine Kw ?_;repeat'((first|(intro hlq;try simp only[SL] at hlq)|refine K9 ?_|refine K8 ?_)<;>refine Kw ?_)
 refine⟨λh0=>?_,λh0=>?_⟩<;>(try simp only[BL] at h0)<;>refine Kw ?_
 . exact⟨d6 bD (H7 (a1m (by simpa using h0))).symm⟩
 have hl:xs.length=ys.length:=by omega
 repeat'((first|(intro hlq;try simp only[SL] at hlq)|refine K9 ?_|refine K8 ?_)<;>refine Kw ?_)
 refine o4 tok {} [] (X:=Nat) (λi=>[(17,iB i)]) (λ_=>[]) [8,9] (λi=>i<=xs.length/\xs.take i=ys.take i) (λi=>xs.length-i) 0 ?_;refine Kw ?_;refine d8 ?_ ⟨⟨by omega,rfl⟩,λi hΦ=>?_⟩
 . exact Kr
 obtain⟨hi,hp⟩:=hΦ;refine Kw ?_;refine⟨λh1=>?_,λh1=>?_⟩<;>(try simp only[BL] at h1)<;>refine Kw ?_
 . have h1':i<xs.length:=by omega
   have h2':i<ys.length:=by omega
   repeat'((first|(intro hlq;try simp only[SL] at hlq)|refine Meets.k (h xs[i] (q7 h1') ys[i]) ?_|refine K9 ?_|((refine Kh (λhb=>?_) λhb=>?_)<;>try simp only[BL] at hb)|refine K8 ?_)<;>refine Kw ?_)
   . exact⟨d6 bD (H7 (a1l h1' h2' (sameB_niff.1 (by assumption)))).symm⟩
   . refine⟨⟨i+1,?_,⟨by omega,a1v h1' h2' hp (sameB_iff.1 (by assumption))⟩,by omega⟩⟩;repeat'(first|exact d9|exact rfl|refine d8 ?_ ?_)
 . exact⟨d6 bD (a0P (a1t (by omega) hl hp)).symm⟩
theorem b7J (a b:Cond):Mt 141 [a.d,b.d] λd=>d=bD (D6 a b):=by
 have hp:Mt 200 [.sl (a.parts.map Cond.cells), .sl (b.parts.map Cond.cells), .fn 141 [] []] λd=>d=bD (D6 a.parts b.parts):=c5R a.parts b.parts 141 λx hx y=>by
  have:=Cond.size_part hx;exact b7J x y
 refine En {} Tryz.func141 Tryz.ntmps141 λ_ _ _ _ _=>?_;refine Kw ?_;repeat'((first|(intro hlq;try simp only[SL] at hlq)|refine Meets.k (hp) ?_|refine K9 ?_|((refine Kh (λhb=>?_) λhb=>?_)<;>try simp only[BL] at hb)|refine K8 ?_)<;>refine Kw ?_)
 all_goals
  refine⟨d6 bD ?_⟩;try clear hp
  try clear hq
  try clear h1 h2
  try simp only[sameB_iff,sameB_niff] at *
  first
   |exact(H7 (λe=>by rw[Cond.e_iff] at e;simp_all)).symm
   |(rw[G8,sameB_iff,sameB_iff,Cond.e_iff];simp[*])
termination_by SizeOf.sizeOf a
decreasing_by assumption
theorem b7K (a b:Part):Mt 140 [a.d,b.d] λd=>d=bD (D6 a b):=by
 have hp:Mt 139 [.sl (a.parts.map Part.cells), .sl (b.parts.map Part.cells), .fn 140 [] []] λd=>d=bD (D6 a.parts b.parts):=b7s a.parts b.parts 140 λx hx y=>by
  have:=Part.size_part hx;exact b7K x y
 refine En {} Tryz.func140 Tryz.ntmps140 λ_ _ _ _ _=>?_;refine Kw ?_;repeat'((first|(intro hlq;try simp only[SL] at hlq)|refine Meets.k (hp) ?_|refine K9 ?_|((refine Kh (λhb=>?_) λhb=>?_)<;>try simp only[BL] at hb)|refine K8 ?_)<;>refine Kw ?_)
 all_goals
  refine⟨d6 bD ?_⟩;try clear hp
  try clear hq
  try clear h1 h2
  try simp only[sameB_iff,sameB_niff] at *
  first
   |exact(H7 (λe=>by rw[Part.e_iff] at e;simp_all)).symm
   |(rw[G8,sameB_iff,sameB_iff,Part.e_iff];simp[*])
termination_by SizeOf.sizeOf a
decreasing_by assumption
theorem b2C (a b:Step):Mt 58 [a.d,b.d] λd=>d=bD (D6 a b):=by
 have hp:Mt 57 [.sl (a.th.map Step.cells), .sl (b.th.map Step.cells), .fn 58 [] []] λd=>d=bD (D6 a.th b.th):=b2p a.th b.th 58 λx hx y=>by
  have:=a9o hx;exact b2C x y
 have hq:Mt 57 [.sl (a.el.map Step.cells), .sl (b.el.map Step.cells), .fn 58 [] []] λd=>d=bD (D6 a.el b.el):=b2p a.el b.el 58 λx hx y=>by
  have:=a9n hx;exact b2C x y
 refine En {} Tryz.func58 Tryz.ntmps58 λ_ _ _ _ _=>?_;refine Kw ?_;repeat'((first|(intro hlq;try simp only[SL] at hlq)|refine Meets.k (b7J a.cond b.cond) ?_|refine Meets.k (hp) ?_|refine Meets.k (hq) ?_|refine K9 ?_|((refine Kh (λhb=>?_) λhb=>?_)<;>try simp only[BL] at hb)|refine K8 ?_)<;>refine Kw ?_)
 all_goals
  refine⟨d6 bD ?_⟩;try clear hp
  try clear hq
  try clear h1 h2
  try simp only[sameB_iff,sameB_niff] at *
  first
   |exact(H7 (λe=>by rw[Step.e_iff] at e;simp_all)).symm
   |(rw[G8,sameB_iff,sameB_iff,Step.e_iff];simp[*])
termination_by SizeOf.sizeOf a
decreasing_by all_goals assumption
theorem c6U (a b:Distance):Mt 52 [a.d,b.d] λd=>d=bD (D6 a b):=by
 have hp:Mt 139 [.sl (a.route.map Part.cells), .sl (b.route.map Part.cells), .fn 140 [] []] λd=>d=bD (D6 a.route b.route):=b7s a.route b.route 140 λx hx y=>b7K x y;refine En {} Tryz.func52 Tryz.ntmps52 λ_ _ _ _ _=>?_;refine Kw ?_;repeat'((first|(intro hlq;try simp only[SL] at hlq)|refine Meets.k (c5V a.cutoffs b.cutoffs) ?_|refine Meets.k (hp) ?_|refine K9 ?_|((refine Kh (λhb=>?_) λhb=>?_)<;>try simp only[BL] at hb)|refine K8 ?_)<;>refine Kw ?_)
 all_goals
  refine⟨d6 bD ?_⟩;try clear hp
  try clear hq
  try clear h1 h2
  try simp only[sameB_iff,sameB_niff] at *
  first
   |exact(H7 (λe=>by rw[Distance.e_iff] at e;simp_all)).symm
   |(rw[G8,sameB_iff,sameB_iff,Distance.e_iff];simp[*])
theorem b1F (a b:Course):Mt 10 [a.d,b.d] λd=>d=bD (D6 a b):=by
 have h1:=c5S a.distances b.distances 52 λx _ y=>c6U x y;have h2:=b2p a.ties b.ties 58 λx _ y=>b2C x y;refine En {} Tryz.func10 Tryz.ntmps10 λ_ _ _ _ _=>?_;refine Kw ?_;repeat'((first|(intro hlq;try simp only[SL] at hlq)|refine Meets.k (c5X a.mats b.mats) ?_|refine Meets.k (c5W a.legs b.legs) ?_|refine Meets.k (h1) ?_|refine Meets.k (c6a a.waves b.waves) ?_|refine Meets.k (c5Y a.offences b.offences) ?_|refine Meets.k (c5U a.categories b.categories) ?_|refine Meets.k (c5Z a.prizes b.prizes) ?_|refine Meets.k (h2) ?_|refine⟨⟨⟨[a.faults.misses,a.faults.strays,a.faults.window,a.faults.residual,a.faults.drift],rfl,rfl⟩,⟨[b.faults.misses,b.faults.strays,b.faults.window,b.faults.residual,b.faults.drift],rfl,rfl⟩⟩,?_⟩|refine K9 ?_|((refine Kh (λhb=>?_) λhb=>?_)<;>try simp only[BL] at hb)|refine K8 ?_)<;>refine Kw ?_)
 all_goals
  refine⟨d6 bD ?_⟩;try clear hp
  try clear hq
  try clear h1 h2
  try simp only[sameB_iff,sameB_niff] at *
  first
   |exact(H7 (λe=>by rw[Course.e_iff,Faults.e_iff] at e;simp_all)).symm
   |(rw[G8,sameB_iff,sameB_iff,Course.e_iff,Faults.e_iff];simp[*])
end Go.Proofs.YteillnfhkeebjaaGreatDoor.Dx
