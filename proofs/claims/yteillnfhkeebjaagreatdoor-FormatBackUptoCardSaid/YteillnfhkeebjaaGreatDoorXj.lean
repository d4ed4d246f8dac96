/- The. -/
import Derived.Test.YteillnfhkeebjaaGreatDoorXi
set_option linter.all false
namespace Go.Proofs.YteillnfhkeebjaaGreatDoor.Dx
open Go Go.RowKit Go.Proofs
set_option maxRecDepth 100000
set_option maxHeartbeats 8000000
theorem d2j {s u:List UInt8}{sg:Int}(h:a2U s=(sg,u))(hs:s.length<=maxLen):Mt 263 [.str s, .str [45]] λd=>d= .tup [.str u,bD (decide (sg<0))]:=by
 have hc:=b5g s [45] hs;by_cases hb:∃r,s=45::r
 . obtain⟨r,rfl⟩:=hb;cases h;rw[(a9H u).1,(a9H u).2] at hc;exact hc
 . have hb:∀r,s≠45::r:=λr e=>hb ⟨r,e⟩;rw[c0l (by cases s with|nil=>simp|cons b r=>intro e;exact hb r (by rw[show b=45 by simpa using e]))] at h;cases h;rw[(a9I hb).1,(a9I hb).2] at hc;exact hc
theorem c4f {s:List UInt8}{c:UInt8}{w r:List UInt8}{p:Bool}(h:C1 c s=(w,r,p))(hs:s.length<4294967281):Mt 267 [.str s, .str [c]] λd=>d= .tup [.str w, .str r,bD p]:=by
 have:=c1I s [c] hs;rw[c8p,h] at this;exact this
theorem d2i {s u:List UInt8}{sg:Int}(h:a2U s=(sg,u)):u.length<=s.length/\(sg=1\/sg= -1):=by
 unfold a2U at h;split at h
 . cases h;simp
 . cases h;simp
theorem c5b {c:UInt8}{s w r:List UInt8}{p:Bool}(h:C1 c s=(w,r,p)):w.length<=s.length:=by
 cases p
 . obtain⟨rfl,_,_⟩:=X7 h;exact p0 _
 . obtain⟨rfl,_⟩:=a0z h;simp
theorem c5c {c:UInt8}{s w r:List UInt8}{p:Bool}(h:C1 c s=(w,r,p)):r.length<=s.length:=by
 cases p
 . obtain⟨rfl,rfl,_⟩:=X7 h;simp
 . obtain⟨rfl,_⟩:=a0z h;simp;omega
theorem Kq1 {α:Type}{xs:List α}{f:α->List D}{x:List D}{n:Nat}{E:Prop}(hk:∀y,(f y).length=n)(hx:x.length=n)(e:E):((x::xs.map f).length<=maxLen->0<=(1:Int)/\(1:Int)<=((x::xs.map f).length:Int)/\((x::xs.map f).length:Int)<=((x::xs.map f).length:Int)/\∀ds∈x::xs.map f,ds.length=n)/\E:=
 ⟨λ_=>⟨by omega,by simp only[i7];omega,a0o _,λds h=>by
  rcases p8.1 h with rfl|h
  . exact hx
  . obtain⟨y,_,rfl⟩:=v6.1 h;exact hk y⟩,e⟩
theorem d3r (x:List D)(r:List (List D)):List.drop (Int.toNat 1) (List.take (Int.toNat ((x::r).length:Int)) (x::r))=r:=by
 rw[U4,y6 (p0 _)];rfl
theorem c3S (s:List UInt8)(hl:s.length<=1048576):Mt 244 [.str s] λd=>d=a5m s:=by
 obtain⟨sg,u,hs⟩:∃sg u,a2U s=(sg,u):=⟨_,_,rfl⟩
 obtain⟨hul,hsg⟩:=d2i hs;rw[d3I,hs];dsimp only;have k0:=d2j hs (by unfold maxLen;omega);rcases hp:C1 46 u with⟨w,f,p⟩
 rcases hq:C1 58 w with⟨a,r,c⟩
 have hwl:=c5b hp;obtain⟨rest,hsp,hU⟩:=d3P hp hq;rw[hU];have k1:=c4f hp (by omega);have k2:=c2G w [58] (by omega) (by simp);rw[hsp] at k2;have k2:Mt 268 [.str w, .str [58]] λd=>d= .sl (I0 a::rest.map I0):=k2;have k3:=(b2Q a).bl;have k4:=(b2k f 1 6).bl;have k5:=λ(h:E4 a=true)=>b1t a (numN a:Int) (a8k h).2 (b1S (a4W h).1 (a4W h).2) (i64 (by omega) (by have:=b9g (a8k h).1 (a8k h).2;omega));have hna:=λ(h:E4 a=true)=>b9g (a8k h).1 (a8k h).2;have hmic:E4 a=E4 a:=rfl;have hfl:f.length<=1048576:=by
  have:=c5c hp;omega
 have hfd:p=false->f=[]:=λh=>by subst h;exact(X7 hp).2.1
 clear hU hp hq hsp hs hwl hul;by_cases hE:E4 a=false\/rest.length>2\/(rest.length=0/\p=false)\/(p=true/\G0 f 1 6=false)
 . rw [a9A,d4 hE];show Meets _ _ _ λd=>d=b2q;clear k5 hna hmic hfd;generalize decide (sg<0)=ng at *;generalize E4 a=nb at *;generalize G0 f 1 6=df at *;cases nb<;>cases p<;>cases df;all_goals
    refine En {} Tryz.func244 Tryz.ntmps244 λ_ _ _ _ _=>?_;refine Kw ?_;repeat'((first|(intro hlq;try simp only[SL] at hlq)|refine Meets.k (k0) ?_|refine Meets.k (k1) ?_|refine Meets.k (k2) ?_|refine Meets.k (k3) ?_|refine Meets.k (k4) ?_|refine⟨I0 a,⟨by omega,rfl,rfl⟩,?_⟩|refine K9 ?_|((refine Kh (λhb=>?_) λhb=>?_)<;>try simp only[BL] at hb)|refine K8 ?_)<;>refine Kw ?_)
    all_goals first
     |contradiction
     |exact⟨rfl⟩
     | (exfalso
        simp only[i7,o9] at *;rcases hE with h9|h9|⟨h9,h10⟩|⟨h9,h10⟩<;>first|(cases h9;done)|(cases h10;done)|omega)
 . rw [a9A,c8 hE];simp only[not_or,Bool.not_eq_false] at hE;obtain⟨hA,hR,hP,hF⟩:=hE;have k7:=k5 hA;have hna7:=hna hA;clear k5 hna;have hz:((f++[48,48,48,48,48,48]).take 6).all p4=true/\((f++[48,48,48,48,48,48]).take 6).length=6:=by
    refine⟨?_,by simp⟩;cases p with
    |false=>rw[hfd rfl];decide
    | true=>
      rcases b7I f with⟨_,_,h⟩|⟨h,_⟩
      . exact h
      . exact absurd ⟨rfl,h⟩ hF
   have hm0:=b0y 6 _ hz.2 hz.1;have k6:Mt 198 [.str ((f++[48,48,48,48,48,48]).take 6)] λd=>d= .tup [iD (numN ((f++[48,48,48,48,48,48]).take 6):Int), .v .nilIface]:=
    b1t _ _ (by rw[hz.2];decide) (b1S hz.1 (λe=>by have:=hz.2;rw[e] at this;cases this)) (i64 (by omega) (by omega))
   clear hfd hz;generalize hmm:(numN ((f++[48,48,48,48,48,48]).take 6):Int)=mic at *;have hmic0:0<=mic/\mic<1000000:=by omega
   clear hmic hmm hm0;generalize hnn:(numN a:Int)=na at *;have hna0:0<=na/\na<1000000000000000000:=by omega
   have hlen:(I0 a::rest.map I0).length=rest.length+1:=by simp
   clear hna7 hnn;have hgo:(rest.length=0->p=true):=by
    intro h;cases p
    . exact absurd ⟨h,rfl⟩ hP
    . rfl
   rw[hA] at k3;have k4':p=true->Mt 269 [.str f,iD 1,iD 6] λd=>d= .bl true:=by
    intro h;have:G0 f 1 6=true:=by
     cases hd:G0 f 1 6
     . exact absurd ⟨h,hd⟩ hF
     . rfl
    rw[this] at k4;exact k4
   generalize E4 a=nb at *;clear hP;have sx:=λx=>d2k x;refine En {} Tryz.func244 Tryz.ntmps244 λ_ _ _ _ _=>?_;((conv=>whnf);repeat'((fail_if_success (refine a5y 4 ?_));refine Z rfl ?_;conv=>whnf))
   repeat'((first|(intro hlq;try simp only[SL] at hlq)|refine Meets.k (k0) ?_|refine Meets.k (k1) ?_|refine Meets.k (k2) ?_|refine K9 ?_|((refine Kh (λhb=>?_) λhb=>?_)<;>try simp only[BL] at hb)|refine K8 ?_)<;>((conv=>whnf);repeat'((fail_if_success (refine a5y 4 ?_));refine Z rfl ?_;conv=>whnf)))
   refine b5t (b6S tok (cf:={}) (X:=Unit) (λ_=>⟨[(8, .d (.sl (I0 a::rest.map I0))),(6, .d (.str f)),(4, .d (bD (decide (sg<0)))),(3,iB 0),(2,iB 0)],[],[]⟩) (λ_=>True) ?_ (λ_ _=>?_))
   . clear k6 k7;cases p;all_goals
      conv=>whnf
      repeat'((first|(intro hlq;try simp only[SL] at hlq)|refine Meets.k (k3) ?_|refine Meets.k (k4' rfl) ?_|refine⟨I0 a,⟨by omega,rfl,rfl⟩,?_⟩|refine K9 ?_|((refine Kh (λhb=>?_) λhb=>?_)<;>try simp only[BL] at hb)|refine K8 ?_)<;>refine Kw ?_)
      all_goals first
       |contradiction
       |(exfalso;omega)
       |(exfalso;cases hgo (by omega);done)
       | (refine⟨⟨(),?_,d9⟩⟩
          repeat'(first|exact d9|exact rfl|refine d8 ?_ ?_))
   clear k0 k1 k2 k3 k4 k4';refine Kw ?_;repeat'((first|(intro hlq;try simp only[SL] at hlq)|refine Meets.k (k7) ?_|refine⟨I0 a,⟨by omega,rfl,rfl⟩,?_⟩|refine Kq1 (λ_=>rfl) rfl ?_|refine K9 ?_|((refine Kh (λhb=>?_) λhb=>?_)<;>try simp only[BL] at hb)|refine K8 ?_)<;>refine Kw ?_)
   rw[d3r];refine o4 tok {} [] (X:=Nat×Int) (λx=>[(67,iB x.1),(9,iB x.2)]) (λ_=>[]) [] (λx=>x.1<=rest.length/\0<=x.2/\x.2<1000000000000000000/\a2T (rest.drop x.1) x.2=a2T rest na) (λx=>rest.length-x.1) (0,na) ?_;refine Kw ?_;refine d8 ?_ ⟨⟨by dsimp only;omega,by dsimp only;omega,by dsimp only;omega,rfl⟩,λx hΦ=>?_⟩
   . exact Kr
   obtain⟨i,t⟩:=x;dsimp only at hΦ⊢;obtain⟨hi,ht0,ht1,he⟩:=hΦ;rw[<-he];refine Kw ?_;refine⟨λh1=>?_,λh1=>?_⟩<;>(try simp only[BL] at h1)<;>refine Kw ?_
   . have h1':i<rest.length:=by omega
     rw[F2 h1',a2T] at he⊢;have kd:=(b2k rest[i] 2 2).bl;rcases sx rest[i] with⟨s1,b0,r0,s2,s3,s4⟩|⟨s1,s4,b0,r0,s2,s3⟩|⟨s1,s4⟩
     . rw [s1] at kd;have e0:rest[i][Int.toNat 0]?=some b0:=by rw[s2];rfl
       have hd:rest[i].all p4=true/\rest[i].length<=2:=by
        simp only[G0,f0,j0] at s1;exact⟨s1.2.2,by omega⟩
       have hlt:=b0y _ _ rfl hd.1;have hlt2:10^rest[i].length<=10^2:=Nat.pow_le_pow_right (by omega) hd.2;have ka:=b1t rest[i] (numN rest[i]:Int) (by omega) (b1S hd.1 (by rw[s2];simp)) (i64 (by omega) (by omega));rw[s4] at he⊢;have hx:0<=(numN rest[i]:Int)/\(numN rest[i]:Int)<100:=by omega
       clear hlt hlt2 sx;generalize (numN rest[i]:Int)=nx at *;repeat'((first|(intro hlq;try simp only[SL] at hlq)|refine Meets.k (kd) ?_|refine⟨b0,⟨by omega,e0⟩,?_⟩|refine Meets.k (ka) ?_|refine⟨λ_=>i64 (by omega) (by omega),?_⟩|refine⟨λ_ _=>i64 (by omega) (by omega),?_⟩|refine K9 ?_|((refine Kh (λhb=>?_) λhb=>?_)<;>try simp only[BL] at hb)|refine Ka ?_|refine Kb ?_|refine Kc (hd:=rfl) (e:=?_)|refine Kc (hd:=b0I _) (e:=?_)|refine Kd (e:=?_)|refine Kl rfl ?_|fail)<;>refine Kw ?_)
       all_goals first
        |contradiction
        |(exfalso;omega)
        |(refine⟨?_⟩;rw[d4 (.inr (by assumption))];rfl)
        | (refine⟨⟨(i+1,60*t+nx),?_,⟨by dsimp only;omega,by dsimp only;omega,by dsimp only;omega,(c8 (by omega)).symm⟩,by dsimp only;omega⟩⟩
           repeat'(first|exact d9|exact rfl|refine d8 ?_ ?_))
     . rw[s1] at kd;have e0:rest[i][Int.toNat 0]?=some b0:=by rw[s2];rfl
       repeat'((first|(intro hlq;try simp only[SL] at hlq)|refine Meets.k (kd) ?_|refine⟨b0,⟨by omega,e0⟩,?_⟩|refine K9 ?_|((refine Kh (λhb=>?_) λhb=>?_)<;>try simp only[BL] at hb)|refine Ka ?_|refine Kb ?_|refine Kc (hd:=rfl) (e:=?_)|refine Kc (hd:=b0I _) (e:=?_)|refine Kd (e:=?_)|refine Kl rfl ?_|fail)<;>refine Kw ?_)
       all_goals first
        |contradiction
        |(exfalso;omega)
        |(refine⟨?_⟩;rw[d4 (.inl (by omega))];rfl)
     . rw[s1] at kd;repeat'((first|(intro hlq;try simp only[SL] at hlq)|refine Meets.k (kd) ?_|refine K9 ?_|((refine Kh (λhb=>?_) λhb=>?_)<;>try simp only[BL] at hb)|refine Ka ?_|refine Kb ?_|refine Kc (hd:=rfl) (e:=?_)|refine Kc (hd:=b0I _) (e:=?_)|refine Kd (e:=?_)|refine Kl rfl ?_|fail)<;>refine Kw ?_)
       all_goals first
        |contradiction
        |(refine⟨?_⟩;rw[d4 (.inl (by omega))];rfl)
   . obtain rfl:i=rest.length:=by omega
     rw[a5B] at he⊢;rw[a2T];clear sx;dsimp only;rcases hsg with rfl|rfl;all_goals
      repeat'((first|(intro hlq;try simp only[SL] at hlq)|refine Meets.k (k6) ?_|refine⟨λ_=>⟨by omega,by omega,by simp;omega⟩,?_⟩|refine⟨λ_ _=>i64 (by omega) (by omega),?_⟩|refine⟨λ_=>i64 (by omega) (by omega),?_⟩|refine K9 ?_|((refine Kh (λhb=>?_) λhb=>?_)<;>try simp only[BL] at hb)|refine K8 ?_)<;>refine Kw ?_)
      all_goals first
       |contradiction
       |(exfalso;omega)
       |(refine⟨?_⟩;rw[d4 (by omega)];rfl)
       |(refine⟨?_⟩;rw[c8 (by omega)];show _=a3W _ (some _);unfold a3W;dsimp only;rw[d4 (by omega)];done)
       |(refine⟨?_⟩;rw[c8 (by omega)];show _=a3W _ (some _);unfold a3W;dsimp only;rw[c8 (by omega)];rw[show t*1000000+mic=1*(1000000*t+mic) by omega];done)
       |(refine⟨?_⟩;rw[c8 (by omega)];show _=a3W _ (some _);unfold a3W;dsimp only;rw[c8 (by omega)];rw[show-(t*1000000+mic)= -1*(1000000*t+mic) by omega];done)
end Go.Proofs.YteillnfhkeebjaaGreatDoor.Dx
