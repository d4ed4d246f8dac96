/- The code's Time. -/
import Derived.Test.YteillnfhkeebjaaGreatDoorTl
import Derived.Test.YteillnfhkeebjaaGreatDoorTj
set_option linter.all false
namespace Go.Proofs.YteillnfhkeebjaaGreatDoor.Dx
open Go Go.RowKit Go.Proofs
set_option maxRecDepth 100000
set_option maxHeartbeats 8000000
theorem c2t {s u:List UInt8}{sg:Int}(h:R2 s=(sg,u))(hs:s.length<=maxLen):Meets Tryz.prog 263 [.str s, .str [45]] λd=>d= .tup [.str u,bD (decide (sg<0))]:=by
 have hc:=a8N s [45] hs
 by_cases hb:∃r,s=45::r
 . obtain⟨r,rfl⟩:=hb
   cases h
   rw[(a3B u).1,(a3B u).2] at hc
   exact hc
 . have hb:∀r,s≠45::r:=λr e=>hb ⟨r,e⟩
   rw[b3g (by cases s with|nil=>simp|cons b r=>intro e;exact hb r (by rw[show b=45 by simpa using e]))] at h
   cases h
   rw[(a3C hb).1,(a3C hb).2] at hc
   exact hc
theorem b6l {s:List UInt8}{c:UInt8}{w r:List UInt8}{p:Bool}(h:n7 c s=(w,r,p))(hs:s.length<4294967281):Meets Tryz.prog 267 [.str s, .str [c]] λd=>d= .tup [.str w, .str r,bD p]:=by
 have:=b4B s [c] hs
 rw[b9F,h] at this
 exact this
theorem c2s {s u:List UInt8}{sg:Int}(h:R2 s=(sg,u)):u.length<=s.length/\(sg=1\/sg= -1):=by
 unfold R2 at h
 split at h
 . cases h;simp
 . cases h;simp
theorem b6W {c:UInt8}{s w r:List UInt8}{p:Bool}(h:n7 c s=(w,r,p)):w.length<=s.length:=by
 cases p
 . obtain⟨rfl,_,_⟩:=E2 h;exact Nat.le_refl _
 . obtain⟨rfl,_⟩:=H5 h;simp
theorem b6X {c:UInt8}{s w r:List UInt8}{p:Bool}(h:n7 c s=(w,r,p)):r.length<=s.length:=by
 cases p
 . obtain⟨rfl,rfl,_⟩:=E2 h;simp
 . obtain⟨rfl,_⟩:=H5 h;simp;omega
theorem Kq1 {α:Type}{xs:List α}{f:α->List D}{x:List D}{n:Nat}{E:Prop}(hk:∀y,(f y).length=n)(hx:x.length=n)(e:E):((x::xs.map f).length<=maxLen->0<=(1:Int)/\(1:Int)<=((x::xs.map f).length:Int)/\((x::xs.map f).length:Int)<=((x::xs.map f).length:Int)/\∀ds∈x::xs.map f,ds.length=n)/\E:=
 ⟨λ_=>⟨by omega,by simp only[List.length_cons];omega,Int.le_refl _,λds h=>by
  rcases List.mem_cons.1 h with rfl|h
  . exact hx
  . obtain⟨y,_,rfl⟩:=List.mem_map.1 h;exact hk y⟩,e⟩
theorem c3m (x:List D)(r:List (List D)):List.drop (Int.toNat 1) (List.take (Int.toNat ((x::r).length:Int)) (x::r))=r:=by
 rw[Int.toNat_natCast,List.take_of_length_le (Nat.le_refl _)];rfl
theorem a9C (s:List UInt8)(hl:s.length<=1048576):Meets Tryz.prog 244 [.str s] λd=>d=a2R s:=by
 obtain⟨sg,u,hs⟩:∃sg u,R2 s=(sg,u):=⟨_,_,rfl⟩
 obtain⟨hul,hsg⟩:=c2s hs
 rw[c3z,hs]
 dsimp only
 have k0:=c2t hs (by unfold maxLen;omega)
 rcases hp:n7 46 u with⟨w,f,p⟩
 rcases hq:n7 58 w with⟨a,r,c⟩
 have hwl:=b6W hp
 obtain⟨rest,hsp,hU⟩:=c3E hp hq
 rw[hU]
 have k1:=b6l hp (by omega)
 have k2:=b5c w [58] (by omega) (by simp)
 rw[hsp] at k2
 have k2:Meets Tryz.prog 268 [.str w, .str [58]] λd=>d= .sl (s6 a::rest.map s6):=k2
 have k3:=(a6E a).bl
 have k4:=(a6b f 1 6).bl
 have k5:=λ(h:p4 a=true)=>a5m a (numN a:Int) (a2r h).2 (a5E (Y9 h).1 (Y9 h).2) (i64 (by omega) (by have:=b2k (a2r h).1 (a2r h).2;omega))
 have hna:=λ(h:p4 a=true)=>b2k (a2r h).1 (a2r h).2
 have hmic:p4 a=p4 a:=rfl
 have hfl:f.length<=1048576:=by
  have:=b6X hp;omega
 have hfd:p=false->f=[]:=λh=>by subst h;exact(E2 hp).2.1
 clear hU hp hq hsp hs hwl hul
 by_cases hE:p4 a=false\/rest.length>2\/(rest.length=0/\p=false)\/(p=true/\q8 f 1 6=false)
 . rw [a3v,if_pos hE]
   show Meets _ _ _ λd=>d=a6i
   clear k5 hna hmic hfd
   generalize decide (sg<0)=ng at *
   generalize p4 a=nb at *
   generalize q8 f 1 6=df at *
   cases nb<;>cases p<;>cases df
   all_goals
    refine enter tok {} Tryz.func244 rfl (by kernel_rfl) Tryz.ntmps244 (by simp) λB0 W0 V0 lent g0=>?_
    refine Kw ?_
    repeat'((first|(intro hlq;try simp only[SL] at hlq)|refine Meets.k (k0) ?_|refine Meets.k (k1) ?_|refine Meets.k (k2) ?_|refine Meets.k (k3) ?_|refine Meets.k (k4) ?_|refine⟨s6 a,⟨by omega,rfl,rfl⟩,?_⟩|refine K9 ?_|((refine Kh (λhb=>?_) λhb=>?_)<;>try simp only[BL] at hb)|refine K8 ?_)<;>refine Kw ?_)
    all_goals first
     |contradiction
     |exact⟨rfl⟩
     | (exfalso
        simp only[List.length_cons,List.length_map] at *
        rcases hE with h9|h9|⟨h9,h10⟩|⟨h9,h10⟩<;>first|(cases h9;done)|(cases h10;done)|omega)
 . rw [a3v,if_neg hE]
   simp only[not_or,Bool.not_eq_false] at hE
   obtain⟨hA,hR,hP,hF⟩:=hE
   have k7:=k5 hA
   have hna7:=hna hA
   clear k5 hna
   have hz:((f++[48,48,48,48,48,48]).take 6).all d9=true/\((f++[48,48,48,48,48,48]).take 6).length=6:=by
    refine⟨?_,by simp⟩
    cases p with
    |false=>rw[hfd rfl];decide
    | true=>
      rcases b0R f with⟨_,_,h⟩|⟨h,_⟩
      . exact h
      . exact absurd ⟨rfl,h⟩ hF
   have hm0:=a4r 6 _ hz.2 hz.1
   have k6:Meets Tryz.prog 198 [.str ((f++[48,48,48,48,48,48]).take 6)] λd=>d= .tup [iD (numN ((f++[48,48,48,48,48,48]).take 6):Int), .v .nilIface]:=
    a5m _ _ (by rw[hz.2];decide) (a5E hz.1 (λe=>by have:=hz.2;rw[e] at this;cases this)) (i64 (by omega) (by omega))
   clear hfd hz
   generalize hmm:(numN ((f++[48,48,48,48,48,48]).take 6):Int)=mic at *
   have hmic0:0<=mic/\mic<1000000:=by omega
   clear hmic hmm hm0
   generalize hnn:(numN a:Int)=na at *
   have hna0:0<=na/\na<1000000000000000000:=by omega
   have hlen:(s6 a::rest.map s6).length=rest.length+1:=by simp
   clear hna7 hnn
   have hgo:(rest.length=0->p=true):=by
    intro h
    cases p
    . exact absurd ⟨h,rfl⟩ hP
    . rfl
   rw[hA] at k3
   have k4':p=true->Meets Tryz.prog 269 [.str f,iD 1,iD 6] λd=>d= .bl true:=by
    intro h
    have:q8 f 1 6=true:=by
     cases hd:q8 f 1 6
     . exact absurd ⟨h,hd⟩ hF
     . rfl
    rw[this] at k4
    exact k4
   generalize p4 a=nb at *
   clear hP
   have sx:=λx=>c2v x
   refine enter tok {} Tryz.func244 rfl (by kernel_rfl) Tryz.ntmps244 (by simp) λB0 W0 V0 lent g0=>?_
   ((conv=>whnf);repeat'((fail_if_success (refine a0f 4 ?_));refine Z rfl ?_;conv=>whnf))
   repeat'((first|(intro hlq;try simp only[SL] at hlq)|refine Meets.k (k0) ?_|refine Meets.k (k1) ?_|refine Meets.k (k2) ?_|refine K9 ?_|((refine Kh (λhb=>?_) λhb=>?_)<;>try simp only[BL] at hb)|refine K8 ?_)<;>((conv=>whnf);repeat'((fail_if_success (refine a0f 4 ?_));refine Z rfl ?_;conv=>whnf)))
   refine a9a (b0c tok (cf:={}) (X:=Unit) (λ_=>⟨[(8, .d (.sl (s6 a::rest.map s6))),(6, .d (.str f)),(4, .d (bD (decide (sg<0)))),(3,iB 0),(2,iB 0)],[],[]⟩) (λ_=>True) ?_ (λ_ _=>?_))
   . clear k6 k7
     cases p
     all_goals
      conv=>whnf
      repeat'((first|(intro hlq;try simp only[SL] at hlq)|refine Meets.k (k3) ?_|refine Meets.k (k4' rfl) ?_|refine⟨s6 a,⟨by omega,rfl,rfl⟩,?_⟩|refine K9 ?_|((refine Kh (λhb=>?_) λhb=>?_)<;>try simp only[BL] at hb)|refine K8 ?_)<;>refine Kw ?_)
      all_goals first
       |contradiction
       |(exfalso;omega)
       |(exfalso;cases hgo (by omega);done)
       | (refine⟨⟨(),?_,True.intro⟩⟩
          repeat'(first|exact True.intro|exact rfl|refine And.intro ?_ ?_))
   clear k0 k1 k2 k3 k4 k4'
   refine Kw ?_
   repeat'((first|(intro hlq;try simp only[SL] at hlq)|refine Meets.k (k7) ?_|refine⟨s6 a,⟨by omega,rfl,rfl⟩,?_⟩|refine Kq1 (λ_=>rfl) rfl ?_|refine K9 ?_|((refine Kh (λhb=>?_) λhb=>?_)<;>try simp only[BL] at hb)|refine K8 ?_)<;>refine Kw ?_)
   rw[c3m]
   refine d4 tok {} [] (X:=Nat×Int) (λx=>[(67,iB x.1),(9,iB x.2)]) (λ_=>[]) [] (λx=>x.1<=rest.length/\0<=x.2/\x.2<1000000000000000000/\R0 (rest.drop x.1) x.2=R0 rest na) (λx=>rest.length-x.1) (0,na) ?_
   refine Kw ?_
   refine And.intro ?_ ⟨⟨by dsimp only;omega,by dsimp only;omega,by dsimp only;omega,rfl⟩,λx hΦ=>?_⟩
   . exact Kr
   obtain⟨i,t⟩:=x
   dsimp only at hΦ⊢
   obtain⟨hi,ht0,ht1,he⟩:=hΦ
   rw[<-he]
   refine Kw ?_
   refine⟨λh1=>?_,λh1=>?_⟩<;>(try simp only[BL] at h1)<;>refine Kw ?_
   . have h1':i<rest.length:=by omega
     rw[List.drop_eq_getElem_cons h1',R0] at he⊢
     have kd:=(a6b rest[i] 2 2).bl
     rcases sx rest[i] with⟨s1,b0,r0,s2,s3,s4⟩|⟨s1,s4,b0,r0,s2,s3⟩|⟨s1,s4⟩
     . rw [s1] at kd
       have e0:rest[i][Int.toNat 0]?=some b0:=by rw[s2];rfl
       have hd:rest[i].all d9=true/\rest[i].length<=2:=by
        simp only[q8,Bool.and_eq_true,decide_eq_true_eq] at s1;exact⟨s1.2.2,by omega⟩
       have hlt:=a4r _ _ rfl hd.1
       have hlt2:10^rest[i].length<=10^2:=Nat.pow_le_pow_right (by omega) hd.2
       have ka:=a5m rest[i] (numN rest[i]:Int) (by omega) (a5E hd.1 (by rw[s2];simp)) (i64 (by omega) (by omega))
       rw[s4] at he⊢
       have hx:0<=(numN rest[i]:Int)/\(numN rest[i]:Int)<100:=by omega
       clear hlt hlt2 sx
       generalize (numN rest[i]:Int)=nx at *
       repeat'((first|(intro hlq;try simp only[SL] at hlq)|refine Meets.k (kd) ?_|refine⟨b0,⟨by omega,e0⟩,?_⟩|refine Meets.k (ka) ?_|refine⟨λ_=>i64 (by omega) (by omega),?_⟩|refine⟨λ_ _=>i64 (by omega) (by omega),?_⟩|refine K9 ?_|((refine Kh (λhb=>?_) λhb=>?_)<;>try simp only[BL] at hb)|refine Ka ?_|refine Kb ?_|refine Kc (hd:=rfl) (e:=?_)|refine Kc (hd:=a4B _) (e:=?_)|refine Kd (e:=?_)|refine Kl rfl ?_|fail)<;>refine Kw ?_)
       all_goals first
        |contradiction
        |(exfalso;omega)
        |(refine⟨?_⟩;rw[if_pos (.inr (by assumption))];rfl)
        | (refine⟨⟨(i+1,60*t+nx),?_,⟨by dsimp only;omega,by dsimp only;omega,by dsimp only;omega,(if_neg (by omega)).symm⟩,by dsimp only;omega⟩⟩
           repeat'(first|exact True.intro|exact rfl|refine And.intro ?_ ?_))
     . rw[s1] at kd
       have e0:rest[i][Int.toNat 0]?=some b0:=by rw[s2];rfl
       repeat'((first|(intro hlq;try simp only[SL] at hlq)|refine Meets.k (kd) ?_|refine⟨b0,⟨by omega,e0⟩,?_⟩|refine K9 ?_|((refine Kh (λhb=>?_) λhb=>?_)<;>try simp only[BL] at hb)|refine Ka ?_|refine Kb ?_|refine Kc (hd:=rfl) (e:=?_)|refine Kc (hd:=a4B _) (e:=?_)|refine Kd (e:=?_)|refine Kl rfl ?_|fail)<;>refine Kw ?_)
       all_goals first
        |contradiction
        |(exfalso;omega)
        |(refine⟨?_⟩;rw[if_pos (.inl (by omega))];rfl)
     . rw[s1] at kd
       repeat'((first|(intro hlq;try simp only[SL] at hlq)|refine Meets.k (kd) ?_|refine K9 ?_|((refine Kh (λhb=>?_) λhb=>?_)<;>try simp only[BL] at hb)|refine Ka ?_|refine Kb ?_|refine Kc (hd:=rfl) (e:=?_)|refine Kc (hd:=a4B _) (e:=?_)|refine Kd (e:=?_)|refine Kl rfl ?_|fail)<;>refine Kw ?_)
       all_goals first
        |contradiction
        |(refine⟨?_⟩;rw[if_pos (.inl (by omega))];rfl)
   . obtain rfl:i=rest.length:=by omega
     rw[List.drop_length] at he⊢
     rw[R0]
     clear sx
     dsimp only
     rcases hsg with rfl|rfl
     all_goals
      repeat'((first|(intro hlq;try simp only[SL] at hlq)|refine Meets.k (k6) ?_|refine⟨λ_=>⟨by omega,by omega,by simp;omega⟩,?_⟩|refine⟨λ_ _=>i64 (by omega) (by omega),?_⟩|refine⟨λ_=>i64 (by omega) (by omega),?_⟩|refine K9 ?_|((refine Kh (λhb=>?_) λhb=>?_)<;>try simp only[BL] at hb)|refine K8 ?_)<;>refine Kw ?_)
      all_goals first
       |contradiction
       |(exfalso;omega)
       |(refine⟨?_⟩;rw[if_pos (by omega)];rfl)
       |(refine⟨?_⟩;rw[if_neg (by omega)];show _=V6 _ (some _);unfold V6;dsimp only;rw[if_pos (by omega)];done)
       |(refine⟨?_⟩;rw[if_neg (by omega)];show _=V6 _ (some _);unfold V6;dsimp only;rw[if_neg (by omega)];rw[show t*1000000+mic=1*(1000000*t+mic) by omega];done)
       |(refine⟨?_⟩;rw[if_neg (by omega)];show _=V6 _ (some _);unfold V6;dsimp only;rw[if_neg (by omega)];rw[show-(t*1000000+mic)= -1*(1000000*t+mic) by omega];done)
end Go.Proofs.YteillnfhkeebjaaGreatDoor.Dx
