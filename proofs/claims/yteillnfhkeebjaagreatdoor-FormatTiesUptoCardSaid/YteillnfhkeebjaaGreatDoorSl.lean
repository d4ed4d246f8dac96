/- slices.IndexFunc,slices.ContainsFunc and typing.all. -/
import Derived.Test.YteillnfhkeebjaaGreatDoorSk
set_option linter.all false
namespace Go.Proofs.YteillnfhkeebjaaGreatDoor.Dx
open Go Go.RowKit
set_option maxRecDepth 100000
set_option maxHeartbeats 4000000
theorem b8H (xs:List Int)(F:Nat)(fs cs:List D)(p:Int->Bool)(h:∀x∈xs,Meets Tryz.prog F (fs++([iD x]++cs)) λr=>r=bD (p x)):
 Meets Tryz.prog 215 [.sl (xs.map r7), .fn F fs cs] λd=>∃r:Int,d=iD r/\(decide (r≥0))=xs.any p:=by
 refine enter tok {} Tryz.func215 rfl (by kernel_rfl) Tryz.ntmps215 (by simp) λB0 W0 V0 lent g0=>?_
 refine Kw ?_
 repeat'((first|(intro hlq;try simp only[SL] at hlq)|refine K8 ?_)<;>refine Kw ?_)
 refine d4 tok {} [] (X:=Nat) (λi=>[(8,iB i)]) (λ_=>[]) [] (λi=>i<=xs.length/\∀x∈xs.take i,p x=false) (λi=>xs.length-i) 0 ?_
 refine Kw ?_
 refine And.intro ?_ ⟨⟨by omega,by simp⟩,λi hΦ=>?_⟩
 . exact Kr
 obtain⟨hi,hp⟩:=hΦ
 refine Kw ?_
 refine⟨λh1=>?_,λh1=>?_⟩<;>(try simp only[BL] at h1)<;>refine Kw ?_
 . have h1':i<xs.length:=by omega
   repeat'((first|(intro hlq;try simp only[SL] at hlq)|refine K8 ?_)<;>refine Kw ?_)
   refine(h xs[i] (List.getElem_mem h1')).mono λd hd=>?_
   subst hd
   refine Kw ?_
   refine⟨λh2=>?_,λh2=>?_⟩<;>(try simp only[BL] at h2)<;>refine Kw ?_
   . refine⟨?_⟩
     exact⟨_,rfl,by rw[List.any_eq_true.2 ⟨_,List.getElem_mem h1',h2⟩];simp⟩
   . repeat'((first|(intro hlq;try simp only[SL] at hlq)|refine K8 ?_)<;>refine Kw ?_)
     refine⟨⟨i+1,?_,⟨by omega,D2 h1' hp h2⟩,by omega⟩⟩
     repeat'(first|exact True.intro|exact rfl|refine And.intro ?_ ?_)
 . refine⟨?_⟩
   have:xs.take i=xs:=List.take_of_length_le (by omega)
   rw[this] at hp
   exact⟨_,rfl,by rw[E9 hp];decide⟩
theorem b6D (xs:List Int)(F:Nat)(fs cs:List D)(p:Int->Bool)(h:∀x∈xs,Meets Tryz.prog F (fs++([iD x]++cs)) λr=>r=bD (p x)):
 Meets Tryz.prog 167 [.sl (xs.map r7), .fn F fs cs] λd=>d=bD (xs.any p):=by
 refine enter tok {} Tryz.func167 rfl (by kernel_rfl) Tryz.ntmps167 (by simp) λB0 W0 V0 lent g0=>?_
 refine Kw ?_
 refine(b8H xs F fs cs p h).mono λd hd=>?_
 obtain⟨r,rfl,hr⟩:=hd
 refine Kw ?_
 refine⟨?_⟩
 rw[hr]
theorem b8G (xs:List Form)(F:Nat)(fs cs:List D)(p:Form->Bool)(h:∀x∈xs,Meets Tryz.prog F (fs++([x.d]++cs)) λr=>r=bD (p x)):
 Meets Tryz.prog 203 [.sl (xs.map Form.cells), .fn F fs cs] λd=>∃r:Int,d=iD r/\(decide (r≥0))=xs.any p:=by
 refine enter tok {} Tryz.func203 rfl (by kernel_rfl) Tryz.ntmps203 (by simp) λB0 W0 V0 lent g0=>?_
 refine Kw ?_
 repeat'((first|(intro hlq;try simp only[SL] at hlq)|refine K8 ?_)<;>refine Kw ?_)
 refine d4 tok {} [] (X:=Nat) (λi=>[(8,iB i)]) (λ_=>[]) [] (λi=>i<=xs.length/\∀x∈xs.take i,p x=false) (λi=>xs.length-i) 0 ?_
 refine Kw ?_
 refine And.intro ?_ ⟨⟨by omega,by simp⟩,λi hΦ=>?_⟩
 . exact Kr
 obtain⟨hi,hp⟩:=hΦ
 refine Kw ?_
 refine⟨λh1=>?_,λh1=>?_⟩<;>(try simp only[BL] at h1)<;>refine Kw ?_
 . have h1':i<xs.length:=by omega
   repeat'((first|(intro hlq;try simp only[SL] at hlq)|refine Ka ?_|refine Kb ?_|refine Kc (hd:=rfl) (e:=?_)|refine Kc (hd:=Form.cells_eq _) (e:=?_)|refine Kd (e:=?_)|refine Kl rfl ?_|fail)<;>refine Kw ?_)
   refine(h xs[i] (List.getElem_mem h1')).mono λd hd=>?_
   subst hd
   refine Kw ?_
   refine⟨λh2=>?_,λh2=>?_⟩<;>(try simp only[BL] at h2)<;>refine Kw ?_
   . refine⟨?_⟩
     exact⟨_,rfl,by rw[List.any_eq_true.2 ⟨_,List.getElem_mem h1',h2⟩];simp⟩
   . repeat'((first|(intro hlq;try simp only[SL] at hlq)|refine K8 ?_)<;>refine Kw ?_)
     refine⟨⟨i+1,?_,⟨by omega,D2 h1' hp h2⟩,by omega⟩⟩
     repeat'(first|exact True.intro|exact rfl|refine And.intro ?_ ?_)
 . refine⟨?_⟩
   have:xs.take i=xs:=List.take_of_length_le (by omega)
   rw[this] at hp
   exact⟨_,rfl,by rw[E9 hp];decide⟩
theorem b6B (xs:List Form)(F:Nat)(fs cs:List D)(p:Form->Bool)(h:∀x∈xs,Meets Tryz.prog F (fs++([x.d]++cs)) λr=>r=bD (p x)):
 Meets Tryz.prog 147 [.sl (xs.map Form.cells), .fn F fs cs] λd=>d=bD (xs.any p):=by
 refine enter tok {} Tryz.func147 rfl (by kernel_rfl) Tryz.ntmps147 (by simp) λB0 W0 V0 lent g0=>?_
 refine Kw ?_
 refine(b8G xs F fs cs p h).mono λd hd=>?_
 obtain⟨r,rfl,hr⟩:=hd
 refine Kw ?_
 refine⟨?_⟩
 rw[hr]
theorem b8D (xs:List Cond)(F:Nat)(fs cs:List D)(p:Cond->Bool)(h:∀x∈xs,Meets Tryz.prog F (fs++([x.d]++cs)) λr=>r=bD (p x)):
 Meets Tryz.prog 206 [.sl (xs.map Cond.cells), .fn F fs cs] λd=>∃r:Int,d=iD r/\(decide (r≥0))=xs.any p:=by
 refine enter tok {} Tryz.func206 rfl (by kernel_rfl) Tryz.ntmps206 (by simp) λB0 W0 V0 lent g0=>?_
 refine Kw ?_
 repeat'((first|(intro hlq;try simp only[SL] at hlq)|refine K8 ?_)<;>refine Kw ?_)
 refine d4 tok {} [] (X:=Nat) (λi=>[(8,iB i)]) (λ_=>[]) [] (λi=>i<=xs.length/\∀x∈xs.take i,p x=false) (λi=>xs.length-i) 0 ?_
 refine Kw ?_
 refine And.intro ?_ ⟨⟨by omega,by simp⟩,λi hΦ=>?_⟩
 . exact Kr
 obtain⟨hi,hp⟩:=hΦ
 refine Kw ?_
 refine⟨λh1=>?_,λh1=>?_⟩<;>(try simp only[BL] at h1)<;>refine Kw ?_
 . have h1':i<xs.length:=by omega
   repeat'((first|(intro hlq;try simp only[SL] at hlq)|refine K8 ?_)<;>refine Kw ?_)
   refine(h xs[i] (List.getElem_mem h1')).mono λd hd=>?_
   subst hd
   refine Kw ?_
   refine⟨λh2=>?_,λh2=>?_⟩<;>(try simp only[BL] at h2)<;>refine Kw ?_
   . refine⟨?_⟩
     exact⟨_,rfl,by rw[List.any_eq_true.2 ⟨_,List.getElem_mem h1',h2⟩];simp⟩
   . repeat'((first|(intro hlq;try simp only[SL] at hlq)|refine K8 ?_)<;>refine Kw ?_)
     refine⟨⟨i+1,?_,⟨by omega,D2 h1' hp h2⟩,by omega⟩⟩
     repeat'(first|exact True.intro|exact rfl|refine And.intro ?_ ?_)
 . refine⟨?_⟩
   have:xs.take i=xs:=List.take_of_length_le (by omega)
   rw[this] at hp
   exact⟨_,rfl,by rw[E9 hp];decide⟩
theorem a9V (xs:List Cond)(F:Nat)(fs cs:List D)(p:Cond->Bool)(h:∀x∈xs,Meets Tryz.prog F (fs++([x.d]++cs)) λr=>r=bD (p x)):
 Meets Tryz.prog 154 [.sl (xs.map Cond.cells), .fn F fs cs] λd=>d=bD (xs.any p):=by
 refine enter tok {} Tryz.func154 rfl (by kernel_rfl) Tryz.ntmps154 (by simp) λB0 W0 V0 lent g0=>?_
 refine Kw ?_
 refine(b8D xs F fs cs p h).mono λd hd=>?_
 obtain⟨r,rfl,hr⟩:=hd
 refine Kw ?_
 refine⟨?_⟩
 rw[hr]
theorem b8F (xs:List Distance)(F:Nat)(fs cs:List D)(p:Distance->Bool)(h:∀x∈xs,Meets Tryz.prog F (fs++([x.d]++cs)) λr=>r=bD (p x)):
 Meets Tryz.prog 185 [.sl (xs.map Distance.cells), .fn F fs cs] λd=>∃r:Int,d=iD r/\(decide (r≥0))=xs.any p:=by
 refine enter tok {} Tryz.func185 rfl (by kernel_rfl) Tryz.ntmps185 (by simp) λB0 W0 V0 lent g0=>?_
 refine Kw ?_
 repeat'((first|(intro hlq;try simp only[SL] at hlq)|refine K8 ?_)<;>refine Kw ?_)
 refine d4 tok {} [] (X:=Nat) (λi=>[(8,iB i)]) (λ_=>[]) [] (λi=>i<=xs.length/\∀x∈xs.take i,p x=false) (λi=>xs.length-i) 0 ?_
 refine Kw ?_
 refine And.intro ?_ ⟨⟨by omega,by simp⟩,λi hΦ=>?_⟩
 . exact Kr
 obtain⟨hi,hp⟩:=hΦ
 refine Kw ?_
 refine⟨λh1=>?_,λh1=>?_⟩<;>(try simp only[BL] at h1)<;>refine Kw ?_
 . have h1':i<xs.length:=by omega
   repeat'((first|(intro hlq;try simp only[SL] at hlq)|refine Ka ?_|refine Kb ?_|refine Kc (hd:=rfl) (e:=?_)|refine Kc (hd:=Distance.cells_eq _) (e:=?_)|refine Kd (e:=?_)|refine Kl rfl ?_|fail)<;>refine Kw ?_)
   refine(h xs[i] (List.getElem_mem h1')).mono λd hd=>?_
   subst hd
   refine Kw ?_
   refine⟨λh2=>?_,λh2=>?_⟩<;>(try simp only[BL] at h2)<;>refine Kw ?_
   . refine⟨?_⟩
     exact⟨_,rfl,by rw[List.any_eq_true.2 ⟨_,List.getElem_mem h1',h2⟩];simp⟩
   . repeat'((first|(intro hlq;try simp only[SL] at hlq)|refine K8 ?_)<;>refine Kw ?_)
     refine⟨⟨i+1,?_,⟨by omega,D2 h1' hp h2⟩,by omega⟩⟩
     repeat'(first|exact True.intro|exact rfl|refine And.intro ?_ ?_)
 . refine⟨?_⟩
   have:xs.take i=xs:=List.take_of_length_le (by omega)
   rw[this] at hp
   exact⟨_,rfl,by rw[E9 hp];decide⟩
theorem b6A (xs:List Distance)(F:Nat)(fs cs:List D)(p:Distance->Bool)(h:∀x∈xs,Meets Tryz.prog F (fs++([x.d]++cs)) λr=>r=bD (p x)):
 Meets Tryz.prog 116 [.sl (xs.map Distance.cells), .fn F fs cs] λd=>d=bD (xs.any p):=by
 refine enter tok {} Tryz.func116 rfl (by kernel_rfl) Tryz.ntmps116 (by simp) λB0 W0 V0 lent g0=>?_
 refine Kw ?_
 refine(b8F xs F fs cs p h).mono λd hd=>?_
 obtain⟨r,rfl,hr⟩:=hd
 refine Kw ?_
 refine⟨?_⟩
 rw[hr]
theorem a9o (xs:List Distance)(F:Nat)(fs cs:List D)(p:Distance->Bool)(h:∀x∈xs,Meets Tryz.prog F (fs++([x.d]++cs)) λr=>r=bD (p x)):
 Meets Tryz.prog 43 [.sl (xs.map Distance.cells), .fn F fs cs] λd=>d=bD (xs.all p):=by
 refine enter tok {} Tryz.func43 rfl (by kernel_rfl) Tryz.ntmps43 (by simp) λB0 W0 V0 lent g0=>?_
 refine Kw ?_
 refine(b6A xs 117 [] [.ptr [.fn F fs cs] 0] (λx=> !p x) λx hx=>?_).mono λd hd=>?_
 . refine enter tok {} Tryz.func117 rfl (by kernel_rfl) Tryz.ntmps117 (by simp) λB0 W0 V0 lent g0=>?_
   refine Kw ?_
   refine(h x hx).mono λd hd=>?_
   subst hd
   refine Kw ?_
   exact⟨rfl⟩
 subst hd
 refine Kw ?_
 refine⟨?_⟩
 rw[<-List.not_all_eq_any_not,Bool.not_not]
end Go.Proofs.YteillnfhkeebjaaGreatDoor.Dx
/- slices.ContainsFunc and typing.all,of the other types. -/
namespace Go.Proofs.YteillnfhkeebjaaGreatDoor.Dx
open Go Go.RowKit
set_option maxRecDepth 100000
set_option maxHeartbeats 4000000
theorem b8L (xs:List Part)(F:Nat)(fs cs:List D)(p:Part->Bool)(h:∀x∈xs,Meets Tryz.prog F (fs++([x.d]++cs)) λr=>r=bD (p x)):
 Meets Tryz.prog 216 [.sl (xs.map Part.cells), .fn F fs cs] λd=>∃r:Int,d=iD r/\(decide (r≥0))=xs.any p:=by
 refine enter tok {} Tryz.func216 rfl (by kernel_rfl) Tryz.ntmps216 (by simp) λB0 W0 V0 lent g0=>?_
 refine Kw ?_
 repeat'((first|(intro hlq;try simp only[SL] at hlq)|refine K8 ?_)<;>refine Kw ?_)
 refine d4 tok {} [] (X:=Nat) (λi=>[(8,iB i)]) (λ_=>[]) [] (λi=>i<=xs.length/\∀x∈xs.take i,p x=false) (λi=>xs.length-i) 0 ?_
 refine Kw ?_
 refine And.intro ?_ ⟨⟨by omega,by simp⟩,λi hΦ=>?_⟩
 . exact Kr
 obtain⟨hi,hp⟩:=hΦ
 refine Kw ?_
 refine⟨λh1=>?_,λh1=>?_⟩<;>(try simp only[BL] at h1)<;>refine Kw ?_
 . have h1':i<xs.length:=by omega
   repeat'((first|(intro hlq;try simp only[SL] at hlq)|refine Ka ?_|refine Kb ?_|refine Kc (hd:=rfl) (e:=?_)|refine Kc (hd:=Part.cells_eq _) (e:=?_)|refine Kd (e:=?_)|refine Kl rfl ?_|fail)<;>refine Kw ?_)
   refine(h xs[i] (List.getElem_mem h1')).mono λd hd=>?_
   subst hd
   refine Kw ?_
   refine⟨λh2=>?_,λh2=>?_⟩<;>(try simp only[BL] at h2)<;>refine Kw ?_
   . refine⟨?_⟩
     exact⟨_,rfl,by rw[List.any_eq_true.2 ⟨_,List.getElem_mem h1',h2⟩];simp⟩
   . repeat'((first|(intro hlq;try simp only[SL] at hlq)|refine K8 ?_)<;>refine Kw ?_)
     refine⟨⟨i+1,?_,⟨by omega,D2 h1' hp h2⟩,by omega⟩⟩
     repeat'(first|exact True.intro|exact rfl|refine And.intro ?_ ?_)
 . refine⟨?_⟩
   have:xs.take i=xs:=List.take_of_length_le (by omega)
   rw[this] at hp
   exact⟨_,rfl,by rw[E9 hp];decide⟩
theorem b6H (xs:List Part)(F:Nat)(fs cs:List D)(p:Part->Bool)(h:∀x∈xs,Meets Tryz.prog F (fs++([x.d]++cs)) λr=>r=bD (p x)):
 Meets Tryz.prog 169 [.sl (xs.map Part.cells), .fn F fs cs] λd=>d=bD (xs.any p):=by
 refine enter tok {} Tryz.func169 rfl (by kernel_rfl) Tryz.ntmps169 (by simp) λB0 W0 V0 lent g0=>?_
 refine Kw ?_
 refine(b8L xs F fs cs p h).mono λd hd=>?_
 obtain⟨r,rfl,hr⟩:=hd
 refine Kw ?_
 refine⟨?_⟩
 rw[hr]
theorem a9p (xs:List Part)(F:Nat)(fs cs:List D)(p:Part->Bool)(h:∀x∈xs,Meets Tryz.prog F (fs++([x.d]++cs)) λr=>r=bD (p x)):
 Meets Tryz.prog 96 [.sl (xs.map Part.cells), .fn F fs cs] λd=>d=bD (xs.all p):=by
 refine enter tok {} Tryz.func96 rfl (by kernel_rfl) Tryz.ntmps96 (by simp) λB0 W0 V0 lent g0=>?_
 refine Kw ?_
 refine(b6H xs 170 [] [.ptr [.fn F fs cs] 0] (λx=> !p x) λx hx=>?_).mono λd hd=>?_
 . refine enter tok {} Tryz.func170 rfl (by kernel_rfl) Tryz.ntmps170 (by simp) λB0 W0 V0 lent g0=>?_
   refine Kw ?_
   refine(h x hx).mono λd hd=>?_
   subst hd
   refine Kw ?_
   exact⟨rfl⟩
 subst hd
 refine Kw ?_
 refine⟨?_⟩
 rw[<-List.not_all_eq_any_not,Bool.not_not]
theorem b8E (xs:List Cutoff)(F:Nat)(fs cs:List D)(p:Cutoff->Bool)(h:∀x∈xs,Meets Tryz.prog F (fs++([x.d]++cs)) λr=>r=bD (p x)):
 Meets Tryz.prog 217 [.sl (xs.map Cutoff.cells), .fn F fs cs] λd=>∃r:Int,d=iD r/\(decide (r≥0))=xs.any p:=by
 refine enter tok {} Tryz.func217 rfl (by kernel_rfl) Tryz.ntmps217 (by simp) λB0 W0 V0 lent g0=>?_
 refine Kw ?_
 repeat'((first|(intro hlq;try simp only[SL] at hlq)|refine K8 ?_)<;>refine Kw ?_)
 refine d4 tok {} [] (X:=Nat) (λi=>[(8,iB i)]) (λ_=>[]) [] (λi=>i<=xs.length/\∀x∈xs.take i,p x=false) (λi=>xs.length-i) 0 ?_
 refine Kw ?_
 refine And.intro ?_ ⟨⟨by omega,by simp⟩,λi hΦ=>?_⟩
 . exact Kr
 obtain⟨hi,hp⟩:=hΦ
 refine Kw ?_
 refine⟨λh1=>?_,λh1=>?_⟩<;>(try simp only[BL] at h1)<;>refine Kw ?_
 . have h1':i<xs.length:=by omega
   repeat'((first|(intro hlq;try simp only[SL] at hlq)|refine Ka ?_|refine Kb ?_|refine Kc (hd:=rfl) (e:=?_)|refine Kc (hd:=Cutoff.cells_eq _) (e:=?_)|refine Kd (e:=?_)|refine Kl rfl ?_|fail)<;>refine Kw ?_)
   refine(h xs[i] (List.getElem_mem h1')).mono λd hd=>?_
   subst hd
   refine Kw ?_
   refine⟨λh2=>?_,λh2=>?_⟩<;>(try simp only[BL] at h2)<;>refine Kw ?_
   . refine⟨?_⟩
     exact⟨_,rfl,by rw[List.any_eq_true.2 ⟨_,List.getElem_mem h1',h2⟩];simp⟩
   . repeat'((first|(intro hlq;try simp only[SL] at hlq)|refine K8 ?_)<;>refine Kw ?_)
     refine⟨⟨i+1,?_,⟨by omega,D2 h1' hp h2⟩,by omega⟩⟩
     repeat'(first|exact True.intro|exact rfl|refine And.intro ?_ ?_)
 . refine⟨?_⟩
   have:xs.take i=xs:=List.take_of_length_le (by omega)
   rw[this] at hp
   exact⟨_,rfl,by rw[E9 hp];decide⟩
theorem b6z (xs:List Cutoff)(F:Nat)(fs cs:List D)(p:Cutoff->Bool)(h:∀x∈xs,Meets Tryz.prog F (fs++([x.d]++cs)) λr=>r=bD (p x)):
 Meets Tryz.prog 171 [.sl (xs.map Cutoff.cells), .fn F fs cs] λd=>d=bD (xs.any p):=by
 refine enter tok {} Tryz.func171 rfl (by kernel_rfl) Tryz.ntmps171 (by simp) λB0 W0 V0 lent g0=>?_
 refine Kw ?_
 refine(b8E xs F fs cs p h).mono λd hd=>?_
 obtain⟨r,rfl,hr⟩:=hd
 refine Kw ?_
 refine⟨?_⟩
 rw[hr]
theorem a5w (xs:List Cutoff)(F:Nat)(fs cs:List D)(p:Cutoff->Bool)(h:∀x∈xs,Meets Tryz.prog F (fs++([x.d]++cs)) λr=>r=bD (p x)):
 Meets Tryz.prog 99 [.sl (xs.map Cutoff.cells), .fn F fs cs] λd=>d=bD (xs.all p):=by
 refine enter tok {} Tryz.func99 rfl (by kernel_rfl) Tryz.ntmps99 (by simp) λB0 W0 V0 lent g0=>?_
 refine Kw ?_
 refine(b6z xs 172 [] [.ptr [.fn F fs cs] 0] (λx=> !p x) λx hx=>?_).mono λd hd=>?_
 . refine enter tok {} Tryz.func172 rfl (by kernel_rfl) Tryz.ntmps172 (by simp) λB0 W0 V0 lent g0=>?_
   refine Kw ?_
   refine(h x hx).mono λd hd=>?_
   subst hd
   refine Kw ?_
   exact⟨rfl⟩
 subst hd
 refine Kw ?_
 refine⟨?_⟩
 rw[<-List.not_all_eq_any_not,Bool.not_not]
theorem b8J (xs:List Mat)(F:Nat)(fs cs:List D)(p:Mat->Bool)(h:∀x∈xs,Meets Tryz.prog F (fs++([x.d]++cs)) λr=>r=bD (p x)):
 Meets Tryz.prog 218 [.sl (xs.map Mat.cells), .fn F fs cs] λd=>∃r:Int,d=iD r/\(decide (r≥0))=xs.any p:=by
 refine enter tok {} Tryz.func218 rfl (by kernel_rfl) Tryz.ntmps218 (by simp) λB0 W0 V0 lent g0=>?_
 refine Kw ?_
 repeat'((first|(intro hlq;try simp only[SL] at hlq)|refine K8 ?_)<;>refine Kw ?_)
 refine d4 tok {} [] (X:=Nat) (λi=>[(8,iB i)]) (λ_=>[]) [] (λi=>i<=xs.length/\∀x∈xs.take i,p x=false) (λi=>xs.length-i) 0 ?_
 refine Kw ?_
 refine And.intro ?_ ⟨⟨by omega,by simp⟩,λi hΦ=>?_⟩
 . exact Kr
 obtain⟨hi,hp⟩:=hΦ
 refine Kw ?_
 refine⟨λh1=>?_,λh1=>?_⟩<;>(try simp only[BL] at h1)<;>refine Kw ?_
 . have h1':i<xs.length:=by omega
   repeat'((first|(intro hlq;try simp only[SL] at hlq)|refine Ka ?_|refine Kb ?_|refine Kc (hd:=rfl) (e:=?_)|refine Kc (hd:=Mat.cells_eq _) (e:=?_)|refine Kd (e:=?_)|refine Kl rfl ?_|fail)<;>refine Kw ?_)
   refine(h xs[i] (List.getElem_mem h1')).mono λd hd=>?_
   subst hd
   refine Kw ?_
   refine⟨λh2=>?_,λh2=>?_⟩<;>(try simp only[BL] at h2)<;>refine Kw ?_
   . refine⟨?_⟩
     exact⟨_,rfl,by rw[List.any_eq_true.2 ⟨_,List.getElem_mem h1',h2⟩];simp⟩
   . repeat'((first|(intro hlq;try simp only[SL] at hlq)|refine K8 ?_)<;>refine Kw ?_)
     refine⟨⟨i+1,?_,⟨by omega,D2 h1' hp h2⟩,by omega⟩⟩
     repeat'(first|exact True.intro|exact rfl|refine And.intro ?_ ?_)
 . refine⟨?_⟩
   have:xs.take i=xs:=List.take_of_length_le (by omega)
   rw[this] at hp
   exact⟨_,rfl,by rw[E9 hp];decide⟩
theorem b6F (xs:List Mat)(F:Nat)(fs cs:List D)(p:Mat->Bool)(h:∀x∈xs,Meets Tryz.prog F (fs++([x.d]++cs)) λr=>r=bD (p x)):
 Meets Tryz.prog 173 [.sl (xs.map Mat.cells), .fn F fs cs] λd=>d=bD (xs.any p):=by
 refine enter tok {} Tryz.func173 rfl (by kernel_rfl) Tryz.ntmps173 (by simp) λB0 W0 V0 lent g0=>?_
 refine Kw ?_
 refine(b8J xs F fs cs p h).mono λd hd=>?_
 obtain⟨r,rfl,hr⟩:=hd
 refine Kw ?_
 refine⟨?_⟩
 rw[hr]
theorem b5x (xs:List Mat)(F:Nat)(fs cs:List D)(p:Mat->Bool)(h:∀x∈xs,Meets Tryz.prog F (fs++([x.d]++cs)) λr=>r=bD (p x)):
 Meets Tryz.prog 103 [.sl (xs.map Mat.cells), .fn F fs cs] λd=>d=bD (xs.all p):=by
 refine enter tok {} Tryz.func103 rfl (by kernel_rfl) Tryz.ntmps103 (by simp) λB0 W0 V0 lent g0=>?_
 refine Kw ?_
 refine(b6F xs 174 [] [.ptr [.fn F fs cs] 0] (λx=> !p x) λx hx=>?_).mono λd hd=>?_
 . refine enter tok {} Tryz.func174 rfl (by kernel_rfl) Tryz.ntmps174 (by simp) λB0 W0 V0 lent g0=>?_
   refine Kw ?_
   refine(h x hx).mono λd hd=>?_
   subst hd
   refine Kw ?_
   exact⟨rfl⟩
 subst hd
 refine Kw ?_
 refine⟨?_⟩
 rw[<-List.not_all_eq_any_not,Bool.not_not]
theorem b8I (xs:List Leg)(F:Nat)(fs cs:List D)(p:Leg->Bool)(h:∀x∈xs,Meets Tryz.prog F (fs++([x.d]++cs)) λr=>r=bD (p x)):
 Meets Tryz.prog 219 [.sl (xs.map Leg.cells), .fn F fs cs] λd=>∃r:Int,d=iD r/\(decide (r≥0))=xs.any p:=by
 refine enter tok {} Tryz.func219 rfl (by kernel_rfl) Tryz.ntmps219 (by simp) λB0 W0 V0 lent g0=>?_
 refine Kw ?_
 repeat'((first|(intro hlq;try simp only[SL] at hlq)|refine K8 ?_)<;>refine Kw ?_)
 refine d4 tok {} [] (X:=Nat) (λi=>[(8,iB i)]) (λ_=>[]) [] (λi=>i<=xs.length/\∀x∈xs.take i,p x=false) (λi=>xs.length-i) 0 ?_
 refine Kw ?_
 refine And.intro ?_ ⟨⟨by omega,by simp⟩,λi hΦ=>?_⟩
 . exact Kr
 obtain⟨hi,hp⟩:=hΦ
 refine Kw ?_
 refine⟨λh1=>?_,λh1=>?_⟩<;>(try simp only[BL] at h1)<;>refine Kw ?_
 . have h1':i<xs.length:=by omega
   repeat'((first|(intro hlq;try simp only[SL] at hlq)|refine Ka ?_|refine Kb ?_|refine Kc (hd:=rfl) (e:=?_)|refine Kc (hd:=Leg.cells_eq _) (e:=?_)|refine Kd (e:=?_)|refine Kl rfl ?_|fail)<;>refine Kw ?_)
   refine(h xs[i] (List.getElem_mem h1')).mono λd hd=>?_
   subst hd
   refine Kw ?_
   refine⟨λh2=>?_,λh2=>?_⟩<;>(try simp only[BL] at h2)<;>refine Kw ?_
   . refine⟨?_⟩
     exact⟨_,rfl,by rw[List.any_eq_true.2 ⟨_,List.getElem_mem h1',h2⟩];simp⟩
   . repeat'((first|(intro hlq;try simp only[SL] at hlq)|refine K8 ?_)<;>refine Kw ?_)
     refine⟨⟨i+1,?_,⟨by omega,D2 h1' hp h2⟩,by omega⟩⟩
     repeat'(first|exact True.intro|exact rfl|refine And.intro ?_ ?_)
 . refine⟨?_⟩
   have:xs.take i=xs:=List.take_of_length_le (by omega)
   rw[this] at hp
   exact⟨_,rfl,by rw[E9 hp];decide⟩
theorem b6E (xs:List Leg)(F:Nat)(fs cs:List D)(p:Leg->Bool)(h:∀x∈xs,Meets Tryz.prog F (fs++([x.d]++cs)) λr=>r=bD (p x)):
 Meets Tryz.prog 175 [.sl (xs.map Leg.cells), .fn F fs cs] λd=>d=bD (xs.any p):=by
 refine enter tok {} Tryz.func175 rfl (by kernel_rfl) Tryz.ntmps175 (by simp) λB0 W0 V0 lent g0=>?_
 refine Kw ?_
 refine(b8I xs F fs cs p h).mono λd hd=>?_
 obtain⟨r,rfl,hr⟩:=hd
 refine Kw ?_
 refine⟨?_⟩
 rw[hr]
theorem b5w (xs:List Leg)(F:Nat)(fs cs:List D)(p:Leg->Bool)(h:∀x∈xs,Meets Tryz.prog F (fs++([x.d]++cs)) λr=>r=bD (p x)):
 Meets Tryz.prog 105 [.sl (xs.map Leg.cells), .fn F fs cs] λd=>d=bD (xs.all p):=by
 refine enter tok {} Tryz.func105 rfl (by kernel_rfl) Tryz.ntmps105 (by simp) λB0 W0 V0 lent g0=>?_
 refine Kw ?_
 refine(b6E xs 176 [] [.ptr [.fn F fs cs] 0] (λx=> !p x) λx hx=>?_).mono λd hd=>?_
 . refine enter tok {} Tryz.func176 rfl (by kernel_rfl) Tryz.ntmps176 (by simp) λB0 W0 V0 lent g0=>?_
   refine Kw ?_
   refine(h x hx).mono λd hd=>?_
   subst hd
   refine Kw ?_
   exact⟨rfl⟩
 subst hd
 refine Kw ?_
 refine⟨?_⟩
 rw[<-List.not_all_eq_any_not,Bool.not_not]
theorem b8N (xs:List Wave)(F:Nat)(fs cs:List D)(p:Wave->Bool)(h:∀x∈xs,Meets Tryz.prog F (fs++([x.d]++cs)) λr=>r=bD (p x)):
 Meets Tryz.prog 220 [.sl (xs.map Wave.cells), .fn F fs cs] λd=>∃r:Int,d=iD r/\(decide (r≥0))=xs.any p:=by
 refine enter tok {} Tryz.func220 rfl (by kernel_rfl) Tryz.ntmps220 (by simp) λB0 W0 V0 lent g0=>?_
 refine Kw ?_
 repeat'((first|(intro hlq;try simp only[SL] at hlq)|refine K8 ?_)<;>refine Kw ?_)
 refine d4 tok {} [] (X:=Nat) (λi=>[(8,iB i)]) (λ_=>[]) [] (λi=>i<=xs.length/\∀x∈xs.take i,p x=false) (λi=>xs.length-i) 0 ?_
 refine Kw ?_
 refine And.intro ?_ ⟨⟨by omega,by simp⟩,λi hΦ=>?_⟩
 . exact Kr
 obtain⟨hi,hp⟩:=hΦ
 refine Kw ?_
 refine⟨λh1=>?_,λh1=>?_⟩<;>(try simp only[BL] at h1)<;>refine Kw ?_
 . have h1':i<xs.length:=by omega
   repeat'((first|(intro hlq;try simp only[SL] at hlq)|refine Ka ?_|refine Kb ?_|refine Kc (hd:=rfl) (e:=?_)|refine Kc (hd:=Wave.cells_eq _) (e:=?_)|refine Kd (e:=?_)|refine Kl rfl ?_|fail)<;>refine Kw ?_)
   refine(h xs[i] (List.getElem_mem h1')).mono λd hd=>?_
   subst hd
   refine Kw ?_
   refine⟨λh2=>?_,λh2=>?_⟩<;>(try simp only[BL] at h2)<;>refine Kw ?_
   . refine⟨?_⟩
     exact⟨_,rfl,by rw[List.any_eq_true.2 ⟨_,List.getElem_mem h1',h2⟩];simp⟩
   . repeat'((first|(intro hlq;try simp only[SL] at hlq)|refine K8 ?_)<;>refine Kw ?_)
     refine⟨⟨i+1,?_,⟨by omega,D2 h1' hp h2⟩,by omega⟩⟩
     repeat'(first|exact True.intro|exact rfl|refine And.intro ?_ ?_)
 . refine⟨?_⟩
   have:xs.take i=xs:=List.take_of_length_le (by omega)
   rw[this] at hp
   exact⟨_,rfl,by rw[E9 hp];decide⟩
theorem b6J (xs:List Wave)(F:Nat)(fs cs:List D)(p:Wave->Bool)(h:∀x∈xs,Meets Tryz.prog F (fs++([x.d]++cs)) λr=>r=bD (p x)):
 Meets Tryz.prog 177 [.sl (xs.map Wave.cells), .fn F fs cs] λd=>d=bD (xs.any p):=by
 refine enter tok {} Tryz.func177 rfl (by kernel_rfl) Tryz.ntmps177 (by simp) λB0 W0 V0 lent g0=>?_
 refine Kw ?_
 refine(b8N xs F fs cs p h).mono λd hd=>?_
 obtain⟨r,rfl,hr⟩:=hd
 refine Kw ?_
 refine⟨?_⟩
 rw[hr]
theorem b5A (xs:List Wave)(F:Nat)(fs cs:List D)(p:Wave->Bool)(h:∀x∈xs,Meets Tryz.prog F (fs++([x.d]++cs)) λr=>r=bD (p x)):
 Meets Tryz.prog 108 [.sl (xs.map Wave.cells), .fn F fs cs] λd=>d=bD (xs.all p):=by
 refine enter tok {} Tryz.func108 rfl (by kernel_rfl) Tryz.ntmps108 (by simp) λB0 W0 V0 lent g0=>?_
 refine Kw ?_
 refine(b6J xs 178 [] [.ptr [.fn F fs cs] 0] (λx=> !p x) λx hx=>?_).mono λd hd=>?_
 . refine enter tok {} Tryz.func178 rfl (by kernel_rfl) Tryz.ntmps178 (by simp) λB0 W0 V0 lent g0=>?_
   refine Kw ?_
   refine(h x hx).mono λd hd=>?_
   subst hd
   refine Kw ?_
   exact⟨rfl⟩
 subst hd
 refine Kw ?_
 refine⟨?_⟩
 rw[<-List.not_all_eq_any_not,Bool.not_not]
theorem b8K (xs:List Offence)(F:Nat)(fs cs:List D)(p:Offence->Bool)(h:∀x∈xs,Meets Tryz.prog F (fs++([x.d]++cs)) λr=>r=bD (p x)):
 Meets Tryz.prog 221 [.sl (xs.map Offence.cells), .fn F fs cs] λd=>∃r:Int,d=iD r/\(decide (r≥0))=xs.any p:=by
 refine enter tok {} Tryz.func221 rfl (by kernel_rfl) Tryz.ntmps221 (by simp) λB0 W0 V0 lent g0=>?_
 refine Kw ?_
 repeat'((first|(intro hlq;try simp only[SL] at hlq)|refine K8 ?_)<;>refine Kw ?_)
 refine d4 tok {} [] (X:=Nat) (λi=>[(8,iB i)]) (λ_=>[]) [] (λi=>i<=xs.length/\∀x∈xs.take i,p x=false) (λi=>xs.length-i) 0 ?_
 refine Kw ?_
 refine And.intro ?_ ⟨⟨by omega,by simp⟩,λi hΦ=>?_⟩
 . exact Kr
 obtain⟨hi,hp⟩:=hΦ
 refine Kw ?_
 refine⟨λh1=>?_,λh1=>?_⟩<;>(try simp only[BL] at h1)<;>refine Kw ?_
 . have h1':i<xs.length:=by omega
   repeat'((first|(intro hlq;try simp only[SL] at hlq)|refine Ka ?_|refine Kb ?_|refine Kc (hd:=rfl) (e:=?_)|refine Kc (hd:=Offence.cells_eq _) (e:=?_)|refine Kd (e:=?_)|refine Kl rfl ?_|fail)<;>refine Kw ?_)
   refine(h xs[i] (List.getElem_mem h1')).mono λd hd=>?_
   subst hd
   refine Kw ?_
   refine⟨λh2=>?_,λh2=>?_⟩<;>(try simp only[BL] at h2)<;>refine Kw ?_
   . refine⟨?_⟩
     exact⟨_,rfl,by rw[List.any_eq_true.2 ⟨_,List.getElem_mem h1',h2⟩];simp⟩
   . repeat'((first|(intro hlq;try simp only[SL] at hlq)|refine K8 ?_)<;>refine Kw ?_)
     refine⟨⟨i+1,?_,⟨by omega,D2 h1' hp h2⟩,by omega⟩⟩
     repeat'(first|exact True.intro|exact rfl|refine And.intro ?_ ?_)
 . refine⟨?_⟩
   have:xs.take i=xs:=List.take_of_length_le (by omega)
   rw[this] at hp
   exact⟨_,rfl,by rw[E9 hp];decide⟩
theorem b6G (xs:List Offence)(F:Nat)(fs cs:List D)(p:Offence->Bool)(h:∀x∈xs,Meets Tryz.prog F (fs++([x.d]++cs)) λr=>r=bD (p x)):
 Meets Tryz.prog 179 [.sl (xs.map Offence.cells), .fn F fs cs] λd=>d=bD (xs.any p):=by
 refine enter tok {} Tryz.func179 rfl (by kernel_rfl) Tryz.ntmps179 (by simp) λB0 W0 V0 lent g0=>?_
 refine Kw ?_
 refine(b8K xs F fs cs p h).mono λd hd=>?_
 obtain⟨r,rfl,hr⟩:=hd
 refine Kw ?_
 refine⟨?_⟩
 rw[hr]
theorem b5y (xs:List Offence)(F:Nat)(fs cs:List D)(p:Offence->Bool)(h:∀x∈xs,Meets Tryz.prog F (fs++([x.d]++cs)) λr=>r=bD (p x)):
 Meets Tryz.prog 110 [.sl (xs.map Offence.cells), .fn F fs cs] λd=>d=bD (xs.all p):=by
 refine enter tok {} Tryz.func110 rfl (by kernel_rfl) Tryz.ntmps110 (by simp) λB0 W0 V0 lent g0=>?_
 refine Kw ?_
 refine(b6G xs 180 [] [.ptr [.fn F fs cs] 0] (λx=> !p x) λx hx=>?_).mono λd hd=>?_
 . refine enter tok {} Tryz.func180 rfl (by kernel_rfl) Tryz.ntmps180 (by simp) λB0 W0 V0 lent g0=>?_
   refine Kw ?_
   refine(h x hx).mono λd hd=>?_
   subst hd
   refine Kw ?_
   exact⟨rfl⟩
 subst hd
 refine Kw ?_
 refine⟨?_⟩
 rw[<-List.not_all_eq_any_not,Bool.not_not]
theorem b8C (xs:List Category)(F:Nat)(fs cs:List D)(p:Category->Bool)(h:∀x∈xs,Meets Tryz.prog F (fs++([x.d]++cs)) λr=>r=bD (p x)):
 Meets Tryz.prog 222 [.sl (xs.map Category.cells), .fn F fs cs] λd=>∃r:Int,d=iD r/\(decide (r≥0))=xs.any p:=by
 refine enter tok {} Tryz.func222 rfl (by kernel_rfl) Tryz.ntmps222 (by simp) λB0 W0 V0 lent g0=>?_
 refine Kw ?_
 repeat'((first|(intro hlq;try simp only[SL] at hlq)|refine K8 ?_)<;>refine Kw ?_)
 refine d4 tok {} [] (X:=Nat) (λi=>[(8,iB i)]) (λ_=>[]) [] (λi=>i<=xs.length/\∀x∈xs.take i,p x=false) (λi=>xs.length-i) 0 ?_
 refine Kw ?_
 refine And.intro ?_ ⟨⟨by omega,by simp⟩,λi hΦ=>?_⟩
 . exact Kr
 obtain⟨hi,hp⟩:=hΦ
 refine Kw ?_
 refine⟨λh1=>?_,λh1=>?_⟩<;>(try simp only[BL] at h1)<;>refine Kw ?_
 . have h1':i<xs.length:=by omega
   repeat'((first|(intro hlq;try simp only[SL] at hlq)|refine Ka ?_|refine Kb ?_|refine Kc (hd:=rfl) (e:=?_)|refine Kc (hd:=Category.cells_eq _) (e:=?_)|refine Kd (e:=?_)|refine Kl rfl ?_|fail)<;>refine Kw ?_)
   refine(h xs[i] (List.getElem_mem h1')).mono λd hd=>?_
   subst hd
   refine Kw ?_
   refine⟨λh2=>?_,λh2=>?_⟩<;>(try simp only[BL] at h2)<;>refine Kw ?_
   . refine⟨?_⟩
     exact⟨_,rfl,by rw[List.any_eq_true.2 ⟨_,List.getElem_mem h1',h2⟩];simp⟩
   . repeat'((first|(intro hlq;try simp only[SL] at hlq)|refine K8 ?_)<;>refine Kw ?_)
     refine⟨⟨i+1,?_,⟨by omega,D2 h1' hp h2⟩,by omega⟩⟩
     repeat'(first|exact True.intro|exact rfl|refine And.intro ?_ ?_)
 . refine⟨?_⟩
   have:xs.take i=xs:=List.take_of_length_le (by omega)
   rw[this] at hp
   exact⟨_,rfl,by rw[E9 hp];decide⟩
theorem b6y (xs:List Category)(F:Nat)(fs cs:List D)(p:Category->Bool)(h:∀x∈xs,Meets Tryz.prog F (fs++([x.d]++cs)) λr=>r=bD (p x)):
 Meets Tryz.prog 181 [.sl (xs.map Category.cells), .fn F fs cs] λd=>d=bD (xs.any p):=by
 refine enter tok {} Tryz.func181 rfl (by kernel_rfl) Tryz.ntmps181 (by simp) λB0 W0 V0 lent g0=>?_
 refine Kw ?_
 refine(b8C xs F fs cs p h).mono λd hd=>?_
 obtain⟨r,rfl,hr⟩:=hd
 refine Kw ?_
 refine⟨?_⟩
 rw[hr]
theorem b5t (xs:List Category)(F:Nat)(fs cs:List D)(p:Category->Bool)(h:∀x∈xs,Meets Tryz.prog F (fs++([x.d]++cs)) λr=>r=bD (p x)):
 Meets Tryz.prog 111 [.sl (xs.map Category.cells), .fn F fs cs] λd=>d=bD (xs.all p):=by
 refine enter tok {} Tryz.func111 rfl (by kernel_rfl) Tryz.ntmps111 (by simp) λB0 W0 V0 lent g0=>?_
 refine Kw ?_
 refine(b6y xs 182 [] [.ptr [.fn F fs cs] 0] (λx=> !p x) λx hx=>?_).mono λd hd=>?_
 . refine enter tok {} Tryz.func182 rfl (by kernel_rfl) Tryz.ntmps182 (by simp) λB0 W0 V0 lent g0=>?_
   refine Kw ?_
   refine(h x hx).mono λd hd=>?_
   subst hd
   refine Kw ?_
   exact⟨rfl⟩
 subst hd
 refine Kw ?_
 refine⟨?_⟩
 rw[<-List.not_all_eq_any_not,Bool.not_not]
theorem b8M (xs:List Prize)(F:Nat)(fs cs:List D)(p:Prize->Bool)(h:∀x∈xs,Meets Tryz.prog F (fs++([x.d]++cs)) λr=>r=bD (p x)):
 Meets Tryz.prog 223 [.sl (xs.map Prize.cells), .fn F fs cs] λd=>∃r:Int,d=iD r/\(decide (r≥0))=xs.any p:=by
 refine enter tok {} Tryz.func223 rfl (by kernel_rfl) Tryz.ntmps223 (by simp) λB0 W0 V0 lent g0=>?_
 refine Kw ?_
 repeat'((first|(intro hlq;try simp only[SL] at hlq)|refine K8 ?_)<;>refine Kw ?_)
 refine d4 tok {} [] (X:=Nat) (λi=>[(8,iB i)]) (λ_=>[]) [] (λi=>i<=xs.length/\∀x∈xs.take i,p x=false) (λi=>xs.length-i) 0 ?_
 refine Kw ?_
 refine And.intro ?_ ⟨⟨by omega,by simp⟩,λi hΦ=>?_⟩
 . exact Kr
 obtain⟨hi,hp⟩:=hΦ
 refine Kw ?_
 refine⟨λh1=>?_,λh1=>?_⟩<;>(try simp only[BL] at h1)<;>refine Kw ?_
 . have h1':i<xs.length:=by omega
   repeat'((first|(intro hlq;try simp only[SL] at hlq)|refine Ka ?_|refine Kb ?_|refine Kc (hd:=rfl) (e:=?_)|refine Kc (hd:=Prize.cells_eq _) (e:=?_)|refine Kd (e:=?_)|refine Kl rfl ?_|fail)<;>refine Kw ?_)
   refine(h xs[i] (List.getElem_mem h1')).mono λd hd=>?_
   subst hd
   refine Kw ?_
   refine⟨λh2=>?_,λh2=>?_⟩<;>(try simp only[BL] at h2)<;>refine Kw ?_
   . refine⟨?_⟩
     exact⟨_,rfl,by rw[List.any_eq_true.2 ⟨_,List.getElem_mem h1',h2⟩];simp⟩
   . repeat'((first|(intro hlq;try simp only[SL] at hlq)|refine K8 ?_)<;>refine Kw ?_)
     refine⟨⟨i+1,?_,⟨by omega,D2 h1' hp h2⟩,by omega⟩⟩
     repeat'(first|exact True.intro|exact rfl|refine And.intro ?_ ?_)
 . refine⟨?_⟩
   have:xs.take i=xs:=List.take_of_length_le (by omega)
   rw[this] at hp
   exact⟨_,rfl,by rw[E9 hp];decide⟩
theorem b6I (xs:List Prize)(F:Nat)(fs cs:List D)(p:Prize->Bool)(h:∀x∈xs,Meets Tryz.prog F (fs++([x.d]++cs)) λr=>r=bD (p x)):
 Meets Tryz.prog 183 [.sl (xs.map Prize.cells), .fn F fs cs] λd=>d=bD (xs.any p):=by
 refine enter tok {} Tryz.func183 rfl (by kernel_rfl) Tryz.ntmps183 (by simp) λB0 W0 V0 lent g0=>?_
 refine Kw ?_
 refine(b8M xs F fs cs p h).mono λd hd=>?_
 obtain⟨r,rfl,hr⟩:=hd
 refine Kw ?_
 refine⟨?_⟩
 rw[hr]
theorem b5z (xs:List Prize)(F:Nat)(fs cs:List D)(p:Prize->Bool)(h:∀x∈xs,Meets Tryz.prog F (fs++([x.d]++cs)) λr=>r=bD (p x)):
 Meets Tryz.prog 113 [.sl (xs.map Prize.cells), .fn F fs cs] λd=>d=bD (xs.all p):=by
 refine enter tok {} Tryz.func113 rfl (by kernel_rfl) Tryz.ntmps113 (by simp) λB0 W0 V0 lent g0=>?_
 refine Kw ?_
 refine(b6I xs 184 [] [.ptr [.fn F fs cs] 0] (λx=> !p x) λx hx=>?_).mono λd hd=>?_
 . refine enter tok {} Tryz.func184 rfl (by kernel_rfl) Tryz.ntmps184 (by simp) λB0 W0 V0 lent g0=>?_
   refine Kw ?_
   refine(h x hx).mono λd hd=>?_
   subst hd
   refine Kw ?_
   exact⟨rfl⟩
 subst hd
 refine Kw ?_
 refine⟨?_⟩
 rw[<-List.not_all_eq_any_not,Bool.not_not]
end Go.Proofs.YteillnfhkeebjaaGreatDoor.Dx
