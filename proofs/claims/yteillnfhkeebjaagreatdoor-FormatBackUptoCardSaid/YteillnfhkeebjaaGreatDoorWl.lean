/- slices. -/
import Derived.Test.YteillnfhkeebjaaGreatDoorWk
set_option linter.all false
namespace Go.Proofs.YteillnfhkeebjaaGreatDoor.Dx
open Go Go.RowKit
set_option maxRecDepth 100000
set_option maxHeartbeats 4000000
theorem c7i (xs:List Int)(F:Nat)(fs cs:List D)(p:Int->Bool)(h:∀x∈xs,Mt F (fs++([iD x]++cs)) λr=>r=bD (p x)):
 Mt 215 [.sl (xs.map a0D), .fn F fs cs] λd=>∃r:Int,d=iD r/\(decide (r≥0))=xs.any p:=by
 refine En {} Tryz.func215 Tryz.ntmps215 λ_ _ _ _ _=>?_;refine Kw ?_;repeat'((first|(intro hlq;try simp only[SL] at hlq)|refine K8 ?_)<;>refine Kw ?_)
 refine o4 tok {} [] (X:=Nat) (λi=>[(8,iB i)]) (λ_=>[]) [] (λi=>i<=xs.length/\∀x∈xs.take i,p x=false) (λi=>xs.length-i) 0 ?_;refine Kw ?_;refine d8 ?_ ⟨⟨by omega,by simp⟩,λi hΦ=>?_⟩
 . exact Kr
 obtain⟨hi,hp⟩:=hΦ;refine Kw ?_;refine⟨λh1=>?_,λh1=>?_⟩<;>(try simp only[BL] at h1)<;>refine Kw ?_
 . have h1':i<xs.length:=by omega
   repeat'((first|(intro hlq;try simp only[SL] at hlq)|refine K8 ?_)<;>refine Kw ?_)
   refine(h xs[i] (q7 h1')).mono λd hd=>?_;subst hd;refine Kw ?_;refine⟨λh2=>?_,λh2=>?_⟩<;>(try simp only[BL] at h2)<;>refine Kw ?_
   . refine⟨?_⟩;exact⟨_,rfl,by rw[N9.2 ⟨_,q7 h1',h2⟩];simp⟩
   . repeat'((first|(intro hlq;try simp only[SL] at hlq)|refine K8 ?_)<;>refine Kw ?_)
     refine⟨⟨i+1,?_,⟨by omega,Y7 h1' hp h2⟩,by omega⟩⟩;repeat'(first|exact d9|exact rfl|refine d8 ?_ ?_)
 . refine⟨?_⟩;have:xs.take i=xs:=y6 (by omega);rw[this] at hp;exact⟨_,rfl,by rw[a1b hp];decide⟩
theorem c4w (xs:List Int)(F:Nat)(fs cs:List D)(p:Int->Bool)(h:∀x∈xs,Mt F (fs++([iD x]++cs)) λr=>r=bD (p x)):
 Mt 167 [.sl (xs.map a0D), .fn F fs cs] λd=>d=bD (xs.any p):=by
 refine En {} Tryz.func167 Tryz.ntmps167 λ_ _ _ _ _=>?_;refine Kw ?_;refine(c7i xs F fs cs p h).mono λd hd=>?_;obtain⟨r,rfl,hr⟩:=hd;refine Kw ?_;refine⟨?_⟩;rw[hr]
theorem c7g (xs:List Form)(F:Nat)(fs cs:List D)(p:Form->Bool)(h:∀x∈xs,Mt F (fs++([x.d]++cs)) λr=>r=bD (p x)):
 Mt 203 [.sl (xs.map Form.cells), .fn F fs cs] λd=>∃r:Int,d=iD r/\(decide (r≥0))=xs.any p:=by
 refine En {} Tryz.func203 Tryz.ntmps203 λ_ _ _ _ _=>?_;refine Kw ?_;repeat'((first|(intro hlq;try simp only[SL] at hlq)|refine K8 ?_)<;>refine Kw ?_)
 refine o4 tok {} [] (X:=Nat) (λi=>[(8,iB i)]) (λ_=>[]) [] (λi=>i<=xs.length/\∀x∈xs.take i,p x=false) (λi=>xs.length-i) 0 ?_;refine Kw ?_;refine d8 ?_ ⟨⟨by omega,by simp⟩,λi hΦ=>?_⟩
 . exact Kr
 obtain⟨hi,hp⟩:=hΦ;refine Kw ?_;refine⟨λh1=>?_,λh1=>?_⟩<;>(try simp only[BL] at h1)<;>refine Kw ?_
 . have h1':i<xs.length:=by omega
   repeat'((first|(intro hlq;try simp only[SL] at hlq)|refine Ka ?_|refine Kb ?_|refine Kc (hd:=rfl) (e:=?_)|refine Kc (hd:=Form.cells_eq _) (e:=?_)|refine Kd (e:=?_)|refine Kl rfl ?_|fail)<;>refine Kw ?_)
   refine(h xs[i] (q7 h1')).mono λd hd=>?_;subst hd;refine Kw ?_;refine⟨λh2=>?_,λh2=>?_⟩<;>(try simp only[BL] at h2)<;>refine Kw ?_
   . refine⟨?_⟩;exact⟨_,rfl,by rw[N9.2 ⟨_,q7 h1',h2⟩];simp⟩
   . repeat'((first|(intro hlq;try simp only[SL] at hlq)|refine K8 ?_)<;>refine Kw ?_)
     refine⟨⟨i+1,?_,⟨by omega,Y7 h1' hp h2⟩,by omega⟩⟩;repeat'(first|exact d9|exact rfl|refine d8 ?_ ?_)
 . refine⟨?_⟩;have:xs.take i=xs:=y6 (by omega);rw[this] at hp;exact⟨_,rfl,by rw[a1b hp];decide⟩
theorem c4t (xs:List Form)(F:Nat)(fs cs:List D)(p:Form->Bool)(h:∀x∈xs,Mt F (fs++([x.d]++cs)) λr=>r=bD (p x)):
 Mt 147 [.sl (xs.map Form.cells), .fn F fs cs] λd=>d=bD (xs.any p):=by
 refine En {} Tryz.func147 Tryz.ntmps147 λ_ _ _ _ _=>?_;refine Kw ?_;refine(c7g xs F fs cs p h).mono λd hd=>?_;obtain⟨r,rfl,hr⟩:=hd;refine Kw ?_;refine⟨?_⟩;rw[hr]
theorem c7f (xs:List Distance)(F:Nat)(fs cs:List D)(p:Distance->Bool)(h:∀x∈xs,Mt F (fs++([x.d]++cs)) λr=>r=bD (p x)):
 Mt 185 [.sl (xs.map Distance.cells), .fn F fs cs] λd=>∃r:Int,d=iD r/\(decide (r≥0))=xs.any p:=by
 refine En {} Tryz.func185 Tryz.ntmps185 λ_ _ _ _ _=>?_;refine Kw ?_;repeat'((first|(intro hlq;try simp only[SL] at hlq)|refine K8 ?_)<;>refine Kw ?_)
 refine o4 tok {} [] (X:=Nat) (λi=>[(8,iB i)]) (λ_=>[]) [] (λi=>i<=xs.length/\∀x∈xs.take i,p x=false) (λi=>xs.length-i) 0 ?_;refine Kw ?_;refine d8 ?_ ⟨⟨by omega,by simp⟩,λi hΦ=>?_⟩
 . exact Kr
 obtain⟨hi,hp⟩:=hΦ;refine Kw ?_;refine⟨λh1=>?_,λh1=>?_⟩<;>(try simp only[BL] at h1)<;>refine Kw ?_
 . have h1':i<xs.length:=by omega
   repeat'((first|(intro hlq;try simp only[SL] at hlq)|refine Ka ?_|refine Kb ?_|refine Kc (hd:=rfl) (e:=?_)|refine Kc (hd:=Distance.cells_eq _) (e:=?_)|refine Kd (e:=?_)|refine Kl rfl ?_|fail)<;>refine Kw ?_)
   refine(h xs[i] (q7 h1')).mono λd hd=>?_;subst hd;refine Kw ?_;refine⟨λh2=>?_,λh2=>?_⟩<;>(try simp only[BL] at h2)<;>refine Kw ?_
   . refine⟨?_⟩;exact⟨_,rfl,by rw[N9.2 ⟨_,q7 h1',h2⟩];simp⟩
   . repeat'((first|(intro hlq;try simp only[SL] at hlq)|refine K8 ?_)<;>refine Kw ?_)
     refine⟨⟨i+1,?_,⟨by omega,Y7 h1' hp h2⟩,by omega⟩⟩;repeat'(first|exact d9|exact rfl|refine d8 ?_ ?_)
 . refine⟨?_⟩;have:xs.take i=xs:=y6 (by omega);rw[this] at hp;exact⟨_,rfl,by rw[a1b hp];decide⟩
theorem c4s (xs:List Distance)(F:Nat)(fs cs:List D)(p:Distance->Bool)(h:∀x∈xs,Mt F (fs++([x.d]++cs)) λr=>r=bD (p x)):
 Mt 116 [.sl (xs.map Distance.cells), .fn F fs cs] λd=>d=bD (xs.any p):=by
 refine En {} Tryz.func116 Tryz.ntmps116 λ_ _ _ _ _=>?_;refine Kw ?_;refine(c7f xs F fs cs p h).mono λd hd=>?_;obtain⟨r,rfl,hr⟩:=hd;refine Kw ?_;refine⟨?_⟩;rw[hr]
theorem b5U (xs:List Distance)(F:Nat)(fs cs:List D)(p:Distance->Bool)(h:∀x∈xs,Mt F (fs++([x.d]++cs)) λr=>r=bD (p x)):
 Mt 43 [.sl (xs.map Distance.cells), .fn F fs cs] λd=>d=bD (xs.all p):=by
 refine En {} Tryz.func43 Tryz.ntmps43 λ_ _ _ _ _=>?_;refine Kw ?_;refine(c4s xs 117 [] [.ptr [.fn F fs cs] 0] (λx=> !p x) λx hx=>?_).mono λd hd=>?_
 . refine En {} Tryz.func117 Tryz.ntmps117 λ_ _ _ _ _=>?_;refine Kw ?_;refine(h x hx).mono λd hd=>?_;subst hd;refine Kw ?_;exact⟨rfl⟩
 subst hd;refine Kw ?_;refine⟨?_⟩;rw[<-a1B,a2j]
theorem c7m (xs:List Part)(F:Nat)(fs cs:List D)(p:Part->Bool)(h:∀x∈xs,Mt F (fs++([x.d]++cs)) λr=>r=bD (p x)):
 Mt 216 [.sl (xs.map Part.cells), .fn F fs cs] λd=>∃r:Int,d=iD r/\(decide (r≥0))=xs.any p:=by
 refine En {} Tryz.func216 Tryz.ntmps216 λ_ _ _ _ _=>?_;refine Kw ?_;repeat'((first|(intro hlq;try simp only[SL] at hlq)|refine K8 ?_)<;>refine Kw ?_)
 refine o4 tok {} [] (X:=Nat) (λi=>[(8,iB i)]) (λ_=>[]) [] (λi=>i<=xs.length/\∀x∈xs.take i,p x=false) (λi=>xs.length-i) 0 ?_;refine Kw ?_;refine d8 ?_ ⟨⟨by omega,by simp⟩,λi hΦ=>?_⟩
 . exact Kr
 obtain⟨hi,hp⟩:=hΦ;refine Kw ?_;refine⟨λh1=>?_,λh1=>?_⟩<;>(try simp only[BL] at h1)<;>refine Kw ?_
 . have h1':i<xs.length:=by omega
   repeat'((first|(intro hlq;try simp only[SL] at hlq)|refine Ka ?_|refine Kb ?_|refine Kc (hd:=rfl) (e:=?_)|refine Kc (hd:=Part.cells_eq _) (e:=?_)|refine Kd (e:=?_)|refine Kl rfl ?_|fail)<;>refine Kw ?_)
   refine(h xs[i] (q7 h1')).mono λd hd=>?_;subst hd;refine Kw ?_;refine⟨λh2=>?_,λh2=>?_⟩<;>(try simp only[BL] at h2)<;>refine Kw ?_
   . refine⟨?_⟩;exact⟨_,rfl,by rw[N9.2 ⟨_,q7 h1',h2⟩];simp⟩
   . repeat'((first|(intro hlq;try simp only[SL] at hlq)|refine K8 ?_)<;>refine Kw ?_)
     refine⟨⟨i+1,?_,⟨by omega,Y7 h1' hp h2⟩,by omega⟩⟩;repeat'(first|exact d9|exact rfl|refine d8 ?_ ?_)
 . refine⟨?_⟩;have:xs.take i=xs:=y6 (by omega);rw[this] at hp;exact⟨_,rfl,by rw[a1b hp];decide⟩
theorem c4A (xs:List Part)(F:Nat)(fs cs:List D)(p:Part->Bool)(h:∀x∈xs,Mt F (fs++([x.d]++cs)) λr=>r=bD (p x)):
 Mt 169 [.sl (xs.map Part.cells), .fn F fs cs] λd=>d=bD (xs.any p):=by
 refine En {} Tryz.func169 Tryz.ntmps169 λ_ _ _ _ _=>?_;refine Kw ?_;refine(c7m xs F fs cs p h).mono λd hd=>?_;obtain⟨r,rfl,hr⟩:=hd;refine Kw ?_;refine⟨?_⟩;rw[hr]
theorem b5V (xs:List Part)(F:Nat)(fs cs:List D)(p:Part->Bool)(h:∀x∈xs,Mt F (fs++([x.d]++cs)) λr=>r=bD (p x)):
 Mt 96 [.sl (xs.map Part.cells), .fn F fs cs] λd=>d=bD (xs.all p):=by
 refine En {} Tryz.func96 Tryz.ntmps96 λ_ _ _ _ _=>?_;refine Kw ?_;refine(c4A xs 170 [] [.ptr [.fn F fs cs] 0] (λx=> !p x) λx hx=>?_).mono λd hd=>?_
 . refine En {} Tryz.func170 Tryz.ntmps170 λ_ _ _ _ _=>?_;refine Kw ?_;refine(h x hx).mono λd hd=>?_;subst hd;refine Kw ?_;exact⟨rfl⟩
 subst hd;refine Kw ?_;refine⟨?_⟩;rw[<-a1B,a2j]
theorem c7e (xs:List Cutoff)(F:Nat)(fs cs:List D)(p:Cutoff->Bool)(h:∀x∈xs,Mt F (fs++([x.d]++cs)) λr=>r=bD (p x)):
 Mt 217 [.sl (xs.map Cutoff.cells), .fn F fs cs] λd=>∃r:Int,d=iD r/\(decide (r≥0))=xs.any p:=by
 refine En {} Tryz.func217 Tryz.ntmps217 λ_ _ _ _ _=>?_;refine Kw ?_;repeat'((first|(intro hlq;try simp only[SL] at hlq)|refine K8 ?_)<;>refine Kw ?_)
 refine o4 tok {} [] (X:=Nat) (λi=>[(8,iB i)]) (λ_=>[]) [] (λi=>i<=xs.length/\∀x∈xs.take i,p x=false) (λi=>xs.length-i) 0 ?_;refine Kw ?_;refine d8 ?_ ⟨⟨by omega,by simp⟩,λi hΦ=>?_⟩
 . exact Kr
 obtain⟨hi,hp⟩:=hΦ;refine Kw ?_;refine⟨λh1=>?_,λh1=>?_⟩<;>(try simp only[BL] at h1)<;>refine Kw ?_
 . have h1':i<xs.length:=by omega
   repeat'((first|(intro hlq;try simp only[SL] at hlq)|refine Ka ?_|refine Kb ?_|refine Kc (hd:=rfl) (e:=?_)|refine Kc (hd:=Cutoff.cells_eq _) (e:=?_)|refine Kd (e:=?_)|refine Kl rfl ?_|fail)<;>refine Kw ?_)
   refine(h xs[i] (q7 h1')).mono λd hd=>?_;subst hd;refine Kw ?_;refine⟨λh2=>?_,λh2=>?_⟩<;>(try simp only[BL] at h2)<;>refine Kw ?_
   . refine⟨?_⟩;exact⟨_,rfl,by rw[N9.2 ⟨_,q7 h1',h2⟩];simp⟩
   . repeat'((first|(intro hlq;try simp only[SL] at hlq)|refine K8 ?_)<;>refine Kw ?_)
     refine⟨⟨i+1,?_,⟨by omega,Y7 h1' hp h2⟩,by omega⟩⟩;repeat'(first|exact d9|exact rfl|refine d8 ?_ ?_)
 . refine⟨?_⟩;have:xs.take i=xs:=y6 (by omega);rw[this] at hp;exact⟨_,rfl,by rw[a1b hp];decide⟩
theorem c4r (xs:List Cutoff)(F:Nat)(fs cs:List D)(p:Cutoff->Bool)(h:∀x∈xs,Mt F (fs++([x.d]++cs)) λr=>r=bD (p x)):
 Mt 171 [.sl (xs.map Cutoff.cells), .fn F fs cs] λd=>d=bD (xs.any p):=by
 refine En {} Tryz.func171 Tryz.ntmps171 λ_ _ _ _ _=>?_;refine Kw ?_;refine(c7e xs F fs cs p h).mono λd hd=>?_;obtain⟨r,rfl,hr⟩:=hd;refine Kw ?_;refine⟨?_⟩;rw[hr]
theorem b1N (xs:List Cutoff)(F:Nat)(fs cs:List D)(p:Cutoff->Bool)(h:∀x∈xs,Mt F (fs++([x.d]++cs)) λr=>r=bD (p x)):
 Mt 99 [.sl (xs.map Cutoff.cells), .fn F fs cs] λd=>d=bD (xs.all p):=by
 refine En {} Tryz.func99 Tryz.ntmps99 λ_ _ _ _ _=>?_;refine Kw ?_;refine(c4r xs 172 [] [.ptr [.fn F fs cs] 0] (λx=> !p x) λx hx=>?_).mono λd hd=>?_
 . refine En {} Tryz.func172 Tryz.ntmps172 λ_ _ _ _ _=>?_;refine Kw ?_;refine(h x hx).mono λd hd=>?_;subst hd;refine Kw ?_;exact⟨rfl⟩
 subst hd;refine Kw ?_;refine⟨?_⟩;rw[<-a1B,a2j]
theorem c7k (xs:List Mat)(F:Nat)(fs cs:List D)(p:Mat->Bool)(h:∀x∈xs,Mt F (fs++([x.d]++cs)) λr=>r=bD (p x)):
 Mt 218 [.sl (xs.map Mat.cells), .fn F fs cs] λd=>∃r:Int,d=iD r/\(decide (r≥0))=xs.any p:=by
 refine En {} Tryz.func218 Tryz.ntmps218 λ_ _ _ _ _=>?_;refine Kw ?_;repeat'((first|(intro hlq;try simp only[SL] at hlq)|refine K8 ?_)<;>refine Kw ?_)
 refine o4 tok {} [] (X:=Nat) (λi=>[(8,iB i)]) (λ_=>[]) [] (λi=>i<=xs.length/\∀x∈xs.take i,p x=false) (λi=>xs.length-i) 0 ?_;refine Kw ?_;refine d8 ?_ ⟨⟨by omega,by simp⟩,λi hΦ=>?_⟩
 . exact Kr
 obtain⟨hi,hp⟩:=hΦ;refine Kw ?_;refine⟨λh1=>?_,λh1=>?_⟩<;>(try simp only[BL] at h1)<;>refine Kw ?_
 . have h1':i<xs.length:=by omega
   repeat'((first|(intro hlq;try simp only[SL] at hlq)|refine Ka ?_|refine Kb ?_|refine Kc (hd:=rfl) (e:=?_)|refine Kc (hd:=Mat.cells_eq _) (e:=?_)|refine Kd (e:=?_)|refine Kl rfl ?_|fail)<;>refine Kw ?_)
   refine(h xs[i] (q7 h1')).mono λd hd=>?_;subst hd;refine Kw ?_;refine⟨λh2=>?_,λh2=>?_⟩<;>(try simp only[BL] at h2)<;>refine Kw ?_
   . refine⟨?_⟩;exact⟨_,rfl,by rw[N9.2 ⟨_,q7 h1',h2⟩];simp⟩
   . repeat'((first|(intro hlq;try simp only[SL] at hlq)|refine K8 ?_)<;>refine Kw ?_)
     refine⟨⟨i+1,?_,⟨by omega,Y7 h1' hp h2⟩,by omega⟩⟩;repeat'(first|exact d9|exact rfl|refine d8 ?_ ?_)
 . refine⟨?_⟩;have:xs.take i=xs:=y6 (by omega);rw[this] at hp;exact⟨_,rfl,by rw[a1b hp];decide⟩
theorem c4y (xs:List Mat)(F:Nat)(fs cs:List D)(p:Mat->Bool)(h:∀x∈xs,Mt F (fs++([x.d]++cs)) λr=>r=bD (p x)):
 Mt 173 [.sl (xs.map Mat.cells), .fn F fs cs] λd=>d=bD (xs.any p):=by
 refine En {} Tryz.func173 Tryz.ntmps173 λ_ _ _ _ _=>?_;refine Kw ?_;refine(c7k xs F fs cs p h).mono λd hd=>?_;obtain⟨r,rfl,hr⟩:=hd;refine Kw ?_;refine⟨?_⟩;rw[hr]
theorem c3n (xs:List Mat)(F:Nat)(fs cs:List D)(p:Mat->Bool)(h:∀x∈xs,Mt F (fs++([x.d]++cs)) λr=>r=bD (p x)):
 Mt 103 [.sl (xs.map Mat.cells), .fn F fs cs] λd=>d=bD (xs.all p):=by
 refine En {} Tryz.func103 Tryz.ntmps103 λ_ _ _ _ _=>?_;refine Kw ?_;refine(c4y xs 174 [] [.ptr [.fn F fs cs] 0] (λx=> !p x) λx hx=>?_).mono λd hd=>?_
 . refine En {} Tryz.func174 Tryz.ntmps174 λ_ _ _ _ _=>?_;refine Kw ?_;refine(h x hx).mono λd hd=>?_;subst hd;refine Kw ?_;exact⟨rfl⟩
 subst hd;refine Kw ?_;refine⟨?_⟩;rw[<-a1B,a2j]
theorem c7j (xs:List Leg)(F:Nat)(fs cs:List D)(p:Leg->Bool)(h:∀x∈xs,Mt F (fs++([x.d]++cs)) λr=>r=bD (p x)):
 Mt 219 [.sl (xs.map Leg.cells), .fn F fs cs] λd=>∃r:Int,d=iD r/\(decide (r≥0))=xs.any p:=by
 refine En {} Tryz.func219 Tryz.ntmps219 λ_ _ _ _ _=>?_;refine Kw ?_;repeat'((first|(intro hlq;try simp only[SL] at hlq)|refine K8 ?_)<;>refine Kw ?_)
 refine o4 tok {} [] (X:=Nat) (λi=>[(8,iB i)]) (λ_=>[]) [] (λi=>i<=xs.length/\∀x∈xs.take i,p x=false) (λi=>xs.length-i) 0 ?_;refine Kw ?_;refine d8 ?_ ⟨⟨by omega,by simp⟩,λi hΦ=>?_⟩
 . exact Kr
 obtain⟨hi,hp⟩:=hΦ;refine Kw ?_;refine⟨λh1=>?_,λh1=>?_⟩<;>(try simp only[BL] at h1)<;>refine Kw ?_
 . have h1':i<xs.length:=by omega
   repeat'((first|(intro hlq;try simp only[SL] at hlq)|refine Ka ?_|refine Kb ?_|refine Kc (hd:=rfl) (e:=?_)|refine Kc (hd:=Leg.cells_eq _) (e:=?_)|refine Kd (e:=?_)|refine Kl rfl ?_|fail)<;>refine Kw ?_)
   refine(h xs[i] (q7 h1')).mono λd hd=>?_;subst hd;refine Kw ?_;refine⟨λh2=>?_,λh2=>?_⟩<;>(try simp only[BL] at h2)<;>refine Kw ?_
   . refine⟨?_⟩;exact⟨_,rfl,by rw[N9.2 ⟨_,q7 h1',h2⟩];simp⟩
   . repeat'((first|(intro hlq;try simp only[SL] at hlq)|refine K8 ?_)<;>refine Kw ?_)
     refine⟨⟨i+1,?_,⟨by omega,Y7 h1' hp h2⟩,by omega⟩⟩;repeat'(first|exact d9|exact rfl|refine d8 ?_ ?_)
 . refine⟨?_⟩;have:xs.take i=xs:=y6 (by omega);rw[this] at hp;exact⟨_,rfl,by rw[a1b hp];decide⟩
theorem c4x (xs:List Leg)(F:Nat)(fs cs:List D)(p:Leg->Bool)(h:∀x∈xs,Mt F (fs++([x.d]++cs)) λr=>r=bD (p x)):
 Mt 175 [.sl (xs.map Leg.cells), .fn F fs cs] λd=>d=bD (xs.any p):=by
 refine En {} Tryz.func175 Tryz.ntmps175 λ_ _ _ _ _=>?_;refine Kw ?_;refine(c7j xs F fs cs p h).mono λd hd=>?_;obtain⟨r,rfl,hr⟩:=hd;refine Kw ?_;refine⟨?_⟩;rw[hr]
theorem c3m (xs:List Leg)(F:Nat)(fs cs:List D)(p:Leg->Bool)(h:∀x∈xs,Mt F (fs++([x.d]++cs)) λr=>r=bD (p x)):
 Mt 105 [.sl (xs.map Leg.cells), .fn F fs cs] λd=>d=bD (xs.all p):=by
 refine En {} Tryz.func105 Tryz.ntmps105 λ_ _ _ _ _=>?_;refine Kw ?_;refine(c4x xs 176 [] [.ptr [.fn F fs cs] 0] (λx=> !p x) λx hx=>?_).mono λd hd=>?_
 . refine En {} Tryz.func176 Tryz.ntmps176 λ_ _ _ _ _=>?_;refine Kw ?_;refine(h x hx).mono λd hd=>?_;subst hd;refine Kw ?_;exact⟨rfl⟩
 subst hd;refine Kw ?_;refine⟨?_⟩;rw[<-a1B,a2j]
theorem c7o (xs:List Wave)(F:Nat)(fs cs:List D)(p:Wave->Bool)(h:∀x∈xs,Mt F (fs++([x.d]++cs)) λr=>r=bD (p x)):
 Mt 220 [.sl (xs.map Wave.cells), .fn F fs cs] λd=>∃r:Int,d=iD r/\(decide (r≥0))=xs.any p:=by
 refine En {} Tryz.func220 Tryz.ntmps220 λ_ _ _ _ _=>?_;refine Kw ?_;repeat'((first|(intro hlq;try simp only[SL] at hlq)|refine K8 ?_)<;>refine Kw ?_)
 refine o4 tok {} [] (X:=Nat) (λi=>[(8,iB i)]) (λ_=>[]) [] (λi=>i<=xs.length/\∀x∈xs.take i,p x=false) (λi=>xs.length-i) 0 ?_;refine Kw ?_;refine d8 ?_ ⟨⟨by omega,by simp⟩,λi hΦ=>?_⟩
 . exact Kr
 obtain⟨hi,hp⟩:=hΦ;refine Kw ?_;refine⟨λh1=>?_,λh1=>?_⟩<;>(try simp only[BL] at h1)<;>refine Kw ?_
 . have h1':i<xs.length:=by omega
   repeat'((first|(intro hlq;try simp only[SL] at hlq)|refine Ka ?_|refine Kb ?_|refine Kc (hd:=rfl) (e:=?_)|refine Kc (hd:=Wave.cells_eq _) (e:=?_)|refine Kd (e:=?_)|refine Kl rfl ?_|fail)<;>refine Kw ?_)
   refine(h xs[i] (q7 h1')).mono λd hd=>?_;subst hd;refine Kw ?_;refine⟨λh2=>?_,λh2=>?_⟩<;>(try simp only[BL] at h2)<;>refine Kw ?_
   . refine⟨?_⟩;exact⟨_,rfl,by rw[N9.2 ⟨_,q7 h1',h2⟩];simp⟩
   . repeat'((first|(intro hlq;try simp only[SL] at hlq)|refine K8 ?_)<;>refine Kw ?_)
     refine⟨⟨i+1,?_,⟨by omega,Y7 h1' hp h2⟩,by omega⟩⟩;repeat'(first|exact d9|exact rfl|refine d8 ?_ ?_)
 . refine⟨?_⟩;have:xs.take i=xs:=y6 (by omega);rw[this] at hp;exact⟨_,rfl,by rw[a1b hp];decide⟩
theorem c4C (xs:List Wave)(F:Nat)(fs cs:List D)(p:Wave->Bool)(h:∀x∈xs,Mt F (fs++([x.d]++cs)) λr=>r=bD (p x)):
 Mt 177 [.sl (xs.map Wave.cells), .fn F fs cs] λd=>d=bD (xs.any p):=by
 refine En {} Tryz.func177 Tryz.ntmps177 λ_ _ _ _ _=>?_;refine Kw ?_;refine(c7o xs F fs cs p h).mono λd hd=>?_;obtain⟨r,rfl,hr⟩:=hd;refine Kw ?_;refine⟨?_⟩;rw[hr]
theorem c3q (xs:List Wave)(F:Nat)(fs cs:List D)(p:Wave->Bool)(h:∀x∈xs,Mt F (fs++([x.d]++cs)) λr=>r=bD (p x)):
 Mt 108 [.sl (xs.map Wave.cells), .fn F fs cs] λd=>d=bD (xs.all p):=by
 refine En {} Tryz.func108 Tryz.ntmps108 λ_ _ _ _ _=>?_;refine Kw ?_;refine(c4C xs 178 [] [.ptr [.fn F fs cs] 0] (λx=> !p x) λx hx=>?_).mono λd hd=>?_
 . refine En {} Tryz.func178 Tryz.ntmps178 λ_ _ _ _ _=>?_;refine Kw ?_;refine(h x hx).mono λd hd=>?_;subst hd;refine Kw ?_;exact⟨rfl⟩
 subst hd;refine Kw ?_;refine⟨?_⟩;rw[<-a1B,a2j]
theorem c7l (xs:List Offence)(F:Nat)(fs cs:List D)(p:Offence->Bool)(h:∀x∈xs,Mt F (fs++([x.d]++cs)) λr=>r=bD (p x)):
 Mt 221 [.sl (xs.map Offence.cells), .fn F fs cs] λd=>∃r:Int,d=iD r/\(decide (r≥0))=xs.any p:=by
 refine En {} Tryz.func221 Tryz.ntmps221 λ_ _ _ _ _=>?_;refine Kw ?_;repeat'((first|(intro hlq;try simp only[SL] at hlq)|refine K8 ?_)<;>refine Kw ?_)
 refine o4 tok {} [] (X:=Nat) (λi=>[(8,iB i)]) (λ_=>[]) [] (λi=>i<=xs.length/\∀x∈xs.take i,p x=false) (λi=>xs.length-i) 0 ?_;refine Kw ?_;refine d8 ?_ ⟨⟨by omega,by simp⟩,λi hΦ=>?_⟩
 . exact Kr
 obtain⟨hi,hp⟩:=hΦ;refine Kw ?_;refine⟨λh1=>?_,λh1=>?_⟩<;>(try simp only[BL] at h1)<;>refine Kw ?_
 . have h1':i<xs.length:=by omega
   repeat'((first|(intro hlq;try simp only[SL] at hlq)|refine Ka ?_|refine Kb ?_|refine Kc (hd:=rfl) (e:=?_)|refine Kc (hd:=Offence.cells_eq _) (e:=?_)|refine Kd (e:=?_)|refine Kl rfl ?_|fail)<;>refine Kw ?_)
   refine(h xs[i] (q7 h1')).mono λd hd=>?_;subst hd;refine Kw ?_;refine⟨λh2=>?_,λh2=>?_⟩<;>(try simp only[BL] at h2)<;>refine Kw ?_
   . refine⟨?_⟩;exact⟨_,rfl,by rw[N9.2 ⟨_,q7 h1',h2⟩];simp⟩
   . repeat'((first|(intro hlq;try simp only[SL] at hlq)|refine K8 ?_)<;>refine Kw ?_)
     refine⟨⟨i+1,?_,⟨by omega,Y7 h1' hp h2⟩,by omega⟩⟩;repeat'(first|exact d9|exact rfl|refine d8 ?_ ?_)
 . refine⟨?_⟩;have:xs.take i=xs:=y6 (by omega);rw[this] at hp;exact⟨_,rfl,by rw[a1b hp];decide⟩
theorem c4z (xs:List Offence)(F:Nat)(fs cs:List D)(p:Offence->Bool)(h:∀x∈xs,Mt F (fs++([x.d]++cs)) λr=>r=bD (p x)):
 Mt 179 [.sl (xs.map Offence.cells), .fn F fs cs] λd=>d=bD (xs.any p):=by
 refine En {} Tryz.func179 Tryz.ntmps179 λ_ _ _ _ _=>?_;refine Kw ?_;refine(c7l xs F fs cs p h).mono λd hd=>?_;obtain⟨r,rfl,hr⟩:=hd;refine Kw ?_;refine⟨?_⟩;rw[hr]
theorem c3o (xs:List Offence)(F:Nat)(fs cs:List D)(p:Offence->Bool)(h:∀x∈xs,Mt F (fs++([x.d]++cs)) λr=>r=bD (p x)):
 Mt 110 [.sl (xs.map Offence.cells), .fn F fs cs] λd=>d=bD (xs.all p):=by
 refine En {} Tryz.func110 Tryz.ntmps110 λ_ _ _ _ _=>?_;refine Kw ?_;refine(c4z xs 180 [] [.ptr [.fn F fs cs] 0] (λx=> !p x) λx hx=>?_).mono λd hd=>?_
 . refine En {} Tryz.func180 Tryz.ntmps180 λ_ _ _ _ _=>?_;refine Kw ?_;refine(h x hx).mono λd hd=>?_;subst hd;refine Kw ?_;exact⟨rfl⟩
 subst hd;refine Kw ?_;refine⟨?_⟩;rw[<-a1B,a2j]
theorem c7d (xs:List Category)(F:Nat)(fs cs:List D)(p:Category->Bool)(h:∀x∈xs,Mt F (fs++([x.d]++cs)) λr=>r=bD (p x)):
 Mt 222 [.sl (xs.map Category.cells), .fn F fs cs] λd=>∃r:Int,d=iD r/\(decide (r≥0))=xs.any p:=by
 refine En {} Tryz.func222 Tryz.ntmps222 λ_ _ _ _ _=>?_;refine Kw ?_;repeat'((first|(intro hlq;try simp only[SL] at hlq)|refine K8 ?_)<;>refine Kw ?_)
 refine o4 tok {} [] (X:=Nat) (λi=>[(8,iB i)]) (λ_=>[]) [] (λi=>i<=xs.length/\∀x∈xs.take i,p x=false) (λi=>xs.length-i) 0 ?_;refine Kw ?_;refine d8 ?_ ⟨⟨by omega,by simp⟩,λi hΦ=>?_⟩
 . exact Kr
 obtain⟨hi,hp⟩:=hΦ;refine Kw ?_;refine⟨λh1=>?_,λh1=>?_⟩<;>(try simp only[BL] at h1)<;>refine Kw ?_
 . have h1':i<xs.length:=by omega
   repeat'((first|(intro hlq;try simp only[SL] at hlq)|refine Ka ?_|refine Kb ?_|refine Kc (hd:=rfl) (e:=?_)|refine Kc (hd:=Category.cells_eq _) (e:=?_)|refine Kd (e:=?_)|refine Kl rfl ?_|fail)<;>refine Kw ?_)
   refine(h xs[i] (q7 h1')).mono λd hd=>?_;subst hd;refine Kw ?_;refine⟨λh2=>?_,λh2=>?_⟩<;>(try simp only[BL] at h2)<;>refine Kw ?_
   . refine⟨?_⟩;exact⟨_,rfl,by rw[N9.2 ⟨_,q7 h1',h2⟩];simp⟩
   . repeat'((first|(intro hlq;try simp only[SL] at hlq)|refine K8 ?_)<;>refine Kw ?_)
     refine⟨⟨i+1,?_,⟨by omega,Y7 h1' hp h2⟩,by omega⟩⟩;repeat'(first|exact d9|exact rfl|refine d8 ?_ ?_)
 . refine⟨?_⟩;have:xs.take i=xs:=y6 (by omega);rw[this] at hp;exact⟨_,rfl,by rw[a1b hp];decide⟩
theorem c4q (xs:List Category)(F:Nat)(fs cs:List D)(p:Category->Bool)(h:∀x∈xs,Mt F (fs++([x.d]++cs)) λr=>r=bD (p x)):
 Mt 181 [.sl (xs.map Category.cells), .fn F fs cs] λd=>d=bD (xs.any p):=by
 refine En {} Tryz.func181 Tryz.ntmps181 λ_ _ _ _ _=>?_;refine Kw ?_;refine(c7d xs F fs cs p h).mono λd hd=>?_;obtain⟨r,rfl,hr⟩:=hd;refine Kw ?_;refine⟨?_⟩;rw[hr]
theorem c3k (xs:List Category)(F:Nat)(fs cs:List D)(p:Category->Bool)(h:∀x∈xs,Mt F (fs++([x.d]++cs)) λr=>r=bD (p x)):
 Mt 111 [.sl (xs.map Category.cells), .fn F fs cs] λd=>d=bD (xs.all p):=by
 refine En {} Tryz.func111 Tryz.ntmps111 λ_ _ _ _ _=>?_;refine Kw ?_;refine(c4q xs 182 [] [.ptr [.fn F fs cs] 0] (λx=> !p x) λx hx=>?_).mono λd hd=>?_
 . refine En {} Tryz.func182 Tryz.ntmps182 λ_ _ _ _ _=>?_;refine Kw ?_;refine(h x hx).mono λd hd=>?_;subst hd;refine Kw ?_;exact⟨rfl⟩
 subst hd;refine Kw ?_;refine⟨?_⟩;rw[<-a1B,a2j]
theorem c7n (xs:List Prize)(F:Nat)(fs cs:List D)(p:Prize->Bool)(h:∀x∈xs,Mt F (fs++([x.d]++cs)) λr=>r=bD (p x)):
 Mt 223 [.sl (xs.map Prize.cells), .fn F fs cs] λd=>∃r:Int,d=iD r/\(decide (r≥0))=xs.any p:=by
 refine En {} Tryz.func223 Tryz.ntmps223 λ_ _ _ _ _=>?_;refine Kw ?_;repeat'((first|(intro hlq;try simp only[SL] at hlq)|refine K8 ?_)<;>refine Kw ?_)
 refine o4 tok {} [] (X:=Nat) (λi=>[(8,iB i)]) (λ_=>[]) [] (λi=>i<=xs.length/\∀x∈xs.take i,p x=false) (λi=>xs.length-i) 0 ?_;refine Kw ?_;refine d8 ?_ ⟨⟨by omega,by simp⟩,λi hΦ=>?_⟩
 . exact Kr
 obtain⟨hi,hp⟩:=hΦ;refine Kw ?_;refine⟨λh1=>?_,λh1=>?_⟩<;>(try simp only[BL] at h1)<;>refine Kw ?_
 . have h1':i<xs.length:=by omega
   repeat'((first|(intro hlq;try simp only[SL] at hlq)|refine Ka ?_|refine Kb ?_|refine Kc (hd:=rfl) (e:=?_)|refine Kc (hd:=Prize.cells_eq _) (e:=?_)|refine Kd (e:=?_)|refine Kl rfl ?_|fail)<;>refine Kw ?_)
   refine(h xs[i] (q7 h1')).mono λd hd=>?_;subst hd;refine Kw ?_;refine⟨λh2=>?_,λh2=>?_⟩<;>(try simp only[BL] at h2)<;>refine Kw ?_
   . refine⟨?_⟩;exact⟨_,rfl,by rw[N9.2 ⟨_,q7 h1',h2⟩];simp⟩
   . repeat'((first|(intro hlq;try simp only[SL] at hlq)|refine K8 ?_)<;>refine Kw ?_)
     refine⟨⟨i+1,?_,⟨by omega,Y7 h1' hp h2⟩,by omega⟩⟩;repeat'(first|exact d9|exact rfl|refine d8 ?_ ?_)
 . refine⟨?_⟩;have:xs.take i=xs:=y6 (by omega);rw[this] at hp;exact⟨_,rfl,by rw[a1b hp];decide⟩
theorem c4B (xs:List Prize)(F:Nat)(fs cs:List D)(p:Prize->Bool)(h:∀x∈xs,Mt F (fs++([x.d]++cs)) λr=>r=bD (p x)):
 Mt 183 [.sl (xs.map Prize.cells), .fn F fs cs] λd=>d=bD (xs.any p):=by
 refine En {} Tryz.func183 Tryz.ntmps183 λ_ _ _ _ _=>?_;refine Kw ?_;refine(c7n xs F fs cs p h).mono λd hd=>?_;obtain⟨r,rfl,hr⟩:=hd;refine Kw ?_;refine⟨?_⟩;rw[hr]
theorem c3p (xs:List Prize)(F:Nat)(fs cs:List D)(p:Prize->Bool)(h:∀x∈xs,Mt F (fs++([x.d]++cs)) λr=>r=bD (p x)):
 Mt 113 [.sl (xs.map Prize.cells), .fn F fs cs] λd=>d=bD (xs.all p):=by
 refine En {} Tryz.func113 Tryz.ntmps113 λ_ _ _ _ _=>?_;refine Kw ?_;refine(c4B xs 184 [] [.ptr [.fn F fs cs] 0] (λx=> !p x) λx hx=>?_).mono λd hd=>?_
 . refine En {} Tryz.func184 Tryz.ntmps184 λ_ _ _ _ _=>?_;refine Kw ?_;refine(h x hx).mono λd hd=>?_;subst hd;refine Kw ?_;exact⟨rfl⟩
 subst hd;refine Kw ?_;refine⟨?_⟩;rw[<-a1B,a2j]
end Go.Proofs.YteillnfhkeebjaaGreatDoor.Dx
