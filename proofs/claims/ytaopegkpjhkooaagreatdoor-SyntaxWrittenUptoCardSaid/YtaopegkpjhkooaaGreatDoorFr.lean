/- Cuts,splits and numerals: the library's plain functions in terms of r7,numN. -/
import Derived.Test.YtaopegkpjhkooaaGreatDoorFq
import Derived.Lib.SplitLaws
set_option linter.all false
namespace Go.Proofs.YtaopegkpjhkooaaGreatDoor.Dx
open Go Go.RowKit Go.Proofs
set_option maxRecDepth 100000
set_option maxHeartbeats 8000000
theorem a5o {c:UInt8}{r:List UInt8}:∀{w:List UInt8},c∉w->Lib.index (w++c::r) [c]=(w.length:Int)
 | [],_=>by
   rw[List.nil_append,Lib.index]
   simp[List.isPrefixOf]
 | b::w,h=>by
   simp only[List.mem_cons,not_or] at h
   have ih:=a5o (r:=r) h.2
   have hp:([c]:List UInt8).isPrefixOf (b::(w++c::r))=false:=by simp[List.isPrefixOf,h.1]
   rw[List.cons_append,Lib.index,hp,ih]
   have:(((w.length:Nat):Int)== -1)=false:=by rw[beq_eq_false_iff_ne];omega
   rw[this]
   simp
theorem a7q {c:UInt8}:∀{s:List UInt8},c∉s->Lib.index s [c]= -1
 |[],_=>rfl
 | b::s,h=>by
   simp only[List.mem_cons,not_or] at h
   have ih:=a7q h.2
   have hp:([c]:List UInt8).isPrefixOf (b::s)=false:=by simp[List.isPrefixOf,h.1]
   rw[Lib.index,hp,ih]
   rfl
theorem b8F (c:UInt8)(s:List UInt8):Lib.cut s [c]=r7 c s:=by
 rcases hq:r7 c s with⟨w,r,_|_⟩
 . obtain⟨rfl,rfl,hn⟩:=K0 hq
   rw[Lib.cut,a7q hn]
   rfl
 . obtain⟨rfl,hn⟩:=P4 hq
   rw[Lib.cut,a5o hn,if_pos (by omega),Int.toNat_natCast]
   simp
theorem a8t (s sep:List UInt8):R0 s sep=Lib.splitK sep 0 (Lib.count s sep) s:=by
 rw[R0,Lib.splitB_data]
theorem a5Z {c:UInt8}{s:List UInt8}(h:c∉s):R0 s [c]=[s]:=by
 rw[a8t,Lib.count_miss (a7q h)]
 rfl
theorem a5Y {c:UInt8}{w r:List UInt8}(h:c∉w):R0 (w++c::r) [c]=w::R0 r [c]:=by
 rw[a8t,a8t,Lib.count_hit (by simp) (a5o h)]
 have e:(w++c::r).drop (w.length+[c].length)=r:=by simp
 rw[e,Nat.add_comm 1]
 rw[Lib.splitK,a5o h]
 have:(((w.length:Nat):Int)== -1)=false:=by rw[beq_eq_false_iff_ne];omega
 rw[this,Int.toNat_natCast,e]
 simp
theorem c2b (c:UInt8)(s:List UInt8):R0 s [c]≠[]:=by
 rcases hq:r7 c s with⟨w,r,_|_⟩
 . obtain⟨rfl,rfl,hn⟩:=K0 hq
   rw[a5Z hn];simp
 . obtain⟨rfl,hn⟩:=P4 hq
   rw[a5Y hn];simp
theorem b0B:∀(s:List UInt8) (acc:Nat),s.all d9=true->Lib.decFrom acc s=some (s.foldl (λa b=>10*a+(b.toNat-48)) acc)
 |[],_,_=>rfl
 | b::s,acc,h=>by
   simp only[List.all_cons,Bool.and_eq_true] at h
   have hb:=isDg_iff.1 h.1
   rw[Lib.decFrom,Lib.digitVal,if_pos hb]
   simp only
   rw[b0B s _ h.2,List.foldl_cons,Nat.mul_comm]
theorem a6I {s:List UInt8}(h:s.all d9=true)(hne:s≠[]):Lib.atoi s=some (numN s:Int):=by
 cases s with
 |nil=>exact absurd rfl hne
 | cons b r=>
   have hb:=isDg_iff.1 (by simp only[List.all_cons,Bool.and_eq_true] at h;exact h.1)
   have h45:(b==45)=false:=by rw[beq_eq_false_iff_ne];rintro rfl;revert hb;decide
   have h43:(b==43)=false:=by rw[beq_eq_false_iff_ne];rintro rfl;revert hb;decide
   have hd:Lib.decNat (b::r)=some (numN (b::r)):=by
    unfold Lib.decNat
    simp only[List.isEmpty_cons,Bool.false_eq_true,if_false]
    exact b0B _ _ h
   rw[Lib.atoi,h45,h43]
   simp only[Bool.false_eq_true,if_false]
   rw[hd]
   rfl
theorem c1W (p:List UInt8):(A0 p 2 2=true/\∃a r,p=a::r/\(a.toNat:Int)<=53/\z7 p=(numN p:Int))\/(A0 p 2 2=true/\z7 p= -1/\∃a r,p=a::r/\(a.toNat:Int)>53)\/(A0 p 2 2=false/\z7 p= -1):=by
 match p with
 |[]=>exact .inr (.inr ⟨rfl,rfl⟩)
 |[_]=>exact .inr (.inr ⟨by simp[A0],rfl⟩)
 | [a,b]=>
   have e:A0 [a,b] 2 2=(d9 a&&d9 b):=by simp[A0]
   rw[e]
   by_cases h1:d9 a&&d9 b
   . rw[h1]
     simp only[Bool.and_eq_true] at h1
     by_cases h2:(a.toNat:Int)<=53
     . exact .inl ⟨rfl,a,[b],rfl,h2,by rw[z7,h1.1,h1.2,decide_eq_true h2];rfl⟩
     . exact .inr (.inl ⟨rfl,by rw[z7,h1.1,h1.2,decide_eq_false h2];rfl,a,[b],rfl,by omega⟩)
   . have h1:(d9 a&&d9 b)=false:=by simpa using h1
     refine .inr (.inr ⟨h1,?_⟩)
     rw[z7]
     rw[if_neg]
     intro h
     simp only[Bool.and_eq_true] at h
     rw[h.1,h.2.1] at h1
     cases h1
 | a::b::c::r=>
   refine .inr (.inr ⟨?_,rfl⟩)
   rw[A0,decide_eq_false (by simp only[List.length_cons];omega:¬(((a::b::c::r).length:Nat):Int)<=2)]
   simp
theorem b1j (f:List UInt8):(A0 f 1 6=true/\K6 f=(numN ((f++[48,48,48,48,48,48]).take 6):Int)/\((f++[48,48,48,48,48,48]).take 6).all d9=true)\/(A0 f 1 6=false/\K6 f= -1):=by
 cases h:A0 f 1 6
 . refine .inr ⟨rfl,?_⟩
   rw[K6,if_neg]
   intro h2
   simp only[Bool.and_eq_true,decide_eq_true_eq] at h2
   rw[A0,decide_eq_true (by omega),decide_eq_true (by omega),h2.2.2] at h
   cases h
 . refine .inl ⟨rfl,?_⟩
   simp only[A0,Bool.and_eq_true,decide_eq_true_eq] at h
   obtain⟨h1,h2,h3⟩:=h
   have e:(f++[48,48,48,48,48,48]).take 6=f++List.replicate (6-f.length) 48:=by
    rw[List.take_append,List.take_of_length_le (by omega),show[48,48,48,48,48,48]=List.replicate 6 (48:UInt8) from rfl,List.take_replicate,Nat.min_eq_left (by omega)]
   rw[e,a7Q,List.all_append,h3]
   refine⟨?_,by simp[d9]⟩
   rw[K6,decide_eq_true (by omega),decide_eq_true (by omega),h3]
   rfl
end Go.Proofs.YtaopegkpjhkooaaGreatDoor.Dx
/- The code's Time as plain arithmetic: parts at the colons. -/
namespace Go.Proofs.YtaopegkpjhkooaaGreatDoor.Dx
open Go Go.RowKit Go.Proofs
set_option maxRecDepth 100000
set_option maxHeartbeats 8000000
def a0b:List (List UInt8)->Int->Option Int
 |[],t=>some t
 |p::ps,t=>if z7 p<0\/t>1099511627776 then none else a0b ps (60*t+z7 p)
def a4V (a:List UInt8)(rest:List (List UInt8))(p:Bool)(f:List UInt8):Option Int:=
 if w7 a=false\/rest.length>2\/(rest.length=0/\p=false)\/(p=true/\A0 f 1 6=false) then none
 else match a0b rest (numN a) with
  |none=>none
  |some t=>if t>1099511\/1000000*t+(numN ((f++[48,48,48,48,48,48]).take 6):Int)>1099511627776 then none else some (1000000*t+(numN ((f++[48,48,48,48,48,48]).take 6):Int))
theorem b1f:∀(s:List UInt8) (acc:Nat),acc*10^s.length<=s.foldl (λa b=>10*a+(b.toNat-48)) acc
 |[],acc=>by simp
 | b::s,acc=>by
   have ih:=b1f s (10*acc+(b.toNat-48))
   rw[List.foldl_cons,List.length_cons,Nat.pow_succ]
   refine Nat.le_trans ?_ ih
   rw[Nat.mul_comm (10^s.length) 10,<-Nat.mul_assoc]
   exact Nat.mul_le_mul_right _ (by omega)
theorem b9A {a:List UInt8}(h:w7 a=true)(hl:¬(a.length:Int)<=13):(10000000000000:Int)<=numN a:=by
 cases a with
 |nil=>exact absurd (by simp) hl
 | cons b r=>
   have hd:=(a1x h).1
   simp only[List.all_cons,Bool.and_eq_true] at hd
   have hb:=isDg_iff.1 hd.1
   simp only[w7,Bool.and_eq_true,Bool.or_eq_true,decide_eq_true_eq,List.head?_cons,ne_eq,Option.some.injEq] at h
   simp only[List.length_cons] at hl
   have hb':b.toNat≠48:=by
    intro e
    rcases h.2 with h2|h2
    . cases h2;simp at hl
    . exact h2 (UInt8.toNat_inj.1 e)
   have:=b1f r (10*0+(b.toNat-48))
   have h10:10^13<=10^r.length:=Nat.pow_le_pow_right (by omega) (by omega)
   have h1:1*10^r.length<=(10*0+(b.toNat-48))*10^r.length:=Nat.mul_le_mul_right _ (by omega)
   have e:numN (b::r)=r.foldl (λa b=>10*a+(b.toNat-48)) (10*0+(b.toNat-48)):=rfl
   rw[e]
   omega
theorem c3i {u w f a r:List UInt8} {p c:Bool} (hp:r7 46 u=(w,f,p)) (hq:r7 58 w=(a,r,c)):∃rest,R0 w [58]=a::rest/\J5 u=a4V a rest p f:=by
 rw[c3j hp hq]
 have hfr:((p=true/\A0 f 1 6=false)/\(if p then K6 f else 0)<0)\/(¬(p=true/\A0 f 1 6=false)/\(if p then K6 f else 0)=(numN ((f++[48,48,48,48,48,48]).take 6):Int)/\0<=(numN ((f++[48,48,48,48,48,48]).take 6):Int)):=by
  cases p with
  | false=>
    obtain⟨_,rfl,_⟩:=K0 hp
    exact .inr ⟨by simp,rfl,by omega⟩
  | true=>
    rcases b1j f with⟨h1,h2,h3⟩|⟨h1,h2⟩
    . exact .inr ⟨by simp[h1],by simpa using h2,by omega⟩
    . exact .inl ⟨⟨rfl,h1⟩,by simp[h2]⟩
 have hnum:=λh=>b9A (a:=a) h
 have hna:(0:Int)<=numN a:=by omega
 unfold a4V
 generalize (numN ((f++[48,48,48,48,48,48]).take 6):Int)=mic at *
 generalize (if p then K6 f else 0)=fr at *
 generalize A0 f 1 6=df at *
 clear hp
 cases c with
 | false =>
   obtain⟨rfl,rfl,hn⟩:=K0 hq
   refine⟨[],a5Z hn,?_⟩
   simp only[Z2,a0b,a4r,List.length_nil,Bool.false_eq_true,if_false]
   generalize (numN w:Int)=na at *
   generalize w7 w=nb at *
   clear hn hq
   rcases hfr with⟨h1,h2⟩|⟨h1,h2,h3⟩
   . rw[if_pos (.inr (.inr (.inl h2))),if_pos (.inr (.inr (.inr h1)))]
   . subst h2
     cases nb with
     |false=>rw[if_pos (.inl rfl),if_pos (.inl rfl)]
     | true=>
       cases p with
       |false=>rw[if_pos (.inr (.inr (.inr ⟨trivial,rfl⟩))),if_pos (.inr (.inr (.inl ⟨trivial,rfl⟩)))]
       | true=>
         refine Eq.trans ?_ (if_neg (by simpa using h1)).symm
         by_cases hl:(w.length:Int)<=13
         . rw[if_neg (by simp;omega)]
           by_cases h4:na>1099511\/1000000*na+fr>1099511627776
           . rw[if_pos h4,if_pos (by omega)]
           . rw[if_neg h4,if_neg (by omega)]
         . have:=hnum rfl hl
           rw[if_pos (.inr (.inl (by omega))),if_pos (by omega)]
 | true =>
   obtain⟨rfl,hn⟩:=P4 hq
   refine⟨R0 r [58],a5Y hn,?_⟩
   rcases hr:r7 58 r with⟨b,r2,c2⟩
   rw[b9i hr]
   have hsb:=b3e b
   cases c2 with
   | false =>
     obtain⟨rfl,rfl,hn2⟩:=K0 hr
     rw[a5Z hn2]
     simp only[a0b,a4r,List.length_cons,List.length_nil,if_true,Bool.false_eq_true,if_false]
     generalize (numN a:Int)=na at *
     generalize w7 a=nb at *
     generalize z7 r=sb at *
     clear hn hq hn2 hr
     rcases hfr with⟨h1,h2⟩|⟨h1,h2,h3⟩
     . rw[if_pos (.inr (.inr (.inl h2))),if_pos (.inr (.inr (.inr h1)))]
     . subst h2
       cases nb with
       |false=>rw[if_pos (.inl rfl),if_pos (.inl rfl)]
       | true=>
         refine Eq.trans ?_ (if_neg (by simpa using h1)).symm
         by_cases hl:(a.length:Int)<=13
         . rw [if_neg (by simp;omega)]
           by_cases h5:sb<0
           . rw[if_pos h5,if_pos (.inl h5)]
           rw[if_neg h5]
           by_cases h4:na>1099511627776
           . rw[if_pos (.inr h4)]
             dsimp only
             rw[if_pos (by omega)]
           . rw[if_neg (by omega)]
             dsimp only
             by_cases h4:60*na+sb>1099511\/1000000*(60*na+sb)+fr>1099511627776
             . rw[if_pos h4,if_pos (by omega)]
             . rw[if_neg h4,if_neg (by omega)]
         . have:=hnum rfl hl
           rw[if_pos (.inr (.inl (by omega))),if_pos (.inr (by omega))]
   | true =>
     obtain⟨rfl,hn2⟩:=P4 hr
     rw[a5Y hn2]
     rcases hr3:r7 58 r2 with⟨d,r3,c3⟩
     have hsd:=b3e r2
     cases c3 with
     | false =>
       obtain⟨rfl,rfl,hn3⟩:=K0 hr3
       rw[a5Z hn3]
       simp only[a0b,a4r,List.length_cons,List.length_nil,if_true]
       generalize (numN a:Int)=na at *
       generalize w7 a=nb at *
       generalize z7 r2=sd at *
       generalize z7 b=sb at *
       clear hn hq hn2 hr hn3 hr3
       rcases hfr with⟨h1,h2⟩|⟨h1,h2,h3⟩
       . rw[if_pos (.inr (.inr (.inl h2))),if_pos (.inr (.inr (.inr h1)))]
       . subst h2
         cases nb with
         |false=>rw[if_pos (.inl rfl),if_pos (.inl rfl)]
         | true=>
           refine Eq.trans ?_ (if_neg (by simpa using h1)).symm
           by_cases hl:(a.length:Int)<=13
           . rw [if_neg (by simp;omega)]
             by_cases h5:sb<0
             . rw[if_pos h5,if_pos (.inl h5)]
             rw[if_neg h5]
             by_cases h6:sd<0
             . rw[if_pos h6]
               by_cases h4:na>1099511627776
               . rw[if_pos (.inr h4)]
               . rw[if_neg (by omega),if_pos (.inl h6)]
             rw[if_neg h6]
             by_cases h4:na>1099511627776
             . rw[if_pos (.inr h4)]
               dsimp only
               rw[if_pos (by omega)]
             rw[if_neg (by omega)]
             by_cases h4:60*na+sb>1099511627776
             . rw[if_pos (.inr h4)]
               dsimp only
               rw[if_pos (by omega)]
             rw[if_neg (by omega)]
             dsimp only
             by_cases h4:60*(60*na+sb)+sd>1099511\/1000000*(60*(60*na+sb)+sd)+fr>1099511627776
             . rw[if_pos h4,if_pos (by omega)]
             . rw[if_neg h4,if_neg (by omega)]
           . have:=hnum rfl hl
             rw[if_pos (.inr (.inl (by omega))),if_pos (.inr (by omega))]
     | true=>
       obtain⟨rfl,hn3⟩:=P4 hr3
       rw[a5Y hn3]
       have h1:z7 (d++58::r3)<0:=by
        by_cases h:z7 (d++58::r3)<0
        . exact h
        . exfalso
          have:=List.all_eq_true.1 (a8l h).1 58 (by simp)
          revert this;decide
       have h2:(R0 r3 [58]).length≥1:=by
        have:=c2b 58 r3
        cases hs:R0 r3 [58] with
        |nil=>exact absurd hs this
        |cons=>simp
       rw[if_pos (c:=_\/_) (.inr (.inl (by simp only[List.length_cons];omega)))]
       rw[if_pos h1]
       simp only[a4r,if_true,ite_self]
end Go.Proofs.YtaopegkpjhkooaaGreatDoor.Dx
