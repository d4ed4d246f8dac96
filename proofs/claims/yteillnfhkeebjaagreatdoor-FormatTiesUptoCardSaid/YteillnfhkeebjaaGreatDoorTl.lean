/- Cuts,splits and numerals: the library's plain functions in terms of n7,numN. -/
import Derived.Test.YteillnfhkeebjaaGreatDoorTk
import Derived.Lib.SplitLaws
set_option linter.all false
namespace Go.Proofs.YteillnfhkeebjaaGreatDoor.Dx
open Go Go.RowKit Go.Proofs
set_option maxRecDepth 100000
set_option maxHeartbeats 8000000
theorem a3Q {c:UInt8}{r:List UInt8}:∀{w:List UInt8},c∉w->Lib.index (w++c::r) [c]=(w.length:Int)
 | [],_=>by
   rw[List.nil_append,Lib.index]
   simp[List.isPrefixOf]
 | b::w,h=>by
   simp only[List.mem_cons,not_or] at h
   have ih:=a3Q (r:=r) h.2
   have hp:([c]:List UInt8).isPrefixOf (b::(w++c::r))=false:=by simp[List.isPrefixOf,h.1]
   rw[List.cons_append,Lib.index,hp,ih]
   have:(((w.length:Nat):Int)== -1)=false:=by rw[beq_eq_false_iff_ne];omega
   rw[this]
   simp
theorem a6x {c:UInt8}:∀{s:List UInt8},c∉s->Lib.index s [c]= -1
 |[],_=>rfl
 | b::s,h=>by
   simp only[List.mem_cons,not_or] at h
   have ih:=a6x h.2
   have hp:([c]:List UInt8).isPrefixOf (b::s)=false:=by simp[List.isPrefixOf,h.1]
   rw[Lib.index,hp,ih]
   rfl
theorem b9F (c:UInt8)(s:List UInt8):Lib.cut s [c]=n7 c s:=by
 rcases hq:n7 c s with⟨w,r,_|_⟩
 . obtain⟨rfl,rfl,hn⟩:=E2 hq
   rw[Lib.cut,a6x hn]
   rfl
 . obtain⟨rfl,hn⟩:=H5 hq
   rw[Lib.cut,a3Q hn,if_pos (by omega),Int.toNat_natCast]
   simp
theorem a7T (s sep:List UInt8):I5 s sep=Lib.splitK sep 0 (Lib.count s sep) s:=by
 rw[I5,Lib.splitB_data]
theorem a4P {c:UInt8}{s:List UInt8}(h:c∉s):I5 s [c]=[s]:=by
 rw[a7T,Lib.count_miss (a6x h)]
 rfl
theorem a4O {c:UInt8}{w r:List UInt8}(h:c∉w):I5 (w++c::r) [c]=w::I5 r [c]:=by
 rw[a7T,a7T,Lib.count_hit (by simp) (a3Q h)]
 have e:(w++c::r).drop (w.length+[c].length)=r:=by simp
 rw[e,Nat.add_comm 1]
 rw[Lib.splitK,a3Q h]
 have:(((w.length:Nat):Int)== -1)=false:=by rw[beq_eq_false_iff_ne];omega
 rw[this,Int.toNat_natCast,e]
 simp
theorem c2G (c:UInt8)(s:List UInt8):I5 s [c]≠[]:=by
 rcases hq:n7 c s with⟨w,r,_|_⟩
 . obtain⟨rfl,rfl,hn⟩:=E2 hq
   rw[a4P hn];simp
 . obtain⟨rfl,hn⟩:=H5 hq
   rw[a4O hn];simp
theorem b0f:∀(s:List UInt8) (acc:Nat),s.all d9=true->Lib.decFrom acc s=some (s.foldl (λa b=>10*a+(b.toNat-48)) acc)
 |[],_,_=>rfl
 | b::s,acc,h=>by
   simp only[List.all_cons,Bool.and_eq_true] at h
   have hb:=isDg_iff.1 h.1
   rw[Lib.decFrom,Lib.digitVal,if_pos hb]
   simp only
   rw[b0f s _ h.2,List.foldl_cons,Nat.mul_comm]
theorem a5E {s:List UInt8}(h:s.all d9=true)(hne:s≠[]):Lib.atoi s=some (numN s:Int):=by
 cases s with
 |nil=>exact absurd rfl hne
 | cons b r=>
   have hb:=isDg_iff.1 (by simp only[List.all_cons,Bool.and_eq_true] at h;exact h.1)
   have h45:(b==45)=false:=by rw[beq_eq_false_iff_ne];rintro rfl;revert hb;decide
   have h43:(b==43)=false:=by rw[beq_eq_false_iff_ne];rintro rfl;revert hb;decide
   have hd:Lib.decNat (b::r)=some (numN (b::r)):=by
    unfold Lib.decNat
    simp only[List.isEmpty_cons,Bool.false_eq_true,if_false]
    exact b0f _ _ h
   rw[Lib.atoi,h45,h43]
   simp only[Bool.false_eq_true,if_false]
   rw[hd]
   rfl
theorem c2v (p:List UInt8):(q8 p 2 2=true/\∃a r,p=a::r/\(a.toNat:Int)<=53/\r5 p=(numN p:Int))\/(q8 p 2 2=true/\r5 p= -1/\∃a r,p=a::r/\(a.toNat:Int)>53)\/(q8 p 2 2=false/\r5 p= -1):=by
 match p with
 |[]=>exact .inr (.inr ⟨rfl,rfl⟩)
 |[_]=>exact .inr (.inr ⟨by simp[q8],rfl⟩)
 | [a,b]=>
   have e:q8 [a,b] 2 2=(d9 a&&d9 b):=by simp[q8]
   rw[e]
   by_cases h1:d9 a&&d9 b
   . rw[h1]
     simp only[Bool.and_eq_true] at h1
     by_cases h2:(a.toNat:Int)<=53
     . exact .inl ⟨rfl,a,[b],rfl,h2,by rw[r5,h1.1,h1.2,decide_eq_true h2];rfl⟩
     . exact .inr (.inl ⟨rfl,by rw[r5,h1.1,h1.2,decide_eq_false h2];rfl,a,[b],rfl,by omega⟩)
   . have h1:(d9 a&&d9 b)=false:=by simpa using h1
     refine .inr (.inr ⟨h1,?_⟩)
     rw[r5]
     rw[if_neg]
     intro h
     simp only[Bool.and_eq_true] at h
     rw[h.1,h.2.1] at h1
     cases h1
 | a::b::c::r=>
   refine .inr (.inr ⟨?_,rfl⟩)
   rw[q8,decide_eq_false (by simp only[List.length_cons];omega:¬(((a::b::c::r).length:Nat):Int)<=2)]
   simp
theorem b0R (f:List UInt8):(q8 f 1 6=true/\H7 f=(numN ((f++[48,48,48,48,48,48]).take 6):Int)/\((f++[48,48,48,48,48,48]).take 6).all d9=true)\/(q8 f 1 6=false/\H7 f= -1):=by
 cases h:q8 f 1 6
 . refine .inr ⟨rfl,?_⟩
   rw[H7,if_neg]
   intro h2
   simp only[Bool.and_eq_true,decide_eq_true_eq] at h2
   rw[q8,decide_eq_true (by omega),decide_eq_true (by omega),h2.2.2] at h
   cases h
 . refine .inl ⟨rfl,?_⟩
   simp only[q8,Bool.and_eq_true,decide_eq_true_eq] at h
   obtain⟨h1,h2,h3⟩:=h
   have e:(f++[48,48,48,48,48,48]).take 6=f++List.replicate (6-f.length) 48:=by
    rw[List.take_append,List.take_of_length_le (by omega),show[48,48,48,48,48,48]=List.replicate 6 (48:UInt8) from rfl,List.take_replicate,Nat.min_eq_left (by omega)]
   rw[e,b2l,List.all_append,h3]
   refine⟨?_,by simp[d9]⟩
   rw[H7,decide_eq_true (by omega),decide_eq_true (by omega),h3]
   rfl
end Go.Proofs.YteillnfhkeebjaaGreatDoor.Dx
/- The code's Time as plain arithmetic: parts at the colons. -/
namespace Go.Proofs.YteillnfhkeebjaaGreatDoor.Dx
open Go Go.RowKit Go.Proofs
set_option maxRecDepth 100000
set_option maxHeartbeats 8000000
def R0:List (List UInt8)->Int->Option Int
 |[],t=>some t
 |p::ps,t=>if r5 p<0\/t>1099511627776 then none else R0 ps (60*t+r5 p)
def a3v (a:List UInt8)(rest:List (List UInt8))(p:Bool)(f:List UInt8):Option Int:=
 if p4 a=false\/rest.length>2\/(rest.length=0/\p=false)\/(p=true/\q8 f 1 6=false) then none
 else match R0 rest (numN a) with
  |none=>none
  |some t=>if t>1099511\/1000000*t+(numN ((f++[48,48,48,48,48,48]).take 6):Int)>1099511627776 then none else some (1000000*t+(numN ((f++[48,48,48,48,48,48]).take 6):Int))
theorem b0O:∀(s:List UInt8) (acc:Nat),acc*10^s.length<=s.foldl (λa b=>10*a+(b.toNat-48)) acc
 |[],acc=>by simp
 | b::s,acc=>by
   have ih:=b0O s (10*acc+(b.toNat-48))
   rw[List.foldl_cons,List.length_cons,Nat.pow_succ]
   refine Nat.le_trans ?_ ih
   rw[Nat.mul_comm (10^s.length) 10,<-Nat.mul_assoc]
   exact Nat.mul_le_mul_right _ (by omega)
theorem c0N {a:List UInt8}(h:p4 a=true)(hl:¬(a.length:Int)<=13):(10000000000000:Int)<=numN a:=by
 cases a with
 |nil=>exact absurd (by simp) hl
 | cons b r=>
   have hd:=(Y9 h).1
   simp only[List.all_cons,Bool.and_eq_true] at hd
   have hb:=isDg_iff.1 hd.1
   simp only[p4,Bool.and_eq_true,Bool.or_eq_true,decide_eq_true_eq,List.head?_cons,ne_eq,Option.some.injEq] at h
   simp only[List.length_cons] at hl
   have hb':b.toNat≠48:=by
    intro e
    rcases h.2 with h2|h2
    . cases h2;simp at hl
    . exact h2 (UInt8.toNat_inj.1 e)
   have:=b0O r (10*0+(b.toNat-48))
   have h10:10^13<=10^r.length:=Nat.pow_le_pow_right (by omega) (by omega)
   have h1:1*10^r.length<=(10*0+(b.toNat-48))*10^r.length:=Nat.mul_le_mul_right _ (by omega)
   have e:numN (b::r)=r.foldl (λa b=>10*a+(b.toNat-48)) (10*0+(b.toNat-48)):=rfl
   rw[e]
   omega
theorem c3E {u w f a r:List UInt8} {p c:Bool} (hp:n7 46 u=(w,f,p)) (hq:n7 58 w=(a,r,c)):∃rest,I5 w [58]=a::rest/\I7 u=a3v a rest p f:=by
 rw[c3F hp hq]
 have hfr:((p=true/\q8 f 1 6=false)/\(if p then H7 f else 0)<0)\/(¬(p=true/\q8 f 1 6=false)/\(if p then H7 f else 0)=(numN ((f++[48,48,48,48,48,48]).take 6):Int)/\0<=(numN ((f++[48,48,48,48,48,48]).take 6):Int)):=by
  cases p with
  | false=>
    obtain⟨_,rfl,_⟩:=E2 hp
    exact .inr ⟨by simp,rfl,by omega⟩
  | true=>
    rcases b0R f with⟨h1,h2,h3⟩|⟨h1,h2⟩
    . exact .inr ⟨by simp[h1],by simpa using h2,by omega⟩
    . exact .inl ⟨⟨rfl,h1⟩,by simp[h2]⟩
 have hnum:=λh=>c0N (a:=a) h
 have hna:(0:Int)<=numN a:=by omega
 unfold a3v
 generalize (numN ((f++[48,48,48,48,48,48]).take 6):Int)=mic at *
 generalize (if p then H7 f else 0)=fr at *
 generalize q8 f 1 6=df at *
 clear hp
 cases c with
 | false =>
   obtain⟨rfl,rfl,hn⟩:=E2 hq
   refine⟨[],a4P hn,?_⟩
   simp only[a0L,R0,a2T,List.length_nil,Bool.false_eq_true,if_false]
   generalize (numN w:Int)=na at *
   generalize p4 w=nb at *
   clear hn hq
   rcases hfr with⟨h1,h2⟩|⟨h1,h2,h3⟩
   . rw[if_pos (.inr (.inr (.inl h2))),if_pos (.inr (.inr (.inr h1)))]
   . subst h2
     cases nb with
     |false=>rw[if_pos (.inl rfl),if_pos (.inl rfl)]
     | true=>
       cases p with
       |false=>rw[if_pos (.inr (.inr (.inr ⟨trivial,rfl⟩))),if_pos (.inr (.inr (.inl ⟨trivial,rfl⟩)))]
       | true=>
         refine Eq.trans ?_ (if_neg (by simpa using h1)).symm
         by_cases hl:(w.length:Int)<=13
         . rw[if_neg (by simp;omega)]
           by_cases h4:na>1099511\/1000000*na+fr>1099511627776
           . rw[if_pos h4,if_pos (by omega)]
           . rw[if_neg h4,if_neg (by omega)]
         . have:=hnum rfl hl
           rw[if_pos (.inr (.inl (by omega))),if_pos (by omega)]
 | true =>
   obtain⟨rfl,hn⟩:=H5 hq
   refine⟨I5 r [58],a4O hn,?_⟩
   rcases hr:n7 58 r with⟨b,r2,c2⟩
   rw[c0k hr]
   have hsb:=b3i b
   cases c2 with
   | false =>
     obtain⟨rfl,rfl,hn2⟩:=E2 hr
     rw[a4P hn2]
     simp only[R0,a2T,List.length_cons,List.length_nil,if_true,Bool.false_eq_true,if_false]
     generalize (numN a:Int)=na at *
     generalize p4 a=nb at *
     generalize r5 r=sb at *
     clear hn hq hn2 hr
     rcases hfr with⟨h1,h2⟩|⟨h1,h2,h3⟩
     . rw[if_pos (.inr (.inr (.inl h2))),if_pos (.inr (.inr (.inr h1)))]
     . subst h2
       cases nb with
       |false=>rw[if_pos (.inl rfl),if_pos (.inl rfl)]
       | true=>
         refine Eq.trans ?_ (if_neg (by simpa using h1)).symm
         by_cases hl:(a.length:Int)<=13
         . rw [if_neg (by simp;omega)]
           by_cases h5:sb<0
           . rw[if_pos h5,if_pos (.inl h5)]
           rw[if_neg h5]
           by_cases h4:na>1099511627776
           . rw[if_pos (.inr h4)]
             dsimp only
             rw[if_pos (by omega)]
           . rw[if_neg (by omega)]
             dsimp only
             by_cases h4:60*na+sb>1099511\/1000000*(60*na+sb)+fr>1099511627776
             . rw[if_pos h4,if_pos (by omega)]
             . rw[if_neg h4,if_neg (by omega)]
         . have:=hnum rfl hl
           rw[if_pos (.inr (.inl (by omega))),if_pos (.inr (by omega))]
   | true =>
     obtain⟨rfl,hn2⟩:=H5 hr
     rw[a4O hn2]
     rcases hr3:n7 58 r2 with⟨d,r3,c3⟩
     have hsd:=b3i r2
     cases c3 with
     | false =>
       obtain⟨rfl,rfl,hn3⟩:=E2 hr3
       rw[a4P hn3]
       simp only[R0,a2T,List.length_cons,List.length_nil,if_true]
       generalize (numN a:Int)=na at *
       generalize p4 a=nb at *
       generalize r5 r2=sd at *
       generalize r5 b=sb at *
       clear hn hq hn2 hr hn3 hr3
       rcases hfr with⟨h1,h2⟩|⟨h1,h2,h3⟩
       . rw[if_pos (.inr (.inr (.inl h2))),if_pos (.inr (.inr (.inr h1)))]
       . subst h2
         cases nb with
         |false=>rw[if_pos (.inl rfl),if_pos (.inl rfl)]
         | true=>
           refine Eq.trans ?_ (if_neg (by simpa using h1)).symm
           by_cases hl:(a.length:Int)<=13
           . rw [if_neg (by simp;omega)]
             by_cases h5:sb<0
             . rw[if_pos h5,if_pos (.inl h5)]
             rw[if_neg h5]
             by_cases h6:sd<0
             . rw[if_pos h6]
               by_cases h4:na>1099511627776
               . rw[if_pos (.inr h4)]
               . rw[if_neg (by omega),if_pos (.inl h6)]
             rw[if_neg h6]
             by_cases h4:na>1099511627776
             . rw[if_pos (.inr h4)]
               dsimp only
               rw[if_pos (by omega)]
             rw[if_neg (by omega)]
             by_cases h4:60*na+sb>1099511627776
             . rw[if_pos (.inr h4)]
               dsimp only
               rw[if_pos (by omega)]
             rw[if_neg (by omega)]
             dsimp only
             by_cases h4:60*(60*na+sb)+sd>1099511\/1000000*(60*(60*na+sb)+sd)+fr>1099511627776
             . rw[if_pos h4,if_pos (by omega)]
             . rw[if_neg h4,if_neg (by omega)]
           . have:=hnum rfl hl
             rw[if_pos (.inr (.inl (by omega))),if_pos (.inr (by omega))]
     | true=>
       obtain⟨rfl,hn3⟩:=H5 hr3
       rw[a4O hn3]
       have h1:r5 (d++58::r3)<0:=by
        by_cases h:r5 (d++58::r3)<0
        . exact h
        . exfalso
          have:=List.all_eq_true.1 (a7J h).1 58 (by simp)
          revert this;decide
       have h2:(I5 r3 [58]).length≥1:=by
        have:=c2G 58 r3
        cases hs:I5 r3 [58] with
        |nil=>exact absurd hs this
        |cons=>simp
       rw[if_pos (c:=_\/_) (.inr (.inl (by simp only[List.length_cons];omega)))]
       rw[if_pos h1]
       simp only[a2T,if_true,ite_self]
end Go.Proofs.YteillnfhkeebjaaGreatDoor.Dx
