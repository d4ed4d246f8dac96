/- Chapter 06: SyntaxWritten: how routes are written. -/
import Derived.Test.YtaopegkpjhkooaaGreatDoorGi
set_option linter.all false
namespace Go.Proofs.YtaopegkpjhkooaaGreatDoor.Dx
open Go Go.RowKit
set_option maxRecDepth 100000
set_option maxHeartbeats 16000000
theorem a2B (c:Course)(hm:c.ms.all nmB=true){i:Int}(h:I7 i c.mats.length=true):∃m:Mat,(0<=i/\i<((c.mats.map Mat.cells).length:Int))/\(c.mats.map Mat.cells)[i.toNat]?=some m.cells/\m.name=atN c.ms i/\m.name.length<=60:=by
 have hlen:(c.ms.length:Int)=c.mats.length:=by rw[List.length_map]
 have hn:=O8 hm (i:=i) (by rw[hlen];exact h)
 have h:=of_decide_eq_true h
 have hlt:i.toNat<c.mats.length:=by omega
 have he:c.mats[i.toNat].name=atN c.ms i:=by
  unfold atN
  rw[List.getD_eq_getElem?_getD,List.getElem?_map,List.getElem?_eq_getElem hlt];rfl
 refine⟨c.mats[i.toNat],⟨h.1,by rw[List.length_map];exact h.2⟩,by rw[List.getElem?_map,List.getElem?_eq_getElem hlt];rfl,he,?_⟩
 rw[he]
 simp only[nmB,Bool.and_eq_true,decide_eq_true_eq] at hn
 exact hn.1
def N6 (ms:List (List UInt8))(n:Nat)(p:Part):List UInt8:=if p.laps=0 then atN ms p.mat++[59,32] else[108,97,112,115,32]++(Lib.itoa p.laps++([32,123]++(Q8 ms n p.parts++[125,32])))
theorem b2r (ms:List (List UInt8))(n:Nat)(l:List Part):Q8 ms (n+1) l=(l.map (N6 ms n)).flatten:=rfl
def ptN:Nat->Nat
 |0=>0
 |n+1=>8*(100+ptN n)
theorem R6 {α:Type}(f:α->List UInt8)(B:Nat):∀l:List α,(∀s∈l,(f s).length<=B)->((l.map f).flatten).length<=l.length*B
 |[],_=>by simp
 | s::l,h=>by
   have h1:=h s (by simp)
   have h2:=R6 f B l λx hx=>h x (List.mem_cons_of_mem _ hx)
   simp only[List.map_cons,List.flatten_cons,List.length_append,List.length_cons,Nat.succ_mul]
   omega
theorem Y3 {α:Type}(T:α->List UInt8)(l:List α)(i:Nat)(hi:i<l.length):((l.take (i+1)).map T).flatten=((l.take i).map T).flatten++T l[i]:=by
 rw[List.take_succ_eq_append_getElem hi,List.map_append,List.flatten_append]
 simp
theorem E9 {n:Int}(h:amB n=true):(Lib.itoa n).length<=16:=by
 simp only[amB,Bool.and_eq_true,decide_eq_true_eq] at h
 exact a7y h.1 h.2
theorem b2q {c:Course}(hm:c.ms.all nmB=true){n:Nat}{p:Part}(ih:pfB c.mats.length n p.parts=true->(Q8 c.ms n p.parts).length<=ptN n)(h:ptF c.mats.length (pfB c.mats.length n) p=true):(N6 c.ms n p).length<=100+ptN n:=by
 unfold ptF at h
 unfold N6
 by_cases h0:p.laps=0
 . rw[if_pos h0] at h⊢
   have h:=of_decide_eq_true h
   obtain⟨m,_,_,e,hl⟩:=a2B c hm (i:=p.mat) (decide_eq_true ⟨h.1,h.2.1⟩)
   rw[<-e,List.length_append]
   simp only[List.length_cons,List.length_nil]
   omega
 . rw[if_neg h0] at h⊢
   simp only[Bool.and_eq_true] at h
   have h1:=E9 h.2.1
   have h2:=ih h.2.2
   simp only[List.length_append,List.length_cons,List.length_nil]
   omega
theorem a3Y {c:Course}(hm:c.ms.all nmB=true):∀(n:Nat) (l:List Part),pfB c.mats.length n l=true->(Q8 c.ms n l).length<=ptN n
 |0,l,_=>Nat.le_refl _
 | n+1,l,h=>by
   rw[pfB,Bool.and_eq_true] at h
   have h8:=of_decide_eq_true h.1
   have:=R6 (N6 c.ms n) (100+ptN n) l λp hp=>b2q hm (λh=>a3Y hm n p.parts h) (List.all_eq_true.1 h.2 p hp)
   rw[b2r,ptN]
   have:=Nat.mul_le_mul_right (100+ptN n) h8.2
   omega
theorem a7W {n:Nat}(h:n<=5):ptN n<=3744800:=by
 have:n=0\/n=1\/n=2\/n=3\/n=4\/n=5:=by omega
 rcases this with rfl|rfl|rfl|rfl|rfl|rfl<;>decide
theorem b2j (c:Course)(hm:c.ms.all nmB=true):∀n:Nat,n<=5->∀l:List Part,pfB c.mats.length n l=true->Meets Tryz.prog 38 [c.d, .sl (l.map Part.cells)] λd=>d= .str (Q8 c.ms n l)
 |0,_,l,h=>by cases h
 | n + 1,hn,l,h=>by
   have hpf:=h
   rw[pfB,Bool.and_eq_true] at h
   have h8:=of_decide_eq_true h.1
   have hall:=h.2
   have hlen:(l.map Part.cells).length=l.length:=List.length_map ..
   have h5:=a7W (show n<=5 by omega)
   have hone:∀p∈l,(N6 c.ms n p).length<=100+ptN n:=λp hp=>b2q hm (λh=>a3Y hm n p.parts h) (List.all_eq_true.1 hall p hp)
   have hL:∀i,(((l.take i).map (N6 c.ms n)).flatten).length<=29959200:=λi=>by
    have h1:=R6 (N6 c.ms n) 3744900 (l.take i) λp hp=>by have:=hone p (List.mem_of_mem_take hp);omega
    have h2:(l.take i).length<=8:=by rw[List.length_take];omega
    exact Nat.le_trans h1 (Nat.mul_le_mul_right 3744900 h2)
   rw[b2r]
   refine enter tok {} Tryz.func38 rfl (by kernel_rfl) Tryz.ntmps38 (by simp) λB0 W0 V0 lent g0=>?_
   refine Kw ?_
   repeat'((first|(intro hlq;try simp only[SL] at hlq)|refine K9 ?_|refine K8 ?_)<;>refine Kw ?_)
   refine j7 tok {} [] (X:=Nat) (λi=>[(10,iB i),(5, .d (.str ((l.take i).map (N6 c.ms n)).flatten))]) (λ_=>[]) [] (λi=>i<=l.length) (λi=>l.length-i) 0 ?_
   refine Kw ?_
   refine And.intro ?_ ⟨Nat.zero_le _,λi hi=>?_⟩
   . exact Kr
   have hLi:=hL i
   refine Kw ?_
   refine⟨λh1=>?_,λh1=>?_⟩<;>(try simp only[BL] at h1)<;>refine Kw ?_
   . have h1':i<l.length:=by omega
     obtain⟨p,hs⟩:∃p,p=l[i]:=⟨_,rfl⟩
     have hp:ptF c.mats.length (pfB c.mats.length n) p=true:=List.all_eq_true.1 hall p (by rw[hs];exact List.getElem_mem _)
     have hst:=Y3 (N6 c.ms n) l i h1'
     rw[<-hs] at hst
     have hop:=hone p (by rw[hs];exact List.getElem_mem _)
     refine⟨p.cells,⟨by omega,by rw[Int.toNat_natCast,List.getElem?_map,List.getElem?_eq_getElem h1',hs];rfl,by rw[Part.cells_eq];rfl⟩,?_⟩
     rw[Part.cells_eq]
     unfold ptF at hp
     by_cases h0:p.laps=0
     . rw[if_pos h0] at hp
       have hp:=of_decide_eq_true hp
       obtain⟨m,m1,m2,m3,m4⟩:=a2B c hm (i:=p.mat) (decide_eq_true ⟨hp.1,hp.2.1⟩)
       have e:N6 c.ms n p=m.name++[59,32]:=by unfold N6;rw[if_pos h0,m3]
       clear hone hL hall hpf h
       refine Kw ?_
       repeat'((first|(intro hlq;try simp only[SL] at hlq)|refine⟨m.cells,⟨by omega,m2,rfl⟩,?_⟩|refine⟨λ_ _=>(by simp only[maxLen,List.length_append,List.length_cons,List.length_nil];omega),?_⟩|refine K9 ?_|((refine Kh (λhb=>?_) λhb=>?_)<;>try simp only[BL] at hb)|refine K8 ?_)<;>refine Kw ?_)
       all_goals first
        |(exfalso;contradiction)
        |skip
       refine⟨⟨i+1,?_,by omega,by omega⟩⟩
       repeat'(first|exact True.intro|exact rfl|refine And.intro ?_ ?_|(exact congrArg D.str (by rw[hst,e];try simp)))
     . rw[if_neg h0] at hp
       simp only[Bool.and_eq_true] at hp
       have ih:=b2j c hm n (by omega) p.parts hp.2.2
       have kI:=I2 p.laps
       have hlI:=E9 hp.2.1
       have hlP:=a3Y hm n p.parts hp.2.2
       have e:N6 c.ms n p=[108,97,112,115,32]++(Lib.itoa p.laps++([32,123]++(Q8 c.ms n p.parts++[125,32]))):=by unfold N6;rw[if_neg h0]
       clear hone hL hall hpf h
       refine Kw ?_
       repeat'((first|(intro hlq;try simp only[SL] at hlq)|refine K9 ?_|((refine Kh (λhb=>?_) λhb=>?_)<;>try simp only[BL] at hb)|refine K8 ?_)<;>refine Kw ?_)
       all_goals try contradiction
       refine j9 tok (cf:={}) (by kernel_rfl) [.p 0, .p 1, .p 2, .p 6, .p 7, .p 8, .s 3 [2,1], .p 4, .p 5, .s 9 [6,8,7], .p 10, .p 11, .p 12, .p 13] (by kernel_rfl) ?_
       refine Kw ?_
       repeat'((first|(intro hlq;try simp only[SL] at hlq)|refine Meets.k (kI) ?_|refine Meets.k (ih) ?_|refine⟨λ_ _=>(by simp only[maxLen,List.length_append,List.length_cons,List.length_nil];omega),?_⟩|refine K9 ?_|((refine Kh (λhb=>?_) λhb=>?_)<;>try simp only[BL] at hb)|refine K8 ?_)<;>refine Kw ?_)
       all_goals first
        |(exfalso;contradiction)
        |skip
       refine⟨⟨i+1,?_,by omega,by omega⟩⟩
       repeat'(first|exact True.intro|exact rfl|refine And.intro ?_ ?_|(exact congrArg D.str (by rw[hst,e];try simp)))
   . have hil:i=l.length:=by omega
     subst hil
     rw[List.take_length]
     repeat'((first|(intro hlq;try simp only[SL] at hlq)|refine K9 ?_|refine K8 ?_)<;>refine Kw ?_)
     exact⟨rfl⟩
end Go.Proofs.YtaopegkpjhkooaaGreatDoor.Dx
/- Chapter 06: SyntaxWritten: how a course is written. -/
namespace Go.Proofs.YtaopegkpjhkooaaGreatDoor.Dx
open Go Go.RowKit
set_option maxRecDepth 100000
set_option maxHeartbeats 16000000
def cT0 (c:Course):List UInt8:=[99,111,117,114,115,101,32]++(c.name++[32,123,10,109,97,116,115,32,123])
def cT1 (c:Course):List UInt8:=cT0 c++((c.mats.map Q3).flatten++[125,10])
def cT2 (c:Course):List UInt8:=cT1 c++(c.legs.map (M8 c.ms)).flatten
def cT3 (c:Course):List UInt8:=cT2 c++(c.distances.map (I5 c.ms)).flatten
def cT4 (c:Course):List UInt8:=cT3 c++(c.waves.map O3).flatten
def cT5 (c:Course):List UInt8:=cT4 c++(c.offences.map J0).flatten
def cT6 (c:Course):List UInt8:=cT5 c++(c.categories.map L9).flatten
def cT7 (c:Course):List UInt8:=cT6 c++(c.prizes.map (L3 (C0 c.distances) (B7 c.categories))).flatten
theorem b5A (c:Course)(ties:List UInt8):cT7 c++a4n ties c.faults c.fee c.deadline=a0t c ties:=by
 unfold cT7 cT6 cT5 cT4 cT3 cT2 cT1 cT0 a0t
 simp only[List.append_assoc,List.cons_append,List.nil_append]
structure Wr (c:Course):Prop where
 nm:nmB c.name=true
 ms:c.ms.all nmB=true
 ds:(C0 c.distances).all nmB=true
 cs:(B7 c.categories).all nmB=true
 ws:(c.waves.map (·.name)).all nmB=true
 os:(c.offences.map (·.name)).all nmB=true
 few:a7d c=true
 mat:c.mats.all Y1=true
 leg:c.legs.all (M4 c.mats.length)=true
 dst:c.distances.all (G2 c.mats.length)=true
 wav:c.waves.all (λw=>tmB w.gun)=true
 off:c.offences.all M5=true
 cat:c.categories.all M3=true
 prz:c.prizes.all (K3 c.distances.length c.categories.length)=true
 am:amB c.faults.misses=true/\amB c.faults.strays=true/\amB c.faults.drift=true/\amB c.fee=true
 tm:tmB c.faults.window=true/\tmB c.faults.residual=true/\tmB c.deadline=true
theorem Wr.of {c:Course}(hf:K4 c=true):Wr c:=by
 simp only[K4,Bool.and_eq_true] at hf
 obtain⟨f0,f1,f2,f3,f4,f5,f6,f7,⟨f8,f9⟩,n0,n1,n2,n3,n4,n5⟩:=hf
 simp only[List.all_cons,List.all_nil,Bool.and_true,Bool.and_eq_true] at f8 f9
 exact⟨by have:=(F4 n0).1;simpa using this,(F4 n1).1,(F4 n2).1,(F4 n5).1,(F4 n3).1,(F4 n4).1,f0,f1,f2,f3,f4,f5,f6,f7,f8,f9⟩
theorem N3 {s:List UInt8}(h:nmB s=true):s.length<=60:=by
 simp only[nmB,Bool.and_eq_true,decide_eq_true_eq] at h
 exact h.1
theorem a0n {ms:List (List UInt8)}(hm:ms.all nmB=true){i:Int}(h:I7 i ms.length=true):(atN ms i).length<=60:=N3 (O8 hm h)
theorem a0H {α:Type}(f:α->List UInt8)(l:List α)(i:Nat):(((l.take i).map f).flatten).length<=((l.map f).flatten).length:=by
 have:(l.map f).flatten=((l.take i).map f).flatten++((l.drop i).map f).flatten:=by
  rw[<-List.flatten_append,<-List.map_append,List.take_append_drop]
 rw[this,List.length_append];omega
def dHd (ms:List (List UInt8))(d:Distance):List UInt8:=[100,105,115,116,97,110,99,101,32]++(d.name++(32::(tgW d.timing++([32,123]++Q8 ms 5 d.route))))
section
variable {c:Course} (h:Wr c)
include h
theorem Wr.leg_len:∀x∈c.legs,(M8 c.ms x).length<=400:=λx hx=>by
 have hx:=List.all_eq_true.1 h.leg x hx
 simp only[M4,Bool.and_eq_true] at hx
 have hlen:(c.ms.length:Int)=c.mats.length:=by rw[List.length_map]
 have h1:=a0n h.ms (i:=x.src) (by rw[hlen];exact hx.1)
 have h2:=a0n h.ms (i:=x.dst) (by rw[hlen];exact hx.2.1)
 have h3:=L5 x.lo
 have h4:=L5 x.hi
 unfold M8
 simp only[List.length_append,List.length_cons,List.length_nil]
 omega
theorem Wr.cut_len {d:Distance}(hd:d∈c.distances):∀x∈d.cutoffs,(P6 c.ms x).length<=300:=λx hx=>by
 have hd:=List.all_eq_true.1 h.dst d hd
 simp only[G2,Bool.and_eq_true] at hd
 have hx:=List.all_eq_true.1 hd.2.2.2.2 x hx
 simp only[P8,Bool.and_eq_true] at hx
 have hlen:(c.ms.length:Int)=c.mats.length:=by rw[List.length_map]
 have h1:=a0n h.ms (i:=x.mat) (by rw[hlen];exact hx.1)
 have h3:=L5 x.limit
 have h4:=E9 hx.2.1
 unfold P6
 simp only[List.length_append,List.length_cons,List.length_nil]
 omega
theorem Wr.dst_len:∀d∈c.distances,(dHd c.ms d).length<=3750000/\((d.cutoffs.map (P6 c.ms)).flatten).length<=6000/\(a0v c.ms d.extra).length<=100:=λd hd=>by
 have hx:=List.all_eq_true.1 h.dst d hd
 simp only[G2,Bool.and_eq_true,decide_eq_true_eq] at hx
 have h1:=a3Y h.ms 5 d.route hx.2.2.2.1
 have h2:=a7W (n:=5) (by omega)
 have h3:=N3 (E6 h.ds hd)
 have h4:(tgW d.timing).length<=4:=by unfold tgW;split<;>decide
 have h5:=R6 (P6 c.ms) 300 d.cutoffs (Wr.cut_len h hd)
 have h6:=Nat.mul_le_mul_right 300 hx.2.2.1
 refine⟨?_,by omega,?_⟩
 . unfold dHd
   simp only[List.length_append,List.length_cons,List.length_nil]
   omega
 . unfold a0v
   split
   . rename_i h0
     have hlen:(c.ms.length:Int)=c.mats.length:=by rw[List.length_map]
     have:=a0n h.ms (i:=d.extra) (by rw[hlen];exact decide_eq_true ⟨h0,hx.2.1.2⟩)
     simp only[List.length_append,List.length_cons,List.length_nil]
     omega
   . simp
theorem Wr.wav_len:∀x∈c.waves,(O3 x).length<=300:=λx hx=>by
 have h1:=N3 (E6 h.ws hx)
 have h3:=L5 x.gun
 unfold O3
 simp only[List.length_append,List.length_cons,List.length_nil]
 omega
theorem Wr.off_len:∀x∈c.offences,(J0 x).length<=300:=λx hx=>by
 have h1:=N3 (E6 h.os hx)
 have h3:=L5 x.time
 have ho:=List.all_eq_true.1 h.off x hx
 simp only[M5,Bool.and_eq_true] at ho
 have h4:=E9 ho.2.1
 unfold J0
 split
 . simp only[List.length_append,List.length_cons,List.length_nil];omega
 . split
   . simp only[List.length_append,List.length_cons,List.length_nil];omega
   . simp only[List.length_append,List.length_cons,List.length_nil];omega
theorem Wr.cat_len:∀x∈c.categories,(L9 x).length<=300:=λx hx=>by
 have h1:=N3 (E6 h.cs hx)
 have ho:=List.all_eq_true.1 h.cat x hx
 simp only[M3,Bool.and_eq_true] at ho
 have h3:=E9 ho.1
 have h4:=E9 ho.2
 unfold L9
 simp only[List.length_append,List.length_cons,List.length_nil]
 omega
theorem Wr.who_len {p:Prize}(hp:p∈c.prizes):(a0g (B7 c.categories) p.category).length<=60:=by
 have hp:=List.all_eq_true.1 h.prz p hp
 simp only[K3,Bool.and_eq_true,decide_eq_true_eq] at hp
 unfold a0g
 split
 . rename_i h0
   exact a0n h.cs (decide_eq_true ⟨h0,by rw[List.length_map];exact hp.2.1.2⟩)
 . decide
theorem Wr.prz_len:∀x∈c.prizes,(L3 (C0 c.distances) (B7 c.categories) x).length<=300:=λx hx=>by
 have h1:=Wr.who_len h hx
 have hp:=List.all_eq_true.1 h.prz x hx
 simp only[K3,Bool.and_eq_true] at hp
 have h2:=a0n h.ds (i:=x.distance) (by rw[List.length_map];exact hp.1)
 have h3:=E9 hp.2.2.1
 have h4:=E9 hp.2.2.2
 unfold L3
 simp only[List.length_append,List.length_cons,List.length_nil]
 omega
theorem Wr.cT_len:(cT7 c).length<=100000000:=by
 have hf:=of_decide_eq_true (show decide _=true from h.few)
 obtain⟨q1,q2,q3,q4,q5,q6,q7⟩:=hf
 have a1:=R6 Q3 100 c.mats λm hm=>by
  have h1:=N3 (E6 h.ms hm)
  have h2:(mtW m.kind).length<=5:=by unfold mtW;split<;>decide
  unfold Q3
  simp only[List.length_append,List.length_cons,List.length_nil]
  omega
 have a2:=R6 (M8 c.ms) 400 c.legs (Wr.leg_len h)
 have a3:=R6 (I5 c.ms) 3760000 c.distances λd hd=>by
  obtain⟨h1,h2,h3⟩:=Wr.dst_len h d hd
  have e:I5 c.ms d=dHd c.ms d++((d.cutoffs.map (P6 c.ms)).flatten++(a0v c.ms d.extra++[125,10])):=by
   unfold I5 dHd
   simp only[List.append_assoc,List.cons_append,List.nil_append]
  rw[e]
  simp only[List.length_append,List.length_cons,List.length_nil]
  omega
 have a4:=R6 O3 300 c.waves (Wr.wav_len h)
 have a5:=R6 J0 300 c.offences (Wr.off_len h)
 have a6:=R6 L9 300 c.categories (Wr.cat_len h)
 have a7:=R6 (L3 (C0 c.distances) (B7 c.categories)) 300 c.prizes (Wr.prz_len h)
 have h0:=N3 h.nm
 unfold cT7 cT6 cT5 cT4 cT3 cT2 cT1 cT0
 simp only[List.length_append,List.length_cons,List.length_nil]
 omega
end
end Go.Proofs.YtaopegkpjhkooaaGreatDoor.Dx
