/- Chapter 06: a replacer of bytes replaces. -/
import Derived.Test.YtaopegkpjhkooaaGreatDoorEf
import Derived.Test.YtaopegkpjhkooaaGreatDoorDp
set_option linter.all false
namespace Go.Proofs.YtaopegkpjhkooaaGreatDoor.Dx
open Go Go.RowKit
set_option maxRecDepth 100000
set_option maxHeartbeats 16000000
def qtB (b : UInt8) : List UInt8:=if b = 34 then [92,34] else if b = 92 then [92,92] else if b = 10 then [92,110] else [b]
def qtT (s : List UInt8) : List UInt8:=s.flatMap qtB
def qtE (b : UInt8) : Bool:=decide (b = 34) || (decide (b = 92) || decide (b = 10))
theorem b7o {b : UInt8} (h : qtE b = true) : (qtB b).length = 2:=by
 unfold qtE at h
 unfold qtB
 repeat' split
 all_goals first | rfl | (exfalso; simp_all)
theorem a1N {b : UInt8} (h : qtE b = false) : qtB b = [b]:=by
 unfold qtE at h
 unfold qtB
 repeat' split
 all_goals first | rfl | (exfalso; simp_all)
theorem a4L : ∀ s : List UInt8,(qtT s).length = s.length + s.countP qtE
 | []=>rfl
 | b :: s=>by
   have ih:=a4L s
   unfold qtT at ih ⊢
   rw [List.flatMap_cons,List.length_append,ih,List.countP_cons,List.length_cons]
   cases h : qtE b with
   | true=>rw [b7o h,if_pos rfl]; omega
   | false=>rw [a1N h,if_neg (by decide)]; simp; omega
theorem a4M : ∀ {s : List UInt8},s.countP qtE = 0 -> qtT s = s
 | [],_=>rfl
 | b :: s,h=>by
   rw [List.countP_cons] at h
   cases hb : qtE b with
   | true=>rw [hb,if_pos rfl] at h; omega
   | false =>
     have ih:=a4M (s:=s) (by omega)
     unfold qtT at ih ⊢
     rw [List.flatMap_cons,ih,a1N hb]; rfl
theorem a7R : ∀ s : List UInt8,s.countP qtE = s.count 10 + s.count 92 + s.count 34
 | []=>rfl
 | b :: s=>by
   have ih:=a7R s
   rw [List.countP_cons,ih,List.count_cons,List.count_cons,List.count_cons]
   unfold qtE
   by_cases h1 : b = 34
   . subst h1; simp; omega
   by_cases h2 : b = 92
   . subst h2; simp; omega
   by_cases h3 : b = 10
   . subst h3; simp; omega
   simp [h1,h2,h3]
theorem b4s (s : List UInt8) {i : Nat} (h : i < s.length) : qtT (s.take (i + 1)) = qtT (s.take i) ++ qtB s[i]:=by
 unfold qtT
 rw [List.take_succ_eq_append_getElem h,List.flatMap_append]
 simp
theorem b8k {b : Nat} (h : b < 256) : ∃ r,rpD.drop b = rpC b :: r:=by
 unfold rpD
 rw [List.drop_append_of_le_length (by simp; omega),List.drop_eq_getElem_cons (by simpa using h),List.getElem_map,List.getElem_range]
 exact ⟨_,rfl⟩
theorem a4D (s : List UInt8) (c : UInt8) : Meets Tryz.prog 185 [.str s,.str [c]] λ d=>d = iD (s.count c):=by
 refine Meets.below ⟨Tryz.f185,_,Tryz.func185,rfl,by kernel_rfl⟩ λ V W xs hS hx=>?_
 obtain ⟨u,w,rfl,h1,h2⟩:=hx.two
 obtain ⟨rfl,hl⟩:=h1.str_inv
 obtain ⟨rfl,_⟩:=h2.str_inv
 refine (Tryz.strings_Count_one ⟨⟨s⟩⟩ c W).mono ?_
 rintro e W' ⟨rfl,rfl⟩
 refine ⟨_,rfl,.refl _ _,Rep.int (b1Q ?_)⟩
 exact Nat.le_trans (List.count_le_length ..) hl
theorem u8n {b : UInt8} : ((b = 34) ↔ b.toNat = 34) /\ ((b = 92) ↔ b.toNat = 92) /\ ((b = 10) ↔ b.toNat = 10) :=
 ⟨⟨λ h=>by rw [h]; rfl,λ h=>UInt8.toNat_inj.1 h⟩,⟨λ h=>by rw [h]; rfl,λ h=>UInt8.toNat_inj.1 h⟩,⟨λ h=>by rw [h]; rfl,λ h=>UInt8.toNat_inj.1 h⟩⟩
theorem b0w {b : UInt8} (h : qtE b = true) : ∃ z,qtB b = [92,z] /\ rpC b.toNat = .sl (d9 [92,z]):=by
 obtain ⟨e1,e2,e3⟩:=u8n (b:=b)
 unfold qtE at h
 unfold qtB rpC
 by_cases h1 : b = 34
 . exact ⟨34,by rw [if_pos h1],by rw [if_pos (e1.1 h1)]⟩
 by_cases h2 : b = 92
 . exact ⟨92,by rw [if_neg h1,if_pos h2],by rw [if_neg (λ g=>h1 (e1.2 g)),if_pos (e2.1 h2)]⟩
 by_cases h3 : b = 10
 . exact ⟨110,by rw [if_neg h1,if_neg h2,if_pos h3],by rw [if_neg (λ g=>h1 (e1.2 g)),if_neg (λ g=>h2 (e2.2 g)),if_pos (e3.1 h3)]⟩
 . simp [h1,h2,h3] at h
theorem b0v {b : UInt8} (h : qtE b = false) : rpC b.toNat = .raw (.slice none 0 0):=by
 obtain ⟨e1,e2,e3⟩:=u8n (b:=b)
 unfold qtE at h
 simp only [Bool.or_eq_false_iff,decide_eq_false_iff_not] at h
 unfold rpC
 rw [if_neg (λ g=>h.1 (e1.2 g)),if_neg (λ g=>h.2.1 (e2.2 g)),if_neg (λ g=>h.2.2 (e3.2 g))]
theorem b3z {s : List UInt8} {i : Nat} (h : i < s.length) : (s.take (i + 1)).countP qtE = (s.take i).countP qtE + if qtE s[i] then 1 else 0:=by
 rw [List.take_succ_eq_append_getElem h,List.countP_append]
 simp [List.countP_cons]
def quX (s : List UInt8) (i : Nat) : List (List D):=d9 (qtT (s.take i)) ++ List.replicate ((qtT s).length - (qtT (s.take i)).length) [.v (.int .u8 0)]
theorem b0g (s : List UInt8) : quX s 0 = List.replicate ((qtT s).length : Int).toNat [.v (.int .u8 0)]:=by
 unfold quX
 simp [qtT,d9]
theorem b0c (s : List UInt8) (i : Nat) : (qtT (s.take i)).length <= (qtT s).length:=by
 have h : qtT s = qtT (s.take i) ++ qtT (s.drop i):=by
  unfold qtT
  rw [<- List.flatMap_append,List.take_append_drop]
 rw [h,List.length_append]
 omega
theorem b0f (s : List UInt8) (i : Nat) : (quX s i).length = (qtT s).length:=by
 have:=b0c s i
 unfold quX d9
 rw [List.length_append,List.length_map,List.length_replicate]
 omega
theorem b0e {s : List UInt8} {i : Nat} (h : i < s.length) : qtT (s.take (i + 1)) = qtT (s.take i) ++ qtB s[i] /\ (qtT (s.take i)).length + (qtB s[i]).length <= (qtT s).length:=by
 have e:=b4s s h
 have:=b0c s (i + 1)
 rw [e,List.length_append] at this
 exact ⟨e,this⟩
theorem b8G {α : Type} (cs vs : List α) (off : Nat) (h : off + vs.length <= cs.length) : setRun cs off vs = cs.take off ++ vs ++ cs.drop (off + vs.length):=by
 apply List.ext_getElem?
 intro j
 rw [z7 _ _ _ _ h]
 by_cases h1 : off <= j /\ j < off + vs.length
 . rw [if_pos h1,List.append_assoc,List.getElem?_append_right (by simp; omega),List.getElem?_append_left (by simp; omega)]
   congr 1
   simp; omega
 . rw [if_neg h1]
   by_cases h2 : j < off
   . rw [List.append_assoc,List.getElem?_append_left (by simp; omega),List.getElem?_take,if_pos h2]
   . rw [List.getElem?_append_right (by simp; omega),List.getElem?_drop]
     congr 1
     simp; omega
theorem a3o {s : List UInt8} {i : Nat} (h : i < s.length) {y : List UInt8} (hy : qtB s[i] = y) : setRun (quX s i) (qtT (s.take i)).length (d9 y) = quX s (i + 1):=by
 obtain ⟨h1,h2⟩:=b0e h
 have hl:=b0f s i
 have hb : (d9 y).length = y.length:=by simp [d9]
 have ha : (d9 (qtT (s.take i))).length = (qtT (s.take i)).length:=by simp [d9]
 rw [hy] at h1 h2
 rw [b8G _ _ _ (by rw [hl,hb]; exact h2),hb]
 unfold quX
 rw [h1,List.take_left' ha,<- ha,List.drop_append,List.drop_eq_nil_of_le (by omega),List.nil_append,List.drop_replicate]
 unfold d9
 rw [List.map_append]
 congr 2
 simp only [List.length_append,List.length_map]
 omega
theorem b7q {s : List UInt8} {i : Nat} (h : (qtT (s.take i)).length < (qtT s).length) : (quX s i)[(qtT (s.take i)).length]? = some [.v (.int .u8 0)]:=by
 have ha : (d9 (qtT (s.take i))).length = (qtT (s.take i)).length:=by simp [d9]
 unfold quX
 rw [List.getElem?_append_right (by omega),ha,Nat.sub_self,List.getElem?_replicate,if_pos (by omega)]
theorem b8d (s : List UInt8) (hs : s.length <= 1099511627776) : Meets Tryz.prog 258 [.ptr rpD 0,.str s] λ d=>d = .str (qtT s):=by
 have hd:=λ (b : Nat) (h : b < 256)=>b8k h
 have hcnt:=a7R s
 have c1:=a4D s 10
 have c2:=a4D s 92
 have c3:=a4D s 34
 have n1:=List.count_le_length (a:=(10 : UInt8)) (l:=s)
 have n2:=List.count_le_length (a:=(92 : UInt8)) (l:=s)
 have n3:=List.count_le_length (a:=(34 : UInt8)) (l:=s)
 have hlen:=a4L s
 refine enter tok {} Tryz.func258 rfl (by kernel_rfl) Tryz.ntmps258 (by simp) λ B0 W0 V0 lent g0=>?_
 ((conv=>whnf); repeat' ((fail_if_success (refine M9 3 ?_)); refine Z rfl ?_;conv=>whnf))
 repeat' ((first | (intro hlq; (try simp only [SL] at hlq)) | refine Ks ?_ | refine Kq ?_ | refine Kt ?_ | refine Ka ?_ | refine Kb ?_ | refine Kc (hd:=rfl) (e:=?_) | refine Kc (hd:=d7 _) (e:=?_) | refine Kd (e:=?_) | refine Kl rfl ?_ | fail) <;> ((conv=>whnf); repeat' ((fail_if_success (refine M9 3 ?_)); refine Z rfl ?_;conv=>whnf)))
 refine a4f (a4E tok (cf:={}) (X:=Int × Bool) (λ x=>⟨[(6,.d (bD x.2)),(5,iB x.1),(4,.d (.str [])),(1,.d (.str s)),(0,.d (.ptr rpD 0))],[],[]⟩) (λ x=>x.1 = ((qtT s).length : Int) /\ (x.2 = false -> qtT s = s)) ?_ (λ x hx=>?_))
 . conv => whnf
   repeat' ((first | (intro hlq; clear hlq) | refine ⟨λ _=>?_,λ h=>absurd h (by decide)⟩ | refine ⟨λ h=>absurd h (by decide),λ _=>?_⟩ | refine ⟨λ _ _=>i64 (by decide) (by decide),?_⟩ | refine ⟨_,⟨by decide,rfl,rfl⟩,?_⟩ | refine I8 tok {} ?_ | fail) <;> ((conv=>whnf);repeat'(refine Z rfl ?_;conv=>whnf)))
   refine ⟨λ h24=>?_,λ h24=>?_⟩ <;> (try simp only [BL] at h24) <;> ((conv=>whnf);repeat'(refine Z rfl ?_;conv=>whnf))
   . repeat' ((first | (intro hlq; clear hlq) | refine ⟨λ _=>?_,λ h=>absurd h (by decide)⟩ | refine ⟨λ h=>absurd h (by decide),λ _=>?_⟩ | refine ⟨λ _ _=>i64 (by decide) (by decide),?_⟩ | refine ⟨_,⟨by decide,rfl,rfl⟩,?_⟩ | refine I8 tok {} ?_ | fail) <;> ((conv=>whnf);repeat'(refine Z rfl ?_;conv=>whnf)))
     refine a4e tok {} 4 ?_
     ((conv=>whnf);repeat'(refine Z rfl ?_;conv=>whnf))
     repeat' ((first | (refine Meets.k c1 ?_) | (refine Meets.k c2 ?_) | (refine Meets.k c3 ?_) | (intro hlq; clear hlq) | refine ⟨λ _=>?_,λ h=>absurd h (by decide)⟩ | refine ⟨λ h=>absurd h (by decide),λ _=>?_⟩ | refine ⟨λ _ _=>i64 (by decide) (by decide),?_⟩ | refine ⟨_,⟨by decide,rfl,rfl⟩,?_⟩ | refine I8 tok {} ?_ | (refine k9 tok (cf:={}) (by kernel_rfl) [.p 0,.p 1,.p 2,.p 3,.p 4,.p 5,.p 6,.p 7,.p 8,.p 9,.p 10,.p 11,.p 12,.p 13] (by kernel_rfl) ?_) | (refine ⟨_,⟨by decide,rfl⟩,?_⟩) | (refine ⟨by decide,?_⟩) | (refine ⟨λ _ _=>i64 (by (simp only [d9,List.length_map,List.length_cons,List.length_nil]; omega)) (by (simp only [d9,List.length_map,List.length_cons,List.length_nil]; omega)),?_⟩) | ((refine ⟨λ (hb : _ = true)=>?_,λ (hb : _ = false)=>?_⟩ <;> simp only [BB] at hb)) | fail) <;> ((conv=>whnf);repeat'(refine Z rfl ?_;conv=>whnf)))
     all_goals
      first
       | (refine ⟨⟨(((qtT s).length : Int),true),?_,rfl,λ h=>by cases h⟩⟩
          repeat' (first | exact True.intro | exact rfl | refine And.intro ?_ ?_ | exact congrArg (λ n : Int=>iD n) (by simp only [d9,List.length_map,List.length_cons,List.length_nil]; omega))
          done)
       | (refine ⟨⟨(((qtT s).length : Int),false),?_,rfl,λ _=>a4M (by omega)⟩⟩
          repeat' (first | exact True.intro | exact rfl | refine And.intro ?_ ?_ | exact congrArg (λ n : Int=>iD n) (by simp only [d9,List.length_map,List.length_cons,List.length_nil]; omega))
          done)
   . refine m9 tok {} [] (X:=Nat × Bool) (λ x=>[(10,iB x.1),(5,iB ((s.length : Int) + ((s.take x.1).countP qtE : Int))),(6,.d (bD x.2))]) (λ _=>[]) [] (λ x=>x.1 <= s.length /\ (x.2 = false -> (s.take x.1).countP qtE = 0)) (λ x=>s.length - x.1) (0,false) ?_
     ((conv=>whnf);repeat'(refine Z rfl ?_;conv=>whnf))
     refine And.intro ?_ ⟨⟨by omega,by simp⟩,λ x hΦ=>?_⟩
     . repeat' (first | exact True.intro | exact rfl | refine And.intro ?_ ?_ | (exact congrArg (λ n : Int=>iD n) (by simp)))
     obtain ⟨i,c⟩:=x
     obtain ⟨hi,hc⟩:=hΦ
     dsimp only at hi hc
     ((conv=>whnf);repeat'(refine Z rfl ?_;conv=>whnf))
     repeat' ((first | (intro hlq; (try simp only [SL] at hlq)) | refine Ks ?_ | refine Kq ?_ | refine Kt ?_ | refine Ka ?_ | refine Kb ?_ | refine Kc (hd:=rfl) (e:=?_) | refine Kc (hd:=d7 _) (e:=?_) | refine Kd (e:=?_) | refine Kl rfl ?_ | fail) <;> ((conv=>whnf);repeat'(refine Z rfl ?_;conv=>whnf)))
     refine ⟨λ h1=>?_,λ h1=>?_⟩ <;> (try simp only [BL] at h1) <;> ((conv=>whnf);repeat'(refine Z rfl ?_;conv=>whnf))
     . have h1' : i < s.length:=by omega
       have hb:=s[i].toNat_lt
       have hcs:=b3z h1'
       have hcl : (s.take i).countP qtE <= i:=Nat.le_trans (List.countP_le_length) (by rw [List.length_take]; omega)
       obtain ⟨r,hr⟩:=hd s[i].toNat (by omega)
       refine ⟨s[i],⟨by omega,by simp⟩,?_⟩
       ((conv=>whnf);repeat'(refine Z rfl ?_;conv=>whnf))
       cases hq : qtE s[i] with
       | true =>
         obtain ⟨z,hz1,hz2⟩:=b0w hq
         rw [hz2] at hr
         rw [hq,if_pos rfl] at hcs
         refine ⟨by omega,?_⟩
         ((conv=>whnf);repeat'(refine Z rfl ?_;conv=>whnf))
         generalize hE : List.drop _ _ = E
         obtain rfl : E = _:=hE.symm.trans (Eq.trans (congrArg (λ k=>List.drop k rpD) (by dsimp only; omega)) hr)
         clear hE
         ((conv=>whnf);repeat'(refine Z rfl ?_;conv=>whnf))
         refine ⟨by omega,?_⟩
         ((conv=>whnf);repeat'(refine Z rfl ?_;conv=>whnf))
         generalize hE : List.drop _ _ = E
         obtain rfl : E = _:=hE.symm.trans (Eq.trans (congrArg (λ k=>List.drop k rpD) (by dsimp only; omega)) hr)
         clear hE
         ((conv=>whnf);repeat'(refine Z rfl ?_;conv=>whnf))
         repeat' ((first | (intro hlq; clear hlq) | refine ⟨λ _=>?_,λ h=>absurd h (by decide)⟩ | refine ⟨λ h=>absurd h (by decide),λ _=>?_⟩ | refine ⟨λ _ _=>i64 (by decide) (by decide),?_⟩ | refine ⟨_,⟨by decide,rfl,rfl⟩,?_⟩ | refine I8 tok {} ?_ | (refine ⟨λ _ _=>i64 (by (simp only [d9,List.length_map,List.length_cons,List.length_nil]; omega)) (by (simp only [d9,List.length_map,List.length_cons,List.length_nil]; omega)),?_⟩) | (refine Ka ?_) | (refine Kb ?_) | fail) <;> ((conv=>whnf);repeat'(refine Z rfl ?_;conv=>whnf)))
         refine ⟨⟨(i + 1,true),?_,⟨by dsimp only; omega,λ h=>by cases h⟩,by dsimp only; omega⟩⟩
         repeat' (first | exact True.intro | exact rfl | refine And.intro ?_ ?_ | (exact congrArg (λ n : Int=>iD n) (by simp only [d9,List.length_map,List.length_cons,List.length_nil]; omega)))
       | false =>
         rw [b0v hq] at hr
         rw [hq,if_neg (by decide)] at hcs
         refine ⟨by omega,?_⟩
         ((conv=>whnf);repeat'(refine Z rfl ?_;conv=>whnf))
         generalize hE : List.drop _ _ = E
         obtain rfl : E = _:=hE.symm.trans (Eq.trans (congrArg (λ k=>List.drop k rpD) (by dsimp only; omega)) hr)
         clear hE
         ((conv=>whnf);repeat'(refine Z rfl ?_;conv=>whnf))
         repeat' ((first | (intro hlq; (try simp only [SL] at hlq)) | refine Ks ?_ | refine Kq ?_ | refine Kt ?_ | refine Ka ?_ | refine Kb ?_ | refine Kc (hd:=rfl) (e:=?_) | refine Kc (hd:=d7 _) (e:=?_) | refine Kd (e:=?_) | refine Kl rfl ?_ | fail) <;> ((conv=>whnf);repeat'(refine Z rfl ?_;conv=>whnf)))
         refine ⟨⟨(i + 1,c),?_,⟨by dsimp only; omega,λ h=>by dsimp only; rw [hcs,hc h]⟩,by dsimp only; omega⟩⟩
         repeat' (first | exact True.intro | exact rfl | refine And.intro ?_ ?_ | (exact congrArg (λ n : Int=>iD n) (by dsimp only; omega)))
     . have : i = s.length:=by omega
       subst this
       rw [List.take_length] at hc
       refine ⟨⟨(((qtT s).length : Int),c),?_,rfl,λ h=>a4M (hc h)⟩⟩
       repeat' (first | exact True.intro | exact rfl | refine And.intro ?_ ?_ | (exact congrArg (λ n : Int=>iD n) (by rw [List.take_length,hlen]; omega)))
 obtain ⟨n,c⟩:=x
 obtain ⟨hx1,hx2⟩:=hx
 dsimp only at hx1 hx2
 subst hx1
 conv=>whnf
 cases c with
 | false =>
   ((conv=>whnf);repeat'(refine Z rfl ?_;conv=>whnf))
   refine ⟨λ _=>?_,λ h=>Bool.noConfusion (show true = false from h)⟩
   ((conv=>whnf);repeat'(refine Z rfl ?_;conv=>whnf))
   refine ⟨?_⟩
   rw [hx2 rfl]
 | true =>
   clear c1 c2 c3
   ((conv=>whnf);repeat'(refine Z rfl ?_;conv=>whnf))
   refine ⟨λ h=>Bool.noConfusion (show false = true from h),λ _=>?_⟩
   ((conv=>whnf);repeat'(refine Z rfl ?_;conv=>whnf))
   refine ⟨⟨rfl,⟨by decide,by decide⟩,rfl,by dsimp only; omega,by dsimp only; omega,by dsimp only; omega⟩,?_⟩
   ((conv=>whnf);repeat'(refine Z rfl ?_;conv=>whnf))
   refine m9 tok {} [] (X:=Nat) (λ i=>[(14,iB i),(13,iB ((qtT (s.take i)).length))]) (λ i=>[(85,.sl ⟨5,1,quX s i,false⟩)]) [] (λ i=>i <= s.length) (λ i=>s.length - i) 0 ?_
   ((conv=>whnf);repeat'(refine Z rfl ?_;conv=>whnf))
   refine And.intro ?_ ⟨by omega,λ i hi=>?_⟩
   . repeat' (first | exact True.intro | exact rfl | refine And.intro ?_ ?_ | (exact (b0g s).symm) | (exact b0g s))
   ((conv=>whnf);repeat'(refine Z rfl ?_;conv=>whnf))
   repeat' ((first | (intro hlq; (try simp only [SL] at hlq)) | refine Ks ?_ | refine Kq ?_ | refine Kt ?_ | refine Ka ?_ | refine Kb ?_ | refine Kc (hd:=rfl) (e:=?_) | refine Kc (hd:=d7 _) (e:=?_) | refine Kd (e:=?_) | refine Kl rfl ?_ | fail) <;> ((conv=>whnf);repeat'(refine Z rfl ?_;conv=>whnf)))
   refine ⟨λ h1=>?_,λ h1=>?_⟩ <;> (try simp only [BL] at h1) <;> ((conv=>whnf);repeat'(refine Z rfl ?_;conv=>whnf))
   . have h1' : i < s.length:=by omega
     have hb:=s[i].toNat_lt
     obtain ⟨r,hr⟩:=hd s[i].toNat (by omega)
     have hql:=b0f s i
     have hst:=b0e h1'
     refine ⟨s[i],⟨by omega,by simp⟩,?_⟩
     ((conv=>whnf);repeat'(refine Z rfl ?_;conv=>whnf))
     cases hq : qtE s[i] with
     | true =>
       obtain ⟨z,hz1,hz2⟩:=b0w hq
       rw [hz2] at hr
       refine ⟨by omega,?_⟩
       ((conv=>whnf);repeat'(refine Z rfl ?_;conv=>whnf))
       generalize hE : List.drop _ _ = E
       obtain rfl : E = _:=hE.symm.trans (Eq.trans (congrArg (λ k=>List.drop k rpD) (by dsimp only; omega)) hr)
       clear hE
       ((conv=>whnf);repeat'(refine Z rfl ?_;conv=>whnf))
       have h2 : (qtB s[i]).length = 2:=by rw [hz1]; rfl
       refine k9 tok (cf:={}) (by kernel_rfl) [.p 0,.p 1,.p 2,.p 3,.p 4,.p 5,.p 6,.p 7,.p 8,.p 9,.s 10 [3,9,1,2,8,7,5,6,4],.p 11,.p 12] (by kernel_rfl) ?_
       ((conv=>whnf);repeat'(refine Z rfl ?_;conv=>whnf))
       refine ⟨λ _=>⟨Int.natCast_nonneg _,by (show _ <= ((quX s i).length : Int)); rw [hql]; omega,Int.le_refl _,by (show _ < ((quX s i).length : Int)); rw [hql]; omega,rfl⟩,?_⟩
       ((conv=>whnf);repeat'(refine Z rfl ?_;conv=>whnf))
       refine ⟨by omega,?_⟩
       ((conv=>whnf);repeat'(refine Z rfl ?_;conv=>whnf))
       generalize hE : List.drop _ _ = E
       obtain rfl : E = _:=hE.symm.trans (Eq.trans (congrArg (λ k=>List.drop k rpD) (by dsimp only; omega)) hr)
       clear hE
       ((conv=>whnf);repeat'(refine Z rfl ?_;conv=>whnf))
       refine ⟨⟨rfl,by (dsimp only; rw [hql]; omega),by (dsimp only; rw [hql]; omega)⟩,?_⟩
       ((conv=>whnf);repeat'(refine Z rfl ?_;conv=>whnf))
       refine ⟨⟨by simp [d9],by (dsimp only; rw [hql]; omega),rfl,λ ds hds=>?_⟩,?_⟩
       . simp [d9] at hds
         rcases hds with rfl | rfl <;> rfl
       ((conv=>whnf);repeat'(refine Z rfl ?_;conv=>whnf))
       have hm : (d9 [92,z]).length.min (((quX s i).length : Int).toNat - ((qtT (s.take i)).length : Int).toNat) = 2:=by
        rw [hql]
        exact Nat.min_eq_left (by show 2 <= _; omega)
       have ht : (d9 [92,z]).take (((quX s i).length : Int).toNat - ((qtT (s.take i)).length : Int).toNat) = d9 [92,z]:=List.take_of_length_le (by rw [hql]; show 2 <= _; omega)
       refine ⟨λ _ _=>i64 (by dsimp only; rw [hm]; omega) (by dsimp only; rw [hm]; omega),?_⟩
       ((conv=>whnf);repeat'(refine Z rfl ?_;conv=>whnf))
       repeat' (first | (refine Kl rfl ?_; ((conv=>whnf);repeat'(refine Z rfl ?_;conv=>whnf))) | fail)
       repeat' ((first | (intro hlq; (try simp only [SL] at hlq)) | refine Ks ?_ | refine Kq ?_ | refine Kt ?_ | refine Ka ?_ | refine Kb ?_ | refine Kc (hd:=rfl) (e:=?_) | refine Kc (hd:=d7 _) (e:=?_) | refine Kd (e:=?_) | refine Kl rfl ?_ | fail) <;> ((conv=>whnf);repeat'(refine Z rfl ?_;conv=>whnf)))
       refine ⟨⟨i + 1,?_,by omega,by omega⟩⟩
       repeat' (first | exact True.intro | exact rfl | refine And.intro ?_ ?_ | (exact congrArg (λ n : Int=>iD n) (by dsimp only; rw [hm,hst.1,List.length_append,h2]; omega)) | (exact (by dsimp only; rw [ht,Int.toNat_natCast]; exact (a3o h1' hz1).symm)) | (exact (by dsimp only; rw [ht,Int.toNat_natCast]; exact (a3o h1' hz1))))
     | false =>
       rw [b0v hq] at hr
       refine ⟨by omega,?_⟩
       ((conv=>whnf);repeat'(refine Z rfl ?_;conv=>whnf))
       generalize hE : List.drop _ _ = E
       obtain rfl : E = _:=hE.symm.trans (Eq.trans (congrArg (λ k=>List.drop k rpD) (by dsimp only; omega)) hr)
       clear hE
       ((conv=>whnf);repeat'(refine Z rfl ?_;conv=>whnf))
       have h2 : (qtB s[i]).length = 1:=by rw [a1N hq]; rfl
       refine ⟨⟨Int.natCast_nonneg _,by (dsimp only; rw [hql]; omega),rfl⟩,?_⟩
       ((conv=>whnf);repeat'(refine Z rfl ?_;conv=>whnf))
       refine ⟨[.v (.int .u8 0)],⟨by (dsimp only; rw [Int.toNat_natCast]; exact b7q (by omega)),rfl,Nat.le_refl _⟩,?_⟩
       ((conv=>whnf);repeat'(refine Z rfl ?_;conv=>whnf))
       repeat' ((first | (intro hlq; (try simp only [SL] at hlq)) | refine Ks ?_ | refine Kq ?_ | refine Kt ?_ | refine Ka ?_ | refine Kb ?_ | refine Kc (hd:=rfl) (e:=?_) | refine Kc (hd:=d7 _) (e:=?_) | refine Kd (e:=?_) | refine Kl rfl ?_ | fail) <;> ((conv=>whnf);repeat'(refine Z rfl ?_;conv=>whnf)))
       refine ⟨⟨i + 1,?_,by omega,by omega⟩⟩
       repeat' (first | exact True.intro | exact rfl | refine And.intro ?_ ?_ | (exact congrArg (λ n : Int=>iD n) (by (try dsimp only); rw [hst.1,List.length_append,h2]; omega)) | (exact (by dsimp only; rw [Int.toNat_natCast]; exact (a3o h1' (a1N hq)).symm)) | (exact (by dsimp only; rw [Int.toNat_natCast]; exact (a3o h1' (a1N hq)))))
   . obtain rfl : i = s.length:=by omega
     have hend : quX s s.length = d9 (qtT s):=by
      unfold quX
      rw [List.take_length,Nat.sub_self,List.replicate_zero,List.append_nil]
     refine ⟨qtT s,hend,?_⟩
     ((conv=>whnf);repeat'(refine Z rfl ?_;conv=>whnf))
     exact ⟨rfl⟩
end Go.Proofs.YtaopegkpjhkooaaGreatDoor.Dx
/- Chapter 06: strings.Replacer.Replace; what Join writes for a token. -/
namespace Go.Proofs.YtaopegkpjhkooaaGreatDoor.Dx
open Go Go.RowKit
set_option maxRecDepth 100000
set_option maxHeartbeats 16000000
theorem b8e (s : List UInt8) (hs : s.length <= 1099511627776) : MeetsR Tryz.prog 52 [.loc 6000 0,.d (.str s)] (rpO 0 0 (.v .nilIface) (.sl B1)) λ o O'=>o = .ret (.d (.str (qtT s))) /\ O' = rpO 1 0 rpI (.sl []):=by
 have hr:=b8d s hs
 have hd:=b4f
 revert hr hd
 unfold rpI
 generalize rpD = q
 intro hr hd
 refine i6 tok {rs:=[10]} Tryz.func52 rfl (by kernel_rfl) Tryz.ntmps52 (by simp) λ B0 W0 V0 lent g0=>?_
 ((conv=>whnf);repeat'(refine Y {rs:=[10]} rfl ?_;conv=>whnf))
 refine ⟨rpO 0 0 (.v .nilIface) (.sl B1),_,⟨?_,?_⟩,hd.mono ?_⟩
 . exact Kr
 . exact Kr
 rintro _ O2 ⟨rfl,rfl⟩
 ((conv=>whnf);repeat'(refine Y {rs:=[10]} rfl ?_;conv=>whnf))
 refine ⟨258,λ W x=>by kernel_rfl,?_⟩
 ((conv=>whnf);repeat'(refine Y {rs:=[10]} rfl ?_;conv=>whnf))
 refine Meets.k hr ?_
 ((conv=>whnf);repeat'(refine Y {rs:=[10]} rfl ?_;conv=>whnf))
 refine ⟨rpO 1 0 (.iface 236 (.ptr q 0)) (.sl []),.d (.str (qtT s)),?_,⟨rfl,rfl⟩⟩
 repeat' (first | exact True.intro | exact rfl | refine And.intro ?_ ?_)
end Go.Proofs.YtaopegkpjhkooaaGreatDoor.Dx
