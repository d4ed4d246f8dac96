/- Tokens in the code. -/
import Derived.Test.YtaopegkpjhkooaaGreatDoorDv
set_option linter.all false
namespace Go.Proofs.YtaopegkpjhkooaaGreatDoor.Dx
open Go Go.RowKit Go.Proofs
set_option maxRecDepth 100000
set_option maxHeartbeats 1000000
def tkC (t : Tk) : List D:=[iD t.kind,.str t.text,iD t.at_]
def prC (y : Nat) : List D:=[iD y,iD 50]
abbrev a0M (src : List UInt8) : D:=.tup [.sl ((toks src 0).map tkC),.sl ((bads src 0 (-1) 0).map prC),iD 0]
structure TAt (src : List UInt8) (a : Nat) (acc : List Tk) (nb : List Nat) (en : Int) : Prop where
 le : a <= src.length
 tl : acc.length <= a
 bl : nb.length <= a
 en0 : -1 <= en /\ en <= src.length
 tk : acc ++ toks (src.drop a) a = toks src 0
 bd : nb ++ bads (src.drop a) a en nb.length = bads src 0 (-1) 0
theorem TAt.zero (src : List UInt8) : TAt src 0 [] [] (-1):=⟨Nat.zero_le _,Nat.le_refl _,Nat.le_refl _,by omega,rfl,rfl⟩
theorem TAt.step {src : List UInt8} {a : Nat} {acc : List Tk} {nb : List Nat} {en : Int} (h : TAt src a acc nb en) (ha : a < src.length) {k : Nat} {s : List UInt8} {n : Nat} (hs : g6 (src.drop a) = (k,s,n)) :
 1 <= n /\ a + n <= src.length /\ (F9 k = true -> k ≠ 0 -> TAt src (a + n) (acc ++ [⟨k,s,a⟩]) nb en) /\ (F9 k = false -> k ≠ 0 -> TAt src (a + n) acc nb en) /\
   (k = 0 -> ((a : Int) ≠ en /\ nb.length < 64 -> TAt src (a + n) acc (nb ++ [a]) (a + n : Nat)) /\ (¬ ((a : Int) ≠ en /\ nb.length < 64) -> TAt src (a + n) acc nb (a + n : Nat))):=by
 have hd:=List.drop_eq_getElem_cons ha
 rw [hd] at hs
 have hle:=T1 src[a] (src.drop (a + 1))
 rw [hs,List.length_drop] at hle
 dsimp only at hle
 have htk:=h.tk
 have hbd:=h.bd
 rw [hd,a0O,hs] at htk
 rw [hd,a4p,hs] at hbd
 have hdd : (src[a] :: src.drop (a + 1)).drop n = src.drop (a + n):=by rw [<- hd,List.drop_drop]
 dsimp only at htk hbd
 rw [hdd] at htk hbd
 have h1:=h.le; have h2:=h.tl; have h3:=h.bl; have h4:=h.en0
 refine ⟨hle.1,by omega,λ hk h0=>?_,λ hk h0=>?_,λ h0=>⟨λ hc=>?_,λ hc=>?_⟩⟩
 . rw [if_pos hk] at htk; rw [if_neg h0] at hbd
   exact ⟨by omega,by simp; omega,by omega,h4,by rw [List.append_assoc]; exact htk,hbd⟩
 . rw [if_neg (by rw [hk]; decide)] at htk; rw [if_neg h0] at hbd
   exact ⟨by omega,by omega,by omega,h4,htk,hbd⟩
 . subst h0
   rw [if_neg (by decide)] at htk; rw [if_pos rfl,if_pos hc] at hbd
   exact ⟨by omega,by omega,by simp; omega,by omega,htk,by rw [List.append_assoc,List.length_append]; exact hbd⟩
 . subst h0
   rw [if_neg (by decide)] at htk; rw [if_pos rfl,if_neg hc] at hbd
   exact ⟨by omega,by omega,by omega,by omega,htk,hbd⟩
theorem b7L (c : UInt8) (t : List UInt8) : (l5 (c :: t)).1 <= 5:=by
 simp only [l5,G5]
 repeat' split
 all_goals (dsimp only; omega)
theorem a7M (b : UInt8) : (cls b.toNat = 1) ↔ blB b = true:=by
 rw [<- (a0f b).2.2.2]; simp
theorem b9c {src : List UInt8} {j : Nat} (hj : j < src.length) (hb : blB src[j] = true) : g6 (src.drop j) = (7,[],1):=by
 rw [List.drop_eq_getElem_cons hj,g6,if_pos hb]
theorem b9d {src : List UInt8} {j : Nat} (hj : j < src.length) (hb : src[j] = 35) : g6 (src.drop j) = (7,[],E3 (src.drop j)):=by
 rw [List.drop_eq_getElem_cons hj,g6,hb,if_neg (by decide),if_pos rfl,E3,if_neg (by decide)]
theorem b9i {src : List UInt8} {j : Nat} (hj : j < src.length) (hb : blB src[j] = false) (hc : src[j] ≠ 35) : g6 (src.drop j) = l5 (src.drop j):=by
 rw [List.drop_eq_getElem_cons hj,g6,if_neg (by rw [hb]; decide),if_neg hc]
theorem a6a {src : List UInt8} {q : Nat} (hq : q < src.length) : ((src[q].toNat : Int) = 10 -> E3 (src.drop q) = 0) /\ (¬ (src[q].toNat : Int) = 10 -> E3 (src.drop q) = E3 (src.drop (q + 1)) + 1):=by
 have h10 : src[q] = 10 ↔ (src[q].toNat : Int) = 10:=M7 (n:=10) (by decide)
 rw [List.drop_eq_getElem_cons hq,E3]
 exact ⟨λ h=>if_pos (h10.2 h),λ h=>if_neg (λ e=>h (h10.1 e))⟩
theorem b8Q {src : List UInt8} : E3 (src.drop src.length) = 0:=by rw [List.drop_length]; rfl
theorem Kst {src : List UInt8} {a : Int} {E : Prop} (e : E) : 0 + 1 < (scB src a).length /\ E:=⟨by show _ < (n4 cls).length + 1 + 1; rw [M4]; omega,e⟩
theorem b7Q : Meets Tryz.prog 44 [] λ d=>d = .sl b0m:=by
 refine enter tok {} Tryz.func44 rfl (by kernel_rfl) Tryz.ntmps44 (by simp) λ B0 W0 V0 lent g0=>?_
 ((conv=>whnf);repeat'(refine Z rfl ?_;conv=>whnf))
 repeat' ((first | (intro hlq; (try simp only [SL] at hlq)) | refine Ks ?_ | refine Kq ?_ | refine Kt ?_ | refine Ka ?_ | refine Kb ?_ | refine Kc (hd:=rfl) (e:=?_) | refine Kc (hd:=d7 _) (e:=?_) | refine Kd (e:=?_) | refine Kl rfl ?_ | fail) <;> ((conv=>whnf);repeat'(refine Z rfl ?_;conv=>whnf)))
 exact ⟨rfl⟩
abbrev l9 : Cfg:={sym:=[18],rs:=[32,82,88]}
theorem R2 (hT : s8) (src : List UInt8) (hl : src.length <= 65536) : Meets Tryz.prog 23 [.sl (d9 src)] λ d=>d = a0M src:=by
 refine enter tok l9 Tryz.func23 rfl (by kernel_rfl) Tryz.ntmps23 (by simp) λ B0 W0 V0 lent g0=>?_
 ((conv=>whnf); repeat' ((fail_if_success (refine T9 3 ?_)); (fail_if_success (refine M9 3 ?_)); refine Y l9 rfl ?_;conv=>whnf))
 refine b2j ?_
 ((conv=>whnf); repeat' ((fail_if_success (refine T9 3 ?_)); (fail_if_success (refine M9 3 ?_)); refine Y l9 rfl ?_;conv=>whnf))
 repeat' ((first | (intro hlq; (try simp only [SL] at hlq)) | refine Ks ?_ | refine Kq ?_ | refine Kt ?_ | refine Ka ?_ | refine Kb ?_ | refine Kc (hd:=rfl) (e:=?_) | refine Kc (hd:=d7 _) (e:=?_) | refine Kd (e:=?_) | refine Kl rfl ?_ | fail) <;> ((conv=>whnf); repeat' ((fail_if_success (refine T9 3 ?_)); (fail_if_success (refine M9 3 ?_)); refine Y l9 rfl ?_;conv=>whnf)))
 refine ⟨λ h0=>?_,λ h0=>?_⟩ <;> (try simp only [BL] at h0) <;> ((conv=>whnf); repeat' ((fail_if_success (refine T9 3 ?_)); (fail_if_success (refine M9 3 ?_)); refine Y l9 rfl ?_;conv=>whnf))
 . exfalso; omega
 refine a4f (a4E tok (cf:=l9) (X:=Unit) (λ _=>⟨[(5,.loc 18 0),(4,iB 0),(3,.full []),(2,.full []),(0,.d (.sl (d9 src)))],[(18,.box (scB src (0 : Nat)) 113)],[]⟩) (λ _=>True) ?_ (λ _ _=>?_))
 . conv=>whnf
   obtain ⟨tb,htb⟩ : ∃ tb,tb = z8 cls:=⟨_,rfl⟩
   have hc : Meets Tryz.prog 43 [] λ d=>d = .agg tb:=by rw [htb]; exact a7F
   refine Meets.k hc ?_
   show O9 _ _
   rw [S2]
   refine b7S htb rfl rfl rfl rfl rfl ?_
   refine ⟨⟨(),?_,True.intro⟩⟩
   repeat' (first | exact C5 _ _ _ | exact True.intro | exact rfl | refine And.intro ?_ ?_)
 ((conv=>whnf);repeat'(refine Y l9 rfl ?_;conv=>whnf))
 refine Meets.k b7Q ?_
 ((conv=>whnf);repeat'(refine Y l9 rfl ?_;conv=>whnf))
 refine b2f ?_
 ((conv=>whnf);repeat'(refine Y l9 rfl ?_;conv=>whnf))
 refine m9 tok l9 [(.inl 2,2,69,3),(.inl 3,3,123,2)] (X:=Nat × List Tk × List Nat × Int) (λ x=>[(7,iB x.2.2.2),(2,.own 2),(3,.own 3)]) (λ x=>[(18,.box (scB src x.1) 113),(2,.sl ⟨69,3,x.2.1.map tkC,true⟩),(3,.sl ⟨123,2,x.2.2.1.map prC,true⟩)]) [] (λ x=>TAt src x.1 x.2.1 x.2.2.1 x.2.2.2) (λ x=>src.length - x.1) (0,[],[],-1) ?_
 ((conv=>whnf);repeat'(refine Y l9 rfl ?_;conv=>whnf))
 refine ⟨by simp,?_⟩
 ((conv=>whnf);repeat'(refine Y l9 rfl ?_;conv=>whnf))
 refine ⟨by simp,?_⟩
 ((conv=>whnf);repeat'(refine Y l9 rfl ?_;conv=>whnf))
 refine And.intro ?_ ⟨TAt.zero src,λ x hΦ=>?_⟩
 . repeat' (first | exact C5 _ _ _ | exact True.intro | exact rfl | refine And.intro ?_ ?_)
 obtain ⟨a,acc,nb,en⟩:=x
 dsimp only at hΦ ⊢
 have ha:=hΦ.le
 have hen:=hΦ.en0
 have htl:=hΦ.tl
 have hbl:=hΦ.bl
 ((conv=>whnf);repeat'(refine Y l9 rfl ?_;conv=>whnf))
 refine ⟨_,rfl,?_⟩
 ((conv=>whnf);repeat'(refine Y l9 rfl ?_;conv=>whnf))
 repeat' ((first | (intro hlq; (try simp only [SL] at hlq)) | refine Ks ?_ | refine Kq ?_ | refine Kt ?_ | refine Ka ?_ | refine Kb ?_ | refine Kc (hd:=rfl) (e:=?_) | refine Kc (hd:=d7 _) (e:=?_) | refine Kd (e:=?_) | refine Kl rfl ?_ | fail) <;> ((conv=>whnf);repeat'(refine Y l9 rfl ?_;conv=>whnf)))
 refine ⟨λ h1=>?_,λ h1=>?_⟩ <;> (try simp only [BL] at h1) <;> ((conv=>whnf);repeat'(refine Y l9 rfl ?_;conv=>whnf))
 . have h1' : a < src.length:=by omega
   have hstep:=λ {k s n} h=>@TAt.step src a acc nb en hΦ h1' k s n h
   refine ⟨_,rfl,?_⟩
   ((conv=>whnf);repeat'(refine Y l9 rfl ?_;conv=>whnf))
   refine ⟨[(18,.box (scB src a) 113)],[.loc 18 0,iB a],⟨?_,?_⟩,(a2X (src:=src) (a:=a) (V5 src a a) rfl (by rintro _ rfl; rfl)).mono ?_⟩
   . exact Kr
   . exact ⟨⟨rfl,C5 _ _ _⟩,True.intro⟩
   rintro o O2 ⟨d,rfl,rfl,rfl⟩
   dsimp only
   rw [a2w]
   ((conv=>whnf);repeat'(refine Y l9 rfl ?_;conv=>whnf))
   rw [a2x h1']
   refine ⟨λ h2=>?_,λ h2=>?_⟩ <;> (try simp only [BL] at h2) <;> ((conv=>whnf);repeat'(refine Y l9 rfl ?_;conv=>whnf))
   . obtain ⟨s1,s2,_,s4,_⟩:=hstep (b9c h1' ((a7M _).1 h2))
     refine ⟨_,rfl,?_⟩
     ((conv=>whnf);repeat'(refine Y l9 rfl ?_;conv=>whnf))
     repeat' ((first | (intro hlq; (try simp only [SL] at hlq)) | refine Kst ?_ | refine Ks ?_ | refine Kq ?_ | refine Kt ?_ | ((refine Kh (λ hb=>?_) λ hb=>?_) <;> (try simp only [BL] at hb)) | refine Ka ?_ | refine Kb ?_ | refine Kc (hd:=rfl) (e:=?_) | refine Kc (hd:=d7 _) (e:=?_) | refine Kd (e:=?_) | refine Kl rfl ?_ | fail) <;> ((conv=>whnf);repeat'(refine Y l9 rfl ?_;conv=>whnf)))
     refine ⟨⟨(a + 1,acc,nb,en),?_,s4 rfl (by decide),by dsimp only; omega⟩⟩
     repeat' (first | exact C5 _ _ _ | exact True.intro | exact rfl | refine And.intro ?_ ?_)
   have hnb : blB src[a] = false:=by
    cases hx : blB src[a]
    . rfl
    . exact absurd ((a7M _).2 hx) h2
   have h35 : src[a] = 35 ↔ (src[a].toNat : Int) = 35:=M7 (n:=35) (by decide)
   refine ⟨_,rfl,?_⟩
   ((conv=>whnf);repeat'(refine Y l9 rfl ?_;conv=>whnf))
   repeat' ((first | (intro hlq; (try simp only [SL] at hlq)) | refine Ks ?_ | refine Kq ?_ | refine Kt ?_ | refine Ka ?_ | refine Kb ?_ | refine Kc (hd:=rfl) (e:=?_) | refine Kc (hd:=rfl) (e:=?_) | refine Kd (e:=?_) | refine Kl rfl ?_ | fail) <;> ((conv=>whnf);repeat'(refine Y l9 rfl ?_;conv=>whnf)))
   refine ⟨λ h3=>?_,λ h3=>?_⟩ <;> (try simp only [BL] at h3) <;> ((conv=>whnf);repeat'(refine Y l9 rfl ?_;conv=>whnf))
   . obtain ⟨s1,s2,_,s4,_⟩:=hstep (b9d h1' (h35.2 h3))
     have hsk:=(a6a h1').2 (by omega)
     refine m9 tok l9 [] (X:=Nat) (λ _=>[]) (λ q=>[(18,.box (scB src q) 113)]) [] (λ q=>q <= src.length /\ q + E3 (src.drop q) = a + E3 (src.drop a)) (λ q=>src.length - q) a ?_
     ((conv=>whnf);repeat'(refine Y l9 rfl ?_;conv=>whnf))
     refine And.intro ?_ ⟨⟨by omega,rfl⟩,λ q hq=>?_⟩
     . repeat' (first | exact C5 _ _ _ | exact True.intro | exact rfl | refine And.intro ?_ ?_)
     obtain ⟨hq,he⟩:=hq
     ((conv=>whnf);repeat'(refine Y l9 rfl ?_;conv=>whnf))
     refine ⟨_,rfl,?_⟩
     ((conv=>whnf);repeat'(refine Y l9 rfl ?_;conv=>whnf))
     repeat' ((first | (intro hlq; (try simp only [SL] at hlq)) | refine ⟨_,rfl,?_⟩ | refine Kst ?_ | refine Ks ?_ | refine Kq ?_ | refine Kt ?_ | ((refine Kh (λ hb=>?_) λ hb=>?_) <;> (try simp only [BL] at hb)) | refine Ka ?_ | refine Kb ?_ | refine Kc (hd:=rfl) (e:=?_) | refine Kc (hd:=rfl) (e:=?_) | refine Kd (e:=?_) | refine Kl rfl ?_ | fail) <;> ((conv=>whnf);repeat'(refine Y l9 rfl ?_;conv=>whnf)))
     . have h2' : q < src.length:=by omega
       refine ⟨⟨q + 1,?_,⟨by omega,?_⟩,by omega⟩⟩
       . repeat' (first | exact C5 _ _ _ | exact True.intro | exact rfl | refine And.intro ?_ ?_)
       . have:=(a6a h2').2 (by assumption); omega
     . have h2' : q < src.length:=by omega
       have hq0:=(a6a h2').1 (by omega)
       refine ⟨⟨(q,acc,nb,en),?_,?_,by dsimp only; omega⟩⟩
       . repeat' (first | exact C5 _ _ _ | exact True.intro | exact rfl | refine And.intro ?_ ?_)
       . dsimp only
         rw [show q = a + E3 (src.drop a) by omega]
         exact s4 rfl (by decide)
     . obtain rfl : q = src.length:=by omega
       rw [b8Q] at he
       refine ⟨⟨(src.length,acc,nb,en),?_,?_,by dsimp only; omega⟩⟩
       . repeat' (first | exact C5 _ _ _ | exact True.intro | exact rfl | refine And.intro ?_ ?_)
       . dsimp only
         rw [show src.length = a + E3 (src.drop a) by omega]
         exact s4 rfl (by decide)
   . have hr := b9i h1' hnb (λ e=>h3 (h35.1 e))
     have hkd : (l5 (src.drop a)).1 <= 5:=by rw [List.drop_eq_getElem_cons h1']; exact b7L _ _
     have hread:=λ q hq hp=>b7P hT src a q h1' hl hq hp
     rcases hx : l5 (src.drop a) with ⟨k,s,n⟩
     rw [hx] at hr hkd
     simp only [hx] at hread
     have hS:=hstep hr
     dsimp only at hkd
     clear hr hstep hx h35 hnb h3
     repeat' ((first | (intro hlq; (try simp only [SL] at hlq)) | refine Ks ?_ | refine Kq ?_ | refine Kt ?_ | refine Ka ?_ | refine Kb ?_ | refine Kc (hd:=rfl) (e:=?_) | refine Kc (hd:=d7 _) (e:=?_) | refine Kd (e:=?_) | refine Kl rfl ?_ | fail) <;> ((conv=>whnf);repeat'(refine Y l9 rfl ?_;conv=>whnf)))
     refine m9 tok l9 [] (X:=Nat) (λ q=>[(75,iB q),(7,iB en),(2,.own 2),(3,.own 3)]) (λ _=>[]) [] (λ q=>q < 6 /\ ∀ p < q,R0 p src[a] (src.drop (a + 1)) = false) (λ q=>6 - q) 0 ?_
     ((conv=>whnf);repeat'(refine Y l9 rfl ?_;conv=>whnf))
     refine And.intro ?_ ⟨⟨by omega,by omega⟩,λ q hq=>?_⟩
     . repeat' (first | exact C5 _ _ _ | exact True.intro | exact rfl | refine And.intro ?_ ?_)
     obtain ⟨hq,hp⟩:=hq
     obtain ⟨F,G,hel,kb,kr⟩:=hread q hq hp
     ((conv=>whnf);repeat'(refine Y l9 rfl ?_;conv=>whnf))
     refine ⟨λ h4=>?_,λ h4=>?_⟩ <;> (try simp only [BL] at h4) <;> ((conv=>whnf);repeat'(refine Y l9 rfl ?_;conv=>whnf))
     . refine ⟨_,⟨by omega,hel,rfl⟩,?_⟩
       ((conv=>whnf);repeat'(refine Y l9 rfl ?_;conv=>whnf))
       refine ⟨[(18,.box (scB src a) 113)],[.loc 18 0],⟨?_,?_⟩,(a2X (src:=src) (a:=a) (kb) rfl (by rintro _ rfl; rfl)).mono ?_⟩
       . exact Kr
       . exact ⟨⟨rfl,C5 _ _ _⟩,True.intro⟩
       rintro o O2 ⟨d,rfl,rfl,rfl⟩
       dsimp only
       rw [a2w]
       ((conv=>whnf);repeat'(refine Y l9 rfl ?_;conv=>whnf))
       refine ⟨λ h5=>?_,λ h5=>?_⟩ <;> (try simp only [BL] at h5) <;> ((conv=>whnf);repeat'(refine Y l9 rfl ?_;conv=>whnf))
       . repeat' ((first | (intro hlq; (try simp only [SL] at hlq)) | refine Ks ?_ | refine Kq ?_ | refine Kt ?_ | refine Ka ?_ | refine Kb ?_ | refine Kc (hd:=rfl) (e:=?_) | refine Kc (hd:=d7 _) (e:=?_) | refine Kd (e:=?_) | refine Kl rfl ?_ | fail) <;> ((conv=>whnf);repeat'(refine Y l9 rfl ?_;conv=>whnf)))
         refine ⟨⟨q + 1,?_,⟨?_,?_⟩,by omega⟩⟩
         . repeat' (first | exact C5 _ _ _ | exact True.intro | exact rfl | refine And.intro ?_ ?_)
         . have h6 : q ≠ 5:=by rintro rfl; cases h5
           omega
         . intro p hp'
           by_cases e : p = q
           . rw [e]; exact h5
           . exact hp p (by omega)
       have kr:=kr h5
       clear hread kb hp hel h5
       by_cases hk0 : k = 0
       . subst hk0
         obtain ⟨s1,s2,_,_,s5⟩:=hS
         obtain ⟨t1,t2⟩:=s5 rfl
         have kr : Meets Tryz.prog G [scP src a] λ d=>d = .tup [tkD 0 [] 0,iD (a + n : Nat)]:=kr
         refine ⟨[(18,.box (scB src a) 113)],[.loc 18 0],⟨?_,?_⟩,(a2X (src:=src) (a:=a) (kr) rfl (by rintro _ rfl; rfl)).mono ?_⟩
         . exact Kr
         . exact ⟨⟨rfl,C5 _ _ _⟩,True.intro⟩
         rintro o O2 ⟨d,rfl,rfl,rfl⟩
         dsimp only
         rw [a2w]
         ((conv=>whnf);repeat'(refine Y l9 rfl ?_;conv=>whnf))
         repeat' ((first | (intro hlq; (try simp only [SL] at hlq)) | refine ⟨_,rfl,?_⟩ | refine Kar ?_ | refine Kap ?_ | refine Kst ?_ | refine Ks ?_ | refine Kq ?_ | refine Kt ?_ | ((refine Kh (λ hb=>?_) λ hb=>?_) <;> (try simp only [BL] at hb)) | refine Ka ?_ | refine Kb ?_ | refine Kc (hd:=rfl) (e:=?_) | refine Kc (hd:=d7 _) (e:=?_) | refine Kd (e:=?_) | refine Kl rfl ?_ | fail) <;> ((conv=>whnf);repeat'(refine Y l9 rfl ?_;conv=>whnf)))
         all_goals first
          | contradiction
          | (exfalso; omega)
          | (refine ⟨⟨(a + n,acc,nb ++ [a],((a + n : Nat) : Int)),?_,t1 ⟨by omega,by simp only [List.length_map] at *; omega⟩,by dsimp only; omega⟩⟩
             dsimp only
             repeat' (first | exact C5 _ _ _ | exact True.intro | exact rfl | (simp only [List.map_append]; rfl) | refine And.intro ?_ ?_))
          | (refine ⟨⟨(a + n,acc,nb,((a + n : Nat) : Int)),?_,t2 (by simp only [List.length_map] at *; omega),by dsimp only; omega⟩⟩
             dsimp only
             repeat' (first | exact C5 _ _ _ | exact True.intro | exact rfl | (simp only [List.map_append]; rfl) | refine And.intro ?_ ?_))
       . obtain ⟨s1,s2,s3,_,_⟩:=hS
         have s3:=s3 (decide_eq_true ⟨by omega,hkd⟩) hk0
         have kr : Meets Tryz.prog G [scP src a] λ d=>d = .tup [tkD k s a,iD (a + n : Nat)]:=by
          have e : tkA a (k,s,n) = tkD k s a:=if_neg hk0
          rw [<- e]; exact kr
         refine ⟨[(18,.box (scB src a) 113)],[.loc 18 0],⟨?_,?_⟩,(a2X (src:=src) (a:=a) (kr) rfl (by rintro _ rfl; rfl)).mono ?_⟩
         . exact Kr
         . exact ⟨⟨rfl,C5 _ _ _⟩,True.intro⟩
         rintro o O2 ⟨d,rfl,rfl,rfl⟩
         dsimp only
         rw [a2w]
         ((conv=>whnf);repeat'(refine Y l9 rfl ?_;conv=>whnf))
         repeat' ((first | (intro hlq; (try simp only [SL] at hlq)) | refine ⟨_,rfl,?_⟩ | refine Kar ?_ | refine Kap ?_ | refine Kst ?_ | refine Ks ?_ | refine Kq ?_ | refine Kt ?_ | ((refine Kh (λ hb=>?_) λ hb=>?_) <;> (try simp only [BL] at hb)) | refine Ka ?_ | refine Kb ?_ | refine Kc (hd:=rfl) (e:=?_) | refine Kc (hd:=d7 _) (e:=?_) | refine Kd (e:=?_) | refine Kl rfl ?_ | fail) <;> ((conv=>whnf);repeat'(refine Y l9 rfl ?_;conv=>whnf)))
         all_goals first
          | contradiction
          | (exfalso; omega)
          | (refine ⟨⟨(a + n,acc ++ [⟨k,s,a⟩],nb,en),?_,s3,by dsimp only; omega⟩⟩
             dsimp only
             repeat' (first | exact C5 _ _ _ | exact True.intro | exact rfl | (simp only [List.map_append]; rfl) | refine And.intro ?_ ?_))
     . exfalso
       simp only [List.length_cons,List.length_nil] at h4
       omega
 . obtain rfl : a = src.length:=by omega
   have htk:=hΦ.tk
   have hbd:=hΦ.bd
   rw [List.drop_length,b1r] at htk
   rw [List.drop_length,b2S,List.append_nil] at hbd
   repeat' ((first | (intro hlq; (try simp only [SL] at hlq)) | refine Kar ?_ | refine Kap ?_ | refine Ks ?_ | refine Kq ?_ | refine Kt ?_ | ((refine Kh (λ hb=>?_) λ hb=>?_) <;> (try simp only [BL] at hb)) | refine Ka ?_ | refine Kb ?_ | refine Kc (hd:=rfl) (e:=?_) | refine Kc (hd:=d7 _) (e:=?_) | refine Kd (e:=?_) | refine Kl rfl ?_ | fail) <;> ((conv=>whnf);repeat'(refine Y l9 rfl ?_;conv=>whnf)))
   refine ⟨?_⟩
   rw [a0M,<- htk,<- hbd,List.map_append]
   show D.tup [.sl (acc.map tkC ++ [[iD 6,.str [],iD ((d9 src).length : Nat)]]),.sl (nb.map prC),iD 0] = _
   rw [List.length_map]
   rfl
end Go.Proofs.YtaopegkpjhkooaaGreatDoor.Dx
