/- Chapter 06: conditions,steps,blocks. -/
import Derived.Test.YtaopegkpjhkooaaGreatDoorE3
import Derived.Test.YtaopegkpjhkooaaGreatDoorDy
set_option linter.all false
namespace Go.Proofs.YtaopegkpjhkooaaGreatDoor.Dx
open Go Go.RowKit
set_option maxRecDepth 100000
set_option maxHeartbeats 16000000
theorem a7O : ∀ k : Nat,k <= 1000000000 -> ∀ j,j <= k -> RdC 111 j l7 /\ RdC 58 j o9 /\ RdC 28 j condP
 | 0,_,j,hj=>by
   obtain rfl : j = 0:=by omega
   exact ⟨λ d ts u _ _ h=>absurd (by rw [l7]) h,λ d ts u _ _ h=>absurd (by rw [o9]) h,λ d ts u _ _ h=>absurd (by rw [condP]) h⟩
 | k + 1,hk,j,hj=>by
   have ih:=a7O k (by omega)
   by_cases e : j = k + 1
   . subst e
     exact ⟨c0k k (by omega) (λ j h=>(ih j h).1) (λ j h=>(ih j h).2.2),b3x k (by omega) λ j h=>(ih j h).1,b3w k (by omega) λ j h=>(ih j h).2.1⟩
   . exact ih j (by omega)
theorem a7Q (k : Nat) (hk : k <= 1000000000) : RdC 28 k condP:=(a7O k hk k (Nat.le_refl _)).2.2
theorem a2C {ts : List Tk} {b : Int} (h : y6 ts = some b) : (hdT ts).kind = 1:=by
 unfold y6 at h
 split at h
 . assumption
 . cases h
theorem Y4 : ∀ k : Nat,(∀ d l ts,QT ts -> (l6 k d l ts).kp) /\ (∀ d ts,QT ts -> (blockP k d ts).kp)
 | 0=>⟨λ d l ts h=>by rw [l6]; exact I1,λ d ts h=>by rw [blockP]; exact I1⟩
 | k + 1 => by
   have ih:=Y4 k
   obtain ⟨h1,h2⟩:=ih
   refine ⟨λ d l ts h=>?_,λ d ts h=>?_⟩
   . rw [l6]
     split
     . rename_i b hb
       exact e7 (j4 (h.tail (by rw [a2C hb]; decide))) λ _ _ h=>h1 _ _ _ h
     . split
       . split
         . exact E9
         . refine e7 ((V6 k).2.2.2.1 _ _ (h.isW (by assumption))) λ c ts h=>e7 (h2 _ _ h) λ t ts h=>?_
           split
           . exact e7 (h2 _ _ (h.isW (by assumption))) λ _ _ h=>h1 _ _ _ h
           . exact h1 _ _ _ h
       . split
         . exact E9
         . exact m6 h
   . rw [blockP]
     exact e7 (j4 h) λ _ _ h=>e7 (h1 _ _ _ h) λ _ _ h=>e7 (j4 h) λ _ _ h=>m6 h
abbrev stD (l : List Step) : D:=.sl (l.map Step.cells)
def RdS (f : Nat) (k : Nat) (P : Nat -> Nat -> List Tk -> Rs (List Step)) : Prop:=∀ (d : Nat) (ts : List Tk) (u : Nat -> Value),d <= 16 -> QT ts -> P k d ts ≠ .out -> MeetsR Tryz.prog f [.loc 5000 0,.d (iD d)] (psO ts u) λ o O'=>RdO stD (P k d ts) u o O'
theorem J7 (ts : List Tk) (u : Nat -> Value) (he : EndsT ts) : MeetsR Tryz.prog 61 [.loc 5000 0] (psO ts u) λ o O'=>o = .ret (.d (.agg (tkC (hdT ts)))) /\ O' = psO ts.tail u:=by
 obtain ⟨t,r,rfl⟩:=he.cons
 exact a5E t r u
theorem b3I (ts : List Tk) (u : Nat -> Value) (he : EndsT ts) {b : Int} (h : y6 ts = some b) : MeetsR Tryz.prog 60 [.loc 5000 0] (psO ts u) λ o O'=>o = .ret (.d (.tup [iD b,bD true])) /\ O' = psO ts u:=by
 obtain ⟨t,r,rfl⟩:=he.cons
 have hm:=a7U t r u
 rw [h] at hm
 exact hm
theorem b3H (ts : List Tk) (u : Nat -> Value) (he : EndsT ts) (h : y6 ts = none) : MeetsR Tryz.prog 60 [.loc 5000 0] (psO ts u) λ o O'=>o = .ret (.d (.tup [iD 0,bD false])) /\ O' = psO ts u:=by
 obtain ⟨t,r,rfl⟩:=he.cons
 have hm:=a7U t r u
 rw [h] at hm
 exact hm
abbrev R5 : Cfg:={rs:=[8,11,14]}
theorem b2V (k : Nat) (hs : ∀ j,j <= k -> RdS 32 j λ k d ts=>l6 k d [] ts) : RdS 65 (k + 1) blockP:=by
 intro d ts u hd hq hn
 obtain ⟨res,hres⟩ : ∃ res,res = blockP (k + 1) d ts:=⟨_,rfl⟩
 rw [<- hres] at hn ⊢
 rw [blockP] at hres
 have he:=hq.1
 refine i6 tok R5 Tryz.func65 rfl (by kernel_rfl) Tryz.ntmps65 (by simp) λ B0 W0 V0 lent g0=>?_
 ((conv=>whnf);repeat'(refine Y R5 rfl ?_;conv=>whnf))
 refine ⟨psO ts u,_,⟨?_,?_⟩,(m7 ts u [123] he).mono ?_⟩
 . exact Kr
 . exact Kr
 intro o O2 ho
 have hh:=p4 ho
 clear ho
 obtain hh | hh:=hh
 . obtain ⟨a,e,ts9,hU,rfl,rfl⟩:=hh
   (try dsimp only at hU)
   rw [hU] at hres
   (try rw [Rs.bind_er] at hres)
   ((conv=>whnf);repeat'(refine Y R5 rfl ?_;conv=>whnf))
   refine ⟨psO ts9 u,⟨?_,?_⟩,?_⟩
   . exact Kr
   . exact Kr
   rw [hres]
   exact ⟨_,rfl,rfl⟩
 obtain ⟨x1,ts2,hU,rfl,rfl⟩:=hh
 (try dsimp only at hU)
 rw [hU] at hres
 (try rw [Rs.bind_ok] at hres)
 ((conv=>whnf);repeat'(refine Y R5 rfl ?_;conv=>whnf))
 have hq2:=j4 hq _ _ hU
 have hn1 : l6 k d [] ts2 ≠ .out:=E5 (by rw [<- hres]; exact hn)
 refine ⟨psO ts2 u,_,⟨?_,?_⟩,(hs k (Nat.le_refl _) d ts2 u hd hq2 hn1).mono ?_⟩
 . exact Kr
 . exact Kr
 intro o O2 ho
 have hh:=p4 ho
 clear ho
 obtain hh | hh:=hh
 . obtain ⟨a,e,ts9,hU,rfl,rfl⟩:=hh
   (try dsimp only at hU)
   rw [hU] at hres
   (try rw [Rs.bind_er] at hres)
   ((conv=>whnf);repeat'(refine Y R5 rfl ?_;conv=>whnf))
   refine ⟨psO ts9 u,⟨?_,?_⟩,?_⟩
   . exact Kr
   . exact Kr
   rw [hres]
   exact ⟨_,rfl,rfl⟩
 obtain ⟨l,ts3,hU,rfl,rfl⟩:=hh
 (try dsimp only at hU)
 rw [hU] at hres
 (try rw [Rs.bind_ok] at hres)
 ((conv=>whnf);repeat'(refine Y R5 rfl ?_;conv=>whnf))
 have hq3:=(Y4 k).1 _ _ _ hq2 _ _ hU
 refine ⟨psO ts3 u,_,⟨?_,?_⟩,(m7 ts3 u [125] hq3.1).mono ?_⟩
 . exact Kr
 . exact Kr
 intro o O2 ho
 have hh:=p4 ho
 clear ho
 obtain hh | hh:=hh
 . obtain ⟨a,e,ts9,hU,rfl,rfl⟩:=hh
   (try dsimp only at hU)
   rw [hU] at hres
   (try rw [Rs.bind_er] at hres)
   ((conv=>whnf);repeat'(refine Y R5 rfl ?_;conv=>whnf))
   refine ⟨psO ts9 u,⟨?_,?_⟩,?_⟩
   . exact Kr
   . exact Kr
   rw [hres]
   exact ⟨_,rfl,rfl⟩
 obtain ⟨x2,ts4,hU,rfl,rfl⟩:=hh
 (try dsimp only at hU)
 rw [hU] at hres
 (try rw [Rs.bind_ok] at hres)
 ((conv=>whnf);repeat'(refine Y R5 rfl ?_;conv=>whnf))
 refine ⟨psO ts4 u,.d (stD l),?_,?_⟩
 rotate_left 1
 . rw [hres]
   exact ⟨rfl,rfl⟩
 repeat' (first | exact True.intro | exact rfl | refine And.intro ?_ ?_)
abbrev n5 : Cfg:={rs:=[10,17,20,28,31,33,35,40,43,47,58]}
theorem b9m (k : Nat) (hk : k <= 1000000000) (hb : ∀ j,j <= k -> RdS 65 j blockP) : RdS 32 (k + 1) λ k d ts=>l6 k d [] ts:=by
 intro d ts u hd hq hn
 dsimp only at hn ⊢
 obtain ⟨res,hres⟩ : ∃ res,res = l6 (k + 1) d [] ts:=⟨_,rfl⟩
 rw [<- hres] at hn ⊢
 refine i6 tok n5 Tryz.func32 rfl (by kernel_rfl) Tryz.ntmps32 (by simp) λ B0 W0 V0 lent g0=>?_
 ((conv=>whnf);repeat'(refine Y n5 rfl ?_;conv=>whnf))
 refine m9 tok n5 [(.inl 4,4,73,8)] (X:=Nat × List Step × List Tk) (λ s=>[(4,.own 4)]) (λ s=>(4,.sl ⟨73,8,s.2.1.map Step.cells,true⟩) :: psO s.2.2 u) [] (λ s=>s.1 <= k + 1 /\ QT s.2.2 /\ res = l6 s.1 d s.2.1 s.2.2 /\ s.2.1.length + s.1 <= k + 1) (λ s=>s.1) (k + 1,[],ts) ?_
 ((conv=>whnf);repeat'(refine Y n5 rfl ?_;conv=>whnf))
 refine ⟨by simp,?_⟩
 ((conv=>whnf);repeat'(refine Y n5 rfl ?_;conv=>whnf))
 refine And.intro ?_ ⟨⟨Nat.le_refl _,hq,hres,by simp⟩,λ s hΦ=>?_⟩
 . exact Kr
 clear hres hq
 obtain ⟨j,l,ts⟩:=s
 obtain ⟨hj,hq,hres,hlen⟩:=hΦ
 dsimp only at hj hq hres hlen
 have he:=hq.1
 cases j with
 | zero=>rw [l6] at hres; exact absurd hres hn
 | succ j =>
 rw [l6] at hres
 ((conv=>whnf);repeat'(refine Y n5 rfl ?_;conv=>whnf))
 cases hcr : y6 ts with
 | some b =>
   rw [hcr] at hres
   dsimp only at hres
   have hq1:=hq.tail (by rw [a2C hcr]; decide)
   refine ⟨psO ts u,_,⟨?_,?_⟩,(b3I ts u he hcr).mono ?_⟩
   . exact Kr
   . exact Kr
   rintro _ O2 ⟨rfl,rfl⟩
   ((conv=>whnf);repeat'(refine Y n5 rfl ?_;conv=>whnf))
   refine ⟨λ _=>?_,λ h=>absurd h (by decide)⟩
   ((conv=>whnf);repeat'(refine Y n5 rfl ?_;conv=>whnf))
   refine ⟨psO ts u,_,⟨?_,?_⟩,(J7 ts u he).mono ?_⟩
   . exact Kr
   . exact Kr
   rintro _ O2 ⟨rfl,rfl⟩
   ((conv=>whnf);repeat'(refine Y n5 rfl ?_;conv=>whnf))
   refine ⟨psO ts.tail u,_,⟨?_,?_⟩,(m7 ts.tail u [59] hq1.1).mono ?_⟩
   . exact Kr
   . exact Kr
   intro o O2 ho
   have hh:=p4 ho
   clear ho
   obtain hh | hh:=hh
   . obtain ⟨a,e,ts9,hU,rfl,rfl⟩:=hh
     (try dsimp only at hU)
     rw [hU] at hres
     (try rw [Rs.bind_er] at hres)
     ((conv=>whnf);repeat'(refine Y n5 rfl ?_;conv=>whnf))
     refine ⟨psO ts9 u,⟨?_,?_⟩,?_⟩
     . exact Kr
     . exact Kr
     rw [hres]
     exact ⟨_,rfl,rfl⟩
   obtain ⟨x1,ts2,hU,rfl,rfl⟩:=hh
   (try dsimp only at hU)
   rw [hU] at hres
   (try rw [Rs.bind_ok] at hres)
   ((conv=>whnf);repeat'(refine Y n5 rfl ?_;conv=>whnf))
   have hq2:=j4 hq1 _ _ hU
   refine ⟨by simp,?_⟩
   ((conv=>whnf);repeat'(refine Y n5 rfl ?_;conv=>whnf))
   refine ⟨λ h1 h2=>?_,?_⟩
   . simp only [List.length_map,List.length_cons,List.length_nil]
     omega
   ((conv=>whnf);repeat'(refine Y n5 rfl ?_;conv=>whnf))
   refine ⟨⟨(j,l ++ [⟨1,b,⟨0,0,0,[]⟩,[],[]⟩],ts2),?_,⟨by dsimp only; omega,hq2,hres,by dsimp only; simp only [List.length_append,List.length_cons,List.length_nil]; omega⟩,by dsimp only; omega⟩⟩
   repeat' (first | exact True.intro | exact rfl | refine And.intro ?_ ?_ | (exact (by simp only [List.map_append,List.map_cons,List.map_nil,Step.cells_eq]; try rfl)))
 | none =>
   rw [hcr] at hres
   dsimp only at hres
   refine ⟨psO ts u,_,⟨?_,?_⟩,(b3H ts u he hcr).mono ?_⟩
   . exact Kr
   . exact Kr
   rintro _ O2 ⟨rfl,rfl⟩
   ((conv=>whnf);repeat'(refine Y n5 rfl ?_;conv=>whnf))
   refine ⟨λ h=>absurd h (by decide),λ _=>?_⟩
   ((conv=>whnf);repeat'(refine Y n5 rfl ?_;conv=>whnf))
   have h1:=Bool.eq_false_or_eq_true (isW [105,102] ts)
   obtain h1 | h1:=h1
   . rw [if_pos h1] at hres
     have hq1:=hq.isW h1
     by_cases hdd : 16 <= d
     . rw [if_pos hdd] at hres
       refine ⟨psO ts u,_,⟨?_,?_⟩,(N3 ts u [105,102] he h1).mono ?_⟩
       . exact Kr
       . exact Kr
       rintro _ O2 ⟨rfl,rfl⟩
       ((conv=>whnf);repeat'(refine Y n5 rfl ?_;conv=>whnf))
       refine ⟨psO ts u,_,⟨?_,?_⟩,(a1l ts u d he hdd).mono ?_⟩
       . exact Kr
       . exact Kr
       rintro _ O2 ⟨rfl,rfl⟩
       ((conv=>whnf);repeat'(refine Y n5 rfl ?_;conv=>whnf))
       refine ⟨psO ts u,⟨?_,?_⟩,?_⟩
       . exact Kr
       . exact Kr
       rw [hres]
       exact ⟨_,rfl,rfl⟩
     . rw [if_neg hdd] at hres
       have hdd' : d < 16:=by omega
       have hn1 : condP j 0 ts.tail ≠ .out:=E5 (by rw [<- hres]; exact hn)
       have hcd:=a7Q j (by omega) 0 ts.tail u (by omega) hq1 hn1
       refine ⟨psO ts u,_,⟨?_,?_⟩,(N3 ts u [105,102] he h1).mono ?_⟩
       . exact Kr
       . exact Kr
       rintro _ O2 ⟨rfl,rfl⟩
       ((conv=>whnf);repeat'(refine Y n5 rfl ?_;conv=>whnf))
       refine ⟨psO ts u,_,⟨?_,?_⟩,(a1m ts u d he hdd').mono ?_⟩
       . exact Kr
       . exact Kr
       rintro _ O2 ⟨rfl,rfl⟩
       ((conv=>whnf);repeat'(refine Y n5 rfl ?_;conv=>whnf))
       refine ⟨psO ts u,_,⟨?_,?_⟩,(J7 ts u he).mono ?_⟩
       . exact Kr
       . exact Kr
       rintro _ O2 ⟨rfl,rfl⟩
       ((conv=>whnf);repeat'(refine Y n5 rfl ?_;conv=>whnf))
       refine ⟨psO ts.tail u,_,⟨?_,?_⟩,(hcd).mono ?_⟩
       . exact Kr
       . exact Kr
       intro o O2 ho
       have hh:=p4 ho
       clear ho
       obtain hh | hh:=hh
       . obtain ⟨a,e,ts9,hU,rfl,rfl⟩:=hh
         (try dsimp only at hU)
         rw [hU] at hres
         (try rw [Rs.bind_er] at hres)
         ((conv=>whnf);repeat'(refine Y n5 rfl ?_;conv=>whnf))
         refine ⟨psO ts9 u,⟨?_,?_⟩,?_⟩
         . exact Kr
         . exact Kr
         rw [hres]
         exact ⟨_,rfl,rfl⟩
       obtain ⟨c,ts2,hU,rfl,rfl⟩:=hh
       (try dsimp only at hU)
       rw [hU] at hres
       (try rw [Rs.bind_ok] at hres)
       ((conv=>whnf);repeat'(refine Y n5 rfl ?_;conv=>whnf))
       have hq2:=(V6 j).2.2.2.1 _ _ hq1 _ _ hU
       have hn2 : blockP j (d + 1) ts2 ≠ .out:=E5 (by rw [<- hres]; exact hn)
       have hbd:=hb j (by omega) (d + 1) ts2 u (by omega) hq2 hn2
       repeat' ((first | (intro hlq; (try simp only [SL] at hlq)) | refine Ks ?_ | refine Kq ?_ | refine Kt ?_ | refine Ka ?_ | refine Kb ?_ | refine Kc (hd:=rfl) (e:=?_) | refine Kc (hd:=d7 _) (e:=?_) | refine Kd (e:=?_) | refine Kl rfl ?_ | fail) <;> ((conv=>whnf);repeat'(refine Y n5 rfl ?_;conv=>whnf)))
       refine ⟨psO ts2 u,_,⟨?_,?_⟩,(hbd).mono ?_⟩
       . exact Kr
       . exact Kr
       intro o O2 ho
       have hh:=p4 ho
       clear ho
       obtain hh | hh:=hh
       . obtain ⟨a,e,ts9,hU,rfl,rfl⟩:=hh
         (try dsimp only at hU)
         rw [hU] at hres
         (try rw [Rs.bind_er] at hres)
         ((conv=>whnf);repeat'(refine Y n5 rfl ?_;conv=>whnf))
         refine ⟨psO ts9 u,⟨?_,?_⟩,?_⟩
         . exact Kr
         . exact Kr
         rw [hres]
         exact ⟨_,rfl,rfl⟩
       obtain ⟨th,ts3,hU,rfl,rfl⟩:=hh
       (try dsimp only at hU)
       rw [hU] at hres
       (try rw [Rs.bind_ok] at hres)
       ((conv=>whnf);repeat'(refine Y n5 rfl ?_;conv=>whnf))
       have hq3:=(Y4 j).2 _ _ hq2 _ _ hU
       have h3:=Bool.eq_false_or_eq_true (isW [101,108,115,101] ts3)
       obtain h3 | h3:=h3
       . rw [if_pos h3] at hres
         have hn3 : blockP j (d + 1) ts3.tail ≠ .out:=E5 (by rw [<- hres]; exact hn)
         have hbe:=hb j (by omega) (d + 1) ts3.tail u (by omega) (hq3.isW h3) hn3
         refine ⟨psO ts3 u,_,⟨?_,?_⟩,(q7 ts3 u [101,108,115,101] hq3.1 h3).mono ?_⟩
         . exact Kr
         . exact Kr
         rintro _ O2 ⟨rfl,rfl⟩
         ((conv=>whnf);repeat'(refine Y n5 rfl ?_;conv=>whnf))
         repeat' ((first | (intro hlq; (try simp only [SL] at hlq)) | refine Ks ?_ | refine Kq ?_ | refine Kt ?_ | refine Ka ?_ | refine Kb ?_ | refine Kc (hd:=rfl) (e:=?_) | refine Kc (hd:=d7 _) (e:=?_) | refine Kd (e:=?_) | refine Kl rfl ?_ | fail) <;> ((conv=>whnf);repeat'(refine Y n5 rfl ?_;conv=>whnf)))
         refine ⟨psO ts3.tail u,_,⟨?_,?_⟩,(hbe).mono ?_⟩
         . exact Kr
         . exact Kr
         intro o O2 ho
         have hh:=p4 ho
         clear ho
         obtain hh | hh:=hh
         . obtain ⟨a,e,ts9,hU,rfl,rfl⟩:=hh
           (try dsimp only at hU)
           rw [hU] at hres
           (try rw [Rs.bind_er] at hres)
           ((conv=>whnf);repeat'(refine Y n5 rfl ?_;conv=>whnf))
           refine ⟨psO ts9 u,⟨?_,?_⟩,?_⟩
           . exact Kr
           . exact Kr
           rw [hres]
           exact ⟨_,rfl,rfl⟩
         obtain ⟨el,ts4,hU,rfl,rfl⟩:=hh
         (try dsimp only at hU)
         rw [hU] at hres
         (try rw [Rs.bind_ok] at hres)
         ((conv=>whnf);repeat'(refine Y n5 rfl ?_;conv=>whnf))
         have hq4:=(Y4 j).2 _ _ (hq3.isW h3) _ _ hU
         refine ⟨by simp,?_⟩
         ((conv=>whnf);repeat'(refine Y n5 rfl ?_;conv=>whnf))
         refine ⟨λ h1 h2=>?_,?_⟩
         . simp only [List.length_map,List.length_cons,List.length_nil]
           omega
         ((conv=>whnf);repeat'(refine Y n5 rfl ?_;conv=>whnf))
         refine ⟨⟨(j,l ++ [⟨2,0,c,th,el⟩],ts4),?_,⟨by dsimp only; omega,hq4,hres,by dsimp only; simp only [List.length_append,List.length_cons,List.length_nil]; omega⟩,by dsimp only; omega⟩⟩
         repeat' (first | exact True.intro | exact rfl | refine And.intro ?_ ?_ | (exact (by simp only [List.map_append,List.map_cons,List.map_nil,Step.cells_eq]; try rfl)))
       . rw [if_neg (by rw [h3]; decide)] at hres
         refine ⟨psO ts3 u,_,⟨?_,?_⟩,(g8 ts3 u [101,108,115,101] hq3.1 h3).mono ?_⟩
         . exact Kr
         . exact Kr
         rintro _ O2 ⟨rfl,rfl⟩
         ((conv=>whnf);repeat'(refine Y n5 rfl ?_;conv=>whnf))
         refine ⟨by simp,?_⟩
         ((conv=>whnf);repeat'(refine Y n5 rfl ?_;conv=>whnf))
         refine ⟨λ h1 h2=>?_,?_⟩
         . simp only [List.length_map,List.length_cons,List.length_nil]
           omega
         ((conv=>whnf);repeat'(refine Y n5 rfl ?_;conv=>whnf))
         refine ⟨⟨(j,l ++ [⟨2,0,c,th,[]⟩],ts3),?_,⟨by dsimp only; omega,hq3,hres,by dsimp only; simp only [List.length_append,List.length_cons,List.length_nil]; omega⟩,by dsimp only; omega⟩⟩
         repeat' (first | exact True.intro | exact rfl | refine And.intro ?_ ?_ | (exact (by simp only [List.map_append,List.map_cons,List.map_nil,Step.cells_eq]; try rfl)))
   . rw [if_neg (by rw [h1]; decide)] at hres
     refine ⟨psO ts u,_,⟨?_,?_⟩,(E4 ts u [105,102] he h1).mono ?_⟩
     . exact Kr
     . exact Kr
     rintro _ O2 ⟨rfl,rfl⟩
     ((conv=>whnf);repeat'(refine Y n5 rfl ?_;conv=>whnf))
     repeat' ((first | (intro hlq; (try simp only [SL] at hlq)) | refine Ks ?_ | refine Kq ?_ | refine Kt ?_ | refine Ka ?_ | refine Kb ?_ | refine Kc (hd:=rfl) (e:=?_) | refine Kc (hd:=d7 _) (e:=?_) | refine Kd (e:=?_) | refine Kl rfl ?_ | fail) <;> ((conv=>whnf);repeat'(refine Y n5 rfl ?_;conv=>whnf)))
     refine ⟨λ h4=>?_,λ h4=>?_⟩ <;> (try simp only [BL] at h4) <;> ((conv=>whnf);repeat'(refine Y n5 rfl ?_;conv=>whnf))
     . have hl : l = []:=by
        cases l with
        | nil=>rfl
        | cons x xs=>simp at h4; omega
       rw [if_pos hl] at hres
       refine ⟨psO ts u,_,⟨?_,?_⟩,(B2 ts u 60 he).mono ?_⟩
       . exact Kr
       . exact Kr
       rintro _ O2 ⟨rfl,rfl⟩
       ((conv=>whnf);repeat'(refine Y n5 rfl ?_;conv=>whnf))
       refine ⟨psO ts u,⟨?_,?_⟩,?_⟩
       . exact Kr
       . exact Kr
       rw [hres]
       exact ⟨_,rfl,rfl⟩
     . have hl : l ≠ []:=by
        rintro rfl
        exact h4 (by simp)
       rw [if_neg hl] at hres
       refine ⟨psO ts u,.d (stD l),?_,?_⟩
       rotate_left 1
       . rw [hres]
         exact ⟨rfl,rfl⟩
       repeat' (first | exact True.intro | exact rfl | refine And.intro ?_ ?_)
theorem a6l : ∀ k : Nat,k <= 1000000000 -> ∀ j,j <= k -> RdS 32 j (λ k d ts=>l6 k d [] ts) /\ RdS 65 j blockP
 | 0,_,j,hj=>by
   obtain rfl : j = 0:=by omega
   exact ⟨λ d ts u _ _ h=>absurd (by show l6 0 d [] ts = _; rw [l6]) h,λ d ts u _ _ h=>absurd (by rw [blockP]) h⟩
 | k + 1,hk,j,hj=>by
   have ih:=a6l k (by omega)
   by_cases e : j = k + 1
   . subst e
     exact ⟨b9m k (by omega) λ j h=>(ih j h).2,b2V k λ j h=>(ih j h).1⟩
   . exact ih j (by omega)
end Go.Proofs.YtaopegkpjhkooaaGreatDoor.Dx
/- Chapter 06: what the lexer makes is what the parser expects; fuel for steps; what parsing a text comes to (plain). -/
namespace Go.Proofs.YtaopegkpjhkooaaGreatDoor.Dx
open Go Go.RowKit
set_option maxRecDepth 100000
theorem a5J : ∀ (k : Nat) (t : List UInt8),t.length <= k -> ∀ s n,j9 t = some (s,n) -> s.length <= t.length
 | k,[],_,s,n,h=>by cases h
 | 0,c :: t,hk,_,_,_=>by simp at hk
 | k + 1, c :: t,hk,s,n,h=>by
   unfold j9 at h
   simp only [List.length_cons] at hk ⊢
   split at h
   . cases h; simp
   split at h
   . cases h
   split at h
   . match t,h,hk with
     | [],h,_=>cases h
     | d :: t,h,hk =>
       simp only [List.length_cons] at hk ⊢
       simp only at h
       split at h
       . split at h
         . rename_i s' n' hq
           cases h
           have:=a5J k t (by omega) _ _ hq
           simp only [List.length_cons]
           omega
         . cases h
       . cases h
   . split at h
     . rename_i s' n' hq
       cases h
       have:=a5J k t (by omega) _ _ hq
       simp only [List.length_cons]
       omega
     . cases h
theorem b7N (c : UInt8) (t : List UInt8) : (l5 (c :: t)).2.1.length <= t.length + 1 /\ ((l5 (c :: t)).1 = 2 -> A9 (l5 (c :: t)).2.1 = true):=by
 have h1:=P2 false t
 have h2:=P2 true t
 simp only [l5]
 split
 . exact ⟨by simp; omega,by simp⟩
 split
 . unfold G5
   split
   . exact ⟨by simp; omega,λ _=>by assumption⟩
   split
   . exact ⟨by simp; omega,by simp⟩
   . exact ⟨by simp,by simp⟩
 split
 . split
   . rename_i s n hq
     have:=a5J _ t (Nat.le_refl _) _ _ hq
     exact ⟨by dsimp only; omega,by simp⟩
   . exact ⟨by simp,by simp⟩
 split
 . exact ⟨by simp; omega,by simp⟩
 split <;> exact ⟨by simp,by simp⟩
theorem b9g (c : UInt8) (t : List UInt8) : (g6 (c :: t)).2.1.length <= t.length + 1 /\ ((g6 (c :: t)).1 = 2 -> A9 (g6 (c :: t)).2.1 = true):=by
 simp only [g6]
 split
 . exact ⟨by simp,by simp⟩
 split
 . exact ⟨by simp,by simp⟩
 . exact b7N c t
theorem a3N : ∀ (k : Nat) (r : List UInt8) (a : Nat),r.length <= k -> (∀ x ∈ toks r a,x.text.length <= r.length /\ (x.kind = 2 -> A9 x.text = true)) /\ (toks r a).length <= r.length + 1
 | _,[],a,_=>by
   rw [b1r]
   refine ⟨λ x hx=>?_,by simp⟩
   obtain rfl:=List.mem_singleton.1 hx
   exact ⟨by simp,by simp⟩
 | 0,c :: t,_,h=>by simp at h
 | k + 1,c :: t,a,h=>by
   have h1:=T1 c t
   have h2:=b9g c t
   simp only [List.length_cons] at h ⊢
   have ih:=a3N k ((c :: t).drop (g6 (c :: t)).2.2) (a + (g6 (c :: t)).2.2) (by rw [List.length_drop,List.length_cons]; omega)
   rw [List.length_drop,List.length_cons] at ih
   rw [a0O]
   split
   . refine ⟨λ x hx=>?_,by simp only [List.length_cons]; omega⟩
     rcases List.mem_cons.1 hx with rfl | hx
     . exact h2
     . have:=ih.1 x hx
       exact ⟨by omega,this.2⟩
   . exact ⟨λ x hx=>by have:=ih.1 x hx; exact ⟨by omega,this.2⟩,by omega⟩
theorem b5d {s : List UInt8} (h : A9 s = true) : s.head? = some 45 \/ (s ≠ [] /\ s.all g7 = true):=by
 by_cases e : ∃ r,s = 45 :: r
 . obtain ⟨r,rfl⟩:=e
   exact .inl rfl
 . rw [a2T λ r hr=>e ⟨r,hr⟩] at h
   have:=S3 h
   exact .inr ⟨this.2,this.1⟩
theorem a3L (src : List UInt8) (hl : src.length <= 65536) : QT (toks src 0):=by
 obtain ⟨i,hi,_⟩:=b1p _ src 0 (Nat.le_refl _)
 refine ⟨⟨i,_,hi⟩,λ t ht=>?_⟩
 have:=(a3N _ src 0 (Nat.le_refl _)).1 t ht
 exact ⟨by omega,λ h=>b5d (this.2 h)⟩
theorem a0P (src : List UInt8) : (toks src 0).length <= src.length + 1:=(a3N _ src 0 (Nat.le_refl _)).2
theorem a6m (n : Nat) : (∀ k d l ts,ts.length <= n -> 5 * n + 1 <= k -> (l6 k d l ts).short n) /\ (∀ k d ts,ts.length <= n -> 5 * n + 1 <= k -> (blockP k d ts).short n):=by
 have ih : ∀ m,m + 1 = n -> (∀ k d l ts,ts.length <= m -> 5 * m + 1 <= k -> (l6 k d l ts).short m) /\ (∀ k d ts,ts.length <= m -> 5 * m + 1 <= k -> (blockP k d ts).short m):=λ m hm=>a6m m
 have up : ∀ {α : Type} {r : Rs α} {m : Nat},m + 1 = n -> r.short m -> r.short n:=λ hm h=>⟨h.1,λ a ts e=>by have:=h.2 a ts e; omega⟩
 refine ⟨λ k d l ts hts hk=>?_,λ k d ts hts hk=>?_⟩
 . obtain ⟨k,rfl⟩ : ∃ j,k = j + 1:=⟨k - 1,by omega⟩
   rw [l6]
   split
   . rename_i b hb
     have hne : ts ≠ []:=by
      rintro rfl
      have:=a2C hb
      simp [hdT] at this
     obtain ⟨t,r,rfl⟩:=List.exists_cons_of_ne_nil hne
     obtain ⟨m,hm⟩ : ∃ m,m + 1 = n:=⟨n - 1,by simp at hts; omega⟩
     simp only [List.length_cons] at hts
     exact up hm ((n7 (n:=m) (by simp only [List.tail_cons]; omega)).bind λ _ _ h=>(ih m hm).1 k d _ _ h (by omega))
   split
   . rename_i q
     have hlen:=O5 q
     obtain ⟨m,hm⟩ : ∃ m,m + 1 = n:=⟨n - 1,by omega⟩
     split
     . exact D6
     . refine up hm (((a4A m).2.2.2.1 k 0 ts.tail (by omega) (by omega)).bind λ c ts2 h2=>((ih m hm).2 k (d + 1) ts2 h2 (by omega)).bind λ t ts3 h3=>?_)
       split
       . exact ((ih m hm).2 k (d + 1) _ (by rw [List.length_tail]; omega) (by omega)).bind λ _ _ h=>(ih m hm).1 k d _ _ h (by omega)
       . exact (ih m hm).1 k d _ _ h3 (by omega)
   split
   . exact D6
   . exact .ok hts
 . obtain ⟨k,rfl⟩ : ∃ j,k = j + 1:=⟨k - 1,by omega⟩
   rw [blockP]
   cases n with
   | zero =>
     have : ts = []:=List.eq_nil_of_length_eq_zero (by omega)
     subst this
     exact D6
   | succ m=>exact up rfl ((n7 (n:=m) hts).bind λ _ _ h=>((ih m rfl).1 k d _ _ h (by omega)).bind λ _ _ h=>(n7 (by omega)).bind λ _ _ h=>.ok h)
termination_by n
decreasing_by omega
def FU : Nat:=400000
def A6 {α : Type} (z : α) (r : Rs α) : α × Int × Int:=match r with
 | .ok v ts=>if (hdT ts).kind = 6 then (v,0,0) else (z,((hdT ts).at_ : Int),60)
 | .er a e=>(z,(a : Int),e)
 | .out=>(z,0,0)
def z6 {α : Type} (z : α) (P : List Tk -> Rs α) (src : List UInt8) : α × Int × Int:=match bads src 0 (-1) 0 with
 | b :: _=>(z,(b : Int),50)
 | []=>A6 z (P (toks src 0))
def cz : Cond:=⟨0,0,0,[]⟩
def s6 (src : List UInt8) : Cond × Int × Int:=z6 cz (condP FU 0) src
def t7 (src : List UInt8) : List Step × Int × Int:=z6 [] (l6 FU 0 []) src
theorem a7P (src : List UInt8) (hl : src.length <= 65536) : condP FU 0 (toks src 0) ≠ .out:=by
 have:=a0P src
 exact ((a4A (toks src 0).length).2.2.2.1 FU 0 _ (Nat.le_refl _) (by unfold FU; omega)).1
theorem b0Z (src : List UInt8) (hl : src.length <= 65536) : l6 FU 0 [] (toks src 0) ≠ .out:=by
 have:=a0P src
 exact ((a6m (toks src 0).length).1 FU 0 [] _ (Nat.le_refl _) (by unfold FU; omega)).1
end Go.Proofs.YtaopegkpjhkooaaGreatDoor.Dx
