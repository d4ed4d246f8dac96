/- The code's Time. -/
import Derived.Test.YtaopegkpjhkooaaGreatDoorDr
import Derived.Test.YtaopegkpjhkooaaGreatDoorDp
set_option linter.all false
namespace Go.Proofs.YtaopegkpjhkooaaGreatDoor.Dx
open Go Go.RowKit Go.Proofs
set_option maxRecDepth 100000
set_option maxHeartbeats 8000000
theorem b8O {s u : List UInt8} {sg : Int} (h : P5 s = (sg,u)) (hs : s.length <= maxLen) : Meets Tryz.prog 99 [.str s,.str [45]] λ d=>d = .tup [.str u,bD (decide (sg < 0))]:=by
 have hc:=a6U s [45] hs
 by_cases hb : ∃ r,s = 45 :: r
 . obtain ⟨r,rfl⟩:=hb
   cases h
   rw [(a2E u).1,(a2E u).2] at hc
   exact hc
 . have hb : ∀ r,s ≠ 45 :: r:=λ r e=>hb ⟨r,e⟩
   rw [b0T (by cases s with | nil=>simp | cons b r=>intro e; exact hb r (by rw [show b = 45 by simpa using e]))] at h
   cases h
   rw [(a2F hb).1,(a2F hb).2] at hc
   exact hc
theorem b3q {s : List UInt8} {c : UInt8} {w r : List UInt8} {p : Bool} (h : n8 c s = (w,r,p)) (hs : s.length < 4294967281) : Meets Tryz.prog 130 [.str s,.str [c]] λ d=>d = .tup [.str w,.str r,bD p]:=by
 have:=b1Z s [c] hs
 rw [b5R,h] at this
 exact this
theorem b8N {s u : List UInt8} {sg : Int} (h : P5 s = (sg,u)) : u.length <= s.length /\ (sg = 1 \/ sg = -1):=by
 unfold P5 at h
 split at h
 . cases h; simp
 . cases h; simp
theorem b3J {c : UInt8} {s w r : List UInt8} {p : Bool} (h : n8 c s = (w,r,p)) : w.length <= s.length:=by
 cases p
 . obtain ⟨rfl,_,_⟩:=E7 h; exact Nat.le_refl _
 . obtain ⟨rfl,_⟩:=H6 h; simp
theorem b3K {c : UInt8} {s w r : List UInt8} {p : Bool} (h : n8 c s = (w,r,p)) : r.length <= s.length:=by
 cases p
 . obtain ⟨rfl,rfl,_⟩:=E7 h; simp
 . obtain ⟨rfl,_⟩:=H6 h; simp; omega
theorem Kq1 {α : Type} {xs : List α} {f : α -> List D} {x : List D} {n : Nat} {E : Prop} (hk : ∀ y,(f y).length = n) (hx : x.length = n) (e : E) : ((x :: xs.map f).length <= maxLen -> 0 <= (1 : Int) /\ (1 : Int) <= ((x :: xs.map f).length : Int) /\ ((x :: xs.map f).length : Int) <= ((x :: xs.map f).length : Int) /\ ∀ ds ∈ x :: xs.map f,ds.length = n) /\ E :=
 ⟨λ _=>⟨by omega,by simp only [List.length_cons]; omega,Int.le_refl _,λ ds h=>by
  rcases List.mem_cons.1 h with rfl | h
  . exact hx
  . obtain ⟨y,_,rfl⟩:=List.mem_map.1 h; exact hk y⟩,e⟩
theorem b9B (x : List D) (r : List (List D)) : List.drop (Int.toNat 1) (List.take (Int.toNat ((x :: r).length : Int)) (x :: r)) = r:=by
 rw [Int.toNat_natCast,List.take_of_length_le (Nat.le_refl _)]; rfl
theorem B8 (s : List UInt8) (hl : s.length <= 1048576) : Meets Tryz.prog 101 [.str s] λ d=>d = Y6 s:=by
 obtain ⟨sg,u,hs⟩ : ∃ sg u,P5 s = (sg,u):=⟨_,_,rfl⟩
 obtain ⟨hul,hsg⟩:=b8N hs
 rw [b9J,hs]
 dsimp only
 have k0:=b8O hs (by unfold maxLen; omega)
 rcases hp : n8 46 u with ⟨w,f,p⟩
 rcases hq : n8 58 w with ⟨a,r,c⟩
 have hwl:=b3J hp
 obtain ⟨rest,hsp,hU⟩:=b9M hp hq
 rw [hU]
 have k1:=b3q hp (by omega)
 have k2:=b2t w [58] (by omega) (by simp)
 rw [hsp] at k2
 have k2 : Meets Tryz.prog 131 [.str w,.str [58]] λ d=>d = .sl (E2 a :: rest.map E2):=k2
 have k3:=(a5d a).bl
 have k4:=(a4G f 1 6).bl
 have k5:=λ (h : o7 a = true)=>a4a a (numN a : Int) (a1H h).2 (a4o (S3 h).1 (S3 h).2) (i64 (by omega) (by have:=a9Q (a1H h).1 (a1H h).2; omega))
 have hna:=λ (h : o7 a = true)=>a9Q (a1H h).1 (a1H h).2
 have hmic : o7 a = o7 a:=rfl
 have hfl : f.length <= 1048576:=by
  have:=b3K hp; omega
 have hfd : p = false -> f = []:=λ h=>by subst h; exact (E7 hp).2.1
 clear hU hp hq hsp hs hwl hul
 by_cases hE : o7 a = false \/ rest.length > 2 \/ (rest.length = 0 /\ p = false) \/ (p = true /\ r5 f 1 6 = false)
 . rw [a2y,if_pos hE]
   show Meets _ _ _ λ d=>d = a4K
   clear k5 hna hmic hfd
   generalize decide (sg < 0) = ng at *
   generalize o7 a = nb at *
   generalize r5 f 1 6 = df at *
   cases nb <;> cases p <;> cases df
   all_goals
    refine enter tok {} Tryz.func101 rfl (by kernel_rfl) Tryz.ntmps101 (by simp) λ B0 W0 V0 lent g0=>?_
    ((conv=>whnf);repeat'(refine Z rfl ?_;conv=>whnf))
    repeat' ((first | (intro hlq; (try simp only [SL] at hlq)) | refine Meets.k (k0) ?_ | refine Meets.k (k1) ?_ | refine Meets.k (k2) ?_ | refine Meets.k (k3) ?_ | refine Meets.k (k4) ?_ | refine ⟨E2 a,⟨by omega,rfl,rfl⟩,?_⟩ | refine Ks ?_ | refine Kq ?_ | refine Kt ?_ | ((refine Kh (λ hb=>?_) λ hb=>?_) <;> (try simp only [BL] at hb)) | refine Ka ?_ | refine Kb ?_ | refine Kc (hd:=rfl) (e:=?_) | refine Kc (hd:=d7 _) (e:=?_) | refine Kd (e:=?_) | refine Kl rfl ?_ | fail) <;> ((conv=>whnf);repeat'(refine Z rfl ?_;conv=>whnf)))
    all_goals first
     | contradiction
     | exact ⟨rfl⟩
     | (exfalso
        simp only [List.length_cons,List.length_map] at *
        rcases hE with h9 | h9 | ⟨h9,h10⟩ | ⟨h9,h10⟩ <;> first | (cases h9; done) | (cases h10; done) | omega)
 . rw [a2y, if_neg hE]
   simp only [not_or,Bool.not_eq_false] at hE
   obtain ⟨hA,hR,hP,hF⟩:=hE
   have k7:=k5 hA
   have hna7:=hna hA
   clear k5 hna
   have hz : ((f ++ [48,48,48,48,48,48]).take 6).all g7 = true /\ ((f ++ [48,48,48,48,48,48]).take 6).length = 6:=by
    refine ⟨?_,by simp⟩
    cases p with
    | false=>rw [hfd rfl]; decide
    | true =>
      rcases a8F f with ⟨_,_,h⟩ | ⟨h,_⟩
      . exact h
      . exact absurd ⟨rfl,h⟩ hF
   have hm0:=a3m 6 _ hz.2 hz.1
   have k6 : Meets Tryz.prog 125 [.str ((f ++ [48,48,48,48,48,48]).take 6)] λ d=>d = .tup [iD (numN ((f ++ [48,48,48,48,48,48]).take 6) : Int),.v .nilIface] :=
    a4a _ _ (by rw [hz.2]; decide) (a4o hz.1 (λ e=>by have:=hz.2; rw [e] at this; cases this)) (i64 (by omega) (by omega))
   clear hfd hz
   generalize hmm : (numN ((f ++ [48,48,48,48,48,48]).take 6) : Int) = mic at *
   have hmic0 : 0 <= mic /\ mic < 1000000:=by omega
   clear hmic hmm hm0
   generalize hnn : (numN a : Int) = na at *
   have hna0 : 0 <= na /\ na < 1000000000000000000:=by omega
   have hlen : (E2 a :: rest.map E2).length = rest.length + 1:=by simp
   clear hna7 hnn
   have hgo : (rest.length = 0 -> p = true):=by
    intro h
    cases p
    . exact absurd ⟨h,rfl⟩ hP
    . rfl
   rw [hA] at k3
   have k4' : p = true -> Meets Tryz.prog 129 [.str f,iD 1,iD 6] λ d=>d = .bl true:=by
    intro h
    have : r5 f 1 6 = true:=by
     cases hd : r5 f 1 6
     . exact absurd ⟨h,hd⟩ hF
     . rfl
    rw [this] at k4
    exact k4
   generalize o7 a = nb at *
   clear hP
   have sx:=λ x=>b8P x
   refine enter tok {} Tryz.func101 rfl (by kernel_rfl) Tryz.ntmps101 (by simp) λ B0 W0 V0 lent g0=>?_
   ((conv=>whnf); repeat' ((fail_if_success (refine M9 4 ?_)); refine Z rfl ?_;conv=>whnf))
   repeat' ((first | (intro hlq; (try simp only [SL] at hlq)) | refine Meets.k (k0) ?_ | refine Meets.k (k1) ?_ | refine Meets.k (k2) ?_ | refine Ks ?_ | refine Kq ?_ | refine Kt ?_ | ((refine Kh (λ hb=>?_) λ hb=>?_) <;> (try simp only [BL] at hb)) | refine Ka ?_ | refine Kb ?_ | refine Kc (hd:=rfl) (e:=?_) | refine Kc (hd:=d7 _) (e:=?_) | refine Kd (e:=?_) | refine Kl rfl ?_ | fail) <;> ((conv=>whnf); repeat' ((fail_if_success (refine M9 4 ?_)); refine Z rfl ?_;conv=>whnf)))
   refine a4f (a4E tok (cf:={}) (X:=Unit) (λ _=>⟨[(8,.d (.sl (E2 a :: rest.map E2))),(6,.d (.str f)),(4,.d (bD (decide (sg < 0)))),(3,iB 0),(2,iB 0)],[],[]⟩) (λ _=>True) ?_ (λ _ _=>?_))
   . clear k6 k7
     cases p
     all_goals
      conv=>whnf
      repeat' ((first | (intro hlq; (try simp only [SL] at hlq)) | refine Meets.k (k3) ?_ | refine Meets.k (k4' rfl) ?_ | refine ⟨E2 a,⟨by omega,rfl,rfl⟩,?_⟩ | refine Ks ?_ | refine Kq ?_ | refine Kt ?_ | ((refine Kh (λ hb=>?_) λ hb=>?_) <;> (try simp only [BL] at hb)) | refine Ka ?_ | refine Kb ?_ | refine Kc (hd:=rfl) (e:=?_) | refine Kc (hd:=d7 _) (e:=?_) | refine Kd (e:=?_) | refine Kl rfl ?_ | fail) <;> ((conv=>whnf);repeat'(refine Z rfl ?_;conv=>whnf)))
      all_goals first
       | contradiction
       | (exfalso; omega)
       | (exfalso; cases hgo (by omega); done)
       | (refine ⟨⟨(),?_,True.intro⟩⟩
          repeat' (first | exact True.intro | exact rfl | refine And.intro ?_ ?_))
   clear k0 k1 k2 k3 k4 k4'
   ((conv=>whnf);repeat'(refine Z rfl ?_;conv=>whnf))
   repeat' ((first | (intro hlq; (try simp only [SL] at hlq)) | refine Meets.k (k7) ?_ | refine ⟨E2 a,⟨by omega,rfl,rfl⟩,?_⟩ | refine Kq1 (λ _=>rfl) rfl ?_ | refine Ks ?_ | refine Kq ?_ | refine Kt ?_ | ((refine Kh (λ hb=>?_) λ hb=>?_) <;> (try simp only [BL] at hb)) | refine Ka ?_ | refine Kb ?_ | refine Kc (hd:=rfl) (e:=?_) | refine Kc (hd:=d7 _) (e:=?_) | refine Kd (e:=?_) | refine Kl rfl ?_ | fail) <;> ((conv=>whnf);repeat'(refine Z rfl ?_;conv=>whnf)))
   rw [b9B]
   refine m9 tok {} [] (X:=Nat × Int) (λ x=>[(67,iB x.1),(9,iB x.2)]) (λ _=>[]) [] (λ x=>x.1 <= rest.length /\ 0 <= x.2 /\ x.2 < 1000000000000000000 /\ P3 (rest.drop x.1) x.2 = P3 rest na) (λ x=>rest.length - x.1) (0,na) ?_
   ((conv=>whnf);repeat'(refine Z rfl ?_;conv=>whnf))
   refine And.intro ?_ ⟨⟨by dsimp only; omega,by dsimp only; omega,by dsimp only; omega,rfl⟩,λ x hΦ=>?_⟩
   . exact Kr
   obtain ⟨i,t⟩:=x
   dsimp only at hΦ ⊢
   obtain ⟨hi,ht0,ht1,he⟩:=hΦ
   rw [<- he]
   ((conv=>whnf);repeat'(refine Z rfl ?_;conv=>whnf))
   refine ⟨λ h1=>?_,λ h1=>?_⟩ <;> (try simp only [BL] at h1) <;> ((conv=>whnf);repeat'(refine Z rfl ?_;conv=>whnf))
   . have h1' : i < rest.length:=by omega
     rw [List.drop_eq_getElem_cons h1',P3] at he ⊢
     have kd:=(a4G rest[i] 2 2).bl
     rcases sx rest[i] with ⟨s1,b0,r0,s2,s3,s4⟩ | ⟨s1,s4,b0,r0,s2,s3⟩ | ⟨s1,s4⟩
     . rw [s1] at kd
       have e0 : rest[i][Int.toNat 0]? = some b0:=by rw [s2]; rfl
       have hd : rest[i].all g7 = true /\ rest[i].length <= 2:=by
        simp only [r5,Bool.and_eq_true,decide_eq_true_eq] at s1; exact ⟨s1.2.2,by omega⟩
       have hlt:=a3m _ _ rfl hd.1
       have hlt2 : 10 ^ rest[i].length <= 10 ^ 2:=Nat.pow_le_pow_right (by omega) hd.2
       have ka:=a4a rest[i] (numN rest[i] : Int) (by omega) (a4o hd.1 (by rw [s2]; simp)) (i64 (by omega) (by omega))
       rw [s4] at he ⊢
       have hx : 0 <= (numN rest[i] : Int) /\ (numN rest[i] : Int) < 100:=by omega
       clear hlt hlt2 sx
       generalize (numN rest[i] : Int) = nx at *
       repeat' ((first | (intro hlq; (try simp only [SL] at hlq)) | refine Meets.k (kd) ?_ | refine ⟨b0,⟨by omega,e0⟩,?_⟩ | refine Meets.k (ka) ?_ | refine ⟨λ _=>i64 (by omega) (by omega),?_⟩ | refine ⟨λ _ _=>i64 (by omega) (by omega),?_⟩ | refine Ks ?_ | refine Kq ?_ | refine Kt ?_ | ((refine Kh (λ hb=>?_) λ hb=>?_) <;> (try simp only [BL] at hb)) | refine Ka ?_ | refine Kb ?_ | refine Kc (hd:=rfl) (e:=?_) | refine Kc (hd:=a3x _) (e:=?_) | refine Kd (e:=?_) | refine Kl rfl ?_ | fail) <;> ((conv=>whnf);repeat'(refine Z rfl ?_;conv=>whnf)))
       all_goals first
        | contradiction
        | (exfalso; omega)
        | (refine ⟨?_⟩; rw [if_pos (.inr (by assumption))]; rfl)
        | (refine ⟨⟨(i + 1,60 * t + nx),?_,⟨by dsimp only; omega,by dsimp only; omega,by dsimp only; omega,(if_neg (by omega)).symm⟩,by dsimp only; omega⟩⟩
           repeat' (first | exact True.intro | exact rfl | refine And.intro ?_ ?_))
     . rw [s1] at kd
       have e0 : rest[i][Int.toNat 0]? = some b0:=by rw [s2]; rfl
       repeat' ((first | (intro hlq; (try simp only [SL] at hlq)) | refine Meets.k (kd) ?_ | refine ⟨b0,⟨by omega,e0⟩,?_⟩ | refine Ks ?_ | refine Kq ?_ | refine Kt ?_ | ((refine Kh (λ hb=>?_) λ hb=>?_) <;> (try simp only [BL] at hb)) | refine Ka ?_ | refine Kb ?_ | refine Kc (hd:=rfl) (e:=?_) | refine Kc (hd:=a3x _) (e:=?_) | refine Kd (e:=?_) | refine Kl rfl ?_ | fail) <;> ((conv=>whnf);repeat'(refine Z rfl ?_;conv=>whnf)))
       all_goals first
        | contradiction
        | (exfalso; omega)
        | (refine ⟨?_⟩; rw [if_pos (.inl (by omega))]; rfl)
     . rw [s1] at kd
       repeat' ((first | (intro hlq; (try simp only [SL] at hlq)) | refine Meets.k (kd) ?_ | refine Ks ?_ | refine Kq ?_ | refine Kt ?_ | ((refine Kh (λ hb=>?_) λ hb=>?_) <;> (try simp only [BL] at hb)) | refine Ka ?_ | refine Kb ?_ | refine Kc (hd:=rfl) (e:=?_) | refine Kc (hd:=a3x _) (e:=?_) | refine Kd (e:=?_) | refine Kl rfl ?_ | fail) <;> ((conv=>whnf);repeat'(refine Z rfl ?_;conv=>whnf)))
       all_goals first
        | contradiction
        | (refine ⟨?_⟩; rw [if_pos (.inl (by omega))]; rfl)
   . obtain rfl : i = rest.length:=by omega
     rw [List.drop_length] at he ⊢
     rw [P3]
     clear sx
     dsimp only
     rcases hsg with rfl | rfl
     all_goals
      repeat' ((first | (intro hlq; (try simp only [SL] at hlq)) | refine Meets.k (k6) ?_ | refine ⟨λ _=>⟨by omega,by omega,by simp; omega⟩,?_⟩ | refine ⟨λ _ _=>i64 (by omega) (by omega),?_⟩ | refine ⟨λ _=>i64 (by omega) (by omega),?_⟩ | refine Ks ?_ | refine Kq ?_ | refine Kt ?_ | ((refine Kh (λ hb=>?_) λ hb=>?_) <;> (try simp only [BL] at hb)) | refine Ka ?_ | refine Kb ?_ | refine Kc (hd:=rfl) (e:=?_) | refine Kc (hd:=d7 _) (e:=?_) | refine Kd (e:=?_) | refine Kl rfl ?_ | fail) <;> ((conv=>whnf);repeat'(refine Z rfl ?_;conv=>whnf)))
      all_goals first
       | contradiction
       | (exfalso; omega)
       | (refine ⟨?_⟩; rw [if_pos (by omega)]; rfl)
       | (refine ⟨?_⟩; rw [if_neg (by omega)]; show _ = T3 _ (some _); unfold T3; dsimp only; rw [if_pos (by omega)]; done)
       | (refine ⟨?_⟩; rw [if_neg (by omega)]; show _ = T3 _ (some _); unfold T3; dsimp only; rw [if_neg (by omega)]; rw [show t * 1000000 + mic = 1 * (1000000 * t + mic) by omega]; done)
       | (refine ⟨?_⟩; rw [if_neg (by omega)]; show _ = T3 _ (some _); unfold T3; dsimp only; rw [if_neg (by omega)]; rw [show -(t * 1000000 + mic) = -1 * (1000000 * t + mic) by omega]; done)
end Go.Proofs.YtaopegkpjhkooaaGreatDoor.Dx
