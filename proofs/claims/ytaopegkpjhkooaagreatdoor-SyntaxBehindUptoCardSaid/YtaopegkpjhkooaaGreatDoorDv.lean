/- The scanner's other readers,and all of them in a row. -/
import Derived.Test.YtaopegkpjhkooaaGreatDoorDu
import Derived.Test.YtaopegkpjhkooaaGreatDoorDp
set_option linter.all false
namespace Go.Proofs.YtaopegkpjhkooaaGreatDoor.Dx
open Go Go.RowKit Go.Proofs
set_option maxRecDepth 100000
set_option maxHeartbeats 8000000
abbrev s8 : Prop:=∀ s : List UInt8,s.length <= 1048576 -> Meets Tryz.prog 101 [.str s] λ d=>d = Y6 s
theorem a8U (hT : s8) (s : List UInt8) (hs : s.length <= 1048576) : Meets Tryz.prog 48 [.str s] λ d=>d = bD (x9 s).isSome:=by
 have k:=hT s hs
 unfold Y6 at k
 cases ht : x9 s with
 | none =>
   rw [ht] at k
   refine enter tok {} Tryz.func48 rfl (by kernel_rfl) Tryz.ntmps48 (by simp) λ B0 W0 V0 lent g0=>?_
   ((conv=>whnf);repeat'(refine Z rfl ?_;conv=>whnf))
   repeat' ((first | (intro hlq; (try simp only [SL] at hlq)) | refine Meets.k (k) ?_ | refine Ks ?_ | refine Kq ?_ | refine Kt ?_ | ((refine Kh (λ hb=>?_) λ hb=>?_) <;> (try simp only [BL] at hb)) | refine Ka ?_ | refine Kb ?_ | refine Kc (hd:=rfl) (e:=?_) | refine Kc (hd:=d7 _) (e:=?_) | refine Kd (e:=?_) | refine Kl rfl ?_ | fail) <;> ((conv=>whnf);repeat'(refine Z rfl ?_;conv=>whnf)))
   all_goals first | exact ⟨rfl⟩ | (exfalso; omega)
 | some v =>
   rw [ht] at k
   refine enter tok {} Tryz.func48 rfl (by kernel_rfl) Tryz.ntmps48 (by simp) λ B0 W0 V0 lent g0=>?_
   ((conv=>whnf);repeat'(refine Z rfl ?_;conv=>whnf))
   repeat' ((first | (intro hlq; (try simp only [SL] at hlq)) | refine Meets.k (k) ?_ | refine Ks ?_ | refine Kq ?_ | refine Kt ?_ | ((refine Kh (λ hb=>?_) λ hb=>?_) <;> (try simp only [BL] at hb)) | refine Ka ?_ | refine Kb ?_ | refine Kc (hd:=rfl) (e:=?_) | refine Kc (hd:=d7 _) (e:=?_) | refine Kd (e:=?_) | refine Kl rfl ?_ | fail) <;> ((conv=>whnf);repeat'(refine Z rfl ?_;conv=>whnf)))
   all_goals first | exact ⟨rfl⟩ | (exfalso; omega)
theorem b7E (hT : s8) (src : List UInt8) (a : Nat) (ha : a < src.length) (hl : src.length <= 65536) (hc : t8 src[a] = false) (hd : (g7 src[a] || (src[a] == 45 && I0 (src.drop (a + 1)))) = true) :
 Meets Tryz.prog 88 [scP src a] λ d=>d = rdD a (l5 (src.drop a)):=by
 have k1:=b0D src a (a + 1) true (by omega)
 have hle:=P2 true (src.drop (a + 1))
 rw [List.length_drop] at hle
 have hr : l5 (src.drop a) = G5 ((src.drop a).take (l0 true (src.drop (a + 1)) + 1)) (l0 true (src.drop (a + 1)) + 1):=by
  rw [List.drop_eq_getElem_cons ha,l5,hc,if_neg (by decide),if_pos hd]
 rw [hr]
 generalize hn : l0 true (src.drop (a + 1)) + 1 = n at *
 have k1 : Meets Tryz.prog 86 [scP src a,iD ((a : Int) + 1),bD true] λ d=>d = iD (a + n : Nat):=by
  rw [show a + 1 + l0 true (src.drop (a + 1)) = a + n by omega] at k1
  exact k1
 have hn' : a + n <= src.length:=by omega
 have k2:=a1Z src a 2 a n hn' rfl
 have k3:=a1Z src a 3 a n hn' rfl
 have e:=a8j src a n
 have hlen : ((src.drop a).take n).length <= 65536:=by rw [List.length_take,List.length_drop]; omega
 have k4:=a8T ((src.drop a).take n) (by unfold maxLen; omega)
 have k5:=a8U hT ((src.drop a).take n) (by omega)
 rw [<- e] at k4 k5
 clear hr hn hle hd hc
 rw [G5]
 refine enter tok {} Tryz.func88 rfl (by kernel_rfl) Tryz.ntmps88 (by simp) λ B0 W0 V0 lent g0=>?_
 ((conv=>whnf);repeat'(refine Z rfl ?_;conv=>whnf))
 repeat' ((first | (intro hlq; (try simp only [SL] at hlq)) | refine Meets.k (k1) ?_ | refine Ks ?_ | refine Kq ?_ | refine Kt ?_ | ((refine Kh (λ hb=>?_) λ hb=>?_) <;> (try simp only [BL] at hb)) | refine Ka ?_ | refine Kb ?_ | refine Kc (hd:=rfl) (e:=?_) | refine Kc (hd:=d7 _) (e:=?_) | refine Kd (e:=?_) | refine Kl rfl ?_ | fail) <;> ((conv=>whnf);repeat'(refine Z rfl ?_;conv=>whnf)))
 refine k9 tok (cf:={}) (by kernel_rfl) [.p 0,.p 1,.p 2,.p 3,.p 4,.p 5,.p 6,.p 7,.p 8,.p 9,.p 10,.p 11] (by kernel_rfl) ?_
 ((conv=>whnf);repeat'(refine Z rfl ?_;conv=>whnf))
 repeat' ((first | (intro hlq; (try simp only [SL] at hlq)) | refine Ky ?_ | refine ⟨_,a7r _ _ _,?_⟩ | refine Ks ?_ | refine Kq ?_ | refine Kt ?_ | ((refine Kh (λ hb=>?_) λ hb=>?_) <;> (try simp only [BL] at hb)) | refine Ka ?_ | refine Kb ?_ | refine Kc (hd:=rfl) (e:=?_) | refine Kc (hd:=d7 _) (e:=?_) | refine Kd (e:=?_) | refine Kl rfl ?_ | fail) <;> ((conv=>whnf);repeat'(refine Z rfl ?_;conv=>whnf)))
 repeat' ((first | (intro hlq; (try simp only [SL] at hlq)) | refine Meets.k (k4) ?_ | refine Meets.k (k5) ?_ | refine Meets.k (k2) ?_ | refine Meets.k (k3) ?_ | refine Ks ?_ | refine Kq ?_ | refine Kt ?_ | ((refine Kh (λ hb=>?_) λ hb=>?_) <;> (try simp only [BL] at hb)) | refine Ka ?_ | refine Kb ?_ | refine Kc (hd:=rfl) (e:=?_) | refine Kc (hd:=d7 _) (e:=?_) | refine Kd (e:=?_) | refine Kl rfl ?_ | fail) <;> ((conv=>whnf);repeat'(refine Z rfl ?_;conv=>whnf)))
 all_goals
  rw [e] at *
  refine ⟨?_⟩
  simp [tkA, *]
theorem Kyz {l : List UInt8} {i : Int} {E : Prop} (e : E) (h : 0 <= i /\ i <= (l.length : Int):=by omega) : ((d9 l).length <= maxLen -> 0 <= i /\ i <= ((d9 l).length : Int) /\ ((d9 l).length : Int) <= ((d9 l).length : Int) /\ ∀ ds ∈ d9 l,ds.length = 1) /\ E :=
 ⟨λ _=>⟨h.1,by rw [List.length_map]; exact h.2,Int.le_refl _,a7s l⟩,e⟩
theorem b7F (src : List UInt8) (a : Nat) (ha : a < src.length) (hl : src.length <= 65536) (h34 : src[a] = 34) :
 Meets Tryz.prog 90 [scP src a] λ d=>d = rdD a (l5 (src.drop a)):=by
 have hd : src.drop a = 34 :: src.drop (a + 1):=by rw [List.drop_eq_getElem_cons ha,h34]
 have kq:=b7B (src.drop a) (by rw [List.length_drop]; omega)
 have e : List.drop ((a : Nat) : Int).toNat (List.take ((d9 src).length : Int).toNat (d9 src)) = d9 (src.drop a):=by
  rw [Int.toNat_natCast,Int.toNat_natCast,List.take_of_length_le (Nat.le_refl _)]; simp [d9,List.map_drop]
 rw [<- e] at kq
 rw [show (src.drop a).drop 1 = src.drop (a + 1) by rw [List.drop_drop]] at kq
 have hr : l5 (src.drop a) = match j9 (src.drop (a + 1)) with | some (s,n)=>(4,s,n + 1) | none=>(0,[],1):=by
  rw [hd,l5,if_neg (by decide),if_neg (by simp; decide),if_pos rfl]
  rfl
 rw [hr]
 clear hr hd e
 cases hq : j9 (src.drop (a + 1)) with
 | none =>
   rw [hq] at kq
   have kq : Meets Tryz.prog 91 _ λ d=>d = .tup [.str [],iD 0]:=kq
   refine enter tok {} Tryz.func90 rfl (by kernel_rfl) Tryz.ntmps90 (by simp) λ B0 W0 V0 lent g0=>?_
   ((conv=>whnf);repeat'(refine Z rfl ?_;conv=>whnf))
   refine k9 tok (cf:={}) (by kernel_rfl) [.p 0,.p 1,.p 2,.p 3,.p 4,.p 5,.p 6,.p 7,.p 8,.s 9 [8,3,7,2,6,1,5,0,4],.p 10,.p 11,.p 12,.p 13,.p 14] (by kernel_rfl) ?_
   ((conv=>whnf);repeat'(refine Z rfl ?_;conv=>whnf))
   repeat' ((first | (intro hlq; (try simp only [SL] at hlq)) | refine Kyz ?_ | refine Meets.k (kq) ?_ | refine Ks ?_ | refine Kq ?_ | refine Kt ?_ | ((refine Kh (λ hb=>?_) λ hb=>?_) <;> (try simp only [BL] at hb)) | refine Ka ?_ | refine Kb ?_ | refine Kc (hd:=rfl) (e:=?_) | refine Kc (hd:=d7 _) (e:=?_) | refine Kd (e:=?_) | refine Kl rfl ?_ | fail) <;> ((conv=>whnf);repeat'(refine Z rfl ?_;conv=>whnf)))
   . refine k9 tok (cf:={}) (by kernel_rfl) [.p 0,.p 1,.p 2,.p 3,.p 4,.p 5,.s 6 [0],.p 7] (by kernel_rfl) ?_
     ((conv=>whnf);repeat'(refine Z rfl ?_;conv=>whnf))
     repeat' ((first | (intro hlq; (try simp only [SL] at hlq)) | refine Ks ?_ | refine Kq ?_ | refine Kt ?_ | ((refine Kh (λ hb=>?_) λ hb=>?_) <;> (try simp only [BL] at hb)) | refine Ka ?_ | refine Kb ?_ | refine Kc (hd:=rfl) (e:=?_) | refine Kc (hd:=d7 _) (e:=?_) | refine Kd (e:=?_) | refine Kl rfl ?_ | fail) <;> ((conv=>whnf);repeat'(refine Z rfl ?_;conv=>whnf)))
     exact ⟨rfl⟩
   . exfalso; exact absurd trivial (by assumption)
 | some x =>
   obtain ⟨s,n⟩:=x
   have hb:=a3p _ _ (Nat.le_refl _) _ _ hq
   rw [List.length_drop] at hb
   rw [hq] at kq
   have kq : Meets Tryz.prog 91 _ λ d=>d = .tup [.str s,iD (n + 1 : Nat)]:=kq
   refine enter tok {} Tryz.func90 rfl (by kernel_rfl) Tryz.ntmps90 (by simp) λ B0 W0 V0 lent g0=>?_
   ((conv=>whnf);repeat'(refine Z rfl ?_;conv=>whnf))
   refine k9 tok (cf:={}) (by kernel_rfl) [.p 0,.p 1,.p 2,.p 3,.p 4,.p 5,.p 6,.p 7,.p 8,.s 9 [8,3,7,2,6,1,5,0,4],.p 10,.p 11,.p 12,.p 13,.p 14] (by kernel_rfl) ?_
   ((conv=>whnf);repeat'(refine Z rfl ?_;conv=>whnf))
   repeat' ((first | (intro hlq; (try simp only [SL] at hlq)) | refine Kyz ?_ | refine Meets.k (kq) ?_ | refine Ks ?_ | refine Kq ?_ | refine Kt ?_ | ((refine Kh (λ hb=>?_) λ hb=>?_) <;> (try simp only [BL] at hb)) | refine Ka ?_ | refine Kb ?_ | refine Kc (hd:=rfl) (e:=?_) | refine Kc (hd:=d7 _) (e:=?_) | refine Kd (e:=?_) | refine Kl rfl ?_ | fail) <;> ((conv=>whnf);repeat'(refine Z rfl ?_;conv=>whnf)))
   . exfalso; omega
   . refine k9 tok (cf:={}) (by kernel_rfl) [.p 0,.p 1,.p 2,.p 3,.p 4,.p 5,.p 6,.p 7,.p 8,.p 9,.p 10,.p 11,.s 12 [5,0,1,2,3,4],.p 13] (by kernel_rfl) ?_
     ((conv=>whnf);repeat'(refine Z rfl ?_;conv=>whnf))
     repeat' ((first | (intro hlq; (try simp only [SL] at hlq)) | refine ⟨λ _ _=>i64 (by omega) (by omega),?_⟩ | refine Ks ?_ | refine Kq ?_ | refine Kt ?_ | ((refine Kh (λ hb=>?_) λ hb=>?_) <;> (try simp only [BL] at hb)) | refine Ka ?_ | refine Kb ?_ | refine Kc (hd:=rfl) (e:=?_) | refine Kc (hd:=d7 _) (e:=?_) | refine Kd (e:=?_) | refine Kl rfl ?_ | fail) <;> ((conv=>whnf);repeat'(refine Z rfl ?_;conv=>whnf)))
     exact ⟨rfl⟩
def R0 (q : Nat) (c : UInt8) (t : List UInt8) : Bool:=match q with
 | 0=>t8 c
 | 1=>g7 c || (c == 45 && I0 t)
 | 2=>c == 34
 | 3=>H7 c t
 | 4=>sgB c
 | _=>true
abbrev b0m : List (List D):=[[.fn 83 [] [],.fn 84 [] []],[.fn 87 [] [],.fn 88 [] []],[.fn 89 [] [],.fn 90 [] []],[.fn 92 [] [],.fn 94 [] []],[.fn 95 [] [],.fn 96 [] []],[.fn 97 [] [],.fn 98 [] []]]
theorem b7P (hT : s8) (src : List UInt8) (a q : Nat) (ha : a < src.length) (hl : src.length <= 65536) (hq : q < 6) (hp : ∀ p < q,R0 p src[a] (src.drop (a + 1)) = false) :
 ∃ F G,b0m[((q : Nat) : Int).toNat]? = some [.fn F [] [],.fn G [] []] /\ (Meets Tryz.prog F [scP src a] λ d=>d = bD (R0 q src[a] (src.drop (a + 1)))) /\
   (R0 q src[a] (src.drop (a + 1)) = true -> Meets Tryz.prog G [scP src a] λ d=>d = rdD a (l5 (src.drop a))):=by
 have hd:=List.drop_eq_getElem_cons ha
 match q,hq with
 | 0,_=>exact ⟨83,84,rfl,b2L src a ha,λ h=>b7D src a ha h⟩
 | 1,_=>exact ⟨87,88,rfl,b2M src a ha (by omega),λ h=>b7E hT src a ha hl (hp 0 (by omega)) h⟩
 | 2,_=>exact ⟨89,90,rfl,b2N src a ha,λ h=>b7F src a ha hl (by simpa [R0] using h)⟩
 | 3,_ =>
   refine ⟨92,94,rfl,b2O src a ha (by omega),λ h=>?_⟩
   have h0:=hp 0 (by omega)
   have h1:=hp 1 (by omega)
   have h2:=hp 2 (by omega)
   simp only [R0] at h h0 h1 h2
   have hlen : a + 2 <= src.length:=by
    by_cases hlt : a + 1 < src.length
    . omega
    . rw [List.drop_eq_nil_of_le (by omega)] at h; cases h
   have hr : l5 (src.drop a) = (5,(src.drop a).take 2,2):=by
    rw [hd,l5,h0,if_neg (by decide),h1,if_neg (by decide),if_neg (by simpa using h2),if_pos h]
   rw [hr]
   exact b7G src a hlen (by omega)
 | 4,_ =>
   refine ⟨95,96,rfl,b2P src a ha,λ h=>?_⟩
   have h0:=hp 0 (by omega)
   have h1:=hp 1 (by omega)
   have h2:=hp 2 (by omega)
   have h3:=hp 3 (by omega)
   simp only [R0] at h h0 h1 h2 h3
   have hr : l5 (src.drop a) = (5,[src[a]],1):=by
    rw [hd,l5,h0,if_neg (by decide),h1,if_neg (by decide),if_neg (by simpa using h2),h3,if_neg (by decide),if_pos h]
   rw [hr]
   exact b7H src a ha (by omega)
 | 5,_ =>
   refine ⟨97,98,rfl,b2Q src a,λ h=>?_⟩
   have h0:=hp 0 (by omega)
   have h1:=hp 1 (by omega)
   have h2:=hp 2 (by omega)
   have h3:=hp 3 (by omega)
   have h4:=hp 4 (by omega)
   simp only [R0] at h h0 h1 h2 h3 h4
   have hr : l5 (src.drop a) = (0,[],1):=by
    rw [hd,l5,h0,if_neg (by decide),h1,if_neg (by decide),if_neg (by simpa using h2),h3,if_neg (by decide),h4,if_neg (by decide)]
   rw [hr]
   exact b7I src a ha (by omega)
end Go.Proofs.YtaopegkpjhkooaaGreatDoor.Dx
/- The scanner's box is made. -/
namespace Go.Proofs.YtaopegkpjhkooaaGreatDoor.Dx
open Go Go.RowKit Go.Proofs
set_option maxRecDepth 100000
set_option maxHeartbeats 1000000
abbrev scB (src : List UInt8) (a : Int) : List Base:=.d (.sl (d9 src)) :: iB a :: n4 cls
theorem a5S (src : List UInt8) (a : Int) : (scC src a).map Base.d = scB src a:=by
 show _ :: _ :: (z8 cls).map Base.d = _
 rw [b9r]
theorem b8H {α : Type} (x y : α) (tb zs : List α) (h : tb.length = zs.length) : setRun (x :: y :: zs) 2 tb = x :: y :: tb:=by
 apply List.ext_getElem?
 intro j
 rw [z7 tb (x :: y :: zs) 2 j (by simp; omega)]
 match j with
 | 0=>simp
 | 1=>simp
 | j + 2 =>
   by_cases hj : j < tb.length
   . rw [if_pos (by omega)]; simp
   . rw [if_neg (by omega)]
     simp only [List.getElem?_cons_succ]
     rw [List.getElem?_eq_none (by omega),List.getElem?_eq_none (by omega)]
theorem b4D (xs : List (List D)) (tb : List D) (htl : tb.length = 256) : F8 (λ i=>(([(0,1),(1,1),(2,256)] : List (Nat × Nat)).drop i).head?) (.sl [] :: iD 0 :: List.replicate 256 (cD 0)) [(0,.sl xs),(2,.agg tb)] = some (.sl xs :: iD 0 :: tb):=by
 have h1 : F8 (λ i=>(([(0,1),(1,1),(2,256)] : List (Nat × Nat)).drop i).head?) (.sl [] :: iD 0 :: List.replicate 256 (cD 0)) [(0,.sl xs),(2,.agg tb)] = F8 (λ i=>(([(0,1),(1,1),(2,256)] : List (Nat × Nat)).drop i).head?) (.sl xs :: iD 0 :: List.replicate 256 (cD 0)) [(2,.agg tb)]:=by
  rw [F8]
  rfl
 rw [h1]
 unfold F8
 dsimp only [a0i,List.drop,List.head?]
 rw [htl]
 show F8 _ (setRun _ 2 tb) [] = _
 rw [b8H _ _ _ _ (by rw [htl,List.length_replicate])]
 rfl
theorem b3a (xs : List (List D)) (tb : List D) (htl : tb.length = 256) (kd : D -> Prop) (h : kd (.agg (.sl xs :: iD 0 :: tb))) : a0G T (.build 113 #[(0,.tmp 15),(2,.tmp 16)]) [.sl xs,.agg tb] kd:=by
 obtain ⟨ti,hti⟩ : ∃ ti,c8 113 T = some ti:=⟨_,rfl⟩
 obtain ⟨fs,hfs⟩ : ∃ fs,ti.desc = .struct fs:=by cases hti; exact ⟨_,rfl⟩
 have hz : X3 (cellsL ti.zero) = some (.sl [] :: iD 0 :: List.replicate 256 (cD 0)):=by cases hti; kernel_rfl
 have hp : N8 T fs.toList = some [(0,1),(1,1),(2,256)]:=by cases hti; cases hfs; kernel_rfl
 unfold a0G
 simp only [hti,hz,hfs,hp]
 show match F8 _ _ [(0,D.sl xs),(2,D.agg tb)] with | some r=>kd (.agg r) | none=>False
 rw [b4D xs tb htl]
 exact h
theorem b9p (n : Nat) (f : Nat -> Int) : (n4 f).any (p0 n) = false:=by
 rw [List.any_eq_false]
 intro b hb
 obtain ⟨d,_,rfl⟩:=List.mem_map.1 hb
 simp [p0]
theorem b2X {cf : Cfg} {xs : List UInt8} {st : SSt} {k : SSt -> Prop} (hO : st.O = []) (hnm : cf.nm = []) (hc : p5 18 st = true) (h : k (put { st with O:=[(18,.box (scB xs 0) 113)] } (some 18) (.loc 18 0))) :
 X9 cf.nm st (some 18) 113 (scB xs 0) k:=by
 unfold X9
 dsimp only
 rw [hnm]
 show match p5 18 st && !(scB xs 0).any (p0 18) with | false=>False | true=>_
 have e : (scB xs 0).any (p0 18) = false:=by
  show (false || (false || (n4 cls).any (p0 18))) = false
  rw [b9p]; rfl
 rw [hc,e]
 show k (put { st with O:=(18,.box (scB xs 0) 113) :: st.O } _ _)
 rw [hO]
 exact h
theorem b2W {cf : Cfg} {xs : List UInt8} {st : SSt} {k : SSt -> Prop} {kp : D -> SSt -> Prop} (hO : st.O = []) (hnm : cf.nm = []) (hc : p5 18 st = true) (h : k (put { st with O:=[(18,.box (scB xs 0) 113)] } (some 18) (.loc 18 0))) :
 vcS Tryz.prog T cf (.box 113 (.tmp 17)) (some 18) [.d (.agg (.sl (d9 xs) :: iD 0 :: z8 cls))] st k kp:=by
 obtain ⟨ti,hti⟩ : ∃ ti,c8 113 T = some ti:=⟨_,rfl⟩
 have hs : ti.size = 258:=by cases hti; rfl
 unfold vcS
 simp only [hti]
 show match U6 st.O (.d (.agg (.sl (d9 xs) :: iD 0 :: z8 cls))) with | some cs=>(match Nat.beq cs.length ti.size with | true=>N9 cs λ cs=>X9 cf.nm st (some 18) 113 cs k | false=>False) | none=>False
 have e : U6 st.O (.d (.agg (.sl (d9 xs) :: iD 0 :: z8 cls))) = some (scB xs 0):=by
  show some ((scC xs 0).map Base.d) = _
  rw [a5S]
 have hl : (scB xs 0).length = 258:=by
  show (n4 cls).length + 1 + 1 = 258
  rw [M4]
 rw [e]
 dsimp only
 rw [hl,hs]
 show N9 (scB xs 0) _
 rw [a1s]
 exact b2X hO hnm hc h
theorem a6N {P : Program} {T : List (Nat × TI)} {N : Nat} {cf : Cfg} {all : Array Oper} {o : Oper} {st : SSt} {k : SSt -> Prop} {kp : D -> SSt -> Prop} {d : Nat} (hd : o.dst = some d) (hN : Nat.blt d N = true) (hg : o.guard = none)
 (h : A8 st o.op.operands.toList λ bs=>vcS P T cf o.op (some d) bs st k kp) : a0R P T N cf all o st k kp:=by
 obtain ⟨dst,op,ty,pos,af,gd⟩:=o
 cases hd
 cases hg
 unfold a0R
 dsimp only
 rw [hN]
 exact h
theorem a8J {st : SSt} {t : Nat} {b : Base} {k : List Base -> Prop} (h : c8 t st.L = some b) (hk : k [b]) : A8 st [.tmp t] k:=by
 unfold A8 J0
 dsimp only
 rw [h]
 exact hk
theorem b7S {cf : Cfg} {all : Array Oper} {kp : D -> SSt -> Prop} {k : SSt -> Prop} {xs : List UInt8} {tb : List D} (htb : tb = z8 cls) {L : List (Nat × Base)} {p : List Nat} {y1 y2 y3 : TypeId} {p1 p2 p3 : String} {a1 a2 a3 : Array Edge} (hnm : cf.nm = []) (hpr : j5 17 cf.priv = false)
 (h16 : c8 16 L = some (.d (.agg tb))) (h15 : c8 15 L = some (.d (.sl (d9 xs)))) (hc : p5 18 ⟨(17,.d (.agg (.sl (d9 xs) :: iD 0 :: tb))) :: L,[],p⟩ = true)
 (h : k ⟨(5,.loc 18 0) :: (18,.loc 18 0) :: (17,.d (.agg (.sl (d9 xs) :: iD 0 :: tb))) :: L,[(18,.box (scB xs 0) 113)],p⟩) :
 T4 Tryz.prog T 130 cf all kp [⟨some 17,.build 113 #[(0,.tmp 15),(2,.tmp 16)],y1,p1,a1,none⟩,⟨some 18,.box 113 (.tmp 17),y2,p2,a2,none⟩,⟨some 5,.assign (.tmp 18),y3,p3,a3,none⟩] ⟨L,[],p⟩ k:=by
 unfold T4
 refine a6N rfl rfl rfl ?_
 show J0 _ (.tmp 15) λ b=>J0 _ (.tmp 16) λ b'=>_
 unfold J0
 dsimp only
 rw [h15,h16]
 dsimp only
 unfold vcS
 dsimp only
 rw [hpr]
 have hv : o3 [] [Base.d (D.sl (d9 xs)),Base.d (D.agg tb)] = some [D.sl (d9 xs),D.agg tb]:=rfl
 simp only [List.map_nil,A8]
 rw [hv]
 dsimp only
 unfold vcP
 simp only [a5x]
 rw [hv]
 dsimp only
 unfold vcV
 dsimp only
 unfold a0H
 rw [hv]
 show a0G T (.build 113 #[(0,.tmp 15),(2,.tmp 16)]) [.sl (d9 xs),.agg tb] _
 refine b3a _ _ (by rw [htb]; exact a3J cls) _ ?_
 show O9 _ _
 rw [S2]
 unfold T4
 refine a6N rfl rfl rfl (a8J (t:=17) rfl ?_)
 subst htb
 refine b2W rfl hnm hc ?_
 rw [S2]
 unfold T4
 refine a6N rfl rfl rfl (a8J (t:=18) rfl ?_)
 unfold vcS
 dsimp only
 unfold vcP
 simp only [a5x]
 unfold vcV
 dsimp only
 rw [S2]
 exact h
theorem C5 (O : List (Nat × Blk)) (src : List UInt8) (a : Int) : U3 O (scB src a) (scB src a):=⟨rfl,rfl,I9 _ _⟩
theorem a2X {F : FuncId} {ds : List D} {R : D -> Prop} {src : List UInt8} {a : Int} {bs : List Base} (h : Meets Tryz.prog F ds R) (hl : a1A 18 (scC src a) bs = some ds) (hk : ∀ d,R d -> C7 d = true) :
 MeetsR Tryz.prog F bs [(18,.box (scB src a) 113)] λ o O'=>∃ d,o = .ret (.d d) /\ O' = [(18,.box (scB src a) 113)] /\ R d:=by
 rw [<- a5S]
 exact b5Q h [(18,.box ((scC src a).map .d) 113)] rfl hl hk
theorem a2w (d : D) (src : List UInt8) (a : Int) : N5 (.d d) [(18,.box (scB src a) 113)] = true:=by
 rw [<- a5S]; exact b3s _ _ _ _
end Go.Proofs.YtaopegkpjhkooaaGreatDoor.Dx
