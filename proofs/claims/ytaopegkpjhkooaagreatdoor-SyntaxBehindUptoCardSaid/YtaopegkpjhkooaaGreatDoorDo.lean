/- Digits: strings.Trim at the ten digits,lexis.digits,isNumeral. -/
import Derived.Test.YtaopegkpjhkooaaGreatDoorDm
import Derived.Test.YtaopegkpjhkooaaGreatDoorDn
import Derived.Lib.SplitLaws
set_option linter.all false
namespace Go.Proofs.YtaopegkpjhkooaaGreatDoor.Dx
open Go Go.RowKit Go.Proofs
set_option maxRecDepth 100000
set_option maxHeartbeats 8000000
abbrev qB (b : Bool) : Base:=.d (.bl b)
def A5 (f : Nat -> Bool) : List Base:=(List.range 256).map λ b=>qB (f b)
def B3 (f : Nat -> Bool) : List D:=(List.range 256).map λ b=>bD (f b)
theorem a0L (f : Nat -> Bool) : (A5 f).length = 256:=by simp [A5]
theorem a6o (f : Nat -> Bool) : (B3 f).length = 256:=by simp [B3]
theorem b9t {f g : Nat -> Bool} {i : Nat} {v : Bool} (hi : i < 256) (h : ∀ b,b < 256 -> g b = if b = i then v else f b) : (A5 f).set i (qB v) = A5 g:=by
 apply List.ext_getElem?
 intro b
 simp only [A5,List.getElem?_set,List.length_map,List.length_range,List.getElem?_map]
 by_cases hb : b < 256
 . rw [List.getElem?_range hb]
   simp only [Option.map_some]
   rw [h b hb]
   by_cases e : i = b
   . subst e; simp [hi]
   . rw [if_neg e,if_neg (Ne.symm e)]
 . rw [if_neg (by omega),List.getElem?_eq_none (by simp; omega)]
   rfl
theorem b9v (O : List (Nat × Blk)) (f : Nat -> Bool) : o3 O (A5 f) = some (B3 f):=by
 unfold A5 B3
 generalize List.range 256 = l
 induction l with
 | nil=>rfl
 | cons x l ih=>simp only [List.map_cons,o3,ih]; rfl
theorem b9w (O : List (Nat × Blk)) (f : Nat -> Bool) : o3 O (((A5 f).drop 0).take 256) = some (B3 f):=by
 rw [List.drop_zero,List.take_of_length_le (by rw [a0L]; decide),b9v]
def P6 (f : Nat -> Bool) : List Base:=(List.range 256).map λ b=>.d (bD (f b))
theorem a1X (f : Nat -> Bool) : (P6 f).length = 256:=by simp [P6]
theorem b9x (O : List (Nat × Blk)) (f : Nat -> Bool) : o3 O (P6 f) = some (B3 f):=by
 unfold P6 B3
 generalize List.range 256 = l
 induction l with
 | nil=>rfl
 | cons x l ih=>simp only [List.map_cons,o3,ih]; rfl
theorem b9y (O : List (Nat × Blk)) (f : Nat -> Bool) : o3 O (((P6 f).drop 0).take 256) = some (B3 f):=by
 rw [List.drop_zero,List.take_of_length_le (by rw [a1X]; decide),b9x]
theorem b9s (f : Nat -> Bool) {i : Nat} (h : i < 256) : ∃ r,(B3 f).drop i = bD (f i) :: r:=by
 refine ⟨(B3 f).drop (i + 1),?_⟩
 rw [List.drop_eq_getElem_cons (by rw [a6o]; exact h)]
 simp [B3]
theorem a7g (O : List (Nat × Blk)) (f : Nat -> Bool) : U3 O (A5 f) (A5 f):=by
 unfold A5
 generalize List.range 256 = l
 induction l with
 | nil=>trivial
 | cons x l ih=>exact ⟨rfl,ih⟩
abbrev tenL : List UInt8:=[48,49,50,51,52,53,54,55,56,57]
def x8 (i : Nat) (b : Nat) : Bool:=(tenL.take i).any λ c=>decide (c.toNat = b)
theorem b9D {i : Nat} (h : i < tenL.length) (b : Nat) : x8 (i + 1) b = if b = tenL[i].toNat then true else x8 i b:=by
 rw [x8,List.take_succ_eq_append_getElem h,List.any_append]
 by_cases e : b = tenL[i].toNat
 . rw [if_pos e]; simp [e]
 . rw [if_neg e]
   simp only [List.any_cons,List.any_nil,Bool.or_false,decide_eq_false (Ne.symm e)]
   rfl
theorem b6w : Meets Tryz.prog 179 [.str tenL] λ d=>d = .tup [.agg (B3 (x8 10)),bD true]:=by
 have hten : ∀ x ∈ tenL,x.toNat < 128:=by decide
 refine enter tok {sym:=[2]} Tryz.func179 rfl (by kernel_rfl) Tryz.ntmps179 (by simp) λ B0 W0 V0 lent g0=>?_
 ((conv=>whnf);repeat'(refine Y {sym:=[2]} rfl ?_;conv=>whnf))
 refine a6Y 2 (A5 (x8 0)) ?_
 conv=>whnf
 refine ⟨by kernel_rfl,?_⟩
 conv=>whnf
 refine m9 tok {sym:=[2]} [] (X:=Nat) (λ i=>[(4,iB i)]) (λ i=>[(2,.box (A5 (x8 i)) 248)]) [5] (λ i=>i <= tenL.length) (λ i=>tenL.length - i) 0 ?_
 ((conv=>whnf);repeat'(refine Y {sym:=[2]} rfl ?_;conv=>whnf))
 refine And.intro ?_ ⟨by decide,λ k hk=>?_⟩
 . repeat' (first | exact a7g _ _ | exact True.intro | exact rfl | refine And.intro ?_ ?_)
 ((conv=>whnf);repeat'(refine Y {sym:=[2]} rfl ?_;conv=>whnf))
 repeat' ((first | (intro hlq; (try simp only [SL] at hlq)) | refine Ks ?_ | refine Kq ?_ | refine Kt ?_ | refine Ka ?_ | refine Kb ?_ | refine Kc (hd:=rfl) (e:=?_) | refine Kc (hd:=d7 _) (e:=?_) | refine Kd (e:=?_) | refine Kl rfl ?_ | fail) <;> ((conv=>whnf);repeat'(refine Y {sym:=[2]} rfl ?_;conv=>whnf)))
 refine ⟨λ h1=>?_,λ h1=>?_⟩ <;> (try simp only [BL] at h1) <;> ((conv=>whnf);repeat'(refine Y {sym:=[2]} rfl ?_;conv=>whnf))
 . have h1' : k < tenL.length:=by simp only [tenL,List.length_cons,List.length_nil] at h1 ⊢; omega
   have hb:=hten _ (List.getElem_mem h1')
   refine ⟨_,⟨by omega,by rw [Int.toNat_natCast,List.getElem?_eq_getElem h1']⟩,?_⟩
   ((conv=>whnf);repeat'(refine Y {sym:=[2]} rfl ?_;conv=>whnf))
   refine ⟨λ h2=>?_,λ h2=>?_⟩ <;> (try simp only [BL] at h2) <;> ((conv=>whnf);repeat'(refine Y {sym:=[2]} rfl ?_;conv=>whnf))
   . omega
   repeat' ((first | (intro hlq; (try simp only [SL] at hlq)) | refine Ks ?_ | refine Kq ?_ | refine Kt ?_ | refine Ka ?_ | refine Kb ?_ | refine Kc (hd:=rfl) (e:=?_) | refine Kc (hd:=d7 _) (e:=?_) | refine Kd (e:=?_) | refine Kl rfl ?_ | fail) <;> ((conv=>whnf);repeat'(refine Y {sym:=[2]} rfl ?_;conv=>whnf)))
   refine ⟨by dsimp only; rw [a0L]; omega,?_⟩
   ((conv=>whnf);repeat'(refine Y {sym:=[2]} rfl ?_;conv=>whnf))
   repeat' ((first | (intro hlq; (try simp only [SL] at hlq)) | refine Ks ?_ | refine Kq ?_ | refine Kt ?_ | refine Ka ?_ | refine Kb ?_ | refine Kc (hd:=rfl) (e:=?_) | refine Kc (hd:=d7 _) (e:=?_) | refine Kd (e:=?_) | refine Kl rfl ?_ | fail) <;> ((conv=>whnf);repeat'(refine Y {sym:=[2]} rfl ?_;conv=>whnf)))
   have e1 : (A5 (x8 k)).set (0 + (tenL[k].toNat : Int).toNat * 1) (qB true) = A5 (x8 (k + 1)):=by
    refine b9t (by omega) λ b hb=>?_
    rw [b9D h1',show 0 + (tenL[k].toNat : Int).toNat * 1 = tenL[k].toNat by omega]
   rw [e1]
   refine ⟨⟨k + 1,?_,by omega,by omega⟩⟩
   repeat' (first | exact a7g _ _ | exact True.intro | exact rfl | refine And.intro ?_ ?_)
 . obtain rfl : k = 10:=by simp only [tenL,List.length_cons,List.length_nil] at h1 hk; omega
   refine ⟨B3 (x8 10),⟨b9w _ _,a6o _⟩,?_⟩
   ((conv=>whnf);repeat'(refine Y {sym:=[2]} rfl ?_;conv=>whnf))
   show 0 + (P6 (x8 10)).length <= (A5 (x8 10)).length /\ w9 _ (Blk.box (setRun (A5 (x8 10)) 0 (P6 (x8 10))) 248) _ _
   rw [a5X (by rw [a0L,a1X])]
   refine ⟨by rw [a0L,a1X]; decide,?_⟩
   ((conv=>whnf);repeat'(refine Y {sym:=[2]} rfl ?_;conv=>whnf))
   refine ⟨B3 (x8 10),⟨b9y _ _,a6o _⟩,?_⟩
   ((conv=>whnf);repeat'(refine Y {sym:=[2]} rfl ?_;conv=>whnf))
   exact ⟨rfl⟩
theorem a7j (f : Nat -> Bool) (b : UInt8) : Meets Tryz.prog 198 [.ptr (B3 f) 0,.v (.int .u8 (b.toNat : Int))] λ d=>d = bD (f b.toNat):=by
 have hb:=b.toNat_lt
 obtain ⟨r,hr⟩:=b9s f (i:=b.toNat) (by omega)
 refine enter tok {} Tryz.func198 rfl (by kernel_rfl) Tryz.ntmps198 (by simp) λ B0 W0 V0 lent g0=>?_
 ((conv=>whnf);repeat'(refine Z rfl ?_;conv=>whnf))
 refine ⟨by omega,?_⟩
 ((conv=>whnf);repeat'(refine Z rfl ?_;conv=>whnf))
 generalize hE : List.drop _ _ = E
 have h : E = bD (f b.toNat) :: r:=by
  rw [<- hE,<- hr]
  exact congrArg (λ k=>List.drop k (B3 f)) (by dsimp only; omega)
 clear hE
 subst h
 ((conv=>whnf);repeat'(refine Z rfl ?_;conv=>whnf))
 exact ⟨rfl⟩
def M6 (p : UInt8 -> Bool) (s : List UInt8) : List UInt8:=(s.reverse.dropWhile p).reverse
theorem a4I (p : UInt8 -> Bool) (b : UInt8) (x : List UInt8) : (b :: x).dropWhile p = if p b then x.dropWhile p else b :: x:=by rw [List.dropWhile_cons]
theorem b9V (p : UInt8 -> Bool) (b : UInt8) (x : List UInt8) : M6 p (x ++ [b]) = if p b then M6 p x else x ++ [b]:=by
 rw [M6,List.reverse_append,List.reverse_singleton,List.singleton_append,a4I]
 split
 . rfl
 . simp
theorem b9T (f : Nat -> Bool) (s : List UInt8) : Meets Tryz.prog 180 [.str s,.ptr (B3 f) 0] λ d=>d = .str (s.dropWhile λ b=>f b.toNat):=by
 refine enter tok {} Tryz.func180 rfl (by kernel_rfl) Tryz.ntmps180 (by simp) λ B0 W0 V0 lent g0=>?_
 ((conv=>whnf);repeat'(refine Z rfl ?_;conv=>whnf))
 refine m9 tok {} [] (X:=List UInt8) (λ x=>[(0,.d (.str x))]) (λ _=>[]) [] (λ x=>x.dropWhile (λ b=>f b.toNat) = s.dropWhile (λ b=>f b.toNat)) (λ x=>x.length) s ?_
 ((conv=>whnf);repeat'(refine Z rfl ?_;conv=>whnf))
 refine And.intro ?_ ⟨rfl,λ x hx=>?_⟩
 . exact Kr
 ((conv=>whnf);repeat'(refine Z rfl ?_;conv=>whnf))
 repeat' ((first | (intro hlq; (try simp only [SL] at hlq)) | refine Ks ?_ | refine Kq ?_ | refine Kt ?_ | refine Ka ?_ | refine Kb ?_ | refine Kc (hd:=rfl) (e:=?_) | refine Kc (hd:=d7 _) (e:=?_) | refine Kd (e:=?_) | refine Kl rfl ?_ | fail) <;> ((conv=>whnf);repeat'(refine Z rfl ?_;conv=>whnf)))
 refine ⟨λ h1=>?_,λ h1=>?_⟩ <;> (try simp only [BL] at h1) <;> ((conv=>whnf);repeat'(refine Z rfl ?_;conv=>whnf))
 . match x,hx with
   | [],_=>simp at h1
   | b :: x,hx =>
     rw [a4I] at hx
     refine ⟨b,⟨by omega,rfl⟩,?_⟩
     ((conv=>whnf);repeat'(refine Z rfl ?_;conv=>whnf))
     refine Meets.k (a7j f b) ?_
     ((conv=>whnf);repeat'(refine Z rfl ?_;conv=>whnf))
     refine ⟨λ h2=>?_,λ h2=>?_⟩ <;> (try simp only [BL] at h2) <;> ((conv=>whnf);repeat'(refine Z rfl ?_;conv=>whnf))
     . rw [h2] at hx
       refine ⟨?_⟩
       rw [<- hx]; rfl
     . rw [h2,if_pos rfl] at hx
       repeat' ((first | (intro hlq; (try simp only [SL] at hlq)) | refine Ks ?_ | refine Kq ?_ | refine Kt ?_ | refine Ka ?_ | refine Kb ?_ | refine Kc (hd:=rfl) (e:=?_) | refine Kc (hd:=d7 _) (e:=?_) | refine Kd (e:=?_) | refine Kl rfl ?_ | fail) <;> ((conv=>whnf);repeat'(refine Z rfl ?_;conv=>whnf)))
       refine ⟨⟨x,?_,hx,by simp⟩⟩
       repeat' (first | exact True.intro | exact rfl | refine And.intro ?_ ?_ | (refine congrArg D.str ?_; simp [List.append_assoc]; done))
 . match x,hx with
   | [],hx=>exact ⟨by rw [<- hx]; rfl⟩
   | b :: x,_=>simp at h1
theorem b9W (f : Nat -> Bool) (s : List UInt8) : Meets Tryz.prog 181 [.str s,.ptr (B3 f) 0] λ d=>d = .str (M6 (λ b=>f b.toNat) s):=by
 refine enter tok {} Tryz.func181 rfl (by kernel_rfl) Tryz.ntmps181 (by simp) λ B0 W0 V0 lent g0=>?_
 ((conv=>whnf);repeat'(refine Z rfl ?_;conv=>whnf))
 refine m9 tok {} [] (X:=List UInt8) (λ x=>[(0,.d (.str x))]) (λ _=>[]) [] (λ x=>M6 (λ b=>f b.toNat) x = M6 (λ b=>f b.toNat) s) (λ x=>x.length) s ?_
 ((conv=>whnf);repeat'(refine Z rfl ?_;conv=>whnf))
 refine And.intro ?_ ⟨rfl,λ x hx=>?_⟩
 . exact Kr
 ((conv=>whnf);repeat'(refine Z rfl ?_;conv=>whnf))
 repeat' ((first | (intro hlq; (try simp only [SL] at hlq)) | refine Ks ?_ | refine Kq ?_ | refine Kt ?_ | refine Ka ?_ | refine Kb ?_ | refine Kc (hd:=rfl) (e:=?_) | refine Kc (hd:=d7 _) (e:=?_) | refine Kd (e:=?_) | refine Kl rfl ?_ | fail) <;> ((conv=>whnf);repeat'(refine Z rfl ?_;conv=>whnf)))
 rcases List.eq_nil_or_concat x with rfl | ⟨x,b,rfl⟩
 . refine ⟨λ h1=>?_,λ h1=>?_⟩ <;> (try simp only [BL] at h1) <;> ((conv=>whnf);repeat'(refine Z rfl ?_;conv=>whnf))
   . simp at h1
   . exact ⟨by rw [<- hx]; rfl⟩
 rw [List.concat_eq_append] at hx ⊢
 rw [b9V] at hx
 refine ⟨λ h1=>?_,λ h1=>?_⟩ <;> (try simp only [BL] at h1) <;> ((conv=>whnf);repeat'(refine Z rfl ?_;conv=>whnf))
 . repeat' ((first | (intro hlq; (try simp only [SL] at hlq)) | refine Ks ?_ | refine Kq ?_ | refine Kt ?_ | refine Ka ?_ | refine Kb ?_ | refine Kc (hd:=rfl) (e:=?_) | refine Kc (hd:=d7 _) (e:=?_) | refine Kd (e:=?_) | refine Kl rfl ?_ | fail) <;> ((conv=>whnf);repeat'(refine Z rfl ?_;conv=>whnf)))
   refine ⟨b,⟨by simp only [List.length_append,List.length_cons,List.length_nil]; omega,by simp⟩,?_⟩
   ((conv=>whnf);repeat'(refine Z rfl ?_;conv=>whnf))
   refine Meets.k (a7j f b) ?_
   ((conv=>whnf);repeat'(refine Z rfl ?_;conv=>whnf))
   refine ⟨λ h2=>?_,λ h2=>?_⟩ <;> (try simp only [BL] at h2) <;> ((conv=>whnf);repeat'(refine Z rfl ?_;conv=>whnf))
   . rw [h2] at hx
     refine ⟨?_⟩
     rw [<- hx]; rfl
   . rw [h2,if_pos rfl] at hx
     repeat' ((first | (intro hlq; (try simp only [SL] at hlq)) | refine Ks ?_ | refine Kq ?_ | refine Kt ?_ | refine Ka ?_ | refine Kb ?_ | refine Kc (hd:=rfl) (e:=?_) | refine Kc (hd:=d7 _) (e:=?_) | refine Kd (e:=?_) | refine Kl rfl ?_ | fail) <;> ((conv=>whnf);repeat'(refine Z rfl ?_;conv=>whnf)))
     refine ⟨⟨x,?_,hx,by simp⟩⟩
     have e : (((x ++ [b]).length : Int) - 1).toNat = x.length:=by simp
     rw [e]
     repeat' (first | exact True.intro | exact rfl | refine And.intro ?_ ?_ | (refine congrArg D.str ?_; simp [List.append_assoc]; done))
 . simp at h1
def g7 (b : UInt8) : Bool:=decide (48 <= (b.toNat : Int)) && decide ((b.toNat : Int) <= 57)
theorem b9E (b : UInt8) : x8 10 b.toNat = g7 b:=by
 have h : ∀ n : Fin 256,x8 10 n.1 = (decide (48 <= (n.1 : Int)) && decide ((n.1 : Int) <= 57)):=by decide +kernel
 exact h ⟨b.toNat,b.toNat_lt⟩
theorem b2w (s : List UInt8) : Meets Tryz.prog 156 [.str s,.str tenL] λ d=>d = .str ((M6 g7 s).dropWhile g7):=by
 have e : (λ b : UInt8=>x8 10 b.toNat) = g7:=funext b9E
 have hR:=b9W (x8 10) s
 have hL:=b9T (x8 10) (M6 g7 s)
 rw [e] at hR hL
 refine enter tok {sym:=[5]} Tryz.func156 rfl (by kernel_rfl) Tryz.ntmps156 (by simp) λ B0 W0 V0 lent g0=>?_
 ((conv=>whnf);repeat'(refine Y {sym:=[5]} rfl ?_;conv=>whnf))
 repeat' ((first | (intro hlq; (try simp only [SL] at hlq)) | refine Meets.k (b6w) ?_ | refine Ks ?_ | refine Kq ?_ | refine Kt ?_ | ((refine Kh (λ hb=>?_) λ hb=>?_) <;> (try simp only [BL] at hb)) | refine Ka ?_ | refine Kb ?_ | refine Kc (hd:=rfl) (e:=?_) | refine Kc (hd:=d7 _) (e:=?_) | refine Kd (e:=?_) | refine Kl rfl ?_ | fail) <;> ((conv=>whnf);repeat'(refine Y {sym:=[5]} rfl ?_;conv=>whnf)))
 . subst hb; exact ⟨rfl⟩
 . cases hb
 . exact absurd (by assumption : (tenL.length : Int) = 1) (by decide)
 . exact absurd (by assumption : (tenL.length : Int) = 1) (by decide)
 show 0 + (P6 (x8 10)).length <= (A5 (λ _=>false)).length /\ w9 _ (Blk.box (setRun (A5 (λ _=>false)) 0 (P6 (x8 10))) 248) _ _
 rw [a5X (by rw [a0L,a1X])]
 refine ⟨by rw [a0L,a1X]; decide,?_⟩
 ((conv=>whnf);repeat'(refine Y {sym:=[5]} rfl ?_;conv=>whnf))
 repeat' ((first | (intro hlq; (try simp only [SL] at hlq)) | refine Meets.k (hR) ?_ | refine Meets.k (hL) ?_ | refine Ks ?_ | refine Kq ?_ | refine Kt ?_ | ((refine Kh (λ hb=>?_) λ hb=>?_) <;> (try simp only [BL] at hb)) | refine Ka ?_ | refine Kb ?_ | refine Kc (hd:=rfl) (e:=?_) | refine Kc (hd:=d7 _) (e:=?_) | refine Kd (e:=?_) | refine Kl rfl ?_ | fail) <;> ((conv=>whnf);repeat'(refine Y {sym:=[5]} rfl ?_;conv=>whnf)))
 . exact ⟨rfl⟩
 . cases hb
theorem b9X (s : List UInt8) : (M6 g7 s).dropWhile g7 = [] ↔ s.all g7 = true:=by
 have dw : ∀ (p : UInt8 -> Bool) (l : List UInt8),l.dropWhile p = [] ↔ ∀ x ∈ l,p x = true:=by
  intro p l
  induction l with
  | nil=>simp
  | cons b l ih =>
    rw [a4I]
    by_cases h : p b = true
    . rw [if_pos h,ih]; simp [h]
    . rw [if_neg h]; simp [h]
 have split : s = M6 g7 s ++ (s.reverse.takeWhile g7).reverse:=by
  have:=List.takeWhile_append_dropWhile (p:=g7) (l:=s.reverse)
  have h2:=congrArg List.reverse this
  rw [List.reverse_append,List.reverse_reverse] at h2
  exact h2.symm
 have tail : ∀ x ∈ (s.reverse.takeWhile g7).reverse,g7 x = true:=by
  intro x hx
  rw [List.mem_reverse] at hx
  exact List.all_eq_true.1 (List.all_takeWhile (p:=g7) (l:=s.reverse)) x hx
 rw [dw,List.all_eq_true]
 constructor
 . intro h x hx
   rw [split,List.mem_append] at hx
   exact hx.elim (h x) (tail x)
 . intro h x hx
   exact h x (by rw [split,List.mem_append]; exact .inl hx)
def r5 (s : List UInt8) (lo hi : Int) : Bool:=decide ((s.length : Int) ≥ lo) && (decide ((s.length : Int) <= hi) && s.all g7)
theorem a4G (s : List UInt8) (lo hi : Int) : Meets Tryz.prog 129 [.str s,iD lo,iD hi] λ d=>d = bD (r5 s lo hi):=by
 refine enter tok {} Tryz.func129 rfl (by kernel_rfl) Tryz.ntmps129 (by simp) λ B0 W0 V0 lent g0=>?_
 ((conv=>whnf);repeat'(refine Z rfl ?_;conv=>whnf))
 repeat' ((first | (intro hlq; (try simp only [SL] at hlq)) | refine Meets.k (b2w s) ?_ | refine Ks ?_ | refine Kq ?_ | refine Kt ?_ | ((refine Kh (λ hb=>?_) λ hb=>?_) <;> (try simp only [BL] at hb)) | refine Ka ?_ | refine Kb ?_ | refine Kc (hd:=rfl) (e:=?_) | refine Kc (hd:=d7 _) (e:=?_) | refine Kd (e:=?_) | refine Kl rfl ?_ | fail) <;> ((conv=>whnf);repeat'(refine Z rfl ?_;conv=>whnf)))
 all_goals
  refine ⟨congrArg bD ?_⟩
  try rw [Bool.eq_iff_iff]
  simp only [r5,<- b9X,Bool.and_eq_true,decide_eq_true_eq,Bool.false_eq_true,false_iff]
  first
   | (simp_all; done)
   | (intro h; have:=h.1; have:=h.2.1; omega)
def o7 (s : List UInt8) : Bool:=r5 s 1 18 && (decide (s = [48]) || decide (s.head? ≠ some 48))
theorem a5d (s : List UInt8) : Meets Tryz.prog 100 [.str s] λ d=>d = bD (o7 s):=by
 have hd:=a4G s 1 18
 rcases s with _ | ⟨b,r⟩
 . rw [show r5 [] 1 18 = false from rfl] at hd
   refine enter tok {} Tryz.func100 rfl (by kernel_rfl) Tryz.ntmps100 (by simp) λ B0 W0 V0 lent g0=>?_
   ((conv=>whnf);repeat'(refine Z rfl ?_;conv=>whnf))
   repeat' ((first | (intro hlq; (try simp only [SL] at hlq)) | refine Meets.k (hd) ?_ | refine Ks ?_ | refine Kq ?_ | refine Kt ?_ | ((refine Kh (λ hb=>?_) λ hb=>?_) <;> (try simp only [BL] at hb)) | refine Ka ?_ | refine Kb ?_ | refine Kc (hd:=rfl) (e:=?_) | refine Kc (hd:=d7 _) (e:=?_) | refine Kd (e:=?_) | refine Kl rfl ?_ | fail) <;> ((conv=>whnf);repeat'(refine Z rfl ?_;conv=>whnf)))
   all_goals first | exact absurd (by assumption : false = true) (by decide) | exact ⟨rfl⟩
 . have h48 : (b = 48) = ((b.toNat : Int) = 48):=by
    rw [<- UInt8.toNat_inj]
    exact propext ⟨λ h=>by rw [h]; rfl,λ h=>by have : (48 : UInt8).toNat = 48:=rfl; omega⟩
   refine enter tok {} Tryz.func100 rfl (by kernel_rfl) Tryz.ntmps100 (by simp) λ B0 W0 V0 lent g0=>?_
   ((conv=>whnf);repeat'(refine Z rfl ?_;conv=>whnf))
   repeat' ((first | (intro hlq; (try simp only [SL] at hlq)) | refine Meets.k (hd) ?_ | refine ⟨b,⟨by omega,rfl⟩,?_⟩ | refine Ks ?_ | refine Kq ?_ | refine Kt ?_ | ((refine Kh (λ hb=>?_) λ hb=>?_) <;> (try simp only [BL] at hb)) | refine Ka ?_ | refine Kb ?_ | refine Kc (hd:=rfl) (e:=?_) | refine Kc (hd:=d7 _) (e:=?_) | refine Kd (e:=?_) | refine Kl rfl ?_ | fail) <;> ((conv=>whnf);repeat'(refine Z rfl ?_;conv=>whnf)))
   all_goals
    refine ⟨congrArg bD ?_⟩
    simp only [o7,List.head?_cons,Option.some.injEq,h48,ne_eq]
    simp_all
def A9 (s : List UInt8) : Bool:=match s with | 45 :: r=>o7 r && !decide (r = [48]) | s=>o7 s
end Go.Proofs.YtaopegkpjhkooaaGreatDoor.Dx
/- strings.CutPrefix; isInteger,in the code. -/
namespace Go.Proofs.YtaopegkpjhkooaaGreatDoor.Dx
open Go Go.RowKit Go.Proofs
set_option maxRecDepth 100000
set_option maxHeartbeats 8000000
theorem a0Q {V : Know} {x y : Value} {d e : D} (h : Rep V x d) (k : Rep V y e) : Rep V (.tuple #[x,y]) (.tup [d,e]):=by
 refine .tup [x,y] [d,e] rfl λ i u c hu hc=>?_
 match i with
 | 0=>simp at hu hc; subst hu hc; exact h
 | 1=>simp at hu hc; subst hu hc; exact k
 | i + 2=>simp at hu
theorem b9U (s p : List UInt8) : (Lib.trimPrefix s p).length <= s.length:=by
 unfold Lib.trimPrefix
 split
 . simp
 . exact Nat.le_refl _
theorem a6U (s p : List UInt8) (hs : s.length <= maxLen) : Meets Tryz.prog 99 [.str s,.str p] λ d=>d = .tup [.str (Lib.trimPrefix s p),bD (Lib.hasPrefix s p)]:=by
 refine Meets.still ⟨Tryz.f99,_,Tryz.func99,rfl,by kernel_rfl⟩ λ V W xs hS hx=>?_
 obtain ⟨u,w,rfl,h1,h2⟩:=hx.two
 obtain ⟨rfl,_⟩:=h1.str_inv
 obtain ⟨rfl,_⟩:=h2.str_inv
 refine (Tryz.strings_CutPrefix ⟨⟨s⟩⟩ ⟨⟨p⟩⟩ W).mono ?_
 rintro e W' ⟨rfl,rfl⟩
 refine ⟨_,rfl,rfl,?_⟩
 exact a0Q (.str _ (Nat.le_trans (b9U s p) hs)) (.b _)
theorem a2E (r : List UInt8) : Lib.trimPrefix (45 :: r) [45] = r /\ Lib.hasPrefix (45 :: r) [45] = true:=by
 simp [Lib.trimPrefix,Lib.hasPrefix,List.isPrefixOf]
theorem a2F {s : List UInt8} (h : ∀ r,s ≠ 45 :: r) : Lib.trimPrefix s [45] = s /\ Lib.hasPrefix s [45] = false:=by
 have e : Lib.hasPrefix s [45] = false:=by
  unfold Lib.hasPrefix
  match s,h with
  | [],_=>rfl
  | b :: r,h =>
    have hb : b ≠ 45:=λ e=>h r (by rw [e])
    simp [List.isPrefixOf,Ne.symm hb]
 exact ⟨by rw [Lib.trimPrefix,e]; rfl,e⟩
theorem a2T {s : List UInt8} (h : ∀ r,s ≠ 45 :: r) : A9 s = o7 s:=by
 unfold A9
 split
 . exact absurd rfl (h _)
 . rfl
theorem a8T (s : List UInt8) (hs : s.length <= maxLen) : Meets Tryz.prog 47 [.str s] λ d=>d = bD (A9 s):=by
 have hc:=a6U s [45] hs
 by_cases h : ∃ r,s = 45 :: r
 . obtain ⟨r,rfl⟩:=h
   rw [(a2E r).1,(a2E r).2] at hc
   refine enter tok {} Tryz.func47 rfl (by kernel_rfl) Tryz.ntmps47 (by simp) λ B0 W0 V0 lent g0=>?_
   ((conv=>whnf);repeat'(refine Z rfl ?_;conv=>whnf))
   repeat' ((first | (intro hlq; (try simp only [SL] at hlq)) | refine Meets.k (hc) ?_ | refine Meets.k (a5d r) ?_ | refine Ks ?_ | refine Kq ?_ | refine Kt ?_ | ((refine Kh (λ hb=>?_) λ hb=>?_) <;> (try simp only [BL] at hb)) | refine Ka ?_ | refine Kb ?_ | refine Kc (hd:=rfl) (e:=?_) | refine Kc (hd:=d7 _) (e:=?_) | refine Kd (e:=?_) | refine Kl rfl ?_ | fail) <;> ((conv=>whnf);repeat'(refine Z rfl ?_;conv=>whnf)))
   all_goals (refine ⟨congrArg bD ?_⟩; simp_all [A9])
 . have h : ∀ r,s ≠ 45 :: r:=λ r e=>h ⟨r,e⟩
   rw [(a2F h).1,(a2F h).2] at hc
   refine enter tok {} Tryz.func47 rfl (by kernel_rfl) Tryz.ntmps47 (by simp) λ B0 W0 V0 lent g0=>?_
   ((conv=>whnf);repeat'(refine Z rfl ?_;conv=>whnf))
   repeat' ((first | (intro hlq; (try simp only [SL] at hlq)) | refine Meets.k (hc) ?_ | refine Meets.k (a5d s) ?_ | refine Ks ?_ | refine Kq ?_ | refine Kt ?_ | ((refine Kh (λ hb=>?_) λ hb=>?_) <;> (try simp only [BL] at hb)) | refine Ka ?_ | refine Kb ?_ | refine Kc (hd:=rfl) (e:=?_) | refine Kc (hd:=d7 _) (e:=?_) | refine Kd (e:=?_) | refine Kl rfl ?_ | fail) <;> ((conv=>whnf);repeat'(refine Z rfl ?_;conv=>whnf)))
   all_goals (rw [a2T h]; first | (exact absurd (by assumption : false = true) (by decide)) | (refine ⟨congrArg bD ?_⟩; simp_all; done))
end Go.Proofs.YtaopegkpjhkooaaGreatDoor.Dx
/- strings.Cut,strconv.Atoi by the shelf's contracts. -/
namespace Go.Proofs.YtaopegkpjhkooaaGreatDoor.Dx
open Go Go.RowKit Go.Proofs Go.Sort
set_option maxRecDepth 100000
set_option maxHeartbeats 8000000
theorem Meets.below {P : Program} {f : FuncId} {ds : List D} {d : D} (hf : G8 P f)
 (h : ∀ V W xs,Sees V W -> Reps V xs ds -> Calls P f xs.toArray W λ e W'=>∃ v,e = .returned v /\ Below W.heap.size W W' /\ Rep V v d) : Meets P f ds λ r=>r = d:=by
 refine ⟨⟨hf,λ γ V W xs h1 h2 h3 h4=>?_⟩⟩
 have hr : Reps V xs ds:=by
  refine ⟨by have:=h2.len; simpa using this.symm,λ i u d h5 h6=>?_⟩
  exact h2.get i (.d d) u (by simp [h6]) h5
 refine (h V W xs h1 hr).mono ?_
 rintro e W' ⟨v,rfl,hb,hv⟩
 exact ⟨γ,V,.ret (.d d),[],hv,.of hb,.refl _ _ _,h1.below hb,λ n b h=>(by rw [j3] at h; cases h),λ n b h=>(by rw [j3] at h; cases h),λ n n' b b' h=>(by rw [j3] at h; cases h),
  λ _ _ _ _=>rfl,d,rfl,rfl,rfl⟩
theorem b3L (s sep : List UInt8) : (Lib.cut s sep).1.length <= s.length /\ (Lib.cut s sep).2.1.length <= s.length:=by
 unfold Lib.cut
 split
 . simp
   omega
 . simp
theorem c0b {V : Know} {x y z : Value} {d e f : D} (h : Rep V x d) (k : Rep V y e) (l : Rep V z f) : Rep V (.tuple #[x,y,z]) (.tup [d,e,f]):=by
 refine .tup [x,y,z] [d,e,f] rfl λ i u c hu hc=>?_
 match i with
 | 0=>simp at hu hc; subst hu hc; exact h
 | 1=>simp at hu hc; subst hu hc; exact k
 | 2=>simp at hu hc; subst hu hc; exact l
 | i + 3=>simp at hu
theorem b4j (w : World) (n : Nat) : Below w.heap.size w (w.drewN n):=⟨rfl,rfl,rfl,Nat.le_refl _,λ _ _=>rfl⟩
theorem a7v (w : World) (e : TypeId) (s : ByteArray) : Below w.heap.size w (Lib.bytesWorld w e s) :=
 ⟨rfl,rfl,rfl,by rw [Lib.bytesWorld_size]; omega,λ j hj=>Lib.bytesWorld_at_old w e s j hj⟩
theorem b1Z (s sep : List UInt8) (hs : s.length < 4294967281) : Meets Tryz.prog 130 [.str s,.str sep] λ d=>d = .tup [.str (Lib.cut s sep).1,.str (Lib.cut s sep).2.1,bD (Lib.cut s sep).2.2]:=by
 refine Meets.below ⟨Tryz.f130,_,Tryz.func130,rfl,by kernel_rfl⟩ λ V W xs hS hx=>?_
 obtain ⟨u,w,rfl,h1,h2⟩:=hx.two
 obtain ⟨rfl,_⟩:=h1.str_inv
 obtain ⟨rfl,_⟩:=h2.str_inv
 obtain ⟨m,hm⟩:=hS.lib.maxLen
 refine (Tryz.strings_Cut ⟨⟨s⟩⟩ ⟨⟨sep⟩⟩ m W hs (hS.cell _ _ _ hm)).mono ?_
 rintro e W' ⟨rfl,n,rfl⟩
 have hl:=b3L s sep
 have hm : s.length <= maxLen:=by unfold maxLen; omega
 exact ⟨_,rfl,b4j W n,c0b (.str _ (Nat.le_trans hl.1 hm)) (.str _ (Nat.le_trans hl.2 hm)) (.b _)⟩
theorem a4a (s : List UInt8) (n : Int) (hs : s.length <= 18) (h : Lib.atoi s = some n) (hn : j7 .i64 n) : Meets Tryz.prog 125 [.str s] λ d=>d = .tup [iD n,.v .nilIface]:=by
 refine Meets.below ⟨Tryz.f125,_,Tryz.func125,rfl,by kernel_rfl⟩ λ V W xs hS hx=>?_
 obtain ⟨u,hu⟩ : ∃ u,xs = [u]:=by
  have:=hx.len
  match xs,this with
  | [u],_=>exact ⟨u,rfl⟩
 subst hu
 obtain ⟨rfl,_⟩:=(hx.get 0 _ _ rfl rfl).str_inv
 refine (Tryz.strconv_Atoi ⟨⟨s⟩⟩ n hs h W).mono ?_
 rintro e W' ⟨rfl,t,rfl⟩
 exact ⟨_,rfl,a7v W 5 t,a0Q (Rep.int hn) (.v _ ⟨rfl,λ _ _ e=>by cases e⟩)⟩
end Go.Proofs.YtaopegkpjhkooaaGreatDoor.Dx
/- strings.Split by the shelf's contract. -/
namespace Go.Proofs.YtaopegkpjhkooaaGreatDoor.Dx
open Go Go.RowKit Go.Proofs Go.Sort
set_option maxRecDepth 100000
set_option maxHeartbeats 8000000
theorem b0W (sep : ByteArray) (save : Nat) : ∀ (k : Nat) (s : ByteArray),∀ x ∈ Lib.splitB sep save k s,x.size <= s.size
 | 0,s,x,hx=>by
   rw [Lib.splitB_zero,List.mem_singleton] at hx; rw [hx]; exact Nat.le_refl _
 | k + 1,s,x,hx=>by
   unfold Lib.splitB at hx
   split at hx
   . rw [List.mem_singleton] at hx; rw [hx]; exact Nat.le_refl _
   . rcases List.mem_cons.1 hx with rfl | hx
     . simp only [ByteArray.size_extract]; omega
     . have:=b0W sep save k _ x hx
       simp only [ByteArray.size_extract] at this; omega
def I6 (s sep : List UInt8) : List (List UInt8):=(Lib.splitB ⟨⟨sep⟩⟩ 0 (Lib.countB ⟨⟨s⟩⟩ ⟨⟨sep⟩⟩) ⟨⟨s⟩⟩).map (·.data.toList)
theorem b2t (s sep : List UInt8) (hs : s.length < 4294967281) (hp : 1 <= sep.length) : Meets Tryz.prog 131 [.str s,.str sep] λ d=>d = .sl ((I6 s sep).map E2):=by
 refine ⟨⟨⟨Tryz.f131,_,Tryz.func131,rfl,by kernel_rfl⟩,λ γ V W xs h1 h2 h3 h4=>?_⟩⟩
 have hx : Reps V xs [.str s,.str sep]:=by
  refine ⟨by have:=h2.len; simpa using this.symm,λ i u d h5 h6=>?_⟩
  exact h2.get i (.d d) u (by rw [List.getElem?_map,h6]; rfl) h5
 obtain ⟨u,w,rfl,k1,k2⟩:=hx.two
 obtain ⟨rfl,_⟩:=k1.str_inv
 obtain ⟨rfl,_⟩:=k2.str_inv
 obtain ⟨m,hm⟩:=h1.lib.maxLen
 refine (Tryz.strings_Split ⟨⟨s⟩⟩ ⟨⟨sep⟩⟩ m W hs (h1.cell _ _ _ hm) hp).mono ?_
 rintro e W' ⟨rfl,rfl⟩
 have hl:=Lib.splitB_all ⟨⟨sep⟩⟩ hp 0 (Lib.countB ⟨⟨s⟩⟩ ⟨⟨sep⟩⟩) ⟨⟨s⟩⟩ rfl
 have hcb : Lib.countB ⟨⟨s⟩⟩ ⟨⟨sep⟩⟩ <= s.length:=Lib.countB_le ⟨⟨sep⟩⟩ hp _ ⟨⟨s⟩⟩ (Nat.le_refl _)
 have hle:=b0W ⟨⟨sep⟩⟩ 0 (Lib.countB ⟨⟨s⟩⟩ ⟨⟨sep⟩⟩) ⟨⟨s⟩⟩
 unfold I6
 generalize Lib.splitB ⟨⟨sep⟩⟩ 0 (Lib.countB ⟨⟨s⟩⟩ ⟨⟨sep⟩⟩) ⟨⟨s⟩⟩ = ps at *
 generalize Lib.countB ⟨⟨s⟩⟩ ⟨⟨sep⟩⟩ = k at *
 have hg:=b1R h1 (ps.map Value.string) 9
 have hk : k + 1 <= maxLen:=by unfold maxLen; omega
 have hrep : ∀ (V' : Know) (ps : List ByteArray),(∀ x ∈ ps,x.size <= maxLen) -> Reps V' (ps.map Value.string) ((ps.map (·.data.toList)).map E2).flatten:=by
  intro V' ps
  induction ps with
  | nil=>intro _; exact .nil _
  | cons x ps ih=>intro h; exact .cons (.str _ (h x (by simp))) (ih λ y hy=>h y (by simp [hy]))
 have hsz : s.length <= maxLen:=by unfold maxLen; omega
 refine ⟨γ,_,.ret (.d (.sl ((ps.map (·.data.toList)).map E2))),[],?_,.of hg.below,hg.fresh,hg.sees,λ n b h=>(by rw [j3] at h; cases h),λ n b h=>(by rw [j3] at h; cases h),λ n n' b b' h=>(by rw [j3] at h; cases h),
  λ _ _ _ _=>rfl,_,rfl,rfl,rfl⟩
 refine a3s (k:=1) (by simp [hl]) (Nat.le_refl _) hk (λ ds hds=>by obtain ⟨x,_,rfl⟩:=List.mem_map.1 hds; rfl) (hrep _ ps λ x hx=>Nat.le_trans (hle x hx) hsz) (λ u hu=>by obtain ⟨x,_,rfl⟩:=List.mem_map.1 hu; rfl) (λ j u hj=>?_)
 show (if W.heap.size = W.heap.size then _ else _) = some u
 rw [if_pos rfl]; exact hj
end Go.Proofs.YtaopegkpjhkooaaGreatDoor.Dx
