/- Small laws beside the courses' data (for chapter 06: in the place of DS). -/
import Derived.Test.YtaopegkpjhkooaaGreatDoorDl
import Derived.Test.YtaopegkpjhkooaaGreatDoorDz
set_option linter.all false
namespace Go.Proofs.YtaopegkpjhkooaaGreatDoor.Dx
open Go Go.RowKit
abbrev E2 (s : List UInt8) : List D:=[.str s]
theorem a3x (s : List UInt8) : E2 s = [.str s]:=rfl
theorem b2E {α : Type} {p : α -> Bool} {xs : List α} {x : α} (hx : x ∈ xs) (h : p x = false) : xs.all p = false:=by
 rw [List.all_eq_false]; exact ⟨x,hx,by rw [h]; simp⟩
theorem b2F {α : Type} {p : α -> Bool} {xs : List α} {i : Nat} (hi : ¬ i < xs.length) (h : ∀ x ∈ xs.take i,p x = true) : xs.all p = true:=by
 rw [List.take_of_length_le (by omega)] at h
 exact List.all_eq_true.2 h
theorem Meets.bl {P : Program} {f : FuncId} {ds : List D} {b : Bool} (h : Meets P f ds λ d=>d = bD b) : Meets P f ds λ d=>d = .bl b:=by
 refine ⟨⟨h.out.fn,λ γ V W xs h1 h2 h3 h4=>(h.out.run γ V W xs h1 h2 h3 h4).mono ?_⟩⟩
 rintro e W' ⟨γ',V',o,O',a1,a2,a3,a4,a5,a6,a7,a8,d,rfl,rfl,rfl⟩
 refine ⟨γ',V',_,[],?_,a2,a3,a4,a5,a6,a7,a8,.bl b,rfl,rfl,rfl⟩
 cases e with
 | returned v =>
   obtain ⟨rfl,_⟩:=Rep.v_inv (show Rep V' v (.v (.bool b)) from a1)
   exact Rep.bl b
 | _=>exact a1
theorem Meets.still {P : Program} {f : FuncId} {ds : List D} {d : D} (hf : G8 P f)
 (h : ∀ V W xs,Sees V W -> Reps V xs ds -> Calls P f xs.toArray W λ e W'=>∃ v,e = .returned v /\ W' = W /\ Rep V v d) : Meets P f ds λ r=>r = d:=by
 refine ⟨⟨hf,λ γ V W xs h1 h2 h3 h4=>?_⟩⟩
 have hr : Reps V xs ds:=by
  refine ⟨by have:=h2.len; simpa using this.symm,λ i u d h5 h6=>?_⟩
  exact h2.get i (.d d) u (by simp [h6]) h5
 refine (h V W xs h1 hr).mono ?_
 rintro e W' ⟨v,rfl,rfl,hv⟩
 exact ⟨γ,V,.ret (.d d),[],hv,.refl _ _ _,.refl _ _ _,h1,λ n b h=>(by rw [j3] at h; cases h),λ n b h=>(by rw [j3] at h; cases h),λ n n' b b' h=>(by rw [j3] at h; cases h),
  λ _ _ _ _=>rfl,d,rfl,rfl,rfl⟩
end Go.Proofs.YtaopegkpjhkooaaGreatDoor.Dx
/- Words and keywords (for seats without courses: E15,E16,E17 joined). -/
namespace Go.Proofs.YtaopegkpjhkooaaGreatDoor.Dx
open Go Go.RowKit
set_option maxRecDepth 100000
set_option maxHeartbeats 8000000
def words : List (List UInt8):=[
 [99,111,117,114,115,101],
 [109,97,116,115],
 [115,116,97,114,116],
 [112,97,115,115],
 [101,110,100],
 [108,101,103],
 [116,111],
 [100,105,115,116,97,110,99,101],
 [103,117,110],
 [99,104,105,112],
 [115,108,111,116],
 [108,97,112,115],
 [108,97,112],
 [99,117,116,111,102,102],
 [101,120,116,114,97],
 [119,97,118,101],
 [111,102,102,101,110,99,101],
 [111,117,116],
 [99,97,116,101,103,111,114,121],
 [112,114,105,122,101],
 [97,108,108],
 [116,105,101,115],
 [105,102],
 [101,108,115,101],
 [97,110,100],
 [111,114],
 [110,111,116],
 [111,108,100,101,114],
 [121,111,117,110,103,101,114],
 [98,105,98],
 [100,114,97,119],
 [102,105,101,108,100],
 [115,104,111,114,116],
 [102,97,117,108,116,115],
 [109,105,115,115,101,115],
 [115,116,114,97,121,115],
 [119,105,110,100,111,119],
 [114,101,115,105,100,117,97,108],
 [100,114,105,102,116],
 [112,114,111,116,101,115,116],
 [102,101,101],
 [100,101,97,100,108,105,110,101]]
def kw (s : List UInt8) : Bool:=words.contains s
abbrev cB (n : Int) : Base:=.d (.v (.int .u8 n))
abbrev cD (n : Int) : D:=.v (.int .u8 n)
def n4 (f : Nat -> Int) : List Base:=(List.range 256).map λ b=>cB (f b)
def z8 (f : Nat -> Int) : List D:=(List.range 256).map λ b=>cD (f b)
theorem M4 (f : Nat -> Int) : (n4 f).length = 256:=by simp [n4]
theorem a1Y {f g : Nat -> Int} {i : Nat} {v : Int} (hi : i < 256) (h : ∀ b,b < 256 -> g b = if b = i then v else f b) : (n4 f).set i (cB v) = n4 g:=by
 apply List.ext_getElem?
 intro b
 simp only [n4,List.getElem?_set,List.length_map,List.length_range,List.getElem?_map]
 by_cases hb : b < 256
 . rw [List.getElem?_range hb]
   simp only [Option.map_some]
   rw [h b hb]
   by_cases e : i = b
   . subst e; simp [hi]
   . rw [if_neg e,if_neg (Ne.symm e)]
 . rw [if_neg (by omega),List.getElem?_eq_none (by simp; omega)]
   rfl
theorem b9z (f : Nat -> Int) {i : Nat} (h : i < 256) : (n4 f)[i]? = some (cB (f i)):=by
 simp only [n4,List.getElem?_map,List.getElem?_range h,Option.map_some]
theorem b9A (O : List (Nat × Blk)) (f : Nat -> Int) : o3 O (n4 f) = some (z8 f):=by
 unfold n4 z8
 generalize List.range 256 = l
 induction l with
 | nil=>rfl
 | cons x l ih=>simp only [List.map_cons,o3,ih]; rfl
theorem b1g (O : List (Nat × Blk)) (f : Nat -> Int) : o3 O (((n4 f).drop 0).take 256) = some (z8 f):=by
 rw [List.drop_zero,List.take_of_length_le (by rw [M4]; decide),b9A]
theorem a3J (f : Nat -> Int) : (z8 f).length = 256:=by simp [z8]
theorem b9r (f : Nat -> Int) : (z8 f).map .d = n4 f:=by simp [z8,n4]
theorem b8F {α : Type} (l : List α) : setRun l 0 l = l:=by
 apply List.ext_getElem?
 intro j
 rw [z7 l l 0 j (by omega)]
 split
 . simp
 . rfl
theorem I9 (O : List (Nat × Blk)) (f : Nat -> Int) : U3 O (n4 f) (n4 f):=by
 unfold n4
 generalize List.range 256 = l
 induction l with
 | nil=>trivial
 | cons x l ih=>exact ⟨rfl,ih⟩
def signs : List Int:=[123,125,40,41,91,93,59,44,61,60,62]
def blanks : List Int:=[32,9,10,13]
def c1 (i : Int) (b : Nat) : Int:=if (97 <= (b : Int) /\ (b : Int) < i) \/ (65 <= (b : Int) /\ (b : Int) < i - 32) then 2 else 0
def c2 (i : Int) (b : Nat) : Int:=if 48 <= (b : Int) /\ (b : Int) < i then 3 else c1 123 b
def c3 (l : List Int) (b : Nat) : Int:=if (b : Int) ∈ l then 4 else c2 58 b
def c4 (l : List Int) (b : Nat) : Int:=if (b : Int) ∈ l then 1 else c3 signs b
def cls (b : Nat) : Int:=c4 blanks b
theorem a9D {l : List Int} {k : Nat} (h : k < l.length) (x : Int) : x ∈ l.take (k + 1) ↔ x ∈ l.take k \/ x = l[k]:=by
 rw [List.take_succ_eq_append_getElem h,List.mem_append,List.mem_singleton]
abbrev m8 : Cfg:={sym:=[0],priv:=[22]}
theorem a7F : Meets Tryz.prog 43 [] λ d=>d = .agg (z8 cls):=by
 refine enter tok m8 Tryz.func43 rfl (by kernel_rfl) Tryz.ntmps43 (by simp) λ B0 W0 V0 lent g0=>?_
 ((conv=>whnf);repeat'(refine Y m8 rfl ?_;conv=>whnf))
 refine a6Y 0 (n4 (c1 97)) ?_
 conv=>whnf
 refine ⟨by kernel_rfl,?_⟩
 conv=>whnf
 refine m9 tok m8 [] (X:=Int) (λ i=>[(1,cB i)]) (λ i=>[(0,.box (n4 (c1 i)) 110)]) [] (λ i=>97 <= i /\ i <= 123) (λ i=>(123 - i).toNat) 97 ?_
 ((conv=>whnf);repeat'(refine Y m8 rfl ?_;conv=>whnf))
 refine And.intro ?_ ⟨⟨by omega,by omega⟩,λ i hΦ=>?_⟩
 . repeat' (first | exact I9 _ _ | exact True.intro | exact rfl | refine And.intro ?_ ?_)
 obtain ⟨hi1,hi2⟩:=hΦ
 ((conv=>whnf);repeat'(refine Y m8 rfl ?_;conv=>whnf))
 refine ⟨λ h1=>?_,λ h1=>?_⟩ <;> (try simp only [BL] at h1) <;> ((conv=>whnf);repeat'(refine Y m8 rfl ?_;conv=>whnf))
 . repeat' ((first | (intro hlq; (try simp only [SL] at hlq)) | refine Ka ?_ | refine Kb ?_ | refine Kc (hd:=rfl) (e:=?_) | refine Kc (hd:=d7 _) (e:=?_) | refine Kd (e:=?_) | refine Kl rfl ?_ | fail) <;> ((conv=>whnf);repeat'(refine Y m8 rfl ?_;conv=>whnf)))
   refine ⟨by dsimp only; rw [M4]; omega,?_⟩
   ((conv=>whnf);repeat'(refine Y m8 rfl ?_;conv=>whnf))
   repeat' ((first | (intro hlq; (try simp only [SL] at hlq)) | refine Ka ?_ | refine Kb ?_ | refine Kc (hd:=rfl) (e:=?_) | refine Kc (hd:=d7 _) (e:=?_) | refine Kd (e:=?_) | refine Kl rfl ?_ | fail) <;> ((conv=>whnf);repeat'(refine Y m8 rfl ?_;conv=>whnf)))
   refine ⟨by dsimp only; rw [List.length_set,M4]; omega,?_⟩
   ((conv=>whnf);repeat'(refine Y m8 rfl ?_;conv=>whnf))
   repeat' ((first | (intro hlq; (try simp only [SL] at hlq)) | refine Ka ?_ | refine Kb ?_ | refine Kc (hd:=rfl) (e:=?_) | refine Kc (hd:=d7 _) (e:=?_) | refine Kd (e:=?_) | refine Kl rfl ?_ | fail) <;> ((conv=>whnf);repeat'(refine Y m8 rfl ?_;conv=>whnf)))
   have e1 : ((n4 (c1 i)).set (0 + i.toNat * 1) (cB 2)).set (0 + (i - 32).toNat * 1) (cB 2) = n4 (c1 (i + 1)):=by
    rw [a1Y (g:=λ b=>if b = 0 + i.toNat * 1 then 2 else c1 i b) (by omega) λ _ _=>rfl]
    refine a1Y (by omega) λ b hb=>?_
    simp only [c1]
    repeat' split
    all_goals omega
   dsimp only
   rw [e1]
   refine ⟨⟨i + 1,?_,⟨by omega,by omega⟩,by omega⟩⟩
   repeat' (first | exact I9 _ _ | exact True.intro | exact rfl | refine And.intro ?_ ?_)
 obtain rfl : i = 123:=by omega
 refine m9 tok m8 [] (X:=Int) (λ i=>[(2,cB i)]) (λ i=>[(0,.box (n4 (c2 i)) 110)]) [] (λ i=>48 <= i /\ i <= 58) (λ i=>(58 - i).toNat) 48 ?_
 ((conv=>whnf);repeat'(refine Y m8 rfl ?_;conv=>whnf))
 have e0 : c1 123 = c2 48:=by
  funext b
  simp only [c2]
  rw [if_neg (by omega)]
 rw [e0]
 refine And.intro ?_ ⟨⟨by omega,by omega⟩,λ i hΦ=>?_⟩
 . repeat' (first | exact I9 _ _ | exact True.intro | exact rfl | refine And.intro ?_ ?_)
 obtain ⟨hi1,hi2⟩:=hΦ
 ((conv=>whnf);repeat'(refine Y m8 rfl ?_;conv=>whnf))
 refine ⟨λ h1=>?_,λ h1=>?_⟩ <;> (try simp only [BL] at h1) <;> ((conv=>whnf);repeat'(refine Y m8 rfl ?_;conv=>whnf))
 . repeat' ((first | (intro hlq; (try simp only [SL] at hlq)) | refine Ka ?_ | refine Kb ?_ | refine Kc (hd:=rfl) (e:=?_) | refine Kc (hd:=d7 _) (e:=?_) | refine Kd (e:=?_) | refine Kl rfl ?_ | fail) <;> ((conv=>whnf);repeat'(refine Y m8 rfl ?_;conv=>whnf)))
   refine ⟨by dsimp only; rw [M4]; omega,?_⟩
   ((conv=>whnf);repeat'(refine Y m8 rfl ?_;conv=>whnf))
   repeat' ((first | (intro hlq; (try simp only [SL] at hlq)) | refine Ka ?_ | refine Kb ?_ | refine Kc (hd:=rfl) (e:=?_) | refine Kc (hd:=d7 _) (e:=?_) | refine Kd (e:=?_) | refine Kl rfl ?_ | fail) <;> ((conv=>whnf);repeat'(refine Y m8 rfl ?_;conv=>whnf)))
   have e1 : (n4 (c2 i)).set (0 + i.toNat * 1) (cB 3) = n4 (c2 (i + 1)):=by
    refine a1Y (by omega) λ b hb=>?_
    simp only [c2]
    repeat' split
    all_goals omega
   dsimp only
   rw [e1]
   refine ⟨⟨i + 1,?_,⟨by omega,by omega⟩,by omega⟩⟩
   repeat' (first | exact I9 _ _ | exact True.intro | exact rfl | refine And.intro ?_ ?_)
 obtain rfl : i = 58:=by omega
 repeat' ((first | (intro hlq; (try simp only [SL] at hlq)) | refine Ka ?_ | refine Kb ?_ | refine Kc (hd:=rfl) (e:=?_) | refine Kc (hd:=d7 _) (e:=?_) | refine Kd (e:=?_) | refine Kl rfl ?_ | fail) <;> ((conv=>whnf);repeat'(refine Y m8 rfl ?_;conv=>whnf)))
 have hsg : ∀ x ∈ signs,0 <= x /\ x < 256:=by decide
 have hbl : ∀ x ∈ blanks,0 <= x /\ x < 256:=by decide
 refine m9 tok m8 [] (X:=Nat) (λ i=>[(25,iB i)]) (λ i=>[(0,.box (n4 (c3 (signs.take i))) 110)]) [] (λ i=>i <= signs.length) (λ i=>signs.length - i) 0 ?_
 ((conv=>whnf);repeat'(refine Y m8 rfl ?_;conv=>whnf))
 have e0 : c2 58 = c3 (signs.take 0):=by
  funext b
  simp only [c3,List.take_zero,List.not_mem_nil,if_false]
 rw [e0]
 refine And.intro ?_ ⟨by decide,λ k hk=>?_⟩
 . repeat' (first | exact I9 _ _ | exact True.intro | exact rfl | refine And.intro ?_ ?_)
 ((conv=>whnf);repeat'(refine Y m8 rfl ?_;conv=>whnf))
 refine ⟨λ h1=>?_,λ h1=>?_⟩ <;> (try simp only [BL] at h1) <;> ((conv=>whnf);repeat'(refine Y m8 rfl ?_;conv=>whnf))
 . have h1' : k < signs.length:=by simp only [signs,List.length_cons,List.length_nil] at h1 ⊢; omega
   refine ⟨_,⟨by omega,a4V (xs:=signs) (λ x=>[cD x]) h1' rfl,rfl⟩,?_⟩
   ((conv=>whnf);repeat'(refine Y m8 rfl ?_;conv=>whnf))
   have hb:=hsg _ (List.getElem_mem h1')
   repeat' ((first | (intro hlq; (try simp only [SL] at hlq)) | refine Ka ?_ | refine Kb ?_ | refine Kc (hd:=rfl) (e:=?_) | refine Kc (hd:=d7 _) (e:=?_) | refine Kd (e:=?_) | refine Kl rfl ?_ | fail) <;> ((conv=>whnf);repeat'(refine Y m8 rfl ?_;conv=>whnf)))
   refine ⟨by dsimp only; rw [M4]; omega,?_⟩
   ((conv=>whnf);repeat'(refine Y m8 rfl ?_;conv=>whnf))
   repeat' ((first | (intro hlq; (try simp only [SL] at hlq)) | refine Ka ?_ | refine Kb ?_ | refine Kc (hd:=rfl) (e:=?_) | refine Kc (hd:=d7 _) (e:=?_) | refine Kd (e:=?_) | refine Kl rfl ?_ | fail) <;> ((conv=>whnf);repeat'(refine Y m8 rfl ?_;conv=>whnf)))
   have e1 : (n4 (c3 (signs.take k))).set (0 + signs[k].toNat * 1) (cB 4) = n4 (c3 (signs.take (k + 1))):=by
    refine a1Y (by omega) λ b hb=>?_
    simp only [c3,a9D h1']
    by_cases e : b = 0 + signs[k].toNat * 1
    . rw [if_pos e,if_pos (.inr (by omega))]
    . rw [if_neg e]
      by_cases e2 : (b : Int) ∈ signs.take k
      . rw [if_pos e2,if_pos (.inl e2)]
      . rw [if_neg e2,if_neg (λ h=>h.elim e2 λ h=>e (by omega))]
   dsimp only
   rw [e1]
   refine ⟨⟨k + 1,?_,by omega,by omega⟩⟩
   repeat' (first | exact I9 _ _ | exact True.intro | exact rfl | refine And.intro ?_ ?_)
 have hk2 : k = signs.length:=by simp only [signs,List.length_cons,List.length_nil] at h1 hk ⊢; omega
 subst hk2
 repeat' ((first | (intro hlq; (try simp only [SL] at hlq)) | refine Ka ?_ | refine Kb ?_ | refine Kc (hd:=rfl) (e:=?_) | refine Kc (hd:=d7 _) (e:=?_) | refine Kd (e:=?_) | refine Kl rfl ?_ | fail) <;> ((conv=>whnf);repeat'(refine Y m8 rfl ?_;conv=>whnf)))
 refine m9 tok m8 [] (X:=Nat) (λ i=>[(34,iB i)]) (λ i=>[(0,.box (n4 (c4 (blanks.take i))) 110)]) [] (λ i=>i <= blanks.length) (λ i=>blanks.length - i) 0 ?_
 ((conv=>whnf);repeat'(refine Y m8 rfl ?_;conv=>whnf))
 have e0 : c3 (signs.take signs.length) = c4 (blanks.take 0):=by
  funext b
  simp only [c4,List.take_zero,List.not_mem_nil,if_false,List.take_length]
 rw [e0]
 refine And.intro ?_ ⟨by decide,λ k hk=>?_⟩
 . repeat' (first | exact I9 _ _ | exact True.intro | exact rfl | refine And.intro ?_ ?_)
 ((conv=>whnf);repeat'(refine Y m8 rfl ?_;conv=>whnf))
 refine ⟨λ h1=>?_,λ h1=>?_⟩ <;> (try simp only [BL] at h1) <;> ((conv=>whnf);repeat'(refine Y m8 rfl ?_;conv=>whnf))
 . have h1' : k < blanks.length:=by simp only [blanks,List.length_cons,List.length_nil] at h1 ⊢; omega
   refine ⟨_,⟨by omega,a4V (xs:=blanks) (λ x=>[cD x]) h1' rfl,rfl⟩,?_⟩
   ((conv=>whnf);repeat'(refine Y m8 rfl ?_;conv=>whnf))
   have hb:=hbl _ (List.getElem_mem h1')
   repeat' ((first | (intro hlq; (try simp only [SL] at hlq)) | refine Ka ?_ | refine Kb ?_ | refine Kc (hd:=rfl) (e:=?_) | refine Kc (hd:=d7 _) (e:=?_) | refine Kd (e:=?_) | refine Kl rfl ?_ | fail) <;> ((conv=>whnf);repeat'(refine Y m8 rfl ?_;conv=>whnf)))
   refine ⟨by dsimp only; rw [M4]; omega,?_⟩
   ((conv=>whnf);repeat'(refine Y m8 rfl ?_;conv=>whnf))
   repeat' ((first | (intro hlq; (try simp only [SL] at hlq)) | refine Ka ?_ | refine Kb ?_ | refine Kc (hd:=rfl) (e:=?_) | refine Kc (hd:=d7 _) (e:=?_) | refine Kd (e:=?_) | refine Kl rfl ?_ | fail) <;> ((conv=>whnf);repeat'(refine Y m8 rfl ?_;conv=>whnf)))
   have e1 : (n4 (c4 (blanks.take k))).set (0 + blanks[k].toNat * 1) (cB 1) = n4 (c4 (blanks.take (k + 1))):=by
    refine a1Y (by omega) λ b hb=>?_
    simp only [c4,a9D h1']
    by_cases e : b = 0 + blanks[k].toNat * 1
    . rw [if_pos e,if_pos (.inr (by omega))]
    . rw [if_neg e]
      by_cases e2 : (b : Int) ∈ blanks.take k
      . rw [if_pos e2,if_pos (.inl e2)]
      . rw [if_neg e2,if_neg (λ h=>h.elim e2 λ h=>e (by omega))]
   dsimp only
   rw [e1]
   refine ⟨⟨k + 1,?_,by omega,by omega⟩⟩
   repeat' (first | exact I9 _ _ | exact True.intro | exact rfl | refine And.intro ?_ ?_)
 have hk2 : k = blanks.length:=by simp only [blanks,List.length_cons,List.length_nil] at h1 hk ⊢; omega
 subst hk2
 have e1 : c4 (blanks.take blanks.length) = cls:=by rw [List.take_length]; rfl
 rw [e1]
 refine ⟨z8 cls,⟨b1g _ _,a3J _⟩,?_⟩
 ((conv=>whnf);repeat'(refine Y m8 rfl ?_;conv=>whnf))
 show 0 + (n4 cls).length <= (n4 cls).length /\ w9 _ (Blk.box (setRun (n4 cls) 0 (n4 cls)) 110) _ _
 rw [b8F]
 refine ⟨by omega,?_⟩
 ((conv=>whnf);repeat'(refine Y m8 rfl ?_;conv=>whnf))
 refine ⟨z8 cls,⟨b1g _ _,a3J _⟩,?_⟩
 ((conv=>whnf);repeat'(refine Y m8 rfl ?_;conv=>whnf))
 exact ⟨rfl⟩
theorem a5X {α : Type} {l m : List α} (h : l.length = m.length) : setRun l 0 m = m:=by
 apply List.ext_getElem?
 intro j
 rw [z7 m l 0 j (by omega)]
 split
 . simp
 . rw [List.getElem?_eq_none (by omega),List.getElem?_eq_none (by omega)]
def Q2 (b : UInt8) : Bool:=decide (cls b.toNat = 2) || (decide (cls b.toNat = 3) || decide ((b.toNat : Int) = 95))
def a6S (s : List UInt8) : Bool:=match s with | []=>false | b :: _=>decide (cls b.toNat = 2)
theorem b1T {s : List UInt8} (h : 0 < s.length) : a6S s = decide (cls s[0].toNat = 2):=by
 cases s with
 | nil=>simp at h
 | cons b r=>rfl
def G0 (s : List UInt8) : Bool:=a6S s && s.all Q2
theorem a8Z (s : List UInt8) : Meets Tryz.prog 46 [.str s] λ d=>d = bD (G0 s):=by
 refine enter tok {sym:=[3]} Tryz.func46 rfl (by kernel_rfl) Tryz.ntmps46 (by simp) λ B0 W0 V0 lent g0=>?_
 ((conv=>whnf);repeat'(refine Y {sym:=[3]} rfl ?_;conv=>whnf))
 refine Meets.k a7F ?_
 ((conv=>whnf);repeat'(refine Y {sym:=[3]} rfl ?_;conv=>whnf))
 show 0 + (n4 cls).length <= _ /\ w9 _ (Blk.box (setRun _ 0 (n4 cls)) 110) _ _
 refine ⟨by rw [M4]; decide,?_⟩
 rw [a5X (by rw [M4]; rfl)]
 ((conv=>whnf);repeat'(refine Y {sym:=[3]} rfl ?_;conv=>whnf))
 repeat' ((first | (intro hlq; (try simp only [SL] at hlq)) | refine Ka ?_ | refine Kb ?_ | refine Kc (hd:=rfl) (e:=?_) | refine Kc (hd:=d7 _) (e:=?_) | refine Kd (e:=?_) | refine Kl rfl ?_ | fail) <;> ((conv=>whnf);repeat'(refine Y {sym:=[3]} rfl ?_;conv=>whnf)))
 refine m9 tok {sym:=[3]} [] (X:=Nat) (λ i=>[(9,iB i)]) (λ _=>[]) [] (λ i=>i <= s.length /\ (∀ x ∈ s.take i,Q2 x = true) /\ (0 < i -> a6S s = true)) (λ i=>s.length - i) 0 ?_
 ((conv=>whnf);repeat'(refine Y {sym:=[3]} rfl ?_;conv=>whnf))
 refine And.intro ?_ ⟨⟨by omega,by simp,by omega⟩,λ i hΦ=>?_⟩
 . repeat' (first | exact I9 _ _ | exact True.intro | exact rfl | refine And.intro ?_ ?_)
 obtain ⟨hi,hp,hf⟩:=hΦ
 ((conv=>whnf);repeat'(refine Y {sym:=[3]} rfl ?_;conv=>whnf))
 refine ⟨λ h1=>?_,λ h1=>?_⟩ <;> (try simp only [BL] at h1) <;> ((conv=>whnf);repeat'(refine Y {sym:=[3]} rfl ?_;conv=>whnf))
 . have h1' : i < s.length:=by omega
   have hpos : 0 < s.length:=by omega
   have hb:=s[i].toNat_lt
   repeat' ((first | (intro hlq; (try simp only [SL] at hlq)) | refine Ka ?_ | refine Kb ?_ | refine Kc (hd:=rfl) (e:=?_) | refine Kc (hd:=d7 _) (e:=?_) | refine Kd (e:=?_) | refine Kl rfl ?_ | fail) <;> ((conv=>whnf);repeat'(refine Y {sym:=[3]} rfl ?_;conv=>whnf)))
   refine ⟨_,b9z cls (i:=0 + ((s[i].toNat : Int)).toNat * 1) (by omega),?_⟩
   rw [show 0 + ((s[i].toNat : Int)).toNat * 1 = s[i].toNat by omega]
   ((conv=>whnf);repeat'(refine Y {sym:=[3]} rfl ?_;conv=>whnf))
   repeat' ((first | (intro hlq; (try simp only [SL] at hlq)) | ((refine Kh (λ hb=>?_) λ hb=>?_) <;> (try simp only [BL] at hb)) | refine Ka ?_ | refine Kb ?_ | refine Kc (hd:=rfl) (e:=?_) | refine Kc (hd:=d7 _) (e:=?_) | refine Kd (e:=?_) | refine Kl rfl ?_ | fail) <;> ((conv=>whnf);repeat'(refine Y {sym:=[3]} rfl ?_;conv=>whnf)))
   all_goals first
    | (refine ⟨congrArg bD ?_⟩
       have hc : Q2 s[i] = false:=by
        simp only [Q2,Bool.or_eq_false_iff,decide_eq_false_iff_not]; omega
       simp only [G0,b2E (List.getElem_mem h1') hc,Bool.and_false]
       done)
    | (refine ⟨congrArg bD ?_⟩
       obtain rfl : i = 0:=by omega
       rw [G0,b1T hpos,decide_eq_false (by omega)]
       rfl)
    | (refine ⟨⟨i + 1,?_,⟨by omega,b9C h1' hp ?_,λ _=>?_⟩,by omega⟩⟩
       . repeat' (first | exact I9 _ _ | exact True.intro | exact rfl | refine And.intro ?_ ?_)
       . simp only [Q2,Bool.or_eq_true,decide_eq_true_eq]; omega
       . by_cases e : i = 0
         . subst e
           rw [b1T hpos,decide_eq_true_eq]; omega
         . exact hf (by omega))
 . skip
   refine ⟨congrArg bD ?_⟩
   rw [G0,b2F (by omega) hp,Bool.and_true]
   cases s with
   | nil=>rfl
   | cons b r =>
     simp only [List.length_cons] at h1 hi
     rw [hf (by omega)]
     rfl
theorem a7e (s t : List UInt8) (hs : s.length < 4294967281) : Meets Tryz.prog 102 [.str s,.str t] λ d=>d = bD (Lib.contains s t):=by
 refine Meets.still ⟨Tryz.f102,_,Tryz.func102,rfl,by kernel_rfl⟩ λ V W xs hS hx=>?_
 obtain ⟨u,w,rfl,h1,h2⟩:=hx.two
 obtain ⟨rfl,_⟩:=h1.str_inv
 obtain ⟨rfl,_⟩:=h2.str_inv
 obtain ⟨m,hm⟩:=hS.lib.maxLen
 refine (Tryz.strings_Contains ⟨⟨s⟩⟩ ⟨⟨t⟩⟩ m W hs (hS.cell _ _ _ hm)).mono ?_
 rintro e W' ⟨rfl,rfl⟩
 exact ⟨_,rfl,rfl,.b _⟩
def R7 (ws : List (List UInt8)) : List UInt8:=32 :: ws.flatMap (· ++ [32])
theorem b3y (s t : List UInt8) : Lib.contains s t = true ↔ t <:+: s:=by
 rw [Lib.contains,decide_eq_true_eq]
 constructor
 . intro h
   rcases Lib.index_spec s t with ⟨h1,_⟩ | ⟨i,h1,h2,h3,_⟩
   . omega
   . exact (List.isPrefixOf_iff_prefix.1 h3).isInfix.trans (List.drop_suffix i s).isInfix
 . rintro ⟨a,b,rfl⟩
   rcases Lib.index_spec (a ++ t ++ b) t with ⟨h1,h2⟩ | ⟨i,h1,_⟩
   . have:=h2 a.length (by simp)
     rw [Lib.occAt,List.append_assoc,List.drop_left] at this
     rw [List.isPrefixOf_iff_prefix.2 (List.prefix_append t b)] at this
     cases this
   . omega
theorem b0a : ∀ {w x r : List UInt8},(32 : UInt8) ∉ w -> (32 : UInt8) ∉ x -> (w ++ [32] <+: x ++ 32 :: r ↔ w = x)
 | [],[],r,_,_=>by simp
 | [],b :: x,r,_,hx=>by
   simp only [List.nil_append,List.cons_append,List.cons_prefix_cons,List.nil_prefix,and_true]
   constructor
   . intro h; exact absurd (h ▸ List.mem_cons_self ..) hx
   . intro h; cases h
 | a :: w,[],r,hw,_=>by
   simp only [List.nil_append,List.cons_append,List.cons_prefix_cons]
   constructor
   . rintro ⟨h,_⟩; exact absurd (h ▸ List.mem_cons_self ..) hw
   . intro h; cases h
 | a :: w,b :: x,r,hw,hx=>by
   simp only [List.cons_append,List.cons_prefix_cons,List.cons.injEq]
   rw [b0a (λ h=>hw (List.mem_cons_of_mem _ h)) (λ h=>hx (List.mem_cons_of_mem _ h))]
theorem a8O {p t : List UInt8} : ∀ {x : List UInt8},(32 : UInt8) ∉ x -> (32 :: p <:+: x ++ t ↔ 32 :: p <:+: t)
 | [],_=>by simp
 | b :: x,hx=>by
   rw [List.cons_append,List.infix_cons_iff,a8O λ h=>hx (List.mem_cons_of_mem _ h)]
   constructor
   . rintro (h | h)
     . rw [List.cons_prefix_cons] at h
       exact absurd (h.1 ▸ List.mem_cons_self ..) hx
     . exact h
   . exact .inr
theorem a8A {w : List UInt8} (hw : (32 : UInt8) ∉ w) : ∀ {ws : List (List UInt8)},(∀ x ∈ ws,(32 : UInt8) ∉ x) -> (32 :: (w ++ [32]) <:+: R7 ws ↔ w ∈ ws)
 | [],_=>by
   simp only [R7,List.flatMap_nil,List.not_mem_nil,iff_false]
   intro h
   have:=h.length_le
   simp at this
 | x :: ws,h=>by
   have ih:=a8A hw (ws:=ws) λ y hy=>h y (List.mem_cons_of_mem _ hy)
   have hx:=h x (List.mem_cons_self ..)
   have e : R7 (x :: ws) = 32 :: (x ++ R7 ws):=by simp [R7]
   rw [e,List.infix_cons_iff,a8O hx,ih,List.cons_prefix_cons,List.mem_cons]
   rw [show x ++ R7 ws = x ++ 32 :: ws.flatMap (· ++ [32]) from rfl,b0a hw hx]
   simp
theorem c0T {s : List UInt8} (h : G0 s = true) : (32 : UInt8) ∉ s:=by
 intro hm
 rw [G0,Bool.and_eq_true,List.all_eq_true] at h
 exact absurd (h.2 _ hm) (by decide)
theorem b5F : ∀ s ∈ words,G0 s = true:=by decide
theorem b5D : ∀ s ∈ words,(32 : UInt8) ∉ s:=by decide
theorem b5C {s : List UInt8} (h : G0 s = true) : Lib.contains (R7 words) ([32] ++ s ++ [32]) = kw s:=by
 rw [Bool.eq_iff_iff,b3y,List.append_assoc,show [32] ++ (s ++ [32]) = 32 :: (s ++ [32]) from rfl,a8A (c0T h) b5D,kw,List.contains_iff_mem]
theorem b5E {s : List UInt8} (h : G0 s = false) : kw s = false:=by
 rw [kw,Bool.eq_false_iff]
 intro hm
 rw [b5F s (List.contains_iff_mem.1 hm)] at h
 cases h
theorem b2m (s : List UInt8) (hs : s.length <= 1048576) : Meets Tryz.prog 145 [.str s] λ d=>d = bD (kw s):=by
 refine enter tok {} Tryz.func145 rfl (by kernel_rfl) Tryz.ntmps145 (by simp) λ B0 W0 V0 lent g0=>?_
 ((conv=>whnf);repeat'(refine Z rfl ?_;conv=>whnf))
 repeat' ((first | (intro hlq; (try simp only [SL] at hlq)) | refine Meets.k (a8Z _) ?_ | ((refine Kh (λ hb=>?_) λ hb=>?_) <;> (try simp only [BL] at hb)) | refine Ka ?_ | refine Kb ?_ | refine Kc (hd:=rfl) (e:=?_) | refine Kc (hd:=d7 _) (e:=?_) | refine Kd (e:=?_) | refine Kl rfl ?_ | fail) <;> ((conv=>whnf);repeat'(refine Z rfl ?_;conv=>whnf)))
 . refine ⟨λ _ _=>by simp [maxLen]; omega,?_⟩
   ((conv=>whnf);repeat'(refine Z rfl ?_;conv=>whnf))
   refine ⟨λ _ _=>by simp [maxLen]; omega,?_⟩
   ((conv=>whnf);repeat'(refine Z rfl ?_;conv=>whnf))
   refine Meets.k (a7e (R7 words) ([32] ++ s ++ [32]) (by decide)) ?_
   ((conv=>whnf);repeat'(refine Z rfl ?_;conv=>whnf))
   refine ⟨congrArg bD ?_⟩
   exact b5C (by assumption)
 . refine ⟨congrArg bD ?_⟩
   exact (b5E (by assumption)).symm
end Go.Proofs.YtaopegkpjhkooaaGreatDoor.Dx
