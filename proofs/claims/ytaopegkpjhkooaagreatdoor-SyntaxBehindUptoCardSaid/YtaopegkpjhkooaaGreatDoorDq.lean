/- Tokens as plain functions; a comment ahead of a token; offsets. -/
import Derived.Test.YtaopegkpjhkooaaGreatDoorDp
set_option linter.all false
namespace Go.Proofs.YtaopegkpjhkooaaGreatDoor.Dx
open Go Go.RowKit Go.Proofs
set_option maxRecDepth 100000
set_option maxHeartbeats 8000000
def t8 (b : UInt8) : Bool:=(decide (97 <= (b.toNat : Int)) && decide ((b.toNat : Int) <= 122)) || (decide (65 <= (b.toNat : Int)) && decide ((b.toNat : Int) <= 90))
def inB (b : UInt8) : Bool:=t8 b || (g7 b || b == 95)
def I0 : List UInt8 -> Bool | []=>false | b :: _=>g7 b
def ptB (b : UInt8) (t : List UInt8) : Bool:=(b == 58 || b == 46) && I0 t
def l0 (p : Bool) : List UInt8 -> Nat
 | []=>0
 | b :: t=>if inB b || (p && ptB b t) then l0 p t + 1 else 0
def R6 (b : UInt8) : Option UInt8:=if b = 34 then some 34 else if b = 92 then some 92 else if b = 110 then some 10 else none
def j9 : List UInt8 -> Option (List UInt8 × Nat)
 | []=>none
 | c :: t =>
   if c = 34 then some ([],1)
   else if c < 32 \/ c > 126 then none
   else if c = 92 then match t with
    | []=>none
    | d :: t=>match R6 d with
      | some x=>match j9 t with
        | some (s,n)=>some (x :: s,n + 2)
        | none=>none
      | none=>none
   else match j9 t with
    | some (s,n)=>some (c :: s,n + 1)
    | none=>none
def sgB (b : UInt8) : Bool:=[123,125,40,41,91,93,59,44,61,60,62].contains b
def blB (b : UInt8) : Bool:=[32,9,10,13].contains b
def H7 (c : UInt8) (t : List UInt8) : Bool:=match t with | []=>false | d :: _=>((c == 60 || c == 62) && d == 61) || (c == 46 && d == 46)
def G5 (s : List UInt8) (n : Nat) : Nat × List UInt8 × Nat:=if A9 s then (2,s,n) else if (x9 s).isSome then (3,s,n) else (0,[],n)
def l5 : List UInt8 -> Nat × List UInt8 × Nat
 | []=>(0,[],1)
 | c :: t =>
   if t8 c then (1,(c :: t).take (l0 false t + 1),l0 false t + 1)
   else if g7 c || (c == 45 && I0 t) then G5 ((c :: t).take (l0 true t + 1)) (l0 true t + 1)
   else if c = 34 then match j9 t with
    | some (s,n)=>(4,s,n + 1)
    | none=>(0,[],1)
   else if H7 c t then (5,(c :: t).take 2,2)
   else if sgB c then (5,[c],1)
   else (0,[],1)
def E3 : List UInt8 -> Nat
 | []=>0
 | b :: t=>if b = 10 then 0 else E3 t + 1
def g6 : List UInt8 -> Nat × List UInt8 × Nat
 | []=>(7,[],0)
 | c :: t=>if blB c then (7,[],1) else if c = 35 then (7,[],E3 t + 1) else l5 (c :: t)
structure Tk where
 kind : Nat
 text : List UInt8
 at_ : Nat
deriving DecidableEq
def F9 (k : Nat) : Bool:=decide (1 <= k /\ k <= 5)
def a0N : Nat -> List UInt8 -> Nat -> List Tk
 | 0,_,_=>[]
 | _ + 1,[],a=>[⟨6,[],a⟩]
 | k + 1,c :: t,a =>
   let x:=g6 (c :: t)
   let r:=a0N k ((c :: t).drop x.2.2) (a + x.2.2)
   if F9 x.1 then ⟨x.1,x.2.1,a⟩ :: r else r
def Q9 : Nat -> List UInt8 -> Nat -> Int -> Nat -> List Nat
 | 0,_,_,_,_=>[]
 | _ + 1,[],_,_,_=>[]
 | k + 1,c :: t,a,en,nb =>
   let x:=g6 (c :: t)
   if x.1 = 0 then
    if (a : Int) ≠ en /\ nb < 64 then a :: Q9 k ((c :: t).drop x.2.2) (a + x.2.2) (a + x.2.2 : Nat) (nb + 1)
    else Q9 k ((c :: t).drop x.2.2) (a + x.2.2) (a + x.2.2 : Nat) nb
   else Q9 k ((c :: t).drop x.2.2) (a + x.2.2) en nb
def toks (r : List UInt8) (a : Nat) : List Tk:=a0N (r.length + 1) r a
def bads (r : List UInt8) (a : Nat) (en : Int) (nb : Nat) : List Nat:=Q9 (r.length + 1) r a en nb
theorem P2 (p : Bool) : ∀ t : List UInt8,l0 p t <= t.length
 | []=>Nat.le_refl _
 | b :: t=>by
   have:=P2 p t
   unfold l0
   split <;> simp only [List.length_cons] <;> omega
theorem b0V : ∀ t : List UInt8,E3 t <= t.length
 | []=>Nat.le_refl _
 | b :: t=>by
   have:=b0V t
   unfold E3
   split <;> simp only [List.length_cons] <;> omega
theorem a3p : ∀ (k : Nat) (t : List UInt8),t.length <= k -> ∀ s n,j9 t = some (s,n) -> 1 <= n /\ n <= t.length
 | k,[],_,s,n,h=>by cases h
 | 0,c :: t,hk,_,_,_=>by simp at hk
 | k + 1, c :: t,hk,s,n,h=>by
   unfold j9 at h
   simp only [List.length_cons] at hk ⊢
   split at h
   . cases h; omega
   split at h
   . cases h
   split at h
   . match t,h,hk with
     | [],h,_=>cases h
     | d :: t,h,hk =>
       simp only [List.length_cons] at hk ⊢
       simp only at h
       split at h
       . split at h
         . rename_i s' n' hq
           cases h
           have:=a3p k t (by omega) _ _ hq
           omega
         . cases h
       . cases h
   . split at h
     . rename_i s' n' hq
       cases h
       have:=a3p k t (by omega) _ _ hq
       omega
     . cases h
theorem b6O (s : List UInt8) (n : Nat) : (G5 s n).2.2 = n:=by
 unfold G5; split <;> (try split) <;> rfl
theorem b7M (c : UInt8) (t : List UInt8) : 1 <= (l5 (c :: t)).2.2 /\ (l5 (c :: t)).2.2 <= t.length + 1:=by
 have h1:=P2 false t
 have h2:=P2 true t
 simp only [l5]
 split
 . exact ⟨by simp,by simp; omega⟩
 split
 . rw [b6O]; omega
 split
 . split
   . rename_i s n hq
     have:=a3p _ t (Nat.le_refl _) _ _ hq
     dsimp only; omega
   . dsimp only; omega
 split
 . rename_i hd
   cases t with
   | nil=>cases hd
   | cons d t=>simp only [List.length_cons]; omega
 split <;> (dsimp only; omega)
theorem T1 (c : UInt8) (t : List UInt8) : 1 <= (g6 (c :: t)).2.2 /\ (g6 (c :: t)).2.2 <= t.length + 1:=by
 have h1:=b0V t
 simp only [g6]
 split
 . dsimp only; omega
 split
 . dsimp only; omega
 . exact b7M c t
theorem b1o : ∀ (k j : Nat) (r : List UInt8) (a : Nat),r.length < k -> r.length < j -> a0N k r a = a0N j r a
 | 0,_,_,_,h,_=>by omega
 | _,0,_,_,_,h=>by omega
 | _ + 1,_ + 1,[],_,_,_=>rfl
 | k + 1,j + 1,c :: t,a,hk,hj=>by
   have:=T1 c t
   simp only [List.length_cons] at hk hj
   simp only [a0N]
   rw [b1o k j _ _ (by rw [List.length_drop,List.length_cons]; omega) (by rw [List.length_drop,List.length_cons]; omega)]
theorem a7p : ∀ (k j : Nat) (r : List UInt8) (a : Nat) (en : Int) (nb : Nat),r.length < k -> r.length < j -> Q9 k r a en nb = Q9 j r a en nb
 | 0,_,_,_,_,_,h,_=>by omega
 | _,0,_,_,_,_,_,h=>by omega
 | _ + 1,_ + 1,[],_,_,_,_,_=>rfl
 | k + 1,j + 1,c :: t,a,en,nb,hk,hj=>by
   have:=T1 c t
   simp only [List.length_cons] at hk hj
   have ih:=λ a en nb=>a7p k j ((c :: t).drop (g6 (c :: t)).2.2) a en nb (by rw [List.length_drop,List.length_cons]; omega) (by rw [List.length_drop,List.length_cons]; omega)
   simp only [Q9,ih]
theorem b1r (a : Nat) : toks [] a = [⟨6,[],a⟩]:=rfl
theorem b2S (a : Nat) (en : Int) (nb : Nat) : bads [] a en nb = []:=rfl
theorem a0O (c : UInt8) (t : List UInt8) (a : Nat) : toks (c :: t) a = if F9 (g6 (c :: t)).1 then ⟨(g6 (c :: t)).1,(g6 (c :: t)).2.1,a⟩ :: toks ((c :: t).drop (g6 (c :: t)).2.2) (a + (g6 (c :: t)).2.2) else toks ((c :: t).drop (g6 (c :: t)).2.2) (a + (g6 (c :: t)).2.2):=by
 have:=T1 c t
 unfold toks
 conv=>lhs; unfold a0N
 dsimp only
 rw [b1o (c :: t).length _ _ _ (by rw [List.length_drop,List.length_cons]; omega) (Nat.lt_succ_self _)]
theorem a4p (c : UInt8) (t : List UInt8) (a : Nat) (en : Int) (nb : Nat) : bads (c :: t) a en nb =
 if (g6 (c :: t)).1 = 0 then
  if (a : Int) ≠ en /\ nb < 64 then a :: bads ((c :: t).drop (g6 (c :: t)).2.2) (a + (g6 (c :: t)).2.2) (a + (g6 (c :: t)).2.2 : Nat) (nb + 1)
  else bads ((c :: t).drop (g6 (c :: t)).2.2) (a + (g6 (c :: t)).2.2) (a + (g6 (c :: t)).2.2 : Nat) nb
 else bads ((c :: t).drop (g6 (c :: t)).2.2) (a + (g6 (c :: t)).2.2) en nb:=by
 have:=T1 c t
 have ih:=λ a en nb=>a7p (c :: t).length (((c :: t).drop (g6 (c :: t)).2.2).length + 1) ((c :: t).drop (g6 (c :: t)).2.2) a en nb (by rw [List.length_drop,List.length_cons]; omega) (Nat.lt_succ_self _)
 unfold bads
 conv=>lhs; unfold Q9
 simp only [ih]
def Tk.bare (x : Tk) : Nat × List UInt8:=(x.kind,x.text)
def a2P (s : List UInt8) (x : Tk) : Prop:=(x.kind = 4 -> s.head? = some 34) /\ (x.kind ≠ 4 -> x.text ≠ [] /\ x.text <+: s)
theorem b7J (c : UInt8) (t : List UInt8) (a : Nat) (h : F9 (l5 (c :: t)).1 = true) : a2P (c :: t) ⟨(l5 (c :: t)).1,(l5 (c :: t)).2.1,a⟩:=by
 have tk : ∀ n,(c :: t).take (n + 1) ≠ [] /\ (c :: t).take (n + 1) <+: c :: t:=λ n=>⟨by simp,List.take_prefix _ _⟩
 simp only [l5] at h ⊢
 split
 . exact ⟨λ h=>absurd (show (_ : Nat) = 4 from h) (by dsimp only; omega),λ _=>tk _⟩
 rename_i h1
 rw [if_neg h1] at h
 split
 . rename_i h2
   rw [if_pos h2] at h
   simp only [G5] at h ⊢
   split
   . exact ⟨λ h=>absurd (show (_ : Nat) = 4 from h) (by dsimp only; omega),λ _=>tk _⟩
   rename_i h3
   rw [if_neg h3] at h
   split
   . exact ⟨λ h=>absurd (show (_ : Nat) = 4 from h) (by dsimp only; omega),λ _=>tk _⟩
   . rename_i h4
     rw [if_neg h4] at h
     cases h
 rename_i h2
 rw [if_neg h2] at h
 split
 . rename_i h3
   rw [if_pos h3] at h
   cases hq : j9 t with
   | none=>rw [hq] at h; cases h
   | some x=>exact ⟨λ _=>by rw [h3]; rfl,λ h=>absurd rfl h⟩
 rename_i h3
 rw [if_neg h3] at h
 split
 . exact ⟨λ h=>absurd (show (_ : Nat) = 4 from h) (by dsimp only; omega),λ _=>tk 1⟩
 rename_i h4
 rw [if_neg h4] at h
 split
 . exact ⟨λ h=>absurd (show (_ : Nat) = 4 from h) (by dsimp only; omega),λ _=>tk 0⟩
 . rename_i h5
   rw [if_neg h5] at h
   cases h
theorem b9e (c : UInt8) (t : List UInt8) (a : Nat) (h : F9 (g6 (c :: t)).1 = true) : a2P (c :: t) ⟨(g6 (c :: t)).1,(g6 (c :: t)).2.1,a⟩:=by
 simp only [g6] at h ⊢
 split
 . rename_i h1; rw [if_pos h1] at h; cases h
 rename_i h1
 rw [if_neg h1] at h
 split
 . rename_i h2; rw [if_pos h2] at h; cases h
 rename_i h2
 rw [if_neg h2] at h
 exact b7J c t a h
theorem b1p : ∀ (k : Nat) (r : List UInt8) (a : Nat),r.length <= k -> ∃ i,toks r a = i ++ [⟨6,[],a + r.length⟩] /\ ∀ x ∈ i,a <= x.at_ /\ x.at_ < a + r.length /\ F9 x.kind = true /\ a2P (r.drop (x.at_ - a)) x
 | _,[],a,_=>⟨[],rfl,by simp⟩
 | 0,c :: t,_,h=>by simp at h
 | k + 1,c :: t,a,h=>by
   have h1:=T1 c t
   simp only [List.length_cons] at h ⊢
   obtain ⟨i,hi,hx⟩:=b1p k ((c :: t).drop (g6 (c :: t)).2.2) (a + (g6 (c :: t)).2.2) (by rw [List.length_drop,List.length_cons]; omega)
   rw [List.length_drop,List.length_cons] at hi hx
   have e : a + (g6 (c :: t)).2.2 + (t.length + 1 - (g6 (c :: t)).2.2) = a + (t.length + 1):=by omega
   rw [e] at hi hx
   have hx' : ∀ x ∈ i,a <= x.at_ /\ x.at_ < a + (t.length + 1) /\ F9 x.kind = true /\ a2P ((c :: t).drop (x.at_ - a)) x:=by
    intro x hm
    obtain ⟨h3,h4,h5,h6⟩:=hx x hm
    rw [List.drop_drop,show (g6 (c :: t)).2.2 + (x.at_ - (a + (g6 (c :: t)).2.2)) = x.at_ - a by omega] at h6
    exact ⟨by omega,h4,h5,h6⟩
   rw [a0O,hi]
   split
   . rename_i hk
     refine ⟨_ :: i,rfl,λ x hm=>?_⟩
     rcases List.mem_cons.1 hm with rfl | hm
     . refine ⟨Nat.le_refl _,by dsimp only; omega,hk,?_⟩
       rw [Nat.sub_self]
       exact b9e c t a hk
     . exact hx' x hm
   . exact ⟨i,rfl,hx'⟩
end Go.Proofs.YtaopegkpjhkooaaGreatDoor.Dx
/- Times as tokens; the text of a time denotes it. -/
namespace Go.Proofs.YtaopegkpjhkooaaGreatDoor.Dx
open Go Go.RowKit Go.Proofs
set_option maxRecDepth 100000
set_option maxHeartbeats 8000000
theorem H6 {c : UInt8} : ∀ {s w r : List UInt8},n8 c s = (w,r,true) -> s = w ++ c :: r /\ c ∉ w
 | [],w,r,h=>by simp [n8] at h
 | b :: s,w,r,h=>by
   by_cases hb : b = c
   . subst hb
     simp [n8] at h
     obtain ⟨rfl,rfl⟩:=h
     simp
   . have hb' : (b != c) = true:=by simpa using hb
     have hb2 : (b == c) = false:=by simpa using hb
     have ih:=@H6 c s (s.takeWhile (· != c)) r
     simp only [n8,List.takeWhile_cons,List.dropWhile_cons,hb',if_true,List.any_cons,hb2,Bool.false_or,Prod.mk.injEq] at h ih
     obtain ⟨rfl,h2,h3⟩:=h
     have:=ih ⟨trivial,h2,h3⟩
     exact ⟨by rw [List.cons_append,<- this.1],by simp only [List.mem_cons,not_or]; exact ⟨Ne.symm hb,this.2⟩⟩
theorem E7 {c : UInt8} : ∀ {s w r : List UInt8},n8 c s = (w,r,false) -> s = w /\ r = [] /\ c ∉ w
 | [],w,r,h=>by simp [n8] at h; simp [h]
 | b :: s,w,r,h=>by
   by_cases hb : b = c
   . subst hb
     simp [n8] at h
   . have hb' : (b != c) = true:=by simpa using hb
     have hb2 : (b == c) = false:=by simpa using hb
     have ih:=@E7 c s (s.takeWhile (· != c)) r
     simp only [n8,List.takeWhile_cons,List.dropWhile_cons,hb',if_true,List.any_cons,hb2,Bool.false_or,Prod.mk.injEq] at h ih
     obtain ⟨rfl,h2,h3⟩:=h
     have:=ih ⟨trivial,h2,h3⟩
     exact ⟨by rw [<- this.1],this.2.1,by simp only [List.mem_cons,not_or]; exact ⟨Ne.symm hb,this.2.2⟩⟩
theorem a8d {b : UInt8} (h : g7 b = true) : inB b = true:=by simp [inB,h]
theorem S7 (y : List UInt8) : ∀ {x : List UInt8},x.all g7 = true -> l0 true (x ++ y) = x.length + l0 true y
 | [],_=>by simp
 | b :: x,h=>by
   simp only [List.all_cons,Bool.and_eq_true] at h
   rw [List.cons_append,l0,a8d h.1,Bool.true_or,if_pos rfl,S7 y h.2,List.length_cons]; omega
theorem b0z {y : List UInt8} (h : I0 y = true) : l0 true (58 :: y) = 1 + l0 true y:=by
 rw [l0,ptB,h]; simp; omega
theorem b8m {y : List UInt8} (h : I0 y = true) : l0 true (46 :: y) = 1 + l0 true y:=by
 rw [l0,ptB,h]; simp; omega
theorem a0o {x : List UInt8} (y : List UInt8) (h : x.all g7 = true) (hx : x ≠ []) : I0 (x ++ y) = true:=by
 cases x with
 | nil=>exact absurd rfl hx
 | cons b x=>simp only [List.all_cons,Bool.and_eq_true] at h; exact h.1
theorem S3 {s : List UInt8} (h : o7 s = true) : s.all g7 = true /\ s ≠ []:=by
 simp only [o7,r5,Bool.and_eq_true,decide_eq_true_eq] at h
 refine ⟨h.1.2.2,?_⟩
 rintro rfl
 have:=h.1.1; simp at this
theorem b4R {s : List UInt8} (h : ¬ H9 s < 0) : s.all g7 = true /\ s ≠ []:=by
 unfold H9 at h
 split at h
 . rename_i h1
   simp only [Bool.and_eq_true,decide_eq_true_eq] at h1
   refine ⟨h1.2.2,?_⟩
   rintro rfl
   have:=h1.1; simp at this
 . exact absurd (by decide) h
theorem a5Z {s : List UInt8} (h : ¬ r8 s < 0) : s.all g7 = true /\ s ≠ []:=by
 unfold r8 at h
 split at h
 . split at h
   . rename_i h1
     simp only [Bool.and_eq_true] at h1
     simp [h1.1,h1.2.1]
   . exact absurd (by decide) h
 . exact absurd (by decide) h
structure Shape (u : List UInt8) where
 a : List UInt8
 y : List UInt8
 eq : u = a ++ y
 dg : a.all g7 = true
 ne : a ≠ []
 more : y ≠ []
 run : ∀ z,l0 true z = 0 -> l0 true (y ++ z) = y.length
 bad : ∃ b ∈ u,g7 b = false
theorem a6q {u : List UInt8} {v : Int} (h : I7 u = some v) : Nonempty (Shape u):=by
 rcases hp : n8 46 u with ⟨w,f,p⟩
 rcases hq : n8 58 w with ⟨a,r,c⟩
 rcases hr : n8 58 r with ⟨b,r2,c2⟩
 simp only [I7,hp,hq,a0B,hr] at h
 by_cases h1 : o7 a = false \/ (a.length : Int) > 13 \/ (if p = true then H9 f else 0) < 0 \/ (c = false /\ p = false)
 . rw [if_pos h1] at h; cases h
 rw [if_neg h1] at h
 simp only [not_or,Bool.not_eq_false] at h1
 obtain ⟨hA,_,hF,hC⟩:=h1
 have ha:=S3 hA
 obtain ⟨F,hu,hFr⟩ : ∃ F,u = w ++ F /\ ((p = true /\ ∃ f,F = 46 :: f /\ f.all g7 = true /\ f ≠ []) \/ (p = false /\ F = [])):=by
  cases p with
  | true =>
    have:=b4R (s:=f) (by simpa using hF)
    exact ⟨46 :: f,(H6 hp).1,.inl ⟨rfl,f,rfl,this.1,this.2⟩⟩
  | false=>exact ⟨[],by rw [List.append_nil]; exact (E7 hp).1,.inr ⟨rfl,rfl⟩⟩
 have runF : ∀ z,l0 true z = 0 -> l0 true (F ++ z) = F.length:=by
  intro z hz
  rcases hFr with ⟨_,f,rfl,h1,h2⟩ | ⟨_,rfl⟩
  . rw [List.cons_append,b8m (a0o z h1 h2),S7 z h1,hz,List.length_cons]; omega
  . simpa using hz
 cases c with
 | false =>
   obtain ⟨rfl,rfl,_⟩:=E7 hq
   rcases hFr with ⟨_,f,rfl,h1,h2⟩ | ⟨rfl,_⟩
   . exact ⟨⟨w,46 :: f,hu,ha.1,ha.2,by simp,runF,46,by rw [hu]; simp,by decide⟩⟩
   . simp at hC
 | true =>
   obtain ⟨rfl,hnw⟩:=H6 hq
   simp only [if_true] at h
   split at h
   . cases h
   rename_i tt ht
   split at ht
   . cases ht
   rename_i hb
   have hb:=a5Z hb
   obtain ⟨R,hR,runR,hdR⟩ : ∃ R,r = R /\ (∀ z,l0 true z = 0 -> l0 true (R ++ (F ++ z)) = R.length + F.length) /\ ∀ z,I0 (R ++ z) = true:=by
    refine ⟨r,rfl,λ z hz=>?_,λ z=>?_⟩
    . cases c2 with
      | false =>
        obtain ⟨rfl,rfl,_⟩:=E7 hr
        rw [S7 _ hb.1,runF z hz]
      | true =>
        obtain ⟨rfl,_⟩:=H6 hr
        simp only [if_true] at ht
        split at ht
        . cases ht
        rename_i hc
        have hc:=a5Z hc
        rw [List.append_assoc,S7 _ hb.1,List.cons_append,b0z (a0o _ hc.1 hc.2),S7 _ hc.1,runF z hz,List.length_append,List.length_cons]; omega
    . cases c2 with
      | false =>
        obtain ⟨rfl,rfl,_⟩:=E7 hr
        exact a0o _ hb.1 hb.2
      | true =>
        obtain ⟨rfl,_⟩:=H6 hr
        rw [List.append_assoc]
        exact a0o _ hb.1 hb.2
   subst hR
   refine ⟨⟨a,58 :: (r ++ F),by rw [hu]; simp,ha.1,ha.2,by simp,λ z hz=>?_,58,by rw [hu]; simp,by decide⟩⟩
   rw [List.cons_append,List.append_assoc,b0z (hdR _),runR z hz,List.length_cons,List.length_append]; omega
theorem a9O {u : List UInt8} (h : ∃ b ∈ u,g7 b = false) : o7 u = false:=by
 cases hn : o7 u with
 | false=>rfl
 | true =>
   obtain ⟨b,hb,h2⟩:=h
   have:=List.all_eq_true.1 (S3 hn).1 b hb
   rw [this] at h2; cases h2
theorem b6b : ∀ b : UInt8,g7 b = true -> t8 b = false:=by
 intro b h
 have:=isDg_iff.1 h
 simp only [t8,Bool.or_eq_false_iff,Bool.and_eq_false_iff,decide_eq_false_iff_not]; omega
theorem b7O {s : List UInt8} {v : Int} (h : x9 s = some v) {z : List UInt8} (hz : l0 true z = 0) : l5 (s ++ z) = (3,s,s.length):=by
 have main : ∀ u,∀ S : Shape u,l0 true (u ++ z) = u.length /\ I0 (u ++ z) = true:=by
  intro u S
  rw [S.eq,List.append_assoc]
  exact ⟨by rw [S7 _ S.dg,S.run z hz,List.length_append],a0o _ S.dg S.ne⟩
 unfold x9 at h
 split at h
 . rename_i u
   split at h
   . rename_i v' hv
     obtain ⟨S⟩:=a6q hv
     obtain ⟨h1,h2⟩:=main u S
     have hN : x9 (45 :: u) = some v:=by rw [x9,hv]; exact h
     have hI : A9 (45 :: u) = false:=by rw [A9,a9O S.bad]; rfl
     rw [List.cons_append,l5,if_neg (by decide),h2,h1,show ((45 : UInt8) == 45) = true from rfl,Bool.true_and,Bool.or_true,if_pos rfl]
     rw [show (45 :: (u ++ z)).take (u.length + 1) = 45 :: u by simp,G5,hI,hN]
     rfl
   . cases h
 . obtain ⟨S⟩:=a6q h
   obtain ⟨h1,h2⟩:=main s S
   have hN : x9 s = some v:=by
    unfold x9
    split
    . simp_all
    . exact h
   have hI : A9 s = false:=by
    unfold A9
    split
    . simp_all
    . exact a9O S.bad
   cases s with
   | nil =>
     exfalso
     have h3:=S.eq
     have h4:=S.ne
     exact h4 (List.append_eq_nil_iff.1 h3.symm).1
   | cons b s =>
     have hb : g7 b = true:=h2
     rw [List.cons_append] at h1 ⊢
     rw [l0,a8d hb,Bool.true_or,if_pos rfl,List.length_cons] at h1
     rw [l5,if_neg (by rw [b6b b hb]; decide),hb,Bool.true_or,if_pos rfl,h1]
     rw [show (b :: (s ++ z)).take (s.length + 1) = b :: s by simp,G5,hI,hN]
     rfl
theorem b4Y {s : List UInt8} {v : Int} (h : x9 s = some v) : ∃ b t,s = b :: t /\ blB b = false /\ b ≠ 35:=by
 have main : ∀ u,∀ _ : Shape u,∃ b t,u = b :: t /\ g7 b = true:=by
  intro u S
  have:=S.eq
  have h2:=S.ne
  have h3:=S.dg
  match ha : S.a with
  | []=>exact absurd ha h2
  | b :: a =>
    rw [ha] at this h3
    simp only [List.all_cons,Bool.and_eq_true] at h3
    exact ⟨b,a ++ S.y,this,h3.1⟩
 have dgs : ∀ b,g7 b = true -> blB b = false /\ b ≠ 35:=by
  intro b hb
  have:=isDg_iff.1 hb
  constructor
  . simp only [blB,List.contains_eq_mem,List.mem_cons,List.not_mem_nil,or_false,decide_eq_false_iff_not,not_or]
    refine ⟨?_,?_,?_,?_⟩ <;> (rintro rfl; revert hb; decide)
  . rintro rfl; revert hb; decide
 unfold x9 at h
 split at h
 . exact ⟨_,_,rfl,by decide,by decide⟩
 . obtain ⟨S⟩:=a6q h
   obtain ⟨b,t,rfl,hb⟩:=main s S
   exact ⟨b,t,rfl,dgs b hb⟩
theorem chr {k : Nat} (h : k < 10) : (UInt8.ofNat (48 + k)).toNat = 48 + k:=by
 rw [UInt8.toNat_ofNat']; omega
theorem a7E {k : Nat} (h : k < 10) : g7 (UInt8.ofNat (48 + k)) = true:=by
 rw [isDg_iff,chr h]; omega
theorem a4F (u : Nat) : (Lib.decDigits u).all g7 = true /\ numN (Lib.decDigits u) = u /\ Lib.decDigits u ≠ [] /\ (u ≠ 0 -> (Lib.decDigits u).head? ≠ some 48) /\ ∀ k,u < 10 ^ (k + 1) -> (Lib.decDigits u).length <= k + 1:=by
 induction u using Nat.strongRecOn with
 | _ u ih =>
   rw [Lib.decDigits]
   split
   . rename_i h
     refine ⟨by simp only [List.all_cons,List.all_nil,Bool.and_true,a7E h],by simp only [numN,List.foldl_cons,List.foldl_nil,chr h]; omega,by simp,λ h0=>?_,λ k _=>by simp⟩
     intro e
     have e : UInt8.ofNat (48 + u) = 48:=by simpa using e
     have:=congrArg UInt8.toNat e
     rw [chr h] at this
     have h48 : (48 : UInt8).toNat = 48:=rfl
     omega
   . rename_i h
     obtain ⟨h1,h2,h3,h4,h5⟩:=ih (u / 10) (by omega)
     refine ⟨by rw [List.all_append,h1]; simp only [List.all_cons,List.all_nil,Bool.and_true,a7E (Nat.mod_lt u (by decide : 0 < 10))],?_,by simp,λ _=>?_,λ k hk=>?_⟩
     . rw [a5A,h2,chr (Nat.mod_lt u (by decide))]; omega
     . rw [List.head?_append]
       have:=h4 (by omega)
       cases hd : (Lib.decDigits (u / 10)).head? with
       | none=>rw [List.head?_eq_none_iff] at hd; exact absurd hd h3
       | some x=>rw [hd] at this; simpa using this
     . cases k with
       | zero=>simp at hk; omega
       | succ k =>
         have:=h5 k (by rw [Nat.pow_succ] at hk; omega)
         rw [List.length_append,List.length_singleton]; omega
theorem a5e {n : Int} (h : 0 <= n) : Lib.itoa n = Lib.decDigits n.toNat:=by rw [Lib.itoa,if_neg (by omega)]
theorem b5o {n : Int} (h : 0 <= n) : (Lib.itoa n).all g7 = true:=by rw [a5e h]; exact (a4F _).1
theorem b5p {n : Int} (h : 0 <= n) : (numN (Lib.itoa n) : Int) = n:=by rw [a5e h,(a4F _).2.1]; omega
theorem a9R (w : List UInt8) : ∀ k,numN (w ++ List.replicate k 48) = numN w * 10 ^ k
 | 0=>by simp
 | k + 1=>by
   rw [List.replicate_succ',<- List.append_assoc,a5A,a9R w k,Nat.pow_succ,<- Nat.mul_assoc (numN w)]
   have : (48 : UInt8).toNat = 48:=rfl
   omega
end Go.Proofs.YtaopegkpjhkooaaGreatDoor.Dx
