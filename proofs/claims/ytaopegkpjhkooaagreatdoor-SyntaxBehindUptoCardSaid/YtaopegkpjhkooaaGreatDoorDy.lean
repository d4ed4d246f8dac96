/- Chapter 06: the parser of conditions and steps as plain functions over tokens. -/
import Derived.Test.YtaopegkpjhkooaaGreatDoorDq
import Derived.Test.YtaopegkpjhkooaaGreatDoorDl
set_option linter.all false
namespace Go.Proofs.YtaopegkpjhkooaaGreatDoor.Dx
open Go Go.RowKit
set_option maxRecDepth 100000
inductive Rs (α : Type) where
 | ok (a : α) (ts : List Tk)
 | er (at_ : Nat) (e : Int)
 | out
def Rs.bind {α β : Type} (r : Rs α) (f : α -> List Tk -> Rs β) : Rs β:=match r with | .ok a ts=>f a ts | .er a e=>.er a e | .out=>.out
theorem Rs.bind_ok {α β : Type} {a : α} {ts : List Tk} {f : α -> List Tk -> Rs β} : (Rs.ok a ts).bind f = f a ts:=rfl
theorem Rs.bind_er {α β : Type} {a : Nat} {e : Int} {f : α -> List Tk -> Rs β} : (Rs.er a e : Rs α).bind f = .er a e:=rfl
def hdT (ts : List Tk) : Tk:=ts.headD ⟨6,[],0⟩
def n6 {α : Type} (e : Int) (ts : List Tk) : Rs α:=.er (hdT ts).at_ e
def isW (w : List UInt8) (ts : List Tk) : Bool:=(decide ((hdT ts).kind = 1) || decide ((hdT ts).kind = 5)) && decide ((hdT ts).text = w)
def f9 (w : List UInt8) (ts : List Tk) : Rs Unit:=if isW w ts then .ok () ts.tail else n6 60 ts
def A4 (t : Tk) : Option Int:=if t.kind = 2 /\ t.text.head? ≠ some 45 /\ (numN t.text : Int) <= 1125899906842624 then some (numN t.text) else none
def j2 (ts : List Tk) : Rs Int:=match A4 (hdT ts) with | some n=>.ok n ts.tail | none=>n6 60 ts
def C3 (ts : List Tk) : Option Int:=if isW [100,105,115,116,97,110,99,101] ts then some 1 else if isW [102,105,101,108,100] ts then some 2 else if isW [115,104,111,114,116] ts then some 3 else none
abbrev r6 (c : Cond) : Cond:=⟨4,0,0,[c]⟩
abbrev leC (v n : Int) : Cond:=⟨1,v,n,[]⟩
def r7 (v : Int) (ts : List Tk) : Rs Cond :=
 if isW [62,61] ts then (j2 ts.tail).bind λ n ts=>.ok (leC v n) ts
 else if isW [62] ts then (j2 ts.tail).bind λ n ts=>.ok (leC v (n + 1)) ts
 else if isW [60,61] ts then (j2 ts.tail).bind λ n ts=>.ok (r6 (leC v (n + 1))) ts
 else if isW [60] ts then (j2 ts.tail).bind λ n ts=>.ok (r6 (leC v n)) ts
 else if isW [61] ts then (j2 ts.tail).bind λ n ts=>.ok ⟨2,0,0,[leC v n,r6 (leC v (n + 1))]⟩ ts
 else n6 60 ts
def mkC (k : Int) : List Cond -> Cond
 | [c]=>c
 | l=>⟨k,0,0,l⟩
mutual
def l7 : Nat -> Nat -> List Tk -> Rs Cond
 | 0,_,_=>.out
 | k + 1,d,ts =>
   if (isW [110,111,116] ts || isW [40] ts) && decide (16 <= d) then n6 2 ts
   else if isW [110,111,116] ts then (l7 k (d + 1) ts.tail).bind λ c ts=>.ok (r6 c) ts
   else if isW [40] ts then (condP k (d + 1) ts.tail).bind λ c ts=>(f9 [41] ts).bind λ _ ts=>.ok c ts
   else match C3 ts with
    | none=>n6 60 ts
    | some v=>r7 v ts.tail
def o9 : Nat -> Nat -> List Tk -> Rs Cond
 | 0,_,_=>.out
 | k + 1,d,ts=>(l7 k d ts).bind λ c ts=>conjL k d [c] ts
def conjL : Nat -> Nat -> List Cond -> List Tk -> Rs Cond
 | 0,_,_,_=>.out
 | k + 1,d,l,ts=>if isW [97,110,100] ts then (l7 k d ts.tail).bind λ c ts=>conjL k d (l ++ [c]) ts else .ok (mkC 2 l) ts
def condP : Nat -> Nat -> List Tk -> Rs Cond
 | 0,_,_=>.out
 | k + 1,d,ts=>(o9 k d ts).bind λ c ts=>condL k d [c] ts
def condL : Nat -> Nat -> List Cond -> List Tk -> Rs Cond
 | 0,_,_,_=>.out
 | k + 1,d,l,ts=>if isW [111,114] ts then (o9 k d ts.tail).bind λ c ts=>condL k d (l ++ [c]) ts else .ok (mkC 3 l) ts
end
def critW : List (List UInt8 × Int):=[([111,108,100,101,114],1),([121,111,117,110,103,101,114],2),([119,97,118,101],3),([98,105,98],4),([100,114,97,119],5)]
def y6 (ts : List Tk) : Option Int:=if (hdT ts).kind = 1 then (critW.find? λ p=>p.1 == (hdT ts).text).map (·.2) else none
mutual
def l6 : Nat -> Nat -> List Step -> List Tk -> Rs (List Step)
 | 0,_,_,_=>.out
 | k + 1,d,l,ts=>match y6 ts with
   | some b=>(f9 [59] ts.tail).bind λ _ ts=>l6 k d (l ++ [⟨1,b,⟨0,0,0,[]⟩,[],[]⟩]) ts
   | none =>
     if isW [105,102] ts then
      if 16 <= d then n6 2 ts
      else (condP k 0 ts.tail).bind λ c ts=>(blockP k (d + 1) ts).bind λ t ts =>
       if isW [101,108,115,101] ts then (blockP k (d + 1) ts.tail).bind λ e ts=>l6 k d (l ++ [⟨2,0,c,t,e⟩]) ts
       else l6 k d (l ++ [⟨2,0,c,t,[]⟩]) ts
     else if l = [] then n6 60 ts else .ok l ts
def blockP : Nat -> Nat -> List Tk -> Rs (List Step)
 | 0,_,_=>.out
 | k + 1,d,ts=>(f9 [123] ts).bind λ _ ts=>(l6 k d [] ts).bind λ l ts=>(f9 [125] ts).bind λ _ ts=>.ok l ts
end
theorem H4 {α β : Type} {r r' : Rs α} {f f' : α -> List Tk -> Rs β} (h : r ≠ .out -> r' = r) (hf : ∀ a ts,f a ts ≠ .out -> f' a ts = f a ts) (hn : r.bind f ≠ .out) : r'.bind f' = r.bind f:=by
 cases r with
 | ok a ts=>rw [h (by simp)]; exact hf a ts hn
 | er a e=>rw [h (by simp)]; rfl
 | out=>exact absurd rfl hn
theorem a4C : ∀ k : Nat,(∀ d ts,l7 k d ts ≠ .out -> l7 (k + 1) d ts = l7 k d ts) /\ (∀ d ts,o9 k d ts ≠ .out -> o9 (k + 1) d ts = o9 k d ts) /\ (∀ d l ts,conjL k d l ts ≠ .out -> conjL (k + 1) d l ts = conjL k d l ts) /\
 (∀ d ts,condP k d ts ≠ .out -> condP (k + 1) d ts = condP k d ts) /\ (∀ d l ts,condL k d l ts ≠ .out -> condL (k + 1) d l ts = condL k d l ts)
 | 0=>⟨λ d ts h=>absurd (by rw [l7]) h,λ d ts h=>absurd (by rw [o9]) h,λ d l ts h=>absurd (by rw [conjL]) h,λ d ts h=>absurd (by rw [condP]) h,λ d l ts h=>absurd (by rw [condL]) h⟩
 | k + 1 => by
   obtain ⟨h1,h2,h3,h4,h5⟩:=a4C k
   refine ⟨λ d ts h=>?_,λ d ts h=>?_,λ d l ts h=>?_,λ d ts h=>?_,λ d l ts h=>?_⟩
   . rw [l7] at h
     conv=>lhs; rw [l7]
     conv=>rhs; rw [l7]
     split
     . rfl
     . rename_i q1
       rw [if_neg q1] at h
       split
       . rename_i q2
         rw [if_pos q2] at h
         exact H4 (h1 _ _) (λ _ _ _=>rfl) h
       . rename_i q2
         rw [if_neg q2] at h
         split
         . rename_i q3
           rw [if_pos q3] at h
           exact H4 (h4 _ _) (λ _ _ _=>rfl) h
         . rfl
   . rw [o9] at h
     conv=>lhs; rw [o9]
     conv=>rhs; rw [o9]
     exact H4 (h1 _ _) (λ _ _=>h3 _ _ _) h
   . rw [conjL] at h
     conv=>lhs; rw [conjL]
     conv=>rhs; rw [conjL]
     split
     . rename_i q
       rw [if_pos q] at h
       exact H4 (h1 _ _) (λ _ _=>h3 _ _ _) h
     . rfl
   . rw [condP] at h
     conv=>lhs; rw [condP]
     conv=>rhs; rw [condP]
     exact H4 (h2 _ _) (λ _ _=>h5 _ _ _) h
   . rw [condL] at h
     conv=>lhs; rw [condL]
     conv=>rhs; rw [condL]
     split
     . rename_i q
       rw [if_pos q] at h
       exact H4 (h2 _ _) (λ _ _=>h5 _ _ _) h
     . rfl
theorem b1a : ∀ k : Nat,(∀ d l ts,l6 k d l ts ≠ .out -> l6 (k + 1) d l ts = l6 k d l ts) /\ (∀ d ts,blockP k d ts ≠ .out -> blockP (k + 1) d ts = blockP k d ts)
 | 0=>⟨λ d l ts h=>absurd (by rw [l6]) h,λ d ts h=>absurd (by rw [blockP]) h⟩
 | k + 1 => by
   obtain ⟨h1,h2⟩:=b1a k
   have h4:=(a4C k).2.2.2.1
   refine ⟨λ d l ts h=>?_,λ d ts h=>?_⟩
   . rw [l6] at h
     conv=>lhs; rw [l6]
     conv=>rhs; rw [l6]
     split
     . rename_i b hb
       rw [hb] at h
       exact H4 (λ _=>rfl) (λ _ _=>h1 _ _ _) h
     . rename_i hb
       rw [hb] at h
       split
       . rename_i q
         simp only [if_pos q] at h
         split
         . rfl
         . rename_i q2
           rw [if_neg q2] at h
           refine H4 (h4 _ _) (λ c ts hh=>?_) h
           refine H4 (h2 _ _) (λ t ts hh=>?_) hh
           split
           . rename_i q3
             rw [if_pos q3] at hh
             exact H4 (h2 _ _) (λ _ _=>h1 _ _ _) hh
           . rename_i q3
             rw [if_neg q3] at hh
             exact h1 _ _ _ hh
       . rfl
   . rw [blockP] at h
     conv=>lhs; rw [blockP]
     conv=>rhs; rw [blockP]
     exact H4 (λ _=>rfl) (λ _ _ hh=>H4 (h1 _ _ _) (λ _ _ _=>rfl) hh) h
theorem a9F {α : Type} {f : Nat -> Rs α} (h : ∀ k,f k ≠ .out -> f (k + 1) = f k) {k j : Nat} (hk : f k ≠ .out) (hj : k <= j) : f j = f k:=by
 obtain ⟨i,rfl⟩ : ∃ i,j = k + i:=⟨j - k,by omega⟩
 clear hj
 induction i with
 | zero=>rfl
 | succ i ih=>rw [<- ih]; exact h (k + i) (by rw [ih]; exact hk)
def Rs.short {α : Type} (r : Rs α) (n : Nat) : Prop:=r ≠ .out /\ ∀ a ts,r = .ok a ts -> ts.length <= n
theorem D6 {α : Type} {e : Int} {ts : List Tk} {n : Nat} : (n6 e ts : Rs α).short n:=⟨by simp [n6],λ a ts h=>by simp [n6] at h⟩
theorem Rs.short.bind {α β : Type} {r : Rs α} {f : α -> List Tk -> Rs β} {n m : Nat} (h : r.short n) (hf : ∀ a ts,ts.length <= n -> (f a ts).short m) : (r.bind f).short m:=by
 cases r with
 | ok a ts=>exact hf a ts (h.2 a ts rfl)
 | er a e=>exact ⟨by simp [Rs.bind],λ a ts h=>by simp [Rs.bind] at h⟩
 | out=>exact absurd rfl h.1
theorem a8X {w : List UInt8} {ts : List Tk} (h : isW w ts = true) : ∃ t r,ts = t :: r:=by
 cases ts with
 | nil=>simp [isW,hdT] at h
 | cons t r=>exact ⟨t,r,rfl⟩
theorem O5 {w : List UInt8} {ts : List Tk} (h : isW w ts = true) : ts.tail.length + 1 = ts.length:=by
 obtain ⟨t,r,rfl⟩:=a8X h; rfl
theorem n7 {w : List UInt8} {ts : List Tk} {n : Nat} (h : ts.length <= n + 1) : (f9 w ts).short n:=by
 rw [f9]
 split
 . rename_i q
   exact ⟨by simp,λ a r e=>by cases e; rw [List.length_tail]; omega⟩
 . exact D6
theorem I4 {ts : List Tk} {n : Nat} (h : ts.length <= n + 1) : (j2 ts).short n:=by
 rw [j2]
 split
 . exact ⟨by simp,λ a r e=>by cases e; rw [List.length_tail]; omega⟩
 . exact D6
theorem Rs.short.ok {α : Type} {a : α} {ts : List Tk} {n : Nat} (h : ts.length <= n) : (Rs.ok a ts).short n:=⟨by simp,λ _ _ e=>by cases e; exact h⟩
theorem b7T {v : Int} {ts : List Tk} {n : Nat} (h : ts.length <= n) : (r7 v ts).short n:=by
 have ht : ts.tail.length <= n + 1:=by rw [List.length_tail]; omega
 rw [r7]
 repeat' split
 all_goals first
  | exact D6
  | exact (I4 ht).bind λ _ _ h=>.ok h
theorem a4A (n : Nat) : (∀ k d ts,ts.length <= n -> 5 * n + 1 <= k -> (l7 k d ts).short n) /\ (∀ k d ts,ts.length <= n -> 5 * n + 3 <= k -> (o9 k d ts).short n) /\ (∀ k d l ts,ts.length <= n -> 5 * n + 2 <= k -> (conjL k d l ts).short n) /\
 (∀ k d ts,ts.length <= n -> 5 * n + 5 <= k -> (condP k d ts).short n) /\ (∀ k d l ts,ts.length <= n -> 5 * n + 4 <= k -> (condL k d l ts).short n):=by
 have ih : ∀ m,m + 1 = n -> (∀ k d ts,ts.length <= m -> 5 * m + 1 <= k -> (l7 k d ts).short m) /\ (∀ k d ts,ts.length <= m -> 5 * m + 3 <= k -> (o9 k d ts).short m) /\ (∀ k d l ts,ts.length <= m -> 5 * m + 2 <= k -> (conjL k d l ts).short m) /\
  (∀ k d ts,ts.length <= m -> 5 * m + 5 <= k -> (condP k d ts).short m) /\ (∀ k d l ts,ts.length <= m -> 5 * m + 4 <= k -> (condL k d l ts).short m):=λ m hm=>a4A m
 have up : ∀ {α : Type} {r : Rs α} {m : Nat},m + 1 = n -> r.short m -> r.short n:=λ hm h=>⟨h.1,λ a ts e=>by have:=h.2 a ts e; omega⟩
 have h1 : ∀ k d ts,ts.length <= n -> 5 * n + 1 <= k -> (l7 k d ts).short n:=by
  intro k d ts hts hk
  obtain ⟨k,rfl⟩ : ∃ j,k = j + 1:=⟨k - 1,by omega⟩
  rw [l7]
  split
  . exact D6
  split
  . rename_i q
    have:=O5 q
    obtain ⟨m,hm⟩ : ∃ m,m + 1 = n:=⟨n - 1,by omega⟩
    exact up hm (((ih m hm).1 k (d + 1) ts.tail (by omega) (by omega)).bind λ _ _ h=>.ok h)
  split
  . rename_i q
    have:=O5 q
    obtain ⟨m,hm⟩ : ∃ m,m + 1 = n:=⟨n - 1,by omega⟩
    exact up hm (((ih m hm).2.2.2.1 k (d + 1) ts.tail (by omega) (by omega)).bind λ _ _ h=>(n7 (by omega)).bind λ _ _ h=>.ok h)
  . split
    . exact D6
    . exact b7T (by rw [List.length_tail]; omega)
 have h3 : ∀ k d l ts,ts.length <= n -> 5 * n + 2 <= k -> (conjL k d l ts).short n:=by
  intro k d l ts hts hk
  obtain ⟨k,rfl⟩ : ∃ j,k = j + 1:=⟨k - 1,by omega⟩
  rw [conjL]
  split
  . rename_i q
    have:=O5 q
    obtain ⟨m,hm⟩ : ∃ m,m + 1 = n:=⟨n - 1,by omega⟩
    exact up hm (((ih m hm).1 k d ts.tail (by omega) (by omega)).bind λ _ _ h=>(ih m hm).2.2.1 k d _ _ h (by omega))
  . exact .ok hts
 have h2 : ∀ k d ts,ts.length <= n -> 5 * n + 3 <= k -> (o9 k d ts).short n:=by
  intro k d ts hts hk
  obtain ⟨k,rfl⟩ : ∃ j,k = j + 1:=⟨k - 1,by omega⟩
  rw [o9]
  exact (h1 k d ts hts (by omega)).bind λ _ _ h=>h3 k d _ _ h (by omega)
 have h5 : ∀ k d l ts,ts.length <= n -> 5 * n + 4 <= k -> (condL k d l ts).short n:=by
  intro k d l ts hts hk
  obtain ⟨k,rfl⟩ : ∃ j,k = j + 1:=⟨k - 1,by omega⟩
  rw [condL]
  split
  . rename_i q
    have:=O5 q
    obtain ⟨m,hm⟩ : ∃ m,m + 1 = n:=⟨n - 1,by omega⟩
    exact up hm (((ih m hm).2.1 k d ts.tail (by omega) (by omega)).bind λ _ _ h=>(ih m hm).2.2.2.2 k d _ _ h (by omega))
  . exact .ok hts
 refine ⟨h1,h2,h3,λ k d ts hts hk=>?_,h5⟩
 obtain ⟨k,rfl⟩ : ∃ j,k = j + 1:=⟨k - 1,by omega⟩
 rw [condP]
 exact (h2 k d ts hts (by omega)).bind λ _ _ h=>h5 k d _ _ h (by omega)
termination_by n
decreasing_by omega
end Go.Proofs.YtaopegkpjhkooaaGreatDoor.Dx
/- Chapter 06: how a written text is split into tokens (plain). -/
namespace Go.Proofs.YtaopegkpjhkooaaGreatDoor.Dx
open Go Go.RowKit
set_option maxRecDepth 100000
structure Lx (r : List UInt8) (l : List (Nat × List UInt8)) : Prop where
 toks : ∀ a,(Dx.toks r a).map Tk.bare = l
 bads : ∀ a en nb,Dx.bads r a en nb = []
theorem Lx.nil : Lx [] [(6,[])]:=⟨λ a=>rfl,λ a en nb=>rfl⟩
theorem Lx.step {c : UInt8} {t r : List UInt8} {l : List (Nat × List UInt8)} {k : Nat} {s : List UInt8} {n : Nat} (hs : g6 (c :: t) = (k,s,n)) (hd : (c :: t).drop n = r) (h : Lx r l) (hk : F9 k = true) : Lx (c :: t) ((k,s) :: l):=by
 refine ⟨λ a=>?_,λ a en nb=>?_⟩
 . rw [a0O,hs]
   simp only [hk,if_true,List.map_cons]
   rw [hd,h.toks]; rfl
 . rw [a4p,hs]
   have : ¬ k = 0:=by intro e; subst e; simp [F9] at hk
   simp only [this,if_false]
   rw [hd,h.bads]
theorem Lx.skip {c : UInt8} {t r : List UInt8} {l : List (Nat × List UInt8)} {s : List UInt8} {n : Nat} (hs : g6 (c :: t) = (7,s,n)) (hd : (c :: t).drop n = r) (h : Lx r l) : Lx (c :: t) l:=by
 refine ⟨λ a=>?_,λ a en nb=>?_⟩
 . rw [a0O,hs]
   simp only [F9]
   rw [hd]
   exact h.toks _
 . rw [a4p,hs]
   simp only
   rw [hd]
   exact h.bads _ _ _
theorem Lx.blank {c : UInt8} {r : List UInt8} {l : List (Nat × List UInt8)} (hc : blB c = true) (h : Lx r l) : Lx (c :: r) l :=
 Lx.skip (s:=[]) (n:=1) (by rw [g6,if_pos hc]) rfl h
def Brk (r : List UInt8) : Prop:=l0 true r = 0
theorem b8l {r : List UInt8} (h : Brk r) : l0 false r = 0:=by
 cases r with
 | nil=>rfl
 | cons b t =>
   unfold Brk at h
   unfold l0 at h ⊢
   split at h
   . cases h
   . rename_i q
     rw [if_neg]
     intro h2
     simp only [Bool.false_and,Bool.or_false] at h2
     exact q (by rw [h2]; rfl)
theorem Brk.cons {c : UInt8} {t : List UInt8} (h1 : inB c = false) (h2 : c ≠ 58 /\ c ≠ 46) : Brk (c :: t):=by
 unfold Brk l0
 rw [if_neg]
 rw [h1]
 have : ptB c t = false:=by
  unfold ptB
  have e1 : (c == 58) = false:=by simpa using h2.1
  have e2 : (c == 46) = false:=by simpa using h2.2
  rw [e1,e2]; rfl
 rw [this]; decide
theorem Brk.nil : Brk []:=rfl
theorem b0F (y : List UInt8) : ∀ {x : List UInt8},x.all inB = true -> l0 false (x ++ y) = x.length + l0 false y
 | [],_=>by simp
 | b :: x,h=>by
   rw [List.all_cons,Bool.and_eq_true] at h
   rw [List.cons_append,l0,if_pos (by rw [h.1]; rfl),b0F y h.2,List.length_cons]; omega
def a3V (w : List UInt8) : Bool:=match w with | []=>false | c :: t=>t8 c && t.all inB
theorem N2 {p : UInt8 -> Prop} (h : ∀ n : Fin 256,p (UInt8.ofNat n.1)) (b : UInt8) : p b:=by
 have:=h ⟨b.toNat,b.toNat_lt⟩
 simpa using this
theorem b6a (c : UInt8) : t8 c = true -> blB c = false /\ c ≠ 35:=N2 (p:=λ c=>t8 c = true -> blB c = false /\ c ≠ 35) (by decide +kernel) c
theorem Lx.word {w r : List UInt8} {l : List (Nat × List UInt8)} (hw : a3V w = true) (hr : Brk r) (h : Lx r l) : Lx (w ++ r) ((1,w) :: l):=by
 cases w with
 | nil=>cases hw
 | cons c t =>
   simp only [a3V,Bool.and_eq_true] at hw
   have hb:=b6a c hw.1
   have hrun : l0 false (t ++ r) = t.length:=by rw [b0F r hw.2,b8l hr]; rfl
   rw [List.cons_append]
   refine Lx.step (k:=1) (s:=c :: t) (n:=t.length + 1) ?_ ?_ h (by decide)
   . rw [g6,if_neg (by rw [hb.1]; decide),if_neg hb.2,l5,if_pos hw.1,hrun]
     simp
   . simp
theorem b3Y (c : UInt8) : g7 c = true -> blB c = false /\ c ≠ 35 /\ t8 c = false:=N2 (p:=λ c=>g7 c = true -> blB c = false /\ c ≠ 35 /\ t8 c = false) (by decide +kernel) c
theorem Lx.num {s r : List UInt8} {l : List (Nat × List UInt8)} (hs : o7 s = true) (hr : Brk r) (h : Lx r l) : Lx (s ++ r) ((2,s) :: l):=by
 obtain ⟨hd,hne⟩:=S3 hs
 cases s with
 | nil=>exact absurd rfl hne
 | cons c t =>
   rw [List.all_cons,Bool.and_eq_true] at hd
   have hb:=b3Y c hd.1
   have hrun : l0 true (t ++ r) = t.length:=by rw [S7 r hd.2,hr]; rfl
   have hint : A9 (c :: t) = true:=by
    rw [a2T]
    . exact hs
    . intro q e
      cases e
      exact absurd hd.1 (by decide)
   rw [List.cons_append]
   refine Lx.step (k:=2) (s:=c :: t) (n:=t.length + 1) ?_ ?_ h (by decide)
   . rw [g6,if_neg (by rw [hb.1]; decide),if_neg hb.2.1,l5,if_neg (by rw [hb.2.2]; decide),if_pos (by rw [hd.1]; rfl),hrun]
     have : (c :: (t ++ r)).take (t.length + 1) = c :: t:=by simp
     rw [this,G5,if_pos hint]
   . simp
theorem b8I (c : UInt8) : sgB c = true -> blB c = false /\ c ≠ 35 /\ t8 c = false /\ g7 c = false /\ c ≠ 45 /\ c ≠ 34:=N2 (p:=λ c=>sgB c = true -> blB c = false /\ c ≠ 35 /\ t8 c = false /\ g7 c = false /\ c ≠ 45 /\ c ≠ 34) (by decide +kernel) c
theorem Lx.sign {c : UInt8} {r : List UInt8} {l : List (Nat × List UInt8)} (hc : sgB c = true) (hd : H7 c r = false) (h : Lx r l) : Lx (c :: r) ((5,[c]) :: l):=by
 have hb:=b8I c hc
 refine Lx.step (k:=5) (s:=[c]) (n:=1) ?_ rfl h (by decide)
 have e45 : (c == 45) = false:=by simpa using hb.2.2.2.2.1
 rw [g6,if_neg (by rw [hb.1]; decide),if_neg hb.2.1,l5,if_neg (by rw [hb.2.2.1]; decide),if_neg (by rw [hb.2.2.2.1,e45]; simp),if_neg hb.2.2.2.2.2,if_neg (by rw [hd]; decide),if_pos hc]
theorem Lx.dbl {c d : UInt8} {r : List UInt8} {l : List (Nat × List UInt8)} (hc : H7 c (d :: r) = true) (h : Lx r l) : Lx (c :: d :: r) ((5,[c,d]) :: l):=by
 have hcd : (c = 60 \/ c = 62 \/ c = 46):=by
  simp only [H7,Bool.or_eq_true,Bool.and_eq_true,beq_iff_eq] at hc
  rcases hc with ⟨h | h,_⟩ | ⟨h,_⟩
  . exact .inl h
  . exact .inr (.inl h)
  . exact .inr (.inr h)
 have hb : blB c = false /\ c ≠ 35 /\ t8 c = false /\ g7 c = false /\ (c == 45) = false /\ c ≠ 34:=by
  rcases hcd with rfl | rfl | rfl <;> decide
 refine Lx.step (k:=5) (s:=[c,d]) (n:=2) ?_ rfl h (by decide)
 rw [g6,if_neg (by rw [hb.1]; decide),if_neg hb.2.1,l5,if_neg (by rw [hb.2.2.1]; decide),if_neg (by rw [hb.2.2.2.1,hb.2.2.2.2.1]; simp),if_neg hb.2.2.2.2.2,if_pos hc]
 rfl
theorem Lx.time {s r : List UInt8} {l : List (Nat × List UInt8)} {v : Int} (hs : x9 s = some v) (hr : Brk r) (h : Lx r l) : Lx (s ++ r) ((3,s) :: l):=by
 obtain ⟨b,t,rfl,h1,h2⟩:=b4Y hs
 have hrd:=b7O hs hr
 rw [List.cons_append] at hrd ⊢
 refine Lx.step (k:=3) (s:=b :: t) (n:=(b :: t).length) ?_ ?_ h (by decide)
 . rw [g6,if_neg (by rw [h1]; decide),if_neg h2,hrd]
 . simp
end Go.Proofs.YtaopegkpjhkooaaGreatDoor.Dx
