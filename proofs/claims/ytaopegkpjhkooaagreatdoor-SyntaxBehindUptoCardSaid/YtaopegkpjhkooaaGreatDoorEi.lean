/- Chapter 06: a joined text is split into the same tokens; tokens of a text can be joined (plain). -/
import Derived.Test.YtaopegkpjhkooaaGreatDoorEh
import Derived.Test.YtaopegkpjhkooaaGreatDoorDy
import Derived.Test.YtaopegkpjhkooaaGreatDoorE9
import Derived.Test.YtaopegkpjhkooaaGreatDoorE7
set_option linter.all false
namespace Go.Proofs.YtaopegkpjhkooaaGreatDoor.Dx
open Go Go.RowKit
set_option maxRecDepth 100000
def Sep (r : List UInt8) : Prop:=r = [] \/ ∃ t,r = 32 :: t
theorem Sep.brk {r : List UInt8} (h : Sep r) : Brk r:=by
 rcases h with rfl | ⟨t,rfl⟩
 . exact Brk.nil
 . exact Brk.cons (by decide) (by decide)
theorem Sep.dbl {r : List UInt8} (h : Sep r) (c : UInt8) : H7 c r = false:=by
 rcases h with rfl | ⟨t,rfl⟩
 . rfl
 . simp [H7]
theorem b3t (b : UInt8) : decide (cls b.toNat = 2) = t8 b:=N2 (p:=λ b=>decide (cls b.toNat = 2) = t8 b) (by decide +kernel) b
theorem a7C (b : UInt8) : Q2 b = inB b:=N2 (p:=λ b=>Q2 b = inB b) (by decide +kernel) b
theorem b6c {c : UInt8} (h : t8 c = true) : inB c = true:=by simp [inB,h]
theorem a8Y (s : List UInt8) : G0 s = a3V s:=by
 cases s with
 | nil=>rfl
 | cons c t =>
   have e : t.all Q2 = t.all inB:=by congr 1; funext b; exact a7C b
   show (decide (cls c.toNat = 2) && (c :: t).all Q2) = (t8 c && t.all inB)
   rw [List.all_cons,b3t,a7C,e]
   cases h : t8 c with
   | false=>rfl
   | true=>rw [b6c h]; rfl
theorem Lx.int {s r : List UInt8} {l : List (Nat × List UInt8)} (hs : A9 s = true) (hr : Brk r) (h : Lx r l) : Lx (s ++ r) ((2,s) :: l):=by
 by_cases e : ∃ q,s = 45 :: q
 . obtain ⟨q,rfl⟩:=e
   have hq : o7 q = true:=by
    simp only [A9,Bool.and_eq_true] at hs
    exact hs.1
   obtain ⟨hd,hne⟩:=S3 hq
   have hrun : l0 true (q ++ r) = q.length:=by rw [S7 r hd,hr]; rfl
   have hh:=a0o r hd hne
   rw [List.cons_append]
   refine Lx.step (k:=2) (s:=45 :: q) (n:=q.length + 1) ?_ ?_ h (by decide)
   . rw [g6,if_neg (by decide),if_neg (by decide),l5,if_neg (by decide),if_pos (by rw [hh]; rfl),hrun]
     have : (45 :: (q ++ r)).take (q.length + 1) = 45 :: q:=by simp
     rw [this,G5,if_pos hs]
   . simp
 . exact Lx.num (by rw [<- a2T λ q hq=>e ⟨q,hq⟩]; exact hs) hr h
theorem b7p (b : UInt8) (s : List UInt8) : qtT (b :: s) = qtB b ++ qtT s:=by rw [qtT,List.flatMap_cons]; rfl
theorem b7A {t : List UInt8} : j9 (34 :: t) = some ([],1):=by
 unfold j9
 rw [if_pos rfl]
theorem a5M {d x : UInt8} {t s : List UInt8} {n : Nat} (hd : R6 d = some x) (h : j9 t = some (s,n)) : j9 (92 :: d :: t) = some (x :: s,n + 2):=by
 rw [j9,if_neg (by decide),if_neg (by decide),if_pos rfl]
 simp only [hd,h]
theorem b7t {c : UInt8} {t s : List UInt8} {n : Nat} (h1 : c ≠ 34) (h2 : ¬ (c < 32 \/ c > 126)) (h3 : c ≠ 92) (h : j9 t = some (s,n)) : j9 (c :: t) = some (c :: s,n + 1):=by
 unfold j9
 rw [if_neg h1,if_neg h2,if_neg h3]
 simp only [h]
theorem c0c (b : UInt8) (h : B7 b.toNat = false) (h10 : b ≠ 10) : ¬ (b < 32 \/ b > 126):=by
 have:=N2 (p:=λ b=>B7 b.toNat = false -> b ≠ 10 -> ¬ (b < 32 \/ b > 126)) (by decide +kernel) b
 exact this h h10
theorem b0i (r : List UInt8) : ∀ {s : List UInt8},G6 s = true -> j9 (qtT s ++ 34 :: r) = some (s,(qtT s).length + 1)
 | [],_=>b7A
 | b :: s,h=>by
   unfold G6 at h
   rw [List.all_cons,Bool.and_eq_true] at h
   have ih:=b0i r (s:=s) h.2
   have hb : B7 b.toNat = false:=by simpa using h.1
   rw [b7p,List.append_assoc,List.length_append]
   unfold qtB
   by_cases h1 : b = 34
   . subst h1
     rw [if_pos rfl]
     refine (a5M (d:=34) (x:=34) (by rfl) ih).trans ?_
     simp only [List.length_cons,List.length_nil]
     rw [show (qtT s).length + 1 + 2 = 0 + 1 + 1 + (qtT s).length + 1 by omega]
   rw [if_neg h1]
   by_cases h2 : b = 92
   . subst h2
     rw [if_pos rfl]
     refine (a5M (d:=92) (x:=92) (by rfl) ih).trans ?_
     simp only [List.length_cons,List.length_nil]
     rw [show (qtT s).length + 1 + 2 = 0 + 1 + 1 + (qtT s).length + 1 by omega]
   rw [if_neg h2]
   by_cases h3 : b = 10
   . subst h3
     rw [if_pos rfl]
     refine (a5M (d:=110) (x:=10) (by rfl) ih).trans ?_
     simp only [List.length_cons,List.length_nil]
     rw [show (qtT s).length + 1 + 2 = 0 + 1 + 1 + (qtT s).length + 1 by omega]
   rw [if_neg h3]
   refine (b7t h1 (c0c b hb h3) h2 ih).trans ?_
   simp only [List.length_cons,List.length_nil]
   rw [show (qtT s).length + 1 + 1 = 0 + 1 + (qtT s).length + 1 by omega]
theorem Lx.quo {s r : List UInt8} {l : List (Nat × List UInt8)} (hs : G6 s = true) (h : Lx r l) : Lx (34 :: (qtT s ++ [34]) ++ r) ((4,s) :: l):=by
 have hq:=b0i r hs
 rw [List.cons_append,List.append_assoc,List.singleton_append]
 refine Lx.step (k:=4) (s:=s) (n:=(qtT s).length + 1 + 1) ?_ ?_ h (by decide)
 . rw [g6,if_neg (by decide),if_neg (by decide),l5,if_neg (by decide),if_neg (show ¬ (g7 34 || ((34 : UInt8) == 45 && I0 (qtT s ++ 34 :: r))) = true from λ h=>Bool.noConfusion (show false = true from h)),if_pos rfl,hq]
 . rw [List.drop_succ_cons,<- List.drop_drop,List.drop_left]; rfl
theorem Lx.sgn {s r : List UInt8} {l : List (Nat × List UInt8)} (hs : P4 s = true) (hr : Sep r) (h : Lx r l) : Lx (s ++ r) ((5,s) :: l):=by
 unfold P4 at hs
 simp only [Bool.or_eq_true,Bool.and_eq_true,decide_eq_true_eq] at hs
 rcases hs with ((⟨h1,h2⟩ | rfl) | rfl) | rfl
 . match s,h1,h2 with
   | [c],_,h2 =>
     have hc : sgB c = true:=(N2 (p:=λ c=>Lib.contains a5Y [c] = true -> sgB c = true) (by decide +kernel) c) h2
     exact Lx.sign hc (hr.dbl c) h
 . exact Lx.dbl rfl h
 . exact Lx.dbl rfl h
 . exact Lx.dbl rfl h
abbrev TkZ.bz (t : TkZ) : Nat × List UInt8:=(t.kind.toNat,t.text)
theorem b9P {t : TkZ} (h : tkB t = true) : (t.kind = 1 /\ G0 t.text = true) \/ (t.kind = 2 /\ A9 t.text = true) \/ (t.kind = 3 /\ (x9 t.text).isSome = true) \/ (t.kind = 5 /\ P4 t.text = true) \/ (t.kind = 4 /\ G6 t.text = true):=by
 unfold tkB at h
 repeat' split at h
 all_goals first | cases h | simp_all
theorem a9A {t : TkZ} {r : List UInt8} {l : List (Nat × List UInt8)} (ht : tkB t = true) (hr : Sep r) (h : Lx r l) : Lx (tkT t ++ r) (t.bz :: l):=by
 unfold tkT
 rcases b9P ht with ⟨e,h1⟩ | ⟨e,h1⟩ | ⟨e,h1⟩ | ⟨e,h1⟩ | ⟨e,h1⟩ <;> (unfold TkZ.bz; rw [e])
 . exact Lx.word (by rw [<- a8Y]; exact h1) hr.brk h
 . exact Lx.int h1 hr.brk h
 . obtain ⟨v,hv⟩:=Option.isSome_iff_exists.1 h1
   exact Lx.time hv hr.brk h
 . exact Lx.sgn h1 hr h
 . exact Lx.quo h1 h
theorem a9z : ∀ {l : List TkZ},(∀ t ∈ l,tkB t = true) -> Lx ((l.map tkT).map (32 :: ·)).flatten (l.map TkZ.bz ++ [(6,[])]) /\ Sep ((l.map tkT).map (32 :: ·)).flatten
 | [],_=>⟨Lx.nil,.inl rfl⟩
 | t :: l,h=>by
   have ih:=a9z (l:=l) λ x hx=>h x (List.mem_cons_of_mem _ hx)
   simp only [List.map_cons,List.flatten_cons,List.cons_append]
   exact ⟨Lx.blank (by decide) (a9A (h t (List.mem_cons_self ..)) ih.2 ih.1),.inr ⟨_,rfl⟩⟩
theorem b6d {l : List TkZ} (h : ∀ t ∈ l,tkB t = true) : Lx (jn (l.map tkT)) (l.map TkZ.bz ++ [(6,[])]):=by
 cases l with
 | nil=>exact Lx.nil
 | cons t l =>
   have ih:=a9z (l:=l) λ x hx=>h x (List.mem_cons_of_mem _ hx)
   exact a9A (h t (List.mem_cons_self ..)) ih.2 ih.1
theorem b5v (i : List TkZ) {e : TkZ} (h1 : e.kind = 6) (h2 : e.text = []) : R9 (i ++ [e]) = if i.all tkB = false then ([],1) else if 65536 < (jn (i.map tkT)).length then ([],2) else (jn (i.map tkT),0):=by
 unfold R9
 rw [List.getLast?_concat,List.dropLast_concat]
 show (if e.kind ≠ 6 \/ e.text ≠ [] then _ else _) = _
 rw [if_neg (by rw [h1,h2]; simp)]
def Tk.z (t : Tk) : TkZ:=⟨t.kind,t.text,t.at_⟩
theorem a5K : ∀ (k : Nat) (t : List UInt8),t.length <= k -> ∀ s n,j9 t = some (s,n) -> G6 s = true /\ s.length + 1 <= n
 | k,[],_,s,n,h=>by cases h
 | 0,c :: t,hk,_,_,_=>by simp at hk
 | k + 1, c :: t,hk,s,n,h=>by
   unfold j9 at h
   simp only [List.length_cons] at hk
   split at h
   . cases h; exact ⟨rfl,by simp⟩
   split at h
   . cases h
   rename_i hc
   split at h
   . match t,h,hk with
     | [],h,_=>cases h
     | d :: t,h,hk =>
       simp only [List.length_cons] at hk
       simp only at h
       split at h
       . rename_i x hx
         split at h
         . rename_i s' n' hq
           cases h
           have ih:=a5K k t (by omega) _ _ hq
           refine ⟨?_,by simp only [List.length_cons]; omega⟩
           unfold G6 at ih ⊢
           rw [List.all_cons,ih.1,Bool.and_true]
           unfold R6 at hx
           repeat' split at hx
           all_goals first | (cases hx; decide) | cases hx
         . cases h
       . cases h
   . split at h
     . rename_i s' n' hq
       cases h
       have ih:=a5K k t (by omega) _ _ hq
       refine ⟨?_,by simp only [List.length_cons]; omega⟩
       unfold G6 at ih ⊢
       rw [List.all_cons,ih.1,Bool.and_true]
       exact N2 (p:=λ c=>¬ (c < 32 \/ c > 126) -> (!B7 c.toNat) = true) (by decide +kernel) c hc
     . cases h
theorem b0E (c : UInt8) : ∀ t : List UInt8,(t.take (l0 false t)).all inB = true
 | []=>rfl
 | b :: t=>by
   unfold l0
   split
   . rename_i h
     rw [List.take_succ_cons,List.all_cons,b0E c t,Bool.and_true]
     simpa using h
   . rfl
theorem b7K (c : UInt8) (t : List UInt8) (a : Int) (h : F9 (l5 (c :: t)).1 = true) : tkB ⟨(l5 (c :: t)).1,(l5 (c :: t)).2.1,a⟩ = true /\ (l5 (c :: t)).2.1.length <= (l5 (c :: t)).2.2:=by
 have h1:=P2 false t
 have h2:=P2 true t
 simp only [l5] at h ⊢
 split
 . rename_i hc
   refine ⟨?_,List.length_take_le _ _⟩
   show G0 _ = true
   rw [a8Y,List.take_succ_cons]
   show (t8 c && _) = true
   rw [hc,b0E c t]; rfl
 rename_i hc
 rw [if_neg hc] at h
 split
 . rename_i hd
   rw [if_pos hd] at h
   unfold G5 at h ⊢
   split
   . rename_i hi
     exact ⟨hi,List.length_take_le _ _⟩
   rename_i hi
   rw [if_neg hi] at h
   split
   . rename_i ht
     exact ⟨ht,List.length_take_le _ _⟩
   . rename_i ht
     rw [if_neg ht] at h
     cases h
 rename_i hd
 rw [if_neg hd] at h
 split
 . rename_i hq
   rw [if_pos hq] at h
   split
   . rename_i s n hs
     have:=a5K _ t (Nat.le_refl _) _ _ hs
     exact ⟨this.1,by dsimp only; omega⟩
   . rename_i hs
     rw [hs] at h
     cases h
 rename_i hq
 rw [if_neg hq] at h
 split
 . rename_i hb
   cases t with
   | nil=>cases hb
   | cons d t =>
     refine ⟨?_,by simp⟩
     show P4 [c,d] = true
     simp only [H7,Bool.or_eq_true,Bool.and_eq_true,beq_iff_eq] at hb
     rcases hb with ⟨rfl | rfl,rfl⟩ | ⟨rfl,rfl⟩ <;> decide +kernel
 rename_i hb
 rw [if_neg hb] at h
 split
 . rename_i hs
   refine ⟨?_,by simp⟩
   show P4 [c] = true
   exact N2 (p:=λ c=>sgB c = true -> P4 [c] = true) (by decide +kernel) c hs
 . rename_i hs
   rw [if_neg hs] at h
   cases h
theorem b9f (c : UInt8) (t : List UInt8) (a : Int) (h : F9 (g6 (c :: t)).1 = true) : tkB ⟨(g6 (c :: t)).1,(g6 (c :: t)).2.1,a⟩ = true /\ (g6 (c :: t)).2.1.length <= (g6 (c :: t)).2.2:=by
 simp only [g6] at h ⊢
 split
 . rename_i q
   rw [if_pos q] at h
   cases h
 rename_i q
 rw [if_neg q] at h
 split
 . rename_i q
   rw [if_pos q] at h
   cases h
 rename_i q
 rw [if_neg q] at h
 exact b7K c t a h
theorem b1q : ∀ (k : Nat) (r : List UInt8) (a : Nat),r.length <= k -> ∃ i,toks r a = i ++ [⟨6,[],a + r.length⟩] /\ (∀ t ∈ i,tkB t.z = true) /\ (((i.map λ t=>tkT t.z).map (32 :: ·)).flatten).length <= 5 * r.length
 | _,[],a,_=>⟨[],rfl,by simp,by simp⟩
 | 0,c :: t,_,h=>by simp at h
 | k + 1,c :: t,a,h=>by
   have h1:=T1 c t
   simp only [List.length_cons] at h
   obtain ⟨i,e1,e2,e3⟩:=b1q k ((c :: t).drop (g6 (c :: t)).2.2) (a + (g6 (c :: t)).2.2) (by rw [List.length_drop,List.length_cons]; omega)
   rw [List.length_drop,List.length_cons] at e1 e3
   rw [a0O,e1,List.length_cons]
   have ea : a + (g6 (c :: t)).2.2 + (t.length + 1 - (g6 (c :: t)).2.2) = a + (t.length + 1):=by omega
   rw [ea]
   split
   . rename_i hk
     have h2:=b9f c t a hk
     refine ⟨⟨(g6 (c :: t)).1,(g6 (c :: t)).2.1,a⟩ :: i,rfl,λ x hx=>?_,?_⟩
     . rcases List.mem_cons.1 hx with rfl | hx
       . exact h2.1
       . exact e2 x hx
     . have h3:=a6r (Tk.z ⟨(g6 (c :: t)).1,(g6 (c :: t)).2.1,a⟩)
       have h4:=h2.2
       simp only [List.map_cons,List.flatten_cons,List.length_append,List.length_cons]
       have e5 : (Tk.z ⟨(g6 (c :: t)).1,(g6 (c :: t)).2.1,a⟩).text.length = (g6 (c :: t)).2.1.length:=rfl
       rw [e5] at h3
       omega
   . exact ⟨i,rfl,e2,by omega⟩
end Go.Proofs.YtaopegkpjhkooaaGreatDoor.Dx
/- Chapter 06: what reading comes to depends on the kinds and texts of what is read,and of the token behind it (plain). -/
namespace Go.Proofs.YtaopegkpjhkooaaGreatDoor.Dx
open Go Go.RowKit
set_option maxRecDepth 100000
structure LA {α : Type} (P : List Tk -> Rs α) (ts : List Tk) : Prop where
 ok : ∀ a r,P ts = .ok a r -> ∃ p,ts = p ++ r /\ (∀ t ∈ p,t.kind ≠ 6) /\ ∀ p' r' : List Tk,p'.map Tk.bare = p.map Tk.bare -> (hdT r').bare = (hdT r).bare -> P (p' ++ r') = .ok a r'
 er : ∀ a e,P ts = .er a e -> ∃ p r,ts = p ++ r /\ (∀ t ∈ p,t.kind ≠ 6) /\ a = (hdT r).at_ /\ (e ≠ 0 /\ ((hdT r).kind = 6 -> e = 60)) /\ ∀ p' r' : List Tk,p'.map Tk.bare = p.map Tk.bare -> (hdT r').bare = (hdT r).bare -> P (p' ++ r') = .er (hdT r').at_ e
theorem a2Q {p p' r r' : List Tk} (h1 : p'.map Tk.bare = p.map Tk.bare) (h2 : (hdT r').bare = (hdT r).bare) : (hdT (p' ++ r')).bare = (hdT (p ++ r)).bare:=by
 cases p with
 | nil =>
   obtain rfl : p' = []:=List.map_eq_nil_iff.1 h1
   exact h2
 | cons t p =>
   cases p' with
   | nil=>cases h1
   | cons t' p'=>exact (List.cons.inj h1).1
theorem b4X {p p' r r' : List Tk} (h1 : p'.map Tk.bare = p.map Tk.bare) (hp : p ≠ []) : (hdT (p' ++ r')).bare = (hdT (p ++ r)).bare:=by
 cases p with
 | nil=>exact absurd rfl hp
 | cons t p =>
   cases p' with
   | nil=>cases h1
   | cons t' p'=>exact (List.cons.inj h1).1
theorem a5v {p q : List Tk} (h1 : ∀ t ∈ p,t.kind ≠ 6) (h2 : ∀ t ∈ q,t.kind ≠ 6) : ∀ t ∈ p ++ q,t.kind ≠ 6:=λ t h=>(List.mem_append.1 h).elim (h1 t) (h2 t)
theorem LA.bind {α β : Type} {P : List Tk -> Rs α} {f : α -> List Tk -> Rs β} {ts : List Tk} (h : LA P ts) (hf : ∀ a r,LA (f a) r) : LA (λ ts=>(P ts).bind f) ts:=by
 refine ⟨λ b s e=>?_,λ a e he=>?_⟩
 . replace e : (P ts).bind f = .ok b s:=e
   cases hP : P ts with
   | ok a r =>
     rw [hP,Rs.bind_ok] at e
     obtain ⟨p1,e1,k1,g1⟩:=h.ok a r hP
     obtain ⟨p2,e2,k2,g2⟩:=(hf a r).ok b s e
     refine ⟨p1 ++ p2,by rw [e1,e2,List.append_assoc],a5v k1 k2,λ p' r' hp hr=>?_⟩
     rw [List.map_append] at hp
     obtain ⟨q1,q2,rfl,hq1,hq2⟩:=List.map_eq_append_iff.1 hp
     show Rs.bind _ f = _
     rw [List.append_assoc,g1 q1 (q2 ++ r') hq1 (by rw [e2]; exact a2Q hq2 hr),Rs.bind_ok]
     exact g2 q2 r' hq2 hr
   | er a e'=>rw [hP] at e; cases e
   | out=>rw [hP] at e; cases e
 . replace he : (P ts).bind f = .er a e:=he
   cases hP : P ts with
   | ok a' r =>
     rw [hP,Rs.bind_ok] at he
     obtain ⟨p1,e1,k1,g1⟩:=h.ok a' r hP
     obtain ⟨p2,s,e2,k2,ea,h6,g2⟩:=(hf a' r).er a e he
     refine ⟨p1 ++ p2,s,by rw [e1,e2,List.append_assoc],a5v k1 k2,ea,h6,λ p' r' hp hr=>?_⟩
     rw [List.map_append] at hp
     obtain ⟨q1,q2,rfl,hq1,hq2⟩:=List.map_eq_append_iff.1 hp
     show Rs.bind _ f = _
     rw [List.append_assoc,g1 q1 (q2 ++ r') hq1 (by rw [e2]; exact a2Q hq2 hr),Rs.bind_ok]
     exact g2 q2 r' hq2 hr
   | er a' e' =>
     rw [hP] at he
     cases he
     obtain ⟨p,r,e1,k1,ea,h6,g⟩:=h.er a e hP
     exact ⟨p,r,e1,k1,ea,h6,λ p' r' hp hr=>by show Rs.bind _ f = _; rw [g p' r' hp hr]; rfl⟩
   | out=>rw [hP] at he; cases he
theorem LA.okk {α : Type} {a : α} {ts : List Tk} : LA (Rs.ok a) ts:=⟨λ b r e=>by cases e; exact ⟨[],rfl,by simp,λ p' r' hp _=>by rw [List.map_nil,List.map_eq_nil_iff] at hp; subst hp; rfl⟩,λ a e h=>by cases h⟩
theorem LA.fail {α : Type} {e : Int} {ts : List Tk} (h : (hdT ts).kind = 6 -> e = 60) (h0 : e ≠ 0:=by decide) : LA (n6 e : List Tk -> Rs α) ts :=
 ⟨λ b r e=>(by cases e),λ a e' he=>by cases he; exact ⟨[],ts,rfl,by simp,rfl,⟨h0,h⟩,λ p' r' hp hr=>by rw [List.map_nil,List.map_eq_nil_iff] at hp; subst hp; rfl⟩⟩
theorem LA.out {α : Type} {P : List Tk -> Rs α} {ts : List Tk} (h : P ts = .out) : LA P ts:=⟨λ a r e=>(by rw [h] at e; cases e),λ a r e=>(by rw [h] at e; cases e)⟩
theorem LA.disp {α : Type} {P R : List Tk -> Rs α} {ts : List Tk} (hR : LA R ts) (h : ∀ ts',(hdT ts').bare = (hdT ts).bare -> P ts' = R ts') : LA P ts:=by
 refine ⟨λ a r e=>?_,λ a e he=>?_⟩
 . rw [h ts rfl] at e
   obtain ⟨p,e1,k1,g⟩:=hR.ok a r e
   exact ⟨p,e1,k1,λ p' r' hp hr=>by rw [h _ (by rw [e1]; exact a2Q hp hr)]; exact g p' r' hp hr⟩
 . rw [h ts rfl] at he
   obtain ⟨p,r,e1,k1,ea,h6,g⟩:=hR.er a e he
   exact ⟨p,r,e1,k1,ea,h6,λ p' r' hp hr=>by rw [h _ (by rw [e1]; exact a2Q hp hr)]; exact g p' r' hp hr⟩
theorem LA.tail {α : Type} {A : List Tk -> Rs α} {ts : List Tk} (hk : (hdT ts).kind ≠ 6) (hA : LA A ts.tail) : LA (λ ts=>A ts.tail) ts:=by
 cases ts with
 | nil=>exact absurd rfl hk
 | cons t ts =>
   have split : ∀ {p p' : List Tk},p'.map Tk.bare = (t :: p).map Tk.bare -> ∃ t' q,p' = t' :: q /\ q.map Tk.bare = p.map Tk.bare:=by
    intro p p' h
    cases p' with
    | nil=>cases h
    | cons t' q=>exact ⟨t',q,rfl,(List.cons.inj h).2⟩
   have k6 : ∀ {p : List Tk},(∀ x ∈ p,x.kind ≠ 6) -> ∀ x ∈ t :: p,x.kind ≠ 6:=by
    intro p h x hx
    rcases List.mem_cons.1 hx with rfl | hx
    . exact hk
    . exact h x hx
   refine ⟨λ a r e=>?_,λ a e he=>?_⟩
   . obtain ⟨p,e1,k1,g⟩:=hA.ok a r e
     refine ⟨t :: p,by rw [List.cons_append,<- e1]; rfl,k6 k1,λ p' r' hp hr=>?_⟩
     obtain ⟨t',q,rfl,hq⟩:=split hp
     exact g q r' hq hr
   . obtain ⟨p,r,e1,k1,ea,h6,g⟩:=hA.er a e he
     refine ⟨t :: p,r,by rw [List.cons_append,<- e1]; rfl,k6 k1,ea,h6,λ p' r' hp hr=>?_⟩
     obtain ⟨t',q,rfl,hq⟩:=split hp
     exact g q r' hq hr
section
variable {ts ts' : List Tk} (hh : (hdT ts').bare = (hdT ts).bare)
include hh
theorem a0s : (hdT ts').kind = (hdT ts).kind:=congrArg Prod.fst hh
theorem P7 : (hdT ts').text = (hdT ts).text:=congrArg Prod.snd hh
theorem i7 (w : List UInt8) : isW w ts' = isW w ts:=by unfold isW; rw [a0s hh,P7 hh]
theorem O3 : A2 ts' = A2 ts:=by unfold A2; rw [a0s hh,P7 hh]
theorem b1C : C3 ts' = C3 ts:=by unfold C3; rw [i7 hh,i7 hh,i7 hh]
theorem a9B : D1 ts' = D1 ts:=by unfold D1; rw [i7 hh,i7 hh,i7 hh]
theorem a1j : y6 ts' = y6 ts:=by unfold y6; rw [a0s hh,P7 hh]
theorem b1k : K4 ts' = K4 ts:=by unfold K4; rw [a0s hh,P7 hh]
theorem a9P : A4 (hdT ts') = A4 (hdT ts):=by unfold A4; rw [a0s hh,P7 hh]
theorem a2b : v6 (hdT ts') = v6 (hdT ts):=by unfold v6; rw [a0s hh,P7 hh]
end
theorem s9 {w : List UInt8} {ts : List Tk} (h : isW w ts = true) : (hdT ts).kind ≠ 6:=by
 unfold isW at h
 simp only [Bool.and_eq_true,Bool.or_eq_true,decide_eq_true_eq] at h
 omega
theorem b6L {t : Tk} {n : Int} (h : A4 t = some n) : t.kind ≠ 6:=by
 unfold A4 at h
 split at h
 . omega
 . cases h
theorem c0p {ts : List Tk} {n : Int} (h : C3 ts = some n) : (hdT ts).kind ≠ 6:=by
 unfold C3 at h
 repeat' split at h
 all_goals first | exact s9 (by assumption) | cases h
theorem b6k {ts : List Tk} {n : Int} (h : D1 ts = some n) : (hdT ts).kind ≠ 6:=by
 unfold D1 at h
 repeat' split at h
 all_goals first | exact s9 (by assumption) | cases h
theorem b3G {ts : List Tk} {n : Int} (h : y6 ts = some n) : (hdT ts).kind ≠ 6:=by
 have:=a2C h
 omega
section
variable {ts : List Tk}
theorem l4 {w : List UInt8} : LA (f9 w) ts:=by
 cases q : isW w ts with
 | true=>exact LA.disp (R:=λ ts=>Rs.ok () ts.tail) (LA.tail (s9 q) LA.okk) λ ts' hh=>by rw [f9,i7 hh,q]; rfl
 | false=>exact LA.disp (R:=n6 60) (LA.fail λ _=>rfl) λ ts' hh=>by rw [f9,i7 hh,q]; rfl
theorem y9 : LA j2 ts:=by
 cases q : A4 (hdT ts) with
 | some v=>exact LA.disp (R:=λ ts=>Rs.ok v ts.tail) (LA.tail (b6L q) LA.okk) λ ts' hh=>by rw [j2,a9P hh,q]
 | none=>exact LA.disp (R:=n6 60) (LA.fail λ _=>rfl) λ ts' hh=>by rw [j2,a9P hh,q]
theorem M5 : LA v8 ts:=by
 cases q : v6 (hdT ts) with
 | some v=>exact LA.disp (R:=λ ts=>Rs.ok v ts.tail) (LA.tail (by rw [a2c q]; decide) LA.okk) λ ts' hh=>by rw [v8,a2b hh,q]
 | none=>exact LA.disp (R:=n6 60) (LA.fail λ _=>rfl) λ ts' hh=>by rw [v8,a2b hh,q]
theorem b9H : LA P8 ts:=by
 cases q : K4 ts with
 | some v=>exact LA.disp (R:=λ ts=>Rs.ok v ts.tail) (LA.tail (by rw [b1l q]; decide) LA.okk) λ ts' hh=>by rw [P8,b1k hh,q]
 | none=>exact LA.disp (R:=n6 60) (LA.fail λ _=>rfl) λ ts' hh=>by rw [P8,b1k hh,q]
theorem X7 : LA y7 ts:=by
 cases q : A2 ts with
 | true=>exact LA.disp (R:=λ s=>Rs.ok (hdT ts).text s.tail) (LA.tail (by rw [a1x q]; decide) LA.okk) λ ts' hh=>by rw [y7,O3 hh,P7 hh,q]; rfl
 | false=>exact LA.disp (R:=n6 60) (LA.fail λ _=>rfl) λ ts' hh=>by rw [y7,O3 hh,q]; rfl
theorem V9 {l : List (List UInt8)} : LA (o5 l) ts:=by
 cases q : A2 ts with
 | true =>
   cases q2 : l.findIdx? (λ x=>decide (x = (hdT ts).text)) with
   | some i=>exact LA.disp (R:=λ s=>Rs.ok (i : Int) s.tail) (LA.tail (by rw [a1x q]; decide) LA.okk) λ ts' hh=>by rw [o5,O3 hh,P7 hh,q,q2]; rfl
   | none=>exact LA.disp (R:=n6 70) (LA.fail λ h=>absurd h (by rw [a1x q]; decide)) λ ts' hh=>by rw [o5,O3 hh,P7 hh,q,q2]; rfl
 | false=>exact LA.disp (R:=n6 60) (LA.fail λ _=>rfl) λ ts' hh=>by rw [o5,O3 hh,q]; rfl
theorem b7W {v : Int} : LA (r7 v) ts:=by
 cases q1 : isW [62,61] ts with
 | true=>exact LA.disp (R:=λ ts=>(j2 ts.tail).bind λ n ts=>.ok (leC v n) ts) (LA.bind (LA.tail (s9 q1) y9) λ _ _=>LA.okk) λ ts' hh=>by rw [r7,i7 hh,q1]; rfl
 | false =>
 cases q2 : isW [62] ts with
 | true=>exact LA.disp (R:=λ ts=>(j2 ts.tail).bind λ n ts=>.ok (leC v (n + 1)) ts) (LA.bind (LA.tail (s9 q2) y9) λ _ _=>LA.okk) λ ts' hh=>by rw [r7,i7 hh,q1,i7 hh,q2]; rfl
 | false =>
 cases q3 : isW [60,61] ts with
 | true=>exact LA.disp (R:=λ ts=>(j2 ts.tail).bind λ n ts=>.ok (r6 (leC v (n + 1))) ts) (LA.bind (LA.tail (s9 q3) y9) λ _ _=>LA.okk) λ ts' hh=>by rw [r7,i7 hh,q1,i7 hh,q2,i7 hh,q3]; rfl
 | false =>
 cases q4 : isW [60] ts with
 | true=>exact LA.disp (R:=λ ts=>(j2 ts.tail).bind λ n ts=>.ok (r6 (leC v n)) ts) (LA.bind (LA.tail (s9 q4) y9) λ _ _=>LA.okk) λ ts' hh=>by rw [r7,i7 hh,q1,i7 hh,q2,i7 hh,q3,i7 hh,q4]; rfl
 | false =>
 cases q5 : isW [61] ts with
 | true=>exact LA.disp (R:=λ ts=>(j2 ts.tail).bind λ n ts=>.ok ⟨2,0,0,[leC v n,r6 (leC v (n + 1))]⟩ ts) (LA.bind (LA.tail (s9 q5) y9) λ _ _=>LA.okk) λ ts' hh=>by rw [r7,i7 hh,q1,i7 hh,q2,i7 hh,q3,i7 hh,q4,i7 hh,q5]; rfl
 | false=>exact LA.disp (R:=n6 60) (LA.fail λ _=>rfl) λ ts' hh=>by rw [r7,i7 hh,q1,i7 hh,q2,i7 hh,q3,i7 hh,q4,i7 hh,q5]; rfl
end
theorem a4B : ∀ k : Nat,(∀ d ts,LA (l7 k d) ts) /\ (∀ d ts,LA (o9 k d) ts) /\ (∀ d l ts,LA (conjL k d l) ts) /\ (∀ d ts,LA (condP k d) ts) /\ (∀ d l ts,LA (condL k d l) ts)
 | 0=>⟨λ d ts=>LA.out (by rw [l7]),λ d ts=>LA.out (by rw [o9]),λ d l ts=>LA.out (by rw [conjL]),λ d ts=>LA.out (by rw [condP]),λ d l ts=>LA.out (by rw [condL])⟩
 | k + 1=>by
   obtain ⟨h1,h2,h3,h4,h5⟩:=a4B k
   refine ⟨λ d ts=>?_,λ d ts=>?_,λ d l ts=>?_,λ d ts=>?_,λ d l ts=>?_⟩
   . cases q1 : (isW [110,111,116] ts || isW [40] ts) && decide (16 <= d) with
     | true =>
       refine LA.disp (R:=n6 2) (LA.fail λ h6=>?_) λ ts' hh=>by rw [l7,i7 hh,i7 hh,q1]; rfl
       simp only [Bool.and_eq_true,Bool.or_eq_true] at q1
       exact q1.1.elim (λ h=>absurd h6 (s9 h)) (λ h=>absurd h6 (s9 h))
     | false =>
     cases q2 : isW [110,111,116] ts with
     | true=>exact LA.disp (R:=λ ts=>(l7 k (d + 1) ts.tail).bind λ c ts=>.ok (r6 c) ts) (LA.bind (LA.tail (s9 q2) (h1 _ _)) λ _ _=>LA.okk) λ ts' hh=>by rw [l7,i7 hh,i7 hh,q1,q2]; rfl
     | false =>
     cases q3 : isW [40] ts with
     | true=>exact LA.disp (R:=λ ts=>(condP k (d + 1) ts.tail).bind λ c ts=>(f9 [41] ts).bind λ _ ts=>.ok c ts) (LA.bind (LA.tail (s9 q3) (h4 _ _)) λ _ _=>LA.bind l4 λ _ _=>LA.okk) λ ts' hh=>by rw [l7,i7 hh,i7 hh,q1,q2,q3]; rfl
     | false =>
     cases q4 : C3 ts with
     | none=>exact LA.disp (R:=n6 60) (LA.fail λ _=>rfl) λ ts' hh=>by rw [l7,i7 hh,i7 hh,q1,q2,q3,b1C hh,q4]; rfl
     | some v=>exact LA.disp (R:=λ ts=>r7 v ts.tail) (LA.tail (c0p q4) b7W) λ ts' hh=>by rw [l7,i7 hh,i7 hh,q1,q2,q3,b1C hh,q4]; rfl
   . exact LA.disp (R:=λ ts=>(l7 k d ts).bind λ c ts=>conjL k d [c] ts) (LA.bind (h1 _ _) λ _ _=>h3 _ _ _) λ ts' hh=>by rw [o9]
   . cases q : isW [97,110,100] ts with
     | true=>exact LA.disp (R:=λ ts=>(l7 k d ts.tail).bind λ c ts=>conjL k d (l ++ [c]) ts) (LA.bind (LA.tail (s9 q) (h1 _ _)) λ _ _=>h3 _ _ _) λ ts' hh=>by rw [conjL,i7 hh,q]; rfl
     | false=>exact LA.disp (R:=Rs.ok (mkC 2 l)) LA.okk λ ts' hh=>by rw [conjL,i7 hh,q]; rfl
   . exact LA.disp (R:=λ ts=>(o9 k d ts).bind λ c ts=>condL k d [c] ts) (LA.bind (h2 _ _) λ _ _=>h5 _ _ _) λ ts' hh=>by rw [condP]
   . cases q : isW [111,114] ts with
     | true=>exact LA.disp (R:=λ ts=>(o9 k d ts.tail).bind λ c ts=>condL k d (l ++ [c]) ts) (LA.bind (LA.tail (s9 q) (h2 _ _)) λ _ _=>h5 _ _ _) λ ts' hh=>by rw [condL,i7 hh,q]; rfl
     | false=>exact LA.disp (R:=Rs.ok (mkC 3 l)) LA.okk λ ts' hh=>by rw [condL,i7 hh,q]; rfl
theorem a3G : ∀ k : Nat,(∀ d l ts,LA (l6 k d l) ts) /\ (∀ d ts,LA (blockP k d) ts)
 | 0=>⟨λ d l ts=>LA.out (by rw [l6]),λ d ts=>LA.out (by rw [blockP])⟩
 | k + 1 => by
   obtain ⟨h1,h2⟩:=a3G k
   have h4:=(a4B k).2.2.2.1
   refine ⟨λ d l ts=>?_,λ d ts=>?_⟩
   . cases q1 : y6 ts with
     | some b=>exact LA.disp (R:=λ ts=>(f9 [59] ts.tail).bind λ _ ts=>l6 k d (l ++ [⟨1,b,⟨0,0,0,[]⟩,[],[]⟩]) ts) (LA.bind (LA.tail (b3G q1) l4) λ _ _=>h1 _ _ _) λ ts' hh=>by rw [l6,a1j hh,q1]
     | none =>
     cases q2 : isW [105,102] ts with
     | true =>
       by_cases q3 : 16 <= d
       . exact LA.disp (R:=n6 2) (LA.fail λ h6=>absurd h6 (s9 q2)) λ ts' hh=>by rw [l6,a1j hh,q1,i7 hh,q2]; exact if_pos q3
       . refine LA.disp (R:=λ ts=>(condP k 0 ts.tail).bind λ c ts=>(blockP k (d + 1) ts).bind λ t ts =>
          if isW [101,108,115,101] ts then (blockP k (d + 1) ts.tail).bind λ e ts=>l6 k d (l ++ [⟨2,0,c,t,e⟩]) ts
          else l6 k d (l ++ [⟨2,0,c,t,[]⟩]) ts) (LA.bind (LA.tail (s9 q2) (h4 _ _)) λ c _=>LA.bind (h2 _ _) λ t r=>?_) λ ts' hh=>by rw [l6,a1j hh,q1,i7 hh,q2]; exact if_neg q3
         cases q4 : isW [101,108,115,101] r with
         | true=>exact LA.disp (R:=λ ts=>(blockP k (d + 1) ts.tail).bind λ e ts=>l6 k d (l ++ [⟨2,0,c,t,e⟩]) ts) (LA.bind (LA.tail (s9 q4) (h2 _ _)) λ _ _=>h1 _ _ _) λ ts' hh=>by rw [i7 hh,q4]; rfl
         | false=>exact LA.disp (R:=λ ts=>l6 k d (l ++ [⟨2,0,c,t,[]⟩]) ts) (h1 _ _ _) λ ts' hh=>by rw [i7 hh,q4]; rfl
     | false =>
       by_cases q3 : l = []
       . exact LA.disp (R:=n6 60) (LA.fail λ _=>rfl) λ ts' hh=>by rw [l6,a1j hh,q1,i7 hh,q2]; exact if_pos q3
       . exact LA.disp (R:=Rs.ok l) LA.okk λ ts' hh=>by rw [l6,a1j hh,q1,i7 hh,q2]; exact if_neg q3
   . exact LA.disp (R:=λ ts=>(f9 [123] ts).bind λ _ ts=>(l6 k d [] ts).bind λ l ts=>(f9 [125] ts).bind λ _ ts=>.ok l ts) (LA.bind l4 λ _ _=>LA.bind (h1 _ _ _) λ _ _=>LA.bind l4 λ _ _=>LA.okk) λ ts' hh=>by rw [blockP]
theorem a9V {ms : List (List UInt8)} : ∀ (k d : Nat) (l : List Part) (ts : List Tk),LA (p9 ms k d l) ts
 | 0,d,l,ts=>LA.out (by rw [p9])
 | k + 1, d,l,ts=>by
   have ih:=a9V (ms:=ms) k
   cases q1 : l.isEmpty || isW [108,97,112,115] ts || A2 ts with
   | true =>
     cases q2 : isW [108,97,112,115] ts with
     | true =>
       by_cases q3 : 16 <= d
       . exact LA.disp (R:=n6 2) (LA.fail λ h6=>absurd h6 (s9 q2)) λ ts' hh=>by rw [p9,i7 hh,O3 hh,q1,q2]; exact if_pos q3
       . exact LA.disp (R:=λ ts=>(j2 ts.tail).bind λ n ts=>(f9 [123] ts).bind λ _ ts=>(p9 ms k (d + 1) [] ts).bind λ x ts=>(f9 [125] ts).bind λ _ ts=>p9 ms k d (l ++ [⟨0,n,x⟩]) ts)
          (LA.bind (LA.tail (s9 q2) y9) λ _ _=>LA.bind l4 λ _ _=>LA.bind (ih _ _ _) λ _ _=>LA.bind l4 λ _ _=>ih _ _ _) λ ts' hh=>by rw [p9,i7 hh,O3 hh,q1,q2]; exact if_neg q3
     | false=>exact LA.disp (R:=λ ts=>(o5 ms ts).bind λ m ts=>(f9 [59] ts).bind λ _ ts=>p9 ms k d (l ++ [⟨m,0,[]⟩]) ts) (LA.bind V9 λ _ _=>LA.bind l4 λ _ _=>ih _ _ _) λ ts' hh=>by rw [p9,i7 hh,O3 hh,q1,q2]; rfl
   | false=>exact LA.disp (R:=Rs.ok l) LA.okk λ ts' hh=>by rw [p9,i7 hh,O3 hh,q1]; rfl
theorem a7Y {ms : List (List UInt8)} : ∀ (k : Nat) (l : List Cutoff) (ts : List Tk),LA (D9 ms k l) ts
 | 0,l,ts=>LA.out (by rw [D9])
 | k + 1,l,ts=>by
   have ih:=a7Y (ms:=ms) k
   cases q : isW [99,117,116,111,102,102] ts with
   | true=>exact LA.disp (R:=λ ts=>(o5 ms ts.tail).bind λ m ts=>(f9 [108,97,112] ts).bind λ _ ts=>(j2 ts).bind λ n ts=>(v8 ts).bind λ t ts=>(f9 [59] ts).bind λ _ ts=>D9 ms k (l ++ [⟨m,n,t⟩]) ts) (LA.bind (LA.tail (s9 q) V9) λ _ _=>LA.bind l4 λ _ _=>LA.bind y9 λ _ _=>LA.bind M5 λ _ _=>LA.bind l4 λ _ _=>ih _ _) λ ts' hh=>by rw [D9,i7 hh,q]; rfl
   | false=>exact LA.disp (R:=Rs.ok l) LA.okk λ ts' hh=>by rw [D9,i7 hh,q]; rfl
section
variable {ts : List Tk}
theorem b5M {ms : List (List UInt8)} : LA (S0 ms) ts :=
 LA.bind V9 λ _ _=>LA.bind l4 λ _ _=>LA.bind V9 λ _ _=>LA.bind M5 λ _ _=>LA.bind l4 λ _ _=>LA.bind M5 λ _ _=>LA.bind l4 λ _ _=>LA.okk
theorem b4A {ms : List (List UInt8)} : LA (L2 ms) ts:=by
 cases q : isW [101,120,116,114,97] ts with
 | true=>exact LA.disp (R:=λ ts=>(o5 ms ts.tail).bind λ m ts=>(f9 [59] ts).bind λ _ ts=>.ok m ts) (LA.bind (LA.tail (s9 q) V9) λ _ _=>LA.bind l4 λ _ _=>LA.okk) λ ts' hh=>by rw [L2,i7 hh,q]; rfl
 | false=>exact LA.disp (R:=Rs.ok (-1)) LA.okk λ ts' hh=>by rw [L2,i7 hh,q]; rfl
theorem b4c {ms : List (List UInt8)} {k : Nat} : LA (N7 ms k) ts :=
 LA.bind X7 λ _ _=>LA.bind b9H λ _ _=>LA.bind l4 λ _ _=>LA.bind (a9V _ _ _ _) λ _ _=>LA.bind (a7Y _ _ _) λ _ _=>LA.bind b4A λ _ _=>LA.bind l4 λ _ _=>LA.okk
theorem c0Q : LA T6 ts:=LA.bind X7 λ _ _=>LA.bind M5 λ _ _=>LA.bind l4 λ _ _=>LA.okk
theorem b7f {w : List UInt8} : LA (L7 w) ts:=by
 cases q : v6 (hdT ts) with
 | some v=>exact LA.disp (R:=λ ts=>Rs.ok ⟨w,v,0,false⟩ ts.tail) (LA.tail (by rw [a2c q]; decide) LA.okk) λ ts' hh=>by rw [L7,a2b hh,q]
 | none =>
   cases q2 : isW [108,97,112,115] ts with
   | true=>exact LA.disp (R:=λ ts=>(j2 ts.tail).bind λ n ts=>.ok ⟨w,0,n,false⟩ ts) (LA.bind (LA.tail (s9 q2) y9) λ _ _=>LA.okk) λ ts' hh=>by rw [L7,a2b hh,q,i7 hh,q2]; rfl
   | false=>exact LA.disp (R:=λ ts=>(f9 [111,117,116] ts).bind λ _ ts=>.ok ⟨w,0,0,true⟩ ts) (LA.bind l4 λ _ _=>LA.okk) λ ts' hh=>by rw [L7,a2b hh,q,i7 hh,q2]; rfl
theorem b6S : LA S4 ts:=LA.bind X7 λ _ _=>LA.bind b7f λ _ _=>LA.bind l4 λ _ _=>LA.okk
theorem b3j : LA R3 ts:=LA.bind X7 λ _ _=>LA.bind y9 λ _ _=>LA.bind l4 λ _ _=>LA.bind y9 λ _ _=>LA.bind l4 λ _ _=>LA.okk
theorem c0Y {cs : List (List UInt8)} : LA (Q1 cs) ts:=by
 cases q : isW [97,108,108] ts with
 | true=>exact LA.disp (R:=λ ts=>Rs.ok (-1) ts.tail) (LA.tail (s9 q) LA.okk) λ ts' hh=>by rw [Q1,i7 hh,q]; rfl
 | false=>exact LA.disp (R:=o5 cs) V9 λ ts' hh=>by rw [Q1,i7 hh,q]; rfl
theorem b7j {ds cs : List (List UInt8)} : LA (S5 ds cs) ts:=LA.bind V9 λ _ _=>LA.bind c0Y λ _ _=>LA.bind y9 λ _ _=>LA.bind y9 λ _ _=>LA.bind l4 λ _ _=>LA.okk
end
theorem a5t : ∀ (k : Nat) (l : List Mat) (ts : List Tk),LA (A3 k l) ts
 | 0,l,ts=>LA.out (by rw [A3])
 | k + 1,l,ts=>by
   have ih:=a5t k
   cases q : D1 ts with
   | some g=>exact LA.disp (R:=λ ts=>(y7 ts.tail).bind λ w ts=>(f9 [59] ts).bind λ _ ts=>A3 k (l ++ [⟨w,g⟩]) ts) (LA.bind (LA.tail (b6k q) X7) λ _ _=>LA.bind l4 λ _ _=>ih _ _) λ ts' hh=>by rw [A3,a9B hh,q]
   | none=>exact LA.disp (R:=λ ts=>(f9 [125] ts).bind λ _ ts=>.ok l ts) (LA.bind l4 λ _ _=>LA.okk) λ ts' hh=>by rw [A3,a9B hh,q]
theorem b8y {k i : Nat} {c : Course} {ts : List Tk} : LA (J9 k i c) ts:=by
 match i with
 | 0=>exact LA.bind (P:=S0 c.ms) b5M λ _ _=>LA.okk
 | 1=>exact LA.bind (P:=N7 c.ms k) b4c λ _ _=>LA.okk
 | 2=>exact LA.bind (P:=T6) c0Q λ _ _=>LA.okk
 | 3=>exact LA.bind (P:=S4) b6S λ _ _=>LA.okk
 | 4=>exact LA.bind (P:=R3) b3j λ _ _=>LA.okk
 | _ + 5=>exact LA.bind (P:=S5 _ _) b7j λ _ _=>LA.okk
theorem b0N {i : Nat} : ∀ (k : Nat) (c : Course) (ts : List Tk),LA (D4 i k c) ts
 | 0,c,ts=>LA.out (by rw [D4])
 | k + 1,c,ts=>by
   have ih:=b0N (i:=i) k
   cases q : isW (secW.getD i []) ts with
   | true=>exact LA.disp (R:=λ ts=>(J9 k i c ts.tail).bind λ c ts=>D4 i k c ts) (LA.bind (LA.tail (s9 q) b8y) λ _ _=>ih _ _) λ ts' hh=>by rw [D4,i7 hh,q]; rfl
   | false=>exact LA.disp (R:=Rs.ok c) LA.okk λ ts' hh=>by rw [D4,i7 hh,q]; rfl
theorem a5T {k : Nat} : ∀ (n i : Nat) (c : Course) (ts : List Tk),LA (C2 k n i c) ts
 | 0,i,c,ts=>LA.disp (R:=Rs.ok c) LA.okk λ ts' hh=>by rw [C2]
 | n + 1,i,c,ts=>LA.disp (R:=λ ts=>(D4 i k c ts).bind λ c ts=>C2 k n (i + 1) c ts) (LA.bind (b0N _ _ _) λ _ _=>a5T n _ _ _) λ ts' hh=>by rw [C2]
theorem M3 {w : List UInt8} {P : List Tk -> Rs Int} {ts : List Tk} (hP : ∀ ts,LA P ts) : LA (D5 w P) ts:=LA.bind l4 λ _ _=>LA.bind (hP _) λ _ _=>LA.bind l4 λ _ _=>LA.okk
theorem b5I {k : Nat} {c : Course} {ts : List Tk} : LA (X2 k c) ts :=
 LA.bind l4 λ _ _=>LA.bind ((a3G k).2 0 _) λ _ _=>LA.bind l4 λ _ _=>LA.bind l4 λ _ _ =>
 LA.bind (M3 λ _=>y9) λ _ _=>LA.bind (M3 λ _=>y9) λ _ _=>LA.bind (M3 λ _=>M5) λ _ _=>LA.bind (M3 λ _=>M5) λ _ _=>LA.bind (M3 λ _=>y9) λ _ _ =>
 LA.bind l4 λ _ _=>LA.bind l4 λ _ _=>LA.bind l4 λ _ _=>LA.bind y9 λ _ _=>LA.bind l4 λ _ _=>LA.bind M5 λ _ _ =>
 LA.bind l4 λ _ _=>LA.bind l4 λ _ _=>LA.okk
theorem a2B {k : Nat} {ts : List Tk} : LA (p6 k) ts :=
 LA.bind l4 λ _ _=>LA.bind X7 λ _ _=>LA.bind l4 λ _ _=>LA.bind l4 λ _ _=>LA.bind l4 λ _ _=>LA.bind (a5t k [] _) λ _ _=>LA.bind (a5T 6 0 _ _) λ _ _=>b5I
def St {α : Type} (P : List Tk -> Rs α) (ts : List Tk) : Prop:=∀ a r,P ts = .ok a r -> ∃ p,p ≠ [] /\ ts = p ++ r /\ (∀ t ∈ p,t.kind ≠ 6) /\ ∀ p' r' : List Tk,p'.map Tk.bare = p.map Tk.bare -> P (p' ++ r') = .ok a r'
theorem St.bind {α β : Type} {P : List Tk -> Rs α} {f : α -> List Tk -> Rs β} {ts : List Tk} (h : LA P ts) (hf : ∀ a r,St (f a) r) : St (λ ts=>(P ts).bind f) ts:=by
 intro b s e
 dsimp only at e
 cases hP : P ts with
 | ok a r =>
   rw [hP,Rs.bind_ok] at e
   obtain ⟨p1,e1,k1,g1⟩:=h.ok a r hP
   obtain ⟨p2,n2,e2,k2,g2⟩:=hf a r b s e
   refine ⟨p1 ++ p2,by simp [n2],by rw [e1,e2,List.append_assoc],a5v k1 k2,λ p' r' hp=>?_⟩
   rw [List.map_append] at hp
   obtain ⟨q1,q2,rfl,hq1,hq2⟩:=List.map_eq_append_iff.1 hp
   show Rs.bind _ f = _
   rw [List.append_assoc,g1 q1 (q2 ++ r') hq1 (by rw [e2]; exact b4X hq2 n2),Rs.bind_ok]
   exact g2 q2 r' hq2
 | er a e'=>rw [hP] at e; cases e
 | out=>rw [hP] at e; cases e
theorem b6B {β : Type} {w : List UInt8} {c : β} {ts : List Tk} : St (λ ts=>(f9 w ts).bind λ _ ts=>.ok c ts) ts:=by
 intro b s e
 dsimp only at e
 cases q : isW w ts with
 | true =>
   obtain ⟨t,r,rfl⟩:=a8X q
   rw [f9,q] at e
   cases e
   refine ⟨[t],by simp,rfl,λ x hx=>?_,λ p' r' hp=>?_⟩
   . rw [List.mem_singleton.1 hx]
     exact s9 (ts:=t :: r) q
   . obtain ⟨t',q',rfl,h1,h2⟩:=List.map_eq_cons_iff.1 hp
     obtain rfl:=List.map_eq_nil_iff.1 h2
     have : isW w ([t'] ++ r') = true:=(i7 (ts:=t :: r) (ts':=t' :: r') h1 w).trans q
     show Rs.bind _ _ = _
     rw [f9,this]
     rfl
 | false =>
   rw [f9,q] at e
   cases e
theorem b5J {k : Nat} {c : Course} {ts : List Tk} : St (X2 k c) ts :=
 St.bind l4 λ _ _=>St.bind ((a3G k).2 0 _) λ _ _=>St.bind l4 λ _ _=>St.bind l4 λ _ _ =>
 St.bind (M3 λ _=>y9) λ _ _=>St.bind (M3 λ _=>y9) λ _ _=>St.bind (M3 λ _=>M5) λ _ _=>St.bind (M3 λ _=>M5) λ _ _=>St.bind (M3 λ _=>y9) λ _ _ =>
 St.bind l4 λ _ _=>St.bind l4 λ _ _=>St.bind l4 λ _ _=>St.bind y9 λ _ _=>St.bind l4 λ _ _=>St.bind M5 λ _ _ =>
 St.bind l4 λ _ _=>b6B
theorem a7T {k : Nat} {ts : List Tk} : St (p6 k) ts :=
 St.bind l4 λ _ _=>St.bind X7 λ _ _=>St.bind l4 λ _ _=>St.bind l4 λ _ _=>St.bind l4 λ _ _=>St.bind (a5t k [] _) λ _ _=>St.bind (a5T 6 0 _ _) λ _ _=>b5J
end Go.Proofs.YtaopegkpjhkooaaGreatDoor.Dx
/- Chapter 06: only the tokens count; what stands behind an error; texts that are cut (plain). -/
namespace Go.Proofs.YtaopegkpjhkooaaGreatDoor.Dx
open Go Go.RowKit
set_option maxRecDepth 100000
theorem a4X {r r' : List Tk} (h : r'.map Tk.bare = r.map Tk.bare) : (hdT r').bare = (hdT r).bare:=by
 cases r with
 | nil =>
   obtain rfl : r' = []:=List.map_eq_nil_iff.1 h
   rfl
 | cons t r =>
   cases r' with
   | nil=>cases h
   | cons t' r'=>exact (List.cons.inj h).1
theorem Tk.kind_eq {a b : Tk} (h : a.bare = b.bare) : a.kind = b.kind:=congrArg Prod.fst h
theorem LA.to {α : Type} {P : List Tk -> Rs α} {ts ts2 : List Tk} (h : LA P ts) (hb : ts2.map Tk.bare = ts.map Tk.bare) :
 (∀ a r,P ts = .ok a r -> ∃ r',P ts2 = .ok a r' /\ (hdT r').kind = (hdT r).kind) /\ (∀ a e,P ts = .er a e -> ∃ a',P ts2 = .er a' e):=by
 refine ⟨λ a r e=>?_,λ a e he=>?_⟩
 . obtain ⟨p,rfl,_,g⟩:=h.ok a r e
   rw [List.map_append] at hb
   obtain ⟨q1,q2,rfl,h1,h2⟩:=List.map_eq_append_iff.1 hb
   exact ⟨q2,g q1 q2 h1 (a4X h2),Tk.kind_eq (a4X h2)⟩
 . obtain ⟨p,r,rfl,_,_,_,g⟩:=h.er a e he
   rw [List.map_append] at hb
   obtain ⟨q1,q2,rfl,h1,h2⟩:=List.map_eq_append_iff.1 hb
   exact ⟨_,g q1 q2 h1 (a4X h2)⟩
theorem a5H {α : Type} {z : α} {P : List Tk -> Rs α} {src b : List UInt8} (h : LA P (toks src 0)) (hbad : bads src 0 (-1) 0 = []) (hL : Lx b ((toks src 0).map Tk.bare)) (ho : P (toks src 0) ≠ .out) : (z6 z P b).1 = (z6 z P src).1 /\ (z6 z P b).2.2 = (z6 z P src).2.2:=by
 obtain ⟨h1,h2⟩:=h.to (ts2:=toks b 0) (hL.toks 0)
 unfold z6
 rw [hbad,hL.bads]
 show (A6 z (P (toks b 0))).1 = (A6 z (P (toks src 0))).1 /\ (A6 z (P (toks b 0))).2.2 = (A6 z (P (toks src 0))).2.2
 cases hP : P (toks src 0) with
 | ok a r =>
   obtain ⟨r',e1,e2⟩:=h1 a r hP
   rw [e1]
   unfold A6
   dsimp only
   rw [e2]
   split <;> exact ⟨rfl,rfl⟩
 | er a e =>
   obtain ⟨a',e1⟩:=h2 a e hP
   rw [e1]
   exact ⟨rfl,rfl⟩
 | out=>exact absurd hP ho
abbrev jt (l : List Tk) : List UInt8:=jn (l.map λ t=>tkT t.z)
abbrev eT (a : Nat) : Tk:=⟨6,[],a⟩
theorem a3M (src : List UInt8) : ∃ i,toks src 0 = i ++ [eT src.length] /\ (∀ t ∈ i,tkB t.z = true):=by
 obtain ⟨i,h1,h2,_⟩:=b1q _ src 0 (Nat.le_refl _)
 rw [Nat.zero_add] at h1
 exact ⟨i,h1,h2⟩
theorem a9e {l : List Tk} (h : ∀ t ∈ l,tkB t.z = true) (a : Nat) : R9 ((l ++ [eT a]).map Tk.z) = if 65536 < (jt l).length then ([],2) else (jt l,0):=by
 rw [List.map_append,List.map_singleton,b5v _ rfl rfl,if_neg,List.map_map]
 . rfl
 . rw [show (l.map Tk.z).all tkB = true from List.all_eq_true.2 λ x hx=>by obtain ⟨t,ht,rfl⟩:=List.mem_map.1 hx; exact h t ht]
   decide
theorem a5p {l : List Tk} (h : ∀ t ∈ l,tkB t.z = true) : Lx (jt l) (l.map Tk.bare ++ [(6,[])]):=by
 have:=b6d (l:=l.map Tk.z) (λ x hx=>by obtain ⟨t,ht,rfl⟩:=List.mem_map.1 hx; exact h t ht)
 rw [List.map_map,List.map_map] at this
 exact this
theorem a9i {t : Tk} (h : tkB t.z = true) : t.kind ≠ 6:=by
 intro e
 have e' : t.z.kind = 6:=by show (t.kind : Int) = 6; omega
 unfold tkB at h
 rw [e'] at h
 exact absurd h (by simp)
theorem a9y {b : List UInt8} {l : List (Nat × List UInt8)} (h : Lx b (l ++ [(6,[])])) : ∃ i,toks b 0 = i ++ [eT b.length] /\ i.map Tk.bare = l:=by
 obtain ⟨i,h1,_⟩:=a3M b
 refine ⟨i,h1,?_⟩
 have:=h.toks 0
 rw [h1,List.map_append] at this
 exact List.append_inj_left' this rfl
theorem a3C {p r i : List Tk} {e : Tk} (h : i ++ [e] = p ++ r) (hp : ∀ t ∈ p,t.kind ≠ 6) (he : e.kind = 6) : ∃ x,r = x ++ [e] /\ i = p ++ x:=by
 rcases List.append_eq_append_iff.1 h with ⟨c,h1,h2⟩ | ⟨c,h1,h2⟩
 . cases c with
   | nil =>
     refine ⟨[],?_,by simpa using h1.symm⟩
     simpa using h2.symm
   | cons x c =>
     have h3:=(List.cons.inj h2).1
     subst h3
     exact absurd he (hp e (by rw [h1]; simp))
 . exact ⟨c,h2,h1⟩
theorem behind {src : List UInt8} (hl : src.length <= 65536) (hbad : bads src 0 (-1) 0 = []) (he : (m3 src).2.2 ≠ 0) :
 ∃ p t q,toks src 0 = p ++ t :: q /\ (∀ x ∈ p,x.kind ≠ 6) /\ (m3 src).2.1 = t.at_ /\
   ∀ b more,Lx b ((p ++ t :: more).map Tk.bare) -> t.kind ≠ 6 -> ∃ p' t' q',toks b 0 = p' ++ t' :: q' /\ p'.length = p.length /\ m3 b = (zC,(t'.at_ : Int),(m3 src).2.2):=by
 obtain ⟨i,hi,hB⟩:=a3M src
 have hfu:=a1i src hl
 have hla : LA (p6 FU) (toks src 0):=a2B
 have hc : m3 src = A6 zC (p6 FU (toks src 0)):=by unfold m3 z6; rw [hbad]
 rw [hc] at he ⊢
 cases hP : p6 FU (toks src 0) with
 | out=>exact absurd hP hfu
 | ok v r =>
   rw [hP] at he
   unfold A6 at he ⊢
   dsimp only at he ⊢
   split at he
   . exact absurd rfl he
   rename_i h6
   obtain ⟨p,e1,k1,g⟩:=hla.ok v r hP
   cases r with
   | nil=>exact absurd rfl h6
   | cons t q =>
     have h6' : t.kind ≠ 6:=h6
     refine ⟨p,t,q,e1,k1,by rw [if_neg h6]; rfl,λ b more hL hk=>?_⟩
     rw [if_neg h6]
     have ht:=hL.toks 0
     rw [List.map_append] at ht
     obtain ⟨q1,q2,hq,h1,h2⟩:=List.map_eq_append_iff.1 ht
     obtain ⟨t',q',rfl,h3,h4⟩:=List.map_eq_cons_iff.1 h2
     refine ⟨q1,t',q',hq,by have:=congrArg List.length h1; simpa using this,?_⟩
     unfold m3 z6
     rw [hL.bads]
     show A6 zC (p6 FU (toks b 0)) = _
     rw [hq,g q1 (t' :: q') h1 h3]
     unfold A6
     dsimp only
     rw [if_neg (show ¬ (hdT (t' :: q')).kind = 6 from λ h=>h6' ((Tk.kind_eq h3).symm.trans h))]
     rfl
 | er a e =>
   obtain ⟨p,r,e1,k1,ea,h6,g⟩:=hla.er a e hP
   obtain ⟨x,hx,_⟩:=a3C (hi.symm.trans e1) k1 rfl
   obtain ⟨t,q,rfl⟩ : ∃ t q,r = t :: q:=by
    cases x with
    | nil=>exact ⟨_,_,hx⟩
    | cons t x=>exact ⟨t,_,hx⟩
   refine ⟨p,t,q,e1,k1,by rw [ea]; rfl,λ b more hL hk=>?_⟩
   have ht:=hL.toks 0
   rw [List.map_append] at ht
   obtain ⟨q1,q2,hq,h1,h2⟩:=List.map_eq_append_iff.1 ht
   obtain ⟨t',q',rfl,h3,h4⟩:=List.map_eq_cons_iff.1 h2
   refine ⟨q1,t',q',hq,by have:=congrArg List.length h1; simpa using this,?_⟩
   unfold m3 z6
   rw [hL.bads]
   show A6 zC (p6 FU (toks b 0)) = _
   rw [hq,g q1 (t' :: q') h1 h3]
   rfl
theorem b3C {src : List UInt8} (hl : src.length <= 65536) (he : (m3 src).2.2 = 0) :
 bads src 0 (-1) 0 = [] /\ ∃ v i,toks src 0 = i ++ [eT src.length] /\ i ≠ [] /\ (∀ t ∈ i,tkB t.z = true) /\ p6 FU (toks src 0) = .ok v [eT src.length] /\ ∀ p' r' : List Tk,p'.map Tk.bare = i.map Tk.bare -> p6 FU (p' ++ r') = .ok v r':=by
 obtain ⟨i,hi,hB⟩:=a3M src
 have hfu:=a1i src hl
 unfold m3 z6 at he
 cases hb : bads src 0 (-1) 0 with
 | cons x xs=>rw [hb] at he; exact absurd (show (50 : Int) = 0 from he) (by decide)
 | nil =>
   rw [hb] at he
   refine ⟨rfl,?_⟩
   replace he : (A6 zC (p6 FU (toks src 0))).2.2 = 0:=he
   cases hP : p6 FU (toks src 0) with
   | out=>exact absurd hP hfu
   | er a e =>
     rw [hP] at he
     obtain ⟨p,r,e1,k1,ea,h6,g⟩:=(a2B (k:=FU) (ts:=toks src 0)).er a e hP
     exact absurd he h6.1
   | ok v r =>
     rw [hP] at he
     unfold A6 at he
     dsimp only at he
     split at he
     . rename_i h6
       obtain ⟨p,np,e1,k1,g⟩:=a7T v r hP
       obtain ⟨x,hx,hix⟩:=a3C (hi.symm.trans e1) k1 rfl
       have hx0 : x = []:=by
        cases x with
        | nil=>rfl
        | cons t x =>
          rw [hx] at h6
          exact absurd h6 (a9i (hB t (by rw [hix]; simp)))
       subst hx0
       rw [List.append_nil] at hix
       subst hix
       exact ⟨v,i,hi,np,hB,by rw [hx]; rfl,g⟩
     . exact absurd (show (60 : Int) = 0 from he) (by decide)
theorem b3O {src : List UInt8} {v : Course} {i : List Tk} (hi : toks src 0 = i ++ [eT src.length]) (hB : ∀ t ∈ i,tkB t.z = true) (hP : p6 FU (toks src 0) = .ok v [eT src.length])
 {n : Nat} (hn : n < i.length) {b : List UInt8} (hb : b.length <= 65536) (hL : Lx b ((i.take n).map Tk.bare ++ [(6,[])])) : m3 b = (zC,(b.length : Int),60):=by
 obtain ⟨j,hj,hjb⟩:=a9y hL
 have hfu:=a1i b hb
 have hjl : j.length = n:=by
  have:=congrArg List.length hjb
  rw [List.length_map,List.length_map,List.length_take] at this
  omega
 have whole : ∀ p x : List Tk,j = p ++ x -> ∃ p' x',i = p' ++ x' /\ p'.map Tk.bare = p.map Tk.bare /\ (x'.map Tk.bare = x.map Tk.bare ++ ((i.drop n).map Tk.bare)):=by
  intro p x hpx
  have e1 : i.map Tk.bare = (p ++ x).map Tk.bare ++ (i.drop n).map Tk.bare:=by
   rw [<- hpx,hjb,<- List.map_append,List.take_append_drop]
  rw [List.map_append,List.append_assoc] at e1
  obtain ⟨p',x',h1,h2,h3⟩:=List.map_eq_append_iff.1 e1
  exact ⟨p',x',h1,h2,h3⟩
 unfold m3 z6
 rw [hL.bads]
 show A6 zC (p6 FU (toks b 0)) = _
 cases hQ : p6 FU (toks b 0) with
 | out=>exact absurd hQ hfu
 | ok w r =>
   exfalso
   obtain ⟨p,np,e1,k1,g⟩:=a7T w r hQ
   obtain ⟨x,hx,hjx⟩:=a3C (hj.symm.trans e1) k1 rfl
   obtain ⟨p',x',h1,h2,h3⟩:=whole p x hjx
   have:=g p' (x' ++ [eT src.length]) h2
   rw [<- List.append_assoc,<- h1,<- hi,hP] at this
   have hr:=congrArg (λ z=>match z with | Rs.ok _ r=>r.length | _=>0) this
   have hlx:=congrArg List.length h3
   simp only [List.length_append,List.length_map,List.length_drop,List.length_singleton] at hr hlx
   omega
 | er a e =>
   obtain ⟨p,r,e1,k1,ea,h6,g⟩:=(a2B (k:=FU) (ts:=toks b 0)).er a e hQ
   obtain ⟨x,hx,hjx⟩:=a3C (hj.symm.trans e1) k1 rfl
   cases x with
   | nil =>
     subst hx
     rw [ea,h6.2 rfl]
     rfl
   | cons t x =>
     exfalso
     obtain ⟨p',x',h1,h2,h3⟩:=whole p (t :: x) hjx
     rw [List.map_cons,List.cons_append] at h3
     obtain ⟨t',y,rfl,h4,h5⟩:=List.map_eq_cons_iff.1 h3
     have:=g p' (t' :: y ++ [eT src.length]) h2 (by rw [hx]; exact h4)
     rw [<- List.append_assoc,<- h1,<- hi,hP] at this
     cases this
theorem b3N {v : Course} {i : List Tk} {t : Tk} (ht : t.kind ≠ 6) (g : ∀ p' r' : List Tk,p'.map Tk.bare = i.map Tk.bare -> p6 FU (p' ++ r') = .ok v r')
 {b : List UInt8} (hL : Lx b ((i ++ [t]).map Tk.bare ++ [(6,[])])) : ∃ j t',toks b 0 = j ++ [t',eT b.length] /\ j.length = i.length /\ m3 b = (zC,(t'.at_ : Int),60):=by
 obtain ⟨k,hk,hkb⟩:=a9y hL
 rw [List.map_append] at hkb
 obtain ⟨j,y,rfl,h1,h2⟩:=List.map_eq_append_iff.1 hkb
 obtain ⟨t',y',rfl,h3,h4⟩:=List.map_eq_cons_iff.1 h2
 obtain rfl:=List.map_eq_nil_iff.1 h4
 have e : toks b 0 = j ++ [t',eT b.length]:=by rw [hk,List.append_assoc]; rfl
 refine ⟨j,t',e,by have:=congrArg List.length h1; simpa using this,?_⟩
 unfold m3 z6
 rw [hL.bads]
 show A6 zC (p6 FU (toks b 0)) = _
 rw [e,g j _ h1]
 unfold A6
 dsimp only
 rw [if_neg (show ¬ (hdT [t',eT b.length]).kind = 6 from λ h=>ht ((Tk.kind_eq h3).symm.trans h))]
 rfl
end Go.Proofs.YtaopegkpjhkooaaGreatDoor.Dx
