/- What a further law needs. -/
import Derived.Test.YtaopegkpjhkooaaGreatDoorEj
import Derived.Test.YtaopegkpjhkooaaGreatDoorEk
set_option linter.all false
namespace Go.Proofs.YtaopegkpjhkooaaGreatDoor.Dx
open Go Go.RowKit
set_option maxRecDepth 100000
set_option maxHeartbeats 16000000
theorem starts_ge : ∀ (k : Nat) (r : List UInt8) (a : Nat),r.length <= k -> ∀ x ∈ toks r a,a <= x.at_ /\ x.at_ <= a + r.length
  | _,[],a,_,x,hx=>by rw [b1r,List.mem_singleton] at hx; subst hx; simp
  | 0,c :: t,_,h,_,_=>by simp at h
  | k + 1,c :: t,a,h,x,hx=>by
    have h1:=T1 c t
    simp only [List.length_cons] at h ⊢
    have ih:=starts_ge k ((c :: t).drop (g6 (c :: t)).2.2) (a + (g6 (c :: t)).2.2) (by rw [List.length_drop,List.length_cons]; omega) x
    rw [List.length_drop,List.length_cons] at ih
    rw [a0O] at hx
    split at hx
    . rcases List.mem_cons.1 hx with rfl | hx
      . dsimp only; omega
      . have:=ih hx; omega
    . have:=ih hx; omega
theorem toks_inc : ∀ (k : Nat) (r : List UInt8) (a : Nat),r.length <= k -> (toks r a).Pairwise λ x y=>x.at_ < y.at_
  | _,[],a,_=>by rw [b1r]; simp
  | 0,c :: t,_,h=>by simp at h
  | k + 1,c :: t,a,h=>by
    have h1:=T1 c t
    simp only [List.length_cons] at h
    have ih:=toks_inc k ((c :: t).drop (g6 (c :: t)).2.2) (a + (g6 (c :: t)).2.2) (by rw [List.length_drop,List.length_cons]; omega)
    rw [a0O]
    split
    . refine List.pairwise_cons.2 ⟨λ x hx=>?_,ih⟩
      have:=(starts_ge _ _ _ (Nat.le_refl _) x hx).1
      dsimp only; omega
    . exact ih
theorem tk_pos {l : List Tk} {p q : List Tk} {t : Tk} (h : l = p ++ t :: q) (hp : l.Pairwise λ x y=>x.at_ < y.at_) {k : Nat} (hk : k < p.length) : ∃ x,l[k]? = some x /\ x.at_ ≠ t.at_:=by
  subst h
  refine ⟨p[k],by rw [List.getElem?_append_left hk,List.getElem?_eq_getElem hk],?_⟩
  have:=(List.pairwise_append.1 hp).2.2 p[k] (List.getElem_mem hk) t (List.mem_cons_self ..)
  omega
theorem LBehind_meets (src oth : List UInt8) (_ : src.length <= 1048576) (_ : oth.length <= 1048576) : Meets Tryz.prog 7 [.sl (d9 src),.sl (d9 oth)] λ r=>r = bD true:=by
  have hs:=b0K
  by_cases hl : src.length <= 2000 /\ oth.length <= 200
  case neg =>
    refine enter tok {} Tryz.func7 rfl (by kernel_rfl) Tryz.ntmps7 (by simp) λ B0 W0 V0 lent g0=>?_
    ((conv=>whnf); repeat' (refine Z rfl ?_; conv=>whnf))
    refine Meets.k hs ?_
    ((conv=>whnf); repeat' (refine Z rfl ?_; conv=>whnf))
    refine ⟨λ h=>absurd h (by decide),λ _=>?_⟩
    ((conv=>whnf); repeat' (refine Z rfl ?_; conv=>whnf))
    repeat' ((first | (intro hlq; (try simp only [SL] at hlq)) | refine Ks ?_ | refine Kq ?_ | refine Kt ?_ | ((refine Kh (λ hb=>?_) λ hb=>?_) <;> (try simp only [BL] at hb)) | refine Ka ?_ | refine Kb ?_ | refine Kc (hd:=rfl) (e:=?_) | refine Kc (hd:=d7 _) (e:=?_) | refine Kd (e:=?_) | refine Kl rfl ?_ | fail) <;> ((conv=>whnf); repeat' (refine Z rfl ?_; conv=>whnf)))
    all_goals first
      | exact Done.mk rfl
      | (exfalso; omega)
      | trace_state
  obtain ⟨hl,hl'⟩:=hl
  have hl2 : src.length <= 65536:=by omega
  have hl3 : oth.length <= 65536:=by omega
  have a0:=R2 B8 src hl2
  have a1:=R2 B8 oth hl3
  have a2:=a0T B8 src hl2
  by_cases hc : bads src 0 (-1) 0 = [] /\ bads oth 0 (-1) 0 = [] /\ (m3 src).2.2 ≠ 0
  case neg =>
    have hx : (m3 src).2.2 ≠ 0 -> ¬ ((bads src 0 (-1) 0).length : Int) > 0 -> ¬ ((bads oth 0 (-1) 0).length : Int) > 0 -> False:=λ h1 h2 h3=>hc ⟨List.eq_nil_of_length_eq_zero (by omega),List.eq_nil_of_length_eq_zero (by omega),h1⟩
    refine enter tok {} Tryz.func7 rfl (by kernel_rfl) Tryz.ntmps7 (by simp) λ B0 W0 V0 lent g0=>?_
    ((conv=>whnf); repeat' ((fail_if_success (refine T9 10 ?_)); refine Z rfl ?_; conv=>whnf))
    refine Meets.k hs ?_
    ((conv=>whnf); repeat' ((fail_if_success (refine T9 10 ?_)); refine Z rfl ?_; conv=>whnf))
    refine ⟨λ h=>absurd h (by decide),λ _=>?_⟩
    ((conv=>whnf); repeat' ((fail_if_success (refine T9 10 ?_)); refine Z rfl ?_; conv=>whnf))
    repeat' ((first | (intro hlq; (try simp only [SL] at hlq)) | refine Meets.k (a0) ?_ | refine Meets.k (a1) ?_ | refine Meets.k (a2) ?_ | refine Ks ?_ | refine Kq ?_ | refine Kt ?_ | ((refine Kh (λ hb=>?_) λ hb=>?_) <;> (try simp only [BL] at hb)) | refine Ka ?_ | refine Kb ?_ | refine Kc (hd:=rfl) (e:=?_) | refine Kc (hd:=d7 _) (e:=?_) | refine Kd (e:=?_) | refine Kl rfl ?_ | fail) <;> ((conv=>whnf); repeat' ((fail_if_success (refine T9 10 ?_)); refine Z rfl ?_; conv=>whnf)))
    all_goals first
      | exact Done.mk rfl
      | (exfalso; omega)
      | (exfalso; refine hx ?_ ?_ ?_ <;> (first | assumption | (simp only [List.length_map] at *; omega)))
      | trace_state
  obtain ⟨hb,hb',he⟩:=hc
  obtain ⟨p,t,q,hL,hk6,hat,hbeh⟩:=behind hl2 hb he
  have b0:=b1n hl2 hb (i:=toks src 0) rfl
  have b1:=b1n hl3 hb' (i:=toks oth 0) rfl
  have hinc:=toks_inc _ src 0 (Nat.le_refl _)
  have hpos:=λ k (hk : k < p.length)=>tk_pos hL hinc hk
  have hlen:=a0P src
  have hlen':=a0P oth
  obtain ⟨L,hLL⟩ : ∃ L,L = toks src 0:=⟨_,rfl⟩
  rw [<- hLL] at b0 hL hpos hlen
  have hpl : p.length < L.length:=by rw [hL]; simp
  have hLt : L[p.length]? = some t:=by rw [hL,List.getElem?_append_right (Nat.le_refl _),Nat.sub_self]; rfl
  obtain ⟨C,c1,c2,hC⟩ : ∃ C c1 c2,m3 src = (C,c1,c2):=⟨_,_,_,rfl⟩
  rw [hC] at a2 he hat hbeh
  have he' : c2 ≠ 0:=he
  have hat' : c1 = (t.at_ : Int):=hat
  have hmap : ∀ k : Nat,(L.map tkC)[(k : Int).toNat]? = (L[k]?).map tkC:=λ k=>by rw [Int.toNat_natCast,List.getElem?_map]
  clear a0 a1 hs hinc
  have hs:=b0K
  refine enter tok {} Tryz.func7 rfl (by kernel_rfl) Tryz.ntmps7 (by simp) λ B0 W0 V0 lent g0=>?_
  ((conv=>whnf); repeat' (refine Z rfl ?_; conv=>whnf))
  refine Meets.k hs ?_
  ((conv=>whnf); repeat' (refine Z rfl ?_; conv=>whnf))
  refine ⟨λ h=>absurd h (by decide),λ _=>?_⟩
  ((conv=>whnf); repeat' (refine Z rfl ?_; conv=>whnf))
  repeat' ((first | (intro hlq; (try simp only [SL] at hlq)) | refine Meets.k (a2) ?_ | refine Meets.k (b0) ?_ | refine Meets.k (b1) ?_ | refine Ks ?_ | refine Kq ?_ | refine Kt ?_ | ((refine Kh (λ hb=>?_) λ hb=>?_) <;> (try simp only [BL] at hb)) | refine Ka ?_ | refine Kb ?_ | refine Kc (hd:=rfl) (e:=?_) | refine Kc (hd:=d7 _) (e:=?_) | refine Kd (e:=?_) | refine Kl rfl ?_ | fail) <;> ((conv=>whnf); repeat' (refine Z rfl ?_; conv=>whnf)))
  all_goals (try (exfalso; first | contradiction | omega))
  refine m9 tok {} [] (X:=Nat) (λ k=>[(14,iB k)]) (λ _=>[]) [] (λ k=>k <= p.length) (λ k=>p.length - k) 0 ?_
  ((conv=>whnf); repeat' (refine Z rfl ?_; conv=>whnf))
  refine And.intro ?_ ⟨Nat.zero_le _,λ k hΦ=>?_⟩
  . exact Kr
  ((conv=>whnf); repeat' (refine Z rfl ?_; conv=>whnf))
  repeat' ((first | (intro hlq; (try simp only [SL] at hlq)) | refine Ks ?_ | refine Kq ?_ | refine Kt ?_ | refine Ka ?_ | refine Kb ?_ | refine Kc (hd:=rfl) (e:=?_) | refine Kc (hd:=d7 _) (e:=?_) | refine Kd (e:=?_) | refine Kl rfl ?_ | fail) <;> ((conv=>whnf); repeat' (refine Z rfl ?_; conv=>whnf)))
  have hmL : (L.map tkC).length = L.length:=List.length_map ..
  have hkL : k < L.length:=by omega
  obtain ⟨x,hx⟩ : ∃ x,L[k]? = some x:=⟨_,List.getElem?_eq_getElem hkL⟩
  have hxk : k < p.length -> (x.at_ : Int) ≠ c1:=λ h=>by
    obtain ⟨y,h1,h2⟩:=hpos k h
    rw [hx] at h1
    cases h1
    omega
  have hxe : k = p.length -> x = t:=λ h=>by
    rw [h,hLt] at hx
    exact (Option.some.inj hx).symm
  refine ⟨λ h3=>?_,λ h3=>?_⟩
  case refine_2=>exact absurd (of_decide_eq_false h3) (by rw [hmL]; omega)
  refine ⟨tkC x,⟨by omega,by rw [hmap,hx]; rfl,rfl⟩,?_⟩
  ((conv=>whnf); repeat' (refine Z rfl ?_; conv=>whnf))
  repeat' ((first | (intro hlq; (try simp only [SL] at hlq)) | refine Ks ?_ | refine Kq ?_ | refine Kt ?_ | refine Ka ?_ | refine Kb ?_ | refine Kc (hd:=rfl) (e:=?_) | refine Kc (hd:=d7 _) (e:=?_) | refine Kd (e:=?_) | refine Kl rfl ?_ | fail) <;> ((conv=>whnf); repeat' (refine Z rfl ?_; conv=>whnf)))
  refine ⟨λ h4=>?_,λ h4=>?_⟩ <;> (try simp only [BL] at h4) <;> ((conv=>whnf); repeat' (refine Z rfl ?_; conv=>whnf))
  . repeat' ((first | (intro hlq; (try simp only [SL] at hlq)) | refine Ks ?_ | refine Kq ?_ | refine Kt ?_ | refine Ka ?_ | refine Kb ?_ | refine Kc (hd:=rfl) (e:=?_) | refine Kc (hd:=d7 _) (e:=?_) | refine Kd (e:=?_) | refine Kl rfl ?_ | fail) <;> ((conv=>whnf); repeat' (refine Z rfl ?_; conv=>whnf)))
    refine ⟨⟨k + 1,?_,?_,?_⟩⟩
    . exact Kr
    . have : k ≠ p.length:=λ h=>h4 (by rw [hxe h]; exact hat'.symm)
      show k + 1 <= p.length
      omega
    . show p.length - (k + 1) < p.length - k
      have : k ≠ p.length:=λ h=>h4 (by rw [hxe h]; exact hat'.symm)
      omega
  have hkp : k = p.length:=by
    rcases Nat.lt_or_ge k p.length with h | h
    . exact absurd (hxk h) h4
    . omega
  subst hkp
  obtain rfl : x = t:=hxe rfl
  clear hxk hxe h3 h4 hpos
  intro _
  ((conv=>whnf); repeat' (refine Z rfl ?_; conv=>whnf))
  repeat' ((first | (intro hlq; (try simp only [SL] at hlq)) | refine Ks ?_ | refine Kq ?_ | refine Kt ?_ | refine Ka ?_ | refine Kb ?_ | refine Kc (hd:=rfl) (e:=?_) | refine Kc (hd:=d7 _) (e:=?_) | refine Kd (e:=?_) | refine Kl rfl ?_ | fail) <;> ((conv=>whnf); repeat' (refine Z rfl ?_; conv=>whnf)))
  refine ⟨λ h5=>?_,λ h5=>?_⟩ <;> (try simp only [BL] at h5) <;> ((conv=>whnf); repeat' (refine Z rfl ?_; conv=>whnf))
  . exfalso; omega
  refine ⟨tkC x,⟨by omega,by rw [hmap,hx]; rfl,rfl⟩,?_⟩
  ((conv=>whnf); repeat' (refine Z rfl ?_; conv=>whnf))
  repeat' ((first | (intro hlq; (try simp only [SL] at hlq)) | refine Ks ?_ | refine Kq ?_ | refine Kt ?_ | refine Ka ?_ | refine Kb ?_ | refine Kc (hd:=rfl) (e:=?_) | refine Kc (hd:=d7 _) (e:=?_) | refine Kd (e:=?_) | refine Kl rfl ?_ | fail) <;> ((conv=>whnf); repeat' (refine Z rfl ?_; conv=>whnf)))
  refine ⟨λ h6=>?_,λ h6=>?_⟩ <;> (try simp only [BL] at h6) <;> ((conv=>whnf); repeat' (refine Z rfl ?_; conv=>whnf))
  . repeat' ((first | (intro hlq; (try simp only [SL] at hlq)) | refine Ks ?_ | refine Kq ?_ | refine Kt ?_ | refine Ka ?_ | refine Kb ?_ | refine Kc (hd:=rfl) (e:=?_) | refine Kc (hd:=d7 _) (e:=?_) | refine Kd (e:=?_) | refine Kl rfl ?_ | fail) <;> ((conv=>whnf); repeat' (refine Z rfl ?_; conv=>whnf)))
    exact ⟨rfl⟩
  have hk : x.kind ≠ 6:=λ h=>h6 (by show ((x.kind : Nat) : Int) = 6; omega)
  have hP1 : L.take (p.length + 1) = p ++ [x]:=by
    rw [hL,show p ++ x :: q = (p ++ [x]) ++ q by simp,List.take_append_of_le_length (by simp),List.take_of_length_le (by simp)]
  obtain ⟨b,e,hj,hbl,hc⟩ : ∃ (b : List UInt8) (e : Int),Meets Tryz.prog 24 [.sl ((p ++ [x]).map tkC ++ (toks oth 0).map tkC)] (λ d=>d = .tup [.sl (d9 b),iD e]) /\ b.length <= 65536 /\
      (e = 2 \/ e = 0 /\ bads b 0 (-1) 0 = [] /\ ∃ p' t' q',toks b 0 = p' ++ t' :: q' /\ p'.length = p.length /\ m3 b = (zC,(t'.at_ : Int),c2)):=by
    obtain ⟨i1,hi1,hB1⟩:=a3M src
    obtain ⟨i2,hi2,hB2⟩:=a3M oth
    have hin : ∀ y ∈ toks src 0,y.kind ≠ 6 -> tkB y.z = true:=λ y hy h=>by
      rw [hi1] at hy
      rcases List.mem_append.1 hy with h' | h'
      . exact hB1 y h'
      . rw [List.mem_singleton.1 h'] at h; exact absurd rfl h
    have hmem : ∀ y ∈ p ++ [x],y ∈ toks src 0:=λ y hy=>by
      rw [<- hLL,hL]
      rcases List.mem_append.1 hy with h | h
      . exact List.mem_append.2 (.inl h)
      . rw [List.mem_singleton.1 h]; simp
    have hB : ∀ y ∈ (p ++ [x]) ++ i2,tkB y.z = true:=λ y hy=>by
      rcases List.mem_append.1 hy with h | h
      . refine hin y (hmem y h) ?_
        rcases List.mem_append.1 h with h | h
        . exact hk6 y h
        . rw [List.mem_singleton.1 h]; exact hk
      . exact hB2 y h
    have hlB : ((p ++ [x]) ++ i2).length <= 1000000:=by
      have:=congrArg List.length hi2
      simp only [List.length_append,List.length_singleton] at this ⊢
      omega
    have htB : ∀ y ∈ (p ++ [x]) ++ i2,y.text.length <= 1048576:=λ y hy=>by
      rcases List.mem_append.1 hy with h | h
      . have:=b1s (hmem y h); omega
      . have:=b1s (src:=oth) (t:=y) (by rw [hi2]; simp [h]); omega
    have ec : ((((p ++ [x]) ++ i2) ++ [eT oth.length]).map tkC) = (p ++ [x]).map tkC ++ (toks oth 0).map tkC:=by
      rw [hi2,<- List.map_append,List.append_assoc]
    by_cases hj : (jt ((p ++ [x]) ++ i2)).length <= 65536
    . have j:=a5g hB oth.length hlB htB hj
      rw [ec] at j
      have hx2:=a5p hB
      refine ⟨_,_,j,hj,.inr ⟨rfl,hx2.bads _ _ _,?_⟩⟩
      refine hbeh _ (i2 ++ [eT 0]) ?_ hk
      rw [show (p ++ x :: (i2 ++ [eT 0])).map Tk.bare = ((p ++ [x]) ++ i2).map Tk.bare ++ [(6,[])] by simp [Tk.bare]]
      exact hx2
    . have j:=a5f hB oth.length hlB htB hj
      rw [ec] at j
      exact ⟨[],_,j,by simp,.inl rfl⟩
  have hk1:=a0T B8 b hbl
  have hk3:=R2 B8 b hbl
  clear hbeh b0 b1 a2
  refine ⟨λ _ _=>i64 (by omega) (by omega),?_⟩
  ((conv=>whnf); repeat' (refine Z rfl ?_; conv=>whnf))
  have hsz : ∀ ds : List D,ds ∈ L.map tkC -> ds.length = 3:=λ ds hds=>by obtain ⟨y,_,rfl⟩:=List.mem_map.1 hds; rfl
  have hszo : ∀ ds : List D,ds ∈ (toks oth 0).map tkC -> ds.length = 3:=λ ds hds=>by obtain ⟨y,_,rfl⟩:=List.mem_map.1 hds; rfl
  refine ⟨λ _=>⟨Int.le_refl _,by omega,by omega,hsz⟩,?_⟩
  ((conv=>whnf); repeat' (refine Z rfl ?_; conv=>whnf))
  repeat' ((first | (intro hlq; (try simp only [SL] at hlq)) | refine Ks ?_ | refine Kq ?_ | refine Kt ?_ | refine Ka ?_ | refine Kb ?_ | refine Kc (hd:=rfl) (e:=?_) | refine Kc (hd:=d7 _) (e:=?_) | refine Kd (e:=?_) | refine Kl rfl ?_ | fail) <;> ((conv=>whnf); repeat' (refine Z rfl ?_; conv=>whnf)))
  have hdr : List.drop (Int.toNat 0) (List.take ((p.length : Int) + 1).toNat (L.map tkC)) = (p ++ [x]).map tkC:=by
    show List.take ((p.length : Int) + 1).toNat _ = _
    rw [show ((p.length : Int) + 1).toNat = p.length + 1 by omega,<- List.map_take,hP1]
  have hsz1 : ∀ ds : List D,ds ∈ (p ++ [x]).map tkC -> ds.length = 3:=λ ds hds=>by obtain ⟨y,_,rfl⟩:=List.mem_map.1 hds; rfl
  have hln : ((p ++ [x]).map tkC).length = p.length + 1:=by simp
  have hlo : ((toks oth 0).map tkC).length = (toks oth 0).length:=List.length_map ..
  rw [hdr]
  refine ⟨hsz1,?_⟩
  ((conv=>whnf); repeat' (refine Z rfl ?_; conv=>whnf))
  repeat' ((first | (intro hlq; (try simp only [SL] at hlq)) | refine Ks ?_ | refine Kq ?_ | refine Kt ?_ | refine Ka ?_ | refine Kb ?_ | refine Kc (hd:=rfl) (e:=?_) | refine Kc (hd:=d7 _) (e:=?_) | refine Kd (e:=?_) | refine Kl rfl ?_ | fail) <;> ((conv=>whnf); repeat' (refine Z rfl ?_; conv=>whnf)))
  refine ⟨⟨λ _ _=>(by rw [hln]; show ([] : List (List D)).length + (p.length + 1) <= _ /\ (([] : List (List D)).length + (p.length + 1)) * 32 <= _; simp only [List.length_nil]; omega),λ ds h=>by cases h⟩,?_⟩
  ((conv=>whnf); repeat' (refine Z rfl ?_; conv=>whnf))
  repeat' ((first | (intro hlq; (try simp only [SL] at hlq)) | refine Ks ?_ | refine Kq ?_ | refine Kt ?_ | refine Ka ?_ | refine Kb ?_ | refine Kc (hd:=rfl) (e:=?_) | refine Kc (hd:=d7 _) (e:=?_) | refine Kd (e:=?_) | refine Kl rfl ?_ | fail) <;> ((conv=>whnf); repeat' (refine Z rfl ?_; conv=>whnf)))
  refine ⟨hszo,?_⟩
  ((conv=>whnf); repeat' (refine Z rfl ?_; conv=>whnf))
  repeat' ((first | (intro hlq; (try simp only [SL] at hlq)) | refine Ks ?_ | refine Kq ?_ | refine Kt ?_ | refine Ka ?_ | refine Kb ?_ | refine Kc (hd:=rfl) (e:=?_) | refine Kc (hd:=d7 _) (e:=?_) | refine Kd (e:=?_) | refine Kl rfl ?_ | fail) <;> ((conv=>whnf); repeat' (refine Z rfl ?_; conv=>whnf)))
  refine ⟨λ _ _=>(by rw [List.length_append,hln,hlo]; simp only [List.length_nil]; omega),?_⟩
  ((conv=>whnf); repeat' (refine Z rfl ?_; conv=>whnf))
  repeat' ((first | (intro hlq; (try simp only [SL] at hlq)) | refine Ks ?_ | refine Kq ?_ | refine Kt ?_ | refine Ka ?_ | refine Kb ?_ | refine Kc (hd:=rfl) (e:=?_) | refine Kc (hd:=d7 _) (e:=?_) | refine Kd (e:=?_) | refine Kl rfl ?_ | fail) <;> ((conv=>whnf); repeat' (refine Z rfl ?_; conv=>whnf)))
  refine Meets.k hj ?_
  ((conv=>whnf); repeat' (refine Z rfl ?_; conv=>whnf))
  repeat' ((first | (intro hlq; (try simp only [SL] at hlq)) | refine Ks ?_ | refine Kq ?_ | refine Kt ?_ | refine Ka ?_ | refine Kb ?_ | refine Kc (hd:=rfl) (e:=?_) | refine Kc (hd:=d7 _) (e:=?_) | refine Kd (e:=?_) | refine Kl rfl ?_ | fail) <;> ((conv=>whnf); repeat' (refine Z rfl ?_; conv=>whnf)))
  have q1 : e = 2 \/ e = 0:=hc.imp_right (·.1)
  have f2 : e = 0 -> p.length < (toks b 0).length /\ (m3 b).2.2 = c2:=λ h=>by
    rcases hc with h' | ⟨_,_,p',t',q',h1,h2,h3⟩
    . omega
    . rw [h1,h3]; exact ⟨by simp [h2],rfl⟩
  have f3 : Nonempty (PLift (e = 0 -> ∃ t',(toks b 0)[p.length]? = some t' /\ (m3 b).2.1 = t'.at_)):=⟨⟨λ h=>by
    rcases hc with h' | ⟨_,_,p',t',q',h1,h2,h3⟩
    . omega
    . refine ⟨t',?_,by rw [h3]⟩
      rw [h1,<- h2,List.getElem?_append_right (Nat.le_refl _),Nat.sub_self]; rfl⟩⟩
  clear hj hc hdr hsz hsz1 hszo hln hlo hmL hmap
  have hbt : ((toks b 0).map tkC).length = (toks b 0).length:=List.length_map ..
  repeat' ((first | (intro hlq; (try simp only [SL] at hlq)) | refine Meets.k (hk3) ?_ | refine Meets.k (hk1) ?_ | refine Ks ?_ | refine Kq ?_ | refine Kt ?_ | ((refine Kh (λ hb=>?_) λ hb=>?_) <;> (try simp only [BL] at hb)) | refine Ka ?_ | refine Kb ?_ | refine Kc (hd:=rfl) (e:=?_) | refine Kc (hd:=d7 _) (e:=?_) | refine Kd (e:=?_) | refine Kl rfl ?_ | fail) <;> ((conv=>whnf); repeat' (refine Z rfl ?_; conv=>whnf)))
  all_goals first
    | exact Done.mk rfl
    | exact absurd True.intro (by assumption)
    | (exfalso; omega)
    | (exfalso; have:=f2 (by omega); omega)
    | (refine ⟨congrArg bD ?_⟩; simp only [decide_eq_true_eq,Bool.or_eq_true]; omega)
    | skip
  have hz : e = 0:=by omega
  obtain ⟨⟨f4⟩⟩:=f3
  obtain ⟨t',ht,hw⟩:=f4 hz
  have g2:=(f2 hz).1
  have e2 : (toks b 0)[p.length] = t':=by
    rw [List.getElem?_eq_getElem g2] at ht
    exact Option.some.inj ht
  refine ⟨congrArg bD ?_⟩
  exact decide_eq_true (by rw [e2]; exact hw)
end Go.Proofs.YtaopegkpjhkooaaGreatDoor.Dx
