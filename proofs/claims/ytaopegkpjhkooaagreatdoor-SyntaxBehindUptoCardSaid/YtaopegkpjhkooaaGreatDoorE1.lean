/- Chapter 06: the parser's smallest functions. -/
import Derived.Test.YtaopegkpjhkooaaGreatDoorDy
import Derived.Test.YtaopegkpjhkooaaGreatDoorDx
import Derived.Test.YtaopegkpjhkooaaGreatDoorDw
import Derived.Lib.AtoiAllCases
set_option linter.all false
namespace Go.Proofs.YtaopegkpjhkooaaGreatDoor.Dx
open Go Go.RowKit
set_option maxRecDepth 100000
set_option maxHeartbeats 16000000
abbrev rrB (u : Nat -> Value) : List Base:=[t6 (u 0),t6 (u 1),t6 (u 2),t6 (u 3),t6 (u 4),t6 (u 5),t6 (u 6),t6 (u 7),t6 (u 8),t6 (u 9),t6 (u 10),t6 (u 11),t6 (u 12),t6 (u 13),t6 (u 14),t6 (u 15)]
abbrev psO (ts : List Tk) (u : Nat -> Value) : List (Nat × Blk):=[(5000,.box (.d (.sl (ts.map tkC)) :: rrB u) 133)]
def RdO {α : Type} (f : α -> D) (r : Rs α) (u : Nat -> Value) (o : Out) (O' : List (Nat × Blk)) : Prop:=match r with
 | .ok a ts=>o = .ret (.d (f a)) /\ O' = psO ts u
 | .er a e=>∃ ts',o = .pan (.iface 130 (.agg [iD (a : Int),iD e])) /\ O' = psO ts' u
 | .out=>False
theorem KT {t : Tk} {r : List Tk} {E : List D -> Prop} (e : E (tkC t)) : ∃ ds,(0 <= (0 : Int) /\ ((t :: r).map tkC)[(0 : Int).toNat]? = some ds /\ ds.length = 3) /\ E ds:=⟨tkC t,⟨Int.le_refl _,rfl,rfl⟩,e⟩
theorem E1 (t : Tk) (r : List Tk) (u : Nat -> Value) : MeetsR Tryz.prog 55 [.loc 5000 0] (psO (t :: r) u) λ o O'=>o = .ret (.d (.agg (tkC t))) /\ O' = psO (t :: r) u:=by
 refine i6 tok {} Tryz.func55 rfl (by kernel_rfl) Tryz.ntmps55 (by simp) λ B0 W0 V0 lent g0=>?_
 ((conv=>whnf);repeat'(refine Z rfl ?_;conv=>whnf))
 refine KT ?_
 ((conv=>whnf);repeat'(refine Z rfl ?_;conv=>whnf))
 refine ⟨psO (t :: r) u,_,?_,⟨rfl,rfl⟩⟩
 repeat' (first | exact True.intro | exact rfl | refine And.intro ?_ ?_)
theorem K0 (t : Tk) (r : List Tk) (u : Nat -> Value) (e : Int) : MeetsR Tryz.prog 56 [.loc 5000 0,.d (iD e)] (psO (t :: r) u) λ o O'=>o = .pan (.iface 130 (.agg [iD (t.at_ : Int),iD e])) /\ O' = psO (t :: r) u:=by
 refine i6 tok {rs:=[5]} Tryz.func56 rfl (by kernel_rfl) Tryz.ntmps56 (by simp) λ B0 W0 V0 lent g0=>?_
 ((conv=>whnf);repeat'(refine Y {rs:=[5]} rfl ?_;conv=>whnf))
 refine ⟨psO (t :: r) u,_,⟨?_,?_⟩,(E1 t r u).mono ?_⟩
 . exact Kr
 . exact Kr
 rintro _ O' ⟨rfl,rfl⟩
 ((conv=>whnf);repeat'(refine Y {rs:=[5]} rfl ?_;conv=>whnf))
 refine ⟨psO (t :: r) u,⟨?_,?_⟩,⟨rfl,rfl⟩⟩
 . exact Kr
 . exact Kr
theorem b9R (ts : List Tk) : ∀ ds ∈ ts.map tkC,ds.length = 3:=λ ds hd=>by obtain ⟨y,_,rfl⟩:=List.mem_map.1 hd; rfl
theorem a5E (t : Tk) (r : List Tk) (u : Nat -> Value) : MeetsR Tryz.prog 61 [.loc 5000 0] (psO (t :: r) u) λ o O'=>o = .ret (.d (.agg (tkC t))) /\ O' = psO r u:=by
 refine i6 tok {} Tryz.func61 rfl (by kernel_rfl) Tryz.ntmps61 (by simp) λ B0 W0 V0 lent g0=>?_
 ((conv=>whnf);repeat'(refine Z rfl ?_;conv=>whnf))
 refine KT ?_
 ((conv=>whnf);repeat'(refine Z rfl ?_;conv=>whnf))
 refine ⟨λ _=>⟨by decide,by rw [List.length_map,List.length_cons]; omega,Int.le_refl _,b9R _⟩,?_⟩
 ((conv=>whnf);repeat'(refine Z rfl ?_;conv=>whnf))
 have e : List.drop (Int.toNat 1) (List.take (((t :: r).map tkC).length : Int).toNat ((t :: r).map tkC)) = r.map tkC:=by
  rw [Int.toNat_natCast,List.take_length]; rfl
 refine ⟨psO r u,_,?_,⟨rfl,rfl⟩⟩
 repeat' (first | exact True.intro | exact rfl | refine And.intro ?_ ?_ | (exact congrArg D.sl e) | (exact congrArg D.sl e.symm) | (exact e) | (exact e.symm))
theorem a4n (t : Tk) (r : List Tk) (u : Nat -> Value) (w : List UInt8) : MeetsR Tryz.prog 63 [.loc 5000 0,.d (.str w)] (psO (t :: r) u) λ o O'=>o = .ret (.d (bD (isW w (t :: r)))) /\ O' = psO (t :: r) u:=by
 refine i6 tok {rs:=[7]} Tryz.func63 rfl (by kernel_rfl) Tryz.ntmps63 (by simp) λ B0 W0 V0 lent g0=>?_
 ((conv=>whnf);repeat'(refine Y {rs:=[7]} rfl ?_;conv=>whnf))
 refine ⟨psO (t :: r) u,_,⟨?_,?_⟩,(E1 t r u).mono ?_⟩
 . exact Kr
 . exact Kr
 rintro _ O' ⟨rfl,rfl⟩
 have e : isW w (t :: r) = ((decide (t.kind = 1) || decide (t.kind = 5)) && decide (t.text = w)):=rfl
 ((conv=>whnf);repeat'(refine Y {rs:=[7]} rfl ?_;conv=>whnf))
 repeat' ((first | (intro hlq; (try simp only [SL] at hlq)) | refine Ks ?_ | refine Kq ?_ | refine Kt ?_ | ((refine Kh (λ hb=>?_) λ hb=>?_) <;> (try simp only [BL] at hb)) | refine Ka ?_ | refine Kb ?_ | refine Kc (hd:=rfl) (e:=?_) | refine Kc (hd:=d7 _) (e:=?_) | refine Kd (e:=?_) | refine Kl rfl ?_ | fail) <;> ((conv=>whnf);repeat'(refine Y {rs:=[7]} rfl ?_;conv=>whnf)))
 . rw [decide_eq_true (by omega : t.kind = 1),Bool.true_or,Bool.true_and] at e
   refine ⟨psO (t :: r) u,_,?_,⟨by rw [e],rfl⟩⟩
   repeat' (first | exact True.intro | exact rfl | refine And.intro ?_ ?_)
 . rw [decide_eq_true (by omega : t.kind = 5),Bool.or_true,Bool.true_and] at e
   refine ⟨psO (t :: r) u,_,?_,⟨by rw [e],rfl⟩⟩
   repeat' (first | exact True.intro | exact rfl | refine And.intro ?_ ?_)
 . rw [decide_eq_false (by omega : ¬ t.kind = 1),decide_eq_false (by omega : ¬ t.kind = 5),Bool.or_false,Bool.false_and] at e
   refine ⟨psO (t :: r) u,.d (bD false),?_,⟨by rw [e],rfl⟩⟩
   repeat' (first | exact True.intro | exact rfl | refine And.intro ?_ ?_)
theorem a3O (t : Tk) (r : List Tk) (u : Nat -> Value) (w : List UInt8) : MeetsR Tryz.prog 66 [.loc 5000 0,.d (.str w)] (psO (t :: r) u) λ o O'=>o = .ret (.d (bD (isW w (t :: r)))) /\ O' = psO (if isW w (t :: r) then r else t :: r) u:=by
 refine i6 tok {rs:=[7,10]} Tryz.func66 rfl (by kernel_rfl) Tryz.ntmps66 (by simp) λ B0 W0 V0 lent g0=>?_
 ((conv=>whnf);repeat'(refine Y {rs:=[7,10]} rfl ?_;conv=>whnf))
 refine ⟨psO (t :: r) u,_,⟨?_,?_⟩,(a4n t r u w).mono ?_⟩
 . exact Kr
 . exact Kr
 rintro _ O' ⟨rfl,rfl⟩
 cases h : isW w (t :: r) with
 | false =>
   ((conv=>whnf);repeat'(refine Y {rs:=[7,10]} rfl ?_;conv=>whnf))
   repeat' ((first | (intro hlq; (try simp only [SL] at hlq)) | refine Ks ?_ | refine Kq ?_ | refine Kt ?_ | ((refine Kh (λ hb=>?_) λ hb=>?_) <;> (try simp only [BL] at hb)) | refine Ka ?_ | refine Kb ?_ | refine Kc (hd:=rfl) (e:=?_) | refine Kc (hd:=d7 _) (e:=?_) | refine Kd (e:=?_) | refine Kl rfl ?_ | fail) <;> ((conv=>whnf);repeat'(refine Y {rs:=[7,10]} rfl ?_;conv=>whnf)))
   . refine ⟨psO (t :: r) u,.d (bD false),?_,⟨rfl,rfl⟩⟩
     repeat' (first | exact True.intro | exact rfl | refine And.intro ?_ ?_)
   . exact absurd hb (by decide)
 | true =>
   ((conv=>whnf);repeat'(refine Y {rs:=[7,10]} rfl ?_;conv=>whnf))
   repeat' ((first | (intro hlq; (try simp only [SL] at hlq)) | refine Ks ?_ | refine Kq ?_ | refine Kt ?_ | ((refine Kh (λ hb=>?_) λ hb=>?_) <;> (try simp only [BL] at hb)) | refine Ka ?_ | refine Kb ?_ | refine Kc (hd:=rfl) (e:=?_) | refine Kc (hd:=d7 _) (e:=?_) | refine Kd (e:=?_) | refine Kl rfl ?_ | fail) <;> ((conv=>whnf);repeat'(refine Y {rs:=[7,10]} rfl ?_;conv=>whnf)))
   . exact absurd hb (by decide)
   refine ⟨psO (t :: r) u,_,⟨?_,?_⟩,(a5E t r u).mono ?_⟩
   . exact Kr
   . exact Kr
   rintro _ O' ⟨rfl,rfl⟩
   ((conv=>whnf);repeat'(refine Y {rs:=[7,10]} rfl ?_;conv=>whnf))
   refine ⟨psO r u,.d (bD true),?_,⟨rfl,rfl⟩⟩
   repeat' (first | exact True.intro | exact rfl | refine And.intro ?_ ?_)
def EndsT (ts : List Tk) : Prop:=∃ i a,ts = i ++ [⟨6,[],a⟩]
theorem EndsT.cons {ts : List Tk} (h : EndsT ts) : ∃ t r,ts = t :: r:=by
 obtain ⟨i,a,rfl⟩:=h
 cases i with
 | nil=>exact ⟨_,_,rfl⟩
 | cons t r=>exact ⟨t,r ++ [⟨6,[],a⟩],rfl⟩
theorem EndsT.tail {t : Tk} {r : List Tk} (h : EndsT (t :: r)) (hk : t.kind ≠ 6) : EndsT r:=by
 obtain ⟨i,a,e⟩:=h
 cases i with
 | nil=>cases e; exact absurd rfl hk
 | cons t' i=>cases e; exact ⟨i,a,rfl⟩
theorem a8W {w : List UInt8} {t : Tk} {r : List Tk} (h : isW w (t :: r) = true) : t.kind = 1 \/ t.kind = 5:=by
 simp only [isW,Bool.and_eq_true,Bool.or_eq_true,decide_eq_true_eq] at h
 exact h.1
theorem EndsT.isW {w : List UInt8} {t : Tk} {r : List Tk} (h : EndsT (t :: r)) (hw : isW w (t :: r) = true) : EndsT r:=h.tail (by rcases a8W hw with e | e <;> omega)
def y8 : List (List UInt8) -> List Tk -> Rs Unit
 | [],ts=>.ok () ts
 | w :: ws,ts=>(f9 w ts).bind λ _ ts=>y8 ws ts
abbrev E6 : Cfg:={rs:=[14,17]}
theorem a5w (ws : List (List UInt8)) (ts : List Tk) (u : Nat -> Value) (he : EndsT ts) : MeetsR Tryz.prog 62 [.loc 5000 0,.d (.sl (ws.map E2))] (psO ts u) λ o O'=>RdO (λ _=>.tup []) (y8 ws ts) u o O':=by
 refine i6 tok E6 Tryz.func62 rfl (by kernel_rfl) Tryz.ntmps62 (by simp) λ B0 W0 V0 lent g0=>?_
 ((conv=>whnf);repeat'(refine Y E6 rfl ?_;conv=>whnf))
 repeat' ((first | (intro hlq; (try simp only [SL] at hlq)) | refine Ks ?_ | refine Kq ?_ | refine Kt ?_ | refine Ka ?_ | refine Kb ?_ | refine Kc (hd:=rfl) (e:=?_) | refine Kc (hd:=d7 _) (e:=?_) | refine Kd (e:=?_) | refine Kl rfl ?_ | fail) <;> ((conv=>whnf);repeat'(refine Y E6 rfl ?_;conv=>whnf)))
 refine m9 tok E6 [] (X:=Nat × List Tk) (λ s=>[(8,iB s.1)]) (λ s=>psO s.2 u) [] (λ s=>s.1 <= ws.length /\ EndsT s.2 /\ y8 ws ts = y8 (ws.drop s.1) s.2) (λ s=>ws.length - s.1) (0,ts) ?_
 ((conv=>whnf);repeat'(refine Y E6 rfl ?_;conv=>whnf))
 refine And.intro ?_ ⟨⟨by omega,he,rfl⟩,λ s hΦ=>?_⟩
 . exact Kr
 obtain ⟨i,ts'⟩:=s
 obtain ⟨hi,hen,heq⟩:=hΦ
 dsimp only at hi hen heq
 have hc:=hen.cons
 obtain ⟨t,r,rfl⟩:=hc
 ((conv=>whnf);repeat'(refine Y E6 rfl ?_;conv=>whnf))
 refine ⟨λ h1=>?_,λ h1=>?_⟩ <;> (try simp only [BL] at h1) <;> ((conv=>whnf);repeat'(refine Y E6 rfl ?_;conv=>whnf))
 . have h1' : i < ws.length:=by omega
   have hd : ws.drop i = ws[i] :: ws.drop (i + 1):=List.drop_eq_getElem_cons h1'
   rw [hd,y8,f9] at heq
   repeat' ((first | (intro hlq; (try simp only [SL] at hlq)) | refine Ks ?_ | refine Kq ?_ | refine Kt ?_ | refine Ka ?_ | refine Kb ?_ | refine Kc (hd:=rfl) (e:=?_) | refine Kc (hd:=a3x _) (e:=?_) | refine Kd (e:=?_) | refine Kl rfl ?_ | fail) <;> ((conv=>whnf);repeat'(refine Y E6 rfl ?_;conv=>whnf)))
   refine ⟨psO (t :: r) u,_,⟨?_,?_⟩,(a3O t r u ws[i]).mono ?_⟩
   . exact Kr
   . exact Kr
   rintro _ O' ⟨rfl,rfl⟩
   cases h : isW ws[i] (t :: r) with
   | false =>
     rw [h] at heq
     ((conv=>whnf);repeat'(refine Y E6 rfl ?_;conv=>whnf))
     repeat' ((first | (intro hlq; (try simp only [SL] at hlq)) | refine Ks ?_ | refine Kq ?_ | refine Kt ?_ | ((refine Kh (λ hb=>?_) λ hb=>?_) <;> (try simp only [BL] at hb)) | refine Ka ?_ | refine Kb ?_ | refine Kc (hd:=rfl) (e:=?_) | refine Kc (hd:=d7 _) (e:=?_) | refine Kd (e:=?_) | refine Kl rfl ?_ | fail) <;> ((conv=>whnf);repeat'(refine Y E6 rfl ?_;conv=>whnf)))
     . refine ⟨psO (t :: r) u,_,⟨?_,?_⟩,(K0 t r u 60).mono ?_⟩
       . exact Kr
       . exact Kr
       rintro _ O' ⟨rfl,rfl⟩
       ((conv=>whnf);repeat'(refine Y E6 rfl ?_;conv=>whnf))
       refine ⟨psO (t :: r) u,⟨?_,?_⟩,?_⟩
       . exact Kr
       . exact Kr
       rw [heq]
       exact ⟨_,rfl,rfl⟩
     . exact absurd hb (by decide)
   | true =>
     rw [h] at heq
     ((conv=>whnf);repeat'(refine Y E6 rfl ?_;conv=>whnf))
     repeat' ((first | (intro hlq; (try simp only [SL] at hlq)) | refine Ks ?_ | refine Kq ?_ | refine Kt ?_ | ((refine Kh (λ hb=>?_) λ hb=>?_) <;> (try simp only [BL] at hb)) | refine Ka ?_ | refine Kb ?_ | refine Kc (hd:=rfl) (e:=?_) | refine Kc (hd:=d7 _) (e:=?_) | refine Kd (e:=?_) | refine Kl rfl ?_ | fail) <;> ((conv=>whnf);repeat'(refine Y E6 rfl ?_;conv=>whnf)))
     . exact absurd hb (by decide)
     refine ⟨⟨(i + 1,r),?_,⟨by dsimp only; omega,hen.isW h,heq⟩,by dsimp only; omega⟩⟩
     repeat' (first | exact True.intro | exact rfl | refine And.intro ?_ ?_)
 . have hi' : i = ws.length:=by omega
   rw [hi',List.drop_length,y8] at heq
   ((conv=>whnf);repeat'(refine Y E6 rfl ?_;conv=>whnf))
   refine ⟨psO (t :: r) u,.d (.tup []),?_,?_⟩
   rotate_left 1
   . rw [heq]
     exact ⟨rfl,rfl⟩
   . exact Kr
theorem b3S (t : Tk) (r : List Tk) (u : Nat -> Value) (d : Int) : MeetsR Tryz.prog 64 [.loc 5000 0,.d (iD d)] (psO (t :: r) u) λ o O'=>RdO (λ _=>.tup []) (if 16 <= d then n6 2 (t :: r) else .ok () (t :: r)) u o O':=by
 refine i6 tok {rs:=[7]} Tryz.func64 rfl (by kernel_rfl) Tryz.ntmps64 (by simp) λ B0 W0 V0 lent g0=>?_
 ((conv=>whnf);repeat'(refine Y {rs:=[7]} rfl ?_;conv=>whnf))
 refine ⟨λ h=>?_,λ h=>?_⟩ <;> (try simp only [BL] at h) <;> ((conv=>whnf);repeat'(refine Y {rs:=[7]} rfl ?_;conv=>whnf))
 . rw [if_pos (by omega)]
   refine ⟨psO (t :: r) u,_,⟨?_,?_⟩,(K0 t r u 2).mono ?_⟩
   . exact Kr
   . exact Kr
   rintro _ O' ⟨rfl,rfl⟩
   ((conv=>whnf);repeat'(refine Y {rs:=[7]} rfl ?_;conv=>whnf))
   refine ⟨psO (t :: r) u,⟨?_,?_⟩,?_⟩
   . exact Kr
   . exact Kr
   exact ⟨_,rfl,rfl⟩
 . rw [if_neg (by omega)]
   refine ⟨psO (t :: r) u,.d (.tup []),?_,?_⟩
   rotate_left 1
   . exact ⟨rfl,rfl⟩
   . exact Kr
end Go.Proofs.YtaopegkpjhkooaaGreatDoor.Dx
/- Chapter 06: numbers. -/
namespace Go.Proofs.YtaopegkpjhkooaaGreatDoor.Dx
open Go Go.RowKit
set_option maxRecDepth 100000
set_option maxHeartbeats 16000000
theorem b3Z : ∀ (s : List UInt8) (acc : Nat),s.all g7 = true -> acc < 18446744073709551616 -> (s.foldl (λ a b=>10 * a + (b.toNat - 48)) acc < 18446744073709551616 /\ Lib.parseUint10 acc s = .ok (s.foldl (λ a b=>10 * a + (b.toNat - 48)) acc)) \/ (18446744073709551616 <= s.foldl (λ a b=>10 * a + (b.toNat - 48)) acc /\ Lib.parseUint10 acc s = .range):=by
 have grow : ∀ (s : List UInt8) (a : Nat),a <= s.foldl (λ a b=>10 * a + (b.toNat - 48)) a:=by
  intro s
  induction s with
  | nil=>intro a; exact Nat.le_refl _
  | cons c r ih=>intro a; rw [List.foldl_cons]; exact Nat.le_trans (by omega) (ih _)
 intro s
 induction s with
 | nil=>intro acc _ ha; exact .inl ⟨ha,rfl⟩
 | cons c r ih =>
   intro acc hd ha
   rw [List.all_cons,Bool.and_eq_true] at hd
   have hc : 48 <= c.toNat /\ c.toNat <= 57:=by
    have:=hd.1
    simp only [g7,Bool.and_eq_true,decide_eq_true_eq] at this
    omega
   have hm : 10 * acc + (c.toNat - 48) = acc * 10 + (c.toNat - 48):=by omega
   rw [List.foldl_cons,Lib.parseUint10,if_pos hc,hm]
   have g:=grow r (acc * 10 + (c.toNat - 48))
   by_cases h1 : 1844674407370955162 <= acc
   . rw [if_pos h1]
     exact .inr ⟨by omega,rfl⟩
   rw [if_neg h1]
   by_cases h2 : 18446744073709551616 <= acc * 10 + (c.toNat - 48)
   . rw [if_pos h2]
     exact .inr ⟨by omega,rfl⟩
   rw [if_neg h2]
   exact ih _ hd.2 (by omega)
theorem a8e {s : List UInt8} (hn : s ≠ []) (hd : s.all g7 = true) : Lib.atoiAll s = if numN s < 9223372036854775808 then .ok (numN s : Int) else .range:=by
 cases s with
 | nil=>exact absurd rfl hn
 | cons c r =>
   have hc : 48 <= c.toNat /\ c.toNat <= 57:=by
    rw [List.all_cons,Bool.and_eq_true] at hd
    have:=hd.1
    simp only [g7,Bool.and_eq_true,decide_eq_true_eq] at this
    omega
   have h:=b3Z (c :: r) 0 hd (by decide)
   rw [Lib.atoiAll_plain c r (by omega) (by omega),Lib.parseMag,if_neg (by simp)]
   unfold numN
   rcases h with ⟨h,e⟩ | ⟨h,e⟩
   . rw [e]
     by_cases h2 : (c :: r).foldl (λ a b=>10 * a + (b.toNat - 48)) 0 < 9223372036854775808
     . rw [if_pos h2]; simp only [Lib.signless]; rw [if_neg (by omega)]
     . rw [if_neg h2]; simp only [Lib.signless]; rw [if_pos (by omega)]
   . rw [e,if_neg (by omega)]; rfl
def a3Z (s : List UInt8) (d : D) : Prop:=match Lib.atoiAll s with
 | .ok v=>j7 .i64 v /\ d = .tup [iD v,.v .nilIface]
 | _=>∃ z,j7 .i64 z /\ d = .tup [iD z,.iface 243 .junk]
theorem Meets.below' {P : Program} {f : FuncId} {ds : List D} {E : D -> Prop} (hf : G8 P f)
 (h : ∀ V W xs,Sees V W -> Reps V xs ds -> Calls P f xs.toArray W λ e W'=>∃ v d,e = .returned v /\ Below W.heap.size W W' /\ Rep V v d /\ E d) : Meets P f ds E:=by
 refine ⟨⟨hf,λ γ V W xs h1 h2 h3 h4=>?_⟩⟩
 have hr : Reps V xs ds:=by
  refine ⟨by have:=h2.len; simpa using this.symm,λ i u d h5 h6=>?_⟩
  exact h2.get i (.d d) u (by simp [h6]) h5
 refine (h V W xs h1 hr).mono ?_
 rintro e W' ⟨v,d,rfl,hb,hv,hE⟩
 exact ⟨γ,V,.ret (.d d),[],hv,.of hb,.refl _ _ _,h1.below hb,λ n b h=>(by rw [j3] at h; cases h),λ n b h=>(by rw [j3] at h; cases h),λ n n' b b' h=>(by rw [j3] at h; cases h),
  λ _ _ _ _=>rfl,d,rfl,rfl,hE⟩
theorem b1W (s : List UInt8) (hs : s.length <= 281474976710656) : Meets Tryz.prog 125 [.str s] (a3Z s):=by
 refine Meets.below' ⟨Tryz.f125,_,Tryz.func125,rfl,by kernel_rfl⟩ λ V W xs hS hx=>?_
 obtain ⟨u,hu⟩ : ∃ u,xs = [u]:=by
  have:=hx.len
  match xs,this with
  | [u],_=>exact ⟨u,rfl⟩
 subst hu
 obtain ⟨rfl,hl⟩:=(hx.get 0 _ _ rfl rfl).str_inv
 have hl' : (⟨⟨s⟩⟩ : ByteArray).size <= 281474976710656:=hs
 obtain ⟨⟨_,⟨v4,h4,e4⟩,⟨v5,h5,e5⟩⟩,_⟩:=hS.lib
 unfold a3Z
 cases h : Lib.atoiAll s with
 | ok v =>
   have hb:=Lib.atoiAll_bounds h
   have hi : j7 .i64 v:=i64 (by omega) (by omega)
   refine (Tryz.strconv_Atoi_ok ⟨⟨s⟩⟩ (Nat.le_trans hl' (by decide)) v h W).mono ?_
   rintro e W' ⟨rfl,rfl | ⟨t,rfl⟩⟩
   . exact ⟨_,_,rfl,.refl _ _,a0Q (Rep.int hi) (.v _ ⟨rfl,λ _ _ e=>by cases e⟩),hi,rfl⟩
   . exact ⟨_,_,rfl,a7v W 5 t,a0Q (Rep.int hi) (.v _ ⟨rfl,λ _ _ e=>by cases e⟩),hi,rfl⟩
 | range =>
   have hb:=Lib.atoiSat_bounds s
   have hi : j7 .i64 (Lib.atoiSat s):=i64 (by omega) (by omega)
   refine (Tryz.strconv_Atoi_range ⟨⟨s⟩⟩ hl' h v5 W (hS.cell _ _ _ h5) e5).mono ?_
   rintro e W' ⟨N,rfl,_,_,hb⟩
   exact ⟨_,_,rfl,hb,a0Q (Rep.int hi) (.iface _ _ _ (.junk _)),_,hi,rfl⟩
 | _ =>
   have hi : j7 .i64 0:=i64 (by omega) (by omega)
   refine (Tryz.strconv_Atoi_syntax ⟨⟨s⟩⟩ hl' ⟨_,h.symm,λ v e=>(by cases e),λ e=>(by cases e)⟩ v4 W (hS.cell _ _ _ h4) e4).mono ?_
   rintro e W' ⟨N,rfl,_,_,hb⟩
   exact ⟨_,_,rfl,hb,a0Q (Rep.int hi) (.iface _ _ _ (.junk _)),0,hi,rfl⟩
theorem b2b (s p : List UInt8) : Meets Tryz.prog 126 [.str s,.str p] λ d=>d = bD (Lib.hasPrefix s p):=by
 refine Meets.below ⟨Tryz.f126,_,Tryz.func126,rfl,by kernel_rfl⟩ λ V W xs hS hx=>?_
 obtain ⟨u,w,rfl,h1,h2⟩:=hx.two
 obtain ⟨rfl,_⟩:=h1.str_inv
 obtain ⟨rfl,_⟩:=h2.str_inv
 refine (Tryz.strings_HasPrefix ⟨⟨s⟩⟩ ⟨⟨p⟩⟩ W).mono ?_
 rintro e W' ⟨rfl,rfl⟩
 exact ⟨_,rfl,.refl _ _,.b _⟩
def a0Y (t : Tk) : Prop:=t.text.length <= 1048576 /\ (t.kind = 2 -> t.text.head? = some 45 \/ (t.text ≠ [] /\ t.text.all g7 = true))
theorem b6M {t : Tk} (hk : t.kind = 2) (hh : Lib.hasPrefix t.text [45] = false) {v : Int} (hv : Lib.atoiAll t.text = .ok v) (hle : v <= 1125899906842624) (ht : a0Y t) : A4 t = some v:=by
 have hne : t.text.head? ≠ some 45:=by
  intro e
  cases h : t.text with
  | nil=>rw [h] at e; cases e
  | cons c r=>rw [h] at e hh; cases e; simp [Lib.hasPrefix] at hh
 rcases ht.2 hk with h | ⟨h1,h2⟩
 . exact absurd h hne
 rw [a8e h1 h2] at hv
 split at hv
 . cases hv
   exact if_pos ⟨hk,hne,hle⟩
 . cases hv
theorem a1I {t : Tk} (ht : a0Y t) (h : t.kind ≠ 2 \/ (∀ v,Lib.atoiAll t.text ≠ .ok v) \/ Lib.hasPrefix t.text [45] = true \/ ∃ v,Lib.atoiAll t.text = .ok v /\ 1125899906842624 < v) : A4 t = none:=by
 unfold A4
 rw [if_neg]
 rintro ⟨hk,hne,hle⟩
 rcases ht.2 hk with h' | ⟨h1,h2⟩
 . exact hne h'
 have e:=a8e h1 h2
 rw [if_pos (by omega)] at e
 rcases h with h | h | h | ⟨v,h,hv⟩
 . exact h hk
 . exact h _ e
 . refine hne ?_
   cases h3 : t.text with
   | nil=>rw [h3] at h; simp [Lib.hasPrefix] at h
   | cons c r=>rw [h3] at h; simp [Lib.hasPrefix] at h; simp [h]
 . rw [e] at h; cases h; omega
abbrev w5 : Cfg:={rs:=[7,31,33]}
theorem b6Q (t : Tk) (r : List Tk) (u : Nat -> Value) (ht : a0Y t) : MeetsR Tryz.prog 80 [.loc 5000 0] (psO (t :: r) u) λ o O'=>RdO iD (j2 (t :: r)) u o O':=by
 have hp : j2 (t :: r) = match A4 t with | some n=>.ok n r | none=>n6 60 (t :: r):=rfl
 have hfail : A4 t = none -> j2 (t :: r) = n6 60 (t :: r):=λ h=>by rw [hp,h]
 have hok : ∀ v,A4 t = some v -> j2 (t :: r) = .ok v r:=λ v h=>by rw [hp,h]
 have ha:=b1W t.text (Nat.le_trans ht.1 (by decide))
 have hh:=b2b t.text [45]
 refine i6 tok w5 Tryz.func80 rfl (by kernel_rfl) Tryz.ntmps80 (by simp) λ B0 W0 V0 lent g0=>?_
 ((conv=>whnf);repeat'(refine Y w5 rfl ?_;conv=>whnf))
 refine ⟨psO (t :: r) u,_,⟨?_,?_⟩,(E1 t r u).mono ?_⟩
 . exact Kr
 . exact Kr
 rintro _ O' ⟨rfl,rfl⟩
 ((conv=>whnf);repeat'(refine Y w5 rfl ?_;conv=>whnf))
 refine ha.mono ?_
 intro d hd
 unfold a3Z at hd
 cases hA : Lib.atoiAll t.text with
 | ok v =>
   rw [hA] at hd
   obtain ⟨hi,rfl⟩:=hd
   ((conv=>whnf);repeat'(refine Y w5 rfl ?_;conv=>whnf))
   repeat' ((first | (intro hlq; (try simp only [SL] at hlq)) | refine Ks ?_ | refine Kq ?_ | refine Kt ?_ | ((refine Kh (λ hb=>?_) λ hb=>?_) <;> (try simp only [BL] at hb)) | refine Ka ?_ | refine Kb ?_ | refine Kc (hd:=rfl) (e:=?_) | refine Kc (hd:=d7 _) (e:=?_) | refine Kd (e:=?_) | refine Kl rfl ?_ | fail) <;> ((conv=>whnf);repeat'(refine Y w5 rfl ?_;conv=>whnf)))
   all_goals try (exact absurd ‹true = false› (by decide))
   all_goals try (exact absurd ‹false = true› (by decide))
   . have hn:=a1I ht (.inl (by omega))
     refine ⟨psO (t :: r) u,_,⟨?_,?_⟩,(K0 t r u 60).mono ?_⟩
     . exact Kr
     . exact Kr
     rintro _ O' ⟨rfl,rfl⟩
     ((conv=>whnf);repeat'(refine Y w5 rfl ?_;conv=>whnf))
     refine ⟨psO (t :: r) u,⟨?_,?_⟩,?_⟩
     . exact Kr
     . exact Kr
     rw [hfail hn]
     exact ⟨_,rfl,rfl⟩
   have hk : t.kind = 2:=by omega
   refine hh.mono ?_
   rintro _ rfl
   cases hP : Lib.hasPrefix t.text [45] with
   | true =>
     have hn:=a1I ht (.inr (.inr (.inl hP)))
     ((conv=>whnf);repeat'(refine Y w5 rfl ?_;conv=>whnf))
     repeat' ((first | (intro hlq; (try simp only [SL] at hlq)) | refine Ks ?_ | refine Kq ?_ | refine Kt ?_ | ((refine Kh (λ hb=>?_) λ hb=>?_) <;> (try simp only [BL] at hb)) | refine Ka ?_ | refine Kb ?_ | refine Kc (hd:=rfl) (e:=?_) | refine Kc (hd:=d7 _) (e:=?_) | refine Kd (e:=?_) | refine Kl rfl ?_ | fail) <;> ((conv=>whnf);repeat'(refine Y w5 rfl ?_;conv=>whnf)))
     all_goals try (exact absurd ‹true = false› (by decide))
     all_goals try (exact absurd ‹false = true› (by decide))
     refine ⟨psO (t :: r) u,_,⟨?_,?_⟩,(K0 t r u 60).mono ?_⟩
     . exact Kr
     . exact Kr
     rintro _ O' ⟨rfl,rfl⟩
     ((conv=>whnf);repeat'(refine Y w5 rfl ?_;conv=>whnf))
     refine ⟨psO (t :: r) u,⟨?_,?_⟩,?_⟩
     . exact Kr
     . exact Kr
     rw [hfail hn]
     exact ⟨_,rfl,rfl⟩
   | false =>
     ((conv=>whnf);repeat'(refine Y w5 rfl ?_;conv=>whnf))
     repeat' ((first | (intro hlq; (try simp only [SL] at hlq)) | refine Ks ?_ | refine Kq ?_ | refine Kt ?_ | ((refine Kh (λ hb=>?_) λ hb=>?_) <;> (try simp only [BL] at hb)) | refine Ka ?_ | refine Kb ?_ | refine Kc (hd:=rfl) (e:=?_) | refine Kc (hd:=d7 _) (e:=?_) | refine Kd (e:=?_) | refine Kl rfl ?_ | fail) <;> ((conv=>whnf);repeat'(refine Y w5 rfl ?_;conv=>whnf)))
     all_goals try (exact absurd ‹true = false› (by decide))
     all_goals try (exact absurd ‹false = true› (by decide))
     . have hn:=a1I ht (.inr (.inr (.inr ⟨v,hA,by omega⟩)))
       refine ⟨psO (t :: r) u,_,⟨?_,?_⟩,(K0 t r u 60).mono ?_⟩
       . exact Kr
       . exact Kr
       rintro _ O' ⟨rfl,rfl⟩
       ((conv=>whnf);repeat'(refine Y w5 rfl ?_;conv=>whnf))
       refine ⟨psO (t :: r) u,⟨?_,?_⟩,?_⟩
       . exact Kr
       . exact Kr
       rw [hfail hn]
       exact ⟨_,rfl,rfl⟩
     have hn:=b6M hk hP hA (by omega) ht
     refine ⟨psO (t :: r) u,_,⟨?_,?_⟩,(a5E t r u).mono ?_⟩
     . exact Kr
     . exact Kr
     rintro _ O' ⟨rfl,rfl⟩
     ((conv=>whnf);repeat'(refine Y w5 rfl ?_;conv=>whnf))
     refine ⟨psO r u,.d (iD v),?_,?_⟩
     rotate_left 1
     . rw [hok v hn]
       exact ⟨rfl,rfl⟩
     . exact Kr
 | range =>
   rw [hA] at hd
   obtain ⟨z,hi,rfl⟩:=hd
   have hn:=a1I ht (.inr (.inl λ v h=>by rw [hA] at h; cases h))
   ((conv=>whnf);repeat'(refine Y w5 rfl ?_;conv=>whnf))
   repeat' ((first | (intro hlq; (try simp only [SL] at hlq)) | refine Ks ?_ | refine Kq ?_ | refine Kt ?_ | ((refine Kh (λ hb=>?_) λ hb=>?_) <;> (try simp only [BL] at hb)) | refine Ka ?_ | refine Kb ?_ | refine Kc (hd:=rfl) (e:=?_) | refine Kc (hd:=d7 _) (e:=?_) | refine Kd (e:=?_) | refine Kl rfl ?_ | fail) <;> ((conv=>whnf);repeat'(refine Y w5 rfl ?_;conv=>whnf)))
   all_goals try (exact absurd ‹true = false› (by decide))
   all_goals try (exact absurd ‹false = true› (by decide))
   . refine ⟨psO (t :: r) u,_,⟨?_,?_⟩,(K0 t r u 60).mono ?_⟩
     . exact Kr
     . exact Kr
     rintro _ O' ⟨rfl,rfl⟩
     ((conv=>whnf);repeat'(refine Y w5 rfl ?_;conv=>whnf))
     refine ⟨psO (t :: r) u,⟨?_,?_⟩,?_⟩
     . exact Kr
     . exact Kr
     rw [hfail hn]
     exact ⟨_,rfl,rfl⟩
   . refine ⟨psO (t :: r) u,_,⟨?_,?_⟩,(K0 t r u 60).mono ?_⟩
     . exact Kr
     . exact Kr
     rintro _ O' ⟨rfl,rfl⟩
     ((conv=>whnf);repeat'(refine Y w5 rfl ?_;conv=>whnf))
     refine ⟨psO (t :: r) u,⟨?_,?_⟩,?_⟩
     . exact Kr
     . exact Kr
     rw [hfail hn]
     exact ⟨_,rfl,rfl⟩
 | _ =>
   rw [hA] at hd
   obtain ⟨z,hi,rfl⟩:=hd
   have hn:=a1I ht (.inr (.inl λ v h=>by rw [hA] at h; cases h))
   ((conv=>whnf);repeat'(refine Y w5 rfl ?_;conv=>whnf))
   repeat' ((first | (intro hlq; (try simp only [SL] at hlq)) | refine Ks ?_ | refine Kq ?_ | refine Kt ?_ | ((refine Kh (λ hb=>?_) λ hb=>?_) <;> (try simp only [BL] at hb)) | refine Ka ?_ | refine Kb ?_ | refine Kc (hd:=rfl) (e:=?_) | refine Kc (hd:=d7 _) (e:=?_) | refine Kd (e:=?_) | refine Kl rfl ?_ | fail) <;> ((conv=>whnf);repeat'(refine Y w5 rfl ?_;conv=>whnf)))
   all_goals try (exact absurd ‹true = false› (by decide))
   all_goals try (exact absurd ‹false = true› (by decide))
   . refine ⟨psO (t :: r) u,_,⟨?_,?_⟩,(K0 t r u 60).mono ?_⟩
     . exact Kr
     . exact Kr
     rintro _ O' ⟨rfl,rfl⟩
     ((conv=>whnf);repeat'(refine Y w5 rfl ?_;conv=>whnf))
     refine ⟨psO (t :: r) u,⟨?_,?_⟩,?_⟩
     . exact Kr
     . exact Kr
     rw [hfail hn]
     exact ⟨_,rfl,rfl⟩
   . refine ⟨psO (t :: r) u,_,⟨?_,?_⟩,(K0 t r u 60).mono ?_⟩
     . exact Kr
     . exact Kr
     rintro _ O' ⟨rfl,rfl⟩
     ((conv=>whnf);repeat'(refine Y w5 rfl ?_;conv=>whnf))
     refine ⟨psO (t :: r) u,⟨?_,?_⟩,?_⟩
     . exact Kr
     . exact Kr
     rw [hfail hn]
     exact ⟨_,rfl,rfl⟩
end Go.Proofs.YtaopegkpjhkooaaGreatDoor.Dx
