/- Chapter 06: what a step sorts by; names. -/
import Derived.Test.YtaopegkpjhkooaaGreatDoorE1
set_option linter.all false
namespace Go.Proofs.YtaopegkpjhkooaaGreatDoor.Dx
open Go Go.RowKit
set_option maxRecDepth 100000
set_option maxHeartbeats 16000000
theorem a7U (t : Tk) (r : List Tk) (u : Nat -> Value) : MeetsR Tryz.prog 60 [.loc 5000 0] (psO (t :: r) u) λ o O'=>o = .ret (.d (.tup [iD ((y6 (t :: r)).getD 0),bD (y6 (t :: r)).isSome])) /\ O' = psO (t :: r) u:=by
 have hc : y6 (t :: r) = if t.kind = 1 then (critW.find? λ p=>p.1 == t.text).map (·.2) else none:=rfl
 refine i6 tok {rs:=[5,9]} Tryz.func60 rfl (by kernel_rfl) Tryz.ntmps60 (by simp) λ B0 W0 V0 lent g0=>?_
 ((conv=>whnf);repeat'(refine Y {rs:=[5,9]} rfl ?_;conv=>whnf))
 refine ⟨psO (t :: r) u,_,⟨?_,?_⟩,(E1 t r u).mono ?_⟩
 . exact Kr
 . exact Kr
 rintro _ O' ⟨rfl,rfl⟩
 ((conv=>whnf);repeat'(refine Y {rs:=[5,9]} rfl ?_;conv=>whnf))
 refine ⟨λ hk=>?_,λ hk=>?_⟩ <;> (try simp only [BL] at hk) <;> ((conv=>whnf);repeat'(refine Y {rs:=[5,9]} rfl ?_;conv=>whnf))
 . rw [if_neg (by omega)] at hc
   rw [hc]
   refine ⟨psO (t :: r) u,.d (.tup [iD 0,bD false]),?_,⟨rfl,rfl⟩⟩
   repeat' (first | exact True.intro | exact rfl | refine And.intro ?_ ?_)
 rw [if_pos (by omega)] at hc
 refine ⟨psO (t :: r) u,_,⟨?_,?_⟩,(E1 t r u).mono ?_⟩
 . exact Kr
 . exact Kr
 rintro _ O' ⟨rfl,rfl⟩
 ((conv=>whnf);repeat'(refine Y {rs:=[5,9]} rfl ?_;conv=>whnf))
 repeat' ((first | (intro hlq; (try simp only [SL] at hlq)) | refine Ks ?_ | refine Kq ?_ | refine Kt ?_ | ((refine Kh (λ hb=>?_) λ hb=>?_) <;> (try simp only [BL] at hb)) | refine Ka ?_ | refine Kb ?_ | refine Kc (hd:=rfl) (e:=?_) | refine Kc (hd:=d7 _) (e:=?_) | refine Kd (e:=?_) | refine Kl rfl ?_ | fail) <;> ((conv=>whnf);repeat'(refine Y {rs:=[5,9]} rfl ?_;conv=>whnf)))
 iterate 5
  rotate_left 1
 . rename_i h1 h2 h3 h4
   have e : y6 (t :: r) = none:=by
    rw [hc]
    have k : ∀ {w : List UInt8},¬ t.text = w -> (w == t.text) = false:=λ h=>beq_eq_false_iff_ne.2 (Ne.symm h)
    simp only [critW,List.find?,k h1,k h2,k h3,k h4,k hb,Option.map_none]
   rw [e]
   refine ⟨psO (t :: r) u,.d (.tup [iD 0,bD false]),?_,⟨rfl,rfl⟩⟩
   repeat' (first | exact True.intro | exact rfl | refine And.intro ?_ ?_)
 . have e : y6 (t :: r) = some 1:=by rw [hc,hb]; rfl
   rw [e]
   refine ⟨psO (t :: r) u,.d (.tup [iD 1,bD true]),?_,⟨rfl,rfl⟩⟩
   repeat' (first | exact True.intro | exact rfl | refine And.intro ?_ ?_)
 . have e : y6 (t :: r) = some 2:=by rw [hc,hb]; rfl
   rw [e]
   refine ⟨psO (t :: r) u,.d (.tup [iD 2,bD true]),?_,⟨rfl,rfl⟩⟩
   repeat' (first | exact True.intro | exact rfl | refine And.intro ?_ ?_)
 . have e : y6 (t :: r) = some 3:=by rw [hc,hb]; rfl
   rw [e]
   refine ⟨psO (t :: r) u,.d (.tup [iD 3,bD true]),?_,⟨rfl,rfl⟩⟩
   repeat' (first | exact True.intro | exact rfl | refine And.intro ?_ ?_)
 . have e : y6 (t :: r) = some 4:=by rw [hc,hb]; rfl
   rw [e]
   refine ⟨psO (t :: r) u,.d (.tup [iD 4,bD true]),?_,⟨rfl,rfl⟩⟩
   repeat' (first | exact True.intro | exact rfl | refine And.intro ?_ ?_)
 . have e : y6 (t :: r) = some 5:=by rw [hc,hb]; rfl
   rw [e]
   refine ⟨psO (t :: r) u,.d (.tup [iD 5,bD true]),?_,⟨rfl,rfl⟩⟩
   repeat' (first | exact True.intro | exact rfl | refine And.intro ?_ ?_)
theorem b5j (t : Tk) (r : List Tk) (u : Nat -> Value) (hl : t.text.length <= 1048576) : MeetsR Tryz.prog 116 [.loc 5000 0] (psO (t :: r) u) λ o O'=>o = .ret (.d (bD (decide (t.kind = 1) && !kw t.text))) /\ O' = psO (t :: r) u:=by
 refine i6 tok {rs:=[5]} Tryz.func116 rfl (by kernel_rfl) Tryz.ntmps116 (by simp) λ B0 W0 V0 lent g0=>?_
 ((conv=>whnf);repeat'(refine Y {rs:=[5]} rfl ?_;conv=>whnf))
 refine ⟨psO (t :: r) u,_,⟨?_,?_⟩,(E1 t r u).mono ?_⟩
 . exact Kr
 . exact Kr
 rintro _ O' ⟨rfl,rfl⟩
 ((conv=>whnf);repeat'(refine Y {rs:=[5]} rfl ?_;conv=>whnf))
 repeat' ((first | (intro hlq; (try simp only [SL] at hlq)) | refine Ks ?_ | refine Kq ?_ | refine Kt ?_ | ((refine Kh (λ hb=>?_) λ hb=>?_) <;> (try simp only [BL] at hb)) | refine Ka ?_ | refine Kb ?_ | refine Kc (hd:=rfl) (e:=?_) | refine Kc (hd:=d7 _) (e:=?_) | refine Kd (e:=?_) | refine Kl rfl ?_ | fail) <;> ((conv=>whnf);repeat'(refine Y {rs:=[5]} rfl ?_;conv=>whnf)))
 . rw [decide_eq_true (by omega : t.kind = 1),Bool.true_and]
   refine (b2m t.text hl).mono ?_
   rintro _ rfl
   cases hK : kw t.text with
   | false =>
     ((conv=>whnf);repeat'(refine Y {rs:=[5]} rfl ?_;conv=>whnf))
     refine ⟨psO (t :: r) u,.d (bD true),?_,⟨rfl,rfl⟩⟩
     repeat' (first | exact True.intro | exact rfl | refine And.intro ?_ ?_)
   | true =>
     ((conv=>whnf);repeat'(refine Y {rs:=[5]} rfl ?_;conv=>whnf))
     refine ⟨psO (t :: r) u,.d (bD false),?_,⟨rfl,rfl⟩⟩
     repeat' (first | exact True.intro | exact rfl | refine And.intro ?_ ?_)
 . rw [decide_eq_false (by omega : ¬ t.kind = 1),Bool.false_and]
   refine ⟨psO (t :: r) u,.d (bD false),?_,⟨rfl,rfl⟩⟩
   repeat' (first | exact True.intro | exact rfl | refine And.intro ?_ ?_)
end Go.Proofs.YtaopegkpjhkooaaGreatDoor.Dx
/- Chapter 06: the parser's conditions. -/
namespace Go.Proofs.YtaopegkpjhkooaaGreatDoor.Dx
open Go Go.RowKit
set_option maxRecDepth 100000
set_option maxHeartbeats 16000000
theorem L6 (c : Cond) : Meets Tryz.prog 142 [c.d] λ d=>d = (r6 c).d:=by
 refine enter tok {} Tryz.func142 rfl (by kernel_rfl) Tryz.ntmps142 (by simp) λ B0 W0 V0 lent g0=>?_
 ((conv=>whnf);repeat'(refine Z rfl ?_;conv=>whnf))
 refine ⟨?_⟩
 show D.agg _ = D.agg _
 simp only [Cond.dc,List.map_cons,List.map_nil,Cond.cells_eq]
theorem A7 (v n : Int) : Meets Tryz.prog 143 [iD v,iD n] λ d=>d = (leC v n).d:=by
 refine enter tok {} Tryz.func143 rfl (by kernel_rfl) Tryz.ntmps143 (by simp) λ B0 W0 V0 lent g0=>?_
 ((conv=>whnf);repeat'(refine Z rfl ?_;conv=>whnf))
 refine ⟨?_⟩
 rfl
def QT (ts : List Tk) : Prop:=EndsT ts /\ ∀ t ∈ ts,a0Y t
theorem QT.tail {ts : List Tk} (h : QT ts) (hk : (hdT ts).kind ≠ 6) : QT ts.tail:=by
 have hc:=h.1.cons
 obtain ⟨t,r,rfl⟩:=hc
 exact ⟨h.1.tail hk,λ x hx=>h.2 x (List.mem_cons_of_mem _ hx)⟩
theorem QT.isW {w : List UInt8} {ts : List Tk} (h : QT ts) (hw : isW w ts = true) : QT ts.tail:=by
 have hc:=h.1.cons
 obtain ⟨t,r,rfl⟩:=hc
 exact h.tail (by rcases a8W hw with e | e <;> (show t.kind ≠ 6; omega))
def Rs.kp {α : Type} (r : Rs α) : Prop:=∀ a ts,r = .ok a ts -> QT ts
theorem m6 {α : Type} {a : α} {ts : List Tk} (h : QT ts) : (Rs.ok a ts).kp:=λ _ _ e=>by cases e; exact h
theorem E9 {α : Type} {a : Nat} {e : Int} : (Rs.er a e : Rs α).kp:=λ _ _ h=>by cases h
theorem I1 {α : Type} : (Rs.out : Rs α).kp:=λ _ _ h=>by cases h
theorem e7 {α β : Type} {r : Rs α} {f : α -> List Tk -> Rs β} (h : r.kp) (hf : ∀ a ts,QT ts -> (f a ts).kp) : (r.bind f).kp:=by
 cases r with
 | ok a ts=>exact hf a ts (h a ts rfl)
 | er a e=>exact E9
 | out=>exact I1
theorem j4 {w : List UInt8} {ts : List Tk} (h : QT ts) : (f9 w ts).kp:=by
 unfold f9
 split
 . rename_i hw; exact m6 (h.isW hw)
 . exact E9
theorem p7 {ts : List Tk} (h : QT ts) : (j2 ts).kp:=by
 unfold j2
 split
 . rename_i n hn
   refine m6 (h.tail λ e=>?_)
   unfold A4 at hn
   split at hn
   . rename_i hk; have:=hk.1; omega
   . cases hn
 . exact E9
theorem b7V {v : Int} {ts : List Tk} (h : QT ts) : (r7 v ts).kp:=by
 unfold r7
 repeat' split
 all_goals first | exact E9 | exact e7 (p7 (h.isW (by assumption))) λ _ _ h=>m6 h
theorem c0r {ts : List Tk} {v : Int} (h : QT ts) (hv : C3 ts = some v) : QT ts.tail:=by
 unfold C3 at hv
 repeat' split at hv
 all_goals first | exact h.isW (by assumption) | cases hv
theorem V6 : ∀ k : Nat,(∀ d ts,QT ts -> (l7 k d ts).kp) /\ (∀ d ts,QT ts -> (o9 k d ts).kp) /\ (∀ d l ts,QT ts -> (conjL k d l ts).kp) /\ (∀ d ts,QT ts -> (condP k d ts).kp) /\ (∀ d l ts,QT ts -> (condL k d l ts).kp)
 | 0=>⟨λ d ts h=>by rw [l7]; exact I1,λ d ts h=>by rw [o9]; exact I1,λ d l ts h=>by rw [conjL]; exact I1,λ d ts h=>by rw [condP]; exact I1,λ d l ts h=>by rw [condL]; exact I1⟩
 | k + 1=>by
   have ih:=V6 k
   obtain ⟨h1,h2,h3,h4,h5⟩:=ih
   refine ⟨λ d ts h=>?_,λ d ts h=>?_,λ d l ts h=>?_,λ d ts h=>?_,λ d l ts h=>?_⟩
   . rw [l7]
     split
     . exact E9
     split
     . exact e7 (h1 _ _ (h.isW (by assumption))) λ _ _ h=>m6 h
     split
     . exact e7 (h4 _ _ (h.isW (by assumption))) λ _ _ h=>e7 (j4 h) λ _ _ h=>m6 h
     split
     . exact E9
     . exact b7V (c0r h (by assumption))
   . rw [o9]; exact e7 (h1 _ _ h) λ _ _ h=>h3 _ _ _ h
   . rw [conjL]
     split
     . exact e7 (h1 _ _ (h.isW (by assumption))) λ _ _ h=>h3 _ _ _ h
     . exact m6 h
   . rw [condP]; exact e7 (h2 _ _ h) λ _ _ h=>h5 _ _ _ h
   . rw [condL]
     split
     . exact e7 (h2 _ _ (h.isW (by assumption))) λ _ _ h=>h5 _ _ _ h
     . exact m6 h
def RdC (f : Nat) (k : Nat) (P : Nat -> Nat -> List Tk -> Rs Cond) : Prop:=∀ (d : Nat) (ts : List Tk) (u : Nat -> Value),d <= 16 -> QT ts -> P k d ts ≠ .out -> MeetsR Tryz.prog f [.loc 5000 0,.d (iD d)] (psO ts u) λ o O'=>RdO Cond.d (P k d ts) u o O'
end Go.Proofs.YtaopegkpjhkooaaGreatDoor.Dx
/- Chapter 06: chains of conditions. -/
namespace Go.Proofs.YtaopegkpjhkooaaGreatDoor.Dx
open Go Go.RowKit
set_option maxRecDepth 100000
set_option maxHeartbeats 16000000
theorem E5 {α β : Type} {r : Rs α} {f : α -> List Tk -> Rs β} (h : r.bind f ≠ .out) : r ≠ .out:=λ e=>h (by rw [e]; rfl)
abbrev B9 : Cfg:={rs:=[14,18,22]}
theorem a7D (F : Nat) (K : Int) (w : List UInt8) (U : Nat -> Nat -> List Tk -> Rs Cond) (Lp : Nat -> Nat -> List Cond -> List Tk -> Rs Cond) (hL0 : ∀ d l ts,Lp 0 d l ts = .out)
 (hLs : ∀ k d l ts,Lp (k + 1) d l ts = if isW w ts then (U k d ts.tail).bind λ c ts=>Lp k d (l ++ [c]) ts else .ok (mkC K l) ts) (hkp : ∀ k d ts,QT ts -> (U k d ts).kp)
 (k d : Nat) (ts : List Tk) (u : Nat -> Value) (hd : d <= 16) (hk : k <= 1000000000) (ht : QT ts) (hu : ∀ j,j <= k -> RdC F j U) (hn : (U k d ts).bind (λ c ts=>Lp k d [c] ts) ≠ .out) :
 MeetsR Tryz.prog 57 [.loc 5000 0,.d (iD K),.d (.str w),.fn F [.loc 5000 0] [],.d (iD d)] (psO ts u) λ o O'=>RdO Cond.d ((U k d ts).bind (λ c ts=>Lp k d [c] ts)) u o O':=by
 have h1:=hu k (Nat.le_refl _) d ts u hd ht (E5 hn)
 have hq:=hkp k d ts ht
 refine i6 tok B9 Tryz.func57 rfl (by kernel_rfl) Tryz.ntmps57 (by simp) λ B0 W0 V0 lent g0=>?_
 ((conv=>whnf);repeat'(refine Y B9 rfl ?_;conv=>whnf))
 refine ⟨psO ts u,_,⟨?_,?_⟩,h1.mono ?_⟩
 . exact Kr
 . exact Kr
 intro o O' ho
 cases hU : U k d ts with
 | out=>rw [hU] at ho; exact ho.elim
 | er a e =>
   rw [hU] at ho
   obtain ⟨ts',rfl,rfl⟩:=ho
   ((conv=>whnf);repeat'(refine Y B9 rfl ?_;conv=>whnf))
   refine ⟨psO ts' u,⟨?_,?_⟩,?_⟩
   . exact Kr
   . exact Kr
   exact ⟨_,rfl,rfl⟩
 | ok c ts' =>
   rw [hU] at ho
   obtain ⟨rfl,rfl⟩:=ho
   ((conv=>whnf);repeat'(refine Y B9 rfl ?_;conv=>whnf))
   have hbd : (U k d ts).bind (λ c ts=>Lp k d [c] ts) = Lp k d [c] ts':=by rw [hU]; rfl
   rw [hbd] at hn
   refine m9 tok B9 [(.inl 11,11,26,4)] (X:=Nat × List Cond × List Tk) (λ s=>[(11,.own 11)]) (λ s=>(11,.sl ⟨26,4,s.2.1.map Cond.cells,true⟩) :: psO s.2.2 u) [] (λ s=>s.1 <= k /\ QT s.2.2 /\ Lp k d [c] ts' = Lp s.1 d s.2.1 s.2.2 /\ s.2.1.length + s.1 <= k + 1) (λ s=>s.1) (k,[c],ts') ?_
   ((conv=>whnf);repeat'(refine Y B9 rfl ?_;conv=>whnf))
   refine ⟨by simp,?_⟩
   ((conv=>whnf);repeat'(refine Y B9 rfl ?_;conv=>whnf))
   refine And.intro ?_ ⟨⟨Nat.le_refl _,hq _ _ hU,rfl,by simp; omega⟩,λ s hΦ=>?_⟩
   . repeat' (first | exact True.intro | exact rfl | refine And.intro ?_ ?_ | (exact (by simp only [List.map_cons,List.map_nil,Cond.cells_eq])))
   obtain ⟨j,l,ts2⟩:=s
   obtain ⟨hj,hq2,heq,hlen⟩:=hΦ
   dsimp only at hj hq2 heq hlen
   have hcc:=hq2.1.cons
   obtain ⟨t,r,rfl⟩:=hcc
   cases j with
   | zero=>rw [hL0] at heq; exact absurd heq hn
   | succ j =>
   rw [hLs] at heq
   ((conv=>whnf);repeat'(refine Y B9 rfl ?_;conv=>whnf))
   refine ⟨psO (t :: r) u,_,⟨?_,?_⟩,(a3O t r u w).mono ?_⟩
   . exact Kr
   . exact Kr
   rintro _ O' ⟨rfl,rfl⟩
   cases h : isW w (t :: r) with
   | false =>
     rw [h,if_neg (by decide)] at heq
     ((conv=>whnf);repeat'(refine Y B9 rfl ?_;conv=>whnf))
     repeat' ((first | (intro hlq; (try simp only [SL] at hlq)) | refine Ks ?_ | refine Kq ?_ | refine Kt ?_ | ((refine Kh (λ hb=>?_) λ hb=>?_) <;> (try simp only [BL] at hb)) | refine Ka ?_ | refine Kb ?_ | refine Kc (hd:=rfl) (e:=?_) | refine Kc (hd:=d7 _) (e:=?_) | refine Kd (e:=?_) | refine Kl rfl ?_ | fail) <;> ((conv=>whnf);repeat'(refine Y B9 rfl ?_;conv=>whnf)))
     all_goals try (exact absurd ‹true = false› (by decide))
     all_goals try (exact absurd ‹false = true› (by decide))
     . obtain ⟨x,rfl⟩ : ∃ x,l = [x]:=List.length_eq_one_iff.1 (by omega)
       refine ⟨x.dc,⟨Int.le_refl _,by simp only [List.map_cons,List.map_nil,Cond.cells_eq]; rfl,rfl⟩,?_⟩
       ((conv=>whnf);repeat'(refine Y B9 rfl ?_;conv=>whnf))
       refine ⟨psO (t :: r) u,.d x.d,?_,?_⟩
       rotate_left 1
       . rw [Rs.bind_ok,heq]
         exact ⟨rfl,rfl⟩
       . exact Kr
     . have hm : mkC K l = ⟨K,0,0,l⟩:=by
        unfold mkC
        split
        . simp at hb
        . rfl
       refine ⟨psO (t :: r) u,.d (⟨K,0,0,l⟩ : Cond).d,?_,?_⟩
       rotate_left 1
       . rw [Rs.bind_ok,heq,hm]
         exact ⟨rfl,rfl⟩
       . exact Kr
   | true =>
     rw [h,if_pos rfl] at heq
     ((conv=>whnf);repeat'(refine Y B9 rfl ?_;conv=>whnf))
     repeat' ((first | (intro hlq; (try simp only [SL] at hlq)) | refine Ks ?_ | refine Kq ?_ | refine Kt ?_ | ((refine Kh (λ hb=>?_) λ hb=>?_) <;> (try simp only [BL] at hb)) | refine Ka ?_ | refine Kb ?_ | refine Kc (hd:=rfl) (e:=?_) | refine Kc (hd:=d7 _) (e:=?_) | refine Kd (e:=?_) | refine Kl rfl ?_ | fail) <;> ((conv=>whnf);repeat'(refine Y B9 rfl ?_;conv=>whnf)))
     all_goals try (exact absurd ‹true = false› (by decide))
     all_goals try (exact absurd ‹false = true› (by decide))
     have hnn : U j d r ≠ .out:=E5 (by rw [heq] at hn; exact hn)
     have hq3:=hkp j d r (hq2.isW h)
     refine ⟨psO r u,_,⟨?_,?_⟩,(hu j (by omega) d r u hd (hq2.isW h) hnn).mono ?_⟩
     . exact Kr
     . exact Kr
     intro o O' ho
     cases hU2 : U j d r with
     | out=>rw [hU2] at ho; exact ho.elim
     | er a e =>
       rw [hU2] at ho
       obtain ⟨ts3,rfl,rfl⟩:=ho
       have h3 : Lp k d [c] ts' = .er a e:=by rw [heq,List.tail_cons,hU2]; rfl
       ((conv=>whnf);repeat'(refine Y B9 rfl ?_;conv=>whnf))
       refine ⟨psO ts3 u,⟨?_,?_⟩,?_⟩
       . exact Kr
       . exact Kr
       rw [Rs.bind_ok,h3]
       exact ⟨_,rfl,rfl⟩
     | ok c2 ts3 =>
       rw [hU2] at ho
       obtain ⟨rfl,rfl⟩:=ho
       have h3 : Lp k d [c] ts' = Lp j d (l ++ [c2]) ts3:=by rw [heq,List.tail_cons,hU2]; rfl
       ((conv=>whnf);repeat'(refine Y B9 rfl ?_;conv=>whnf))
       refine ⟨by simp,?_⟩
       ((conv=>whnf);repeat'(refine Y B9 rfl ?_;conv=>whnf))
       refine ⟨λ h1 h2=>?_,?_⟩
       . simp only [List.length_map,List.length_cons,List.length_nil]
         omega
       ((conv=>whnf);repeat'(refine Y B9 rfl ?_;conv=>whnf))
       refine ⟨⟨(j,l ++ [c2],ts3),?_,⟨by dsimp only; omega,hq3 _ _ hU2,h3,by dsimp only; simp only [List.length_append,List.length_cons,List.length_nil]; omega⟩,by dsimp only; omega⟩⟩
       repeat' (first | exact True.intro | exact rfl | refine And.intro ?_ ?_ | (exact (by simp only [List.map_append,List.map_cons,List.map_nil,Cond.cells_eq])))
end Go.Proofs.YtaopegkpjhkooaaGreatDoor.Dx
/- Chapter 06: conjunctions and conditions,from what stands below them. -/
namespace Go.Proofs.YtaopegkpjhkooaaGreatDoor.Dx
open Go Go.RowKit
set_option maxRecDepth 100000
set_option maxHeartbeats 16000000
theorem b3x (k : Nat) (hk : k <= 1000000000) (hu : ∀ j,j <= k -> RdC 111 j l7) : RdC 58 (k + 1) o9:=by
 intro d ts u hd hq hn
 have e : o9 (k + 1) d ts = (l7 k d ts).bind λ c ts=>conjL k d [c] ts:=by rw [o9]
 rw [e] at hn ⊢
 have hc:=a7D 111 2 [97,110,100] l7 conjL (λ d l ts=>by rw [conjL]) (λ k d l ts=>by rw [conjL]) (λ k=>(V6 k).1) k d ts u hd hk hq hu hn
 revert hc
 generalize (l7 k d ts).bind (λ c ts=>conjL k d [c] ts) = res
 intro hc
 refine i6 tok {rs:=[9]} Tryz.func58 rfl (by kernel_rfl) Tryz.ntmps58 (by simp) λ B0 W0 V0 lent g0=>?_
 ((conv=>whnf);repeat'(refine Y {rs:=[9]} rfl ?_;conv=>whnf))
 refine ⟨psO ts u,_,⟨?_,?_⟩,hc.mono ?_⟩
 . exact Kr
 . exact Kr
 intro o O' ho
 cases res with
 | out=>exact ho.elim
 | er a e =>
   obtain ⟨ts',rfl,rfl⟩:=ho
   ((conv=>whnf);repeat'(refine Y {rs:=[9]} rfl ?_;conv=>whnf))
   refine ⟨psO ts' u,⟨?_,?_⟩,?_⟩
   . exact Kr
   . exact Kr
   exact ⟨_,rfl,rfl⟩
 | ok c ts' =>
   obtain ⟨rfl,rfl⟩:=ho
   ((conv=>whnf);repeat'(refine Y {rs:=[9]} rfl ?_;conv=>whnf))
   refine ⟨psO ts' u,.d c.d,?_,⟨rfl,rfl⟩⟩
   repeat' (first | exact True.intro | exact rfl | refine And.intro ?_ ?_)
theorem b3w (k : Nat) (hk : k <= 1000000000) (hu : ∀ j,j <= k -> RdC 58 j o9) : RdC 28 (k + 1) condP:=by
 intro d ts u hd hq hn
 have e : condP (k + 1) d ts = (o9 k d ts).bind λ c ts=>condL k d [c] ts:=by rw [condP]
 rw [e] at hn ⊢
 have hc:=a7D 58 3 [111,114] o9 condL (λ d l ts=>by rw [condL]) (λ k d l ts=>by rw [condL]) (λ k=>(V6 k).2.1) k d ts u hd hk hq hu hn
 revert hc
 generalize (o9 k d ts).bind (λ c ts=>condL k d [c] ts) = res
 intro hc
 refine i6 tok {rs:=[9]} Tryz.func28 rfl (by kernel_rfl) Tryz.ntmps28 (by simp) λ B0 W0 V0 lent g0=>?_
 ((conv=>whnf);repeat'(refine Y {rs:=[9]} rfl ?_;conv=>whnf))
 refine ⟨psO ts u,_,⟨?_,?_⟩,hc.mono ?_⟩
 . exact Kr
 . exact Kr
 intro o O' ho
 cases res with
 | out=>exact ho.elim
 | er a e =>
   obtain ⟨ts',rfl,rfl⟩:=ho
   ((conv=>whnf);repeat'(refine Y {rs:=[9]} rfl ?_;conv=>whnf))
   refine ⟨psO ts' u,⟨?_,?_⟩,?_⟩
   . exact Kr
   . exact Kr
   exact ⟨_,rfl,rfl⟩
 | ok c ts' =>
   obtain ⟨rfl,rfl⟩:=ho
   ((conv=>whnf);repeat'(refine Y {rs:=[9]} rfl ?_;conv=>whnf))
   refine ⟨psO ts' u,.d c.d,?_,⟨rfl,rfl⟩⟩
   repeat' (first | exact True.intro | exact rfl | refine And.intro ?_ ?_)
end Go.Proofs.YtaopegkpjhkooaaGreatDoor.Dx
