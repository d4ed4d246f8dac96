/- Chapter 06: stopwatchlaw06.SyntaxTokens. -/
import Derived.Test.YtaopegkpjhkooaaGreatDoorEi
import Derived.Test.YtaopegkpjhkooaaGreatDoorEd
import Derived.Test.YtaopegkpjhkooaaGreatDoorE8
set_option linter.all false
namespace Go.Proofs.YtaopegkpjhkooaaGreatDoor.Dx
open Go Go.RowKit
set_option maxRecDepth 100000
set_option maxHeartbeats 16000000
theorem b9Q (l : List Tk) : (l.map Tk.z).map TkZ.cells = l.map tkC:=by
 rw [List.map_map]; rfl
theorem b1s {src : List UInt8} {t : Tk} (h : t ∈ toks src 0) : t.text.length <= src.length:=((a3N _ src 0 (Nat.le_refl _)).1 t h).1
theorem a9d {l : List Tk} (h : ∀ t ∈ l,tkB t.z = true) (a : Nat) (hn : l.length <= 1000000) (hl : ∀ t ∈ l,t.text.length <= 1048576) : Meets Tryz.prog 24 [.sl ((l ++ [eT a]).map tkC)] λ d=>d = .tup [.sl (d9 (R9 ((l ++ [eT a]).map Tk.z)).1),iD (R9 ((l ++ [eT a]).map Tk.z)).2]:=by
 have:=b2l B8 ((l ++ [eT a]).map Tk.z) (by simp only [List.length_map,List.length_append,List.length_singleton]; omega) (λ z hz=>by
  obtain ⟨t,ht,rfl⟩:=List.mem_map.1 hz
  rcases List.mem_append.1 ht with h | h
  . exact hl t h
  . rw [List.mem_singleton.1 h]; exact Nat.zero_le _)
 rw [b9Q] at this
 exact this
theorem a5g {l : List Tk} (h : ∀ t ∈ l,tkB t.z = true) (a : Nat) (hn : l.length <= 1000000) (hl : ∀ t ∈ l,t.text.length <= 1048576) (hj : (jt l).length <= 65536) : Meets Tryz.prog 24 [.sl ((l ++ [eT a]).map tkC)] λ d=>d = .tup [.sl (d9 (jt l)),iD 0]:=by
 have:=a9d h a hn hl
 rw [a9e h,if_neg (by omega)] at this
 exact this
theorem a5f {l : List Tk} (h : ∀ t ∈ l,tkB t.z = true) (a : Nat) (hn : l.length <= 1000000) (hl : ∀ t ∈ l,t.text.length <= 1048576) (hj : ¬ (jt l).length <= 65536) : Meets Tryz.prog 24 [.sl ((l ++ [eT a]).map tkC)] λ d=>d = .tup [.sl [],iD 2]:=by
 have:=a9d h a hn hl
 rw [a9e h,if_pos (by omega)] at this
 exact this
theorem b1n {src : List UInt8} (hl : src.length <= 65536) (hb : bads src 0 (-1) 0 = []) {i : List Tk} (hi : toks src 0 = i) : Meets Tryz.prog 23 [.sl (d9 src)] λ d=>d = .tup [.sl (i.map tkC),.sl [],iD 0]:=by
 have:=R2 B8 src hl
 rw [a0M,hb,hi] at this
 exact this
theorem b9S {src : List UInt8} (hl : src.length <= 65536) {x : Nat} {xs : List Nat} (hb : bads src 0 (-1) 0 = x :: xs) : Meets Tryz.prog 23 [.sl (d9 src)] λ d=>d = .tup [.sl ((toks src 0).map tkC),.sl (prC x :: xs.map prC),iD 0]:=by
 have:=R2 B8 src hl
 rw [a0M,hb] at this
 exact this
theorem b2o (src : List UInt8) (_ : src.length <= 1048576) : Meets Tryz.prog 6 [.sl (d9 src)] λ r=>r = bD true:=by
 have hs:=b0K
 by_cases hl : src.length <= 2000
 case neg =>
  refine enter tok {} Tryz.func6 rfl (by kernel_rfl) Tryz.ntmps6 (by simp) λ B0 W0 V0 lent g0=>?_
  ((conv=>whnf);repeat'(refine Z rfl ?_;conv=>whnf))
  refine Meets.k hs ?_
  ((conv=>whnf);repeat'(refine Z rfl ?_;conv=>whnf))
  refine ⟨λ h=>absurd h (by decide),λ _=>?_⟩
  ((conv=>whnf);repeat'(refine Z rfl ?_;conv=>whnf))
  repeat' ((first | (intro hlq; (try simp only [SL] at hlq)) | refine Ks ?_ | refine Kq ?_ | refine Kt ?_ | ((refine Kh (λ hb=>?_) λ hb=>?_) <;> (try simp only [BL] at hb)) | refine Ka ?_ | refine Kb ?_ | refine Kc (hd:=rfl) (e:=?_) | refine Kc (hd:=d7 _) (e:=?_) | refine Kd (e:=?_) | refine Kl rfl ?_ | fail) <;> ((conv=>whnf);repeat'(refine Z rfl ?_;conv=>whnf)))
  all_goals first
   | exact Done.mk rfl
   | (exfalso; omega)
   | trace_state
 have hl2 : src.length <= 65536:=by omega
 have hbl : (d9 src).length = src.length:=by simp [d9]
 cases hb : bads src 0 (-1) 0 with
 | cons x xs =>
   have a1:=b9S hl2 hb
   refine enter tok {} Tryz.func6 rfl (by kernel_rfl) Tryz.ntmps6 (by simp) λ B0 W0 V0 lent g0=>?_
   ((conv=>whnf);repeat'(refine Z rfl ?_;conv=>whnf))
   refine Meets.k hs ?_
   ((conv=>whnf);repeat'(refine Z rfl ?_;conv=>whnf))
   refine ⟨λ h=>absurd h (by decide),λ _=>?_⟩
   ((conv=>whnf);repeat'(refine Z rfl ?_;conv=>whnf))
   repeat' ((first | (intro hlq; (try simp only [SL] at hlq)) | refine Meets.k (a1) ?_ | refine Ks ?_ | refine Kq ?_ | refine Kt ?_ | ((refine Kh (λ hb=>?_) λ hb=>?_) <;> (try simp only [BL] at hb)) | refine Ka ?_ | refine Kb ?_ | refine Kc (hd:=rfl) (e:=?_) | refine Kc (hd:=d7 _) (e:=?_) | refine Kd (e:=?_) | refine Kl rfl ?_ | fail) <;> ((conv=>whnf);repeat'(refine Z rfl ?_;conv=>whnf)))
   all_goals first
    | exact Done.mk rfl
    | (exfalso; omega)
    | (exfalso; simp_all; done)
    | trace_state
 | nil =>
   obtain ⟨i,hi,hB⟩:=a3M src
   have a1:=b1n hl2 hb hi
   have hil : i.length <= 1000000:=by
    have:=a0P src
    rw [hi,List.length_append] at this
    omega
   have hit : ∀ t ∈ i,t.text.length <= 1048576:=λ t ht=>by
    have:=b1s (src:=src) (t:=t) (by rw [hi]; simp [ht])
    omega
   by_cases hj : (jt i).length <= 65536
   . have a2:=a5g hB src.length hil hit hj
     have hL : Lx (jt i) ((toks src 0).map Tk.bare):=by
      rw [hi,List.map_append]
      exact a5p hB
     obtain ⟨c1,c2⟩:=a5H (z:=zC) (P:=p6 FU) a2B hb hL (a1i src hl2)
     obtain ⟨c3,c4⟩:=a5H (z:=[]) (P:=l6 FU 0 []) ((a3G FU).1 0 [] _) hb hL (b0Z src hl2)
     obtain ⟨c5,c6⟩:=a5H (z:=cz) (P:=condP FU 0) ((a4B FU).2.2.2.1 0 _) hb hL (a7P src hl2)
     have d1:=a0T B8 src hl2
     have d2:=a0T B8 (jt i) hj
     have d3:=a4j B8 src hl2
     have d4:=a4j B8 (jt i) hj
     have d5:=a4c B8 src hl2
     have d6:=a4c B8 (jt i) hj
     rw [show (m3 (jt i)).1 = (m3 src).1 from c1,show (m3 (jt i)).2.2 = (m3 src).2.2 from c2] at d2
     rw [show (t7 (jt i)).1 = (t7 src).1 from c3,show (t7 (jt i)).2.2 = (t7 src).2.2 from c4] at d4
     rw [show (s6 (jt i)).1 = (s6 src).1 from c5,show (s6 (jt i)).2.2 = (s6 src).2.2 from c6] at d6
     clear c1 c2 c3 c4 c5 c6 hL
     have e1:=b8q (m3 src).1 (m3 src).1
     have e2:=a1S (t7 src).1 (t7 src).1
     have e3:=a3v (s6 src).1 (s6 src).1
     rw [S8 rfl] at e1 e2 e3
     revert d1 d2 d3 d4 d5 d6 e1 e2 e3
     generalize (m3 src).1 = C
     generalize (m3 src).2.1 = c1
     generalize (m3 src).2.2 = c2
     generalize (m3 (jt i)).2.1 = c3
     generalize (t7 src).1 = S
     generalize (t7 src).2.1 = s1
     generalize (t7 src).2.2 = s2
     generalize (t7 (jt i)).2.1 = s3
     generalize (s6 src).1 = K
     generalize (s6 src).2.1 = k1
     generalize (s6 src).2.2 = k2
     generalize (s6 (jt i)).2.1 = k3
     intro d1 d2 d3 d4 d5 d6 e1 e2 e3
     refine enter tok {} Tryz.func6 rfl (by kernel_rfl) Tryz.ntmps6 (by simp) λ B0 W0 V0 lent g0=>?_
     ((conv=>whnf);repeat'(refine Z rfl ?_;conv=>whnf))
     refine Meets.k hs ?_
     ((conv=>whnf);repeat'(refine Z rfl ?_;conv=>whnf))
     refine ⟨λ h=>absurd h (by decide),λ _=>?_⟩
     ((conv=>whnf);repeat'(refine Z rfl ?_;conv=>whnf))
     repeat' ((first | (intro hlq; (try simp only [SL] at hlq)) | refine Meets.k (a1) ?_ | refine Meets.k (a2) ?_ | refine Meets.k (d1) ?_ | refine Meets.k (d2) ?_ | refine Meets.k (d3) ?_ | refine Meets.k (d4) ?_ | refine Meets.k (d5) ?_ | refine Meets.k (d6) ?_ | refine Meets.k (e1) ?_ | refine Meets.k (e2) ?_ | refine Meets.k (e3) ?_ | refine Ks ?_ | refine Kq ?_ | refine Kt ?_ | ((refine Kh (λ hb=>?_) λ hb=>?_) <;> (try simp only [BL] at hb)) | refine Ka ?_ | refine Kb ?_ | refine Kc (hd:=rfl) (e:=?_) | refine Kc (hd:=d7 _) (e:=?_) | refine Kd (e:=?_) | refine Kl rfl ?_ | fail) <;> ((conv=>whnf);repeat'(refine Z rfl ?_;conv=>whnf)))
     all_goals first
      | exact Done.mk rfl
      | exact Done.mk (congrArg bD (decide_eq_true rfl))
      | (exact absurd (by assumption : (!true) = true) (by decide))
      | contradiction
      | (exfalso; omega)
      | trace_state
   . have a2:=a5f hB src.length hil hit hj
     refine enter tok {} Tryz.func6 rfl (by kernel_rfl) Tryz.ntmps6 (by simp) λ B0 W0 V0 lent g0=>?_
     ((conv=>whnf);repeat'(refine Z rfl ?_;conv=>whnf))
     refine Meets.k hs ?_
     ((conv=>whnf);repeat'(refine Z rfl ?_;conv=>whnf))
     refine ⟨λ h=>absurd h (by decide),λ _=>?_⟩
     ((conv=>whnf);repeat'(refine Z rfl ?_;conv=>whnf))
     repeat' ((first | (intro hlq; (try simp only [SL] at hlq)) | refine Meets.k (a1) ?_ | refine Meets.k (a2) ?_ | refine Ks ?_ | refine Kq ?_ | refine Kt ?_ | ((refine Kh (λ hb=>?_) λ hb=>?_) <;> (try simp only [BL] at hb)) | refine Ka ?_ | refine Kb ?_ | refine Kc (hd:=rfl) (e:=?_) | refine Kc (hd:=d7 _) (e:=?_) | refine Kd (e:=?_) | refine Kl rfl ?_ | fail) <;> ((conv=>whnf);repeat'(refine Z rfl ?_;conv=>whnf)))
     all_goals first
      | exact Done.mk rfl
      | exact Done.mk (congrArg bD (decide_eq_true rfl))
      | (exact absurd (by assumption : (!true) = true) (by decide))
      | contradiction
      | (exfalso; omega)
      | trace_state
end Go.Proofs.YtaopegkpjhkooaaGreatDoor.Dx
