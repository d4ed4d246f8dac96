/- Chapter 06: units of conditions: a comparison behind its variable. -/
import Derived.Test.YtaopegkpjhkooaaGreatDoorE2
set_option linter.all false
namespace Go.Proofs.YtaopegkpjhkooaaGreatDoor.Dx
open Go Go.RowKit
set_option maxRecDepth 100000
set_option maxHeartbeats 16000000
theorem p4 {α : Type} {f : α -> D} {r : Rs α} {u : Nat -> Value} {o : Out} {O' : List (Nat × Blk)} (h : RdO f r u o O') :
 (∃ a e ts',r = .er a e /\ o = .pan (.iface 130 (.agg [iD (a : Int),iD e])) /\ O' = psO ts' u) \/ ∃ a ts',r = .ok a ts' /\ o = .ret (.d (f a)) /\ O' = psO ts' u:=by
 cases r with
 | out=>exact h.elim
 | er a e=>obtain ⟨ts',h1,h2⟩:=h; exact .inl ⟨a,e,ts',rfl,h1,h2⟩
 | ok a ts=>exact .inr ⟨a,ts,rfl,h.1,h.2⟩
theorem MeetsR.bl {P : Program} {f : FuncId} {args : List Base} {O X : List (Nat × Blk)} {b : Bool} (h : MeetsR P f args O λ o O'=>o = .ret (.d (bD b)) /\ O' = X) : MeetsR P f args O λ o O'=>o = .ret (.d (.bl b)) /\ O' = X :=
 ⟨h.fn,λ γ V W xs h1 h2 h3 h4=>(h.run γ V W xs h1 h2 h3 h4).mono λ e _ ⟨γ',V',o,O',a1,a2,a3,a4,a5,a6,a7,a8,a9,a10⟩=>⟨γ',V',.ret (.d (.bl b)),O',by
  subst a9
  cases e with
  | returned v =>
    have:=(Rep.v_inv (show Rep V' v (.v (.bool b)) from a1)).1
    subst this
    exact Rep.bl b
  | panicked c=>exact a1.elim
  | outgrown=>exact a1.elim,a2,a3,a4,a5,a6,a7,a8,rfl,a10⟩⟩
theorem q7 (ts : List Tk) (u : Nat -> Value) (w : List UInt8) (he : EndsT ts) (h : isW w ts = true) : MeetsR Tryz.prog 66 [.loc 5000 0,.d (.str w)] (psO ts u) λ o O'=>o = .ret (.d (.bl true)) /\ O' = psO ts.tail u:=by
 refine MeetsR.bl ?_
 obtain ⟨t,r,rfl⟩:=he.cons
 refine (a3O t r u w).mono ?_
 rintro o O' ⟨rfl,rfl⟩
 rw [h]; exact ⟨rfl,rfl⟩
theorem g8 (ts : List Tk) (u : Nat -> Value) (w : List UInt8) (he : EndsT ts) (h : isW w ts = false) : MeetsR Tryz.prog 66 [.loc 5000 0,.d (.str w)] (psO ts u) λ o O'=>o = .ret (.d (.bl false)) /\ O' = psO ts u:=by
 refine MeetsR.bl ?_
 obtain ⟨t,r,rfl⟩:=he.cons
 refine (a3O t r u w).mono ?_
 rintro o O' ⟨rfl,rfl⟩
 rw [h]; exact ⟨rfl,rfl⟩
theorem N3 (ts : List Tk) (u : Nat -> Value) (w : List UInt8) (he : EndsT ts) (h : isW w ts = true) : MeetsR Tryz.prog 63 [.loc 5000 0,.d (.str w)] (psO ts u) λ o O'=>o = .ret (.d (.bl true)) /\ O' = psO ts u:=by
 refine MeetsR.bl ?_
 obtain ⟨t,r,rfl⟩:=he.cons
 refine (a4n t r u w).mono ?_
 rintro o O' ⟨rfl,rfl⟩
 rw [h]; exact ⟨rfl,rfl⟩
theorem E4 (ts : List Tk) (u : Nat -> Value) (w : List UInt8) (he : EndsT ts) (h : isW w ts = false) : MeetsR Tryz.prog 63 [.loc 5000 0,.d (.str w)] (psO ts u) λ o O'=>o = .ret (.d (.bl false)) /\ O' = psO ts u:=by
 refine MeetsR.bl ?_
 obtain ⟨t,r,rfl⟩:=he.cons
 refine (a4n t r u w).mono ?_
 rintro o O' ⟨rfl,rfl⟩
 rw [h]; exact ⟨rfl,rfl⟩
theorem B2 (ts : List Tk) (u : Nat -> Value) (e : Int) (he : EndsT ts) : MeetsR Tryz.prog 56 [.loc 5000 0,.d (iD e)] (psO ts u) λ o O'=>o = .pan (.iface 130 (.agg [iD ((hdT ts).at_ : Int),iD e])) /\ O' = psO ts u:=by
 obtain ⟨t,r,rfl⟩:=he.cons
 exact K0 t r u e
theorem a1m (ts : List Tk) (u : Nat -> Value) (d : Nat) (he : EndsT ts) (h : d < 16) : MeetsR Tryz.prog 64 [.loc 5000 0,.d (iD (d : Int))] (psO ts u) λ o O'=>o = .ret (.d (.tup [])) /\ O' = psO ts u:=by
 obtain ⟨t,r,rfl⟩:=he.cons
 have hm:=b3S t r u d
 rw [if_neg (by omega)] at hm
 exact hm
theorem a1l (ts : List Tk) (u : Nat -> Value) (d : Nat) (he : EndsT ts) (h : 16 <= d) : MeetsR Tryz.prog 64 [.loc 5000 0,.d (iD (d : Int))] (psO ts u) λ o O'=>o = .pan (.iface 130 (.agg [iD ((hdT ts).at_ : Int),iD 2])) /\ O' = psO ts u:=by
 obtain ⟨t,r,rfl⟩:=he.cons
 refine i6 tok {rs:=[7]} Tryz.func64 rfl (by kernel_rfl) Tryz.ntmps64 (by simp) λ B0 W0 V0 lent g0=>?_
 ((conv=>whnf);repeat'(refine Y {rs:=[7]} rfl ?_;conv=>whnf))
 refine ⟨λ h2=>?_,λ h2=>?_⟩ <;> (try simp only [BL] at h2) <;> ((conv=>whnf);repeat'(refine Y {rs:=[7]} rfl ?_;conv=>whnf))
 . refine ⟨psO (t :: r) u,_,⟨?_,?_⟩,(K0 t r u 2).mono ?_⟩
   . exact Kr
   . exact Kr
   rintro _ O' ⟨rfl,rfl⟩
   ((conv=>whnf);repeat'(refine Y {rs:=[7]} rfl ?_;conv=>whnf))
   refine ⟨psO (t :: r) u,⟨?_,?_⟩,⟨rfl,rfl⟩⟩
   . exact Kr
   . exact Kr
 . exact absurd h2 (by omega)
theorem p8 (ts : List Tk) (u : Nat -> Value) (h : QT ts) : MeetsR Tryz.prog 80 [.loc 5000 0] (psO ts u) λ o O'=>RdO iD (j2 ts) u o O':=by
 obtain ⟨t,r,rfl⟩:=h.1.cons
 exact b6Q t r u (h.2 t (by simp))
theorem c0g {k d : Nat} {ts : List Tk} (h : isW [110,111,116] ts = true) (hd : d < 16) : l7 (k + 1) d ts = (l7 k (d + 1) ts.tail).bind λ c ts=>.ok (r6 c) ts:=by
 rw [l7,if_neg (by simp only [Bool.and_eq_true,decide_eq_true_eq]; omega),if_pos h]
theorem c0i {k d : Nat} {ts : List Tk} (h1 : isW [110,111,116] ts = false) (h : isW [40] ts = true) (hd : d < 16) : l7 (k + 1) d ts = (condP k (d + 1) ts.tail).bind λ c ts=>(f9 [41] ts).bind λ _ ts=>.ok c ts:=by
 rw [l7,if_neg (by simp only [Bool.and_eq_true,decide_eq_true_eq]; omega),if_neg (by rw [h1]; decide),if_pos h]
theorem b1y {k d : Nat} {ts : List Tk} (h : isW [110,111,116] ts = true \/ isW [40] ts = true) (hd : 16 <= d) : l7 (k + 1) d ts = n6 2 ts:=by
 rw [l7,if_pos (by simp only [Bool.and_eq_true,Bool.or_eq_true,decide_eq_true_eq]; exact ⟨h,hd⟩)]
theorem c0j {k d : Nat} {ts : List Tk} (h1 : isW [110,111,116] ts = false) (h2 : isW [40] ts = false) : l7 (k + 1) d ts = match C3 ts with | none=>n6 60 ts | some v=>r7 v ts.tail:=by
 rw [l7,if_neg (by rw [h1,h2,Bool.or_false,Bool.false_and]; decide),if_neg (by rw [h1]; decide),if_neg (by rw [h2]; decide)]
 rfl
theorem m7 (ts : List Tk) (u : Nat -> Value) (w : List UInt8) (he : EndsT ts) : MeetsR Tryz.prog 62 [.loc 5000 0,.d (.sl [[.str w]])] (psO ts u) λ o O'=>RdO (λ _=>.tup []) (f9 w ts) u o O':=by
 have h:=a5w [w] ts u he
 have e : y8 [w] ts = f9 w ts:=by
  rw [y8]
  cases f9 w ts <;> rfl
 rw [e] at h
 exact h
theorem c0q (ts : List Tk) : (isW [100,105,115,116,97,110,99,101] ts = true /\ C3 ts = some 1) \/ (isW [100,105,115,116,97,110,99,101] ts = false /\ isW [102,105,101,108,100] ts = true /\ C3 ts = some 2) \/ (isW [100,105,115,116,97,110,99,101] ts = false /\ isW [102,105,101,108,100] ts = false /\ isW [115,104,111,114,116] ts = true /\ C3 ts = some 3) \/ (isW [100,105,115,116,97,110,99,101] ts = false /\ isW [102,105,101,108,100] ts = false /\ isW [115,104,111,114,116] ts = false /\ C3 ts = none):=by
 unfold C3
 cases isW [100,105,115,116,97,110,99,101] ts <;> cases isW [102,105,101,108,100] ts <;> cases isW [115,104,111,114,116] ts <;> simp
theorem a5N (ts : List Tk) (v : Int) : (isW [62,61] ts = true /\ r7 v ts = (j2 ts.tail).bind λ n ts=>.ok (leC v n) ts) \/ (isW [62,61] ts = false /\ isW [62] ts = true /\ r7 v ts = (j2 ts.tail).bind λ n ts=>.ok (leC v (n + 1)) ts) \/
 (isW [62,61] ts = false /\ isW [62] ts = false /\ isW [60,61] ts = true /\ r7 v ts = (j2 ts.tail).bind λ n ts=>.ok (r6 (leC v (n + 1))) ts) \/
 (isW [62,61] ts = false /\ isW [62] ts = false /\ isW [60,61] ts = false /\ isW [60] ts = true /\ r7 v ts = (j2 ts.tail).bind λ n ts=>.ok (r6 (leC v n)) ts) \/
 (isW [62,61] ts = false /\ isW [62] ts = false /\ isW [60,61] ts = false /\ isW [60] ts = false /\ isW [61] ts = true /\ r7 v ts = (j2 ts.tail).bind λ n ts=>.ok ⟨2,0,0,[leC v n,r6 (leC v (n + 1))]⟩ ts) \/
 (isW [62,61] ts = false /\ isW [62] ts = false /\ isW [60,61] ts = false /\ isW [60] ts = false /\ isW [61] ts = false /\ r7 v ts = n6 60 ts):=by
 unfold r7
 cases isW [62,61] ts <;> cases isW [62] ts <;> cases isW [60,61] ts <;> cases isW [60] ts <;> cases isW [61] ts <;> simp
theorem P0 {ts ts' : List Tk} {n : Int} (h : j2 ts = .ok n ts') : 0 <= n /\ n <= 1125899906842624:=by
 unfold j2 at h
 split at h
 . rename_i m hm
   cases h
   unfold A4 at hm
   split at hm
   . rename_i hk
     cases hm
     exact ⟨by omega,hk.2.2⟩
   . cases hm
 . cases h
abbrev d8 : Cfg:={rs:=[9,12,16,19,23,27,31,34,37,40,43,46,49,52,56,59,64,67,73,76,81,83,95]}
theorem c0k (k : Nat) (hk : k <= 1000000000) (hu : ∀ j,j <= k -> RdC 111 j l7) (hc : ∀ j,j <= k -> RdC 28 j condP) : RdC 111 (k + 1) l7:=by
 intro d ts u hd hq hn
 obtain ⟨res,hres⟩ : ∃ res,res = l7 (k + 1) d ts:=⟨_,rfl⟩
 rw [<- hres] at hn ⊢
 have he:=hq.1
 have h1:=Bool.eq_false_or_eq_true (isW [110,111,116] ts)
 obtain h1 | h1:=h1
 . by_cases hdd : 16 <= d
   . rw [b1y (.inl h1) hdd] at hres
     refine i6 tok d8 Tryz.func111 rfl (by kernel_rfl) Tryz.ntmps111 (by simp) λ B0 W0 V0 lent g0=>?_
     ((conv=>whnf);repeat'(refine Y d8 rfl ?_;conv=>whnf))
     refine ⟨psO ts u,_,⟨?_,?_⟩,(N3 ts u [110,111,116] he h1).mono ?_⟩
     . exact Kr
     . exact Kr
     rintro _ O2 ⟨rfl,rfl⟩
     ((conv=>whnf);repeat'(refine Y d8 rfl ?_;conv=>whnf))
     refine ⟨psO ts u,_,⟨?_,?_⟩,(a1l ts u d he hdd).mono ?_⟩
     . exact Kr
     . exact Kr
     rintro _ O2 ⟨rfl,rfl⟩
     ((conv=>whnf);repeat'(refine Y d8 rfl ?_;conv=>whnf))
     refine ⟨psO ts u,⟨?_,?_⟩,?_⟩
     . exact Kr
     . exact Kr
     rw [hres]
     exact ⟨_,rfl,rfl⟩
   . have hdd' : d < 16:=by omega
     rw [c0g h1 hdd'] at hres
     have hn1 : l7 k (d + 1) ts.tail ≠ .out:=E5 (by rw [<- hres]; exact hn)
     have hr:=hu k (Nat.le_refl _) (d + 1) ts.tail u (by omega) (hq.isW h1) hn1
     refine i6 tok d8 Tryz.func111 rfl (by kernel_rfl) Tryz.ntmps111 (by simp) λ B0 W0 V0 lent g0=>?_
     ((conv=>whnf);repeat'(refine Y d8 rfl ?_;conv=>whnf))
     refine ⟨psO ts u,_,⟨?_,?_⟩,(N3 ts u [110,111,116] he h1).mono ?_⟩
     . exact Kr
     . exact Kr
     rintro _ O2 ⟨rfl,rfl⟩
     ((conv=>whnf);repeat'(refine Y d8 rfl ?_;conv=>whnf))
     refine ⟨psO ts u,_,⟨?_,?_⟩,(a1m ts u d he hdd').mono ?_⟩
     . exact Kr
     . exact Kr
     rintro _ O2 ⟨rfl,rfl⟩
     ((conv=>whnf);repeat'(refine Y d8 rfl ?_;conv=>whnf))
     refine ⟨psO ts u,_,⟨?_,?_⟩,(q7 ts u [110,111,116] he h1).mono ?_⟩
     . exact Kr
     . exact Kr
     rintro _ O2 ⟨rfl,rfl⟩
     ((conv=>whnf);repeat'(refine Y d8 rfl ?_;conv=>whnf))
     repeat' ((first | (intro hlq; (try simp only [SL] at hlq)) | refine Ks ?_ | refine Kq ?_ | refine Kt ?_ | refine Ka ?_ | refine Kb ?_ | refine Kc (hd:=rfl) (e:=?_) | refine Kc (hd:=d7 _) (e:=?_) | refine Kd (e:=?_) | refine Kl rfl ?_ | fail) <;> ((conv=>whnf);repeat'(refine Y d8 rfl ?_;conv=>whnf)))
     refine ⟨psO ts.tail u,_,⟨?_,?_⟩,(hr).mono ?_⟩
     . exact Kr
     . exact Kr
     intro o O2 ho
     have hh:=p4 ho
     clear ho
     obtain hh | hh:=hh
     . obtain ⟨a,e,ts9,hU,rfl,rfl⟩:=hh
       (try dsimp only at hU)
       rw [hU] at hres
       (try rw [Rs.bind_er] at hres)
       ((conv=>whnf);repeat'(refine Y d8 rfl ?_;conv=>whnf))
       refine ⟨psO ts9 u,⟨?_,?_⟩,?_⟩
       . exact Kr
       . exact Kr
       rw [hres]
       exact ⟨_,rfl,rfl⟩
     obtain ⟨c,ts2,hU,rfl,rfl⟩:=hh
     (try dsimp only at hU)
     rw [hU] at hres
     (try rw [Rs.bind_ok] at hres)
     ((conv=>whnf);repeat'(refine Y d8 rfl ?_;conv=>whnf))
     refine Meets.k (L6 c) ?_
     ((conv=>whnf);repeat'(refine Y d8 rfl ?_;conv=>whnf))
     refine ⟨psO ts2 u,.d (r6 c).d,?_,?_⟩
     rotate_left 1
     . rw [hres]
       exact ⟨rfl,rfl⟩
     repeat' (first | exact True.intro | exact rfl | refine And.intro ?_ ?_)
 have h2:=Bool.eq_false_or_eq_true (isW [40] ts)
 obtain h2 | h2:=h2
 . by_cases hdd : 16 <= d
   . rw [b1y (.inr h2) hdd] at hres
     refine i6 tok d8 Tryz.func111 rfl (by kernel_rfl) Tryz.ntmps111 (by simp) λ B0 W0 V0 lent g0=>?_
     ((conv=>whnf);repeat'(refine Y d8 rfl ?_;conv=>whnf))
     refine ⟨psO ts u,_,⟨?_,?_⟩,(E4 ts u [110,111,116] he h1).mono ?_⟩
     . exact Kr
     . exact Kr
     rintro _ O2 ⟨rfl,rfl⟩
     ((conv=>whnf);repeat'(refine Y d8 rfl ?_;conv=>whnf))
     refine ⟨psO ts u,_,⟨?_,?_⟩,(N3 ts u [40] he h2).mono ?_⟩
     . exact Kr
     . exact Kr
     rintro _ O2 ⟨rfl,rfl⟩
     ((conv=>whnf);repeat'(refine Y d8 rfl ?_;conv=>whnf))
     refine ⟨psO ts u,_,⟨?_,?_⟩,(a1l ts u d he hdd).mono ?_⟩
     . exact Kr
     . exact Kr
     rintro _ O2 ⟨rfl,rfl⟩
     ((conv=>whnf);repeat'(refine Y d8 rfl ?_;conv=>whnf))
     refine ⟨psO ts u,⟨?_,?_⟩,?_⟩
     . exact Kr
     . exact Kr
     rw [hres]
     exact ⟨_,rfl,rfl⟩
   . have hdd' : d < 16:=by omega
     rw [c0i h1 h2 hdd'] at hres
     have hn1 : condP k (d + 1) ts.tail ≠ .out:=E5 (by rw [<- hres]; exact hn)
     have hr:=hc k (Nat.le_refl _) (d + 1) ts.tail u (by omega) (hq.isW h2) hn1
     have hkp:=(V6 k).2.2.2.1 (d + 1) ts.tail (hq.isW h2)
     refine i6 tok d8 Tryz.func111 rfl (by kernel_rfl) Tryz.ntmps111 (by simp) λ B0 W0 V0 lent g0=>?_
     ((conv=>whnf);repeat'(refine Y d8 rfl ?_;conv=>whnf))
     refine ⟨psO ts u,_,⟨?_,?_⟩,(E4 ts u [110,111,116] he h1).mono ?_⟩
     . exact Kr
     . exact Kr
     rintro _ O2 ⟨rfl,rfl⟩
     ((conv=>whnf);repeat'(refine Y d8 rfl ?_;conv=>whnf))
     refine ⟨psO ts u,_,⟨?_,?_⟩,(N3 ts u [40] he h2).mono ?_⟩
     . exact Kr
     . exact Kr
     rintro _ O2 ⟨rfl,rfl⟩
     ((conv=>whnf);repeat'(refine Y d8 rfl ?_;conv=>whnf))
     refine ⟨psO ts u,_,⟨?_,?_⟩,(a1m ts u d he hdd').mono ?_⟩
     . exact Kr
     . exact Kr
     rintro _ O2 ⟨rfl,rfl⟩
     ((conv=>whnf);repeat'(refine Y d8 rfl ?_;conv=>whnf))
     refine ⟨psO ts u,_,⟨?_,?_⟩,(g8 ts u [110,111,116] he h1).mono ?_⟩
     . exact Kr
     . exact Kr
     rintro _ O2 ⟨rfl,rfl⟩
     ((conv=>whnf);repeat'(refine Y d8 rfl ?_;conv=>whnf))
     refine ⟨psO ts u,_,⟨?_,?_⟩,(q7 ts u [40] he h2).mono ?_⟩
     . exact Kr
     . exact Kr
     rintro _ O2 ⟨rfl,rfl⟩
     ((conv=>whnf);repeat'(refine Y d8 rfl ?_;conv=>whnf))
     repeat' ((first | (intro hlq; (try simp only [SL] at hlq)) | refine Ks ?_ | refine Kq ?_ | refine Kt ?_ | refine Ka ?_ | refine Kb ?_ | refine Kc (hd:=rfl) (e:=?_) | refine Kc (hd:=d7 _) (e:=?_) | refine Kd (e:=?_) | refine Kl rfl ?_ | fail) <;> ((conv=>whnf);repeat'(refine Y d8 rfl ?_;conv=>whnf)))
     refine ⟨psO ts.tail u,_,⟨?_,?_⟩,(hr).mono ?_⟩
     . exact Kr
     . exact Kr
     intro o O2 ho
     have hh:=p4 ho
     clear ho
     obtain hh | hh:=hh
     . obtain ⟨a,e,ts9,hU,rfl,rfl⟩:=hh
       (try dsimp only at hU)
       rw [hU] at hres
       (try rw [Rs.bind_er] at hres)
       ((conv=>whnf);repeat'(refine Y d8 rfl ?_;conv=>whnf))
       refine ⟨psO ts9 u,⟨?_,?_⟩,?_⟩
       . exact Kr
       . exact Kr
       rw [hres]
       exact ⟨_,rfl,rfl⟩
     obtain ⟨c,ts2,hU,rfl,rfl⟩:=hh
     (try dsimp only at hU)
     rw [hU] at hres
     (try rw [Rs.bind_ok] at hres)
     ((conv=>whnf);repeat'(refine Y d8 rfl ?_;conv=>whnf))
     have he2 : EndsT ts2:=(hkp _ _ hU).1
     refine ⟨psO ts2 u,_,⟨?_,?_⟩,(m7 ts2 u [41] he2).mono ?_⟩
     . exact Kr
     . exact Kr
     intro o O2 ho
     have hh:=p4 ho
     clear ho
     obtain hh | hh:=hh
     . obtain ⟨a,e,ts9,hU,rfl,rfl⟩:=hh
       (try dsimp only at hU)
       rw [hU] at hres
       (try rw [Rs.bind_er] at hres)
       ((conv=>whnf);repeat'(refine Y d8 rfl ?_;conv=>whnf))
       refine ⟨psO ts9 u,⟨?_,?_⟩,?_⟩
       . exact Kr
       . exact Kr
       rw [hres]
       exact ⟨_,rfl,rfl⟩
     obtain ⟨c2,ts3,hU,rfl,rfl⟩:=hh
     (try dsimp only at hU)
     rw [hU] at hres
     (try rw [Rs.bind_ok] at hres)
     ((conv=>whnf);repeat'(refine Y d8 rfl ?_;conv=>whnf))
     refine ⟨psO ts3 u,.d c.d,?_,?_⟩
     rotate_left 1
     . rw [hres]
       exact ⟨rfl,rfl⟩
     repeat' (first | exact True.intro | exact rfl | refine And.intro ?_ ?_)
 rw [c0j h1 h2] at hres
 have hv:=c0q ts
 obtain ⟨h3,h4⟩ | ⟨h3,h5,h4⟩ | ⟨h3,h5,h6,h4⟩ | ⟨h3,h5,h6,h4⟩:=hv
 . rw [h4] at hres
   dsimp only at hres
   have hq2:=hq.isW h3
   refine i6 tok d8 Tryz.func111 rfl (by kernel_rfl) Tryz.ntmps111 (by simp) λ B0 W0 V0 lent g0=>?_
   ((conv=>whnf);repeat'(refine Y d8 rfl ?_;conv=>whnf))
   refine ⟨psO ts u,_,⟨?_,?_⟩,(E4 ts u [110,111,116] he h1).mono ?_⟩
   . exact Kr
   . exact Kr
   rintro _ O2 ⟨rfl,rfl⟩
   ((conv=>whnf);repeat'(refine Y d8 rfl ?_;conv=>whnf))
   refine ⟨psO ts u,_,⟨?_,?_⟩,(E4 ts u [40] he h2).mono ?_⟩
   . exact Kr
   . exact Kr
   rintro _ O2 ⟨rfl,rfl⟩
   ((conv=>whnf);repeat'(refine Y d8 rfl ?_;conv=>whnf))
   refine ⟨psO ts u,_,⟨?_,?_⟩,(g8 ts u [110,111,116] he h1).mono ?_⟩
   . exact Kr
   . exact Kr
   rintro _ O2 ⟨rfl,rfl⟩
   ((conv=>whnf);repeat'(refine Y d8 rfl ?_;conv=>whnf))
   refine ⟨psO ts u,_,⟨?_,?_⟩,(g8 ts u [40] he h2).mono ?_⟩
   . exact Kr
   . exact Kr
   rintro _ O2 ⟨rfl,rfl⟩
   ((conv=>whnf);repeat'(refine Y d8 rfl ?_;conv=>whnf))
   refine ⟨psO ts u,_,⟨?_,?_⟩,(q7 ts u [100,105,115,116,97,110,99,101] he h3).mono ?_⟩
   . exact Kr
   . exact Kr
   rintro _ O2 ⟨rfl,rfl⟩
   ((conv=>whnf);repeat'(refine Y d8 rfl ?_;conv=>whnf))
   have hr:=a5N ts.tail 1
   obtain ⟨g1,h4⟩ | ⟨g1,g2,h4⟩ | ⟨g1,g2,g3,h4⟩ | ⟨g1,g2,g3,g4,h4⟩ | ⟨g1,g2,g3,g4,g5,h4⟩ | ⟨g1,g2,g3,g4,g5,h4⟩:=hr
   . rw [h4] at hres
     have hnum:=p8 ts.tail.tail u (hq2.isW g1)
     refine ⟨psO ts.tail u,_,⟨?_,?_⟩,(q7 ts.tail u [62,61] hq2.1 g1).mono ?_⟩
     . exact Kr
     . exact Kr
     rintro _ O2 ⟨rfl,rfl⟩
     ((conv=>whnf);repeat'(refine Y d8 rfl ?_;conv=>whnf))
     refine ⟨psO ts.tail.tail u,_,⟨?_,?_⟩,(hnum).mono ?_⟩
     . exact Kr
     . exact Kr
     intro o O2 ho
     have hh:=p4 ho
     clear ho
     obtain hh | hh:=hh
     . obtain ⟨a,e,ts9,hU,rfl,rfl⟩:=hh
       (try dsimp only at hU)
       rw [hU] at hres
       (try rw [Rs.bind_er] at hres)
       ((conv=>whnf);repeat'(refine Y d8 rfl ?_;conv=>whnf))
       refine ⟨psO ts9 u,⟨?_,?_⟩,?_⟩
       . exact Kr
       . exact Kr
       rw [hres]
       exact ⟨_,rfl,rfl⟩
     obtain ⟨n,ts3,hU,rfl,rfl⟩:=hh
     (try dsimp only at hU)
     rw [hU] at hres
     (try rw [Rs.bind_ok] at hres)
     ((conv=>whnf);repeat'(refine Y d8 rfl ?_;conv=>whnf))
     refine Meets.k (A7 1 n) ?_
     ((conv=>whnf);repeat'(refine Y d8 rfl ?_;conv=>whnf))
     refine ⟨psO ts3 u,.d (leC 1 n).d,?_,?_⟩
     rotate_left 1
     . rw [hres]
       exact ⟨rfl,rfl⟩
     repeat' (first | exact True.intro | exact rfl | refine And.intro ?_ ?_)
   . rw [h4] at hres
     have hnum:=p8 ts.tail.tail u (hq2.isW g2)
     refine ⟨psO ts.tail u,_,⟨?_,?_⟩,(g8 ts.tail u [62,61] hq2.1 g1).mono ?_⟩
     . exact Kr
     . exact Kr
     rintro _ O2 ⟨rfl,rfl⟩
     ((conv=>whnf);repeat'(refine Y d8 rfl ?_;conv=>whnf))
     refine ⟨psO ts.tail u,_,⟨?_,?_⟩,(q7 ts.tail u [62] hq2.1 g2).mono ?_⟩
     . exact Kr
     . exact Kr
     rintro _ O2 ⟨rfl,rfl⟩
     ((conv=>whnf);repeat'(refine Y d8 rfl ?_;conv=>whnf))
     refine ⟨psO ts.tail.tail u,_,⟨?_,?_⟩,(hnum).mono ?_⟩
     . exact Kr
     . exact Kr
     intro o O2 ho
     have hh:=p4 ho
     clear ho
     obtain hh | hh:=hh
     . obtain ⟨a,e,ts9,hU,rfl,rfl⟩:=hh
       (try dsimp only at hU)
       rw [hU] at hres
       (try rw [Rs.bind_er] at hres)
       ((conv=>whnf);repeat'(refine Y d8 rfl ?_;conv=>whnf))
       refine ⟨psO ts9 u,⟨?_,?_⟩,?_⟩
       . exact Kr
       . exact Kr
       rw [hres]
       exact ⟨_,rfl,rfl⟩
     obtain ⟨n,ts3,hU,rfl,rfl⟩:=hh
     (try dsimp only at hU)
     rw [hU] at hres
     (try rw [Rs.bind_ok] at hres)
     ((conv=>whnf);repeat'(refine Y d8 rfl ?_;conv=>whnf))
     have hle:=P0 hU
     repeat' ((first | (intro hlq; (try simp only [SL] at hlq)) | refine Ks ?_ | refine Kq ?_ | refine Kt ?_ | refine Ka ?_ | refine Kb ?_ | refine Kc (hd:=rfl) (e:=?_) | refine Kc (hd:=d7 _) (e:=?_) | refine Kd (e:=?_) | refine Kl rfl ?_ | fail) <;> ((conv=>whnf);repeat'(refine Y d8 rfl ?_;conv=>whnf)))
     refine Meets.k (A7 1 (n + 1)) ?_
     ((conv=>whnf);repeat'(refine Y d8 rfl ?_;conv=>whnf))
     refine ⟨psO ts3 u,.d (leC 1 (n + 1)).d,?_,?_⟩
     rotate_left 1
     . rw [hres]
       exact ⟨rfl,rfl⟩
     repeat' (first | exact True.intro | exact rfl | refine And.intro ?_ ?_)
   . rw [h4] at hres
     have hnum:=p8 ts.tail.tail u (hq2.isW g3)
     refine ⟨psO ts.tail u,_,⟨?_,?_⟩,(g8 ts.tail u [62,61] hq2.1 g1).mono ?_⟩
     . exact Kr
     . exact Kr
     rintro _ O2 ⟨rfl,rfl⟩
     ((conv=>whnf);repeat'(refine Y d8 rfl ?_;conv=>whnf))
     refine ⟨psO ts.tail u,_,⟨?_,?_⟩,(g8 ts.tail u [62] hq2.1 g2).mono ?_⟩
     . exact Kr
     . exact Kr
     rintro _ O2 ⟨rfl,rfl⟩
     ((conv=>whnf);repeat'(refine Y d8 rfl ?_;conv=>whnf))
     refine ⟨psO ts.tail u,_,⟨?_,?_⟩,(q7 ts.tail u [60,61] hq2.1 g3).mono ?_⟩
     . exact Kr
     . exact Kr
     rintro _ O2 ⟨rfl,rfl⟩
     ((conv=>whnf);repeat'(refine Y d8 rfl ?_;conv=>whnf))
     refine ⟨psO ts.tail.tail u,_,⟨?_,?_⟩,(hnum).mono ?_⟩
     . exact Kr
     . exact Kr
     intro o O2 ho
     have hh:=p4 ho
     clear ho
     obtain hh | hh:=hh
     . obtain ⟨a,e,ts9,hU,rfl,rfl⟩:=hh
       (try dsimp only at hU)
       rw [hU] at hres
       (try rw [Rs.bind_er] at hres)
       ((conv=>whnf);repeat'(refine Y d8 rfl ?_;conv=>whnf))
       refine ⟨psO ts9 u,⟨?_,?_⟩,?_⟩
       . exact Kr
       . exact Kr
       rw [hres]
       exact ⟨_,rfl,rfl⟩
     obtain ⟨n,ts3,hU,rfl,rfl⟩:=hh
     (try dsimp only at hU)
     rw [hU] at hres
     (try rw [Rs.bind_ok] at hres)
     ((conv=>whnf);repeat'(refine Y d8 rfl ?_;conv=>whnf))
     have hle:=P0 hU
     repeat' ((first | (intro hlq; (try simp only [SL] at hlq)) | refine Ks ?_ | refine Kq ?_ | refine Kt ?_ | refine Ka ?_ | refine Kb ?_ | refine Kc (hd:=rfl) (e:=?_) | refine Kc (hd:=d7 _) (e:=?_) | refine Kd (e:=?_) | refine Kl rfl ?_ | fail) <;> ((conv=>whnf);repeat'(refine Y d8 rfl ?_;conv=>whnf)))
     refine Meets.k (A7 1 (n + 1)) ?_
     ((conv=>whnf);repeat'(refine Y d8 rfl ?_;conv=>whnf))
     refine Meets.k (L6 (leC 1 (n + 1))) ?_
     ((conv=>whnf);repeat'(refine Y d8 rfl ?_;conv=>whnf))
     refine ⟨psO ts3 u,.d (r6 (leC 1 (n + 1))).d,?_,?_⟩
     rotate_left 1
     . rw [hres]
       exact ⟨rfl,rfl⟩
     repeat' (first | exact True.intro | exact rfl | refine And.intro ?_ ?_)
   . rw [h4] at hres
     have hnum:=p8 ts.tail.tail u (hq2.isW g4)
     refine ⟨psO ts.tail u,_,⟨?_,?_⟩,(g8 ts.tail u [62,61] hq2.1 g1).mono ?_⟩
     . exact Kr
     . exact Kr
     rintro _ O2 ⟨rfl,rfl⟩
     ((conv=>whnf);repeat'(refine Y d8 rfl ?_;conv=>whnf))
     refine ⟨psO ts.tail u,_,⟨?_,?_⟩,(g8 ts.tail u [62] hq2.1 g2).mono ?_⟩
     . exact Kr
     . exact Kr
     rintro _ O2 ⟨rfl,rfl⟩
     ((conv=>whnf);repeat'(refine Y d8 rfl ?_;conv=>whnf))
     refine ⟨psO ts.tail u,_,⟨?_,?_⟩,(g8 ts.tail u [60,61] hq2.1 g3).mono ?_⟩
     . exact Kr
     . exact Kr
     rintro _ O2 ⟨rfl,rfl⟩
     ((conv=>whnf);repeat'(refine Y d8 rfl ?_;conv=>whnf))
     refine ⟨psO ts.tail u,_,⟨?_,?_⟩,(q7 ts.tail u [60] hq2.1 g4).mono ?_⟩
     . exact Kr
     . exact Kr
     rintro _ O2 ⟨rfl,rfl⟩
     ((conv=>whnf);repeat'(refine Y d8 rfl ?_;conv=>whnf))
     refine ⟨psO ts.tail.tail u,_,⟨?_,?_⟩,(hnum).mono ?_⟩
     . exact Kr
     . exact Kr
     intro o O2 ho
     have hh:=p4 ho
     clear ho
     obtain hh | hh:=hh
     . obtain ⟨a,e,ts9,hU,rfl,rfl⟩:=hh
       (try dsimp only at hU)
       rw [hU] at hres
       (try rw [Rs.bind_er] at hres)
       ((conv=>whnf);repeat'(refine Y d8 rfl ?_;conv=>whnf))
       refine ⟨psO ts9 u,⟨?_,?_⟩,?_⟩
       . exact Kr
       . exact Kr
       rw [hres]
       exact ⟨_,rfl,rfl⟩
     obtain ⟨n,ts3,hU,rfl,rfl⟩:=hh
     (try dsimp only at hU)
     rw [hU] at hres
     (try rw [Rs.bind_ok] at hres)
     ((conv=>whnf);repeat'(refine Y d8 rfl ?_;conv=>whnf))
     refine Meets.k (A7 1 n) ?_
     ((conv=>whnf);repeat'(refine Y d8 rfl ?_;conv=>whnf))
     refine Meets.k (L6 (leC 1 n)) ?_
     ((conv=>whnf);repeat'(refine Y d8 rfl ?_;conv=>whnf))
     refine ⟨psO ts3 u,.d (r6 (leC 1 n)).d,?_,?_⟩
     rotate_left 1
     . rw [hres]
       exact ⟨rfl,rfl⟩
     repeat' (first | exact True.intro | exact rfl | refine And.intro ?_ ?_)
   . rw [h4] at hres
     have hnum:=p8 ts.tail.tail u (hq2.isW g5)
     refine ⟨psO ts.tail u,_,⟨?_,?_⟩,(g8 ts.tail u [62,61] hq2.1 g1).mono ?_⟩
     . exact Kr
     . exact Kr
     rintro _ O2 ⟨rfl,rfl⟩
     ((conv=>whnf);repeat'(refine Y d8 rfl ?_;conv=>whnf))
     refine ⟨psO ts.tail u,_,⟨?_,?_⟩,(g8 ts.tail u [62] hq2.1 g2).mono ?_⟩
     . exact Kr
     . exact Kr
     rintro _ O2 ⟨rfl,rfl⟩
     ((conv=>whnf);repeat'(refine Y d8 rfl ?_;conv=>whnf))
     refine ⟨psO ts.tail u,_,⟨?_,?_⟩,(g8 ts.tail u [60,61] hq2.1 g3).mono ?_⟩
     . exact Kr
     . exact Kr
     rintro _ O2 ⟨rfl,rfl⟩
     ((conv=>whnf);repeat'(refine Y d8 rfl ?_;conv=>whnf))
     refine ⟨psO ts.tail u,_,⟨?_,?_⟩,(g8 ts.tail u [60] hq2.1 g4).mono ?_⟩
     . exact Kr
     . exact Kr
     rintro _ O2 ⟨rfl,rfl⟩
     ((conv=>whnf);repeat'(refine Y d8 rfl ?_;conv=>whnf))
     refine ⟨psO ts.tail u,_,⟨?_,?_⟩,(q7 ts.tail u [61] hq2.1 g5).mono ?_⟩
     . exact Kr
     . exact Kr
     rintro _ O2 ⟨rfl,rfl⟩
     ((conv=>whnf);repeat'(refine Y d8 rfl ?_;conv=>whnf))
     refine ⟨psO ts.tail.tail u,_,⟨?_,?_⟩,(hnum).mono ?_⟩
     . exact Kr
     . exact Kr
     intro o O2 ho
     have hh:=p4 ho
     clear ho
     obtain hh | hh:=hh
     . obtain ⟨a,e,ts9,hU,rfl,rfl⟩:=hh
       (try dsimp only at hU)
       rw [hU] at hres
       (try rw [Rs.bind_er] at hres)
       ((conv=>whnf);repeat'(refine Y d8 rfl ?_;conv=>whnf))
       refine ⟨psO ts9 u,⟨?_,?_⟩,?_⟩
       . exact Kr
       . exact Kr
       rw [hres]
       exact ⟨_,rfl,rfl⟩
     obtain ⟨n,ts3,hU,rfl,rfl⟩:=hh
     (try dsimp only at hU)
     rw [hU] at hres
     (try rw [Rs.bind_ok] at hres)
     ((conv=>whnf);repeat'(refine Y d8 rfl ?_;conv=>whnf))
     have hle:=P0 hU
     refine Meets.k (A7 1 n) ?_
     ((conv=>whnf);repeat'(refine Y d8 rfl ?_;conv=>whnf))
     repeat' ((first | (intro hlq; (try simp only [SL] at hlq)) | refine Ks ?_ | refine Kq ?_ | refine Kt ?_ | refine Ka ?_ | refine Kb ?_ | refine Kc (hd:=rfl) (e:=?_) | refine Kc (hd:=d7 _) (e:=?_) | refine Kd (e:=?_) | refine Kl rfl ?_ | fail) <;> ((conv=>whnf);repeat'(refine Y d8 rfl ?_;conv=>whnf)))
     refine Meets.k (A7 1 (n + 1)) ?_
     ((conv=>whnf);repeat'(refine Y d8 rfl ?_;conv=>whnf))
     refine Meets.k (L6 (leC 1 (n + 1))) ?_
     ((conv=>whnf);repeat'(refine Y d8 rfl ?_;conv=>whnf))
     refine ⟨psO ts3 u,.d (⟨2,0,0,[leC 1 n,r6 (leC 1 (n + 1))]⟩ : Cond).d,?_,?_⟩
     rotate_left 1
     . rw [hres]
       exact ⟨rfl,rfl⟩
     repeat' (first | exact True.intro | exact rfl | refine And.intro ?_ ?_)
   . rw [h4] at hres
     refine ⟨psO ts.tail u,_,⟨?_,?_⟩,(g8 ts.tail u [62,61] hq2.1 g1).mono ?_⟩
     . exact Kr
     . exact Kr
     rintro _ O2 ⟨rfl,rfl⟩
     ((conv=>whnf);repeat'(refine Y d8 rfl ?_;conv=>whnf))
     refine ⟨psO ts.tail u,_,⟨?_,?_⟩,(g8 ts.tail u [62] hq2.1 g2).mono ?_⟩
     . exact Kr
     . exact Kr
     rintro _ O2 ⟨rfl,rfl⟩
     ((conv=>whnf);repeat'(refine Y d8 rfl ?_;conv=>whnf))
     refine ⟨psO ts.tail u,_,⟨?_,?_⟩,(g8 ts.tail u [60,61] hq2.1 g3).mono ?_⟩
     . exact Kr
     . exact Kr
     rintro _ O2 ⟨rfl,rfl⟩
     ((conv=>whnf);repeat'(refine Y d8 rfl ?_;conv=>whnf))
     refine ⟨psO ts.tail u,_,⟨?_,?_⟩,(g8 ts.tail u [60] hq2.1 g4).mono ?_⟩
     . exact Kr
     . exact Kr
     rintro _ O2 ⟨rfl,rfl⟩
     ((conv=>whnf);repeat'(refine Y d8 rfl ?_;conv=>whnf))
     refine ⟨psO ts.tail u,_,⟨?_,?_⟩,(g8 ts.tail u [61] hq2.1 g5).mono ?_⟩
     . exact Kr
     . exact Kr
     rintro _ O2 ⟨rfl,rfl⟩
     ((conv=>whnf);repeat'(refine Y d8 rfl ?_;conv=>whnf))
     refine ⟨psO ts.tail u,_,⟨?_,?_⟩,(B2 ts.tail u 60 hq2.1).mono ?_⟩
     . exact Kr
     . exact Kr
     rintro _ O2 ⟨rfl,rfl⟩
     ((conv=>whnf);repeat'(refine Y d8 rfl ?_;conv=>whnf))
     refine ⟨psO ts.tail u,⟨?_,?_⟩,?_⟩
     . exact Kr
     . exact Kr
     rw [hres]
     exact ⟨_,rfl,rfl⟩
 . rw [h4] at hres
   dsimp only at hres
   have hq2:=hq.isW h5
   refine i6 tok d8 Tryz.func111 rfl (by kernel_rfl) Tryz.ntmps111 (by simp) λ B0 W0 V0 lent g0=>?_
   ((conv=>whnf);repeat'(refine Y d8 rfl ?_;conv=>whnf))
   refine ⟨psO ts u,_,⟨?_,?_⟩,(E4 ts u [110,111,116] he h1).mono ?_⟩
   . exact Kr
   . exact Kr
   rintro _ O2 ⟨rfl,rfl⟩
   ((conv=>whnf);repeat'(refine Y d8 rfl ?_;conv=>whnf))
   refine ⟨psO ts u,_,⟨?_,?_⟩,(E4 ts u [40] he h2).mono ?_⟩
   . exact Kr
   . exact Kr
   rintro _ O2 ⟨rfl,rfl⟩
   ((conv=>whnf);repeat'(refine Y d8 rfl ?_;conv=>whnf))
   refine ⟨psO ts u,_,⟨?_,?_⟩,(g8 ts u [110,111,116] he h1).mono ?_⟩
   . exact Kr
   . exact Kr
   rintro _ O2 ⟨rfl,rfl⟩
   ((conv=>whnf);repeat'(refine Y d8 rfl ?_;conv=>whnf))
   refine ⟨psO ts u,_,⟨?_,?_⟩,(g8 ts u [40] he h2).mono ?_⟩
   . exact Kr
   . exact Kr
   rintro _ O2 ⟨rfl,rfl⟩
   ((conv=>whnf);repeat'(refine Y d8 rfl ?_;conv=>whnf))
   refine ⟨psO ts u,_,⟨?_,?_⟩,(g8 ts u [100,105,115,116,97,110,99,101] he h3).mono ?_⟩
   . exact Kr
   . exact Kr
   rintro _ O2 ⟨rfl,rfl⟩
   ((conv=>whnf);repeat'(refine Y d8 rfl ?_;conv=>whnf))
   refine ⟨psO ts u,_,⟨?_,?_⟩,(q7 ts u [102,105,101,108,100] he h5).mono ?_⟩
   . exact Kr
   . exact Kr
   rintro _ O2 ⟨rfl,rfl⟩
   ((conv=>whnf);repeat'(refine Y d8 rfl ?_;conv=>whnf))
   have hr:=a5N ts.tail 2
   obtain ⟨g1,h4⟩ | ⟨g1,g2,h4⟩ | ⟨g1,g2,g3,h4⟩ | ⟨g1,g2,g3,g4,h4⟩ | ⟨g1,g2,g3,g4,g5,h4⟩ | ⟨g1,g2,g3,g4,g5,h4⟩:=hr
   . rw [h4] at hres
     have hnum:=p8 ts.tail.tail u (hq2.isW g1)
     refine ⟨psO ts.tail u,_,⟨?_,?_⟩,(q7 ts.tail u [62,61] hq2.1 g1).mono ?_⟩
     . exact Kr
     . exact Kr
     rintro _ O2 ⟨rfl,rfl⟩
     ((conv=>whnf);repeat'(refine Y d8 rfl ?_;conv=>whnf))
     refine ⟨psO ts.tail.tail u,_,⟨?_,?_⟩,(hnum).mono ?_⟩
     . exact Kr
     . exact Kr
     intro o O2 ho
     have hh:=p4 ho
     clear ho
     obtain hh | hh:=hh
     . obtain ⟨a,e,ts9,hU,rfl,rfl⟩:=hh
       (try dsimp only at hU)
       rw [hU] at hres
       (try rw [Rs.bind_er] at hres)
       ((conv=>whnf);repeat'(refine Y d8 rfl ?_;conv=>whnf))
       refine ⟨psO ts9 u,⟨?_,?_⟩,?_⟩
       . exact Kr
       . exact Kr
       rw [hres]
       exact ⟨_,rfl,rfl⟩
     obtain ⟨n,ts3,hU,rfl,rfl⟩:=hh
     (try dsimp only at hU)
     rw [hU] at hres
     (try rw [Rs.bind_ok] at hres)
     ((conv=>whnf);repeat'(refine Y d8 rfl ?_;conv=>whnf))
     refine Meets.k (A7 2 n) ?_
     ((conv=>whnf);repeat'(refine Y d8 rfl ?_;conv=>whnf))
     refine ⟨psO ts3 u,.d (leC 2 n).d,?_,?_⟩
     rotate_left 1
     . rw [hres]
       exact ⟨rfl,rfl⟩
     repeat' (first | exact True.intro | exact rfl | refine And.intro ?_ ?_)
   . rw [h4] at hres
     have hnum:=p8 ts.tail.tail u (hq2.isW g2)
     refine ⟨psO ts.tail u,_,⟨?_,?_⟩,(g8 ts.tail u [62,61] hq2.1 g1).mono ?_⟩
     . exact Kr
     . exact Kr
     rintro _ O2 ⟨rfl,rfl⟩
     ((conv=>whnf);repeat'(refine Y d8 rfl ?_;conv=>whnf))
     refine ⟨psO ts.tail u,_,⟨?_,?_⟩,(q7 ts.tail u [62] hq2.1 g2).mono ?_⟩
     . exact Kr
     . exact Kr
     rintro _ O2 ⟨rfl,rfl⟩
     ((conv=>whnf);repeat'(refine Y d8 rfl ?_;conv=>whnf))
     refine ⟨psO ts.tail.tail u,_,⟨?_,?_⟩,(hnum).mono ?_⟩
     . exact Kr
     . exact Kr
     intro o O2 ho
     have hh:=p4 ho
     clear ho
     obtain hh | hh:=hh
     . obtain ⟨a,e,ts9,hU,rfl,rfl⟩:=hh
       (try dsimp only at hU)
       rw [hU] at hres
       (try rw [Rs.bind_er] at hres)
       ((conv=>whnf);repeat'(refine Y d8 rfl ?_;conv=>whnf))
       refine ⟨psO ts9 u,⟨?_,?_⟩,?_⟩
       . exact Kr
       . exact Kr
       rw [hres]
       exact ⟨_,rfl,rfl⟩
     obtain ⟨n,ts3,hU,rfl,rfl⟩:=hh
     (try dsimp only at hU)
     rw [hU] at hres
     (try rw [Rs.bind_ok] at hres)
     ((conv=>whnf);repeat'(refine Y d8 rfl ?_;conv=>whnf))
     have hle:=P0 hU
     repeat' ((first | (intro hlq; (try simp only [SL] at hlq)) | refine Ks ?_ | refine Kq ?_ | refine Kt ?_ | refine Ka ?_ | refine Kb ?_ | refine Kc (hd:=rfl) (e:=?_) | refine Kc (hd:=d7 _) (e:=?_) | refine Kd (e:=?_) | refine Kl rfl ?_ | fail) <;> ((conv=>whnf);repeat'(refine Y d8 rfl ?_;conv=>whnf)))
     refine Meets.k (A7 2 (n + 1)) ?_
     ((conv=>whnf);repeat'(refine Y d8 rfl ?_;conv=>whnf))
     refine ⟨psO ts3 u,.d (leC 2 (n + 1)).d,?_,?_⟩
     rotate_left 1
     . rw [hres]
       exact ⟨rfl,rfl⟩
     repeat' (first | exact True.intro | exact rfl | refine And.intro ?_ ?_)
   . rw [h4] at hres
     have hnum:=p8 ts.tail.tail u (hq2.isW g3)
     refine ⟨psO ts.tail u,_,⟨?_,?_⟩,(g8 ts.tail u [62,61] hq2.1 g1).mono ?_⟩
     . exact Kr
     . exact Kr
     rintro _ O2 ⟨rfl,rfl⟩
     ((conv=>whnf);repeat'(refine Y d8 rfl ?_;conv=>whnf))
     refine ⟨psO ts.tail u,_,⟨?_,?_⟩,(g8 ts.tail u [62] hq2.1 g2).mono ?_⟩
     . exact Kr
     . exact Kr
     rintro _ O2 ⟨rfl,rfl⟩
     ((conv=>whnf);repeat'(refine Y d8 rfl ?_;conv=>whnf))
     refine ⟨psO ts.tail u,_,⟨?_,?_⟩,(q7 ts.tail u [60,61] hq2.1 g3).mono ?_⟩
     . exact Kr
     . exact Kr
     rintro _ O2 ⟨rfl,rfl⟩
     ((conv=>whnf);repeat'(refine Y d8 rfl ?_;conv=>whnf))
     refine ⟨psO ts.tail.tail u,_,⟨?_,?_⟩,(hnum).mono ?_⟩
     . exact Kr
     . exact Kr
     intro o O2 ho
     have hh:=p4 ho
     clear ho
     obtain hh | hh:=hh
     . obtain ⟨a,e,ts9,hU,rfl,rfl⟩:=hh
       (try dsimp only at hU)
       rw [hU] at hres
       (try rw [Rs.bind_er] at hres)
       ((conv=>whnf);repeat'(refine Y d8 rfl ?_;conv=>whnf))
       refine ⟨psO ts9 u,⟨?_,?_⟩,?_⟩
       . exact Kr
       . exact Kr
       rw [hres]
       exact ⟨_,rfl,rfl⟩
     obtain ⟨n,ts3,hU,rfl,rfl⟩:=hh
     (try dsimp only at hU)
     rw [hU] at hres
     (try rw [Rs.bind_ok] at hres)
     ((conv=>whnf);repeat'(refine Y d8 rfl ?_;conv=>whnf))
     have hle:=P0 hU
     repeat' ((first | (intro hlq; (try simp only [SL] at hlq)) | refine Ks ?_ | refine Kq ?_ | refine Kt ?_ | refine Ka ?_ | refine Kb ?_ | refine Kc (hd:=rfl) (e:=?_) | refine Kc (hd:=d7 _) (e:=?_) | refine Kd (e:=?_) | refine Kl rfl ?_ | fail) <;> ((conv=>whnf);repeat'(refine Y d8 rfl ?_;conv=>whnf)))
     refine Meets.k (A7 2 (n + 1)) ?_
     ((conv=>whnf);repeat'(refine Y d8 rfl ?_;conv=>whnf))
     refine Meets.k (L6 (leC 2 (n + 1))) ?_
     ((conv=>whnf);repeat'(refine Y d8 rfl ?_;conv=>whnf))
     refine ⟨psO ts3 u,.d (r6 (leC 2 (n + 1))).d,?_,?_⟩
     rotate_left 1
     . rw [hres]
       exact ⟨rfl,rfl⟩
     repeat' (first | exact True.intro | exact rfl | refine And.intro ?_ ?_)
   . rw [h4] at hres
     have hnum:=p8 ts.tail.tail u (hq2.isW g4)
     refine ⟨psO ts.tail u,_,⟨?_,?_⟩,(g8 ts.tail u [62,61] hq2.1 g1).mono ?_⟩
     . exact Kr
     . exact Kr
     rintro _ O2 ⟨rfl,rfl⟩
     ((conv=>whnf);repeat'(refine Y d8 rfl ?_;conv=>whnf))
     refine ⟨psO ts.tail u,_,⟨?_,?_⟩,(g8 ts.tail u [62] hq2.1 g2).mono ?_⟩
     . exact Kr
     . exact Kr
     rintro _ O2 ⟨rfl,rfl⟩
     ((conv=>whnf);repeat'(refine Y d8 rfl ?_;conv=>whnf))
     refine ⟨psO ts.tail u,_,⟨?_,?_⟩,(g8 ts.tail u [60,61] hq2.1 g3).mono ?_⟩
     . exact Kr
     . exact Kr
     rintro _ O2 ⟨rfl,rfl⟩
     ((conv=>whnf);repeat'(refine Y d8 rfl ?_;conv=>whnf))
     refine ⟨psO ts.tail u,_,⟨?_,?_⟩,(q7 ts.tail u [60] hq2.1 g4).mono ?_⟩
     . exact Kr
     . exact Kr
     rintro _ O2 ⟨rfl,rfl⟩
     ((conv=>whnf);repeat'(refine Y d8 rfl ?_;conv=>whnf))
     refine ⟨psO ts.tail.tail u,_,⟨?_,?_⟩,(hnum).mono ?_⟩
     . exact Kr
     . exact Kr
     intro o O2 ho
     have hh:=p4 ho
     clear ho
     obtain hh | hh:=hh
     . obtain ⟨a,e,ts9,hU,rfl,rfl⟩:=hh
       (try dsimp only at hU)
       rw [hU] at hres
       (try rw [Rs.bind_er] at hres)
       ((conv=>whnf);repeat'(refine Y d8 rfl ?_;conv=>whnf))
       refine ⟨psO ts9 u,⟨?_,?_⟩,?_⟩
       . exact Kr
       . exact Kr
       rw [hres]
       exact ⟨_,rfl,rfl⟩
     obtain ⟨n,ts3,hU,rfl,rfl⟩:=hh
     (try dsimp only at hU)
     rw [hU] at hres
     (try rw [Rs.bind_ok] at hres)
     ((conv=>whnf);repeat'(refine Y d8 rfl ?_;conv=>whnf))
     refine Meets.k (A7 2 n) ?_
     ((conv=>whnf);repeat'(refine Y d8 rfl ?_;conv=>whnf))
     refine Meets.k (L6 (leC 2 n)) ?_
     ((conv=>whnf);repeat'(refine Y d8 rfl ?_;conv=>whnf))
     refine ⟨psO ts3 u,.d (r6 (leC 2 n)).d,?_,?_⟩
     rotate_left 1
     . rw [hres]
       exact ⟨rfl,rfl⟩
     repeat' (first | exact True.intro | exact rfl | refine And.intro ?_ ?_)
   . rw [h4] at hres
     have hnum:=p8 ts.tail.tail u (hq2.isW g5)
     refine ⟨psO ts.tail u,_,⟨?_,?_⟩,(g8 ts.tail u [62,61] hq2.1 g1).mono ?_⟩
     . exact Kr
     . exact Kr
     rintro _ O2 ⟨rfl,rfl⟩
     ((conv=>whnf);repeat'(refine Y d8 rfl ?_;conv=>whnf))
     refine ⟨psO ts.tail u,_,⟨?_,?_⟩,(g8 ts.tail u [62] hq2.1 g2).mono ?_⟩
     . exact Kr
     . exact Kr
     rintro _ O2 ⟨rfl,rfl⟩
     ((conv=>whnf);repeat'(refine Y d8 rfl ?_;conv=>whnf))
     refine ⟨psO ts.tail u,_,⟨?_,?_⟩,(g8 ts.tail u [60,61] hq2.1 g3).mono ?_⟩
     . exact Kr
     . exact Kr
     rintro _ O2 ⟨rfl,rfl⟩
     ((conv=>whnf);repeat'(refine Y d8 rfl ?_;conv=>whnf))
     refine ⟨psO ts.tail u,_,⟨?_,?_⟩,(g8 ts.tail u [60] hq2.1 g4).mono ?_⟩
     . exact Kr
     . exact Kr
     rintro _ O2 ⟨rfl,rfl⟩
     ((conv=>whnf);repeat'(refine Y d8 rfl ?_;conv=>whnf))
     refine ⟨psO ts.tail u,_,⟨?_,?_⟩,(q7 ts.tail u [61] hq2.1 g5).mono ?_⟩
     . exact Kr
     . exact Kr
     rintro _ O2 ⟨rfl,rfl⟩
     ((conv=>whnf);repeat'(refine Y d8 rfl ?_;conv=>whnf))
     refine ⟨psO ts.tail.tail u,_,⟨?_,?_⟩,(hnum).mono ?_⟩
     . exact Kr
     . exact Kr
     intro o O2 ho
     have hh:=p4 ho
     clear ho
     obtain hh | hh:=hh
     . obtain ⟨a,e,ts9,hU,rfl,rfl⟩:=hh
       (try dsimp only at hU)
       rw [hU] at hres
       (try rw [Rs.bind_er] at hres)
       ((conv=>whnf);repeat'(refine Y d8 rfl ?_;conv=>whnf))
       refine ⟨psO ts9 u,⟨?_,?_⟩,?_⟩
       . exact Kr
       . exact Kr
       rw [hres]
       exact ⟨_,rfl,rfl⟩
     obtain ⟨n,ts3,hU,rfl,rfl⟩:=hh
     (try dsimp only at hU)
     rw [hU] at hres
     (try rw [Rs.bind_ok] at hres)
     ((conv=>whnf);repeat'(refine Y d8 rfl ?_;conv=>whnf))
     have hle:=P0 hU
     refine Meets.k (A7 2 n) ?_
     ((conv=>whnf);repeat'(refine Y d8 rfl ?_;conv=>whnf))
     repeat' ((first | (intro hlq; (try simp only [SL] at hlq)) | refine Ks ?_ | refine Kq ?_ | refine Kt ?_ | refine Ka ?_ | refine Kb ?_ | refine Kc (hd:=rfl) (e:=?_) | refine Kc (hd:=d7 _) (e:=?_) | refine Kd (e:=?_) | refine Kl rfl ?_ | fail) <;> ((conv=>whnf);repeat'(refine Y d8 rfl ?_;conv=>whnf)))
     refine Meets.k (A7 2 (n + 1)) ?_
     ((conv=>whnf);repeat'(refine Y d8 rfl ?_;conv=>whnf))
     refine Meets.k (L6 (leC 2 (n + 1))) ?_
     ((conv=>whnf);repeat'(refine Y d8 rfl ?_;conv=>whnf))
     refine ⟨psO ts3 u,.d (⟨2,0,0,[leC 2 n,r6 (leC 2 (n + 1))]⟩ : Cond).d,?_,?_⟩
     rotate_left 1
     . rw [hres]
       exact ⟨rfl,rfl⟩
     repeat' (first | exact True.intro | exact rfl | refine And.intro ?_ ?_)
   . rw [h4] at hres
     refine ⟨psO ts.tail u,_,⟨?_,?_⟩,(g8 ts.tail u [62,61] hq2.1 g1).mono ?_⟩
     . exact Kr
     . exact Kr
     rintro _ O2 ⟨rfl,rfl⟩
     ((conv=>whnf);repeat'(refine Y d8 rfl ?_;conv=>whnf))
     refine ⟨psO ts.tail u,_,⟨?_,?_⟩,(g8 ts.tail u [62] hq2.1 g2).mono ?_⟩
     . exact Kr
     . exact Kr
     rintro _ O2 ⟨rfl,rfl⟩
     ((conv=>whnf);repeat'(refine Y d8 rfl ?_;conv=>whnf))
     refine ⟨psO ts.tail u,_,⟨?_,?_⟩,(g8 ts.tail u [60,61] hq2.1 g3).mono ?_⟩
     . exact Kr
     . exact Kr
     rintro _ O2 ⟨rfl,rfl⟩
     ((conv=>whnf);repeat'(refine Y d8 rfl ?_;conv=>whnf))
     refine ⟨psO ts.tail u,_,⟨?_,?_⟩,(g8 ts.tail u [60] hq2.1 g4).mono ?_⟩
     . exact Kr
     . exact Kr
     rintro _ O2 ⟨rfl,rfl⟩
     ((conv=>whnf);repeat'(refine Y d8 rfl ?_;conv=>whnf))
     refine ⟨psO ts.tail u,_,⟨?_,?_⟩,(g8 ts.tail u [61] hq2.1 g5).mono ?_⟩
     . exact Kr
     . exact Kr
     rintro _ O2 ⟨rfl,rfl⟩
     ((conv=>whnf);repeat'(refine Y d8 rfl ?_;conv=>whnf))
     refine ⟨psO ts.tail u,_,⟨?_,?_⟩,(B2 ts.tail u 60 hq2.1).mono ?_⟩
     . exact Kr
     . exact Kr
     rintro _ O2 ⟨rfl,rfl⟩
     ((conv=>whnf);repeat'(refine Y d8 rfl ?_;conv=>whnf))
     refine ⟨psO ts.tail u,⟨?_,?_⟩,?_⟩
     . exact Kr
     . exact Kr
     rw [hres]
     exact ⟨_,rfl,rfl⟩
 . rw [h4] at hres
   dsimp only at hres
   have hq2:=hq.isW h6
   refine i6 tok d8 Tryz.func111 rfl (by kernel_rfl) Tryz.ntmps111 (by simp) λ B0 W0 V0 lent g0=>?_
   ((conv=>whnf);repeat'(refine Y d8 rfl ?_;conv=>whnf))
   refine ⟨psO ts u,_,⟨?_,?_⟩,(E4 ts u [110,111,116] he h1).mono ?_⟩
   . exact Kr
   . exact Kr
   rintro _ O2 ⟨rfl,rfl⟩
   ((conv=>whnf);repeat'(refine Y d8 rfl ?_;conv=>whnf))
   refine ⟨psO ts u,_,⟨?_,?_⟩,(E4 ts u [40] he h2).mono ?_⟩
   . exact Kr
   . exact Kr
   rintro _ O2 ⟨rfl,rfl⟩
   ((conv=>whnf);repeat'(refine Y d8 rfl ?_;conv=>whnf))
   refine ⟨psO ts u,_,⟨?_,?_⟩,(g8 ts u [110,111,116] he h1).mono ?_⟩
   . exact Kr
   . exact Kr
   rintro _ O2 ⟨rfl,rfl⟩
   ((conv=>whnf);repeat'(refine Y d8 rfl ?_;conv=>whnf))
   refine ⟨psO ts u,_,⟨?_,?_⟩,(g8 ts u [40] he h2).mono ?_⟩
   . exact Kr
   . exact Kr
   rintro _ O2 ⟨rfl,rfl⟩
   ((conv=>whnf);repeat'(refine Y d8 rfl ?_;conv=>whnf))
   refine ⟨psO ts u,_,⟨?_,?_⟩,(g8 ts u [100,105,115,116,97,110,99,101] he h3).mono ?_⟩
   . exact Kr
   . exact Kr
   rintro _ O2 ⟨rfl,rfl⟩
   ((conv=>whnf);repeat'(refine Y d8 rfl ?_;conv=>whnf))
   refine ⟨psO ts u,_,⟨?_,?_⟩,(g8 ts u [102,105,101,108,100] he h5).mono ?_⟩
   . exact Kr
   . exact Kr
   rintro _ O2 ⟨rfl,rfl⟩
   ((conv=>whnf);repeat'(refine Y d8 rfl ?_;conv=>whnf))
   refine ⟨psO ts u,_,⟨?_,?_⟩,(q7 ts u [115,104,111,114,116] he h6).mono ?_⟩
   . exact Kr
   . exact Kr
   rintro _ O2 ⟨rfl,rfl⟩
   ((conv=>whnf);repeat'(refine Y d8 rfl ?_;conv=>whnf))
   have hr:=a5N ts.tail 3
   obtain ⟨g1,h4⟩ | ⟨g1,g2,h4⟩ | ⟨g1,g2,g3,h4⟩ | ⟨g1,g2,g3,g4,h4⟩ | ⟨g1,g2,g3,g4,g5,h4⟩ | ⟨g1,g2,g3,g4,g5,h4⟩:=hr
   . rw [h4] at hres
     have hnum:=p8 ts.tail.tail u (hq2.isW g1)
     refine ⟨psO ts.tail u,_,⟨?_,?_⟩,(q7 ts.tail u [62,61] hq2.1 g1).mono ?_⟩
     . exact Kr
     . exact Kr
     rintro _ O2 ⟨rfl,rfl⟩
     ((conv=>whnf);repeat'(refine Y d8 rfl ?_;conv=>whnf))
     refine ⟨psO ts.tail.tail u,_,⟨?_,?_⟩,(hnum).mono ?_⟩
     . exact Kr
     . exact Kr
     intro o O2 ho
     have hh:=p4 ho
     clear ho
     obtain hh | hh:=hh
     . obtain ⟨a,e,ts9,hU,rfl,rfl⟩:=hh
       (try dsimp only at hU)
       rw [hU] at hres
       (try rw [Rs.bind_er] at hres)
       ((conv=>whnf);repeat'(refine Y d8 rfl ?_;conv=>whnf))
       refine ⟨psO ts9 u,⟨?_,?_⟩,?_⟩
       . exact Kr
       . exact Kr
       rw [hres]
       exact ⟨_,rfl,rfl⟩
     obtain ⟨n,ts3,hU,rfl,rfl⟩:=hh
     (try dsimp only at hU)
     rw [hU] at hres
     (try rw [Rs.bind_ok] at hres)
     ((conv=>whnf);repeat'(refine Y d8 rfl ?_;conv=>whnf))
     refine Meets.k (A7 3 n) ?_
     ((conv=>whnf);repeat'(refine Y d8 rfl ?_;conv=>whnf))
     refine ⟨psO ts3 u,.d (leC 3 n).d,?_,?_⟩
     rotate_left 1
     . rw [hres]
       exact ⟨rfl,rfl⟩
     repeat' (first | exact True.intro | exact rfl | refine And.intro ?_ ?_)
   . rw [h4] at hres
     have hnum:=p8 ts.tail.tail u (hq2.isW g2)
     refine ⟨psO ts.tail u,_,⟨?_,?_⟩,(g8 ts.tail u [62,61] hq2.1 g1).mono ?_⟩
     . exact Kr
     . exact Kr
     rintro _ O2 ⟨rfl,rfl⟩
     ((conv=>whnf);repeat'(refine Y d8 rfl ?_;conv=>whnf))
     refine ⟨psO ts.tail u,_,⟨?_,?_⟩,(q7 ts.tail u [62] hq2.1 g2).mono ?_⟩
     . exact Kr
     . exact Kr
     rintro _ O2 ⟨rfl,rfl⟩
     ((conv=>whnf);repeat'(refine Y d8 rfl ?_;conv=>whnf))
     refine ⟨psO ts.tail.tail u,_,⟨?_,?_⟩,(hnum).mono ?_⟩
     . exact Kr
     . exact Kr
     intro o O2 ho
     have hh:=p4 ho
     clear ho
     obtain hh | hh:=hh
     . obtain ⟨a,e,ts9,hU,rfl,rfl⟩:=hh
       (try dsimp only at hU)
       rw [hU] at hres
       (try rw [Rs.bind_er] at hres)
       ((conv=>whnf);repeat'(refine Y d8 rfl ?_;conv=>whnf))
       refine ⟨psO ts9 u,⟨?_,?_⟩,?_⟩
       . exact Kr
       . exact Kr
       rw [hres]
       exact ⟨_,rfl,rfl⟩
     obtain ⟨n,ts3,hU,rfl,rfl⟩:=hh
     (try dsimp only at hU)
     rw [hU] at hres
     (try rw [Rs.bind_ok] at hres)
     ((conv=>whnf);repeat'(refine Y d8 rfl ?_;conv=>whnf))
     have hle:=P0 hU
     repeat' ((first | (intro hlq; (try simp only [SL] at hlq)) | refine Ks ?_ | refine Kq ?_ | refine Kt ?_ | refine Ka ?_ | refine Kb ?_ | refine Kc (hd:=rfl) (e:=?_) | refine Kc (hd:=d7 _) (e:=?_) | refine Kd (e:=?_) | refine Kl rfl ?_ | fail) <;> ((conv=>whnf);repeat'(refine Y d8 rfl ?_;conv=>whnf)))
     refine Meets.k (A7 3 (n + 1)) ?_
     ((conv=>whnf);repeat'(refine Y d8 rfl ?_;conv=>whnf))
     refine ⟨psO ts3 u,.d (leC 3 (n + 1)).d,?_,?_⟩
     rotate_left 1
     . rw [hres]
       exact ⟨rfl,rfl⟩
     repeat' (first | exact True.intro | exact rfl | refine And.intro ?_ ?_)
   . rw [h4] at hres
     have hnum:=p8 ts.tail.tail u (hq2.isW g3)
     refine ⟨psO ts.tail u,_,⟨?_,?_⟩,(g8 ts.tail u [62,61] hq2.1 g1).mono ?_⟩
     . exact Kr
     . exact Kr
     rintro _ O2 ⟨rfl,rfl⟩
     ((conv=>whnf);repeat'(refine Y d8 rfl ?_;conv=>whnf))
     refine ⟨psO ts.tail u,_,⟨?_,?_⟩,(g8 ts.tail u [62] hq2.1 g2).mono ?_⟩
     . exact Kr
     . exact Kr
     rintro _ O2 ⟨rfl,rfl⟩
     ((conv=>whnf);repeat'(refine Y d8 rfl ?_;conv=>whnf))
     refine ⟨psO ts.tail u,_,⟨?_,?_⟩,(q7 ts.tail u [60,61] hq2.1 g3).mono ?_⟩
     . exact Kr
     . exact Kr
     rintro _ O2 ⟨rfl,rfl⟩
     ((conv=>whnf);repeat'(refine Y d8 rfl ?_;conv=>whnf))
     refine ⟨psO ts.tail.tail u,_,⟨?_,?_⟩,(hnum).mono ?_⟩
     . exact Kr
     . exact Kr
     intro o O2 ho
     have hh:=p4 ho
     clear ho
     obtain hh | hh:=hh
     . obtain ⟨a,e,ts9,hU,rfl,rfl⟩:=hh
       (try dsimp only at hU)
       rw [hU] at hres
       (try rw [Rs.bind_er] at hres)
       ((conv=>whnf);repeat'(refine Y d8 rfl ?_;conv=>whnf))
       refine ⟨psO ts9 u,⟨?_,?_⟩,?_⟩
       . exact Kr
       . exact Kr
       rw [hres]
       exact ⟨_,rfl,rfl⟩
     obtain ⟨n,ts3,hU,rfl,rfl⟩:=hh
     (try dsimp only at hU)
     rw [hU] at hres
     (try rw [Rs.bind_ok] at hres)
     ((conv=>whnf);repeat'(refine Y d8 rfl ?_;conv=>whnf))
     have hle:=P0 hU
     repeat' ((first | (intro hlq; (try simp only [SL] at hlq)) | refine Ks ?_ | refine Kq ?_ | refine Kt ?_ | refine Ka ?_ | refine Kb ?_ | refine Kc (hd:=rfl) (e:=?_) | refine Kc (hd:=d7 _) (e:=?_) | refine Kd (e:=?_) | refine Kl rfl ?_ | fail) <;> ((conv=>whnf);repeat'(refine Y d8 rfl ?_;conv=>whnf)))
     refine Meets.k (A7 3 (n + 1)) ?_
     ((conv=>whnf);repeat'(refine Y d8 rfl ?_;conv=>whnf))
     refine Meets.k (L6 (leC 3 (n + 1))) ?_
     ((conv=>whnf);repeat'(refine Y d8 rfl ?_;conv=>whnf))
     refine ⟨psO ts3 u,.d (r6 (leC 3 (n + 1))).d,?_,?_⟩
     rotate_left 1
     . rw [hres]
       exact ⟨rfl,rfl⟩
     repeat' (first | exact True.intro | exact rfl | refine And.intro ?_ ?_)
   . rw [h4] at hres
     have hnum:=p8 ts.tail.tail u (hq2.isW g4)
     refine ⟨psO ts.tail u,_,⟨?_,?_⟩,(g8 ts.tail u [62,61] hq2.1 g1).mono ?_⟩
     . exact Kr
     . exact Kr
     rintro _ O2 ⟨rfl,rfl⟩
     ((conv=>whnf);repeat'(refine Y d8 rfl ?_;conv=>whnf))
     refine ⟨psO ts.tail u,_,⟨?_,?_⟩,(g8 ts.tail u [62] hq2.1 g2).mono ?_⟩
     . exact Kr
     . exact Kr
     rintro _ O2 ⟨rfl,rfl⟩
     ((conv=>whnf);repeat'(refine Y d8 rfl ?_;conv=>whnf))
     refine ⟨psO ts.tail u,_,⟨?_,?_⟩,(g8 ts.tail u [60,61] hq2.1 g3).mono ?_⟩
     . exact Kr
     . exact Kr
     rintro _ O2 ⟨rfl,rfl⟩
     ((conv=>whnf);repeat'(refine Y d8 rfl ?_;conv=>whnf))
     refine ⟨psO ts.tail u,_,⟨?_,?_⟩,(q7 ts.tail u [60] hq2.1 g4).mono ?_⟩
     . exact Kr
     . exact Kr
     rintro _ O2 ⟨rfl,rfl⟩
     ((conv=>whnf);repeat'(refine Y d8 rfl ?_;conv=>whnf))
     refine ⟨psO ts.tail.tail u,_,⟨?_,?_⟩,(hnum).mono ?_⟩
     . exact Kr
     . exact Kr
     intro o O2 ho
     have hh:=p4 ho
     clear ho
     obtain hh | hh:=hh
     . obtain ⟨a,e,ts9,hU,rfl,rfl⟩:=hh
       (try dsimp only at hU)
       rw [hU] at hres
       (try rw [Rs.bind_er] at hres)
       ((conv=>whnf);repeat'(refine Y d8 rfl ?_;conv=>whnf))
       refine ⟨psO ts9 u,⟨?_,?_⟩,?_⟩
       . exact Kr
       . exact Kr
       rw [hres]
       exact ⟨_,rfl,rfl⟩
     obtain ⟨n,ts3,hU,rfl,rfl⟩:=hh
     (try dsimp only at hU)
     rw [hU] at hres
     (try rw [Rs.bind_ok] at hres)
     ((conv=>whnf);repeat'(refine Y d8 rfl ?_;conv=>whnf))
     refine Meets.k (A7 3 n) ?_
     ((conv=>whnf);repeat'(refine Y d8 rfl ?_;conv=>whnf))
     refine Meets.k (L6 (leC 3 n)) ?_
     ((conv=>whnf);repeat'(refine Y d8 rfl ?_;conv=>whnf))
     refine ⟨psO ts3 u,.d (r6 (leC 3 n)).d,?_,?_⟩
     rotate_left 1
     . rw [hres]
       exact ⟨rfl,rfl⟩
     repeat' (first | exact True.intro | exact rfl | refine And.intro ?_ ?_)
   . rw [h4] at hres
     have hnum:=p8 ts.tail.tail u (hq2.isW g5)
     refine ⟨psO ts.tail u,_,⟨?_,?_⟩,(g8 ts.tail u [62,61] hq2.1 g1).mono ?_⟩
     . exact Kr
     . exact Kr
     rintro _ O2 ⟨rfl,rfl⟩
     ((conv=>whnf);repeat'(refine Y d8 rfl ?_;conv=>whnf))
     refine ⟨psO ts.tail u,_,⟨?_,?_⟩,(g8 ts.tail u [62] hq2.1 g2).mono ?_⟩
     . exact Kr
     . exact Kr
     rintro _ O2 ⟨rfl,rfl⟩
     ((conv=>whnf);repeat'(refine Y d8 rfl ?_;conv=>whnf))
     refine ⟨psO ts.tail u,_,⟨?_,?_⟩,(g8 ts.tail u [60,61] hq2.1 g3).mono ?_⟩
     . exact Kr
     . exact Kr
     rintro _ O2 ⟨rfl,rfl⟩
     ((conv=>whnf);repeat'(refine Y d8 rfl ?_;conv=>whnf))
     refine ⟨psO ts.tail u,_,⟨?_,?_⟩,(g8 ts.tail u [60] hq2.1 g4).mono ?_⟩
     . exact Kr
     . exact Kr
     rintro _ O2 ⟨rfl,rfl⟩
     ((conv=>whnf);repeat'(refine Y d8 rfl ?_;conv=>whnf))
     refine ⟨psO ts.tail u,_,⟨?_,?_⟩,(q7 ts.tail u [61] hq2.1 g5).mono ?_⟩
     . exact Kr
     . exact Kr
     rintro _ O2 ⟨rfl,rfl⟩
     ((conv=>whnf);repeat'(refine Y d8 rfl ?_;conv=>whnf))
     refine ⟨psO ts.tail.tail u,_,⟨?_,?_⟩,(hnum).mono ?_⟩
     . exact Kr
     . exact Kr
     intro o O2 ho
     have hh:=p4 ho
     clear ho
     obtain hh | hh:=hh
     . obtain ⟨a,e,ts9,hU,rfl,rfl⟩:=hh
       (try dsimp only at hU)
       rw [hU] at hres
       (try rw [Rs.bind_er] at hres)
       ((conv=>whnf);repeat'(refine Y d8 rfl ?_;conv=>whnf))
       refine ⟨psO ts9 u,⟨?_,?_⟩,?_⟩
       . exact Kr
       . exact Kr
       rw [hres]
       exact ⟨_,rfl,rfl⟩
     obtain ⟨n,ts3,hU,rfl,rfl⟩:=hh
     (try dsimp only at hU)
     rw [hU] at hres
     (try rw [Rs.bind_ok] at hres)
     ((conv=>whnf);repeat'(refine Y d8 rfl ?_;conv=>whnf))
     have hle:=P0 hU
     refine Meets.k (A7 3 n) ?_
     ((conv=>whnf);repeat'(refine Y d8 rfl ?_;conv=>whnf))
     repeat' ((first | (intro hlq; (try simp only [SL] at hlq)) | refine Ks ?_ | refine Kq ?_ | refine Kt ?_ | refine Ka ?_ | refine Kb ?_ | refine Kc (hd:=rfl) (e:=?_) | refine Kc (hd:=d7 _) (e:=?_) | refine Kd (e:=?_) | refine Kl rfl ?_ | fail) <;> ((conv=>whnf);repeat'(refine Y d8 rfl ?_;conv=>whnf)))
     refine Meets.k (A7 3 (n + 1)) ?_
     ((conv=>whnf);repeat'(refine Y d8 rfl ?_;conv=>whnf))
     refine Meets.k (L6 (leC 3 (n + 1))) ?_
     ((conv=>whnf);repeat'(refine Y d8 rfl ?_;conv=>whnf))
     refine ⟨psO ts3 u,.d (⟨2,0,0,[leC 3 n,r6 (leC 3 (n + 1))]⟩ : Cond).d,?_,?_⟩
     rotate_left 1
     . rw [hres]
       exact ⟨rfl,rfl⟩
     repeat' (first | exact True.intro | exact rfl | refine And.intro ?_ ?_)
   . rw [h4] at hres
     refine ⟨psO ts.tail u,_,⟨?_,?_⟩,(g8 ts.tail u [62,61] hq2.1 g1).mono ?_⟩
     . exact Kr
     . exact Kr
     rintro _ O2 ⟨rfl,rfl⟩
     ((conv=>whnf);repeat'(refine Y d8 rfl ?_;conv=>whnf))
     refine ⟨psO ts.tail u,_,⟨?_,?_⟩,(g8 ts.tail u [62] hq2.1 g2).mono ?_⟩
     . exact Kr
     . exact Kr
     rintro _ O2 ⟨rfl,rfl⟩
     ((conv=>whnf);repeat'(refine Y d8 rfl ?_;conv=>whnf))
     refine ⟨psO ts.tail u,_,⟨?_,?_⟩,(g8 ts.tail u [60,61] hq2.1 g3).mono ?_⟩
     . exact Kr
     . exact Kr
     rintro _ O2 ⟨rfl,rfl⟩
     ((conv=>whnf);repeat'(refine Y d8 rfl ?_;conv=>whnf))
     refine ⟨psO ts.tail u,_,⟨?_,?_⟩,(g8 ts.tail u [60] hq2.1 g4).mono ?_⟩
     . exact Kr
     . exact Kr
     rintro _ O2 ⟨rfl,rfl⟩
     ((conv=>whnf);repeat'(refine Y d8 rfl ?_;conv=>whnf))
     refine ⟨psO ts.tail u,_,⟨?_,?_⟩,(g8 ts.tail u [61] hq2.1 g5).mono ?_⟩
     . exact Kr
     . exact Kr
     rintro _ O2 ⟨rfl,rfl⟩
     ((conv=>whnf);repeat'(refine Y d8 rfl ?_;conv=>whnf))
     refine ⟨psO ts.tail u,_,⟨?_,?_⟩,(B2 ts.tail u 60 hq2.1).mono ?_⟩
     . exact Kr
     . exact Kr
     rintro _ O2 ⟨rfl,rfl⟩
     ((conv=>whnf);repeat'(refine Y d8 rfl ?_;conv=>whnf))
     refine ⟨psO ts.tail u,⟨?_,?_⟩,?_⟩
     . exact Kr
     . exact Kr
     rw [hres]
     exact ⟨_,rfl,rfl⟩
 . rw [h4] at hres
   dsimp only at hres
   refine i6 tok d8 Tryz.func111 rfl (by kernel_rfl) Tryz.ntmps111 (by simp) λ B0 W0 V0 lent g0=>?_
   ((conv=>whnf);repeat'(refine Y d8 rfl ?_;conv=>whnf))
   refine ⟨psO ts u,_,⟨?_,?_⟩,(E4 ts u [110,111,116] he h1).mono ?_⟩
   . exact Kr
   . exact Kr
   rintro _ O2 ⟨rfl,rfl⟩
   ((conv=>whnf);repeat'(refine Y d8 rfl ?_;conv=>whnf))
   refine ⟨psO ts u,_,⟨?_,?_⟩,(E4 ts u [40] he h2).mono ?_⟩
   . exact Kr
   . exact Kr
   rintro _ O2 ⟨rfl,rfl⟩
   ((conv=>whnf);repeat'(refine Y d8 rfl ?_;conv=>whnf))
   refine ⟨psO ts u,_,⟨?_,?_⟩,(g8 ts u [110,111,116] he h1).mono ?_⟩
   . exact Kr
   . exact Kr
   rintro _ O2 ⟨rfl,rfl⟩
   ((conv=>whnf);repeat'(refine Y d8 rfl ?_;conv=>whnf))
   refine ⟨psO ts u,_,⟨?_,?_⟩,(g8 ts u [40] he h2).mono ?_⟩
   . exact Kr
   . exact Kr
   rintro _ O2 ⟨rfl,rfl⟩
   ((conv=>whnf);repeat'(refine Y d8 rfl ?_;conv=>whnf))
   refine ⟨psO ts u,_,⟨?_,?_⟩,(g8 ts u [100,105,115,116,97,110,99,101] he h3).mono ?_⟩
   . exact Kr
   . exact Kr
   rintro _ O2 ⟨rfl,rfl⟩
   ((conv=>whnf);repeat'(refine Y d8 rfl ?_;conv=>whnf))
   refine ⟨psO ts u,_,⟨?_,?_⟩,(g8 ts u [102,105,101,108,100] he h5).mono ?_⟩
   . exact Kr
   . exact Kr
   rintro _ O2 ⟨rfl,rfl⟩
   ((conv=>whnf);repeat'(refine Y d8 rfl ?_;conv=>whnf))
   refine ⟨psO ts u,_,⟨?_,?_⟩,(g8 ts u [115,104,111,114,116] he h6).mono ?_⟩
   . exact Kr
   . exact Kr
   rintro _ O2 ⟨rfl,rfl⟩
   ((conv=>whnf);repeat'(refine Y d8 rfl ?_;conv=>whnf))
   refine ⟨psO ts u,_,⟨?_,?_⟩,(B2 ts u 60 he).mono ?_⟩
   . exact Kr
   . exact Kr
   rintro _ O2 ⟨rfl,rfl⟩
   ((conv=>whnf);repeat'(refine Y d8 rfl ?_;conv=>whnf))
   refine ⟨psO ts u,⟨?_,?_⟩,?_⟩
   . exact Kr
   . exact Kr
   rw [hres]
   exact ⟨_,rfl,rfl⟩
end Go.Proofs.YtaopegkpjhkooaaGreatDoor.Dx
