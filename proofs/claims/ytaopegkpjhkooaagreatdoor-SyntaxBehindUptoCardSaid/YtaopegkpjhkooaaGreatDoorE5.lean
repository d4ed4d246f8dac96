/- Chapter 06: the closures that recover. -/
import Derived.Test.YtaopegkpjhkooaaGreatDoorDx
import Derived.Test.YtaopegkpjhkooaaGreatDoorDl
import Derived.Test.YtaopegkpjhkooaaGreatDoorE4
import Derived.Test.YtaopegkpjhkooaaGreatDoorDs
set_option linter.all false
namespace Go.Proofs.YtaopegkpjhkooaaGreatDoor.Dx
open Go Go.RowKit
set_option maxRecDepth 100000
set_option maxHeartbeats 16000000
theorem b3m (b0 b1 b2 b3 b5 b6 : D) : MeetsD Tryz.prog 54 [.loc 4 0,.loc 5 0,.loc 6 0] [(4,.box [.d b0,.d b1,.d b2,.d b3] 26),(5,.box [.d b5] 3),(6,.box [.d b6] 32)] none λ O'=>O' = [(4,.box [.d b0,.d b1,.d b2,.d b3] 26),(5,.box [.d b5] 3),(6,.box [.d b6] 32)]:=by
 refine V8 tok {} Tryz.func54 rfl (by kernel_rfl) Tryz.ntmps54 (by simp) (by decide) (by decide) λ B0 W0 V0 lent g0=>?_
 ((conv=>whnf);repeat'(refine Z rfl ?_;conv=>whnf))
 refine ⟨_,.d (.tup []),?_,⟨⟨_,rfl⟩,rfl⟩⟩
 repeat' (first | exact True.intro | exact rfl | refine And.intro ?_ ?_ | (exact U2 _ _))
abbrev a0a : Cfg:={nm:=[(4,54),(6,56)]}
theorem a7y (b0 b1 b2 b3 b5 b6 : D) (at_ e : Int) : MeetsD Tryz.prog 54 [.loc 4 0,.loc 5 0,.loc 6 0] [(4,.box [.d b0,.d b1,.d b2,.d b3] 26),(5,.box [.d b5] 3),(6,.box [.d b6] 32)] (some (.iface 130 (.agg [iD at_,iD e])))
 λ O'=>O' = [(4,.box [.d (iD 0),.d (iD 0),.d (iD 0),.d (.sl [])] 26),(5,.box [.d (iD at_)] 3),(6,.box [.d (iD e)] 32)]:=by
 refine V8 tok a0a Tryz.func54 rfl (by kernel_rfl) Tryz.ntmps54 (by simp) (by decide) (by decide) λ B0 W0 V0 lent g0=>?_
 ((conv=>whnf);repeat'(refine Y a0a rfl ?_;conv=>whnf))
 refine ⟨λ h=>absurd h (by decide),λ _=>?_⟩
 ((conv=>whnf);repeat'(refine Y a0a rfl ?_;conv=>whnf))
 refine k9 tok (cf:=a0a) (by kernel_rfl) [.p 0,.p 1,.p 2,.p 3,.p 4,.s 5 [0],.s 6 [2,1],.s 7 [4,3]] (by kernel_rfl) ?_
 ((conv=>whnf);repeat'(refine Y a0a rfl ?_;conv=>whnf))
 repeat' ((first | (intro hlq; (try simp only [SL] at hlq)) | refine Ks ?_ | refine Kq ?_ | refine Kt ?_ | ((refine Kh (λ hb=>?_) λ hb=>?_) <;> (try simp only [BL] at hb)) | refine Ka ?_ | refine Kb ?_ | refine Kc (hd:=rfl) (e:=?_) | refine Kc (hd:=d7 _) (e:=?_) | refine Kd (e:=?_) | refine Kl rfl ?_ | fail) <;> ((conv=>whnf);repeat'(refine Y a0a rfl ?_;conv=>whnf)))
 refine ⟨_,.d (.tup []),?_,⟨⟨_,rfl⟩,rfl⟩⟩
 repeat' (first | exact True.intro | exact rfl | refine And.intro ?_ ?_ | (exact U2 _ _))
end Go.Proofs.YtaopegkpjhkooaaGreatDoor.Dx
/- Chapter 06: parsing conditions and steps. -/
namespace Go.Proofs.YtaopegkpjhkooaaGreatDoor.Dx
open Go Go.RowKit
set_option maxRecDepth 100000
set_option maxHeartbeats 16000000
abbrev pcO (ts : List Tk) (cs : List Base) (X : List (Nat × Blk)) : List (Nat × Blk):=(5000,.box (.d (.sl (ts.map tkC)) :: cs) 133) :: X
def RdP {α : Type} (f : α -> D) (r : Rs α) (cs : List Base) (X : List (Nat × Blk)) (o : Out) (O' : List (Nat × Blk)) : Prop:=match r with
 | .ok a ts=>o = .ret (.d (f a)) /\ O' = pcO ts cs X
 | .er a e=>∃ ts',o = .pan (.iface 130 (.agg [iD (a : Int),iD e])) /\ O' = pcO ts' cs X
 | .out=>False
theorem b0y (us : List Value) (h : us.length = 16) : rrB (λ i=>us.getD i undef) = us.map t6:=by
 match us,h with
 | [_,_,_,_,_,_,_,_,_,_,_,_,_,_,_,_],_=>rfl
theorem a9g {F : Nat} {args : List Base} {ts : List Tk} {cs : List Base} {X : List (Nat × Blk)} {R : Out -> List Tk -> Prop} (hc : cs.length = 16)
 (h : ∀ u,MeetsR Tryz.prog F args (psO ts u) λ o O'=>∃ ts',O' = psO ts' u /\ R o ts') (hR : ∀ o ts',R o ts' -> (∃ d,o = .ret (.d d)) \/ ∃ d,o = .pan d) :
 MeetsR Tryz.prog F args (pcO ts cs X) λ o O'=>∃ ts',O' = pcO ts' cs X /\ R o ts':=by
 have hk:=MeetsR.keepRaw (P:=Tryz.prog) (F:=F) (args:=args) (n:=5000) (l:=.sl (ts.map tkC)) (cs:=cs) (ty:=133) (X:=X) (R:=λ o l'=>∃ ts',l' = .sl (ts'.map tkC) /\ R o ts') (λ us hus=>by
  have h1:=h λ i=>us.getD i undef
  unfold psO at h1
  rw [b0y us (hus.trans hc)] at h1
  refine h1.mono ?_
  rintro o O' ⟨ts',rfl,hr⟩
  refine ⟨.sl (ts'.map tkC),?_,ts',rfl,hr⟩
  rw [<- b0y us (hus.trans hc)]) (λ o l' ⟨ts',_,hr⟩=>hR o ts' hr)
 refine hk.mono ?_
 rintro o O' ⟨l',rfl,ts',rfl,hr⟩
 exact ⟨ts',rfl,hr⟩
theorem X1 {α : Type} {F : Nat} {args : List Base} {ts : List Tk} {cs : List Base} {X : List (Nat × Blk)} {f : α -> D} {r : Rs α} (hc : cs.length = 16)
 (h : ∀ u,MeetsR Tryz.prog F args (psO ts u) λ o O'=>RdO f r u o O') : MeetsR Tryz.prog F args (pcO ts cs X) λ o O'=>RdP f r cs X o O':=by
 refine (a9g (R:=λ o ts'=>match r with | .ok a ts=>o = .ret (.d (f a)) /\ ts' = ts | .er a e=>o = .pan (.iface 130 (.agg [iD (a : Int),iD e])) | .out=>False) hc (λ u=>(h u).mono λ o O' ho=>?_) λ o ts' hr=>?_).mono ?_
 . cases r with
   | ok a ts=>exact ⟨ts,ho.2,ho.1,rfl⟩
   | er a e=>obtain ⟨ts',h1,h2⟩:=ho; exact ⟨ts',h2,h1⟩
   | out=>exact ho.elim
 . cases r with
   | ok a ts=>exact .inl ⟨_,hr.1⟩
   | er a e=>exact .inr ⟨_,hr⟩
   | out=>exact hr.elim
 . rintro o O' ⟨ts',rfl,hr⟩
   cases r with
   | ok a ts=>exact ⟨hr.1,by rw [hr.2]⟩
   | er a e=>exact ⟨ts',hr,rfl⟩
   | out=>exact hr.elim
theorem a0r {F : Nat} {args : List Base} {ts ts' : List Tk} {cs : List Base} {X : List (Nat × Blk)} {o0 : Out} (hc : cs.length = 16) (ho : (∃ d,o0 = .ret (.d d)) \/ ∃ d,o0 = .pan d)
 (h : ∀ u,MeetsR Tryz.prog F args (psO ts u) λ o O'=>o = o0 /\ O' = psO ts' u) : MeetsR Tryz.prog F args (pcO ts cs X) λ o O'=>o = o0 /\ O' = pcO ts' cs X:=by
 refine (a9g (R:=λ o t=>o = o0 /\ t = ts') hc (λ u=>(h u).mono λ o O' hh=>⟨ts',hh.2,hh.1,rfl⟩) λ o t hr=>?_).mono ?_
 . obtain ⟨rfl,_⟩:=hr
   exact ho
 . rintro o O' ⟨t,rfl,h1,rfl⟩
   exact ⟨h1,rfl⟩
theorem b0x {α : Type} {f : α -> D} {r : Rs α} {cs : List Base} {X : List (Nat × Blk)} {o : Out} {O' : List (Nat × Blk)} (h : RdP f r cs X o O') :
 (∃ a e ts',r = .er a e /\ o = .pan (.iface 130 (.agg [iD (a : Int),iD e])) /\ O' = pcO ts' cs X) \/ ∃ a ts',r = .ok a ts' /\ o = .ret (.d (f a)) /\ O' = pcO ts' cs X:=by
 cases r with
 | out=>exact h.elim
 | er a e=>obtain ⟨ts',h1,h2⟩:=h; exact .inl ⟨a,e,ts',rfl,h1,h2⟩
 | ok a ts=>exact .inr ⟨a,ts,rfl,h.1,h.2⟩
abbrev w3 : List Base:=[.d (.str []),.d (.sl []),.d (.sl []),.d (.sl []),.d (.sl []),.d (.sl []),.d (.sl []),.d (.sl []),.d (.sl []),.d (iD 0),.d (iD 0),.d (iD 0),.d (iD 0),.d (iD 0),.d (iD 0),.d (iD 0)]
theorem a3i (ts : List Tk) (u : Nat -> Value) (he : EndsT ts) : MeetsR Tryz.prog 55 [.loc 5000 0] (psO ts u) λ o O'=>o = .ret (.d (.agg (tkC (hdT ts)))) /\ O' = psO ts u:=by
 obtain ⟨t,r,rfl⟩:=he.cons
 exact E1 t r u
theorem b3v (ts : List Tk) (u : Nat -> Value) (hq : QT ts) (hn : condP FU 0 ts ≠ .out) : MeetsR Tryz.prog 27 [.loc 5000 0] (psO ts u) λ o O'=>RdO Cond.d (condP FU 0 ts) u o O':=by
 have hc:=a7Q FU (by decide) 0 ts u (by omega) hq hn
 obtain ⟨res,hres⟩ : ∃ res,res = condP FU 0 ts:=⟨_,rfl⟩
 rw [<- hres]
 refine i6 tok {rs:=[4]} Tryz.func27 rfl (by kernel_rfl) Tryz.ntmps27 (by simp) λ B0 W0 V0 lent g0=>?_
 ((conv=>whnf);repeat'(refine Y {rs:=[4]} rfl ?_;conv=>whnf))
 refine ⟨psO ts u,_,⟨?_,?_⟩,(hc).mono ?_⟩
 . exact Kr
 . exact Kr
 intro o O2 ho
 have hh:=p4 ho
 clear ho
 obtain hh | hh:=hh
 . obtain ⟨a,e,ts9,hU,rfl,rfl⟩:=hh
   (try dsimp only at hU)
   rw [hU] at hres
   (try rw [Rs.bind_er] at hres)
   ((conv=>whnf);repeat'(refine Y {rs:=[4]} rfl ?_;conv=>whnf))
   refine ⟨psO ts9 u,⟨?_,?_⟩,?_⟩
   . exact Kr
   . exact Kr
   rw [hres]
   exact ⟨_,rfl,rfl⟩
 obtain ⟨c,ts2,hU,rfl,rfl⟩:=hh
 (try dsimp only at hU)
 rw [hU] at hres
 (try rw [Rs.bind_ok] at hres)
 ((conv=>whnf);repeat'(refine Y {rs:=[4]} rfl ?_;conv=>whnf))
 refine ⟨psO ts2 u,.d c.d,?_,?_⟩
 rotate_left 1
 . rw [hres]
   exact ⟨rfl,rfl⟩
 repeat' (first | exact True.intro | exact rfl | refine And.intro ?_ ?_)
theorem b9k (ts : List Tk) (u : Nat -> Value) (hq : QT ts) (hn : l6 FU 0 [] ts ≠ .out) : MeetsR Tryz.prog 31 [.loc 5000 0] (psO ts u) λ o O'=>RdO stD (l6 FU 0 [] ts) u o O':=by
 have hc:=(a6l FU (by decide) FU (Nat.le_refl _)).1 0 ts u (by omega) hq hn
 dsimp only at hc
 obtain ⟨res,hres⟩ : ∃ res,res = l6 FU 0 [] ts:=⟨_,rfl⟩
 rw [<- hres]
 refine i6 tok {rs:=[4]} Tryz.func31 rfl (by kernel_rfl) Tryz.ntmps31 (by simp) λ B0 W0 V0 lent g0=>?_
 ((conv=>whnf);repeat'(refine Y {rs:=[4]} rfl ?_;conv=>whnf))
 refine ⟨psO ts u,_,⟨?_,?_⟩,(hc).mono ?_⟩
 . exact Kr
 . exact Kr
 intro o O2 ho
 have hh:=p4 ho
 clear ho
 obtain hh | hh:=hh
 . obtain ⟨a,e,ts9,hU,rfl,rfl⟩:=hh
   (try dsimp only at hU)
   rw [hU] at hres
   (try rw [Rs.bind_er] at hres)
   ((conv=>whnf);repeat'(refine Y {rs:=[4]} rfl ?_;conv=>whnf))
   refine ⟨psO ts9 u,⟨?_,?_⟩,?_⟩
   . exact Kr
   . exact Kr
   rw [hres]
   exact ⟨_,rfl,rfl⟩
 obtain ⟨l,ts2,hU,rfl,rfl⟩:=hh
 (try dsimp only at hU)
 rw [hU] at hres
 (try rw [Rs.bind_ok] at hres)
 ((conv=>whnf);repeat'(refine Y {rs:=[4]} rfl ?_;conv=>whnf))
 refine ⟨psO ts2 u,.d (stD l),?_,?_⟩
 rotate_left 1
 . rw [hres]
   exact ⟨rfl,rfl⟩
 repeat' (first | exact True.intro | exact rfl | refine And.intro ?_ ?_)
abbrev q9 : Cfg:={nm:=[(31,5000)],rs:=[34,36,40]}
theorem b6Y (hT : s8) (src : List UInt8) (hl : src.length <= 65536) : Meets Tryz.prog 26 [.sl (d9 src),.fn 27 [] []] λ d=>d = .tup [(s6 src).1.d,iD (s6 src).2.1,iD (s6 src).2.2]:=by
 have htk:=R2 hT src hl
 have hq:=a3L src hl
 have hfu:=a7P src hl
 obtain ⟨x,hx⟩ : ∃ x,x = s6 src:=⟨_,rfl⟩
 rw [<- hx]
 unfold s6 z6 at hx
 refine a2M tok q9 Tryz.func26 rfl (by kernel_rfl) Tryz.ntmps26 (by simp) 4 rfl (by decide) λ B0 W0 V0 lent g0=>?_
 refine C4 tok q9 ?_
 ((conv=>whnf);repeat'(refine Y q9 rfl ?_;conv=>whnf))
 refine C4 tok q9 ?_
 ((conv=>whnf);repeat'(refine Y q9 rfl ?_;conv=>whnf))
 refine Meets.k htk ?_
 ((conv=>whnf);repeat'(refine Y q9 rfl ?_;conv=>whnf))
 refine C4 tok q9 ?_
 ((conv=>whnf);repeat'(refine Y q9 rfl ?_;conv=>whnf))
 refine ⟨λ h=>absurd h (by decide),λ _=>?_⟩
 ((conv=>whnf);repeat'(refine Y q9 rfl ?_;conv=>whnf))
 refine C4 tok q9 ?_
 ((conv=>whnf);repeat'(refine Y q9 rfl ?_;conv=>whnf))
 repeat' ((first | (intro hlq; (try simp only [SL] at hlq)) | refine Ks ?_ | refine Kq ?_ | refine Kt ?_ | refine Ka ?_ | refine Kb ?_ | refine Kc (hd:=rfl) (e:=?_) | refine Kc (hd:=d7 _) (e:=?_) | refine Kd (e:=?_) | refine Kl rfl ?_ | fail) <;> ((conv=>whnf);repeat'(refine Y q9 rfl ?_;conv=>whnf)))
 refine ⟨λ h0=>?_,λ h0=>?_⟩ <;> (try simp only [BL] at h0) <;> ((conv=>whnf);repeat'(refine Y q9 rfl ?_;conv=>whnf))
 . obtain ⟨b,bs,hb⟩:=List.exists_cons_of_length_pos (l:=bads src 0 (-1) 0) (by omega)
   rw [hb] at hx ⊢
   dsimp only at hx
   refine k9 tok (cf:=q9) (by kernel_rfl) [.p 0,.p 1,.p 2,.p 3,.p 4,.s 5 [0],.s 6 [4,1,2,3],.s 7 []] (by kernel_rfl) ?_
   ((conv=>whnf);repeat'(refine Y q9 rfl ?_;conv=>whnf))
   repeat' ((first | (intro hlq; (try simp only [SL] at hlq)) | refine Ks ?_ | refine Kq ?_ | refine Kt ?_ | ((refine Kh (λ hb=>?_) λ hb=>?_) <;> (try simp only [BL] at hb)) | refine Ka ?_ | refine Kb ?_ | refine Kc (hd:=rfl) (e:=?_) | refine Kc (hd:=d7 _) (e:=?_) | refine Kd (e:=?_) | refine Kl rfl ?_ | fail) <;> ((conv=>whnf);repeat'(refine Y q9 rfl ?_;conv=>whnf)))
   refine ⟨prC b,⟨Int.le_refl _,rfl,rfl⟩,?_⟩
   ((conv=>whnf);repeat'(refine Y q9 rfl ?_;conv=>whnf))
   repeat' ((first | (intro hlq; (try simp only [SL] at hlq)) | refine Ks ?_ | refine Kq ?_ | refine Kt ?_ | ((refine Kh (λ hb=>?_) λ hb=>?_) <;> (try simp only [BL] at hb)) | refine Ka ?_ | refine Kb ?_ | refine Kc (hd:=rfl) (e:=?_) | refine Kc (hd:=d7 _) (e:=?_) | refine Kd (e:=?_) | refine Kl rfl ?_ | fail) <;> ((conv=>whnf);repeat'(refine Y q9 rfl ?_;conv=>whnf)))
   refine ⟨?_⟩
   rw [hx]
   rfl
 . have hb : bads src 0 (-1) 0 = []:=List.eq_nil_of_length_eq_zero (by omega)
   rw [hb] at hx
   dsimp only at hx
   refine a2j ?_
   conv=>whnf
   intro B0 W0 V0 lent g0 m0 dfr
   refine Y q9 rfl ?_
   ((conv=>whnf);repeat'(refine Y q9 rfl ?_;conv=>whnf))
   have hrd:=X1 (cs:=w3) (X:=[]) (ts:=toks src 0) rfl λ u=>b3v (toks src 0) u hq hfu
   refine ⟨pcO (toks src 0) w3 [],_,⟨?_,?_⟩,hrd.mono ?_⟩
   . exact Kr
   . exact Kr
   intro o O2 ho
   have hh:=b0x ho
   clear ho
   obtain hh | hh:=hh
   . obtain ⟨a,e,ts2,hU,rfl,rfl⟩:=hh
     rw [hU] at hx
     ((conv=>whnf);repeat'(refine Y q9 rfl ?_;conv=>whnf))
     refine ⟨[(4,.box [.d (iD 0),.d (iD 0),.d (iD 0),.d (.sl [])] 26),(5,.box [.d (iD 0)] 3),(6,.box [.d (iD 0)] 32)],⟨?_,rfl⟩,(a7y _ _ _ _ _ _ _ _).mono ?_⟩
     . exact Kr
     rintro _ rfl
     ((conv=>whnf);repeat'(refine Y q9 rfl ?_;conv=>whnf))
     refine ⟨?_⟩
     rw [hx]
     rfl
   obtain ⟨c,ts2,hU,rfl,rfl⟩:=hh
   rw [hU] at hx
   have hx' : x = if (hdT ts2).kind = 6 then (c,0,0) else (cz,((hdT ts2).at_ : Int),60):=hx
   have he2:=((V6 FU).2.2.2.1 0 _ hq _ _ hU).1
   have hnx:=a0r (cs:=w3) (X:=[]) rfl (.inl ⟨_,rfl⟩) λ u=>a3i ts2 u he2
   have hsp:=a0r (cs:=w3) (X:=[]) rfl (.inr ⟨_,rfl⟩) λ u=>B2 ts2 u 60 he2
   ((conv=>whnf);repeat'(refine Y q9 rfl ?_;conv=>whnf))
   refine ⟨pcO ts2 w3 [],_,⟨?_,?_⟩,hnx.mono ?_⟩
   . exact Kr
   . exact Kr
   rintro _ O2 ⟨rfl,rfl⟩
   ((conv=>whnf);repeat'(refine Y q9 rfl ?_;conv=>whnf))
   refine ⟨λ h6=>?_,λ h6=>?_⟩ <;> (try simp only [BL] at h6) <;> ((conv=>whnf);repeat'(refine Y q9 rfl ?_;conv=>whnf))
   . rw [if_neg (by omega)] at hx'
     refine ⟨pcO ts2 w3 [],_,⟨?_,?_⟩,hsp.mono ?_⟩
     . exact Kr
     . exact Kr
     rintro _ O2 ⟨rfl,rfl⟩
     ((conv=>whnf);repeat'(refine Y q9 rfl ?_;conv=>whnf))
     refine ⟨[(4,.box [.d (iD c.kind),.d (iD c.var),.d (iD c.n),.d (.sl (c.parts.map Cond.cells))] 26),(5,.box [.d (iD 0)] 3),(6,.box [.d (iD 0)] 32)],⟨?_,rfl⟩,(a7y _ _ _ _ _ _ _ _).mono ?_⟩
     . exact Kr
     rintro _ rfl
     ((conv=>whnf);repeat'(refine Y q9 rfl ?_;conv=>whnf))
     refine ⟨?_⟩
     rw [hx']
     rfl
   . rw [if_pos (by omega)] at hx'
     refine ⟨[(4,.box [.d (iD c.kind),.d (iD c.var),.d (iD c.n),.d (.sl (c.parts.map Cond.cells))] 26),(5,.box [.d (iD 0)] 3),(6,.box [.d (iD 0)] 32)],⟨?_,rfl⟩,(b3m _ _ _ _ _ _).mono ?_⟩
     . exact Kr
     rintro _ rfl
     ((conv=>whnf);repeat'(refine Y q9 rfl ?_;conv=>whnf))
     refine ⟨?_⟩
     rw [hx']
theorem a4c (hT : s8) (src : List UInt8) (hl : src.length <= 65536) : Meets Tryz.prog 14 [.sl (d9 src)] λ d=>d = .tup [(s6 src).1.d,iD (s6 src).2.1,iD (s6 src).2.2]:=by
 have hp:=b6Y hT src hl
 revert hp
 generalize s6 src = x
 intro hp
 refine enter tok {} Tryz.func14 rfl (by kernel_rfl) Tryz.ntmps14 (by simp) λ B0 W0 V0 lent g0=>?_
 ((conv=>whnf);repeat'(refine Z rfl ?_;conv=>whnf))
 refine Meets.k hp ?_
 ((conv=>whnf);repeat'(refine Z rfl ?_;conv=>whnf))
 exact ⟨rfl⟩
end Go.Proofs.YtaopegkpjhkooaaGreatDoor.Dx
/- Chapter 06: parsing steps. -/
namespace Go.Proofs.YtaopegkpjhkooaaGreatDoor.Dx
open Go Go.RowKit
set_option maxRecDepth 100000
set_option maxHeartbeats 16000000
theorem b3o (b0 b5 b6 : D) : MeetsD Tryz.prog 59 [.loc 4 0,.loc 5 0,.loc 6 0] [(4,.box [.d b0] 38),(5,.box [.d b5] 3),(6,.box [.d b6] 32)] none λ O'=>O' = [(4,.box [.d b0] 38),(5,.box [.d b5] 3),(6,.box [.d b6] 32)]:=by
 refine V8 tok {} Tryz.func59 rfl (by kernel_rfl) Tryz.ntmps59 (by simp) (by decide) (by decide) λ B0 W0 V0 lent g0=>?_
 ((conv=>whnf);repeat'(refine Z rfl ?_;conv=>whnf))
 refine ⟨_,.d (.tup []),?_,⟨⟨_,rfl⟩,rfl⟩⟩
 repeat' (first | exact True.intro | exact rfl | refine And.intro ?_ ?_ | (exact U2 _ _))
abbrev a0b : Cfg:={nm:=[(4,54),(6,56)]}
theorem a7A (b0 b5 b6 : D) (at_ e : Int) : MeetsD Tryz.prog 59 [.loc 4 0,.loc 5 0,.loc 6 0] [(4,.box [.d b0] 38),(5,.box [.d b5] 3),(6,.box [.d b6] 32)] (some (.iface 130 (.agg [iD at_,iD e])))
 λ O'=>O' = [(4,.box [.d (.sl [])] 38),(5,.box [.d (iD at_)] 3),(6,.box [.d (iD e)] 32)]:=by
 refine V8 tok a0b Tryz.func59 rfl (by kernel_rfl) Tryz.ntmps59 (by simp) (by decide) (by decide) λ B0 W0 V0 lent g0=>?_
 ((conv=>whnf);repeat'(refine Y a0b rfl ?_;conv=>whnf))
 refine ⟨λ h=>absurd h (by decide),λ _=>?_⟩
 ((conv=>whnf);repeat'(refine Y a0b rfl ?_;conv=>whnf))
 refine k9 tok (cf:=a0b) (by kernel_rfl) [.p 0,.p 1,.p 2,.p 3,.p 4,.s 5 [0],.s 6 [2,1],.s 7 [4,3]] (by kernel_rfl) ?_
 ((conv=>whnf);repeat'(refine Y a0b rfl ?_;conv=>whnf))
 repeat' ((first | (intro hlq; (try simp only [SL] at hlq)) | refine Ks ?_ | refine Kq ?_ | refine Kt ?_ | ((refine Kh (λ hb=>?_) λ hb=>?_) <;> (try simp only [BL] at hb)) | refine Ka ?_ | refine Kb ?_ | refine Kc (hd:=rfl) (e:=?_) | refine Kc (hd:=d7 _) (e:=?_) | refine Kd (e:=?_) | refine Kl rfl ?_ | fail) <;> ((conv=>whnf);repeat'(refine Y a0b rfl ?_;conv=>whnf)))
 refine ⟨_,.d (.tup []),?_,⟨⟨_,rfl⟩,rfl⟩⟩
 repeat' (first | exact True.intro | exact rfl | refine And.intro ?_ ?_ | (exact U2 _ _))
abbrev r4 : Cfg:={nm:=[(31,5000)],rs:=[34,36,40]}
theorem b6Z (hT : s8) (src : List UInt8) (hl : src.length <= 65536) : Meets Tryz.prog 30 [.sl (d9 src),.fn 31 [] []] λ d=>d = .tup [stD (t7 src).1,iD (t7 src).2.1,iD (t7 src).2.2]:=by
 have htk:=R2 hT src hl
 have hq:=a3L src hl
 have hfu:=b0Z src hl
 obtain ⟨x,hx⟩ : ∃ x,x = t7 src:=⟨_,rfl⟩
 rw [<- hx]
 unfold t7 z6 at hx
 refine a2M tok r4 Tryz.func30 rfl (by kernel_rfl) Tryz.ntmps30 (by simp) 4 rfl (by decide) λ B0 W0 V0 lent g0=>?_
 refine C4 tok r4 ?_
 ((conv=>whnf);repeat'(refine Y r4 rfl ?_;conv=>whnf))
 refine C4 tok r4 ?_
 ((conv=>whnf);repeat'(refine Y r4 rfl ?_;conv=>whnf))
 refine Meets.k htk ?_
 ((conv=>whnf);repeat'(refine Y r4 rfl ?_;conv=>whnf))
 refine C4 tok r4 ?_
 ((conv=>whnf);repeat'(refine Y r4 rfl ?_;conv=>whnf))
 refine ⟨λ h=>absurd h (by decide),λ _=>?_⟩
 ((conv=>whnf);repeat'(refine Y r4 rfl ?_;conv=>whnf))
 refine C4 tok r4 ?_
 ((conv=>whnf);repeat'(refine Y r4 rfl ?_;conv=>whnf))
 repeat' ((first | (intro hlq; (try simp only [SL] at hlq)) | refine Ks ?_ | refine Kq ?_ | refine Kt ?_ | refine Ka ?_ | refine Kb ?_ | refine Kc (hd:=rfl) (e:=?_) | refine Kc (hd:=d7 _) (e:=?_) | refine Kd (e:=?_) | refine Kl rfl ?_ | fail) <;> ((conv=>whnf);repeat'(refine Y r4 rfl ?_;conv=>whnf)))
 refine ⟨λ h0=>?_,λ h0=>?_⟩ <;> (try simp only [BL] at h0) <;> ((conv=>whnf);repeat'(refine Y r4 rfl ?_;conv=>whnf))
 . obtain ⟨b,bs,hb⟩:=List.exists_cons_of_length_pos (l:=bads src 0 (-1) 0) (by omega)
   rw [hb] at hx ⊢
   dsimp only at hx
   refine k9 tok (cf:=r4) (by kernel_rfl) [.p 0,.p 1,.p 2,.p 3,.p 4,.s 5 [0],.s 6 [4,1,2,3],.s 7 []] (by kernel_rfl) ?_
   ((conv=>whnf);repeat'(refine Y r4 rfl ?_;conv=>whnf))
   repeat' ((first | (intro hlq; (try simp only [SL] at hlq)) | refine Ks ?_ | refine Kq ?_ | refine Kt ?_ | ((refine Kh (λ hb=>?_) λ hb=>?_) <;> (try simp only [BL] at hb)) | refine Ka ?_ | refine Kb ?_ | refine Kc (hd:=rfl) (e:=?_) | refine Kc (hd:=d7 _) (e:=?_) | refine Kd (e:=?_) | refine Kl rfl ?_ | fail) <;> ((conv=>whnf);repeat'(refine Y r4 rfl ?_;conv=>whnf)))
   refine ⟨prC b,⟨Int.le_refl _,rfl,rfl⟩,?_⟩
   ((conv=>whnf);repeat'(refine Y r4 rfl ?_;conv=>whnf))
   repeat' ((first | (intro hlq; (try simp only [SL] at hlq)) | refine Ks ?_ | refine Kq ?_ | refine Kt ?_ | ((refine Kh (λ hb=>?_) λ hb=>?_) <;> (try simp only [BL] at hb)) | refine Ka ?_ | refine Kb ?_ | refine Kc (hd:=rfl) (e:=?_) | refine Kc (hd:=d7 _) (e:=?_) | refine Kd (e:=?_) | refine Kl rfl ?_ | fail) <;> ((conv=>whnf);repeat'(refine Y r4 rfl ?_;conv=>whnf)))
   refine ⟨?_⟩
   rw [hx]
   rfl
 . have hb : bads src 0 (-1) 0 = []:=List.eq_nil_of_length_eq_zero (by omega)
   rw [hb] at hx
   dsimp only at hx
   refine a2j ?_
   conv=>whnf
   intro B0 W0 V0 lent g0 m0 dfr
   refine Y r4 rfl ?_
   ((conv=>whnf);repeat'(refine Y r4 rfl ?_;conv=>whnf))
   have hrd:=X1 (cs:=w3) (X:=[]) (ts:=toks src 0) rfl λ u=>b9k (toks src 0) u hq hfu
   refine ⟨pcO (toks src 0) w3 [],_,⟨?_,?_⟩,hrd.mono ?_⟩
   . exact Kr
   . exact Kr
   intro o O2 ho
   have hh:=b0x ho
   clear ho
   obtain hh | hh:=hh
   . obtain ⟨a,e,ts2,hU,rfl,rfl⟩:=hh
     rw [hU] at hx
     ((conv=>whnf);repeat'(refine Y r4 rfl ?_;conv=>whnf))
     refine ⟨[(4,.box [.d (.sl [])] 38),(5,.box [.d (iD 0)] 3),(6,.box [.d (iD 0)] 32)],⟨?_,rfl⟩,(a7A _ _ _ _ _).mono ?_⟩
     . exact Kr
     rintro _ rfl
     ((conv=>whnf);repeat'(refine Y r4 rfl ?_;conv=>whnf))
     refine ⟨?_⟩
     rw [hx]
     rfl
   obtain ⟨c,ts2,hU,rfl,rfl⟩:=hh
   rw [hU] at hx
   have hx' : x = if (hdT ts2).kind = 6 then (c,0,0) else ([],((hdT ts2).at_ : Int),60):=hx
   have he2:=((Y4 FU).1 0 [] _ hq _ _ hU).1
   have hnx:=a0r (cs:=w3) (X:=[]) rfl (.inl ⟨_,rfl⟩) λ u=>a3i ts2 u he2
   have hsp:=a0r (cs:=w3) (X:=[]) rfl (.inr ⟨_,rfl⟩) λ u=>B2 ts2 u 60 he2
   ((conv=>whnf);repeat'(refine Y r4 rfl ?_;conv=>whnf))
   refine ⟨pcO ts2 w3 [],_,⟨?_,?_⟩,hnx.mono ?_⟩
   . exact Kr
   . exact Kr
   rintro _ O2 ⟨rfl,rfl⟩
   ((conv=>whnf);repeat'(refine Y r4 rfl ?_;conv=>whnf))
   refine ⟨λ h6=>?_,λ h6=>?_⟩ <;> (try simp only [BL] at h6) <;> ((conv=>whnf);repeat'(refine Y r4 rfl ?_;conv=>whnf))
   . rw [if_neg (by omega)] at hx'
     refine ⟨pcO ts2 w3 [],_,⟨?_,?_⟩,hsp.mono ?_⟩
     . exact Kr
     . exact Kr
     rintro _ O2 ⟨rfl,rfl⟩
     ((conv=>whnf);repeat'(refine Y r4 rfl ?_;conv=>whnf))
     refine ⟨[(4,.box [.d (stD c)] 38),(5,.box [.d (iD 0)] 3),(6,.box [.d (iD 0)] 32)],⟨?_,rfl⟩,(a7A _ _ _ _ _).mono ?_⟩
     . exact Kr
     rintro _ rfl
     ((conv=>whnf);repeat'(refine Y r4 rfl ?_;conv=>whnf))
     refine ⟨?_⟩
     rw [hx']
     rfl
   . rw [if_pos (by omega)] at hx'
     refine ⟨[(4,.box [.d (stD c)] 38),(5,.box [.d (iD 0)] 3),(6,.box [.d (iD 0)] 32)],⟨?_,rfl⟩,(b3o _ _ _).mono ?_⟩
     . exact Kr
     rintro _ rfl
     ((conv=>whnf);repeat'(refine Y r4 rfl ?_;conv=>whnf))
     refine ⟨?_⟩
     rw [hx']
theorem a4j (hT : s8) (src : List UInt8) (hl : src.length <= 65536) : Meets Tryz.prog 17 [.sl (d9 src)] λ d=>d = .tup [stD (t7 src).1,iD (t7 src).2.1,iD (t7 src).2.2]:=by
 have hp:=b6Z hT src hl
 revert hp
 generalize t7 src = x
 intro hp
 refine enter tok {} Tryz.func17 rfl (by kernel_rfl) Tryz.ntmps17 (by simp) λ B0 W0 V0 lent g0=>?_
 ((conv=>whnf);repeat'(refine Z rfl ?_;conv=>whnf))
 refine Meets.k hp ?_
 ((conv=>whnf);repeat'(refine Z rfl ?_;conv=>whnf))
 exact ⟨rfl⟩
end Go.Proofs.YtaopegkpjhkooaaGreatDoor.Dx
