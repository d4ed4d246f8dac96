/- Chapter 06: how token lists are read,as laws over kinds and texts alone (plain). -/
import Derived.Test.YtaopegkpjhkooaaGreatDoorDy
import Derived.Test.YtaopegkpjhkooaaGreatDoorE4
import Derived.Test.YtaopegkpjhkooaaGreatDoorE8
import Derived.Test.YtaopegkpjhkooaaGreatDoorDn
import Derived.Test.YtaopegkpjhkooaaGreatDoorEj
set_option linter.all false
namespace Go.Proofs.YtaopegkpjhkooaaGreatDoor.Dx
open Go Go.RowKit
set_option maxRecDepth 100000
abbrev BT:=Nat × List UInt8
def EvR {α : Type} (P : Nat -> List Tk -> Rs α) (l : List BT) (x : α) (l' : List BT) : Prop:=∀ ts : List Tk,ts.map Tk.bare = l -> ∃ ts',ts'.map Tk.bare = l' /\ ∃ k0,∀ k,k0 <= k -> P k ts = .ok x ts'
theorem a7q {ts : List Tk} {p : BT} {l : List BT} (h : ts.map Tk.bare = p :: l) : ∃ a r,ts = ⟨p.1,p.2,a⟩ :: r /\ r.map Tk.bare = l:=by
 cases ts with
 | nil=>cases h
 | cons t r =>
   simp only [List.map_cons,List.cons.injEq] at h
   obtain ⟨h1,h2⟩:=h
   refine ⟨t.at_,r,?_,h2⟩
   subst h1
   rfl
def hdB (l : List BT) : BT:=l.headD (6,[])
def a8V (w : List UInt8) (l : List BT) : Bool:=(decide ((hdB l).1 = 1) || decide ((hdB l).1 = 5)) && decide ((hdB l).2 = w)
theorem b4W {ts : List Tk} {l : List BT} (h : ts.map Tk.bare = l) : (hdT ts).bare = hdB l:=by
 cases ts with
 | nil=>subst h; rfl
 | cons t r=>subst h; rfl
theorem a0p {w : List UInt8} {ts : List Tk} {l : List BT} (h : ts.map Tk.bare = l) : isW w ts = a8V w l:=by
 have:=b4W h
 unfold isW a8V
 rw [<- this]; rfl
theorem EvR.step {α β : Type} {P : Nat -> List Tk -> Rs α} {Q : Nat -> α -> List Tk -> Rs β} {l l1 l2 : List BT} {x : α} {y : β} (h : EvR P l x l1) (hq : EvR (λ k ts=>Q k x ts) l1 y l2) : EvR (λ k ts=>(P k ts).bind λ a ts=>Q k a ts) l y l2:=by
 intro ts hts
 obtain ⟨ts1,h1,k1,hk1⟩:=h ts hts
 obtain ⟨ts2,h2,k2,hk2⟩:=hq ts1 h1
 refine ⟨ts2,h2,max k1 k2,λ k hk=>?_⟩
 show (P k ts).bind _ = _
 rw [hk1 k (by omega),Rs.bind_ok]
 exact hk2 k (by omega)
theorem EvR.succ {α : Type} {P Q : Nat -> List Tk -> Rs α} {l l' : List BT} {x : α} (h : EvR Q l x l') (he : ∀ k ts,ts.map Tk.bare = l -> P (k + 1) ts = Q k ts) : EvR P l x l':=by
 intro ts hts
 obtain ⟨ts',h1,k0,hk⟩:=h ts hts
 refine ⟨ts',h1,k0 + 1,λ k hk'=>?_⟩
 obtain ⟨j,rfl⟩ : ∃ j,k = j + 1:=⟨k - 1,by omega⟩
 rw [he j ts hts]
 exact hk j (by omega)
theorem EvR.ok {α : Type} {x : α} {l : List BT} : EvR (λ _ ts=>.ok x ts) l x l:=λ ts h=>⟨ts,h,0,λ _ _=>rfl⟩
theorem EvR.tail {α : Type} {P : Nat -> List Tk -> Rs α} {p : BT} {l l' : List BT} {x : α} (h : EvR P l x l') : EvR (λ k ts=>P k ts.tail) (p :: l) x l':=by
 intro ts hts
 obtain ⟨a,r,rfl,hr⟩:=a7q hts
 exact h r hr
theorem EvR.congr {α : Type} {P Q : Nat -> List Tk -> Rs α} {l l' : List BT} {x : α} (h : EvR Q l x l') (he : ∀ k ts,ts.map Tk.bare = l -> P k ts = Q k ts) : EvR P l x l':=by
 intro ts hts
 obtain ⟨ts',h1,k0,hk⟩:=h ts hts
 exact ⟨ts',h1,k0,λ k hk'=>by rw [he k ts hts]; exact hk k hk'⟩
def a1J (s : List UInt8) : Option Int:=A4 ⟨2,s,0⟩
theorem EvR.num {s : List UInt8} {n : Int} {l : List BT} (h : a1J s = some n) : EvR (λ _ ts=>j2 ts) ((2,s) :: l) n l:=by
 intro ts hts
 obtain ⟨a,r,rfl,hr⟩:=a7q hts
 refine ⟨r,hr,0,λ _ _=>?_⟩
 have : A4 (hdT (⟨2,s,a⟩ :: r)) = some n:=h
 show j2 _ = _
 unfold j2
 show (match A4 (hdT (⟨2,s,a⟩ :: r)) with | some n=>Rs.ok n _ | none=>_) = _
 rw [this]
 rfl
theorem b6N {n : Int} (h0 : 0 <= n) (h1 : n <= 1125899906842624) : a1J (Lib.itoa n) = some n:=by
 unfold a1J A4
 have hd:=b5o h0
 have hn:=b5p h0
 have hne : (Lib.itoa n).head? ≠ some 45:=by
  intro e
  cases h : Lib.itoa n with
  | nil=>rw [h] at e; cases e
  | cons c r =>
    rw [h] at e hd
    cases e
    rw [List.all_cons,Bool.and_eq_true] at hd
    exact absurd hd.1 (by decide)
 rw [if_pos ⟨rfl,hne,by rw [hn]; exact h1⟩,hn]
abbrev EvU (d : Nat):=EvR λ k ts=>l7 k d ts
section
variable {d : Nat} {l l1 l2 : List BT} {c c2 : Cond} {cs : List Cond}
def a2f : Int -> List UInt8
 | 1=>[100,105,115,116,97,110,99,101]
 | 2=>[102,105,101,108,100]
 | _=>[115,104,111,114,116]
theorem b2x {v : Int} (hv : v = 1 \/ v = 2 \/ v = 3) (h : EvR (λ _ ts=>r7 v ts) l c l1) : EvU d ((1,a2f v) :: l) c l1:=by
 refine EvR.succ (Q:=λ k ts=>r7 v ts.tail) (EvR.tail (P:=λ _ ts=>r7 v ts) h) λ k ts hts=>?_
 have hw1 : isW [110,111,116] ts = false:=(a0p hts).trans (by rcases hv with rfl | rfl | rfl <;> rfl)
 have hw2 : isW [40] ts = false:=(a0p hts).trans (by rcases hv with rfl | rfl | rfl <;> rfl)
 have hk : C3 ts = some v:=by
  unfold C3
  rw [a0p hts,a0p hts,a0p hts]
  rcases hv with rfl | rfl | rfl <;> rfl
 rw [l7,if_neg (by rw [hw1,hw2,Bool.or_false,Bool.false_and]; decide),if_neg (by rw [hw1]; decide),if_neg (by rw [hw2]; decide),hk]
theorem b2s {w s : List UInt8} {n v : Int} {f : Int -> Cond} (hn : a1J s = some n) (he : ∀ ts : List Tk,ts.map Tk.bare = (5,w) :: (2,s) :: l -> r7 v ts = (j2 ts.tail).bind λ n ts=>.ok (f n) ts) : EvR (λ _ ts=>r7 v ts) ((5,w) :: (2,s) :: l) (f n) l:=by
 refine EvR.congr (Q:=λ _ ts=>(j2 ts.tail).bind λ n ts=>.ok (f n) ts) ?_ λ k ts hts=>he ts hts
 exact EvR.step (P:=λ _ ts=>j2 ts.tail) (Q:=λ _ n ts=>.ok (f n) ts) (EvR.tail (P:=λ _ ts=>j2 ts) (EvR.num hn)) .ok
theorem b2r {s : List UInt8} {n v : Int} (hn : a1J s = some n) : EvR (λ _ ts=>r7 v ts) ((5,[62,61]) :: (2,s) :: l) (leC v n) l :=
 b2s (f:=λ n=>leC v n) hn λ ts hts=>by unfold r7; rw [a0p hts]; rfl
end
end Go.Proofs.YtaopegkpjhkooaaGreatDoor.Dx
/- Chapter 06: texts of conditions,their tokens,and what parsing them comes to (plain). -/
namespace Go.Proofs.YtaopegkpjhkooaaGreatDoor.Dx
open Go Go.RowKit
set_option maxRecDepth 100000
theorem b2Y {r : List UInt8} : Brk (32 :: r):=Brk.cons (by decide) (by decide)
section
variable {r : List UInt8} {l : List BT}
theorem Lx.sp (h : Lx r l) : Lx (32 :: r) l:=Lx.blank (by decide) h
theorem Lx.ws {w : List UInt8} (hw : a3V w = true) (h : Lx r l) : Lx (w ++ 32 :: r) ((1,w) :: l):=Lx.word hw b2Y h.sp
theorem b5n {n : Int} (h0 : 0 <= n) (h1 : n <= 1125899906842624) : o7 (Lib.itoa n) = true:=by
 rw [a5e h0]
 obtain ⟨h1',h2,h3,h4,h5⟩:=a4F n.toNat
 have hl:=h5 15 (by omega)
 have hp : 1 <= (Lib.decDigits n.toNat).length:=by
  cases hd : Lib.decDigits n.toNat with
  | nil=>exact absurd hd h3
  | cons=>simp
 simp only [o7,r5,h1',Bool.and_true,Bool.and_eq_true,decide_eq_true_eq,Bool.or_eq_true]
 refine ⟨⟨by omega,by omega⟩,?_⟩
 by_cases e : n.toNat = 0
 . left; rw [e,Lib.decDigits,dif_pos (by omega)]; rfl
 . exact .inr (h4 e)
theorem Lx.cmp {v n : Int} (hv : v = 1 \/ v = 2 \/ v = 3) (h0 : 0 <= n) (h1 : n <= 1125899906842624) (hr : Brk r) (h : Lx r l) : Lx ((a2f v ++ ([32,62,61,32] ++ Lib.itoa n)) ++ r) ((1,a2f v) :: (5,[62,61]) :: (2,Lib.itoa n) :: l):=by
 rw [List.append_assoc,List.append_assoc]
 have h2 : Lx (Lib.itoa n ++ r) ((2,Lib.itoa n) :: l):=Lx.num (b5n h0 h1) hr h
 have h3 : Lx ([62,61,32] ++ (Lib.itoa n ++ r)) ((5,[62,61]) :: (2,Lib.itoa n) :: l):=Lx.dbl rfl h2.sp
 exact Lx.ws (by rcases hv with rfl | rfl | rfl <;> decide) h3
theorem EvU.cmp {d : Nat} {v n : Int} (hv : v = 1 \/ v = 2 \/ v = 3) (h0 : 0 <= n) (h1 : n <= 1125899906842624) : EvU d ((1,a2f v) :: (5,[62,61]) :: (2,Lib.itoa n) :: l) (leC v n) l:=b2x hv (b2r (b6N h0 h1))
end
abbrev dS (b : Int) : List UInt8:=[100,105,115,116,97,110,99,101,32,62,61,32] ++ Lib.itoa b
section
variable {a b c : Int} (ha : 0 <= a /\ a <= 1023) (hb : 0 <= b /\ b <= 1023) (hc : 0 <= c /\ c <= 1023)
include ha in
include hb in
theorem Lx.d {r : List UInt8} {l : List BT} (hr : Brk r) (h : Lx r l) : Lx (dS b ++ r) ((1,a2f 1) :: (5,[62,61]) :: (2,Lib.itoa b) :: l):=Lx.cmp (v:=1) (by decide) hb.1 (by omega) hr h
include hc in
include ha in
include hb in
include hc in
include ha hb hc in
include ha hb hc in
include ha hb hc in
include ha hb in
include ha hb in
include ha hb hc in
include ha in
include ha in
include ha in
include ha in
include ha in
end
end Go.Proofs.YtaopegkpjhkooaaGreatDoor.Dx
/- Chapter 06: the law of precedence and relations: its walk. -/
namespace Go.Proofs.YtaopegkpjhkooaaGreatDoor.Dx
open Go Go.RowKit Go.Proofs
set_option maxRecDepth 100000
set_option maxHeartbeats 16000000
theorem b2H (n : Int) : 0 <= IntKind.i64.wrap (BitVec.ofInt IntKind.i64.bits n &&& BitVec.ofInt IntKind.i64.bits 1023).toNat /\ IntKind.i64.wrap (BitVec.ofInt IntKind.i64.bits n &&& BitVec.ofInt IntKind.i64.bits 1023).toNat <= 1023:=by
 have h : (BitVec.ofInt 64 n &&& BitVec.ofInt 64 1023).toNat <= 1023:=by
  rw [BitVec.toNat_and]
  exact Nat.and_le_right
 have e : IntKind.i64.wrap ((BitVec.ofInt 64 n &&& BitVec.ofInt 64 1023).toNat : Int) = ((BitVec.ofInt 64 n &&& BitVec.ofInt 64 1023).toNat : Int):=Z1 (i64 (by omega) (by omega))
 show 0 <= IntKind.i64.wrap ((BitVec.ofInt 64 n &&& BitVec.ofInt 64 1023).toNat : Int) /\ IntKind.i64.wrap ((BitVec.ofInt 64 n &&& BitVec.ofInt 64 1023).toNat : Int) <= 1023
 rw [e]
 omega
end Go.Proofs.YtaopegkpjhkooaaGreatDoor.Dx
/- Chapter 06: stopwatchlaw06.SyntaxCut. -/
namespace Go.Proofs.YtaopegkpjhkooaaGreatDoor.Dx
open Go Go.RowKit
set_option maxRecDepth 100000
set_option maxHeartbeats 16000000
theorem a7S {src : List UInt8} {x : Course × Int × Int} (hl : src.length <= 65536) (h : m3 src = x) : Meets Tryz.prog 21 [.sl (d9 src)] λ d=>d = .tup [x.1.d,iD x.2.1,iD x.2.2]:=by
 have:=a0T B8 src hl
 rw [h] at this
 exact this
theorem b2n (src : List UInt8) (cut : Int) (_ : src.length <= 1048576) : Meets Tryz.prog 8 [.sl (d9 src),iD cut] λ r=>r = bD true:=by
 have hs:=b0K
 by_cases hl : src.length <= 2000
 case neg =>
  refine enter tok {} Tryz.func8 rfl (by kernel_rfl) Tryz.ntmps8 (by simp) λ B0 W0 V0 lent g0=>?_
  ((conv=>whnf);repeat'(refine Z rfl ?_;conv=>whnf))
  refine Meets.k hs ?_
  ((conv=>whnf);repeat'(refine Z rfl ?_;conv=>whnf))
  refine ⟨λ h=>absurd h (by decide),λ _=>?_⟩
  ((conv=>whnf);repeat'(refine Z rfl ?_;conv=>whnf))
  repeat' ((first | (intro hlq; (try simp only [SL] at hlq)) | refine Ks ?_ | refine Kq ?_ | refine Kt ?_ | ((refine Kh (λ hb=>?_) λ hb=>?_) <;> (try simp only [BL] at hb)) | refine Ka ?_ | refine Kb ?_ | refine Kc (hd:=rfl) (e:=?_) | refine Kc (hd:=d7 _) (e:=?_) | refine Kd (e:=?_) | refine Kl rfl ?_ | fail) <;> ((conv=>whnf);repeat'(refine Z rfl ?_;conv=>whnf)))
  all_goals first
   | exact Done.mk rfl
   | (exfalso; omega)
   | trace_state
 have hl2 : src.length <= 65536:=by omega
 have a0:=R2 B8 src hl2
 by_cases he : (m3 src).2.2 = 0
 case neg =>
  obtain ⟨⟨C,c1,c2⟩,hC⟩ : ∃ x,x = m3 src:=⟨_,rfl⟩
  rw [<- hC] at he
  have a1:=a7S hl2 hC.symm
  rw [a0M] at a0
  refine enter tok {} Tryz.func8 rfl (by kernel_rfl) Tryz.ntmps8 (by simp) λ B0 W0 V0 lent g0=>?_
  ((conv=>whnf);repeat'(refine Z rfl ?_;conv=>whnf))
  refine Meets.k hs ?_
  ((conv=>whnf);repeat'(refine Z rfl ?_;conv=>whnf))
  refine ⟨λ h=>absurd h (by decide),λ _=>?_⟩
  ((conv=>whnf);repeat'(refine Z rfl ?_;conv=>whnf))
  repeat' ((first | (intro hlq; (try simp only [SL] at hlq)) | refine Meets.k (a0) ?_ | refine Meets.k (a1) ?_ | refine Ks ?_ | refine Kq ?_ | refine Kt ?_ | ((refine Kh (λ hb=>?_) λ hb=>?_) <;> (try simp only [BL] at hb)) | refine Ka ?_ | refine Kb ?_ | refine Kc (hd:=rfl) (e:=?_) | refine Kc (hd:=d7 _) (e:=?_) | refine Kd (e:=?_) | refine Kl rfl ?_ | fail) <;> ((conv=>whnf);repeat'(refine Z rfl ?_;conv=>whnf)))
  all_goals first
   | exact Done.mk rfl
   | (exfalso; omega)
   | (exfalso; simp_all; done)
   | trace_state
 obtain ⟨hb,v,i,hi,hne,hB,hP,g⟩:=b3C hl2 he
 obtain ⟨⟨C,c1,c2⟩,hC⟩ : ∃ x,x = m3 src:=⟨_,rfl⟩
 rw [<- hC] at he
 obtain rfl : c2 = 0:=he
 have a1:=a7S hl2 hC.symm
 have a2:=b1n hl2 hb hi
 have hil : i.length <= 1000000:=by
  have:=a0P src
  rw [hi,List.length_append] at this
  omega
 have hit : ∀ t ∈ i,t.text.length <= 1048576:=λ t ht=>by
  have:=b1s (src:=src) (t:=t) (by rw [hi]; simp [ht])
  omega
 have hpos : 0 < i.length:=List.length_pos_iff.2 hne
 have hll : ((i ++ [eT src.length]).map tkC).length = i.length + 1:=by simp
 clear a0
 refine enter tok {} Tryz.func8 rfl (by kernel_rfl) Tryz.ntmps8 (by simp) λ B0 W0 V0 lent g0=>?_
 ((conv=>whnf);repeat'(refine Z rfl ?_;conv=>whnf))
 refine Meets.k hs ?_
 ((conv=>whnf);repeat'(refine Z rfl ?_;conv=>whnf))
 refine ⟨λ h=>absurd h (by decide),λ _=>?_⟩
 ((conv=>whnf);repeat'(refine Z rfl ?_;conv=>whnf))
 repeat' ((first | (intro hlq; (try simp only [SL] at hlq)) | refine Ks ?_ | refine Kq ?_ | refine Kt ?_ | refine Ka ?_ | refine Kb ?_ | refine Kc (hd:=rfl) (e:=?_) | refine Kc (hd:=d7 _) (e:=?_) | refine Kd (e:=?_) | refine Kl rfl ?_ | fail) <;> ((conv=>whnf);repeat'(refine Z rfl ?_;conv=>whnf)))
 refine ⟨λ h0=>?_,λ h0=>?_⟩ <;> (try simp only [BL] at h0) <;> ((conv=>whnf);repeat'(refine Z rfl ?_;conv=>whnf))
 . exfalso; omega
 repeat' ((first | (intro hlq; (try simp only [SL] at hlq)) | refine Meets.k (a1) ?_ | refine Meets.k (a2) ?_ | refine Ks ?_ | refine Kq ?_ | refine Kt ?_ | ((refine Kh (λ hb=>?_) λ hb=>?_) <;> (try simp only [BL] at hb)) | refine Ka ?_ | refine Kb ?_ | refine Kc (hd:=rfl) (e:=?_) | refine Kc (hd:=d7 _) (e:=?_) | refine Kd (e:=?_) | refine Kl rfl ?_ | fail) <;> ((conv=>whnf);repeat'(refine Z rfl ?_;conv=>whnf)))
 all_goals (try (exfalso; first | contradiction | (simp only [List.length_append,List.length_map,List.length_cons,List.length_nil] at *; omega)))
 have hand:=b2H cut
 refine ⟨λ _ _=>⟨hand.1,by rw [hll]; omega⟩,?_⟩
 revert hand
 generalize IntKind.i64.wrap (BitVec.ofInt IntKind.i64.bits cut &&& BitVec.ofInt IntKind.i64.bits 1023).toNat = q
 intro hand
 obtain ⟨n,hn,hnl⟩ : ∃ n : Nat,q % ((((i ++ [eT src.length]).map tkC).length : Int) - 1) = n /\ n < i.length:=by
  rw [hll]
  have h1:=Int.emod_nonneg q (b:=((i.length + 1 : Nat) : Int) - 1) (by omega)
  have h2:=Int.emod_lt_of_pos q (b:=((i.length + 1 : Nat) : Int) - 1) (by omega)
  exact ⟨(q % (((i.length + 1 : Nat) : Int) - 1)).toNat,by omega,by omega⟩
 have hsz : ∀ ds : List D,ds ∈ (i ++ [eT src.length]).map tkC -> ds.length = 3:=λ ds hds=>by obtain ⟨y,_,rfl⟩:=List.mem_map.1 hds; rfl
 obtain ⟨b1,e1,hj1,hb1,hc1⟩ : ∃ (b1 : List UInt8) (e1 : Int),Meets Tryz.prog 24 [.sl ((i.take n).map tkC ++ [tkC (eT src.length)])] (λ d=>d = .tup [.sl (d9 b1),iD e1]) /\ b1.length <= 65536 /\ (e1 = 2 \/ e1 = 0 /\ m3 b1 = (zC,(b1.length : Int),60)):=by
  have hB1 : ∀ t ∈ i.take n,tkB t.z = true:=λ t ht=>hB t (List.mem_of_mem_take ht)
  have hl1 : (i.take n).length <= 1000000:=by rw [List.length_take]; omega
  have ht1 : ∀ t ∈ i.take n,t.text.length <= 1048576:=λ t ht=>hit t (List.mem_of_mem_take ht)
  by_cases hj : (jt (i.take n)).length <= 65536
  . have j:=a5g hB1 src.length hl1 ht1 hj
    rw [List.map_append] at j
    exact ⟨_,_,j,hj,.inr ⟨rfl,b3O hi hB hP hnl hj (a5p hB1)⟩⟩
  . have j:=a5f hB1 src.length hl1 ht1 hj
    rw [List.map_append] at j
    exact ⟨[],_,j,by simp,.inl rfl⟩
 obtain ⟨t0,i',hI⟩ : ∃ t0 i',i = t0 :: i':=List.exists_cons_of_ne_nil hne
 have hm0 : t0 ∈ i:=by rw [hI]; exact List.mem_cons_self ..
 obtain ⟨b2,e2,hj2,hb2,hc2⟩ : ∃ (b2 : List UInt8) (e2 : Int),Meets Tryz.prog 24 [.sl (i.map tkC ++ [tkC t0] ++ [tkC (eT src.length)])] (λ d=>d = .tup [.sl (d9 b2),iD e2]) /\ b2.length <= 65536 /\
  (e2 = 2 \/ e2 = 0 /\ ∃ j t',toks b2 0 = j ++ [t',eT b2.length] /\ j.length = i.length /\ m3 b2 = (zC,(t'.at_ : Int),60)):=by
  have h0:=hB t0 hm0
  have hB1 : ∀ t ∈ i ++ [t0],tkB t.z = true:=λ t ht=>(List.mem_append.1 ht).elim (hB t) λ h=>by rw [List.mem_singleton.1 h]; exact h0
  have hl1 : (i ++ [t0]).length <= 1000000:=by
   have:=a0P src
   rw [hi,List.length_append] at this
   rw [List.length_append,List.length_singleton]; omega
  have ht1 : ∀ t ∈ i ++ [t0],t.text.length <= 1048576:=λ t ht=>(List.mem_append.1 ht).elim (hit t) λ h=>by rw [List.mem_singleton.1 h]; exact hit t0 hm0
  by_cases hj : (jt (i ++ [t0])).length <= 65536
  . have j:=a5g hB1 src.length hl1 ht1 hj
    rw [List.map_append,List.map_append] at j
    exact ⟨_,_,j,hj,.inr ⟨rfl,b3N (a9i h0) g (a5p hB1)⟩⟩
  . have j:=a5f hB1 src.length hl1 ht1 hj
    rw [List.map_append,List.map_append] at j
    exact ⟨[],_,j,by simp,.inl rfl⟩
 have hk1:=a0T B8 b1 hb1
 have hk2:=a0T B8 b2 hb2
 have hk3:=R2 B8 b2 hb2
 have hi0 : ((i ++ [eT src.length]).map tkC)[(0 : Int).toNat]? = some (tkC t0):=by rw [hI]; rfl
 clear hB hP g hi hI
 ((conv=>whnf);repeat'(refine Z rfl ?_;conv=>whnf))
 rw [hn]
 refine k9 tok (cf:={}) (by kernel_rfl) [.p 0,.p 1,.p 2,.p 3,.p 5,.p 6,.p 7,.p 8,.p 9,.p 10,.p 11,.s 4 [0,3,1,2],.s 12 [11,10,9,5,8,7,6],.s 13 [],.p 14,.p 15,.p 16,.p 17,.p 18] (by kernel_rfl) ?_
 ((conv=>whnf);repeat'(refine Z rfl ?_;conv=>whnf))
 refine ⟨λ _=>⟨Int.le_refl _,by omega,by omega,hsz⟩,?_⟩
 ((conv=>whnf);repeat'(refine Z rfl ?_;conv=>whnf))
 intro _
 have hix : ∀ z : Int,z = (i.length : Int) -> ((i ++ [eT src.length]).map tkC)[z.toNat]? = some (tkC (eT src.length)):=by
  rintro _ rfl
  rw [Int.toNat_natCast,List.getElem?_map,List.getElem?_append_right (Nat.le_refl _),Nat.sub_self]
  rfl
 ((conv=>whnf);repeat'(refine Z rfl ?_;conv=>whnf))
 repeat' ((first | (intro hlq; (try simp only [SL] at hlq)) | refine Ks ?_ | refine Kq ?_ | refine Kt ?_ | refine Ka ?_ | refine Kb ?_ | refine Kc (hd:=rfl) (e:=?_) | refine Kc (hd:=d7 _) (e:=?_) | refine Kd (e:=?_) | refine Kl rfl ?_ | fail) <;> ((conv=>whnf);repeat'(refine Z rfl ?_;conv=>whnf)))
 refine ⟨_,⟨by omega,hix _ (by omega),rfl⟩,?_⟩
 ((conv=>whnf);repeat'(refine Z rfl ?_;conv=>whnf))
 repeat' ((first | (intro hlq; (try simp only [SL] at hlq)) | refine Ks ?_ | refine Kq ?_ | refine Kt ?_ | refine Ka ?_ | refine Kb ?_ | refine Kc (hd:=rfl) (e:=?_) | refine Kc (hd:=d7 _) (e:=?_) | refine Kd (e:=?_) | refine Kl rfl ?_ | fail) <;> ((conv=>whnf);repeat'(refine Z rfl ?_;conv=>whnf)))
 have hdr : List.drop (Int.toNat 0) (List.take (n : Int).toNat ((i ++ [eT src.length]).map tkC)) = (i.take n).map tkC:=by
  show List.take (n : Int).toNat _ = _
  rw [Int.toNat_natCast,<- List.map_take,List.take_append_of_le_length (by omega)]
 have hsz1 : ∀ ds : List D,ds ∈ (i.take n).map tkC -> ds.length = 3:=λ ds hds=>by obtain ⟨y,_,rfl⟩:=List.mem_map.1 hds; rfl
 have hln : ((i.take n).map tkC).length = n:=by rw [List.length_map,List.length_take]; omega
 rw [hdr]
 refine ⟨hsz1,?_⟩
 ((conv=>whnf);repeat'(refine Z rfl ?_;conv=>whnf))
 refine ⟨⟨λ _ _=>(by rw [hln]; show ([] : List (List D)).length + n <= _ /\ (([] : List (List D)).length + n) * 32 <= _; simp only [List.length_nil]; omega),λ ds h=>by cases h⟩,?_⟩
 ((conv=>whnf);repeat'(refine Z rfl ?_;conv=>whnf))
 repeat' ((first | (intro hlq; (try simp only [SL] at hlq)) | refine Ks ?_ | refine Kq ?_ | refine Kt ?_ | refine Ka ?_ | refine Kb ?_ | refine Kc (hd:=rfl) (e:=?_) | refine Kc (hd:=d7 _) (e:=?_) | refine Kd (e:=?_) | refine Kl rfl ?_ | fail) <;> ((conv=>whnf);repeat'(refine Z rfl ?_;conv=>whnf)))
 refine ⟨λ ds h=>(by rw [List.mem_singleton.1 h]; rfl),?_⟩
 ((conv=>whnf);repeat'(refine Z rfl ?_;conv=>whnf))
 repeat' ((first | (intro hlq; (try simp only [SL] at hlq)) | refine Ks ?_ | refine Kq ?_ | refine Kt ?_ | refine Ka ?_ | refine Kb ?_ | refine Kc (hd:=rfl) (e:=?_) | refine Kc (hd:=d7 _) (e:=?_) | refine Kd (e:=?_) | refine Kl rfl ?_ | fail) <;> ((conv=>whnf);repeat'(refine Z rfl ?_;conv=>whnf)))
 refine ⟨λ _ _=>(by simp only [List.length_append,List.length_map,List.length_take,List.length_cons,List.length_nil]; omega),?_⟩
 ((conv=>whnf);repeat'(refine Z rfl ?_;conv=>whnf))
 repeat' ((first | (intro hlq; (try simp only [SL] at hlq)) | refine Ks ?_ | refine Kq ?_ | refine Kt ?_ | refine Ka ?_ | refine Kb ?_ | refine Kc (hd:=rfl) (e:=?_) | refine Kc (hd:=d7 _) (e:=?_) | refine Kd (e:=?_) | refine Kl rfl ?_ | fail) <;> ((conv=>whnf);repeat'(refine Z rfl ?_;conv=>whnf)))
 refine Meets.k hj1 ?_
 ((conv=>whnf);repeat'(refine Z rfl ?_;conv=>whnf))
 repeat' ((first | (intro hlq; (try simp only [SL] at hlq)) | refine Ks ?_ | refine Kq ?_ | refine Kt ?_ | refine Ka ?_ | refine Kb ?_ | refine Kc (hd:=rfl) (e:=?_) | refine Kc (hd:=d7 _) (e:=?_) | refine Kd (e:=?_) | refine Kl rfl ?_ | fail) <;> ((conv=>whnf);repeat'(refine Z rfl ?_;conv=>whnf)))
 refine Meets.k hk1 ?_
 ((conv=>whnf);repeat'(refine Z rfl ?_;conv=>whnf))
 repeat' ((first | (intro hlq; (try simp only [SL] at hlq)) | refine Ks ?_ | refine Kq ?_ | refine Kt ?_ | refine Ka ?_ | refine Kb ?_ | refine Kc (hd:=rfl) (e:=?_) | refine Kc (hd:=d7 _) (e:=?_) | refine Kd (e:=?_) | refine Kl rfl ?_ | fail) <;> ((conv=>whnf);repeat'(refine Z rfl ?_;conv=>whnf)))
 refine k9 tok (cf:={}) (by kernel_rfl) [.p 0,.p 1,.p 2,.p 3,.p 4,.p 5,.p 7,.p 8,.p 9,.p 10,.p 12,.p 13,.p 14,.p 15,.p 16,.p 17,.p 18,.s 6 [0,5,1,4,3,2],.s 11 [10,9,8,7],.s 19 [18,17,16,12,15,14,13],.s 20 [],.p 21,.p 22,.p 23,.p 24,.p 25] (by kernel_rfl) ?_
 ((conv=>whnf);repeat'(refine Z rfl ?_;conv=>whnf))
 repeat' ((first | (intro hlq; (try simp only [SL] at hlq)) | refine Ks ?_ | refine Kq ?_ | refine Kt ?_ | refine Ka ?_ | refine Kb ?_ | refine Kc (hd:=rfl) (e:=?_) | refine Kc (hd:=d7 _) (e:=?_) | refine Kd (e:=?_) | refine Kl rfl ?_ | fail) <;> ((conv=>whnf);repeat'(refine Z rfl ?_;conv=>whnf)))
 refine ⟨λ _=>⟨Int.le_refl _,by omega,by omega,hsz⟩,?_⟩
 ((conv=>whnf);repeat'(refine Z rfl ?_;conv=>whnf))
 refine ⟨_,⟨by omega,hi0,rfl⟩,?_⟩
 ((conv=>whnf);repeat'(refine Z rfl ?_;conv=>whnf))
 repeat' ((first | (intro hlq; (try simp only [SL] at hlq)) | refine Ks ?_ | refine Kq ?_ | refine Kt ?_ | refine Ka ?_ | refine Kb ?_ | refine Kc (hd:=rfl) (e:=?_) | refine Kc (hd:=d7 _) (e:=?_) | refine Kd (e:=?_) | refine Kl rfl ?_ | fail) <;> ((conv=>whnf);repeat'(refine Z rfl ?_;conv=>whnf)))
 refine ⟨_,⟨by omega,hix _ (by omega),rfl⟩,?_⟩
 ((conv=>whnf);repeat'(refine Z rfl ?_;conv=>whnf))
 repeat' ((first | (intro hlq; (try simp only [SL] at hlq)) | refine Ks ?_ | refine Kq ?_ | refine Kt ?_ | refine Ka ?_ | refine Kb ?_ | refine Kc (hd:=rfl) (e:=?_) | refine Kc (hd:=d7 _) (e:=?_) | refine Kd (e:=?_) | refine Kl rfl ?_ | fail) <;> ((conv=>whnf);repeat'(refine Z rfl ?_;conv=>whnf)))
 have hdr2 : List.drop (Int.toNat 0) (List.take ((((i ++ [eT src.length]).map tkC).length : Int) - 1).toNat ((i ++ [eT src.length]).map tkC)) = i.map tkC:=by
  show List.take ((((i ++ [eT src.length]).map tkC).length : Int) - 1).toNat _ = _
  rw [hll,show (((i.length + 1 : Nat) : Int) - 1).toNat = i.length by omega,<- List.map_take,List.take_left]
 have hsz2 : ∀ ds : List D,ds ∈ i.map tkC -> ds.length = 3:=λ ds hds=>by obtain ⟨y,_,rfl⟩:=List.mem_map.1 hds; rfl
 have hln2 : (i.map tkC).length = i.length:=List.length_map ..
 rw [hdr2]
 refine ⟨hsz2,?_⟩
 ((conv=>whnf);repeat'(refine Z rfl ?_;conv=>whnf))
 repeat' ((first | (intro hlq; (try simp only [SL] at hlq)) | refine Ks ?_ | refine Kq ?_ | refine Kt ?_ | refine Ka ?_ | refine Kb ?_ | refine Kc (hd:=rfl) (e:=?_) | refine Kc (hd:=d7 _) (e:=?_) | refine Kd (e:=?_) | refine Kl rfl ?_ | fail) <;> ((conv=>whnf);repeat'(refine Z rfl ?_;conv=>whnf)))
 refine ⟨⟨λ _ _=>(by rw [hln2]; show ([] : List (List D)).length + i.length <= _ /\ (([] : List (List D)).length + i.length) * 32 <= _; simp only [List.length_nil]; omega),λ ds h=>by cases h⟩,?_⟩
 ((conv=>whnf);repeat'(refine Z rfl ?_;conv=>whnf))
 repeat' ((first | (intro hlq; (try simp only [SL] at hlq)) | refine Ks ?_ | refine Kq ?_ | refine Kt ?_ | refine Ka ?_ | refine Kb ?_ | refine Kc (hd:=rfl) (e:=?_) | refine Kc (hd:=d7 _) (e:=?_) | refine Kd (e:=?_) | refine Kl rfl ?_ | fail) <;> ((conv=>whnf);repeat'(refine Z rfl ?_;conv=>whnf)))
 refine ⟨λ ds h=>(by rw [List.mem_singleton.1 h]; rfl),?_⟩
 ((conv=>whnf);repeat'(refine Z rfl ?_;conv=>whnf))
 repeat' ((first | (intro hlq; (try simp only [SL] at hlq)) | refine Ks ?_ | refine Kq ?_ | refine Kt ?_ | refine Ka ?_ | refine Kb ?_ | refine Kc (hd:=rfl) (e:=?_) | refine Kc (hd:=d7 _) (e:=?_) | refine Kd (e:=?_) | refine Kl rfl ?_ | fail) <;> ((conv=>whnf);repeat'(refine Z rfl ?_;conv=>whnf)))
 refine ⟨λ _ _=>(by simp only [List.length_append,List.length_map,List.length_cons,List.length_nil]; omega),?_⟩
 ((conv=>whnf);repeat'(refine Z rfl ?_;conv=>whnf))
 repeat' ((first | (intro hlq; (try simp only [SL] at hlq)) | refine Ks ?_ | refine Kq ?_ | refine Kt ?_ | refine Ka ?_ | refine Kb ?_ | refine Kc (hd:=rfl) (e:=?_) | refine Kc (hd:=d7 _) (e:=?_) | refine Kd (e:=?_) | refine Kl rfl ?_ | fail) <;> ((conv=>whnf);repeat'(refine Z rfl ?_;conv=>whnf)))
 refine ⟨λ ds h=>(by rw [List.mem_singleton.1 h]; rfl),?_⟩
 ((conv=>whnf);repeat'(refine Z rfl ?_;conv=>whnf))
 repeat' ((first | (intro hlq; (try simp only [SL] at hlq)) | refine Ks ?_ | refine Kq ?_ | refine Kt ?_ | refine Ka ?_ | refine Kb ?_ | refine Kc (hd:=rfl) (e:=?_) | refine Kc (hd:=d7 _) (e:=?_) | refine Kd (e:=?_) | refine Kl rfl ?_ | fail) <;> ((conv=>whnf);repeat'(refine Z rfl ?_;conv=>whnf)))
 refine ⟨λ _ _=>(by simp only [List.length_append,List.length_map,List.length_cons,List.length_nil]; omega),?_⟩
 ((conv=>whnf);repeat'(refine Z rfl ?_;conv=>whnf))
 repeat' ((first | (intro hlq; (try simp only [SL] at hlq)) | refine Ks ?_ | refine Kq ?_ | refine Kt ?_ | refine Ka ?_ | refine Kb ?_ | refine Kc (hd:=rfl) (e:=?_) | refine Kc (hd:=d7 _) (e:=?_) | refine Kd (e:=?_) | refine Kl rfl ?_ | fail) <;> ((conv=>whnf);repeat'(refine Z rfl ?_;conv=>whnf)))
 refine Meets.k hj2 ?_
 ((conv=>whnf);repeat'(refine Z rfl ?_;conv=>whnf))
 repeat' ((first | (intro hlq; (try simp only [SL] at hlq)) | refine Ks ?_ | refine Kq ?_ | refine Kt ?_ | refine Ka ?_ | refine Kb ?_ | refine Kc (hd:=rfl) (e:=?_) | refine Kc (hd:=d7 _) (e:=?_) | refine Kd (e:=?_) | refine Kl rfl ?_ | fail) <;> ((conv=>whnf);repeat'(refine Z rfl ?_;conv=>whnf)))
 have q1 : e1 = 2 \/ e1 = 0:=hc1.imp_right (·.1)
 have q2 : e2 = 2 \/ e2 = 0:=hc2.imp_right (·.1)
 have f1 : e1 = 0 -> (m3 b1).2.2 = 60 /\ (m3 b1).2.1 = b1.length:=λ h=>by
  rcases hc1 with h' | ⟨_,h'⟩
  . omega
  . rw [h']; exact ⟨rfl,rfl⟩
 have f2 : e2 = 0 -> (toks b2 0).length = i.length + 2 /\ (m3 b2).2.2 = 60:=λ h=>by
  rcases hc2 with h' | ⟨_,j,t',h1,h2,h3⟩
  . omega
  . rw [h1,h3]; exact ⟨by simp [h2],rfl⟩
 have f3 : Nonempty (PLift (e2 = 0 -> ∃ t',(toks b2 0)[i.length]? = some t' /\ (m3 b2).2.1 = t'.at_)):=⟨⟨λ h=>by
  rcases hc2 with h' | ⟨_,j,t',h1,h2,h3⟩
  . omega
  . refine ⟨t',?_,by rw [h3]⟩
    rw [h1,List.getElem?_append_right (by omega),h2,Nat.sub_self]; rfl⟩⟩
 have hle : (i ++ [eT src.length]).length = i.length + 1:=by simp
 clear hj1 hj2 hk1 a1 a2 hs hc1 hc2 hdr hdr2 hsz hsz1 hsz2 hln hln2 hix hi0 hnl hn hand hit hil
 repeat' ((first | (intro hlq; (try simp only [SL] at hlq)) | refine Meets.k (hk3) ?_ | refine Meets.k (hk2) ?_ | refine Ks ?_ | refine Kq ?_ | refine Kt ?_ | ((refine Kh (λ hb=>?_) λ hb=>?_) <;> (try simp only [BL] at hb)) | refine Ka ?_ | refine Kb ?_ | refine Kc (hd:=rfl) (e:=?_) | refine Kc (hd:=d7 _) (e:=?_) | refine Kd (e:=?_) | refine Kl rfl ?_ | fail) <;> ((conv=>whnf);repeat'(refine Z rfl ?_;conv=>whnf)))
 all_goals first
  | exact Done.mk rfl
  | exact absurd True.intro (by assumption)
  | (exfalso; omega)
  | (exfalso; have:=f1 (by omega); omega)
  | (exfalso; have:=f2 (by omega); omega)
  | (refine ⟨congrArg bD ?_⟩; simp only [decide_eq_true_eq,Bool.or_eq_true]; omega)
  | skip
 have hz : e2 = 0:=by omega
 obtain ⟨⟨f4⟩⟩:=f3
 obtain ⟨t',ht,hw⟩:=f4 hz
 have g2:=(f2 hz).1
 refine ⟨tkC t',⟨by (rw [List.length_map]; omega),?_,rfl⟩,?_⟩
 . rw [List.getElem?_map,show ((((toks b2 0).map tkC).length : Int) - 2).toNat = i.length by rw [List.length_map]; omega,ht]; rfl
 ((conv=>whnf);repeat'(refine Z rfl ?_;conv=>whnf))
 refine ⟨congrArg bD ?_⟩
 exact decide_eq_true hw
end Go.Proofs.YtaopegkpjhkooaaGreatDoor.Dx
