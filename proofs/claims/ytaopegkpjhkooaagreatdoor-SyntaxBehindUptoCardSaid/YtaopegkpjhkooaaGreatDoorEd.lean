/- Chapter 06: the parser of a course. -/
import Derived.Test.YtaopegkpjhkooaaGreatDoorEc
set_option linter.all false
namespace Go.Proofs.YtaopegkpjhkooaaGreatDoor.Dx
open Go Go.RowKit
set_option maxRecDepth 100000
set_option maxHeartbeats 16000000
def scF : Nat -> Nat
 | 0=>73
 | 1=>74
 | 2=>75
 | 3=>76
 | 4=>77
 | _=>78
def D0 (c : Course) : Nat -> Nat
 | 0=>c.legs.length
 | 1=>c.distances.length
 | 2=>c.waves.length
 | 3=>c.offences.length
 | 4=>c.categories.length
 | _=>c.prizes.length
theorem b8B (hT : s8) (k : Nat) (hk : k <= 1000000000) (i : Nat) (hi : i < 6) (ts : List Tk) (c : Course) (hq : QT ts) (hl : D0 c i <= 1000000000) (hn : J9 k i c ts ≠ .out) :
 MeetsR Tryz.prog (scF i) [.loc 5000 0] (psC ts c) λ o O'=>RdV (λ _=>.tup []) id (J9 k i c ts) o O':=by
 match i,hi with
 | 0,_=>exact b5N hT ts c hq hl
 | 1,_=>exact b4d hT k hk ts c hq hl hn
 | 2,_=>exact c0R hT ts c hq hl
 | 3,_=>exact b6U hT ts c hq hl
 | 4,_=>exact b3p ts c hq hl
 | 5,_=>exact b7k ts c hq hl
theorem Rs.bind_eq {α β : Type} {r : Rs α} {f : α -> List Tk -> Rs β} {b : β} {ts : List Tk} (h : r.bind f = .ok b ts) : ∃ a ts',r = .ok a ts' /\ f a ts' = .ok b ts:=by
 cases r with
 | ok a ts'=>exact ⟨a,ts',rfl,h⟩
 | er a e=>cases h
 | out=>cases h
theorem six {j : Nat} (hj : j < 6) : j = 0 \/ j = 1 \/ j = 2 \/ j = 3 \/ j = 4 \/ j = 5:=by omega
theorem b8A {k i : Nat} {c c' : Course} {ts ts' : List Tk} (hi : i < 6) (h : J9 k i c ts = .ok c' ts') : D0 c' i = D0 c i + 1 /\ ∀ j,j < 6 -> j ≠ i -> D0 c' j = D0 c j:=by
 match i,hi,h with
 | 0,_,h=>obtain ⟨a,ts2,_,h⟩:=Rs.bind_eq h; cases h; exact ⟨by simp [D0],λ j hj hne=>by rcases six hj with rfl | rfl | rfl | rfl | rfl | rfl <;> first | rfl | exact absurd rfl hne⟩
 | 1,_,h=>obtain ⟨a,ts2,_,h⟩:=Rs.bind_eq h; cases h; exact ⟨by simp [D0],λ j hj hne=>by rcases six hj with rfl | rfl | rfl | rfl | rfl | rfl <;> first | rfl | exact absurd rfl hne⟩
 | 2,_,h=>obtain ⟨a,ts2,_,h⟩:=Rs.bind_eq h; cases h; exact ⟨by simp [D0],λ j hj hne=>by rcases six hj with rfl | rfl | rfl | rfl | rfl | rfl <;> first | rfl | exact absurd rfl hne⟩
 | 3,_,h=>obtain ⟨a,ts2,_,h⟩:=Rs.bind_eq h; cases h; exact ⟨by simp [D0],λ j hj hne=>by rcases six hj with rfl | rfl | rfl | rfl | rfl | rfl <;> first | rfl | exact absurd rfl hne⟩
 | 4,_,h=>obtain ⟨a,ts2,_,h⟩:=Rs.bind_eq h; cases h; exact ⟨by simp [D0],λ j hj hne=>by rcases six hj with rfl | rfl | rfl | rfl | rfl | rfl <;> first | rfl | exact absurd rfl hne⟩
 | 5,_,h=>obtain ⟨a,ts2,_,h⟩:=Rs.bind_eq h; cases h; exact ⟨by simp [D0],λ j hj hne=>by rcases six hj with rfl | rfl | rfl | rfl | rfl | rfl <;> first | rfl | exact absurd rfl hne⟩
def b8v (v : Value) : List (List D):=[[.str [108,101,103],.fn 73 [.raw v] []],[.str [100,105,115,116,97,110,99,101],.fn 74 [.raw v] []],[.str [119,97,118,101],.fn 75 [.raw v] []],[.str [111,102,102,101,110,99,101],.fn 76 [.raw v] []],[.str [99,97,116,101,103,111,114,121],.fn 77 [.raw v] []],[.str [112,114,105,122,101],.fn 78 [.raw v] []]]
theorem b8w {v : Value} {i : Nat} (hi : i < 6) : (b8v v)[(i : Int).toNat]? = some [.str (secW.getD i []),.fn (scF i) [.raw v] []]:=by
 rw [Int.toNat_natCast]
 match i,hi with
 | 0,_=>rfl
 | 1,_=>rfl
 | 2,_=>rfl
 | 3,_=>rfl
 | 4,_=>rfl
 | 5,_=>rfl
abbrev a3Y : List Base:=[.d (.str []),.d (.raw (.slice none 0 0)),.d (.raw (.slice none 0 0)),.d (.raw (.slice none 0 0)),.d (.raw (.slice none 0 0)),.d (.raw (.slice none 0 0)),.d (.raw (.slice none 0 0)),.d (.raw (.slice none 0 0)),.d (.raw (.slice none 0 0)),.d (iD 0),.d (iD 0),.d (iD 0),.d (iD 0),.d (iD 0),.d (iD 0),.d (iD 0)]
def nmC (w : List UInt8) : Course:=⟨w,[],[],[],[],[],[],[],[],⟨0,0,0,0,0⟩,0,0⟩
def X5 (k : Nat) (c : Course) (ts : List Tk) : Rs Course:=(y8 [[109,97,116,115],[123]] ts).bind λ _ ts=>(A3 k c.mats ts).bind λ ms ts=>.ok { c with mats:=ms } ts
def a0t (k : Nat) (c : Course) (ts : List Tk) : Rs Course :=
 (f9 [116,105,101,115] ts).bind λ _ ts=>(blockP k 0 ts).bind λ l ts=>(y8 [[102,97,117,108,116,115],[123]] ts).bind λ _ ts =>
 (D5 [109,105,115,115,101,115] j2 ts).bind λ a ts=>(D5 [115,116,114,97,121,115] j2 ts).bind λ b ts=>(D5 [119,105,110,100,111,119] v8 ts).bind λ w ts=>(D5 [114,101,115,105,100,117,97,108] v8 ts).bind λ r ts=>(D5 [100,114,105,102,116] j2 ts).bind λ d ts =>
 (y8 [[125],[112,114,111,116,101,115,116],[102,101,101]] ts).bind λ _ ts=>(j2 ts).bind λ f ts=>(f9 [100,101,97,100,108,105,110,101] ts).bind λ _ ts=>(v8 ts).bind λ t ts =>
 (y8 [[59],[125]] ts).bind λ _ ts=>.ok { c with ties:=l,faults:=⟨a,b,w,r,d⟩,fee:=f,deadline:=t } ts
theorem a9l (k : Nat) (c : Course) (ts : List Tk) : X2 k c ts = a0t k c ts:=by
 unfold X2 a0t
 simp only [y8,Rs.bind_assoc,Rs.bind_ok]
theorem b3B (k : Nat) (ts : List Tk) : p6 k ts = (f9 [99,111,117,114,115,101] ts).bind λ _ ts=>(y7 ts).bind λ w ts=>(f9 [123] ts).bind λ _ ts=>(X5 k (nmC w) ts).bind λ c ts=>(C2 k 6 0 c ts).bind λ c ts=>a0t k c ts:=by
 unfold p6 X5
 simp only [y8,Rs.bind_assoc,Rs.bind_ok,a9l]
 rfl
theorem b6n {k : Nat} {c c' : Course} {ts ts' : List Tk} (h : X5 k c ts = .ok c' ts') : ∀ j,j < 6 -> D0 c' j = D0 c j:=by
 obtain ⟨a,ts2,_,h⟩:=Rs.bind_eq h
 obtain ⟨l,ts3,_,h⟩:=Rs.bind_eq h
 cases h
 intro j hj
 rcases six hj with rfl | rfl | rfl | rfl | rfl | rfl <;> rfl
theorem b6m {k : Nat} {c : Course} {ts : List Tk} (h : QT ts) : (X5 k c ts).kp:=e7 (X8 h) λ _ _ h=>e7 (a5s _ _ _ h) λ _ _ h=>m6 h
theorem b6o (k : Nat) (ts : List Tk) (c : Course) (hq : QT ts) (hl : c.mats.length + k <= 1000000000) (hn : X5 k c ts ≠ .out) : MeetsR Tryz.prog 72 [.loc 5000 0] (psC ts c) λ o O'=>RdV (λ _=>.tup []) id (X5 k c ts) o O':=b6r k ts c hq hl hn
abbrev j6 : Cfg:={rs:=[8,11,17,19,47,50,54,57,63,72,79,86,93,100,105,108,114,117,123],priv:=[21,24,27,30,33,36]}
theorem b3F (hT : s8) (k : Nat) (hk : k <= 400000) (ts : List Tk) (hq : QT ts) (hn : p6 k ts ≠ .out) :
 MeetsR Tryz.prog 41 [.loc 5000 0] (pcO ts a3Y []) λ o O'=>RdV Course.d id (p6 k ts) o O':=by
 obtain ⟨res,hres⟩ : ∃ res,res = p6 k ts:=⟨_,rfl⟩
 rw [<- hres] at hn ⊢
 rw [b3B] at hres
 refine i6 tok j6 Tryz.func41 rfl (by kernel_rfl) Tryz.ntmps41 (by simp) λ B0 W0 V0 lent g0=>?_
 ((conv=>whnf); repeat' ((fail_if_success (refine T9 1 ?_)); refine Y j6 rfl ?_;conv=>whnf))
 refine a6Z 5000 [.d (.sl (ts.map tkC)),.d (.str []),.full [],.full [],.full [],.full [],.full [],.full [],.full [],.d (.sl []),iB 0,iB 0,iB 0,iB 0,iB 0,iB 0,iB 0] rfl ⟨.inl rfl,.inl rfl,.inr ⟨rfl,.inl rfl⟩,.inr ⟨rfl,.inl rfl⟩,.inr ⟨rfl,.inl rfl⟩,.inr ⟨rfl,.inl rfl⟩,.inr ⟨rfl,.inl rfl⟩,.inr ⟨rfl,.inl rfl⟩,.inr ⟨rfl,.inl rfl⟩,.inr ⟨rfl,.inr rfl⟩,.inl rfl,.inl rfl,.inl rfl,.inl rfl,.inl rfl,.inl rfl,.inl rfl,True.intro⟩ ?_
 conv=>whnf
 refine b2g [(.inr (5000,2),7001,84,2),(.inr (5000,3),7002,86,4),(.inr (5000,4),7003,91,5),(.inr (5000,5),7004,96,2),(.inr (5000,6),7005,98,4),(.inr (5000,7),7006,100,3),(.inr (5000,8),7007,102,4)] ?_
 iterate 7
  conv=>whnf
  refine ⟨λ _ h=>absurd h (by simp),?_⟩
 conv=>whnf
 refine b2i 10000 5000 rfl (by decide) λ g=>?_
 refine Y j6 rfl ?_
 ((conv=>whnf);repeat'(refine Y j6 rfl ?_;conv=>whnf))
 refine ⟨psC (ts) zC,_,⟨?_,?_⟩,(kR (c:=zC) λ u=>m7 ts u [99,111,117,114,115,101] hq.1).mono ?_⟩
 . exact Kr
 . exact Kr
 intro o O2 ho
 have hh:=e9 ho
 clear ho
 obtain hh | hh:=hh
 . obtain ⟨a,e,ts9,c9,hU,rfl,rfl⟩:=hh
   (try dsimp only at hU)
   rw [hU] at hres
   (try rw [Rs.bind_er] at hres)
   ((conv=>whnf);repeat'(refine Y j6 rfl ?_;conv=>whnf))
   refine ⟨psC ts9 c9,⟨?_,?_⟩,?_⟩
   . exact Kr
   . exact Kr
   rw [hres]
   exact ⟨_,_,rfl,rfl⟩
 obtain ⟨x1,ts1,hU,rfl,rfl⟩:=hh
 (try dsimp only at hU)
 rw [hU] at hres
 (try rw [Rs.bind_ok] at hres)
 ((conv=>whnf);repeat'(refine Y j6 rfl ?_;conv=>whnf))
 have hq1:=j4 hq _ _ hU
 refine ⟨psC (ts1) zC,_,⟨?_,?_⟩,(kR (c:=zC) λ u=>O8 ts1 u hq1).mono ?_⟩
 . exact Kr
 . exact Kr
 intro o O2 ho
 have hh:=e9 ho
 clear ho
 obtain hh | hh:=hh
 . obtain ⟨a,e,ts9,c9,hU,rfl,rfl⟩:=hh
   (try dsimp only at hU)
   rw [hU] at hres
   (try rw [Rs.bind_er] at hres)
   ((conv=>whnf);repeat'(refine Y j6 rfl ?_;conv=>whnf))
   refine ⟨psC ts9 c9,⟨?_,?_⟩,?_⟩
   . exact Kr
   . exact Kr
   rw [hres]
   exact ⟨_,_,rfl,rfl⟩
 obtain ⟨w,ts2,hU,rfl,rfl⟩:=hh
 (try dsimp only at hU)
 rw [hU] at hres
 (try rw [Rs.bind_ok] at hres)
 ((conv=>whnf);repeat'(refine Y j6 rfl ?_;conv=>whnf))
 have hq2:=F1 hq1 _ _ hU
 refine ⟨psC (ts2) (nmC w),_,⟨?_,?_⟩,(kR (c:=(nmC w)) λ u=>m7 ts2 u [123] hq2.1).mono ?_⟩
 . exact Kr
 . exact Kr
 intro o O2 ho
 have hh:=e9 ho
 clear ho
 obtain hh | hh:=hh
 . obtain ⟨a,e,ts9,c9,hU,rfl,rfl⟩:=hh
   (try dsimp only at hU)
   rw [hU] at hres
   (try rw [Rs.bind_er] at hres)
   ((conv=>whnf);repeat'(refine Y j6 rfl ?_;conv=>whnf))
   refine ⟨psC ts9 c9,⟨?_,?_⟩,?_⟩
   . exact Kr
   . exact Kr
   rw [hres]
   exact ⟨_,_,rfl,rfl⟩
 obtain ⟨x2,ts3,hU,rfl,rfl⟩:=hh
 (try dsimp only at hU)
 rw [hU] at hres
 (try rw [Rs.bind_ok] at hres)
 ((conv=>whnf);repeat'(refine Y j6 rfl ?_;conv=>whnf))
 have hq3:=j4 hq2 _ _ hU
 have hn3 : X5 k (nmC w) ts3 ≠ .out:=E5 (by rw [<- hres]; exact hn)
 refine ⟨psC (ts3) (nmC w),_,⟨?_,?_⟩,(b6o k ts3 (nmC w) hq3 (by show 0 + k <= _; omega) hn3).mono ?_⟩
 . exact Kr
 . exact Kr
 intro o O2 ho
 have hh:=e9 ho
 clear ho
 obtain hh | hh:=hh
 . obtain ⟨a,e,ts9,c9,hU,rfl,rfl⟩:=hh
   (try dsimp only at hU)
   rw [hU] at hres
   (try rw [Rs.bind_er] at hres)
   ((conv=>whnf);repeat'(refine Y j6 rfl ?_;conv=>whnf))
   refine ⟨psC ts9 c9,⟨?_,?_⟩,?_⟩
   . exact Kr
   . exact Kr
   rw [hres]
   exact ⟨_,_,rfl,rfl⟩
 obtain ⟨c0,ts4,hU,rfl,rfl⟩:=hh
 (try dsimp only at hU)
 rw [hU] at hres
 (try rw [Rs.bind_ok] at hres)
 ((conv=>whnf);repeat'(refine Y j6 rfl ?_;conv=>whnf))
 have hq4:=b6m hq3 _ _ hU
 have hl4:=b6n hU
 repeat' ((first | (intro hlq; (try simp only [SL] at hlq)) | refine Ks ?_ | refine Kq ?_ | refine Kt ?_ | refine Ka ?_ | refine Kb ?_ | refine Kc (hd:=rfl) (e:=?_) | refine Kc (hd:=d7 _) (e:=?_) | refine Kd (e:=?_) | refine Kl rfl ?_ | fail) <;> ((conv=>whnf);repeat'(refine Y j6 rfl ?_;conv=>whnf)))
 refine m9 tok j6 [] (X:=Nat × Course × List Tk) (λ s=>[(40,iB s.1)]) (λ s=>(10000,.pn g [5000]) :: psC s.2.2 s.2.1) [] (λ s=>s.1 <= 6 /\ QT s.2.2 /\ res = ((C2 k (6 - s.1) s.1 s.2.1 s.2.2).bind λ c ts=>a0t k c ts) /\ ∀ j,j < 6 -> s.1 <= j -> D0 s.2.1 j = 0) (λ s=>6 - s.1) (0,c0,ts4) ?_
 ((conv=>whnf);repeat'(refine Y j6 rfl ?_;conv=>whnf))
 refine And.intro ?_ ⟨⟨by omega,hq4,hres,λ j hj _=>(hl4 j hj).trans (by rcases six hj with rfl | rfl | rfl | rfl | rfl | rfl <;> rfl)⟩,λ s hΦ=>?_⟩
 . exact Kr
 clear hres hU hq4 hq3 hn3 hl4 hq2 hq1 hq
 obtain ⟨i,c,ts5⟩:=s
 obtain ⟨hi,hq5,hres,hlen⟩:=hΦ
 dsimp only at hi hq5 hres hlen
 ((conv=>whnf);repeat'(refine Y j6 rfl ?_;conv=>whnf))
 refine ⟨λ h1=>?_,λ h1=>?_⟩ <;> (try simp only [BL] at h1) <;> ((conv=>whnf);repeat'(refine Y j6 rfl ?_;conv=>whnf))
 . have h1' : (i : Int) < ((6 : Nat) : Int):=h1
   have hi' : i < 6:=by omega
   refine ⟨[.str (secW.getD i []),.fn (scF i) [.raw (g 5000).1] []],⟨by omega,b8w hi',rfl⟩,?_⟩
   ((conv=>whnf);repeat'(refine Y j6 rfl ?_;conv=>whnf))
   rw [show 6 - i = (5 - i) + 1 by omega,C2,Rs.bind_assoc] at hres
   refine m9 tok j6 [] (X:=Nat × Course × List Tk) (λ _=>[]) (λ s=>(4,.box [.d (.str (secW.getD i [])),.d (.fn (scF i) [.raw (g 5000).1] [])] 147) :: (10000,.pn g [5000]) :: psC s.2.2 s.2.1) [] (λ s=>s.1 <= k /\ QT s.2.2 /\ res = ((D4 i s.1 s.2.1 s.2.2).bind λ c ts=>(C2 k (5 - i) (i + 1) c ts).bind λ c ts=>a0t k c ts) /\ D0 s.2.1 i + s.1 <= k /\ ∀ j,j < 6 -> i < j -> D0 s.2.1 j = 0) (λ s=>s.1) (k,c,ts5) ?_
   ((conv=>whnf);repeat'(refine Y j6 rfl ?_;conv=>whnf))
   refine And.intro ?_ ⟨⟨Nat.le_refl _,hq5,hres,by rw [hlen i hi' (Nat.le_refl _)]; omega,λ j hj hij=>hlen j hj (by omega)⟩,λ s hΦ=>?_⟩
   . exact Kr
   clear hres hlen hq5
   obtain ⟨j,c,ts6⟩:=s
   obtain ⟨hj,hq6,hres,hli,hlen⟩:=hΦ
   dsimp only at hj hq6 hres hli hlen
   cases j with
   | zero=>rw [D4] at hres; exact absurd hres hn
   | succ j =>
   rw [D4] at hres
   have h2:=Bool.eq_false_or_eq_true (isW (secW.getD i []) ts6)
   ((conv=>whnf);repeat'(refine Y j6 rfl ?_;conv=>whnf))
   obtain h2 | h2:=h2
   . rw [if_pos h2] at hres
     simp only [Rs.bind_assoc] at hres
     have hq7:=hq6.isW h2
     have hn7 : J9 j i c ts6.tail ≠ .out:=E5 (by rw [<- hres]; exact hn)
     refine ⟨psC (ts6) c,_,⟨?_,?_⟩,(kC (c:=c) λ u=>q7 ts6 u (secW.getD i []) hq6.1 h2).mono ?_⟩
     . exact Kr
     . exact Kr
     rintro _ O2 ⟨rfl,rfl⟩
     ((conv=>whnf);repeat'(refine Y j6 rfl ?_;conv=>whnf))
     refine ⟨psC ts6.tail c,_,⟨?_,?_⟩,(b8B hT j (by omega) i hi' ts6.tail c hq7 (by omega) hn7).mono ?_⟩
     . exact ⟨⟨rfl,⟨_,_,rfl⟩,10000,g,_,rfl,rfl,rfl⟩,True.intro⟩
     . exact Kr
     intro o O2 ho
     have hh:=e9 ho
     clear ho
     obtain hh | hh:=hh
     . obtain ⟨a,e,ts9,c9,hU,rfl,rfl⟩:=hh
       rw [hU] at hres
       rw [Rs.bind_er] at hres
       ((conv=>whnf);repeat'(refine Y j6 rfl ?_;conv=>whnf))
       refine ⟨psC ts9 c9,⟨?_,?_⟩,?_⟩
       . exact Kr
       . exact Kr
       rw [hres]
       exact ⟨_,_,rfl,rfl⟩
     obtain ⟨c2,ts7,hU,rfl,rfl⟩:=hh
     rw [hU] at hres
     rw [Rs.bind_ok] at hres
     have hq8:=b0L hq7 _ _ hU
     have hls:=b8A hi' hU
     ((conv=>whnf);repeat'(refine Y j6 rfl ?_;conv=>whnf))
     refine ⟨⟨(j,c2,ts7),?_,⟨by dsimp only; omega,hq8,hres,by dsimp only; omega,λ j' hj' hij=>(hls.2 j' hj' (by omega)).trans (hlen j' hj' hij)⟩,by dsimp only; omega⟩⟩
     repeat' (first | exact True.intro | exact rfl | refine And.intro ?_ ?_)
   . rw [if_neg (by rw [h2]; decide),Rs.bind_ok] at hres
     refine ⟨psC (ts6) c,_,⟨?_,?_⟩,(kC (c:=c) λ u=>g8 ts6 u (secW.getD i []) hq6.1 h2).mono ?_⟩
     . exact Kr
     . exact Kr
     rintro _ O2 ⟨rfl,rfl⟩
     ((conv=>whnf);repeat'(refine Y j6 rfl ?_;conv=>whnf))
     repeat' ((first | (intro hlq; (try simp only [SL] at hlq)) | refine Ks ?_ | refine Kq ?_ | refine Kt ?_ | refine Ka ?_ | refine Kb ?_ | refine Kc (hd:=rfl) (e:=?_) | refine Kc (hd:=d7 _) (e:=?_) | refine Kd (e:=?_) | refine Kl rfl ?_ | fail) <;> ((conv=>whnf);repeat'(refine Y j6 rfl ?_;conv=>whnf)))
     refine ⟨⟨(i + 1,c,ts6),?_,⟨by dsimp only; omega,hq6,by rw [hres]; dsimp only; rw [show 6 - (i + 1) = 5 - i by omega],λ j' hj' hij=>hlen j' hj' (by omega)⟩,by dsimp only; omega⟩⟩
     repeat' (first | exact True.intro | exact rfl | refine And.intro ?_ ?_)
 . have h1' : ¬ (i : Int) < ((6 : Nat) : Int):=h1
   obtain rfl : i = 6:=by omega
   rw [show 6 - 6 = 0 from rfl,C2,Rs.bind_ok] at hres
   unfold a0t at hres
   refine ⟨psC (ts5) c,_,⟨?_,?_⟩,(kR (c:=c) λ u=>m7 ts5 u [116,105,101,115] hq5.1).mono ?_⟩
   . exact Kr
   . exact Kr
   intro o O2 ho
   have hh:=e9 ho
   clear ho
   obtain hh | hh:=hh
   . obtain ⟨a,e,ts9,c9,hU,rfl,rfl⟩:=hh
     (try dsimp only at hU)
     rw [hU] at hres
     (try rw [Rs.bind_er] at hres)
     ((conv=>whnf);repeat'(refine Y j6 rfl ?_;conv=>whnf))
     refine ⟨psC ts9 c9,⟨?_,?_⟩,?_⟩
     . exact Kr
     . exact Kr
     rw [hres]
     exact ⟨_,_,rfl,rfl⟩
   obtain ⟨x3,ts6,hU,rfl,rfl⟩:=hh
   (try dsimp only at hU)
   rw [hU] at hres
   (try rw [Rs.bind_ok] at hres)
   ((conv=>whnf);repeat'(refine Y j6 rfl ?_;conv=>whnf))
   have hq6:=j4 hq5 _ _ hU
   have hn6 : blockP k 0 ts6 ≠ .out:=E5 (by rw [<- hres]; exact hn)
   have hbl:=λ u=>(a6l k (by omega) k (Nat.le_refl _)).2 0 ts6 u (by omega) hq6 hn6
   refine ⟨psC (ts6) c,_,⟨?_,?_⟩,(kR (c:=c) λ u=>hbl u).mono ?_⟩
   . exact Kr
   . exact Kr
   intro o O2 ho
   have hh:=e9 ho
   clear ho
   obtain hh | hh:=hh
   . obtain ⟨a,e,ts9,c9,hU,rfl,rfl⟩:=hh
     (try dsimp only at hU)
     rw [hU] at hres
     (try rw [Rs.bind_er] at hres)
     ((conv=>whnf);repeat'(refine Y j6 rfl ?_;conv=>whnf))
     refine ⟨psC ts9 c9,⟨?_,?_⟩,?_⟩
     . exact Kr
     . exact Kr
     rw [hres]
     exact ⟨_,_,rfl,rfl⟩
   obtain ⟨l,ts7,hU,rfl,rfl⟩:=hh
   (try dsimp only at hU)
   rw [hU] at hres
   (try rw [Rs.bind_ok] at hres)
   ((conv=>whnf);repeat'(refine Y j6 rfl ?_;conv=>whnf))
   have hq7:=(Y4 k).2 _ _ hq6 _ _ hU
   refine ⟨psC (ts7) { c with ties:=l },_,⟨?_,?_⟩,(kR (c:={ c with ties:=l }) λ u=>a3g [[102,97,117,108,116,115],[123]] ts7 u hq7.1).mono ?_⟩
   . exact Kr
   . exact Kr
   intro o O2 ho
   have hh:=e9 ho
   clear ho
   obtain hh | hh:=hh
   . obtain ⟨a,e,ts9,c9,hU,rfl,rfl⟩:=hh
     (try dsimp only at hU)
     rw [hU] at hres
     (try rw [Rs.bind_er] at hres)
     ((conv=>whnf);repeat'(refine Y j6 rfl ?_;conv=>whnf))
     refine ⟨psC ts9 c9,⟨?_,?_⟩,?_⟩
     . exact Kr
     . exact Kr
     rw [hres]
     exact ⟨_,_,rfl,rfl⟩
   obtain ⟨x4,ts8,hU,rfl,rfl⟩:=hh
   (try dsimp only at hU)
   rw [hU] at hres
   (try rw [Rs.bind_ok] at hres)
   ((conv=>whnf);repeat'(refine Y j6 rfl ?_;conv=>whnf))
   have hq8:=X8 hq7 _ _ hU
   refine ⟨psC (ts8) { c with ties:=l },_,⟨?_,?_⟩,(kR (c:={ c with ties:=l }) λ u=>a1V 80 j2 p8 (λ _ h=>p7 h) [109,105,115,115,101,115] ts8 u hq8).mono ?_⟩
   . exact Kr
   . exact Kr
   intro o O2 ho
   have hh:=e9 ho
   clear ho
   obtain hh | hh:=hh
   . obtain ⟨a,e,ts9,c9,hU,rfl,rfl⟩:=hh
     (try dsimp only at hU)
     rw [hU] at hres
     (try rw [Rs.bind_er] at hres)
     ((conv=>whnf);repeat'(refine Y j6 rfl ?_;conv=>whnf))
     refine ⟨psC ts9 c9,⟨?_,?_⟩,?_⟩
     . exact Kr
     . exact Kr
     rw [hres]
     exact ⟨_,_,rfl,rfl⟩
   obtain ⟨a,ts9,hU,rfl,rfl⟩:=hh
   (try dsimp only at hU)
   rw [hU] at hres
   (try rw [Rs.bind_ok] at hres)
   ((conv=>whnf);repeat'(refine Y j6 rfl ?_;conv=>whnf))
   have hq9:=M2 (λ _ h=>p7 h) hq8 _ _ hU
   refine ⟨psC (ts9) { c with ties:=l,faults:={ c.faults with misses:=a } },_,⟨?_,?_⟩,(kR (c:={ c with ties:=l,faults:={ c.faults with misses:=a } }) λ u=>a1V 80 j2 p8 (λ _ h=>p7 h) [115,116,114,97,121,115] ts9 u hq9).mono ?_⟩
   . exact Kr
   . exact Kr
   intro o O2 ho
   have hh:=e9 ho
   clear ho
   obtain hh | hh:=hh
   . obtain ⟨a,e,ts9,c9,hU,rfl,rfl⟩:=hh
     (try dsimp only at hU)
     rw [hU] at hres
     (try rw [Rs.bind_er] at hres)
     ((conv=>whnf);repeat'(refine Y j6 rfl ?_;conv=>whnf))
     refine ⟨psC ts9 c9,⟨?_,?_⟩,?_⟩
     . exact Kr
     . exact Kr
     rw [hres]
     exact ⟨_,_,rfl,rfl⟩
   obtain ⟨b,tsa,hU,rfl,rfl⟩:=hh
   (try dsimp only at hU)
   rw [hU] at hres
   (try rw [Rs.bind_ok] at hres)
   ((conv=>whnf);repeat'(refine Y j6 rfl ?_;conv=>whnf))
   have hqa:=M2 (λ _ h=>p7 h) hq9 _ _ hU
   refine ⟨psC (tsa) { c with ties:=l,faults:={ c.faults with misses:=a,strays:=b } },_,⟨?_,?_⟩,(kR (c:={ c with ties:=l,faults:={ c.faults with misses:=a,strays:=b } }) λ u=>a1V 81 v8 (Y5 hT) (λ _ h=>D7 h) [119,105,110,100,111,119] tsa u hqa).mono ?_⟩
   . exact Kr
   . exact Kr
   intro o O2 ho
   have hh:=e9 ho
   clear ho
   obtain hh | hh:=hh
   . obtain ⟨a,e,ts9,c9,hU,rfl,rfl⟩:=hh
     (try dsimp only at hU)
     rw [hU] at hres
     (try rw [Rs.bind_er] at hres)
     ((conv=>whnf);repeat'(refine Y j6 rfl ?_;conv=>whnf))
     refine ⟨psC ts9 c9,⟨?_,?_⟩,?_⟩
     . exact Kr
     . exact Kr
     rw [hres]
     exact ⟨_,_,rfl,rfl⟩
   obtain ⟨w2,tsb,hU,rfl,rfl⟩:=hh
   (try dsimp only at hU)
   rw [hU] at hres
   (try rw [Rs.bind_ok] at hres)
   ((conv=>whnf);repeat'(refine Y j6 rfl ?_;conv=>whnf))
   have hqb:=M2 (λ _ h=>D7 h) hqa _ _ hU
   refine ⟨psC (tsb) { c with ties:=l,faults:={ c.faults with misses:=a,strays:=b,window:=w2 } },_,⟨?_,?_⟩,(kR (c:={ c with ties:=l,faults:={ c.faults with misses:=a,strays:=b,window:=w2 } }) λ u=>a1V 81 v8 (Y5 hT) (λ _ h=>D7 h) [114,101,115,105,100,117,97,108] tsb u hqb).mono ?_⟩
   . exact Kr
   . exact Kr
   intro o O2 ho
   have hh:=e9 ho
   clear ho
   obtain hh | hh:=hh
   . obtain ⟨a,e,ts9,c9,hU,rfl,rfl⟩:=hh
     (try dsimp only at hU)
     rw [hU] at hres
     (try rw [Rs.bind_er] at hres)
     ((conv=>whnf);repeat'(refine Y j6 rfl ?_;conv=>whnf))
     refine ⟨psC ts9 c9,⟨?_,?_⟩,?_⟩
     . exact Kr
     . exact Kr
     rw [hres]
     exact ⟨_,_,rfl,rfl⟩
   obtain ⟨r,tsc,hU,rfl,rfl⟩:=hh
   (try dsimp only at hU)
   rw [hU] at hres
   (try rw [Rs.bind_ok] at hres)
   ((conv=>whnf);repeat'(refine Y j6 rfl ?_;conv=>whnf))
   have hqc:=M2 (λ _ h=>D7 h) hqb _ _ hU
   refine ⟨psC (tsc) { c with ties:=l,faults:={ c.faults with misses:=a,strays:=b,window:=w2,residual:=r } },_,⟨?_,?_⟩,(kR (c:={ c with ties:=l,faults:={ c.faults with misses:=a,strays:=b,window:=w2,residual:=r } }) λ u=>a1V 80 j2 p8 (λ _ h=>p7 h) [100,114,105,102,116] tsc u hqc).mono ?_⟩
   . exact Kr
   . exact Kr
   intro o O2 ho
   have hh:=e9 ho
   clear ho
   obtain hh | hh:=hh
   . obtain ⟨a,e,ts9,c9,hU,rfl,rfl⟩:=hh
     (try dsimp only at hU)
     rw [hU] at hres
     (try rw [Rs.bind_er] at hres)
     ((conv=>whnf);repeat'(refine Y j6 rfl ?_;conv=>whnf))
     refine ⟨psC ts9 c9,⟨?_,?_⟩,?_⟩
     . exact Kr
     . exact Kr
     rw [hres]
     exact ⟨_,_,rfl,rfl⟩
   obtain ⟨d,tsd,hU,rfl,rfl⟩:=hh
   (try dsimp only at hU)
   rw [hU] at hres
   (try rw [Rs.bind_ok] at hres)
   ((conv=>whnf);repeat'(refine Y j6 rfl ?_;conv=>whnf))
   have hqd:=M2 (λ _ h=>p7 h) hqc _ _ hU
   refine ⟨psC (tsd) { c with ties:=l,faults:=⟨a,b,w2,r,d⟩ },_,⟨?_,?_⟩,(kR (c:={ c with ties:=l,faults:=⟨a,b,w2,r,d⟩ }) λ u=>a3g [[125],[112,114,111,116,101,115,116],[102,101,101]] tsd u hqd.1).mono ?_⟩
   . exact Kr
   . exact Kr
   intro o O2 ho
   have hh:=e9 ho
   clear ho
   obtain hh | hh:=hh
   . obtain ⟨a,e,ts9,c9,hU,rfl,rfl⟩:=hh
     (try dsimp only at hU)
     rw [hU] at hres
     (try rw [Rs.bind_er] at hres)
     ((conv=>whnf);repeat'(refine Y j6 rfl ?_;conv=>whnf))
     refine ⟨psC ts9 c9,⟨?_,?_⟩,?_⟩
     . exact Kr
     . exact Kr
     rw [hres]
     exact ⟨_,_,rfl,rfl⟩
   obtain ⟨x5,tse,hU,rfl,rfl⟩:=hh
   (try dsimp only at hU)
   rw [hU] at hres
   (try rw [Rs.bind_ok] at hres)
   ((conv=>whnf);repeat'(refine Y j6 rfl ?_;conv=>whnf))
   have hqe:=X8 hqd _ _ hU
   refine ⟨psC (tse) { c with ties:=l,faults:=⟨a,b,w2,r,d⟩ },_,⟨?_,?_⟩,(kR (c:={ c with ties:=l,faults:=⟨a,b,w2,r,d⟩ }) λ u=>p8 tse u hqe).mono ?_⟩
   . exact Kr
   . exact Kr
   intro o O2 ho
   have hh:=e9 ho
   clear ho
   obtain hh | hh:=hh
   . obtain ⟨a,e,ts9,c9,hU,rfl,rfl⟩:=hh
     (try dsimp only at hU)
     rw [hU] at hres
     (try rw [Rs.bind_er] at hres)
     ((conv=>whnf);repeat'(refine Y j6 rfl ?_;conv=>whnf))
     refine ⟨psC ts9 c9,⟨?_,?_⟩,?_⟩
     . exact Kr
     . exact Kr
     rw [hres]
     exact ⟨_,_,rfl,rfl⟩
   obtain ⟨f,tsf,hU,rfl,rfl⟩:=hh
   (try dsimp only at hU)
   rw [hU] at hres
   (try rw [Rs.bind_ok] at hres)
   ((conv=>whnf);repeat'(refine Y j6 rfl ?_;conv=>whnf))
   have hqf:=p7 hqe _ _ hU
   refine ⟨psC (tsf) { c with ties:=l,faults:=⟨a,b,w2,r,d⟩,fee:=f },_,⟨?_,?_⟩,(kR (c:={ c with ties:=l,faults:=⟨a,b,w2,r,d⟩,fee:=f }) λ u=>m7 tsf u [100,101,97,100,108,105,110,101] hqf.1).mono ?_⟩
   . exact Kr
   . exact Kr
   intro o O2 ho
   have hh:=e9 ho
   clear ho
   obtain hh | hh:=hh
   . obtain ⟨a,e,ts9,c9,hU,rfl,rfl⟩:=hh
     (try dsimp only at hU)
     rw [hU] at hres
     (try rw [Rs.bind_er] at hres)
     ((conv=>whnf);repeat'(refine Y j6 rfl ?_;conv=>whnf))
     refine ⟨psC ts9 c9,⟨?_,?_⟩,?_⟩
     . exact Kr
     . exact Kr
     rw [hres]
     exact ⟨_,_,rfl,rfl⟩
   obtain ⟨x6,tsg,hU,rfl,rfl⟩:=hh
   (try dsimp only at hU)
   rw [hU] at hres
   (try rw [Rs.bind_ok] at hres)
   ((conv=>whnf);repeat'(refine Y j6 rfl ?_;conv=>whnf))
   have hqg:=j4 hqf _ _ hU
   refine ⟨psC (tsg) { c with ties:=l,faults:=⟨a,b,w2,r,d⟩,fee:=f },_,⟨?_,?_⟩,(kR (c:={ c with ties:=l,faults:=⟨a,b,w2,r,d⟩,fee:=f }) λ u=>Y5 hT tsg u hqg).mono ?_⟩
   . exact Kr
   . exact Kr
   intro o O2 ho
   have hh:=e9 ho
   clear ho
   obtain hh | hh:=hh
   . obtain ⟨a,e,ts9,c9,hU,rfl,rfl⟩:=hh
     (try dsimp only at hU)
     rw [hU] at hres
     (try rw [Rs.bind_er] at hres)
     ((conv=>whnf);repeat'(refine Y j6 rfl ?_;conv=>whnf))
     refine ⟨psC ts9 c9,⟨?_,?_⟩,?_⟩
     . exact Kr
     . exact Kr
     rw [hres]
     exact ⟨_,_,rfl,rfl⟩
   obtain ⟨t,tsh,hU,rfl,rfl⟩:=hh
   (try dsimp only at hU)
   rw [hU] at hres
   (try rw [Rs.bind_ok] at hres)
   ((conv=>whnf);repeat'(refine Y j6 rfl ?_;conv=>whnf))
   have hqh:=D7 hqg _ _ hU
   refine ⟨psC (tsh) { c with ties:=l,faults:=⟨a,b,w2,r,d⟩,fee:=f,deadline:=t },_,⟨?_,?_⟩,(kR (c:={ c with ties:=l,faults:=⟨a,b,w2,r,d⟩,fee:=f,deadline:=t }) λ u=>a3g [[59],[125]] tsh u hqh.1).mono ?_⟩
   . exact Kr
   . exact Kr
   intro o O2 ho
   have hh:=e9 ho
   clear ho
   obtain hh | hh:=hh
   . obtain ⟨a,e,ts9,c9,hU,rfl,rfl⟩:=hh
     (try dsimp only at hU)
     rw [hU] at hres
     (try rw [Rs.bind_er] at hres)
     ((conv=>whnf);repeat'(refine Y j6 rfl ?_;conv=>whnf))
     refine ⟨psC ts9 c9,⟨?_,?_⟩,?_⟩
     . exact Kr
     . exact Kr
     rw [hres]
     exact ⟨_,_,rfl,rfl⟩
   obtain ⟨x7,tsi,hU,rfl,rfl⟩:=hh
   (try dsimp only at hU)
   rw [hU] at hres
   (try rw [Rs.bind_ok] at hres)
   ((conv=>whnf);repeat'(refine Y j6 rfl ?_;conv=>whnf))
   refine ⟨psC (tsi) { c with ties:=l,faults:=⟨a,b,w2,r,d⟩,fee:=f,deadline:=t },.d (Course.d { c with ties:=l,faults:=⟨a,b,w2,r,d⟩,fee:=f,deadline:=t }),?_,?_⟩
   rotate_left 1
   . rw [hres]
     exact ⟨rfl,rfl⟩
   repeat' (first | exact True.intro | exact rfl | refine And.intro ?_ ?_)
end Go.Proofs.YtaopegkpjhkooaaGreatDoor.Dx
/- Chapter 06: parsing a course. -/
namespace Go.Proofs.YtaopegkpjhkooaaGreatDoor.Dx
open Go Go.RowKit
set_option maxRecDepth 100000
set_option maxHeartbeats 16000000
theorem b3n (b0 b1 b2 b3 b4 b5 b6 b7 b8 b9 c0 c1 c2 c3 c4 c5 e5 e6 : D) : MeetsD Tryz.prog 70 [.loc 4 0,.loc 5 0,.loc 6 0] [(4,.box [.d b0,.d b1,.d b2,.d b3,.d b4,.d b5,.d b6,.d b7,.d b8,.d b9,.d c0,.d c1,.d c2,.d c3,.d c4,.d c5] 55),(5,.box [.d e5] 3),(6,.box [.d e6] 32)] none λ O'=>O' = [(4,.box [.d b0,.d b1,.d b2,.d b3,.d b4,.d b5,.d b6,.d b7,.d b8,.d b9,.d c0,.d c1,.d c2,.d c3,.d c4,.d c5] 55),(5,.box [.d e5] 3),(6,.box [.d e6] 32)]:=by
 refine V8 tok {} Tryz.func70 rfl (by kernel_rfl) Tryz.ntmps70 (by simp) (by decide) (by decide) λ B0 W0 V0 lent g0=>?_
 ((conv=>whnf);repeat'(refine Z rfl ?_;conv=>whnf))
 refine ⟨_,.d (.tup []),?_,⟨⟨_,rfl⟩,rfl⟩⟩
 repeat' (first | exact True.intro | exact rfl | refine And.intro ?_ ?_ | (exact U2 _ _))
abbrev Z9 : Cfg:={nm:=[(4,54),(6,56)]}
theorem a7z (b0 b1 b2 b3 b4 b5 b6 b7 b8 b9 c0 c1 c2 c3 c4 c5 e5 e6 : D) (at_ e : Int) : MeetsD Tryz.prog 70 [.loc 4 0,.loc 5 0,.loc 6 0] [(4,.box [.d b0,.d b1,.d b2,.d b3,.d b4,.d b5,.d b6,.d b7,.d b8,.d b9,.d c0,.d c1,.d c2,.d c3,.d c4,.d c5] 55),(5,.box [.d e5] 3),(6,.box [.d e6] 32)] (some (.iface 130 (.agg [iD at_,iD e])))
 λ O'=>O' = [(4,.box [.d (.str []),.d (.sl []),.d (.sl []),.d (.sl []),.d (.sl []),.d (.sl []),.d (.sl []),.d (.sl []),.d (.sl []),.d (iD 0),.d (iD 0),.d (iD 0),.d (iD 0),.d (iD 0),.d (iD 0),.d (iD 0)] 55),(5,.box [.d (iD at_)] 3),(6,.box [.d (iD e)] 32)]:=by
 refine V8 tok Z9 Tryz.func70 rfl (by kernel_rfl) Tryz.ntmps70 (by simp) (by decide) (by decide) λ B0 W0 V0 lent g0=>?_
 ((conv=>whnf);repeat'(refine Y Z9 rfl ?_;conv=>whnf))
 refine ⟨λ h=>absurd h (by decide),λ _=>?_⟩
 ((conv=>whnf);repeat'(refine Y Z9 rfl ?_;conv=>whnf))
 refine k9 tok (cf:=Z9) (by kernel_rfl) [.p 0,.p 1,.p 2,.p 3,.p 4,.s 5 [0],.s 6 [2,1],.s 7 [4,3]] (by kernel_rfl) ?_
 ((conv=>whnf);repeat'(refine Y Z9 rfl ?_;conv=>whnf))
 repeat' ((first | (intro hlq; (try simp only [SL] at hlq)) | refine Ks ?_ | refine Kq ?_ | refine Kt ?_ | ((refine Kh (λ hb=>?_) λ hb=>?_) <;> (try simp only [BL] at hb)) | refine Ka ?_ | refine Kb ?_ | refine Kc (hd:=rfl) (e:=?_) | refine Kc (hd:=d7 _) (e:=?_) | refine Kd (e:=?_) | refine Kl rfl ?_ | fail) <;> ((conv=>whnf);repeat'(refine Y Z9 rfl ?_;conv=>whnf)))
 refine ⟨_,.d (.tup []),?_,⟨⟨_,rfl⟩,rfl⟩⟩
 repeat' (first | exact True.intro | exact rfl | refine And.intro ?_ ?_ | (exact U2 _ _))
theorem b3A (hT : s8) (ts : List Tk) (hq : QT ts) (hn : p6 FU ts ≠ .out) : MeetsR Tryz.prog 40 [.loc 5000 0] (pcO ts a3Y []) λ o O'=>RdV Course.d id (p6 FU ts) o O':=by
 have hc:=b3F hT FU (by decide) ts hq hn
 obtain ⟨res,hres⟩ : ∃ res,res = p6 FU ts:=⟨_,rfl⟩
 rw [<- hres] at hc ⊢
 refine i6 tok {rs:=[4]} Tryz.func40 rfl (by kernel_rfl) Tryz.ntmps40 (by simp) λ B0 W0 V0 lent g0=>?_
 ((conv=>whnf);repeat'(refine Y {rs:=[4]} rfl ?_;conv=>whnf))
 refine ⟨pcO ts a3Y [],_,⟨?_,?_⟩,hc.mono ?_⟩
 . exact Kr
 . exact Kr
 intro o O2 ho
 have hh:=e9 ho
 clear ho
 obtain hh | hh:=hh
 . obtain ⟨a,e,ts9,c9,hU,rfl,rfl⟩:=hh
   ((conv=>whnf);repeat'(refine Y {rs:=[4]} rfl ?_;conv=>whnf))
   refine ⟨psC ts9 c9,⟨?_,?_⟩,?_⟩
   . exact Kr
   . exact Kr
   rw [hU]
   exact ⟨_,_,rfl,rfl⟩
 obtain ⟨c,ts2,hU,rfl,rfl⟩:=hh
 ((conv=>whnf);repeat'(refine Y {rs:=[4]} rfl ?_;conv=>whnf))
 refine ⟨psC ts2 c,.d c.d,?_,?_⟩
 rotate_left 1
 . rw [hU]
   exact ⟨rfl,rfl⟩
 . exact Kr
theorem b5H {k : Nat} {c : Course} {ts : List Tk} (h : QT ts) : (X2 k c ts).kp:=by
 rw [a9l]
 exact e7 (j4 h) λ _ _ h=>e7 ((Y4 k).2 _ _ h) λ _ _ h=>e7 (X8 h) λ _ _ h=>e7 (M2 (λ _ h=>p7 h) h) λ _ _ h=>e7 (M2 (λ _ h=>p7 h) h) λ _ _ h=>e7 (M2 (λ _ h=>D7 h) h) λ _ _ h=>e7 (M2 (λ _ h=>D7 h) h) λ _ _ h=>e7 (M2 (λ _ h=>p7 h) h) λ _ _ h =>
  e7 (X8 h) λ _ _ h=>e7 (p7 h) λ _ _ h=>e7 (j4 h) λ _ _ h=>e7 (D7 h) λ _ _ h=>e7 (X8 h) λ _ _ h=>m6 h
theorem b3E {k : Nat} {ts : List Tk} (h : QT ts) : (p6 k ts).kp :=
 e7 (j4 h) λ _ _ h=>e7 (F1 h) λ _ _ h=>e7 (j4 h) λ _ _ h=>e7 (j4 h) λ _ _ h=>e7 (j4 h) λ _ _ h=>e7 (a5s _ _ _ h) λ _ _ h=>e7 (b0P _ _ _ _ h) λ _ _ h=>b5H h
abbrev q8 : Cfg:={nm:=[(31,5000)],rs:=[34,36,40],priv:=[30]}
theorem b7a (hT : s8) (src : List UInt8) (hl : src.length <= 65536) : Meets Tryz.prog 39 [.sl (d9 src),.fn 40 [] []] λ d=>d = .tup [(m3 src).1.d,iD (m3 src).2.1,iD (m3 src).2.2]:=by
 have htk:=R2 hT src hl
 have hq:=a3L src hl
 have hfu:=a1i src hl
 obtain ⟨x,hx⟩ : ∃ x,x = m3 src:=⟨_,rfl⟩
 rw [<- hx]
 unfold m3 z6 at hx
 refine a2M tok q8 Tryz.func39 rfl (by kernel_rfl) Tryz.ntmps39 (by simp) 4 rfl (by decide) λ B0 W0 V0 lent g0=>?_
 refine C4 tok q8 ?_
 ((conv=>whnf);repeat'(refine Y q8 rfl ?_;conv=>whnf))
 refine C4 tok q8 ?_
 ((conv=>whnf);repeat'(refine Y q8 rfl ?_;conv=>whnf))
 refine Meets.k htk ?_
 ((conv=>whnf);repeat'(refine Y q8 rfl ?_;conv=>whnf))
 refine C4 tok q8 ?_
 ((conv=>whnf);repeat'(refine Y q8 rfl ?_;conv=>whnf))
 refine ⟨λ h=>absurd h (by decide),λ _=>?_⟩
 ((conv=>whnf);repeat'(refine Y q8 rfl ?_;conv=>whnf))
 refine C4 tok q8 ?_
 ((conv=>whnf);repeat'(refine Y q8 rfl ?_;conv=>whnf))
 repeat' ((first | (intro hlq; (try simp only [SL] at hlq)) | refine Ks ?_ | refine Kq ?_ | refine Kt ?_ | refine Ka ?_ | refine Kb ?_ | refine Kc (hd:=rfl) (e:=?_) | refine Kc (hd:=d7 _) (e:=?_) | refine Kd (e:=?_) | refine Kl rfl ?_ | fail) <;> ((conv=>whnf);repeat'(refine Y q8 rfl ?_;conv=>whnf)))
 refine ⟨λ h0=>?_,λ h0=>?_⟩ <;> (try simp only [BL] at h0) <;> ((conv=>whnf);repeat'(refine Y q8 rfl ?_;conv=>whnf))
 . obtain ⟨b,bs,hb⟩:=List.exists_cons_of_length_pos (l:=bads src 0 (-1) 0) (by omega)
   rw [hb] at hx ⊢
   dsimp only at hx
   refine k9 tok (cf:=q8) (by kernel_rfl) [.p 0,.p 1,.p 2,.p 3,.p 4,.s 5 [0],.s 6 [4,1,2,3],.s 7 []] (by kernel_rfl) ?_
   ((conv=>whnf);repeat'(refine Y q8 rfl ?_;conv=>whnf))
   repeat' ((first | (intro hlq; (try simp only [SL] at hlq)) | refine Ks ?_ | refine Kq ?_ | refine Kt ?_ | ((refine Kh (λ hb=>?_) λ hb=>?_) <;> (try simp only [BL] at hb)) | refine Ka ?_ | refine Kb ?_ | refine Kc (hd:=rfl) (e:=?_) | refine Kc (hd:=d7 _) (e:=?_) | refine Kd (e:=?_) | refine Kl rfl ?_ | fail) <;> ((conv=>whnf);repeat'(refine Y q8 rfl ?_;conv=>whnf)))
   refine ⟨prC b,⟨Int.le_refl _,rfl,rfl⟩,?_⟩
   ((conv=>whnf);repeat'(refine Y q8 rfl ?_;conv=>whnf))
   repeat' ((first | (intro hlq; (try simp only [SL] at hlq)) | refine Ks ?_ | refine Kq ?_ | refine Kt ?_ | ((refine Kh (λ hb=>?_) λ hb=>?_) <;> (try simp only [BL] at hb)) | refine Ka ?_ | refine Kb ?_ | refine Kc (hd:=rfl) (e:=?_) | refine Kc (hd:=d7 _) (e:=?_) | refine Kd (e:=?_) | refine Kl rfl ?_ | fail) <;> ((conv=>whnf);repeat'(refine Y q8 rfl ?_;conv=>whnf)))
   refine ⟨?_⟩
   rw [hx]
   rfl
 . have hb : bads src 0 (-1) 0 = []:=List.eq_nil_of_length_eq_zero (by omega)
   rw [hb] at hx
   dsimp only at hx
   refine a2j ?_
   conv=>whnf
   intro B0 W0 V0 lent g0 m0 dfr
   refine Y q8 rfl ?_
   ((conv=>whnf);repeat'(refine Y q8 rfl ?_;conv=>whnf))
   have hrd:=b3A hT (toks src 0) hq hfu
   refine ⟨pcO (toks src 0) a3Y [],_,⟨?_,?_⟩,hrd.mono ?_⟩
   . exact Kr
   . exact Kr
   intro o O2 ho
   have hh:=e9 ho
   clear ho
   obtain hh | hh:=hh
   . obtain ⟨a,e,ts2,c2,hU,rfl,rfl⟩:=hh
     rw [hU] at hx
     ((conv=>whnf);repeat'(refine Y q8 rfl ?_;conv=>whnf))
     refine ⟨[(4,.box [.d (.str []),.d (.sl []),.d (.sl []),.d (.sl []),.d (.sl []),.d (.sl []),.d (.sl []),.d (.sl []),.d (.sl []),.d (iD 0),.d (iD 0),.d (iD 0),.d (iD 0),.d (iD 0),.d (iD 0),.d (iD 0)] 55),(5,.box [.d (iD 0)] 3),(6,.box [.d (iD 0)] 32)],⟨?_,rfl⟩,(a7z _ _ _ _ _ _ _ _ _ _ _ _ _ _ _ _ _ _ _ _).mono ?_⟩
     . exact Kr
     rintro _ rfl
     ((conv=>whnf);repeat'(refine Y q8 rfl ?_;conv=>whnf))
     refine ⟨?_⟩
     rw [hx]
     rfl
   obtain ⟨c,ts2,hU,rfl,rfl⟩:=hh
   rw [hU] at hx
   have hx' : x = if (hdT ts2).kind = 6 then (c,0,0) else (zC,((hdT ts2).at_ : Int),60):=hx
   have he2:=(b3E hq _ _ hU).1
   have hnx:=kC (c:=c) λ u=>a3i ts2 u he2
   have hsp:=kP (c:=c) λ u=>B2 ts2 u 60 he2
   ((conv=>whnf);repeat'(refine Y q8 rfl ?_;conv=>whnf))
   refine ⟨psC ts2 c,_,⟨?_,?_⟩,hnx.mono ?_⟩
   . exact Kr
   . exact Kr
   rintro _ O2 ⟨rfl,rfl⟩
   ((conv=>whnf);repeat'(refine Y q8 rfl ?_;conv=>whnf))
   refine ⟨λ h6=>?_,λ h6=>?_⟩ <;> (try simp only [BL] at h6) <;> ((conv=>whnf);repeat'(refine Y q8 rfl ?_;conv=>whnf))
   . rw [if_neg (by omega)] at hx'
     refine ⟨psC ts2 c,_,⟨?_,?_⟩,hsp.mono ?_⟩
     . exact Kr
     . exact Kr
     rintro _ O2 ⟨rfl,rfl⟩
     ((conv=>whnf);repeat'(refine Y q8 rfl ?_;conv=>whnf))
     refine ⟨[(4,.box [.d (.str c.name),.d (.sl (c.mats.map Mat.cells)),.d (.sl (c.legs.map Leg.cells)),.d (.sl (c.distances.map Distance.cells)),.d (.sl (c.waves.map Wave.cells)),.d (.sl (c.offences.map Offence.cells)),.d (.sl (c.categories.map Category.cells)),.d (.sl (c.prizes.map Prize.cells)),.d (.sl (c.ties.map Step.cells)),.d (iD c.faults.misses),.d (iD c.faults.strays),.d (iD c.faults.window),.d (iD c.faults.residual),.d (iD c.faults.drift),.d (iD c.fee),.d (iD c.deadline)] 55),(5,.box [.d (iD 0)] 3),(6,.box [.d (iD 0)] 32)],⟨?_,rfl⟩,(a7z _ _ _ _ _ _ _ _ _ _ _ _ _ _ _ _ _ _ _ _).mono ?_⟩
     . exact Kr
     rintro _ rfl
     ((conv=>whnf);repeat'(refine Y q8 rfl ?_;conv=>whnf))
     refine ⟨?_⟩
     rw [hx']
     rfl
   . rw [if_pos (by omega)] at hx'
     refine ⟨[(4,.box [.d (.str c.name),.d (.sl (c.mats.map Mat.cells)),.d (.sl (c.legs.map Leg.cells)),.d (.sl (c.distances.map Distance.cells)),.d (.sl (c.waves.map Wave.cells)),.d (.sl (c.offences.map Offence.cells)),.d (.sl (c.categories.map Category.cells)),.d (.sl (c.prizes.map Prize.cells)),.d (.sl (c.ties.map Step.cells)),.d (iD c.faults.misses),.d (iD c.faults.strays),.d (iD c.faults.window),.d (iD c.faults.residual),.d (iD c.faults.drift),.d (iD c.fee),.d (iD c.deadline)] 55),(5,.box [.d (iD 0)] 3),(6,.box [.d (iD 0)] 32)],⟨?_,rfl⟩,(b3n _ _ _ _ _ _ _ _ _ _ _ _ _ _ _ _ _ _).mono ?_⟩
     . exact Kr
     rintro _ rfl
     ((conv=>whnf);repeat'(refine Y q8 rfl ?_;conv=>whnf))
     refine ⟨?_⟩
     rw [hx']
theorem a0T (hT : s8) (src : List UInt8) (hl : src.length <= 65536) : Meets Tryz.prog 21 [.sl (d9 src)] λ d=>d = .tup [(m3 src).1.d,iD (m3 src).2.1,iD (m3 src).2.2]:=by
 have hp:=b7a hT src hl
 revert hp
 generalize m3 src = x
 intro hp
 refine enter tok {} Tryz.func21 rfl (by kernel_rfl) Tryz.ntmps21 (by simp) λ B0 W0 V0 lent g0=>?_
 ((conv=>whnf);repeat'(refine Z rfl ?_;conv=>whnf))
 refine Meets.k hp ?_
 ((conv=>whnf);repeat'(refine Z rfl ?_;conv=>whnf))
 exact ⟨rfl⟩
end Go.Proofs.YtaopegkpjhkooaaGreatDoor.Dx
