/- The executor over data,part AB: zero slices that stand raw in a box's cells; function values that have captured a box's address,as data. -/
import Derived.Test.YtaopegkpjhkooaaGreatDoorDx
import Derived.LoopNIn
import Derived.Test.YtaopegkpjhkooaaGreatDoorE6
set_option linter.all false
namespace Go.Proofs.YtaopegkpjhkooaaGreatDoor.Dx
open Go Go.RowKit
section
variable {P : Program} {C : Cx} {st : SSt} {c : Code} {Q : o6}
theorem b2k (n : Nat) {cells cells' : List Base} {ty : TypeId} (hn : c8 n st.O = some (.box cells ty)) (hl : cells'.length = cells.length)
 (hw : ∀ (γ : Gm) (V : Know) (i : Nat) b b' x,cells[i]? = some b -> cells'[i]? = some b' -> RVb γ V b x -> RVb γ V b' x)
 (h : w9 n (.box cells' ty) st.O λ O'=>J P C c Q { st with O:=O' }) : J P C c Q st:=by
 refine ⟨λ γ V a W hr=>?_⟩
 obtain ⟨O',h,hO⟩:=M0 h
 refine h.run γ V a W (I5 hr hr.slots λ m x hx=>?_)
 rcases hO m x hx with ⟨rfl,rfl,_⟩ | ⟨_,hl'⟩
 . refine ⟨?_,_,hn⟩
   obtain ⟨blk,cs,hg,hh,hcells,h1,hnone⟩:=hr.own m _ hn
   refine ⟨blk,cs,hg,hh,⟨by rw [hl,hcells.len],λ i b x hb hx=>?_⟩,h1,hnone⟩
   have hi : i < cells.length:=by rw [<- hl]; exact (List.getElem?_eq_some_iff.1 hb).1
   exact hw γ V i _ b x (List.getElem?_eq_getElem hi) hb (hcells.get i _ x (List.getElem?_eq_getElem hi) hx)
 . exact ⟨hr.own m x hl',x,hl'⟩
def NilOk (b b' : Base) : Prop:=b' = b \/ (b = .d (.raw (.slice none 0 0)) /\ (b' = .full [] \/ b' = .d (.sl [])))
def NilOks : List Base -> List Base -> Prop
 | [],[]=>True
 | b :: r,b' :: r'=>NilOk b b' /\ NilOks r r'
 | _,_=>False
theorem NilOk.run {b b' : Base} (h : NilOk b b') {γ : Gm} {V : Know} {x : Value} (hx : RVb γ V b x) : RVb γ V b' x:=by
 rcases h with rfl | ⟨rfl,rfl | rfl⟩
 . exact hx
 . cases hx; exact ⟨.nil,none,0,rfl⟩
 . cases hx; exact .nil
theorem NilOks.get : ∀ {l l' : List Base},NilOks l l' -> l'.length = l.length /\ ∀ (i : Nat) b b',l[i]? = some b -> l'[i]? = some b' -> NilOk b b'
 | [],[],_=>⟨rfl,λ i b b' h=>by simp at h⟩
 | [],_ :: _,h=>h.elim
 | _ :: _,[],h=>h.elim
 | b :: r,b' :: r',h=>by
   obtain ⟨h1,h2⟩:=NilOks.get h.2
   refine ⟨by simp [h1],λ i x y hx hy=>?_⟩
   cases i with
   | zero=>simp at hx hy; subst hx hy; exact h.1
   | succ i=>exact h2 i x y (by simpa using hx) (by simpa using hy)
theorem a6Z (n : Nat) {cells : List Base} (cells' : List Base) {ty : TypeId} (hn : c8 n st.O = some (.box cells ty)) (hk : NilOks cells cells')
 (h : w9 n (.box cells' ty) st.O λ O'=>J P C c Q { st with O:=O' }) : J P C c Q st :=
 b2k n hn hk.get.1 (λ _ _ i _ _ _ hb hb' hx=>(hk.get.2 i _ _ hb hb').run hx) h
theorem b2i (p n : Nat) (hc : p5 p st = true) (hpn : p ≠ n)
 (h : ∀ g : Nat -> Value × Option Nat,J P C c Q { st with O:=(p,.pn g [n]) :: st.O }) : J P C c Q st:=by
 refine ⟨λ γ V a W hr=>?_⟩
 have hq : j5 p [n] = false:=by
  simp only [j5]
  cases e : Nat.beq n p with
  | false=>rfl
  | true=>exact absurd (Nat.eq_of_beq_eq_true e).symm hpn
 exact (h γ).run _ V a W (Y1 (b:=.pn γ [n]) (v:=(.bool false,none)) hr hc hq ⟨rfl,λ _ _=>rfl⟩ (by simp) (by simp))
structure JR (P : Program) (C : Cx) (c : Code) (Q : o6) (m : Nat) (st : SSt) : Prop where
 run : ∀ γ V a W,Rel C γ st V a W -> Code.roundsIn (fen C) 0 P c (LiftQ C Q) m a W
def b1j (P : Program) (C : Cx) (c : Code) (Q : o6) (m : Nat) : o6:=λ e st=>match e with | .nrm=>JR P C c Q m st | .ret=>Q .ret st | .exit n=>Q (.exit n) st | .pan d=>Q (.pan d) st
theorem I8 {T : List (Nat × TI)} (hT : TOk P T) (cf : Cfg) {m : Nat} (h : vcC P T C cf c (b1j P C c Q m) st) : JR P C c Q (m + 1) st:=by
 refine ⟨λ γ V a W hr=>?_⟩
 rw [roundsIn_succ]
 refine Go.wpIn_mono ((Q0 hT cf c h).run γ V a W hr) λ e a W hq=>?_
 cases e with
 | normal=>obtain ⟨γ,st,V,h1,h2⟩:=hq; exact h2.run γ V a W h1
 | ret=>exact hq
 | exit n=>exact hq
 | panic c=>exact hq
 | goto l=>exact hq.elim
 | outgrown=>exact hq.elim
theorem a4e {T : List (Nat × TI)} (hT : TOk P T) (cf : Cfg) (m : Nat) (h : vcC P T C cf c (b1j P C c Q m) st) : J P C (.loop c) Q st :=
 ⟨λ γ V a W hr=>wpIn_loop_rounds (m + 1) ((I8 hT cf h).run γ V a W hr)⟩
end
end Go.Proofs.YtaopegkpjhkooaaGreatDoor.Dx
/- Chapter 06: the parser of courses as plain functions over tokens. -/
namespace Go.Proofs.YtaopegkpjhkooaaGreatDoor.Dx
open Go Go.RowKit
set_option maxRecDepth 100000
def v6 (t : Tk) : Option Int:=if t.kind = 3 then match x9 t.text with | some v=>if 0 <= v then some v else none | none=>none else none
def v8 (ts : List Tk) : Rs Int:=match v6 (hdT ts) with | some v=>.ok v ts.tail | none=>n6 60 ts
def o5 (l : List (List UInt8)) (ts : List Tk) : Rs Int:=if A2 ts then match l.findIdx? (λ x=>decide (x = (hdT ts).text)) with | some i=>.ok (i : Int) ts.tail | none=>n6 70 ts else n6 60 ts
def p9 (ms : List (List UInt8)) : Nat -> Nat -> List Part -> List Tk -> Rs (List Part)
 | 0,_,_,_=>.out
 | k + 1,d,l,ts =>
   if l.isEmpty || isW [108,97,112,115] ts || A2 ts then
    if isW [108,97,112,115] ts then
     if 16 <= d then n6 2 ts
     else (j2 ts.tail).bind λ n ts=>(f9 [123] ts).bind λ _ ts=>(p9 ms k (d + 1) [] ts).bind λ x ts=>(f9 [125] ts).bind λ _ ts=>p9 ms k d (l ++ [⟨0,n,x⟩]) ts
    else (o5 ms ts).bind λ m ts=>(f9 [59] ts).bind λ _ ts=>p9 ms k d (l ++ [⟨m,0,[]⟩]) ts
   else .ok l ts
def S0 (ms : List (List UInt8)) (ts : List Tk) : Rs Leg :=
 (o5 ms ts).bind λ a ts=>(f9 [116,111] ts).bind λ _ ts=>(o5 ms ts).bind λ b ts=>(v8 ts).bind λ lo ts=>(f9 [46,46] ts).bind λ _ ts=>(v8 ts).bind λ hi ts=>(f9 [59] ts).bind λ _ ts=>.ok ⟨a,b,lo,hi⟩ ts
def K4 (ts : List Tk) : Option Int:=if (hdT ts).kind = 1 then if (hdT ts).text = [103,117,110] then some 1 else if (hdT ts).text = [99,104,105,112] then some 2 else if (hdT ts).text = [115,108,111,116] then some 3 else none else none
def P8 (ts : List Tk) : Rs Int:=match K4 ts with | some v=>.ok v ts.tail | none=>n6 60 ts
def D9 (ms : List (List UInt8)) : Nat -> List Cutoff -> List Tk -> Rs (List Cutoff)
 | 0,_,_=>.out
 | k + 1,l,ts=>if isW [99,117,116,111,102,102] ts then
     (o5 ms ts.tail).bind λ m ts=>(f9 [108,97,112] ts).bind λ _ ts=>(j2 ts).bind λ n ts=>(v8 ts).bind λ t ts=>(f9 [59] ts).bind λ _ ts=>D9 ms k (l ++ [⟨m,n,t⟩]) ts
   else .ok l ts
def L2 (ms : List (List UInt8)) (ts : List Tk) : Rs Int:=if isW [101,120,116,114,97] ts then (o5 ms ts.tail).bind λ m ts=>(f9 [59] ts).bind λ _ ts=>.ok m ts else .ok (-1) ts
def N7 (ms : List (List UInt8)) (k : Nat) (ts : List Tk) : Rs Distance :=
 (y7 ts).bind λ w ts=>(P8 ts).bind λ g ts=>(f9 [123] ts).bind λ _ ts=>(p9 ms k 0 [] ts).bind λ r ts=>(D9 ms k [] ts).bind λ cs ts=>(L2 ms ts).bind λ x ts=>(f9 [125] ts).bind λ _ ts=>.ok ⟨w,r,g,cs,x⟩ ts
def T6 (ts : List Tk) : Rs Wave:=(y7 ts).bind λ w ts=>(v8 ts).bind λ t ts=>(f9 [59] ts).bind λ _ ts=>.ok ⟨w,t⟩ ts
def L7 (w : List UInt8) (ts : List Tk) : Rs Offence:=match v6 (hdT ts) with
 | some t=>.ok ⟨w,t,0,false⟩ ts.tail
 | none=>if isW [108,97,112,115] ts then (j2 ts.tail).bind λ n ts=>.ok ⟨w,0,n,false⟩ ts else (f9 [111,117,116] ts).bind λ _ ts=>.ok ⟨w,0,0,true⟩ ts
def S4 (ts : List Tk) : Rs Offence:=(y7 ts).bind λ w ts=>(L7 w ts).bind λ x ts=>(f9 [59] ts).bind λ _ ts=>.ok x ts
def R3 (ts : List Tk) : Rs Category:=(y7 ts).bind λ w ts=>(j2 ts).bind λ a ts=>(f9 [116,111] ts).bind λ _ ts=>(j2 ts).bind λ b ts=>(f9 [59] ts).bind λ _ ts=>.ok ⟨w,a,b⟩ ts
def Q1 (cs : List (List UInt8)) (ts : List Tk) : Rs Int:=if isW [97,108,108] ts then .ok (-1) ts.tail else o5 cs ts
def S5 (ds cs : List (List UInt8)) (ts : List Tk) : Rs Prize :=
 (o5 ds ts).bind λ d ts=>(Q1 cs ts).bind λ c ts=>(j2 ts).bind λ a ts=>(j2 ts).bind λ b ts=>(f9 [59] ts).bind λ _ ts=>.ok ⟨d,c,a,b⟩ ts
def D1 (ts : List Tk) : Option Int:=if isW [115,116,97,114,116] ts then some 1 else if isW [112,97,115,115] ts then some 2 else if isW [101,110,100] ts then some 3 else none
def A3 : Nat -> List Mat -> List Tk -> Rs (List Mat)
 | 0,_,_=>.out
 | k + 1,l,ts=>match D1 ts with
   | some g=>(y7 ts.tail).bind λ w ts=>(f9 [59] ts).bind λ _ ts=>A3 k (l ++ [⟨w,g⟩]) ts
   | none=>(f9 [125] ts).bind λ _ ts=>.ok l ts
def secW : List (List UInt8):=[[108,101,103],[100,105,115,116,97,110,99,101],[119,97,118,101],[111,102,102,101,110,99,101],[99,97,116,101,103,111,114,121],[112,114,105,122,101]]
abbrev Course.ms (c : Course) : List (List UInt8):=c.mats.map (·.name)
def J9 (k : Nat) : Nat -> Course -> List Tk -> Rs Course
 | 0,c,ts=>(S0 c.ms ts).bind λ x ts=>.ok { c with legs:=c.legs ++ [x] } ts
 | 1,c,ts=>(N7 c.ms k ts).bind λ x ts=>.ok { c with distances:=c.distances ++ [x] } ts
 | 2,c,ts=>(T6 ts).bind λ x ts=>.ok { c with waves:=c.waves ++ [x] } ts
 | 3,c,ts=>(S4 ts).bind λ x ts=>.ok { c with offences:=c.offences ++ [x] } ts
 | 4,c,ts=>(R3 ts).bind λ x ts=>.ok { c with categories:=c.categories ++ [x] } ts
 | _,c,ts=>(S5 (c.distances.map (·.name)) (c.categories.map (·.name)) ts).bind λ x ts=>.ok { c with prizes:=c.prizes ++ [x] } ts
def D4 (i : Nat) : Nat -> Course -> List Tk -> Rs Course
 | 0,_,_=>.out
 | k + 1,c,ts=>if isW (secW.getD i []) ts then (J9 k i c ts.tail).bind λ c ts=>D4 i k c ts else .ok c ts
def C2 (k : Nat) : Nat -> Nat -> Course -> List Tk -> Rs Course
 | 0,_,c,ts=>.ok c ts
 | n + 1,i,c,ts=>(D4 i k c ts).bind λ c ts=>C2 k n (i + 1) c ts
def D5 (w : List UInt8) (P : List Tk -> Rs Int) (ts : List Tk) : Rs Int:=(f9 w ts).bind λ _ ts=>(P ts).bind λ n ts=>(f9 [59] ts).bind λ _ ts=>.ok n ts
def X2 (k : Nat) (c : Course) (ts : List Tk) : Rs Course :=
 (f9 [116,105,101,115] ts).bind λ _ ts=>(blockP k 0 ts).bind λ l ts=>(f9 [102,97,117,108,116,115] ts).bind λ _ ts=>(f9 [123] ts).bind λ _ ts =>
 (D5 [109,105,115,115,101,115] j2 ts).bind λ a ts=>(D5 [115,116,114,97,121,115] j2 ts).bind λ b ts=>(D5 [119,105,110,100,111,119] v8 ts).bind λ w ts=>(D5 [114,101,115,105,100,117,97,108] v8 ts).bind λ r ts=>(D5 [100,114,105,102,116] j2 ts).bind λ d ts =>
 (f9 [125] ts).bind λ _ ts=>(f9 [112,114,111,116,101,115,116] ts).bind λ _ ts=>(f9 [102,101,101] ts).bind λ _ ts=>(j2 ts).bind λ f ts=>(f9 [100,101,97,100,108,105,110,101] ts).bind λ _ ts=>(v8 ts).bind λ t ts =>
 (f9 [59] ts).bind λ _ ts=>(f9 [125] ts).bind λ _ ts=>.ok { c with ties:=l,faults:=⟨a,b,w,r,d⟩,fee:=f,deadline:=t } ts
def zC : Course:=⟨[],[],[],[],[],[],[],[],[],⟨0,0,0,0,0⟩,0,0⟩
def p6 (k : Nat) (ts : List Tk) : Rs Course :=
 (f9 [99,111,117,114,115,101] ts).bind λ _ ts=>(y7 ts).bind λ w ts=>(f9 [123] ts).bind λ _ ts=>(f9 [109,97,116,115] ts).bind λ _ ts=>(f9 [123] ts).bind λ _ ts=>(A3 k [] ts).bind λ ms ts =>
 (C2 k 6 0 { zC with name:=w,mats:=ms } ts).bind λ c ts=>X2 k c ts
def m3 (src : List UInt8) : Course × Int × Int:=z6 zC (p6 FU) src
end Go.Proofs.YtaopegkpjhkooaaGreatDoor.Dx
/- Chapter 06: the parser of courses: what is left are tokens that an end closes; more fuel does no harm; enough fuel. -/
namespace Go.Proofs.YtaopegkpjhkooaaGreatDoor.Dx
open Go Go.RowKit
set_option maxRecDepth 100000
theorem a1x {ts : List Tk} (h : A2 ts = true) : (hdT ts).kind = 1:=by
 unfold A2 at h
 simp only [Bool.and_eq_true,decide_eq_true_eq] at h
 exact h.1
theorem F1 {ts : List Tk} (h : QT ts) : (y7 ts).kp:=by
 unfold y7
 split
 . rename_i hw; exact m6 (h.tail (by rw [a1x hw]; decide))
 . exact E9
theorem a2c {t : Tk} {v : Int} (h : v6 t = some v) : t.kind = 3:=by
 unfold v6 at h
 split at h
 . assumption
 . cases h
theorem D7 {ts : List Tk} (h : QT ts) : (v8 ts).kp:=by
 unfold v8
 split
 . rename_i hv; exact m6 (h.tail (by rw [a2c hv]; decide))
 . exact E9
theorem E0 {l : List (List UInt8)} {ts : List Tk} (h : QT ts) : (o5 l ts).kp:=by
 unfold o5
 split
 . rename_i hw
   split
   . exact m6 (h.tail (by rw [a1x hw]; decide))
   . exact E9
 . exact E9
theorem b1l {ts : List Tk} {v : Int} (h : K4 ts = some v) : (hdT ts).kind = 1:=by
 unfold K4 at h
 split at h
 . assumption
 . cases h
theorem b9G {ts : List Tk} (h : QT ts) : (P8 ts).kp:=by
 unfold P8
 split
 . rename_i hv; exact m6 (h.tail (by rw [b1l hv]; decide))
 . exact E9
theorem a1L {ms : List (List UInt8)} : ∀ (k d : Nat) (l : List Part) (ts : List Tk),QT ts -> (p9 ms k d l ts).kp
 | 0,d,l,ts,h=>by rw [p9]; exact I1
 | k + 1,d,l,ts,h=>by
   have ih:=a1L (ms:=ms) k
   rw [p9]
   split
   . split
     . split
       . exact E9
       . exact e7 (p7 (h.isW (by assumption))) λ _ _ h=>e7 (j4 h) λ _ _ h=>e7 (ih _ _ _ h) λ _ _ h=>e7 (j4 h) λ _ _ h=>ih _ _ _ h
     . exact e7 (E0 h) λ _ _ h=>e7 (j4 h) λ _ _ h=>ih _ _ _ h
   . exact m6 h
theorem b5L {ms : List (List UInt8)} {ts : List Tk} (h : QT ts) : (S0 ms ts).kp :=
 e7 (E0 h) λ _ _ h=>e7 (j4 h) λ _ _ h=>e7 (E0 h) λ _ _ h=>e7 (D7 h) λ _ _ h=>e7 (j4 h) λ _ _ h=>e7 (D7 h) λ _ _ h=>e7 (j4 h) λ _ _ h=>m6 h
theorem a7X {ms : List (List UInt8)} : ∀ (k : Nat) (l : List Cutoff) (ts : List Tk),QT ts -> (D9 ms k l ts).kp
 | 0,l,ts,h=>by rw [D9]; exact I1
 | k + 1,l,ts,h=>by
   have ih:=a7X (ms:=ms) k
   rw [D9]
   split
   . exact e7 (E0 (h.isW (by assumption))) λ _ _ h=>e7 (j4 h) λ _ _ h=>e7 (p7 h) λ _ _ h=>e7 (D7 h) λ _ _ h=>e7 (j4 h) λ _ _ h=>ih _ _ h
   . exact m6 h
theorem b4z {ms : List (List UInt8)} {ts : List Tk} (h : QT ts) : (L2 ms ts).kp:=by
 unfold L2
 split
 . exact e7 (E0 (h.isW (by assumption))) λ _ _ h=>e7 (j4 h) λ _ _ h=>m6 h
 . exact m6 h
theorem b4b {ms : List (List UInt8)} {k : Nat} {ts : List Tk} (h : QT ts) : (N7 ms k ts).kp :=
 e7 (F1 h) λ _ _ h=>e7 (b9G h) λ _ _ h=>e7 (j4 h) λ _ _ h=>e7 (a1L _ _ _ _ h) λ _ _ h=>e7 (a7X _ _ _ h) λ _ _ h=>e7 (b4z h) λ _ _ h=>e7 (j4 h) λ _ _ h=>m6 h
theorem c0P {ts : List Tk} (h : QT ts) : (T6 ts).kp :=
 e7 (F1 h) λ _ _ h=>e7 (D7 h) λ _ _ h=>e7 (j4 h) λ _ _ h=>m6 h
theorem b7e {w : List UInt8} {ts : List Tk} (h : QT ts) : (L7 w ts).kp:=by
 unfold L7
 split
 . rename_i hv; exact m6 (h.tail (by rw [a2c hv]; decide))
 . split
   . exact e7 (p7 (h.isW (by assumption))) λ _ _ h=>m6 h
   . exact e7 (j4 h) λ _ _ h=>m6 h
theorem b6R {ts : List Tk} (h : QT ts) : (S4 ts).kp :=
 e7 (F1 h) λ _ _ h=>e7 (b7e h) λ _ _ h=>e7 (j4 h) λ _ _ h=>m6 h
theorem b3i {ts : List Tk} (h : QT ts) : (R3 ts).kp :=
 e7 (F1 h) λ _ _ h=>e7 (p7 h) λ _ _ h=>e7 (j4 h) λ _ _ h=>e7 (p7 h) λ _ _ h=>e7 (j4 h) λ _ _ h=>m6 h
theorem c0X {cs : List (List UInt8)} {ts : List Tk} (h : QT ts) : (Q1 cs ts).kp:=by
 unfold Q1
 split
 . exact m6 (h.isW (by assumption))
 . exact E0 h
theorem b7i {ds cs : List (List UInt8)} {ts : List Tk} (h : QT ts) : (S5 ds cs ts).kp :=
 e7 (E0 h) λ _ _ h=>e7 (c0X h) λ _ _ h=>e7 (p7 h) λ _ _ h=>e7 (p7 h) λ _ _ h=>e7 (j4 h) λ _ _ h=>m6 h
theorem a3e {ts : List Tk} {g : Int} (h : QT ts) (hv : D1 ts = some g) : QT ts.tail:=by
 unfold D1 at hv
 repeat' split at hv
 all_goals first | exact h.isW (by assumption) | cases hv
theorem a5s : ∀ (k : Nat) (l : List Mat) (ts : List Tk),QT ts -> (A3 k l ts).kp
 | 0,l,ts,h=>by rw [A3]; exact I1
 | k + 1,l,ts,h=>by
   have ih:=a5s k
   rw [A3]
   split
   . exact e7 (F1 (a3e h (by assumption))) λ _ _ h=>e7 (j4 h) λ _ _ h=>ih _ _ h
   . exact e7 (j4 h) λ _ _ h=>m6 h
theorem b0L {k i : Nat} {c : Course} {ts : List Tk} (h : QT ts) : (J9 k i c ts).kp:=by
 unfold J9
 split
 . exact e7 (b5L h) λ _ _ h=>m6 h
 . exact e7 (b4b h) λ _ _ h=>m6 h
 . exact e7 (c0P h) λ _ _ h=>m6 h
 . exact e7 (b6R h) λ _ _ h=>m6 h
 . exact e7 (b3i h) λ _ _ h=>m6 h
 . exact e7 (b7i h) λ _ _ h=>m6 h
theorem b0M {i : Nat} : ∀ (k : Nat) (c : Course) (ts : List Tk),QT ts -> (D4 i k c ts).kp
 | 0,c,ts,h=>by rw [D4]; exact I1
 | k + 1,c,ts,h=>by
   rw [D4]
   split
   . exact e7 (b0L (h.isW (by assumption))) λ _ _ h=>b0M k _ _ h
   . exact m6 h
theorem b0P {k : Nat} : ∀ (n i : Nat) (c : Course) (ts : List Tk),QT ts -> (C2 k n i c ts).kp
 | 0,i,c,ts,h=>by rw [C2]; exact m6 h
 | n + 1,i,c,ts,h=>by rw [C2]; exact e7 (b0M _ _ _ h) λ _ _ h=>b0P n _ _ _ h
theorem M2 {w : List UInt8} {P : List Tk -> Rs Int} {ts : List Tk} (hP : ∀ ts,QT ts -> (P ts).kp) (h : QT ts) : (D5 w P ts).kp :=
 e7 (j4 h) λ _ _ h=>e7 (hP _ h) λ _ _ h=>e7 (j4 h) λ _ _ h=>m6 h
section
variable {ts : List Tk} {n : Nat}
theorem a0C (h : ts.length <= n + 1) : (y7 ts).short n:=by
 unfold y7
 split
 . exact .ok (by rw [List.length_tail]; omega)
 . exact D6
theorem Y7 (h : ts.length <= n + 1) : (v8 ts).short n:=by
 unfold v8
 split
 . exact .ok (by rw [List.length_tail]; omega)
 . exact D6
theorem b9I (h : ts.length <= n + 1) : (P8 ts).short n:=by
 unfold P8
 split
 . exact .ok (by rw [List.length_tail]; omega)
 . exact D6
theorem W5 {l : List (List UInt8)} (h : ts.length <= n + 1) : (o5 l ts).short n:=by
 unfold o5
 split
 . split
   . exact .ok (by rw [List.length_tail]; omega)
   . exact D6
 . exact D6
theorem b5O {ms : List (List UInt8)} (h : ts.length <= n) : (S0 ms ts).short n :=
 (W5 (n:=n) (by omega)).bind λ _ _ h=>(n7 (n:=n) (by omega)).bind λ _ _ h=>(W5 (n:=n) (by omega)).bind λ _ _ h=>(Y7 (n:=n) (by omega)).bind λ _ _ h=>(n7 (n:=n) (by omega)).bind λ _ _ h=>(Y7 (n:=n) (by omega)).bind λ _ _ h=>(n7 (n:=n) (by omega)).bind λ _ _ h=>.ok h
theorem b4B {ms : List (List UInt8)} (h : ts.length <= n) : (L2 ms ts).short n:=by
 unfold L2
 split
 . exact (W5 (n:=n) (by rw [List.length_tail]; omega)).bind λ _ _ h=>(n7 (n:=n) (by omega)).bind λ _ _ h=>.ok h
 . exact .ok h
theorem c0S (h : ts.length <= n) : (T6 ts).short n :=
 (a0C (n:=n) (by omega)).bind λ _ _ h=>(Y7 (n:=n) (by omega)).bind λ _ _ h=>(n7 (n:=n) (by omega)).bind λ _ _ h=>.ok h
theorem b7g {w : List UInt8} (h : ts.length <= n) : (L7 w ts).short n:=by
 unfold L7
 split
 . exact .ok (by rw [List.length_tail]; omega)
 . split
   . exact (I4 (n:=n) (by rw [List.length_tail]; omega)).bind λ _ _ h=>.ok h
   . exact (n7 (n:=n) (by omega)).bind λ _ _ h=>.ok h
theorem b6T (h : ts.length <= n) : (S4 ts).short n :=
 (a0C (n:=n) (by omega)).bind λ _ _ h=>(b7g h).bind λ _ _ h=>(n7 (n:=n) (by omega)).bind λ _ _ h=>.ok h
theorem b3k (h : ts.length <= n) : (R3 ts).short n :=
 (a0C (n:=n) (by omega)).bind λ _ _ h=>(I4 (n:=n) (by omega)).bind λ _ _ h=>(n7 (n:=n) (by omega)).bind λ _ _ h=>(I4 (n:=n) (by omega)).bind λ _ _ h=>(n7 (n:=n) (by omega)).bind λ _ _ h=>.ok h
theorem c0Z {cs : List (List UInt8)} (h : ts.length <= n) : (Q1 cs ts).short n:=by
 unfold Q1
 split
 . exact .ok (by rw [List.length_tail]; omega)
 . exact W5 (n:=n) (by omega)
theorem b7l {ds cs : List (List UInt8)} (h : ts.length <= n) : (S5 ds cs ts).short n :=
 (W5 (n:=n) (by omega)).bind λ _ _ h=>(c0Z h).bind λ _ _ h=>(I4 (n:=n) (by omega)).bind λ _ _ h=>(I4 (n:=n) (by omega)).bind λ _ _ h=>(n7 (n:=n) (by omega)).bind λ _ _ h=>.ok h
end
theorem b6j {ts : List Tk} {g : Int} (h : D1 ts = some g) : ts.tail.length + 1 = ts.length:=by
 unfold D1 at h
 repeat' split at h
 all_goals first | exact O5 (by assumption) | cases h
theorem Rs.short.up {α : Type} {r : Rs α} {m n : Nat} (h : r.short m) (hm : m <= n) : r.short n:=⟨h.1,λ a ts e=>by have:=h.2 a ts e; omega⟩
theorem b7c {ms : List (List UInt8)} : ∀ (n k d : Nat) (l : List Part) (ts : List Tk),ts.length <= n -> n + 1 <= k -> (p9 ms k d l ts).short n:=by
 intro n
 induction n with
 | zero =>
   intro k d l ts hts hk
   obtain ⟨k,rfl⟩ : ∃ j,k = j + 1:=⟨k - 1,by omega⟩
   obtain rfl : ts = []:=List.eq_nil_of_length_eq_zero (by omega)
   rw [p9]
   split
   . exact D6
   . exact .ok hts
 | succ n ih =>
   intro k d l ts hts hk
   obtain ⟨k,rfl⟩ : ∃ j,k = j + 1:=⟨k - 1,by omega⟩
   rw [p9]
   split
   . split
     . rename_i q
       have:=O5 q
       split
       . exact D6
       . exact Rs.short.up ((I4 (n:=n) (by omega)).bind λ _ _ h=>(n7 (n:=n) (by omega)).bind λ _ _ h=>(ih k _ _ _ h (by omega)).bind λ _ _ h=>(n7 (n:=n) (by omega)).bind λ _ _ h=>ih k _ _ _ h (by omega)) (Nat.le_succ n)
     . exact Rs.short.up ((W5 hts).bind λ _ _ h=>(n7 (n:=n) (by omega)).bind λ _ _ h=>ih k _ _ _ h (by omega)) (Nat.le_succ n)
   . exact .ok hts
theorem b3M {ms : List (List UInt8)} : ∀ (n k : Nat) (l : List Cutoff) (ts : List Tk),ts.length <= n -> n + 1 <= k -> (D9 ms k l ts).short n:=by
 intro n
 induction n with
 | zero =>
   intro k l ts hts hk
   obtain ⟨k,rfl⟩ : ∃ j,k = j + 1:=⟨k - 1,by omega⟩
   obtain rfl : ts = []:=List.eq_nil_of_length_eq_zero (by omega)
   exact .ok hts
 | succ n ih =>
   intro k l ts hts hk
   obtain ⟨k,rfl⟩ : ∃ j,k = j + 1:=⟨k - 1,by omega⟩
   rw [D9]
   split
   . rename_i q
     have:=O5 q
     exact Rs.short.up ((W5 (n:=n) (by omega)).bind λ _ _ h=>(n7 (n:=n) (by omega)).bind λ _ _ h=>(I4 (n:=n) (by omega)).bind λ _ _ h=>(Y7 (n:=n) (by omega)).bind λ _ _ h=>(n7 (n:=n) (by omega)).bind λ _ _ h=>ih k _ _ h (by omega)) (Nat.le_succ n)
   . exact .ok hts
theorem b6q : ∀ (n k : Nat) (l : List Mat) (ts : List Tk),ts.length <= n -> n + 1 <= k -> (A3 k l ts).short n:=by
 intro n
 induction n with
 | zero =>
   intro k l ts hts hk
   obtain ⟨k,rfl⟩ : ∃ j,k = j + 1:=⟨k - 1,by omega⟩
   obtain rfl : ts = []:=List.eq_nil_of_length_eq_zero (by omega)
   exact D6
 | succ n ih =>
   intro k l ts hts hk
   obtain ⟨k,rfl⟩ : ∃ j,k = j + 1:=⟨k - 1,by omega⟩
   rw [A3]
   split
   . rename_i q
     have:=b6j q
     exact Rs.short.up ((a0C (n:=n) (by omega)).bind λ _ _ h=>(n7 (n:=n) (by omega)).bind λ _ _ h=>ih k _ _ h (by omega)) (Nat.le_succ n)
   . exact Rs.short.up ((n7 (n:=n) (by omega)).bind λ _ _ h=>.ok h) (Nat.le_succ n)
theorem b4a {ms : List (List UInt8)} {n k : Nat} {ts : List Tk} (h : ts.length <= n) (hk : n + 1 <= k) : (N7 ms k ts).short n :=
 (a0C (n:=n) (by omega)).bind λ _ _ h=>(b9I (n:=n) (by omega)).bind λ _ _ h=>(n7 (n:=n) (by omega)).bind λ _ _ h=>(b7c n k _ _ _ h hk).bind λ _ _ h=>(b3M n k _ _ h hk).bind λ _ _ h=>(b4B h).bind λ _ _ h=>(n7 (n:=n) (by omega)).bind λ _ _ h=>.ok h
theorem b8x {n k i : Nat} {c : Course} {ts : List Tk} (h : ts.length <= n) (hk : n + 1 <= k) : (J9 k i c ts).short n:=by
 unfold J9
 split
 . exact (b5O h).bind λ _ _ h=>.ok h
 . exact (b4a h hk).bind λ _ _ h=>.ok h
 . exact (c0S h).bind λ _ _ h=>.ok h
 . exact (b6T h).bind λ _ _ h=>.ok h
 . exact (b3k h).bind λ _ _ h=>.ok h
 . exact (b7l h).bind λ _ _ h=>.ok h
theorem b8z {i : Nat} : ∀ (n k : Nat) (c : Course) (ts : List Tk),ts.length <= n -> n + 1 <= k -> (D4 i k c ts).short n:=by
 intro n
 induction n with
 | zero =>
   intro k c ts hts hk
   obtain ⟨k,rfl⟩ : ∃ j,k = j + 1:=⟨k - 1,by omega⟩
   obtain rfl : ts = []:=List.eq_nil_of_length_eq_zero (by omega)
   exact .ok hts
 | succ n ih =>
   intro k c ts hts hk
   obtain ⟨k,rfl⟩ : ∃ j,k = j + 1:=⟨k - 1,by omega⟩
   rw [D4]
   split
   . rename_i q
     have:=O5 q
     exact Rs.short.up ((b8x (n:=n) (by omega) (by omega)).bind λ _ _ h=>ih k _ _ h (by omega)) (Nat.le_succ n)
   . exact .ok hts
theorem b0O {n k : Nat} (hk : n + 1 <= k) : ∀ (m i : Nat) (c : Course) (ts : List Tk),ts.length <= n -> (C2 k m i c ts).short n
 | 0,i,c,ts,h=>by rw [C2]; exact .ok h
 | m + 1,i,c,ts,h=>by rw [C2]; exact (b8z n k _ _ h hk).bind λ _ _ h=>b0O hk m _ _ _ h
theorem a1U {w : List UInt8} {P : List Tk -> Rs Int} {n : Nat} {ts : List Tk} (hP : ∀ ts : List Tk,ts.length <= n -> (P ts).short n) (h : ts.length <= n) : (D5 w P ts).short n :=
 (n7 (n:=n) (by omega)).bind λ _ _ h=>(hP _ h).bind λ _ _ h=>(n7 (n:=n) (by omega)).bind λ _ _ h=>.ok h
theorem b5G {n k : Nat} {c : Course} {ts : List Tk} (h : ts.length <= n) (hk : 5 * n + 1 <= k) : (X2 k c ts).short n :=
 (n7 (n:=n) (by omega)).bind λ _ _ h=>((a6m n).2 k 0 _ h hk).bind λ _ _ h=>(n7 (n:=n) (by omega)).bind λ _ _ h=>(n7 (n:=n) (by omega)).bind λ _ _ h =>
 (a1U (λ _ h=>I4 (n:=n) (by omega)) h).bind λ _ _ h=>(a1U (λ _ h=>I4 (n:=n) (by omega)) h).bind λ _ _ h=>(a1U (λ _ h=>Y7 (n:=n) (by omega)) h).bind λ _ _ h=>(a1U (λ _ h=>Y7 (n:=n) (by omega)) h).bind λ _ _ h=>(a1U (λ _ h=>I4 (n:=n) (by omega)) h).bind λ _ _ h =>
 (n7 (n:=n) (by omega)).bind λ _ _ h=>(n7 (n:=n) (by omega)).bind λ _ _ h=>(n7 (n:=n) (by omega)).bind λ _ _ h=>(I4 (n:=n) (by omega)).bind λ _ _ h=>(n7 (n:=n) (by omega)).bind λ _ _ h=>(Y7 (n:=n) (by omega)).bind λ _ _ h =>
 (n7 (n:=n) (by omega)).bind λ _ _ h=>(n7 (n:=n) (by omega)).bind λ _ _ h=>.ok h
theorem b3D {n k : Nat} {ts : List Tk} (h : ts.length <= n) (hk : 5 * n + 1 <= k) (hn : 1 <= n) : (p6 k ts).short n :=
 (n7 (n:=n) (by omega)).bind λ _ _ h=>(a0C (n:=n) (by omega)).bind λ _ _ h=>(n7 (n:=n) (by omega)).bind λ _ _ h=>(n7 (n:=n) (by omega)).bind λ _ _ h=>(n7 (n:=n) (by omega)).bind λ _ _ h=>(b6q n k _ _ h (by omega)).bind λ _ _ h =>
 (b0O (by omega) 6 0 _ _ h).bind λ _ _ h=>b5G h hk
theorem a1i (src : List UInt8) (hl : src.length <= 65536) : p6 FU (toks src 0) ≠ .out:=by
 have:=a0P src
 exact (b3D (n:=src.length + 1) (by omega) (by unfold FU; omega) (by omega)).1
end Go.Proofs.YtaopegkpjhkooaaGreatDoor.Dx
