/- Chapter 06: how token lists are read,as laws over kinds and texts alone (plain). -/
import Derived.Test.YtaopegkpjhkooaaGreatDoorFy
import Derived.Test.YtaopegkpjhkooaaGreatDoorG4
set_option linter.all false
namespace Go.Proofs.YtaopegkpjhkooaaGreatDoor.Dx
open Go Go.RowKit
set_option maxRecDepth 100000
abbrev BT:=Nat×List UInt8
def EvR {α:Type}(P:Nat->List Tk->Rs α)(l:List BT)(x:α)(l':List BT):Prop:=∀ts:List Tk,ts.map Tk.bare=l->∃ts',ts'.map Tk.bare=l'/\∃k0,∀k,k0<=k->P k ts= .ok x ts'
theorem O9 {ts:List Tk}{p:BT}{l:List BT}(h:ts.map Tk.bare=p::l):∃a r,ts=⟨p.1,p.2,a⟩::r/\r.map Tk.bare=l:=by
 cases ts with
 |nil=>cases h
 | cons t r=>
   simp only[List.map_cons,List.cons.injEq] at h
   obtain⟨h1,h2⟩:=h
   refine⟨t.at_,r,?_,h2⟩
   subst h1
   rfl
def hdB (l:List BT):BT:=l.headD (6,[])
def w6 (w:List UInt8)(l:List BT):Bool:=(decide ((hdB l).1=1)||decide ((hdB l).1=5))&&decide ((hdB l).2=w)
theorem a7p {ts:List Tk}{l:List BT}(h:ts.map Tk.bare=l):(hdT ts).bare=hdB l:=by
 cases ts with
 |nil=>subst h;rfl
 |cons t r=>subst h;rfl
theorem t8 {w:List UInt8}{ts:List Tk}{l:List BT}(h:ts.map Tk.bare=l):isW w ts=w6 w l:=by
 have:=a7p h
 unfold isW w6
 rw[<-this];rfl
theorem EvR.step {α β:Type}{P:Nat->List Tk->Rs α}{Q:Nat->α->List Tk->Rs β}{l l1 l2:List BT}{x:α}{y:β}(h:EvR P l x l1)(hq:EvR (λk ts=>Q k x ts) l1 y l2):EvR (λk ts=>(P k ts).bind λa ts=>Q k a ts) l y l2:=by
 intro ts hts
 obtain⟨ts1,h1,k1,hk1⟩:=h ts hts
 obtain⟨ts2,h2,k2,hk2⟩:=hq ts1 h1
 refine⟨ts2,h2,max k1 k2,λk hk=>?_⟩
 show(P k ts).bind _=_
 rw[hk1 k (by omega),Rs.bind_ok]
 exact hk2 k (by omega)
theorem EvR.succ {α:Type}{P Q:Nat->List Tk->Rs α}{l l':List BT}{x:α}(h:EvR Q l x l')(he:∀k ts,ts.map Tk.bare=l->P (k+1) ts=Q k ts):EvR P l x l':=by
 intro ts hts
 obtain⟨ts',h1,k0,hk⟩:=h ts hts
 refine⟨ts',h1,k0+1,λk hk'=>?_⟩
 obtain⟨j,rfl⟩:∃j,k=j+1:=⟨k-1,by omega⟩
 rw[he j ts hts]
 exact hk j (by omega)
theorem EvR.ok {α:Type}{x:α}{l:List BT}:EvR (λ_ ts=> .ok x ts) l x l:=λts h=>⟨ts,h,0,λ_ _=>rfl⟩
theorem EvR.tail {α:Type}{P:Nat->List Tk->Rs α}{p:BT}{l l':List BT}{x:α}(h:EvR P l x l'):EvR (λk ts=>P k ts.tail) (p::l) x l':=by
 intro ts hts
 obtain⟨a,r,rfl,hr⟩:=O9 hts
 exact h r hr
theorem EvR.congr {α:Type}{P Q:Nat->List Tk->Rs α}{l l':List BT}{x:α}(h:EvR Q l x l')(he:∀k ts,ts.map Tk.bare=l->P k ts=Q k ts):EvR P l x l':=by
 intro ts hts
 obtain⟨ts',h1,k0,hk⟩:=h ts hts
 exact⟨ts',h1,k0,λk hk'=>by rw[he k ts hts];exact hk k hk'⟩
theorem EvR.need {w:List UInt8}{p:BT}{l:List BT}(h:w6 w (p::l)=true):EvR (λ_ ts=>d7 w ts) (p::l) () l:=by
 intro ts hts
 have hw:isW w ts=true:=(t8 hts).trans h
 obtain⟨a,r,rfl,hr⟩:=O9 hts
 exact⟨r,hr,0,λ_ _=>by show d7 w _=_;rw[d7,if_pos hw];rfl⟩
def a3V (s:List UInt8):Option Int:=N4 ⟨2,s,0⟩
theorem EvR.num {s:List UInt8}{n:Int}{l:List BT}(h:a3V s=some n):EvR (λ_ ts=>o7 ts) ((2,s)::l) n l:=by
 intro ts hts
 obtain⟨a,r,rfl,hr⟩:=O9 hts
 refine⟨r,hr,0,λ_ _=>?_⟩
 have:N4 (hdT (⟨2,s,a⟩::r))=some n:=h
 show o7 _=_
 unfold o7
 show(match N4 (hdT (⟨2,s,a⟩::r)) with|some n=>Rs.ok n _|none=>_)=_
 rw[this]
 rfl
theorem b2d {n:Int}(h0:0<=n)(h1:n<=1125899906842624):a3V (Lib.itoa n)=some n:=by
 unfold a3V N4
 have hd:=a3G h0
 have hn:=a7z h0
 have hne:(Lib.itoa n).head?≠some 45:=by
  intro e
  cases h:Lib.itoa n with
  |nil=>rw[h] at e;cases e
  | cons c r=>
    rw[h] at e hd
    cases e
    rw[List.all_cons,Bool.and_eq_true] at hd
    exact absurd hd.1 (by decide)
 rw[if_pos ⟨rfl,hne,by rw[hn];exact h1⟩,hn]
abbrev EvU (d:Nat):=EvR λk ts=>p5 k d ts
abbrev EvJ (d:Nat):=EvR λk ts=>y0 k d ts
abbrev a2X (d:Nat)(l:List Cond):=EvR λk ts=>conjL k d l ts
abbrev EvC (d:Nat):=EvR λk ts=>condP k d ts
abbrev a2W (d:Nat)(l:List Cond):=EvR λk ts=>condL k d l ts
abbrev EvS (d:Nat)(l:List Step):=EvR λk ts=>n8 k d l ts
abbrev EvB (d:Nat):=EvR λk ts=>blockP k d ts
section
variable {d:Nat} {l l1 l2:List BT} {c c2:Cond} {cs:List Cond}
theorem b4V (hd:d<16)(h:EvU (d+1) l c l1):EvU d ((1,[110,111,116])::l) (B1 c) l1:=by
 refine EvR.succ (Q:=λk ts=>(p5 k (d+1) ts.tail).bind λc ts=> .ok (B1 c) ts) (EvR.step (P:=λk ts=>p5 k (d+1) ts.tail) (Q:=λ_ c ts=> .ok (B1 c) ts) (EvR.tail (P:=λk ts=>p5 k (d+1) ts) h) .ok) λk ts hts=>?_
 have hw:isW [110,111,116] ts=true:=(t8 hts).trans rfl
 rw[p5,if_neg (by simp only[Bool.and_eq_true,decide_eq_true_eq];omega),if_pos hw]
theorem a3g (hd:d<16)(h:EvC (d+1) l c ((5,[41])::l1)):EvU d ((5,[40])::l) c l1:=by
 refine EvR.succ (Q:=λk ts=>(condP k (d+1) ts.tail).bind λc ts=>(d7 [41] ts).bind λ_ ts=> .ok c ts) ?_ λk ts hts=>?_
 . exact EvR.step (P:=λk ts=>condP k (d+1) ts.tail) (Q:=λ_ c ts=>(d7 [41] ts).bind λ_ ts=> .ok c ts) (EvR.tail (P:=λk ts=>condP k (d+1) ts) h) (EvR.step (P:=λ_ ts=>d7 [41] ts) (Q:=λ_ _ ts=> .ok c ts) (EvR.need rfl) .ok)
 . have hw:isW [40] ts=true:=(t8 hts).trans rfl
   have hw1:isW [110,111,116] ts=false:=(t8 hts).trans rfl
   rw[p5,if_neg (by simp only[Bool.and_eq_true,decide_eq_true_eq];omega),if_neg (by rw[hw1];decide),if_pos hw]
theorem a3c (h:EvU d l c l1)(h2:a2X d [c] l1 c2 l2):EvJ d l c2 l2:=
 EvR.succ (Q:=λk ts=>(p5 k d ts).bind λc ts=>conjL k d [c] ts) (EvR.step (P:=λk ts=>p5 k d ts) (Q:=λk c ts=>conjL k d [c] ts) h h2) λk ts _=>by rw[y0]
theorem a3b (h:w6 [97,110,100] l=false):a2X d cs l (mkC 2 cs) l:=
 EvR.succ (Q:=λ_ ts=> .ok (mkC 2 cs) ts) .ok λk ts hts=>by rw[conjL,if_neg (by rw[t8 hts,h];decide)]
theorem b4z (h:EvU d l c l1)(h2:a2X d (cs++[c]) l1 c2 l2):a2X d cs ((1,[97,110,100])::l) c2 l2:=
 EvR.succ (Q:=λk ts=>(p5 k d ts.tail).bind λc ts=>conjL k d (cs++[c]) ts) (EvR.step (P:=λk ts=>p5 k d ts.tail) (Q:=λk c ts=>conjL k d (cs++[c]) ts) (EvR.tail (P:=λk ts=>p5 k d ts) h) h2) λk ts hts=>by
  have hw:isW [97,110,100] ts=true:=(t8 hts).trans rfl
  rw[conjL,if_pos hw]
theorem a4B (h:EvJ d l c l1)(h2:a2W d [c] l1 c2 l2):EvC d l c2 l2:=
 EvR.succ (Q:=λk ts=>(y0 k d ts).bind λc ts=>condL k d [c] ts) (EvR.step (P:=λk ts=>y0 k d ts) (Q:=λk c ts=>condL k d [c] ts) h h2) λk ts _=>by rw[condP]
theorem a4z (h:w6 [111,114] l=false):a2W d cs l (mkC 3 cs) l:=
 EvR.succ (Q:=λ_ ts=> .ok (mkC 3 cs) ts) .ok λk ts hts=>by rw[condL,if_neg (by rw[t8 hts,h];decide)]
theorem b4d (h:EvJ d l c l1)(h2:a2W d (cs++[c]) l1 c2 l2):a2W d cs ((1,[111,114])::l) c2 l2:=
 EvR.succ (Q:=λk ts=>(y0 k d ts.tail).bind λc ts=>condL k d (cs++[c]) ts) (EvR.step (P:=λk ts=>y0 k d ts.tail) (Q:=λk c ts=>condL k d (cs++[c]) ts) (EvR.tail (P:=λk ts=>y0 k d ts) h) h2) λk ts hts=>by
  have hw:isW [111,114] ts=true:=(t8 hts).trans rfl
  rw[condL,if_pos hw]
def O0:Int->List UInt8
 |1=>[100,105,115,116,97,110,99,101]
 |2=>[102,105,101,108,100]
 |_=>[115,104,111,114,116]
theorem b4W {v:Int}(hv:v=1\/v=2\/v=3)(h:EvR (λ_ ts=>E1 v ts) l c l1):EvU d ((1,O0 v)::l) c l1:=by
 refine EvR.succ (Q:=λk ts=>E1 v ts.tail) (EvR.tail (P:=λ_ ts=>E1 v ts) h) λk ts hts=>?_
 have hw1:isW [110,111,116] ts=false:=(t8 hts).trans (by rcases hv with rfl|rfl|rfl<;>rfl)
 have hw2:isW [40] ts=false:=(t8 hts).trans (by rcases hv with rfl|rfl|rfl<;>rfl)
 have hk:T2 ts=some v:=by
  unfold T2
  rw[t8 hts,t8 hts,t8 hts]
  rcases hv with rfl|rfl|rfl<;>rfl
 rw[p5,if_neg (by rw[hw1,hw2,Bool.or_false,Bool.false_and];decide),if_neg (by rw[hw1];decide),if_neg (by rw[hw2];decide),hk]
theorem b4L {w s:List UInt8}{n v:Int}{f:Int->Cond}(hn:a3V s=some n)(he:∀ts:List Tk,ts.map Tk.bare=(5,w)::(2,s)::l->E1 v ts=(o7 ts.tail).bind λn ts=> .ok (f n) ts):EvR (λ_ ts=>E1 v ts) ((5,w)::(2,s)::l) (f n) l:=by
 refine EvR.congr (Q:=λ_ ts=>(o7 ts.tail).bind λn ts=> .ok (f n) ts) ?_ λk ts hts=>he ts hts
 exact EvR.step (P:=λ_ ts=>o7 ts.tail) (Q:=λ_ n ts=> .ok (f n) ts) (EvR.tail (P:=λ_ ts=>o7 ts) (EvR.num hn)) .ok
theorem b4K {s:List UInt8}{n v:Int}(hn:a3V s=some n):EvR (λ_ ts=>E1 v ts) ((5,[62,61])::(2,s)::l) (leC v n) l:=
 b4L (f:=λn=>leC v n) hn λts hts=>by unfold E1;rw[t8 hts];rfl
end
end Go.Proofs.YtaopegkpjhkooaaGreatDoor.Dx
/- Chapter 06: texts of conditions,their tokens,and what parsing them comes to (plain). -/
namespace Go.Proofs.YtaopegkpjhkooaaGreatDoor.Dx
open Go Go.RowKit
set_option maxRecDepth 100000
theorem b7b {α:Type}{P:Nat->List Tk->Rs α}(hm:∀ts k,P k ts≠ .out->P (k+1) ts=P k ts){l l':List BT}{x:α}(h:EvR P l x l'){ts:List Tk}(hts:ts.map Tk.bare=l)(hn:P FU ts≠ .out):∃ts',ts'.map Tk.bare=l'/\P FU ts= .ok x ts':=by
 obtain⟨ts',h1,k0,hk⟩:=h ts hts
 refine⟨ts',h1,?_⟩
 have e1:=a7L (f:=λk=>P k ts) (hm ts) hn (Nat.le_max_right k0 FU)
 rw[<-e1]
 exact hk _ (Nat.le_max_left ..)
theorem C3 {r:List UInt8}:Brk (32::r):=Brk.cons (by decide) (by decide)
theorem a3l {r:List UInt8}:Brk (41::r):=Brk.cons (by decide) (by decide)
section
variable {r:List UInt8} {l:List BT}
theorem Lx.sp (h:Lx r l):Lx (32::r) l:=Lx.blank (by decide) h
theorem Lx.nl (h:Lx r l):Lx (10::r) l:=Lx.blank (by decide) h
theorem Lx.lp (h:Lx r l):Lx (40::r) ((5,[40])::l):=Lx.sign (by decide) (by cases r<;>rfl) h
theorem Lx.rp (h:Lx r l):Lx (41::r) ((5,[41])::l):=Lx.sign (by decide) (by cases r<;>rfl) h
theorem Lx.lb (h:Lx r l):Lx (123::r) ((5,[123])::l):=Lx.sign (by decide) (by cases r<;>rfl) h
theorem Lx.rb (h:Lx r l):Lx (125::r) ((5,[125])::l):=Lx.sign (by decide) (by cases r<;>rfl) h
theorem Lx.sc (h:Lx r l):Lx (59::r) ((5,[59])::l):=Lx.sign (by decide) (by cases r<;>rfl) h
theorem Lx.ws {w:List UInt8}(hw:T3 w=true)(h:Lx r l):Lx (w++32::r) ((1,w)::l):=Lx.word hw C3 h.sp
theorem Lx.or_ (h:Lx r l):Lx ([32,111,114,32]++r) ((1,[111,114])::l):=Lx.sp (Lx.ws (w:=[111,114]) (by decide) h)
theorem Lx.and_ (h:Lx r l):Lx ([32,97,110,100,32]++r) ((1,[97,110,100])::l):=Lx.sp (Lx.ws (w:=[97,110,100]) (by decide) h)
theorem Lx.notp (h:Lx r l):Lx ([110,111,116,32,40]++r) ((1,[110,111,116])::(5,[40])::l):=Lx.ws (w:=[110,111,116]) (by decide) h.lp
theorem b1x {n:Int}(h0:0<=n)(h1:n<=1125899906842624):w7 (Lib.itoa n)=true:=by
 rw[a3H h0]
 obtain⟨h1',h2,h3,h4,h5⟩:=a3t n.toNat
 have hl:=h5 15 (by omega)
 have hp:1<=(Lib.decDigits n.toNat).length:=by
  cases hd:Lib.decDigits n.toNat with
  |nil=>exact absurd hd h3
  |cons=>simp
 simp only[w7,A0,h1',Bool.and_true,Bool.and_eq_true,decide_eq_true_eq,Bool.or_eq_true]
 refine⟨⟨by omega,by omega⟩,?_⟩
 by_cases e:n.toNat=0
 . left;rw[e,Lib.decDigits,dif_pos (by omega)];rfl
 . exact .inr (h4 e)
theorem a7y {n:Int}(h0:0<=n)(h1:n<=1125899906842624):(Lib.itoa n).length<=16:=by
 rw[a3H h0]
 exact(a3t n.toNat).2.2.2.2 15 (by omega)
theorem Lx.cmp {v n:Int}(hv:v=1\/v=2\/v=3)(h0:0<=n)(h1:n<=1125899906842624)(hr:Brk r)(h:Lx r l):Lx ((O0 v++([32,62,61,32]++Lib.itoa n))++r) ((1,O0 v)::(5,[62,61])::(2,Lib.itoa n)::l):=by
 rw[List.append_assoc,List.append_assoc]
 have h2:Lx (Lib.itoa n++r) ((2,Lib.itoa n)::l):=Lx.num (b1x h0 h1) hr h
 have h3:Lx ([62,61,32]++(Lib.itoa n++r)) ((5,[62,61])::(2,Lib.itoa n)::l):=Lx.dbl rfl h2.sp
 exact Lx.ws (by rcases hv with rfl|rfl|rfl<;>decide) h3
theorem EvU.cmp {d:Nat}{v n:Int}(hv:v=1\/v=2\/v=3)(h0:0<=n)(h1:n<=1125899906842624):EvU d ((1,O0 v)::(5,[62,61])::(2,Lib.itoa n)::l) (leC v n) l:=b4W hv (b4K (b2d h0 h1))
end
abbrev fS (a:Int):List UInt8:=[102,105,101,108,100,32,62,61,32]++Lib.itoa a
abbrev dS (b:Int):List UInt8:=[100,105,115,116,97,110,99,101,32,62,61,32]++Lib.itoa b
abbrev sS (c:Int):List UInt8:=[115,104,111,114,116,32,62,61,32]++Lib.itoa c
section
variable {a b c:Int} (ha:0<=a/\a<=1023) (hb:0<=b/\b<=1023) (hc:0<=c/\c<=1023)
include ha in
theorem Lx.f {r:List UInt8}{l:List BT}(hr:Brk r)(h:Lx r l):Lx (fS a++r) ((1,O0 2)::(5,[62,61])::(2,Lib.itoa a)::l):=Lx.cmp (v:=2) (by decide) ha.1 (by omega) hr h
include hb in
theorem Lx.d {r:List UInt8}{l:List BT}(hr:Brk r)(h:Lx r l):Lx (dS b++r) ((1,O0 1)::(5,[62,61])::(2,Lib.itoa b)::l):=Lx.cmp (v:=1) (by decide) hb.1 (by omega) hr h
include hc in
theorem Lx.s {r:List UInt8}{l:List BT}(hr:Brk r)(h:Lx r l):Lx (sS c++r) ((1,O0 3)::(5,[62,61])::(2,Lib.itoa c)::l):=Lx.cmp (v:=3) (by decide) hc.1 (by omega) hr h
include ha in
include hb in
include hc in
include ha hb hc in
include ha hb hc in
include ha hb hc in
include ha hb in
include ha hb in
include ha hb hc in
include ha in
include ha in
include ha in
include ha in
include ha in
end
end Go.Proofs.YtaopegkpjhkooaaGreatDoor.Dx
/- Chapter 06: how conditions and steps are written,and that they are read again (plain). -/
namespace Go.Proofs.YtaopegkpjhkooaaGreatDoor.Dx
open Go Go.RowKit
set_option maxRecDepth 100000
def G4 (w:List UInt8):List (List UInt8)->List UInt8
 |[]=>[]
 |x::xs=>x++(xs.map (w++ ·)).flatten
theorem b8f (w x:List UInt8)(l:List (List UInt8))(h:l≠[]):G4 w (l++[x])=G4 w l++w++x:=by
 cases l with
 |nil=>exact absurd rfl h
 |cons y ys=>simp[G4]
abbrev orW:List UInt8:=[32,111,114,32]
abbrev I4:List UInt8:=[32,97,110,100,32]
abbrev par (s:List UInt8):List UInt8:=40::(s++[41])
def cTx:Nat->Cond->List UInt8×Bool
 |0,_=>([],false)
 | k+1,c=>
   if c.kind=1 then
    if(1<=c.var/\c.var<=3)/\(0<=c.n/\c.n<=1125899906842624)/\c.parts=[] then(O0 c.var++([32,62,61,32]++Lib.itoa c.n),true) else([],false)
   else if c.kind=4 then match c.parts with
    |[p]=>if c.var=0/\c.n=0 then([110,111,116,32,40]++(cTx k p).1++[41],(cTx k p).2) else([],false)
    |_=>([],false)
   else if(c.kind=2\/c.kind=3)/\(2<=c.parts.length/\c.parts.length<=16)/\c.var=0/\c.n=0/\c.parts.all (λp=>(cTx k p).2)=true then
    (G4 (if c.kind=3 then orW else I4) (c.parts.map λp=>par (cTx k p).1),true)
   else([],false)
def a4A (k:Nat)(s:List UInt8)(c:Cond)(l0:List BT):Prop:=
 (∀r l,Brk r->Lx r l->Lx (s++r) (l0++l))/\∀d l,d+2*k<=16->w6 [97,110,100] l=false->w6 [111,114] l=false->EvC d (l0++l) c l
section
variable {k:Nat}
theorem a9P (T:Cond->List UInt8):∀ps:List Cond,(∀p∈ps,∃l0,a4A k (T p) p l0)->∃L:List BT,(∀r l,Brk r->Lx r l->Brk ((ps.map λp=>I4++par (T p)).flatten++r)/\Lx ((ps.map λp=>I4++par (T p)).flatten++r) (L++l))/\
 (∀d l cs,d+1+2*k<=16->w6 [97,110,100] l=false->a2X d cs (L++l) (mkC 2 (cs++ps)) l)/\∀l,w6 [111,114] l=false->w6 [111,114] (L++l)=false
 |[],_=>⟨[],λr l hb h=>⟨hb,h⟩,λd l cs _ ha=>by rw[List.append_nil];exact a3b ha,λl h=>h⟩
 | p ::ps,hp=>by
   obtain⟨L,h1,h2,h3⟩:=a9P T ps λx hx=>hp x (List.mem_cons_of_mem _ hx)
   obtain⟨l0,c1,c2⟩:=hp p (List.mem_cons_self ..)
   refine⟨(1,[97,110,100])::(5,[40])::(l0++(5,[41])::L),λr l hb h=>⟨C3,?_⟩,λd l cs hd ha=>?_,λl _=>rfl⟩
   . obtain⟨hb2,hx⟩:=h1 r l hb h
     have:=Lx.and_ (Lx.lp (c1 _ _ a3l (Lx.rp hx)))
     simpa using this
   . have hc:=c2 (d+1) ((5,[41])::(L++l)) hd rfl rfl
     have hj:=h2 d l (cs++[p]) hd ha
     rw[List.append_assoc] at hj
     have:=b4z (a3g (by omega) hc) hj
     simpa using this
theorem b2g (T:Cond->List UInt8):∀ps:List Cond,(∀p∈ps,∃l0,a4A k (T p) p l0)->∃L:List BT,(∀r l,Brk r->Lx r l->Brk ((ps.map λp=>orW++par (T p)).flatten++r)/\Lx ((ps.map λp=>orW++par (T p)).flatten++r) (L++l))/\
 (∀d l cs,d+1+2*k<=16->w6 [97,110,100] l=false->w6 [111,114] l=false->a2W d cs (L++l) (mkC 3 (cs++ps)) l)/\∀l,w6 [97,110,100] l=false->w6 [97,110,100] (L++l)=false
 |[],_=>⟨[],λr l hb h=>⟨hb,h⟩,λd l cs _ _ ho=>by rw[List.append_nil];exact a4z ho,λl h=>h⟩
 | p ::ps,hp=>by
   obtain⟨L,h1,h2,h3⟩:=b2g T ps λx hx=>hp x (List.mem_cons_of_mem _ hx)
   obtain⟨l0,c1,c2⟩:=hp p (List.mem_cons_self ..)
   refine⟨(1,[111,114])::(5,[40])::(l0++(5,[41])::L),λr l hb h=>⟨C3,?_⟩,λd l cs hd ha ho=>?_,λl _=>rfl⟩
   . obtain⟨hb2,hx⟩:=h1 r l hb h
     have:=Lx.or_ (Lx.lp (c1 _ _ a3l (Lx.rp hx)))
     simpa using this
   . have hc:=c2 (d+1) ((5,[41])::(L++l)) hd rfl rfl
     have hj:=h2 d l (cs++[p]) hd ha ho
     rw[List.append_assoc] at hj
     have:=b4d (a3c (a3g (by omega) hc) (a3b (h3 l ha))) hj
     simpa using this
end
theorem a9W:∀(k:Nat) (c:Cond),(cTx k c).2=true->∃l0,a4A k (cTx k c).1 c l0
 |0,c,h=>by cases h
 | k + 1, c,h=>by
   have ih:=a9W k
   obtain⟨kd,v,n,ps⟩:=c
   unfold cTx at h⊢
   dsimp only at h⊢
   split at h
   . rename_i hk
     split at h
     case isFalse=>cases h
     rename_i hv
     obtain⟨⟨v1,v2⟩,⟨n1,n2⟩,rfl⟩:=hv
     subst hk
     rw[if_pos rfl,if_pos ⟨⟨v1,v2⟩,⟨n1,n2⟩,rfl⟩]
     have hv3:v=1\/v=2\/v=3:=by omega
     exact⟨[(1,O0 v),(5,[62,61]),(2,Lib.itoa n)],λr l hb hl=>Lx.cmp hv3 n1 n2 hb hl,λd l hd ha ho=>a4B (a3c (EvU.cmp hv3 n1 n2) (a3b ha)) (a4z ho)⟩
   . rename_i hk1
     rw[if_neg hk1]
     split at h
     . rename_i hk
       subst hk
       rw[if_pos rfl]
       split at h
       case h_2=>cases h
       rename_i p
       split at h
       case isFalse=>cases h
       rename_i hv
       obtain⟨rfl,rfl⟩:=hv
       dsimp only at h⊢
       rw[if_pos ⟨rfl,rfl⟩]
       obtain⟨l0,c1,c2⟩:=ih p h
       refine⟨(1,[110,111,116])::(5,[40])::(l0++[(5,[41])]),λr l hb hl=>?_,λd l hd ha ho=>?_⟩
       . have:=Lx.notp (c1 _ _ a3l (Lx.rp hl))
         simpa using this
       . have hk:1<=k:=by
          cases k with
          |zero=>cases h
          |succ k=>omega
         have hc:=c2 (d+2) ((5,[41])::l) (by omega) rfl rfl
         have:=a4B (a3c (b4V (by omega) (a3g (by omega) hc)) (a3b ha)) (a4z ho)
         simpa[mkC] using this
     . rename_i hk4
       rw[if_neg hk4]
       split at h
       case isFalse=>cases h
       rename_i hv
       rw[if_pos hv]
       obtain⟨hkd,⟨h2,h16⟩,rfl,rfl,hall⟩:=hv
       obtain⟨p1,p2,ps,rfl⟩:∃p1 p2 qs,ps=p1::p2::qs:=by
        match ps,h2 with
        |p1::p2::qs,_=>exact⟨p1,p2,qs,rfl⟩
       have hP:∀p∈p1::p2::ps,∃l0,a4A k (cTx k p).1 p l0:=λp hp=>ih p (List.all_eq_true.1 hall p hp)
       obtain⟨l0,c1,c2⟩:=hP p1 (List.mem_cons_self ..)
       rcases hkd with rfl|rfl
       . rw [if_neg (by decide)]
         obtain⟨L,h3,h4,h5⟩:=a9P (λp=>(cTx k p).1) (p2::ps) λp hp=>hP p (List.mem_cons_of_mem _ hp)
         refine⟨(5,[40])::(l0++(5,[41])::L),λr l hb hl=>?_,λd l hd ha ho=>?_⟩
         . obtain⟨hb2,hx⟩:=h3 r l hb hl
           have:=Lx.lp (c1 _ _ a3l (Lx.rp hx))
           simpa[G4,Function.comp_def] using this
         . have hc:=c2 (d+1) ((5,[41])::(L++l)) (by omega) rfl rfl
           have:=a4B (a3c (a3g (by omega) hc) (h4 d l [p1] (by omega) ha)) (a4z ho)
           simpa[mkC] using this
       . rw [if_pos rfl]
         obtain⟨L,h3,h4,h5⟩:=b2g (λp=>(cTx k p).1) (p2::ps) λp hp=>hP p (List.mem_cons_of_mem _ hp)
         refine⟨(5,[40])::(l0++(5,[41])::L),λr l hb hl=>?_,λd l hd ha ho=>?_⟩
         . obtain⟨hb2,hx⟩:=h3 r l hb hl
           have:=Lx.lp (c1 _ _ a3l (Lx.rp hx))
           simpa[G4,Function.comp_def] using this
         . have hc:=c2 (d+1) ((5,[41])::(L++l)) (by omega) rfl rfl
           have:=a4B (a3c (a3g (by omega) hc) (a3b (h5 l ha))) (h4 d l [p1] (by omega) ha ho)
           simpa[mkC] using this
def T9:Int->List UInt8
 |1=>[111,108,100,101,114]
 |2=>[121,111,117,110,103,101,114]
 |3=>[119,97,118,101]
 |4=>[98,105,98]
 |_=>[100,114,97,119]
open Classical in
noncomputable def s6 (F:List Step->List UInt8×Bool)(s:Step):List UInt8×Bool:=
 if s.kind=1 then
  if(1<=s.crit/\s.crit<=5)/\s.cond=cz/\s.th=[]/\s.el=[] then(T9 s.crit++[59,10],true) else([],false)
 else if s.kind=2/\s.crit=0/\(cTx 8 s.cond).2=true/\(F s.th).2=true/\(s.el=[]\/(F s.el).2=true) then
  ([105,102,32]++(cTx 8 s.cond).1++[32,123]++(F s.th).1++[125]++(if s.el=[] then[] else[32,101,108,115,101,32,123]++(F s.el).1++[125]),true)
 else([],false)
open Classical in
noncomputable def sTx:Nat->List Step->List UInt8×Bool
 |0,_=>([],false)
 |k+1,l=>if(1<=l.length/\l.length<=12)/\l.all (λs=>(s6 (sTx k) s).2)=true then((l.map λs=>(s6 (sTx k) s).1).flatten,true) else([],false)
def a3q (l:List BT):Option Int:=if(hdB l).1=1 then(critW.find? λp=>p.1==(hdB l).2).map (·.2) else none
theorem a4Y {ts:List Tk}{l:List BT}(h:ts.map Tk.bare=l):E5 ts=a3q l:=by
 have:=a7p h
 unfold E5 a3q
 rw[<-this];rfl
section
variable {d:Nat} {l l1 l2:List BT} {acc x:List Step} {c:Cond} {th el:List Step}
theorem a9A (ha:acc≠[])(h:a3q l=none)(h2:w6 [105,102] l=false):EvS d acc l acc l:=
 EvR.succ (Q:=λ_ ts=> .ok acc ts) .ok λk ts hts=>by
  rw[n8,a4Y hts,h]
  dsimp only
  rw[if_neg (by rw[t8 hts,h2];decide),if_neg ha]
theorem b4O {w:List UInt8}{b:Int}(hc:a3q ((1,w)::(5,[59])::l)=some b)(h:EvS d (acc++[⟨1,b,⟨0,0,0,[]⟩,[],[]⟩]) l x l1):EvS d acc ((1,w)::(5,[59])::l) x l1:=
 EvR.succ (Q:=λk ts=>(d7 [59] ts.tail).bind λ_ ts=>n8 k d (acc++[⟨1,b,⟨0,0,0,[]⟩,[],[]⟩]) ts)
  (EvR.step (P:=λ_ ts=>d7 [59] ts.tail) (Q:=λk _ ts=>n8 k d (acc++[⟨1,b,⟨0,0,0,[]⟩,[],[]⟩]) ts) (EvR.tail (P:=λ_ ts=>d7 [59] ts) (EvR.need rfl)) h) λk ts hts=>by
  rw[n8,a4Y hts,hc]
theorem b4P (hd:d<16)(h1:EvC 0 l c l1)(h2:EvB (d+1) l1 th l2)(he:w6 [101,108,115,101] l2=false){l3:List BT}(h3:EvS d (acc++[⟨2,0,c,th,[]⟩]) l2 x l3):EvS d acc ((1,[105,102])::l) x l3:=by
 refine EvR.succ (Q:=λk ts=>(condP k 0 ts.tail).bind λc ts=>(blockP k (d+1) ts).bind λt ts=>if isW [101,108,115,101] ts then(blockP k (d+1) ts.tail).bind λe ts=>n8 k d (acc++[⟨2,0,c,t,e⟩]) ts else n8 k d (acc++[⟨2,0,c,t,[]⟩]) ts) ?_ λk ts hts=>?_
 . refine EvR.step (P:=λk ts=>condP k 0 ts.tail) (Q:=λk c ts=>(blockP k (d+1) ts).bind λt ts=>if isW [101,108,115,101] ts then(blockP k (d+1) ts.tail).bind λe ts=>n8 k d (acc++[⟨2,0,c,t,e⟩]) ts else n8 k d (acc++[⟨2,0,c,t,[]⟩]) ts) (EvR.tail (P:=λk ts=>condP k 0 ts) h1) ?_
   refine EvR.step (P:=λk ts=>blockP k (d+1) ts) (Q:=λk t ts=>if isW [101,108,115,101] ts then(blockP k (d+1) ts.tail).bind λe ts=>n8 k d (acc++[⟨2,0,c,t,e⟩]) ts else n8 k d (acc++[⟨2,0,c,t,[]⟩]) ts) h2 ?_
   exact EvR.congr h3 λk ts hts=>by rw[if_neg (by rw[t8 hts,he];decide)]
 . have hw:isW [105,102] ts=true:=(t8 hts).trans rfl
   have hc:E5 ts=none:=(a4Y hts).trans rfl
   rw[n8,hc]
   dsimp only
   rw[if_pos hw,if_neg (by omega)]
theorem b4Q (hd:d<16)(h1:EvC 0 l c l1)(h2:EvB (d+1) l1 th ((1,[101,108,115,101])::l2)){l3 l4:List BT}(h3:EvB (d+1) l2 el l3)(h4:EvS d (acc++[⟨2,0,c,th,el⟩]) l3 x l4):EvS d acc ((1,[105,102])::l) x l4:=by
 refine EvR.succ (Q:=λk ts=>(condP k 0 ts.tail).bind λc ts=>(blockP k (d+1) ts).bind λt ts=>if isW [101,108,115,101] ts then(blockP k (d+1) ts.tail).bind λe ts=>n8 k d (acc++[⟨2,0,c,t,e⟩]) ts else n8 k d (acc++[⟨2,0,c,t,[]⟩]) ts) ?_ λk ts hts=>?_
 . refine EvR.step (P:=λk ts=>condP k 0 ts.tail) (Q:=λk c ts=>(blockP k (d+1) ts).bind λt ts=>if isW [101,108,115,101] ts then(blockP k (d+1) ts.tail).bind λe ts=>n8 k d (acc++[⟨2,0,c,t,e⟩]) ts else n8 k d (acc++[⟨2,0,c,t,[]⟩]) ts) (EvR.tail (P:=λk ts=>condP k 0 ts) h1) ?_
   refine EvR.step (P:=λk ts=>blockP k (d+1) ts) (Q:=λk t ts=>if isW [101,108,115,101] ts then(blockP k (d+1) ts.tail).bind λe ts=>n8 k d (acc++[⟨2,0,c,t,e⟩]) ts else n8 k d (acc++[⟨2,0,c,t,[]⟩]) ts) h2 ?_
   refine EvR.congr (Q:=λk ts=>(blockP k (d+1) ts.tail).bind λe ts=>n8 k d (acc++[⟨2,0,c,th,e⟩]) ts) ?_ λk ts hts=>by
    have hw:isW [101,108,115,101] ts=true:=(t8 hts).trans rfl
    rw[if_pos hw]
   exact EvR.step (P:=λk ts=>blockP k (d+1) ts.tail) (Q:=λk e ts=>n8 k d (acc++[⟨2,0,c,th,e⟩]) ts) (EvR.tail (P:=λk ts=>blockP k (d+1) ts) h3) h4
 . have hw:isW [105,102] ts=true:=(t8 hts).trans rfl
   have hc:E5 ts=none:=(a4Y hts).trans rfl
   rw[n8,hc]
   dsimp only
   rw[if_pos hw,if_neg (by omega)]
theorem a9k (h:EvS d [] l x ((5,[125])::l1)):EvB d ((5,[123])::l) x l1:=
 EvR.succ (Q:=λk ts=>(d7 [123] ts).bind λ_ ts=>(n8 k d [] ts).bind λl ts=>(d7 [125] ts).bind λ_ ts=> .ok l ts)
  (EvR.step (P:=λ_ ts=>d7 [123] ts) (Q:=λk _ ts=>(n8 k d [] ts).bind λl ts=>(d7 [125] ts).bind λ_ ts=> .ok l ts) (EvR.need rfl)
    (EvR.step (P:=λk ts=>n8 k d [] ts) (Q:=λ_ l ts=>(d7 [125] ts).bind λ_ ts=> .ok l ts) h
      (EvR.step (P:=λ_ ts=>d7 [125] ts) (Q:=λ_ _ ts=> .ok x ts) (EvR.need rfl) .ok))) λk ts _=>by rw[blockP]
end
def a1O (l:List BT):Prop:=(∃r,l=(5,[125])::r)\/l=[(6,[])]
def b4N (k:Nat)(s:List UInt8)(x:List Step)(L:List BT):Prop:=
 (∀r l,Lx r l->Lx (s++r) (L++l))/\∀d l acc,d+k<=16->a1O l->EvS d acc (L++l) (acc++x) l
theorem b6m {b:Int}(h:1<=b/\b<=5)(l:List BT):T3 (T9 b)=true/\a3q ((1,T9 b)::l)=some b/\w6 [101,108,115,101] ((1,T9 b)::l)=false:=by
 have:b=1\/b=2\/b=3\/b=4\/b=5:=by omega
 rcases this with rfl|rfl|rfl|rfl|rfl<;>exact⟨by decide,rfl,rfl⟩
theorem F1 {r:List UInt8}:Brk (59::r):=Brk.cons (by decide) (by decide)
theorem b2Q :∀(k:Nat) (x:List Step),(sTx k x).2=true->x≠[]/\∃L,b4N k (sTx k x).1 x L
 |0,x,h=>by cases h
 | k + 1, x, h=>by
   have ih:=b2Q k
   unfold sTx at h⊢
   split at h
   case isFalse=>cases h
   rename_i hv
   rw[if_pos hv]
   obtain⟨⟨h1,_⟩,hall⟩:=hv
   refine⟨by rintro rfl;simp at h1,?_⟩
   have key :∀x:List Step,x.all (λs=>(s6 (sTx k) s).2)=true->∃L:List BT,(∀r l,Lx r l->Lx ((x.map λs=>(s6 (sTx k) s).1).flatten++r) (L++l))/\
    (∀d l acc,d+(k+1)<=16->a1O l->acc++x≠[]->EvS d acc (L++l) (acc++x) l)/\∀l,a1O l->w6 [101,108,115,101] (L++l)=false:=by
    intro x
    induction x with
    | nil=>
      intro _
      refine⟨[],λr l h=>h,λd l acc _ he hne=>?_,λl he=>?_⟩
      . rw[List.append_nil] at hne⊢
        rcases he with⟨r,rfl⟩|rfl
        . exact a9A hne rfl rfl
        . exact a9A hne rfl rfl
      . rcases he with⟨r,rfl⟩|rfl<;>rfl
    | cons s x ihx=>
      intro hall
      rw[List.all_cons,Bool.and_eq_true] at hall
      obtain⟨hs,hx⟩:=hall
      obtain⟨L,h1,h2,h3⟩:=ihx hx
      obtain⟨kd,b,c,th,el⟩:=s
      unfold s6 at hs
      dsimp only at hs
      split at hs
      . rename_i hk
        subst hk
        split at hs
        case isFalse=>cases hs
        rename_i hv
        obtain⟨hb,rfl,rfl,rfl⟩:=hv
        have hw:=λl=>b6m hb l
        refine⟨(1,T9 b)::(5,[59])::L,λr l hl=>?_,λd l acc hd he hne=>?_,λl _=>(hw _).2.2⟩
        . have:=Lx.word (hw []).1 F1 (Lx.sc (Lx.nl (h1 r l hl)))
          have e:(s6 (sTx k) ⟨1,b,cz,[],[]⟩).1=T9 b++[59,10]:=by
           unfold s6
           dsimp only
           rw[if_pos rfl,if_pos ⟨hb,rfl,rfl,rfl⟩]
          rw[List.map_cons,List.flatten_cons,e]
          simpa using this
        . have:=h2 d l (acc++[⟨1,b,⟨0,0,0,[]⟩,[],[]⟩]) hd he (by simp)
          rw[List.append_assoc] at this
          exact b4O (hw _).2.1 this
      . rename_i hk1
        split at hs
        case isFalse=>cases hs
        rename_i hv
        have hv':=hv
        obtain⟨rfl,rfl,hc,hth,hel⟩:=hv
        obtain⟨lc,c1,c2⟩:=a9W 8 c hc
        obtain⟨hthne,Lt,t1,t2⟩:=ih th hth
        have hB:∀(y:List Step) (Ly:List BT) d (l:List BT),(∀d l acc,d+k<=16->a1O l->EvS d acc (Ly++l) (acc++y) l)->d+(k+1)<=16->EvB (d+1) ((5,[123])::(Ly++(5,[125])::l)) y l:=by
         intro y Ly d l hy hd
         have:=hy (d+1) ((5,[125])::l) [] (by omega) (.inl ⟨_,rfl⟩)
         exact a9k this
        by_cases he0:el=[]
        . subst he0
          refine⟨(1,[105,102])::(lc++(5,[123])::(Lt++(5,[125])::L)),λr l hl=>?_,λd l acc hd he hne=>?_,λl _=>rfl⟩
          . have:=Lx.ws (w:=[105,102]) (by decide) (c1 _ _ C3 (Lx.sp (Lx.lb (t1 _ _ (Lx.rb (h1 r l hl))))))
            have e:(s6 (sTx k) ⟨2,0,c,th,[]⟩).1=[105,102,32]++(cTx 8 c).1++[32,123]++(sTx k th).1++[125]++[]:=by
             unfold s6
             dsimp only
             rw[if_neg (by decide),if_pos hv',if_pos rfl]
            rw[List.map_cons,List.flatten_cons,e]
            simpa using this
          . have hs:=h2 d l (acc++[⟨2,0,c,th,[]⟩]) hd he (by simp)
            rw[List.append_assoc] at hs
            have:=b4P (by omega) (c2 0 ((5,[123])::(Lt++(5,[125])::(L++l))) (by omega) rfl rfl) (hB th Lt d (L++l) t2 hd) (h3 l he) hs
            simpa using this
        . have hel':(sTx k el).2=true:=hel.resolve_left he0
          obtain⟨_,Le,e1,e2⟩:=ih el hel'
          refine⟨(1,[105,102])::(lc++(5,[123])::(Lt++(5,[125])::(1,[101,108,115,101])::(5,[123])::(Le++(5,[125])::L))),λr l hl=>?_,λd l acc hd he hne=>?_,λl _=>rfl⟩
          . have:=Lx.ws (w:=[105,102]) (by decide) (c1 _ _ C3 (Lx.sp (Lx.lb (t1 _ _ (Lx.rb (Lx.sp (Lx.ws (w:=[101,108,115,101]) (by decide) (Lx.lb (e1 _ _ (Lx.rb (h1 r l hl)))))))))))
            have e:(s6 (sTx k) ⟨2,0,c,th,el⟩).1=[105,102,32]++(cTx 8 c).1++[32,123]++(sTx k th).1++[125]++([32,101,108,115,101,32,123]++(sTx k el).1++[125]):=by
             unfold s6
             dsimp only
             rw[if_neg (by decide),if_pos hv',if_neg he0]
            rw[List.map_cons,List.flatten_cons,e]
            simpa using this
          . have hs:=h2 d l (acc++[⟨2,0,c,th,el⟩]) hd he (by simp)
            rw[List.append_assoc] at hs
            have:=b4Q (by omega) (c2 0 ((5,[123])::(Lt++(5,[125])::(1,[101,108,115,101])::(5,[123])::(Le++(5,[125])::(L++l)))) (by omega) rfl rfl) (hB th Lt d _ t2 hd) (hB el Le d (L++l) e2 hd) hs
            simpa using this
   obtain⟨L,k1,k2,k3⟩:=key x hall
   exact⟨L,k1,λd l acc hd he=>k2 d l acc hd he (by
    intro e
    have:=congrArg List.length e
    simp only[List.length_append,List.length_nil] at this
    omega)⟩
end Go.Proofs.YtaopegkpjhkooaaGreatDoor.Dx
