/- Chapter 06: how token lists are read,as laws over kinds and texts alone (plain). -/
import Derived.Test.YteillnfhkeebjaaGreatDoorTq
import Derived.Test.YteillnfhkeebjaaGreatDoorTu
set_option linter.all false
namespace Go.Proofs.YteillnfhkeebjaaGreatDoor.Dx
open Go Go.RowKit
set_option maxRecDepth 100000
abbrev BT:=Nat×List UInt8
def EvR {α:Type}(P:Nat->List Tk->Rs α)(l:List BT)(x:α)(l':List BT):Prop:=∀ts:List Tk,ts.map Tk.bare=l->∃ts',ts'.map Tk.bare=l'/\∃k0,∀k,k0<=k->P k ts= .ok x ts'
theorem a1B {ts:List Tk}{p:BT}{l:List BT}(h:ts.map Tk.bare=p::l):∃a r,ts=⟨p.1,p.2,a⟩::r/\r.map Tk.bare=l:=by
 cases ts with
 |nil=>cases h
 | cons t r=>
   simp only[List.map_cons,List.cons.injEq] at h
   obtain⟨h1,h2⟩:=h
   refine⟨t.at_,r,?_,h2⟩
   subst h1
   rfl
def hdB (l:List BT):BT:=l.headD (6,[])
def A4 (w:List UInt8)(l:List BT):Bool:=(decide ((hdB l).1=1)||decide ((hdB l).1=5))&&decide ((hdB l).2=w)
theorem b1b {ts:List Tk}{l:List BT}(h:ts.map Tk.bare=l):(hdT ts).bare=hdB l:=by
 cases ts with
 |nil=>subst h;rfl
 |cons t r=>subst h;rfl
theorem A5 {w:List UInt8}{ts:List Tk}{l:List BT}(h:ts.map Tk.bare=l):isW w ts=A4 w l:=by
 have:=b1b h
 unfold isW A4
 rw[<-this];rfl
theorem EvR.step {α β:Type}{P:Nat->List Tk->Rs α}{Q:Nat->α->List Tk->Rs β}{l l1 l2:List BT}{x:α}{y:β}(h:EvR P l x l1)(hq:EvR (λk ts=>Q k x ts) l1 y l2):EvR (λk ts=>(P k ts).bind λa ts=>Q k a ts) l y l2:=by
 intro ts hts
 obtain⟨ts1,h1,k1,hk1⟩:=h ts hts
 obtain⟨ts2,h2,k2,hk2⟩:=hq ts1 h1
 refine⟨ts2,h2,max k1 k2,λk hk=>?_⟩
 show(P k ts).bind _=_
 rw[hk1 k (by omega),Rs.bind_ok]
 exact hk2 k (by omega)
theorem EvR.succ {α:Type}{P Q:Nat->List Tk->Rs α}{l l':List BT}{x:α}(h:EvR Q l x l')(he:∀k ts,ts.map Tk.bare=l->P (k+1) ts=Q k ts):EvR P l x l':=by
 intro ts hts
 obtain⟨ts',h1,k0,hk⟩:=h ts hts
 refine⟨ts',h1,k0+1,λk hk'=>?_⟩
 obtain⟨j,rfl⟩:∃j,k=j+1:=⟨k-1,by omega⟩
 rw[he j ts hts]
 exact hk j (by omega)
theorem EvR.ok {α:Type}{x:α}{l:List BT}:EvR (λ_ ts=> .ok x ts) l x l:=λts h=>⟨ts,h,0,λ_ _=>rfl⟩
theorem EvR.tail {α:Type}{P:Nat->List Tk->Rs α}{p:BT}{l l':List BT}{x:α}(h:EvR P l x l'):EvR (λk ts=>P k ts.tail) (p::l) x l':=by
 intro ts hts
 obtain⟨a,r,rfl,hr⟩:=a1B hts
 exact h r hr
theorem EvR.congr {α:Type}{P Q:Nat->List Tk->Rs α}{l l':List BT}{x:α}(h:EvR Q l x l')(he:∀k ts,ts.map Tk.bare=l->P k ts=Q k ts):EvR P l x l':=by
 intro ts hts
 obtain⟨ts',h1,k0,hk⟩:=h ts hts
 exact⟨ts',h1,k0,λk hk'=>by rw[he k ts hts];exact hk k hk'⟩
theorem EvR.need {w:List UInt8}{p:BT}{l:List BT}(h:A4 w (p::l)=true):EvR (λ_ ts=>p7 w ts) (p::l) () l:=by
 intro ts hts
 have hw:isW w ts=true:=(A5 hts).trans h
 obtain⟨a,r,rfl,hr⟩:=a1B hts
 exact⟨r,hr,0,λ_ _=>by show p7 w _=_;rw[p7,if_pos hw];rfl⟩
def a2t (s:List UInt8):Option Int:=G2 ⟨2,s,0⟩
theorem EvR.num {s:List UInt8}{n:Int}{l:List BT}(h:a2t s=some n):EvR (λ_ ts=>r4 ts) ((2,s)::l) n l:=by
 intro ts hts
 obtain⟨a,r,rfl,hr⟩:=a1B hts
 refine⟨r,hr,0,λ_ _=>?_⟩
 have:G2 (hdT (⟨2,s,a⟩::r))=some n:=h
 show r4 _=_
 unfold r4
 show(match G2 (hdT (⟨2,s,a⟩::r)) with|some n=>Rs.ok n _|none=>_)=_
 rw[this]
 rfl
theorem c0J {n:Int}(h0:0<=n)(h1:n<=1125899906842624):a2t (Lib.itoa n)=some n:=by
 unfold a2t G2
 have hd:=b9e h0
 have hn:=b9f h0
 have hne:(Lib.itoa n).head?≠some 45:=by
  intro e
  cases h:Lib.itoa n with
  |nil=>rw[h] at e;cases e
  | cons c r=>
    rw[h] at e hd
    cases e
    rw[List.all_cons,Bool.and_eq_true] at hd
    exact absurd hd.1 (by decide)
 rw[if_pos ⟨rfl,hne,by rw[hn];exact h1⟩,hn]
abbrev EvU (d:Nat):=EvR λk ts=>j5 k d ts
abbrev EvJ (d:Nat):=EvR λk ts=>o7 k d ts
abbrev a1q (d:Nat)(l:List Cond):=EvR λk ts=>conjL k d l ts
abbrev EvC (d:Nat):=EvR λk ts=>condP k d ts
abbrev a1p (d:Nat)(l:List Cond):=EvR λk ts=>condL k d l ts
abbrev EvS (d:Nat)(l:List Step):=EvR λk ts=>g8 k d l ts
abbrev EvB (d:Nat):=EvR λk ts=>blockP k d ts
section
variable {d:Nat} {l l1 l2:List BT} {c c2:Cond} {cs:List Cond}
theorem b5k (hd:d<16)(h:EvU (d+1) l c l1):EvU d ((1,[110,111,116])::l) (w6 c) l1:=by
 refine EvR.succ (Q:=λk ts=>(j5 k (d+1) ts.tail).bind λc ts=> .ok (w6 c) ts) (EvR.step (P:=λk ts=>j5 k (d+1) ts.tail) (Q:=λ_ c ts=> .ok (w6 c) ts) (EvR.tail (P:=λk ts=>j5 k (d+1) ts) h) .ok) λk ts hts=>?_
 have hw:isW [110,111,116] ts=true:=(A5 hts).trans rfl
 rw[j5,if_neg (by simp only[Bool.and_eq_true,decide_eq_true_eq];omega),if_pos hw]
theorem b5l (hd:d<16)(h:EvC (d+1) l c ((5,[41])::l1)):EvU d ((5,[40])::l) c l1:=by
 refine EvR.succ (Q:=λk ts=>(condP k (d+1) ts.tail).bind λc ts=>(p7 [41] ts).bind λ_ ts=> .ok c ts) ?_ λk ts hts=>?_
 . exact EvR.step (P:=λk ts=>condP k (d+1) ts.tail) (Q:=λ_ c ts=>(p7 [41] ts).bind λ_ ts=> .ok c ts) (EvR.tail (P:=λk ts=>condP k (d+1) ts) h) (EvR.step (P:=λ_ ts=>p7 [41] ts) (Q:=λ_ _ ts=> .ok c ts) (EvR.need rfl) .ok)
 . have hw:isW [40] ts=true:=(A5 hts).trans rfl
   have hw1:isW [110,111,116] ts=false:=(A5 hts).trans rfl
   rw[j5,if_neg (by simp only[Bool.and_eq_true,decide_eq_true_eq];omega),if_neg (by rw[hw1];decide),if_pos hw]
theorem a8Z (h:EvU d l c l1)(h2:a1q d [c] l1 c2 l2):EvJ d l c2 l2:=
 EvR.succ (Q:=λk ts=>(j5 k d ts).bind λc ts=>conjL k d [c] ts) (EvR.step (P:=λk ts=>j5 k d ts) (Q:=λk c ts=>conjL k d [c] ts) h h2) λk ts _=>by rw[o7]
theorem a8W (h:A4 [97,110,100] l=false):a1q d cs l (mkC 2 cs) l:=
 EvR.succ (Q:=λ_ ts=> .ok (mkC 2 cs) ts) .ok λk ts hts=>by rw[conjL,if_neg (by rw[A5 hts,h];decide)]
theorem b4K (h:EvU d l c l1)(h2:a1q d (cs++[c]) l1 c2 l2):a1q d cs ((1,[97,110,100])::l) c2 l2:=
 EvR.succ (Q:=λk ts=>(j5 k d ts.tail).bind λc ts=>conjL k d (cs++[c]) ts) (EvR.step (P:=λk ts=>j5 k d ts.tail) (Q:=λk c ts=>conjL k d (cs++[c]) ts) (EvR.tail (P:=λk ts=>j5 k d ts) h) h2) λk ts hts=>by
  have hw:isW [97,110,100] ts=true:=(A5 hts).trans rfl
  rw[conjL,if_pos hw]
theorem a8M (h:EvJ d l c l1)(h2:a1p d [c] l1 c2 l2):EvC d l c2 l2:=
 EvR.succ (Q:=λk ts=>(o7 k d ts).bind λc ts=>condL k d [c] ts) (EvR.step (P:=λk ts=>o7 k d ts) (Q:=λk c ts=>condL k d [c] ts) h h2) λk ts _=>by rw[condP]
theorem a8L (h:A4 [111,114] l=false):a1p d cs l (mkC 3 cs) l:=
 EvR.succ (Q:=λ_ ts=> .ok (mkC 3 cs) ts) .ok λk ts hts=>by rw[condL,if_neg (by rw[A5 hts,h];decide)]
theorem b4w (h:EvJ d l c l1)(h2:a1p d (cs++[c]) l1 c2 l2):a1p d cs ((1,[111,114])::l) c2 l2:=
 EvR.succ (Q:=λk ts=>(o7 k d ts.tail).bind λc ts=>condL k d (cs++[c]) ts) (EvR.step (P:=λk ts=>o7 k d ts.tail) (Q:=λk c ts=>condL k d (cs++[c]) ts) (EvR.tail (P:=λk ts=>o7 k d ts) h) h2) λk ts hts=>by
  have hw:isW [111,114] ts=true:=(A5 hts).trans rfl
  rw[condL,if_pos hw]
def R6:Int->List UInt8
 |1=>[100,105,115,116,97,110,99,101]
 |2=>[102,105,101,108,100]
 |_=>[115,104,111,114,116]
theorem b5m {v:Int}(hv:v=1\/v=2\/v=3)(h:EvR (λ_ ts=>z7 v ts) l c l1):EvU d ((1,R6 v)::l) c l1:=by
 refine EvR.succ (Q:=λk ts=>z7 v ts.tail) (EvR.tail (P:=λ_ ts=>z7 v ts) h) λk ts hts=>?_
 have hw1:isW [110,111,116] ts=false:=(A5 hts).trans (by rcases hv with rfl|rfl|rfl<;>rfl)
 have hw2:isW [40] ts=false:=(A5 hts).trans (by rcases hv with rfl|rfl|rfl<;>rfl)
 have hk:L4 ts=some v:=by
  unfold L4
  rw[A5 hts,A5 hts,A5 hts]
  rcases hv with rfl|rfl|rfl<;>rfl
 rw[j5,if_neg (by rw[hw1,hw2,Bool.or_false,Bool.false_and];decide),if_neg (by rw[hw1];decide),if_neg (by rw[hw2];decide),hk]
theorem b4W {w s:List UInt8}{n v:Int}{f:Int->Cond}(hn:a2t s=some n)(he:∀ts:List Tk,ts.map Tk.bare=(5,w)::(2,s)::l->z7 v ts=(r4 ts.tail).bind λn ts=> .ok (f n) ts):EvR (λ_ ts=>z7 v ts) ((5,w)::(2,s)::l) (f n) l:=by
 refine EvR.congr (Q:=λ_ ts=>(r4 ts.tail).bind λn ts=> .ok (f n) ts) ?_ λk ts hts=>he ts hts
 exact EvR.step (P:=λ_ ts=>r4 ts.tail) (Q:=λ_ n ts=> .ok (f n) ts) (EvR.tail (P:=λ_ ts=>r4 ts) (EvR.num hn)) .ok
theorem b4V {s:List UInt8}{n v:Int}(hn:a2t s=some n):EvR (λ_ ts=>z7 v ts) ((5,[62,61])::(2,s)::l) (leC v n) l:=
 b4W (f:=λn=>leC v n) hn λts hts=>by unfold z7;rw[A5 hts];rfl
end
end Go.Proofs.YteillnfhkeebjaaGreatDoor.Dx
/- Chapter 06: texts of conditions,their tokens,and what parsing them comes to (plain). -/
namespace Go.Proofs.YteillnfhkeebjaaGreatDoor.Dx
open Go Go.RowKit
set_option maxRecDepth 100000
theorem b0F {α:Type}{P:Nat->List Tk->Rs α}(hm:∀ts k,P k ts≠ .out->P (k+1) ts=P k ts){l l':List BT}{x:α}(h:EvR P l x l'){ts:List Tk}(hts:ts.map Tk.bare=l)(hn:P FU ts≠ .out):∃ts',ts'.map Tk.bare=l'/\P FU ts= .ok x ts':=by
 obtain⟨ts',h1,k0,hk⟩:=h ts hts
 refine⟨ts',h1,?_⟩
 have e1:=c0l (f:=λk=>P k ts) (hm ts) hn (Nat.le_max_right k0 FU)
 rw[<-e1]
 exact hk _ (Nat.le_max_left ..)
theorem b6t {src:List UInt8}{l:List BT}{c:Cond}(hl:src.length<=65536)(h:Lx src l)(he:EvC 0 l c [(6,[])]):H4 src=(c,0,0):=by
 obtain⟨ts',h1,h2⟩:=b0F (P:=λk ts=>condP k 0 ts) (λts k=>(a5R k).2.2.2.1 0 ts) he (h.toks 0) (a9T src hl)
 obtain⟨a,r,rfl,_⟩:=a1B h1
 unfold H4 a0T
 rw[h.bads]
 show a5v cz (condP FU 0 (toks src 0))=_
 rw[h2]
 rfl
theorem c2T {src:List UInt8}{l:List BT}{c:List Step}(hl:src.length<=65536)(h:Lx src l)(he:EvS 0 [] l c [(6,[])]):I6 src=(c,0,0):=by
 obtain⟨ts',h1,h2⟩:=b0F (P:=λk ts=>g8 k 0 [] ts) (λts k=>(b3v k).1 0 [] ts) he (h.toks 0) (b3s src hl)
 obtain⟨a,r,rfl,_⟩:=a1B h1
 unfold I6 a0T
 rw[h.bads]
 show a5v [] (g8 FU 0 [] (toks src 0))=_
 rw[h2]
 rfl
theorem a1C {r:List UInt8}:Brk (32::r):=Brk.cons (by decide) (by decide)
theorem b5V {r:List UInt8}:Brk (41::r):=Brk.cons (by decide) (by decide)
section
variable {r:List UInt8} {l:List BT}
theorem Lx.sp (h:Lx r l):Lx (32::r) l:=Lx.blank (by decide) h
theorem Lx.lp (h:Lx r l):Lx (40::r) ((5,[40])::l):=Lx.sign (by decide) (by cases r<;>rfl) h
theorem Lx.rp (h:Lx r l):Lx (41::r) ((5,[41])::l):=Lx.sign (by decide) (by cases r<;>rfl) h
theorem Lx.lb (h:Lx r l):Lx (123::r) ((5,[123])::l):=Lx.sign (by decide) (by cases r<;>rfl) h
theorem Lx.rb (h:Lx r l):Lx (125::r) ((5,[125])::l):=Lx.sign (by decide) (by cases r<;>rfl) h
theorem Lx.sc (h:Lx r l):Lx (59::r) ((5,[59])::l):=Lx.sign (by decide) (by cases r<;>rfl) h
theorem Lx.ws {w:List UInt8}(hw:a5i w=true)(h:Lx r l):Lx (w++32::r) ((1,w)::l):=Lx.word hw a1C h.sp
theorem Lx.or_ (h:Lx r l):Lx ([32,111,114,32]++r) ((1,[111,114])::l):=Lx.sp (Lx.ws (w:=[111,114]) (by decide) h)
theorem Lx.and_ (h:Lx r l):Lx ([32,97,110,100,32]++r) ((1,[97,110,100])::l):=Lx.sp (Lx.ws (w:=[97,110,100]) (by decide) h)
theorem Lx.not_ (h:Lx r l):Lx ([110,111,116,32]++r) ((1,[110,111,116])::l):=Lx.ws (w:=[110,111,116]) (by decide) h
theorem b9d {n:Int}(h0:0<=n)(h1:n<=1125899906842624):p4 (Lib.itoa n)=true:=by
 rw[a6G h0]
 obtain⟨h1',h2,h3,h4,h5⟩:=a5Y n.toNat
 have hl:=h5 15 (by omega)
 have hp:1<=(Lib.decDigits n.toNat).length:=by
  cases hd:Lib.decDigits n.toNat with
  |nil=>exact absurd hd h3
  |cons=>simp
 simp only[p4,q8,h1',Bool.and_true,Bool.and_eq_true,decide_eq_true_eq,Bool.or_eq_true]
 refine⟨⟨by omega,by omega⟩,?_⟩
 by_cases e:n.toNat=0
 . left;rw[e,Lib.decDigits,dif_pos (by omega)];rfl
 . exact .inr (h4 e)
theorem Lx.cmp {v n:Int}(hv:v=1\/v=2\/v=3)(h0:0<=n)(h1:n<=1125899906842624)(hr:Brk r)(h:Lx r l):Lx ((R6 v++([32,62,61,32]++Lib.itoa n))++r) ((1,R6 v)::(5,[62,61])::(2,Lib.itoa n)::l):=by
 rw[List.append_assoc,List.append_assoc]
 have h2:Lx (Lib.itoa n++r) ((2,Lib.itoa n)::l):=Lx.num (b9d h0 h1) hr h
 have h3:Lx ([62,61,32]++(Lib.itoa n++r)) ((5,[62,61])::(2,Lib.itoa n)::l):=Lx.dbl rfl h2.sp
 exact Lx.ws (by rcases hv with rfl|rfl|rfl<;>decide) h3
theorem EvU.cmp {d:Nat}{v n:Int}(hv:v=1\/v=2\/v=3)(h0:0<=n)(h1:n<=1125899906842624):EvU d ((1,R6 v)::(5,[62,61])::(2,Lib.itoa n)::l) (leC v n) l:=b5m hv (b4V (c0J h0 h1))
end
abbrev fS (a:Int):List UInt8:=[102,105,101,108,100,32,62,61,32]++Lib.itoa a
abbrev dS (b:Int):List UInt8:=[100,105,115,116,97,110,99,101,32,62,61,32]++Lib.itoa b
abbrev sS (c:Int):List UInt8:=[115,104,111,114,116,32,62,61,32]++Lib.itoa c
section
variable {a b c:Int} (ha:0<=a/\a<=1023) (hb:0<=b/\b<=1023) (hc:0<=c/\c<=1023)
include ha in
theorem Lx.f {r:List UInt8}{l:List BT}(hr:Brk r)(h:Lx r l):Lx (fS a++r) ((1,R6 2)::(5,[62,61])::(2,Lib.itoa a)::l):=Lx.cmp (v:=2) (by decide) ha.1 (by omega) hr h
include hb in
theorem Lx.d {r:List UInt8}{l:List BT}(hr:Brk r)(h:Lx r l):Lx (dS b++r) ((1,R6 1)::(5,[62,61])::(2,Lib.itoa b)::l):=Lx.cmp (v:=1) (by decide) hb.1 (by omega) hr h
include hc in
theorem Lx.s {r:List UInt8}{l:List BT}(hr:Brk r)(h:Lx r l):Lx (sS c++r) ((1,R6 3)::(5,[62,61])::(2,Lib.itoa c)::l):=Lx.cmp (v:=3) (by decide) hc.1 (by omega) hr h
include ha in
include hb in
include hc in
include ha hb hc in
include ha hb hc in
include ha hb hc in
include ha hb in
include ha hb in
include ha hb hc in
include ha in
include ha in
include ha in
include ha in
include ha in
end
end Go.Proofs.YteillnfhkeebjaaGreatDoor.Dx
/- Chapter 06: how conditions and steps are written,and that they are read again (plain). -/
namespace Go.Proofs.YteillnfhkeebjaaGreatDoor.Dx
open Go Go.RowKit
set_option maxRecDepth 100000
section
variable {k:Nat}
end
def a1K (l:List BT):Option Int:=if(hdB l).1=1 then(critW.find? λp=>p.1==(hdB l).2).map (·.2) else none
theorem a3z {ts:List Tk}{l:List BT}(h:ts.map Tk.bare=l):A2 ts=a1K l:=by
 have:=b1b h
 unfold A2 a1K
 rw[<-this];rfl
section
variable {d:Nat} {l l1 l2:List BT} {acc x:List Step} {c:Cond} {th el:List Step}
theorem a9e (ha:acc≠[])(h:a1K l=none)(h2:A4 [105,102] l=false):EvS d acc l acc l:=
 EvR.succ (Q:=λ_ ts=> .ok acc ts) .ok λk ts hts=>by
  rw[g8,a3z hts,h]
  dsimp only
  rw[if_neg (by rw[A5 hts,h2];decide),if_neg ha]
theorem b4Y {w:List UInt8}{b:Int}(hc:a1K ((1,w)::(5,[59])::l)=some b)(h:EvS d (acc++[⟨1,b,⟨0,0,0,[]⟩,[],[]⟩]) l x l1):EvS d acc ((1,w)::(5,[59])::l) x l1:=
 EvR.succ (Q:=λk ts=>(p7 [59] ts.tail).bind λ_ ts=>g8 k d (acc++[⟨1,b,⟨0,0,0,[]⟩,[],[]⟩]) ts)
  (EvR.step (P:=λ_ ts=>p7 [59] ts.tail) (Q:=λk _ ts=>g8 k d (acc++[⟨1,b,⟨0,0,0,[]⟩,[],[]⟩]) ts) (EvR.tail (P:=λ_ ts=>p7 [59] ts) (EvR.need rfl)) h) λk ts hts=>by
  rw[g8,a3z hts,hc]
theorem b4Z (hd:d<16)(h1:EvC 0 l c l1)(h2:EvB (d+1) l1 th l2)(he:A4 [101,108,115,101] l2=false){l3:List BT}(h3:EvS d (acc++[⟨2,0,c,th,[]⟩]) l2 x l3):EvS d acc ((1,[105,102])::l) x l3:=by
 refine EvR.succ (Q:=λk ts=>(condP k 0 ts.tail).bind λc ts=>(blockP k (d+1) ts).bind λt ts=>if isW [101,108,115,101] ts then(blockP k (d+1) ts.tail).bind λe ts=>g8 k d (acc++[⟨2,0,c,t,e⟩]) ts else g8 k d (acc++[⟨2,0,c,t,[]⟩]) ts) ?_ λk ts hts=>?_
 . refine EvR.step (P:=λk ts=>condP k 0 ts.tail) (Q:=λk c ts=>(blockP k (d+1) ts).bind λt ts=>if isW [101,108,115,101] ts then(blockP k (d+1) ts.tail).bind λe ts=>g8 k d (acc++[⟨2,0,c,t,e⟩]) ts else g8 k d (acc++[⟨2,0,c,t,[]⟩]) ts) (EvR.tail (P:=λk ts=>condP k 0 ts) h1) ?_
   refine EvR.step (P:=λk ts=>blockP k (d+1) ts) (Q:=λk t ts=>if isW [101,108,115,101] ts then(blockP k (d+1) ts.tail).bind λe ts=>g8 k d (acc++[⟨2,0,c,t,e⟩]) ts else g8 k d (acc++[⟨2,0,c,t,[]⟩]) ts) h2 ?_
   exact EvR.congr h3 λk ts hts=>by rw[if_neg (by rw[A5 hts,he];decide)]
 . have hw:isW [105,102] ts=true:=(A5 hts).trans rfl
   have hc:A2 ts=none:=(a3z hts).trans rfl
   rw[g8,hc]
   dsimp only
   rw[if_pos hw,if_neg (by omega)]
theorem b5a (hd:d<16)(h1:EvC 0 l c l1)(h2:EvB (d+1) l1 th ((1,[101,108,115,101])::l2)){l3 l4:List BT}(h3:EvB (d+1) l2 el l3)(h4:EvS d (acc++[⟨2,0,c,th,el⟩]) l3 x l4):EvS d acc ((1,[105,102])::l) x l4:=by
 refine EvR.succ (Q:=λk ts=>(condP k 0 ts.tail).bind λc ts=>(blockP k (d+1) ts).bind λt ts=>if isW [101,108,115,101] ts then(blockP k (d+1) ts.tail).bind λe ts=>g8 k d (acc++[⟨2,0,c,t,e⟩]) ts else g8 k d (acc++[⟨2,0,c,t,[]⟩]) ts) ?_ λk ts hts=>?_
 . refine EvR.step (P:=λk ts=>condP k 0 ts.tail) (Q:=λk c ts=>(blockP k (d+1) ts).bind λt ts=>if isW [101,108,115,101] ts then(blockP k (d+1) ts.tail).bind λe ts=>g8 k d (acc++[⟨2,0,c,t,e⟩]) ts else g8 k d (acc++[⟨2,0,c,t,[]⟩]) ts) (EvR.tail (P:=λk ts=>condP k 0 ts) h1) ?_
   refine EvR.step (P:=λk ts=>blockP k (d+1) ts) (Q:=λk t ts=>if isW [101,108,115,101] ts then(blockP k (d+1) ts.tail).bind λe ts=>g8 k d (acc++[⟨2,0,c,t,e⟩]) ts else g8 k d (acc++[⟨2,0,c,t,[]⟩]) ts) h2 ?_
   refine EvR.congr (Q:=λk ts=>(blockP k (d+1) ts.tail).bind λe ts=>g8 k d (acc++[⟨2,0,c,th,e⟩]) ts) ?_ λk ts hts=>by
    have hw:isW [101,108,115,101] ts=true:=(A5 hts).trans rfl
    rw[if_pos hw]
   exact EvR.step (P:=λk ts=>blockP k (d+1) ts.tail) (Q:=λk e ts=>g8 k d (acc++[⟨2,0,c,th,e⟩]) ts) (EvR.tail (P:=λk ts=>blockP k (d+1) ts) h3) h4
 . have hw:isW [105,102] ts=true:=(A5 hts).trans rfl
   have hc:A2 ts=none:=(a3z hts).trans rfl
   rw[g8,hc]
   dsimp only
   rw[if_pos hw,if_neg (by omega)]
theorem b4t (h:EvS d [] l x ((5,[125])::l1)):EvB d ((5,[123])::l) x l1:=
 EvR.succ (Q:=λk ts=>(p7 [123] ts).bind λ_ ts=>(g8 k d [] ts).bind λl ts=>(p7 [125] ts).bind λ_ ts=> .ok l ts)
  (EvR.step (P:=λ_ ts=>p7 [123] ts) (Q:=λk _ ts=>(g8 k d [] ts).bind λl ts=>(p7 [125] ts).bind λ_ ts=> .ok l ts) (EvR.need rfl)
    (EvR.step (P:=λk ts=>g8 k d [] ts) (Q:=λ_ l ts=>(p7 [125] ts).bind λ_ ts=> .ok l ts) h
      (EvR.step (P:=λ_ ts=>p7 [125] ts) (Q:=λ_ _ ts=> .ok x ts) (EvR.need rfl) .ok))) λk ts _=>by rw[blockP]
end
def a8P (l:List BT):Prop:=(∃r,l=(5,[125])::r)\/l=[(6,[])]
theorem b5W {r:List UInt8}:Brk (59::r):=Brk.cons (by decide) (by decide)
end Go.Proofs.YteillnfhkeebjaaGreatDoor.Dx
