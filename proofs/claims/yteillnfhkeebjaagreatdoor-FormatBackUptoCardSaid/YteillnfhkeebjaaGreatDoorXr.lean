/- Chapter. -/
import Derived.Test.YteillnfhkeebjaaGreatDoorXq
set_option linter.all false
namespace Go.Proofs.YteillnfhkeebjaaGreatDoor.Dx
open Go Go.RowKit
set_option maxRecDepth 100000
abbrev BT:=Nat×List UInt8
def EvR {α:Type}(P:Nat->List Tk->Rs α)(l:List BT)(x:α)(l':List BT):Prop:=∀ts:List Tk,ts.map Tk.bare=l->∃ts',ts'.map Tk.bare=l'/\∃k0,∀k,k0<=k->P k ts= .ok x ts'
theorem a0s {ts:List Tk}{p:BT}{l:List BT}(h:ts.map Tk.bare=p::l):∃a r,ts=⟨p.1,p.2,a⟩::r/\r.map Tk.bare=l:=by
 cases ts with
 |nil=>cases h
 | cons t r=>
   simp only[o5,List.cons.injEq] at h;obtain⟨h1,h2⟩:=h;refine⟨t.at_,r,?_,h2⟩;subst h1;rfl
def hdB (l:List BT):BT:=l.headD (6,[])
def E1 (w:List UInt8)(l:List BT):Bool:=(decide ((hdB l).1=1)||decide ((hdB l).1=5))&&decide ((hdB l).2=w)
theorem b2H {ts:List Tk}{l:List BT}(h:ts.map Tk.bare=l):(hdT ts).bare=hdB l:=by
 cases ts with
 |nil=>subst h;rfl
 |cons t r=>subst h;rfl
theorem D0 {w:List UInt8}{ts:List Tk}{l:List BT}(h:ts.map Tk.bare=l):isW w ts=E1 w l:=by
 have:=b2H h;unfold isW E1;rw[<-this];rfl
theorem EvR.step {α β:Type}{P:Nat->List Tk->Rs α}{Q:Nat->α->List Tk->Rs β}{l l1 l2:List BT}{x:α}{y:β}(h:EvR P l x l1)(hq:EvR (λk ts=>Q k x ts) l1 y l2):EvR (λk ts=>(P k ts).bind λa ts=>Q k a ts) l y l2:=by
 intro ts hts;obtain⟨ts1,h1,k1,hk1⟩:=h ts hts;obtain⟨ts2,h2,k2,hk2⟩:=hq ts1 h1;refine⟨ts2,h2,max k1 k2,λk hk=>?_⟩;show(P k ts).bind _=_;rw[hk1 k (by omega),j7];exact hk2 k (by omega)
theorem J5 {α:Type}{P Q:Nat->List Tk->Rs α}{l l':List BT}{x:α}(h:EvR Q l x l')(he:∀k ts,ts.map Tk.bare=l->P (k+1) ts=Q k ts):EvR P l x l':=by
 intro ts hts;obtain⟨ts',h1,k0,hk⟩:=h ts hts;refine⟨ts',h1,k0+1,λk hk'=>?_⟩;obtain⟨j,rfl⟩:∃j,k=j+1:=⟨k-1,by omega⟩
 rw[he j ts hts];exact hk j (by omega)
theorem EvR.ok {α:Type}{x:α}{l:List BT}:EvR (λ_ ts=> .ok x ts) l x l:=λts h=>⟨ts,h,0,λ_ _=>rfl⟩
theorem EvR.tail {α:Type}{P:Nat->List Tk->Rs α}{p:BT}{l l':List BT}{x:α}(h:EvR P l x l'):EvR (λk ts=>P k ts.tail) (p::l) x l':=by
 intro ts hts;obtain⟨a,r,rfl,hr⟩:=a0s hts;exact h r hr
theorem EvR.congr {α:Type}{P Q:Nat->List Tk->Rs α}{l l':List BT}{x:α}(h:EvR Q l x l')(he:∀k ts,ts.map Tk.bare=l->P k ts=Q k ts):EvR P l x l':=by
 intro ts hts;obtain⟨ts',h1,k0,hk⟩:=h ts hts;exact⟨ts',h1,k0,λk hk'=>by rw[he k ts hts];exact hk k hk'⟩
theorem a6Y {w:List UInt8}{p:BT}{l:List BT}(h:E1 w (p::l)=true):EvR (λ_ ts=>o3 w ts) (p::l) () l:=by
 intro ts hts;have hw:isW w ts=true:=(D0 hts).trans h;obtain⟨a,r,rfl,hr⟩:=a0s hts;exact⟨r,hr,0,λ_ _=>by show o3 w _=_;rw[o3,d4 hw];rfl⟩
def a8m (s:List UInt8):Option Int:=a0i ⟨2,s,0⟩
theorem EvR.num {s:List UInt8}{n:Int}{l:List BT}(h:a8m s=some n):EvR (λ_ ts=>y0 ts) ((2,s)::l) n l:=by
 intro ts hts;obtain⟨a,r,rfl,hr⟩:=a0s hts;refine⟨r,hr,0,λ_ _=>?_⟩;have:a0i (hdT (⟨2,s,a⟩::r))=some n:=h;show y0 _=_;unfold y0;show(match a0i (hdT (⟨2,s,a⟩::r)) with|some n=>Rs.ok n _|none=>_)=_;rw[this];rfl
theorem b9i {n:Int}(h0:0<=n)(h1:n<=1125899906842624):a8m (Lib.itoa n)=some n:=by
 unfold a8m a0i;have hd:=a7U h0;have hn:=b2S h0;have hne:(Lib.itoa n).head?≠some 45:=by
  intro e;cases h:Lib.itoa n with
  |nil=>rw[h] at e;cases e
  | cons c r=>
    rw[h] at e hd;cases e;rw[F8,f0] at hd;exact absurd hd.1 (by decide)
 rw[d4 ⟨rfl,hne,by rw[hn];exact h1⟩,hn]
abbrev EvU (d:Nat):=EvR λk ts=>A1 k d ts
abbrev EvJ (d:Nat):=EvR λk ts=>E9 k d ts
abbrev a6X (d:Nat)(l:List Cond):=EvR λk ts=>conjL k d l ts
abbrev EvC (d:Nat):=EvR λk ts=>condP k d ts
abbrev a6W (d:Nat)(l:List Cond):=EvR λk ts=>condL k d l ts
abbrev EvS (d:Nat)(l:List Step):=EvR λk ts=>y9 k d l ts
abbrev EvB (d:Nat):=EvR λk ts=>blockP k d ts
section
variable {d:Nat} {l l1 l2:List BT} {c c2:Cond} {cs:List Cond}
theorem c2Y (hd:d<16)(h:EvU (d+1) l c l1):EvU d ((1,[110,111,116])::l) (K5 c) l1:=by
 refine J5 (Q:=λk ts=>(A1 k (d+1) ts.tail).bind λc ts=> .ok (K5 c) ts) (EvR.step (P:=λk ts=>A1 k (d+1) ts.tail) (Q:=λ_ c ts=> .ok (K5 c) ts) (EvR.tail (P:=λk ts=>A1 k (d+1) ts) h) .ok) λk ts hts=>?_;have hw:isW [110,111,116] ts=true:=(D0 hts).trans rfl;rw[A1,c8 (by simp only[f0,j0];omega),d4 hw]
theorem c2Z (hd:d<16)(h:EvC (d+1) l c ((5,[41])::l1)):EvU d ((5,[40])::l) c l1:=by
 refine J5 (Q:=λk ts=>(condP k (d+1) ts.tail).bind λc ts=>(o3 [41] ts).bind λ_ ts=> .ok c ts) ?_ λk ts hts=>?_
 . exact EvR.step (P:=λk ts=>condP k (d+1) ts.tail) (Q:=λ_ c ts=>(o3 [41] ts).bind λ_ ts=> .ok c ts) (EvR.tail (P:=λk ts=>condP k (d+1) ts) h) (EvR.step (P:=λ_ ts=>o3 [41] ts) (Q:=λ_ _ ts=> .ok c ts) (a6Y rfl) .ok)
 . have hw:isW [40] ts=true:=(D0 hts).trans rfl;have hw1:isW [110,111,116] ts=false:=(D0 hts).trans rfl;rw[A1,c8 (by simp only[f0,j0];omega),c8 (by rw[hw1];decide),d4 hw]
theorem b5s (h:EvU d l c l1)(h2:a6X d [c] l1 c2 l2):EvJ d l c2 l2:=
 J5 (Q:=λk ts=>(A1 k d ts).bind λc ts=>conjL k d [c] ts) (EvR.step (P:=λk ts=>A1 k d ts) (Q:=λk c ts=>conjL k d [c] ts) h h2) λk ts _=>by rw[E9]
theorem b5p (h:E1 [97,110,100] l=false):a6X d cs l (mkC 2 cs) l:=
 J5 (Q:=λ_ ts=> .ok (mkC 2 cs) ts) .ok λk ts hts=>by rw[conjL,c8 (by rw[D0 hts,h];decide)]
theorem c2c (h:EvU d l c l1)(h2:a6X d (cs++[c]) l1 c2 l2):a6X d cs ((1,[97,110,100])::l) c2 l2:=
 J5 (Q:=λk ts=>(A1 k d ts.tail).bind λc ts=>conjL k d (cs++[c]) ts) (EvR.step (P:=λk ts=>A1 k d ts.tail) (Q:=λk c ts=>conjL k d (cs++[c]) ts) (EvR.tail (P:=λk ts=>A1 k d ts) h) h2) λk ts hts=>by
  have hw:isW [97,110,100] ts=true:=(D0 hts).trans rfl;rw[conjL,d4 hw]
theorem b5d (h:EvJ d l c l1)(h2:a6W d [c] l1 c2 l2):EvC d l c2 l2:=
 J5 (Q:=λk ts=>(E9 k d ts).bind λc ts=>condL k d [c] ts) (EvR.step (P:=λk ts=>E9 k d ts) (Q:=λk c ts=>condL k d [c] ts) h h2) λk ts _=>by rw[condP]
theorem b5c (h:E1 [111,114] l=false):a6W d cs l (mkC 3 cs) l:=
 J5 (Q:=λ_ ts=> .ok (mkC 3 cs) ts) .ok λk ts hts=>by rw[condL,c8 (by rw[D0 hts,h];decide)]
theorem c1A (h:EvJ d l c l1)(h2:a6W d (cs++[c]) l1 c2 l2):a6W d cs ((1,[111,114])::l) c2 l2:=
 J5 (Q:=λk ts=>(E9 k d ts.tail).bind λc ts=>condL k d (cs++[c]) ts) (EvR.step (P:=λk ts=>E9 k d ts.tail) (Q:=λk c ts=>condL k d (cs++[c]) ts) (EvR.tail (P:=λk ts=>E9 k d ts) h) h2) λk ts hts=>by
  have hw:isW [111,114] ts=true:=(D0 hts).trans rfl;rw[condL,d4 hw]
def a2Z:Int->List UInt8
 |1=>[100,105,115,116,97,110,99,101]
 |2=>[102,105,101,108,100]
 |_=>[115,104,111,114,116]
theorem c3a {v:Int}(hv:v=1\/v=2\/v=3)(h:EvR (λ_ ts=>N5 v ts) l c l1):EvU d ((1,a2Z v)::l) c l1:=by
 refine J5 (Q:=λk ts=>N5 v ts.tail) (EvR.tail (P:=λ_ ts=>N5 v ts) h) λk ts hts=>?_;have hw1:isW [110,111,116] ts=false:=(D0 hts).trans (by rcases hv with rfl|rfl|rfl<;>rfl);have hw2:isW [40] ts=false:=(D0 hts).trans (by rcases hv with rfl|rfl|rfl<;>rfl);have hk:a1x ts=some v:=by
  unfold a1x;rw[D0 hts,D0 hts,D0 hts];rcases hv with rfl|rfl|rfl<;>rfl
 rw[A1,c8 (by rw[hw1,hw2,Bool.or_false,a5r];decide),c8 (by rw[hw1];decide),c8 (by rw[hw2];decide),hk]
theorem c2B {w s:List UInt8}{n v:Int}{f:Int->Cond}(hn:a8m s=some n)(he:∀ts:List Tk,ts.map Tk.bare=(5,w)::(2,s)::l->N5 v ts=(y0 ts.tail).bind λn ts=> .ok (f n) ts):EvR (λ_ ts=>N5 v ts) ((5,w)::(2,s)::l) (f n) l:=by
 refine EvR.congr (Q:=λ_ ts=>(y0 ts.tail).bind λn ts=> .ok (f n) ts) ?_ λk ts hts=>he ts hts;exact EvR.step (P:=λ_ ts=>y0 ts.tail) (Q:=λ_ n ts=> .ok (f n) ts) (EvR.tail (P:=λ_ ts=>y0 ts) (EvR.num hn)) .ok
theorem c2A {s:List UInt8}{n v:Int}(hn:a8m s=some n):EvR (λ_ ts=>N5 v ts) ((5,[62,61])::(2,s)::l) (leC v n) l:=
 c2B (f:=λn=>leC v n) hn λts hts=>by unfold N5;rw[D0 hts];rfl
end
theorem c6e {α:Type}{P:Nat->List Tk->Rs α}(hm:∀ts k,P k ts≠ .out->P (k+1) ts=P k ts){l l':List BT}{x:α}(h:EvR P l x l'){ts:List Tk}(hts:ts.map Tk.bare=l)(hn:P FU ts≠ .out):∃ts',ts'.map Tk.bare=l'/\P FU ts= .ok x ts':=by
 obtain⟨ts',h1,k0,hk⟩:=h ts hts;refine⟨ts',h1,?_⟩;have e1:=c9f (f:=λk=>P k ts) (hm ts) hn (Nat.le_max_right k0 FU);rw[<-e1];exact hk _ (Nat.le_max_left ..)
theorem J6 {r:List UInt8}:Brk (32::r):=Brk.cons (by decide) (by decide)
theorem c3M {r:List UInt8}:Brk (41::r):=Brk.cons (by decide) (by decide)
section
variable {r:List UInt8} {l:List BT}
theorem Lx.sp (h:Lx r l):Lx (32::r) l:=b5y (by decide) h
theorem Lx.nl (h:Lx r l):Lx (10::r) l:=b5y (by decide) h
theorem Lx.lp (h:Lx r l):Lx (40::r) ((5,[40])::l):=a7m (by decide) (by cases r<;>rfl) h
theorem c2t (h:Lx r l):Lx (41::r) ((5,[41])::l):=a7m (by decide) (by cases r<;>rfl) h
theorem a4m (h:Lx r l):Lx (123::r) ((5,[123])::l):=a7m (by decide) (by cases r<;>rfl) h
theorem a4n (h:Lx r l):Lx (125::r) ((5,[125])::l):=a7m (by decide) (by cases r<;>rfl) h
theorem a3k (h:Lx r l):Lx (59::r) ((5,[59])::l):=a7m (by decide) (by cases r<;>rfl) h
theorem D4 {w:List UInt8}(hw:a3b w=true)(h:Lx r l):Lx (w++32::r) ((1,w)::l):=Lx.word hw J6 h.sp
theorem c2s (h:Lx r l):Lx ([32,111,114,32]++r) ((1,[111,114])::l):=Lx.sp (D4 (w:=[111,114]) (by decide) h)
theorem c2p (h:Lx r l):Lx ([32,97,110,100,32]++r) ((1,[97,110,100])::l):=Lx.sp (D4 (w:=[97,110,100]) (by decide) h)
theorem c2r (h:Lx r l):Lx ([110,111,116,32]++r) ((1,[110,111,116])::l):=D4 (w:=[110,111,116]) (by decide) h
theorem b8f {n:Int}(h0:0<=n)(h1:n<=1125899906842624):E4 (Lib.itoa n)=true:=by
 rw[a9Y h0];obtain⟨h1',h2,h3,h4,h5⟩:=a9K n.toNat;have hl:=h5 15 (by omega);have hp:1<=(Lib.decDigits n.toNat).length:=by
  cases hd:Lib.decDigits n.toNat with
  |nil=>exact absurd hd h3
  |cons=>simp
 simp only[E4,G0,h1',U3,f0,j0,C0];refine⟨⟨by omega,by omega⟩,?_⟩;by_cases e:n.toNat=0
 . left;rw[e,Lib.decDigits,dif_pos (by omega)];rfl
 . exact .inr (h4 e)
theorem Lx.cmp {v n:Int}(hv:v=1\/v=2\/v=3)(h0:0<=n)(h1:n<=1125899906842624)(hr:Brk r)(h:Lx r l):Lx ((a2Z v++([32,62,61,32]++Lib.itoa n))++r) ((1,a2Z v)::(5,[62,61])::(2,Lib.itoa n)::l):=by
 rw[n9,n9];have h2:Lx (Lib.itoa n++r) ((2,Lib.itoa n)::l):=Lx.num (b8f h0 h1) hr h;have h3:Lx ([62,61,32]++(Lib.itoa n++r)) ((5,[62,61])::(2,Lib.itoa n)::l):=b5z rfl h2.sp;exact D4 (by rcases hv with rfl|rfl|rfl<;>decide) h3
theorem EvU.cmp {d:Nat}{v n:Int}(hv:v=1\/v=2\/v=3)(h0:0<=n)(h1:n<=1125899906842624):EvU d ((1,a2Z v)::(5,[62,61])::(2,Lib.itoa n)::l) (leC v n) l:=c3a hv (c2A (b9i h0 h1))
end
abbrev fS (a:Int):List UInt8:=[102,105,101,108,100,32,62,61,32]++Lib.itoa a
abbrev dS (b:Int):List UInt8:=[100,105,115,116,97,110,99,101,32,62,61,32]++Lib.itoa b
abbrev sS (c:Int):List UInt8:=[115,104,111,114,116,32,62,61,32]++Lib.itoa c
section
variable {a b c:Int} (ha:0<=a/\a<=1023) (hb:0<=b/\b<=1023) (hc:0<=c/\c<=1023)
include ha in
theorem d5E {r:List UInt8}{l:List BT}(hr:Brk r)(h:Lx r l):Lx (fS a++r) ((1,a2Z 2)::(5,[62,61])::(2,Lib.itoa a)::l):=Lx.cmp (v:=2) (by decide) ha.1 (by omega) hr h
include hb in
theorem Lx.d {r:List UInt8}{l:List BT}(hr:Brk r)(h:Lx r l):Lx (dS b++r) ((1,a2Z 1)::(5,[62,61])::(2,Lib.itoa b)::l):=Lx.cmp (v:=1) (by decide) hb.1 (by omega) hr h
include hc in
theorem Lx.s {r:List UInt8}{l:List BT}(hr:Brk r)(h:Lx r l):Lx (sS c++r) ((1,a2Z 3)::(5,[62,61])::(2,Lib.itoa c)::l):=Lx.cmp (v:=3) (by decide) hc.1 (by omega) hr h
include ha in
include hb in
include hc in
include ha hb hc in
include ha hb hc in
include ha hb hc in
include ha hb in
include ha hb in
include ha hb hc in
include ha in
include ha in
include ha in
include ha in
include ha in
end
section
variable {k:Nat}
end
def a7C (l:List BT):Option Int:=if(hdB l).1=1 then(critW.find? λp=>p.1==(hdB l).2).map (·.2) else none
theorem a9E {ts:List Tk}{l:List BT}(h:ts.map Tk.bare=l):O6 ts=a7C l:=by
 have:=b2H h;unfold O6 a7C;rw[<-this];rfl
section
variable {d:Nat} {l l1 l2:List BT} {acc x:List Step} {c:Cond} {th el:List Step}
theorem b5D (ha:acc≠[])(h:a7C l=none)(h2:E1 [105,102] l=false):EvS d acc l acc l:=
 J5 (Q:=λ_ ts=> .ok acc ts) .ok λk ts hts=>by
  rw[y9,a9E hts,h];dsimp only;rw[c8 (by rw[D0 hts,h2];decide),c8 ha]
theorem c2D {w:List UInt8}{b:Int}(hc:a7C ((1,w)::(5,[59])::l)=some b)(h:EvS d (acc++[⟨1,b,⟨0,0,0,[]⟩,[],[]⟩]) l x l1):EvS d acc ((1,w)::(5,[59])::l) x l1:=
 J5 (Q:=λk ts=>(o3 [59] ts.tail).bind λ_ ts=>y9 k d (acc++[⟨1,b,⟨0,0,0,[]⟩,[],[]⟩]) ts)
  (EvR.step (P:=λ_ ts=>o3 [59] ts.tail) (Q:=λk _ ts=>y9 k d (acc++[⟨1,b,⟨0,0,0,[]⟩,[],[]⟩]) ts) (EvR.tail (P:=λ_ ts=>o3 [59] ts) (a6Y rfl)) h) λk ts hts=>by
  rw[y9,a9E hts,hc]
theorem c2E (hd:d<16)(h1:EvC 0 l c l1)(h2:EvB (d+1) l1 th l2)(he:E1 [101,108,115,101] l2=false){l3:List BT}(h3:EvS d (acc++[⟨2,0,c,th,[]⟩]) l2 x l3):EvS d acc ((1,[105,102])::l) x l3:=by
 refine J5 (Q:=λk ts=>(condP k 0 ts.tail).bind λc ts=>(blockP k (d+1) ts).bind λt ts=>if isW [101,108,115,101] ts then(blockP k (d+1) ts.tail).bind λe ts=>y9 k d (acc++[⟨2,0,c,t,e⟩]) ts else y9 k d (acc++[⟨2,0,c,t,[]⟩]) ts) ?_ λk ts hts=>?_
 . refine EvR.step (P:=λk ts=>condP k 0 ts.tail) (Q:=λk c ts=>(blockP k (d+1) ts).bind λt ts=>if isW [101,108,115,101] ts then(blockP k (d+1) ts.tail).bind λe ts=>y9 k d (acc++[⟨2,0,c,t,e⟩]) ts else y9 k d (acc++[⟨2,0,c,t,[]⟩]) ts) (EvR.tail (P:=λk ts=>condP k 0 ts) h1) ?_;refine EvR.step (P:=λk ts=>blockP k (d+1) ts) (Q:=λk t ts=>if isW [101,108,115,101] ts then(blockP k (d+1) ts.tail).bind λe ts=>y9 k d (acc++[⟨2,0,c,t,e⟩]) ts else y9 k d (acc++[⟨2,0,c,t,[]⟩]) ts) h2 ?_;exact EvR.congr h3 λk ts hts=>by rw[c8 (by rw[D0 hts,he];decide)]
 . have hw:isW [105,102] ts=true:=(D0 hts).trans rfl;have hc:O6 ts=none:=(a9E hts).trans rfl;rw[y9,hc];dsimp only;rw[d4 hw,c8 (by omega)]
theorem c2F (hd:d<16)(h1:EvC 0 l c l1)(h2:EvB (d+1) l1 th ((1,[101,108,115,101])::l2)){l3 l4:List BT}(h3:EvB (d+1) l2 el l3)(h4:EvS d (acc++[⟨2,0,c,th,el⟩]) l3 x l4):EvS d acc ((1,[105,102])::l) x l4:=by
 refine J5 (Q:=λk ts=>(condP k 0 ts.tail).bind λc ts=>(blockP k (d+1) ts).bind λt ts=>if isW [101,108,115,101] ts then(blockP k (d+1) ts.tail).bind λe ts=>y9 k d (acc++[⟨2,0,c,t,e⟩]) ts else y9 k d (acc++[⟨2,0,c,t,[]⟩]) ts) ?_ λk ts hts=>?_
 . refine EvR.step (P:=λk ts=>condP k 0 ts.tail) (Q:=λk c ts=>(blockP k (d+1) ts).bind λt ts=>if isW [101,108,115,101] ts then(blockP k (d+1) ts.tail).bind λe ts=>y9 k d (acc++[⟨2,0,c,t,e⟩]) ts else y9 k d (acc++[⟨2,0,c,t,[]⟩]) ts) (EvR.tail (P:=λk ts=>condP k 0 ts) h1) ?_;refine EvR.step (P:=λk ts=>blockP k (d+1) ts) (Q:=λk t ts=>if isW [101,108,115,101] ts then(blockP k (d+1) ts.tail).bind λe ts=>y9 k d (acc++[⟨2,0,c,t,e⟩]) ts else y9 k d (acc++[⟨2,0,c,t,[]⟩]) ts) h2 ?_;refine EvR.congr (Q:=λk ts=>(blockP k (d+1) ts.tail).bind λe ts=>y9 k d (acc++[⟨2,0,c,th,e⟩]) ts) ?_ λk ts hts=>by
    have hw:isW [101,108,115,101] ts=true:=(D0 hts).trans rfl;rw[d4 hw]
   exact EvR.step (P:=λk ts=>blockP k (d+1) ts.tail) (Q:=λk e ts=>y9 k d (acc++[⟨2,0,c,th,e⟩]) ts) (EvR.tail (P:=λk ts=>blockP k (d+1) ts) h3) h4
 . have hw:isW [105,102] ts=true:=(D0 hts).trans rfl;have hc:O6 ts=none:=(a9E hts).trans rfl;rw[y9,hc];dsimp only;rw[d4 hw,c8 (by omega)]
theorem b5b (h:EvS d [] l x ((5,[125])::l1)):EvB d ((5,[123])::l) x l1:=
 J5 (Q:=λk ts=>(o3 [123] ts).bind λ_ ts=>(y9 k d [] ts).bind λl ts=>(o3 [125] ts).bind λ_ ts=> .ok l ts)
  (EvR.step (P:=λ_ ts=>o3 [123] ts) (Q:=λk _ ts=>(y9 k d [] ts).bind λl ts=>(o3 [125] ts).bind λ_ ts=> .ok l ts) (a6Y rfl)
    (EvR.step (P:=λk ts=>y9 k d [] ts) (Q:=λ_ l ts=>(o3 [125] ts).bind λ_ ts=> .ok l ts) h
      (EvR.step (P:=λ_ ts=>o3 [125] ts) (Q:=λ_ _ ts=> .ok x ts) (a6Y rfl) .ok))) λk ts _=>by rw[blockP]
end
def a8Y (l:List BT):Prop:=(∃r,l=(5,[125])::r)\/l=[(6,[])]
theorem Q8 {r:List UInt8}:Brk (59::r):=Brk.cons (by decide) (by decide)
end Go.Proofs.YteillnfhkeebjaaGreatDoor.Dx
