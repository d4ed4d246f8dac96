/- Chapter. -/
import Derived.Test.YteillnfhkeebjaaGreatDoorXw
import Derived.Test.YteillnfhkeebjaaGreatDoorXr
set_option linter.all false
namespace Go.Proofs.YteillnfhkeebjaaGreatDoor.Dx
open Go Go.RowKit
set_option maxRecDepth 100000
set_option maxHeartbeats 16000000
def tmB (n:Int):Bool:=decide (0<=n)&&decide (n<=1099511627776)
def amB (n:Int):Bool:=decide (0<=n)&&decide (n<=1125899906842624)
def nmB (s:List UInt8):Bool:=decide (s.length<=60)&&(a3b s&& !kw s)
def a0H (l:List (List UInt8)):Bool:=l.all nmB&&(decide l.Nodup&&decide (l.length≥0))
def ptF (ms:Int)(f:List Part->Bool)(p:Part):Bool:=if p.laps=0 then decide (0<=p.mat/\p.mat<ms/\p.parts.length=0) else decide (p.mat=0)&&(amB p.laps&&f p.parts)
def pfB (ms:Int):Nat->List Part->Bool
 |0,_=>false
 |n+1,l=>decide (1<=l.length/\l.length≥0)&&l.all (ptF ms (pfB ms n))
def atN (l:List (List UInt8))(i:Int):List UInt8:=l.getD i.toNat []
def mtW:Int->List UInt8
 |1=>[115,116,97,114,116]
 |2=>[112,97,115,115]
 |_=>[101,110,100]
def tgW:Int->List UInt8
 |1=>[103,117,110]
 |2=>[99,104,105,112]
 |_=>[115,108,111,116]
def a6N (cs:List (List UInt8))(c:Int):List UInt8:=if 0<=c then atN cs c else[97,108,108]
abbrev S4 (l:List Distance):List (List UInt8):=l.map (·.name)
abbrev S3 (l:List Category):List (List UInt8):=l.map (·.name)
def a2B (i n:Int):Bool:=decide (0<=i/\i<n)
def a3D (n:Int)(x:Leg):Bool:=a2B x.src n&&(a2B x.dst n&&(tmB x.lo&&tmB x.hi))
def a3B (n:Int)(x:Cutoff):Bool:=a2B x.mat n&&(amB x.lap&&tmB x.limit)
def a3C (n:Int)(d:Distance):Bool:=decide (1<=d.timing/\d.timing<=3)&&(decide (-1<=d.extra/\d.extra<n)&&(decide (d.cutoffs.length≥0)&&(pfB n 17 d.route&&d.cutoffs.all (a3B n))))
def a1L (o:Offence):Bool:=tmB o.time&&(amB o.laps&&(decide (o.time=0\/o.laps=0)&&(!o.out||decide (o.time=0/\o.laps=0))))
def a4E (x:Category):Bool:=amB x.lo&&amB x.hi
def a3E (n m:Int)(p:Prize):Bool:=a2B p.distance n&&(decide (-1<=p.category/\p.category<m)&&(amB p.rank&&amB p.amount))
def a9R (m:Mat):Bool:=decide (1<=m.kind/\m.kind<=3)
def TxC (s:List UInt8)(L:List BT):Prop:=∀r l,Lx r l->Lx (s++r) (L++l)
theorem TxC.nil:TxC [] []:=λ_ _ h=>h
theorem TxC.app {s t:List UInt8}{L M:List BT}(h1:TxC s L)(h2:TxC t M):TxC (s++t) (L++M):=λr l h=>by
 rw[n9,n9];exact h1 _ _ (h2 _ _ h)
theorem TxC.all {α:Type}{f:α->List UInt8}{g:α->List BT}:∀{xs:List α},(∀x∈xs,TxC (f x) (g x))->TxC (xs.map f).flatten (xs.map g).flatten
 |[],_=>TxC.nil
 | x::xs,h=>by
   rw[o5,K0,o5,K0];exact(h x (A9 ..)).app (TxC.all λy hy=>h y (r6 _ hy))
section
variable {r:List UInt8} {l:List BT}
theorem Lx.nm {s:List UInt8}(hs:nmB s=true)(hr:Brk r)(h:Lx r l):Lx (s++r) ((1,s)::l):=by
 simp only[nmB,f0] at hs;exact Lx.word hs.2.1 hr h
theorem a0W {n:Int}(hn:amB n=true)(hr:Brk r)(h:Lx r l):Lx (Lib.itoa n++r) ((2,Lib.itoa n)::l):=by
 simp only[amB,f0,j0] at hn;exact Lx.num (b8f hn.1 hn.2) hr h
theorem b4t {t:Int}(ht:tmB t=true):I9 (timeS t)=some t:=by
 simp only[tmB,f0,j0] at ht;exact d3M (by unfold Y0 inR;simp only[f0,j0];omega)
theorem a3l {t:Int}(ht:tmB t=true)(hr:Brk r)(h:Lx r l):Lx (timeS t++r) ((3,timeS t)::l):=Lx.time (b4t ht) hr h
theorem a4o (h:Lx r l):Lx (59::10::r) ((5,[59])::l):=a3k h.nl
theorem a7l (h:Lx r l):Lx (59::32::r) ((5,[59])::l):=a3k h.sp
theorem c2q (h:Lx r l):Lx (32::46::46::32::r) ((5,[46,46])::l):=Lx.sp (b5z rfl h.sp)
end
theorem a1D {ms:List (List UInt8)}(hm:ms.all nmB=true){i:Int}(h:a2B i ms.length=true):nmB (atN ms i)=true:=by
 have h:=a1R h;unfold atN;rw[a7e,t6 (by omega)];exact n7.1 hm _ (q7 _)
def a3N (m:Mat):List BT:=[(1,mtW m.kind),(1,m.name),(5,[59])]
def a3K (ms:List (List UInt8))(x:Leg):List BT:=[(1,[108,101,103]),(1,atN ms x.src),(1,[116,111]),(1,atN ms x.dst),(3,timeS x.lo),(5,[46,46]),(3,timeS x.hi),(5,[59])]
def S6 (ms:List (List UInt8)):Nat->List Part->List BT
 |0,_=>[]
 |n+1,l=>(l.map λp=>if p.laps=0 then[(1,atN ms p.mat),(5,[59])] else(1,[108,97,112,115])::(2,Lib.itoa p.laps)::(5,[123])::(S6 ms n p.parts++[(5,[125])])).flatten
def a5U (ms:List (List UInt8))(x:Cutoff):List BT:=[(1,[99,117,116,111,102,102]),(1,atN ms x.mat),(1,[108,97,112]),(2,Lib.itoa x.lap),(3,timeS x.limit),(5,[59])]
def a1f (ms:List (List UInt8))(e:Int):List BT:=if 0<=e then[(1,[101,120,116,114,97]),(1,atN ms e),(5,[59])] else[]
def a1e (ms:List (List UInt8))(d:Distance):List BT:=(1,[100,105,115,116,97,110,99,101])::(1,d.name)::(1,tgW d.timing)::(5,[123])::(S6 ms 17 d.route++((d.cutoffs.map (a5U ms)).flatten++(a1f ms d.extra++[(5,[125])])))
def a2c (w:Wave):List BT:=[(1,[119,97,118,101]),(1,w.name),(3,timeS w.gun),(5,[59])]
def a0j (o:Offence):List BT:=(1,[111,102,102,101,110,99,101])::(1,o.name)::((if o.out then[(1,[111,117,116])] else if 0<o.laps then[(1,[108,97,112,115]),(2,Lib.itoa o.laps)] else[(3,timeS o.time)])++[(5,[59])])
def a0t (x:Category):List BT:=[(1,[99,97,116,101,103,111,114,121]),(1,x.name),(2,Lib.itoa x.lo),(1,[116,111]),(2,Lib.itoa x.hi),(5,[59])]
def b1n (cs:List (List UInt8))(c:Int):BT:=(1,a6N cs c)
def a0k (ds cs:List (List UInt8))(p:Prize):List BT:=[(1,[112,114,105,122,101]),(1,atN ds p.distance),b1n cs p.category,(2,Lib.itoa p.rank),(2,Lib.itoa p.amount),(5,[59])]
theorem d5p {cs:List (List UInt8)}(hc:cs.all nmB=true){c:Int}(h:c<cs.length):a3b (a6N cs c)=true:=by
 unfold a6N;by_cases h0:0<=c
 . rw[d4 h0];have:=a1D hc (r9 ⟨h0,h⟩);simp only[nmB,f0] at this;exact this.2.1
 . rw[c8 h0];decide
def W5 (L:List BT)(f:Faults)(fee dl:Int):List BT:=
 (1,[116,105,101,115])::(5,[123])::(L++((5,[125])::(1,[102,97,117,108,116,115])::(5,[123])::(1,[109,105,115,115,101,115])::(2,Lib.itoa f.misses)::(5,[59])::(1,[115,116,114,97,121,115])::(2,Lib.itoa f.strays)::(5,[59])::(1,[119,105,110,100,111,119])::(3,timeS f.window)::(5,[59])::
   (1,[114,101,115,105,100,117,97,108])::(3,timeS f.residual)::(5,[59])::(1,[100,114,105,102,116])::(2,Lib.itoa f.drift)::(5,[59])::(5,[125])::(1,[112,114,111,116,101,115,116])::(1,[102,101,101])::(2,Lib.itoa fee)::(1,[100,101,97,100,108,105,110,101])::(3,timeS dl)::(5,[59])::[(5,[125])]))
section
variable {l l':List BT}
theorem a9W {ts:List Tk}(h:ts.map Tk.bare=l):S0 ts=(decide ((hdB l).1=1)&& !kw (hdB l).2):=by
 have:=b2H h;unfold S0;rw[<-this];rfl
theorem a8j {s:List UInt8}(h:nmB s=true):kw s=false:=by
 simp only[nmB,f0,a3d] at h;exact h.2.2
theorem a5v {s:List UInt8}(hs:nmB s=true):EvR (λ_ ts=>O8 ts) ((1,s)::l) s l:=λts hts=>by
 have hi:=a9W hts;obtain⟨a,r,rfl,hr⟩:=a0s hts;refine⟨r,hr,0,λ_ _=>?_⟩;show O8 _=_;unfold O8;rw[hi,d4 (by show(decide ((1:Nat)=1)&& !kw s)=true;rw[a8j hs];rfl)];rfl
theorem b7A:∀{xs:List (List UInt8)} {i:Nat} (h:i<xs.length),xs.Nodup->xs.findIdx? (λx=>decide (x=xs[i]))=some i
 |[],i,h,_=>absurd h (Nat.not_lt_zero _)
 | x::xs,0,h,hn=>by
   rw[List.findIdx?_cons];show(if decide (x=x)=true then some 0 else _)=_;rw[d4 (by simp)]
 | x::xs,i+1,h,hn=>by
   rw[List.nodup_cons] at hn;have h':i<xs.length:=by simpa using h
   have ih:=b7A h' hn.2;have hne:¬x=xs[i]:=λe=>hn.1 (e▸q7 h');rw[List.findIdx?_cons];show(if decide (x=xs[i])=true then _ else _)=_;rw[c8 (by simpa using hne)];show Option.map _ (xs.findIdx? λy=>decide (y=xs[i]))=_;rw[ih];rfl
theorem a4f {ms:List (List UInt8)}(hm:ms.all nmB=true)(hn:ms.Nodup){i:Int}(hi:a2B i ms.length=true):EvR (λ_ ts=>F1 ms ts) ((1,atN ms i)::l) i l:=λts hts=>by
 have hs:=a1D hm hi;have hi:=a1R hi;have hb:=a9W hts;obtain⟨a,r,rfl,hr⟩:=a0s hts;refine⟨r,hr,0,λ_ _=>?_⟩;show F1 _ _=_;unfold F1;rw[hb,d4 (by show(decide ((1:Nat)=1)&& !kw (atN ms i))=true;rw[a8j hs];rfl)];have hlt:i.toNat<ms.length:=by omega
 have he:atN ms i=ms[i.toNat]:=by unfold atN;rw[a7e,t6 hlt];rfl
 show(match ms.findIdx? (λx=>decide (x=atN ms i)) with|some i=>Rs.ok (i:Int) r|none=>I6 70 _)=_;rw[he,b7A hlt hn];show Rs.ok ((i.toNat:Nat):Int) r=_;rw[Int.toNat_of_nonneg hi.1]
theorem a4i {t:Int}(ht:tmB t=true):EvR (λ_ ts=>J2 ts) ((3,timeS t)::l) t l:=λts hts=>by
 obtain⟨a,r,rfl,hr⟩:=a0s hts;refine⟨r,hr,0,λ_ _=>?_⟩;show J2 _=_;have h0:0<=t:=by
  simp only[tmB,f0,j0] at ht;exact ht.1
 have:I1 (hdT (⟨3,timeS t,a⟩::r))=some t:=by
  show I1 ⟨3,timeS t,a⟩=_;unfold I1;rw[d4 rfl];show(match I9 (timeS t) with|some v=>if 0<=v then some v else none|none=>none)=_;rw[b4t ht];show(if 0<=t then some t else none)=_;rw[d4 h0]
 unfold J2;rw[this];rfl
theorem a0S {n:Int}(hn:amB n=true):EvR (λ_ ts=>y0 ts) ((2,Lib.itoa n)::l) n l:=by
 simp only[amB,f0,j0] at hn;exact EvR.num (b9i hn.1 hn.2)
theorem D9 {w:List UInt8}{k:Nat}(hk:k=1\/k=5):EvR (λ_ ts=>o3 w ts) ((k,w)::l) () l:=
 a6Y (by
  show((decide (k=1)||decide (k=5))&&decide (w=w))=true;rcases hk with rfl|rfl<;>simp)
theorem p7 {α β:Type}{P:List Tk->Rs α}{Q:Nat->α->List Tk->Rs β}{l l1 l2:List BT}{x:α}{y:β}(h:EvR (λ_ ts=>P ts) l x l1)(hq:EvR (λk ts=>Q k x ts) l1 y l2):EvR (λk ts=>(P ts).bind λa ts=>Q k a ts) l y l2:=EvR.step h hq
end
theorem c1O {ms:List (List UInt8)}(hm:ms.all nmB=true)(hn:ms.Nodup){x:Leg}(hx:a3D ms.length x=true)(l:List BT):EvR (λ_ ts=>a2E ms ts) ((a3K ms x).tail++l) x l:=by
 simp only[a3D,f0] at hx;unfold a2E;exact p7 (a4f hm hn hx.1) (p7 (D9 (.inl rfl)) (p7 (a4f hm hn hx.2.1) (p7 (a4i hx.2.2.1) (p7 (D9 (.inr rfl)) (p7 (a4i hx.2.2.2) (p7 (D9 (.inr rfl)) .ok))))))
def a8Z (l:List BT):Prop:=E1 [108,97,112,115] l=false/\(decide ((hdB l).1=1)&& !kw (hdB l).2)=false
theorem b7i {l:List BT}:a8Z ((5,[125])::l):=⟨rfl,rfl⟩
theorem b5l {ms:List (List UInt8)}(hm:ms.all nmB=true)(hn:ms.Nodup):∀(n:Nat) (x:List Part),pfB ms.length n x=true->∀(d:Nat) (acc:List Part) (l:List BT),d+n<=17->a8Z l->EvR (λk ts=>A3 ms k d acc ts) (S6 ms n x++l) (acc++x) l
 |0,x,h=>by cases h
 | n + 1, x,h=>by
   intro d acc l hd he;rw[pfB,f0] at h;have hne:=(a1R h.1).1;have key :∀(x:List Part) (acc:List Part),acc++x≠[]->x.all (ptF ms.length (pfB ms.length n))=true->EvR (λk ts=>A3 ms k d acc ts) (S6 ms (n+1) x++l) (acc++x) l:=by
    intro x;induction x with
    | nil=>
      intro acc hne _;rw[R4] at hne⊢;refine J5 (Q:=λ_ ts=> .ok acc ts) .ok λk ts hts=>?_;have h1:isW [108,97,112,115] ts=false:=(D0 hts).trans he.1;have h2:S0 ts=false:=(a9W hts).trans he.2;have h3:acc.isEmpty=false:=by cases acc with|nil=>exact absurd rfl hne|cons _ _=>rfl
      rw[A3,h1,h2,h3,c8 (by decide)]
    | cons p x ih=>
      intro acc _ hall;rw[F8,f0] at hall;have hq:=hall.1;unfold ptF at hq;by_cases h0:p.laps=0
      . rw [d4 h0] at hq;have hq:=a1R hq;have hin:a2B p.mat ms.length=true:=r9 ⟨hq.1,hq.2.1⟩;have hp:p=⟨p.mat,0,[]⟩:=by
         obtain⟨m,lp,ps⟩:=p;have e1:lp=0:=h0;have e2:ps=[]:=C8 hq.2.2;rw[e1,e2]
        have hL:S6 ms (n+1) (p::x)++l=(1,atN ms p.mat)::(5,[59])::(S6 ms (n+1) x++l):=by
         show((p::x).map _).flatten++l=_;rw[o5,K0,d4 h0];rfl
        rw[hL];have h1:=ih (acc++[⟨p.mat,0,[]⟩]) (by simp) hall.2;rw[n9,a4k,<-hp] at h1;refine J5 (Q:=λk ts=>(F1 ms ts).bind λm ts=>(o3 [59] ts).bind λ_ ts=>A3 ms k d (acc++[⟨m,0,[]⟩]) ts) ?_ λk ts hts=>?_
        . refine p7 (Q:=λk m ts=>(o3 [59] ts).bind λ_ ts=>A3 ms k d (acc++[⟨m,0,[]⟩]) ts) (a4f hm hn hin) (p7 (Q:=λk _ ts=>A3 ms k d (acc++[⟨p.mat,0,[]⟩]) ts) (D9 (.inr rfl)) ?_);rw[<-hp];exact h1
        . have hs:=a1D hm hin;have hw:isW [108,97,112,115] ts=false:=by
           rw[D0 hts];show((decide ((1:Nat)=1)||decide ((1:Nat)=5))&&decide (atN ms p.mat=[108,97,112,115]))=false;have:¬atN ms p.mat=[108,97,112,115]:=λe=>by
            have:=a8j hs;rw[e] at this;exact absurd this (by decide+kernel)
           rw[D5 this,a4c]
          have hi:S0 ts=true:=by
           rw[a9W hts];show(decide ((1:Nat)=1)&& !kw (atN ms p.mat))=true;rw[a8j hs];rfl
          rw[A3,hw,hi,Bool.or_true,d4 rfl,c8 (by decide)]
      . rw [c8 h0] at hq;simp only[f0,j0] at hq;have hp:p=⟨0,p.laps,p.parts⟩:=by
         obtain⟨m,lp,ps⟩:=p;have e1:m=0:=hq.1;rw[e1]
        have hL:S6 ms (n+1) (p::x)++l=(1,[108,97,112,115])::(2,Lib.itoa p.laps)::(5,[123])::(S6 ms n p.parts++((5,[125])::(S6 ms (n+1) x++l))):=by
         show((p::x).map _).flatten++l=_;rw[o5,K0,c8 h0];simp only[q8,n9,y8];rfl
        rw[hL];have hn1:1<=n:=by
         rcases Nat.eq_zero_or_pos n with e|e
         . rw[e] at hq;exact absurd (show false=true from hq.2.2) (by decide)
         . exact e
        have h1:=ih (acc++[⟨0,p.laps,p.parts⟩]) (by simp) hall.2;rw[n9,a4k,<-hp] at h1;have h2:=b5l hm hn n p.parts hq.2.2 (d+1) [] ((5,[125])::(S6 ms (n+1) x++l)) (by omega) b7i;rw[y8] at h2;refine J5 (Q:=λk ts=>(y0 ts.tail).bind λn ts=>(o3 [123] ts).bind λ_ ts=>(A3 ms k (d+1) [] ts).bind λx ts=>(o3 [125] ts).bind λ_ ts=>A3 ms k d (acc++[⟨0,n,x⟩]) ts) ?_ λk ts hts=>?_
        . refine EvR.tail (P:=λk ts=>(y0 ts).bind λn ts=>(o3 [123] ts).bind λ_ ts=>(A3 ms k (d+1) [] ts).bind λx ts=>(o3 [125] ts).bind λ_ ts=>A3 ms k d (acc++[⟨0,n,x⟩]) ts) ?_;refine p7 (Q:=λk n ts=>(o3 [123] ts).bind λ_ ts=>(A3 ms k (d+1) [] ts).bind λx ts=>(o3 [125] ts).bind λ_ ts=>A3 ms k d (acc++[⟨0,n,x⟩]) ts) (a0S hq.2.1) ?_;refine p7 (Q:=λk _ ts=>(A3 ms k (d+1) [] ts).bind λx ts=>(o3 [125] ts).bind λ_ ts=>A3 ms k d (acc++[⟨0,p.laps,x⟩]) ts) (D9 (.inr rfl)) ?_;refine EvR.step (P:=λk ts=>A3 ms k (d+1) [] ts) (Q:=λk x ts=>(o3 [125] ts).bind λ_ ts=>A3 ms k d (acc++[⟨0,p.laps,x⟩]) ts) h2 ?_;refine p7 (Q:=λk _ ts=>A3 ms k d (acc++[⟨0,p.laps,p.parts⟩]) ts) (D9 (.inr rfl)) ?_;rw[<-hp];exact h1
        . have hw:isW [108,97,112,115] ts=true:=(D0 hts).trans rfl;rw[A3,hw,Bool.or_true,a2k,d4 rfl,d4 rfl,c8 (by omega)]
   exact key x acc (λe=>by
    have:=d6 List.length e;rw[j6,j8] at this;omega) h.2
theorem b5j {ms:List (List UInt8)}(hm:ms.all nmB=true)(hn:ms.Nodup){l:List BT}(hl:E1 [99,117,116,111,102,102] l=false):∀(x acc:List Cutoff),x.all (a3B ms.length)=true->EvR (λk ts=>J8 ms k acc ts) ((x.map (a5U ms)).flatten++l) (acc++x) l
 | [],acc,_=>by
   rw[R4];refine J5 (Q:=λ_ ts=> .ok acc ts) .ok λk ts hts=>?_;have h1:isW [99,117,116,111,102,102] ts=false:=(D0 hts).trans hl;rw[J8,h1,c8 (by decide)]
 | c ::x,acc,h=>by
   rw[F8,f0] at h;have hc:=h.1;simp only[a3B,f0] at hc;have ih:=b5j hm hn hl x (acc++[c]) h.2;rw[n9,a4k] at ih;rw[o5,K0,n9];refine J5 (Q:=λk ts=>(F1 ms ts.tail).bind λm ts=>(o3 [108,97,112] ts).bind λ_ ts=>(y0 ts).bind λn ts=>(J2 ts).bind λt ts=>(o3 [59] ts).bind λ_ ts=>J8 ms k (acc++[⟨m,n,t⟩]) ts) ?_ λk ts hts=>?_
   . refine EvR.tail (P:=λk ts=>(F1 ms ts).bind λm ts=>(o3 [108,97,112] ts).bind λ_ ts=>(y0 ts).bind λn ts=>(J2 ts).bind λt ts=>(o3 [59] ts).bind λ_ ts=>J8 ms k (acc++[⟨m,n,t⟩]) ts) ?_;exact p7 (a4f hm hn hc.1) (p7 (D9 (.inl rfl)) (p7 (a0S hc.2.1) (p7 (a4i hc.2.2) (p7 (D9 (.inr rfl)) ih))))
   . have hw:isW [99,117,116,111,102,102] ts=true:=(D0 hts).trans rfl;rw[J8,hw,d4 rfl]
theorem c1M {ms:List (List UInt8)}(hm:ms.all nmB=true)(hn:ms.Nodup){e:Int}(he: -1<=e/\e<ms.length){l:List BT}(hl:E1 [101,120,116,114,97] l=false):EvR (λ_ ts=>a1K ms ts) (a1f ms e++l) e l:=by
 unfold a1f;by_cases h0:0<=e
 . rw [d4 h0];refine EvR.congr (Q:=λ_ ts=>(F1 ms ts.tail).bind λm ts=>(o3 [59] ts).bind λ_ ts=> .ok m ts) ?_ λk ts hts=>?_
   . refine EvR.tail (P:=λ_ ts=>(F1 ms ts).bind λm ts=>(o3 [59] ts).bind λ_ ts=> .ok m ts) ?_;exact p7 (a4f hm hn (r9 ⟨h0,he.2⟩)) (p7 (D9 (.inr rfl)) .ok)
   . have hw:isW [101,120,116,114,97] ts=true:=(D0 hts).trans rfl;rw[a1K,d4 hw]
 . rw[c8 h0];obtain rfl:e= -1:=by omega
   refine EvR.congr (Q:=λ_ ts=> .ok (-1) ts) .ok λk ts hts=>?_;have hw:isW [101,120,116,114,97] ts=false:=(D0 hts).trans hl;rw[a1K,c8 (by rw[hw];decide)]
theorem c1R {t:Int}(h:1<=t/\t<=3){l:List BT}:EvR (λ_ ts=>a5k ts) ((1,tgW t)::l) t l:=λts hts=>by
 obtain⟨a,r,rfl,hr⟩:=a0s hts;refine⟨r,hr,0,λ_ _=>?_⟩;have:t=1\/t=2\/t=3:=by omega
 rcases this with rfl|rfl|rfl<;>rfl
theorem c5M {ms:List (List UInt8)}{cs:List Cutoff}{e:Int}{l:List BT}:a8Z ((cs.map (a5U ms)).flatten++(a1f ms e++(5,[125])::l))/\E1 [99,117,116,111,102,102] (a1f ms e++(5,[125])::l)=false/\E1 [101,120,116,114,97] ((5,[125])::l)=false:=by
 have kc:kw [99,117,116,111,102,102]=true:=by decide+kernel
 have ke:kw [101,120,116,114,97]=true:=by decide+kernel
 have h2:a8Z (a1f ms e++(5,[125])::l):=by
  unfold a1f;split
  . refine⟨rfl,?_⟩;show(decide ((1:Nat)=1)&& !kw [101,120,116,114,97])=false;rw[ke];rfl
  . exact b7i
 refine⟨?_,?_,rfl⟩
 . cases cs with
   |nil=>exact h2
   | cons c cs=>
     refine⟨rfl,?_⟩;show(decide ((1:Nat)=1)&& !kw [99,117,116,111,102,102])=false;rw[kc];rfl
 . unfold a1f;split<;>rfl
theorem c1L {ms:List (List UInt8)}(hm:ms.all nmB=true)(hn:ms.Nodup){d:Distance}(hd:a3C ms.length d=true)(hw:nmB d.name=true)(l:List BT):EvR (λk ts=>X8 ms k ts) ((a1e ms d).tail++l) d l:=by
 simp only[a3C,f0,j0] at hd;obtain⟨e1,e2,e3⟩:=c5M (ms:=ms) (cs:=d.cutoffs) (e:=d.extra) (l:=l);have h1:=b5l hm hn 17 d.route hd.2.2.2.1 0 [] _ (by omega) e1;have h2:=b5j hm hn e2 d.cutoffs [] hd.2.2.2.2;have h3:=c1M hm hn hd.2.1 e3;rw[y8] at h1 h2;have hL:(a1e ms d).tail++l=(1,d.name)::(1,tgW d.timing)::(5,[123])::(S6 ms 17 d.route++((d.cutoffs.map (a5U ms)).flatten++(a1f ms d.extra++(5,[125])::l))):=by
  simp only[a1e,List.tail_cons,q8,n9,y8]
 rw[hL];unfold X8;exact p7 (a5v hw) (p7 (c1R hd.1) (p7 (D9 (.inr rfl)) (EvR.step (P:=λk ts=>A3 ms k 0 [] ts) h1 (EvR.step (P:=λk ts=>J8 ms k [] ts) h2 (p7 h3 (p7 (D9 (.inr rfl)) .ok))))))
theorem c1S {w:Wave}(h:tmB w.gun=true)(hn:nmB w.name=true)(l:List BT):EvR (λ_ ts=>a3a ts) ((a2c w).tail++l) w l:=by
 unfold a3a;exact p7 (a5v hn) (p7 (a4i h) (p7 (D9 (.inr rfl)) .ok))
theorem c1P {o:Offence}(h:a1L o=true)(hn:nmB o.name=true)(l:List BT):EvR (λ_ ts=>a2P ts) ((a0j o).tail++l) o l:=by
 obtain⟨nm,t,lp,out⟩:=o;simp only[a1L,f0,C0,j0,a3d] at h;obtain⟨h1,h2,h3,h4⟩:=h;have hL:(a0j ⟨nm,t,lp,out⟩).tail++l=(1,nm)::((if out then[(1,[111,117,116])] else if 0<lp then[(1,[108,97,112,115]),(2,Lib.itoa lp)] else[(3,timeS t)])++(5,[59])::l):=by
  simp only[a0j,List.tail_cons,q8,n9,y8]
 rw[hL];unfold a2P;refine p7 (a5v hn) (p7 (l1:=(5,[59])::l) (x:=⟨nm,t,lp,out⟩) ?_ (p7 (D9 (.inr rfl)) .ok));cases out with
 | true=>
   rw[d4 rfl];obtain⟨rfl,rfl⟩:=h4.resolve_left (by decide);refine EvR.congr (Q:=λ_ ts=>(o3 [111,117,116] ts).bind λ_ ts=> .ok ⟨nm,0,0,true⟩ ts) (p7 (P:=λts=>o3 [111,117,116] ts) (Q:=λ_ _ ts=> .ok (⟨nm,0,0,true⟩:Offence) ts) (l1:=(5,[59])::l) (D9 (.inl rfl)) .ok) λk ts hts=>?_;have hw:isW [108,97,112,115] ts=false:=(D0 hts).trans rfl;obtain⟨a,r,rfl,hr⟩:=a0s hts;show a0L _ _=_;unfold a0L;rw[show I1 (hdT (⟨1,[111,117,116],a⟩::r))=none from rfl];dsimp only;rw[hw,c8 (by decide)]
 | false=>
   rw[c8 (by decide)];by_cases h0:0<lp
   . rw [d4 h0];obtain rfl:t=0:=h3.resolve_right (by omega);refine EvR.congr (Q:=λ_ ts=>(y0 ts.tail).bind λn ts=> .ok ⟨nm,0,n,false⟩ ts) ?_ λk ts hts=>?_
     . exact EvR.tail (P:=λ_ ts=>(y0 ts).bind λn ts=> .ok (⟨nm,0,n,false⟩:Offence) ts) (p7 (P:=λts=>y0 ts) (Q:=λ_ n ts=> .ok (⟨nm,0,n,false⟩:Offence) ts) (l1:=(5,[59])::l) (a0S h2) .ok)
     . have hw:isW [108,97,112,115] ts=true:=(D0 hts).trans rfl;obtain⟨a,r,rfl,hr⟩:=a0s hts;show a0L _ _=_;unfold a0L;rw[show I1 (hdT (⟨1,[108,97,112,115],a⟩::r))=none from rfl];dsimp only;rw[hw,d4 rfl]
   . rw[c8 h0];obtain rfl:lp=0:=by
      simp only[amB,f0,j0] at h2;omega
     intro ts hts;obtain⟨a,r,rfl,hr⟩:=a0s hts;refine⟨r,hr,0,λ_ _=>?_⟩;have ht:I1 (hdT (⟨3,timeS t,a⟩::r))=some t:=by
      show I1 ⟨3,timeS t,a⟩=_;unfold I1;rw[d4 rfl];show(match I9 (timeS t) with|some v=>if 0<=v then some v else none|none=>none)=_;rw[b4t h1];show(if 0<=t then some t else none)=_;rw[d4 (by simp only[tmB,f0,j0] at h1;exact h1.1)]
     show a0L _ _=_;unfold a0L;rw[ht];rfl
theorem c1J {x:Category}(h:a4E x=true)(hn:nmB x.name=true)(l:List BT):EvR (λ_ ts=>a2t ts) ((a0t x).tail++l) x l:=by
 simp only[a4E,f0] at h;unfold a2t;exact p7 (a5v hn) (p7 (a0S h.1) (p7 (D9 (.inl rfl)) (p7 (a0S h.2) (p7 (D9 (.inr rfl)) .ok))))
theorem c1T {cs:List (List UInt8)}(hc:cs.all nmB=true)(hn:cs.Nodup){c:Int}(h: -1<=c/\c<cs.length){l:List BT}:EvR (λ_ ts=>a2d cs ts) (b1n cs c::l) c l:=by
 unfold b1n a6N;by_cases h0:0<=c
 . have hin:a2B c cs.length=true:=r9 ⟨h0,h.2⟩;rw[d4 h0];refine EvR.congr (a4f hc hn hin) λk ts hts=>?_;have hs:=a1D hc hin;have hw:isW [97,108,108] ts=false:=by
    rw[D0 hts];show((decide ((1:Nat)=1)||decide ((1:Nat)=5))&&decide (atN cs c=[97,108,108]))=false;have:¬atN cs c=[97,108,108]:=λe=>by
     have:=a8j hs;rw[e] at this;exact absurd this (by decide+kernel)
    rw[D5 this,a4c]
   rw[a2d,hw,c8 (by decide)]
 . rw[c8 h0];obtain rfl:c= -1:=by omega
   intro ts hts;have hw:isW [97,108,108] ts=true:=(D0 hts).trans rfl;obtain⟨a,r,rfl,hr⟩:=a0s hts;exact⟨r,hr,0,λ_ _=>by show a2d _ _=_;rw[a2d,d4 hw];rfl⟩
theorem c1Q {ds cs:List (List UInt8)}(hd:ds.all nmB=true)(hdn:ds.Nodup)(hc:cs.all nmB=true)(hcn:cs.Nodup){p:Prize}(h:a3E ds.length cs.length p=true)(l:List BT):EvR (λ_ ts=>a2R ds cs ts) ((a0k ds cs p).tail++l) p l:=by
 simp only[a3E,f0,j0] at h;unfold a2R;exact p7 (a4f hd hdn h.1) (p7 (c1T hc hcn h.2.1) (p7 (a0S h.2.2.1) (p7 (a0S h.2.2.2) (p7 (D9 (.inr rfl)) .ok))))
theorem b5k {l:List BT}:∀(x acc:List Mat),x.all a9R=true->(x.map (·.name)).all nmB=true->EvR (λk ts=>H9 k acc ts) ((x.map a3N).flatten++(5,[125])::l) (acc++x) l
 | [],acc,_,_=>by
   rw[R4];refine J5 (Q:=λ_ ts=>(o3 [125] ts).bind λ_ ts=> .ok acc ts) (p7 (D9 (.inr rfl)) .ok) λk ts hts=>?_;have h1:Y4 ts=none:=by
    unfold Y4;rw[D0 hts,D0 hts,D0 hts];rfl
   rw[H9,h1]
 | m ::x,acc,h,hn=>by
   rw[F8,f0] at h;rw[o5,F8,f0] at hn;have hk:=a1R h.1;have ih:=b5k (l:=l) x (acc++[m]) h.2 hn.2;rw[n9,a4k] at ih;rw[o5,K0,n9];refine J5 (Q:=λk ts=>(O8 ts.tail).bind λw ts=>(o3 [59] ts).bind λ_ ts=>H9 k (acc++[⟨w,m.kind⟩]) ts) ?_ λk ts hts=>?_
   . refine EvR.tail (P:=λk ts=>(O8 ts).bind λw ts=>(o3 [59] ts).bind λ_ ts=>H9 k (acc++[⟨w,m.kind⟩]) ts) ?_;exact p7 (a5v hn.1) (p7 (D9 (.inr rfl)) ih)
   . have h1:Y4 ts=some m.kind:=by
      unfold Y4;have hb:∀w,E1 w (a3N m++((x.map a3N).flatten++(5,[125])::l))=decide (mtW m.kind=w):=λw=>by
       show((decide ((1:Nat)=1)||decide ((1:Nat)=5))&&decide (mtW m.kind=w))=_;simp
      rw[D0 hts,D0 hts,D0 hts,hb,hb,hb];have:m.kind=1\/m.kind=2\/m.kind=3:=by omega
      rcases this with e|e|e<;>rw[e]<;>rfl
     rw[H9,h1]
theorem V6 {α:Type}{L:α->List BT}{w v:List UInt8}(hne:w≠v)(hL:∀x,∃t,L x=(1,w)::t){xs:List α}{l:List BT}(hl:E1 v l=false):E1 v ((xs.map L).flatten++l)=false:=by
 cases xs with
 |nil=>exact hl
 | cons x xs=>
   obtain⟨t,e⟩:=hL x;rw[o5,K0,e];show((decide ((1:Nat)=1)||decide ((1:Nat)=5))&&decide (w=v))=false;rw[D5 hne,a4c]
theorem a4g {α:Type}{i:Nat}{add:Course->α->Course}{L:α->List BT}{w:List UInt8}(hw:secW.getD i []=w)(Inv:Course->Prop)(hI:∀c x,Inv c->Inv (add c x))(hL:∀x,∃t,L x=(1,w)::t):∀(xs:List α),
 (∀x∈xs,∀c l,Inv c->EvR (λk ts=>S7 k i c ts) ((L x).tail++l) (add c x) l)->∀c l,Inv c->E1 w l=false->EvR (λk ts=>G5 i k c ts) ((xs.map L).flatten++l) (xs.foldl add c) l
 | [],_,c,l,_,hl=>by
   refine J5 (Q:=λ_ ts=> .ok c ts) .ok λk ts hts=>?_;have h1:isW w ts=false:=(D0 hts).trans hl;rw[G5,hw,h1,c8 (by decide)]
 | x ::xs,h,c,l,hc,hl=>by
   have ih:=a4g hw Inv hI hL xs (λy hy=>h y (r6 _ hy)) (add c x) l (hI c x hc) hl;have h1:=h x (A9 ..) c ((xs.map L).flatten++l) hc;obtain⟨t,e⟩:=hL x;rw[e,List.tail_cons] at h1;rw[o5,K0,n9,e,Z0,q8];refine J5 (Q:=λk ts=>(S7 k i c ts.tail).bind λc ts=>G5 i k c ts) ?_ λk ts hts=>?_
   . exact EvR.tail (P:=λk ts=>(S7 k i c ts).bind λc ts=>G5 i k c ts) (EvR.step (P:=λk ts=>S7 k i c ts) (Q:=λk c ts=>G5 i k c ts) h1 ih)
   . have h2:isW w ts=true:=by
      rw[D0 hts];show((decide ((1:Nat)=1)||decide ((1:Nat)=5))&&decide (w=w))=true;simp
     rw[G5,hw,d4 h2]
theorem b5K:∀(xs:List Leg) (c:Course),xs.foldl (λc x=>{c with legs:=c.legs++[x]}) c={c with legs:=c.legs++xs}
 |[],c=>by simp
 |x::xs,c=>by rw[Z0,b5K xs];simp
theorem b5L:∀(xs:List Distance) (c:Course),xs.foldl (λc x=>{c with distances:=c.distances++[x]}) c={c with distances:=c.distances++xs}
 |[],c=>by simp
 |x::xs,c=>by rw[Z0,b5L xs];simp
theorem b5M:∀(xs:List Wave) (c:Course),xs.foldl (λc x=>{c with waves:=c.waves++[x]}) c={c with waves:=c.waves++xs}
 |[],c=>by simp
 |x::xs,c=>by rw[Z0,b5M xs];simp
theorem b5N:∀(xs:List Offence) (c:Course),xs.foldl (λc x=>{c with offences:=c.offences++[x]}) c={c with offences:=c.offences++xs}
 |[],c=>by simp
 |x::xs,c=>by rw[Z0,b5N xs];simp
theorem b5O:∀(xs:List Category) (c:Course),xs.foldl (λc x=>{c with categories:=c.categories++[x]}) c={c with categories:=c.categories++xs}
 |[],c=>by simp
 |x::xs,c=>by rw[Z0,b5O xs];simp
theorem b5P:∀(xs:List Prize) (c:Course),xs.foldl (λc x=>{c with prizes:=c.prizes++[x]}) c={c with prizes:=c.prizes++xs}
 |[],c=>by simp
 |x::xs,c=>by rw[Z0,b5P xs];simp
theorem a6Z {w:List UInt8}{P:List Tk->Rs Int}{n:Int}{l1 l:List BT}(h:EvR (λ_ ts=>P ts) l1 n ((5,[59])::l)):EvR (λ_ ts=>S8 w P ts) ((1,w)::l1) n l:=by
 unfold S8;exact p7 (D9 (.inl rfl)) (p7 h (p7 (D9 (.inr rfl)) .ok))
theorem c1N {c:Course}{x:List Step}{L:List BT}{f:Faults}{fee dl:Int}(hS:∀l,a8Y l->EvS 0 [] (L++l) x l)(h1:amB f.misses=true)(h2:amB f.strays=true)(h3:tmB f.window=true)(h4:tmB f.residual=true)(h5:amB f.drift=true)(h6:amB fee=true)(h7:tmB dl=true)(l:List BT):
 EvR (λk ts=>a1k k c ts) (W5 L f fee dl++l) {c with ties:=x,faults:=f,fee:=fee,deadline:=dl} l:=by
 obtain⟨a,b,w,r,d⟩:=f;have hL:W5 L ⟨a,b,w,r,d⟩ fee dl++l=(1,[116,105,101,115])::(5,[123])::(L++((5,[125])::(1,[102,97,117,108,116,115])::(5,[123])::(1,[109,105,115,115,101,115])::(2,Lib.itoa a)::(5,[59])::(1,[115,116,114,97,121,115])::(2,Lib.itoa b)::(5,[59])::(1,[119,105,110,100,111,119])::(3,timeS w)::(5,[59])::
  (1,[114,101,115,105,100,117,97,108])::(3,timeS r)::(5,[59])::(1,[100,114,105,102,116])::(2,Lib.itoa d)::(5,[59])::(5,[125])::(1,[112,114,111,116,101,115,116])::(1,[102,101,101])::(2,Lib.itoa fee)::(1,[100,101,97,100,108,105,110,101])::(3,timeS dl)::(5,[59])::(5,[125])::l)):=by
  simp only[W5,q8,n9,y8]
 rw[hL];unfold a1k;refine p7 (D9 (.inl rfl)) ?_;refine EvR.step (P:=λk ts=>blockP k 0 ts) (b5b (hS _ (.inl ⟨_,rfl⟩))) ?_;refine p7 (D9 (.inl rfl)) (p7 (D9 (.inr rfl)) ?_);refine p7 (a6Z (a0S h1)) (p7 (a6Z (a0S h2)) (p7 (a6Z (a4i h3)) (p7 (a6Z (a4i h4)) (p7 (a6Z (a0S h5)) ?_))));exact p7 (D9 (.inr rfl)) (p7 (D9 (.inl rfl)) (p7 (D9 (.inl rfl)) (p7 (a0S h6) (p7 (D9 (.inl rfl)) (p7 (a4i h7) (p7 (D9 (.inr rfl)) (p7 (D9 (.inr rfl)) .ok)))))))
def b7x (c:Course):Bool:=decide (c.legs.length≥0/\c.prizes.length≥0/\c.mats.length≥0/\c.distances.length≥0/\c.waves.length≥0/\c.offences.length≥0/\c.categories.length≥0)
def a6d (c:Course):Bool:=
 b7x c&&(c.mats.all a9R&&(c.legs.all (a3D c.mats.length)&&(c.distances.all (a3C c.mats.length)&&(c.waves.all (λw=>tmB w.gun)&&(c.offences.all a1L&&(c.categories.all a4E&&(c.prizes.all (a3E c.distances.length c.categories.length)&&
 (([c.faults.misses,c.faults.strays,c.faults.drift,c.fee].all amB&&[c.faults.window,c.faults.residual,c.deadline].all tmB)&&
 (a0H [c.name]&&(a0H c.ms&&(a0H (S4 c.distances)&&(a0H (c.waves.map (·.name))&&(a0H (c.offences.map (·.name))&&a0H (S3 c.categories))))))))))))))
def a7D (c:Course)(L:List BT):List BT:=
 (1,[99,111,117,114,115,101])::(1,c.name)::(5,[123])::(1,[109,97,116,115])::(5,[123])::((c.mats.map a3N).flatten++((5,[125])::((c.legs.map (a3K c.ms)).flatten++((c.distances.map (a1e c.ms)).flatten++((c.waves.map a2c).flatten++((c.offences.map a0j).flatten++
 ((c.categories.map a0t).flatten++((c.prizes.map (a0k (S4 c.distances) (S3 c.categories))).flatten++W5 L c.faults c.fee c.deadline))))))))
theorem a0I {l:List (List UInt8)}(h:a0H l=true):l.all nmB=true/\l.Nodup:=by
 simp only[a0H,f0,j0] at h;exact⟨h.1,h.2.1⟩
theorem a2L {α:Type}{f:α->List UInt8}{l:List α}(h:(l.map f).all nmB=true){x:α}(hx:x∈l):nmB (f x)=true:=n7.1 h _ (v6.2 ⟨x,hx,rfl⟩)
theorem c1K {c:Course}(hf:a6d c=true){L:List BT}(hS:∀l,a8Y l->EvS 0 [] (L++l) c.ties l)(l:List BT):EvR (λk ts=>N2 k ts) (a7D c L++l) c l:=by
 obtain⟨nm,mats,legs,dsts,wavs,offs,cats,przs,ties,f,fee,dl⟩:=c;simp only[a6d,f0] at hf;obtain⟨_,f1,f2,f3,f4,f5,f6,f7,⟨f8,f9⟩,n0,n1,n2,n3,n4,n5⟩:=hf;simp only[F8,a2l,U3,f0] at f8 f9;obtain⟨m1,d1⟩:=a0I n1;obtain⟨m2,d2⟩:=a0I n2;obtain⟨m5,d5⟩:=a0I n5;have m3:=(a0I n3).1;have m4:=(a0I n4).1;have hnm:nmB nm=true:=by
  have:=(a0I n0).1;simpa using this
 dsimp only at f1 f2 f3 f4 f5 f6 f7 m1 m2 m3 m4 m5 d1 d2 d5 hS;obtain⟨ms,hms⟩:∃ms,ms=mats.map (·.name):=⟨_,rfl⟩
 have hlen:(ms.length:Int)=mats.length:=by rw[hms,o9]
 have hld:((S4 dsts).length:Int)=dsts.length:=by rw[o9]
 have hlc:((S3 cats).length:Int)=cats.length:=by rw[o9]
 have e0:∀c:Course,c.mats=mats->c.ms=ms:=λc h=>by rw[hms,<-h]
 have mm:ms.all nmB=true:=by rw[hms];exact m1
 have dd:ms.Nodup:=by rw[hms];exact d1
 have hLL:a7D ⟨nm,mats,legs,dsts,wavs,offs,cats,przs,ties,f,fee,dl⟩ L++l=(1,[99,111,117,114,115,101])::(1,nm)::(5,[123])::(1,[109,97,116,115])::(5,[123])::((mats.map a3N).flatten++((5,[125])::((legs.map (a3K ms)).flatten++((dsts.map (a1e ms)).flatten++((wavs.map a2c).flatten++((offs.map a0j).flatten++
  ((cats.map a0t).flatten++((przs.map (a0k (S4 dsts) (S3 cats))).flatten++(W5 L f fee dl++l))))))))):=by
  rw[hms];simp only[a7D,q8,n9,y8]
 rw[hLL];have w5:E1 [112,114,105,122,101] (W5 L f fee dl++l)=false:=rfl;have w4:E1 [99,97,116,101,103,111,114,121] ((przs.map (a0k (S4 dsts) (S3 cats))).flatten++(W5 L f fee dl++l))=false:=V6 (w:=[112,114,105,122,101]) (by decide) (λx=>⟨_,rfl⟩) rfl;have w3:E1 [111,102,102,101,110,99,101] ((cats.map a0t).flatten++((przs.map (a0k (S4 dsts) (S3 cats))).flatten++(W5 L f fee dl++l)))=false:=V6 (w:=[99,97,116,101,103,111,114,121]) (by decide) (λx=>⟨_,rfl⟩) (V6 (w:=[112,114,105,122,101]) (by decide) (λx=>⟨_,rfl⟩) rfl);have w2:E1 [119,97,118,101] ((offs.map a0j).flatten++((cats.map a0t).flatten++((przs.map (a0k (S4 dsts) (S3 cats))).flatten++(W5 L f fee dl++l))))=false:=
  V6 (w:=[111,102,102,101,110,99,101]) (by decide) (λx=>⟨_,rfl⟩) (V6 (w:=[99,97,116,101,103,111,114,121]) (by decide) (λx=>⟨_,rfl⟩) (V6 (w:=[112,114,105,122,101]) (by decide) (λx=>⟨_,rfl⟩) rfl))
 have w1:E1 [100,105,115,116,97,110,99,101] ((wavs.map a2c).flatten++((offs.map a0j).flatten++((cats.map a0t).flatten++((przs.map (a0k (S4 dsts) (S3 cats))).flatten++(W5 L f fee dl++l)))))=false:=
  V6 (w:=[119,97,118,101]) (by decide) (λx=>⟨_,rfl⟩) (V6 (w:=[111,102,102,101,110,99,101]) (by decide) (λx=>⟨_,rfl⟩) (V6 (w:=[99,97,116,101,103,111,114,121]) (by decide) (λx=>⟨_,rfl⟩) (V6 (w:=[112,114,105,122,101]) (by decide) (λx=>⟨_,rfl⟩) rfl)))
 have w0:E1 [108,101,103] ((dsts.map (a1e ms)).flatten++((wavs.map a2c).flatten++((offs.map a0j).flatten++((cats.map a0t).flatten++((przs.map (a0k (S4 dsts) (S3 cats))).flatten++(W5 L f fee dl++l))))))=false:=
  V6 (w:=[100,105,115,116,97,110,99,101]) (by decide) (λx=>⟨_,rfl⟩) (V6 (w:=[119,97,118,101]) (by decide) (λx=>⟨_,rfl⟩) (V6 (w:=[111,102,102,101,110,99,101]) (by decide) (λx=>⟨_,rfl⟩) (V6 (w:=[99,97,116,101,103,111,114,121]) (by decide) (λx=>⟨_,rfl⟩) (V6 (w:=[112,114,105,122,101]) (by decide) (λx=>⟨_,rfl⟩) rfl))))
 have s0:=a4g (i:=0) (add:=λc x=>{c with legs:=c.legs++[x]}) (L:=a3K ms) (w:=[108,101,103]) rfl (λc=>c.ms=ms) (λc x h=>h) (λx=>⟨_,rfl⟩) legs (λx hx c l hc=>by
  show EvR (λk ts=>(a2E c.ms ts).bind λx ts=> .ok {c with legs:=c.legs++[x]} ts) _ _ _;rw[hc];exact p7 (c1O mm dd (by rw[hlen];exact n7.1 f2 x hx) l) .ok)
 have s1:=a4g (i:=1) (add:=λc x=>{c with distances:=c.distances++[x]}) (L:=a1e ms) (w:=[100,105,115,116,97,110,99,101]) rfl (λc=>c.ms=ms) (λc x h=>h) (λx=>⟨_,rfl⟩) dsts (λx hx c l hc=>by
  show EvR (λk ts=>(X8 c.ms k ts).bind λx ts=> .ok {c with distances:=c.distances++[x]} ts) _ _ _;rw[hc];exact EvR.step (P:=λk ts=>X8 ms k ts) (c1L mm dd (by rw[hlen];exact n7.1 f3 x hx) (a2L m2 hx) l) .ok)
 have s2:=a4g (i:=2) (add:=λc x=>{c with waves:=c.waves++[x]}) (L:=a2c) (w:=[119,97,118,101]) rfl (λc=>True) (λc x h=>h) (λx=>⟨_,rfl⟩) wavs (λx hx c l hc=>by
  show EvR (λk ts=>(a3a ts).bind λx ts=> .ok {c with waves:=c.waves++[x]} ts) _ _ _;exact p7 (c1S (n7.1 f4 x hx) (a2L m3 hx) l) .ok)
 have s3:=a4g (i:=3) (add:=λc x=>{c with offences:=c.offences++[x]}) (L:=a0j) (w:=[111,102,102,101,110,99,101]) rfl (λc=>True) (λc x h=>h) (λx=>⟨_,rfl⟩) offs (λx hx c l hc=>by
  show EvR (λk ts=>(a2P ts).bind λx ts=> .ok {c with offences:=c.offences++[x]} ts) _ _ _;exact p7 (c1P (n7.1 f5 x hx) (a2L m4 hx) l) .ok)
 have s4:=a4g (i:=4) (add:=λc x=>{c with categories:=c.categories++[x]}) (L:=a0t) (w:=[99,97,116,101,103,111,114,121]) rfl (λc=>True) (λc x h=>h) (λx=>⟨_,rfl⟩) cats (λx hx c l hc=>by
  show EvR (λk ts=>(a2t ts).bind λx ts=> .ok {c with categories:=c.categories++[x]} ts) _ _ _;exact p7 (c1J (n7.1 f6 x hx) (a2L m5 hx) l) .ok)
 have s5:=a4g (i:=5) (add:=λc x=>{c with prizes:=c.prizes++[x]}) (L:=a0k (S4 dsts) (S3 cats)) (w:=[112,114,105,122,101]) rfl (λc=>c.distances=dsts/\c.categories=cats) (λc x h=>h) (λx=>⟨_,rfl⟩) przs (λx hx c l hc=>by
  show EvR (λk ts=>(a2R (c.distances.map (·.name)) (c.categories.map (·.name)) ts).bind λx ts=> .ok {c with prizes:=c.prizes++[x]} ts) _ _ _;rw[hc.1,hc.2];exact p7 (c1Q m2 d2 m5 d5 (by rw[hld,hlc];exact n7.1 f7 x hx) l) .ok)
 unfold N2;refine p7 (D9 (.inl rfl)) (p7 (a5v hnm) (p7 (D9 (.inr rfl)) (p7 (D9 (.inl rfl)) (p7 (D9 (.inr rfl)) ?_))));refine EvR.step (P:=λk ts=>H9 k [] ts) (b5k mats [] f1 m1) ?_;rw[y8];have hsec:EvR (λk ts=>G6 k 6 0 {zC with name:=nm,mats:=mats} ts) ((legs.map (a3K ms)).flatten++((dsts.map (a1e ms)).flatten++((wavs.map a2c).flatten++((offs.map a0j).flatten++
  ((cats.map a0t).flatten++((przs.map (a0k (S4 dsts) (S3 cats))).flatten++(W5 L f fee dl++l))))))) {zC with name:=nm,mats:=mats,legs:=legs,distances:=dsts,waves:=wavs,offences:=offs,categories:=cats,prizes:=przs} (W5 L f fee dl++l):=by
  have t0:=s0 {zC with name:=nm,mats:=mats} _ (e0 _ rfl) w0;rw[b5K] at t0;have t1:=s1 {zC with name:=nm,mats:=mats,legs:=legs} _ (e0 _ rfl) w1;rw[b5L] at t1;have t2:=s2 {zC with name:=nm,mats:=mats,legs:=legs,distances:=dsts} _ d9 w2;rw[b5M] at t2;have t3:=s3 {zC with name:=nm,mats:=mats,legs:=legs,distances:=dsts,waves:=wavs} _ d9 w3;rw[b5N] at t3;have t4:=s4 {zC with name:=nm,mats:=mats,legs:=legs,distances:=dsts,waves:=wavs,offences:=offs} _ d9 w4;rw[b5O] at t4;have t5:=s5 {zC with name:=nm,mats:=mats,legs:=legs,distances:=dsts,waves:=wavs,offences:=offs,categories:=cats} _ ⟨rfl,rfl⟩ w5;rw[b5P] at t5;refine EvR.step (P:=λk ts=>G5 0 k {zC with name:=nm,mats:=mats} ts) (Q:=λk c ts=>G6 k 5 1 c ts) t0 ?_;refine EvR.step (P:=λk ts=>G5 1 k {zC with name:=nm,mats:=mats,legs:=legs} ts) (Q:=λk c ts=>G6 k 4 2 c ts) t1 ?_;refine EvR.step (P:=λk ts=>G5 2 k {zC with name:=nm,mats:=mats,legs:=legs,distances:=dsts} ts) (Q:=λk c ts=>G6 k 3 3 c ts) t2 ?_;refine EvR.step (P:=λk ts=>G5 3 k {zC with name:=nm,mats:=mats,legs:=legs,distances:=dsts,waves:=wavs} ts) (Q:=λk c ts=>G6 k 2 4 c ts) t3 ?_;refine EvR.step (P:=λk ts=>G5 4 k {zC with name:=nm,mats:=mats,legs:=legs,distances:=dsts,waves:=wavs,offences:=offs} ts) (Q:=λk c ts=>G6 k 1 5 c ts) t4 ?_;exact EvR.step (P:=λk ts=>G5 5 k {zC with name:=nm,mats:=mats,legs:=legs,distances:=dsts,waves:=wavs,offences:=offs,categories:=cats} ts) (Q:=λk c ts=>G6 k 0 6 c ts) t5 .ok
 refine EvR.step (P:=λk ts=>G6 k 6 0 {zC with name:=nm,mats:=mats} ts) (Q:=λk c ts=>a1k k c ts) hsec ?_;exact c1N hS f8.1 f8.2.1 f9.1 f9.2.1 f8.2.2.1 f8.2.2.2 f9.2.2 l
theorem c4L {src:List UInt8}{l:List BT}{c:Course}(hl:src.length<=65536)(h:Lx src l)(he:EvR (λk ts=>N2 k ts) l c [(6,[])]):a0y src=(c,0,0):=by
 obtain⟨ts',h1,h2⟩:=c6e (P:=λk ts=>N2 k ts) (λts k h=>c4S h) he (h.toks 0) (b6H src hl);obtain⟨a,r,rfl,_⟩:=a0s h1;unfold a0y b3z;rw[h.bads];show b5T zC (N2 FU (toks src 0))=_;rw[h2];rfl
end Go.Proofs.YteillnfhkeebjaaGreatDoor.Dx
