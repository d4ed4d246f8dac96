/- Chapter. -/
import Derived.Test.YteillnfhkeebjaaGreatDoorXy
import Derived.Test.YteillnfhkeebjaaGreatDoorXx
set_option linter.all false
namespace Go.Proofs.YteillnfhkeebjaaGreatDoor.Dx
open Go Go.RowKit Go.Proofs
set_option maxRecDepth 100000
set_option maxHeartbeats 4000000
theorem c9A (b:UInt8):a2K b=true->inB b=true:=a7t (p:=λb=>a2K b=true->inB b=true) (by decide+kernel) b
theorem c9B (b:UInt8):(decide (97<=(b.toNat:Int))&&decide ((b.toNat:Int)<=122))=true->L7 b=true:=a7t (p:=λb=>(decide (97<=(b.toNat:Int))&&decide ((b.toNat:Int)<=122))=true->L7 b=true) (by decide+kernel) b
theorem b9b {s:List UInt8}(h:N3 kw s=true):nmB s=true:=by
 simp only[N3,f0,j0] at h;obtain⟨h1,h2,h3,h4⟩:=h;cases s with
 |nil=>cases h2
 | cons b r=>
   rw[F8,f0] at h3;have e1:a3b (b::r)=true:=by
    show(L7 b&&r.all inB)=true;rw[c9B b h2,W9,n7];exact λx hx=>c9A x (n7.1 h3.2 x hx)
   rw[nmB,e1,h4,r9 (by omega)];rfl
theorem a8f {l:List (List UInt8)}(h:nmL l=true):a0H l=true:=by
 simp only[nmL,f0,j0] at h;simp only[a0H,f0,j0];exact⟨n7.2 λs hs=>b9b (n7.1 h.1 s hs),h.2,F4 _⟩
theorem b0p (ms:List Mat)(i:Int):G1 ms i=atN (ms.map (·.name)) i:=by
 unfold G1 atN;rw[a7e,z7];cases ms[i.toNat]?<;>rfl
theorem c5v (c:Course)(i:Int):a2x c i=atN (S4 c.distances) i:=by
 unfold a2x atN;rw[a7e,z7];cases c.distances[i.toNat]?<;>rfl
theorem d5l (c:Course)(i:Int):a2e c i=a6N (S3 c.categories) i:=by
 unfold a2e a6N atN;by_cases h:0<=i
 . rw[d4 h,d4 h,a7e,z7];cases c.categories[i.toNat]?<;>rfl
 . rw[c8 h,c8 h]
theorem c9Y (p:Part)(h:p.parts≠[]):p.deep=1+Part.deepL p.parts:=by
 rw[Part.deep_eq,c8];cases hp:p.parts with
 |nil=>exact absurd hp h
 |cons a b=>simp
theorem d0b:∀{l:List Part} {p:Part},p∈l->p.deep<=Part.deepL l:=by
 intro l;induction l with
 |nil=>intro p h;cases h
 | cons c l ih=>
   intro p h;simp only[Part.deepL];rcases p8.1 h with rfl|h
   . omega
   . have:=ih h;omega
theorem b9t {m:Nat}:∀(n:Nat) (l:List Part),l≠[]->(∀p∈l,p.good ((m:Int)-1)=true)->Part.deepL l<n->pfB m n l=true
 |0,_,_,_,h=>absurd h (by omega)
 | n +1,l,hne,hg,hd=>by
   rw[pfB,f0];have hl:1<=l.length:=a7g.2 hne;refine⟨r9 ⟨hl,F4 _⟩,n7.2 λp hp=>?_⟩;have hm:=d0b hp;rcases Part.facts (hg p hp) with⟨h1,h2,h3,h4⟩|⟨h1,h2,h3⟩
   . rw[ptF,d4 h1];exact r9 ⟨h2,by omega,by rw[h4];rfl⟩
   . have hgp:=hg p hp;have hne2:p.parts≠[]/\p.laps<=64:=by
      obtain⟨a,b,ps⟩:=p;simp only[Part.good] at hgp;rw[c8 (by dsimp only at h1;omega)] at hgp;simp only[f0,inR,j0] at hgp;refine⟨?_,by dsimp only;omega⟩;intro e;dsimp only at e;rw[e] at hgp;simp at hgp
     have hd2:=c9Y p hne2.1;rw[ptF,c8 (by omega),h2,r9 rfl,W9,f0];refine⟨?_,b9t n p.parts hne2.1 h3 (by omega)⟩;rw[amB,r9 (by omega),r9 (by omega)];rfl
theorem a9U {i:Int}{m:Nat}(h:0<=i/\i<=(m:Int)-1):a2B i m=true:=r9 ⟨h.1,by omega⟩
theorem a1a {i:Int}(h:0<=i/\i<=1125899906842624):amB i=true:=by rw[amB,r9 h.1,r9 h.2];rfl
theorem a2X {i:Int}(h:0<=i/\i<=1099511627776):tmB i=true:=by rw[tmB,r9 h.1,r9 h.2];rfl
theorem c8D (c:Course):c.m=(c.mats.length:Int)-1:=by
 show((c.mats.map Mat.cells).length:Int)-1=_;rw[o9]
theorem c6K {m:Nat}{x:Leg}(h:x.good ((m:Int)-1)=true):a3D m x=true:=by
 simp only[Leg.good,inR,f0,j0] at h;rw[a3D,a9U (by omega),a9U (by omega),a2X (by omega),a2X (by omega)];rfl
theorem c6p {m:Nat}{x:Cutoff}(h:x.good ((m:Int)-1)=true)(hl:x.lap<=256):a3B m x=true:=by
 simp only[Cutoff.good,inR,f0,j0] at h;rw[a3B,a9U (by omega),a1a (by omega),a2X (by omega)];rfl
theorem c6L {o:Offence}(h:o.good=true):a1L o=true:=by
 unfold Offence.good at h;split at h
 . simp only[f0,j0] at h;rename_i ho;rw[a1L,h.1,h.2,ho];decide
 . rename_i ho;have ho:o.out=false:=by simpa using ho
   split at h
   . simp only[inR,f0,j0] at h;rename_i hl;rw[a1L,hl,ho,a2X (by omega),a1a (by decide),r9 (.inr rfl)];rfl
   . simp only[inR,f0,j0] at h;rw[a1L,h.1,ho,a2X (by decide),a1a (by omega),r9 (.inl rfl)];rfl
theorem c6O {n m:Nat}{p:Prize}(h:p.good ((n:Int)-1) ((m:Int)-1)=true):a3E n m p=true:=by
 simp only[Prize.good,inR,f0,j0] at h;rw[a3E,a9U (by omega),a1a (by omega),a1a (by omega),r9 (by omega)];rfl
theorem c6q {c:Course}{d:Distance}(h:d.good ((c.mats.length:Int)-1)=true)(hf:d.fits=true)(hr:a0O c d=true):a3C c.mats.length d=true:=by
 simp only[Distance.good,inR,f0,j0,n7] at h;simp only[Distance.fits,f0,j0] at hf;simp only[a0O,f0,j0,n7] at hr;obtain⟨⟨r1,r2⟩,_,_,r3⟩:=hr;have hne:d.route≠[]:=by
  intro e;rw[e,show Part.exL [] []=[] from rfl] at r1;exact absurd r1 (by decide)
 have hc:d.cutoffs.all (a3B c.mats.length)=true:=n7.2 λx hx=>by
  have h1:=r3 x hx;simp only[a5V,j0] at h1;have h2:=List.count_le_length (a:=x.mat) (l:=Part.exL d.route []);exact c6p (h.2.2.2 x hx) (by omega)
 rw[a3C,b9t 17 d.route hne h.2.2.1 (by omega),hc,r9 (by omega),r9 (by omega),r9 (F4 _)];rfl
theorem c6A {c:Course}(g:Good c):a6d c=true:=by
 have hm:=c8D c;have hn:=g.named;simp only[Course.named,f0] at hn;obtain⟨n0,n1,n2,n3,n4,n5⟩:=hn;have hr:=g.nums.rest;simp only[Course.numsB,inR,f0,j0] at hr;have hf:=g.fits;simp only[Course.fits,f0,n7] at hf;have a1:c.mats.all a9R=true:=n7.2 λx hx=>by
  have:=g.nums.mats x hx;simp only[Mat.good,inR,f0,j0] at this;exact r9 this
 have a2:c.legs.all (a3D c.mats.length)=true:=n7.2 λx hx=>c6K (by rw[<-hm];exact g.nums.legs x hx);have a3:c.distances.all (a3C c.mats.length)=true:=n7.2 λx hx=>c6q (by rw[<-hm];exact g.nums.distances x hx) (hf.2 x hx) (g.routes x hx);have a4:c.waves.all (λw=>tmB w.gun)=true:=n7.2 λx hx=>by
  have:=g.nums.waves x hx;simp only[Wave.good,inR,f0,j0] at this;exact a2X this
 have a5:c.offences.all a1L=true:=n7.2 λx hx=>c6L (g.nums.offences x hx);have a6:c.categories.all a4E=true:=n7.2 λx hx=>by
  have:=g.nums.categories x hx;simp only[Category.good,inR,f0,j0] at this;rw[a4E,a1a (by omega),a1a (by omega)];rfl
 have a7:c.prizes.all (a3E c.distances.length c.categories.length)=true:=n7.2 λx hx=>c6O (g.nums.prizes x hx);have a8:[c.faults.misses,c.faults.strays,c.faults.drift,c.fee].all amB=true:=by
  simp only[F8,a2l,U3];rw[a1a (by omega),a1a (by omega),a1a (by omega),a1a (by omega)];rfl
 have a9:[c.faults.window,c.faults.residual,c.deadline].all tmB=true:=by
  simp only[F8,a2l,U3];rw[a2X (by omega),a2X (by omega),a2X (by omega)];rfl
 have b0:a0H [c.name]=true:=by
  simp only[a0H,f0,j0,F8,a2l,U3];exact⟨b9b n0,by simp,F4 _⟩
 have b9:b7x c=true:=r9 ⟨F4 _,F4 _,F4 _,F4 _,F4 _,F4 _,F4 _⟩;simp only[a6d,b9,a1,a2,a3,a4,a5,a6,a7,a8,a9,b0,a8f n1,a8f n2,a8f n3,a8f n4,a8f n5,Bool.and_self]
theorem TxC.sp {s:List UInt8}{L:List BT}(h:TxC s L):TxC (32::s) L:=λr l hl=>Lx.sp (h r l hl)
theorem TxC.flat {α:Type}{f:α->List UInt8}{g:α->List BT}{xs:List α}(h:∀x∈xs,TxC (f x) (g x)):TxC (xs.flatMap f) (xs.map g).flatten:=by
 rw[List.flatMap_def];exact TxC.all h
theorem c8L {k:Int}(h:1<=k/\k<=3):a6n k=mtW k/\a3b (mtW k)=true:=by
 have:k=1\/k=2\/k=3:=by omega
 rcases this with rfl|rfl|rfl<;>exact⟨rfl,by decide⟩
theorem d3E {k:Int}(h:1<=k/\k<=3):a5o k=tgW k/\a3b (tgW k)=true:=by
 have:k=1\/k=2\/k=3:=by omega
 rcases this with rfl|rfl|rfl<;>exact⟨rfl,by decide⟩
theorem c8I {m:Mat}(hk:a9R m=true)(hn:nmB m.name=true):TxC (S2 m) (a3N m):=λr l h=>by
 have hk:=c8L (a1R hk);have:=Lx.sp (D4 hk.2 (Lx.nm hn Q8 (a3k h)));simpa only[S2,hk.1,a3N,n9,q8,y8] using this
section
variable {c:Course} (hm:c.ms.all nmB=true)
include hm
theorem c8e {x:Leg}(hx:a3D c.ms.length x=true):TxC (k9 (T5 c x)) (a3K c.ms x):=λr l h=>by
 simp only[a3D,f0] at hx;have:=Lx.sp (Lx.sp (D4 (w:=[108,101,103]) (by decide) (Lx.nm (a1D hm hx.1) J6 (Lx.sp (D4 (w:=[116,111]) (by decide) (Lx.nm (a1D hm hx.2.1) J6 (Lx.sp (a3l hx.2.2.1 J6 (c2q (a3l hx.2.2.2 Q8 (a4o h)))))))))));simpa only[k9,T5,b0p,a3K,n9,q8,y8] using this
theorem b9z:∀(n:Nat) (x:List Part) (b:Bool),pfB c.ms.length n x=true->TxC (t8 b (x.map (Part.tx c.mats))) (S6 c.ms n x)
 |0,x,_,h=>by cases h
 | n + 1,x,b,h=>by
   rw[pfB,f0] at h;have key:∀(x:List Part) (b:Bool),x.all (ptF c.ms.length (pfB c.ms.length n))=true->TxC (t8 b (x.map (Part.tx c.mats))) (S6 c.ms (n+1) x):=by
    intro x;induction x with
    |nil=>intro b _;cases b<;>exact TxC.nil
    | cons p x ih=>
      intro b hall;rw[F8,f0] at hall;have h1:TxC (p.tx c.mats) (if p.laps=0 then[(1,atN c.ms p.mat),(5,[59])] else(1,[108,97,112,115])::(2,Lib.itoa p.laps)::(5,[123])::(S6 c.ms n p.parts++[(5,[125])])):=by
       have hq:=hall.1;unfold ptF at hq;by_cases h0:p.laps=0
       . rw[d4 h0] at hq;rw[d4 h0];have hq:=a1R hq;intro r l hr;have:=Lx.nm (a1D hm (r9 ⟨hq.1,hq.2.1⟩)) Q8 (a3k hr);rw[b3B h0,b0p];simpa only[n9,q8,y8] using this
       . rw[c8 h0] at hq;rw[c8 h0];simp only[f0] at hq;have h2:=b9z n p.parts true hq.2.2;intro r l hr;have:=D4 (w:=[108,97,112,115]) (by decide) (a0W hq.2.1 J6 (Lx.sp (a4m (Lx.sp (h2 _ _ (Lx.sp (a4n hr)))))));rw[b3A h0];simpa only[Q1,n9,q8,y8] using this
      have h2:=ih false hall.2;have e:S6 c.ms (n+1) (p::x)=(if p.laps=0 then[(1,atN c.ms p.mat),(5,[59])] else(1,[108,97,112,115])::(2,Lib.itoa p.laps)::(5,[123])::(S6 c.ms n p.parts++[(5,[125])]))++S6 c.ms (n+1) x:=by
       show((p::x).map _).flatten=_;rw[o5,K0];rfl
      rw[e,o5];have h3:=h1.app h2;cases b
      . have:=h3.sp;simpa only[t8,n9,q8,y8] using this
      . exact h3
   exact key x b h.2
theorem c5a {x:Cutoff}(hx:a3B c.ms.length x=true):TxC (a0A c x) (a5U c.ms x):=λr l h=>by
 simp only[a3B,f0] at hx;have:=Lx.sp (D4 (w:=[99,117,116,111,102,102]) (by decide) (Lx.nm (a1D hm hx.1) J6 (Lx.sp (D4 (w:=[108,97,112]) (by decide) (a0W hx.2.1 J6 (Lx.sp (a3l hx.2.2 Q8 (a3k h))))))));simpa only[a0A,b0p,a5U,n9,q8,y8] using this
theorem c6m {e:Int}(he:e<c.ms.length):TxC (a4D c e) (a1f c.ms e):=λr l h=>by
 unfold a4D a1f;by_cases h0:0<=e
 . rw[d4 h0,d4 h0];have:=Lx.sp (D4 (w:=[101,120,116,114,97]) (by decide) (Lx.nm (a1D hm (r9 ⟨h0,he⟩)) Q8 (a3k h)));simpa only[b0p,n9,q8,y8] using this
 . rw[c8 h0,c8 h0];exact h
theorem c5L {d:Distance}(hd:a3C c.ms.length d=true)(hn:nmB d.name=true):TxC (k9 (a1I c d)) (a1e c.ms d):=λr l h=>by
 simp only[a3C,f0,j0] at hd;have hw:=d3E hd.1;have h3:=c6m hm hd.2.1.2 _ _ (Lx.sp (a4n h.nl));have h2:=TxC.flat (λx hx=>c5a hm (n7.1 hd.2.2.2.2 x hx)) _ _ h3;have h1:=b9z hm 17 d.route true hd.2.2.2.1 _ _ h2;have:=Lx.sp (Lx.sp (D4 (w:=[100,105,115,116,97,110,99,101]) (by decide) (Lx.nm hn J6 (Lx.sp (D4 hw.2 (a4m (Lx.sp h1)))))));simpa only[k9,a1I,Q1,hw.1,a1e,n9,q8,y8] using this
end
theorem d5a {w:Wave}(hw:tmB w.gun=true)(hn:nmB w.name=true):TxC (k9 (U1 w)) (a2c w):=λr l h=>by
 have:=Lx.sp (Lx.sp (D4 (w:=[119,97,118,101]) (by decide) (Lx.nm hn J6 (Lx.sp (a3l hw Q8 (a4o h))))));simpa only[k9,U1,a2c,n9,q8,y8] using this
theorem c9L {o:Offence}(ho:a1L o=true)(hn:nmB o.name=true):TxC (k9 (T7 o)) (a0j o):=λr l h=>by
 simp only[a1L,f0] at ho;unfold k9 T7 a4X a0j;by_cases h1:o.out=true
 . rw[d4 h1,d4 h1];have:=Lx.sp (Lx.sp (D4 (w:=[111,102,102,101,110,99,101]) (by decide) (Lx.nm hn J6 (Lx.sp (Lx.word (w:=[111,117,116]) (by decide) Q8 (a4o h))))));simpa only[n9,q8,y8] using this
 . rw [c8 h1,c8 h1];by_cases h2:0<o.laps
   . rw[d4 h2,d4 h2];have:=Lx.sp (Lx.sp (D4 (w:=[111,102,102,101,110,99,101]) (by decide) (Lx.nm hn J6 (Lx.sp (D4 (w:=[108,97,112,115]) (by decide) (a0W ho.2.1 Q8 (a4o h)))))));simpa only[n9,q8,y8] using this
   . rw[c8 h2,c8 h2];have:=Lx.sp (Lx.sp (D4 (w:=[111,102,102,101,110,99,101]) (by decide) (Lx.nm hn J6 (Lx.sp (a3l ho.1 Q8 (a4o h))))));simpa only[n9,q8,y8] using this
theorem c3Y {x:Category}(hx:a4E x=true)(hn:nmB x.name=true):TxC (k9 (T1 x)) (a0t x):=λr l h=>by
 simp only[a4E,f0] at hx;have:=Lx.sp (Lx.sp (D4 (w:=[99,97,116,101,103,111,114,121]) (by decide) (Lx.nm hn J6 (Lx.sp (a0W hx.1 J6 (Lx.sp (D4 (w:=[116,111]) (by decide) (a0W hx.2 Q8 (a4o h)))))))));simpa only[k9,T1,a0t,n9,q8,y8] using this
theorem d0o {c:Course}(hd:(S4 c.distances).all nmB=true)(hc:(S3 c.categories).all nmB=true){p:Prize}(hp:a3E (S4 c.distances).length (S3 c.categories).length p=true):TxC (k9 (S5 c p)) (a0k (S4 c.distances) (S3 c.categories) p):=λr l h=>by
 simp only[a3E,f0,j0] at hp;have:=Lx.sp (Lx.sp (D4 (w:=[112,114,105,122,101]) (by decide) (Lx.nm (a1D hd hp.1) J6 (Lx.sp (Lx.word (d5p hc hp.2.1.2) J6 (Lx.sp (a0W hp.2.2.1 J6 (Lx.sp (a0W hp.2.2.2 Q8 (a4o h))))))))));simpa only[k9,S5,c5v,d5l,a0k,b1n,n9,q8,y8] using this
theorem d3q {c:Course}{L:List BT}(ht:TxC (s7 c.ties) L)(h1:amB c.faults.misses=true)(h2:amB c.faults.strays=true)(h3:tmB c.faults.window=true)(h4:tmB c.faults.residual=true)(h5:amB c.faults.drift=true)(h6:amB c.fee=true)(h7:tmB c.deadline=true):
 TxC (k9 (a3V c)++(k9 (a4F c.faults)++(k9 (a4G c)++[125,10]))) (W5 L c.faults c.fee c.deadline):=λr l h=>by
 have a1:=Lx.sp (Lx.sp (D4 (w:=[112,114,111,116,101,115,116]) (by decide) (D4 (w:=[102,101,101]) (by decide) (a0W h6 J6 (Lx.sp (D4 (w:=[100,101,97,100,108,105,110,101]) (by decide) (a3l h7 Q8 (a3k (Lx.nl (a4n h.nl))))))))));have a2:=D4 (w:=[114,101,115,105,100,117,97,108]) (by decide) (a3l h4 Q8 (a7l (D4 (w:=[100,114,105,102,116]) (by decide) (a0W h5 Q8 (a7l (a4n (Lx.nl a1)))))));have a3:=D4 (w:=[109,105,115,115,101,115]) (by decide) (a0W h1 Q8 (a7l (D4 (w:=[115,116,114,97,121,115]) (by decide) (a0W h2 Q8 (a7l (D4 (w:=[119,105,110,100,111,119]) (by decide) (a3l h3 Q8 (a7l a2))))))));have:=Lx.sp (Lx.sp (D4 (w:=[116,105,101,115]) (by decide) (a4m (Lx.sp (ht _ _ (Lx.sp (a4n (Lx.nl (Lx.sp (Lx.sp (D4 (w:=[102,97,117,108,116,115]) (by decide) (a4m (Lx.sp a3)))))))))))));simpa only[k9,a3V,a4F,a4G,W5,n9,q8,y8] using this
theorem c4Y {c:Course}(hf:a6d c=true){L:List BT}(ht:TxC (s7 c.ties) L):TxC (O5 c) (a7D c L):=λr l h=>by
 simp only[a6d,f0] at hf;obtain⟨_,f1,f2,f3,f4,f5,f6,f7,⟨f8,f9⟩,n0,n1,n2,n3,n4,n5⟩:=hf;simp only[F8,a2l,U3,f0] at f8 f9;have m1:=(a0I n1).1;have m2:=(a0I n2).1;have m5:=(a0I n5).1;have hlen:(c.ms.length:Int)=c.mats.length:=by rw[o9]
 have hld:((S4 c.distances).length:Int)=c.distances.length:=by rw[o9]
 have hlc:((S3 c.categories).length:Int)=c.categories.length:=by rw[o9]
 have hnm:nmB c.name=true:=by
  have:=(a0I n0).1;simpa using this
 have a0:=d3q ht f8.1 f8.2.1 f9.1 f9.2.1 f8.2.2.1 f8.2.2.2 f9.2.2 _ _ h;have a1:=TxC.flat (f:=λx=>k9 (S5 c x)) (g:=a0k (S4 c.distances) (S3 c.categories)) (λx hx=>d0o m2 m5 (by rw[hld,hlc];exact n7.1 f7 x hx)) _ _ a0;have a2:=TxC.flat (f:=λx=>k9 (T1 x)) (g:=a0t) (λx hx=>c3Y (n7.1 f6 x hx) (a2L m5 hx)) _ _ a1;have a3:=TxC.flat (f:=λx=>k9 (T7 x)) (g:=a0j) (λx hx=>c9L (n7.1 f5 x hx) (a2L (a0I n4).1 hx)) _ _ a2;have a4:=TxC.flat (f:=λx=>k9 (U1 x)) (g:=a2c) (λx hx=>d5a (n7.1 f4 x hx) (a2L (a0I n3).1 hx)) _ _ a3;have a5:=TxC.flat (f:=λx=>k9 (a1I c x)) (g:=a1e c.ms) (λx hx=>c5L m1 (by rw[hlen];exact n7.1 f3 x hx) (a2L m2 hx)) _ _ a4;have a6:=TxC.flat (f:=λx=>k9 (T5 c x)) (g:=a3K c.ms) (λx hx=>c8e m1 (by rw[hlen];exact n7.1 f2 x hx)) _ _ a5;have a7:=TxC.flat (f:=S2) (g:=a3N) (λx hx=>c8I (n7.1 f1 x hx) (a2L m1 hx)) _ _ (Lx.sp (a4n a6.nl));have:=D4 (w:=[99,111,117,114,115,101]) (by decide) (Lx.nm hnm J6 (Lx.sp (a4m (Lx.nl (Lx.sp (Lx.sp (D4 (w:=[109,97,116,115]) (by decide) (a4m a7))))))));have e:O5 c++r=[99,111,117,114,115,101,32]++(c.name++([32,123,10,32,32,109,97,116,115,32,123]++(c.mats.flatMap S2++([32,125,10]++(c.legs.flatMap (λx=>k9 (T5 c x))++(c.distances.flatMap (λx=>k9 (a1I c x))++(c.waves.flatMap (λx=>k9 (U1 x))++(c.offences.flatMap (λx=>k9 (T7 x))++
  (c.categories.flatMap (λx=>k9 (T1 x))++(c.prizes.flatMap (λx=>k9 (S5 c x))++((k9 (a3V c)++(k9 (a4F c.faults)++(k9 (a4G c)++[125,10])))++r))))))))))):=by
  simp only[O5,a0c,a6q,List.flatMap_append,a2n,List.flatMap_nil,List.flatMap_map,k9,n9,q8,y8,R4]
 rw[e];simpa only[a7D,n9,q8,y8] using this
theorem c4N {c:Course}(g:Good c)(hl:(O5 c).length<=65536):a0y (O5 c)=(c.cores,0,0):=by
 obtain⟨hne,hv,hd,hok,_,_⟩:=c0J g.ties;obtain⟨L,h1,h2,_⟩:=b4b c.ties true λs hs=>b4c s (hv s hs) (b3R hs hok);have hf:=c6A g;have hx:=c4Y hf (L:=L) h1 [] [(6,[])] Lx.nil;rw[R4] at hx;refine c4L hl hx (c1K (c:=c.cores) (L:=L) hf (λl he=>?_) [(6,[])]);have:=h2 0 l [] (λs hs=>by have:=b3Q hs;omega) he (by simpa using hne);exact this
theorem c4J {c:Course}(h:N1 c=0):N1 c.cores=0:=by
 have hs:c.cores.fits=c.fits/\c.cores.named=c.named/\c.cores.nums=c.nums/\(λd=>a0O c.cores d)=λd=>a0O c d:=⟨rfl,rfl,rfl,rfl⟩
 unfold N1 at h⊢;rw[hs.1,hs.2.1,hs.2.2.1];split at h;· cases h
 split at h;· cases h
 split at h;· cases h
 rename_i h1 h2 h3;rw[c8 h1,c8 h2,c8 h3];split at h
 case isFalse=>exact absurd h ‹_›
 rename_i h4;have h5:K6 c.cores.ties=0:=d3y h4;rw[d4 h5];exact h
theorem b6J {c:Course}(h:L3 c=0):N1 c=0/\(O5 c).length<=65536/\U9 c=O5 c:=by
 unfold L3 at h;split at h
 . rename_i h0;split at h
   . rename_i hl;exact⟨h0,hl,by rw[U9,d4 ⟨h0,hl⟩]⟩
   . cases h
 . exact absurd h ‹_›
theorem b6I {c:Course}(h:L3 c≠0):U9 c=[]:=by
 rw[U9,c8];rintro⟨h0,hl⟩;exact h (by rw[L3,d4 h0,d4 hl])
theorem b6G {c:Course}(h:L3 c=0):L3 c.cores=0/\U9 c.cores=U9 c:=by
 obtain⟨h0,hl,hs⟩:=b6J h;have h1:=c4J h0;have ht:=c4M c;refine⟨by rw[L3,d4 h1,ht,d4 hl],?_⟩;rw[hs,U9,ht,d4 ⟨h1,hl⟩]
set_option maxHeartbeats 16000000
theorem d2p {c:Course}(h:c.small):c.cores.small:=by
 obtain⟨h1,h2,h3,h4,h5,h6,h7,⟨h8,h8b⟩,h9,h10⟩:=h;refine⟨h1,h2,h3,h4,h5,h6,h7,⟨by rw[show c.cores.ties=c.ties.map Step.cores from rfl,o9];exact h8,λs hs=>?_⟩,h9,h10⟩;obtain⟨p,hp,rfl⟩:=v6.1 (show s∈c.ties.map Step.cores from hs);exact b3P p (h8b p hp)
theorem c9X {c:Course}(hs:c.small)(h:L3 c=0):Mt 9 [.sl (byteCells (U9 c))] λd=>d= .tup [c.cores.d,iD 0,iD 0]:=by
 obtain⟨h0,hl,e⟩:=b6J h;have:=c1H c3S (O5 c) hl;rw[c4N (b7R hs h0) hl] at this;rw[e];exact this
theorem d0i {c:Course}(hs:c.small)(h:L3 c=0):Mt 7 [c.cores.d] λd=>d= .tup [.sl (byteCells (U9 c)),iD 0]:=by
 have:=b1x c.cores (d2p hs);rw[(b6G h).1,(b6G h).2] at this;exact this
theorem c4P {c:Course}(h:L3 c≠0):L3 c=N1 c\/(L3 c=2/\N1 c=0):=by
 unfold L3 at h⊢;split
 . rename_i h0;rw[d4 h0] at h;split
   . rename_i hl;rw[d4 hl] at h;exact absurd rfl h
   . exact .inr ⟨rfl,h0⟩
 . exact .inl rfl
theorem c1U (c:Course)(hc:c.small):Mt 3 [c.d] λr=>r=bD true:=by
 refine En {} Tryz.func3 Tryz.ntmps3 λ_ _ _ _ _=>?_;refine Kw ?_;repeat'((first|(intro hlq;try simp only[SL] at hlq)|refine Meets.k (sane8_meets.bl) ?_|(refine Meets.mono (c1X c hc) ?_;rintro _ ⟨_,rfl⟩)|refine K9 ?_|((refine Kh (λhb=>?_) λhb=>?_)<;>try simp only[BL] at hb)|refine K8 ?_)<;>refine Kw ?_)
 . cases hb
 . exact⟨rfl⟩
 repeat'((first|(intro hlq;try simp only[SL] at hlq)|refine Meets.k (b1x c hc) ?_|refine K9 ?_|((refine Kh (λhb=>?_) λhb=>?_)<;>try simp only[BL] at hb)|refine K8 ?_)<;>refine Kw ?_)
 . have h0:=‹L3 c≠0›;have hn:=b6I h0;have he:=c4P h0;repeat'((first|(intro hlq;try simp only[SL] at hlq)|refine Meets.k (b5f c hc) ?_|refine K9 ?_|((refine Kh (λhb=>?_) λhb=>?_)<;>try simp only[BL] at hb)|refine K8 ?_)<;>refine Kw ?_)
   . exact⟨rfl⟩
   . rcases he with he|he
     . exact absurd he (by assumption)
     . exact⟨d6 bD (r9 he.2)⟩
   . rcases he with he|he
     . exact absurd he (by assumption)
     . exact absurd he.1 hb
 . have hn:=b6I ‹L3 c≠0›;rw[hn] at hb;exact absurd rfl hb
 . have h0:L3 c=0:=Classical.not_not.1 hb;repeat'((first|(intro hlq;try simp only[SL] at hlq)|refine Meets.k (c9X hc h0) ?_|refine Meets.k (d0i hc h0) ?_|refine K9 ?_|((refine Kh (λhb=>?_) λhb=>?_)<;>try simp only[BL] at hb)|refine K8 ?_)<;>refine Kw ?_)
   refine Dr {} [.p 0, .p 1, .p 2, .p 3, .p 4, .s 5 [4,2,1,0], .s 6 [3], .p 7, .p 8, .p 9, .p 10, .p 11, .p 12, .p 13, .p 14, .p 15, .p 16, .p 17, .p 18, .p 19] ?_;refine Kw ?_;repeat'((first|(intro hlq;try simp only[SL] at hlq)|refine Meets.k (c1E c hc) ?_|refine Meets.k (b1F c.cores c.cores) ?_|refine⟨U9 c,rfl,?_⟩|refine K9 ?_|((refine Kh (λhb=>?_) λhb=>?_)<;>try simp only[BL] at hb)|refine K8 ?_)<;>refine Kw ?_)
   . exact⟨d6 bD (r9 rfl)⟩
   . exact absurd d9 hb
   . exact absurd rfl (sameB_niff.1 hb)
   . exact absurd d9 hb
end Go.Proofs.YteillnfhkeebjaaGreatDoor.Dx
