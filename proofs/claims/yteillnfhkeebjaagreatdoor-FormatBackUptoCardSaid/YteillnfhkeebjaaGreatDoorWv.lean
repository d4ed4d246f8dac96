/- Is. -/
import Derived.Test.YteillnfhkeebjaaGreatDoorWu
set_option linter.all false
namespace Go.Proofs.YteillnfhkeebjaaGreatDoor.Dx
open Go Go.RowKit
set_option maxRecDepth 100000
set_option maxHeartbeats 16000000
def N1 (c:Course):Int:=if c.fits=false then 2 else if c.named=false then 70 else if c.nums=false then 71 else if K6 c.ties=0 then(if c.distances.all (a0O c) then 0 else 72) else K6 c.ties
theorem c4H (c:Course)(d:Distance)(hc:c.small)(hn:NumsOk c)(hd:d∈c.distances):Mt 44 [d.d, .ptr c.cells 0, .ptr [.mp c.legMap] 0] λr=>r=bD (a0O c d):=by
 refine En {} Tryz.func44 Tryz.ntmps44 λ_ _ _ _ _=>?_;refine Kw ?_;refine Meets.k (c7C c d hc hn hd) ?_;refine Kw ?_;exact⟨rfl⟩
theorem b5f (c:Course)(hc:c.small):Mt 8 [c.d] λr=>r=iD (N1 c):=by
 refine En {} Tryz.func8 Tryz.ntmps8 λ_ _ _ _ _=>?_;refine Kw ?_;repeat'((first|(intro hlq;try simp only[SL] at hlq)|refine Meets.k (c6z c hc.route) ?_|refine Meets.k (c9s c hc) ?_|refine Meets.k (c9K c hc) ?_|refine Meets.k (c0G c.ties hc.ties.1 hc.ties.2) ?_|((refine Kh (λhb=>?_) λhb=>?_)<;>try simp only[BL] at hb)|refine K8 ?_)<;>refine Kw ?_)
 . exact⟨d6 iD (by rw[N1,d4 (by assumption)])⟩
 . exact⟨d6 iD (by rw[N1,c8 (by simp[*]),d4 (by assumption)])⟩
 . exact⟨d6 iD (by rw[N1,c8 (by simp[*]),c8 (by simp[*]),d4 (by assumption)])⟩
 . exact⟨d6 iD (by rw[N1,c8 (by simp[*]),c8 (by simp[*]),c8 (by simp[*]),c8 (by assumption)])⟩
 have hE:N1 c=if c.distances.all (a0O c) then 0 else 72:=by
  rw[N1,c8 (by simp[*]),c8 (by simp[*]),c8 (by simp[*]),d4 (by simpa using (by assumption:¬K6 c.ties≠0))]
 have hn:NumsOk c:=(b9j c).1 (by assumption);have hll:=hc.legs;have hkey:∀x∈c.legs.map Leg.key,U5 2 x:=by
  intro k hk;obtain⟨x,_,rfl⟩:=v6.1 hk;exact⟨[x.src,x.dst],rfl,rfl⟩
 refine o4 tok {} [] (X:=Nat) (λi=>[(28,iB i)]) (λi=>[(24, .mp (J9 ((c.legs.map Leg.key).take i)))]) [5] (λi=>i<=c.legs.length) (λi=>c.legs.length-i) 0 ?_;refine Kw ?_;refine d8 ?_ ⟨by omega,λi hi=>?_⟩
 . exact Kr
 refine Kw ?_;refine⟨λh1=>?_,λh1=>?_⟩<;>(try simp only[BL] at h1)<;>refine Kw ?_
 . have h1':i<c.legs.length:=by omega
   repeat'((first|(intro hlq;try simp only[SL] at hlq)|refine Ka ?_|refine Kb ?_|refine Kc (hd:=rfl) (e:=?_)|refine Kc (hd:=Leg.cells_eq _) (e:=?_)|refine Kd (e:=?_)|refine Kl rfl ?_|fail)<;>refine Kw ?_)
   refine⟨⟨hkey c.legs[i].key (v6.2 ⟨_,q7 h1',rfl⟩),b0d λk hk=>hkey k (Q5 hk)⟩,?_⟩;rw[show H5 (J9 (List.take i (List.map Leg.key c.legs))) c.legs[i].key (bD true)=J9 (List.take (i+1) (List.map Leg.key c.legs)) from by
    rw[L1 (by simpa using h1'),a7V,a3i]]
   refine Kw ?_;repeat'((first|(intro hlq;try simp only[SL] at hlq)|refine K8 ?_)<;>refine Kw ?_)
   refine⟨⟨i+1,?_,by omega,by omega⟩⟩;repeat'(first|exact d9|exact rfl|refine d8 ?_ ?_)
 have e:(c.legs.map Leg.key).take i=c.legs.map Leg.key:=y6 (by simp;omega);rw[e];refine Meets.k (b5U c.distances 44 [] [.ptr c.cells 0, .ptr [.mp c.legMap] 0] (a0O c) λx hx=>c4H c x hc hn hx) ?_;refine Kw ?_;rw[hE];repeat'((first|(intro hlq;try simp only[SL] at hlq)|((refine Kh (λhb=>?_) λhb=>?_)<;>try simp only[BL] at hb)|refine K8 ?_)<;>refine Kw ?_)
 all_goals exact⟨d6 iD (by simp only[*];simp)⟩
def c0:Cond:=⟨0,0,0,[]⟩
theorem c1X (c:Course)(hc:c.small):Mt 6 [c.d] λr=>∃b,r=bD b:=by
 obtain⟨h1,h2,h3,h4,h5,h6,h7,h8,h9,h10⟩:=hc;refine En {} Tryz.func6 Tryz.ntmps6 λ_ _ _ _ _=>?_;refine Kw ?_;repeat'((first|(intro hlq;try simp only[SL] at hlq)|refine K8 ?_)<;>refine Kw ?_)
 refine o4 tok {} [] (X:=Nat×Int) (λx=>[(4,iB x.1),(3,iB x.2)]) (λ_=>[]) [] (λx=>x.1<=c.distances.length/\0<=x.2/\x.2<=100000000) (λx=>c.distances.length-x.1) (0,((((((((c.mats.map Mat.cells).length:Int)+(c.legs.map Leg.cells).length)+(c.distances.map Distance.cells).length)+(c.waves.map Wave.cells).length)+(c.offences.map Offence.cells).length)+(c.categories.map Category.cells).length)+(c.prizes.map Prize.cells).length)) ?_;refine Kw ?_;refine d8 ?_ ⟨⟨by omega,by(try simp only[o9]);omega,by(try simp only[o9]);omega⟩,λx hΦ=>?_⟩
 . exact Kr
 obtain⟨i,m⟩:=x;obtain⟨hi,hm⟩:=hΦ;dsimp only at hi hm;refine Kw ?_;repeat'((first|(intro hlq;try simp only[SL] at hlq)|((refine Kh (λhb=>?_) λhb=>?_)<;>try simp only[BL] at hb)|refine K8 ?_)<;>refine Kw ?_)
 . have h1':i<c.distances.length:=by(try dsimp only at *);(try simp only[o9] at *);omega
   have e1:=h9 _ (q7 h1');have e2:=h10 _ (q7 h1');refine Dr {} [.p 0, .p 1, .p 2, .p 3, .p 4, .p 5, .p 6, .p 7, .p 8, .p 9, .p 10, .p 11, .p 12, .p 13, .p 14, .s 15 [14,13,12,10,11,9], .p 16, .p 17] ?_;refine Kw ?_;repeat'((first|(intro hlq;try simp only[SL] at hlq)|refine Meets.k (b9H c.distances[i].route e1) ?_|refine Meets.k (b9J c.distances[i].route 17 (by omega) e1) ?_|((refine Kh (λhb=>?_) λhb=>?_)<;>try simp only[BL] at hb)|refine Ka ?_|refine Kb ?_|refine Kc (hd:=rfl) (e:=?_)|refine Kc (hd:=Distance.cells_eq _) (e:=?_)|refine Kd (e:=?_)|refine Kl rfl ?_|fail)<;>refine Kw ?_)
   all_goals first
    |exact⟨⟨_,rfl⟩⟩
    | (refine⟨⟨(i+1,(m+((c.distances[i].cutoffs.map Cutoff.cells).length:Int))+min (Part.cntL c.distances[i].route:Int) 257),?_,⟨by(try dsimp only at *);omega,?_⟩,by(try dsimp only at *);omega⟩⟩
       . exact Kr
       (try dsimp only at *);(try simp only[o9] at *);omega)
 all_goals
  repeat'((first|(intro hlq;try simp only[SL] at hlq)|(refine Meets.mono (c1Y c.ties) ?_;rintro _ ⟨_,rfl⟩)|((refine Kh (λhb=>?_) λhb=>?_)<;>try simp only[BL] at hb)|refine K8 ?_)<;>refine Kw ?_)
  all_goals exact⟨⟨_,rfl⟩⟩
theorem Meets.bl {P:Program}{f:FuncId}{ds:List D}{b:Bool}(h:Meets P f ds λd=>d=bD b):Meets P f ds λd=>d= .bl b:=by
 refine⟨⟨h.out.fn,λγ V W xs h1 h2 h3 h4=>(h.out.run γ V W xs h1 h2 h3 h4).mono ?_⟩⟩;rintro e W' ⟨γ',V',o,O',a1,a2,a3,a4,a5,a6,a7,a8,d,rfl,rfl,rfl⟩;refine⟨γ',V',_,[],?_,a2,a3,a4,a5,a6,a7,a8, .bl b,rfl,rfl,rfl⟩;cases e with
 | returned v=>
   obtain⟨rfl,_⟩:=Rep.v_inv (show Rep V' v (.v (.bool b)) from a1);exact Rep.bl b
 |_=>exact a1
theorem d1Q:shp T 3=some (.i .i64):=rfl
theorem d1U:shp T 4=some .b:=rfl
theorem d2f:shp T 9=some .s:=rfl
theorem d1V:shp T 47=some (.st [3,3,3,45]):=rfl
theorem d1T:shp T 45=some (.sl 47):=rfl
theorem d2e:shp T 75=some (.st [3,3,47,29,29]):=rfl
theorem b3W:shp T 29=some (.sl 75):=rfl
theorem d1H:shp T 150=some (.st [3,3,80]):=rfl
theorem c0k:shp T 80=some (.sl 150):=rfl
theorem d1Y:shp T 94=some (.st [9,3]):=rfl
theorem d1Z:shp T 96=some (.st [3,3,3,3]):=rfl
theorem d2a:shp T 78=some (.st [3,3,3]):=rfl
theorem d1W:shp T 79=some (.sl 78):=rfl
theorem d1X:shp T 82=some (.st [9,80,3,79,3]):=rfl
theorem d2b:shp T 107=some (.st [3,3,3,3]):=rfl
theorem d2c:shp T 102=some (.st [9,3,3,4]):=rfl
theorem d2d:shp T 100=some (.st [9,3]):=rfl
theorem d1I:shp T 105=some (.st [9,3,3]):=rfl
theorem d1R:shp T 31=some (.st [3,3,3,3,3]):=rfl
theorem d1S:shp T 33=some (.st [9,22,23,24,25,26,27,28,29,31,3,3]):=rfl
theorem d1J:shp T 22=some (.sl 94):=rfl
theorem d1K:shp T 23=some (.sl 96):=rfl
theorem d1L:shp T 24=some (.sl 82):=rfl
theorem d1M:shp T 25=some (.sl 100):=rfl
theorem d1N:shp T 26=some (.sl 102):=rfl
theorem d1O:shp T 27=some (.sl 105):=rfl
theorem d1P:shp T 28=some (.sl 107):=rfl
theorem c4k:a7B T [3,4,9,22,23,24,25,26,27,28,29,31,33,45,47,49,80,79,82,94,96,78,107,102,100,75,150,105]=true:=rfl
theorem E5 {n:Nat}{ds:List D}{m:Nat}(h:TyD T n 3 ds m):∃i,ds=[iD i]:=h.int_ d1Q
theorem d2R {n:Nat}{ds:List D}{m:Nat}(h:TyD T n 4 ds m):∃b,ds=[bD b]:=h.bool_ d1U
theorem a6G {n:Nat}{ds:List D}{m:Nat}(h:TyD T n 9 ds m):∃s:List UInt8,ds=[.str s]:=by
 obtain⟨s,hs,_⟩:=h.str_ d2f;exact⟨s,hs⟩
def OkB {α:Type}(p:α->Prop)(x:α)(m:Nat):Prop:=m<=1048576->p x
theorem ListOf.ok {α:Type}{p:α->Prop}{l:List α}{m:Nat}(h:ListOf (OkB p) l m)(hm:m<=1048576):l.length<=1048576/\∀x∈l,p x:=
 ⟨by have:=h.len;omega,λx hx=>by obtain⟨m',h1,h2⟩:=h.all x hx;exact h2 (by omega)⟩
theorem d0L:∀(n:Nat) (ds:List D) (m:Nat),TyD T n 47 ds m->∃c:Cond,ds=c.cells/\OkB Cond.ok c m:=by
 intro n;induction n using Nat.strongRecOn with
 | ind n IH=>
   intro ds m h;obtain⟨k,rfl,xs,ms,rfl,h,hs⟩:=h.st_ d1V;obtain⟨x1,xs,m1,ms,rfl,rfl,h1,h⟩:=v8 h;obtain⟨x2,xs,m2,ms,rfl,rfl,h2,h⟩:=v8 h;obtain⟨x3,xs,m3,ms,rfl,rfl,h3,h⟩:=v8 h;obtain⟨x4,xs,m4,ms,rfl,rfl,h4,h⟩:=v8 h;obtain⟨rfl,rfl⟩:=a0m h;obtain⟨i1,rfl⟩:=E5 h1;obtain⟨i2,rfl⟩:=E5 h2;obtain⟨i3,rfl⟩:=E5 h3;obtain⟨l,rfl,hl⟩:=h4.sl_ d1T Cond.cells (OkB Cond.ok) (λn' ds m hn h=>IH n' (by omega) ds m h);simp only[Q6,a4l] at hs;refine⟨⟨i1,i2,i3,l⟩,by simp[Cond.cells_eq],λhm=>?_⟩;obtain⟨k1,k2⟩:=hl.ok (by omega);exact⟨k1,Cond.okL_iff.2 k2⟩
theorem d0M:∀(n:Nat) (ds:List D) (m:Nat),TyD T n 75 ds m->∃c:Step,ds=c.cells/\OkB Step.ok c m:=by
 intro n;induction n using Nat.strongRecOn with
 | ind n IH=>
   intro ds m h;obtain⟨k,rfl,xs,ms,rfl,h,hs⟩:=h.st_ d2e;obtain⟨x1,xs,m1,ms,rfl,rfl,h1,h⟩:=v8 h;obtain⟨x2,xs,m2,ms,rfl,rfl,h2,h⟩:=v8 h;obtain⟨x3,xs,m3,ms,rfl,rfl,h3,h⟩:=v8 h;obtain⟨x4,xs,m4,ms,rfl,rfl,h4,h⟩:=v8 h;obtain⟨x5,xs,m5,ms,rfl,rfl,h5,h⟩:=v8 h;obtain⟨rfl,rfl⟩:=a0m h;obtain⟨i1,rfl⟩:=E5 h1;obtain⟨i2,rfl⟩:=E5 h2;obtain⟨c,rfl,hc⟩:=d0L _ _ _ h3;obtain⟨l,rfl,hl⟩:=h4.sl_ b3W Step.cells (OkB Step.ok) (λn' ds m hn h=>IH n' (by omega) ds m h);obtain⟨l',rfl,hl'⟩:=h5.sl_ b3W Step.cells (OkB Step.ok) (λn' ds m hn h=>IH n' (by omega) ds m h);simp only[Q6,a4l] at hs;refine⟨⟨i1,i2,c,l,l'⟩,by simp[Step.cells_eq,Cond.cells_eq],λhm=>?_⟩;obtain⟨k1,k2⟩:=hl.ok (by omega);obtain⟨k3,k4⟩:=hl'.ok (by omega);exact⟨hc (by omega),⟨k1,Step.okL_iff.2 k2⟩,k3,Step.okL_iff.2 k4⟩
theorem b6y {l:List Part}{m:Nat}(h:ListOf (λp m=>Part.cnt p<=m) l m):Part.cntL l<m:=by
 obtain⟨ms,h1,h2⟩:=h.sums;suffices Part.cntL l<=ms.sum by omega
 clear h2 h;induction l generalizing ms with
 |nil=>simp[Part.cntL]
 | cons x l ih=>
   cases ms with
   |nil=>have:=h1.len;simp at this
   | cons y ys=>
     have a:=h1.get 0 x y rfl rfl;have b:=ih ys ⟨by have:=h1.len;simpa using this,λi a b ha hb=>h1.get (i+1) a b (by simpa using ha) (by simpa using hb)⟩;simp only[Part.cntL,Q6];omega
theorem d3a:∀(n:Nat) (ds:List D) (m:Nat),TyD T n 150 ds m->∃c:Part,ds=c.cells/\Part.cnt c<=m:=by
 intro n;induction n using Nat.strongRecOn with
 | ind n IH=>
   intro ds m h;obtain⟨k,rfl,xs,ms,rfl,h,hs⟩:=h.st_ d1H;obtain⟨x1,xs,m1,ms,rfl,rfl,h1,h⟩:=v8 h;obtain⟨x2,xs,m2,ms,rfl,rfl,h2,h⟩:=v8 h;obtain⟨x3,xs,m3,ms,rfl,rfl,h3,h⟩:=v8 h;obtain⟨rfl,rfl⟩:=a0m h;obtain⟨i1,rfl⟩:=E5 h1;obtain⟨i2,rfl⟩:=E5 h2;obtain⟨l,rfl,hl⟩:=h3.sl_ c0k Part.cells (λp m=>Part.cnt p<=m) (λn' ds m hn h=>IH n' (by omega) ds m h);simp only[Q6,a4l] at hs;refine⟨⟨i1,i2,l⟩,by simp[Part.cells_eq],?_⟩;have:=b6y hl;rw[Part.cnt];omega
def NoQ {α:Type}(_:α)(_:Nat):Prop:=True
theorem d2Y (n:Nat)(ds:List D)(m:Nat)(h:TyD T n 94 ds m):∃x:Mat,ds=x.cells/\NoQ x m:=by
 obtain⟨k,rfl,xs,ms,rfl,h,hs⟩:=h.st_ d1Y;obtain⟨x1,xs,m1,ms,rfl,rfl,h1,h⟩:=v8 h;obtain⟨x2,xs,m2,ms,rfl,rfl,h2,h⟩:=v8 h;obtain⟨rfl,rfl⟩:=a0m h;obtain⟨i1,rfl⟩:=a6G h1;obtain⟨i2,rfl⟩:=E5 h2;exact⟨⟨i1,i2⟩,rfl,trivial⟩
theorem d3c (n:Nat)(ds:List D)(m:Nat)(h:TyD T n 100 ds m):∃x:Wave,ds=x.cells/\NoQ x m:=by
 obtain⟨k,rfl,xs,ms,rfl,h,hs⟩:=h.st_ d2d;obtain⟨x1,xs,m1,ms,rfl,rfl,h1,h⟩:=v8 h;obtain⟨x2,xs,m2,ms,rfl,rfl,h2,h⟩:=v8 h;obtain⟨rfl,rfl⟩:=a0m h;obtain⟨i1,rfl⟩:=a6G h1;obtain⟨i2,rfl⟩:=E5 h2;exact⟨⟨i1,i2⟩,rfl,trivial⟩
theorem d2S (n:Nat)(ds:List D)(m:Nat)(h:TyD T n 105 ds m):∃x:Category,ds=x.cells/\NoQ x m:=by
 obtain⟨k,rfl,xs,ms,rfl,h,hs⟩:=h.st_ d1I;obtain⟨x1,xs,m1,ms,rfl,rfl,h1,h⟩:=v8 h;obtain⟨x2,xs,m2,ms,rfl,rfl,h2,h⟩:=v8 h;obtain⟨x3,xs,m3,ms,rfl,rfl,h3,h⟩:=v8 h;obtain⟨rfl,rfl⟩:=a0m h;obtain⟨i1,rfl⟩:=a6G h1;obtain⟨i2,rfl⟩:=E5 h2;obtain⟨i3,rfl⟩:=E5 h3;exact⟨⟨i1,i2,i3⟩,rfl,trivial⟩
theorem d2V (n:Nat)(ds:List D)(m:Nat)(h:TyD T n 78 ds m):∃x:Cutoff,ds=x.cells/\NoQ x m:=by
 obtain⟨k,rfl,xs,ms,rfl,h,hs⟩:=h.st_ d2a;obtain⟨x1,xs,m1,ms,rfl,rfl,h1,h⟩:=v8 h;obtain⟨x2,xs,m2,ms,rfl,rfl,h2,h⟩:=v8 h;obtain⟨x3,xs,m3,ms,rfl,rfl,h3,h⟩:=v8 h;obtain⟨rfl,rfl⟩:=a0m h;obtain⟨i1,rfl⟩:=E5 h1;obtain⟨i2,rfl⟩:=E5 h2;obtain⟨i3,rfl⟩:=E5 h3;exact⟨⟨i1,i2,i3⟩,rfl,trivial⟩
theorem d2X (n:Nat)(ds:List D)(m:Nat)(h:TyD T n 96 ds m):∃x:Leg,ds=x.cells/\NoQ x m:=by
 obtain⟨k,rfl,xs,ms,rfl,h,hs⟩:=h.st_ d1Z;obtain⟨x1,xs,m1,ms,rfl,rfl,h1,h⟩:=v8 h;obtain⟨x2,xs,m2,ms,rfl,rfl,h2,h⟩:=v8 h;obtain⟨x3,xs,m3,ms,rfl,rfl,h3,h⟩:=v8 h;obtain⟨x4,xs,m4,ms,rfl,rfl,h4,h⟩:=v8 h;obtain⟨rfl,rfl⟩:=a0m h;obtain⟨i1,rfl⟩:=E5 h1;obtain⟨i2,rfl⟩:=E5 h2;obtain⟨i3,rfl⟩:=E5 h3;obtain⟨i4,rfl⟩:=E5 h4;exact⟨⟨i1,i2,i3,i4⟩,rfl,trivial⟩
theorem d3b (n:Nat)(ds:List D)(m:Nat)(h:TyD T n 107 ds m):∃x:Prize,ds=x.cells/\NoQ x m:=by
 obtain⟨k,rfl,xs,ms,rfl,h,hs⟩:=h.st_ d2b;obtain⟨x1,xs,m1,ms,rfl,rfl,h1,h⟩:=v8 h;obtain⟨x2,xs,m2,ms,rfl,rfl,h2,h⟩:=v8 h;obtain⟨x3,xs,m3,ms,rfl,rfl,h3,h⟩:=v8 h;obtain⟨x4,xs,m4,ms,rfl,rfl,h4,h⟩:=v8 h;obtain⟨rfl,rfl⟩:=a0m h;obtain⟨i1,rfl⟩:=E5 h1;obtain⟨i2,rfl⟩:=E5 h2;obtain⟨i3,rfl⟩:=E5 h3;obtain⟨i4,rfl⟩:=E5 h4;exact⟨⟨i1,i2,i3,i4⟩,rfl,trivial⟩
theorem d2Z (n:Nat)(ds:List D)(m:Nat)(h:TyD T n 102 ds m):∃x:Offence,ds=x.cells/\NoQ x m:=by
 obtain⟨k,rfl,xs,ms,rfl,h,hs⟩:=h.st_ d2c;obtain⟨x1,xs,m1,ms,rfl,rfl,h1,h⟩:=v8 h;obtain⟨x2,xs,m2,ms,rfl,rfl,h2,h⟩:=v8 h;obtain⟨x3,xs,m3,ms,rfl,rfl,h3,h⟩:=v8 h;obtain⟨x4,xs,m4,ms,rfl,rfl,h4,h⟩:=v8 h;obtain⟨rfl,rfl⟩:=a0m h;obtain⟨i1,rfl⟩:=a6G h1;obtain⟨i2,rfl⟩:=E5 h2;obtain⟨i3,rfl⟩:=E5 h3;obtain⟨i4,rfl⟩:=d2R h4;exact⟨⟨i1,i2,i3,i4⟩,rfl,trivial⟩
theorem d2W (n:Nat)(ds:List D)(m:Nat)(h:TyD T n 82 ds m):∃x:Distance,ds=x.cells/\OkB (λx:Distance=>Part.cntL x.route<=1048576/\x.cutoffs.length<=1048576) x m:=by
 obtain⟨k,rfl,xs,ms,rfl,h,hs⟩:=h.st_ d1X;obtain⟨x1,xs,m1,ms,rfl,rfl,h1,h⟩:=v8 h;obtain⟨x2,xs,m2,ms,rfl,rfl,h2,h⟩:=v8 h;obtain⟨x3,xs,m3,ms,rfl,rfl,h3,h⟩:=v8 h;obtain⟨x4,xs,m4,ms,rfl,rfl,h4,h⟩:=v8 h;obtain⟨x5,xs,m5,ms,rfl,rfl,h5,h⟩:=v8 h;obtain⟨rfl,rfl⟩:=a0m h;obtain⟨i1,rfl⟩:=a6G h1;obtain⟨l,rfl,hl⟩:=h2.sl_ c0k Part.cells (λp m=>Part.cnt p<=m) (λn' ds m hn h=>d3a n' ds m h);obtain⟨i3,rfl⟩:=E5 h3;obtain⟨l',rfl,hl'⟩:=h4.sl_ d1W Cutoff.cells NoQ (λn' ds m hn h=>d2V n' ds m h);obtain⟨i5,rfl⟩:=E5 h5;simp only[Q6,a4l] at hs;refine⟨⟨i1,l,i3,l',i5⟩,rfl,λhm=>⟨?_,?_⟩⟩
 . have:=b6y hl;show Part.cntL l<=_;omega
 . have:=hl'.len;show l'.length<=_;omega
theorem d2U (n:Nat)(ds:List D)(m:Nat)(h:TyD T n 33 ds m):∃x:Course,ds=x.cells/\OkB Course.small x m:=by
 obtain⟨k,rfl,xs,ms,rfl,h,hs⟩:=h.st_ d1S;obtain⟨x1,xs,m1,ms,rfl,rfl,h1,h⟩:=v8 h;obtain⟨x2,xs,m2,ms,rfl,rfl,h2,h⟩:=v8 h;obtain⟨x3,xs,m3,ms,rfl,rfl,h3,h⟩:=v8 h;obtain⟨x4,xs,m4,ms,rfl,rfl,h4,h⟩:=v8 h;obtain⟨x5,xs,m5,ms,rfl,rfl,h5,h⟩:=v8 h;obtain⟨x6,xs,m6,ms,rfl,rfl,h6,h⟩:=v8 h;obtain⟨x7,xs,m7,ms,rfl,rfl,h7,h⟩:=v8 h;obtain⟨x8,xs,m8,ms,rfl,rfl,h8,h⟩:=v8 h;obtain⟨x9,xs,m9,ms,rfl,rfl,h9,h⟩:=v8 h;obtain⟨x10,xs,m10,ms,rfl,rfl,h10,h⟩:=v8 h;obtain⟨x11,xs,m11,ms,rfl,rfl,h11,h⟩:=v8 h;obtain⟨x12,xs,m12,ms,rfl,rfl,h12,h⟩:=v8 h;obtain⟨rfl,rfl⟩:=a0m h;obtain⟨i1,rfl⟩:=a6G h1;obtain⟨l2,rfl,g2⟩:=h2.sl_ d1J Mat.cells NoQ (λn' ds m hn h=>d2Y n' ds m h);obtain⟨l3,rfl,g3⟩:=h3.sl_ d1K Leg.cells NoQ (λn' ds m hn h=>d2X n' ds m h);obtain⟨l4,rfl,g4⟩:=h4.sl_ d1L Distance.cells _ (λn' ds m hn h=>d2W n' ds m h);obtain⟨l5,rfl,g5⟩:=h5.sl_ d1M Wave.cells NoQ (λn' ds m hn h=>d3c n' ds m h);obtain⟨l6,rfl,g6⟩:=h6.sl_ d1N Offence.cells NoQ (λn' ds m hn h=>d2Z n' ds m h);obtain⟨l7,rfl,g7⟩:=h7.sl_ d1O Category.cells NoQ (λn' ds m hn h=>d2S n' ds m h);obtain⟨l8,rfl,g8⟩:=h8.sl_ d1P Prize.cells NoQ (λn' ds m hn h=>d3b n' ds m h);obtain⟨l9,rfl,g9⟩:=h9.sl_ b3W Step.cells (OkB Step.ok) (λn' ds m hn h=>d0M n' ds m h);obtain⟨_,_,ys,ns,rfl,f,_⟩:=h10.st_ d1R;obtain⟨y1,ys,n1,ns,rfl,rfl,f1,f⟩:=v8 f;obtain⟨y2,ys,n2,ns,rfl,rfl,f2,f⟩:=v8 f;obtain⟨y3,ys,n3,ns,rfl,rfl,f3,f⟩:=v8 f;obtain⟨y4,ys,n4,ns,rfl,rfl,f4,f⟩:=v8 f;obtain⟨y5,ys,n5,ns,rfl,rfl,f5,f⟩:=v8 f;obtain⟨rfl,rfl⟩:=a0m f;obtain⟨j1,rfl⟩:=E5 f1;obtain⟨j2,rfl⟩:=E5 f2;obtain⟨j3,rfl⟩:=E5 f3;obtain⟨j4,rfl⟩:=E5 f4;obtain⟨j5,rfl⟩:=E5 f5;obtain⟨i11,rfl⟩:=E5 h11;obtain⟨i12,rfl⟩:=E5 h12;simp only[Q6,a4l] at hs;refine⟨⟨i1,l2,l3,l4,l5,l6,l7,l8,l9,⟨j1,j2,j3,j4,j5⟩,i11,i12⟩,rfl,λhm=>?_⟩;have e2:=g2.len;have e3:=g3.len;have e4:=g4.ok (by omega);have e5:=g5.len;have e6:=g6.len;have e7:=g7.len;have e8:=g8.len;have e9:=g9.ok (by omega);exact⟨by show l2.length<=_;omega,by show l3.length<=_;omega,e4.1,by show l5.length<=_;omega,by show l6.length<=_;omega,by show l7.length<=_;omega,by show l8.length<=_;omega,e9,λd hd=>(e4.2 d hd).1,λd hd=>(e4.2 d hd).2⟩
theorem b4A {ds:List D}{ms:List Nat}(h:a2p T [] ds ms):ds=[]/\ms=[]:=by
 cases ds<;>cases ms<;>first|exact⟨rfl,rfl⟩|exact h.elim
theorem a8Q {f:TypeId}{fs:List TypeId}{xs:List D}{ms:List Nat}(h:a2p T (f::fs) xs ms):
 ∃x xs' m ms',xs=x::xs'/\ms=m::ms'/\TyV T f x m/\a2p T fs xs' ms':=by
 cases xs<;>cases ms<;>first|exact⟨_,_,_,_,rfl,rfl,h.1,h.2⟩|exact h.elim
theorem a1 {a:TypeId}{ds:List D}{ms:List Nat}(h:a2p T [a] ds ms)(hm:ms.sum<=1048576):∃x k,ds=[x]/\TyV T a x k/\k<=1048576:=by
 obtain⟨x,xs,k,ms,rfl,rfl,h1,h⟩:=a8Q h;obtain⟨rfl,rfl⟩:=b4A h;simp only[Q6,a4l] at hm;exact⟨x,k,rfl,h1,by omega⟩
theorem a3 {a b c:TypeId}{ds:List D}{ms:List Nat}(h:a2p T [a,b,c] ds ms)(hm:ms.sum<=1048576):
 ∃x y z k m n,ds=[x,y,z]/\TyV T a x k/\TyV T b y m/\TyV T c z n/\k<=1048576/\m<=1048576/\n<=1048576:=by
 obtain⟨x,xs,k,ms,rfl,rfl,h1,h⟩:=a8Q h;obtain⟨y,xs,m,ms,rfl,rfl,h2,h⟩:=a8Q h;obtain⟨z,xs,n,ms,rfl,rfl,h3,h⟩:=a8Q h;obtain⟨rfl,rfl⟩:=b4A h;simp only[Q6,a4l] at hm;exact⟨x,y,z,k,m,n,rfl,h1,h2,h3,by omega,by omega,by omega⟩
theorem d4w {d:D}{m:Nat}(h:TyV T 33 d m)(hm:m<=1048576):∃c:Course,d=c.d/\c.small:=by
 obtain⟨n,cs,h1,h2⟩:=h;obtain⟨c,rfl,hc⟩:=d2U n cs m h1;exact⟨c,by rw[h2];rfl,hc hm⟩
end Go.Proofs.YteillnfhkeebjaaGreatDoor.Dx
