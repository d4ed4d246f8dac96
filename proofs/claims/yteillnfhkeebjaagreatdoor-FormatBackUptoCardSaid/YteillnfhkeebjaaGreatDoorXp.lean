/- Chapter. -/
import Derived.Test.YteillnfhkeebjaaGreatDoorXo
set_option linter.all false
namespace Go.Proofs.YteillnfhkeebjaaGreatDoor.Dx
open Go Go.RowKit
set_option maxRecDepth 100000
set_option maxHeartbeats 16000000
theorem H6 {α:Type}{f:α->D}{r:Rs α}{u:Nat->Value}{o:Out}{O':List (Nat×Blk)}(h:RdO f r u o O'):
 (∃a e ts',r= .er a e/\o= .pan (.iface 203 (.agg [iD (a:Int),iD e]))/\O'=psO ts' u)\/∃a ts',r= .ok a ts'/\o= .ret (.d (f a))/\O'=psO ts' u:=by
 cases r with
 |out=>exact h.elim
 |er a e=>obtain⟨ts',h1,h2⟩:=h;exact .inl ⟨a,e,ts',rfl,h1,h2⟩
 |ok a ts=>exact .inr ⟨a,ts,rfl,h.1,h.2⟩
theorem MeetsR.bl {P:Program}{f:FuncId}{args:List Base}{O X:List (Nat×Blk)}{b:Bool}(h:MeetsR P f args O λo O'=>o= .ret (.d (bD b))/\O'=X):MeetsR P f args O λo O'=>o= .ret (.d (.bl b))/\O'=X:=
 ⟨h.fn,λγ V W xs h1 h2 h3 h4=>(h.run γ V W xs h1 h2 h3 h4).mono λe _ ⟨γ',V',o,O',a1,a2,a3,a4,a5,a6,a7,a8,a9,a10⟩=>⟨γ',V', .ret (.d (.bl b)),O',by
  subst a9;cases e with
  | returned v=>
    have:=(Rep.v_inv (show Rep V' v (.v (.bool b)) from a1)).1;subst this;exact Rep.bl b
  |panicked c=>exact a1.elim
  |outgrown=>exact a1.elim,a2,a3,a4,a5,a6,a7,a8,rfl,a10⟩⟩
theorem G7 (ts:List Tk)(u:Nat->Value)(w:List UInt8)(he:EndsT ts)(h:isW w ts=true):MR 133 [.loc 5000 0, .d (.str w)] (psO ts u) λo O'=>o= .ret (.d (.bl true))/\O'=psO ts.tail u:=by
 refine MeetsR.bl ?_;obtain⟨t,r,rfl⟩:=he.cons;refine(b1d t r u w).mono ?_;rintro o O' ⟨rfl,rfl⟩;rw[h];exact⟨rfl,rfl⟩
theorem q0 (ts:List Tk)(u:Nat->Value)(w:List UInt8)(he:EndsT ts)(h:isW w ts=false):MR 133 [.loc 5000 0, .d (.str w)] (psO ts u) λo O'=>o= .ret (.d (.bl false))/\O'=psO ts u:=by
 refine MeetsR.bl ?_;obtain⟨t,r,rfl⟩:=he.cons;refine(b1d t r u w).mono ?_;rintro o O' ⟨rfl,rfl⟩;rw[h];exact⟨rfl,rfl⟩
theorem a2r (ts:List Tk)(u:Nat->Value)(w:List UInt8)(he:EndsT ts)(h:isW w ts=true):MR 159 [.loc 5000 0, .d (.str w)] (psO ts u) λo O'=>o= .ret (.d (.bl true))/\O'=psO ts u:=by
 refine MeetsR.bl ?_;obtain⟨t,r,rfl⟩:=he.cons;refine(b1R t r u w).mono ?_;rintro o O' ⟨rfl,rfl⟩;rw[h];exact⟨rfl,rfl⟩
theorem X3 (ts:List Tk)(u:Nat->Value)(w:List UInt8)(he:EndsT ts)(h:isW w ts=false):MR 159 [.loc 5000 0, .d (.str w)] (psO ts u) λo O'=>o= .ret (.d (.bl false))/\O'=psO ts u:=by
 refine MeetsR.bl ?_;obtain⟨t,r,rfl⟩:=he.cons;refine(b1R t r u w).mono ?_;rintro o O' ⟨rfl,rfl⟩;rw[h];exact⟨rfl,rfl⟩
theorem T9 (ts:List Tk)(u:Nat->Value)(e:Int)(he:EndsT ts):MR 123 [.loc 5000 0, .d (iD e)] (psO ts u) λo O'=>o= .pan (.iface 203 (.agg [iD ((hdT ts).at_:Int),iD e]))/\O'=psO ts u:=by
 obtain⟨t,r,rfl⟩:=he.cons;exact a1s t r u e
theorem a7H (ts:List Tk)(u:Nat->Value)(d:Nat)(he:EndsT ts)(h:d<16):MR 160 [.loc 5000 0, .d (iD (d:Int))] (psO ts u) λo O'=>o= .ret (.d (.tup []))/\O'=psO ts u:=by
 obtain⟨t,r,rfl⟩:=he.cons;have hm:=c5m t r u d;rw[c8 (by omega)] at hm;exact hm
theorem a7F (ts:List Tk)(u:Nat->Value)(d:Nat)(he:EndsT ts)(h:16<=d):MR 160 [.loc 5000 0, .d (iD (d:Int))] (psO ts u) λo O'=>o= .pan (.iface 203 (.agg [iD ((hdT ts).at_:Int),iD 2]))/\O'=psO ts u:=by
 obtain⟨t,r,rfl⟩:=he.cons;refine EnR {rs:=[7]} Tryz.func160 Tryz.ntmps160 λ_ _ _ _ _=>?_;refine Kv {rs:=[7]} ?_;refine⟨λh2=>?_,λh2=>?_⟩<;>(try simp only[BL] at h2)<;>refine Kv {rs:=[7]} ?_
 . refine⟨psO (t::r) u,_,⟨Kr,Kr⟩,(a1s t r u 2).mono ?_⟩;rintro _ O' ⟨rfl,rfl⟩;refine Kv {rs:=[7]} ?_;refine⟨psO (t::r) u,⟨Kr,Kr⟩,⟨rfl,rfl⟩⟩
 . exact absurd h2 (by omega)
theorem G4 (ts:List Tk)(u:Nat->Value)(h:QT ts):MR 136 [.loc 5000 0] (psO ts u) λo O'=>RdO iD (y0 ts) u o O':=by
 obtain⟨t,r,rfl⟩:=h.1.cons;exact c9J t r u (h.2 t (by simp))
theorem d4o {k d:Nat}{ts:List Tk}(h:isW [110,111,116] ts=true)(hd:d<16):A1 (k+1) d ts=(A1 k (d+1) ts.tail).bind λc ts=> .ok (K5 c) ts:=by
 rw[A1,c8 (by simp only[f0,j0];omega),d4 h]
theorem d4p {k d:Nat}{ts:List Tk}(h1:isW [110,111,116] ts=false)(h:isW [40] ts=true)(hd:d<16):A1 (k+1) d ts=(condP k (d+1) ts.tail).bind λc ts=>(o3 [41] ts).bind λ_ ts=> .ok c ts:=by
 rw[A1,c8 (by simp only[f0,j0];omega),c8 (by rw[h1];decide),d4 h]
theorem c1c {k d:Nat}{ts:List Tk}(h:isW [110,111,116] ts=true\/isW [40] ts=true)(hd:16<=d):A1 (k+1) d ts=I6 2 ts:=by
 rw[A1,d4 (by simp only[f0,C0,j0];exact⟨h,hd⟩)]
theorem d4q {k d:Nat}{ts:List Tk}(h1:isW [110,111,116] ts=false)(h2:isW [40] ts=false):A1 (k+1) d ts=match a1x ts with|none=>I6 60 ts|some v=>N5 v ts.tail:=by
 rw[A1,c8 (by rw[h1,h2,Bool.or_false,a5r];decide),c8 (by rw[h1];decide),c8 (by rw[h2];decide)];rfl
theorem D1 (ts:List Tk)(u:Nat->Value)(w:List UInt8)(he:EndsT ts):MR 124 [.loc 5000 0, .d (.sl [[.str w]])] (psO ts u) λo O'=>RdO (λ_=> .tup []) (o3 w ts) u o O':=by
 have h:=b8V [w] ts u he;have e:O9 [w] ts=o3 w ts:=by
  rw[O9];cases o3 w ts<;>rfl
 rw[e] at h;exact h
theorem d4C (ts:List Tk):(isW [100,105,115,116,97,110,99,101] ts=true/\a1x ts=some 1)\/(isW [100,105,115,116,97,110,99,101] ts=false/\isW [102,105,101,108,100] ts=true/\a1x ts=some 2)\/(isW [100,105,115,116,97,110,99,101] ts=false/\isW [102,105,101,108,100] ts=false/\isW [115,104,111,114,116] ts=true/\a1x ts=some 3)\/(isW [100,105,115,116,97,110,99,101] ts=false/\isW [102,105,101,108,100] ts=false/\isW [115,104,111,114,116] ts=false/\a1x ts=none):=by
 unfold a1x;cases isW [100,105,115,116,97,110,99,101] ts<;>cases isW [102,105,101,108,100] ts<;>cases isW [115,104,111,114,116] ts<;>simp
theorem b3H (ts:List Tk)(v:Int):(isW [62,61] ts=true/\N5 v ts=(y0 ts.tail).bind λn ts=> .ok (leC v n) ts)\/(isW [62,61] ts=false/\isW [62] ts=true/\N5 v ts=(y0 ts.tail).bind λn ts=> .ok (leC v (n+1)) ts)\/
 (isW [62,61] ts=false/\isW [62] ts=false/\isW [60,61] ts=true/\N5 v ts=(y0 ts.tail).bind λn ts=> .ok (K5 (leC v (n+1))) ts)\/
 (isW [62,61] ts=false/\isW [62] ts=false/\isW [60,61] ts=false/\isW [60] ts=true/\N5 v ts=(y0 ts.tail).bind λn ts=> .ok (K5 (leC v n)) ts)\/
 (isW [62,61] ts=false/\isW [62] ts=false/\isW [60,61] ts=false/\isW [60] ts=false/\isW [61] ts=true/\N5 v ts=(y0 ts.tail).bind λn ts=> .ok ⟨2,0,0,[leC v n,K5 (leC v (n+1))]⟩ ts)\/
 (isW [62,61] ts=false/\isW [62] ts=false/\isW [60,61] ts=false/\isW [60] ts=false/\isW [61] ts=false/\N5 v ts=I6 60 ts):=by
 unfold N5;cases isW [62,61] ts<;>cases isW [62] ts<;>cases isW [60,61] ts<;>cases isW [60] ts<;>cases isW [61] ts<;>simp
theorem a2O {ts ts':List Tk}{n:Int}(h:y0 ts= .ok n ts'):0<=n/\n<=1125899906842624:=by
 unfold y0 at h;split at h
 . rename_i m hm;cases h;unfold a0i at hm;split at hm
   . rename_i hk;cases hm;exact⟨by omega,hk.2.2⟩
   . cases hm
 . cases h
abbrev i6:Cfg:={rs:=[9,12,16,19,23,27,31,34,37,40,43,46,49,52,56,59,64,67,73,76,81,83,95]}
theorem d4r (k:Nat)(hk:k<=1000000000)(hu:∀j,j<=k->RdC 205 j A1)(hc:∀j,j<=k->RdC 66 j condP):RdC 205 (k+1) A1:=by
 intro d ts u hd hq hn;obtain⟨res,hres⟩:∃res,res=A1 (k+1) d ts:=⟨_,rfl⟩
 rw[<-hres] at hn⊢;have he:=hq.1;have h1:=a1A (isW [110,111,116] ts);obtain h1|h1:=h1
 . by_cases hdd:16<=d
   . rw[c1c (.inl h1) hdd] at hres;refine EnR i6 Tryz.func205 Tryz.ntmps205 λ_ _ _ _ _=>?_;refine Kv i6 ?_;refine⟨psO ts u,_,⟨Kr,Kr⟩,(a2r ts u [110,111,116] he h1).mono ?_⟩;rintro _ O2 ⟨rfl,rfl⟩;refine Kv i6 ?_;refine⟨psO ts u,_,⟨Kr,Kr⟩,(a7F ts u d he hdd).mono ?_⟩;rintro _ O2 ⟨rfl,rfl⟩;refine Kv i6 ?_;refine⟨psO ts u,⟨Kr,Kr⟩,?_⟩;rw[hres];exact⟨_,rfl,rfl⟩
   . have hdd':d<16:=by omega
     rw[d4o h1 hdd'] at hres;have hn1:A1 k (d+1) ts.tail≠ .out:=X4 (by rw[<-hres];exact hn);have hr:=hu k (p0 _) (d+1) ts.tail u (by omega) (hq.isW h1) hn1;refine EnR i6 Tryz.func205 Tryz.ntmps205 λ_ _ _ _ _=>?_;refine Kv i6 ?_;refine⟨psO ts u,_,⟨Kr,Kr⟩,(a2r ts u [110,111,116] he h1).mono ?_⟩;rintro _ O2 ⟨rfl,rfl⟩;refine Kv i6 ?_;refine⟨psO ts u,_,⟨Kr,Kr⟩,(a7H ts u d he hdd').mono ?_⟩;rintro _ O2 ⟨rfl,rfl⟩;refine Kv i6 ?_;refine⟨psO ts u,_,⟨Kr,Kr⟩,(G7 ts u [110,111,116] he h1).mono ?_⟩;rintro _ O2 ⟨rfl,rfl⟩;refine Kv i6 ?_;repeat'((first|(intro hlq;try simp only[SL] at hlq)|refine K9 ?_|refine K8 ?_)<;>refine Kv i6 ?_)
     refine⟨psO ts.tail u,_,⟨Kr,Kr⟩,(hr).mono ?_⟩;intro o O2 ho;have hh:=H6 ho;clear ho;obtain hh|hh:=hh
     . obtain⟨a,e,ts9,hU,rfl,rfl⟩:=hh;(try dsimp only at hU);rw[hU] at hres;(try rw[j9] at hres);refine Kv i6 ?_;refine⟨psO ts9 u,⟨Kr,Kr⟩,?_⟩;rw[hres];exact⟨_,rfl,rfl⟩
     obtain⟨c,ts2,hU,rfl,rfl⟩:=hh;(try dsimp only at hU);rw[hU] at hres;(try rw[j7] at hres);refine Kv i6 ?_;refine Meets.k (a1Q c) ?_;refine Kv i6 ?_;refine⟨psO ts2 u, .d (K5 c).d,?_,?_⟩;rotate_left 1
     . rw[hres];exact⟨rfl,rfl⟩
     repeat'(first|exact d9|exact rfl|refine d8 ?_ ?_)
 have h2:=a1A (isW [40] ts);obtain h2|h2:=h2
 . by_cases hdd:16<=d
   . rw[c1c (.inr h2) hdd] at hres;refine EnR i6 Tryz.func205 Tryz.ntmps205 λ_ _ _ _ _=>?_;refine Kv i6 ?_;refine⟨psO ts u,_,⟨Kr,Kr⟩,(X3 ts u [110,111,116] he h1).mono ?_⟩;rintro _ O2 ⟨rfl,rfl⟩;refine Kv i6 ?_;refine⟨psO ts u,_,⟨Kr,Kr⟩,(a2r ts u [40] he h2).mono ?_⟩;rintro _ O2 ⟨rfl,rfl⟩;refine Kv i6 ?_;refine⟨psO ts u,_,⟨Kr,Kr⟩,(a7F ts u d he hdd).mono ?_⟩;rintro _ O2 ⟨rfl,rfl⟩;refine Kv i6 ?_;refine⟨psO ts u,⟨Kr,Kr⟩,?_⟩;rw[hres];exact⟨_,rfl,rfl⟩
   . have hdd':d<16:=by omega
     rw[d4p h1 h2 hdd'] at hres;have hn1:condP k (d+1) ts.tail≠ .out:=X4 (by rw[<-hres];exact hn);have hr:=hc k (p0 _) (d+1) ts.tail u (by omega) (hq.isW h2) hn1;have hkp:=(a5S k).2.2.2.1 (d+1) ts.tail (hq.isW h2);refine EnR i6 Tryz.func205 Tryz.ntmps205 λ_ _ _ _ _=>?_;refine Kv i6 ?_;refine⟨psO ts u,_,⟨Kr,Kr⟩,(X3 ts u [110,111,116] he h1).mono ?_⟩;rintro _ O2 ⟨rfl,rfl⟩;refine Kv i6 ?_;refine⟨psO ts u,_,⟨Kr,Kr⟩,(a2r ts u [40] he h2).mono ?_⟩;rintro _ O2 ⟨rfl,rfl⟩;refine Kv i6 ?_;refine⟨psO ts u,_,⟨Kr,Kr⟩,(a7H ts u d he hdd').mono ?_⟩;rintro _ O2 ⟨rfl,rfl⟩;refine Kv i6 ?_;refine⟨psO ts u,_,⟨Kr,Kr⟩,(q0 ts u [110,111,116] he h1).mono ?_⟩;rintro _ O2 ⟨rfl,rfl⟩;refine Kv i6 ?_;refine⟨psO ts u,_,⟨Kr,Kr⟩,(G7 ts u [40] he h2).mono ?_⟩;rintro _ O2 ⟨rfl,rfl⟩;refine Kv i6 ?_;repeat'((first|(intro hlq;try simp only[SL] at hlq)|refine K9 ?_|refine K8 ?_)<;>refine Kv i6 ?_)
     refine⟨psO ts.tail u,_,⟨Kr,Kr⟩,(hr).mono ?_⟩;intro o O2 ho;have hh:=H6 ho;clear ho;obtain hh|hh:=hh
     . obtain⟨a,e,ts9,hU,rfl,rfl⟩:=hh;(try dsimp only at hU);rw[hU] at hres;(try rw[j9] at hres);refine Kv i6 ?_;refine⟨psO ts9 u,⟨Kr,Kr⟩,?_⟩;rw[hres];exact⟨_,rfl,rfl⟩
     obtain⟨c,ts2,hU,rfl,rfl⟩:=hh;(try dsimp only at hU);rw[hU] at hres;(try rw[j7] at hres);refine Kv i6 ?_;have he2:EndsT ts2:=(hkp _ _ hU).1;refine⟨psO ts2 u,_,⟨Kr,Kr⟩,(D1 ts2 u [41] he2).mono ?_⟩;intro o O2 ho;have hh:=H6 ho;clear ho;obtain hh|hh:=hh
     . obtain⟨a,e,ts9,hU,rfl,rfl⟩:=hh;(try dsimp only at hU);rw[hU] at hres;(try rw[j9] at hres);refine Kv i6 ?_;refine⟨psO ts9 u,⟨Kr,Kr⟩,?_⟩;rw[hres];exact⟨_,rfl,rfl⟩
     obtain⟨c2,ts3,hU,rfl,rfl⟩:=hh;(try dsimp only at hU);rw[hU] at hres;(try rw[j7] at hres);refine Kv i6 ?_;refine⟨psO ts3 u, .d c.d,?_,?_⟩;rotate_left 1
     . rw[hres];exact⟨rfl,rfl⟩
     repeat'(first|exact d9|exact rfl|refine d8 ?_ ?_)
 rw[d4q h1 h2] at hres;have hv:=d4C ts;obtain⟨h3,h4⟩|⟨h3,h5,h4⟩|⟨h3,h5,h6,h4⟩|⟨h3,h5,h6,h4⟩:=hv
 . rw [h4] at hres;dsimp only at hres;have hq2:=hq.isW h3;refine EnR i6 Tryz.func205 Tryz.ntmps205 λ_ _ _ _ _=>?_;refine Kv i6 ?_;refine⟨psO ts u,_,⟨Kr,Kr⟩,(X3 ts u [110,111,116] he h1).mono ?_⟩;rintro _ O2 ⟨rfl,rfl⟩;refine Kv i6 ?_;refine⟨psO ts u,_,⟨Kr,Kr⟩,(X3 ts u [40] he h2).mono ?_⟩;rintro _ O2 ⟨rfl,rfl⟩;refine Kv i6 ?_;refine⟨psO ts u,_,⟨Kr,Kr⟩,(q0 ts u [110,111,116] he h1).mono ?_⟩;rintro _ O2 ⟨rfl,rfl⟩;refine Kv i6 ?_;refine⟨psO ts u,_,⟨Kr,Kr⟩,(q0 ts u [40] he h2).mono ?_⟩;rintro _ O2 ⟨rfl,rfl⟩;refine Kv i6 ?_;refine⟨psO ts u,_,⟨Kr,Kr⟩,(G7 ts u [100,105,115,116,97,110,99,101] he h3).mono ?_⟩;rintro _ O2 ⟨rfl,rfl⟩;refine Kv i6 ?_;have hr:=b3H ts.tail 1;obtain⟨g1,h4⟩|⟨g1,g2,h4⟩|⟨g1,g2,g3,h4⟩|⟨g1,g2,g3,g4,h4⟩|⟨g1,g2,g3,g4,g5,h4⟩|⟨g1,g2,g3,g4,g5,h4⟩:=hr
   . rw [h4] at hres;have hnum:=G4 ts.tail.tail u (hq2.isW g1);refine⟨psO ts.tail u,_,⟨Kr,Kr⟩,(G7 ts.tail u [62,61] hq2.1 g1).mono ?_⟩;rintro _ O2 ⟨rfl,rfl⟩;refine Kv i6 ?_;refine⟨psO ts.tail.tail u,_,⟨Kr,Kr⟩,(hnum).mono ?_⟩;intro o O2 ho;have hh:=H6 ho;clear ho;obtain hh|hh:=hh
     . obtain⟨a,e,ts9,hU,rfl,rfl⟩:=hh;(try dsimp only at hU);rw[hU] at hres;(try rw[j9] at hres);refine Kv i6 ?_;refine⟨psO ts9 u,⟨Kr,Kr⟩,?_⟩;rw[hres];exact⟨_,rfl,rfl⟩
     obtain⟨n,ts3,hU,rfl,rfl⟩:=hh;(try dsimp only at hU);rw[hU] at hres;(try rw[j7] at hres);refine Kv i6 ?_;refine Meets.k (Q7 1 n) ?_;refine Kv i6 ?_;refine⟨psO ts3 u, .d (leC 1 n).d,?_,?_⟩;rotate_left 1
     . rw[hres];exact⟨rfl,rfl⟩
     repeat'(first|exact d9|exact rfl|refine d8 ?_ ?_)
   . rw [h4] at hres;have hnum:=G4 ts.tail.tail u (hq2.isW g2);refine⟨psO ts.tail u,_,⟨Kr,Kr⟩,(q0 ts.tail u [62,61] hq2.1 g1).mono ?_⟩;rintro _ O2 ⟨rfl,rfl⟩;refine Kv i6 ?_;refine⟨psO ts.tail u,_,⟨Kr,Kr⟩,(G7 ts.tail u [62] hq2.1 g2).mono ?_⟩;rintro _ O2 ⟨rfl,rfl⟩;refine Kv i6 ?_;refine⟨psO ts.tail.tail u,_,⟨Kr,Kr⟩,(hnum).mono ?_⟩;intro o O2 ho;have hh:=H6 ho;clear ho;obtain hh|hh:=hh
     . obtain⟨a,e,ts9,hU,rfl,rfl⟩:=hh;(try dsimp only at hU);rw[hU] at hres;(try rw[j9] at hres);refine Kv i6 ?_;refine⟨psO ts9 u,⟨Kr,Kr⟩,?_⟩;rw[hres];exact⟨_,rfl,rfl⟩
     obtain⟨n,ts3,hU,rfl,rfl⟩:=hh;(try dsimp only at hU);rw[hU] at hres;(try rw[j7] at hres);refine Kv i6 ?_;have hle:=a2O hU;repeat'((first|(intro hlq;try simp only[SL] at hlq)|refine K9 ?_|refine K8 ?_)<;>refine Kv i6 ?_)
     refine Meets.k (Q7 1 (n+1)) ?_;refine Kv i6 ?_;refine⟨psO ts3 u, .d (leC 1 (n+1)).d,?_,?_⟩;rotate_left 1
     . rw[hres];exact⟨rfl,rfl⟩
     repeat'(first|exact d9|exact rfl|refine d8 ?_ ?_)
   . rw [h4] at hres;have hnum:=G4 ts.tail.tail u (hq2.isW g3);refine⟨psO ts.tail u,_,⟨Kr,Kr⟩,(q0 ts.tail u [62,61] hq2.1 g1).mono ?_⟩;rintro _ O2 ⟨rfl,rfl⟩;refine Kv i6 ?_;refine⟨psO ts.tail u,_,⟨Kr,Kr⟩,(q0 ts.tail u [62] hq2.1 g2).mono ?_⟩;rintro _ O2 ⟨rfl,rfl⟩;refine Kv i6 ?_;refine⟨psO ts.tail u,_,⟨Kr,Kr⟩,(G7 ts.tail u [60,61] hq2.1 g3).mono ?_⟩;rintro _ O2 ⟨rfl,rfl⟩;refine Kv i6 ?_;refine⟨psO ts.tail.tail u,_,⟨Kr,Kr⟩,(hnum).mono ?_⟩;intro o O2 ho;have hh:=H6 ho;clear ho;obtain hh|hh:=hh
     . obtain⟨a,e,ts9,hU,rfl,rfl⟩:=hh;(try dsimp only at hU);rw[hU] at hres;(try rw[j9] at hres);refine Kv i6 ?_;refine⟨psO ts9 u,⟨Kr,Kr⟩,?_⟩;rw[hres];exact⟨_,rfl,rfl⟩
     obtain⟨n,ts3,hU,rfl,rfl⟩:=hh;(try dsimp only at hU);rw[hU] at hres;(try rw[j7] at hres);refine Kv i6 ?_;have hle:=a2O hU;repeat'((first|(intro hlq;try simp only[SL] at hlq)|refine K9 ?_|refine K8 ?_)<;>refine Kv i6 ?_)
     refine Meets.k (Q7 1 (n+1)) ?_;refine Kv i6 ?_;refine Meets.k (a1Q (leC 1 (n+1))) ?_;refine Kv i6 ?_;refine⟨psO ts3 u, .d (K5 (leC 1 (n+1))).d,?_,?_⟩;rotate_left 1
     . rw[hres];exact⟨rfl,rfl⟩
     repeat'(first|exact d9|exact rfl|refine d8 ?_ ?_)
   . rw [h4] at hres;have hnum:=G4 ts.tail.tail u (hq2.isW g4);refine⟨psO ts.tail u,_,⟨Kr,Kr⟩,(q0 ts.tail u [62,61] hq2.1 g1).mono ?_⟩;rintro _ O2 ⟨rfl,rfl⟩;refine Kv i6 ?_;refine⟨psO ts.tail u,_,⟨Kr,Kr⟩,(q0 ts.tail u [62] hq2.1 g2).mono ?_⟩;rintro _ O2 ⟨rfl,rfl⟩;refine Kv i6 ?_;refine⟨psO ts.tail u,_,⟨Kr,Kr⟩,(q0 ts.tail u [60,61] hq2.1 g3).mono ?_⟩;rintro _ O2 ⟨rfl,rfl⟩;refine Kv i6 ?_;refine⟨psO ts.tail u,_,⟨Kr,Kr⟩,(G7 ts.tail u [60] hq2.1 g4).mono ?_⟩;rintro _ O2 ⟨rfl,rfl⟩;refine Kv i6 ?_;refine⟨psO ts.tail.tail u,_,⟨Kr,Kr⟩,(hnum).mono ?_⟩;intro o O2 ho;have hh:=H6 ho;clear ho;obtain hh|hh:=hh
     . obtain⟨a,e,ts9,hU,rfl,rfl⟩:=hh;(try dsimp only at hU);rw[hU] at hres;(try rw[j9] at hres);refine Kv i6 ?_;refine⟨psO ts9 u,⟨Kr,Kr⟩,?_⟩;rw[hres];exact⟨_,rfl,rfl⟩
     obtain⟨n,ts3,hU,rfl,rfl⟩:=hh;(try dsimp only at hU);rw[hU] at hres;(try rw[j7] at hres);refine Kv i6 ?_;refine Meets.k (Q7 1 n) ?_;refine Kv i6 ?_;refine Meets.k (a1Q (leC 1 n)) ?_;refine Kv i6 ?_;refine⟨psO ts3 u, .d (K5 (leC 1 n)).d,?_,?_⟩;rotate_left 1
     . rw[hres];exact⟨rfl,rfl⟩
     repeat'(first|exact d9|exact rfl|refine d8 ?_ ?_)
   . rw [h4] at hres;have hnum:=G4 ts.tail.tail u (hq2.isW g5);refine⟨psO ts.tail u,_,⟨Kr,Kr⟩,(q0 ts.tail u [62,61] hq2.1 g1).mono ?_⟩;rintro _ O2 ⟨rfl,rfl⟩;refine Kv i6 ?_;refine⟨psO ts.tail u,_,⟨Kr,Kr⟩,(q0 ts.tail u [62] hq2.1 g2).mono ?_⟩;rintro _ O2 ⟨rfl,rfl⟩;refine Kv i6 ?_;refine⟨psO ts.tail u,_,⟨Kr,Kr⟩,(q0 ts.tail u [60,61] hq2.1 g3).mono ?_⟩;rintro _ O2 ⟨rfl,rfl⟩;refine Kv i6 ?_;refine⟨psO ts.tail u,_,⟨Kr,Kr⟩,(q0 ts.tail u [60] hq2.1 g4).mono ?_⟩;rintro _ O2 ⟨rfl,rfl⟩;refine Kv i6 ?_;refine⟨psO ts.tail u,_,⟨Kr,Kr⟩,(G7 ts.tail u [61] hq2.1 g5).mono ?_⟩;rintro _ O2 ⟨rfl,rfl⟩;refine Kv i6 ?_;refine⟨psO ts.tail.tail u,_,⟨Kr,Kr⟩,(hnum).mono ?_⟩;intro o O2 ho;have hh:=H6 ho;clear ho;obtain hh|hh:=hh
     . obtain⟨a,e,ts9,hU,rfl,rfl⟩:=hh;(try dsimp only at hU);rw[hU] at hres;(try rw[j9] at hres);refine Kv i6 ?_;refine⟨psO ts9 u,⟨Kr,Kr⟩,?_⟩;rw[hres];exact⟨_,rfl,rfl⟩
     obtain⟨n,ts3,hU,rfl,rfl⟩:=hh;(try dsimp only at hU);rw[hU] at hres;(try rw[j7] at hres);refine Kv i6 ?_;have hle:=a2O hU;refine Meets.k (Q7 1 n) ?_;refine Kv i6 ?_;repeat'((first|(intro hlq;try simp only[SL] at hlq)|refine K9 ?_|refine K8 ?_)<;>refine Kv i6 ?_)
     refine Meets.k (Q7 1 (n+1)) ?_;refine Kv i6 ?_;refine Meets.k (a1Q (leC 1 (n+1))) ?_;refine Kv i6 ?_;refine⟨psO ts3 u, .d (⟨2,0,0,[leC 1 n,K5 (leC 1 (n+1))]⟩:Cond).d,?_,?_⟩;rotate_left 1
     . rw[hres];exact⟨rfl,rfl⟩
     repeat'(first|exact d9|exact rfl|refine d8 ?_ ?_)
   . rw[h4] at hres;refine⟨psO ts.tail u,_,⟨Kr,Kr⟩,(q0 ts.tail u [62,61] hq2.1 g1).mono ?_⟩;rintro _ O2 ⟨rfl,rfl⟩;refine Kv i6 ?_;refine⟨psO ts.tail u,_,⟨Kr,Kr⟩,(q0 ts.tail u [62] hq2.1 g2).mono ?_⟩;rintro _ O2 ⟨rfl,rfl⟩;refine Kv i6 ?_;refine⟨psO ts.tail u,_,⟨Kr,Kr⟩,(q0 ts.tail u [60,61] hq2.1 g3).mono ?_⟩;rintro _ O2 ⟨rfl,rfl⟩;refine Kv i6 ?_;refine⟨psO ts.tail u,_,⟨Kr,Kr⟩,(q0 ts.tail u [60] hq2.1 g4).mono ?_⟩;rintro _ O2 ⟨rfl,rfl⟩;refine Kv i6 ?_;refine⟨psO ts.tail u,_,⟨Kr,Kr⟩,(q0 ts.tail u [61] hq2.1 g5).mono ?_⟩;rintro _ O2 ⟨rfl,rfl⟩;refine Kv i6 ?_;refine⟨psO ts.tail u,_,⟨Kr,Kr⟩,(T9 ts.tail u 60 hq2.1).mono ?_⟩;rintro _ O2 ⟨rfl,rfl⟩;refine Kv i6 ?_;refine⟨psO ts.tail u,⟨Kr,Kr⟩,?_⟩;rw[hres];exact⟨_,rfl,rfl⟩
 . rw [h4] at hres;dsimp only at hres;have hq2:=hq.isW h5;refine EnR i6 Tryz.func205 Tryz.ntmps205 λ_ _ _ _ _=>?_;refine Kv i6 ?_;refine⟨psO ts u,_,⟨Kr,Kr⟩,(X3 ts u [110,111,116] he h1).mono ?_⟩;rintro _ O2 ⟨rfl,rfl⟩;refine Kv i6 ?_;refine⟨psO ts u,_,⟨Kr,Kr⟩,(X3 ts u [40] he h2).mono ?_⟩;rintro _ O2 ⟨rfl,rfl⟩;refine Kv i6 ?_;refine⟨psO ts u,_,⟨Kr,Kr⟩,(q0 ts u [110,111,116] he h1).mono ?_⟩;rintro _ O2 ⟨rfl,rfl⟩;refine Kv i6 ?_;refine⟨psO ts u,_,⟨Kr,Kr⟩,(q0 ts u [40] he h2).mono ?_⟩;rintro _ O2 ⟨rfl,rfl⟩;refine Kv i6 ?_;refine⟨psO ts u,_,⟨Kr,Kr⟩,(q0 ts u [100,105,115,116,97,110,99,101] he h3).mono ?_⟩;rintro _ O2 ⟨rfl,rfl⟩;refine Kv i6 ?_;refine⟨psO ts u,_,⟨Kr,Kr⟩,(G7 ts u [102,105,101,108,100] he h5).mono ?_⟩;rintro _ O2 ⟨rfl,rfl⟩;refine Kv i6 ?_;have hr:=b3H ts.tail 2;obtain⟨g1,h4⟩|⟨g1,g2,h4⟩|⟨g1,g2,g3,h4⟩|⟨g1,g2,g3,g4,h4⟩|⟨g1,g2,g3,g4,g5,h4⟩|⟨g1,g2,g3,g4,g5,h4⟩:=hr
   . rw [h4] at hres;have hnum:=G4 ts.tail.tail u (hq2.isW g1);refine⟨psO ts.tail u,_,⟨Kr,Kr⟩,(G7 ts.tail u [62,61] hq2.1 g1).mono ?_⟩;rintro _ O2 ⟨rfl,rfl⟩;refine Kv i6 ?_;refine⟨psO ts.tail.tail u,_,⟨Kr,Kr⟩,(hnum).mono ?_⟩;intro o O2 ho;have hh:=H6 ho;clear ho;obtain hh|hh:=hh
     . obtain⟨a,e,ts9,hU,rfl,rfl⟩:=hh;(try dsimp only at hU);rw[hU] at hres;(try rw[j9] at hres);refine Kv i6 ?_;refine⟨psO ts9 u,⟨Kr,Kr⟩,?_⟩;rw[hres];exact⟨_,rfl,rfl⟩
     obtain⟨n,ts3,hU,rfl,rfl⟩:=hh;(try dsimp only at hU);rw[hU] at hres;(try rw[j7] at hres);refine Kv i6 ?_;refine Meets.k (Q7 2 n) ?_;refine Kv i6 ?_;refine⟨psO ts3 u, .d (leC 2 n).d,?_,?_⟩;rotate_left 1
     . rw[hres];exact⟨rfl,rfl⟩
     repeat'(first|exact d9|exact rfl|refine d8 ?_ ?_)
   . rw [h4] at hres;have hnum:=G4 ts.tail.tail u (hq2.isW g2);refine⟨psO ts.tail u,_,⟨Kr,Kr⟩,(q0 ts.tail u [62,61] hq2.1 g1).mono ?_⟩;rintro _ O2 ⟨rfl,rfl⟩;refine Kv i6 ?_;refine⟨psO ts.tail u,_,⟨Kr,Kr⟩,(G7 ts.tail u [62] hq2.1 g2).mono ?_⟩;rintro _ O2 ⟨rfl,rfl⟩;refine Kv i6 ?_;refine⟨psO ts.tail.tail u,_,⟨Kr,Kr⟩,(hnum).mono ?_⟩;intro o O2 ho;have hh:=H6 ho;clear ho;obtain hh|hh:=hh
     . obtain⟨a,e,ts9,hU,rfl,rfl⟩:=hh;(try dsimp only at hU);rw[hU] at hres;(try rw[j9] at hres);refine Kv i6 ?_;refine⟨psO ts9 u,⟨Kr,Kr⟩,?_⟩;rw[hres];exact⟨_,rfl,rfl⟩
     obtain⟨n,ts3,hU,rfl,rfl⟩:=hh;(try dsimp only at hU);rw[hU] at hres;(try rw[j7] at hres);refine Kv i6 ?_;have hle:=a2O hU;repeat'((first|(intro hlq;try simp only[SL] at hlq)|refine K9 ?_|refine K8 ?_)<;>refine Kv i6 ?_)
     refine Meets.k (Q7 2 (n+1)) ?_;refine Kv i6 ?_;refine⟨psO ts3 u, .d (leC 2 (n+1)).d,?_,?_⟩;rotate_left 1
     . rw[hres];exact⟨rfl,rfl⟩
     repeat'(first|exact d9|exact rfl|refine d8 ?_ ?_)
   . rw [h4] at hres;have hnum:=G4 ts.tail.tail u (hq2.isW g3);refine⟨psO ts.tail u,_,⟨Kr,Kr⟩,(q0 ts.tail u [62,61] hq2.1 g1).mono ?_⟩;rintro _ O2 ⟨rfl,rfl⟩;refine Kv i6 ?_;refine⟨psO ts.tail u,_,⟨Kr,Kr⟩,(q0 ts.tail u [62] hq2.1 g2).mono ?_⟩;rintro _ O2 ⟨rfl,rfl⟩;refine Kv i6 ?_;refine⟨psO ts.tail u,_,⟨Kr,Kr⟩,(G7 ts.tail u [60,61] hq2.1 g3).mono ?_⟩;rintro _ O2 ⟨rfl,rfl⟩;refine Kv i6 ?_;refine⟨psO ts.tail.tail u,_,⟨Kr,Kr⟩,(hnum).mono ?_⟩;intro o O2 ho;have hh:=H6 ho;clear ho;obtain hh|hh:=hh
     . obtain⟨a,e,ts9,hU,rfl,rfl⟩:=hh;(try dsimp only at hU);rw[hU] at hres;(try rw[j9] at hres);refine Kv i6 ?_;refine⟨psO ts9 u,⟨Kr,Kr⟩,?_⟩;rw[hres];exact⟨_,rfl,rfl⟩
     obtain⟨n,ts3,hU,rfl,rfl⟩:=hh;(try dsimp only at hU);rw[hU] at hres;(try rw[j7] at hres);refine Kv i6 ?_;have hle:=a2O hU;repeat'((first|(intro hlq;try simp only[SL] at hlq)|refine K9 ?_|refine K8 ?_)<;>refine Kv i6 ?_)
     refine Meets.k (Q7 2 (n+1)) ?_;refine Kv i6 ?_;refine Meets.k (a1Q (leC 2 (n+1))) ?_;refine Kv i6 ?_;refine⟨psO ts3 u, .d (K5 (leC 2 (n+1))).d,?_,?_⟩;rotate_left 1
     . rw[hres];exact⟨rfl,rfl⟩
     repeat'(first|exact d9|exact rfl|refine d8 ?_ ?_)
   . rw [h4] at hres;have hnum:=G4 ts.tail.tail u (hq2.isW g4);refine⟨psO ts.tail u,_,⟨Kr,Kr⟩,(q0 ts.tail u [62,61] hq2.1 g1).mono ?_⟩;rintro _ O2 ⟨rfl,rfl⟩;refine Kv i6 ?_;refine⟨psO ts.tail u,_,⟨Kr,Kr⟩,(q0 ts.tail u [62] hq2.1 g2).mono ?_⟩;rintro _ O2 ⟨rfl,rfl⟩;refine Kv i6 ?_;refine⟨psO ts.tail u,_,⟨Kr,Kr⟩,(q0 ts.tail u [60,61] hq2.1 g3).mono ?_⟩;rintro _ O2 ⟨rfl,rfl⟩;refine Kv i6 ?_;refine⟨psO ts.tail u,_,⟨Kr,Kr⟩,(G7 ts.tail u [60] hq2.1 g4).mono ?_⟩;rintro _ O2 ⟨rfl,rfl⟩;refine Kv i6 ?_;refine⟨psO ts.tail.tail u,_,⟨Kr,Kr⟩,(hnum).mono ?_⟩;intro o O2 ho;have hh:=H6 ho;clear ho;obtain hh|hh:=hh
     . obtain⟨a,e,ts9,hU,rfl,rfl⟩:=hh;(try dsimp only at hU);rw[hU] at hres;(try rw[j9] at hres);refine Kv i6 ?_;refine⟨psO ts9 u,⟨Kr,Kr⟩,?_⟩;rw[hres];exact⟨_,rfl,rfl⟩
     obtain⟨n,ts3,hU,rfl,rfl⟩:=hh;(try dsimp only at hU);rw[hU] at hres;(try rw[j7] at hres);refine Kv i6 ?_;refine Meets.k (Q7 2 n) ?_;refine Kv i6 ?_;refine Meets.k (a1Q (leC 2 n)) ?_;refine Kv i6 ?_;refine⟨psO ts3 u, .d (K5 (leC 2 n)).d,?_,?_⟩;rotate_left 1
     . rw[hres];exact⟨rfl,rfl⟩
     repeat'(first|exact d9|exact rfl|refine d8 ?_ ?_)
   . rw [h4] at hres;have hnum:=G4 ts.tail.tail u (hq2.isW g5);refine⟨psO ts.tail u,_,⟨Kr,Kr⟩,(q0 ts.tail u [62,61] hq2.1 g1).mono ?_⟩;rintro _ O2 ⟨rfl,rfl⟩;refine Kv i6 ?_;refine⟨psO ts.tail u,_,⟨Kr,Kr⟩,(q0 ts.tail u [62] hq2.1 g2).mono ?_⟩;rintro _ O2 ⟨rfl,rfl⟩;refine Kv i6 ?_;refine⟨psO ts.tail u,_,⟨Kr,Kr⟩,(q0 ts.tail u [60,61] hq2.1 g3).mono ?_⟩;rintro _ O2 ⟨rfl,rfl⟩;refine Kv i6 ?_;refine⟨psO ts.tail u,_,⟨Kr,Kr⟩,(q0 ts.tail u [60] hq2.1 g4).mono ?_⟩;rintro _ O2 ⟨rfl,rfl⟩;refine Kv i6 ?_;refine⟨psO ts.tail u,_,⟨Kr,Kr⟩,(G7 ts.tail u [61] hq2.1 g5).mono ?_⟩;rintro _ O2 ⟨rfl,rfl⟩;refine Kv i6 ?_;refine⟨psO ts.tail.tail u,_,⟨Kr,Kr⟩,(hnum).mono ?_⟩;intro o O2 ho;have hh:=H6 ho;clear ho;obtain hh|hh:=hh
     . obtain⟨a,e,ts9,hU,rfl,rfl⟩:=hh;(try dsimp only at hU);rw[hU] at hres;(try rw[j9] at hres);refine Kv i6 ?_;refine⟨psO ts9 u,⟨Kr,Kr⟩,?_⟩;rw[hres];exact⟨_,rfl,rfl⟩
     obtain⟨n,ts3,hU,rfl,rfl⟩:=hh;(try dsimp only at hU);rw[hU] at hres;(try rw[j7] at hres);refine Kv i6 ?_;have hle:=a2O hU;refine Meets.k (Q7 2 n) ?_;refine Kv i6 ?_;repeat'((first|(intro hlq;try simp only[SL] at hlq)|refine K9 ?_|refine K8 ?_)<;>refine Kv i6 ?_)
     refine Meets.k (Q7 2 (n+1)) ?_;refine Kv i6 ?_;refine Meets.k (a1Q (leC 2 (n+1))) ?_;refine Kv i6 ?_;refine⟨psO ts3 u, .d (⟨2,0,0,[leC 2 n,K5 (leC 2 (n+1))]⟩:Cond).d,?_,?_⟩;rotate_left 1
     . rw[hres];exact⟨rfl,rfl⟩
     repeat'(first|exact d9|exact rfl|refine d8 ?_ ?_)
   . rw[h4] at hres;refine⟨psO ts.tail u,_,⟨Kr,Kr⟩,(q0 ts.tail u [62,61] hq2.1 g1).mono ?_⟩;rintro _ O2 ⟨rfl,rfl⟩;refine Kv i6 ?_;refine⟨psO ts.tail u,_,⟨Kr,Kr⟩,(q0 ts.tail u [62] hq2.1 g2).mono ?_⟩;rintro _ O2 ⟨rfl,rfl⟩;refine Kv i6 ?_;refine⟨psO ts.tail u,_,⟨Kr,Kr⟩,(q0 ts.tail u [60,61] hq2.1 g3).mono ?_⟩;rintro _ O2 ⟨rfl,rfl⟩;refine Kv i6 ?_;refine⟨psO ts.tail u,_,⟨Kr,Kr⟩,(q0 ts.tail u [60] hq2.1 g4).mono ?_⟩;rintro _ O2 ⟨rfl,rfl⟩;refine Kv i6 ?_;refine⟨psO ts.tail u,_,⟨Kr,Kr⟩,(q0 ts.tail u [61] hq2.1 g5).mono ?_⟩;rintro _ O2 ⟨rfl,rfl⟩;refine Kv i6 ?_;refine⟨psO ts.tail u,_,⟨Kr,Kr⟩,(T9 ts.tail u 60 hq2.1).mono ?_⟩;rintro _ O2 ⟨rfl,rfl⟩;refine Kv i6 ?_;refine⟨psO ts.tail u,⟨Kr,Kr⟩,?_⟩;rw[hres];exact⟨_,rfl,rfl⟩
 . rw [h4] at hres;dsimp only at hres;have hq2:=hq.isW h6;refine EnR i6 Tryz.func205 Tryz.ntmps205 λ_ _ _ _ _=>?_;refine Kv i6 ?_;refine⟨psO ts u,_,⟨Kr,Kr⟩,(X3 ts u [110,111,116] he h1).mono ?_⟩;rintro _ O2 ⟨rfl,rfl⟩;refine Kv i6 ?_;refine⟨psO ts u,_,⟨Kr,Kr⟩,(X3 ts u [40] he h2).mono ?_⟩;rintro _ O2 ⟨rfl,rfl⟩;refine Kv i6 ?_;refine⟨psO ts u,_,⟨Kr,Kr⟩,(q0 ts u [110,111,116] he h1).mono ?_⟩;rintro _ O2 ⟨rfl,rfl⟩;refine Kv i6 ?_;refine⟨psO ts u,_,⟨Kr,Kr⟩,(q0 ts u [40] he h2).mono ?_⟩;rintro _ O2 ⟨rfl,rfl⟩;refine Kv i6 ?_;refine⟨psO ts u,_,⟨Kr,Kr⟩,(q0 ts u [100,105,115,116,97,110,99,101] he h3).mono ?_⟩;rintro _ O2 ⟨rfl,rfl⟩;refine Kv i6 ?_;refine⟨psO ts u,_,⟨Kr,Kr⟩,(q0 ts u [102,105,101,108,100] he h5).mono ?_⟩;rintro _ O2 ⟨rfl,rfl⟩;refine Kv i6 ?_;refine⟨psO ts u,_,⟨Kr,Kr⟩,(G7 ts u [115,104,111,114,116] he h6).mono ?_⟩;rintro _ O2 ⟨rfl,rfl⟩;refine Kv i6 ?_;have hr:=b3H ts.tail 3;obtain⟨g1,h4⟩|⟨g1,g2,h4⟩|⟨g1,g2,g3,h4⟩|⟨g1,g2,g3,g4,h4⟩|⟨g1,g2,g3,g4,g5,h4⟩|⟨g1,g2,g3,g4,g5,h4⟩:=hr
   . rw [h4] at hres;have hnum:=G4 ts.tail.tail u (hq2.isW g1);refine⟨psO ts.tail u,_,⟨Kr,Kr⟩,(G7 ts.tail u [62,61] hq2.1 g1).mono ?_⟩;rintro _ O2 ⟨rfl,rfl⟩;refine Kv i6 ?_;refine⟨psO ts.tail.tail u,_,⟨Kr,Kr⟩,(hnum).mono ?_⟩;intro o O2 ho;have hh:=H6 ho;clear ho;obtain hh|hh:=hh
     . obtain⟨a,e,ts9,hU,rfl,rfl⟩:=hh;(try dsimp only at hU);rw[hU] at hres;(try rw[j9] at hres);refine Kv i6 ?_;refine⟨psO ts9 u,⟨Kr,Kr⟩,?_⟩;rw[hres];exact⟨_,rfl,rfl⟩
     obtain⟨n,ts3,hU,rfl,rfl⟩:=hh;(try dsimp only at hU);rw[hU] at hres;(try rw[j7] at hres);refine Kv i6 ?_;refine Meets.k (Q7 3 n) ?_;refine Kv i6 ?_;refine⟨psO ts3 u, .d (leC 3 n).d,?_,?_⟩;rotate_left 1
     . rw[hres];exact⟨rfl,rfl⟩
     repeat'(first|exact d9|exact rfl|refine d8 ?_ ?_)
   . rw [h4] at hres;have hnum:=G4 ts.tail.tail u (hq2.isW g2);refine⟨psO ts.tail u,_,⟨Kr,Kr⟩,(q0 ts.tail u [62,61] hq2.1 g1).mono ?_⟩;rintro _ O2 ⟨rfl,rfl⟩;refine Kv i6 ?_;refine⟨psO ts.tail u,_,⟨Kr,Kr⟩,(G7 ts.tail u [62] hq2.1 g2).mono ?_⟩;rintro _ O2 ⟨rfl,rfl⟩;refine Kv i6 ?_;refine⟨psO ts.tail.tail u,_,⟨Kr,Kr⟩,(hnum).mono ?_⟩;intro o O2 ho;have hh:=H6 ho;clear ho;obtain hh|hh:=hh
     . obtain⟨a,e,ts9,hU,rfl,rfl⟩:=hh;(try dsimp only at hU);rw[hU] at hres;(try rw[j9] at hres);refine Kv i6 ?_;refine⟨psO ts9 u,⟨Kr,Kr⟩,?_⟩;rw[hres];exact⟨_,rfl,rfl⟩
     obtain⟨n,ts3,hU,rfl,rfl⟩:=hh;(try dsimp only at hU);rw[hU] at hres;(try rw[j7] at hres);refine Kv i6 ?_;have hle:=a2O hU;repeat'((first|(intro hlq;try simp only[SL] at hlq)|refine K9 ?_|refine K8 ?_)<;>refine Kv i6 ?_)
     refine Meets.k (Q7 3 (n+1)) ?_;refine Kv i6 ?_;refine⟨psO ts3 u, .d (leC 3 (n+1)).d,?_,?_⟩;rotate_left 1
     . rw[hres];exact⟨rfl,rfl⟩
     repeat'(first|exact d9|exact rfl|refine d8 ?_ ?_)
   . rw [h4] at hres;have hnum:=G4 ts.tail.tail u (hq2.isW g3);refine⟨psO ts.tail u,_,⟨Kr,Kr⟩,(q0 ts.tail u [62,61] hq2.1 g1).mono ?_⟩;rintro _ O2 ⟨rfl,rfl⟩;refine Kv i6 ?_;refine⟨psO ts.tail u,_,⟨Kr,Kr⟩,(q0 ts.tail u [62] hq2.1 g2).mono ?_⟩;rintro _ O2 ⟨rfl,rfl⟩;refine Kv i6 ?_;refine⟨psO ts.tail u,_,⟨Kr,Kr⟩,(G7 ts.tail u [60,61] hq2.1 g3).mono ?_⟩;rintro _ O2 ⟨rfl,rfl⟩;refine Kv i6 ?_;refine⟨psO ts.tail.tail u,_,⟨Kr,Kr⟩,(hnum).mono ?_⟩;intro o O2 ho;have hh:=H6 ho;clear ho;obtain hh|hh:=hh
     . obtain⟨a,e,ts9,hU,rfl,rfl⟩:=hh;(try dsimp only at hU);rw[hU] at hres;(try rw[j9] at hres);refine Kv i6 ?_;refine⟨psO ts9 u,⟨Kr,Kr⟩,?_⟩;rw[hres];exact⟨_,rfl,rfl⟩
     obtain⟨n,ts3,hU,rfl,rfl⟩:=hh;(try dsimp only at hU);rw[hU] at hres;(try rw[j7] at hres);refine Kv i6 ?_;have hle:=a2O hU;repeat'((first|(intro hlq;try simp only[SL] at hlq)|refine K9 ?_|refine K8 ?_)<;>refine Kv i6 ?_)
     refine Meets.k (Q7 3 (n+1)) ?_;refine Kv i6 ?_;refine Meets.k (a1Q (leC 3 (n+1))) ?_;refine Kv i6 ?_;refine⟨psO ts3 u, .d (K5 (leC 3 (n+1))).d,?_,?_⟩;rotate_left 1
     . rw[hres];exact⟨rfl,rfl⟩
     repeat'(first|exact d9|exact rfl|refine d8 ?_ ?_)
   . rw [h4] at hres;have hnum:=G4 ts.tail.tail u (hq2.isW g4);refine⟨psO ts.tail u,_,⟨Kr,Kr⟩,(q0 ts.tail u [62,61] hq2.1 g1).mono ?_⟩;rintro _ O2 ⟨rfl,rfl⟩;refine Kv i6 ?_;refine⟨psO ts.tail u,_,⟨Kr,Kr⟩,(q0 ts.tail u [62] hq2.1 g2).mono ?_⟩;rintro _ O2 ⟨rfl,rfl⟩;refine Kv i6 ?_;refine⟨psO ts.tail u,_,⟨Kr,Kr⟩,(q0 ts.tail u [60,61] hq2.1 g3).mono ?_⟩;rintro _ O2 ⟨rfl,rfl⟩;refine Kv i6 ?_;refine⟨psO ts.tail u,_,⟨Kr,Kr⟩,(G7 ts.tail u [60] hq2.1 g4).mono ?_⟩;rintro _ O2 ⟨rfl,rfl⟩;refine Kv i6 ?_;refine⟨psO ts.tail.tail u,_,⟨Kr,Kr⟩,(hnum).mono ?_⟩;intro o O2 ho;have hh:=H6 ho;clear ho;obtain hh|hh:=hh
     . obtain⟨a,e,ts9,hU,rfl,rfl⟩:=hh;(try dsimp only at hU);rw[hU] at hres;(try rw[j9] at hres);refine Kv i6 ?_;refine⟨psO ts9 u,⟨Kr,Kr⟩,?_⟩;rw[hres];exact⟨_,rfl,rfl⟩
     obtain⟨n,ts3,hU,rfl,rfl⟩:=hh;(try dsimp only at hU);rw[hU] at hres;(try rw[j7] at hres);refine Kv i6 ?_;refine Meets.k (Q7 3 n) ?_;refine Kv i6 ?_;refine Meets.k (a1Q (leC 3 n)) ?_;refine Kv i6 ?_;refine⟨psO ts3 u, .d (K5 (leC 3 n)).d,?_,?_⟩;rotate_left 1
     . rw[hres];exact⟨rfl,rfl⟩
     repeat'(first|exact d9|exact rfl|refine d8 ?_ ?_)
   . rw [h4] at hres;have hnum:=G4 ts.tail.tail u (hq2.isW g5);refine⟨psO ts.tail u,_,⟨Kr,Kr⟩,(q0 ts.tail u [62,61] hq2.1 g1).mono ?_⟩;rintro _ O2 ⟨rfl,rfl⟩;refine Kv i6 ?_;refine⟨psO ts.tail u,_,⟨Kr,Kr⟩,(q0 ts.tail u [62] hq2.1 g2).mono ?_⟩;rintro _ O2 ⟨rfl,rfl⟩;refine Kv i6 ?_;refine⟨psO ts.tail u,_,⟨Kr,Kr⟩,(q0 ts.tail u [60,61] hq2.1 g3).mono ?_⟩;rintro _ O2 ⟨rfl,rfl⟩;refine Kv i6 ?_;refine⟨psO ts.tail u,_,⟨Kr,Kr⟩,(q0 ts.tail u [60] hq2.1 g4).mono ?_⟩;rintro _ O2 ⟨rfl,rfl⟩;refine Kv i6 ?_;refine⟨psO ts.tail u,_,⟨Kr,Kr⟩,(G7 ts.tail u [61] hq2.1 g5).mono ?_⟩;rintro _ O2 ⟨rfl,rfl⟩;refine Kv i6 ?_;refine⟨psO ts.tail.tail u,_,⟨Kr,Kr⟩,(hnum).mono ?_⟩;intro o O2 ho;have hh:=H6 ho;clear ho;obtain hh|hh:=hh
     . obtain⟨a,e,ts9,hU,rfl,rfl⟩:=hh;(try dsimp only at hU);rw[hU] at hres;(try rw[j9] at hres);refine Kv i6 ?_;refine⟨psO ts9 u,⟨Kr,Kr⟩,?_⟩;rw[hres];exact⟨_,rfl,rfl⟩
     obtain⟨n,ts3,hU,rfl,rfl⟩:=hh;(try dsimp only at hU);rw[hU] at hres;(try rw[j7] at hres);refine Kv i6 ?_;have hle:=a2O hU;refine Meets.k (Q7 3 n) ?_;refine Kv i6 ?_;repeat'((first|(intro hlq;try simp only[SL] at hlq)|refine K9 ?_|refine K8 ?_)<;>refine Kv i6 ?_)
     refine Meets.k (Q7 3 (n+1)) ?_;refine Kv i6 ?_;refine Meets.k (a1Q (leC 3 (n+1))) ?_;refine Kv i6 ?_;refine⟨psO ts3 u, .d (⟨2,0,0,[leC 3 n,K5 (leC 3 (n+1))]⟩:Cond).d,?_,?_⟩;rotate_left 1
     . rw[hres];exact⟨rfl,rfl⟩
     repeat'(first|exact d9|exact rfl|refine d8 ?_ ?_)
   . rw[h4] at hres;refine⟨psO ts.tail u,_,⟨Kr,Kr⟩,(q0 ts.tail u [62,61] hq2.1 g1).mono ?_⟩;rintro _ O2 ⟨rfl,rfl⟩;refine Kv i6 ?_;refine⟨psO ts.tail u,_,⟨Kr,Kr⟩,(q0 ts.tail u [62] hq2.1 g2).mono ?_⟩;rintro _ O2 ⟨rfl,rfl⟩;refine Kv i6 ?_;refine⟨psO ts.tail u,_,⟨Kr,Kr⟩,(q0 ts.tail u [60,61] hq2.1 g3).mono ?_⟩;rintro _ O2 ⟨rfl,rfl⟩;refine Kv i6 ?_;refine⟨psO ts.tail u,_,⟨Kr,Kr⟩,(q0 ts.tail u [60] hq2.1 g4).mono ?_⟩;rintro _ O2 ⟨rfl,rfl⟩;refine Kv i6 ?_;refine⟨psO ts.tail u,_,⟨Kr,Kr⟩,(q0 ts.tail u [61] hq2.1 g5).mono ?_⟩;rintro _ O2 ⟨rfl,rfl⟩;refine Kv i6 ?_;refine⟨psO ts.tail u,_,⟨Kr,Kr⟩,(T9 ts.tail u 60 hq2.1).mono ?_⟩;rintro _ O2 ⟨rfl,rfl⟩;refine Kv i6 ?_;refine⟨psO ts.tail u,⟨Kr,Kr⟩,?_⟩;rw[hres];exact⟨_,rfl,rfl⟩
 . rw[h4] at hres;dsimp only at hres;refine EnR i6 Tryz.func205 Tryz.ntmps205 λ_ _ _ _ _=>?_;refine Kv i6 ?_;refine⟨psO ts u,_,⟨Kr,Kr⟩,(X3 ts u [110,111,116] he h1).mono ?_⟩;rintro _ O2 ⟨rfl,rfl⟩;refine Kv i6 ?_;refine⟨psO ts u,_,⟨Kr,Kr⟩,(X3 ts u [40] he h2).mono ?_⟩;rintro _ O2 ⟨rfl,rfl⟩;refine Kv i6 ?_;refine⟨psO ts u,_,⟨Kr,Kr⟩,(q0 ts u [110,111,116] he h1).mono ?_⟩;rintro _ O2 ⟨rfl,rfl⟩;refine Kv i6 ?_;refine⟨psO ts u,_,⟨Kr,Kr⟩,(q0 ts u [40] he h2).mono ?_⟩;rintro _ O2 ⟨rfl,rfl⟩;refine Kv i6 ?_;refine⟨psO ts u,_,⟨Kr,Kr⟩,(q0 ts u [100,105,115,116,97,110,99,101] he h3).mono ?_⟩;rintro _ O2 ⟨rfl,rfl⟩;refine Kv i6 ?_;refine⟨psO ts u,_,⟨Kr,Kr⟩,(q0 ts u [102,105,101,108,100] he h5).mono ?_⟩;rintro _ O2 ⟨rfl,rfl⟩;refine Kv i6 ?_;refine⟨psO ts u,_,⟨Kr,Kr⟩,(q0 ts u [115,104,111,114,116] he h6).mono ?_⟩;rintro _ O2 ⟨rfl,rfl⟩;refine Kv i6 ?_;refine⟨psO ts u,_,⟨Kr,Kr⟩,(T9 ts u 60 he).mono ?_⟩;rintro _ O2 ⟨rfl,rfl⟩;refine Kv i6 ?_;refine⟨psO ts u,⟨Kr,Kr⟩,?_⟩;rw[hres];exact⟨_,rfl,rfl⟩
end Go.Proofs.YteillnfhkeebjaaGreatDoor.Dx
