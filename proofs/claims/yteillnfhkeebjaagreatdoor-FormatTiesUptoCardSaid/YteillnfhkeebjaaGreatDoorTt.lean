/- Chapter 06: units of conditions: a comparison behind its variable. -/
import Derived.Test.YteillnfhkeebjaaGreatDoorTs
set_option linter.all false
namespace Go.Proofs.YteillnfhkeebjaaGreatDoor.Dx
open Go Go.RowKit
set_option maxRecDepth 100000
set_option maxHeartbeats 16000000
theorem r6 {α:Type}{f:α->D}{r:Rs α}{u:Nat->Value}{o:Out}{O':List (Nat×Blk)}(h:RdO f r u o O'):
 (∃a e ts',r= .er a e/\o= .pan (.iface 203 (.agg [iD (a:Int),iD e]))/\O'=psO ts' u)\/∃a ts',r= .ok a ts'/\o= .ret (.d (f a))/\O'=psO ts' u:=by
 cases r with
 |out=>exact h.elim
 |er a e=>obtain⟨ts',h1,h2⟩:=h;exact .inl ⟨a,e,ts',rfl,h1,h2⟩
 |ok a ts=>exact .inr ⟨a,ts,rfl,h.1,h.2⟩
theorem MeetsR.bl {P:Program}{f:FuncId}{args:List Base}{O X:List (Nat×Blk)}{b:Bool}(h:MeetsR P f args O λo O'=>o= .ret (.d (bD b))/\O'=X):MeetsR P f args O λo O'=>o= .ret (.d (.bl b))/\O'=X:=
 ⟨h.fn,λγ V W xs h1 h2 h3 h4=>(h.run γ V W xs h1 h2 h3 h4).mono λe _ ⟨γ',V',o,O',a1,a2,a3,a4,a5,a6,a7,a8,a9,a10⟩=>⟨γ',V', .ret (.d (.bl b)),O',by
  subst a9
  cases e with
  | returned v=>
    have:=(Rep.v_inv (show Rep V' v (.v (.bool b)) from a1)).1
    subst this
    exact Rep.bl b
  |panicked c=>exact a1.elim
  |outgrown=>exact a1.elim,a2,a3,a4,a5,a6,a7,a8,rfl,a10⟩⟩
theorem x9 (ts:List Tk)(u:Nat->Value)(w:List UInt8)(he:EndsT ts)(h:isW w ts=true):MeetsR Tryz.prog 133 [.loc 5000 0, .d (.str w)] (psO ts u) λo O'=>o= .ret (.d (.bl true))/\O'=psO ts.tail u:=by
 refine MeetsR.bl ?_
 obtain⟨t,r,rfl⟩:=he.cons
 refine(a4Z t r u w).mono ?_
 rintro o O' ⟨rfl,rfl⟩
 rw[h];exact⟨rfl,rfl⟩
theorem g7 (ts:List Tk)(u:Nat->Value)(w:List UInt8)(he:EndsT ts)(h:isW w ts=false):MeetsR Tryz.prog 133 [.loc 5000 0, .d (.str w)] (psO ts u) λo O'=>o= .ret (.d (.bl false))/\O'=psO ts u:=by
 refine MeetsR.bl ?_
 obtain⟨t,r,rfl⟩:=he.cons
 refine(a4Z t r u w).mono ?_
 rintro o O' ⟨rfl,rfl⟩
 rw[h];exact⟨rfl,rfl⟩
theorem a0m (ts:List Tk)(u:Nat->Value)(w:List UInt8)(he:EndsT ts)(h:isW w ts=true):MeetsR Tryz.prog 159 [.loc 5000 0, .d (.str w)] (psO ts u) λo O'=>o= .ret (.d (.bl true))/\O'=psO ts u:=by
 refine MeetsR.bl ?_
 obtain⟨t,r,rfl⟩:=he.cons
 refine(a5D t r u w).mono ?_
 rintro o O' ⟨rfl,rfl⟩
 rw[h];exact⟨rfl,rfl⟩
theorem J4 (ts:List Tk)(u:Nat->Value)(w:List UInt8)(he:EndsT ts)(h:isW w ts=false):MeetsR Tryz.prog 159 [.loc 5000 0, .d (.str w)] (psO ts u) λo O'=>o= .ret (.d (.bl false))/\O'=psO ts u:=by
 refine MeetsR.bl ?_
 obtain⟨t,r,rfl⟩:=he.cons
 refine(a5D t r u w).mono ?_
 rintro o O' ⟨rfl,rfl⟩
 rw[h];exact⟨rfl,rfl⟩
theorem Z7 (ts:List Tk)(u:Nat->Value)(e:Int)(he:EndsT ts):MeetsR Tryz.prog 123 [.loc 5000 0, .d (iD e)] (psO ts u) λo O'=>o= .pan (.iface 203 (.agg [iD ((hdT ts).at_:Int),iD e]))/\O'=psO ts u:=by
 obtain⟨t,r,rfl⟩:=he.cons
 exact L0 t r u e
theorem a6a (ts:List Tk)(u:Nat->Value)(d:Nat)(he:EndsT ts)(h:d<16):MeetsR Tryz.prog 160 [.loc 5000 0, .d (iD (d:Int))] (psO ts u) λo O'=>o= .ret (.d (.tup []))/\O'=psO ts u:=by
 obtain⟨t,r,rfl⟩:=he.cons
 have hm:=b7f t r u d
 rw[if_neg (by omega)] at hm
 exact hm
theorem a5Z (ts:List Tk)(u:Nat->Value)(d:Nat)(he:EndsT ts)(h:16<=d):MeetsR Tryz.prog 160 [.loc 5000 0, .d (iD (d:Int))] (psO ts u) λo O'=>o= .pan (.iface 203 (.agg [iD ((hdT ts).at_:Int),iD 2]))/\O'=psO ts u:=by
 obtain⟨t,r,rfl⟩:=he.cons
 refine m9 tok {rs:=[7]} Tryz.func160 rfl (by kernel_rfl) Tryz.ntmps160 (by simp) λB0 W0 V0 lent g0=>?_
 refine Kv {rs:=[7]} ?_
 refine⟨λh2=>?_,λh2=>?_⟩<;>(try simp only[BL] at h2)<;>refine Kv {rs:=[7]} ?_
 . refine⟨psO (t::r) u,_,⟨?_,?_⟩,(L0 t r u 2).mono ?_⟩
   . exact Kr
   . exact Kr
   rintro _ O' ⟨rfl,rfl⟩
   refine Kv {rs:=[7]} ?_
   refine⟨psO (t::r) u,⟨?_,?_⟩,⟨rfl,rfl⟩⟩
   . exact Kr
   . exact Kr
 . exact absurd h2 (by omega)
theorem D7 (ts:List Tk)(u:Nat->Value)(h:QT ts):MeetsR Tryz.prog 136 [.loc 5000 0] (psO ts u) λo O'=>RdO iD (r4 ts) u o O':=by
 obtain⟨t,r,rfl⟩:=h.1.cons
 exact c0O t r u (h.2 t (by simp))
theorem c3X {k d:Nat}{ts:List Tk}(h:isW [110,111,116] ts=true)(hd:d<16):j5 (k+1) d ts=(j5 k (d+1) ts.tail).bind λc ts=> .ok (w6 c) ts:=by
 rw[j5,if_neg (by simp only[Bool.and_eq_true,decide_eq_true_eq];omega),if_pos h]
theorem c3Y {k d:Nat}{ts:List Tk}(h1:isW [110,111,116] ts=false)(h:isW [40] ts=true)(hd:d<16):j5 (k+1) d ts=(condP k (d+1) ts.tail).bind λc ts=>(p7 [41] ts).bind λ_ ts=> .ok c ts:=by
 rw[j5,if_neg (by simp only[Bool.and_eq_true,decide_eq_true_eq];omega),if_neg (by rw[h1];decide),if_pos h]
theorem b3X {k d:Nat}{ts:List Tk}(h:isW [110,111,116] ts=true\/isW [40] ts=true)(hd:16<=d):j5 (k+1) d ts=C8 2 ts:=by
 rw[j5,if_pos (by simp only[Bool.and_eq_true,Bool.or_eq_true,decide_eq_true_eq];exact⟨h,hd⟩)]
theorem c3Z {k d:Nat}{ts:List Tk}(h1:isW [110,111,116] ts=false)(h2:isW [40] ts=false):j5 (k+1) d ts=match L4 ts with|none=>C8 60 ts|some v=>z7 v ts.tail:=by
 rw[j5,if_neg (by rw[h1,h2,Bool.or_false,Bool.false_and];decide),if_neg (by rw[h1];decide),if_neg (by rw[h2];decide)]
 rfl
theorem a4l (ts:List Tk)(u:Nat->Value)(w:List UInt8)(he:EndsT ts):MeetsR Tryz.prog 124 [.loc 5000 0, .d (.sl [[.str w]])] (psO ts u) λo O'=>RdO (λ_=> .tup []) (p7 w ts) u o O':=by
 have h:=c0A [w] ts u he
 have e:U1 [w] ts=p7 w ts:=by
  rw[U1]
  cases p7 w ts<;>rfl
 rw[e] at h
 exact h
theorem c4n (ts:List Tk):(isW [100,105,115,116,97,110,99,101] ts=true/\L4 ts=some 1)\/(isW [100,105,115,116,97,110,99,101] ts=false/\isW [102,105,101,108,100] ts=true/\L4 ts=some 2)\/(isW [100,105,115,116,97,110,99,101] ts=false/\isW [102,105,101,108,100] ts=false/\isW [115,104,111,114,116] ts=true/\L4 ts=some 3)\/(isW [100,105,115,116,97,110,99,101] ts=false/\isW [102,105,101,108,100] ts=false/\isW [115,104,111,114,116] ts=false/\L4 ts=none):=by
 unfold L4
 cases isW [100,105,115,116,97,110,99,101] ts<;>cases isW [102,105,101,108,100] ts<;>cases isW [115,104,111,114,116] ts<;>simp
theorem a7r (ts:List Tk)(v:Int):(isW [62,61] ts=true/\z7 v ts=(r4 ts.tail).bind λn ts=> .ok (leC v n) ts)\/(isW [62,61] ts=false/\isW [62] ts=true/\z7 v ts=(r4 ts.tail).bind λn ts=> .ok (leC v (n+1)) ts)\/
 (isW [62,61] ts=false/\isW [62] ts=false/\isW [60,61] ts=true/\z7 v ts=(r4 ts.tail).bind λn ts=> .ok (w6 (leC v (n+1))) ts)\/
 (isW [62,61] ts=false/\isW [62] ts=false/\isW [60,61] ts=false/\isW [60] ts=true/\z7 v ts=(r4 ts.tail).bind λn ts=> .ok (w6 (leC v n)) ts)\/
 (isW [62,61] ts=false/\isW [62] ts=false/\isW [60,61] ts=false/\isW [60] ts=false/\isW [61] ts=true/\z7 v ts=(r4 ts.tail).bind λn ts=> .ok ⟨2,0,0,[leC v n,w6 (leC v (n+1))]⟩ ts)\/
 (isW [62,61] ts=false/\isW [62] ts=false/\isW [60,61] ts=false/\isW [60] ts=false/\isW [61] ts=false/\z7 v ts=C8 60 ts):=by
 unfold z7
 cases isW [62,61] ts<;>cases isW [62] ts<;>cases isW [60,61] ts<;>cases isW [60] ts<;>cases isW [61] ts<;>simp
theorem Q6 {ts ts':List Tk}{n:Int}(h:r4 ts= .ok n ts'):0<=n/\n<=1125899906842624:=by
 unfold r4 at h
 split at h
 . rename_i m hm
   cases h
   unfold G2 at hm
   split at hm
   . rename_i hk
     cases hm
     exact⟨by omega,hk.2.2⟩
   . cases hm
 . cases h
abbrev b8:Cfg:={rs:=[9,12,16,19,23,27,31,34,37,40,43,46,49,52,56,59,64,67,73,76,81,83,95]}
theorem c4a (k:Nat)(hk:k<=1000000000)(hu:∀j,j<=k->RdC 205 j j5)(hc:∀j,j<=k->RdC 66 j condP):RdC 205 (k+1) j5:=by
 intro d ts u hd hq hn
 obtain⟨res,hres⟩:∃res,res=j5 (k+1) d ts:=⟨_,rfl⟩
 rw[<-hres] at hn⊢
 have he:=hq.1
 have h1:=Bool.eq_false_or_eq_true (isW [110,111,116] ts)
 obtain h1|h1:=h1
 . by_cases hdd:16<=d
   . rw[b3X (.inl h1) hdd] at hres
     refine m9 tok b8 Tryz.func205 rfl (by kernel_rfl) Tryz.ntmps205 (by simp) λB0 W0 V0 lent g0=>?_
     refine Kv b8 ?_
     refine⟨psO ts u,_,⟨?_,?_⟩,(a0m ts u [110,111,116] he h1).mono ?_⟩
     . exact Kr
     . exact Kr
     rintro _ O2 ⟨rfl,rfl⟩
     refine Kv b8 ?_
     refine⟨psO ts u,_,⟨?_,?_⟩,(a5Z ts u d he hdd).mono ?_⟩
     . exact Kr
     . exact Kr
     rintro _ O2 ⟨rfl,rfl⟩
     refine Kv b8 ?_
     refine⟨psO ts u,⟨?_,?_⟩,?_⟩
     . exact Kr
     . exact Kr
     rw[hres]
     exact⟨_,rfl,rfl⟩
   . have hdd':d<16:=by omega
     rw[c3X h1 hdd'] at hres
     have hn1:j5 k (d+1) ts.tail≠ .out:=S9 (by rw[<-hres];exact hn)
     have hr:=hu k (Nat.le_refl _) (d+1) ts.tail u (by omega) (hq.isW h1) hn1
     refine m9 tok b8 Tryz.func205 rfl (by kernel_rfl) Tryz.ntmps205 (by simp) λB0 W0 V0 lent g0=>?_
     refine Kv b8 ?_
     refine⟨psO ts u,_,⟨?_,?_⟩,(a0m ts u [110,111,116] he h1).mono ?_⟩
     . exact Kr
     . exact Kr
     rintro _ O2 ⟨rfl,rfl⟩
     refine Kv b8 ?_
     refine⟨psO ts u,_,⟨?_,?_⟩,(a6a ts u d he hdd').mono ?_⟩
     . exact Kr
     . exact Kr
     rintro _ O2 ⟨rfl,rfl⟩
     refine Kv b8 ?_
     refine⟨psO ts u,_,⟨?_,?_⟩,(x9 ts u [110,111,116] he h1).mono ?_⟩
     . exact Kr
     . exact Kr
     rintro _ O2 ⟨rfl,rfl⟩
     refine Kv b8 ?_
     repeat'((first|(intro hlq;try simp only[SL] at hlq)|refine K9 ?_|refine K8 ?_)<;>refine Kv b8 ?_)
     refine⟨psO ts.tail u,_,⟨?_,?_⟩,(hr).mono ?_⟩
     . exact Kr
     . exact Kr
     intro o O2 ho
     have hh:=r6 ho
     clear ho
     obtain hh|hh:=hh
     . obtain⟨a,e,ts9,hU,rfl,rfl⟩:=hh
       (try dsimp only at hU)
       rw[hU] at hres
       (try rw[Rs.bind_er] at hres)
       refine Kv b8 ?_
       refine⟨psO ts9 u,⟨?_,?_⟩,?_⟩
       . exact Kr
       . exact Kr
       rw[hres]
       exact⟨_,rfl,rfl⟩
     obtain⟨c,ts2,hU,rfl,rfl⟩:=hh
     (try dsimp only at hU)
     rw[hU] at hres
     (try rw[Rs.bind_ok] at hres)
     refine Kv b8 ?_
     refine Meets.k (M6 c) ?_
     refine Kv b8 ?_
     refine⟨psO ts2 u, .d (w6 c).d,?_,?_⟩
     rotate_left 1
     . rw[hres]
       exact⟨rfl,rfl⟩
     repeat'(first|exact True.intro|exact rfl|refine And.intro ?_ ?_)
 have h2:=Bool.eq_false_or_eq_true (isW [40] ts)
 obtain h2|h2:=h2
 . by_cases hdd:16<=d
   . rw[b3X (.inr h2) hdd] at hres
     refine m9 tok b8 Tryz.func205 rfl (by kernel_rfl) Tryz.ntmps205 (by simp) λB0 W0 V0 lent g0=>?_
     refine Kv b8 ?_
     refine⟨psO ts u,_,⟨?_,?_⟩,(J4 ts u [110,111,116] he h1).mono ?_⟩
     . exact Kr
     . exact Kr
     rintro _ O2 ⟨rfl,rfl⟩
     refine Kv b8 ?_
     refine⟨psO ts u,_,⟨?_,?_⟩,(a0m ts u [40] he h2).mono ?_⟩
     . exact Kr
     . exact Kr
     rintro _ O2 ⟨rfl,rfl⟩
     refine Kv b8 ?_
     refine⟨psO ts u,_,⟨?_,?_⟩,(a5Z ts u d he hdd).mono ?_⟩
     . exact Kr
     . exact Kr
     rintro _ O2 ⟨rfl,rfl⟩
     refine Kv b8 ?_
     refine⟨psO ts u,⟨?_,?_⟩,?_⟩
     . exact Kr
     . exact Kr
     rw[hres]
     exact⟨_,rfl,rfl⟩
   . have hdd':d<16:=by omega
     rw[c3Y h1 h2 hdd'] at hres
     have hn1:condP k (d+1) ts.tail≠ .out:=S9 (by rw[<-hres];exact hn)
     have hr:=hc k (Nat.le_refl _) (d+1) ts.tail u (by omega) (hq.isW h2) hn1
     have hkp:=(X3 k).2.2.2.1 (d+1) ts.tail (hq.isW h2)
     refine m9 tok b8 Tryz.func205 rfl (by kernel_rfl) Tryz.ntmps205 (by simp) λB0 W0 V0 lent g0=>?_
     refine Kv b8 ?_
     refine⟨psO ts u,_,⟨?_,?_⟩,(J4 ts u [110,111,116] he h1).mono ?_⟩
     . exact Kr
     . exact Kr
     rintro _ O2 ⟨rfl,rfl⟩
     refine Kv b8 ?_
     refine⟨psO ts u,_,⟨?_,?_⟩,(a0m ts u [40] he h2).mono ?_⟩
     . exact Kr
     . exact Kr
     rintro _ O2 ⟨rfl,rfl⟩
     refine Kv b8 ?_
     refine⟨psO ts u,_,⟨?_,?_⟩,(a6a ts u d he hdd').mono ?_⟩
     . exact Kr
     . exact Kr
     rintro _ O2 ⟨rfl,rfl⟩
     refine Kv b8 ?_
     refine⟨psO ts u,_,⟨?_,?_⟩,(g7 ts u [110,111,116] he h1).mono ?_⟩
     . exact Kr
     . exact Kr
     rintro _ O2 ⟨rfl,rfl⟩
     refine Kv b8 ?_
     refine⟨psO ts u,_,⟨?_,?_⟩,(x9 ts u [40] he h2).mono ?_⟩
     . exact Kr
     . exact Kr
     rintro _ O2 ⟨rfl,rfl⟩
     refine Kv b8 ?_
     repeat'((first|(intro hlq;try simp only[SL] at hlq)|refine K9 ?_|refine K8 ?_)<;>refine Kv b8 ?_)
     refine⟨psO ts.tail u,_,⟨?_,?_⟩,(hr).mono ?_⟩
     . exact Kr
     . exact Kr
     intro o O2 ho
     have hh:=r6 ho
     clear ho
     obtain hh|hh:=hh
     . obtain⟨a,e,ts9,hU,rfl,rfl⟩:=hh
       (try dsimp only at hU)
       rw[hU] at hres
       (try rw[Rs.bind_er] at hres)
       refine Kv b8 ?_
       refine⟨psO ts9 u,⟨?_,?_⟩,?_⟩
       . exact Kr
       . exact Kr
       rw[hres]
       exact⟨_,rfl,rfl⟩
     obtain⟨c,ts2,hU,rfl,rfl⟩:=hh
     (try dsimp only at hU)
     rw[hU] at hres
     (try rw[Rs.bind_ok] at hres)
     refine Kv b8 ?_
     have he2:EndsT ts2:=(hkp _ _ hU).1
     refine⟨psO ts2 u,_,⟨?_,?_⟩,(a4l ts2 u [41] he2).mono ?_⟩
     . exact Kr
     . exact Kr
     intro o O2 ho
     have hh:=r6 ho
     clear ho
     obtain hh|hh:=hh
     . obtain⟨a,e,ts9,hU,rfl,rfl⟩:=hh
       (try dsimp only at hU)
       rw[hU] at hres
       (try rw[Rs.bind_er] at hres)
       refine Kv b8 ?_
       refine⟨psO ts9 u,⟨?_,?_⟩,?_⟩
       . exact Kr
       . exact Kr
       rw[hres]
       exact⟨_,rfl,rfl⟩
     obtain⟨c2,ts3,hU,rfl,rfl⟩:=hh
     (try dsimp only at hU)
     rw[hU] at hres
     (try rw[Rs.bind_ok] at hres)
     refine Kv b8 ?_
     refine⟨psO ts3 u, .d c.d,?_,?_⟩
     rotate_left 1
     . rw[hres]
       exact⟨rfl,rfl⟩
     repeat'(first|exact True.intro|exact rfl|refine And.intro ?_ ?_)
 rw[c3Z h1 h2] at hres
 have hv:=c4n ts
 obtain⟨h3,h4⟩|⟨h3,h5,h4⟩|⟨h3,h5,h6,h4⟩|⟨h3,h5,h6,h4⟩:=hv
 . rw [h4] at hres
   dsimp only at hres
   have hq2:=hq.isW h3
   refine m9 tok b8 Tryz.func205 rfl (by kernel_rfl) Tryz.ntmps205 (by simp) λB0 W0 V0 lent g0=>?_
   refine Kv b8 ?_
   refine⟨psO ts u,_,⟨?_,?_⟩,(J4 ts u [110,111,116] he h1).mono ?_⟩
   . exact Kr
   . exact Kr
   rintro _ O2 ⟨rfl,rfl⟩
   refine Kv b8 ?_
   refine⟨psO ts u,_,⟨?_,?_⟩,(J4 ts u [40] he h2).mono ?_⟩
   . exact Kr
   . exact Kr
   rintro _ O2 ⟨rfl,rfl⟩
   refine Kv b8 ?_
   refine⟨psO ts u,_,⟨?_,?_⟩,(g7 ts u [110,111,116] he h1).mono ?_⟩
   . exact Kr
   . exact Kr
   rintro _ O2 ⟨rfl,rfl⟩
   refine Kv b8 ?_
   refine⟨psO ts u,_,⟨?_,?_⟩,(g7 ts u [40] he h2).mono ?_⟩
   . exact Kr
   . exact Kr
   rintro _ O2 ⟨rfl,rfl⟩
   refine Kv b8 ?_
   refine⟨psO ts u,_,⟨?_,?_⟩,(x9 ts u [100,105,115,116,97,110,99,101] he h3).mono ?_⟩
   . exact Kr
   . exact Kr
   rintro _ O2 ⟨rfl,rfl⟩
   refine Kv b8 ?_
   have hr:=a7r ts.tail 1
   obtain⟨g1,h4⟩|⟨g1,g2,h4⟩|⟨g1,g2,g3,h4⟩|⟨g1,g2,g3,g4,h4⟩|⟨g1,g2,g3,g4,g5,h4⟩|⟨g1,g2,g3,g4,g5,h4⟩:=hr
   . rw [h4] at hres
     have hnum:=D7 ts.tail.tail u (hq2.isW g1)
     refine⟨psO ts.tail u,_,⟨?_,?_⟩,(x9 ts.tail u [62,61] hq2.1 g1).mono ?_⟩
     . exact Kr
     . exact Kr
     rintro _ O2 ⟨rfl,rfl⟩
     refine Kv b8 ?_
     refine⟨psO ts.tail.tail u,_,⟨?_,?_⟩,(hnum).mono ?_⟩
     . exact Kr
     . exact Kr
     intro o O2 ho
     have hh:=r6 ho
     clear ho
     obtain hh|hh:=hh
     . obtain⟨a,e,ts9,hU,rfl,rfl⟩:=hh
       (try dsimp only at hU)
       rw[hU] at hres
       (try rw[Rs.bind_er] at hres)
       refine Kv b8 ?_
       refine⟨psO ts9 u,⟨?_,?_⟩,?_⟩
       . exact Kr
       . exact Kr
       rw[hres]
       exact⟨_,rfl,rfl⟩
     obtain⟨n,ts3,hU,rfl,rfl⟩:=hh
     (try dsimp only at hU)
     rw[hU] at hres
     (try rw[Rs.bind_ok] at hres)
     refine Kv b8 ?_
     refine Meets.k (B6 1 n) ?_
     refine Kv b8 ?_
     refine⟨psO ts3 u, .d (leC 1 n).d,?_,?_⟩
     rotate_left 1
     . rw[hres]
       exact⟨rfl,rfl⟩
     repeat'(first|exact True.intro|exact rfl|refine And.intro ?_ ?_)
   . rw [h4] at hres
     have hnum:=D7 ts.tail.tail u (hq2.isW g2)
     refine⟨psO ts.tail u,_,⟨?_,?_⟩,(g7 ts.tail u [62,61] hq2.1 g1).mono ?_⟩
     . exact Kr
     . exact Kr
     rintro _ O2 ⟨rfl,rfl⟩
     refine Kv b8 ?_
     refine⟨psO ts.tail u,_,⟨?_,?_⟩,(x9 ts.tail u [62] hq2.1 g2).mono ?_⟩
     . exact Kr
     . exact Kr
     rintro _ O2 ⟨rfl,rfl⟩
     refine Kv b8 ?_
     refine⟨psO ts.tail.tail u,_,⟨?_,?_⟩,(hnum).mono ?_⟩
     . exact Kr
     . exact Kr
     intro o O2 ho
     have hh:=r6 ho
     clear ho
     obtain hh|hh:=hh
     . obtain⟨a,e,ts9,hU,rfl,rfl⟩:=hh
       (try dsimp only at hU)
       rw[hU] at hres
       (try rw[Rs.bind_er] at hres)
       refine Kv b8 ?_
       refine⟨psO ts9 u,⟨?_,?_⟩,?_⟩
       . exact Kr
       . exact Kr
       rw[hres]
       exact⟨_,rfl,rfl⟩
     obtain⟨n,ts3,hU,rfl,rfl⟩:=hh
     (try dsimp only at hU)
     rw[hU] at hres
     (try rw[Rs.bind_ok] at hres)
     refine Kv b8 ?_
     have hle:=Q6 hU
     repeat'((first|(intro hlq;try simp only[SL] at hlq)|refine K9 ?_|refine K8 ?_)<;>refine Kv b8 ?_)
     refine Meets.k (B6 1 (n+1)) ?_
     refine Kv b8 ?_
     refine⟨psO ts3 u, .d (leC 1 (n+1)).d,?_,?_⟩
     rotate_left 1
     . rw[hres]
       exact⟨rfl,rfl⟩
     repeat'(first|exact True.intro|exact rfl|refine And.intro ?_ ?_)
   . rw [h4] at hres
     have hnum:=D7 ts.tail.tail u (hq2.isW g3)
     refine⟨psO ts.tail u,_,⟨?_,?_⟩,(g7 ts.tail u [62,61] hq2.1 g1).mono ?_⟩
     . exact Kr
     . exact Kr
     rintro _ O2 ⟨rfl,rfl⟩
     refine Kv b8 ?_
     refine⟨psO ts.tail u,_,⟨?_,?_⟩,(g7 ts.tail u [62] hq2.1 g2).mono ?_⟩
     . exact Kr
     . exact Kr
     rintro _ O2 ⟨rfl,rfl⟩
     refine Kv b8 ?_
     refine⟨psO ts.tail u,_,⟨?_,?_⟩,(x9 ts.tail u [60,61] hq2.1 g3).mono ?_⟩
     . exact Kr
     . exact Kr
     rintro _ O2 ⟨rfl,rfl⟩
     refine Kv b8 ?_
     refine⟨psO ts.tail.tail u,_,⟨?_,?_⟩,(hnum).mono ?_⟩
     . exact Kr
     . exact Kr
     intro o O2 ho
     have hh:=r6 ho
     clear ho
     obtain hh|hh:=hh
     . obtain⟨a,e,ts9,hU,rfl,rfl⟩:=hh
       (try dsimp only at hU)
       rw[hU] at hres
       (try rw[Rs.bind_er] at hres)
       refine Kv b8 ?_
       refine⟨psO ts9 u,⟨?_,?_⟩,?_⟩
       . exact Kr
       . exact Kr
       rw[hres]
       exact⟨_,rfl,rfl⟩
     obtain⟨n,ts3,hU,rfl,rfl⟩:=hh
     (try dsimp only at hU)
     rw[hU] at hres
     (try rw[Rs.bind_ok] at hres)
     refine Kv b8 ?_
     have hle:=Q6 hU
     repeat'((first|(intro hlq;try simp only[SL] at hlq)|refine K9 ?_|refine K8 ?_)<;>refine Kv b8 ?_)
     refine Meets.k (B6 1 (n+1)) ?_
     refine Kv b8 ?_
     refine Meets.k (M6 (leC 1 (n+1))) ?_
     refine Kv b8 ?_
     refine⟨psO ts3 u, .d (w6 (leC 1 (n+1))).d,?_,?_⟩
     rotate_left 1
     . rw[hres]
       exact⟨rfl,rfl⟩
     repeat'(first|exact True.intro|exact rfl|refine And.intro ?_ ?_)
   . rw [h4] at hres
     have hnum:=D7 ts.tail.tail u (hq2.isW g4)
     refine⟨psO ts.tail u,_,⟨?_,?_⟩,(g7 ts.tail u [62,61] hq2.1 g1).mono ?_⟩
     . exact Kr
     . exact Kr
     rintro _ O2 ⟨rfl,rfl⟩
     refine Kv b8 ?_
     refine⟨psO ts.tail u,_,⟨?_,?_⟩,(g7 ts.tail u [62] hq2.1 g2).mono ?_⟩
     . exact Kr
     . exact Kr
     rintro _ O2 ⟨rfl,rfl⟩
     refine Kv b8 ?_
     refine⟨psO ts.tail u,_,⟨?_,?_⟩,(g7 ts.tail u [60,61] hq2.1 g3).mono ?_⟩
     . exact Kr
     . exact Kr
     rintro _ O2 ⟨rfl,rfl⟩
     refine Kv b8 ?_
     refine⟨psO ts.tail u,_,⟨?_,?_⟩,(x9 ts.tail u [60] hq2.1 g4).mono ?_⟩
     . exact Kr
     . exact Kr
     rintro _ O2 ⟨rfl,rfl⟩
     refine Kv b8 ?_
     refine⟨psO ts.tail.tail u,_,⟨?_,?_⟩,(hnum).mono ?_⟩
     . exact Kr
     . exact Kr
     intro o O2 ho
     have hh:=r6 ho
     clear ho
     obtain hh|hh:=hh
     . obtain⟨a,e,ts9,hU,rfl,rfl⟩:=hh
       (try dsimp only at hU)
       rw[hU] at hres
       (try rw[Rs.bind_er] at hres)
       refine Kv b8 ?_
       refine⟨psO ts9 u,⟨?_,?_⟩,?_⟩
       . exact Kr
       . exact Kr
       rw[hres]
       exact⟨_,rfl,rfl⟩
     obtain⟨n,ts3,hU,rfl,rfl⟩:=hh
     (try dsimp only at hU)
     rw[hU] at hres
     (try rw[Rs.bind_ok] at hres)
     refine Kv b8 ?_
     refine Meets.k (B6 1 n) ?_
     refine Kv b8 ?_
     refine Meets.k (M6 (leC 1 n)) ?_
     refine Kv b8 ?_
     refine⟨psO ts3 u, .d (w6 (leC 1 n)).d,?_,?_⟩
     rotate_left 1
     . rw[hres]
       exact⟨rfl,rfl⟩
     repeat'(first|exact True.intro|exact rfl|refine And.intro ?_ ?_)
   . rw [h4] at hres
     have hnum:=D7 ts.tail.tail u (hq2.isW g5)
     refine⟨psO ts.tail u,_,⟨?_,?_⟩,(g7 ts.tail u [62,61] hq2.1 g1).mono ?_⟩
     . exact Kr
     . exact Kr
     rintro _ O2 ⟨rfl,rfl⟩
     refine Kv b8 ?_
     refine⟨psO ts.tail u,_,⟨?_,?_⟩,(g7 ts.tail u [62] hq2.1 g2).mono ?_⟩
     . exact Kr
     . exact Kr
     rintro _ O2 ⟨rfl,rfl⟩
     refine Kv b8 ?_
     refine⟨psO ts.tail u,_,⟨?_,?_⟩,(g7 ts.tail u [60,61] hq2.1 g3).mono ?_⟩
     . exact Kr
     . exact Kr
     rintro _ O2 ⟨rfl,rfl⟩
     refine Kv b8 ?_
     refine⟨psO ts.tail u,_,⟨?_,?_⟩,(g7 ts.tail u [60] hq2.1 g4).mono ?_⟩
     . exact Kr
     . exact Kr
     rintro _ O2 ⟨rfl,rfl⟩
     refine Kv b8 ?_
     refine⟨psO ts.tail u,_,⟨?_,?_⟩,(x9 ts.tail u [61] hq2.1 g5).mono ?_⟩
     . exact Kr
     . exact Kr
     rintro _ O2 ⟨rfl,rfl⟩
     refine Kv b8 ?_
     refine⟨psO ts.tail.tail u,_,⟨?_,?_⟩,(hnum).mono ?_⟩
     . exact Kr
     . exact Kr
     intro o O2 ho
     have hh:=r6 ho
     clear ho
     obtain hh|hh:=hh
     . obtain⟨a,e,ts9,hU,rfl,rfl⟩:=hh
       (try dsimp only at hU)
       rw[hU] at hres
       (try rw[Rs.bind_er] at hres)
       refine Kv b8 ?_
       refine⟨psO ts9 u,⟨?_,?_⟩,?_⟩
       . exact Kr
       . exact Kr
       rw[hres]
       exact⟨_,rfl,rfl⟩
     obtain⟨n,ts3,hU,rfl,rfl⟩:=hh
     (try dsimp only at hU)
     rw[hU] at hres
     (try rw[Rs.bind_ok] at hres)
     refine Kv b8 ?_
     have hle:=Q6 hU
     refine Meets.k (B6 1 n) ?_
     refine Kv b8 ?_
     repeat'((first|(intro hlq;try simp only[SL] at hlq)|refine K9 ?_|refine K8 ?_)<;>refine Kv b8 ?_)
     refine Meets.k (B6 1 (n+1)) ?_
     refine Kv b8 ?_
     refine Meets.k (M6 (leC 1 (n+1))) ?_
     refine Kv b8 ?_
     refine⟨psO ts3 u, .d (⟨2,0,0,[leC 1 n,w6 (leC 1 (n+1))]⟩:Cond).d,?_,?_⟩
     rotate_left 1
     . rw[hres]
       exact⟨rfl,rfl⟩
     repeat'(first|exact True.intro|exact rfl|refine And.intro ?_ ?_)
   . rw[h4] at hres
     refine⟨psO ts.tail u,_,⟨?_,?_⟩,(g7 ts.tail u [62,61] hq2.1 g1).mono ?_⟩
     . exact Kr
     . exact Kr
     rintro _ O2 ⟨rfl,rfl⟩
     refine Kv b8 ?_
     refine⟨psO ts.tail u,_,⟨?_,?_⟩,(g7 ts.tail u [62] hq2.1 g2).mono ?_⟩
     . exact Kr
     . exact Kr
     rintro _ O2 ⟨rfl,rfl⟩
     refine Kv b8 ?_
     refine⟨psO ts.tail u,_,⟨?_,?_⟩,(g7 ts.tail u [60,61] hq2.1 g3).mono ?_⟩
     . exact Kr
     . exact Kr
     rintro _ O2 ⟨rfl,rfl⟩
     refine Kv b8 ?_
     refine⟨psO ts.tail u,_,⟨?_,?_⟩,(g7 ts.tail u [60] hq2.1 g4).mono ?_⟩
     . exact Kr
     . exact Kr
     rintro _ O2 ⟨rfl,rfl⟩
     refine Kv b8 ?_
     refine⟨psO ts.tail u,_,⟨?_,?_⟩,(g7 ts.tail u [61] hq2.1 g5).mono ?_⟩
     . exact Kr
     . exact Kr
     rintro _ O2 ⟨rfl,rfl⟩
     refine Kv b8 ?_
     refine⟨psO ts.tail u,_,⟨?_,?_⟩,(Z7 ts.tail u 60 hq2.1).mono ?_⟩
     . exact Kr
     . exact Kr
     rintro _ O2 ⟨rfl,rfl⟩
     refine Kv b8 ?_
     refine⟨psO ts.tail u,⟨?_,?_⟩,?_⟩
     . exact Kr
     . exact Kr
     rw[hres]
     exact⟨_,rfl,rfl⟩
 . rw [h4] at hres
   dsimp only at hres
   have hq2:=hq.isW h5
   refine m9 tok b8 Tryz.func205 rfl (by kernel_rfl) Tryz.ntmps205 (by simp) λB0 W0 V0 lent g0=>?_
   refine Kv b8 ?_
   refine⟨psO ts u,_,⟨?_,?_⟩,(J4 ts u [110,111,116] he h1).mono ?_⟩
   . exact Kr
   . exact Kr
   rintro _ O2 ⟨rfl,rfl⟩
   refine Kv b8 ?_
   refine⟨psO ts u,_,⟨?_,?_⟩,(J4 ts u [40] he h2).mono ?_⟩
   . exact Kr
   . exact Kr
   rintro _ O2 ⟨rfl,rfl⟩
   refine Kv b8 ?_
   refine⟨psO ts u,_,⟨?_,?_⟩,(g7 ts u [110,111,116] he h1).mono ?_⟩
   . exact Kr
   . exact Kr
   rintro _ O2 ⟨rfl,rfl⟩
   refine Kv b8 ?_
   refine⟨psO ts u,_,⟨?_,?_⟩,(g7 ts u [40] he h2).mono ?_⟩
   . exact Kr
   . exact Kr
   rintro _ O2 ⟨rfl,rfl⟩
   refine Kv b8 ?_
   refine⟨psO ts u,_,⟨?_,?_⟩,(g7 ts u [100,105,115,116,97,110,99,101] he h3).mono ?_⟩
   . exact Kr
   . exact Kr
   rintro _ O2 ⟨rfl,rfl⟩
   refine Kv b8 ?_
   refine⟨psO ts u,_,⟨?_,?_⟩,(x9 ts u [102,105,101,108,100] he h5).mono ?_⟩
   . exact Kr
   . exact Kr
   rintro _ O2 ⟨rfl,rfl⟩
   refine Kv b8 ?_
   have hr:=a7r ts.tail 2
   obtain⟨g1,h4⟩|⟨g1,g2,h4⟩|⟨g1,g2,g3,h4⟩|⟨g1,g2,g3,g4,h4⟩|⟨g1,g2,g3,g4,g5,h4⟩|⟨g1,g2,g3,g4,g5,h4⟩:=hr
   . rw [h4] at hres
     have hnum:=D7 ts.tail.tail u (hq2.isW g1)
     refine⟨psO ts.tail u,_,⟨?_,?_⟩,(x9 ts.tail u [62,61] hq2.1 g1).mono ?_⟩
     . exact Kr
     . exact Kr
     rintro _ O2 ⟨rfl,rfl⟩
     refine Kv b8 ?_
     refine⟨psO ts.tail.tail u,_,⟨?_,?_⟩,(hnum).mono ?_⟩
     . exact Kr
     . exact Kr
     intro o O2 ho
     have hh:=r6 ho
     clear ho
     obtain hh|hh:=hh
     . obtain⟨a,e,ts9,hU,rfl,rfl⟩:=hh
       (try dsimp only at hU)
       rw[hU] at hres
       (try rw[Rs.bind_er] at hres)
       refine Kv b8 ?_
       refine⟨psO ts9 u,⟨?_,?_⟩,?_⟩
       . exact Kr
       . exact Kr
       rw[hres]
       exact⟨_,rfl,rfl⟩
     obtain⟨n,ts3,hU,rfl,rfl⟩:=hh
     (try dsimp only at hU)
     rw[hU] at hres
     (try rw[Rs.bind_ok] at hres)
     refine Kv b8 ?_
     refine Meets.k (B6 2 n) ?_
     refine Kv b8 ?_
     refine⟨psO ts3 u, .d (leC 2 n).d,?_,?_⟩
     rotate_left 1
     . rw[hres]
       exact⟨rfl,rfl⟩
     repeat'(first|exact True.intro|exact rfl|refine And.intro ?_ ?_)
   . rw [h4] at hres
     have hnum:=D7 ts.tail.tail u (hq2.isW g2)
     refine⟨psO ts.tail u,_,⟨?_,?_⟩,(g7 ts.tail u [62,61] hq2.1 g1).mono ?_⟩
     . exact Kr
     . exact Kr
     rintro _ O2 ⟨rfl,rfl⟩
     refine Kv b8 ?_
     refine⟨psO ts.tail u,_,⟨?_,?_⟩,(x9 ts.tail u [62] hq2.1 g2).mono ?_⟩
     . exact Kr
     . exact Kr
     rintro _ O2 ⟨rfl,rfl⟩
     refine Kv b8 ?_
     refine⟨psO ts.tail.tail u,_,⟨?_,?_⟩,(hnum).mono ?_⟩
     . exact Kr
     . exact Kr
     intro o O2 ho
     have hh:=r6 ho
     clear ho
     obtain hh|hh:=hh
     . obtain⟨a,e,ts9,hU,rfl,rfl⟩:=hh
       (try dsimp only at hU)
       rw[hU] at hres
       (try rw[Rs.bind_er] at hres)
       refine Kv b8 ?_
       refine⟨psO ts9 u,⟨?_,?_⟩,?_⟩
       . exact Kr
       . exact Kr
       rw[hres]
       exact⟨_,rfl,rfl⟩
     obtain⟨n,ts3,hU,rfl,rfl⟩:=hh
     (try dsimp only at hU)
     rw[hU] at hres
     (try rw[Rs.bind_ok] at hres)
     refine Kv b8 ?_
     have hle:=Q6 hU
     repeat'((first|(intro hlq;try simp only[SL] at hlq)|refine K9 ?_|refine K8 ?_)<;>refine Kv b8 ?_)
     refine Meets.k (B6 2 (n+1)) ?_
     refine Kv b8 ?_
     refine⟨psO ts3 u, .d (leC 2 (n+1)).d,?_,?_⟩
     rotate_left 1
     . rw[hres]
       exact⟨rfl,rfl⟩
     repeat'(first|exact True.intro|exact rfl|refine And.intro ?_ ?_)
   . rw [h4] at hres
     have hnum:=D7 ts.tail.tail u (hq2.isW g3)
     refine⟨psO ts.tail u,_,⟨?_,?_⟩,(g7 ts.tail u [62,61] hq2.1 g1).mono ?_⟩
     . exact Kr
     . exact Kr
     rintro _ O2 ⟨rfl,rfl⟩
     refine Kv b8 ?_
     refine⟨psO ts.tail u,_,⟨?_,?_⟩,(g7 ts.tail u [62] hq2.1 g2).mono ?_⟩
     . exact Kr
     . exact Kr
     rintro _ O2 ⟨rfl,rfl⟩
     refine Kv b8 ?_
     refine⟨psO ts.tail u,_,⟨?_,?_⟩,(x9 ts.tail u [60,61] hq2.1 g3).mono ?_⟩
     . exact Kr
     . exact Kr
     rintro _ O2 ⟨rfl,rfl⟩
     refine Kv b8 ?_
     refine⟨psO ts.tail.tail u,_,⟨?_,?_⟩,(hnum).mono ?_⟩
     . exact Kr
     . exact Kr
     intro o O2 ho
     have hh:=r6 ho
     clear ho
     obtain hh|hh:=hh
     . obtain⟨a,e,ts9,hU,rfl,rfl⟩:=hh
       (try dsimp only at hU)
       rw[hU] at hres
       (try rw[Rs.bind_er] at hres)
       refine Kv b8 ?_
       refine⟨psO ts9 u,⟨?_,?_⟩,?_⟩
       . exact Kr
       . exact Kr
       rw[hres]
       exact⟨_,rfl,rfl⟩
     obtain⟨n,ts3,hU,rfl,rfl⟩:=hh
     (try dsimp only at hU)
     rw[hU] at hres
     (try rw[Rs.bind_ok] at hres)
     refine Kv b8 ?_
     have hle:=Q6 hU
     repeat'((first|(intro hlq;try simp only[SL] at hlq)|refine K9 ?_|refine K8 ?_)<;>refine Kv b8 ?_)
     refine Meets.k (B6 2 (n+1)) ?_
     refine Kv b8 ?_
     refine Meets.k (M6 (leC 2 (n+1))) ?_
     refine Kv b8 ?_
     refine⟨psO ts3 u, .d (w6 (leC 2 (n+1))).d,?_,?_⟩
     rotate_left 1
     . rw[hres]
       exact⟨rfl,rfl⟩
     repeat'(first|exact True.intro|exact rfl|refine And.intro ?_ ?_)
   . rw [h4] at hres
     have hnum:=D7 ts.tail.tail u (hq2.isW g4)
     refine⟨psO ts.tail u,_,⟨?_,?_⟩,(g7 ts.tail u [62,61] hq2.1 g1).mono ?_⟩
     . exact Kr
     . exact Kr
     rintro _ O2 ⟨rfl,rfl⟩
     refine Kv b8 ?_
     refine⟨psO ts.tail u,_,⟨?_,?_⟩,(g7 ts.tail u [62] hq2.1 g2).mono ?_⟩
     . exact Kr
     . exact Kr
     rintro _ O2 ⟨rfl,rfl⟩
     refine Kv b8 ?_
     refine⟨psO ts.tail u,_,⟨?_,?_⟩,(g7 ts.tail u [60,61] hq2.1 g3).mono ?_⟩
     . exact Kr
     . exact Kr
     rintro _ O2 ⟨rfl,rfl⟩
     refine Kv b8 ?_
     refine⟨psO ts.tail u,_,⟨?_,?_⟩,(x9 ts.tail u [60] hq2.1 g4).mono ?_⟩
     . exact Kr
     . exact Kr
     rintro _ O2 ⟨rfl,rfl⟩
     refine Kv b8 ?_
     refine⟨psO ts.tail.tail u,_,⟨?_,?_⟩,(hnum).mono ?_⟩
     . exact Kr
     . exact Kr
     intro o O2 ho
     have hh:=r6 ho
     clear ho
     obtain hh|hh:=hh
     . obtain⟨a,e,ts9,hU,rfl,rfl⟩:=hh
       (try dsimp only at hU)
       rw[hU] at hres
       (try rw[Rs.bind_er] at hres)
       refine Kv b8 ?_
       refine⟨psO ts9 u,⟨?_,?_⟩,?_⟩
       . exact Kr
       . exact Kr
       rw[hres]
       exact⟨_,rfl,rfl⟩
     obtain⟨n,ts3,hU,rfl,rfl⟩:=hh
     (try dsimp only at hU)
     rw[hU] at hres
     (try rw[Rs.bind_ok] at hres)
     refine Kv b8 ?_
     refine Meets.k (B6 2 n) ?_
     refine Kv b8 ?_
     refine Meets.k (M6 (leC 2 n)) ?_
     refine Kv b8 ?_
     refine⟨psO ts3 u, .d (w6 (leC 2 n)).d,?_,?_⟩
     rotate_left 1
     . rw[hres]
       exact⟨rfl,rfl⟩
     repeat'(first|exact True.intro|exact rfl|refine And.intro ?_ ?_)
   . rw [h4] at hres
     have hnum:=D7 ts.tail.tail u (hq2.isW g5)
     refine⟨psO ts.tail u,_,⟨?_,?_⟩,(g7 ts.tail u [62,61] hq2.1 g1).mono ?_⟩
     . exact Kr
     . exact Kr
     rintro _ O2 ⟨rfl,rfl⟩
     refine Kv b8 ?_
     refine⟨psO ts.tail u,_,⟨?_,?_⟩,(g7 ts.tail u [62] hq2.1 g2).mono ?_⟩
     . exact Kr
     . exact Kr
     rintro _ O2 ⟨rfl,rfl⟩
     refine Kv b8 ?_
     refine⟨psO ts.tail u,_,⟨?_,?_⟩,(g7 ts.tail u [60,61] hq2.1 g3).mono ?_⟩
     . exact Kr
     . exact Kr
     rintro _ O2 ⟨rfl,rfl⟩
     refine Kv b8 ?_
     refine⟨psO ts.tail u,_,⟨?_,?_⟩,(g7 ts.tail u [60] hq2.1 g4).mono ?_⟩
     . exact Kr
     . exact Kr
     rintro _ O2 ⟨rfl,rfl⟩
     refine Kv b8 ?_
     refine⟨psO ts.tail u,_,⟨?_,?_⟩,(x9 ts.tail u [61] hq2.1 g5).mono ?_⟩
     . exact Kr
     . exact Kr
     rintro _ O2 ⟨rfl,rfl⟩
     refine Kv b8 ?_
     refine⟨psO ts.tail.tail u,_,⟨?_,?_⟩,(hnum).mono ?_⟩
     . exact Kr
     . exact Kr
     intro o O2 ho
     have hh:=r6 ho
     clear ho
     obtain hh|hh:=hh
     . obtain⟨a,e,ts9,hU,rfl,rfl⟩:=hh
       (try dsimp only at hU)
       rw[hU] at hres
       (try rw[Rs.bind_er] at hres)
       refine Kv b8 ?_
       refine⟨psO ts9 u,⟨?_,?_⟩,?_⟩
       . exact Kr
       . exact Kr
       rw[hres]
       exact⟨_,rfl,rfl⟩
     obtain⟨n,ts3,hU,rfl,rfl⟩:=hh
     (try dsimp only at hU)
     rw[hU] at hres
     (try rw[Rs.bind_ok] at hres)
     refine Kv b8 ?_
     have hle:=Q6 hU
     refine Meets.k (B6 2 n) ?_
     refine Kv b8 ?_
     repeat'((first|(intro hlq;try simp only[SL] at hlq)|refine K9 ?_|refine K8 ?_)<;>refine Kv b8 ?_)
     refine Meets.k (B6 2 (n+1)) ?_
     refine Kv b8 ?_
     refine Meets.k (M6 (leC 2 (n+1))) ?_
     refine Kv b8 ?_
     refine⟨psO ts3 u, .d (⟨2,0,0,[leC 2 n,w6 (leC 2 (n+1))]⟩:Cond).d,?_,?_⟩
     rotate_left 1
     . rw[hres]
       exact⟨rfl,rfl⟩
     repeat'(first|exact True.intro|exact rfl|refine And.intro ?_ ?_)
   . rw[h4] at hres
     refine⟨psO ts.tail u,_,⟨?_,?_⟩,(g7 ts.tail u [62,61] hq2.1 g1).mono ?_⟩
     . exact Kr
     . exact Kr
     rintro _ O2 ⟨rfl,rfl⟩
     refine Kv b8 ?_
     refine⟨psO ts.tail u,_,⟨?_,?_⟩,(g7 ts.tail u [62] hq2.1 g2).mono ?_⟩
     . exact Kr
     . exact Kr
     rintro _ O2 ⟨rfl,rfl⟩
     refine Kv b8 ?_
     refine⟨psO ts.tail u,_,⟨?_,?_⟩,(g7 ts.tail u [60,61] hq2.1 g3).mono ?_⟩
     . exact Kr
     . exact Kr
     rintro _ O2 ⟨rfl,rfl⟩
     refine Kv b8 ?_
     refine⟨psO ts.tail u,_,⟨?_,?_⟩,(g7 ts.tail u [60] hq2.1 g4).mono ?_⟩
     . exact Kr
     . exact Kr
     rintro _ O2 ⟨rfl,rfl⟩
     refine Kv b8 ?_
     refine⟨psO ts.tail u,_,⟨?_,?_⟩,(g7 ts.tail u [61] hq2.1 g5).mono ?_⟩
     . exact Kr
     . exact Kr
     rintro _ O2 ⟨rfl,rfl⟩
     refine Kv b8 ?_
     refine⟨psO ts.tail u,_,⟨?_,?_⟩,(Z7 ts.tail u 60 hq2.1).mono ?_⟩
     . exact Kr
     . exact Kr
     rintro _ O2 ⟨rfl,rfl⟩
     refine Kv b8 ?_
     refine⟨psO ts.tail u,⟨?_,?_⟩,?_⟩
     . exact Kr
     . exact Kr
     rw[hres]
     exact⟨_,rfl,rfl⟩
 . rw [h4] at hres
   dsimp only at hres
   have hq2:=hq.isW h6
   refine m9 tok b8 Tryz.func205 rfl (by kernel_rfl) Tryz.ntmps205 (by simp) λB0 W0 V0 lent g0=>?_
   refine Kv b8 ?_
   refine⟨psO ts u,_,⟨?_,?_⟩,(J4 ts u [110,111,116] he h1).mono ?_⟩
   . exact Kr
   . exact Kr
   rintro _ O2 ⟨rfl,rfl⟩
   refine Kv b8 ?_
   refine⟨psO ts u,_,⟨?_,?_⟩,(J4 ts u [40] he h2).mono ?_⟩
   . exact Kr
   . exact Kr
   rintro _ O2 ⟨rfl,rfl⟩
   refine Kv b8 ?_
   refine⟨psO ts u,_,⟨?_,?_⟩,(g7 ts u [110,111,116] he h1).mono ?_⟩
   . exact Kr
   . exact Kr
   rintro _ O2 ⟨rfl,rfl⟩
   refine Kv b8 ?_
   refine⟨psO ts u,_,⟨?_,?_⟩,(g7 ts u [40] he h2).mono ?_⟩
   . exact Kr
   . exact Kr
   rintro _ O2 ⟨rfl,rfl⟩
   refine Kv b8 ?_
   refine⟨psO ts u,_,⟨?_,?_⟩,(g7 ts u [100,105,115,116,97,110,99,101] he h3).mono ?_⟩
   . exact Kr
   . exact Kr
   rintro _ O2 ⟨rfl,rfl⟩
   refine Kv b8 ?_
   refine⟨psO ts u,_,⟨?_,?_⟩,(g7 ts u [102,105,101,108,100] he h5).mono ?_⟩
   . exact Kr
   . exact Kr
   rintro _ O2 ⟨rfl,rfl⟩
   refine Kv b8 ?_
   refine⟨psO ts u,_,⟨?_,?_⟩,(x9 ts u [115,104,111,114,116] he h6).mono ?_⟩
   . exact Kr
   . exact Kr
   rintro _ O2 ⟨rfl,rfl⟩
   refine Kv b8 ?_
   have hr:=a7r ts.tail 3
   obtain⟨g1,h4⟩|⟨g1,g2,h4⟩|⟨g1,g2,g3,h4⟩|⟨g1,g2,g3,g4,h4⟩|⟨g1,g2,g3,g4,g5,h4⟩|⟨g1,g2,g3,g4,g5,h4⟩:=hr
   . rw [h4] at hres
     have hnum:=D7 ts.tail.tail u (hq2.isW g1)
     refine⟨psO ts.tail u,_,⟨?_,?_⟩,(x9 ts.tail u [62,61] hq2.1 g1).mono ?_⟩
     . exact Kr
     . exact Kr
     rintro _ O2 ⟨rfl,rfl⟩
     refine Kv b8 ?_
     refine⟨psO ts.tail.tail u,_,⟨?_,?_⟩,(hnum).mono ?_⟩
     . exact Kr
     . exact Kr
     intro o O2 ho
     have hh:=r6 ho
     clear ho
     obtain hh|hh:=hh
     . obtain⟨a,e,ts9,hU,rfl,rfl⟩:=hh
       (try dsimp only at hU)
       rw[hU] at hres
       (try rw[Rs.bind_er] at hres)
       refine Kv b8 ?_
       refine⟨psO ts9 u,⟨?_,?_⟩,?_⟩
       . exact Kr
       . exact Kr
       rw[hres]
       exact⟨_,rfl,rfl⟩
     obtain⟨n,ts3,hU,rfl,rfl⟩:=hh
     (try dsimp only at hU)
     rw[hU] at hres
     (try rw[Rs.bind_ok] at hres)
     refine Kv b8 ?_
     refine Meets.k (B6 3 n) ?_
     refine Kv b8 ?_
     refine⟨psO ts3 u, .d (leC 3 n).d,?_,?_⟩
     rotate_left 1
     . rw[hres]
       exact⟨rfl,rfl⟩
     repeat'(first|exact True.intro|exact rfl|refine And.intro ?_ ?_)
   . rw [h4] at hres
     have hnum:=D7 ts.tail.tail u (hq2.isW g2)
     refine⟨psO ts.tail u,_,⟨?_,?_⟩,(g7 ts.tail u [62,61] hq2.1 g1).mono ?_⟩
     . exact Kr
     . exact Kr
     rintro _ O2 ⟨rfl,rfl⟩
     refine Kv b8 ?_
     refine⟨psO ts.tail u,_,⟨?_,?_⟩,(x9 ts.tail u [62] hq2.1 g2).mono ?_⟩
     . exact Kr
     . exact Kr
     rintro _ O2 ⟨rfl,rfl⟩
     refine Kv b8 ?_
     refine⟨psO ts.tail.tail u,_,⟨?_,?_⟩,(hnum).mono ?_⟩
     . exact Kr
     . exact Kr
     intro o O2 ho
     have hh:=r6 ho
     clear ho
     obtain hh|hh:=hh
     . obtain⟨a,e,ts9,hU,rfl,rfl⟩:=hh
       (try dsimp only at hU)
       rw[hU] at hres
       (try rw[Rs.bind_er] at hres)
       refine Kv b8 ?_
       refine⟨psO ts9 u,⟨?_,?_⟩,?_⟩
       . exact Kr
       . exact Kr
       rw[hres]
       exact⟨_,rfl,rfl⟩
     obtain⟨n,ts3,hU,rfl,rfl⟩:=hh
     (try dsimp only at hU)
     rw[hU] at hres
     (try rw[Rs.bind_ok] at hres)
     refine Kv b8 ?_
     have hle:=Q6 hU
     repeat'((first|(intro hlq;try simp only[SL] at hlq)|refine K9 ?_|refine K8 ?_)<;>refine Kv b8 ?_)
     refine Meets.k (B6 3 (n+1)) ?_
     refine Kv b8 ?_
     refine⟨psO ts3 u, .d (leC 3 (n+1)).d,?_,?_⟩
     rotate_left 1
     . rw[hres]
       exact⟨rfl,rfl⟩
     repeat'(first|exact True.intro|exact rfl|refine And.intro ?_ ?_)
   . rw [h4] at hres
     have hnum:=D7 ts.tail.tail u (hq2.isW g3)
     refine⟨psO ts.tail u,_,⟨?_,?_⟩,(g7 ts.tail u [62,61] hq2.1 g1).mono ?_⟩
     . exact Kr
     . exact Kr
     rintro _ O2 ⟨rfl,rfl⟩
     refine Kv b8 ?_
     refine⟨psO ts.tail u,_,⟨?_,?_⟩,(g7 ts.tail u [62] hq2.1 g2).mono ?_⟩
     . exact Kr
     . exact Kr
     rintro _ O2 ⟨rfl,rfl⟩
     refine Kv b8 ?_
     refine⟨psO ts.tail u,_,⟨?_,?_⟩,(x9 ts.tail u [60,61] hq2.1 g3).mono ?_⟩
     . exact Kr
     . exact Kr
     rintro _ O2 ⟨rfl,rfl⟩
     refine Kv b8 ?_
     refine⟨psO ts.tail.tail u,_,⟨?_,?_⟩,(hnum).mono ?_⟩
     . exact Kr
     . exact Kr
     intro o O2 ho
     have hh:=r6 ho
     clear ho
     obtain hh|hh:=hh
     . obtain⟨a,e,ts9,hU,rfl,rfl⟩:=hh
       (try dsimp only at hU)
       rw[hU] at hres
       (try rw[Rs.bind_er] at hres)
       refine Kv b8 ?_
       refine⟨psO ts9 u,⟨?_,?_⟩,?_⟩
       . exact Kr
       . exact Kr
       rw[hres]
       exact⟨_,rfl,rfl⟩
     obtain⟨n,ts3,hU,rfl,rfl⟩:=hh
     (try dsimp only at hU)
     rw[hU] at hres
     (try rw[Rs.bind_ok] at hres)
     refine Kv b8 ?_
     have hle:=Q6 hU
     repeat'((first|(intro hlq;try simp only[SL] at hlq)|refine K9 ?_|refine K8 ?_)<;>refine Kv b8 ?_)
     refine Meets.k (B6 3 (n+1)) ?_
     refine Kv b8 ?_
     refine Meets.k (M6 (leC 3 (n+1))) ?_
     refine Kv b8 ?_
     refine⟨psO ts3 u, .d (w6 (leC 3 (n+1))).d,?_,?_⟩
     rotate_left 1
     . rw[hres]
       exact⟨rfl,rfl⟩
     repeat'(first|exact True.intro|exact rfl|refine And.intro ?_ ?_)
   . rw [h4] at hres
     have hnum:=D7 ts.tail.tail u (hq2.isW g4)
     refine⟨psO ts.tail u,_,⟨?_,?_⟩,(g7 ts.tail u [62,61] hq2.1 g1).mono ?_⟩
     . exact Kr
     . exact Kr
     rintro _ O2 ⟨rfl,rfl⟩
     refine Kv b8 ?_
     refine⟨psO ts.tail u,_,⟨?_,?_⟩,(g7 ts.tail u [62] hq2.1 g2).mono ?_⟩
     . exact Kr
     . exact Kr
     rintro _ O2 ⟨rfl,rfl⟩
     refine Kv b8 ?_
     refine⟨psO ts.tail u,_,⟨?_,?_⟩,(g7 ts.tail u [60,61] hq2.1 g3).mono ?_⟩
     . exact Kr
     . exact Kr
     rintro _ O2 ⟨rfl,rfl⟩
     refine Kv b8 ?_
     refine⟨psO ts.tail u,_,⟨?_,?_⟩,(x9 ts.tail u [60] hq2.1 g4).mono ?_⟩
     . exact Kr
     . exact Kr
     rintro _ O2 ⟨rfl,rfl⟩
     refine Kv b8 ?_
     refine⟨psO ts.tail.tail u,_,⟨?_,?_⟩,(hnum).mono ?_⟩
     . exact Kr
     . exact Kr
     intro o O2 ho
     have hh:=r6 ho
     clear ho
     obtain hh|hh:=hh
     . obtain⟨a,e,ts9,hU,rfl,rfl⟩:=hh
       (try dsimp only at hU)
       rw[hU] at hres
       (try rw[Rs.bind_er] at hres)
       refine Kv b8 ?_
       refine⟨psO ts9 u,⟨?_,?_⟩,?_⟩
       . exact Kr
       . exact Kr
       rw[hres]
       exact⟨_,rfl,rfl⟩
     obtain⟨n,ts3,hU,rfl,rfl⟩:=hh
     (try dsimp only at hU)
     rw[hU] at hres
     (try rw[Rs.bind_ok] at hres)
     refine Kv b8 ?_
     refine Meets.k (B6 3 n) ?_
     refine Kv b8 ?_
     refine Meets.k (M6 (leC 3 n)) ?_
     refine Kv b8 ?_
     refine⟨psO ts3 u, .d (w6 (leC 3 n)).d,?_,?_⟩
     rotate_left 1
     . rw[hres]
       exact⟨rfl,rfl⟩
     repeat'(first|exact True.intro|exact rfl|refine And.intro ?_ ?_)
   . rw [h4] at hres
     have hnum:=D7 ts.tail.tail u (hq2.isW g5)
     refine⟨psO ts.tail u,_,⟨?_,?_⟩,(g7 ts.tail u [62,61] hq2.1 g1).mono ?_⟩
     . exact Kr
     . exact Kr
     rintro _ O2 ⟨rfl,rfl⟩
     refine Kv b8 ?_
     refine⟨psO ts.tail u,_,⟨?_,?_⟩,(g7 ts.tail u [62] hq2.1 g2).mono ?_⟩
     . exact Kr
     . exact Kr
     rintro _ O2 ⟨rfl,rfl⟩
     refine Kv b8 ?_
     refine⟨psO ts.tail u,_,⟨?_,?_⟩,(g7 ts.tail u [60,61] hq2.1 g3).mono ?_⟩
     . exact Kr
     . exact Kr
     rintro _ O2 ⟨rfl,rfl⟩
     refine Kv b8 ?_
     refine⟨psO ts.tail u,_,⟨?_,?_⟩,(g7 ts.tail u [60] hq2.1 g4).mono ?_⟩
     . exact Kr
     . exact Kr
     rintro _ O2 ⟨rfl,rfl⟩
     refine Kv b8 ?_
     refine⟨psO ts.tail u,_,⟨?_,?_⟩,(x9 ts.tail u [61] hq2.1 g5).mono ?_⟩
     . exact Kr
     . exact Kr
     rintro _ O2 ⟨rfl,rfl⟩
     refine Kv b8 ?_
     refine⟨psO ts.tail.tail u,_,⟨?_,?_⟩,(hnum).mono ?_⟩
     . exact Kr
     . exact Kr
     intro o O2 ho
     have hh:=r6 ho
     clear ho
     obtain hh|hh:=hh
     . obtain⟨a,e,ts9,hU,rfl,rfl⟩:=hh
       (try dsimp only at hU)
       rw[hU] at hres
       (try rw[Rs.bind_er] at hres)
       refine Kv b8 ?_
       refine⟨psO ts9 u,⟨?_,?_⟩,?_⟩
       . exact Kr
       . exact Kr
       rw[hres]
       exact⟨_,rfl,rfl⟩
     obtain⟨n,ts3,hU,rfl,rfl⟩:=hh
     (try dsimp only at hU)
     rw[hU] at hres
     (try rw[Rs.bind_ok] at hres)
     refine Kv b8 ?_
     have hle:=Q6 hU
     refine Meets.k (B6 3 n) ?_
     refine Kv b8 ?_
     repeat'((first|(intro hlq;try simp only[SL] at hlq)|refine K9 ?_|refine K8 ?_)<;>refine Kv b8 ?_)
     refine Meets.k (B6 3 (n+1)) ?_
     refine Kv b8 ?_
     refine Meets.k (M6 (leC 3 (n+1))) ?_
     refine Kv b8 ?_
     refine⟨psO ts3 u, .d (⟨2,0,0,[leC 3 n,w6 (leC 3 (n+1))]⟩:Cond).d,?_,?_⟩
     rotate_left 1
     . rw[hres]
       exact⟨rfl,rfl⟩
     repeat'(first|exact True.intro|exact rfl|refine And.intro ?_ ?_)
   . rw[h4] at hres
     refine⟨psO ts.tail u,_,⟨?_,?_⟩,(g7 ts.tail u [62,61] hq2.1 g1).mono ?_⟩
     . exact Kr
     . exact Kr
     rintro _ O2 ⟨rfl,rfl⟩
     refine Kv b8 ?_
     refine⟨psO ts.tail u,_,⟨?_,?_⟩,(g7 ts.tail u [62] hq2.1 g2).mono ?_⟩
     . exact Kr
     . exact Kr
     rintro _ O2 ⟨rfl,rfl⟩
     refine Kv b8 ?_
     refine⟨psO ts.tail u,_,⟨?_,?_⟩,(g7 ts.tail u [60,61] hq2.1 g3).mono ?_⟩
     . exact Kr
     . exact Kr
     rintro _ O2 ⟨rfl,rfl⟩
     refine Kv b8 ?_
     refine⟨psO ts.tail u,_,⟨?_,?_⟩,(g7 ts.tail u [60] hq2.1 g4).mono ?_⟩
     . exact Kr
     . exact Kr
     rintro _ O2 ⟨rfl,rfl⟩
     refine Kv b8 ?_
     refine⟨psO ts.tail u,_,⟨?_,?_⟩,(g7 ts.tail u [61] hq2.1 g5).mono ?_⟩
     . exact Kr
     . exact Kr
     rintro _ O2 ⟨rfl,rfl⟩
     refine Kv b8 ?_
     refine⟨psO ts.tail u,_,⟨?_,?_⟩,(Z7 ts.tail u 60 hq2.1).mono ?_⟩
     . exact Kr
     . exact Kr
     rintro _ O2 ⟨rfl,rfl⟩
     refine Kv b8 ?_
     refine⟨psO ts.tail u,⟨?_,?_⟩,?_⟩
     . exact Kr
     . exact Kr
     rw[hres]
     exact⟨_,rfl,rfl⟩
 . rw[h4] at hres
   dsimp only at hres
   refine m9 tok b8 Tryz.func205 rfl (by kernel_rfl) Tryz.ntmps205 (by simp) λB0 W0 V0 lent g0=>?_
   refine Kv b8 ?_
   refine⟨psO ts u,_,⟨?_,?_⟩,(J4 ts u [110,111,116] he h1).mono ?_⟩
   . exact Kr
   . exact Kr
   rintro _ O2 ⟨rfl,rfl⟩
   refine Kv b8 ?_
   refine⟨psO ts u,_,⟨?_,?_⟩,(J4 ts u [40] he h2).mono ?_⟩
   . exact Kr
   . exact Kr
   rintro _ O2 ⟨rfl,rfl⟩
   refine Kv b8 ?_
   refine⟨psO ts u,_,⟨?_,?_⟩,(g7 ts u [110,111,116] he h1).mono ?_⟩
   . exact Kr
   . exact Kr
   rintro _ O2 ⟨rfl,rfl⟩
   refine Kv b8 ?_
   refine⟨psO ts u,_,⟨?_,?_⟩,(g7 ts u [40] he h2).mono ?_⟩
   . exact Kr
   . exact Kr
   rintro _ O2 ⟨rfl,rfl⟩
   refine Kv b8 ?_
   refine⟨psO ts u,_,⟨?_,?_⟩,(g7 ts u [100,105,115,116,97,110,99,101] he h3).mono ?_⟩
   . exact Kr
   . exact Kr
   rintro _ O2 ⟨rfl,rfl⟩
   refine Kv b8 ?_
   refine⟨psO ts u,_,⟨?_,?_⟩,(g7 ts u [102,105,101,108,100] he h5).mono ?_⟩
   . exact Kr
   . exact Kr
   rintro _ O2 ⟨rfl,rfl⟩
   refine Kv b8 ?_
   refine⟨psO ts u,_,⟨?_,?_⟩,(g7 ts u [115,104,111,114,116] he h6).mono ?_⟩
   . exact Kr
   . exact Kr
   rintro _ O2 ⟨rfl,rfl⟩
   refine Kv b8 ?_
   refine⟨psO ts u,_,⟨?_,?_⟩,(Z7 ts u 60 he).mono ?_⟩
   . exact Kr
   . exact Kr
   rintro _ O2 ⟨rfl,rfl⟩
   refine Kv b8 ?_
   refine⟨psO ts u,⟨?_,?_⟩,?_⟩
   . exact Kr
   . exact Kr
   rw[hres]
   exact⟨_,rfl,rfl⟩
end Go.Proofs.YteillnfhkeebjaaGreatDoor.Dx
