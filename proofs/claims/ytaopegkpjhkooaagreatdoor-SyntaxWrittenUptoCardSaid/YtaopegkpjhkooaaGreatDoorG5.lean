/- Chapter 06: the closures that recover. -/
import Derived.Test.YtaopegkpjhkooaaGreatDoorFx
import Derived.Test.YtaopegkpjhkooaaGreatDoorFl
import Derived.Test.YtaopegkpjhkooaaGreatDoorG4
import Derived.Test.YtaopegkpjhkooaaGreatDoorFs
set_option linter.all false
namespace Go.Proofs.YtaopegkpjhkooaaGreatDoor.Dx
open Go Go.RowKit
set_option maxRecDepth 100000
set_option maxHeartbeats 16000000
theorem b5L (b0 b1 b2 b3 b5 b6:D):MeetsD Tryz.prog 54 [.loc 4 0, .loc 5 0, .loc 6 0] [(4, .box [.d b0, .d b1, .d b2, .d b3] 26),(5, .box [.d b5] 3),(6, .box [.d b6] 32)] none λO'=>O'=[(4, .box [.d b0, .d b1, .d b2, .d b3] 26),(5, .box [.d b5] 3),(6, .box [.d b6] 32)]:=by
 refine a1i tok {} Tryz.func54 rfl (by kernel_rfl) Tryz.ntmps54 (by simp) (by decide) (by decide) λB0 W0 V0 lent g0=>?_
 refine Kw ?_
 refine⟨_, .d (.tup []),?_,⟨⟨_,rfl⟩,rfl⟩⟩
 repeat'(first|exact True.intro|exact rfl|refine And.intro ?_ ?_|(exact a0U _ _))
abbrev a1Y:Cfg:={nm:=[(4,54),(6,56)]}
theorem b0a (b0 b1 b2 b3 b5 b6:D)(at_ e:Int):MeetsD Tryz.prog 54 [.loc 4 0, .loc 5 0, .loc 6 0] [(4, .box [.d b0, .d b1, .d b2, .d b3] 26),(5, .box [.d b5] 3),(6, .box [.d b6] 32)] (some (.iface 130 (.agg [iD at_,iD e])))
 λO'=>O'=[(4, .box [.d (iD 0), .d (iD 0), .d (iD 0), .d (.sl [])] 26),(5, .box [.d (iD at_)] 3),(6, .box [.d (iD e)] 32)]:=by
 refine a1i tok a1Y Tryz.func54 rfl (by kernel_rfl) Tryz.ntmps54 (by simp) (by decide) (by decide) λB0 W0 V0 lent g0=>?_
 refine Kv a1Y ?_
 refine⟨λh=>absurd h (by decide),λ_=>?_⟩
 refine Kv a1Y ?_
 refine j9 tok (cf:=a1Y) (by kernel_rfl) [.p 0, .p 1, .p 2, .p 3, .p 4, .s 5 [0], .s 6 [2,1], .s 7 [4,3]] (by kernel_rfl) ?_
 refine Kv a1Y ?_
 repeat'((first|(intro hlq;try simp only[SL] at hlq)|refine K9 ?_|((refine Kh (λhb=>?_) λhb=>?_)<;>try simp only[BL] at hb)|refine K8 ?_)<;>refine Kv a1Y ?_)
 refine⟨_, .d (.tup []),?_,⟨⟨_,rfl⟩,rfl⟩⟩
 repeat'(first|exact True.intro|exact rfl|refine And.intro ?_ ?_|(exact a0U _ _))
end Go.Proofs.YtaopegkpjhkooaaGreatDoor.Dx
/- Chapter 06: parsing conditions and steps. -/
namespace Go.Proofs.YtaopegkpjhkooaaGreatDoor.Dx
open Go Go.RowKit
set_option maxRecDepth 100000
set_option maxHeartbeats 16000000
abbrev pcO (ts:List Tk)(cs:List Base)(X:List (Nat×Blk)):List (Nat×Blk):=(5000, .box (.d (.sl (ts.map tkC))::cs) 133)::X
def RdP {α:Type}(f:α->D)(r:Rs α)(cs:List Base)(X:List (Nat×Blk))(o:Out)(O':List (Nat×Blk)):Prop:=match r with
 | .ok a ts=>o= .ret (.d (f a))/\O'=pcO ts cs X
 | .er a e=>∃ts',o= .pan (.iface 130 (.agg [iD (a:Int),iD e]))/\O'=pcO ts' cs X
 | .out=>False
theorem b2J (us:List Value)(h:us.length=16):rrB (λi=>us.getD i undef)=us.map B8:=by
 match us,h with
 |[_,_,_,_,_,_,_,_,_,_,_,_,_,_,_,_],_=>rfl
theorem b1C {F:Nat}{args:List Base}{ts:List Tk}{cs:List Base}{X:List (Nat×Blk)}{R:Out->List Tk->Prop}(hc:cs.length=16)
 (h:∀u,MeetsR Tryz.prog F args (psO ts u) λo O'=>∃ts',O'=psO ts' u/\R o ts') (hR:∀o ts',R o ts'->(∃d,o= .ret (.d d))\/∃d,o= .pan d):
 MeetsR Tryz.prog F args (pcO ts cs X) λo O'=>∃ts',O'=pcO ts' cs X/\R o ts':=by
 have hk:=MeetsR.keepRaw (P:=Tryz.prog) (F:=F) (args:=args) (n:=5000) (l:= .sl (ts.map tkC)) (cs:=cs) (ty:=133) (X:=X) (R:=λo l'=>∃ts',l'= .sl (ts'.map tkC)/\R o ts') (λus hus=>by
  have h1:=h λi=>us.getD i undef
  unfold psO at h1
  rw[b2J us (hus.trans hc)] at h1
  refine h1.mono ?_
  rintro o O' ⟨ts',rfl,hr⟩
  refine⟨.sl (ts'.map tkC),?_,ts',rfl,hr⟩
  rw[<-b2J us (hus.trans hc)]) (λo l' ⟨ts',_,hr⟩=>hR o ts' hr)
 refine hk.mono ?_
 rintro o O' ⟨l',rfl,ts',rfl,hr⟩
 exact⟨ts',rfl,hr⟩
theorem a1p {α:Type}{F:Nat}{args:List Base}{ts:List Tk}{cs:List Base}{X:List (Nat×Blk)}{f:α->D}{r:Rs α}(hc:cs.length=16)
 (h:∀u,MeetsR Tryz.prog F args (psO ts u) λo O'=>RdO f r u o O'):MeetsR Tryz.prog F args (pcO ts cs X) λo O'=>RdP f r cs X o O':=by
 refine(b1C (R:=λo ts'=>match r with| .ok a ts=>o= .ret (.d (f a))/\ts'=ts| .er a e=>o= .pan (.iface 130 (.agg [iD (a:Int),iD e]))| .out=>False) hc (λu=>(h u).mono λo O' ho=>?_) λo ts' hr=>?_).mono ?_
 . cases r with
   |ok a ts=>exact⟨ts,ho.2,ho.1,rfl⟩
   |er a e=>obtain⟨ts',h1,h2⟩:=ho;exact⟨ts',h2,h1⟩
   |out=>exact ho.elim
 . cases r with
   |ok a ts=>exact .inl ⟨_,hr.1⟩
   |er a e=>exact .inr ⟨_,hr⟩
   |out=>exact hr.elim
 . rintro o O' ⟨ts',rfl,hr⟩
   cases r with
   |ok a ts=>exact⟨hr.1,by rw[hr.2]⟩
   |er a e=>exact⟨ts',hr,rfl⟩
   |out=>exact hr.elim
theorem a2s {F:Nat}{args:List Base}{ts ts':List Tk}{cs:List Base}{X:List (Nat×Blk)}{o0:Out}(hc:cs.length=16)(ho:(∃d,o0= .ret (.d d))\/∃d,o0= .pan d)
 (h:∀u,MeetsR Tryz.prog F args (psO ts u) λo O'=>o=o0/\O'=psO ts' u):MeetsR Tryz.prog F args (pcO ts cs X) λo O'=>o=o0/\O'=pcO ts' cs X:=by
 refine(b1C (R:=λo t=>o=o0/\t=ts') hc (λu=>(h u).mono λo O' hh=>⟨ts',hh.2,hh.1,rfl⟩) λo t hr=>?_).mono ?_
 . obtain⟨rfl,_⟩:=hr
   exact ho
 . rintro o O' ⟨t,rfl,h1,rfl⟩
   exact⟨h1,rfl⟩
theorem b2I {α:Type}{f:α->D}{r:Rs α}{cs:List Base}{X:List (Nat×Blk)}{o:Out}{O':List (Nat×Blk)}(h:RdP f r cs X o O'):
 (∃a e ts',r= .er a e/\o= .pan (.iface 130 (.agg [iD (a:Int),iD e]))/\O'=pcO ts' cs X)\/∃a ts',r= .ok a ts'/\o= .ret (.d (f a))/\O'=pcO ts' cs X:=by
 cases r with
 |out=>exact h.elim
 |er a e=>obtain⟨ts',h1,h2⟩:=h;exact .inl ⟨a,e,ts',rfl,h1,h2⟩
 |ok a ts=>exact .inr ⟨a,ts,rfl,h.1,h.2⟩
abbrev C8:List Base:=[.d (.str []), .d (.sl []), .d (.sl []), .d (.sl []), .d (.sl []), .d (.sl []), .d (.sl []), .d (.sl []), .d (.sl []), .d (iD 0), .d (iD 0), .d (iD 0), .d (iD 0), .d (iD 0), .d (iD 0), .d (iD 0)]
theorem a5E (ts:List Tk)(u:Nat->Value)(he:EndsT ts):MeetsR Tryz.prog 55 [.loc 5000 0] (psO ts u) λo O'=>o= .ret (.d (.agg (tkC (hdT ts))))/\O'=psO ts u:=by
 obtain⟨t,r,rfl⟩:=he.cons
 exact I9 t r u
theorem b5T (ts:List Tk)(u:Nat->Value)(hq:QT ts)(hn:condP FU 0 ts≠ .out):MeetsR Tryz.prog 27 [.loc 5000 0] (psO ts u) λo O'=>RdO Cond.d (condP FU 0 ts) u o O':=by
 have hc:=b0q FU (by decide) 0 ts u (by omega) hq hn
 obtain⟨res,hres⟩:∃res,res=condP FU 0 ts:=⟨_,rfl⟩
 rw[<-hres]
 refine k8 tok {rs:=[4]} Tryz.func27 rfl (by kernel_rfl) Tryz.ntmps27 (by simp) λB0 W0 V0 lent g0=>?_
 refine Kv {rs:=[4]} ?_
 refine⟨psO ts u,_,⟨?_,?_⟩,(hc).mono ?_⟩
 . exact Kr
 . exact Kr
 intro o O2 ho
 have hh:=z6 ho
 clear ho
 obtain hh|hh:=hh
 . obtain⟨a,e,ts9,hU,rfl,rfl⟩:=hh
   (try dsimp only at hU)
   rw[hU] at hres
   (try rw[Rs.bind_er] at hres)
   refine Kv {rs:=[4]} ?_
   refine⟨psO ts9 u,⟨?_,?_⟩,?_⟩
   . exact Kr
   . exact Kr
   rw[hres]
   exact⟨_,rfl,rfl⟩
 obtain⟨c,ts2,hU,rfl,rfl⟩:=hh
 (try dsimp only at hU)
 rw[hU] at hres
 (try rw[Rs.bind_ok] at hres)
 refine Kv {rs:=[4]} ?_
 refine⟨psO ts2 u, .d c.d,?_,?_⟩
 rotate_left 1
 . rw[hres]
   exact⟨rfl,rfl⟩
 repeat'(first|exact True.intro|exact rfl|refine And.intro ?_ ?_)
theorem c2o (ts:List Tk)(u:Nat->Value)(hq:QT ts)(hn:n8 FU 0 [] ts≠ .out):MeetsR Tryz.prog 31 [.loc 5000 0] (psO ts u) λo O'=>RdO stD (n8 FU 0 [] ts) u o O':=by
 have hc:=(a8x FU (by decide) FU (Nat.le_refl _)).1 0 ts u (by omega) hq hn
 dsimp only at hc
 obtain⟨res,hres⟩:∃res,res=n8 FU 0 [] ts:=⟨_,rfl⟩
 rw[<-hres]
 refine k8 tok {rs:=[4]} Tryz.func31 rfl (by kernel_rfl) Tryz.ntmps31 (by simp) λB0 W0 V0 lent g0=>?_
 refine Kv {rs:=[4]} ?_
 refine⟨psO ts u,_,⟨?_,?_⟩,(hc).mono ?_⟩
 . exact Kr
 . exact Kr
 intro o O2 ho
 have hh:=z6 ho
 clear ho
 obtain hh|hh:=hh
 . obtain⟨a,e,ts9,hU,rfl,rfl⟩:=hh
   (try dsimp only at hU)
   rw[hU] at hres
   (try rw[Rs.bind_er] at hres)
   refine Kv {rs:=[4]} ?_
   refine⟨psO ts9 u,⟨?_,?_⟩,?_⟩
   . exact Kr
   . exact Kr
   rw[hres]
   exact⟨_,rfl,rfl⟩
 obtain⟨l,ts2,hU,rfl,rfl⟩:=hh
 (try dsimp only at hU)
 rw[hU] at hres
 (try rw[Rs.bind_ok] at hres)
 refine Kv {rs:=[4]} ?_
 refine⟨psO ts2 u, .d (stD l),?_,?_⟩
 rotate_left 1
 . rw[hres]
   exact⟨rfl,rfl⟩
 repeat'(first|exact True.intro|exact rfl|refine And.intro ?_ ?_)
abbrev A7:Cfg:={nm:=[(31,5000)],rs:=[34,36,40]}
theorem b9P (hT:C2)(src:List UInt8)(hl:src.length<=65536):Meets Tryz.prog 26 [.sl (o8 src), .fn 27 [] []] λd=>d= .tup [(H3 src).1.d,iD (H3 src).2.1,iD (H3 src).2.2]:=by
 have htk:=a4R hT src hl
 have hq:=a6k src hl
 have hfu:=b5Z src hl
 obtain⟨x,hx⟩:∃x,x=H3 src:=⟨_,rfl⟩
 rw[<-hx]
 unfold H3 U8 at hx
 refine a5k tok A7 Tryz.func26 rfl (by kernel_rfl) Tryz.ntmps26 (by simp) 4 rfl (by decide) λB0 W0 V0 lent g0=>?_
 refine G8 tok A7 ?_
 refine Kv A7 ?_
 refine G8 tok A7 ?_
 refine Kv A7 ?_
 refine Meets.k htk ?_
 refine Kv A7 ?_
 refine G8 tok A7 ?_
 refine Kv A7 ?_
 refine⟨λh=>absurd h (by decide),λ_=>?_⟩
 refine Kv A7 ?_
 refine G8 tok A7 ?_
 refine Kv A7 ?_
 repeat'((first|(intro hlq;try simp only[SL] at hlq)|refine K9 ?_|refine K8 ?_)<;>refine Kv A7 ?_)
 refine⟨λh0=>?_,λh0=>?_⟩<;>(try simp only[BL] at h0)<;>refine Kv A7 ?_
 . obtain⟨b,bs,hb⟩:=List.exists_cons_of_length_pos (l:=bads src 0 (-1) 0) (by omega)
   rw[hb] at hx⊢
   dsimp only at hx
   refine j9 tok (cf:=A7) (by kernel_rfl) [.p 0, .p 1, .p 2, .p 3, .p 4, .s 5 [0], .s 6 [4,1,2,3], .s 7 []] (by kernel_rfl) ?_
   refine Kv A7 ?_
   repeat'((first|(intro hlq;try simp only[SL] at hlq)|refine K9 ?_|((refine Kh (λhb=>?_) λhb=>?_)<;>try simp only[BL] at hb)|refine K8 ?_)<;>refine Kv A7 ?_)
   refine⟨prC b,⟨Int.le_refl _,rfl,rfl⟩,?_⟩
   refine Kv A7 ?_
   repeat'((first|(intro hlq;try simp only[SL] at hlq)|refine K9 ?_|((refine Kh (λhb=>?_) λhb=>?_)<;>try simp only[BL] at hb)|refine K8 ?_)<;>refine Kv A7 ?_)
   refine⟨?_⟩
   rw[hx]
   rfl
 . have hb:bads src 0 (-1) 0=[]:=List.eq_nil_of_length_eq_zero (by omega)
   rw[hb] at hx
   dsimp only at hx
   refine a4E ?_
   conv=>whnf
   intro B0 W0 V0 lent g0 m0 dfr
   refine Y A7 rfl ?_
   refine Kv A7 ?_
   have hrd:=a1p (cs:=C8) (X:=[]) (ts:=toks src 0) rfl λu=>b5T (toks src 0) u hq hfu
   refine⟨pcO (toks src 0) C8 [],_,⟨?_,?_⟩,hrd.mono ?_⟩
   . exact Kr
   . exact Kr
   intro o O2 ho
   have hh:=b2I ho
   clear ho
   obtain hh|hh:=hh
   . obtain⟨a,e,ts2,hU,rfl,rfl⟩:=hh
     rw[hU] at hx
     refine Kv A7 ?_
     refine⟨[(4, .box [.d (iD 0), .d (iD 0), .d (iD 0), .d (.sl [])] 26),(5, .box [.d (iD 0)] 3),(6, .box [.d (iD 0)] 32)],⟨?_,rfl⟩,(b0a _ _ _ _ _ _ _ _).mono ?_⟩
     . exact Kr
     rintro _ rfl
     refine Kv A7 ?_
     refine⟨?_⟩
     rw[hx]
     rfl
   obtain⟨c,ts2,hU,rfl,rfl⟩:=hh
   rw[hU] at hx
   have hx':x=if(hdT ts2).kind=6 then(c,0,0) else(cz,((hdT ts2).at_:Int),60):=hx
   have he2:=((a1f FU).2.2.2.1 0 _ hq _ _ hU).1
   have hnx:=a2s (cs:=C8) (X:=[]) rfl (.inl ⟨_,rfl⟩) λu=>a5E ts2 u he2
   have hsp:=a2s (cs:=C8) (X:=[]) rfl (.inr ⟨_,rfl⟩) λu=>F5 ts2 u 60 he2
   refine Kv A7 ?_
   refine⟨pcO ts2 C8 [],_,⟨?_,?_⟩,hnx.mono ?_⟩
   . exact Kr
   . exact Kr
   rintro _ O2 ⟨rfl,rfl⟩
   refine Kv A7 ?_
   refine⟨λh6=>?_,λh6=>?_⟩<;>(try simp only[BL] at h6)<;>refine Kv A7 ?_
   . rw[if_neg (by omega)] at hx'
     refine⟨pcO ts2 C8 [],_,⟨?_,?_⟩,hsp.mono ?_⟩
     . exact Kr
     . exact Kr
     rintro _ O2 ⟨rfl,rfl⟩
     refine Kv A7 ?_
     refine⟨[(4, .box [.d (iD c.kind), .d (iD c.var), .d (iD c.n), .d (.sl (c.parts.map Cond.cells))] 26),(5, .box [.d (iD 0)] 3),(6, .box [.d (iD 0)] 32)],⟨?_,rfl⟩,(b0a _ _ _ _ _ _ _ _).mono ?_⟩
     . exact Kr
     rintro _ rfl
     refine Kv A7 ?_
     refine⟨?_⟩
     rw[hx']
     rfl
   . rw[if_pos (by omega)] at hx'
     refine⟨[(4, .box [.d (iD c.kind), .d (iD c.var), .d (iD c.n), .d (.sl (c.parts.map Cond.cells))] 26),(5, .box [.d (iD 0)] 3),(6, .box [.d (iD 0)] 32)],⟨?_,rfl⟩,(b5L _ _ _ _ _ _).mono ?_⟩
     . exact Kr
     rintro _ rfl
     refine Kv A7 ?_
     refine⟨?_⟩
     rw[hx']
theorem b4e (hT:C2)(src:List UInt8)(hl:src.length<=65536):Meets Tryz.prog 14 [.sl (o8 src)] λd=>d= .tup [(H3 src).1.d,iD (H3 src).2.1,iD (H3 src).2.2]:=by
 have hp:=b9P hT src hl
 revert hp
 generalize H3 src=x
 intro hp
 refine enter tok {} Tryz.func14 rfl (by kernel_rfl) Tryz.ntmps14 (by simp) λB0 W0 V0 lent g0=>?_
 refine Kw ?_
 refine Meets.k hp ?_
 refine Kw ?_
 exact⟨rfl⟩
end Go.Proofs.YtaopegkpjhkooaaGreatDoor.Dx
/- Chapter 06: parsing steps. -/
namespace Go.Proofs.YtaopegkpjhkooaaGreatDoor.Dx
open Go Go.RowKit
set_option maxRecDepth 100000
set_option maxHeartbeats 16000000
theorem b5N (b0 b5 b6:D):MeetsD Tryz.prog 59 [.loc 4 0, .loc 5 0, .loc 6 0] [(4, .box [.d b0] 38),(5, .box [.d b5] 3),(6, .box [.d b6] 32)] none λO'=>O'=[(4, .box [.d b0] 38),(5, .box [.d b5] 3),(6, .box [.d b6] 32)]:=by
 refine a1i tok {} Tryz.func59 rfl (by kernel_rfl) Tryz.ntmps59 (by simp) (by decide) (by decide) λB0 W0 V0 lent g0=>?_
 refine Kw ?_
 refine⟨_, .d (.tup []),?_,⟨⟨_,rfl⟩,rfl⟩⟩
 repeat'(first|exact True.intro|exact rfl|refine And.intro ?_ ?_|(exact a0U _ _))
abbrev a1Z:Cfg:={nm:=[(4,54),(6,56)]}
theorem b0c (b0 b5 b6:D)(at_ e:Int):MeetsD Tryz.prog 59 [.loc 4 0, .loc 5 0, .loc 6 0] [(4, .box [.d b0] 38),(5, .box [.d b5] 3),(6, .box [.d b6] 32)] (some (.iface 130 (.agg [iD at_,iD e])))
 λO'=>O'=[(4, .box [.d (.sl [])] 38),(5, .box [.d (iD at_)] 3),(6, .box [.d (iD e)] 32)]:=by
 refine a1i tok a1Z Tryz.func59 rfl (by kernel_rfl) Tryz.ntmps59 (by simp) (by decide) (by decide) λB0 W0 V0 lent g0=>?_
 refine Kv a1Z ?_
 refine⟨λh=>absurd h (by decide),λ_=>?_⟩
 refine Kv a1Z ?_
 refine j9 tok (cf:=a1Z) (by kernel_rfl) [.p 0, .p 1, .p 2, .p 3, .p 4, .s 5 [0], .s 6 [2,1], .s 7 [4,3]] (by kernel_rfl) ?_
 refine Kv a1Z ?_
 repeat'((first|(intro hlq;try simp only[SL] at hlq)|refine K9 ?_|((refine Kh (λhb=>?_) λhb=>?_)<;>try simp only[BL] at hb)|refine K8 ?_)<;>refine Kv a1Z ?_)
 refine⟨_, .d (.tup []),?_,⟨⟨_,rfl⟩,rfl⟩⟩
 repeat'(first|exact True.intro|exact rfl|refine And.intro ?_ ?_|(exact a0U _ _))
abbrev A8:Cfg:={nm:=[(31,5000)],rs:=[34,36,40]}
theorem b9Q (hT:C2)(src:List UInt8)(hl:src.length<=65536):Meets Tryz.prog 30 [.sl (o8 src), .fn 31 [] []] λd=>d= .tup [stD (J3 src).1,iD (J3 src).2.1,iD (J3 src).2.2]:=by
 have htk:=a4R hT src hl
 have hq:=a6k src hl
 have hfu:=c2t src hl
 obtain⟨x,hx⟩:∃x,x=J3 src:=⟨_,rfl⟩
 rw[<-hx]
 unfold J3 U8 at hx
 refine a5k tok A8 Tryz.func30 rfl (by kernel_rfl) Tryz.ntmps30 (by simp) 4 rfl (by decide) λB0 W0 V0 lent g0=>?_
 refine G8 tok A8 ?_
 refine Kv A8 ?_
 refine G8 tok A8 ?_
 refine Kv A8 ?_
 refine Meets.k htk ?_
 refine Kv A8 ?_
 refine G8 tok A8 ?_
 refine Kv A8 ?_
 refine⟨λh=>absurd h (by decide),λ_=>?_⟩
 refine Kv A8 ?_
 refine G8 tok A8 ?_
 refine Kv A8 ?_
 repeat'((first|(intro hlq;try simp only[SL] at hlq)|refine K9 ?_|refine K8 ?_)<;>refine Kv A8 ?_)
 refine⟨λh0=>?_,λh0=>?_⟩<;>(try simp only[BL] at h0)<;>refine Kv A8 ?_
 . obtain⟨b,bs,hb⟩:=List.exists_cons_of_length_pos (l:=bads src 0 (-1) 0) (by omega)
   rw[hb] at hx⊢
   dsimp only at hx
   refine j9 tok (cf:=A8) (by kernel_rfl) [.p 0, .p 1, .p 2, .p 3, .p 4, .s 5 [0], .s 6 [4,1,2,3], .s 7 []] (by kernel_rfl) ?_
   refine Kv A8 ?_
   repeat'((first|(intro hlq;try simp only[SL] at hlq)|refine K9 ?_|((refine Kh (λhb=>?_) λhb=>?_)<;>try simp only[BL] at hb)|refine K8 ?_)<;>refine Kv A8 ?_)
   refine⟨prC b,⟨Int.le_refl _,rfl,rfl⟩,?_⟩
   refine Kv A8 ?_
   repeat'((first|(intro hlq;try simp only[SL] at hlq)|refine K9 ?_|((refine Kh (λhb=>?_) λhb=>?_)<;>try simp only[BL] at hb)|refine K8 ?_)<;>refine Kv A8 ?_)
   refine⟨?_⟩
   rw[hx]
   rfl
 . have hb:bads src 0 (-1) 0=[]:=List.eq_nil_of_length_eq_zero (by omega)
   rw[hb] at hx
   dsimp only at hx
   refine a4E ?_
   conv=>whnf
   intro B0 W0 V0 lent g0 m0 dfr
   refine Y A8 rfl ?_
   refine Kv A8 ?_
   have hrd:=a1p (cs:=C8) (X:=[]) (ts:=toks src 0) rfl λu=>c2o (toks src 0) u hq hfu
   refine⟨pcO (toks src 0) C8 [],_,⟨?_,?_⟩,hrd.mono ?_⟩
   . exact Kr
   . exact Kr
   intro o O2 ho
   have hh:=b2I ho
   clear ho
   obtain hh|hh:=hh
   . obtain⟨a,e,ts2,hU,rfl,rfl⟩:=hh
     rw[hU] at hx
     refine Kv A8 ?_
     refine⟨[(4, .box [.d (.sl [])] 38),(5, .box [.d (iD 0)] 3),(6, .box [.d (iD 0)] 32)],⟨?_,rfl⟩,(b0c _ _ _ _ _).mono ?_⟩
     . exact Kr
     rintro _ rfl
     refine Kv A8 ?_
     refine⟨?_⟩
     rw[hx]
     rfl
   obtain⟨c,ts2,hU,rfl,rfl⟩:=hh
   rw[hU] at hx
   have hx':x=if(hdT ts2).kind=6 then(c,0,0) else([],((hdT ts2).at_:Int),60):=hx
   have he2:=((a1F FU).1 0 [] _ hq _ _ hU).1
   have hnx:=a2s (cs:=C8) (X:=[]) rfl (.inl ⟨_,rfl⟩) λu=>a5E ts2 u he2
   have hsp:=a2s (cs:=C8) (X:=[]) rfl (.inr ⟨_,rfl⟩) λu=>F5 ts2 u 60 he2
   refine Kv A8 ?_
   refine⟨pcO ts2 C8 [],_,⟨?_,?_⟩,hnx.mono ?_⟩
   . exact Kr
   . exact Kr
   rintro _ O2 ⟨rfl,rfl⟩
   refine Kv A8 ?_
   refine⟨λh6=>?_,λh6=>?_⟩<;>(try simp only[BL] at h6)<;>refine Kv A8 ?_
   . rw[if_neg (by omega)] at hx'
     refine⟨pcO ts2 C8 [],_,⟨?_,?_⟩,hsp.mono ?_⟩
     . exact Kr
     . exact Kr
     rintro _ O2 ⟨rfl,rfl⟩
     refine Kv A8 ?_
     refine⟨[(4, .box [.d (stD c)] 38),(5, .box [.d (iD 0)] 3),(6, .box [.d (iD 0)] 32)],⟨?_,rfl⟩,(b0c _ _ _ _ _).mono ?_⟩
     . exact Kr
     rintro _ rfl
     refine Kv A8 ?_
     refine⟨?_⟩
     rw[hx']
     rfl
   . rw[if_pos (by omega)] at hx'
     refine⟨[(4, .box [.d (stD c)] 38),(5, .box [.d (iD 0)] 3),(6, .box [.d (iD 0)] 32)],⟨?_,rfl⟩,(b5N _ _ _).mono ?_⟩
     . exact Kr
     rintro _ rfl
     refine Kv A8 ?_
     refine⟨?_⟩
     rw[hx']
theorem b4S (hT:C2)(src:List UInt8)(hl:src.length<=65536):Meets Tryz.prog 17 [.sl (o8 src)] λd=>d= .tup [stD (J3 src).1,iD (J3 src).2.1,iD (J3 src).2.2]:=by
 have hp:=b9Q hT src hl
 revert hp
 generalize J3 src=x
 intro hp
 refine enter tok {} Tryz.func17 rfl (by kernel_rfl) Tryz.ntmps17 (by simp) λB0 W0 V0 lent g0=>?_
 refine Kw ?_
 refine Meets.k hp ?_
 refine Kw ?_
 exact⟨rfl⟩
end Go.Proofs.YtaopegkpjhkooaaGreatDoor.Dx
