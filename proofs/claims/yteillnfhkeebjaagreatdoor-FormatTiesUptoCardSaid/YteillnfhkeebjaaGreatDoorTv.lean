/- Chapter 06: the closures that recover. -/
import Derived.Test.YteillnfhkeebjaaGreatDoorSk
import Derived.Test.YteillnfhkeebjaaGreatDoorTu
import Derived.Test.YteillnfhkeebjaaGreatDoorTm
set_option linter.all false
namespace Go.Proofs.YteillnfhkeebjaaGreatDoor.Dx
open Go Go.RowKit
set_option maxRecDepth 100000
set_option maxHeartbeats 16000000
theorem b6i (b0 b1 b2 b3 b5 b6:D):MeetsD Tryz.prog 149 [.loc 4 0, .loc 5 0, .loc 6 0] [(4, .box [.d b0, .d b1, .d b2, .d b3] 47),(5, .box [.d b5] 3),(6, .box [.d b6] 37)] none λO'=>O'=[(4, .box [.d b0, .d b1, .d b2, .d b3] 47),(5, .box [.d b5] 3),(6, .box [.d b6] 37)]:=by
 refine a3J tok {} Tryz.func149 rfl (by kernel_rfl) Tryz.ntmps149 (by simp) (by decide) (by decide) λB0 W0 V0 lent g0=>?_
 refine Kw ?_
 refine⟨_, .d (.tup []),?_,⟨⟨_,rfl⟩,rfl⟩⟩
 repeat'(first|exact True.intro|exact rfl|refine And.intro ?_ ?_|(exact a3g _ _))
abbrev a0q:Cfg:={nm:=[(4,54),(6,56)]}
theorem a9G (b0 b1 b2 b3 b5 b6:D)(at_ e:Int):MeetsD Tryz.prog 149 [.loc 4 0, .loc 5 0, .loc 6 0] [(4, .box [.d b0, .d b1, .d b2, .d b3] 47),(5, .box [.d b5] 3),(6, .box [.d b6] 37)] (some (.iface 203 (.agg [iD at_,iD e])))
 λO'=>O'=[(4, .box [.d (iD 0), .d (iD 0), .d (iD 0), .d (.sl [])] 47),(5, .box [.d (iD at_)] 3),(6, .box [.d (iD e)] 37)]:=by
 refine a3J tok a0q Tryz.func149 rfl (by kernel_rfl) Tryz.ntmps149 (by simp) (by decide) (by decide) λB0 W0 V0 lent g0=>?_
 refine Kv a0q ?_
 refine⟨λh=>absurd h (by decide),λ_=>?_⟩
 refine Kv a0q ?_
 refine k9 tok (cf:=a0q) (by kernel_rfl) [.p 0, .p 1, .p 2, .p 3, .p 4, .s 5 [0], .s 6 [2,1], .s 7 [4,3]] (by kernel_rfl) ?_
 refine Kv a0q ?_
 repeat'((first|(intro hlq;try simp only[SL] at hlq)|refine K9 ?_|((refine Kh (λhb=>?_) λhb=>?_)<;>try simp only[BL] at hb)|refine K8 ?_)<;>refine Kv a0q ?_)
 refine⟨_, .d (.tup []),?_,⟨⟨_,rfl⟩,rfl⟩⟩
 repeat'(first|exact True.intro|exact rfl|refine And.intro ?_ ?_|(exact a3g _ _))
end Go.Proofs.YteillnfhkeebjaaGreatDoor.Dx
/- Chapter 06: parsing conditions and steps. -/
namespace Go.Proofs.YteillnfhkeebjaaGreatDoor.Dx
open Go Go.RowKit
set_option maxRecDepth 100000
set_option maxHeartbeats 16000000
abbrev pcO (ts:List Tk)(cs:List Base)(X:List (Nat×Blk)):List (Nat×Blk):=(5000, .box (.d (.sl (ts.map tkC))::cs) 206)::X
def RdP {α:Type}(f:α->D)(r:Rs α)(cs:List Base)(X:List (Nat×Blk))(o:Out)(O':List (Nat×Blk)):Prop:=match r with
 | .ok a ts=>o= .ret (.d (f a))/\O'=pcO ts cs X
 | .er a e=>∃ts',o= .pan (.iface 203 (.agg [iD (a:Int),iD e]))/\O'=pcO ts' cs X
 | .out=>False
theorem b2S (us:List Value)(h:us.length=16):rrB (λi=>us.getD i undef)=us.map t8:=by
 match us,h with
 |[_,_,_,_,_,_,_,_,_,_,_,_,_,_,_,_],_=>rfl
theorem b1q {F:Nat}{args:List Base}{ts:List Tk}{cs:List Base}{X:List (Nat×Blk)}{R:Out->List Tk->Prop}(hc:cs.length=16)
 (h:∀u,MeetsR Tryz.prog F args (psO ts u) λo O'=>∃ts',O'=psO ts' u/\R o ts') (hR:∀o ts',R o ts'->(∃d,o= .ret (.d d))\/∃d,o= .pan d):
 MeetsR Tryz.prog F args (pcO ts cs X) λo O'=>∃ts',O'=pcO ts' cs X/\R o ts':=by
 have hk:=MeetsR.keepRaw (P:=Tryz.prog) (F:=F) (args:=args) (n:=5000) (l:= .sl (ts.map tkC)) (cs:=cs) (ty:=206) (X:=X) (R:=λo l'=>∃ts',l'= .sl (ts'.map tkC)/\R o ts') (λus hus=>by
  have h1:=h λi=>us.getD i undef
  unfold psO at h1
  rw[b2S us (hus.trans hc)] at h1
  refine h1.mono ?_
  rintro o O' ⟨ts',rfl,hr⟩
  refine⟨.sl (ts'.map tkC),?_,ts',rfl,hr⟩
  rw[<-b2S us (hus.trans hc)]) (λo l' ⟨ts',_,hr⟩=>hR o ts' hr)
 refine hk.mono ?_
 rintro o O' ⟨l',rfl,ts',rfl,hr⟩
 exact⟨ts',rfl,hr⟩
theorem b1s {α:Type}{F:Nat}{args:List Base}{ts:List Tk}{cs:List Base}{X:List (Nat×Blk)}{f:α->D}{r:Rs α}(hc:cs.length=16)
 (h:∀u,MeetsR Tryz.prog F args (psO ts u) λo O'=>RdO f r u o O'):MeetsR Tryz.prog F args (pcO ts cs X) λo O'=>RdP f r cs X o O':=by
 refine(b1q (R:=λo ts'=>match r with| .ok a ts=>o= .ret (.d (f a))/\ts'=ts| .er a e=>o= .pan (.iface 203 (.agg [iD (a:Int),iD e]))| .out=>False) hc (λu=>(h u).mono λo O' ho=>?_) λo ts' hr=>?_).mono ?_
 . cases r with
   |ok a ts=>exact⟨ts,ho.2,ho.1,rfl⟩
   |er a e=>obtain⟨ts',h1,h2⟩:=ho;exact⟨ts',h2,h1⟩
   |out=>exact ho.elim
 . cases r with
   |ok a ts=>exact .inl ⟨_,hr.1⟩
   |er a e=>exact .inr ⟨_,hr⟩
   |out=>exact hr.elim
 . rintro o O' ⟨ts',rfl,hr⟩
   cases r with
   |ok a ts=>exact⟨hr.1,by rw[hr.2]⟩
   |er a e=>exact⟨ts',hr,rfl⟩
   |out=>exact hr.elim
theorem a3V {F:Nat}{args:List Base}{ts ts':List Tk}{cs:List Base}{X:List (Nat×Blk)}{o0:Out}(hc:cs.length=16)(ho:(∃d,o0= .ret (.d d))\/∃d,o0= .pan d)
 (h:∀u,MeetsR Tryz.prog F args (psO ts u) λo O'=>o=o0/\O'=psO ts' u):MeetsR Tryz.prog F args (pcO ts cs X) λo O'=>o=o0/\O'=pcO ts' cs X:=by
 refine(b1q (R:=λo t=>o=o0/\t=ts') hc (λu=>(h u).mono λo O' hh=>⟨ts',hh.2,hh.1,rfl⟩) λo t hr=>?_).mono ?_
 . obtain⟨rfl,_⟩:=hr
   exact ho
 . rintro o O' ⟨t,rfl,h1,rfl⟩
   exact⟨h1,rfl⟩
theorem b2R {α:Type}{f:α->D}{r:Rs α}{cs:List Base}{X:List (Nat×Blk)}{o:Out}{O':List (Nat×Blk)}(h:RdP f r cs X o O'):
 (∃a e ts',r= .er a e/\o= .pan (.iface 203 (.agg [iD (a:Int),iD e]))/\O'=pcO ts' cs X)\/∃a ts',r= .ok a ts'/\o= .ret (.d (f a))/\O'=pcO ts' cs X:=by
 cases r with
 |out=>exact h.elim
 |er a e=>obtain⟨ts',h1,h2⟩:=h;exact .inl ⟨a,e,ts',rfl,h1,h2⟩
 |ok a ts=>exact .inr ⟨a,ts,rfl,h.1,h.2⟩
abbrev J0:List Base:=[.d (.str []), .d (.sl []), .d (.sl []), .d (.sl []), .d (.sl []), .d (.sl []), .d (.sl []), .d (.sl []), .d (.sl []), .d (iD 0), .d (iD 0), .d (iD 0), .d (iD 0), .d (iD 0), .d (iD 0), .d (iD 0)]
theorem b2d (ts:List Tk)(u:Nat->Value)(he:EndsT ts):MeetsR Tryz.prog 122 [.loc 5000 0] (psO ts u) λo O'=>o= .ret (.d (.agg (tkC (hdT ts))))/\O'=psO ts u:=by
 obtain⟨t,r,rfl⟩:=he.cons
 exact a0O t r u
theorem b6q (ts:List Tk)(u:Nat->Value)(hq:QT ts)(hn:condP FU 0 ts≠ .out):MeetsR Tryz.prog 65 [.loc 5000 0] (psO ts u) λo O'=>RdO Cond.d (condP FU 0 ts) u o O':=by
 have hc:=a9U FU (by decide) 0 ts u (by omega) hq hn
 obtain⟨res,hres⟩:∃res,res=condP FU 0 ts:=⟨_,rfl⟩
 rw[<-hres]
 refine m9 tok {rs:=[4]} Tryz.func65 rfl (by kernel_rfl) Tryz.ntmps65 (by simp) λB0 W0 V0 lent g0=>?_
 refine Kv {rs:=[4]} ?_
 refine⟨psO ts u,_,⟨?_,?_⟩,(hc).mono ?_⟩
 . exact Kr
 . exact Kr
 intro o O2 ho
 have hh:=r6 ho
 clear ho
 obtain hh|hh:=hh
 . obtain⟨a,e,ts9,hU,rfl,rfl⟩:=hh
   (try dsimp only at hU)
   rw[hU] at hres
   (try rw[Rs.bind_er] at hres)
   refine Kv {rs:=[4]} ?_
   refine⟨psO ts9 u,⟨?_,?_⟩,?_⟩
   . exact Kr
   . exact Kr
   rw[hres]
   exact⟨_,rfl,rfl⟩
 obtain⟨c,ts2,hU,rfl,rfl⟩:=hh
 (try dsimp only at hU)
 rw[hU] at hres
 (try rw[Rs.bind_ok] at hres)
 refine Kv {rs:=[4]} ?_
 refine⟨psO ts2 u, .d c.d,?_,?_⟩
 rotate_left 1
 . rw[hres]
   exact⟨rfl,rfl⟩
 repeat'(first|exact True.intro|exact rfl|refine And.intro ?_ ?_)
theorem c2S (ts:List Tk)(u:Nat->Value)(hq:QT ts)(hn:g8 FU 0 [] ts≠ .out):MeetsR Tryz.prog 73 [.loc 5000 0] (psO ts u) λo O'=>RdO stD (g8 FU 0 [] ts) u o O':=by
 have hc:=(b3q FU (by decide) FU (Nat.le_refl _)).1 0 ts u (by omega) hq hn
 dsimp only at hc
 obtain⟨res,hres⟩:∃res,res=g8 FU 0 [] ts:=⟨_,rfl⟩
 rw[<-hres]
 refine m9 tok {rs:=[4]} Tryz.func73 rfl (by kernel_rfl) Tryz.ntmps73 (by simp) λB0 W0 V0 lent g0=>?_
 refine Kv {rs:=[4]} ?_
 refine⟨psO ts u,_,⟨?_,?_⟩,(hc).mono ?_⟩
 . exact Kr
 . exact Kr
 intro o O2 ho
 have hh:=r6 ho
 clear ho
 obtain hh|hh:=hh
 . obtain⟨a,e,ts9,hU,rfl,rfl⟩:=hh
   (try dsimp only at hU)
   rw[hU] at hres
   (try rw[Rs.bind_er] at hres)
   refine Kv {rs:=[4]} ?_
   refine⟨psO ts9 u,⟨?_,?_⟩,?_⟩
   . exact Kr
   . exact Kr
   rw[hres]
   exact⟨_,rfl,rfl⟩
 obtain⟨l,ts2,hU,rfl,rfl⟩:=hh
 (try dsimp only at hU)
 rw[hU] at hres
 (try rw[Rs.bind_ok] at hres)
 refine Kv {rs:=[4]} ?_
 refine⟨psO ts2 u, .d (stD l),?_,?_⟩
 rotate_left 1
 . rw[hres]
   exact⟨rfl,rfl⟩
 repeat'(first|exact True.intro|exact rfl|refine And.intro ?_ ?_)
abbrev p9:Cfg:={nm:=[(31,5000)],rs:=[34,36,40]}
theorem c0X (hT:S3)(src:List UInt8)(hl:src.length<=65536):Meets Tryz.prog 64 [.sl (byteCells src), .fn 65 [] []] λd=>d= .tup [(H4 src).1.d,iD (H4 src).2.1,iD (H4 src).2.2]:=by
 have htk:=a9D hT src hl
 have hq:=b3M src hl
 have hfu:=a9T src hl
 obtain⟨x,hx⟩:∃x,x=H4 src:=⟨_,rfl⟩
 rw[<-hx]
 unfold H4 a0T at hx
 refine b0s tok p9 Tryz.func64 rfl (by kernel_rfl) Tryz.ntmps64 (by simp) 4 rfl (by decide) λB0 W0 V0 lent g0=>?_
 refine R8 tok p9 ?_
 refine Kv p9 ?_
 refine R8 tok p9 ?_
 refine Kv p9 ?_
 refine Meets.k htk ?_
 refine Kv p9 ?_
 refine R8 tok p9 ?_
 refine Kv p9 ?_
 refine⟨λh=>absurd h (by decide),λ_=>?_⟩
 refine Kv p9 ?_
 refine R8 tok p9 ?_
 refine Kv p9 ?_
 repeat'((first|(intro hlq;try simp only[SL] at hlq)|refine K9 ?_|refine K8 ?_)<;>refine Kv p9 ?_)
 refine⟨λh0=>?_,λh0=>?_⟩<;>(try simp only[BL] at h0)<;>refine Kv p9 ?_
 . obtain⟨b,bs,hb⟩:=List.exists_cons_of_length_pos (l:=bads src 0 (-1) 0) (by omega)
   rw[hb] at hx⊢
   dsimp only at hx
   refine k9 tok (cf:=p9) (by kernel_rfl) [.p 0, .p 1, .p 2, .p 3, .p 4, .s 5 [0], .s 6 [4,1,2,3], .s 7 []] (by kernel_rfl) ?_
   refine Kv p9 ?_
   repeat'((first|(intro hlq;try simp only[SL] at hlq)|refine K9 ?_|((refine Kh (λhb=>?_) λhb=>?_)<;>try simp only[BL] at hb)|refine K8 ?_)<;>refine Kv p9 ?_)
   refine⟨prC b,⟨Int.le_refl _,rfl,rfl⟩,?_⟩
   refine Kv p9 ?_
   repeat'((first|(intro hlq;try simp only[SL] at hlq)|refine K9 ?_|((refine Kh (λhb=>?_) λhb=>?_)<;>try simp only[BL] at hb)|refine K8 ?_)<;>refine Kv p9 ?_)
   refine⟨?_⟩
   rw[hx]
   rfl
 . have hb:bads src 0 (-1) 0=[]:=List.eq_nil_of_length_eq_zero (by omega)
   rw[hb] at hx
   dsimp only at hx
   refine a8X ?_
   conv=>whnf
   intro B0 W0 V0 lent g0 m0 dfr
   refine Y p9 rfl ?_
   refine Kv p9 ?_
   have hrd:=b1s (cs:=J0) (X:=[]) (ts:=toks src 0) rfl λu=>b6q (toks src 0) u hq hfu
   refine⟨pcO (toks src 0) J0 [],_,⟨?_,?_⟩,hrd.mono ?_⟩
   . exact Kr
   . exact Kr
   intro o O2 ho
   have hh:=b2R ho
   clear ho
   obtain hh|hh:=hh
   . obtain⟨a,e,ts2,hU,rfl,rfl⟩:=hh
     rw[hU] at hx
     refine Kv p9 ?_
     refine⟨[(4, .box [.d (iD 0), .d (iD 0), .d (iD 0), .d (.sl [])] 47),(5, .box [.d (iD 0)] 3),(6, .box [.d (iD 0)] 37)],⟨?_,rfl⟩,(a9G _ _ _ _ _ _ _ _).mono ?_⟩
     . exact Kr
     rintro _ rfl
     refine Kv p9 ?_
     refine⟨?_⟩
     rw[hx]
     rfl
   obtain⟨c,ts2,hU,rfl,rfl⟩:=hh
   rw[hU] at hx
   have hx':x=if(hdT ts2).kind=6 then(c,0,0) else(cz,((hdT ts2).at_:Int),60):=hx
   have he2:=((X3 FU).2.2.2.1 0 _ hq _ _ hU).1
   have hnx:=a3V (cs:=J0) (X:=[]) rfl (.inl ⟨_,rfl⟩) λu=>b2d ts2 u he2
   have hsp:=a3V (cs:=J0) (X:=[]) rfl (.inr ⟨_,rfl⟩) λu=>Z7 ts2 u 60 he2
   refine Kv p9 ?_
   refine⟨pcO ts2 J0 [],_,⟨?_,?_⟩,hnx.mono ?_⟩
   . exact Kr
   . exact Kr
   rintro _ O2 ⟨rfl,rfl⟩
   refine Kv p9 ?_
   refine⟨λh6=>?_,λh6=>?_⟩<;>(try simp only[BL] at h6)<;>refine Kv p9 ?_
   . rw[if_neg (by omega)] at hx'
     refine⟨pcO ts2 J0 [],_,⟨?_,?_⟩,hsp.mono ?_⟩
     . exact Kr
     . exact Kr
     rintro _ O2 ⟨rfl,rfl⟩
     refine Kv p9 ?_
     refine⟨[(4, .box [.d (iD c.kind), .d (iD c.var), .d (iD c.n), .d (.sl (c.parts.map Cond.cells))] 47),(5, .box [.d (iD 0)] 3),(6, .box [.d (iD 0)] 37)],⟨?_,rfl⟩,(a9G _ _ _ _ _ _ _ _).mono ?_⟩
     . exact Kr
     rintro _ rfl
     refine Kv p9 ?_
     refine⟨?_⟩
     rw[hx']
     rfl
   . rw[if_pos (by omega)] at hx'
     refine⟨[(4, .box [.d (iD c.kind), .d (iD c.var), .d (iD c.n), .d (.sl (c.parts.map Cond.cells))] 47),(5, .box [.d (iD 0)] 3),(6, .box [.d (iD 0)] 37)],⟨?_,rfl⟩,(b6i _ _ _ _ _ _).mono ?_⟩
     . exact Kr
     rintro _ rfl
     refine Kv p9 ?_
     refine⟨?_⟩
     rw[hx']
theorem b4y (hT:S3)(src:List UInt8)(hl:src.length<=65536):Meets Tryz.prog 16 [.sl (byteCells src)] λd=>d= .tup [(H4 src).1.d,iD (H4 src).2.1,iD (H4 src).2.2]:=by
 have hp:=c0X hT src hl
 revert hp
 generalize H4 src=x
 intro hp
 refine enter tok {} Tryz.func16 rfl (by kernel_rfl) Tryz.ntmps16 (by simp) λB0 W0 V0 lent g0=>?_
 refine Kw ?_
 refine Meets.k hp ?_
 refine Kw ?_
 exact⟨rfl⟩
end Go.Proofs.YteillnfhkeebjaaGreatDoor.Dx
/- Chapter 06: parsing steps. -/
namespace Go.Proofs.YteillnfhkeebjaaGreatDoor.Dx
open Go Go.RowKit
set_option maxRecDepth 100000
set_option maxHeartbeats 16000000
theorem b6j (b0 b5 b6:D):MeetsD Tryz.prog 156 [.loc 4 0, .loc 5 0, .loc 6 0] [(4, .box [.d b0] 29),(5, .box [.d b5] 3),(6, .box [.d b6] 37)] none λO'=>O'=[(4, .box [.d b0] 29),(5, .box [.d b5] 3),(6, .box [.d b6] 37)]:=by
 refine a3J tok {} Tryz.func156 rfl (by kernel_rfl) Tryz.ntmps156 (by simp) (by decide) (by decide) λB0 W0 V0 lent g0=>?_
 refine Kw ?_
 refine⟨_, .d (.tup []),?_,⟨⟨_,rfl⟩,rfl⟩⟩
 repeat'(first|exact True.intro|exact rfl|refine And.intro ?_ ?_|(exact a3g _ _))
abbrev a0r:Cfg:={nm:=[(4,54),(6,56)]}
theorem a9H (b0 b5 b6:D)(at_ e:Int):MeetsD Tryz.prog 156 [.loc 4 0, .loc 5 0, .loc 6 0] [(4, .box [.d b0] 29),(5, .box [.d b5] 3),(6, .box [.d b6] 37)] (some (.iface 203 (.agg [iD at_,iD e])))
 λO'=>O'=[(4, .box [.d (.sl [])] 29),(5, .box [.d (iD at_)] 3),(6, .box [.d (iD e)] 37)]:=by
 refine a3J tok a0r Tryz.func156 rfl (by kernel_rfl) Tryz.ntmps156 (by simp) (by decide) (by decide) λB0 W0 V0 lent g0=>?_
 refine Kv a0r ?_
 refine⟨λh=>absurd h (by decide),λ_=>?_⟩
 refine Kv a0r ?_
 refine k9 tok (cf:=a0r) (by kernel_rfl) [.p 0, .p 1, .p 2, .p 3, .p 4, .s 5 [0], .s 6 [2,1], .s 7 [4,3]] (by kernel_rfl) ?_
 refine Kv a0r ?_
 repeat'((first|(intro hlq;try simp only[SL] at hlq)|refine K9 ?_|((refine Kh (λhb=>?_) λhb=>?_)<;>try simp only[BL] at hb)|refine K8 ?_)<;>refine Kv a0r ?_)
 refine⟨_, .d (.tup []),?_,⟨⟨_,rfl⟩,rfl⟩⟩
 repeat'(first|exact True.intro|exact rfl|refine And.intro ?_ ?_|(exact a3g _ _))
abbrev q0:Cfg:={nm:=[(31,5000)],rs:=[34,36,40]}
theorem c0Y (hT:S3)(src:List UInt8)(hl:src.length<=65536):Meets Tryz.prog 72 [.sl (byteCells src), .fn 73 [] []] λd=>d= .tup [stD (I6 src).1,iD (I6 src).2.1,iD (I6 src).2.2]:=by
 have htk:=a9D hT src hl
 have hq:=b3M src hl
 have hfu:=b3s src hl
 obtain⟨x,hx⟩:∃x,x=I6 src:=⟨_,rfl⟩
 rw[<-hx]
 unfold I6 a0T at hx
 refine b0s tok q0 Tryz.func72 rfl (by kernel_rfl) Tryz.ntmps72 (by simp) 4 rfl (by decide) λB0 W0 V0 lent g0=>?_
 refine R8 tok q0 ?_
 refine Kv q0 ?_
 refine R8 tok q0 ?_
 refine Kv q0 ?_
 refine Meets.k htk ?_
 refine Kv q0 ?_
 refine R8 tok q0 ?_
 refine Kv q0 ?_
 refine⟨λh=>absurd h (by decide),λ_=>?_⟩
 refine Kv q0 ?_
 refine R8 tok q0 ?_
 refine Kv q0 ?_
 repeat'((first|(intro hlq;try simp only[SL] at hlq)|refine K9 ?_|refine K8 ?_)<;>refine Kv q0 ?_)
 refine⟨λh0=>?_,λh0=>?_⟩<;>(try simp only[BL] at h0)<;>refine Kv q0 ?_
 . obtain⟨b,bs,hb⟩:=List.exists_cons_of_length_pos (l:=bads src 0 (-1) 0) (by omega)
   rw[hb] at hx⊢
   dsimp only at hx
   refine k9 tok (cf:=q0) (by kernel_rfl) [.p 0, .p 1, .p 2, .p 3, .p 4, .s 5 [0], .s 6 [4,1,2,3], .s 7 []] (by kernel_rfl) ?_
   refine Kv q0 ?_
   repeat'((first|(intro hlq;try simp only[SL] at hlq)|refine K9 ?_|((refine Kh (λhb=>?_) λhb=>?_)<;>try simp only[BL] at hb)|refine K8 ?_)<;>refine Kv q0 ?_)
   refine⟨prC b,⟨Int.le_refl _,rfl,rfl⟩,?_⟩
   refine Kv q0 ?_
   repeat'((first|(intro hlq;try simp only[SL] at hlq)|refine K9 ?_|((refine Kh (λhb=>?_) λhb=>?_)<;>try simp only[BL] at hb)|refine K8 ?_)<;>refine Kv q0 ?_)
   refine⟨?_⟩
   rw[hx]
   rfl
 . have hb:bads src 0 (-1) 0=[]:=List.eq_nil_of_length_eq_zero (by omega)
   rw[hb] at hx
   dsimp only at hx
   refine a8X ?_
   conv=>whnf
   intro B0 W0 V0 lent g0 m0 dfr
   refine Y q0 rfl ?_
   refine Kv q0 ?_
   have hrd:=b1s (cs:=J0) (X:=[]) (ts:=toks src 0) rfl λu=>c2S (toks src 0) u hq hfu
   refine⟨pcO (toks src 0) J0 [],_,⟨?_,?_⟩,hrd.mono ?_⟩
   . exact Kr
   . exact Kr
   intro o O2 ho
   have hh:=b2R ho
   clear ho
   obtain hh|hh:=hh
   . obtain⟨a,e,ts2,hU,rfl,rfl⟩:=hh
     rw[hU] at hx
     refine Kv q0 ?_
     refine⟨[(4, .box [.d (.sl [])] 29),(5, .box [.d (iD 0)] 3),(6, .box [.d (iD 0)] 37)],⟨?_,rfl⟩,(a9H _ _ _ _ _).mono ?_⟩
     . exact Kr
     rintro _ rfl
     refine Kv q0 ?_
     refine⟨?_⟩
     rw[hx]
     rfl
   obtain⟨c,ts2,hU,rfl,rfl⟩:=hh
   rw[hU] at hx
   have hx':x=if(hdT ts2).kind=6 then(c,0,0) else([],((hdT ts2).at_:Int),60):=hx
   have he2:=((a2I FU).1 0 [] _ hq _ _ hU).1
   have hnx:=a3V (cs:=J0) (X:=[]) rfl (.inl ⟨_,rfl⟩) λu=>b2d ts2 u he2
   have hsp:=a3V (cs:=J0) (X:=[]) rfl (.inr ⟨_,rfl⟩) λu=>Z7 ts2 u 60 he2
   refine Kv q0 ?_
   refine⟨pcO ts2 J0 [],_,⟨?_,?_⟩,hnx.mono ?_⟩
   . exact Kr
   . exact Kr
   rintro _ O2 ⟨rfl,rfl⟩
   refine Kv q0 ?_
   refine⟨λh6=>?_,λh6=>?_⟩<;>(try simp only[BL] at h6)<;>refine Kv q0 ?_
   . rw[if_neg (by omega)] at hx'
     refine⟨pcO ts2 J0 [],_,⟨?_,?_⟩,hsp.mono ?_⟩
     . exact Kr
     . exact Kr
     rintro _ O2 ⟨rfl,rfl⟩
     refine Kv q0 ?_
     refine⟨[(4, .box [.d (stD c)] 29),(5, .box [.d (iD 0)] 3),(6, .box [.d (iD 0)] 37)],⟨?_,rfl⟩,(a9H _ _ _ _ _).mono ?_⟩
     . exact Kr
     rintro _ rfl
     refine Kv q0 ?_
     refine⟨?_⟩
     rw[hx']
     rfl
   . rw[if_pos (by omega)] at hx'
     refine⟨[(4, .box [.d (stD c)] 29),(5, .box [.d (iD 0)] 3),(6, .box [.d (iD 0)] 37)],⟨?_,rfl⟩,(b6j _ _ _).mono ?_⟩
     . exact Kr
     rintro _ rfl
     refine Kv q0 ?_
     refine⟨?_⟩
     rw[hx']
theorem b5d (hT:S3)(src:List UInt8)(hl:src.length<=65536):Meets Tryz.prog 22 [.sl (byteCells src)] λd=>d= .tup [stD (I6 src).1,iD (I6 src).2.1,iD (I6 src).2.2]:=by
 have hp:=c0Y hT src hl
 revert hp
 generalize I6 src=x
 intro hp
 refine enter tok {} Tryz.func22 rfl (by kernel_rfl) Tryz.ntmps22 (by simp) λB0 W0 V0 lent g0=>?_
 refine Kw ?_
 refine Meets.k hp ?_
 refine Kw ?_
 exact⟨rfl⟩
end Go.Proofs.YteillnfhkeebjaaGreatDoor.Dx
