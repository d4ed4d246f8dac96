/- Chapter 06: what a step sorts by; names. -/
import Derived.Test.YteillnfhkeebjaaGreatDoorTr
set_option linter.all false
namespace Go.Proofs.YteillnfhkeebjaaGreatDoor.Dx
open Go Go.RowKit
set_option maxRecDepth 100000
set_option maxHeartbeats 16000000
theorem a9X (t:Tk)(r:List Tk)(u:Nat->Value):MeetsR Tryz.prog 157 [.loc 5000 0] (psO (t::r) u) λo O'=>o= .ret (.d (.tup [iD ((A2 (t::r)).getD 0),bD (A2 (t::r)).isSome]))/\O'=psO (t::r) u:=by
 have hc:A2 (t::r)=if t.kind=1 then(critW.find? λp=>p.1==t.text).map (·.2) else none:=rfl
 refine m9 tok {rs:=[5,9]} Tryz.func157 rfl (by kernel_rfl) Tryz.ntmps157 (by simp) λB0 W0 V0 lent g0=>?_
 refine Kv {rs:=[5,9]} ?_
 refine⟨psO (t::r) u,_,⟨?_,?_⟩,(a0O t r u).mono ?_⟩
 . exact Kr
 . exact Kr
 rintro _ O' ⟨rfl,rfl⟩
 refine Kv {rs:=[5,9]} ?_
 refine⟨λhk=>?_,λhk=>?_⟩<;>(try simp only[BL] at hk)<;>refine Kv {rs:=[5,9]} ?_
 . rw[if_neg (by omega)] at hc
   rw[hc]
   refine⟨psO (t::r) u, .d (.tup [iD 0,bD false]),?_,⟨rfl,rfl⟩⟩
   repeat'(first|exact True.intro|exact rfl|refine And.intro ?_ ?_)
 rw[if_pos (by omega)] at hc
 refine⟨psO (t::r) u,_,⟨?_,?_⟩,(a0O t r u).mono ?_⟩
 . exact Kr
 . exact Kr
 rintro _ O' ⟨rfl,rfl⟩
 refine Kv {rs:=[5,9]} ?_
 repeat'((first|(intro hlq;try simp only[SL] at hlq)|refine K9 ?_|((refine Kh (λhb=>?_) λhb=>?_)<;>try simp only[BL] at hb)|refine Ka ?_|refine Kb ?_|refine Kc (hd:=rfl) (e:=?_)|refine Kc (hd:=icells_eq _) (e:=?_)|refine Kd (e:=?_)|refine Kl rfl ?_)<;>refine Kv {rs:=[5,9]} ?_)
 iterate 5
  rotate_left 1
 . rename_i h1 h2 h3 h4
   have e:A2 (t::r)=none:=by
    rw[hc]
    have k:∀{w:List UInt8},¬t.text=w->(w==t.text)=false:=λh=>beq_eq_false_iff_ne.2 (Ne.symm h)
    simp only[critW,List.find?,k h1,k h2,k h3,k h4,k hb,Option.map_none]
   rw[e]
   refine⟨psO (t::r) u, .d (.tup [iD 0,bD false]),?_,⟨rfl,rfl⟩⟩
   repeat'(first|exact True.intro|exact rfl|refine And.intro ?_ ?_)
 . have e:A2 (t::r)=some 1:=by rw[hc,hb];rfl
   rw[e]
   refine⟨psO (t::r) u, .d (.tup [iD 1,bD true]),?_,⟨rfl,rfl⟩⟩
   repeat'(first|exact True.intro|exact rfl|refine And.intro ?_ ?_)
 . have e:A2 (t::r)=some 2:=by rw[hc,hb];rfl
   rw[e]
   refine⟨psO (t::r) u, .d (.tup [iD 2,bD true]),?_,⟨rfl,rfl⟩⟩
   repeat'(first|exact True.intro|exact rfl|refine And.intro ?_ ?_)
 . have e:A2 (t::r)=some 3:=by rw[hc,hb];rfl
   rw[e]
   refine⟨psO (t::r) u, .d (.tup [iD 3,bD true]),?_,⟨rfl,rfl⟩⟩
   repeat'(first|exact True.intro|exact rfl|refine And.intro ?_ ?_)
 . have e:A2 (t::r)=some 4:=by rw[hc,hb];rfl
   rw[e]
   refine⟨psO (t::r) u, .d (.tup [iD 4,bD true]),?_,⟨rfl,rfl⟩⟩
   repeat'(first|exact True.intro|exact rfl|refine And.intro ?_ ?_)
 . have e:A2 (t::r)=some 5:=by rw[hc,hb];rfl
   rw[e]
   refine⟨psO (t::r) u, .d (.tup [iD 5,bD true]),?_,⟨rfl,rfl⟩⟩
   repeat'(first|exact True.intro|exact rfl|refine And.intro ?_ ?_)
end Go.Proofs.YteillnfhkeebjaaGreatDoor.Dx
/- Chapter 06: the parser's conditions. -/
namespace Go.Proofs.YteillnfhkeebjaaGreatDoor.Dx
open Go Go.RowKit
set_option maxRecDepth 100000
set_option maxHeartbeats 16000000
theorem M6 (c:Cond):Meets Tryz.prog 253 [c.d] λd=>d=(w6 c).d:=by
 refine enter tok {} Tryz.func253 rfl (by kernel_rfl) Tryz.ntmps253 (by simp) λB0 W0 V0 lent g0=>?_
 refine Kw ?_
 refine⟨?_⟩
 show D.agg _=D.agg _
 simp only[Cond.dc,List.map_cons,List.map_nil,Cond.cells_eq]
theorem B6 (v n:Int):Meets Tryz.prog 254 [iD v,iD n] λd=>d=(leC v n).d:=by
 refine enter tok {} Tryz.func254 rfl (by kernel_rfl) Tryz.ntmps254 (by simp) λB0 W0 V0 lent g0=>?_
 refine Kw ?_
 refine⟨?_⟩
 rfl
def QT (ts:List Tk):Prop:=EndsT ts/\∀t∈ts,a3j t
theorem QT.tail {ts:List Tk}(h:QT ts)(hk:(hdT ts).kind≠6):QT ts.tail:=by
 have hc:=h.1.cons
 obtain⟨t,r,rfl⟩:=hc
 exact⟨h.1.tail hk,λx hx=>h.2 x (List.mem_cons_of_mem _ hx)⟩
theorem QT.isW {w:List UInt8}{ts:List Tk}(h:QT ts)(hw:isW w ts=true):QT ts.tail:=by
 have hc:=h.1.cons
 obtain⟨t,r,rfl⟩:=hc
 exact h.tail (by rcases b1l hw with e|e<;>(show t.kind≠6;omega))
def Rs.kp {α:Type}(r:Rs α):Prop:=∀a ts,r= .ok a ts->QT ts
theorem Q0 {α:Type}{a:α}{ts:List Tk}(h:QT ts):(Rs.ok a ts).kp:=λ_ _ e=>by cases e;exact h
theorem T7 {α:Type}{a:Nat}{e:Int}:(Rs.er a e:Rs α).kp:=λ_ _ h=>by cases h
theorem T8 {α:Type}:(Rs.out:Rs α).kp:=λ_ _ h=>by cases h
theorem D6 {α β:Type}{r:Rs α}{f:α->List Tk->Rs β}(h:r.kp)(hf:∀a ts,QT ts->(f a ts).kp):(r.bind f).kp:=by
 cases r with
 |ok a ts=>exact hf a ts (h a ts rfl)
 |er a e=>exact T7
 |out=>exact T8
theorem a0M {w:List UInt8}{ts:List Tk}(h:QT ts):(p7 w ts).kp:=by
 unfold p7
 split
 . rename_i hw;exact Q0 (h.isW hw)
 . exact T7
theorem c0M {ts:List Tk}(h:QT ts):(r4 ts).kp:=by
 unfold r4
 split
 . rename_i n hn
   refine Q0 (h.tail λe=>?_)
   unfold G2 at hn
   split at hn
   . rename_i hk;have:=hk.1;omega
   . cases hn
 . exact T7
theorem c1P {v:Int}{ts:List Tk}(h:QT ts):(z7 v ts).kp:=by
 unfold z7
 repeat' split
 all_goals first|exact T7|exact D6 (c0M (h.isW (by assumption))) λ_ _ h=>Q0 h
theorem c4o {ts:List Tk}{v:Int}(h:QT ts)(hv:L4 ts=some v):QT ts.tail:=by
 unfold L4 at hv
 repeat' split at hv
 all_goals first|exact h.isW (by assumption)|cases hv
theorem X3:∀k:Nat,(∀d ts,QT ts->(j5 k d ts).kp)/\(∀d ts,QT ts->(o7 k d ts).kp)/\(∀d l ts,QT ts->(conjL k d l ts).kp)/\(∀d ts,QT ts->(condP k d ts).kp)/\(∀d l ts,QT ts->(condL k d l ts).kp)
 |0=>⟨λd ts h=>by rw[j5];exact T8,λd ts h=>by rw[o7];exact T8,λd l ts h=>by rw[conjL];exact T8,λd ts h=>by rw[condP];exact T8,λd l ts h=>by rw[condL];exact T8⟩
 | k +1=>by
   have ih:=X3 k
   obtain⟨h1,h2,h3,h4,h5⟩:=ih
   refine⟨λd ts h=>?_,λd ts h=>?_,λd l ts h=>?_,λd ts h=>?_,λd l ts h=>?_⟩
   . rw[j5]
     split
     . exact T7
     split
     . exact D6 (h1 _ _ (h.isW (by assumption))) λ_ _ h=>Q0 h
     split
     . exact D6 (h4 _ _ (h.isW (by assumption))) λ_ _ h=>D6 (a0M h) λ_ _ h=>Q0 h
     split
     . exact T7
     . exact c1P (c4o h (by assumption))
   . rw[o7];exact D6 (h1 _ _ h) λ_ _ h=>h3 _ _ _ h
   . rw[conjL]
     split
     . exact D6 (h1 _ _ (h.isW (by assumption))) λ_ _ h=>h3 _ _ _ h
     . exact Q0 h
   . rw[condP];exact D6 (h2 _ _ h) λ_ _ h=>h5 _ _ _ h
   . rw[condL]
     split
     . exact D6 (h2 _ _ (h.isW (by assumption))) λ_ _ h=>h5 _ _ _ h
     . exact Q0 h
def RdC (f:Nat)(k:Nat)(P:Nat->Nat->List Tk->Rs Cond):Prop:=∀(d:Nat) (ts:List Tk) (u:Nat->Value),d<=16->QT ts->P k d ts≠ .out->MeetsR Tryz.prog f [.loc 5000 0, .d (iD d)] (psO ts u) λo O'=>RdO Cond.d (P k d ts) u o O'
end Go.Proofs.YteillnfhkeebjaaGreatDoor.Dx
/- Chapter 06: chains of conditions. -/
namespace Go.Proofs.YteillnfhkeebjaaGreatDoor.Dx
open Go Go.RowKit
set_option maxRecDepth 100000
set_option maxHeartbeats 16000000
theorem S9 {α β:Type}{r:Rs α}{f:α->List Tk->Rs β}(h:r.bind f≠ .out):r≠ .out:=λe=>h (by rw[e];rfl)
abbrev C2:Cfg:={rs:=[14,18,22]}
theorem a9J (F:Nat)(K:Int)(w:List UInt8)(U:Nat->Nat->List Tk->Rs Cond)(Lp:Nat->Nat->List Cond->List Tk->Rs Cond)(hL0:∀d l ts,Lp 0 d l ts= .out)
 (hLs:∀k d l ts,Lp (k+1) d l ts=if isW w ts then(U k d ts.tail).bind λc ts=>Lp k d (l++[c]) ts else .ok (mkC K l) ts) (hkp:∀k d ts,QT ts->(U k d ts).kp)
 (k d:Nat) (ts:List Tk) (u:Nat->Value) (hd:d<=16) (hk:k<=1000000000) (ht:QT ts) (hu:∀j,j<=k->RdC F j U) (hn:(U k d ts).bind (λc ts=>Lp k d [c] ts)≠ .out):
 MeetsR Tryz.prog 150 [.loc 5000 0, .d (iD K), .d (.str w), .fn F [.loc 5000 0] [], .d (iD d)] (psO ts u) λo O'=>RdO Cond.d ((U k d ts).bind (λc ts=>Lp k d [c] ts)) u o O':=by
 have h1:=hu k (Nat.le_refl _) d ts u hd ht (S9 hn)
 have hq:=hkp k d ts ht
 refine m9 tok C2 Tryz.func150 rfl (by kernel_rfl) Tryz.ntmps150 (by simp) λB0 W0 V0 lent g0=>?_
 refine Kv C2 ?_
 refine⟨psO ts u,_,⟨?_,?_⟩,h1.mono ?_⟩
 . exact Kr
 . exact Kr
 intro o O' ho
 cases hU:U k d ts with
 |out=>rw[hU] at ho;exact ho.elim
 | er a e=>
   rw[hU] at ho
   obtain⟨ts',rfl,rfl⟩:=ho
   refine Kv C2 ?_
   refine⟨psO ts' u,⟨?_,?_⟩,?_⟩
   . exact Kr
   . exact Kr
   exact⟨_,rfl,rfl⟩
 | ok c ts'=>
   rw[hU] at ho
   obtain⟨rfl,rfl⟩:=ho
   refine Kv C2 ?_
   have hbd:(U k d ts).bind (λc ts=>Lp k d [c] ts)=Lp k d [c] ts':=by rw[hU];rfl
   rw[hbd] at hn
   refine d4 tok C2 [(.inl 11,11,47,4)] (X:=Nat×List Cond×List Tk) (λs=>[(11, .own 11)]) (λs=>(11, .sl ⟨47,4,s.2.1.map Cond.cells,true⟩)::psO s.2.2 u) [] (λs=>s.1<=k/\QT s.2.2/\Lp k d [c] ts'=Lp s.1 d s.2.1 s.2.2/\s.2.1.length+s.1<=k+1) (λs=>s.1) (k,[c],ts') ?_
   refine Kv C2 ?_
   refine⟨by simp,?_⟩
   refine Kv C2 ?_
   refine And.intro ?_ ⟨⟨Nat.le_refl _,hq _ _ hU,rfl,by simp;omega⟩,λs hΦ=>?_⟩
   . repeat'(first|exact True.intro|exact rfl|refine And.intro ?_ ?_|(exact(by simp only[List.map_cons,List.map_nil,Cond.cells_eq])))
   obtain⟨j,l,ts2⟩:=s
   obtain⟨hj,hq2,heq,hlen⟩:=hΦ
   dsimp only at hj hq2 heq hlen
   have hcc:=hq2.1.cons
   obtain⟨t,r,rfl⟩:=hcc
   cases j with
   |zero=>rw[hL0] at heq;exact absurd heq hn
   |succ j=>
   rw[hLs] at heq
   refine Kv C2 ?_
   refine⟨psO (t::r) u,_,⟨?_,?_⟩,(a4Z t r u w).mono ?_⟩
   . exact Kr
   . exact Kr
   rintro _ O' ⟨rfl,rfl⟩
   cases h:isW w (t::r) with
   | false=>
     rw[h,if_neg (by decide)] at heq
     refine Kv C2 ?_
     repeat'((first|(intro hlq;try simp only[SL] at hlq)|refine K9 ?_|((refine Kh (λhb=>?_) λhb=>?_)<;>try simp only[BL] at hb)|refine Ka ?_|refine Kb ?_|refine Kc (hd:=rfl) (e:=?_)|refine Kc (hd:=icells_eq _) (e:=?_)|refine Kd (e:=?_)|refine Kl rfl ?_)<;>refine Kv C2 ?_)
     all_goals try(exact absurd ‹true=false› (by decide))
     all_goals try(exact absurd ‹false=true› (by decide))
     . obtain ⟨x,rfl⟩:∃x,l=[x]:=List.length_eq_one_iff.1 (by omega)
       refine⟨x.dc,⟨Int.le_refl _,by simp only[List.map_cons,List.map_nil,Cond.cells_eq];rfl,rfl⟩,?_⟩
       refine Kv C2 ?_
       refine⟨psO (t::r) u, .d x.d,?_,?_⟩
       rotate_left 1
       . rw[Rs.bind_ok,heq]
         exact⟨rfl,rfl⟩
       . exact Kr
     . have hm:mkC K l=⟨K,0,0,l⟩:=by
        unfold mkC
        split
        . simp at hb
        . rfl
       refine⟨psO (t::r) u, .d (⟨K,0,0,l⟩:Cond).d,?_,?_⟩
       rotate_left 1
       . rw[Rs.bind_ok,heq,hm]
         exact⟨rfl,rfl⟩
       . exact Kr
   | true=>
     rw[h,if_pos rfl] at heq
     refine Kv C2 ?_
     repeat'((first|(intro hlq;try simp only[SL] at hlq)|refine K9 ?_|((refine Kh (λhb=>?_) λhb=>?_)<;>try simp only[BL] at hb)|refine Ka ?_|refine Kb ?_|refine Kc (hd:=rfl) (e:=?_)|refine Kc (hd:=icells_eq _) (e:=?_)|refine Kd (e:=?_)|refine Kl rfl ?_)<;>refine Kv C2 ?_)
     all_goals try(exact absurd ‹true=false› (by decide))
     all_goals try(exact absurd ‹false=true› (by decide))
     have hnn:U j d r≠ .out:=S9 (by rw[heq] at hn;exact hn)
     have hq3:=hkp j d r (hq2.isW h)
     refine⟨psO r u,_,⟨?_,?_⟩,(hu j (by omega) d r u hd (hq2.isW h) hnn).mono ?_⟩
     . exact Kr
     . exact Kr
     intro o O' ho
     cases hU2:U j d r with
     |out=>rw[hU2] at ho;exact ho.elim
     | er a e=>
       rw[hU2] at ho
       obtain⟨ts3,rfl,rfl⟩:=ho
       have h3:Lp k d [c] ts'= .er a e:=by rw[heq,List.tail_cons,hU2];rfl
       refine Kv C2 ?_
       refine⟨psO ts3 u,⟨?_,?_⟩,?_⟩
       . exact Kr
       . exact Kr
       rw[Rs.bind_ok,h3]
       exact⟨_,rfl,rfl⟩
     | ok c2 ts3=>
       rw[hU2] at ho
       obtain⟨rfl,rfl⟩:=ho
       have h3:Lp k d [c] ts'=Lp j d (l++[c2]) ts3:=by rw[heq,List.tail_cons,hU2];rfl
       refine Kv C2 ?_
       refine⟨by simp,?_⟩
       refine Kv C2 ?_
       refine⟨λh1 h2=>?_,?_⟩
       . simp only[List.length_map,List.length_cons,List.length_nil]
         omega
       refine Kv C2 ?_
       refine⟨⟨(j,l++[c2],ts3),?_,⟨by dsimp only;omega,hq3 _ _ hU2,h3,by dsimp only;simp only[List.length_append,List.length_cons,List.length_nil];omega⟩,by dsimp only;omega⟩⟩
       repeat'(first|exact True.intro|exact rfl|refine And.intro ?_ ?_|(exact(by simp only[List.map_append,List.map_cons,List.map_nil,Cond.cells_eq])))
end Go.Proofs.YteillnfhkeebjaaGreatDoor.Dx
/- Chapter 06: conjunctions and conditions,from what stands below them. -/
namespace Go.Proofs.YteillnfhkeebjaaGreatDoor.Dx
open Go Go.RowKit
set_option maxRecDepth 100000
set_option maxHeartbeats 16000000
theorem b6x (k:Nat)(hk:k<=1000000000)(hu:∀j,j<=k->RdC 205 j j5):RdC 151 (k+1) o7:=by
 intro d ts u hd hq hn
 have e:o7 (k+1) d ts=(j5 k d ts).bind λc ts=>conjL k d [c] ts:=by rw[o7]
 rw[e] at hn⊢
 have hc:=a9J 205 2 [97,110,100] j5 conjL (λd l ts=>by rw[conjL]) (λk d l ts=>by rw[conjL]) (λk=>(X3 k).1) k d ts u hd hk hq hu hn
 revert hc
 generalize (j5 k d ts).bind (λc ts=>conjL k d [c] ts)=res
 intro hc
 refine m9 tok {rs:=[9]} Tryz.func151 rfl (by kernel_rfl) Tryz.ntmps151 (by simp) λB0 W0 V0 lent g0=>?_
 refine Kv {rs:=[9]} ?_
 refine⟨psO ts u,_,⟨?_,?_⟩,hc.mono ?_⟩
 . exact Kr
 . exact Kr
 intro o O' ho
 cases res with
 |out=>exact ho.elim
 | er a e=>
   obtain⟨ts',rfl,rfl⟩:=ho
   refine Kv {rs:=[9]} ?_
   refine⟨psO ts' u,⟨?_,?_⟩,?_⟩
   . exact Kr
   . exact Kr
   exact⟨_,rfl,rfl⟩
 | ok c ts'=>
   obtain⟨rfl,rfl⟩:=ho
   refine Kv {rs:=[9]} ?_
   refine⟨psO ts' u, .d c.d,?_,⟨rfl,rfl⟩⟩
   repeat'(first|exact True.intro|exact rfl|refine And.intro ?_ ?_)
theorem b6s (k:Nat)(hk:k<=1000000000)(hu:∀j,j<=k->RdC 151 j o7):RdC 66 (k+1) condP:=by
 intro d ts u hd hq hn
 have e:condP (k+1) d ts=(o7 k d ts).bind λc ts=>condL k d [c] ts:=by rw[condP]
 rw[e] at hn⊢
 have hc:=a9J 151 3 [111,114] o7 condL (λd l ts=>by rw[condL]) (λk d l ts=>by rw[condL]) (λk=>(X3 k).2.1) k d ts u hd hk hq hu hn
 revert hc
 generalize (o7 k d ts).bind (λc ts=>condL k d [c] ts)=res
 intro hc
 refine m9 tok {rs:=[9]} Tryz.func66 rfl (by kernel_rfl) Tryz.ntmps66 (by simp) λB0 W0 V0 lent g0=>?_
 refine Kv {rs:=[9]} ?_
 refine⟨psO ts u,_,⟨?_,?_⟩,hc.mono ?_⟩
 . exact Kr
 . exact Kr
 intro o O' ho
 cases res with
 |out=>exact ho.elim
 | er a e=>
   obtain⟨ts',rfl,rfl⟩:=ho
   refine Kv {rs:=[9]} ?_
   refine⟨psO ts' u,⟨?_,?_⟩,?_⟩
   . exact Kr
   . exact Kr
   exact⟨_,rfl,rfl⟩
 | ok c ts'=>
   obtain⟨rfl,rfl⟩:=ho
   refine Kv {rs:=[9]} ?_
   refine⟨psO ts' u, .d c.d,?_,⟨rfl,rfl⟩⟩
   repeat'(first|exact True.intro|exact rfl|refine And.intro ?_ ?_)
end Go.Proofs.YteillnfhkeebjaaGreatDoor.Dx
