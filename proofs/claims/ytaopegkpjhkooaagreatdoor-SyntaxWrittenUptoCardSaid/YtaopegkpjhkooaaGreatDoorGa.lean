/- Chapter 06: times,kinds of timing,settings; finding a name. -/
import Derived.Test.YtaopegkpjhkooaaGreatDoorG9
set_option linter.all false
namespace Go.Proofs.YtaopegkpjhkooaaGreatDoor.Dx
open Go Go.RowKit
set_option maxRecDepth 100000
set_option maxHeartbeats 16000000
def ckV (t:Tk):Int:=if t.kind=3 then(B9 t.text).getD 0 else 0
theorem b0j (hT:C2)(t:Tk)(r:List Tk)(u:Nat->Value)(ht:a3f t):MeetsR Tryz.prog 120 [.loc 5000 0] (psO (t::r) u) λo O'=>o= .ret (.d (.tup [iD (ckV t),bD (B3 t).isSome]))/\O'=psO (t::r) u:=by
 have htm:=hT t.text ht.1
 by_cases hk:t.kind=3
 . cases hv:B9 t.text with
   | none=>
     have e1:ckV t=0:=by unfold ckV;rw[if_pos hk,hv];rfl
     have e2:B3 t=none:=by unfold B3;rw[if_pos hk,hv]
     unfold a1J at htm
     rw[hv] at htm
     rw[e1,e2]
     refine k8 tok {rs:=[6,11]} Tryz.func120 rfl (by kernel_rfl) Tryz.ntmps120 (by simp) λB0 W0 V0 lent g0=>?_
     refine Kv {rs:=[6,11]} ?_
     refine⟨psO (t::r) u,_,⟨?_,?_⟩,(I9 t r u).mono ?_⟩
     . exact Kr
     . exact Kr
     rintro _ O2 ⟨rfl,rfl⟩
     refine Kv {rs:=[6,11]} ?_
     refine⟨λh1=>?_,λh1=>?_⟩<;>(try simp only[BL] at h1)<;>refine Kv {rs:=[6,11]} ?_
     . exact absurd h1 (by omega)
     refine⟨psO (t::r) u,_,⟨?_,?_⟩,(I9 t r u).mono ?_⟩
     . exact Kr
     . exact Kr
     rintro _ O2 ⟨rfl,rfl⟩
     refine Kv {rs:=[6,11]} ?_
     repeat'((first|(intro hlq;try simp only[SL] at hlq)|refine Meets.k (htm) ?_|refine K9 ?_|((refine Kh (λhb=>?_) λhb=>?_)<;>try simp only[BL] at hb)|refine K8 ?_)<;>refine Kv {rs:=[6,11]} ?_)
     all_goals try(exact absurd hb (by decide))
     refine⟨psO (t::r) u, .d (.tup [iD 0,bD false]),?_,⟨rfl,rfl⟩⟩
     repeat'(first|exact True.intro|exact rfl|refine And.intro ?_ ?_)
   | some v=>
     have e1:ckV t=v:=by unfold ckV;rw[if_pos hk,hv];rfl
     have e2:B3 t=if 0<=v then some v else none:=by unfold B3;rw[if_pos hk,hv]
     unfold a1J at htm
     rw[hv] at htm
     rw[e1,e2]
     refine k8 tok {rs:=[6,11]} Tryz.func120 rfl (by kernel_rfl) Tryz.ntmps120 (by simp) λB0 W0 V0 lent g0=>?_
     refine Kv {rs:=[6,11]} ?_
     refine⟨psO (t::r) u,_,⟨?_,?_⟩,(I9 t r u).mono ?_⟩
     . exact Kr
     . exact Kr
     rintro _ O2 ⟨rfl,rfl⟩
     refine Kv {rs:=[6,11]} ?_
     refine⟨λh1=>?_,λh1=>?_⟩<;>(try simp only[BL] at h1)<;>refine Kv {rs:=[6,11]} ?_
     . exact absurd h1 (by omega)
     refine⟨psO (t::r) u,_,⟨?_,?_⟩,(I9 t r u).mono ?_⟩
     . exact Kr
     . exact Kr
     rintro _ O2 ⟨rfl,rfl⟩
     refine Kv {rs:=[6,11]} ?_
     repeat'((first|(intro hlq;try simp only[SL] at hlq)|refine Meets.k (htm) ?_|refine K9 ?_|((refine Kh (λhb=>?_) λhb=>?_)<;>try simp only[BL] at hb)|refine K8 ?_)<;>refine Kv {rs:=[6,11]} ?_)
     all_goals try(exact absurd hb (by decide))
     refine⟨psO (t::r) u, .d (.tup [iD v,bD (decide (v≥0))]),?_,⟨?_,rfl⟩⟩
     . exact Kr
     . by_cases h0:0<=v
       . rw[if_pos h0,decide_eq_true (show v≥0 from h0)];rfl
       . rw[if_neg h0,decide_eq_false (show ¬v≥0 from h0)];rfl
 . have e1:ckV t=0:=if_neg hk
   have e2:B3 t=none:=if_neg hk
   rw[e1,e2]
   refine k8 tok {rs:=[6,11]} Tryz.func120 rfl (by kernel_rfl) Tryz.ntmps120 (by simp) λB0 W0 V0 lent g0=>?_
   refine Kv {rs:=[6,11]} ?_
   refine⟨psO (t::r) u,_,⟨?_,?_⟩,(I9 t r u).mono ?_⟩
   . exact Kr
   . exact Kr
   rintro _ O2 ⟨rfl,rfl⟩
   refine Kv {rs:=[6,11]} ?_
   refine⟨λh1=>?_,λh1=>?_⟩<;>(try simp only[BL] at h1)<;>refine Kv {rs:=[6,11]} ?_
   . refine⟨psO (t::r) u, .d (.tup [iD 0,bD false]),?_,⟨rfl,rfl⟩⟩
     repeat'(first|exact True.intro|exact rfl|refine And.intro ?_ ?_)
   . exact absurd h1 (by omega)
theorem b5Q {t:Tk}{v:Int}(h:B3 t=some v):ckV t=v:=by
 unfold B3 at h
 unfold ckV
 split at h
 . rename_i hk
   rw[if_pos hk]
   split at h
   . rename_i w hw
     rw[hw]
     split at h
     . cases h;rfl
     . cases h
   . cases h
 . cases h
theorem b0l (hT:C2)(ts:List Tk)(u:Nat->Value)(hq:QT ts){v:Int}(h:B3 (hdT ts)=some v):MeetsR Tryz.prog 120 [.loc 5000 0] (psO ts u) λo O'=>o= .ret (.d (.tup [iD v,bD true]))/\O'=psO ts u:=by
 obtain⟨t,r,rfl⟩:=hq.1.cons
 have hm:=b0j hT t r u (hq.2 t (by simp))
 rw[show B3 t=some v from h,b5Q (show B3 t=some v from h)] at hm
 exact hm
theorem b0k (hT:C2)(ts:List Tk)(u:Nat->Value)(hq:QT ts)(h:B3 (hdT ts)=none):MeetsR Tryz.prog 120 [.loc 5000 0] (psO ts u) λo O'=>o= .ret (.d (.tup [iD (ckV (hdT ts)),bD false]))/\O'=psO ts u:=by
 obtain⟨t,r,rfl⟩:=hq.1.cons
 have hm:=b0j hT t r u (hq.2 t (by simp))
 rw[show B3 t=none from h] at hm
 exact hm
abbrev T5:Cfg:={rs:=[7,13,15]}
theorem a1I (hT:C2)(ts:List Tk)(u:Nat->Value)(hq:QT ts):MeetsR Tryz.prog 81 [.loc 5000 0] (psO ts u) λo O'=>RdO iD (C1 ts) u o O':=by
 obtain⟨res,hres⟩:∃res,res=C1 ts:=⟨_,rfl⟩
 rw[<-hres]
 unfold C1 at hres
 cases h:B3 (hdT ts) with
 | some v=>
   rw[h] at hres
   dsimp only at hres
   refine k8 tok T5 Tryz.func81 rfl (by kernel_rfl) Tryz.ntmps81 (by simp) λB0 W0 V0 lent g0=>?_
   refine Kv T5 ?_
   refine⟨psO ts u,_,⟨?_,?_⟩,(b0l hT ts u hq h).mono ?_⟩
   . exact Kr
   . exact Kr
   rintro _ O2 ⟨rfl,rfl⟩
   refine Kv T5 ?_
   refine⟨λh=>absurd h (by decide),λ_=>?_⟩
   refine Kv T5 ?_
   refine⟨psO ts u,_,⟨?_,?_⟩,(S7 ts u hq.1).mono ?_⟩
   . exact Kr
   . exact Kr
   rintro _ O2 ⟨rfl,rfl⟩
   refine Kv T5 ?_
   refine⟨psO ts.tail u, .d (iD v),?_,?_⟩
   rotate_left 1
   . rw[hres]
     exact⟨rfl,rfl⟩
   repeat'(first|exact True.intro|exact rfl|refine And.intro ?_ ?_)
 | none=>
   rw[h] at hres
   dsimp only at hres
   refine k8 tok T5 Tryz.func81 rfl (by kernel_rfl) Tryz.ntmps81 (by simp) λB0 W0 V0 lent g0=>?_
   refine Kv T5 ?_
   refine⟨psO ts u,_,⟨?_,?_⟩,(b0k hT ts u hq h).mono ?_⟩
   . exact Kr
   . exact Kr
   rintro _ O2 ⟨rfl,rfl⟩
   refine Kv T5 ?_
   refine⟨λ_=>?_,λh=>absurd h (by decide)⟩
   refine Kv T5 ?_
   refine⟨psO ts u,_,⟨?_,?_⟩,(F5 ts u 60 hq.1).mono ?_⟩
   . exact Kr
   . exact Kr
   rintro _ O2 ⟨rfl,rfl⟩
   refine Kv T5 ?_
   refine⟨psO ts u,⟨?_,?_⟩,?_⟩
   . exact Kr
   . exact Kr
   rw[hres]
   exact⟨_,rfl,rfl⟩
theorem c3k (w:List UInt8):Meets Tryz.prog 118 [.str w] λd=>d= .tup [iD (if w=[103,117,110] then 1 else if w=[99,104,105,112] then 2 else if w=[115,108,111,116] then 3 else 0),bD (decide (w=[103,117,110]\/w=[99,104,105,112]\/w=[115,108,111,116]))]:=by
 by_cases h1:w=[103,117,110]
 . subst h1
   refine enter tok {} Tryz.func118 rfl (by kernel_rfl) Tryz.ntmps118 (by simp) λB0 W0 V0 lent g0=>?_
   refine Kw ?_
   repeat'((first|(intro hlq;try simp only[SL] at hlq)|refine K9 ?_|((refine Kh (λhb=>?_) λhb=>?_)<;>try simp only[BL] at hb)|refine K8 ?_)<;>refine Kw ?_)
   all_goals first|exact⟨rfl⟩|(exfalso;simp_all;done)
 by_cases h2:w=[99,104,105,112]
 . subst h2
   refine enter tok {} Tryz.func118 rfl (by kernel_rfl) Tryz.ntmps118 (by simp) λB0 W0 V0 lent g0=>?_
   refine Kw ?_
   repeat'((first|(intro hlq;try simp only[SL] at hlq)|refine K9 ?_|((refine Kh (λhb=>?_) λhb=>?_)<;>try simp only[BL] at hb)|refine K8 ?_)<;>refine Kw ?_)
   all_goals first|exact⟨rfl⟩|(exfalso;simp_all;done)
 by_cases h3:w=[115,108,111,116]
 . subst h3
   refine enter tok {} Tryz.func118 rfl (by kernel_rfl) Tryz.ntmps118 (by simp) λB0 W0 V0 lent g0=>?_
   refine Kw ?_
   repeat'((first|(intro hlq;try simp only[SL] at hlq)|refine K9 ?_|((refine Kh (λhb=>?_) λhb=>?_)<;>try simp only[BL] at hb)|refine K8 ?_)<;>refine Kw ?_)
   all_goals first|exact⟨rfl⟩|(exfalso;simp_all;done)
 rw[if_neg h1,if_neg h2,if_neg h3,decide_eq_false (by simp only[h1,h2,h3,or_self,not_false_eq_true])]
 refine enter tok {} Tryz.func118 rfl (by kernel_rfl) Tryz.ntmps118 (by simp) λB0 W0 V0 lent g0=>?_
 refine Kw ?_
 repeat'((first|(intro hlq;try simp only[SL] at hlq)|refine K9 ?_|((refine Kh (λhb=>?_) λhb=>?_)<;>try simp only[BL] at hb)|refine K8 ?_)<;>refine Kw ?_)
 all_goals first|exact absurd hb h1|exact absurd hb h2|exact absurd hb h3|exact⟨rfl⟩
end Go.Proofs.YtaopegkpjhkooaaGreatDoor.Dx
/- Chapter 06: finding a name in a list of the course. -/
namespace Go.Proofs.YtaopegkpjhkooaaGreatDoor.Dx
open Go Go.RowKit
set_option maxRecDepth 100000
set_option maxHeartbeats 16000000
def fxI {α:Type}(p:α->Bool)(xs:List α):Int:=match xs.findIdx? p with|some i=>(i:Int)|none=> -1
theorem a7l {α:Type}{p:α->Bool}{xs:List α}{i:Nat}(h:i<xs.length)(hp:p xs[i]=true)(hn:∀x∈xs.take i,p x=false):fxI p xs=(i:Int):=by
 have:xs.findIdx? p=some i:=by
  rw[List.findIdx?_eq_some_iff_getElem]
  refine⟨h,hp,λj hj=>?_⟩
  rw[hn (xs[j]'(by omega)) (List.mem_iff_getElem.2 ⟨j,by rw[List.length_take];omega,by rw[List.getElem_take]⟩)]
  decide
 unfold fxI
 rw[this]
theorem a7m {α:Type}{p:α->Bool}{xs:List α}(hn:∀x∈xs,p x=false):fxI p xs= -1:=by
 have:xs.findIdx? p=none:=by rw[List.findIdx?_eq_none_iff];exact hn
 unfold fxI
 rw[this]
theorem a7e {α:Type}(f:α->List UInt8)(xs:List α)(ts:List Tk)(h:G3 ts=true):y7 (xs.map f) ts=if fxI (λx=>decide (f x=(hdT ts).text)) xs<0 then B5 70 ts else .ok (fxI (λx=>decide (f x=(hdT ts).text)) xs) ts.tail:=by
 unfold y7 fxI
 rw[if_pos h,List.findIdx?_map]
 simp only[Function.comp_def]
 cases xs.findIdx? (λx=>decide (f x=(hdT ts).text)) with
 |none=>rw[if_pos (by decide)]
 |some i=>rw[if_neg (by simp)]
theorem a7f {l:List (List UInt8)}{ts:List Tk}(h:G3 ts=false):y7 l ts=B5 60 ts:=by
 unfold y7
 rw[if_neg (by rw[h];decide)]
abbrev fO (F T:Nat)(ts:List Tk)(u:Nat->Value):List (Nat×Blk):=(5002, .box [.d (.fn F [] [])] T)::(5001, .box [.loc 5000 0] 75)::psO ts u
theorem a8r {α:Type}{p:α->Bool}{xs:List α}{i:Nat}(h:i<xs.length)(hn:∀x∈xs.take i,p x=false)(hp:p xs[i]=false):∀x∈xs.take (i+1),p x=false:=by
 intro x hx
 rw[List.take_succ_eq_append_getElem h] at hx
 rcases List.mem_append.1 hx with h|h
 . exact hn x h
 . rw[List.mem_singleton.1 h];exact hp
theorem b9q (x:Mat):Meets Tryz.prog 147 [x.d] λd=>d= .str x.name:=by
 refine enter tok {} Tryz.func147 rfl (by kernel_rfl) Tryz.ntmps147 (by simp) λB0 W0 V0 lent g0=>?_
 refine Kw ?_
 exact⟨rfl⟩
abbrev a1a:Cfg:={nm:=[(3,60)],rs:=[9]}
theorem c1a (x:Mat)(t:Tk)(r:List Tk)(u:Nat->Value):MeetsR Tryz.prog 170 [.d x.d, .loc 5002 0, .loc 5001 0] (fO 147 214 (t::r) u) λo O'=>o= .ret (.d (bD (decide (x.name=t.text))))/\O'=fO 147 214 (t::r) u:=by
 have hn:=b9q x
 refine k8 tok a1a Tryz.func170 rfl (by kernel_rfl) Tryz.ntmps170 (by simp) λB0 W0 V0 lent g0=>?_
 refine Kv a1a ?_
 refine j9 tok (cf:=a1a) (by kernel_rfl) [.p 0, .p 1, .p 3, .s 2 [0,1], .s 4 [3], .p 5, .p 6, .p 7] (by kernel_rfl) ?_
 refine Kv a1a ?_
 repeat'((first|(intro hlq;try simp only[SL] at hlq)|refine Meets.k (hn) ?_|refine K9 ?_|((refine Kh (λhb=>?_) λhb=>?_)<;>try simp only[BL] at hb)|refine K8 ?_)<;>refine Kv a1a ?_)
 refine⟨psO (t::r) u,_,⟨?_,?_⟩,(I9 t r u).mono ?_⟩
 . exact Kr
 . exact Kr
 rintro _ O' ⟨rfl,rfl⟩
 refine Kv a1a ?_
 repeat'((first|(intro hlq;try simp only[SL] at hlq)|refine K9 ?_|((refine Kh (λhb=>?_) λhb=>?_)<;>try simp only[BL] at hb)|refine K8 ?_)<;>refine Kv a1a ?_)
 refine⟨fO 147 214 (t::r) u, .d (bD (decide (x.name=t.text))),?_,⟨rfl,rfl⟩⟩
 repeat'(first|exact True.intro|exact rfl|refine And.intro ?_ ?_)
theorem b8e (xs:List Mat)(t:Tk)(r:List Tk)(u:Nat->Value):MeetsR Tryz.prog 169 [.d (.sl (xs.map Mat.cells)), .fn 170 [] [.loc 5002 0, .loc 5001 0]] (fO 147 214 (t::r) u) λo O'=>o= .ret (.d (iD (fxI (λx=>decide (x.name=t.text)) xs)))/\O'=fO 147 214 (t::r) u:=by
 refine k8 tok {rs:=[16]} Tryz.func169 rfl (by kernel_rfl) Tryz.ntmps169 (by simp) λB0 W0 V0 lent g0=>?_
 refine Kv {rs:=[16]} ?_
 repeat'((first|(intro hlq;try simp only[SL] at hlq)|refine K9 ?_|refine K8 ?_)<;>refine Kv {rs:=[16]} ?_)
 refine j7 tok {rs:=[16]} [] (X:=Nat) (λi=>[(8,iB i)]) (λ_=>fO 147 214 (t::r) u) [] (λi=>i<=xs.length/\∀x∈xs.take i,decide (x.name=t.text)=false) (λi=>xs.length-i) 0 ?_
 refine Kv {rs:=[16]} ?_
 refine And.intro ?_ ⟨⟨by omega,by simp⟩,λi hΦ=>?_⟩
 . exact Kr
 obtain⟨hi,hp⟩:=hΦ
 refine Kv {rs:=[16]} ?_
 refine⟨λh1=>?_,λh1=>?_⟩<;>(try simp only[BL] at h1)<;>refine Kv {rs:=[16]} ?_
 . have h1':i<xs.length:=by omega
   repeat'((first|(intro hlq;try simp only[SL] at hlq)|refine K9 ?_|refine Ka ?_|refine Kb ?_|refine Kc (hd:=rfl) (e:=?_)|refine Kc (hd:=Mat.cells_eq _) (e:=?_)|refine Kd (e:=?_)|refine Kl rfl ?_|fail)<;>refine Kv {rs:=[16]} ?_)
   refine⟨fO 147 214 (t::r) u,_,⟨?_,?_⟩,(c1a xs[i] t r u).mono ?_⟩
   . exact Kr
   . exact Kr
   rintro _ O' ⟨rfl,rfl⟩
   refine Kv {rs:=[16]} ?_
   refine⟨λh2=>?_,λh2=>?_⟩<;>(try simp only[BL] at h2)<;>refine Kv {rs:=[16]} ?_
   . rw[a7l (p:=λx:Mat=>decide (x.name=t.text)) h1' (decide_eq_true h2) hp]
     refine⟨fO 147 214 (t::r) u, .d (iD (i:Int)),?_,⟨rfl,rfl⟩⟩
     repeat'(first|exact True.intro|exact rfl|refine And.intro ?_ ?_)
   . repeat'((first|(intro hlq;try simp only[SL] at hlq)|refine K9 ?_|refine K8 ?_)<;>refine Kv {rs:=[16]} ?_)
     refine⟨⟨i+1,?_,⟨by omega,a8r (p:=λx:Mat=>decide (x.name=t.text)) h1' hp (decide_eq_false h2)⟩,by omega⟩⟩
     repeat'(first|exact True.intro|exact rfl|refine And.intro ?_ ?_)
 . rw[List.take_of_length_le (by omega)] at hp
   rw[a7m (p:=λx:Mat=>decide (x.name=t.text)) hp]
   refine⟨fO 147 214 (t::r) u, .d (iD (-1)),?_,⟨rfl,rfl⟩⟩
   repeat'(first|exact True.intro|exact rfl|refine And.intro ?_ ?_)
abbrev M0:Cfg:={nm:=[(3,5001),(5,5002)],rs:=[9,12,15,19,21]}
theorem b7p (xs:List Mat)(ts:List Tk)(u:Nat->Value)(hq:QT ts):MeetsR Tryz.prog 146 [.loc 5000 0, .d (.sl (xs.map Mat.cells)), .d (.fn 147 [] [])] (psO ts u) λo O'=>RdO iD (y7 (xs.map (·.name)) ts) u o O':=by
 obtain⟨res,hres⟩:∃res,res=y7 (xs.map (·.name)) ts:=⟨_,rfl⟩
 rw[<-hres]
 have hi:=a3F ts u hq
 cases h:G3 ts with
 | false=>
   rw[h] at hi
   rw[a7f h] at hres
   refine k8 tok M0 Tryz.func146 rfl (by kernel_rfl) Tryz.ntmps146 (by simp) λB0 W0 V0 lent g0=>?_
   refine Kv M0 ?_
   refine⟨psO ts u,_,⟨?_,?_⟩,(hi).mono ?_⟩
   . exact Kr
   . exact Kr
   rintro _ O2 ⟨rfl,rfl⟩
   refine Kv M0 ?_
   refine⟨λ_=>?_,λh=>absurd h (by decide)⟩
   refine Kv M0 ?_
   refine⟨psO ts u,_,⟨?_,?_⟩,(F5 ts u 60 hq.1).mono ?_⟩
   . exact Kr
   . exact Kr
   rintro _ O2 ⟨rfl,rfl⟩
   refine Kv M0 ?_
   refine⟨psO ts u,⟨?_,?_⟩,?_⟩
   . exact Kr
   . exact Kr
   rw[hres]
   exact⟨_,rfl,rfl⟩
 | true=>
   rw[h] at hi
   rw[a7e (λx:Mat=>x.name) xs ts h] at hres
   have hpa:=S7 ts u hq.1
   have hsp:=F5 ts u 70 hq.1
   obtain⟨t,r,rfl⟩:=hq.1.cons
   have hix:=b8e xs t r u
   obtain⟨n,hn⟩:∃n,n=fxI (λx:Mat=>decide (x.name=t.text)) xs:=⟨_,rfl⟩
   rw[show fxI (λx:Mat=>decide (x.name=(hdT (t::r)).text)) xs=n from hn.symm] at hres
   rw[<-hn] at hix
   refine k8 tok M0 Tryz.func146 rfl (by kernel_rfl) Tryz.ntmps146 (by simp) λB0 W0 V0 lent g0=>?_
   refine Kv M0 ?_
   refine⟨psO (t::r) u,_,⟨?_,?_⟩,(hi).mono ?_⟩
   . exact Kr
   . exact Kr
   rintro _ O2 ⟨rfl,rfl⟩
   refine Kv M0 ?_
   refine⟨λh=>absurd h (by decide),λ_=>?_⟩
   refine Kv M0 ?_
   refine⟨fO 147 214 (t::r) u,_,⟨?_,?_⟩,hix.mono ?_⟩
   . exact Kr
   . exact Kr
   rintro _ O' ⟨rfl,rfl⟩
   refine Kv M0 ?_
   refine⟨λh2=>?_,λh2=>?_⟩<;>(try simp only[BL] at h2)<;>refine Kv M0 ?_
   . rw[if_pos h2] at hres
     refine⟨psO (t::r) u,_,⟨?_,?_⟩,(hsp).mono ?_⟩
     . exact Kr
     . exact Kr
     rintro _ O2 ⟨rfl,rfl⟩
     refine Kv M0 ?_
     refine⟨psO (t::r) u,⟨?_,?_⟩,?_⟩
     . exact Kr
     . exact Kr
     rw[hres]
     exact⟨_,rfl,rfl⟩
   . rw [if_neg h2] at hres
     refine⟨psO (t::r) u,_,⟨?_,?_⟩,(hpa).mono ?_⟩
     . exact Kr
     . exact Kr
     rintro _ O2 ⟨rfl,rfl⟩
     refine Kv M0 ?_
     refine⟨psO r u, .d (iD n),?_,?_⟩
     rotate_left 1
     . rw[hres]
       exact⟨rfl,rfl⟩
     repeat'(first|exact True.intro|exact rfl|refine And.intro ?_ ?_)
theorem b9o (x:Distance):Meets Tryz.prog 122 [x.d] λd=>d= .str x.name:=by
 refine enter tok {} Tryz.func122 rfl (by kernel_rfl) Tryz.ntmps122 (by simp) λB0 W0 V0 lent g0=>?_
 refine Kw ?_
 exact⟨rfl⟩
abbrev a1b:Cfg:={nm:=[(3,60)],rs:=[9]}
theorem c0Y (x:Distance)(t:Tk)(r:List Tk)(u:Nat->Value):MeetsR Tryz.prog 149 [.d x.d, .loc 5002 0, .loc 5001 0] (fO 122 190 (t::r) u) λo O'=>o= .ret (.d (bD (decide (x.name=t.text))))/\O'=fO 122 190 (t::r) u:=by
 have hn:=b9o x
 refine k8 tok a1b Tryz.func149 rfl (by kernel_rfl) Tryz.ntmps149 (by simp) λB0 W0 V0 lent g0=>?_
 refine Kv a1b ?_
 refine j9 tok (cf:=a1b) (by kernel_rfl) [.p 0, .p 1, .p 3, .s 2 [0,1], .s 4 [3], .p 5, .p 6, .p 7] (by kernel_rfl) ?_
 refine Kv a1b ?_
 repeat'((first|(intro hlq;try simp only[SL] at hlq)|refine Meets.k (hn) ?_|refine K9 ?_|((refine Kh (λhb=>?_) λhb=>?_)<;>try simp only[BL] at hb)|refine K8 ?_)<;>refine Kv a1b ?_)
 refine⟨psO (t::r) u,_,⟨?_,?_⟩,(I9 t r u).mono ?_⟩
 . exact Kr
 . exact Kr
 rintro _ O' ⟨rfl,rfl⟩
 refine Kv a1b ?_
 repeat'((first|(intro hlq;try simp only[SL] at hlq)|refine K9 ?_|((refine Kh (λhb=>?_) λhb=>?_)<;>try simp only[BL] at hb)|refine K8 ?_)<;>refine Kv a1b ?_)
 refine⟨fO 122 190 (t::r) u, .d (bD (decide (x.name=t.text))),?_,⟨rfl,rfl⟩⟩
 repeat'(first|exact True.intro|exact rfl|refine And.intro ?_ ?_)
theorem b8c (xs:List Distance)(t:Tk)(r:List Tk)(u:Nat->Value):MeetsR Tryz.prog 148 [.d (.sl (xs.map Distance.cells)), .fn 149 [] [.loc 5002 0, .loc 5001 0]] (fO 122 190 (t::r) u) λo O'=>o= .ret (.d (iD (fxI (λx=>decide (x.name=t.text)) xs)))/\O'=fO 122 190 (t::r) u:=by
 refine k8 tok {rs:=[16]} Tryz.func148 rfl (by kernel_rfl) Tryz.ntmps148 (by simp) λB0 W0 V0 lent g0=>?_
 refine Kv {rs:=[16]} ?_
 repeat'((first|(intro hlq;try simp only[SL] at hlq)|refine K9 ?_|refine K8 ?_)<;>refine Kv {rs:=[16]} ?_)
 refine j7 tok {rs:=[16]} [] (X:=Nat) (λi=>[(8,iB i)]) (λ_=>fO 122 190 (t::r) u) [] (λi=>i<=xs.length/\∀x∈xs.take i,decide (x.name=t.text)=false) (λi=>xs.length-i) 0 ?_
 refine Kv {rs:=[16]} ?_
 refine And.intro ?_ ⟨⟨by omega,by simp⟩,λi hΦ=>?_⟩
 . exact Kr
 obtain⟨hi,hp⟩:=hΦ
 refine Kv {rs:=[16]} ?_
 refine⟨λh1=>?_,λh1=>?_⟩<;>(try simp only[BL] at h1)<;>refine Kv {rs:=[16]} ?_
 . have h1':i<xs.length:=by omega
   repeat'((first|(intro hlq;try simp only[SL] at hlq)|refine K9 ?_|refine Ka ?_|refine Kb ?_|refine Kc (hd:=rfl) (e:=?_)|refine Kc (hd:=Distance.cells_eq _) (e:=?_)|refine Kd (e:=?_)|refine Kl rfl ?_|fail)<;>refine Kv {rs:=[16]} ?_)
   refine⟨fO 122 190 (t::r) u,_,⟨?_,?_⟩,(c0Y xs[i] t r u).mono ?_⟩
   . exact Kr
   . exact Kr
   rintro _ O' ⟨rfl,rfl⟩
   refine Kv {rs:=[16]} ?_
   refine⟨λh2=>?_,λh2=>?_⟩<;>(try simp only[BL] at h2)<;>refine Kv {rs:=[16]} ?_
   . rw[a7l (p:=λx:Distance=>decide (x.name=t.text)) h1' (decide_eq_true h2) hp]
     refine⟨fO 122 190 (t::r) u, .d (iD (i:Int)),?_,⟨rfl,rfl⟩⟩
     repeat'(first|exact True.intro|exact rfl|refine And.intro ?_ ?_)
   . repeat'((first|(intro hlq;try simp only[SL] at hlq)|refine K9 ?_|refine K8 ?_)<;>refine Kv {rs:=[16]} ?_)
     refine⟨⟨i+1,?_,⟨by omega,a8r (p:=λx:Distance=>decide (x.name=t.text)) h1' hp (decide_eq_false h2)⟩,by omega⟩⟩
     repeat'(first|exact True.intro|exact rfl|refine And.intro ?_ ?_)
 . rw[List.take_of_length_le (by omega)] at hp
   rw[a7m (p:=λx:Distance=>decide (x.name=t.text)) hp]
   refine⟨fO 122 190 (t::r) u, .d (iD (-1)),?_,⟨rfl,rfl⟩⟩
   repeat'(first|exact True.intro|exact rfl|refine And.intro ?_ ?_)
abbrev M1:Cfg:={nm:=[(3,5001),(5,5002)],rs:=[9,12,15,19,21]}
theorem b7n (xs:List Distance)(ts:List Tk)(u:Nat->Value)(hq:QT ts):MeetsR Tryz.prog 121 [.loc 5000 0, .d (.sl (xs.map Distance.cells)), .d (.fn 122 [] [])] (psO ts u) λo O'=>RdO iD (y7 (xs.map (·.name)) ts) u o O':=by
 obtain⟨res,hres⟩:∃res,res=y7 (xs.map (·.name)) ts:=⟨_,rfl⟩
 rw[<-hres]
 have hi:=a3F ts u hq
 cases h:G3 ts with
 | false=>
   rw[h] at hi
   rw[a7f h] at hres
   refine k8 tok M1 Tryz.func121 rfl (by kernel_rfl) Tryz.ntmps121 (by simp) λB0 W0 V0 lent g0=>?_
   refine Kv M1 ?_
   refine⟨psO ts u,_,⟨?_,?_⟩,(hi).mono ?_⟩
   . exact Kr
   . exact Kr
   rintro _ O2 ⟨rfl,rfl⟩
   refine Kv M1 ?_
   refine⟨λ_=>?_,λh=>absurd h (by decide)⟩
   refine Kv M1 ?_
   refine⟨psO ts u,_,⟨?_,?_⟩,(F5 ts u 60 hq.1).mono ?_⟩
   . exact Kr
   . exact Kr
   rintro _ O2 ⟨rfl,rfl⟩
   refine Kv M1 ?_
   refine⟨psO ts u,⟨?_,?_⟩,?_⟩
   . exact Kr
   . exact Kr
   rw[hres]
   exact⟨_,rfl,rfl⟩
 | true=>
   rw[h] at hi
   rw[a7e (λx:Distance=>x.name) xs ts h] at hres
   have hpa:=S7 ts u hq.1
   have hsp:=F5 ts u 70 hq.1
   obtain⟨t,r,rfl⟩:=hq.1.cons
   have hix:=b8c xs t r u
   obtain⟨n,hn⟩:∃n,n=fxI (λx:Distance=>decide (x.name=t.text)) xs:=⟨_,rfl⟩
   rw[show fxI (λx:Distance=>decide (x.name=(hdT (t::r)).text)) xs=n from hn.symm] at hres
   rw[<-hn] at hix
   refine k8 tok M1 Tryz.func121 rfl (by kernel_rfl) Tryz.ntmps121 (by simp) λB0 W0 V0 lent g0=>?_
   refine Kv M1 ?_
   refine⟨psO (t::r) u,_,⟨?_,?_⟩,(hi).mono ?_⟩
   . exact Kr
   . exact Kr
   rintro _ O2 ⟨rfl,rfl⟩
   refine Kv M1 ?_
   refine⟨λh=>absurd h (by decide),λ_=>?_⟩
   refine Kv M1 ?_
   refine⟨fO 122 190 (t::r) u,_,⟨?_,?_⟩,hix.mono ?_⟩
   . exact Kr
   . exact Kr
   rintro _ O' ⟨rfl,rfl⟩
   refine Kv M1 ?_
   refine⟨λh2=>?_,λh2=>?_⟩<;>(try simp only[BL] at h2)<;>refine Kv M1 ?_
   . rw[if_pos h2] at hres
     refine⟨psO (t::r) u,_,⟨?_,?_⟩,(hsp).mono ?_⟩
     . exact Kr
     . exact Kr
     rintro _ O2 ⟨rfl,rfl⟩
     refine Kv M1 ?_
     refine⟨psO (t::r) u,⟨?_,?_⟩,?_⟩
     . exact Kr
     . exact Kr
     rw[hres]
     exact⟨_,rfl,rfl⟩
   . rw [if_neg h2] at hres
     refine⟨psO (t::r) u,_,⟨?_,?_⟩,(hpa).mono ?_⟩
     . exact Kr
     . exact Kr
     rintro _ O2 ⟨rfl,rfl⟩
     refine Kv M1 ?_
     refine⟨psO r u, .d (iD n),?_,?_⟩
     rotate_left 1
     . rw[hres]
       exact⟨rfl,rfl⟩
     repeat'(first|exact True.intro|exact rfl|refine And.intro ?_ ?_)
theorem b9p (x:Category):Meets Tryz.prog 124 [x.d] λd=>d= .str x.name:=by
 refine enter tok {} Tryz.func124 rfl (by kernel_rfl) Tryz.ntmps124 (by simp) λB0 W0 V0 lent g0=>?_
 refine Kw ?_
 exact⟨rfl⟩
abbrev a1c:Cfg:={nm:=[(3,60)],rs:=[9]}
theorem c0Z (x:Category)(t:Tk)(r:List Tk)(u:Nat->Value):MeetsR Tryz.prog 151 [.d x.d, .loc 5002 0, .loc 5001 0] (fO 124 192 (t::r) u) λo O'=>o= .ret (.d (bD (decide (x.name=t.text))))/\O'=fO 124 192 (t::r) u:=by
 have hn:=b9p x
 refine k8 tok a1c Tryz.func151 rfl (by kernel_rfl) Tryz.ntmps151 (by simp) λB0 W0 V0 lent g0=>?_
 refine Kv a1c ?_
 refine j9 tok (cf:=a1c) (by kernel_rfl) [.p 0, .p 1, .p 3, .s 2 [0,1], .s 4 [3], .p 5, .p 6, .p 7] (by kernel_rfl) ?_
 refine Kv a1c ?_
 repeat'((first|(intro hlq;try simp only[SL] at hlq)|refine Meets.k (hn) ?_|refine K9 ?_|((refine Kh (λhb=>?_) λhb=>?_)<;>try simp only[BL] at hb)|refine K8 ?_)<;>refine Kv a1c ?_)
 refine⟨psO (t::r) u,_,⟨?_,?_⟩,(I9 t r u).mono ?_⟩
 . exact Kr
 . exact Kr
 rintro _ O' ⟨rfl,rfl⟩
 refine Kv a1c ?_
 repeat'((first|(intro hlq;try simp only[SL] at hlq)|refine K9 ?_|((refine Kh (λhb=>?_) λhb=>?_)<;>try simp only[BL] at hb)|refine K8 ?_)<;>refine Kv a1c ?_)
 refine⟨fO 124 192 (t::r) u, .d (bD (decide (x.name=t.text))),?_,⟨rfl,rfl⟩⟩
 repeat'(first|exact True.intro|exact rfl|refine And.intro ?_ ?_)
theorem b8d (xs:List Category)(t:Tk)(r:List Tk)(u:Nat->Value):MeetsR Tryz.prog 150 [.d (.sl (xs.map Category.cells)), .fn 151 [] [.loc 5002 0, .loc 5001 0]] (fO 124 192 (t::r) u) λo O'=>o= .ret (.d (iD (fxI (λx=>decide (x.name=t.text)) xs)))/\O'=fO 124 192 (t::r) u:=by
 refine k8 tok {rs:=[16]} Tryz.func150 rfl (by kernel_rfl) Tryz.ntmps150 (by simp) λB0 W0 V0 lent g0=>?_
 refine Kv {rs:=[16]} ?_
 repeat'((first|(intro hlq;try simp only[SL] at hlq)|refine K9 ?_|refine K8 ?_)<;>refine Kv {rs:=[16]} ?_)
 refine j7 tok {rs:=[16]} [] (X:=Nat) (λi=>[(8,iB i)]) (λ_=>fO 124 192 (t::r) u) [] (λi=>i<=xs.length/\∀x∈xs.take i,decide (x.name=t.text)=false) (λi=>xs.length-i) 0 ?_
 refine Kv {rs:=[16]} ?_
 refine And.intro ?_ ⟨⟨by omega,by simp⟩,λi hΦ=>?_⟩
 . exact Kr
 obtain⟨hi,hp⟩:=hΦ
 refine Kv {rs:=[16]} ?_
 refine⟨λh1=>?_,λh1=>?_⟩<;>(try simp only[BL] at h1)<;>refine Kv {rs:=[16]} ?_
 . have h1':i<xs.length:=by omega
   repeat'((first|(intro hlq;try simp only[SL] at hlq)|refine K9 ?_|refine Ka ?_|refine Kb ?_|refine Kc (hd:=rfl) (e:=?_)|refine Kc (hd:=Category.cells_eq _) (e:=?_)|refine Kd (e:=?_)|refine Kl rfl ?_|fail)<;>refine Kv {rs:=[16]} ?_)
   refine⟨fO 124 192 (t::r) u,_,⟨?_,?_⟩,(c0Z xs[i] t r u).mono ?_⟩
   . exact Kr
   . exact Kr
   rintro _ O' ⟨rfl,rfl⟩
   refine Kv {rs:=[16]} ?_
   refine⟨λh2=>?_,λh2=>?_⟩<;>(try simp only[BL] at h2)<;>refine Kv {rs:=[16]} ?_
   . rw[a7l (p:=λx:Category=>decide (x.name=t.text)) h1' (decide_eq_true h2) hp]
     refine⟨fO 124 192 (t::r) u, .d (iD (i:Int)),?_,⟨rfl,rfl⟩⟩
     repeat'(first|exact True.intro|exact rfl|refine And.intro ?_ ?_)
   . repeat'((first|(intro hlq;try simp only[SL] at hlq)|refine K9 ?_|refine K8 ?_)<;>refine Kv {rs:=[16]} ?_)
     refine⟨⟨i+1,?_,⟨by omega,a8r (p:=λx:Category=>decide (x.name=t.text)) h1' hp (decide_eq_false h2)⟩,by omega⟩⟩
     repeat'(first|exact True.intro|exact rfl|refine And.intro ?_ ?_)
 . rw[List.take_of_length_le (by omega)] at hp
   rw[a7m (p:=λx:Category=>decide (x.name=t.text)) hp]
   refine⟨fO 124 192 (t::r) u, .d (iD (-1)),?_,⟨rfl,rfl⟩⟩
   repeat'(first|exact True.intro|exact rfl|refine And.intro ?_ ?_)
abbrev M2:Cfg:={nm:=[(3,5001),(5,5002)],rs:=[9,12,15,19,21]}
theorem b7o (xs:List Category)(ts:List Tk)(u:Nat->Value)(hq:QT ts):MeetsR Tryz.prog 123 [.loc 5000 0, .d (.sl (xs.map Category.cells)), .d (.fn 124 [] [])] (psO ts u) λo O'=>RdO iD (y7 (xs.map (·.name)) ts) u o O':=by
 obtain⟨res,hres⟩:∃res,res=y7 (xs.map (·.name)) ts:=⟨_,rfl⟩
 rw[<-hres]
 have hi:=a3F ts u hq
 cases h:G3 ts with
 | false=>
   rw[h] at hi
   rw[a7f h] at hres
   refine k8 tok M2 Tryz.func123 rfl (by kernel_rfl) Tryz.ntmps123 (by simp) λB0 W0 V0 lent g0=>?_
   refine Kv M2 ?_
   refine⟨psO ts u,_,⟨?_,?_⟩,(hi).mono ?_⟩
   . exact Kr
   . exact Kr
   rintro _ O2 ⟨rfl,rfl⟩
   refine Kv M2 ?_
   refine⟨λ_=>?_,λh=>absurd h (by decide)⟩
   refine Kv M2 ?_
   refine⟨psO ts u,_,⟨?_,?_⟩,(F5 ts u 60 hq.1).mono ?_⟩
   . exact Kr
   . exact Kr
   rintro _ O2 ⟨rfl,rfl⟩
   refine Kv M2 ?_
   refine⟨psO ts u,⟨?_,?_⟩,?_⟩
   . exact Kr
   . exact Kr
   rw[hres]
   exact⟨_,rfl,rfl⟩
 | true=>
   rw[h] at hi
   rw[a7e (λx:Category=>x.name) xs ts h] at hres
   have hpa:=S7 ts u hq.1
   have hsp:=F5 ts u 70 hq.1
   obtain⟨t,r,rfl⟩:=hq.1.cons
   have hix:=b8d xs t r u
   obtain⟨n,hn⟩:∃n,n=fxI (λx:Category=>decide (x.name=t.text)) xs:=⟨_,rfl⟩
   rw[show fxI (λx:Category=>decide (x.name=(hdT (t::r)).text)) xs=n from hn.symm] at hres
   rw[<-hn] at hix
   refine k8 tok M2 Tryz.func123 rfl (by kernel_rfl) Tryz.ntmps123 (by simp) λB0 W0 V0 lent g0=>?_
   refine Kv M2 ?_
   refine⟨psO (t::r) u,_,⟨?_,?_⟩,(hi).mono ?_⟩
   . exact Kr
   . exact Kr
   rintro _ O2 ⟨rfl,rfl⟩
   refine Kv M2 ?_
   refine⟨λh=>absurd h (by decide),λ_=>?_⟩
   refine Kv M2 ?_
   refine⟨fO 124 192 (t::r) u,_,⟨?_,?_⟩,hix.mono ?_⟩
   . exact Kr
   . exact Kr
   rintro _ O' ⟨rfl,rfl⟩
   refine Kv M2 ?_
   refine⟨λh2=>?_,λh2=>?_⟩<;>(try simp only[BL] at h2)<;>refine Kv M2 ?_
   . rw[if_pos h2] at hres
     refine⟨psO (t::r) u,_,⟨?_,?_⟩,(hsp).mono ?_⟩
     . exact Kr
     . exact Kr
     rintro _ O2 ⟨rfl,rfl⟩
     refine Kv M2 ?_
     refine⟨psO (t::r) u,⟨?_,?_⟩,?_⟩
     . exact Kr
     . exact Kr
     rw[hres]
     exact⟨_,rfl,rfl⟩
   . rw [if_neg h2] at hres
     refine⟨psO (t::r) u,_,⟨?_,?_⟩,(hpa).mono ?_⟩
     . exact Kr
     . exact Kr
     rintro _ O2 ⟨rfl,rfl⟩
     refine Kv M2 ?_
     refine⟨psO r u, .d (iD n),?_,?_⟩
     rotate_left 1
     . rw[hres]
       exact⟨rfl,rfl⟩
     repeat'(first|exact True.intro|exact rfl|refine And.intro ?_ ?_)
end Go.Proofs.YtaopegkpjhkooaaGreatDoor.Dx
/- Chapter 06: the parser with a course; its mats; sections of one element. -/
namespace Go.Proofs.YtaopegkpjhkooaaGreatDoor.Dx
open Go Go.RowKit
set_option maxRecDepth 100000
set_option maxHeartbeats 16000000
abbrev csC (c:Course):List Base:=[.d (.str c.name), .own 7001, .own 7002, .own 7003, .own 7004, .own 7005, .own 7006, .own 7007, .d (stD c.ties),iB c.faults.misses,iB c.faults.strays,iB c.faults.window,iB c.faults.residual,iB c.faults.drift,iB c.fee,iB c.deadline]
abbrev xsC (c:Course):List (Nat×Blk):=[(7001, .sl ⟨84,2,c.mats.map Mat.cells,true⟩),(7002, .sl ⟨86,4,c.legs.map Leg.cells,true⟩),(7003, .sl ⟨91,5,c.distances.map Distance.cells,true⟩),(7004, .sl ⟨96,2,c.waves.map Wave.cells,true⟩),(7005, .sl ⟨98,4,c.offences.map Offence.cells,true⟩),(7006, .sl ⟨100,3,c.categories.map Category.cells,true⟩),(7007, .sl ⟨102,4,c.prizes.map Prize.cells,true⟩)]
abbrev psC (ts:List Tk)(c:Course):List (Nat×Blk):=pcO ts (csC c) (xsC c)
def RdV {α:Type}(f:α->D)(g:α->Course)(r:Rs α)(o:Out)(O':List (Nat×Blk)):Prop:=match r with
 | .ok a ts=>o= .ret (.d (f a))/\O'=psC ts (g a)
 | .er a e=>∃ts' c',o= .pan (.iface 130 (.agg [iD (a:Int),iD e]))/\O'=psC ts' c'
 | .out=>False
theorem d8 {α:Type}{f:α->D}{g:α->Course}{r:Rs α}{o:Out}{O':List (Nat×Blk)}(h:RdV f g r o O'):
 (∃a e ts' c',r= .er a e/\o= .pan (.iface 130 (.agg [iD (a:Int),iD e]))/\O'=psC ts' c')\/∃a ts',r= .ok a ts'/\o= .ret (.d (f a))/\O'=psC ts' (g a):=by
 cases r with
 |out=>exact h.elim
 |er a e=>obtain⟨ts',c',h1,h2⟩:=h;exact .inl ⟨a,e,ts',c',rfl,h1,h2⟩
 |ok a ts=>exact .inr ⟨a,ts,rfl,h.1,h.2⟩
section
variable {F:Nat} {args:List Base} {ts ts':List Tk} {c:Course} {d:D}
theorem kC (h:∀u,MeetsR Tryz.prog F args (psO ts u) λo O'=>o= .ret (.d d)/\O'=psO ts' u):MeetsR Tryz.prog F args (psC ts c) λo O'=>o= .ret (.d d)/\O'=psC ts' c:=a2s rfl (.inl ⟨_,rfl⟩) h
theorem kP (h:∀u,MeetsR Tryz.prog F args (psO ts u) λo O'=>o= .pan d/\O'=psO ts' u):MeetsR Tryz.prog F args (psC ts c) λo O'=>o= .pan d/\O'=psC ts' c:=a2s rfl (.inr ⟨_,rfl⟩) h
theorem kR {α:Type}{f:α->D}{r:Rs α}(h:∀u,MeetsR Tryz.prog F args (psO ts u) λo O'=>RdO f r u o O'):MeetsR Tryz.prog F args (psC ts c) λo O'=>RdV f (λ_=>c) r o O':=by
 refine(a1p rfl h).mono λo O' ho=>?_
 cases r with
 |out=>exact ho.elim
 |er a e=>obtain⟨ts',h1,h2⟩:=ho;exact⟨ts',c,h1,h2⟩
 |ok a ts=>exact ho
end
theorem Rs.bind_assoc {α β γ:Type}{r:Rs α}{f:α->List Tk->Rs β}{g:β->List Tk->Rs γ}:(r.bind f).bind g=r.bind λa ts=>(f a ts).bind g:=by
 cases r<;>rfl
theorem a2A (ts:List Tk)(c:Course)(hq:QT ts):MeetsR Tryz.prog 117 [.loc 5000 0] (psC ts c) λo O'=>RdV iD (λ_=>c) (y7 c.ms ts) o O':=by
 have hf:=λu=>b7p c.mats ts u hq
 obtain⟨res,hres⟩:∃res,res=y7 (c.mats.map (·.name)) ts:=⟨_,rfl⟩
 rw[show y7 c.ms ts=res from hres.symm]
 refine k8 tok {rs:=[9]} Tryz.func117 rfl (by kernel_rfl) Tryz.ntmps117 (by simp) λB0 W0 V0 lent g0=>?_
 refine Kv {rs:=[9]} ?_
 refine⟨psC (ts) c,_,⟨?_,?_⟩,(kR (c:=c) λu=>hf u).mono ?_⟩
 . exact Kr
 . exact Kr
 intro o O2 ho
 have hh:=d8 ho
 clear ho
 obtain hh|hh:=hh
 . obtain⟨a,e,ts9,c9,hU,rfl,rfl⟩:=hh
   (try dsimp only at hU)
   rw[hU] at hres
   (try rw[Rs.bind_er] at hres)
   refine Kv {rs:=[9]} ?_
   refine⟨psC ts9 c9,⟨?_,?_⟩,?_⟩
   . exact Kr
   . exact Kr
   rw[hres]
   exact⟨_,_,rfl,rfl⟩
 obtain⟨n,ts2,hU,rfl,rfl⟩:=hh
 (try dsimp only at hU)
 rw[hU] at hres
 (try rw[Rs.bind_ok] at hres)
 refine Kv {rs:=[9]} ?_
 refine⟨psC (ts2) c, .d (iD n),?_,?_⟩
 rotate_left 1
 . rw[hres]
   exact⟨rfl,rfl⟩
 repeat'(first|exact True.intro|exact rfl|refine And.intro ?_ ?_)
abbrev P1:Cfg:={rs:=[4,7,11]}
theorem c4n (hT:C2)(ts:List Tk)(c:Course)(hq:QT ts)(hl:c.waves.length<=1000000000):MeetsR Tryz.prog 75 [.loc 5000 0] (psC ts c) λo O'=>RdV (λ_=> .tup []) id ((a0f ts).bind λx ts=> .ok {c with waves:=c.waves++[x]} ts) o O':=by
 obtain⟨res,hres⟩:∃res,res=(a0f ts).bind λx ts=> .ok {c with waves:=c.waves++[x]} ts:=⟨_,rfl⟩
 rw[<-hres]
 simp only[a0f,Rs.bind_assoc,Rs.bind_ok] at hres
 refine k8 tok P1 Tryz.func75 rfl (by kernel_rfl) Tryz.ntmps75 (by simp) λB0 W0 V0 lent g0=>?_
 refine Kv P1 ?_
 refine⟨psC (ts) c,_,⟨?_,?_⟩,(kR (c:=c) λu=>Z3 ts u hq).mono ?_⟩
 . exact Kr
 . exact Kr
 intro o O2 ho
 have hh:=d8 ho
 clear ho
 obtain hh|hh:=hh
 . obtain⟨a,e,ts9,c9,hU,rfl,rfl⟩:=hh
   (try dsimp only at hU)
   rw[hU] at hres
   (try rw[Rs.bind_er] at hres)
   refine Kv P1 ?_
   refine⟨psC ts9 c9,⟨?_,?_⟩,?_⟩
   . exact Kr
   . exact Kr
   rw[hres]
   exact⟨_,_,rfl,rfl⟩
 obtain⟨w,ts2,hU,rfl,rfl⟩:=hh
 (try dsimp only at hU)
 rw[hU] at hres
 (try rw[Rs.bind_ok] at hres)
 refine Kv P1 ?_
 have hq2:=L2 hq _ _ hU
 refine⟨psC (ts2) c,_,⟨?_,?_⟩,(kR (c:=c) λu=>a1I hT ts2 u hq2).mono ?_⟩
 . exact Kr
 . exact Kr
 intro o O2 ho
 have hh:=d8 ho
 clear ho
 obtain hh|hh:=hh
 . obtain⟨a,e,ts9,c9,hU,rfl,rfl⟩:=hh
   (try dsimp only at hU)
   rw[hU] at hres
   (try rw[Rs.bind_er] at hres)
   refine Kv P1 ?_
   refine⟨psC ts9 c9,⟨?_,?_⟩,?_⟩
   . exact Kr
   . exact Kr
   rw[hres]
   exact⟨_,_,rfl,rfl⟩
 obtain⟨t,ts3,hU,rfl,rfl⟩:=hh
 (try dsimp only at hU)
 rw[hU] at hres
 (try rw[Rs.bind_ok] at hres)
 refine Kv P1 ?_
 have hq3:=I1 hq2 _ _ hU
 refine⟨psC (ts3) c,_,⟨?_,?_⟩,(kR (c:=c) λu=>r9 ts3 u [59] hq3.1).mono ?_⟩
 . exact Kr
 . exact Kr
 intro o O2 ho
 have hh:=d8 ho
 clear ho
 obtain hh|hh:=hh
 . obtain⟨a,e,ts9,c9,hU,rfl,rfl⟩:=hh
   (try dsimp only at hU)
   rw[hU] at hres
   (try rw[Rs.bind_er] at hres)
   refine Kv P1 ?_
   refine⟨psC ts9 c9,⟨?_,?_⟩,?_⟩
   . exact Kr
   . exact Kr
   rw[hres]
   exact⟨_,_,rfl,rfl⟩
 obtain⟨x,ts4,hU,rfl,rfl⟩:=hh
 (try dsimp only at hU)
 rw[hU] at hres
 (try rw[Rs.bind_ok] at hres)
 refine Kv P1 ?_
 refine j9 tok (cf:=P1) (by kernel_rfl) [.p 0, .p 1, .p 2, .p 3, .p 4, .p 5, .p 6, .p 7, .s 8 [5,7,4,6,3,2,1], .p 9, .p 10, .p 11, .s 12 [11,0,10,9]] (by kernel_rfl) ?_
 refine Kv P1 ?_
 refine⟨by simp,?_⟩
 refine Kv P1 ?_
 refine⟨λh1 h2=>?_,?_⟩
 . simp only[List.length_map,List.length_cons,List.length_nil]
   omega
 refine Kv P1 ?_
 refine⟨psC (ts4) {c with waves:=c.waves++[⟨w,t⟩]}, .d (.tup []),?_,?_⟩
 rotate_left 1
 . rw[hres]
   exact⟨rfl,rfl⟩
 repeat'(first|exact True.intro|exact rfl|refine And.intro ?_ ?_|(exact(by simp only[List.map_append,List.map_cons,List.map_nil])))
abbrev D8:Cfg:={rs:=[4,8,10,13,17,19,23]}
theorem b8A (hT:C2)(ts:List Tk)(c:Course)(hq:QT ts)(hl:c.legs.length<=1000000000):MeetsR Tryz.prog 73 [.loc 5000 0] (psC ts c) λo O'=>RdV (λ_=> .tup []) id ((Y9 c.ms ts).bind λx ts=> .ok {c with legs:=c.legs++[x]} ts) o O':=by
 obtain⟨res,hres⟩:∃res,res=(Y9 c.ms ts).bind λx ts=> .ok {c with legs:=c.legs++[x]} ts:=⟨_,rfl⟩
 rw[<-hres]
 simp only[Y9,Rs.bind_assoc,Rs.bind_ok] at hres
 refine k8 tok D8 Tryz.func73 rfl (by kernel_rfl) Tryz.ntmps73 (by simp) λB0 W0 V0 lent g0=>?_
 refine Kv D8 ?_
 refine⟨psC (ts) c,_,⟨?_,?_⟩,(a2A ts c hq).mono ?_⟩
 . exact Kr
 . exact Kr
 intro o O2 ho
 have hh:=d8 ho
 clear ho
 obtain hh|hh:=hh
 . obtain⟨a,e,ts9,c9,hU,rfl,rfl⟩:=hh
   (try dsimp only at hU)
   rw[hU] at hres
   (try rw[Rs.bind_er] at hres)
   refine Kv D8 ?_
   refine⟨psC ts9 c9,⟨?_,?_⟩,?_⟩
   . exact Kr
   . exact Kr
   rw[hres]
   exact⟨_,_,rfl,rfl⟩
 obtain⟨a,ts2,hU,rfl,rfl⟩:=hh
 (try dsimp only at hU)
 rw[hU] at hres
 (try rw[Rs.bind_ok] at hres)
 refine Kv D8 ?_
 have hq2:=I6 hq _ _ hU
 refine⟨psC (ts2) c,_,⟨?_,?_⟩,(kR (c:=c) λu=>r9 ts2 u [116,111] hq2.1).mono ?_⟩
 . exact Kr
 . exact Kr
 intro o O2 ho
 have hh:=d8 ho
 clear ho
 obtain hh|hh:=hh
 . obtain⟨a,e,ts9,c9,hU,rfl,rfl⟩:=hh
   (try dsimp only at hU)
   rw[hU] at hres
   (try rw[Rs.bind_er] at hres)
   refine Kv D8 ?_
   refine⟨psC ts9 c9,⟨?_,?_⟩,?_⟩
   . exact Kr
   . exact Kr
   rw[hres]
   exact⟨_,_,rfl,rfl⟩
 obtain⟨x1,ts3,hU,rfl,rfl⟩:=hh
 (try dsimp only at hU)
 rw[hU] at hres
 (try rw[Rs.bind_ok] at hres)
 refine Kv D8 ?_
 have hq3:=n9 hq2 _ _ hU
 refine⟨psC (ts3) c,_,⟨?_,?_⟩,(a2A ts3 c hq3).mono ?_⟩
 . exact Kr
 . exact Kr
 intro o O2 ho
 have hh:=d8 ho
 clear ho
 obtain hh|hh:=hh
 . obtain⟨a,e,ts9,c9,hU,rfl,rfl⟩:=hh
   (try dsimp only at hU)
   rw[hU] at hres
   (try rw[Rs.bind_er] at hres)
   refine Kv D8 ?_
   refine⟨psC ts9 c9,⟨?_,?_⟩,?_⟩
   . exact Kr
   . exact Kr
   rw[hres]
   exact⟨_,_,rfl,rfl⟩
 obtain⟨b,ts4,hU,rfl,rfl⟩:=hh
 (try dsimp only at hU)
 rw[hU] at hres
 (try rw[Rs.bind_ok] at hres)
 refine Kv D8 ?_
 have hq4:=I6 hq3 _ _ hU
 refine⟨psC (ts4) c,_,⟨?_,?_⟩,(kR (c:=c) λu=>a1I hT ts4 u hq4).mono ?_⟩
 . exact Kr
 . exact Kr
 intro o O2 ho
 have hh:=d8 ho
 clear ho
 obtain hh|hh:=hh
 . obtain⟨a,e,ts9,c9,hU,rfl,rfl⟩:=hh
   (try dsimp only at hU)
   rw[hU] at hres
   (try rw[Rs.bind_er] at hres)
   refine Kv D8 ?_
   refine⟨psC ts9 c9,⟨?_,?_⟩,?_⟩
   . exact Kr
   . exact Kr
   rw[hres]
   exact⟨_,_,rfl,rfl⟩
 obtain⟨lo,ts5,hU,rfl,rfl⟩:=hh
 (try dsimp only at hU)
 rw[hU] at hres
 (try rw[Rs.bind_ok] at hres)
 refine Kv D8 ?_
 have hq5:=I1 hq4 _ _ hU
 refine⟨psC (ts5) c,_,⟨?_,?_⟩,(kR (c:=c) λu=>r9 ts5 u [46,46] hq5.1).mono ?_⟩
 . exact Kr
 . exact Kr
 intro o O2 ho
 have hh:=d8 ho
 clear ho
 obtain hh|hh:=hh
 . obtain⟨a,e,ts9,c9,hU,rfl,rfl⟩:=hh
   (try dsimp only at hU)
   rw[hU] at hres
   (try rw[Rs.bind_er] at hres)
   refine Kv D8 ?_
   refine⟨psC ts9 c9,⟨?_,?_⟩,?_⟩
   . exact Kr
   . exact Kr
   rw[hres]
   exact⟨_,_,rfl,rfl⟩
 obtain⟨x2,ts6,hU,rfl,rfl⟩:=hh
 (try dsimp only at hU)
 rw[hU] at hres
 (try rw[Rs.bind_ok] at hres)
 refine Kv D8 ?_
 have hq6:=n9 hq5 _ _ hU
 refine⟨psC (ts6) c,_,⟨?_,?_⟩,(kR (c:=c) λu=>a1I hT ts6 u hq6).mono ?_⟩
 . exact Kr
 . exact Kr
 intro o O2 ho
 have hh:=d8 ho
 clear ho
 obtain hh|hh:=hh
 . obtain⟨a,e,ts9,c9,hU,rfl,rfl⟩:=hh
   (try dsimp only at hU)
   rw[hU] at hres
   (try rw[Rs.bind_er] at hres)
   refine Kv D8 ?_
   refine⟨psC ts9 c9,⟨?_,?_⟩,?_⟩
   . exact Kr
   . exact Kr
   rw[hres]
   exact⟨_,_,rfl,rfl⟩
 obtain⟨hi,ts7,hU,rfl,rfl⟩:=hh
 (try dsimp only at hU)
 rw[hU] at hres
 (try rw[Rs.bind_ok] at hres)
 refine Kv D8 ?_
 have hq7:=I1 hq6 _ _ hU
 refine⟨psC (ts7) c,_,⟨?_,?_⟩,(kR (c:=c) λu=>r9 ts7 u [59] hq7.1).mono ?_⟩
 . exact Kr
 . exact Kr
 intro o O2 ho
 have hh:=d8 ho
 clear ho
 obtain hh|hh:=hh
 . obtain⟨a,e,ts9,c9,hU,rfl,rfl⟩:=hh
   (try dsimp only at hU)
   rw[hU] at hres
   (try rw[Rs.bind_er] at hres)
   refine Kv D8 ?_
   refine⟨psC ts9 c9,⟨?_,?_⟩,?_⟩
   . exact Kr
   . exact Kr
   rw[hres]
   exact⟨_,_,rfl,rfl⟩
 obtain⟨x3,ts8,hU,rfl,rfl⟩:=hh
 (try dsimp only at hU)
 rw[hU] at hres
 (try rw[Rs.bind_ok] at hres)
 refine Kv D8 ?_
 refine j9 tok (cf:=D8) (by kernel_rfl) [.p 0, .p 1, .p 2, .p 3, .p 4, .p 5, .p 6, .p 7, .s 8 [5,7,4,6,3,2,1], .p 9, .p 10, .p 11, .s 12 [11,0,10,9]] (by kernel_rfl) ?_
 refine Kv D8 ?_
 refine⟨by simp,?_⟩
 refine Kv D8 ?_
 refine⟨λh1 h2=>?_,?_⟩
 . simp only[List.length_map,List.length_cons,List.length_nil]
   omega
 refine Kv D8 ?_
 refine⟨psC (ts8) {c with legs:=c.legs++[⟨a,b,lo,hi⟩]}, .d (.tup []),?_,?_⟩
 rotate_left 1
 . rw[hres]
   exact⟨rfl,rfl⟩
 repeat'(first|exact True.intro|exact rfl|refine And.intro ?_ ?_|(exact(by simp only[List.map_append,List.map_cons,List.map_nil])))
abbrev H0:Cfg:={rs:=[4,7,11,13,17]}
theorem b5O (ts:List Tk)(c:Course)(hq:QT ts)(hl:c.categories.length<=1000000000):MeetsR Tryz.prog 77 [.loc 5000 0] (psC ts c) λo O'=>RdV (λ_=> .tup []) id ((X7 ts).bind λx ts=> .ok {c with categories:=c.categories++[x]} ts) o O':=by
 obtain⟨res,hres⟩:∃res,res=(X7 ts).bind λx ts=> .ok {c with categories:=c.categories++[x]} ts:=⟨_,rfl⟩
 rw[<-hres]
 simp only[X7,Rs.bind_assoc,Rs.bind_ok] at hres
 refine k8 tok H0 Tryz.func77 rfl (by kernel_rfl) Tryz.ntmps77 (by simp) λB0 W0 V0 lent g0=>?_
 refine Kv H0 ?_
 refine⟨psC (ts) c,_,⟨?_,?_⟩,(kR (c:=c) λu=>Z3 ts u hq).mono ?_⟩
 . exact Kr
 . exact Kr
 intro o O2 ho
 have hh:=d8 ho
 clear ho
 obtain hh|hh:=hh
 . obtain⟨a,e,ts9,c9,hU,rfl,rfl⟩:=hh
   (try dsimp only at hU)
   rw[hU] at hres
   (try rw[Rs.bind_er] at hres)
   refine Kv H0 ?_
   refine⟨psC ts9 c9,⟨?_,?_⟩,?_⟩
   . exact Kr
   . exact Kr
   rw[hres]
   exact⟨_,_,rfl,rfl⟩
 obtain⟨w,ts2,hU,rfl,rfl⟩:=hh
 (try dsimp only at hU)
 rw[hU] at hres
 (try rw[Rs.bind_ok] at hres)
 refine Kv H0 ?_
 have hq2:=L2 hq _ _ hU
 refine⟨psC (ts2) c,_,⟨?_,?_⟩,(kR (c:=c) λu=>A2 ts2 u hq2).mono ?_⟩
 . exact Kr
 . exact Kr
 intro o O2 ho
 have hh:=d8 ho
 clear ho
 obtain hh|hh:=hh
 . obtain⟨a,e,ts9,c9,hU,rfl,rfl⟩:=hh
   (try dsimp only at hU)
   rw[hU] at hres
   (try rw[Rs.bind_er] at hres)
   refine Kv H0 ?_
   refine⟨psC ts9 c9,⟨?_,?_⟩,?_⟩
   . exact Kr
   . exact Kr
   rw[hres]
   exact⟨_,_,rfl,rfl⟩
 obtain⟨a,ts3,hU,rfl,rfl⟩:=hh
 (try dsimp only at hU)
 rw[hU] at hres
 (try rw[Rs.bind_ok] at hres)
 refine Kv H0 ?_
 have hq3:=A1 hq2 _ _ hU
 refine⟨psC (ts3) c,_,⟨?_,?_⟩,(kR (c:=c) λu=>r9 ts3 u [116,111] hq3.1).mono ?_⟩
 . exact Kr
 . exact Kr
 intro o O2 ho
 have hh:=d8 ho
 clear ho
 obtain hh|hh:=hh
 . obtain⟨a,e,ts9,c9,hU,rfl,rfl⟩:=hh
   (try dsimp only at hU)
   rw[hU] at hres
   (try rw[Rs.bind_er] at hres)
   refine Kv H0 ?_
   refine⟨psC ts9 c9,⟨?_,?_⟩,?_⟩
   . exact Kr
   . exact Kr
   rw[hres]
   exact⟨_,_,rfl,rfl⟩
 obtain⟨x1,ts4,hU,rfl,rfl⟩:=hh
 (try dsimp only at hU)
 rw[hU] at hres
 (try rw[Rs.bind_ok] at hres)
 refine Kv H0 ?_
 have hq4:=n9 hq3 _ _ hU
 refine⟨psC (ts4) c,_,⟨?_,?_⟩,(kR (c:=c) λu=>A2 ts4 u hq4).mono ?_⟩
 . exact Kr
 . exact Kr
 intro o O2 ho
 have hh:=d8 ho
 clear ho
 obtain hh|hh:=hh
 . obtain⟨a,e,ts9,c9,hU,rfl,rfl⟩:=hh
   (try dsimp only at hU)
   rw[hU] at hres
   (try rw[Rs.bind_er] at hres)
   refine Kv H0 ?_
   refine⟨psC ts9 c9,⟨?_,?_⟩,?_⟩
   . exact Kr
   . exact Kr
   rw[hres]
   exact⟨_,_,rfl,rfl⟩
 obtain⟨b,ts5,hU,rfl,rfl⟩:=hh
 (try dsimp only at hU)
 rw[hU] at hres
 (try rw[Rs.bind_ok] at hres)
 refine Kv H0 ?_
 have hq5:=A1 hq4 _ _ hU
 refine⟨psC (ts5) c,_,⟨?_,?_⟩,(kR (c:=c) λu=>r9 ts5 u [59] hq5.1).mono ?_⟩
 . exact Kr
 . exact Kr
 intro o O2 ho
 have hh:=d8 ho
 clear ho
 obtain hh|hh:=hh
 . obtain⟨a,e,ts9,c9,hU,rfl,rfl⟩:=hh
   (try dsimp only at hU)
   rw[hU] at hres
   (try rw[Rs.bind_er] at hres)
   refine Kv H0 ?_
   refine⟨psC ts9 c9,⟨?_,?_⟩,?_⟩
   . exact Kr
   . exact Kr
   rw[hres]
   exact⟨_,_,rfl,rfl⟩
 obtain⟨x2,ts6,hU,rfl,rfl⟩:=hh
 (try dsimp only at hU)
 rw[hU] at hres
 (try rw[Rs.bind_ok] at hres)
 refine Kv H0 ?_
 refine j9 tok (cf:=H0) (by kernel_rfl) [.p 0, .p 1, .p 2, .p 3, .p 4, .p 5, .p 6, .p 7, .s 8 [5,7,4,6,3,2,1], .p 9, .p 10, .p 11, .s 12 [11,0,10,9]] (by kernel_rfl) ?_
 refine Kv H0 ?_
 refine⟨by simp,?_⟩
 refine Kv H0 ?_
 refine⟨λh1 h2=>?_,?_⟩
 . simp only[List.length_map,List.length_cons,List.length_nil]
   omega
 refine Kv H0 ?_
 refine⟨psC (ts6) {c with categories:=c.categories++[⟨w,a,b⟩]}, .d (.tup []),?_,?_⟩
 rotate_left 1
 . rw[hres]
   exact⟨rfl,rfl⟩
 repeat'(first|exact True.intro|exact rfl|refine And.intro ?_ ?_|(exact(by simp only[List.map_append,List.map_cons,List.map_nil])))
abbrev v8:Cfg:={rs:=[6,10,15,19,21,25,29]}
theorem b9G (hT:C2)(ts:List Tk)(c:Course)(hq:QT ts)(hl:c.offences.length<=1000000000):MeetsR Tryz.prog 76 [.loc 5000 0] (psC ts c) λo O'=>RdV (λ_=> .tup []) id ((Z7 ts).bind λx ts=> .ok {c with offences:=c.offences++[x]} ts) o O':=by
 obtain⟨res,hres⟩:∃res,res=(Z7 ts).bind λx ts=> .ok {c with offences:=c.offences++[x]} ts:=⟨_,rfl⟩
 rw[<-hres]
 simp only[Z7,Rs.bind_assoc,Rs.bind_ok] at hres
 refine k8 tok v8 Tryz.func76 rfl (by kernel_rfl) Tryz.ntmps76 (by simp) λB0 W0 V0 lent g0=>?_
 refine Kv v8 ?_
 refine⟨psC (ts) c,_,⟨?_,?_⟩,(kR (c:=c) λu=>Z3 ts u hq).mono ?_⟩
 . exact Kr
 . exact Kr
 intro o O2 ho
 have hh:=d8 ho
 clear ho
 obtain hh|hh:=hh
 . obtain⟨a,e,ts9,c9,hU,rfl,rfl⟩:=hh
   (try dsimp only at hU)
   rw[hU] at hres
   (try rw[Rs.bind_er] at hres)
   refine Kv v8 ?_
   refine⟨psC ts9 c9,⟨?_,?_⟩,?_⟩
   . exact Kr
   . exact Kr
   rw[hres]
   exact⟨_,_,rfl,rfl⟩
 obtain⟨w,ts2,hU,rfl,rfl⟩:=hh
 (try dsimp only at hU)
 rw[hU] at hres
 (try rw[Rs.bind_ok] at hres)
 refine Kv v8 ?_
 have hq2:=L2 hq _ _ hU
 unfold Q6 at hres
 cases hk:B3 (hdT ts2) with
 | some t=>
   rw[hk] at hres
   dsimp only at hres
   rw[Rs.bind_ok] at hres
   have hq3:QT ts2.tail:=hq2.tail (by rw[a8D hk];decide)
   refine⟨psC (ts2) c,_,⟨?_,?_⟩,(kC (c:=c) λu=>b0l hT ts2 u hq2 hk).mono ?_⟩
   . exact Kr
   . exact Kr
   rintro _ O2 ⟨rfl,rfl⟩
   refine Kv v8 ?_
   refine⟨λ_=>?_,λh=>absurd h (by decide)⟩
   refine Kv v8 ?_
   refine⟨psC (ts2) c,_,⟨?_,?_⟩,(kC (c:=c) λu=>S7 ts2 u hq2.1).mono ?_⟩
   . exact Kr
   . exact Kr
   rintro _ O2 ⟨rfl,rfl⟩
   refine Kv v8 ?_
   refine⟨psC (ts2.tail) c,_,⟨?_,?_⟩,(kR (c:=c) λu=>r9 ts2.tail u [59] hq3.1).mono ?_⟩
   . exact Kr
   . exact Kr
   intro o O2 ho
   have hh:=d8 ho
   clear ho
   obtain hh|hh:=hh
   . obtain⟨a,e,ts9,c9,hU,rfl,rfl⟩:=hh
     (try dsimp only at hU)
     rw[hU] at hres
     (try rw[Rs.bind_er] at hres)
     refine Kv v8 ?_
     refine⟨psC ts9 c9,⟨?_,?_⟩,?_⟩
     . exact Kr
     . exact Kr
     rw[hres]
     exact⟨_,_,rfl,rfl⟩
   obtain⟨x2,ts6,hU,rfl,rfl⟩:=hh
   (try dsimp only at hU)
   rw[hU] at hres
   (try rw[Rs.bind_ok] at hres)
   refine Kv v8 ?_
   refine j9 tok (cf:=v8) (by kernel_rfl) [.p 0, .p 1, .p 2, .p 3, .p 4, .p 5, .p 6, .p 7, .s 8 [5,7,4,6,3,2,1], .p 9, .p 10, .p 11, .s 12 [11,0,10,9]] (by kernel_rfl) ?_
   refine Kv v8 ?_
   refine⟨by simp,?_⟩
   refine Kv v8 ?_
   refine⟨λh1 h2=>?_,?_⟩
   . simp only[List.length_map,List.length_cons,List.length_nil]
     omega
   refine Kv v8 ?_
   refine⟨psC (ts6) {c with offences:=c.offences++[⟨w,t,0,false⟩]}, .d (.tup []),?_,?_⟩
   rotate_left 1
   . rw[hres]
     exact⟨rfl,rfl⟩
   repeat'(first|exact True.intro|exact rfl|refine And.intro ?_ ?_|(exact(by simp only[List.map_append,List.map_cons,List.map_nil])))
 | none=>
   rw[hk] at hres
   dsimp only at hres
   refine⟨psC (ts2) c,_,⟨?_,?_⟩,(kC (c:=c) λu=>b0k hT ts2 u hq2 hk).mono ?_⟩
   . exact Kr
   . exact Kr
   rintro _ O2 ⟨rfl,rfl⟩
   refine Kv v8 ?_
   refine⟨λh=>absurd h (by decide),λ_=>?_⟩
   refine Kv v8 ?_
   have h1:=Bool.eq_false_or_eq_true (isW [108,97,112,115] ts2)
   obtain h1|h1:=h1
   . rw [if_pos h1] at hres
     simp only[Rs.bind_assoc,Rs.bind_ok] at hres
     have hq3:=hq2.isW h1
     refine⟨psC (ts2) c,_,⟨?_,?_⟩,(kC (c:=c) λu=>A5 ts2 u [108,97,112,115] hq2.1 h1).mono ?_⟩
     . exact Kr
     . exact Kr
     rintro _ O2 ⟨rfl,rfl⟩
     refine Kv v8 ?_
     refine⟨psC (ts2.tail) c,_,⟨?_,?_⟩,(kR (c:=c) λu=>A2 ts2.tail u hq3).mono ?_⟩
     . exact Kr
     . exact Kr
     intro o O2 ho
     have hh:=d8 ho
     clear ho
     obtain hh|hh:=hh
     . obtain⟨a,e,ts9,c9,hU,rfl,rfl⟩:=hh
       (try dsimp only at hU)
       rw[hU] at hres
       (try rw[Rs.bind_er] at hres)
       refine Kv v8 ?_
       refine⟨psC ts9 c9,⟨?_,?_⟩,?_⟩
       . exact Kr
       . exact Kr
       rw[hres]
       exact⟨_,_,rfl,rfl⟩
     obtain⟨n,ts4,hU,rfl,rfl⟩:=hh
     (try dsimp only at hU)
     rw[hU] at hres
     (try rw[Rs.bind_ok] at hres)
     refine Kv v8 ?_
     have hq4:=A1 hq3 _ _ hU
     refine⟨psC (ts4) c,_,⟨?_,?_⟩,(kR (c:=c) λu=>r9 ts4 u [59] hq4.1).mono ?_⟩
     . exact Kr
     . exact Kr
     intro o O2 ho
     have hh:=d8 ho
     clear ho
     obtain hh|hh:=hh
     . obtain⟨a,e,ts9,c9,hU,rfl,rfl⟩:=hh
       (try dsimp only at hU)
       rw[hU] at hres
       (try rw[Rs.bind_er] at hres)
       refine Kv v8 ?_
       refine⟨psC ts9 c9,⟨?_,?_⟩,?_⟩
       . exact Kr
       . exact Kr
       rw[hres]
       exact⟨_,_,rfl,rfl⟩
     obtain⟨x2,ts6,hU,rfl,rfl⟩:=hh
     (try dsimp only at hU)
     rw[hU] at hres
     (try rw[Rs.bind_ok] at hres)
     refine Kv v8 ?_
     refine j9 tok (cf:=v8) (by kernel_rfl) [.p 0, .p 1, .p 2, .p 3, .p 4, .p 5, .p 6, .p 7, .s 8 [5,7,4,6,3,2,1], .p 9, .p 10, .p 11, .s 12 [11,0,10,9]] (by kernel_rfl) ?_
     refine Kv v8 ?_
     refine⟨by simp,?_⟩
     refine Kv v8 ?_
     refine⟨λh1 h2=>?_,?_⟩
     . simp only[List.length_map,List.length_cons,List.length_nil]
       omega
     refine Kv v8 ?_
     refine⟨psC (ts6) {c with offences:=c.offences++[⟨w,0,n,false⟩]}, .d (.tup []),?_,?_⟩
     rotate_left 1
     . rw[hres]
       exact⟨rfl,rfl⟩
     repeat'(first|exact True.intro|exact rfl|refine And.intro ?_ ?_|(exact(by simp only[List.map_append,List.map_cons,List.map_nil])))
   . rw [if_neg (by rw[h1];decide)] at hres
     simp only[Rs.bind_assoc,Rs.bind_ok] at hres
     refine⟨psC (ts2) c,_,⟨?_,?_⟩,(kC (c:=c) λu=>j0 ts2 u [108,97,112,115] hq2.1 h1).mono ?_⟩
     . exact Kr
     . exact Kr
     rintro _ O2 ⟨rfl,rfl⟩
     refine Kv v8 ?_
     refine⟨psC (ts2) c,_,⟨?_,?_⟩,(kR (c:=c) λu=>r9 ts2 u [111,117,116] hq2.1).mono ?_⟩
     . exact Kr
     . exact Kr
     intro o O2 ho
     have hh:=d8 ho
     clear ho
     obtain hh|hh:=hh
     . obtain⟨a,e,ts9,c9,hU,rfl,rfl⟩:=hh
       (try dsimp only at hU)
       rw[hU] at hres
       (try rw[Rs.bind_er] at hres)
       refine Kv v8 ?_
       refine⟨psC ts9 c9,⟨?_,?_⟩,?_⟩
       . exact Kr
       . exact Kr
       rw[hres]
       exact⟨_,_,rfl,rfl⟩
     obtain⟨x1,ts4,hU,rfl,rfl⟩:=hh
     (try dsimp only at hU)
     rw[hU] at hres
     (try rw[Rs.bind_ok] at hres)
     refine Kv v8 ?_
     have hq4:=n9 hq2 _ _ hU
     refine⟨psC (ts4) c,_,⟨?_,?_⟩,(kR (c:=c) λu=>r9 ts4 u [59] hq4.1).mono ?_⟩
     . exact Kr
     . exact Kr
     intro o O2 ho
     have hh:=d8 ho
     clear ho
     obtain hh|hh:=hh
     . obtain⟨a,e,ts9,c9,hU,rfl,rfl⟩:=hh
       (try dsimp only at hU)
       rw[hU] at hres
       (try rw[Rs.bind_er] at hres)
       refine Kv v8 ?_
       refine⟨psC ts9 c9,⟨?_,?_⟩,?_⟩
       . exact Kr
       . exact Kr
       rw[hres]
       exact⟨_,_,rfl,rfl⟩
     obtain⟨x2,ts6,hU,rfl,rfl⟩:=hh
     (try dsimp only at hU)
     rw[hU] at hres
     (try rw[Rs.bind_ok] at hres)
     refine Kv v8 ?_
     refine j9 tok (cf:=v8) (by kernel_rfl) [.p 0, .p 1, .p 2, .p 3, .p 4, .p 5, .p 6, .p 7, .s 8 [5,7,4,6,3,2,1], .p 9, .p 10, .p 11, .s 12 [11,0,10,9]] (by kernel_rfl) ?_
     refine Kv v8 ?_
     refine⟨by simp,?_⟩
     refine Kv v8 ?_
     refine⟨λh1 h2=>?_,?_⟩
     . simp only[List.length_map,List.length_cons,List.length_nil]
       omega
     refine Kv v8 ?_
     refine⟨psC (ts6) {c with offences:=c.offences++[⟨w,0,0,true⟩]}, .d (.tup []),?_,?_⟩
     rotate_left 1
     . rw[hres]
       exact⟨rfl,rfl⟩
     repeat'(first|exact True.intro|exact rfl|refine And.intro ?_ ?_|(exact(by simp only[List.map_append,List.map_cons,List.map_nil])))
abbrev y9:Cfg:={rs:=[9,12,20,23,26,30]}
theorem b9Z (ts:List Tk)(c:Course)(hq:QT ts)(hl:c.prizes.length<=1000000000):MeetsR Tryz.prog 78 [.loc 5000 0] (psC ts c) λo O'=>RdV (λ_=> .tup []) id ((Z9 (c.distances.map (·.name)) (c.categories.map (·.name)) ts).bind λx ts=> .ok {c with prizes:=c.prizes++[x]} ts) o O':=by
 obtain⟨res,hres⟩:∃res,res=(Z9 (c.distances.map (·.name)) (c.categories.map (·.name)) ts).bind λx ts=> .ok {c with prizes:=c.prizes++[x]} ts:=⟨_,rfl⟩
 rw[<-hres]
 simp only[Z9,Rs.bind_assoc,Rs.bind_ok] at hres
 refine k8 tok y9 Tryz.func78 rfl (by kernel_rfl) Tryz.ntmps78 (by simp) λB0 W0 V0 lent g0=>?_
 refine Kv y9 ?_
 refine⟨psC (ts) c,_,⟨?_,?_⟩,(kR (c:=c) λu=>b7n c.distances ts u hq).mono ?_⟩
 . exact Kr
 . exact Kr
 intro o O2 ho
 have hh:=d8 ho
 clear ho
 obtain hh|hh:=hh
 . obtain⟨a,e,ts9,c9,hU,rfl,rfl⟩:=hh
   (try dsimp only at hU)
   rw[hU] at hres
   (try rw[Rs.bind_er] at hres)
   refine Kv y9 ?_
   refine⟨psC ts9 c9,⟨?_,?_⟩,?_⟩
   . exact Kr
   . exact Kr
   rw[hres]
   exact⟨_,_,rfl,rfl⟩
 obtain⟨d,ts2,hU,rfl,rfl⟩:=hh
 (try dsimp only at hU)
 rw[hU] at hres
 (try rw[Rs.bind_ok] at hres)
 refine Kv y9 ?_
 have hq2:=I6 hq _ _ hU
 unfold X0 at hres
 have h1:=Bool.eq_false_or_eq_true (isW [97,108,108] ts2)
 obtain h1|h1:=h1
 . rw [if_pos h1,Rs.bind_ok] at hres
   have hq3:=hq2.isW h1
   refine⟨psC (ts2) c,_,⟨?_,?_⟩,(kC (c:=c) λu=>A5 ts2 u [97,108,108] hq2.1 h1).mono ?_⟩
   . exact Kr
   . exact Kr
   rintro _ O2 ⟨rfl,rfl⟩
   refine Kv y9 ?_
   refine⟨λh=>absurd h (by decide),λ_=>?_⟩
   refine Kv y9 ?_
   refine⟨psC (ts2.tail) c,_,⟨?_,?_⟩,(kR (c:=c) λu=>A2 ts2.tail u hq3).mono ?_⟩
   . exact Kr
   . exact Kr
   intro o O2 ho
   have hh:=d8 ho
   clear ho
   obtain hh|hh:=hh
   . obtain⟨a,e,ts9,c9,hU,rfl,rfl⟩:=hh
     (try dsimp only at hU)
     rw[hU] at hres
     (try rw[Rs.bind_er] at hres)
     refine Kv y9 ?_
     refine⟨psC ts9 c9,⟨?_,?_⟩,?_⟩
     . exact Kr
     . exact Kr
     rw[hres]
     exact⟨_,_,rfl,rfl⟩
   obtain⟨a,ts4,hU,rfl,rfl⟩:=hh
   (try dsimp only at hU)
   rw[hU] at hres
   (try rw[Rs.bind_ok] at hres)
   refine Kv y9 ?_
   have hq4:=A1 hq3 _ _ hU
   refine⟨psC (ts4) c,_,⟨?_,?_⟩,(kR (c:=c) λu=>A2 ts4 u hq4).mono ?_⟩
   . exact Kr
   . exact Kr
   intro o O2 ho
   have hh:=d8 ho
   clear ho
   obtain hh|hh:=hh
   . obtain⟨a,e,ts9,c9,hU,rfl,rfl⟩:=hh
     (try dsimp only at hU)
     rw[hU] at hres
     (try rw[Rs.bind_er] at hres)
     refine Kv y9 ?_
     refine⟨psC ts9 c9,⟨?_,?_⟩,?_⟩
     . exact Kr
     . exact Kr
     rw[hres]
     exact⟨_,_,rfl,rfl⟩
   obtain⟨b,ts5,hU,rfl,rfl⟩:=hh
   (try dsimp only at hU)
   rw[hU] at hres
   (try rw[Rs.bind_ok] at hres)
   refine Kv y9 ?_
   have hq5:=A1 hq4 _ _ hU
   refine⟨psC (ts5) c,_,⟨?_,?_⟩,(kR (c:=c) λu=>r9 ts5 u [59] hq5.1).mono ?_⟩
   . exact Kr
   . exact Kr
   intro o O2 ho
   have hh:=d8 ho
   clear ho
   obtain hh|hh:=hh
   . obtain⟨a,e,ts9,c9,hU,rfl,rfl⟩:=hh
     (try dsimp only at hU)
     rw[hU] at hres
     (try rw[Rs.bind_er] at hres)
     refine Kv y9 ?_
     refine⟨psC ts9 c9,⟨?_,?_⟩,?_⟩
     . exact Kr
     . exact Kr
     rw[hres]
     exact⟨_,_,rfl,rfl⟩
   obtain⟨x2,ts6,hU,rfl,rfl⟩:=hh
   (try dsimp only at hU)
   rw[hU] at hres
   (try rw[Rs.bind_ok] at hres)
   refine Kv y9 ?_
   refine j9 tok (cf:=y9) (by kernel_rfl) [.p 0, .p 1, .p 2, .p 3, .p 4, .p 5, .p 6, .p 7, .s 8 [5,7,4,6,3,2,1], .p 9, .p 10, .p 11, .s 12 [11,0,10,9]] (by kernel_rfl) ?_
   refine Kv y9 ?_
   refine⟨by simp,?_⟩
   refine Kv y9 ?_
   refine⟨λh1 h2=>?_,?_⟩
   . simp only[List.length_map,List.length_cons,List.length_nil]
     omega
   refine Kv y9 ?_
   refine⟨psC (ts6) {c with prizes:=c.prizes++[⟨d,-1,a,b⟩]}, .d (.tup []),?_,?_⟩
   rotate_left 1
   . rw[hres]
     exact⟨rfl,rfl⟩
   repeat'(first|exact True.intro|exact rfl|refine And.intro ?_ ?_|(exact(by simp only[List.map_append,List.map_cons,List.map_nil])))
 . rw [if_neg (by rw[h1];decide)] at hres
   refine⟨psC (ts2) c,_,⟨?_,?_⟩,(kC (c:=c) λu=>j0 ts2 u [97,108,108] hq2.1 h1).mono ?_⟩
   . exact Kr
   . exact Kr
   rintro _ O2 ⟨rfl,rfl⟩
   refine Kv y9 ?_
   refine⟨λ_=>?_,λh=>absurd h (by decide)⟩
   refine Kv y9 ?_
   refine⟨psC (ts2) c,_,⟨?_,?_⟩,(kR (c:=c) λu=>b7o c.categories ts2 u hq2).mono ?_⟩
   . exact Kr
   . exact Kr
   intro o O2 ho
   have hh:=d8 ho
   clear ho
   obtain hh|hh:=hh
   . obtain⟨a,e,ts9,c9,hU,rfl,rfl⟩:=hh
     (try dsimp only at hU)
     rw[hU] at hres
     (try rw[Rs.bind_er] at hres)
     refine Kv y9 ?_
     refine⟨psC ts9 c9,⟨?_,?_⟩,?_⟩
     . exact Kr
     . exact Kr
     rw[hres]
     exact⟨_,_,rfl,rfl⟩
   obtain⟨g,ts3,hU,rfl,rfl⟩:=hh
   (try dsimp only at hU)
   rw[hU] at hres
   (try rw[Rs.bind_ok] at hres)
   refine Kv y9 ?_
   have hq3:=I6 hq2 _ _ hU
   refine⟨psC (ts3) c,_,⟨?_,?_⟩,(kR (c:=c) λu=>A2 ts3 u hq3).mono ?_⟩
   . exact Kr
   . exact Kr
   intro o O2 ho
   have hh:=d8 ho
   clear ho
   obtain hh|hh:=hh
   . obtain⟨a,e,ts9,c9,hU,rfl,rfl⟩:=hh
     (try dsimp only at hU)
     rw[hU] at hres
     (try rw[Rs.bind_er] at hres)
     refine Kv y9 ?_
     refine⟨psC ts9 c9,⟨?_,?_⟩,?_⟩
     . exact Kr
     . exact Kr
     rw[hres]
     exact⟨_,_,rfl,rfl⟩
   obtain⟨a,ts4,hU,rfl,rfl⟩:=hh
   (try dsimp only at hU)
   rw[hU] at hres
   (try rw[Rs.bind_ok] at hres)
   refine Kv y9 ?_
   have hq4:=A1 hq3 _ _ hU
   refine⟨psC (ts4) c,_,⟨?_,?_⟩,(kR (c:=c) λu=>A2 ts4 u hq4).mono ?_⟩
   . exact Kr
   . exact Kr
   intro o O2 ho
   have hh:=d8 ho
   clear ho
   obtain hh|hh:=hh
   . obtain⟨a,e,ts9,c9,hU,rfl,rfl⟩:=hh
     (try dsimp only at hU)
     rw[hU] at hres
     (try rw[Rs.bind_er] at hres)
     refine Kv y9 ?_
     refine⟨psC ts9 c9,⟨?_,?_⟩,?_⟩
     . exact Kr
     . exact Kr
     rw[hres]
     exact⟨_,_,rfl,rfl⟩
   obtain⟨b,ts5,hU,rfl,rfl⟩:=hh
   (try dsimp only at hU)
   rw[hU] at hres
   (try rw[Rs.bind_ok] at hres)
   refine Kv y9 ?_
   have hq5:=A1 hq4 _ _ hU
   refine⟨psC (ts5) c,_,⟨?_,?_⟩,(kR (c:=c) λu=>r9 ts5 u [59] hq5.1).mono ?_⟩
   . exact Kr
   . exact Kr
   intro o O2 ho
   have hh:=d8 ho
   clear ho
   obtain hh|hh:=hh
   . obtain⟨a,e,ts9,c9,hU,rfl,rfl⟩:=hh
     (try dsimp only at hU)
     rw[hU] at hres
     (try rw[Rs.bind_er] at hres)
     refine Kv y9 ?_
     refine⟨psC ts9 c9,⟨?_,?_⟩,?_⟩
     . exact Kr
     . exact Kr
     rw[hres]
     exact⟨_,_,rfl,rfl⟩
   obtain⟨x2,ts6,hU,rfl,rfl⟩:=hh
   (try dsimp only at hU)
   rw[hU] at hres
   (try rw[Rs.bind_ok] at hres)
   refine Kv y9 ?_
   refine j9 tok (cf:=y9) (by kernel_rfl) [.p 0, .p 1, .p 2, .p 3, .p 4, .p 5, .p 6, .p 7, .s 8 [5,7,4,6,3,2,1], .p 9, .p 10, .p 11, .s 12 [11,0,10,9]] (by kernel_rfl) ?_
   refine Kv y9 ?_
   refine⟨by simp,?_⟩
   refine Kv y9 ?_
   refine⟨λh1 h2=>?_,?_⟩
   . simp only[List.length_map,List.length_cons,List.length_nil]
     omega
   refine Kv y9 ?_
   refine⟨psC (ts6) {c with prizes:=c.prizes++[⟨d,g,a,b⟩]}, .d (.tup []),?_,?_⟩
   rotate_left 1
   . rw[hres]
     exact⟨rfl,rfl⟩
   repeat'(first|exact True.intro|exact rfl|refine And.intro ?_ ?_|(exact(by simp only[List.map_append,List.map_cons,List.map_nil])))
end Go.Proofs.YtaopegkpjhkooaaGreatDoor.Dx
