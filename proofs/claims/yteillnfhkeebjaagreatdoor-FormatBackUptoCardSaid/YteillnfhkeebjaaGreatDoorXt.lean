/- Chapter. -/
import Derived.Test.YteillnfhkeebjaaGreatDoorXs
set_option linter.all false
namespace Go.Proofs.YteillnfhkeebjaaGreatDoor.Dx
open Go Go.RowKit
set_option maxRecDepth 100000
set_option maxHeartbeats 16000000
def ckV (t:Tk):Int:=if t.kind=3 then(I9 t.text).getD 0 else 0
theorem b6r (hT:R7)(t:Tk)(r:List Tk)(u:Nat->Value)(ht:a7r t):MR 193 [.loc 5000 0] (psO (t::r) u) λo O'=>o= .ret (.d (.tup [iD (ckV t),bD (I1 t).isSome]))/\O'=psO (t::r) u:=by
 have htm:=hT t.text ht.1;by_cases hk:t.kind=3
 . cases hv:I9 t.text with
   | none=>
     have e1:ckV t=0:=by unfold ckV;rw[d4 hk,hv];rfl
     have e2:I1 t=none:=by unfold I1;rw[d4 hk,hv]
     unfold a5m at htm;rw[hv] at htm;rw[e1,e2];refine EnR {rs:=[6,11]} Tryz.func193 Tryz.ntmps193 λ_ _ _ _ _=>?_;refine Kv {rs:=[6,11]} ?_;refine⟨psO (t::r) u,_,⟨Kr,Kr⟩,(V8 t r u).mono ?_⟩;rintro _ O2 ⟨rfl,rfl⟩;refine Kv {rs:=[6,11]} ?_;refine⟨λh1=>?_,λh1=>?_⟩<;>(try simp only[BL] at h1)<;>refine Kv {rs:=[6,11]} ?_
     . exact absurd h1 (by omega)
     refine⟨psO (t::r) u,_,⟨Kr,Kr⟩,(V8 t r u).mono ?_⟩;rintro _ O2 ⟨rfl,rfl⟩;refine Kv {rs:=[6,11]} ?_;repeat'((first|(intro hlq;try simp only[SL] at hlq)|refine Meets.k (htm) ?_|refine K9 ?_|((refine Kh (λhb=>?_) λhb=>?_)<;>try simp only[BL] at hb)|refine K8 ?_)<;>refine Kv {rs:=[6,11]} ?_)
     all_goals try(exact absurd hb (by decide))
     refine⟨psO (t::r) u, .d (.tup [iD 0,bD false]),?_,⟨rfl,rfl⟩⟩;repeat'(first|exact d9|exact rfl|refine d8 ?_ ?_)
   | some v=>
     have e1:ckV t=v:=by unfold ckV;rw[d4 hk,hv];rfl
     have e2:I1 t=if 0<=v then some v else none:=by unfold I1;rw[d4 hk,hv]
     unfold a5m at htm;rw[hv] at htm;rw[e1,e2];refine EnR {rs:=[6,11]} Tryz.func193 Tryz.ntmps193 λ_ _ _ _ _=>?_;refine Kv {rs:=[6,11]} ?_;refine⟨psO (t::r) u,_,⟨Kr,Kr⟩,(V8 t r u).mono ?_⟩;rintro _ O2 ⟨rfl,rfl⟩;refine Kv {rs:=[6,11]} ?_;refine⟨λh1=>?_,λh1=>?_⟩<;>(try simp only[BL] at h1)<;>refine Kv {rs:=[6,11]} ?_
     . exact absurd h1 (by omega)
     refine⟨psO (t::r) u,_,⟨Kr,Kr⟩,(V8 t r u).mono ?_⟩;rintro _ O2 ⟨rfl,rfl⟩;refine Kv {rs:=[6,11]} ?_;repeat'((first|(intro hlq;try simp only[SL] at hlq)|refine Meets.k (htm) ?_|refine K9 ?_|((refine Kh (λhb=>?_) λhb=>?_)<;>try simp only[BL] at hb)|refine K8 ?_)<;>refine Kv {rs:=[6,11]} ?_)
     all_goals try(exact absurd hb (by decide))
     refine⟨psO (t::r) u, .d (.tup [iD v,bD (decide (v≥0))]),?_,⟨?_,rfl⟩⟩
     . exact Kr
     . by_cases h0:0<=v
       . rw[d4 h0,r9 (show v≥0 from h0)];rfl
       . rw[c8 h0,D5 (show ¬v≥0 from h0)];rfl
 . have e1:ckV t=0:=c8 hk;have e2:I1 t=none:=c8 hk;rw[e1,e2];refine EnR {rs:=[6,11]} Tryz.func193 Tryz.ntmps193 λ_ _ _ _ _=>?_;refine Kv {rs:=[6,11]} ?_;refine⟨psO (t::r) u,_,⟨Kr,Kr⟩,(V8 t r u).mono ?_⟩;rintro _ O2 ⟨rfl,rfl⟩;refine Kv {rs:=[6,11]} ?_;refine⟨λh1=>?_,λh1=>?_⟩<;>(try simp only[BL] at h1)<;>refine Kv {rs:=[6,11]} ?_
   . refine⟨psO (t::r) u, .d (.tup [iD 0,bD false]),?_,⟨rfl,rfl⟩⟩;repeat'(first|exact d9|exact rfl|refine d8 ?_ ?_)
   . exact absurd h1 (by omega)
theorem c4g {t:Tk}{v:Int}(h:I1 t=some v):ckV t=v:=by
 unfold I1 at h;unfold ckV;split at h
 . rename_i hk;rw[d4 hk];split at h
   . rename_i w hw;rw[hw];split at h
     . cases h;rfl
     . cases h
   . cases h
 . cases h
theorem b6t (hT:R7)(ts:List Tk)(u:Nat->Value)(hq:QT ts){v:Int}(h:I1 (hdT ts)=some v):MR 193 [.loc 5000 0] (psO ts u) λo O'=>o= .ret (.d (.tup [iD v,bD true]))/\O'=psO ts u:=by
 obtain⟨t,r,rfl⟩:=hq.1.cons;have hm:=b6r hT t r u (hq.2 t (by simp));rw[show I1 t=some v from h,c4g (show I1 t=some v from h)] at hm;exact hm
theorem b6s (hT:R7)(ts:List Tk)(u:Nat->Value)(hq:QT ts)(h:I1 (hdT ts)=none):MR 193 [.loc 5000 0] (psO ts u) λo O'=>o= .ret (.d (.tup [iD (ckV (hdT ts)),bD false]))/\O'=psO ts u:=by
 obtain⟨t,r,rfl⟩:=hq.1.cons;have hm:=b6r hT t r u (hq.2 t (by simp));rw[show I1 t=none from h] at hm;exact hm
abbrev a1E:Cfg:={rs:=[7,13,15]}
theorem a5l (hT:R7)(ts:List Tk)(u:Nat->Value)(hq:QT ts):MR 137 [.loc 5000 0] (psO ts u) λo O'=>RdO iD (J2 ts) u o O':=by
 obtain⟨res,hres⟩:∃res,res=J2 ts:=⟨_,rfl⟩
 rw[<-hres];unfold J2 at hres;cases h:I1 (hdT ts) with
 | some v=>
   rw[h] at hres;dsimp only at hres;refine EnR a1E Tryz.func137 Tryz.ntmps137 λ_ _ _ _ _=>?_;refine Kv a1E ?_;refine⟨psO ts u,_,⟨Kr,Kr⟩,(b6t hT ts u hq h).mono ?_⟩;rintro _ O2 ⟨rfl,rfl⟩;refine Kv a1E ?_;refine⟨λh=>absurd h (by decide),λ_=>?_⟩;refine Kv a1E ?_;refine⟨psO ts u,_,⟨Kr,Kr⟩,(a1p ts u hq.1).mono ?_⟩;rintro _ O2 ⟨rfl,rfl⟩;refine Kv a1E ?_;refine⟨psO ts.tail u, .d (iD v),?_,?_⟩;rotate_left 1
   . rw[hres];exact⟨rfl,rfl⟩
   repeat'(first|exact d9|exact rfl|refine d8 ?_ ?_)
 | none=>
   rw[h] at hres;dsimp only at hres;refine EnR a1E Tryz.func137 Tryz.ntmps137 λ_ _ _ _ _=>?_;refine Kv a1E ?_;refine⟨psO ts u,_,⟨Kr,Kr⟩,(b6s hT ts u hq h).mono ?_⟩;rintro _ O2 ⟨rfl,rfl⟩;refine Kv a1E ?_;refine⟨λ_=>?_,λh=>absurd h (by decide)⟩;refine Kv a1E ?_;refine⟨psO ts u,_,⟨Kr,Kr⟩,(T9 ts u 60 hq.1).mono ?_⟩;rintro _ O2 ⟨rfl,rfl⟩;refine Kv a1E ?_;refine⟨psO ts u,⟨Kr,Kr⟩,?_⟩;rw[hres];exact⟨_,rfl,rfl⟩
theorem d3R (w:List UInt8):Mt 191 [.str w] λd=>d= .tup [iD (if w=[103,117,110] then 1 else if w=[99,104,105,112] then 2 else if w=[115,108,111,116] then 3 else 0),bD (decide (w=[103,117,110]\/w=[99,104,105,112]\/w=[115,108,111,116]))]:=by
 by_cases h1:w=[103,117,110]
 . subst h1;refine En {} Tryz.func191 Tryz.ntmps191 λ_ _ _ _ _=>?_;refine Kw ?_;repeat'((first|(intro hlq;try simp only[SL] at hlq)|refine K9 ?_|((refine Kh (λhb=>?_) λhb=>?_)<;>try simp only[BL] at hb)|refine K8 ?_)<;>refine Kw ?_)
   all_goals first|exact⟨rfl⟩|(exfalso;simp_all;done)
 by_cases h2:w=[99,104,105,112]
 . subst h2;refine En {} Tryz.func191 Tryz.ntmps191 λ_ _ _ _ _=>?_;refine Kw ?_;repeat'((first|(intro hlq;try simp only[SL] at hlq)|refine K9 ?_|((refine Kh (λhb=>?_) λhb=>?_)<;>try simp only[BL] at hb)|refine K8 ?_)<;>refine Kw ?_)
   all_goals first|exact⟨rfl⟩|(exfalso;simp_all;done)
 by_cases h3:w=[115,108,111,116]
 . subst h3;refine En {} Tryz.func191 Tryz.ntmps191 λ_ _ _ _ _=>?_;refine Kw ?_;repeat'((first|(intro hlq;try simp only[SL] at hlq)|refine K9 ?_|((refine Kh (λhb=>?_) λhb=>?_)<;>try simp only[BL] at hb)|refine K8 ?_)<;>refine Kw ?_)
   all_goals first|exact⟨rfl⟩|(exfalso;simp_all;done)
 rw[c8 h1,c8 h2,c8 h3,D5 (by simp only[h1,h2,h3,or_self,not_false_eq_true])];refine En {} Tryz.func191 Tryz.ntmps191 λ_ _ _ _ _=>?_;refine Kw ?_;repeat'((first|(intro hlq;try simp only[SL] at hlq)|refine K9 ?_|((refine Kh (λhb=>?_) λhb=>?_)<;>try simp only[BL] at hb)|refine K8 ?_)<;>refine Kw ?_)
 all_goals first|exact absurd hb h1|exact absurd hb h2|exact absurd hb h3|exact⟨rfl⟩
def fxI {α:Type}(p:α->Bool)(xs:List α):Int:=match xs.findIdx? p with|some i=>(i:Int)|none=> -1
theorem b2D {α:Type}{p:α->Bool}{xs:List α}{i:Nat}(h:i<xs.length)(hp:p xs[i]=true)(hn:∀x∈xs.take i,p x=false):fxI p xs=(i:Int):=by
 have:xs.findIdx? p=some i:=by
  rw[List.findIdx?_eq_some_iff_getElem];refine⟨h,hp,λj hj=>?_⟩;rw[hn (xs[j]'(by omega)) (List.mem_iff_getElem.2 ⟨j,by rw[R5];omega,by rw[List.getElem_take]⟩)];decide
 unfold fxI;rw[this]
theorem b2E {α:Type}{p:α->Bool}{xs:List α}(hn:∀x∈xs,p x=false):fxI p xs= -1:=by
 have:xs.findIdx? p=none:=by rw[List.findIdx?_eq_none_iff];exact hn
 unfold fxI;rw[this]
theorem b2w {α:Type}(f:α->List UInt8)(xs:List α)(ts:List Tk)(h:S0 ts=true):F1 (xs.map f) ts=if fxI (λx=>decide (f x=(hdT ts).text)) xs<0 then I6 70 ts else .ok (fxI (λx=>decide (f x=(hdT ts).text)) xs) ts.tail:=by
 unfold F1 fxI;rw[d4 h,List.findIdx?_map];simp only[Function.comp_def];cases xs.findIdx? (λx=>decide (f x=(hdT ts).text)) with
 |none=>rw[d4 (by decide)]
 |some i=>rw[c8 (by simp)]
theorem b2x {l:List (List UInt8)}{ts:List Tk}(h:S0 ts=false):F1 l ts=I6 60 ts:=by
 unfold F1;rw[c8 (by rw[h];decide)]
abbrev fO (F T:Nat)(ts:List Tk)(u:Nat->Value):List (Nat×Blk):=(5002, .box [.d (.fn F [] [])] T)::(5001, .box [.loc 5000 0] 118)::psO ts u
theorem b4g {α:Type}{p:α->Bool}{xs:List α}{i:Nat}(h:i<xs.length)(hn:∀x∈xs.take i,p x=false)(hp:p xs[i]=false):∀x∈xs.take (i+1),p x=false:=by
 intro x hx;rw[L1 h] at hx;rcases A8.1 hx with h|h
 . exact hn x h
 . rw[I4.1 h];exact hp
theorem c9z (x:Mat):Mt 243 [x.d] λd=>d= .str x.name:=by
 refine En {} Tryz.func243 Tryz.ntmps243 λ_ _ _ _ _=>?_;refine Kw ?_;exact⟨rfl⟩
abbrev a4x:Cfg:={nm:=[(3,60)],rs:=[9]}
theorem d1q (x:Mat)(t:Tk)(r:List Tk)(u:Nat->Value):MR 266 [.d x.d, .loc 5002 0, .loc 5001 0] (fO 243 163 (t::r) u) λo O'=>o= .ret (.d (bD (decide (x.name=t.text))))/\O'=fO 243 163 (t::r) u:=by
 have hn:=c9z x;refine EnR a4x Tryz.func266 Tryz.ntmps266 λ_ _ _ _ _=>?_;refine Kv a4x ?_;refine Dr a4x [.p 0, .p 1, .p 3, .s 2 [0,1], .s 4 [3], .p 5, .p 6, .p 7] ?_;refine Kv a4x ?_;repeat'((first|(intro hlq;try simp only[SL] at hlq)|refine Meets.k (hn) ?_|refine K9 ?_|((refine Kh (λhb=>?_) λhb=>?_)<;>try simp only[BL] at hb)|refine K8 ?_)<;>refine Kv a4x ?_)
 refine⟨psO (t::r) u,_,⟨Kr,Kr⟩,(V8 t r u).mono ?_⟩;rintro _ O' ⟨rfl,rfl⟩;refine Kv a4x ?_;repeat'((first|(intro hlq;try simp only[SL] at hlq)|refine K9 ?_|((refine Kh (λhb=>?_) λhb=>?_)<;>try simp only[BL] at hb)|refine K8 ?_)<;>refine Kv a4x ?_)
 refine⟨fO 243 163 (t::r) u, .d (bD (decide (x.name=t.text))),?_,⟨rfl,rfl⟩⟩;repeat'(first|exact d9|exact rfl|refine d8 ?_ ?_)
theorem c7I (xs:List Mat)(t:Tk)(r:List Tk)(u:Nat->Value):MR 218 [.d (.sl (xs.map Mat.cells)), .fn 266 [] [.loc 5002 0, .loc 5001 0]] (fO 243 163 (t::r) u) λo O'=>o= .ret (.d (iD (fxI (λx=>decide (x.name=t.text)) xs)))/\O'=fO 243 163 (t::r) u:=by
 refine EnR {rs:=[16]} Tryz.func218 Tryz.ntmps218 λ_ _ _ _ _=>?_;refine Kv {rs:=[16]} ?_;repeat'((first|(intro hlq;try simp only[SL] at hlq)|refine K9 ?_|refine K8 ?_)<;>refine Kv {rs:=[16]} ?_)
 refine o4 tok {rs:=[16]} [] (X:=Nat) (λi=>[(8,iB i)]) (λ_=>fO 243 163 (t::r) u) [] (λi=>i<=xs.length/\∀x∈xs.take i,decide (x.name=t.text)=false) (λi=>xs.length-i) 0 ?_;refine Kv {rs:=[16]} ?_;refine d8 ?_ ⟨⟨by omega,by simp⟩,λi hΦ=>?_⟩
 . exact Kr
 obtain⟨hi,hp⟩:=hΦ;refine Kv {rs:=[16]} ?_;refine⟨λh1=>?_,λh1=>?_⟩<;>(try simp only[BL] at h1)<;>refine Kv {rs:=[16]} ?_
 . have h1':i<xs.length:=by omega
   repeat'((first|(intro hlq;try simp only[SL] at hlq)|refine K9 ?_|refine Ka ?_|refine Kb ?_|refine Kc (hd:=rfl) (e:=?_)|refine Kc (hd:=Mat.cells_eq _) (e:=?_)|refine Kd (e:=?_)|refine Kl rfl ?_|fail)<;>refine Kv {rs:=[16]} ?_)
   refine⟨fO 243 163 (t::r) u,_,⟨Kr,Kr⟩,(d1q xs[i] t r u).mono ?_⟩;rintro _ O' ⟨rfl,rfl⟩;refine Kv {rs:=[16]} ?_;refine⟨λh2=>?_,λh2=>?_⟩<;>(try simp only[BL] at h2)<;>refine Kv {rs:=[16]} ?_
   . rw[b2D (p:=λx:Mat=>decide (x.name=t.text)) h1' (r9 h2) hp];refine⟨fO 243 163 (t::r) u, .d (iD (i:Int)),?_,⟨rfl,rfl⟩⟩;repeat'(first|exact d9|exact rfl|refine d8 ?_ ?_)
   . repeat'((first|(intro hlq;try simp only[SL] at hlq)|refine K9 ?_|refine K8 ?_)<;>refine Kv {rs:=[16]} ?_)
     refine⟨⟨i+1,?_,⟨by omega,b4g (p:=λx:Mat=>decide (x.name=t.text)) h1' hp (D5 h2)⟩,by omega⟩⟩;repeat'(first|exact d9|exact rfl|refine d8 ?_ ?_)
 . rw[y6 (by omega)] at hp;rw[b2E (p:=λx:Mat=>decide (x.name=t.text)) hp];refine⟨fO 243 163 (t::r) u, .d (iD (-1)),?_,⟨rfl,rfl⟩⟩;repeat'(first|exact d9|exact rfl|refine d8 ?_ ?_)
abbrev Z5:Cfg:={nm:=[(3,5001),(5,5002)],rs:=[9,12,15,19,21]}
theorem c6w (xs:List Mat)(ts:List Tk)(u:Nat->Value)(hq:QT ts):MR 242 [.loc 5000 0, .d (.sl (xs.map Mat.cells)), .d (.fn 243 [] [])] (psO ts u) λo O'=>RdO iD (F1 (xs.map (·.name)) ts) u o O':=by
 obtain⟨res,hres⟩:∃res,res=F1 (xs.map (·.name)) ts:=⟨_,rfl⟩
 rw[<-hres];have hi:=a7T ts u hq;cases h:S0 ts with
 | false=>
   rw[h] at hi;rw[b2x h] at hres;refine EnR Z5 Tryz.func242 Tryz.ntmps242 λ_ _ _ _ _=>?_;refine Kv Z5 ?_;refine⟨psO ts u,_,⟨Kr,Kr⟩,(hi).mono ?_⟩;rintro _ O2 ⟨rfl,rfl⟩;refine Kv Z5 ?_;refine⟨λ_=>?_,λh=>absurd h (by decide)⟩;refine Kv Z5 ?_;refine⟨psO ts u,_,⟨Kr,Kr⟩,(T9 ts u 60 hq.1).mono ?_⟩;rintro _ O2 ⟨rfl,rfl⟩;refine Kv Z5 ?_;refine⟨psO ts u,⟨Kr,Kr⟩,?_⟩;rw[hres];exact⟨_,rfl,rfl⟩
 | true=>
   rw[h] at hi;rw[b2w (λx:Mat=>x.name) xs ts h] at hres;have hpa:=a1p ts u hq.1;have hsp:=T9 ts u 70 hq.1;obtain⟨t,r,rfl⟩:=hq.1.cons;have hix:=c7I xs t r u;obtain⟨n,hn⟩:∃n,n=fxI (λx:Mat=>decide (x.name=t.text)) xs:=⟨_,rfl⟩
   rw[show fxI (λx:Mat=>decide (x.name=(hdT (t::r)).text)) xs=n from hn.symm] at hres;rw[<-hn] at hix;refine EnR Z5 Tryz.func242 Tryz.ntmps242 λ_ _ _ _ _=>?_;refine Kv Z5 ?_;refine⟨psO (t::r) u,_,⟨Kr,Kr⟩,(hi).mono ?_⟩;rintro _ O2 ⟨rfl,rfl⟩;refine Kv Z5 ?_;refine⟨λh=>absurd h (by decide),λ_=>?_⟩;refine Kv Z5 ?_;refine⟨fO 243 163 (t::r) u,_,⟨Kr,Kr⟩,hix.mono ?_⟩;rintro _ O' ⟨rfl,rfl⟩;refine Kv Z5 ?_;refine⟨λh2=>?_,λh2=>?_⟩<;>(try simp only[BL] at h2)<;>refine Kv Z5 ?_
   . rw[d4 h2] at hres;refine⟨psO (t::r) u,_,⟨Kr,Kr⟩,(hsp).mono ?_⟩;rintro _ O2 ⟨rfl,rfl⟩;refine Kv Z5 ?_;refine⟨psO (t::r) u,⟨Kr,Kr⟩,?_⟩;rw[hres];exact⟨_,rfl,rfl⟩
   . rw [c8 h2] at hres;refine⟨psO (t::r) u,_,⟨Kr,Kr⟩,(hpa).mono ?_⟩;rintro _ O2 ⟨rfl,rfl⟩;refine Kv Z5 ?_;refine⟨psO r u, .d (iD n),?_,?_⟩;rotate_left 1
     . rw[hres];exact⟨rfl,rfl⟩
     repeat'(first|exact d9|exact rfl|refine d8 ?_ ?_)
theorem c9x (x:Distance):Mt 195 [x.d] λd=>d= .str x.name:=by
 refine En {} Tryz.func195 Tryz.ntmps195 λ_ _ _ _ _=>?_;refine Kw ?_;exact⟨rfl⟩
abbrev a4y:Cfg:={nm:=[(3,60)],rs:=[9]}
theorem d1o (x:Distance)(t:Tk)(r:List Tk)(u:Nat->Value):MR 245 [.d x.d, .loc 5002 0, .loc 5001 0] (fO 195 165 (t::r) u) λo O'=>o= .ret (.d (bD (decide (x.name=t.text))))/\O'=fO 195 165 (t::r) u:=by
 have hn:=c9x x;refine EnR a4y Tryz.func245 Tryz.ntmps245 λ_ _ _ _ _=>?_;refine Kv a4y ?_;refine Dr a4y [.p 0, .p 1, .p 3, .s 2 [0,1], .s 4 [3], .p 5, .p 6, .p 7] ?_;refine Kv a4y ?_;repeat'((first|(intro hlq;try simp only[SL] at hlq)|refine Meets.k (hn) ?_|refine K9 ?_|((refine Kh (λhb=>?_) λhb=>?_)<;>try simp only[BL] at hb)|refine K8 ?_)<;>refine Kv a4y ?_)
 refine⟨psO (t::r) u,_,⟨Kr,Kr⟩,(V8 t r u).mono ?_⟩;rintro _ O' ⟨rfl,rfl⟩;refine Kv a4y ?_;repeat'((first|(intro hlq;try simp only[SL] at hlq)|refine K9 ?_|((refine Kh (λhb=>?_) λhb=>?_)<;>try simp only[BL] at hb)|refine K8 ?_)<;>refine Kv a4y ?_)
 refine⟨fO 195 165 (t::r) u, .d (bD (decide (x.name=t.text))),?_,⟨rfl,rfl⟩⟩;repeat'(first|exact d9|exact rfl|refine d8 ?_ ?_)
theorem c7G (xs:List Distance)(t:Tk)(r:List Tk)(u:Nat->Value):MR 185 [.d (.sl (xs.map Distance.cells)), .fn 245 [] [.loc 5002 0, .loc 5001 0]] (fO 195 165 (t::r) u) λo O'=>o= .ret (.d (iD (fxI (λx=>decide (x.name=t.text)) xs)))/\O'=fO 195 165 (t::r) u:=by
 refine EnR {rs:=[16]} Tryz.func185 Tryz.ntmps185 λ_ _ _ _ _=>?_;refine Kv {rs:=[16]} ?_;repeat'((first|(intro hlq;try simp only[SL] at hlq)|refine K9 ?_|refine K8 ?_)<;>refine Kv {rs:=[16]} ?_)
 refine o4 tok {rs:=[16]} [] (X:=Nat) (λi=>[(8,iB i)]) (λ_=>fO 195 165 (t::r) u) [] (λi=>i<=xs.length/\∀x∈xs.take i,decide (x.name=t.text)=false) (λi=>xs.length-i) 0 ?_;refine Kv {rs:=[16]} ?_;refine d8 ?_ ⟨⟨by omega,by simp⟩,λi hΦ=>?_⟩
 . exact Kr
 obtain⟨hi,hp⟩:=hΦ;refine Kv {rs:=[16]} ?_;refine⟨λh1=>?_,λh1=>?_⟩<;>(try simp only[BL] at h1)<;>refine Kv {rs:=[16]} ?_
 . have h1':i<xs.length:=by omega
   repeat'((first|(intro hlq;try simp only[SL] at hlq)|refine K9 ?_|refine Ka ?_|refine Kb ?_|refine Kc (hd:=rfl) (e:=?_)|refine Kc (hd:=Distance.cells_eq _) (e:=?_)|refine Kd (e:=?_)|refine Kl rfl ?_|fail)<;>refine Kv {rs:=[16]} ?_)
   refine⟨fO 195 165 (t::r) u,_,⟨Kr,Kr⟩,(d1o xs[i] t r u).mono ?_⟩;rintro _ O' ⟨rfl,rfl⟩;refine Kv {rs:=[16]} ?_;refine⟨λh2=>?_,λh2=>?_⟩<;>(try simp only[BL] at h2)<;>refine Kv {rs:=[16]} ?_
   . rw[b2D (p:=λx:Distance=>decide (x.name=t.text)) h1' (r9 h2) hp];refine⟨fO 195 165 (t::r) u, .d (iD (i:Int)),?_,⟨rfl,rfl⟩⟩;repeat'(first|exact d9|exact rfl|refine d8 ?_ ?_)
   . repeat'((first|(intro hlq;try simp only[SL] at hlq)|refine K9 ?_|refine K8 ?_)<;>refine Kv {rs:=[16]} ?_)
     refine⟨⟨i+1,?_,⟨by omega,b4g (p:=λx:Distance=>decide (x.name=t.text)) h1' hp (D5 h2)⟩,by omega⟩⟩;repeat'(first|exact d9|exact rfl|refine d8 ?_ ?_)
 . rw[y6 (by omega)] at hp;rw[b2E (p:=λx:Distance=>decide (x.name=t.text)) hp];refine⟨fO 195 165 (t::r) u, .d (iD (-1)),?_,⟨rfl,rfl⟩⟩;repeat'(first|exact d9|exact rfl|refine d8 ?_ ?_)
abbrev Z6:Cfg:={nm:=[(3,5001),(5,5002)],rs:=[9,12,15,19,21]}
theorem c6t (xs:List Distance)(ts:List Tk)(u:Nat->Value)(hq:QT ts):MR 194 [.loc 5000 0, .d (.sl (xs.map Distance.cells)), .d (.fn 195 [] [])] (psO ts u) λo O'=>RdO iD (F1 (xs.map (·.name)) ts) u o O':=by
 obtain⟨res,hres⟩:∃res,res=F1 (xs.map (·.name)) ts:=⟨_,rfl⟩
 rw[<-hres];have hi:=a7T ts u hq;cases h:S0 ts with
 | false=>
   rw[h] at hi;rw[b2x h] at hres;refine EnR Z6 Tryz.func194 Tryz.ntmps194 λ_ _ _ _ _=>?_;refine Kv Z6 ?_;refine⟨psO ts u,_,⟨Kr,Kr⟩,(hi).mono ?_⟩;rintro _ O2 ⟨rfl,rfl⟩;refine Kv Z6 ?_;refine⟨λ_=>?_,λh=>absurd h (by decide)⟩;refine Kv Z6 ?_;refine⟨psO ts u,_,⟨Kr,Kr⟩,(T9 ts u 60 hq.1).mono ?_⟩;rintro _ O2 ⟨rfl,rfl⟩;refine Kv Z6 ?_;refine⟨psO ts u,⟨Kr,Kr⟩,?_⟩;rw[hres];exact⟨_,rfl,rfl⟩
 | true=>
   rw[h] at hi;rw[b2w (λx:Distance=>x.name) xs ts h] at hres;have hpa:=a1p ts u hq.1;have hsp:=T9 ts u 70 hq.1;obtain⟨t,r,rfl⟩:=hq.1.cons;have hix:=c7G xs t r u;obtain⟨n,hn⟩:∃n,n=fxI (λx:Distance=>decide (x.name=t.text)) xs:=⟨_,rfl⟩
   rw[show fxI (λx:Distance=>decide (x.name=(hdT (t::r)).text)) xs=n from hn.symm] at hres;rw[<-hn] at hix;refine EnR Z6 Tryz.func194 Tryz.ntmps194 λ_ _ _ _ _=>?_;refine Kv Z6 ?_;refine⟨psO (t::r) u,_,⟨Kr,Kr⟩,(hi).mono ?_⟩;rintro _ O2 ⟨rfl,rfl⟩;refine Kv Z6 ?_;refine⟨λh=>absurd h (by decide),λ_=>?_⟩;refine Kv Z6 ?_;refine⟨fO 195 165 (t::r) u,_,⟨Kr,Kr⟩,hix.mono ?_⟩;rintro _ O' ⟨rfl,rfl⟩;refine Kv Z6 ?_;refine⟨λh2=>?_,λh2=>?_⟩<;>(try simp only[BL] at h2)<;>refine Kv Z6 ?_
   . rw[d4 h2] at hres;refine⟨psO (t::r) u,_,⟨Kr,Kr⟩,(hsp).mono ?_⟩;rintro _ O2 ⟨rfl,rfl⟩;refine Kv Z6 ?_;refine⟨psO (t::r) u,⟨Kr,Kr⟩,?_⟩;rw[hres];exact⟨_,rfl,rfl⟩
   . rw [c8 h2] at hres;refine⟨psO (t::r) u,_,⟨Kr,Kr⟩,(hpa).mono ?_⟩;rintro _ O2 ⟨rfl,rfl⟩;refine Kv Z6 ?_;refine⟨psO r u, .d (iD n),?_,?_⟩;rotate_left 1
     . rw[hres];exact⟨rfl,rfl⟩
     repeat'(first|exact d9|exact rfl|refine d8 ?_ ?_)
theorem c9y (x:Category):Mt 197 [x.d] λd=>d= .str x.name:=by
 refine En {} Tryz.func197 Tryz.ntmps197 λ_ _ _ _ _=>?_;refine Kw ?_;exact⟨rfl⟩
abbrev a4z:Cfg:={nm:=[(3,60)],rs:=[9]}
theorem d1p (x:Category)(t:Tk)(r:List Tk)(u:Nat->Value):MR 246 [.d x.d, .loc 5002 0, .loc 5001 0] (fO 197 170 (t::r) u) λo O'=>o= .ret (.d (bD (decide (x.name=t.text))))/\O'=fO 197 170 (t::r) u:=by
 have hn:=c9y x;refine EnR a4z Tryz.func246 Tryz.ntmps246 λ_ _ _ _ _=>?_;refine Kv a4z ?_;refine Dr a4z [.p 0, .p 1, .p 3, .s 2 [0,1], .s 4 [3], .p 5, .p 6, .p 7] ?_;refine Kv a4z ?_;repeat'((first|(intro hlq;try simp only[SL] at hlq)|refine Meets.k (hn) ?_|refine K9 ?_|((refine Kh (λhb=>?_) λhb=>?_)<;>try simp only[BL] at hb)|refine K8 ?_)<;>refine Kv a4z ?_)
 refine⟨psO (t::r) u,_,⟨Kr,Kr⟩,(V8 t r u).mono ?_⟩;rintro _ O' ⟨rfl,rfl⟩;refine Kv a4z ?_;repeat'((first|(intro hlq;try simp only[SL] at hlq)|refine K9 ?_|((refine Kh (λhb=>?_) λhb=>?_)<;>try simp only[BL] at hb)|refine K8 ?_)<;>refine Kv a4z ?_)
 refine⟨fO 197 170 (t::r) u, .d (bD (decide (x.name=t.text))),?_,⟨rfl,rfl⟩⟩;repeat'(first|exact d9|exact rfl|refine d8 ?_ ?_)
theorem c7H (xs:List Category)(t:Tk)(r:List Tk)(u:Nat->Value):MR 222 [.d (.sl (xs.map Category.cells)), .fn 246 [] [.loc 5002 0, .loc 5001 0]] (fO 197 170 (t::r) u) λo O'=>o= .ret (.d (iD (fxI (λx=>decide (x.name=t.text)) xs)))/\O'=fO 197 170 (t::r) u:=by
 refine EnR {rs:=[16]} Tryz.func222 Tryz.ntmps222 λ_ _ _ _ _=>?_;refine Kv {rs:=[16]} ?_;repeat'((first|(intro hlq;try simp only[SL] at hlq)|refine K9 ?_|refine K8 ?_)<;>refine Kv {rs:=[16]} ?_)
 refine o4 tok {rs:=[16]} [] (X:=Nat) (λi=>[(8,iB i)]) (λ_=>fO 197 170 (t::r) u) [] (λi=>i<=xs.length/\∀x∈xs.take i,decide (x.name=t.text)=false) (λi=>xs.length-i) 0 ?_;refine Kv {rs:=[16]} ?_;refine d8 ?_ ⟨⟨by omega,by simp⟩,λi hΦ=>?_⟩
 . exact Kr
 obtain⟨hi,hp⟩:=hΦ;refine Kv {rs:=[16]} ?_;refine⟨λh1=>?_,λh1=>?_⟩<;>(try simp only[BL] at h1)<;>refine Kv {rs:=[16]} ?_
 . have h1':i<xs.length:=by omega
   repeat'((first|(intro hlq;try simp only[SL] at hlq)|refine K9 ?_|refine Ka ?_|refine Kb ?_|refine Kc (hd:=rfl) (e:=?_)|refine Kc (hd:=Category.cells_eq _) (e:=?_)|refine Kd (e:=?_)|refine Kl rfl ?_|fail)<;>refine Kv {rs:=[16]} ?_)
   refine⟨fO 197 170 (t::r) u,_,⟨Kr,Kr⟩,(d1p xs[i] t r u).mono ?_⟩;rintro _ O' ⟨rfl,rfl⟩;refine Kv {rs:=[16]} ?_;refine⟨λh2=>?_,λh2=>?_⟩<;>(try simp only[BL] at h2)<;>refine Kv {rs:=[16]} ?_
   . rw[b2D (p:=λx:Category=>decide (x.name=t.text)) h1' (r9 h2) hp];refine⟨fO 197 170 (t::r) u, .d (iD (i:Int)),?_,⟨rfl,rfl⟩⟩;repeat'(first|exact d9|exact rfl|refine d8 ?_ ?_)
   . repeat'((first|(intro hlq;try simp only[SL] at hlq)|refine K9 ?_|refine K8 ?_)<;>refine Kv {rs:=[16]} ?_)
     refine⟨⟨i+1,?_,⟨by omega,b4g (p:=λx:Category=>decide (x.name=t.text)) h1' hp (D5 h2)⟩,by omega⟩⟩;repeat'(first|exact d9|exact rfl|refine d8 ?_ ?_)
 . rw[y6 (by omega)] at hp;rw[b2E (p:=λx:Category=>decide (x.name=t.text)) hp];refine⟨fO 197 170 (t::r) u, .d (iD (-1)),?_,⟨rfl,rfl⟩⟩;repeat'(first|exact d9|exact rfl|refine d8 ?_ ?_)
abbrev Z7:Cfg:={nm:=[(3,5001),(5,5002)],rs:=[9,12,15,19,21]}
theorem c6v (xs:List Category)(ts:List Tk)(u:Nat->Value)(hq:QT ts):MR 196 [.loc 5000 0, .d (.sl (xs.map Category.cells)), .d (.fn 197 [] [])] (psO ts u) λo O'=>RdO iD (F1 (xs.map (·.name)) ts) u o O':=by
 obtain⟨res,hres⟩:∃res,res=F1 (xs.map (·.name)) ts:=⟨_,rfl⟩
 rw[<-hres];have hi:=a7T ts u hq;cases h:S0 ts with
 | false=>
   rw[h] at hi;rw[b2x h] at hres;refine EnR Z7 Tryz.func196 Tryz.ntmps196 λ_ _ _ _ _=>?_;refine Kv Z7 ?_;refine⟨psO ts u,_,⟨Kr,Kr⟩,(hi).mono ?_⟩;rintro _ O2 ⟨rfl,rfl⟩;refine Kv Z7 ?_;refine⟨λ_=>?_,λh=>absurd h (by decide)⟩;refine Kv Z7 ?_;refine⟨psO ts u,_,⟨Kr,Kr⟩,(T9 ts u 60 hq.1).mono ?_⟩;rintro _ O2 ⟨rfl,rfl⟩;refine Kv Z7 ?_;refine⟨psO ts u,⟨Kr,Kr⟩,?_⟩;rw[hres];exact⟨_,rfl,rfl⟩
 | true=>
   rw[h] at hi;rw[b2w (λx:Category=>x.name) xs ts h] at hres;have hpa:=a1p ts u hq.1;have hsp:=T9 ts u 70 hq.1;obtain⟨t,r,rfl⟩:=hq.1.cons;have hix:=c7H xs t r u;obtain⟨n,hn⟩:∃n,n=fxI (λx:Category=>decide (x.name=t.text)) xs:=⟨_,rfl⟩
   rw[show fxI (λx:Category=>decide (x.name=(hdT (t::r)).text)) xs=n from hn.symm] at hres;rw[<-hn] at hix;refine EnR Z7 Tryz.func196 Tryz.ntmps196 λ_ _ _ _ _=>?_;refine Kv Z7 ?_;refine⟨psO (t::r) u,_,⟨Kr,Kr⟩,(hi).mono ?_⟩;rintro _ O2 ⟨rfl,rfl⟩;refine Kv Z7 ?_;refine⟨λh=>absurd h (by decide),λ_=>?_⟩;refine Kv Z7 ?_;refine⟨fO 197 170 (t::r) u,_,⟨Kr,Kr⟩,hix.mono ?_⟩;rintro _ O' ⟨rfl,rfl⟩;refine Kv Z7 ?_;refine⟨λh2=>?_,λh2=>?_⟩<;>(try simp only[BL] at h2)<;>refine Kv Z7 ?_
   . rw[d4 h2] at hres;refine⟨psO (t::r) u,_,⟨Kr,Kr⟩,(hsp).mono ?_⟩;rintro _ O2 ⟨rfl,rfl⟩;refine Kv Z7 ?_;refine⟨psO (t::r) u,⟨Kr,Kr⟩,?_⟩;rw[hres];exact⟨_,rfl,rfl⟩
   . rw [c8 h2] at hres;refine⟨psO (t::r) u,_,⟨Kr,Kr⟩,(hpa).mono ?_⟩;rintro _ O2 ⟨rfl,rfl⟩;refine Kv Z7 ?_;refine⟨psO r u, .d (iD n),?_,?_⟩;rotate_left 1
     . rw[hres];exact⟨rfl,rfl⟩
     repeat'(first|exact d9|exact rfl|refine d8 ?_ ?_)
abbrev csC (c:Course):List Base:=[.d (.str c.name), .own 7001, .own 7002, .own 7003, .own 7004, .own 7005, .own 7006, .own 7007, .d (stD c.ties),iB c.faults.misses,iB c.faults.strays,iB c.faults.window,iB c.faults.residual,iB c.faults.drift,iB c.fee,iB c.deadline]
abbrev xsC (c:Course):List (Nat×Blk):=[(7001, .sl ⟨94,2,c.mats.map Mat.cells,true⟩),(7002, .sl ⟨96,4,c.legs.map Leg.cells,true⟩),(7003, .sl ⟨82,5,c.distances.map Distance.cells,true⟩),(7004, .sl ⟨100,2,c.waves.map Wave.cells,true⟩),(7005, .sl ⟨102,4,c.offences.map Offence.cells,true⟩),(7006, .sl ⟨105,3,c.categories.map Category.cells,true⟩),(7007, .sl ⟨107,4,c.prizes.map Prize.cells,true⟩)]
abbrev psC (ts:List Tk)(c:Course):List (Nat×Blk):=pcO ts (csC c) (xsC c)
def RdV {α:Type}(f:α->D)(g:α->Course)(r:Rs α)(o:Out)(O':List (Nat×Blk)):Prop:=match r with
 | .ok a ts=>o= .ret (.d (f a))/\O'=psC ts (g a)
 | .er a e=>∃ts' c',o= .pan (.iface 203 (.agg [iD (a:Int),iD e]))/\O'=psC ts' c'
 | .out=>False
theorem o7 {α:Type}{f:α->D}{g:α->Course}{r:Rs α}{o:Out}{O':List (Nat×Blk)}(h:RdV f g r o O'):
 (∃a e ts' c',r= .er a e/\o= .pan (.iface 203 (.agg [iD (a:Int),iD e]))/\O'=psC ts' c')\/∃a ts',r= .ok a ts'/\o= .ret (.d (f a))/\O'=psC ts' (g a):=by
 cases r with
 |out=>exact h.elim
 |er a e=>obtain⟨ts',c',h1,h2⟩:=h;exact .inl ⟨a,e,ts',c',rfl,h1,h2⟩
 |ok a ts=>exact .inr ⟨a,ts,rfl,h.1,h.2⟩
section
variable {F:Nat} {args:List Base} {ts ts':List Tk} {c:Course} {d:D}
theorem kC (h:∀u,MR F args (psO ts u) λo O'=>o= .ret (.d d)/\O'=psO ts' u):MR F args (psC ts c) λo O'=>o= .ret (.d d)/\O'=psC ts' c:=b8k rfl (.inl ⟨_,rfl⟩) h
theorem kP (h:∀u,MR F args (psO ts u) λo O'=>o= .pan d/\O'=psO ts' u):MR F args (psC ts c) λo O'=>o= .pan d/\O'=psC ts' c:=b8k rfl (.inr ⟨_,rfl⟩) h
theorem kR {α:Type}{f:α->D}{r:Rs α}(h:∀u,MR F args (psO ts u) λo O'=>RdO f r u o O'):MR F args (psC ts c) λo O'=>RdV f (λ_=>c) r o O':=by
 refine(c7K rfl h).mono λo O' ho=>?_;cases r with
 |out=>exact ho.elim
 |er a e=>obtain⟨ts',h1,h2⟩:=ho;exact⟨ts',c,h1,h2⟩
 |ok a ts=>exact ho
end
theorem O3 {α β γ:Type}{r:Rs α}{f:α->List Tk->Rs β}{g:β->List Tk->Rs γ}:(r.bind f).bind g=r.bind λa ts=>(f a ts).bind g:=by
 cases r<;>rfl
theorem a6p (ts:List Tk)(c:Course)(hq:QT ts):MR 190 [.loc 5000 0] (psC ts c) λo O'=>RdV iD (λ_=>c) (F1 c.ms ts) o O':=by
 have hf:=λu=>c6w c.mats ts u hq;obtain⟨res,hres⟩:∃res,res=F1 (c.mats.map (·.name)) ts:=⟨_,rfl⟩
 rw[show F1 c.ms ts=res from hres.symm];refine EnR {rs:=[9]} Tryz.func190 Tryz.ntmps190 λ_ _ _ _ _=>?_;refine Kv {rs:=[9]} ?_;refine⟨psC (ts) c,_,⟨Kr,Kr⟩,(kR (c:=c) λu=>hf u).mono ?_⟩;intro o O2 ho;have hh:=o7 ho;clear ho;obtain hh|hh:=hh
 . obtain⟨a,e,ts9,c9,hU,rfl,rfl⟩:=hh;(try dsimp only at hU);rw[hU] at hres;(try rw[j9] at hres);refine Kv {rs:=[9]} ?_;refine⟨psC ts9 c9,⟨Kr,Kr⟩,?_⟩;rw[hres];exact⟨_,_,rfl,rfl⟩
 obtain⟨n,ts2,hU,rfl,rfl⟩:=hh;(try dsimp only at hU);rw[hU] at hres;(try rw[j7] at hres);refine Kv {rs:=[9]} ?_;refine⟨psC (ts2) c, .d (iD n),?_,?_⟩;rotate_left 1
 . rw[hres];exact⟨rfl,rfl⟩
 repeat'(first|exact d9|exact rfl|refine d8 ?_ ?_)
abbrev a0v:Cfg:={rs:=[4,7,11]}
theorem d5d (hT:R7)(ts:List Tk)(c:Course)(hq:QT ts)(hl:c.waves.length<=1000000000):MR 129 [.loc 5000 0] (psC ts c) λo O'=>RdV (λ_=> .tup []) id ((a3a ts).bind λx ts=> .ok {c with waves:=c.waves++[x]} ts) o O':=by
 obtain⟨res,hres⟩:∃res,res=(a3a ts).bind λx ts=> .ok {c with waves:=c.waves++[x]} ts:=⟨_,rfl⟩
 rw[<-hres];simp only[a3a,O3,j7] at hres;refine EnR a0v Tryz.func129 Tryz.ntmps129 λ_ _ _ _ _=>?_;refine Kv a0v ?_;refine⟨psC (ts) c,_,⟨Kr,Kr⟩,(kR (c:=c) λu=>a3O ts u hq).mono ?_⟩;intro o O2 ho;have hh:=o7 ho;clear ho;obtain hh|hh:=hh
 . obtain⟨a,e,ts9,c9,hU,rfl,rfl⟩:=hh;(try dsimp only at hU);rw[hU] at hres;(try rw[j9] at hres);refine Kv a0v ?_;refine⟨psC ts9 c9,⟨Kr,Kr⟩,?_⟩;rw[hres];exact⟨_,_,rfl,rfl⟩
 obtain⟨w,ts2,hU,rfl,rfl⟩:=hh;(try dsimp only at hU);rw[hU] at hres;(try rw[j7] at hres);refine Kv a0v ?_;have hq2:=Y5 hq _ _ hU;refine⟨psC (ts2) c,_,⟨Kr,Kr⟩,(kR (c:=c) λu=>a5l hT ts2 u hq2).mono ?_⟩;intro o O2 ho;have hh:=o7 ho;clear ho;obtain hh|hh:=hh
 . obtain⟨a,e,ts9,c9,hU,rfl,rfl⟩:=hh;(try dsimp only at hU);rw[hU] at hres;(try rw[j9] at hres);refine Kv a0v ?_;refine⟨psC ts9 c9,⟨Kr,Kr⟩,?_⟩;rw[hres];exact⟨_,_,rfl,rfl⟩
 obtain⟨t,ts3,hU,rfl,rfl⟩:=hh;(try dsimp only at hU);rw[hU] at hres;(try rw[j7] at hres);refine Kv a0v ?_;have hq3:=U0 hq2 _ _ hU;refine⟨psC (ts3) c,_,⟨Kr,Kr⟩,(kR (c:=c) λu=>D1 ts3 u [59] hq3.1).mono ?_⟩;intro o O2 ho;have hh:=o7 ho;clear ho;obtain hh|hh:=hh
 . obtain⟨a,e,ts9,c9,hU,rfl,rfl⟩:=hh;(try dsimp only at hU);rw[hU] at hres;(try rw[j9] at hres);refine Kv a0v ?_;refine⟨psC ts9 c9,⟨Kr,Kr⟩,?_⟩;rw[hres];exact⟨_,_,rfl,rfl⟩
 obtain⟨x,ts4,hU,rfl,rfl⟩:=hh;(try dsimp only at hU);rw[hU] at hres;(try rw[j7] at hres);refine Kv a0v ?_;refine Dr a0v [.p 0, .p 1, .p 2, .p 3, .p 4, .p 5, .p 6, .p 7, .s 8 [5,7,4,6,3,2,1], .p 9, .p 10, .p 11, .s 12 [11,0,10,9]] ?_;refine Kv a0v ?_;refine⟨by simp,?_⟩;refine Kv a0v ?_;refine⟨λh1 h2=>?_,?_⟩
 . simp only[o9,i7,j8];omega
 refine Kv a0v ?_;refine⟨psC (ts4) {c with waves:=c.waves++[⟨w,t⟩]}, .d (.tup []),?_,?_⟩;rotate_left 1
 . rw[hres];exact⟨rfl,rfl⟩
 repeat'(first|exact d9|exact rfl|refine d8 ?_ ?_|(exact(by simp only[D3,o5,B8])))
abbrev M9:Cfg:={rs:=[4,8,10,13,17,19,23]}
theorem c8j (hT:R7)(ts:List Tk)(c:Course)(hq:QT ts)(hl:c.legs.length<=1000000000):MR 127 [.loc 5000 0] (psC ts c) λo O'=>RdV (λ_=> .tup []) id ((a2E c.ms ts).bind λx ts=> .ok {c with legs:=c.legs++[x]} ts) o O':=by
 obtain⟨res,hres⟩:∃res,res=(a2E c.ms ts).bind λx ts=> .ok {c with legs:=c.legs++[x]} ts:=⟨_,rfl⟩
 rw[<-hres];simp only[a2E,O3,j7] at hres;refine EnR M9 Tryz.func127 Tryz.ntmps127 λ_ _ _ _ _=>?_;refine Kv M9 ?_;refine⟨psC (ts) c,_,⟨Kr,Kr⟩,(a6p ts c hq).mono ?_⟩;intro o O2 ho;have hh:=o7 ho;clear ho;obtain hh|hh:=hh
 . obtain⟨a,e,ts9,c9,hU,rfl,rfl⟩:=hh;(try dsimp only at hU);rw[hU] at hres;(try rw[j9] at hres);refine Kv M9 ?_;refine⟨psC ts9 c9,⟨Kr,Kr⟩,?_⟩;rw[hres];exact⟨_,_,rfl,rfl⟩
 obtain⟨a,ts2,hU,rfl,rfl⟩:=hh;(try dsimp only at hU);rw[hU] at hres;(try rw[j7] at hres);refine Kv M9 ?_;have hq2:=V5 hq _ _ hU;refine⟨psC (ts2) c,_,⟨Kr,Kr⟩,(kR (c:=c) λu=>D1 ts2 u [116,111] hq2.1).mono ?_⟩;intro o O2 ho;have hh:=o7 ho;clear ho;obtain hh|hh:=hh
 . obtain⟨a,e,ts9,c9,hU,rfl,rfl⟩:=hh;(try dsimp only at hU);rw[hU] at hres;(try rw[j9] at hres);refine Kv M9 ?_;refine⟨psC ts9 c9,⟨Kr,Kr⟩,?_⟩;rw[hres];exact⟨_,_,rfl,rfl⟩
 obtain⟨x1,ts3,hU,rfl,rfl⟩:=hh;(try dsimp only at hU);rw[hU] at hres;(try rw[j7] at hres);refine Kv M9 ?_;have hq3:=v7 hq2 _ _ hU;refine⟨psC (ts3) c,_,⟨Kr,Kr⟩,(a6p ts3 c hq3).mono ?_⟩;intro o O2 ho;have hh:=o7 ho;clear ho;obtain hh|hh:=hh
 . obtain⟨a,e,ts9,c9,hU,rfl,rfl⟩:=hh;(try dsimp only at hU);rw[hU] at hres;(try rw[j9] at hres);refine Kv M9 ?_;refine⟨psC ts9 c9,⟨Kr,Kr⟩,?_⟩;rw[hres];exact⟨_,_,rfl,rfl⟩
 obtain⟨b,ts4,hU,rfl,rfl⟩:=hh;(try dsimp only at hU);rw[hU] at hres;(try rw[j7] at hres);refine Kv M9 ?_;have hq4:=V5 hq3 _ _ hU;refine⟨psC (ts4) c,_,⟨Kr,Kr⟩,(kR (c:=c) λu=>a5l hT ts4 u hq4).mono ?_⟩;intro o O2 ho;have hh:=o7 ho;clear ho;obtain hh|hh:=hh
 . obtain⟨a,e,ts9,c9,hU,rfl,rfl⟩:=hh;(try dsimp only at hU);rw[hU] at hres;(try rw[j9] at hres);refine Kv M9 ?_;refine⟨psC ts9 c9,⟨Kr,Kr⟩,?_⟩;rw[hres];exact⟨_,_,rfl,rfl⟩
 obtain⟨lo,ts5,hU,rfl,rfl⟩:=hh;(try dsimp only at hU);rw[hU] at hres;(try rw[j7] at hres);refine Kv M9 ?_;have hq5:=U0 hq4 _ _ hU;refine⟨psC (ts5) c,_,⟨Kr,Kr⟩,(kR (c:=c) λu=>D1 ts5 u [46,46] hq5.1).mono ?_⟩;intro o O2 ho;have hh:=o7 ho;clear ho;obtain hh|hh:=hh
 . obtain⟨a,e,ts9,c9,hU,rfl,rfl⟩:=hh;(try dsimp only at hU);rw[hU] at hres;(try rw[j9] at hres);refine Kv M9 ?_;refine⟨psC ts9 c9,⟨Kr,Kr⟩,?_⟩;rw[hres];exact⟨_,_,rfl,rfl⟩
 obtain⟨x2,ts6,hU,rfl,rfl⟩:=hh;(try dsimp only at hU);rw[hU] at hres;(try rw[j7] at hres);refine Kv M9 ?_;have hq6:=v7 hq5 _ _ hU;refine⟨psC (ts6) c,_,⟨Kr,Kr⟩,(kR (c:=c) λu=>a5l hT ts6 u hq6).mono ?_⟩;intro o O2 ho;have hh:=o7 ho;clear ho;obtain hh|hh:=hh
 . obtain⟨a,e,ts9,c9,hU,rfl,rfl⟩:=hh;(try dsimp only at hU);rw[hU] at hres;(try rw[j9] at hres);refine Kv M9 ?_;refine⟨psC ts9 c9,⟨Kr,Kr⟩,?_⟩;rw[hres];exact⟨_,_,rfl,rfl⟩
 obtain⟨hi,ts7,hU,rfl,rfl⟩:=hh;(try dsimp only at hU);rw[hU] at hres;(try rw[j7] at hres);refine Kv M9 ?_;have hq7:=U0 hq6 _ _ hU;refine⟨psC (ts7) c,_,⟨Kr,Kr⟩,(kR (c:=c) λu=>D1 ts7 u [59] hq7.1).mono ?_⟩;intro o O2 ho;have hh:=o7 ho;clear ho;obtain hh|hh:=hh
 . obtain⟨a,e,ts9,c9,hU,rfl,rfl⟩:=hh;(try dsimp only at hU);rw[hU] at hres;(try rw[j9] at hres);refine Kv M9 ?_;refine⟨psC ts9 c9,⟨Kr,Kr⟩,?_⟩;rw[hres];exact⟨_,_,rfl,rfl⟩
 obtain⟨x3,ts8,hU,rfl,rfl⟩:=hh;(try dsimp only at hU);rw[hU] at hres;(try rw[j7] at hres);refine Kv M9 ?_;refine Dr M9 [.p 0, .p 1, .p 2, .p 3, .p 4, .p 5, .p 6, .p 7, .s 8 [5,7,4,6,3,2,1], .p 9, .p 10, .p 11, .s 12 [11,0,10,9]] ?_;refine Kv M9 ?_;refine⟨by simp,?_⟩;refine Kv M9 ?_;refine⟨λh1 h2=>?_,?_⟩
 . simp only[o9,i7,j8];omega
 refine Kv M9 ?_;refine⟨psC (ts8) {c with legs:=c.legs++[⟨a,b,lo,hi⟩]}, .d (.tup []),?_,?_⟩;rotate_left 1
 . rw[hres];exact⟨rfl,rfl⟩
 repeat'(first|exact d9|exact rfl|refine d8 ?_ ?_|(exact(by simp only[D3,o5,B8])))
abbrev T2:Cfg:={rs:=[4,7,11,13,17]}
theorem c4e (ts:List Tk)(c:Course)(hq:QT ts)(hl:c.categories.length<=1000000000):MR 131 [.loc 5000 0] (psC ts c) λo O'=>RdV (λ_=> .tup []) id ((a2t ts).bind λx ts=> .ok {c with categories:=c.categories++[x]} ts) o O':=by
 obtain⟨res,hres⟩:∃res,res=(a2t ts).bind λx ts=> .ok {c with categories:=c.categories++[x]} ts:=⟨_,rfl⟩
 rw[<-hres];simp only[a2t,O3,j7] at hres;refine EnR T2 Tryz.func131 Tryz.ntmps131 λ_ _ _ _ _=>?_;refine Kv T2 ?_;refine⟨psC (ts) c,_,⟨Kr,Kr⟩,(kR (c:=c) λu=>a3O ts u hq).mono ?_⟩;intro o O2 ho;have hh:=o7 ho;clear ho;obtain hh|hh:=hh
 . obtain⟨a,e,ts9,c9,hU,rfl,rfl⟩:=hh;(try dsimp only at hU);rw[hU] at hres;(try rw[j9] at hres);refine Kv T2 ?_;refine⟨psC ts9 c9,⟨Kr,Kr⟩,?_⟩;rw[hres];exact⟨_,_,rfl,rfl⟩
 obtain⟨w,ts2,hU,rfl,rfl⟩:=hh;(try dsimp only at hU);rw[hU] at hres;(try rw[j7] at hres);refine Kv T2 ?_;have hq2:=Y5 hq _ _ hU;refine⟨psC (ts2) c,_,⟨Kr,Kr⟩,(kR (c:=c) λu=>G4 ts2 u hq2).mono ?_⟩;intro o O2 ho;have hh:=o7 ho;clear ho;obtain hh|hh:=hh
 . obtain⟨a,e,ts9,c9,hU,rfl,rfl⟩:=hh;(try dsimp only at hU);rw[hU] at hres;(try rw[j9] at hres);refine Kv T2 ?_;refine⟨psC ts9 c9,⟨Kr,Kr⟩,?_⟩;rw[hres];exact⟨_,_,rfl,rfl⟩
 obtain⟨a,ts3,hU,rfl,rfl⟩:=hh;(try dsimp only at hU);rw[hU] at hres;(try rw[j7] at hres);refine Kv T2 ?_;have hq3:=G3 hq2 _ _ hU;refine⟨psC (ts3) c,_,⟨Kr,Kr⟩,(kR (c:=c) λu=>D1 ts3 u [116,111] hq3.1).mono ?_⟩;intro o O2 ho;have hh:=o7 ho;clear ho;obtain hh|hh:=hh
 . obtain⟨a,e,ts9,c9,hU,rfl,rfl⟩:=hh;(try dsimp only at hU);rw[hU] at hres;(try rw[j9] at hres);refine Kv T2 ?_;refine⟨psC ts9 c9,⟨Kr,Kr⟩,?_⟩;rw[hres];exact⟨_,_,rfl,rfl⟩
 obtain⟨x1,ts4,hU,rfl,rfl⟩:=hh;(try dsimp only at hU);rw[hU] at hres;(try rw[j7] at hres);refine Kv T2 ?_;have hq4:=v7 hq3 _ _ hU;refine⟨psC (ts4) c,_,⟨Kr,Kr⟩,(kR (c:=c) λu=>G4 ts4 u hq4).mono ?_⟩;intro o O2 ho;have hh:=o7 ho;clear ho;obtain hh|hh:=hh
 . obtain⟨a,e,ts9,c9,hU,rfl,rfl⟩:=hh;(try dsimp only at hU);rw[hU] at hres;(try rw[j9] at hres);refine Kv T2 ?_;refine⟨psC ts9 c9,⟨Kr,Kr⟩,?_⟩;rw[hres];exact⟨_,_,rfl,rfl⟩
 obtain⟨b,ts5,hU,rfl,rfl⟩:=hh;(try dsimp only at hU);rw[hU] at hres;(try rw[j7] at hres);refine Kv T2 ?_;have hq5:=G3 hq4 _ _ hU;refine⟨psC (ts5) c,_,⟨Kr,Kr⟩,(kR (c:=c) λu=>D1 ts5 u [59] hq5.1).mono ?_⟩;intro o O2 ho;have hh:=o7 ho;clear ho;obtain hh|hh:=hh
 . obtain⟨a,e,ts9,c9,hU,rfl,rfl⟩:=hh;(try dsimp only at hU);rw[hU] at hres;(try rw[j9] at hres);refine Kv T2 ?_;refine⟨psC ts9 c9,⟨Kr,Kr⟩,?_⟩;rw[hres];exact⟨_,_,rfl,rfl⟩
 obtain⟨x2,ts6,hU,rfl,rfl⟩:=hh;(try dsimp only at hU);rw[hU] at hres;(try rw[j7] at hres);refine Kv T2 ?_;refine Dr T2 [.p 0, .p 1, .p 2, .p 3, .p 4, .p 5, .p 6, .p 7, .s 8 [5,7,4,6,3,2,1], .p 9, .p 10, .p 11, .s 12 [11,0,10,9]] ?_;refine Kv T2 ?_;refine⟨by simp,?_⟩;refine Kv T2 ?_;refine⟨λh1 h2=>?_,?_⟩
 . simp only[o9,i7,j8];omega
 refine Kv T2 ?_;refine⟨psC (ts6) {c with categories:=c.categories++[⟨w,a,b⟩]}, .d (.tup []),?_,?_⟩;rotate_left 1
 . rw[hres];exact⟨rfl,rfl⟩
 repeat'(first|exact d9|exact rfl|refine d8 ?_ ?_|(exact(by simp only[D3,o5,B8])))
abbrev E3:Cfg:={rs:=[6,10,15,19,21,25,29]}
theorem c9P (hT:R7)(ts:List Tk)(c:Course)(hq:QT ts)(hl:c.offences.length<=1000000000):MR 130 [.loc 5000 0] (psC ts c) λo O'=>RdV (λ_=> .tup []) id ((a2P ts).bind λx ts=> .ok {c with offences:=c.offences++[x]} ts) o O':=by
 obtain⟨res,hres⟩:∃res,res=(a2P ts).bind λx ts=> .ok {c with offences:=c.offences++[x]} ts:=⟨_,rfl⟩
 rw[<-hres];simp only[a2P,O3,j7] at hres;refine EnR E3 Tryz.func130 Tryz.ntmps130 λ_ _ _ _ _=>?_;refine Kv E3 ?_;refine⟨psC (ts) c,_,⟨Kr,Kr⟩,(kR (c:=c) λu=>a3O ts u hq).mono ?_⟩;intro o O2 ho;have hh:=o7 ho;clear ho;obtain hh|hh:=hh
 . obtain⟨a,e,ts9,c9,hU,rfl,rfl⟩:=hh;(try dsimp only at hU);rw[hU] at hres;(try rw[j9] at hres);refine Kv E3 ?_;refine⟨psC ts9 c9,⟨Kr,Kr⟩,?_⟩;rw[hres];exact⟨_,_,rfl,rfl⟩
 obtain⟨w,ts2,hU,rfl,rfl⟩:=hh;(try dsimp only at hU);rw[hU] at hres;(try rw[j7] at hres);refine Kv E3 ?_;have hq2:=Y5 hq _ _ hU;unfold a0L at hres;cases hk:I1 (hdT ts2) with
 | some t=>
   rw[hk] at hres;dsimp only at hres;rw[j7] at hres;have hq3:QT ts2.tail:=hq2.tail (by rw[b4s hk];decide);refine⟨psC (ts2) c,_,⟨Kr,Kr⟩,(kC (c:=c) λu=>b6t hT ts2 u hq2 hk).mono ?_⟩;rintro _ O2 ⟨rfl,rfl⟩;refine Kv E3 ?_;refine⟨λ_=>?_,λh=>absurd h (by decide)⟩;refine Kv E3 ?_;refine⟨psC (ts2) c,_,⟨Kr,Kr⟩,(kC (c:=c) λu=>a1p ts2 u hq2.1).mono ?_⟩;rintro _ O2 ⟨rfl,rfl⟩;refine Kv E3 ?_;refine⟨psC (ts2.tail) c,_,⟨Kr,Kr⟩,(kR (c:=c) λu=>D1 ts2.tail u [59] hq3.1).mono ?_⟩;intro o O2 ho;have hh:=o7 ho;clear ho;obtain hh|hh:=hh
   . obtain⟨a,e,ts9,c9,hU,rfl,rfl⟩:=hh;(try dsimp only at hU);rw[hU] at hres;(try rw[j9] at hres);refine Kv E3 ?_;refine⟨psC ts9 c9,⟨Kr,Kr⟩,?_⟩;rw[hres];exact⟨_,_,rfl,rfl⟩
   obtain⟨x2,ts6,hU,rfl,rfl⟩:=hh;(try dsimp only at hU);rw[hU] at hres;(try rw[j7] at hres);refine Kv E3 ?_;refine Dr E3 [.p 0, .p 1, .p 2, .p 3, .p 4, .p 5, .p 6, .p 7, .s 8 [5,7,4,6,3,2,1], .p 9, .p 10, .p 11, .s 12 [11,0,10,9]] ?_;refine Kv E3 ?_;refine⟨by simp,?_⟩;refine Kv E3 ?_;refine⟨λh1 h2=>?_,?_⟩
   . simp only[o9,i7,j8];omega
   refine Kv E3 ?_;refine⟨psC (ts6) {c with offences:=c.offences++[⟨w,t,0,false⟩]}, .d (.tup []),?_,?_⟩;rotate_left 1
   . rw[hres];exact⟨rfl,rfl⟩
   repeat'(first|exact d9|exact rfl|refine d8 ?_ ?_|(exact(by simp only[D3,o5,B8])))
 | none=>
   rw[hk] at hres;dsimp only at hres;refine⟨psC (ts2) c,_,⟨Kr,Kr⟩,(kC (c:=c) λu=>b6s hT ts2 u hq2 hk).mono ?_⟩;rintro _ O2 ⟨rfl,rfl⟩;refine Kv E3 ?_;refine⟨λh=>absurd h (by decide),λ_=>?_⟩;refine Kv E3 ?_;have h1:=a1A (isW [108,97,112,115] ts2);obtain h1|h1:=h1
   . rw [d4 h1] at hres;simp only[O3,j7] at hres;have hq3:=hq2.isW h1;refine⟨psC (ts2) c,_,⟨Kr,Kr⟩,(kC (c:=c) λu=>G7 ts2 u [108,97,112,115] hq2.1 h1).mono ?_⟩;rintro _ O2 ⟨rfl,rfl⟩;refine Kv E3 ?_;refine⟨psC (ts2.tail) c,_,⟨Kr,Kr⟩,(kR (c:=c) λu=>G4 ts2.tail u hq3).mono ?_⟩;intro o O2 ho;have hh:=o7 ho;clear ho;obtain hh|hh:=hh
     . obtain⟨a,e,ts9,c9,hU,rfl,rfl⟩:=hh;(try dsimp only at hU);rw[hU] at hres;(try rw[j9] at hres);refine Kv E3 ?_;refine⟨psC ts9 c9,⟨Kr,Kr⟩,?_⟩;rw[hres];exact⟨_,_,rfl,rfl⟩
     obtain⟨n,ts4,hU,rfl,rfl⟩:=hh;(try dsimp only at hU);rw[hU] at hres;(try rw[j7] at hres);refine Kv E3 ?_;have hq4:=G3 hq3 _ _ hU;refine⟨psC (ts4) c,_,⟨Kr,Kr⟩,(kR (c:=c) λu=>D1 ts4 u [59] hq4.1).mono ?_⟩;intro o O2 ho;have hh:=o7 ho;clear ho;obtain hh|hh:=hh
     . obtain⟨a,e,ts9,c9,hU,rfl,rfl⟩:=hh;(try dsimp only at hU);rw[hU] at hres;(try rw[j9] at hres);refine Kv E3 ?_;refine⟨psC ts9 c9,⟨Kr,Kr⟩,?_⟩;rw[hres];exact⟨_,_,rfl,rfl⟩
     obtain⟨x2,ts6,hU,rfl,rfl⟩:=hh;(try dsimp only at hU);rw[hU] at hres;(try rw[j7] at hres);refine Kv E3 ?_;refine Dr E3 [.p 0, .p 1, .p 2, .p 3, .p 4, .p 5, .p 6, .p 7, .s 8 [5,7,4,6,3,2,1], .p 9, .p 10, .p 11, .s 12 [11,0,10,9]] ?_;refine Kv E3 ?_;refine⟨by simp,?_⟩;refine Kv E3 ?_;refine⟨λh1 h2=>?_,?_⟩
     . simp only[o9,i7,j8];omega
     refine Kv E3 ?_;refine⟨psC (ts6) {c with offences:=c.offences++[⟨w,0,n,false⟩]}, .d (.tup []),?_,?_⟩;rotate_left 1
     . rw[hres];exact⟨rfl,rfl⟩
     repeat'(first|exact d9|exact rfl|refine d8 ?_ ?_|(exact(by simp only[D3,o5,B8])))
   . rw [c8 (by rw[h1];decide)] at hres;simp only[O3,j7] at hres;refine⟨psC (ts2) c,_,⟨Kr,Kr⟩,(kC (c:=c) λu=>q0 ts2 u [108,97,112,115] hq2.1 h1).mono ?_⟩;rintro _ O2 ⟨rfl,rfl⟩;refine Kv E3 ?_;refine⟨psC (ts2) c,_,⟨Kr,Kr⟩,(kR (c:=c) λu=>D1 ts2 u [111,117,116] hq2.1).mono ?_⟩;intro o O2 ho;have hh:=o7 ho;clear ho;obtain hh|hh:=hh
     . obtain⟨a,e,ts9,c9,hU,rfl,rfl⟩:=hh;(try dsimp only at hU);rw[hU] at hres;(try rw[j9] at hres);refine Kv E3 ?_;refine⟨psC ts9 c9,⟨Kr,Kr⟩,?_⟩;rw[hres];exact⟨_,_,rfl,rfl⟩
     obtain⟨x1,ts4,hU,rfl,rfl⟩:=hh;(try dsimp only at hU);rw[hU] at hres;(try rw[j7] at hres);refine Kv E3 ?_;have hq4:=v7 hq2 _ _ hU;refine⟨psC (ts4) c,_,⟨Kr,Kr⟩,(kR (c:=c) λu=>D1 ts4 u [59] hq4.1).mono ?_⟩;intro o O2 ho;have hh:=o7 ho;clear ho;obtain hh|hh:=hh
     . obtain⟨a,e,ts9,c9,hU,rfl,rfl⟩:=hh;(try dsimp only at hU);rw[hU] at hres;(try rw[j9] at hres);refine Kv E3 ?_;refine⟨psC ts9 c9,⟨Kr,Kr⟩,?_⟩;rw[hres];exact⟨_,_,rfl,rfl⟩
     obtain⟨x2,ts6,hU,rfl,rfl⟩:=hh;(try dsimp only at hU);rw[hU] at hres;(try rw[j7] at hres);refine Kv E3 ?_;refine Dr E3 [.p 0, .p 1, .p 2, .p 3, .p 4, .p 5, .p 6, .p 7, .s 8 [5,7,4,6,3,2,1], .p 9, .p 10, .p 11, .s 12 [11,0,10,9]] ?_;refine Kv E3 ?_;refine⟨by simp,?_⟩;refine Kv E3 ?_;refine⟨λh1 h2=>?_,?_⟩
     . simp only[o9,i7,j8];omega
     refine Kv E3 ?_;refine⟨psC (ts6) {c with offences:=c.offences++[⟨w,0,0,true⟩]}, .d (.tup []),?_,?_⟩;rotate_left 1
     . rw[hres];exact⟨rfl,rfl⟩
     repeat'(first|exact d9|exact rfl|refine d8 ?_ ?_|(exact(by simp only[D3,o5,B8])))
abbrev F5:Cfg:={rs:=[9,12,20,23,26,30]}
theorem d0m (ts:List Tk)(c:Course)(hq:QT ts)(hl:c.prizes.length<=1000000000):MR 132 [.loc 5000 0] (psC ts c) λo O'=>RdV (λ_=> .tup []) id ((a2R (c.distances.map (·.name)) (c.categories.map (·.name)) ts).bind λx ts=> .ok {c with prizes:=c.prizes++[x]} ts) o O':=by
 obtain⟨res,hres⟩:∃res,res=(a2R (c.distances.map (·.name)) (c.categories.map (·.name)) ts).bind λx ts=> .ok {c with prizes:=c.prizes++[x]} ts:=⟨_,rfl⟩
 rw[<-hres];simp only[a2R,O3,j7] at hres;refine EnR F5 Tryz.func132 Tryz.ntmps132 λ_ _ _ _ _=>?_;refine Kv F5 ?_;refine⟨psC (ts) c,_,⟨Kr,Kr⟩,(kR (c:=c) λu=>c6t c.distances ts u hq).mono ?_⟩;intro o O2 ho;have hh:=o7 ho;clear ho;obtain hh|hh:=hh
 . obtain⟨a,e,ts9,c9,hU,rfl,rfl⟩:=hh;(try dsimp only at hU);rw[hU] at hres;(try rw[j9] at hres);refine Kv F5 ?_;refine⟨psC ts9 c9,⟨Kr,Kr⟩,?_⟩;rw[hres];exact⟨_,_,rfl,rfl⟩
 obtain⟨d,ts2,hU,rfl,rfl⟩:=hh;(try dsimp only at hU);rw[hU] at hres;(try rw[j7] at hres);refine Kv F5 ?_;have hq2:=V5 hq _ _ hU;unfold a2d at hres;have h1:=a1A (isW [97,108,108] ts2);obtain h1|h1:=h1
 . rw [d4 h1,j7] at hres;have hq3:=hq2.isW h1;refine⟨psC (ts2) c,_,⟨Kr,Kr⟩,(kC (c:=c) λu=>G7 ts2 u [97,108,108] hq2.1 h1).mono ?_⟩;rintro _ O2 ⟨rfl,rfl⟩;refine Kv F5 ?_;refine⟨λh=>absurd h (by decide),λ_=>?_⟩;refine Kv F5 ?_;refine⟨psC (ts2.tail) c,_,⟨Kr,Kr⟩,(kR (c:=c) λu=>G4 ts2.tail u hq3).mono ?_⟩;intro o O2 ho;have hh:=o7 ho;clear ho;obtain hh|hh:=hh
   . obtain⟨a,e,ts9,c9,hU,rfl,rfl⟩:=hh;(try dsimp only at hU);rw[hU] at hres;(try rw[j9] at hres);refine Kv F5 ?_;refine⟨psC ts9 c9,⟨Kr,Kr⟩,?_⟩;rw[hres];exact⟨_,_,rfl,rfl⟩
   obtain⟨a,ts4,hU,rfl,rfl⟩:=hh;(try dsimp only at hU);rw[hU] at hres;(try rw[j7] at hres);refine Kv F5 ?_;have hq4:=G3 hq3 _ _ hU;refine⟨psC (ts4) c,_,⟨Kr,Kr⟩,(kR (c:=c) λu=>G4 ts4 u hq4).mono ?_⟩;intro o O2 ho;have hh:=o7 ho;clear ho;obtain hh|hh:=hh
   . obtain⟨a,e,ts9,c9,hU,rfl,rfl⟩:=hh;(try dsimp only at hU);rw[hU] at hres;(try rw[j9] at hres);refine Kv F5 ?_;refine⟨psC ts9 c9,⟨Kr,Kr⟩,?_⟩;rw[hres];exact⟨_,_,rfl,rfl⟩
   obtain⟨b,ts5,hU,rfl,rfl⟩:=hh;(try dsimp only at hU);rw[hU] at hres;(try rw[j7] at hres);refine Kv F5 ?_;have hq5:=G3 hq4 _ _ hU;refine⟨psC (ts5) c,_,⟨Kr,Kr⟩,(kR (c:=c) λu=>D1 ts5 u [59] hq5.1).mono ?_⟩;intro o O2 ho;have hh:=o7 ho;clear ho;obtain hh|hh:=hh
   . obtain⟨a,e,ts9,c9,hU,rfl,rfl⟩:=hh;(try dsimp only at hU);rw[hU] at hres;(try rw[j9] at hres);refine Kv F5 ?_;refine⟨psC ts9 c9,⟨Kr,Kr⟩,?_⟩;rw[hres];exact⟨_,_,rfl,rfl⟩
   obtain⟨x2,ts6,hU,rfl,rfl⟩:=hh;(try dsimp only at hU);rw[hU] at hres;(try rw[j7] at hres);refine Kv F5 ?_;refine Dr F5 [.p 0, .p 1, .p 2, .p 3, .p 4, .p 5, .p 6, .p 7, .s 8 [5,7,4,6,3,2,1], .p 9, .p 10, .p 11, .s 12 [11,0,10,9]] ?_;refine Kv F5 ?_;refine⟨by simp,?_⟩;refine Kv F5 ?_;refine⟨λh1 h2=>?_,?_⟩
   . simp only[o9,i7,j8];omega
   refine Kv F5 ?_;refine⟨psC (ts6) {c with prizes:=c.prizes++[⟨d,-1,a,b⟩]}, .d (.tup []),?_,?_⟩;rotate_left 1
   . rw[hres];exact⟨rfl,rfl⟩
   repeat'(first|exact d9|exact rfl|refine d8 ?_ ?_|(exact(by simp only[D3,o5,B8])))
 . rw [c8 (by rw[h1];decide)] at hres;refine⟨psC (ts2) c,_,⟨Kr,Kr⟩,(kC (c:=c) λu=>q0 ts2 u [97,108,108] hq2.1 h1).mono ?_⟩;rintro _ O2 ⟨rfl,rfl⟩;refine Kv F5 ?_;refine⟨λ_=>?_,λh=>absurd h (by decide)⟩;refine Kv F5 ?_;refine⟨psC (ts2) c,_,⟨Kr,Kr⟩,(kR (c:=c) λu=>c6v c.categories ts2 u hq2).mono ?_⟩;intro o O2 ho;have hh:=o7 ho;clear ho;obtain hh|hh:=hh
   . obtain⟨a,e,ts9,c9,hU,rfl,rfl⟩:=hh;(try dsimp only at hU);rw[hU] at hres;(try rw[j9] at hres);refine Kv F5 ?_;refine⟨psC ts9 c9,⟨Kr,Kr⟩,?_⟩;rw[hres];exact⟨_,_,rfl,rfl⟩
   obtain⟨g,ts3,hU,rfl,rfl⟩:=hh;(try dsimp only at hU);rw[hU] at hres;(try rw[j7] at hres);refine Kv F5 ?_;have hq3:=V5 hq2 _ _ hU;refine⟨psC (ts3) c,_,⟨Kr,Kr⟩,(kR (c:=c) λu=>G4 ts3 u hq3).mono ?_⟩;intro o O2 ho;have hh:=o7 ho;clear ho;obtain hh|hh:=hh
   . obtain⟨a,e,ts9,c9,hU,rfl,rfl⟩:=hh;(try dsimp only at hU);rw[hU] at hres;(try rw[j9] at hres);refine Kv F5 ?_;refine⟨psC ts9 c9,⟨Kr,Kr⟩,?_⟩;rw[hres];exact⟨_,_,rfl,rfl⟩
   obtain⟨a,ts4,hU,rfl,rfl⟩:=hh;(try dsimp only at hU);rw[hU] at hres;(try rw[j7] at hres);refine Kv F5 ?_;have hq4:=G3 hq3 _ _ hU;refine⟨psC (ts4) c,_,⟨Kr,Kr⟩,(kR (c:=c) λu=>G4 ts4 u hq4).mono ?_⟩;intro o O2 ho;have hh:=o7 ho;clear ho;obtain hh|hh:=hh
   . obtain⟨a,e,ts9,c9,hU,rfl,rfl⟩:=hh;(try dsimp only at hU);rw[hU] at hres;(try rw[j9] at hres);refine Kv F5 ?_;refine⟨psC ts9 c9,⟨Kr,Kr⟩,?_⟩;rw[hres];exact⟨_,_,rfl,rfl⟩
   obtain⟨b,ts5,hU,rfl,rfl⟩:=hh;(try dsimp only at hU);rw[hU] at hres;(try rw[j7] at hres);refine Kv F5 ?_;have hq5:=G3 hq4 _ _ hU;refine⟨psC (ts5) c,_,⟨Kr,Kr⟩,(kR (c:=c) λu=>D1 ts5 u [59] hq5.1).mono ?_⟩;intro o O2 ho;have hh:=o7 ho;clear ho;obtain hh|hh:=hh
   . obtain⟨a,e,ts9,c9,hU,rfl,rfl⟩:=hh;(try dsimp only at hU);rw[hU] at hres;(try rw[j9] at hres);refine Kv F5 ?_;refine⟨psC ts9 c9,⟨Kr,Kr⟩,?_⟩;rw[hres];exact⟨_,_,rfl,rfl⟩
   obtain⟨x2,ts6,hU,rfl,rfl⟩:=hh;(try dsimp only at hU);rw[hU] at hres;(try rw[j7] at hres);refine Kv F5 ?_;refine Dr F5 [.p 0, .p 1, .p 2, .p 3, .p 4, .p 5, .p 6, .p 7, .s 8 [5,7,4,6,3,2,1], .p 9, .p 10, .p 11, .s 12 [11,0,10,9]] ?_;refine Kv F5 ?_;refine⟨by simp,?_⟩;refine Kv F5 ?_;refine⟨λh1 h2=>?_,?_⟩
   . simp only[o9,i7,j8];omega
   refine Kv F5 ?_;refine⟨psC (ts6) {c with prizes:=c.prizes++[⟨d,g,a,b⟩]}, .d (.tup []),?_,?_⟩;rotate_left 1
   . rw[hres];exact⟨rfl,rfl⟩
   repeat'(first|exact d9|exact rfl|refine d8 ?_ ?_|(exact(by simp only[D3,o5,B8])))
end Go.Proofs.YteillnfhkeebjaaGreatDoor.Dx
