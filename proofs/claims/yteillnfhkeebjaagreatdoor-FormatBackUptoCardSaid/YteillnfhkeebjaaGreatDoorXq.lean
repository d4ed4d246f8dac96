/- Chapter. -/
import Derived.Test.YteillnfhkeebjaaGreatDoorXp
import Derived.Test.YteillnfhkeebjaaGreatDoorXj
set_option linter.all false
namespace Go.Proofs.YteillnfhkeebjaaGreatDoor.Dx
open Go Go.RowKit
set_option maxRecDepth 100000
set_option maxHeartbeats 16000000
theorem b6z:∀k:Nat,k<=1000000000->∀j,j<=k->RdC 205 j A1/\RdC 151 j E9/\RdC 66 j condP
 | 0,_,j,hj=>by
   obtain rfl:j=0:=by omega
   exact⟨λd ts u _ _ h=>absurd (by rw[A1]) h,λd ts u _ _ h=>absurd (by rw[E9]) h,λd ts u _ _ h=>absurd (by rw[condP]) h⟩
 | k +1,hk,j,hj=>by
   have ih:=b6z k (by omega);by_cases e:j=k+1
   . subst e;exact⟨d4r k (by omega) (λj h=>(ih j h).1) (λj h=>(ih j h).2.2),c4p k (by omega) λj h=>(ih j h).1,c4m k (by omega) λj h=>(ih j h).2.1⟩
   . exact ih j (by omega)
theorem c4n (k:Nat)(hk:k<=1000000000):RdC 66 k condP:=(b6z k hk k (p0 _)).2.2
theorem b2i {ts:List Tk}{b:Int}(h:O6 ts=some b):(hdT ts).kind=1:=by
 unfold O6 at h;split at h
 . assumption
 . cases h
theorem a6E:∀k:Nat,(∀d l ts,QT ts->(y9 k d l ts).kp)/\(∀d ts,QT ts->(blockP k d ts).kp)
 |0=>⟨λd l ts h=>by rw[y9];exact a0F,λd ts h=>by rw[blockP];exact a0F⟩
 | k + 1 =>by
   have ih:=a6E k;obtain⟨h1,h2⟩:=ih;refine⟨λd l ts h=>?_,λd ts h=>?_⟩
   . rw [y9];split
     . rename_i b hb;exact n8 (v7 (h.tail (by rw[b2i hb];decide))) λ_ _ h=>h1 _ _ _ h
     . split
       . split
         . exact Y2
         . refine n8 ((a5S k).2.2.2.1 _ _ (h.isW (by assumption))) λc ts h=>n8 (h2 _ _ h) λt ts h=>?_;split
           . exact n8 (h2 _ _ (h.isW (by assumption))) λ_ _ h=>h1 _ _ _ h
           . exact h1 _ _ _ h
       . split
         . exact Y2
         . exact C3 h
   . rw[blockP];exact n8 (v7 h) λ_ _ h=>n8 (h1 _ _ _ h) λ_ _ h=>n8 (v7 h) λ_ _ h=>C3 h
abbrev stD (l:List Step):D:= .sl (l.map Step.cells)
def RdS (f:Nat)(k:Nat)(P:Nat->Nat->List Tk->Rs (List Step)):Prop:=∀(d:Nat) (ts:List Tk) (u:Nat->Value),d<=16->QT ts->P k d ts≠ .out->MR f [.loc 5000 0, .d (iD d)] (psO ts u) λo O'=>RdO stD (P k d ts) u o O'
theorem a1p (ts:List Tk)(u:Nat->Value)(he:EndsT ts):MR 158 [.loc 5000 0] (psO ts u) λo O'=>o= .ret (.d (.agg (tkC (hdT ts))))/\O'=psO ts.tail u:=by
 obtain⟨t,r,rfl⟩:=he.cons;exact b3v t r u
theorem c4X (ts:List Tk)(u:Nat->Value)(he:EndsT ts){b:Int}(h:O6 ts=some b):MR 157 [.loc 5000 0] (psO ts u) λo O'=>o= .ret (.d (.tup [iD b,bD true]))/\O'=psO ts u:=by
 obtain⟨t,r,rfl⟩:=he.cons;have hm:=b6L t r u;rw[h] at hm;exact hm
theorem c4W (ts:List Tk)(u:Nat->Value)(he:EndsT ts)(h:O6 ts=none):MR 157 [.loc 5000 0] (psO ts u) λo O'=>o= .ret (.d (.tup [iD 0,bD false]))/\O'=psO ts u:=by
 obtain⟨t,r,rfl⟩:=he.cons;have hm:=b6L t r u;rw[h] at hm;exact hm
abbrev a3A:Cfg:={rs:=[8,11,14]}
theorem c3J (k:Nat)(hs:∀j,j<=k->RdS 74 j λk d ts=>y9 k d [] ts):RdS 134 (k+1) blockP:=by
 intro d ts u hd hq hn;obtain⟨res,hres⟩:∃res,res=blockP (k+1) d ts:=⟨_,rfl⟩
 rw[<-hres] at hn⊢;rw[blockP] at hres;have he:=hq.1;refine EnR a3A Tryz.func134 Tryz.ntmps134 λ_ _ _ _ _=>?_;refine Kv a3A ?_;refine⟨psO ts u,_,⟨Kr,Kr⟩,(D1 ts u [123] he).mono ?_⟩;intro o O2 ho;have hh:=H6 ho;clear ho;obtain hh|hh:=hh
 . obtain⟨a,e,ts9,hU,rfl,rfl⟩:=hh;(try dsimp only at hU);rw[hU] at hres;(try rw[j9] at hres);refine Kv a3A ?_;refine⟨psO ts9 u,⟨Kr,Kr⟩,?_⟩;rw[hres];exact⟨_,rfl,rfl⟩
 obtain⟨x1,ts2,hU,rfl,rfl⟩:=hh;(try dsimp only at hU);rw[hU] at hres;(try rw[j7] at hres);refine Kv a3A ?_;have hq2:=v7 hq _ _ hU;have hn1:y9 k d [] ts2≠ .out:=X4 (by rw[<-hres];exact hn);refine⟨psO ts2 u,_,⟨Kr,Kr⟩,(hs k (p0 _) d ts2 u hd hq2 hn1).mono ?_⟩;intro o O2 ho;have hh:=H6 ho;clear ho;obtain hh|hh:=hh
 . obtain⟨a,e,ts9,hU,rfl,rfl⟩:=hh;(try dsimp only at hU);rw[hU] at hres;(try rw[j9] at hres);refine Kv a3A ?_;refine⟨psO ts9 u,⟨Kr,Kr⟩,?_⟩;rw[hres];exact⟨_,rfl,rfl⟩
 obtain⟨l,ts3,hU,rfl,rfl⟩:=hh;(try dsimp only at hU);rw[hU] at hres;(try rw[j7] at hres);refine Kv a3A ?_;have hq3:=(a6E k).1 _ _ _ hq2 _ _ hU;refine⟨psO ts3 u,_,⟨Kr,Kr⟩,(D1 ts3 u [125] hq3.1).mono ?_⟩;intro o O2 ho;have hh:=H6 ho;clear ho;obtain hh|hh:=hh
 . obtain⟨a,e,ts9,hU,rfl,rfl⟩:=hh;(try dsimp only at hU);rw[hU] at hres;(try rw[j9] at hres);refine Kv a3A ?_;refine⟨psO ts9 u,⟨Kr,Kr⟩,?_⟩;rw[hres];exact⟨_,rfl,rfl⟩
 obtain⟨x2,ts4,hU,rfl,rfl⟩:=hh;(try dsimp only at hU);rw[hU] at hres;(try rw[j7] at hres);refine Kv a3A ?_;refine⟨psO ts4 u, .d (stD l),?_,?_⟩;rotate_left 1
 . rw[hres];exact⟨rfl,rfl⟩
 repeat'(first|exact d9|exact rfl|refine d8 ?_ ?_)
abbrev C9:Cfg:={rs:=[10,17,20,28,31,33,35,40,43,47,58]}
theorem d2N (k:Nat)(hk:k<=1000000000)(hb:∀j,j<=k->RdS 134 j blockP):RdS 74 (k+1) λk d ts=>y9 k d [] ts:=by
 intro d ts u hd hq hn;dsimp only at hn⊢;obtain⟨res,hres⟩:∃res,res=y9 (k+1) d [] ts:=⟨_,rfl⟩
 rw[<-hres] at hn⊢;refine EnR C9 Tryz.func74 Tryz.ntmps74 λ_ _ _ _ _=>?_;refine Kv C9 ?_;refine o4 tok C9 [(.inl 4,4,75,8)] (X:=Nat×List Step×List Tk) (λs=>[(4, .own 4)]) (λs=>(4, .sl ⟨75,8,s.2.1.map Step.cells,true⟩)::psO s.2.2 u) [] (λs=>s.1<=k+1/\QT s.2.2/\res=y9 s.1 d s.2.1 s.2.2/\s.2.1.length+s.1<=k+1) (λs=>s.1) (k+1,[],ts) ?_;refine Kv C9 ?_;refine⟨by simp,?_⟩;refine Kv C9 ?_;refine d8 ?_ ⟨⟨p0 _,hq,hres,by simp⟩,λs hΦ=>?_⟩
 . exact Kr
 clear hres hq;obtain⟨j,l,ts⟩:=s;obtain⟨hj,hq,hres,hlen⟩:=hΦ;dsimp only at hj hq hres hlen;have he:=hq.1;cases j with
 |zero=>rw[y9] at hres;exact absurd hres hn
 |succ j=>
 rw[y9] at hres;refine Kv C9 ?_;cases hcr:O6 ts with
 | some b=>
   rw[hcr] at hres;dsimp only at hres;have hq1:=hq.tail (by rw[b2i hcr];decide);refine⟨psO ts u,_,⟨Kr,Kr⟩,(c4X ts u he hcr).mono ?_⟩;rintro _ O2 ⟨rfl,rfl⟩;refine Kv C9 ?_;refine⟨λ_=>?_,λh=>absurd h (by decide)⟩;refine Kv C9 ?_;refine⟨psO ts u,_,⟨Kr,Kr⟩,(a1p ts u he).mono ?_⟩;rintro _ O2 ⟨rfl,rfl⟩;refine Kv C9 ?_;refine⟨psO ts.tail u,_,⟨Kr,Kr⟩,(D1 ts.tail u [59] hq1.1).mono ?_⟩;intro o O2 ho;have hh:=H6 ho;clear ho;obtain hh|hh:=hh
   . obtain⟨a,e,ts9,hU,rfl,rfl⟩:=hh;(try dsimp only at hU);rw[hU] at hres;(try rw[j9] at hres);refine Kv C9 ?_;refine⟨psO ts9 u,⟨Kr,Kr⟩,?_⟩;rw[hres];exact⟨_,rfl,rfl⟩
   obtain⟨x1,ts2,hU,rfl,rfl⟩:=hh;(try dsimp only at hU);rw[hU] at hres;(try rw[j7] at hres);refine Kv C9 ?_;have hq2:=v7 hq1 _ _ hU;refine⟨by simp,?_⟩;refine Kv C9 ?_;refine⟨λh1 h2=>?_,?_⟩
   . simp only[o9,i7,j8];omega
   refine Kv C9 ?_;refine⟨⟨(j,l++[⟨1,b,⟨0,0,0,[]⟩,[],[]⟩],ts2),?_,⟨by dsimp only;omega,hq2,hres,by dsimp only;simp only[j6,i7,j8];omega⟩,by dsimp only;omega⟩⟩;repeat'(first|exact d9|exact rfl|refine d8 ?_ ?_|(exact(by simp only[D3,o5,B8,Step.cells_eq];try rfl)))
 | none =>
   rw[hcr] at hres;dsimp only at hres;refine⟨psO ts u,_,⟨Kr,Kr⟩,(c4W ts u he hcr).mono ?_⟩;rintro _ O2 ⟨rfl,rfl⟩;refine Kv C9 ?_;refine⟨λh=>absurd h (by decide),λ_=>?_⟩;refine Kv C9 ?_;have h1:=a1A (isW [105,102] ts);obtain h1|h1:=h1
   . rw [d4 h1] at hres;have hq1:=hq.isW h1;by_cases hdd:16<=d
     . rw[d4 hdd] at hres;refine⟨psO ts u,_,⟨Kr,Kr⟩,(a2r ts u [105,102] he h1).mono ?_⟩;rintro _ O2 ⟨rfl,rfl⟩;refine Kv C9 ?_;refine⟨psO ts u,_,⟨Kr,Kr⟩,(a7F ts u d he hdd).mono ?_⟩;rintro _ O2 ⟨rfl,rfl⟩;refine Kv C9 ?_;refine⟨psO ts u,⟨Kr,Kr⟩,?_⟩;rw[hres];exact⟨_,rfl,rfl⟩
     . rw [c8 hdd] at hres;have hdd':d<16:=by omega
       have hn1:condP j 0 ts.tail≠ .out:=X4 (by rw[<-hres];exact hn);have hcd:=c4n j (by omega) 0 ts.tail u (by omega) hq1 hn1;refine⟨psO ts u,_,⟨Kr,Kr⟩,(a2r ts u [105,102] he h1).mono ?_⟩;rintro _ O2 ⟨rfl,rfl⟩;refine Kv C9 ?_;refine⟨psO ts u,_,⟨Kr,Kr⟩,(a7H ts u d he hdd').mono ?_⟩;rintro _ O2 ⟨rfl,rfl⟩;refine Kv C9 ?_;refine⟨psO ts u,_,⟨Kr,Kr⟩,(a1p ts u he).mono ?_⟩;rintro _ O2 ⟨rfl,rfl⟩;refine Kv C9 ?_;refine⟨psO ts.tail u,_,⟨Kr,Kr⟩,(hcd).mono ?_⟩;intro o O2 ho;have hh:=H6 ho;clear ho;obtain hh|hh:=hh
       . obtain⟨a,e,ts9,hU,rfl,rfl⟩:=hh;(try dsimp only at hU);rw[hU] at hres;(try rw[j9] at hres);refine Kv C9 ?_;refine⟨psO ts9 u,⟨Kr,Kr⟩,?_⟩;rw[hres];exact⟨_,rfl,rfl⟩
       obtain⟨c,ts2,hU,rfl,rfl⟩:=hh;(try dsimp only at hU);rw[hU] at hres;(try rw[j7] at hres);refine Kv C9 ?_;have hq2:=(a5S j).2.2.2.1 _ _ hq1 _ _ hU;have hn2:blockP j (d+1) ts2≠ .out:=X4 (by rw[<-hres];exact hn);have hbd:=hb j (by omega) (d+1) ts2 u (by omega) hq2 hn2;repeat'((first|(intro hlq;try simp only[SL] at hlq)|refine K9 ?_|refine K8 ?_)<;>refine Kv C9 ?_)
       refine⟨psO ts2 u,_,⟨Kr,Kr⟩,(hbd).mono ?_⟩;intro o O2 ho;have hh:=H6 ho;clear ho;obtain hh|hh:=hh
       . obtain⟨a,e,ts9,hU,rfl,rfl⟩:=hh;(try dsimp only at hU);rw[hU] at hres;(try rw[j9] at hres);refine Kv C9 ?_;refine⟨psO ts9 u,⟨Kr,Kr⟩,?_⟩;rw[hres];exact⟨_,rfl,rfl⟩
       obtain⟨th,ts3,hU,rfl,rfl⟩:=hh;(try dsimp only at hU);rw[hU] at hres;(try rw[j7] at hres);refine Kv C9 ?_;have hq3:=(a6E j).2 _ _ hq2 _ _ hU;have h3:=a1A (isW [101,108,115,101] ts3);obtain h3|h3:=h3
       . rw [d4 h3] at hres;have hn3:blockP j (d+1) ts3.tail≠ .out:=X4 (by rw[<-hres];exact hn);have hbe:=hb j (by omega) (d+1) ts3.tail u (by omega) (hq3.isW h3) hn3;refine⟨psO ts3 u,_,⟨Kr,Kr⟩,(G7 ts3 u [101,108,115,101] hq3.1 h3).mono ?_⟩;rintro _ O2 ⟨rfl,rfl⟩;refine Kv C9 ?_;repeat'((first|(intro hlq;try simp only[SL] at hlq)|refine K9 ?_|refine K8 ?_)<;>refine Kv C9 ?_)
         refine⟨psO ts3.tail u,_,⟨Kr,Kr⟩,(hbe).mono ?_⟩;intro o O2 ho;have hh:=H6 ho;clear ho;obtain hh|hh:=hh
         . obtain⟨a,e,ts9,hU,rfl,rfl⟩:=hh;(try dsimp only at hU);rw[hU] at hres;(try rw[j9] at hres);refine Kv C9 ?_;refine⟨psO ts9 u,⟨Kr,Kr⟩,?_⟩;rw[hres];exact⟨_,rfl,rfl⟩
         obtain⟨el,ts4,hU,rfl,rfl⟩:=hh;(try dsimp only at hU);rw[hU] at hres;(try rw[j7] at hres);refine Kv C9 ?_;have hq4:=(a6E j).2 _ _ (hq3.isW h3) _ _ hU;refine⟨by simp,?_⟩;refine Kv C9 ?_;refine⟨λh1 h2=>?_,?_⟩
         . simp only[o9,i7,j8];omega
         refine Kv C9 ?_;refine⟨⟨(j,l++[⟨2,0,c,th,el⟩],ts4),?_,⟨by dsimp only;omega,hq4,hres,by dsimp only;simp only[j6,i7,j8];omega⟩,by dsimp only;omega⟩⟩;repeat'(first|exact d9|exact rfl|refine d8 ?_ ?_|(exact(by simp only[D3,o5,B8,Step.cells_eq];try rfl)))
       . rw [c8 (by rw[h3];decide)] at hres;refine⟨psO ts3 u,_,⟨Kr,Kr⟩,(q0 ts3 u [101,108,115,101] hq3.1 h3).mono ?_⟩;rintro _ O2 ⟨rfl,rfl⟩;refine Kv C9 ?_;refine⟨by simp,?_⟩;refine Kv C9 ?_;refine⟨λh1 h2=>?_,?_⟩
         . simp only[o9,i7,j8];omega
         refine Kv C9 ?_;refine⟨⟨(j,l++[⟨2,0,c,th,[]⟩],ts3),?_,⟨by dsimp only;omega,hq3,hres,by dsimp only;simp only[j6,i7,j8];omega⟩,by dsimp only;omega⟩⟩;repeat'(first|exact d9|exact rfl|refine d8 ?_ ?_|(exact(by simp only[D3,o5,B8,Step.cells_eq];try rfl)))
   . rw [c8 (by rw[h1];decide)] at hres;refine⟨psO ts u,_,⟨Kr,Kr⟩,(X3 ts u [105,102] he h1).mono ?_⟩;rintro _ O2 ⟨rfl,rfl⟩;refine Kv C9 ?_;repeat'((first|(intro hlq;try simp only[SL] at hlq)|refine K9 ?_|refine K8 ?_)<;>refine Kv C9 ?_)
     refine⟨λh4=>?_,λh4=>?_⟩<;>(try simp only[BL] at h4)<;>refine Kv C9 ?_
     . have hl:l=[]:=by
        cases l with
        |nil=>rfl
        |cons x xs=>simp at h4;omega
       rw[d4 hl] at hres;refine⟨psO ts u,_,⟨Kr,Kr⟩,(T9 ts u 60 he).mono ?_⟩;rintro _ O2 ⟨rfl,rfl⟩;refine Kv C9 ?_;refine⟨psO ts u,⟨Kr,Kr⟩,?_⟩;rw[hres];exact⟨_,rfl,rfl⟩
     . have hl:l≠[]:=by
        rintro rfl;exact h4 (by simp)
       rw[c8 hl] at hres;refine⟨psO ts u, .d (stD l),?_,?_⟩;rotate_left 1
       . rw[hres];exact⟨rfl,rfl⟩
       repeat'(first|exact d9|exact rfl|refine d8 ?_ ?_)
theorem c0t:∀k:Nat,k<=1000000000->∀j,j<=k->RdS 74 j (λk d ts=>y9 k d [] ts)/\RdS 134 j blockP
 | 0,_,j,hj=>by
   obtain rfl:j=0:=by omega
   exact⟨λd ts u _ _ h=>absurd (by show y9 0 d [] ts=_;rw[y9]) h,λd ts u _ _ h=>absurd (by rw[blockP]) h⟩
 | k +1,hk,j,hj=>by
   have ih:=c0t k (by omega);by_cases e:j=k+1
   . subst e;exact⟨d2N k (by omega) λj h=>(ih j h).2,c3J k λj h=>(ih j h).1⟩
   . exact ih j (by omega)
theorem b3E:∀(k:Nat) (t:List UInt8),t.length<=k->∀s n,B9 t=some (s,n)->s.length<=t.length
 |k,[],_,s,n,h=>by cases h
 |0,c::t,hk,_,_,_=>by simp at hk
 | k + 1, c::t,hk,s,n,h=>by
   unfold B9 at h;simp only[i7] at hk⊢;split at h
   . cases h;simp
   split at h
   . cases h
   split at h
   . match t,h,hk with
     |[],h,_=>cases h
     | d ::t,h,hk=>
       simp only[i7] at hk⊢;simp only at h;split at h
       . split at h
         . rename_i s' n' hq;cases h;have:=b3E k t (by omega) _ _ hq;simp only[i7];omega
         . cases h
       . cases h
   . split at h
     . rename_i s' n' hq;cases h;have:=b3E k t (by omega) _ _ hq;simp only[i7];omega
     . cases h
theorem d0R (c:UInt8)(t:List UInt8):(C4 (c::t)).2.1.length<=t.length+1/\((C4 (c::t)).1=2->Y1 (C4 (c::t)).2.1=true):=by
 have h1:=a5b false t;have h2:=a5b true t;simp only[C4];split
 . exact⟨by simp;omega,by simp⟩
 split
 . unfold a1n;split
   . exact⟨by simp;omega,λ_=>by assumption⟩
   split
   . exact⟨by simp;omega,by simp⟩
   . exact⟨by simp,by simp⟩
 split
 . split
   . rename_i s n hq;have:=b3E _ t (p0 _) _ _ hq;exact⟨by dsimp only;omega,by simp⟩
   . exact⟨by simp,by simp⟩
 split
 . exact⟨by simp;omega,by simp⟩
 split<;>exact⟨by simp,by simp⟩
theorem d2I (c:UInt8)(t:List UInt8):(w7 (c::t)).2.1.length<=t.length+1/\((w7 (c::t)).1=2->Y1 (w7 (c::t)).2.1=true):=by
 simp only[w7];split
 . exact⟨by simp,by simp⟩
 split
 . exact⟨by simp,by simp⟩
 . exact d0R c t
theorem b4v:∀(k:Nat) (r:List UInt8) (a:Nat),r.length<=k->(∀x∈toks r a,x.text.length<=r.length/\(x.kind=2->Y1 x.text=true))/\(toks r a).length<=r.length+1
 | _,[],a,_=>by
   rw[c0S];refine⟨λx hx=>?_,by simp⟩;obtain rfl:=I4.1 hx;exact⟨by simp,by simp⟩
 |0,c::t,_,h=>by simp at h
 | k + 1,c::t,a,h=>by
   have h1:=a5f c t;have h2:=d2I c t;simp only[i7] at h⊢;have ih:=b4v k ((c::t).drop (w7 (c::t)).2.2) (a+(w7 (c::t)).2.2) (by rw[K2,i7];omega);rw[K2,i7] at ih;rw[a8O];split
   . refine ⟨λx hx=>?_,by simp only[i7];omega⟩;rcases p8.1 hx with rfl|hx
     . exact h2
     . have:=ih.1 x hx;exact⟨by omega,this.2⟩
   . exact⟨λx hx=>by have:=ih.1 x hx;exact⟨by omega,this.2⟩,by omega⟩
theorem c7r {s:List UInt8}(h:Y1 s=true):s.head?=some 45\/(s≠[]/\s.all p4=true):=by
 by_cases e:∃r,s=45::r
 . obtain⟨r,rfl⟩:=e;exact .inl rfl
 . rw[b2N λr hr=>e ⟨r,hr⟩] at h;have:=a4W h;exact .inr ⟨this.2,this.1⟩
theorem d3T (src:List UInt8)(hl:src.length<=65536):QT (toks src 0):=by
 obtain⟨i,hi,_⟩:=c0R _ src 0 (p0 _);refine⟨⟨i,_,hi⟩,λt ht=>?_⟩;have:=(b4v _ src 0 (p0 _)).1 t ht;exact⟨by omega,λh=>c7r (this.2 h)⟩
theorem d3U (src:List UInt8):(toks src 0).length<=src.length+1:=(b4v _ src 0 (p0 _)).2
theorem c0v (n:Nat):(∀k d l ts,ts.length<=n->5*n+1<=k->(y9 k d l ts).short n)/\(∀k d ts,ts.length<=n->5*n+1<=k->(blockP k d ts).short n):=by
 have ih:∀m,m+1=n->(∀k d l ts,ts.length<=m->5*m+1<=k->(y9 k d l ts).short m)/\(∀k d ts,ts.length<=m->5*m+1<=k->(blockP k d ts).short m):=λm hm=>c0v m;have up:∀{α:Type} {r:Rs α} {m:Nat},m+1=n->r.short m->r.short n:=λhm h=>⟨h.1,λa ts e=>by have:=h.2 a ts e;omega⟩
 refine⟨λk d l ts hts hk=>?_,λk d ts hts hk=>?_⟩
 . obtain ⟨k,rfl⟩:∃j,k=j+1:=⟨k-1,by omega⟩
   rw[y9];split
   . rename_i b hb;have hne:ts≠[]:=by
      rintro rfl;have:=b2i hb;simp[hdT] at this
     obtain⟨t,r,rfl⟩:=a2m hne;obtain⟨m,hm⟩:∃m,m+1=n:=⟨n-1,by simp at hts;omega⟩
     simp only[i7] at hts;exact up hm ((D2 (n:=m) (by simp only[List.tail_cons];omega)).bind λ_ _ h=>(ih m hm).1 k d _ _ h (by omega))
   split
   . rename_i q;have hlen:=a2C q;obtain⟨m,hm⟩:∃m,m+1=n:=⟨n-1,by omega⟩
     split
     . exact T8
     . refine up hm (((b6A m).2.2.2.1 k 0 ts.tail (by omega) (by omega)).bind λc ts2 h2=>((ih m hm).2 k (d+1) ts2 h2 (by omega)).bind λt ts3 h3=>?_);split
       . exact((ih m hm).2 k (d+1) _ (by rw[a0q];omega) (by omega)).bind λ_ _ h=>(ih m hm).1 k d _ _ h (by omega)
       . exact(ih m hm).1 k d _ _ h3 (by omega)
   split
   . exact T8
   . exact .ok hts
 . obtain ⟨k,rfl⟩:∃j,k=j+1:=⟨k-1,by omega⟩
   rw[blockP];cases n with
   | zero=>
     have:ts=[]:=C8 (by omega);subst this;exact T8
   |succ m=>exact up rfl ((D2 (n:=m) hts).bind λ_ _ h=>((ih m rfl).1 k d _ _ h (by omega)).bind λ_ _ h=>(D2 (by omega)).bind λ_ _ h=> .ok h)
termination_by n
decreasing_by omega
def FU:Nat:=400000
def b5T {α:Type}(z:α)(r:Rs α):α×Int×Int:=match r with
 | .ok v ts=>if(hdT ts).kind=6 then(v,0,0) else(z,((hdT ts).at_:Int),60)
 | .er a e=>(z,(a:Int),e)
 | .out=>(z,0,0)
def b3z {α:Type}(z:α)(P:List Tk->Rs α)(src:List UInt8):α×Int×Int:=match bads src 0 (-1) 0 with
 |b::_=>(z,(b:Int),50)
 |[]=>b5T z (P (toks src 0))
abbrev pcO (ts:List Tk)(cs:List Base)(X:List (Nat×Blk)):List (Nat×Blk):=(5000, .box (.d (.sl (ts.map tkC))::cs) 206)::X
def RdP {α:Type}(f:α->D)(r:Rs α)(cs:List Base)(X:List (Nat×Blk))(o:Out)(O':List (Nat×Blk)):Prop:=match r with
 | .ok a ts=>o= .ret (.d (f a))/\O'=pcO ts cs X
 | .er a e=>∃ts',o= .pan (.iface 203 (.agg [iD (a:Int),iD e]))/\O'=pcO ts' cs X
 | .out=>False
theorem b9R (us:List Value)(h:us.length=16):rrB (λi=>us.getD i undef)=us.map I8:=by
 match us,h with
 |[_,_,_,_,_,_,_,_,_,_,_,_,_,_,_,_],_=>rfl
theorem b8l {F:Nat}{args:List Base}{ts:List Tk}{cs:List Base}{X:List (Nat×Blk)}{R:Out->List Tk->Prop}(hc:cs.length=16)
 (h:∀u,MR F args (psO ts u) λo O'=>∃ts',O'=psO ts' u/\R o ts') (hR:∀o ts',R o ts'->(∃d,o= .ret (.d d))\/∃d,o= .pan d):
 MR F args (pcO ts cs X) λo O'=>∃ts',O'=pcO ts' cs X/\R o ts':=by
 have hk:=c2w (P:=Tryz.prog) (F:=F) (args:=args) (n:=5000) (l:= .sl (ts.map tkC)) (cs:=cs) (ty:=206) (X:=X) (R:=λo l'=>∃ts',l'= .sl (ts'.map tkC)/\R o ts') (λus hus=>by
  have h1:=h λi=>us.getD i undef;unfold psO at h1;rw[b9R us (hus.trans hc)] at h1;refine h1.mono ?_;rintro o O' ⟨ts',rfl,hr⟩;refine⟨.sl (ts'.map tkC),?_,ts',rfl,hr⟩;rw[<-b9R us (hus.trans hc)]) (λo l' ⟨ts',_,hr⟩=>hR o ts' hr)
 refine hk.mono ?_;rintro o O' ⟨l',rfl,ts',rfl,hr⟩;exact⟨ts',rfl,hr⟩
theorem c7K {α:Type}{F:Nat}{args:List Base}{ts:List Tk}{cs:List Base}{X:List (Nat×Blk)}{f:α->D}{r:Rs α}(hc:cs.length=16)
 (h:∀u,MR F args (psO ts u) λo O'=>RdO f r u o O'):MR F args (pcO ts cs X) λo O'=>RdP f r cs X o O':=by
 refine(b8l (R:=λo ts'=>match r with| .ok a ts=>o= .ret (.d (f a))/\ts'=ts| .er a e=>o= .pan (.iface 203 (.agg [iD (a:Int),iD e]))| .out=>False) hc (λu=>(h u).mono λo O' ho=>?_) λo ts' hr=>?_).mono ?_
 . cases r with
   |ok a ts=>exact⟨ts,ho.2,ho.1,rfl⟩
   |er a e=>obtain⟨ts',h1,h2⟩:=ho;exact⟨ts',h2,h1⟩
   |out=>exact ho.elim
 . cases r with
   |ok a ts=>exact .inl ⟨_,hr.1⟩
   |er a e=>exact .inr ⟨_,hr⟩
   |out=>exact hr.elim
 . rintro o O' ⟨ts',rfl,hr⟩;cases r with
   |ok a ts=>exact⟨hr.1,by rw[hr.2]⟩
   |er a e=>exact⟨ts',hr,rfl⟩
   |out=>exact hr.elim
theorem b8k {F:Nat}{args:List Base}{ts ts':List Tk}{cs:List Base}{X:List (Nat×Blk)}{o0:Out}(hc:cs.length=16)(ho:(∃d,o0= .ret (.d d))\/∃d,o0= .pan d)
 (h:∀u,MR F args (psO ts u) λo O'=>o=o0/\O'=psO ts' u):MR F args (pcO ts cs X) λo O'=>o=o0/\O'=pcO ts' cs X:=by
 refine(b8l (R:=λo t=>o=o0/\t=ts') hc (λu=>(h u).mono λo O' hh=>⟨ts',hh.2,hh.1,rfl⟩) λo t hr=>?_).mono ?_
 . obtain⟨rfl,_⟩:=hr;exact ho
 . rintro o O' ⟨t,rfl,h1,rfl⟩;exact⟨h1,rfl⟩
theorem b8Z (ts:List Tk)(u:Nat->Value)(he:EndsT ts):MR 122 [.loc 5000 0] (psO ts u) λo O'=>o= .ret (.d (.agg (tkC (hdT ts))))/\O'=psO ts u:=by
 obtain⟨t,r,rfl⟩:=he.cons;exact V8 t r u
end Go.Proofs.YteillnfhkeebjaaGreatDoor.Dx
