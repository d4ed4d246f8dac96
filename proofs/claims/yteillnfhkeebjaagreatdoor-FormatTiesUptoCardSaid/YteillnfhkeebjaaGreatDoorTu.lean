/- Chapter 06: conditions,steps,blocks. -/
import Derived.Test.YteillnfhkeebjaaGreatDoorTt
import Derived.Test.YteillnfhkeebjaaGreatDoorTq
set_option linter.all false
namespace Go.Proofs.YteillnfhkeebjaaGreatDoor.Dx
open Go Go.RowKit
set_option maxRecDepth 100000
set_option maxHeartbeats 16000000
theorem a9S:∀k:Nat,k<=1000000000->∀j,j<=k->RdC 205 j j5/\RdC 151 j o7/\RdC 66 j condP
 | 0,_,j,hj=>by
   obtain rfl:j=0:=by omega
   exact⟨λd ts u _ _ h=>absurd (by rw[j5]) h,λd ts u _ _ h=>absurd (by rw[o7]) h,λd ts u _ _ h=>absurd (by rw[condP]) h⟩
 | k +1,hk,j,hj=>by
   have ih:=a9S k (by omega)
   by_cases e:j=k+1
   . subst e
     exact⟨c4a k (by omega) (λj h=>(ih j h).1) (λj h=>(ih j h).2.2),b6x k (by omega) λj h=>(ih j h).1,b6s k (by omega) λj h=>(ih j h).2.1⟩
   . exact ih j (by omega)
theorem a9U (k:Nat)(hk:k<=1000000000):RdC 66 k condP:=(a9S k hk k (Nat.le_refl _)).2.2
theorem a5X {ts:List Tk}{b:Int}(h:A2 ts=some b):(hdT ts).kind=1:=by
 unfold A2 at h
 split at h
 . assumption
 . cases h
theorem a2I:∀k:Nat,(∀d l ts,QT ts->(g8 k d l ts).kp)/\(∀d ts,QT ts->(blockP k d ts).kp)
 |0=>⟨λd l ts h=>by rw[g8];exact T8,λd ts h=>by rw[blockP];exact T8⟩
 | k + 1 =>by
   have ih:=a2I k
   obtain⟨h1,h2⟩:=ih
   refine⟨λd l ts h=>?_,λd ts h=>?_⟩
   . rw [g8]
     split
     . rename_i b hb
       exact D6 (a0M (h.tail (by rw[a5X hb];decide))) λ_ _ h=>h1 _ _ _ h
     . split
       . split
         . exact T7
         . refine D6 ((X3 k).2.2.2.1 _ _ (h.isW (by assumption))) λc ts h=>D6 (h2 _ _ h) λt ts h=>?_
           split
           . exact D6 (h2 _ _ (h.isW (by assumption))) λ_ _ h=>h1 _ _ _ h
           . exact h1 _ _ _ h
       . split
         . exact T7
         . exact Q0 h
   . rw[blockP]
     exact D6 (a0M h) λ_ _ h=>D6 (h1 _ _ _ h) λ_ _ h=>D6 (a0M h) λ_ _ h=>Q0 h
abbrev stD (l:List Step):D:= .sl (l.map Step.cells)
def RdS (f:Nat)(k:Nat)(P:Nat->Nat->List Tk->Rs (List Step)):Prop:=∀(d:Nat) (ts:List Tk) (u:Nat->Value),d<=16->QT ts->P k d ts≠ .out->MeetsR Tryz.prog f [.loc 5000 0, .d (iD d)] (psO ts u) λo O'=>RdO stD (P k d ts) u o O'
theorem b2v (ts:List Tk)(u:Nat->Value)(he:EndsT ts):MeetsR Tryz.prog 158 [.loc 5000 0] (psO ts u) λo O'=>o= .ret (.d (.agg (tkC (hdT ts))))/\O'=psO ts.tail u:=by
 obtain⟨t,r,rfl⟩:=he.cons
 exact a7g t r u
theorem b6U (ts:List Tk)(u:Nat->Value)(he:EndsT ts){b:Int}(h:A2 ts=some b):MeetsR Tryz.prog 157 [.loc 5000 0] (psO ts u) λo O'=>o= .ret (.d (.tup [iD b,bD true]))/\O'=psO ts u:=by
 obtain⟨t,r,rfl⟩:=he.cons
 have hm:=a9X t r u
 rw[h] at hm
 exact hm
theorem b6T (ts:List Tk)(u:Nat->Value)(he:EndsT ts)(h:A2 ts=none):MeetsR Tryz.prog 157 [.loc 5000 0] (psO ts u) λo O'=>o= .ret (.d (.tup [iD 0,bD false]))/\O'=psO ts u:=by
 obtain⟨t,r,rfl⟩:=he.cons
 have hm:=a9X t r u
 rw[h] at hm
 exact hm
abbrev T0:Cfg:={rs:=[8,11,14]}
theorem b5S (k:Nat)(hs:∀j,j<=k->RdS 74 j λk d ts=>g8 k d [] ts):RdS 134 (k+1) blockP:=by
 intro d ts u hd hq hn
 obtain⟨res,hres⟩:∃res,res=blockP (k+1) d ts:=⟨_,rfl⟩
 rw[<-hres] at hn⊢
 rw[blockP] at hres
 have he:=hq.1
 refine m9 tok T0 Tryz.func134 rfl (by kernel_rfl) Tryz.ntmps134 (by simp) λB0 W0 V0 lent g0=>?_
 refine Kv T0 ?_
 refine⟨psO ts u,_,⟨?_,?_⟩,(a4l ts u [123] he).mono ?_⟩
 . exact Kr
 . exact Kr
 intro o O2 ho
 have hh:=r6 ho
 clear ho
 obtain hh|hh:=hh
 . obtain⟨a,e,ts9,hU,rfl,rfl⟩:=hh
   (try dsimp only at hU)
   rw[hU] at hres
   (try rw[Rs.bind_er] at hres)
   refine Kv T0 ?_
   refine⟨psO ts9 u,⟨?_,?_⟩,?_⟩
   . exact Kr
   . exact Kr
   rw[hres]
   exact⟨_,rfl,rfl⟩
 obtain⟨x1,ts2,hU,rfl,rfl⟩:=hh
 (try dsimp only at hU)
 rw[hU] at hres
 (try rw[Rs.bind_ok] at hres)
 refine Kv T0 ?_
 have hq2:=a0M hq _ _ hU
 have hn1:g8 k d [] ts2≠ .out:=S9 (by rw[<-hres];exact hn)
 refine⟨psO ts2 u,_,⟨?_,?_⟩,(hs k (Nat.le_refl _) d ts2 u hd hq2 hn1).mono ?_⟩
 . exact Kr
 . exact Kr
 intro o O2 ho
 have hh:=r6 ho
 clear ho
 obtain hh|hh:=hh
 . obtain⟨a,e,ts9,hU,rfl,rfl⟩:=hh
   (try dsimp only at hU)
   rw[hU] at hres
   (try rw[Rs.bind_er] at hres)
   refine Kv T0 ?_
   refine⟨psO ts9 u,⟨?_,?_⟩,?_⟩
   . exact Kr
   . exact Kr
   rw[hres]
   exact⟨_,rfl,rfl⟩
 obtain⟨l,ts3,hU,rfl,rfl⟩:=hh
 (try dsimp only at hU)
 rw[hU] at hres
 (try rw[Rs.bind_ok] at hres)
 refine Kv T0 ?_
 have hq3:=(a2I k).1 _ _ _ hq2 _ _ hU
 refine⟨psO ts3 u,_,⟨?_,?_⟩,(a4l ts3 u [125] hq3.1).mono ?_⟩
 . exact Kr
 . exact Kr
 intro o O2 ho
 have hh:=r6 ho
 clear ho
 obtain hh|hh:=hh
 . obtain⟨a,e,ts9,hU,rfl,rfl⟩:=hh
   (try dsimp only at hU)
   rw[hU] at hres
   (try rw[Rs.bind_er] at hres)
   refine Kv T0 ?_
   refine⟨psO ts9 u,⟨?_,?_⟩,?_⟩
   . exact Kr
   . exact Kr
   rw[hres]
   exact⟨_,rfl,rfl⟩
 obtain⟨x2,ts4,hU,rfl,rfl⟩:=hh
 (try dsimp only at hU)
 rw[hU] at hres
 (try rw[Rs.bind_ok] at hres)
 refine Kv T0 ?_
 refine⟨psO ts4 u, .d (stD l),?_,?_⟩
 rotate_left 1
 . rw[hres]
   exact⟨rfl,rfl⟩
 repeat'(first|exact True.intro|exact rfl|refine And.intro ?_ ?_)
abbrev m8:Cfg:={rs:=[10,17,20,28,31,33,35,40,43,47,58]}
theorem c2V (k:Nat)(hk:k<=1000000000)(hb:∀j,j<=k->RdS 134 j blockP):RdS 74 (k+1) λk d ts=>g8 k d [] ts:=by
 intro d ts u hd hq hn
 dsimp only at hn⊢
 obtain⟨res,hres⟩:∃res,res=g8 (k+1) d [] ts:=⟨_,rfl⟩
 rw[<-hres] at hn⊢
 refine m9 tok m8 Tryz.func74 rfl (by kernel_rfl) Tryz.ntmps74 (by simp) λB0 W0 V0 lent g0=>?_
 refine Kv m8 ?_
 refine d4 tok m8 [(.inl 4,4,75,8)] (X:=Nat×List Step×List Tk) (λs=>[(4, .own 4)]) (λs=>(4, .sl ⟨75,8,s.2.1.map Step.cells,true⟩)::psO s.2.2 u) [] (λs=>s.1<=k+1/\QT s.2.2/\res=g8 s.1 d s.2.1 s.2.2/\s.2.1.length+s.1<=k+1) (λs=>s.1) (k+1,[],ts) ?_
 refine Kv m8 ?_
 refine⟨by simp,?_⟩
 refine Kv m8 ?_
 refine And.intro ?_ ⟨⟨Nat.le_refl _,hq,hres,by simp⟩,λs hΦ=>?_⟩
 . exact Kr
 clear hres hq
 obtain⟨j,l,ts⟩:=s
 obtain⟨hj,hq,hres,hlen⟩:=hΦ
 dsimp only at hj hq hres hlen
 have he:=hq.1
 cases j with
 |zero=>rw[g8] at hres;exact absurd hres hn
 |succ j=>
 rw[g8] at hres
 refine Kv m8 ?_
 cases hcr:A2 ts with
 | some b=>
   rw[hcr] at hres
   dsimp only at hres
   have hq1:=hq.tail (by rw[a5X hcr];decide)
   refine⟨psO ts u,_,⟨?_,?_⟩,(b6U ts u he hcr).mono ?_⟩
   . exact Kr
   . exact Kr
   rintro _ O2 ⟨rfl,rfl⟩
   refine Kv m8 ?_
   refine⟨λ_=>?_,λh=>absurd h (by decide)⟩
   refine Kv m8 ?_
   refine⟨psO ts u,_,⟨?_,?_⟩,(b2v ts u he).mono ?_⟩
   . exact Kr
   . exact Kr
   rintro _ O2 ⟨rfl,rfl⟩
   refine Kv m8 ?_
   refine⟨psO ts.tail u,_,⟨?_,?_⟩,(a4l ts.tail u [59] hq1.1).mono ?_⟩
   . exact Kr
   . exact Kr
   intro o O2 ho
   have hh:=r6 ho
   clear ho
   obtain hh|hh:=hh
   . obtain⟨a,e,ts9,hU,rfl,rfl⟩:=hh
     (try dsimp only at hU)
     rw[hU] at hres
     (try rw[Rs.bind_er] at hres)
     refine Kv m8 ?_
     refine⟨psO ts9 u,⟨?_,?_⟩,?_⟩
     . exact Kr
     . exact Kr
     rw[hres]
     exact⟨_,rfl,rfl⟩
   obtain⟨x1,ts2,hU,rfl,rfl⟩:=hh
   (try dsimp only at hU)
   rw[hU] at hres
   (try rw[Rs.bind_ok] at hres)
   refine Kv m8 ?_
   have hq2:=a0M hq1 _ _ hU
   refine⟨by simp,?_⟩
   refine Kv m8 ?_
   refine⟨λh1 h2=>?_,?_⟩
   . simp only[List.length_map,List.length_cons,List.length_nil]
     omega
   refine Kv m8 ?_
   refine⟨⟨(j,l++[⟨1,b,⟨0,0,0,[]⟩,[],[]⟩],ts2),?_,⟨by dsimp only;omega,hq2,hres,by dsimp only;simp only[List.length_append,List.length_cons,List.length_nil];omega⟩,by dsimp only;omega⟩⟩
   repeat'(first|exact True.intro|exact rfl|refine And.intro ?_ ?_|(exact(by simp only[List.map_append,List.map_cons,List.map_nil,Step.cells_eq];try rfl)))
 | none =>
   rw[hcr] at hres
   dsimp only at hres
   refine⟨psO ts u,_,⟨?_,?_⟩,(b6T ts u he hcr).mono ?_⟩
   . exact Kr
   . exact Kr
   rintro _ O2 ⟨rfl,rfl⟩
   refine Kv m8 ?_
   refine⟨λh=>absurd h (by decide),λ_=>?_⟩
   refine Kv m8 ?_
   have h1:=Bool.eq_false_or_eq_true (isW [105,102] ts)
   obtain h1|h1:=h1
   . rw [if_pos h1] at hres
     have hq1:=hq.isW h1
     by_cases hdd:16<=d
     . rw[if_pos hdd] at hres
       refine⟨psO ts u,_,⟨?_,?_⟩,(a0m ts u [105,102] he h1).mono ?_⟩
       . exact Kr
       . exact Kr
       rintro _ O2 ⟨rfl,rfl⟩
       refine Kv m8 ?_
       refine⟨psO ts u,_,⟨?_,?_⟩,(a5Z ts u d he hdd).mono ?_⟩
       . exact Kr
       . exact Kr
       rintro _ O2 ⟨rfl,rfl⟩
       refine Kv m8 ?_
       refine⟨psO ts u,⟨?_,?_⟩,?_⟩
       . exact Kr
       . exact Kr
       rw[hres]
       exact⟨_,rfl,rfl⟩
     . rw [if_neg hdd] at hres
       have hdd':d<16:=by omega
       have hn1:condP j 0 ts.tail≠ .out:=S9 (by rw[<-hres];exact hn)
       have hcd:=a9U j (by omega) 0 ts.tail u (by omega) hq1 hn1
       refine⟨psO ts u,_,⟨?_,?_⟩,(a0m ts u [105,102] he h1).mono ?_⟩
       . exact Kr
       . exact Kr
       rintro _ O2 ⟨rfl,rfl⟩
       refine Kv m8 ?_
       refine⟨psO ts u,_,⟨?_,?_⟩,(a6a ts u d he hdd').mono ?_⟩
       . exact Kr
       . exact Kr
       rintro _ O2 ⟨rfl,rfl⟩
       refine Kv m8 ?_
       refine⟨psO ts u,_,⟨?_,?_⟩,(b2v ts u he).mono ?_⟩
       . exact Kr
       . exact Kr
       rintro _ O2 ⟨rfl,rfl⟩
       refine Kv m8 ?_
       refine⟨psO ts.tail u,_,⟨?_,?_⟩,(hcd).mono ?_⟩
       . exact Kr
       . exact Kr
       intro o O2 ho
       have hh:=r6 ho
       clear ho
       obtain hh|hh:=hh
       . obtain⟨a,e,ts9,hU,rfl,rfl⟩:=hh
         (try dsimp only at hU)
         rw[hU] at hres
         (try rw[Rs.bind_er] at hres)
         refine Kv m8 ?_
         refine⟨psO ts9 u,⟨?_,?_⟩,?_⟩
         . exact Kr
         . exact Kr
         rw[hres]
         exact⟨_,rfl,rfl⟩
       obtain⟨c,ts2,hU,rfl,rfl⟩:=hh
       (try dsimp only at hU)
       rw[hU] at hres
       (try rw[Rs.bind_ok] at hres)
       refine Kv m8 ?_
       have hq2:=(X3 j).2.2.2.1 _ _ hq1 _ _ hU
       have hn2:blockP j (d+1) ts2≠ .out:=S9 (by rw[<-hres];exact hn)
       have hbd:=hb j (by omega) (d+1) ts2 u (by omega) hq2 hn2
       repeat'((first|(intro hlq;try simp only[SL] at hlq)|refine K9 ?_|refine K8 ?_)<;>refine Kv m8 ?_)
       refine⟨psO ts2 u,_,⟨?_,?_⟩,(hbd).mono ?_⟩
       . exact Kr
       . exact Kr
       intro o O2 ho
       have hh:=r6 ho
       clear ho
       obtain hh|hh:=hh
       . obtain⟨a,e,ts9,hU,rfl,rfl⟩:=hh
         (try dsimp only at hU)
         rw[hU] at hres
         (try rw[Rs.bind_er] at hres)
         refine Kv m8 ?_
         refine⟨psO ts9 u,⟨?_,?_⟩,?_⟩
         . exact Kr
         . exact Kr
         rw[hres]
         exact⟨_,rfl,rfl⟩
       obtain⟨th,ts3,hU,rfl,rfl⟩:=hh
       (try dsimp only at hU)
       rw[hU] at hres
       (try rw[Rs.bind_ok] at hres)
       refine Kv m8 ?_
       have hq3:=(a2I j).2 _ _ hq2 _ _ hU
       have h3:=Bool.eq_false_or_eq_true (isW [101,108,115,101] ts3)
       obtain h3|h3:=h3
       . rw [if_pos h3] at hres
         have hn3:blockP j (d+1) ts3.tail≠ .out:=S9 (by rw[<-hres];exact hn)
         have hbe:=hb j (by omega) (d+1) ts3.tail u (by omega) (hq3.isW h3) hn3
         refine⟨psO ts3 u,_,⟨?_,?_⟩,(x9 ts3 u [101,108,115,101] hq3.1 h3).mono ?_⟩
         . exact Kr
         . exact Kr
         rintro _ O2 ⟨rfl,rfl⟩
         refine Kv m8 ?_
         repeat'((first|(intro hlq;try simp only[SL] at hlq)|refine K9 ?_|refine K8 ?_)<;>refine Kv m8 ?_)
         refine⟨psO ts3.tail u,_,⟨?_,?_⟩,(hbe).mono ?_⟩
         . exact Kr
         . exact Kr
         intro o O2 ho
         have hh:=r6 ho
         clear ho
         obtain hh|hh:=hh
         . obtain⟨a,e,ts9,hU,rfl,rfl⟩:=hh
           (try dsimp only at hU)
           rw[hU] at hres
           (try rw[Rs.bind_er] at hres)
           refine Kv m8 ?_
           refine⟨psO ts9 u,⟨?_,?_⟩,?_⟩
           . exact Kr
           . exact Kr
           rw[hres]
           exact⟨_,rfl,rfl⟩
         obtain⟨el,ts4,hU,rfl,rfl⟩:=hh
         (try dsimp only at hU)
         rw[hU] at hres
         (try rw[Rs.bind_ok] at hres)
         refine Kv m8 ?_
         have hq4:=(a2I j).2 _ _ (hq3.isW h3) _ _ hU
         refine⟨by simp,?_⟩
         refine Kv m8 ?_
         refine⟨λh1 h2=>?_,?_⟩
         . simp only[List.length_map,List.length_cons,List.length_nil]
           omega
         refine Kv m8 ?_
         refine⟨⟨(j,l++[⟨2,0,c,th,el⟩],ts4),?_,⟨by dsimp only;omega,hq4,hres,by dsimp only;simp only[List.length_append,List.length_cons,List.length_nil];omega⟩,by dsimp only;omega⟩⟩
         repeat'(first|exact True.intro|exact rfl|refine And.intro ?_ ?_|(exact(by simp only[List.map_append,List.map_cons,List.map_nil,Step.cells_eq];try rfl)))
       . rw [if_neg (by rw[h3];decide)] at hres
         refine⟨psO ts3 u,_,⟨?_,?_⟩,(g7 ts3 u [101,108,115,101] hq3.1 h3).mono ?_⟩
         . exact Kr
         . exact Kr
         rintro _ O2 ⟨rfl,rfl⟩
         refine Kv m8 ?_
         refine⟨by simp,?_⟩
         refine Kv m8 ?_
         refine⟨λh1 h2=>?_,?_⟩
         . simp only[List.length_map,List.length_cons,List.length_nil]
           omega
         refine Kv m8 ?_
         refine⟨⟨(j,l++[⟨2,0,c,th,[]⟩],ts3),?_,⟨by dsimp only;omega,hq3,hres,by dsimp only;simp only[List.length_append,List.length_cons,List.length_nil];omega⟩,by dsimp only;omega⟩⟩
         repeat'(first|exact True.intro|exact rfl|refine And.intro ?_ ?_|(exact(by simp only[List.map_append,List.map_cons,List.map_nil,Step.cells_eq];try rfl)))
   . rw [if_neg (by rw[h1];decide)] at hres
     refine⟨psO ts u,_,⟨?_,?_⟩,(J4 ts u [105,102] he h1).mono ?_⟩
     . exact Kr
     . exact Kr
     rintro _ O2 ⟨rfl,rfl⟩
     refine Kv m8 ?_
     repeat'((first|(intro hlq;try simp only[SL] at hlq)|refine K9 ?_|refine K8 ?_)<;>refine Kv m8 ?_)
     refine⟨λh4=>?_,λh4=>?_⟩<;>(try simp only[BL] at h4)<;>refine Kv m8 ?_
     . have hl:l=[]:=by
        cases l with
        |nil=>rfl
        |cons x xs=>simp at h4;omega
       rw[if_pos hl] at hres
       refine⟨psO ts u,_,⟨?_,?_⟩,(Z7 ts u 60 he).mono ?_⟩
       . exact Kr
       . exact Kr
       rintro _ O2 ⟨rfl,rfl⟩
       refine Kv m8 ?_
       refine⟨psO ts u,⟨?_,?_⟩,?_⟩
       . exact Kr
       . exact Kr
       rw[hres]
       exact⟨_,rfl,rfl⟩
     . have hl:l≠[]:=by
        rintro rfl
        exact h4 (by simp)
       rw[if_neg hl] at hres
       refine⟨psO ts u, .d (stD l),?_,?_⟩
       rotate_left 1
       . rw[hres]
         exact⟨rfl,rfl⟩
       repeat'(first|exact True.intro|exact rfl|refine And.intro ?_ ?_)
theorem b3q:∀k:Nat,k<=1000000000->∀j,j<=k->RdS 74 j (λk d ts=>g8 k d [] ts)/\RdS 134 j blockP
 | 0,_,j,hj=>by
   obtain rfl:j=0:=by omega
   exact⟨λd ts u _ _ h=>absurd (by show g8 0 d [] ts=_;rw[g8]) h,λd ts u _ _ h=>absurd (by rw[blockP]) h⟩
 | k +1,hk,j,hj=>by
   have ih:=b3q k (by omega)
   by_cases e:j=k+1
   . subst e
     exact⟨c2V k (by omega) λj h=>(ih j h).2,b5S k λj h=>(ih j h).1⟩
   . exact ih j (by omega)
end Go.Proofs.YteillnfhkeebjaaGreatDoor.Dx
/- Chapter 06: what the lexer makes is what the parser expects; fuel for steps; what parsing a text comes to (plain). -/
namespace Go.Proofs.YteillnfhkeebjaaGreatDoor.Dx
open Go Go.RowKit
set_option maxRecDepth 100000
theorem a7n:∀(k:Nat) (t:List UInt8),t.length<=k->∀s n,l7 t=some (s,n)->s.length<=t.length
 |k,[],_,s,n,h=>by cases h
 |0,c::t,hk,_,_,_=>by simp at hk
 | k + 1, c::t,hk,s,n,h=>by
   unfold l7 at h
   simp only[List.length_cons] at hk⊢
   split at h
   . cases h;simp
   split at h
   . cases h
   split at h
   . match t,h,hk with
     |[],h,_=>cases h
     | d ::t,h,hk=>
       simp only[List.length_cons] at hk⊢
       simp only at h
       split at h
       . split at h
         . rename_i s' n' hq
           cases h
           have:=a7n k t (by omega) _ _ hq
           simp only[List.length_cons]
           omega
         . cases h
       . cases h
   . split at h
     . rename_i s' n' hq
       cases h
       have:=a7n k t (by omega) _ _ hq
       simp only[List.length_cons]
       omega
     . cases h
theorem c1G (c:UInt8)(t:List UInt8):(l9 (c::t)).2.1.length<=t.length+1/\((l9 (c::t)).1=2->E4 (l9 (c::t)).2.1=true):=by
 have h1:=Z2 false t
 have h2:=Z2 true t
 simp only[l9]
 split
 . exact⟨by simp;omega,by simp⟩
 split
 . unfold K3
   split
   . exact⟨by simp;omega,λ_=>by assumption⟩
   split
   . exact⟨by simp;omega,by simp⟩
   . exact⟨by simp,by simp⟩
 split
 . split
   . rename_i s n hq
     have:=a7n _ t (Nat.le_refl _) _ _ hq
     exact⟨by dsimp only;omega,by simp⟩
   . exact⟨by simp,by simp⟩
 split
 . exact⟨by simp;omega,by simp⟩
 split<;>exact⟨by simp,by simp⟩
theorem c2P (c:UInt8)(t:List UInt8):(i6 (c::t)).2.1.length<=t.length+1/\((i6 (c::t)).1=2->E4 (i6 (c::t)).2.1=true):=by
 simp only[i6]
 split
 . exact⟨by simp,by simp⟩
 split
 . exact⟨by simp,by simp⟩
 . exact c1G c t
theorem a8e:∀(k:Nat) (r:List UInt8) (a:Nat),r.length<=k->(∀x∈toks r a,x.text.length<=r.length/\(x.kind=2->E4 x.text=true))/\(toks r a).length<=r.length+1
 | _,[],a,_=>by
   rw[b3P]
   refine⟨λx hx=>?_,by simp⟩
   obtain rfl:=List.mem_singleton.1 hx
   exact⟨by simp,by simp⟩
 |0,c::t,_,h=>by simp at h
 | k + 1,c::t,a,h=>by
   have h1:=Z6 c t
   have h2:=c2P c t
   simp only[List.length_cons] at h⊢
   have ih:=a8e k ((c::t).drop (i6 (c::t)).2.2) (a+(i6 (c::t)).2.2) (by rw[List.length_drop,List.length_cons];omega)
   rw[List.length_drop,List.length_cons] at ih
   rw[a2U]
   split
   . refine ⟨λx hx=>?_,by simp only[List.length_cons];omega⟩
     rcases List.mem_cons.1 hx with rfl|hx
     . exact h2
     . have:=ih.1 x hx
       exact⟨by omega,this.2⟩
   . exact⟨λx hx=>by have:=ih.1 x hx;exact⟨by omega,this.2⟩,by omega⟩
theorem b8Q {s:List UInt8}(h:E4 s=true):s.head?=some 45\/(s≠[]/\s.all d9=true):=by
 by_cases e:∃r,s=45::r
 . obtain⟨r,rfl⟩:=e
   exact .inl rfl
 . rw[a6B λr hr=>e ⟨r,hr⟩] at h
   have:=Y9 h
   exact .inr ⟨this.2,this.1⟩
theorem b3M (src:List UInt8)(hl:src.length<=65536):QT (toks src 0):=by
 obtain⟨i,hi,_⟩:=b3N _ src 0 (Nat.le_refl _)
 refine⟨⟨i,_,hi⟩,λt ht=>?_⟩
 have:=(a8e _ src 0 (Nat.le_refl _)).1 t ht
 exact⟨by omega,λh=>b8Q (this.2 h)⟩
theorem b3O (src:List UInt8):(toks src 0).length<=src.length+1:=(a8e _ src 0 (Nat.le_refl _)).2
theorem b3r (n:Nat):(∀k d l ts,ts.length<=n->5*n+1<=k->(g8 k d l ts).short n)/\(∀k d ts,ts.length<=n->5*n+1<=k->(blockP k d ts).short n):=by
 have ih:∀m,m+1=n->(∀k d l ts,ts.length<=m->5*m+1<=k->(g8 k d l ts).short m)/\(∀k d ts,ts.length<=m->5*m+1<=k->(blockP k d ts).short m):=λm hm=>b3r m
 have up:∀{α:Type} {r:Rs α} {m:Nat},m+1=n->r.short m->r.short n:=λhm h=>⟨h.1,λa ts e=>by have:=h.2 a ts e;omega⟩
 refine⟨λk d l ts hts hk=>?_,λk d ts hts hk=>?_⟩
 . obtain ⟨k,rfl⟩:∃j,k=j+1:=⟨k-1,by omega⟩
   rw[g8]
   split
   . rename_i b hb
     have hne:ts≠[]:=by
      rintro rfl
      have:=a5X hb
      simp[hdT] at this
     obtain⟨t,r,rfl⟩:=List.exists_cons_of_ne_nil hne
     obtain⟨m,hm⟩:∃m,m+1=n:=⟨n-1,by simp at hts;omega⟩
     simp only[List.length_cons] at hts
     exact up hm ((a4m (n:=m) (by simp only[List.tail_cons];omega)).bind λ_ _ h=>(ih m hm).1 k d _ _ h (by omega))
   split
   . rename_i q
     have hlen:=a2b q
     obtain⟨m,hm⟩:∃m,m+1=n:=⟨n-1,by omega⟩
     split
     . exact U6
     . refine up hm (((a5Q m).2.2.2.1 k 0 ts.tail (by omega) (by omega)).bind λc ts2 h2=>((ih m hm).2 k (d+1) ts2 h2 (by omega)).bind λt ts3 h3=>?_)
       split
       . exact((ih m hm).2 k (d+1) _ (by rw[List.length_tail];omega) (by omega)).bind λ_ _ h=>(ih m hm).1 k d _ _ h (by omega)
       . exact(ih m hm).1 k d _ _ h3 (by omega)
   split
   . exact U6
   . exact .ok hts
 . obtain ⟨k,rfl⟩:∃j,k=j+1:=⟨k-1,by omega⟩
   rw[blockP]
   cases n with
   | zero=>
     have:ts=[]:=List.eq_nil_of_length_eq_zero (by omega)
     subst this
     exact U6
   |succ m=>exact up rfl ((a4m (n:=m) hts).bind λ_ _ h=>((ih m rfl).1 k d _ _ h (by omega)).bind λ_ _ h=>(a4m (by omega)).bind λ_ _ h=> .ok h)
termination_by n
decreasing_by omega
def FU:Nat:=400000
def a5v {α:Type}(z:α)(r:Rs α):α×Int×Int:=match r with
 | .ok v ts=>if(hdT ts).kind=6 then(v,0,0) else(z,((hdT ts).at_:Int),60)
 | .er a e=>(z,(a:Int),e)
 | .out=>(z,0,0)
def a0T {α:Type}(z:α)(P:List Tk->Rs α)(src:List UInt8):α×Int×Int:=match bads src 0 (-1) 0 with
 |b::_=>(z,(b:Int),50)
 |[]=>a5v z (P (toks src 0))
def cz:Cond:=⟨0,0,0,[]⟩
def H4 (src:List UInt8):Cond×Int×Int:=a0T cz (condP FU 0) src
def I6 (src:List UInt8):List Step×Int×Int:=a0T [] (g8 FU 0 []) src
theorem a9T (src:List UInt8)(hl:src.length<=65536):condP FU 0 (toks src 0)≠ .out:=by
 have:=b3O src
 exact((a5Q (toks src 0).length).2.2.2.1 FU 0 _ (Nat.le_refl _) (by unfold FU;omega)).1
theorem b3s (src:List UInt8)(hl:src.length<=65536):g8 FU 0 [] (toks src 0)≠ .out:=by
 have:=b3O src
 exact((b3r (toks src 0).length).1 FU 0 [] _ (Nat.le_refl _) (by unfold FU;omega)).1
end Go.Proofs.YteillnfhkeebjaaGreatDoor.Dx
