/- Chapter 06: SyntaxWritten: numbers and times within bounds. -/
import Derived.Test.YtaopegkpjhkooaaGreatDoorGd
import Derived.Test.YtaopegkpjhkooaaGreatDoorFu
import Derived.Test.YtaopegkpjhkooaaGreatDoorFy
set_option linter.all false
namespace Go.Proofs.YtaopegkpjhkooaaGreatDoor.Dx
open Go Go.RowKit
set_option maxRecDepth 100000
set_option maxHeartbeats 16000000
def tmB (n:Int):Bool:=decide (0<=n)&&decide (n<=1099511627776)
def amB (n:Int):Bool:=decide (0<=n)&&decide (n<=1125899906842624)
abbrev inC (i:Int):List D:=[iD i]
theorem a4s (l:List Int):Meets Tryz.prog 33 [.sl (l.map inC)] λd=>d=bD (l.all tmB):=by
 refine enter tok {} Tryz.func33 rfl (by kernel_rfl) Tryz.ntmps33 (by simp) λB0 W0 V0 lent g0=>?_
 refine Kw ?_
 repeat'((first|(intro hlq;try simp only[SL] at hlq)|refine K9 ?_|refine K8 ?_)<;>refine Kw ?_)
 refine j7 tok {} [] (X:=Nat) (λi=>[(7,iB i)]) (λ_=>[]) [] (λi=>i<=l.length/\∀x∈l.take i,tmB x=true) (λi=>l.length-i) 0 ?_
 refine Kw ?_
 refine And.intro ?_ ⟨⟨Nat.zero_le _,by simp⟩,λi hΦ=>?_⟩
 . exact Kr
 obtain⟨hi,hp⟩:=hΦ
 refine Kw ?_
 refine⟨λh1=>?_,λh1=>?_⟩<;>(try simp only[BL] at h1)<;>refine Kw ?_
 . have h1':i<l.length:=by omega
   refine⟨inC l[i],⟨by omega,by rw[Int.toNat_natCast,List.getElem?_map,List.getElem?_eq_getElem h1'];rfl,rfl⟩,?_⟩
   refine Kw ?_
   repeat'((first|(intro hlq;try simp only[SL] at hlq)|refine K9 ?_|((refine Kh (λhb=>?_) λhb=>?_)<;>try simp only[BL] at hb)|refine K8 ?_)<;>refine Kw ?_)
   all_goals first
    | (refine⟨congrArg bD ?_⟩
       have hc:tmB l[i]=false:=by simp only[tmB,Bool.and_eq_false_iff,decide_eq_false_iff_not];omega
       exact(List.all_eq_false.2 ⟨l[i],List.getElem_mem h1',by rw[hc];decide⟩).symm)
    | (refine⟨⟨i+1,?_,⟨by omega,a2P h1' hp ?_⟩,by omega⟩⟩
       . exact Kr
       . simp only[tmB,Bool.and_eq_true,decide_eq_true_eq];omega)
    |trace_state
 . refine⟨congrArg bD ?_⟩
   have:i=l.length:=by omega
   subst this
   rw[List.take_length] at hp
   exact(List.all_eq_true.2 hp).symm
theorem a2U (l:List Int):Meets Tryz.prog 35 [.sl (l.map inC)] λd=>d=bD (l.all amB):=by
 refine enter tok {} Tryz.func35 rfl (by kernel_rfl) Tryz.ntmps35 (by simp) λB0 W0 V0 lent g0=>?_
 refine Kw ?_
 repeat'((first|(intro hlq;try simp only[SL] at hlq)|refine K9 ?_|refine K8 ?_)<;>refine Kw ?_)
 refine j7 tok {} [] (X:=Nat) (λi=>[(7,iB i)]) (λ_=>[]) [] (λi=>i<=l.length/\∀x∈l.take i,amB x=true) (λi=>l.length-i) 0 ?_
 refine Kw ?_
 refine And.intro ?_ ⟨⟨Nat.zero_le _,by simp⟩,λi hΦ=>?_⟩
 . exact Kr
 obtain⟨hi,hp⟩:=hΦ
 refine Kw ?_
 refine⟨λh1=>?_,λh1=>?_⟩<;>(try simp only[BL] at h1)<;>refine Kw ?_
 . have h1':i<l.length:=by omega
   refine⟨inC l[i],⟨by omega,by rw[Int.toNat_natCast,List.getElem?_map,List.getElem?_eq_getElem h1'];rfl,rfl⟩,?_⟩
   refine Kw ?_
   repeat'((first|(intro hlq;try simp only[SL] at hlq)|refine K9 ?_|((refine Kh (λhb=>?_) λhb=>?_)<;>try simp only[BL] at hb)|refine K8 ?_)<;>refine Kw ?_)
   all_goals first
    | (refine⟨congrArg bD ?_⟩
       have hc:amB l[i]=false:=by simp only[amB,Bool.and_eq_false_iff,decide_eq_false_iff_not];omega
       exact(List.all_eq_false.2 ⟨l[i],List.getElem_mem h1',by rw[hc];decide⟩).symm)
    | (refine⟨⟨i+1,?_,⟨by omega,a2P h1' hp ?_⟩,by omega⟩⟩
       . exact Kr
       . simp only[amB,Bool.and_eq_true,decide_eq_true_eq];omega)
    |trace_state
 . refine⟨congrArg bD ?_⟩
   have:i=l.length:=by omega
   subst this
   rw[List.take_length] at hp
   exact(List.all_eq_true.2 hp).symm
end Go.Proofs.YtaopegkpjhkooaaGreatDoor.Dx
/- Chapter 06: SyntaxWritten: words,names,times. -/
namespace Go.Proofs.YtaopegkpjhkooaaGreatDoor.Dx
open Go Go.RowKit
set_option maxRecDepth 100000
set_option maxHeartbeats 16000000
theorem a0J (t:Int):Meets Tryz.prog 37 [iD t] λd=>d= .str (s8 t):=by
 have k:=b2v t
 refine enter tok {} Tryz.func37 rfl (by kernel_rfl) Tryz.ntmps37 (by simp) λB0 W0 V0 lent g0=>?_
 refine Kw ?_
 repeat'((first|(intro hlq;try simp only[SL] at hlq)|refine Meets.k (k) ?_|refine K9 ?_|((refine Kh (λhb=>?_) λhb=>?_)<;>try simp only[BL] at hb)|refine K8 ?_)<;>refine Kw ?_)
 all_goals exact⟨rfl⟩
theorem b3X (s:List UInt8):T3 s=(s.all inB&&(decide (0<s.length)&&B6 (s.headD 0))):=by
 cases s with
 |nil=>rfl
 | cons c t=>
   show(B6 c&&t.all inB)=((c::t).all inB&&(decide (0<(c::t).length)&&B6 c))
   rw[List.all_cons,decide_eq_true (by simp)]
   cases h:B6 c with
   |false=>simp
   |true=>rw[show inB c=true by simp[inB,h]];simp
theorem b4X (s:List UInt8):Meets Tryz.prog 67 [.str s] λd=>d=bD (T3 s):=by
 refine enter tok {} Tryz.func67 rfl (by kernel_rfl) Tryz.ntmps67 (by simp) λB0 W0 V0 lent g0=>?_
 refine Kw ?_
 repeat'((first|(intro hlq;try simp only[SL] at hlq)|refine K9 ?_|refine K8 ?_)<;>refine Kw ?_)
 refine j7 tok {} [] (X:=Nat) (λi=>[(3,iB i)]) (λ_=>[]) [] (λi=>i<=s.length/\∀x∈s.take i,inB x=true) (λi=>s.length-i) 0 ?_
 refine Kw ?_
 refine And.intro ?_ ⟨⟨Nat.zero_le _,by simp⟩,λi hΦ=>?_⟩
 . exact Kr
 obtain⟨hi,hp⟩:=hΦ
 refine Kw ?_
 repeat'((first|(intro hlq;try simp only[SL] at hlq)|refine K9 ?_|refine K8 ?_)<;>refine Kw ?_)
 refine⟨λh1=>?_,λh1=>?_⟩<;>(try simp only[BL] at h1)<;>refine Kw ?_
 . have h1':i<s.length:=by omega
   have hb:=s[i].toNat_lt
   have k:=c0U s[i]
   repeat'((first|(intro hlq;try simp only[SL] at hlq)|refine K9 ?_|refine K8 ?_)<;>refine Kw ?_)
   repeat'((first|(intro hlq;try simp only[SL] at hlq)|refine Meets.k (k) ?_|refine K9 ?_|((refine Kh (λhb=>?_) λhb=>?_)<;>try simp only[BL] at hb)|refine K8 ?_)<;>refine Kw ?_)
   . refine⟨congrArg bD ?_⟩
     rw[b3X,a4L (List.getElem_mem h1') hb];rfl
   . refine⟨⟨i+1,?_,⟨by omega,a2P h1' hp hb⟩,by omega⟩⟩
     repeat'(first|exact True.intro|exact rfl|refine And.intro ?_ ?_)
 . have hil:i=s.length:=by omega
   subst hil
   rw[List.take_length] at hp
   have hall:s.all inB=true:=List.all_eq_true.2 hp
   cases s with
   | nil=>
     repeat'((first|(intro hlq;try simp only[SL] at hlq)|refine K9 ?_|refine K8 ?_)<;>refine Kw ?_)
     refine⟨λh=>absurd h (by decide),λ_=>?_⟩
     refine Kw ?_
     exact⟨rfl⟩
   | cons c t=>
     have k:=b2H c
     have e:T3 (c::t)=B6 c:=by
      rw[b3X,hall,decide_eq_true (by simp)];rfl
     have hb:=c.toNat_lt
     repeat'((first|(intro hlq;try simp only[SL] at hlq)|refine K9 ?_|refine K8 ?_)<;>refine Kw ?_)
     refine⟨λ_=>?_,λh=>absurd (of_decide_eq_false h) (by simp only[List.length_cons];omega)⟩
     refine⟨c,⟨Int.le_refl _,rfl⟩,?_⟩
     refine Kw ?_
     refine Meets.k k ?_
     refine Kw ?_
     exact⟨congrArg bD e.symm⟩
end Go.Proofs.YtaopegkpjhkooaaGreatDoor.Dx
/- Chapter 06: SyntaxWritten: names that differ. -/
namespace Go.Proofs.YtaopegkpjhkooaaGreatDoor.Dx
open Go Go.RowKit
set_option maxRecDepth 100000
set_option maxHeartbeats 16000000
def nmB (s:List UInt8):Bool:=decide (s.length<=60)&&(T3 s&& !kw s)
def F3 (l:List (List UInt8)):Bool:=l.all nmB&&(decide l.Nodup&&decide (l.length<=20))
abbrev stC (s:List UInt8):List D:=[.str s]
theorem b9v {α:Type}{l:List α}{i:Nat}(h:i<l.length)(hn:(l.take i).Nodup)(hx:l[i]∉l.take i):(l.take (i+1)).Nodup:=by
 rw[List.take_succ_eq_append_getElem h,List.nodup_append]
 refine⟨hn,by simp,λa ha b hb=>?_⟩
 rw[List.mem_singleton.1 hb]
 rintro rfl
 exact hx ha
theorem b9t {α:Type}[DecidableEq α]{l:List α}{i j:Nat}(hj:j<i)(h:i<l.length)(he:l[i]=l[j]'(by omega)):decide l.Nodup=false:=by
 refine decide_eq_false λhn=>?_
 have:=(List.getElem_inj hn).1 he
 omega
theorem a2D (l:List (List UInt8))(hl:l.length<=1048576):Meets Tryz.prog 36 [.sl (l.map stC)] λd=>d=bD (F3 l):=by
 have hlen:(l.map stC).length=l.length:=List.length_map ..
 have hsz:∀ds:List D,ds∈l.map stC->ds.length=1:=λds hds=>by obtain⟨y,_,rfl⟩:=List.mem_map.1 hds;rfl
 refine enter tok {} Tryz.func36 rfl (by kernel_rfl) Tryz.ntmps36 (by simp) λB0 W0 V0 lent g0=>?_
 refine Kw ?_
 repeat'((first|(intro hlq;try simp only[SL] at hlq)|refine K9 ?_|refine K8 ?_)<;>refine Kw ?_)
 refine j7 tok {} [] (X:=Nat) (λi=>[(9,iB i)]) (λ_=>[]) [] (λi=>i<=l.length/\(∀x∈l.take i,nmB x=true)/\(l.take i).Nodup) (λi=>l.length-i) 0 ?_
 refine Kw ?_
 refine And.intro ?_ ⟨⟨Nat.zero_le _,by simp,by simp⟩,λi hΦ=>?_⟩
 . exact Kr
 obtain⟨hi,hp,hn⟩:=hΦ
 refine Kw ?_
 refine⟨λh1=>?_,λh1=>?_⟩<;>(try simp only[BL] at h1)<;>refine Kw ?_
 . have h1':i<l.length:=by omega
   obtain⟨s,hs⟩:∃s,s=l[i]:=⟨_,rfl⟩
   refine⟨stC s,⟨by omega,by rw[Int.toNat_natCast,List.getElem?_map,List.getElem?_eq_getElem h1',hs];rfl,rfl⟩,?_⟩
   have k1:=b4X s
   have k2:=c0v s
   refine Kw ?_
   repeat'((first|(intro hlq;try simp only[SL] at hlq)|refine Meets.k (k1) ?_|refine Meets.k (k2) ?_|refine K9 ?_|((refine Kh (λhb=>?_) λhb=>?_)<;>try simp only[BL] at hb)|refine K8 ?_)<;>refine Kw ?_)
   all_goals first
    | (refine⟨congrArg bD ?_⟩
       have hc:nmB s=false:=by simp only[nmB,Bool.and_eq_false_iff,decide_eq_false_iff_not,Bool.not_eq_false'];first|(left;omega)|(right;left;assumption)|(right;right;assumption)
       rw[F3,a4L (List.getElem_mem h1') (by rw[<-hs];exact hc)]
       rfl)
    |skip
   have hc:nmB s=true:=by
    simp only[nmB,Bool.and_eq_true,decide_eq_true_eq,Bool.not_eq_true']
    exact⟨by omega,by assumption,by assumption⟩
   refine⟨λ_=>⟨Int.le_refl _,by omega,by omega,hsz⟩,?_⟩
   have hdr:List.drop (Int.toNat 0) (List.take (i:Int).toNat (l.map stC))=(l.take i).map stC:=by
    show List.take (i:Int).toNat _=_
    rw[Int.toNat_natCast,List.map_take]
   have hdl:((l.take i).map stC).length=i:=by rw[List.length_map,List.length_take];omega
   rw[hdr]
   refine Kw ?_
   repeat'((first|(intro hlq;try simp only[SL] at hlq)|refine K9 ?_|refine K8 ?_)<;>refine Kw ?_)
   clear k1 k2
   refine j7 tok {} [] (X:=Nat) (λj=>[(30,iB j)]) (λ_=>[]) [] (λj=>j<=i/\s∉l.take j) (λj=>i-j) 0 ?_
   refine Kw ?_
   refine And.intro ?_ ⟨⟨Nat.zero_le _,by simp⟩,λj hΦ=>?_⟩
   . exact Kr
   obtain⟨hj,hq⟩:=hΦ
   refine Kw ?_
   refine⟨λh2=>?_,λh2=>?_⟩<;>(try simp only[BL] at h2)<;>refine Kw ?_
   . have h2':j<i:=by rw[List.length_take] at h2;omega
     refine⟨stC (l[j]'(by omega)),⟨by omega,by rw[Int.toNat_natCast,List.getElem?_map,List.getElem?_take_of_lt h2',List.getElem?_eq_getElem (by omega)];rfl,rfl⟩,?_⟩
     refine Kw ?_
     refine⟨λh3=>?_,λh3=>?_⟩<;>(try simp only[BL] at h3)<;>refine Kw ?_
     . repeat'((first|(intro hlq;try simp only[SL] at hlq)|refine K9 ?_|refine K8 ?_)<;>refine Kw ?_)
       refine⟨congrArg bD ?_⟩
       rw[F3,b9t h2' h1' (by rw[<-hs];exact h3)]
       simp
     . repeat' ((first|(intro hlq;try simp only[SL] at hlq)|refine K9 ?_|refine K8 ?_)<;>refine Kw ?_)
       refine⟨⟨j+1,?_,⟨by omega,?_⟩,by omega⟩⟩
       . exact Kr
       . rw[List.take_succ_eq_append_getElem (by omega),List.mem_append,List.mem_singleton]
         exact λh=>h.elim hq h3
   . have h2':j=i:=by rw[List.length_take] at h2;omega
     subst h2'
     repeat'((first|(intro hlq;try simp only[SL] at hlq)|refine K9 ?_|refine K8 ?_)<;>refine Kw ?_)
     refine⟨⟨j+1,?_,⟨by omega,a2P h1' hp (by rw[<-hs];exact hc),b9v h1' hn (by rw[<-hs];exact hq)⟩,by omega⟩⟩
     repeat'(first|exact True.intro|exact rfl|refine And.intro ?_ ?_)
 . have hil:i=l.length:=by omega
   subst hil
   rw[List.take_length] at hp hn
   repeat'((first|(intro hlq;try simp only[SL] at hlq)|refine K9 ?_|refine K8 ?_)<;>refine Kw ?_)
   refine⟨congrArg bD ?_⟩
   rw[F3,List.all_eq_true.2 hp,decide_eq_true hn,hlen]
   simp only[Bool.true_and]
   congr 1
   exact propext ⟨λh=>by omega,λh=>by omega⟩
end Go.Proofs.YtaopegkpjhkooaaGreatDoor.Dx
/- Chapter 06: SyntaxWritten: routes that can be written. -/
namespace Go.Proofs.YtaopegkpjhkooaaGreatDoor.Dx
open Go Go.RowKit
set_option maxRecDepth 100000
set_option maxHeartbeats 16000000
def ptF (ms:Int)(f:List Part->Bool)(p:Part):Bool:=if p.laps=0 then decide (0<=p.mat/\p.mat<ms/\p.parts.length=0) else decide (p.mat=0)&&(amB p.laps&&f p.parts)
def pfB (ms:Int):Nat->List Part->Bool
 |0,_=>false
 |n+1,l=>decide (1<=l.length/\l.length<=8)&&l.all (ptF ms (pfB ms n))
theorem b2i (ms:Int):∀n:Nat,n<=5->∀l:List Part,Meets Tryz.prog 34 [.sl (l.map Part.cells),iD ms,iD (5-(n:Int))] λd=>d=bD (pfB ms n l)
 | 0,_,l=>by
   refine enter tok {} Tryz.func34 rfl (by kernel_rfl) Tryz.ntmps34 (by simp) λB0 W0 V0 lent g0=>?_
   refine Kw ?_
   repeat'((first|(intro hlq;try simp only[SL] at hlq)|refine K9 ?_|((refine Kh (λhb=>?_) λhb=>?_)<;>try simp only[BL] at hb)|refine K8 ?_)<;>refine Kw ?_)
   all_goals first
    |exact⟨rfl⟩
    |(exfalso;omega)
    |skip
   all_goals (refine⟨congrArg bD ?_⟩;first|rfl|skip)
 | n + 1, hn,l=>by
   have ih:=b2i ms n (by omega)
   have hlen:(l.map Part.cells).length=l.length:=List.length_map ..
   by_cases h8:1<=l.length/\l.length<=8
   case neg=>
    have hc:pfB ms (n+1) l=false:=by rw[pfB,decide_eq_false h8];rfl
    refine enter tok {} Tryz.func34 rfl (by kernel_rfl) Tryz.ntmps34 (by simp) λB0 W0 V0 lent g0=>?_
    refine Kw ?_
    repeat'((first|(intro hlq;try simp only[SL] at hlq)|refine K9 ?_|((refine Kh (λhb=>?_) λhb=>?_)<;>try simp only[BL] at hb)|refine K8 ?_)<;>refine Kw ?_)
    all_goals first
     |exact⟨congrArg bD hc.symm⟩
     |(exfalso;omega)
     |skip
   refine enter tok {} Tryz.func34 rfl (by kernel_rfl) Tryz.ntmps34 (by simp) λB0 W0 V0 lent g0=>?_
   refine Kw ?_
   repeat'((first|(intro hlq;try simp only[SL] at hlq)|refine K9 ?_|((refine Kh (λhb=>?_) λhb=>?_)<;>try simp only[BL] at hb)|refine K8 ?_)<;>refine Kw ?_)
   all_goals try(exfalso;omega)
   refine j7 tok {} [] (X:=Nat) (λi=>[(23,iB i)]) (λ_=>[]) [] (λi=>i<=l.length/\∀p∈l.take i,ptF ms (pfB ms n) p=true) (λi=>l.length-i) 0 ?_
   refine Kw ?_
   refine And.intro ?_ ⟨⟨Nat.zero_le _,by simp⟩,λi hΦ=>?_⟩
   . exact Kr
   obtain⟨hi,hp⟩:=hΦ
   refine Kw ?_
   refine⟨λh1=>?_,λh1=>?_⟩<;>(try simp only[BL] at h1)<;>refine Kw ?_
   . have h1':i<l.length:=by omega
     obtain⟨p,hs⟩:∃p,p=l[i]:=⟨_,rfl⟩
     refine⟨p.cells,⟨by omega,by rw[Int.toNat_natCast,List.getElem?_map,List.getElem?_eq_getElem h1',hs];rfl,by rw[Part.cells_eq];rfl⟩,?_⟩
     have k1:=a2U [p.laps]
     have k2:=ih p.parts
     rw[Part.cells_eq]
     refine Kw ?_
     rw[show(5-(n:Int))=5-((n+1:Nat):Int)+1 by omega] at k2
     repeat'((first|(intro hlq;try simp only[SL] at hlq)|refine Meets.k (k1) ?_|refine Meets.k (k2) ?_|refine K9 ?_|((refine Kh (λhb=>?_) λhb=>?_)<;>try simp only[BL] at hb)|refine K8 ?_)<;>refine Kw ?_)
     all_goals first
      | (refine ⟨congrArg bD ?_⟩
         have hc:ptF ms (pfB ms n) p=false:=by
          unfold ptF
          split
          . exact decide_eq_false (by omega)
          . first
             |(exfalso;omega)
             |(rw[decide_eq_false (by omega:¬p.mat=0)];rfl)
             |(rw[show amB p.laps=false by simpa using (by assumption:[p.laps].all amB=false)];simp;done)
             |(rw[(by assumption:pfB ms n p.parts=false)];simp;done)
         rw[pfB,a4L (List.getElem_mem h1') (by rw[<-hs];exact hc),Bool.and_false]
         done)
      | (have hc:ptF ms (pfB ms n) p=true:=by
          unfold ptF
          split
          . exact decide_eq_true (by omega)
          . first
             |(exfalso;omega)
             |(rw[decide_eq_true (by omega:p.mat=0),show amB p.laps=true by simpa using (by assumption:[p.laps].all amB=true),(by assumption:pfB ms n p.parts=true)];rfl)
         refine⟨⟨i+1,?_,⟨by omega,a2P h1' hp (by rw[<-hs];exact hc)⟩,by omega⟩⟩
         repeat'(first|exact True.intro|exact rfl|refine And.intro ?_ ?_)
         done)
      |trace_state
   . repeat'((first|(intro hlq;try simp only[SL] at hlq)|refine K9 ?_|refine K8 ?_)<;>refine Kw ?_)
     have hil:i=l.length:=by omega
     subst hil
     rw[List.take_length] at hp
     refine⟨congrArg bD ?_⟩
     rw[pfB,decide_eq_true h8,List.all_eq_true.2 hp]
     rfl
end Go.Proofs.YtaopegkpjhkooaaGreatDoor.Dx
