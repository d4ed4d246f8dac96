/- Direct in the reference; lists of numbers. -/
import Derived.Test.YteillnfhkeebjaaGreatDoorSo
import Derived.Test.YteillnfhkeebjaaGreatDoorSl
set_option linter.all false
namespace Go.Proofs.YteillnfhkeebjaaGreatDoor.Dx
open Go Go.RowKit
set_option maxRecDepth 100000
set_option maxHeartbeats 8000000
def a0F (l:List Int)(n:Int):Bool:=l.any λx=>decide (x=n)
theorem b4J (l:List Int)(n:Int):Meets Tryz.prog 161 [.sl (l.map r7),iD n] λd=>∃r:Int,d=iD r/\decide (r≥0)=a0F l n:=by
 refine enter tok {} Tryz.func161 rfl (by kernel_rfl) Tryz.ntmps161 (by simp) λB0 W0 V0 lent g0=>?_
 refine Kw ?_
 repeat'((first|(intro hlq;try simp only[SL] at hlq)|refine K8 ?_)<;>refine Kw ?_)
 refine d4 tok {} [] (X:=Nat) (λi=>[(8,iB i)]) (λ_=>[]) [] (λi=>i<=l.length/\∀x∈l.take i,decide (x=n)=false) (λi=>l.length-i) 0 ?_
 refine Kw ?_
 refine And.intro ?_ ⟨⟨by omega,by simp⟩,λi hΦ=>?_⟩
 . exact Kr
 obtain⟨hi,hp⟩:=hΦ
 refine Kw ?_
 refine⟨λh1=>?_,λh1=>?_⟩<;>(try simp only[BL] at h1)<;>refine Kw ?_
 . have h1':i<l.length:=by omega
   repeat'((first|(intro hlq;try simp only[SL] at hlq)|refine K8 ?_)<;>refine Kw ?_)
   refine⟨λh2=>?_,λh2=>?_⟩<;>(try simp only[BL] at h2)<;>refine Kw ?_
   . refine⟨_,rfl,?_⟩
     rw[a0F,List.any_eq_true.2 ⟨_,List.getElem_mem h1',decide_eq_true h2.symm⟩]
     simp
   . repeat'((first|(intro hlq;try simp only[SL] at hlq)|refine K8 ?_)<;>refine Kw ?_)
     refine⟨⟨i+1,?_,⟨by omega,D2 h1' hp (decide_eq_false λe=>h2 e.symm)⟩,by omega⟩⟩
     repeat'(first|exact True.intro|exact rfl|refine And.intro ?_ ?_)
 . refine⟨_,rfl,?_⟩
   rw[List.take_of_length_le (by omega)] at hp
   rw[a0F,E9 hp]
   decide
theorem b4z (l:List Int)(n:Int):Meets Tryz.prog 76 [.sl (l.map r7),iD n] λd=>d=bD (a0F l n):=by
 refine enter tok {} Tryz.func76 rfl (by kernel_rfl) Tryz.ntmps76 (by simp) λB0 W0 V0 lent g0=>?_
 refine Kw ?_
 refine(b4J l n).mono λd hd=>?_
 obtain⟨r,rfl,hr⟩:=hd
 refine Kw ?_
 refine⟨?_⟩
 rw[hr]
theorem b5b (a b:List Int):Meets Tryz.prog 26 [.sl (a.map r7), .sl (b.map r7)] λd=>d=bD (decide (a=b)):=by
 refine enter tok {} Tryz.func26 rfl (by kernel_rfl) Tryz.ntmps26 (by simp) λB0 W0 V0 lent g0=>?_
 refine Kw ?_
 repeat'((first|(intro hlq;try simp only[SL] at hlq)|((refine Kh (λhb=>?_) λhb=>?_)<;>try simp only[BL] at hb)|refine K8 ?_)<;>refine Kw ?_)
 . refine⟨congrArg bD ?_⟩
   rw[decide_eq_false]
   rintro rfl
   omega
 have hlen:a.length=b.length:=by omega
 refine d4 tok {} [] (X:=Nat) (λi=>[(5,iB i)]) (λ_=>[]) [] (λi=>i<=a.length/\a.take i=b.take i) (λi=>a.length-i) 0 ?_
 refine Kw ?_
 refine And.intro ?_ ⟨⟨by omega,by simp⟩,λi hΦ=>?_⟩
 . exact Kr
 obtain⟨hi,hp⟩:=hΦ
 refine Kw ?_
 repeat'((first|(intro hlq;try simp only[SL] at hlq)|refine K8 ?_)<;>refine Kw ?_)
 refine⟨λh1=>?_,λh1=>?_⟩<;>(try simp only[BL] at h1)<;>refine Kw ?_
 . have h1':i<a.length:=by omega
   refine k9 tok (cf:={}) (by kernel_rfl) [.p 0, .p 1, .p 2, .p 3, .p 4, .p 5, .p 6, .p 7, .p 8] (by kernel_rfl) ?_
   refine Kw ?_
   repeat'((first|(intro hlq;try simp only[SL] at hlq)|refine K8 ?_)<;>refine Kw ?_)
   refine⟨λh2=>?_,λh2=>?_⟩<;>(try simp only[BL] at h2)<;>refine Kw ?_
   . refine⟨congrArg bD ?_⟩
     rw[decide_eq_false]
     rintro rfl
     exact h2 rfl
   . repeat'((first|(intro hlq;try simp only[SL] at hlq)|refine K8 ?_)<;>refine Kw ?_)
     refine⟨⟨i+1,?_,⟨by omega,?_⟩,by omega⟩⟩
     . exact Kr
     rw[List.take_succ_eq_append_getElem h1',List.take_succ_eq_append_getElem (by omega:i<b.length),hp,Classical.byContradiction h2]
 . refine⟨congrArg bD ?_⟩
   rw[List.take_of_length_le (by omega),List.take_of_length_le (by omega)] at hp
   rw[decide_eq_true hp]
mutual
def Step.app (x:Env):Step->List Int->List Int
 |⟨k,b,c,t,e⟩,acc=>if k=2 then(if c.holds x then Step.appL x t acc else Step.appL x e acc) else(if a0F acc b then acc else acc++[b])
def Step.appL (x:Env):List Step->List Int->List Int
 |[],acc=>acc
 |s::ss,acc=>Step.appL x ss (Step.app x s acc)
end
theorem a5B (x:Env)(s:Step)(acc:List Int):Step.app x s acc=if s.kind=2 then(if s.cond.holds x then Step.appL x s.th acc else Step.appL x s.el acc) else(if a0F acc s.crit then acc else acc++[s.crit]):=by
 obtain⟨k,b,c,t,e⟩:=s;simp only[Step.app]
mutual
theorem a9s (x:Env):∀(s:Step) (acc:List Int),(Step.app x s acc).length<=acc.length+s.nst
 | ⟨k,b,c,t,e⟩,acc=>by
   have h1:=appL_len x t acc
   have h2:=appL_len x e acc
   simp only[Step.app,Step.nst]
   split
   . split<;>omega
   . split
     . omega
     . rw[List.length_append,List.length_singleton];omega
theorem appL_len (x:Env):∀(l:List Step) (acc:List Int),(Step.appL x l acc).length<=acc.length+Step.nstL l
 |[],acc=>by simp[Step.appL]
 | s::ss,acc=>by
   have h1:=a9s x s acc
   have h2:=appL_len x ss (Step.app x s acc)
   simp only[Step.appL,Step.nstL]
   omega
end
theorem a2W {s:Step}(h:s.valid=true):(s.kind=1)\/(s.kind=2/\s.cond.valid=true/\(∀z∈s.th,z.valid=true)/\∀z∈s.el,z.valid=true):=by
 rw[Step.valid_eq] at h
 split at h
 . exact .inl (by assumption)
 . split at h
   . simp only[Bool.and_eq_true,List.all_eq_true] at h
     exact .inr ⟨by assumption,h.2.1,h.2.2.2.1,h.2.2.2.2⟩
   . cases h
theorem c0H:∀{l:List Step} {i:Nat} (h:i<l.length),Step.nstL (l.drop i)=l[i].nst+Step.nstL (l.drop (i+1)):=by
 intro l i h
 rw[List.drop_eq_getElem_cons h,Step.nstL]
end Go.Proofs.YteillnfhkeebjaaGreatDoor.Dx
/- applied. -/
namespace Go.Proofs.YteillnfhkeebjaaGreatDoor.Dx
open Go Go.RowKit
set_option maxRecDepth 100000
set_option maxHeartbeats 8000000
end Go.Proofs.YteillnfhkeebjaaGreatDoor.Dx
/- Direct,in the reference and in the code. -/
namespace Go.Proofs.YteillnfhkeebjaaGreatDoor.Dx
open Go Go.RowKit
set_option maxRecDepth 100000
set_option maxHeartbeats 8000000
def p8 (l:List Step):Int:=if l8 (e9 l) 0 0 0 then(if l≠[]/\l.all Step.valid then 0 else 71) else 2
theorem a2K (l:List Step)(hl:l.length<=1048576)(hok:∀s∈l,s.ok):Meets Tryz.prog 21 [.sl (l.map Step.cells)] λd=>d=iD (p8 l):=b5f l hl hok
theorem a8b {l:List Step}(h:p8 l=0):(∀s∈l,s.valid=true)/\Step.nstL l<=64:=by
 unfold p8 at h
 split at h
 . rename_i hf
   split at h
   . rename_i hv
     refine⟨List.all_eq_true.1 hv.2,?_⟩
     obtain⟨k1,_⟩:=F_S l
     simp only[l8,Bool.or_eq_true,Bool.and_eq_true,decide_eq_true_eq,k1] at hf
     rcases hf with hf|hf
     . exact absurd (by simpa[e9] using hf) hv.1
     . omega
   . cases h
 . cases h
def E3 (l:List Step)(x:Env):List Int×Int:=if p8 l=0 then(if x.good then(Step.appL x l [],0) else([],1)) else([],p8 l)
abbrev X5 (x:Env)(acc:List (List D)):List (Nat×Blk):=
 [(2001, .box [iB x.distance,iB x.field,iB x.short] 49),(2002, .box [.fn 75 [] [.loc 2001 0, .loc 2002 0, .loc 2003 0]] 108),(2003, .box [.own 2004] 65),(2004, .sl ⟨3,1,acc,true⟩)]
abbrev s9:Cfg:={rs:=[26,34]}
theorem a5C (l:List Step)(x:Env)(acc:List Int)(hv:∀s∈l,s.valid=true)(hb:acc.length+Step.nstL l<=1048576):
 MeetsR Tryz.prog 75 [.d (.sl (l.map Step.cells)), .loc 2001 0, .loc 2002 0, .loc 2003 0] (X5 x (acc.map r7)) λo O'=>o= .ret (.d (.tup []))/\O'=X5 x ((Step.appL x l acc).map r7):=by
 refine m9 tok s9 Tryz.func75 rfl (by kernel_rfl) Tryz.ntmps75 (by simp) λB0 W0 V0 lent g0=>?_
 refine Kv s9 ?_
 repeat'((first|(intro hlq;try simp only[SL] at hlq)|refine K8 ?_)<;>refine Kv s9 ?_)
 refine d4 tok s9 [] (X:=Nat×List (List D)) (λs=>[(9,iB s.1)]) (λs=>X5 x s.2) [6] (λs=>s.1<=l.length/\∃ws,s.2=ws.map r7/\Step.appL x (l.drop s.1) ws=Step.appL x l acc/\ws.length+Step.nstL (l.drop s.1)<=1048576) (λs=>l.length-s.1) (0,acc.map r7) ?_
 refine Kv s9 ?_
 refine And.intro ?_ ⟨⟨by omega,acc,rfl,by simp,by simpa using hb⟩,λs hΦ=>?_⟩
 . exact Kr
 obtain⟨i,xs⟩:=s
 obtain⟨hi,ws,hxs,heq,hlb⟩:=hΦ
 dsimp only at hi hxs heq hlb
 refine Kv s9 ?_
 refine⟨λh1=>?_,λh1=>?_⟩<;>(try simp only[BL] at h1)<;>refine Kv s9 ?_
 . have h1':i<l.length:=by omega
   have hvi:=a2W (hv _ (List.getElem_mem h1'))
   have hap:=a5B x l[i] ws
   have hln:=a9s x l[i] ws
   have hn1:=l[i].nst_eq
   have hxl:xs.length=ws.length:=by rw[hxs,List.length_map]
   rw[c0H h1'] at hlb
   rw[List.drop_eq_getElem_cons h1',Step.appL] at heq
   repeat'((first|(intro hlq;try simp only[SL] at hlq)|refine Ka ?_|refine Kb ?_|refine Kc (hd:=rfl) (e:=?_)|refine Kc (hd:=Step.cells_eq _) (e:=?_)|refine Kd (e:=?_)|refine Kl rfl ?_|fail)<;>refine Kv s9 ?_)
   refine⟨λh2=>?_,λh2=>?_⟩<;>(try simp only[BL] at h2)<;>refine Kv s9 ?_
   . have hk:l[i].kind=2/\l[i].cond.valid=true/\(∀z∈l[i].th,z.valid=true)/\∀z∈l[i].el,z.valid=true:=by
      rcases hvi with h|h
      . omega
      . exact h
     rw[if_pos hk.1] at hap
     refine Meets.k (a6w l[i].cond x hk.2.1) ?_
     refine Kv s9 ?_
     refine⟨λh3=>?_,λh3=>?_⟩<;>(try simp only[BL] at h3)<;>refine Kv s9 ?_
     . rw[if_pos h3] at hap
       repeat'((first|(intro hlq;try simp only[SL] at hlq)|refine Ka ?_|refine Kb ?_|refine Kc (hd:=rfl) (e:=?_)|refine Kc (hd:=Step.cells_eq _) (e:=?_)|refine Kd (e:=?_)|refine Kl rfl ?_|fail)<;>refine Kv s9 ?_)
       have hrec:=a5C l[i].th x ws hk.2.2.1 (by omega)
       rw[<-hxs] at hrec
       refine⟨X5 x xs,_,⟨?_,?_⟩,hrec.mono ?_⟩
       . exact Kr
       . exact Kr
       rintro o O' ⟨rfl,rfl⟩
       refine Kv s9 ?_
       repeat'((first|(intro hlq;try simp only[SL] at hlq)|refine K8 ?_)<;>refine Kv s9 ?_)
       refine⟨⟨(i+1,(Step.appL x l[i].th ws).map r7),?_,⟨by dsimp only;omega,_,rfl,?_,?_⟩,by dsimp only;omega⟩⟩
       . exact Kr
       . rw[<-heq,hap]
       . rw[<-hap];dsimp only;omega
     . rw[if_neg (by rw[h3];simp)] at hap
       have hrec:=a5C l[i].el x ws hk.2.2.2 (by omega)
       rw[<-hxs] at hrec
       repeat'((first|(intro hlq;try simp only[SL] at hlq)|((refine Kh (λhb=>?_) λhb=>?_)<;>try simp only[BL] at hb)|refine Ka ?_|refine Kb ?_|refine Kc (hd:=rfl) (e:=?_)|refine Kc (hd:=Step.cells_eq _) (e:=?_)|refine Kd (e:=?_)|refine Kl rfl ?_|fail)<;>refine Kv s9 ?_)
       all_goals try(exfalso;omega)
       refine⟨X5 x xs,_,⟨?_,?_⟩,hrec.mono ?_⟩
       . exact Kr
       . exact Kr
       rintro o O' ⟨rfl,rfl⟩
       refine Kv s9 ?_
       repeat'((first|(intro hlq;try simp only[SL] at hlq)|refine K8 ?_)<;>refine Kv s9 ?_)
       refine⟨⟨(i+1,(Step.appL x l[i].el ws).map r7),?_,⟨by dsimp only;omega,_,rfl,?_,?_⟩,by dsimp only;omega⟩⟩
       . exact Kr
       . rw[<-heq,hap]
       . rw[<-hap];dsimp only;omega
   . have hk:¬l[i].kind=2:=h2
     rw[if_neg hk] at hap
     have hin:=b4z ws l[i].crit
     rw[<-hxs] at hin
     repeat'((first|(intro hlq;try simp only[SL] at hlq)|((refine Kh (λhb=>?_) λhb=>?_)<;>try simp only[BL] at hb)|refine Ka ?_|refine Kb ?_|refine Kc (hd:=rfl) (e:=?_)|refine Kc (hd:=Step.cells_eq _) (e:=?_)|refine Kd (e:=?_)|refine Kl rfl ?_|fail)<;>refine Kv s9 ?_)
     all_goals try(exfalso;omega)
     refine Meets.k hin ?_
     refine Kv s9 ?_
     refine⟨λh3=>?_,λh3=>?_⟩<;>(try simp only[BL] at h3)<;>refine Kv s9 ?_
     . repeat'((first|(intro hlq;try simp only[SL] at hlq)|refine K8 ?_)<;>refine Kv s9 ?_)
       refine⟨by simp,?_⟩
       refine Kv s9 ?_
       refine⟨λ_ _=>by simp;omega,?_⟩
       refine Kv s9 ?_
       repeat'((first|(intro hlq;try simp only[SL] at hlq)|refine K8 ?_)<;>refine Kv s9 ?_)
       refine⟨⟨(i+1,xs++[[iD l[i].crit]]),?_,⟨by dsimp only;omega,ws++[l[i].crit],by dsimp only;rw[hxs,List.map_append];rfl,?_,by dsimp only;simp;omega⟩,by dsimp only;omega⟩⟩
       . exact Kr
       rw[<-heq,hap,h3];rfl
     . repeat'((first|(intro hlq;try simp only[SL] at hlq)|refine K8 ?_)<;>refine Kv s9 ?_)
       refine⟨⟨(i+1,xs),?_,⟨by dsimp only;omega,ws,hxs,?_,by dsimp only;omega⟩,by dsimp only;omega⟩⟩
       . exact Kr
       rw[<-heq,hap,h3];rfl
 . refine⟨X5 x xs, .d (.tup []),?_,⟨rfl,?_⟩⟩
   . exact Kr
   rw[List.drop_eq_nil_of_le (by omega),Step.appL] at heq
   rw[<-heq,<-hxs]
termination_by Step.szL l
decreasing_by
 all_goals
  have h2:=b3D (List.getElem_mem h1')
  have h3:=l[i].sz_eq
  omega
abbrev J5:Cfg:={nm:=[(3,2001),(8,2002),(4,2003)],rs:=[22]}
theorem a5n (l:List Step)(x:Env)(hl:l.length<=1048576)(hok:∀s∈l,s.ok):Meets Tryz.prog 23 [.sl (l.map Step.cells),x.d] λd=>d= .tup [.sl ((E3 l x).1.map r7),iD (E3 l x).2]:=by
 refine enter tok J5 Tryz.func23 rfl (by kernel_rfl) Tryz.ntmps23 (by simp) λB0 W0 V0 lent g0=>?_
 refine Kv J5 ?_
 refine Meets.k (a2K l hl hok) ?_
 refine Kv J5 ?_
 refine⟨λh1=>?_,λh1=>?_⟩<;>(try simp only[BL] at h1)<;>refine Kv J5 ?_
 . refine⟨?_⟩
   rw[E3,if_neg h1];rfl
 refine Meets.k (a8Q x) ?_
 refine Kv J5 ?_
 refine⟨λh2=>?_,λh2=>?_⟩<;>simp only[decide_eq_true_eq,decide_eq_false_iff_not] at h2
 . refine Kv J5 ?_
   refine⟨?_⟩
   have hg:x.good=false:=by cases hg:x.good<;>simp_all
   rw[E3,if_pos (by omega),hg]
   rfl
 have hg:x.good=true:=by cases hg:x.good<;>simp_all
 have ht:=a8b (l:=l) (by omega)
 refine Y J5 rfl ?_
 conv=>whnf
 refine Y J5 rfl ?_
 conv=>whnf
 refine Y J5 rfl ?_
 conv=>whnf
 refine b4P [(.inr (2003,0),2004,3,1)] ?_
 conv=>whnf
 refine⟨by simp,?_⟩
 refine Kv J5 ?_
 refine⟨X5 x [],_,⟨?_,?_⟩,(a5C l x [] ht.1 (by simp;omega)).mono ?_⟩
 . exact Kr
 . exact Kr
 rintro o O' ⟨rfl,rfl⟩
 refine Kv J5 ?_
 refine⟨?_⟩
 rw[E3,if_pos (by omega),if_pos hg]
end Go.Proofs.YteillnfhkeebjaaGreatDoor.Dx
/- The helpers of the laws of chapter 07. -/
namespace Go.Proofs.YteillnfhkeebjaaGreatDoor.Dx
open Go Go.RowKit
set_option maxRecDepth 100000
set_option maxHeartbeats 8000000
end Go.Proofs.YteillnfhkeebjaaGreatDoor.Dx
/- Names. -/
namespace Go.Proofs.YteillnfhkeebjaaGreatDoor.Dx
open Go Go.RowKit
set_option maxRecDepth 100000
set_option maxHeartbeats 8000000
def Y7 (b:UInt8):Bool:=(decide (97<=(b.toNat:Int))&&decide ((b.toNat:Int)<=122))||((decide (48<=(b.toNat:Int))&&decide ((b.toNat:Int)<=57))||decide ((b.toNat:Int)=95))
def a2o (s:List UInt8):Bool:=match s with|[]=>false|b::_=>decide (97<=(b.toNat:Int))&&decide ((b.toNat:Int)<=122)
theorem a6V {s:List UInt8}(h:0<s.length):a2o s=(decide (97<=(s[0].toNat:Int))&&decide ((s[0].toNat:Int)<=122)):=by
 cases s with
 |nil=>simp at h
 |cons b r=>rfl
def C4 (kw:List UInt8->Bool)(s:List UInt8):Bool:=decide (s.length<=24)&&(a2o s&&(s.all Y7&& !kw s))
theorem b8X (kw:List UInt8->Bool)(s:List UInt8)(hK:s.length<=24->Meets Tryz.prog 166 [.str s] λd=>d=bD (kw s)):Meets Tryz.prog 83 [.str s] λd=>d=bD (C4 kw s):=by
 refine enter tok {} Tryz.func83 rfl (by kernel_rfl) Tryz.ntmps83 (by simp) λB0 W0 V0 lent g0=>?_
 refine Kw ?_
 repeat'((first|(intro hlq;try simp only[SL] at hlq)|((refine Kh (λhb=>?_) λhb=>?_)<;>try simp only[BL] at hb)|refine K8 ?_)<;>refine Kw ?_)
 . refine⟨congrArg bD ?_⟩
   have:s=[]:=List.eq_nil_of_length_eq_zero (by omega)
   subst this
   simp[C4,a2o]
 . refine⟨congrArg bD ?_⟩
   rw[C4,decide_eq_false (by omega)];rfl
 . refine⟨congrArg bD ?_⟩
   rw[C4,a6V (by omega),decide_eq_false (by omega:¬97<=(s[0].toNat:Int))];simp
 . refine⟨congrArg bD ?_⟩
   rw[C4,a6V (by omega),decide_eq_false (by omega:¬(s[0].toNat:Int)<=122)];simp
 have hpos:0<s.length:=by omega
 have hf:a2o s=true:=by rw[a6V hpos,Bool.and_eq_true,decide_eq_true_eq,decide_eq_true_eq];omega
 have hl:s.length<=24:=by omega
 refine d4 tok {} [] (X:=Nat) (λi=>[(25,iB i)]) (λ_=>[]) [] (λi=>i<=s.length/\∀x∈s.take i,Y7 x=true) (λi=>s.length-i) 0 ?_
 refine Kw ?_
 refine And.intro ?_ ⟨⟨by omega,by simp⟩,λi hΦ=>?_⟩
 . exact Kr
 obtain⟨hi,hp⟩:=hΦ
 refine Kw ?_
 refine⟨λh1=>?_,λh1=>?_⟩<;>(try simp only[BL] at h1)<;>refine Kw ?_
 . have h1':i<s.length:=by omega
   repeat'((first|(intro hlq;try simp only[SL] at hlq)|((refine Kh (λhb=>?_) λhb=>?_)<;>try simp only[BL] at hb)|refine K8 ?_)<;>refine Kw ?_)
   all_goals first
    | (refine⟨congrArg bD ?_⟩
       have hc:Y7 s[i]=false:=by
        simp only[Y7,Bool.or_eq_false_iff,Bool.and_eq_false_iff,decide_eq_false_iff_not];omega
       simp only[C4,a3l (List.getElem_mem h1') hc,Bool.false_and,Bool.and_false]
       done)
    | (skip
       refine⟨⟨i+1,?_,⟨by omega,D2 h1' hp ?_⟩,by omega⟩⟩
       . exact Kr
       simp only[Y7,Bool.or_eq_true,Bool.and_eq_true,decide_eq_true_eq];omega)
 . refine Meets.k (hK hl) ?_
   refine Kw ?_
   refine⟨congrArg bD ?_⟩
   rw[C4,hf,a5y (by omega) hp,decide_eq_true hl]
   simp
end Go.Proofs.YteillnfhkeebjaaGreatDoor.Dx
/- Keywords,in the reference. -/
namespace Go.Proofs.YteillnfhkeebjaaGreatDoor.Dx
open Go Go.RowKit
set_option maxRecDepth 100000
set_option maxHeartbeats 8000000
def words:List (List UInt8):=[
 [99,111,117,114,115,101],
 [109,97,116,115],
 [115,116,97,114,116],
 [112,97,115,115],
 [101,110,100],
 [108,101,103],
 [116,111],
 [100,105,115,116,97,110,99,101],
 [103,117,110],
 [99,104,105,112],
 [115,108,111,116],
 [108,97,112,115],
 [108,97,112],
 [99,117,116,111,102,102],
 [101,120,116,114,97],
 [119,97,118,101],
 [111,102,102,101,110,99,101],
 [111,117,116],
 [99,97,116,101,103,111,114,121],
 [112,114,105,122,101],
 [97,108,108],
 [116,105,101,115],
 [105,102],
 [101,108,115,101],
 [97,110,100],
 [111,114],
 [110,111,116],
 [111,108,100,101,114],
 [121,111,117,110,103,101,114],
 [98,105,98],
 [100,114,97,119],
 [102,105,101,108,100],
 [115,104,111,114,116],
 [102,97,117,108,116,115],
 [109,105,115,115,101,115],
 [115,116,114,97,121,115],
 [119,105,110,100,111,119],
 [114,101,115,105,100,117,97,108],
 [100,114,105,102,116],
 [112,114,111,116,101,115,116],
 [102,101,101],
 [100,101,97,100,108,105,110,101]]
def kw (s:List UInt8):Bool:=words.contains s
end Go.Proofs.YteillnfhkeebjaaGreatDoor.Dx
