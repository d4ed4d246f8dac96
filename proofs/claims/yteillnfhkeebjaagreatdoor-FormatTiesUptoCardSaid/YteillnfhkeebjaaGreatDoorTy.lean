/- The walk of the law: conditions and tie rules that are printed and parsed mean the same. -/
import Derived.Test.YteillnfhkeebjaaGreatDoorTg
import Derived.Test.YteillnfhkeebjaaGreatDoorSv
import Derived.Test.YteillnfhkeebjaaGreatDoorTf
import Derived.Test.YteillnfhkeebjaaGreatDoorTv
import Derived.Test.YteillnfhkeebjaaGreatDoorTm
import Derived.Test.YteillnfhkeebjaaGreatDoorTx
set_option linter.all false
namespace Go.Proofs.YteillnfhkeebjaaGreatDoor.Dx
open Go Go.RowKit Go.Proofs
set_option maxRecDepth 100000
set_option maxHeartbeats 16000000
theorem a5V (c:Cond)(h:c.ok):c.cores.ok:=by
 have hc:=y8 c
 have ho:=Cond.ok_iff.1 (hc.ok h)
 have hsz:=hc.size
 have ih:∀p∈c.core.parts,p.cores.ok:=λp hp=>by
  have:=Cond.size_part hp
  exact a5V p (ho.2 p hp)
 rw[<-Cond.cores_core,Cond.cores_self hc.thin]
 refine Cond.ok_iff.2 ⟨by simpa using ho.1,λx hx=>?_⟩
 obtain⟨p,hp,rfl⟩:=List.mem_map.1 hx
 exact ih p hp
termination_by SizeOf.sizeOf c
decreasing_by omega
theorem a7B (s:Step)(h:s.ok):s.cores.ok:=by
 have ho:=Step.ok_iff.1 h
 have hz:=Step.szl s
 have hT:∀x∈s.th,x.cores.ok:=λx hx=>by
  have:=List.sizeOf_lt_of_mem hx
  have hlt:SizeOf.sizeOf x<SizeOf.sizeOf s:=by omega
  exact a7B x (ho.2.1.2 x hx)
 have hE:∀x∈s.el,x.cores.ok:=λx hx=>by
  have:=List.sizeOf_lt_of_mem hx
  have hlt:SizeOf.sizeOf x<SizeOf.sizeOf s:=by omega
  exact a7B x (ho.2.2.2 x hx)
 rw[Step.cores_eq]
 refine Step.ok_iff.2 ⟨?_,⟨by simpa using ho.2.1.1,λx hx=>?_⟩,by simpa using ho.2.2.1,λx hx=>?_⟩
 . dsimp only
   split
   . exact a5V _ ho.1
   . exact ho.1
 . obtain⟨p,hp,rfl⟩:=List.mem_map.1 hx
   exact hT p hp
 . obtain⟨p,hp,rfl⟩:=List.mem_map.1 hx
   exact hE p hp
termination_by SizeOf.sizeOf s
decreasing_by all_goals exact hlt
theorem c2c (a b:Cond):Meets Tryz.prog 18 [a.d,b.d] λd=>d=bD (l6 a b):=by
 refine enter tok {} Tryz.func18 rfl (by kernel_rfl) Tryz.ntmps18 (by simp) λB0 W0 V0 lent g0=>?_
 refine Kw ?_
 repeat'((first|(intro hlq;try simp only[SL] at hlq)|refine K9 ?_|((refine Kh (λhb=>?_) λhb=>?_)<;>try simp only[BL] at hb)|refine K8 ?_)<;>refine Kw ?_)
 refine(a7x a b).mono ?_
 rintro _ rfl
 refine Kw ?_
 exact⟨rfl⟩
theorem b3d (a b:List Step):Meets Tryz.prog 24 [.sl (a.map Step.cells), .sl (b.map Step.cells)] λd=>d=bD (l6 a b):=by
 refine enter tok {} Tryz.func24 rfl (by kernel_rfl) Tryz.ntmps24 (by simp) λB0 W0 V0 lent g0=>?_
 refine Kw ?_
 repeat'((first|(intro hlq;try simp only[SL] at hlq)|refine K9 ?_|((refine Kh (λhb=>?_) λhb=>?_)<;>try simp only[BL] at hb)|refine K8 ?_)<;>refine Kw ?_)
 refine(a7y a b).mono ?_
 rintro _ rfl
 refine Kw ?_
 exact⟨rfl⟩
theorem b6r {c:Cond}(h:c.errno=0):Meets Tryz.prog 16 [.sl (byteCells (a0t c))] λd=>d= .tup [c.cores.d,iD 0,iD 0]:=by
 have hb:=Q9 c (a7w h)
 have ht:=(b0E h).2
 have hl:c.pt.2.length<=65536:=by omega
 have:=b4y a9C c.pt.2 hl
 rw[b6v h hl] at this
 rw[a0t,if_pos h]
 exact this
theorem b3p {l:List Step}(h:p8 l=0):Meets Tryz.prog 22 [.sl (byteCells (U8 l))] λd=>d= .tup [.sl ((l.map Step.cores).map Step.cells),iD 0,iD 0]:=by
 obtain⟨_,hv,_,_,hn,hc⟩:=a4X h
 have hb:=a4R hv
 have hl:(g9 l).length<=65536:=by omega
 have:=b5d a9C (g9 l) hl
 rw[c3s h hl] at this
 rw[U8,if_pos h]
 exact this
theorem b8y {c:Cond}(hc:c.ok)(h:c.errno=0)(x:Env):Meets Tryz.prog 17 [c.cores.d,x.d] λd=>d= .tup [bD (M2 c x).1,iD (M2 c x).2]:=by
 have:=a8T c.cores x (a5V c hc)
 rw[b8z h] at this
 exact this
theorem b0o {l:List Step}(hl:l.length<=1048576)(hok:∀s∈l,s.ok)(h:p8 l=0)(x:Env):Meets Tryz.prog 23 [.sl ((l.map Step.cores).map Step.cells),x.d] λd=>d= .tup [.sl ((E3 l x).1.map r7),iD (E3 l x).2]:=by
 have:=a5n (l.map Step.cores) x (by simpa using hl) (λs hs=>by
  obtain⟨p,hp,rfl⟩:=List.mem_map.1 hs
  exact a7B p (hok p hp))
 rw[b7o h] at this
 exact this
theorem b3a (a b:List Int):Meets Tryz.prog 26 [.sl (a.map r7), .sl (b.map r7)] λd=>d=bD (decide (a=b)):=b5b a b
end Go.Proofs.YteillnfhkeebjaaGreatDoor.Dx
/- The walk of the law FormatTies. -/
namespace Go.Proofs.YteillnfhkeebjaaGreatDoor.Dx
open Go Go.RowKit Go.Proofs
set_option maxRecDepth 100000
set_option maxHeartbeats 16000000
theorem b4D (c:Cond)(hc:c.ok)(l:List Step)(hl:l.length<=1048576)(hok:∀s∈l,s.ok)(x:Env):Meets Tryz.prog 4 [c.d, .sl (l.map Step.cells),x.d] λr=>r=bD true:=by
 refine enter tok {} Tryz.func4 rfl (by kernel_rfl) Tryz.ntmps4 (by simp) λB0 W0 V0 lent g0=>?_
 refine Kw ?_
 repeat'((first|(intro hlq;try simp only[SL] at hlq)|refine Meets.k (sane8_meets.bl) ?_|(refine Meets.mono (b4E c) ?_;rintro _ ⟨_,rfl⟩)|(refine Meets.mono (b4F l) ?_;rintro _ ⟨_,rfl⟩)|refine K9 ?_|((refine Kh (λhb=>?_) λhb=>?_)<;>try simp only[BL] at hb)|refine K8 ?_)<;>refine Kw ?_)
 . cases hb
 . exact⟨rfl⟩
 . exact⟨rfl⟩
 repeat'((first|(intro hlq;try simp only[SL] at hlq)|refine Meets.k (a8R c hc) ?_|refine Meets.k (a7Y c hc) ?_|refine K9 ?_|((refine Kh (λhb=>?_) λhb=>?_)<;>try simp only[BL] at hb)|refine K8 ?_)<;>refine Kw ?_)
 . exact absurd rfl hb
 . have h0:=hb
   repeat'((first|(intro hlq;try simp only[SL] at hlq)|refine Meets.k (b6r h0) ?_|refine Meets.k (a8T c x hc) ?_|refine Meets.k (b8y hc h0 x) ?_|refine K9 ?_|((refine Kh (λhb=>?_) λhb=>?_)<;>try simp only[BL] at hb)|refine K8 ?_)<;>refine Kw ?_)
   refine k9 tok (cf:={}) (by kernel_rfl) [.p 0, .p 1, .p 2, .p 3, .p 4, .s 5 [4,2,1,0], .s 6 [3], .p 7, .p 8, .p 9, .p 10, .p 11, .p 12, .p 13, .p 14, .p 15, .p 16, .p 17, .p 18] (by kernel_rfl) ?_
   refine Kw ?_
   repeat'((first|(intro hlq;try simp only[SL] at hlq)|refine Meets.k (a7p c hc) ?_|refine Meets.k (c2c c.cores c.cores) ?_|refine K9 ?_|((refine Kh (λhb=>?_) λhb=>?_)<;>try simp only[BL] at hb)|refine K8 ?_)<;>refine Kw ?_)
   . exact absurd rfl hb
   . exact absurd rfl (sameB_niff.1 hb)
   . exact absurd rfl hb
   . exact absurd rfl hb
   repeat'((first|(intro hlq;try simp only[SL] at hlq)|refine Meets.k (a5p l hl hok) ?_|refine Meets.k (a2K l hl hok) ?_|refine K9 ?_|((refine Kh (λhb=>?_) λhb=>?_)<;>try simp only[BL] at hb)|refine K8 ?_)<;>refine Kw ?_)
   . exact absurd rfl hb
   . refine⟨congrArg bD ?_⟩
     rw[U8,if_neg hb];rfl
   . have h1:p8 l=0:=Classical.not_not.1 hb
     repeat'((first|(intro hlq;try simp only[SL] at hlq)|refine Meets.k (b3p h1) ?_|refine Meets.k (a5n l x hl hok) ?_|refine Meets.k (b0o hl hok h1 x) ?_|refine K9 ?_|((refine Kh (λhb=>?_) λhb=>?_)<;>try simp only[BL] at hb)|refine K8 ?_)<;>refine Kw ?_)
     repeat'((first|(intro hlq;try simp only[SL] at hlq)|refine Meets.k (a4x l hl hok) ?_|refine Meets.k (b3d (l.map Step.cores) (l.map Step.cores)) ?_|refine Meets.k (b3a (E3 l x).1 (E3 l x).1) ?_|refine K9 ?_|((refine Kh (λhb=>?_) λhb=>?_)<;>try simp only[BL] at hb)|refine K8 ?_)<;>refine Kw ?_)
     . exact⟨congrArg bD (decide_eq_true rfl)⟩
     . exact absurd True.intro hb
     . exact absurd rfl (sameB_niff.1 hb)
     . exact absurd True.intro hb
 repeat'((first|(intro hlq;try simp only[SL] at hlq)|refine Meets.k (a5p l hl hok) ?_|refine Meets.k (a2K l hl hok) ?_|refine K9 ?_|((refine Kh (λhb=>?_) λhb=>?_)<;>try simp only[BL] at hb)|refine K8 ?_)<;>refine Kw ?_)
 . exact absurd rfl hb
 . refine⟨congrArg bD ?_⟩
   rw[U8,if_neg hb];rfl
 . have h1:p8 l=0:=Classical.not_not.1 hb
   repeat'((first|(intro hlq;try simp only[SL] at hlq)|refine Meets.k (b3p h1) ?_|refine Meets.k (a5n l x hl hok) ?_|refine Meets.k (b0o hl hok h1 x) ?_|refine K9 ?_|((refine Kh (λhb=>?_) λhb=>?_)<;>try simp only[BL] at hb)|refine K8 ?_)<;>refine Kw ?_)
   repeat'((first|(intro hlq;try simp only[SL] at hlq)|refine Meets.k (a4x l hl hok) ?_|refine Meets.k (b3d (l.map Step.cores) (l.map Step.cores)) ?_|refine Meets.k (b3a (E3 l x).1 (E3 l x).1) ?_|refine K9 ?_|((refine Kh (λhb=>?_) λhb=>?_)<;>try simp only[BL] at hb)|refine K8 ?_)<;>refine Kw ?_)
   . exact⟨congrArg bD (decide_eq_true rfl)⟩
   . exact absurd True.intro hb
   . exact absurd rfl (sameB_niff.1 hb)
   . exact absurd True.intro hb
end Go.Proofs.YteillnfhkeebjaaGreatDoor.Dx
