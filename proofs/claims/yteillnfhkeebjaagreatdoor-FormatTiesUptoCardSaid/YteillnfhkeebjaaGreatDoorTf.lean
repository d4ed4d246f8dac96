/- Same,in the reference. -/
import Derived.Test.YteillnfhkeebjaaGreatDoorTe
import Derived.Test.YteillnfhkeebjaaGreatDoorSz
set_option linter.all false
namespace Go.Proofs.YteillnfhkeebjaaGreatDoor.Dx
open Go Go.RowKit Go.Proofs
set_option maxRecDepth 100000
set_option maxHeartbeats 32000000
theorem a7x (a b:Cond):Meets Tryz.prog 69 [a.d,b.d] λd=>d=bD (l6 a b):=by
 have hp:∀x∈a.parts,∀y,Meets Tryz.prog 69 [x.d,y.d] λd=>d=bD (l6 x y):=λx hx y=>by
  have:=Cond.size_part hx
  exact a7x x y
 refine enter tok {} Tryz.func69 rfl (by kernel_rfl) Tryz.ntmps69 (by simp) λB0 W0 V0 lent g0=>?_
 refine Kw ?_
 repeat'((first|(intro hlq;try simp only[SL] at hlq)|refine K9 ?_|((refine Kh (λhb=>?_) λhb=>?_)<;>try simp only[BL] at hb)|refine K8 ?_)<;>refine Kw ?_)
 all_goals try
  refine⟨congrArg bD ?_⟩
  exact(o9 (λe=>by rw[Cond.e_iff] at e;simp_all)).symm
  done
 . skip
   have hl:a.parts.length=b.parts.length:=by omega
   refine d4 tok {} [] (X:=Nat) (λi=>[(5,iB i)]) (λ_=>[]) [] (λi=>i<=a.parts.length/\a.parts.take i=b.parts.take i) (λi=>a.parts.length-i) 0 ?_
   refine Kw ?_
   refine And.intro ?_ ⟨⟨by omega,rfl⟩,λi hΦ=>?_⟩
   . exact Kr
   obtain⟨hi,hq⟩:=hΦ
   refine Kw ?_
   repeat'((first|(intro hlq;try simp only[SL] at hlq)|refine K9 ?_|refine K8 ?_)<;>refine Kw ?_)
   refine⟨λh1=>?_,λh1=>?_⟩<;>(try simp only[BL] at h1)<;>refine Kw ?_
   . have h1':i<a.parts.length:=by omega
     have h2':i<b.parts.length:=by omega
     refine k9 tok (cf:={}) (by kernel_rfl) [.p 0, .p 1, .p 2, .p 3, .p 4, .p 5, .p 6, .p 7, .p 8, .p 9, .s 10 [4,9,3,8,1,2,6,7,0,5], .p 11] (by kernel_rfl) ?_
     refine Kw ?_
     repeat'((first|(intro hlq;try simp only[SL] at hlq)|refine Meets.k (hp a.parts[i] (List.getElem_mem h1') b.parts[i]) ?_|refine K9 ?_|((refine Kh (λhb=>?_) λhb=>?_)<;>try simp only[BL] at hb)|refine K8 ?_)<;>refine Kw ?_)
     . exact⟨congrArg bD (o9 λe=>G0 h1' h2' (sameB_niff.1 (by assumption)) (by rw[e])).symm⟩
     . refine⟨⟨i+1,?_,⟨by omega,G5 h1' h2' hq (sameB_iff.1 (by assumption))⟩,by omega⟩⟩
       repeat'(first|exact True.intro|exact rfl|refine And.intro ?_ ?_)
   . refine⟨congrArg bD (E7 ?_).symm⟩
     have:=G4 (by omega) hl hq
     rw[Cond.e_iff]
     exact⟨by omega,by omega,by omega,this⟩
termination_by SizeOf.sizeOf a
decreasing_by assumption
theorem a7y (xs ys:List Step):Meets Tryz.prog 77 [.sl (xs.map Step.cells), .sl (ys.map Step.cells)] λd=>d=bD (l6 xs ys):=by
 have hp:∀x∈xs,∀y:Step,Meets Tryz.prog 77 [.sl (x.th.map Step.cells), .sl (y.th.map Step.cells)] λd=>d=bD (l6 x.th y.th):=λx hx y=>by
  have:=List.sizeOf_lt_of_mem hx
  have:=Step.szl x
  have hlt:SizeOf.sizeOf x.th<SizeOf.sizeOf xs:=by omega
  exact a7y x.th y.th
 have hr:∀x∈xs,∀y:Step,Meets Tryz.prog 77 [.sl (x.el.map Step.cells), .sl (y.el.map Step.cells)] λd=>d=bD (l6 x.el y.el):=λx hx y=>by
  have:=List.sizeOf_lt_of_mem hx
  have:=Step.szl x
  have hlt:SizeOf.sizeOf x.el<SizeOf.sizeOf xs:=by omega
  exact a7y x.el y.el
 refine enter tok {} Tryz.func77 rfl (by kernel_rfl) Tryz.ntmps77 (by simp) λB0 W0 V0 lent g0=>?_
 refine Kw ?_
 repeat'((first|(intro hlq;try simp only[SL] at hlq)|refine K9 ?_|refine K8 ?_)<;>refine Kw ?_)
 refine⟨λh0=>?_,λh0=>?_⟩<;>(try simp only[BL] at h0)<;>refine Kw ?_
 . exact⟨congrArg bD (o9 (I1 (by simpa using h0))).symm⟩
 have hl:xs.length=ys.length:=by omega
 refine d4 tok {} [] (X:=Nat) (λi=>[(5,iB i)]) (λ_=>[]) [] (λi=>i<=xs.length/\xs.take i=ys.take i) (λi=>xs.length-i) 0 ?_
 refine Kw ?_
 refine And.intro ?_ ⟨⟨by omega,rfl⟩,λi hΦ=>?_⟩
 . exact Kr
 obtain⟨hi,hq⟩:=hΦ
 refine Kw ?_
 repeat'((first|(intro hlq;try simp only[SL] at hlq)|refine K9 ?_|refine K8 ?_)<;>refine Kw ?_)
 refine⟨λh1=>?_,λh1=>?_⟩<;>(try simp only[BL] at h1)<;>refine Kw ?_
 . have h1':i<xs.length:=by omega
   have h2':i<ys.length:=by omega
   refine k9 tok (cf:={}) (by kernel_rfl) [.p 0, .p 1, .p 2, .p 3, .p 4, .p 5, .p 6, .p 7, .p 8, .p 9, .p 10, .p 11, .p 12, .p 13, .p 14, .p 15, .p 16, .p 17, .p 18, .p 19, .p 20, .p 21, .p 22, .p 23, .p 24, .p 25, .p 26, .p 27, .p 28, .p 29, .p 30, .p 31, .p 32, .p 33, .p 34, .s 35 [29,34,24,28,33,23,11,27,32,22,10,25,26,30,31,16,21,4,9,15,20,3,8,14,19,2,7,12,13,17,18,0,1,5,6], .p 36, .p 37, .p 38, .p 39, .p 40, .p 41, .p 42, .p 43, .p 44, .p 45, .p 46, .p 47, .p 48, .s 49 [43,48,38,42,47,37,41,46,36,39,40,44,45], .p 50, .p 51, .p 52, .p 53, .p 54, .p 55, .p 56, .p 57, .p 58, .p 59, .p 60, .p 61, .p 62, .s 63 [57,62,52,56,61,51,55,60,50,53,54,58,59], .p 64, .p 65] (by kernel_rfl) ?_
   refine Kw ?_
   repeat'((first|(intro hlq;try simp only[SL] at hlq)|refine Meets.k (a7x xs[i].cond ys[i].cond) ?_|refine Meets.k (hp xs[i] (List.getElem_mem h1') ys[i]) ?_|refine Meets.k (hr xs[i] (List.getElem_mem h1') ys[i]) ?_|refine K9 ?_|((refine Kh (λhb=>?_) λhb=>?_)<;>try simp only[BL] at hb)|refine Ka ?_|refine Kb ?_|refine Kc (hd:=rfl) (e:=?_)|refine Kc (hd:=Step.cells_eq _) (e:=?_)|refine Kd (e:=?_)|refine Kl rfl ?_|fail)<;>refine Kw ?_)
   clear hp hr
   all_goals
    first
     | (refine⟨congrArg bD (o9 (G0 h1' h2' λe=>?_)).symm⟩
        rw[Step.e_iff] at e
        (try simp only[sameB_iff,sameB_niff] at *)
        simp_all
        done)
     | (refine⟨⟨i+1,?_,⟨by omega,G5 h1' h2' hq (Step.e_iff.2 ⟨by omega,by omega,sameB_iff.1 (by assumption),sameB_iff.1 (by assumption),sameB_iff.1 (by assumption)⟩)⟩,by omega⟩⟩
        (repeat'(first|exact True.intro|exact rfl|refine And.intro ?_ ?_)))
 . exact⟨congrArg bD (E7 (G4 (by omega) hl hq)).symm⟩
termination_by SizeOf.sizeOf xs
decreasing_by all_goals assumption
end Go.Proofs.YteillnfhkeebjaaGreatDoor.Dx
/- Texts tell apart: words,numbers,times (plain law). -/
namespace Go.Proofs.YteillnfhkeebjaaGreatDoor.Dx
open Go Go.RowKit Go.Proofs
set_option maxRecDepth 100000
set_option maxHeartbeats 4000000
theorem cut (p:UInt8->Bool):∀{x y s t:List UInt8},(∀b∈x,p b=true)->(∀b∈y,p b=true)->(∀b,s.head?=some b->p b=false)->(∀b,t.head?=some b->p b=false)->x++s=y++t->x=y/\s=t
 |[],[],s,t,_,_,_,_,h=>⟨rfl,h⟩
 | [],b::y,s,t,_,hy,hs,_,h=>by
   have h:s=b::(y++t):=h
   have:=hs b (by rw[h];rfl)
   rw[hy b (by simp)] at this;cases this
 | b::x,[],s,t,hx,_,_,ht,h=>by
   have h:b::(x++s)=t:=h
   have:=ht b (by rw[<-h];rfl)
   rw[hx b (by simp)] at this;cases this
 | b::x,c::y,s,t,hx,hy,hs,ht,h=>by
   simp only[List.cons_append,List.cons.injEq] at h
   obtain⟨rfl,h⟩:=h
   obtain⟨h1,h2⟩:=cut p (λz hz=>hx z (List.mem_cons_of_mem _ hz)) (λz hz=>hy z (List.mem_cons_of_mem _ hz)) hs ht h
   exact⟨by rw[h1],h2⟩
def wch (b:UInt8):Bool:=Y7 b||(decide (b=58)||decide (b=46))
def Wd (x:List UInt8):Prop:=∀b∈x,wch b=true
theorem Wd.cut {x y:List UInt8}{d e:UInt8}{s t:List UInt8}(hx:Wd x)(hy:Wd y)(h:x++d::s=y++e::t)(hd:wch d=false:=by decide)(he:wch e=false:=by decide):x=y/\d=e/\s=t:=by
 obtain⟨h1,h2⟩:=Dx.cut wch hx hy (by simpa using hd) (by simpa using he) h
 rw[List.cons.injEq] at h2
 exact⟨h1,h2.1,h2.2⟩
theorem Wd.nil:Wd []:=by intro b h;cases h
theorem Wd.app {x y:List UInt8}(hx:Wd x)(hy:Wd y):Wd (x++y):=by
 intro b hb
 rcases List.mem_append.1 hb with h|h
 . exact hx b h
 . exact hy b h
theorem Wd.cons {x:List UInt8}{b:UInt8}(h:wch b=true)(hx:Wd x):Wd (b::x):=by
 intro c hc
 rcases List.mem_cons.1 hc with rfl|hc
 . exact h
 . exact hx c hc
theorem Wd.name {kw:List UInt8->Bool}{s:List UInt8}(h:C4 kw s=true):Wd s:=by
 simp only[C4,Bool.and_eq_true,List.all_eq_true] at h
 intro b hb
 simp only[wch,h.2.2.1 b hb,Bool.true_or]
theorem Wd.sub {x y:List UInt8}(h:∀b∈x,b∈y)(hy:Wd y):Wd x:=λb hb=>hy b (h b hb)
def dch (b:UInt8):Bool:=decide (48<=b.toNat)&&decide (b.toNat<=57)
theorem b0d {k:Nat}(h:k<10):dch (UInt8.ofNat (48+k))=true:=by
 have:∀k:Fin 10,dch (UInt8.ofNat (48+k.1))=true:=by decide
 exact this ⟨k,h⟩
theorem b0e {b:UInt8}(h:dch b=true):wch b=true:=by
 simp only[dch,Bool.and_eq_true,decide_eq_true_eq] at h
 simp only[wch,Y7,Bool.or_eq_true,Bool.and_eq_true,decide_eq_true_eq]
 omega
theorem b7c:∀(u:Nat),∀b∈Lib.decDigits u,dch b=true:=by
 intro u
 induction u using Nat.strongRecOn with
 | _ u ih=>
   intro b hb
   by_cases h:u<10
   . rw[Lib.decDigits_one h] at hb
     rw[List.mem_singleton.1 hb];exact b0d h
   . rw[Lib.decDigits,dif_neg h] at hb
     rcases List.mem_append.1 hb with hb|hb
     . exact ih _ (by omega) b hb
     . rw[List.mem_singleton.1 hb];exact b0d (by omega)
theorem a6F {n:Int}(h:0<=n):∀b∈Lib.itoa n,dch b=true:=by
 rw[Lib.itoa,if_neg (by omega)];exact b7c _
theorem Wd.itoa {n:Int}(h:0<=n):Wd (Lib.itoa n):=λb hb=>b0e (a6F h b hb)
theorem c3R {n:Int}(h0:0<=n)(h1:n<100):∀b∈L3 n,dch b=true:=by
 rw[c3S h0 h1]
 intro b hb
 rcases List.mem_append.1 hb with hb|hb
 . exact a6F (by omega) b hb
 . exact a6F (by omega) b hb
theorem Wd.two {n:Int}(h0:0<=n)(h1:n<100):Wd (L3 n):=λb hb=>b0e (c3R h0 h1 b hb)
end Go.Proofs.YteillnfhkeebjaaGreatDoor.Dx
/- Texts tell apart: conditions (plain law). -/
namespace Go.Proofs.YteillnfhkeebjaaGreatDoor.Dx
open Go Go.RowKit Go.Proofs
set_option maxRecDepth 100000
set_option maxHeartbeats 4000000
mutual
def Cond.cores:Cond->Cond
 | ⟨k,v,n,ps⟩=>match Cond.coresL ps with
   |[x]=>if k=2\/k=3 then x else⟨k,v,n,[x]⟩
   |l=>⟨k,v,n,l⟩
def Cond.coresL:List Cond->List Cond
 |[]=>[]
 |c::cs=>c.cores::Cond.coresL cs
end
theorem Cond.coresL_eq:∀l:List Cond,Cond.coresL l=l.map Cond.cores:=by
 intro l;induction l with|nil=>rfl|cons c l ih=>simp[Cond.coresL,ih]
theorem Cond.cores_thin {c p:Cond}(h:c.kind=2\/c.kind=3)(hp:c.parts=[p]):c.cores=p.cores:=by
 obtain⟨k,v,n,ps⟩:=c
 dsimp only at h hp
 subst hp
 simp only[Cond.cores,Cond.coresL,if_pos h]
theorem Cond.cores_self {c:Cond}(h:c.thin=false):c.cores=⟨c.kind,c.var,c.n,c.parts.map Cond.cores⟩:=by
 obtain⟨k,v,n,ps⟩:=c
 simp only[Cond.cores,Cond.coresL_eq]
 split
 . rename_i x hx
   rw[if_neg]
   . rw[hx]
   intro hk
   have hl:ps.length=1:=by have:=congrArg List.length hx;simpa using this
   simp only[Cond.thin,Bool.and_eq_false_iff,Bool.or_eq_false_iff,decide_eq_false_iff_not] at h
   omega
 . rfl
theorem Cond.cores_core (c:Cond):c.core.cores=c.cores:=by
 cases ht:c.thin with
 |false=>rw[Cond.core_self ht]
 | true=>
   obtain⟨hk,p,hp⟩:=Cond.thin_cases ht
   have hsz:=Cond.size_part (show p∈c.parts by simp[hp])
   rw[Cond.core_thin hk hp,Cond.cores_thin hk hp]
   exact Cond.cores_core p
termination_by SizeOf.sizeOf c
decreasing_by exact hsz
def Hd (s:List UInt8):Prop:=∀b,s.head?=some b->wch b=false
def NoAnd (s:List UInt8):Prop:=Hd s/\∀u,s≠[32,97,110,100,32]++u
def Stop (s:List UInt8):Prop:=NoAnd s/\∀u,s≠[32,111,114,32]++u
theorem Hd.cons {b:UInt8}{s:List UInt8}(h:wch b=false:=by decide):Hd (b::s):=by intro c hc;simp only[List.head?_cons,Option.some.injEq] at hc;rw[<-hc];exact h
theorem NoAnd.or {s:List UInt8}:NoAnd ([32,111,114,32]++s):=⟨.cons,λu h=>by simp at h⟩
def v8 (c:Cond):List UInt8:=C5 c.pt
def z6 (c:Cond):List UInt8:=E6 c.pt
def a5A (c:Cond):List Cond:=if c.kind=2 then c.parts else[c]
def orL (c:Cond):List Cond:=if c.kind=3 then c.parts else[c]
theorem b6M {c:Cond}(hv:c.valid=true)(ht:c.thin=false):
 (c.kind=1/\1<=c.var/\c.var<=3/\0<=c.n/\c.parts=[])\/(c.kind=4/\c.var=0/\c.n=0/\∃p,c.parts=[p])\/((c.kind=2\/c.kind=3)/\c.var=0/\c.n=0/\2<=c.parts.length):=by
 rw[Cond.valid_eq] at hv
 split at hv
 . simp only[Bool.and_eq_true,inR,decide_eq_true_eq] at hv
   exact .inl ⟨by assumption,by omega,by omega,by omega,List.eq_nil_of_length_eq_zero (by omega)⟩
 . split at hv
   . simp only[Bool.and_eq_true,decide_eq_true_eq] at hv
     exact .inr (.inl ⟨by assumption,hv.1.1,hv.1.2,List.length_eq_one_iff.1 (by omega)⟩)
   . split at hv
     . simp only[Bool.and_eq_true,decide_eq_true_eq] at hv
       refine .inr (.inr ⟨by assumption,hv.1.1,hv.1.2,?_⟩)
       simp only[Cond.thin,Bool.and_eq_false_iff,Bool.or_eq_false_iff,decide_eq_false_iff_not] at ht
       omega
     . cases hv
theorem a2Q {c:Cond}(ht:c.thin=false)(h2:c.kind≠2)(h3:c.kind≠3):v8 c=c.pt.2:=by
 rw[v8,C5,Cond.pt_core ht,if_neg (by simp[h2,h3])]
theorem b3H {c:Cond}(ht:c.thin=false)(h:c.kind=2\/c.kind=3):v8 c=40::(c.pt.2++[41]):=by
 rw[v8,C5,Cond.pt_core ht,if_pos h];rfl
theorem T9 {c:Cond}(ht:c.thin=false)(h3:c.kind≠3):z6 c=c.pt.2:=by
 rw[z6,E6,Cond.pt_core ht,if_neg (by simp[h3])]
theorem b1L {c:Cond}(ht:c.thin=false)(h:c.kind=3):z6 c=v8 c:=by
 rw[z6,E6,v8,C5,Cond.pt_core ht,if_pos h,if_pos (.inr h)]
theorem b9P {c:Cond}(ht:c.thin=false):z6 c=Lib.join ((a5A c).map v8) [32,97,110,100,32]:=by
 rw[a5A]
 split
 . rename_i h2
   rw[T9 ht (by omega),Cond.pt_core ht,L1,if_neg (by omega),if_neg (by omega),if_pos h2,List.map_map];rfl
 . rw[List.map_cons,List.map_nil,Lib.join_one]
   by_cases h3:c.kind=3
   . exact b1L ht h3
   . rw[T9 ht h3,a2Q ht (by assumption) h3]
theorem c3r {c:Cond}(hv:c.valid=true)(ht:c.thin=false):c.pt.2=Lib.join ((orL c).map z6) [32,111,114,32]:=by
 rw[orL]
 split
 . rename_i h3
   rw[Cond.pt_core ht,L1,if_neg (by omega),if_neg (by omega),if_neg (by omega),List.map_map];rfl
 . rw[List.map_cons,List.map_nil,Lib.join_one,T9 ht (by assumption)]
structure Tells (c:Cond):Prop where
 tight:∀d:Cond,d.valid=true->∀s t,v8 c++s=v8 d++t->Hd s->Hd t->c.cores=d.cores/\s=t
 loose:∀d:Cond,d.valid=true->∀s t,z6 c++s=z6 d++t->NoAnd s->NoAnd t->c.cores=d.cores/\s=t
 text:∀d:Cond,d.valid=true->∀s t,c.pt.2++s=d.pt.2++t->Stop s->Stop t->c.cores=d.cores/\s=t
theorem b9x {c:Cond}(ht:c.thin=false)(h:c.kind=1)(s:List UInt8):v8 c++s=a1i c.var++32::62::61::32::(Lib.itoa c.n++s):=by
 rw[a2Q ht (by omega) (by omega),Cond.pt_core ht,L1,if_pos h]
 simp only[List.append_assoc,List.cons_append,List.nil_append]
theorem c0G {c p:Cond}(ht:c.thin=false)(h:c.kind=4)(hp:c.parts=[p])(s:List UInt8):v8 c++s=110::111::116::32::(v8 p++s):=by
 rw[a2Q ht (by omega) (by omega),Cond.pt_core ht,L1,if_neg (by omega),if_pos h,hp,List.map_cons,List.map_nil,List.map_cons,List.map_nil,Lib.join_one]
 simp only[List.cons_append,List.nil_append];rfl
theorem c3w (c:Cond):v8 c.core=v8 c:=by rw[v8,v8,(y8 c).pt]
theorem b9N (c:Cond):z6 c.core=z6 c:=by rw[z6,z6,(y8 c).pt]
end Go.Proofs.YteillnfhkeebjaaGreatDoor.Dx
/- Texts tell apart: steps,parts of routes (plain law). -/
namespace Go.Proofs.YteillnfhkeebjaaGreatDoor.Dx
open Go Go.RowKit Go.Proofs
set_option maxRecDepth 100000
set_option maxHeartbeats 4000000
mutual
def Step.cores:Step->Step
 |⟨k,b,c,t,e⟩=>⟨k,b,if k=2 then c.cores else c,Step.coresL t,Step.coresL e⟩
def Step.coresL:List Step->List Step
 |[]=>[]
 |c::cs=>c.cores::Step.coresL cs
end
theorem Step.coresL_eq:∀l:List Step,Step.coresL l=l.map Step.cores:=by
 intro l;induction l with|nil=>rfl|cons c l ih=>simp[Step.coresL,ih]
theorem Step.cores_eq (s:Step):s.cores=⟨s.kind,s.crit,if s.kind=2 then s.cond.cores else s.cond,s.th.map Step.cores,s.el.map Step.cores⟩:=by
 obtain⟨k,b,c,t,e⟩:=s;simp only[Step.cores,Step.coresL_eq]
def Course.cores (c:Course):Course:={c with ties:=c.ties.map Step.cores}
theorem Step.zero {s:Step}(h:s.valid=true)(hk:s.kind=1):s.cond=⟨0,0,0,[]⟩/\s.th=[]/\s.el=[]:=by
 rw[Step.valid_eq,if_pos hk] at h
 simp only[Bool.and_eq_true,decide_eq_true_eq,Cond.isZero] at h
 obtain⟨_,⟨h1,h2,h3,h4⟩,h5,h6⟩:=h
 refine⟨?_,List.eq_nil_of_length_eq_zero (by omega),List.eq_nil_of_length_eq_zero (by omega)⟩
 obtain⟨k,b,⟨ck,cv,cn,cp⟩,t,e⟩:=s
 dsimp only at h1 h2 h3 h4⊢
 rw[h1,h2,h3,List.eq_nil_of_length_eq_zero (by omega:cp.length=0)]
theorem c3U {s:Step}(h:s.kind=1)(u:List UInt8):s.tx++u=y9 s.crit++59::u:=by
 rw[Step.tx_eq,if_pos h];simp only[List.append_assoc,List.cons_append,List.nil_append]
theorem b3V {s:Step}(h:s.kind=2)(u:List UInt8):s.tx++u=105::102::32::(s.cond.pt.2++32::123::32::(g9 s.th++32::125::((if 0<s.el.length then[32,101,108,115,101,32,123,32]++g9 s.el++[32,125] else[])++u))):=by
 rw[Step.tx_eq,if_neg (by omega),ifT]
 simp only[List.append_assoc,List.cons_append,List.nil_append,decide_eq_true_eq]
theorem b1N {ms:List Mat}(h:nmL (ms.map (·.name))=true)(i:Int):Wd (r8 ms i):=by
 unfold r8
 split
 . rename_i m hm
   simp only[nmL,Bool.and_eq_true,List.all_eq_true] at h
   exact Wd.name (h.1 _ (List.mem_map.2 ⟨m,List.mem_of_getElem? hm,rfl⟩))
 . exact .nil
theorem b9Z {ms:List Mat}(h:nmL (ms.map (·.name))=true){i:Int}(hi:0<=i)(hi':i<=((ms.map Mat.cells).length:Int)-1):∃b r,r8 ms i=b::r/\wch b=true:=by
 simp only[List.length_map] at hi'
 have a:ms[i.toNat]?=some ms[i.toNat]:=List.getElem?_eq_getElem (by omega)
 have hw:=b1N h i
 simp only[nmL,Bool.and_eq_true,List.all_eq_true] at h
 have:=h.1 _ (List.mem_map.2 ⟨_,List.mem_of_getElem? a,rfl⟩)
 simp only[C4,Bool.and_eq_true] at this
 simp only[r8,a] at hw⊢
 match hn:(ms[i.toNat]).name,this with
 |[],q=>rw[a2o] at q;simp at q
 |b::r,_=>exact⟨b,r,rfl,hw b (by rw[hn];simp)⟩
theorem Part.facts {m:Int}{p:Part}(h:p.good m=true):(p.laps=0/\0<=p.mat/\p.mat<=m/\p.parts=[])\/(1<=p.laps/\p.mat=0/\∀x∈p.parts,x.good m=true):=by
 rw[Part.good_eq] at h
 split at h
 . simp only[Bool.and_eq_true,inR,decide_eq_true_eq] at h
   exact .inl ⟨by assumption,h.1.1,h.1.2,List.eq_nil_of_length_eq_zero (by omega)⟩
 . simp only[Bool.and_eq_true,inR,decide_eq_true_eq,List.all_eq_true] at h
   exact .inr ⟨h.1.1,h.2.1,h.2.2.2⟩
theorem b2C {ms:List Mat}{p:Part}(h:p.laps=0)(u:List UInt8):p.tx ms++u=r8 ms p.mat++59::u:=by
 rw[Part.tx_eq,if_pos h];simp only[List.append_assoc,List.cons_append,List.nil_append]
theorem b2A {ms:List Mat}{p:Part}(h:p.laps≠0)(u:List UInt8):p.tx ms++u=[108,97,112,115]++32::(Lib.itoa p.laps++32::123::32::(D1 ms p.parts++32::125::u)):=by
 rw[Part.tx_eq,if_neg h];simp only[List.append_assoc,List.cons_append,List.nil_append]
theorem Wd.laps:Wd [108,97,112,115]:=by intro b hb;revert b;decide
theorem c1g {ms:List Mat}(hn:nmL (ms.map (·.name))=true){p:Part}(h:p.good (((ms.map Mat.cells).length:Int)-1)=true):∃b r,p.tx ms=b::r/\wch b=true:=by
 rcases Part.facts h with⟨k,h0,h1,_⟩|⟨k,_⟩
 . have e:=b2C (ms:=ms) k []
   obtain⟨b,r,e2,hw⟩:=b9Z hn h0 h1
   rw[List.append_nil,e2] at e
   exact⟨b,_,e,hw⟩
 . have e:=b2A (ms:=ms) (by omega:p.laps≠0) []
   rw[List.append_nil] at e
   exact⟨_,_,e,by decide⟩
def PE (ms:List Mat)(s:List UInt8):Prop:=∀x:Part,x.good (((ms.map Mat.cells).length:Int)-1)=true->∀u,s≠32::(x.tx ms++u)/\s≠x.tx ms++u
theorem PE.word {ms:List Mat}(hn:nmL (ms.map (·.name))=true){w s:List UInt8}(hw:Wd w)(hl:w≠[108,97,112,115]):PE ms (32::(w++32::s)):=by
 intro x hx u
 constructor
 . intro e
   rw[List.cons.injEq] at e
   have e:=e.2
   rcases Part.facts hx with⟨k,h0,h1,h2⟩|⟨k,h0,h1⟩
   . rw[b2C k] at e
     exact absurd (hw.cut (b1N hn _) e).2.1 (by decide)
   . rw[b2A (by omega)] at e
     exact hl (hw.cut .laps e).1
 . intro e
   obtain⟨b,r,e2,h⟩:=c1g hn hx
   rw[e2,List.cons_append,List.cons.injEq] at e
   rw[<-e.1] at h;exact absurd h (by decide)
end Go.Proofs.YteillnfhkeebjaaGreatDoor.Dx
/- CoreCourse: cores of conditions,of steps,of a course. -/
namespace Go.Proofs.YteillnfhkeebjaaGreatDoor.Dx
open Go Go.RowKit Go.Proofs
set_option maxRecDepth 100000
set_option maxHeartbeats 16000000
theorem b6N (l:List Cond):l.map (λp=>p.cores.dc)=(l.map Cond.cores).map Cond.cells:=by
 rw[List.map_map]
 exact List.map_congr_left λp _=>(Cond.cells_eq _).symm
theorem c2e (l:List Step):l.map (λp=>p.cores.dc)=(l.map Step.cores).map Step.cells:=by
 rw[List.map_map]
 exact List.map_congr_left λp _=>(Step.cells_eq _).symm
theorem a7p (c:Cond)(hok:c.ok):Meets Tryz.prog 19 [c.d] λd=>d=c.cores.d:=by
 have hc:=y8 c
 have hoc:=Cond.ok_iff.1 (hc.ok hok)
 have hp:∀p∈c.core.parts,Meets Tryz.prog 19 [p.d] λd=>d=p.cores.d:=λp hp=>by
  have hlt:SizeOf.sizeOf p<SizeOf.sizeOf c:=Nat.lt_of_lt_of_le (Cond.size_part hp) hc.size
  exact a7p p (hoc.2 p hp)
 have hcs:c.cores=⟨c.core.kind,c.core.var,c.core.n,c.core.parts.map Cond.cores⟩:=by rw[<-Cond.cores_core,Cond.cores_self hc.thin]
 have hco:=c1A c
 have hl:=hoc.1
 rw[hcs]
 clear hcs hc hoc
 generalize c.core=k at *
 refine enter tok {} Tryz.func19 rfl (by kernel_rfl) Tryz.ntmps19 (by simp) λB0 W0 V0 lent g0=>?_
 refine Kw ?_
 refine Meets.k hco ?_
 refine Kw ?_
 refine d4 tok {} [(.inl 3,3,47,4)] (X:=Nat) (λi=>[(4,iB i),(3, .own 3)]) (λi=>[(3, .sl ⟨47,4,(k.parts.take i).map (λp=>p.cores.dc),true⟩)]) [] (λi=>i<=k.parts.length) (λi=>k.parts.length-i) 0 ?_
 refine Kw ?_
 refine⟨by simp,?_⟩
 refine Kw ?_
 refine And.intro ?_ ⟨by omega,λi hi=>?_⟩
 . exact Kr
 refine Kw ?_
 repeat'((first|(intro hlq;try simp only[SL] at hlq)|refine K9 ?_|refine K8 ?_)<;>refine Kw ?_)
 refine⟨λh1=>?_,λh1=>?_⟩<;>(try simp only[BL] at h1)<;>refine Kw ?_
 . have h1':i<k.parts.length:=by omega
   repeat'((first|(intro hlq;try simp only[SL] at hlq)|refine Meets.k (hp k.parts[i] (List.getElem_mem h1')) ?_|refine K9 ?_|((refine Kh (λhb=>?_) λhb=>?_)<;>try simp only[BL] at hb)|refine K8 ?_)<;>refine Kw ?_)
   refine⟨by simp,?_⟩
   refine Kw ?_
   refine⟨λh1 h2=>?_,?_⟩
   . simp only[maxLen,List.length_map,List.length_take,List.length_cons,List.length_nil] at *
     omega
   refine Kw ?_
   repeat'((first|(intro hlq;try simp only[SL] at hlq)|refine K9 ?_|((refine Kh (λhb=>?_) λhb=>?_)<;>try simp only[BL] at hb)|refine K8 ?_)<;>refine Kw ?_)
   refine⟨⟨i+1,?_,by omega,by omega⟩⟩
   rw[List.take_succ_eq_append_getElem h1',List.map_append]
   repeat'(first|exact True.intro|exact rfl|refine And.intro ?_ ?_)
 have e:k.parts.take i=k.parts:=List.take_of_length_le (by omega)
 rw[e,b6N]
 exact⟨rfl⟩
termination_by SizeOf.sizeOf c
decreasing_by exact hlt
theorem a4x (l:List Step)(hl:l.length<=1048576)(hok:∀s∈l,s.ok):Meets Tryz.prog 25 [.sl (l.map Step.cells)] λd=>d= .sl ((l.map Step.cores).map Step.cells):=by
 have hT:∀x∈l,Meets Tryz.prog 25 [.sl (x.th.map Step.cells)] λd=>d= .sl ((x.th.map Step.cores).map Step.cells):=λx hx=>by
  have:=List.sizeOf_lt_of_mem hx
  have:=Step.szl x
  have hlt:SizeOf.sizeOf x.th<SizeOf.sizeOf l:=by omega
  have:=Step.ok_iff.1 (hok x hx)
  exact a4x x.th this.2.1.1 this.2.1.2
 have hE:∀x∈l,Meets Tryz.prog 25 [.sl (x.el.map Step.cells)] λd=>d= .sl ((x.el.map Step.cores).map Step.cells):=λx hx=>by
  have:=List.sizeOf_lt_of_mem hx
  have:=Step.szl x
  have hlt:SizeOf.sizeOf x.el<SizeOf.sizeOf l:=by omega
  have:=Step.ok_iff.1 (hok x hx)
  exact a4x x.el this.2.2.1 this.2.2.2
 refine enter tok {} Tryz.func25 rfl (by kernel_rfl) Tryz.ntmps25 (by simp) λB0 W0 V0 lent g0=>?_
 refine Kw ?_
 refine d4 tok {} [(.inl 3,3,75,8)] (X:=Nat) (λi=>[(4,iB i),(3, .own 3)]) (λi=>[(3, .sl ⟨75,8,(l.take i).map (λp=>p.cores.dc),true⟩)]) [5] (λi=>i<=l.length) (λi=>l.length-i) 0 ?_
 refine Kw ?_
 refine⟨by simp,?_⟩
 refine Kw ?_
 refine And.intro ?_ ⟨by omega,λi hi=>?_⟩
 . exact Kr
 refine Kw ?_
 repeat'((first|(intro hlq;try simp only[SL] at hlq)|refine K9 ?_|refine K8 ?_)<;>refine Kw ?_)
 refine⟨λh1=>?_,λh1=>?_⟩<;>(try simp only[BL] at h1)<;>refine Kw ?_
 . have h1':i<l.length:=by omega
   have hoi:=Step.ok_iff.1 (hok _ (List.getElem_mem h1'))
   repeat'((first|(intro hlq;try simp only[SL] at hlq)|refine Meets.k (a7p l[i].cond hoi.1) ?_|refine Meets.k (hT l[i] (List.getElem_mem h1')) ?_|refine Meets.k (hE l[i] (List.getElem_mem h1')) ?_|refine K9 ?_|((refine Kh (λhb=>?_) λhb=>?_)<;>try simp only[BL] at hb)|refine Ka ?_|refine Kb ?_|refine Kc (hd:=rfl) (e:=?_)|refine Kc (hd:=Step.cells_eq _) (e:=?_)|refine Kd (e:=?_)|refine Kl rfl ?_|fail)<;>refine Kw ?_)
   all_goals
    refine⟨by simp,?_⟩
    refine Kw ?_
    refine⟨λh1 h2=>?_,?_⟩
    . simp only[maxLen,List.length_map,List.length_take,List.length_cons,List.length_nil] at *
      omega
    refine Kw ?_
    repeat'((first|(intro hlq;try simp only[SL] at hlq)|refine K9 ?_|((refine Kh (λhb=>?_) λhb=>?_)<;>try simp only[BL] at hb)|refine K8 ?_)<;>refine Kw ?_)
    refine⟨⟨i+1,?_,by omega,by omega⟩⟩
    rw[List.take_succ_eq_append_getElem h1',List.map_append]
    first
     |rw[show[l[i]].map (λp=>p.cores.dc)=[(⟨l[i].kind,l[i].crit,l[i].cond.cores,l[i].th.map Step.cores,l[i].el.map Step.cores⟩:Step).dc] from by rw[List.map_cons,List.map_nil,Step.cores_eq,if_pos (by assumption)]]
     |rw[show[l[i]].map (λp=>p.cores.dc)=[(⟨l[i].kind,l[i].crit,l[i].cond,l[i].th.map Step.cores,l[i].el.map Step.cores⟩:Step).dc] from by rw[List.map_cons,List.map_nil,Step.cores_eq,if_neg (by assumption)]]
    repeat'(first|exact True.intro|exact rfl|refine And.intro ?_ ?_)
 have e:l.take i=l:=List.take_of_length_le (by omega)
 rw[e,c2e]
 exact⟨rfl⟩
termination_by SizeOf.sizeOf l
decreasing_by all_goals assumption
end Go.Proofs.YteillnfhkeebjaaGreatDoor.Dx
