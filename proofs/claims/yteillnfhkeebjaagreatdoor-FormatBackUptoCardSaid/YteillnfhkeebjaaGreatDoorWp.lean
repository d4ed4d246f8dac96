/- Direct. -/
import Derived.Test.YteillnfhkeebjaaGreatDoorWo
set_option linter.all false
namespace Go.Proofs.YteillnfhkeebjaaGreatDoor.Dx
open Go Go.RowKit
set_option maxRecDepth 100000
set_option maxHeartbeats 8000000
def b7T (l:List Int)(n:Int):Bool:=l.any λx=>decide (x=n)
mutual
def Step.app (x:Env):Step->List Int->List Int
 |⟨k,b,c,t,e⟩,acc=>if k=2 then(if c.holds x then Step.appL x t acc else Step.appL x e acc) else(if b7T acc b then acc else acc++[b])
def Step.appL (x:Env):List Step->List Int->List Int
 |[],acc=>acc
 |s::ss,acc=>Step.appL x ss (Step.app x s acc)
end
theorem b5Y (x:Env)(s:Step)(acc:List Int):Step.app x s acc=if s.kind=2 then(if s.cond.holds x then Step.appL x s.th acc else Step.appL x s.el acc) else(if b7T acc s.crit then acc else acc++[s.crit]):=by
 obtain⟨k,b,c,t,e⟩:=s;simp only[Step.app]
theorem b1f {s:Step}(h:s.valid=true):(s.kind=1)\/(s.kind=2/\s.cond.valid=true/\(∀z∈s.th,z.valid=true)/\∀z∈s.el,z.valid=true):=by
 rw[Step.valid_eq] at h;split at h
 . exact .inl (by assumption)
 . split at h
   . simp only[f0,n7] at h;exact .inr ⟨by assumption,h.2.1,h.2.2.2.1,h.2.2.2.2⟩
   . cases h
def K6 (l:List Step):Int:=if C2 (q9 l) 0 0 0 then(if l≠[]/\l.all Step.valid then 0 else 71) else 2
theorem c0G (l:List Step)(hl:l.length<=1048576)(hok:∀s∈l,s.ok):Mt 21 [.sl (l.map Step.cells)] λd=>d=iD (K6 l):=c2J l hl hok
theorem c0K {l:List Step}(h:K6 l=0):(∀s∈l,s.valid=true)/\Step.nstL l<=64:=by
 unfold K6 at h;split at h
 . rename_i hf;split at h
   . rename_i hv;refine⟨n7.1 hv.2,?_⟩;obtain⟨k1,_⟩:=F_S l;simp only[C2,C0,f0,j0,k1] at hf;rcases hf with hf|hf
     . exact absurd (by simpa[q9] using hf) hv.1
     . omega
   . cases h
 . cases h
def a2K (b:UInt8):Bool:=(decide (97<=(b.toNat:Int))&&decide ((b.toNat:Int)<=122))||((decide (48<=(b.toNat:Int))&&decide ((b.toNat:Int)<=57))||decide ((b.toNat:Int)=95))
def a8e (s:List UInt8):Bool:=match s with|[]=>false|b::_=>decide (97<=(b.toNat:Int))&&decide ((b.toNat:Int)<=122)
theorem b3j {s:List UInt8}(h:0<s.length):a8e s=(decide (97<=(s[0].toNat:Int))&&decide ((s[0].toNat:Int)<=122)):=by
 cases s with
 |nil=>simp at h
 |cons b r=>rfl
def N3 (kw:List UInt8->Bool)(s:List UInt8):Bool:=decide (s.length<=24)&&(a8e s&&(s.all a2K&& !kw s))
theorem c7A (kw:List UInt8->Bool)(s:List UInt8)(hK:s.length<=24->Mt 166 [.str s] λd=>d=bD (kw s)):Mt 83 [.str s] λd=>d=bD (N3 kw s):=by
 refine En {} Tryz.func83 Tryz.ntmps83 λ_ _ _ _ _=>?_;refine Kw ?_;repeat'((first|(intro hlq;try simp only[SL] at hlq)|((refine Kh (λhb=>?_) λhb=>?_)<;>try simp only[BL] at hb)|refine K8 ?_)<;>refine Kw ?_)
 . refine⟨d6 bD ?_⟩;have:s=[]:=C8 (by omega);subst this;simp[N3,a8e]
 . refine⟨d6 bD ?_⟩;rw[N3,D5 (by omega)];rfl
 . refine⟨d6 bD ?_⟩;rw[N3,b3j (by omega),D5 (by omega:¬97<=(s[0].toNat:Int))];simp
 . refine⟨d6 bD ?_⟩;rw[N3,b3j (by omega),D5 (by omega:¬(s[0].toNat:Int)<=122)];simp
 have hpos:0<s.length:=by omega
 have hf:a8e s=true:=by rw[b3j hpos,f0,j0,j0];omega
 have hl:s.length<=24:=by omega
 refine o4 tok {} [] (X:=Nat) (λi=>[(25,iB i)]) (λ_=>[]) [] (λi=>i<=s.length/\∀x∈s.take i,a2K x=true) (λi=>s.length-i) 0 ?_;refine Kw ?_;refine d8 ?_ ⟨⟨by omega,by simp⟩,λi hΦ=>?_⟩
 . exact Kr
 obtain⟨hi,hp⟩:=hΦ;refine Kw ?_;refine⟨λh1=>?_,λh1=>?_⟩<;>(try simp only[BL] at h1)<;>refine Kw ?_
 . have h1':i<s.length:=by omega
   repeat'((first|(intro hlq;try simp only[SL] at hlq)|((refine Kh (λhb=>?_) λhb=>?_)<;>try simp only[BL] at hb)|refine K8 ?_)<;>refine Kw ?_)
   all_goals first
    | (refine⟨d6 bD ?_⟩
       have hc:a2K s[i]=false:=by
        simp only[a2K,W8,U2,L4];omega
       simp only[N3,a9r (q7 h1') hc,a5r,a4c];done)
    | (skip
       refine⟨⟨i+1,?_,⟨by omega,Y7 h1' hp ?_⟩,by omega⟩⟩
       . exact Kr
       simp only[a2K,C0,f0,j0];omega)
 . refine Meets.k (hK hl) ?_;refine Kw ?_;refine⟨d6 bD ?_⟩;rw[N3,hf,b1P (by omega) hp,r9 hl];simp
def words:List (List UInt8):=[
 [99,111,117,114,115,101],
 [109,97,116,115],
 [115,116,97,114,116],
 [112,97,115,115],
 [101,110,100],
 [108,101,103],
 [116,111],
 [100,105,115,116,97,110,99,101],
 [103,117,110],
 [99,104,105,112],
 [115,108,111,116],
 [108,97,112,115],
 [108,97,112],
 [99,117,116,111,102,102],
 [101,120,116,114,97],
 [119,97,118,101],
 [111,102,102,101,110,99,101],
 [111,117,116],
 [99,97,116,101,103,111,114,121],
 [112,114,105,122,101],
 [97,108,108],
 [116,105,101,115],
 [105,102],
 [101,108,115,101],
 [97,110,100],
 [111,114],
 [110,111,116],
 [111,108,100,101,114],
 [121,111,117,110,103,101,114],
 [98,105,98],
 [100,114,97,119],
 [102,105,101,108,100],
 [115,104,111,114,116],
 [102,97,117,108,116,115],
 [109,105,115,115,101,115],
 [115,116,114,97,121,115],
 [119,105,110,100,111,119],
 [114,101,115,105,100,117,97,108],
 [100,114,105,102,116],
 [112,114,111,116,101,115,116],
 [102,101,101],
 [100,101,97,100,108,105,110,101]]
def kw (s:List UInt8):Bool:=words.contains s
end Go.Proofs.YteillnfhkeebjaaGreatDoor.Dx
