/- The. -/
import Derived.Test.YteillnfhkeebjaaGreatDoorXd
import Derived.Test.YteillnfhkeebjaaGreatDoorXe
set_option linter.all false
namespace Go.Proofs.YteillnfhkeebjaaGreatDoor.Dx
open Go Go.RowKit Go.Proofs
set_option maxRecDepth 100000
set_option maxHeartbeats 16000000
def spD (cuts:List Cutoff):Distance:=⟨[98,114,105,101,102],[⟨0,0,[]⟩,⟨1,0,[]⟩,⟨2,0,[]⟩],1,cuts,-1⟩
def b0S:Cond:=⟨0,0,0,[]⟩
def spC (cuts:List Cutoff):Course:=
 ⟨[115,112,114,105,110,116],[⟨[108,105,110,101],1⟩,⟨[116,117,114,110],2⟩,⟨[102,105,110,105,115,104],3⟩],[⟨0,1,30000000,1200000000⟩,⟨1,2,0,1⟩],[spD cuts],[],[],[],[],[⟨1,4,b0S,[],[]⟩],⟨0,0,0,0,0⟩,0,0⟩
abbrev d2w:List D:=[.str (spC []).name, .sl ((spC []).mats.map Mat.cells), .sl ((spC []).legs.map Leg.cells)]
abbrev d2v:List D:=[.sl [], .sl [], .sl [], .sl [], .sl ((spC []).ties.map Step.cells),iD 0,iD 0,iD 0,iD 0,iD 0,iD 0,iD 0]
abbrev spB:Base:= .ag d2w 13 d2v
def spT:List UInt8:=[99,111,117,114,115,101,32,115,112,114,105,110,116,32,123,10,32,32,109,97,116,115,32,123,32,115,116,97,114,116,32,108,105,110,101,59,32,112,97,115,115,32,116,117,114,110,59,32,101,110,100,32,102,105,110,105,115,104,59,32,125,10,32,32,108,101,103,32,108,105,110,101,32,116,111,32,116,117,114,110,32,48,58,51,48,32,46,46,32,50,48,58,48,48,59,10,32,32,108,101,103,32,116,117,114,110,32,116,111,32,102,105,110,105,115,104,32,48,58,48,48,32,46,46,32,48,58,48,48,46,48,48,48,48,48,49,59,10,32,32,100,105,115,116,97,110,99,101,32,98,114,105,101,102,32,103,117,110,32,123,32,108,105,110,101,59,32,116,117,114,110,59,32,102,105,110,105,115,104,59,32,125,10,32,32,116,105,101,115,32,123,32,98,105,98,59,32,125,10,32,32,102,97,117,108,116,115,32,123,32,109,105,115,115,101,115,32,48,59,32,115,116,114,97,121,115,32,48,59,32,119,105,110,100,111,119,32,48,58,48,48,59,32,114,101,115,105,100,117,97,108,32,48,58,48,48,59,32,100,114,105,102,116,32,48,59,32,125,10,32,32,112,114,111,116,101,115,116,32,102,101,101,32,48,32,100,101,97,100,108,105,110,101,32,48,58,48,48,59,10,125,10]
def exK1:Cond:=⟨3,0,0,[⟨4,0,0,[⟨2,0,0,[⟨1,3,1,[]⟩,⟨1,2,3,[]⟩]⟩]⟩,⟨1,1,2,[]⟩]⟩
def exK2:List Step:=[⟨1,1,b0S,[],[]⟩,⟨2,0,⟨2,0,0,[⟨1,3,1,[]⟩]⟩,[⟨1,4,b0S,[],[]⟩],[]⟩]
theorem b0A (k v n:Int):(⟨k,v,n,[]⟩:Cond).ok:=Cond.ok_iff.2 ⟨by simp,by simp⟩
theorem c9Q:exK1.ok:=by
 refine Cond.ok_iff.2 ⟨by simp[exK1],λx hx=>?_⟩;simp only[exK1,p8,Z1,or_false] at hx;rcases hx with rfl|rfl
 . refine Cond.ok_iff.2 ⟨by simp,λx hx=>?_⟩;simp only[p8,Z1,or_false] at hx;subst hx;refine Cond.ok_iff.2 ⟨by simp,λx hx=>?_⟩;simp only[p8,Z1,or_false] at hx;rcases hx with rfl|rfl<;>exact b0A _ _ _
 . exact b0A _ _ _
theorem b3p (n:Int):(⟨1,n,b0S,[],[]⟩:Step).ok:=Step.ok_iff.2 ⟨b0A _ _ _,⟨by simp,by simp⟩,by simp,by simp⟩
theorem c9R:∀s∈exK2,s.ok:=by
 intro s hs;simp only[exK2,p8,Z1,or_false] at hs;rcases hs with rfl|rfl
 . exact b3p 1
 . exact Step.ok_iff.2 ⟨Cond.ok_iff.2 ⟨by simp,by simp[b0A]⟩,⟨by simp,by simp[b3p]⟩,by simp,by simp⟩
theorem d2x (cuts:List Cutoff)(h:cuts.length<=1048576):(spC cuts).small:=by
 refine⟨by simp[spC],by simp[spC],by simp[spC],by simp[spC],by simp[spC],by simp[spC],by simp[spC],⟨by simp[spC],?_⟩,?_,?_⟩
 . intro s hs;simp only[spC,p8,Z1,or_false] at hs;subst hs;exact b3p 4
 . intro d hd;simp only[spC,p8,Z1,or_false] at hd;subst hd;exact(by decide:Part.cntL (spD []).route<=1048576)
 . intro d hd;simp only[spC,p8,Z1,or_false] at hd;subst hd;exact h
theorem sp1:a9B exK1=[110,111,116,32,40,115,104,111,114,116,32,62,61,32,49,32,97,110,100,32,102,105,101,108,100,32,62,61,32,51,41,32,111,114,32,100,105,115,116,97,110,99,101,32,62,61,32,50]:=by kernel_rfl
theorem sp2:exK1.errno=0:=by kernel_rfl
theorem sp3:b0W exK2=[111,108,100,101,114,59,32,105,102,32,115,104,111,114,116,32,62,61,32,49,32,123,32,98,105,98,59,32,125]:=by kernel_rfl
theorem sp4:K6 exK2=0:=by kernel_rfl
theorem sp5:U9 (spC [])=spT:=by kernel_rfl
theorem sp6:L3 (spC [])=0:=by kernel_rfl
theorem sp7:D6 (spC []) (spC [])=true:=a0P rfl
theorem sp8:D6 (spC []) (spC [⟨2,1,0⟩])=false:=H7 (by simp[spC,spD])
theorem b2Z (v n:Int):Mt 28 [iD v,iD n] λd=>d=(⟨1,v,n,[]⟩:Cond).d:=by
 refine En {} Tryz.func28 Tryz.ntmps28 λ_ _ _ _ _=>?_;refine Kw ?_;exact⟨rfl⟩
theorem b0a (k:Int)(l:List Cond):Mt 27 [iD k, .sl (l.map Cond.cells)] λd=>d=(⟨k,0,0,l⟩:Cond).d:=by
 refine En {} Tryz.func27 Tryz.ntmps27 λ_ _ _ _ _=>?_;refine Kw ?_;exact⟨rfl⟩
theorem c0s:Mt 29 [] λd=>d=(spC []).d:=by
 refine En {} Tryz.func29 Tryz.ntmps29 λ_ _ _ _ _=>?_;refine Kw ?_;exact⟨rfl⟩
theorem sprint_meets:MR 29 [] [] λo O'=>o= .ret spB/\O'=[(13, .sl ⟨82,5,[(spD []).cells],false⟩)]:=by
 refine EnR {priv:=[13]} Tryz.func29 Tryz.ntmps29 λ_ _ _ _ _=>?_;refine Kv {priv:=[13]} ?_;refine⟨[(13, .sl ⟨82,5,[(spD []).cells],false⟩)],spB,⟨?_,?_,rfl⟩,⟨rfl,rfl⟩⟩
 . exact Kr
 . exact Kr
theorem d2q:Mt 14 [exK1.d] λd=>d= .tup [.str [110,111,116,32,40,115,104,111,114,116,32,62,61,32,49,32,97,110,100,32,102,105,101,108,100,32,62,61,32,51,41,32,111,114,32,100,105,115,116,97,110,99,101,32,62,61,32,50],iD 0]:=by
 have:=c1V exK1 c9Q;rw[sp1,sp2] at this;exact this
theorem d2r:Mt 20 [.sl (exK2.map Step.cells)] λd=>d= .tup [.str [111,108,100,101,114,59,32,105,102,32,115,104,111,114,116,32,62,61,32,49,32,123,32,98,105,98,59,32,125],iD 0]:=by
 have:=c1W exK2 (by decide) c9R;rw[sp3,sp4] at this;exact this
theorem d2s:Mt 7 [(spC []).d] λd=>d= .tup [.sl (byteCells spT),iD 0]:=by
 have:=b1x (spC []) (d2x [] (by simp));rw[sp5,sp6] at this;exact this
theorem d2t:Mt 10 [(spC []).d,(spC []).d] λd=>d=bD true:=by
 have:=b1F (spC []) (spC []);rw[sp7] at this;exact this
abbrev spO (cuts:List Cutoff):List (Nat×Blk):=
 [(9, .box [.d (.str (spC []).name), .d (.sl ((spC []).mats.map Mat.cells)), .d (.sl ((spC []).legs.map Leg.cells)), .own 13, .d (.sl []), .d (.sl []), .d (.sl []), .d (.sl []), .d (.sl ((spC []).ties.map Step.cells)),iB 0,iB 0,iB 0,iB 0,iB 0,iB 0,iB 0] 33),(13, .sl ⟨82,5,[(spD cuts).cells],false⟩)]
theorem spL:MR 10 [.d (spC []).d,spB] (spO [⟨2,1,0⟩]) λo O'=>∃d,o= .ret (.d d)/\O'=spO [⟨2,1,0⟩]/\d=bD false:=
 c8m (n:=13) (by have:=b1F (spC []) (spC [⟨2,1,0⟩]);rw[sp8] at this;exact this) (spO [⟨2,1,0⟩]) rfl rfl (by simp) (λd hd=>by subst hd;kernel_rfl)
abbrev a1c:Cfg:={rs:=[41,80],priv:=[13]}
theorem sane8_meets:Mt 5 [] λr=>r=bD true:=by
 refine En a1c Tryz.func5 Tryz.ntmps5 λ_ _ _ _ _=>?_;refine Kv a1c ?_;repeat'((first|(intro hlq;try simp only[SL] at hlq)|refine Meets.k (b2Z 3 1) ?_|refine Meets.k (b2Z 2 3) ?_|refine Meets.k (b0a 2 [⟨1,3,1,[]⟩,⟨1,2,3,[]⟩]) ?_|refine Meets.k (b0a 4 [⟨2,0,0,[⟨1,3,1,[]⟩,⟨1,2,3,[]⟩]⟩]) ?_|refine Meets.k (b2Z 1 2) ?_|refine Meets.k (b0a 3 exK1.parts) ?_|refine Meets.k (d2q) ?_|refine Meets.k (b0a 2 [⟨1,3,1,[]⟩]) ?_|refine Meets.k (d2r) ?_|refine Meets.k (c0s) ?_|refine Meets.k (d2s) ?_|refine K9 ?_|((refine Kh (λhb=>?_) λhb=>?_)<;>try simp only[BL] at hb)|refine K8 ?_)<;>refine Kv a1c ?_)
 refine⟨[],[],⟨Kr,Kr⟩,sprint_meets.mono ?_⟩;rintro o O' ⟨rfl,rfl⟩;refine Kv a1c ?_;refine⟨⟨by omega,by(try dsimp only[List.length_singleton]);omega,rfl⟩,?_⟩;refine Kv a1c ?_;refine⟨_,⟨rfl,rfl,by decide⟩,?_⟩;refine Kv a1c ?_;refine Dr a1c [.p 0, .p 1, .p 2, .p 3, .p 4, .p 5, .p 6, .p 7, .p 8, .p 9, .p 10, .p 11, .p 12, .p 13, .p 14, .p 15, .p 16, .p 17, .p 18, .p 19, .p 20, .p 21, .p 22, .p 23, .p 24, .s 25 [24,23,18,22,17,14,20,21,16,13,10,19,15,12,9,6,11,8,5,2,7,4,1,3,0], .s 26 [], .s 27 [], .p 28, .p 29, .p 31, .s 30 [29,28], .s 32 [31], .p 33, .p 34, .p 35] ?_;refine Kv a1c ?_;repeat'((first|(intro hlq;try simp only[SL] at hlq)|refine Meets.k (d2t) ?_|refine Meets.k (c0s) ?_|refine⟨spT,rfl,?_⟩|refine K9 ?_|((refine Kh (λhb=>?_) λhb=>?_)<;>try simp only[BL] at hb)|refine K8 ?_)<;>refine Kv a1c ?_)
 all_goals first
  |(exfalso;exact hb rfl)
  |(exfalso;exact hb d9)
  |(exfalso;exact Bool.noConfusion hb)
  |skip
 refine⟨spO [⟨2,1,0⟩],_,⟨Kr,Kr⟩,spL.mono ?_⟩;rintro o O' ⟨d,rfl,rfl,rfl⟩;refine Kv a1c ?_;repeat'((first|(intro hlq;try simp only[SL] at hlq)|refine K9 ?_|((refine Kh (λhb=>?_) λhb=>?_)<;>try simp only[BL] at hb)|refine K8 ?_)<;>refine Kv a1c ?_)
 exact⟨rfl⟩
end Go.Proofs.YteillnfhkeebjaaGreatDoor.Dx
