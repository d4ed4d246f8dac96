/- What format prints,as plain functions. -/
import Derived.Test.YteillnfhkeebjaaGreatDoorSv
import Derived.Lib.ItoaLen
import Derived.Lib.TrimByte
import Derived.Lib.Join
import Derived.Test.YteillnfhkeebjaaGreatDoorSx
import Derived.Test.YteillnfhkeebjaaGreatDoorSq
set_option linter.all false
namespace Go.Proofs.YteillnfhkeebjaaGreatDoor.Dx
open Go Go.RowKit Go.Proofs
def L3 (n:Int):List UInt8:=(Lib.itoa (100+n)).drop 1
def a3r (s:Int):List UInt8:=if s≥3600 then Lib.itoa (s/3600)++[58]++L3 (s/60%60)++[58]++L3 (s%60) else Lib.itoa (s/60)++[58]++L3 (s%60)
def a3N (u:Int):List UInt8:=if u>0 then[46]++Lib.trimRightB ((Lib.itoa (1000000+u)).drop 1) 48 else[]
def a0k (n:Int):List UInt8:=a3r (n/1000000)++a3N (n%1000000)
def a8c (t:Int):List UInt8:=if t<0 then[45]++a0k (-t) else a0k t
def O8 (t:Int):Bool:=inR (-1099511627776) 1099511627776 t
def s7 (t:Int):List UInt8:=if O8 t then a8c t else[]
def a2S (t:Int):Int:=if O8 t then 0 else 1
def a1i (v:Int):List UInt8:=if v=1 then[100,105,115,116,97,110,99,101] else if v=2 then[102,105,101,108,100] else[115,104,111,114,116]
def C5 (x:Int×List UInt8):List UInt8:=if x.1=2\/x.1=3 then[40]++x.2++[41] else x.2
def E6 (x:Int×List UInt8):List UInt8:=if x.1=3 then[40]++x.2++[41] else x.2
def L1 (k v n:Int)(l:List (Int×List UInt8)):List UInt8:=
 if k=1 then a1i v++[32,62,61,32]++Lib.itoa n else if k=4 then[110,111,116,32]++Lib.join (l.map C5) [] else if k=2 then Lib.join (l.map C5) [32,97,110,100,32] else Lib.join (l.map E6) [32,111,114,32]
def a3w (k v n:Int)(l:List (Int×List UInt8)):Int×List UInt8:=
 match l with
 |[x]=>if k=2\/k=3 then x else(k,L1 k v n [x])
 |l=>(k,L1 k v n l)
mutual
def Cond.pt:Cond->Int×List UInt8
 |⟨k,v,n,ps⟩=>a3w k v n (Cond.ptL ps)
def Cond.ptL:List Cond->List (Int×List UInt8)
 |[]=>[]
 |c::cs=>c.pt::Cond.ptL cs
end
theorem Cond.ptL_eq:∀l:List Cond,Cond.ptL l=l.map Cond.pt:=by
 intro l;induction l with|nil=>rfl|cons c l ih=>simp[Cond.ptL,ih]
theorem Cond.pt_eq (c:Cond):c.pt=a3w c.kind c.var c.n (c.parts.map Cond.pt):=by obtain⟨k,v,n,ps⟩:=c;simp only[Cond.pt,Cond.ptL_eq]
def Cond.thin (c:Cond):Bool:=(decide (c.kind=2)||decide (c.kind=3))&&decide (c.parts.length=1)
theorem Cond.pt_thin {c p:Cond}(h:c.kind=2\/c.kind=3)(hp:c.parts=[p]):c.pt=p.pt:=by
 rw[Cond.pt_eq,hp,List.map_cons,List.map_nil,a3w,if_pos h]
theorem Cond.pt_core {c:Cond}(h:c.thin=false):c.pt=(c.kind,L1 c.kind c.var c.n (c.parts.map Cond.pt)):=by
 rw[Cond.pt_eq]
 unfold a3w
 split
 . rename_i x hx
   rw[if_neg,hx]
   intro hk
   have hl:c.parts.length=1:=by have:=congrArg List.length hx;simpa using this
   simp only[Cond.thin,Bool.and_eq_false_iff,Bool.or_eq_false_iff,decide_eq_false_iff_not] at h
   omega
 . rfl
def y9 (b:Int):List UInt8:=if b=1 then[111,108,100,101,114] else if b=2 then[121,111,117,110,103,101,114] else if b=3 then[119,97,118,101] else if b=4 then[98,105,98] else[100,114,97,119]
def j2:Bool->List (List UInt8)->List UInt8
 |_,[]=>[]
 |true,x::l=>x++j2 false l
 |false,x::l=>[32]++x++j2 false l
def ifT (c t e:List UInt8)(ne:Bool):List UInt8:=[105,102,32]++c++[32,123,32]++t++[32,125]++(if ne then[32,101,108,115,101,32,123,32]++e++[32,125] else[])
mutual
def Step.tx:Step->List UInt8
 |⟨k,b,c,t,e⟩=>if k=1 then y9 b++[59] else ifT c.pt.2 (j2 true (Step.txL t)) (j2 true (Step.txL e)) (decide (0<e.length))
def Step.txL:List Step->List (List UInt8)
 |[]=>[]
 |c::cs=>c.tx::Step.txL cs
end
theorem Step.txL_eq:∀l:List Step,Step.txL l=l.map Step.tx:=by
 intro l;induction l with|nil=>rfl|cons c l ih=>simp[Step.txL,ih]
def g9 (l:List Step):List UInt8:=j2 true (l.map Step.tx)
theorem Step.tx_eq (s:Step):s.tx=if s.kind=1 then y9 s.crit++[59] else ifT s.cond.pt.2 (g9 s.th) (g9 s.el) (decide (0<s.el.length)):=by
 obtain⟨k,b,c,t,e⟩:=s;simp only[Step.tx,Step.txL_eq,g9]
def r8 (ms:List Mat)(i:Int):List UInt8:=match ms[i.toNat]? with|some m=>m.name|none=>[]
mutual
def Part.tx (ms:List Mat):Part->List UInt8
 |⟨m,l,ps⟩=>if l=0 then r8 ms m++[59] else[108,97,112,115,32]++Lib.itoa l++[32,123,32]++j2 true (Part.txL ms ps)++[32,125]
def Part.txL (ms:List Mat):List Part->List (List UInt8)
 |[]=>[]
 |c::cs=>Part.tx ms c::Part.txL ms cs
end
theorem Part.txL_eq (ms:List Mat):∀l:List Part,Part.txL ms l=l.map (Part.tx ms):=by
 intro l;induction l with|nil=>rfl|cons c l ih=>simp[Part.txL,ih]
def D1 (ms:List Mat)(l:List Part):List UInt8:=j2 true (l.map (Part.tx ms))
theorem Part.tx_eq (ms:List Mat)(p:Part):p.tx ms=if p.laps=0 then r8 ms p.mat++[59] else[108,97,112,115,32]++Lib.itoa p.laps++[32,123,32]++D1 ms p.parts++[32,125]:=by
 obtain⟨m,l,ps⟩:=p;simp only[Part.tx,Part.txL_eq,D1]
def a2m (k:Int):List UInt8:=if k=1 then[115,116,97,114,116] else if k=2 then[112,97,115,115] else[101,110,100]
def a1e (k:Int):List UInt8:=if k=1 then[103,117,110] else if k=2 then[99,104,105,112] else[115,108,111,116]
def F9 (m:Mat):List UInt8:=[32]++a2m m.kind++[32]++m.name++[59]
def a2n (c:Course):List UInt8:=[109,97,116,115,32,123]++c.mats.flatMap F9++[32,125]
def H9 (c:Course)(x:Leg):List UInt8:=[108,101,103,32]++r8 c.mats x.src++[32,116,111,32]++r8 c.mats x.dst++[32]++s7 x.lo++[32,46,46,32]++s7 x.hi++[59]
def L8 (c:Course)(x:Cutoff):List UInt8:=[32,99,117,116,111,102,102,32]++r8 c.mats x.mat++[32,108,97,112,32]++Lib.itoa x.lap++[32]++s7 x.limit++[59]
def a1Q (c:Course)(x:Int):List UInt8:=if x≥0 then[32,101,120,116,114,97,32]++r8 c.mats x++[59] else[]
def a0A (c:Course)(d:Distance):List UInt8:=[100,105,115,116,97,110,99,101,32]++d.name++[32]++a1e d.timing++[32,123,32]++D1 c.mats d.route++d.cutoffs.flatMap (L8 c)++a1Q c d.extra++[32,125]
def I9 (x:Wave):List UInt8:=[119,97,118,101,32]++x.name++[32]++s7 x.gun++[59]
def a0Q (x:Offence):List UInt8:=if x.out then[111,117,116] else if x.laps>0 then[108,97,112,115,32]++Lib.itoa x.laps else s7 x.time
def I3 (x:Offence):List UInt8:=[111,102,102,101,110,99,101,32]++x.name++[32]++a0Q x++[59]
def H0 (x:Category):List UInt8:=[99,97,116,101,103,111,114,121,32]++x.name++[32]++Lib.itoa x.lo++[32,116,111,32]++Lib.itoa x.hi++[59]
def X6 (c:Course)(i:Int):List UInt8:=match c.distances[i.toNat]? with|some m=>m.name|none=>[]
def W5 (c:Course)(i:Int):List UInt8:=if i≥0 then(match c.categories[i.toNat]? with|some m=>m.name|none=>[]) else[97,108,108]
def G3 (c:Course)(x:Prize):List UInt8:=[112,114,105,122,101,32]++X6 c x.distance++[32]++W5 c x.category++[32]++Lib.itoa x.rank++[32]++Lib.itoa x.amount++[59]
def a4W (c:Course):List UInt8:=[116,105,101,115,32,123,32]++g9 c.ties++[32,125]
def a3L (f:Faults):List UInt8:=[102,97,117,108,116,115,32,123,32,109,105,115,115,101,115,32]++Lib.itoa f.misses++[59,32,115,116,114,97,121,115,32]++Lib.itoa f.strays++[59,32,119,105,110,100,111,119,32]++s7 f.window++[59,32,114,101,115,105,100,117,97,108,32]++s7 f.residual++[59,32,100,114,105,102,116,32]++Lib.itoa f.drift++[59,32,125]
def a3M (c:Course):List UInt8:=[112,114,111,116,101,115,116,32,102,101,101,32]++Lib.itoa c.fee++[32,100,101,97,100,108,105,110,101,32]++s7 c.deadline++[59]
def K2 (c:Course):List (List UInt8):=
 [a2n c]++c.legs.map (H9 c)++c.distances.map (a0A c)++c.waves.map I9++c.offences.map I3++c.categories.map H0++c.prizes.map (G3 c)++[a4W c,a3L c.faults,a3M c]
def f9 (s:List UInt8):List UInt8:=[32,32]++s++[10]
def T1 (c:Course):List UInt8:=[99,111,117,114,115,101,32]++c.name++[32,123,10]++(K2 c).flatMap f9++[125,10]
end Go.Proofs.YteillnfhkeebjaaGreatDoor.Dx
/- Times and decimal numbers,in the code and in the reference. -/
namespace Go.Proofs.YteillnfhkeebjaaGreatDoor.Dx
open Go Go.RowKit Go.Proofs
set_option maxRecDepth 100000
set_option maxHeartbeats 8000000
theorem Ks {a b:List UInt8}{E:Prop}(e:E)(h:a.length+b.length<=9223372036854775807:=by((try simp only[List.length_append,List.length_cons,List.length_nil]);omega)):(a.length<=maxLen->b.length<=maxLen->a.length+b.length<=maxLen)/\E:=⟨λ_ _=>(by unfold maxLen;exact h),e⟩
theorem Kq {H1 H2:Prop}{a b:Int}{E:Prop}(e:E)(h:H1->H2->0<=a/\1<=b:=by(intro h1 h2;have:=h1.1;have:=h1.2;omega)):(H1->H2->0<=a/\1<=b)/\E:=⟨h,e⟩
theorem Kt {n:Nat}{i j:Int}{E:Prop}(e:E)(h:n<=maxLen->0<=i/\i<=j/\j<=(n:Int):=by(intro _;(try simp only[List.length_cons,List.length_nil]);omega)):(n<=maxLen->0<=i/\i<=j/\j<=(n:Int))/\E:=⟨h,e⟩
theorem K9s {a b:List UInt8}{E:Prop}(h:a.length+b.length<=9223372036854775807:=by((try simp only[List.length_append,List.length_cons,List.length_nil]);omega)):E->(a.length<=maxLen->b.length<=maxLen->a.length+b.length<=maxLen)/\E:=λe=>Ks e h
theorem K9q {H1 H2:Prop}{a b:Int}{E:Prop}(h:H1->H2->0<=a/\1<=b:=by(intro h1 h2;have:=h1.1;have:=h1.2;omega)):E->(H1->H2->0<=a/\1<=b)/\E:=λe=>⟨h,e⟩
theorem K9t {n:Nat}{i j:Int}{E:Prop}(h:n<=maxLen->0<=i/\i<=j/\j<=(n:Int):=by(intro _;(try simp only[List.length_cons,List.length_nil]);omega)):E->(n<=maxLen->0<=i/\i<=j/\j<=(n:Int))/\E:=λe=>⟨h,e⟩
theorem t7 (n:Int)(h0: -9223372036854775808<=n)(h1:n<=9223372036854775807):(Lib.itoa n).length<=21:=Lib.itoa_length_le n h0 h1
theorem b1o (n:Int):1<=(Lib.itoa n).length:=by
 unfold Lib.itoa
 split
 . simp
 . rw[Lib.decDigits_length];exact Lib.nDigits_pos _
theorem a5a (n:Int)(h0:0<=n)(h1:n<=9223372036854775700):(L3 n).length<=20:=by
 have:=t7 (100+n) (by omega) (by omega)
 simp only[L3,List.length_drop];omega
theorem a8f (l:List UInt8)(c:UInt8):(Lib.trimRightB l c).length<=l.length:=by
 have:=(List.dropWhile_sublist (λb=>b==c) (l:=l.reverse)).length_le
 simpa[Lib.trimRightB] using this
theorem c3T (n:Int)(h0:0<=n)(h1:n<=9223372036854775700):Meets Tryz.prog 164 [iD n] λd=>d= .str (L3 n):=by
 refine enter tok {} Tryz.func164 rfl (by kernel_rfl) Tryz.ntmps164 (by simp) λB0 W0 V0 lent g0=>?_
 refine Kw ?_
 refine⟨λ_ _=>i64 (by omega) (by omega),?_⟩
 refine Kw ?_
 refine Meets.k (a0e (100+n)) ?_
 refine Kw ?_
 have:=b1o (100+n)
 refine⟨λ_=>⟨by omega,by omega,by omega⟩,?_⟩
 refine Kw ?_
 refine⟨?_⟩
 simp[L3]
theorem b5i (s:List UInt8)(hs:s.length<=140737488355328):Meets Tryz.prog 165 [.str s, .str [48]] λd=>d= .str (Lib.trimRightB s 48):=by
 refine Meets.still ⟨Tryz.f165,_,Tryz.func165,rfl,by kernel_rfl⟩ λV W xs hS hx=>?_
 obtain⟨u,w,rfl,h1,h2⟩:=hx.two
 obtain⟨rfl,_⟩:=h1.str_inv
 obtain⟨rfl,_⟩:=h2.str_inv
 refine(Tryz.strings_TrimRight_one ⟨⟨s⟩⟩ 48 (by decide) W (by show s.length<=_;omega)).mono ?_
 rintro e W' ⟨rfl,rfl⟩
 refine⟨_,rfl,rfl, .str _ ?_⟩
 have h:(Lib.trimRightB s 48).length<=s.length:=a8f s 48
 show(Lib.trimRightB s 48).length<=maxLen
 unfold maxLen;omega
theorem a6H {n:Int}(h0:0<=n)(h:n<10):Lib.itoa n=[UInt8.ofNat (48+n.toNat)]:=by
 rw[Lib.itoa,if_neg (by omega),Lib.decDigits,dif_pos (by omega)]
theorem b1n {n:Int}(h:¬n<10):Lib.itoa n=Lib.itoa (n/10)++[UInt8.ofNat (48+(n%10).toNat)]:=by
 rw[Lib.itoa,if_neg (by omega),Lib.decDigits,dif_neg (by omega),Lib.itoa,if_neg (by omega),show(n/10).toNat=n.toNat/10 by omega,show(n%10).toNat=n.toNat%10 by omega]
theorem c3D {t:Int}(h1:¬t>1099511627776)(h2:¬t< -1099511627776):s7 t=(if t<0 then[45] else[])++(a3r (max t (-t)/1000000)++a3N (max t (-t)%1000000)):=by
 have:O8 t=true:=by simp only[O8,inR,Bool.and_eq_true,decide_eq_true_eq];omega
 rw[s7,if_pos this,a8c]
 by_cases h:t<0
 . rw[if_pos h,if_pos h,a0k,show max t (-t)= -t by omega]
 . rw[if_neg h,if_neg h,a0k,show max t (-t)=t by omega];rfl
theorem c3A {t:Int}(h1:¬t>1099511627776)(h2:¬t< -1099511627776):a2S t=0:=by
 have:O8 t=true:=by simp only[O8,inR,Bool.and_eq_true,decide_eq_true_eq];omega
 rw[a2S,if_pos this]
theorem a4Y {t:Int}(h:t>1099511627776\/t< -1099511627776):s7 t=[]/\a2S t=1:=by
 have:O8 t=false:=by simp only[O8,inR,Bool.and_eq_false_iff,decide_eq_false_iff_not];omega
 rw[a2S,s7,this];exact⟨rfl,rfl⟩
theorem b5g (t:Int):Meets Tryz.prog 80 [iD t] λd=>d= .tup [.str (s7 t),iD (a2S t)]:=by
 refine enter tok {} Tryz.func80 rfl (by kernel_rfl) Tryz.ntmps80 (by simp) λB0 W0 V0 lent g0=>?_
 refine Kw ?_
 repeat'((first|(intro hlq;try simp only[SL] at hlq)|refine K9 ?_|((refine Kh (λhb=>?_) λhb=>?_)<;>try simp only[BL] at hb)|refine K8 ?_)<;>refine Kw ?_)
 . refine⟨?_⟩
   rw[(a4Y (.inl (by assumption))).1,(a4Y (.inl (by assumption))).2]
 . refine⟨?_⟩
   rw[(a4Y (.inr (by assumption))).1,(a4Y (.inr (by assumption))).2]
 have hm:0<=max t (-t)/\max t (-t)<=1099511627776:=by omega
 have f1:=t7 (max t (-t)/1000000/60) (by omega) (by omega)
 have f2:=t7 (max t (-t)/1000000/3600) (by omega) (by omega)
 have f3:=a5a (max t (-t)/1000000%60) (by omega) (by omega)
 have f4:=a5a (max t (-t)/1000000/60%60) (by omega) (by omega)
 have f5:=t7 (1000000+max t (-t)%1000000) (by omega) (by omega)
 have f6:=b1o (1000000+max t (-t)%1000000)
 have e7:List.drop (Int.toNat 1) (List.take ((Lib.itoa (1000000+max t (-t)%1000000)).length:Int).toNat (Lib.itoa (1000000+max t (-t)%1000000)))=(Lib.itoa (1000000+max t (-t)%1000000)).drop 1:=by simp
 have f7:(Lib.trimRightB (List.drop (Int.toNat 1) (List.take ((Lib.itoa (1000000+max t (-t)%1000000)).length:Int).toNat (Lib.itoa (1000000+max t (-t)%1000000)))) 48).length<=21:=by
  have:=a8f (List.drop 1 (Lib.itoa (1000000+max t (-t)%1000000))) 48
  rw[e7];simp only[List.length_drop] at this;omega
 refine⟨λ_=>i64 (by omega) (by omega),?_⟩
 refine Kw ?_
 repeat'((first|(intro hlq;try simp only[SL] at hlq)|refine Meets.k (a0e _) ?_|refine Meets.k (c3T _ (by omega) (by omega)) ?_|refine Meets.k (b5i _ (by simp;omega)) ?_|refine K9 ?_|((refine Kh (λhb=>?_) λhb=>?_)<;>try simp only[BL] at hb)|refine K8 ?_)<;>refine Kw ?_)
 all_goals
  refine⟨?_⟩
  rw[c3D (by assumption) (by assumption),c3A (by assumption) (by assumption),a3r,a3N]
  simp[*]
end Go.Proofs.YteillnfhkeebjaaGreatDoor.Dx
/- Conditions: core,text,in the code. -/
namespace Go.Proofs.YteillnfhkeebjaaGreatDoor.Dx
open Go Go.RowKit Go.Proofs
set_option maxRecDepth 100000
set_option maxHeartbeats 8000000
mutual
def Cond.core:Cond->Cond
 | ⟨k,v,n,ps⟩=>match Cond.coreL ps with
   |[x]=>if k=2\/k=3 then x else⟨k,v,n,ps⟩
   |_=>⟨k,v,n,ps⟩
def Cond.coreL:List Cond->List Cond
 |[]=>[]
 |c::cs=>c.core::Cond.coreL cs
end
theorem Cond.coreL_eq:∀l:List Cond,Cond.coreL l=l.map Cond.core:=by
 intro l;induction l with|nil=>rfl|cons c l ih=>simp[Cond.coreL,ih]
theorem Cond.core_thin {c p:Cond}(h:c.kind=2\/c.kind=3)(hp:c.parts=[p]):c.core=p.core:=by
 obtain⟨k,v,n,ps⟩:=c
 dsimp only at h hp
 subst hp
 simp only[Cond.core,Cond.coreL,if_pos h]
theorem Cond.core_self {c:Cond}(h:c.thin=false):c.core=c:=by
 obtain⟨k,v,n,ps⟩:=c
 simp only[Cond.core,Cond.coreL_eq]
 split
 . rename_i x hx
   rw[if_neg]
   intro hk
   have hl:ps.length=1:=by have:=congrArg List.length hx;simpa using this
   simp only[Cond.thin,Bool.and_eq_false_iff,Bool.or_eq_false_iff,decide_eq_false_iff_not] at h
   omega
 . rfl
theorem Cond.thin_cases {c:Cond}(h:c.thin=true):(c.kind=2\/c.kind=3)/\∃p,c.parts=[p]:=by
 simp only[Cond.thin,Bool.and_eq_true,Bool.or_eq_true,decide_eq_true_eq] at h
 exact⟨h.1,List.length_eq_one_iff.1 h.2⟩
theorem b3R:∀{l:List Cond} {x:Cond},x∈l->x.total<=Cond.totalL l:=by
 intro l
 induction l with
 |nil=>intro x h;cases h
 | cons c l ih=>
   intro x h
   simp only[Cond.totalL]
   rcases List.mem_cons.1 h with rfl|h
   . omega
   . have:=ih h;omega
theorem Cond.valid_parts {c:Cond}(h:c.valid=true):∀p∈c.parts,p.valid=true:=by
 rcases a2V h with h1|⟨_,p,hp,hv⟩|⟨_,hv⟩
 . rw[Cond.valid_eq,if_pos h1] at h
   simp only[Bool.and_eq_true,decide_eq_true_eq] at h
   have:c.parts=[]:=List.eq_nil_of_length_eq_zero (by omega)
   rw[this];simp
 . rw[hp];intro q hq;rw[List.mem_singleton.1 hq];exact hv
 . exact hv
structure CoreOk (c:Cond):Prop where
 thin:c.core.thin=false
 pt:c.core.pt=c.pt
 valid:c.valid=true->c.core.valid=true
 size:SizeOf.sizeOf c.core<=SizeOf.sizeOf c
 total:c.core.total<=c.total
 self:c.core.core=c.core
 ok:c.ok->c.core.ok
theorem y8 (c:Cond):CoreOk c:=by
 cases ht:c.thin with
 | false=>
   have:=Cond.core_self ht
   exact⟨by rw[this];exact ht,by rw[this],by rw[this];exact id,by rw[this];exact Nat.le_refl _,by rw[this];exact Nat.le_refl _,by rw[this,this],by rw[this];exact id⟩
 | true=>
   obtain⟨hk,p,hp⟩:=Cond.thin_cases ht
   have hm:p∈c.parts:=by rw[hp];simp
   have hsz:=Cond.size_part hm
   obtain⟨h1,h2,h3,h4,h5,h6,h7⟩:=y8 p
   have e:=Cond.core_thin hk hp
   refine⟨by rw[e];exact h1,by rw[e,h2,Cond.pt_thin hk hp],λhv=>by rw[e];exact h3 (Cond.valid_parts hv p hm),by rw[e];omega,?_,by rw[e,h6],λho=>by rw[e];exact h7 ((Cond.ok_iff.1 ho).2 p hm)⟩
   rw[e,c.total_eq]
   have:=b3R hm
   omega
termination_by SizeOf.sizeOf c
decreasing_by exact hsz
theorem b3G (x:Int×List UInt8):(C5 x).length<=x.2.length+2:=by
 unfold C5;split<;>simp
theorem b9O (x:Int×List UInt8):(E6 x).length<=x.2.length+2:=by
 unfold E6;split<;>simp
theorem join_cons (x:List UInt8)(y:List UInt8)(l:List (List UInt8))(sep:List UInt8):Lib.join (x::y::l) sep=x++(sep++Lib.join (y::l) sep):=by
 simp[Lib.join,List.intercalate]
theorem a3T (sep:List UInt8)(hs:sep.length<=5){α:Type}(f:α->List UInt8)(g:α->Nat):∀l:List α,(∀x∈l,(f x).length+5<=g x)->(Lib.join (l.map f) sep).length<=(l.map g).sum
 |[],_=>by simp[Lib.join,List.intercalate]
 |[x],h=>by have:=h x (by simp);simp[Lib.join,List.intercalate];omega
 | x::y::l,h=>by
   have ih:=a3T sep hs f g (y::l) λz hz=>h z (List.mem_cons_of_mem _ hz)
   have:=h x (by simp)
   rw[List.map_cons,List.map_cons,join_cons,<-List.map_cons,List.length_append,List.length_append]
   simp only[List.map_cons,List.sum_cons] at ih⊢
   omega
theorem c3H:∀l:List Cond,(l.map λc=>40*c.total).sum=40*Cond.totalL l:=by
 intro l;induction l with|nil=>rfl|cons c l ih=>simp only[List.map_cons,List.sum_cons,ih,Cond.totalL];omega
theorem c4m (v:Int):(a1i v).length<=8:=by unfold a1i;split<;>(try split)<;>simp
theorem Q9 (c:Cond)(hv:c.valid=true):c.pt.2.length+7<=40*c.total:=by
 have hp:=Cond.valid_parts hv
 have ih:∀p∈c.parts,p.pt.2.length+7<=40*p.total:=λp hm=>by
  have:=Cond.size_part hm
  exact Q9 p (hp p hm)
 cases ht:c.thin with
 | true=>
   obtain⟨hk,p,hpp⟩:=Cond.thin_cases ht
   rw[Cond.pt_thin hk hpp,c.total_eq,hpp]
   have:=ih p (by rw[hpp];simp)
   simp only[Cond.totalL];omega
 | false=>
   rw[Cond.pt_core ht,c.total_eq]
   have hs:=c3H c.parts
   have h1:(Lib.join ((c.parts.map Cond.pt).map C5) []).length<=40*Cond.totalL c.parts:=by
    rw[<-hs,List.map_map]
    exact a3T [] (by simp) _ _ _ λp hm=>by have:=ih p hm;have:=b3G p.pt;simp only[Function.comp];omega
   have h2:(Lib.join ((c.parts.map Cond.pt).map C5) [32,97,110,100,32]).length<=40*Cond.totalL c.parts:=by
    rw[<-hs,List.map_map]
    exact a3T _ (by simp) _ _ _ λp hm=>by have:=ih p hm;have:=b3G p.pt;simp only[Function.comp];omega
   have h3:(Lib.join ((c.parts.map Cond.pt).map E6) [32,111,114,32]).length<=40*Cond.totalL c.parts:=by
    rw[<-hs,List.map_map]
    exact a3T _ (by simp) _ _ _ λp hm=>by have:=ih p hm;have:=b9O p.pt;simp only[Function.comp];omega
   simp only[L1]
   split
   . rename_i hk
     rw[Cond.valid_eq,if_pos hk] at hv
     simp only[Bool.and_eq_true,inR,decide_eq_true_eq] at hv
     have:=t7 c.n (by omega) (by omega)
     have:=c4m c.var
     simp only[List.length_append,List.length_cons,List.length_nil]
     omega
   . split
     . simp only[List.length_append,List.length_cons,List.length_nil]
       omega
     . split<;>omega
termination_by SizeOf.sizeOf c
decreasing_by assumption
theorem b4R (l:List (List UInt8))(sep:List UInt8)(h0:l≠[])(hn:l.length<=1048576)(hl:(Lib.join l sep).length<=140737488355328):Meets Tryz.prog 201 [.sl (l.map s6), .str sep] λd=>d= .str (Lib.join l sep):=by
 refine⟨⟨⟨_,_,Tryz.func201,rfl,by kernel_rfl⟩,λγ V W xs hs hv ho hi=>?_⟩⟩
 obtain⟨x,xs',rfl,hx,hv'⟩:=hv.cons_l
 obtain⟨y,xs'',rfl,hy,hv''⟩:=hv'.cons_l
 obtain rfl:=hv''.nil_l
 obtain⟨rfl,-⟩:=Rep.str_inv hy
 have hx:Rep V x (.sl (l.map s6)):=hx
 have hne:0<l.length:=List.length_pos_iff.2 h0
 generalize hxs:l.map s6=ds at hx
 have hlen:ds.length=l.length:=by rw[<-hxs,List.length_map]
 cases hx with
 |nil=>simp at hlen;omega
 |empty a=>simp at hlen;omega
 | sl b o c k _ hc hm hk hex h=>
   have hat:∀(j:Nat) s,l[j]?=some s->ds[j]?=some (s6 s):=λj s h=>by rw[<-hxs,List.getElem?_map,h];rfl
   obtain rfl:k=1:=by
    have:=hk (s6 l[0]) (List.mem_of_getElem? (hat 0 _ (List.getElem?_eq_getElem hne)))
    simpa[s6] using this.symm
   have hcell:∀(j:Nat) s,l[j]?=some s->V.cell b (o+j)=some (.string ⟨⟨s⟩⟩):=by
    intro j s hj
    obtain⟨u,hu,_⟩:=hex j (s6 s) 0 (.str s) (hat j s hj) rfl
    have hr:=h j (s6 s) 0 (.str s) u (hat j s hj) rfl hu
    rw[hr.str_inv.1] at hu
    simpa using hu
   have hbytes:(l.map λs=>(⟨⟨s⟩⟩:ByteArray)).map (λx=>x.data.toList)=l:=by
    rw[List.map_map];exact List.map_id'' (λ_=>rfl) l
   refine(Tryz.strings_Join b o c (l.map λs=>(⟨⟨s⟩⟩:ByteArray)) ⟨⟨sep⟩⟩ W ?_ ?_ ?_ ?_ ?_).mono ?_|>λq=>by rw[List.length_map,<-hlen] at q;exact q
   . intro j x hj
     rw[List.getElem?_map] at hj
     cases hlj:l[j]? with
     |none=>rw[hlj] at hj;cases hj
     | some s=>
       rw[hlj] at hj
       cases hj
       exact hs.cell b (o+j) _ (hcell j s hlj)
   . exact hs.lt (hcell 0 _ (List.getElem?_eq_getElem hne))
   . rw[List.length_map];omega
   . rw[List.length_map,<-hlen];exact hc
   . rw[hbytes];exact hl
   . rintro e W' ⟨rfl,hb⟩
     rw[hbytes]
     have hl':(Lib.join l sep).length<=maxLen:=by unfold maxLen;omega
     exact⟨γ,V, .ret (.d (.str (Lib.join l sep))),[],Rep.str _ hl', .of hb, .refl _ _ _,hs.below hb,λn b h=>(by rw[f8] at h;cases h),λn b h=>(by rw[f8] at h;cases h),λn n' b b' h=>(by rw[f8] at h;cases h),
      λ_ _ _ _=>rfl,_,rfl,rfl,rfl⟩
theorem a0v (c:Cond):Meets Tryz.prog 61 [c.d] λd=>d=c.core.d:=by
 refine enter tok {} Tryz.func61 rfl (by kernel_rfl) Tryz.ntmps61 (by simp) λB0 W0 V0 lent g0=>?_
 refine Kw ?_
 refine d4 tok {} [] (X:=Cond) (λ_=>[]) (λx=>[(1, .box [iB x.kind,iB x.var,iB x.n, .d (.sl (x.parts.map Cond.cells))] 47)]) [] (λx=>x.core=c.core) (λx=>SizeOf.sizeOf x) c ?_
 refine Kw ?_
 refine And.intro ?_ ⟨rfl,λx hx=>?_⟩
 . exact Kr
 have hthin:x.kind=2\/x.kind=3->(h:(x.parts.length:Int)=1)->(x.parts[0]'(by omega)).core=c.core/\SizeOf.sizeOf (x.parts[0]'(by omega))<SizeOf.sizeOf x:=λhk h=>by
  obtain⟨p,hp⟩:=List.length_eq_one_iff.1 (by omega:x.parts.length=1)
  have hm:p∈x.parts:=by rw[hp];simp
  simp only[hp,List.getElem_cons_zero]
  rw[<-Cond.core_thin hk hp]
  exact⟨hx,Cond.size_part hm⟩
 have hself:x.thin=false->D.agg x.dc=c.core.d:=λh=>by rw[<-hx,Cond.core_self h]
 refine Kw ?_
 repeat'((first|(intro hlq;try simp only[SL] at hlq)|refine K9 ?_|((refine Kh (λhb=>?_) λhb=>?_)<;>try simp only[BL] at hb)|refine K8 ?_)<;>refine Kw ?_)
 . obtain⟨k1,k2⟩:=hthin (.inl (by assumption)) (by assumption)
   refine⟨⟨_,?_,k1,k2⟩⟩
   repeat'(first|exact True.intro|exact rfl|refine And.intro ?_ ?_)
 . exact⟨hself (by simp only[Cond.thin,Bool.and_eq_false_iff,Bool.or_eq_false_iff,decide_eq_false_iff_not];omega)⟩
 . obtain⟨k1,k2⟩:=hthin (.inr (by assumption)) (by assumption)
   refine⟨⟨_,?_,k1,k2⟩⟩
   repeat'(first|exact True.intro|exact rfl|refine And.intro ?_ ?_)
 . exact⟨hself (by simp only[Cond.thin,Bool.and_eq_false_iff,Bool.or_eq_false_iff,decide_eq_false_iff_not];omega)⟩
 . exact⟨hself (by simp only[Cond.thin,Bool.and_eq_false_iff,Bool.or_eq_false_iff,decide_eq_false_iff_not];omega)⟩
theorem b1M (x:Cond)(hl:x.pt.2.length<=1000000)(ht:x.thin=false)(h:Meets Tryz.prog 62 [x.d] λd=>d= .str x.pt.2):Meets Tryz.prog 145 [x.d] λd=>d= .str (E6 x.pt):=by
 have hk:x.pt.1=x.kind:=by rw[Cond.pt_core ht]
 refine enter tok {} Tryz.func145 rfl (by kernel_rfl) Tryz.ntmps145 (by simp) λB0 W0 V0 lent g0=>?_
 refine Kw ?_
 repeat'((first|(intro hlq;try simp only[SL] at hlq)|refine Meets.k (h) ?_|refine K9 ?_|((refine Kh (λhb=>?_) λhb=>?_)<;>try simp only[BL] at hb)|refine K8 ?_)<;>refine Kw ?_)
 all_goals (refine⟨congrArg D.str ?_⟩;rw[E6,hk];simp[*])
theorem c3x (x:Cond)(hl:x.pt.2.length<=1000000)(ht:x.thin=false)(h:Meets Tryz.prog 62 [x.d] λd=>d= .str x.pt.2):Meets Tryz.prog 144 [x.d] λd=>d= .str (C5 x.pt):=by
 have hk:x.pt.1=x.kind:=by rw[Cond.pt_core ht]
 refine enter tok {} Tryz.func144 rfl (by kernel_rfl) Tryz.ntmps144 (by simp) λB0 W0 V0 lent g0=>?_
 refine Kw ?_
 repeat'((first|(intro hlq;try simp only[SL] at hlq)|refine Meets.k (h) ?_|refine Meets.k (b1M x hl ht h) ?_|refine K9 ?_|((refine Kh (λhb=>?_) λhb=>?_)<;>try simp only[BL] at hb)|refine K8 ?_)<;>refine Kw ?_)
 all_goals (refine⟨congrArg D.str ?_⟩;simp only[C5,E6,hk];simp[*])
theorem a6I (c:Cond)(hp:c.parts≠[])(hn:c.parts.length<=1048576)(sep:List UInt8)(F:Nat)(g:Int×List UInt8->List UInt8)(hl:(Lib.join (c.parts.map λp=>g p.pt) sep).length<=1000000)
 (h:∀p∈c.parts,Meets Tryz.prog F [p.core.d] λd=>d= .str (g p.pt)):Meets Tryz.prog 143 [c.d, .str sep, .fn F [] []] λd=>d= .str (Lib.join (c.parts.map λp=>g p.pt) sep):=by
 refine enter tok {} Tryz.func143 rfl (by kernel_rfl) Tryz.ntmps143 (by simp) λB0 W0 V0 lent g0=>?_
 refine Kw ?_
 repeat'((first|(intro hlq;try simp only[SL] at hlq)|refine K9 ?_|refine K8 ?_)<;>refine Kw ?_)
 refine d4 tok {} [(.inl 7,7,9,1)] (X:=Nat) (λi=>[(14,iB i),(7, .own 7)]) (λi=>[(7, .sl ⟨9,1,((c.parts.take i).map λp=>s6 (g p.pt)),true⟩)]) [] (λi=>i<=c.parts.length) (λi=>c.parts.length-i) 0 ?_
 refine Kw ?_
 refine⟨by simp,?_⟩
 refine Kw ?_
 refine And.intro ?_ ⟨by omega,λi hi=>?_⟩
 . exact Kr
 refine Kw ?_
 refine⟨λh1=>?_,λh1=>?_⟩<;>(try simp only[BL] at h1)<;>refine Kw ?_
 . have h1':i<c.parts.length:=by omega
   repeat'((first|(intro hlq;try simp only[SL] at hlq)|refine K9 ?_|refine K8 ?_)<;>refine Kw ?_)
   refine Meets.k (a0v c.parts[i]) ?_
   refine Kw ?_
   refine Meets.k (h c.parts[i] (List.getElem_mem h1')) ?_
   refine Kw ?_
   refine⟨by simp,?_⟩
   refine Kw ?_
   refine⟨λh1 h2=>?_,?_⟩
   . simp only[maxLen,List.length_map,List.length_take,List.length_singleton] at *
     omega
   refine Kw ?_
   repeat'((first|(intro hlq;try simp only[SL] at hlq)|refine K9 ?_|refine K8 ?_)<;>refine Kw ?_)
   refine⟨⟨i+1,?_,by omega,by omega⟩⟩
   rw[<-a6U (λp:Cond=>s6 (g p.pt)) h1']
   repeat'(first|exact True.intro|exact rfl|refine And.intro ?_ ?_)
 . have:c.parts.take i=c.parts:=List.take_of_length_le (by omega)
   rw[this]
   have e:c.parts.map (λp=>s6 (g p.pt))=(c.parts.map λp=>g p.pt).map s6:=by rw[List.map_map];rfl
   rw[e]
   refine Meets.k (b4R (c.parts.map λp:Cond=>g p.pt) sep (by simp[hp]) (by simpa using hn) (by omega)) ?_
   refine Kw ?_
   exact⟨rfl⟩
theorem c3p {c:Cond}(ht:c.thin=false):c.pt.2=L1 c.kind c.var c.n (c.parts.map Cond.pt):=by rw[Cond.pt_core ht]
theorem c3q (v n:Int)(hv:1<=v/\v<=3)(hn:0<=n/\n<=10000):Meets Tryz.prog 62 [.agg [iD 1,iD v,iD n, .sl []]] λd=>d= .str (a1i v++[32,62,61,32]++Lib.itoa n):=by
 have f1:=t7 n (by omega) (by omega)
 rcases(by omega:v=1\/v=2\/v=3) with rfl|rfl|rfl
 all_goals
  refine enter tok {} Tryz.func62 rfl (by kernel_rfl) Tryz.ntmps62 (by simp) λB0 W0 V0 lent g0=>?_
  refine Kw ?_
  repeat'((first|(intro hlq;try simp only[SL] at hlq)|refine K9 ?_|((refine Kh (λhb=>?_) λhb=>?_)<;>try simp only[BL] at hb)|refine K8 ?_)<;>refine Kw ?_)
  . refine k9 tok (cf:={}) (by kernel_rfl) [.p 0, .p 1, .p 2, .p 3, .p 4, .p 5, .p 6, .p 7, .p 8, .s 9 [8,7,6], .p 10, .p 11] (by kernel_rfl) ?_
    refine Kw ?_
    repeat'((first|(intro hlq;try simp only[SL] at hlq)|refine Meets.k (a0e _) ?_|refine K9 ?_|((refine Kh (λhb=>?_) λhb=>?_)<;>try simp only[BL] at hb)|refine K8 ?_)<;>refine Kw ?_)
    all_goals exact⟨rfl⟩
  all_goals contradiction
theorem a1d (c:Cond)(hv:c.valid=true)(hok:c.ok)(ht:c.thin=false)(hs:c.total<=10000):Meets Tryz.prog 62 [c.d] λd=>d= .str c.pt.2:=by
 have hpv:=Cond.valid_parts hv
 have hpo:=Cond.ok_iff.1 hok
 have hlen:=Q9 c hv
 have hparts:∀p∈c.parts,Meets Tryz.prog 62 [p.core.d] (λd=>d= .str p.pt.2)/\p.core.thin=false/\p.core.pt=p.pt/\p.core.pt.2.length<=1000000:=by
  intro p hp
  have h:=y8 p
  have h1:=Cond.size_part hp
  have h2:=b3R hp
  have h3:=c.total_eq
  have h4:=h.size
  have h5:=h.total
  have h6:=Q9 p.core (h.valid (hpv p hp))
  have:=a1d p.core (h.valid (hpv p hp)) (h.ok (hpo.2 p hp)) h.thin (by omega)
  rw[h.pt] at this
  exact⟨this,h.thin,h.pt,by omega⟩
 rw[c3p ht] at hlen⊢
 have hT:∀p∈c.parts,Meets Tryz.prog 144 [p.core.d] λd=>d= .str (C5 p.pt):=λp hp=>by
  obtain⟨h1,h2,h3,h4⟩:=hparts p hp
  have:=c3x p.core h4 h2 (by rw[h3];exact h1)
  rw[h3] at this;exact this
 have hL:∀p∈c.parts,Meets Tryz.prog 145 [p.core.d] λd=>d= .str (E6 p.pt):=λp hp=>by
  obtain⟨h1,h2,h3,h4⟩:=hparts p hp
  have:=b1M p.core h4 h2 (by rw[h3];exact h1)
  rw[h3] at this;exact this
 have hk:c.kind=1\/c.kind≠1/\c.parts≠[]:=by
  rcases a2V hv with h|⟨h,p,hp,_⟩|⟨h,_⟩
  . exact .inl h
  . exact .inr ⟨by omega,by rw[hp];simp⟩
  . refine .inr ⟨by omega,λe=>?_⟩
    rw[Cond.valid_eq,if_neg (by omega),if_neg (by omega),if_pos h,e] at hv
    simp at hv
 rcases hk with hk|⟨hk,hne⟩
 . have h:=hv
   rw[Cond.valid_eq,if_pos hk] at h
   simp only[Bool.and_eq_true,inR,decide_eq_true_eq] at h
   have e:c.parts=[]:=List.eq_nil_of_length_eq_zero (by omega)
   have:=c3q c.var c.n (by omega) (by omega)
   rw[L1,if_pos hk]
   rw[show c.d= .agg [iD 1,iD c.var,iD c.n, .sl []] by rw[Cond.d,Cond.dc,hk,e];rfl]
   exact this
 have m1:(c.parts.map Cond.pt).map C5=c.parts.map λp=>C5 p.pt:=by rw[List.map_map];rfl
 have m2:(c.parts.map Cond.pt).map E6=c.parts.map λp=>E6 p.pt:=by rw[List.map_map];rfl
 rw[L1,if_neg hk,m1,m2] at hlen⊢
 refine enter tok {} Tryz.func62 rfl (by kernel_rfl) Tryz.ntmps62 (by simp) λB0 W0 V0 lent g0=>?_
 refine Kw ?_
 repeat'((first|(intro hlq;try simp only[SL] at hlq)|refine K9 ?_|((refine Kh (λhb=>?_) λhb=>?_)<;>try simp only[BL] at hb)|refine K8 ?_)<;>refine Kw ?_)
 . contradiction
 . rw[if_pos (by assumption)] at hlen⊢
   simp only[List.length_append,List.length_cons,List.length_nil] at hlen
   refine Meets.k (a6I c hne hpo.1 [] 144 C5 (by omega) hT) ?_
   refine Kw ?_
   repeat'((first|(intro hlq;try simp only[SL] at hlq)|refine K9 ?_|refine K8 ?_)<;>refine Kw ?_)
   exact⟨rfl⟩
 . rw[if_neg (by assumption),if_pos (by assumption)] at hlen⊢
   refine Meets.k (a6I c hne hpo.1 [32,97,110,100,32] 144 C5 (by omega) hT) ?_
   refine Kw ?_
   exact⟨rfl⟩
 . rw[if_neg (by assumption),if_neg (by assumption)] at hlen⊢
   refine Meets.k (a6I c hne hpo.1 [32,111,114,32] 145 E6 (by omega) hL) ?_
   refine Kw ?_
   exact⟨rfl⟩
termination_by SizeOf.sizeOf c
decreasing_by omega
end Go.Proofs.YteillnfhkeebjaaGreatDoor.Dx
