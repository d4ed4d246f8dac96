/- What. -/
import Derived.Test.YteillnfhkeebjaaGreatDoorWv
import Derived.Lib.ItoaLen
import Derived.Lib.TrimByte
import Derived.Lib.Join
import Derived.Test.YteillnfhkeebjaaGreatDoorWx
set_option linter.all false
namespace Go.Proofs.YteillnfhkeebjaaGreatDoor.Dx
open Go Go.RowKit Go.Proofs
def R2 (n:Int):List UInt8:=(Lib.itoa (100+n)).drop 1
def a4B (s:Int):List UInt8:=if s≥3600 then Lib.itoa (s/3600)++[58]++R2 (s/60%60)++[58]++R2 (s%60) else Lib.itoa (s/60)++[58]++R2 (s%60)
def a4K (u:Int):List UInt8:=if u>0 then[46]++Lib.trimRightB ((Lib.itoa (1000000+u)).drop 1) 48 else[]
def a0Z (n:Int):List UInt8:=a4B (n/1000000)++a4K (n%1000000)
def a8M (t:Int):List UInt8:=if t<0 then[45]++a0Z (-t) else a0Z t
def Y0 (t:Int):Bool:=inR (-1099511627776) 1099511627776 t
def timeS (t:Int):List UInt8:=if Y0 t then a8M t else[]
def a8L (t:Int):Int:=if Y0 t then 0 else 1
def a3Y (v:Int):List UInt8:=if v=1 then[100,105,115,116,97,110,99,101] else if v=2 then[102,105,101,108,100] else[115,104,111,114,116]
def N7 (x:Int×List UInt8):List UInt8:=if x.1=2\/x.1=3 then[40]++x.2++[41] else x.2
def S1 (x:Int×List UInt8):List UInt8:=if x.1=3 then[40]++x.2++[41] else x.2
def a0l (k v n:Int)(l:List (Int×List UInt8)):List UInt8:=
 if k=1 then a3Y v++[32,62,61,32]++Lib.itoa n else if k=4 then[110,111,116,32]++Lib.join (l.map N7) [] else if k=2 then Lib.join (l.map N7) [32,97,110,100,32] else Lib.join (l.map S1) [32,111,114,32]
def a9C (k v n:Int)(l:List (Int×List UInt8)):Int×List UInt8:=
 match l with
 |[x]=>if k=2\/k=3 then x else(k,a0l k v n [x])
 |l=>(k,a0l k v n l)
mutual
def Cond.pt:Cond->Int×List UInt8
 |⟨k,v,n,ps⟩=>a9C k v n (Cond.ptL ps)
def Cond.ptL:List Cond->List (Int×List UInt8)
 |[]=>[]
 |c::cs=>c.pt::Cond.ptL cs
end
theorem c1C:∀l:List Cond,Cond.ptL l=l.map Cond.pt:=by
 intro l;induction l with|nil=>rfl|cons c l ih=>simp[Cond.ptL,ih]
theorem a8W (c:Cond):c.pt=a9C c.kind c.var c.n (c.parts.map Cond.pt):=by obtain⟨k,v,n,ps⟩:=c;simp only[Cond.pt,c1C]
def Cond.thin (c:Cond):Bool:=(decide (c.kind=2)||decide (c.kind=3))&&decide (c.parts.length=1)
theorem a8X {c p:Cond}(h:c.kind=2\/c.kind=3)(hp:c.parts=[p]):c.pt=p.pt:=by
 rw[a8W,hp,o5,B8,a9C,d4 h]
theorem Y9 {c:Cond}(h:c.thin=false):c.pt=(c.kind,a0l c.kind c.var c.n (c.parts.map Cond.pt)):=by
 rw[a8W];unfold a9C;split
 . rename_i x hx;rw[c8,hx];intro hk;have hl:c.parts.length=1:=by have:=d6 List.length hx;simpa using this
   simp only[Cond.thin,U2,W8,L4] at h;omega
 . rfl
def K4 (b:Int):List UInt8:=if b=1 then[111,108,100,101,114] else if b=2 then[121,111,117,110,103,101,114] else if b=3 then[119,97,118,101] else if b=4 then[98,105,98] else[100,114,97,119]
def t8:Bool->List (List UInt8)->List UInt8
 |_,[]=>[]
 |true,x::l=>x++t8 false l
 |false,x::l=>[32]++x++t8 false l
def ifT (c t e:List UInt8)(ne:Bool):List UInt8:=[105,102,32]++c++[32,123,32]++t++[32,125]++(if ne then[32,101,108,115,101,32,123,32]++e++[32,125] else[])
mutual
def Step.tx:Step->List UInt8
 |⟨k,b,c,t,e⟩=>if k=1 then K4 b++[59] else ifT c.pt.2 (t8 true (Step.txL t)) (t8 true (Step.txL e)) (decide (0<e.length))
def Step.txL:List Step->List (List UInt8)
 |[]=>[]
 |c::cs=>c.tx::Step.txL cs
end
theorem Step.txL_eq:∀l:List Step,Step.txL l=l.map Step.tx:=by
 intro l;induction l with|nil=>rfl|cons c l ih=>simp[Step.txL,ih]
def s7 (l:List Step):List UInt8:=t8 true (l.map Step.tx)
theorem Step.tx_eq (s:Step):s.tx=if s.kind=1 then K4 s.crit++[59] else ifT s.cond.pt.2 (s7 s.th) (s7 s.el) (decide (0<s.el.length)):=by
 obtain⟨k,b,c,t,e⟩:=s;simp only[Step.tx,Step.txL_eq,s7]
def G1 (ms:List Mat)(i:Int):List UInt8:=match ms[i.toNat]? with|some m=>m.name|none=>[]
mutual
def Part.tx (ms:List Mat):Part->List UInt8
 |⟨m,l,ps⟩=>if l=0 then G1 ms m++[59] else[108,97,112,115,32]++Lib.itoa l++[32,123,32]++t8 true (Part.txL ms ps)++[32,125]
def Part.txL (ms:List Mat):List Part->List (List UInt8)
 |[]=>[]
 |c::cs=>Part.tx ms c::Part.txL ms cs
end
theorem Part.txL_eq (ms:List Mat):∀l:List Part,Part.txL ms l=l.map (Part.tx ms):=by
 intro l;induction l with|nil=>rfl|cons c l ih=>simp[Part.txL,ih]
def Q1 (ms:List Mat)(l:List Part):List UInt8:=t8 true (l.map (Part.tx ms))
theorem Part.tx_eq (ms:List Mat)(p:Part):p.tx ms=if p.laps=0 then G1 ms p.mat++[59] else[108,97,112,115,32]++Lib.itoa p.laps++[32,123,32]++Q1 ms p.parts++[32,125]:=by
 obtain⟨m,l,ps⟩:=p;simp only[Part.tx,Part.txL_eq,Q1]
def a6n (k:Int):List UInt8:=if k=1 then[115,116,97,114,116] else if k=2 then[112,97,115,115] else[101,110,100]
def a5o (k:Int):List UInt8:=if k=1 then[103,117,110] else if k=2 then[99,104,105,112] else[115,108,111,116]
def S2 (m:Mat):List UInt8:=[32]++a6n m.kind++[32]++m.name++[59]
def a6q (c:Course):List UInt8:=[109,97,116,115,32,123]++c.mats.flatMap S2++[32,125]
def T5 (c:Course)(x:Leg):List UInt8:=[108,101,103,32]++G1 c.mats x.src++[32,116,111,32]++G1 c.mats x.dst++[32]++timeS x.lo++[32,46,46,32]++timeS x.hi++[59]
def a0A (c:Course)(x:Cutoff):List UInt8:=[32,99,117,116,111,102,102,32]++G1 c.mats x.mat++[32,108,97,112,32]++Lib.itoa x.lap++[32]++timeS x.limit++[59]
def a4D (c:Course)(x:Int):List UInt8:=if x≥0 then[32,101,120,116,114,97,32]++G1 c.mats x++[59] else[]
def a1I (c:Course)(d:Distance):List UInt8:=[100,105,115,116,97,110,99,101,32]++d.name++[32]++a5o d.timing++[32,123,32]++Q1 c.mats d.route++d.cutoffs.flatMap (a0A c)++a4D c d.extra++[32,125]
def U1 (x:Wave):List UInt8:=[119,97,118,101,32]++x.name++[32]++timeS x.gun++[59]
def a4X (x:Offence):List UInt8:=if x.out then[111,117,116] else if x.laps>0 then[108,97,112,115,32]++Lib.itoa x.laps else timeS x.time
def T7 (x:Offence):List UInt8:=[111,102,102,101,110,99,101,32]++x.name++[32]++a4X x++[59]
def T1 (x:Category):List UInt8:=[99,97,116,101,103,111,114,121,32]++x.name++[32]++Lib.itoa x.lo++[32,116,111,32]++Lib.itoa x.hi++[59]
def a2x (c:Course)(i:Int):List UInt8:=match c.distances[i.toNat]? with|some m=>m.name|none=>[]
def a2e (c:Course)(i:Int):List UInt8:=if i≥0 then(match c.categories[i.toNat]? with|some m=>m.name|none=>[]) else[97,108,108]
def S5 (c:Course)(x:Prize):List UInt8:=[112,114,105,122,101,32]++a2x c x.distance++[32]++a2e c x.category++[32]++Lib.itoa x.rank++[32]++Lib.itoa x.amount++[59]
def a3V (c:Course):List UInt8:=[116,105,101,115,32,123,32]++s7 c.ties++[32,125]
def a4F (f:Faults):List UInt8:=[102,97,117,108,116,115,32,123,32,109,105,115,115,101,115,32]++Lib.itoa f.misses++[59,32,115,116,114,97,121,115,32]++Lib.itoa f.strays++[59,32,119,105,110,100,111,119,32]++timeS f.window++[59,32,114,101,115,105,100,117,97,108,32]++timeS f.residual++[59,32,100,114,105,102,116,32]++Lib.itoa f.drift++[59,32,125]
def a4G (c:Course):List UInt8:=[112,114,111,116,101,115,116,32,102,101,101,32]++Lib.itoa c.fee++[32,100,101,97,100,108,105,110,101,32]++timeS c.deadline++[59]
def a0c (c:Course):List (List UInt8):=
 [a6q c]++c.legs.map (T5 c)++c.distances.map (a1I c)++c.waves.map U1++c.offences.map T7++c.categories.map T1++c.prizes.map (S5 c)++[a3V c,a4F c.faults,a4G c]
def k9 (s:List UInt8):List UInt8:=[32,32]++s++[10]
def O5 (c:Course):List UInt8:=[99,111,117,114,115,101,32]++c.name++[32,123,10]++(a0c c).flatMap k9++[125,10]
set_option maxRecDepth 100000
set_option maxHeartbeats 8000000
theorem Ks {a b:List UInt8}{E:Prop}(e:E)(h:a.length+b.length<=9223372036854775807:=by((try simp only[j6,i7,j8]);omega)):(a.length<=maxLen->b.length<=maxLen->a.length+b.length<=maxLen)/\E:=⟨λ_ _=>(by unfold maxLen;exact h),e⟩
theorem Kq {H1 H2:Prop}{a b:Int}{E:Prop}(e:E)(h:H1->H2->0<=a/\1<=b:=by(intro h1 h2;have:=h1.1;have:=h1.2;omega)):(H1->H2->0<=a/\1<=b)/\E:=⟨h,e⟩
theorem Kt {n:Nat}{i j:Int}{E:Prop}(e:E)(h:n<=maxLen->0<=i/\i<=j/\j<=(n:Int):=by(intro _;(try simp only[i7,j8]);omega)):(n<=maxLen->0<=i/\i<=j/\j<=(n:Int))/\E:=⟨h,e⟩
theorem K9s {a b:List UInt8}{E:Prop}(h:a.length+b.length<=9223372036854775807:=by((try simp only[j6,i7,j8]);omega)):E->(a.length<=maxLen->b.length<=maxLen->a.length+b.length<=maxLen)/\E:=λe=>Ks e h
theorem K9q {H1 H2:Prop}{a b:Int}{E:Prop}(h:H1->H2->0<=a/\1<=b:=by(intro h1 h2;have:=h1.1;have:=h1.2;omega)):E->(H1->H2->0<=a/\1<=b)/\E:=λe=>⟨h,e⟩
theorem K9t {n:Nat}{i j:Int}{E:Prop}(h:n<=maxLen->0<=i/\i<=j/\j<=(n:Int):=by(intro _;(try simp only[i7,j8]);omega)):E->(n<=maxLen->0<=i/\i<=j/\j<=(n:Int))/\E:=λe=>⟨h,e⟩
theorem I7 (n:Int)(h0: -9223372036854775808<=n)(h1:n<=9223372036854775807):(Lib.itoa n).length<=21:=Lib.itoa_length_le n h0 h1
theorem b8i (n:Int):1<=(Lib.itoa n).length:=by
 unfold Lib.itoa;split
 . simp
 . rw[Lib.decDigits_length];exact Lib.nDigits_pos _
theorem b1e (n:Int)(h0:0<=n)(h1:n<=9223372036854775700):(R2 n).length<=20:=by
 have:=I7 (100+n) (by omega) (by omega);simp only[R2,K2];omega
theorem b4w (l:List UInt8)(c:UInt8):(Lib.trimRightB l c).length<=l.length:=by
 have:=(List.dropWhile_sublist (λb=>b==c) (l:=l.reverse)).length_le;simpa[Lib.trimRightB] using this
theorem d4k (n:Int)(h0:0<=n)(h1:n<=9223372036854775700):Mt 164 [iD n] λd=>d= .str (R2 n):=by
 refine En {} Tryz.func164 Tryz.ntmps164 λ_ _ _ _ _=>?_;refine Kw ?_;refine⟨λ_ _=>i64 (by omega) (by omega),?_⟩;refine Kw ?_;refine Meets.k (a5x (100+n)) ?_;refine Kw ?_;have:=b8i (100+n);refine⟨λ_=>⟨by omega,by omega,by omega⟩,?_⟩;refine Kw ?_;refine⟨?_⟩;simp[R2]
theorem c2L (s:List UInt8)(hs:s.length<=140737488355328):Mt 165 [.str s, .str [48]] λd=>d= .str (Lib.trimRightB s 48):=by
 refine a9g ⟨Tryz.f165,_,Tryz.func165,rfl,by kernel_rfl⟩ λV W xs hS hx=>?_;obtain⟨u,w,rfl,h1,h2⟩:=hx.two;obtain⟨rfl,_⟩:=h1.str_inv;obtain⟨rfl,_⟩:=h2.str_inv;refine(Tryz.strings_TrimRight_one ⟨⟨s⟩⟩ 48 (by decide) W (by show s.length<=_;omega)).mono ?_;rintro e W' ⟨rfl,rfl⟩;refine⟨_,rfl,rfl, .str _ ?_⟩;have h:(Lib.trimRightB s 48).length<=s.length:=b4w s 48;show(Lib.trimRightB s 48).length<=maxLen;unfold maxLen;omega
theorem a6i {n:Int}(h0:0<=n)(h:n<10):Lib.itoa n=[UInt8.ofNat (48+n.toNat)]:=by
 rw[Lib.itoa,c8 (by omega),Lib.decDigits,dif_pos (by omega)]
theorem a3J {n:Int}(h:¬n<10):Lib.itoa n=Lib.itoa (n/10)++[UInt8.ofNat (48+(n%10).toNat)]:=by
 rw[Lib.itoa,c8 (by omega),Lib.decDigits,dif_neg (by omega),Lib.itoa,c8 (by omega),show(n/10).toNat=n.toNat/10 by omega,show(n%10).toNat=n.toNat%10 by omega]
theorem d3O {t:Int}(h1:¬t>1099511627776)(h2:¬t< -1099511627776):timeS t=(if t<0 then[45] else[])++(a4B (max t (-t)/1000000)++a4K (max t (-t)%1000000)):=by
 have:Y0 t=true:=by simp only[Y0,inR,f0,j0];omega
 rw[timeS,d4 this,a8M];by_cases h:t<0
 . rw[d4 h,d4 h,a0Z,show max t (-t)= -t by omega]
 . rw[c8 h,c8 h,a0Z,show max t (-t)=t by omega];rfl
theorem d3J {t:Int}(h1:¬t>1099511627776)(h2:¬t< -1099511627776):a8L t=0:=by
 have:Y0 t=true:=by simp only[Y0,inR,f0,j0];omega
 rw[a8L,d4 this]
theorem b1b {t:Int}(h:t>1099511627776\/t< -1099511627776):timeS t=[]/\a8L t=1:=by
 have:Y0 t=false:=by simp only[Y0,inR,U2,L4];omega
 rw[a8L,timeS,this];exact⟨rfl,rfl⟩
theorem c2K (t:Int):Mt 80 [iD t] λd=>d= .tup [.str (timeS t),iD (a8L t)]:=by
 refine En {} Tryz.func80 Tryz.ntmps80 λ_ _ _ _ _=>?_;refine Kw ?_;repeat'((first|(intro hlq;try simp only[SL] at hlq)|refine K9 ?_|((refine Kh (λhb=>?_) λhb=>?_)<;>try simp only[BL] at hb)|refine K8 ?_)<;>refine Kw ?_)
 . refine⟨?_⟩;rw[(b1b (.inl (by assumption))).1,(b1b (.inl (by assumption))).2]
 . refine⟨?_⟩;rw[(b1b (.inr (by assumption))).1,(b1b (.inr (by assumption))).2]
 have hm:0<=max t (-t)/\max t (-t)<=1099511627776:=by omega
 have f1:=I7 (max t (-t)/1000000/60) (by omega) (by omega);have f2:=I7 (max t (-t)/1000000/3600) (by omega) (by omega);have f3:=b1e (max t (-t)/1000000%60) (by omega) (by omega);have f4:=b1e (max t (-t)/1000000/60%60) (by omega) (by omega);have f5:=I7 (1000000+max t (-t)%1000000) (by omega) (by omega);have f6:=b8i (1000000+max t (-t)%1000000);have e7:List.drop (Int.toNat 1) (List.take ((Lib.itoa (1000000+max t (-t)%1000000)).length:Int).toNat (Lib.itoa (1000000+max t (-t)%1000000)))=(Lib.itoa (1000000+max t (-t)%1000000)).drop 1:=by simp
 have f7:(Lib.trimRightB (List.drop (Int.toNat 1) (List.take ((Lib.itoa (1000000+max t (-t)%1000000)).length:Int).toNat (Lib.itoa (1000000+max t (-t)%1000000)))) 48).length<=21:=by
  have:=b4w (List.drop 1 (Lib.itoa (1000000+max t (-t)%1000000))) 48;rw[e7];simp only[K2] at this;omega
 refine⟨λ_=>i64 (by omega) (by omega),?_⟩;refine Kw ?_;repeat'((first|(intro hlq;try simp only[SL] at hlq)|refine Meets.k (a5x _) ?_|refine Meets.k (d4k _ (by omega) (by omega)) ?_|refine Meets.k (c2L _ (by simp;omega)) ?_|refine K9 ?_|((refine Kh (λhb=>?_) λhb=>?_)<;>try simp only[BL] at hb)|refine K8 ?_)<;>refine Kw ?_)
 all_goals
  refine⟨?_⟩;rw[d3O (by assumption) (by assumption),d3J (by assumption) (by assumption),a4B,a4K];simp[*]
mutual
def Cond.core:Cond->Cond
 | ⟨k,v,n,ps⟩=>match Cond.coreL ps with
   |[x]=>if k=2\/k=3 then x else⟨k,v,n,ps⟩
   |_=>⟨k,v,n,ps⟩
def Cond.coreL:List Cond->List Cond
 |[]=>[]
 |c::cs=>c.core::Cond.coreL cs
end
theorem c1B:∀l:List Cond,Cond.coreL l=l.map Cond.core:=by
 intro l;induction l with|nil=>rfl|cons c l ih=>simp[Cond.coreL,ih]
theorem a5t {c p:Cond}(h:c.kind=2\/c.kind=3)(hp:c.parts=[p]):c.core=p.core:=by
 obtain⟨k,v,n,ps⟩:=c;dsimp only at h hp;subst hp;simp only[Cond.core,Cond.coreL,d4 h]
theorem a5s {c:Cond}(h:c.thin=false):c.core=c:=by
 obtain⟨k,v,n,ps⟩:=c;simp only[Cond.core,c1B];split
 . rename_i x hx;rw[c8];intro hk;have hl:ps.length=1:=by have:=d6 List.length hx;simpa using this
   simp only[Cond.thin,U2,W8,L4] at h;omega
 . rfl
theorem a4d {c:Cond}(h:c.thin=true):(c.kind=2\/c.kind=3)/\∃p,c.parts=[p]:=by
 simp only[Cond.thin,f0,C0,j0] at h;exact⟨h.1,a5D.1 h.2⟩
theorem c0U:∀{l:List Cond} {x:Cond},x∈l->x.total<=Cond.totalL l:=by
 intro l;induction l with
 |nil=>intro x h;cases h
 | cons c l ih=>
   intro x h;simp only[Cond.totalL];rcases p8.1 h with rfl|h
   . omega
   . have:=ih h;omega
theorem a4e {c:Cond}(h:c.valid=true):∀p∈c.parts,p.valid=true:=by
 rcases b4E h with h1|⟨_,p,hp,hv⟩|⟨_,hv⟩
 . rw[Cond.valid_eq,d4 h1] at h;simp only[f0,j0] at h;have:c.parts=[]:=C8 (by omega);rw[this];simp
 . rw[hp];intro q hq;rw[I4.1 hq];exact hv
 . exact hv
structure CoreOk (c:Cond):Prop where
 thin:c.core.thin=false
 pt:c.core.pt=c.pt
 valid:c.valid=true->c.core.valid=true
 size:SizeOf.sizeOf c.core<=SizeOf.sizeOf c
 total:c.core.total<=c.total
 self:c.core.core=c.core
 ok:c.ok->c.core.ok
theorem N0 (c:Cond):CoreOk c:=by
 cases ht:c.thin with
 | false=>
   have:=a5s ht;exact⟨by rw[this];exact ht,by rw[this],by rw[this];exact id,by rw[this];exact p0 _,by rw[this];exact p0 _,by rw[this,this],by rw[this];exact id⟩
 | true=>
   obtain⟨hk,p,hp⟩:=a4d ht;have hm:p∈c.parts:=by rw[hp];simp
   have hsz:=Cond.size_part hm;obtain⟨h1,h2,h3,h4,h5,h6,h7⟩:=N0 p;have e:=a5t hk hp;refine⟨by rw[e];exact h1,by rw[e,h2,a8X hk hp],λhv=>by rw[e];exact h3 (a4e hv p hm),by rw[e];omega,?_,by rw[e,h6],λho=>by rw[e];exact h7 ((Cond.ok_iff.1 ho).2 p hm)⟩;rw[e,c.total_eq];have:=c0U hm;omega
termination_by SizeOf.sizeOf c
decreasing_by exact hsz
theorem c0L (x:Int×List UInt8):(N7 x).length<=x.2.length+2:=by
 unfold N7;split<;>simp
theorem c8z (x:Int×List UInt8):(S1 x).length<=x.2.length+2:=by
 unfold S1;split<;>simp
theorem join_cons (x:List UInt8)(y:List UInt8)(l:List (List UInt8))(sep:List UInt8):Lib.join (x::y::l) sep=x++(sep++Lib.join (y::l) sep):=by
 simp[Lib.join,List.intercalate]
theorem a9Z (sep:List UInt8)(hs:sep.length<=5){α:Type}(f:α->List UInt8)(g:α->Nat):∀l:List α,(∀x∈l,(f x).length+5<=g x)->(Lib.join (l.map f) sep).length<=(l.map g).sum
 |[],_=>by simp[Lib.join,List.intercalate]
 |[x],h=>by have:=h x (by simp);simp[Lib.join,List.intercalate];omega
 | x::y::l,h=>by
   have ih:=a9Z sep hs f g (y::l) λz hz=>h z (r6 _ hz);have:=h x (by simp);rw[o5,o5,join_cons,<-o5,j6,j6];simp only[o5,Q6] at ih⊢;omega
theorem d3V:∀l:List Cond,(l.map λc=>40*c.total).sum=40*Cond.totalL l:=by
 intro l;induction l with|nil=>rfl|cons c l ih=>simp only[o5,Q6,ih,Cond.totalL];omega
theorem d4A (v:Int):(a3Y v).length<=8:=by unfold a3Y;split<;>(try split)<;>simp
theorem a3Q (c:Cond)(hv:c.valid=true):c.pt.2.length+7<=40*c.total:=by
 have hp:=a4e hv;have ih:∀p∈c.parts,p.pt.2.length+7<=40*p.total:=λp hm=>by
  have:=Cond.size_part hm;exact a3Q p (hp p hm)
 cases ht:c.thin with
 | true=>
   obtain⟨hk,p,hpp⟩:=a4d ht;rw[a8X hk hpp,c.total_eq,hpp];have:=ih p (by rw[hpp];simp);simp only[Cond.totalL];omega
 | false=>
   rw[Y9 ht,c.total_eq];have hs:=d3V c.parts;have h1:(Lib.join ((c.parts.map Cond.pt).map N7) []).length<=40*Cond.totalL c.parts:=by
    rw[<-hs,L0];exact a9Z [] (by simp) _ _ _ λp hm=>by have:=ih p hm;have:=c0L p.pt;simp only[Function.comp];omega
   have h2:(Lib.join ((c.parts.map Cond.pt).map N7) [32,97,110,100,32]).length<=40*Cond.totalL c.parts:=by
    rw[<-hs,L0];exact a9Z _ (by simp) _ _ _ λp hm=>by have:=ih p hm;have:=c0L p.pt;simp only[Function.comp];omega
   have h3:(Lib.join ((c.parts.map Cond.pt).map S1) [32,111,114,32]).length<=40*Cond.totalL c.parts:=by
    rw[<-hs,L0];exact a9Z _ (by simp) _ _ _ λp hm=>by have:=ih p hm;have:=c8z p.pt;simp only[Function.comp];omega
   simp only[a0l];split
   . rename_i hk;rw[Cond.valid_eq,d4 hk] at hv;simp only[f0,inR,j0] at hv;have:=I7 c.n (by omega) (by omega);have:=d4A c.var;simp only[j6,i7,j8];omega
   . split
     . simp only[j6,i7,j8];omega
     . split<;>omega
termination_by SizeOf.sizeOf c
decreasing_by assumption
theorem c2n (l:List (List UInt8))(sep:List UInt8)(h0:l≠[])(hn:l.length<=1048576)(hl:(Lib.join l sep).length<=140737488355328):Mt 201 [.sl (l.map I0), .str sep] λd=>d= .str (Lib.join l sep):=by
 refine⟨⟨⟨_,_,Tryz.func201,rfl,by kernel_rfl⟩,λγ V W xs hs hv ho hi=>?_⟩⟩;obtain⟨x,xs',rfl,hx,hv'⟩:=hv.cons_l;obtain⟨y,xs'',rfl,hy,hv''⟩:=hv'.cons_l;obtain rfl:=hv''.nil_l;obtain⟨rfl,-⟩:=Rep.str_inv hy;have hx:Rep V x (.sl (l.map I0)):=hx;have hne:0<l.length:=a7g.2 h0;generalize hxs:l.map I0=ds at hx;have hlen:ds.length=l.length:=by rw[<-hxs,o9]
 cases hx with
 |nil=>simp at hlen;omega
 |empty a=>simp at hlen;omega
 | sl b o c k _ hc hm hk hex h=>
   have hat:∀(j:Nat) s,l[j]?=some s->ds[j]?=some (I0 s):=λj s h=>by rw[<-hxs,z7,h];rfl
   obtain rfl:k=1:=by
    have:=hk (I0 l[0]) (M6 (hat 0 _ (t6 hne)));simpa[I0] using this.symm
   have hcell:∀(j:Nat) s,l[j]?=some s->V.cell b (o+j)=some (.string ⟨⟨s⟩⟩):=by
    intro j s hj;obtain⟨u,hu,_⟩:=hex j (I0 s) 0 (.str s) (hat j s hj) rfl;have hr:=h j (I0 s) 0 (.str s) u (hat j s hj) rfl hu;rw[hr.str_inv.1] at hu;simpa using hu
   have hbytes:(l.map λs=>(⟨⟨s⟩⟩:ByteArray)).map (λx=>x.data.toList)=l:=by
    rw[L0];exact List.map_id'' (λ_=>rfl) l
   refine(Tryz.strings_Join b o c (l.map λs=>(⟨⟨s⟩⟩:ByteArray)) ⟨⟨sep⟩⟩ W ?_ ?_ ?_ ?_ ?_).mono ?_|>λq=>by rw[o9,<-hlen] at q;exact q
   . intro j x hj;rw[z7] at hj;cases hlj:l[j]? with
     |none=>rw[hlj] at hj;cases hj
     | some s=>
       rw[hlj] at hj;cases hj;exact hs.cell b (o+j) _ (hcell j s hlj)
   . exact hs.lt (hcell 0 _ (t6 hne))
   . rw[o9];omega
   . rw[o9,<-hlen];exact hc
   . rw[hbytes];exact hl
   . rintro e W' ⟨rfl,hb⟩;rw[hbytes];have hl':(Lib.join l sep).length<=maxLen:=by unfold maxLen;omega
     exact⟨γ,V, .ret (.d (.str (Lib.join l sep))),[],Rep.str _ hl', .of hb, .refl _ _ _,hs.below hb,λn b h=>(by rw[r7] at h;cases h),λn b h=>(by rw[r7] at h;cases h),λn n' b b' h=>(by rw[r7] at h;cases h),
      λ_ _ _ _=>rfl,_,rfl,rfl,rfl⟩
theorem a5T (c:Cond):Mt 61 [c.d] λd=>d=c.core.d:=by
 refine En {} Tryz.func61 Tryz.ntmps61 λ_ _ _ _ _=>?_;refine Kw ?_;refine o4 tok {} [] (X:=Cond) (λ_=>[]) (λx=>[(1, .box [iB x.kind,iB x.var,iB x.n, .d (.sl (x.parts.map Cond.cells))] 47)]) [] (λx=>x.core=c.core) (λx=>SizeOf.sizeOf x) c ?_;refine Kw ?_;refine d8 ?_ ⟨rfl,λx hx=>?_⟩
 . exact Kr
 have hthin:x.kind=2\/x.kind=3->(h:(x.parts.length:Int)=1)->(x.parts[0]'(by omega)).core=c.core/\SizeOf.sizeOf (x.parts[0]'(by omega))<SizeOf.sizeOf x:=λhk h=>by
  obtain⟨p,hp⟩:=a5D.1 (by omega:x.parts.length=1);have hm:p∈x.parts:=by rw[hp];simp
  simp only[hp,List.getElem_cons_zero];rw[<-a5t hk hp];exact⟨hx,Cond.size_part hm⟩
 have hself:x.thin=false->D.agg x.dc=c.core.d:=λh=>by rw[<-hx,a5s h]
 refine Kw ?_;repeat'((first|(intro hlq;try simp only[SL] at hlq)|refine K9 ?_|((refine Kh (λhb=>?_) λhb=>?_)<;>try simp only[BL] at hb)|refine K8 ?_)<;>refine Kw ?_)
 . obtain⟨k1,k2⟩:=hthin (.inl (by assumption)) (by assumption);refine⟨⟨_,?_,k1,k2⟩⟩;repeat'(first|exact d9|exact rfl|refine d8 ?_ ?_)
 . exact⟨hself (by simp only[Cond.thin,U2,W8,L4];omega)⟩
 . obtain⟨k1,k2⟩:=hthin (.inr (by assumption)) (by assumption);refine⟨⟨_,?_,k1,k2⟩⟩;repeat'(first|exact d9|exact rfl|refine d8 ?_ ?_)
 . exact⟨hself (by simp only[Cond.thin,U2,W8,L4];omega)⟩
 . exact⟨hself (by simp only[Cond.thin,U2,W8,L4];omega)⟩
theorem b8H (x:Cond)(hl:x.pt.2.length<=1000000)(ht:x.thin=false)(h:Mt 62 [x.d] λd=>d= .str x.pt.2):Mt 145 [x.d] λd=>d= .str (S1 x.pt):=by
 have hk:x.pt.1=x.kind:=by rw[Y9 ht]
 refine En {} Tryz.func145 Tryz.ntmps145 λ_ _ _ _ _=>?_;refine Kw ?_;repeat'((first|(intro hlq;try simp only[SL] at hlq)|refine Meets.k (h) ?_|refine K9 ?_|((refine Kh (λhb=>?_) λhb=>?_)<;>try simp only[BL] at hb)|refine K8 ?_)<;>refine Kw ?_)
 all_goals (refine⟨d6 D.str ?_⟩;rw[S1,hk];simp[*])
theorem d3B (x:Cond)(hl:x.pt.2.length<=1000000)(ht:x.thin=false)(h:Mt 62 [x.d] λd=>d= .str x.pt.2):Mt 144 [x.d] λd=>d= .str (N7 x.pt):=by
 have hk:x.pt.1=x.kind:=by rw[Y9 ht]
 refine En {} Tryz.func144 Tryz.ntmps144 λ_ _ _ _ _=>?_;refine Kw ?_;repeat'((first|(intro hlq;try simp only[SL] at hlq)|refine Meets.k (h) ?_|refine Meets.k (b8H x hl ht h) ?_|refine K9 ?_|((refine Kh (λhb=>?_) λhb=>?_)<;>try simp only[BL] at hb)|refine K8 ?_)<;>refine Kw ?_)
 all_goals (refine⟨d6 D.str ?_⟩;simp only[N7,S1,hk];simp[*])
theorem b2T (c:Cond)(hp:c.parts≠[])(hn:c.parts.length<=1048576)(sep:List UInt8)(F:Nat)(g:Int×List UInt8->List UInt8)(hl:(Lib.join (c.parts.map λp=>g p.pt) sep).length<=1000000)
 (h:∀p∈c.parts,Mt F [p.core.d] λd=>d= .str (g p.pt)):Mt 143 [c.d, .str sep, .fn F [] []] λd=>d= .str (Lib.join (c.parts.map λp=>g p.pt) sep):=by
 refine En {} Tryz.func143 Tryz.ntmps143 λ_ _ _ _ _=>?_;refine Kw ?_;repeat'((first|(intro hlq;try simp only[SL] at hlq)|refine K9 ?_|refine K8 ?_)<;>refine Kw ?_)
 refine o4 tok {} [(.inl 7,7,9,1)] (X:=Nat) (λi=>[(14,iB i),(7, .own 7)]) (λi=>[(7, .sl ⟨9,1,((c.parts.take i).map λp=>I0 (g p.pt)),true⟩)]) [] (λi=>i<=c.parts.length) (λi=>c.parts.length-i) 0 ?_;refine Kw ?_;refine⟨by simp,?_⟩;refine Kw ?_;refine d8 ?_ ⟨by omega,λi hi=>?_⟩
 . exact Kr
 refine Kw ?_;refine⟨λh1=>?_,λh1=>?_⟩<;>(try simp only[BL] at h1)<;>refine Kw ?_
 . have h1':i<c.parts.length:=by omega
   repeat'((first|(intro hlq;try simp only[SL] at hlq)|refine K9 ?_|refine K8 ?_)<;>refine Kw ?_)
   refine Meets.k (a5T c.parts[i]) ?_;refine Kw ?_;refine Meets.k (h c.parts[i] (q7 h1')) ?_;refine Kw ?_;refine⟨by simp,?_⟩;refine Kw ?_;refine⟨λh1 h2=>?_,?_⟩
   . simp only[maxLen,o9,R5,List.length_singleton] at *;omega
   refine Kw ?_;repeat'((first|(intro hlq;try simp only[SL] at hlq)|refine K9 ?_|refine K8 ?_)<;>refine Kw ?_)
   refine⟨⟨i+1,?_,by omega,by omega⟩⟩;rw[<-b3f (λp:Cond=>I0 (g p.pt)) h1'];repeat'(first|exact d9|exact rfl|refine d8 ?_ ?_)
 . have:c.parts.take i=c.parts:=y6 (by omega);rw[this];have e:c.parts.map (λp=>I0 (g p.pt))=(c.parts.map λp=>g p.pt).map I0:=by rw[L0];rfl
   rw[e];refine Meets.k (c2n (c.parts.map λp:Cond=>g p.pt) sep (by simp[hp]) (by simpa using hn) (by omega)) ?_;refine Kw ?_;exact⟨rfl⟩
theorem d3v {c:Cond}(ht:c.thin=false):c.pt.2=a0l c.kind c.var c.n (c.parts.map Cond.pt):=by rw[Y9 ht]
theorem d3w (v n:Int)(hv:1<=v/\v<=3)(hn:0<=n/\n<=10000):Mt 62 [.agg [iD 1,iD v,iD n, .sl []]] λd=>d= .str (a3Y v++[32,62,61,32]++Lib.itoa n):=by
 have f1:=I7 n (by omega) (by omega);rcases(by omega:v=1\/v=2\/v=3) with rfl|rfl|rfl;all_goals
  refine En {} Tryz.func62 Tryz.ntmps62 λ_ _ _ _ _=>?_;refine Kw ?_;repeat'((first|(intro hlq;try simp only[SL] at hlq)|refine K9 ?_|((refine Kh (λhb=>?_) λhb=>?_)<;>try simp only[BL] at hb)|refine K8 ?_)<;>refine Kw ?_)
  . refine Dr {} [.p 0, .p 1, .p 2, .p 3, .p 4, .p 5, .p 6, .p 7, .p 8, .s 9 [8,7,6], .p 10, .p 11] ?_;refine Kw ?_;repeat'((first|(intro hlq;try simp only[SL] at hlq)|refine Meets.k (a5x _) ?_|refine K9 ?_|((refine Kh (λhb=>?_) λhb=>?_)<;>try simp only[BL] at hb)|refine K8 ?_)<;>refine Kw ?_)
    all_goals exact⟨rfl⟩
  all_goals contradiction
theorem a6I (c:Cond)(hv:c.valid=true)(hok:c.ok)(ht:c.thin=false)(hs:c.total<=10000):Mt 62 [c.d] λd=>d= .str c.pt.2:=by
 have hpv:=a4e hv;have hpo:=Cond.ok_iff.1 hok;have hlen:=a3Q c hv;have hparts:∀p∈c.parts,Mt 62 [p.core.d] (λd=>d= .str p.pt.2)/\p.core.thin=false/\p.core.pt=p.pt/\p.core.pt.2.length<=1000000:=by
  intro p hp;have h:=N0 p;have h1:=Cond.size_part hp;have h2:=c0U hp;have h3:=c.total_eq;have h4:=h.size;have h5:=h.total;have h6:=a3Q p.core (h.valid (hpv p hp));have:=a6I p.core (h.valid (hpv p hp)) (h.ok (hpo.2 p hp)) h.thin (by omega);rw[h.pt] at this;exact⟨this,h.thin,h.pt,by omega⟩
 rw[d3v ht] at hlen⊢;have hT:∀p∈c.parts,Mt 144 [p.core.d] λd=>d= .str (N7 p.pt):=λp hp=>by
  obtain⟨h1,h2,h3,h4⟩:=hparts p hp;have:=d3B p.core h4 h2 (by rw[h3];exact h1);rw[h3] at this;exact this
 have hL:∀p∈c.parts,Mt 145 [p.core.d] λd=>d= .str (S1 p.pt):=λp hp=>by
  obtain⟨h1,h2,h3,h4⟩:=hparts p hp;have:=b8H p.core h4 h2 (by rw[h3];exact h1);rw[h3] at this;exact this
 have hk:c.kind=1\/c.kind≠1/\c.parts≠[]:=by
  rcases b4E hv with h|⟨h,p,hp,_⟩|⟨h,_⟩
  . exact .inl h
  . exact .inr ⟨by omega,by rw[hp];simp⟩
  . refine .inr ⟨by omega,λe=>?_⟩;rw[Cond.valid_eq,c8 (by omega),c8 (by omega),d4 h,e] at hv;simp at hv
 rcases hk with hk|⟨hk,hne⟩
 . have h:=hv;rw[Cond.valid_eq,d4 hk] at h;simp only[f0,inR,j0] at h;have e:c.parts=[]:=C8 (by omega);have:=d3w c.var c.n (by omega) (by omega);rw[a0l,d4 hk];rw[show c.d= .agg [iD 1,iD c.var,iD c.n, .sl []] by rw[Cond.d,Cond.dc,hk,e];rfl];exact this
 have m1:(c.parts.map Cond.pt).map N7=c.parts.map λp=>N7 p.pt:=by rw[L0];rfl
 have m2:(c.parts.map Cond.pt).map S1=c.parts.map λp=>S1 p.pt:=by rw[L0];rfl
 rw[a0l,c8 hk,m1,m2] at hlen⊢;refine En {} Tryz.func62 Tryz.ntmps62 λ_ _ _ _ _=>?_;refine Kw ?_;repeat'((first|(intro hlq;try simp only[SL] at hlq)|refine K9 ?_|((refine Kh (λhb=>?_) λhb=>?_)<;>try simp only[BL] at hb)|refine K8 ?_)<;>refine Kw ?_)
 . contradiction
 . rw[d4 (by assumption)] at hlen⊢;simp only[j6,i7,j8] at hlen;refine Meets.k (b2T c hne hpo.1 [] 144 N7 (by omega) hT) ?_;refine Kw ?_;repeat'((first|(intro hlq;try simp only[SL] at hlq)|refine K9 ?_|refine K8 ?_)<;>refine Kw ?_)
   exact⟨rfl⟩
 . rw[c8 (by assumption),d4 (by assumption)] at hlen⊢;refine Meets.k (b2T c hne hpo.1 [32,97,110,100,32] 144 N7 (by omega) hT) ?_;refine Kw ?_;exact⟨rfl⟩
 . rw[c8 (by assumption),c8 (by assumption)] at hlen⊢;refine Meets.k (b2T c hne hpo.1 [32,111,114,32] 145 S1 (by omega) hL) ?_;refine Kw ?_;exact⟨rfl⟩
termination_by SizeOf.sizeOf c
decreasing_by omega
end Go.Proofs.YteillnfhkeebjaaGreatDoor.Dx
