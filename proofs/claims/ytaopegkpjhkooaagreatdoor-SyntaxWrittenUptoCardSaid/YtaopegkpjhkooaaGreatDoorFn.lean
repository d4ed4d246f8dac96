/- strconv.Itoa by the shelf's contract. -/
import Derived.Test.YtaopegkpjhkooaaGreatDoorFj
import Derived.Test.YtaopegkpjhkooaaGreatDoorFz
import Derived.Lib.ItoaLen
import Derived.Test.YtaopegkpjhkooaaGreatDoorFm
import Derived.Lib.TrimByte
set_option linter.all false
namespace Go.Proofs.YtaopegkpjhkooaaGreatDoor.Dx
open Go Go.RowKit Go.Proofs Go.Sort
set_option maxRecDepth 100000
set_option maxHeartbeats 4000000
variable {γ:Gm} {V:Know} {W:World}
theorem c2S (hs : Sees V W) : Lib.TabIs Tryz.prog W "internal/strconv.uint64pow10" .u64 Lib.pow10Tab := by
 obtain⟨e,he⟩:=hs.row
 have hg : Tryz.prog.globalNamed "internal/strconv.uint64pow10" = some b1l := by kernel_rfl
 unfold World.shape? at he
 split at he
 case h_2=>cases he
 rename_i cs e' fz hh
 simp only[Option.some.injEq,Prod.mk.injEq] at he
 unfold Lib.TabIs World.var?
 rw[hg]
 simp only[Option.bind_some,hh,Option.some.injEq]
 apply Array.ext_getElem?
 intro j
 have hp:Lib.pow10Tab=[1,10,100,1000,10000,100000,1000000,10000000,100000000,1000000000,10000000000,100000000000,1000000000000,10000000000000,100000000000000,1000000000000000,10000000000000000,100000000000000000,1000000000000000000,10000000000000000000]:=by decide
 rcases Nat.lt_or_ge j 20 with hj|hj
 . obtain⟨z,hz⟩:∃z,Lib.pow10Tab[j]?=some z:=⟨_,List.getElem?_eq_getElem (by rw[Lib.pow10Tab_length];exact hj)⟩
   have h2:=hs.cell b1l j _ (hs.lib.2 j z (by rw[<-hp];exact hz))
   simp only[World.cell?,hh] at h2
   have h2:cs[j]?=some (Value.int IntKind.u64 z):=h2
   rw[h2]
   simp[hz]
 . rw[Array.getElem?_eq_none (by omega)]
   simp[Lib.pow10Tab_length,hj]
theorem Sees.below (h:Sees V W){W':World}(hb:Below W.heap.size W W'):Sees V W':=by
 refine⟨λb o v hc=>?_,λr x hx=>?_,h.lib,h.keepRow λb o v hc=>hb.block b (h.lt hc)⟩
 . exact(hb.cell (p:=⟨b,o,none⟩) (h.lt hc)).trans (h.cell b o v hc)
 . obtain⟨h1,h2⟩:=h.obj r x hx
   exact⟨(hb.block r (H5 h1)).trans h1,h2⟩
theorem b5r (w:World)(k:Nat)(os:Array Obj):Below w.heap.size w (grow (w.drewN k) os):=
 ⟨rfl,rfl,rfl,by simp[grow],λj hj=>by simp only[grow];exact Array.getElem?_append_left hj⟩
theorem I2 (n:Int):Meets Tryz.prog 10 [.v (.int .i64 n)] λd=>d= .str (Lib.itoa n):=by
 refine⟨⟨⟨_,_,Tryz.func10,rfl,by kernel_rfl⟩,λγ V W xs hs hv ho hi=>?_⟩⟩
 obtain⟨x,xs',rfl,hx,hv'⟩:=hv.cons_l
 obtain rfl:=hv'.nil_l
 obtain⟨rfl,hn⟩:=Rep.int_inv hx
 refine(Tryz.strconv_Itoa n hn.1 hn.2 W (c2S hs)).mono ?_
 rintro e W' ⟨rfl,k,os,rfl⟩
 have hb:=b5r W k os
 have hl:(Lib.itoa n).length<=maxLen:=by have:=Lib.itoa_length_le n hn.1 hn.2;unfold maxLen;omega
 exact⟨γ,V, .ret (.d (.str (Lib.itoa n))),[],Rep.str _ hl, .of hb, .refl _ _ _,hs.below hb,λn b h=>(by rw[o6] at h;cases h),λn b h=>(by rw[o6] at h;cases h),λn n' b b' h=>(by rw[o6] at h;cases h),
  λ_ _ _ _=>rfl,_,rfl,rfl,rfl⟩
end Go.Proofs.YtaopegkpjhkooaaGreatDoor.Dx
/- Times in the code and in the reference (chapter 05 on: without courses). -/
namespace Go.Proofs.YtaopegkpjhkooaaGreatDoor.Dx
open Go Go.RowKit Go.Proofs
set_option maxRecDepth 100000
set_option maxHeartbeats 16000000
def inR (lo hi n:Int):Bool:=decide (lo<=n)&&decide (n<=hi)
def J6 (n:Int):List UInt8:=(Lib.itoa (100+n)).drop 1
def a1e (s:Int):List UInt8:=if s≥3600 then Lib.itoa (s/3600)++[58]++J6 (s/60%60)++[58]++J6 (s%60) else Lib.itoa (s/60)++[58]++J6 (s%60)
def a2p (u:Int):List UInt8:=if u>0 then[46]++Lib.trimRightB ((Lib.itoa (1000000+u)).drop 1) 48 else[]
def X3 (n:Int):List UInt8:=a1e (n/1000000)++a2p (n%1000000)
def a6i (t:Int):List UInt8:=if t<0 then[45]++X3 (-t) else X3 t
def Q0 (t:Int):Bool:=inR (-1099511627776) 1099511627776 t
def s8 (t:Int):List UInt8:=if Q0 t then a6i t else[]
def a4q (t:Int):Int:=if Q0 t then 0 else 1
theorem Ks {a b:List UInt8}{E:Prop}(e:E)(h:a.length+b.length<=9223372036854775807:=by((try simp only[List.length_append,List.length_cons,List.length_nil]);omega)):(a.length<=maxLen->b.length<=maxLen->a.length+b.length<=maxLen)/\E:=⟨λ_ _=>(by unfold maxLen;exact h),e⟩
theorem Kq {H1 H2:Prop}{a b:Int}{E:Prop}(e:E)(h:H1->H2->0<=a/\1<=b:=by(intro h1 h2;have:=h1.1;have:=h1.2;omega)):(H1->H2->0<=a/\1<=b)/\E:=⟨h,e⟩
theorem Kt {n:Nat}{i j:Int}{E:Prop}(e:E)(h:n<=maxLen->0<=i/\i<=j/\j<=(n:Int):=by(intro _;(try simp only[List.length_cons,List.length_nil]);omega)):(n<=maxLen->0<=i/\i<=j/\j<=(n:Int))/\E:=⟨h,e⟩
theorem K9s {a b:List UInt8}{E:Prop}(h:a.length+b.length<=9223372036854775807:=by((try simp only[List.length_append,List.length_cons,List.length_nil]);omega)):E->(a.length<=maxLen->b.length<=maxLen->a.length+b.length<=maxLen)/\E:=λe=>Ks e h
theorem K9q {H1 H2:Prop}{a b:Int}{E:Prop}(h:H1->H2->0<=a/\1<=b:=by(intro h1 h2;have:=h1.1;have:=h1.2;omega)):E->(H1->H2->0<=a/\1<=b)/\E:=λe=>⟨h,e⟩
theorem K9t {n:Nat}{i j:Int}{E:Prop}(h:n<=maxLen->0<=i/\i<=j/\j<=(n:Int):=by(intro _;(try simp only[List.length_cons,List.length_nil]);omega)):E->(n<=maxLen->0<=i/\i<=j/\j<=(n:Int))/\E:=λe=>⟨h,e⟩
theorem U4 (n:Int)(h0: -9223372036854775808<=n)(h1:n<=9223372036854775807):(Lib.itoa n).length<=21:=Lib.itoa_length_le n h0 h1
theorem b8b (n:Int):1<=(Lib.itoa n).length:=by
 unfold Lib.itoa
 split
 . simp
 . rw[Lib.decDigits_length];exact Lib.nDigits_pos _
theorem a6m (n:Int)(h0:0<=n)(h1:n<=9223372036854775700):(J6 n).length<=20:=by
 have:=U4 (100+n) (by omega) (by omega)
 simp only[J6,List.length_drop];omega
theorem c3q (l:List UInt8)(c:UInt8):(Lib.trimRightB l c).length<=l.length:=by
 have:=(List.dropWhile_sublist (λb=>b==c) (l:=l.reverse)).length_le
 simpa[Lib.trimRightB] using this
theorem b6G {k:Nat}(h:k<10):(([48,49,50,51,52,53,54,55,56,57]:List UInt8).take (k+1)).drop k=[UInt8.ofNat (48+k)]:=by
 have:∀k:Fin 10,(([48,49,50,51,52,53,54,55,56,57]:List UInt8).take (k.1+1)).drop k.1=[UInt8.ofNat (48+k.1)]:=by decide
 exact this ⟨k,h⟩
theorem a1o {n:Int}(h0:0<=n)(h:n<10):Lib.itoa n=[UInt8.ofNat (48+n.toNat)]:=by
 rw[Lib.itoa,if_neg (by omega),Lib.decDigits,dif_pos (by omega)]
theorem Y8 {n:Int}(h:¬n<10):Lib.itoa n=Lib.itoa (n/10)++[UInt8.ofNat (48+(n%10).toNat)]:=by
 rw[Lib.itoa,if_neg (by omega),Lib.decDigits,dif_neg (by omega),Lib.itoa,if_neg (by omega),show(n/10).toNat=n.toNat/10 by omega,show(n%10).toNat=n.toNat%10 by omega]
theorem a6f {t:Int}(h1:¬t>1099511627776)(h2:¬t< -1099511627776):s8 t=(if t<0 then[45] else[])++(a1e (max t (-t)/1000000)++a2p (max t (-t)%1000000)):=by
 have:Q0 t=true:=by simp only[Q0,inR,Bool.and_eq_true,decide_eq_true_eq];omega
 rw[s8,if_pos this,a6i]
 by_cases h:t<0
 . rw[if_pos h,if_pos h,X3,show max t (-t)= -t by omega]
 . rw[if_neg h,if_neg h,X3,show max t (-t)=t by omega];rfl
theorem a6e {t:Int}(h1:¬t>1099511627776)(h2:¬t< -1099511627776):a4q t=0:=by
 have:Q0 t=true:=by simp only[Q0,inR,Bool.and_eq_true,decide_eq_true_eq];omega
 rw[a4q,if_pos this]
theorem a6g {t:Int}(h:t>1099511627776\/t< -1099511627776):s8 t=[]/\a4q t=1:=by
 have:Q0 t=false:=by simp only[Q0,inR,Bool.and_eq_false_iff,decide_eq_false_iff_not];omega
 rw[a4q,s8,this];exact⟨rfl,rfl⟩
theorem a6X (n:Int)(h0:0<=n)(hn:n<=9223372036854775807):Meets Tryz.prog 114 [iD n] λd=>d= .str (Lib.itoa n):=by
 have hd:=b6G (k:=(n%10).toNat) (by omega)
 have e1:(n%10+1).toNat=(n%10).toNat+1:=by omega
 refine enter tok {} Tryz.func114 rfl (by kernel_rfl) Tryz.ntmps114 (by simp) λB0 W0 V0 lent g0=>?_
 refine Kw ?_
 repeat'((first|(intro hlq;try simp only[SL] at hlq)|refine K9 ?_|refine K8 ?_)<;>refine Kw ?_)
 refine⟨λh2=>?_,λh2=>?_⟩<;>(try simp only[BL] at h2)<;>refine Kw ?_
 . refine⟨congrArg D.str ?_⟩
   rw[e1,a1o h0 h2,show n.toNat=(n%10).toNat by omega]
   exact hd
 . repeat' ((first|(intro hlq;try simp only[SL] at hlq)|refine K9 ?_|refine K8 ?_)<;>refine Kw ?_)
   have hlt:(n/10).toNat<n.toNat:=by omega
   refine Meets.k (a6X (n/10) (by omega) (by omega)) ?_
   have:=U4 (n/10) (by omega) (by omega)
   refine Kw ?_
   refine Ks ?_ ?_
   rotate_left
   . have h3:=congrArg List.length hd
     rw[<-e1] at h3
     exact Nat.le_trans (Nat.add_le_add this (Nat.le_of_eq h3)) (by simp)
   refine Kw ?_
   refine⟨congrArg D.str ?_⟩
   rw[Y8 h2,e1]
   exact congrArg _ hd
termination_by n.toNat
decreasing_by exact hlt
theorem b3D {n:Int}(h0:0<=n)(h1:n<100):J6 n=Lib.itoa (n/10)++Lib.itoa (n%10):=by
 rw[J6,Y8 (by omega:¬100+n<10),Y8 (by omega:¬(100+n)/10<10),a1o (by omega:(0:Int)<=(100+n)/10/10) (by omega),a1o (by omega:0<=n/10) (by omega),a1o (by omega:0<=n%10) (by omega),
  show((100+n)/10%10).toNat=(n/10).toNat by omega,show((100+n)%10).toNat=(n%10).toNat by omega]
 rfl
theorem c0V (n:Int)(h0:0<=n)(h1:n<100):Meets Tryz.prog 115 [iD n] λd=>d= .str (J6 n):=by
 have f1:=U4 (n/10) (by omega) (by omega)
 have f2:=U4 (n%10) (by omega) (by omega)
 rw[b3D h0 h1]
 refine enter tok {} Tryz.func115 rfl (by kernel_rfl) Tryz.ntmps115 (by simp) λB0 W0 V0 lent g0=>?_
 refine Kw ?_
 repeat'((first|(intro hlq;try simp only[SL] at hlq)|refine Meets.k (a6X _ (by omega) (by omega)) ?_|refine K9 ?_|((refine Kh (λhb=>?_) λhb=>?_)<;>try simp only[BL] at hb)|refine K8 ?_)<;>refine Kw ?_)
 exact⟨rfl⟩
theorem b3f {u:Int}(h0:0<=u)(h1:u<1000000):(Lib.itoa (1000000+u)).drop 1=
 [UInt8.ofNat (48+(u/100000%10).toNat),UInt8.ofNat (48+(u/10000%10).toNat),UInt8.ofNat (48+(u/1000%10).toNat),UInt8.ofNat (48+(u/100%10).toNat),UInt8.ofNat (48+(u/10%10).toNat),UInt8.ofNat (48+(u%10).toNat)]:=by
 rw[Y8 (by omega:¬1000000+u<10),Y8 (by omega:¬(1000000+u)/10<10),Y8 (by omega:¬(1000000+u)/10/10<10),Y8 (by omega:¬(1000000+u)/10/10/10<10),
  Y8 (by omega:¬(1000000+u)/10/10/10/10<10),Y8 (by omega:¬(1000000+u)/10/10/10/10/10<10),a1o (by omega:(0:Int)<=(1000000+u)/10/10/10/10/10/10) (by omega),
  show((1000000+u)/10/10/10/10/10%10).toNat=(u/100000%10).toNat by omega,show((1000000+u)/10/10/10/10%10).toNat=(u/10000%10).toNat by omega,show((1000000+u)/10/10/10%10).toNat=(u/1000%10).toNat by omega,
  show((1000000+u)/10/10%10).toNat=(u/100%10).toNat by omega,show((1000000+u)/10%10).toNat=(u/10%10).toNat by omega,show((1000000+u)%10).toNat=(u%10).toNat by omega]
 rfl
theorem a2F {k:Nat}(hk:k<10)(h:UInt8.ofNat (48+k)=48):k=0:=by
 have:=congrArg UInt8.toNat h
 simp at this
 omega
theorem c3t (l:List UInt8)(c:UInt8):Lib.trimRightB (l++[c]) 48=if c=48 then Lib.trimRightB l 48 else l++[c]:=by
 simp only[Lib.trimRightB,List.reverse_append,List.reverse_cons,List.reverse_nil,List.nil_append,List.singleton_append,List.dropWhile_cons,beq_iff_eq]
 split<;>simp
theorem b0M {p:UInt8->Bool}:∀{l:List UInt8},l.dropWhile p=[]->∀x∈l,p x=true
 |[],_,x,hx=>by cases hx
 | y ::l,h,x,hx=>by
   rw[List.dropWhile_cons] at h
   split at h
   . rcases List.mem_cons.1 hx with rfl|hx
     . assumption
     . exact b0M h x hx
   . cases h
theorem c3s {l:List UInt8}(h:Lib.trimRightB l 48=[]):∀x∈l,x=48:=by
 have h:List.dropWhile (λb=>b==48) l.reverse=[]:=by simpa[Lib.trimRightB] using h
 intro x hx
 have:=b0M h x (by simpa using hx)
 simpa using this
theorem b3g {u:Int}(h0:0<u)(h1:u<1000000):Lib.trimRightB ((Lib.itoa (1000000+u)).drop 1) 48≠[]:=by
 intro h
 have h:=c3s h
 rw[b3f (by omega) h1] at h
 simp only[List.mem_cons,List.not_mem_nil,or_false,forall_eq_or_imp,forall_eq] at h
 obtain⟨a,b,c,d,e,f⟩:=h
 have:=a2F (by omega) a
 have:=a2F (by omega) b
 have:=a2F (by omega) c
 have:=a2F (by omega) d
 have:=a2F (by omega) e
 have:=a2F (by omega) f
 omega
theorem L5 (t:Int):(s8 t).length<=100:=by
 unfold s8
 split
 . rename_i h
   simp only[Q0,inR,Bool.and_eq_true,decide_eq_true_eq] at h
   have key:∀n:Int,0<=n->n<=1099511627776->(X3 n).length<=90:=by
    intro n h0 h1
    have f1:=U4 (n/1000000/60) (by omega) (by omega)
    have f2:=U4 (n/1000000/3600) (by omega) (by omega)
    have f3:=a6m (n/1000000%60) (by omega) (by omega)
    have f4:=a6m (n/1000000/60%60) (by omega) (by omega)
    have f5:=U4 (1000000+n%1000000) (by omega) (by omega)
    have f7:=c3q (List.drop 1 (Lib.itoa (1000000+n%1000000))) 48
    simp only[List.length_drop] at f7
    unfold X3 a1e a2p
    split<;>split<;>simp only[List.length_append,List.length_cons,List.length_nil]<;>omega
   unfold a6i
   split
   . have:=key (-t) (by omega) (by omega)
     simp only[List.length_append,List.length_cons,List.length_nil];omega
   . have:=key t (by omega) (by omega)
     omega
 . simp
theorem b2v (t:Int):Meets Tryz.prog 69 [iD t] λd=>d= .tup [.str (s8 t),iD (a4q t)]:=by
 refine enter tok {} Tryz.func69 rfl (by kernel_rfl) Tryz.ntmps69 (by simp) λB0 W0 V0 lent g0=>?_
 refine Kw ?_
 repeat'((first|(intro hlq;try simp only[SL] at hlq)|refine K9 ?_|((refine Kh (λhb=>?_) λhb=>?_)<;>try simp only[BL] at hb)|refine K8 ?_)<;>refine Kw ?_)
 . refine⟨?_⟩
   rw[(a6g (.inl (by assumption))).1,(a6g (.inl (by assumption))).2]
 . refine⟨?_⟩
   rw[(a6g (.inr (by assumption))).1,(a6g (.inr (by assumption))).2]
 . refine⟨λ_=>i64 (by omega) (by omega),?_⟩
   refine Kw ?_
   have hlt:(if-t<0 then 1 else 0:Nat)<(if t<0 then 1 else 0:Nat):=by rw[if_neg (by omega),if_pos (by omega)];omega
   refine Meets.k (b2v (-t)) ?_
   refine Kw ?_
   have:=L5 (-t)
   repeat'((first|(intro hlq;try simp only[SL] at hlq)|refine K9 ?_|refine K8 ?_)<;>refine Kw ?_)
   refine⟨?_⟩
   rw[a6f (by assumption) (by assumption),a6e (by assumption) (by assumption),a6f (by omega) (by omega),a6e (by omega) (by omega),if_neg (by omega:¬ -t<0),if_pos (by assumption),show max (-t) (- -t)=max t (-t) by omega]
   rfl
 have e0:max t (-t)=t:=by omega
 have f1:=U4 (t/1000000/60) (by omega) (by omega)
 have f2:=U4 (t/1000000/3600) (by omega) (by omega)
 have f3:=a6m (t/1000000%60) (by omega) (by omega)
 have f4:=a6m (t/1000000/60%60) (by omega) (by omega)
 have f5:=U4 (1000000+t%1000000) (by omega) (by omega)
 have f6:=b8b (1000000+t%1000000)
 repeat'((first|(intro hlq;try simp only[SL] at hlq)|refine Meets.k (a6X _ (by omega) (by omega)) ?_|refine Meets.k (c0V _ (by omega) (by omega)) ?_|refine K9 ?_|((refine Kh (λhb=>?_) λhb=>?_)<;>try simp only[BL] at hb)|refine K8 ?_)<;>refine Kw ?_)
 all_goals try
  refine⟨?_⟩
  rw[a6f (by assumption) (by assumption),a6e (by assumption) (by assumption),e0,a1e,a2p]
  simp[*]
  done
 all_goals
  have hne:=b3g (u:=t%1000000) (by omega) (by omega)
  have e7:List.drop (Int.toNat 1) (List.take ((Lib.itoa (1000000+t%1000000)).length:Int).toNat (Lib.itoa (1000000+t%1000000)))=(Lib.itoa (1000000+t%1000000)).drop 1:=by simp
  have f8:((Lib.itoa (1000000+t%1000000)).drop 1).length<=20:=by rw[List.length_drop];omega
  refine j7 tok {} [] (X:=List UInt8) (λs=>[(9, .d (.str s))]) (λ_=>[]) [] (λs=>Lib.trimRightB s 48=Lib.trimRightB ((Lib.itoa (1000000+t%1000000)).drop 1) 48/\s.length<=20) (λs=>s.length) ((Lib.itoa (1000000+t%1000000)).drop 1) ?_
  refine Kw ?_
  refine And.intro ?_ ⟨⟨rfl,f8⟩,λs hΦ=>?_⟩
  . rw[<-e7]
    repeat'(first|exact True.intro|exact rfl|refine And.intro ?_ ?_)
  obtain⟨hs,hsl⟩:=hΦ
  rcases List.eq_nil_or_concat s with rfl|⟨s,c,rfl⟩
  . exact absurd hs.symm hne
  rw[List.concat_eq_append] at hs hsl⊢
  rw[c3t] at hs
  rw[List.length_append,List.length_cons,List.length_nil] at hsl
  refine Kw ?_
  repeat'((first|(intro hlq;try simp only[SL] at hlq)|refine K9 ?_|refine K8 ?_)<;>refine Kw ?_)
  refine⟨c,⟨by simp only[List.length_append,List.length_cons,List.length_nil];omega,by simp⟩,?_⟩
  refine Kw ?_
  refine⟨λh1=>?_,λh1=>?_⟩<;>(try simp only[BL] at h1)<;>refine Kw ?_
  . obtain rfl:c=48:=UInt8.toNat_inj.1 (by have:(48:UInt8).toNat=48:=rfl;omega)
    rw[if_pos rfl] at hs
    repeat'((first|(intro hlq;try simp only[SL] at hlq)|refine K9 ?_|refine K8 ?_)<;>refine Kw ?_)
    refine⟨λ_=>by simp only[List.length_append,List.length_cons,List.length_nil];omega,?_⟩
    refine Kw ?_
    have e9:(((s++[48]).length:Int)-1).toNat=s.length:=by simp
    refine⟨⟨s,?_,⟨hs,by omega⟩,by simp⟩⟩
    repeat'(first|exact True.intro|exact rfl|refine And.intro ?_ ?_|(refine congrArg D.str ?_;simp[e9,List.append_assoc];done))
  . rw[if_neg (by rintro rfl;exact h1 rfl)] at hs
    repeat'((first|(intro hlq;try simp only[SL] at hlq)|refine K9 ?_|((refine Kh (λhb=>?_) λhb=>?_)<;>try simp only[BL] at hb)|refine K8 ?_)<;>refine Kw ?_)
    refine⟨?_⟩
    rw[a6f (by assumption) (by assumption),a6e (by assumption) (by assumption),e0,a1e,a2p,<-hs]
    simp[*]
    try omega
termination_by (if t<0 then 1 else 0:Nat)
decreasing_by exact hlt
end Go.Proofs.YtaopegkpjhkooaaGreatDoor.Dx
