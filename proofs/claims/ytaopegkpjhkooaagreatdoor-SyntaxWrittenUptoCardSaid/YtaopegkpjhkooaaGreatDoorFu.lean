/- Quoted texts,in the code and in the reference. -/
import Derived.Test.YtaopegkpjhkooaaGreatDoorFt
set_option linter.all false
namespace Go.Proofs.YtaopegkpjhkooaaGreatDoor.Dx
open Go Go.RowKit Go.Proofs
set_option maxRecDepth 100000
set_option maxHeartbeats 8000000
theorem b7N (s:List UInt8)(c:UInt8): -1<=Lib.indexByte s c/\Lib.indexByte s c<=s.length:=by
 refine⟨Lib.indexByte_ge s c,?_⟩
 induction s with
 |nil=>show(-1:Int)<=0;decide
 | cons b l ih=>
   unfold Lib.indexByte
   simp only[List.length_cons]
   split
   . omega
   split<;>omega
theorem b4y (s:List UInt8)(c:UInt8)(hs:s.length<=1000):Meets Tryz.prog 127 [.str s, .v (.int .u8 (c.toNat:Int))] λd=>d=iD (Lib.indexByte s c):=by
 refine Meets.still ⟨Tryz.f127,_,Tryz.func127,rfl,by kernel_rfl⟩ λV W xs hS hx=>?_
 obtain⟨u,w,rfl,h1,h2⟩:=hx.two
 obtain⟨rfl,_⟩:=h1.str_inv
 obtain⟨rfl,_⟩:=Rep.v_inv h2
 refine(Tryz.strings_IndexByte ⟨⟨s⟩⟩ _ W).mono ?_
 rintro e W' ⟨rfl,rfl⟩
 have e:((c.toNat:Int)).toNat.toUInt8=c:=by
  rw[Int.toNat_natCast];exact UInt8.ofNat_toNat
 rw[e]
 have hb:=b7N s c
 exact⟨_,rfl,rfl,Rep.int (i64 (by show _<=Lib.indexByte s c;omega) (by show Lib.indexByte s c<=_;omega))⟩
def a5l (d:UInt8):Int:=if d=34 then 0 else if d=92 then 1 else if d=110 then 2 else-1
theorem b7a (d:UInt8):Lib.indexByte [34,92,110] d=a5l d:=by
 have h:∀n:Fin 256,Lib.indexByte [34,92,110] (UInt8.ofNat n.1)=a5l (UInt8.ofNat n.1):=by decide+kernel
 have:=h ⟨d.toNat,d.toNat_lt⟩
 simpa using this
theorem c0j (t:List UInt8):r6 (34::t)=some ([],1):=by unfold r6;rfl
theorem c0g {c:UInt8}{t:List UInt8}(h1:c≠34)(h2:c<32\/c>126):r6 (c::t)=none:=by
 unfold r6;rw[if_neg h1,if_pos h2]
theorem c0m {c:UInt8}{t:List UInt8}(h1:c≠34)(h2:¬(c<32\/c>126))(h3:c≠92):r6 (c::t)=(r6 t).map λx=>(c::x.1,x.2+1):=by
 conv=>lhs;unfold r6
 rw[if_neg h1,if_neg h2,if_neg h3]
 cases r6 t<;>rfl
theorem c0l:r6 [92]=none:=by unfold r6;rfl
theorem c0k (d:UInt8)(t:List UInt8):r6 (92::d::t)=match a2l d with|some x=>(r6 t).map λy=>(x::y.1,y.2+2)|none=>none:=by
 conv=>lhs;unfold r6
 rw[if_neg (by decide),if_neg (by decide),if_pos rfl]
 dsimp only
 cases a2l d with
 |none=>rfl
 |some x=>cases r6 t<;>rfl
def D2 (acc:List UInt8)(i:Nat)(o:Option (List UInt8×Nat)):Option (List UInt8×Nat):=o.map λx=>(acc++x.1,x.2+i)
def c0f:Option (List UInt8×Nat)->D|some (s,n)=> .tup [.str s,iD n]|none=> .tup [.str [],iD 0]
theorem a7Z (acc:List UInt8)(i:Nat)(x:UInt8)(k:Nat)(o:Option (List UInt8×Nat)):D2 acc i (o.map λy=>(x::y.1,y.2+k))=D2 (acc++[x]) (i+k) o:=by
 cases o with
 |none=>rfl
 |some y=>simp only[D2,Option.map_some,List.append_assoc,List.singleton_append];congr 2;omega
theorem Kar {n:Nat}{ds:List D}{E:Prop}(e:E)(h:ds.length=n:=by rfl):(∀x∈[ds],x.length=n)/\E:=
 ⟨λx hx=>by rw[List.mem_singleton.1 hx];exact h,e⟩
theorem Kap {xs ys:List (List D)}{b:Nat}{E:Prop}(e:E)(h:xs.length+ys.length<=4611686018427387904/\(xs.length+ys.length)*b<=140737488355328:=by(dsimp only at *;simp only[List.length_map,List.length_cons,List.length_nil];omega)):
 (xs.length<=maxLen->ys.length<=maxLen->xs.length+ys.length<=4611686018427387904/\(xs.length+ys.length)*b<=140737488355328)/\E:=⟨λ_ _=>h,e⟩
theorem W7 {b:UInt8}{n:Nat}(hn:n<256):(b=UInt8.ofNat n)↔((b.toNat:Int)=(n:Int)):=by
 rw[<-UInt8.toNat_inj,UInt8.toNat_ofNat'];omega
theorem bcs (acc:List UInt8)(b:UInt8):o8 acc++[[cD (b.toNat:Int)]]=o8 (acc++[b]):=by simp[o8]
theorem c3D {b:UInt8}{n:Nat}(hn:n<256):(b<UInt8.ofNat n)↔((b.toNat:Int)<(n:Int)):=by
 rw[UInt8.lt_iff_toNat_lt,UInt8.toNat_ofNat'];omega
theorem c3C {b:UInt8}{n:Nat}(hn:n<256):(b>UInt8.ofNat n)↔((b.toNat:Int)>(n:Int)):=by
 show(UInt8.ofNat n<b)↔_
 rw[UInt8.lt_iff_toNat_lt,UInt8.toNat_ofNat'];omega
theorem c0i (c:UInt8)(t:List UInt8)(acc:List UInt8)(i:Nat):
 ((c.toNat:Int)=34->D2 acc i (r6 (c::t))=some (acc,i+1))/\
 (¬(c.toNat:Int)=34->((c.toNat:Int)<32\/(c.toNat:Int)>126)->D2 acc i (r6 (c::t))=none)/\
 (¬(c.toNat:Int)=34->¬(c.toNat:Int)<32->¬(c.toNat:Int)>126->¬(c.toNat:Int)=92->D2 acc i (r6 (c::t))=D2 (acc++[c]) (i+1) (r6 t))/\
 ((c.toNat:Int)=92->t=[]->D2 acc i (r6 (c::t))=none)/\
 (∀d r,(c.toNat:Int)=92->t=d::r->((d.toNat:Int)=34\/(d.toNat:Int)=92->D2 acc i (r6 (c::t))=D2 (acc++[d]) (i+2) (r6 r))/\((d.toNat:Int)=110->D2 acc i (r6 (c::t))=D2 (acc++[10]) (i+2) (r6 r))/\
   (¬(d.toNat:Int)=34->¬(d.toNat:Int)=92->¬(d.toNat:Int)=110->D2 acc i (r6 (c::t))=none)):=by
 have e34:c=34↔(c.toNat:Int)=34:=W7 (n:=34) (by decide)
 have e92:c=92↔(c.toNat:Int)=92:=W7 (n:=92) (by decide)
 have e32:c<32↔(c.toNat:Int)<32:=c3D (n:=32) (by decide)
 have e126:c>126↔(c.toNat:Int)>126:=c3C (n:=126) (by decide)
 refine⟨λh=>?_,λh1 h2=>?_,λh1 h2 h3 h4=>?_,λh1 h2=>?_,λd r h1 h2=>?_⟩
 . rw[e34.2 h,c0j]
   simp[D2];omega
 . rw[c0g (λh=>h1 (e34.1 h)) (by rw[e32,e126];exact h2)];rfl
 . rw[c0m (λh=>h1 (e34.1 h)) (by rw[e32,e126];omega) (λh=>h4 (e92.1 h)),a7Z]
 . rw[e92.2 h1,h2,c0l];rfl
 . subst h2
   rw[e92.2 h1,c0k]
   have d34:d=34↔(d.toNat:Int)=34:=W7 (n:=34) (by decide)
   have d92:d=92↔(d.toNat:Int)=92:=W7 (n:=92) (by decide)
   have d110:d=110↔(d.toNat:Int)=110:=W7 (n:=110) (by decide)
   refine⟨λh=>?_,λh=>?_,λh3 h4 h5=>?_⟩
   . have:a2l d=some d:=by
      rcases h with h|h
      . rw[d34.2 h];rfl
      . rw[d92.2 h];rfl
     rw[this]
     exact a7Z acc i d 2 _
   . rw[d110.2 h]
     exact a7Z acc i 10 2 _
   . have:a2l d=none:=by
      rw[a2l,if_neg (λh=>h3 (d34.1 h)),if_neg (λh=>h4 (d92.1 h)),if_neg (λh=>h5 (d110.1 h))]
     rw[this];rfl
theorem c0n (l:List UInt8)(hl:l.length<=65536):Meets Tryz.prog 91 [.sl (o8 l)] λd=>d=c0f (D2 [] 1 (r6 (l.drop 1))):=by
 refine enter tok {} Tryz.func91 rfl (by kernel_rfl) Tryz.ntmps91 (by simp) λB0 W0 V0 lent g0=>?_
 refine Kw ?_
 refine j7 tok {} [(.inl 4,4,5,1)] (X:=Nat×List UInt8) (λx=>[(5,iB x.1),(4, .own 4)]) (λx=>[(4, .sl ⟨5,1,o8 x.2,true⟩)]) [] (λx=>1<=x.1/\x.1<=l.length+1/\x.2.length<=x.1/\D2 x.2 x.1 (r6 (l.drop x.1))=D2 [] 1 (r6 (l.drop 1))) (λx=>l.length+1-x.1) (1,[]) ?_
 refine Kw ?_
 refine⟨by simp,?_⟩
 refine Kw ?_
 refine And.intro ?_ ⟨⟨by omega,by dsimp only;omega,by simp,rfl⟩,λx hΦ=>?_⟩
 . exact Kr
 obtain⟨i,acc⟩:=x
 dsimp only at hΦ⊢
 obtain⟨hi,hj,hk,he⟩:=hΦ
 rw[<-he]
 refine Kw ?_
 repeat'((first|(intro hlq;try simp only[SL] at hlq)|refine K9 ?_|refine K8 ?_)<;>refine Kw ?_)
 refine⟨λh1=>?_,λh1=>?_⟩<;>(try simp only[BL] at h1)<;>refine Kw ?_
 . have h1' :i<l.length:=by omega
   have e:=List.drop_eq_getElem_cons h1'
   rw[e] at he⊢
   obtain⟨c1,c2,c3,c4,c5⟩:=c0i l[i] (l.drop (i+1)) acc i
   have hk':acc.length<=65537:=by omega
   have hfin:∀{x:UInt8} {j:Nat},j<=l.length->i<j->D2 acc i (r6 (l[i]::l.drop (i+1)))=D2 (acc++[x]) j (r6 (l.drop j))->1<=j/\j<=l.length+1/\(acc++[x]).length<=j/\D2 (acc++[x]) j (r6 (l.drop j))=D2 acc i (r6 (l[i]::l.drop (i+1))):=by
    intro x j h1 h2 h3
    refine⟨by omega,by omega,by rw[List.length_append,List.length_singleton];omega,h3.symm⟩
   by_cases he92:(l[i].toNat:Int)=92
   . by_cases hlt:i+1<l.length
     . have e2:=List.drop_eq_getElem_cons hlt
       obtain⟨d1,d2,d3⟩:=c5 _ _ he92 e2
       have hI:Lib.indexByte [34,92,110] l[i+1]=a5l l[i+1]:=b7a _
       have k1:=b4y [34,92,110] l[i+1] (by decide)
       rw[hI] at k1
       have x34:l[i+1]=34↔(l[i+1].toNat:Int)=34:=W7 (n:=34) (by decide)
       have x92:l[i+1]=92↔(l[i+1].toNat:Int)=92:=W7 (n:=92) (by decide)
       have x110:l[i+1]=110↔(l[i+1].toNat:Int)=110:=W7 (n:=110) (by decide)
       unfold a5l at k1
       simp only[x34,x92,x110] at k1
       by_cases y34:(l[i+1].toNat:Int)=34
       . rw [if_pos y34] at k1
         repeat'((first|(intro hlq;try simp only[SL] at hlq)|refine Meets.k (k1) ?_|refine Kar ?_|refine Kap ?_|refine⟨34,⟨by omega,rfl⟩,?_⟩|refine K9 ?_|((refine Kh (λhb=>?_) λhb=>?_)<;>try simp only[BL] at hb)|refine Ka ?_|refine Kb ?_|refine Kc (hd:=rfl) (e:=?_)|refine Kc (hd:=rfl) (e:=?_)|refine Kd (e:=?_)|refine Kl rfl ?_|fail)<;>refine Kw ?_)
         all_goals first
          |(exfalso;omega)
          | (refine⟨⟨(i+2,acc++[l[i+1]]),?_,hfin (j:=i+2) (by omega) (by omega) (d1 (.inl y34)),by dsimp only;omega⟩⟩
             dsimp only
             rw[<-bcs,x34.2 y34]
             repeat'(first|exact True.intro|exact rfl|refine And.intro ?_ ?_))
       rw[if_neg y34] at k1
       by_cases y92:(l[i+1].toNat:Int)=92
       . rw [if_pos y92] at k1
         repeat'((first|(intro hlq;try simp only[SL] at hlq)|refine Meets.k (k1) ?_|refine Kar ?_|refine Kap ?_|refine⟨92,⟨by omega,rfl⟩,?_⟩|refine K9 ?_|((refine Kh (λhb=>?_) λhb=>?_)<;>try simp only[BL] at hb)|refine Ka ?_|refine Kb ?_|refine Kc (hd:=rfl) (e:=?_)|refine Kc (hd:=rfl) (e:=?_)|refine Kd (e:=?_)|refine Kl rfl ?_|fail)<;>refine Kw ?_)
         all_goals first
          |(exfalso;omega)
          | (refine⟨⟨(i+2,acc++[l[i+1]]),?_,hfin (j:=i+2) (by omega) (by omega) (d1 (.inr y92)),by dsimp only;omega⟩⟩
             dsimp only
             rw[<-bcs,x92.2 y92]
             repeat'(first|exact True.intro|exact rfl|refine And.intro ?_ ?_))
       rw[if_neg y92] at k1
       by_cases y110:(l[i+1].toNat:Int)=110
       . rw [if_pos y110] at k1
         repeat'((first|(intro hlq;try simp only[SL] at hlq)|refine Meets.k (k1) ?_|refine Kar ?_|refine Kap ?_|refine⟨10,⟨by omega,rfl⟩,?_⟩|refine K9 ?_|((refine Kh (λhb=>?_) λhb=>?_)<;>try simp only[BL] at hb)|refine Ka ?_|refine Kb ?_|refine Kc (hd:=rfl) (e:=?_)|refine Kc (hd:=rfl) (e:=?_)|refine Kd (e:=?_)|refine Kl rfl ?_|fail)<;>refine Kw ?_)
         all_goals first
          |(exfalso;omega)
          | (refine⟨⟨(i+2,acc++[10]),?_,hfin (j:=i+2) (by omega) (by omega) (d2 y110),by dsimp only;omega⟩⟩
             dsimp only
             rw[<-bcs]
             repeat'(first|exact True.intro|exact rfl|refine And.intro ?_ ?_))
       rw[if_neg y110] at k1
       rw[d3 y34 y92 y110]
       repeat'((first|(intro hlq;try simp only[SL] at hlq)|refine Meets.k (k1) ?_|refine K9 ?_|((refine Kh (λhb=>?_) λhb=>?_)<;>try simp only[BL] at hb)|refine Ka ?_|refine Kb ?_|refine Kc (hd:=rfl) (e:=?_)|refine Kc (hd:=rfl) (e:=?_)|refine Kd (e:=?_)|refine Kl rfl ?_|fail)<;>refine Kw ?_)
       all_goals first
        |exact⟨rfl⟩
        |(exfalso;omega)
     . have e2:List.drop (i+1) l=[]:=List.drop_eq_nil_of_le (by omega)
       rw[c4 he92 e2]
       repeat'((first|(intro hlq;try simp only[SL] at hlq)|refine K9 ?_|((refine Kh (λhb=>?_) λhb=>?_)<;>try simp only[BL] at hb)|refine Ka ?_|refine Kb ?_|refine Kc (hd:=rfl) (e:=?_)|refine Kc (hd:=rfl) (e:=?_)|refine Kd (e:=?_)|refine Kl rfl ?_|fail)<;>refine Kw ?_)
       all_goals first
        |exact⟨rfl⟩
        |(exfalso;omega)
   . repeat' ((first|(intro hlq;try simp only[SL] at hlq)|refine⟨acc,rfl,?_⟩|refine Kar ?_|refine Kap ?_|refine K9 ?_|((refine Kh (λhb=>?_) λhb=>?_)<;>try simp only[BL] at hb)|refine Ka ?_|refine Kb ?_|refine Kc (hd:=rfl) (e:=?_)|refine Kc (hd:=rfl) (e:=?_)|refine Kd (e:=?_)|refine Kl rfl ?_|fail)<;>refine Kw ?_)
     all_goals first
      |(exfalso;omega)
      |(refine⟨?_⟩;rw[c1 (by assumption)];rfl)
      |(refine⟨?_⟩;rw[c2 (by assumption) (.inl (by assumption))];rfl)
      |(refine⟨?_⟩;rw[c2 (by assumption) (.inr (by assumption))];rfl)
      | (refine⟨⟨(i+1,acc++[l[i]]),?_,hfin (by omega) (by omega) (c3 (by omega) (by omega) (by omega) he92),by dsimp only;omega⟩⟩
         dsimp only
         rw[<-bcs]
         repeat'(first|exact True.intro|exact rfl|refine And.intro ?_ ?_))
 . refine⟨?_⟩
   rw[List.drop_eq_nil_of_le (by omega)]
   rfl
end Go.Proofs.YtaopegkpjhkooaaGreatDoor.Dx
/- The reference's small functions: letter,inner,Sign,Integer. -/
namespace Go.Proofs.YtaopegkpjhkooaaGreatDoor.Dx
open Go Go.RowKit Go.Proofs
set_option maxRecDepth 100000
set_option maxHeartbeats 8000000
theorem b2H (b:UInt8):Meets Tryz.prog 113 [.v (.int .u8 (b.toNat:Int))] λd=>d=bD (B6 b):=by
 refine enter tok {} Tryz.func113 rfl (by kernel_rfl) Tryz.ntmps113 (by simp) λB0 W0 V0 lent g0=>?_
 refine Kw ?_
 repeat'((first|(intro hlq;try simp only[SL] at hlq)|refine K9 ?_|((refine Kh (λhb=>?_) λhb=>?_)<;>try simp only[BL] at hb)|refine K8 ?_)<;>refine Kw ?_)
 all_goals
  refine⟨congrArg bD ?_⟩
  simp only[B6]
  first
   |(simp_all;done)
   |(rw[Bool.eq_iff_iff];simp;omega)
theorem c0U (b:UInt8):Meets Tryz.prog 112 [.v (.int .u8 (b.toNat:Int))] λd=>d=bD (inB b):=by
 have h:=a4N b 95
 refine enter tok {} Tryz.func112 rfl (by kernel_rfl) Tryz.ntmps112 (by simp) λB0 W0 V0 lent g0=>?_
 refine Kw ?_
 repeat'((first|(intro hlq;try simp only[SL] at hlq)|refine Meets.k (b2H b) ?_|refine Meets.k (c0y b) ?_|refine K9 ?_|((refine Kh (λhb=>?_) λhb=>?_)<;>try simp only[BL] at hb)|refine K8 ?_)<;>refine Kw ?_)
 all_goals
  refine⟨congrArg bD ?_⟩
  rw[inB,h]
  simp_all
end Go.Proofs.YtaopegkpjhkooaaGreatDoor.Dx
