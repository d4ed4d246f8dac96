/- Chapter 06: the parser's smallest functions. -/
import Derived.Test.YteillnfhkeebjaaGreatDoorTq
import Derived.Test.YteillnfhkeebjaaGreatDoorTp
import Derived.Lib.AtoiAllCases
set_option linter.all false
namespace Go.Proofs.YteillnfhkeebjaaGreatDoor.Dx
open Go Go.RowKit
set_option maxRecDepth 100000
set_option maxHeartbeats 16000000
abbrev rrB (u:Nat->Value):List Base:=[t8 (u 0),t8 (u 1),t8 (u 2),t8 (u 3),t8 (u 4),t8 (u 5),t8 (u 6),t8 (u 7),t8 (u 8),t8 (u 9),t8 (u 10),t8 (u 11),t8 (u 12),t8 (u 13),t8 (u 14),t8 (u 15)]
abbrev psO (ts:List Tk)(u:Nat->Value):List (Nat×Blk):=[(5000, .box (.d (.sl (ts.map tkC))::rrB u) 206)]
def RdO {α:Type}(f:α->D)(r:Rs α)(u:Nat->Value)(o:Out)(O':List (Nat×Blk)):Prop:=match r with
 | .ok a ts=>o= .ret (.d (f a))/\O'=psO ts u
 | .er a e=>∃ts',o= .pan (.iface 203 (.agg [iD (a:Int),iD e]))/\O'=psO ts' u
 | .out=>False
theorem KT {t:Tk}{r:List Tk}{E:List D->Prop}(e:E (tkC t)):∃ds,(0<=(0:Int)/\((t::r).map tkC)[(0:Int).toNat]?=some ds/\ds.length=3)/\E ds:=⟨tkC t,⟨Int.le_refl _,rfl,rfl⟩,e⟩
theorem a0O (t:Tk)(r:List Tk)(u:Nat->Value):MeetsR Tryz.prog 122 [.loc 5000 0] (psO (t::r) u) λo O'=>o= .ret (.d (.agg (tkC t)))/\O'=psO (t::r) u:=by
 refine m9 tok {} Tryz.func122 rfl (by kernel_rfl) Tryz.ntmps122 (by simp) λB0 W0 V0 lent g0=>?_
 refine Kw ?_
 refine KT ?_
 refine Kw ?_
 refine⟨psO (t::r) u,_,?_,⟨rfl,rfl⟩⟩
 repeat'(first|exact True.intro|exact rfl|refine And.intro ?_ ?_)
theorem L0 (t:Tk)(r:List Tk)(u:Nat->Value)(e:Int):MeetsR Tryz.prog 123 [.loc 5000 0, .d (iD e)] (psO (t::r) u) λo O'=>o= .pan (.iface 203 (.agg [iD (t.at_:Int),iD e]))/\O'=psO (t::r) u:=by
 refine m9 tok {rs:=[5]} Tryz.func123 rfl (by kernel_rfl) Tryz.ntmps123 (by simp) λB0 W0 V0 lent g0=>?_
 refine Kv {rs:=[5]} ?_
 refine⟨psO (t::r) u,_,⟨?_,?_⟩,(a0O t r u).mono ?_⟩
 . exact Kr
 . exact Kr
 rintro _ O' ⟨rfl,rfl⟩
 refine Kv {rs:=[5]} ?_
 refine⟨psO (t::r) u,⟨?_,?_⟩,⟨rfl,rfl⟩⟩
 . exact Kr
 . exact Kr
theorem c3G (ts:List Tk):∀ds∈ts.map tkC,ds.length=3:=λds hd=>by obtain⟨y,_,rfl⟩:=List.mem_map.1 hd;rfl
theorem a7g (t:Tk)(r:List Tk)(u:Nat->Value):MeetsR Tryz.prog 158 [.loc 5000 0] (psO (t::r) u) λo O'=>o= .ret (.d (.agg (tkC t)))/\O'=psO r u:=by
 refine m9 tok {} Tryz.func158 rfl (by kernel_rfl) Tryz.ntmps158 (by simp) λB0 W0 V0 lent g0=>?_
 refine Kw ?_
 refine KT ?_
 refine Kw ?_
 refine⟨λ_=>⟨by decide,by rw[List.length_map,List.length_cons];omega,Int.le_refl _,c3G _⟩,?_⟩
 refine Kw ?_
 have e:List.drop (Int.toNat 1) (List.take (((t::r).map tkC).length:Int).toNat ((t::r).map tkC))=r.map tkC:=by
  rw[Int.toNat_natCast,List.take_length];rfl
 refine⟨psO r u,_,?_,⟨rfl,rfl⟩⟩
 repeat'(first|exact True.intro|exact rfl|refine And.intro ?_ ?_|(exact congrArg D.sl e)|(exact congrArg D.sl e.symm)|(exact e)|(exact e.symm))
theorem a5D (t:Tk)(r:List Tk)(u:Nat->Value)(w:List UInt8):MeetsR Tryz.prog 159 [.loc 5000 0, .d (.str w)] (psO (t::r) u) λo O'=>o= .ret (.d (bD (isW w (t::r))))/\O'=psO (t::r) u:=by
 refine m9 tok {rs:=[7]} Tryz.func159 rfl (by kernel_rfl) Tryz.ntmps159 (by simp) λB0 W0 V0 lent g0=>?_
 refine Kv {rs:=[7]} ?_
 refine⟨psO (t::r) u,_,⟨?_,?_⟩,(a0O t r u).mono ?_⟩
 . exact Kr
 . exact Kr
 rintro _ O' ⟨rfl,rfl⟩
 have e:isW w (t::r)=((decide (t.kind=1)||decide (t.kind=5))&&decide (t.text=w)):=rfl
 refine Kv {rs:=[7]} ?_
 repeat'((first|(intro hlq;try simp only[SL] at hlq)|refine K9 ?_|((refine Kh (λhb=>?_) λhb=>?_)<;>try simp only[BL] at hb)|refine K8 ?_)<;>refine Kv {rs:=[7]} ?_)
 . rw[decide_eq_true (by omega:t.kind=1),Bool.true_or,Bool.true_and] at e
   refine⟨psO (t::r) u,_,?_,⟨by rw[e],rfl⟩⟩
   repeat'(first|exact True.intro|exact rfl|refine And.intro ?_ ?_)
 . rw[decide_eq_true (by omega:t.kind=5),Bool.or_true,Bool.true_and] at e
   refine⟨psO (t::r) u,_,?_,⟨by rw[e],rfl⟩⟩
   repeat'(first|exact True.intro|exact rfl|refine And.intro ?_ ?_)
 . rw[decide_eq_false (by omega:¬t.kind=1),decide_eq_false (by omega:¬t.kind=5),Bool.or_false,Bool.false_and] at e
   refine⟨psO (t::r) u, .d (bD false),?_,⟨by rw[e],rfl⟩⟩
   repeat'(first|exact True.intro|exact rfl|refine And.intro ?_ ?_)
theorem a4Z (t:Tk)(r:List Tk)(u:Nat->Value)(w:List UInt8):MeetsR Tryz.prog 133 [.loc 5000 0, .d (.str w)] (psO (t::r) u) λo O'=>o= .ret (.d (bD (isW w (t::r))))/\O'=psO (if isW w (t::r) then r else t::r) u:=by
 refine m9 tok {rs:=[7,10]} Tryz.func133 rfl (by kernel_rfl) Tryz.ntmps133 (by simp) λB0 W0 V0 lent g0=>?_
 refine Kv {rs:=[7,10]} ?_
 refine⟨psO (t::r) u,_,⟨?_,?_⟩,(a5D t r u w).mono ?_⟩
 . exact Kr
 . exact Kr
 rintro _ O' ⟨rfl,rfl⟩
 cases h:isW w (t::r) with
 | false=>
   refine Kv {rs:=[7,10]} ?_
   repeat'((first|(intro hlq;try simp only[SL] at hlq)|refine K9 ?_|((refine Kh (λhb=>?_) λhb=>?_)<;>try simp only[BL] at hb)|refine K8 ?_)<;>refine Kv {rs:=[7,10]} ?_)
   . refine⟨psO (t::r) u, .d (bD false),?_,⟨rfl,rfl⟩⟩
     repeat'(first|exact True.intro|exact rfl|refine And.intro ?_ ?_)
   . exact absurd hb (by decide)
 | true=>
   refine Kv {rs:=[7,10]} ?_
   repeat'((first|(intro hlq;try simp only[SL] at hlq)|refine K9 ?_|((refine Kh (λhb=>?_) λhb=>?_)<;>try simp only[BL] at hb)|refine K8 ?_)<;>refine Kv {rs:=[7,10]} ?_)
   . exact absurd hb (by decide)
   refine⟨psO (t::r) u,_,⟨?_,?_⟩,(a7g t r u).mono ?_⟩
   . exact Kr
   . exact Kr
   rintro _ O' ⟨rfl,rfl⟩
   refine Kv {rs:=[7,10]} ?_
   refine⟨psO r u, .d (bD true),?_,⟨rfl,rfl⟩⟩
   repeat'(first|exact True.intro|exact rfl|refine And.intro ?_ ?_)
def EndsT (ts:List Tk):Prop:=∃i a,ts=i++[⟨6,[],a⟩]
theorem EndsT.cons {ts:List Tk}(h:EndsT ts):∃t r,ts=t::r:=by
 obtain⟨i,a,rfl⟩:=h
 cases i with
 |nil=>exact⟨_,_,rfl⟩
 |cons t r=>exact⟨t,r++[⟨6,[],a⟩],rfl⟩
theorem EndsT.tail {t:Tk}{r:List Tk}(h:EndsT (t::r))(hk:t.kind≠6):EndsT r:=by
 obtain⟨i,a,e⟩:=h
 cases i with
 |nil=>cases e;exact absurd rfl hk
 |cons t' i=>cases e;exact⟨i,a,rfl⟩
theorem b1l {w:List UInt8}{t:Tk}{r:List Tk}(h:isW w (t::r)=true):t.kind=1\/t.kind=5:=by
 simp only[isW,Bool.and_eq_true,Bool.or_eq_true,decide_eq_true_eq] at h
 exact h.1
theorem EndsT.isW {w:List UInt8}{t:Tk}{r:List Tk}(h:EndsT (t::r))(hw:isW w (t::r)=true):EndsT r:=h.tail (by rcases b1l hw with e|e<;>omega)
def U1:List (List UInt8)->List Tk->Rs Unit
 |[],ts=> .ok () ts
 |w::ws,ts=>(p7 w ts).bind λ_ ts=>U1 ws ts
abbrev E0:Cfg:={rs:=[14,17]}
theorem c0A (ws:List (List UInt8))(ts:List Tk)(u:Nat->Value)(he:EndsT ts):MeetsR Tryz.prog 124 [.loc 5000 0, .d (.sl (ws.map s6))] (psO ts u) λo O'=>RdO (λ_=> .tup []) (U1 ws ts) u o O':=by
 refine m9 tok E0 Tryz.func124 rfl (by kernel_rfl) Tryz.ntmps124 (by simp) λB0 W0 V0 lent g0=>?_
 refine Kv E0 ?_
 repeat'((first|(intro hlq;try simp only[SL] at hlq)|refine K9 ?_|refine K8 ?_)<;>refine Kv E0 ?_)
 refine d4 tok E0 [] (X:=Nat×List Tk) (λs=>[(8,iB s.1)]) (λs=>psO s.2 u) [] (λs=>s.1<=ws.length/\EndsT s.2/\U1 ws ts=U1 (ws.drop s.1) s.2) (λs=>ws.length-s.1) (0,ts) ?_
 refine Kv E0 ?_
 refine And.intro ?_ ⟨⟨by omega,he,rfl⟩,λs hΦ=>?_⟩
 . exact Kr
 obtain⟨i,ts'⟩:=s
 obtain⟨hi,hen,heq⟩:=hΦ
 dsimp only at hi hen heq
 have hc:=hen.cons
 obtain⟨t,r,rfl⟩:=hc
 refine Kv E0 ?_
 refine⟨λh1=>?_,λh1=>?_⟩<;>(try simp only[BL] at h1)<;>refine Kv E0 ?_
 . have h1':i<ws.length:=by omega
   have hd:ws.drop i=ws[i]::ws.drop (i+1):=List.drop_eq_getElem_cons h1'
   rw[hd,U1,p7] at heq
   repeat'((first|(intro hlq;try simp only[SL] at hlq)|refine K9 ?_|refine Ka ?_|refine Kb ?_|refine Kc (hd:=rfl) (e:=?_)|refine Kc (hd:=a4B _) (e:=?_)|refine Kd (e:=?_)|refine Kl rfl ?_|fail)<;>refine Kv E0 ?_)
   refine⟨psO (t::r) u,_,⟨?_,?_⟩,(a4Z t r u ws[i]).mono ?_⟩
   . exact Kr
   . exact Kr
   rintro _ O' ⟨rfl,rfl⟩
   cases h:isW ws[i] (t::r) with
   | false=>
     rw[h] at heq
     refine Kv E0 ?_
     repeat'((first|(intro hlq;try simp only[SL] at hlq)|refine K9 ?_|((refine Kh (λhb=>?_) λhb=>?_)<;>try simp only[BL] at hb)|refine K8 ?_)<;>refine Kv E0 ?_)
     . refine⟨psO (t::r) u,_,⟨?_,?_⟩,(L0 t r u 60).mono ?_⟩
       . exact Kr
       . exact Kr
       rintro _ O' ⟨rfl,rfl⟩
       refine Kv E0 ?_
       refine⟨psO (t::r) u,⟨?_,?_⟩,?_⟩
       . exact Kr
       . exact Kr
       rw[heq]
       exact⟨_,rfl,rfl⟩
     . exact absurd hb (by decide)
   | true=>
     rw[h] at heq
     refine Kv E0 ?_
     repeat'((first|(intro hlq;try simp only[SL] at hlq)|refine K9 ?_|((refine Kh (λhb=>?_) λhb=>?_)<;>try simp only[BL] at hb)|refine K8 ?_)<;>refine Kv E0 ?_)
     . exact absurd hb (by decide)
     refine⟨⟨(i+1,r),?_,⟨by dsimp only;omega,hen.isW h,heq⟩,by dsimp only;omega⟩⟩
     repeat'(first|exact True.intro|exact rfl|refine And.intro ?_ ?_)
 . have hi':i=ws.length:=by omega
   rw[hi',List.drop_length,U1] at heq
   refine Kv E0 ?_
   refine⟨psO (t::r) u, .d (.tup []),?_,?_⟩
   rotate_left 1
   . rw[heq]
     exact⟨rfl,rfl⟩
   . exact Kr
theorem b7f (t:Tk)(r:List Tk)(u:Nat->Value)(d:Int):MeetsR Tryz.prog 160 [.loc 5000 0, .d (iD d)] (psO (t::r) u) λo O'=>RdO (λ_=> .tup []) (if 16<=d then C8 2 (t::r) else .ok () (t::r)) u o O':=by
 refine m9 tok {rs:=[7]} Tryz.func160 rfl (by kernel_rfl) Tryz.ntmps160 (by simp) λB0 W0 V0 lent g0=>?_
 refine Kv {rs:=[7]} ?_
 refine⟨λh=>?_,λh=>?_⟩<;>(try simp only[BL] at h)<;>refine Kv {rs:=[7]} ?_
 . rw[if_pos (by omega)]
   refine⟨psO (t::r) u,_,⟨?_,?_⟩,(L0 t r u 2).mono ?_⟩
   . exact Kr
   . exact Kr
   rintro _ O' ⟨rfl,rfl⟩
   refine Kv {rs:=[7]} ?_
   refine⟨psO (t::r) u,⟨?_,?_⟩,?_⟩
   . exact Kr
   . exact Kr
   exact⟨_,rfl,rfl⟩
 . rw[if_neg (by omega)]
   refine⟨psO (t::r) u, .d (.tup []),?_,?_⟩
   rotate_left 1
   . exact⟨rfl,rfl⟩
   . exact Kr
end Go.Proofs.YteillnfhkeebjaaGreatDoor.Dx
/- Chapter 06: numbers. -/
namespace Go.Proofs.YteillnfhkeebjaaGreatDoor.Dx
open Go Go.RowKit
set_option maxRecDepth 100000
set_option maxHeartbeats 16000000
theorem b7n:∀(s:List UInt8) (acc:Nat),s.all d9=true->acc<18446744073709551616->(s.foldl (λa b=>10*a+(b.toNat-48)) acc<18446744073709551616/\Lib.parseUint10 acc s= .ok (s.foldl (λa b=>10*a+(b.toNat-48)) acc))\/(18446744073709551616<=s.foldl (λa b=>10*a+(b.toNat-48)) acc/\Lib.parseUint10 acc s= .range):=by
 have grow:∀(s:List UInt8) (a:Nat),a<=s.foldl (λa b=>10*a+(b.toNat-48)) a:=by
  intro s
  induction s with
  |nil=>intro a;exact Nat.le_refl _
  |cons c r ih=>intro a;rw[List.foldl_cons];exact Nat.le_trans (by omega) (ih _)
 intro s
 induction s with
 |nil=>intro acc _ ha;exact .inl ⟨ha,rfl⟩
 | cons c r ih=>
   intro acc hd ha
   rw[List.all_cons,Bool.and_eq_true] at hd
   have hc:48<=c.toNat/\c.toNat<=57:=by
    have:=hd.1
    simp only[d9,Bool.and_eq_true,decide_eq_true_eq] at this
    omega
   have hm:10*acc+(c.toNat-48)=acc*10+(c.toNat-48):=by omega
   rw[List.foldl_cons,Lib.parseUint10,if_pos hc,hm]
   have g:=grow r (acc*10+(c.toNat-48))
   by_cases h1:1844674407370955162<=acc
   . rw[if_pos h1]
     exact .inr ⟨by omega,rfl⟩
   rw[if_neg h1]
   by_cases h2:18446744073709551616<=acc*10+(c.toNat-48)
   . rw[if_pos h2]
     exact .inr ⟨by omega,rfl⟩
   rw[if_neg h2]
   exact ih _ hd.2 (by omega)
theorem b0n {s:List UInt8}(hn:s≠[])(hd:s.all d9=true):Lib.atoiAll s=if numN s<9223372036854775808 then .ok (numN s:Int) else .range:=by
 cases s with
 |nil=>exact absurd rfl hn
 | cons c r=>
   have hc:48<=c.toNat/\c.toNat<=57:=by
    rw[List.all_cons,Bool.and_eq_true] at hd
    have:=hd.1
    simp only[d9,Bool.and_eq_true,decide_eq_true_eq] at this
    omega
   have h:=b7n (c::r) 0 hd (by decide)
   rw[Lib.atoiAll_plain c r (by omega) (by omega),Lib.parseMag,if_neg (by simp)]
   unfold numN
   rcases h with⟨h,e⟩|⟨h,e⟩
   . rw[e]
     by_cases h2:(c::r).foldl (λa b=>10*a+(b.toNat-48)) 0<9223372036854775808
     . rw[if_pos h2];simp only[Lib.signless];rw[if_neg (by omega)]
     . rw[if_neg h2];simp only[Lib.signless];rw[if_pos (by omega)]
   . rw[e,if_neg (by omega)];rfl
def a5l (s:List UInt8)(d:D):Prop:=match Lib.atoiAll s with
 | .ok v=>i7 .i64 v/\d= .tup [iD v, .v .nilIface]
 |_=>∃z,i7 .i64 z/\d= .tup [iD z, .iface 316 .junk]
theorem Meets.below' {P:Program}{f:FuncId}{ds:List D}{E:D->Prop}(hf:J1 P f)
 (h:∀V W xs,Sees V W->Reps V xs ds->Calls P f xs.toArray W λe W'=>∃v d,e= .returned v/\Below W.heap.size W W'/\Rep V v d/\E d):Meets P f ds E:=by
 refine⟨⟨hf,λγ V W xs h1 h2 h3 h4=>?_⟩⟩
 have hr:Reps V xs ds:=by
  refine⟨by have:=h2.len;simpa using this.symm,λi u d h5 h6=>?_⟩
  exact h2.get i (.d d) u (by simp[h6]) h5
 refine(h V W xs h1 hr).mono ?_
 rintro e W' ⟨v,d,rfl,hb,hv,hE⟩
 exact⟨γ,V, .ret (.d d),[],hv, .of hb, .refl _ _ _,h1.below hb,λn b h=>(by rw[f8] at h;cases h),λn b h=>(by rw[f8] at h;cases h),λn n' b b' h=>(by rw[f8] at h;cases h),
  λ_ _ _ _=>rfl,d,rfl,rfl,hE⟩
theorem b4s (s:List UInt8)(hs:s.length<=281474976710656):Meets Tryz.prog 198 [.str s] (a5l s):=by
 refine Meets.below' ⟨Tryz.f198,_,Tryz.func198,rfl,by kernel_rfl⟩ λV W xs hS hx=>?_
 obtain⟨u,hu⟩:∃u,xs=[u]:=by
  have:=hx.len
  match xs,this with
  |[u],_=>exact⟨u,rfl⟩
 subst hu
 obtain⟨rfl,hl⟩:=(hx.get 0 _ _ rfl rfl).str_inv
 have hl':(⟨⟨s⟩⟩:ByteArray).size<=281474976710656:=hs
 obtain⟨⟨_,⟨v4,h4,e4⟩,⟨v5,h5,e5⟩⟩,_⟩:=hS.lib
 unfold a5l
 cases h:Lib.atoiAll s with
 | ok v=>
   have hb:=Lib.atoiAll_bounds h
   have hi:i7 .i64 v:=i64 (by omega) (by omega)
   refine(Tryz.strconv_Atoi_ok ⟨⟨s⟩⟩ (Nat.le_trans hl' (by decide)) v h W).mono ?_
   rintro e W' ⟨rfl,rfl|⟨t,rfl⟩⟩
   . exact⟨_,_,rfl, .refl _ _,a1g (Rep.int hi) (.v _ ⟨rfl,λ_ _ e=>by cases e⟩),hi,rfl⟩
   . exact⟨_,_,rfl,a9B W 5 t,a1g (Rep.int hi) (.v _ ⟨rfl,λ_ _ e=>by cases e⟩),hi,rfl⟩
 | range=>
   have hb:=Lib.atoiSat_bounds s
   have hi:i7 .i64 (Lib.atoiSat s):=i64 (by omega) (by omega)
   refine(Tryz.strconv_Atoi_range ⟨⟨s⟩⟩ hl' h v5 W (hS.cell _ _ _ h5) e5).mono ?_
   rintro e W' ⟨N,rfl,_,_,hb⟩
   exact⟨_,_,rfl,hb,a1g (Rep.int hi) (.iface _ _ _ (.junk _)),_,hi,rfl⟩
 | _=>
   have hi:i7 .i64 0:=i64 (by omega) (by omega)
   refine(Tryz.strconv_Atoi_syntax ⟨⟨s⟩⟩ hl' ⟨_,h.symm,λv e=>(by cases e),λe=>(by cases e)⟩ v4 W (hS.cell _ _ _ h4) e4).mono ?_
   rintro e W' ⟨N,rfl,_,_,hb⟩
   exact⟨_,_,rfl,hb,a1g (Rep.int hi) (.iface _ _ _ (.junk _)),0,hi,rfl⟩
theorem b4H (s p:List UInt8):Meets Tryz.prog 199 [.str s, .str p] λd=>d=bD (Lib.hasPrefix s p):=by
 refine Meets.below ⟨Tryz.f199,_,Tryz.func199,rfl,by kernel_rfl⟩ λV W xs hS hx=>?_
 obtain⟨u,w,rfl,h1,h2⟩:=hx.two
 obtain⟨rfl,_⟩:=h1.str_inv
 obtain⟨rfl,_⟩:=h2.str_inv
 refine(Tryz.strings_HasPrefix ⟨⟨s⟩⟩ ⟨⟨p⟩⟩ W).mono ?_
 rintro e W' ⟨rfl,rfl⟩
 exact⟨_,rfl, .refl _ _, .b _⟩
def a3j (t:Tk):Prop:=t.text.length<=1048576/\(t.kind=2->t.text.head?=some 45\/(t.text≠[]/\t.text.all d9=true))
theorem c0I {t:Tk}(hk:t.kind=2)(hh:Lib.hasPrefix t.text [45]=false){v:Int}(hv:Lib.atoiAll t.text= .ok v)(hle:v<=1125899906842624)(ht:a3j t):G2 t=some v:=by
 have hne:t.text.head?≠some 45:=by
  intro e
  cases h:t.text with
  |nil=>rw[h] at e;cases e
  |cons c r=>rw[h] at e hh;cases e;simp[Lib.hasPrefix] at hh
 rcases ht.2 hk with h|⟨h1,h2⟩
 . exact absurd h hne
 rw[b0n h1 h2] at hv
 split at hv
 . cases hv
   exact if_pos ⟨hk,hne,hle⟩
 . cases hv
theorem a2s {t:Tk}(ht:a3j t)(h:t.kind≠2\/(∀v,Lib.atoiAll t.text≠ .ok v)\/Lib.hasPrefix t.text [45]=true\/∃v,Lib.atoiAll t.text= .ok v/\1125899906842624<v):G2 t=none:=by
 unfold G2
 rw[if_neg]
 rintro⟨hk,hne,hle⟩
 rcases ht.2 hk with h'|⟨h1,h2⟩
 . exact hne h'
 have e:=b0n h1 h2
 rw[if_pos (by omega)] at e
 rcases h with h|h|h|⟨v,h,hv⟩
 . exact h hk
 . exact h _ e
 . refine hne ?_
   cases h3:t.text with
   |nil=>rw[h3] at h;simp[Lib.hasPrefix] at h
   |cons c r=>rw[h3] at h;simp[Lib.hasPrefix] at h;simp[h]
 . rw[e] at h;cases h;omega
abbrev w7:Cfg:={rs:=[7,31,33]}
theorem c0O (t:Tk)(r:List Tk)(u:Nat->Value)(ht:a3j t):MeetsR Tryz.prog 136 [.loc 5000 0] (psO (t::r) u) λo O'=>RdO iD (r4 (t::r)) u o O':=by
 have hp:r4 (t::r)=match G2 t with|some n=> .ok n r|none=>C8 60 (t::r):=rfl
 have hfail:G2 t=none->r4 (t::r)=C8 60 (t::r):=λh=>by rw[hp,h]
 have hok:∀v,G2 t=some v->r4 (t::r)= .ok v r:=λv h=>by rw[hp,h]
 have ha:=b4s t.text (Nat.le_trans ht.1 (by decide))
 have hh:=b4H t.text [45]
 refine m9 tok w7 Tryz.func136 rfl (by kernel_rfl) Tryz.ntmps136 (by simp) λB0 W0 V0 lent g0=>?_
 refine Kv w7 ?_
 refine⟨psO (t::r) u,_,⟨?_,?_⟩,(a0O t r u).mono ?_⟩
 . exact Kr
 . exact Kr
 rintro _ O' ⟨rfl,rfl⟩
 refine Kv w7 ?_
 refine ha.mono ?_
 intro d hd
 unfold a5l at hd
 cases hA:Lib.atoiAll t.text with
 | ok v=>
   rw[hA] at hd
   obtain⟨hi,rfl⟩:=hd
   refine Kv w7 ?_
   repeat'((first|(intro hlq;try simp only[SL] at hlq)|refine K9 ?_|((refine Kh (λhb=>?_) λhb=>?_)<;>try simp only[BL] at hb)|refine K8 ?_)<;>refine Kv w7 ?_)
   all_goals try(exact absurd ‹true=false› (by decide))
   all_goals try(exact absurd ‹false=true› (by decide))
   . have hn:=a2s ht (.inl (by omega))
     refine⟨psO (t::r) u,_,⟨?_,?_⟩,(L0 t r u 60).mono ?_⟩
     . exact Kr
     . exact Kr
     rintro _ O' ⟨rfl,rfl⟩
     refine Kv w7 ?_
     refine⟨psO (t::r) u,⟨?_,?_⟩,?_⟩
     . exact Kr
     . exact Kr
     rw[hfail hn]
     exact⟨_,rfl,rfl⟩
   have hk:t.kind=2:=by omega
   refine hh.mono ?_
   rintro _ rfl
   cases hP:Lib.hasPrefix t.text [45] with
   | true=>
     have hn:=a2s ht (.inr (.inr (.inl hP)))
     refine Kv w7 ?_
     repeat'((first|(intro hlq;try simp only[SL] at hlq)|refine K9 ?_|((refine Kh (λhb=>?_) λhb=>?_)<;>try simp only[BL] at hb)|refine K8 ?_)<;>refine Kv w7 ?_)
     all_goals try(exact absurd ‹true=false› (by decide))
     all_goals try(exact absurd ‹false=true› (by decide))
     refine⟨psO (t::r) u,_,⟨?_,?_⟩,(L0 t r u 60).mono ?_⟩
     . exact Kr
     . exact Kr
     rintro _ O' ⟨rfl,rfl⟩
     refine Kv w7 ?_
     refine⟨psO (t::r) u,⟨?_,?_⟩,?_⟩
     . exact Kr
     . exact Kr
     rw[hfail hn]
     exact⟨_,rfl,rfl⟩
   | false=>
     refine Kv w7 ?_
     repeat'((first|(intro hlq;try simp only[SL] at hlq)|refine K9 ?_|((refine Kh (λhb=>?_) λhb=>?_)<;>try simp only[BL] at hb)|refine K8 ?_)<;>refine Kv w7 ?_)
     all_goals try(exact absurd ‹true=false› (by decide))
     all_goals try(exact absurd ‹false=true› (by decide))
     . have hn:=a2s ht (.inr (.inr (.inr ⟨v,hA,by omega⟩)))
       refine⟨psO (t::r) u,_,⟨?_,?_⟩,(L0 t r u 60).mono ?_⟩
       . exact Kr
       . exact Kr
       rintro _ O' ⟨rfl,rfl⟩
       refine Kv w7 ?_
       refine⟨psO (t::r) u,⟨?_,?_⟩,?_⟩
       . exact Kr
       . exact Kr
       rw[hfail hn]
       exact⟨_,rfl,rfl⟩
     have hn:=c0I hk hP hA (by omega) ht
     refine⟨psO (t::r) u,_,⟨?_,?_⟩,(a7g t r u).mono ?_⟩
     . exact Kr
     . exact Kr
     rintro _ O' ⟨rfl,rfl⟩
     refine Kv w7 ?_
     refine⟨psO r u, .d (iD v),?_,?_⟩
     rotate_left 1
     . rw[hok v hn]
       exact⟨rfl,rfl⟩
     . exact Kr
 | range=>
   rw[hA] at hd
   obtain⟨z,hi,rfl⟩:=hd
   have hn:=a2s ht (.inr (.inl λv h=>by rw[hA] at h;cases h))
   refine Kv w7 ?_
   repeat'((first|(intro hlq;try simp only[SL] at hlq)|refine K9 ?_|((refine Kh (λhb=>?_) λhb=>?_)<;>try simp only[BL] at hb)|refine K8 ?_)<;>refine Kv w7 ?_)
   all_goals try(exact absurd ‹true=false› (by decide))
   all_goals try(exact absurd ‹false=true› (by decide))
   . refine⟨psO (t::r) u,_,⟨?_,?_⟩,(L0 t r u 60).mono ?_⟩
     . exact Kr
     . exact Kr
     rintro _ O' ⟨rfl,rfl⟩
     refine Kv w7 ?_
     refine⟨psO (t::r) u,⟨?_,?_⟩,?_⟩
     . exact Kr
     . exact Kr
     rw[hfail hn]
     exact⟨_,rfl,rfl⟩
   . refine⟨psO (t::r) u,_,⟨?_,?_⟩,(L0 t r u 60).mono ?_⟩
     . exact Kr
     . exact Kr
     rintro _ O' ⟨rfl,rfl⟩
     refine Kv w7 ?_
     refine⟨psO (t::r) u,⟨?_,?_⟩,?_⟩
     . exact Kr
     . exact Kr
     rw[hfail hn]
     exact⟨_,rfl,rfl⟩
 | _ =>
   rw[hA] at hd
   obtain⟨z,hi,rfl⟩:=hd
   have hn:=a2s ht (.inr (.inl λv h=>by rw[hA] at h;cases h))
   refine Kv w7 ?_
   repeat'((first|(intro hlq;try simp only[SL] at hlq)|refine K9 ?_|((refine Kh (λhb=>?_) λhb=>?_)<;>try simp only[BL] at hb)|refine K8 ?_)<;>refine Kv w7 ?_)
   all_goals try(exact absurd ‹true=false› (by decide))
   all_goals try(exact absurd ‹false=true› (by decide))
   . refine⟨psO (t::r) u,_,⟨?_,?_⟩,(L0 t r u 60).mono ?_⟩
     . exact Kr
     . exact Kr
     rintro _ O' ⟨rfl,rfl⟩
     refine Kv w7 ?_
     refine⟨psO (t::r) u,⟨?_,?_⟩,?_⟩
     . exact Kr
     . exact Kr
     rw[hfail hn]
     exact⟨_,rfl,rfl⟩
   . refine⟨psO (t::r) u,_,⟨?_,?_⟩,(L0 t r u 60).mono ?_⟩
     . exact Kr
     . exact Kr
     rintro _ O' ⟨rfl,rfl⟩
     refine Kv w7 ?_
     refine⟨psO (t::r) u,⟨?_,?_⟩,?_⟩
     . exact Kr
     . exact Kr
     rw[hfail hn]
     exact⟨_,rfl,rfl⟩
end Go.Proofs.YteillnfhkeebjaaGreatDoor.Dx
