/- Chapter. -/
import Derived.Test.YteillnfhkeebjaaGreatDoorXn
import Derived.Test.YteillnfhkeebjaaGreatDoorXm
import Derived.Lib.AtoiAllCases
set_option linter.all false
namespace Go.Proofs.YteillnfhkeebjaaGreatDoor.Dx
open Go Go.RowKit
set_option maxRecDepth 100000
set_option maxHeartbeats 16000000
abbrev rrB (u:Nat->Value):List Base:=[I8 (u 0),I8 (u 1),I8 (u 2),I8 (u 3),I8 (u 4),I8 (u 5),I8 (u 6),I8 (u 7),I8 (u 8),I8 (u 9),I8 (u 10),I8 (u 11),I8 (u 12),I8 (u 13),I8 (u 14),I8 (u 15)]
abbrev psO (ts:List Tk)(u:Nat->Value):List (Nat×Blk):=[(5000, .box (.d (.sl (ts.map tkC))::rrB u) 206)]
def RdO {α:Type}(f:α->D)(r:Rs α)(u:Nat->Value)(o:Out)(O':List (Nat×Blk)):Prop:=match r with
 | .ok a ts=>o= .ret (.d (f a))/\O'=psO ts u
 | .er a e=>∃ts',o= .pan (.iface 203 (.agg [iD (a:Int),iD e]))/\O'=psO ts' u
 | .out=>False
theorem KT {t:Tk}{r:List Tk}{E:List D->Prop}(e:E (tkC t)):∃ds,(0<=(0:Int)/\((t::r).map tkC)[(0:Int).toNat]?=some ds/\ds.length=3)/\E ds:=⟨tkC t,⟨a0o _,rfl,rfl⟩,e⟩
theorem V8 (t:Tk)(r:List Tk)(u:Nat->Value):MR 122 [.loc 5000 0] (psO (t::r) u) λo O'=>o= .ret (.d (.agg (tkC t)))/\O'=psO (t::r) u:=by
 refine EnR {} Tryz.func122 Tryz.ntmps122 λ_ _ _ _ _=>?_;refine Kw ?_;refine KT ?_;refine Kw ?_;refine⟨psO (t::r) u,_,?_,⟨rfl,rfl⟩⟩;repeat'(first|exact d9|exact rfl|refine d8 ?_ ?_)
theorem a1s (t:Tk)(r:List Tk)(u:Nat->Value)(e:Int):MR 123 [.loc 5000 0, .d (iD e)] (psO (t::r) u) λo O'=>o= .pan (.iface 203 (.agg [iD (t.at_:Int),iD e]))/\O'=psO (t::r) u:=by
 refine EnR {rs:=[5]} Tryz.func123 Tryz.ntmps123 λ_ _ _ _ _=>?_;refine Kv {rs:=[5]} ?_;refine⟨psO (t::r) u,_,⟨Kr,Kr⟩,(V8 t r u).mono ?_⟩;rintro _ O' ⟨rfl,rfl⟩;refine Kv {rs:=[5]} ?_;refine⟨psO (t::r) u,⟨Kr,Kr⟩,⟨rfl,rfl⟩⟩
theorem d3S (ts:List Tk):∀ds∈ts.map tkC,ds.length=3:=λds hd=>by obtain⟨y,_,rfl⟩:=v6.1 hd;rfl
theorem b3v (t:Tk)(r:List Tk)(u:Nat->Value):MR 158 [.loc 5000 0] (psO (t::r) u) λo O'=>o= .ret (.d (.agg (tkC t)))/\O'=psO r u:=by
 refine EnR {} Tryz.func158 Tryz.ntmps158 λ_ _ _ _ _=>?_;refine Kw ?_;refine KT ?_;refine Kw ?_;refine⟨λ_=>⟨by decide,by rw[o9,i7];omega,a0o _,d3S _⟩,?_⟩;refine Kw ?_;have e:List.drop (Int.toNat 1) (List.take (((t::r).map tkC).length:Int).toNat ((t::r).map tkC))=r.map tkC:=by
  rw[U4,List.take_length];rfl
 refine⟨psO r u,_,?_,⟨rfl,rfl⟩⟩;repeat'(first|exact d9|exact rfl|refine d8 ?_ ?_|(exact d6 D.sl e)|(exact d6 D.sl e.symm)|(exact e)|(exact e.symm))
theorem b1R (t:Tk)(r:List Tk)(u:Nat->Value)(w:List UInt8):MR 159 [.loc 5000 0, .d (.str w)] (psO (t::r) u) λo O'=>o= .ret (.d (bD (isW w (t::r))))/\O'=psO (t::r) u:=by
 refine EnR {rs:=[7]} Tryz.func159 Tryz.ntmps159 λ_ _ _ _ _=>?_;refine Kv {rs:=[7]} ?_;refine⟨psO (t::r) u,_,⟨Kr,Kr⟩,(V8 t r u).mono ?_⟩;rintro _ O' ⟨rfl,rfl⟩;have e:isW w (t::r)=((decide (t.kind=1)||decide (t.kind=5))&&decide (t.text=w)):=rfl;refine Kv {rs:=[7]} ?_;repeat'((first|(intro hlq;try simp only[SL] at hlq)|refine K9 ?_|((refine Kh (λhb=>?_) λhb=>?_)<;>try simp only[BL] at hb)|refine K8 ?_)<;>refine Kv {rs:=[7]} ?_)
 . rw[r9 (by omega:t.kind=1),a2k,W9] at e;refine⟨psO (t::r) u,_,?_,⟨by rw[e],rfl⟩⟩;repeat'(first|exact d9|exact rfl|refine d8 ?_ ?_)
 . rw[r9 (by omega:t.kind=5),Bool.or_true,W9] at e;refine⟨psO (t::r) u,_,?_,⟨by rw[e],rfl⟩⟩;repeat'(first|exact d9|exact rfl|refine d8 ?_ ?_)
 . rw[D5 (by omega:¬t.kind=1),D5 (by omega:¬t.kind=5),Bool.or_false,a5r] at e;refine⟨psO (t::r) u, .d (bD false),?_,⟨by rw[e],rfl⟩⟩;repeat'(first|exact d9|exact rfl|refine d8 ?_ ?_)
theorem b1d (t:Tk)(r:List Tk)(u:Nat->Value)(w:List UInt8):MR 133 [.loc 5000 0, .d (.str w)] (psO (t::r) u) λo O'=>o= .ret (.d (bD (isW w (t::r))))/\O'=psO (if isW w (t::r) then r else t::r) u:=by
 refine EnR {rs:=[7,10]} Tryz.func133 Tryz.ntmps133 λ_ _ _ _ _=>?_;refine Kv {rs:=[7,10]} ?_;refine⟨psO (t::r) u,_,⟨Kr,Kr⟩,(b1R t r u w).mono ?_⟩;rintro _ O' ⟨rfl,rfl⟩;cases h:isW w (t::r) with
 | false=>
   refine Kv {rs:=[7,10]} ?_;repeat'((first|(intro hlq;try simp only[SL] at hlq)|refine K9 ?_|((refine Kh (λhb=>?_) λhb=>?_)<;>try simp only[BL] at hb)|refine K8 ?_)<;>refine Kv {rs:=[7,10]} ?_)
   . refine⟨psO (t::r) u, .d (bD false),?_,⟨rfl,rfl⟩⟩;repeat'(first|exact d9|exact rfl|refine d8 ?_ ?_)
   . exact absurd hb (by decide)
 | true=>
   refine Kv {rs:=[7,10]} ?_;repeat'((first|(intro hlq;try simp only[SL] at hlq)|refine K9 ?_|((refine Kh (λhb=>?_) λhb=>?_)<;>try simp only[BL] at hb)|refine K8 ?_)<;>refine Kv {rs:=[7,10]} ?_)
   . exact absurd hb (by decide)
   refine⟨psO (t::r) u,_,⟨Kr,Kr⟩,(b3v t r u).mono ?_⟩;rintro _ O' ⟨rfl,rfl⟩;refine Kv {rs:=[7,10]} ?_;refine⟨psO r u, .d (bD true),?_,⟨rfl,rfl⟩⟩;repeat'(first|exact d9|exact rfl|refine d8 ?_ ?_)
def EndsT (ts:List Tk):Prop:=∃i a,ts=i++[⟨6,[],a⟩]
theorem EndsT.cons {ts:List Tk}(h:EndsT ts):∃t r,ts=t::r:=by
 obtain⟨i,a,rfl⟩:=h;cases i with
 |nil=>exact⟨_,_,rfl⟩
 |cons t r=>exact⟨t,r++[⟨6,[],a⟩],rfl⟩
theorem EndsT.tail {t:Tk}{r:List Tk}(h:EndsT (t::r))(hk:t.kind≠6):EndsT r:=by
 obtain⟨i,a,e⟩:=h;cases i with
 |nil=>cases e;exact absurd rfl hk
 |cons t' i=>cases e;exact⟨i,a,rfl⟩
theorem b8d {w:List UInt8}{t:Tk}{r:List Tk}(h:isW w (t::r)=true):t.kind=1\/t.kind=5:=by
 simp only[isW,f0,C0,j0] at h;exact h.1
theorem EndsT.isW {w:List UInt8}{t:Tk}{r:List Tk}(h:EndsT (t::r))(hw:isW w (t::r)=true):EndsT r:=h.tail (by rcases b8d hw with e|e<;>omega)
def O9:List (List UInt8)->List Tk->Rs Unit
 |[],ts=> .ok () ts
 |w::ws,ts=>(o3 w ts).bind λ_ ts=>O9 ws ts
abbrev X6:Cfg:={rs:=[14,17]}
theorem b8V (ws:List (List UInt8))(ts:List Tk)(u:Nat->Value)(he:EndsT ts):MR 124 [.loc 5000 0, .d (.sl (ws.map I0))] (psO ts u) λo O'=>RdO (λ_=> .tup []) (O9 ws ts) u o O':=by
 refine EnR X6 Tryz.func124 Tryz.ntmps124 λ_ _ _ _ _=>?_;refine Kv X6 ?_;repeat'((first|(intro hlq;try simp only[SL] at hlq)|refine K9 ?_|refine K8 ?_)<;>refine Kv X6 ?_)
 refine o4 tok X6 [] (X:=Nat×List Tk) (λs=>[(8,iB s.1)]) (λs=>psO s.2 u) [] (λs=>s.1<=ws.length/\EndsT s.2/\O9 ws ts=O9 (ws.drop s.1) s.2) (λs=>ws.length-s.1) (0,ts) ?_;refine Kv X6 ?_;refine d8 ?_ ⟨⟨by omega,he,rfl⟩,λs hΦ=>?_⟩
 . exact Kr
 obtain⟨i,ts'⟩:=s;obtain⟨hi,hen,heq⟩:=hΦ;dsimp only at hi hen heq;have hc:=hen.cons;obtain⟨t,r,rfl⟩:=hc;refine Kv X6 ?_;refine⟨λh1=>?_,λh1=>?_⟩<;>(try simp only[BL] at h1)<;>refine Kv X6 ?_
 . have h1':i<ws.length:=by omega
   have hd:ws.drop i=ws[i]::ws.drop (i+1):=F2 h1';rw[hd,O9,o3] at heq;repeat'((first|(intro hlq;try simp only[SL] at hlq)|refine K9 ?_|refine Ka ?_|refine Kb ?_|refine Kc (hd:=rfl) (e:=?_)|refine Kc (hd:=b0I _) (e:=?_)|refine Kd (e:=?_)|refine Kl rfl ?_|fail)<;>refine Kv X6 ?_)
   refine⟨psO (t::r) u,_,⟨Kr,Kr⟩,(b1d t r u ws[i]).mono ?_⟩;rintro _ O' ⟨rfl,rfl⟩;cases h:isW ws[i] (t::r) with
   | false=>
     rw[h] at heq;refine Kv X6 ?_;repeat'((first|(intro hlq;try simp only[SL] at hlq)|refine K9 ?_|((refine Kh (λhb=>?_) λhb=>?_)<;>try simp only[BL] at hb)|refine K8 ?_)<;>refine Kv X6 ?_)
     . refine⟨psO (t::r) u,_,⟨Kr,Kr⟩,(a1s t r u 60).mono ?_⟩;rintro _ O' ⟨rfl,rfl⟩;refine Kv X6 ?_;refine⟨psO (t::r) u,⟨Kr,Kr⟩,?_⟩;rw[heq];exact⟨_,rfl,rfl⟩
     . exact absurd hb (by decide)
   | true=>
     rw[h] at heq;refine Kv X6 ?_;repeat'((first|(intro hlq;try simp only[SL] at hlq)|refine K9 ?_|((refine Kh (λhb=>?_) λhb=>?_)<;>try simp only[BL] at hb)|refine K8 ?_)<;>refine Kv X6 ?_)
     . exact absurd hb (by decide)
     refine⟨⟨(i+1,r),?_,⟨by dsimp only;omega,hen.isW h,heq⟩,by dsimp only;omega⟩⟩;repeat'(first|exact d9|exact rfl|refine d8 ?_ ?_)
 . have hi':i=ws.length:=by omega
   rw[hi',a5B,O9] at heq;refine Kv X6 ?_;refine⟨psO (t::r) u, .d (.tup []),?_,?_⟩;rotate_left 1
   . rw[heq];exact⟨rfl,rfl⟩
   . exact Kr
theorem c5m (t:Tk)(r:List Tk)(u:Nat->Value)(d:Int):MR 160 [.loc 5000 0, .d (iD d)] (psO (t::r) u) λo O'=>RdO (λ_=> .tup []) (if 16<=d then I6 2 (t::r) else .ok () (t::r)) u o O':=by
 refine EnR {rs:=[7]} Tryz.func160 Tryz.ntmps160 λ_ _ _ _ _=>?_;refine Kv {rs:=[7]} ?_;refine⟨λh=>?_,λh=>?_⟩<;>(try simp only[BL] at h)<;>refine Kv {rs:=[7]} ?_
 . rw[d4 (by omega)];refine⟨psO (t::r) u,_,⟨Kr,Kr⟩,(a1s t r u 2).mono ?_⟩;rintro _ O' ⟨rfl,rfl⟩;refine Kv {rs:=[7]} ?_;refine⟨psO (t::r) u,⟨Kr,Kr⟩,?_⟩;exact⟨_,rfl,rfl⟩
 . rw[c8 (by omega)];refine⟨psO (t::r) u, .d (.tup []),?_,?_⟩;rotate_left 1
   . exact⟨rfl,rfl⟩
   . exact Kr
theorem c5t:∀(s:List UInt8) (acc:Nat),s.all p4=true->acc<18446744073709551616->(s.foldl (λa b=>10*a+(b.toNat-48)) acc<18446744073709551616/\Lib.parseUint10 acc s= .ok (s.foldl (λa b=>10*a+(b.toNat-48)) acc))\/(18446744073709551616<=s.foldl (λa b=>10*a+(b.toNat-48)) acc/\Lib.parseUint10 acc s= .range):=by
 have grow:∀(s:List UInt8) (a:Nat),a<=s.foldl (λa b=>10*a+(b.toNat-48)) a:=by
  intro s;induction s with
  |nil=>intro a;exact p0 _
  |cons c r ih=>intro a;rw[Z0];exact H8 (by omega) (ih _)
 intro s;induction s with
 |nil=>intro acc _ ha;exact .inl ⟨ha,rfl⟩
 | cons c r ih=>
   intro acc hd ha;rw[F8,f0] at hd;have hc:48<=c.toNat/\c.toNat<=57:=by
    have:=hd.1;simp only[p4,f0,j0] at this;omega
   have hm:10*acc+(c.toNat-48)=acc*10+(c.toNat-48):=by omega
   rw[Z0,Lib.parseUint10,d4 hc,hm];have g:=grow r (acc*10+(c.toNat-48));by_cases h1:1844674407370955162<=acc
   . rw[d4 h1];exact .inr ⟨by omega,rfl⟩
   rw[c8 h1];by_cases h2:18446744073709551616<=acc*10+(c.toNat-48)
   . rw[d4 h2];exact .inr ⟨by omega,rfl⟩
   rw[c8 h2];exact ih _ hd.2 (by omega)
theorem b7c {s:List UInt8}(hn:s≠[])(hd:s.all p4=true):Lib.atoiAll s=if numN s<9223372036854775808 then .ok (numN s:Int) else .range:=by
 cases s with
 |nil=>exact absurd rfl hn
 | cons c r=>
   have hc:48<=c.toNat/\c.toNat<=57:=by
    rw[F8,f0] at hd;have:=hd.1;simp only[p4,f0,j0] at this;omega
   have h:=c5t (c::r) 0 hd (by decide);rw[Lib.atoiAll_plain c r (by omega) (by omega),Lib.parseMag,c8 (by simp)];unfold numN;rcases h with⟨h,e⟩|⟨h,e⟩
   . rw[e];by_cases h2:(c::r).foldl (λa b=>10*a+(b.toNat-48)) 0<9223372036854775808
     . rw[d4 h2];simp only[Lib.signless];rw[c8 (by omega)]
     . rw[c8 h2];simp only[Lib.signless];rw[d4 (by omega)]
   . rw[e,c8 (by omega)];rfl
def b1s (s:List UInt8)(d:D):Prop:=match Lib.atoiAll s with
 | .ok v=>w8 .i64 v/\d= .tup [iD v, .v .nilIface]
 |_=>∃z,w8 .i64 z/\d= .tup [iD z, .iface 316 .junk]
theorem c2v {P:Program}{f:FuncId}{ds:List D}{E:D->Prop}(hf:a0T P f)
 (h:∀V W xs,Sees V W->Reps V xs ds->Calls P f xs.toArray W λe W'=>∃v d,e= .returned v/\Below W.heap.size W W'/\Rep V v d/\E d):Meets P f ds E:=by
 refine⟨⟨hf,λγ V W xs h1 h2 h3 h4=>?_⟩⟩;have hr:Reps V xs ds:=by
  refine⟨by have:=h2.len;simpa using this.symm,λi u d h5 h6=>?_⟩;exact h2.get i (.d d) u (by simp[h6]) h5
 refine(h V W xs h1 hr).mono ?_;rintro e W' ⟨v,d,rfl,hb,hv,hE⟩;exact⟨γ,V, .ret (.d d),[],hv, .of hb, .refl _ _ _,h1.below hb,λn b h=>(by rw[r7] at h;cases h),λn b h=>(by rw[r7] at h;cases h),λn n' b b' h=>(by rw[r7] at h;cases h),
  λ_ _ _ _=>rfl,d,rfl,rfl,hE⟩
theorem c1y (s:List UInt8)(hs:s.length<=281474976710656):Mt 198 [.str s] (b1s s):=by
 refine c2v ⟨Tryz.f198,_,Tryz.func198,rfl,by kernel_rfl⟩ λV W xs hS hx=>?_;obtain⟨u,hu⟩:∃u,xs=[u]:=by
  have:=hx.len;match xs,this with
  |[u],_=>exact⟨u,rfl⟩
 subst hu;obtain⟨rfl,hl⟩:=(hx.get 0 _ _ rfl rfl).str_inv;have hl':(⟨⟨s⟩⟩:ByteArray).size<=281474976710656:=hs;obtain⟨⟨_,⟨v4,h4,e4⟩,⟨v5,h5,e5⟩⟩,_⟩:=hS.lib;unfold b1s;cases h:Lib.atoiAll s with
 | ok v=>
   have hb:=Lib.atoiAll_bounds h;have hi:w8 .i64 v:=i64 (by omega) (by omega);refine(Tryz.strconv_Atoi_ok ⟨⟨s⟩⟩ (H8 hl' (by decide)) v h W).mono ?_;rintro e W' ⟨rfl,rfl|⟨t,rfl⟩⟩
   . exact⟨_,_,rfl, .refl _ _,a6K (Rep.int hi) (.v _ ⟨rfl,λ_ _ e=>by cases e⟩),hi,rfl⟩
   . exact⟨_,_,rfl,b6g W 5 t,a6K (Rep.int hi) (.v _ ⟨rfl,λ_ _ e=>by cases e⟩),hi,rfl⟩
 | range=>
   have hb:=Lib.atoiSat_bounds s;have hi:w8 .i64 (Lib.atoiSat s):=i64 (by omega) (by omega);refine(Tryz.strconv_Atoi_range ⟨⟨s⟩⟩ hl' h v5 W (hS.cell _ _ _ h5) e5).mono ?_;rintro e W' ⟨N,rfl,_,_,hb⟩;exact⟨_,_,rfl,hb,a6K (Rep.int hi) (.iface _ _ _ (.junk _)),_,hi,rfl⟩
 | _=>
   have hi:w8 .i64 0:=i64 (by omega) (by omega);refine(Tryz.strconv_Atoi_syntax ⟨⟨s⟩⟩ hl' ⟨_,h.symm,λv e=>(by cases e),λe=>(by cases e)⟩ v4 W (hS.cell _ _ _ h4) e4).mono ?_;rintro e W' ⟨N,rfl,_,_,hb⟩;exact⟨_,_,rfl,hb,a6K (Rep.int hi) (.iface _ _ _ (.junk _)),0,hi,rfl⟩
theorem c2a (s p:List UInt8):Mt 199 [.str s, .str p] λd=>d=bD (Lib.hasPrefix s p):=by
 refine Meets.below ⟨Tryz.f199,_,Tryz.func199,rfl,by kernel_rfl⟩ λV W xs hS hx=>?_;obtain⟨u,w,rfl,h1,h2⟩:=hx.two;obtain⟨rfl,_⟩:=h1.str_inv;obtain⟨rfl,_⟩:=h2.str_inv;refine(Tryz.strings_HasPrefix ⟨⟨s⟩⟩ ⟨⟨p⟩⟩ W).mono ?_;rintro e W' ⟨rfl,rfl⟩;exact⟨_,rfl, .refl _ _, .b _⟩
def a7r (t:Tk):Prop:=t.text.length<=1048576/\(t.kind=2->t.text.head?=some 45\/(t.text≠[]/\t.text.all p4=true))
theorem c9G {t:Tk}(hk:t.kind=2)(hh:Lib.hasPrefix t.text [45]=false){v:Int}(hv:Lib.atoiAll t.text= .ok v)(hle:v<=1125899906842624)(ht:a7r t):a0i t=some v:=by
 have hne:t.text.head?≠some 45:=by
  intro e;cases h:t.text with
  |nil=>rw[h] at e;cases e
  |cons c r=>rw[h] at e hh;cases e;simp[Lib.hasPrefix] at hh
 rcases ht.2 hk with h|⟨h1,h2⟩
 . exact absurd h hne
 rw[b7c h1 h2] at hv;split at hv
 . cases hv;exact d4 ⟨hk,hne,hle⟩
 . cases hv
theorem a8l {t:Tk}(ht:a7r t)(h:t.kind≠2\/(∀v,Lib.atoiAll t.text≠ .ok v)\/Lib.hasPrefix t.text [45]=true\/∃v,Lib.atoiAll t.text= .ok v/\1125899906842624<v):a0i t=none:=by
 unfold a0i;rw[c8];rintro⟨hk,hne,hle⟩;rcases ht.2 hk with h'|⟨h1,h2⟩
 . exact hne h'
 have e:=b7c h1 h2;rw[d4 (by omega)] at e;rcases h with h|h|h|⟨v,h,hv⟩
 . exact h hk
 . exact h _ e
 . refine hne ?_;cases h3:t.text with
   |nil=>rw[h3] at h;simp[Lib.hasPrefix] at h
   |cons c r=>rw[h3] at h;simp[Lib.hasPrefix] at h;simp[h]
 . rw[e] at h;cases h;omega
abbrev L2:Cfg:={rs:=[7,31,33]}
theorem c9J (t:Tk)(r:List Tk)(u:Nat->Value)(ht:a7r t):MR 136 [.loc 5000 0] (psO (t::r) u) λo O'=>RdO iD (y0 (t::r)) u o O':=by
 have hp:y0 (t::r)=match a0i t with|some n=> .ok n r|none=>I6 60 (t::r):=rfl
 have hfail:a0i t=none->y0 (t::r)=I6 60 (t::r):=λh=>by rw[hp,h]
 have hok:∀v,a0i t=some v->y0 (t::r)= .ok v r:=λv h=>by rw[hp,h]
 have ha:=c1y t.text (H8 ht.1 (by decide));have hh:=c2a t.text [45];refine EnR L2 Tryz.func136 Tryz.ntmps136 λ_ _ _ _ _=>?_;refine Kv L2 ?_;refine⟨psO (t::r) u,_,⟨Kr,Kr⟩,(V8 t r u).mono ?_⟩;rintro _ O' ⟨rfl,rfl⟩;refine Kv L2 ?_;refine ha.mono ?_;intro d hd;unfold b1s at hd;cases hA:Lib.atoiAll t.text with
 | ok v=>
   rw[hA] at hd;obtain⟨hi,rfl⟩:=hd;refine Kv L2 ?_;repeat'((first|(intro hlq;try simp only[SL] at hlq)|refine K9 ?_|((refine Kh (λhb=>?_) λhb=>?_)<;>try simp only[BL] at hb)|refine K8 ?_)<;>refine Kv L2 ?_)
   all_goals try(exact absurd ‹true=false› (by decide))
   all_goals try(exact absurd ‹false=true› (by decide))
   . have hn:=a8l ht (.inl (by omega));refine⟨psO (t::r) u,_,⟨Kr,Kr⟩,(a1s t r u 60).mono ?_⟩;rintro _ O' ⟨rfl,rfl⟩;refine Kv L2 ?_;refine⟨psO (t::r) u,⟨Kr,Kr⟩,?_⟩;rw[hfail hn];exact⟨_,rfl,rfl⟩
   have hk:t.kind=2:=by omega
   refine hh.mono ?_;rintro _ rfl;cases hP:Lib.hasPrefix t.text [45] with
   | true=>
     have hn:=a8l ht (.inr (.inr (.inl hP)));refine Kv L2 ?_;repeat'((first|(intro hlq;try simp only[SL] at hlq)|refine K9 ?_|((refine Kh (λhb=>?_) λhb=>?_)<;>try simp only[BL] at hb)|refine K8 ?_)<;>refine Kv L2 ?_)
     all_goals try(exact absurd ‹true=false› (by decide))
     all_goals try(exact absurd ‹false=true› (by decide))
     refine⟨psO (t::r) u,_,⟨Kr,Kr⟩,(a1s t r u 60).mono ?_⟩;rintro _ O' ⟨rfl,rfl⟩;refine Kv L2 ?_;refine⟨psO (t::r) u,⟨Kr,Kr⟩,?_⟩;rw[hfail hn];exact⟨_,rfl,rfl⟩
   | false=>
     refine Kv L2 ?_;repeat'((first|(intro hlq;try simp only[SL] at hlq)|refine K9 ?_|((refine Kh (λhb=>?_) λhb=>?_)<;>try simp only[BL] at hb)|refine K8 ?_)<;>refine Kv L2 ?_)
     all_goals try(exact absurd ‹true=false› (by decide))
     all_goals try(exact absurd ‹false=true› (by decide))
     . have hn:=a8l ht (.inr (.inr (.inr ⟨v,hA,by omega⟩)));refine⟨psO (t::r) u,_,⟨Kr,Kr⟩,(a1s t r u 60).mono ?_⟩;rintro _ O' ⟨rfl,rfl⟩;refine Kv L2 ?_;refine⟨psO (t::r) u,⟨Kr,Kr⟩,?_⟩;rw[hfail hn];exact⟨_,rfl,rfl⟩
     have hn:=c9G hk hP hA (by omega) ht;refine⟨psO (t::r) u,_,⟨Kr,Kr⟩,(b3v t r u).mono ?_⟩;rintro _ O' ⟨rfl,rfl⟩;refine Kv L2 ?_;refine⟨psO r u, .d (iD v),?_,?_⟩;rotate_left 1
     . rw[hok v hn];exact⟨rfl,rfl⟩
     . exact Kr
 | range=>
   rw[hA] at hd;obtain⟨z,hi,rfl⟩:=hd;have hn:=a8l ht (.inr (.inl λv h=>by rw[hA] at h;cases h));refine Kv L2 ?_;repeat'((first|(intro hlq;try simp only[SL] at hlq)|refine K9 ?_|((refine Kh (λhb=>?_) λhb=>?_)<;>try simp only[BL] at hb)|refine K8 ?_)<;>refine Kv L2 ?_)
   all_goals try(exact absurd ‹true=false› (by decide))
   all_goals try(exact absurd ‹false=true› (by decide))
   . refine⟨psO (t::r) u,_,⟨Kr,Kr⟩,(a1s t r u 60).mono ?_⟩;rintro _ O' ⟨rfl,rfl⟩;refine Kv L2 ?_;refine⟨psO (t::r) u,⟨Kr,Kr⟩,?_⟩;rw[hfail hn];exact⟨_,rfl,rfl⟩
   . refine⟨psO (t::r) u,_,⟨Kr,Kr⟩,(a1s t r u 60).mono ?_⟩;rintro _ O' ⟨rfl,rfl⟩;refine Kv L2 ?_;refine⟨psO (t::r) u,⟨Kr,Kr⟩,?_⟩;rw[hfail hn];exact⟨_,rfl,rfl⟩
 | _ =>
   rw[hA] at hd;obtain⟨z,hi,rfl⟩:=hd;have hn:=a8l ht (.inr (.inl λv h=>by rw[hA] at h;cases h));refine Kv L2 ?_;repeat'((first|(intro hlq;try simp only[SL] at hlq)|refine K9 ?_|((refine Kh (λhb=>?_) λhb=>?_)<;>try simp only[BL] at hb)|refine K8 ?_)<;>refine Kv L2 ?_)
   all_goals try(exact absurd ‹true=false› (by decide))
   all_goals try(exact absurd ‹false=true› (by decide))
   . refine⟨psO (t::r) u,_,⟨Kr,Kr⟩,(a1s t r u 60).mono ?_⟩;rintro _ O' ⟨rfl,rfl⟩;refine Kv L2 ?_;refine⟨psO (t::r) u,⟨Kr,Kr⟩,?_⟩;rw[hfail hn];exact⟨_,rfl,rfl⟩
   . refine⟨psO (t::r) u,_,⟨Kr,Kr⟩,(a1s t r u 60).mono ?_⟩;rintro _ O' ⟨rfl,rfl⟩;refine Kv L2 ?_;refine⟨psO (t::r) u,⟨Kr,Kr⟩,?_⟩;rw[hfail hn];exact⟨_,rfl,rfl⟩
theorem b6L (t:Tk)(r:List Tk)(u:Nat->Value):MR 157 [.loc 5000 0] (psO (t::r) u) λo O'=>o= .ret (.d (.tup [iD ((O6 (t::r)).getD 0),bD (O6 (t::r)).isSome]))/\O'=psO (t::r) u:=by
 have hc:O6 (t::r)=if t.kind=1 then(critW.find? λp=>p.1==t.text).map (·.2) else none:=rfl
 refine EnR {rs:=[5,9]} Tryz.func157 Tryz.ntmps157 λ_ _ _ _ _=>?_;refine Kv {rs:=[5,9]} ?_;refine⟨psO (t::r) u,_,⟨Kr,Kr⟩,(V8 t r u).mono ?_⟩;rintro _ O' ⟨rfl,rfl⟩;refine Kv {rs:=[5,9]} ?_;refine⟨λhk=>?_,λhk=>?_⟩<;>(try simp only[BL] at hk)<;>refine Kv {rs:=[5,9]} ?_
 . rw[c8 (by omega)] at hc;rw[hc];refine⟨psO (t::r) u, .d (.tup [iD 0,bD false]),?_,⟨rfl,rfl⟩⟩;repeat'(first|exact d9|exact rfl|refine d8 ?_ ?_)
 rw[d4 (by omega)] at hc;refine⟨psO (t::r) u,_,⟨Kr,Kr⟩,(V8 t r u).mono ?_⟩;rintro _ O' ⟨rfl,rfl⟩;refine Kv {rs:=[5,9]} ?_;repeat'((first|(intro hlq;try simp only[SL] at hlq)|refine K9 ?_|((refine Kh (λhb=>?_) λhb=>?_)<;>try simp only[BL] at hb)|refine K7 ?_)<;>refine Kv {rs:=[5,9]} ?_)
 iterate 5
  rotate_left 1
 . rename_i h1 h2 h3 h4;have e:O6 (t::r)=none:=by
    rw[hc];have k:∀{w:List UInt8},¬t.text=w->(w==t.text)=false:=λh=>beq_eq_false_iff_ne.2 (Ne.symm h);simp only[critW,List.find?,k h1,k h2,k h3,k h4,k hb,Option.map_none]
   rw[e];refine⟨psO (t::r) u, .d (.tup [iD 0,bD false]),?_,⟨rfl,rfl⟩⟩;repeat'(first|exact d9|exact rfl|refine d8 ?_ ?_)
 . have e:O6 (t::r)=some 1:=by rw[hc,hb];rfl
   rw[e];refine⟨psO (t::r) u, .d (.tup [iD 1,bD true]),?_,⟨rfl,rfl⟩⟩;repeat'(first|exact d9|exact rfl|refine d8 ?_ ?_)
 . have e:O6 (t::r)=some 2:=by rw[hc,hb];rfl
   rw[e];refine⟨psO (t::r) u, .d (.tup [iD 2,bD true]),?_,⟨rfl,rfl⟩⟩;repeat'(first|exact d9|exact rfl|refine d8 ?_ ?_)
 . have e:O6 (t::r)=some 3:=by rw[hc,hb];rfl
   rw[e];refine⟨psO (t::r) u, .d (.tup [iD 3,bD true]),?_,⟨rfl,rfl⟩⟩;repeat'(first|exact d9|exact rfl|refine d8 ?_ ?_)
 . have e:O6 (t::r)=some 4:=by rw[hc,hb];rfl
   rw[e];refine⟨psO (t::r) u, .d (.tup [iD 4,bD true]),?_,⟨rfl,rfl⟩⟩;repeat'(first|exact d9|exact rfl|refine d8 ?_ ?_)
 . have e:O6 (t::r)=some 5:=by rw[hc,hb];rfl
   rw[e];refine⟨psO (t::r) u, .d (.tup [iD 5,bD true]),?_,⟨rfl,rfl⟩⟩;repeat'(first|exact d9|exact rfl|refine d8 ?_ ?_)
theorem c7z (t:Tk)(r:List Tk)(u:Nat->Value)(hl:t.text.length<=1048576):MR 189 [.loc 5000 0] (psO (t::r) u) λo O'=>o= .ret (.d (bD (decide (t.kind=1)&& !kw t.text)))/\O'=psO (t::r) u:=by
 refine EnR {rs:=[5]} Tryz.func189 Tryz.ntmps189 λ_ _ _ _ _=>?_;refine Kv {rs:=[5]} ?_;refine⟨psO (t::r) u,_,⟨Kr,Kr⟩,(V8 t r u).mono ?_⟩;rintro _ O' ⟨rfl,rfl⟩;refine Kv {rs:=[5]} ?_;repeat'((first|(intro hlq;try simp only[SL] at hlq)|refine K9 ?_|((refine Kh (λhb=>?_) λhb=>?_)<;>try simp only[BL] at hb)|refine K7 ?_)<;>refine Kv {rs:=[5]} ?_)
 . rw [r9 (by omega:t.kind=1),W9];refine(b5x t.text hl).mono ?_;rintro _ rfl;cases hK:kw t.text with
   | false=>
     refine Kv {rs:=[5]} ?_;refine⟨psO (t::r) u, .d (bD true),?_,⟨rfl,rfl⟩⟩;repeat'(first|exact d9|exact rfl|refine d8 ?_ ?_)
   | true=>
     refine Kv {rs:=[5]} ?_;refine⟨psO (t::r) u, .d (bD false),?_,⟨rfl,rfl⟩⟩;repeat'(first|exact d9|exact rfl|refine d8 ?_ ?_)
 . rw[D5 (by omega:¬t.kind=1),a5r];refine⟨psO (t::r) u, .d (bD false),?_,⟨rfl,rfl⟩⟩;repeat'(first|exact d9|exact rfl|refine d8 ?_ ?_)
theorem a1Q (c:Cond):Mt 253 [c.d] λd=>d=(K5 c).d:=by
 refine En {} Tryz.func253 Tryz.ntmps253 λ_ _ _ _ _=>?_;refine Kw ?_;refine⟨?_⟩;show D.agg _=D.agg _;simp only[Cond.dc,o5,B8,Cond.cells_eq]
theorem Q7 (v n:Int):Mt 254 [iD v,iD n] λd=>d=(leC v n).d:=by
 refine En {} Tryz.func254 Tryz.ntmps254 λ_ _ _ _ _=>?_;refine Kw ?_;refine⟨?_⟩;rfl
def QT (ts:List Tk):Prop:=EndsT ts/\∀t∈ts,a7r t
theorem QT.tail {ts:List Tk}(h:QT ts)(hk:(hdT ts).kind≠6):QT ts.tail:=by
 have hc:=h.1.cons;obtain⟨t,r,rfl⟩:=hc;exact⟨h.1.tail hk,λx hx=>h.2 x (r6 _ hx)⟩
theorem QT.isW {w:List UInt8}{ts:List Tk}(h:QT ts)(hw:isW w ts=true):QT ts.tail:=by
 have hc:=h.1.cons;obtain⟨t,r,rfl⟩:=hc;exact h.tail (by rcases b8d hw with e|e<;>(show t.kind≠6;omega))
def Rs.kp {α:Type}(r:Rs α):Prop:=∀a ts,r= .ok a ts->QT ts
theorem C3 {α:Type}{a:α}{ts:List Tk}(h:QT ts):(Rs.ok a ts).kp:=λ_ _ e=>by cases e;exact h
theorem Y2 {α:Type}{a:Nat}{e:Int}:(Rs.er a e:Rs α).kp:=λ_ _ h=>by cases h
theorem a0F {α:Type}:(Rs.out:Rs α).kp:=λ_ _ h=>by cases h
theorem n8 {α β:Type}{r:Rs α}{f:α->List Tk->Rs β}(h:r.kp)(hf:∀a ts,QT ts->(f a ts).kp):(r.bind f).kp:=by
 cases r with
 |ok a ts=>exact hf a ts (h a ts rfl)
 |er a e=>exact Y2
 |out=>exact a0F
theorem v7 {w:List UInt8}{ts:List Tk}(h:QT ts):(o3 w ts).kp:=by
 unfold o3;split
 . rename_i hw;exact C3 (h.isW hw)
 . exact Y2
theorem G3 {ts:List Tk}(h:QT ts):(y0 ts).kp:=by
 unfold y0;split
 . rename_i n hn;refine C3 (h.tail λe=>?_);unfold a0i at hn;split at hn
   . rename_i hk;have:=hk.1;omega
   . cases hn
 . exact Y2
theorem d1a {v:Int}{ts:List Tk}(h:QT ts):(N5 v ts).kp:=by
 unfold N5;repeat' split
 all_goals first|exact Y2|exact n8 (G3 (h.isW (by assumption))) λ_ _ h=>C3 h
theorem d4D {ts:List Tk}{v:Int}(h:QT ts)(hv:a1x ts=some v):QT ts.tail:=by
 unfold a1x at hv;repeat' split at hv
 all_goals first|exact h.isW (by assumption)|cases hv
theorem a5S:∀k:Nat,(∀d ts,QT ts->(A1 k d ts).kp)/\(∀d ts,QT ts->(E9 k d ts).kp)/\(∀d l ts,QT ts->(conjL k d l ts).kp)/\(∀d ts,QT ts->(condP k d ts).kp)/\(∀d l ts,QT ts->(condL k d l ts).kp)
 |0=>⟨λd ts h=>by rw[A1];exact a0F,λd ts h=>by rw[E9];exact a0F,λd l ts h=>by rw[conjL];exact a0F,λd ts h=>by rw[condP];exact a0F,λd l ts h=>by rw[condL];exact a0F⟩
 | k +1=>by
   have ih:=a5S k;obtain⟨h1,h2,h3,h4,h5⟩:=ih;refine⟨λd ts h=>?_,λd ts h=>?_,λd l ts h=>?_,λd ts h=>?_,λd l ts h=>?_⟩
   . rw[A1];split
     . exact Y2
     split
     . exact n8 (h1 _ _ (h.isW (by assumption))) λ_ _ h=>C3 h
     split
     . exact n8 (h4 _ _ (h.isW (by assumption))) λ_ _ h=>n8 (v7 h) λ_ _ h=>C3 h
     split
     . exact Y2
     . exact d1a (d4D h (by assumption))
   . rw[E9];exact n8 (h1 _ _ h) λ_ _ h=>h3 _ _ _ h
   . rw[conjL];split
     . exact n8 (h1 _ _ (h.isW (by assumption))) λ_ _ h=>h3 _ _ _ h
     . exact C3 h
   . rw[condP];exact n8 (h2 _ _ h) λ_ _ h=>h5 _ _ _ h
   . rw[condL];split
     . exact n8 (h2 _ _ (h.isW (by assumption))) λ_ _ h=>h5 _ _ _ h
     . exact C3 h
def RdC (f:Nat)(k:Nat)(P:Nat->Nat->List Tk->Rs Cond):Prop:=∀(d:Nat) (ts:List Tk) (u:Nat->Value),d<=16->QT ts->P k d ts≠ .out->MR f [.loc 5000 0, .d (iD d)] (psO ts u) λo O'=>RdO Cond.d (P k d ts) u o O'
theorem X4 {α β:Type}{r:Rs α}{f:α->List Tk->Rs β}(h:r.bind f≠ .out):r≠ .out:=λe=>h (by rw[e];rfl)
abbrev R8:Cfg:={rs:=[14,18,22]}
theorem b6m (F:Nat)(K:Int)(w:List UInt8)(U:Nat->Nat->List Tk->Rs Cond)(Lp:Nat->Nat->List Cond->List Tk->Rs Cond)(hL0:∀d l ts,Lp 0 d l ts= .out)
 (hLs:∀k d l ts,Lp (k+1) d l ts=if isW w ts then(U k d ts.tail).bind λc ts=>Lp k d (l++[c]) ts else .ok (mkC K l) ts) (hkp:∀k d ts,QT ts->(U k d ts).kp)
 (k d:Nat) (ts:List Tk) (u:Nat->Value) (hd:d<=16) (hk:k<=1000000000) (ht:QT ts) (hu:∀j,j<=k->RdC F j U) (hn:(U k d ts).bind (λc ts=>Lp k d [c] ts)≠ .out):
 MR 150 [.loc 5000 0, .d (iD K), .d (.str w), .fn F [.loc 5000 0] [], .d (iD d)] (psO ts u) λo O'=>RdO Cond.d ((U k d ts).bind (λc ts=>Lp k d [c] ts)) u o O':=by
 have h1:=hu k (p0 _) d ts u hd ht (X4 hn);have hq:=hkp k d ts ht;refine EnR R8 Tryz.func150 Tryz.ntmps150 λ_ _ _ _ _=>?_;refine Kv R8 ?_;refine⟨psO ts u,_,⟨Kr,Kr⟩,h1.mono ?_⟩;intro o O' ho;cases hU:U k d ts with
 |out=>rw[hU] at ho;exact ho.elim
 | er a e=>
   rw[hU] at ho;obtain⟨ts',rfl,rfl⟩:=ho;refine Kv R8 ?_;refine⟨psO ts' u,⟨Kr,Kr⟩,?_⟩;exact⟨_,rfl,rfl⟩
 | ok c ts'=>
   rw[hU] at ho;obtain⟨rfl,rfl⟩:=ho;refine Kv R8 ?_;have hbd:(U k d ts).bind (λc ts=>Lp k d [c] ts)=Lp k d [c] ts':=by rw[hU];rfl
   rw[hbd] at hn;refine o4 tok R8 [(.inl 11,11,47,4)] (X:=Nat×List Cond×List Tk) (λs=>[(11, .own 11)]) (λs=>(11, .sl ⟨47,4,s.2.1.map Cond.cells,true⟩)::psO s.2.2 u) [] (λs=>s.1<=k/\QT s.2.2/\Lp k d [c] ts'=Lp s.1 d s.2.1 s.2.2/\s.2.1.length+s.1<=k+1) (λs=>s.1) (k,[c],ts') ?_;refine Kv R8 ?_;refine⟨by simp,?_⟩;refine Kv R8 ?_;refine d8 ?_ ⟨⟨p0 _,hq _ _ hU,rfl,by simp;omega⟩,λs hΦ=>?_⟩
   . repeat'(first|exact d9|exact rfl|refine d8 ?_ ?_|(exact(by simp only[o5,B8,Cond.cells_eq])))
   obtain⟨j,l,ts2⟩:=s;obtain⟨hj,hq2,heq,hlen⟩:=hΦ;dsimp only at hj hq2 heq hlen;have hcc:=hq2.1.cons;obtain⟨t,r,rfl⟩:=hcc;cases j with
   |zero=>rw[hL0] at heq;exact absurd heq hn
   |succ j=>
   rw[hLs] at heq;refine Kv R8 ?_;refine⟨psO (t::r) u,_,⟨Kr,Kr⟩,(b1d t r u w).mono ?_⟩;rintro _ O' ⟨rfl,rfl⟩;cases h:isW w (t::r) with
   | false=>
     rw[h,c8 (by decide)] at heq;refine Kv R8 ?_;repeat'((first|(intro hlq;try simp only[SL] at hlq)|refine K9 ?_|((refine Kh (λhb=>?_) λhb=>?_)<;>try simp only[BL] at hb)|refine K7 ?_)<;>refine Kv R8 ?_)
     all_goals try(exact absurd ‹true=false› (by decide))
     all_goals try(exact absurd ‹false=true› (by decide))
     . obtain ⟨x,rfl⟩:∃x,l=[x]:=a5D.1 (by omega);refine⟨x.dc,⟨a0o _,by simp only[o5,B8,Cond.cells_eq];rfl,rfl⟩,?_⟩;refine Kv R8 ?_;refine⟨psO (t::r) u, .d x.d,?_,?_⟩;rotate_left 1
       . rw[j7,heq];exact⟨rfl,rfl⟩
       . exact Kr
     . have hm:mkC K l=⟨K,0,0,l⟩:=by
        unfold mkC;split
        . simp at hb
        . rfl
       refine⟨psO (t::r) u, .d (⟨K,0,0,l⟩:Cond).d,?_,?_⟩;rotate_left 1
       . rw[j7,heq,hm];exact⟨rfl,rfl⟩
       . exact Kr
   | true=>
     rw[h,d4 rfl] at heq;refine Kv R8 ?_;repeat'((first|(intro hlq;try simp only[SL] at hlq)|refine K9 ?_|((refine Kh (λhb=>?_) λhb=>?_)<;>try simp only[BL] at hb)|refine K7 ?_)<;>refine Kv R8 ?_)
     all_goals try(exact absurd ‹true=false› (by decide))
     all_goals try(exact absurd ‹false=true› (by decide))
     have hnn:U j d r≠ .out:=X4 (by rw[heq] at hn;exact hn);have hq3:=hkp j d r (hq2.isW h);refine⟨psO r u,_,⟨Kr,Kr⟩,(hu j (by omega) d r u hd (hq2.isW h) hnn).mono ?_⟩;intro o O' ho;cases hU2:U j d r with
     |out=>rw[hU2] at ho;exact ho.elim
     | er a e=>
       rw[hU2] at ho;obtain⟨ts3,rfl,rfl⟩:=ho;have h3:Lp k d [c] ts'= .er a e:=by rw[heq,List.tail_cons,hU2];rfl
       refine Kv R8 ?_;refine⟨psO ts3 u,⟨Kr,Kr⟩,?_⟩;rw[j7,h3];exact⟨_,rfl,rfl⟩
     | ok c2 ts3=>
       rw[hU2] at ho;obtain⟨rfl,rfl⟩:=ho;have h3:Lp k d [c] ts'=Lp j d (l++[c2]) ts3:=by rw[heq,List.tail_cons,hU2];rfl
       refine Kv R8 ?_;refine⟨by simp,?_⟩;refine Kv R8 ?_;refine⟨λh1 h2=>?_,?_⟩
       . simp only[o9,i7,j8];omega
       refine Kv R8 ?_;refine⟨⟨(j,l++[c2],ts3),?_,⟨by dsimp only;omega,hq3 _ _ hU2,h3,by dsimp only;simp only[j6,i7,j8];omega⟩,by dsimp only;omega⟩⟩;repeat'(first|exact d9|exact rfl|refine d8 ?_ ?_|(exact(by simp only[D3,o5,B8,Cond.cells_eq])))
theorem c4p (k:Nat)(hk:k<=1000000000)(hu:∀j,j<=k->RdC 205 j A1):RdC 151 (k+1) E9:=by
 intro d ts u hd hq hn;have e:E9 (k+1) d ts=(A1 k d ts).bind λc ts=>conjL k d [c] ts:=by rw[E9]
 rw[e] at hn⊢;have hc:=b6m 205 2 [97,110,100] A1 conjL (λd l ts=>by rw[conjL]) (λk d l ts=>by rw[conjL]) (λk=>(a5S k).1) k d ts u hd hk hq hu hn;revert hc;generalize (A1 k d ts).bind (λc ts=>conjL k d [c] ts)=res;intro hc;refine EnR {rs:=[9]} Tryz.func151 Tryz.ntmps151 λ_ _ _ _ _=>?_;refine Kv {rs:=[9]} ?_;refine⟨psO ts u,_,⟨Kr,Kr⟩,hc.mono ?_⟩;intro o O' ho;cases res with
 |out=>exact ho.elim
 | er a e=>
   obtain⟨ts',rfl,rfl⟩:=ho;refine Kv {rs:=[9]} ?_;refine⟨psO ts' u,⟨Kr,Kr⟩,?_⟩;exact⟨_,rfl,rfl⟩
 | ok c ts'=>
   obtain⟨rfl,rfl⟩:=ho;refine Kv {rs:=[9]} ?_;refine⟨psO ts' u, .d c.d,?_,⟨rfl,rfl⟩⟩;repeat'(first|exact d9|exact rfl|refine d8 ?_ ?_)
theorem c4m (k:Nat)(hk:k<=1000000000)(hu:∀j,j<=k->RdC 151 j E9):RdC 66 (k+1) condP:=by
 intro d ts u hd hq hn;have e:condP (k+1) d ts=(E9 k d ts).bind λc ts=>condL k d [c] ts:=by rw[condP]
 rw[e] at hn⊢;have hc:=b6m 151 3 [111,114] E9 condL (λd l ts=>by rw[condL]) (λk d l ts=>by rw[condL]) (λk=>(a5S k).2.1) k d ts u hd hk hq hu hn;revert hc;generalize (E9 k d ts).bind (λc ts=>condL k d [c] ts)=res;intro hc;refine EnR {rs:=[9]} Tryz.func66 Tryz.ntmps66 λ_ _ _ _ _=>?_;refine Kv {rs:=[9]} ?_;refine⟨psO ts u,_,⟨Kr,Kr⟩,hc.mono ?_⟩;intro o O' ho;cases res with
 |out=>exact ho.elim
 | er a e=>
   obtain⟨ts',rfl,rfl⟩:=ho;refine Kv {rs:=[9]} ?_;refine⟨psO ts' u,⟨Kr,Kr⟩,?_⟩;exact⟨_,rfl,rfl⟩
 | ok c ts'=>
   obtain⟨rfl,rfl⟩:=ho;refine Kv {rs:=[9]} ?_;refine⟨psO ts' u, .d c.d,?_,⟨rfl,rfl⟩⟩;repeat'(first|exact d9|exact rfl|refine d8 ?_ ?_)
end Go.Proofs.YteillnfhkeebjaaGreatDoor.Dx
