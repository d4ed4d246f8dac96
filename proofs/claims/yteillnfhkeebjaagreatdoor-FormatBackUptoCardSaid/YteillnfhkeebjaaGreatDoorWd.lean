/- The. -/
import Derived.Test.YteillnfhkeebjaaGreatDoorWc
import Derived.Laws.OwnMore
set_option linter.all false
namespace Go.Proofs.YteillnfhkeebjaaGreatDoor.Dx
open Go Go.RowKit
section
variable {P:Program} {T:List (Nat×TI)} {cf:Cfg} {O:List (Nat×Blk)} {kb:Base->Prop} {γ:Gm} {V:Know} {W:World}
def OV (x:Option Value)(d i:Int):Prop:=(x=none/\i=d)\/∃k,x=some (.int k i)
theorem b4f {isS:Bool}{n c:Nat}{lo hi mx:Option Value}{l h m:Int}(hlo:OV lo 0 l)(hhi:OV hi n h)(hmx:OV mx c m)(hm:mx≠none->hi≠none)
 (hb:0<=l/\l<=h/\h<=m/\m<=(c:Int)):(Instr.sliceBounds isS n c lo hi mx).run P W= .ok (l.toNat,h.toNat,m.toNat) W:=by
 have c1:∀k code,(Instr.sliceBound (.int k m) c code).run P W= .ok m.toNat W:=λk code=>run_sliceBound W k m c code (by omega) (by omega);have c2:∀k code,(Instr.sliceBound (.int k h) m.toNat code).run P W= .ok h.toNat W:=λk code=>run_sliceBound W k h m.toNat code (by omega) (by omega);have c3:∀k code,(Instr.sliceBound (.int k l) h.toNat code).run P W= .ok l.toNat W:=λk code=>run_sliceBound W k l h.toNat code (by omega) (by omega);rcases hmx with⟨rfl,rfl⟩|⟨km,rfl⟩
 . rcases hhi with⟨rfl,rfl⟩|⟨kh,rfl⟩<;>rcases hlo with⟨rfl,rfl⟩|⟨kl,rfl⟩<;>simp only[U4] at c1 c2 c3<;>
    simp[Instr.sliceBounds,c2,c3]
 . rcases hhi with⟨rfl,rfl⟩|⟨kh,rfl⟩
   . exact absurd rfl (hm (by simp))
   . rcases hlo with⟨rfl,rfl⟩|⟨kl,rfl⟩<;>simp[Instr.sliceBounds,c1,c2,c3]
def a9j (γ:Gm)(V:Know)(b:Option Base)(v:Option Value):Prop:=
 match b with
 |none=>v=none
 |some b=>∃x,v=some x/\RVb γ V b x
theorem c7p {b:Base}{i:Int}(h:b2L b=some i){x:Value}(hx:RVb γ V b x):∃k,x= .int k i:=by
 unfold b2L at h;split at h
 . cases h;exact⟨_,(Rep.int_inv hx).1⟩
 . cases h
theorem a2Q {x:Option Base}{d:Int}{k:Int->Prop}(h:a1o x d k):∃i,k i/\∀{γ:Gm} {V:Know} {v:Option Value},a9j γ V x v->OV v d i:=by
 unfold a1o at h;split at h
 . exact⟨_,h,λ{γ V v} hv=> .inl ⟨hv,rfl⟩⟩
 . split at h
   . rename_i i hi;refine⟨_,h,λ{γ V v} hv=>?_⟩;obtain⟨x,rfl,hx⟩:=hv;obtain⟨k,rfl⟩:=c7p hi hx;exact .inr ⟨k,rfl⟩
   . exact h.elim
def a3U (a:Option Addr)(c l k:Nat):Option Addr:=if c=l then a else a.map (·.add (l*k))
theorem c0D {x:Value}{xs:List (List D)}(h:Rep V x (.sl xs)){k i j m c n:Nat}{a:Option Addr}(hx:x= .slice a n c)(hk:∀ds∈xs,ds.length=k)(hij:i<=j)(hj:j<=xs.length)(hjm:j<=m)(hm:m<=c):
 Rep V (.slice (a3U a m i k) (j-i) (m-i)) (.sl ((xs.take j).drop i)):=by
 generalize hd:D.sl xs=d at h;cases h<;>cases hd
 . obtain⟨rfl,rfl,rfl⟩:a=none/\n=0/\c=0:=by simpa using hx.symm
   simp only[j8,Nat.le_zero_eq] at hj hm;subst hj hm;obtain rfl:i=0:=by omega
   simp only[a3U,if_true,Nat.sub_self,List.take_nil,List.drop_nil];exact .nil
 . rename_i a0;obtain⟨rfl,rfl,rfl⟩:a=some a0/\n=0/\c=0:=by simpa[eq_comm] using hx.symm
   simp only[j8,Nat.le_zero_eq] at hj hm;subst hj hm;obtain rfl:i=0:=by omega
   simp only[a3U,if_true,Nat.sub_self,List.take_nil,List.drop_nil];exact .empty a0
 . rename_i b o c' k' hc hcm hk' hex hh;obtain⟨rfl,rfl,rfl⟩:a=some ⟨b,o,none⟩/\n=xs.length/\c=c':=by simpa[eq_comm] using hx.symm
   have hlen:((xs.take j).drop i).length=j-i:=by simp;omega
   have hkk:xs=[]\/k'=k:=by
    cases xs with
    |nil=>exact .inl rfl
    |cons y ys=>exact .inr (by rw[<-hk' y (by simp),hk y (by simp)])
   have hget:∀{q:Nat} {ds:List D},((xs.take j).drop i)[q]?=some ds->xs[i+q]?=some ds:=by
    intro q ds hq;rw[a5C,X1] at hq;split at hq
    . exact hq
    . cases hq
   have hne:∀{q:Nat} {ds:List D},((xs.take j).drop i)[q]?=some ds->k'=k:=by
    intro q ds hq;rcases hkk with rfl|h
    . simp at hq
    . exact h
   by_cases hmi:m=i
   . have hz:(xs.take j).drop i=[]:=C8 (by rw[hlen];omega);rw[hz];simp only[a3U,d4 hmi];have:=Rep.sl (V:=V) b o (m-i) 0 [] (F4 _) (by omega) (by simp) (λi ds j d h=>by simp at h) (λi ds j d u h=>by simp at h);rw[show j-i=([]:List (List D)).length from by simp;omega];exact this
   . simp only[a3U,c8 hmi,G9,T0];rw[<-hlen];refine .sl b (o+i*k) (m-i) k _ (by rw[hlen];omega) (by omega) (λds hd=>hk ds (Q5 (a0V hd))) (λq ds r d hq hr=>?_) (λq ds r d u hq hr hu=>?_)
     . have:=hex (i+q) ds r d (hget hq) hr;rw[hne hq,Z2] at this;rwa[show o+i*k+q*k+r=o+(i*k+q*k)+r from by omega]
     . refine hh (i+q) ds r d u (hget hq) hr ?_;rw[hne hq,Z2];rwa[show o+(i*k+q*k)+r=o+i*k+q*k+r from by omega]
theorem a6M (hT:TOk P T){ty:TypeId}{b:Base}{lo hi mx:Option Base}(hreal:Real O [b])(h:a4a T O ty b lo hi mx kb):
 ∃ b',kb b'/\∀(γ:Gm) (V:Know) (W:World) (O':List (Nat×Blk)) (x:Value) (l h' m:Option Value),N8 O O' (F0 O [b])->A2 γ V W O'->RVb γ V b x->
   a9j γ V lo l->a9j γ V hi h'->a9j γ V mx m->
   ∃v,RVb γ V b' v/\(Instr.sliceAt ty x l h' m).run P W= .ok v W:=by
 unfold a4a at h;split at h
 . exact h.elim
 rename_i ti hti;obtain⟨γ0,V0,W0,xs0,hs0,ho0,hv0⟩:=hreal;obtain⟨x0,rfl,hx0⟩:=v1 hv0;split at h
 . rename_i hd;split at h
   case h_2=>exact h.elim
   case h_1 s=>
   obtain⟨i,h,hi'⟩:=a2Q h;obtain⟨j,h,hj'⟩:=a2Q h;obtain⟨hb,h⟩:=h;have hle:=(Rep.str_inv hx0).2;obtain⟨b1,b2,b3⟩:=hb hle;refine⟨_,h,λγ V W O' x l h' m ha ho hx hl hh hm=>?_⟩;obtain⟨rfl,_⟩:=Rep.str_inv hx;obtain rfl:m=none:=hm
   . have hbb:=b4f (P:=P) (W:=W) (isS:=false) (mx:=none) (n:=s.length) (c:=s.length) (m:=s.length) (hi' hl) (hj' hh) (.inl ⟨rfl,rfl⟩) (λe=>absurd rfl e) ⟨b1,b2,b3,a0o _⟩;refine⟨.string ⟨⟨(s.take j.toNat).drop i.toNat⟩⟩, .str _ (by simp;omega),?_⟩;have he:(⟨⟨s⟩⟩:ByteArray).extract i.toNat j.toNat=⟨⟨(s.take j.toNat).drop i.toNat⟩⟩:=by
      apply ByteArray.ext;apply a0R.1;simp[ByteArray.data_extract,List.extract_eq_take_drop,List.drop_take]
     have hsz:(⟨⟨s⟩⟩:ByteArray).size=s.length:=rfl;simp only[Instr.sliceAt,Instr.slice,r4,hT.under hti W,r8,hd,hsz,Option.isSome_none,Y8,if_false,hbb,H3,he]
 . rename_i e hd;split at h
   . exact h.elim
   rename_i te hte;have key:∀(W:World) (ad:Option Addr) (n c:Nat) (i j m:Int) (l h' mv:Option Value),OV l 0 i->OV h' n j->OV mv c m->(mv≠none->h'≠none)->0<=i/\i<=j/\j<=m/\m<=(c:Int)->
    (Instr.sliceAt ty (.slice ad n c) l h' mv).run P W= .ok (.slice (a3U ad m.toNat i.toNat te.size) (j.toNat-i.toNat) (m.toNat-i.toNat)) W:=by
    intro W ad n c i j m l h' mv h1 h2 h3 hn hb;have hbb:=b4f (P:=P) (W:=W) (isS:=true) h1 h2 h3 hn hb;simp[Instr.sliceAt,Instr.slice,hT.under hti W,hd,hbb,hT.sizeOf hte W,a3U]
   split at h
   . rename_i hseq;split at h
     case h_2=>exact h.elim
     rename_i n;split at h
     case h_2=>exact h.elim
     rename_i s hsl;split at h
     . exact h.elim
     rename_i hp;obtain⟨i,h,hi'⟩:=a2Q h;obtain⟨j,h,hj'⟩:=a2Q h;obtain⟨hb,h⟩:=h;have hle:s.xs.length<=maxLen:=by
      rcases ho0 n _ hsl with⟨g,n',c',vals,hv',hown,_⟩|⟨hp',_⟩
      . rw[hv'] at hown;obtain⟨cur,_,_,hnc,hcm,_⟩:=Q0 hown;exact H8 hnc hcm
      . rcases hp' with hp'|hp'
        . rw[hp] at hp';cases hp'
        . rw[hp'];exact F4 _
     obtain⟨b1,b2,b3,b4,b5⟩:=hb hle;refine⟨_,h,λγ V W O' x l h' m ha ho hx hl hh hm=>?_⟩;have hl':=ha n (by simp[F0,A7]);rw[hsl] at hl';obtain rfl:m=none:=hm;rcases ho n _ hl' with⟨g,n',c',vals,hv',hown,_⟩|⟨hp',_⟩
     . rw[show x=(γ n).1 from hx];rw[hv'] at hown;obtain⟨cur,hnn,_,hnc,_⟩:=Q0 hown;have:=key W (some ⟨g,0,none⟩) n' c' i j c' l h' none (hi' hl) (by rw[hnn];exact hj' hh) (.inl ⟨rfl,rfl⟩) (λe=>absurd rfl e) ⟨b1,b2,by omega,a0o _⟩;rw[U4] at this;refine⟨_,⟨g,n',c',by rw[hv'],?_⟩,by rw[hv'];exact this⟩;simp only[a3U];rw[c8 (by omega)];simp[Addr.add];try exact λh=>h.symm
     . rcases hp' with hp'|hp'
       . rw[hp] at hp';cases hp'
       . rw[hp'] at b4;simp at b4;omega
   rename_i xs hxs;obtain⟨_,_,_,hl1,hl2⟩:=a3T (a3S ho0 hxs hx0);have hle:xs.length<=maxLen:=H8 hl1 hl2;have rep:∀{γ:Gm} {V:Know} {W:World} {O':List (Nat×Blk)} {x:Value},N8 O O' (F0 O [b])->A2 γ V W O'->RVb γ V b x->Rep V x (.sl xs):=λha ho hx=>
    a3S ho ((b0O λn hn=>ha n (by simp[F0,hn])).trans hxs) hx
   split at h
   . obtain ⟨i,h,hi'⟩:=a2Q h;obtain⟨j,h,hj'⟩:=a2Q h;obtain⟨hb,h⟩:=h;obtain⟨b1,b2,b3,b4⟩:=hb hle;refine⟨_,h,λγ V W O' x l h' m ha ho hx hl hh hm=>?_⟩;have hr:=rep ha ho hx;obtain⟨a,c,rfl,hc1,hc2⟩:=a3T hr;obtain rfl:m=none:=hm
     . refine⟨_,c0D (k:=te.size) (i:=i.toNat) (j:=j.toNat) (m:=c) hr rfl b4 (by omega) (by omega) (by omega) (p0 _),?_⟩;have:=key W a xs.length c i j c l h' none (hi' hl) (hj' hh) (.inl ⟨rfl,rfl⟩) (λe=>absurd rfl e) ⟨b1,b2,by omega,a0o _⟩;rwa[U4] at this
   . split at h
     . exact h.elim
     rename_i mb _ hb';obtain⟨i,h,hi'⟩:=a2Q h;obtain⟨j,h,hj'⟩:=a2Q h;obtain⟨m',h,hm'⟩:=a2Q h;obtain⟨hb,h⟩:=h;obtain⟨b1,b2,b3,b5,b4⟩:=hb hle;subst b3;refine⟨_,h,λγ V W O' x l h' m ha ho hx hl hh hm=>?_⟩;have hr:=rep ha ho hx;obtain⟨a,c,rfl,hc1,hc2⟩:=a3T hr;have hmm:=hm' hm;obtain⟨m,rfl,hmb⟩:=hm;have hjj:=hj' hh;obtain⟨h',rfl,hhb⟩:=hh
     . · have hmv:OV (some m) c j:=by
          rcases hmm with⟨e,_⟩|⟨k,e⟩
          . cases e
          . exact .inr ⟨k,e⟩
         have:=key W a xs.length c i j j l (some h') (some m) (hi' hl) hjj hmv (λ_ e=>by cases e) ⟨b1,b2,a0o _,by omega⟩;exact⟨_,⟨c0D (k:=te.size) (i:=i.toNat) (j:=j.toNat) (m:=j.toNat) hr rfl b4 (by omega) (by omega) (p0 _) (by omega),_,_,rfl⟩,this⟩
 . exact h.elim
theorem Real.sub {bs bs':List Base}(h:Real O bs)(hs:∀b∈bs',b∈bs):Real O bs':=by
 obtain⟨γ,V,W,xs,h1,h2,h3⟩:=h;have:∀l:List Base,(∀b∈l,b∈bs)->∃ys,Vals γ V l ys:=by
  intro l;induction l with
  |nil=>intro _;exact⟨[], .nil⟩
  | cons b l ih=>
    intro hl;obtain⟨ys,hy⟩:=ih (λx hx=>hl x (by simp[hx]));obtain⟨i,hi⟩:=a9e.1 (hl b (by simp));obtain⟨x,_,hx⟩:=h3.at hi;exact⟨x::ys, .cons hx hy⟩
 obtain⟨ys,hy⟩:=this bs' hs;exact⟨γ,V,W,ys,h1,h2,hy⟩
theorem a5M {O':List (Nat×Blk)}{bs bs':List Base}(h:N8 O O' (F0 O bs))(hs:∀b∈bs',b∈bs):N8 O O' (F0 O bs'):=by
 intro n hn;refine h n ?_;have hk:∀m∈bs'.flatMap A7,m∈bs.flatMap A7:=by
  intro m hm;obtain⟨b,hb,hm⟩:=a3j.1 hm;exact a3j.2 ⟨b,hs b hb,hm⟩
 unfold F0 at hn⊢;rcases A8.1 hn with hn|hn
 . exact A8.2 (.inl (hk n hn))
 . obtain⟨m,hm,hn⟩:=a3j.1 hn;exact A8.2 (.inr (a3j.2 ⟨m,hk m hm,hn⟩))
theorem d4W (hT:TOk P T){ty:TypeId}{x:Operand}{lo hi mx:Option Operand}{bs:List Base}(hreal:Real O bs)(h:b4W T O ty lo hi mx bs kb):
 ∃b',kb b'/\Reads P T O (.slice ty x lo hi mx) bs b':=by
 unfold b4W at h;split at h
 . rename_i b;obtain⟨b',hb,hr⟩:=a6M hT (hreal.sub (by simp)) h;refine⟨b',hb,λγ V W O' xs ha hs ho hv ρ hm=>?_⟩;obtain⟨y,rfl,hy⟩:=v1 hv;obtain⟨v,h1,h2⟩:=hr γ V W O' y none none none (a5M ha (by simp)) ho hy rfl rfl rfl;simp only[Op.operands] at hm;refine⟨v,h1,λdst ty' pos af gd=>A5 ?_⟩;have e:ρ x=y:=by simpa using hm
   simpa[e] using h2
 . rename_i l b lb;obtain⟨b',hb,hr⟩:=a6M hT (hreal.sub (by simp)) h;refine⟨b',hb,λγ V W O' xs ha hs ho hv ρ hm=>?_⟩;obtain⟨y,z,rfl,hy,hz⟩:=v2 hv;obtain⟨v,h1,h2⟩:=hr γ V W O' y (some z) none none (a5M ha (by simp)) ho hy ⟨_,rfl,hz⟩ rfl rfl;simp only[Op.operands] at hm;refine⟨v,h1,λdst ty' pos af gd=>A5 ?_⟩;have e:ρ x=y/\ρ l=z:=by simpa using hm
   simpa[e] using h2
 . rename_i l b lb;obtain⟨b',hb,hr⟩:=a6M hT (hreal.sub (by simp)) h;refine⟨b',hb,λγ V W O' xs ha hs ho hv ρ hm=>?_⟩;obtain⟨y,z,rfl,hy,hz⟩:=v2 hv;obtain⟨v,h1,h2⟩:=hr γ V W O' y none (some z) none (a5M ha (by simp)) ho hy rfl ⟨_,rfl,hz⟩ rfl;simp only[Op.operands] at hm;refine⟨v,h1,λdst ty' pos af gd=>A5 ?_⟩;have e:ρ x=y/\ρ l=z:=by simpa using hm
   simpa[e] using h2
 . rename_i l h' b lb hb';obtain⟨b',hb,hr⟩:=a6M hT (hreal.sub (by simp)) h;refine⟨b',hb,λγ V W O' xs ha hs ho hv ρ hm=>?_⟩;obtain⟨y,z,u,rfl,hy,hz,hu⟩:=v3 hv;obtain⟨v,h1,h2⟩:=hr γ V W O' y (some z) (some u) none (a5M ha (by simp)) ho hy ⟨_,rfl,hz⟩ ⟨_,rfl,hu⟩ rfl;simp only[Op.operands] at hm;refine⟨v,h1,λdst ty' pos af gd=>A5 ?_⟩;have e:ρ x=y/\ρ l=z/\ρ h'=u:=by simpa using hm
   simpa[e] using h2
 . rename_i h' m b hb' mb;obtain⟨b',hb,hr⟩:=a6M hT (hreal.sub (by simp)) h;refine⟨b',hb,λγ V W O' xs ha hs ho hv ρ hm=>?_⟩;obtain⟨y,z,u,rfl,hy,hz,hu⟩:=v3 hv;obtain⟨v,h1,h2⟩:=hr γ V W O' y none (some z) (some u) (a5M ha (by simp)) ho hy rfl ⟨_,rfl,hz⟩ ⟨_,rfl,hu⟩;simp only[Op.operands] at hm;refine⟨v,h1,λdst ty' pos af gd=>A5 ?_⟩;have e:ρ x=y/\ρ h'=z/\ρ m=u:=by simpa using hm
   simpa[e] using h2
 . rename_i l h' m b lb hb' mb;obtain⟨b',hb,hr⟩:=a6M hT (hreal.sub (by simp)) h;refine⟨b',hb,λγ V W O' xs ha hs ho hv ρ hm=>?_⟩;obtain⟨y,ys,rfl,hy,hys⟩:=hv.cons_l;obtain⟨z,u,w,rfl,hz,hu,hw⟩:=v3 hys;obtain⟨v,h1,h2⟩:=hr γ V W O' y (some z) (some u) (some w) (a5M ha (by simp)) ho hy ⟨_,rfl,hz⟩ ⟨_,rfl,hu⟩ ⟨_,rfl,hw⟩;simp only[Op.operands] at hm;refine⟨v,h1,λdst ty' pos af gd=>A5 ?_⟩;have e:ρ x=y/\ρ l=z/\ρ h'=u/\ρ m=w:=by simpa using hm
   simpa[e] using h2
 . exact h.elim
theorem d4U {c x y:Base}{oc ox oy:Operand}(h:b4V c x y kb):∃b',kb b'/\Reads P T O (.pick oc ox oy) [c,x,y] b':=by
 unfold b4V at h;have mk:∀{bb:Bool} {b':Base},(∀{γ:Gm} {V:Know} {v:Value},RVb γ V c v->v= .bool bb)->b'=(if bb=true then x else y)->Reads P T O (.pick oc ox oy) [c,x,y] b':=by
  intro bb b' hc hb γ V W O' xs ha hs ho hvs ρ hm;obtain⟨u,v,w,rfl,hu,hv,hw⟩:=v3 hvs;have e:ρ oc=u/\ρ ox=v/\ρ oy=w:=by simpa[Op.operands] using hm
  obtain⟨e1,e2,e3⟩:=e;have:=hc hu;subst this hb;clear hvs;cases bb
  . exact⟨w,hw,λdst ty pos af gd=>by simp[execOp,e1,e3,asBool]⟩
  . exact⟨v,hv,λdst ty pos af gd=>by simp[execOp,e1,e2,asBool]⟩
 split at h
 . split at h
   . exact⟨_,h,mk (bb:=true) (λhu=>Rep.bl_b hu) rfl⟩
   . exact⟨_,h,mk (bb:=false) (λhu=>Rep.bl_b hu) rfl⟩
 . rename_i b;cases b
   . exact⟨_,h.2 rfl,mk (bb:=false) (λhu=>(Rep.v_inv hu).1) rfl⟩
   . exact⟨_,h.1 rfl,mk (bb:=true) (λhu=>(Rep.v_inv hu).1) rfl⟩
 . exact h.elim
theorem c1l {mx:Bool}{x y:Base}{ox oy:Operand}{ats:Array TypeId}(h:b1k mx x y kb):
 ∃b',kb b'/\Reads P T O (.call {callee:= .builtin (match mx with|true=> .max|false=> .min),args:= #[ox,oy],argTypes:=ats}) [x,y] b':=by
 unfold b1k at h;split at h
 case h_2=>exact h.elim
 rename_i k i k' j hx hy;split at h
 case h_2=>exact h.elim
 rename_i hk;obtain rfl:=c0a hk;have inv:∀{b:Base} {i:Int} {γ:Gm} {V:Know} {u:Value},a9V b=some (k,i)->RVb γ V b u->u= .int k i/\w8 k i:=by
  intro b i γ V u hb hu;unfold a9V at hb;split at hb
  . cases hb;exact Rep.int_inv hu
  . cases hb
 have mk:∀{n:Int},n=(match mx with|true=>max i j|false=>min i j)->Reads P T O (.call {callee:= .builtin (match mx with|true=> .max|false=> .min),args:= #[ox,oy],argTypes:=ats}) [x,y] (.d (.v (.int k n))):=by
  intro n hn γ V W O' xs ha hs ho hvs ρ hm;obtain⟨u,v,rfl,hu,hv⟩:=v2 hvs;have e:ρ ox=u/\ρ oy=v:=by simpa[Op.operands,Call.operands] using hm
  obtain⟨rfl,hi⟩:=inv hx hu;obtain⟨rfl,hj⟩:=inv hy hv;refine⟨.int k n, .int ?_,λdst ty pos af gd=>?_⟩
  . cases mx<;>simp only at hn<;>rw[hn]
    . rcases Int.le_total i j with h|h
      . rw[Int.min_eq_left h];exact hi
      . rw[Int.min_eq_right h];exact hj
    . rcases Int.le_total i j with h|h
      . rw[Int.max_eq_right h];exact hj
      . rw[Int.max_eq_left h];exact hi
  . cases mx<;>simp only at hn
    . have e3:(if j<i then j else i)=n:=by rw[hn];split<;>omega
      simp[execOp,resolve,invoke,builtin,e.1,e.2,run_min_int2,e3]
    . have e3:(if j>i then j else i)=n:=by rw[hn];split<;>omega
      simp[execOp,resolve,invoke,builtin,e.1,e.2,run_max_int2,e3]
 split at h
 . exact⟨_,h,mk rfl⟩
 . exact⟨_,h,mk rfl⟩
theorem c9a {k:D}:∀{l:List (D×D)},(∀p∈l,p.1≠k)->G2 l k=none:=by
 intro l;induction l with
 |nil=>intro _;rfl
 |cons p l ih=>intro h;simp only[G2];rw[c8 (h p (by simp))];exact ih λx hx=>h x (by simp[hx])
theorem c9b {k:D}:∀{l:List (D×D)} {j:Nat} {p:D×D},l[j]?=some p->p.1=k->(∀(i:Nat) (x:D×D),i<j->l[i]?=some x->x.1≠k)->G2 l k=some p.2:=by
 intro l;induction l with
 |nil=>intro j e h;simp at h
 | cons y l ih=>
   intro j e hj he hf;simp only[G2];cases j with
   |zero=>simp at hj;subst hj;rw[d4 he]
   | succ j=>
     rw[c8 (hf 0 y (by omega) (by simp))];exact ih (by simpa using hj) he λi x hi hx=>hf (i+1) x (by omega) (by simpa using hx)
def b5m (V:Know)(W:World)(x:Value)(l:List (D×D)):Prop:=
 (x= .map none/\l=[])\/∃r es clock,x= .map (some r)/\W.heap[r]?=some (.map es clock)/\es.toList.length=l.length/\
   (∀(i:Nat) e p,es.toList[i]?=some e->l[i]?=some p->I3 p.1=some e.key)/\∀(i:Nat) e p,es.toList[i]?=some e->l[i]?=some p->Rep V e.val p.2
theorem c8H {O':List (Nat×Blk)}{b:Base}{l:List (D×D)}(h:b3e O b=some l)(ha:N8 O O' (A7 b))(hs:Sees V W)(ho:A2 γ V W O'){x:Value}(hx:RVb γ V b x):b5m V W x l:=by
 unfold b3e at h;split at h
 . cases h;cases hx with
   |mnil=>exact .inl ⟨rfl,rfl⟩
   |mp r clock es l ho' hm hl hkey hh=>exact .inr ⟨r,es,clock,rfl,(hs.obj _ _ ho').1,hl,hkey,hh⟩
 . rename_i n;split at h
   case h_2=>cases h
   rename_i l' hl';cases h;have hl:=ha n (by simp[A7]);rw[hl'] at hl;obtain⟨r,es,clock,hg,hh,_,_,hlen,hkey,hrep⟩:=ho n _ hl;exact .inr ⟨r,es,clock,by rw[show x=(γ n).1 from hx,hg],hh,hlen,hkey,hrep⟩
 . cases h
theorem b7B {kt:TypeId}{S:D->Prop}(hS:b5w P kt S){kd:D}(hk:S kd){l:List (D×D)}(hl:∀p∈l,S p.1):∃kv,I3 kd=some kv/\(∀V u,Rep V u kd->u=kv)/\Instr.sameBits 10000 kv kv=true/\
 ∀ (W:World),(∀em,(Instr.checkKey em 10000 kt kv).run P W= .ok () W)/\∀es:List MapEntry,es.length=l.length->(∀(i:Nat) e p,es[i]?=some e->l[i]?=some p->I3 p.1=some e.key)->
   ((Instr.findKey kt kv es).run P W= .ok none W/\G2 l kd=none/\(∀e∈es,e.key≠kv)/\∀p∈l,p.1≠kd)\/
   ∃(j:Nat) (e:MapEntry) (p:D×D),(Instr.findKey kt kv es).run P W= .ok (some (j,e.val)) W/\es[j]?=some e/\l[j]?=some p/\e.key=kv/\p.1=kd/\G2 l kd=some p.2/\∀(i:Nat) (x:D×D),i<j->l[i]?=some x->x.1≠kd:=by
 obtain⟨S',hset,hmap,hinj⟩:=hS;obtain⟨kv,hkv,hkS,huniq,_⟩:=hmap kd hk;obtain⟨hsb,hW⟩:=hset kv hkS;refine⟨kv,hkv,huniq,hsb,λW=>⟨(hW W).1,λes hlen hkey=>?_⟩⟩;have pair:∀{i:Nat} {e:MapEntry},es[i]?=some e->∃p,l[i]?=some p/\p∈l/\I3 p.1=some e.key:=by
  intro i e hi;have hlt:i<es.length:=by
   rcases C5 i es.length with h|h
   . exact h
   . rw[z6 h] at hi;cases hi
  have:l[i]?=some l[i]:=t6 (by omega);exact⟨_,this,M6 this,hkey i e _ hi this⟩
 have back:∀{i:Nat} {p:D×D},l[i]?=some p->∃e,es[i]?=some e/\I3 p.1=some e.key:=by
  intro i p hi;have hlt:i<l.length:=by
   rcases C5 i l.length with h|h
   . exact h
   . rw[z6 h] at hi;cases hi
  have:es[i]?=some es[i]:=t6 (by omega);exact⟨_,this,hkey i _ p this hi⟩
 have hes:∀e∈es,S' e.key:=by
  intro e he;obtain⟨i,hi⟩:=a9e.1 he;obtain⟨p,_,hp,hv⟩:=pair hi;obtain⟨k',hk',hS',_⟩:=hmap p.1 (hl p hp);rw[hv] at hk';cases hk';exact hS'
 have eqv:∀{p:D×D} {e:MapEntry},p∈l->I3 p.1=some e.key->(p.1=kd↔e.key=kv):=by
  intro p e hp hv;constructor
  . intro h;rw[h,hkv] at hv;exact(U7 hv).symm
  . intro h;exact hinj _ _ (hl p hp) hk (by rw[hv,hkv,h])
 rcases(hW W).2 es hes with⟨h1,h2⟩|⟨j,e,h1,h2,h3,h4⟩
 . have hne:∀p∈l,p.1≠kd:=by
    intro p hp e;obtain⟨i,hi⟩:=a9e.1 hp;obtain⟨e',he',hv⟩:=back hi;exact h2 e' (M6 he') ((eqv hp hv).1 e)
   exact .inl ⟨h1,c9a hne,h2,hne⟩
 . obtain⟨p,hp1,hp2,hv⟩:=pair h2;have hpk:=(eqv hp2 hv).2 h3;have hbefore:∀(i:Nat) (x:D×D),i<j->l[i]?=some x->x.1≠kd:=by
    intro i x hi hx hxe;obtain⟨e',he',hv'⟩:=back hx;exact h4 i e' hi he' ((eqv (M6 hx) hv').1 hxe)
   exact .inr ⟨j,e,p,h1,h2,hp1,h3,hpk,c9b hp1 hpk hbefore,hbefore⟩
theorem d4Q (hT:TOk P T){ty:TypeId}{ok:Bool}{mb kx:Base}{ox ok':Operand}(h:b4S T O ty ok mb kx kb):∃b',kb b'/\Reads P T O (.lookup ty ox ok' ok) [mb,kx] b':=by
 unfold b4S at h;split at h
 . exact h.elim
 rename_i ti hti;split at h
 case h_2=>exact h.elim
 rename_i kt et hd;split at h
 case h_2=>exact h.elim
 rename_i tk te htk hte;split at h
 case h_2=>exact h.elim
 rename_i kd l z hkd hl hz;obtain⟨⟨hk,hkl⟩,h⟩:=h;obtain⟨kv,hkv,huniq,_,hfind⟩:=b7B (hT _ _ htk).2.2.2.1 hk hkl;have key:∀{γ:Gm} {V:Know} {W:World} {O':List (Nat×Blk)} {x k:Value},N8 O O' (F0 O [mb,kx])->Sees V W->A2 γ V W O'->RVb γ V mb x->RVb γ V kx k->
  ∃v,Rep V v ((G2 l kd).getD z)/\(Instr.lookup ty x k ok).run P W= .ok (match ok with|true=> .tuple #[v, .bool (G2 l kd).isSome]|false=>v) W:=by
  intro γ V W O' x k ha hs ho hx hkx;have hkd':a0n O' kx=some kd:=(b4C λn hn=>ha n (by simp[F0,hn])).trans hkd;obtain rfl:=huniq V k (a5p ho hkd' hkx);obtain⟨hck,hfk⟩:=hfind W;have hh:=c8H hl (λn hn=>ha n (by simp[F0,hn])) hs ho hx;unfold Instr.lookup;rcases hh with⟨rfl,rfl⟩|⟨r,es,clock,rfl,e2,hlen,hkey,hrep⟩
  . rcases hfk [] rfl (λi e p h=>by simp at h) with⟨f1,f2,_⟩|⟨j,e,p,_,f2,_⟩
    . refine⟨te.zero,by rw[f2];exact b0l hz V,?_⟩;simp only[r4,hT.under hti W,r8,hd,H3,hck];cases ok<;>simp[f1,hT.zeroValue hte W,f2]
    . simp at f2
  . have hobj:(getObj r).run P W= .ok (.map es clock) W:=by simp[getObj,Sem.run,e2]
    rcases hfk es.toList hlen hkey with⟨f1,f2,_⟩|⟨j,e,p,f1,f2,f3,_,_,f4,_⟩
    . refine⟨te.zero,by rw[f2];exact b0l hz V,?_⟩;simp only[r4,hT.under hti W,r8,hd,hobj,H3,hck];cases ok<;>simp[f1,hT.zeroValue hte W,f2]
    . refine⟨e.val,by rw[f4];exact hrep j e p f2 f3,?_⟩;simp only[r4,hT.under hti W,r8,hd,hobj,H3,hck];cases ok<;>simp[f1,f4]
 split at h
 . obtain⟨d,rfl,h⟩:=h;refine⟨_,h,λγ V W O' xs ha hs ho hv ρ hm=>?_⟩;obtain⟨x,k,rfl,hx,hkx⟩:=v2 hv;obtain⟨v,h1,h2⟩:=key ha hs ho hx hkx;obtain⟨e1,e2⟩:=o2 (a:=ox) (b:=ok') (by simpa[Op.operands] using hm) rfl;exact⟨v,h1,λdst ty pos af gd=>A5 (by rw[e1,e2];exact h2)⟩
 . obtain⟨d,f,⟨rfl,rfl⟩,h⟩:=h;refine⟨_,h,λγ V W O' xs ha hs ho hv ρ hm=>?_⟩;obtain⟨x,k,rfl,hx,hkx⟩:=v2 hv;obtain⟨v,h1,h2⟩:=key ha hs ho hx hkx;obtain⟨e1,e2⟩:=o2 (a:=ox) (b:=ok') (by simpa[Op.operands] using hm) rfl;have hrr:=Reps.cons h1 (Reps.cons (Rep.b (V:=V) (G2 l kd).isSome) (.nil V));exact⟨_, .tup _ _ hrr.len hrr.get,λdst ty pos af gd=>A5 (by rw[e1,e2];exact h2)⟩
theorem c0O {O':List (Nat×Blk)}(ho:A2 γ V W O'):∀{bs:List Base} {cs:List Cap} {xs:List Value},a2Y O bs=some cs->N8 O O' (bs.flatMap A7)->Vals γ V bs xs->All2 (CapR γ V) cs xs:=by
 intro bs;induction bs with
 |nil=>intro cs xs h _ hx;cases h;rw[hx.nil_l];exact .nil
 | cons b bs ih=>
   intro cs xs h ha hx;obtain⟨x,xs,rfl,h1,h2⟩:=hx.cons_l;have ha2:N8 O O' (bs.flatMap A7):=λn hn=>ha n (by simp only[a2n,A8];exact .inr hn);simp only[a2Y] at h;split at h
   . split at h
     case h_2=>cases h
     rename_i cs' hcs;cases h;exact .cons h1 (ih hcs ha2 h2)
   . split at h
     case h_2=>cases h
     rename_i d hd;split at h
     case h_2=>cases h
     rename_i cs' hcs;cases h;exact .cons (a5p ho ((b4C λn hn=>ha n (by simp[hn])).trans hd) h1) (ih hcs ha2 h2)
theorem c1j {F:FuncId}{first captured:Array Operand}{bs:List Base}{fs cs:List Cap}(hf:a2Y O (bs.take first.size)=some fs)(hc:a2Y O (bs.drop first.size)=some cs){b':Base}
 (hb:b'= .fn F fs cs\/∃f c,a2s fs=some f/\a2s cs=some c/\b'= .d (.fn F f c)):Reads P T O (.makeFunc (.func F) first captured) bs b':=by
 intro γ V W O' xs ha hs ho hv ρ hm;have hag:∀l:List Base,(∀b∈l,b∈bs)->N8 O O' (l.flatMap A7):=by
  intro l hl n hn;refine ha n (A8.2 (.inl ?_));obtain⟨b,hb,hn⟩:=a3j.1 hn;exact a3j.2 ⟨b,hl b hb,hn⟩
 have h1:=c0O ho hf (hag _ λb hb=>Q5 hb) (hv.take _);have h2:=c0O ho hc (hag _ λb hb=>a0V hb) (hv.drop _);have hm':xs=first.toList.map ρ++captured.toList.map ρ:=by rw[<-hm];simp[Op.operands]
 have e1:first.map ρ=⟨xs.take first.size⟩:=by
  apply a0R.1;rw[hm',a1z];exact(List.take_left' (by simp)).symm
 have e2:captured.map ρ=⟨xs.drop first.size⟩:=by
  apply a0R.1;rw[hm',a1z];exact(List.drop_left' (by simp)).symm
 refine⟨.func (.func F) ⟨xs.take first.size⟩ ⟨xs.drop first.size⟩,?_,λdst ty pos af gd=>by simp[execOp,Instr.makeFunc,e1,e2]⟩;rcases hb with rfl|⟨f,c,hf',hc',rfl⟩
 . exact⟨_,_,rfl,h1,h2⟩
 . have r1:=a9w hf' h1;have r2:=a9w hc' h2;exact .fn _ _ _ f c r1.len r2.len r1.get r2.get
theorem c6E (z:List Value):∀(len i:Nat),((List.replicate len z).flatten)[i]?=if i<len*z.length then z[i%z.length]? else none:=by
 intro len;induction len with
 |zero=>intro i;simp
 | succ len ih=>
   intro i;rw[a9f,K0,List.getElem?_append];by_cases h:i<z.length
   . rw[d4 h,d4 (by rw[a3o];omega),Nat.mod_eq_of_lt h]
   . rw[c8 h,ih,a3o];by_cases h2:i<len*z.length+z.length
     . rw[d4 (by omega),d4 h2,show i%z.length=(i-z.length)%z.length from Nat.mod_eq_sub_mod (by omega)]
     . rw[c8 (by omega),c8 h2]
theorem c6F {α:Type}(z:List α)(len:Nat):((List.replicate len z).flatten).length=len*z.length:=by
 induction len with
 |zero=>simp
 |succ len ih=>rw[a9f,K0,j6,ih,a3o];omega
theorem d5D (zero:Array Value)(hz:0<zero.size)(len:Nat):(Array.range (len*zero.size)).map (zero[· %zero.size]!)=((List.replicate len zero.toList).flatten).toArray:=by
 apply a0R.1;apply O0;intro i;have:=c6E zero.toList len i;simp only[a3c] at this;rw[List.toList_toArray,this];simp only[a1z,Array.toList_range,z7];by_cases h:i<len*zero.size
 . have hm:i%zero.size<zero.size:=Nat.mod_lt _ hz;simp[h,hm]
 . simp[h]
theorem c8s:∀(l:List Nat) (n:Nat),b0i l n=true->l=List.range' n l.length:=by
 intro l;induction l with
 |nil=>intro n _;rfl
 | cons x l ih=>
   intro n h;simp only[b0i,f0] at h;rw[i7,List.range'_succ,<-ih (n+1) h.2,t7 h.1]
theorem c6r {k:Nat}:∀{ds:List D} {xs:List (List D)} {us:List Value} {pre post:List Value} {i:Nat},cellsOf k ds=some xs->Reps V us ds->pre.length=i*k->post.length=us.length*k->
 ∃vals,a1M (λi=>some (i*k,k)) (pre++post) ((List.range' i us.length).zip us)=some (pre++vals)/\Reps V vals xs.flatten/\(∀u∈vals,u.oneCell'=true)/\(∀ds∈xs,ds.length=k)/\xs.length=us.length/\vals.length=us.length*k:=by
 intro ds;induction ds with
 | nil=>
   intro xs us pre post i h hu hp hq;cases h;have:us=[]:=C8 (by simpa using hu.len);subst this;have:post=[]:=C8 (by simpa using hq);subst this;exact⟨[],rfl, .nil V,by simp,by simp,rfl,by simp⟩
 | cons d ds ih=>
   intro xs us pre post i h hu hp hq;simp only[cellsOf] at h;split at h
   case h_2=>cases h
   rename_i cs hcs;split at h
   case h_2=>cases h
   rename_i hk;have hk:=t7 hk;split at h
   case h_2=>cases h
   rename_i r hr;cases h;cases us with
   |nil=>have:=hu.len;simp at this
   | cons u us=>
     obtain⟨h1,h2⟩:=a9J hcs hu.head;have hul:(cellsL u).length=k:=by rw[h1.len,hk]
     have hset:setRun (pre++post) (i*k) (cellsL u)=(pre++cellsL u)++post.drop k:=by
      apply O0;intro j;have hq':post.length=(us.length+1)*k:=by simpa using hq
      have hkp:k<=post.length:=by rw[hq',Z2];omega
      rw[Q2 _ _ _ _ (by rw[hul,j6];omega),hul];by_cases hj:j<pre.length
      . rw[c8 (by omega),Q4 hj,n9,Q4 hj]
      . by_cases hj2:j<i*k+k
        . rw[d4 (by omega),Q4 (by rw[j6,hul];omega),X0 (by omega),hp]
        . rw[c8 (by omega),X0 (by omega),X0 (by rw[j6,hul];omega),j6,hul,a5C];congr 1
          omega
     obtain⟨vals,e1,e2,e3,e4,e5,e6⟩:=ih (i:=i+1) (pre:=pre++cellsL u) (post:=post.drop k) hr hu.tail (by rw[j6,hul,Z2];omega) (by rw[K2,hq];simp only[i7,Z2];omega);refine⟨cellsL u++vals,?_,?_,?_,?_,by simp[e5],?_⟩
     . simp only[i7,List.range'_succ,a5G,a1M];rw[hul,Z3,W9];have hle:Nat.ble (i*k+k) (pre++post).length=true:=Nat.ble_eq_true_of_le (by
        rw[j6,hp,hq];simp only[i7,Z2];omega)
       rw[hle];simp only;rw[hset,e1,n9]
     . rw[K0];exact h1.append e2
     . intro w hw;rcases A8.1 hw with hw|hw
       . exact h2 w hw
       . exact e3 w hw
     . intro ds hds;rcases p8.1 hds with rfl|hds
       . exact hk
       . exact e4 ds hds
     . rw[j6,hul,e6];simp only[i7,Z2];omega
theorem b8C (hT:TOk P T){t:TypeId}{len:Nat}{parts:Array (Nat×Operand)}{bs:List Base}{k:TypeId->Nat->List (List D)->Prop}(h:a7Y T O t len (parts.toList.map (·.1)) bs k):
 ∃ e sz xs,k e sz xs/\xs.length=len/\len<=maxLen/\(∀ds∈xs,ds.length=sz)/\∀(γ:Gm) (V:Know) (W:World) (O':List (Nat×Blk)) (us:List Value),N8 O O' (F0 O bs)->A2 γ V W O'->Vals γ V bs us->
   ∃ vals,Reps V vals xs.flatten/\(∀u∈vals,u.oneCell'=true)/\vals.length=len*sz/\
     ∀(ρ:Operand->Value),(Op.buildSlice t len parts).operands.toList.map ρ=us->(Instr.buildSlice t len (parts.map λ(x:Nat×Operand)=>(x.1,ρ x.2))).run P W= .ok (.slice (some ⟨W.heap.size,0,none⟩) len len) (W.alloc (.cells vals.toArray e)):=by
 unfold a7Y at h;split at h
 . exact h.elim
 rename_i ti hti;split at h
 case h_2=>exact h.elim
 rename_i e hd;split at h
 . exact h.elim
 rename_i te hte;split at h
 . exact h.elim
 rename_i hchk;simp only[f0] at hchk;obtain⟨c1,c2,c3,c4,c5⟩:=hchk;have hblen:=t7 c5;have hsmall:len*te.size<=16777216:=X2 c1;have hpos:0<te.size:=X2 c2;have hparts:=c8s _ _ c3;have hplen:=t7 c4;rw[hplen] at hparts;split at h
 . exact h.elim
 rename_i ds hds;split at h
 . exact h.elim
 rename_i xs hxs;rw[a3I] at h;have hzs:te.zero.cells.size=te.size:=(hT _ _ hte).2.2.1;have cl:∀{ds:List D} {xs:List (List D)},cellsOf te.size ds=some xs->xs.length=ds.length/\∀x∈xs,x.length=te.size:=by
  intro ds;induction ds with
  |nil=>intro xs h;cases h;simp
  | cons d ds ih=>
    intro xs h;simp only[cellsOf] at h;split at h
    case h_2=>cases h
    split at h
    case h_2=>cases h
    rename_i hk;split at h
    case h_2=>cases h
    rename_i r hr;cases h;obtain⟨i1,i2⟩:=ih hr;refine⟨by simp[i1],λx hx=>?_⟩;rcases p8.1 hx with rfl|hx
    . exact t7 hk
    . exact i2 x hx
 have vl:∀{bs:List Base} {ds:List D},D8 O bs=some ds->ds.length=bs.length:=by
  intro bs;induction bs with
  |nil=>intro ds h;cases h;rfl
  | cons b bs ih=>
    intro ds h;simp only[D8] at h;split at h
    case h_2=>cases h
    split at h
    case h_2=>cases h
    rename_i es hes;cases h;simp[ih hes]
 obtain⟨hxl,hxk⟩:=cl hxs;have hxlen:xs.length=len:=by rw[hxl,vl hds,hblen]
 have hlm:len<=len*te.size:=Nat.le_mul_of_pos_right _ hpos;refine⟨_,_,_,h,hxlen,by simp only[maxLen];omega,hxk,λγ V W O' us ha ho hv=>?_⟩;have hds':D8 O' bs=some ds:=(b4D λn hn=>ha n (A8.2 (.inl hn))).trans hds;have hu:=a3X ho hds' hv;have hul:us.length=len:=by rw[<-hv.len,hblen]
 have hzl:((List.replicate len (cellsL te.zero)).flatten).length=us.length*te.size:=by rw[c6F,<-hzs,<-cellsL_eq,hul];simp
 obtain⟨vals,e1,e2,e3,e4,e5,e6⟩:=c6r (k:=te.size) (i:=0) (pre:=[]) (post:=(List.replicate len (cellsL te.zero)).flatten) hxs hu (by simp) hzl;refine⟨vals,e2,e3,by rw[e6,hul],λρ hm=>?_⟩;have hparts':(parts.map λ(x:Nat×Operand)=>(x.1,ρ x.2)).toList=(List.range' 0 us.length).zip us:=by
  rw[hul,<-hparts];have hm':us=parts.toList.map λp=>ρ p.2:=by
   rw[<-hm];simp[Op.operands]
  rw[hm',b1p];exact a1z ..
 have hfe:=a7K _ _ _ _ e1;rw[y8,y8,<-hparts'] at hfe;have hns:¬(len*te.size>16777216):=by omega
 simp only[Instr.buildSlice,r4,hT.under hti W,r8,hd,hT.sizeOf hte W];by_cases h0:len*te.size=0
 . have hl0:len=0:=by
    rcases Nat.mul_eq_zero.1 h0 with h|h
    . exact h
    . omega
   subst hl0;simp only[List.replicate_zero,List.flatten_nil] at hfe;have hr0:∀f:Nat->Value,Array.map f (Array.range (0*te.size))= #[]:=λf=>by rw[Nat.zero_mul];simp
   simp only[d4 h0,hns,if_false,r4,H3,r8,hr0,hfe];simp[newRow]
 . have hzz:=d5D te.zero.cells (by rw[hzs];exact hpos) len;rw[hzs,cellsL_eq] at hzz;simp only[c8 h0,hns,if_false,r4,hT.zeroValue hte W,r8,H3];rw[hzs,hzz,hfe];simp[newRow]
def Know.with (V:Know)(g:Nat)(cs:List Value):Know:={V with cell:=λb o=>if b=g then cs[o]? else V.cell b o}
theorem c1r (hs:Sees V W)(cs:List Value)(e:TypeId):Grow V W (V.with W.heap.size cs) (W.alloc (.cells cs.toArray e)):=by
 have hb:Below W.heap.size W (W.alloc (.cells cs.toArray e)):=(Below.refl _ _).alloc (p0 _) _;have hlt:∀{b o v},V.cell b o=some v->b<W.heap.size:=λh=>World.block_lt_of_cell? W _ (hs.cell _ _ _ h);have hle:V.Le (V.with W.heap.size cs):=by
  refine⟨λb o v h=>?_,λr x h=>h⟩;have:=hlt h;show(if b=W.heap.size then cs[o]? else V.cell b o)=some v;rw[c8 (by omega)];exact h
 refine⟨hb,⟨hle,λb o v h=>?_,λr x h=> .inl h⟩,⟨λb o v h=>?_,λr x h=>?_,hs.lib.mono hle,hs.keepRow λb o v h=>hb.block b (hlt h)⟩⟩
 . change (if b=W.heap.size then cs[o]? else V.cell b o)=some v at h
   split at h
   . rename_i e;exact .inr (.inr (by omega))
   . exact .inl h
 . change (if b=W.heap.size then cs[o]? else V.cell b o)=some v at h
   split at h
   . rename_i e;subst e;have hh:=heap_alloc_new W (.cells cs.toArray e);simp only[World.cell?,hh];simpa using h
   . exact(hb.cell (p:=⟨b,o,none⟩) (hlt h)).trans (hs.cell b o v h)
 . obtain⟨h1,h2⟩:=hs.obj r x h;have:r<W.heap.size:=by
    rcases C5 r W.heap.size with h|h
    . exact h
    . rw[a6S h] at h1;cases h1
   exact⟨(hb.block r this).trans h1,h2⟩
theorem d4G (hT:TOk P T){t:TypeId}{len:Nat}{parts:Array (Nat×Operand)}{bs:List Base}(h:a7Y T O t len (parts.toList.map (·.1)) bs λ_ _ xs=>kb (.full xs)):
 ∃b',kb b'/\a3e P T O (.buildSlice t len parts) bs b':=by
 obtain⟨e,sz,xs,hk,hl,hlm,hds,hrun⟩:=b8C hT h;refine⟨_,hk,?_⟩;rintro γ V W O' us ha hs ho hv ⟨dst,op,ty,pos,af,gd⟩ ρ rfl hm;obtain⟨vals,h1,h2,h3,hr⟩:=hrun γ V W O' us ha ho hv;have hg:=c1r hs vals e;refine⟨_,_,_,A5 (hr ρ hm),hg,?_,_,_,rfl⟩;refine a8x hl.symm (p0 _) hlm hds (h1.mono hg.fresh.le) h2 (λj u hj=>?_);show(if W.heap.size=W.heap.size then vals[j]? else _)=some u;rw[d4 rfl];exact hj
theorem c3R {γ:Gm}{V:Know}{W:World}(hs:Sees V W){x:Value}{l:List UInt8}{xs:List (List D)}(h:Rep V x (.sl xs))(hx:xs=byteCells l){src dst e:TypeId}(h1:P.underlying src=some (.slice e))(he:P.underlying e=some (.int .u8))(hd:P.underlying dst=some .string):
 (convert src dst x).run P W= .ok (.string ⟨⟨l⟩⟩) W/\l.length<=maxLen:=by
 have hl:xs.length=l.length:=by rw[hx];exact o9 ..
 cases h with
 | nil=>
   obtain rfl:l=[]:=C8 (by simpa using hl.symm);exact⟨run_convert_bytes_nil W src e h1 he 0 0 dst hd,by simp⟩
 | empty a=>
   obtain rfl:l=[]:=C8 (by simpa using hl.symm);exact⟨run_convert_bytes_back W src dst e a 0 [] h1 he hd (λj hj=>by simp at hj),by simp⟩
 | sl b o c k xs hc hm hk hex hh=>
   refine⟨?_,by omega⟩;rw[hl];refine run_convert_bytes_back W src dst e ⟨b,o,none⟩ c l h1 he hd λj hj=>?_;have hj':xs[j]?=some [D.v (.int .u8 (l[j].toNat:Int))]:=by rw[hx,z7,t6 hj];rfl
   have hk1:k=1:=(hk _ (M6 hj')).symm;obtain⟨u,hu,_⟩:=hex j _ 0 _ hj' rfl;have hr:=hh j _ 0 _ u hj' rfl hu;rw[hk1,a2o,a3m] at hu;rw[(Rep.int_inv hr).1] at hu;rw[T0];exact hs.cell _ _ _ hu
theorem d5q (hs:Sees V W)(cs:List Value)(e:TypeId)(fz:Nat×Nat):Grow V W (V.with W.heap.size cs) (W.drew.alloc (.cells cs.toArray e fz)):=by
 have hb:Below W.heap.size W (W.drew.alloc (.cells cs.toArray e fz)):=(Below.drew (Below.refl _ _)).alloc (p0 _) _;have hlt:∀{b o v},V.cell b o=some v->b<W.heap.size:=λh=>World.block_lt_of_cell? W _ (hs.cell _ _ _ h);have hle:V.Le (V.with W.heap.size cs):=by
  refine⟨λb o v h=>?_,λr x h=>h⟩;have:=hlt h;show(if b=W.heap.size then cs[o]? else V.cell b o)=some v;rw[c8 (by omega)];exact h
 refine⟨hb,⟨hle,λb o v h=>?_,λr x h=> .inl h⟩,⟨λb o v h=>?_,λr x h=>?_,hs.lib.mono hle,hs.keepRow λb o v h=>hb.block b (hlt h)⟩⟩
 . change (if b=W.heap.size then cs[o]? else V.cell b o)=some v at h
   split at h
   . rename_i e;exact .inr (.inr (by omega))
   . exact .inl h
 . change (if b=W.heap.size then cs[o]? else V.cell b o)=some v at h
   split at h
   . rename_i eb;subst eb;have hh:(W.drew.alloc (.cells cs.toArray e fz)).heap[W.heap.size]?=some (.cells cs.toArray e fz):=heap_alloc_new W.drew (.cells cs.toArray e fz);simp only[World.cell?,hh];simpa using h
   . exact(hb.cell (p:=⟨b,o,none⟩) (hlt h)).trans (hs.cell b o v h)
 . obtain⟨h1,h2⟩:=hs.obj r x h;have:r<W.heap.size:=by
    rcases C5 r W.heap.size with h|h
    . exact h
    . rw[a6S h] at h1;cases h1
   exact⟨(hb.block r this).trans h1,h2⟩
theorem d4H (hT:TOk P T){s d e:TypeId}{ts td:TI}{x:Operand}{b:Base}(hts:d7 s T=some ts)(htd:d7 d T=some td)(hds:ts.desc= .string)(hdd:td.desc= .slice e)(h:b4H T e b kb):∃b',kb b'/\a3e P T O (.convert s d x) [b] b':=by
 unfold b4H at h;split at h
 case h_2=>exact h.elim
 rename_i te hte;split at h
 case h_2=>exact h.elim
 rename_i hde;split at h
 case h_2=>exact h.elim
 rename_i l;refine⟨_,h,?_⟩;rintro γ V W O' us ha hs ho hv ⟨dst,op,ty,pos,af,gd⟩ ρ rfl hm;obtain⟨y,rfl,hy⟩:=v1 hv;obtain⟨rfl,hlen⟩:=Rep.str_inv hy;have hge:=grownCap_ge W l.length 0 e;have hle:=grownCap_le_maxLen W l.length 0 e hlen;have hr:=run_bytes_of_string (P:=P) W s d e ⟨⟨l⟩⟩ ((hT.row hts).trans (by rw[hds])) ((hT.row htd).trans (by rw[hdd])) ((hT.row hte).trans (by rw[hde]));have hsz:(⟨⟨l⟩⟩:ByteArray).size=l.length:=rfl;rw[hsz] at hr;generalize hc:grownCap W l.length 0 e=c at hge hle hr;have hrow:∀(j:Nat) (hj:j<l.length),(bytesRow ⟨⟨l⟩⟩ c).toList[j]?=some (.int .u8 (l[j].toNat:Int)):=by
  intro j hj;simp only[bytesRow,Array.toList_append,a1z];rw[Q4 (by simpa using hj)];simp[hj]
 refine⟨.slice (some ⟨W.heap.size,0,none⟩) l.length c,_,_,A5 ?_,d5q hs (bytesRow ⟨⟨l⟩⟩ c).toList e ((bytesRow ⟨⟨l⟩⟩ c).size,(bytesRow ⟨⟨l⟩⟩ c).size+1),?_⟩
 . rw[o1 hm rfl];exact hr
 . have e1:(byteCells l).length=l.length:=by simp
   have key:∀(i:Nat) ds (j:Nat) d',(byteCells l)[i]?=some ds->ds[j]?=some d'->∃n:Nat,n<=255/\d'= .v (.int .u8 n)/\(V.with W.heap.size (bytesRow ⟨⟨l⟩⟩ c).toList).cell W.heap.size (0+i*1+j)=some (.int .u8 n):=by
    intro i ds j d' hi hj;rw[z7] at hi;rcases C5 i l.length with hil|hil
    case inr=>rw[z6 hil] at hi;cases hi
    rw[t6 hil] at hi;cases hi;have hj0:j=0:=by
     cases j with
     |zero=>rfl
     |succ j=>simp at hj
    subst hj0;cases hj;refine⟨l[i].toNat,by have:=l[i].toNat_lt;omega,rfl,?_⟩;show(if W.heap.size=W.heap.size then(bytesRow ⟨⟨l⟩⟩ c).toList[0+i*1+0]? else _)=_;rw[d4 rfl,show 0+i*1+0=i by omega];exact hrow i hil
   have:=Rep.sl (V:=V.with W.heap.size (bytesRow ⟨⟨l⟩⟩ c).toList) W.heap.size 0 c 1 (byteCells l) (by rw[e1];exact hge) hle (by intro ds hd;obtain⟨b,_,rfl⟩:=v6.1 hd;rfl)
    (λi ds j d' hi hj=>by obtain⟨n,_,_,h⟩:=key i ds j d' hi hj;exact⟨_,h,rfl⟩)
    (λi ds j d' u hi hj hu=>by
      obtain⟨n,h1,rfl,h⟩:=key i ds j d' hi hj;rw[h] at hu;cases hu;exact Rep.int ⟨by omega,by omega⟩)
   rw[e1] at this;exact this
theorem b3C (hT:TOk P T){op:Op}{bs:List Base}(hreal:Real O bs)(h:a6z T O op bs kb):∃b',kb b'/\a3e P T O op bs b':=by
 unfold a6z at h;split at h
 case h_2=>exact h.elim
 rename_i ds hds;obtain⟨γ0,V0,W0,xs0,hs0,ho0,hv0⟩:=hreal;obtain⟨d,hk,hg⟩:=d0s (P:=P) hT h (a3X ho0 hds hv0);refine⟨_,hk,λγ V W O' xs ha hs ho hv o ρ hop hm=>?_⟩;have hq:a8s op=false:=by cases op<;>first|rfl|exact h.elim
 have hds':D8 O' bs=some ds:=(b4D λn hn=>ha n (a9M hn hq)).trans hds;obtain⟨v,hv1,hr⟩:=hg V xs (a3X ho hds' hv) o ρ hop hm;exact⟨v,V,W,hr W, .refl hs,hv1⟩
theorem d4J (hT:TOk P T){s d:TypeId}{x:Operand}{bs:List Base}(hreal:Real O bs)(h:b4L T O s d (.convert s d x) bs kb):∃b',kb b'/\a3e P T O (.convert s d x) bs b':=by
 unfold b4L at h;split at h
 . rename_i ts td b hts htd;split at h
   . rename_i e hds hdd;unfold c1o at h;split at h
     case h_2=>exact h.elim
     rename_i te hte;split at h
     case h_2=>exact h.elim
     rename_i hde;split at h
     case h_2=>exact h.elim
     rename_i xs hxs;obtain⟨l,rfl,h⟩:=h;refine⟨_,h,Reads.gives λγ V W O' ys ha hs ho hv ρ hm=>?_⟩;obtain⟨y,rfl,hy⟩:=v1 hv;have hxs':Y6 O' b=some (byteCells l):=(b0O λn hn=>ha n (a9M (by simp[hn]))).trans hxs;have hrep:=a3S ho hxs' hy;obtain⟨hrun,hlen⟩:=c3R (γ:=γ) hs hrep rfl ((hT.row hts).trans (by rw[hds])) ((hT.row hte).trans (by rw[hde])) ((hT.row htd).trans (by rw[hdd]));refine⟨_, .str l hlen,λdst ty pos af gd=>A5 ?_⟩;rw[o1 hm rfl];exact hrun
   . rename_i e hds hdd;exact d4H hT hts htd hds hdd h
   . exact b3C hT hreal h
 . exact b3C hT hreal h
theorem c1p (hT:TOk P T){op:Op}{bs:List Base}(hreal:Real O bs)(h:vcV T cf O op bs kb):∃b',kb b'/\a3e P T O op bs b':=by
 have lift:∀{op:Op} {bs:List Base},(∃b',kb b'/\Reads P T O op bs b')->∃b',kb b'/\a3e P T O op bs b':=λ⟨b',h1,h2⟩=>⟨b',h1,h2.gives⟩
 have mv:∀{x:Operand} {b:Base} {op:Op},(op= .move x\/op= .assign x)->Reads P T O op [b] b:=by
  intro x b op hop γ V W O' xs ha hs ho hv ρ hm;obtain⟨y,rfl,hy⟩:=v1 hv;rcases hop with rfl|rfl
  . exact⟨y,hy,λdst ty pos af gd=>by rw[show y=ρ x from(o1 (a:=x) (by simpa[Op.operands] using hm) rfl).symm];rfl⟩
  . exact⟨y,hy,λdst ty pos af gd=>by rw[show y=ρ x from(o1 (a:=x) (by simpa[Op.operands] using hm) rfl).symm];rfl⟩
 unfold vcV at h;split at h
 . split at h
   . exact lift ⟨_,h,mv (.inl rfl)⟩
   . exact h.elim
 . split at h
   . exact lift ⟨_,h,mv (.inr rfl)⟩
   . exact h.elim
 . split at h
   . exact lift (d4U h)
   . exact h.elim
 . split at h
   . exact lift (d4M hT h)
   . exact h.elim
 . split at h
   . exact lift (d4O hT h)
   . exact h.elim
 . split at h
   . exact lift (c1k hT h)
   . exact h.elim
 . rename_i x;split at h
   case h_2=>exact h.elim
   rename_i b;have nc:(∀{γ:Gm} {V:Know} {y:Value},RVb γ V b y->(∃a,y= .pointer (some a))\/∃F u w,y= .func (.func F) u w)->kb b->∃b',kb b'/\a3e P T O (.nilCheck x) [b] b':=by
    intro hy hk;refine lift ⟨b,hk,λγ V W O' xs ha hs ho hv ρ hm=>?_⟩;obtain⟨y,rfl,hyv⟩:=v1 hv;have e:=o1 (a:=x) (by simpa[Op.operands] using hm) rfl;refine⟨y,hyv,λdst ty pos af gd=>?_⟩;rcases hy hyv with⟨a,rfl⟩|⟨F,u,w,rfl⟩
    . simp[execOp,e]
    . simp[execOp,e]
   split at h
   . exact nc (λhy=>by obtain⟨_,_,rfl⟩:=hy;exact .inl ⟨_,rfl⟩) h
   . exact nc (λhy=>by obtain⟨_,_,_,_,rfl⟩:=hy;exact .inl ⟨_,rfl⟩) h
   . exact nc (λhy=>by obtain⟨_,_,rfl,_⟩:=hy;exact .inr ⟨_,_,_,rfl⟩) h
   . exact nc (λhy=>by cases hy;exact .inl ⟨_,rfl⟩) h
   . exact nc (λhy=>by cases hy;exact .inr ⟨_,_,_,rfl⟩) h
   . exact h.elim
 . exact lift (d4W hT hreal h)
 . split at h
   . exact lift (d4Q hT h)
   . exact h.elim
 . split at h
   case h_2=>exact h.elim
   split at h
   case h_2=>exact h.elim
   rename_i fs cs hf hc;split at h
   . rename_i f c hf' hc';exact lift ⟨_,h,c1j hf hc (.inr ⟨f,c,hf',hc',rfl⟩)⟩
   . exact lift ⟨_,h,c1j hf hc (.inl rfl)⟩
 . exact d4G hT h
 . split at h
   . exact lift (d4P hT hreal h)
   . exact h.elim
 . split at h
   . exact lift (c1l (mx:=true) h)
   . exact h.elim
 . split at h
   . exact lift (c1l (mx:=false) h)
   . exact h.elim
 . exact h.elim
 . exact d4J hT hreal h
 . exact b3C hT hreal h
end
theorem w9 {α:Type}(d:Nat)(x:α)(l:List (Nat×α)):d7 d ((d,x)::l)=some x:=by
 show cond (Nat.beq d d) _ _=_;rw[Z3];rfl
theorem p5 {α:Type}{d t:Nat}(h:d≠t)(x:α)(l:List (Nat×α)):d7 t ((d,x)::l)=d7 t l:=by
 show cond (Nat.beq d t) _ _=_;rw[show Nat.beq d t=false from by
  cases hb:Nat.beq d t with
  |false=>rfl
  |true=>exact absurd (t7 hb) h]
 rfl
theorem r7 {α:Type}(t:Nat):d7 t ([]:List (Nat×α))=none:=rfl
theorem Y3 {α:Type}{t:Nat}{x:α}:∀{l:List (Nat×α)},d7 t l=some x->(t,x)∈l:=by
 intro l;induction l with
 |nil=>intro h;rw[r7] at h;cases h
 | cons p l ih=>
   obtain⟨d,y⟩:=p;intro h;by_cases hd:d=t
   . subst hd;rw[w9] at h;obtain rfl:y=x:=by simpa using h
     simp
   . rw[p5 hd] at h;exact r6 _ (ih h)
theorem a8r {a:Act}{d t:Nat}{x:Value}(hd:d<a.tmps.size):(a.put (some d) x).tmps.getD t undef=if t=d then x else a.tmps.getD t undef:=by
 simp only[Act.put,a2i,Array.getElem?_setIfInBounds];by_cases h:d=t
 . subst h;simp[hd]
 . simp[h,Ne.symm h]
theorem put_size {a:Act}{d:Option Nat}{x:Value}:(a.put d x).tmps.size=a.tmps.size:=by cases d<;>simp[Act.put]
theorem b9B {a:Act}{d:Option Nat}{x:Value}:(a.put d x).defers=a.defers:=by cases d<;>simp[Act.put]
theorem a3y {a b:Nat}(h:Nat.beq a b=false):a≠b:=λe=>by rw[e,Z3] at h;cases h
theorem c3v {α:Type}{p:α->Bool}{l:List α}(h:l.any p=false){x:α}(hx:x∈l):p x=false:=by
 rw[List.any_eq_false] at h;have:=h x hx;cases hp:p x with
 |false=>rfl
 |true=>exact absurd hp this
theorem memB_mem {n:Nat}:∀{l:List Nat},w6 n l=true↔n∈l:=by
 intro l;induction l with
 |nil=>simp[w6]
 | cons x l ih=>
   simp only[w6];split
   . rename_i h;simp[t7 h]
   . rename_i h;rw[ih];simp[(a3y h).symm]
def J3 (γ:Gm)(n:Nat)(v:Value×Option Nat):Gm:=λt=>if t=n then v else γ t
theorem M3 (γ:Gm)(n:Nat)(v:Value×Option Nat):J3 γ n v n=v:=by simp[J3]
theorem M2 {γ:Gm}{n t:Nat}{v:Value×Option Nat}(h:t≠n):J3 γ n v t=γ t:=by simp[J3,h]
theorem CapR.mono {γ:Gm}{V V':Know}(hle:V.Le V'){c:Cap}{x:Value}(h:CapR γ V c x):CapR γ V' c x:=by
 cases c with
 |loc=>exact h
 |dat d=>exact Rep.mono hle h
theorem RVb.mono {γ:Gm}{V V':Know}(hle:V.Le V'){b:Base}{x:Value}(h:RVb γ V b x):RVb γ V' b x:=by
 cases b with
 |d x=>exact Rep.mono hle h
 |full xs=>exact⟨h.1.mono hle,h.2⟩
 | fn F fs cs=>
   obtain⟨us,ws,e,h1,h2⟩:=h;exact⟨us,ws,e,h1.imp λ_ _ _ h=>h.mono hle,h2.imp λ_ _ _ h=>h.mono hle⟩
 | ag p n q=>
   obtain⟨us,ws,e,h1,h2,h3⟩:=h;exact⟨us,ws,e,h1.mono hle,h2.mono hle,h3⟩
 | agl cs=>
   obtain⟨us,e,h1,h3⟩:=h;exact⟨us,e,h1.imp λ_ _ _ h=>h.mono hle,h3⟩
 |_=>exact h
theorem Vals.mono {γ:Gm}{V V':Know}(hle:V.Le V'){bs:List Base}{xs:List Value}(h:Vals γ V bs xs):Vals γ V' bs xs:=h.imp λ_ _ _ h=>RVb.mono hle h
theorem RVb.congr {γ γ':Gm}{V:Know}{b:Base}(hg:∀n,F6 n b=true->(γ' n).1=(γ n).1){x:Value}(h:RVb γ V b x):RVb γ' V b x:=by
 cases b with
 |d x=>exact h
 |full xs=>exact h
 |junk=>exact h
 |own n=>rw[show x=(γ n).1 from h];exact(hg n (Z3 n)).symm
 |loc n off=>simp only[RVb,hg n (Z3 n)];exact h
 |oel n k i r=>simp only[RVb,hg n (Z3 n)];exact h
 |win n k i r=>simp only[RVb,hg n (Z3 n)];exact h
 |ag p n q=>simp only[RVb,hg n (Z3 n)];exact h
 | agl cs=>
   obtain⟨us,e,h1,h3⟩:=h;have cap:∀c:Cap,(∀n,a2H n c=true->(γ' n).1=(γ n).1)->∀y,CapR γ V c y->CapR γ' V c y:=by
    intro c hc y hy;cases c with
    |loc n off=>simp only[CapR,hc n (Z3 n)];exact hy
    |dat d=>exact hy
   exact⟨us,e,h1.imp λc hc y hy=>cap c (λn hn=>hg n (N9.2 ⟨c,hc,hn⟩)) y hy,h3⟩
 | fn F fs cs=>
   obtain⟨us,ws,e,h1,h2⟩:=h;have cap:∀c:Cap,(∀n,a2H n c=true->(γ' n).1=(γ n).1)->∀y,CapR γ V c y->CapR γ' V c y:=by
    intro c hc y hy;cases c with
    |loc n off=>simp only[CapR,hc n (Z3 n)];exact hy
    |dat d=>exact hy
   refine⟨us,ws,e,h1.imp λc hc y hy=>cap c (λn hn=>hg n ?_) y hy,h2.imp λc hc y hy=>cap c (λn hn=>hg n ?_) y hy⟩
   . simp only[F6,C0];exact .inl (N9.2 ⟨c,hc,hn⟩)
   . simp only[F6,C0];exact .inr (N9.2 ⟨c,hc,hn⟩)
theorem RVb.upd {γ:Gm}{V:Know}{n:Nat}{v:Value×Option Nat}{b:Base}(hm:F6 n b=false){x:Value}(h:RVb γ V b x):RVb (J3 γ n v) V b x:=
 h.congr λm hm'=>by
  have:m≠n:=λe=>by rw[e,hm] at hm';cases hm'
  rw[M2 this]
section
variable {P:Program} {T:List (Nat×TI)} {C:Cx} {γ:Gm} {st:SSt} {V:Know} {a:Act} {W:World}
theorem L9 (hr:Rel C γ st V a W){d:Option Nat}(hd:∀t,d=some t->t<C.N){b:Base}{x:Value}(hv:RVb γ V b x):Rel C γ (put st d b) V (a.put d x) W:=by
 cases d with
 |none=>exact hr
 | some d=>
   have hlt:d<a.tmps.size:=by rw[hr.size];exact hd d rfl
   refine {hr with size:=put_size.trans hr.size,defers:=hr.defers.keep b9B λ_ h=>h,slots:=?_};intro t c hl;rw[a8r hlt];by_cases e:t=d
   . subst e;have hl:d7 t ((t,b)::st.L)=some c:=hl;rw[w9] at hl;cases hl;rw[d4 rfl];exact hv
   . have hl:d7 t ((d,b)::st.L)=some c:=hl;rw[p5 (Ne.symm e)] at hl;rw[c8 e];exact hr.slots t c hl
theorem R0 {w:World}{b:Nat}{o:Obj}(h:w.heap[b]?=some o):b<w.heap.size:=by
 rcases C5 b w.heap.size with h1|h1
 . exact h1
 . rw[a6S h1] at h;cases h
theorem I2 {v:Value×Option Nat}{b:Blk}(h:BlkOk γ V W v b){k:Nat}(hk:v.2=some k):k<W.heap.size:=by
 cases b with
 |box cells ty=>obtain⟨blk,cs,rfl,hh,_⟩:=h;cases hk;exact R0 hh
 | sl s=>
   rcases h with⟨g,n,c,vals,rfl,hown,_⟩|⟨_,h2,_⟩
   . cases hk;obtain⟨cur,_,hh,_⟩:=Q0 hown;exact R0 hh
   . rw[h2] at hk;cases hk
 |mp l=>obtain⟨r,es,clock,rfl,hh,_⟩:=h;cases hk;exact R0 hh
 |lp r g V0 pn=>obtain⟨⟨q,rfl,hh,_⟩,_⟩:=h;cases hk;exact R0 hh
 |pn g ns=>rw[h.1] at hk;cases hk
theorem b0B {v:Value×Option Nat}{b:Blk}(h:BlkOk γ V W v b){k:Nat}(hk:v.2=some k):W.heap[k]?≠some (.deferred (some [])):=by
 intro hd;cases b with
 |box cells ty=>obtain⟨blk,cs,rfl,hh,_⟩:=h;cases hk;rw[hh] at hd;cases hd
 | sl s=>
   rcases h with⟨g,n,c,vals,rfl,hown,_⟩|⟨_,h2,_⟩
   . cases hk;obtain⟨cur,_,hh,_⟩:=Q0 hown;rw[hh] at hd;cases hd
   . rw[h2] at hk;cases hk
 |mp l=>obtain⟨r,es,clock,rfl,hh,_⟩:=h;cases hk;rw[hh] at hd;cases hd
 |lp r g V0 pn=>obtain⟨⟨q,rfl,hh,_⟩,_⟩:=h;cases hk;rw[hh] at hd;cases hd
 |pn g ns=>rw[h.1] at hk;cases hk
theorem BlkOk.keep {W':World}{V':Know}{v:Value×Option Nat}{b:Blk}(h:BlkOk γ V W v b)(hle:V.Le V')(hh:∀k,v.2=some k->W'.heap[k]?=W.heap[k]?)
 (hc:∀k,v.2=some k->∀o u,V'.cell k o=some u->V.cell k o=some u) (ho:∀k,v.2=some k->∀u,V'.obj k=some u->V.obj k=some u):BlkOk γ V' W' v b:=by
 cases b with
 | box cells ty=>
   obtain⟨blk,cs,rfl,h1,h2,h3,h4⟩:=h;refine⟨blk,cs,rfl,(hh blk rfl).trans h1,h2.imp λ_ _ _ h=>h.mono hle,h3,λo=>?_⟩;cases hx:V'.cell blk o with
   |none=>rfl
   |some u=>have:=hc blk rfl o u hx;rw[h4] at this;cases this
 | sl s =>
   rcases h with⟨g,n,c,vals,rfl,hown,hk,hv,h1,hm⟩|⟨h1,h2,hkk,h3,h4⟩
   . refine .inl ⟨g,n,c,vals,rfl,?_,hk,hv.mono hle,h1,?_⟩
     . obtain⟨cur,hn,hg,rest⟩:=Q0 hown;refine⟨hown.1, .inr ⟨g,c,cur,by rw[hn],F4 _,(hh g rfl).trans hg,rest.1,rest.2.1,rest.2.2.1,rest.2.2.2.1⟩⟩
     . cases hp:s.pub with
       | true=>
         rw[hp] at hm;exact⟨λo u hu=>hm.1 o u (hc g rfl o u hu),λj u hj=>hle.cell _ _ _ (hm.2 j u hj)⟩
       | false=>
         rw[hp] at hm;intro o;cases hx:V'.cell g o with
         |none=>rfl
         |some u=>have:=hc g rfl o u hx;rw[hm] at this;cases this
   . exact .inr ⟨h1,h2,hkk,h3.mono hle,h4⟩
 | mp l=>
   obtain⟨r,es,clock,rfl,h1,h2,h3,h4,h5,h6⟩:=h;refine⟨r,es,clock,rfl,(hh r rfl).trans h1,?_,h3,h4,h5,λi e p hi hp=>(h6 i e p hi hp).mono hle⟩;cases hx:V'.obj r with
   |none=>rfl
   |some u=>have:=ho r rfl u hx;rw[h2] at this;cases this
 |pn g ns=>exact h
 | lp r g V0 pn=>
   obtain⟨⟨q,rfl,h1,h2,h3⟩,hl,hpn⟩:=h;refine⟨⟨q,rfl,(hh q rfl).trans h1,?_,λo=>?_⟩,hl.trans hle,hpn⟩
   . cases hx:V'.obj q with
     |none=>rfl
     |some u=>have:=ho q rfl u hx;rw[h2] at this;cases this
   . cases hx:V'.cell q o with
     |none=>rfl
     |some u=>have:=hc q rfl o u hx;rw[h3] at this;cases this
theorem Sees.lt (h:Sees V W){b o:Nat}{v:Value}(hc:V.cell b o=some v):b<W.heap.size:=World.block_lt_of_cell? W _ (h.cell _ _ _ hc)
theorem a1S (hr:Rel C γ st V a W){W':World}{V':Know}(hg:Grow V W V' W'):Rel C γ st V' a W':=by
 have hbelow:BelowX C.lent C.B0 W W':=⟨hg.below.os,hg.below.tape,hg.below.output,hg.below.size,λk hk _=>hg.below.block k (a7n hk hr.bsize)⟩
 refine {hr with defers:=hr.defers.keep rfl λk h=>(hg.below.block k (R0 h)).trans h,slots:=λt b h=>(hr.slots t b h).mono hg.fresh.le,own:=?_,sees:=hg.sees,fresh:=?_,below:=hr.below.trans hbelow,bsize:=H8 hr.bsize hg.below.size}
 . intro n b hl;have hb:=hr.own n b hl;refine hb.keep hg.fresh.le (λk hk=>hg.below.block k (I2 hb hk)) (λk hk o u hu=>?_) (λk hk u hu=>?_)
   . have:=I2 hb hk;rcases hg.fresh.cell k o u hu with h|h|h
     . exact h
     . simp at h
     . omega
   . have:=I2 hb hk;rcases hg.fresh.obj k u hu with h|h|h
     . exact h
     . simp at h
     . omega
 . exact hr.fresh.trans hg.fresh hr.bsize (λk hk=>by simp at hk)
theorem c8Y {n:Nat}{cells:List Base}{ty:TypeId}(h:a1P n (.box cells ty)=false){b:Base}(hb:b∈cells):F6 n b=false:=c3v h hb
theorem BlkOk.gamma {v:Value×Option Nat}{b:Blk}{n:Nat}{u:Value×Option Nat}(hm:a1P n b=false)(h:BlkOk γ V W v b):BlkOk (J3 γ n u) V W v b:=by
 cases b with
 | box cells ty=>
   obtain⟨blk,cs,rfl,h1,h2,h3,h4⟩:=h;exact⟨blk,cs,rfl,h1,h2.imp λb hb _ h=>h.upd (c8Y hm hb),h3,h4⟩
 |sl s=>exact h
 |mp l=>exact h
 |pn g ns=>exact⟨h.1,λm hmm=>by rw[M2 (λe=>by subst e;rw[show a1P m (.pn g ns)=w6 m ns from rfl,memB_mem.2 hmm] at hm;cases hm)];exact h.2 m hmm⟩
 |lp r g V0 pn=>exact⟨h.1,h.2.1,λm hmm=>⟨by rw[M2 (λe=>by subst e;rw[show a1P m (.lp r g V0 pn)=w6 m pn from rfl,memB_mem.2 hmm] at hm;cases hm)];exact(h.2.2 m hmm).1,(h.2.2 m hmm).2⟩⟩
theorem b6q {n:Nat}(hc:F9 n st=true){t:Nat}{b:Base}(h:d7 t st.L=some b):F6 n b=false:=by
 simp only[F9,f0,b9c] at hc;have:=n7.1 hc.1 _ (Y3 h);simpa using this
theorem b2d {n:Nat}(hc:F9 n st=true){t:Nat}{b:Blk}(h:d7 t st.O=some b):t≠n/\a1P n b=false:=by
 simp only[F9,f0,b9d] at hc;have:=n7.1 hc.2.1 _ (Y3 h);simp only[f0,a3d] at this;exact⟨a3y this.1,this.2⟩
theorem b6p {n:Nat}(hc:F9 n st=true):n∉st.pins:=by
 simp only[F9,f0,a3d] at hc;intro h;rw[memB_mem.2 h] at hc;exact absurd hc.2.2 (by simp)
theorem a4Z (hr:Rel C γ st V a W){n:Nat}{v:Value×Option Nat}{b:Blk}(hc:F9 n st=true)(hm:a1P n b=false)(hb:BlkOk γ V W v b)(hok:∀k,v.2=some k->Okb C k)
 (hi:∀n' b',d7 n' st.O=some b'->∀k,v.2=some k->(γ n').2≠some k):Rel C (J3 γ n v) {st with O:=(n,b)::st.O} V a W:=by
 refine {hr with slots:=λt c h=>(hr.slots t c h).upd (b6q hc h),own:=?_,okb:=?_,inj:=?_,pin:=?_}
 . intro m c hl;by_cases e:m=n
   . subst e;rw[w9] at hl;cases hl;rw[M3];exact hb.gamma hm
   . rw[p5 (Ne.symm e)] at hl;rw[M2 e];exact(hr.own m c hl).gamma (b2d hc hl).2
 . intro m c hl k hk;by_cases e:m=n
   . subst e;rw[M3] at hk;exact hok k hk
   . rw[p5 (Ne.symm e)] at hl;rw[M2 e] at hk;exact hr.okb m c hl k hk
 . intro m m' c c' hl hl' hne k hk;by_cases e:m=n
   . subst e;rw[M3] at hk;rw[p5 hne] at hl';rw[M2 (Ne.symm hne)];exact hi m' c' hl' k hk
   . rw [p5 (Ne.symm e)] at hl;rw[M2 e] at hk;by_cases e':m'=n
     . subst e';rw[M3];intro hk';exact hi m c hl k hk' hk
     . rw[p5 (Ne.symm e')] at hl';rw[M2 e'];exact hr.inj m m' c c' hl hl' hne k hk
 . intro m hm';rw[M2 (λe=>b6p hc (by rw[<-e];exact hm'))];exact hr.pin m hm'
theorem a9s (W:World)(o:Obj):Below W.heap.size W (W.alloc o):=(Below.refl _ _).alloc (p0 _) o
theorem a7v (hs:Sees V W)(o:Obj):Grow V W V (W.alloc o):=by
 refine⟨a9s W o,Fresh.refl V _ _,⟨λb o' v h=>?_,λr x h=>?_,hs.lib,hs.keepRow λb _ v h=>(a9s W o).block b (hs.lt h)⟩⟩
 . exact((a9s W o).cell (p:=⟨b,o',none⟩) (hs.lt h)).trans (hs.cell b o' v h)
 . obtain⟨h1,h2⟩:=hs.obj r x h;exact⟨((a9s W o).block r (R0 h1)).trans h1,h2⟩
theorem d1b (hr:Rel C γ st V a W){n:Nat}{v:Value×Option Nat}{b:Blk}{o:Obj}(hc:F9 n st=true)(hm:a1P n b=false)(hv:v.2=some W.heap.size)(hb:BlkOk γ V (W.alloc o) v b):
 Rel C (J3 γ n v) {st with O:=(n,b)::st.O} V a (W.alloc o):=by
 refine a4Z (a1S hr (a7v hr.sees o)) hc hm hb (λk hk=>?_) (λn' b' hl k hk hk'=>?_)
 . rw[hv] at hk;cases hk;exact .inr hr.bsize
 . rw[hv] at hk;cases hk;have:=I2 (hr.own n' b' hl) hk';omega
theorem a0N (hr:Rel C γ st V a W){L':List (Nat×Base)}{O':List (Nat×Blk)}(hL:∀t b,d7 t L'=some b->RVb γ V b (a.tmps.getD t undef))
 (hO:∀n x,d7 n O'=some x->BlkOk γ V W (γ n) x/\∃y,d7 n st.O=some y):Rel C γ {st with L:=L',O:=O'} V a W:=
 { hr with slots:=hL,own:=λn x h=>(hO n x h).1,okb:=λn x h k hk=>let ⟨_,y,hy⟩:=hO n x h;hr.okb n y hy k hk,
           inj:=λn n' x x' h h' hne k hk=>let ⟨_,y,hy⟩:=hO n x h;let ⟨_,y',hy'⟩:=hO n' x' h';hr.inj n n' y y' hy hy' hne k hk}
def a2G (h:Base->Base)(q:Nat->Bool)(x:Blk):Blk:=match x with| .box cells ty=> .box (cells.map h) ty| .pn g ns=> .pn g (ns.filter λm=> !q m)|x=>x
theorem b3d {h:Base->Base}:∀{l:List Base} {k:List Base->Prop},a3M h l k->k (l.map h):=by
 intro l;induction l with
 |nil=>intro k hk;exact hk
 |cons b l ih=>intro k hk;simp only[a3M] at hk;have:=ih hk;rw[a7N] at this;exact this
theorem a4P {h:Base->Base}:∀{l:List (Nat×Base)} {k:List (Nat×Base)->Prop},a0d h l k->∃l',k l'/\∀t b,d7 t l'=some b->∃b0,d7 t l=some b0/\b=h b0:=by
 intro l;induction l with
 |nil=>intro k hk;exact⟨[],hk,λt b h=>by rw[r7] at h;cases h⟩
 | cons p l ih=>
   obtain⟨d,y⟩:=p;intro k hk;simp only[a0d] at hk;obtain⟨l',hk,hl⟩:=ih hk;rw[a7N] at hk;refine⟨_,hk,λt b hb=>?_⟩;by_cases e:d=t
   . subst e;rw[w9] at hb;cases hb;exact⟨y,w9 ..,rfl⟩
   . rw[p5 e] at hb;rw[p5 e];exact hl t b hb
theorem a4Q {n:Nat}{h:Base->Base}:∀{l:List (Nat×Blk)} {k:List (Nat×Blk)->Prop},a0e n h l k->∃l',k l'/\∀t x,d7 t l'=some x->t≠n/\∃y,d7 t l=some y/\x=a2G h (λm=>Nat.beq m n) y:=by
 intro l;induction l with
 |nil=>intro k hk;exact⟨[],hk,λt b h=>by rw[r7] at h;cases h⟩
 | cons p l ih=>
   obtain⟨d,y⟩:=p;intro k hk;simp only[a0e] at hk;obtain⟨l',hk,hl⟩:=ih hk;have rest:∀t x,d7 t l'=some x->d≠t->t≠n/\∃y',d7 t ((d,y)::l)=some y'/\x=a2G h (λm=>Nat.beq m n) y':=by
    intro t x hx e;rw[p5 e];exact hl t x hx
   split at hk
   . rename_i hdn;have hdn:=t7 hdn;refine⟨l',hk,λt x hx=>?_⟩;obtain⟨h1,h2⟩:=hl t x hx;exact rest t x hx (λe=>h1 (by rw[<-e,hdn]))
   . rename_i hdn;have hdn:=a3y hdn;have fin:∀z,z=a2G h (λm=>Nat.beq m n) y->∀t x,d7 t ((d,z)::l')=some x->t≠n/\∃y',d7 t ((d,y)::l)=some y'/\x=a2G h (λm=>Nat.beq m n) y':=by
      intro z hz t x hx;by_cases e:d=t
      . subst e;rw[w9] at hx;cases hx;exact⟨hdn,y,w9 ..,hz⟩
      . rw[p5 e] at hx;exact rest t x hx e
     split at hk
     . exact⟨_,b3d hk,fin _ rfl⟩
     . exact⟨_,hk,fin _ rfl⟩
     . rename_i hne hne2;refine⟨_,hk,fin _ ?_⟩;cases y with
       |box cells ty=>exact absurd rfl (hne cells ty)
       |pn g ns=>exact absurd rfl (hne2 g ns)
       |_=>rfl
theorem a1U {n:Nat}{b:Blk}:∀{l:List (Nat×Blk)} {k:List (Nat×Blk)->Prop},M0 n b l k->∃l',k l'/\∀t x,d7 t l'=some x->(t=n/\x=b/\∃y,d7 n l=some y)\/(t≠n/\d7 t l=some x):=by
 intro l;induction l with
 |nil=>intro k hk;exact⟨[],hk,λt b h=>by rw[r7] at h;cases h⟩
 | cons p l ih=>
   obtain⟨d,y⟩:=p;intro k hk;simp only[M0] at hk;split at hk
   . rename_i hdn;have hdn:=t7 hdn;subst hdn;refine⟨_,hk,λt x hx=>?_⟩;by_cases e:d=t
     . subst e;rw[w9] at hx;cases hx;exact .inl ⟨rfl,rfl,y,w9 ..⟩
     . rw[p5 e] at hx;rw[p5 e];exact .inr ⟨Ne.symm e,hx⟩
   . rename_i hdn;have hdn:=a3y hdn;obtain⟨l',hk,hl⟩:=ih hk;refine⟨_,hk,λt x hx=>?_⟩;by_cases e:d=t
     . subst e;rw[w9] at hx;cases hx;exact .inr ⟨hdn,w9 ..⟩
     . rw[p5 e] at hx;rw[p5 e,p5 hdn];exact hl t x hx
theorem a8v (hr:Rel C γ st V a W){V':Know}{n:Nat}{b0:Blk}{g:Nat}(hn:d7 n st.O=some b0)(hg:(γ n).2=some g)(hle:V.Le V')(hs:Sees V' W)
 (hc:∀b o u,V'.cell b o=some u->V.cell b o=some u\/b=g) (ho:∀r x,V'.obj r=some x->V.obj r=some x\/r=g)
 {L':List (Nat×Base)} {O':List (Nat×Blk)} (hL:∀t b,d7 t L'=some b->RVb γ V' b (a.tmps.getD t undef))
 (hO:∀m x,d7 m O'=some x->(m=n/\BlkOk γ V' W (γ n) x)\/(m≠n/\∃y,d7 m st.O=some y/\(BlkOk γ V' W (γ m) y->BlkOk γ V' W (γ m) x))):Rel C γ {st with L:=L',O:=O'} V' a W:=by
 have hgo:=hr.okb n b0 hn g hg;refine {hr with slots:=hL,own:=?_,okb:=?_,inj:=?_,sees:=hs,fresh:=?_}
 . intro m x hx;rcases hO m x hx with⟨rfl,h⟩|⟨hne,y,hy,h⟩
   . exact h
   . have hb:=hr.own m y hy;have hng:∀k,(γ m).2=some k->k≠g:=λk hk e=>hr.inj m n y b0 hy hn hne k hk (by rw[hg,e]);refine h (hb.keep hle (λ_ _=>rfl) (λk hk o u hu=>?_) (λk hk u hu=>?_))
     . exact(hc k o u hu).resolve_right (hng k hk)
     . exact(ho k u hu).resolve_right (hng k hk)
 . intro m x hx k hk;rcases hO m x hx with⟨rfl,_⟩|⟨_,y,hy,_⟩
   . exact hr.okb _ b0 hn k hk
   . exact hr.okb m y hy k hk
 . intro m m' x x' hx hx' hne k hk;have ex:∀{m x},d7 m O'=some x->∃y,d7 m st.O=some y:=by
    intro m x hx;rcases hO m x hx with⟨rfl,_⟩|⟨_,y,hy,_⟩
    . exact⟨b0,hn⟩
    . exact⟨y,hy⟩
   obtain⟨y,hy⟩:=ex hx;obtain⟨y',hy'⟩:=ex hx';exact hr.inj m m' y y' hy hy' hne k hk
 . refine ⟨hr.fresh.le.trans hle,λb o u hu=>?_,λr x hx=>?_⟩
   . rcases hc b o u hu with h|rfl
     . exact hr.fresh.cell b o u h
     . exact .inr hgo
   . rcases ho r x hx with h|rfl
     . exact hr.fresh.obj r x h
     . exact .inr hgo
theorem a2f {g:Nat}{cs:List Value}(h:∀o u,V.cell g o=some u->cs[o]?=some u):V.Le (V.with g cs):=by
 refine⟨λb o v hv=>?_,λr x h=>h⟩;show(if b=g then cs[o]? else V.cell b o)=some v;split
 . rename_i e;subst e;exact h o v hv
 . exact hv
theorem a6O (hs:Sees V W){g:Nat}{cs:List Value}(hle:V.Le (V.with g cs))(h:∀(j:Nat) u,cs[j]?=some u->W.cell? ⟨g,j,none⟩=some u):Sees (V.with g cs) W:=by
 refine⟨λb o v hv=>?_,hs.obj,hs.lib.mono hle,hs.row⟩;change (if b=g then cs[o]? else V.cell b o)=some v at hv
 split at hv
 . rename_i e;subst e;exact h o v hv
 . exact hs.cell b o v hv
theorem a4b {g:Nat}{cs:List Value}:∀b o u,(V.with g cs).cell b o=some u->V.cell b o=some u\/b=g:=by
 intro b o u hu;change (if b=g then cs[o]? else V.cell b o)=some u at hu
 split at hu
 . rename_i e;exact .inr e
 . exact .inl hu
theorem d1e (hr:Rel C γ st V a W){n:Nat}{s:OwnS}(hn:d7 n st.O=some (.sl s)){k:List (Nat×Blk)->Prop}(h:M0 n (.sl {s with pub:=true}) st.O k):
 ∃O' V',k O'/\Rel C γ {st with O:=O'} V' a W/\V.Le V':=by
 obtain⟨O',hk,hO⟩:=a1U h;rcases hr.own n _ hn with⟨g,m,c,vals,hv,hown,hkk,hvr,h1,hm⟩|⟨hp,h2,hkk,h3,h4⟩
 . have hcells:=hown.cells (g:=g) (by rw[hv];rfl);have hsub:∀o u,V.cell g o=some u->vals[o]?=some u:=by
    intro o u hu;cases hp:s.pub with
    | true=>
      rw[hp] at hm;have hlt:=hm.1 o u hu;have:=hm.2 o _ (t6 hlt);rw[hu] at this;rw[t6 hlt];exact this.symm
    |false=>rw[hp] at hm;rw[hm] at hu;cases hu
   have hle:=a2f hsub;refine⟨O',V.with g vals,hk,a8v hr hn (by rw[hv]) hle (a6O hr.sees hle λj u hj=>by have:=hcells j u hj;rwa[T0,F3] at this) a4b (λr x h=> .inl h)
    (λt b hb=>(hr.slots t b hb).mono hle) (λm' x hx=>?_),hle⟩
   rcases hO m' x hx with⟨rfl,rfl,_⟩|⟨hne,hl⟩
   . refine .inl ⟨rfl, .inl ⟨g,m,c,vals,hv,hown,hkk,hvr.mono hle,h1,⟨λo u hu=>?_,λj u hj=>?_⟩⟩⟩
     . change (if g=g then vals[o]? else _)=some u at hu
       rw[d4 rfl] at hu;rcases C5 o vals.length with h|h
       . exact h
       . rw[z6 h] at hu;cases hu
     . show(if g=g then vals[j]? else _)=some u;rw[d4 rfl];exact hj
   . exact .inr ⟨hne,x,hl,id⟩
 . refine⟨O',V,hk,a0N hr hr.slots (λm' x hx=>?_), .refl V⟩;rcases hO m' x hx with⟨rfl,rfl,_⟩|⟨hne,hl⟩
   . exact⟨.inr ⟨.inl rfl,h2,hkk,h3,h4⟩,_,hn⟩
   . exact⟨hr.own m' x hl,x,hl⟩
theorem b0Y {n:Nat}{f:Nat->D}{g:D}(hf:∀off x,(∃blk,(γ n).1= .pointer (some ⟨blk,0,none⟩)/\x= .pointer (some ⟨blk,off,none⟩))->Rep V x (f off))(hg:(∀blk,(γ n).1≠ .pointer (some ⟨blk,0,none⟩))->Rep V (γ n).1 g)
 (hkind:(∃blk,(γ n).1= .pointer (some ⟨blk,0,none⟩))->g= .junk) {b:Base} {x:Value} (hx:RVb γ V b x):RVb γ V (D7 n f g b) x:=by
 have cap:∀{c:Cap} {y:Value},CapR γ V c y->CapR γ V (a6F n f c) y:=by
  intro c y hy;cases c with
  |dat d=>exact hy
  | loc m off=>
    simp only[a6F];split
    . rename_i e;obtain rfl:=t7 e;exact hf off y hy
    . exact hy
 have caps:∀{l:List Cap} {us:List Value},All2 (CapR γ V) l us->All2 (CapR γ V) (l.map (a6F n f)) us:=by
  intro l us h;refine⟨by simp[h.len],λi c y hc hy=>?_⟩;simp only[z7] at hc;cases hl:l[i]? with
  |none=>simp[hl] at hc
  | some c0=>
    simp only[hl,G9,H0] at hc;subst hc;exact cap (h.get i c0 y hl hy)
 cases b with
 | loc m off=>
   simp only[D7];split
   . rename_i e;obtain rfl:=t7 e;exact hf off x hx
   . exact hx
 | own m=>
   simp only[D7];split
   . rename_i e;obtain rfl:=t7 e;rw[show x=(γ m).1 from hx];by_cases hp:∃blk,(γ m).1= .pointer (some ⟨blk,0,none⟩)
     . rw[hkind hp];exact .junk _
     . exact hg (λblk e=>hp ⟨blk,e⟩)
   . exact hx
 | oel m k i r=>
   simp only[D7];split
   . trivial
   . exact hx
 | win m k i r=>
   simp only[D7];split
   . trivial
   . exact hx
 | ag p m q=>
   simp only[D7];split
   . rename_i e;obtain rfl:=t7 e;obtain⟨us,ws,rfl,h1,h2,h3⟩:=hx;have hgr:Rep V (γ m).1 g:=by
      by_cases hp:∃blk,(γ m).1= .pointer (some ⟨blk,0,none⟩)
      . rw[hkind hp];exact .junk _
      . exact hg (λblk e=>hp ⟨blk,e⟩)
     have hr:=h1.append (Reps.cons hgr h2);exact .agg _ _ hr.len h3 hr.get
   . exact hx
 | agl cs=>
   obtain⟨us,e,h1,h3⟩:=hx;exact⟨us,e,caps h1,h3⟩
 | fn F fs cs=>
   obtain⟨us,ws,e,h1,h2⟩:=hx;exact⟨us,ws,e,caps h1,caps h2⟩
 |d y=>exact hx
 |full xs=>exact hx
 |junk=>exact hx
theorem c8F {h:Base->Base}(hh:∀b x,RVb γ V b x->RVb γ V (h b) x){q:Nat->Bool}{v:Value×Option Nat}{y:Blk}(hy:BlkOk γ V W v y):BlkOk γ V W v (a2G h q y):=by
 cases y with
 |pn g ns=>exact⟨hy.1,λm hm=>hy.2 m ((a5E.1 hm).1)⟩
 | box cells ty=>
   obtain⟨blk,cs,e,h1,h2,h3,h4⟩:=hy;refine⟨blk,cs,e,h1,⟨by simp[h2.len],λi b x hb hx=>?_⟩,h3,h4⟩;simp only[z7] at hb;cases hl:cells[i]? with
   |none=>simp[hl] at hb
   | some b0=>
     simp only[hl,G9,H0] at hb;subst hb;exact hh _ _ (h2.get i b0 x hl hx)
 |_=>exact hy
theorem d1c (hr:Rel C γ st V a W){n:Nat}{cells:List Base}{ty:TypeId}(hn:d7 n st.O=some (.box cells ty)){ds:List D}(hds:D8 st.O cells=some ds)
 {k:SSt->Prop} (h:a0d (D7 n (λoff=> .ptr ds off) .junk) st.L λL'=>a0e n (D7 n (λoff=> .ptr ds off) .junk) st.O λO'=>k {st with L:=L',O:=O'}):
 ∃st' V',k st'/\Rel C γ st' V' a W/\V.Le V'/\∀b x,RVb γ V b x->RVb γ V' (D7 n (λoff=> .ptr ds off) .junk b) x:=by
 obtain⟨L',h,hL⟩:=a4P h;obtain⟨O',h,hO⟩:=a4Q h;obtain⟨blk,cs,hv,hh,hc,h1,hnone⟩:=hr.own n _ hn;have hle:V.Le (V.with blk cs.toList):=a2f λo u hu=>by rw[hnone] at hu;cases hu
 have hreps:=(a3X hr.own hds hc).mono hle;have sub:∀b x,RVb γ V b x->RVb γ (V.with blk cs.toList) (D7 n (λoff=> .ptr ds off) .junk b) x:=by
  intro b x hx;refine b0Y (λoff y hy=>?_) (λhne=>absurd (by rw[hv]) (hne blk)) (λ_=>rfl) (hx.mono hle);obtain⟨blk',e,rfl⟩:=hy;rw[hv] at e;obtain rfl:blk=blk':=by simpa using e
  have hcell:∀(j:Nat) u,cs.toList[j]?=some u->(V.with blk cs.toList).cell blk j=some u:=λj u hj=>by
   show(if blk=blk then cs.toList[j]? else _)=some u;rw[d4 rfl];exact hj
  have:=Rep.ptr (V:=V.with blk cs.toList) blk 0 ds off (λj d hj=>by
   obtain⟨u,hu,_⟩:=hreps.at hj;exact⟨u,by rw[F3];exact hcell j u hu,h1 u (M6 hu)⟩) (λj d u hj hu=>by
   obtain⟨u',hu',hr'⟩:=hreps.at hj;rw[F3,hcell j u' hu'] at hu;cases hu;exact hr')
  rwa[F3] at this
 refine⟨_,V.with blk cs.toList,h,a8v hr hn (by rw[hv]) hle (a6O hr.sees hle λj u hj=>by simp only[World.cell?,hh];simpa using hj) a4b (λr x h=> .inl h) (λt b hb=>?_) (λm x hx=>?_),hle,sub⟩
 . obtain⟨b0,hb0,rfl⟩:=hL t b hb;exact sub b0 _ (hr.slots t b0 hb0)
 . obtain ⟨hne,y,hy,rfl⟩:=hO m x hx;refine .inr ⟨hne,y,hy,λhyok=>?_⟩;have hy0:=hr.own m y hy;cases y with
   | box cells' ty'=>
     obtain⟨blk',cs',e',g1,g2,g3,g4⟩:=hyok;obtain⟨blk'',cs'',e'',q1,q2,q3,q4⟩:=hy0;rw[e''] at e';obtain rfl:blk''=blk':=by simpa using e'
     rw[q1] at g1;obtain rfl:cs''=cs':=by simpa using g1
     refine⟨blk'',cs'',e'',q1,⟨by simp[q2.len],λi b x hb hx=>?_⟩,q3,g4⟩;simp only[z7] at hb;cases hl:cells'[i]? with
     |none=>simp[hl] at hb
     | some b0=>
       simp only[hl,G9,H0] at hb;subst hb;exact sub _ _ (q2.get i b0 x hl hx)
   |pn g ns=>exact⟨hyok.1,λm hm=>hyok.2 m (a5E.1 hm).1⟩
   |_=>exact hyok
theorem d1d (hr:Rel C γ st V a W){n:Nat}{l:List (D×D)}(hn:d7 n st.O=some (.mp l))
 {k:SSt->Prop} (h:a0d (D7 n (λ_=> .junk) (.mp l)) st.L λL'=>a0e n (D7 n (λ_=> .junk) (.mp l)) st.O λO'=>k {st with L:=L',O:=O'}):
 ∃st' V',k st'/\Rel C γ st' V' a W/\V.Le V'/\∀b x,RVb γ V b x->RVb γ V' (D7 n (λ_=> .junk) (.mp l) b) x:=by
 obtain⟨L',h,hL⟩:=a4P h;obtain⟨O',h,hO⟩:=a4Q h;obtain⟨r,es,clock,hv,hh,hnone,hmok,hlen,hkey,hrep⟩:=hr.own n _ hn;let V':Know:={V with obj:=λq=>if q=r then some (.map es clock) else V.obj q}
 have hle:V.Le V':=by
  refine⟨λ_ _ _ h=>h,λq x hx=>?_⟩;show(if q=r then _ else V.obj q)=some x;split
  . rename_i e;subst e;rw[hnone] at hx;cases hx
  . exact hx
 have hobj:V'.obj r=some (.map es clock):=by show(if r=r then _ else _)=_;rw[d4 rfl]
 have hrm:Rep V' (γ n).1 (.mp l):=by
  rw[hv];exact .mp r clock es l hobj hmok hlen hkey (λi e p hi hp=>(hrep i e p hi hp).mono hle)
 have sub:∀b x,RVb γ V b x->RVb γ V' (D7 n (λ_=> .junk) (.mp l) b) x:=by
  intro b x hx;refine b0Y (λoff y hy=> .junk _) (λ_=>hrm) (λhp=>?_) (hx.mono hle);obtain⟨blk,e⟩:=hp;rw[hv] at e;cases e
 have hsees:Sees V' W:=by
  refine⟨hr.sees.cell,λq x hx=>?_,hr.sees.lib.mono hle,hr.sees.row⟩;change (if q=r then _ else V.obj q)=some x at hx
  split at hx
  . rename_i e;subst e;cases hx;exact⟨hh,_,_,rfl⟩
  . exact hr.sees.obj q x hx
 refine⟨_,V',h,a8v hr hn (by rw[hv]) hle hsees (λ_ _ _ h=> .inl h) (λq x hx=>?_) (λt b hb=>?_) (λm x hx=>?_),hle,sub⟩
 . change (if q=r then _ else V.obj q)=some x at hx
   split at hx
   . rename_i e;exact .inr e
   . exact .inl hx
 . obtain⟨b0,hb0,rfl⟩:=hL t b hb;exact sub b0 _ (hr.slots t b0 hb0)
 . obtain ⟨hne,y,hy,rfl⟩:=hO m x hx;refine .inr ⟨hne,y,hy,λhyok=>?_⟩;have hy0:=hr.own m y hy;cases y with
   | box cells' ty'=>
     obtain⟨blk',cs',e',g1,g2,g3,g4⟩:=hyok;obtain⟨blk'',cs'',e'',q1,q2,q3,q4⟩:=hy0;rw[e''] at e';obtain rfl:blk''=blk':=by simpa using e'
     rw[q1] at g1;obtain rfl:cs''=cs':=by simpa using g1
     refine⟨blk'',cs'',e'',q1,⟨by simp[q2.len],λi b x hb hx=>?_⟩,q3,g4⟩;simp only[z7] at hb;cases hl:cells'[i]? with
     |none=>simp[hl] at hb
     | some b0=>
       simp only[hl,G9,H0] at hb;subst hb;exact sub _ _ (q2.get i b0 x hl hx)
   |pn g ns=>exact⟨hyok.1,λm hm=>hyok.2 m (a5E.1 hm).1⟩
   |_=>exact hyok
end
end Go.Proofs.YteillnfhkeebjaaGreatDoor.Dx
