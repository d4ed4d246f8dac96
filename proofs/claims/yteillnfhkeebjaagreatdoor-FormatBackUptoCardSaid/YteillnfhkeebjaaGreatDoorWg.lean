/- The. -/
import Derived.Test.YteillnfhkeebjaaGreatDoorWf
import Derived.Deep.LoopGhost
import Derived.Laws.Cover3
import Derived.Laws.StructEq
import Derived.WideKeyRuns
set_option linter.all false
namespace Go.Proofs.YteillnfhkeebjaaGreatDoor.Dx
open Go Go.RowKit
noncomputable def c1q (st:SSt)(dst:Option Nat)(bs:List Base)(k:SSt->Prop):Prop:=
 match bs with
 |[.d (.v (.int .i64 x)), .d (.v (.int .i64 y))]=>k (put st dst (.d (.v (.int .i64 (IntKind.i64.wrap (x+y))))))
 |_=>False
noncomputable def a8J (O:List (Nat×Blk)):List Base->(List D->Prop)->Prop
 |[],k=>k []
 | b :: bs,k=>match b with
   | .loc n off=>match off with
     | 0 =>match d7 n O with
       | some (.box _ _)=>match d7 (n+5000) O with
         | some (.pn g ns)=>match w6 n ns with
           |true=>a8J O bs λds=>k (.raw (g n).1::ds)
           |false=>False
         |_=>False
       |_=>False
     |_+1=>False
   | .d d=>a8J O bs λds=>k (d::ds)
   |_=>False
theorem b4r {O:List (Nat×Blk)}{γ:Gm}{V:Know}{W:World}(ho:A2 γ V W O):∀{bs:List Base} {xs:List Value} {k:List D->Prop},a8J O bs k->Vals γ V bs xs->∃ds,k ds/\Reps V xs ds
 |[],xs,k,h,hx=>⟨[],h,by rw[hx.nil_l];exact .nil V⟩
 | b ::bs,xs,k,h,hx=>by
   obtain⟨x,xs',rfl,h1,h2⟩:=hx.cons_l;simp only[a8J] at h;split at h
   . rename_i n off;split at h
     case h_2=>exact h.elim
     split at h
     case h_2=>exact h.elim
     rename_i cells ty hb;split at h
     case h_2=>exact h.elim
     rename_i g ns hp;split at h
     case h_2=>exact h.elim
     rename_i hm;obtain⟨ds,hk,hr⟩:=b4r ho h h2;refine⟨_,hk, .cons ?_ hr⟩;obtain⟨blk,cs,e,_⟩:=ho _ _ hb;have hg:=(ho _ _ hp).2 _ (b0r hm);obtain⟨blk',e1,e2⟩:=h1;have ex:x=(g n).1:=by rw[<-hg,e1];exact e2
     rw[ex];exact .raw _ (by rw[<-hg,e];rfl)
   . rename_i d;obtain⟨ds,hk,hr⟩:=b4r ho h h2;exact⟨_,hk, .cons h1 hr⟩
   . exact h.elim
def a9X (d:TypeDesc):Bool:=match d with| .slice _=>true|_=>false
theorem b7a {P:Program}{T:List (Nat×TI)}(hT:TOk P T){ty:TypeId}(h:a0B T ty a9X=true):∃e,P.underlying ty=some (.slice e):=by
 unfold a0B at h;split at h
 . rename_i ti ht;have:=hT.row ht;unfold a9X at h;split at h
   . rename_i e;exact⟨_,by rw[this,e]⟩
   . cases h
 . cases h
noncomputable def b0t (O:List (Nat×Blk))(b:Base):Option Bool:=
 match b with
 | .d (.raw (.slice none _ _))=>some true
 | .d (.sl (_::_))=>some false
 | .full (_::_)=>some false
 | .own n=>match d7 n O with
   | some (.sl s)=>match s.xs with
     |_::_=>some false
     |[]=>none
   |_=>none
 |_=>none
theorem b4e {V:Know}{x:Value}{d:List D}{ds:List (List D)}(h:Rep V x (.sl (d::ds))):∃a n c,x= .slice (some a) n c:=by
 generalize he:D.sl (d::ds)=q at h;cases h<;>cases he;exact⟨_,_,_,rfl⟩
theorem b9a {O:List (Nat×Blk)}{γ:Gm}{V:Know}{W:World}(ho:A2 γ V W O){b:Base}{v:Bool}{x:Value}(h:b0t O b=some v)(hx:RVb γ V b x):∃a n c,x= .slice a n c/\a.isNone=v:=by
 unfold b0t at h;split at h
 . cases h;cases hx;exact⟨_,_,_,rfl,rfl⟩
 . cases h;obtain⟨a,n,c,rfl⟩:=b4e hx;exact⟨_,_,_,rfl,rfl⟩
 . cases h;obtain⟨a,n,c,rfl⟩:=b4e hx.1;exact⟨_,_,_,rfl,rfl⟩
 . split at h
   case h_2=>cases h
   rename_i m s hs;split at h
   case h_2=>cases h
   rename_i y ys hys;cases h;rw[show x=(γ _).1 from hx];rcases ho _ _ hs with⟨g,m,c,vals,e,_⟩|⟨_,_,_,hr,_⟩
   . rw[e];exact⟨_,_,_,rfl,rfl⟩
   . rw[hys] at hr;obtain⟨a,n,c,e⟩:=b4e hr;rw[e];exact⟨_,_,_,rfl,rfl⟩
 . cases h
theorem c5T {P:Program}(W:World){t e:TypeId}(a:Option Addr)(l c:Nat)(h:P.underlying t=some (.slice e)):(binOp .eql t (.slice a l c) (.slice none 0 0)).run P W= .ok (.bool a.isNone) W:=by
 simp only[binOp];simp[run_equal_slice_nil W t e a l c h]
theorem c9v {P:Program}(W:World){t e:TypeId}(a:Option Addr)(l c:Nat)(h:P.underlying t=some (.slice e)):(binOp .neq t (.slice a l c) (.slice none 0 0)).run P W= .ok (.bool (!a.isNone)) W:=by
 simp only[binOp];simp[run_equal_slice_nil W t e a l c h]
theorem b7r {P:Program}{W:World}(o:BinOp)(ty:TypeId)(x y:Operand)(a a':Option Addr)(n n' c c':Nat):
 (eqGuard o ty x y (.slice a n c) (.slice a' n' c')).run P W= .ok () W:=by cases o<;>simp[eqGuard]
noncomputable def vcS (P:Program)(T:List (Nat×TI))(cf:Cfg)(op:Op)(dst:Option Nat)(bs:List Base)(st:SSt)(k:SSt->Prop)(kp:D->SSt->Prop):Prop:=
 match op with
 | .box ty _=>match d7 ty T,bs with
   | some ti,[b]=>match a4w st.O b with
     | some cs=>match Nat.beq cs.length ti.size with
       |true=>a2z cs λcs=>a4V cf.nm st dst ty cs k
       |false=>False
     |none=>False
   |_,_=>False
 | .alloc ty=>match d7 ty T with
   | some ti=>match b1o (cellsL ti.zero) with
     |some cs=>a2z cs λcs=>a4V cf.nm st dst ty cs k
     |none=>False
   |none=>False
 | .store ty _ _=>match dst,bs with
   |none,[ad,x]=>b4X T cf st ty ad x k
   |_,_=>False
 | .buildSlice t len parts=>match(match dst with|some d=>w6 d cf.priv|none=>false) with
   |true=>a7Y T st.O t len (parts.toList.map (·.1)) bs λe sz xs=>a0J cf.nm st dst (.sl ⟨e,sz,xs,false⟩) k
   |false=>vcP T cf op dst bs st k
 | .build ty parts=>match(match dst with|some d=>w6 d cf.priv|none=>false) with
   | true=>match dOf bs with
     |some _=>b4G T st dst ty parts bs k
     |none=>b1i true T st dst ty parts bs k
   | false=>match D8 st.O bs with
     |some _=>vcP T cf op dst bs st k
     |none=>b1i false T st dst ty parts bs k
 | .slice ty _ none (some _) none=>match bs with
   | [b,hi]=>match(match dst with|some d=>w6 d cf.priv|none=>false) with
     |true=>b4Y T st dst ty b hi k
     |false=>vcP T cf op dst bs st k
   |_=>False
 | .binOp .add _ _ _ _=>match(match dst with|some d=>w6 d cf.priv|none=>false) with
   |true=>c1q st dst bs k
   |false=>vcP T cf op dst bs st k
 | .binOp .eql ty _ (.const (.slice none 0 0)) _=>match bs with
   | [x,_]=>match a0B T ty a9X,b0t st.O x with
     |true,some b=>k (put st dst (.d (.bl b)))
     |_,_=>vcP T cf op dst bs st k
   |_=>False
 | .binOp .neq ty _ (.const (.slice none 0 0)) _=>match bs with
   | [x,_]=>match a0B T ty a9X,b0t st.O x with
     | true,some b=>match b with
       |true=>k (put st dst (.d (.bl false)))
       |false=>k (put st dst (.d (.bl true)))
     |_,_=>vcP T cf op dst bs st k
   |_=>False
 | .makeFunc (.func F) first _=>match(match dst with|some d=>w6 d cf.priv|none=>false) with
   |true=>a8J st.O bs λds=>Z9 (ds.take first.size) λfs=>Z9 (ds.drop first.size) λcs=>k (put st dst (.d (.fn F fs cs)))
   |false=>vcP T cf op dst bs st k
 | .makeMap _ r=>match r with
   |none=>a0J cf.nm st dst (.mp []) k
   |some _=>False
 | .convert t t' _=>match Nat.beq t t',bs with
   |true,[.own n]=>b4M T st dst t n k
   |_,_=>vcP T cf op dst bs st k
 | .mapUpdate t _ _ _=>match dst,bs with
   |none,[m,kx,x]=>b1l T st t m kx x k
   |_,_=>False
 | .insert t _ _ _=>match dst,bs with
   |none,[m,kx,x]=>b1l T st t m kx x k
   |_,_=>False
 | .call {callee:= .builtin .append,args:=⟨[_,_]⟩,argTypes:=⟨[ts,tx]⟩}=>match bs with
   |[s,x]=>b4F T cf st dst ts tx s x k
   |_=>False
 | .call {callee:= .builtin .copy,args:=⟨[_,_]⟩,argTypes:=⟨[td,_]⟩}=>match bs with
   |[d,s]=>b4N T st dst td d s k
   |_=>False
 | .makeSlice t _ _=>match bs with
   |[bl,bc]=>b4T T cf.nm st dst t bl bc k
   |_=>False
 | .call {callee:= .builtin _, .. }=>vcP T cf op dst bs st k
 | .call c=>b4J P cf st dst c bs k kp
 | .panic _=>a2v st bs λds st=>match ds with
   |[.iface t d]=>kp (.iface t d) st
   |_=>False
 |op=>vcP T cf op dst bs st k
noncomputable def a6L (P:Program)(T:List (Nat×TI))(N:Nat)(cf:Cfg)(all:Array Oper)(o:Oper)(st:SSt)(k:SSt->Prop)(kp:D->SSt->Prop):Prop:=
 match(match o.dst with|some d=>Nat.blt d N|none=>true) with
 |false=>False
 | true => match o.guard with
   |none=>Q9 st o.op.operands.toList λbs=>vcS P T cf o.op o.dst bs st k kp
   | some (j,w)=>match(all[j]?).bind (·.dst) with
     |none=>False
     | some c=>match d7 c st.L with
       | some (.d (.bl b))=>match b,w with
         |true,true=>Q9 st o.op.operands.toList λbs=>vcS P T cf o.op o.dst bs st k kp
         |false,false=>Q9 st o.op.operands.toList λbs=>vcS P T cf o.op o.dst bs st k kp
         |true,false=>k (put st o.dst (.d (.tup [])))
         |false,true=>k (put st o.dst (.d (.tup [])))
       | some (.d (.v (.bool b)))=>match Nat.blt c N with
         |false=>False
         |true=>
         (b=true->match w with
           |true=>Q9 (put st (some c) (.d (.bl true))) o.op.operands.toList λbs=>vcS P T cf o.op o.dst bs (put st (some c) (.d (.bl true))) k kp
           |false=>k (put (put st (some c) (.d (.bl true))) o.dst (.d (.tup []))))/\
         (b=false->match w with
           |true=>k (put (put st (some c) (.d (.bl false))) o.dst (.d (.tup [])))
           |false=>Q9 (put st (some c) (.d (.bl false))) o.op.operands.toList λbs=>vcS P T cf o.op o.dst bs (put st (some c) (.d (.bl false))) k kp)
       |some (.d (.tup []))=>k (put st o.dst (.d (.tup [])))
       |_=>False
noncomputable def a3Z (P:Program)(T:List (Nat×TI))(N:Nat)(cf:Cfg)(all:Array Oper)(kp:D->SSt->Prop):List Oper->SSt->(SSt->Prop)->Prop
 |[],st,k=>k st
 |o::rest,st,k=>a6L P T N cf all o st (λst=>a2N st λst=>a3Z P T N cf all kp rest st k) kp
inductive Ex where
 |nrm
 |ret
 |exit (n:Nat)
 |pan (d:D)
abbrev E6:=Ex->SSt->Prop
def LiftQ (C:Cx)(Q:E6):Exit->Act->World->Prop
 | .normal,a,W=>∃γ st V,Rel C γ st V a W/\Q .nrm st
 | .ret,a,W=>∃γ st V,Rel C γ st V a W/\Q .ret st
 | .exit n,a,W=>∃γ st V,Rel C γ st V a W/\Q (.exit n) st
 | .panic ch,a,W=>∃γ st V v d,ch=[{v,recovered:=false}]/\Rep V v d/\Rel C γ st V a W/\Q (.pan d) st
 |_,_,_=>False
structure J (P:Program) (C:Cx) (c:Code) (Q:E6) (st:SSt):Prop where
 run:∀γ V a W,Rel C γ st V a W->c.wpIn (fen C) 0 P (LiftQ C Q) a W
def b3U (st:SSt)(c:Operand)(b:Bool):SSt:=
 match c with
 | .tmp t=>⟨(t, .d (.bl b))::st.L,st.O,st.pins⟩
 |_=>st
noncomputable def vcC (P:Program)(T:List (Nat×TI))(C:Cx)(cf:Cfg):Code->E6->SSt->Prop
 | .skip,Q,st=>Q .nrm st
 | .ret,Q,st=>Q .ret st
 | .exit n,Q,st=>Q (.exit n) st
 | .seq x y,Q,st=>vcC P T C cf x (λe st=>match e with| .nrm=>J P C y Q st| .ret=>Q .ret st| .exit n=>Q (.exit n) st| .pan d=>Q (.pan d) st) st
 | .cond c x y,Q,st=>a1i st c λb=>match b with
   | .d (.bl b)=>match b with
     |true=>J P C x Q st
     |false=>J P C y Q st
   | .d (.v (.bool b))=>(b=true->J P C x Q (b3U st c true))/\(b=false->J P C y Q (b3U st c false))
   |_=>False
 | .block id c,Q,st=>vcC P T C cf c (λe st=>match e with
   | .exit n=>match Nat.beq n id with
     |true=>Q .nrm st
     |false=>Q (.exit n) st
   | .nrm=>Q .nrm st
   | .ret=>Q .ret st
   | .pan d=>Q (.pan d) st) st
 | .region id ops draw,Q,st=>match draw with
   |false=>a3Z P T C.N cf ops (λd st=>Q (.pan d) st) ops.toList st λst=>Q .nrm st
   |true=>J P C (.region id ops true) Q st
 | .loop c,Q,st=>J P C (.loop c) Q st
 | .rangeFunc f ps x y,Q,st=>J P C (.rangeFunc f ps x y) Q st
 | .scope c,Q,st=>J P C (.scope c) Q st
 | .label l,Q,st=>J P C (.label l) Q st
 | .goto l,Q,st=>J P C (.goto l) Q st
 | .refuse w,Q,st=>J P C (.refuse w) Q st
section
variable {P:Program} {T:List (Nat×TI)} {cf:Cfg} {C:Cx} {γ:Gm} {st:SSt} {V:Know} {a:Act} {W:World} {k:SSt->Prop} {kp:D->SSt->Prop} {next:Act->World->Prop} {Q:Exit->Act->World->Prop} {o:Oper}
theorem R3 {v:Value}{W':World}(h:(execOp a.eval o).run P W= .ok (.value v) W')(hn:next (a.put o.dst v) W'):opw C P o a W next Q:=by
 exact a8p h (b0v h rfl) rfl hn
theorem b5a {W':World}(h:(execOp a.eval o).run P W= .ok .skip W')(hn:next (a.put o.dst undef) W'):opw C P o a W next Q:=by
 exact a8p h (b0v h rfl) rfl hn
theorem b3L {s:Sem Unit}{W W':World}(h:s.run P W= .ok () W'):(do s;pure Next.skip:Sem Next).run P W= .ok .skip W':=
 (r4 P W _ _).trans (by rw[h];rfl)
theorem a2b (hT:TOk P T)(hr:Rel C γ st V a W){bs:List Base}(hx:Vals γ V bs (o.op.operands.toList.map a.eval))(hd:∀t,o.dst=some t->t<C.N)(h:vcP T cf o.op o.dst bs st k)(hn:Nx C k next):opw C P o a W next Q:=by
 obtain⟨v,V',W',st',hrun,hk,hr'⟩:=d4T hT hr hx hd h;exact R3 hrun (hn _ _ _ _ _ hr' hk)
theorem d4V (hT:TOk P T)(hr:Rel C γ st V a W)(hd:∀t,o.dst=some t->t<C.N){bs:List Base}(hx:Vals γ V bs (o.op.operands.toList.map a.eval))(h:vcS P T cf o.op o.dst bs st k kp)(hn:Nx C k next)(hp:NxP C kp Q):opw C P o a W next Q:=by
 obtain⟨dst,op,ty,pos,af,gd⟩:=o;simp only at hd hx h;unfold vcS at h;split at h
 . rename_i ety x;split at h
   case h_2=>exact h.elim
   rename_i ti b hti;obtain⟨xv,hxl,hxv⟩:=v1 hx;have e:=o1 (a:=x) (by simpa[Op.operands] using hxl) rfl;split at h
   case h_2=>exact h.elim
   rename_i cs hcs;split at h
   case h_2=>exact h.elim
   rename_i hlen;rw[a7O] at h;obtain⟨hc1,hc2⟩:=b1Y hcs hr.own hxv;obtain⟨γ',st',hk,hr'⟩:=b8X hr hd h hc1 hc2;refine R3 (v:= .pointer (some ⟨W.heap.size,0,none⟩)) (A5 ?_) (hn _ _ _ _ _ hr' hk);have e':a.eval x=xv:=by simpa[Op.operands] using hxl
   have hsz:xv.cells.size=ti.size:=by
    rw[<-t7 hlen,hc1.len,<-cellsL_eq];simp
   simp[Instr.box,e',b8Y,hT.sizeOf hti]
 . rename_i ety;split at h
   case h_2=>exact h.elim
   rename_i ti hti;split at h
   case h_2=>exact h.elim
   rename_i cs hcs;rw[a7O] at h;obtain⟨hc1,hc2⟩:=d5A γ V hcs;obtain⟨γ',st',hk,hr'⟩:=b8X hr hd h hc1 hc2;refine R3 (v:= .pointer (some ⟨W.heap.size,0,none⟩)) (A5 ?_) (hn _ _ _ _ _ hr' hk);simp[Instr.alloc,hT.zeroValue hti,b8Y]
 . rename_i sty ad x;split at h
   case h_2=>exact h.elim
   rename_i adb xb;obtain⟨av,xv,hxl,h1,h2⟩:=v2 hx;have e:a.eval ad=av/\a.eval x=xv:=by simpa[Op.operands] using hxl
   obtain⟨γ',st',W',hrun,hr',hk⟩:=d4X hT hr h1 h2 h;refine b5a (b3L ?_) (hn _ _ _ _ _ hr' hk);rw[e.1,e.2];exact hrun
 . rename_i t len parts;split at h
   . obtain⟨e,sz,xs,hk,hl,hlm,hds,hrun⟩:=b8C hT h;obtain⟨vals,g1,g2,g3,hr'⟩:=hrun γ V W st.O _ (λ_ _=>rfl) hr.own hx;have hrel:=a1S hr (a7v hr.sees (.cells vals.toArray e));have hown:=World.ownsRow_lit (base:=0) (e:=e) (size:=sz) W vals.toArray len (F4 _) hlm (by simpa using g3);obtain⟨γ',st',hk',hr2⟩:=a6s hrel hd (λn=>rfl) hk (v:=(.slice (some ⟨W.heap.size,0,none⟩) len len,some W.heap.size)) (.inl ⟨W.heap.size,len,len,vals,rfl,by rw[hl];simpa using hown,hds,g1,g2,λo=>by
      cases hc:V.cell W.heap.size o with
      |none=>rfl
      |some u=>have:=hr.sees.lt hc;omega⟩) (λq hq=>by cases hq;exact .inr hr.bsize) (λn' b' hl q hq hq'=>by
      cases hq;have:=I2 (hr.own n' b' hl) hq';omega)
     exact R3 (A5 (hr' a.eval rfl)) (hn _ _ _ _ _ hr2 hk')
   . exact a2b (o:=⟨dst, .buildSlice t len parts,ty,pos,af,gd⟩) hT hr hx hd h hn
 . rename_i bty parts;split at h
   . split at h
     . obtain⟨v,st',hrun,hk,hr'⟩:=d4F hT hr hd hx h;exact R3 (v:=v) (A5 hrun) (hn _ _ _ _ _ hr' hk)
     . obtain⟨v,st',hrun,hk,hr'⟩:=c1e hT hr hd hx h;exact R3 (v:=v) (A5 hrun) (hn _ _ _ _ _ hr' hk)
   . split at h
     . exact a2b (o:=⟨dst, .build bty parts,ty,pos,af,gd⟩) hT hr hx hd h hn
     . obtain⟨v,st',hrun,hk,hr'⟩:=c1e hT hr hd hx h;exact R3 (v:=v) (A5 hrun) (hn _ _ _ _ _ hr' hk)
 . rename_i sty sx sh;split at h
   case h_2=>exact h.elim
   rename_i b hi;split at h
   . obtain⟨xv,hv,hxl,h1,h2⟩:=v2 hx;have e:a.eval sx=xv/\a.eval sh=hv:=by simpa[Op.operands] using hxl
     obtain⟨v,γ',st',hrun,hk,hr'⟩:=d4Y hT hr hd h1 h2 h;exact R3 (v:=v) (A5 (by simpa[e.1,e.2] using hrun)) (hn _ _ _ _ _ hr' hk)
   . exact a2b (o:=⟨dst, .slice sty sx none (some sh) none,ty,pos,af,gd⟩) hT hr hx hd h hn
 . rename_i bty sx sy rt;split at h
   . unfold c1q at h;split at h
     case h_2=>exact h.elim
     rename_i x y;obtain⟨xv,yv,hxl,h1,h2⟩:=v2 hx;have e:a.eval sx=xv/\a.eval sy=yv:=by simpa[Op.operands] using hxl
     have e1:xv= .int .i64 x:=(Rep.int_inv h1).1;have e2:yv= .int .i64 y:=(Rep.int_inv h2).1;have hrun:(execOp a.eval ⟨dst, .binOp .add bty sx sy rt,ty,pos,af,gd⟩).run P W= .ok (.value (.int .i64 (IntKind.i64.wrap (x+y)))) W:=by
      refine A5 ?_;simp only[e.1,e.2,e1,e2,r4,b7o,r8];simp[binOp,Op.intArith]
     exact R3 hrun (hn _ _ _ _ _ (L9 (b:= .d (.v (.int .i64 (IntKind.i64.wrap (x+y))))) hr hd (Rep.int (b2K _ _))) h)
   . exact a2b (o:=⟨dst, .binOp .add bty sx sy rt,ty,pos,af,gd⟩) hT hr hx hd h hn
 . rename_i bty sx rt;split at h
   case h_2=>exact h.elim
   rename_i bx by_;split at h
   . rename_i b hd1 hn1;obtain⟨xv,yv,hxl,h1,h2⟩:=v2 hx;have e:a.eval sx=xv/\a.eval (.const (.slice none 0 0))=yv:=by simpa[Op.operands] using hxl
     obtain⟨ad,n,c,e1,hb⟩:=b9a hr.own hn1 h1;obtain⟨te,hu⟩:=b7a hT hd1;have e2:a.eval sx= .slice ad n c:=e.1.trans e1;have e3:a.eval (.const (.slice none 0 0))= .slice none 0 0:=rfl;refine R3 (v:= .bool b) (A5 ?_) (hn _ _ _ _ _ (L9 (b:= .d (.bl b)) hr hd (Rep.bl b)) h);simp only[e2,e3,r4,b7r,r8];rw[c5T W ad n c hu,hb]
   . exact a2b (o:=⟨dst, .binOp .eql bty sx (.const (.slice none 0 0)) rt,ty,pos,af,gd⟩) hT hr hx hd h hn
 . rename_i bty sx rt;split at h
   case h_2=>exact h.elim
   rename_i bx by_;split at h
   . rename_i b hd1 hn1;obtain⟨xv,yv,hxl,h1,h2⟩:=v2 hx;have e:a.eval sx=xv/\a.eval (.const (.slice none 0 0))=yv:=by simpa[Op.operands] using hxl
     obtain⟨ad,n,c,e1,hb⟩:=b9a hr.own hn1 h1;obtain⟨te,hu⟩:=b7a hT hd1;have e2:a.eval sx= .slice ad n c:=e.1.trans e1;have e3:a.eval (.const (.slice none 0 0))= .slice none 0 0:=rfl;have hk:k (put st dst (.d (.bl (!b)))):=by cases b<;>exact h
     refine R3 (v:= .bool (!b)) (A5 ?_) (hn _ _ _ _ _ (L9 (b:= .d (.bl (!b))) hr hd (Rep.bl _)) hk);simp only[e2,e3,r4,b7r,r8];rw[c9v W ad n c hu,hb]
   . exact a2b (o:=⟨dst, .binOp .neq bty sx (.const (.slice none 0 0)) rt,ty,pos,af,gd⟩) hT hr hx hd h hn
 . rename_i F first captured
   split at h
   . obtain⟨ds,h,hrep⟩:=b4r hr.own h hx;rw[a3I,a3I] at h;generalize hxs:(Op.makeFunc (.func F) first captured).operands.toList.map a.eval=xs at hrep;have hm':xs=first.toList.map a.eval++captured.toList.map a.eval:=by rw[<-hxs];simp[Op.operands]
     have e1:first.map a.eval=⟨xs.take first.size⟩:=by
      apply a0R.1;rw[hm',a1z];exact(List.take_left' (by simp)).symm
     have e2:captured.map a.eval=⟨xs.drop first.size⟩:=by
      apply a0R.1;rw[hm',a1z];exact(List.drop_left' (by simp)).symm
     have r1:=hrep.take first.size
     have r2:=hrep.drop first.size
     exact R3 (v:= .func (.func F) ⟨xs.take first.size⟩ ⟨xs.drop first.size⟩) (by simp[execOp,Instr.makeFunc,e1,e2]) (hn _ _ _ _ _ (L9 (b:= .d (.fn F (ds.take first.size) (ds.drop first.size))) hr hd (Rep.fn F _ _ _ _ r1.len r2.len r1.get r2.get)) h)
   . exact a2b (o:=⟨dst, .makeFunc (.func F) first captured,ty,pos,af,gd⟩) hT hr hx hd h hn
 . rename_i t r;split at h
   case h_2=>exact h.elim
   obtain⟨γ',st',hk,hr'⟩:=c9w hr hd h;exact R3 (v:= .map (some W.heap.size)) (A5 (by simp[Instr.makeMap])) (hn _ _ _ _ _ hr' hk)
 . rename_i t t' x;split at h
   . rename_i n hb;obtain⟨xv,hxl,hxv⟩:=v1 hx;have e:a.eval x=xv:=by simpa[Op.operands] using hxl
     have e2:xv=(γ n).1:=hxv;obtain⟨v,W',st',V',hrun,hr',hk⟩:=d4K hT hr hd h;obtain rfl:=t7 hb;refine R3 (v:=v) (A5 ?_) (hn _ _ _ _ _ hr' hk);rw[e,e2];exact hrun
   . exact a2b (o:=⟨dst, .convert t t' x,ty,pos,af,gd⟩) hT hr hx hd h hn
 . rename_i t m kx x;split at h
   case h_2=>exact h.elim
   obtain⟨mv,kv,xv,hxl,h1,h2,h3⟩:=v3 hx;have e:a.eval m=mv/\a.eval kx=kv/\a.eval x=xv:=by simpa[Op.operands] using hxl
   obtain⟨st',W',hrun,hr',hk⟩:=c1m hT hr h1 h2 h3 h;refine b5a (b3L ?_) (hn _ _ _ _ _ hr' hk);rw[e.1,e.2.1,e.2.2];exact hrun
 . rename_i t m kx x;split at h
   case h_2=>exact h.elim
   obtain⟨mv,kv,xv,hxl,h1,h2,h3⟩:=v3 hx;have e:a.eval m=mv/\a.eval kx=kv/\a.eval x=xv:=by simpa[Op.operands] using hxl
   obtain⟨st',W',hrun,hr',hk⟩:=c1m hT hr h1 h2 h3 h;refine b5a (b3L ?_) (hn _ _ _ _ _ hr' hk);rw[e.1,e.2.1,e.2.2];exact hrun
 . rename_i s x ts tx;split at h
   case h_2=>exact h.elim
   obtain⟨sv,xv,hxl,h1,h2⟩:=v2 hx;have e:a.eval s=sv/\a.eval x=xv:=by simpa[Op.operands,Call.operands] using hxl
   obtain⟨v,W',γ',st',V',hrun,hk,hr'⟩:=d4E (rt:=ty) hT hr hd h1 h2 h;refine R3 (v:=v) ?_ (hn _ _ _ _ _ hr' hk);simp[execOp,resolve,invoke,builtin,e.1,e.2,hrun]
 . rename_i s x td tx;split at h
   case h_2=>exact h.elim
   obtain⟨sv,xv,hxl,h1,h2⟩:=v2 hx;have e:a.eval s=sv/\a.eval x=xv:=by simpa[Op.operands,Call.operands] using hxl
   obtain⟨v,W',st',hrun,hk,hr'⟩:=d4L (ts:=tx) (rt:=ty) hT hr hd h1 h2 h;refine R3 (v:=v) ?_ (hn _ _ _ _ _ hr' hk);simp[execOp,resolve,invoke,builtin,e.1,e.2,hrun]
 . rename_i t l c;split at h
   case h_2=>exact h.elim
   obtain⟨lv,cv,hxl,h1,h2⟩:=v2 hx;have e:a.eval l=lv/\a.eval c=cv:=by simpa[Op.operands] using hxl
   obtain⟨v,W',γ',st',hrun,hk,hr'⟩:=d4R hT hr hd h1 h2 h;refine R3 (v:=v) (A5 ?_) (hn _ _ _ _ _ hr' hk);rw[e.1,e.2];exact hrun
 . rename_i b args ats _ _;exact a2b (o:=⟨dst, .call {callee:= .builtin b,args:=args,argTypes:=ats},ty,pos,af,gd⟩) hT hr hx hd h hn
 . rename_i c _ _ _;exact d4I (o:=⟨dst, .call c,ty,pos,af,gd⟩) hr hd rfl hx h hn hp
 . rename_i x;obtain⟨ds,st',V',h,hr',hreps,hle⟩:=a5Y hr hx h;split at h
   case h_2=>exact h.elim
   rename_i t d;obtain⟨v,hxl,hv⟩:=hreps.one;have e:a.eval x=v:=by simpa[Op.operands] using hxl
   cases hv with
   | iface _ y _ hy=>
     have:(execOp a.eval ⟨dst, .panic x,ty,pos,af,gd⟩).run P W= .halt (.panic (.iface t y)) W:=by
      simp[execOp,Instr.panic,e]
     exact a8p this (λc h=>by cases h) rfl (hp _ _ _ _ _ _ _ hr' (.iface t y d hy) h)
 . exact a2b (o:=⟨dst,_,ty,pos,af,gd⟩) hT hr hx hd h hn
theorem c1b (V:Know):Rep V undef (.tup []):= .tup [] [] rfl (λi u d h=>by simp at h)
theorem c1n (hT:TOk P T)(hr:Rel C γ st V a W){all:Array Oper}(h:a6L P T C.N cf all o st k kp)(hn:Nx C k next)(hp:NxP C kp Q):
 if Region.wanted o (yielded all a.tmps)=true then opw C P o a W next Q else next (a.put o.dst undef) W:=by
 unfold a6L at h;split at h
 . exact h.elim
 rename_i hN;have hd:∀t,o.dst=some t->t<C.N:=by
  intro t ht;rw[ht] at hN;exact X2 hN
 have go:∀{st:SSt},Rel C γ st V a W->Q9 st o.op.operands.toList (λbs=>vcS P T cf o.op o.dst bs st k kp)->opw C P o a W next Q:=by
  intro st hr h;obtain⟨bs,h,hx⟩:=b7P hr.slots _ h;exact d4V hT hr hd hx h hn hp
 have skip:∀{st:SSt},Rel C γ st V a W->k (put st o.dst (.d (.tup [])))->next (a.put o.dst undef) W:=λhr h=>hn _ _ _ _ _ (L9 hr hd (show RVb γ V (.d (.tup [])) undef from c1b V)) h
 split at h
 . rename_i hg;rw[d4 (by simp[Region.wanted,hg])];exact go hr h
 . rename_i j w hg;split at h
   . exact h.elim
   rename_i c hc;have hwant:Region.wanted o (yielded all a.tmps)=true↔a.tmps.getD c undef= .bool w:=by
    simp only[Region.wanted,hg,yielded,hc,Option.bind_some,beq_iff_eq,a2i];cases hx:a.tmps[c]? with
    |none=>simp[undef]
    |some x=>cases x<;>simp
   have cut:∀{b:Bool},a.tmps.getD c undef= .bool b->(b=w/\Region.wanted o (yielded all a.tmps)=true)\/(b≠w/\¬Region.wanted o (yielded all a.tmps)=true):=by
    intro b hb;by_cases e:b=w
    . exact .inl ⟨e,hwant.2 (by rw[hb,e])⟩
    . exact .inr ⟨e,λh=>e (by have:=hwant.1 h;rw[hb] at this;cases this;rfl)⟩
   split at h
   . rename_i b hl;have hb:=Rep.bl_b (hr.slots c _ hl);rcases cut hb with⟨rfl,hw⟩|⟨hne,hw⟩
     . rw[d4 hw];cases b
       . exact go hr h
       . exact go hr h
     . rw[c8 hw];cases b<;>cases w
       . exact absurd rfl hne
       . exact skip hr h
       . exact skip hr h
       . exact absurd rfl hne
   . rename_i b hl;split at h
     . exact h.elim
     rename_i hcN;have hcN:c<a.tmps.size:=by rw[hr.size];exact X2 hcN
     have hb:=(Rep.v_inv (hr.slots c _ hl)).1;have hr2:∀{bb:Bool},b=bb->Rel C γ (put st (some c) (.d (.bl bb))) V a W:=by
      intro bb e;subst e;refine a0N hr (L':=(c, .d (.bl b))::st.L) (O':=st.O) (λt x hx=>?_) (λn x hx=>⟨hr.own n x hx,x,hx⟩);by_cases e:t=c
      . subst e;rw[w9] at hx;cases hx;rw[hb];exact .bl b
      . rw[p5 (Ne.symm e)] at hx;exact hr.slots t x hx
     obtain⟨h1,h2⟩:=h;rcases cut hb with⟨rfl,hw⟩|⟨hne,hw⟩
     . rw[d4 hw];cases b
       . exact go (hr2 rfl) (h2 rfl)
       . exact go (hr2 rfl) (h1 rfl)
     . rw[c8 hw];cases b<;>cases w
       . exact absurd rfl hne
       . exact skip (hr2 rfl) (h2 rfl)
       . exact skip (hr2 rfl) (h1 rfl)
       . exact absurd rfl hne
   . rename_i hl;have hb:Rep V (a.tmps.getD c undef) (.tup []):=hr.slots c _ hl;obtain⟨us,e,hu⟩:=hb.tup_inv;rw[c8 (λh=>by have:=hwant.1 h;rw[e] at this;cases this)];exact skip hr h
   . exact h.elim
theorem d4S (hT:TOk P T){all:Array Oper}:∀(l:List Oper) {γ:Gm} {st:SSt} {V:Know} {a:Act} {W:World},Rel C γ st V a W->a3Z P T C.N cf all kp l st k->NxP C kp Q->
 (∀γ' st' V' a' W',Rel C γ' st' V' a' W'->k st'->Q .normal a' W')->wpListIn (fen C) 0 P all Q l a W:=by
 intro l;induction l with
 |nil=>intro γ st V a W hr h _ hn;exact hn _ _ _ _ _ hr h
 | cons o l ih=>
   intro γ st V a W hr h hp hn;simp only[a3Z] at h;have:=c1n (next:=λa W=>wpListIn (fen C) 0 P all Q l a W) (Q:=Q) hT hr h (λγ' st' V' a' W' hr' hk=>by
    rw[a3P] at hk;exact ih hr' hk hp hn) hp
   unfold wpListIn;split at this
   . rename_i hw;rw[d4 hw];exact this.2
   . rename_i hw;rw[c8 hw];exact⟨λ_ _=>trivial,this⟩
theorem LiftQ.mono {Q Q':E6}(h:∀e st,Q e st->Q' e st){e:Exit}{a:Act}{W:World}(hq:LiftQ C Q e a W):LiftQ C Q' e a W:=by
 cases e with
 |normal=>obtain⟨γ,st,V,h1,h2⟩:=hq;exact⟨γ,st,V,h1,h _ _ h2⟩
 |ret=>obtain⟨γ,st,V,h1,h2⟩:=hq;exact⟨γ,st,V,h1,h _ _ h2⟩
 |exit n=>obtain⟨γ,st,V,h1,h2⟩:=hq;exact⟨γ,st,V,h1,h _ _ h2⟩
 |panic c=>obtain⟨γ,st,V,v,d,h1,h2,h3,h4⟩:=hq;exact⟨γ,st,V,v,d,h1,h2,h3,h _ _ h4⟩
 |goto l=>exact hq.elim
 |outgrown=>exact hq.elim
theorem b9N (hr:Rel C γ st V a W){c:Operand}{b:Bool}(hb:a.eval c= .bool b):Rel C γ (b3U st c b) V a W:=by
 cases c with
 | tmp t=>
   refine a0N hr (L':=(t, .d (.bl b))::st.L) (O':=st.O) (λs x hx=>?_) (λn x hx=>⟨hr.own n x hx,x,hx⟩);by_cases e:s=t
   . subst e;rw[w9] at hx;cases hx;have:a.tmps.getD s undef= .bool b:=hb;rw[this];exact .bl b
   . rw[p5 (Ne.symm e)] at hx;exact hr.slots s x hx
 |_=>exact hr
theorem a5q (hT:TOk P T)(cf:Cfg):∀(c:Code) {Q:E6} {st:SSt},vcC P T C cf c Q st->J P C c Q st:=by
 intro c;induction c with
 |skip=>intro Q st h;exact⟨λγ V a W hr=>wpIn_skip ⟨γ,st,V,hr,h⟩⟩
 |ret=>intro Q st h;exact⟨λγ V a W hr=>wpIn_ret ⟨γ,st,V,hr,h⟩⟩
 |exit n=>intro Q st h;exact⟨λγ V a W hr=>wpIn_exit ⟨γ,st,V,hr,h⟩⟩
 | seq x y ihx ihy=>
   intro Q st h;refine⟨λγ V a W hr=>wpIn_seq (Go.wpIn_mono ((ihx h).run γ V a W hr) λe a W hq=>?_)⟩;cases e with
   |normal=>obtain⟨γ,st,V,h1,h2⟩:=hq;exact h2.run γ V a W h1
   |ret=>exact hq
   |exit n=>exact hq
   |panic c=>exact hq
   |goto l=>exact hq.elim
   |outgrown=>exact hq.elim
 | cond c x y ihx ihy=>
   intro Q st h;refine⟨λγ V a W hr=>?_⟩;obtain⟨b,h,hb⟩:=a9S hr.slots h;split at h
   . have hb:=Rep.bl_b hb;split at h
     . exact wpIn_cond hb (h.run γ V a W hr)
     . exact wpIn_cond hb (h.run γ V a W hr)
   . rename_i b;refine wpIn_cond (Rep.v_inv hb).1 ?_;have hb:=(Rep.v_inv hb).1;cases b with
     |true=>exact(h.1 rfl).run γ V a W (b9N hr hb)
     |false=>exact(h.2 rfl).run γ V a W (b9N hr hb)
   . exact h.elim
 | block id c ih=>
   intro Q st h;refine⟨λγ V a W hr=>wpIn_block (Go.wpIn_mono ((ih h).run γ V a W hr) λe a W hq=>?_)⟩;cases e with
   |normal=>exact hq
   |ret=>exact hq
   | exit n=>
     obtain⟨γ,st,V,h1,h2⟩:=hq;simp only at h2;simp only[Exit.inBlock];split at h2
     . rename_i hb;rw[d4 (t7 hb)];exact⟨γ,st,V,h1,h2⟩
     . rename_i hb;rw[c8 (a3y hb)];exact⟨γ,st,V,h1,h2⟩
   |panic c=>exact hq
   |goto l=>exact hq.elim
   |outgrown=>exact hq.elim
 | region id ops draw=>
   intro Q st h;cases draw with
   |true=>exact h
   |false=>exact⟨λγ V a W hr=>wpIn_region_list (d4S hT _ hr h (λγ' st' V' a' W' v d hr' hv hk=>⟨γ',st',V',v,d,rfl,hv,hr',hk⟩) λγ' st' V' a' W' hr' hk=>⟨γ',_,V',hr',hk⟩)⟩
 |loop c ih=>intro Q st h;exact h
 |rangeFunc f ps x y=>intro Q st h;exact h
 |scope c=>intro Q st h;exact h
 |label l=>intro Q st h;exact h
 |goto l=>intro Q st h;exact h
 |refuse w=>intro Q st h;exact h
end
def b0C:Code->Bool
 | .loop _=>false
 | .rangeFunc _ _ _ _=>false
 | .scope _=>false
 | .label _=>false
 | .goto _=>false
 | .refuse _=>false
 | .region _ _ draw=>match draw with|true=>false|false=>true
 |_=>true
theorem b4I {P:Program}{T:List (Nat×TI)}{C:Cx}{st:SSt}(hT:TOk P T)(cf:Cfg){c:Code}{Q:E6}(_:b0C c=true)(h:vcC P T C cf c Q st):J P C c Q st:=a5q hT cf c h
structure Rnd (p:Prop):Prop where
 out:p
def a2g:Code->List Nat
 | .seq x y=>a2g x++a2g y
 | .cond _ x y=>a2g x++a2g y
 | .block _ c=>a2g c
 | .loop c=>a2g c
 | .scope c=>a2g c
 | .rangeFunc _ _ x y=>a2g x++a2g y
 | .region _ ops _=>ops.toList.filterMap (·.dst)
 |_=>[]
def upL (w:List Nat):List (Nat×Base)->(List (Nat×Base)->Prop)->Prop
 |[],k=>k []
 | (t,b)::r,k=>match w6 t w with
   |true=>upL w r k
   |false=>upL (t::w) r λl=>k ((t,b)::l)
def upO (w:List Nat):List (Nat×Blk)->(List (Nat×Blk)->Prop)->Prop
 |[],k=>k []
 | (t,b)::r,k=>match w6 t w with
   |true=>upO w r k
   |false=>upO (t::w) r λl=>k ((t,b)::l)
noncomputable def a4T:List ((Nat⊕Nat×Nat)×Nat×TypeId×Nat)->SSt->(SSt->Prop)->Prop
 |[],st,k=>k st
 | (.inl t,r,e,sz)::m,st,k=>match d7 t st.L with
   | some (.full xs)=>match F9 r st with
     |true=>(∀ds∈xs,ds.length=sz)/\a4T m {st with L:=(t, .own r)::st.L,O:=(r, .sl ⟨e,sz,xs,true⟩)::st.O} k
     |false=>False
   |_=>False
 | (.inr (n,off),r,e,sz)::m,st,k=>match d7 n st.O with
   | some (.box cells ty)=>match cells.drop off with
     | .full xs::_=>match F9 r st with
       |true=>(∀ds∈xs,ds.length=sz)/\a2z (cells.set off (.own r)) λcells=>M0 n (.box cells ty) st.O λO'=>a4T m {st with O:=(r, .sl ⟨e,sz,xs,true⟩)::O'} k
       |false=>False
     |_=>False
   |_=>False
section
variable {P:Program} {T:List (Nat×TI)} {C:Cx} {γ:Gm} {st:SSt} {V:Know} {a:Act} {W:World}
theorem d4t:∀(l:List (Nat×Base)) (w:List Nat) {k:List (Nat×Base)->Prop},upL w l k->∃l',k l':=by
 intro l;induction l with
 |nil=>intro w k h;exact⟨[],h⟩
 | cons p l ih=>
   obtain⟨t,b⟩:=p;intro w k h;simp only[upL] at h;split at h
   . exact ih _ h
   . obtain⟨l',h⟩:=ih _ h;exact⟨_,h⟩
theorem d4v:∀(l:List (Nat×Blk)) (w:List Nat) {k:List (Nat×Blk)->Prop},upO w l k->∃l',k l':=by
 intro l;induction l with
 |nil=>intro w k h;exact⟨[],h⟩
 | cons p l ih=>
   obtain⟨t,b⟩:=p;intro w k h;simp only[upO] at h;split at h
   . exact ih _ h
   . obtain⟨l',h⟩:=ih _ h;exact⟨_,h⟩
theorem b8S :∀(m:List ((Nat⊕Nat×Nat)×Nat×TypeId×Nat)) {γ:Gm} {st:SSt} {k:SSt->Prop},Rel C γ st V a W->a4T m st k->∃γ' st',k st'/\Rel C γ' st' V a W:=by
 intro m;induction m with
 |nil=>intro γ st k hr h;exact⟨γ,st,h,hr⟩
 | cons p m ih=>
   obtain⟨src,r,e,sz⟩:=p;intro γ st k hr h;cases src with
   | inl t=>
     simp only[a4T] at h;split at h
     case h_2=>exact h.elim
     rename_i xs hl;split at h
     case h_2=>exact h.elim
     rename_i hc;obtain⟨hsz,h⟩:=h;obtain⟨hrep,ad,n,hv⟩:=hr.slots t _ hl;have hr1:=a4Z hr (b:= .sl ⟨e,sz,xs,true⟩) (v:=(a.tmps.getD t undef,none)) hc rfl (.inr ⟨.inl rfl,rfl,hsz,hrep,ad,n,hv⟩) (λq hq=>by cases hq) (λ_ _ _ q hq=>by cases hq);refine ih (a0N hr1 (L':=(t, .own r)::st.L) (O':=(r, .sl ⟨e,sz,xs,true⟩)::st.O) (λt' b hb=>?_) (λn' x hx=>⟨hr1.own n' x hx,x,hx⟩)) h;by_cases e':t'=t
     . subst e';rw[w9] at hb;cases hb;show _=(J3 γ r _ r).1;rw[M3]
     . rw[p5 (Ne.symm e')] at hb;exact hr1.slots t' b hb
   | inr q =>
     obtain⟨n,off⟩:=q;simp only[a4T] at h;split at h
     case h_2=>exact h.elim
     rename_i cells ty hn;split at h
     case h_2=>exact h.elim
     rename_i xs rest hcell;split at h
     case h_2=>exact h.elim
     rename_i hc;obtain⟨hsz,h⟩:=h;rw[a7O] at h;obtain⟨O',h,hO⟩:=a1U h;have hoff:=a4L hcell;obtain⟨blk,cs,hg,hh,hcells,h1,hnone⟩:=hr.own n _ hn;obtain⟨u,hu,hrep,ad,m',hv⟩:=hcells.at hoff;have hr1:=a4Z hr (b:= .sl ⟨e,sz,xs,true⟩) (v:=(u,none)) hc rfl (.inr ⟨.inl rfl,rfl,hsz,hrep,ad,m',hv⟩) (λq hq=>by cases hq) (λ_ _ _ q hq=>by cases hq);have hnr:n≠r:=(b2d hc hn).1;refine ih (a0N hr1 (L':=st.L) (O':=(r, .sl ⟨e,sz,xs,true⟩)::O') hr1.slots (λm x hx=>?_)) h;by_cases e':m=r
     . subst e';rw[w9] at hx;cases hx;exact⟨hr1.own m _ (w9 ..),_,w9 ..⟩
     . rw [p5 (Ne.symm e')] at hx;show BlkOk _ V W _ x/\∃y,d7 m ((r,_)::st.O)=some y;rw[p5 (Ne.symm e')];rcases hO m x hx with⟨rfl,rfl,_⟩|⟨_,hl⟩
       . refine ⟨?_,_,hn⟩;obtain⟨blk',cs',hg',hh',hcells',h1',hnone'⟩:=hr1.own m _ (by show d7 m ((r,_)::st.O)=_;rw[p5 (Ne.symm e')];exact hn);refine⟨blk',cs',hg',hh',⟨by simp[hcells'.len],λi b x hb hx=>?_⟩,h1',hnone'⟩;rw[a7f] at hb;split at hb
         . rename_i e2;subst e2;split at hb
           . cases hb;rw[M2 e',hg] at hg';obtain rfl:blk=blk':=by simpa using hg'
             rw[hh] at hh';obtain rfl:cs=cs':=by simpa using hh'
             rw[hu] at hx;cases hx;show _=(J3 γ r _ r).1;rw[M3]
           . cases hb
         . exact hcells'.get i b x hb hx
       . exact⟨hr1.own m x (by show d7 m ((r,_)::st.O)=_;rw[p5 (Ne.symm e')];exact hl),x,hl⟩
theorem c8x (hT:TOk P T){cf:Cfg}{c:Code}{Q:E6}{X:Type}(S:X->SSt)(Φ:X->Prop)(μ:X->Nat)(x0:X)
 (h0:a4t st (S x0)) (hΦ:Φ x0)
 (hstep:∀x,Φ x->vcC P T C cf c (λe st'=>match e with| .nrm=>Rnd (∃x',a4t st' (S x')/\Φ x'/\μ x'<μ x)| .ret=>Q .ret st'| .exit n=>Q (.exit n) st'| .pan d=>Q (.pan d) st') (S x)):J P C (.loop c) Q st:=by
 refine⟨λγ V a W hr=>?_⟩;refine wpIn_loop_ghost (λn a W=>∃x γ V',Φ x/\μ x=n/\Rel C γ (S x) V' a W) (μ x0) ⟨x0,_,V,hΦ,rfl,b4o hr h0⟩ ?_;rintro n a W ⟨x,γ,V',hΦ',rfl,hr'⟩;refine Go.wpIn_mono ((a5q hT cf c (hstep x hΦ')).run γ V' a W hr') λe a W hq=>?_;cases e with
 | normal=>
   obtain⟨γ,st',V'',h1,⟨x',h2,h3,h4⟩⟩:=hq;exact⟨μ x',h4,x',_,V'',h3,rfl,b4o h1 h2⟩
 |ret=>exact hq
 |exit n=>exact hq
 |panic c=>exact hq
 |goto l=>exact hq.elim
 |outgrown=>exact hq.elim
theorem o4 (hT:TOk P T)(cf:Cfg){c:Code}{Q:E6}(mk:List ((Nat⊕Nat×Nat)×Nat×TypeId×Nat)){X:Type}(us:X->List (Nat×Base))(os:X->List (Nat×Blk))(gone:List Nat)(Φ:X->Prop)(μ:X->Nat)(x0:X)
 (h:a4T mk st λst=>Z9 ((us x0).map (·.1)++a2g c) λw=>upL w st.L λL'=>upO ((os x0).map (·.1)++gone) st.O λO'=>
   a4t st ⟨us x0++L',os x0++O',st.pins⟩/\Φ x0/\
   ∀x,Φ x->vcC P T C cf c (λe st'=>match e with| .nrm=>Rnd (∃x',a4t st' ⟨us x'++L',os x'++O',st.pins⟩/\Φ x'/\μ x'<μ x)| .ret=>Q .ret st'| .exit n=>Q (.exit n) st'| .pan d=>Q (.pan d) st') ⟨us x++L',os x++O',st.pins⟩):
 J P C (.loop c) Q st:=by
 refine⟨λγ V a W hr=>?_⟩;obtain⟨γ',st',h,hr'⟩:=b8S mk hr h;rw[a3I] at h;obtain⟨L',h⟩:=d4t _ _ h;obtain⟨O',h1,h2,h3⟩:=d4v _ _ h;exact(c8x hT (λx=>⟨us x++L',os x++O',st'.pins⟩) Φ μ x0 h1 h2 h3).run γ' V a W hr'
theorem b6S (hT:TOk P T){cf:Cfg}{c:Code}{Q:E6}{X:Type}(S:X->SSt)(Φ:X->Prop)
 (h1:vcC P T C cf c (λe st'=>match e with| .nrm=>Rnd (∃x,a4t st' (S x)/\Φ x)| .ret=>Q .ret st'| .exit n=>Q (.exit n) st'| .pan d=>Q (.pan d) st') st)
 (h2:∀x,Φ x->Q .nrm (S x)):J P C c Q st:=by
 refine⟨λγ V a W hr=>Go.wpIn_mono ((a5q hT cf c h1).run γ V a W hr) λe a W hq=>?_⟩;cases e with
 | normal=>
   obtain⟨γ,st',V',h3,⟨x,h4,h6⟩⟩:=hq;exact⟨_,S x,V',b4o h3 h4,h2 x h6⟩
 |ret=>exact hq
 |exit n=>exact hq
 |panic c=>exact hq
 |goto l=>exact hq.elim
 |outgrown=>exact hq.elim
theorem c2g {c:Code}{Q:E6}(names:List Nat)(h:frz 60 names st [] λst _=>J P C c Q st):J P C c Q st:=by
 refine⟨λγ V a W hr=>?_⟩;obtain⟨st',bs',V',h,hr',_,_⟩:=b2B 60 hr (All2.nil (R:=RVb γ V)) h;exact h.run γ V' a W hr'
theorem c2j {c:Code}{Q:E6}(mk:List ((Nat⊕Nat×Nat)×Nat×TypeId×Nat))(h:a4T mk st λst=>J P C c Q st):J P C c Q st:=by
 refine⟨λγ V a W hr=>?_⟩;obtain⟨γ',st',h,hr'⟩:=b8S mk hr h;exact h.run γ' V a W hr'
theorem b5q {c:Code}{Q:E6}(n:Nat)(cells':List Base)(h:match st with
 | ⟨L,O,p⟩=>match d7 n O with
   |some (.box cells ty)=>cells=cells'/\M0 n (.box cells' ty) O λO'=>J P C c Q ⟨L,O',p⟩
   |_=>False):J P C c Q st:=by
 refine⟨λγ V a W hr=>?_⟩;obtain⟨L,O,p⟩:=st;simp only at h;split at h
 case h_2=>exact h.elim
 rename_i cells ty hn;obtain⟨rfl,h⟩:=h;obtain⟨O',h,hO⟩:=a1U h;refine h.run γ V a W (a0N hr hr.slots λm x hx=>?_);rcases hO m x hx with⟨rfl,rfl,_⟩|⟨_,hl⟩
 . exact⟨hr.own m _ hn,_,hn⟩
 . exact⟨hr.own m x hl,x,hl⟩
structure Done (p:Prop):Prop where
 out:p
noncomputable def a8y (T:List (Nat×TI))(cf:Cfg)(st:SSt):List ResultVar->(List Base->Prop)->Prop
 |[],k=>k []
 | r::rs,k=>(match r with
   | .tmp t=>λ(k:Base->Prop)=>a1i st (.tmp t) k
   | .cell t ty=>λ(k:Base->Prop)=>a1i st (.tmp t) λb=>b1j T cf st.O ty b k) λb=>a8y T cf st rs λbs=>k (b::bs)
def a6A (tmps:Array Value):ResultVar->Sem Value
 | .tmp t=>pure (tmps.getD t undef)
 | .cell x t=>do loadVar t (<-asAddr (tmps.getD x undef))
theorem d1j (fn:Func)(tmps:Array Value):results fn tmps=(do
 let vs<-fn.results.mapM (a6A tmps)
 pure (if h:vs.size=1 then vs[0] else .tuple vs)):=by
 unfold results;refine d6 (λm:Sem (Array Value)=>m>>=λvs=>pure (if h:vs.size=1 then vs[0] else .tuple vs)) ?_;refine d6 (λf=>fn.results.mapM f) ?_;funext r;cases r<;>rfl
theorem d1i (hT:TOk P T)(hr:Rel C γ st V a W){cf:Cfg}:∀(rs:List ResultVar) {k:List Base->Prop},a8y T cf st rs k->
 ∃bs vs,k bs/\Vals γ V bs vs/\vs.length=rs.length/\(rs.mapM (a6A a.tmps)).run P W= .ok vs W:=by
 intro rs;induction rs with
 |nil=>intro k h;exact⟨[],[],h, .nil,rfl,rfl⟩
 | cons r rs ih=>
   intro k h;simp only[a8y] at h;have key:∃x b,RVb γ V b x/\(a6A a.tmps r).run P W= .ok x W/\a8y T cf st rs λbs=>k (b::bs):=by
    cases r with
    | tmp t=>
      obtain⟨b,h,hv⟩:=a9S hr.slots h;exact⟨_,b,hv,rfl,h⟩
    | cell t ty=>
      obtain⟨ad,h,hv⟩:=a9S hr.slots h;obtain⟨b,h,hrd⟩:=c1k (P:=P) (x:= .tmp t) hT h;obtain⟨x,hx,hrun⟩:=hrd γ V W st.O [a.eval (.tmp t)] (λ_ _=>rfl) hr.sees hr.own (.cons hv .nil) a.eval (by simp[Op.operands])
      have hrun := hrun none 0 "" #[] none
      refine⟨x,b,hx,?_,h⟩;simp only[execOp,Instr.loadAt,a6A,r4] at hrun⊢;have e:a.eval (.tmp t)=a.tmps.getD t undef:=rfl;rw[<-e];revert hrun;cases hp:a.eval (.tmp t)<;>simp only[Instr.sureAddr,asAddr,run_stuck,Result.andThen_halt,reduceCtorEq,false_implies];rename_i ad;cases ad<;>simp;rename_i ad;cases hl:(loadVar ty ad).run P W<;>simp
   obtain⟨x,b,hv,hx,h⟩:=key;obtain⟨bs,vs,h,hvs,hl,hrun⟩:=ih h;refine⟨b::bs,x::vs,h, .cons hv hvs,by simp[hl],?_⟩;simp only[List.mapM_cons,r4,hx,r8,hrun,H3]
def b4x (vs:List Value):Value:=match vs with|[v]=>v|vs=> .tuple vs.toArray
theorem d1k {fn:Func}{tmps:Array Value}{vs:List Value}(hrun:(fn.results.toList.mapM (a6A tmps)).run P W= .ok vs W):
 (results fn tmps).run P W= .ok (b4x vs) W:=by
 have hm:(fn.results.mapM (a6A tmps)).run P W= .ok vs.toArray W:=by
  rw[b1r];simp only[Sem.run_map,hrun,r8]
 rw[d1j];refine(r4 P W _ _).trans ?_;rw[hm];match vs with
 |[v]=>rfl
 |[]=>rfl
 |v::u::r=>simp[b4x]
def U8:Nat->List Base->List (Nat×Base)
 |_,[]=>[]
 |i,b::bs=>(i,b)::U8 (i+1) bs
theorem b0n:∀(bs:List Base) (xs:List Value) (i t:Nat) (b:Base),Vals γ V bs xs->d7 t (U8 i bs)=some b->∃j v,t=i+j/\xs[j]?=some v/\RVb γ V b v:=by
 intro bs;induction bs with
 |nil=>intro xs i t b _ h;rw[U8,r7] at h;cases h
 | cons b0 bs ih=>
   intro xs i t b hx h;obtain⟨x,xs,rfl,h1,h2⟩:=hx.cons_l;simp only[U8] at h;by_cases e:i=t
   . subst e;rw[w9] at h;cases h;exact⟨0,x,rfl,rfl,h1⟩
   . rw[p5 e] at h;obtain⟨j,v,rfl,hj,hv⟩:=ih xs (i+1) t b h2 h;exact⟨j+1,v,by omega,by simpa using hj,hv⟩
def M8:List (Nat×Blk)->List Nat
 |[]=>[]
 |(n, .box _ _)::r=>n::M8 r
 |(n, .lp _ _ _ _)::r=>n::M8 r
 | (n, .sl _)::r=>match Nat.ble 9000 n with
   |true=>n::M8 r
   |false=>M8 r
 |(_, .mp _)::r=>M8 r
 |(_, .pn _ _)::r=>M8 r
theorem b8L {n:Nat}{b:Blk}(hb:T4 n b=true):∀{l:List (Nat×Blk)},(n,b)∈l->n∈M8 l:=by
 intro l;induction l with
 |nil=>intro h;cases h
 | cons p l ih=>
   obtain⟨m,c⟩:=p;intro h;rcases p8.1 h with h1|h1
   . cases h1;cases b with
     |box c t=>exact A9 ..
     |lp r g V pn=>exact A9 ..
     | sl s=>
       have hb':Nat.ble 9000 n=true:=hb;simp only[M8,hb'];exact A9 ..
     |mp l=>cases hb
     |pn g ns=>cases hb
   . cases c with
     |box c t=>exact r6 _ (ih h1)
     | sl s=>
       simp only[M8];split
       . exact r6 _ (ih h1)
       . exact ih h1
     |mp l=>exact ih h1
     |pn g ns=>exact ih h1
     |lp r g V pn=>exact r6 _ (ih h1)
noncomputable def a5a (T:List (Nat×TI))(cf:Cfg)(rs:List ResultVar)(st:SSt)(k:Base->SSt->Prop):Prop:=
 a8y T cf st rs λbs=>match bs with
  |[b]=>k b st
  |bs=>a2v st bs λds st=>Z9 ds λds=>k (.d (.tup ds)) st
noncomputable def b0F (T:List (Nat×TI))(cf:Cfg)(rs:List ResultVar)(ins:List (Nat×Blk))(R:Out->List (Nat×Blk)->Prop):E6:=λe st=>
 match e with
 | .exit _=>False
 | .pan d=>∃O',(a0r st.O O'/\(M8 ins).all (λn=>w6 n st.pins)=true)/\Done (R (.pan d) O')
 |_=>a5a T cf rs st λb st=>∃O' rb,(a0X st.O rb b/\a0r st.O O'/\(M8 ins).all (λn=>w6 n st.pins)=true)/\Done (R (.ret rb) O')
noncomputable def b3J (T:List (Nat×TI))(cf:Cfg)(rs:List ResultVar)(R:D->Prop):E6:=λe st=>
 match e with
 | .exit _=>False
 | .pan _=>False
 | _=>a5a T cf rs st λb st=>a2v st [b] λds _=>match ds with
   |[d]=>a6e d λd=>Done (R d)
   |_=>False
theorem b0G (hT:TOk P T)(hr:Rel C γ st V a W){cf:Cfg}{fn:Func}{k:Base->SSt->Prop}(h:a5a T cf fn.results.toList st k):
 ∃b st' V' v,k b st'/\Rel C γ st' V' a W/\RVb γ V' b v/\(results fn a.tmps).run P W= .ok v W:=by
 obtain⟨bs,vs,h,hv,hl,hrun⟩:=d1i hT hr _ h;have hres:=d1k hrun;split at h
 . rename_i b;obtain⟨v,rfl,hv1⟩:=v1 hv;exact⟨b,st,V,v,h,hr,hv1,hres⟩
 . rename_i hne;obtain⟨ds,st',V',h,hr',hreps,hle⟩:=a5Y hr hv h;rw[a3I] at h;have hnv:∀v,vs≠[v]:=by
    rintro v rfl;obtain⟨x,m,e⟩:∃x m,bs=x::m:=by
     cases bs with
     |nil=>have:=hv.len;simp at this
     |cons x m=>exact⟨x,m,rfl⟩
    subst e;have:=hv.tail.len;have:m=[]:=C8 (by simpa using this);subst this;exact hne x rfl
   have e:b4x vs= .tuple ⟨vs⟩:=by
    match vs,hnv with
    |[v],h=>exact absurd rfl (h v)
    |[],_=>rfl
    |v::u::r,_=>rfl
   rw[e] at hres;exact⟨_,st',V',_,h,hr', .tup vs ds hreps.len hreps.get,hres⟩
theorem a7W {fn:Func}{R:Ending->World->Prop}{u:FrameMode}{tm:Array Value}{ds:List Deferred}(hd:C.dfr=some [])(hm:C.B0<=C.m0)(hu:u≠ .run)(ks2:List Nat):∀(ks:List Nat) (W:World),(ks++ks2).Nodup->(∀k∈ks++ks2,C.m0<=k/\W.heap[k]?=some (.deferred (some [])))->
 Rel C γ st V {tmps:=tm,defers:=[]} W->(∀W',Rel C γ st V {tmps:=tm,defers:=[]} W'->(∀k∈ks2,C.m0<=k/\W'.heap[k]?=some (.deferred (some [])))->LeavesInM Fence.wide 0 P fn tm R ds u W')->LeavesInM Fence.wide 0 P fn tm R (a1O ks++ds) u W
 |[],W,_,h3,hr,h=>h W hr h3
 | k :: ks,W,h2,h3,hr0,h=>by
   obtain⟨hk,hh⟩:=h3 k (A9 ..);refine⟨hu, .inl ⟨k,_,rfl,run_takeDeferred hh,a7W hd hm hu ks2 ks _ (List.nodup_cons.1 h2).2 (λj hj=>⟨(h3 j (r6 _ hj)).1,?_⟩) ?_ h⟩⟩
   . have hne:j≠k:=λe=>(List.nodup_cons.1 h2).1 (e▸hj);exact(World.putObj_heap_other hne).trans (h3 j (r6 _ hj)).2
   . refine b9O (st:=st) hr0 (grownBy_putObj' W k _) (by rw[hd];exact MarksOk.nil rfl) (λg e=>?_) (λm x hx=> .inr ⟨hx,λg e hg=>?_⟩)
     . cases e;refine⟨.inr (by omega),λo u hc=>?_,λx hx=>?_⟩
       . have:=hr0.sees.cell k o u hc;simp only[World.cell?,hh] at this;cases this
       . have:=hr0.sees.obj k x hx;obtain⟨_,_,e⟩:=this.2;rw[e,hh] at this;cases this.1
     . cases e;exact b0B (hr0.own m x hx) hg hh
theorem a6k {fn:Func}{R:Ending->World->Prop}{u:FrameMode}(hC:C.m0=C.B0)(hd:C.dfr=some [])(hu:u≠ .run)(hr:Rel C γ st V a W)(h:∀W',Rel C γ st V {a with defers:=[]} W'->LeavesIn Fence.wide 0 P fn a.tmps R [] u W'):
 LeavesInM Fence.wide 0 P fn a.tmps R a.defers u W:=by
 have hdf:=hr.defers;rw[hd] at hdf;obtain⟨ks,ks2,h1,h2,h3⟩:=hdf;rw[h1];have hr0:Rel C γ st V {a with defers:=[]} W:={hr with defers:=by rw[hd];exact MarksOk.nil rfl}
 refine a7W hd (Nat.le_of_eq hC.symm) hu ks2 ks W h2 h3 hr0 λW1 hr1 h4=>?_;have e:([]:List Deferred)++a1O ks2=a1O ks2++[]:=by simp
 rw[e];exact a7W hd (Nat.le_of_eq hC.symm) hu [] ks2 W1 (by simpa using (a7j.1 h2).2.1) (by simpa using h4) hr1 λW2 hr2 _=>h W2 hr2
theorem c5P (hT:TOk P T){f:FuncId}{fn:Func}{c:Code}(cf:Cfg)(hf:P.funcs[f]?=some fn)(hb:fn.body=some c){N:Nat}(hN:fn.ntmps=N){args:List Base}{ins:List (Nat×Blk)}(hlen:args.length<=N)
 {R:Out->List (Nat×Blk)->Prop} {γ0:Gm} {V:Know} {W:World} {xs:List Value} (hs:Sees V W) (hx:Vals γ0 V args xs) (hown:A2 γ0 V W ins) (hinj:M4 γ0 ins)
 (h:vcC P T ⟨W.heap.size,N,W,V,o8 γ0 ins,γ0,none,W.heap.size,some []⟩ cf c (b0F T cf fn.results.toList ins R) ⟨U8 0 args,ins,M8 ins⟩):
 Calls P f xs.toArray W λe W'=>∃γ' V' o O',a4p γ' V' e o/\BelowX (o8 γ0 ins) W.heap.size W W'/\Fresh V V' (o8 γ0 ins) W.heap.size/\Sees V' W'/\A2 γ' V' W' O'/\
  (∀n b,d7 n O'=some b->∀k,(γ' n).2=some k->k∈o8 γ0 ins\/W.heap.size<=k)/\M4 γ' O'/\(∀n b,d7 n ins=some b->T4 n b=true->γ' n=γ0 n)/\R o O':=by
 refine(callsIn_wide (n:=0)).1 (callsIn_of_wp_marks hf hb trivial ?_ rfl);have hxl:xs.length=args.length:=hx.len.symm;have hr:Rel ⟨W.heap.size,N,W,V,o8 γ0 ins,γ0,none,W.heap.size,some []⟩ γ0 ⟨U8 0 args,ins,M8 ins⟩ V {tmps:=xs.toArray++Array.replicate (fn.ntmps-xs.toArray.size) undef,defers:=[]} W:=by
  refine⟨by simp[hN];omega,MarksOk.nil rfl,?_,hown,?_,hinj,(λd hd=>rfl),hs, .refl V _ _, .refl _ _ _,p0 _⟩
  . intro t b hl;obtain⟨j,v,rfl,hj,hv⟩:=b0n args xs 0 t b hx hl;have hjl:j<xs.length:=by
     rcases C5 j xs.length with h|h
     . exact h
     . rw[z6 h] at hj;cases hj
    simp only[F3,a2i];rw[a6R (by simpa using hjl)];simpa[hj] using hv
  . intro d b hl k hk;exact .inl (R6.2 ⟨(d,b),Y3 hl,hk⟩)
 refine Go.wpIn_mono (F:=Fence.wide) ((a5q hT cf c h).run _ _ _ _ hr) λe a W' hq=>?_;have common:∀{γ:Gm} {st:SSt} {V':Know} {O':List (Nat×Blk)} {a:Act} {W':World},Rel ⟨W.heap.size,N,W,V,o8 γ0 ins,γ0,none,W.heap.size,some []⟩ γ st V' a W'->a0r st.O O'->(M8 ins).all (λn=>w6 n st.pins)=true->
  BelowX (o8 γ0 ins) W.heap.size W W'/\Fresh V V' (o8 γ0 ins) W.heap.size/\Sees V' W'/\A2 γ V' W' O'/\
  (∀n b,d7 n O'=some b->∀k,(γ n).2=some k->k∈o8 γ0 ins\/W.heap.size<=k)/\M4 γ O'/\(∀n b,d7 n ins=some b->T4 n b=true->γ n=γ0 n):=by
  intro γ st V' O' a W' hr hS hp;refine⟨hr.below,hr.fresh,hr.sees,λn b hl=>?_,λn b hl=>?_,λn n' b b' hl hl' hne=>?_,λn b hl hb=>?_⟩
  . obtain⟨y,hy,hs⟩:=M7 hS n b hl;exact a5K hr.own hs (hr.own n y hy)
  . obtain⟨y,hy,_⟩:=M7 hS n b hl;exact hr.okb n y hy
  . obtain⟨y,hy,_⟩:=M7 hS n b hl;obtain⟨y',hy',_⟩:=M7 hS n' b' hl';exact hr.inj n n' y y' hy hy' hne
  . exact hr.pin n (memB_mem.1 (n7.1 hp n (b8L hb (Y3 hl))))
 have fin:∀{γ:Gm} {st:SSt} {V':Know} {a:Act} {W':World},Rel ⟨W.heap.size,N,W,V,o8 γ0 ins,γ0,none,W.heap.size,some []⟩ γ st V' a W'->(a5a T cf fn.results.toList st λb st=>∃O' rb,(a0X st.O rb b/\a0r st.O O'/\(M8 ins).all (λn=>w6 n st.pins)=true)/\Done (R (.ret rb) O'))->
  ∃ v,(results fn a.tmps).run P W'= .ok v W'/\∃γ' V' o O',a4p γ' V' (.returned v) o/\BelowX (o8 γ0 ins) W.heap.size W W'/\Fresh V V' (o8 γ0 ins) W.heap.size/\Sees V' W'/\A2 γ' V' W' O'/\
    (∀n b,d7 n O'=some b->∀k,(γ' n).2=some k->k∈o8 γ0 ins\/W.heap.size<=k)/\M4 γ' O'/\(∀n b,d7 n ins=some b->T4 n b=true->γ' n=γ0 n)/\R o O':=by
  intro γ st V' a W' hr hk;obtain⟨b,st',V2,v,⟨O',rb,⟨h1,h2,h3⟩,hd⟩,hr',hv,hrun⟩:=b0G hT hr hk;obtain⟨c1,c2,c3,c4,c5,c6,c7⟩:=common hr' h2 h3;exact⟨v,hrun,γ,V2, .ret rb,O',b1I hr'.own h1 hv,c1,c2,c3,c4,c5,c6,c7,hd.out⟩
 cases e with
 |normal=>obtain⟨γ,st,V',hr',hk⟩:=hq;exact a6k rfl rfl (by simp) hr' λW2 hr2=>fin (a:={a with defers:=[]}) hr2 hk
 |ret=>obtain⟨γ,st,V',hr',hk⟩:=hq;exact a6k rfl rfl (by simp) hr' λW2 hr2=>fin (a:={a with defers:=[]}) hr2 hk
 |exit n=>obtain⟨γ,st,V',_,hk⟩:=hq;exact hk.elim
 | panic ch=>
   obtain⟨γ,st,V',v,d,rfl,hv,hr',O',⟨h1,h2⟩,hd⟩:=hq;refine a6k rfl rfl (by simp) hr' λW2 hr2=>?_;obtain⟨c1,c2,c3,c4,c5,c6,c7⟩:=common hr2 h1 h2;exact⟨γ,V', .pan d,O',⟨v,rfl,hv⟩,c1,c2,c3,c4,c5,c6,c7,hd.out⟩
 |goto l=>exact hq.elim
 |outgrown=>exact hq.elim
theorem c5O (hT : TOk P T) {f : FuncId} {fn : Func} {c : Code} (cf : Cfg) (hf : P.funcs[f]? = some fn) (hb : fn.body = some c) (hn : (fn.name == "runtime.NumGoroutine") = false) {N : Nat} (hN : fn.ntmps = N) {args : List Base} {ins : List (Nat × Blk)} (hlen : args.length <= N)
 {R:Out->List (Nat×Blk)->Prop}
 (h:∀(B0:Nat) (W0:World) (V0:Know) (lent:List Nat) (g0:Gm),vcC P T ⟨B0,N,W0,V0,lent,g0,none,B0,some []⟩ cf c (b0F T cf fn.results.toList ins R) ⟨U8 0 args,ins,M8 ins⟩):MeetsR P f args ins R:=
 ⟨⟨fn,c,hf,hb,hn⟩,λγ0 V W _ hs hx hown hinj=>c5P hT cf hf hb hN hlen hs hx hown hinj (h W.heap.size W V (o8 γ0 ins) γ0)⟩
theorem enter (hT : TOk P T) {f : FuncId} {fn : Func} {c : Code} (cf : Cfg) (hf : P.funcs[f]? = some fn) (hb : fn.body = some c) (hn : (fn.name == "runtime.NumGoroutine") = false) {N : Nat} (hN : fn.ntmps = N) {args : List D} (hlen : args.length <= N)
 {R:D->Prop}
 (h:∀(B0:Nat) (W0:World) (V0:Know) (lent:List Nat) (g0:Gm),vcC P T ⟨B0,N,W0,V0,lent,g0,none,B0,some []⟩ cf c (b3J T cf fn.results.toList R) ⟨U8 0 (args.map .d),[],[]⟩):Meets P f args R:=by
 refine⟨⟨⟨fn,c,hf,hb,hn⟩,λγ0 V W xs hs hx hown hinj=>(callsIn_wide (n:=0)).1 (callsIn_of_wp_marks hf hb trivial ?_ rfl)⟩⟩;have hxl:xs.length=args.length:=by have:=hx.len;simpa using this.symm
 have hr:Rel ⟨W.heap.size,N,W,V,o8 γ0 [],γ0,none,W.heap.size,some []⟩ γ0 ⟨U8 0 (args.map .d),[],[]⟩ V {tmps:=xs.toArray++Array.replicate (fn.ntmps-xs.toArray.size) undef,defers:=[]} W:=by
  refine⟨by simp[hN];omega,MarksOk.nil rfl,?_,hown,(λd b hl=>by rw[r7] at hl;cases hl),hinj,(λd hd=>rfl),hs, .refl V _ _, .refl _ _ _,p0 _⟩;intro t b hl;obtain⟨j,v,rfl,hj,hv⟩:=b0n _ xs 0 t b hx hl;have hjl:j<xs.length:=by
   rcases C5 j xs.length with h|h
   . exact h
   . rw[z6 h] at hj;cases hj
  simp only[F3,a2i];rw[a6R (by simpa using hjl)];simpa[hj] using hv
 refine Go.wpIn_mono (F:=Fence.wide) ((a5q hT cf c (h W.heap.size W V (o8 γ0 []) γ0)).run _ _ _ _ hr) λe a W' hq=>?_;have fin:∀{γ:Gm} {st:SSt} {V':Know} {a:Act} {W':World},Rel ⟨W.heap.size,N,W,V,o8 γ0 [],γ0,none,W.heap.size,some []⟩ γ st V' a W'->(a5a T cf fn.results.toList st λb st=>a2v st [b] λds _=>match ds with
  |[d]=>a6e d λd=>Done (R d)
  |_=>False)->
  ∃ v,(results fn a.tmps).run P W'= .ok v W'/\∃γ' V' o O',a4p γ' V' (.returned v) o/\BelowX (o8 γ0 []) W.heap.size W W'/\Fresh V V' (o8 γ0 []) W.heap.size/\Sees V' W'/\A2 γ' V' W' O'/\
    (∀n b,d7 n O'=some b->∀k,(γ' n).2=some k->k∈o8 γ0 []\/W.heap.size<=k)/\M4 γ' O'/\(∀n b,d7 n ([]:List (Nat×Blk))=some b->T4 n b=true->γ' n=γ0 n)/\∃d,o= .ret (.d d)/\O'=[]/\R d:=by
  intro γ st V' a W' hr hk;obtain⟨b,st',V2,v,hk,hr',hv,hrun⟩:=b0G hT hr hk;obtain⟨ds,st2,V3,hk,hr2,hreps,_⟩:=a5Y hr' (.cons hv .nil) hk;split at hk
  case h_2=>exact hk.elim
  rename_i d;rw[b2z] at hk;refine⟨v,hrun,γ,V3, .ret (.d d),[],hreps.head,hr2.below,hr2.fresh,hr2.sees,(λn b hl=>by rw[r7] at hl;cases hl),(λn b hl=>by rw[r7] at hl;cases hl),(λn n' b b' hl=>by rw[r7] at hl;cases hl),(λn b hl=>by rw[r7] at hl;cases hl),d,rfl,rfl,hk.out⟩
 cases e with
 |normal=>obtain⟨γ,st,V',hr',hk⟩:=hq;exact a6k rfl rfl (by simp) hr' λW2 hr2=>fin (a:={a with defers:=[]}) hr2 hk
 |ret=>obtain⟨γ,st,V',hr',hk⟩:=hq;exact a6k rfl rfl (by simp) hr' λW2 hr2=>fin (a:={a with defers:=[]}) hr2 hk
 |exit n=>obtain⟨γ,st,V',_,hk⟩:=hq;exact hk.elim
 |panic ch=>obtain⟨γ,st,V',v,d,_,_,_,hk⟩:=hq;exact hk.elim
 |goto l=>exact hq.elim
 |outgrown=>exact hq.elim
end
open Go.MapKept
def b5n (n:Nat)(v:Value):Prop:=∃ns:List Int,ns.length=n/\v= .agg ⟨ns.map (.int .i64)⟩
def a7a (P:Program):List Field->Nat->Prop
 |[],_=>True
 | f :: fs, i => f.name ≠ "_" /\ P.underlying f.type = some (.int .i64) /\ f.offset = i /\ a7a P fs (i + 1)
theorem b3r {P:Program}{t:TypeId}(h:P.underlying t=some (.int .i64)){ns:List Int}{i:Nat}(hi:i<ns.length)(W:World):
 (part t ⟨ns.map (.int .i64)⟩ i).run P W= .ok (.int .i64 ns[i]) W:=by
 simp[part,isAgg,run_underlying h,hi]
theorem b7l {P:Program}(d:Nat){ns ms:List Int}(hl:ns.length=ms.length)(W:World):∀(fs:List Field) (i:Nat),a7a P fs i->i+fs.length=ns.length->
 (Op.eqFields (d+1) ⟨ns.map (.int .i64)⟩ ⟨ms.map (.int .i64)⟩ fs).run P W= .ok (decide (ns.drop i=ms.drop i)) W:=by
 intro fs;induction fs with
 | nil=>
   intro i _ h;simp only[j8,a3m] at h;rw[a0U (by omega),a0U (by omega)];simp[Op.eqFields]
 | cons f fs ih=>
   intro i ⟨h1,h2,h3,h4⟩ h;simp only[i7] at h;have hi:i<ns.length:=by omega
   have hi':i<ms.length:=by omega
   have:=ih (i+1) h4 (by omega);simp only[Op.eqFields];rw[d4 h1,h3];simp only[r4,b3r h2 hi,b3r h2 hi',r8,run_equalIn_int (P:=P) W d f.type .i64 .i64 _ _ h2];rw[F2 hi,F2 hi'];by_cases e:ns[i]=ms[i]
   . have hb:(ns[i]==ms[i])=true:=by simp[e]
     rw[e] at hb;simp only[e,hb,Bool.not_true,Y8,if_false,this,List.cons.injEq,true_and]
   . have hb:(ns[i]==ms[i])=false:=by simp[e]
     simp only[hb,Bool.not_false,if_true,H3,List.cons.injEq,e,false_and,decide_false]
theorem c7N {P:Program}{t:TypeId}{fs:Array Field}{n:Nat}(ht:P.underlying t=some (.struct fs))(hp:P.stoodInHeld t=false)(hn:fs.size=n)(hf:a7a P fs.toList 0):a7d P t (b5n n):=by
 have hfo:P.fieldsOf t=fs:=by simp[Program.fieldsOf,ht]
 rintro k ⟨ns,hns,rfl⟩;refine⟨?_,λW=>⟨λem=>?_,?_⟩⟩
 . have:∀l:List Int,((l.map (Value.int .i64)).zip (l.map (Value.int .i64))).all (λx=>Instr.sameBits 9999 x.1 x.2)=true:=by
    intro l;induction l with
    |nil=>rfl
    |cons x l ih=>simp only[o5,a5G,F8,ih,U3];simp[Instr.sameBits]
   have h:=this ns;simp only[Instr.sameBits,beq_self_eq_true,W9];exact h
 . rw [show(10000:Nat)=9999+1 from rfl];unfold Instr.checkKey;simp only[r4,run_underlying ht,r8];rw[<-Array.forIn_toList];have key:∀(l:List Field) (i:Nat),a7a P l i->i+l.length=ns.length->
    (forIn l PUnit.unit λ f _ => if f.name ≠ "_" then do
      let y<-part f.type ⟨ns.map (.int .i64)⟩ f.offset
      Instr.checkKey em 9999 f.type y
      pure (ForInStep.yield PUnit.unit)
      else do
       pure PUnit.unit
       pure (ForInStep.yield PUnit.unit):Sem PUnit).run P W= .ok PUnit.unit W:=by
    intro l;induction l with
    |nil=>intro i _ _;simp
    | cons f l ih=>
      intro i ⟨h1,h2,h3,h4⟩ h;simp only[i7] at h;have hi:i<ns.length:=by omega
      have hck:(Instr.checkKey em 9999 f.type (.int .i64 ns[i])).run P W= .ok () W:=run_checkKey h2 (by simp[IsKey]) em 9998;rw[List.forIn_cons];simp only[d4 h1,h3,r4,b3r h2 hi,r8,hck,H3];exact ih (i+1) h4 (by omega)
   have:=key fs.toList 0 hf (by simp[hn,hns]);first|exact this|(simp only[this];rfl)|trace_state
 . intro l hl;rw[run_findKey_eq W (by simp[ht])];have key:∀(l:List MapEntry) (i:Nat),(∀e∈l,b5n n e.key)->((Instr.findAsking t (.agg ⟨ns.map (.int .i64)⟩) l i).run P W= .ok none W/\∀e∈l,e.key≠ .agg ⟨ns.map (.int .i64)⟩)\/
    ∃(j:Nat) (e:MapEntry),(Instr.findAsking t (.agg ⟨ns.map (.int .i64)⟩) l i).run P W= .ok (some (i+j,e.val)) W/\l[j]?=some e/\e.key= .agg ⟨ns.map (.int .i64)⟩/\∀(m:Nat) (x:MapEntry),m<j->l[m]?=some x->x.key≠ .agg ⟨ns.map (.int .i64)⟩:=by
    intro l;induction l with
    |nil=>intro i _;exact .inl ⟨by simp[Instr.findAsking],by simp⟩
    | cons e es ih=>
      intro i hl;obtain⟨ms,hms,hke⟩:=hl e (by simp);have heq:(Op.equal t (.agg ⟨ns.map (.int .i64)⟩) e.key).run P W= .ok (decide (ns=ms)) W:=by
       rw[hke];unfold Op.equal Op.maxDepth;rw[show(10000:Nat)=9999+1 from rfl,run_equalIn_struct (P:=P) W 9999 t _ _ (by rw[hfo];exact ht) hp,hfo];have:=b7l (P:=P) 9998 (ns:=ns) (ms:=ms) (by omega) W fs.toList 0 hf (by simp[hn,hns]);simpa using this
      have hinj:e.key= .agg ⟨ns.map (.int .i64)⟩↔ns=ms:=by
       rw[hke];constructor
       . intro h;have h:ms.map (Value.int .i64)=ns.map (Value.int .i64):=by simpa using h
         exact((List.map_inj_right (λx y h=>by simpa using h)).1 h).symm
       . rintro rfl;rfl
      simp only[Instr.findAsking,r4,heq,r8];by_cases e1:ns=ms
      . refine .inr ⟨0,e,by simp[e1],rfl,hinj.2 e1,λ_ _ h=>by omega⟩
      . rcases ih (i+1) (λx hx=>hl x (by simp[hx])) with⟨h1,h2⟩|⟨j,e',h1,h2,h3,h4⟩
        . refine .inl ⟨by simp[e1,h1],λx hx=>?_⟩;rcases p8.1 hx with rfl|hx
          . exact λh=>e1 (hinj.1 h)
          . exact h2 x hx
        . refine .inr ⟨j+1,e',by simp[e1,h1];omega,by simpa using h2,h3,λm x hm hx=>?_⟩;cases m with
          |zero=>simp at hx;subst hx;exact λh=>e1 (hinj.1 h)
          |succ m=>exact h4 m x (by omega) (by simpa using hx)
   rcases key l 0 hl with⟨h1,h2⟩|⟨j,e,h1,h2,h3,h4⟩
   . exact .inl ⟨h1,h2⟩
   . exact .inr ⟨j,e,by rw[F3] at h1;exact h1,h2,h3,h4⟩
theorem c7O (P:Program)(t:TypeId):a7d P t λ_=>False:=λ_ h=>h.elim
theorem b2W {P:Program}{t:TypeId}{d:TypeDesc}(h:P.underlying t=some d):a7d P t (IsKey d):=by
 intro k hk;refine⟨by cases d<;>cases k<;>simp_all [IsKey,Instr.sameBits,bytes_beq],λW=>⟨λem=>run_checkKey h hk em 9999,?_⟩⟩;have key:∀(l:List MapEntry) (i:Nat),(∀e∈l,IsKey d e.key)->(Instr.findNow d k l i=some none/\∀e∈l,e.key≠k)\/
  ∃(j:Nat) (e:MapEntry),Instr.findNow d k l i=some (some (i+j,e.val))/\l[j]?=some e/\e.key=k/\∀(i:Nat) (x:MapEntry),i<j->l[i]?=some x->x.key≠k:=by
  intro l;induction l with
  |nil=>intro i _;exact .inl ⟨rfl,by simp⟩
  | cons e es ih=>
    intro i hl;obtain⟨r,hr,hiff⟩:=sameNow_of_keys hk (hl e (by simp));cases r with
    |true=>exact .inr ⟨0,e,by simp[Instr.findNow,hr],rfl,(hiff.1 rfl).symm,λ_ _ h=>by omega⟩
    | false=>
      have hne:e.key≠k:=λq=>by have:=hiff.2 q.symm;cases this
      rcases ih (i+1) (λx hx=>hl x (by simp[hx])) with⟨h1,h2⟩|⟨j,e',h1,h2,h3,h4⟩
      . refine .inl ⟨by simp[Instr.findNow,hr,h1],λx hx=>?_⟩;rcases p8.1 hx with rfl|hx
        . exact hne
        . exact h2 x hx
      . refine .inr ⟨j+1,e',by simp[Instr.findNow,hr,h1];omega,by simpa using h2,h3,λm x hm hx=>?_⟩;cases m with
        |zero=>simp at hx;subst hx;exact hne
        |succ m=>exact h4 m x (by omega) (by simpa using hx)
 intro l hl;rcases key l 0 hl with⟨h1,h2⟩|⟨j,e,h1,h2,h3,h4⟩
 . exact .inl ⟨run_findKey h h1,h2⟩
 . exact .inr ⟨j,e,by rw[F3] at h1;exact run_findKey h h1,h2,h3,h4⟩
theorem o6 (P:Program)(t:TypeId):a3g P t λ_=>False:=⟨⟨λ_=>False,c7O P t,λ_ h=>h.elim,λ_ _ h=>h.elim⟩,λ_ _ h=>h.elim⟩
def M5 (k:IntKind)(d:D):Prop:=∃n,d= .v (.int k n)
def b5v (d:D):Prop:=∃b,d= .v (.bool b)
def a7c (d:D):Prop:=∃l,d= .str l
def U5 (n:Nat)(d:D):Prop:=∃ns:List Int,ns.length=n/\d= .agg (ns.map λi=> .v (.int .i64 i))
theorem V7 {P:Program}{t:TypeId}{k:IntKind}(h:P.underlying t=some (.int k)):a3g P t (M5 k):=by
 refine⟨?_,λcs ds ⟨n,h⟩=>by cases h⟩;refine⟨_,b2W h,?_,?_⟩
 . rintro d ⟨n,rfl⟩;exact⟨_,rfl,rfl,λV u hu=>hu.v_inv.1,λV ⟨V0,h⟩=> .v _ h.v_inv.2⟩
 . rintro d d' ⟨n,rfl⟩ ⟨m,rfl⟩ h;simpa[I3] using h
theorem c7J {P:Program}{t:TypeId}(h:P.underlying t=some .bool):a3g P t b5v:=by
 refine⟨?_,λcs ds ⟨n,h⟩=>by cases h⟩;refine⟨_,b2W h,?_,?_⟩
 . rintro d ⟨n,rfl⟩;exact⟨_,rfl,trivial,λV u hu=>hu.v_inv.1,λV ⟨V0,h⟩=> .v _ h.v_inv.2⟩
 . rintro d d' ⟨n,rfl⟩ ⟨m,rfl⟩ h;simpa[I3] using h
theorem b2U {P:Program}{t:TypeId}(h:P.underlying t=some .string):a3g P t a7c:=by
 refine⟨?_,λcs ds ⟨n,h⟩=>by cases h⟩;refine⟨_,b2W h,?_,?_⟩
 . rintro d ⟨n,rfl⟩;exact⟨_,rfl,trivial,λV u hu=>hu.str_inv.1,λV ⟨V0,h⟩=> .str _ h.str_inv.2⟩
 . rintro d d' ⟨n,rfl⟩ ⟨m,rfl⟩ h;simpa[I3] using h
theorem c1d (ns:List Int):valOfs (ns.map λi=>D.v (.int .i64 i))=some (ns.map (.int .i64)):=by
 induction ns with
 |nil=>rfl
 |cons n ns ih=>simp[valOfs,I3,ih]
theorem a1N {P:Program}{t:TypeId}{fs:Array Field}{n:Nat}(ht:P.underlying t=some (.struct fs))(hp:P.stoodInHeld t=false)(hn:fs.size=n)(hf:a7a P fs.toList 0)(hgd:P.eqGuardType P.depth t=false):a3g P t (U5 n):=by
 have huniq:∀(ns:List Int) V u,Rep V u (.agg (iL ns))->u= .agg ⟨ns.map (.int .i64)⟩:=by
  intro ns V u hu;obtain⟨us,rfl,hr,_⟩:=hu.agg_inv;congr 2
  apply O0;intro i;cases hi:us[i]? with
  | none=>
    have:ns.length<=i:=by
     have:=b1z.1 hi;have:=hr.len;simp at this;omega
    simp[this]
  | some u=>
    have hlt:i<ns.length:=by
     have:=hr.len;simp at this;rcases C5 i us.length with h|h
     . omega
     . rw[z6 h] at hi;cases hi
    have:=hr.get i u (.v (.int .i64 ns[i])) hi (by simp[hlt]);simp[hlt,this.v_inv.1]
 have hinj:∀a b:List Int,iL a=iL b->a=b:=λa b h=>(List.map_inj_right (λx y h=>by simpa using h)).1 h;refine⟨?_,?_⟩
 case refine_2=>
  classical
  rintro cs ds ⟨ns,l1,e1⟩ ⟨ms,l2,e2⟩;obtain rfl:=D.agg.inj e1;obtain rfl:=D.agg.inj e2;refine⟨ns.map (.int .i64),ms.map (.int .i64),huniq ns,huniq ms,λoa ob W=>?_⟩;have hfo:P.fieldsOf t=fs:=by simp[Program.fieldsOf,ht]
  have hd:decide (iL ns=iL ms)=decide (ns=ms):=by
   rw[G8,j0,j0];exact⟨hinj _ _,λe=>by rw[e]⟩
  have heq:(Op.equalIn 10000 t (.agg ⟨ns.map (.int .i64)⟩) (.agg ⟨ms.map (.int .i64)⟩)).run P W= .ok (decide (iL ns=iL ms)) W:=by
   rw[show(10000:Nat)=9999+1 from rfl,run_equalIn_struct (P:=P) W 9999 t _ _ (by rw[hfo];exact ht) hp,hfo,hd];have:=b7l (P:=P) 9998 (ns:=ns) (ms:=ms) (by omega) W fs.toList 0 hf (by simp[hn,l1]);simpa using this
  refine⟨?_,?_⟩
  . rw[r4,run_eqGuard_agg (P:=P) W .eql t oa ob _ _ hgd,r8,run_eql_struct (P:=P) W t,heq];rfl
  . rw[r4,run_eqGuard_agg (P:=P) W .neq t oa ob _ _ hgd,r8,run_neq_struct (P:=P) W t,heq];simp only[Result.andThen,decide_not]
 refine⟨_,c7N ht hp hn hf,?_,?_⟩
 . rintro d ⟨ns,hl,rfl⟩;refine⟨.agg ⟨ns.map (.int .i64)⟩,by simp[I3,c1d],⟨ns,hl,rfl⟩,λV u hu=>?_,λV ⟨V0,h⟩=>?_⟩
   . obtain ⟨us,rfl,hr,_⟩:=hu.agg_inv;congr 2
     apply O0;intro i;cases hi:us[i]? with
     | none=>
       have:ns.length<=i:=by
        have:=b1z.1 hi;have:=hr.len;simp at this;omega
       simp[this]
     | some u=>
       have hlt:i<ns.length:=by
        have:=hr.len;simp at this;rcases C5 i us.length with h|h
        . omega
        . rw[z6 h] at hi;cases hi
       have:=hr.get i u (.v (.int .i64 ns[i])) hi (by simp[hlt]);simp[hlt,this.v_inv.1]
   . obtain ⟨us,e,hr,h1⟩:=h.agg_inv;cases e;refine .agg _ _ hr.len h1 (λi u d hu hd=>?_);have:=hr.get i u d hu hd;simp only[z7] at hd;cases hn:ns[i]? with
     |none=>simp[hn] at hd
     | some q=>
       simp only[hn,G9,H0] at hd;subst hd;obtain⟨e,hw⟩:=this.v_inv;subst e;exact .v _ hw
 . rintro d d' ⟨ns,_,rfl⟩ ⟨ms,_,rfl⟩ h;simp only[I3,c1d,H0,Value.agg.injEq,Array.mk.injEq] at h;rw[(List.map_inj_right (λx y h=>by simpa using h)).1 h]
def IsKeyL:List TypeDesc->List Value->Prop
 |[],[]=>True
 |k::ks,u::us=>IsKey k u/\IsKeyL ks us
 |_,_=>False
def a5w (P:Program):List Field->List TypeDesc->Nat->Prop
 |[],[],_=>True
 | f :: fs, k :: ks, i => f.name ≠ "_" /\ P.underlying f.type = some k /\ f.offset = i /\ a5w P fs ks (i + 1)
 |_,_,_=>False
def b5o (ks:List TypeDesc)(v:Value):Prop:=∃us,IsKeyL ks us/\v= .agg ⟨us⟩
theorem IsKeyL.len:∀{ks:List TypeDesc} {us:List Value},IsKeyL ks us->ks.length=us.length
 |[],[],_=>rfl
 |_::_,_::_,h=>d6 (· +1) (IsKeyL.len h.2)
 |[],_::_,h=>h.elim
 |_::_,[],h=>h.elim
theorem b3s {P:Program}{t:TypeId}{k:TypeDesc}{u:Value}(h:P.underlying t=some k)(hk:IsKey k u){us:List Value}{i:Nat}(hi:us[i]?=some u)(W:World):
 (part t ⟨us⟩ i).run P W= .ok u W:=by
 have:us[i]?=some u:=hi;cases k<;>cases u<;>simp_all [IsKey,part,isAgg,run_underlying h]
theorem c6b {P:Program}{t:TypeId}{k:TypeDesc}{u w:Value}(h:P.underlying t=some k)(hu:IsKey k u)(hw:IsKey k w)(d:Nat)(W:World):
 ∃b:Bool,(b=true↔u=w)/\(Op.equalIn (d+1) t u w).run P W= .ok b W:=by
 cases k<;>cases u<;>simp only[IsKey] at hu<;>cases w<;>simp only[IsKey] at hw
 . exact⟨_,by simp,run_equalIn_bool' (P:=P) W d t _ _ h⟩
 . subst hu;subst hw;exact⟨_,by simp,run_equalIn_int (P:=P) W d t _ _ _ _ h⟩
 . rename_i a b;refine⟨_,?_,run_equalIn_string (P:=P) W d t _ _ h⟩;simp[ByteArray.toList_eq];constructor
   . intro e;exact ByteArray.ext e
   . intro e;rw[e]
theorem c5Q {P:Program}(d:Nat)(us ws:List Value)(W:World):∀(fs:List Field) (ks:List TypeDesc) (i:Nat),a5w P fs ks i->IsKeyL ks (us.drop i)->IsKeyL ks (ws.drop i)->
 ∃b:Bool,(b=true↔us.drop i=ws.drop i)/\(Op.eqFields (d+1) ⟨us⟩ ⟨ws⟩ fs).run P W= .ok b W:=by
 intro fs;induction fs with
 | nil=>
   intro ks i h h1 h2;cases ks with
   |cons k ks=>exact h.elim
   | nil=>
     have e1:us.drop i=[]:=by cases hh:us.drop i with|nil=>rfl|cons x l=>rw[hh] at h1;exact h1.elim
     have e2:ws.drop i=[]:=by cases hh:ws.drop i with|nil=>rfl|cons x l=>rw[hh] at h2;exact h2.elim
     exact⟨true,by simp[e1,e2],by simp[Op.eqFields]⟩
 | cons f fs ih=>
   intro ks i h h1 h2;cases ks with
   |nil=>exact h.elim
   | cons k ks=>
     obtain⟨g1,g2,g3,g4⟩:=h;cases hh:us.drop i with
     |nil=>rw[hh] at h1;exact h1.elim
     | cons u ur=>
       cases hw:ws.drop i with
       |nil=>rw[hw] at h2;exact h2.elim
       | cons w wr=>
         rw[hh] at h1;rw[hw] at h2;have hui:us[i]?=some u:=by have:=d6 (·[0]?) hh;simpa using this
         have hwi:ws[i]?=some w:=by have:=d6 (·[0]?) hw;simpa using this
         have hud:us.drop (i+1)=ur:=by rw[<-a5A,hh];rfl
         have hwd:ws.drop (i+1)=wr:=by rw[<-a5A,hw];rfl
         obtain⟨b,hb,hrun⟩:=c6b g2 h1.1 h2.1 d W;obtain⟨c,hc,hrun2⟩:=ih ks (i+1) g4 (by rw[hud];exact h1.2) (by rw[hwd];exact h2.2);rw[hud,hwd] at hc;refine⟨b&&c,by simp[hb,hc],?_⟩;simp only[Op.eqFields];rw[d4 g1,g3];simp only[r4,b3s g2 h1.1 hui,b3s g2 h2.1 hwi,r8,hrun];cases b with
         |true=>simp[hrun2]
         |false=>simp
theorem b9Z:∀{ks:List TypeDesc} {us:List Value},IsKeyL ks us->(us.zip us).all (λx=>Instr.sameBits 9999 x.1 x.2)=true
 |[],[],_=>rfl
 | k::ks,u::us,h=>by
   rw[a5G,F8,b9Z h.2,U3];have:=h.1;cases k<;>cases u<;>simp_all [IsKey,Instr.sameBits,bytes_beq]
 |[],_::_,h=>h.elim
 |_::_,[],h=>h.elim
theorem b7t {P:Program}{t:TypeId}{fs:Array Field}{ks:List TypeDesc}(ht:P.underlying t=some (.struct fs))(hp:P.stoodInHeld t=false)(hf:a5w P fs.toList ks 0){us ws:List Value}(h1:IsKeyL ks us)(h2:IsKeyL ks ws)(W:World):
 ∃b:Bool,(b=true↔us=ws)/\(Op.equalIn 10000 t (.agg ⟨us⟩) (.agg ⟨ws⟩)).run P W= .ok b W:=by
 have hfo:P.fieldsOf t=fs:=by simp[Program.fieldsOf,ht]
 obtain⟨b,hb,hrun⟩:=c5Q (P:=P) 9998 us ws W fs.toList ks 0 hf h1 h2;refine⟨b,hb,?_⟩;rw[show(10000:Nat)=9999+1 from rfl,run_equalIn_struct (P:=P) W 9999 t _ _ (by rw[hfo];exact ht) hp,hfo];exact hrun
theorem c7P {P:Program}{t:TypeId}{fs:Array Field}{ks:List TypeDesc}(ht:P.underlying t=some (.struct fs))(hp:P.stoodInHeld t=false)(hf:a5w P fs.toList ks 0):a7d P t (b5o ks):=by
 rintro k ⟨us,hus,rfl⟩;refine⟨?_,λW=>⟨λem=>?_,?_⟩⟩
 . simp only[Instr.sameBits,beq_self_eq_true,W9];exact b9Z hus
 . rw [show (10000:Nat)=9999+1 from rfl];unfold Instr.checkKey;simp only[r4,run_underlying ht,r8];rw[<-Array.forIn_toList];have key:∀(l:List Field) (ks:List TypeDesc) (i:Nat),a5w P l ks i->IsKeyL ks (us.drop i)->
    (forIn l PUnit.unit λ f _ => if f.name ≠ "_" then do
      let y<-part f.type ⟨us⟩ f.offset
      Instr.checkKey em 9999 f.type y
      pure (ForInStep.yield PUnit.unit)
      else do
       pure PUnit.unit
       pure (ForInStep.yield PUnit.unit):Sem PUnit).run P W= .ok PUnit.unit W:=by
    intro l;induction l with
    |nil=>intro ks i _ _;simp
    | cons f l ih=>
      intro ks i h h1;cases ks with
      |nil=>exact h.elim
      | cons k ks=>
        obtain⟨g1,g2,g3,g4⟩:=h;cases hh:us.drop i with
        |nil=>rw[hh] at h1;exact h1.elim
        | cons u ur=>
          rw[hh] at h1;have hui:us[i]?=some u:=by have:=d6 (·[0]?) hh;simpa using this
          have hud:us.drop (i+1)=ur:=by rw[<-a5A,hh];rfl
          have hck:(Instr.checkKey em 9999 f.type u).run P W= .ok () W:=run_checkKey g2 h1.1 em 9998;rw[List.forIn_cons];simp only[d4 g1,g3,r4,b3s g2 h1.1 hui,r8,hck,H3];exact ih ks (i+1) g4 (by rw[hud];exact h1.2)
   have:=key fs.toList ks 0 hf hus;first|exact this|(simp only[this];rfl)|trace_state
 . intro l hl;rw[run_findKey_eq W (by simp[ht])];have key:∀(l:List MapEntry) (i:Nat),(∀e∈l,b5o ks e.key)->((Instr.findAsking t (.agg ⟨us⟩) l i).run P W= .ok none W/\∀e∈l,e.key≠ .agg ⟨us⟩)\/
    ∃(j:Nat) (e:MapEntry),(Instr.findAsking t (.agg ⟨us⟩) l i).run P W= .ok (some (i+j,e.val)) W/\l[j]?=some e/\e.key= .agg ⟨us⟩/\∀(m:Nat) (x:MapEntry),m<j->l[m]?=some x->x.key≠ .agg ⟨us⟩:=by
    intro l;induction l with
    |nil=>intro i _;exact .inl ⟨by simp[Instr.findAsking],by simp⟩
    | cons e es ih=>
      intro i hl;obtain⟨ws,hws,hke⟩:=hl e (by simp);obtain⟨b,hb,heq⟩:=b7t ht hp hf hus hws W;have heq:(Op.equal t (.agg ⟨us⟩) e.key).run P W= .ok b W:=by
       rw[hke];unfold Op.equal Op.maxDepth;exact heq
      have hinj:e.key= .agg ⟨us⟩↔us=ws:=by
       rw[hke];constructor
       . intro h;have h:ws=us:=by simpa using h
         exact h.symm
       . rintro rfl;rfl
      simp only[Instr.findAsking,r4,heq,r8];by_cases e1:us=ws
      . obtain rfl:=hb.2 e1;exact .inr ⟨0,e,by simp,rfl,hinj.2 e1,λ_ _ h=>by omega⟩
      . obtain rfl:b=false:=by rw[Bool.eq_false_iff];exact λq=>e1 (hb.1 q)
        rcases ih (i+1) (λx hx=>hl x (by simp[hx])) with⟨h1,h2⟩|⟨j,e',h1,h2,h3,h4⟩
        . refine .inl ⟨by simp[h1],λx hx=>?_⟩;rcases p8.1 hx with rfl|hx
          . exact λh=>e1 (hinj.1 h)
          . exact h2 x hx
        . refine .inr ⟨j+1,e',by simp[h1];omega,by simpa using h2,h3,λm x hm hx=>?_⟩;cases m with
          |zero=>simp at hx;subst hx;exact λh=>e1 (hinj.1 h)
          |succ m=>exact h4 m x (by omega) (by simpa using hx)
   rcases key l 0 hl with⟨h1,h2⟩|⟨j,e,h1,h2,h3,h4⟩
   . exact .inl ⟨h1,h2⟩
   . exact .inr ⟨j,e,by rw[F3] at h1;exact h1,h2,h3,h4⟩
def KSc:TypeDesc->D->Prop
 | .int k, .v (.int k' _)=>k'=k
 | .bool, .v (.bool _)=>True
 | .string, .str _=>True
 |_,_=>False
def a0p:List TypeDesc->List D->Prop
 |[],[]=>True
 |k::ks,c::cs=>KSc k c/\a0p ks cs
 |_,_=>False
def a3f (ks:List TypeDesc)(d:D):Prop:=∃cs,a0p ks cs/\d= .agg cs
theorem d1r {k:TypeDesc}{c:D}(h:KSc k c):∃u,I3 c=some u/\IsKey k u/\(∀V x,Rep V x c->x=u)/\(∀V V0 x,Rep V0 x c->Rep V u c)/\∀c',KSc k c'->I3 c'=some u->c'=c:=by
 cases c with
 | v x=>
   cases k<;>cases x<;>simp only[KSc] at h
   . refine⟨_,rfl,trivial,λV x hx=>hx.v_inv.1,λV V0 x hx=> .v _ hx.v_inv.2,λc' h' e=>?_⟩;cases c'<;>simp only[KSc] at h';rename_i y;cases y<;>simp only[KSc] at h';simpa[I3] using e
   . subst h;refine⟨_,rfl,rfl,λV x hx=>hx.v_inv.1,λV V0 x hx=> .v _ hx.v_inv.2,λc' h' e=>?_⟩;cases c'<;>simp only[KSc] at h';rename_i y;cases y<;>simp only[KSc] at h';simpa[I3] using e
 | str l=>
   cases k<;>simp only[KSc] at h;refine⟨_,rfl,trivial,λV x hx=>hx.str_inv.1,λV V0 x hx=> .str _ hx.str_inv.2,λc' h' e=>?_⟩;cases c'<;>simp only[KSc] at h'
   . simpa[I3] using e
 |_=>cases k<;>simp only[KSc] at h
theorem a8z:∀{ks:List TypeDesc} {cs:List D},a0p ks cs->∃us,valOfs cs=some us/\IsKeyL ks us/\(∀V xs,Reps V xs cs->xs=us)/\(∀V V0 xs,Reps V0 xs cs->Reps V us cs)/\∀cs',a0p ks cs'->valOfs cs'=some us->cs'=cs
 |[],[],_=>⟨[],rfl,trivial,λV xs h=>by cases xs with|nil=>rfl|cons x l=>have:=h.len;simp at this,λV V0 xs h=> .nil V,λcs' h e=>by cases cs' with|nil=>rfl|cons x l=>exact h.elim⟩
 | k :: ks,c::cs,h=>by
   obtain⟨u,a1,a2,a3,a4,a5⟩:=d1r h.1;obtain⟨us,b1,b2,b3,b4,b5⟩:=a8z h.2;refine⟨u::us,by simp[valOfs,a1,b1],⟨a2,b2⟩,λV xs hx=>?_,λV V0 xs hx=>?_,λcs' h' e=>?_⟩
   . cases xs with
     |nil=>have:=hx.len;simp at this
     |cons x l=>rw[a3 V x hx.head,b3 V l hx.tail]
   . cases xs with
     |nil=>have:=hx.len;simp at this
     |cons x l=>exact .cons (a4 V V0 x hx.head) (b4 V V0 l hx.tail)
   . cases cs' with
     |nil=>exact h'.elim
     | cons c' cs'=>
       simp only[valOfs] at e;split at e
       . rename_i u' hu';split at e
         . rename_i us' hus';cases e;rw[a5 c' h'.1 hu',b5 cs' h'.2 hus']
         . cases e
       . cases e
 |[],_::_,h=>h.elim
 |_::_,[],h=>h.elim
theorem a4N {P:Program}{t:TypeId}{fs:Array Field}(ks:List TypeDesc)(ht:P.underlying t=some (.struct fs))(hp:P.stoodInHeld t=false)(hf:a5w P fs.toList ks 0)(hgd:P.eqGuardType P.depth t=false):a3g P t (a3f ks):=by
 have uniq:∀{cs us},(∀V xs,Reps V xs cs->xs=us)->∀V u,Rep V u (.agg cs)->u= .agg ⟨us⟩:=by
  intro cs us h V u hu;obtain⟨xs,rfl,hr,_⟩:=hu.agg_inv;rw[h V xs hr]
 refine⟨⟨_,c7P ht hp hf,?_,?_⟩,?_⟩
 . rintro d ⟨cs,hk,rfl⟩;obtain⟨us,b1,b2,b3,b4,b5⟩:=a8z hk;refine⟨.agg ⟨us⟩,by simp[I3,b1],⟨us,b2,rfl⟩,uniq b3,λV ⟨V0,h⟩=>?_⟩;obtain⟨xs,e,hr,h1⟩:=h.agg_inv;cases e;have:=b4 V V0 _ hr;exact .agg _ _ this.len h1 this.get
 . rintro d d' ⟨cs,hk,rfl⟩ ⟨cs',hk',rfl⟩ h;obtain⟨us,b1,b2,b3,b4,b5⟩:=a8z hk;rw[b5 cs' hk' ?_];simp only[I3,b1] at h;split at h
   . rename_i q hq;cases h;exact hq
   . cases h
 . classical
   rintro cs ds ⟨cs',hk,e⟩ ⟨ds',hk',e'⟩;obtain rfl:=D.agg.inj e;obtain rfl:=D.agg.inj e';obtain⟨us,b1,b2,b3,b4,b5⟩:=a8z hk;obtain⟨ws,c1,c2,c3,c4,c5⟩:=a8z hk';refine⟨us,ws,uniq b3,uniq c3,λoa ob W=>?_⟩;obtain⟨b,hb,heq⟩:=b7t ht hp hf b2 c2 W;obtain rfl:b=decide (cs=ds):=by
    rw[G8,j0,hb];constructor
    . rintro rfl;exact c5 cs hk b1
    . rintro rfl;rw[b1] at c1;exact U7 c1
   refine⟨?_,?_⟩
   . rw[r4,run_eqGuard_agg (P:=P) W .eql t oa ob _ _ hgd,r8,run_eql_struct (P:=P) W t,heq];rfl
   . rw[r4,run_eqGuard_agg (P:=P) W .neq t oa ob _ _ hgd,r8,run_neq_struct (P:=P) W t,heq];simp only[Result.andThen,decide_not]
theorem TOk.nil (P:Program):TOk P []:=λt ti h=>by rw[r7] at h;cases h
theorem TOk.cons {P:Program}{t:Nat}{ti:TI}{T:List (Nat×TI)}(h:b5I P t ti)(hT:TOk P T):TOk P ((t,ti)::T):=by
 intro t' ti' hl;by_cases e:t=t'
 . subst e;rw[w9] at hl;cases hl;exact h
 . rw[p5 e] at hl;exact hT t' ti' hl
end Go.Proofs.YteillnfhkeebjaaGreatDoor.Dx
