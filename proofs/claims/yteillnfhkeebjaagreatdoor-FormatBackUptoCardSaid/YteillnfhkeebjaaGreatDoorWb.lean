/- The. -/
import Derived.WalkKit
import Derived.MapKept
import Derived.Laws.Strings
set_option linter.all false
namespace Go.Proofs.YteillnfhkeebjaaGreatDoor.Dx
open Go Go.RowKit
abbrev d8:=@And.intro
abbrev a2i:=@Array.getD_eq_getD_getElem?
abbrev a6R:=@Array.getElem?_append_left
abbrev a6S:=@Array.getElem?_eq_none
abbrev a1y:=@Array.getElem?_eq_some_iff
abbrev a3c:=@Array.length_toList
abbrev b1r:=@Array.mapM_eq_mapM_toList
abbrev a0R:=@Array.toList_inj
abbrev a1z:=@Array.toList_map
abbrev U2:=@Bool.and_eq_false_iff
abbrev f0:=@Bool.and_eq_true
abbrev a4c:=@Bool.and_false
abbrev U3:=@Bool.and_true
abbrev a1A:=@Bool.eq_false_or_eq_true
abbrev G8:=@Bool.eq_iff_iff
abbrev a5r:=@Bool.false_and
abbrev Y8:=@Bool.false_eq_true
abbrev a3d:=@Bool.not_eq_true'
abbrev a2j:=@Bool.not_not
abbrev W8:=@Bool.or_eq_false_iff
abbrev C0:=@Bool.or_eq_true
abbrev W9:=@Bool.true_and
abbrev a2k:=@Bool.true_or
abbrev a0o:=@Int.le_refl
abbrev U4:=@Int.toNat_natCast
abbrev F8:=@List.all_cons
abbrev n7:=@List.all_eq_true
abbrev a2l:=@List.all_nil
abbrev N9:=@List.any_eq_true
abbrev n9:=@List.append_assoc
abbrev R4:=@List.append_nil
abbrev q8:=@List.cons_append
abbrev a9c:=@List.cons_prefix_cons
abbrev a5z:=@List.dropWhile_cons
abbrev a5A:=@List.drop_drop
abbrev F2:=@List.drop_eq_getElem_cons
abbrev a0U:=@List.drop_eq_nil_of_le
abbrev a5B:=@List.drop_length
abbrev C8:=@List.eq_nil_of_length_eq_zero
abbrev a2m:=@List.exists_cons_of_ne_nil
abbrev O0:=@List.ext_getElem?
abbrev a2n:=@List.flatMap_cons
abbrev K0:=@List.flatten_cons
abbrev Z0:=@List.foldl_cons
abbrev a7e:=@List.getD_eq_getElem?_getD
abbrev Q4:=@List.getElem?_append_left
abbrev X0:=@List.getElem?_append_right
abbrev a5C:=@List.getElem?_drop
abbrev t6:=@List.getElem?_eq_getElem
abbrev z6:=@List.getElem?_eq_none
abbrev b1z:=@List.getElem?_eq_none_iff
abbrev z7:=@List.getElem?_map
abbrev a7f:=@List.getElem?_set
abbrev X1:=@List.getElem?_take
abbrev a3i:=@List.getElem_map
abbrev q7:=@List.getElem_mem
abbrev j6:=@List.length_append
abbrev i7:=@List.length_cons
abbrev K2:=@List.length_drop
abbrev a5D:=@List.length_eq_one_iff
abbrev o9:=@List.length_map
abbrev j8:=@List.length_nil
abbrev a7g:=@List.length_pos_iff
abbrev a0q:=@List.length_tail
abbrev R5:=@List.length_take
abbrev D3:=@List.map_append
abbrev a7i:=@List.map_congr_left
abbrev o5:=@List.map_cons
abbrev L0:=@List.map_map
abbrev B8:=@List.map_nil
abbrev A8:=@List.mem_append
abbrev a9d:=@List.mem_append_left
abbrev p8:=@List.mem_cons
abbrev r6:=@List.mem_cons_of_mem
abbrev A9:=@List.mem_cons_self
abbrev a5E:=@List.mem_filter
abbrev R6:=@List.mem_filterMap
abbrev a3j:=@List.mem_flatMap
abbrev a9e:=@List.mem_iff_getElem?
abbrev v6:=@List.mem_map
abbrev M6:=@List.mem_of_getElem?
abbrev a0V:=@List.mem_of_mem_drop
abbrev Q5:=@List.mem_of_mem_take
abbrev a5F:=@List.mem_range
abbrev I4:=@List.mem_singleton
abbrev y8:=@List.nil_append
abbrev a7j:=@List.nodup_append
abbrev a1B:=@List.not_all_eq_any_not
abbrev Z1:=@List.not_mem_nil
abbrev a9f:=@List.replicate_succ
abbrev a4k:=@List.singleton_append
abbrev U6:=@List.sizeOf_lt_of_mem
abbrev Q6:=@List.sum_cons
abbrev a4l:=@List.sum_nil
abbrev a7k:=@List.take_append_drop
abbrev y6:=@List.take_of_length_le
abbrev L1:=@List.take_succ_eq_append_getElem
abbrev a5G:=@List.zip_cons_cons
abbrev Z2:=@Nat.add_mul
abbrev a3m:=@Nat.add_zero
abbrev Z3:=@Nat.beq_refl
abbrev t7:=@Nat.eq_of_beq_eq_true
abbrev X2:=@Nat.le_of_ble_eq_true
abbrev p0:=@Nat.le_refl
abbrev H8:=@Nat.le_trans
abbrev a7n:=@Nat.lt_of_lt_of_le
abbrev C5:=@Nat.lt_or_ge
abbrev a3n:=@Nat.mul_le_mul_right
abbrev a2o:=@Nat.mul_one
abbrev a3o:=@Nat.succ_mul
abbrev F3:=@Nat.zero_add
abbrev F4:=@Nat.zero_le
abbrev a5I:=@Option.map_eq_some_iff
abbrev G9:=@Option.map_some
abbrev U7:=@Option.some.inj
abbrev H0:=@Option.some.injEq
abbrev r8:=@Result.andThen_ok
abbrev r4:=@Sem.run_bind
abbrev H3:=@Sem.run_pure
abbrev d9:=@True.intro
abbrev a5L:=@UInt8.toNat_inj
abbrev d6:=@congrArg
abbrev D5:=@decide_eq_false
abbrev L4:=@decide_eq_false_iff_not
abbrev r9:=@decide_eq_true
abbrev j0:=@decide_eq_true_eq
abbrev c8:=@if_neg
abbrev d4:=@if_pos
abbrev a1R:=@of_decide_eq_true
inductive D where
 |v (x:Value)
 |bl (b:Bool)
 |str (l:List UInt8)
 |agg (cs:List D)
 |tup (cs:List D)
 |sl (xs:List (List D))
 |ptr (cs:List D) (off:Nat)
 |mp (l:List (D×D))
 |iface (t:Nat) (d:D)
 |fn (F:Nat) (fs cs:List D)
 |junk
 |raw (x:Value)
abbrev D.i (n:Int):D:= .v (.int .i64 n)
abbrev D.b (b:Bool):D:= .v (.bool b)
structure Know where
 cell:Nat->Nat->Option Value
 obj:Nat->Option Obj
structure Know.Le (V V':Know):Prop where
 cell:∀b o v,V.cell b o=some v->V'.cell b o=some v
 obj:∀r x,V.obj r=some x->V'.obj r=some x
abbrev b7L:Nat:=0
def b1w (v:Value):Prop:=v= .nilIface\/∃t p,v= .iface t p
def Glob (V:Know):Prop:=((∃m,V.cell 3 0=some (.int .i64 m))/\(∃v,V.cell 1 0=some v/\b1w v)/\∃v,V.cell 2 0=some v/\b1w v)/\∀(j:Nat) (z:Int),([1,10,100,1000,10000,100000,1000000,10000000,100000000,1000000000,10000000000,100000000000,1000000000000,10000000000000,100000000000000,1000000000000000,10000000000000000,100000000000000000,1000000000000000000,10000000000000000000]:List Int)[j]?=some z->V.cell 0 j=some (.int .u64 z)
theorem Glob.mono {V V':Know}(h:Glob V)(hle:V.Le V'):Glob V':=by
 obtain⟨⟨⟨m,hm⟩,⟨v,hv,ev⟩,⟨w,hw,ew⟩⟩,ht⟩:=h;exact⟨⟨⟨m,hle.cell _ _ _ hm⟩,⟨v,hle.cell _ _ _ hv,ev⟩,⟨w,hle.cell _ _ _ hw,ew⟩⟩,λj z hz=>hle.cell _ _ _ (ht j z hz)⟩
theorem Glob.maxLen {V:Know}(h:Glob V):∃m,V.cell 3 0=some (.int .i64 m):=h.1.1
def GlobW (W:World):Prop:=∃e,W.shape? 0=some (e,20)
theorem GlobW.keep {V:Know}{W W':World}(h:GlobW W)(hg:Glob V)(hk:∀b o v,V.cell b o=some v->W'.shape? b=W.shape? b):GlobW W':=by
 obtain⟨e,h⟩:=h;exact⟨e,(hk 0 0 _ (hg.2 0 1 rfl)).trans h⟩
structure Sees (V:Know) (W:World):Prop where
 cell:∀b o v,V.cell b o=some v->W.cell? ⟨b,o,none⟩=some v
 obj:∀r x,V.obj r=some x->W.heap[r]?=some x/\(∃es clock,x= .map es clock)
 lib:Glob V
 row:GlobW W
theorem Sees.keepRow {V:Know}{W W':World}(h:Sees V W)(hk:∀b o v,V.cell b o=some v->W'.heap[b]?=W.heap[b]?):GlobW W':=
 h.row.keep h.lib λb o v hc=>by simp only[World.shape?,hk b o v hc]
structure Fresh (V V':Know) (L:List Nat) (B:Nat):Prop where
 le:V.Le V'
 cell:∀b o v,V'.cell b o=some v->V.cell b o=some v\/b∈L\/B<=b
 obj:∀r x,V'.obj r=some x->V.obj r=some x\/r∈L\/B<=r
def w8 (k:IntKind)(n:Int):Prop:=
 match k with
 | .i64=> -9223372036854775808<=n/\n<=9223372036854775807
 | .u8=>0<=n/\n<=255
 | .u64=>0<=n/\n<=18446744073709551615
 | .u32=>0<=n/\n<=4294967295
 | .i32=> -2147483648<=n/\n<=2147483647
 |k=>k.wrap n=n
def wfV (x:Value):Prop:=x.oneCell'=true/\∀k n,x= .int k n->w8 k n
def b1A (es:Array MapEntry)(clock:Nat):Prop:=(∀e∈es.toList,e.born<clock)/\(es.toList.map (·.born)).Nodup
mutual
def I3:D->Option Value
 | .v x=>some x
 | .str l=>some (.string ⟨⟨l⟩⟩)
 | .agg ds=>match valOfs ds with
   |some us=>some (.agg ⟨us⟩)
   |none=>none
 |_=>none
def valOfs:List D->Option (List Value)
 |[]=>some []
 | d ::ds=>match I3 d with
   | some u=>match valOfs ds with
     |some us=>some (u::us)
     |none=>none
   |none=>none
end
inductive Rep (V:Know):Value->D->Prop where
 |v (x:Value) (h:wfV x):Rep V x (.v x)
 |bl (b:Bool):Rep V (.bool b) (.bl b)
 |junk (x:Value):Rep V x .junk
 |raw (x:Value) (h:x.oneCell'=true):Rep V x (.raw x)
 |str (l:List UInt8) (h:l.length<=maxLen):Rep V (.string ⟨⟨l⟩⟩) (.str l)
 | agg (us:List Value) (ds:List D) (hl:us.length=ds.length) (h1:∀u∈us,u.oneCell'=true)
    (h:∀(i:Nat) u d,us[i]?=some u->ds[i]?=some d->Rep V u d):Rep V (.agg ⟨us⟩) (.agg ds)
 | tup (us:List Value) (ds:List D) (hl:us.length=ds.length)
    (h:∀(i:Nat) u d,us[i]?=some u->ds[i]?=some d->Rep V u d):Rep V (.tuple ⟨us⟩) (.tup ds)
 |nil:Rep V (.slice none 0 0) (.sl [])
 |empty (a:Addr):Rep V (.slice (some a) 0 0) (.sl [])
 | sl (b o c k:Nat) (xs:List (List D)) (hc:xs.length<=c) (hm:c<=maxLen) (hk:∀ds∈xs,ds.length=k)
    (hex:∀(i:Nat) ds (j:Nat) d,xs[i]?=some ds->ds[j]?=some d->∃u,V.cell b (o+i*k+j)=some u/\u.oneCell'=true)
    (h:∀(i:Nat) ds (j:Nat) d u,xs[i]?=some ds->ds[j]?=some d->V.cell b (o+i*k+j)=some u->Rep V u d):
    Rep V (.slice (some ⟨b,o,none⟩) xs.length c) (.sl xs)
 | ptr (b o:Nat) (cs:List D) (off:Nat)
    (hex:∀(j:Nat) d,cs[j]?=some d->∃u,V.cell b (o+j)=some u/\u.oneCell'=true)
    (h:∀(j:Nat) d u,cs[j]?=some d->V.cell b (o+j)=some u->Rep V u d):Rep V (.pointer (some ⟨b,o+off,none⟩)) (.ptr cs off)
 |mnil:Rep V (.map none) (.mp [])
 | mp (r clock:Nat) (es:Array MapEntry) (l:List (D×D)) (ho:V.obj r=some (.map es clock)) (hm:b1A es clock) (hl:es.toList.length=l.length)
    (hkey:∀(i:Nat) e p,es.toList[i]?=some e->l[i]?=some p->I3 p.1=some e.key)
    (h:∀(i:Nat) e p,es.toList[i]?=some e->l[i]?=some p->Rep V e.val p.2):Rep V (.map (some r)) (.mp l)
 |iface (t:Nat) (x:Value) (d:D) (h:Rep V x d):Rep V (.iface t x) (.iface t d)
 | fn (F:Nat) (us ws:List Value) (fs cs:List D) (hl1:us.length=fs.length) (hl2:ws.length=cs.length)
    (h1:∀(i:Nat) u d,us[i]?=some u->fs[i]?=some d->Rep V u d)
    (h2:∀(i:Nat) u d,ws[i]?=some u->cs[i]?=some d->Rep V u d):Rep V (.func (.func F) ⟨us⟩ ⟨ws⟩) (.fn F fs cs)
inductive Cap where
 |loc (n off:Nat)
 |dat (d:D)
inductive Base where
 |d (x:D)
 |full (xs:List (List D))
 |loc (n off:Nat)
 |own (n:Nat)
 |oel (n k i r:Nat)
 |win (n k i j:Nat)
 |ag (pre:List D) (n:Nat) (post:List D)
 |agl (cs:List Cap)
 |fn (F:Nat) (fs cs:List Cap)
 |junk
def c3V (c:Cap):Base:=match c with| .loc n o=> .loc n o| .dat d=> .d d
abbrev Base.i (n:Int):Base:= .d (.v (.int .i64 n))
abbrev Base.b (b:Bool):Base:= .d (.v (.bool b))
structure TI where
 desc:TypeDesc
 size:Nat
 bytes:Nat
 zero:Value
 key:D->Prop:=λ_=>False
structure OwnS where
 e:TypeId
 k:Nat
 xs:List (List D)
 pub:Bool
inductive Blk where
 |box (cells:List Base) (ty:TypeId)
 |sl (s:OwnS)
 |mp (l:List (D×D))
 |lp (r:Loop) (g:Nat->Value×Option Nat) (V:Know) (pn:List Nat)
 |pn (g:Nat->Value×Option Nat) (ns:List Nat)
structure SSt where
 L:List (Nat×Base)
 O:List (Nat×Blk)
 pins:List Nat
structure Cfg where
 nm:List (Nat×Nat):=[]
 rs:List Nat:=[]
 sym:List Nat:=[]
 priv:List Nat:=[]
 raws:List (Nat×Nat):=[]
noncomputable def d7 {α:Type}(t:Nat)(l:List (Nat×α)):Option α:=
 @List.rec (Nat×α) (λ_=>Option α) none (λp _ ih=>cond (Nat.beq p.1 t) (some p.2) ih) l
open Classical in
noncomputable def G2:List (D×D)->D->Option D
 |[],_=>none
 |p::l,k=>if p.1=k then some p.2 else G2 l k
open Classical in
noncomputable def H5:List (D×D)->D->D->List (D×D)
 |[],k,v=>[(k,v)]
 |p::l,k,v=>if p.1=k then(k,v)::l else p::H5 l k v
def w6 (n:Nat):List Nat->Bool
 |[]=>false
 | x::xs=>match Nat.beq x n with
   |true=>true
   |false=>w6 n xs
def b7H (v:Value)(k:Value->Prop):Prop:=
 match v with
 | .bool b=>k (.bool b)
 | .int a n=>k (.int a n)
 | .float a n=>k (.float a n)
 | .complex a n m=>k (.complex a n m)
 | .string s=>k (.string s)
 | .pointer a=>k (.pointer a)
 | .slice a n c=>k (.slice a n c)
 | .map r=>k (.map r)
 | .chan r=>k (.chan r)
 | .func f a b=>k (.func f a b)
 | .nilFunc=>k .nilFunc
 | .iface t x=>k (.iface t x)
 | .nilIface=>k .nilIface
 | .agg cs=>k (.agg cs)
 | .tuple vs=>k (.tuple vs)
theorem c6N (v:Value)(k:Value->Prop):b7H v k=k v:=by cases v<;>rfl
def Z9 {α:Type}:List α->(List α->Prop)->Prop
 |[],k=>k []
 |x::xs,k=>Z9 xs λxs=>k (x::xs)
theorem a3I {α:Type}:∀(l:List α) (k:List α->Prop),Z9 l k=k l:=by
 intro l;induction l with
 |nil=>intro k;rfl
 |cons x l ih=>intro k;simp[Z9,ih]
def a6e (d:D)(k:D->Prop):Prop:=
 match d with
 | .v x=>b7H x λx=>k (.v x)
 | .bl b=>match b with|true=>k (.bl true)|false=>k (.bl false)
 | .str l=>k (.str l)
 | .agg cs=>Z9 cs λcs=>k (.agg cs)
 | .tup cs=>Z9 cs λcs=>k (.tup cs)
 | .sl xs=>k (.sl xs)
 | .ptr cs off=>Z9 cs λcs=>k (.ptr cs off)
 | .mp l=>k (.mp l)
 | .iface t d=>k (.iface t d)
 | .fn F fs cs=>k (.fn F fs cs)
 | .junk=>k .junk
 | .raw x=>k (.raw x)
theorem b2z (d:D)(k:D->Prop):a6e d k=k d:=by
 cases d<;>simp only[a6e,c6N,a3I];split<;>rfl
def a4J (b:Base)(k:Base->Prop):Prop:=
 match b with
 | .d x=>a6e x λx=>k (.d x)
 | .full xs=>k (.full xs)
 | .loc n o=>k (.loc n o)
 | .own n=>k (.own n)
 | .oel n m i r=>k (.oel n m i r)
 | .win n m i r=>k (.win n m i r)
 | .ag p n q=>k (.ag p n q)
 | .agl cs=>k (.agl cs)
 | .fn F fs cs=>k (.fn F fs cs)
 | .junk=>k .junk
theorem a7N (b:Base)(k:Base->Prop):a4J b k=k b:=by
 cases b<;>simp only[a4J,b2z]
def a2z:List Base->(List Base->Prop)->Prop
 |[],k=>k []
 |b::bs,k=>a2z bs λbs=>a4J b λb=>k (b::bs)
theorem a7O:∀(l:List Base) (k:List Base->Prop),a2z l k=k l:=by
 intro l;induction l with
 |nil=>intro k;rfl
 |cons x l ih=>intro k;simp only[a2z,ih,a7N]
def b0w {α:Type}(l:List α)(k:List α->Prop):Prop:=match l with|[]=>k []|[x]=>k [x]|x::y::r=>k (x::y::r)
theorem b9e {α:Type}(l:List α)(k:List α->Prop):b0w l k=k l:=by match l with|[]=>rfl|[x]=>rfl|x::y::r=>rfl
def b3m (l:List (Nat×Base))(k:List (Nat×Base)->Prop):Prop:=match l with|[]=>k []|(t,b)::r=>b0w r λr=>a4J b λb=>k ((t,b)::r)
theorem c9E (l:List (Nat×Base))(k:List (Nat×Base)->Prop):b3m l k=k l:=by
 cases l with
 |nil=>rfl
 |cons p r=>obtain⟨t,b⟩:=p;simp only[b3m,b9e,a7N]
def a2N (st:SSt)(k:SSt->Prop):Prop:=
 match st with
 |⟨L,O,p⟩=>b3m L λL=>b0w O λO=>b0w p λp=>k ⟨L,O,p⟩
theorem a3P (st:SSt)(k:SSt->Prop):a2N st k=k st:=by
 obtain⟨L,O,p⟩:=st;simp only[a2N,b9e,c9E]
def a2H (n:Nat)(c:Cap):Bool:=match c with| .loc m _=>Nat.beq m n| .dat _=>false
def F6 (n:Nat)(b:Base):Bool:=
 match b with
 | .loc m _=>Nat.beq m n
 | .own m=>Nat.beq m n
 | .oel m _ _ _=>Nat.beq m n
 | .win m _ _ _=>Nat.beq m n
 | .ag _ m _=>Nat.beq m n
 | .agl cs=>cs.any (a2H n)
 | .fn _ fs cs=>fs.any (a2H n)||cs.any (a2H n)
 | .d _=>false
 | .full _=>false
 | .junk=>false
def a1P (n:Nat)(b:Blk):Bool:=match b with| .box cells _=>cells.any (F6 n)| .lp _ _ _ pn=>w6 n pn| .pn _ ns=>w6 n ns|_=>false
def b9c (n:Nat)(L:List (Nat×Base)):Bool:=L.all λe=> !F6 n e.2
def b9d (n:Nat)(O:List (Nat×Blk)):Bool:=O.all λe=> !Nat.beq e.1 n&& !a1P n e.2
def F9 (n:Nat)(st:SSt):Bool:=b9c n st.L&&(b9d n st.O&& !w6 n st.pins)
def Z4:List Cap->List Nat
 |[]=>[]
 | .loc n _::r=>n::Z4 r
 | .dat _::r=>Z4 r
def A7 (b:Base):List Nat:=
 match b with
 | .loc n _=>[n]
 | .own n=>[n]
 | .oel n _ _ _=>[n]
 | .win n _ _ _=>[n]
 | .ag _ n _=>[n]
 | .agl cs=>Z4 cs
 | .fn _ fs cs=>Z4 fs++Z4 cs
 |_=>[]
def a6F (n:Nat)(f:Nat->D)(c:Cap):Cap:=match c with| .loc m off=>(match Nat.beq m n with|true=> .dat (f off)|false=> .loc m off)| .dat d=> .dat d
def D7 (n:Nat)(f:Nat->D)(g:D)(b:Base):Base:=
 match b with
 | .loc m off=>match Nat.beq m n with|true=> .d (f off)|false=> .loc m off
 | .own m=>match Nat.beq m n with|true=> .d g|false=> .own m
 | .oel m k i r=>match Nat.beq m n with|true=> .junk|false=> .oel m k i r
 | .win m k i r=>match Nat.beq m n with|true=> .junk|false=> .win m k i r
 | .ag p m q=>match Nat.beq m n with|true=> .d (.agg (p++g::q))|false=> .ag p m q
 | .agl cs=> .agl (cs.map (a6F n f))
 | .fn F fs cs=> .fn F (fs.map (a6F n f)) (cs.map (a6F n f))
 |b=>b
def a0a (n:Nat)(b:Base):Base:=match F6 n b with|true=> .junk|false=>b
def a0d (h:Base->Base):List (Nat×Base)->(List (Nat×Base)->Prop)->Prop
 |[],k=>k []
 |(t,b)::l,k=>a0d h l λl=>a4J (h b) λb=>k ((t,b)::l)
def a3M (h:Base->Base):List Base->(List Base->Prop)->Prop
 |[],k=>k []
 |b::l,k=>a3M h l λl=>a4J (h b) λb=>k (b::l)
def a0e (n:Nat)(h:Base->Base):List (Nat×Blk)->(List (Nat×Blk)->Prop)->Prop
 |[],k=>k []
 | (t,x)::l,k=>a0e n h l λl=>match Nat.beq t n with
   |true=>k l
   | false=>match x with
     | .box cells ty=>a3M h cells λcells=>k ((t, .box cells ty)::l)
     | .pn g ns=>k ((t, .pn g (ns.filter λm=> !Nat.beq m n))::l)
     |x=>k ((t,x)::l)
def M0 (n:Nat)(x:Blk):List (Nat×Blk)->(List (Nat×Blk)->Prop)->Prop
 |[],k=>k []
 | (t,y)::l,k=>match Nat.beq t n with
   |true=>k ((t,x)::l)
   |false=>M0 n x l λl=>k ((t,y)::l)
def put (st:SSt)(d:Option Nat)(b:Base):SSt:=
 match d with
 |some d=>{st with L:=(d,b)::st.L}
 |none=>st
theorem Know.Le.refl (V:Know):V.Le V:=⟨λ_ _ _ h=>h,λ_ _ h=>h⟩
theorem Know.Le.trans {V V' V'':Know}(h:V.Le V')(h':V'.Le V''):V.Le V'':=⟨λb o v x=>h'.cell b o v (h.cell b o v x),λr x y=>h'.obj r x (h.obj r x y)⟩
theorem Rep.mono {V V':Know}(hle:V.Le V'){x:Value}{d:D}(h:Rep V x d):Rep V' x d:=by
 induction h with
 |v x h=>exact .v x h
 |bl b=>exact .bl b
 |junk x=>exact .junk x
 |raw x h=>exact .raw x h
 |str l h=>exact .str l h
 |agg us ds hl h1 h ih=>exact .agg us ds hl h1 ih
 |tup us ds hl h ih=>exact .tup us ds hl ih
 |nil=>exact .nil
 |empty a=>exact .empty a
 | sl b o c k xs hc hm hk hex h ih=>
   refine .sl b o c k xs hc hm hk (λi ds j d h1 h2=>?_) (λi ds j d u h1 h2 h3=>?_)
   . obtain⟨u,hu,h1'⟩:=hex i ds j d h1 h2;exact⟨u,hle.cell _ _ _ hu,h1'⟩
   . obtain⟨u',hu,_⟩:=hex i ds j d h1 h2;have:=hle.cell _ _ _ hu;rw[h3] at this;obtain rfl:=U7 this;exact ih i ds j d u h1 h2 hu
 | ptr b o cs off hex h ih=>
   refine .ptr b o cs off (λj d h1=>?_) (λj d u h1 h3=>?_)
   . obtain⟨u,hu,h1'⟩:=hex j d h1;exact⟨u,hle.cell _ _ _ hu,h1'⟩
   . obtain⟨u',hu,_⟩:=hex j d h1;have:=hle.cell _ _ _ hu;rw[h3] at this;obtain rfl:=U7 this;exact ih j d u h1 hu
 |mnil=>exact .mnil
 |mp r clock es l ho hm hl hkey h ih=>exact .mp r clock es l (hle.obj _ _ ho) hm hl hkey ih
 |iface t x d h ih=>exact .iface t x d ih
 |fn F us ws fs cs hl1 hl2 h1 h2 ih1 ih2=>exact .fn F us ws fs cs hl1 hl2 ih1 ih2
structure Reps (V:Know) (us:List Value) (ds:List D):Prop where
 len:us.length=ds.length
 get:∀(i:Nat) u d,us[i]?=some u->ds[i]?=some d->Rep V u d
theorem Reps.mono {V V':Know}(hle:V.Le V'){us:List Value}{ds:List D}(h:Reps V us ds):Reps V' us ds:=⟨h.len,λi u d h1 h2=>(h.get i u d h1 h2).mono hle⟩
theorem Reps.nil (V:Know):Reps V [] []:=⟨rfl,λi u d h=>by simp at h⟩
theorem Reps.cons {V:Know}{u:Value}{d:D}{us:List Value}{ds:List D}(h1:Rep V u d)(h2:Reps V us ds):Reps V (u::us) (d::ds):=by
 refine⟨by simp[h2.len],λi x y hx hy=>?_⟩;cases i with
 |zero=>simp at hx hy;subst hx hy;exact h1
 |succ i=>exact h2.get i x y (by simpa using hx) (by simpa using hy)
theorem Reps.head {V:Know}{u:Value}{d:D}{us:List Value}{ds:List D}(h:Reps V (u::us) (d::ds)):Rep V u d:=h.get 0 u d rfl rfl
theorem Reps.tail {V:Know}{u:Value}{d:D}{us:List Value}{ds:List D}(h:Reps V (u::us) (d::ds)):Reps V us ds:=
 ⟨by have:=h.len;simpa using this,λi x y hx hy=>h.get (i+1) x y (by simpa using hx) (by simpa using hy)⟩
theorem Reps.one {V:Know}{us:List Value}{d:D}(h:Reps V us [d]):∃u,us=[u]/\Rep V u d:=by
 match us,h with
 |[u],h=>exact⟨u,rfl,h.head⟩
 |[],h=>have:=h.len;simp at this
 |_::_::_,h=>have:=h.len;simp at this
theorem Reps.two {V:Know}{us:List Value}{d e:D}(h:Reps V us [d,e]):∃u w,us=[u,w]/\Rep V u d/\Rep V w e:=by
 match us,h with
 |[],h=>have:=h.len;simp at this
 | u::us,h=>
   obtain⟨w,rfl,hw⟩:=h.tail.one;exact⟨u,w,rfl,h.head,hw⟩
theorem Reps.drop {V:Know}{us:List Value}{ds:List D}(h:Reps V us ds)(n:Nat):Reps V (us.drop n) (ds.drop n):=
 ⟨by simp[h.len],λi u d h1 h2=>h.get (n+i) u d (by simpa using h1) (by simpa using h2)⟩
theorem Reps.take {V:Know}{us:List Value}{ds:List D}(h:Reps V us ds)(n:Nat):Reps V (us.take n) (ds.take n):=
 ⟨by simp[h.len],λi u d h1 h2=>by
  rw[X1] at h1 h2;split at h1
  . rename_i hi;rw[d4 hi] at h2;exact h.get i u d h1 h2
  . cases h1⟩
theorem Reps.append {V:Know}{us ws:List Value}{ds es:List D}(h:Reps V us ds)(k:Reps V ws es):Reps V (us++ws) (ds++es):=
 ⟨by simp[h.len,k.len],λi u d h1 h2=>by
  by_cases hi:i<us.length
  . rw[Q4 hi] at h1;rw[Q4 (by rw[<-h.len];exact hi)] at h2;exact h.get i u d h1 h2
  . rw[X0 (by omega)] at h1;rw[X0 (by rw[<-h.len];omega),<-h.len] at h2;exact k.get _ u d h1 h2⟩
theorem Reps.at {V:Know}{us:List Value}{ds:List D}(h:Reps V us ds){i:Nat}{d:D}(hd:ds[i]?=some d):∃u,us[i]?=some u/\Rep V u d:=by
 have hi:i<ds.length:=by
  rcases C5 i ds.length with h|h
  . exact h
  . rw[z6 h] at hd;cases hd
 have hu:i<us.length:=by rw[h.len];exact hi
 exact⟨us[i],t6 hu,h.get i _ d (t6 hu) hd⟩
theorem wf_int {k:IntKind}{n:Int}:wfV (.int k n)↔w8 k n:=⟨λh=>h.2 _ _ rfl,λh=>⟨rfl,λ_ _ e=>by cases e;exact h⟩⟩
theorem d5i (b:Bool):wfV (.bool b):=⟨rfl,λ_ _ e=>by cases e⟩
theorem Rep.b {V:Know}(b:Bool):Rep V (.bool b) (.v (.bool b)):= .v _ (d5i b)
theorem Rep.int {V:Know}{k:IntKind}{n:Int}(h:w8 k n):Rep V (.int k n) (.v (.int k n)):= .v _ (wf_int.2 h)
theorem Rep.v_inv {V:Know}{x y:Value}(h:Rep V x (.v y)):x=y/\wfV y:=by cases h;exact⟨rfl,‹_›⟩
theorem Rep.int_inv {V:Know}{x:Value}{k:IntKind}{n:Int}(h:Rep V x (.v (.int k n))):x= .int k n/\w8 k n:=⟨h.v_inv.1,wf_int.1 h.v_inv.2⟩
theorem Rep.str_inv {V:Know}{x:Value}{l:List UInt8}(h:Rep V x (.str l)):x= .string ⟨⟨l⟩⟩/\l.length<=maxLen:=by cases h;exact⟨rfl,‹_›⟩
theorem Rep.agg_inv {V:Know}{x:Value}{ds:List D}(h:Rep V x (.agg ds)):∃us,x= .agg ⟨us⟩/\Reps V us ds/\∀u∈us,u.oneCell'=true:=by
 cases h with|agg us _ hl h1 h=>exact⟨us,rfl,⟨hl,h⟩,h1⟩
theorem Rep.tup_inv {V:Know}{x:Value}{ds:List D}(h:Rep V x (.tup ds)):∃us,x= .tuple ⟨us⟩/\Reps V us ds:=by
 cases h with|tup us _ hl h=>exact⟨us,rfl,⟨hl,h⟩⟩
theorem a6P {k:IntKind}{n:Int}(h:w8 k n):k.wrap n=n:=by
 cases k<;>simp only[w8] at h
 . exact h
 . exact h
 . exact IntWalk.i32_in n h
 . exact IntWalk.i64_in n h
 . exact IntWalk.u8_in n h
 . exact h
 . exact IntWalk.u32_in n h
 . exact IntWalk.u64_in n h
theorem b2K (k:IntKind)(n:Int):w8 k (k.wrap n):=by
 cases k<;>simp only[w8,IntKind.wrap,IntKind.bits,IntKind.signed,W9,a5r,j0,Y8,if_false];all_goals first|omega|(split<;>omega)|(split<;>split<;>omega)|skip
 all_goals (repeat' split)<;>simp_all<;>omega
def wfI (k:IntKind)(n:Int):Bool:=
 match k,n with
 | .i64, .ofNat m=>Nat.ble m 9223372036854775807
 | .i64, .negSucc m=>Nat.ble m 9223372036854775807
 | .i32, .ofNat m=>Nat.ble m 2147483647
 | .i32, .negSucc m=>Nat.ble m 2147483647
 | .u8, .ofNat m=>Nat.ble m 255
 | .u32, .ofNat m=>Nat.ble m 4294967295
 | .u64, .ofNat m=>Nat.ble m 18446744073709551615
 |_,_=>false
theorem d5g {k:IntKind}{n:Int}(h:wfI k n=true):w8 k n:=by
 unfold wfI at h;split at h<;>first|cases h|(have h:=X2 h;simp only[w8,Int.ofNat_eq_natCast,Int.negSucc_eq];omega)
def b0H (a b:IntKind):Bool:=
 match a,b with
 | .i8, .i8=>true| .i16, .i16=>true| .i32, .i32=>true| .i64, .i64=>true
 | .u8, .u8=>true| .u16, .u16=>true| .u32, .u32=>true| .u64, .u64=>true
 |_,_=>false
theorem c0a {a b:IntKind}(h:b0H a b=true):a=b:=by cases a<;>cases b<;>first|rfl|(simp[b0H] at h)
def a6w (k:IntKind):Bool:=match k with| .i64=>true| .u64=>true| .u8=>true| .u32=>true| .i32=>true|_=>false
def b2M (o:BinOp)(k:IntKind)(a b:Int)(kd:D->Prop):Prop:=
 match o with
 | .add=>(w8 k a->w8 k b->w8 k (a+b))/\kd (.v (.int k (a+b)))
 | .sub=>(w8 k a->w8 k b->w8 k (a-b))/\kd (.v (.int k (a-b)))
 | .mul=>(w8 k a->w8 k b->w8 k (a*b))/\kd (.v (.int k (a*b)))
 | .quo=>match a6w k with
   |true=>(w8 k a->w8 k b->0<=a/\1<=b)/\kd (.v (.int k (a/b)))
   |false=>False
 | .rem=>match a6w k with
   |true=>(w8 k a->w8 k b->0<=a/\1<=b)/\kd (.v (.int k (a%b)))
   |false=>False
 | .and=>kd (.v (.int k (k.wrap (BitVec.ofInt k.bits a&&&BitVec.ofInt k.bits b).toNat)))
 | .or=>kd (.v (.int k (k.wrap (BitVec.ofInt k.bits a|||BitVec.ofInt k.bits b).toNat)))
 | .eql=>kd (.v (.bool (decide (a=b))))
 | .neq=>kd (.v (.bool (decide (a≠b))))
 | .lss=>kd (.v (.bool (decide (a<b))))
 | .leq=>kd (.v (.bool (decide (a<=b))))
 | .gtr=>kd (.v (.bool (decide (a>b))))
 | .geq=>kd (.v (.bool (decide (a≥b))))
 |_=>False
def a9t (d:D):Option Bool:=match d with| .v (.bool b)=>some b| .bl b=>some b|_=>none
theorem a9v {V:Know}{x:Value}{d:D}{b:Bool}(h:a9t d=some b)(hx:Rep V x d):x= .bool b:=by
 unfold a9t at h;split at h
 . cases h;exact hx.v_inv.1
 . cases h;cases hx;rfl
 . cases h
def b2P (d:TypeDesc):Bool:=match d with| .bool=>true|_=>false
def a7S (d:TypeDesc):Bool:=match d with| .interface _=>true|_=>false
noncomputable def a0B (T:List (Nat×TI))(ty:Nat)(p:TypeDesc->Bool):Bool:=match d7 ty T with|some ti=>p ti.desc|none=>false
abbrev iL (ns:List Int):List D:=ns.map λi=> .v (.int .i64 i)
def a4M:List D->Option (List Int)
 |[]=>some []
 | .v (.int .i64 n)::r=>match a4M r with
   |some l=>some (n::l)
   |none=>none
 |_=>none
theorem b7Y:∀{cs:List D} {l:List Int},a4M cs=some l->cs=iL l:=by
 intro cs;induction cs with
 |nil=>intro l h;cases h;rfl
 | cons c cs ih=>
   intro l h;unfold a4M at h;split at h
   . rename_i e;cases e
   . rename_i n r e;cases e;split at h
     . rename_i m hm;cases h;rw[ih hm];rfl
     . cases h
   . cases h
open Classical in
noncomputable def b1V (T:List (Nat×TI))(o:BinOp)(ty:TypeId)(x y:D)(kd:D->Prop):Prop:=
 match x,y with
 | .v (.int k a), .v (.int k' b)=>match b0H k k' with
   |true=>b2M o k a b kd
   |false=>False
 | .str a, .str b=>match o with
   | .eql=>kd (.v (.bool (decide (a=b))))
   | .neq=>kd (.v (.bool (decide (a≠b))))
   | .add=>(a.length<=maxLen->b.length<=maxLen->a.length+b.length<=maxLen)/\kd (.str (a++b))
   |_=>False
 | .iface _ _, .v .nilIface=>match a0B T ty a7S,o with
   |true, .eql=>kd (.bl false)
   |true, .neq=>kd (.bl true)
   |_,_=>False
 | .agg cs, .agg cs'=>match d7 ty T,a4M cs,a4M cs',o with
   |some ti,some l,some l', .eql=>(ti.key (.agg cs)/\ti.key (.agg cs'))/\kd (.v (.bool (decide (l=l'))))
   |some ti,some l,some l', .neq=>(ti.key (.agg cs)/\ti.key (.agg cs'))/\kd (.v (.bool (decide (l≠l'))))
   |some ti,_,_, .eql=>(ti.key (.agg cs)/\ti.key (.agg cs'))/\kd (.v (.bool (decide (cs=cs'))))
   |some ti,_,_, .neq=>(ti.key (.agg cs)/\ti.key (.agg cs'))/\kd (.v (.bool (decide (cs≠cs'))))
   |_,_,_,_=>False
 | x,y=>match a9t x,a9t y with
   | some a,some b=>match a0B T ty b2P,o with
     |true, .eql=>kd (.v (.bool (decide (a=b))))
     |true, .neq=>kd (.v (.bool (decide (a≠b))))
     |_,_=>False
   |_,_=>False
def a7d (P:Program)(t:TypeId)(S:Value->Prop):Prop:=∀k,S k->Instr.sameBits 10000 k k=true/\∀W:World,(∀em,(Instr.checkKey em 10000 t k).run P W= .ok () W)/\
 ∀ l:List MapEntry,(∀e∈l,S e.key)->((Instr.findKey t k l).run P W= .ok none W/\∀e∈l,e.key≠k)\/
   ∃(j:Nat) (e:MapEntry),(Instr.findKey t k l).run P W= .ok (some (j,e.val)) W/\l[j]?=some e/\e.key=k/\∀(i:Nat) (x:MapEntry),i<j->l[i]?=some x->x.key≠k
def b5w (P:Program)(t:TypeId)(S:D->Prop):Prop:=∃S':Value->Prop,a7d P t S'/\(∀d,S d->∃k,I3 d=some k/\S' k/\(∀V u,Rep V u d->u=k)/\∀V,(∃V0,Rep V0 k d)->Rep V k d)/\∀d d',S d->S d'->I3 d=I3 d'->d=d'
open Classical in
def EqD (P:Program)(t:TypeId)(S:D->Prop):Prop:=∀cs ds:List D,S (.agg cs)->S (.agg ds)->∃us ws:List Value,(∀V u,Rep V u (.agg cs)->u= .agg ⟨us⟩)/\(∀V u,Rep V u (.agg ds)->u= .agg ⟨ws⟩)/\∀(oa ob:Operand) (W:World),
 (do eqGuard .eql t oa ob (.agg ⟨us⟩) (.agg ⟨ws⟩);binOp .eql t (.agg ⟨us⟩) (.agg ⟨ws⟩):Sem Value).run P W= .ok (.bool (decide (cs=ds))) W/\
 (do eqGuard .neq t oa ob (.agg ⟨us⟩) (.agg ⟨ws⟩);binOp .neq t (.agg ⟨us⟩) (.agg ⟨ws⟩):Sem Value).run P W= .ok (.bool (decide (cs≠ds))) W
def a3g (P:Program)(t:TypeId)(S:D->Prop):Prop:=b5w P t S/\EqD P t S
def TI.agg (t:TI):Bool:=match t.desc with| .struct _=>true| .array _ _=>true|_=>false
def b5I (P:Program)(t:TypeId)(ti:TI):Prop:=
 P.underlying t=some ti.desc/\(P.info? t).map (λi=>(i.size,i.bytes,i.zero))=some (ti.size,ti.bytes,some ti.zero)/\ti.zero.cells.size=ti.size/\a3g P t ti.key
def TOk (P:Program)(T:List (Nat×TI)):Prop:=∀t ti,d7 t T=some ti->b5I P t ti
section
variable {P:Program} {T:List (Nat×TI)}
theorem b7o {W:World}(o:BinOp)(ty:TypeId)(x y:Operand)(k k':IntKind)(a b:Int):
 (eqGuard o ty x y (.int k a) (.int k' b)).run P W= .ok () W:=by cases o<;>simp[eqGuard]
theorem b2o {W:World}(o:BinOp)(ty:TypeId)(x y:Operand)(a b:ByteArray):
 (eqGuard o ty x y (.string a) (.string b)).run P W= .ok () W:=by cases o<;>simp[eqGuard]
theorem b7m {W:World}(o:BinOp)(ty:TypeId)(x y:Operand)(a b:Bool):
 (eqGuard o ty x y (.bool a) (.bool b)).run P W= .ok () W:=by cases o<;>simp[eqGuard]
theorem b7n {W:World}(o:BinOp)(ty:TypeId)(x y:Operand)(t:TypeId)(v:Value):
 (eqGuard o ty x y (.iface t v) .nilIface).run P W= .ok () W:=by cases o<;>simp[eqGuard]
theorem c5D {a b:Int}(ha:0<=a)(hb:1<=b):0<=a/b/\a/b<=a:=
 ⟨Int.ediv_nonneg ha (by omega),Int.ediv_le_self _ ha⟩
theorem c9d {a b:Int}(_ha:0<=a)(hb:1<=b):0<=a%b/\a%b<b:=⟨Int.emod_nonneg _ (by omega),Int.emod_lt_of_pos _ (by omega)⟩
theorem TOk.row (hT:TOk P T){t:TypeId}{ti:TI}(h:d7 t T=some ti):P.underlying t=some ti.desc:=(hT t ti h).1
theorem TOk.info (hT:TOk P T){t:TypeId}{ti:TI}(h:d7 t T=some ti):
 ∃i,P.info? t=some i/\i.size=ti.size/\i.bytes=ti.bytes/\i.zero=some ti.zero:=by
 have:=(hT t ti h).2.1;cases hi:P.info? t with
 |none=>simp[hi] at this
 |some i=>simp[hi] at this;exact⟨i,rfl,this.1,this.2.1,this.2.2⟩
theorem TOk.sizeOf (hT:TOk P T){t:TypeId}{ti:TI}(h:d7 t T=some ti)(W:World):(sizeOf t).run P W= .ok ti.size W:=by
 obtain⟨i,hi,hs,_⟩:=hT.info h;simp[Go.sizeOf,typeInfo,hi,hs]
theorem TOk.zeroValue (hT:TOk P T){t:TypeId}{ti:TI}(h:d7 t T=some ti)(W:World):(zeroValue t).run P W= .ok ti.zero W:=by
 obtain⟨i,hi,_,_,hz⟩:=hT.info h;simp[Go.zeroValue,typeInfo,hi,hz]
theorem TOk.under (hT:TOk P T){t:TypeId}{ti:TI}(h:d7 t T=some ti)(W:World):(underlying t).run P W= .ok ti.desc W:=run_underlying (hT.row h) W
theorem TOk.isAgg (hT:TOk P T){t:TypeId}{ti:TI}(h:d7 t T=some ti)(W:World):(isAgg t).run P W= .ok ti.agg W:=by
 simp only[Go.isAgg,r4,hT.under h W,r8,TI.agg];cases ti.desc<;>rfl
theorem b6Z (hT:TOk P T){ty:TypeId}(h:a0B T ty b2P=true):P.underlying ty=some .bool:=by
 unfold a0B at h;split at h
 . rename_i ti ht;have:=hT.row ht;unfold b2P at h;split at h
   . rename_i e;rw[this,e]
   . cases h
 . cases h
theorem a5Z (hT:TOk P T){ty:TypeId}(h:a0B T ty a7S=true):∃m,P.underlying ty=some (.interface m):=by
 unfold a0B at h;split at h
 . rename_i ti ht;have:=hT.row ht;unfold a7S at h;split at h
   . rename_i e;exact⟨_,by rw[this,e]⟩
   . cases h
 . cases h
theorem b9T (w:World){t:TypeId}{m:Array (String×TypeId)}(u:TypeId)(x:Value)(h:P.underlying t=some (.interface m)):(Op.equal t (.iface u x) .nilIface).run P w= .ok false w:=by
 unfold Op.equal Op.maxDepth;rw[show(10000:Nat)=9999+1 from rfl];unfold Op.equalIn;simp only[r4,run_underlying h,r8];rfl
theorem c7q {o:BinOp}{k:IntKind}{a b:Int}{kd:D->Prop}(h:b2M o k a b kd)(ha:w8 k a)(hb:w8 k b):
 ∃v d,kd d/\(∀V,Rep V v d)/\∀(ty:TypeId) (W:World),(binOp o ty (.int k a) (.int k b)).run P W= .ok v W:=by
 cases o<;>simp only[b2M] at h
 case add=>exact⟨_,_,h.2,λV=> .int (h.1 ha hb),λty W=>by simp[binOp,Op.intArith,a6P (h.1 ha hb)]⟩
 case sub=>exact⟨_,_,h.2,λV=> .int (h.1 ha hb),λty W=>by simp[binOp,Op.intArith,a6P (h.1 ha hb)]⟩
 case mul=>exact⟨_,_,h.2,λV=> .int (h.1 ha hb),λty W=>by simp[binOp,Op.intArith,a6P (h.1 ha hb)]⟩
 case quo=>
  split at h
  case h_2=>exact h.elim
  rename_i hk;obtain⟨h0,h1⟩:=h.1 ha hb;have hd:=c5D h0 h1;have hi:w8 k (a/b):=by cases k<;>simp[a6w] at hk<;>simp only[w8] at ha⊢ <;>omega
  refine⟨_,_,h.2,λV=> .int hi,λty W=>?_⟩;have hb:¬b=0:=by omega
  simp[binOp,Op.intDiv,hb,Int.tdiv_eq_ediv_of_nonneg h0,a6P hi]
 case rem=>
  split at h
  case h_2=>exact h.elim
  rename_i hk;obtain⟨h0,h1⟩:=h.1 ha hb;have hd:=c9d h0 h1;have hi:w8 k (a%b):=by cases k<;>simp[a6w] at hk<;>simp only[w8] at hb⊢ <;>omega
  refine⟨_,_,h.2,λV=> .int hi,λty W=>?_⟩;have hb:¬b=0:=by omega
  simp[binOp,Op.intDiv,hb,Int.tmod_eq_emod_of_nonneg h0]
 case and=>exact⟨_,_,h,λV=> .int (b2K _ _),λty W=>by simp[binOp,Op.intBits]⟩
 case or=>exact⟨_,_,h,λV=> .int (b2K _ _),λty W=>by simp[binOp,Op.intBits]⟩
 all_goals exact⟨_,_,h,λV=> .b _,λty W=>by simp[binOp,Op.intCmp]<;>first|rfl|(rw[G8];simp)⟩
theorem c3I (hT:TOk P T){o:BinOp}{ty:TypeId}{x y:D}{kd:D->Prop}(h:b1V T o ty x y kd){V0:Know}{u0 w0:Value}(h1:Rep V0 u0 x)(h2:Rep V0 w0 y):
 ∃d,kd d/\∀V u w,Rep V u x->Rep V w y->∃v,Rep V v d/\∀(a b:Operand) (W:World),(do eqGuard o ty a b u w;binOp o ty u w:Sem Value).run P W= .ok v W:=by
 unfold b1V at h;split at h
 . rename_i k a k' b;split at h
   case h_2=>exact h.elim
   rename_i hk;obtain rfl:=c0a hk;obtain⟨v,d,hkd,hv,hrun⟩:=c7q (P:=P) h h1.int_inv.2 h2.int_inv.2;refine⟨d,hkd,λV u w hu hw=>⟨v,hv V,λoa ob W=>?_⟩⟩;obtain rfl:=hu.int_inv.1;obtain rfl:=hw.int_inv.1;simp only[r4,b7o,r8];exact hrun ty W
 . rename_i a b;split at h
   . refine⟨_,h,λV u w hu hw=>⟨_, .b _,λoa ob W=>?_⟩⟩;rw[hu.str_inv.1,hw.str_inv.1];simp only[r4,b2o,r8];simp[binOp,Op.stringOp,ByteArray.toList_eq];rw[G8];simp
   . refine⟨_,h,λV u w hu hw=>⟨_, .b _,λoa ob W=>?_⟩⟩;rw[hu.str_inv.1,hw.str_inv.1];simp only[r4,b2o,r8];simp[binOp,Op.stringOp,ByteArray.toList_eq];rw[G8];simp
   . obtain⟨ho,h⟩:=h;have hs:=ho h1.str_inv.2 h2.str_inv.2;refine⟨_,h,λV u w hu hw=>⟨.string ⟨⟨a++b⟩⟩, .str _ (by simpa using hs),λoa ob W=>?_⟩⟩;rw[hu.str_inv.1,hw.str_inv.1];simp only[r4,b2o,r8];have e:(⟨⟨a⟩⟩:ByteArray)++⟨⟨b⟩⟩=⟨⟨a++b⟩⟩:=by
      apply ByteArray.ext;simp
     simp only[binOp];rw[<-e];refine run_string_add_sum _ _ _ ?_;show a.length+b.length<=_;simp only[maxLen] at hs;exact hs
   . exact h.elim
 . split at h
   . rename_i hd;obtain⟨m,hd⟩:=a5Z hT hd;exact⟨_,h,λV u w hu hw=>⟨_, .bl _,λoa ob W=>by
      cases hu;obtain rfl:=hw.v_inv.1;simp only[r4,b7n,r8,binOp,b9T W _ _ hd,H3]⟩⟩
   . rename_i hd;obtain⟨m,hd⟩:=a5Z hT hd;exact⟨_,h,λV u w hu hw=>⟨_, .bl _,λoa ob W=>by
      cases hu;obtain rfl:=hw.v_inv.1;simp only[r4,b7n,r8,binOp,b9T W _ _ hd,H3,Bool.not_false]⟩⟩
   . exact h.elim
 . rename_i cs cs';classical
   have hinj:∀{l l':List Int},a4M cs=some l->a4M cs'=some l'->((l=l')↔(cs=cs')):=by
    intro l l' hl hl';rw[b7Y hl,b7Y hl'];exact⟨λe=>by rw[e],λe=>(List.map_inj_right (λx y h=>by simpa using h)).1 e⟩
   have fin:∀{ti:TI} {b:Bool},d7 ty T=some ti->ti.key (.agg cs)/\ti.key (.agg cs')->((o= .eql/\(b=true↔cs=cs'))\/(o= .neq/\(b=true↔cs≠cs')))->kd (.v (.bool b))->
    ∃d,kd d/\∀V u w,Rep V u (.agg cs)->Rep V w (.agg cs')->∃v,Rep V v d/\∀(a b:Operand) (W:World),(do eqGuard o ty a b u w;binOp o ty u w:Sem Value).run P W= .ok v W:=by
    intro ti b hti hk hb h;obtain⟨us,ws,e1,e2,e3⟩:=(hT _ _ hti).2.2.2.2 cs cs' hk.1 hk.2;refine⟨_,h,λV u w hu hw=>⟨_, .b _,λoa ob W=>?_⟩⟩;rw[e1 V u hu,e2 V w hw];rcases hb with⟨rfl,hb⟩|⟨rfl,hb⟩
    . rw[(e3 oa ob W).1];congr 2
      rw[G8,j0];exact hb.symm
    . rw[(e3 oa ob W).2];congr 2
      rw[G8,j0];exact hb.symm
   split at h
   . rename_i ti l l' hti hl hl';exact fin hti h.1 (.inl ⟨rfl,by rw[j0];exact hinj hl hl'⟩) h.2
   . rename_i ti l l' hti hl hl';exact fin hti h.1 (.inr ⟨rfl,by rw[j0];exact not_congr (hinj hl hl')⟩) h.2
   . have hti:=‹d7 ty T=some _›;exact fin hti h.1 (.inl ⟨rfl,by rw[j0]⟩) h.2
   . have hti:=‹d7 ty T=some _›;exact fin hti h.1 (.inr ⟨rfl,by rw[j0]⟩) h.2
   . exact h.elim
 . split at h
   case h_2=>exact h.elim
   rename_i a b ha hb;split at h
   . rename_i hd;have hd:=b6Z hT hd;exact⟨_,h,λV u w hu hw=>⟨_, .b _,λoa ob W=>by
      rw[a9v ha hu,a9v hb hw];simp only[r4,b7m,r8,run_eql_bool W _ _ _ hd,Bool.beq_eq_decide_eq]⟩⟩
   . rename_i hd;have hd:=b6Z hT hd;exact⟨_,h,λV u w hu hw=>⟨_, .b _,λoa ob W=>by
      rw[a9v ha hu,a9v hb hw];simp only[r4,b7m,r8,run_neq_bool W _ _ _ hd,Bool.beq_eq_decide_eq,decide_not]⟩⟩
   . exact h.elim
end
def a6m (v:Value):Option D:=
 match v with
 | .bool b=>some (.v (.bool b))
 | .int k n=>match wfI k n with|true=>some (.v (.int k n))|false=>none
 | .string s=>match Nat.ble s.data.toList.length 1000000 with|true=>some (.str s.data.toList)|false=>none
 | .slice none n c=>match n,c with|0,0=>some (.sl [])|_,_=>none
 | .map none=>some (.mp [])
 | .pointer none=>some (.v (.pointer none))
 | .nilFunc=>some (.v .nilFunc)
 | .nilIface=>some (.v .nilIface)
 |_=>none
def a4O:List Value->Option (List D)
 |[]=>some []
 | v ::vs=>match a6m v with
   | some d=>match a4O vs with
     |some ds=>some (d::ds)
     |none=>none
   |none=>none
theorem b0j {v:Value}{d:D}(h:a6m v=some d)(V:Know):Rep V v d/\v.oneCell'=true:=by
 unfold a6m at h;split at h
 . cases h;exact⟨.b _,rfl⟩
 . split at h
   . rename_i hw;cases h;exact⟨.int (d5g hw),rfl⟩
   . cases h
 . rename_i s;split at h
   . rename_i hl;cases h;exact⟨.str s.data.toList (by have:=X2 hl;simp only[maxLen];omega),rfl⟩
   . cases h
 . split at h
   . cases h;exact⟨.nil,rfl⟩
   . cases h
 . cases h;exact⟨.mnil,rfl⟩
 . cases h;exact⟨.v _ ⟨rfl,λ_ _ e=>by cases e⟩,rfl⟩
 . cases h;exact⟨.v _ ⟨rfl,λ_ _ e=>by cases e⟩,rfl⟩
 . cases h;exact⟨.v _ ⟨rfl,λ_ _ e=>by cases e⟩,rfl⟩
 . cases h
theorem b0k (V:Know):∀{vs:List Value} {ds:List D},a4O vs=some ds->Reps V vs ds/\∀v∈vs,v.oneCell'=true:=by
 intro vs;induction vs with
 |nil=>intro ds h;cases h;exact⟨.nil V,by simp⟩
 | cons v vs ih=>
   intro ds h;simp only[a4O] at h;split at h
   case h_2=>cases h
   rename_i d hd;split at h
   case h_2=>cases h
   rename_i es hes;cases h;obtain⟨h1,h2⟩:=b0j hd V;obtain⟨h3,h4⟩:=ih hes;exact⟨.cons h1 h3,by simpa using ⟨h2,h4⟩⟩
def a7Z (v:Value):Option D:=
 match v with
 | .agg cs=>match a4O cs.toList with
   |some ds=>some (.agg ds)
   |none=>none
 |v=>a6m v
theorem b0l {v:Value}{d:D}(h:a7Z v=some d)(V:Know):Rep V v d:=by
 unfold a7Z at h;split at h
 . rename_i cs;split at h
   . rename_i ds hds;cases h;obtain⟨h1,h2⟩:=b0k V hds;exact .agg cs.toList ds h1.len h2 h1.get
   . cases h
 . exact(b0j h V).1
def cellsL (v:Value):List Value:=match v with| .agg cs=>cs.toList|v=>[v]
theorem cellsL_eq (v:Value):v.cells.toList=cellsL v:=by cases v<;>rfl
theorem b1Z {v:Value}(h:v.oneCell'=true):cellsL v=[v]:=by cases v<;>first|rfl|cases h
def a5X (d:D):Option (List D):=
 match d with
 | .agg cs=>some cs
 | .tup _=>none
 | .junk=>none
 | .bl b=>some [.v (.bool b)]
 |d=>some [d]
theorem Rep.bl_b {V:Know}{u:Value}{b:Bool}(h:Rep V u (.bl b)):u= .bool b:=by cases h;rfl
theorem a9J {V:Know}{u:Value}{d:D}{cs:List D}(h:a5X d=some cs)(hr:Rep V u d):Reps V (cellsL u) cs/\∀x∈cellsL u,x.oneCell'=true:=by
 have one:∀{d':D},u.oneCell'=true->Rep V u d'->cs=[d']->Reps V (cellsL u) cs/\∀x∈cellsL u,x.oneCell'=true:=by
  intro d' h1 h2 h3;subst h3;rw[b1Z h1];exact⟨.cons h2 (.nil V),by simpa using h1⟩
 cases hr with
 |agg us ds hl h1 hh=>cases h;exact⟨⟨hl,hh⟩,h1⟩
 |tup=>cases h
 |junk=>cases h
 |raw x hx=>cases h;exact one hx (.raw _ hx) rfl
 |bl b=>cases h;exact one rfl (.b _) rfl
 |v x hx=>cases h;exact one hx.1 (.v _ hx) rfl
 |str l hl=>cases h;exact one rfl (.str l hl) rfl
 |nil=>cases h;exact one rfl .nil rfl
 |empty a=>cases h;exact one rfl (.empty a) rfl
 |sl b o c k xs hc hm hk hex hh=>cases h;exact one rfl (.sl b o c k xs hc hm hk hex hh) rfl
 |ptr b o cs' off hex hh=>cases h;exact one rfl (.ptr b o cs' off hex hh) rfl
 |mnil=>cases h;exact one rfl .mnil rfl
 |mp r clock es l ho hm hl hkey hh=>cases h;exact one rfl (.mp r clock es l ho hm hl hkey hh) rfl
 |iface t x d' hh=>cases h;exact one rfl (.iface t x d' hh) rfl
 |fn F us ws fs cs' hl1 hl2 h1 h2=>cases h;exact one rfl (.fn F us ws fs cs' hl1 hl2 h1 h2) rfl
def setRun {α:Type}(cs:List α)(off:Nat):List α->List α
 |[]=>cs
 |v::vs=>setRun (cs.set off v) (off+1) vs
theorem a1V {α:Type}(vs:List α):∀(cs:List α) (off:Nat),(setRun cs off vs).length=cs.length:=by
 induction vs with
 |nil=>intros;rfl
 |cons v vs ih=>intro cs off;simp[setRun,ih]
theorem Q2 {α:Type}(vs:List α):∀(cs:List α) (off j:Nat),off+vs.length<=cs.length->
 (setRun cs off vs)[j]?=if off<=j/\j<off+vs.length then vs[j-off]? else cs[j]?:=by
 induction vs with
 |nil=>intro cs off j _;simp[setRun];omega
 | cons v vs ih=>
   intro cs off j h;simp only[i7] at h;rw[setRun,ih _ _ _ (by simp;omega)];by_cases h1:off+1<=j/\j<off+1+vs.length
   . rw[d4 h1,d4 (by simp only[i7];omega)];rw[show j-off=(j-(off+1))+1 from by omega];simp
   . rw [c8 h1];by_cases h2:j=off
     . subst h2;rw[d4 (by simp)];simp[a7f];omega
     . rw[c8 (by simp only[i7];omega)];rw[List.getElem?_set_ne (by omega)]
theorem Reps.setRun {V:Know}{us ws:List Value}{ds es:List D}(h:Reps V us ds)(k:Reps V ws es){off:Nat}(hf:off+ws.length<=us.length):Reps V (setRun us off ws) (setRun ds off es):=by
 refine⟨by simp[a1V,h.len],λi u d h1 h2=>?_⟩;rw[Q2 _ _ _ _ hf] at h1;rw[Q2 _ _ _ _ (by rw[<-k.len,<-h.len];exact hf),<-k.len] at h2;split at h1
 . rename_i hc;rw[d4 hc] at h2;exact k.get _ u d h1 h2
 . rename_i hc;rw[c8 hc] at h2;exact h.get i u d h1 h2
theorem a5d {α:Type}{p:α->Prop}{ws:List α}:∀{us:List α} {off:Nat},(∀u∈us,p u)->(∀u∈ws,p u)->∀u∈setRun us off ws,p u:=by
 induction ws with
 |nil=>intro us off h _;exact h
 | cons w ws ih=>
   intro us off h k;refine ih (λu hu=>?_) (λu hu=>k u (r6 _ hu));rcases List.mem_or_eq_of_mem_set hu with hu|rfl
   . exact h u hu
   . exact k u (by simp)
def a1M (place:Nat->Option (Nat×Nat))(cells:List Value):List (Nat×Value)->Option (List Value)
 |[]=>some cells
 | (i,v)::rest=>match place i with
   |none=>none
   | some (off,size)=>match Nat.beq (cellsL v).length size&&Nat.ble (off+size) cells.length with
     |true=>a1M place (setRun cells off (cellsL v)) rest
     |false=>none
def Z8 (place:Nat->Option (Nat×Nat))(cells:List D):List (Nat×D)->Option (List D)
 |[]=>some cells
 | (i, d)::rest=>match place i with
   |none=>none
   | some (off,size)=>match a5X d with
     |none=>none
     | some cs=>match Nat.beq cs.length size&&Nat.ble (off+size) cells.length with
       |true=>Z8 place (setRun cells off cs) rest
       |false=>none
theorem b7z {V:Know}{place:Nat->Option (Nat×Nat)}:∀{is:List Nat} {vs:List Value} {ds:List D} {us:List Value} {cells r:List D},is.length=vs.length->Reps V vs ds->Reps V us cells->(∀u∈us,u.oneCell'=true)->
 Z8 place cells (is.zip ds)=some r->∃w,a1M place us (is.zip vs)=some w/\Reps V w r/\∀u∈w,u.oneCell'=true:=by
 intro is;induction is with
 |nil=>intro vs ds us cells r hl _ hu h1 h;simp only[List.zip_nil_left,Z8,H0] at h;subst h;exact⟨us,rfl,hu,h1⟩
 | cons i is ih=>
   intro vs ds us cells r hl hv hu h1 h;match vs,ds,hl,hv with
   |[],_,hl,_=>simp at hl
   |v::vs,[],_,hv=>have:=hv.len;simp at this
   | v::vs,d::ds,hl,hv=>
     simp only[a5G,Z8] at h;split at h
     . cases h
     rename_i off size hp;split at h
     . cases h
     rename_i cs hcs;split at h
     case h_2=>cases h
     rename_i hb;obtain⟨h3,h4⟩:=a9J hcs hv.head;have hlen:=h3.len;simp only[f0] at hb;have hle:=X2 hb.2;have hsz:cs.length=size:=t7 hb.1;obtain⟨w,hw,hr,ho⟩:=ih (us:=Dx.setRun us off (cellsL v)) (by simpa using hl) hv.tail (hu.setRun h3 (by rw[hlen,hu.len,hsz];exact hle)) (a5d h1 h4) h;refine⟨w,?_,hr,ho⟩;simp only[a5G,a1M,hp];rw[hlen,hu.len,hb.1,hb.2];exact hw
theorem c6M (vs:List Value):∀(j off:Nat) (cs:Array Value),
 (vs.zipIdx j).foldl (λ(cs:Array Value) (x:Value×Nat)=>cs.setIfInBounds (off+x.2) x.1) cs=(setRun cs.toList (off+j) vs).toArray:=by
 induction vs with
 |nil=>intros;simp[setRun]
 | cons v vs ih=>
   intro j off cs;simp only[List.zipIdx_cons,Z0,setRun];rw[ih];simp[Nat.add_assoc]
theorem a7K (place:Nat->Option (Nat×Nat))(parts:List (Nat×Value)):∀(cells r:List Value),a1M place cells parts=some r->
 Instr.fill place cells.toArray parts=some r.toArray:=by
 induction parts with
 |nil=>intro cells r h;simp[a1M] at h;simp[Instr.fill,h]
 | cons p parts ih=>
   obtain⟨i,v⟩:=p;intro cells r h;simp only[a1M] at h;cases hp:place i with
   |none=>simp[hp] at h
   | some os=>
     obtain⟨off,size⟩:=os;simp only[hp] at h;split at h
     . rename_i hb;simp only[f0,Nat.ble_eq] at hb;have hb1:(cellsL v).length=size:=t7 hb.1;have hsz:v.cells.size=size:=by rw[<-hb1,<-cellsL_eq];simp
       have:=ih _ _ h;have hc:(decide (v.cells.size≠size)||decide (off+v.cells.size>cells.toArray.size))=false:=by simp[hsz];omega
       simp only[Instr.fill,hp];rw[hc];have hz:(v.cells.zipIdx.foldl (λcs (x:Value×Nat)=>cs.setIfInBounds (off+x.2) x.1) cells.toArray)=(setRun cells off (cellsL v)).toArray:=by
        rw[<-Array.foldl_toList,Array.toList_zipIdx,cellsL_eq,c6M];simp
       exact(d6 (λz=>Instr.fill place z parts) hz).trans this
     . simp at h
noncomputable def a2y (T:List (Nat×TI)):List Field->Option (List (Nat×Nat))
 |[]=>some []
 | f ::fs=>match d7 f.type T with
   | some ti=>match a2y T fs with
     |some r=>some ((f.offset,ti.size)::r)
     |none=>none
   |none=>none
def b0i (l:List Nat):Nat->Bool
 | n=>match l with
   |[]=>true
   |x::xs=>Nat.beq x n&&b0i xs (n+1)
noncomputable def a6y (T:List (Nat×TI))(op:Op)(ds:List D)(kd:D->Prop):Prop:=
 match op with
 | .binOp o ty _ b _=>match ds with
   | [.v .nilIface, .v .nilIface]=>match b,a0B T ty a7S,o with
     | .const _,true, .eql=>kd (.bl true)
     | .const _,true, .neq=>kd (.bl false)
     |_,_,_=>False
   | [.iface _ _, .v .nilIface]=>match a0B T ty a7S,o with
     |true, .eql=>kd (.bl false)
     |true, .neq=>kd (.bl true)
     |_,_=>False
   |[x,y]=>b1V T o ty x y kd
   |_=>False
 | .unOp o _ _=>match o,ds with
   | .not,[.bl b]=>kd (.bl (!b))
   | .not,[.v (.bool b)]=>kd (.v (.bool (!b)))
   | .neg,[.v (.int k n)]=>(w8 k n->w8 k (-n))/\kd (.v (.int k (-n)))
   |_,_=>False
 | .convert s d _=>match d7 s T,d7 d T,ds with
   | some _,some ti,[.v (.int k' n)]=>match ti.desc with
     | .int k=>(w8 k' n->w8 k n)/\kd (.v (.int k n))
     |_=>False
   | some _,some ti,[.str l]=>match ti.desc with
     | .string=>kd (.str l)
     |_=>False
   |_,_,_=>False
 | .makeInterface t _=>match d7 t T,ds with
   | some ti,[x]=>match ti.desc with
     | .interface _=>False
     | _=>match x with
       | .bl b=>kd (.iface t (.v (.bool b)))
       |x=>kd (.iface t x)
   |_,_=>False
 | .extract _ i=>match ds with
   | [.tup xs]=>match xs.drop i with
     |d::_=>kd d
     |[]=>False
   |_=>False
 | .field ty _ f=>match d7 ty T,ds with
   | some ti,[.agg cs]=>match ti.desc with
     | .struct fs=>match fs.toList.drop f with
       | fd ::_=>match d7 fd.type T with
         | some tf=>match tf.agg with
           |true=>kd (.agg ((cs.drop fd.offset).take tf.size))
           | false=>match cs.drop fd.offset with
             |d::_=>kd d
             |[]=>False
         |none=>False
       |[]=>False
     |_=>False
   |_,_=>False
 | .build ty parts=>match d7 ty T with
   | some ti=>match a4O (cellsL ti.zero) with
     |none=>False
     | some zd=>match ti.desc with
       | .struct fs=>match a2y T fs.toList with
         | some pl=>match Z8 (λi=>(pl.drop i).head?) zd ((parts.toList.map (·.1)).zip ds) with
           |some r=>kd (.agg r)
           |none=>False
         |none=>False
       | .array _ e=>match d7 e T with
         | some te=>match Z8 (λi=>some (i*te.size,te.size)) zd ((parts.toList.map (·.1)).zip ds) with
           |some r=>kd (.agg r)
           |none=>False
         |none=>False
       |_=>False
   |none=>False
 | .typeAssert _ _ asserted ok=>match d7 asserted T,ds with
   | some ti,[.iface t d]=>match ti.desc with
     | .interface _=>False
     | _ =>match Nat.beq t asserted,ok with
       |true,true=>kd (.tup [d, .bl true])
       |true,false=>kd d
       | false,true=>match a7Z ti.zero with
         |some z=>kd (.tup [z, .bl false])
         |none=>False
       |false,false=>False
   |_,_=>False
 | .index ty _ _=>match d7 ty T,ds with
   | some ti,[.str l, .v (.int _ i)]=>match ti.desc with
     | .string=>∃c:UInt8,(0<=i/\l[i.toNat]?=some c)/\kd (.v (.int .u8 (c.toNat:Int)))
     |_=>False
   | some ti,[.agg cs, .v (.int _ i)]=>match ti.desc with
     | .array n e=>match d7 e T with
       | some te=>match te.agg,te.size with
         |false,1=>∃d:D,(0<=i/\i<(n:Int)/\cs[i.toNat]?=some d)/\kd d
         |_,_=>False
       |none=>False
     |_=>False
   |_,_=>False
 |_=>False
section
variable {P:Program} {T:List (Nat×TI)}
theorem a4L {α:Type}{l:List α}{i:Nat}{v:α}{r:List α}(h:l.drop i=v::r):l[i]?=some v:=by
 have:(l.drop i)[0]?=some v:=by rw[h];rfl
 simpa[a5C] using this
theorem b3w (hT:TOk P T)(W:World):∀(fs:List Field) (pl:List (Nat×Nat)),a2y T fs=some pl->
 (fs.mapM (λf=>do pure (f.offset,<-Go.sizeOf f.type):Field->Sem (Nat×Nat))).run P W= .ok pl W:=by
 intro fs;induction fs with
 |nil=>intro pl h;simp[a2y] at h;subst h;rfl
 | cons f fs ih=>
   intro pl h;simp only[a2y] at h;cases hl:d7 f.type T with
   |none=>simp[hl] at h
   | some ti=>
     simp only[hl] at h;cases hr:a2y T fs with
     |none=>simp[hr] at h
     | some r=>
       simp only[hr,H0] at h;subst h;have ih':=ih r hr;simp only[bind_pure_comp] at ih';simp[List.mapM_cons,hT.sizeOf hl W,ih']
theorem a4R {ρ:Operand->Value}{a b:Operand}{us:List Value}{x y:D}{V:Know}(h:(#[a,b]:Array Operand).toList.map ρ=us)(hr:Reps V us [x,y]):Rep V (ρ a) x/\Rep V (ρ b) y:=by
 subst h;obtain⟨u,w,he,h1,h2⟩:=hr.two;simp only[o5,B8,List.cons.injEq,and_true] at he;obtain⟨rfl,rfl⟩:=he;exact⟨h1,h2⟩
theorem a0f {ρ:Operand->Value}{a:Operand}{us:List Value}{x:D}{V:Know}(h:(#[a]:Array Operand).toList.map ρ=us)(hr:Reps V us [x]):Rep V (ρ a) x:=by
 subst h;obtain⟨u,he,h1⟩:=hr.one;simp only[o5,B8,List.cons.injEq,and_true] at he;subst he;exact h1
theorem b1p (ρ:Operand->Value)(l:List (Nat×Operand)):(l.map (·.1)).zip (l.map (λp=>ρ p.2))=l.map λp=>(p.1,ρ p.2):=by
 induction l with
 |nil=>rfl
 |cons a l ih=>simp[ih]
def Gives (P:Program)(V:Know)(op:Op)(us:List Value)(d:D):Prop:=
 ∀(o:Oper) (ρ:Operand->Value),o.op=op->o.op.operands.toList.map ρ=us->∃v,Rep V v d/\∀W,(execOp ρ o).run P W= .ok (.value v) W
theorem A5 {s:Sem Value}{v:Value}{W W':World}(h:s.run P W= .ok v W'):(do pure (Next.value (<-s)):Sem Next).run P W= .ok (.value v) W':=
 (r4 P W _ _).trans (by rw[h];rfl)
theorem Gives.of {V:Know}{op:Op}{us:List Value}{d:D}(h:∀ρ:Operand->Value,op.operands.toList.map ρ=us->∃v,Rep V v d/\∀(dst:Option Nat) (ty:TypeId) (pos:String) (af:Array Edge) (gd:Option (Nat×Bool)) W,(execOp ρ ⟨dst,op,ty,pos,af,gd⟩).run P W= .ok (.value v) W):Gives P V op us d:=by
 rintro⟨dst,op',ty,pos,af,gd⟩ ρ rfl hu;obtain⟨v,h1,h2⟩:=h ρ hu;exact⟨v,h1,λW=>h2 dst ty pos af gd W⟩
theorem b7q {W:World}(o:BinOp)(ty:TypeId)(x:Operand)(c:Value):
 (eqGuard o ty x (.const c) .nilIface .nilIface).run P W= .ok () W:=by cases o<;>simp[eqGuard]
theorem b9V (w:World){t:TypeId}{m:Array (String×TypeId)}(h:P.underlying t=some (.interface m)):(Op.equal t .nilIface .nilIface).run P w= .ok true w:=by
 unfold Op.equal Op.maxDepth;rw[show(10000:Nat)=9999+1 from rfl];unfold Op.equalIn;simp only[r4,run_underlying h,r8];rfl
theorem Rep.iface_inv {V:Know}{x:Value}{t:Nat}{d:D}(h:Rep V x (.iface t d)):∃y,x= .iface t y/\Rep V y d:=by
 cases h with
 |iface _ y _ hy=>exact⟨y,rfl,hy⟩
theorem b7p {W:World}(o:BinOp)(ty:TypeId)(x y:Operand)(t:TypeId)(v:Value):
 (eqGuard o ty x y (.iface t v) .nilIface).run P W= .ok () W:=by cases o<;>simp[eqGuard]
theorem b9U (w:World){t t':TypeId}{v:Value}{m:Array (String×TypeId)}(h:P.underlying t=some (.interface m)):(Op.equal t (.iface t' v) .nilIface).run P w= .ok false w:=by
 unfold Op.equal Op.maxDepth;rw[show(10000:Nat)=9999+1 from rfl];unfold Op.equalIn;simp only[r4,run_underlying h,r8];rfl
theorem d0s (hT:TOk P T){op:Op}{ds:List D}{kd:D->Prop}(h:a6y T op ds kd){V0:Know}{u0:List Value}(h0:Reps V0 u0 ds):
 ∃d,kd d/\∀V us,Reps V us ds->Gives P V op us d:=by
 unfold a6y at h;split at h
 . rename_i o ty a b yt;split at h
   case h_4=>exact h.elim
   case h_2=>
    split at h
    . rename_i hd;obtain⟨m,hd⟩:=a5Z hT hd;refine⟨_,h,λV us hu=> .of λρ hm=>⟨_, .bl _,λdst ty pos af gd W=>?_⟩⟩;obtain⟨ha,hb⟩:=a4R hm hu;obtain⟨x,ea,_⟩:=ha.iface_inv;exact A5 (by rw[ea,hb.v_inv.1];simp only[r4,b7p,r8,binOp,b9U W hd,H3])
    . rename_i hd;obtain⟨m,hd⟩:=a5Z hT hd;refine⟨_,h,λV us hu=> .of λρ hm=>⟨_, .bl _,λdst ty pos af gd W=>?_⟩⟩;obtain⟨ha,hb⟩:=a4R hm hu;obtain⟨x,ea,_⟩:=ha.iface_inv;exact A5 (by rw[ea,hb.v_inv.1];simp only[r4,b7p,r8,binOp,b9U W hd,H3,Bool.not_false])
    . exact h.elim
   case h_1=>
    split at h
    . rename_i hd;obtain⟨m,hd⟩:=a5Z hT hd;refine⟨_,h,λV us hu=> .of λρ hm=>⟨_, .bl _,λdst ty pos af gd W=>?_⟩⟩;obtain⟨ha,hb⟩:=a4R hm hu;exact A5 (by rw[ha.v_inv.1,hb.v_inv.1];simp only[r4,b7q,r8,binOp,b9V W hd,H3])
    . rename_i hd;obtain⟨m,hd⟩:=a5Z hT hd;refine⟨_,h,λV us hu=> .of λρ hm=>⟨_, .bl _,λdst ty pos af gd W=>?_⟩⟩;obtain⟨ha,hb⟩:=a4R hm hu;exact A5 (by rw[ha.v_inv.1,hb.v_inv.1];simp only[r4,b7q,r8,binOp,b9V W hd,H3,Bool.not_true])
    . exact h.elim
   rename_i x y _;obtain⟨u,w,rfl,h1,h2⟩:=h0.two;obtain⟨d,hk,hrun⟩:=c3I hT h h1 h2;refine⟨d,hk,λV us hu=> .of λρ hm=>?_⟩;obtain⟨ha,hb⟩:=a4R hm hu;obtain⟨v,hv,hr⟩:=hrun V _ _ ha hb;exact⟨v,hv,λdst ty pos af gd W=>A5 (hr a b W)⟩
 . rename_i o ty a;split at h
   . refine⟨_,h,λV us hu=> .of λρ hm=>⟨_, .bl _,λdst ty pos af gd W=>?_⟩⟩;have ha:=(a0f hm hu).bl_b;simp[execOp,ha,Op.unary]
   . refine⟨_,h,λV us hu=> .of λρ hm=>⟨_, .b _,λdst ty pos af gd W=>?_⟩⟩;have ha:=(a0f hm hu).v_inv.1;simp[execOp,ha,Op.unary]
   . rename_i k n;obtain⟨u,rfl,h1⟩:=h0.one;have hk:=h.1 h1.int_inv.2;refine⟨_,h.2,λV us hu=> .of λρ hm=>⟨_, .int hk,λdst ty pos af gd W=>?_⟩⟩;have ha:=(a0f hm hu).v_inv.1;simp[execOp,ha,Op.unary,Op.intArith];exact a6P hk
   . exact h.elim
 . rename_i s dt a;split at h
   . rename_i ts ti k' n hts hti;split at h
     case h_2=>exact h.elim
     rename_i k hd;obtain⟨u,rfl,h1⟩:=h0.one;have hk:=h.1 h1.int_inv.2;refine⟨_,h.2,λV us hu=> .of λρ hm=>⟨_, .int hk,λdst ty pos af gd W=>A5 ?_⟩⟩;have ha:=(a0f hm hu).v_inv.1;simp[convert,hT.under hts W,hT.under hti W,hd,ha,Conv.intToInt,a6P hk]
   . rename_i ts ti l hts hti;split at h
     case h_2=>exact h.elim
     rename_i hd;obtain⟨u,rfl,h1⟩:=h0.one;refine⟨_,h,λV us hu=> .of λρ hm=>⟨_, .str l h1.str_inv.2,λdst ty pos af gd W=>A5 ?_⟩⟩;have ha:=(a0f hm hu).str_inv.1;simp[convert,hT.under hts W,hT.under hti W,hd,ha]
   . exact h.elim
 . rename_i t a;split at h
   case h_2=>exact h.elim
   rename_i ti x hti;split at h
   . exact h.elim
   rename_i hd;have key:∀(u:Value) (W:World),(Instr.makeInterface t u).run P W= .ok (.iface t u) W:=by
    intro u W;simp only[Instr.makeInterface,r4,hT.under hti W,r8];cases hc:ti.desc<;>first|rfl|exact absurd hc (hd _)
   split at h
   . refine⟨_,h,λV us hu=> .of λρ hm=>⟨_, .iface t _ _ ?_,λdst ty pos af gd W=>A5 (key _ W)⟩⟩;have ha:=(a0f hm hu).bl_b;rw[ha];exact .b _
   . exact⟨_,h,λV us hu=> .of λρ hm=>⟨_, .iface t _ _ (a0f hm hu),λdst ty pos af gd W=>A5 (key _ W)⟩⟩
 . rename_i a i;split at h
   case h_2=>exact h.elim
   rename_i xs;split at h
   case h_2=>exact h.elim
   rename_i d r hd;refine⟨_,h,λV us hu=> .of λρ hm=>?_⟩;obtain⟨ws,ha,hw⟩:=(a0f hm hu).tup_inv;obtain⟨w,hw1,hw2⟩:=hw.at (a4L hd);refine⟨w,hw2,λdst ty pos af gd W=>?_⟩;simp[execOp,Instr.extract,ha,hw1]
 . rename_i ty a f;split at h
   case h_2=>exact h.elim
   rename_i ti cs hti;split at h
   case h_2=>exact h.elim
   rename_i fs hd;split at h
   case h_2=>exact h.elim
   rename_i fd r hfd;have hf:fs[f]?=some fd:=by simpa using a4L hfd
   split at h
   case h_2=>exact h.elim
   rename_i tf htf;split at h
   . rename_i hagg;refine⟨_,h,λV us hu=> .of λρ hm=>?_⟩;obtain⟨ws,ha,hw,h1⟩:=(a0f hm hu).agg_inv;have hw':=(hw.drop fd.offset).take tf.size;refine⟨_, .agg _ _ hw'.len (λu hu=>h1 u (a0V (Q5 hu))) hw'.get,λdst ty pos af gd W=>A5 ?_⟩;simp only[Instr.field,r4,hT.under hti W,r8,hd,hf,ha,part,asAgg,H3,hT.isAgg htf W,hagg,if_true,hT.sizeOf htf W];have he:(⟨ws⟩:Array Value).extract fd.offset (fd.offset+tf.size)=⟨List.take tf.size (List.drop fd.offset ws)⟩:=by
      apply a0R.1;simp[Array.toList_extract,List.extract_eq_take_drop]
     rw[he]
   . rename_i hagg;split at h
     case h_2=>exact h.elim
     rename_i d r' hd';refine⟨_,h,λV us hu=> .of λρ hm=>?_⟩;obtain⟨ws,ha,hw,h1⟩:=(a0f hm hu).agg_inv;obtain⟨w,hw1,hw2⟩:=hw.at (a4L hd');refine⟨w,hw2,λdst ty pos af gd W=>A5 ?_⟩;have hc:(⟨ws⟩:Array Value)[fd.offset]?=some w:=by simpa using hw1
     simp only[Instr.field,r4,hT.under hti W,r8,hd,hf,ha,part,asAgg,H3,hT.isAgg htf W,hagg,Y8,if_false,hc]
 . rename_i ty parts;split at h
   case h_2=>exact h.elim
   rename_i ti hti;split at h
   . exact h.elim
   rename_i zd hzd;have hzc:ti.zero.cells=(cellsL ti.zero).toArray:=by rw[<-cellsL_eq]
   have hparts:∀(ρ:Operand->Value) (us:List Value),(Op.build ty parts).operands.toList.map ρ=us->(parts.map λ(x:Nat×Operand)=>(x.1,ρ x.2)).toList=(parts.toList.map (·.1)).zip us/\(parts.toList.map (·.1)).length=us.length:=by
    intro ρ us hm;subst hm;simp only[Op.operands,a1z,L0];exact⟨(b1p ρ parts.toList).symm,by simp⟩
   split at h
   . rename_i fs hd;split at h
     case h_2=>exact h.elim
     rename_i pl hpl;split at h
     case h_2=>exact h.elim
     rename_i r hr;refine⟨_,h,λV us hu=> .of λρ hm=>?_⟩;obtain⟨hp1,hp2⟩:=hparts ρ us hm;obtain⟨hz1,hz2⟩:=b0k V hzd;obtain⟨w,hw,hwr,hw1⟩:=b7z hp2 hu hz1 hz2 hr;refine⟨.agg ⟨w⟩, .agg w r hwr.len hw1 hwr.get,λdst ty' pos af gd W=>?_⟩;have hf:=a7K _ _ _ _ hw;have hpr:=b3w hT W _ _ hpl;simp only[bind_pure_comp] at hpr;have hpa:(Array.mapM (λf=>Prod.mk f.offset<$>Go.sizeOf f.type) fs).run P W= .ok pl.toArray W:=by
      rw[b1r];simp[hpr]
     have hg:(λi:Nat=>pl.toArray[i]?)=λi=>(pl.drop i).head?:=by funext i;simp
     have key:(Instr.build ty (parts.map λ(x:Nat×Operand)=>(x.1,ρ x.2))).run P W= .ok (.agg ⟨w⟩) W:=by
      simp only[Instr.build,bind_pure_comp,r4,hT.zeroValue hti W,r8,hT.under hti W,hd,hpa];rw[hp1,hzc,hg,hf];simp
     exact A5 key
   . rename_i n e hd;split at h
     case h_2=>exact h.elim
     rename_i te hte;split at h
     case h_2=>exact h.elim
     rename_i r hr;refine⟨_,h,λV us hu=> .of λρ hm=>?_⟩;obtain⟨hp1,hp2⟩:=hparts ρ us hm;obtain⟨hz1,hz2⟩:=b0k V hzd;obtain⟨w,hw,hwr,hw1⟩:=b7z hp2 hu hz1 hz2 hr;refine⟨.agg ⟨w⟩, .agg w r hwr.len hw1 hwr.get,λdst ty' pos af gd W=>?_⟩;have hf:=a7K _ _ _ _ hw;have key:(Instr.build ty (parts.map λ(x:Nat×Operand)=>(x.1,ρ x.2))).run P W= .ok (.agg ⟨w⟩) W:=by
      simp only[Instr.build,r4,hT.zeroValue hti W,r8,hT.under hti W,hd,hT.sizeOf hte W];rw[hp1,hzc,hf];simp
     exact A5 key
   . exact h.elim
 . rename_i a ty asserted ok;split at h
   case h_2=>exact h.elim
   rename_i ti t d hti;split at h
   . exact h.elim
   rename_i hd;have hnt:∀{b:Bool},Nat.beq t asserted=b->decide (t=asserted)=b:=by
    intro b hb;cases b with
    |true=>simpa using t7 hb
    |false=>simp;exact λe=>by rw[e,Z3] at hb;cases hb
   have inv:∀{V:Know} {u:Value},Rep V u (.iface t d)->∃x,u= .iface t x/\Rep V x d:=by
    intro V u hu;cases hu with
    |iface _ x _ hx=>exact⟨x,rfl,hx⟩
   split at h
   . rename_i ht;have ht:=hnt ht;refine⟨_,h,λV us hu=> .of λρ hm=>?_⟩;obtain⟨x,hx,hxd⟩:=inv (a0f hm hu);have hrr:=Reps.cons hxd (Reps.cons (Rep.bl (V:=V) true) (.nil V));refine⟨.tuple ⟨[x, .bool true]⟩, .tup _ _ hrr.len hrr.get,λdst ty' pos af gd W=>A5 ?_⟩;simp only[j0] at ht;simp only[Instr.typeAssert,r4,hT.under hti W,r8,hx];cases hc:ti.desc<;>first|exact absurd hc (hd _)|simp[ht]
   . rename_i ht;have ht:=hnt ht;refine⟨_,h,λV us hu=> .of λρ hm=>?_⟩;obtain⟨x,hx,hxd⟩:=inv (a0f hm hu);refine⟨x,hxd,λdst ty' pos af gd W=>A5 ?_⟩;simp only[j0] at ht;simp only[Instr.typeAssert,r4,hT.under hti W,r8,hx];cases hc:ti.desc<;>first|exact absurd hc (hd _)|simp[ht]
   . rename_i ht;have ht:=hnt ht;simp only[L4] at ht;split at h
     case h_2=>exact h.elim
     rename_i z hz;refine⟨_,h,λV us hu=> .of λρ hm=>?_⟩;obtain⟨x,hx,hxd⟩:=inv (a0f hm hu);have hrr:=Reps.cons (b0l hz V) (Reps.cons (Rep.bl (V:=V) false) (.nil V));refine⟨.tuple ⟨[ti.zero, .bool false]⟩, .tup _ _ hrr.len hrr.get,λdst ty' pos af gd W=>A5 ?_⟩;simp only[Instr.typeAssert,r4,hT.under hti W,r8,hx];cases hc:ti.desc<;>first|exact absurd hc (hd _)|simp[ht,hT.zeroValue hti W]
   . exact h.elim
 . rename_i ty a i;split at h
   . rename_i ti l k n hti;split at h
     case h_2=>exact h.elim
     rename_i hd;obtain⟨c,⟨hi,hc⟩,h⟩:=h;refine⟨_,h,λV us hu=> .of λρ hm=>?_⟩;obtain⟨ha,hb⟩:=a4R hm hu;have hc':c.toNat<256:=c.toNat_lt;refine⟨_, .int (by simp only[w8];omega),λdst ty' pos af gd W=>A5 ?_⟩;have hlt:n.toNat<l.length:=by
      rcases C5 n.toNat l.length with h|h
      . exact h
      . rw[z6 h] at hc;cases hc
     have hget:(⟨⟨l⟩⟩:ByteArray)[n.toNat]?=some c:=by
      rw[getElem?_pos (⟨⟨l⟩⟩:ByteArray) n.toNat hlt];rw[t6 hlt] at hc;exact hc
     simp only[Instr.index,r4,ha.str_inv.1,hb.int_inv.1,asIntOf,H3,r8,hT.under hti W,hd,hi,if_true,hget]
   . rename_i ti cs k n hti;split at h
     case h_2=>exact h.elim
     rename_i len e hd;split at h
     case h_2=>exact h.elim
     rename_i te hte;split at h
     case h_2=>exact h.elim
     rename_i hag hsz;obtain⟨d,⟨hi,hn,hc⟩,h⟩:=h;refine⟨_,h,λV us hu=> .of λρ hm=>?_⟩;obtain⟨ha,hb⟩:=a4R hm hu;obtain⟨ws,ha,hw,h1⟩:=ha.agg_inv;obtain⟨w,hw1,hw2⟩:=hw.at hc;refine⟨w,hw2,λdst ty' pos af gd W=>A5 ?_⟩;have hc:(⟨ws⟩:Array Value)[n.toNat]?=some w:=by simpa using hw1
     simp only[Instr.index,r4,ha,hb.int_inv.1,asIntOf,H3,r8,hT.under hti W,hd,hi,hn,and_self,if_true,hT.sizeOf hte W,hsz,a2o,part,asAgg,hT.isAgg hte W,hag,Y8,if_false,hc]
   . exact h.elim
 . exact h.elim
end
end Go.Proofs.YteillnfhkeebjaaGreatDoor.Dx
