/- Chapter 06: SyntaxWritten: how a course is written,and its tokens (plain). -/
import Derived.Test.YtaopegkpjhkooaaGreatDoorGe
import Derived.Test.YtaopegkpjhkooaaGreatDoorGh
set_option linter.all false
namespace Go.Proofs.YtaopegkpjhkooaaGreatDoor.Dx
open Go Go.RowKit
set_option maxRecDepth 100000
def atN (l:List (List UInt8))(i:Int):List UInt8:=l.getD i.toNat []
def mtW:Int->List UInt8
 |1=>[115,116,97,114,116]
 |2=>[112,97,115,115]
 |_=>[101,110,100]
def tgW:Int->List UInt8
 |1=>[103,117,110]
 |2=>[99,104,105,112]
 |_=>[115,108,111,116]
def Q3 (m:Mat):List UInt8:=mtW m.kind++(32::(m.name++[59,32]))
def M8 (ms:List (List UInt8))(x:Leg):List UInt8:=[108,101,103,32]++(atN ms x.src++([32,116,111,32]++(atN ms x.dst++([32]++(s8 x.lo++([32,46,46,32]++(s8 x.hi++[59,10])))))))
def Q8 (ms:List (List UInt8)):Nat->List Part->List UInt8
 |0,_=>[]
 |n+1,l=>(l.map λp=>if p.laps=0 then atN ms p.mat++[59,32] else[108,97,112,115,32]++(Lib.itoa p.laps++([32,123]++(Q8 ms n p.parts++[125,32])))).flatten
def P6 (ms:List (List UInt8))(x:Cutoff):List UInt8:=[99,117,116,111,102,102,32]++(atN ms x.mat++([32,108,97,112,32]++(Lib.itoa x.lap++([32]++(s8 x.limit++[59,32])))))
def a0v (ms:List (List UInt8))(e:Int):List UInt8:=if 0<=e then[101,120,116,114,97,32]++(atN ms e++[59,32]) else[]
def I5 (ms:List (List UInt8))(d:Distance):List UInt8:=
 [100,105,115,116,97,110,99,101,32]++(d.name++(32::(tgW d.timing++([32,123]++(Q8 ms 5 d.route++((d.cutoffs.map (P6 ms)).flatten++(a0v ms d.extra++[125,10])))))))
def O3 (w:Wave):List UInt8:=[119,97,118,101,32]++(w.name++([32]++(s8 w.gun++[59,10])))
def J0 (o:Offence):List UInt8:=
 [111,102,102,101,110,99,101,32]++(o.name++([32]++((if o.out then[111,117,116] else if 0<o.laps then[108,97,112,115,32]++Lib.itoa o.laps else s8 o.time)++[59,10])))
def L9 (x:Category):List UInt8:=[99,97,116,101,103,111,114,121,32]++(x.name++([32]++(Lib.itoa x.lo++([32,116,111,32]++(Lib.itoa x.hi++[59,10])))))
def a0g (cs:List (List UInt8))(c:Int):List UInt8:=if 0<=c then atN cs c else[97,108,108]
def L3 (ds cs:List (List UInt8))(p:Prize):List UInt8:=
 [112,114,105,122,101,32]++(atN ds p.distance++([32]++(a0g cs p.category++([32]++(Lib.itoa p.rank++([32]++(Lib.itoa p.amount++[59,10])))))))
def a4n (ties:List UInt8)(f:Faults)(fee dl:Int):List UInt8:=
 [116,105,101,115,32,123]++(ties++([125,10,102,97,117,108,116,115,32,123,32,109,105,115,115,101,115,32]++(Lib.itoa f.misses++([59,32,115,116,114,97,121,115,32]++(Lib.itoa f.strays++([59,32,119,105,110,100,111,119,32]++(s8 f.window++([59,32,114,101,115,105,100,117,97,108,32]++(s8 f.residual++([59,32,100,114,105,102,116,32]++(Lib.itoa f.drift++
 ([59,32,125,10,112,114,111,116,101,115,116,32,102,101,101,32]++(Lib.itoa fee++([32,100,101,97,100,108,105,110,101,32]++(s8 dl++[59,10,125,10])))))))))))))))
abbrev C0 (l:List Distance):List (List UInt8):=l.map (·.name)
abbrev B7 (l:List Category):List (List UInt8):=l.map (·.name)
def a0t (c:Course)(ties:List UInt8):List UInt8:=
 [99,111,117,114,115,101,32]++(c.name++([32,123,10,109,97,116,115,32,123]++((c.mats.map Q3).flatten++([125,10]++((c.legs.map (M8 c.ms)).flatten++((c.distances.map (I5 c.ms)).flatten++((c.waves.map O3).flatten++((c.offences.map J0).flatten++
 ((c.categories.map L9).flatten++((c.prizes.map (L3 (C0 c.distances) (B7 c.categories))).flatten++a4n ties c.faults c.fee c.deadline))))))))))
def I7 (i n:Int):Bool:=decide (0<=i/\i<n)
def M4 (n:Int)(x:Leg):Bool:=I7 x.src n&&(I7 x.dst n&&(tmB x.lo&&tmB x.hi))
def P8 (n:Int)(x:Cutoff):Bool:=I7 x.mat n&&(amB x.lap&&tmB x.limit)
def G2 (n:Int)(d:Distance):Bool:=decide (1<=d.timing/\d.timing<=3)&&(decide (-1<=d.extra/\d.extra<n)&&(decide (d.cutoffs.length<=20)&&(pfB n 5 d.route&&d.cutoffs.all (P8 n))))
def M5 (o:Offence):Bool:=tmB o.time&&(amB o.laps&&(decide (o.time=0\/o.laps=0)&&(!o.out||decide (o.time=0/\o.laps=0))))
def M3 (x:Category):Bool:=amB x.lo&&amB x.hi
def K3 (n m:Int)(p:Prize):Bool:=I7 p.distance n&&(decide (-1<=p.category/\p.category<m)&&(amB p.rank&&amB p.amount))
def Y1 (m:Mat):Bool:=decide (1<=m.kind/\m.kind<=3)
def TxC (s:List UInt8)(L:List BT):Prop:=∀r l,Lx r l->Lx (s++r) (L++l)
theorem TxC.nil:TxC [] []:=λ_ _ h=>h
theorem TxC.app {s t:List UInt8}{L M:List BT}(h1:TxC s L)(h2:TxC t M):TxC (s++t) (L++M):=λr l h=>by
 rw[List.append_assoc,List.append_assoc]
 exact h1 _ _ (h2 _ _ h)
theorem TxC.all {α:Type}{f:α->List UInt8}{g:α->List BT}:∀{xs:List α},(∀x∈xs,TxC (f x) (g x))->TxC (xs.map f).flatten (xs.map g).flatten
 |[],_=>TxC.nil
 | x::xs,h=>by
   rw[List.map_cons,List.flatten_cons,List.map_cons,List.flatten_cons]
   exact(h x (List.mem_cons_self ..)).app (TxC.all λy hy=>h y (List.mem_cons_of_mem _ hy))
section
variable {r:List UInt8} {l:List BT}
theorem Lx.nm {s:List UInt8}(hs:nmB s=true)(hr:Brk r)(h:Lx r l):Lx (s++r) ((1,s)::l):=by
 simp only[nmB,Bool.and_eq_true] at hs
 exact Lx.word hs.2.1 hr h
theorem Lx.am {n:Int}(hn:amB n=true)(hr:Brk r)(h:Lx r l):Lx (Lib.itoa n++r) ((2,Lib.itoa n)::l):=by
 simp only[amB,Bool.and_eq_true,decide_eq_true_eq] at hn
 exact Lx.num (b1x hn.1 hn.2) hr h
theorem a8E {t:Int}(ht:tmB t=true):B9 (s8 t)=some t:=by
 simp only[tmB,Bool.and_eq_true,decide_eq_true_eq] at ht
 exact c3g (by unfold Q0 inR;simp only[Bool.and_eq_true,decide_eq_true_eq];omega)
theorem Lx.tm {t:Int}(ht:tmB t=true)(hr:Brk r)(h:Lx r l):Lx (s8 t++r) ((3,s8 t)::l):=Lx.time (a8E ht) hr h
theorem Lx.se (h:Lx r l):Lx (59::10::r) ((5,[59])::l):=Lx.sc h.nl
theorem Lx.sb (h:Lx r l):Lx (59::32::r) ((5,[59])::l):=Lx.sc h.sp
theorem Lx.dd (h:Lx r l):Lx (32::46::46::32::r) ((5,[46,46])::l):=Lx.sp (Lx.dbl rfl h.sp)
end
theorem O8 {ms:List (List UInt8)}(hm:ms.all nmB=true){i:Int}(h:I7 i ms.length=true):nmB (atN ms i)=true:=by
 have h:=of_decide_eq_true h
 unfold atN
 rw[List.getD_eq_getElem?_getD,List.getElem?_eq_getElem (by omega)]
 exact List.all_eq_true.1 hm _ (List.getElem_mem _)
def a0B (m:Mat):List BT:=[(1,mtW m.kind),(1,m.name),(5,[59])]
theorem b8V {m:Mat}(hk:Y1 m=true)(hn:nmB m.name=true):TxC (Q3 m) (a0B m):=λr l h=>by
 have hk:=of_decide_eq_true hk
 have hw:T3 (mtW m.kind)=true:=by
  have:m.kind=1\/m.kind=2\/m.kind=3:=by omega
  rcases this with e|e|e<;>rw[e]<;>decide
 have:=Lx.ws hw (Lx.nm hn F1 (Lx.sb h))
 simpa only[Q3,a0B,List.append_assoc,List.cons_append,List.nil_append] using this
def a0z (ms:List (List UInt8))(x:Leg):List BT:=[(1,[108,101,103]),(1,atN ms x.src),(1,[116,111]),(1,atN ms x.dst),(3,s8 x.lo),(5,[46,46]),(3,s8 x.hi),(5,[59])]
theorem b8C {ms:List (List UInt8)}(hm:ms.all nmB=true){x:Leg}(hx:M4 ms.length x=true):TxC (M8 ms x) (a0z ms x):=λr l h=>by
 simp only[M4,Bool.and_eq_true] at hx
 have:=Lx.ws (w:=[108,101,103]) (by decide) (Lx.nm (O8 hm hx.1) C3 (Lx.sp (Lx.ws (w:=[116,111]) (by decide) (Lx.nm (O8 hm hx.2.1) C3 (Lx.sp (Lx.tm hx.2.2.1 C3 (Lx.dd (Lx.tm hx.2.2.2 F1 (Lx.se h)))))))))
 simpa only[M8,a0z,List.append_assoc,List.cons_append,List.nil_append] using this
def Q7 (ms:List (List UInt8)):Nat->List Part->List BT
 |0,_=>[]
 |n+1,l=>(l.map λp=>if p.laps=0 then[(1,atN ms p.mat),(5,[59])] else(1,[108,97,112,115])::(2,Lib.itoa p.laps)::(5,[123])::(Q7 ms n p.parts++[(5,[125])])).flatten
theorem b2s {ms:List (List UInt8)}(hm:ms.all nmB=true):∀(n:Nat) (x:List Part),pfB ms.length n x=true->TxC (Q8 ms n x) (Q7 ms n x)
 |0,x,h=>by cases h
 | n +1,x,h=>by
   rw[pfB,Bool.and_eq_true] at h
   refine TxC.all λp hp=>?_
   have hq:=List.all_eq_true.1 h.2 p hp
   unfold ptF at hq
   by_cases h0:p.laps=0
   . rw[if_pos h0] at hq
     rw[if_pos h0,if_pos h0]
     have hq:=of_decide_eq_true hq
     intro r l hr
     have:=Lx.nm (O8 hm (decide_eq_true ⟨hq.1,hq.2.1⟩)) F1 (Lx.sb hr)
     simpa only[List.append_assoc,List.cons_append,List.nil_append] using this
   . rw[if_neg h0] at hq
     rw[if_neg h0,if_neg h0]
     simp only[Bool.and_eq_true] at hq
     have ih:=b2s hm n p.parts hq.2.2
     intro r l hr
     have:=Lx.ws (w:=[108,97,112,115]) (by decide) (Lx.am hq.2.1 C3 (Lx.sp (Lx.lb (ih _ _ (Lx.rb hr.sp)))))
     simpa only[List.append_assoc,List.cons_append,List.nil_append] using this
def a2e (ms:List (List UInt8))(x:Cutoff):List BT:=[(1,[99,117,116,111,102,102]),(1,atN ms x.mat),(1,[108,97,112]),(2,Lib.itoa x.lap),(3,s8 x.limit),(5,[59])]
theorem b6w {ms:List (List UInt8)}(hm:ms.all nmB=true){x:Cutoff}(hx:P8 ms.length x=true):TxC (P6 ms x) (a2e ms x):=λr l h=>by
 simp only[P8,Bool.and_eq_true] at hx
 have:=Lx.ws (w:=[99,117,116,111,102,102]) (by decide) (Lx.nm (O8 hm hx.1) C3 (Lx.sp (Lx.ws (w:=[108,97,112]) (by decide) (Lx.am hx.2.1 C3 (Lx.sp (Lx.tm hx.2.2 F1 (Lx.sb h)))))))
 simpa only[P6,a2e,List.append_assoc,List.cons_append,List.nil_append] using this
def R5 (ms:List (List UInt8))(e:Int):List BT:=if 0<=e then[(1,[101,120,116,114,97]),(1,atN ms e),(5,[59])] else[]
theorem b7k {ms:List (List UInt8)}(hm:ms.all nmB=true){e:Int}(he:e<ms.length):TxC (a0v ms e) (R5 ms e):=λr l h=>by
 unfold a0v R5
 by_cases h0:0<=e
 . rw[if_pos h0,if_pos h0]
   have:=Lx.ws (w:=[101,120,116,114,97]) (by decide) (Lx.nm (O8 hm (decide_eq_true ⟨h0,he⟩)) F1 (Lx.sb h))
   simpa only[List.append_assoc,List.cons_append,List.nil_append] using this
 . rw[if_neg h0,if_neg h0];exact h
def R4 (ms:List (List UInt8))(d:Distance):List BT:=(1,[100,105,115,116,97,110,99,101])::(1,d.name)::(1,tgW d.timing)::(5,[123])::(Q7 ms 5 d.route++((d.cutoffs.map (a2e ms)).flatten++(R5 ms d.extra++[(5,[125])])))
theorem b6U {ms:List (List UInt8)}(hm:ms.all nmB=true){d:Distance}(hd:G2 ms.length d=true)(hn:nmB d.name=true):TxC (I5 ms d) (R4 ms d):=λr l h=>by
 simp only[G2,Bool.and_eq_true,decide_eq_true_eq] at hd
 have hw:T3 (tgW d.timing)=true:=by
  have:d.timing=1\/d.timing=2\/d.timing=3:=by omega
  rcases this with e|e|e<;>rw[e]<;>decide
 have h3:=b7k hm hd.2.1.2 _ _ (Lx.rb h.nl)
 have h2:=TxC.all (λx hx=>b6w hm (List.all_eq_true.1 hd.2.2.2.2 x hx)) _ _ h3
 have h1:=b2s hm 5 d.route hd.2.2.2.1 _ _ h2
 have:=Lx.ws (w:=[100,105,115,116,97,110,99,101]) (by decide) (Lx.nm hn C3 (Lx.sp (Lx.ws hw (Lx.lb h1))))
 simpa only[I5,R4,List.append_assoc,List.cons_append,List.nil_append] using this
def W9 (w:Wave):List BT:=[(1,[119,97,118,101]),(1,w.name),(3,s8 w.gun),(5,[59])]
theorem c4l {w:Wave}(hw:tmB w.gun=true)(hn:nmB w.name=true):TxC (O3 w) (W9 w):=λr l h=>by
 have:=Lx.ws (w:=[119,97,118,101]) (by decide) (Lx.nm hn C3 (Lx.sp (Lx.tm hw F1 (Lx.se h))))
 simpa only[O3,W9,List.append_assoc,List.cons_append,List.nil_append] using this
def N5 (o:Offence):List BT:=(1,[111,102,102,101,110,99,101])::(1,o.name)::((if o.out then[(1,[111,117,116])] else if 0<o.laps then[(1,[108,97,112,115]),(2,Lib.itoa o.laps)] else[(3,s8 o.time)])++[(5,[59])])
theorem b9F {o:Offence}(ho:M5 o=true)(hn:nmB o.name=true):TxC (J0 o) (N5 o):=λr l h=>by
 simp only[M5,Bool.and_eq_true] at ho
 unfold J0 N5
 by_cases h1:o.out=true
 . rw[if_pos h1,if_pos h1]
   have:=Lx.ws (w:=[111,102,102,101,110,99,101]) (by decide) (Lx.nm hn C3 (Lx.sp (Lx.word (w:=[111,117,116]) (by decide) F1 (Lx.se h))))
   simpa only[List.append_assoc,List.cons_append,List.nil_append] using this
 . rw [if_neg h1,if_neg h1]
   by_cases h2:0<o.laps
   . rw[if_pos h2,if_pos h2]
     have:=Lx.ws (w:=[111,102,102,101,110,99,101]) (by decide) (Lx.nm hn C3 (Lx.sp (Lx.ws (w:=[108,97,112,115]) (by decide) (Lx.am ho.2.1 F1 (Lx.se h)))))
     simpa only[List.append_assoc,List.cons_append,List.nil_append] using this
   . rw[if_neg h2,if_neg h2]
     have:=Lx.ws (w:=[111,102,102,101,110,99,101]) (by decide) (Lx.nm hn C3 (Lx.sp (Lx.tm ho.1 F1 (Lx.se h))))
     simpa only[List.append_assoc,List.cons_append,List.nil_append] using this
def P0 (x:Category):List BT:=[(1,[99,97,116,101,103,111,114,121]),(1,x.name),(2,Lib.itoa x.lo),(1,[116,111]),(2,Lib.itoa x.hi),(5,[59])]
theorem b5J {x:Category}(hx:M3 x=true)(hn:nmB x.name=true):TxC (L9 x) (P0 x):=λr l h=>by
 simp only[M3,Bool.and_eq_true] at hx
 have:=Lx.ws (w:=[99,97,116,101,103,111,114,121]) (by decide) (Lx.nm hn C3 (Lx.sp (Lx.am hx.1 C3 (Lx.sp (Lx.ws (w:=[116,111]) (by decide) (Lx.am hx.2 F1 (Lx.se h)))))))
 simpa only[L9,P0,List.append_assoc,List.cons_append,List.nil_append] using this
def a6s (cs:List (List UInt8))(c:Int):BT:=(1,a0g cs c)
def N7 (ds cs:List (List UInt8))(p:Prize):List BT:=[(1,[112,114,105,122,101]),(1,atN ds p.distance),a6s cs p.category,(2,Lib.itoa p.rank),(2,Lib.itoa p.amount),(5,[59])]
theorem c4x {cs:List (List UInt8)}(hc:cs.all nmB=true){c:Int}(h:c<cs.length):T3 (a0g cs c)=true:=by
 unfold a0g
 by_cases h0:0<=c
 . rw[if_pos h0]
   have:=O8 hc (decide_eq_true ⟨h0,h⟩)
   simp only[nmB,Bool.and_eq_true] at this
   exact this.2.1
 . rw[if_neg h0];decide
theorem c0c {ds cs:List (List UInt8)}(hd:ds.all nmB=true)(hc:cs.all nmB=true){p:Prize}(hp:K3 ds.length cs.length p=true):TxC (L3 ds cs p) (N7 ds cs p):=λr l h=>by
 simp only[K3,Bool.and_eq_true,decide_eq_true_eq] at hp
 have:=Lx.ws (w:=[112,114,105,122,101]) (by decide) (Lx.nm (O8 hd hp.1) C3 (Lx.sp (Lx.word (c4x hc hp.2.1.2) C3 (Lx.sp (Lx.am hp.2.2.1 C3 (Lx.sp (Lx.am hp.2.2.2 F1 (Lx.se h))))))))
 simpa only[L3,N7,a6s,List.append_assoc,List.cons_append,List.nil_append] using this
def J4 (L:List BT)(f:Faults)(fee dl:Int):List BT:=
 (1,[116,105,101,115])::(5,[123])::(L++((5,[125])::(1,[102,97,117,108,116,115])::(5,[123])::(1,[109,105,115,115,101,115])::(2,Lib.itoa f.misses)::(5,[59])::(1,[115,116,114,97,121,115])::(2,Lib.itoa f.strays)::(5,[59])::(1,[119,105,110,100,111,119])::(3,s8 f.window)::(5,[59])::
   (1,[114,101,115,105,100,117,97,108])::(3,s8 f.residual)::(5,[59])::(1,[100,114,105,102,116])::(2,Lib.itoa f.drift)::(5,[59])::(5,[125])::(1,[112,114,111,116,101,115,116])::(1,[102,101,101])::(2,Lib.itoa fee)::(1,[100,101,97,100,108,105,110,101])::(3,s8 dl)::(5,[59])::[(5,[125])]))
theorem c2V {ties:List UInt8}{L:List BT}(ht:TxC ties L){f:Faults}{fee dl:Int}(h1:amB f.misses=true)(h2:amB f.strays=true)(h3:tmB f.window=true)(h4:tmB f.residual=true)(h5:amB f.drift=true)(h6:amB fee=true)(h7:tmB dl=true):
 TxC (a4n ties f fee dl) (J4 L f fee dl):=λr l h=>by
 have a1:=Lx.ws (w:=[112,114,111,116,101,115,116]) (by decide) (Lx.ws (w:=[102,101,101]) (by decide) (Lx.am h6 C3 (Lx.sp (Lx.ws (w:=[100,101,97,100,108,105,110,101]) (by decide) (Lx.tm h7 F1 (Lx.sc (Lx.nl (Lx.rb h.nl))))))))
 have a2:=Lx.ws (w:=[114,101,115,105,100,117,97,108]) (by decide) (Lx.tm h4 F1 (Lx.sb (Lx.ws (w:=[100,114,105,102,116]) (by decide) (Lx.am h5 F1 (Lx.sb (Lx.rb (Lx.nl a1)))))))
 have a3:=Lx.ws (w:=[109,105,115,115,101,115]) (by decide) (Lx.am h1 F1 (Lx.sb (Lx.ws (w:=[115,116,114,97,121,115]) (by decide) (Lx.am h2 F1 (Lx.sb (Lx.ws (w:=[119,105,110,100,111,119]) (by decide) (Lx.tm h3 F1 (Lx.sb a2))))))))
 have:=Lx.ws (w:=[116,105,101,115]) (by decide) (Lx.lb (ht _ _ (Lx.rb (Lx.nl (Lx.ws (w:=[102,97,117,108,116,115]) (by decide) (Lx.lb (Lx.sp a3)))))))
 simpa only[a4n,J4,List.append_assoc,List.cons_append,List.nil_append] using this
end Go.Proofs.YtaopegkpjhkooaaGreatDoor.Dx
/- Chapter 06: SyntaxWritten: the tokens of a written course are read as this course (plain). -/
namespace Go.Proofs.YtaopegkpjhkooaaGreatDoor.Dx
open Go Go.RowKit
set_option maxRecDepth 100000
section
variable {l l':List BT}
theorem a5q {ts:List Tk}(h:ts.map Tk.bare=l):G3 ts=(decide ((hdB l).1=1)&& !kw (hdB l).2):=by
 have:=a7p h
 unfold G3
 rw[<-this];rfl
theorem a3R {s:List UInt8}(h:nmB s=true):kw s=false:=by
 simp only[nmB,Bool.and_eq_true,Bool.not_eq_true'] at h
 exact h.2.2
theorem a1P {s:List UInt8}(hs:nmB s=true):EvR (λ_ ts=>D1 ts) ((1,s)::l) s l:=λts hts=>by
 have hi:=a5q hts
 obtain⟨a,r,rfl,hr⟩:=O9 hts
 refine⟨r,hr,0,λ_ _=>?_⟩
 show D1 _=_
 unfold D1
 rw[hi,if_pos (by show(decide ((1:Nat)=1)&& !kw s)=true;rw[a3R hs];rfl)]
 rfl
theorem b1a:∀{xs:List (List UInt8)} {i:Nat} (h:i<xs.length),xs.Nodup->xs.findIdx? (λx=>decide (x=xs[i]))=some i
 |[],i,h,_=>absurd h (Nat.not_lt_zero _)
 | x::xs,0,h,hn=>by
   rw[List.findIdx?_cons]
   show(if decide (x=x)=true then some 0 else _)=_
   rw[if_pos (by simp)]
 | x::xs,i+1,h,hn=>by
   rw[List.nodup_cons] at hn
   have h':i<xs.length:=by simpa using h
   have ih:=b1a h' hn.2
   have hne:¬x=xs[i]:=λe=>hn.1 (e▸List.getElem_mem h')
   rw[List.findIdx?_cons]
   show(if decide (x=xs[i])=true then _ else _)=_
   rw[if_neg (by simpa using hne)]
   show Option.map _ (xs.findIdx? λy=>decide (y=xs[i]))=_
   rw[ih];rfl
theorem a0P {ms:List (List UInt8)}(hm:ms.all nmB=true)(hn:ms.Nodup){i:Int}(hi:I7 i ms.length=true):EvR (λ_ ts=>y7 ms ts) ((1,atN ms i)::l) i l:=λts hts=>by
 have hs:=O8 hm hi
 have hi:=of_decide_eq_true hi
 have hb:=a5q hts
 obtain⟨a,r,rfl,hr⟩:=O9 hts
 refine⟨r,hr,0,λ_ _=>?_⟩
 show y7 _ _=_
 unfold y7
 rw[hb,if_pos (by show(decide ((1:Nat)=1)&& !kw (atN ms i))=true;rw[a3R hs];rfl)]
 have hlt:i.toNat<ms.length:=by omega
 have he:atN ms i=ms[i.toNat]:=by unfold atN;rw[List.getD_eq_getElem?_getD,List.getElem?_eq_getElem hlt];rfl
 show(match ms.findIdx? (λx=>decide (x=atN ms i)) with|some i=>Rs.ok (i:Int) r|none=>B5 70 _)=_
 rw[he,b1a hlt hn]
 show Rs.ok ((i.toNat:Nat):Int) r=_
 rw[Int.toNat_of_nonneg hi.1]
theorem a0R {t:Int}(ht:tmB t=true):EvR (λ_ ts=>C1 ts) ((3,s8 t)::l) t l:=λts hts=>by
 obtain⟨a,r,rfl,hr⟩:=O9 hts
 refine⟨r,hr,0,λ_ _=>?_⟩
 show C1 _=_
 have h0:0<=t:=by
  simp only[tmB,Bool.and_eq_true,decide_eq_true_eq] at ht
  exact ht.1
 have:B3 (hdT (⟨3,s8 t,a⟩::r))=some t:=by
  show B3 ⟨3,s8 t,a⟩=_
  unfold B3
  rw[if_pos rfl]
  show(match B9 (s8 t) with|some v=>if 0<=v then some v else none|none=>none)=_
  rw[a8E ht]
  show(if 0<=t then some t else none)=_
  rw[if_pos h0]
 unfold C1
 rw[this]
 rfl
theorem R1 {n:Int}(hn:amB n=true):EvR (λ_ ts=>o7 ts) ((2,Lib.itoa n)::l) n l:=by
 simp only[amB,Bool.and_eq_true,decide_eq_true_eq] at hn
 exact EvR.num (b2d hn.1 hn.2)
theorem v7 {w:List UInt8}{k:Nat}(hk:k=1\/k=5):EvR (λ_ ts=>d7 w ts) ((k,w)::l) () l:=
 EvR.need (by
  show((decide (k=1)||decide (k=5))&&decide (w=w))=true
  rcases hk with rfl|rfl<;>simp)
theorem i6 {α β:Type}{P:List Tk->Rs α}{Q:Nat->α->List Tk->Rs β}{l l1 l2:List BT}{x:α}{y:β}(h:EvR (λ_ ts=>P ts) l x l1)(hq:EvR (λk ts=>Q k x ts) l1 y l2):EvR (λk ts=>(P ts).bind λa ts=>Q k a ts) l y l2:=EvR.step h hq
end
theorem b4o {ms:List (List UInt8)}(hm:ms.all nmB=true)(hn:ms.Nodup){x:Leg}(hx:M4 ms.length x=true)(l:List BT):EvR (λ_ ts=>Y9 ms ts) ((a0z ms x).tail++l) x l:=by
 simp only[M4,Bool.and_eq_true] at hx
 unfold Y9
 exact i6 (a0P hm hn hx.1) (i6 (v7 (.inl rfl)) (i6 (a0P hm hn hx.2.1) (i6 (a0R hx.2.2.1) (i6 (v7 (.inr rfl)) (i6 (a0R hx.2.2.2) (i6 (v7 (.inr rfl)) .ok))))))
def a4C (l:List BT):Prop:=w6 [108,97,112,115] l=false/\(decide ((hdB l).1=1)&& !kw (hdB l).2)=false
theorem b0N {l:List BT}:a4C ((5,[125])::l):=⟨rfl,rfl⟩
theorem a9p {ms:List (List UInt8)}(hm:ms.all nmB=true)(hn:ms.Nodup):∀(n:Nat) (x:List Part),pfB ms.length n x=true->∀(d:Nat) (acc:List Part) (l:List BT),d+n<=16->a4C l->EvR (λk ts=>p6 ms k d acc ts) (Q7 ms n x++l) (acc++x) l
 |0,x,h=>by cases h
 | n + 1, x,h=>by
   intro d acc l hd he
   rw[pfB,Bool.and_eq_true] at h
   have hne:=(of_decide_eq_true h.1).1
   have key :∀(x:List Part) (acc:List Part),acc++x≠[]->x.all (ptF ms.length (pfB ms.length n))=true->EvR (λk ts=>p6 ms k d acc ts) (Q7 ms (n+1) x++l) (acc++x) l:=by
    intro x
    induction x with
    | nil=>
      intro acc hne _
      rw[List.append_nil] at hne⊢
      refine EvR.succ (Q:=λ_ ts=> .ok acc ts) .ok λk ts hts=>?_
      have h1:isW [108,97,112,115] ts=false:=(t8 hts).trans he.1
      have h2:G3 ts=false:=(a5q hts).trans he.2
      have h3:acc.isEmpty=false:=by cases acc with|nil=>exact absurd rfl hne|cons _ _=>rfl
      rw[p6,h1,h2,h3,if_neg (by decide)]
    | cons p x ih=>
      intro acc _ hall
      rw[List.all_cons,Bool.and_eq_true] at hall
      have hq:=hall.1
      unfold ptF at hq
      by_cases h0:p.laps=0
      . rw [if_pos h0] at hq
        have hq:=of_decide_eq_true hq
        have hin:I7 p.mat ms.length=true:=decide_eq_true ⟨hq.1,hq.2.1⟩
        have hp:p=⟨p.mat,0,[]⟩:=by
         obtain⟨m,lp,ps⟩:=p
         have e1:lp=0:=h0
         have e2:ps=[]:=List.eq_nil_of_length_eq_zero hq.2.2
         rw[e1,e2]
        have hL:Q7 ms (n+1) (p::x)++l=(1,atN ms p.mat)::(5,[59])::(Q7 ms (n+1) x++l):=by
         show((p::x).map _).flatten++l=_
         rw[List.map_cons,List.flatten_cons,if_pos h0];rfl
        rw[hL]
        have h1:=ih (acc++[⟨p.mat,0,[]⟩]) (by simp) hall.2
        rw[List.append_assoc,List.singleton_append,<-hp] at h1
        refine EvR.succ (Q:=λk ts=>(y7 ms ts).bind λm ts=>(d7 [59] ts).bind λ_ ts=>p6 ms k d (acc++[⟨m,0,[]⟩]) ts) ?_ λk ts hts=>?_
        . refine i6 (Q:=λk m ts=>(d7 [59] ts).bind λ_ ts=>p6 ms k d (acc++[⟨m,0,[]⟩]) ts) (a0P hm hn hin) (i6 (Q:=λk _ ts=>p6 ms k d (acc++[⟨p.mat,0,[]⟩]) ts) (v7 (.inr rfl)) ?_)
          rw[<-hp]
          exact h1
        . have hs:=O8 hm hin
          have hw:isW [108,97,112,115] ts=false:=by
           rw[t8 hts]
           show((decide ((1:Nat)=1)||decide ((1:Nat)=5))&&decide (atN ms p.mat=[108,97,112,115]))=false
           have:¬atN ms p.mat=[108,97,112,115]:=λe=>by
            have:=a3R hs
            rw[e] at this
            exact absurd this (by decide+kernel)
           rw[decide_eq_false this,Bool.and_false]
          have hi:G3 ts=true:=by
           rw[a5q hts]
           show(decide ((1:Nat)=1)&& !kw (atN ms p.mat))=true
           rw[a3R hs];rfl
          rw[p6,hw,hi,Bool.or_true,if_pos rfl,if_neg (by decide)]
      . rw [if_neg h0] at hq
        simp only[Bool.and_eq_true,decide_eq_true_eq] at hq
        have hp:p=⟨0,p.laps,p.parts⟩:=by
         obtain⟨m,lp,ps⟩:=p
         have e1:m=0:=hq.1
         rw[e1]
        have hL:Q7 ms (n+1) (p::x)++l=(1,[108,97,112,115])::(2,Lib.itoa p.laps)::(5,[123])::(Q7 ms n p.parts++((5,[125])::(Q7 ms (n+1) x++l))):=by
         show((p::x).map _).flatten++l=_
         rw[List.map_cons,List.flatten_cons,if_neg h0]
         simp only[List.cons_append,List.append_assoc,List.nil_append]
         rfl
        rw[hL]
        have h1:=ih (acc++[⟨0,p.laps,p.parts⟩]) (by simp) hall.2
        rw[List.append_assoc,List.singleton_append,<-hp] at h1
        have h2:=a9p hm hn n p.parts hq.2.2 (d+1) [] ((5,[125])::(Q7 ms (n+1) x++l)) (by omega) b0N
        rw[List.nil_append] at h2
        refine EvR.succ (Q:=λk ts=>(o7 ts.tail).bind λn ts=>(d7 [123] ts).bind λ_ ts=>(p6 ms k (d+1) [] ts).bind λx ts=>(d7 [125] ts).bind λ_ ts=>p6 ms k d (acc++[⟨0,n,x⟩]) ts) ?_ λk ts hts=>?_
        . refine EvR.tail (P:=λk ts=>(o7 ts).bind λn ts=>(d7 [123] ts).bind λ_ ts=>(p6 ms k (d+1) [] ts).bind λx ts=>(d7 [125] ts).bind λ_ ts=>p6 ms k d (acc++[⟨0,n,x⟩]) ts) ?_
          refine i6 (Q:=λk n ts=>(d7 [123] ts).bind λ_ ts=>(p6 ms k (d+1) [] ts).bind λx ts=>(d7 [125] ts).bind λ_ ts=>p6 ms k d (acc++[⟨0,n,x⟩]) ts) (R1 hq.2.1) ?_
          refine i6 (Q:=λk _ ts=>(p6 ms k (d+1) [] ts).bind λx ts=>(d7 [125] ts).bind λ_ ts=>p6 ms k d (acc++[⟨0,p.laps,x⟩]) ts) (v7 (.inr rfl)) ?_
          refine EvR.step (P:=λk ts=>p6 ms k (d+1) [] ts) (Q:=λk x ts=>(d7 [125] ts).bind λ_ ts=>p6 ms k d (acc++[⟨0,p.laps,x⟩]) ts) h2 ?_
          refine i6 (Q:=λk _ ts=>p6 ms k d (acc++[⟨0,p.laps,p.parts⟩]) ts) (v7 (.inr rfl)) ?_
          rw[<-hp]
          exact h1
        . have hw:isW [108,97,112,115] ts=true:=(t8 hts).trans rfl
          rw[p6,hw,Bool.or_true,Bool.true_or,if_pos rfl,if_pos rfl,if_neg (by omega)]
   exact key x acc (λe=>by
    have:=congrArg List.length e
    rw[List.length_append,List.length_nil] at this
    omega) h.2
theorem a9n {ms:List (List UInt8)}(hm:ms.all nmB=true)(hn:ms.Nodup){l:List BT}(hl:w6 [99,117,116,111,102,102] l=false):∀(x acc:List Cutoff),x.all (P8 ms.length)=true->EvR (λk ts=>C4 ms k acc ts) ((x.map (a2e ms)).flatten++l) (acc++x) l
 | [],acc,_=>by
   rw[List.append_nil]
   refine EvR.succ (Q:=λ_ ts=> .ok acc ts) .ok λk ts hts=>?_
   have h1:isW [99,117,116,111,102,102] ts=false:=(t8 hts).trans hl
   rw[C4,h1,if_neg (by decide)]
 | c ::x,acc,h=>by
   rw[List.all_cons,Bool.and_eq_true] at h
   have hc:=h.1
   simp only[P8,Bool.and_eq_true] at hc
   have ih:=a9n hm hn hl x (acc++[c]) h.2
   rw[List.append_assoc,List.singleton_append] at ih
   rw[List.map_cons,List.flatten_cons,List.append_assoc]
   refine EvR.succ (Q:=λk ts=>(y7 ms ts.tail).bind λm ts=>(d7 [108,97,112] ts).bind λ_ ts=>(o7 ts).bind λn ts=>(C1 ts).bind λt ts=>(d7 [59] ts).bind λ_ ts=>C4 ms k (acc++[⟨m,n,t⟩]) ts) ?_ λk ts hts=>?_
   . refine EvR.tail (P:=λk ts=>(y7 ms ts).bind λm ts=>(d7 [108,97,112] ts).bind λ_ ts=>(o7 ts).bind λn ts=>(C1 ts).bind λt ts=>(d7 [59] ts).bind λ_ ts=>C4 ms k (acc++[⟨m,n,t⟩]) ts) ?_
     exact i6 (a0P hm hn hc.1) (i6 (v7 (.inl rfl)) (i6 (R1 hc.2.1) (i6 (a0R hc.2.2) (i6 (v7 (.inr rfl)) ih))))
   . have hw:isW [99,117,116,111,102,102] ts=true:=(t8 hts).trans rfl
     rw[C4,hw,if_pos rfl]
theorem b4m {ms:List (List UInt8)}(hm:ms.all nmB=true)(hn:ms.Nodup){e:Int}(he: -1<=e/\e<ms.length){l:List BT}(hl:w6 [101,120,116,114,97] l=false):EvR (λ_ ts=>U2 ms ts) (R5 ms e++l) e l:=by
 unfold R5
 by_cases h0:0<=e
 . rw [if_pos h0]
   refine EvR.congr (Q:=λ_ ts=>(y7 ms ts.tail).bind λm ts=>(d7 [59] ts).bind λ_ ts=> .ok m ts) ?_ λk ts hts=>?_
   . refine EvR.tail (P:=λ_ ts=>(y7 ms ts).bind λm ts=>(d7 [59] ts).bind λ_ ts=> .ok m ts) ?_
     exact i6 (a0P hm hn (decide_eq_true ⟨h0,he.2⟩)) (i6 (v7 (.inr rfl)) .ok)
   . have hw:isW [101,120,116,114,97] ts=true:=(t8 hts).trans rfl
     rw[U2,if_pos hw]
 . rw[if_neg h0]
   obtain rfl:e= -1:=by omega
   refine EvR.congr (Q:=λ_ ts=> .ok (-1) ts) .ok λk ts hts=>?_
   have hw:isW [101,120,116,114,97] ts=false:=(t8 hts).trans hl
   rw[U2,if_neg (by rw[hw];decide)]
theorem b4r {t:Int}(h:1<=t/\t<=3){l:List BT}:EvR (λ_ ts=>a1H ts) ((1,tgW t)::l) t l:=λts hts=>by
 obtain⟨a,r,rfl,hr⟩:=O9 hts
 refine⟨r,hr,0,λ_ _=>?_⟩
 have:t=1\/t=2\/t=3:=by omega
 rcases this with rfl|rfl|rfl<;>rfl
theorem b6V {ms:List (List UInt8)}{cs:List Cutoff}{e:Int}{l:List BT}:a4C ((cs.map (a2e ms)).flatten++(R5 ms e++(5,[125])::l))/\w6 [99,117,116,111,102,102] (R5 ms e++(5,[125])::l)=false/\w6 [101,120,116,114,97] ((5,[125])::l)=false:=by
 have kc:kw [99,117,116,111,102,102]=true:=by decide+kernel
 have ke:kw [101,120,116,114,97]=true:=by decide+kernel
 have h2:a4C (R5 ms e++(5,[125])::l):=by
  unfold R5
  split
  . refine⟨rfl,?_⟩
    show(decide ((1:Nat)=1)&& !kw [101,120,116,114,97])=false
    rw[ke];rfl
  . exact b0N
 refine⟨?_,?_,rfl⟩
 . cases cs with
   |nil=>exact h2
   | cons c cs=>
     refine⟨rfl,?_⟩
     show(decide ((1:Nat)=1)&& !kw [99,117,116,111,102,102])=false
     rw[kc];rfl
 . unfold R5
   split<;>rfl
theorem b4l {ms:List (List UInt8)}(hm:ms.all nmB=true)(hn:ms.Nodup){d:Distance}(hd:G2 ms.length d=true)(hw:nmB d.name=true)(l:List BT):EvR (λk ts=>K2 ms k ts) ((R4 ms d).tail++l) d l:=by
 simp only[G2,Bool.and_eq_true,decide_eq_true_eq] at hd
 obtain⟨e1,e2,e3⟩:=b6V (ms:=ms) (cs:=d.cutoffs) (e:=d.extra) (l:=l)
 have h1:=a9p hm hn 5 d.route hd.2.2.2.1 0 [] _ (by omega) e1
 have h2:=a9n hm hn e2 d.cutoffs [] hd.2.2.2.2
 have h3:=b4m hm hn hd.2.1 e3
 rw[List.nil_append] at h1 h2
 have hL:(R4 ms d).tail++l=(1,d.name)::(1,tgW d.timing)::(5,[123])::(Q7 ms 5 d.route++((d.cutoffs.map (a2e ms)).flatten++(R5 ms d.extra++(5,[125])::l))):=by
  simp only[R4,List.tail_cons,List.cons_append,List.append_assoc,List.nil_append]
 rw[hL]
 unfold K2
 exact i6 (a1P hw) (i6 (b4r hd.1) (i6 (v7 (.inr rfl)) (EvR.step (P:=λk ts=>p6 ms k 0 [] ts) h1 (EvR.step (P:=λk ts=>C4 ms k [] ts) h2 (i6 h3 (i6 (v7 (.inr rfl)) .ok))))))
theorem b4s {w:Wave}(h:tmB w.gun=true)(hn:nmB w.name=true)(l:List BT):EvR (λ_ ts=>a0f ts) ((W9 w).tail++l) w l:=by
 unfold a0f
 exact i6 (a1P hn) (i6 (a0R h) (i6 (v7 (.inr rfl)) .ok))
theorem b4p {o:Offence}(h:M5 o=true)(hn:nmB o.name=true)(l:List BT):EvR (λ_ ts=>Z7 ts) ((N5 o).tail++l) o l:=by
 obtain⟨nm,t,lp,out⟩:=o
 simp only[M5,Bool.and_eq_true,Bool.or_eq_true,decide_eq_true_eq,Bool.not_eq_true'] at h
 obtain⟨h1,h2,h3,h4⟩:=h
 have hL:(N5 ⟨nm,t,lp,out⟩).tail++l=(1,nm)::((if out then[(1,[111,117,116])] else if 0<lp then[(1,[108,97,112,115]),(2,Lib.itoa lp)] else[(3,s8 t)])++(5,[59])::l):=by
  simp only[N5,List.tail_cons,List.cons_append,List.append_assoc,List.nil_append]
 rw[hL]
 unfold Z7
 refine i6 (a1P hn) (i6 (l1:=(5,[59])::l) (x:=⟨nm,t,lp,out⟩) ?_ (i6 (v7 (.inr rfl)) .ok))
 cases out with
 | true=>
   rw[if_pos rfl]
   obtain⟨rfl,rfl⟩:=h4.resolve_left (by decide)
   refine EvR.congr (Q:=λ_ ts=>(d7 [111,117,116] ts).bind λ_ ts=> .ok ⟨nm,0,0,true⟩ ts) (i6 (P:=λts=>d7 [111,117,116] ts) (Q:=λ_ _ ts=> .ok (⟨nm,0,0,true⟩:Offence) ts) (l1:=(5,[59])::l) (v7 (.inl rfl)) .ok) λk ts hts=>?_
   have hw:isW [108,97,112,115] ts=false:=(t8 hts).trans rfl
   obtain⟨a,r,rfl,hr⟩:=O9 hts
   show Q6 _ _=_
   unfold Q6
   rw[show B3 (hdT (⟨1,[111,117,116],a⟩::r))=none from rfl]
   dsimp only
   rw[hw,if_neg (by decide)]
 | false=>
   rw[if_neg (by decide)]
   by_cases h0:0<lp
   . rw [if_pos h0]
     obtain rfl:t=0:=h3.resolve_right (by omega)
     refine EvR.congr (Q:=λ_ ts=>(o7 ts.tail).bind λn ts=> .ok ⟨nm,0,n,false⟩ ts) ?_ λk ts hts=>?_
     . exact EvR.tail (P:=λ_ ts=>(o7 ts).bind λn ts=> .ok (⟨nm,0,n,false⟩:Offence) ts) (i6 (P:=λts=>o7 ts) (Q:=λ_ n ts=> .ok (⟨nm,0,n,false⟩:Offence) ts) (l1:=(5,[59])::l) (R1 h2) .ok)
     . have hw:isW [108,97,112,115] ts=true:=(t8 hts).trans rfl
       obtain⟨a,r,rfl,hr⟩:=O9 hts
       show Q6 _ _=_
       unfold Q6
       rw[show B3 (hdT (⟨1,[108,97,112,115],a⟩::r))=none from rfl]
       dsimp only
       rw[hw,if_pos rfl]
   . rw[if_neg h0]
     obtain rfl:lp=0:=by
      simp only[amB,Bool.and_eq_true,decide_eq_true_eq] at h2
      omega
     intro ts hts
     obtain⟨a,r,rfl,hr⟩:=O9 hts
     refine⟨r,hr,0,λ_ _=>?_⟩
     have ht:B3 (hdT (⟨3,s8 t,a⟩::r))=some t:=by
      show B3 ⟨3,s8 t,a⟩=_
      unfold B3
      rw[if_pos rfl]
      show(match B9 (s8 t) with|some v=>if 0<=v then some v else none|none=>none)=_
      rw[a8E h1]
      show(if 0<=t then some t else none)=_
      rw[if_pos (by simp only[tmB,Bool.and_eq_true,decide_eq_true_eq] at h1;exact h1.1)]
     show Q6 _ _=_
     unfold Q6
     rw[ht]
     rfl
theorem b4j {x:Category}(h:M3 x=true)(hn:nmB x.name=true)(l:List BT):EvR (λ_ ts=>X7 ts) ((P0 x).tail++l) x l:=by
 simp only[M3,Bool.and_eq_true] at h
 unfold X7
 exact i6 (a1P hn) (i6 (R1 h.1) (i6 (v7 (.inl rfl)) (i6 (R1 h.2) (i6 (v7 (.inr rfl)) .ok))))
theorem b4t {cs:List (List UInt8)}(hc:cs.all nmB=true)(hn:cs.Nodup){c:Int}(h: -1<=c/\c<cs.length){l:List BT}:EvR (λ_ ts=>X0 cs ts) (a6s cs c::l) c l:=by
 unfold a6s a0g
 by_cases h0:0<=c
 . have hin:I7 c cs.length=true:=decide_eq_true ⟨h0,h.2⟩
   rw[if_pos h0]
   refine EvR.congr (a0P hc hn hin) λk ts hts=>?_
   have hs:=O8 hc hin
   have hw:isW [97,108,108] ts=false:=by
    rw[t8 hts]
    show((decide ((1:Nat)=1)||decide ((1:Nat)=5))&&decide (atN cs c=[97,108,108]))=false
    have:¬atN cs c=[97,108,108]:=λe=>by
     have:=a3R hs
     rw[e] at this
     exact absurd this (by decide+kernel)
    rw[decide_eq_false this,Bool.and_false]
   rw[X0,hw,if_neg (by decide)]
 . rw[if_neg h0]
   obtain rfl:c= -1:=by omega
   intro ts hts
   have hw:isW [97,108,108] ts=true:=(t8 hts).trans rfl
   obtain⟨a,r,rfl,hr⟩:=O9 hts
   exact⟨r,hr,0,λ_ _=>by show X0 _ _=_;rw[X0,if_pos hw];rfl⟩
theorem b4q {ds cs:List (List UInt8)}(hd:ds.all nmB=true)(hdn:ds.Nodup)(hc:cs.all nmB=true)(hcn:cs.Nodup){p:Prize}(h:K3 ds.length cs.length p=true)(l:List BT):EvR (λ_ ts=>Z9 ds cs ts) ((N7 ds cs p).tail++l) p l:=by
 simp only[K3,Bool.and_eq_true,decide_eq_true_eq] at h
 unfold Z9
 exact i6 (a0P hd hdn h.1) (i6 (b4t hc hcn h.2.1) (i6 (R1 h.2.2.1) (i6 (R1 h.2.2.2) (i6 (v7 (.inr rfl)) .ok))))
theorem a9o {l:List BT}:∀(x acc:List Mat),x.all Y1=true->(x.map (·.name)).all nmB=true->EvR (λk ts=>A9 k acc ts) ((x.map a0B).flatten++(5,[125])::l) (acc++x) l
 | [],acc,_,_=>by
   rw[List.append_nil]
   refine EvR.succ (Q:=λ_ ts=>(d7 [125] ts).bind λ_ ts=> .ok acc ts) (i6 (v7 (.inr rfl)) .ok) λk ts hts=>?_
   have h1:L1 ts=none:=by
    unfold L1
    rw[t8 hts,t8 hts,t8 hts];rfl
   rw[A9,h1]
 | m ::x,acc,h,hn=>by
   rw[List.all_cons,Bool.and_eq_true] at h
   rw[List.map_cons,List.all_cons,Bool.and_eq_true] at hn
   have hk:=of_decide_eq_true h.1
   have ih:=a9o (l:=l) x (acc++[m]) h.2 hn.2
   rw[List.append_assoc,List.singleton_append] at ih
   rw[List.map_cons,List.flatten_cons,List.append_assoc]
   refine EvR.succ (Q:=λk ts=>(D1 ts.tail).bind λw ts=>(d7 [59] ts).bind λ_ ts=>A9 k (acc++[⟨w,m.kind⟩]) ts) ?_ λk ts hts=>?_
   . refine EvR.tail (P:=λk ts=>(D1 ts).bind λw ts=>(d7 [59] ts).bind λ_ ts=>A9 k (acc++[⟨w,m.kind⟩]) ts) ?_
     exact i6 (a1P hn.1) (i6 (v7 (.inr rfl)) ih)
   . have h1:L1 ts=some m.kind:=by
      unfold L1
      have hb:∀w,w6 w (a0B m++((x.map a0B).flatten++(5,[125])::l))=decide (mtW m.kind=w):=λw=>by
       show((decide ((1:Nat)=1)||decide ((1:Nat)=5))&&decide (mtW m.kind=w))=_
       simp
      rw[t8 hts,t8 hts,t8 hts,hb,hb,hb]
      have:m.kind=1\/m.kind=2\/m.kind=3:=by omega
      rcases this with e|e|e<;>rw[e]<;>rfl
     rw[A9,h1]
end Go.Proofs.YtaopegkpjhkooaaGreatDoor.Dx
/- Chapter 06: SyntaxWritten: a written course is read again (plain). -/
namespace Go.Proofs.YtaopegkpjhkooaaGreatDoor.Dx
open Go Go.RowKit
set_option maxRecDepth 100000
theorem I8 {α:Type}{L:α->List BT}{w v:List UInt8}(hne:w≠v)(hL:∀x,∃t,L x=(1,w)::t){xs:List α}{l:List BT}(hl:w6 v l=false):w6 v ((xs.map L).flatten++l)=false:=by
 cases xs with
 |nil=>exact hl
 | cons x xs=>
   obtain⟨t,e⟩:=hL x
   rw[List.map_cons,List.flatten_cons,e]
   show((decide ((1:Nat)=1)||decide ((1:Nat)=5))&&decide (w=v))=false
   rw[decide_eq_false hne,Bool.and_false]
theorem a0Q {α:Type}{i:Nat}{add:Course->α->Course}{L:α->List BT}{w:List UInt8}(hw:secW.getD i []=w)(Inv:Course->Prop)(hI:∀c x,Inv c->Inv (add c x))(hL:∀x,∃t,L x=(1,w)::t):∀(xs:List α),
 (∀x∈xs,∀c l,Inv c->EvR (λk ts=>G6 k i c ts) ((L x).tail++l) (add c x) l)->∀c l,Inv c->w6 w l=false->EvR (λk ts=>A3 i k c ts) ((xs.map L).flatten++l) (xs.foldl add c) l
 | [],_,c,l,_,hl=>by
   refine EvR.succ (Q:=λ_ ts=> .ok c ts) .ok λk ts hts=>?_
   have h1:isW w ts=false:=(t8 hts).trans hl
   rw[A3,hw,h1,if_neg (by decide)]
 | x ::xs,h,c,l,hc,hl=>by
   have ih:=a0Q hw Inv hI hL xs (λy hy=>h y (List.mem_cons_of_mem _ hy)) (add c x) l (hI c x hc) hl
   have h1:=h x (List.mem_cons_self ..) c ((xs.map L).flatten++l) hc
   obtain⟨t,e⟩:=hL x
   rw[e,List.tail_cons] at h1
   rw[List.map_cons,List.flatten_cons,List.append_assoc,e,List.foldl_cons,List.cons_append]
   refine EvR.succ (Q:=λk ts=>(G6 k i c ts.tail).bind λc ts=>A3 i k c ts) ?_ λk ts hts=>?_
   . exact EvR.tail (P:=λk ts=>(G6 k i c ts).bind λc ts=>A3 i k c ts) (EvR.step (P:=λk ts=>G6 k i c ts) (Q:=λk c ts=>A3 i k c ts) h1 ih)
   . have h2:isW w ts=true:=by
      rw[t8 hts]
      show((decide ((1:Nat)=1)||decide ((1:Nat)=5))&&decide (w=w))=true
      simp
     rw[A3,hw,if_pos h2]
theorem a9F:∀(xs:List Leg) (c:Course),xs.foldl (λc x=>{c with legs:=c.legs++[x]}) c={c with legs:=c.legs++xs}
 |[],c=>by simp
 |x::xs,c=>by rw[List.foldl_cons,a9F xs];simp
theorem a9G:∀(xs:List Distance) (c:Course),xs.foldl (λc x=>{c with distances:=c.distances++[x]}) c={c with distances:=c.distances++xs}
 |[],c=>by simp
 |x::xs,c=>by rw[List.foldl_cons,a9G xs];simp
theorem a9H:∀(xs:List Wave) (c:Course),xs.foldl (λc x=>{c with waves:=c.waves++[x]}) c={c with waves:=c.waves++xs}
 |[],c=>by simp
 |x::xs,c=>by rw[List.foldl_cons,a9H xs];simp
theorem a9I:∀(xs:List Offence) (c:Course),xs.foldl (λc x=>{c with offences:=c.offences++[x]}) c={c with offences:=c.offences++xs}
 |[],c=>by simp
 |x::xs,c=>by rw[List.foldl_cons,a9I xs];simp
theorem a9J:∀(xs:List Category) (c:Course),xs.foldl (λc x=>{c with categories:=c.categories++[x]}) c={c with categories:=c.categories++xs}
 |[],c=>by simp
 |x::xs,c=>by rw[List.foldl_cons,a9J xs];simp
theorem a9K:∀(xs:List Prize) (c:Course),xs.foldl (λc x=>{c with prizes:=c.prizes++[x]}) c={c with prizes:=c.prizes++xs}
 |[],c=>by simp
 |x::xs,c=>by rw[List.foldl_cons,a9K xs];simp
theorem a2Y {w:List UInt8}{P:List Tk->Rs Int}{n:Int}{l1 l:List BT}(h:EvR (λ_ ts=>P ts) l1 n ((5,[59])::l)):EvR (λ_ ts=>G7 w P ts) ((1,w)::l1) n l:=by
 unfold G7
 exact i6 (v7 (.inl rfl)) (i6 h (i6 (v7 (.inr rfl)) .ok))
theorem b4n {c:Course}{x:List Step}{L:List BT}{f:Faults}{fee dl:Int}(hS:∀l,a1O l->EvS 0 [] (L++l) x l)(h1:amB f.misses=true)(h2:amB f.strays=true)(h3:tmB f.window=true)(h4:tmB f.residual=true)(h5:amB f.drift=true)(h6:amB fee=true)(h7:tmB dl=true)(l:List BT):
 EvR (λk ts=>S0 k c ts) (J4 L f fee dl++l) {c with ties:=x,faults:=f,fee:=fee,deadline:=dl} l:=by
 obtain⟨a,b,w,r,d⟩:=f
 have hL:J4 L ⟨a,b,w,r,d⟩ fee dl++l=(1,[116,105,101,115])::(5,[123])::(L++((5,[125])::(1,[102,97,117,108,116,115])::(5,[123])::(1,[109,105,115,115,101,115])::(2,Lib.itoa a)::(5,[59])::(1,[115,116,114,97,121,115])::(2,Lib.itoa b)::(5,[59])::(1,[119,105,110,100,111,119])::(3,s8 w)::(5,[59])::
  (1,[114,101,115,105,100,117,97,108])::(3,s8 r)::(5,[59])::(1,[100,114,105,102,116])::(2,Lib.itoa d)::(5,[59])::(5,[125])::(1,[112,114,111,116,101,115,116])::(1,[102,101,101])::(2,Lib.itoa fee)::(1,[100,101,97,100,108,105,110,101])::(3,s8 dl)::(5,[59])::(5,[125])::l)):=by
  simp only[J4,List.cons_append,List.append_assoc,List.nil_append]
 rw[hL]
 unfold S0
 refine i6 (v7 (.inl rfl)) ?_
 refine EvR.step (P:=λk ts=>blockP k 0 ts) (a9k (hS _ (.inl ⟨_,rfl⟩))) ?_
 refine i6 (v7 (.inl rfl)) (i6 (v7 (.inr rfl)) ?_)
 refine i6 (a2Y (R1 h1)) (i6 (a2Y (R1 h2)) (i6 (a2Y (a0R h3)) (i6 (a2Y (a0R h4)) (i6 (a2Y (R1 h5)) ?_))))
 exact i6 (v7 (.inr rfl)) (i6 (v7 (.inl rfl)) (i6 (v7 (.inl rfl)) (i6 (R1 h6) (i6 (v7 (.inl rfl)) (i6 (a0R h7) (i6 (v7 (.inr rfl)) (i6 (v7 (.inr rfl)) .ok)))))))
def a7d (c:Course):Bool:=decide (c.legs.length<=20/\c.prizes.length<=20/\c.mats.length<=20/\c.distances.length<=20/\c.waves.length<=20/\c.offences.length<=20/\c.categories.length<=20)
def K4 (c:Course):Bool:=
 a7d c&&(c.mats.all Y1&&(c.legs.all (M4 c.mats.length)&&(c.distances.all (G2 c.mats.length)&&(c.waves.all (λw=>tmB w.gun)&&(c.offences.all M5&&(c.categories.all M3&&(c.prizes.all (K3 c.distances.length c.categories.length)&&
 (([c.faults.misses,c.faults.strays,c.faults.drift,c.fee].all amB&&[c.faults.window,c.faults.residual,c.deadline].all tmB)&&
 (F3 [c.name]&&(F3 c.ms&&(F3 (C0 c.distances)&&(F3 (c.waves.map (·.name))&&(F3 (c.offences.map (·.name))&&F3 (B7 c.categories))))))))))))))
def a3r (c:Course)(L:List BT):List BT:=
 (1,[99,111,117,114,115,101])::(1,c.name)::(5,[123])::(1,[109,97,116,115])::(5,[123])::((c.mats.map a0B).flatten++((5,[125])::((c.legs.map (a0z c.ms)).flatten++((c.distances.map (R4 c.ms)).flatten++((c.waves.map W9).flatten++((c.offences.map N5).flatten++
 ((c.categories.map P0).flatten++((c.prizes.map (N7 (C0 c.distances) (B7 c.categories))).flatten++J4 L c.faults c.fee c.deadline))))))))
theorem F4 {l:List (List UInt8)}(h:F3 l=true):l.all nmB=true/\l.Nodup:=by
 simp only[F3,Bool.and_eq_true,decide_eq_true_eq] at h
 exact⟨h.1,h.2.1⟩
theorem E6 {α:Type}{f:α->List UInt8}{l:List α}(h:(l.map f).all nmB=true){x:α}(hx:x∈l):nmB (f x)=true:=List.all_eq_true.1 h _ (List.mem_map.2 ⟨x,hx,rfl⟩)
theorem b6p {c:Course}(hf:K4 c=true){ties:List UInt8}{L:List BT}(ht:TxC ties L):TxC (a0t c ties) (a3r c L):=λr l h=>by
 simp only[K4,Bool.and_eq_true] at hf
 obtain⟨_,f1,f2,f3,f4,f5,f6,f7,⟨f8,f9⟩,n0,n1,n2,n3,n4,n5⟩:=hf
 simp only[List.all_cons,List.all_nil,Bool.and_true,Bool.and_eq_true] at f8 f9
 have m1:=(F4 n1).1
 have m2:=(F4 n2).1
 have m5:=(F4 n5).1
 have hlen:(c.ms.length:Int)=c.mats.length:=by rw[List.length_map]
 have hld:((C0 c.distances).length:Int)=c.distances.length:=by rw[List.length_map]
 have hlc:((B7 c.categories).length:Int)=c.categories.length:=by rw[List.length_map]
 have hnm:nmB c.name=true:=by
  have:=(F4 n0).1
  simpa using this
 have a0:=c2V ht f8.1 f8.2.1 f9.1 f9.2.1 f8.2.2.1 f8.2.2.2 f9.2.2 _ _ h
 have a1:=TxC.all (f:=L3 (C0 c.distances) (B7 c.categories)) (g:=N7 (C0 c.distances) (B7 c.categories)) (λx hx=>c0c m2 m5 (by rw[hld,hlc];exact List.all_eq_true.1 f7 x hx)) _ _ a0
 have a2:=TxC.all (f:=L9) (g:=P0) (λx hx=>b5J (List.all_eq_true.1 f6 x hx) (E6 m5 hx)) _ _ a1
 have a3:=TxC.all (f:=J0) (g:=N5) (λx hx=>b9F (List.all_eq_true.1 f5 x hx) (E6 (F4 n4).1 hx)) _ _ a2
 have a4:=TxC.all (f:=O3) (g:=W9) (λx hx=>c4l (List.all_eq_true.1 f4 x hx) (E6 (F4 n3).1 hx)) _ _ a3
 have a5:=TxC.all (f:=I5 c.ms) (g:=R4 c.ms) (λx hx=>b6U m1 (by rw[hlen];exact List.all_eq_true.1 f3 x hx) (E6 m2 hx)) _ _ a4
 have a6:=TxC.all (f:=M8 c.ms) (g:=a0z c.ms) (λx hx=>b8C m1 (by rw[hlen];exact List.all_eq_true.1 f2 x hx)) _ _ a5
 have a7:=TxC.all (f:=Q3) (g:=a0B) (λx hx=>b8V (List.all_eq_true.1 f1 x hx) (E6 m1 hx)) _ _ (Lx.rb a6.nl)
 have:=Lx.ws (w:=[99,111,117,114,115,101]) (by decide) (Lx.nm hnm C3 (Lx.sp (Lx.lb (Lx.nl (Lx.ws (w:=[109,97,116,115]) (by decide) (Lx.lb a7))))))
 simpa only[a0t,a3r,List.append_assoc,List.cons_append,List.nil_append] using this
theorem b4k {c:Course}(hf:K4 c=true){L:List BT}(hS:∀l,a1O l->EvS 0 [] (L++l) c.ties l)(l:List BT):EvR (λk ts=>D9 k ts) (a3r c L++l) c l:=by
 obtain⟨nm,mats,legs,dsts,wavs,offs,cats,przs,ties,f,fee,dl⟩:=c
 simp only[K4,Bool.and_eq_true] at hf
 obtain⟨_,f1,f2,f3,f4,f5,f6,f7,⟨f8,f9⟩,n0,n1,n2,n3,n4,n5⟩:=hf
 simp only[List.all_cons,List.all_nil,Bool.and_true,Bool.and_eq_true] at f8 f9
 obtain⟨m1,d1⟩:=F4 n1
 obtain⟨m2,d2⟩:=F4 n2
 obtain⟨m5,d5⟩:=F4 n5
 have m3:=(F4 n3).1
 have m4:=(F4 n4).1
 have hnm:nmB nm=true:=by
  have:=(F4 n0).1
  simpa using this
 dsimp only at f1 f2 f3 f4 f5 f6 f7 m1 m2 m3 m4 m5 d1 d2 d5 hS
 obtain⟨ms,hms⟩:∃ms,ms=mats.map (·.name):=⟨_,rfl⟩
 have hlen:(ms.length:Int)=mats.length:=by rw[hms,List.length_map]
 have hld:((C0 dsts).length:Int)=dsts.length:=by rw[List.length_map]
 have hlc:((B7 cats).length:Int)=cats.length:=by rw[List.length_map]
 have e0:∀c:Course,c.mats=mats->c.ms=ms:=λc h=>by rw[hms,<-h]
 have mm:ms.all nmB=true:=by rw[hms];exact m1
 have dd:ms.Nodup:=by rw[hms];exact d1
 have hLL:a3r ⟨nm,mats,legs,dsts,wavs,offs,cats,przs,ties,f,fee,dl⟩ L++l=(1,[99,111,117,114,115,101])::(1,nm)::(5,[123])::(1,[109,97,116,115])::(5,[123])::((mats.map a0B).flatten++((5,[125])::((legs.map (a0z ms)).flatten++((dsts.map (R4 ms)).flatten++((wavs.map W9).flatten++((offs.map N5).flatten++
  ((cats.map P0).flatten++((przs.map (N7 (C0 dsts) (B7 cats))).flatten++(J4 L f fee dl++l))))))))):=by
  rw[hms]
  simp only[a3r,List.cons_append,List.append_assoc,List.nil_append]
 rw[hLL]
 have w5:w6 [112,114,105,122,101] (J4 L f fee dl++l)=false:=rfl
 have w4:w6 [99,97,116,101,103,111,114,121] ((przs.map (N7 (C0 dsts) (B7 cats))).flatten++(J4 L f fee dl++l))=false:=I8 (w:=[112,114,105,122,101]) (by decide) (λx=>⟨_,rfl⟩) rfl
 have w3:w6 [111,102,102,101,110,99,101] ((cats.map P0).flatten++((przs.map (N7 (C0 dsts) (B7 cats))).flatten++(J4 L f fee dl++l)))=false:=I8 (w:=[99,97,116,101,103,111,114,121]) (by decide) (λx=>⟨_,rfl⟩) (I8 (w:=[112,114,105,122,101]) (by decide) (λx=>⟨_,rfl⟩) rfl)
 have w2:w6 [119,97,118,101] ((offs.map N5).flatten++((cats.map P0).flatten++((przs.map (N7 (C0 dsts) (B7 cats))).flatten++(J4 L f fee dl++l))))=false:=
  I8 (w:=[111,102,102,101,110,99,101]) (by decide) (λx=>⟨_,rfl⟩) (I8 (w:=[99,97,116,101,103,111,114,121]) (by decide) (λx=>⟨_,rfl⟩) (I8 (w:=[112,114,105,122,101]) (by decide) (λx=>⟨_,rfl⟩) rfl))
 have w1:w6 [100,105,115,116,97,110,99,101] ((wavs.map W9).flatten++((offs.map N5).flatten++((cats.map P0).flatten++((przs.map (N7 (C0 dsts) (B7 cats))).flatten++(J4 L f fee dl++l)))))=false:=
  I8 (w:=[119,97,118,101]) (by decide) (λx=>⟨_,rfl⟩) (I8 (w:=[111,102,102,101,110,99,101]) (by decide) (λx=>⟨_,rfl⟩) (I8 (w:=[99,97,116,101,103,111,114,121]) (by decide) (λx=>⟨_,rfl⟩) (I8 (w:=[112,114,105,122,101]) (by decide) (λx=>⟨_,rfl⟩) rfl)))
 have w0:w6 [108,101,103] ((dsts.map (R4 ms)).flatten++((wavs.map W9).flatten++((offs.map N5).flatten++((cats.map P0).flatten++((przs.map (N7 (C0 dsts) (B7 cats))).flatten++(J4 L f fee dl++l))))))=false:=
  I8 (w:=[100,105,115,116,97,110,99,101]) (by decide) (λx=>⟨_,rfl⟩) (I8 (w:=[119,97,118,101]) (by decide) (λx=>⟨_,rfl⟩) (I8 (w:=[111,102,102,101,110,99,101]) (by decide) (λx=>⟨_,rfl⟩) (I8 (w:=[99,97,116,101,103,111,114,121]) (by decide) (λx=>⟨_,rfl⟩) (I8 (w:=[112,114,105,122,101]) (by decide) (λx=>⟨_,rfl⟩) rfl))))
 have s0:=a0Q (i:=0) (add:=λc x=>{c with legs:=c.legs++[x]}) (L:=a0z ms) (w:=[108,101,103]) rfl (λc=>c.ms=ms) (λc x h=>h) (λx=>⟨_,rfl⟩) legs (λx hx c l hc=>by
  show EvR (λk ts=>(Y9 c.ms ts).bind λx ts=> .ok {c with legs:=c.legs++[x]} ts) _ _ _
  rw[hc]
  exact i6 (b4o mm dd (by rw[hlen];exact List.all_eq_true.1 f2 x hx) l) .ok)
 have s1:=a0Q (i:=1) (add:=λc x=>{c with distances:=c.distances++[x]}) (L:=R4 ms) (w:=[100,105,115,116,97,110,99,101]) rfl (λc=>c.ms=ms) (λc x h=>h) (λx=>⟨_,rfl⟩) dsts (λx hx c l hc=>by
  show EvR (λk ts=>(K2 c.ms k ts).bind λx ts=> .ok {c with distances:=c.distances++[x]} ts) _ _ _
  rw[hc]
  exact EvR.step (P:=λk ts=>K2 ms k ts) (b4l mm dd (by rw[hlen];exact List.all_eq_true.1 f3 x hx) (E6 m2 hx) l) .ok)
 have s2:=a0Q (i:=2) (add:=λc x=>{c with waves:=c.waves++[x]}) (L:=W9) (w:=[119,97,118,101]) rfl (λc=>True) (λc x h=>h) (λx=>⟨_,rfl⟩) wavs (λx hx c l hc=>by
  show EvR (λk ts=>(a0f ts).bind λx ts=> .ok {c with waves:=c.waves++[x]} ts) _ _ _
  exact i6 (b4s (List.all_eq_true.1 f4 x hx) (E6 m3 hx) l) .ok)
 have s3:=a0Q (i:=3) (add:=λc x=>{c with offences:=c.offences++[x]}) (L:=N5) (w:=[111,102,102,101,110,99,101]) rfl (λc=>True) (λc x h=>h) (λx=>⟨_,rfl⟩) offs (λx hx c l hc=>by
  show EvR (λk ts=>(Z7 ts).bind λx ts=> .ok {c with offences:=c.offences++[x]} ts) _ _ _
  exact i6 (b4p (List.all_eq_true.1 f5 x hx) (E6 m4 hx) l) .ok)
 have s4:=a0Q (i:=4) (add:=λc x=>{c with categories:=c.categories++[x]}) (L:=P0) (w:=[99,97,116,101,103,111,114,121]) rfl (λc=>True) (λc x h=>h) (λx=>⟨_,rfl⟩) cats (λx hx c l hc=>by
  show EvR (λk ts=>(X7 ts).bind λx ts=> .ok {c with categories:=c.categories++[x]} ts) _ _ _
  exact i6 (b4j (List.all_eq_true.1 f6 x hx) (E6 m5 hx) l) .ok)
 have s5:=a0Q (i:=5) (add:=λc x=>{c with prizes:=c.prizes++[x]}) (L:=N7 (C0 dsts) (B7 cats)) (w:=[112,114,105,122,101]) rfl (λc=>c.distances=dsts/\c.categories=cats) (λc x h=>h) (λx=>⟨_,rfl⟩) przs (λx hx c l hc=>by
  show EvR (λk ts=>(Z9 (c.distances.map (·.name)) (c.categories.map (·.name)) ts).bind λx ts=> .ok {c with prizes:=c.prizes++[x]} ts) _ _ _
  rw[hc.1,hc.2]
  exact i6 (b4q m2 d2 m5 d5 (by rw[hld,hlc];exact List.all_eq_true.1 f7 x hx) l) .ok)
 unfold D9
 refine i6 (v7 (.inl rfl)) (i6 (a1P hnm) (i6 (v7 (.inr rfl)) (i6 (v7 (.inl rfl)) (i6 (v7 (.inr rfl)) ?_))))
 refine EvR.step (P:=λk ts=>A9 k [] ts) (a9o mats [] f1 m1) ?_
 rw[List.nil_append]
 have hsec:EvR (λk ts=>A4 k 6 0 {zC with name:=nm,mats:=mats} ts) ((legs.map (a0z ms)).flatten++((dsts.map (R4 ms)).flatten++((wavs.map W9).flatten++((offs.map N5).flatten++
  ((cats.map P0).flatten++((przs.map (N7 (C0 dsts) (B7 cats))).flatten++(J4 L f fee dl++l))))))) {zC with name:=nm,mats:=mats,legs:=legs,distances:=dsts,waves:=wavs,offences:=offs,categories:=cats,prizes:=przs} (J4 L f fee dl++l):=by
  have t0:=s0 {zC with name:=nm,mats:=mats} _ (e0 _ rfl) w0
  rw[a9F] at t0
  have t1:=s1 {zC with name:=nm,mats:=mats,legs:=legs} _ (e0 _ rfl) w1
  rw[a9G] at t1
  have t2:=s2 {zC with name:=nm,mats:=mats,legs:=legs,distances:=dsts} _ True.intro w2
  rw[a9H] at t2
  have t3:=s3 {zC with name:=nm,mats:=mats,legs:=legs,distances:=dsts,waves:=wavs} _ True.intro w3
  rw[a9I] at t3
  have t4:=s4 {zC with name:=nm,mats:=mats,legs:=legs,distances:=dsts,waves:=wavs,offences:=offs} _ True.intro w4
  rw[a9J] at t4
  have t5:=s5 {zC with name:=nm,mats:=mats,legs:=legs,distances:=dsts,waves:=wavs,offences:=offs,categories:=cats} _ ⟨rfl,rfl⟩ w5
  rw[a9K] at t5
  refine EvR.step (P:=λk ts=>A3 0 k {zC with name:=nm,mats:=mats} ts) (Q:=λk c ts=>A4 k 5 1 c ts) t0 ?_
  refine EvR.step (P:=λk ts=>A3 1 k {zC with name:=nm,mats:=mats,legs:=legs} ts) (Q:=λk c ts=>A4 k 4 2 c ts) t1 ?_
  refine EvR.step (P:=λk ts=>A3 2 k {zC with name:=nm,mats:=mats,legs:=legs,distances:=dsts} ts) (Q:=λk c ts=>A4 k 3 3 c ts) t2 ?_
  refine EvR.step (P:=λk ts=>A3 3 k {zC with name:=nm,mats:=mats,legs:=legs,distances:=dsts,waves:=wavs} ts) (Q:=λk c ts=>A4 k 2 4 c ts) t3 ?_
  refine EvR.step (P:=λk ts=>A3 4 k {zC with name:=nm,mats:=mats,legs:=legs,distances:=dsts,waves:=wavs,offences:=offs} ts) (Q:=λk c ts=>A4 k 1 5 c ts) t4 ?_
  exact EvR.step (P:=λk ts=>A3 5 k {zC with name:=nm,mats:=mats,legs:=legs,distances:=dsts,waves:=wavs,offences:=offs,categories:=cats} ts) (Q:=λk c ts=>A4 k 0 6 c ts) t5 .ok
 refine EvR.step (P:=λk ts=>A4 k 6 0 {zC with name:=nm,mats:=mats} ts) (Q:=λk c ts=>S0 k c ts) hsec ?_
 exact b4n hS f8.1 f8.2.1 f9.1 f9.2.1 f8.2.2.1 f8.2.2.2 f9.2.2 l
theorem b6e {src:List UInt8}{l:List BT}{c:Course}(hl:src.length<=65536)(h:Lx src l)(he:EvR (λk ts=>D9 k ts) l c [(6,[])]):P3 src=(c,0,0):=by
 obtain⟨ts',h1,h2⟩:=b7b (P:=λk ts=>D9 k ts) (λts k h=>b6l h) he (h.toks 0) (b0r src hl)
 obtain⟨a,r,rfl,_⟩:=O9 h1
 unfold P3 U8
 rw[h.bads]
 show a4K zC (D9 FU (toks src 0))=_
 rw[h2]
 rfl
theorem b6g {c:Course}(hf:K4 c=true)(ht:(sTx 5 c.ties).2=true)(hl:(a0t c (sTx 5 c.ties).1).length<=65536):P3 (a0t c (sTx 5 c.ties).1)=(c,0,0):=by
 obtain⟨_,L,h1,h2⟩:=b2Q 5 c.ties ht
 have hx:=b6p hf (ties:=(sTx 5 c.ties).1) (L:=L) h1 [] [(6,[])] Lx.nil
 rw[List.append_nil] at hx
 exact b6e hl hx (b4k hf (λl he=>by have:=h2 0 l [] (by omega) he;simpa using this) [(6,[])])
end Go.Proofs.YtaopegkpjhkooaaGreatDoor.Dx
