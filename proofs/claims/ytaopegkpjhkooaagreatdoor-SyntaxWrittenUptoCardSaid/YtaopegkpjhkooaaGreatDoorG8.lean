/- Chapter 06: the chapter's examples: sane. -/
import Derived.Test.YtaopegkpjhkooaaGreatDoorG6
import Derived.Test.YtaopegkpjhkooaaGreatDoorG7
set_option linter.all false
namespace Go.Proofs.YtaopegkpjhkooaaGreatDoor.Dx
open Go Go.RowKit Go.Proofs
set_option maxRecDepth 100000
set_option maxHeartbeats 4000000
theorem a4W {src:List UInt8}{t:List Tk}(h:toks src 0=t/\bads src 0 (-1) 0=[])(k:Nat)(hk:k<=FU){r:Rs Cond}(hr:condP k 0 t=r)(hne:r≠ .out):H3 src=a4K cz r:=by
 unfold H3 U8
 rw[h.1,h.2]
 dsimp only
 rw[a7L (f:=λk=>condP k 0 t) (λk=>(a6U k).2.2.2.1 0 t) (by rw[hr];exact hne) hk,hr]
theorem c2p {src:List UInt8}{t:List Tk}(h:toks src 0=t/\bads src 0 (-1) 0=[])(k:Nat)(hk:k<=FU){r:Rs (List Step)}(hr:n8 k 0 [] t=r)(hne:r≠ .out):J3 src=a4K [] r:=by
 unfold J3 U8
 rw[h.1,h.2]
 dsimp only
 rw[a7L (f:=λk=>n8 k 0 [] t) (λk=>(a8z k).1 0 [] t) (by rw[hr];exact hne) hk,hr]
theorem ex1:toks [115,104,111,114,116,32,62,61,32,49,32,97,110,100,32,102,105,101,108,100,32,62,32,51] 0=[⟨1,[115,104,111,114,116],0⟩,⟨5,[62,61],6⟩,⟨2,[49],9⟩,⟨1,[97,110,100],11⟩,⟨1,[102,105,101,108,100],15⟩,⟨5,[62],21⟩,⟨2,[51],23⟩,⟨6,[],24⟩]/\bads [115,104,111,114,116,32,62,61,32,49,32,97,110,100,32,102,105,101,108,100,32,62,32,51] 0 (-1) 0=[]:=by decide+kernel
theorem ex2:toks [115,104,111,114,116,32,62] 0=[⟨1,[115,104,111,114,116],0⟩,⟨5,[62],6⟩,⟨6,[],7⟩]/\bads [115,104,111,114,116,32,62] 0 (-1) 0=[]:=by decide+kernel
theorem ex3:toks [102,105,101,108,100,32,61,32,50] 0=[⟨1,[102,105,101,108,100],0⟩,⟨5,[61],6⟩,⟨2,[50],8⟩,⟨6,[],9⟩]/\bads [102,105,101,108,100,32,61,32,50] 0 (-1) 0=[]:=by decide+kernel
theorem ex4:toks [111,108,100,101,114,59,32,98,105,98,59] 0=[⟨1,[111,108,100,101,114],0⟩,⟨5,[59],5⟩,⟨1,[98,105,98],7⟩,⟨5,[59],10⟩,⟨6,[],11⟩]/\bads [111,108,100,101,114,59,32,98,105,98,59] 0 (-1) 0=[]:=by decide+kernel
theorem ex5:bads [37] 0 (-1) 0=[0]:=by decide+kernel
theorem ex6:toks [] 0=[⟨6,[],0⟩]/\bads [] 0 (-1) 0=[]:=by decide+kernel
theorem cr1:H3 [115,104,111,114,116,32,62,61,32,49,32,97,110,100,32,102,105,101,108,100,32,62,32,51]=(⟨2,0,0,[leC 3 1,leC 2 4]⟩,0,0):=by
 rw[a4W ex1 20 (by decide) (r:= .ok ⟨2,0,0,[leC 3 1,leC 2 4]⟩ [⟨6,[],24⟩]) (by kernel_rfl) (by simp)];rfl
theorem cr2:H3 [115,104,111,114,116,32,62]=(cz,7,60):=by
 rw[a4W ex2 20 (by decide) (r:= .er 7 60) (by kernel_rfl) (by simp)];rfl
theorem cr3:H3 [102,105,101,108,100,32,61,32,50]=(⟨2,0,0,[leC 2 2,B1 (leC 2 3)]⟩,0,0):=by
 rw[a4W ex3 20 (by decide) (r:= .ok ⟨2,0,0,[leC 2 2,B1 (leC 2 3)]⟩ [⟨6,[],9⟩]) (by kernel_rfl) (by simp)];rfl
theorem cr7:H3 []=(cz,0,60):=by
 rw[a4W ex6 20 (by decide) (r:= .er 0 60) (by kernel_rfl) (by simp)];rfl
theorem sr4:J3 [111,108,100,101,114,59,32,98,105,98,59]=([⟨1,1,cz,[],[]⟩,⟨1,4,cz,[],[]⟩],0,0):=by
 rw[c2p ex4 20 (by decide) (r:= .ok [⟨1,1,cz,[],[]⟩,⟨1,4,cz,[],[]⟩] [⟨6,[],11⟩]) (by kernel_rfl) (by simp)];rfl
theorem sr6:J3 [37]=([],0,50):=by
 unfold J3 U8
 rw[ex5];rfl
theorem b1z (k:Int)(l:List Cond):Meets Tryz.prog 12 [iD k, .sl (l.map Cond.cells)] λd=>d=(⟨k,0,0,l⟩:Cond).d:=by
 refine enter tok {} Tryz.func12 rfl (by kernel_rfl) Tryz.ntmps12 (by simp) λB0 W0 V0 lent g0=>?_
 refine Kw ?_
 exact⟨rfl⟩
theorem a4J (v n:Int):Meets Tryz.prog 11 [iD v,iD n] λd=>d=(leC v n).d:=by
 refine enter tok {} Tryz.func11 rfl (by kernel_rfl) Tryz.ntmps11 (by simp) λB0 W0 V0 lent g0=>?_
 refine Kw ?_
 exact⟨rfl⟩
theorem b9x (c:Cond):Meets Tryz.prog 13 [c.d] λd=>d=(B1 c).d:=by
 refine enter tok {} Tryz.func13 rfl (by kernel_rfl) Tryz.ntmps13 (by simp) λB0 W0 V0 lent g0=>?_
 refine Kw ?_
 refine⟨?_⟩
 show D.agg _=D.agg _
 simp only[Cond.dc,List.map_cons,List.map_nil,Cond.cells_eq]
theorem b2S {a b:Cond}(h:a=b):Meets Tryz.prog 15 [a.d,b.d] λd=>d= .bl true:=by
 have:=(a5R a b).bl
 rw[a0a h] at this
 exact this
theorem c1d {a b:List Step}(h:a=b):Meets Tryz.prog 18 [.sl (a.map Step.cells), .sl (b.map Step.cells)] λd=>d= .bl true:=by
 have:=(a5T a b).bl
 rw[a0a h] at this
 exact this
theorem a4X {src:List UInt8}{x:Cond×Int×Int}(hl:src.length<=65536)(h:H3 src=x):Meets Tryz.prog 14 [.sl (o8 src)] λd=>d= .tup [x.1.d,iD x.2.1,iD x.2.2]:=by
 have:=b4e a4Q src hl
 rw[h] at this
 exact this
theorem b3m {src:List UInt8}{x:List Step×Int×Int}(hl:src.length<=65536)(h:J3 src=x):Meets Tryz.prog 17 [.sl (o8 src)] λd=>d= .tup [stD x.1,iD x.2.1,iD x.2.2]:=by
 have:=b4S a4Q src hl
 rw[h] at this
 exact this
abbrev a2c:Cfg:={priv:=[24,31,38,45,52,59]}
theorem c1e:Meets Tryz.prog 9 [] λr=>r=bD true:=by
 have a1:=a4X (by decide) cr1
 have a2:=a4X (by decide) cr2
 have a3:=a4X (by decide) cr3
 have a4:=b3m (by decide) sr4
 have a5:=b4f a4Q
 have a6:=b3m (by decide) sr6
 have a7:=a4X (by decide) cr7
 have b1:=a4J 3 1
 have b2:=a4J 2 4
 have b3:=b1z 2 [leC 3 1,leC 2 4]
 have b4:=b2S (a:=⟨2,0,0,[leC 3 1,leC 2 4]⟩) rfl
 have c1:=a4J 2 2
 have c2:=a4J 2 3
 have c3:=b9x (leC 2 3)
 have c4:=b1z 2 [leC 2 2,B1 (leC 2 3)]
 have c5:=b2S (a:=⟨2,0,0,[leC 2 2,B1 (leC 2 3)]⟩) rfl
 have d1:=c1d (a:=[⟨1,1,cz,[],[]⟩,⟨1,4,cz,[],[]⟩]) rfl
 refine enter tok a2c Tryz.func9 rfl (by kernel_rfl) Tryz.ntmps9 (by simp) λB0 W0 V0 lent g0=>?_
 refine Kv a2c ?_
 repeat'((first|(intro hlq;try simp only[SL] at hlq)|refine Meets.k (a1) ?_|refine Meets.k (a2) ?_|refine Meets.k (a3) ?_|refine Meets.k (a4) ?_|refine Meets.k (a5) ?_|refine Meets.k (a6) ?_|refine Meets.k (a7) ?_|refine K9 ?_|((refine Kh (λhb=>?_) λhb=>?_)<;>try simp only[BL] at hb)|refine K8 ?_)<;>refine Kv a2c ?_)
 refine j9 tok (cf:=a2c) (by kernel_rfl) [.p 0, .p 1, .p 2, .p 3, .s 4 [2,1,0], .s 5 [], .p 6, .s 7 [6], .s 8 [3], .p 9, .p 10, .p 11, .p 12, .p 13, .p 14, .p 15, .p 16, .p 17, .p 18, .p 19, .p 20, .p 21, .p 22, .p 23, .s 24 [22,21,18,20,17,14,19,16,13,10,15,12,9,11], .s 25 [], .s 26 [], .p 27, .s 28 [27], .s 29 [23], .p 30, .p 31] (by kernel_rfl) ?_
 refine Kv a2c ?_
 repeat'((first|(intro hlq;try simp only[SL] at hlq)|refine Meets.k (b1) ?_|refine Meets.k (b2) ?_|refine Meets.k (b3) ?_|refine Meets.k (b4) ?_|refine Meets.k (c1) ?_|refine Meets.k (c2) ?_|refine Meets.k (c3) ?_|refine Meets.k (c4) ?_|refine Meets.k (c5) ?_|refine Meets.k (d1) ?_|refine K9 ?_|((refine Kh (λhb=>?_) λhb=>?_)<;>try simp only[BL] at hb)|refine K8 ?_)<;>refine Kv a2c ?_)
 all_goals first
  |exact⟨rfl⟩
  |contradiction
  |trace_state
end Go.Proofs.YtaopegkpjhkooaaGreatDoor.Dx
