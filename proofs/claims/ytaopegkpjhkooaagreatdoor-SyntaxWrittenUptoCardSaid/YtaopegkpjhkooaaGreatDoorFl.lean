/- The executor over data,part Z: loops over functions. -/
import Derived.Test.YtaopegkpjhkooaaGreatDoorFi
import Derived.Test.YtaopegkpjhkooaaGreatDoorFg
import Derived.Test.YtaopegkpjhkooaaGreatDoorFj
set_option linter.all false
namespace Go.Proofs.YtaopegkpjhkooaaGreatDoor.Dx
open Go Go.RowKit
section
variable {P:Program} {T:List (Nat×TI)} {C:Cx} {γ:Gm} {st:SSt} {V:Know} {a:Act} {W:World}
end
end Go.Proofs.YtaopegkpjhkooaaGreatDoor.Dx
/- Small laws for walks over data. -/
namespace Go.Proofs.YtaopegkpjhkooaaGreatDoor.Dx
open Go Go.RowKit
theorem a7n {α:Type}{xs:List α}(f:α->List D){i:Nat}(h:i<xs.length){ds:List D}(hd:f xs[i]=ds):(xs.map f)[((i:Nat):Int).toNat]?=some ds:=by
 rw[Int.toNat_natCast,List.getElem?_map,List.getElem?_eq_getElem h,Option.map_some,hd]
theorem c2w {s:List UInt8}{i:Nat}(h:i<s.length):s[((i:Nat):Int).toNat]?=some s[i]:=by
 rw[Int.toNat_natCast,List.getElem?_eq_getElem h]
theorem BB:(∀(p:Prop) [Decidable p],(decide p=true)=p)/\(∀(p:Prop) [Decidable p],(decide p=false)=¬p)/\(∀b:Bool,((!b)=true)=(b=false))/\(∀b:Bool,((!b)=false)=(b=true))/\
 (∀b:Bool,(¬(b=true))=(b=false))/\(∀b:Bool,(¬(b=false))=(b=true))/\(∀a b:Bool,((a||b)=true)=(a=true\/b=true))/\(∀a b:Bool,((a&&b)=true)=(a=true/\b=true))/\
 (∀a b:Bool,((a||b)=false)=(a=false/\b=false))/\(∀a b:Bool,((a&&b)=false)=(a=true->b=false)):=
 ⟨λp _=>by simp,λp _=>by simp,by decide,by decide,by decide,by decide,by decide,by decide,by decide,by decide⟩
theorem i64 {n:Int}(h0: -9223372036854775808<=n)(h1:n<=9223372036854775807):p0 .i64 n:=⟨h0,h1⟩
theorem Ka {H1 H2 C E:Prop}(e:E)(h:H1->H2->C:=by(intro h1 h2;have:=h1.1;have:=h1.2;have:=h2.1;have:=h2.2;refine⟨?_,?_⟩<;>((try dsimp only at *);first|omega|(simp only[List.length_map] at *;omega)))):(H1->H2->C)/\E:=⟨h,e⟩
theorem Kb {a b c d:Int}{E:Prop}(e:E)(h1:a<=b:=by((try dsimp only at *);omega))(h2:c<d:=by((try dsimp only at *);omega)):(a<=b/\c<d)/\E:=⟨⟨h1,h2⟩,e⟩
theorem Kc {α:Type}{xs:List α}{f:α->List D}{i n:Nat}{ds:List D}{E:List D->Prop}(h:i<xs.length:=by((try dsimp only at *);(try simp only[List.length_map] at *);omega))(hd:f (xs[i]'h)=ds)(e:E ds)
 (hl:ds.length=n:=by rfl):∃ds,(0<=(i:Int)/\(xs.map f)[((i:Nat):Int).toNat]?=some ds/\ds.length=n)/\E ds:=
 ⟨ds,⟨Int.natCast_nonneg _,a7n f h hd,hl⟩,e⟩
theorem Kd {s:List UInt8}{i:Nat}{E:UInt8->Prop}(h:i<s.length:=by((try dsimp only at *);(try simp only[List.length_map] at *);omega))(e:E (s[i]'h)):∃c,(0<=(i:Int)/\s[((i:Nat):Int).toNat]?=some c)/\E c:=
 ⟨s[i],⟨Int.natCast_nonneg _,c2w h⟩,e⟩
theorem Z {C:Cx}{st:SSt}{c:Code}{Q:y8}(h:a5L c=true)(k:vcC Tryz.prog T C {} c Q st):J Tryz.prog C c Q st:=a8Q tok {} h k
theorem Kl {n m:Nat}{O O':List (Nat×Blk)}{E:Prop}(h:c8 n O=c8 m O')(e:E):c8 n O=c8 m O'/\E:=⟨h,e⟩
theorem Kh {c d:Bool}{E F:Prop}(h:c=true->E)(k:d=false->F):(c=true->E)/\(d=false->F):=⟨h,k⟩
theorem Kr {E:Prop}(h:E:=by repeat'(first|exact True.intro|exact rfl|refine And.intro ?_ ?_)):E:=h
theorem SL:(∀(α β:Type) (f:α->β) (l:List α),(l.map f).length=l.length)/\maxLen=2^63-1:=⟨λ_ _ _ _=>List.length_map ..,rfl⟩
theorem BL:((∀(p:Prop) [Decidable p],(decide p=true)=p)/\(∀(p:Prop) [Decidable p],(decide p=false)=¬p)/\(∀b:Bool,((!b)=true)=(b=false))/\(∀b:Bool,((!b)=false)=(b=true))/\
 (∀b:Bool,(¬(b=true))=(b=false))/\(∀b:Bool,(¬(b=false))=(b=true))/\(∀a b:Bool,((a||b)=true)=(a=true\/b=true))/\(∀a b:Bool,((a&&b)=true)=(a=true/\b=true))/\
 (∀a b:Bool,((a||b)=false)=(a=false/\b=false))/\(∀a b:Bool,((a&&b)=false)=(a=true->b=false)))/\∀(α β:Type) (f:α->β) (l:List α),(l.map f).length=l.length:=⟨BB,λ_ _ _ _=>List.length_map ..⟩
theorem Y {C:Cx}{st:SSt}{c:Code}{Q:y8}(cf:Cfg)(h:a5L c=true)(k:vcC Tryz.prog T C cf c Q st):J Tryz.prog C c Q st:=a8Q tok cf h k
def CfI (_:Cfg):Prop:=True
theorem Yh {C:Cx}{st:SSt}{c:Code}{Q:y8}{cf:Cfg}(_:CfI cf)(h:a5L c=true)(k:vcC Tryz.prog T C cf c Q st):J Tryz.prog C c Q st:=a8Q tok cf h k
theorem Kw {P Q:Prop}(q:Q)(h:Q->P:=by(intro hq;(conv=>whnf);(repeat'(refine Z rfl ?_;conv=>whnf));exact hq)):P:=h q
theorem Kv (c:Cfg){P Q:Prop}(q:Q)(h:CfI c->Q->P:=by(intro hc hq;(conv=>whnf);(repeat'(refine Yh hc rfl ?_;conv=>whnf));exact hq)):P:=h True.intro q
theorem K8a {H1 H2 C E:Prop}(h:H1->H2->C:=by(intro h1 h2;have:=h1.1;have:=h1.2;have:=h2.1;have:=h2.2;refine⟨?_,?_⟩<;>((try dsimp only at *);first|omega|(simp only[List.length_map] at *;omega)))):E->(H1->H2->C)/\E:=λe=>⟨h,e⟩
theorem K8b {a b c d:Int}{E:Prop}(h1:a<=b:=by((try dsimp only at *);omega))(h2:c<d:=by((try dsimp only at *);omega)):E->(a<=b/\c<d)/\E:=λe=>⟨⟨h1,h2⟩,e⟩
theorem K8c {α:Type}{xs:List α}{f:α->List D}{i n:Nat}{ds:List D}{E:List D->Prop}(h:i<xs.length:=by((try dsimp only at *);(try simp only[List.length_map] at *);omega))(hd:f (xs[i]'h)=ds:=by rfl)
 (hl:ds.length=n:=by rfl):E ds->∃ds,(0<=(i:Int)/\(xs.map f)[((i:Nat):Int).toNat]?=some ds/\ds.length=n)/\E ds:=λe=>Kc (hd:=hd) (e:=e) (hl:=hl)
theorem K8d {s:List UInt8}{i:Nat}{E:UInt8->Prop}(h:i<s.length:=by((try dsimp only at *);(try simp only[List.length_map] at *);omega)):E (s[i]'h)->∃c,(0<=(i:Int)/\s[((i:Nat):Int).toNat]?=some c)/\E c:=λe=>Kd (e:=e)
theorem K8l {n m:Nat}{O O':List (Nat×Blk)}{E:Prop}(h:c8 n O=c8 m O':=by rfl):E->c8 n O=c8 m O'/\E:=λe=>⟨h,e⟩
theorem K8 {P Q:Prop}(q:Q)(h:Q->P:=by(first|exact K8a|exact K8b|exact K8c (hd:=rfl)|exact K8c (hd:=icells_eq _)|exact K8d|exact K8l)):P:=h q
theorem K9 {P Q:Prop}(q:Q)(h:Q->P:=by(first|exact K9s|exact K9q|exact K9t)):P:=h q
end Go.Proofs.YtaopegkpjhkooaaGreatDoor.Dx
/- The data of chapter 07. -/
namespace Go.Proofs.YtaopegkpjhkooaaGreatDoor.Dx
open Go Go.RowKit
abbrev iD (n:Int):D:= .v (.int .i64 n)
abbrev bD (b:Bool):D:= .v (.bool b)
abbrev iB (n:Int):Base:= .d (iD n)
abbrev b7M (n:Int):List D:=[iD n]
theorem icells_eq (n:Int):b7M n=[iD n]:=rfl
structure Cond where
 kind:Int
 var:Int
 n:Int
 parts:List Cond
mutual
def Cond.cells:Cond->List D
 |⟨k,v,n,ps⟩=>[iD k,iD v,iD n, .sl (Cond.cellsL ps)]
def Cond.cellsL:List Cond->List (List D)
 |[]=>[]
 |c::cs=>c.cells::Cond.cellsL cs
end
theorem Cond.cellsL_eq:∀ps:List Cond,Cond.cellsL ps=ps.map Cond.cells:=by
 intro ps
 induction ps with
 |nil=>rfl
 |cons c ps ih=>simp[Cond.cellsL,ih]
abbrev Cond.dc (c:Cond):List D:=[iD c.kind,iD c.var,iD c.n, .sl (c.parts.map Cond.cells)]
abbrev Cond.d (c:Cond):D:= .agg c.dc
theorem Cond.cells_eq (c:Cond):c.cells=c.dc:=by
 obtain⟨k,v,n,ps⟩:=c
 simp only[Cond.cells,Cond.cellsL_eq]
theorem Cond.size_part {c x:Cond}(hx:x∈c.parts):SizeOf.sizeOf x<SizeOf.sizeOf c:=by
 obtain⟨k,v,n,ps⟩:=c
 have:=List.sizeOf_lt_of_mem hx
 simp only[Cond.mk.sizeOf_spec]
 simp only at this
 omega
structure Step where
 kind:Int
 crit:Int
 cond:Cond
 th:List Step
 el:List Step
mutual
def Step.cells:Step->List D
 |⟨k,b,c,t,e⟩=>[iD k,iD b,iD c.kind,iD c.var,iD c.n, .sl (c.parts.map Cond.cells), .sl (Step.cellsL t), .sl (Step.cellsL e)]
def Step.cellsL:List Step->List (List D)
 |[]=>[]
 |c::cs=>c.cells::Step.cellsL cs
end
theorem Step.cellsL_eq:∀ps:List Step,Step.cellsL ps=ps.map Step.cells:=by
 intro ps
 induction ps with
 |nil=>rfl
 |cons c ps ih=>simp[Step.cellsL,ih]
abbrev Step.dc (s:Step):List D:=[iD s.kind,iD s.crit,iD s.cond.kind,iD s.cond.var,iD s.cond.n, .sl (s.cond.parts.map Cond.cells), .sl (s.th.map Step.cells), .sl (s.el.map Step.cells)]
abbrev Step.d (s:Step):D:= .agg s.dc
theorem Step.cells_eq (s:Step):s.cells=s.dc:=by
 obtain⟨k,b,c,t,e⟩:=s
 simp only[Step.cells,Step.cellsL_eq]
structure Part where
 mat:Int
 laps:Int
 parts:List Part
mutual
def Part.cells:Part->List D
 |⟨m,l,ps⟩=>[iD m,iD l, .sl (Part.cellsL ps)]
def Part.cellsL:List Part->List (List D)
 |[]=>[]
 |c::cs=>c.cells::Part.cellsL cs
end
theorem Part.cellsL_eq:∀ps:List Part,Part.cellsL ps=ps.map Part.cells:=by
 intro ps
 induction ps with
 |nil=>rfl
 |cons c ps ih=>simp[Part.cellsL,ih]
abbrev Part.dc (c:Part):List D:=[iD c.mat,iD c.laps, .sl (c.parts.map Part.cells)]
abbrev Part.d (c:Part):D:= .agg c.dc
theorem Part.cells_eq (c:Part):c.cells=c.dc:=by
 obtain⟨m,l,ps⟩:=c
 simp only[Part.cells,Part.cellsL_eq]
theorem Part.size_part {c x:Part}(hx:x∈c.parts):SizeOf.sizeOf x<SizeOf.sizeOf c:=by
 obtain⟨m,l,ps⟩:=c
 have:=List.sizeOf_lt_of_mem hx
 simp only[Part.mk.sizeOf_spec]
 simp only at this
 omega
structure Mat where
 name:List UInt8
 kind:Int
abbrev Mat.cells (m:Mat):List D:=[.str m.name,iD m.kind]
abbrev Mat.d (m:Mat):D:= .agg m.cells
theorem Mat.cells_eq (m:Mat):m.cells=[.str m.name,iD m.kind]:=rfl
structure Leg where
 src:Int
 dst:Int
 lo:Int
 hi:Int
abbrev Leg.cells (m:Leg):List D:=[iD m.src,iD m.dst,iD m.lo,iD m.hi]
abbrev Leg.d (m:Leg):D:= .agg m.cells
theorem Leg.cells_eq (m:Leg):m.cells=[iD m.src,iD m.dst,iD m.lo,iD m.hi]:=rfl
structure Cutoff where
 mat:Int
 lap:Int
 limit:Int
abbrev Cutoff.cells (m:Cutoff):List D:=[iD m.mat,iD m.lap,iD m.limit]
abbrev Cutoff.d (m:Cutoff):D:= .agg m.cells
theorem Cutoff.cells_eq (m:Cutoff):m.cells=[iD m.mat,iD m.lap,iD m.limit]:=rfl
structure Distance where
 name:List UInt8
 route:List Part
 timing:Int
 cutoffs:List Cutoff
 extra:Int
abbrev Distance.cells (m:Distance):List D:=[.str m.name, .sl (m.route.map Part.cells),iD m.timing, .sl (m.cutoffs.map Cutoff.cells),iD m.extra]
abbrev Distance.d (m:Distance):D:= .agg m.cells
theorem Distance.cells_eq (m:Distance):m.cells=[.str m.name, .sl (m.route.map Part.cells),iD m.timing, .sl (m.cutoffs.map Cutoff.cells),iD m.extra]:=rfl
structure Wave where
 name:List UInt8
 gun:Int
abbrev Wave.cells (m:Wave):List D:=[.str m.name,iD m.gun]
abbrev Wave.d (m:Wave):D:= .agg m.cells
theorem Wave.cells_eq (m:Wave):m.cells=[.str m.name,iD m.gun]:=rfl
structure Offence where
 name:List UInt8
 time:Int
 laps:Int
 out:Bool
abbrev Offence.cells (m:Offence):List D:=[.str m.name,iD m.time,iD m.laps,bD m.out]
abbrev Offence.d (m:Offence):D:= .agg m.cells
theorem Offence.cells_eq (m:Offence):m.cells=[.str m.name,iD m.time,iD m.laps,bD m.out]:=rfl
structure Category where
 name:List UInt8
 lo:Int
 hi:Int
abbrev Category.cells (m:Category):List D:=[.str m.name,iD m.lo,iD m.hi]
abbrev Category.d (m:Category):D:= .agg m.cells
theorem Category.cells_eq (m:Category):m.cells=[.str m.name,iD m.lo,iD m.hi]:=rfl
structure Prize where
 distance:Int
 category:Int
 rank:Int
 amount:Int
abbrev Prize.cells (m:Prize):List D:=[iD m.distance,iD m.category,iD m.rank,iD m.amount]
abbrev Prize.d (m:Prize):D:= .agg m.cells
theorem Prize.cells_eq (m:Prize):m.cells=[iD m.distance,iD m.category,iD m.rank,iD m.amount]:=rfl
structure Faults where
 misses:Int
 strays:Int
 window:Int
 residual:Int
 drift:Int
structure Course where
 name:List UInt8
 mats:List Mat
 legs:List Leg
 distances:List Distance
 waves:List Wave
 offences:List Offence
 categories:List Category
 prizes:List Prize
 ties:List Step
 faults:Faults
 fee:Int
 deadline:Int
abbrev Course.cells (c:Course):List D:=[.str c.name, .sl (c.mats.map Mat.cells), .sl (c.legs.map Leg.cells), .sl (c.distances.map Distance.cells), .sl (c.waves.map Wave.cells), .sl (c.offences.map Offence.cells), .sl (c.categories.map Category.cells), .sl (c.prizes.map Prize.cells), .sl (c.ties.map Step.cells),
 iD c.faults.misses,iD c.faults.strays,iD c.faults.window,iD c.faults.residual,iD c.faults.drift,iD c.fee,iD c.deadline]
abbrev Course.d (c:Course):D:= .agg c.cells
structure Env where
 distance:Int
 field:Int
 short:Int
abbrev Env.d (x:Env):D:= .agg [iD x.distance,iD x.field,iD x.short]
inductive Form where
 |ofC (c:Cond)
 |ofS (s:Step)
theorem a2P {α:Type}{p:α->Prop}{xs:List α}{i:Nat}(hi:i<xs.length)(h:∀x∈xs.take i,p x)(hx:p xs[i]):∀x∈xs.take (i+1),p x:=by
 intro x hm
 rw[List.take_succ_eq_append_getElem hi,List.mem_append,List.mem_singleton] at hm
 rcases hm with hm|rfl
 . exact h x hm
 . exact hx
end Go.Proofs.YtaopegkpjhkooaaGreatDoor.Dx
