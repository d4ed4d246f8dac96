/- What. -/
import Derived.Test.YteillnfhkeebjaaGreatDoorWv
import Derived.Test.YteillnfhkeebjaaGreatDoorCards
import Derived.Test.YteillnfhkeebjaaGreatDoorTie
import Derived.WalkKit
import Derived.ProofKit
import Derived.OpenShut
import Derived.MakeChecks
import Derived.Deep.DeepHandedRow
import Derived.Lib.LaidTab
import Derived.Lay
import Derived.SevenTiedAt
set_option linter.all false
namespace Go.Proofs.YteillnfhkeebjaaGreatDoor.Dx
open Go Go.RowKit
set_option maxRecDepth 100000
theorem c9U:ownKnob Tryz.prog.godebug=none:=by kernel_rfl
theorem c7V:laidOutB Tryz.prog=true:=by kernel_rfl
theorem gPow : Tryz.prog.globalNamed "internal/strconv.uint64pow10" = some 0 := by kernel_rfl
theorem gPowT:(Tryz.prog.globals[0]?).map (·.type)=some 322:=by kernel_rfl
abbrev laidL:List (String×DataW Unit):=Rows.formatTiesRow.laid
theorem b9w:(laidL.all λx=>x.2.handleName?.isNone)=true:=by kernel_rfl
theorem b2Y {W:World}{n:String}{d:DataW Unit}:∀{laid:List (String×DataW Unit)} {ps:List MemPlace},DataW.LaidVars Tryz.prog W laid ps->(n,d)∈laid->
 ∃g t cs fuel p,Tryz.prog.globalNamed n=some g/\(Tryz.prog.globals[g]?).map (·.type)=some t/\W.var? Tryz.prog n=some cs/\DataW.trod (λ_=>()) Tryz.prog W 0 (λ_=>true) false fuel t cs.toList=some (d,p)
 |[],_,_,hm=>by cases hm
 | (_,_)::r,ps,h,hm=>by
   obtain⟨g,t,cs,fuel,p,q,h1,h2,h3,h4,h5,_⟩:=h;rcases p8.1 hm with e|hm
   . cases e;exact⟨g,t,cs,fuel,p,h1,h2,h3,h4⟩
   . exact b2Y h5 hm
theorem b8p {W : World} (h : laidMetH Tryz.prog laidL W) : Lib.TabIs Tryz.prog W "internal/strconv.uint64pow10" .u64 Lib.pow10Tab := by
 rw[MakeChecks.laidMetH_plain _ _ _ b9w] at h;obtain⟨ps,h,_⟩:=h
 obtain ⟨g', t', cs, fuel, p, hg', ht', hvar, hd⟩ := b2Y h (n := "internal/strconv.uint64pow10") (.tail _ (.tail _ (.head _)))
 obtain rfl:=U7 (gPow.symm.trans hg');obtain rfl:=U7 (gPowT.symm.trans ht');unfold Lib.TabIs;rw[hvar,<-Lib.cells_of_tab (k:= .u64) (zs:=Lib.pow10Tab) Tryz.underlying322 Tryz.underlying296 (by kernel_rfl) (by kernel_rfl) (by exact hd)]
theorem d4e {W:World}{t:TypeId}{ms:Array (String×TypeId)}(hu:Tryz.prog.underlying t=some (.interface ms)){fuel:Nat}{cs:List Value}{name:String}{x:DataW Unit}{p:List MemPlace}
 (h:DataW.trod (λ_=>()) Tryz.prog W 0 (λ_=>true) false fuel t cs=some (.iface name x,p)):∃u v,cs=[.iface u v]:=by
 cases fuel with
 |zero=>cases h
 | succ fuel=>
   unfold DataW.trod at h;rw[hu] at h;match cs,h with
   |[],h=>cases h
   | [v],h=>
     cases v with
     |iface u v=>exact⟨u,v,rfl⟩
     |nilIface=>cases h
     |_=>cases h
   |a::b::r,h=>cases a<;>(first|(cases h;done)|(simp at h;done))
theorem b8o {W:World}(h:laidMetH Tryz.prog laidL W){n:String}{g:Nat}{name:String}{x:DataW Unit}(hm:(n,DataW.iface name x)∈laidL)(hg:Tryz.prog.globalNamed n=some g)(ht:(Tryz.prog.globals[g]?).map (·.type)=some 153):
 ∃v,W.cell? ⟨g,0,none⟩=some v/\b1w v:=by
 rw[MakeChecks.laidMetH_plain _ _ _ b9w] at h;obtain⟨ps,h,_⟩:=h;obtain⟨g',t',cs,fuel,p,hg',ht',hvar,hd⟩:=b2Y h hm;obtain rfl:=U7 (hg.symm.trans hg');obtain rfl:=U7 (ht.symm.trans ht');obtain⟨u,v,hcs⟩:=d4e Tryz.underlying153 hd;unfold World.var? at hvar;rw[hg,Option.bind_some] at hvar;split at hvar
 case h_2=>cases hvar
 rename_i cs' e fz hh;cases hvar;refine⟨.iface u v,?_, .inr ⟨u,v,rfl⟩⟩;have:cs[0]?=some (.iface u v):=by
  rw[<-Array.getElem?_toList,hcs];rfl
 simp[World.cell?,hh,this]
theorem c6Y {W : World} (h : Lib.TabIs Tryz.prog W "internal/strconv.uint64pow10" .u64 Lib.pow10Tab) : GlobW W := by
 unfold Lib.TabIs World.var? at h;rw[gPow,Option.bind_some] at h;split at h
 case h_2=>cases h
 rename_i cs e fz hh;refine⟨e,?_⟩;unfold World.shape?;rw[hh];have:=d6 (λo:Option (Array Value)=>o.map Array.size) h;simp only[G9,H0] at this;show some (e,cs.size)=some (e,20);rw[this];rfl
theorem c6X {W : World} (hL : laidMetH Tryz.prog laidL W) (h : Lib.TabIs Tryz.prog W "internal/strconv.uint64pow10" .u64 Lib.pow10Tab) (hs : W.ShapedOpen Tryz.prog) : Glob (V0 W) := by
 refine ⟨⟨Tryz.laysM219.s1_3 W hs, b8o hL (n := "strconv.ErrSyntax") (.tail _ (.tail _ (.tail _ (.tail _ (.tail _ (.head _)))))) (by kernel_rfl) (by kernel_rfl), b8o hL (n := "strconv.ErrRange") (.tail _ (.tail _ (.tail _ (.tail _ (.head _))))) (by kernel_rfl) (by kernel_rfl)⟩, λ j z hz => ?_⟩
 have hj:j<20:=by
  rcases C5 j 20 with h|h
  . exact h
  . rw[z6 (by simpa using h)] at hz;cases hz
 have hc:=h.cell gPow j (by rw[Lib.pow10Tab_length];exact hj);have hp:Lib.pow10Tab=[1,10,100,1000,10000,100000,1000000,10000000,100000000,1000000000,10000000000,100000000000,1000000000000,10000000000000,100000000000000,1000000000000000,10000000000000000,100000000000000000,1000000000000000000,10000000000000000000]:=by decide
 rw[a7e,hp,hz] at hc;exact hc
theorem d5r {H:Type}{enc:TypeId×Value->H}{C:Checked}{os:Os}{f:FuncId}{fn:Func}{s:OpenSpec}{conds:List PathCond}{apart:Bool}{laid:List (String×DataW Unit)}(modest:Bool)(w0:World)(args:Array Value)(hos:w0.os=os)
 (hs:∀xs:Array Value,(w0.forCall (λ_ _=>0) ⟨#[],xs,[]⟩).Shaped C.prog)
 (hok:Input.okWideB C.prog (w0.forCall (λ_ _=>0) ⟨#[],args,[]⟩) f ⟨#[],args,[]⟩=true)
 (hrow:s.preRow enc C.prog fn conds apart laid (w0.forCall (λ_ _=>0) ⟨#[],args,[]⟩).memory args):
 ∃ (w:World) (tape:Tape) (i:Input),w.os=os/\(w.forCall tape i).Shaped C.prog/\i.vars=[]/\Input.okWide C.prog (w.forCall tape i) .any w.heap.size f i/\
   s.preRow enc C.prog fn conds apart laid (w.forCall tape i).memory i.args/\({modest:=modest}:Assume).holds C.prog (lone (Frame.enter C.prog f i.args .normal) [] (w.forCall tape i)):=
 ⟨w0,λ_ _=>0,⟨#[],args,[]⟩,hos,hs args,(Input.okWide_of_okWideB (base:=0) hok).1,(Input.okWide_of_okWideB hok).2,hrow,by
  simp only[Assume.holds];exact⟨by simp,by simp,λ_=>Modest.zero,by simp,by simp⟩⟩
theorem d1G {os:Os}(xs:Array Value):((World.laidAll Tryz.prog os laidL).forCall (λ_ _=>0) ⟨#[],xs,[]⟩).Shaped Tryz.prog:=World.shaped_of_ZipB (by kernel_rfl) (by kernel_rfl)
theorem c7Z {os:Os}:(World.holding Tryz.prog os ⟨#[], #[],[]⟩).layFits Tryz.prog laidL []=true:=by kernel_rfl
theorem c8a {os:Os}:(World.holding Tryz.prog os ⟨#[], #[],[]⟩).layIfaces Tryz.prog laidL (World.laidAll Tryz.prog os laidL)=true:=by kernel_rfl
end Go.Proofs.YteillnfhkeebjaaGreatDoor.Dx
