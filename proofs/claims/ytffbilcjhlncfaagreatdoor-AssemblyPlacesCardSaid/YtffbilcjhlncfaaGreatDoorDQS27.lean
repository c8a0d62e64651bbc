/- texts: M9. -/
import Derived.Test.YtffbilcjhlncfaaGreatDoorDQS26
import Derived.Maps.OwnSet
import Derived.WideKeyEntry
import Derived.DeepKeys4
namespace Go.Proofs.YtffbilcjhlncfaaGreatDoor
set_option maxHeartbeats 8000000
set_option linter.all false
section
open Go.RowKit Go.Shelf Go.Maps Go.ChangeMaps
set_option maxRecDepth 100000
def RV:Value→Option (DataW Value×List MemPlace):=fun v=>some (.held v,[])
def OwM (w:World) (b n:Nat) (D:DataW Value):Prop:=w.ownsMap Tryz.prog 58 RV b n D
theorem MF:laidOutB Tryz.prog=true:=by kernel_rfl
theorem La:decide (58<Tryz.prog.types.size)=true:=by kernel_rfl
theorem Lb:Tryz.prog.keyTypeAt 3 58=true:=by kernel_rfl
theorem JD:(match Tryz.prog.underlying 58 with|some (.array _ _)|some (.struct _)=>true|_=>false)=true:=by kernel_rfl
theorem Dn:WideMaps.KeyLaw Tryz.prog 58:=deep_law_laid MF (m:=3) (by decide) (of_decide_eq_true La) Lb JD
theorem way_keyed:Keyed Tryz.prog 58:=Keyed.of_law Dn
noncomputable def Oi (v:Q3):Lit:=(keyOf Tryz.prog 58 (vW v)).getD (.bool true)
theorem Ip:(ways26.all fun v=>(keyOf Tryz.prog 58 (vW v)).isSome)=true:=by kernel_rfl
theorem wC {v:Q3} (h:v∈ways26):keyOf Tryz.prog 58 (vW v)=some (Oi v):=by
 have h1:=alsi.1 Ip v h
 unfold Oi
 cases hk:keyOf Tryz.prog 58 (vW v)with
 |none=>rw[hk]at h1;cases h1
 |some x=>rfl
theorem Cl:Tryz.prog.underlying 165=some (.map 58 93):=by kernel_rfl
theorem Ca (u:World):(zeroValue 93).run Tryz.prog u= .ok (.slice none 0 0) u:=by kernel_rfl
theorem Do (w:World) (b:Nat) (x y:Obj):setBlock (setBlock w b x) b y=setBlock w b y:=by
 unfold setBlock
 simp
theorem Ua {w:World} {b:Nat} (x:Obj) (hlt:b<w.heap.size):w.grownBy (setBlock w b x) (some b):=
 ⟨rfl,rfl,rfl,by simp[setBlock],fun k _ hk=>by
  have:k≠b:=fun e=>hk (by rw[e])
  simp[setBlock,Array.getElem?_setIfInBounds,this.symm]⟩
theorem GF {w:World} {b n:Nat} {D:DataW Value} (h:OwM w b n D) (hn:n<maxLen) {v:Q3} (hv:v∈ways26) (val:Value):
  ∃v0 st w1 w2,(Instr.mapEntry 165 (.map (some b)) (vW v)).run Tryz.prog w= .ok (.tuple #[v0,goInt st]) w1∧
   (Instr.entryStore 165 (.map (some b)) (goInt st) val).run Tryz.prog w1= .ok () w2∧OwM w2 b (n+1) (D.put (Oi v) (.held val))∧w.grownBy w1 (some b)∧w.grownBy w2 (some b):=by
 obtain⟨w3,hrun,hown,_⟩:=World.ownsMap.store h way_keyed Cl hn (wC hv) (rfl:RV val=some (.held val,[]))
 obtain⟨es,clock,hb,F,hs,rfl⟩:=h
 have hlt:b<w.heap.size:=(alsl.1 hb).1
 obtain⟨v0,st,es1,clock1,h1,_,h3⟩:=WideElems.entry_then_store Dn Cl Ca hb F (wC hv)
 obtain⟨es2,clock2,h4,h5⟩:=h3 (setBlock w b (.map es1 clock1)) val (heap_setBlock_same hb _)
 rw[h5]at hrun
 rw[Do]at h4
 cases hrun
 exact⟨v0,st,_,_,h1,h4,hown,Ua _ hlt,Ua _ hlt⟩
end
end Go.Proofs.YtffbilcjhlncfaaGreatDoor
