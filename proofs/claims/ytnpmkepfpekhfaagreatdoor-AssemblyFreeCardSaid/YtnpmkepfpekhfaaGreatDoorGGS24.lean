/- texts: C2 V4 S1a. -/
import Derived.Test.YtnpmkepfpekhfaaGreatDoorGGS23
namespace Go.Proofs.YtnpmkepfpekhfaaGreatDoor
set_option maxHeartbeats 8000000
set_option linter.all false
section
open Go.RowKit Go.Shelf
attribute [local go_sem] Ext.cell Ext.frozen
def MW (v:Value):Prop:=∀m c,v= .slice none m c→m=0∧c=0
theorem vp (b o j:Nat):(⟨b,o,none⟩:Addr).add j=⟨b,o+j,none⟩:=by
 unfold Addr.add
 split
 ·rename_i h;subst h;rfl
 ·rfl
theorem jy {w:World} {base:Nat} {T:TypeId} {v:Value} {xs:List Int} (h:w.ownsRow base T 1 v xs.length (xs.map (Value.int .i64))):Ints w v xs:=by
 rcases h.2 with⟨rfl,h0⟩|⟨g,cap,cur,rfl,hb,hh,hc,hm,hcs,ht⟩
 ·exact⟨none,0,0,rfl,h0,qaA _,fun h=>absurd h (by omega)⟩
 ·refine⟨some ⟨g,0,none⟩,xs.length,cap,rfl,rfl,hc,fun _=>⟨g,0,rfl,fun i hi=> ?_⟩⟩
  rw[Nat.zero_add,ag hh]
  have h2:(cur.toList.take (xs.length*1))[i]? =some (Value.int .i64 xs[i]):=by rw[ht];simp[hi]
  rw[List.getElem?_take_of_lt (by omega)]at h2
  simpa using h2
end
section
open Go.RowKit
set_option linter.unusedSectionVars false
def aP (l w t:Int):List Q4:=[axP 0 (-1) (-0),axP 0 1 l,axP 1 (-1) (-0),axP 1 1 w,axP 2 (-1) (-0),axP 2 1 t]
structure Cell (l w t:Int) (c e:List Q4):Prop where
 len:c.length≤10
 ok:∀p∈c,cI p
 sub:∀p∈c,p∈e∨p∈aP l w t
 sup:∀p∈e,p∈c∨p∈aP l w t
 pt:∃(x:Q3) (W:Int),0<W∧(∀p∈c,0<slk p x W)∧(0<x.1∧x.1<l*W)∧(0<x.2.1∧x.2.1<w*W)∧(0<x.2.2∧x.2.2<t*W)
def Cells (l w t:Int):List (List Q4)→List (List Q4)→Prop
 | [],[]=>True
 |c::cs,e::es=>Cell l w t c e∧Cells l w t cs es
 |_,_=>False
theorem Cells.append {l w t:Int}:∀{cs es cs' es':List (List Q4)},Cells l w t cs es→Cells l w t cs' es'→Cells l w t (cs++cs') (es++es')
 | [],[],_,_,_,h=>h
 |_::_,_::_,_,_,h,h'=>⟨h.1,Cells.append h.2 h'⟩
 | [],_::_,_,_,h,_=>h.elim
 |_::_,[],_,_,h,_=>h.elim
theorem Cells.map {l w t:Int} {α:Type} (f g:α→List Q4):∀(xs:List α),(∀x∈xs,Cell l w t (f x) (g x))→Cells l w t (xs.map f) (xs.map g)
 | [],_=>trivial
 |x::xs,h=>⟨h x (by simp),Cells.map f g xs (fun y hy=>h y (by simp[hy]))⟩
section
variable {l w t:Int} (hl:1≤l∧l≤100000) (hw:1≤w∧w≤100000) (ht:1≤t∧t≤100000)
include hl hw ht
end
end
section
open Go.RowKit Go.Shelf
def OkV (w:World) (v:Value):Prop:=MW v∧∀b off m c,v= .slice (some ⟨b,off,none⟩) m c→∃cs,w.heap[b]? =some (.cells cs 3 (0,0))
theorem OkV.below {w w':World} {v:Value} (h:OkV w v) (hb:Below w.heap.size w w'):OkV w' v:=
 ⟨h.1,fun b off m c e=>by obtain⟨cs,hh⟩:=h.2 b off m c e;exact⟨cs,(hb.block _ (ah hh)).trans hh⟩⟩
end
end Go.Proofs.YtnpmkepfpekhfaaGreatDoor
