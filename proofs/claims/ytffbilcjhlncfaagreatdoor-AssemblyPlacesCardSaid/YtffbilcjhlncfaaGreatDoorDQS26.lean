/- texts: FA. -/
import Derived.Test.YtffbilcjhlncfaaGreatDoorDQS25
import Derived.RangeFuncNested
import Derived.RangeFuncBound
import Derived.RangeFuncCalls
import Derived.RangeFuncLeaves
import Derived.Shelf.Abstract
import Derived.Shelf.RegionOpen
import Derived.OwnWalkIn
import Derived.TacticsInMore
import Derived.LoopNIn
import Derived.LoopIn
import Derived.RangeFuncBox
import Derived.RangeFuncFrom
import Derived.RangeFuncWrites
import Derived.Maps.AppendAt
namespace Go.Proofs.YtffbilcjhlncfaaGreatDoor
set_option maxHeartbeats 8000000
set_option linter.all false
section
open Go.RowKit Go.Shelf
section
attribute [local go_sem] Ext.cell Ext.frozen
def TZ (v:Q3):List Value:=[.int .i64 v.1, .int .i64 v.2.1, .int .i64 v.2.2]
theorem JC (v:Q3):(TZ v).length=3:=rfl
def Q3At (w:World) (b off:Nat) (xs:List Q3):Prop:=∀i (h:i<xs.length),
 w.cell? ⟨b,off+i*3,none⟩=some (.int .i64 xs[i].1)∧w.cell? ⟨b,off+i*3+1,none⟩=some (.int .i64 xs[i].2.1)∧w.cell? ⟨b,off+i*3+2,none⟩=some (.int .i64 xs[i].2.2)
theorem Q3At.below {w w':World} {b off:Nat} {xs:List Q3} (h:Q3At w b off xs) (hb:Below w.heap.size w w'):Q3At w' b off xs:=fun i hi=>⟨ab hb (h i hi).1,ab hb (h i hi).2.1,ab hb (h i hi).2.2⟩
def Q3s (w:World) (v:Value) (xs:List Q3):Prop:=
 ∃a n c,v= .slice a n c∧xs.length=n∧n≤c∧(0<n→∃b off,a=some ⟨b,off,none⟩∧Q3At w b off xs)
theorem Q3s.below {w w':World} {v:Value} {xs:List Q3} (h:Q3s w v xs) (hb:Below w.heap.size w w'):Q3s w' v xs:=by
 obtain⟨a,n,c,hv,hn,hc,hx⟩:=h
 exact⟨a,n,c,hv,hn,hc,fun h0=>by obtain⟨b,off,ha,hi⟩:=hx h0;exact⟨b,off,ha,hi.below hb⟩⟩
theorem qcv {w:World} {base:Nat} {T:TypeId} {v:Value} {cs:List Q3} (h:w.ownsRow base T 3 v cs.length (cs.flatMap TZ)):Q3s w v cs:=by
 rcases h.2 with⟨rfl,h0⟩|⟨g,cap,cur,rfl,hb,hh,hc,hm,hcs,ht⟩
 ·exact⟨none,0,0,rfl,h0,qaA _,fun h=>absurd h (by omega)⟩
 ·refine⟨some ⟨g,0,none⟩,cs.length,cap,rfl,rfl,hc,fun _=>⟨g,0,rfl,fun i hi=> ?_⟩⟩
  have key:∀j,j<3→w.cell? ⟨g,i*3+j,none⟩=(TZ cs[i])[j]? :=fun j hj=>by
   rw[bq hh, ←eQ TZ 3 JC cs i hi j hj, ←ht,qdx (by omega),Array.getElem?_toList]
  simp only[qfW]
  exact⟨key 0 (by omega),key 1 (by omega),key 2 (by omega)⟩
def vW (v:Q3):Value:= .agg #[.int .i64 v.1, .int .i64 v.2.1, .int .i64 v.2.2]
end
section
attribute [local go_sem] Oper.semAt_some
theorem GP {β:Type} {B:Nat} {J:β→World→Prop} (h:AbidesFrom B J) {s:β} {W:World} (hs:J s W) (o:Obj):J s (W.alloc o):=
 h s W _ none hs (World.grownBy_alloc W o none) (fun r e=>by cases e)
theorem Ck {β:Type} (B:Nat) (cs:β→Array Value) (T:TypeId):Own (fun s W=>W.heap[B]? =some (.cells (cs s) T (0,0))):=fun s X Y row hs hg hrow=>
 (hg.block B (ah hs) (fun e=>by obtain⟨o,ho,hc⟩:=hrow B e.symm;rw[hs]at ho;cases ho;cases hc)).trans hs
theorem EV {B:Nat} {X Y:World} (h:Below X.heap.size X Y):KeepsFrom B X Y:=⟨h.size,fun k _ _ hk _=>(h.block k (ah hk)).trans hk⟩
end
end
end Go.Proofs.YtffbilcjhlncfaaGreatDoor
