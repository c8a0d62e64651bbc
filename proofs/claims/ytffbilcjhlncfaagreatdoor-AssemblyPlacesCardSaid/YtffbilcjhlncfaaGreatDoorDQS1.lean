/- texts: Base. -/
import Derived.WalkKit
import Derived.WalkSpells
import Derived.WalkLawsBesides
import Derived.Deep.QuietTactic
import Derived.BigQuiet
import Derived.Lib.Hide
namespace Go.Proofs.YtffbilcjhlncfaaGreatDoor
set_option maxHeartbeats 8000000
set_option linter.all false
section
open Go.RowKit
structure Ext (w:World) where
 val:World
 below:Below w.heap.size w val
theorem Ext.cell {w:World} (u:Ext w) {a:Addr} (h:a.block<w.heap.size):u.val.cell? a=w.cell? a:=u.below.cell h
theorem Ext.frozen {w:World} (u:Ext w) {a:Addr} (h:a.block<w.heap.size):u.val.frozen? a=w.frozen? a:=u.below.frozen h
theorem Ext.size {w:World} (u:Ext w):w.heap.size≤u.val.heap.size:=u.below.size
def Ext.drew {w:World}:Ext w:=⟨w.drew,(Below.refl _ _).drew⟩
instance (w:World):Nonempty (Ext w):=⟨Ext.drew⟩
theorem YJ {p:Prop} (h:p):Go.RowKit.Hid p:=h
def qaC:= @World.block_lt_of_cell?
def qaB:= @List.getElem_mem
def qaA:= @Nat.le_refl
def qaG:= @Nat.lt_of_lt_of_le
def qaD:= @Nat.le_trans
def qaI:= @List.take_succ_eq_append_getElem
def qaJ:= @List.getElem_of_mem
def qaE:= @List.length_append
def alsi:= @List.all_eq_true
def qaF:= @Bool.and_eq_true
def alsk:= @List.mem_cons
def alsl:= @Array.getElem?_eq_some_iff
def alsm:= @List.mem_filter
def qaK:= @List.take_of_length_le
def qaH:= @Below.heap_setCell
def qdp:= @List.getElem?_toArray
def qdq:= @List.getElem?_cons_zero
def qdr:= @List.getElem?_cons_succ
def qdv:= @List.take_succ_cons
def qdu:= @List.take_zero
def qdw:= @List.drop_succ_cons
def qdy:= @List.drop_zero
def qdo:= @List.length_map
def qdn:= @List.length_cons
def qdt:= @List.getElem_cons_zero
def qdx:= @List.getElem?_take_of_lt
def altl:= @List.mem_append
def qds:= @World.ownsRow_nil
def qdC:= @Array.getElem_setIfInBounds
def alto:= @List.length_eq_zero_iff
def qdz:= @List.length_filter_le
def qdA:= @List.length_range
def qdB:= @List.getElem_map
def qdD:= @List.getElem_range
def altt:= @List.mem_map
def qfV:= @decide_eq_true_eq
def qfZ:= @decide_eq_false
def qfX:= @decide_eq_true
def qgb:= @Option.some.inj
def qgc:= @Int.mul_nonneg
def qfW:= @Nat.zero_add
def ultg:= @List.mem_singleton
def qga:= @Below.setCell
def qgd:= @List.append_nil
def ultj:= @List.any_eq_true
def qfY:= @Int.mul_pos
def qgl:= @Int.mul_le_mul_of_nonneg_right
def qge:= @List.length_take
def qgk:= @Classical.byContradiction
def qgf:= @Bool.or_eq_true
def ultp:= @List.any_eq_false
def qgg:= @List.filter_cons
def qgi:= @List.take_length
def qgh:= @List.map_append
def qgj:= @List.flatMap_append
def qgn:= @List.getElem_append_left
def ultv:= @List.mem_range
def qgp:= @Nat.eq_of_testBit_eq
def qgo:= @List.filter_append
def qgm:= @List.flatMap_cons
def qgq:= @Nat.testBit_and
theorem fB {w w1 w2:World} (h:Below w.heap.size w w1) (k:Below w1.heap.size w1 w2):Below w.heap.size w w2:=h.trans (k.mono h.size)
theorem ab {w w1:World} (h:Below w.heap.size w w1) {a:Addr} {v:Value} (hc:w.cell? a=some v):w1.cell? a=some v:=
 (h.cell (World.block_lt_of_cell? w a hc)).trans hc
theorem brf {B:Nat} {w:World}:Below B w w:=Below.refl _ _
theorem bld {B:Nat} {w w1:World} (h:Below B w w1):Below B w w1.drew:=h.drew
theorem ble {w w1:World} {u:Ext w1} (h:Below w.heap.size w w1):Below w.heap.size w u.val:=fB h u.below
theorem blx {B:Nat} {w w1:World} {u:Ext w1} (h:Below B w w1) (hs:B≤w1.heap.size:=by first|omega|(simp;omega)):Below B w u.val:=h.trans (u.below.mono hs)
theorem bla {B:Nat} {w w1:World} {o:Obj} (h:Below B w w1) (hs:B≤w1.heap.size:=by first|omega|(simp;done)|(simp;omega)):Below B w (w1.alloc o):=h.alloc hs o
theorem bls {B:Nat} {w w1:World} {p:Addr} {v:Value} (h:Below B w w1) (hs:B≤p.block:=by first|omega|(simp;done)|(simp;omega)):Below B w (w1.setCell p v):=h.setCell hs v
theorem bel {B:Nat} {w w1:World} (h:Below B w w1:=by(repeat(first|exact brf|assumption|refine ble ?_|refine blx ?_|refine bla ?_|refine bls ?_|refine bld ?_))):Below B w w1:=h
theorem TR {P:Program} {id:Nat} {Q:Exit→Act→World→Prop} {a:Act} {w:World} {l:List Oper} (hm:P.follows .mixedOrders=true) (hB:Region.lexB .any l.toArray=true)
  (h:wpQuiet P l.toArray (fun w'=>∃u:Ext w,w'=u.val) (fun a'=>∀w',(∃u:Ext w,w'=u.val)→Q .normal a' w') l a):(Code.region id l.toArray true).wp P Q a w:=
 wp_region_quiet (C:=fun w'=>∃u:Ext w,w'=u.val) hm hB ⟨Ext.drew,rfl⟩ (by simpa using h)
theorem wqb {P:Program} {id:Nat} {Q:Exit→Act→World→Prop} {a:Act} {w:World} {l:List Oper}
  (h:wpQuiet P l.toArray (fun w'=>∃u:Ext w,w'=u.val) (fun a'=>∀w',(∃u:Ext w,w'=u.val)→Q .normal a' w') l a) (hm:P.follows .mixedOrders=true:=by kernel_rfl) (hB:Region.lexB .any l.toArray=true:=by kernel_rfl):(Code.region id l.toArray true).wp P Q a w:=
 TR hm hB h
theorem wqn {P:Program} {ops:Array Oper} {w:World} {F:Act→World→Prop} {a:Act} (h:∀u:Ext w,F a u.val):wpQuiet P ops (fun w'=>∃u:Ext w,w'=u.val) (fun a'=>∀w',(∃u:Ext w,w'=u.val)→F a' w') [] a:=
 wpQuiet_nil (by rintro _ ⟨u,rfl⟩;exact h u)
theorem wqf {P:Program} {id:Nat} {Q:Exit→Act→World→Prop} {a a':Act} {w:World} {l:List Oper} (h:∀u:Ext w,Q .normal a' u.val)
  (q:wpQuiet P l.toArray (fun w'=>∃u:Ext w,w'=u.val) (fun a'=>∀w',(∃u:Ext w,w'=u.val)→Q .normal a' w') [] a'→wpQuiet P l.toArray (fun w'=>∃u:Ext w,w'=u.val) (fun a'=>∀w',(∃u:Ext w,w'=u.val)→Q .normal a' w') l a:=by
   intro h9;(repeat(first|go_big_quiet_step (fail)|quiet_step (fail)));exact h9)
  (hm:P.follows .mixedOrders=true:=by kernel_rfl) (hB:Region.lexB .any l.toArray=true:=by kernel_rfl):(Code.region id l.toArray true).wp P Q a w:=
 TR hm hB (q (wqn h))
theorem sH {P:Program} {f:FuncId} {args:Array Value} {w:World} {u:Ext w} {v:Value}
  (h:Calls P f args u.val fun e w'=>e= .returned v∧Below u.val.heap.size u.val w'):Calls P f args u.val fun e w''=>e= .returned v∧∃u':Ext w,w''=u'.val:=
 h.mono fun _ w' ⟨he,hb⟩=>⟨he,⟨w',fB u.below hb⟩,rfl⟩
def Ret (w:World) (v:Value) (e:Ending) (w':World):Prop:=e= .returned v∧Below w.heap.size w w'
theorem aE {P:Program} {f:FuncId} {args:Array Value} {w:World} {u:Ext w} {v:Value}
  (h:Calls P f args u.val (Ret u.val v)):Calls P f args u.val fun e w''=>e= .returned v∧∃u':Ext w,w''=u'.val:=sH h
theorem aJ {a x A X:Int} (h1: -A≤a) (h2:a≤A) (h3: -X≤x) (h4:x≤X): -(A*X)≤a*x∧a*x≤A*X:=by
 have p1:0≤(A-a)*(X+x):=Int.mul_nonneg (by omega) (by omega)
 have p2:0≤(A+a)*(X-x):=Int.mul_nonneg (by omega) (by omega)
 have p3:0≤(A-a)*(X-x):=Int.mul_nonneg (by omega) (by omega)
 have p4:0≤(A+a)*(X+x):=Int.mul_nonneg (by omega) (by omega)
 simp only[Int.sub_mul,Int.add_mul,Int.mul_sub,Int.mul_add]at p1 p2 p3 p4
 omega
theorem _root_.Go.RowKit.Below.drewN' {B:Nat} {a w:World} (h:Below B a w) (n:Nat):Below B a (w.drewN n):=⟨h.os,h.tape,h.output,h.size,h.block⟩
def sgn (a b:Int):Int:=if a<b then -1 else if b<a then 1 else 0
theorem ux {a b:Int} (h:a<b):sgn a b= -1:=by simp[sgn,h]
theorem uy {a b:Int} (h:b<a):sgn a b=1:=by simp[sgn,h,Int.not_lt.2 (Int.le_of_lt h)]
theorem LK {a b:Int} (h1:¬a<b) (h2:¬b<a):sgn a b=0:=by simp[sgn,h1,h2]
theorem aK {k:IntKind} {a b:Int} (h:a=b):Ending.returned (.int k a)= .returned (.int k b):=by rw[h]
theorem ay {a b:Bool} (h:a=b):Ending.returned (.bool a)= .returned (.bool b):=by rw[h]
end
end Go.Proofs.YtffbilcjhlncfaaGreatDoor
