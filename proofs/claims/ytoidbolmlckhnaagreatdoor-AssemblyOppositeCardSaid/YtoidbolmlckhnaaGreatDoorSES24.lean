/- texts: C2 V4 S1a. -/
import Derived.Test.YtoidbolmlckhnaaGreatDoorSES23
namespace Go.Proofs.YtoidbolmlckhnaaGreatDoor
set_option maxHeartbeats 8000000
set_option linter.unusedSimpArgs false
set_option linter.unusedVariables false
section
open Go.RowKit Go.Shelf
attribute [local go_sem] Ext.cell Ext.frozen
def MW (v:Value):Prop:=∀m c,v= .slice none m c→m=0∧c=0
theorem vp (b o j:Nat):(⟨b,o,none⟩:Addr).add j=⟨b,o+j,none⟩:=by
 unfold Addr.add
 split
 ·rename_i h;subst h;rfl
 ·rfl
theorem jy {w:World} {base:Nat} {T:TypeId} {v:Value} {xs:List Int} (h:w.ownsRow base T 1 v xs.length (xs.map (Value.int .i64))):Ints w v xs:=by
 rcases h.2 with⟨rfl,h0⟩|⟨g,cap,cur,rfl,hb,hh,hc,hm,hcs,ht⟩
 ·exact⟨none,0,0,rfl,h0,Nat.le_refl _,fun h=>absurd h (by omega)⟩
 ·refine⟨some ⟨g,0,none⟩,xs.length,cap,rfl,rfl,hc,fun _=>⟨g,0,rfl,fun i hi=> ?_⟩⟩
  rw[Nat.zero_add,ag hh]
  have h2:(cur.toList.take (xs.length*1))[i]? =some (Value.int .i64 xs[i]):=by rw[ht];simp[hi]
  rw[List.getElem?_take_of_lt (by omega)]at h2
  simpa using h2
set_option maxRecDepth 100000 in
theorem Ui (v:Value) (xs:List Int) (W:World) (hx:Ints W v xs) (hnil:MW v) (hm:xs.length*8≤140737488355328):
  Calls Tryz.prog 19 #[v] W fun e w'=>∃r,e= .returned r∧Below W.heap.size W w'∧w'.ownsRow W.heap.size 3 1 r xs.length (xs.map (Value.int .i64)):=by
 obtain⟨i0,hi0,hz0,hz1,hz2⟩:=info_parts iE
 have Hi0:=YJ (And.intro hi0 (And.intro hz0 (And.intro hz1 hz2)))
 clear hi0 hz0 hz1 hz2
 obtain⟨a,m,c,rfl,hl,hc,hx⟩:=hx
 have hmade:(W.alloc (.cells #[] 3)).ownsRow W.heap.size 3 1 (.slice (some ⟨W.heap.size,0,none⟩) 0 0) 0 []:=World.ownsRow_made W #[] 0 (Nat.le_refl _) (Nat.zero_le _) rfl
 have Hm:=YJ hmade
 clear hmade
 cases a with
 |none=>
  obtain⟨rfl,rfl⟩:=hnil m c rfl
  obtain rfl:xs=[]:=List.length_eq_zero_iff.1 hl
  clear hx hnil hl
  go_enter Tryz.func19,Tryz.ntmps19
  go_wp2_with (at_builtin;refine wpList_append_own_none rfl _ _ 45 rfl W.heap.size 3 i0 1 Pw Hi0.out.1 _ 0 [] rfl Hm.out rfl ?_)
  go_ret
  exact⟨_,rfl,bel,Hm.out⟩
 |some ad=>
  have HN:Hid (∀j u,(xs.map (Value.int .i64))[j]? =some u→(W.alloc (.cells #[] 3)).cell? (ad.add j)=some u):=YJ (fun j u hu=>by
   have hj:j<xs.length:=by
    have:=(List.getElem?_eq_some_iff.1 hu).1
    simpa using this
   obtain⟨b,off,e,hi⟩:=hx (by omega)
   cases e
   rw[vp]
   refine ab (show Below W.heap.size W _ from bel) ?_
   rw[hi j hj]
   simpa [hj]using hu)
  clear hx hnil
  go_enter Tryz.func19,Tryz.ntmps19
  go_wp2_with (at_builtin;refine wpList_append_own _ rfl _ _ 45 rfl W.heap.size 3 i0 (.int .i64 0) 1 8 Pw Hi0.out.1 Hi0.out.2.1 Hi0.out.2.2.1 Hi0.out.2.2.2 rfl (by decide) _ 0 [] rfl Hm.out ad m c (xs.map (Value.int .i64)) rfl ?c0 HN.out ?c2 ?c3 ?c4 ?c5 ?_)
  case c0=>simp[hl]
  case c2=>intro u hu;simp at hu;obtain⟨_,_,rfl⟩:=hu;rfl
  case c3=>unfold maxLen;omega
  case c4=>omega
  case c5=>simp
  intro v' w2 hown2 hg2 _
  have hb2:Below W.heap.size W w2:=Below.grown (show Below W.heap.size W (W.alloc (.cells #[] 3))from bel) hg2 (by simp) (fun q hq=>(Hm.out.lt q hq).1)
  have HO:=YJ hown2
  clear hown2 hg2
  go_wp2
  go_ret
  exact⟨_,rfl,hb2,by have:=HO.out;simpa [hl]using this⟩
end
section
open Go.RowKit
set_option linter.unusedSectionVars false
def aP (l w t:Int):List Q4:=[axP 0 (-1) (-0),axP 0 1 l,axP 1 (-1) (-0),axP 1 1 w,axP 2 (-1) (-0),axP 2 1 t]
structure Cell (l w t:Int) (c e:List Q4):Prop where
 len:c.length≤10
 ok:∀p∈c,cI p
 sub:∀p∈c,p∈e∨p∈aP l w t
 sup:∀p∈e,p∈c∨p∈aP l w t
 pt:∃(x:Q3) (W:Int),0<W∧(∀p∈c,0<slk p x W)∧(0<x.1∧x.1<l*W)∧(0<x.2.1∧x.2.1<w*W)∧(0<x.2.2∧x.2.2<t*W)
def Cells (l w t:Int):List (List Q4)→List (List Q4)→Prop
 | [],[]=>True
 |c::cs,e::es=>Cell l w t c e∧Cells l w t cs es
 |_,_=>False
theorem Cells.append {l w t:Int}:∀{cs es cs' es':List (List Q4)},Cells l w t cs es→Cells l w t cs' es'→Cells l w t (cs++cs') (es++es')
 | [],[],_,_,_,h=>h
 |_::_,_::_,_,_,h,h'=>⟨h.1,Cells.append h.2 h'⟩
 | [],_::_,_,_,h,_=>h.elim
 |_::_,[],_,_,h,_=>h.elim
theorem Cells.map {l w t:Int} {α:Type} (f g:α→List Q4):∀(xs:List α),(∀x∈xs,Cell l w t (f x) (g x))→Cells l w t (xs.map f) (xs.map g)
 | [],_=>trivial
 |x::xs,h=>⟨h x (by simp),Cells.map f g xs (fun y hy=>h y (by simp[hy]))⟩
section
variable {l w t:Int} (hl:1≤l∧l≤100000) (hw:1≤w∧w≤100000) (ht:1≤t∧t≤100000)
include hl hw ht
end
end
section
open Go.RowKit Go.Shelf
def OkV (w:World) (v:Value):Prop:=MW v∧∀b off m c,v= .slice (some ⟨b,off,none⟩) m c→∃cs,w.heap[b]? =some (.cells cs 3 (0,0))
theorem OkV.below {w w':World} {v:Value} (h:OkV w v) (hb:Below w.heap.size w w'):OkV w' v:=
 ⟨h.1,fun b off m c e=>by obtain⟨cs,hh⟩:=h.2 b off m c e;exact⟨cs,(hb.block _ (ah hh)).trans hh⟩⟩
end
end Go.Proofs.YtoidbolmlckhnaaGreatDoor
