/- texts: FRB. -/
import Derived.Test.YtnpmkepfpekhfaaGreatDoorAQS31
import Derived.Maps.OwnIn
namespace Go.Proofs.YtnpmkepfpekhfaaGreatDoor
set_option maxHeartbeats 8000000
set_option linter.all false
section
open Go.RowKit Go.Shelf Go.Lib
def But2 (mb tb:Nat) (W X:World):Prop:=Below mb W X∧W.heap.size≤X.heap.size∧∀k,k<W.heap.size→k≠mb→k≠tb→X.heap[k]? =W.heap[k]?
theorem But2.refl (mb tb:Nat) (W:World):But2 mb tb W W:=⟨brf,qaA _,fun _ _ _ _=>rfl⟩
theorem But2.trans {mb tb:Nat} {W X Y:World} (h:But2 mb tb W X) (k:But2 mb tb X Y):But2 mb tb W Y:=⟨h.1.trans k.1,qaD h.2.1 k.2.1,fun i hi hn ht=>(k.2.2 i (qaG hi h.2.1) hn ht).trans (h.2.2 i hi hn ht)⟩
theorem But2.of_butm {mb tb:Nat} {W X:World} (h:ButM mb W X):But2 mb tb W X:=⟨h.1,h.2.1,fun k hk hm _=>h.2.2 k hk hm⟩
theorem But2.of_below {mb tb:Nat} {W X:World} (hm:mb≤W.heap.size) (h:Below W.heap.size W X):But2 mb tb W X:= .of_butm (.of_below hm h)
theorem But2.set {mb tb:Nat} {W X:World} (h:But2 mb tb W X) (hm:mb<tb) (i:Nat) (v:Value):But2 mb tb W (X.setCell ⟨tb,i,none⟩ v):=
 ⟨h.1.setCell (by show mb≤tb;omega) v,by simpa using h.2.1,fun k hk hn ht=>(qaH _ _ _ k ht).trans (h.2.2 k hk hn ht)⟩
theorem But2.grown {mb tb:Nat} {W X Y:World} {row:Option Nat} {B:Nat} (h:But2 mb tb W X) (hg:X.grownBy Y row) (hB:W.heap.size≤B) (hm:mb<W.heap.size) (hr:∀r,row=some r→B≤r):But2 mb tb W Y:=
 ⟨h.1.grown hg (by have:=h.2.1;omega) (fun k e=>by have:=hr k e;omega),qaD h.2.1 hg.size,fun k hk hn ht=>(hg.block k (qaG hk h.2.1) (fun e=>by have:=hr k e.symm;omega)).trans (h.2.2 k hk hn ht)⟩
theorem But2.keeps {mb tb B:Nat} {W X:World} (h:But2 mb tb W X) (hb:mb<B) (ht:tb<B):KeepsFrom B W X:=⟨h.2.1,fun k o hB hk _=>(h.2.2 k (alsl.1 hk).1 (by omega) (by omega)).trans hk⟩
def TabF (B tb n:Nat) (X:World) (F:Nat→Value) (R:Nat→List Q3):Prop:=
 X.heap[tb]? =some (.cells ((List.range n).map F).toArray 33 (0,0))∧(∀i,i<n→X.ownsRow B 36 3 (F i) (R i).length ((R i).flatMap TZ))∧(∀i j,i<n→j<n→i≠j→(F i).ownBlock=none∨(F i).ownBlock≠(F j).ownBlock)∧(∀i,i<n→R i=[]→F i= .slice none 0 0)
theorem TabF.below {B tb n:Nat} {X Y:World} {F:Nat→Value} {R:Nat→List Q3} (h:TabF B tb n X F R) (hb:Below X.heap.size X Y):TabF B tb n Y F R:=
 ⟨(hb.block _ (ah h.1)).trans h.1,fun i hi=>au (h.2.1 i hi) hb,h.2.2⟩
theorem TabF.butm {B tb n mb m:Nat} {X Y:World} {F:Nat→Value} {R:Nat→List Q3} {D:DataW Value} (h:TabF B tb n X F R) (hb:ButM mb X Y) (ht:tb≠mb) (hm:OwM X mb m D):TabF B tb n Y F R:=
 ⟨(hb.2.2 _ (ah h.1) ht).trans h.1,fun i hi=>(h.2.1 i hi).kept (row:=some mb) ⟨hb.1.os,hb.1.tape,hb.1.output,hb.2.1,fun k hk hn=>hb.2.2 k hk (fun e=>hn (by rw[e]))⟩ (.inr (fun e=>by
  rcases(h.2.1 i hi).2 with⟨h0,_⟩|⟨g,cap,cur,h0,_,hgb,_⟩
  ·rw[h0]at e;simp[Value.ownBlock]at e
  ·rw[h0]at e
   have:g=mb:=by simpa [Value.ownBlock]using e
   exact rt hm hgb this)),h.2.2⟩
theorem TabF.moved {B tb n:Nat} {X Y:World} {F:Nat→Value} {R:Nat→List Q3} {row:Option Nat} (h:TabF B tb n X F R) (hg:X.grownBy Y row) (hc:∀r,row=some r→∃o:Obj,X.heap[r]? =some o∧o.isCells=false):TabF B tb n Y F R:=
 ⟨Ck tb (fun(_:Unit)=>((List.range n).map F).toArray) _ () X Y row h.1 hg hc,fun i hi=>CC (h.2.1 i hi) hg hc,h.2.2⟩
end
end Go.Proofs.YtnpmkepfpekhfaaGreatDoor
