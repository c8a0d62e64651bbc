/- texts: J9 J13 J14 V2 V3 W1 Pl W2 W3 W4 W5. -/
import Derived.Test.YtleamcmbhioedaaGreatDoorBKS17
import Derived.Test.YtleamcmbhioedaaGreatDoorBKShelf
import Derived.Lib.AppendIntMem
import Derived.Lib.ItoaLen
namespace Go.Proofs.YtleamcmbhioedaaGreatDoor
set_option maxHeartbeats 8000000
set_option linter.unusedSimpArgs false
set_option linter.unusedVariables false
section
open Go.RowKit Go.Shelf
attribute [local go_sem] Ext.cell Ext.frozen
theorem kl {w w':World} (h:Lib.TabIs Tryz.prog w "internal/strconv.uint64pow10" .u64 Lib.pow10Tab) (hb:Below w.heap.size w w'):Lib.TabIs Tryz.prog w' "internal/strconv.uint64pow10" .u64 Lib.pow10Tab:=by
 obtain⟨g,hg⟩:=Option.isSome_iff_exists.1 (show(Tryz.prog.globalNamed "internal/strconv.uint64pow10").isSome=true by kernel_rfl)
 unfold Lib.TabIs World.var? at h ⊢
 rw[hg]at h ⊢
 simp only[Option.bind_some]at h ⊢
 have hlt:g<w.heap.size:=by
  rcases Nat.lt_or_ge g w.heap.size with h'|h'
  ·exact h'
  ·rw[Array.getElem?_eq_none h']at h;cases h
 rw[hb.block g hlt]
 exact h
theorem vi (n:Int) (hn: -1000000000≤n∧n≤1000000000) (w:World) (htab:Lib.TabIs Tryz.prog w "internal/strconv.uint64pow10" .u64 Lib.pow10Tab):
  Calls Tryz.prog 48 #[.int .i64 n] w (Ret w (.string ⟨(Lib.itoa n).toArray⟩)):=
 (Tryz.strconv_Itoa n (by omega) (by omega) w htab).mono (by
  rintro e w' ⟨rfl,k,os,rfl⟩
  exact⟨rfl,Lib.below_grow _ _ (Nat.le_refl _) k os⟩)
def txt (x:Int):ByteArray:=⟨(Lib.itoa x).toArray⟩
theorem vj:(Tryz.prog.info? 9).map (fun i=>(i.zero,i.size,i.bytes))=some (some (.string ⟨#[]⟩),1,16):=by kernel_rfl
theorem vk:Tryz.prog.underlying 150=some (.slice 9):=by kernel_rfl
theorem ss (xs:List Int):∀u∈xs.map (Value.int .i64),u.oneCell'=true:=fun u hu=>by
 obtain⟨x,_,rfl⟩:=List.mem_map.1 hu;rfl
theorem pA {W:World} {b off m c:Nat} {xs:List Int} (h:IntsAt W b off xs) (hl:xs.length=m):Raw W 1 (.slice (some ⟨b,off,none⟩) m c) (xs.map (Value.int .i64)):=
 ⟨_,_,_,rfl,by simp[hl],(fun h=>by cases h),fun ad ha j u hu=>by
  cases ha
  have hj:j<xs.length:=by simpa using(List.getElem?_eq_some_iff.1 hu).1
  have:=h j hj
  have hu':u= .int .i64 xs[j]:=by rw[List.getElem?_map,List.getElem?_eq_getElem hj]at hu;simpa using hu.symm
  subst hu'
  by_cases h0:j=0
  ·subst h0;simpa [Addr.add]using this
  ·simpa [Addr.add,h0]using this⟩
theorem vl {w:World} {base:Nat} {e:TypeId} {v:Value} {n:Nat} {xs:List Int} (h:w.ownsRow base e 1 v n (xs.map (Value.int .i64))) (h0:0<xs.length):
  n=xs.length∧∃g cap cur,v= .slice (some ⟨g,0,none⟩) n cap∧w.heap[g]? =some (.cells cur e (0,0))∧∀i (hi:i<xs.length),cur[i]? =some (.int .i64 xs[i]):=by
 have hl:n=xs.length:=by have:=h.1;simp at this;omega
 rcases h.2 with⟨_,h1⟩|⟨g,cap,cur,rfl,_,hh,_,_,_,ht⟩
 ·omega
 ·refine⟨hl,g,cap,cur,rfl,hh,fun i hi=> ?_⟩
  have h2:(cur.toList.take (n*1))[i]? =(xs.map (Value.int .i64))[i]? :=by rw[ht]
  rw[List.getElem?_take_of_lt (by omega),List.getElem?_map,List.getElem?_eq_getElem hi]at h2
  simpa using h2
theorem Qx {w:World} {base:Nat} {e:TypeId} {v:Value} {n:Nat} {xs:List ByteArray} (h:w.ownsRow base e 1 v n (xs.map Value.string)) (h0:0<xs.length):
  ∃g cap,v= .slice (some ⟨g,0,none⟩) xs.length cap∧xs.length≤cap∧g<w.heap.size∧∀(j:Nat) x,xs[j]? =some x→w.cell? ⟨g,0+j,none⟩=some (.string x):=by
 have hl:n=xs.length:=by have:=h.1;simp at this;omega
 rcases h.2 with⟨_,h1⟩|⟨g,cap,cur,rfl,_,hh,hc,_,_,ht⟩
 ·omega
 ·subst hl
  refine⟨g,cap,rfl,hc,ah hh,fun i x hx=> ?_⟩
  obtain⟨hi,rfl⟩:=List.getElem?_eq_some_iff.1 hx
  have h2:(cur.toList.take (xs.length*1))[i]? =(xs.map Value.string)[i]? :=by rw[ht]
  rw[List.getElem?_take_of_lt (by omega),List.getElem?_map,List.getElem?_eq_getElem hi]at h2
  rw[ag hh,Nat.zero_add]
  simpa using h2
def Each (w:World) (v:Value) {α:Type} (E:World→Value→α→Prop) (cs:List α):Prop:=
 ∃a m c,v= .slice a m c∧cs.length=m∧m≤c∧(0<m→∃b off,a=some ⟨b,off,none⟩∧∀i (h:i<cs.length),∃u,w.cell? ⟨b,off+i,none⟩=some u∧E w u cs[i])
theorem Each.below {w w':World} {v:Value} {α:Type} {E:World→Value→α→Prop} {cs:List α} (hE:∀u c w w',Below w.heap.size w w'→E w u c→E w' u c) (h:Each w v E cs) (hb:Below w.heap.size w w'):Each w' v E cs:=by
 obtain⟨a,m,c,hv,hl,hc,hx⟩:=h
 refine⟨a,m,c,hv,hl,hc,fun h0=> ?_⟩
 obtain⟨b,off,ha,hi⟩:=hx h0
 exact⟨b,off,ha,fun i h=>by obtain⟨u,hu,he⟩:=hi i h;exact⟨u,ab hb hu,hE _ _ _ _ hb he⟩⟩
def At (B:Nat) (v:Value):Prop:=∀a m c,v= .slice (some a) m c→B≤a.block
theorem At.mono {B B':Nat} {v:Value} (h:At B v) (hb:B'≤B):At B' v:=fun a m c e=>Nat.le_trans hb (h a m c e)
theorem At.mk {B g m c:Nat} (h:B≤g):At B (.slice (some ⟨g,0,none⟩) m c):=fun a _ _ e=>by cases e;exact h
def PlanesV (B:Nat) (w:World) (v:Value) (ps:List Q4):Prop:=Raw w 4 v (ps.flatMap aH)∧At B v
def CellsV (B:Nat) (w:World) (v:Value) (cs:List (List Q4)):Prop:=Each w v (PlanesV B) cs∧At B v
def PartsV (B:Nat) (w:World) (v:Value) (cs:List (List (List Q4))):Prop:=Each w v (CellsV B) cs∧At B v
theorem PlanesV.below {B:Nat} {w w':World} {v:Value} {ps:List Q4} (h:PlanesV B w v ps) (hb:Below w.heap.size w w'):PlanesV B w' v ps:=⟨Raw.below h.1 hb,h.2⟩
theorem CellsV.below {B:Nat} {w w':World} {v:Value} {ps:List (List Q4)} (h:CellsV B w v ps) (hb:Below w.heap.size w w'):CellsV B w' v ps:=⟨Each.below (fun _ _ _ _ hb h=>PlanesV.below h hb) h.1 hb,h.2⟩
theorem PartsV.below {B:Nat} {w w':World} {v:Value} {ps:List (List (List Q4))} (h:PartsV B w v ps) (hb:Below w.heap.size w w'):PartsV B w' v ps:=⟨Each.below (fun _ _ _ _ hb h=>CellsV.below h hb) h.1 hb,h.2⟩
theorem Each.imp {w:World} {v:Value} {α:Type} {E E':World→Value→α→Prop} {cs:List α} (hE:∀u c,E w u c→E' w u c) (h:Each w v E cs):Each w v E' cs:=by
 obtain⟨a,m,c,rfl,hl,hc,hx⟩:=h
 refine⟨a,m,c,rfl,hl,hc,fun h0=> ?_⟩
 obtain⟨b,off,rfl,hi⟩:=hx h0
 exact⟨b,off,rfl,fun k h=>by obtain⟨u,hu,he⟩:=hi k h;exact⟨u,hu,hE _ _ he⟩⟩
theorem PlanesV.mono {B B':Nat} {w:World} {v:Value} {ps:List Q4} (h:PlanesV B w v ps) (hb:B'≤B):PlanesV B' w v ps:=⟨h.1,h.2.mono hb⟩
theorem CellsV.mono {B B':Nat} {w:World} {v:Value} {ps:List (List Q4)} (h:CellsV B w v ps) (hb:B'≤B):CellsV B' w v ps:=⟨h.1.imp (fun _ _ h=>PlanesV.mono h hb),h.2.mono hb⟩
theorem PartsV.mono {B B':Nat} {w:World} {v:Value} {ps:List (List (List Q4))} (h:PartsV B w v ps) (hb:B'≤B):PartsV B' w v ps:=⟨h.1.imp (fun _ _ h=>CellsV.mono h hb),h.2.mono hb⟩
def IsO (B n:Nat) (ps:List Q4):Value→World→Prop:=fun v w=>w.ownsRow B 127 4 v n (ps.flatMap aH)
theorem fJ (B n:Nat) (ps:List Q4):dR (IsO B n ps):=fun _ _ _ hb h=>au h hb
def RowsV (w:World) (B:Nat) (vs:List Value) (css:List (List Q4)):Prop:=
 vs.length=css.length∧∀i (h1:i<vs.length) (h2:i<css.length),w.ownsRow B 127 4 vs[i] css[i].length (css[i].flatMap aH)
theorem RowsV.below {w w':World} {B:Nat} {vs:List Value} {css:List (List Q4)} (h:RowsV w B vs css) (hb:Below w.heap.size w w'):RowsV w' B vs css:=⟨h.1,fun i h1 h2=>au (h.2 i h1 h2) hb⟩
theorem RowsV.snoc {w:World} {B:Nat} {vs:List Value} {css:List (List Q4)} {v:Value} {cs:List Q4} (h:RowsV w B vs css) (hv:w.ownsRow B 127 4 v cs.length (cs.flatMap aH)):RowsV w B (vs++[v]) (css++[cs]):=by
 refine⟨by simp[h.1],fun i h1 h2=> ?_⟩
 by_cases hi:i<vs.length
 ·have hc:i<css.length:=by rw[←h.1];exact hi
  rw[List.getElem_append_left hi,List.getElem_append_left hc]
  exact h.2 i hi hc
 ·have he:i=vs.length:=by simp at h1;omega
  subst he
  have:=h.1
  simp only[List.getElem_append_right (Nat.le_refl _),Nat.sub_self,List.getElem_cons_zero]
  rw[List.getElem_append_right (by omega)]
  simp only[this,Nat.sub_self,List.getElem_cons_zero]
  exact hv
theorem RowsV.nil {w:World} {B:Nat}:RowsV w B [] []:=⟨rfl,fun _ h=>by simp at h⟩
theorem RowsV.kept {w w':World} {B:Nat} {vs:List Value} {css:List (List Q4)} {row:Option Nat} (h:RowsV w B vs css) (hg:w.grownBy w' row) (hne:∀g cs,row=some g→w.heap[g]? =some cs→∃c t,cs= .cells c t (0,0)∧t≠127):RowsV w' B vs css:=by
 refine⟨h.1,fun i h1 h2=>(h.2 i h1 h2).kept hg ?_⟩
 cases hr:row with
 |none=>cases hv:vs[i].ownBlock<;>simp
 |some g=>
  right
  intro e
  rcases(h.2 i h1 h2).2 with⟨hv,_⟩|⟨g',cap,cur,hv,_,hh,_⟩
  ·rw[hv]at e;simp[Value.ownBlock]at e
  ·rw[hv]at e
   have:g'=g:=by simpa [Value.ownBlock]using e
   subst this
   obtain⟨c,t,h3,h4⟩:=hne _ _ hr hh
   cases h3
   exact h4 rfl
theorem RowsV.set {w:World} {B g i:Nat} {u:Value} {vs:List Value} {css:List (List Q4)} {c:Array Value} {T:TypeId} (h:RowsV w B vs css) (hg:w.heap[g]? =some (.cells c T (0,0))) (hT:127≠T):RowsV (w.setCell ⟨g,i,none⟩ u) B vs css:=
 ⟨h.1,fun k h1 h2=>aF (h.2 k h1 h2) _ _ (fun e=>aG (h.2 k h1 h2) hg hT e.symm)⟩
theorem RowsV.mono {w:World} {B B':Nat} {vs:List Value} {css:List (List Q4)} (h:RowsV w B vs css) (hb:B'≤B):RowsV w B' vs css:=⟨h.1,fun i h1 h2=>AY (h.2 i h1 h2) hb⟩
theorem jC {w:World} {base:Nat} {e:TypeId} {size n:Nat} {v:Value} {xs:List Value} (h:w.ownsRow base e size v n xs):∀g cs,v.ownBlock=some g→w.heap[g]? =some cs→∃c t,cs= .cells c t (0,0)∧t=e:=by
 intro g cs hv hg
 rcases h.2 with⟨rfl,_⟩|⟨g',cap,cur,rfl,_,hh,_⟩
 ·simp[Value.ownBlock]at hv
 ·have:g'=g:=by simpa [Value.ownBlock]using hv
  subst this
  rw[hh]at hg
  cases hg
  exact⟨_,_,rfl,rfl⟩
theorem nt:(Tryz.prog.info? 68).map (fun i=>(i.zero,i.size,i.bytes))=some (some (.agg #[.slice none 0 0]),1,24):=by kernel_rfl
theorem nu:Tryz.prog.underlying 29=some (.slice 68):=by kernel_rfl
theorem nw (ps:List Q4):∀u∈ps.flatMap aH,u.oneCell'=true:=fun u hu=>by
 obtain⟨x,_,hx⟩:=List.mem_flatMap.1 hu
 exact mh x u hx
theorem bh (ps:List Q4):(ps.flatMap aH).length=ps.length*4:=by
 induction ps with
 |nil=>rfl
 |cons p ps ih=>simp[aH]at ih ⊢;omega
end
section
open Go.RowKit
theorem jD (l:List Q4):∀i (h:i<l.length),l[i]∈Lib.compact l
 |0,h=>by
  simp only[Lib.compact,Lib.compactUpTo,List.mem_map,List.mem_filter,List.mem_range]
  exact⟨0,⟨h,by simp[Lib.keeps]⟩,by rw[getElem!_pos l.toArray 0 (by simpa using h)];simp⟩
 |i+1,h=>by
  by_cases hk:Lib.keeps l.toArray (i+1)=true
  ·simp only[Lib.compact,Lib.compactUpTo,List.mem_map,List.mem_filter,List.mem_range]
   exact⟨i+1,⟨h,hk⟩,by rw[getElem!_pos l.toArray (i+1) (by simpa using h)];simp⟩
  ·have e:l[i+1]=l[i]:=by
    simp only[Lib.keeps]at hk
    rw[getElem!_pos l.toArray (i+1) (by simpa using h),getElem!_pos l.toArray (i+1-1) (by simp;omega)]at hk
    simpa using hk
   rw[e]
   exact jD l i (by omega)
theorem fd (l:List Q4) (x:Q4):x∈Lib.compact l↔x∈l:=
 ⟨kU,fun h=>by obtain⟨i,hi,rfl⟩:=List.getElem_of_mem h;exact jD l i hi⟩
theorem fe (ps:List Q4) (c:Q4):c∈aS ps↔c∈raw ps ps.length:=by
 unfold aS
 rw[fd]
 simp[ed]
theorem ld {ps:List Q4} {n:Nat} {c:Q4} (h:c∈raw ps n):bG ps c=true:=by
 unfold raw gJ gI at h
 simp only[List.mem_flatMap,List.mem_range]at h
 obtain⟨i,_,k,_,m,_,h⟩:=h
 unfold jo at h
 split at h
 ·cases h
 ·split at h
  ·rename_i ha
   rw[List.mem_singleton]at h
   subst h
   exact ha
  ·cases h
theorem dL {ps:List Q4} {c:Q4} (h:bG ps c=true) {p:Q4} (hp:p∈ps):0≤slk p (xyz c) c.2.2.2:=by
 unfold bG at h
 simp only[Bool.not_eq_true',List.any_eq_false,decide_eq_true_eq]at h
 have:=h p hp
 rw[mt,kS]at this
 omega
theorem vu (a b:Q3):bj a b=bj b a:=by unfold bj;grind
end
section
open Go.RowKit Go.Sort Go.Lib
theorem jE {le:Q4→Q4→Prop} (l:List Q4) (hs:l.Pairwise le) (anti:∀x∈l,∀y∈l,le x y→le y x→x=y):(Lib.compact l).Pairwise (fun x y=>le x y∧x≠y):=by
 rw[List.pairwise_iff_getElem]at hs
 unfold Lib.compact Lib.compactUpTo
 rw[List.pairwise_map,List.pairwise_filter]
 refine List.Pairwise.imp_of_mem ?_ List.pairwise_lt_range
 intro a b ha hb hab _ kb
 have ha':a<l.length:=List.mem_range.1 ha
 have hb':b<l.length:=List.mem_range.1 hb
 simp only[Lib.keeps,decide_eq_true_eq]at kb
 rw[getElem!_pos l.toArray b (by simpa using hb'),getElem!_pos l.toArray (b-1) (by simp;omega)]at kb
 rw[getElem!_pos l.toArray b (by simpa using hb'),getElem!_pos l.toArray a (by simpa using ha')]
 simp only[List.getElem_toArray]at kb ⊢
 have kb':l[b]≠l[b-1]:=by
  rcases kb with h|h
  ·omega
  ·exact h
 have hab':=hs a b ha' hb' hab
 refine⟨hab',fun e=>kb' ?_⟩
 by_cases h1:a=b-1
 ·subst h1;exact e.symm
 ·have h2:=hs a (b-1) ha' (by omega) (by omega)
  have h3:=hs (b-1) b (by omega) hb' (by omega)
  rw[←e]at h3
  have:=anti _ (List.getElem_mem ha') _ (List.getElem_mem (by omega)) h2 h3
  rw[←e,this]
theorem SJ (ps:List Q4):(iP ps).Pairwise (fun x y=>¬bD y x<0):=by
 have:=List.pairwise_mergeSort (le:=fun x y:Q4=> !decide (bD y x<0))
  (fun a b c h1 h2=>by
   simp only[Bool.not_eq_true',decide_eq_false_iff_not,dx]at*
   omega)
  (fun a b=>by
   simp only[Bool.or_eq_true,Bool.not_eq_true',decide_eq_false_iff_not,dx]at*
   omega) ps
 refine List.Pairwise.imp ?_ this
 intro a b h
 simpa using h
theorem sw {x y:Q4} (h1:¬bD y x<0) (h2:¬bD x y<0):x=y:=yB x y (by rw[sX];simpa using h2) (by rw[sX];simpa using h1)
theorem vv {x y:Q4} (h1:¬bD y x<0) (h2:x≠y):bD x y<0:=Classical.byContradiction fun h=>h2 (sw h1 h)
theorem gN (ps cs:List Q4):(Sp ps cs).Pairwise (fun x y=>bD x y<0):=by
 unfold Sp
 exact(jE _ (SJ _) (fun x _ y _ h1 h2=>sw h1 h2)).imp (fun h=>vv h.1 h.2)
theorem Sq (ps cs:List Q4) (x:Q4):x∈Sp ps cs↔∃p∈ps,onB cs p=true∧x=dG p:=by
 unfold Sp
 rw[fd]
 simp only[iP,List.mem_mergeSort,iZ,List.mem_map,List.mem_filter]
 constructor
 ·rintro⟨p,⟨hp,ho⟩,rfl⟩;exact⟨p,hp,ho,rfl⟩
 ·rintro⟨p,hp,ho,rfl⟩;exact⟨p,⟨hp,ho⟩,rfl⟩
theorem vw (x:Q4):¬bD x x<0:=by rw[dx];omega
theorem vx {x y:Q4} (h:bD x y<0):¬bD y x<0:=by rw[dx]at*;omega
theorem vy {x y z:Q4} (h1:bD x y<0) (h2:bD y z<0):bD x z<0:=by rw[dx]at*;omega
theorem jb:∀{l1 l2:List Q4},l1.Pairwise (fun x y=>bD x y<0)→l2.Pairwise (fun x y=>bD x y<0)→(∀x,x∈l1↔x∈l2)→l1=l2
 | [],[],_,_,_=>rfl
 | [],b::l2,_,_,h=>by have:=(h b).2 (by simp);cases this
 |a::l1,[],_,_,h=>by have:=(h a).1 (by simp);cases this
 |a::l1,b::l2,h1,h2,h=>by
  rw[List.pairwise_cons]at h1 h2
  have e:a=b:=by
   rcases List.mem_cons.1 ((h a).1 (by simp))with e|ha
   ·exact e
   ·rcases List.mem_cons.1 ((h b).2 (by simp))with e|hb
    ·exact e.symm
    ·exact absurd (h1.1 b hb) (vx (h2.1 a ha))
  subst e
  rw[jb h1.2 h2.2 (fun x=> ?_)]
  constructor
  ·intro hx
   rcases List.mem_cons.1 ((h x).1 (List.mem_cons_of_mem _ hx))with e|h3
   ·subst e;exact absurd (h1.1 _ hx) (vw _)
   ·exact h3
  ·intro hx
   rcases List.mem_cons.1 ((h x).2 (List.mem_cons_of_mem _ hx))with e|h3
   ·subst e;exact absurd (h2.1 _ hx) (vw _)
   ·exact h3
theorem ro (cs:List Q4) (hcs:∀c∈cs,dI c):(ed cs).Pairwise (fun x y=>¬iO y x<0):=by
 have hv:(cs.attachWith dI hcs).map Subtype.val=cs:=List.attachWith_map_subtype_val hcs
 have e:(List.mergeSort (cs.attachWith dI hcs) fun x y=> !ltOf jt y x).map Subtype.val=ed cs:=by
  unfold ed
  have:=List.map_mergeSort (r:=fun x y:NCo=> !ltOf jt y x) (s:=fun x y=> !decide (iO y x<0)) (f:=Subtype.val) (l:=cs.attachWith dI hcs) (fun a _ b _=>rfl)
  rw[this,hv]
 have:=List.pairwise_mergeSort (le:=fun x y:NCo=> !ltOf jt y x)
  (fun a b c h1 h2=>by
   simp only[Bool.not_eq_true']at*
   exact swoPt.ntrans _ _ _ h2 h1)
  (fun a b=>by
   simp only[Bool.or_eq_true,Bool.not_eq_true']
   cases h:ltOf jt b a with
   |false=>exact Or.inl rfl
   |true=>
    right
    cases h2:ltOf jt a b with
    |false=>rfl
    |true=>
     have:=swoPt.trans _ _ _ h h2
     rw[swoPt.irrefl]at this
     cases this) (cs.attachWith dI hcs)
 rw[←e,List.pairwise_map]
 refine List.Pairwise.imp ?_ this
 intro a b h
 simpa [qK]using h
theorem fV (ps:List Q4) (h:∀p∈ps,bI p):(aS ps).Nodup:=by
 unfold aS
 have hn:=iD ps h ps.length (Nat.le_refl _)
 refine(jE _ (ro _ hn) (fun x hx y hy h1 h2=> ?_)).imp (fun h=>h.2)
 have hx':x∈raw ps ps.length:=by simpa [ed]using hx
 have hy':y∈raw ps ps.length:=by simpa [ed]using hy
 have:=yy ⟨x,hn x hx'⟩ ⟨y,hn y hy'⟩ (by rw[qK];simpa using h2) (by rw[qK];simpa using h1)
 exact congrArg Subtype.val this
theorem mw {cs ds:List Q4} (hc:cs.Nodup) (hd:ds.Nodup) (h:∀x,x∈cs↔x∈ds) (p:Q4):cQ p cs=cQ p ds:=by
 unfold cQ
 exact(((List.perm_ext_iff_of_nodup hc hd).2 h).filter _).length_eq
theorem mx {ps:List Q4} {n:Nat} (hn:n≤ps.length) {c:Q4} (h:c∈raw ps n):∃p∈ps,∃q∈ps,∃r∈ps,bN p q r≠0∧c=gk p q r (bN p q r):=by
 unfold raw gJ gI at h
 simp only[List.mem_flatMap,List.mem_range]at h
 obtain⟨i,hi,k,hk,m,hm,h⟩:=h
 unfold jo at h
 split at h
 ·cases h
 ·rename_i h0
  split at h
  ·rw[List.mem_singleton]at h
   have g:∀j,j<ps.length→bm ps j∈ps:=fun j hj=>by
    have:bm ps j=ps[j]:=by simp[bm,List.getD,hj]
    rw[this];exact List.getElem_mem hj
   exact⟨_,g i (by omega),_,g k (by omega),_,g m (by omega),h0,h⟩
  ·cases h
def kp (out:List Q4) (p:Q4):List Q4:=
 if(out.dropWhile (fun q=>decide (bD q p<0))).head?=some p then out else out.takeWhile (fun q=>decide (bD q p<0))++p::out.dropWhile (fun q=>decide (bD q p<0))
def dX (cs:List Q4) (out:List Q4) (p:Q4):List Q4:=if 3≤cQ (dG p) cs then kp out (dG p)else out
def ch (ps:List Q4):List Q4:=ps.foldl (dX (dQ ps)) []
theorem tw (l:List Q4):∀out:List Q4,out.Nodup→(l.foldl NW out).Nodup∧∀x,x∈l.foldl NW out↔x∈out∨x∈l:=by
 induction l with
 |nil=>intro out h;exact⟨h,fun x=>by simp⟩
 |cons c l ih=>
  intro out h
  rw[List.foldl_cons]
  by_cases hc:c∈out
  ·have e:NW out c=out:=by simp[NW,hc]
   rw[e]
   obtain⟨h1,h2⟩:=ih out h
   refine⟨h1,fun x=> ?_⟩
   rw[h2,List.mem_cons]
   constructor
   ·rintro(h|h)
    ·exact Or.inl h
    ·exact Or.inr (Or.inr h)
   ·rintro(h|rfl|h)
    ·exact Or.inl h
    ·exact Or.inl hc
    ·exact Or.inr h
  ·have e:NW out c=out++[c]:=by simp[NW,hc]
   rw[e]
   obtain⟨h1,h2⟩:=ih (out++[c]) (by
    rw[List.nodup_append]
    exact⟨h,by simp,fun a ha b hb=>by simp at hb;subst hb;exact fun e=>hc (e▸ha)⟩)
   refine⟨h1,fun x=> ?_⟩
   rw[h2,List.mem_append,List.mem_singleton,List.mem_cons]
   constructor
   ·rintro((h|h)|h)
    ·exact Or.inl h
    ·exact Or.inr (Or.inl h)
    ·exact Or.inr (Or.inr h)
   ·rintro(h|h|h)
    ·exact Or.inl (Or.inl h)
    ·exact Or.inl (Or.inr h)
    ·exact Or.inr h
theorem lf (ps:List Q4):(dQ ps).Nodup∧∀x,x∈dQ ps↔x∈raw ps ps.length:=by
 obtain⟨h1,h2⟩:=tw (raw ps ps.length) [] List.nodup_nil
 exact⟨h1,fun x=>by rw[dQ,h2];simp⟩
theorem SY (out:List Q4) (p:Q4) (h:out.Pairwise (fun x y=>bD x y<0)):(kp out p).Pairwise (fun x y=>bD x y<0)∧∀x,x∈kp out p↔x∈out∨x=p:=by
 have hta:out.takeWhile (fun q=>decide (bD q p<0))++out.dropWhile (fun q=>decide (bD q p<0))=out:=List.takeWhile_append_dropWhile
 have hA:∀q∈out.takeWhile (fun q=>decide (bD q p<0)),bD q p<0:=fun q hq=>by
  have:=List.all_eq_true.1 (List.all_takeWhile (p:=fun q=>decide (bD q p<0)) (l:=out)) q hq
  simpa using this
 have hH:∀b,(out.dropWhile (fun q=>decide (bD q p<0))).head?=some b→¬bD b p<0:=fun b hb=>by
  have:=List.head?_dropWhile_not (fun q=>decide (bD q p<0)) out
  rw[hb]at this
  simpa using this
 unfold kp
 generalize out.takeWhile (fun q=>decide (bD q p<0))=A at*
 generalize out.dropWhile (fun q=>decide (bD q p<0))=B at*
 subst hta
 split
 ·rename_i hp
  refine⟨h,fun x=>⟨Or.inl, ?_⟩⟩
  rintro(h1|rfl)
  ·exact h1
  ·exact List.mem_append_right _ (List.mem_of_head? hp)
 ·rename_i hp
  refine⟨?_,fun x=> ?_⟩
  ·rw[List.pairwise_append]at h ⊢
   obtain⟨h1,h2,h3⟩:=h
   have hB:∀b∈B,bD p b<0:=by
    cases B with
    |nil=>intro b hb;cases hb
    |cons b0 B=>
     have h0:bD p b0<0:=vv (hH b0 rfl) (fun e=>hp (by rw[e];rfl))
     intro b hb
     rcases List.mem_cons.1 hb with rfl|hb
     ·exact h0
     ·exact vy h0 ((List.pairwise_cons.1 h2).1 b hb)
   refine⟨h1,List.pairwise_cons.2 ⟨hB,h2⟩,fun a ha b hb=> ?_⟩
   rcases List.mem_cons.1 hb with rfl|hb
   ·exact hA a ha
   ·exact h3 a ha b hb
  ·simp only[List.mem_append,List.mem_cons]
   constructor
   ·rintro(h|h|h)
    ·exact Or.inl (Or.inl h)
    ·exact Or.inr h
    ·exact Or.inl (Or.inr h)
   ·rintro((h|h)|h)
    ·exact Or.inl h
    ·exact Or.inr (Or.inr h)
    ·exact Or.inr (Or.inl h)
theorem oe (cs:List Q4) (l:List Q4):∀out:List Q4,out.Pairwise (fun x y=>bD x y<0)→
  (l.foldl (dX cs) out).Pairwise (fun x y=>bD x y<0)∧∀x,x∈l.foldl (dX cs) out↔x∈out∨∃p∈l,3≤cQ (dG p) cs∧x=dG p:=by
 induction l with
 |nil=>intro out h;exact⟨h,fun x=>by simp⟩
 |cons q l ih=>
  intro out h
  rw[List.foldl_cons]
  by_cases hc:3≤cQ (dG q) cs
  ·have e:dX cs out q=kp out (dG q):=by simp[dX,hc]
   rw[e]
   obtain⟨i1,i2⟩:=SY out (dG q) h
   obtain⟨h1,h2⟩:=ih _ i1
   refine⟨h1,fun x=> ?_⟩
   rw[h2,i2]
   constructor
   ·rintro((h|h)|⟨p,h3,h4⟩)
    ·exact Or.inl h
    ·exact Or.inr ⟨q,by simp,hc,h⟩
    ·exact Or.inr ⟨p,by simp[h3],h4⟩
   ·rintro(h|⟨p,h3,h4⟩)
    ·exact Or.inl (Or.inl h)
    ·rcases List.mem_cons.1 h3 with rfl|h3
     ·exact Or.inl (Or.inr h4.2)
     ·exact Or.inr ⟨p,h3,h4⟩
  ·have e:dX cs out q=out:=by simp[dX,hc]
   rw[e]
   obtain⟨h1,h2⟩:=ih out h
   refine⟨h1,fun x=> ?_⟩
   rw[h2]
   constructor
   ·rintro(h|⟨p,h3,h4⟩)
    ·exact Or.inl h
    ·exact Or.inr ⟨p,by simp[h3],h4⟩
   ·rintro(h|⟨p,h3,h4⟩)
    ·exact Or.inl h
    ·rcases List.mem_cons.1 h3 with rfl|h3
     ·exact absurd h4.1 hc
     ·exact Or.inr ⟨p,h3,h4⟩
theorem yY (p c:Q4) (h:cI p):sd (dG p) c=0↔sd p c=0:=by
 have hp:=FJ p.1 p.2.1 p.2.2.1 p.2.2.2 h.2
 have e1:=Int.mul_ediv_cancel' (aY [p.1,p.2.1,p.2.2.1,p.2.2.2] p.1 (by simp))
 have e2:=Int.mul_ediv_cancel' (aY [p.1,p.2.1,p.2.2.1,p.2.2.2] p.2.1 (by simp))
 have e3:=Int.mul_ediv_cancel' (aY [p.1,p.2.1,p.2.2.1,p.2.2.2] p.2.2.1 (by simp))
 have e4:=Int.mul_ediv_cancel' (aY [p.1,p.2.1,p.2.2.1,p.2.2.2] p.2.2.2 (by simp))
 have hs:slk p (xyz c) c.2.2.2=(aU [p.1,p.2.1,p.2.2.1,p.2.2.2]:Int)*slk (dG p) (xyz c) c.2.2.2:=by
  unfold slk bj nrm dG
  simp only
  generalize aU [p.1,p.2.1,p.2.2.1,p.2.2.2]=g at*
  generalize p.1 / (g:Int)=a at*
  generalize p.2.1 / (g:Int)=b at*
  generalize p.2.2.1 / (g:Int)=c' at*
  generalize p.2.2.2 / (g:Int)=d at*
  rw[←e1, ←e2, ←e3, ←e4]
  grind
 rw[mt,mt,dq,dq,hs]
 have hg:(aU [p.1,p.2.1,p.2.2.1,p.2.2.2]:Int)≠0:=by omega
 constructor
 ·intro h;rw[←h];simp
 ·intro h
  exact((Int.mul_eq_zero.1 h.symm).resolve_left hg).symm
theorem xF (ps:List Q4) (hp:∀p∈ps,cI p):ch ps=iS ps:=by
 have hp':∀p∈ps,bI p:=fun p h=>(hp p h).1
 obtain⟨h1,h2⟩:=oe (dQ ps) ps [] List.Pairwise.nil
 obtain⟨r1,r2⟩:=lf ps
 refine jb h1 (gN _ _) (fun x=> ?_)
 unfold iS
 rw[ch,h2,Sq]
 have hc:∀p∈ps,(3≤cQ (dG p) (dQ ps)↔onB (aS ps) p=true):=fun p hpp=>by
  rw[mw r1 (fV ps hp') (fun x=>by rw[r2,fe])]
  unfold onB cQ
  rw[decide_eq_true_eq]
  have:(fun c=>decide (sd (dG p) c=0))=(fun c=>decide (sd p c=0)):=by
   funext c
   exact decide_eq_decide.2 (yY p c (hp p hpp))
  rw[this]
 constructor
 ·rintro(h|⟨p,h3,h4,h5⟩)
  ·cases h
  ·exact⟨p,h3,(hc p h3).1 h4,h5⟩
 ·rintro⟨p,h3,h4,h5⟩
  exact Or.inr ⟨p,h3,(hc p h3).2 h4,h5⟩
end
section
open Go.RowKit Go.Shelf
attribute [local go_sem] Ext.cell Ext.frozen
theorem jF (a b:Int) (w:World) (ha: -1000000000000000≤a∧a≤1000000000000000) (hb: -1000000000000000≤b∧b≤1000000000000000):
  Calls Tryz.prog 98 #[.int .i64 a, .int .i64 b] w (Ret w (.int .i64 (Nat.gcd a.natAbs b.natAbs:Nat))):=by
 have h1:=fun W'=>Lib.hid (sj a W' ha)
 have h2:=fun W'=>Lib.hid (sj b W' hb)
 obtain⟨m,hm⟩:∃m,a.natAbs=m:=⟨_,rfl⟩
 obtain⟨n,hn⟩:∃n,b.natAbs=n:=⟨_,rfl⟩
 have hm':m≤1000000000000000:=by omega
 have hn':n≤1000000000000000:=by omega
 rw[hm]at h1 ⊢
 rw[hn]at h2 ⊢
 clear hm hn ha hb
 go_enter Tryz.func98,Tryz.ntmps98
 go_wp2_with fail
 refine((h1 _).out).mono ?_
 rintro e w1 ⟨rfl,rfl⟩
 go_wp2_with fail
 refine((h2 _).out).mono ?_
 rintro e w2 ⟨rfl,rfl⟩
 go_wp2
 go_loopw [0,1] (fun x y wr=>∃p q:Nat,p≤1000000000000000∧q≤1000000000000000∧x= .int .i64 p∧y= .int .i64 q∧Hid (Nat.gcd m n=Nat.gcd p q)∧Below w.heap.size w wr) (fun _ y _=>(intOf y).toNat)
 case atStart=>exact⟨m,n,hm',hn',rfl,rfl,Lib.hid rfl,Below.refl _ _⟩
 case round=>
  obtain⟨p,q,hp,hq,rfl,rfl,Hr,hb⟩:=hrel
  by_cases hz:0<q
  ·go_wp2
   go_quiet (fail)
   go_wp2
   go_roundw
   case rel=>exact⟨q,p % q,hq,by have:=Nat.mod_lt p hz;omega,by go_num,by go_num,Lib.hid (by rw[oK];exact Hr.out),hb.drewN' _⟩
   case measure=>simp[intOf];have:=Nat.mod_lt p hz;omega
  ·obtain rfl:q=0:=by omega
   go_wp2
   go_ret
   exact⟨aK (by rw[Hr.out];simp),hb⟩
theorem KP (a b c d:Int):Nat.gcd (Int.natAbs ((Nat.gcd a.natAbs b.natAbs:Nat):Int)) (Int.natAbs ((Nat.gcd c.natAbs d.natAbs:Nat):Int))=aU [a,b,c,d]:=by
 simp[aU,Nat.gcd_assoc]
theorem lH {a b:Int} {B:Nat} (h:b.natAbs≤B) (h0:a.natAbs≤B):Nat.gcd a.natAbs b.natAbs≤B:=by
 by_cases hz:b.natAbs=0
 ·rw[hz];simpa using h0
 ·exact Nat.le_trans (Nat.gcd_le_right _ (by omega)) h
set_option maxRecDepth 100000 in
theorem pF (a b c d:Int) (w:World) (ha: -10000000≤a∧a≤10000000) (hb: -10000000≤b∧b≤10000000) (hc: -10000000≤c∧c≤10000000) (hd: -10000000≤d∧d≤10000000) (h0:a≠0∨b≠0∨c≠0):
  Calls Tryz.prog 61 #[V4 a b c d] w (Ret w (V4 (dG (a,b,c,d)).1 (dG (a,b,c,d)).2.1 (dG (a,b,c,d)).2.2.1 (dG (a,b,c,d)).2.2.2)):=by
 have hp:=FJ a b c d h0
 have hle:=jl 10000000000 a b c d (by omega) (by omega) (by omega) (by omega)
 have e1:=Lib.hid (bH (aY [a,b,c,d] a (by simp)))
 have e2:=Lib.hid (bH (aY [a,b,c,d] b (by simp)))
 have e3:=Lib.hid (bH (aY [a,b,c,d] c (by simp)))
 have e4:=Lib.hid (bH (aY [a,b,c,d] d (by simp)))
 have Hp:Hid (dG (a,b,c,d)=(a / aU [a,b,c,d],b / aU [a,b,c,d],c / aU [a,b,c,d],d / aU [a,b,c,d])):=Lib.hid rfl
 have t1:=bZ (g:=aU [a,b,c,d]) ha
 have t2:=bZ (g:=aU [a,b,c,d]) hb
 have t3:=bZ (g:=aU [a,b,c,d]) hc
 have t4:=bZ (g:=aU [a,b,c,d]) hd
 have l1:Nat.gcd a.natAbs b.natAbs≤10000000:=lH (by omega) (by omega)
 have l2:Nat.gcd c.natAbs d.natAbs≤10000000:=lH (by omega) (by omega)
 have HG:Hid (Nat.gcd (Nat.gcd a.natAbs b.natAbs) (Nat.gcd c.natAbs d.natAbs)=aU [a,b,c,d]):=Lib.hid (by simpa using KP a b c d)
 generalize dG (a,b,c,d)=r at*
 generalize aU [a,b,c,d]=g at*
 go_enter Tryz.func61,Tryz.ntmps61
 go_wp2
 refine wqb ?_
 repeat(first|go_big_quiet_step ((go_at_call 98;exact aE (jF _ _ _ (by omega) (by omega))))|quiet_step ((go_at_call 98;exact aE (jF _ _ _ (by omega) (by omega)))))
 refine wqn fun u=> ?_
 simp only[Int.natAbs_natCast]
 rw[HG.out]
 have hw1:Below w.heap.size w u.val:=fB bel u.below
 have HA:=Lib.hid ((u.below.block w.heap.size (by simp;omega)).trans ((aB (by simp)).trans (ai rfl)))
 have HB:=Lib.hid ((u.below.block (w.heap.size+1) (by simp)).trans (ai (by simp)))
 generalize u.val=w1 at*
 clear u
 have c0:=(ag HA.out 0).trans rfl
 have c1:=(ag HA.out 1).trans rfl
 have c2:=(ag HA.out 2).trans rfl
 have c3:=(ag HA.out 3).trans rfl
 have d0:=(ag HB.out 0).trans rfl
 have d1:=(ag HB.out 1).trans rfl
 have d2:=(ag HB.out 2).trans rfl
 have d3:=(ag HB.out 3).trans rfl
 simp only[List.getElem?_toArray,List.getElem?_cons_zero,List.getElem?_cons_succ]at c0 c1 c2 c3 d0 d1 d2 d3
 have f0:=aC HB.out
 have z0:=ah HA.out
 have z1:=ah HB.out
 go_wp2
 refine aQ 17 (by kernel_rfl) (by kernel_rfl) ?_
 simp only[List.take_succ_cons,List.take_zero,List.drop_succ_cons,List.drop_zero]
 repeat(first|go_big_quiet_step (fail)|quiet_step (fail))
 refine wpQuiet_nil ?_
 rintro _ ⟨u,rfl⟩
 go_wp2
 refine bodyPost_ret (v:=V4 (a.tdiv g) (b.tdiv g) (c.tdiv g) (d.tdiv g)) (by simp[results,Tryz.results61,go_sem,z1,d0,d1,d2,d3]) rfl ⟨?_, ?_⟩
 ·rw[Hp.out,e1.out,e2.out,e3.out,e4.out]
 ·exact bel
theorem mU (a b c d a' b' c' d':Int) (w:World):
  Calls Tryz.prog 63 #[V4 a b c d,V4 a' b' c' d'] w (Ret w (.bool (decide (bD (a,b,c,d) (a',b',c',d')<0)))):=by
 have He:Hid (decide (bD (a,b,c,d) (a',b',c',d')<0)=decide (a<a'∨(a=a'∧(b<b'∨(b=b'∧(c<c'∨(c=c'∧d<d'))))))):=Lib.hid (by
  rw[decide_eq_decide,dx])
 rw[He.out]
 clear He
 by_cases ha:a=a'
 ·subst ha
  by_cases hb:b=b'
  ·subst hb
   by_cases hc:c=c'
   ·subst hc
    go_enter Tryz.func63,Tryz.ntmps63
    go_wp2
    go_ret
    exact⟨ay (by simp),bel⟩
   ·have hc':(c !=c')=true:=by simpa using hc
    go_enter Tryz.func63,Tryz.ntmps63
    go_wp2
    go_ret
    exact⟨ay (by simp[hc]),bel⟩
  ·have hb':(b !=b')=true:=by simpa using hb
   go_enter Tryz.func63,Tryz.ntmps63
   go_wp2
   go_ret
   exact⟨ay (by simp[hb]),bel⟩
 ·have ha':(a !=a')=true:=by simpa using ha
  go_enter Tryz.func63,Tryz.ntmps63
  go_wp2
  go_ret
  exact⟨ay (by simp[ha]),bel⟩
theorem NN (a b c d:Int) (w:World):Calls Tryz.prog 99 #[V4 a b c d] w (Ret w (V3 a b c)):=by
 go_enter Tryz.func99,Tryz.ntmps99
 go_wp2
 refine bodyPost_ret (v:=V3 a b c) (by simp[results,Tryz.results99,go_sem]) rfl ⟨rfl, ?_⟩
 exact bel
theorem eG (a b c x y z:Int) (w:World) (ha: -8≤a∧a≤8) (hb: -8≤b∧b≤8) (hc: -8≤c∧c≤8) (hx: -8≤x∧x≤8) (hy: -8≤y∧y≤8) (hz: -8≤z∧z≤8):
  Calls Tryz.prog 101 #[V3 a b c,V3 x y z] w (Ret w (V3 (b*z-c*y) (c*x-a*z) (a*y-b*x))):=by
 have h1:=aJ hb.1 hb.2 hz.1 hz.2
 have h2:=aJ hc.1 hc.2 hy.1 hy.2
 have h3:=aJ hc.1 hc.2 hx.1 hx.2
 have h4:=aJ ha.1 ha.2 hz.1 hz.2
 have h5:=aJ ha.1 ha.2 hy.1 hy.2
 have h6:=aJ hb.1 hb.2 hx.1 hx.2
 clear ha hb hc hx hy hz
 simp only[Int.reduceMul,Int.reduceNeg]at h1 h2 h3 h4 h5 h6
 go_enter Tryz.func101,Tryz.ntmps101
 go_wp2
 refine bodyPost_ret (v:=V3 (b*z-c*y) (c*x-a*z) (a*y-b*x)) (by simp[results,Tryz.results101,go_sem]) rfl ⟨rfl, ?_⟩
 exact bel
theorem pG (a b c x y z:Int) (w:World) (ha: -8≤a∧a≤8) (hb: -8≤b∧b≤8) (hc: -8≤c∧c≤8) (hx: -128≤x∧x≤128) (hy: -128≤y∧y≤128) (hz: -128≤z∧z≤128):
  Calls Tryz.prog 100 #[V3 a b c,V3 x y z] w (Ret w (.int .i64 (a*x+b*y+c*z))):=by
 have h1:=aJ ha.1 ha.2 hx.1 hx.2
 have h2:=aJ hb.1 hb.2 hy.1 hy.2
 have h3:=aJ hc.1 hc.2 hz.1 hz.2
 clear ha hb hc hx hy hz
 simp only[Int.reduceMul,Int.reduceNeg]at h1 h2 h3
 go_enter Tryz.func100,Tryz.ntmps100
 go_wp2
 go_ret
 exact⟨rfl,bel⟩
end
section
open Go.RowKit Go.Shelf
def tB (w:World) (g:Nat) (a b c d:Value):World:=(((w.setCell ⟨g,0,none⟩ a).setCell ⟨g,1,none⟩ b).setCell ⟨g,2,none⟩ c).setCell ⟨g,3,none⟩ d
theorem pI {w:World} {g:Nat} {x y z u:Value} {T:TypeId} (h:w.heap[g]? =some (.cells #[x,y,z,u] T (0,0))) (a b c d:Value):(tB w g a b c d).heap[g]? =some (.cells #[a,b,c,d] T (0,0)):=by
 have:=dP (dP (dP (dP h 0 a) 1 b) 2 c) 3 d
 unfold tB
 simpa using this
end
section
open Go.RowKit Go.Shelf
set_option maxRecDepth 100000
attribute [local go_sem] Ext.cell Ext.frozen
theorem vA (p q r:Q4):p.1*(q.2.1*r.2.2.1-q.2.2.1*r.2.1)+p.2.1*(q.2.2.1*r.1-q.1*r.2.2.1)+p.2.2.1*(q.1*r.2.1-q.2.1*r.1)=bN p q r:=by
 unfold bN bj aN nrm
 grind
structure PB (N ga gb gc:Nat) (p0 p1 p2 pd q0 q1 q2 qd r0 r1 r2 rd:Int) (X:World):Prop where
 P:X.heap[N]? =some (.cells #[.int .i64 p0, .int .i64 p1, .int .i64 p2, .int .i64 pd] 127 (0,0))
 Q:X.heap[N+1]? =some (.cells #[.int .i64 q0, .int .i64 q1, .int .i64 q2, .int .i64 qd] 127 (0,0))
 R:X.heap[N+1+1]? =some (.cells #[.int .i64 r0, .int .i64 r1, .int .i64 r2, .int .i64 rd] 127 (0,0))
 O:X.heap[N+1+1+1]? =some (.cells #[.int .i64 0, .int .i64 0, .int .i64 0, .int .i64 0] 131 (0,0))
 A:X.heap[ga]? =some (.cells #[.int .i64 p0, .int .i64 p1, .int .i64 p2] 104 (0,0))
 B:X.heap[gb]? =some (.cells #[.int .i64 q0, .int .i64 q1, .int .i64 q2] 104 (0,0))
 C:X.heap[gc]? =some (.cells #[.int .i64 r0, .int .i64 r1, .int .i64 r2] 104 (0,0))
theorem PB.below {N ga gb gc:Nat} {p0 p1 p2 pd q0 q1 q2 qd r0 r1 r2 rd:Int} {X Y:World} (h:PB N ga gb gc p0 p1 p2 pd q0 q1 q2 qd r0 r1 r2 rd X) (hb:Below X.heap.size X Y):PB N ga gb gc p0 p1 p2 pd q0 q1 q2 qd r0 r1 r2 rd Y:=
 ⟨(hb.block _ (ah h.P)).trans h.P,(hb.block _ (ah h.Q)).trans h.Q,(hb.block _ (ah h.R)).trans h.R,(hb.block _ (ah h.O)).trans h.O,(hb.block _ (ah h.A)).trans h.A,(hb.block _ (ah h.B)).trans h.B,(hb.block _ (ah h.C)).trans h.C⟩
theorem pJ (p q r:Q4) (w:World) (hp:bI p) (hq:bI q) (hr:bI r) (h0:bN p q r=0):
  Calls Tryz.prog 64 #[v4 p,v4 q,v4 r] w (Ret w (.tuple #[v4 (0,0,0,0), .bool false])):=by
 have He:=vA p q r
 rw[h0]at He
 clear h0
 obtain⟨p0,p1,p2,pd⟩:=p
 obtain⟨q0,q1,q2,qd⟩:=q
 obtain⟨r0,r1,r2,rd⟩:=r
 simp only[bI]at hp hq hr
 have b0:=aL hq.2.1 hq.2.2.1 hr.2.1 hr.2.2.1
 have b1:=aL hq.2.2.1 hq.1 hr.2.2.1 hr.1
 have b2:=aL hq.1 hq.2.1 hr.1 hr.2.1
 have hC:=fun W'=>Lib.hid (eG q0 q1 q2 r0 r1 r2 W' (by omega) (by omega) (by omega) (by omega) (by omega) (by omega))
 have hC2:=fun W'=>Lib.hid (eG r0 r1 r2 p0 p1 p2 W' (by omega) (by omega) (by omega) (by omega) (by omega) (by omega))
 have hC3:=fun W'=>Lib.hid (eG p0 p1 p2 q0 q1 q2 W' (by omega) (by omega) (by omega) (by omega) (by omega) (by omega))
 have hD:=fun W'=>Lib.hid (pG p0 p1 p2 (q1*r2-q2*r1) (q2*r0-q0*r2) (q0*r1-q1*r0) W' (by omega) (by omega) (by omega) b0 b1 b2)
 simp only at He
 rw[He]at hD
 clear hp hq hr b0 b1 b2 He hC2 hC3
 obtain⟨V,HV⟩:∃V,Hid ((((w.alloc (.cells #[.int .i64 p0, .int .i64 p1, .int .i64 p2, .int .i64 pd] 127)).alloc (.cells #[.int .i64 q0, .int .i64 q1, .int .i64 q2, .int .i64 qd] 127)).alloc (.cells #[.int .i64 r0, .int .i64 r1, .int .i64 r2, .int .i64 rd] 127)).alloc (.cells #[.int .i64 0, .int .i64 0, .int .i64 0, .int .i64 0] 131)=V):=⟨_,Lib.hid rfl⟩
 have hV:Below w.heap.size w V:=by rw[←HV.out];exact bel
 have BP:Hid (V.heap[w.heap.size]? =some (.cells #[.int .i64 p0, .int .i64 p1, .int .i64 p2, .int .i64 pd] 127 (0,0))):=Lib.hid (by rw[←HV.out];exact(aB (by simp<;>omega)).trans ((aB (by simp<;>omega)).trans ((aB (by simp)).trans (ai rfl))))
 have BQ:Hid (V.heap[w.heap.size+1]? =some (.cells #[.int .i64 q0, .int .i64 q1, .int .i64 q2, .int .i64 qd] 127 (0,0))):=Lib.hid (by rw[←HV.out];exact(aB (by simp<;>omega)).trans ((aB (by simp)).trans (ai (by simp))))
 have BR:Hid (V.heap[w.heap.size+1+1]? =some (.cells #[.int .i64 r0, .int .i64 r1, .int .i64 r2, .int .i64 rd] 127 (0,0))):=Lib.hid (by rw[←HV.out];exact(aB (by simp)).trans (ai (by simp)))
 have BO:Hid (V.heap[w.heap.size+1+1+1]? =some (.cells #[.int .i64 0, .int .i64 0, .int .i64 0, .int .i64 0] 131 (0,0))):=Lib.hid (by rw[←HV.out];exact ai (by simp))
 go_enter Tryz.func64,Tryz.ntmps64
 go_wp2
 rw[HV.out]
 clear HV
 have xp0:=(ag BP.out 0).trans rfl
 have xp1:=(ag BP.out 1).trans rfl
 have xp2:=(ag BP.out 2).trans rfl
 have xp3:=(ag BP.out 3).trans rfl
 simp only[List.getElem?_toArray,List.getElem?_cons_zero,List.getElem?_cons_succ]at xp0 xp1 xp2 xp3
 have xpz:=ah BP.out
 have xpf:=aC BP.out
 have xq0:=(ag BQ.out 0).trans rfl
 have xq1:=(ag BQ.out 1).trans rfl
 have xq2:=(ag BQ.out 2).trans rfl
 have xq3:=(ag BQ.out 3).trans rfl
 simp only[List.getElem?_toArray,List.getElem?_cons_zero,List.getElem?_cons_succ]at xq0 xq1 xq2 xq3
 have xqz:=ah BQ.out
 have xqf:=aC BQ.out
 have xr0:=(ag BR.out 0).trans rfl
 have xr1:=(ag BR.out 1).trans rfl
 have xr2:=(ag BR.out 2).trans rfl
 have xr3:=(ag BR.out 3).trans rfl
 simp only[List.getElem?_toArray,List.getElem?_cons_zero,List.getElem?_cons_succ]at xr0 xr1 xr2 xr3
 have xrz:=ah BR.out
 have xrf:=aC BR.out
 refine fk [0,1,2,3,4,5,6,7,8] 9 [10,11] (pick [IsV (V4 p0 p1 p2 pd),IsV (V3 p0 p1 p2),IsV (V4 q0 q1 q2 qd),IsV (V3 q0 q1 q2),IsV (V4 r0 r1 r2 rd),IsV (V3 r0 r1 r2),yd V.heap.size 104 #[.int .i64 0, .int .i64 0, .int .i64 0],yd V.heap.size 104 #[.int .i64 0, .int .i64 0, .int .i64 0],yd V.heap.size 104 #[.int .i64 0, .int .i64 0, .int .i64 0]]) (tA [6,7,8]) (xG [6,7,8]) (kq (by simp only[List.mem_cons,List.not_mem_nil,or_false,forall_eq_or_imp,forall_eq];exact⟨jG,jG,jG⟩)) (by kernel_rfl) (by kernel_rfl) (Stabs.pick (by repeat(first|exact Stabs.nil|refine Stabs.cons (by first|exact jc _|exact ar _ _ _) ?_))) ?_
 try go_frame
 refine fW rfl rfl (by simp) (fun w' hb' hR K hK=> ?_) (fun o0=> ?_)
 ·clear hR
  have y0:=ab hb' xp0
  have y1:=ab hb' xp1
  have y2:=ab hb' xp2
  have y3:=ab hb' xp3
  have yz:=Nat.lt_of_lt_of_le xpz hb'.size
  go_simp
  exact hK _ _ brf rfl
 try go_frame
 refine fW rfl rfl (by simp) (fun w' hb' hR K hK=> ?_) (fun o1=> ?_)
 ·obtain rfl:o0=V4 p0 p1 p2 pd:=hR 0 (by kernel_rfl)
  clear hR
  go_simp
  refine(NN p0 p1 p2 pd _).mono ?_
  rintro e w1 ⟨rfl,hb1⟩
  exact hK _ _ hb1 rfl
 try go_frame
 refine fW rfl rfl (by simp) (fun w' hb' hR K hK=> ?_) (fun o2=> ?_)
 ·clear hR
  have y0:=ab hb' xq0
  have y1:=ab hb' xq1
  have y2:=ab hb' xq2
  have y3:=ab hb' xq3
  have yz:=Nat.lt_of_lt_of_le xqz hb'.size
  go_simp
  exact hK _ _ brf rfl
 try go_frame
 refine fW rfl rfl (by simp) (fun w' hb' hR K hK=> ?_) (fun o3=> ?_)
 ·obtain rfl:o2=V4 q0 q1 q2 qd:=hR 2 (by kernel_rfl)
  clear hR
  go_simp
  refine(NN q0 q1 q2 qd _).mono ?_
  rintro e w1 ⟨rfl,hb1⟩
  exact hK _ _ hb1 rfl
 try go_frame
 refine fW rfl rfl (by simp) (fun w' hb' hR K hK=> ?_) (fun o4=> ?_)
 ·clear hR
  have y0:=ab hb' xr0
  have y1:=ab hb' xr1
  have y2:=ab hb' xr2
  have y3:=ab hb' xr3
  have yz:=Nat.lt_of_lt_of_le xrz hb'.size
  go_simp
  exact hK _ _ brf rfl
 try go_frame
 refine fW rfl rfl (by simp) (fun w' hb' hR K hK=> ?_) (fun o5=> ?_)
 ·obtain rfl:o4=V4 r0 r1 r2 rd:=hR 4 (by kernel_rfl)
  clear hR
  go_simp
  refine(NN r0 r1 r2 rd _).mono ?_
  rintro e w1 ⟨rfl,hb1⟩
  exact hK _ _ hb1 rfl
 try go_frame
 refine wgf rfl rfl (by simp) (fun w' hb' hR K hK=> ?_) (fun o6=> ?_)
 ·clear hR
  have zz:=hb'.size
  go_simp
  exact hK _ _ bel ⟨_,rfl,zz,ai rfl⟩ (fun _=>rfl)
 try go_frame
 refine wgf rfl rfl (by simp) (fun w' hb' hR K hK=> ?_) (fun o7=> ?_)
 ·clear hR
  have zz:=hb'.size
  go_simp
  exact hK _ _ bel ⟨_,rfl,zz,ai rfl⟩ (fun _=>rfl)
 try go_frame
 refine wgf rfl rfl (by simp) (fun w' hb' hR K hK=> ?_) (fun o8=> ?_)
 ·clear hR
  have zz:=hb'.size
  go_simp
  exact hK _ _ bel ⟨_,rfl,zz,ai rfl⟩ (fun _=>rfl)
 try go_frame
 refine my (fun w' hb' hR hS=> ?_)
 obtain rfl:o1=V3 p0 p1 p2:=hR 1 (by simp)
 obtain rfl:o3=V3 q0 q1 q2:=hR 3 (by simp)
 obtain rfl:o5=V3 r0 r1 r2:=hR 5 (by simp)
 obtain⟨ga,rfl,hga,hA⟩:yd V.heap.size 104 #[.int .i64 0, .int .i64 0, .int .i64 0] o6 w':=hR 6 (by simp)
 obtain⟨gb,rfl,hgb,hB⟩:yd V.heap.size 104 #[.int .i64 0, .int .i64 0, .int .i64 0] o7 w':=hR 7 (by simp)
 obtain⟨gc,rfl,hgc,hC'⟩:yd V.heap.size 104 #[.int .i64 0, .int .i64 0, .int .i64 0] o8 w':=hR 8 (by simp)
 have nab:ga≠gb:=fun e=>hS 6 (by simp) 7 (by simp) (by decide) (by decide) (by decide) (by rw[e];rfl)
 have nac:ga≠gc:=fun e=>hS 6 (by simp) 8 (by simp) (by decide) (by decide) (by decide) (by rw[e];rfl)
 have nbc:gb≠gc:=fun e=>hS 7 (by simp) 8 (by simp) (by decide) (by decide) (by decide) (by rw[e];rfl)
 have HA:=Lib.hid hA
 have HB:=Lib.hid hB
 have HC:=Lib.hid hC'
 clear hR hS hA hB hC' xp0 xp1 xp2 xp3 xpz xpf xq0 xq1 xq2 xq3 xqz xqf xr0 xr1 xr2 xr3 xrz xrf
 obtain⟨a0,a1,a2,af,az⟩:=NO HA.out
 obtain⟨b0',b1',b2',bf,bz⟩:=NO HB.out
 obtain⟨c0,c1,c2,cf,cz⟩:=NO HC.out
 obtain⟨X,HX⟩:∃X,Hid (jd (jd (jd w' ga (.int .i64 p0) (.int .i64 p1) (.int .i64 p2)) gb (.int .i64 q0) (.int .i64 q1) (.int .i64 q2)) gc (.int .i64 r0) (.int .i64 r1) (.int .i64 r2)=X):=⟨_,Lib.hid rfl⟩
 have zV:=ah BO.out
 have hVX:Below V.heap.size V X:=by
  rw[←HX.out]
  exact dt (dt (dt hb' hga _ _ _) hgb _ _ _) hgc _ _ _
 have HPB:Hid (PB w.heap.size ga gb gc p0 p1 p2 pd q0 q1 q2 qd r0 r1 r2 rd X):=Lib.hid (by
  refine⟨(hVX.block _ (ah BP.out)).trans BP.out,(hVX.block _ (ah BQ.out)).trans BQ.out,(hVX.block _ (ah BR.out)).trans BR.out,(hVX.block _ (ah BO.out)).trans BO.out, ?_, ?_, ?_⟩
  ·rw[←HX.out]
   exact(cE nac _ _ _).trans ((cE nab _ _ _).trans (eh HA.out _ _ _))
  ·rw[←HX.out]
   exact(cE nbc _ _ _).trans (eh ((cE nab.symm _ _ _).trans HB.out) _ _ _)
  ·rw[←HX.out]
   exact eh ((cE nbc.symm _ _ _).trans ((cE nac.symm _ _ _).trans HC.out)) _ _ _)
 have eX:((((((((w'.setCell ⟨ga,0,none⟩ (.int .i64 p0)).setCell ⟨ga,1,none⟩ (.int .i64 p1)).setCell ⟨ga,2,none⟩ (.int .i64 p2)).setCell ⟨gb,0,none⟩ (.int .i64 q0)).setCell ⟨gb,1,none⟩ (.int .i64 q1)).setCell ⟨gb,2,none⟩ (.int .i64 q2)).setCell ⟨gc,0,none⟩ (.int .i64 r0)).setCell ⟨gc,1,none⟩ (.int .i64 r1)).setCell ⟨gc,2,none⟩ (.int .i64 r2)=X:=HX.out
 simp only[oas]
 go_wp2
 refine NoPanic.normal ?_
 try rw[eX]
 clear eX HX HA HB HC a0 a1 a2 af az b0' b1' b2' bf bz c0 c1 c2 cf cz BP BQ BR BO nab nac nbc hb'
 obtain⟨a0,a1,a2,_,az⟩:=NO HPB.out.A
 obtain⟨b0',b1',b2',_,bz⟩:=NO HPB.out.B
 obtain⟨c0,c1,c2,_,cz⟩:=NO HPB.out.C
 go_wp2
 refine wqb ?_
 repeat(first|go_big_quiet_step ((first|(go_at_call 101;exact aE ((hC _).out))|(go_at_call 100;exact aE ((hD _).out))))|quiet_step ((first|(go_at_call 101;exact aE ((hC _).out))|(go_at_call 100;exact aE ((hD _).out)))))
 refine wqn fun u=> ?_
 have HU:=Lib.hid (HPB.out.below u.below)
 have hVu:Below V.heap.size V u.val:=fB hVX u.below
 clear HPB hVX a0 a1 a2 az b0' b1' b2' bz c0 c1 c2 cz
 generalize u.val=X1 at*
 clear u
 have BO3:=Lib.hid HU.out.O
 have hw:Below w.heap.size w X1:=fB hV hVu
 have o0:=(ag BO3.out 0).trans rfl
 have o1:=(ag BO3.out 1).trans rfl
 have o2:=(ag BO3.out 2).trans rfl
 have o3:=(ag BO3.out 3).trans rfl
 simp only[List.getElem?_toArray,List.getElem?_cons_zero,List.getElem?_cons_succ]at o0 o1 o2 o3
 have oz:=ah BO3.out
 have of:=aC BO3.out
 go_wp2
 refine bodyPost_ret (v:= .tuple #[v4 (0,0,0,0), .bool false]) (by simp[results,Tryz.results64,go_sem,o0,o1,o2,o3,oz]) rfl ⟨rfl, ?_⟩
 exact Below.setCell (Below.setCell (Below.setCell (Below.setCell hw (by dsimp only;omega) _) (by dsimp only;omega) _) (by dsimp only;omega) _) (by dsimp only;omega) _
structure PX (g N gx gy gz:Nat) (p0 p1 p2 pd q0 q1 q2 qd r0 r1 r2 rd n0 n1 n2 n3 n4 n5 n6 n7 n8:Int) (X:World):Prop where
 P:X.heap[N]? =some (.cells #[.int .i64 p0, .int .i64 p1, .int .i64 p2, .int .i64 pd] 127 (0,0))
 Q:X.heap[N+1]? =some (.cells #[.int .i64 q0, .int .i64 q1, .int .i64 q2, .int .i64 qd] 127 (0,0))
 R:X.heap[N+1+1]? =some (.cells #[.int .i64 r0, .int .i64 r1, .int .i64 r2, .int .i64 rd] 127 (0,0))
 O:X.heap[N+1+1+1]? =some (.cells #[.int .i64 0, .int .i64 0, .int .i64 0, .int .i64 0] 131 (0,0))
 A:X.heap[gx]? =some (.cells #[.int .i64 n0, .int .i64 n1, .int .i64 n2] 104 (0,0))
 B:X.heap[gy]? =some (.cells #[.int .i64 n3, .int .i64 n4, .int .i64 n5] 104 (0,0))
 C:X.heap[gz]? =some (.cells #[.int .i64 n6, .int .i64 n7, .int .i64 n8] 104 (0,0))
 lt:N+1+1+1<g∧gx<g∧gy<g∧gz<g
theorem PX.below {g N gx gy gz:Nat} {p0 p1 p2 pd q0 q1 q2 qd r0 r1 r2 rd n0 n1 n2 n3 n4 n5 n6 n7 n8:Int} {X Y:World} (h:PX g N gx gy gz p0 p1 p2 pd q0 q1 q2 qd r0 r1 r2 rd n0 n1 n2 n3 n4 n5 n6 n7 n8 X) (hb:Below g X Y):PX g N gx gy gz p0 p1 p2 pd q0 q1 q2 qd r0 r1 r2 rd n0 n1 n2 n3 n4 n5 n6 n7 n8 Y:=by
 have:=h.lt
 exact⟨(hb.block _ (by omega)).trans h.P,(hb.block _ (by omega)).trans h.Q,(hb.block _ (by omega)).trans h.R,(hb.block _ (by omega)).trans h.O,(hb.block _ (by omega)).trans h.A,(hb.block _ (by omega)).trans h.B,(hb.block _ (by omega)).trans h.C,h.lt⟩
theorem pL (p q r:Q4) (w:World) (hp:bI p) (hq:bI q) (hr:bI r) (h0:bN p q r≠0):
  Calls Tryz.prog 64 #[v4 p,v4 q,v4 r] w (Ret w (.tuple #[v4 (gk p q r (bN p q r)), .bool true])):=by
 have He:=vA p q r
 have hdb:=lV p q r hp hq hr
 generalize bN p q r=den at*
 obtain⟨p0,p1,p2,pd⟩:=p
 obtain⟨q0,q1,q2,qd⟩:=q
 obtain⟨r0,r1,r2,rd⟩:=r
 simp only[bI]at hp hq hr
 simp only at He
 have Hm:Hid (gk (p0,p1,p2,pd) (q0,q1,q2,qd) (r0,r1,r2,rd) den=eu (pd*(q1*r2-q2*r1)+qd*(r1*p2-r2*p1)+rd*(p1*q2-p2*q1)) (pd*(q2*r0-q0*r2)+qd*(r2*p0-r0*p2)+rd*(p2*q0-p0*q2)) (pd*(q0*r1-q1*r0)+qd*(r0*p1-r1*p0)+rd*(p0*q1-p1*q0)) den):=Lib.hid rfl
 have b0:=aL hq.2.1 hq.2.2.1 hr.2.1 hr.2.2.1
 have b1:=aL hq.2.2.1 hq.1 hr.2.2.1 hr.1
 have b2:=aL hq.1 hq.2.1 hr.1 hr.2.1
 have b3:=aL hr.2.1 hr.2.2.1 hp.2.1 hp.2.2.1
 have b4:=aL hr.2.2.1 hr.1 hp.2.2.1 hp.1
 have b5:=aL hr.1 hr.2.1 hp.1 hp.2.1
 have b6:=aL hp.2.1 hp.2.2.1 hq.2.1 hq.2.2.1
 have b7:=aL hp.2.2.1 hp.1 hq.2.2.1 hq.1
 have b8:=aL hp.1 hp.2.1 hq.1 hq.2.1
 have hC:=fun W'=>Lib.hid (eG q0 q1 q2 r0 r1 r2 W' (by omega) (by omega) (by omega) (by omega) (by omega) (by omega))
 have hC2:=fun W'=>Lib.hid (eG r0 r1 r2 p0 p1 p2 W' (by omega) (by omega) (by omega) (by omega) (by omega) (by omega))
 have hC3:=fun W'=>Lib.hid (eG p0 p1 p2 q0 q1 q2 W' (by omega) (by omega) (by omega) (by omega) (by omega) (by omega))
 have hD:=fun W'=>Lib.hid (pG p0 p1 p2 (q1*r2-q2*r1) (q2*r0-q0*r2) (q0*r1-q1*r0) W' (by omega) (by omega) (by omega) b0 b1 b2)
 rw[He]at hD
 clear He
 generalize gk (p0,p1,p2,pd) (q0,q1,q2,qd) (r0,r1,r2,rd) den=res at*
 generalize q1*r2-q2*r1=n0 at*
 generalize q2*r0-q0*r2=n1 at*
 generalize q0*r1-q1*r0=n2 at*
 generalize r1*p2-r2*p1=n3 at*
 generalize r2*p0-r0*p2=n4 at*
 generalize r0*p1-r1*p0=n5 at*
 generalize p1*q2-p2*q1=n6 at*
 generalize p2*q0-p0*q2=n7 at*
 generalize p0*q1-p1*q0=n8 at*
 have D0: -1280000000≤pd*n0∧pd*n0≤1280000000:=aJ hp.2.2.2.1 hp.2.2.2.2 b0.1 b0.2
 have D1: -1280000000≤pd*n1∧pd*n1≤1280000000:=aJ hp.2.2.2.1 hp.2.2.2.2 b1.1 b1.2
 have D2: -1280000000≤pd*n2∧pd*n2≤1280000000:=aJ hp.2.2.2.1 hp.2.2.2.2 b2.1 b2.2
 have D3: -1280000000≤qd*n3∧qd*n3≤1280000000:=aJ hq.2.2.2.1 hq.2.2.2.2 b3.1 b3.2
 have D4: -1280000000≤qd*n4∧qd*n4≤1280000000:=aJ hq.2.2.2.1 hq.2.2.2.2 b4.1 b4.2
 have D5: -1280000000≤qd*n5∧qd*n5≤1280000000:=aJ hq.2.2.2.1 hq.2.2.2.2 b5.1 b5.2
 have D6: -1280000000≤rd*n6∧rd*n6≤1280000000:=aJ hr.2.2.2.1 hr.2.2.2.2 b6.1 b6.2
 have D7: -1280000000≤rd*n7∧rd*n7≤1280000000:=aJ hr.2.2.2.1 hr.2.2.2.2 b7.1 b7.2
 have D8: -1280000000≤rd*n8∧rd*n8≤1280000000:=aJ hr.2.2.2.1 hr.2.2.2.2 b8.1 b8.2
 clear b0 b1 b2 b3 b4 b5 b6 b7 b8 hp hq hr
 have hne:(den==0)=false:=by simpa using h0
 obtain⟨V,HV⟩:∃V,Hid ((((w.alloc (.cells #[.int .i64 p0, .int .i64 p1, .int .i64 p2, .int .i64 pd] 127)).alloc (.cells #[.int .i64 q0, .int .i64 q1, .int .i64 q2, .int .i64 qd] 127)).alloc (.cells #[.int .i64 r0, .int .i64 r1, .int .i64 r2, .int .i64 rd] 127)).alloc (.cells #[.int .i64 0, .int .i64 0, .int .i64 0, .int .i64 0] 131)=V):=⟨_,Lib.hid rfl⟩
 have hV:Below w.heap.size w V:=by rw[←HV.out];exact bel
 have BP:Hid (V.heap[w.heap.size]? =some (.cells #[.int .i64 p0, .int .i64 p1, .int .i64 p2, .int .i64 pd] 127 (0,0))):=Lib.hid (by rw[←HV.out];exact(aB (by simp<;>omega)).trans ((aB (by simp<;>omega)).trans ((aB (by simp)).trans (ai rfl))))
 have BQ:Hid (V.heap[w.heap.size+1]? =some (.cells #[.int .i64 q0, .int .i64 q1, .int .i64 q2, .int .i64 qd] 127 (0,0))):=Lib.hid (by rw[←HV.out];exact(aB (by simp<;>omega)).trans ((aB (by simp)).trans (ai (by simp))))
 have BR:Hid (V.heap[w.heap.size+1+1]? =some (.cells #[.int .i64 r0, .int .i64 r1, .int .i64 r2, .int .i64 rd] 127 (0,0))):=Lib.hid (by rw[←HV.out];exact(aB (by simp)).trans (ai (by simp)))
 have BO:Hid (V.heap[w.heap.size+1+1+1]? =some (.cells #[.int .i64 0, .int .i64 0, .int .i64 0, .int .i64 0] 131 (0,0))):=Lib.hid (by rw[←HV.out];exact ai (by simp))
 go_enter Tryz.func64,Tryz.ntmps64
 go_wp2
 rw[HV.out]
 clear HV
 have xp0:=(ag BP.out 0).trans rfl
 have xp1:=(ag BP.out 1).trans rfl
 have xp2:=(ag BP.out 2).trans rfl
 have xp3:=(ag BP.out 3).trans rfl
 simp only[List.getElem?_toArray,List.getElem?_cons_zero,List.getElem?_cons_succ]at xp0 xp1 xp2 xp3
 have xpz:=ah BP.out
 have xpf:=aC BP.out
 have xq0:=(ag BQ.out 0).trans rfl
 have xq1:=(ag BQ.out 1).trans rfl
 have xq2:=(ag BQ.out 2).trans rfl
 have xq3:=(ag BQ.out 3).trans rfl
 simp only[List.getElem?_toArray,List.getElem?_cons_zero,List.getElem?_cons_succ]at xq0 xq1 xq2 xq3
 have xqz:=ah BQ.out
 have xqf:=aC BQ.out
 have xr0:=(ag BR.out 0).trans rfl
 have xr1:=(ag BR.out 1).trans rfl
 have xr2:=(ag BR.out 2).trans rfl
 have xr3:=(ag BR.out 3).trans rfl
 simp only[List.getElem?_toArray,List.getElem?_cons_zero,List.getElem?_cons_succ]at xr0 xr1 xr2 xr3
 have xrz:=ah BR.out
 have xrf:=aC BR.out
 refine fk [0,1,2,3,4,5,6,7,8] 9 [10,11] (pick [IsV (V4 p0 p1 p2 pd),IsV (V3 p0 p1 p2),IsV (V4 q0 q1 q2 qd),IsV (V3 q0 q1 q2),IsV (V4 r0 r1 r2 rd),IsV (V3 r0 r1 r2),yd V.heap.size 104 #[.int .i64 0, .int .i64 0, .int .i64 0],yd V.heap.size 104 #[.int .i64 0, .int .i64 0, .int .i64 0],yd V.heap.size 104 #[.int .i64 0, .int .i64 0, .int .i64 0]]) (tA [6,7,8]) (xG [6,7,8]) (kq (by simp only[List.mem_cons,List.not_mem_nil,or_false,forall_eq_or_imp,forall_eq];exact⟨jG,jG,jG⟩)) (by kernel_rfl) (by kernel_rfl) (Stabs.pick (by repeat(first|exact Stabs.nil|refine Stabs.cons (by first|exact jc _|exact ar _ _ _) ?_))) ?_
 try go_frame
 refine fW rfl rfl (by simp) (fun w' hb' hR K hK=> ?_) (fun o0=> ?_)
 ·clear hR
  have y0:=ab hb' xp0
  have y1:=ab hb' xp1
  have y2:=ab hb' xp2
  have y3:=ab hb' xp3
  have yz:=Nat.lt_of_lt_of_le xpz hb'.size
  go_simp
  exact hK _ _ brf rfl
 try go_frame
 refine fW rfl rfl (by simp) (fun w' hb' hR K hK=> ?_) (fun o1=> ?_)
 ·obtain rfl:o0=V4 p0 p1 p2 pd:=hR 0 (by kernel_rfl)
  clear hR
  go_simp
  refine(NN p0 p1 p2 pd _).mono ?_
  rintro e w1 ⟨rfl,hb1⟩
  exact hK _ _ hb1 rfl
 try go_frame
 refine fW rfl rfl (by simp) (fun w' hb' hR K hK=> ?_) (fun o2=> ?_)
 ·clear hR
  have y0:=ab hb' xq0
  have y1:=ab hb' xq1
  have y2:=ab hb' xq2
  have y3:=ab hb' xq3
  have yz:=Nat.lt_of_lt_of_le xqz hb'.size
  go_simp
  exact hK _ _ brf rfl
 try go_frame
 refine fW rfl rfl (by simp) (fun w' hb' hR K hK=> ?_) (fun o3=> ?_)
 ·obtain rfl:o2=V4 q0 q1 q2 qd:=hR 2 (by kernel_rfl)
  clear hR
  go_simp
  refine(NN q0 q1 q2 qd _).mono ?_
  rintro e w1 ⟨rfl,hb1⟩
  exact hK _ _ hb1 rfl
 try go_frame
 refine fW rfl rfl (by simp) (fun w' hb' hR K hK=> ?_) (fun o4=> ?_)
 ·clear hR
  have y0:=ab hb' xr0
  have y1:=ab hb' xr1
  have y2:=ab hb' xr2
  have y3:=ab hb' xr3
  have yz:=Nat.lt_of_lt_of_le xrz hb'.size
  go_simp
  exact hK _ _ brf rfl
 try go_frame
 refine fW rfl rfl (by simp) (fun w' hb' hR K hK=> ?_) (fun o5=> ?_)
 ·obtain rfl:o4=V4 r0 r1 r2 rd:=hR 4 (by kernel_rfl)
  clear hR
  go_simp
  refine(NN r0 r1 r2 rd _).mono ?_
  rintro e w1 ⟨rfl,hb1⟩
  exact hK _ _ hb1 rfl
 try go_frame
 refine wgf rfl rfl (by simp) (fun w' hb' hR K hK=> ?_) (fun o6=> ?_)
 ·clear hR
  have zz:=hb'.size
  go_simp
  exact hK _ _ bel ⟨_,rfl,zz,ai rfl⟩ (fun _=>rfl)
 try go_frame
 refine wgf rfl rfl (by simp) (fun w' hb' hR K hK=> ?_) (fun o7=> ?_)
 ·clear hR
  have zz:=hb'.size
  go_simp
  exact hK _ _ bel ⟨_,rfl,zz,ai rfl⟩ (fun _=>rfl)
 try go_frame
 refine wgf rfl rfl (by simp) (fun w' hb' hR K hK=> ?_) (fun o8=> ?_)
 ·clear hR
  have zz:=hb'.size
  go_simp
  exact hK _ _ bel ⟨_,rfl,zz,ai rfl⟩ (fun _=>rfl)
 try go_frame
 refine my (fun w' hb' hR hS=> ?_)
 obtain rfl:o1=V3 p0 p1 p2:=hR 1 (by simp)
 obtain rfl:o3=V3 q0 q1 q2:=hR 3 (by simp)
 obtain rfl:o5=V3 r0 r1 r2:=hR 5 (by simp)
 obtain⟨ga,rfl,hga,hA⟩:yd V.heap.size 104 #[.int .i64 0, .int .i64 0, .int .i64 0] o6 w':=hR 6 (by simp)
 obtain⟨gb,rfl,hgb,hB⟩:yd V.heap.size 104 #[.int .i64 0, .int .i64 0, .int .i64 0] o7 w':=hR 7 (by simp)
 obtain⟨gc,rfl,hgc,hC'⟩:yd V.heap.size 104 #[.int .i64 0, .int .i64 0, .int .i64 0] o8 w':=hR 8 (by simp)
 have nab:ga≠gb:=fun e=>hS 6 (by simp) 7 (by simp) (by decide) (by decide) (by decide) (by rw[e];rfl)
 have nac:ga≠gc:=fun e=>hS 6 (by simp) 8 (by simp) (by decide) (by decide) (by decide) (by rw[e];rfl)
 have nbc:gb≠gc:=fun e=>hS 7 (by simp) 8 (by simp) (by decide) (by decide) (by decide) (by rw[e];rfl)
 have HA:=Lib.hid hA
 have HB:=Lib.hid hB
 have HC:=Lib.hid hC'
 clear hR hS hA hB hC' xp0 xp1 xp2 xp3 xpz xpf xq0 xq1 xq2 xq3 xqz xqf xr0 xr1 xr2 xr3 xrz xrf
 obtain⟨a0,a1,a2,af,az⟩:=NO HA.out
 obtain⟨b0',b1',b2',bf,bz⟩:=NO HB.out
 obtain⟨c0,c1,c2,cf,cz⟩:=NO HC.out
 obtain⟨X,HX⟩:∃X,Hid (jd (jd (jd w' ga (.int .i64 p0) (.int .i64 p1) (.int .i64 p2)) gb (.int .i64 q0) (.int .i64 q1) (.int .i64 q2)) gc (.int .i64 r0) (.int .i64 r1) (.int .i64 r2)=X):=⟨_,Lib.hid rfl⟩
 have zV:=ah BO.out
 have hVX:Below V.heap.size V X:=by
  rw[←HX.out]
  exact dt (dt (dt hb' hga _ _ _) hgb _ _ _) hgc _ _ _
 have HPB:Hid (PB w.heap.size ga gb gc p0 p1 p2 pd q0 q1 q2 qd r0 r1 r2 rd X):=Lib.hid (by
  refine⟨(hVX.block _ (ah BP.out)).trans BP.out,(hVX.block _ (ah BQ.out)).trans BQ.out,(hVX.block _ (ah BR.out)).trans BR.out,(hVX.block _ (ah BO.out)).trans BO.out, ?_, ?_, ?_⟩
  ·rw[←HX.out]
   exact(cE nac _ _ _).trans ((cE nab _ _ _).trans (eh HA.out _ _ _))
  ·rw[←HX.out]
   exact(cE nbc _ _ _).trans (eh ((cE nab.symm _ _ _).trans HB.out) _ _ _)
  ·rw[←HX.out]
   exact eh ((cE nbc.symm _ _ _).trans ((cE nac.symm _ _ _).trans HC.out)) _ _ _)
 have eX:((((((((w'.setCell ⟨ga,0,none⟩ (.int .i64 p0)).setCell ⟨ga,1,none⟩ (.int .i64 p1)).setCell ⟨ga,2,none⟩ (.int .i64 p2)).setCell ⟨gb,0,none⟩ (.int .i64 q0)).setCell ⟨gb,1,none⟩ (.int .i64 q1)).setCell ⟨gb,2,none⟩ (.int .i64 q2)).setCell ⟨gc,0,none⟩ (.int .i64 r0)).setCell ⟨gc,1,none⟩ (.int .i64 r1)).setCell ⟨gc,2,none⟩ (.int .i64 r2)=X:=HX.out
 simp only[oas]
 go_wp2
 refine NoPanic.normal ?_
 try rw[eX]
 clear eX HX HA HB HC a0 a1 a2 af az b0' b1' b2' bf bz c0 c1 c2 cf cz BP BQ BR BO nab nac nbc hb'
 obtain⟨a0,a1,a2,_,az⟩:=NO HPB.out.A
 obtain⟨b0',b1',b2',_,bz⟩:=NO HPB.out.B
 obtain⟨c0,c1,c2,_,cz⟩:=NO HPB.out.C
 go_wp2
 refine wqb ?_
 repeat(first|go_big_quiet_step ((first|(go_at_call 101;exact aE ((hC _).out))|(go_at_call 100;exact aE ((hD _).out))))|quiet_step ((first|(go_at_call 101;exact aE ((hC _).out))|(go_at_call 100;exact aE ((hD _).out)))))
 refine wqn fun u=> ?_
 have HU:=Lib.hid (HPB.out.below u.below)
 have hVu:Below V.heap.size V u.val:=fB hVX u.below
 clear HPB hVX a0 a1 a2 az b0' b1' b2' bz c0 c1 c2 cz
 generalize u.val=X1 at*
 clear u
 obtain⟨a0,a1,a2,_,az⟩:=NO HU.out.A
 obtain⟨b0',b1',b2',_,bz⟩:=NO HU.out.B
 obtain⟨c0,c1,c2,_,cz⟩:=NO HU.out.C
 go_wp2
 refine fk [0,1,2,3,4,5,6,7,8,9,10,11] 12 [13,14] (pick [IsV (V3 q0 q1 q2),IsV (V3 r0 r1 r2),IsV (V3 n0 n1 n2),IsV (V3 r0 r1 r2),IsV (V3 p0 p1 p2),IsV (V3 n3 n4 n5),IsV (V3 p0 p1 p2),IsV (V3 q0 q1 q2),IsV (V3 n6 n7 n8),yd X1.heap.size 104 #[.int .i64 0, .int .i64 0, .int .i64 0],yd X1.heap.size 104 #[.int .i64 0, .int .i64 0, .int .i64 0],yd X1.heap.size 104 #[.int .i64 0, .int .i64 0, .int .i64 0]]) (tA [9,10,11]) (xG [9,10,11]) (kq (by simp only[List.mem_cons,List.not_mem_nil,or_false,forall_eq_or_imp,forall_eq];exact⟨jG,jG,jG⟩)) (by kernel_rfl) (by kernel_rfl) (Stabs.pick (by repeat(first|exact Stabs.nil|refine Stabs.cons (by first|exact jc _|exact ar _ _ _) ?_))) ?_
 try go_frame
 refine fW rfl rfl (by simp) (fun w' hb' hR K hK=> ?_) (fun o0=> ?_)
 ·clear hR
  have y0:=ab hb' b0'
  have y1:=ab hb' b1'
  have y2:=ab hb' b2'
  have yz:=Nat.lt_of_lt_of_le bz hb'.size
  go_simp
  exact hK _ _ brf rfl
 try go_frame
 refine fW rfl rfl (by simp) (fun w' hb' hR K hK=> ?_) (fun o1=> ?_)
 ·clear hR
  have y0:=ab hb' c0
  have y1:=ab hb' c1
  have y2:=ab hb' c2
  have yz:=Nat.lt_of_lt_of_le cz hb'.size
  go_simp
  exact hK _ _ brf rfl
 try go_frame
 refine fW rfl rfl (by simp) (fun w' hb' hR K hK=> ?_) (fun o2=> ?_)
 ·obtain rfl:o0=V3 q0 q1 q2:=hR 0 (by kernel_rfl)
  obtain rfl:o1=V3 r0 r1 r2:=hR 1 (by kernel_rfl)
  clear hR
  go_simp
  refine((hC _).out).mono ?_
  rintro e w1 ⟨rfl,hb1⟩
  exact hK _ _ hb1 rfl
 try go_frame
 refine fW rfl rfl (by simp) (fun w' hb' hR K hK=> ?_) (fun o3=> ?_)
 ·clear hR
  have y0:=ab hb' c0
  have y1:=ab hb' c1
  have y2:=ab hb' c2
  have yz:=Nat.lt_of_lt_of_le cz hb'.size
  go_simp
  exact hK _ _ brf rfl
 try go_frame
 refine fW rfl rfl (by simp) (fun w' hb' hR K hK=> ?_) (fun o4=> ?_)
 ·clear hR
  have y0:=ab hb' a0
  have y1:=ab hb' a1
  have y2:=ab hb' a2
  have yz:=Nat.lt_of_lt_of_le az hb'.size
  go_simp
  exact hK _ _ brf rfl
 try go_frame
 refine fW rfl rfl (by simp) (fun w' hb' hR K hK=> ?_) (fun o5=> ?_)
 ·obtain rfl:o3=V3 r0 r1 r2:=hR 3 (by kernel_rfl)
  obtain rfl:o4=V3 p0 p1 p2:=hR 4 (by kernel_rfl)
  clear hR
  go_simp
  refine((hC2 _).out).mono ?_
  rintro e w1 ⟨rfl,hb1⟩
  exact hK _ _ hb1 rfl
 try go_frame
 refine fW rfl rfl (by simp) (fun w' hb' hR K hK=> ?_) (fun o6=> ?_)
 ·clear hR
  have y0:=ab hb' a0
  have y1:=ab hb' a1
  have y2:=ab hb' a2
  have yz:=Nat.lt_of_lt_of_le az hb'.size
  go_simp
  exact hK _ _ brf rfl
 try go_frame
 refine fW rfl rfl (by simp) (fun w' hb' hR K hK=> ?_) (fun o7=> ?_)
 ·clear hR
  have y0:=ab hb' b0'
  have y1:=ab hb' b1'
  have y2:=ab hb' b2'
  have yz:=Nat.lt_of_lt_of_le bz hb'.size
  go_simp
  exact hK _ _ brf rfl
 try go_frame
 refine fW rfl rfl (by simp) (fun w' hb' hR K hK=> ?_) (fun o8=> ?_)
 ·obtain rfl:o6=V3 p0 p1 p2:=hR 6 (by kernel_rfl)
  obtain rfl:o7=V3 q0 q1 q2:=hR 7 (by kernel_rfl)
  clear hR
  go_simp
  refine((hC3 _).out).mono ?_
  rintro e w1 ⟨rfl,hb1⟩
  exact hK _ _ hb1 rfl
 try go_frame
 refine wgf rfl rfl (by simp) (fun w' hb' hR K hK=> ?_) (fun o9=> ?_)
 ·clear hR
  have zz:=hb'.size
  go_simp
  exact hK _ _ bel ⟨_,rfl,zz,ai rfl⟩ (fun _=>rfl)
 try go_frame
 refine wgf rfl rfl (by simp) (fun w' hb' hR K hK=> ?_) (fun o10=> ?_)
 ·clear hR
  have zz:=hb'.size
  go_simp
  exact hK _ _ bel ⟨_,rfl,zz,ai rfl⟩ (fun _=>rfl)
 try go_frame
 refine wgf rfl rfl (by simp) (fun w' hb' hR K hK=> ?_) (fun o11=> ?_)
 ·clear hR
  have zz:=hb'.size
  go_simp
  exact hK _ _ bel ⟨_,rfl,zz,ai rfl⟩ (fun _=>rfl)
 try go_frame
 refine my (fun w' hb' hR hS=> ?_)
 obtain rfl:o2=V3 n0 n1 n2:=hR 2 (by simp)
 obtain rfl:o5=V3 n3 n4 n5:=hR 5 (by simp)
 obtain rfl:o8=V3 n6 n7 n8:=hR 8 (by simp)
 obtain⟨gx,rfl,hgx,hA⟩:yd X1.heap.size 104 #[.int .i64 0, .int .i64 0, .int .i64 0] o9 w':=hR 9 (by simp)
 obtain⟨gy,rfl,hgy,hB⟩:yd X1.heap.size 104 #[.int .i64 0, .int .i64 0, .int .i64 0] o10 w':=hR 10 (by simp)
 obtain⟨gz,rfl,hgz,hC'⟩:yd X1.heap.size 104 #[.int .i64 0, .int .i64 0, .int .i64 0] o11 w':=hR 11 (by simp)
 have nab:gx≠gy:=fun e=>hS 9 (by simp) 10 (by simp) (by decide) (by decide) (by decide) (by rw[e];rfl)
 have nac:gx≠gz:=fun e=>hS 9 (by simp) 11 (by simp) (by decide) (by decide) (by decide) (by rw[e];rfl)
 have nbc:gy≠gz:=fun e=>hS 10 (by simp) 11 (by simp) (by decide) (by decide) (by decide) (by rw[e];rfl)
 have HA:=Lib.hid hA
 have HB:=Lib.hid hB
 have HC:=Lib.hid hC'
 clear hR hS hA hB hC' a0 a1 a2 az b0' b1' b2' bz c0 c1 c2 cz hC hC2 hC3 hD
 obtain⟨a0,a1,a2,af,az⟩:=NO HA.out
 obtain⟨b0',b1',b2',bf,bz⟩:=NO HB.out
 obtain⟨c0,c1,c2,cf,cz⟩:=NO HC.out
 obtain⟨X,HX⟩:∃X,Hid (jd (jd (jd w' gx (.int .i64 n0) (.int .i64 n1) (.int .i64 n2)) gy (.int .i64 n3) (.int .i64 n4) (.int .i64 n5)) gz (.int .i64 n6) (.int .i64 n7) (.int .i64 n8)=X):=⟨_,Lib.hid rfl⟩
 have hVX:Below X1.heap.size X1 X:=by
  rw[←HX.out]
  exact dt (dt (dt hb' hgx _ _ _) hgy _ _ _) hgz _ _ _
 have hXs:X.heap.size=w'.heap.size:=by rw[←HX.out,kr,kr,kr]
 obtain⟨g,Hg⟩:∃g,Hid (X.heap.size=g):=⟨_,Lib.hid rfl⟩
 have zO:=ah HU.out.O
 have HPX:Hid (PX g w.heap.size gx gy gz p0 p1 p2 pd q0 q1 q2 qd r0 r1 r2 rd n0 n1 n2 n3 n4 n5 n6 n7 n8 X):=Lib.hid (by
  refine⟨(hVX.block _ (ah HU.out.P)).trans HU.out.P,(hVX.block _ (ah HU.out.Q)).trans HU.out.Q,(hVX.block _ (ah HU.out.R)).trans HU.out.R,(hVX.block _ (ah HU.out.O)).trans HU.out.O, ?_, ?_, ?_, ?_⟩
  ·rw[←HX.out]
   exact(cE nac _ _ _).trans ((cE nab _ _ _).trans (eh HA.out _ _ _))
  ·rw[←HX.out]
   exact(cE nbc _ _ _).trans (eh ((cE nab.symm _ _ _).trans HB.out) _ _ _)
  ·rw[←HX.out]
   exact eh ((cE nbc.symm _ _ _).trans ((cE nac.symm _ _ _).trans HC.out)) _ _ _
  ·have h1:=hVX.size
   rw[←Hg.out]
   omega)
 have eX:((((((((w'.setCell ⟨gx,0,none⟩ (.int .i64 n0)).setCell ⟨gx,1,none⟩ (.int .i64 n1)).setCell ⟨gx,2,none⟩ (.int .i64 n2)).setCell ⟨gy,0,none⟩ (.int .i64 n3)).setCell ⟨gy,1,none⟩ (.int .i64 n4)).setCell ⟨gy,2,none⟩ (.int .i64 n5)).setCell ⟨gz,0,none⟩ (.int .i64 n6)).setCell ⟨gz,1,none⟩ (.int .i64 n7)).setCell ⟨gz,2,none⟩ (.int .i64 n8)=X:=HX.out
 simp only[oas]
 go_wp2
 refine NoPanic.normal ?_
 try rw[eX]
 have hwX:Below w.heap.size w X:=fB hV (fB hVu hVX)
 clear eX HX HA HB HC a0 a1 a2 af az b0' b1' b2' bf bz c0 c1 c2 cf cz nab nac nbc hb' hVX hVu hV HU hXs zO hgx hgy hgz zV hga hgb hgc
 obtain⟨Y,HY⟩:∃Y,Hid (X.alloc (.cells #[.int .i64 0, .int .i64 0, .int .i64 0] 104)=Y):=⟨_,Lib.hid rfl⟩
 have hXY:Below g X Y:=by rw[←HY.out, ←Hg.out];exact bel
 have HV0:Hid (Y.heap[g]? =some (.cells #[.int .i64 0, .int .i64 0, .int .i64 0] 104 (0,0))):=Lib.hid (by rw[←HY.out, ←Hg.out];exact ai rfl)
 have HPY:=Lib.hid (HPX.out.below hXY)
 have hwY:Below w.heap.size w Y:=fB hwX (by rw[Hg.out];exact hXY)
 go_wp2
 rw[HY.out,Hg.out]
 clear HY hXY HPX hwX Hg
 have zg:w.heap.size≤g:=by have:=HPY.out.lt;omega
 go_loopw [16] (fun x wr=>∃k:Int,0≤k∧k≤3∧x= .int .i64 k∧Below g Y wr∧Hid (wr.heap[g]? =some (.cells #[.int .i64 (if 1≤k then pd*n0+qd*n3+rd*n6 else 0), .int .i64 (if 2≤k then pd*n1+qd*n4+rd*n7 else 0), .int .i64 (if 3≤k then pd*n2+qd*n5+rd*n8 else 0)] 104 (0,0)))) (fun x _=>3-(intOf x).toNat)
 case atStart=>exact⟨0,by omega,by omega,rfl,Below.refl _ _,Lib.hid (by simpa using HV0.out)⟩
 case round=>
  clear HV0
  obtain⟨k,hk0,hk,rfl,hb,HVb⟩:=hrel
  have HX:=Lib.hid (HPY.out.below hb)
  rcases(by omega:k=0∨k=1∨k=2∨k=3)with rfl|rfl|rfl|rfl
  ·simp only[show ¬(1:Int)≤0 by decide,show ¬(2:Int)≤0 by decide,show ¬(3:Int)≤0 by decide,if_false]at HVb
   obtain⟨x0,x1,x2,_,xz⟩:=NO HX.out.A
   obtain⟨y0,y1,y2,_,yz⟩:=NO HX.out.B
   obtain⟨z0,z1,z2,_,zz⟩:=NO HX.out.C
   have pP:=(ag HX.out.P 3).trans rfl
   have pQ:=(ag HX.out.Q 3).trans rfl
   have pR:=(ag HX.out.R 3).trans rfl
   simp only[List.getElem?_toArray,List.getElem?_cons_zero,List.getElem?_cons_succ]at pP pQ pR
   have zP:=ah HX.out.P
   have zQ:=ah HX.out.Q
   have zR:=ah HX.out.R
   have vz:=ah HVb.out
   have vf:=aC HVb.out
   go_wp2
   refine aQ 22 (by kernel_rfl) (by kernel_rfl) ?_
   simp only[List.take_succ_cons,List.take_zero,List.drop_succ_cons,List.drop_zero]
   repeat(first|go_big_quiet_step (fail)|quiet_step (fail))
   refine wpQuiet_nil ?_
   rintro _ ⟨u,rfl⟩
   have HV2:=Lib.hid ((u.below.block _ vz).trans HVb.out)
   have hb2:Below g Y u.val:=hb.trans (u.below.mono (by omega))
   obtain⟨vv0,vv1,vv2,vf2,vz2⟩:=NO HV2.out
   clear vz vf
   go_wp2
   go_roundw
   case rel=>exact⟨1,by omega,by omega,by first|rfl|go_num,hb2.setCell (Nat.le_refl _) _,Lib.hid (by have:=dP HV2.out 0 (.int .i64 (pd*n0+qd*n3+rd*n6));simpa using this)⟩
   case measure=>first|decide|(simp[intOf];done)|(simp[intOf];omega)
  ·simp only[show(1:Int)≤1 by decide,show ¬(2:Int)≤1 by decide,show ¬(3:Int)≤1 by decide,if_false,if_true]at HVb
   obtain⟨x0,x1,x2,_,xz⟩:=NO HX.out.A
   obtain⟨y0,y1,y2,_,yz⟩:=NO HX.out.B
   obtain⟨z0,z1,z2,_,zz⟩:=NO HX.out.C
   have pP:=(ag HX.out.P 3).trans rfl
   have pQ:=(ag HX.out.Q 3).trans rfl
   have pR:=(ag HX.out.R 3).trans rfl
   simp only[List.getElem?_toArray,List.getElem?_cons_zero,List.getElem?_cons_succ]at pP pQ pR
   have zP:=ah HX.out.P
   have zQ:=ah HX.out.Q
   have zR:=ah HX.out.R
   have vz:=ah HVb.out
   have vf:=aC HVb.out
   go_wp2
   refine aQ 22 (by kernel_rfl) (by kernel_rfl) ?_
   simp only[List.take_succ_cons,List.take_zero,List.drop_succ_cons,List.drop_zero]
   repeat(first|go_big_quiet_step (fail)|quiet_step (fail))
   refine wpQuiet_nil ?_
   rintro _ ⟨u,rfl⟩
   have HV2:=Lib.hid ((u.below.block _ vz).trans HVb.out)
   have hb2:Below g Y u.val:=hb.trans (u.below.mono (by omega))
   obtain⟨vv0,vv1,vv2,vf2,vz2⟩:=NO HV2.out
   clear vz vf
   go_wp2
   go_roundw
   case rel=>exact⟨2,by omega,by omega,by first|rfl|go_num,hb2.setCell (Nat.le_refl _) _,Lib.hid (by have:=dP HV2.out 1 (.int .i64 (pd*n1+qd*n4+rd*n7));simpa using this)⟩
   case measure=>first|decide|(simp[intOf];done)|(simp[intOf];omega)
  ·simp only[show(1:Int)≤2 by decide,show(2:Int)≤2 by decide,show ¬(3:Int)≤2 by decide,if_false,if_true]at HVb
   obtain⟨x0,x1,x2,_,xz⟩:=NO HX.out.A
   obtain⟨y0,y1,y2,_,yz⟩:=NO HX.out.B
   obtain⟨z0,z1,z2,_,zz⟩:=NO HX.out.C
   have pP:=(ag HX.out.P 3).trans rfl
   have pQ:=(ag HX.out.Q 3).trans rfl
   have pR:=(ag HX.out.R 3).trans rfl
   simp only[List.getElem?_toArray,List.getElem?_cons_zero,List.getElem?_cons_succ]at pP pQ pR
   have zP:=ah HX.out.P
   have zQ:=ah HX.out.Q
   have zR:=ah HX.out.R
   have vz:=ah HVb.out
   have vf:=aC HVb.out
   go_wp2
   refine aQ 22 (by kernel_rfl) (by kernel_rfl) ?_
   simp only[List.take_succ_cons,List.take_zero,List.drop_succ_cons,List.drop_zero]
   repeat(first|go_big_quiet_step (fail)|quiet_step (fail))
   refine wpQuiet_nil ?_
   rintro _ ⟨u,rfl⟩
   have HV2:=Lib.hid ((u.below.block _ vz).trans HVb.out)
   have hb2:Below g Y u.val:=hb.trans (u.below.mono (by omega))
   obtain⟨vv0,vv1,vv2,vf2,vz2⟩:=NO HV2.out
   clear vz vf
   go_wp2
   go_roundw
   case rel=>exact⟨3,by omega,by omega,by first|rfl|go_num,hb2.setCell (Nat.le_refl _) _,Lib.hid (by have:=dP HV2.out 2 (.int .i64 (pd*n2+qd*n5+rd*n8));simpa using this)⟩
   case measure=>first|decide|(simp[intOf];done)|(simp[intOf];omega)
  ·simp only[show(1:Int)≤3 by decide,show(2:Int)≤3 by decide,show(3:Int)≤3 by decide,if_true]at HVb
   have E0: -10000000000≤pd*n0+qd*n3+rd*n6∧pd*n0+qd*n3+rd*n6≤10000000000:=by omega
   have E1: -10000000000≤pd*n1+qd*n4+rd*n7∧pd*n1+qd*n4+rd*n7≤10000000000:=by omega
   have E2: -10000000000≤pd*n2+qd*n5+rd*n8∧pd*n2+qd*n5+rd*n8≤10000000000:=by omega
   clear D0 D1 D2 D3 D4 D5 D6 D7 D8
   generalize pd*n0+qd*n3+rd*n6=s0 at*
   generalize pd*n1+qd*n4+rd*n7=s1 at*
   generalize pd*n2+qd*n5+rd*n8=s2 at*
   have hp:=gj s0 s1 s2 den h0
   have hle:=jl 10000000000 s0 s1 s2 den (by omega) (by omega) (by omega) (by omega)
   have e1:=Lib.hid (bH (aY [s0,s1,s2,den] s0 (by simp)))
   have e2:=Lib.hid (bH (aY [s0,s1,s2,den] s1 (by simp)))
   have e3:=Lib.hid (bH (aY [s0,s1,s2,den] s2 (by simp)))
   have e4:=Lib.hid (bH (aY [s0,s1,s2,den] den (by simp)))
   have Hn:Hid (den<0→eu s0 s1 s2 den=(-(s0 / aU [s0,s1,s2,den]), -(s1 / aU [s0,s1,s2,den]), -(s2 / aU [s0,s1,s2,den]), -(den / aU [s0,s1,s2,den]))):=fun h=>if_pos h
   have Hp:Hid (0≤den→eu s0 s1 s2 den=(s0 / aU [s0,s1,s2,den],s1 / aU [s0,s1,s2,den],s2 / aU [s0,s1,s2,den],den / aU [s0,s1,s2,den])):=fun h=>if_neg (by omega)
   have t1:=bZ (g:=aU [s0,s1,s2,den]) E0
   have t2:=bZ (g:=aU [s0,s1,s2,den]) E1
   have t3:=bZ (g:=aU [s0,s1,s2,den]) E2
   have t4:=bZ (g:=aU [s0,s1,s2,den]) hdb
   have HG:Hid (Nat.gcd (Nat.gcd s0.natAbs s1.natAbs) (Nat.gcd s2.natAbs den.natAbs)=aU [s0,s1,s2,den]):=Lib.hid (by simpa using KP s0 s1 s2 den)
   have l1:Nat.gcd s0.natAbs s1.natAbs≤10000000000:=lH (by omega) (by omega)
   have l2:Nat.gcd s2.natAbs den.natAbs≤10000000000:=lH (by omega) (by omega)
   generalize eu s0 s1 s2 den=pt at*
   generalize aU [s0,s1,s2,den]=gg at*
   obtain⟨x0,x1,x2,_,xz⟩:=NO HVb.out
   go_wp2
   refine wqb ?_
   repeat(first|go_big_quiet_step ((go_at_call 98;exact aE (jF _ _ _ (by omega) (by omega))))|quiet_step ((go_at_call 98;exact aE (jF _ _ _ (by omega) (by omega)))))
   refine wqn fun u=> ?_
   simp only[Int.natAbs_natCast]
   rw[HG.out]
   have HV2:=Lib.hid ((u.below.block _ (ah HVb.out)).trans HVb.out)
   have zw:=ah HVb.out
   have hbu:Below g Y u.val:=hb.trans (u.below.mono (by omega))
   have HXu:=Lib.hid (HPY.out.below hbu)
   have HO:=Lib.hid HXu.out.O
   have hwu:Below w.heap.size w u.val:=hwY.trans (hbu.mono (by omega))
   clear hb x0 x1 x2 xz HX HVb HG l1 l2 HPY hwY
   generalize u.val=w1 at*
   clear u
   obtain⟨x0,x1,x2,_,xz⟩:=NO HV2.out
   have o0:=(ag HO.out 0).trans rfl
   have o1:=(ag HO.out 1).trans rfl
   have o2:=(ag HO.out 2).trans rfl
   have o3:=(ag HO.out 3).trans rfl
   simp only[List.getElem?_toArray,List.getElem?_cons_zero,List.getElem?_cons_succ]at o0 o1 o2 o3
   have oz:=ah HO.out
   have of:=aC HO.out
   by_cases hneg:den<0
   ·have k1:¬(-(gg:Int)=0):=by omega
    have hneg':decide (den<0)=true:=decide_eq_true hneg
    go_wp2
    refine aQ 16 (by kernel_rfl) (by kernel_rfl) ?_
    simp only[List.take_succ_cons,List.take_zero,List.drop_succ_cons,List.drop_zero]
    repeat(first|go_big_quiet_step (fail)|quiet_step (fail))
    refine wpQuiet_nil ?_
    rintro _ ⟨u,rfl⟩
    go_wp2
    refine bodyPost_ret (v:= .tuple #[V4 (s0.tdiv (-(gg:Int))) (s1.tdiv (-(gg:Int))) (s2.tdiv (-(gg:Int))) (den.tdiv (-(gg:Int))), .bool true]) (by simp[results,Tryz.results64,go_sem,oz,o0,o1,o2,o3]) rfl ⟨?_, ?_⟩
    ·rw[Hm.out,Hn.out hneg]
     simp only[Int.tdiv_neg]
     rw[e1.out,e2.out,e3.out,e4.out]
    ·exact bel
   ·have k1:¬((gg:Int)=0):=by omega
    have hneg':decide (den<0)=false:=decide_eq_false hneg
    go_wp2
    refine aQ 16 (by kernel_rfl) (by kernel_rfl) ?_
    simp only[List.take_succ_cons,List.take_zero,List.drop_succ_cons,List.drop_zero]
    repeat(first|go_big_quiet_step (fail)|quiet_step (fail))
    refine wpQuiet_nil ?_
    rintro _ ⟨u,rfl⟩
    go_wp2
    refine bodyPost_ret (v:= .tuple #[V4 (s0.tdiv gg) (s1.tdiv gg) (s2.tdiv gg) (den.tdiv gg), .bool true]) (by simp[results,Tryz.results64,go_sem,oz,o0,o1,o2,o3]) rfl ⟨?_, ?_⟩
    ·rw[Hm.out,Hp.out (by omega),e1.out,e2.out,e3.out,e4.out]
    ·exact bel
theorem sA (p c:Q4) (w:World) (hp:bI p) (hc:fD c):Calls Tryz.prog 62 #[v4 p,v4 c] w (Ret w (.int .i64 (sd p c))):=
 sI _ _ _ _ _ _ _ _ w hp.1 hp.2.1 hp.2.2.1 hp.2.2.2 hc.1 hc.2.1 hc.2.2.1 (by have:=hc.2.2.2;omega)
theorem rq {ps:List Q4} {c:Q4} (i:Nat) (h:i<ps.length) (hs:0<sd ps[i] c):bG ps c=false:=by
 unfold bG
 have:(ps.any fun p=>decide (0<sd p c))=true:=List.any_eq_true.2 ⟨ps[i],List.getElem_mem h,by simpa using hs⟩
 rw[this];rfl
theorem pM {ps:List Q4} {c:Q4} (h:∀i (h:i<ps.length),¬0<sd ps[i] c):bG ps c=true:=by
 unfold bG
 have:(ps.any fun p=>decide (0<sd p c))=false:=by
  rw[List.any_eq_false]
  intro p hp
  obtain⟨i,hi,rfl⟩:=List.getElem_of_mem hp
  simpa using h i hi
 rw[this];rfl
theorem oh (ps:List Q4) (c:Q4) (pv:Value) (W:World) (hps:∀p∈ps,bI p) (hc:fD c) (hl:ps.length≤1000000) (hpv:Q4s W pv ps):
  Calls Tryz.prog 65 #[pv,v4 c] W (Ret W (.bool (bG ps c))):=by
 obtain⟨a,n,cc,rfl,hn,_,hx⟩:=hpv
 have HS:=fun i (h:i<ps.length) W'=>Lib.hid (sA ps[i] c W' (hps _ (List.getElem_mem h)) hc)
 have Hno:Hid (∀i (h:i<ps.length),0<sd ps[i] c→bG ps c=false):=Lib.hid (fun i h hs=>rq i h hs)
 have Hyes:Hid ((∀i (h:i<ps.length),¬0<sd ps[i] c)→bG ps c=true):=Lib.hid pM
 generalize bG ps c=res at*
 obtain⟨c0,c1,c2,c3⟩:=c
 obtain⟨V,HV⟩:∃V,Hid (W.alloc (.cells #[.int .i64 c0, .int .i64 c1, .int .i64 c2, .int .i64 c3] 131)=V):=⟨_,Lib.hid rfl⟩
 have hV:Below W.heap.size W V:=by rw[←HV.out];exact bel
 have HC:Hid (V.heap[W.heap.size]? =some (.cells #[.int .i64 c0, .int .i64 c1, .int .i64 c2, .int .i64 c3] 131 (0,0))):=Lib.hid (by rw[←HV.out];exact ai rfl)
 have HX:Hid (0<n→∃b off,a=some ⟨b,off,none⟩∧Q4At V b off ps):=Lib.hid (fun h=>by obtain⟨b,off,e,h2⟩:=hx h;exact⟨b,off,e,h2.below hV⟩)
 clear hx hps hc
 go_enter Tryz.func65,Tryz.ntmps65
 go_wp2
 rw[HV.out]
 go_loopw [5] (fun x wr=>∃i:Nat,i≤n∧x= .int .i64 i∧Below V.heap.size V wr∧Hid (∀j (h:j<ps.length),j<i→¬0<sd ps[j] (c0,c1,c2,c3))) (fun x _=>n-(intOf x).toNat)
 case atStart=>exact⟨0,by omega,rfl,Below.refl _ _,Lib.hid (fun j _ h=>by omega)⟩
 case round=>
  obtain⟨i,hi,rfl,hb,Hd⟩:=hrel
  by_cases hlt:i<n
  ·have g1:(i:Int)<(n:Int):=by omega
   have g2:(0:Int)≤(i:Int):=by omega
   have hil:i<ps.length:=by omega
   obtain⟨b,off,rfl,hi4⟩:=HX.out (by omega)
   obtain⟨e0,e1,e2,e3⟩:=(hi4.below hb) i hil
   have ze:=World.block_lt_of_cell? wr _ e0
   simp only at ze
   have HSi:=fun W'=>Lib.hid ((HS i hil W').out)
   have HCr:=Lib.hid ((hb.block _ (ah HC.out)).trans HC.out)
   have f0:=(ag HCr.out 0).trans rfl
   have f1:=(ag HCr.out 1).trans rfl
   have f2:=(ag HCr.out 2).trans rfl
   have f3:=(ag HCr.out 3).trans rfl
   simp only[List.getElem?_toArray,List.getElem?_cons_zero,List.getElem?_cons_succ]at f0 f1 f2 f3
   have zf:=ah HCr.out
   have Hno':=Lib.hid (Hno.out i hil)
   have Hst:Hid (¬0<sd ps[i] (c0,c1,c2,c3)→∀j (h:j<ps.length),j<i+1→¬0<sd ps[j] (c0,c1,c2,c3)):=Lib.hid (fun h j hj hji=>by
    by_cases e:j=i
    ·subst e;exact h
    ·exact Hd.out j hj (by omega))
   clear HS Hno Hd hi4 HX
   generalize sd ps[i] (c0,c1,c2,c3)=s at*
   generalize ps[i]=p at*
   obtain⟨p0,p1,p2,p3⟩:=p
   simp only at e0 e1 e2 e3 HSi
   by_cases hs:0<s
   ·have hs':decide (0<s)=true:=decide_eq_true hs
    go_wp2
    refine wqb ?_
    repeat(first|go_big_quiet_step ((go_at_call 62;exact aE ((HSi _).out)))|quiet_step ((go_at_call 62;exact aE ((HSi _).out))))
    refine wqn fun u=> ?_
    go_wp2
    go_ret
    exact⟨ay (Hno'.out hs).symm,fB hV (fB hb u.below)⟩
   ·have hs':decide (0<s)=false:=decide_eq_false hs
    go_wp2
    refine wqb ?_
    repeat(first|go_big_quiet_step ((go_at_call 62;exact aE ((HSi _).out)))|quiet_step ((go_at_call 62;exact aE ((HSi _).out))))
    refine wqn fun u=> ?_
    go_wp2
    go_roundw
    case rel=>exact⟨i+1,by omega,by go_num,fB hb u.below,Lib.hid (fun j h hj=>by have:=Hst.out hs j h hj;omega)⟩
    case measure=>first|(simp[intOf];done)|(simp[intOf];omega)
  ·obtain rfl:i=n:=by omega
   have g1:¬(i:Int)<(i:Int):=by omega
   go_wp2
   go_ret
   exact⟨ay (Hyes.out (fun j h=>Hd.out j h (by omega))).symm,fB hV hb⟩
theorem mV (cs:List Q4) (c:Q4) (cv:Value) (W:World) (hl:cs.length≤1000000) (hcv:Q4s W cv cs):
  Calls Tryz.prog 66 #[cv,v4 c] W (Ret W (.bool (decide (c∈cs)))):=by
 obtain⟨a,n,cc,rfl,hn,_,hx⟩:=hcv
 have Hyes:Hid (∀i (h:i<cs.length),cs[i]=c→decide (c∈cs)=true):=Lib.hid (fun i h e=>decide_eq_true (by rw[←e];exact List.getElem_mem h))
 have Hno:Hid ((∀i (h:i<cs.length),cs[i]≠c)→decide (c∈cs)=false):=Lib.hid (fun h=>decide_eq_false (fun hm=>by
  obtain⟨i,hi,e⟩:=List.getElem_of_mem hm
  exact h i hi e))
 generalize decide (c∈cs)=res at*
 obtain⟨c0,c1,c2,c3⟩:=c
 obtain⟨V,HV⟩:∃V,Hid (W.alloc (.cells #[.int .i64 c0, .int .i64 c1, .int .i64 c2, .int .i64 c3] 131)=V):=⟨_,Lib.hid rfl⟩
 have hV:Below W.heap.size W V:=by rw[←HV.out];exact bel
 have HC:Hid (V.heap[W.heap.size]? =some (.cells #[.int .i64 c0, .int .i64 c1, .int .i64 c2, .int .i64 c3] 131 (0,0))):=Lib.hid (by rw[←HV.out];exact ai rfl)
 have HX:Hid (0<n→∃b off,a=some ⟨b,off,none⟩∧Q4At V b off cs):=Lib.hid (fun h=>by obtain⟨b,off,e,h2⟩:=hx h;exact⟨b,off,e,h2.below hV⟩)
 clear hx
 go_enter Tryz.func66,Tryz.ntmps66
 go_wp2
 rw[HV.out]
 go_loopw [5] (fun x wr=>∃i:Nat,i≤n∧x= .int .i64 i∧Below V.heap.size V wr∧Hid (∀j (h:j<cs.length),j<i→cs[j]≠(c0,c1,c2,c3))) (fun x _=>n-(intOf x).toNat)
 case atStart=>exact⟨0,by omega,rfl,Below.refl _ _,Lib.hid (fun j _ h=>by omega)⟩
 case round=>
  obtain⟨i,hi,rfl,hb,Hd⟩:=hrel
  by_cases hlt:i<n
  ·have g1:(i:Int)<(n:Int):=by omega
   have g2:(0:Int)≤(i:Int):=by omega
   have hil:i<cs.length:=by omega
   obtain⟨b,off,rfl,hi4⟩:=HX.out (by omega)
   obtain⟨e0,e1,e2,e3⟩:=(hi4.below hb) i hil
   have ze:=World.block_lt_of_cell? wr _ e0
   simp only at ze
   have HCr:=Lib.hid ((hb.block _ (ah HC.out)).trans HC.out)
   have f0:=(ag HCr.out 0).trans rfl
   have f1:=(ag HCr.out 1).trans rfl
   have f2:=(ag HCr.out 2).trans rfl
   have f3:=(ag HCr.out 3).trans rfl
   simp only[List.getElem?_toArray,List.getElem?_cons_zero,List.getElem?_cons_succ]at f0 f1 f2 f3
   have zf:=ah HCr.out
   have Hyes':=Lib.hid (Hyes.out i hil)
   have Hst:Hid (cs[i]≠(c0,c1,c2,c3)→∀j (h:j<cs.length),j<i+1→cs[j]≠(c0,c1,c2,c3)):=Lib.hid (fun h j hj hji=>by
    by_cases e:j=i
    ·subst e;exact h
    ·exact Hd.out j hj (by omega))
   clear Hyes Hd hi4 HX
   generalize cs[i]=p at*
   obtain⟨p0,p1,p2,p3⟩:=p
   simp only at e0 e1 e2 e3
   by_cases h0:p0=c0
   ·subst h0
    by_cases h1:p1=c1
    ·subst h1
     by_cases h2:p2=c2
     ·subst h2
      by_cases h3:p3=c3
      ·subst h3
       go_wp2
       refine wqf fun u=> ?_
       go_wp2
       go_ret
       exact⟨ay (Hyes'.out (by first|trivial|rfl)).symm,fB hV (fB hb u.below)⟩
      ·go_wp2
       refine wqf fun u=> ?_
       go_wp2
       go_roundw
       case rel=>exact⟨i+1,by omega,by go_num,fB hb u.below,Lib.hid (Hst.out (fun e=>h3 (by cases e;rfl)))⟩
       case measure=>first|(simp[intOf];done)|(simp[intOf];omega)
     ·go_wp2
      refine wqf fun u=> ?_
      go_wp2
      go_roundw
      case rel=>exact⟨i+1,by omega,by go_num,fB hb u.below,Lib.hid (Hst.out (fun e=>h2 (by cases e;rfl)))⟩
      case measure=>first|(simp[intOf];done)|(simp[intOf];omega)
    ·go_wp2
     refine wqf fun u=> ?_
     go_wp2
     go_roundw
     case rel=>exact⟨i+1,by omega,by go_num,fB hb u.below,Lib.hid (Hst.out (fun e=>h1 (by cases e;rfl)))⟩
     case measure=>first|(simp[intOf];done)|(simp[intOf];omega)
   ·go_wp2
    refine wqf fun u=> ?_
    go_wp2
    go_roundw
    case rel=>exact⟨i+1,by omega,by go_num,fB hb u.below,Lib.hid (Hst.out (fun e=>h0 (by cases e;rfl)))⟩
    case measure=>first|(simp[intOf];done)|(simp[intOf];omega)
  ·obtain rfl:i=n:=by omega
   have g1:¬(i:Int)<(i:Int):=by omega
   go_wp2
   go_ret
   exact⟨ay (Hno.out (fun j h=>Hd.out j h (by omega))).symm,fB hV hb⟩
theorem rr (p q r:Q4) (w:World) (hp:bI p) (hq:bI q) (hr:bI r):
  Calls Tryz.prog 64 #[v4 p,v4 q,v4 r] w (Ret w (.tuple #[v4 (lD p q r), .bool (okB p q r)])):=by
 unfold lD okB
 by_cases h:bN p q r=0
 ·rw[if_pos h,h]
  exact pJ p q r w hp hq hr h
 ·rw[if_neg h,show(bN p q r !=0)=true by simpa using h]
  exact pL p q r w hp hq hr h
def pN (l:List Q4):List Q4:=l.foldl NW []
theorem tC (l:List Q4) (c:Q4):pN (l++[c])=NW (pN l) c:=by simp[pN]
theorem pO (l:List Q4):(pN l).length≤l.length:=by
 have key:∀(l out:List Q4),(l.foldl NW out).length≤out.length+l.length:=by
  intro l
  induction l with
  |nil=>intro out;simp
  |cons c l ih=>
   intro out
   rw[List.foldl_cons]
   have:=ih (NW out c)
   have h2:(NW out c).length≤out.length+1:=by unfold NW;split<;>simp
   simp only[List.length_cons]
   omega
 have:=key l []
 unfold pN
 simpa using this
def fX (ps:List Q4) (i k m:Nat):List Q4:=pN (raw ps i++gJ ps i k++gI ps i k m)
theorem BD (ps:List Q4) (i k:Nat):fX ps i k k=fX ps i (k+1) 0:=by
 unfold fX
 rw[jZ,iz,List.append_nil,List.append_assoc]
theorem BE (ps:List Q4) (i:Nat):fX ps i i 0=fX ps (i+1) 0 0:=by
 unfold fX
 simp only[lS,iz,kd,List.append_nil]
theorem xH (ps:List Q4) (i k m:Nat) (h:okB (bm ps i) (bm ps k) (bm ps m)=false):fX ps i k (m+1)=fX ps i k m:=by
 have h0:bN (bm ps i) (bm ps k) (bm ps m)=0:=by simpa [okB]using h
 unfold fX
 rw[gq]
 unfold jo
 rw[if_pos h0,List.append_nil]
theorem vB (ps:List Q4) (i k m:Nat) (h:okB (bm ps i) (bm ps k) (bm ps m)=true) (ha:bG ps (lD (bm ps i) (bm ps k) (bm ps m))=false):fX ps i k (m+1)=fX ps i k m:=by
 have h0:bN (bm ps i) (bm ps k) (bm ps m)≠0:=by simpa [okB]using h
 unfold lD at ha
 rw[if_neg h0]at ha
 unfold fX
 rw[gq]
 unfold jo
 rw[if_neg h0,ha]
 simp
theorem vC (ps:List Q4) (i k m:Nat) (h:okB (bm ps i) (bm ps k) (bm ps m)=true) (ha:bG ps (lD (bm ps i) (bm ps k) (bm ps m))=true):fX ps i k (m+1)=NW (fX ps i k m) (lD (bm ps i) (bm ps k) (bm ps m)):=by
 have h0:bN (bm ps i) (bm ps k) (bm ps m)≠0:=by simpa [okB]using h
 unfold lD at ha ⊢
 rw[if_neg h0]at ha ⊢
 unfold fX
 rw[gq]
 unfold jo
 rw[if_neg h0,ha,if_pos rfl, ←List.append_assoc,tC]
theorem vD (ps:List Q4) (i k m:Nat) (hi:i≤64) (hk:k≤64) (hm:m≤64):(fX ps i k m).length≤300000:=by
 have h1:=pO (raw ps i++gJ ps i k++gI ps i k m)
 rw[List.length_append,List.length_append]at h1
 have h2:=jp ps i hi
 have h3:=lU ps i k hk
 have h4:=lT ps i k m
 unfold fX
 omega
theorem xI (p q r:Q4) (hp:bI p) (hq:bI q) (hr:bI r) (h:okB p q r=true):fD (lD p q r):=by
 have h0:bN p q r≠0:=by simpa [okB]using h
 unfold lD
 rw[if_neg h0]
 have:=lV p q r hp hq hr
 exact lW p q r _ hp hq hr (by omega) h0
theorem ru {B:Nat} {w0 w:World} {g:Nat} (h:Below B w0 w) (hg:B≤g) (a b c d:Value):Below B w0 (tB w g a b c d):=(((h.setCell hg _).setCell hg _).setCell hg _).setCell hg _
theorem pS (ps:List Q4) (pv:Value) (W:World) (hps:∀p∈ps,bI p) (hl:ps.length≤64) (hpv:Q4s W pv ps):
  Calls Tryz.prog 36 #[pv] W fun e w'=>∃r,e= .returned r∧Below W.heap.size W w'∧w'.ownsRow W.heap.size 131 4 r (dQ ps).length ((dQ ps).flatMap aH):=by
 obtain⟨i0,hi0,hz0,hz1,hz2⟩:=info_parts kN
 have Hi0:=Lib.hid (And.intro hi0 (And.intro hz0 (And.intro hz1 hz2)))
 clear hi0 hz0 hz1 hz2
 have Hpv:=Lib.hid hpv
 obtain⟨a,n,cc,rfl,hn,_,hx⟩:=hpv
 have HX:Hid (0<n→∃b off,a=some ⟨b,off,none⟩∧Q4At W b off ps):=Lib.hid hx
 have Hok:=fun i (h:i<ps.length)=>Lib.hid (eV hps i h)
 have Hge:=fun i (h:i<ps.length)=>Lib.hid (eN (ps:=ps) i h)
 have HP:=fun i j k (hi:i<ps.length) (hj:j<ps.length) (hk:k<ps.length) W'=>Lib.hid (rr (bm ps i) (bm ps j) (bm ps k) W' (Hok i hi).out (Hok j hj).out (Hok k hk).out)
 have HA:=fun i j k (hi:i<ps.length) (hj:j<ps.length) (hk:k<ps.length) (h:okB (bm ps i) (bm ps j) (bm ps k)=true) W' hb=>Lib.hid (oh ps (lD (bm ps i) (bm ps j) (bm ps k)) _ W' hps (xI _ _ _ (Hok i hi).out (Hok j hj).out (Hok k hk).out h) (by omega) (Hpv.out.below hb))
 have Hno:=fun i k m=>Lib.hid (xH ps i k m)
 have Hbar:=fun i k m=>Lib.hid (vB ps i k m)
 have Hyes:=fun i k m=>Lib.hid (vC ps i k m)
 have Hm:=fun i k=>Lib.hid (BD ps i k)
 have Hk:=fun i=>Lib.hid (BE ps i)
 have Hln:=fun i k m h1 h2 h3=>Lib.hid (vD ps i k m h1 h2 h3)
 have H0:Hid (fX ps 0 0 0=[]):=Lib.hid rfl
 have Hfin:Hid (fX ps n 0 0=dQ ps):=Lib.hid (by
  unfold fX dQ pN
  rw[kd,iz,List.append_nil,List.append_nil,hn])
 generalize dQ ps=res at*
 generalize fX ps=acc at*
 clear hx hps Hok Hpv
 go_enter Tryz.func36,Tryz.ntmps36
 go_wp2
 go_loopw [3,4] (fun s x wr=>∃i:Nat,i≤n∧x= .int .i64 i∧Below W.heap.size W wr∧Hid (wr.ownsRow W.heap.size 131 4 s (acc i 0 0).length ((acc i 0 0).flatMap aH))) (fun _ x _=>n-(intOf x).toNat)
 case atStart=>exact⟨0,by omega,rfl,Below.refl _ _,Lib.hid (by rw[H0.out];exact World.ownsRow_nil _ _ _ _)⟩
 case round=>
  obtain⟨i,hi,rfl,hb,HO⟩:=hrel
  by_cases hlt:i<n
  ·have g1:(i:Int)<(n:Int):=by omega
   have g2:(0:Int)≤(i:Int):=by omega
   have hil:i<ps.length:=by omega
   go_wp2
   go_loopw [3,5] (fun s x wr=>∃k:Nat,k≤i∧x= .int .i64 k∧Below W.heap.size W wr∧Hid (wr.ownsRow W.heap.size 131 4 s (acc i k 0).length ((acc i k 0).flatMap aH))) (fun _ x _=>i-(intOf x).toNat)
   case atStart=>exact⟨0,by omega,rfl,hb,HO⟩
   case round=>
    clear hb HO
    obtain⟨k,hk,rfl,hb,HO⟩:=hrel
    by_cases hlk:k<i
    ·have g3:(k:Int)<(i:Int):=by omega
     have g4:(0:Int)≤(k:Int):=by omega
     have g4':(k:Int)<(n:Int):=by omega
     have hkl:k<ps.length:=by omega
     go_wp2
     go_loopw [3,6] (fun s x wr=>∃m:Nat,m≤k∧x= .int .i64 m∧Below W.heap.size W wr∧Hid (wr.ownsRow W.heap.size 131 4 s (acc i k m).length ((acc i k m).flatMap aH))) (fun _ x _=>k-(intOf x).toNat)
     case atStart=>exact⟨0,by omega,rfl,hb,HO⟩
     case round=>
      clear hb HO
      obtain⟨m,hm,rfl,hb,HO⟩:=hrel
      by_cases hlm:m<k
      ·have g5:(m:Int)<(k:Int):=by omega
       have g6:(0:Int)≤(m:Int):=by omega
       have g6':(m:Int)<(n:Int):=by omega
       have hml:m<ps.length:=by omega
       obtain⟨b,off,rfl,hi4⟩:=HX.out (by omega)
       obtain⟨x0,x1,x2,x3⟩:=(hi4.below hb) i hil
       obtain⟨y0,y1,y2,y3⟩:=(hi4.below hb) k hkl
       obtain⟨z0,z1,z2,z3⟩:=(hi4.below hb) m hml
       rw[(Hge i hil).out]at x0 x1 x2 x3
       rw[(Hge k hkl).out]at y0 y1 y2 y3
       rw[(Hge m hml).out]at z0 z1 z2 z3
       have zx:=World.block_lt_of_cell? wr _ x0
       simp only at zx
       have HPi:=fun W'=>Lib.hid ((HP i k m hil hkl hml W').out)
       have HAi:=fun h W' hb=>Lib.hid ((HA i k m hil hkl hml h W' hb).out)
       have Hno':=Lib.hid ((Hno i k m).out)
       have Hbar':=Lib.hid ((Hbar i k m).out)
       have Hyes':=Lib.hid ((Hyes i k m).out)
       have hln:=(Hln i k m (by omega) (by omega) (by omega)).out
       have HAcc:Hid (∀c,NW (acc i k m) c=if c∈acc i k m then acc i k m else acc i k m++[c]):=Lib.hid (fun c=>rfl)
       clear HP HA Hno Hbar Hyes hi4 HX Hge
       generalize bG ps (lD (bm ps i) (bm ps k) (bm ps m))=al at*
       generalize lD (bm ps i) (bm ps k) (bm ps m)=R at*
       generalize okB (bm ps i) (bm ps k) (bm ps m)=ok at*
       generalize bm ps i=P at*
       generalize bm ps k=Q at*
       generalize bm ps m=S at*
       generalize acc i k m=A at*
       obtain⟨P0,P1,P2,P3⟩:=P
       obtain⟨Q0,Q1,Q2,Q3⟩:=Q
       obtain⟨S0,S1,S2,S3⟩:=S
       obtain⟨R0,R1,R2,R3⟩:=R
       simp only at x0 x1 x2 x3 y0 y1 y2 y3 z0 z1 z2 z3
       go_wp2
       refine lB [15] [0,1,2,3,4,5,6,7,8,9,10,11,12,13,14,15,16] 17 [18] (pick [IsV (.slice (some ⟨b,off,none⟩) n cc),IsV (.int .i64 (i:Int)),IsV (.pointer (some ⟨b,off+i*4,none⟩)),IsV (v4 (P0,P1,P2,P3)),IsV (.slice (some ⟨b,off,none⟩) n cc),IsV (.int .i64 (k:Int)),IsV (.pointer (some ⟨b,off+k*4,none⟩)),IsV (v4 (Q0,Q1,Q2,Q3)),IsV (.slice (some ⟨b,off,none⟩) n cc),IsV (.int .i64 (m:Int)),IsV (.pointer (some ⟨b,off+m*4,none⟩)),IsV (v4 (S0,S1,S2,S3)),IsV (.tuple #[v4 (R0,R1,R2,R3), .bool ok]),IsV (.tuple #[v4 (R0,R1,R2,R3), .bool ok]),IsV (v4 (R0,R1,R2,R3)),IsV (.bool ok),yd wr.heap.size 131 #[.int .i64 0, .int .i64 0, .int .i64 0, .int .i64 0]]) (by kernel_rfl) (by kernel_rfl) (Stabs.pick (by repeat(first|exact Stabs.nil|refine Stabs.cons (by first|exact jc _|exact ar _ _ _) ?_))) ?_
       try go_frame
       refine wgn rfl rfl (by simp) (fun w' hb' hR K hK=> ?_) (fun o0=> ?_)
       ·clear hR
        go_simp
        exact hK _ _ brf rfl
       try go_frame
       refine wgn rfl rfl (by simp) (fun w' hb' hR K hK=> ?_) (fun o1=> ?_)
       ·clear hR
        go_simp
        exact hK _ _ brf rfl
       try go_frame
       refine wgn rfl rfl (by simp) (fun w' hb' hR K hK=> ?_) (fun o2=> ?_)
       ·obtain rfl:o0= .slice (some ⟨b,off,none⟩) n cc:=hR 0 (by kernel_rfl)
        obtain rfl:o1= .int .i64 (i:Int):=hR 1 (by kernel_rfl)
        clear hR
        go_simp
        exact hK _ _ brf rfl
       try go_frame
       refine wgn rfl rfl (by simp) (fun w' hb' hR K hK=> ?_) (fun o3=> ?_)
       ·obtain rfl:o2= .pointer (some ⟨b,off+i*4,none⟩):=hR 2 (by kernel_rfl)
        clear hR
        have q0:=ab hb' x0
        have q1:=ab hb' x1
        have q2:=ab hb' x2
        have q3:=ab hb' x3
        have qz:=Nat.lt_of_lt_of_le zx hb'.size
        go_simp
        exact hK _ _ brf rfl
       try go_frame
       refine wgn rfl rfl (by simp) (fun w' hb' hR K hK=> ?_) (fun o4=> ?_)
       ·clear hR
        go_simp
        exact hK _ _ brf rfl
       try go_frame
       refine wgn rfl rfl (by simp) (fun w' hb' hR K hK=> ?_) (fun o5=> ?_)
       ·clear hR
        go_simp
        exact hK _ _ brf rfl
       try go_frame
       refine wgn rfl rfl (by simp) (fun w' hb' hR K hK=> ?_) (fun o6=> ?_)
       ·obtain rfl:o4= .slice (some ⟨b,off,none⟩) n cc:=hR 4 (by kernel_rfl)
        obtain rfl:o5= .int .i64 (k:Int):=hR 5 (by kernel_rfl)
        clear hR
        go_simp
        exact hK _ _ brf rfl
       try go_frame
       refine wgn rfl rfl (by simp) (fun w' hb' hR K hK=> ?_) (fun o7=> ?_)
       ·obtain rfl:o6= .pointer (some ⟨b,off+k*4,none⟩):=hR 6 (by kernel_rfl)
        clear hR
        have q0:=ab hb' y0
        have q1:=ab hb' y1
        have q2:=ab hb' y2
        have q3:=ab hb' y3
        have qz:=Nat.lt_of_lt_of_le zx hb'.size
        go_simp
        exact hK _ _ brf rfl
       try go_frame
       refine wgn rfl rfl (by simp) (fun w' hb' hR K hK=> ?_) (fun o8=> ?_)
       ·clear hR
        go_simp
        exact hK _ _ brf rfl
       try go_frame
       refine wgn rfl rfl (by simp) (fun w' hb' hR K hK=> ?_) (fun o9=> ?_)
       ·clear hR
        go_simp
        exact hK _ _ brf rfl
       try go_frame
       refine wgn rfl rfl (by simp) (fun w' hb' hR K hK=> ?_) (fun o10=> ?_)
       ·obtain rfl:o8= .slice (some ⟨b,off,none⟩) n cc:=hR 8 (by kernel_rfl)
        obtain rfl:o9= .int .i64 (m:Int):=hR 9 (by kernel_rfl)
        clear hR
        go_simp
        exact hK _ _ brf rfl
       try go_frame
       refine wgn rfl rfl (by simp) (fun w' hb' hR K hK=> ?_) (fun o11=> ?_)
       ·obtain rfl:o10= .pointer (some ⟨b,off+m*4,none⟩):=hR 10 (by kernel_rfl)
        clear hR
        have q0:=ab hb' z0
        have q1:=ab hb' z1
        have q2:=ab hb' z2
        have q3:=ab hb' z3
        have qz:=Nat.lt_of_lt_of_le zx hb'.size
        go_simp
        exact hK _ _ brf rfl
       try go_frame
       refine wgn rfl rfl (by simp) (fun w' hb' hR K hK=> ?_) (fun o12=> ?_)
       ·obtain rfl:o3=v4 (P0,P1,P2,P3):=hR 3 (by kernel_rfl)
        obtain rfl:o7=v4 (Q0,Q1,Q2,Q3):=hR 7 (by kernel_rfl)
        obtain rfl:o11=v4 (S0,S1,S2,S3):=hR 11 (by kernel_rfl)
        clear hR
        go_simp
        refine((HPi _).out).mono ?_
        rintro e w1 ⟨rfl,hb1⟩
        exact hK _ _ hb1 rfl
       try go_frame
       refine wgn rfl rfl (by simp) (fun w' hb' hR K hK=> ?_) (fun o13=> ?_)
       ·obtain rfl:o12= .tuple #[v4 (R0,R1,R2,R3), .bool ok]:=hR 12 (by kernel_rfl)
        clear hR
        go_simp
        exact hK _ _ brf rfl
       try go_frame
       refine wgn rfl rfl (by simp) (fun w' hb' hR K hK=> ?_) (fun o14=> ?_)
       ·obtain rfl:o13= .tuple #[v4 (R0,R1,R2,R3), .bool ok]:=hR 13 (by kernel_rfl)
        clear hR
        go_simp
        exact hK _ _ brf rfl
       try go_frame
       refine wgz rfl rfl (fun w' hb' hR K' hK'=> ?_) (fun o15=> ?_)
       ·obtain rfl:o13= .tuple #[v4 (R0,R1,R2,R3), .bool ok]:=hR 13 (by kernel_rfl)
        clear hR
        go_simp
        exact hK' _ (fun _=>rfl)
       try go_frame
       refine wgn rfl rfl (by simp) (fun w' hb' hR K hK=> ?_) (fun o16=> ?_)
       ·clear hR
        have zz:=hb'.size
        go_simp
        exact hK _ _ bel ⟨_,rfl,zz,ai rfl⟩
       try go_frame
       refine uL (fun w' hb' hR=> ?_)
       obtain rfl:o14=v4 (R0,R1,R2,R3):=hR 14 (by simp)
       obtain rfl:o15= .bool ok:=hR 15 (by simp)
       obtain⟨g,rfl,hg,hB⟩:yd wr.heap.size 131 #[.int .i64 0, .int .i64 0, .int .i64 0, .int .i64 0] o16 w':=hR 16 (by simp)
       have HB:=Lib.hid hB
       obtain⟨c0,c1,c2,c3,cf,cz⟩:=am hB
       obtain⟨X,HX⟩:∃X,Hid (tB w' g (.int .i64 R0) (.int .i64 R1) (.int .i64 R2) (.int .i64 R3)=X):=⟨_,Lib.hid rfl⟩
       have hwX:Below wr.heap.size wr X:=by rw[←HX.out];exact ru hb' hg _ _ _ _
       have HBX:Hid (X.heap[g]? =some (.cells #[.int .i64 R0, .int .i64 R1, .int .i64 R2, .int .i64 R3] 131 (0,0))):=Lib.hid (by rw[←HX.out];exact pI HB.out _ _ _ _)
       have eX:(((w'.setCell ⟨g,0,none⟩ (.int .i64 R0)).setCell ⟨g,1,none⟩ (.int .i64 R1)).setCell ⟨g,2,none⟩ (.int .i64 R2)).setCell ⟨g,3,none⟩ (.int .i64 R3)=X:=HX.out
       have hbX:=fB hb hwX
       have HOX:=Lib.hid (au HO.out hwX)
       clear hR hB x0 x1 x2 x3 y0 y1 y2 y3 z0 z1 z2 z3 zx HPi
       simp only[oas]
       go_wp2
       refine NoPanic.normal ?_
       try rw[eX]
       clear eX HX HB c0 c1 c2 c3 cf cz hb' hwX HO hb
       obtain⟨c0,c1,c2,c3,cf,cz⟩:=am HBX.out
       cases ok with
       |false=>
        have he:=Lib.hid (Hno'.out (by first|trivial|rfl))
        go_wp2
        go_roundw
        case rel=>exact⟨m+1,by omega,by go_num,hbX,Lib.hid (by rw[he.out];exact HOX.out)⟩
        case measure=>first|(simp[intOf];done)|(simp[intOf];omega)
       |true=>
        have HA2:=Lib.hid ((HAi rfl X hbX).out)
        clear HAi
        go_wp2_with fail
        refine(HA2.out).mono ?_
        rintro en w2 ⟨rfl,hb2⟩
        have HO2:=Lib.hid (au HOX.out hb2)
        have HB2:=Lib.hid ((hb2.block _ cz).trans HBX.out)
        have hbX:=fB hbX hb2
        have HOX:=HO2
        clear HA2 hb2 HO2 c0 c1 c2 c3 cf cz HBX
        obtain⟨c0,c1,c2,c3,cf,cz⟩:=am HB2.out
        cases al with
        |false=>
         have he:=Lib.hid (Hbar'.out (by first|trivial|rfl) (by first|trivial|rfl))
         go_wp2
         go_roundw
         case rel=>exact⟨m+1,by omega,by go_num,hbX,Lib.hid (by rw[he.out];exact HOX.out)⟩
         case measure=>first|(simp[intOf];done)|(simp[intOf];omega)
        |true=>
         have he:=Lib.hid (Hyes'.out (by first|trivial|rfl) (by first|trivial|rfl))
         have HHc:=Lib.hid (mV A (R0,R1,R2,R3) _ w2 (by omega) (dV HOX.out))
         clear Hno' Hbar' Hyes'
         by_cases hin:(R0,R1,R2,R3)∈A
         ·rw[decide_eq_true hin]at HHc
          have he2:=Lib.hid (he.out.trans ((HAcc.out _).trans (if_pos hin)))
          go_wp2_with fail
          refine(HHc.out).mono ?_
          rintro en w3 ⟨rfl,hb3⟩
          have hbX:=fB hbX hb3
          have HOX:=Lib.hid (au HOX.out hb3)
          go_wp2
          go_roundw
          case rel=>exact⟨m+1,by omega,by go_num,hbX,Lib.hid (by rw[he2.out];exact HOX.out)⟩
          case measure=>first|(simp[intOf];done)|(simp[intOf];omega)
         ·rw[decide_eq_false hin]at HHc
          have he2:=Lib.hid (he.out.trans ((HAcc.out _).trans (if_neg hin)))
          go_wp2_with fail
          refine(HHc.out).mono ?_
          rintro en w3 ⟨rfl,hb3⟩
          have hbX:=fB hbX hb3
          have HOX:=Lib.hid (au HOX.out hb3)
          have HB3:=Lib.hid ((hb3.block _ cz).trans HB2.out)
          clear hb3 HHc he HAcc c0 c1 c2 c3 cf cz HB2
          obtain⟨c0,c1,c2,c3,cf,cz⟩:=am HB3.out
          go_wp2_with (at_builtin;refine wpList_append_own _ rfl _ _ 57 rfl W.heap.size 131 i0 (v4 (0,0,0,0)) 4 32 kO Hi0.out.1 Hi0.out.2.1 Hi0.out.2.2.1 Hi0.out.2.2.2 rfl (by decide) _ A.length _ rfl (HOX.out.alloc _) ⟨w3.heap.size,0,none⟩ 1 1 (aH (R0,R1,R2,R3)) rfl rfl ?c1 ?c2 ?c3 ?c4 ?c5 ?_)
          case c1=>
           intro jj uu hu
           rw[jY,aq rfl jj]
           simpa [aH]using hu
          case c2=>intro v hv;simp[aH]at hv;rcases hv with rfl|rfl|rfl|rfl<;>rfl
          case c3=>unfold maxLen;omega
          case c4=>omega
          case c5=>simp;have:=hbX.size;omega
          intro v' w4 hown4 hg4 _
          have hb4:Below W.heap.size W w4:=(hbX.alloc hbX.size _).grown hg4 (by simp;have:=hbX.size;omega) (fun z hz=>by have:=(HOX.out.lt z hz).1;omega)
          have HO4:=Lib.hid hown4
          clear hown4 hg4
          go_wp2
          go_roundw
          case rel=>exact⟨m+1,by omega,by go_num,hb4,Lib.hid (by rw[he2.out];simpa using HO4.out)⟩
          case measure=>first|(simp[intOf];done)|(simp[intOf];omega)
      ·obtain rfl:m=k:=by omega
       have g5:¬(m:Int)<(m:Int):=by omega
       go_wp2
       go_roundw
       case rel=>exact⟨m+1,by omega,by go_num,hb,Lib.hid (by rw[←(Hm i m).out];exact HO.out)⟩
       case measure=>first|(simp[intOf];done)|(simp[intOf];omega)
    ·obtain rfl:k=i:=by omega
     have g3:¬(k:Int)<(k:Int):=by omega
     go_wp2
     go_roundw
     case rel=>exact⟨k+1,by omega,by go_num,hb,Lib.hid (by rw[←(Hk k).out];exact HO.out)⟩
     case measure=>first|(simp[intOf];done)|(simp[intOf];omega)
  ·obtain rfl:i=n:=by omega
   have g1:¬(i:Int)<(i:Int):=by omega
   go_wp2
   go_ret
   exact⟨_,rfl,hb,by rw[←Hfin.out];exact HO.out⟩
end
end Go.Proofs.YtleamcmbhioedaaGreatDoor
