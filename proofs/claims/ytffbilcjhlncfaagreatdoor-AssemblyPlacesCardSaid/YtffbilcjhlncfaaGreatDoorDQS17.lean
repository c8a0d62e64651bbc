/- texts: J9 J13 J14 V2 V3 W1 Pl W2 W3 W4 W5. -/
import Derived.Test.YtffbilcjhlncfaaGreatDoorDQS16
import Derived.Test.YtffbilcjhlncfaaGreatDoorDQShelf
import Derived.Lib.AppendIntMem
import Derived.Lib.ItoaLen
namespace Go.Proofs.YtffbilcjhlncfaaGreatDoor
set_option maxHeartbeats 8000000
set_option linter.all false
section
open Go.RowKit Go.Shelf
attribute [local go_sem] Ext.cell Ext.frozen
theorem vk {w w':World} (h:Lib.TabIs Tryz.prog w "internal/strconv.uint64pow10" .u64 Lib.pow10Tab) (hb:Below w.heap.size w w'):Lib.TabIs Tryz.prog w' "internal/strconv.uint64pow10" .u64 Lib.pow10Tab:=by
 obtain⟨g,hg⟩:=Option.isSome_iff_exists.1 (show(Tryz.prog.globalNamed "internal/strconv.uint64pow10").isSome=true by kernel_rfl)
 unfold Lib.TabIs World.var? at h ⊢
 rw[hg]at h ⊢
 simp only[Option.bind_some]at h ⊢
 have hlt:g<w.heap.size:=by
  rcases Nat.lt_or_ge g w.heap.size with h'|h'
  ·exact h'
  ·rw[Array.getElem?_eq_none h']at h;cases h
 rw[hb.block g hlt]
 exact h
theorem vi (n:Int) (hn: -1000000000≤n∧n≤1000000000) (w:World) (htab:Lib.TabIs Tryz.prog w "internal/strconv.uint64pow10" .u64 Lib.pow10Tab):
  Calls Tryz.prog 79 #[.int .i64 n] w (Ret w (.string ⟨(Lib.itoa n).toArray⟩)):=
 (Tryz.strconv_Itoa n (by omega) (by omega) w htab).mono (by
  rintro e w' ⟨rfl,k,os,rfl⟩
  exact⟨rfl,Lib.below_grow _ _ (qaA _) k os⟩)
def txt (x:Int):ByteArray:=⟨(Lib.itoa x).toArray⟩
theorem vj:(Tryz.prog.info? 9).map (fun i=>(i.zero,i.size,i.bytes))=some (some (.string ⟨#[]⟩),1,16):=by kernel_rfl
theorem qcL:Tryz.prog.underlying 132=some (.slice 9):=by kernel_rfl
theorem ss (xs:List Int):∀u∈xs.map (Value.int .i64),u.oneCell'=true:=fun u hu=>by
 obtain⟨x,_,rfl⟩:=altt.1 hu;rfl
theorem pA {W:World} {b off m c:Nat} {xs:List Int} (h:IntsAt W b off xs) (hl:xs.length=m):Raw W 1 (.slice (some ⟨b,off,none⟩) m c) (xs.map (Value.int .i64)):=
 ⟨_,_,_,rfl,by simp[hl],(fun h=>by cases h),fun ad ha j u hu=>by
  cases ha
  have hj:j<xs.length:=by simpa using(List.getElem?_eq_some_iff.1 hu).1
  have:=h j hj
  have hu':u= .int .i64 xs[j]:=by rw[List.getElem?_map,List.getElem?_eq_getElem hj]at hu;simpa using hu.symm
  subst hu'
  by_cases h0:j=0
  ·subst h0;simpa [Addr.add]using this
  ·simpa [Addr.add,h0]using this⟩
theorem vl {w:World} {base:Nat} {e:TypeId} {v:Value} {n:Nat} {xs:List Int} (h:w.ownsRow base e 1 v n (xs.map (Value.int .i64))) (h0:0<xs.length):
  n=xs.length∧∃g cap cur,v= .slice (some ⟨g,0,none⟩) n cap∧w.heap[g]? =some (.cells cur e (0,0))∧∀i (hi:i<xs.length),cur[i]? =some (.int .i64 xs[i]):=by
 have hl:n=xs.length:=by have:=h.1;simp at this;omega
 rcases h.2 with⟨_,h1⟩|⟨g,cap,cur,rfl,_,hh,_,_,_,ht⟩
 ·omega
 ·refine⟨hl,g,cap,cur,rfl,hh,fun i hi=> ?_⟩
  have h2:(cur.toList.take (n*1))[i]? =(xs.map (Value.int .i64))[i]? :=by rw[ht]
  rw[qdx (by omega),List.getElem?_map,List.getElem?_eq_getElem hi]at h2
  simpa using h2
theorem Qx {w:World} {base:Nat} {e:TypeId} {v:Value} {n:Nat} {xs:List ByteArray} (h:w.ownsRow base e 1 v n (xs.map Value.string)) (h0:0<xs.length):
  ∃g cap,v= .slice (some ⟨g,0,none⟩) xs.length cap∧xs.length≤cap∧g<w.heap.size∧∀(j:Nat) x,xs[j]? =some x→w.cell? ⟨g,0+j,none⟩=some (.string x):=by
 have hl:n=xs.length:=by have:=h.1;simp at this;omega
 rcases h.2 with⟨_,h1⟩|⟨g,cap,cur,rfl,_,hh,hc,_,_,ht⟩
 ·omega
 ·subst hl
  refine⟨g,cap,rfl,hc,ah hh,fun i x hx=> ?_⟩
  obtain⟨hi,rfl⟩:=List.getElem?_eq_some_iff.1 hx
  have h2:(cur.toList.take (xs.length*1))[i]? =(xs.map Value.string)[i]? :=by rw[ht]
  rw[qdx (by omega),List.getElem?_map,List.getElem?_eq_getElem hi]at h2
  rw[bq hh,qfW]
  simpa using h2
def Each (w:World) (v:Value) {α:Type} (E:World→Value→α→Prop) (cs:List α):Prop:=
 ∃a m c,v= .slice a m c∧cs.length=m∧m≤c∧(0<m→∃b off,a=some ⟨b,off,none⟩∧∀i (h:i<cs.length),∃u,w.cell? ⟨b,off+i,none⟩=some u∧E w u cs[i])
theorem Each.below {w w':World} {v:Value} {α:Type} {E:World→Value→α→Prop} {cs:List α} (hE:∀u c w w',Below w.heap.size w w'→E w u c→E w' u c) (h:Each w v E cs) (hb:Below w.heap.size w w'):Each w' v E cs:=by
 obtain⟨a,m,c,hv,hl,hc,hx⟩:=h
 refine⟨a,m,c,hv,hl,hc,fun h0=> ?_⟩
 obtain⟨b,off,ha,hi⟩:=hx h0
 exact⟨b,off,ha,fun i h=>by obtain⟨u,hu,he⟩:=hi i h;exact⟨u,ab hb hu,hE _ _ _ _ hb he⟩⟩
def At (B:Nat) (v:Value):Prop:=∀a m c,v= .slice (some a) m c→B≤a.block
theorem At.mono {B B':Nat} {v:Value} (h:At B v) (hb:B'≤B):At B' v:=fun a m c e=>qaD hb (h a m c e)
theorem At.mk {B g m c:Nat} (h:B≤g):At B (.slice (some ⟨g,0,none⟩) m c):=fun a _ _ e=>by cases e;exact h
def PlanesV (B:Nat) (w:World) (v:Value) (ps:List Q4):Prop:=Raw w 4 v (ps.flatMap aH)∧At B v
def CellsV (B:Nat) (w:World) (v:Value) (cs:List (List Q4)):Prop:=Each w v (PlanesV B) cs∧At B v
def PartsV (B:Nat) (w:World) (v:Value) (cs:List (List (List Q4))):Prop:=Each w v (CellsV B) cs∧At B v
theorem PlanesV.below {B:Nat} {w w':World} {v:Value} {ps:List Q4} (h:PlanesV B w v ps) (hb:Below w.heap.size w w'):PlanesV B w' v ps:=⟨Raw.below h.1 hb,h.2⟩
theorem CellsV.below {B:Nat} {w w':World} {v:Value} {ps:List (List Q4)} (h:CellsV B w v ps) (hb:Below w.heap.size w w'):CellsV B w' v ps:=⟨Each.below (fun _ _ _ _ hb h=>PlanesV.below h hb) h.1 hb,h.2⟩
theorem PartsV.below {B:Nat} {w w':World} {v:Value} {ps:List (List (List Q4))} (h:PartsV B w v ps) (hb:Below w.heap.size w w'):PartsV B w' v ps:=⟨Each.below (fun _ _ _ _ hb h=>CellsV.below h hb) h.1 hb,h.2⟩
theorem Each.imp {w:World} {v:Value} {α:Type} {E E':World→Value→α→Prop} {cs:List α} (hE:∀u c,E w u c→E' w u c) (h:Each w v E cs):Each w v E' cs:=by
 obtain⟨a,m,c,rfl,hl,hc,hx⟩:=h
 refine⟨a,m,c,rfl,hl,hc,fun h0=> ?_⟩
 obtain⟨b,off,rfl,hi⟩:=hx h0
 exact⟨b,off,rfl,fun k h=>by obtain⟨u,hu,he⟩:=hi k h;exact⟨u,hu,hE _ _ he⟩⟩
theorem PlanesV.mono {B B':Nat} {w:World} {v:Value} {ps:List Q4} (h:PlanesV B w v ps) (hb:B'≤B):PlanesV B' w v ps:=⟨h.1,h.2.mono hb⟩
theorem CellsV.mono {B B':Nat} {w:World} {v:Value} {ps:List (List Q4)} (h:CellsV B w v ps) (hb:B'≤B):CellsV B' w v ps:=⟨h.1.imp (fun _ _ h=>PlanesV.mono h hb),h.2.mono hb⟩
theorem PartsV.mono {B B':Nat} {w:World} {v:Value} {ps:List (List (List Q4))} (h:PartsV B w v ps) (hb:B'≤B):PartsV B' w v ps:=⟨h.1.imp (fun _ _ h=>CellsV.mono h hb),h.2.mono hb⟩
def IsO (B n:Nat) (ps:List Q4):Value→World→Prop:=fun v w=>w.ownsRow B 190 4 v n (ps.flatMap aH)
theorem fJ (B n:Nat) (ps:List Q4):dR (IsO B n ps):=fun _ _ _ hb h=>au h hb
def RowsV (w:World) (B:Nat) (vs:List Value) (css:List (List Q4)):Prop:=
 vs.length=css.length∧∀i (h1:i<vs.length) (h2:i<css.length),w.ownsRow B 190 4 vs[i] css[i].length (css[i].flatMap aH)
theorem RowsV.below {w w':World} {B:Nat} {vs:List Value} {css:List (List Q4)} (h:RowsV w B vs css) (hb:Below w.heap.size w w'):RowsV w' B vs css:=⟨h.1,fun i h1 h2=>au (h.2 i h1 h2) hb⟩
theorem RowsV.snoc {w:World} {B:Nat} {vs:List Value} {css:List (List Q4)} {v:Value} {cs:List Q4} (h:RowsV w B vs css) (hv:w.ownsRow B 190 4 v cs.length (cs.flatMap aH)):RowsV w B (vs++[v]) (css++[cs]):=by
 refine⟨by simp[h.1],fun i h1 h2=> ?_⟩
 by_cases hi:i<vs.length
 ·have hc:i<css.length:=by rw[←h.1];exact hi
  rw[qgn hi,qgn hc]
  exact h.2 i hi hc
 ·have he:i=vs.length:=by simp at h1;omega
  subst he
  have:=h.1
  simp only[List.getElem_append_right (qaA _),Nat.sub_self,qdt]
  rw[List.getElem_append_right (by omega)]
  simp only[this,Nat.sub_self,qdt]
  exact hv
theorem RowsV.nil {w:World} {B:Nat}:RowsV w B [] []:=⟨rfl,fun _ h=>by simp at h⟩
theorem RowsV.kept {w w':World} {B:Nat} {vs:List Value} {css:List (List Q4)} {row:Option Nat} (h:RowsV w B vs css) (hg:w.grownBy w' row) (hne:∀g cs,row=some g→w.heap[g]? =some cs→∃c t,cs= .cells c t (0,0)∧t≠190):RowsV w' B vs css:=by
 refine⟨h.1,fun i h1 h2=>(h.2 i h1 h2).kept hg ?_⟩
 cases hr:row with
 |none=>cases hv:vs[i].ownBlock<;>simp
 |some g=>
  right
  intro e
  rcases(h.2 i h1 h2).2 with⟨hv,_⟩|⟨g',cap,cur,hv,_,hh,_⟩
  ·rw[hv]at e;simp[Value.ownBlock]at e
  ·rw[hv]at e
   have:g'=g:=by simpa [Value.ownBlock]using e
   subst this
   obtain⟨c,t,h3,h4⟩:=hne _ _ hr hh
   cases h3
   exact h4 rfl
theorem RowsV.set {w:World} {B g i:Nat} {u:Value} {vs:List Value} {css:List (List Q4)} {c:Array Value} {T:TypeId} (h:RowsV w B vs css) (hg:w.heap[g]? =some (.cells c T (0,0))) (hT:190≠T):RowsV (w.setCell ⟨g,i,none⟩ u) B vs css:=
 ⟨h.1,fun k h1 h2=>aF (h.2 k h1 h2) _ _ (fun e=>aG (h.2 k h1 h2) hg hT e.symm)⟩
theorem RowsV.mono {w:World} {B B':Nat} {vs:List Value} {css:List (List Q4)} (h:RowsV w B vs css) (hb:B'≤B):RowsV w B' vs css:=⟨h.1,fun i h1 h2=>AY (h.2 i h1 h2) hb⟩
theorem jC {w:World} {base:Nat} {e:TypeId} {size n:Nat} {v:Value} {xs:List Value} (h:w.ownsRow base e size v n xs):∀g cs,v.ownBlock=some g→w.heap[g]? =some cs→∃c t,cs= .cells c t (0,0)∧t=e:=by
 intro g cs hv hg
 rcases h.2 with⟨rfl,_⟩|⟨g',cap,cur,rfl,_,hh,_⟩
 ·simp[Value.ownBlock]at hv
 ·have:g'=g:=by simpa [Value.ownBlock]using hv
  subst this
  rw[hh]at hg
  cases hg
  exact⟨_,_,rfl,rfl⟩
theorem nt:(Tryz.prog.info? 164).map (fun i=>(i.zero,i.size,i.bytes))=some (some (.agg #[.slice none 0 0]),1,24):=by kernel_rfl
theorem nu:Tryz.prog.underlying 73=some (.slice 164):=by kernel_rfl
theorem qcz (ps:List Q4):∀u∈ps.flatMap aH,u.oneCell'=true:=fun u hu=>by
 obtain⟨x,_,hx⟩:=List.mem_flatMap.1 hu
 exact mh x u hx
theorem bh (ps:List Q4):(ps.flatMap aH).length=ps.length*4:=by
 induction ps with
 |nil=>rfl
 |cons p ps ih=>simp[aH]at ih ⊢;omega
theorem jD (l:List Q4):∀i (h:i<l.length),l[i]∈Lib.compact l
 |0,h=>by
  simp only[Lib.compact,Lib.compactUpTo,altt,alsm,ultv]
  exact⟨0,⟨h,by simp[Lib.keeps]⟩,by rw[getElem!_pos l.toArray 0 (by simpa using h)];simp⟩
 |i+1,h=>by
  by_cases hk:Lib.keeps l.toArray (i+1)=true
  ·simp only[Lib.compact,Lib.compactUpTo,altt,alsm,ultv]
   exact⟨i+1,⟨h,hk⟩,by rw[getElem!_pos l.toArray (i+1) (by simpa using h)];simp⟩
  ·have e:l[i+1]=l[i]:=by
    simp only[Lib.keeps]at hk
    rw[getElem!_pos l.toArray (i+1) (by simpa using h),getElem!_pos l.toArray (i+1-1) (by simp;omega)]at hk
    simpa using hk
   rw[e]
   exact jD l i (by omega)
theorem qhs (l:List Q4) (x:Q4):x∈Lib.compact l↔x∈l:=
 ⟨kU,fun h=>by obtain⟨i,hi,rfl⟩:=qaJ h;exact jD l i hi⟩
theorem UP (ps:List Q4) (c:Q4):c∈aS ps↔c∈raw ps ps.length:=by
 unfold aS
 rw[qhs]
 simp[ed]
theorem ld {ps:List Q4} {n:Nat} {c:Q4} (h:c∈raw ps n):bG ps c=true:=by
 unfold raw gJ gI at h
 simp only[List.mem_flatMap,ultv]at h
 obtain⟨i,_,k,_,m,_,h⟩:=h
 unfold jo at h
 split at h
 ·cases h
 ·split at h
  ·rename_i ha
   rw[ultg]at h
   subst h
   exact ha
  ·cases h
theorem dL {ps:List Q4} {c:Q4} (h:bG ps c=true) {p:Q4} (hp:p∈ps):0≤slk p (xyz c) c.2.2.2:=by
 unfold bG at h
 simp only[Bool.not_eq_true',ultp,qfV]at h
 have:=h p hp
 rw[mt,kS]at this
 omega
theorem vu (a b:Q3):bj a b=bj b a:=by unfold bj;grind
end
section
open Go.RowKit Go.Sort Go.Lib
theorem jE {le:Q4→Q4→Prop} (l:List Q4) (hs:l.Pairwise le) (anti:∀x∈l,∀y∈l,le x y→le y x→x=y):(Lib.compact l).Pairwise (fun x y=>le x y∧x≠y):=by
 rw[List.pairwise_iff_getElem]at hs
 unfold Lib.compact Lib.compactUpTo
 rw[List.pairwise_map,List.pairwise_filter]
 refine List.Pairwise.imp_of_mem ?_ List.pairwise_lt_range
 intro a b ha hb hab _ kb
 have ha':a<l.length:=ultv.1 ha
 have hb':b<l.length:=ultv.1 hb
 simp only[Lib.keeps,qfV]at kb
 rw[getElem!_pos l.toArray b (by simpa using hb'),getElem!_pos l.toArray (b-1) (by simp;omega)]at kb
 rw[getElem!_pos l.toArray b (by simpa using hb'),getElem!_pos l.toArray a (by simpa using ha')]
 simp only[List.getElem_toArray]at kb ⊢
 have kb':l[b]≠l[b-1]:=by
  rcases kb with h|h
  ·omega
  ·exact h
 have hab':=hs a b ha' hb' hab
 refine⟨hab',fun e=>kb' ?_⟩
 by_cases h1:a=b-1
 ·subst h1;exact e.symm
 ·have h2:=hs a (b-1) ha' (by omega) (by omega)
  have h3:=hs (b-1) b (by omega) hb' (by omega)
  rw[←e]at h3
  have:=anti _ (qaB ha') _ (qaB (by omega)) h2 h3
  rw[←e,this]
theorem SJ (ps:List Q4):(iP ps).Pairwise (fun x y=>¬bD y x<0):=by
 have:=List.pairwise_mergeSort (le:=fun x y:Q4=> !decide (bD y x<0))
  (fun a b c h1 h2=>by
   simp only[Bool.not_eq_true',decide_eq_false_iff_not,dx]at*
   omega)
  (fun a b=>by
   simp only[qgf,Bool.not_eq_true',decide_eq_false_iff_not,dx]at*
   omega) ps
 refine List.Pairwise.imp ?_ this
 intro a b h
 simpa using h
theorem sw {x y:Q4} (h1:¬bD y x<0) (h2:¬bD x y<0):x=y:=yB x y (by rw[sX];simpa using h2) (by rw[sX];simpa using h1)
theorem vv {x y:Q4} (h1:¬bD y x<0) (h2:x≠y):bD x y<0:=qgk fun h=>h2 (sw h1 h)
theorem gN (ps cs:List Q4):(Sp ps cs).Pairwise (fun x y=>bD x y<0):=by
 unfold Sp
 exact(jE _ (SJ _) (fun x _ y _ h1 h2=>sw h1 h2)).imp (fun h=>vv h.1 h.2)
theorem Sq (ps cs:List Q4) (x:Q4):x∈Sp ps cs↔∃p∈ps,onB cs p=true∧x=dG p:=by
 unfold Sp
 rw[qhs]
 simp only[iP,List.mem_mergeSort,iZ,altt,alsm]
 constructor
 ·rintro⟨p,⟨hp,ho⟩,rfl⟩;exact⟨p,hp,ho,rfl⟩
 ·rintro⟨p,hp,ho,rfl⟩;exact⟨p,⟨hp,ho⟩,rfl⟩
theorem vw (x:Q4):¬bD x x<0:=by rw[dx];omega
theorem vx {x y:Q4} (h:bD x y<0):¬bD y x<0:=by rw[dx]at*;omega
theorem vy {x y z:Q4} (h1:bD x y<0) (h2:bD y z<0):bD x z<0:=by rw[dx]at*;omega
theorem jb:∀{l1 l2:List Q4},l1.Pairwise (fun x y=>bD x y<0)→l2.Pairwise (fun x y=>bD x y<0)→(∀x,x∈l1↔x∈l2)→l1=l2
 | [],[],_,_,_=>rfl
 | [],b::l2,_,_,h=>by have:=(h b).2 (by simp);cases this
 |a::l1,[],_,_,h=>by have:=(h a).1 (by simp);cases this
 |a::l1,b::l2,h1,h2,h=>by
  rw[List.pairwise_cons]at h1 h2
  have e:a=b:=by
   rcases alsk.1 ((h a).1 (by simp))with e|ha
   ·exact e
   ·rcases alsk.1 ((h b).2 (by simp))with e|hb
    ·exact e.symm
    ·exact absurd (h1.1 b hb) (vx (h2.1 a ha))
  subst e
  rw[jb h1.2 h2.2 (fun x=> ?_)]
  constructor
  ·intro hx
   rcases alsk.1 ((h x).1 (List.mem_cons_of_mem _ hx))with e|h3
   ·subst e;exact absurd (h1.1 _ hx) (vw _)
   ·exact h3
  ·intro hx
   rcases alsk.1 ((h x).2 (List.mem_cons_of_mem _ hx))with e|h3
   ·subst e;exact absurd (h2.1 _ hx) (vw _)
   ·exact h3
theorem ro (cs:List Q4) (hcs:∀c∈cs,dI c):(ed cs).Pairwise (fun x y=>¬iO y x<0):=by
 have hv:(cs.attachWith dI hcs).map Subtype.val=cs:=List.attachWith_map_subtype_val hcs
 have e:(List.mergeSort (cs.attachWith dI hcs) fun x y=> !ltOf jt y x).map Subtype.val=ed cs:=by
  unfold ed
  have:=List.map_mergeSort (r:=fun x y:NCo=> !ltOf jt y x) (s:=fun x y=> !decide (iO y x<0)) (f:=Subtype.val) (l:=cs.attachWith dI hcs) (fun a _ b _=>rfl)
  rw[this,hv]
 have:=List.pairwise_mergeSort (le:=fun x y:NCo=> !ltOf jt y x)
  (fun a b c h1 h2=>by
   simp only[Bool.not_eq_true']at*
   exact swoPt.ntrans _ _ _ h2 h1)
  (fun a b=>by
   simp only[qgf,Bool.not_eq_true']
   cases h:ltOf jt b a with
   |false=>exact Or.inl rfl
   |true=>
    right
    cases h2:ltOf jt a b with
    |false=>rfl
    |true=>
     have:=swoPt.trans _ _ _ h h2
     rw[swoPt.irrefl]at this
     cases this) (cs.attachWith dI hcs)
 rw[←e,List.pairwise_map]
 refine List.Pairwise.imp ?_ this
 intro a b h
 simpa [qK]using h
theorem fV (ps:List Q4) (h:∀p∈ps,bI p):(aS ps).Nodup:=by
 unfold aS
 have hn:=iD ps h ps.length (qaA _)
 refine(jE _ (ro _ hn) (fun x hx y hy h1 h2=> ?_)).imp (fun h=>h.2)
 have hx':x∈raw ps ps.length:=by simpa [ed]using hx
 have hy':y∈raw ps ps.length:=by simpa [ed]using hy
 have:=Wx ⟨x,hn x hx'⟩ ⟨y,hn y hy'⟩ (by rw[qK];simpa using h2) (by rw[qK];simpa using h1)
 exact congrArg Subtype.val this
theorem mw {cs ds:List Q4} (hc:cs.Nodup) (hd:ds.Nodup) (h:∀x,x∈cs↔x∈ds) (p:Q4):cQ p cs=cQ p ds:=by
 unfold cQ
 exact(((List.perm_ext_iff_of_nodup hc hd).2 h).filter _).length_eq
theorem YN {ps:List Q4} {n:Nat} (hn:n≤ps.length) {c:Q4} (h:c∈raw ps n):∃p∈ps,∃q∈ps,∃r∈ps,bN p q r≠0∧c=TB p q r (bN p q r):=by
 unfold raw gJ gI at h
 simp only[List.mem_flatMap,ultv]at h
 obtain⟨i,hi,k,hk,m,hm,h⟩:=h
 unfold jo at h
 split at h
 ·cases h
 ·rename_i h0
  split at h
  ·rw[ultg]at h
   have g:∀j,j<ps.length→fk ps j∈ps:=fun j hj=>by
    have:fk ps j=ps[j]:=by simp[fk,List.getD,hj]
    rw[this];exact qaB hj
   exact⟨_,g i (by omega),_,g k (by omega),_,g m (by omega),h0,h⟩
  ·cases h
def kp (out:List Q4) (p:Q4):List Q4:=
 if(out.dropWhile (fun q=>decide (bD q p<0))).head?=some p then out else out.takeWhile (fun q=>decide (bD q p<0))++p::out.dropWhile (fun q=>decide (bD q p<0))
def dX (cs:List Q4) (out:List Q4) (p:Q4):List Q4:=if 3≤cQ (dG p) cs then kp out (dG p)else out
def ch (ps:List Q4):List Q4:=ps.foldl (dX (ct ps)) []
theorem tw (l:List Q4):∀out:List Q4,out.Nodup→(l.foldl NW out).Nodup∧∀x,x∈l.foldl NW out↔x∈out∨x∈l:=by
 induction l with
 |nil=>intro out h;exact⟨h,fun x=>by simp⟩
 |cons c l ih=>
  intro out h
  rw[List.foldl_cons]
  by_cases hc:c∈out
  ·have e:NW out c=out:=by simp[NW,hc]
   rw[e]
   obtain⟨h1,h2⟩:=ih out h
   refine⟨h1,fun x=> ?_⟩
   rw[h2,alsk]
   constructor
   ·rintro(h|h)
    ·exact Or.inl h
    ·exact Or.inr (Or.inr h)
   ·rintro(h|rfl|h)
    ·exact Or.inl h
    ·exact Or.inl hc
    ·exact Or.inr h
  ·have e:NW out c=out++[c]:=by simp[NW,hc]
   rw[e]
   obtain⟨h1,h2⟩:=ih (out++[c]) (by
    rw[List.nodup_append]
    exact⟨h,by simp,fun a ha b hb=>by simp at hb;subst hb;exact fun e=>hc (e▸ha)⟩)
   refine⟨h1,fun x=> ?_⟩
   rw[h2,altl,ultg,alsk]
   constructor
   ·rintro((h|h)|h)
    ·exact Or.inl h
    ·exact Or.inr (Or.inl h)
    ·exact Or.inr (Or.inr h)
   ·rintro(h|h|h)
    ·exact Or.inl (Or.inl h)
    ·exact Or.inl (Or.inr h)
    ·exact Or.inr h
theorem kT (ps:List Q4):(ct ps).Nodup∧∀x,x∈ct ps↔x∈raw ps ps.length:=by
 obtain⟨h1,h2⟩:=tw (raw ps ps.length) [] List.nodup_nil
 exact⟨h1,fun x=>by rw[ct,h2];simp⟩
theorem SY (out:List Q4) (p:Q4) (h:out.Pairwise (fun x y=>bD x y<0)):(kp out p).Pairwise (fun x y=>bD x y<0)∧∀x,x∈kp out p↔x∈out∨x=p:=by
 have hta:out.takeWhile (fun q=>decide (bD q p<0))++out.dropWhile (fun q=>decide (bD q p<0))=out:=List.takeWhile_append_dropWhile
 have hA:∀q∈out.takeWhile (fun q=>decide (bD q p<0)),bD q p<0:=fun q hq=>by
  have:=alsi.1 (List.all_takeWhile (p:=fun q=>decide (bD q p<0)) (l:=out)) q hq
  simpa using this
 have hH:∀b,(out.dropWhile (fun q=>decide (bD q p<0))).head?=some b→¬bD b p<0:=fun b hb=>by
  have:=List.head?_dropWhile_not (fun q=>decide (bD q p<0)) out
  rw[hb]at this
  simpa using this
 unfold kp
 generalize out.takeWhile (fun q=>decide (bD q p<0))=A at*
 generalize out.dropWhile (fun q=>decide (bD q p<0))=B at*
 subst hta
 split
 ·rename_i hp
  refine⟨h,fun x=>⟨Or.inl, ?_⟩⟩
  rintro(h1|rfl)
  ·exact h1
  ·exact List.mem_append_right _ (List.mem_of_head? hp)
 ·rename_i hp
  refine⟨?_,fun x=> ?_⟩
  ·rw[List.pairwise_append]at h ⊢
   obtain⟨h1,h2,h3⟩:=h
   have hB:∀b∈B,bD p b<0:=by
    cases B with
    |nil=>intro b hb;cases hb
    |cons b0 B=>
     have h0:bD p b0<0:=vv (hH b0 rfl) (fun e=>hp (by rw[e];rfl))
     intro b hb
     rcases alsk.1 hb with rfl|hb
     ·exact h0
     ·exact vy h0 ((List.pairwise_cons.1 h2).1 b hb)
   refine⟨h1,List.pairwise_cons.2 ⟨hB,h2⟩,fun a ha b hb=> ?_⟩
   rcases alsk.1 hb with rfl|hb
   ·exact hA a ha
   ·exact h3 a ha b hb
  ·simp only[altl,alsk]
   constructor
   ·rintro(h|h|h)
    ·exact Or.inl (Or.inl h)
    ·exact Or.inr h
    ·exact Or.inl (Or.inr h)
   ·rintro((h|h)|h)
    ·exact Or.inl h
    ·exact Or.inr (Or.inr h)
    ·exact Or.inr (Or.inl h)
theorem oe (cs:List Q4) (l:List Q4):∀out:List Q4,out.Pairwise (fun x y=>bD x y<0)→
  (l.foldl (dX cs) out).Pairwise (fun x y=>bD x y<0)∧∀x,x∈l.foldl (dX cs) out↔x∈out∨∃p∈l,3≤cQ (dG p) cs∧x=dG p:=by
 induction l with
 |nil=>intro out h;exact⟨h,fun x=>by simp⟩
 |cons q l ih=>
  intro out h
  rw[List.foldl_cons]
  by_cases hc:3≤cQ (dG q) cs
  ·have e:dX cs out q=kp out (dG q):=by simp[dX,hc]
   rw[e]
   obtain⟨i1,i2⟩:=SY out (dG q) h
   obtain⟨h1,h2⟩:=ih _ i1
   refine⟨h1,fun x=> ?_⟩
   rw[h2,i2]
   constructor
   ·rintro((h|h)|⟨p,h3,h4⟩)
    ·exact Or.inl h
    ·exact Or.inr ⟨q,by simp,hc,h⟩
    ·exact Or.inr ⟨p,by simp[h3],h4⟩
   ·rintro(h|⟨p,h3,h4⟩)
    ·exact Or.inl (Or.inl h)
    ·rcases alsk.1 h3 with rfl|h3
     ·exact Or.inl (Or.inr h4.2)
     ·exact Or.inr ⟨p,h3,h4⟩
  ·have e:dX cs out q=out:=by simp[dX,hc]
   rw[e]
   obtain⟨h1,h2⟩:=ih out h
   refine⟨h1,fun x=> ?_⟩
   rw[h2]
   constructor
   ·rintro(h|⟨p,h3,h4⟩)
    ·exact Or.inl h
    ·exact Or.inr ⟨p,by simp[h3],h4⟩
   ·rintro(h|⟨p,h3,h4⟩)
    ·exact Or.inl h
    ·rcases alsk.1 h3 with rfl|h3
     ·exact absurd h4.1 hc
     ·exact Or.inr ⟨p,h3,h4⟩
theorem yY (p c:Q4) (h:cI p):sd (dG p) c=0↔sd p c=0:=by
 have hp:=FJ p.1 p.2.1 p.2.2.1 p.2.2.2 h.2
 have e1:=Int.mul_ediv_cancel' (aY [p.1,p.2.1,p.2.2.1,p.2.2.2] p.1 (by simp))
 have e2:=Int.mul_ediv_cancel' (aY [p.1,p.2.1,p.2.2.1,p.2.2.2] p.2.1 (by simp))
 have e3:=Int.mul_ediv_cancel' (aY [p.1,p.2.1,p.2.2.1,p.2.2.2] p.2.2.1 (by simp))
 have e4:=Int.mul_ediv_cancel' (aY [p.1,p.2.1,p.2.2.1,p.2.2.2] p.2.2.2 (by simp))
 have hs:slk p (xyz c) c.2.2.2=(aU [p.1,p.2.1,p.2.2.1,p.2.2.2]:Int)*slk (dG p) (xyz c) c.2.2.2:=by
  unfold slk bj nrm dG
  simp only
  generalize aU [p.1,p.2.1,p.2.2.1,p.2.2.2]=g at*
  generalize p.1 / (g:Int)=a at*
  generalize p.2.1 / (g:Int)=b at*
  generalize p.2.2.1 / (g:Int)=c' at*
  generalize p.2.2.2 / (g:Int)=d at*
  rw[←e1, ←e2, ←e3, ←e4]
  grind
 rw[mt,mt,dq,dq,hs]
 have hg:(aU [p.1,p.2.1,p.2.2.1,p.2.2.2]:Int)≠0:=by omega
 constructor
 ·intro h;rw[←h];simp
 ·intro h
  exact((Int.mul_eq_zero.1 h.symm).resolve_left hg).symm
theorem xF (ps:List Q4) (hp:∀p∈ps,cI p):ch ps=iS ps:=by
 have hp':∀p∈ps,bI p:=fun p h=>(hp p h).1
 obtain⟨h1,h2⟩:=oe (ct ps) ps [] List.Pairwise.nil
 obtain⟨r1,r2⟩:=kT ps
 refine jb h1 (gN _ _) (fun x=> ?_)
 unfold iS
 rw[ch,h2,Sq]
 have hc:∀p∈ps,(3≤cQ (dG p) (ct ps)↔onB (aS ps) p=true):=fun p hpp=>by
  rw[mw r1 (fV ps hp') (fun x=>by rw[r2,UP])]
  unfold onB cQ
  rw[qfV]
  have:(fun c=>decide (sd (dG p) c=0))=(fun c=>decide (sd p c=0)):=by
   funext c
   exact decide_eq_decide.2 (yY p c (hp p hpp))
  rw[this]
 constructor
 ·rintro(h|⟨p,h3,h4,h5⟩)
  ·cases h
  ·exact⟨p,h3,(hc p h3).1 h4,h5⟩
 ·rintro⟨p,h3,h4,h5⟩
  exact Or.inr ⟨p,h3,(hc p h3).2 h4,h5⟩
end
section
open Go.RowKit Go.Shelf
attribute [local go_sem] Ext.cell Ext.frozen
theorem jF (a b:Int) (w:World) (ha: -1000000000000000≤a∧a≤1000000000000000) (hb: -1000000000000000≤b∧b≤1000000000000000):
  Calls Tryz.prog 188 #[.int .i64 a, .int .i64 b] w (Ret w (.int .i64 (Nat.gcd a.natAbs b.natAbs:Nat))):=by
 have h1:=fun W'=>YJ (sj a W' ha)
 have h2:=fun W'=>YJ (sj b W' hb)
 obtain⟨m,hm⟩:∃m,a.natAbs=m:=⟨_,rfl⟩
 obtain⟨n,hn⟩:∃n,b.natAbs=n:=⟨_,rfl⟩
 have hm':m≤1000000000000000:=by omega
 have hn':n≤1000000000000000:=by omega
 rw[hm]at h1 ⊢
 rw[hn]at h2 ⊢
 clear hm hn ha hb
 go_enter Tryz.func188,Tryz.ntmps188
 go_wp2_with fail
 refine((h1 _).out).mono ?_
 rintro e w1 ⟨rfl,rfl⟩
 go_wp2_with fail
 refine((h2 _).out).mono ?_
 rintro e w2 ⟨rfl,rfl⟩
 go_wp2
 go_loopw [0,1] (fun x y wr=>∃p q:Nat,p≤1000000000000000∧q≤1000000000000000∧x= .int .i64 p∧y= .int .i64 q∧Hid (Nat.gcd m n=Nat.gcd p q)∧Below w.heap.size w wr) (fun _ y _=>(intOf y).toNat)
 case atStart=>exact⟨m,n,hm',hn',rfl,rfl,YJ rfl,brf⟩
 case round=>
  obtain⟨p,q,hp,hq,rfl,rfl,Hr,hb⟩:=hrel
  by_cases hz:0<q
  ·go_wp2
   go_quiet (fail)
   go_wp2
   go_roundw
   case rel=>exact⟨q,p % q,hq,by have:=Nat.mod_lt p hz;omega,by go_num,by go_num,YJ (by rw[oK];exact Hr.out),hb.drewN' _⟩
   simp[intOf];have:=Nat.mod_lt p hz;omega
  ·obtain rfl:q=0:=by omega
   go_wp2
   go_ret
   exact⟨aK (by rw[Hr.out];simp),hb⟩
theorem KP (a b c d:Int):Nat.gcd (Int.natAbs ((Nat.gcd a.natAbs b.natAbs:Nat):Int)) (Int.natAbs ((Nat.gcd c.natAbs d.natAbs:Nat):Int))=aU [a,b,c,d]:=by
 simp[aU,Nat.gcd_assoc]
theorem lH {a b:Int} {B:Nat} (h:b.natAbs≤B) (h0:a.natAbs≤B):Nat.gcd a.natAbs b.natAbs≤B:=by
 by_cases hz:b.natAbs=0
 ·rw[hz];simpa using h0
 ·exact qaD (Nat.gcd_le_right _ (by omega)) h
set_option maxRecDepth 100000 in
theorem pF (a b c d:Int) (w:World) (ha: -10000000≤a∧a≤10000000) (hb: -10000000≤b∧b≤10000000) (hc: -10000000≤c∧c≤10000000) (hd: -10000000≤d∧d≤10000000) (h0:a≠0∨b≠0∨c≠0):
  Calls Tryz.prog 189 #[V4 a b c d] w (Ret w (V4 (dG (a,b,c,d)).1 (dG (a,b,c,d)).2.1 (dG (a,b,c,d)).2.2.1 (dG (a,b,c,d)).2.2.2)):=by
 have hp:=FJ a b c d h0
 have hle:=jl 10000000000 a b c d (by omega) (by omega) (by omega) (by omega)
 have e1:=YJ (bH (aY [a,b,c,d] a (by simp)))
 have e2:=YJ (bH (aY [a,b,c,d] b (by simp)))
 have e3:=YJ (bH (aY [a,b,c,d] c (by simp)))
 have e4:=YJ (bH (aY [a,b,c,d] d (by simp)))
 have Hp:Hid (dG (a,b,c,d)=(a / aU [a,b,c,d],b / aU [a,b,c,d],c / aU [a,b,c,d],d / aU [a,b,c,d])):=YJ rfl
 have t1:=bZ (g:=aU [a,b,c,d]) ha
 have t2:=bZ (g:=aU [a,b,c,d]) hb
 have t3:=bZ (g:=aU [a,b,c,d]) hc
 have t4:=bZ (g:=aU [a,b,c,d]) hd
 have l1:Nat.gcd a.natAbs b.natAbs≤10000000:=lH (by omega) (by omega)
 have l2:Nat.gcd c.natAbs d.natAbs≤10000000:=lH (by omega) (by omega)
 have HG:Hid (Nat.gcd (Nat.gcd a.natAbs b.natAbs) (Nat.gcd c.natAbs d.natAbs)=aU [a,b,c,d]):=YJ (by simpa using KP a b c d)
 generalize dG (a,b,c,d)=r at*
 generalize aU [a,b,c,d]=g at*
 go_enter Tryz.func189,Tryz.ntmps189
 go_wp2
 refine wqb ?_
 repeat(first|go_big_quiet_step ((go_at_call 188;exact aE (jF _ _ _ (by omega) (by omega))))|quiet_step ((go_at_call 188;exact aE (jF _ _ _ (by omega) (by omega)))))
 refine wqn fun u=> ?_
 simp only[Int.natAbs_natCast]
 rw[HG.out]
 have hw1:Below w.heap.size w u.val:=fB bel u.below
 have HA:=YJ ((u.below.block w.heap.size (by simp;omega)).trans ((aB (by simp)).trans (ai rfl)))
 have HB:=YJ ((u.below.block (w.heap.size+1) (by simp)).trans (ai (by simp)))
 generalize u.val=w1 at*
 clear u
 have c0:=(bq HA.out 0).trans rfl
 have c1:=(bq HA.out 1).trans rfl
 have c2:=(bq HA.out 2).trans rfl
 have c3:=(bq HA.out 3).trans rfl
 have d0:=(bq HB.out 0).trans rfl
 have d1:=(bq HB.out 1).trans rfl
 have d2:=(bq HB.out 2).trans rfl
 have d3:=(bq HB.out 3).trans rfl
 simp only[qdp,qdq,qdr]at c0 c1 c2 c3 d0 d1 d2 d3
 have f0:=aC HB.out
 have z0:=ah HA.out
 have z1:=ah HB.out
 go_wp2
 refine aQ 17 (by kernel_rfl) (by kernel_rfl) ?_
 simp only[qdv,qdu,qdw,qdy]
 repeat(first|go_big_quiet_step (fail)|quiet_step (fail))
 refine wpQuiet_nil ?_
 rintro _ ⟨u,rfl⟩
 go_wp2
 refine bodyPost_ret (v:=V4 (a.tdiv g) (b.tdiv g) (c.tdiv g) (d.tdiv g)) (by simp[results,Tryz.results189,go_sem,z1,d0,d1,d2,d3]) rfl ⟨?_, ?_⟩
 ·rw[Hp.out,e1.out,e2.out,e3.out,e4.out]
 ·exact bel
theorem mU (a b c d a' b' c' d':Int) (w:World):
  Calls Tryz.prog 190 #[V4 a b c d,V4 a' b' c' d'] w (Ret w (.bool (decide (bD (a,b,c,d) (a',b',c',d')<0)))):=by
 have He:Hid (decide (bD (a,b,c,d) (a',b',c',d')<0)=decide (a<a'∨(a=a'∧(b<b'∨(b=b'∧(c<c'∨(c=c'∧d<d'))))))):=YJ (by
  rw[decide_eq_decide,dx])
 rw[He.out]
 clear He
 by_cases ha:a=a'
 ·subst ha
  by_cases hb:b=b'
  ·subst hb
   by_cases hc:c=c'
   ·subst hc
    go_enter Tryz.func190,Tryz.ntmps190
    go_wp2
    go_ret
    exact⟨ay (by simp),bel⟩
   ·have hc':(c !=c')=true:=by simpa using hc
    go_enter Tryz.func190,Tryz.ntmps190
    go_wp2
    go_ret
    exact⟨ay (by simp[hc]),bel⟩
  ·have hb':(b !=b')=true:=by simpa using hb
   go_enter Tryz.func190,Tryz.ntmps190
   go_wp2
   go_ret
   exact⟨ay (by simp[hb]),bel⟩
 ·have ha':(a !=a')=true:=by simpa using ha
  go_enter Tryz.func190,Tryz.ntmps190
  go_wp2
  go_ret
  exact⟨ay (by simp[ha]),bel⟩
theorem NN (a b c d:Int) (w:World):Calls Tryz.prog 113 #[V4 a b c d] w (Ret w (V3 a b c)):=by
 go_enter Tryz.func113,Tryz.ntmps113
 go_wp2
 refine bodyPost_ret (v:=V3 a b c) (by simp[results,Tryz.results113,go_sem]) rfl ⟨rfl, ?_⟩
 exact bel
theorem qeV (a b c x y z:Int) (w:World) (ha: -8≤a∧a≤8) (hb: -8≤b∧b≤8) (hc: -8≤c∧c≤8) (hx: -8≤x∧x≤8) (hy: -8≤y∧y≤8) (hz: -8≤z∧z≤8):
  Calls Tryz.prog 186 #[V3 a b c,V3 x y z] w (Ret w (V3 (b*z-c*y) (c*x-a*z) (a*y-b*x))):=by
 have h1:=aJ hb.1 hb.2 hz.1 hz.2
 have h2:=aJ hc.1 hc.2 hy.1 hy.2
 have h3:=aJ hc.1 hc.2 hx.1 hx.2
 have h4:=aJ ha.1 ha.2 hz.1 hz.2
 have h5:=aJ ha.1 ha.2 hy.1 hy.2
 have h6:=aJ hb.1 hb.2 hx.1 hx.2
 clear ha hb hc hx hy hz
 simp only[Int.reduceMul,Int.reduceNeg]at h1 h2 h3 h4 h5 h6
 go_enter Tryz.func186,Tryz.ntmps186
 go_wp2
 refine bodyPost_ret (v:=V3 (b*z-c*y) (c*x-a*z) (a*y-b*x)) (by simp[results,Tryz.results186,go_sem]) rfl ⟨rfl, ?_⟩
 exact bel
theorem pG (a b c x y z:Int) (w:World) (ha: -8≤a∧a≤8) (hb: -8≤b∧b≤8) (hc: -8≤c∧c≤8) (hx: -128≤x∧x≤128) (hy: -128≤y∧y≤128) (hz: -128≤z∧z≤128):
  Calls Tryz.prog 112 #[V3 a b c,V3 x y z] w (Ret w (.int .i64 (a*x+b*y+c*z))):=by
 have h1:=aJ ha.1 ha.2 hx.1 hx.2
 have h2:=aJ hb.1 hb.2 hy.1 hy.2
 have h3:=aJ hc.1 hc.2 hz.1 hz.2
 clear ha hb hc hx hy hz
 simp only[Int.reduceMul,Int.reduceNeg]at h1 h2 h3
 go_enter Tryz.func112,Tryz.ntmps112
 go_wp2
 go_ret
 exact⟨rfl,bel⟩
def tB (w:World) (g:Nat) (a b c d:Value):World:=(((w.setCell ⟨g,0,none⟩ a).setCell ⟨g,1,none⟩ b).setCell ⟨g,2,none⟩ c).setCell ⟨g,3,none⟩ d
theorem pI {w:World} {g:Nat} {x y z u:Value} {T:TypeId} (h:w.heap[g]? =some (.cells #[x,y,z,u] T (0,0))) (a b c d:Value):(tB w g a b c d).heap[g]? =some (.cells #[a,b,c,d] T (0,0)):=by
 have:=Tu (Tu (Tu (Tu h 0 a) 1 b) 2 c) 3 d
 unfold tB
 simpa using this
theorem vA (p q r:Q4):p.1*(q.2.1*r.2.2.1-q.2.2.1*r.2.1)+p.2.1*(q.2.2.1*r.1-q.1*r.2.2.1)+p.2.2.1*(q.1*r.2.1-q.2.1*r.1)=bN p q r:=by
 unfold bN bj aN nrm
 grind
structure PB (N ga gb gc:Nat) (p0 p1 p2 pd q0 q1 q2 qd r0 r1 r2 rd:Int) (X:World):Prop where
 P:X.heap[N]? =some (.cells #[.int .i64 p0, .int .i64 p1, .int .i64 p2, .int .i64 pd] 190 (0,0))
 Q:X.heap[N+1]? =some (.cells #[.int .i64 q0, .int .i64 q1, .int .i64 q2, .int .i64 qd] 190 (0,0))
 R:X.heap[N+1+1]? =some (.cells #[.int .i64 r0, .int .i64 r1, .int .i64 r2, .int .i64 rd] 190 (0,0))
 O:X.heap[N+1+1+1]? =some (.cells #[.int .i64 0, .int .i64 0, .int .i64 0, .int .i64 0] 186 (0,0))
 A:X.heap[ga]? =some (.cells #[.int .i64 p0, .int .i64 p1, .int .i64 p2] 37 (0,0))
 B:X.heap[gb]? =some (.cells #[.int .i64 q0, .int .i64 q1, .int .i64 q2] 37 (0,0))
 C:X.heap[gc]? =some (.cells #[.int .i64 r0, .int .i64 r1, .int .i64 r2] 37 (0,0))
theorem PB.below {N ga gb gc:Nat} {p0 p1 p2 pd q0 q1 q2 qd r0 r1 r2 rd:Int} {X Y:World} (h:PB N ga gb gc p0 p1 p2 pd q0 q1 q2 qd r0 r1 r2 rd X) (hb:Below X.heap.size X Y):PB N ga gb gc p0 p1 p2 pd q0 q1 q2 qd r0 r1 r2 rd Y:=
 ⟨(hb.block _ (ah h.P)).trans h.P,(hb.block _ (ah h.Q)).trans h.Q,(hb.block _ (ah h.R)).trans h.R,(hb.block _ (ah h.O)).trans h.O,(hb.block _ (ah h.A)).trans h.A,(hb.block _ (ah h.B)).trans h.B,(hb.block _ (ah h.C)).trans h.C⟩
structure PX (g N gx gy gz:Nat) (p0 p1 p2 pd q0 q1 q2 qd r0 r1 r2 rd n0 n1 n2 n3 n4 n5 n6 n7 n8:Int) (X:World):Prop where
 P:X.heap[N]? =some (.cells #[.int .i64 p0, .int .i64 p1, .int .i64 p2, .int .i64 pd] 190 (0,0))
 Q:X.heap[N+1]? =some (.cells #[.int .i64 q0, .int .i64 q1, .int .i64 q2, .int .i64 qd] 190 (0,0))
 R:X.heap[N+1+1]? =some (.cells #[.int .i64 r0, .int .i64 r1, .int .i64 r2, .int .i64 rd] 190 (0,0))
 O:X.heap[N+1+1+1]? =some (.cells #[.int .i64 0, .int .i64 0, .int .i64 0, .int .i64 0] 186 (0,0))
 A:X.heap[gx]? =some (.cells #[.int .i64 n0, .int .i64 n1, .int .i64 n2] 37 (0,0))
 B:X.heap[gy]? =some (.cells #[.int .i64 n3, .int .i64 n4, .int .i64 n5] 37 (0,0))
 C:X.heap[gz]? =some (.cells #[.int .i64 n6, .int .i64 n7, .int .i64 n8] 37 (0,0))
 lt:N+1+1+1<g∧gx<g∧gy<g∧gz<g
theorem PX.below {g N gx gy gz:Nat} {p0 p1 p2 pd q0 q1 q2 qd r0 r1 r2 rd n0 n1 n2 n3 n4 n5 n6 n7 n8:Int} {X Y:World} (h:PX g N gx gy gz p0 p1 p2 pd q0 q1 q2 qd r0 r1 r2 rd n0 n1 n2 n3 n4 n5 n6 n7 n8 X) (hb:Below g X Y):PX g N gx gy gz p0 p1 p2 pd q0 q1 q2 qd r0 r1 r2 rd n0 n1 n2 n3 n4 n5 n6 n7 n8 Y:=by
 have:=h.lt
 exact⟨(hb.block _ (by omega)).trans h.P,(hb.block _ (by omega)).trans h.Q,(hb.block _ (by omega)).trans h.R,(hb.block _ (by omega)).trans h.O,(hb.block _ (by omega)).trans h.A,(hb.block _ (by omega)).trans h.B,(hb.block _ (by omega)).trans h.C,h.lt⟩
end
section
open Go.RowKit Go.Shelf
set_option maxRecDepth 100000
attribute [local go_sem] Ext.cell Ext.frozen
theorem sA (p c:Q4) (w:World) (hp:bI p) (hc:fD c):Calls Tryz.prog 140 #[v4 p,v4 c] w (Ret w (.int .i64 (sd p c))):=
 sI _ _ _ _ _ _ _ _ w hp.1 hp.2.1 hp.2.2.1 hp.2.2.2 hc.1 hc.2.1 hc.2.2.1 (by have:=hc.2.2.2;omega)
theorem rq {ps:List Q4} {c:Q4} (i:Nat) (h:i<ps.length) (hs:0<sd ps[i] c):bG ps c=false:=by
 unfold bG
 have:(ps.any fun p=>decide (0<sd p c))=true:=ultj.2 ⟨ps[i],qaB h,by simpa using hs⟩
 rw[this];rfl
theorem pM {ps:List Q4} {c:Q4} (h:∀i (h:i<ps.length),¬0<sd ps[i] c):bG ps c=true:=by
 unfold bG
 have:(ps.any fun p=>decide (0<sd p c))=false:=by
  rw[ultp]
  intro p hp
  obtain⟨i,hi,rfl⟩:=qaJ hp
  simpa using h i hi
 rw[this];rfl
theorem mV (cs:List Q4) (c:Q4) (cv:Value) (W:World) (hl:cs.length≤1000000) (hcv:Q4s W cv cs):
  Calls Tryz.prog 139 #[cv,v4 c] W (Ret W (.bool (decide (c∈cs)))):=by
 obtain⟨a,n,cc,rfl,hn,_,hx⟩:=hcv
 have Hyes:Hid (∀i (h:i<cs.length),cs[i]=c→decide (c∈cs)=true):=YJ (fun i h e=>qfX (by rw[←e];exact qaB h))
 have Hno:Hid ((∀i (h:i<cs.length),cs[i]≠c)→decide (c∈cs)=false):=YJ (fun h=>qfZ (fun hm=>by
  obtain⟨i,hi,e⟩:=qaJ hm
  exact h i hi e))
 generalize decide (c∈cs)=res at*
 obtain⟨c0,c1,c2,c3⟩:=c
 obtain⟨V,HV⟩:∃V,Hid (W.alloc (.cells #[.int .i64 c0, .int .i64 c1, .int .i64 c2, .int .i64 c3] 186)=V):=⟨_,YJ rfl⟩
 have hV:Below W.heap.size W V:=by rw[←HV.out];exact bel
 have HC:Hid (V.heap[W.heap.size]? =some (.cells #[.int .i64 c0, .int .i64 c1, .int .i64 c2, .int .i64 c3] 186 (0,0))):=YJ (by rw[←HV.out];exact ai rfl)
 have HX:Hid (0<n→∃b off,a=some ⟨b,off,none⟩∧Q4At V b off cs):=YJ (fun h=>by obtain⟨b,off,e,h2⟩:=hx h;exact⟨b,off,e,h2.below hV⟩)
 clear hx
 go_enter Tryz.func139,Tryz.ntmps139
 go_wp2
 rw[HV.out]
 go_loopw [5] (fun x wr=>∃i:Nat,i≤n∧x= .int .i64 i∧Below V.heap.size V wr∧Hid (∀j (h:j<cs.length),j<i→cs[j]≠(c0,c1,c2,c3))) (fun x _=>n-(intOf x).toNat)
 case atStart=>exact⟨0,by omega,rfl,brf,YJ (fun j _ h=>by omega)⟩
 case round=>
  obtain⟨i,hi,rfl,hb,Hd⟩:=hrel
  by_cases hlt:i<n
  ·have g1:(i:Int)<(n:Int):=by omega
   have g2:(0:Int)≤(i:Int):=by omega
   have hil:i<cs.length:=by omega
   obtain⟨b,off,rfl,hi4⟩:=HX.out (by omega)
   obtain⟨e0,e1,e2,e3⟩:=(hi4.below hb) i hil
   have ze:=qaC wr _ e0
   simp only at ze
   have HCr:=YJ ((hb.block _ (ah HC.out)).trans HC.out)
   have f0:=(bq HCr.out 0).trans rfl
   have f1:=(bq HCr.out 1).trans rfl
   have f2:=(bq HCr.out 2).trans rfl
   have f3:=(bq HCr.out 3).trans rfl
   simp only[qdp,qdq,qdr]at f0 f1 f2 f3
   have zf:=ah HCr.out
   have Hyes':=YJ (Hyes.out i hil)
   have Hst:Hid (cs[i]≠(c0,c1,c2,c3)→∀j (h:j<cs.length),j<i+1→cs[j]≠(c0,c1,c2,c3)):=YJ (fun h j hj hji=>by
    by_cases e:j=i
    ·subst e;exact h
    ·exact Hd.out j hj (by omega))
   clear Hyes Hd hi4 HX
   generalize cs[i]=p at*
   obtain⟨p0,p1,p2,p3⟩:=p
   simp only at e0 e1 e2 e3
   by_cases h0:p0=c0
   ·subst h0
    by_cases h1:p1=c1
    ·subst h1
     by_cases h2:p2=c2
     ·subst h2
      by_cases h3:p3=c3
      ·subst h3
       go_wp2
       refine wqf fun u=> ?_
       go_wp2
       go_ret
       exact⟨ay (Hyes'.out (by first|trivial|rfl)).symm,fB hV (fB hb u.below)⟩
      ·go_wp2
       refine wqf fun u=> ?_
       go_wp2
       go_roundw
       case rel=>exact⟨i+1,by omega,by go_num,fB hb u.below,YJ (Hst.out (fun e=>h3 (by cases e;rfl)))⟩
       simp[intOf];try omega
     ·go_wp2
      refine wqf fun u=> ?_
      go_wp2
      go_roundw
      case rel=>exact⟨i+1,by omega,by go_num,fB hb u.below,YJ (Hst.out (fun e=>h2 (by cases e;rfl)))⟩
      simp[intOf];try omega
    ·go_wp2
     refine wqf fun u=> ?_
     go_wp2
     go_roundw
     case rel=>exact⟨i+1,by omega,by go_num,fB hb u.below,YJ (Hst.out (fun e=>h1 (by cases e;rfl)))⟩
     simp[intOf];try omega
   ·go_wp2
    refine wqf fun u=> ?_
    go_wp2
    go_roundw
    case rel=>exact⟨i+1,by omega,by go_num,fB hb u.below,YJ (Hst.out (fun e=>h0 (by cases e;rfl)))⟩
    simp[intOf];try omega
  ·obtain rfl:i=n:=by omega
   have g1:¬(i:Int)<(i:Int):=by omega
   go_wp2
   go_ret
   exact⟨ay (Hno.out (fun j h=>Hd.out j h (by omega))).symm,fB hV hb⟩
def pN (l:List Q4):List Q4:=l.foldl NW []
theorem tC (l:List Q4) (c:Q4):pN (l++[c])=NW (pN l) c:=by simp[pN]
theorem pO (l:List Q4):(pN l).length≤l.length:=by
 have key:∀(l out:List Q4),(l.foldl NW out).length≤out.length+l.length:=by
  intro l
  induction l with
  |nil=>intro out;simp
  |cons c l ih=>
   intro out
   rw[List.foldl_cons]
   have:=ih (NW out c)
   have h2:(NW out c).length≤out.length+1:=by unfold NW;split<;>simp
   simp only[qdn]
   omega
 have:=key l []
 unfold pN
 simpa using this
def fX (ps:List Q4) (i k m:Nat):List Q4:=pN (raw ps i++gJ ps i k++gI ps i k m)
theorem BD (ps:List Q4) (i k:Nat):fX ps i k k=fX ps i (k+1) 0:=by
 unfold fX
 rw[jZ,iz,qgd,List.append_assoc]
theorem BE (ps:List Q4) (i:Nat):fX ps i i 0=fX ps (i+1) 0 0:=by
 unfold fX
 simp only[lS,iz,kd,qgd]
theorem xH (ps:List Q4) (i k m:Nat) (h:okB (fk ps i) (fk ps k) (fk ps m)=false):fX ps i k (m+1)=fX ps i k m:=by
 have h0:bN (fk ps i) (fk ps k) (fk ps m)=0:=by simpa [okB]using h
 unfold fX
 rw[gq]
 unfold jo
 rw[if_pos h0,qgd]
theorem vB (ps:List Q4) (i k m:Nat) (h:okB (fk ps i) (fk ps k) (fk ps m)=true) (ha:bG ps (lD (fk ps i) (fk ps k) (fk ps m))=false):fX ps i k (m+1)=fX ps i k m:=by
 have h0:bN (fk ps i) (fk ps k) (fk ps m)≠0:=by simpa [okB]using h
 unfold lD at ha
 rw[if_neg h0]at ha
 unfold fX
 rw[gq]
 unfold jo
 rw[if_neg h0,ha]
 simp
theorem vC (ps:List Q4) (i k m:Nat) (h:okB (fk ps i) (fk ps k) (fk ps m)=true) (ha:bG ps (lD (fk ps i) (fk ps k) (fk ps m))=true):fX ps i k (m+1)=NW (fX ps i k m) (lD (fk ps i) (fk ps k) (fk ps m)):=by
 have h0:bN (fk ps i) (fk ps k) (fk ps m)≠0:=by simpa [okB]using h
 unfold lD at ha ⊢
 rw[if_neg h0]at ha ⊢
 unfold fX
 rw[gq]
 unfold jo
 rw[if_neg h0,ha,if_pos rfl, ←List.append_assoc,tC]
theorem vD (ps:List Q4) (i k m:Nat) (hi:i≤64) (hk:k≤64) (hm:m≤64):(fX ps i k m).length≤300000:=by
 have h1:=pO (raw ps i++gJ ps i k++gI ps i k m)
 rw[qaE,qaE]at h1
 have h2:=jp ps i hi
 have h3:=lU ps i k hk
 have h4:=lT ps i k m
 unfold fX
 omega
theorem ru {B:Nat} {w0 w:World} {g:Nat} (h:Below B w0 w) (hg:B≤g) (a b c d:Value):Below B w0 (tB w g a b c d):=(((h.setCell hg _).setCell hg _).setCell hg _).setCell hg _
end
end Go.Proofs.YtffbilcjhlncfaaGreatDoor
