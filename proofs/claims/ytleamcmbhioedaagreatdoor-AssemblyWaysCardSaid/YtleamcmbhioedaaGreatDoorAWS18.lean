/- texts: J9 J13 J14 V2 V3 W1 Pl W2 W3 W5. -/
import Derived.Test.YtleamcmbhioedaaGreatDoorAWS17
import Derived.Test.YtleamcmbhioedaaGreatDoorAWShelf
import Derived.Lib.AppendIntMem
import Derived.Lib.ItoaLen
namespace Go.Proofs.YtleamcmbhioedaaGreatDoor
set_option maxHeartbeats 8000000
set_option linter.unusedSimpArgs false
set_option linter.unusedVariables false
section
open Go.RowKit Go.Shelf
attribute [local go_sem] Ext.cell Ext.frozen
theorem kl {w w':World} (h:Lib.TabIs Tryz.prog w "internal/strconv.uint64pow10" .u64 Lib.pow10Tab) (hb:Below w.heap.size w w'):Lib.TabIs Tryz.prog w' "internal/strconv.uint64pow10" .u64 Lib.pow10Tab:=by
 obtain⟨g,hg⟩:=Option.isSome_iff_exists.1 (show(Tryz.prog.globalNamed "internal/strconv.uint64pow10").isSome=true by kernel_rfl)
 unfold Lib.TabIs World.var? at h ⊢
 rw[hg]at h ⊢
 simp only[Option.bind_some]at h ⊢
 have hlt:g<w.heap.size:=by
  rcases Nat.lt_or_ge g w.heap.size with h'|h'
  ·exact h'
  ·rw[Array.getElem?_eq_none h']at h;cases h
 rw[hb.block g hlt]
 exact h
theorem vi (n:Int) (hn: -1000000000≤n∧n≤1000000000) (w:World) (htab:Lib.TabIs Tryz.prog w "internal/strconv.uint64pow10" .u64 Lib.pow10Tab):
  Calls Tryz.prog 48 #[.int .i64 n] w (Ret w (.string ⟨(Lib.itoa n).toArray⟩)):=
 (Tryz.strconv_Itoa n (by omega) (by omega) w htab).mono (by
  rintro e w' ⟨rfl,k,os,rfl⟩
  exact⟨rfl,Lib.below_grow _ _ (Nat.le_refl _) k os⟩)
def txt (x:Int):ByteArray:=⟨(Lib.itoa x).toArray⟩
theorem vj:(Tryz.prog.info? 9).map (fun i=>(i.zero,i.size,i.bytes))=some (some (.string ⟨#[]⟩),1,16):=by kernel_rfl
theorem vk:Tryz.prog.underlying 150=some (.slice 9):=by kernel_rfl
theorem ss (xs:List Int):∀u∈xs.map (Value.int .i64),u.oneCell'=true:=fun u hu=>by
 obtain⟨x,_,rfl⟩:=List.mem_map.1 hu;rfl
theorem pA {W:World} {b off m c:Nat} {xs:List Int} (h:IntsAt W b off xs) (hl:xs.length=m):Raw W 1 (.slice (some ⟨b,off,none⟩) m c) (xs.map (Value.int .i64)):=
 ⟨_,_,_,rfl,by simp[hl],(fun h=>by cases h),fun ad ha j u hu=>by
  cases ha
  have hj:j<xs.length:=by simpa using(List.getElem?_eq_some_iff.1 hu).1
  have:=h j hj
  have hu':u= .int .i64 xs[j]:=by rw[List.getElem?_map,List.getElem?_eq_getElem hj]at hu;simpa using hu.symm
  subst hu'
  by_cases h0:j=0
  ·subst h0;simpa [Addr.add]using this
  ·simpa [Addr.add,h0]using this⟩
theorem vl {w:World} {base:Nat} {e:TypeId} {v:Value} {n:Nat} {xs:List Int} (h:w.ownsRow base e 1 v n (xs.map (Value.int .i64))) (h0:0<xs.length):
  n=xs.length∧∃g cap cur,v= .slice (some ⟨g,0,none⟩) n cap∧w.heap[g]? =some (.cells cur e (0,0))∧∀i (hi:i<xs.length),cur[i]? =some (.int .i64 xs[i]):=by
 have hl:n=xs.length:=by have:=h.1;simp at this;omega
 rcases h.2 with⟨_,h1⟩|⟨g,cap,cur,rfl,_,hh,_,_,_,ht⟩
 ·omega
 ·refine⟨hl,g,cap,cur,rfl,hh,fun i hi=> ?_⟩
  have h2:(cur.toList.take (n*1))[i]? =(xs.map (Value.int .i64))[i]? :=by rw[ht]
  rw[List.getElem?_take_of_lt (by omega),List.getElem?_map,List.getElem?_eq_getElem hi]at h2
  simpa using h2
theorem vn {w:World} {base:Nat} {e:TypeId} {v:Value} {n:Nat} {xs:List ByteArray} (h:w.ownsRow base e 1 v n (xs.map Value.string)) (h0:0<xs.length):
  ∃g cap,v= .slice (some ⟨g,0,none⟩) xs.length cap∧xs.length≤cap∧g<w.heap.size∧∀(j:Nat) x,xs[j]? =some x→w.cell? ⟨g,0+j,none⟩=some (.string x):=by
 have hl:n=xs.length:=by have:=h.1;simp at this;omega
 rcases h.2 with⟨_,h1⟩|⟨g,cap,cur,rfl,_,hh,hc,_,_,ht⟩
 ·omega
 ·subst hl
  refine⟨g,cap,rfl,hc,ah hh,fun i x hx=> ?_⟩
  obtain⟨hi,rfl⟩:=List.getElem?_eq_some_iff.1 hx
  have h2:(cur.toList.take (xs.length*1))[i]? =(xs.map Value.string)[i]? :=by rw[ht]
  rw[List.getElem?_take_of_lt (by omega),List.getElem?_map,List.getElem?_eq_getElem hi]at h2
  rw[ag hh,Nat.zero_add]
  simpa using h2
def Each (w:World) (v:Value) {α:Type} (E:World→Value→α→Prop) (cs:List α):Prop:=
 ∃a m c,v= .slice a m c∧cs.length=m∧m≤c∧(0<m→∃b off,a=some ⟨b,off,none⟩∧∀i (h:i<cs.length),∃u,w.cell? ⟨b,off+i,none⟩=some u∧E w u cs[i])
theorem Each.below {w w':World} {v:Value} {α:Type} {E:World→Value→α→Prop} {cs:List α} (hE:∀u c w w',Below w.heap.size w w'→E w u c→E w' u c) (h:Each w v E cs) (hb:Below w.heap.size w w'):Each w' v E cs:=by
 obtain⟨a,m,c,hv,hl,hc,hx⟩:=h
 refine⟨a,m,c,hv,hl,hc,fun h0=> ?_⟩
 obtain⟨b,off,ha,hi⟩:=hx h0
 exact⟨b,off,ha,fun i h=>by obtain⟨u,hu,he⟩:=hi i h;exact⟨u,ab hb hu,hE _ _ _ _ hb he⟩⟩
def At (B:Nat) (v:Value):Prop:=∀a m c,v= .slice (some a) m c→B≤a.block
theorem At.mono {B B':Nat} {v:Value} (h:At B v) (hb:B'≤B):At B' v:=fun a m c e=>Nat.le_trans hb (h a m c e)
theorem At.mk {B g m c:Nat} (h:B≤g):At B (.slice (some ⟨g,0,none⟩) m c):=fun a _ _ e=>by cases e;exact h
def PlanesV (B:Nat) (w:World) (v:Value) (ps:List Q4):Prop:=Raw w 4 v (ps.flatMap aH)∧At B v
def CellsV (B:Nat) (w:World) (v:Value) (cs:List (List Q4)):Prop:=Each w v (PlanesV B) cs∧At B v
def PartsV (B:Nat) (w:World) (v:Value) (cs:List (List (List Q4))):Prop:=Each w v (CellsV B) cs∧At B v
theorem PlanesV.below {B:Nat} {w w':World} {v:Value} {ps:List Q4} (h:PlanesV B w v ps) (hb:Below w.heap.size w w'):PlanesV B w' v ps:=⟨Raw.below h.1 hb,h.2⟩
theorem CellsV.below {B:Nat} {w w':World} {v:Value} {ps:List (List Q4)} (h:CellsV B w v ps) (hb:Below w.heap.size w w'):CellsV B w' v ps:=⟨Each.below (fun _ _ _ _ hb h=>PlanesV.below h hb) h.1 hb,h.2⟩
theorem PartsV.below {B:Nat} {w w':World} {v:Value} {ps:List (List (List Q4))} (h:PartsV B w v ps) (hb:Below w.heap.size w w'):PartsV B w' v ps:=⟨Each.below (fun _ _ _ _ hb h=>CellsV.below h hb) h.1 hb,h.2⟩
theorem Each.imp {w:World} {v:Value} {α:Type} {E E':World→Value→α→Prop} {cs:List α} (hE:∀u c,E w u c→E' w u c) (h:Each w v E cs):Each w v E' cs:=by
 obtain⟨a,m,c,rfl,hl,hc,hx⟩:=h
 refine⟨a,m,c,rfl,hl,hc,fun h0=> ?_⟩
 obtain⟨b,off,rfl,hi⟩:=hx h0
 exact⟨b,off,rfl,fun k h=>by obtain⟨u,hu,he⟩:=hi k h;exact⟨u,hu,hE _ _ he⟩⟩
theorem PlanesV.mono {B B':Nat} {w:World} {v:Value} {ps:List Q4} (h:PlanesV B w v ps) (hb:B'≤B):PlanesV B' w v ps:=⟨h.1,h.2.mono hb⟩
theorem CellsV.mono {B B':Nat} {w:World} {v:Value} {ps:List (List Q4)} (h:CellsV B w v ps) (hb:B'≤B):CellsV B' w v ps:=⟨h.1.imp (fun _ _ h=>PlanesV.mono h hb),h.2.mono hb⟩
theorem PartsV.mono {B B':Nat} {w:World} {v:Value} {ps:List (List (List Q4))} (h:PartsV B w v ps) (hb:B'≤B):PartsV B' w v ps:=⟨h.1.imp (fun _ _ h=>CellsV.mono h hb),h.2.mono hb⟩
def RowsV (w:World) (B:Nat) (vs:List Value) (css:List (List Q4)):Prop:=
 vs.length=css.length∧∀i (h1:i<vs.length) (h2:i<css.length),w.ownsRow B 127 4 vs[i] css[i].length (css[i].flatMap aH)
theorem RowsV.below {w w':World} {B:Nat} {vs:List Value} {css:List (List Q4)} (h:RowsV w B vs css) (hb:Below w.heap.size w w'):RowsV w' B vs css:=⟨h.1,fun i h1 h2=>au (h.2 i h1 h2) hb⟩
theorem RowsV.snoc {w:World} {B:Nat} {vs:List Value} {css:List (List Q4)} {v:Value} {cs:List Q4} (h:RowsV w B vs css) (hv:w.ownsRow B 127 4 v cs.length (cs.flatMap aH)):RowsV w B (vs++[v]) (css++[cs]):=by
 refine⟨by simp[h.1],fun i h1 h2=> ?_⟩
 by_cases hi:i<vs.length
 ·have hc:i<css.length:=by rw[←h.1];exact hi
  rw[List.getElem_append_left hi,List.getElem_append_left hc]
  exact h.2 i hi hc
 ·have he:i=vs.length:=by simp at h1;omega
  subst he
  have:=h.1
  simp only[List.getElem_append_right (Nat.le_refl _),Nat.sub_self,List.getElem_cons_zero]
  rw[List.getElem_append_right (by omega)]
  simp only[this,Nat.sub_self,List.getElem_cons_zero]
  exact hv
theorem RowsV.nil {w:World} {B:Nat}:RowsV w B [] []:=⟨rfl,fun _ h=>by simp at h⟩
theorem RowsV.kept {w w':World} {B:Nat} {vs:List Value} {css:List (List Q4)} {row:Option Nat} (h:RowsV w B vs css) (hg:w.grownBy w' row) (hne:∀g cs,row=some g→w.heap[g]? =some cs→∃c t,cs= .cells c t (0,0)∧t≠127):RowsV w' B vs css:=by
 refine⟨h.1,fun i h1 h2=>(h.2 i h1 h2).kept hg ?_⟩
 cases hr:row with
 |none=>cases hv:vs[i].ownBlock<;>simp
 |some g=>
  right
  intro e
  rcases(h.2 i h1 h2).2 with⟨hv,_⟩|⟨g',cap,cur,hv,_,hh,_⟩
  ·rw[hv]at e;simp[Value.ownBlock]at e
  ·rw[hv]at e
   have:g'=g:=by simpa [Value.ownBlock]using e
   subst this
   obtain⟨c,t,h3,h4⟩:=hne _ _ hr hh
   cases h3
   exact h4 rfl
theorem RowsV.set {w:World} {B g i:Nat} {u:Value} {vs:List Value} {css:List (List Q4)} {c:Array Value} {T:TypeId} (h:RowsV w B vs css) (hg:w.heap[g]? =some (.cells c T (0,0))) (hT:127≠T):RowsV (w.setCell ⟨g,i,none⟩ u) B vs css:=
 ⟨h.1,fun k h1 h2=>aF (h.2 k h1 h2) _ _ (fun e=>aG (h.2 k h1 h2) hg hT e.symm)⟩
theorem RowsV.mono {w:World} {B B':Nat} {vs:List Value} {css:List (List Q4)} (h:RowsV w B vs css) (hb:B'≤B):RowsV w B' vs css:=⟨h.1,fun i h1 h2=>AY (h.2 i h1 h2) hb⟩
theorem nw (ps:List Q4):∀u∈ps.flatMap aH,u.oneCell'=true:=fun u hu=>by
 obtain⟨x,_,hx⟩:=List.mem_flatMap.1 hu
 exact mh x u hx
theorem bh (ps:List Q4):(ps.flatMap aH).length=ps.length*4:=by
 induction ps with
 |nil=>rfl
 |cons p ps ih=>simp[aH]at ih ⊢;omega
end
section
open Go.RowKit
theorem ld {ps:List Q4} {n:Nat} {c:Q4} (h:c∈raw ps n):bG ps c=true:=by
 unfold raw gJ gI at h
 simp only[List.mem_flatMap,List.mem_range]at h
 obtain⟨i,_,k,_,m,_,h⟩:=h
 unfold jo at h
 split at h
 ·cases h
 ·split at h
  ·rename_i ha
   rw[List.mem_singleton]at h
   subst h
   exact ha
  ·cases h
theorem dL {ps:List Q4} {c:Q4} (h:bG ps c=true) {p:Q4} (hp:p∈ps):0≤slk p (xyz c) c.2.2.2:=by
 unfold bG at h
 simp only[Bool.not_eq_true',List.any_eq_false,decide_eq_true_eq]at h
 have:=h p hp
 rw[mt,kS]at this
 omega
end
section
open Go.RowKit Go.Sort Go.Lib
theorem mx {ps:List Q4} {n:Nat} (hn:n≤ps.length) {c:Q4} (h:c∈raw ps n):∃p∈ps,∃q∈ps,∃r∈ps,bN p q r≠0∧c=gk p q r (bN p q r):=by
 unfold raw gJ gI at h
 simp only[List.mem_flatMap,List.mem_range]at h
 obtain⟨i,hi,k,hk,m,hm,h⟩:=h
 unfold jo at h
 split at h
 ·cases h
 ·rename_i h0
  split at h
  ·rw[List.mem_singleton]at h
   have g:∀j,j<ps.length→bm ps j∈ps:=fun j hj=>by
    have:bm ps j=ps[j]:=by simp[bm,List.getD,hj]
    rw[this];exact List.getElem_mem hj
   exact⟨_,g i (by omega),_,g k (by omega),_,g m (by omega),h0,h⟩
  ·cases h
theorem tw (l:List Q4):∀out:List Q4,out.Nodup→(l.foldl jc out).Nodup∧∀x,x∈l.foldl jc out↔x∈out∨x∈l:=by
 induction l with
 |nil=>intro out h;exact⟨h,fun x=>by simp⟩
 |cons c l ih=>
  intro out h
  rw[List.foldl_cons]
  by_cases hc:c∈out
  ·have e:jc out c=out:=by simp[jc,hc]
   rw[e]
   obtain⟨h1,h2⟩:=ih out h
   refine⟨h1,fun x=> ?_⟩
   rw[h2,List.mem_cons]
   constructor
   ·rintro(h|h)
    ·exact Or.inl h
    ·exact Or.inr (Or.inr h)
   ·rintro(h|rfl|h)
    ·exact Or.inl h
    ·exact Or.inl hc
    ·exact Or.inr h
  ·have e:jc out c=out++[c]:=by simp[jc,hc]
   rw[e]
   obtain⟨h1,h2⟩:=ih (out++[c]) (by
    rw[List.nodup_append]
    exact⟨h,by simp,fun a ha b hb=>by simp at hb;subst hb;exact fun e=>hc (e▸ha)⟩)
   refine⟨h1,fun x=> ?_⟩
   rw[h2,List.mem_append,List.mem_singleton,List.mem_cons]
   constructor
   ·rintro((h|h)|h)
    ·exact Or.inl h
    ·exact Or.inr (Or.inl h)
    ·exact Or.inr (Or.inr h)
   ·rintro(h|h|h)
    ·exact Or.inl (Or.inl h)
    ·exact Or.inl (Or.inr h)
    ·exact Or.inr h
theorem lf (ps:List Q4):(cd ps).Nodup∧∀x,x∈cd ps↔x∈raw ps ps.length:=by
 obtain⟨h1,h2⟩:=tw (raw ps ps.length) [] List.nodup_nil
 exact⟨h1,fun x=>by rw[cd,h2];simp⟩
end
section
open Go.RowKit Go.Shelf
attribute [local go_sem] Ext.cell Ext.frozen
theorem jF (a b:Int) (w:World) (ha: -1000000000000000≤a∧a≤1000000000000000) (hb: -1000000000000000≤b∧b≤1000000000000000):
  Calls Tryz.prog 98 #[.int .i64 a, .int .i64 b] w (Ret w (.int .i64 (Nat.gcd a.natAbs b.natAbs:Nat))):=by
 have h1:=fun W'=>Lib.hid (sj a W' ha)
 have h2:=fun W'=>Lib.hid (sj b W' hb)
 obtain⟨m,hm⟩:∃m,a.natAbs=m:=⟨_,rfl⟩
 obtain⟨n,hn⟩:∃n,b.natAbs=n:=⟨_,rfl⟩
 have hm':m≤1000000000000000:=by omega
 have hn':n≤1000000000000000:=by omega
 rw[hm]at h1 ⊢
 rw[hn]at h2 ⊢
 clear hm hn ha hb
 go_enter Tryz.func98,Tryz.ntmps98
 go_wp2_with fail
 refine((h1 _).out).mono ?_
 rintro e w1 ⟨rfl,rfl⟩
 go_wp2_with fail
 refine((h2 _).out).mono ?_
 rintro e w2 ⟨rfl,rfl⟩
 go_wp2
 go_loopw [0,1] (fun x y wr=>∃p q:Nat,p≤1000000000000000∧q≤1000000000000000∧x= .int .i64 p∧y= .int .i64 q∧Hid (Nat.gcd m n=Nat.gcd p q)∧Below w.heap.size w wr) (fun _ y _=>(intOf y).toNat)
 case atStart=>exact⟨m,n,hm',hn',rfl,rfl,Lib.hid rfl,Below.refl _ _⟩
 case round=>
  obtain⟨p,q,hp,hq,rfl,rfl,Hr,hb⟩:=hrel
  by_cases hz:0<q
  ·go_wp2
   go_quiet (fail)
   go_wp2
   go_roundw
   case rel=>exact⟨q,p % q,hq,by have:=Nat.mod_lt p hz;omega,by go_num,by go_num,Lib.hid (by rw[oK];exact Hr.out),hb.drewN' _⟩
   case measure=>simp[intOf];have:=Nat.mod_lt p hz;omega
  ·obtain rfl:q=0:=by omega
   go_wp2
   go_ret
   exact⟨aK (by rw[Hr.out];simp),hb⟩
theorem KP (a b c d:Int):Nat.gcd (Int.natAbs ((Nat.gcd a.natAbs b.natAbs:Nat):Int)) (Int.natAbs ((Nat.gcd c.natAbs d.natAbs:Nat):Int))=aU [a,b,c,d]:=by
 simp[aU,Nat.gcd_assoc]
theorem lH {a b:Int} {B:Nat} (h:b.natAbs≤B) (h0:a.natAbs≤B):Nat.gcd a.natAbs b.natAbs≤B:=by
 by_cases hz:b.natAbs=0
 ·rw[hz];simpa using h0
 ·exact Nat.le_trans (Nat.gcd_le_right _ (by omega)) h
set_option maxRecDepth 100000 in
theorem pF (a b c d:Int) (w:World) (ha: -10000000≤a∧a≤10000000) (hb: -10000000≤b∧b≤10000000) (hc: -10000000≤c∧c≤10000000) (hd: -10000000≤d∧d≤10000000) (h0:a≠0∨b≠0∨c≠0):
  Calls Tryz.prog 61 #[V4 a b c d] w (Ret w (V4 (dG (a,b,c,d)).1 (dG (a,b,c,d)).2.1 (dG (a,b,c,d)).2.2.1 (dG (a,b,c,d)).2.2.2)):=by
 have hp:=FJ a b c d h0
 have hle:=jl 10000000000 a b c d (by omega) (by omega) (by omega) (by omega)
 have e1:=Lib.hid (bH (aY [a,b,c,d] a (by simp)))
 have e2:=Lib.hid (bH (aY [a,b,c,d] b (by simp)))
 have e3:=Lib.hid (bH (aY [a,b,c,d] c (by simp)))
 have e4:=Lib.hid (bH (aY [a,b,c,d] d (by simp)))
 have Hp:Hid (dG (a,b,c,d)=(a / aU [a,b,c,d],b / aU [a,b,c,d],c / aU [a,b,c,d],d / aU [a,b,c,d])):=Lib.hid rfl
 have t1:=bZ (g:=aU [a,b,c,d]) ha
 have t2:=bZ (g:=aU [a,b,c,d]) hb
 have t3:=bZ (g:=aU [a,b,c,d]) hc
 have t4:=bZ (g:=aU [a,b,c,d]) hd
 have l1:Nat.gcd a.natAbs b.natAbs≤10000000:=lH (by omega) (by omega)
 have l2:Nat.gcd c.natAbs d.natAbs≤10000000:=lH (by omega) (by omega)
 have HG:Hid (Nat.gcd (Nat.gcd a.natAbs b.natAbs) (Nat.gcd c.natAbs d.natAbs)=aU [a,b,c,d]):=Lib.hid (by simpa using KP a b c d)
 generalize dG (a,b,c,d)=r at*
 generalize aU [a,b,c,d]=g at*
 go_enter Tryz.func61,Tryz.ntmps61
 go_wp2
 refine wqb ?_
 repeat(first|go_big_quiet_step ((go_at_call 98;exact aE (jF _ _ _ (by omega) (by omega))))|quiet_step ((go_at_call 98;exact aE (jF _ _ _ (by omega) (by omega)))))
 refine wqn fun u=> ?_
 simp only[Int.natAbs_natCast]
 rw[HG.out]
 have hw1:Below w.heap.size w u.val:=ae bel u.below
 have HA:=Lib.hid ((u.below.block w.heap.size (by simp;omega)).trans ((aB (by simp)).trans (ai rfl)))
 have HB:=Lib.hid ((u.below.block (w.heap.size+1) (by simp)).trans (ai (by simp)))
 generalize u.val=w1 at*
 clear u
 have c0:=(ag HA.out 0).trans rfl
 have c1:=(ag HA.out 1).trans rfl
 have c2:=(ag HA.out 2).trans rfl
 have c3:=(ag HA.out 3).trans rfl
 have d0:=(ag HB.out 0).trans rfl
 have d1:=(ag HB.out 1).trans rfl
 have d2:=(ag HB.out 2).trans rfl
 have d3:=(ag HB.out 3).trans rfl
 simp only[List.getElem?_toArray,List.getElem?_cons_zero,List.getElem?_cons_succ]at c0 c1 c2 c3 d0 d1 d2 d3
 have f0:=aC HB.out
 have z0:=ah HA.out
 have z1:=ah HB.out
 go_wp2
 refine aQ 17 (by kernel_rfl) (by kernel_rfl) ?_
 simp only[List.take_succ_cons,List.take_zero,List.drop_succ_cons,List.drop_zero]
 repeat(first|go_big_quiet_step (fail)|quiet_step (fail))
 refine wpQuiet_nil ?_
 rintro _ ⟨u,rfl⟩
 go_wp2
 refine bodyPost_ret (v:=V4 (a.tdiv g) (b.tdiv g) (c.tdiv g) (d.tdiv g)) (by simp[results,Tryz.results61,go_sem,z1,d0,d1,d2,d3]) rfl ⟨?_, ?_⟩
 ·rw[Hp.out,e1.out,e2.out,e3.out,e4.out]
 ·exact bel
end
section
open Go.RowKit Go.Shelf
def tB (w:World) (g:Nat) (a b c d:Value):World:=(((w.setCell ⟨g,0,none⟩ a).setCell ⟨g,1,none⟩ b).setCell ⟨g,2,none⟩ c).setCell ⟨g,3,none⟩ d
theorem pI {w:World} {g:Nat} {x y z u:Value} {T:TypeId} (h:w.heap[g]? =some (.cells #[x,y,z,u] T (0,0))) (a b c d:Value):(tB w g a b c d).heap[g]? =some (.cells #[a,b,c,d] T (0,0)):=by
 have:=br (br (br (br h 0 a) 1 b) 2 c) 3 d
 unfold tB
 simpa using this
end
section
open Go.RowKit Go.Shelf
attribute [local go_sem] Ext.cell Ext.frozen
structure PB (N ga gb gc:Nat) (p0 p1 p2 pd q0 q1 q2 qd r0 r1 r2 rd:Int) (X:World):Prop where
 P:X.heap[N]? =some (.cells #[.int .i64 p0, .int .i64 p1, .int .i64 p2, .int .i64 pd] 127 (0,0))
 Q:X.heap[N+1]? =some (.cells #[.int .i64 q0, .int .i64 q1, .int .i64 q2, .int .i64 qd] 127 (0,0))
 R:X.heap[N+1+1]? =some (.cells #[.int .i64 r0, .int .i64 r1, .int .i64 r2, .int .i64 rd] 127 (0,0))
 O:X.heap[N+1+1+1]? =some (.cells #[.int .i64 0, .int .i64 0, .int .i64 0, .int .i64 0] 131 (0,0))
 A:X.heap[ga]? =some (.cells #[.int .i64 p0, .int .i64 p1, .int .i64 p2] 104 (0,0))
 B:X.heap[gb]? =some (.cells #[.int .i64 q0, .int .i64 q1, .int .i64 q2] 104 (0,0))
 C:X.heap[gc]? =some (.cells #[.int .i64 r0, .int .i64 r1, .int .i64 r2] 104 (0,0))
theorem PB.below {N ga gb gc:Nat} {p0 p1 p2 pd q0 q1 q2 qd r0 r1 r2 rd:Int} {X Y:World} (h:PB N ga gb gc p0 p1 p2 pd q0 q1 q2 qd r0 r1 r2 rd X) (hb:Below X.heap.size X Y):PB N ga gb gc p0 p1 p2 pd q0 q1 q2 qd r0 r1 r2 rd Y:=
 ⟨(hb.block _ (ah h.P)).trans h.P,(hb.block _ (ah h.Q)).trans h.Q,(hb.block _ (ah h.R)).trans h.R,(hb.block _ (ah h.O)).trans h.O,(hb.block _ (ah h.A)).trans h.A,(hb.block _ (ah h.B)).trans h.B,(hb.block _ (ah h.C)).trans h.C⟩
structure PX (g N gx gy gz:Nat) (p0 p1 p2 pd q0 q1 q2 qd r0 r1 r2 rd n0 n1 n2 n3 n4 n5 n6 n7 n8:Int) (X:World):Prop where
 P:X.heap[N]? =some (.cells #[.int .i64 p0, .int .i64 p1, .int .i64 p2, .int .i64 pd] 127 (0,0))
 Q:X.heap[N+1]? =some (.cells #[.int .i64 q0, .int .i64 q1, .int .i64 q2, .int .i64 qd] 127 (0,0))
 R:X.heap[N+1+1]? =some (.cells #[.int .i64 r0, .int .i64 r1, .int .i64 r2, .int .i64 rd] 127 (0,0))
 O:X.heap[N+1+1+1]? =some (.cells #[.int .i64 0, .int .i64 0, .int .i64 0, .int .i64 0] 131 (0,0))
 A:X.heap[gx]? =some (.cells #[.int .i64 n0, .int .i64 n1, .int .i64 n2] 104 (0,0))
 B:X.heap[gy]? =some (.cells #[.int .i64 n3, .int .i64 n4, .int .i64 n5] 104 (0,0))
 C:X.heap[gz]? =some (.cells #[.int .i64 n6, .int .i64 n7, .int .i64 n8] 104 (0,0))
 lt:N+1+1+1<g∧gx<g∧gy<g∧gz<g
theorem PX.below {g N gx gy gz:Nat} {p0 p1 p2 pd q0 q1 q2 qd r0 r1 r2 rd n0 n1 n2 n3 n4 n5 n6 n7 n8:Int} {X Y:World} (h:PX g N gx gy gz p0 p1 p2 pd q0 q1 q2 qd r0 r1 r2 rd n0 n1 n2 n3 n4 n5 n6 n7 n8 X) (hb:Below g X Y):PX g N gx gy gz p0 p1 p2 pd q0 q1 q2 qd r0 r1 r2 rd n0 n1 n2 n3 n4 n5 n6 n7 n8 Y:=by
 have:=h.lt
 exact⟨(hb.block _ (by omega)).trans h.P,(hb.block _ (by omega)).trans h.Q,(hb.block _ (by omega)).trans h.R,(hb.block _ (by omega)).trans h.O,(hb.block _ (by omega)).trans h.A,(hb.block _ (by omega)).trans h.B,(hb.block _ (by omega)).trans h.C,h.lt⟩
def pN (l:List Q4):List Q4:=l.foldl jc []
theorem tC (l:List Q4) (c:Q4):pN (l++[c])=jc (pN l) c:=by simp[pN]
theorem pO (l:List Q4):(pN l).length≤l.length:=by
 have key:∀(l out:List Q4),(l.foldl jc out).length≤out.length+l.length:=by
  intro l
  induction l with
  |nil=>intro out;simp
  |cons c l ih=>
   intro out
   rw[List.foldl_cons]
   have:=ih (jc out c)
   have h2:(jc out c).length≤out.length+1:=by unfold jc;split<;>simp
   simp only[List.length_cons]
   omega
 have:=key l []
 unfold pN
 simpa using this
def fX (ps:List Q4) (i k m:Nat):List Q4:=pN (raw ps i++gJ ps i k++gI ps i k m)
theorem BD (ps:List Q4) (i k:Nat):fX ps i k k=fX ps i (k+1) 0:=by
 unfold fX
 rw[jZ,iz,List.append_nil,List.append_assoc]
theorem BE (ps:List Q4) (i:Nat):fX ps i i 0=fX ps (i+1) 0 0:=by
 unfold fX
 simp only[lS,iz,kd,List.append_nil]
theorem xH (ps:List Q4) (i k m:Nat) (h:okB (bm ps i) (bm ps k) (bm ps m)=false):fX ps i k (m+1)=fX ps i k m:=by
 have h0:bN (bm ps i) (bm ps k) (bm ps m)=0:=by simpa [okB]using h
 unfold fX
 rw[gq]
 unfold jo
 rw[if_pos h0,List.append_nil]
theorem vB (ps:List Q4) (i k m:Nat) (h:okB (bm ps i) (bm ps k) (bm ps m)=true) (ha:bG ps (lD (bm ps i) (bm ps k) (bm ps m))=false):fX ps i k (m+1)=fX ps i k m:=by
 have h0:bN (bm ps i) (bm ps k) (bm ps m)≠0:=by simpa [okB]using h
 unfold lD at ha
 rw[if_neg h0]at ha
 unfold fX
 rw[gq]
 unfold jo
 rw[if_neg h0,ha]
 simp
theorem vC (ps:List Q4) (i k m:Nat) (h:okB (bm ps i) (bm ps k) (bm ps m)=true) (ha:bG ps (lD (bm ps i) (bm ps k) (bm ps m))=true):fX ps i k (m+1)=jc (fX ps i k m) (lD (bm ps i) (bm ps k) (bm ps m)):=by
 have h0:bN (bm ps i) (bm ps k) (bm ps m)≠0:=by simpa [okB]using h
 unfold lD at ha ⊢
 rw[if_neg h0]at ha ⊢
 unfold fX
 rw[gq]
 unfold jo
 rw[if_neg h0,ha,if_pos rfl, ←List.append_assoc,tC]
theorem vD (ps:List Q4) (i k m:Nat) (hi:i≤64) (hk:k≤64) (hm:m≤64):(fX ps i k m).length≤300000:=by
 have h1:=pO (raw ps i++gJ ps i k++gI ps i k m)
 rw[List.length_append,List.length_append]at h1
 have h2:=jp ps i hi
 have h3:=lU ps i k hk
 have h4:=lT ps i k m
 unfold fX
 omega
theorem ru {B:Nat} {w0 w:World} {g:Nat} (h:Below B w0 w) (hg:B≤g) (a b c d:Value):Below B w0 (tB w g a b c d):=(((h.setCell hg _).setCell hg _).setCell hg _).setCell hg _
end
end Go.Proofs.YtleamcmbhioedaaGreatDoor
