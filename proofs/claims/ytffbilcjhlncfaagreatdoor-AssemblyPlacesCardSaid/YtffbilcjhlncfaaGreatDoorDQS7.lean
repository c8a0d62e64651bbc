/- texts: L7 L8. -/
import Derived.Test.YtffbilcjhlncfaaGreatDoorDQS6
import Derived.Shelf.Lays8
namespace Go.Proofs.YtffbilcjhlncfaaGreatDoor
set_option maxHeartbeats 8000000
set_option linter.all false
section
open Go.RowKit
attribute [local go_sem] Ext.cell Ext.frozen
def Ints (w:World) (v:Value) (xs:List Int):Prop:=
 ∃a n c,v= .slice a n c∧xs.length=n∧n≤c∧(0<n→∃b off,a=some ⟨b,off,none⟩∧IntsAt w b off xs)
theorem Ints.below {w w':World} {v:Value} {xs:List Int} (h:Ints w v xs) (hb:Below w.heap.size w w'):Ints w' v xs:=by
 obtain⟨a,n,c,hv,hn,hc,hx⟩:=h
 exact⟨a,n,c,hv,hn,hc,fun h0=>by obtain⟨b,off,ha,hi⟩:=hx h0;exact⟨b,off,ha,hi.below hb⟩⟩
def gH (P:Program) (g:Nat) (cb:Array Value) (w:World) (arg:Value) (b:Bool):Prop:=∀w',Below w.heap.size w w'→Calls P g (#[arg]++cb) w' (Ret w' (.bool b))
def nM {α:Type} (p:α→Bool) (xs:List α):Int:=match xs.findIdx? p with|some i=>(i:Int)|none=> -1
theorem lP {α:Type} {p:α→Bool} {xs:List α} {k:Nat} (hk:k<xs.length) (hp:p xs[k]=true) (h:∀i (h:i<xs.length),i<k→p xs[i]=false):nM p xs=k:=by
 have:xs.findIdx? p=some k:=by
  rw[List.findIdx?_eq_some_iff_getElem]
  exact⟨hk,hp,fun j hj=>by simpa using h j (by omega) hj⟩
 simp[nM,this]
theorem jU {α:Type} {p:α→Bool} {xs:List α} (h:∀i (h:i<xs.length),p xs[i]=false):nM p xs= -1:=by
 have:xs.findIdx? p=none:=by
  rw[List.findIdx?_eq_none_iff]
  intro x hx
  obtain⟨i,hi,rfl⟩:=qaJ hx
  exact h i hi
 simp[nM,this]
theorem vJ {α:Type} (p:α→Bool) (xs:List α):decide (0≤nM p xs)=xs.any p:=by
 unfold nM
 cases h:xs.findIdx? p with
 |none=>
  rw[List.findIdx?_eq_none_iff]at h
  have:xs.any p=false:=by rw[Bool.eq_false_iff];simp;intro x hx;simpa using h x hx
  simp[this]
 |some i=>
  rw[List.findIdx?_eq_some_iff_getElem]at h
  obtain⟨hi,hp,_⟩:=h
  have:xs.any p=true:=by simp;exact⟨_,qaB hi,hp⟩
  simp[this]
end
section
open Go.RowKit Go.Shelf
attribute [local go_sem] Ext.cell Ext.frozen
abbrev Q4:=Int×Int×Int×Int
abbrev v4 (p:Q4):Value:= .agg #[.int .i64 p.1, .int .i64 p.2.1, .int .i64 p.2.2.1, .int .i64 p.2.2.2]
def Q4At (w:World) (b off:Nat) (xs:List Q4):Prop:=∀i (h:i<xs.length),
 w.cell? ⟨b,off+i*4,none⟩=some (.int .i64 xs[i].1)∧w.cell? ⟨b,off+i*4+1,none⟩=some (.int .i64 xs[i].2.1)∧w.cell? ⟨b,off+i*4+2,none⟩=some (.int .i64 xs[i].2.2.1)∧w.cell? ⟨b,off+i*4+3,none⟩=some (.int .i64 xs[i].2.2.2)
theorem Q4At.below {w w':World} {b off:Nat} {xs:List Q4} (h:Q4At w b off xs) (hb:Below w.heap.size w w'):Q4At w' b off xs:=fun i hi=>⟨ab hb (h i hi).1,ab hb (h i hi).2.1,ab hb (h i hi).2.2.1,ab hb (h i hi).2.2.2⟩
def Q4s (w:World) (v:Value) (xs:List Q4):Prop:=
 ∃a n c,v= .slice a n c∧xs.length=n∧n≤c∧(0<n→∃b off,a=some ⟨b,off,none⟩∧Q4At w b off xs)
theorem Q4s.below {w w':World} {v:Value} {xs:List Q4} (h:Q4s w v xs) (hb:Below w.heap.size w w'):Q4s w' v xs:=by
 obtain⟨a,n,c,hv,hn,hc,hx⟩:=h
 exact⟨a,n,c,hv,hn,hc,fun h0=>by obtain⟨b,off,ha,hi⟩:=hx h0;exact⟨b,off,ha,hi.below hb⟩⟩
theorem lA (v:Value) (xs:List Q4) (p:Q4→Bool) (g:Nat) (cb:Array Value) (w:World) (hx:Q4s w v xs) (hm:xs.length≤1000000000)
  (eg:∀args w,(callFunc g args).run Tryz.prog w= .ok (.enter g args) w) (hp:∀x∈xs,gH Tryz.prog g cb w (v4 x) (p x)):
  Calls Tryz.prog 195 #[v, .func (.func g) #[] cb] w (Ret w (.int .i64 (nM p xs))):=by
 obtain⟨a,n,c,rfl,hn,_,hx⟩:=hx
 have HP:=YJ hp
 clear hp
 go_enter Tryz.func195,Tryz.ntmps195
 go_wp2
 go_loopw [8] (fun i wr=>∃k:Nat,k≤n∧i= .int .i64 k∧Below w.heap.size w wr∧Hid (∀i (h:i<xs.length),i<k→p xs[i]=false)) (fun i _=>n-(intOf i).toNat)
 case atStart=>exact⟨0,by omega,rfl,brf,YJ (fun i _ h=>by omega)⟩
 case round=>
  obtain⟨k,hk,rfl,hb,Hz⟩:=hrel
  by_cases hlt:k<n
  ·obtain⟨b,off,rfl,hi⟩:=hx (by omega)
   obtain⟨c0,c1,c2,c3⟩:=(hi.below hb) k (by omega)
   have hc:=HP.out (xs[k]) (by simp) wr hb
   have Hh:=YJ (lP (p:=p) (xs:=xs) (k:=k) (by omega))
   obtain⟨x,Hx⟩:∃x,Hid (xs[k]=x):=⟨_,YJ rfl⟩
   rw[Hx.out]at c0 c1 c2 c3 hc
   clear hx hi
   have Hc:=YJ hc
   clear hc
   cases hpx:p x with
   |true=>
    rw[hpx]at Hc
    go_wp2_with fail
    refine(Hc.out).mono ?_
    rintro e w1 ⟨rfl,hb1⟩
    go_wp2
    go_ret
    exact⟨aK (by rw[Hh.out (by rw[Hx.out];exact hpx) Hz.out]),fB hb hb1⟩
   |false=>
    rw[hpx]at Hc
    have Hpx:=YJ hpx
    clear hpx
    go_wp2_with fail
    refine(Hc.out).mono ?_
    rintro e w1 ⟨rfl,hb1⟩
    go_wp2
    go_roundw
    case rel=>exact⟨k+1,by omega,by go_num,fB hb hb1,YJ (fun i hi hik=>by
     by_cases e:i=k
     ·subst e;rw[Hx.out];exact Hpx.out
     ·exact Hz.out i hi (by omega))⟩
    simp[intOf];omega
  ·have Hn:=YJ (jU (fun i hi=>Hz.out i hi (by omega)))
   clear hx
   go_wp2
   go_ret
   exact⟨aK (by rw[Hn.out]),hb⟩
theorem jW (v:Value) (xs:List Q4) (p:Q4→Bool) (g:Nat) (cb:Array Value) (w:World) (hx:Q4s w v xs) (hm:xs.length≤1000000000)
  (eg:∀args w,(callFunc g args).run Tryz.prog w= .ok (.enter g args) w) (hp:∀x∈xs,gH Tryz.prog g cb w (v4 x) (p x)):
  Calls Tryz.prog 196 #[v, .func (.func g) #[] cb] w (Ret w (.int .i64 (nM p xs))):=by
 obtain⟨a,n,c,rfl,hn,_,hx⟩:=hx
 have HP:=YJ hp
 clear hp
 go_enter Tryz.func196,Tryz.ntmps196
 go_wp2
 go_loopw [8] (fun i wr=>∃k:Nat,k≤n∧i= .int .i64 k∧Below w.heap.size w wr∧Hid (∀i (h:i<xs.length),i<k→p xs[i]=false)) (fun i _=>n-(intOf i).toNat)
 case atStart=>exact⟨0,by omega,rfl,brf,YJ (fun i _ h=>by omega)⟩
 case round=>
  obtain⟨k,hk,rfl,hb,Hz⟩:=hrel
  by_cases hlt:k<n
  ·obtain⟨b,off,rfl,hi⟩:=hx (by omega)
   obtain⟨c0,c1,c2,c3⟩:=(hi.below hb) k (by omega)
   have hc:=HP.out (xs[k]) (by simp) wr hb
   have Hh:=YJ (lP (p:=p) (xs:=xs) (k:=k) (by omega))
   obtain⟨x,Hx⟩:∃x,Hid (xs[k]=x):=⟨_,YJ rfl⟩
   rw[Hx.out]at c0 c1 c2 c3 hc
   clear hx hi
   have Hc:=YJ hc
   clear hc
   cases hpx:p x with
   |true=>
    rw[hpx]at Hc
    go_wp2_with fail
    refine(Hc.out).mono ?_
    rintro e w1 ⟨rfl,hb1⟩
    go_wp2
    go_ret
    exact⟨aK (by rw[Hh.out (by rw[Hx.out];exact hpx) Hz.out]),fB hb hb1⟩
   |false=>
    rw[hpx]at Hc
    have Hpx:=YJ hpx
    clear hpx
    go_wp2_with fail
    refine(Hc.out).mono ?_
    rintro e w1 ⟨rfl,hb1⟩
    go_wp2
    go_roundw
    case rel=>exact⟨k+1,by omega,by go_num,fB hb hb1,YJ (fun i hi hik=>by
     by_cases e:i=k
     ·subst e;rw[Hx.out];exact Hpx.out
     ·exact Hz.out i hi (by omega))⟩
    simp[intOf];omega
  ·have Hn:=YJ (jU (fun i hi=>Hz.out i hi (by omega)))
   clear hx
   go_wp2
   go_ret
   exact⟨aK (by rw[Hn.out]),hb⟩
theorem fE (v:Value) (xs:List Q4) (p:Q4→Bool) (g:Nat) (cb:Array Value) (w:World) (hx:Q4s w v xs) (hm:xs.length≤1000000000)
  (eg:∀args w,(callFunc g args).run Tryz.prog w= .ok (.enter g args) w) (hp:∀x∈xs,gH Tryz.prog g cb w (v4 x) (p x)):
  Calls Tryz.prog 149 #[v, .func (.func g) #[] cb] w (Ret w (.bool (xs.any p))):=by
 have Hc:=YJ (lA v xs p g cb w hx hm eg hp)
 have HN:=YJ (vJ p xs)
 clear hx hp eg
 go_enter Tryz.func149,Tryz.ntmps149
 go_wp2_with fail
 refine(Hc.out).mono ?_
 rintro e w1 ⟨rfl,hb1⟩
 go_wp2
 go_ret
 exact⟨ay HN.out,hb1⟩
theorem fo (v:Value) (xs:List Q4) (p:Q4→Bool) (g:Nat) (cb:Array Value) (w:World) (hx:Q4s w v xs) (hm:xs.length≤1000000000)
  (eg:∀args w,(callFunc g args).run Tryz.prog w= .ok (.enter g args) w) (hp:∀x∈xs,gH Tryz.prog g cb w (v4 x) (p x)):
  Calls Tryz.prog 151 #[v, .func (.func g) #[] cb] w (Ret w (.bool (xs.any p))):=by
 have Hc:=YJ (jW v xs p g cb w hx hm eg hp)
 have HN:=YJ (vJ p xs)
 clear hx hp eg
 go_enter Tryz.func151,Tryz.ntmps151
 go_wp2_with fail
 refine(Hc.out).mono ?_
 rintro e w1 ⟨rfl,hb1⟩
 go_wp2
 go_ret
 exact⟨ay HN.out,hb1⟩
end
end Go.Proofs.YtffbilcjhlncfaaGreatDoor
