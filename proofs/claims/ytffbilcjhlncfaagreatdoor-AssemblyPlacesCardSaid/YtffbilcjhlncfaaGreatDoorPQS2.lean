/- texts: PLA U2 PLB PLC H0 H3 H6. -/
import Derived.ArgAppend
import Derived.BigQuiet
import Derived.ChangeKeysEq
import Derived.Deep.AppendLies
import Derived.Deep.DeepAppendRoom
import Derived.Deep.DeepAppendWide
import Derived.Deep.DeepCutAuto
import Derived.Deep.QuietTactic
import Derived.Deep.RegionHeld
import Derived.Deep.RegionHeld3
import Derived.Deep.RegionHeldLaw
import Derived.DeepKeys4
import Derived.Laws.AppendOwnNone
import Derived.Laws.StructEq
import Derived.Lib.AppendIntMem
import Derived.Lib.AppendZerosOnto
import Derived.Lib.Hide
import Derived.Lib.ItoaLen
import Derived.Lib.SliceRun
import Derived.Lib.SlicesCompact
import Derived.LoopIn
import Derived.LoopNIn
import Derived.Maps.AppendAt
import Derived.Maps.OwnSet
import Derived.OwnWalkIn
import Derived.RangeFuncBound
import Derived.RangeFuncBox
import Derived.RangeFuncCalls
import Derived.RangeFuncFrom
import Derived.RangeFuncLeaves
import Derived.RangeFuncNested
import Derived.RangeFuncWrites
import Derived.Shelf.Abstract
import Derived.Shelf.Lays8
import Derived.Shelf.LaysM
import Derived.Shelf.RegionOpen
import Derived.Shelf.Slices.Turned
import Derived.Shelf.Small.Bits
import Derived.Shelf.Small.Strs
import Derived.Shelf.Spec.TrailingZeros
import Derived.Shelf.Strconv.Itoa0
import Derived.Shelf.Strconv.Itoa1
import Derived.Shelf.Strconv.Itoa2
import Derived.Shelf.Strconv.Itoa3
import Derived.Shelf.Strings.Builder1
import Derived.Shelf.Strings.Builder2
import Derived.Shelf.Strings.Builder2Cap
import Derived.Shelf.Strings.BuilderCap
import Derived.Shelf.Strings.BuilderF
import Derived.Shelf.Strings.BuilderK
import Derived.Shelf.Strings.Count
import Derived.Shelf.Strings.OnBuilder
import Derived.Shelf.Strings.Search1
import Derived.Shelf.Strings.Search2
import Derived.Shelf.Strings.Search3
import Derived.Shelf.Strings.Shaped
import Derived.Shelf.Unicode.DecodeSlow
import Derived.Sort.Grow
import Derived.StillTail
import Derived.TacticsInMore
import Derived.WalkKit
import Derived.WalkLawsBesides
import Derived.WalkSpells
import Derived.WideKeyEntry
import Derived.Test.YtffbilcjhlncfaaGreatDoorProg
import Derived.Test.YtffbilcjhlncfaaGreatDoorRows
import Derived.Test.YtffbilcjhlncfaaGreatDoorSort
import Derived.Test.YtffbilcjhlncfaaGreatDoorDQS1
import Derived.Test.YtffbilcjhlncfaaGreatDoorDQS2
import Derived.Test.YtffbilcjhlncfaaGreatDoorDQS4
import Derived.Test.YtffbilcjhlncfaaGreatDoorDQS5
import Derived.Test.YtffbilcjhlncfaaGreatDoorDQS6
import Derived.Test.YtffbilcjhlncfaaGreatDoorDQS7
import Derived.Test.YtffbilcjhlncfaaGreatDoorDQS8
import Derived.Test.YtffbilcjhlncfaaGreatDoorDQS9
import Derived.Test.YtffbilcjhlncfaaGreatDoorDQS10
import Derived.Test.YtffbilcjhlncfaaGreatDoorDQS11
import Derived.Test.YtffbilcjhlncfaaGreatDoorDQS12
import Derived.Test.YtffbilcjhlncfaaGreatDoorDQS14
import Derived.Test.YtffbilcjhlncfaaGreatDoorDQS15
import Derived.Test.YtffbilcjhlncfaaGreatDoorDQS16
import Derived.Test.YtffbilcjhlncfaaGreatDoorDQS17
import Derived.Test.YtffbilcjhlncfaaGreatDoorDQS18
import Derived.Test.YtffbilcjhlncfaaGreatDoorDQS19
import Derived.Test.YtffbilcjhlncfaaGreatDoorDQS20
import Derived.Test.YtffbilcjhlncfaaGreatDoorDQS21
import Derived.Test.YtffbilcjhlncfaaGreatDoorDQS22
import Derived.Test.YtffbilcjhlncfaaGreatDoorDQS23
import Derived.Test.YtffbilcjhlncfaaGreatDoorDQS26
import Derived.Test.YtffbilcjhlncfaaGreatDoorDQS29
import Derived.Test.YtffbilcjhlncfaaGreatDoorDQS30
import Derived.Test.YtffbilcjhlncfaaGreatDoorDQS31
import Derived.Test.YtffbilcjhlncfaaGreatDoorDQS32
import Derived.Test.YtffbilcjhlncfaaGreatDoorDQS34
import Derived.Test.YtffbilcjhlncfaaGreatDoorDQS36
import Derived.Test.YtffbilcjhlncfaaGreatDoorPQS1
namespace Go.Proofs.YtffbilcjhlncfaaGreatDoor
set_option maxHeartbeats 8000000
set_option linter.all false
section
open Go.RowKit Go.Shelf Go.Lib
set_option maxRecDepth 100000
attribute [local go_sem] Ext.cell Ext.frozen
def movC (b:Q3) (c:List Q4):List Q4:=c.map (movP b)
theorem movC_len (b:Q3) (c:List Q4):(movC b c).length=c.length:=qdo _
theorem movC_succ {b:Q3} {c:List Q4} {j:Nat} (h:j<c.length):(movC b c).take (j+1)=(movC b c).take j++[movP b c[j]]:=by
 unfold movC
 rw[qaI (by rw[qdo];exact h),qdB]
theorem movS_succ {b:Q3} {css:List (List Q4)} {k:Nat} (h:k<css.length):(css.map (movC b)).take (k+1)=(css.map (movC b)).take k++[movC b css[k]]:=by
 rw[qaI (by rw[qdo];exact h),qdB]
theorem all_snoc {α:Type} {P:α→Prop} {l:List α} {x:α} (h:∀y∈l,P y) (hx:P x):∀y∈l++[x],P y:=fun y hy=>by
 rcases altl.1 hy with h1|h1
 ·exact h y h1
 ·rw[ultg.1 h1];exact hx
def bdW (b:Q3):Prop:=(-600000≤b.1∧b.1≤600000)∧(-600000≤b.2.1∧b.2.1≤600000)∧(-600000≤b.2.2∧b.2.2≤600000)
def fitP (p:Q4):Bool:=decide (-10000000≤p.2.2.2∧p.2.2.2≤10000000)
def fitC (b:Q3) (c:List Q4):Bool:=(movC b c).all fitP&&(ct (movC b c)).all lw
def fitS (b:Q3) (css:List (List Q4)):Bool:=bB (-600000) 600000 [b.1,b.2.1,b.2.2]&&css.all (fitC b)
theorem fitS_far {b:Q3} {css:List (List Q4)} (h:bB (-600000) 600000 [b.1,b.2.1,b.2.2]=false):fitS b css=false:=by
 unfold fitS
 rw[h,Bool.false_and]
theorem fitS_cell {b:Q3} {css:List (List Q4)} {k:Nat} (hk:k<css.length) (h:fitC b css[k]=false):fitS b css=false:=by
 unfold fitS
 rw[Bool.and_eq_false_iff]
 exact .inr (List.all_eq_false.2 ⟨_,qaB hk,by rw[h];exact Bool.false_ne_true⟩)
theorem fitS_all {b:Q3} {css:List (List Q4)} (hw:bB (-600000) 600000 [b.1,b.2.1,b.2.2]=true) (h:∀k (hk:k<css.length),fitC b css[k]=true):fitS b css=true:=by
 unfold fitS
 rw[hw,Bool.true_and,alsi]
 intro c hc
 obtain⟨k,hk,rfl⟩:=List.mem_iff_getElem.1 hc
 exact h k hk
theorem fitC_pl {b:Q3} {c:List Q4} {j:Nat} (hj:j<c.length) (h:¬(-10000000≤(movP b c[j]).2.2.2∧(movP b c[j]).2.2.2≤10000000)):fitC b c=false:=by
 unfold fitC
 rw[Bool.and_eq_false_iff]
 exact .inl (List.all_eq_false.2 ⟨_,List.mem_map_of_mem (qaB hj),by unfold fitP;rw[qfV];exact h⟩)
theorem fitC_co {b:Q3} {c:List Q4} {q:Nat} (hq:q<(ct (movC b c)).length) (h:lw (ct (movC b c))[q]=false):fitC b c=false:=by
 unfold fitC
 rw[Bool.and_eq_false_iff]
 exact .inr (List.all_eq_false.2 ⟨_,qaB hq,by rw[h];exact Bool.false_ne_true⟩)
theorem fitC_all {b:Q3} {c:List Q4} (h:∀p∈movC b c,bI p) (h2:∀q (hq:q<(ct (movC b c)).length),lw (ct (movC b c))[q]=true):fitC b c=true:=by
 unfold fitC
 rw[qaF,alsi,alsi]
 refine⟨fun p hp=> ?_,fun x hx=> ?_⟩
 ·unfold fitP
  rw[qfV]
  exact(h p hp).2.2.2
 ·obtain⟨q,hq,rfl⟩:=List.mem_iff_getElem.1 hx
  exact h2 q hq
theorem withinB3 {x y z:Int}:bB (-600000) 600000 [x,y,z]=(decide ((-600000:Int)≤x∧x≤600000)&&(decide ((-600000:Int)≤y∧y≤600000)&&decide ((-600000:Int)≤z∧z≤600000))):=by
 unfold bB
 rw[Bool.eq_iff_iff]
 simp only[List.any_cons,List.any_nil,Bool.not_eq_true',Bool.or_eq_false_iff,decide_eq_false_iff_not,qaF,qfV]
 constructor
 ·rintro⟨h1,h2,h3, -⟩
  omega
 ·intro h
  refine⟨by omega,by omega,by omega,trivial⟩
theorem bdW_of {b:Q3} (h:bB (-600000) 600000 [b.1,b.2.1,b.2.2]=true):bdW b:=by
 rw[withinB3,qaF,qaF,qfV,qfV,qfV]at h
 exact h
theorem mvW_bd {p:Q4} {b:Q3} (hp:bI p) (hb:bdW b):(-4800000≤p.1*b.1∧p.1*b.1≤4800000)∧(-4800000≤p.2.1*b.2.1∧p.2.1*b.2.1≤4800000)∧(-4800000≤p.2.2.1*b.2.2∧p.2.2.1*b.2.2≤4800000):=by
 obtain⟨h1,h2,h3,h4⟩:=hp
 obtain⟨k1,k2,k3⟩:=hb
 have e1:=aJ h1.1 h1.2 k1.1 k1.2
 have e2:=aJ h2.1 h2.2 k2.1 k2.2
 have e3:=aJ h3.1 h3.2 k3.1 k3.2
 omega
theorem mvD_bd {p:Q4} {b:Q3} (hp:bI p) (hb:bdW b): -14400000≤bj (nrm p) b∧bj (nrm p) b≤14400000:=by
 have h:=mvW_bd hp hb
 unfold bj nrm
 simp only
 omega
theorem rFarW_any (x y z:Int) (W:World):Calls Tryz.prog 111 #[V3 x y z] W (Ret W (.bool (!bB (-600000) 600000 [x,y,z]))):=by
 have HWi:=fun n b (h:decide ((-600000:Int)≤n∧n≤600000)=b) W'=>YJ (ba h W')
 rw[withinB3]
 obtain⟨bxq,Hx⟩:∃bxq,Hid (decide ((-600000:Int)≤x∧x≤600000)=bxq):=⟨_,YJ rfl⟩
 obtain⟨bw,Hy⟩:∃bw,Hid (decide ((-600000:Int)≤y∧y≤600000)=bw):=⟨_,YJ rfl⟩
 obtain⟨bz,Hz⟩:∃bz,Hid (decide ((-600000:Int)≤z∧z≤600000)=bz):=⟨_,YJ rfl⟩
 rw[Hx.out,Hy.out,Hz.out]
 obtain⟨V,HV⟩:∃V,Hid (W.alloc (.cells #[.int .i64 x, .int .i64 y, .int .i64 z] 37)=V):=⟨_,YJ rfl⟩
 have hV:Below W.heap.size W V:=by rw[←HV.out];exact bel
 have HB:Hid (V.heap[W.heap.size]? =some (.cells #[.int .i64 x, .int .i64 y, .int .i64 z] 37 (0,0))):=YJ (by rw[←HV.out];exact ai rfl)
 go_enter Tryz.func111,Tryz.ntmps111
 go_wp2
 try rw[HV.out]
 go_loopw [3] (fun i wr=>∃k:Int,0≤k∧k≤3∧i= .int .i64 k∧wr=V∧(1≤k→bxq=true)∧(2≤k→bw=true)∧(3≤k→bz=true)) (fun i _=>3-(intOf i).toNat)
 case atStart=>exact⟨0,by omega,by omega,rfl,rfl,fun h=>absurd h (by decide),fun h=>absurd h (by decide),fun h=>absurd h (by decide)⟩
 case round=>
  obtain⟨k,h0,h3,rfl,rfl,k1,k2,k3⟩:=hrel
  obtain⟨x0,x1,x2,xf,xz⟩:=NO HB.out
  rcases(by omega:k=0∨k=1∨k=2∨k=3)with rfl|rfl|rfl|rfl
  ·have HC:=YJ (HWi x _ Hx.out wr).out
   clear HWi
   go_wp2_with fail
   refine(HC.out).mono ?_
   rintro e w1 ⟨rfl,rfl⟩
   clear HC
   cases bxq with
   |true=>
    go_wp2
    go_roundw
    case rel=>exact⟨1,by omega,by omega,rfl,by trivial,fun _=>by trivial,fun h=>absurd h (by decide),fun h=>absurd h (by decide)⟩
    first|decide|(simp[intOf];done)
   |false=>
    go_wp2
    go_ret
    exact⟨by first|trivial|(simp;done),hV⟩
  ·have HC:=YJ (HWi y _ Hy.out wr).out
   obtain rfl:=k1 (by decide)
   clear HWi
   go_wp2_with fail
   refine(HC.out).mono ?_
   rintro e w1 ⟨rfl,rfl⟩
   clear HC
   cases bw with
   |true=>
    go_wp2
    go_roundw
    case rel=>exact⟨2,by omega,by omega,rfl,by trivial,fun _=>by trivial,fun _=>by trivial,fun h=>absurd h (by decide)⟩
    first|decide|(simp[intOf];done)
   |false=>
    go_wp2
    go_ret
    exact⟨by first|trivial|(simp;done),hV⟩
  ·have HC:=YJ (HWi z _ Hz.out wr).out
   obtain rfl:=k1 (by decide)
   obtain rfl:=k2 (by decide)
   clear HWi
   go_wp2_with fail
   refine(HC.out).mono ?_
   rintro e w1 ⟨rfl,rfl⟩
   clear HC
   cases bz with
   |true=>
    go_wp2
    go_roundw
    case rel=>exact⟨3,by omega,by omega,rfl,by trivial,fun _=>by trivial,fun _=>by trivial,fun _=>by trivial⟩
    first|decide|(simp[intOf];done)
   |false=>
    go_wp2
    go_ret
    exact⟨by first|trivial|(simp;done),hV⟩
  ·obtain rfl:=k1 (by decide)
   obtain rfl:=k2 (by decide)
   obtain rfl:=k3 (by decide)
   go_wp2
   go_ret
   exact⟨by trivial,hV⟩
def mvE (fs:Bool):Int:=if fs then 0 else 2
def MovW (fs:Bool) (L:List (List Q4)) (W:World) (e:Ending) (w':World):Prop:=∃a n c,e= .returned (.tuple #[.agg #[.slice a n c], .int .i64 (mvE fs)])∧Below W.heap.size W w'∧(fs=true→SolO W.heap.size w' (.slice a n c) L)
theorem rMoveW_any (css:List (List Q4)) (sv:Value) (x y z:Int) (W:World) (hl:css.length≤1000) (hL:∀c∈css,DC c) (h:SolV W sv css):
  Calls Tryz.prog 56 #[.agg #[sv],V3 x y z] W (MovW (fitS (x,y,z) css) (css.map (movC (x,y,z))) W):=by
 obtain⟨i0,hi0,hz0,hz1,hz2⟩:=info_parts cY
 have Hi0:=YJ (And.intro hi0 (And.intro hz0 (And.intro hz1 hz2)))
 obtain⟨i1,hj0,hy0,hy1,hy2⟩:=info_parts nt
 have Hi1:=YJ (And.intro hj0 (And.intro hy0 (And.intro hy1 hy2)))
 clear hi0 hz0 hz1 hz2 hj0 hy0 hy1 hy2
 have HFar:=fun W'=>YJ (rFarW_any x y z W')
 obtain⟨iw,Hiw⟩:∃iw,Hid (bB (-600000) 600000 [x,y,z]=iw):=⟨_,YJ rfl⟩
 rw[Hiw.out]at HFar
 have HFr:Hid (iw=false→fitS (x,y,z) css=false):=YJ (fun h=>fitS_far (by rw[←h];exact Hiw.out))
 have HFc:=fun k (h:k<css.length)=>YJ (@fitS_cell (x,y,z) css k h)
 have HFa:Hid (iw=true→(∀k (hk:k<css.length),fitC (x,y,z) css[k]=true)→fitS (x,y,z) css=true):=YJ (fun h=>fitS_all (by rw[←h];exact Hiw.out))
 have HFp:=fun c j (h:j<c.length)=>YJ (@fitC_pl (x,y,z) c j h)
 have HFq:=fun c q (h:q<(ct (movC (x,y,z) c)).length)=>YJ (@fitC_co (x,y,z) c q h)
 have HFe:=fun c=>YJ (@fitC_all (x,y,z) c)
 have hv:=fun(h:iw=true)=>(bdW_of (b:=(x,y,z)) (by rw[←h];exact Hiw.out))
 have HBd:=fun(hi:iw=true) p (h:bI p)=>YJ (mvD_bd h (hv hi))
 have HDt:=fun(hi:iw=true) p W' (h:bI p)=>YJ (show Calls Tryz.prog 112 #[V3 p.1 p.2.1 p.2.2.1,V3 x y z] W' (Ret W' (.int .i64 (bj (nrm p) (x,y,z))))from QS p.1 p.2.1 p.2.2.1 x y z W' (by have:=(mvW_bd h (hv hi)).1;simp only at this;omega) (by have:=(mvW_bd h (hv hi)).2.1;simp only at this;omega) (by have:=(mvW_bd h (hv hi)).2.2;simp only at this;omega))
 have HNr:=fun a b c d W'=>YJ (NN a b c d W')
 have HWi:=fun n b (h:decide ((-10000000:Int)≤n∧n≤10000000)=b) W'=>YJ (ba h W')
 have HPt:=fun c v W' (h1:∀p∈c,bI p) (h2:c.length≤64) (h3:Q4s W' v c)=>YJ (WH c v W' h1 h2 h3)
 have HRm:=fun(q:Q4) W' (h:fD q)=>YJ (PN q.1 q.2.1 q.2.2.1 q.2.2.2 W' ⟨by have:=h.2.2.2;omega,by have:=h.2.2.2;omega⟩)
 have HCo:=fun c (h:∀p∈c,bI p)=>YJ (fun q (hq:q∈ct c)=>tE h q hq)
 have HRl:=fun c (h:c.length≤16)=>YJ (show(ct c).length≤1000000 from qaD (Qc (qaD h (by decide))) (by decide))
 have HS1:=fun k (h:k<css.length)=>YJ (@movS_succ (x,y,z) css k h)
 have HS2:=fun c j (h:j<c.length)=>YJ (@movC_succ (x,y,z) c j h)
 have HLk:=fun k (h:k<css.length)=>YJ (hL _ (qaB h))
 have HMd:=fun p=>YJ (show movP (x,y,z) p=(p.1,p.2.1,p.2.2.1,p.2.2.2+bj (nrm p) (x,y,z))from rfl)
 obtain⟨sa,n,sc,rfl,hn, -,hx⟩:=h
 have HX:=YJ hx
 have HN:=YJ hn
 have hn1:n≤1000:=by omega
 have HTn:Hid ((css.map (movC (x,y,z))).take n=css.map (movC (x,y,z))):=YJ (by rw[←hn, ←qdo (f:=movC (x,y,z)),qgi])
 have HTl:Hid ((css.map (movC (x,y,z))).length=n):=YJ (by rw[qdo,hn])
 clear hx hn hl hL
 obtain⟨BV,HBV⟩:∃BV:Q3,Hid ((x,y,z)=BV):=⟨_,YJ rfl⟩
 obtain⟨FS,HFS⟩:∃FS,Hid (fitS (x,y,z) css=FS):=⟨_,YJ rfl⟩
 rw[HFS.out]at HFr HFc HFa ⊢
 clear HFS Hiw
 rw[HBV.out]at HS1 HS2 HMd HTn HTl HBd HDt HFc HFa HFp HFq HFe ⊢
 obtain⟨V,HV⟩:∃V,Hid (((W.alloc (.cells #[.slice sa n sc] 75)).alloc (.cells #[.int .i64 x, .int .i64 y, .int .i64 z] 37)).alloc (.cells #[.slice none 0 0] 75)=V):=⟨_,YJ rfl⟩
 have hV:Below W.heap.size W V:=by rw[←HV.out];exact bel
 have zV:V.heap.size=W.heap.size+3:=by rw[←HV.out];simp
 have BA:Hid (V.heap[W.heap.size]? =some (.cells #[.slice sa n sc] 75 (0,0))):=YJ (by rw[←HV.out];exact(aB (by simp<;>omega)).trans ((aB (by simp)).trans (ai rfl)))
 have BY:Hid (V.heap[W.heap.size+1]? =some (.cells #[.int .i64 x, .int .i64 y, .int .i64 z] 37 (0,0))):=YJ (by rw[←HV.out];exact(aB (by simp)).trans (ai (by simp)))
 have BR:Hid (V.heap[W.heap.size+2]? =some (.cells #[.slice none 0 0] 75 (0,0))):=YJ (by rw[←HV.out];exact ai (by simp))
 obtain⟨y0,y1,y2,yf,yz⟩:=NO BY.out
 go_enter Tryz.func56,Tryz.ntmps56
 go_wp2_with fail
 try rw[HV.out]
 refine((HFar _).out).mono ?_
 rintro e w1 ⟨rfl,hb1⟩
 have hw1:=fB hV hb1
 have z1:W.heap.size+3≤w1.heap.size:=by have:=hb1.size;omega
 have HA1:=YJ ((hb1.block _ (ah BA.out)).trans BA.out)
 have HY1:=YJ ((hb1.block _ (ah BY.out)).trans BY.out)
 have HR1:=YJ ((hb1.block _ (ah BR.out)).trans BR.out)
 clear HFar BA BY BR y0 y1 y2 yf yz hb1 HV zV hV
 by_cases hi:iw=false
 ·subst hi
  have hfs:=HFr.out rfl
  have r0:w1.cell? ⟨W.heap.size+2,0,none⟩=some (.slice none 0 0):=(bq HR1.out 0).trans rfl
  have rz:=ah HR1.out
  have rf:=aC HR1.out
  clear HFr HFc HFa HFp HFq HFe HBd HDt HS1 HS2 HLk HMd
  go_wp2
  refine bodyPost_ret (v:= .tuple #[.agg #[.slice none 0 0], .int .i64 2]) (by simp[results,Tryz.results56,go_sem,r0,rz]) rfl ⟨none,0,0,by rw[hfs];rfl, ?_,fun h=>by rw[hfs]at h;cases h⟩
  first|exact hw1|exact(hw1).setCell (by show _≤W.heap.size+2;omega) _
 obtain rfl:iw=true:=by simpa using hi
 clear hi
 replace HBd:=HBd rfl
 replace HDt:=HDt rfl
 replace HFa:=YJ (HFa.out rfl)
 clear HFr hv
 go_wp2
 go_loopw [7] (fun x wr=>∃k:Nat,k≤n∧x= .int .i64 k∧Below w1.heap.size w1 wr∧w1.heap.size+1≤wr.heap.size∧∃s vs,Hid (wr.heap[w1.heap.size]? =some (.cells #[s] 75 (0,0)))∧Hid (wr.ownsRow (w1.heap.size+1) 164 1 s k vs)∧Hid (RowsV wr (w1.heap.size+1) vs ((css.map (movC BV)).take k))∧Hid (∀c∈(css.map (movC BV)).take k,∀p∈c,bI p)∧Hid (∀i (h:i<css.length),i<k→fitC BV css[i]=true)) (fun x _=>n-(intOf x).toNat)
 case atStart=>exact⟨0,by omega,rfl,bel,by simp, .slice none 0 0,[],YJ (ai rfl),YJ (qds _ _ _ _),YJ (by rw[qdu];exact RowsV.nil),YJ (by rw[qdu];exact fun c hc=>by cases hc),YJ (fun i _ h=>by omega)⟩
 case round=>
  obtain⟨k,hk,rfl,hb,zr,s,vs,HG,HO,HRv,HOk,HFt⟩:=hrel
  have HAr:=YJ ((hb.block _ (ah HA1.out)).trans HA1.out)
  have HYr:=YJ ((hb.block _ (ah HY1.out)).trans HY1.out)
  have HRr:=YJ ((hb.block _ (ah HR1.out)).trans HR1.out)
  have hwr:=fB hw1 hb
  have a0:wr.cell? ⟨W.heap.size,0,none⟩=some (.slice sa n sc):=(bq HAr.out 0).trans rfl
  have az:=ah HAr.out
  by_cases hlt:k<n
  ·have g1:(k:Int)<(n:Int):=by omega
   have g2:(0:Int)≤(k:Int):=by omega
   have hil:k<css.length:=by have:=HN.out;omega
   obtain⟨b,off,rfl,hi4⟩:=HX.out (by omega)
   obtain⟨pv,e0,hs⟩:=hi4 k hil
   have e0:=ab hwr e0
   have ze:=qaC wr _ e0
   simp only at ze
   obtain⟨pa,pn,pc,rfl,hpn, -,hpx⟩:=hs.below hwr
   have HLc:=YJ (HLk k hil).out
   have hpn16:pn≤16:=by have:=HLc.out.2.2;omega
   have HSk:=YJ (HS1 k hil).out
   have HPn:=YJ hpn
   have HPx:=YJ hpx
   have HFk:=YJ (HFc k hil).out
   have HFn:Hid (fitC BV css[k]=true→∀i (h:i<css.length),i<k+1→fitC BV css[i]=true):=YJ (fun h i hi hk'=>by
    by_cases e:i=k
    ·subst e;exact h
    ·exact HFt.out i hi (by omega))
   clear hi4 hs HX HS1 HLk hpn hpx HFc HFa HFt
   generalize css[k]=c at*
   have HS2c:=fun j (h:j<c.length)=>YJ (HS2 c j h).out
   have HFpc:=fun j (h:j<c.length)=>YJ (fun h'=>HFk.out ((HFp c j h).out h'))
   have HFqc:=fun q (h:q<(ct (movC BV c)).length)=>YJ (fun h'=>HFk.out ((HFq c q h).out h'))
   have HFec:=YJ (fun h1 h2=>HFn.out ((HFe c).out h1 h2))
   clear HFk HFn HFp HFq HFe
   have HTc:Hid ((movC BV c).take pn=movC BV c):=YJ (by rw[←HPn.out, ←movC_len BV c,qgi])
   have HMl:Hid ((movC BV c).length=pn):=YJ (by rw[movC_len,HPn.out])
   obtain⟨sad,scap,rfl⟩:=aT HO.out
   have HAq:=HAr
   have HYq:=HYr
   have HRq:=HRr
   obtain⟨wq,rfl⟩:∃wq:World,wq=wr:=⟨_,rfl⟩
   have zg:wq.heap.size<(wq.alloc (.cells #[.slice none 0 0] 164)).heap.size:=by simp
   go_wp2
   go_loopw [9] (fun i wr=>∃j:Nat,j≤pn∧i= .int .i64 j∧Below wq.heap.size wq wr∧wq.heap.size+1≤wr.heap.size∧∃s',Hid (wr.heap[wq.heap.size]? =some (.cells #[s'] 164 (0,0)))∧Hid (wr.ownsRow (wq.heap.size+1) 190 4 s' ((movC BV c).take j).length (((movC BV c).take j).flatMap aH))∧Hid (∀p∈(movC BV c).take j,bI p)) (fun i _=>pn-(intOf i).toNat)
   case atStart=>exact⟨0,by omega,rfl,bel,by simp, .slice none 0 0,YJ (ai rfl),YJ (by rw[qdu];exact qds _ _ _ _),YJ (by rw[qdu];exact fun c hc=>by cases hc)⟩
   case round=>
    obtain⟨j,hj,rfl,hbw,zw,s',HC,HP,HPk⟩:=hrel
    have HAw:=YJ ((hbw.block _ (ah HAq.out)).trans HAq.out)
    have HYw:=YJ ((hbw.block _ (ah HYq.out)).trans HYq.out)
    have HRw:=YJ ((hbw.block _ (ah HRq.out)).trans HRq.out)
    have a0:wr.cell? ⟨W.heap.size,0,none⟩=some (.slice (some ⟨b,off,none⟩) n sc):=(bq HAw.out 0).trans rfl
    have az:=ah HAw.out
    have e0:=ab hbw e0
    have ze:=qaC wr _ e0
    simp only at ze
    have hww:=fB hwr hbw
    by_cases hjp:j<pn
    ·have g3:(j:Int)<(pn:Int):=by omega
     have g4:(0:Int)≤(j:Int):=by omega
     have hjl:j<c.length:=by have:=HPn.out;omega
     obtain⟨pb,poff,rfl,hpx⟩:=HPx.out (by omega)
     obtain⟨p0,p1,p2,p3⟩:=(hpx.below hbw) j hjl
     have zp:=qaC wr _ p0
     simp only at zp
     have hok:=HLc.out.1 _ (qaB hjl)
     have HBj:=(HBd c[j] hok).out
     have HDj:=fun W'=>YJ (HDt c[j] W' hok).out
     have HSj:=YJ (HS2c j hjl).out
     have HFj:=YJ (HFpc j hjl).out
     rw[(HMd c[j]).out]at HSj HFj
     clear hpx HPx HS2c HBd HDt HFpc HFqc HFec
     generalize c[j]=pp at*
     obtain⟨pp0,pp1,pp2,pp3⟩:=pp
     simp only at p0 p1 p2 p3 HDj HSj HFj
     obtain⟨dd,Hdd⟩:∃dd,Hid (bj (nrm (pp0,pp1,pp2,pp3)) BV=dd):=⟨_,YJ rfl⟩
     rw[Hdd.out]at HBj HSj HDj HFj
     have hp3:=hok.2.2.2
     simp only at hp3
     have q1:IntKind.i64.wrap (pp3+dd)=pp3+dd:=IntWalk.i64_in _ (by omega)
     obtain⟨X,HXx⟩:∃X,Hid (wr.alloc (.cells #[.int .i64 pp0, .int .i64 pp1, .int .i64 pp2, .int .i64 pp3] 190)=X):=⟨_,YJ rfl⟩
     have hbX:Below wr.heap.size wr X:=by rw[←HXx.out];exact bel
     have HPX:Hid (X.heap[wr.heap.size]? =some (.cells #[.int .i64 pp0, .int .i64 pp1, .int .i64 pp2, .int .i64 pp3] 190 (0,0))):=YJ (by rw[←HXx.out];exact ai rfl)
     have HYX:=YJ ((hbX.block _ (ah HYw.out)).trans HYw.out)
     go_wp2
     try rw[HXx.out]
     have x0:X.cell? ⟨wr.heap.size,0,none⟩=some (.int .i64 pp0):=(bq HPX.out 0).trans rfl
     have x1:X.cell? ⟨wr.heap.size,1,none⟩=some (.int .i64 pp1):=(bq HPX.out 1).trans rfl
     have x2:X.cell? ⟨wr.heap.size,2,none⟩=some (.int .i64 pp2):=(bq HPX.out 2).trans rfl
     have x3:X.cell? ⟨wr.heap.size,3,none⟩=some (.int .i64 pp3):=(bq HPX.out 3).trans rfl
     have xz:=ah HPX.out
     have xf:=aC HPX.out
     obtain⟨y0,y1,y2,yf,yz⟩:=NO HYX.out
     apply aj [] [0,1,2,3,4,5,6,7] 8 [] [sv _,sv _,sv _,sv _,sv _,sv _,sv _,sv _] (by kernel_rfl) (by kernel_rfl)
     iterate 3 ((try go_frame);refine wkQ ?_)
     try go_frame
     refine wkV ?_
     apply ex3
     ·intro u K hK
      go_simp
      refine((HNr _ _ _ _ _).out).mono ?_
      rintro e w9 ⟨rfl,hb9⟩
      exact hK _ hb9
     rfl
     ((try go_frame);refine wkQ ?_)
     try go_frame
     refine wkV ?_
     apply ex3
     ·intro u K hK
      go_simp
      refine((HDj _).out).mono ?_
      rintro e w9 ⟨rfl,hb9⟩
      exact hK _ hb9
     rfl
     iterate 2 ((try go_frame);refine wkQ ?_)
     try go_frame
     refine aI (fun u hR=> ?_)
     have hbu:=u.below
     have HP5:=(hbu.block _ (ah HPX.out)).trans HPX.out
     have hb5:Below wr.heap.size wr u.val:=hbX.trans (hbu.mono hbX.size)
     clear hR x0 x1 x2 x3 xz xf y0 y1 y2 yf yz HPX HYX hbX HXx HDj HNr hbu
     generalize u.val=w5 at*
     clear u
     obtain⟨Y,HY⟩:∃Y,Hid (w5.setCell ⟨wr.heap.size,3,none⟩ (.int .i64 (pp3+dd))=Y):=⟨_,YJ rfl⟩
     have HPY:Hid (Y.heap[wr.heap.size]? =some (.cells #[.int .i64 pp0, .int .i64 pp1, .int .i64 pp2, .int .i64 (pp3+dd)] 190 (0,0))):=YJ (by rw[←HY.out];exact Tu HP5 3 (.int .i64 (pp3+dd)))
     have hbY:Below wr.heap.size wr Y:=by rw[←HY.out];exact hb5.setCell (p:=⟨wr.heap.size,3,none⟩) (qaA _) _
     have q0:w5.cell? ⟨wr.heap.size,3,none⟩=some (.int .i64 pp3):=(bq HP5 3).trans rfl
     have qz:=ah HP5
     have qf:=aC HP5
     simp only[oas]
     go_wp2
     refine NoPanic.normal ?_
     rw[HY.out]
     clear q0 qz qf HP5 HY hb5
     have x3:Y.cell? ⟨wr.heap.size,3,none⟩=some (.int .i64 (pp3+dd)):=(bq HPY.out 3).trans rfl
     have xz:=ah HPY.out
     by_cases hin: -10000000≤pp3+dd∧pp3+dd≤10000000
     ·have HW:=YJ (HWi (pp3+dd) true (by rw[qfV];exact hin) Y).out
      have HCY:=YJ ((hbY.block _ (ah HC.out)).trans HC.out)
      have HOY:=YJ (au HP.out hbY)
      have hbqY:=hbw.trans (hbY.mono hbw.size)
      clear HWi HC HP
      go_wp2_with fail
      refine(HW.out).mono ?_
      rintro e Y ⟨rfl,rfl⟩
      clear HW
      obtain⟨sa',sc',rfl⟩:=aT HOY.out
      have hPl:((movC BV c).take j).length≤16:=by rw[qge];omega
      have c0:Y.cell? ⟨wq.heap.size,0,none⟩=some (.slice sa' ((movC BV c).take j).length sc'):=(bq HCY.out 0).trans rfl
      have cz:=ah HCY.out
      have x0:Y.cell? ⟨wr.heap.size,0,none⟩=some (.int .i64 pp0):=(bq HPY.out 0).trans rfl
      have x1:Y.cell? ⟨wr.heap.size,1,none⟩=some (.int .i64 pp1):=(bq HPY.out 1).trans rfl
      have x2:Y.cell? ⟨wr.heap.size,2,none⟩=some (.int .i64 pp2):=(bq HPY.out 2).trans rfl
      have zY:=hbY.size
      have HPk2:Hid (∀p∈(movC BV c).take j++[(pp0,pp1,pp2,pp3+dd)],bI p):=YJ (all_snoc HPk.out ⟨hok.1,hok.2.1,hok.2.2.1,hin⟩)
      obtain⟨T2,HT2⟩:∃T2,Hid ((movC BV c).take (j+1)=T2):=⟨_,YJ rfl⟩
      rw[HT2.out]at HSj
      clear HPk
      generalize(movC BV c).take j=T1 at*
      obtain⟨Z,HZ⟩:∃Z,Hid (Y.alloc (.cells #[.int .i64 pp0, .int .i64 pp1, .int .i64 pp2, .int .i64 (pp3+dd)] 190)=Z):=⟨_,YJ rfl⟩
      have hbZ:Below Y.heap.size Y Z:=by rw[←HZ.out];exact bel
      have HOZ:=YJ (au HOY.out hbZ)
      have HNZ:Hid (Z.heap[Y.heap.size]? =some (.cells #[.int .i64 pp0, .int .i64 pp1, .int .i64 pp2, .int .i64 (pp3+dd)] 190 (0,0))):=YJ (by rw[←HZ.out];exact ai rfl)
      have HCZ:=YJ ((hbZ.block _ (ah HCY.out)).trans HCY.out)
      go_wp2_with (at_builtin;(try rw[HZ.out]);refine wpList_append_own _ rfl _ _ 162 rfl (wq.heap.size+1) 190 i0 (v4 (0,0,0,0)) 4 32 Oc Hi0.out.1 Hi0.out.2.1 Hi0.out.2.2.1 Hi0.out.2.2.2 rfl (by decide) _ _ _ rfl HOZ.out ⟨Y.heap.size,0,none⟩ 1 1 [.int .i64 pp0, .int .i64 pp1, .int .i64 pp2, .int .i64 (pp3+dd)] rfl rfl ?c1 ?c2 ?c3 ?c4 ?c5 ?_)
      case c1=>
       intro jj u hu
       rw[jY,bq HNZ.out]
       simpa using hu
      case c2=>
       intro u hu
       simp at hu
       rcases hu with rfl|rfl|rfl|rfl<;>rfl
      case c3=>unfold maxLen;omega
      case c4=>omega
      case c5=>have:=hbZ.size;omega
      intro v6 w6 hown6 hg6 _
      have hb6:Below wq.heap.size wq w6:=(hbqY.trans (hbZ.mono (qaD hbw.size zY))).grown hg6 (by have:=hbZ.size;have:=hbw.size;omega) (fun z hz=>by have:=(HOZ.out.lt z hz).1;omega)
      have HC6:=(hg6.block _ (ah HCZ.out) (fun e=>aG HOZ.out HCZ.out (by decide) e.symm)).trans HCZ.out
      have HO6:=YJ hown6
      have z6:wq.heap.size+1≤w6.heap.size:=by have:=hg6.size;have:=hbZ.size;omega
      clear hown6 hg6 HOZ HNZ HCZ HZ x0 x1 x2 x3 xz c0 cz HCY HOY HPY
      have c0:w6.cell? ⟨wq.heap.size,0,none⟩=some (.slice sa' T1.length sc'):=(bq HC6 0).trans rfl
      have cz:=ah HC6
      have cf:=aC HC6
      obtain⟨va6,vc6,rfl⟩:=aT HO6.out
      go_wp2
      go_roundw
      case rel=>exact⟨j+1,by omega,by go_num,hb6.setCell (p:=⟨wq.heap.size,0,none⟩) (qaA _) _,by simpa using z6,_,YJ (Tu HC6 0 _),YJ (by rw[HT2.out,HSj.out,qaE,qgj];exact own_setD HO6.out HC6 (by decide)),YJ (by rw[HT2.out,HSj.out];exact HPk2.out)⟩
      simp[intOf];try omega
     ·have HW:=YJ (HWi (pp3+dd) false (by rw[decide_eq_false_iff_not];exact hin) Y).out
      have hfs:=HFj.out hin
      have HRY:=(hbY.block _ (ah HRw.out)).trans HRw.out
      have r0:Y.cell? ⟨W.heap.size+2,0,none⟩=some (.slice none 0 0):=(bq HRY 0).trans rfl
      have rz:=ah HRY
      have rf:=aC HRY
      have hwY:Below W.heap.size W Y:=hww.trans (hbY.mono hww.size)
      clear HWi HC HP
      go_wp2_with fail
      refine(HW.out).mono ?_
      rintro e Y ⟨rfl,rfl⟩
      clear HW
      go_wp2
      refine bodyPost_ret (v:= .tuple #[.agg #[.slice none 0 0], .int .i64 2]) (by simp[results,Tryz.results56,go_sem,r0,rz]) rfl ⟨none,0,0,by rw[hfs];rfl, ?_,fun h=>by rw[hfs]at h;cases h⟩
      first|exact hwY|exact(hwY).setCell (by show _≤W.heap.size+2;omega) _
    ·obtain rfl:j=pn:=by omega
     rw[HTc.out]at HP HPk
     have Hlt:=YJ (fun z hz=>(HO.out.lt z hz).2)
     have HGw:=YJ ((hbw.block _ (ah HG.out)).trans HG.out)
     have HOw:=YJ (au HO.out hbw)
     have HVw:=YJ ((HRv.out.below hbw).snoc (AY HP.out (show w1.heap.size+1≤wq.heap.size+1 by omega)))
     rw[←HSk.out]at HVw
     have HOk2:Hid (∀c∈(css.map (movC BV)).take (k+1),∀p∈c,bI p):=YJ (by rw[HSk.out];exact all_snoc HOk.out HPk.out)
     have hmc:(movC BV c).length≤16:=by rw[HMl.out];omega
     obtain⟨wi,rfl⟩:∃wi:World,wi=wr:=⟨_,rfl⟩
     replace HFec:=YJ (HFec.out HPk.out)
     clear HTc HMl HLc HS2c HPx HBd HDt HNr HWi HSk HG HO HRv HOk HAq HYq HAr HYr HRr HPn HFpc
     generalize movC BV c=mc at*
     obtain⟨sa',sc',rfl⟩:=aT HP.out
     have g0:wi.cell? ⟨w1.heap.size,0,none⟩=some (.slice sad k scap):=(bq HGw.out 0).trans rfl
     have gz:=ah HGw.out
     have c0:wi.cell? ⟨wq.heap.size,0,none⟩=some (.slice sa' mc.length sc'):=(bq HC.out 0).trans rfl
     have cz:=ah HC.out
     obtain⟨Z,HZ⟩:∃Z,Hid (wi.alloc (.cells #[.slice sa' mc.length sc'] 164)=Z):=⟨_,YJ rfl⟩
     have hbZ:Below wi.heap.size wi Z:=by rw[←HZ.out];exact bel
     have HOZ:=YJ (au HOw.out hbZ)
     have HVZ:=YJ (HVw.out.below hbZ)
     have HPZ:=YJ (au HP.out hbZ)
     have HNZ:Hid (Z.heap[wi.heap.size]? =some (.cells #[.slice sa' mc.length sc'] 164 (0,0))):=YJ (by rw[←HZ.out];exact ai rfl)
     have HCZ:=YJ ((hbZ.block _ (ah HC.out)).trans HC.out)
     have HGZ:=YJ ((hbZ.block _ (ah HGw.out)).trans HGw.out)
     have hbqZ:Below w1.heap.size w1 Z:=fB hb (fB hbw hbZ)
     have zZ:=hbZ.size
     go_wp2_with (at_builtin;(try rw[HZ.out]);refine fq _ rfl _ _ 73 rfl (w1.heap.size+1) 164 i1 (.agg #[.slice none 0 0]) 1 24 nu Hi1.out.1 Hi1.out.2.1 Hi1.out.2.2.1 Hi1.out.2.2.2 rfl (by decide) _ k vs rfl HOZ.out ⟨wi.heap.size,0,none⟩ 1 1 [.slice sa' mc.length sc'] rfl rfl ?c1 ?c2 ?c3 ?c4 ?c5 ?_)
     case c1=>
      intro jj u hu
      rw[jY,bq HNZ.out]
      simpa using hu
     case c2=>
      intro u hu
      simp at hu
      subst hu
      rfl
     case c3=>unfold maxLen;omega
     case c4=>omega
     case c5=>omega
     intro v6 w6 hown6 hg6 _
     have hb6:Below w1.heap.size w1 w6:=hbqZ.grown hg6 (by omega) (fun z hz=>by have:=(HOZ.out.lt z hz).1;omega)
     have HG6:=YJ ((hg6.block _ (ah HGZ.out) (fun e=>aG HOZ.out HGZ.out (by decide) e.symm)).trans HGZ.out)
     have hty:∀T,164≠T→∀g cs,(Value.slice sad k scap).ownBlock=some g→Z.heap[g]? =some cs→∃c t,cs= .cells c t (0,0)∧t≠T:=fun T hT g cs h1 h2=>by obtain⟨c,t,h3,h4⟩:=jC HOZ.out g cs h1 h2;exact⟨c,t,h3,by rw[h4];exact hT⟩
     have HV6:=YJ (HVZ.out.kept hg6 (hty _ (by decide)))
     have HP6:=YJ (own_keptY HPZ.out hg6 (hty _ (by decide)))
     have z6:=hg6.size
     obtain⟨va6,vc6,rfl⟩:=aT hown6
     obtain⟨Y6,HY6⟩:∃Y6,Hid (w6.setCell ⟨w1.heap.size,0,none⟩ (.slice va6 (k+1) vc6)=Y6):=⟨_,YJ rfl⟩
     have HGY:=YJ (Tu HG6.out 0 (.slice va6 (k+1) vc6))
     have HOY:=YJ (own_setD (i:=0) (u:= .slice va6 (k+1) vc6) hown6 HG6.out (by decide))
     have HVY:=YJ (HV6.out.set (i:=0) (u:= .slice va6 (k+1) vc6) HG6.out (by decide))
     have HPY:=YJ (own_setD (i:=0) (u:= .slice va6 (k+1) vc6) HP6.out HG6.out (by decide))
     have hbY:Below w1.heap.size w1 (w6.setCell ⟨w1.heap.size,0,none⟩ (.slice va6 (k+1) vc6)):=hb6.setCell (p:=⟨w1.heap.size,0,none⟩) (qaA _) _
     have zY:w1.heap.size+1≤(w6.setCell ⟨w1.heap.size,0,none⟩ (.slice va6 (k+1) vc6)).heap.size:=by simp;omega
     rw[HY6.out]at HGY HOY HVY HPY hbY zY
     have HC6:=YJ ((hg6.block _ (ah HCZ.out) (fun e=>by have:=Hlt.out _ e.symm;omega)).trans HCZ.out)
     have g0:w6.cell? ⟨w1.heap.size,0,none⟩=some (.slice sad k scap):=(bq HG6.out 0).trans rfl
     have gz:=ah HG6.out
     have gf:=aC HG6.out
     have c0:w6.cell? ⟨wq.heap.size,0,none⟩=some (.slice sa' mc.length sc'):=(bq HC6.out 0).trans rfl
     have cz:=ah HC6.out
     have hqw:w1.heap.size≠wq.heap.size:=by omega
     have HPn:=YJ (HPt mc _ Y6 HPk.out (by omega) (jz HPY.out)).out
     have HCn:=(HCo mc HPk.out)
     have hRl:=(HRl mc hmc).out
     clear hown6 hg6 hty HOZ HVZ HPZ HNZ HCZ HGZ HV6 HP6 HPt HZ HPY HC HP HPk HGw HOw HVw HCo HRl
     go_wp2_with fail
     rw[HY6.out]
     refine(HPn.out).mono ?_
     rintro e w7 ⟨r,rfl,hb7,ho7⟩
     have hq7:=jz ho7
     generalize ct mc=pts at*
     obtain⟨ra,rn,rc,rfl,hrn, -,hrx⟩:=hq7
     have HRx:=YJ hrx
     have HRn:=YJ hrn
     rw[hrn]at hRl
     have hb17:=hbY.trans (hb7.mono (by omega))
     have z7:=hb7.size
     have HG7:=YJ ((hb7.block _ (ah HGY.out)).trans HGY.out)
     have HO7:=YJ (au HOY.out hb7)
     have HV7:=YJ (HVY.out.below hb7)
     clear ho7 hrx hrn HPn g0 gz gf c0 cz hqw HG6 HC6 HGY HOY HVY HY6 hb7 hbY
     go_wp2
     go_loopw [12] (fun i wr=>∃q:Nat,q≤rn∧i= .int .i64 q∧Below w7.heap.size w7 wr∧Hid (∀i (h:i<pts.length),i<q→lw pts[i]=true)) (fun i _=>rn-(intOf i).toNat)
     case atStart=>exact⟨0,by omega,rfl,brf,YJ (fun i _ h=>by omega)⟩
     case round=>
      obtain⟨q,hq,rfl,hb7,HIn⟩:=hrel
      have hb1r:=hb17.trans (hb7.mono (by omega))
      by_cases hqr:q<rn
      ·have g3:(q:Int)<(rn:Int):=by omega
       have g4:(0:Int)≤(q:Int):=by omega
       have hql:q<pts.length:=by have:=HRn.out;omega
       obtain⟨rb,roff,rfl,hrx⟩:=HRx.out (by omega)
       obtain⟨r0,r1,r2,r3⟩:=(hrx.below hb7) q hql
       have zr0:=qaC wr _ r0
       simp only at zr0
       have HIq:=YJ (HRm pts[q] wr (HCn.out _ (qaB hql))).out
       have HFi:=YJ (HFqc q hql).out
       have HIm:Hid (lw pts[q]=true→∀i (h:i<pts.length),i<q+1→lw pts[i]=true):=YJ (fun h i hi hk'=>by
        by_cases e:i=q
        ·subst e;exact h
        ·exact HIn.out i hi (by omega))
       clear hrx HRx HRm HCn HIn HFqc HFec
       generalize pts[q]=cq at*
       obtain⟨cq0,cq1,cq2,cq3⟩:=cq
       simp only at r0 r1 r2 r3 HIq HFi HIm
       generalize lw (cq0,cq1,cq2,cq3)=ib at*
       go_wp2_with fail
       refine(HIq.out).mono ?_
       rintro e w9 ⟨rfl,hb9⟩
       clear HIq r0 r1 r2 r3 zr0
       cases ib with
       |true=>
        go_wp2
        go_roundw
        case rel=>exact⟨q+1,by omega,by go_num,fB hb7 hb9,YJ (HIm.out (by trivial))⟩
        simp[intOf];try omega
       |false=>
        have hb19:Below w1.heap.size w1 w9:=hb1r.trans (hb9.mono hb1r.size)
        have HR9:=(hb19.block _ (ah HR1.out)).trans HR1.out
        have r0:w9.cell? ⟨W.heap.size+2,0,none⟩=some (.slice none 0 0):=(bq HR9 0).trans rfl
        have rz:=ah HR9
        have rf:=aC HR9
        have hw9:=fB hw1 hb19
        have hfs:=HFi.out rfl
        go_wp2
        refine bodyPost_ret (v:= .tuple #[.agg #[.slice none 0 0], .int .i64 2]) (by simp[results,Tryz.results56,go_sem,r0,rz]) rfl ⟨none,0,0,by rw[hfs];rfl, ?_,fun h=>by rw[hfs]at h;cases h⟩
        first|exact hw9|exact(hw9).setCell (by show _≤W.heap.size+2;omega) _
      ·obtain rfl:q=rn:=by omega
       have z9:=hb7.size
       have HGf:=YJ ((hb7.block _ (ah HG7.out)).trans HG7.out)
       have HOf:=YJ (au HO7.out hb7)
       have HVf:=YJ (HV7.out.below hb7)
       have HFz:=YJ (HFec.out (fun i h=>HIn.out i h (by have:=HRn.out;omega)))
       clear HRx HRm HCn HG7 HO7 HV7 HFec HFqc HIn
       go_wp2
       go_roundw
       case rel=>exact⟨k+1,by omega,by go_num,hb1r,by omega,_,_,HGf,HOf,HVf,HOk2,HFz⟩
       simp[intOf];try omega
  ·obtain rfl:k=n:=by omega
   rw[HTn.out]at HRv HOk
   obtain⟨sad,scap,rfl⟩:=aT HO.out
   have g0:wr.cell? ⟨w1.heap.size,0,none⟩=some (.slice sad k scap):=(bq HG.out 0).trans rfl
   have gz:=ah HG.out
   have r0:wr.cell? ⟨W.heap.size+2,0,none⟩=some (.slice none 0 0):=(bq HRr.out 0).trans rfl
   have rz:=ah HRr.out
   have rf:=aC HRr.out
   have hne:w1.heap.size≠W.heap.size+2:=by omega
   have hfs:=HFa.out (fun i h=>HFt.out i h (by have:=HN.out;omega))
   clear HX HS1 HS2 HLk HBd HDt HNr HWi HPt HRm HCo HRl HFc HFa HFp HFq HFe HFt
   go_wp2
   refine bodyPost_ret (v:= .tuple #[.agg #[.slice sad k scap], .int .i64 0]) (by simp[results,Tryz.results56,go_sem,r0,rz]) rfl ⟨sad,k,scap,by rw[hfs];rfl,hwr.setCell (p:=⟨W.heap.size+2,0,none⟩) (by show _≤W.heap.size+2;omega) _,fun _=>⟨vs, ?_,(HRv.out.set HRr.out (by decide)).mono (by omega)⟩⟩
   rw[HTl.out]
   exact AY (own_setD HO.out HRr.out (by decide)) (by omega)
end
section
open Go.RowKit Go.Shelf
attribute [local go_sem] Ext.cell Ext.frozen
theorem src_all {w:World} {b off:Nat} {A:List Q4} (h:Q4At w b off A):∀j u,(A.flatMap aH)[j]? =some u→w.cell? ((⟨b,off,none⟩:Addr).add j)=some u:=by
 intro j u hu
 rw[vp]
 have hj:=(List.getElem?_eq_some_iff.1 hu).1
 rw[bh]at hj
 obtain⟨i,r,hr,rfl⟩:∃i r,r<4∧j=i*4+r:=⟨j / 4,j % 4,by omega,by omega⟩
 have hi:i<A.length:=by omega
 rw[eQ aH 4 (fun _=>rfl) _ i hi r hr]at hu
 obtain⟨c0,c1,c2,c3⟩:=h i hi
 rcases(by omega:r=0∨r=1∨r=2∨r=3)with rfl|rfl|rfl|rfl
 ·rw[←hu];exact c0
 ·rw[←hu];exact c1
 ·rw[←hu];exact c2
 ·rw[←hu];exact c3
set_option maxRecDepth 100000 in
theorem sClone_any (ps:List Q4) (pv:Value) (W:World) (hl:ps.length≤1000000) (hpv:Q4s W pv ps):
  Calls Tryz.prog 147 #[pv] W fun e w'=>∃v,e= .returned v∧Below W.heap.size W w'∧w'.ownsRow W.heap.size 190 4 v ps.length (ps.flatMap aH):=by
 obtain⟨i0,Hi0⟩:=qfT cY
 obtain⟨a,n,c,rfl,hn,hc,hx⟩:=hpv
 have q22:∀(w:World) (a:Option Addr) (n c n' c':Nat),(binOp .eql 162 (.slice a n c) (.slice none n' c')).run Tryz.prog w= .ok (.bool a.isNone) w:=fun w a n c n' c'=>Lib.run_eql_slice_nil w _ _ a n c n' c' TA
 cases a with
 |none=>
  have h0:n=0:=by
   rcases Nat.eq_zero_or_pos n with h|h
   ·exact h
   ·obtain⟨_,_,e,_⟩:=hx h;cases e
  subst h0
  obtain rfl:ps=[]:=alto.1 hn
  clear hx
  go_enter Tryz.func147,Tryz.ntmps147
  go_wp2
  go_ret
  exact⟨_,rfl,bel,qds _ _ _ _⟩
 |some ad=>
  have HSrc:Hid (∀j u,(ps.flatMap aH)[j]? =some u→W.cell? (ad.add j)=some u):=YJ (fun j u hu=>by
   rcases Nat.eq_zero_or_pos n with h|h
   ·obtain rfl:ps=[]:=alto.1 (by omega)
    simp at hu
   ·obtain⟨b,off,e,hi⟩:=hx h
    cases e
    exact src_all hi j u hu)
  clear hx
  have hm0:(W.alloc (.cells #[] 190)).ownsRow W.heap.size 190 4 (.slice (some ⟨W.heap.size,0,none⟩) 0 0) 0 []:=World.ownsRow_made W #[] 0 (qaA _) (Nat.zero_le _) rfl
  have hx0:Below W.heap.size W (W.alloc (.cells #[] 190)):=bel
  go_enter Tryz.func147,Tryz.ntmps147
  go_wp2_with (at_builtin;refine wpList_append_own _ rfl _ _ 162 rfl W.heap.size 190 i0 (v4 (0,0,0,0)) 4 32 TA Hi0.out.1 Hi0.out.2.1 Hi0.out.2.2.1 Hi0.out.2.2.2 rfl (by decide) _ 0 _ rfl hm0 ad n c (ps.flatMap aH) rfl (by rw[bh,hn]) (fun j u hu=>ab hx0 (HSrc.out j u hu)) (qcz ps) (by unfold maxLen;omega) (by omega) hx0.size ?_)
  intro v' w4 hown4 hg4 _
  have hb4:Below W.heap.size W w4:=hx0.grown hg4 hx0.size (fun z hz=>(hm0.lt z hz).1)
  obtain⟨va,vc,rfl⟩:=aT hown4
  go_wp2
  go_ret
  exact⟨_,rfl,hb4,by rw[hn];simpa using hown4⟩
end
section
open Go.RowKit Go.Shelf Go.Lib
theorem blk1 {w:World} {g:Nat} {x:Value} {T:TypeId} (h:w.heap[g]? =some (.cells #[x] T (0,0))):w.cell? ⟨g,0,none⟩=some x∧(∀i,w.frozen? ⟨g,i,none⟩=false)∧g<w.heap.size:=⟨(bq h 0).trans rfl,fun i=>aC h i,ah h⟩
theorem own_set4 {w:World} {base g cap:Nat} {T:TypeId} {xs:List Q4} (h:w.ownsRow base T 4 (.slice (some ⟨g,0,none⟩) xs.length cap) xs.length (xs.flatMap aH)) {k:Nat} (hk:k<xs.length) (d:Int):
  (w.setCell ⟨g,k*4+3,none⟩ (.int .i64 d)).ownsRow base T 4 (.slice (some ⟨g,0,none⟩) xs.length cap) xs.length ((xs.set k (xs[k].1,xs[k].2.1,xs[k].2.2.1,d)).flatMap aH):=by
 rcases h.2 with⟨h0,_⟩|⟨g',cap',cur,e,hb,hh,hc,hm,hcs,ht⟩
 ·cases h0
 ·cases e
  have h1:=Tu hh (k*4+3) (.int .i64 d)
  have hlen:∀ys:List Q4,(ys.flatMap aH).length=ys.length*4:=fun ys=>by
   induction ys with
   |nil=>rfl
   |cons y ys ih=>rw[qgm,qaE,ih,qdn,cP];omega
  refine⟨by rw[hlen,List.length_set], .inr ⟨g,cap,_,rfl,hb,h1,hc,hm,by simpa using hcs, ?_⟩⟩
  refine List.ext_getElem? fun j=> ?_
  have hj0:∀j,j<xs.length*4→cur[j]? =(xs.flatMap aH)[j]? :=fun j hj=>by
   rw[←ht,qdx hj,Array.getElem?_toList]
  by_cases hj:j<xs.length*4
  ·rw[qdx hj,Array.getElem?_toList]
   obtain⟨i,r,hr,rfl⟩:∃i r,r<4∧j=i*4+r:=⟨j / 4,j % 4,by omega,by omega⟩
   have hi:i<xs.length:=by omega
   have hi':i<(xs.set k (xs[k].1,xs[k].2.1,xs[k].2.2.1,d)).length:=by rw[List.length_set];exact hi
   rw[eQ aH 4 cP (xs.set k (xs[k].1,xs[k].2.1,xs[k].2.2.1,d)) i hi' r hr,List.getElem_set]
   have hsz:cur.size=cap*4:=hcs
   have hold:=hj0 _ hj
   rw[eQ aH 4 cP xs i hi r hr]at hold
   by_cases hik:k=i
   ·subst hik
    rw[if_pos rfl]
    rcases(by omega:r=0∨r=1∨r=2∨r=3)with rfl|rfl|rfl|rfl
    ·rw[Array.getElem?_setIfInBounds,if_neg (by omega),hold];rfl
    ·rw[Array.getElem?_setIfInBounds,if_neg (by omega),hold];rfl
    ·rw[Array.getElem?_setIfInBounds,if_neg (by omega),hold];rfl
    ·rw[Array.getElem?_setIfInBounds,if_pos rfl,if_pos (by omega)];rfl
   ·rw[if_neg hik,Array.getElem?_setIfInBounds,if_neg (by omega),hold]
  ·rw[List.getElem?_eq_none (by simp;omega),List.getElem?_eq_none (by rw[hlen,List.length_set];omega)]
def RowsD (w:World) (B:Nat) (vs:List Value) (css:List (List Q4)):Prop:=
 RowsV w B vs css∧∀i j (h1:i<vs.length) (h2:j<vs.length),i≠j→∀g,vs[i].ownBlock=some g→vs[j].ownBlock≠some g
theorem RowsD.nil {w:World} {B:Nat}:RowsD w B [] []:=⟨RowsV.nil,fun _ _ h=>by simp at h⟩
theorem RowsD.below {w w':World} {B:Nat} {vs:List Value} {css:List (List Q4)} (h:RowsD w B vs css) (hb:Below w.heap.size w w'):RowsD w' B vs css:=⟨h.1.below hb,h.2⟩
theorem RowsD.mono {w:World} {B B':Nat} {vs:List Value} {css:List (List Q4)} (h:RowsD w B vs css) (hb:B'≤B):RowsD w B' vs css:=⟨h.1.mono hb,h.2⟩
theorem RowsD.kept {w w':World} {B:Nat} {vs:List Value} {css:List (List Q4)} {row:Option Nat} (h:RowsD w B vs css) (hg:w.grownBy w' row) (hne:∀g cs,row=some g→w.heap[g]? =some cs→∃c t,cs= .cells c t (0,0)∧t≠190):RowsD w' B vs css:=⟨h.1.kept hg hne,h.2⟩
theorem RowsD.setO {w:World} {B g i:Nat} {u:Value} {vs:List Value} {css:List (List Q4)} {c:Array Value} {T:TypeId} (h:RowsD w B vs css) (hg:w.heap[g]? =some (.cells c T (0,0))) (hT:190≠T):RowsD (w.setCell ⟨g,i,none⟩ u) B vs css:=⟨h.1.set hg hT,h.2⟩
theorem RowsD.snoc {w:World} {B B1:Nat} {vs:List Value} {css:List (List Q4)} {v:Value} {cs:List Q4} (h:RowsD w B vs css) (hB:B≤B1) (hlt:∀i (h1:i<vs.length) g,vs[i].ownBlock=some g→g<B1) (hv:w.ownsRow B1 190 4 v cs.length (cs.flatMap aH)):RowsD w B (vs++[v]) (css++[cs]):=by
 refine⟨h.1.snoc (AY hv hB),fun i j h1 h2 hij g e1 e2=> ?_⟩
 have a1:i<vs.length∨i=vs.length:=by simp at h1;omega
 have a2:j<vs.length∨j=vs.length:=by simp at h2;omega
 rcases a1 with a1|rfl<;>rcases a2 with a2|rfl
 ·rw[qgn a1]at e1
  rw[qgn a2]at e2
  exact h.2 i j a1 a2 hij g e1 e2
 ·rw[qgn a1]at e1
  simp only[List.getElem_append_right (qaA _),Nat.sub_self,qdt]at e2
  have:=hlt i a1 g e1
  have:=(hv.lt g e2).1
  omega
 ·rw[qgn a2]at e2
  simp only[List.getElem_append_right (qaA _),Nat.sub_self,qdt]at e1
  have:=hlt j a2 g e2
  have:=(hv.lt g e1).1
  omega
 ·exact hij rfl
theorem RowsD.lt {w:World} {B:Nat} {vs:List Value} {css:List (List Q4)} (h:RowsD w B vs css):∀i (h1:i<vs.length) g,vs[i].ownBlock=some g→g<w.heap.size:=fun i h1 g hg=>
 ((h.1.2 i h1 (by rw[←h.1.1];exact h1)).lt g hg).2
theorem RowsD.set {w:World} {B:Nat} {vs:List Value} {css:List (List Q4)} (h:RowsD w B vs css) {i:Nat} (hi:i<css.length) {g cap:Nat} (hv:vs[i]'(by rw[h.1.1];exact hi)= .slice (some ⟨g,0,none⟩) css[i].length cap) {k:Nat} (hk:k<css[i].length) (d:Int):
  RowsD (w.setCell ⟨g,k*4+3,none⟩ (.int .i64 d)) B vs (css.set i (css[i].set k (css[i][k].1,css[i][k].2.1,css[i][k].2.2.1,d))):=by
 refine⟨⟨by rw[List.length_set];exact h.1.1,fun j h1 h2=> ?_⟩,h.2⟩
 have hj:j<css.length:=by rw[←h.1.1];exact h1
 rw[List.getElem_set]
 by_cases e:i=j
 ·subst e
  rw[if_pos rfl]
  have hx:=h.1.2 i h1 hj
  rw[hv]at hx ⊢
  have:=own_set4 hx hk d
  rw[List.length_set]
  exact this
 ·rw[if_neg e]
  refine aF (h.1.2 j h1 hj) _ _ fun e2=> ?_
  exact h.2 i j (by rw[h.1.1];exact hi) h1 e g (by rw[hv];rfl) e2.symm
def SolD (B:Nat) (w:World) (v:Value) (css:List (List Q4)):Prop:=∃vs,w.ownsRow B 164 1 v css.length vs∧RowsD w B vs css
theorem SolO.setS {B g i:Nat} {w:World} {v u:Value} {css:List (List Q4)} {c:Array Value} {T:TypeId} (h:SolO B w v css) (hg:w.heap[g]? =some (.cells c T (0,0))) (h1:164≠T) (h2:190≠T):SolO B (w.setCell ⟨g,i,none⟩ u) v css:=by
 obtain⟨vs,k1,k2⟩:=h
 exact⟨vs,own_setD k1 hg h1,k2.set hg h2⟩
def MovS (b:Q3) (css:List (List Q4)) (i:Nat) (ds:List (List Q4)):Prop:=ds.length=css.length∧∀j (h:j<css.length) (h':j<ds.length),ds[j]=if j<i then movC b css[j]else css[j]
theorem MovS.start (b:Q3) (css:List (List Q4)):MovS b css 0 css:=⟨rfl,fun j h h'=>by rw[if_neg (by omega)]⟩
theorem MovS.done {b:Q3} {css ds:List (List Q4)} (h:MovS b css css.length ds):ds=css.map (movC b):=by
 refine List.ext_getElem (by rw[h.1,qdo]) fun j h1 h2=> ?_
 have hj:j<css.length:=by rw[←h.1];exact h1
 rw[h.2 j hj h1,if_pos hj,qdB]
def MovK (b:Q3) (css:List (List Q4)) (i k:Nat) (ds:List (List Q4)):Prop:=ds.length=css.length∧(∀j (h:j<css.length) (h':j<ds.length),j≠i→ds[j]=if j<i then movC b css[j]else css[j])∧∀(h:i<css.length) (h':i<ds.length),ds[i].length=css[i].length∧∀m (g:m<css[i].length) (g':m<ds[i].length),ds[i][m]=if m<k then movP b css[i][m]else css[i][m]
theorem MovK.start {b:Q3} {css ds:List (List Q4)} {i:Nat} (h:MovS b css i ds):MovK b css i 0 ds:=⟨h.1,fun j h1 h2 _=>h.2 j h1 h2,fun h1 h2=>by
 have e:=h.2 i h1 h2
 rw[if_neg (Nat.lt_irrefl _)]at e
 refine⟨by rw[e],fun m g g'=> ?_⟩
 rw[if_neg (Nat.not_lt_zero m)]
 simp only[e]⟩
theorem MovK.done {b:Q3} {css ds:List (List Q4)} {i:Nat} (hi:i<css.length) (h:MovK b css i css[i].length ds):MovS b css (i+1) ds:=⟨h.1,fun j h1 h2=>by
 by_cases e:j=i
 ·subst e
  rw[if_pos (Nat.lt_succ_self _)]
  obtain⟨k1,k2⟩:=h.2.2 h1 h2
  refine List.ext_getElem (by rw[k1,movC_len]) fun m g1 g2=> ?_
  have hm:m<css[j].length:=by rw[←k1];exact g1
  rw[k2 m hm g1,if_pos hm]
  exact(qdB (movP b) (l:=css[j]) (i:=m) (h:=by rw[qdo];exact hm)).symm
 ·rw[h.2.1 j h1 h2 e]
  by_cases l:j<i
  ·rw[if_pos l,if_pos (by omega)]
  ·rw[if_neg l,if_neg (by omega)]⟩
theorem MovK.at {b:Q3} {css ds:List (List Q4)} {i k:Nat} (h:MovK b css i k ds) (hi:i<css.length) (hk:k<css[i].length):∃(h1:i<ds.length) (h2:k<ds[i].length),ds[i].length=css[i].length∧ds[i][k]=css[i][k]:=by
 have h1:i<ds.length:=by rw[h.1];exact hi
 obtain⟨k1,k2⟩:=h.2.2 hi h1
 refine⟨h1,by rw[k1];exact hk,k1, ?_⟩
 rw[k2 k hk (by rw[k1];exact hk),if_neg (Nat.lt_irrefl _)]
theorem MovK.next {b:Q3} {css ds:List (List Q4)} {i k:Nat} (h:MovK b css i k ds) (hi:i<css.length) (hk:k<css[i].length) (h1:i<ds.length):MovK b css i (k+1) (ds.set i (ds[i].set k (movP b css[i][k]))):=by
 obtain⟨k1,k2⟩:=h.2.2 hi h1
 refine⟨by rw[List.length_set];exact h.1,fun j g1 g2 e=> ?_,fun g1 g2=> ?_⟩
 ·rw[List.getElem_set,if_neg (fun e'=>e e'.symm)]
  exact h.2.1 j g1 (by rw[List.length_set]at g2;exact g2) e
 ·have e:(ds.set i (ds[i].set k (movP b css[i][k])))[i]=ds[i].set k (movP b css[i][k]):=by rw[List.getElem_set,if_pos rfl]
  refine⟨by rw[e,List.length_set];exact k1,fun m m1 m2=> ?_⟩
  simp only[e]
  rw[List.getElem_set]
  by_cases ek:k=m
  ·subst ek
   rw[if_pos rfl,if_pos (Nat.lt_succ_self _)]
  ·rw[if_neg ek,k2 m m1 (by rw[k1];exact m1)]
   by_cases l:m<k
   ·rw[if_pos l,if_pos (by omega)]
   ·rw[if_neg l,if_neg (by omega)]
theorem refCorner_mov {b:Q3} {c:List Q4}:(ct (movC b c)).all lw=(aS c).all fun x=>lw (mvPt b x):=by
 rw[Bool.eq_iff_iff,alsi,alsi]
 constructor
 ·intro h x hx
  exact h _ ((refPts_mov b c _).2 ⟨x,(Qp c x).2 hx,rfl⟩)
 ·intro h x hx
  obtain⟨y,hy,rfl⟩:=(refPts_mov b c x).1 hx
  exact h y ((Qp c y).1 hy)
theorem sol_mov {b:Q3} {css:List (List Q4)} (h:∀c∈css,bK c=0) (hf:fitS b css=true):∀c∈css.map (movC b),bK c=0:=by
 intro c hc
 obtain⟨d,hd,rfl⟩:=altt.1 hc
 unfold fitS at hf
 rw[qaF]at hf
 have:=alsi.1 hf.2 d hd
 unfold fitC at this
 rw[qaF,alsi,alsi]at this
 refine cell_mov (h d hd) (fun p hp=> ?_) this.2
 have:=this.1 _ (List.mem_map_of_mem (f:=movP b) hp)
 unfold fitP at this
 rw[qfV]at this
 exact this
end
section
open Go.RowKit Go.Shelf
set_option maxRecDepth 100000
attribute [local go_sem] Ext.cell Ext.frozen
def CpD (css:List (List Q4)) (W:World) (e:Ending) (w':World):Prop:=∃v,e= .returned (.agg #[v])∧Below W.heap.size W w'∧SolD W.heap.size w' v css
theorem copied_any (css:List (List Q4)) (sv:Value) (W:World) (hl:css.length≤1000) (hL:∀c∈css,c.length≤1000) (h:SolV W sv css):
  Calls Tryz.prog 102 #[.agg #[sv]] W (CpD css W):=by
 obtain⟨i0,hi0,hz0,hz1,hz2⟩:=info_parts cY
 have Hi0:=YJ (And.intro hi0 (And.intro hz0 (And.intro hz1 hz2)))
 obtain⟨i1,hj0,hy0,hy1,hy2⟩:=info_parts nt
 have Hi1:=YJ (And.intro hj0 (And.intro hy0 (And.intro hy1 hy2)))
 clear hi0 hz0 hz1 hz2 hj0 hy0 hy1 hy2
 obtain⟨sa,n,sc,rfl,hn, -,hx⟩:=h
 have HX:=YJ hx
 have HN:=YJ hn
 have hn1:n≤1000:=by omega
 have HLn:=fun i (h:i<css.length)=>YJ (hL _ (qaB h))
 have HT:=fun i (h:i<css.length)=>YJ (qaI h)
 have HTl:=fun i (h:i≤css.length)=>YJ (show(css.take i).length=i by rw[qge];omega)
 have HCl:=fun c v W' (h1:c.length≤1000) (h:Q4s W' v c)=>YJ (sClone_any c v W' (by omega) h)
 have HTn:Hid (css.take n=css):=YJ (by rw[←hn];exact qgi)
 clear hx hn hl hL
 obtain⟨V,HV⟩:∃V,Hid (((W.alloc (.cells #[.slice sa n sc] 75)).alloc (.cells #[.slice none 0 0] 75)).alloc (.cells #[.slice none 0 0] 75)=V):=⟨_,YJ rfl⟩
 have hV:Below W.heap.size W V:=by rw[←HV.out];exact bel
 have zV:V.heap.size=W.heap.size+3:=by rw[←HV.out];simp
 have BA:Hid (V.heap[W.heap.size]? =some (.cells #[.slice sa n sc] 75 (0,0))):=YJ (by rw[←HV.out];exact(aB (by simp<;>omega)).trans ((aB (by simp)).trans (ai rfl)))
 have BR:Hid (V.heap[W.heap.size+1]? =some (.cells #[.slice none 0 0] 75 (0,0))):=YJ (by rw[←HV.out];exact(aB (by simp)).trans (ai (by simp)))
 have BO:Hid (V.heap[W.heap.size+2]? =some (.cells #[.slice none 0 0] 75 (0,0))):=YJ (by rw[←HV.out];exact ai (by simp))
 go_enter Tryz.func102,Tryz.ntmps102
 go_wp2
 try rw[HV.out]
 go_loopw [9] (fun x wr=>∃k:Nat,k≤n∧x= .int .i64 k∧Below W.heap.size W wr∧W.heap.size+3≤wr.heap.size∧Hid (wr.heap[W.heap.size]? =some (.cells #[.slice sa n sc] 75 (0,0)))∧Hid (wr.heap[W.heap.size+1]? =some (.cells #[.slice none 0 0] 75 (0,0)))∧
   ∃s vs,Hid (wr.heap[W.heap.size+2]? =some (.cells #[s] 75 (0,0)))∧Hid (wr.ownsRow (W.heap.size+3) 164 1 s k vs)∧Hid (RowsD wr (W.heap.size+3) vs (css.take k))) (fun x _=>n-(intOf x).toNat)
 case atStart=>exact⟨0,by omega,rfl,hV,by omega,BA,BR, .slice none 0 0,[],BO,YJ (qds _ _ _ _),YJ RowsD.nil⟩
 case round=>
  clear BA BR BO hV zV
  obtain⟨k,hk,rfl,hb,zr,HA,HR,s,vs,HG,HO,HRv⟩:=hrel
  have a0:wr.cell? ⟨W.heap.size,0,none⟩=some (.slice sa n sc):=(bq HA.out 0).trans rfl
  have az:=ah HA.out
  have g0:wr.cell? ⟨W.heap.size+2,0,none⟩=some s:=(bq HG.out 0).trans rfl
  have gz:=ah HG.out
  have gf:=aC HG.out
  by_cases hlt:k<n
  ·have g1:(k:Int)<(n:Int):=by omega
   have g2:(0:Int)≤(k:Int):=by omega
   have hil:k<css.length:=by have:=HN.out;omega
   obtain⟨b,off,rfl,hi4⟩:=HX.out (by omega)
   obtain⟨pv,e0,hs⟩:=hi4 k hil
   have e0:=ab hb e0
   have ze:=qaC wr _ e0
   simp only at ze
   have HQ:=YJ (hs.below hb)
   obtain⟨pa,pn,pc,rfl,hpn, -,hpx⟩:=hs.below hb
   have hpl:pn≤1000:=by have:=(HLn k hil).out;omega
   have HTk:=HT k hil
   have HPn:=YJ hpn
   have HPx:=YJ hpx
   clear hi4 hs HX HLn HT hpn hpx
   generalize css[k]=c at*
   obtain⟨sad,scap,rfl⟩:=aT HO.out
   have hcl:c.length≤1000:=by have:=HPn.out;omega
   obtain⟨X0,HX0⟩:∃X0,Hid (wr.alloc (.cells #[.slice pa pn pc] 164)=X0):=⟨_,YJ rfl⟩
   have hb0:Below wr.heap.size wr X0:=by rw[←HX0.out];exact bel
   have HC0:Hid (X0.heap[wr.heap.size]? =some (.cells #[.slice pa pn pc] 164 (0,0))):=YJ (by rw[←HX0.out];exact ai rfl)
   have HQ0:=YJ (HQ.out.below hb0)
   have HG0:=YJ ((hb0.block _ (ah HG.out)).trans HG.out)
   go_wp2
   try rw[HX0.out]
   clear g0 gz gf a0 az
   have g0:X0.cell? ⟨W.heap.size+2,0,none⟩=some (.slice sad k scap):=(bq HG0.out 0).trans rfl
   have gz:=ah HG0.out
   have gf:=aC HG0.out
   have c0:X0.cell? ⟨wr.heap.size,0,none⟩=some (.slice pa pn pc):=(bq HC0.out 0).trans rfl
   have cz:=ah HC0.out
   have HCl1:=fun W' (hb:Below X0.heap.size X0 W')=>YJ (HCl c (.slice pa pn pc) W' hcl (HQ0.out.below hb)).out
   apply aj [] [0,1,2,3,4,5,6] 7 [8,9] [sv _,sv _,sv _,sv _,⟨OA X0.heap.size c,by first|exact stab_oa _ _|exact stab_ago _ _|exact stab_ce _ _⟩,⟨IsAgO X0.heap.size c,by first|exact stab_oa _ _|exact stab_ago _ _|exact stab_ce _ _⟩,⟨IsCe X0.heap.size c,by first|exact stab_oa _ _|exact stab_ago _ _|exact stab_ce _ _⟩] (by kernel_rfl) (by kernel_rfl)
   iterate 4 ((try go_frame);refine wkQ ?_)
   try go_frame
   refine wkU (fun u hR K hK=> ?_) (fun o4=> ?_)
   ·clear hR
    go_simp
    refine((HCl1 _ u.below).out).mono ?_
    rintro e w9 ⟨v9,rfl,hb9,ho9⟩
    exact hK _ _ hb9 (AY ho9 u.below.size)
   try go_frame
   refine wkU (fun u hR K hK=> ?_) (fun o5=> ?_)
   ·have h4:(OA X0.heap.size c) o4 u.val:=hr hR 4
    clear hR
    have H9:=YJ h4
    obtain⟨a9,c9,rfl⟩:=aT h4
    clear h4
    go_simp
    exact hK _ _ (brf) ⟨_,rfl,H9.out⟩
   try go_frame
   refine wkU (fun u hR K hK=> ?_) (fun o6=> ?_)
   ·have h5:IsAgO X0.heap.size c o5 u.val:=hr hR 5
    clear hR
    obtain⟨x9,rfl,h9⟩:=h5
    have H9:=YJ h9
    obtain⟨a9,c9,rfl⟩:=aT h9
    clear h9
    go_simp
    exact hK _ _ bel ⟨_,_,rfl,ai rfl,au H9.out bel⟩
   try go_frame
   refine aI (fun u hR=> ?_)
   obtain⟨g,x,rfl,hg,hx⟩:IsCe X0.heap.size c o6 u.val:=hR 6 (by simp)
   have HGx:=YJ hg
   have HXx:=YJ hx
   have hbu:Below wr.heap.size wr u.val:=hb0.trans (u.below.mono hb0.size)
   have HAu:=YJ ((hbu.block _ (ah HA.out)).trans HA.out)
   have HRu:=YJ ((hbu.block _ (ah HR.out)).trans HR.out)
   have HGu:=YJ ((hbu.block _ (ah HG.out)).trans HG.out)
   have HOu:=YJ (au HO.out hbu)
   have HVu:=YJ ((HRv.out.below hbu).snoc (qaD zr hb0.size) (fun i h1 g hg=>qaG (HRv.out.lt i h1 g hg) hb0.size) hx)
   have hWX:=fB hb hbu
   have zX:W.heap.size+3≤u.val.heap.size:=qaD zr hbu.size
   clear hR hg hx HA HR HG HO HRv g0 gz gf c0 cz e0 ze HQ HPx HQ0 HC0 HG0 HX0 HCl1 hb0
   rw[←HTk.out]at HVu
   generalize u.val=X at*
   clear u hbu
   simp only[oas]
   refine fq _ rfl _ _ 73 rfl (W.heap.size+3) 164 i1 (.agg #[.slice none 0 0]) 1 24 nu Hi1.out.1 Hi1.out.2.1 Hi1.out.2.2.1 Hi1.out.2.2.2 rfl (by decide) _ k vs rfl HOu.out ⟨g,0,none⟩ 1 1 [x] rfl rfl ?c1 ?c2 ?c3 ?c4 ?c5 ?_
   case c1=>
    intro j u hu
    rw[jY,bq HGx.out]
    simpa using hu
   case c2=>
    intro u hu
    simp at hu
    subst hu
    obtain⟨_,_,rfl⟩:=aT HXx.out
    rfl
   case c3=>unfold maxLen;omega
   case c4=>omega
   case c5=>omega
   intro v' w4 hown4 hg4 _
   have HA4:=YJ ((hg4.block _ (ah HAu.out) (fun e=>aG HOu.out HAu.out (by decide) e.symm)).trans HAu.out)
   have HR4:=YJ ((hg4.block _ (ah HRu.out) (fun e=>aG HOu.out HRu.out (by decide) e.symm)).trans HRu.out)
   have HG4:=YJ ((hg4.block _ (ah HGu.out) (fun e=>aG HOu.out HGu.out (by decide) e.symm)).trans HGu.out)
   have hb4:Below W.heap.size W w4:=hWX.grown hg4 hWX.size (fun z hz=>by have:=(HOu.out.lt z hz).1;omega)
   have z4:W.heap.size+3≤w4.heap.size:=qaD zX hg4.size
   have HV4:=YJ (HVu.out.kept hg4 (fun g cs h1 h2=>by obtain⟨c,t,h3,h4⟩:=jC HOu.out g cs h1 h2;exact⟨c,t,h3,by rw[h4];decide⟩))
   have HO4:=YJ hown4
   obtain⟨va,vc,rfl⟩:=aT hown4
   clear hown4 hg4 HAu HRu HGu HOu HVu HGx HXx hWX zX
   have g0:w4.cell? ⟨W.heap.size+2,0,none⟩=some (.slice sad k scap):=(bq HG4.out 0).trans rfl
   have gz:=ah HG4.out
   have gf:=aC HG4.out
   iterate 2 (refine wpList_step (fun K hK=> ?_);go_simp;refine hK _ _ ?_;clear hK K)
   refine NoPanic.normal ?_
   go_wp2
   go_roundw
   case rel=>exact⟨k+1,by omega,by go_num,hb4.setCell (p:=⟨W.heap.size+2,0,none⟩) (by show _≤W.heap.size+2;omega) _,by simp;omega,YJ ((qaH _ _ _ _ (show W.heap.size≠W.heap.size+2 by omega)).trans HA4.out),YJ ((qaH _ _ _ _ (show W.heap.size+1≠W.heap.size+2 by omega)).trans HR4.out),_,vs++[x],YJ (Tu HG4.out 0 _),YJ (own_setD HO4.out HG4.out (by decide)),YJ (HV4.out.setO HG4.out (by decide))⟩
   simp[intOf];try omega
  ·obtain rfl:n=k:=by omega
   have r0:wr.cell? ⟨W.heap.size+1,0,none⟩=some (.slice none 0 0):=(bq HR.out 0).trans rfl
   have rz:=ah HR.out
   have rf:=aC HR.out
   obtain⟨sad,scap,rfl⟩:=aT HO.out
   have HVn:=HRv
   rw[HTn.out]at HVn
   clear HX HRv HLn HT HCl
   go_wp2
   refine bodyPost_ret (v:= .agg #[.slice sad n scap]) (by simp[results,Tryz.results102,go_sem,r0,rz]) rfl ⟨_,rfl,hb.setCell (p:=⟨W.heap.size+1,0,none⟩) (by show _≤W.heap.size+1;omega) _,vs, ?_, ?_⟩
   ·have h1:=own_setD (i:=0) (u:= .slice sad n scap) HO.out HR.out (by decide)
    rw[HN.out]
    exact AY h1 (by omega)
   ·exact(HVn.out.setO HR.out (by decide)).mono (by omega)
end
section
open Go.RowKit
abbrev T6:=Q3×Q3
def okT (t:T6):Prop:=((t.1.1=0∨t.1.1=1∨t.1.1=2)∧(t.1.2.1=0∨t.1.2.1=1∨t.1.2.1=2)∧(t.1.2.2=0∨t.1.2.2=1∨t.1.2.2=2))∧((t.2.1=1∨t.2.1= -1)∧(t.2.2.1=1∨t.2.2.1= -1)∧(t.2.2.2=1∨t.2.2.2= -1))
instance (t:T6):Decidable (okT t):=by unfold okT;infer_instance
end
section
open Go.RowKit Go.Shelf
attribute [local go_sem] Oper.semAt_some
def KTq (T:TypeId) (A B:World):Prop:=A.heap.size≤B.heap.size∧∀(g:Nat) (cs:Array Value),A.heap[g]? =some (Obj.cells cs T (0,0))→B.heap[g]? =some (Obj.cells cs T (0,0))
theorem KT.refl (T:TypeId) (A:World):KTq T A A:=⟨qaA _,fun _ _ h=>h⟩
theorem KT.trans {T:TypeId} {A B C:World} (h:KTq T A B) (k:KTq T B C):KTq T A C:=⟨qaD h.1 k.1,fun g cs e=>k.2 g cs (h.2 g cs e)⟩
theorem KT.of_below {T:TypeId} {A B:World} (h:Below A.heap.size A B):KTq T A B:=⟨h.size,fun g _ e=>(h.block g (ah e)).trans e⟩
end
section
open Go.RowKit Go.Shelf
attribute [local go_sem] Ext.cell Ext.frozen
theorem reach_closure (x:Int) (w:World):Calls Tryz.prog 146 #[.int .i64 x] w (Ret w (.bool (decide (x< -600000∨600000<x)))):=by
 by_cases h0:x< -600000
 ·go_enter Tryz.func146,Tryz.ntmps146
  go_wp2
  go_ret
  exact⟨ay (by simp;omega),brf⟩
 ·go_enter Tryz.func146,Tryz.ntmps146
  go_wp2
  go_ret
  exact⟨ay (by simp;omega),brf⟩
theorem eg_reach1:∀args w,(callFunc 146 args).run Tryz.prog w= .ok (.enter 146 args) w:=enters_of Tryz.func146 (by kernel_rfl) rfl
theorem inReach_any (x y z:Int) (w:World):Calls Tryz.prog 101 #[.agg #[.int .i64 x, .int .i64 y, .int .i64 z]] w (Ret w (.bool (bB (-600000) 600000 [x,y,z]))):=by
 have hcon:=fun W' T g hg=>YJ (containsFunc_int _ [x,y,z] (fun n=>decide (n< -600000∨600000<n)) 146 #[] _ (ints_newL (W:=W') (T:=T) (g:=g) [x,y,z] hg) (by simp) eg_reach1 (fun x _ w' _=>reach_closure x w'))
 have Hr:Hid (([x,y,z].any fun n=>decide (n< -600000∨600000<n))= !bB (-600000) 600000 [x,y,z]):=YJ (by simp[bB])
 rw[Hr.out]at hcon
 generalize bB (-600000) 600000 [x,y,z]=r at*
 go_enter Tryz.func101,Tryz.ntmps101
 go_wp2_with fail
 refine((hcon _ _ _ rfl).out).mono ?_
 rintro e w1 ⟨rfl,hb1⟩
 go_wp2
 go_ret
 exact⟨ay (by simp),fB bel hb1⟩
def T6At (w:World) (g off:Nat) (t:T6):Prop:=w.cell? ⟨g,off,none⟩=some (.int .i64 t.1.1)∧w.cell? ⟨g,off+1,none⟩=some (.int .i64 t.1.2.1)∧w.cell? ⟨g,off+2,none⟩=some (.int .i64 t.1.2.2)∧w.cell? ⟨g,off+3,none⟩=some (.int .i64 t.2.1)∧w.cell? ⟨g,off+4,none⟩=some (.int .i64 t.2.2.1)∧w.cell? ⟨g,off+5,none⟩=some (.int .i64 t.2.2.2)
theorem T6At.below {w w':World} {g off:Nat} {t:T6} (h:T6At w g off t) (hb:Below w.heap.size w w'):T6At w' g off t:=⟨ab hb h.1,ab hb h.2.1,ab hb h.2.2.1,ab hb h.2.2.2.1,ab hb h.2.2.2.2.1,ab hb h.2.2.2.2.2⟩
end
end Go.Proofs.YtffbilcjhlncfaaGreatDoor
