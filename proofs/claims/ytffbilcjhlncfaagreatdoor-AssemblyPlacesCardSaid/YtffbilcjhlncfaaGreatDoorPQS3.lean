/- texts: PLM FG1 O21 BWB FG2 FG3 AC6 AC7 ACA FG4 FG5 FG7 FG8. -/
import Derived.ArgAppend
import Derived.BigQuiet
import Derived.ChangeKeysEq
import Derived.Deep.AppendLies
import Derived.Deep.DeepAppendRoom
import Derived.Deep.DeepAppendWide
import Derived.Deep.DeepCutAuto
import Derived.Deep.QuietTactic
import Derived.Deep.RegionHeld
import Derived.Deep.RegionHeld3
import Derived.Deep.RegionHeldLaw
import Derived.DeepKeys4
import Derived.Laws.AppendOwnNone
import Derived.Laws.StructEq
import Derived.Lib.AppendIntMem
import Derived.Lib.AppendZerosOnto
import Derived.Lib.Hide
import Derived.Lib.ItoaLen
import Derived.Lib.SliceRun
import Derived.Lib.SlicesCompact
import Derived.LoopIn
import Derived.LoopNIn
import Derived.Maps.AppendAt
import Derived.Maps.OwnSet
import Derived.OwnWalkIn
import Derived.RangeFuncBound
import Derived.RangeFuncBox
import Derived.RangeFuncCalls
import Derived.RangeFuncFrom
import Derived.RangeFuncLeaves
import Derived.RangeFuncNested
import Derived.RangeFuncWrites
import Derived.Shelf.Abstract
import Derived.Shelf.Lays8
import Derived.Shelf.LaysM
import Derived.Shelf.RegionOpen
import Derived.Shelf.Slices.Turned
import Derived.Shelf.Small.Bits
import Derived.Shelf.Small.Strs
import Derived.Shelf.Spec.TrailingZeros
import Derived.Shelf.Strconv.Itoa0
import Derived.Shelf.Strconv.Itoa1
import Derived.Shelf.Strconv.Itoa2
import Derived.Shelf.Strconv.Itoa3
import Derived.Shelf.Strings.Builder1
import Derived.Shelf.Strings.Builder2
import Derived.Shelf.Strings.Builder2Cap
import Derived.Shelf.Strings.BuilderCap
import Derived.Shelf.Strings.BuilderF
import Derived.Shelf.Strings.BuilderK
import Derived.Shelf.Strings.Count
import Derived.Shelf.Strings.OnBuilder
import Derived.Shelf.Strings.Search1
import Derived.Shelf.Strings.Search2
import Derived.Shelf.Strings.Search3
import Derived.Shelf.Strings.Shaped
import Derived.Shelf.Unicode.DecodeSlow
import Derived.Sort.Grow
import Derived.StillTail
import Derived.TacticsInMore
import Derived.WalkKit
import Derived.WalkLawsBesides
import Derived.WalkSpells
import Derived.WideKeyEntry
import Derived.Test.YtffbilcjhlncfaaGreatDoorProg
import Derived.Test.YtffbilcjhlncfaaGreatDoorRows
import Derived.Test.YtffbilcjhlncfaaGreatDoorSort
import Derived.Test.YtffbilcjhlncfaaGreatDoorDQS1
import Derived.Test.YtffbilcjhlncfaaGreatDoorDQS2
import Derived.Test.YtffbilcjhlncfaaGreatDoorDQS4
import Derived.Test.YtffbilcjhlncfaaGreatDoorDQS5
import Derived.Test.YtffbilcjhlncfaaGreatDoorDQS6
import Derived.Test.YtffbilcjhlncfaaGreatDoorDQS7
import Derived.Test.YtffbilcjhlncfaaGreatDoorDQS8
import Derived.Test.YtffbilcjhlncfaaGreatDoorDQS9
import Derived.Test.YtffbilcjhlncfaaGreatDoorDQS10
import Derived.Test.YtffbilcjhlncfaaGreatDoorDQS11
import Derived.Test.YtffbilcjhlncfaaGreatDoorDQS12
import Derived.Test.YtffbilcjhlncfaaGreatDoorDQS14
import Derived.Test.YtffbilcjhlncfaaGreatDoorDQS15
import Derived.Test.YtffbilcjhlncfaaGreatDoorDQS16
import Derived.Test.YtffbilcjhlncfaaGreatDoorDQS17
import Derived.Test.YtffbilcjhlncfaaGreatDoorDQS18
import Derived.Test.YtffbilcjhlncfaaGreatDoorDQS19
import Derived.Test.YtffbilcjhlncfaaGreatDoorDQS20
import Derived.Test.YtffbilcjhlncfaaGreatDoorDQS22
import Derived.Test.YtffbilcjhlncfaaGreatDoorDQS23
import Derived.Test.YtffbilcjhlncfaaGreatDoorDQS24
import Derived.Test.YtffbilcjhlncfaaGreatDoorDQS26
import Derived.Test.YtffbilcjhlncfaaGreatDoorDQS29
import Derived.Test.YtffbilcjhlncfaaGreatDoorDQS30
import Derived.Test.YtffbilcjhlncfaaGreatDoorDQS31
import Derived.Test.YtffbilcjhlncfaaGreatDoorDQS32
import Derived.Test.YtffbilcjhlncfaaGreatDoorDQS33
import Derived.Test.YtffbilcjhlncfaaGreatDoorDQS34
import Derived.Test.YtffbilcjhlncfaaGreatDoorPQS2
namespace Go.Proofs.YtffbilcjhlncfaaGreatDoor
set_option maxHeartbeats 8000000
set_option linter.all false
section
open Go.RowKit Go.Shelf Go.Lib
set_option maxRecDepth 100000
attribute [local go_sem] Ext.cell Ext.frozen
theorem own_at1 {w:World} {base n:Nat} {T:TypeId} {v:Value} {xs:List Value} (h:w.ownsRow base T 1 v n xs) {i:Nat} (hi:i<n):∃g cap,v= .slice (some ⟨g,0,none⟩) n cap∧n≤cap∧base≤g∧w.cell? ⟨g,i,none⟩=xs[i]? :=by
 rcases h.2 with⟨rfl,h0⟩|⟨g,cap,cur,rfl,hb,hh,hc,hm,hcs,ht⟩
 ·omega
 ·refine⟨g,cap,rfl,hc,hb, ?_⟩
  rw[bq hh, ←ht,qdx (by omega),Array.getElem?_toList]
theorem q4_own {w:World} {base:Nat} {T:TypeId} {v:Value} {xs:List Q4} (h:w.ownsRow base T 4 v xs.length (xs.flatMap aH)) {i:Nat} (hi:i<xs.length):∃g cap,v= .slice (some ⟨g,0,none⟩) xs.length cap∧xs.length≤cap∧base≤g∧(∃cs,w.heap[g]? =some (.cells cs T (0,0)))∧w.cell? ⟨g,i*4,none⟩=some (.int .i64 xs[i].1)∧w.cell? ⟨g,i*4+1,none⟩=some (.int .i64 xs[i].2.1)∧w.cell? ⟨g,i*4+2,none⟩=some (.int .i64 xs[i].2.2.1)∧w.cell? ⟨g,i*4+3,none⟩=some (.int .i64 xs[i].2.2.2):=by
 rcases h.2 with⟨rfl,h0⟩|⟨g,cap,cur,rfl,hb,hh,hc,hm,hcs,ht⟩
 ·omega
 ·have key:∀r,r<4→w.cell? ⟨g,i*4+r,none⟩=(aH xs[i])[r]? :=fun r hr=>by
   rw[bq hh, ←eQ aH 4 cP xs i hi r hr, ←ht,qdx (by omega),Array.getElem?_toList]
  exact⟨g,cap,rfl,hc,hb,⟨_,hh⟩,key 0 (by omega),key 1 (by omega),key 2 (by omega),key 3 (by omega)⟩
theorem corner_ok {c:List Q4} (h:bK c=0):∀q∈aS c,fD q:=fun q hq=>tE (Dl h).1 q ((Qp c q).2 hq)
theorem fitC_yes {b:Q3} {c:List Q4} (h:∀m (hm:m<c.length), -10000000≤c[m].2.2.2+bj (nrm c[m]) b∧c[m].2.2.2+bj (nrm c[m]) b≤10000000) (h2:∀q (hq:q<(aS c).length),lw (mvPt b (aS c)[q])=true):fitC b c=true:=by
 unfold fitC
 rw[refCorner_mov,qaF,alsi,alsi]
 refine⟨fun p hp=> ?_,fun x hx=> ?_⟩
 ·unfold movC at hp
  obtain⟨a,ha,rfl⟩:=altt.1 hp
  obtain⟨m,hm,rfl⟩:=List.mem_iff_getElem.1 ha
  unfold fitP
  rw[qfV]
  exact h m hm
 ·obtain⟨q,hq,rfl⟩:=List.mem_iff_getElem.1 hx
  exact h2 q hq
theorem fitC_corner {b:Q3} {c:List Q4} {q:Nat} (hq:q<(aS c).length) (h:lw (mvPt b (aS c)[q])=false):fitC b c=false:=by
 unfold fitC
 rw[refCorner_mov,Bool.and_eq_false_iff]
 exact .inr (List.all_eq_false.2 ⟨_,qaB hq,by rw[h];exact Bool.false_ne_true⟩)
theorem solD_mov {w:World} {B:Nat} {v:Value} {vs:List Value} {css ds:List (List Q4)} {b:Q3} (h1:w.ownsRow B 164 1 v css.length vs) (h2:RowsD w B vs ds) (h3:MovS b css css.length ds):SolO B w v (css.map (movC b)):=by
 rw[←h3.done]
 exact⟨vs,by rw[h3.1];exact h1,h2.1⟩
theorem sMove_any (css:List (List Q4)) (sv:Value) (x y z:Int) (W:World) (hs:Tv css=0) (h:SolV W sv css):
  Calls Tryz.prog 53 #[.agg #[sv],V3 x y z] W (MovW (fitS (x,y,z) css) (css.map (movC (x,y,z))) W):=by
 have hc100:=(xb hs).1
 have hce:=(xb hs).2
 have HBo:=fun W' (h:SolV W' sv css)=>YJ (BX css sv W' (fun c hc=>qaD (Dl (hce c hc)).2.2 (by decide)) h)
 have HCp:=fun W' (h:SolV W' sv css)=>YJ (copied_any css sv W' (by omega) (fun c hc=>qaD (Dl (hce c hc)).2.2 (by decide)) h)
 have HRe:=fun W'=>YJ (inReach_any x y z W')
 obtain⟨iw,Hiw⟩:∃iw,Hid (bB (-600000) 600000 [x,y,z]=iw):=⟨_,YJ rfl⟩
 rw[Hiw.out]at HRe
 have HFr:Hid (iw=false→fitS (x,y,z) css=false):=YJ (fun h=>fitS_far (by rw[←h];exact Hiw.out))
 have HFc:=fun k (h:k<css.length)=>YJ (@fitS_cell (x,y,z) css k h)
 have HFa:Hid (iw=true→(∀k (hk:k<css.length),fitC (x,y,z) css[k]=true)→fitS (x,y,z) css=true):=YJ (fun h=>fitS_all (by rw[←h];exact Hiw.out))
 have HFp:=fun c j (h:j<c.length)=>YJ (@fitC_pl (x,y,z) c j h)
 have HFq:=fun c q (h:q<(aS c).length)=>YJ (@fitC_corner (x,y,z) c q h)
 have HFe:=fun c=>YJ (@fitC_yes (x,y,z) c)
 have hv:=fun(h:iw=true)=>(bdW_of (b:=(x,y,z)) (by rw[←h];exact Hiw.out))
 have HBd:=fun(hi:iw=true) p (h:bI p)=>YJ (mvD_bd h (hv hi))
 have HDt:=fun(hi:iw=true) p W' (h:bI p)=>YJ (show Calls Tryz.prog 105 #[V3 p.1 p.2.1 p.2.2.1,V3 x y z] W' (Ret W' (.int .i64 (bj (nrm p) (x,y,z))))from Ud p.1 p.2.1 p.2.2.1 x y z W' (by have:=h.1;omega) (by have:=h.2.1;omega) (by have:=h.2.2.1;omega) (by have:=(hv hi).1;simp only at this;omega) (by have:=(hv hi).2.1;simp only at this;omega) (by have:=(hv hi).2.2;simp only at this;omega))
 have HNr:=fun a b c d W'=>YJ (Tx a b c d W')
 have HMu:=fun(hi:iw=true) (n:Int) (h:1≤n∧n≤1000000)=>YJ (show(-600000000000≤x*n∧x*n≤600000000000)∧(-600000000000≤y*n∧y*n≤600000000000)∧(-600000000000≤z*n∧z*n≤600000000000)from by
  have h1: -600000≤x∧x≤600000:=(hv hi).1
  have h2: -600000≤y∧y≤600000:=(hv hi).2.1
  have h3: -600000≤z∧z≤600000:=(hv hi).2.2
  have e1:=aJ h1.1 h1.2 (show(-1000000:Int)≤n by omega) h.2
  have e2:=aJ h2.1 h2.2 (show(-1000000:Int)≤n by omega) h.2
  have e3:=aJ h3.1 h3.2 (show(-1000000:Int)≤n by omega) h.2
  omega)
 have HRm:=fun a b c q W' (h:1≤q∧q≤1000000)=>YJ (qG a b c q W' ⟨by omega,h.2⟩)
 have HCo:=fun k (h:k<css.length)=>YJ (corner_ok (hce _ (qaB h)))
 have HPl:=fun k (h:k<css.length)=>YJ (Dl (hce _ (qaB h)))
 have HSd:=fun w B v vs ds=>YJ (@solD_mov w B v vs css ds (x,y,z))
 have HMd:=fun p=>YJ (show movP (x,y,z) p=(p.1,p.2.1,p.2.2.1,p.2.2.2+bj (nrm p) (x,y,z))from rfl)
 have HK0:=fun i ds=>YJ (@MovK.start (x,y,z) css ds i)
 have HK1:=fun i ds=>YJ (@MovK.done (x,y,z) css ds i)
 have HK2:=fun i k ds=>YJ (@MovK.at (x,y,z) css ds i k)
 have HK3:=fun i k ds=>YJ (@MovK.next (x,y,z) css ds i k)
 have HS0:=YJ (MovS.start (x,y,z) css)
 have Hse:=YJ hs
 have HSV:=YJ h
 obtain⟨sa,n,sc,rfl,hn, -, -⟩:=h
 have HN:=YJ hn
 obtain⟨V,HV⟩:∃V,Hid (((W.alloc (.cells #[.slice sa n sc] 75)).alloc (.cells #[.int .i64 x, .int .i64 y, .int .i64 z] 37)).alloc (.cells #[.slice none 0 0] 75)=V):=⟨_,YJ rfl⟩
 have hV:Below W.heap.size W V:=by rw[←HV.out];exact bel
 have zV:V.heap.size=W.heap.size+3:=by rw[←HV.out];simp
 have BA:Hid (V.heap[W.heap.size]? =some (.cells #[.slice sa n sc] 75 (0,0))):=YJ (by rw[←HV.out];exact(aB (by simp<;>omega)).trans ((aB (by simp)).trans (ai rfl)))
 have BY:Hid (V.heap[W.heap.size+1]? =some (.cells #[.int .i64 x, .int .i64 y, .int .i64 z] 37 (0,0))):=YJ (by rw[←HV.out];exact(aB (by simp)).trans (ai (by simp)))
 have BR:Hid (V.heap[W.heap.size+2]? =some (.cells #[.slice none 0 0] 75 (0,0))):=YJ (by rw[←HV.out];exact ai (by simp))
 have HBV:=YJ (HBo V (HSV.out.below hV)).out
 obtain⟨FS,HFS⟩:∃FS,Hid (fitS (x,y,z) css=FS):=⟨_,YJ rfl⟩
 rw[HFS.out]at HFr HFc HFa ⊢
 obtain⟨BV,HBVv⟩:∃BV:Q3,Hid ((x,y,z)=BV):=⟨_,YJ rfl⟩
 have HMp:=YJ (show ∀q:Q4,mvPt (x,y,z) q=(q.1+x*q.2.2.2,q.2.1+y*q.2.2.2,q.2.2.1+z*q.2.2.2,q.2.2.2)from fun _=>rfl)
 rw[HBVv.out]at HFc HFa HFp HFq HFe HBd HDt HSd HMd HK0 HK1 HK2 HK3 HS0 HMp ⊢
 have hn100:n≤100:=by omega
 clear hc100 hce hn hs HBo HFS Hiw HBVv
 go_enter Tryz.func53,Tryz.ntmps53
 go_wp2_with fail
 try rw[HV.out]
 refine(HBV.out).mono ?_
 rintro e w1 ⟨hb1,⟨h0,v,rfl,hR⟩|⟨h0, -⟩⟩
 rotate_left
 ·exact absurd Hse.out h0
 have hw1:=fB hV hb1
 have z1:W.heap.size+3≤w1.heap.size:=by have:=hb1.size;omega
 have HA1:=YJ ((hb1.block _ (ah BA.out)).trans BA.out)
 have HY1:=YJ ((hb1.block _ (ah BY.out)).trans BY.out)
 have HR1:=YJ ((hb1.block _ (ah BR.out)).trans BR.out)
 have HP1:=YJ (DM hR hb1)
 obtain⟨xs0,ho0, -, -⟩:=hR
 obtain⟨va,vc,rfl⟩:=aT ho0
 rw[HN.out]
 obtain⟨y0,y1,y2,yf,yz⟩:=NO HY1.out
 clear HBV BA BY BR hb1 HV zV hV ho0 h0 Hse
 go_wp2_with fail
 refine((HRe _).out).mono ?_
 rintro e w2 ⟨rfl,hb2⟩
 have hw2:=fB hw1 hb2
 have z2:W.heap.size+3≤w2.heap.size:=by have:=hb2.size;omega
 have HA2:=YJ ((hb2.block _ (ah HA1.out)).trans HA1.out)
 have HY2:=YJ ((hb2.block _ (ah HY1.out)).trans HY1.out)
 have HR2:=YJ ((hb2.block _ (ah HR1.out)).trans HR1.out)
 have HP2:=YJ (HP1.out.below hb2)
 clear HA1 HY1 HR1 HP1 y0 y1 y2 yf yz hb2 HRe
 by_cases hi:iw=false
 ·subst hi
  have hfs:=HFr.out rfl
  have r0:w2.cell? ⟨W.heap.size+2,0,none⟩=some (.slice none 0 0):=(bq HR2.out 0).trans rfl
  have rz:=ah HR2.out
  have rf:=aC HR2.out
  clear HFr HFc HFa HFp HFq HFe HBd HDt HMu HRm HCo HPl HSd HMd HK0 HK1 HK2 HK3 HCp HMp
  go_wp2
  refine bodyPost_ret (v:= .tuple #[.agg #[.slice none 0 0], .int .i64 2]) (by simp[results,Tryz.results53,go_sem,r0,rz]) rfl ⟨none,0,0,by first|(rw[hfs];rfl)|rfl, ?_,fun h=>by first|(rw[hfs]at h;cases h)|cases h⟩
  first|exact hw2|exact(hw2).setCell (by show _≤W.heap.size+2;omega) _
 obtain rfl:iw=true:=by simpa using hi
 clear hi
 replace HBd:=HBd rfl
 replace HDt:=HDt rfl
 replace HMu:=HMu rfl
 replace HFa:=YJ (HFa.out rfl)
 have HC2:=YJ (HCp w2 (HSV.out.below hw2)).out
 have a0:w2.cell? ⟨W.heap.size,0,none⟩=some (.slice sa n sc):=(bq HA2.out 0).trans rfl
 have az:=ah HA2.out
 clear HFr hv HCp HSV
 go_wp2_with fail
 refine(HC2.out).mono ?_
 rintro e w3 ⟨cv,rfl,hb3,hd3⟩
 obtain⟨vs,ho3,hr3⟩:=hd3
 rw[HN.out]at ho3
 obtain⟨ca,cc,rfl⟩:=aT ho3
 obtain⟨w4,HW4⟩:∃w4,Hid (w3.alloc (.cells #[.slice ca n cc] 75)=w4):=⟨_,YJ rfl⟩
 have hb34:Below w3.heap.size w3 w4:=by rw[←HW4.out];exact bel
 have hb4:=hb3.trans (hb34.mono hb3.size)
 have z4:w3.heap.size+1≤w4.heap.size:=by rw[←HW4.out];simp
 have HO4:=YJ (au ho3 hb34)
 have HD4:=YJ (hr3.below hb34)
 have HG4:Hid (w4.heap[w3.heap.size]? =some (.cells #[.slice ca n cc] 75 (0,0))):=YJ (by rw[←HW4.out];exact ai rfl)
 have z3:=hb3.size
 clear HC2 a0 az ho3 hr3 hb3 hb34
 go_wp2
 try rw[HW4.out]
 clear HW4
 go_loopw [34] (fun x wr=>∃i:Nat,i≤n∧x= .int .i64 i∧Below w2.heap.size w2 wr∧w3.heap.size+1≤wr.heap.size∧Hid (wr.heap[w3.heap.size]? =some (.cells #[.slice ca n cc] 75 (0,0)))∧Hid (wr.ownsRow w2.heap.size 164 1 (.slice ca n cc) n vs)∧(∃ds,Hid (RowsD wr w2.heap.size vs ds)∧Hid (MovS BV css i ds))∧Hid (∀j (h:j<css.length),j<i→fitC BV css[j]=true)) (fun x _=>n-(intOf x).toNat)
 case atStart=>exact⟨0,by omega,rfl,hb4,z4,HG4,HO4,⟨css,HD4,HS0⟩,YJ (fun j _ h=>by omega)⟩
 case round=>
  clear HG4 HO4 HD4 HS0 hb4 z4
  obtain⟨i,hi,rfl,hbr,zr,HG,HO,⟨ds,HD,HM⟩,HFt⟩:=hrel
  have hwr:=fB hw2 hbr
  by_cases hlt:i<n
  ·have g1:(i:Int)<(n:Int):=by omega
   have g2:(0:Int)≤(i:Int):=by omega
   have hil:i<css.length:=by have:=HN.out;omega
   obtain⟨pa,pn,pc,epv,hpn,hpc,hpx⟩:=HP2.out
   cases epv
   obtain⟨pg,poff,rfl,hpi⟩:=hpx (by omega)
   obtain⟨pp,pq,e0,e1,h4p,h4q⟩:=hpi i (by simpa using hil)
   have e0:=ab hbr e0
   have e1:=ab hbr e1
   have ze0:=qaC wr _ e0
   simp only at ze0
   rw[qdB]at h4q h4p
   have h4q:=Q4s.below h4q hbr
   simp only[LZ]at h4q
   obtain⟨baq,bn,bcq,rfl, -⟩:=h4p
   obtain⟨ka,kn,kc,rfl,hkn, -,hkx⟩:=h4q
   have HKx:=YJ hkx
   have HKn:=YJ hkn
   have HCi:=YJ (HCo i hil).out
   have HPi:=YJ (HPl i hil).out
   have HFk:=YJ (HFc i hil).out
   have HFn:Hid (fitC BV css[i]=true→∀j (h:j<css.length),j<i+1→fitC BV css[j]=true):=YJ (fun h j hj hk'=>by
    by_cases e:j=i
    ·subst e;exact h
    ·exact HFt.out j hj (by omega))
   have HFqi:=HFq css[i]
   have HFpi:=HFp css[i]
   have HFei:=HFe css[i]
   have HFqc:=fun q (h:q<(aS css[i]).length)=>YJ (fun h'=>HFk.out ((HFqi q h).out h'))
   have HFpc:=fun j (h:j<css[i].length)=>YJ (fun h'=>HFk.out ((HFpi j h).out h'))
   have HFec:=YJ (fun h1 h2=>HFn.out (HFei.out h1 h2))
   have HKs:=YJ ((HK0 i ds).out HM.out)
   have HKd:=fun ds=>YJ ((HK1 i ds).out hil)
   have HKa:=fun k ds h=>YJ ((HK2 i k ds).out h hil)
   have HKn3:=fun k ds h=>YJ ((HK3 i k ds).out h hil)
   have hk16:kn≤1000000:=by
    have h1:=HKn.out
    have h2:=(HPi.out).2.2
    rw[←h1]
    exact EY HPi.out
   clear hpx hpi hkx hkn HFqi HFpi HFei HFk HFn HFq HFp HFe HFa HFt HCo HPl HFc HK0 HK1 HK2 HK3 HSd HM HP2
   generalize aS css[i]=cors at*
   obtain⟨wq,rfl⟩:∃wq:World,wq=wr:=⟨_,rfl⟩
   go_wp2
   go_loopw [42] (fun x wr=>∃q:Nat,q≤kn∧x= .int .i64 q∧Below wq.heap.size wq wr∧Hid (∀m (h:m<cors.length),m<q→lw (mvPt BV cors[m])=true)) (fun x _=>kn-(intOf x).toNat)
   case atStart=>exact⟨0,by omega,rfl,bel,YJ (fun m _ h=>by omega)⟩
   case round=>
    obtain⟨q,hq,rfl,hbq,HIn⟩:=hrel
    have hwq:=fB hwr hbq
    have HYr:=YJ (((hbr.trans (hbq.mono hbr.size)).block _ (ah HY2.out)).trans HY2.out)
    have HRr:=YJ (((hbr.trans (hbq.mono hbr.size)).block _ (ah HR2.out)).trans HR2.out)
    by_cases hqk:q<kn
    ·have g3:(q:Int)<(kn:Int):=by omega
     have g4:(0:Int)≤(q:Int):=by omega
     have hql:q<cors.length:=by have:=HKn.out;omega
     obtain⟨kb,koff,rfl,hkx⟩:=HKx.out (by omega)
     obtain⟨k0,k1,k2,k3⟩:=(hkx.below hbq) q hql
     have zk:=qaC wr _ k0
     simp only at zk
     have hok:=HCi.out _ (qaB hql)
     have HFi:=YJ (HFqc q hql).out
     have HIm:Hid (lw (mvPt BV cors[q])=true→∀m (h:m<cors.length),m<q+1→lw (mvPt BV cors[m])=true):=YJ (fun h m hm hk'=>by
      by_cases e:m=q
      ·subst e;exact h
      ·exact HIn.out m hm (by omega))
     rw[HMp.out]at HFi HIm
     clear hkx HKx HIn HFqc HFec HFpc HKs HKd HKa HKn3
     generalize cors[q]=cq at*
     obtain⟨cq0,cq1,cq2,cq3⟩:=cq
     obtain⟨o1,o2,o3,o4⟩:=hok
     simp only at k0 k1 k2 k3 HFi HIm o1 o2 o3 o4
     obtain⟨m1,m2,m3⟩:=(HMu cq3 o4).out
     have q1:IntKind.i64.wrap (x*cq3)=x*cq3:=IntWalk.i64_in _ (by omega)
     have q2:IntKind.i64.wrap (cq0+x*cq3)=cq0+x*cq3:=IntWalk.i64_in _ (by omega)
     have q3:IntKind.i64.wrap (y*cq3)=y*cq3:=IntWalk.i64_in _ (by omega)
     have q4:IntKind.i64.wrap (cq1+y*cq3)=cq1+y*cq3:=IntWalk.i64_in _ (by omega)
     have q5:IntKind.i64.wrap (z*cq3)=z*cq3:=IntWalk.i64_in _ (by omega)
     have q6:IntKind.i64.wrap (cq2+z*cq3)=cq2+z*cq3:=IntWalk.i64_in _ (by omega)
     obtain⟨X,HXx⟩:∃X,Hid (wr.alloc (.cells #[.int .i64 cq0, .int .i64 cq1, .int .i64 cq2, .int .i64 cq3] 186)=X):=⟨_,YJ rfl⟩
     have hbX:Below wr.heap.size wr X:=by rw[←HXx.out];exact bel
     have HPX:Hid (X.heap[wr.heap.size]? =some (.cells #[.int .i64 cq0, .int .i64 cq1, .int .i64 cq2, .int .i64 cq3] 186 (0,0))):=YJ (by rw[←HXx.out];exact ai rfl)
     have HYX:=YJ ((hbX.block _ (ah HYr.out)).trans HYr.out)
     have HRX:=YJ ((hbX.block _ (ah HRr.out)).trans HRr.out)
     have HRq:=fun W'=>YJ (HRm (cq0+x*cq3) (cq1+y*cq3) (cq2+z*cq3) cq3 W' o4).out
     clear HYr HRr HRm HMu
     go_upto_region 13 with fail
     try rw[HXx.out]
     obtain⟨f0,f1,f2,f3,_,fz⟩:=am HPX.out
     obtain⟨y0,y1,y2,yf,yz⟩:=NO HYX.out
     go_wp2_with fail
     refine((HRq _).out).mono ?_
     rintro e w5 ⟨rfl,hb5⟩
     have hb5':=hbX.trans (hb5.mono hbX.size)
     generalize lw (cq0+x*cq3,cq1+y*cq3,cq2+z*cq3,cq3)=ib at*
     clear HRq HYX f0 f1 f2 f3 fz y0 y1 y2 yf yz k0 k1 k2 k3 zk HPX HXx
     cases ib with
     |true=>
      have HIz:=YJ (HIm.out rfl)
      clear HIm HFi HRX
      go_wp2
      go_roundw
      case rel=>exact⟨q+1,by omega,by go_num,fB hbq hb5',HIz⟩
      simp[intOf];try omega
     |false=>
      have hfs:=HFi.out rfl
      have HR5:=(hb5.block _ (ah HRX.out)).trans HRX.out
      have r0:w5.cell? ⟨W.heap.size+2,0,none⟩=some (.slice none 0 0):=(bq HR5 0).trans rfl
      have rz:=ah HR5
      have rf:=aC HR5
      have hw5:=fB hwq hb5'
      clear HIm HFi HRX
      go_wp2
      refine bodyPost_ret (v:= .tuple #[.agg #[.slice none 0 0], .int .i64 2]) (by simp[results,Tryz.results53,go_sem,r0,rz]) rfl ⟨none,0,0,by first|(rw[hfs];rfl)|rfl, ?_,fun h=>by first|(rw[hfs]at h;cases h)|cases h⟩
      first|exact hw5|exact(hw5).setCell (by show _≤W.heap.size+2;omega) _
    ·obtain rfl:q=kn:=by omega
     replace HFec:=YJ (fun h1=>HFec.out h1 (fun m hm=>HIn.out m hm (by have:=HKn.out;omega)))
     have hbr':=hbr.trans (hbq.mono hbr.size)
     have zr':w3.heap.size+1≤wr.heap.size:=qaD zr hbq.size
     have HGr:=YJ ((hbq.block _ (ah HG.out)).trans HG.out)
     have HOr:=YJ (au HO.out hbq)
     have HDr:=YJ (HD.out.below hbq)
     have hvl:vs.length=n:=by have h1:=HO.out.1;omega
     have hiv:i<vs.length:=by omega
     obtain⟨pva,pvc,hpv⟩:∃a c,vs[i]= .slice a css[i].length c:=by
      have hd:i<ds.length:=by have h1:=HD.out.1.1;omega
      have h1:=HD.out.1.2 i hiv hd
      obtain⟨h3,h4⟩:=HKs.out.2.2 hil hd
      rw[h3]at h1
      exact aT h1
     have HPv:=YJ hpv
     have hpl16:css[i].length≤16:=HPi.out.2.2
     clear HKx HCi HFqc HIn HRm HMu HG HO HD HYr HRr hpv hwq
     obtain⟨cg,ccap,ec,hcc1,hcc2,hcv⟩:=own_at1 HOr.out hlt
     cases ec
     rw[List.getElem?_eq_getElem hiv,HPv.out]at hcv
     have o0:wr.cell? ⟨w3.heap.size,0,none⟩=some (.slice (some ⟨cg,0,none⟩) n cc):=(bq HGr.out 0).trans rfl
     have oz:=ah HGr.out
     have cz:=qaC wr _ hcv
     simp only at cz
     obtain⟨wp,rfl⟩:∃wp:World,wp=wr:=⟨_,rfl⟩
     go_wp2
     clear o0 oz hcv cz
     go_loopw [84] (fun x wr=>∃k:Nat,k≤css[i].length∧x= .int .i64 k∧Below w2.heap.size w2 wr∧w3.heap.size+1≤wr.heap.size∧Hid (wr.heap[w3.heap.size]? =some (.cells #[.slice (some ⟨cg,0,none⟩) n cc] 75 (0,0)))∧Hid (wr.ownsRow w2.heap.size 164 1 (.slice (some ⟨cg,0,none⟩) n cc) n vs)∧(∃ds,Hid (RowsD wr w2.heap.size vs ds)∧Hid (MovK BV css i k ds))∧Hid (∀m (h:m<css[i].length),m<k→ -10000000≤css[i][m].2.2.2+bj (nrm css[i][m]) BV∧css[i][m].2.2.2+bj (nrm css[i][m]) BV≤10000000)) (fun x _=>css[i].length-(intOf x).toNat)
     case atStart=>exact⟨0,by omega,rfl,hbr',zr',HGr,HOr,⟨ds,HDr,HKs⟩,YJ (fun m _ h=>by omega)⟩
     case round=>
      clear HGr HOr HDr HKs
      obtain⟨k,hk,rfl,hbk,zk,HGk,HOk,⟨ds,HDk,HMk⟩,HPd⟩:=hrel
      have hwk:=fB hw2 hbk
      have HYk:=YJ ((hbk.block _ (ah HY2.out)).trans HY2.out)
      have HRk:=YJ ((hbk.block _ (ah HR2.out)).trans HR2.out)
      by_cases hkl:k<css[i].length
      ·have g3:(k:Int)<(css[i].length:Int):=by omega
       have g4:(0:Int)≤(k:Int):=by omega
       obtain⟨d1,d2,d3,d4⟩:=(HKa k ds HMk.out).out hkl
       have hrow:=HDk.out.1.2 i hiv d1
       obtain⟨pg2,pcap,ep,hpc1,hpc2,⟨pcs,hph⟩,p0,p1,p2,p3⟩:=q4_own hrow d2
       rw[d4]at p0 p1 p2 p3
       rw[HPv.out,d3]at ep
       cases ep
       have Hd1:=YJ d1
       have Hd2:=YJ d2
       have Hd3:=YJ d3
       have Hd4:=YJ d4
       have HNx:=YJ ((HKn3 k ds HMk.out).out hkl d1)
       have hok:=HPi.out.1 _ (qaB hkl)
       have HFj:=YJ (HFpc k hkl).out
       have HPe:Hid ((-10000000≤css[i][k].2.2.2+bj (nrm css[i][k]) BV∧css[i][k].2.2.2+bj (nrm css[i][k]) BV≤10000000)→∀m (h:m<css[i].length),m<k+1→ -10000000≤css[i][m].2.2.2+bj (nrm css[i][m]) BV∧css[i][m].2.2.2+bj (nrm css[i][m]) BV≤10000000):=YJ (fun h m hm hk'=>by
        by_cases e:m=k
        ·subst e;exact h
        ·exact HPd.out m hm (by omega))
       have HBj:=(HBd css[i][k] hok).out
       have HDj:=fun W'=>YJ (HDt css[i][k] W' hok).out
       obtain⟨cg2,ccap2,ec,hcc1,hcc2,hcv⟩:=own_at1 HOk.out hlt
       cases ec
       rw[List.getElem?_eq_getElem hiv,HPv.out]at hcv
       rw[(HMd css[i][k]).out]at HFj HNx
       clear HFpc HKa HKn3 HFec HKd HBd HDt HPd hrow HMk d3 d4
       generalize css[i][k]=pp at*
       obtain⟨pp0,pp1,pp2,pp3⟩:=pp
       have hp3:=hok.2.2.2
       simp only at p0 p1 p2 p3 HNx HFj HPe HBj HDj hp3
       obtain⟨dd,Hdd⟩:∃dd,Hid (bj (nrm (pp0,pp1,pp2,pp3)) BV=dd):=⟨_,YJ rfl⟩
       rw[Hdd.out]at HBj HNx HFj HPe HDj
       have q1:IntKind.i64.wrap (pp3+dd)=pp3+dd:=IntWalk.i64_in _ (by omega)
       have o0:wr.cell? ⟨w3.heap.size,0,none⟩=some (.slice (some ⟨cg,0,none⟩) n cc):=(bq HGk.out 0).trans rfl
       have oz:=ah HGk.out
       have cz:=qaC wr _ hcv
       simp only at cz
       have pz:=ah hph
       have pf:=aC hph
       have HPh:=YJ hph
       clear hph hok
       go_wp2
       obtain⟨y0,y1,y2,yf,yz⟩:=NO HYk.out
       apply aj [] [0,1,2,3,4,5,6,7,8,9,10,11,12] 13 [] [sv _,sv _,sv _,sv _,sv _,sv _,sv _,sv _,sv _,sv _,sv _,sv _,sv _] (by kernel_rfl) (by kernel_rfl)
       iterate 7 ((try go_frame);refine wkQ ?_)
       try go_frame
       refine wkV ?_
       apply ex3
       ·intro u K hK
        go_simp
        refine((HNr _ _ _ _ _).out).mono ?_
        rintro e w9 ⟨rfl,hb9⟩
        exact hK _ hb9
       rfl
       ((try go_frame);refine wkQ ?_)
       try go_frame
       refine wkV ?_
       apply ex3
       ·intro u K hK
        go_simp
        refine((HDj _).out).mono ?_
        rintro e w9 ⟨rfl,hb9⟩
        exact hK _ hb9
       rfl
       iterate 3 ((try go_frame);refine wkQ ?_)
       try go_frame
       refine aI (fun u hR=> ?_)
       have hbu:=u.below
       have hbk2:=hbk.trans (hbu.mono hbk.size)
       have HGu:=(hbu.block _ (ah HGk.out)).trans HGk.out
       have HOu:=au HOk.out hbu
       have HDu:=HDk.out.below hbu
       have HRu:=(hbu.block _ (ah HRk.out)).trans HRk.out
       have hPu:=(hbu.block _ (ah HPh.out)).trans HPh.out
       have zu:w3.heap.size+1≤u.val.heap.size:=qaD zk hbu.size
       have hp3u:u.val.cell? ⟨pg2,k*4+3,none⟩=some (.int .i64 pp3):=ab hbu p3
       clear hR o0 oz hcv cz p0 p1 p2 p3 pz pf y0 y1 y2 yf yz HYk HGk HOk HDk HRk HPh HDj HNr hbu hbk
       generalize u.val=w5 at*
       clear u
       have hng:w3.heap.size≠pg2:=fun e=>by rw[e,hPu]at HGu;cases HGu
       obtain⟨Y,HY⟩:∃Y,Hid (w5.setCell ⟨pg2,k*4+3,none⟩ (.int .i64 (pp3+dd))=Y):=⟨_,YJ rfl⟩
       have HPY:Hid (Y.heap[pg2]? =some (.cells (pcs.setIfInBounds (k*4+3) (.int .i64 (pp3+dd))) 190 (0,0))):=YJ (by rw[←HY.out];exact Tu hPu (k*4+3) _)
       have hbY:Below w2.heap.size w2 Y:=by rw[←HY.out];exact hbk2.setCell (p:=⟨pg2,k*4+3,none⟩) hpc2 _
       have zY:w3.heap.size+1≤Y.heap.size:=by rw[←HY.out];simpa using zu
       have HGY:Hid (Y.heap[w3.heap.size]? =some (.cells #[.slice (some ⟨cg,0,none⟩) n cc] 75 (0,0))):=YJ (by rw[←HY.out];exact(qaH _ _ _ _ hng).trans HGu)
       have HRY:Hid (Y.heap[W.heap.size+2]? =some (.cells #[.slice none 0 0] 75 (0,0))):=YJ (by rw[←HY.out];exact(qaH _ _ _ _ (show W.heap.size+2≠pg2 by omega)).trans HRu)
       have HOY:Hid (Y.ownsRow w2.heap.size 164 1 (.slice (some ⟨cg,0,none⟩) n cc) n vs):=YJ (by rw[←HY.out];exact own_setD HOu hPu (by decide))
       have HDY:Hid (RowsD Y w2.heap.size vs (ds.set i (ds[i].set k (pp0,pp1,pp2,pp3+dd)))):=YJ (by
        have h1:=HDu.set Hd1.out (g:=pg2) (cap:=pvc) (by rw[HPv.out,Hd3.out]) Hd2.out (pp3+dd)
        rw[Hd4.out]at h1
        rw[←HY.out]
        exact h1)
       have p3:w5.cell? ⟨pg2,k*4+3,none⟩=some (.int .i64 pp3):=hp3u
       have pz:=ah hPu
       have pf:=aC hPu
       simp only[oas]
       go_wp2
       refine NoPanic.normal ?_
       rw[HY.out]
       have hx3:Y.cell? ⟨pg2,k*4+3,none⟩=some (.int .i64 (pp3+dd)):=by
        have hsz:k*4+3<pcs.size:=by
         have e:=hp3u
         rw[bq hPu]at e
         exact(alsl.1 e).1
        rw[bq HPY.out,Array.getElem?_setIfInBounds,if_pos rfl,if_pos hsz]
       clear p3 pz pf hPu hp3u HGu HOu HDu HRu HY hbk2 zu
       have x3:Y.cell? ⟨pg2,k*4+3,none⟩=some (.int .i64 (pp3+dd)):=hx3
       have xz:=ah HPY.out
       by_cases hin: -10000000≤pp3+dd∧pp3+dd≤10000000
       ·have g5:¬(pp3+dd< -10000000):=by omega
        have g6:¬((10000000:Int)<pp3+dd):=by omega
        have HPf:=YJ (HPe.out hin)
        clear HPe HFj HRY
        go_wp2
        go_roundw
        case rel=>exact⟨k+1,by omega,by go_num,hbY,zY,HGY,HOY,⟨_,HDY,HNx⟩,HPf⟩
        simp[intOf];try omega
       ·have hfs:=HFj.out hin
        have r0:Y.cell? ⟨W.heap.size+2,0,none⟩=some (.slice none 0 0):=(bq HRY.out 0).trans rfl
        have rz:=ah HRY.out
        have rf:=aC HRY.out
        have hwY:=fB hw2 hbY
        clear HPe HFj HGY HOY HDY HNx
        by_cases hlo:pp3+dd< -10000000
        ·go_wp2
         refine bodyPost_ret (v:= .tuple #[.agg #[.slice none 0 0], .int .i64 2]) (by simp[results,Tryz.results53,go_sem,r0,rz]) rfl ⟨none,0,0,by first|(rw[hfs];rfl)|rfl, ?_,fun h=>by first|(rw[hfs]at h;cases h)|cases h⟩
         first|exact hwY|exact(hwY).setCell (by show _≤W.heap.size+2;omega) _
        ·have g6:(10000000:Int)<pp3+dd:=by omega
         go_wp2
         refine bodyPost_ret (v:= .tuple #[.agg #[.slice none 0 0], .int .i64 2]) (by simp[results,Tryz.results53,go_sem,r0,rz]) rfl ⟨none,0,0,by first|(rw[hfs];rfl)|rfl, ?_,fun h=>by first|(rw[hfs]at h;cases h)|cases h⟩
         first|exact hwY|exact(hwY).setCell (by show _≤W.heap.size+2;omega) _
      ·have hk':k=css[i].length:=by omega
       subst hk'
       have HMn:=YJ ((HKd ds).out HMk.out)
       have HFz:=YJ (HFec.out (fun m hm=>HPd.out m hm hm))
       clear HFpc HKa HKn3 HFec HKd HBd HDt HPd HMk HNr HPi HMd HYk HRk
       go_wp2
       go_roundw
       case rel=>exact⟨i+1,by omega,by go_num,hbk,zk,HGk,HOk,⟨ds,HDk,HMn⟩,HFz⟩
       simp[intOf];try omega
  ·obtain rfl:i=n:=by omega
   have hfs:=HFa.out (fun j h=>HFt.out j h (by have:=HN.out;omega))
   have HRr:=(hbr.block _ (ah HR2.out)).trans HR2.out
   have o0:wr.cell? ⟨w3.heap.size,0,none⟩=some (.slice ca i cc):=(bq HG.out 0).trans rfl
   have oz:=ah HG.out
   have r0:wr.cell? ⟨W.heap.size+2,0,none⟩=some (.slice none 0 0):=(bq HRr 0).trans rfl
   have rz:=ah HRr
   have rf:=aC HRr
   have hne:w3.heap.size≠W.heap.size+2:=by omega
   clear HFc HFa HFp HFq HFe HBd HDt HMu HRm HCo HPl HMd HK0 HK1 HK2 HK3 HMp HNr HP2 HFt
   go_wp2
   refine bodyPost_ret (v:= .tuple #[.agg #[.slice ca i cc], .int .i64 0]) (by simp[results,Tryz.results53,go_sem,r0,rz]) rfl ⟨ca,i,cc,by rw[hfs];rfl,hwr.setCell (p:=⟨W.heap.size+2,0,none⟩) (by show _≤W.heap.size+2;omega) _,fun _=> ?_⟩
   have h1:=HO.out
   have h2:=HM.out
   rw[←HN.out]at h1 h2
   rw[←HN.out]
   exact((HSd _ _ _ _ _).out (own_setD h1 HRr (by decide)) (HD.out.setO HRr (by decide)) h2).mono (by omega)
end
section
open Go.RowKit Go.Shelf Go.Lib
attribute [local go_sem] Ext.cell Ext.frozen
theorem has_t {xs:List Int} {x:Int} {k:Nat} (h:k<xs.length) (e:xs[k]=x):xs.contains x=true:=by
 rw[List.contains_iff_mem, ←e];exact qaB h
theorem has_f {xs:List Int} {x:Int} (h:∀k (h:k<xs.length),xs[k]≠x):xs.contains x=false:=by
 rw[Bool.eq_false_iff]
 intro hc
 obtain⟨k,hk,e⟩:=qaJ (List.contains_iff_mem.1 hc)
 exact h k hk e
theorem has_any (v:Value) (xs:List Int) (x:Int) (W:World) (hm:xs.length≤1000000) (hx:Ints W v xs):
  Calls Tryz.prog 48 #[v, .int .i64 x] W (fun e w'=>e= .returned (.bool (xs.contains x))∧w'=W):=by
 have HT:=fun k (h:k<xs.length)=>YJ (@has_t xs x k h)
 have HF:=YJ (@has_f xs x)
 obtain⟨a,n,c,rfl,hn,_,hi⟩:=hx
 have HX:=YJ hi
 have HN:=YJ hn
 clear hi hn
 generalize xs.contains x=res at*
 go_enter Tryz.func48,Tryz.ntmps48
 go_wp2
 go_loopw [5] (fun i wr=>wr=W∧∃k:Nat,k≤n∧i= .int .i64 k∧Hid (∀j (h:j<xs.length),j<k→xs[j]≠x)) (fun i _=>n-(intOf i).toNat)
 case atStart=>exact⟨rfl,0,by omega,rfl,YJ (fun j _ h=>by omega)⟩
 case round=>
  obtain⟨rfl,k,hk,rfl,Hd⟩:=hrel
  by_cases hlt:k<n
  ·have g1:(k:Int)<(n:Int):=by omega
   have g2:(0:Int)≤(k:Int):=by omega
   have hil:k<xs.length:=by have:=HN.out;omega
   obtain⟨b,off,rfl,hi4⟩:=HX.out (by omega)
   have e0:=hi4 k hil
   have ze:=qaC wr _ e0
   simp only at ze
   have HK:=YJ (HT k hil).out
   have Hst:Hid (xs[k]≠x→∀j (h:j<xs.length),j<k+1→xs[j]≠x):=YJ (fun h j hj hji=>by
    by_cases e:j=k
    ·subst e;exact h
    ·exact Hd.out j hj (by omega))
   clear HX HT HF hi4 Hd
   generalize xs[k]=y at*
   by_cases hy:y=x
   ·have hr:=HK.out hy
    subst hr hy
    go_wp2
    go_ret
    exact⟨by trivial,rfl⟩
   ·have hyb:(y==x)=false:=by simpa using hy
    go_wp2
    go_roundw
    case rel=>exact⟨by trivial,k+1,by omega,by go_num,YJ (Hst.out hy)⟩
    simp[intOf];try omega
  ·obtain rfl:k=n:=by omega
   have hr:=HF.out (fun j h=>Hd.out j h (by have:=HN.out;omega))
   subst hr
   clear HX HT HF Hd
   go_wp2
   go_ret
   exact⟨by trivial,rfl⟩
def RetI (xs:List Int) (W:World) (e:Ending) (w':World):Prop:=∃v,e= .returned v∧Below W.heap.size W w'∧w'.ownsRow W.heap.size 3 1 v xs.length (xs.map (Value.int .i64))
def nI (l:List Nat):List Int:=l.map fun n:Nat=>(n:Int)
theorem nI_len (l:List Nat):(nI l).length=l.length:=qdo _
theorem nI_has (l:List Nat) (n:Nat):(nI l).contains (n:Int)=l.contains n:=by
 rw[Bool.eq_iff_iff,List.contains_iff_mem,List.contains_iff_mem]
 unfold nI
 rw[altt]
 exact⟨fun⟨m,h,e⟩=>by rw[←Int.ofNat_inj.1 e];exact h,fun h=>⟨n,h,rfl⟩⟩
theorem nI_filter (l m:List Nat):(nI l).filter (fun y=> !(nI m).contains y)=nI (l.filter fun y=> !m.contains y):=by
 induction l with
 |nil=>rfl
 |cons a l ih=>
  show List.filter _ ((a:Int)::nI l)=_
  rw[qgg,qgg,nI_has,ih]
  split<;>rfl
theorem nI_range_succ (k:Nat):nI (List.range (k+1))=nI (List.range k)++[(k:Int)]:=by unfold nI;rw[List.range_succ,qgh];rfl
set_option maxRecDepth 100000 in
theorem rAll_any (n:Nat) (W:World) (hn:n≤1000000):Calls Tryz.prog 15 #[.int .i64 n] W (RetI (nI (List.range n)) W):=by
 obtain⟨i0,Hi0⟩:=qfT In
 go_enter Tryz.func15,Tryz.ntmps15
 go_wp2
 go_loopw [3,4] (fun s x wr=>∃(k:Nat),k≤n∧x= .int .i64 k∧Below W.heap.size W wr∧Hid (wr.ownsRow W.heap.size 3 1 s (nI (List.range k)).length ((nI (List.range k)).map (Value.int .i64)))) (fun _ x _=>n-(intOf x).toNat)
 case atStart=>exact⟨0,by omega,rfl,brf,YJ (by exact qds _ _ _ _)⟩
 case round=>
  obtain⟨k,hk,rfl,hb,HO⟩:=hrel
  obtain⟨oa,oc,rfl⟩:=aT HO.out
  by_cases hlt:k<n
  ·have g1:(k:Int)<(n:Int):=by omega
   have Hs:=YJ (nI_range_succ k)
   have hPl:(nI (List.range k)).length≤1000000:=by rw[nI_len,qdA];omega
   generalize nI (List.range k)=P at*
   go_wp2_with (at_builtin;refine wpList_append_own _ rfl _ _ 34 rfl W.heap.size 3 i0 (.int .i64 0) 1 8 Io Hi0.out.1 Hi0.out.2.1 Hi0.out.2.2.1 Hi0.out.2.2.2 rfl (by decide) _ P.length _ rfl ((HO).out.alloc _) ⟨_,0,none⟩ 1 1 [.int .i64 (k:Int)] rfl rfl ?c1 ?c2 ?c3 ?c4 ?c5 ?_)
   case c1=>
    intro jj uu hu
    rw[jY,aq (by simp) jj]
    simpa using hu
   case c2=>intro v hv;simp at hv;subst hv;rfl
   case c3=>unfold maxLen;omega
   case c4=>omega
   case c5=>simp;have:=(hb).size;omega
   intro v' w4 hown4 hg4 hu4
   have hb4:Below W.heap.size W w4:=((hb).alloc (hb).size _).grown hg4 (by simp;have:=(hb).size;omega) (fun z hz=>by have:=((HO).out.lt z hz).1;omega)
   have HO4:Hid (w4.ownsRow W.heap.size 3 1 v' (nI (List.range (k+1))).length ((nI (List.range (k+1))).map (Value.int .i64))):=YJ (by rw[show nI (List.range (k+1))=P++[(k:Int)]from Hs.out,qaE,qgh];exact hown4)
   clear hown4 hg4 hu4
   obtain⟨va,vc,rfl⟩:=aT HO4.out
   clear HO
   go_wp2
   go_roundw
   case rel=>exact⟨k+1,by omega,by go_num,hb4,HO4⟩
   simp[intOf];try omega
  ·obtain rfl:k=n:=by omega
   go_wp2
   go_ret
   exact⟨_,rfl,hb,HO.out⟩
def wout (xs ys:List Int):List Int:=xs.filter fun y=> !ys.contains y
theorem wout_succ {xs ys:List Int} {k:Nat} (h:k<xs.length):wout (xs.take (k+1)) ys=if ys.contains xs[k]=true then wout (xs.take k) ys else wout (xs.take k) ys++[xs[k]]:=by
 unfold wout
 rw[qaI h,qgo]
 split
 ·rename_i hc;rw[qgg,hc];simp
 ·rename_i hc;rw[qgg,Bool.eq_false_iff.2 hc];simp
set_option maxRecDepth 100000 in
theorem without_any (v v2:Value) (xs ys:List Int) (W:World) (hm:xs.length≤1000000) (hm2:ys.length≤1000000) (hx:Ints W v xs) (hy:Ints W v2 ys):Calls Tryz.prog 57 #[v,v2] W (RetI (wout xs ys) W):=by
 obtain⟨i0,Hi0⟩:=qfT In
 have HHas:=fun x W' (hb:Below W.heap.size W W')=>YJ (has_any v2 ys x W' hm2 (hy.below hb))
 have HS:=fun k (h:k<xs.length)=>YJ (@wout_succ xs ys k h)
 have HLn:=fun k=>YJ (show(wout (xs.take k) ys).length≤1000000 from qaD (qdz _ _) (by rw[qge];omega))
 obtain⟨a,n,c,rfl,hn,_,hi⟩:=hx
 have HX:=YJ hi
 have HN:=YJ hn
 have HE:Hid (wout (xs.take n) ys=wout xs ys):=YJ (by rw[←hn,qgi])
 have hm1:n≤1000000:=by omega
 obtain⟨ya,yn,yc,rfl, -⟩:=hy
 clear hi hn hm hm2
 go_enter Tryz.func57,Tryz.ntmps57
 go_wp2
 go_loopw [5,6] (fun s x wr=>∃(k:Nat),k≤n∧x= .int .i64 k∧Below W.heap.size W wr∧Hid (wr.ownsRow W.heap.size 3 1 s (wout (xs.take k) ys).length ((wout (xs.take k) ys).map (Value.int .i64)))) (fun _ x _=>n-(intOf x).toNat)
 case atStart=>exact⟨0,by omega,rfl,brf,YJ (qds _ _ _ _)⟩
 case round=>
  obtain⟨k,hk,rfl,hb,HO⟩:=hrel
  obtain⟨oa,oc,rfl⟩:=aT HO.out
  by_cases hlt:k<n
  ·have g1:(k:Int)<(n:Int):=by omega
   have g2:(0:Int)≤(k:Int):=by omega
   have hil:k<xs.length:=by have:=HN.out;omega
   obtain⟨b,off,rfl,hi4⟩:=HX.out (by omega)
   have e0:=ab hb (hi4 k hil)
   have ze:=qaC wr _ e0
   simp only at ze
   have Hs:=YJ (HS k hil).out
   have hPl:=(HLn k).out
   have HC:=YJ (HHas xs[k] wr hb).out
   clear HX HS HLn hi4 HHas
   generalize xs[k]=y at*
   generalize wout (xs.take k) ys=P at*
   generalize ys.contains y=cb at*
   go_wp2_with fail
   refine(HC.out).mono ?_
   rintro e w1 ⟨rfl,rfl⟩
   clear HC
   cases cb with
   |true=>
    have Hs':=Hs.out
    rw[if_pos rfl]at Hs'
    rw[←Hs']at HO
    go_wp2
    go_roundw
    case rel=>exact⟨k+1,by omega,by go_num,hb,by first|exact HO|(rw[Hs']at HO ⊢;exact HO)⟩
    simp[intOf];try omega
   |false=>
    have Hs':wout (xs.take (k+1)) ys=P++[y]:=by rw[Hs.out,if_neg (by simp)]
    clear Hs
    go_wp2_with (at_builtin;refine wpList_append_own _ rfl _ _ 34 rfl W.heap.size 3 i0 (.int .i64 0) 1 8 Io Hi0.out.1 Hi0.out.2.1 Hi0.out.2.2.1 Hi0.out.2.2.2 rfl (by decide) _ P.length _ rfl ((HO).out.alloc _) ⟨_,0,none⟩ 1 1 [.int .i64 y] rfl rfl ?c1 ?c2 ?c3 ?c4 ?c5 ?_)
    case c1=>
     intro jj uu hu
     rw[jY,aq (by simp) jj]
     simpa using hu
    case c2=>intro v hv;simp at hv;subst hv;rfl
    case c3=>unfold maxLen;omega
    case c4=>omega
    case c5=>simp;have:=(hb).size;omega
    intro v' w4 hown4 hg4 hu4
    have hb4:Below W.heap.size W w4:=((hb).alloc (hb).size _).grown hg4 (by simp;have:=(hb).size;omega) (fun z hz=>by have:=((HO).out.lt z hz).1;omega)
    have HO4:Hid (w4.ownsRow W.heap.size 3 1 v' (wout (xs.take (k+1)) ys).length ((wout (xs.take (k+1)) ys).map (Value.int .i64))):=YJ (by rw[show wout (xs.take (k+1)) ys=P++[y]from Hs',qaE,qgh];exact hown4)
    clear hown4 hg4 hu4
    obtain⟨va,vc,rfl⟩:=aT HO4.out
    clear HO e0 ze
    go_wp2
    go_roundw
    case rel=>exact⟨k+1,by omega,by go_num,hb4,HO4⟩
    simp[intOf];try omega
  ·obtain rfl:k=n:=by omega
   clear HX HS HLn HHas
   go_wp2
   go_ret
   refine⟨_,rfl,hb, ?_⟩
   have:=HO.out
   rw[HE.out]at this
   first|exact this|(rw[HE.out];exact this)
end
section
open Go.RowKit
def outL (l:List (List (List Q4))) (b:Q3) (xs:List Nat):List (List (List Q4)):=xs.map fun x=>(l.getD x []).map (movC b)
def fitA (l:List (List (List Q4))) (b:Q3) (xs:List Nat):Bool:=xs.all fun x=>fitS b (l.getD x [])
def restR (n:Nat) (xs:List Nat):List Nat:=(List.range n).filter fun y=> !xs.contains y
def hitA (l:List (List (List Q4))) (b:Q3) (xs:List Nat):Bool:=(List.range l.length).any fun k=> !xs.contains k&&(outL l b xs).any fun m=>cy m (l.getD k [])
def hitR (l:List (List (List Q4))) (b:Q3) (xs:List Nat):Bool:=(outL l b xs).any fun m=>(restR l.length xs).any fun y=>Oh m (l.getD y [])
def atA (l:List (List (List Q4))) (xs:List Int) (b:Q3):Bool×Int:=if eB l≠0 then(false,eB l)else if gh xs l.length≠0 then(false,gh xs l.length)else if fitA l b (xs.map Int.toNat)then(!hitA l b (xs.map Int.toNat),0)else(false,2)
theorem outL_succ {l:List (List (List Q4))} {b:Q3} {xs:List Nat} {k:Nat} (h:k<xs.length) (h2:xs[k]<l.length):(outL l b xs).take (k+1)=(outL l b xs).take k++[l[xs[k]].map (movC b)]:=by
 unfold outL
 rw[qaI (by rw[qdo];exact h),qdB]
 simp[List.getD,h2]
theorem outL_len (l:List (List (List Q4))) (b:Q3) (xs:List Nat):(outL l b xs).length=xs.length:=qdo _
theorem fitA_no {l:List (List (List Q4))} {b:Q3} {xs:List Nat} {k:Nat} (h:k<xs.length) (h2:xs[k]<l.length) (h3:fitS b l[xs[k]]=false):fitA l b xs=false:=by
 unfold fitA
 refine List.all_eq_false.2 ⟨_,qaB h, ?_⟩
 rw[show l.getD xs[k] []=l[xs[k]] by simp[List.getD,h2],h3]
 exact Bool.false_ne_true
theorem fitA_yes {l:List (List (List Q4))} {b:Q3} {xs:List Nat} (hv:∀k (h:k<xs.length),xs[k]<l.length) (h:∀k (h:k<xs.length) (h2:xs[k]<l.length),fitS b l[xs[k]]=true):fitA l b xs=true:=by
 unfold fitA
 rw[alsi]
 intro y hy
 obtain⟨k,hk,rfl⟩:=List.mem_iff_getElem.1 hy
 have h2:=hv k hk
 rw[show l.getD xs[k] []=l[xs[k]] by simp[List.getD,h2]]
 exact h k hk h2
theorem restR_lt {n:Nat} {xs:List Nat}:∀y∈restR n xs,y<n:=fun y hy=>by
 unfold restR at hy
 rw[alsm,ultv]at hy
 exact hy.1
theorem hitR_yes {l:List (List (List Q4))} {b:Q3} {xs:List Nat} {i k:Nat} (hi:i<(outL l b xs).length) (hk:k<(restR l.length xs).length) (h2:(restR l.length xs)[k]<l.length) (h:Oh (outL l b xs)[i] l[(restR l.length xs)[k]]=true):hitR l b xs=true:=by
 unfold hitR
 refine ultj.2 ⟨_,qaB hi,ultj.2 ⟨_,qaB hk, ?_⟩⟩
 rw[show l.getD (restR l.length xs)[k] []=l[(restR l.length xs)[k]] by simp[List.getD,h2]]
 exact h
theorem hitR_no {l:List (List (List Q4))} {b:Q3} {xs:List Nat} (h:∀i k (hi:i<(outL l b xs).length) (hk:k<(restR l.length xs).length) (h2:(restR l.length xs)[k]<l.length),Oh (outL l b xs)[i] l[(restR l.length xs)[k]]=false):hitR l b xs=false:=by
 unfold hitR
 rw[ultp]
 intro m hm
 rw[Bool.not_eq_true,ultp]
 intro y hy
 obtain⟨i,hi,rfl⟩:=List.mem_iff_getElem.1 hm
 obtain⟨k,hk,rfl⟩:=List.mem_iff_getElem.1 hy
 have h2:=restR_lt _ (qaB hk)
 rw[Bool.not_eq_true,show l.getD (restR l.length xs)[k] []=l[(restR l.length xs)[k]] by simp[List.getD,h2]]
 exact h i k hi hk h2
theorem hitA_yes {l:List (List (List Q4))} {b:Q3} {xs:List Nat} {i k:Nat} (hi:i<(outL l b xs).length) (hk:k<l.length) (hc:xs.contains k=false) (h:cy (outL l b xs)[i] l[k]=true):hitA l b xs=true:=by
 unfold hitA
 refine ultj.2 ⟨k,ultv.2 hk, ?_⟩
 rw[qaF,hc,ultj]
 refine⟨rfl,_,qaB hi, ?_⟩
 rw[show l.getD k []=l[k] by simp[List.getD,hk]]
 exact h
theorem hitA_no {l:List (List (List Q4))} {b:Q3} {xs:List Nat} (h:∀k (hk:k<l.length),xs.contains k=false→∀i (hi:i<(outL l b xs).length),cy (outL l b xs)[i] l[k]=false):hitA l b xs=false:=by
 unfold hitA
 rw[ultp]
 intro k hk
 rw[ultv]at hk
 rw[Bool.not_eq_true,Bool.and_eq_false_iff]
 cases hc:xs.contains k with
 |true=>exact .inl rfl
 |false=>
  refine .inr (ultp.2 fun m hm=> ?_)
  obtain⟨i,hi,rfl⟩:=List.mem_iff_getElem.1 hm
  rw[Bool.not_eq_true,show l.getD k []=l[k] by simp[List.getD,hk]]
  exact h k hk hc i hi
theorem clash_rcl {s t:List (List Q4)} (hs:∀c∈s,bK c=0) (ht:∀c∈t,bK c=0):cy s t=Oh s t:=by
 unfold cy Oh
 exact Gu fun c hc d hd=>LH (QO (hs c hc) (ht d hd)) (Qr (hs c hc))
theorem outL_right {l:List (List (List Q4))} {b:Q3} {xs:List Nat} (hp:∀s∈l,Tv s=0) (hf:fitA l b xs=true):∀m∈outL l b xs,∀c∈m,bK c=0:=by
 intro m hm
 unfold outL at hm
 obtain⟨x,hx,rfl⟩:=altt.1 hm
 refine sol_mov (fun c hc=> ?_) (alsi.1 hf x hx)
 by_cases hi:x<l.length
 ·rw[show l.getD x []=l[x] by simp[List.getD,hi]]at hc
  exact IL (hp _ (qaB hi)) c hc
 ·rw[show l.getD x []=[] by simp[List.getD,hi]]at hc
  cases hc
theorem outL_hundred {l:List (List (List Q4))} {b:Q3} {xs:List Nat} (hp:∀s∈l,Tv s=0):∀m∈outL l b xs,m.length≤100:=by
 intro m hm
 unfold outL at hm
 obtain⟨x,hx,rfl⟩:=altt.1 hm
 rw[qdo]
 by_cases hi:x<l.length
 ·rw[show l.getD x []=l[x] by simp[List.getD,hi]]
  exact(xb (hp _ (qaB hi))).1
 ·rw[show l.getD x []=[] by simp[List.getD,hi]]
  exact Nat.zero_le _
theorem hit_eq {l:List (List (List Q4))} {b:Q3} {xs:List Nat} (hp:∀s∈l,Tv s=0) (hf:fitA l b xs=true):hitA l b xs=hitR l b xs:=by
 have hr:=outL_right hp hf
 cases hc:hitR l b xs with
 |false=>
  refine hitA_no fun k hk hx i hi=> ?_
  rw[clash_rcl (hr _ (qaB hi)) (IL (hp _ (qaB hk)))]
  have hm:k∈restR l.length xs:=by
   unfold restR
   rw[alsm,ultv,hx]
   exact⟨hk,rfl⟩
  obtain⟨j,hj,e⟩:=List.mem_iff_getElem.1 hm
  cases h:Oh (outL l b xs)[i] l[k]with
  |false=>rfl
  |true=>
   have h2:(restR l.length xs)[j]<l.length:=by rw[e];exact hk
   rw[hitR_yes hi hj h2 (by simp only[e];exact h)]at hc
   cases hc
 |true=>
  unfold hitR at hc
  obtain⟨m,hm,h⟩:=ultj.1 hc
  obtain⟨y,hy,h⟩:=ultj.1 h
  have hy':=restR_lt y hy
  rw[show l.getD y []=l[y] by simp[List.getD,hy']]at h
  obtain⟨i,hi,rfl⟩:=List.mem_iff_getElem.1 hm
  refine hitA_yes hi hy' ?_ (by rw[clash_rcl (hr _ (qaB hi)) (IL (hp _ (qaB hy')))];exact h)
  unfold restR at hy
  rw[alsm]at hy
  simpa using hy.2
end
section
open Go.RowKit Go.Shelf
attribute [local go_sem] Ext.cell Ext.frozen
def okWb (x y z:Int):Prop:=(-1≤x∧x≤1)∧(-1≤y∧y≤1)∧(-1≤z∧z≤1)
def slimC (c:List Q4):Prop:=bK c=0∧c.length≤8
theorem swin_len (ps:List Q4) (w:Q3) (x:Q4):(ps.flatMap (Rl w x)).length≤if 0<bj (nrm x) w then(bc ps w).length else 0:=by
 induction ps with
 |nil=>simp
 |cons y l ih=>
  rw[qgm,qaE]
  unfold bc at ih ⊢
  rw[qgg]
  unfold Rl at ih ⊢
  by_cases h1:0<bj (nrm x) w
  ·rw[if_pos h1]at ih ⊢
   by_cases h2:bj (nrm y) w<0
   ·rw[if_pos (qfX h2),qdn]
    split
    ·simp only[List.length_singleton];omega
    ·simp only[List.length_nil];omega
   ·rw[if_neg (show ¬(decide (bj (nrm y) w<0)=true) by simpa using h2),if_neg (show ¬(0<bj (nrm x) w∧bj (nrm y) w<0∧nrm (kv x y w)≠(0,0,0))from fun h=>h2 h.2.1)]
    simp only[List.length_nil];omega
  ·rw[if_neg h1]at ih ⊢
   rw[if_neg (fun h=>h1 h.1)]
   simp only[List.length_nil];omega
theorem swRi_len (ps l:List Q4) (w:Q3):(l.flatMap fun x=>ps.flatMap (Rl w x)).length≤(cr l w).length*(bc ps w).length:=by
 induction l with
 |nil=>simp
 |cons x l ih=>
  rw[qgm,qaE]
  have h1:=swin_len ps w x
  unfold cr at ih ⊢
  rw[qgg]
  by_cases h:0<bj (nrm x) w
  ·rw[if_pos h]at h1
   rw[if_pos (qfX h),qdn,Nat.add_mul,Nat.one_mul]
   omega
  ·rw[if_neg h]at h1
   rw[if_neg (by simpa using h)]
   omega
theorem fbR_len (ps:List Q4) (w:Q3):(cr ps w).length+(bc ps w).length≤ps.length:=by
 induction ps with
 |nil=>simp[cr,bc]
 |cons x l ih=>
  unfold cr bc at ih ⊢
  rw[qgg,qgg,qdn]
  by_cases h:0<bj (nrm x) w
  ·rw[if_pos (qfX h),if_neg (by rw[qfV];omega),qdn];omega
  ·rw[if_neg (by simpa using h)]
   split
   ·rw[qdn];omega
   ·omega
theorem sweptR_len (ps:List Q4) (w:Q3) (h:ps.length≤8):(TD ps w).length≤24:=by
 unfold TD TE
 rw[qgi,qaE]
 have h1:=swRi_len ps ps w
 have h2:=fbR_len ps w
 have h3:(IH ps w).length≤ps.length:=qdz _ _
 generalize(cr ps w).length=f at*
 generalize(bc ps w).length=b at*
 have h4:f*b≤16:=by
  have hf:f≤8:=by omega
  have hb:b≤8-f:=by omega
  have:f*b≤f*(8-f):=Nat.mul_le_mul_left f hb
  have h5:∀f,f≤8→f*(8-f)≤16:=by decide
  have:=h5 f hf
  omega
 omega
theorem refN_okP {c:List Q4} (h:∀p∈c,cI p):(∀p∈ch c,bI p)∧(ch c).length≤c.length:=by
 refine⟨fun q hq=> ?_, ?_⟩
 ·obtain⟨p,hp,rfl⟩:=(SH c h q).1 hq
  exact xJ p (h p (alsm.1 hp).1).1
 ·rw[xF c h]
  unfold iS Sp
  have h1:=WW (iP (iZ (aS c) c))
  have h2:(iP (iZ (aS c) c)).length=(iZ (aS c) c).length:=by unfold iP;simp
  have h3:=sk (aS c) c c.length
  rw[qgi]at h3
  omega
theorem sweptR_okW {ps:List Q4} {x y z:Int} (h:∀p∈ps,bI p) (hw:okWb x y z):∀q∈TD ps (x,y,z),okW q:=by
 intro q hq
 unfold TD at hq
 rcases altl.1 hq with hq|hq
 ·exact DW (h q (alsm.1 hq).1)
 ·obtain⟨a,ha,b,hb, -, -, -,rfl⟩:=mem_swpRi.1 hq
  exact Je _ (Jf a b (x,y,z) (h a ha) (h b hb) hw)
theorem look_ok {c d:List Q4} {x y z:Int} (hc:slimC c) (hd:slimC d) (hw:okWb x y z):(∀p∈TD (ch c) (x,y,z)++ch d,okW p)∧(TD (ch c) (x,y,z)++ch d).length≤32:=by
 have oc:=refN_okP (qV hc.1)
 have od:=refN_okP (qV hd.1)
 refine⟨fun p hp=> ?_, ?_⟩
 ·rcases altl.1 hp with hp|hp
  ·exact sweptR_okW oc.1 hw p hp
  ·exact DW (od.1 p hp)
 ·have h1:=sweptR_len (ch c) (x,y,z) (qaD oc.2 hc.2)
  have:=hd.2
  rw[qaE]
  omega
end
section
open Go.RowKit Go.Shelf Go.Lib
attribute [local go_sem] Ext.cell Ext.frozen
def RowsP {α:Type} (P:Value→α→Prop) (vs:List Value) (l:List α):Prop:=vs.length=l.length∧∀i (h1:i<vs.length) (h2:i<l.length),P vs[i] l[i]
theorem RowsP.nil {α:Type} {P:Value→α→Prop}:RowsP P [] []:=⟨rfl,fun i h=>by simp at h⟩
theorem RowsP.snoc {α:Type} {P:Value→α→Prop} {vs:List Value} {l:List α} {v:Value} {s:α} (h:RowsP P vs l) (hv:P v s):RowsP P (vs++[v]) (l++[s]):=by
 refine⟨by simp[h.1],fun i h1 h2=> ?_⟩
 by_cases hi:i<vs.length
 ·have hc:i<l.length:=by rw[←h.1];exact hi
  rw[qgn hi,qgn hc]
  exact h.2 i hi hc
 ·have he:i=vs.length:=by simp at h1;omega
  subst he
  have:=h.1
  simp only[List.getElem_append_right (qaA _),Nat.sub_self,qdt]
  rw[List.getElem_append_right (by omega)]
  simp only[this,Nat.sub_self,qdt]
  exact hv
theorem RowsP.imp {α:Type} {P Q:Value→α→Prop} {vs:List Value} {l:List α} (hi:∀v a,P v a→Q v a) (h:RowsP P vs l):RowsP Q vs l:=⟨h.1,fun i h1 h2=>hi _ _ (h.2 i h1 h2)⟩
def OwnI (B:Nat) (w:World) (v:Value) (l:List Nat):Prop:=w.ownsRow B 3 1 v l.length (l.map iV)
theorem OwnI.below {B:Nat} {w w':World} {v:Value} {l:List Nat} (h:OwnI B w v l) (hb:Below w.heap.size w w'):OwnI B w' v l:=au h hb
theorem OwnI.mono {B B':Nat} {w:World} {v:Value} {l:List Nat} (h:OwnI B w v l) (hb:B'≤B):OwnI B' w v l:=AY h hb
theorem OwnI.kept {B:Nat} {w w':World} {v:Value} {l:List Nat} {row:Option Nat} {T:TypeId} (hT:T≠3) (h:OwnI B w v l) (hg:w.grownBy w' row) (hne:∀g cs,row=some g→w.heap[g]? =some cs→∃c t,cs= .cells c t (0,0)∧t=T):OwnI B w' v l:=
 own_keptY h hg (fun g cs k1 k2=>by obtain⟨c,t,h3,h4⟩:=hne g cs k1 k2;exact⟨c,t,h3,by rw[h4];exact hT⟩)
def OwnG (B:Nat) (w:World) (v:Value) (g:List (List Nat)):Prop:=∃vs,w.ownsRow B 34 1 v g.length vs∧RowsP (OwnI B w) vs g
theorem OwnG.below {B:Nat} {w w':World} {v:Value} {g:List (List Nat)} (h:OwnG B w v g) (hb:Below w.heap.size w w'):OwnG B w' v g:=by
 obtain⟨vs,h1,h2⟩:=h
 exact⟨vs,au h1 hb,h2.imp fun _ _ h=>h.below hb⟩
theorem OwnG.mono {B B':Nat} {w:World} {v:Value} {g:List (List Nat)} (h:OwnG B w v g) (hb:B'≤B):OwnG B' w v g:=by
 obtain⟨vs,h1,h2⟩:=h
 exact⟨vs,AY h1 hb,h2.imp fun _ _ h=>h.mono hb⟩
theorem OwnG.kept {B:Nat} {w w':World} {v:Value} {g:List (List Nat)} {row:Option Nat} {T:TypeId} (hT:T≠3) (hT2:T≠34) (h:OwnG B w v g) (hg:w.grownBy w' row) (hne:∀g cs,row=some g→w.heap[g]? =some cs→∃c t,cs= .cells c t (0,0)∧t=T):OwnG B w' v g:=by
 obtain⟨vs,h1,h2⟩:=h
 exact⟨vs,own_keptY h1 hg (fun g cs k1 k2=>by obtain⟨c,t,h3,h4⟩:=hne g cs k1 k2;exact⟨c,t,h3,by rw[h4];exact hT2⟩),h2.imp fun _ _ h=>h.kept hT hg hne⟩
def NatV (w:World) (v:Value) (l:List Nat):Prop:=Ints w v (nI l)
def GrfV (w:World) (v:Value) (g:List (List Nat)):Prop:=Each w v NatV g
def GsV (w:World) (v:Value) (gs:List (List (List Nat))):Prop:=Each w v GrfV gs
theorem NatV.below {w w':World} {v:Value} {l:List Nat} (h:NatV w v l) (hb:Below w.heap.size w w'):NatV w' v l:=Ints.below h hb
theorem GrfV.below {w w':World} {v:Value} {g:List (List Nat)} (h:GrfV w v g) (hb:Below w.heap.size w w'):GrfV w' v g:=Each.below (fun _ _ _ _ hb h=>NatV.below h hb) h hb
theorem GsV.below {w w':World} {v:Value} {gs:List (List (List Nat))} (h:GsV w v gs) (hb:Below w.heap.size w w'):GsV w' v gs:=Each.below (fun _ _ _ _ hb h=>GrfV.below h hb) h hb
end
section
open Go.RowKit Go.Shelf Go.Lib
attribute [local go_sem] Ext.cell Ext.frozen
theorem nI_get {l:List Nat} {i:Nat} (h:i<l.length):(nI l)[i]'(by rw[nI_len];exact h)=(l[i]:Int):=by unfold nI;simp
theorem NatV.at {w:World} {v:Value} {l:List Nat} (h:NatV w v l):∃a n c,v= .slice a n c∧l.length=n∧(0<n→∃b off,a=some ⟨b,off,none⟩∧∀i (h:i<l.length),w.cell? ⟨b,off+i,none⟩=some (.int .i64 (l[i]:Nat))):=by
 obtain⟨a,n,c,rfl,hn,_,hi⟩:=h
 rw[nI_len]at hn
 refine⟨a,n,c,rfl,hn,fun h0=> ?_⟩
 obtain⟨b,off,rfl,hx⟩:=hi h0
 exact⟨b,off,rfl,fun i h=>by have:=hx i (by rw[nI_len];exact h);rwa [nI_get h]at this⟩
end
section
open Go.RowKit Go.Shelf
attribute [local go_sem] Ext.cell Ext.frozen
def slimB (n:Nat):Bool:=decide (n≤8) || (decide (16<n)&&decide (n≤20))
set_option maxRecDepth 100000 in
theorem slim_any (a:Option Addr) (n c:Nat) (W:World):Calls Tryz.prog 90 #[.agg #[.slice a n c]] W (Ret W (.bool (slimB n))):=by
 obtain⟨r,HR⟩:∃r,Hid (slimB n=r):=⟨_,YJ rfl⟩
 rw[HR.out]
 by_cases h8:n≤8
 ·have g1:(n:Int)≤8:=by omega
  obtain rfl:r=true:=by rw[←HR.out];unfold slimB;rw[qfX h8];rfl
  clear HR
  go_enter Tryz.func90,Tryz.ntmps90
  go_wp2
  go_ret
  exact⟨ay (by simp),bel⟩
 ·have g1:¬(n:Int)≤8:=by omega
  by_cases h16:16<n
  ·have g2:(16:Int)<(n:Int):=by omega
   by_cases h20:n≤20
   ·have g3:(n:Int)≤20:=by omega
    obtain rfl:r=true:=by rw[←HR.out];unfold slimB;rw[qfX h16,qfX h20];simp
    clear HR
    go_enter Tryz.func90,Tryz.ntmps90
    go_wp2
    go_ret
    exact⟨ay (by simp),bel⟩
   ·have g3:¬(n:Int)≤20:=by omega
    obtain rfl:r=false:=by rw[←HR.out];unfold slimB;rw[qfZ h8,qfZ h20];simp
    clear HR
    go_enter Tryz.func90,Tryz.ntmps90
    go_wp2
    go_ret
    exact⟨ay (by simp),bel⟩
  ·have g2:¬(16:Int)<(n:Int):=by omega
   obtain rfl:r=false:=by rw[←HR.out];unfold slimB;rw[qfZ h8,qfZ h16];simp
   clear HR
   go_enter Tryz.func90,Tryz.ntmps90
   go_wp2
   go_ret
   exact⟨ay (by simp),bel⟩
def cntF (m n:Nat):Bool:=decide (n≤m) || (decide (100<n)&&decide (n≤105))
def fewS (m:Nat) (css:List (List Q4)):Bool:=cntF m css.length&&css.all fun c=>slimB c.length
set_option maxRecDepth 100000 in
theorem fewS_any (m:Nat) (css:List (List Q4)) (sv:Value) (W:World) (hm:m≤100) (hl:css.length≤maxLen) (h:SolV W sv css):
  Calls Tryz.prog 36 #[.agg #[sv], .int .i64 m] W (Ret W (.bool (fewS m css))):=by
 obtain⟨sa,n,sc,rfl,hn, -,hx⟩:=h
 have HX:=YJ hx
 have HN:=YJ hn
 have HSl:=fun a n c W'=>YJ (slim_any a n c W')
 have hn':n≤maxLen:=by omega
 have Hc0:Hid (cntF m n=false→fewS m css=false):=YJ (fun h=>by unfold fewS;rw[hn,h];rfl)
 have Hhit:Hid (∀i (hi:i<css.length),slimB css[i].length=false→fewS m css=false):=YJ (fun i hi h=>by
  unfold fewS
  rw[Bool.and_eq_false_iff]
  refine .inr ?_
  rw[List.all_eq_false]
  exact⟨css[i],qaB hi,by simpa using h⟩)
 have Hall:Hid (cntF m n=true→(∀i (hi:i<css.length),slimB css[i].length=true)→fewS m css=true):=YJ (fun h h2=>by
  unfold fewS
  rw[hn,h,Bool.true_and,alsi]
  intro c hc
  obtain⟨i,hi,rfl⟩:=qaJ hc
  exact h2 i hi)
 obtain⟨V,HV⟩:∃V,Hid (W.alloc (.cells #[.slice sa n sc] 75)=V):=⟨_,YJ rfl⟩
 have hV:Below W.heap.size W V:=by rw[←HV.out];exact bel
 have HA:Hid (V.heap[W.heap.size]? =some (.cells #[.slice sa n sc] 75 (0,0))):=YJ (by rw[←HV.out];exact ai rfl)
 have v0:V.cell? ⟨W.heap.size,0,none⟩=some (.slice sa n sc):=(bq HA.out 0).trans rfl
 have vz:=ah HA.out
 clear hx hn hl
 generalize fewS m css=res at*
 have key:∀g:Bool,cntF m n=g→Hid ((g=true→(n≤m∨100<n∧n≤105))∧(g=false→(m<n∧n≤100)∨105<n)):=fun g hg=>YJ (by
  unfold cntF at hg
  subst hg
  refine⟨fun h=> ?_,fun h=> ?_⟩
  ·simp only[qgf,qaF,qfV]at h;omega
  ·simp only[Bool.or_eq_false_iff,Bool.and_eq_false_iff,decide_eq_false_iff_not]at h;omega)
 obtain⟨g,hg⟩:∃g,cntF m n=g:=⟨_,rfl⟩
 have Hk:=key g hg
 rw[hg]at Hc0 Hall
 clear key hg
 cases g with
 |false=>
  have hr:=Hc0.out (by trivial)
  rcases Hk.out.2 (by trivial)with⟨k1,k2⟩|k1
  ·have g1:(m:Int)<(n:Int):=by omega
   have g2:(n:Int)≤100:=by omega
   clear Hc0 Hhit Hall Hk HX HSl
   go_enter Tryz.func36,Tryz.ntmps36
   go_wp2
   go_ret
   exact⟨by first|(rw[hr];rfl)|rfl,by rw[HV.out];exact hV⟩
  ·have g1:(m:Int)<(n:Int):=by omega
   have g2:¬(n:Int)≤100:=by omega
   have g3:(105:Int)<(n:Int):=by omega
   clear Hc0 Hhit Hall Hk HX HSl
   go_enter Tryz.func36,Tryz.ntmps36
   go_wp2
   go_ret
   exact⟨by first|(rw[hr];rfl)|rfl,by rw[HV.out];exact hV⟩
 |true=>
  have hk:=Hk.out.1 (by trivial)
  have g3:¬(105:Int)<(n:Int):=by omega
  have hn105:n≤105:=by omega
  by_cases hmn:n≤m
  ·have g4:¬(m:Int)<(n:Int):=by omega
   clear Hc0 Hk hk
   go_enter Tryz.func36,Tryz.ntmps36
   go_wp2
   try rw[HV.out]
   clear HV
   go_loopw [5] (fun x wr=>∃k:Nat,k≤n∧x= .int .i64 k∧Below V.heap.size V wr∧Hid (∀i (hi:i<css.length),i<k→slimB css[i].length=true)) (fun x _=>n-(intOf x).toNat)
   case atStart=>exact⟨0,by omega,rfl,brf,YJ (fun i _ h=>by omega)⟩
   case round=>
    obtain⟨k,hk,rfl,hb,Hd⟩:=hrel
    have r0:=ab hb v0
    have rz:=qaG vz hb.size
    by_cases hlt:k<n
    ·have g1:(k:Int)<(n:Int):=by omega
     have g2:(0:Int)≤(k:Int):=by omega
     have hil:k<css.length:=by have:=HN.out;omega
     obtain⟨b,off,rfl,hi4⟩:=HX.out (by omega)
     obtain⟨pv,e0,hs⟩:=hi4 k hil
     have e0:=ab (fB hV hb) e0
     have ze:=qaC wr _ e0
     simp only at ze
     obtain⟨pa,pn,pc,rfl,hpn, -⟩:=hs
     have HS:=fun W'=>YJ (HSl pa pn pc W').out
     have Hh:=YJ (Hhit.out k hil)
     have Hst:Hid (slimB css[k].length=true→∀i (hi:i<css.length),i<k+1→slimB css[i].length=true):=YJ (fun h i hi hik=>by
      by_cases e:i=k
      ·subst e;exact h
      ·exact Hd.out i hi (by omega))
     rw[hpn]at Hh Hst
     clear hpn hi4 HX Hhit Hall Hd HSl v0 vz
     generalize slimB pn=sl at*
     go_wp2_with fail
     refine((HS _).out).mono ?_
     rintro e w2 ⟨rfl,hb2⟩
     cases sl with
     |true=>
      have HF:=YJ (Hst.out rfl)
      clear HS Hh Hst
      go_wp2
      go_roundw
      case rel=>exact⟨k+1,by omega,by go_num,fB hb hb2,HF⟩
      simp[intOf];try omega
     |false=>
      have hr:=Hh.out rfl
      have hw:=fB (fB hV hb) hb2
      clear HS Hh Hst
      go_wp2
      go_ret
      exact⟨by first|(rw[hr];rfl)|rfl,hw⟩
    ·obtain rfl:n=k:=by omega
     have hr:=Hall.out (by trivial) (fun i hi=>Hd.out i hi (by have:=HN.out;omega))
     have hw:=fB hV hb
     clear HX Hhit Hall Hd HSl
     go_wp2
     go_ret
     exact⟨by first|(rw[hr];rfl)|rfl,hw⟩
  ·have g4:(m:Int)<(n:Int):=by omega
   have g5:¬(n:Int)≤100:=by omega
   clear Hc0 Hk hk
   go_enter Tryz.func36,Tryz.ntmps36
   go_wp2
   try rw[HV.out]
   clear HV
   go_loopw [5] (fun x wr=>∃k:Nat,k≤n∧x= .int .i64 k∧Below V.heap.size V wr∧Hid (∀i (hi:i<css.length),i<k→slimB css[i].length=true)) (fun x _=>n-(intOf x).toNat)
   case atStart=>exact⟨0,by omega,rfl,brf,YJ (fun i _ h=>by omega)⟩
   case round=>
    obtain⟨k,hk,rfl,hb,Hd⟩:=hrel
    have r0:=ab hb v0
    have rz:=qaG vz hb.size
    by_cases hlt:k<n
    ·have g1:(k:Int)<(n:Int):=by omega
     have g2:(0:Int)≤(k:Int):=by omega
     have hil:k<css.length:=by have:=HN.out;omega
     obtain⟨b,off,rfl,hi4⟩:=HX.out (by omega)
     obtain⟨pv,e0,hs⟩:=hi4 k hil
     have e0:=ab (fB hV hb) e0
     have ze:=qaC wr _ e0
     simp only at ze
     obtain⟨pa,pn,pc,rfl,hpn, -⟩:=hs
     have HS:=fun W'=>YJ (HSl pa pn pc W').out
     have Hh:=YJ (Hhit.out k hil)
     have Hst:Hid (slimB css[k].length=true→∀i (hi:i<css.length),i<k+1→slimB css[i].length=true):=YJ (fun h i hi hik=>by
      by_cases e:i=k
      ·subst e;exact h
      ·exact Hd.out i hi (by omega))
     rw[hpn]at Hh Hst
     clear hpn hi4 HX Hhit Hall Hd HSl v0 vz
     generalize slimB pn=sl at*
     go_wp2_with fail
     refine((HS _).out).mono ?_
     rintro e w2 ⟨rfl,hb2⟩
     cases sl with
     |true=>
      have HF:=YJ (Hst.out rfl)
      clear HS Hh Hst
      go_wp2
      go_roundw
      case rel=>exact⟨k+1,by omega,by go_num,fB hb hb2,HF⟩
      simp[intOf];try omega
     |false=>
      have hr:=Hh.out rfl
      have hw:=fB (fB hV hb) hb2
      clear HS Hh Hst
      go_wp2
      go_ret
      exact⟨by first|(rw[hr];rfl)|rfl,hw⟩
    ·obtain rfl:n=k:=by omega
     have hr:=Hall.out (by trivial) (fun i hi=>Hd.out i hi (by have:=HN.out;omega))
     have hw:=fB hV hb
     clear HX Hhit Hall Hd HSl
     go_wp2
     go_ret
     exact⟨by first|(rw[hr];rfl)|rfl,hw⟩
end
section
open Go.RowKit Go.Shelf
attribute [local go_sem] Ext.cell Ext.frozen
def cntL (n:Nat):Bool:=decide (n≤4) || (decide (12<n)&&decide (n≤15))
def fewL (l:List (List (List Q4))):Bool:=cntL l.length&&l.all fun s=>fewS 2 s
set_option maxRecDepth 100000 in
theorem fewL_any (l:List (List (List Q4))) (lv:Value) (W:World) (hl:l.length≤maxLen) (hL:∀s∈l,s.length≤maxLen) (h:SolsV W lv l):
  Calls Tryz.prog 8 #[lv] W (Ret W (.bool (fewL l))):=by
 obtain⟨la,n,lc,rfl,hn, -,hx⟩:=h
 have HX:=YJ hx
 have HN:=YJ hn
 have HLn:=fun i (h:i<l.length)=>YJ (hL _ (qaB h))
 have hn':n≤maxLen:=by omega
 have Hc0:Hid (cntL n=false→fewL l=false):=YJ (fun h=>by unfold fewL;rw[hn,h];rfl)
 have Hhit:Hid (∀i (hi:i<l.length),fewS 2 l[i]=false→fewL l=false):=YJ (fun i hi h=>by
  unfold fewL
  rw[Bool.and_eq_false_iff]
  refine .inr ?_
  rw[List.all_eq_false]
  exact⟨l[i],qaB hi,by simpa using h⟩)
 have Hall:Hid (cntL n=true→(∀i (hi:i<l.length),fewS 2 l[i]=true)→fewL l=true):=YJ (fun h h2=>by
  unfold fewL
  rw[hn,h,Bool.true_and,alsi]
  intro c hc
  obtain⟨i,hi,rfl⟩:=qaJ hc
  exact h2 i hi)
 clear hx hn hl hL
 generalize fewL l=res at*
 have key:∀g:Bool,cntL n=g→Hid ((g=true→(n≤4∨12<n∧n≤15))∧(g=false→(4<n∧n≤12)∨15<n)):=fun g hg=>YJ (by
  unfold cntL at hg
  subst hg
  refine⟨fun h=> ?_,fun h=> ?_⟩
  ·simp only[qgf,qaF,qfV]at h;omega
  ·simp only[Bool.or_eq_false_iff,Bool.and_eq_false_iff,decide_eq_false_iff_not]at h;omega)
 obtain⟨g,hg⟩:∃g,cntL n=g:=⟨_,rfl⟩
 have Hk:=key g hg
 rw[hg]at Hc0 Hall
 clear key hg
 cases g with
 |false=>
  have hr:=Hc0.out (by trivial)
  rcases Hk.out.2 (by trivial)with⟨k1,k2⟩|k1
  ·have g1:(4:Int)<(n:Int):=by omega
   have g2:(n:Int)≤12:=by omega
   clear Hc0 Hhit Hall Hk HX HLn
   go_enter Tryz.func8,Tryz.ntmps8
   go_wp2
   go_ret
   exact⟨by first|(rw[hr];rfl)|rfl,brf⟩
  ·have g1:(4:Int)<(n:Int):=by omega
   have g2:¬(n:Int)≤12:=by omega
   have g3:(15:Int)<(n:Int):=by omega
   clear Hc0 Hhit Hall Hk HX HLn
   go_enter Tryz.func8,Tryz.ntmps8
   go_wp2
   go_ret
   exact⟨by first|(rw[hr];rfl)|rfl,brf⟩
 |true=>
  have hk:=Hk.out.1 (by trivial)
  have g3:¬(15:Int)<(n:Int):=by omega
  have hn105:n≤15:=by omega
  by_cases hmn:n≤4
  ·have g4:¬(4:Int)<(n:Int):=by omega
   clear Hc0 Hk hk
   go_enter Tryz.func8,Tryz.ntmps8
   go_wp2
   go_loopw [3] (fun x wr=>∃k:Nat,k≤n∧x= .int .i64 k∧Below W.heap.size W wr∧Hid (∀i (hi:i<l.length),i<k→fewS 2 l[i]=true)) (fun x _=>n-(intOf x).toNat)
   case atStart=>exact⟨0,by omega,rfl,brf,YJ (fun i _ h=>by omega)⟩
   case round=>
    obtain⟨k,hk,rfl,hb,Hd⟩:=hrel
    by_cases hlt:k<n
    ·have g1:(k:Int)<(n:Int):=by omega
     have g2:(0:Int)≤(k:Int):=by omega
     have hil:k<l.length:=by have:=HN.out;omega
     obtain⟨b,off,rfl,hi4⟩:=HX.out (by omega)
     obtain⟨sv,e0,hs⟩:=hi4 k hil
     have e0:=ab hb e0
     have ze:=qaC wr _ e0
     simp only at ze
     have HS:Hid (Calls Tryz.prog 36 #[.agg #[sv], .int .i64 2] wr (Ret wr (.bool (fewS 2 l[k])))):=YJ (fewS_any 2 l[k] sv wr (by decide) (HLn k hil).out (hs.below hb))
     have Hh:=YJ (Hhit.out k hil)
     have Hst:Hid (fewS 2 l[k]=true→∀i (hi:i<l.length),i<k+1→fewS 2 l[i]=true):=YJ (fun h i hi hik=>by
      by_cases e:i=k
      ·subst e;exact h
      ·exact Hd.out i hi (by omega))
     obtain⟨sa,sn,sc,rfl, -⟩:=hs
     clear hi4 HX Hhit Hall Hd HLn
     generalize fewS 2 l[k]=sl at*
     go_wp2_with fail
     refine(HS.out).mono ?_
     rintro e w2 ⟨rfl,hb2⟩
     cases sl with
     |true=>
      have HF:=YJ (Hst.out rfl)
      clear HS Hh Hst
      go_wp2
      go_roundw
      case rel=>exact⟨k+1,by omega,by go_num,fB hb hb2,HF⟩
      simp[intOf];try omega
     |false=>
      have hr:=Hh.out rfl
      have hw:=fB hb hb2
      clear HS Hh Hst
      go_wp2
      go_ret
      exact⟨by first|(rw[hr];rfl)|rfl,hw⟩
    ·obtain rfl:n=k:=by omega
     have hr:=Hall.out (by trivial) (fun i hi=>Hd.out i hi (by have:=HN.out;omega))
     clear HX Hhit Hall Hd HLn
     go_wp2
     go_ret
     exact⟨by first|(rw[hr];rfl)|rfl,hb⟩
  ·have g4:(4:Int)<(n:Int):=by omega
   have g5:¬(n:Int)≤12:=by omega
   clear Hc0 Hk hk
   go_enter Tryz.func8,Tryz.ntmps8
   go_wp2
   go_loopw [3] (fun x wr=>∃k:Nat,k≤n∧x= .int .i64 k∧Below W.heap.size W wr∧Hid (∀i (hi:i<l.length),i<k→fewS 2 l[i]=true)) (fun x _=>n-(intOf x).toNat)
   case atStart=>exact⟨0,by omega,rfl,brf,YJ (fun i _ h=>by omega)⟩
   case round=>
    obtain⟨k,hk,rfl,hb,Hd⟩:=hrel
    by_cases hlt:k<n
    ·have g1:(k:Int)<(n:Int):=by omega
     have g2:(0:Int)≤(k:Int):=by omega
     have hil:k<l.length:=by have:=HN.out;omega
     obtain⟨b,off,rfl,hi4⟩:=HX.out (by omega)
     obtain⟨sv,e0,hs⟩:=hi4 k hil
     have e0:=ab hb e0
     have ze:=qaC wr _ e0
     simp only at ze
     have HS:Hid (Calls Tryz.prog 36 #[.agg #[sv], .int .i64 2] wr (Ret wr (.bool (fewS 2 l[k])))):=YJ (fewS_any 2 l[k] sv wr (by decide) (HLn k hil).out (hs.below hb))
     have Hh:=YJ (Hhit.out k hil)
     have Hst:Hid (fewS 2 l[k]=true→∀i (hi:i<l.length),i<k+1→fewS 2 l[i]=true):=YJ (fun h i hi hik=>by
      by_cases e:i=k
      ·subst e;exact h
      ·exact Hd.out i hi (by omega))
     obtain⟨sa,sn,sc,rfl, -⟩:=hs
     clear hi4 HX Hhit Hall Hd HLn
     generalize fewS 2 l[k]=sl at*
     go_wp2_with fail
     refine(HS.out).mono ?_
     rintro e w2 ⟨rfl,hb2⟩
     cases sl with
     |true=>
      have HF:=YJ (Hst.out rfl)
      clear HS Hh Hst
      go_wp2
      go_roundw
      case rel=>exact⟨k+1,by omega,by go_num,fB hb hb2,HF⟩
      simp[intOf];try omega
     |false=>
      have hr:=Hh.out rfl
      have hw:=fB hb hb2
      clear HS Hh Hst
      go_wp2
      go_ret
      exact⟨by first|(rw[hr];rfl)|rfl,hw⟩
    ·obtain rfl:n=k:=by omega
     have hr:=Hall.out (by trivial) (fun i hi=>Hd.out i hi (by have:=HN.out;omega))
     clear HX Hhit Hall Hd HLn
     go_wp2
     go_ret
     exact⟨by first|(rw[hr];rfl)|rfl,hb⟩
end
section
open Go.RowKit Go.Shelf
attribute [local go_sem] Ext.cell Ext.frozen
theorem slim_len {n:Nat} (h:slimB n=true):n≤20:=by
 unfold slimB at h
 simp only[qgf,qaF,qfV]at h
 omega
theorem fewS_len {m:Nat} {s:List (List Q4)} (hm:m≤100) (h:fewS m s=true):s.length≤105∧∀c∈s,c.length≤20:=by
 unfold fewS cntF at h
 simp only[qgf,qaF,qfV,alsi]at h
 exact⟨by omega,fun c hc=>slim_len (h.2 c hc)⟩
theorem fewL_len {l:List (List (List Q4))} (h:fewL l=true):l.length≤15∧∀s∈l,s.length≤105∧∀c∈s,c.length≤20:=by
 unfold fewL cntL at h
 simp only[qgf,qaF,qfV,alsi]at h
 exact⟨by omega,fun s hs=>fewS_len (by decide) (h.2 s hs)⟩
end
section
open Go.RowKit Go.Shelf Go.Lib
attribute [local go_sem] Ext.cell Ext.frozen
theorem BfsI.lt {E:Nat→Nat→Bool} {grp:List Nat} {n i G:Nat} {acc:List Nat} (h:BfsI E grp n i acc) (hn:n<G) (hg:∀y∈grp,y<G):∀y∈acc,y<G:=fun y hy=>by
 have:=h.rch y hy
 cases this with
 |base=>exact hn
 |step _ _ g=>exact hg _ g
end
section
open Go.RowKit Go.Shelf Go.Lib
attribute [local go_sem] Ext.cell Ext.frozen
def OwnGs (B:Nat) (w:World) (v:Value) (gs:List (List (List Nat))):Prop:=∃vs,w.ownsRow B 46 1 v gs.length vs∧RowsP (OwnG B w) vs gs
theorem OwnGs.below {B:Nat} {w w':World} {v:Value} {g:List (List (List Nat))} (h:OwnGs B w v g) (hb:Below w.heap.size w w'):OwnGs B w' v g:=by
 obtain⟨vs,h1,h2⟩:=h
 exact⟨vs,au h1 hb,h2.imp fun _ _ h=>h.below hb⟩
end
section
open Go.RowKit Go.Shelf Go.Lib
set_option maxRecDepth 100000
attribute [local go_sem] Ext.cell Ext.frozen
theorem rSetErr_any (xs:List Int) (v:Value) (m:Nat) (W:World) (hm:m≤1000) (hl:xs.length≤1000000) (hv:Ints W v xs):
  Calls Tryz.prog 18 #[.int .i64 m,v] W (Ret W (.int .i64 (gh xs m))):=by
 have H6:=fun k (h:k<xs.length)=>YJ (@Kc xs m k h)
 have H9:=fun h0 k (h:k<xs.length) (h1:1≤k)=>YJ (@Kd xs m k h0 h h1)
 have H0:=YJ (@Ke xs m)
 have HWi:=fun n b (h:decide ((0:Int)≤n∧n≤(m:Int)-1)=b) W'=>YJ (ba h W')
 obtain⟨a,n,c,rfl,hn,_,hi⟩:=hv
 have HX:=YJ hi
 have HN:=YJ hn
 have q5:IntKind.i64.wrap ((m:Int)-1)=(m:Int)-1:=IntWalk.i64_in _ (by omega)
 clear hi hn
 generalize gh xs m=res at*
 go_enter Tryz.func18,Tryz.ntmps18
 go_wp2
 go_loopw [5] (fun x wr=>∃k:Nat,k≤n∧x= .int .i64 k∧Below W.heap.size W wr∧Hid (∀j (h:j<xs.length),j<k→0≤xs[j]∧xs[j]<m)) (fun x _=>n-(intOf x).toNat)
 case atStart=>exact⟨0,by omega,rfl,bel,YJ (fun j _ h=>by omega)⟩
 case round=>
  obtain⟨k,hk,rfl,hb,Hd⟩:=hrel
  by_cases hlt:k<n
  ·have g1:(k:Int)<(n:Int):=by omega
   have g2:(0:Int)≤(k:Int):=by omega
   have hil:k<xs.length:=by have:=HN.out;omega
   obtain⟨b,off,rfl,hi4⟩:=HX.out (by omega)
   have e0:=ab hb (hi4 k hil)
   have ze:=qaC wr _ e0
   simp only at ze
   have HK:=YJ (H6 k hil).out
   have Hst:Hid (0≤xs[k]∧xs[k]<m→∀j (h:j<xs.length),j<k+1→0≤xs[j]∧xs[j]<m):=YJ (fun h j hj hji=>by
    by_cases e:j=k
    ·subst e;exact h
    ·exact Hd.out j hj (by omega))
   clear HX H6 H9 H0 hi4 Hd
   generalize xs[k]=y at*
   by_cases y0:0≤y∧y<m
   ·have HC:=YJ (HWi y true (by rw[qfV];omega) wr).out
    clear HWi
    go_wp2_with fail
    refine(HC.out).mono ?_
    rintro e w1 ⟨rfl,rfl⟩
    clear HC
    go_wp2
    go_roundw
    case rel=>exact⟨k+1,by omega,by go_num,hb,YJ (Hst.out y0)⟩
    simp[intOf];try omega
   ·have HC:=YJ (HWi y false (by rw[decide_eq_false_iff_not];omega) wr).out
    have hr:=HK.out (by omega)
    subst hr
    clear HWi
    go_wp2_with fail
    refine(HC.out).mono ?_
    rintro e w1 ⟨rfl,rfl⟩
    clear HC
    go_wp2
    go_ret
    exact⟨by trivial,hb⟩
  ·obtain rfl:k=n:=by omega
   have Hd2:Hid (∀j (h:j<xs.length),0≤xs[j]∧xs[j]<m):=YJ (fun j h=>Hd.out j h (by have:=HN.out;omega))
   have H9b:=fun k (h:k<xs.length) (h1:1≤k)=>YJ (H9 Hd2.out k h h1).out
   have H0b:=YJ (H0.out Hd2.out)
   clear H6 H9 H0 Hd Hd2
   go_wp2
   go_loopw [6] (fun x ww=>∃i:Nat,1≤i∧i≤k+1∧x= .int .i64 i∧Below W.heap.size W ww∧Hid (∀j (h:j<xs.length),j<i→1≤j→xs[j-1]'(by omega)<xs[j])) (fun x _=>k+1-(intOf x).toNat)
   case atStart=>exact⟨1,by omega,by omega,rfl,hb,YJ (fun j _ h h1=>by omega)⟩
   case round=>
    obtain⟨i,hi1,hik,rfl,hbw,Hd⟩:=hrel
    by_cases hin:i<k
    ·have g1:(i:Int)<(k:Int):=by omega
     have g2:(0:Int)≤(i:Int):=by omega
     have g3:(0:Int)≤(i:Int)-1:=by omega
     have hil:i<xs.length:=by have:=HN.out;omega
     obtain⟨b,off,rfl,hi4⟩:=HX.out (by omega)
     have e0:=ab hbw (hi4 i hil)
     have e1:=ab hbw (hi4 (i-1) (by omega))
     have ez:((i:Int)-1).toNat=i-1:=by omega
     have ez2:(i:Int)-1=((i-1:Nat):Int):=by omega
     have g5:i-1<k:=by omega
     have g6:(i:Int)-1<(k:Int):=by omega
     have ze:=qaC _ _ e0
     have bw2:=fun(u:Ext _)=>fB hbw u.below
     simp only at ze
     have HK:=YJ (H9b i hil hi1).out
     have Hst:Hid (xs[i-1]'(by omega)<xs[i]→∀j (h:j<xs.length),j<i+1→1≤j→xs[j-1]'(by omega)<xs[j]):=YJ (fun h j hj hji h1=>by
      by_cases e:j=i
      ·subst e;exact h
      ·exact Hd.out j hj (by omega) h1)
     clear HX H9b H0b hi4 Hd HWi q5
     generalize xs[i]=y at*
     generalize xs[i-1]'(by omega)=z at*
     by_cases hyz:y≤z
     ·have hr:=HK.out hyz
      subst hr
      go_wp2
      have q5:IntKind.i64.wrap ((i-1:Nat):Int)=((i-1:Nat):Int):=IntWalk.i64_in _ (by have:=HN.out;omega)
      refine px (C:=fun w'=>∃u:Ext _,w'=u.val) [] [0,1,2,3,4,5,6,7,8] 9 [] (by kernel_rfl) (by kernel_rfl) ⟨Ext.drew,rfl⟩ ?_
      simp only[oas]
      repeat(refine zd (fun K' hK'=> ?_);go_simp;refine hK' _ ?_;clear hK' K')
      refine lG ?_
      repeat(first|go_big_quiet_step (fail)|quiet_step (fail))
      refine wpQuiet_nil ?_
      rintro _ ⟨u,rfl⟩
      have hbu:=bw2 u
      iterate 1 (refine wpList_step (fun K hK=> ?_);go_simp;refine hK _ _ ?_;clear hK K)
      refine NoPanic.normal ?_
      go_wp2
      go_ret
      exact⟨by trivial,hbu⟩
     ·go_wp2
      have q5:IntKind.i64.wrap ((i-1:Nat):Int)=((i-1:Nat):Int):=IntWalk.i64_in _ (by have:=HN.out;omega)
      refine px (C:=fun w'=>∃u:Ext _,w'=u.val) [] [0,1,2,3,4,5,6,7,8] 9 [] (by kernel_rfl) (by kernel_rfl) ⟨Ext.drew,rfl⟩ ?_
      simp only[oas]
      repeat(refine zd (fun K' hK'=> ?_);go_simp;refine hK' _ ?_;clear hK' K')
      refine lG ?_
      repeat(first|go_big_quiet_step (fail)|quiet_step (fail))
      refine wpQuiet_nil ?_
      rintro _ ⟨u,rfl⟩
      have hbu:=bw2 u
      iterate 1 (refine wpList_step (fun K hK=> ?_);go_simp;refine hK _ _ ?_;clear hK K)
      refine NoPanic.normal ?_
      go_wp2
      go_roundw
      case rel=>exact⟨i+1,by omega,by omega,by go_num,hbu,YJ (Hst.out (by omega))⟩
      simp[intOf];try omega
    ·have g1:¬(i:Int)<(k:Int):=by omega
     have hr:=H0b.out (fun j h h1=>Hd.out j h (by have:=HN.out;omega) h1)
     subst hr
     go_wp2
     go_ret
     exact⟨by trivial,hbw⟩
def SplA (w:World) (b off:Nat) (s:Spl):Prop:=∃gv ov,w.cell? ⟨b,off,none⟩=some gv∧w.cell? ⟨b,off+1,none⟩=some ov∧w.cell? ⟨b,off+2,none⟩=some (.int .i64 s.2.2.1)∧w.cell? ⟨b,off+3,none⟩=some (.int .i64 s.2.2.2.1)∧w.cell? ⟨b,off+4,none⟩=some (.int .i64 s.2.2.2.2)∧Ints w gv s.1∧Ints w ov s.2.1
theorem SplA.below {w w':World} {b off:Nat} {s:Spl} (h:SplA w b off s) (hb:Below w.heap.size w w'):SplA w' b off s:=by
 obtain⟨gv,ov,h1,h2,h3,h4,h5,h6,h7⟩:=h
 exact⟨gv,ov,ab hb h1,ab hb h2,ab hb h3,ab hb h4,ab hb h5,h6.below hb,h7.below hb⟩
end
section
open Go.RowKit Go.Shelf Go.Lib
attribute [local go_sem] Ext.cell Ext.frozen
theorem nI_toNat {xs:List Int} (h:∀x∈xs,0≤x):nI (xs.map Int.toNat)=xs:=by
 induction xs with
 |nil=>rfl
 |cons a xs ih=>
  show((a.toNat:Nat):Int)::nI (xs.map Int.toNat)=_
  rw[ih (fun x hx=>h x (by simp[hx])),Int.toNat_of_nonneg (h a (by simp))]
end
end Go.Proofs.YtffbilcjhlncfaaGreatDoor
