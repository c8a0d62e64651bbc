/- texts: PLD PLE. -/
import Derived.ArgAppend
import Derived.BigQuiet
import Derived.ChangeKeysEq
import Derived.Deep.AppendLies
import Derived.Deep.DeepAppendRoom
import Derived.Deep.DeepAppendWide
import Derived.Deep.DeepCutAuto
import Derived.Deep.QuietTactic
import Derived.Deep.RegionHeld
import Derived.Deep.RegionHeld3
import Derived.Deep.RegionHeldLaw
import Derived.DeepKeys4
import Derived.Laws.AppendOwnNone
import Derived.Laws.StructEq
import Derived.Lib.AppendIntMem
import Derived.Lib.AppendZerosOnto
import Derived.Lib.Hide
import Derived.Lib.ItoaLen
import Derived.Lib.SliceRun
import Derived.Lib.SlicesCompact
import Derived.LoopIn
import Derived.LoopNIn
import Derived.Maps.AppendAt
import Derived.Maps.OwnSet
import Derived.OwnWalkIn
import Derived.RangeFuncBound
import Derived.RangeFuncBox
import Derived.RangeFuncCalls
import Derived.RangeFuncFrom
import Derived.RangeFuncLeaves
import Derived.RangeFuncNested
import Derived.RangeFuncWrites
import Derived.Shelf.Abstract
import Derived.Shelf.Lays8
import Derived.Shelf.LaysM
import Derived.Shelf.RegionOpen
import Derived.Shelf.Slices.Turned
import Derived.Shelf.Small.Bits
import Derived.Shelf.Small.Strs
import Derived.Shelf.Spec.TrailingZeros
import Derived.Shelf.Strconv.Itoa0
import Derived.Shelf.Strconv.Itoa1
import Derived.Shelf.Strconv.Itoa2
import Derived.Shelf.Strconv.Itoa3
import Derived.Shelf.Strings.Builder1
import Derived.Shelf.Strings.Builder2
import Derived.Shelf.Strings.Builder2Cap
import Derived.Shelf.Strings.BuilderCap
import Derived.Shelf.Strings.BuilderF
import Derived.Shelf.Strings.BuilderK
import Derived.Shelf.Strings.Count
import Derived.Shelf.Strings.OnBuilder
import Derived.Shelf.Strings.Search1
import Derived.Shelf.Strings.Search2
import Derived.Shelf.Strings.Search3
import Derived.Shelf.Strings.Shaped
import Derived.Shelf.Unicode.DecodeSlow
import Derived.Sort.Grow
import Derived.StillTail
import Derived.TacticsInMore
import Derived.WalkKit
import Derived.WalkLawsBesides
import Derived.WalkSpells
import Derived.WideKeyEntry
import Derived.Test.YtffbilcjhlncfaaGreatDoorProg
import Derived.Test.YtffbilcjhlncfaaGreatDoorRows
import Derived.Test.YtffbilcjhlncfaaGreatDoorSort
import Derived.Test.YtffbilcjhlncfaaGreatDoorDQS1
import Derived.Test.YtffbilcjhlncfaaGreatDoorDQS2
import Derived.Test.YtffbilcjhlncfaaGreatDoorDQS4
import Derived.Test.YtffbilcjhlncfaaGreatDoorDQS7
import Derived.Test.YtffbilcjhlncfaaGreatDoorDQS9
import Derived.Test.YtffbilcjhlncfaaGreatDoorDQS10
import Derived.Test.YtffbilcjhlncfaaGreatDoorDQS12
import Derived.Test.YtffbilcjhlncfaaGreatDoorDQS14
import Derived.Test.YtffbilcjhlncfaaGreatDoorDQS16
import Derived.Test.YtffbilcjhlncfaaGreatDoorDQS17
import Derived.Test.YtffbilcjhlncfaaGreatDoorDQS18
import Derived.Test.YtffbilcjhlncfaaGreatDoorDQS19
import Derived.Test.YtffbilcjhlncfaaGreatDoorDQS20
import Derived.Test.YtffbilcjhlncfaaGreatDoorDQS22
import Derived.Test.YtffbilcjhlncfaaGreatDoorDQS23
import Derived.Test.YtffbilcjhlncfaaGreatDoorDQS26
import Derived.Test.YtffbilcjhlncfaaGreatDoorDQS29
import Derived.Test.YtffbilcjhlncfaaGreatDoorDQS30
import Derived.Test.YtffbilcjhlncfaaGreatDoorDQS31
import Derived.Test.YtffbilcjhlncfaaGreatDoorDQS32
import Derived.Test.YtffbilcjhlncfaaGreatDoorDQS34
import Derived.Test.YtffbilcjhlncfaaGreatDoorDQS36
import Derived.Test.YtffbilcjhlncfaaGreatDoorPQS3
namespace Go.Proofs.YtffbilcjhlncfaaGreatDoor
set_option maxHeartbeats 8000000
set_option linter.all false
section
open Go.RowKit Go.Shelf Go.Lib
set_option maxRecDepth 100000
attribute [local go_sem] Ext.cell Ext.frozen
theorem At_any (l:List (List (List Q4))) (lv:Value) (xs:List Int) (ov:Value) (x y z:Int) (W:World) (hL:∀s∈l,∀c∈s,c.length≤1000000) (hx20:xs.length≤20) (h:SolsV W lv l) (ho:Ints W ov xs):
  Calls Tryz.prog 16 #[lv,ov,V3 x y z] W (Ret W (.tuple #[.bool (atA l xs (x,y,z)).1, .int .i64 (atA l xs (x,y,z)).2])):=by
 obtain⟨i1,Hi1⟩:=qfT info_solid
 have HCk:=fun W' (hb:Below W.heap.size W W')=>YJ (Gd l lv W' hL (SolsV.below h hb))
 have HSt:=fun W' (hb:Below W.heap.size W W')=>YJ (En xs ov l.length W' (by omega) (ho.below hb))
 have HA1:Hid (eB l≠0→atA l xs (x,y,z)=(false,eB l)):=YJ (fun h=>by unfold atA;rw[if_pos h])
 have HA2:Hid (eB l=0→gh xs l.length≠0→atA l xs (x,y,z)=(false,gh xs l.length)):=YJ (fun h k=>by unfold atA;rw[if_neg (by simpa using h),if_pos k])
 have HA3:Hid (eB l=0→gh xs l.length=0→atA l xs (x,y,z)=if fitA l (x,y,z) (xs.map Int.toNat)then(!hitA l (x,y,z) (xs.map Int.toNat),0)else(false,2)):=YJ (fun h k=>by unfold atA;rw[if_neg (by simpa using h),if_neg (by simpa using k)])
 have Hok:=YJ (fun(h:eB l=0)=>sq h)
 have Hso:=YJ (fun(h:gh xs l.length=0)=>DO h)
 have HOV:=YJ ho
 have HSV:=YJ h
 obtain⟨V,HV⟩:∃V,Hid (W.alloc (.cells #[.int .i64 x, .int .i64 y, .int .i64 z] 37)=V):=⟨_,YJ rfl⟩
 have hV:Below W.heap.size W V:=by rw[←HV.out];exact bel
 have zV:V.heap.size=W.heap.size+1:=by rw[←HV.out];simp
 have BY:Hid (V.heap[W.heap.size]? =some (.cells #[.int .i64 x, .int .i64 y, .int .i64 z] 37 (0,0))):=YJ (by rw[←HV.out];exact ai rfl)
 obtain⟨la,ln,lc,rfl,hln, -, -⟩:=id h
 obtain⟨oa,on,oc,rfl,hon, -, -⟩:=id ho
 have HLn:=YJ hln
 have HOn:=YJ hon
 have hon20:on≤20:=by omega
 rw[hln]at HA2 HA3 Hso HSt
 clear h ho hL hx20 hln hon
 generalize hae:eB l=ae at*
 generalize hse:gh xs ln=se at*
 generalize hat:atA l xs (x,y,z)=aA at*
 clear hae hse hat
 obtain⟨B1,HB1⟩:∃B1,Hid (aA.1=B1):=⟨_,YJ rfl⟩
 obtain⟨D1,HD1⟩:∃D1,Hid (aA.2=D1):=⟨_,YJ rfl⟩
 rw[HB1.out,HD1.out]
 go_enter Tryz.func16,Tryz.ntmps16
 go_wp2_with fail
 try rw[HV.out]
 refine((HCk _ hV).out).mono ?_
 rintro e w1 ⟨rfl,hb1⟩
 have hw1:=fB hV hb1
 have HY1:=YJ ((hb1.block _ (ah BY.out)).trans BY.out)
 have z1:W.heap.size+1≤w1.heap.size:=by have:=hb1.size;omega
 clear HCk BY HV hV zV hb1
 by_cases ha0:ae=0
 rotate_left
 ·have hd:=HA1.out ha0
  have ha0':(ae !=0)=true:=by simpa using ha0
  have hb1:=HB1.out
  have hd1:=HD1.out
  subst hd
  simp only at hb1 hd1
  subst hb1
  subst hd1
  clear HA1 HA2 HA3 Hok Hso HSt
  go_wp2
  refine bodyPost_ret (v:= .tuple #[.bool false, .int .i64 ae]) (by simp[results,Tryz.results16,go_sem]) rfl ⟨by trivial,hw1⟩
 subst ha0
 replace HA2:=YJ (HA2.out rfl)
 replace HA3:=YJ (HA3.out rfl)
 have h12:=(Hok.out rfl).1
 have HSo:=YJ (Hok.out rfl).2
 clear HA1 Hok
 go_wp2_with fail
 refine((HSt _ hw1).out).mono ?_
 rintro e w2 ⟨rfl,hb2⟩
 have hw2:=fB hw1 hb2
 have HY2:=YJ ((hb2.block _ (ah HY1.out)).trans HY1.out)
 have z2:W.heap.size+1≤w2.heap.size:=by have:=hb2.size;omega
 clear HSt HY1 hb2
 by_cases hs0:se=0
 rotate_left
 ·have hd:=HA2.out hs0
  have hs0':(se !=0)=true:=by simpa using hs0
  have hb1:=HB1.out
  have hd1:=HD1.out
  subst hd
  simp only at hb1 hd1
  subst hb1
  subst hd1
  clear HA2 HA3 Hso
  go_wp2
  refine bodyPost_ret (v:= .tuple #[.bool false, .int .i64 se]) (by simp[results,Tryz.results16,go_sem]) rfl ⟨by trivial,hw2⟩
 subst hs0
 have HA4:=YJ (HA3.out rfl)
 have hso:=Hso.out rfl
 have hnx:nI (xs.map Int.toNat)=xs:=nI_toNat (fun y hy=>(hso y hy).1)
 have hvx:∀n∈xs.map Int.toNat,n<l.length:=fun n hn=>by
  obtain⟨y,hy,rfl⟩:=altt.1 hn
  have:=hso y hy
  have:=HLn.out
  omega
 have hnl:(xs.map Int.toNat).length=on:=by rw[qdo];exact HOn.out
 have ho2:NatV W (.slice oa on oc) (xs.map Int.toNat):=by
  show Ints W _ (nI (xs.map Int.toNat))
  rw[hnx]
  exact HOV.out
 have HCn:=fun(k:Nat) W' (hb:Below W.heap.size W W')=>YJ (show Calls Tryz.prog 54 #[.slice oa on oc, .int .i64 k] W' (fun e w'=>e= .returned (.bool ((xs.map Int.toNat).contains k))∧w'=W')from by
  have h1:=Contains_any (.slice oa on oc) (nI (xs.map Int.toNat)) k W' (by rw[nI_len];omega) (ho2.below hb)
  rw[nI_has]at h1
  exact h1)
 have HB0:Hid (fitA l (x,y,z) (xs.map Int.toNat)=false→B1=false∧D1=2):=YJ (fun h=>by
  have e:=HA4.out
  rw[h,if_neg (by decide)]at e
  rw[←HB1.out, ←HD1.out,e]
  exact⟨rfl,rfl⟩)
 have HB2:Hid (fitA l (x,y,z) (xs.map Int.toNat)=true→B1=(!hitA l (x,y,z) (xs.map Int.toNat))∧D1=0):=YJ (fun h=>by
  have e:=HA4.out
  rw[h,if_pos rfl]at e
  rw[←HB1.out, ←HD1.out,e]
  exact⟨rfl,rfl⟩)
 clear HA4 HB1 HD1
 generalize xs.map Int.toNat=ns at*
 clear HA2 HA3 Hso hso hnx HOV HOn
 have hs:=HSo.out
 have HMv:=fun s v W' (h0:Tv s=0) (h:SolV W' v s)=>YJ (sMove_any s v x y z W' h0 h)
 have HSe:=fun k (h:k<l.length)=>YJ (hs _ (qaB h))
 have HVx:=fun k (h:k<ns.length)=>YJ (hvx _ (qaB h))
 have HNo:=fun k (h:k<ns.length) h2=>YJ (@fitA_no l (x,y,z) ns k h h2)
 have HYes:=YJ (@fitA_yes l (x,y,z) ns (fun k h=>hvx _ (qaB h)))
 have HSu:=fun k (h:k<ns.length) h2=>YJ (@outL_succ l (x,y,z) ns k h h2)
 have HHy:=fun i k (hi:i<(outL l (x,y,z) ns).length) (hk:k<l.length)=>YJ (@hitA_yes l (x,y,z) ns i k hi hk)
 have HHn:=YJ (@hitA_no l (x,y,z) ns)
 have HOr:=YJ (fun(hf:fitA l (x,y,z) ns=true)=>outL_right hs hf)
 have HOh:=YJ (outL_hundred (b:=(x,y,z)) (xs:=ns) hs)
 have HOl:Hid ((outL l (x,y,z) ns).length=ns.length):=YJ (outL_len _ _ _)
 have Hon:=YJ hnl
 have HN:=HLn
 obtain⟨_,_,_,eo, -,hox⟩:=ho2.at
 cases eo
 have HX:=YJ hox
 obtain⟨_,_,_,el, -, -,hlx⟩:=HSV.out
 cases el
 have HL:=YJ hlx
 have hln12:ln≤12:=by have:=HN.out;omega
 obtain⟨FA,HFA⟩:∃FA,Hid (fitA l (x,y,z) ns=FA):=⟨_,YJ rfl⟩
 obtain⟨HR,HHR⟩:∃HR,Hid (hitA l (x,y,z) ns=HR):=⟨_,YJ rfl⟩
 rw[HFA.out]at HNo HYes HOr HB0 HB2
 rw[HHR.out]at HHy HHn HB2
 clear HSo hs hvx hnl ho2 hox hlx HSV HLn h12 hw1 z1
 generalize outL l (x,y,z) ns=Ls at*
 generalize hBV:(x,y,z)=BV at*
 have HBV:=YJ hBV
 clear hBV HFA HHR
 go_wp2
 go_loopw [10,36] (fun s i wr=>∃k:Nat,k≤on∧i= .int .i64 k∧Below W.heap.size W wr∧W.heap.size+1≤wr.heap.size∧Hid (wr.heap[W.heap.size]? =some (.cells #[.int .i64 x, .int .i64 y, .int .i64 z] 37 (0,0)))∧(∃vs,Hid (wr.ownsRow (W.heap.size+1) 75 1 s k vs)∧Hid (SolsR (W.heap.size+1) wr vs (Ls.take k)))∧Hid (∀j (h:j<ns.length) (h2:ns[j]<l.length),j<k→fitS BV l[ns[j]]=true)) (fun _ i _=>on-(intOf i).toNat)
 case atStart=>exact⟨0,by omega,rfl,hw2,z2,HY2,⟨[],YJ (qds _ _ _ _),YJ ⟨rfl,fun i h=>by simp at h⟩⟩,YJ (fun j _ _ h=>by omega)⟩
 case round=>
  clear HY2 hw2 z2
  obtain⟨k,hk,rfl,hb,zr,HY,⟨vs,HO,HSr⟩,HFt⟩:=hrel
  obtain⟨ra,rc,rfl⟩:=aT HO.out
  by_cases hlt:k<on
  ·have g1:(k:Int)<(on:Int):=by omega
   have g2:(0:Int)≤(k:Int):=by omega
   have hkx:k<ns.length:=by have:=Hon.out;omega
   have hpl:=(HVx k hkx).out
   have hpn:ns[k]<ln:=by have:=HN.out;omega
   obtain⟨ob,ooff,rfl,hoi⟩:=HX.out (by omega)
   have e0:=ab hb (hoi k hkx)
   obtain⟨lb,loff,rfl,hli⟩:=HL.out (by omega)
   obtain⟨su,f0,hsu⟩:=hli ns[k] hpl
   have f0:=ab hb f0
   have HM:=fun W' (hb':Below wr.heap.size wr W')=>YJ (HMv l[ns[k]] su W' (HSe ns[k] hpl).out ((SolV.below hsu hb).below hb')).out
   have HNk:=YJ (HNo k hkx hpl).out
   have HSk:=YJ (HSu k hkx hpl).out
   have HFn:Hid (fitS BV l[ns[k]]=true→∀j (h:j<ns.length) (h2:ns[j]<l.length),j<k+1→fitS BV l[ns[j]]=true):=YJ (fun h j hj hj2 hk'=>by
    by_cases e:j=k
    ·subst e;exact h
    ·exact HFt.out j hj hj2 (by omega))
   obtain⟨sa,sn,sc,rfl, -⟩:=hsu
   try rw[HBV.out]at HM
   clear hoi hli HX HL HMv HNo HYes HSu HHy HHn HOr HOh HFt HCn HVx HSe
   generalize hq0:ns[k]=p at*
   clear hq0
   have g5:(p:Int)<(ln:Int):=by omega
   have g6:(0:Int)≤(p:Int):=by omega
   generalize fitS BV l[p]=fs at*
   generalize l[p].map (movC BV)=ms at*
   obtain⟨y0,y1,y2,yf,yz⟩:=NO HY.out
   have ze:=qaC wr _ e0
   have zf:=qaC wr _ f0
   simp only at ze zf
   go_wp2
   go_cut [13,14] (fun s10 s11 wx=>s11= .int .i64 (mvE fs)∧∃g a n c,s10= .pointer (some ⟨g,0,none⟩)∧Below wr.heap.size wr wx∧wx.heap[g]? =some (.cells #[.slice a n c] 75 (0,0))∧wr.heap.size≤g∧(fs=true→SolO wr.heap.size wx (.slice a n c) ms))
   case first=>
    go_region_held (fun w'=>w'.cell? ⟨lb,loff+p,none⟩=some (.slice sa sn sc)∧w'.cell? ⟨W.heap.size,0,none⟩=some (.int .i64 x)∧w'.cell? ⟨W.heap.size,1,none⟩=some (.int .i64 y)∧w'.cell? ⟨W.heap.size,2,none⟩=some (.int .i64 z)∧Below wr.heap.size wr w') (exact⟨ab bel f0,ab bel y0,ab bel y1,ab bel y2,bel⟩) ((go_at_call 53;refine((HM _ bel).out).mono ?_;rintro e w2 ⟨a9,n9,c9,rfl,hb2,hs2⟩;(try(have hq:=(hb2.block wr.heap.size (by simp)).trans (ai (by simp));obtain⟨q0,qf,qz⟩:=blk1 hq;have HQb:=YJ hq;clear hq));replace hs2:fs=true→SolO wr.heap.size w2 (.slice a9 n9 c9) ms:=fun h=>(hs2 h).mono (by first|exact qaA _|(simp;done)|(simp;omega));replace hb2:Below wr.heap.size wr w2:=fB bel hb2;have zz2:=hb2.size))
    all_goals (go_wp2_with fail;go_meet;refine⟨rfl, ?_⟩;first|exact⟨_,_,_,_,rfl,bel,ai rfl,by omega,fun h=>(hs2 h).below bel⟩|exact⟨_,a9,n9,c9,rfl,bel,Tu HQb.out 0 _,qaA _,fun h=>(hs2 h).setS HQb.out (by decide) (by decide)⟩)
   case rest=>
    rename World=>w3
    obtain⟨rfl,g,a9,n9,c9,rfl,hb3,hg3,hgg,hs3⟩:=hcut
    have hw3:=fB hb hb3
    clear HM e0 f0 ze zf y0 y1 y2 yf yz
    cases fs with
    |false=>
     obtain⟨hbb,hdd⟩:=HB0.out (HNk.out rfl)
     subst hbb
     subst hdd
     have h2:mvE false=2:=rfl
     clear HNk HSk HFn
     go_wp2
     refine bodyPost_ret (v:= .tuple #[.bool false, .int .i64 2]) (by simp[results,Tryz.results16,go_sem]) rfl ⟨by trivial,hw3⟩
    |true=>
     have HFz:=YJ (HFn.out rfl)
     have HS1:=YJ (hs3 rfl)
     have HO1:=YJ (au HO.out hb3)
     have HR1:Hid (SolsR (W.heap.size+1) w3 vs (Ls.take k)):=YJ ⟨HSr.out.1,fun i h1 h2=>(HSr.out.2 i h1 h2).below hb3⟩
     have HY3:=YJ ((hb3.block _ (ah HY.out)).trans HY.out)
     have d0:w3.cell? ⟨g,0,none⟩=some (.slice a9 n9 c9):=(bq hg3 0).trans rfl
     have dz:=ah hg3
     have zx1:=hb3.size
     have hbx:Below w3.heap.size w3 (w3.alloc (.cells #[.slice a9 n9 c9] 75)):=bel
     have HOx:=YJ (au HO1.out hbx)
     have HNx:Hid ((w3.alloc (.cells #[.slice a9 n9 c9] 75)).heap[w3.heap.size]? =some (.cells #[.slice a9 n9 c9] 75 (0,0))):=YJ (ai rfl)
     have HRx:Hid (SolsR (W.heap.size+1) (w3.alloc (.cells #[.slice a9 n9 c9] 75)) (vs++[.slice a9 n9 c9]) (Ls.take k++[ms])):=YJ (SolsR.snoc ⟨HR1.out.1,fun i h1 h2=>(HR1.out.2 i h1 h2).below hbx⟩ ((HS1.out.mono (by omega)).below hbx))
     have HYx:=YJ ((hbx.block _ (ah HY3.out)).trans HY3.out)
     rw[←HSk.out]at HRx
     clear HO1 HR1 HS1 HY3 hs3 HSk HNk HFn HO HSr HY hg3
     go_wp2_with (at_builtin;refine fq _ rfl _ _ 22 rfl (W.heap.size+1) 75 i1 (.agg #[.slice none 0 0]) 1 24 und_solids Hi1.out.1 Hi1.out.2.1 Hi1.out.2.2.1 Hi1.out.2.2.2 rfl (by decide) _ k vs rfl HOx.out ⟨w3.heap.size,0,none⟩ 1 1 [.slice a9 n9 c9] rfl rfl ?c1 ?c2 ?c3 ?c4 ?c5 ?_)
     case c1=>
      intro j u hu
      rw[jY,bq HNx.out]
      simpa using hu
     case c2=>
      intro u hu
      simp at hu
      subst hu
      rfl
     case c3=>unfold maxLen;omega
     case c4=>omega
     case c5=>simp;omega
     intro v' w4 hown4 hg4 _
     have hb4:Below W.heap.size W w4:=(fB hw3 hbx).grown hg4 (by simp;omega) (fun z hz=>by have:=(HOx.out.lt z hz).1;omega)
     have z4:W.heap.size+1≤w4.heap.size:=by have:=hg4.size;simp at this;omega
     have HR4:Hid (SolsR (W.heap.size+1) w4 (vs++[.slice a9 n9 c9]) (Ls.take (k+1))):=YJ ⟨HRx.out.1,fun i h1 h2=>(HRx.out.2 i h1 h2).kept hg4 (fun g cs h1 h2=>jC HOx.out g cs h1 h2)⟩
     have HY4:=YJ ((hg4.block _ (ah HYx.out) (fun e=>aG HOx.out HYx.out (by decide) e.symm)).trans HYx.out)
     have HO4:=YJ hown4
     clear hown4 hg4 HOx HNx HRx hbx HYx d0 dz
     go_wp2
     go_roundw
     case rel=>exact⟨k+1,by omega,by go_num,hb4,z4,HY4,⟨_,HO4,HR4⟩,HFz⟩
     simp[intOf];try omega
  ·obtain rfl:k=on:=by omega
   have hfa:=HYes.out (fun j h h2=>HFt.out j h h2 (by have:=Hon.out;omega))
   subst hfa
   obtain⟨hbb,hdd⟩:=HB2.out rfl
   subst hdd
   have HRt:=HSr
   rw[qaK (by have:=HOl.out;have:=Hon.out;omega)]at HRt
   have HMs:=YJ (solsv_own HO.out (by have:=HOl.out;have:=Hon.out;omega) HRt.out)
   have HOr':=YJ (HOr.out rfl)
   clear HSr HRt HO HFt HYes HNo HSu HMv HOr HVx HX HY
   obtain⟨ma,mn,mc,emv,hmn, -,hmx⟩:=HMs.out
   cases emv
   have HMx:=YJ hmx
   clear HMs hmx
   obtain⟨w5,rfl⟩:∃w5:World,w5=wr:=⟨_,rfl⟩
   go_wp2
   go_loopw [59] (fun i wr=>∃j:Nat,j≤ln∧i= .int .i64 j∧Below w5.heap.size w5 wr∧Hid (∀m (h1:m<l.length),m<j→ns.contains m=false→∀q (h2:q<Ls.length),cy Ls[q] l[m]=false)) (fun i _=>ln-(intOf i).toNat)
   case atStart=>exact⟨0,by omega,rfl,brf,YJ (fun m _ h=>by omega)⟩
   case round=>
    obtain⟨j,hj,rfl,hbj,Hdj⟩:=hrel
    have hwj:=fB hb hbj
    by_cases hjk:j<ln
    ·have g1:(j:Int)<(ln:Int):=by omega
     have g2:(0:Int)≤(j:Int):=by omega
     have hjl:j<l.length:=by have:=HN.out;omega
     obtain⟨lb,loff,rfl,hli⟩:=HL.out (by omega)
     obtain⟨tu,t0,htu⟩:=hli j hjl
     have t0:=ab hwj t0
     have zt:=qaC wr _ t0
     simp only at zt
     have HTu:=YJ (SolV.below htu hwj)
     have HSj:=YJ (HSe j hjl).out
     have HCj:=YJ (HCn j (wr.alloc (.cells #[tu] 75)) (fB hwj bel)).out
     have HHyj:=fun q h2=>YJ (HHy q j h2 hjl).out
     have Hst:Hid ((ns.contains j=false→∀q (h2:q<Ls.length),cy Ls[q] l[j]=false)→∀m (h1:m<l.length),m<j+1→ns.contains m=false→∀q (h2:q<Ls.length),cy Ls[q] l[m]=false):=YJ (fun h m h1 hm hc q h2=>by
      by_cases e:m=j
      ·subst e;exact h hc q h2
      ·exact Hdj.out m h1 (by omega) hc q h2)
     obtain⟨ta,tn,tc,rfl, -⟩:=htu
     clear hli HL HHy HHn Hdj HSe HCn
     generalize hcn:ns.contains j=cn at HCj HHyj Hst
     clear hcn
     go_wp2_with fail
     refine(HCj.out).mono ?_
     rintro e w6 ⟨rfl,rfl⟩
     clear HCj t0 zt
     cases cn with
     |true=>
      have HF:=YJ (Hst.out (fun h=>by cases h))
      clear Hst HHyj HMx HOr' HOh HTu HSj
      go_wp2
      go_roundw
      case rel=>exact⟨j+1,by omega,by go_num,fB hbj bel,HF⟩
      simp[intOf];try omega
     |false=>
      replace Hst:=YJ (fun h=>Hst.out (fun _=>h))
      obtain⟨wq,HWq⟩:∃wq,Hid (wr.alloc (.cells #[.slice ta tn tc] 75)=wq):=⟨_,YJ rfl⟩
      have hbq0:Below wr.heap.size wr wq:=by rw[←HWq.out];exact bel
      have HBq:Hid (wq.heap[wr.heap.size]? =some (.cells #[.slice ta tn tc] 75 (0,0))):=YJ (by rw[←HWq.out];exact ai rfl)
      obtain⟨sB,HsB⟩:∃sB,Hid (wr.heap.size=sB):=⟨_,YJ rfl⟩
      have hbq1:=fB hbj hbq0
      have HTq:=YJ (SolV.below HTu.out hbq0)
      rw[HsB.out]at HBq ⊢
      rw[HWq.out]
      have hwq:=fB hb hbq1
      clear HWq hbq0 hbj hwj HsB HTu
      clear wr
      go_wp2
      go_loopw [69] (fun i wr=>∃m:Nat,m≤k∧i= .int .i64 m∧Below wq.heap.size wq wr∧Hid (wr.heap[sB]? =some (.cells #[.slice ta tn tc] 75 (0,0)))∧Hid (∀q (h2:q<Ls.length),q<m→cy Ls[q] l[j]=false)) (fun i _=>k-(intOf i).toNat)
      case atStart=>exact⟨0,by omega,rfl,brf,HBq,YJ (fun q _ h=>by omega)⟩
      case round=>
       obtain⟨m,hm,rfl,hbm,HB,Hdm⟩:=hrel
       have hwm:=fB hwq hbm
       by_cases hmk:m<k
       ·have g3:(m:Int)<(k:Int):=by omega
        have g4:(0:Int)≤(m:Int):=by omega
        have hmL:m<Ls.length:=by have:=HOl.out;have:=Hon.out;omega
        obtain⟨mb,moff,rfl,hmi⟩:=HMx.out (by omega)
        obtain⟨mu,e0,hmu⟩:=hmi m hmL
        have e0:=ab (hbq1.trans (hbm.mono hbq1.size)) e0
        have ze:=qaC wr _ e0
        simp only at ze
        have HMu:=YJ (SolV.below hmu (hbq1.trans (hbm.mono hbq1.size)))
        have HTm:=YJ (SolV.below HTq.out hbm)
        have hcm:=HOr'.out _ (qaB hmL)
        have hhm:=HOh.out _ (qaB hmL)
        have hce:kw Ls[m] l[j]=0:=by
         unfold kw
         rw[if_pos (JA (by omega) (fun i hi=>hcm _ (qaB hi)))]
         exact HSj.out
        have HC:=fun W' (hb:Below wr.heap.size wr W')=>YJ (show Calls Tryz.prog 55 #[.agg #[mu], .agg #[.slice ta tn tc]] W' (ClP (cy Ls[m] l[j]) 0 W')from by
         have:=EZ Ls[m] l[j] mu (.slice ta tn tc) W' (fun c hc=>qaD (Dl (hcm c hc)).2.2 (by decide)) (fun c hc=>qaD (Dl ((xb HSj.out).2 c hc)).2.2 (by decide)) (SolV.below HMu.out hb) (SolV.below HTm.out hb)
         rw[hce]at this
         simpa using this)
        have HHm:=YJ (HHyj m hmL).out
        have Hsm:Hid (cy Ls[m] l[j]=false→∀q (h2:q<Ls.length),q<m+1→cy Ls[q] l[j]=false):=YJ (fun h q h2 hq=>by
         by_cases e:q=m
         ·subst e;exact h
         ·exact Hdm.out q h2 (by omega))
        obtain⟨ua,un,uc,rfl, -⟩:=hmu
        have b0:wr.cell? ⟨sB,0,none⟩=some (.slice ta tn tc):=(bq HB.out 0).trans rfl
        have bz:=ah HB.out
        clear hmi HMx hcm hhm hce HHyj Hst Hdm HMu HTm HTq HOr' HOh HSj
        unfold ClP at HC
        generalize cy Ls[m] l[j]=cl at*
        go_wp2_with fail
        refine((HC _ bel).out).mono ?_
        rintro e w7 ⟨hb7,oi,ok,oa2,on2,oc2,rfl⟩
        have hb8:Below wr.heap.size wr w7:=fB bel hb7
        have HB7:=YJ ((hb8.block _ (ah HB.out)).trans HB.out)
        clear HC e0 ze b0 bz hb7
        cases cl with
        |true=>
         have hr:=HHm.out (by trivial) (by trivial)
         subst hr
         subst hbb
         have hw8:=fB hwm hb8
         clear Hsm HHm
         go_wp2
         refine bodyPost_ret (v:= .tuple #[.bool false, .int .i64 0]) (by simp[results,Tryz.results16,go_sem]) rfl ⟨by trivial,(fB hw8 bel)⟩
        |false=>
         have HF:=YJ (Hsm.out rfl)
         clear Hsm HHm
         go_wp2
         go_roundw
         case rel=>exact⟨m+1,by omega,by go_num,fB (fB hbm hb8) bel,YJ ((aB (ah HB7.out)).trans HB7.out),HF⟩
         simp[intOf];try omega
       ·obtain rfl:m=k:=by omega
        have HF:=YJ (Hst.out (fun q h2=>Hdm.out q h2 (by have:=HOl.out;have:=Hon.out;omega)))
        have hbjm:=fB hbq1 hbm
        clear Hst HMx HHyj HOr' HOh HTq HSj
        go_wp2
        go_roundw
        case rel=>exact⟨j+1,by omega,by go_num,hbjm,HF⟩
        simp[intOf];try omega
    ·obtain rfl:j=ln:=by omega
     have hr:=HHn.out (fun m h1 hc q h2=>Hdj.out m h1 (by have:=HN.out;omega) hc q h2)
     subst hr
     subst hbb
     clear HMx HHy HHn Hdj HL HSe HCn HOr' HOh
     go_wp2
     refine bodyPost_ret (v:= .tuple #[.bool true, .int .i64 0]) (by simp[results,Tryz.results16,go_sem]) rfl ⟨by trivial,hwj⟩
end
section
open Go.RowKit Go.Shelf Go.Lib
set_option maxRecDepth 100000
attribute [local go_sem] Ext.cell Ext.frozen
theorem rAt_any (l:List (List (List Q4))) (lv:Value) (xs:List Nat) (ov:Value) (x y z:Int) (W:World) (h12:l.length≤12) (hs:∀s∈l,Tv s=0) (hx20:xs.length≤20) (hv:∀n∈xs,n<l.length) (h:SolsV W lv l) (ho:NatV W ov xs):
  Calls Tryz.prog 19 #[lv,ov,V3 x y z] W (Ret W (.tuple #[.bool (fitA l (x,y,z) xs&& !hitR l (x,y,z) xs), .int .i64 (mvE (fitA l (x,y,z) xs))])):=by
 obtain⟨i1,Hi1⟩:=qfT info_solid
 have HMv:=fun s v W' (h0:Tv s=0) (h:SolV W' v s)=>YJ (rMoveW_any s v x y z W' (qaD (xb h0).1 (by decide)) (fun c hc=>Dl ((xb h0).2 c hc)) h)
 have HSe:=fun k (h:k<l.length)=>YJ (hs _ (qaB h))
 have HVx:=fun k (h:k<xs.length)=>YJ (hv _ (qaB h))
 have HNo:=fun k (h:k<xs.length) h2=>YJ (@fitA_no l (x,y,z) xs k h h2)
 have HYes:=YJ (@fitA_yes l (x,y,z) xs (fun k h=>hv _ (qaB h)))
 have HSu:=fun k (h:k<xs.length) h2=>YJ (@outL_succ l (x,y,z) xs k h h2)
 have HWo:=fun v W' (k1:Ints W' v (nI (List.range l.length))) (k2:NatV W' ov xs)=>YJ (without_any v ov _ _ W' (by rw[nI_len,qdA];omega) (by rw[nI_len];omega) k1 k2)
 have HHy:=fun i k (hi:i<(outL l (x,y,z) xs).length) (hk:k<(restR l.length xs).length) h2=>YJ (@hitR_yes l (x,y,z) xs i k hi hk h2)
 have HHn:=YJ (@hitR_no l (x,y,z) xs)
 have HOr:=YJ (fun(hf:fitA l (x,y,z) xs=true)=>outL_right hs hf)
 have HOh:=YJ (outL_hundred (b:=(x,y,z)) (xs:=xs) hs)
 have HOl:Hid ((outL l (x,y,z) xs).length=xs.length):=YJ (outL_len _ _ _)
 have HRl:=fun k (h:k<(restR l.length xs).length)=>YJ (restR_lt _ (qaB h))
 have HRn:Hid ((restR l.length xs).length≤1000):=YJ (by
  unfold restR
  refine qaD (qdz _ _) ?_
  rw[qdA]
  omega)
 have HWr:Hid (wout (nI (List.range l.length)) (nI xs)=nI (restR l.length xs)):=YJ (nI_filter _ _)
 have HOV:=YJ ho
 have HSV:=YJ h
 obtain⟨la,ln,lc,rfl,hln, -,hlx⟩:=h
 obtain⟨oa,on,oc,rfl,hon,hox⟩:=ho.at
 have HL:=YJ hlx
 have HN:=YJ hln
 have HX:=YJ hox
 have Hon:=YJ hon
 have hon20:on≤20:=by omega
 have hln12:ln≤12:=by omega
 have HAl:=fun W'=>YJ (show Calls Tryz.prog 15 #[.int .i64 ln] W' (RetI (nI (List.range l.length)) W')from by
  have h1:=rAll_any l.length W' (by omega)
  rw[hln]at h1 ⊢
  exact h1)
 clear hlx hln hox hon ho hs hv h12 hx20
 obtain⟨FA,HFA⟩:∃FA,Hid (fitA l (x,y,z) xs=FA):=⟨_,YJ rfl⟩
 obtain⟨HR,HHR⟩:∃HR,Hid (hitR l (x,y,z) xs=HR):=⟨_,YJ rfl⟩
 rw[HFA.out]at HNo HYes HOr ⊢
 rw[HHR.out]at HHy HHn ⊢
 obtain⟨BB,HBB⟩:∃BB,Hid ((FA&& !HR)=BB):=⟨_,YJ rfl⟩
 obtain⟨DD,HDD⟩:∃DD,Hid (mvE FA=DD):=⟨_,YJ rfl⟩
 rw[HBB.out,HDD.out]
 obtain⟨V,HV⟩:∃V,Hid (W.alloc (.cells #[.int .i64 x, .int .i64 y, .int .i64 z] 37)=V):=⟨_,YJ rfl⟩
 have hV:Below W.heap.size W V:=by rw[←HV.out];exact bel
 have zV:V.heap.size=W.heap.size+1:=by rw[←HV.out];simp
 have BY:Hid (V.heap[W.heap.size]? =some (.cells #[.int .i64 x, .int .i64 y, .int .i64 z] 37 (0,0))):=YJ (by rw[←HV.out];exact ai rfl)
 generalize outL l (x,y,z) xs=Ls at*
 generalize restR l.length xs=Rs at*
 generalize hBV:(x,y,z)=BV at*
 have HBV:=YJ hBV
 clear hBV HFA HHR
 go_enter Tryz.func19,Tryz.ntmps19
 go_wp2
 try rw[HV.out]
 go_loopw [8,9] (fun s i wr=>∃k:Nat,k≤on∧i= .int .i64 k∧Below W.heap.size W wr∧W.heap.size+1≤wr.heap.size∧Hid (wr.heap[W.heap.size]? =some (.cells #[.int .i64 x, .int .i64 y, .int .i64 z] 37 (0,0)))∧(∃vs,Hid (wr.ownsRow (W.heap.size+1) 75 1 s k vs)∧Hid (SolsR (W.heap.size+1) wr vs (Ls.take k)))∧Hid (∀j (h:j<xs.length) (h2:xs[j]<l.length),j<k→fitS BV l[xs[j]]=true)) (fun _ i _=>on-(intOf i).toNat)
 case atStart=>exact⟨0,by omega,rfl,hV,by omega,BY,⟨[],YJ (qds _ _ _ _),YJ ⟨rfl,fun i h=>by simp at h⟩⟩,YJ (fun j _ _ h=>by omega)⟩
 case round=>
  clear BY HV hV zV
  obtain⟨k,hk,rfl,hb,zr,HY,⟨vs,HO,HSr⟩,HFt⟩:=hrel
  obtain⟨ra,rc,rfl⟩:=aT HO.out
  by_cases hlt:k<on
  ·have g1:(k:Int)<(on:Int):=by omega
   have g2:(0:Int)≤(k:Int):=by omega
   have hkx:k<xs.length:=by have:=Hon.out;omega
   have hpl:=(HVx k hkx).out
   have hpn:xs[k]<ln:=by have:=HN.out;omega
   obtain⟨ob,ooff,rfl,hoi⟩:=HX.out (by omega)
   have e0:=ab hb (hoi k hkx)
   obtain⟨lb,loff,rfl,hli⟩:=HL.out (by omega)
   obtain⟨su,f0,hsu⟩:=hli xs[k] hpl
   have f0:=ab hb f0
   have HM:=fun W' (hb':Below wr.heap.size wr W')=>YJ (HMv l[xs[k]] su W' (HSe xs[k] hpl).out ((SolV.below hsu hb).below hb')).out
   have HNk:=YJ (HNo k hkx hpl).out
   have HSk:=YJ (HSu k hkx hpl).out
   have HFn:Hid (fitS BV l[xs[k]]=true→∀j (h:j<xs.length) (h2:xs[j]<l.length),j<k+1→fitS BV l[xs[j]]=true):=YJ (fun h j hj hj2 hk'=>by
    by_cases e:j=k
    ·subst e;exact h
    ·exact HFt.out j hj hj2 (by omega))
   obtain⟨sa,sn,sc,rfl, -⟩:=hsu
   try rw[HBV.out]at HM
   clear hoi hli HX HL HMv HNo HYes HSu HHy HHn HOr HOh HRl HFt HVx HSe
   generalize hq0:xs[k]=p at*
   clear hq0
   have g5:(p:Int)<(ln:Int):=by omega
   have g6:(0:Int)≤(p:Int):=by omega
   generalize fitS BV l[p]=fs at*
   generalize l[p].map (movC BV)=ms at*
   obtain⟨y0,y1,y2,yf,yz⟩:=NO HY.out
   have ze:=qaC wr _ e0
   have zf:=qaC wr _ f0
   simp only at ze zf
   go_wp2
   go_cut [10,11] (fun s10 s11 wx=>s11= .int .i64 (mvE fs)∧∃g a n c,s10= .pointer (some ⟨g,0,none⟩)∧Below wr.heap.size wr wx∧wx.heap[g]? =some (.cells #[.slice a n c] 75 (0,0))∧wr.heap.size≤g∧(fs=true→SolO wr.heap.size wx (.slice a n c) ms))
   case first=>
    go_region_held (fun w'=>w'.cell? ⟨ob,ooff+k,none⟩=some (.int .i64 p)∧w'.cell? ⟨lb,loff+p,none⟩=some (.slice sa sn sc)∧w'.cell? ⟨W.heap.size,0,none⟩=some (.int .i64 x)∧w'.cell? ⟨W.heap.size,1,none⟩=some (.int .i64 y)∧w'.cell? ⟨W.heap.size,2,none⟩=some (.int .i64 z)∧Below wr.heap.size wr w') (exact⟨ab bel e0,ab bel f0,ab bel y0,ab bel y1,ab bel y2,bel⟩) ((go_at_call 56;refine((HM _ bel).out).mono ?_;rintro e w2 ⟨a9,n9,c9,rfl,hb2,hs2⟩;(try(have hq:=(hb2.block wr.heap.size (by simp)).trans (ai (by simp));obtain⟨q0,qf,qz⟩:=blk1 hq;have HQb:=YJ hq;clear hq));replace hs2:fs=true→SolO wr.heap.size w2 (.slice a9 n9 c9) ms:=fun h=>(hs2 h).mono (by first|exact qaA _|(simp;done)|(simp;omega));replace hb2:Below wr.heap.size wr w2:=fB bel hb2;have zz2:=hb2.size))
    all_goals (go_wp2_with fail;go_meet;refine⟨rfl, ?_⟩;first|exact⟨_,_,_,_,rfl,bel,ai rfl,by omega,fun h=>(hs2 h).below bel⟩|exact⟨_,a9,n9,c9,rfl,bel,Tu HQb.out 0 _,qaA _,fun h=>(hs2 h).setS HQb.out (by decide) (by decide)⟩)
   case rest=>
    rename World=>w3
    obtain⟨rfl,g,a9,n9,c9,rfl,hb3,hg3,hgg,hs3⟩:=hcut
    have hw3:=fB hb hb3
    clear HM e0 f0 ze zf y0 y1 y2 yf yz
    cases fs with
    |false=>
     have hfa:=HNk.out rfl
     have hbb:=HBB.out
     have hdd:=HDD.out
     subst hfa
     subst hbb
     subst hdd
     have h2:mvE false=2:=rfl
     clear HNk HSk HFn
     go_wp2
     refine bodyPost_ret (v:= .tuple #[.bool false, .int .i64 2]) (by simp[results,Tryz.results19,go_sem]) rfl ⟨by trivial,hw3⟩
    |true=>
     have HFz:=YJ (HFn.out rfl)
     have HS1:=YJ (hs3 rfl)
     have HO1:=YJ (au HO.out hb3)
     have HR1:Hid (SolsR (W.heap.size+1) w3 vs (Ls.take k)):=YJ ⟨HSr.out.1,fun i h1 h2=>(HSr.out.2 i h1 h2).below hb3⟩
     have HY3:=YJ ((hb3.block _ (ah HY.out)).trans HY.out)
     have d0:w3.cell? ⟨g,0,none⟩=some (.slice a9 n9 c9):=(bq hg3 0).trans rfl
     have dz:=ah hg3
     have zx1:=hb3.size
     have hbx:Below w3.heap.size w3 (w3.alloc (.cells #[.slice a9 n9 c9] 75)):=bel
     have HOx:=YJ (au HO1.out hbx)
     have HNx:Hid ((w3.alloc (.cells #[.slice a9 n9 c9] 75)).heap[w3.heap.size]? =some (.cells #[.slice a9 n9 c9] 75 (0,0))):=YJ (ai rfl)
     have HRx:Hid (SolsR (W.heap.size+1) (w3.alloc (.cells #[.slice a9 n9 c9] 75)) (vs++[.slice a9 n9 c9]) (Ls.take k++[ms])):=YJ (SolsR.snoc ⟨HR1.out.1,fun i h1 h2=>(HR1.out.2 i h1 h2).below hbx⟩ ((HS1.out.mono (by omega)).below hbx))
     have HYx:=YJ ((hbx.block _ (ah HY3.out)).trans HY3.out)
     rw[←HSk.out]at HRx
     clear HO1 HR1 HS1 HY3 hs3 HSk HNk HFn HO HSr HY hg3
     go_wp2_with (at_builtin;refine fq _ rfl _ _ 22 rfl (W.heap.size+1) 75 i1 (.agg #[.slice none 0 0]) 1 24 und_solids Hi1.out.1 Hi1.out.2.1 Hi1.out.2.2.1 Hi1.out.2.2.2 rfl (by decide) _ k vs rfl HOx.out ⟨w3.heap.size,0,none⟩ 1 1 [.slice a9 n9 c9] rfl rfl ?c1 ?c2 ?c3 ?c4 ?c5 ?_)
     case c1=>
      intro j u hu
      rw[jY,bq HNx.out]
      simpa using hu
     case c2=>
      intro u hu
      simp at hu
      subst hu
      rfl
     case c3=>unfold maxLen;omega
     case c4=>omega
     case c5=>simp;omega
     intro v' w4 hown4 hg4 _
     have hb4:Below W.heap.size W w4:=(fB hw3 hbx).grown hg4 (by simp;omega) (fun z hz=>by have:=(HOx.out.lt z hz).1;omega)
     have z4:W.heap.size+1≤w4.heap.size:=by have:=hg4.size;simp at this;omega
     have HR4:Hid (SolsR (W.heap.size+1) w4 (vs++[.slice a9 n9 c9]) (Ls.take (k+1))):=YJ ⟨HRx.out.1,fun i h1 h2=>(HRx.out.2 i h1 h2).kept hg4 (fun g cs h1 h2=>jC HOx.out g cs h1 h2)⟩
     have HY4:=YJ ((hg4.block _ (ah HYx.out) (fun e=>aG HOx.out HYx.out (by decide) e.symm)).trans HYx.out)
     have HO4:=YJ hown4
     clear hown4 hg4 HOx HNx HRx hbx HYx d0 dz
     go_wp2
     go_roundw
     case rel=>exact⟨k+1,by omega,by go_num,hb4,z4,HY4,⟨_,HO4,HR4⟩,HFz⟩
     simp[intOf];try omega
  ·obtain rfl:k=on:=by omega
   have hfa:=HYes.out (fun j h h2=>HFt.out j h h2 (by have:=Hon.out;omega))
   have hbb:=HBB.out
   have hdd:=HDD.out
   subst hfa
   subst hbb
   subst hdd
   have HRt:=HSr
   rw[qaK (by have:=HOl.out;have:=Hon.out;omega)]at HRt
   have HMs:=YJ (solsv_own HO.out (by have:=HOl.out;have:=Hon.out;omega) HRt.out)
   have HOr':=YJ (HOr.out rfl)
   clear HSr HRt HO HFt HYes HNo HSu HMv HOr HVx HX
   go_wp2_with fail
   refine((HAl _).out).mono ?_
   rintro e w1 ⟨av,rfl,hb1,ho1⟩
   have hw1:=fB hb hb1
   have HW1:=YJ (HWo av w1 (jy ho1) (HOV.out.below hw1)).out
   obtain⟨ava,avc,rfl⟩:=aT ho1
   clear HAl HWo ho1
   go_wp2_with fail
   refine(HW1.out).mono ?_
   rintro e w2 ⟨rv,rfl,hb2,ho2⟩
   have hw2:=fB hw1 hb2
   rw[HWr.out]at ho2
   have hR2:NatV w2 rv Rs:=jy ho2
   obtain⟨ra2,rn,rc2,rfl,hrn,hrx⟩:=hR2.at
   have HRx:=YJ hrx
   have Hrn:=YJ hrn
   have hrn9:rn≤1000:=by have:=HRn.out;omega
   have HM2:=YJ (SolsV.below HMs.out (fB hb1 hb2))
   obtain⟨ma,mn,mc,emv,hmn, -,hmx⟩:=HM2.out
   cases emv
   have HMx:=YJ hmx
   clear HW1 ho2 hR2 hrn hrx HM2 HMs hmx
   go_wp2
   go_loopw [13] (fun i wr=>∃j:Nat,j≤k∧i= .int .i64 j∧Below w2.heap.size w2 wr∧Hid (∀q m (h1:q<Ls.length) (h2:m<Rs.length) (h3:Rs[m]<l.length),q<j→Oh Ls[q] l[Rs[m]]=false)) (fun i _=>k-(intOf i).toNat)
   case atStart=>exact⟨0,by omega,rfl,brf,YJ (fun q m _ _ _ h=>by omega)⟩
   case round=>
    obtain⟨j,hj,rfl,hbj,Hdj⟩:=hrel
    have hwj:=fB hw2 hbj
    by_cases hjk:j<k
    ·have g1:(j:Int)<(k:Int):=by omega
     have g2:(0:Int)≤(j:Int):=by omega
     have hjL:j<Ls.length:=by have:=HOl.out;have:=Hon.out;omega
     obtain⟨mb,moff,rfl,hmi⟩:=HMx.out (by omega)
     obtain⟨mu,e0,hmu⟩:=hmi j hjL
     have e0:=ab hbj e0
     have HMu:=YJ (SolV.below hmu hbj)
     have hcm:=HOr'.out _ (qaB hjL)
     have hhm:=HOh.out _ (qaB hjL)
     have HHyj:=fun m h2 h3=>YJ (HHy j m hjL h2 h3).out
     have Hst:Hid ((∀m (h2:m<Rs.length) (h3:Rs[m]<l.length),Oh Ls[j] l[Rs[m]]=false)→∀q m (h1:q<Ls.length) (h2:m<Rs.length) (h3:Rs[m]<l.length),q<j+1→Oh Ls[q] l[Rs[m]]=false):=YJ (fun h q m h1 h2 h3 hq=>by
      by_cases e:q=j
      ·subst e;exact h m h2 h3
      ·exact Hdj.out q m h1 h2 h3 (by omega))
     have HCl:=fun t tv W' (k1:SolV W' mu Ls[j]) (k2:SolV W' tv t) (k3:Tv t=0)=>YJ (PG Ls[j] t mu tv W' (fun c hc=>Dl (hcm c hc)) (fun c hc=>Dl ((xb k3).2 c hc)) (qaD hhm (by decide)) (qaD (xb k3).1 (by decide)) k1 k2)
     obtain⟨ua,un,uc,rfl, -⟩:=hmu
     clear hmi HMx hcm hhm HHy HHn Hdj HOr' HOh
     generalize Ls[j]=mj at*
     obtain⟨wq,rfl⟩:∃wq:World,wq=wr:=⟨_,rfl⟩
     have ze:=qaC wq _ e0
     simp only at ze
     go_wp2
     go_loopw [14] (fun i wr=>∃m:Nat,m≤rn∧i= .int .i64 m∧Below wq.heap.size wq wr∧Hid (∀q (h2:q<Rs.length) (h3:Rs[q]<l.length),q<m→Oh mj l[Rs[q]]=false)) (fun i _=>rn-(intOf i).toNat)
     case atStart=>exact⟨0,by omega,rfl,brf,YJ (fun q _ _ h=>by omega)⟩
     case round=>
      obtain⟨m,hm,rfl,hbm,Hdm⟩:=hrel
      have hwm:=fB hwj hbm
      by_cases hmr:m<rn
      ·have g3:(m:Int)<(rn:Int):=by omega
       have g4:(0:Int)≤(m:Int):=by omega
       have hmR:m<Rs.length:=by have:=Hrn.out;omega
       have hrl:=(HRl m hmR).out
       have hrn2:Rs[m]<ln:=by have:=HN.out;omega
       obtain⟨rb,roff,rfl,hri⟩:=HRx.out (by omega)
       have f0:=ab (hbj.trans (hbm.mono hbj.size)) (hri m hmR)
       obtain⟨lb,loff,rfl,hli⟩:=HL.out (by omega)
       obtain⟨tu,t0,htu⟩:=hli Rs[m] hrl
       have t0:=ab hwm t0
       have HTu:=YJ (SolV.below htu hwm)
       have e0:=ab hbm e0
       have HMm:=YJ (SolV.below HMu.out hbm)
       have HC:=fun W' (h:Below wr.heap.size wr W')=>YJ (HCl l[Rs[m]] tu W' (SolV.below HMm.out h) (SolV.below HTu.out h) (HSe Rs[m] hrl).out).out
       have HHm:=YJ (HHyj m hmR hrl).out
       have Hsm:Hid (Oh mj l[Rs[m]]=false→∀q (h2:q<Rs.length) (h3:Rs[q]<l.length),q<m+1→Oh mj l[Rs[q]]=false):=YJ (fun h q h2 h3 hq=>by
        by_cases e:q=m
        ·subst e;exact h
        ·exact Hdm.out q h2 h3 (by omega))
       obtain⟨ta,tn,tc,rfl, -⟩:=htu
       clear hri HRx hli HL HCl HHyj Hst Hdm HMu HRl HSe
       generalize hp0:Rs[m]=p at*
       clear hp0
       have g5:(p:Int)<(ln:Int):=by omega
       have g6:(0:Int)≤(p:Int):=by omega
       generalize Oh mj l[p]=r at*
       have zf:=qaC wr _ f0
       have zt:=qaC wr _ t0
       have ze:=qaC wr _ e0
       simp only at zf zt ze
       go_wp2
       go_cut [16] (fun s16 wx=>s16= .bool r∧Below wr.heap.size wr wx)
       case first=>
        go_region_held (fun w'=>w'.cell? ⟨mb,moff+j,none⟩=some (.slice ua un uc)∧w'.cell? ⟨rb,roff+m,none⟩=some (.int .i64 p)∧w'.cell? ⟨lb,loff+p,none⟩=some (.slice ta tn tc)∧Below wr.heap.size wr w') (exact⟨ab bel e0,ab bel f0,ab bel t0,bel⟩) ((go_at_call 46;refine((HC _ bel).out).mono ?_;rintro e w2 ⟨hb2,i9,k9,s9,n9,c9,rfl⟩;(try(have hq:=(hb2.block wr.heap.size (by simp)).trans (ai (by simp));obtain⟨q0,q1,q2,qf,qz⟩:=NO hq;clear hq));replace hb2:Below wr.heap.size wr w2:=fB bel hb2;have zz2:=hb2.size))
        all_goals (go_wp2_with fail;go_meet;exact⟨rfl,bel⟩)
       case rest=>
        rename World=>w3
        obtain⟨rfl,hb3⟩:=hcut
        clear HC e0 f0 t0 ze zf zt
        cases r with
        |true=>
         have hr:=HHm.out rfl
         subst hr
         have hw3:=fB hwm hb3
         clear Hsm HHm
         go_wp2
         refine bodyPost_ret (v:= .tuple #[.bool false, .int .i64 0]) (by simp[results,Tryz.results19,go_sem]) rfl ⟨by trivial,hw3⟩
        |false=>
         have HF:=YJ (Hsm.out rfl)
         clear Hsm HHm
         go_wp2
         go_roundw
         case rel=>exact⟨m+1,by omega,by go_num,fB hbm hb3,HF⟩
         simp[intOf];try omega
      ·obtain rfl:m=rn:=by omega
       have HF:=YJ (Hst.out (fun q h2 h3=>Hdm.out q h2 h3 (by have:=Hrn.out;omega)))
       have hbjm:=fB hbj hbm
       clear Hst HRx HL HCl HHyj e0 ze
       go_wp2
       go_roundw
       case rel=>exact⟨j+1,by omega,by go_num,hbjm,HF⟩
       simp[intOf];try omega
    ·obtain rfl:j=k:=by omega
     have hr:=HHn.out (fun q m h1 h2 h3=>Hdj.out q m h1 h2 h3 (by have:=HOl.out;have:=Hon.out;omega))
     subst hr
     clear HMx HRx HHy HHn Hdj HL HSe
     go_wp2
     refine bodyPost_ret (v:= .tuple #[.bool true, .int .i64 0]) (by simp[results,Tryz.results19,go_sem]) rfl ⟨by trivial,hwj⟩
end
end Go.Proofs.YtffbilcjhlncfaaGreatDoor
