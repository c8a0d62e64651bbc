/- texts: LKA AC6 AC7 ACA FG8 LKB LKC FHF LKD. -/
import Derived.ArgAppend
import Derived.BigQuiet
import Derived.ChangeKeysEq
import Derived.Deep.AppendLies
import Derived.Deep.DeepAppendRoom
import Derived.Deep.DeepAppendWide
import Derived.Deep.DeepCutAuto
import Derived.Deep.QuietTactic
import Derived.Deep.RegionHeld
import Derived.Deep.RegionHeld3
import Derived.Deep.RegionHeldLaw
import Derived.DeepKeys4
import Derived.Ground.Names2Prog
import Derived.Ground.SlgnProg
import Derived.Laws.AppendOwnNone
import Derived.Laws.StructEq
import Derived.Lib.AppendIntMem
import Derived.Lib.AppendZerosOnto
import Derived.Lib.Hide
import Derived.Lib.ItoaLen
import Derived.Lib.SliceRun
import Derived.Lib.SlicesCompact
import Derived.LoopIn
import Derived.LoopNIn
import Derived.Maps.AppendAt
import Derived.Maps.OwnSet
import Derived.OwnWalkIn
import Derived.RangeFuncBound
import Derived.RangeFuncBox
import Derived.RangeFuncCalls
import Derived.RangeFuncFrom
import Derived.RangeFuncLeaves
import Derived.RangeFuncNested
import Derived.RangeFuncWrites
import Derived.Shelf.Abstract
import Derived.Shelf.Lays8
import Derived.Shelf.LaysM
import Derived.Shelf.RegionOpen
import Derived.Shelf.Slices.Clone
import Derived.Shelf.SlicesE.Clone
import Derived.Shelf.Small.Bits
import Derived.Shelf.Spec.TrailingZeros
import Derived.Shelf.Strconv.Itoa0
import Derived.Shelf.Strconv.Itoa1
import Derived.Shelf.Strconv.Itoa2
import Derived.Shelf.Strconv.Itoa3
import Derived.Shelf.Strings.Builder1
import Derived.Shelf.Strings.Builder2
import Derived.Shelf.Strings.OnBuilder
import Derived.Sort.Grow
import Derived.StillTail
import Derived.TacticsInMore
import Derived.WalkKit
import Derived.WalkLawsBesides
import Derived.WalkSpells
import Derived.WideKeyEntry
import Derived.Test.YtnpmkepfpekhfaaGreatDoorProg
import Derived.Test.YtnpmkepfpekhfaaGreatDoorRows
import Derived.Test.YtnpmkepfpekhfaaGreatDoorSort
import Derived.Test.YtnpmkepfpekhfaaGreatDoorSIS1
import Derived.Test.YtnpmkepfpekhfaaGreatDoorSIS4
import Derived.Test.YtnpmkepfpekhfaaGreatDoorSIS7
import Derived.Test.YtnpmkepfpekhfaaGreatDoorSIS8
import Derived.Test.YtnpmkepfpekhfaaGreatDoorSIS9
import Derived.Test.YtnpmkepfpekhfaaGreatDoorSIS10
import Derived.Test.YtnpmkepfpekhfaaGreatDoorSIS13
import Derived.Test.YtnpmkepfpekhfaaGreatDoorSIS14
import Derived.Test.YtnpmkepfpekhfaaGreatDoorSIS16
import Derived.Test.YtnpmkepfpekhfaaGreatDoorSIS18
import Derived.Test.YtnpmkepfpekhfaaGreatDoorSIS19
import Derived.Test.YtnpmkepfpekhfaaGreatDoorSIS20
import Derived.Test.YtnpmkepfpekhfaaGreatDoorSIS21
import Derived.Test.YtnpmkepfpekhfaaGreatDoorSIS22
import Derived.Test.YtnpmkepfpekhfaaGreatDoorSIS24
import Derived.Test.YtnpmkepfpekhfaaGreatDoorSIS25
import Derived.Test.YtnpmkepfpekhfaaGreatDoorSIS26
import Derived.Test.YtnpmkepfpekhfaaGreatDoorSIS27
import Derived.Test.YtnpmkepfpekhfaaGreatDoorSIS29
import Derived.Test.YtnpmkepfpekhfaaGreatDoorSIS30
import Derived.Test.YtnpmkepfpekhfaaGreatDoorSIS31
import Derived.Test.YtnpmkepfpekhfaaGreatDoorSIS32
import Derived.Test.YtnpmkepfpekhfaaGreatDoorSIS33
import Derived.Test.YtnpmkepfpekhfaaGreatDoorSIS34
import Derived.Test.YtnpmkepfpekhfaaGreatDoorSIS35
import Derived.Test.YtnpmkepfpekhfaaGreatDoorSIS36
import Derived.Test.YtnpmkepfpekhfaaGreatDoorSIS37
import Derived.Test.YtnpmkepfpekhfaaGreatDoorSIS38
import Derived.Test.YtnpmkepfpekhfaaGreatDoorLOS1
namespace Go.Proofs.YtnpmkepfpekhfaaGreatDoor
set_option maxHeartbeats 8000000
set_option linter.all false
section
open Go.RowKit Go.Shelf Go.Lib
set_option maxRecDepth 100000
attribute [local go_sem] Ext.cell Ext.frozen
theorem and_pow {c x:Nat} (hc:c<4096) (hx:x<12):c&&& 2 ^ x=0↔c.testBit x=false:=by
 constructor
 ·intro h
  have:=congrArg (fun s=>Nat.testBit s x) h
  simpa [Nat.testBit_and,Nat.testBit_two_pow]using this
 ·intro h
  apply Nat.eq_of_testBit_eq
  intro k
  rw[Nat.testBit_and,Nat.testBit_two_pow,Nat.zero_testBit]
  by_cases e:x=k
  ·subst e;simp[h]
  ·simp[e]
theorem closedA_no {G:List Nat} {cl i:Nat} {wk:List Int} (hi:i<wk.length) (h:chkA G cl wk i=false):closedA G cl wk=false:=by
 unfold closedA
 rw[Bool.and_eq_false_iff]
 exact .inl (List.all_eq_false.2 ⟨i,by simpa using hi,by simpa using h⟩)
theorem closedA_yes {G:List Nat} {cl:Nat} {wk:List Int} (h:∀i,i<wk.length→chkA G cl wk i=true):closedA G cl wk=(nr wk==cl):=by
 unfold closedA
 rw[show(List.range wk.length).all (chkA G cl wk)=true from alsi.2 fun i hi=>h i (by simpa using hi)]
 rfl
theorem chkA_def (G:List Nat) (cl:Nat) (wk:List Int) (i:Nat) (h:i<wk.length) (h2:(i+1) % wk.length<wk.length):chkA G cl wk i=
  ((decide (0≤wk[i]∧wk[i]<G.length)&&cl.testBit (wk[i]).toNat)&&(decide (0≤wk[(i+1) % wk.length]∧wk[(i+1) % wk.length]<G.length)&&(G.getD (wk[i]).toNat 0).testBit (wk[(i+1) % wk.length]).toNat)):=by
 unfold chkA getI
 simp[List.getD,h,h2]
theorem closed_any (G:List Nat) (cl gb cap:Nat) (wk:List Int) (wv:Value) (W:World) (hG:∀x∈G,x<4096) (hm:G.length≤12) (hcl:cl<4096) (hcap:G.length≤cap) (hwl:wk.length≤1000) (hat:GphAt W gb G) (hw:Ints W wv wk):
  Calls Tryz.prog 72 #[.slice (some ⟨gb,0,none⟩) G.length cap,wv, .int .u64 cl] W (Ret W (.bool (closedA G cl wk))):=by
 have HAt:=YJ hat
 have HGl:=fun i (h:i<G.length)=>YJ (hG _ (qaB h))
 have HGd:=fun i (h:i<G.length)=>YJ (show G.getD i 0=G[i] by simp[List.getD,h])
 have HNo:=fun i hi=>YJ (@closedA_no G cl i wk hi)
 have HYe:=YJ (@closedA_yes G cl wk)
 have HDf:=fun i (h:i<wk.length) h2=>YJ (chkA_def G cl wk i h h2)
 have HSn:=fun i (h:i<wk.length)=>YJ (show nr (wk.take (i+1))=nr (wk.take i) |||2 ^ (wk[i]).toNat by rw[qaI h,Il])
 have HSt:=fun(k:Nat) (Y:World) (g:Nat) (hk:k<12) (h:Y.heap[g]? =some (.cells #[.int .i64 k] 3 (0,0)))=>YJ (GK k hk g Y h)
 obtain⟨wa,wn,wc,rfl,hwn, -,hwx⟩:=hw
 have HW:=YJ hwx
 have HN:=YJ hwn
 rw[hwn]at hwl
 obtain⟨N,HNg⟩:∃N,Hid (G.length=N):=⟨_,YJ rfl⟩
 rw[HNg.out]at hm hcap ⊢
 generalize closedA G cl wk=res at*
 clear hG hat hwx hwn
 go_enter Tryz.func72,Tryz.ntmps72
 go_wp2
 go_loopw [7,13] (fun s x wr=>∃k m:Nat,k≤wn∧x= .int .i64 k∧s= .int .u64 m∧Below W.heap.size W wr∧Hid (m<4096∧m=nr (wk.take k))∧Hid (∀j,j<k→chkA G cl wk j=true)) (fun _ x _=>wn-(intOf x).toNat)
 case atStart=>exact⟨0,0,by omega,rfl,rfl,brf,YJ ⟨by omega,rfl⟩,YJ (fun j h=>by omega)⟩
 case round=>
  obtain⟨k,m,hk,rfl,rfl,hb,HM,HD⟩:=hrel
  by_cases hlt:k<wn
  ·have q1:(k:Int)<(wn:Int):=by omega
   have q2:(0:Int)≤(k:Int):=by omega
   have hkl:k<wk.length:=by rw[HN.out];exact hlt
   have hml:(k+1) % wk.length<wk.length:=Nat.mod_lt _ (by omega)
   obtain⟨b,off,rfl,hx⟩:=HW.out (by omega)
   have c0:=ab hb (hx k hkl)
   have z0:=qaC wr _ c0
   have d0:=hx _ hml
   have hmod:((k:Int)+1).tmod (wn:Int)=(((k+1) % wn:Nat):Int):=by
    rw[Int.tmod_eq_emod_of_nonneg (by omega)]
    first|exact(Int.natCast_mod (k+1) wn).symm|exact(Int.natCast_emod (k+1) wn).symm|(simp;done)
   have hmz:(k+1) % wn<wn:=Nat.mod_lt _ (by omega)
   have HDk:=(HDf k hkl hml).out
   have HSk:=(HSn k hkl).out
   have HNk:=(HNo k hkl)
   have HDn:Hid (chkA G cl wk k=true→∀j,j<k+1→chkA G cl wk j=true):=YJ (fun h j hj=>by
    by_cases e:j=k
    ·subst e;exact h
    ·exact HD.out j (by omega))
   simp only at z0
   clear HW hx HD HDf HSn HNo
   generalize chkA G cl wk k=ck at*
   simp only[HN.out]at d0 HDk
   generalize wk[k]=x at*
   generalize wk[(k+1) % wn]'(by rw[HN.out];exact hmz)=y at*
   by_cases hx0:x<0
   ·clear HNg HAt HGl HGd HYe HSt hmod
    have hf:ck=false:=by rw[HDk,decide_eq_false (by omega)];rfl
    obtain rfl:=HNk.out hf
    go_wp2
    go_ret
    exact⟨by first|rfl|trivial,hb⟩
   ·by_cases hxn:(N:Int)≤x
    ·clear HAt HGl HGd HYe HSt hmod
     have hf:ck=false:=by rw[HDk,decide_eq_false (by have:=HNg.out;omega)];rfl
     obtain rfl:=HNk.out hf
     go_wp2
     go_ret
     exact⟨by first|rfl|trivial,hb⟩
    ·obtain⟨X,rfl⟩:∃X:Nat,x=(X:Int):=⟨x.toNat,by omega⟩
     have hXN:X<N:=by omega
     have hXG:X<G.length:=by rw[HNg.out];exact hXN
     have hX12:X<12:=by omega
     have hP:=one_lt12 hX12
     have HS1:=fun(Y:World) (g:Nat) h=>YJ (HSt X Y g hX12 h).out
     have hap:=and_pow hcl hX12
     have hand:=bits_and_u64_nat cl (2 ^ X) (by omega) (by omega)
     have hmm:=HM.out.1
     have hor:=bits_or_u64_nat m (2 ^ X) (by omega) (by omega)
     have hle:cl&&& 2 ^ X<4096:=Nat.lt_of_le_of_lt Nat.and_le_left hcl
     have hM2:Hid (m |||2 ^ X<4096∧m |||2 ^ X=nr (wk.take (k+1))):=YJ ⟨Nat.or_lt_two_pow (n:=12) hmm hP,by rw[HSk, ←HM.out.2,Int.toNat_natCast]⟩
     rw[Int.toNat_natCast,decide_eq_true (show(0:Int)≤(X:Int)∧(X:Int)<(G.length:Int) by omega),Bool.true_and]at HDk
     obtain⟨P,HP2⟩:∃P,Hid (2 ^ X=P):=⟨_,YJ rfl⟩
     rw[HP2.out]at hap hand hor hle hM2 HS1 hP
     obtain⟨X1,HX1⟩:∃X1,Hid (wr.alloc (.cells #[.int .i64 X] 3)=X1):=⟨_,YJ rfl⟩
     have hb1:Below wr.heap.size wr X1:=by rw[←HX1.out];exact bel
     have HC:=YJ (HS1 X1 wr.heap.size (by rw[←HX1.out];exact ai rfl)).out
     clear HSk hx0 hxn
     go_wp2_with fail
     try rw[HX1.out]
     refine(HC.out).mono ?_
     rintro e w2 ⟨rfl,hb2⟩
     have hw2:=fB hb (fB hb1 hb2)
     have hbr2:=fB hb1 hb2
     generalize cl&&& P=A at*
     clear HC HX1
     by_cases hA:A=0
     ·have hf:ck=false:=by rw[HDk,hap.1 hA];rfl
      obtain rfl:=HNk.out hf
      subst hA
      clear hap hor HAt HGl HGd HYe HSt HS1 hmod HDk
      go_wp2
      go_ret
      exact⟨by first|rfl|trivial,hw2⟩
     ·have hA':((A:Int)==0)=false:=by simpa using hA
      have hbt:cl.testBit X=true:=by
       cases hc:cl.testBit X with
       |true=>rfl
       |false=>exact absurd (hap.2 hc) hA
      rw[hbt,Bool.true_and]at HDk
      obtain⟨X3,HX3⟩:∃X3,Hid (w2.alloc (.cells #[.int .i64 X] 3)=X3):=⟨_,YJ rfl⟩
      have hb3:Below w2.heap.size w2 X3:=by rw[←HX3.out];exact bel
      have HC3:=YJ (HS1 X3 w2.heap.size (by rw[←HX3.out];exact ai rfl)).out
      clear HS1 hap hbt
      go_wp2_with fail
      try rw[HX3.out]
      refine(HC3.out).mono ?_
      rintro e w4 ⟨rfl,hb4⟩
      have hw4:=fB hw2 (fB hb3 hb4)
      have d4:=ab hw4 d0
      have z4:=qaC w4 _ d4
      simp only at z4
      have e4:=ab hw4 (HAt.out X hXG)
      have y4:=qaC w4 _ e4
      simp only at y4
      have hgx:=(HGl X hXG).out
      rw[(HGd X hXG).out]at HDk
      clear HC3 HX3 hb3 hb4 HGl HGd HAt
      generalize G[X]=gx at*
      generalize m |||P=mp at*
      generalize(k+1) % wn=kn at*
      have q5:(kn:Int)<(wn:Int):=by omega
      have q6:(0:Int)≤(kn:Int):=by omega
      have q7:(X:Int)<(N:Int):=by omega
      have q8:(0:Int)≤(X:Int):=by omega
      have q9:((wn:Int)==0)=false:=by simp;omega
      by_cases hy0:y<0
      ·have hf:ck=false:=by rw[HDk,decide_eq_false (by omega)];rfl
       obtain rfl:=HNk.out hf
       clear HDk HYe HSt
       go_wp2
       refine wqf fun u=> ?_
       have hbu:=fB hw4 u.below
       go_wp2
       go_ret
       exact⟨by first|rfl|trivial,hbu⟩
      ·by_cases hyn:(N:Int)≤y
       ·have hf:ck=false:=by rw[HDk,decide_eq_false (by have:=HNg.out;omega)];rfl
        obtain rfl:=HNk.out hf
        clear HDk HYe HSt
        go_wp2
        refine wqf fun u=> ?_
        have hbu:=fB hw4 u.below
        go_wp2
        go_ret
        exact⟨by first|rfl|trivial,hbu⟩
       ·obtain⟨Y,rfl⟩:∃Y:Nat,y=(Y:Int):=⟨y.toNat,by omega⟩
        have hY12:Y<12:=by omega
        have hPY:=one_lt12 hY12
        have hap:=and_pow hgx hY12
        have hand2:=bits_and_u64_nat gx (2 ^ Y) (by omega) (by omega)
        have HSY:=fun(Z:World) (g:Nat) h=>YJ (HSt Y Z g hY12 h).out
        rw[Int.toNat_natCast,decide_eq_true (show(0:Int)≤(Y:Int)∧(Y:Int)<(G.length:Int) by have:=HNg.out;omega),Bool.true_and]at HDk
        have r1:¬(Y:Int)<0:=by omega
        have r2:¬(N:Int)≤(Y:Int):=by omega
        obtain⟨PY,HPY⟩:∃P,Hid (2 ^ Y=P):=⟨_,YJ rfl⟩
        rw[HPY.out]at hap hand2 HSY
        generalize gx&&& PY=B at*
        have r3:Y<N:=by omega
        have r4:¬N≤Y:=by omega
        clear HSt hy0 hyn HPY
        by_cases hB:B=0
        ·have hf:ck=false:=by rw[HDk,hap.1 hB]
         obtain rfl:=HNk.out hf
         subst hB
         clear HDk HYe hap
         go_wp2
         apply aj [] [0,1,2,3,4,5,6,7,8,9,10,11,12,13,14,15,16,17] 18 [] [sv _,sv _,sv _,sv _,sv _,sv _,sv _,sv _,sv _,sv _,sv _,sv _,sv _,sv _,⟨JQ Y,by first|exact Fg _⟩,sv _,sv _,sv _] (by kernel_rfl) (by kernel_rfl)
         iterate 3 ((try go_frame);refine wkQ ?_)
         iterate 4 ((try go_frame);refine Ae rfl rfl (by simp) (by simp[Region.wanted,yielded]) ?_;apply ex3;(focus(intro u K hK;go_simp;exact hK _ brf));rfl)
         iterate 2 ((try go_frame);refine wkQ ?_)
         iterate 5 ((try go_frame);refine Ae rfl rfl (by simp) (by simp[Region.wanted,yielded]) ?_;apply ex3;(focus(intro u K hK;go_simp;exact hK _ brf));rfl)
         try go_frame
         refine Af rfl rfl (by simp) (by simp[Region.wanted,yielded]) (fun u hR K hK=> ?_) (fun o14=> ?_)
         ·clear hR
          go_simp
          exact hK _ _ bel ⟨_,rfl,ai rfl⟩
         try go_frame
         refine wkR ?_
         apply ex3
         ·intro u hR K hK
          have h14:(JQ Y) o14 u.val:=hr hR 14
          clear hR
          obtain⟨g9,rfl,hg9⟩:=h14
          go_simp
          refine((HSY _ _ hg9).out).mono ?_
          rintro e w9 ⟨rfl,hb9⟩
          exact hK _ hb9
         rfl
         iterate 2 ((try go_frame);refine Ae rfl rfl (by simp) (by simp[Region.wanted,yielded]) ?_;apply ex3;(focus(intro u K hK;go_simp;exact hK _ brf));rfl)
         try go_frame
         refine aI (fun u hR=> ?_)
         have hbu:=fB hw4 u.below
         simp only[oas]
         go_wp2
         refine NoPanic.normal ?_
         go_wp2
         go_ret
         exact⟨by first|rfl|trivial,hbu⟩
        ·have hB':((B:Int)==0)=false:=by simpa using hB
         have hbt:gx.testBit Y=true:=by
          cases hc:gx.testBit Y with
          |true=>rfl
          |false=>exact absurd (hap.2 hc) hB
         have hck:ck=true:=by rw[HDk,hbt]
         clear HDk HYe hap hbt
         go_wp2
         apply aj [] [0,1,2,3,4,5,6,7,8,9,10,11,12,13,14,15,16,17] 18 [] [sv _,sv _,sv _,sv _,sv _,sv _,sv _,sv _,sv _,sv _,sv _,sv _,sv _,sv _,⟨JQ Y,by first|exact Fg _⟩,sv _,sv _,sv _] (by kernel_rfl) (by kernel_rfl)
         iterate 3 ((try go_frame);refine wkQ ?_)
         iterate 4 ((try go_frame);refine Ae rfl rfl (by simp) (by simp[Region.wanted,yielded]) ?_;apply ex3;(focus(intro u K hK;go_simp;exact hK _ brf));rfl)
         iterate 2 ((try go_frame);refine wkQ ?_)
         iterate 5 ((try go_frame);refine Ae rfl rfl (by simp) (by simp[Region.wanted,yielded]) ?_;apply ex3;(focus(intro u K hK;go_simp;exact hK _ brf));rfl)
         try go_frame
         refine Af rfl rfl (by simp) (by simp[Region.wanted,yielded]) (fun u hR K hK=> ?_) (fun o14=> ?_)
         ·clear hR
          go_simp
          exact hK _ _ bel ⟨_,rfl,ai rfl⟩
         try go_frame
         refine wkR ?_
         apply ex3
         ·intro u hR K hK
          have h14:(JQ Y) o14 u.val:=hr hR 14
          clear hR
          obtain⟨g9,rfl,hg9⟩:=h14
          go_simp
          refine((HSY _ _ hg9).out).mono ?_
          rintro e w9 ⟨rfl,hb9⟩
          exact hK _ hb9
         rfl
         iterate 2 ((try go_frame);refine Ae rfl rfl (by simp) (by simp[Region.wanted,yielded]) ?_;apply ex3;(focus(intro u K hK;go_simp;exact hK _ brf));rfl)
         try go_frame
         refine aI (fun u hR=> ?_)
         have hbu:=fB hw4 u.below
         simp only[oas]
         go_wp2
         refine NoPanic.normal ?_
         go_wp2
         go_roundw
         case rel=>exact⟨k+1,mp,by omega,by go_num,rfl,hbu,hM2,YJ (HDn.out hck)⟩
         case measure=>simp[intOf];try omega
  ·obtain rfl:k=wn:=by omega
   have hy:=HYe.out (fun j hj=>HD.out j (by rw[HN.out]at hj;exact hj))
   have hms:=HM.out.2
   rw[←HN.out,List.take_length]at hms
   have hfin:((m:Int)==(cl:Int))=(m==cl):=by
    rw[Bool.eq_iff_iff,beq_iff_eq,beq_iff_eq]
    omega
   rw[←hms, ←hfin]at hy
   subst hy
   clear HYe HDf HSn HNo HW HAt HGl HGd HSt hms hfin
   go_wp2
   go_ret
   exact⟨by first|rfl|trivial,hb⟩
end
section
open Go.RowKit Go.Shelf
attribute [local go_sem] Ext.cell Ext.frozen
def slimB (n:Nat):Bool:=decide (n≤8) || (decide (16<n)&&decide (n≤20))
set_option maxRecDepth 100000 in
theorem slim_any (a:Option Addr) (n c:Nat) (W:World):Calls Tryz.prog 94 #[.agg #[.slice a n c]] W (Ret W (.bool (slimB n))):=by
 obtain⟨r,HR⟩:∃r,Hid (slimB n=r):=⟨_,YJ rfl⟩
 rw[HR.out]
 by_cases h8:n≤8
 ·have g1:(n:Int)≤8:=by omega
  obtain rfl:r=true:=by rw[←HR.out];unfold slimB;rw[decide_eq_true h8];rfl
  clear HR
  go_enter Tryz.func94,Tryz.ntmps94
  go_wp2
  go_ret
  exact⟨ay (by simp),bel⟩
 ·have g1:¬(n:Int)≤8:=by omega
  by_cases h16:16<n
  ·have g2:(16:Int)<(n:Int):=by omega
   by_cases h20:n≤20
   ·have g3:(n:Int)≤20:=by omega
    obtain rfl:r=true:=by rw[←HR.out];unfold slimB;rw[decide_eq_true h16,decide_eq_true h20];simp
    clear HR
    go_enter Tryz.func94,Tryz.ntmps94
    go_wp2
    go_ret
    exact⟨ay (by simp),bel⟩
   ·have g3:¬(n:Int)≤20:=by omega
    obtain rfl:r=false:=by rw[←HR.out];unfold slimB;rw[decide_eq_false h8,decide_eq_false h20];simp
    clear HR
    go_enter Tryz.func94,Tryz.ntmps94
    go_wp2
    go_ret
    exact⟨ay (by simp),bel⟩
  ·have g2:¬(16:Int)<(n:Int):=by omega
   obtain rfl:r=false:=by rw[←HR.out];unfold slimB;rw[decide_eq_false h8,decide_eq_false h16];simp
   clear HR
   go_enter Tryz.func94,Tryz.ntmps94
   go_wp2
   go_ret
   exact⟨ay (by simp),bel⟩
def cntF (m n:Nat):Bool:=decide (n≤m) || (decide (100<n)&&decide (n≤105))
def fewS (m:Nat) (css:List (List Q4)):Bool:=cntF m css.length&&css.all fun c=>slimB c.length
set_option maxRecDepth 100000 in
theorem fewS_any (m:Nat) (css:List (List Q4)) (sv:Value) (W:World) (hm:m≤100) (hl:css.length≤maxLen) (h:SolV W sv css):
  Calls Tryz.prog 45 #[.agg #[sv], .int .i64 m] W (Ret W (.bool (fewS m css))):=by
 obtain⟨sa,n,sc,rfl,hn, -,hx⟩:=h
 have HX:=YJ hx
 have HN:=YJ hn
 have HSl:=fun a n c W'=>YJ (slim_any a n c W')
 have hn':n≤maxLen:=by omega
 have Hc0:Hid (cntF m n=false→fewS m css=false):=YJ (fun h=>by unfold fewS;rw[hn,h];rfl)
 have Hhit:Hid (∀i (hi:i<css.length),slimB css[i].length=false→fewS m css=false):=YJ (fun i hi h=>by
  unfold fewS
  rw[Bool.and_eq_false_iff]
  refine .inr ?_
  rw[List.all_eq_false]
  exact⟨css[i],qaB hi,by simpa using h⟩)
 have Hall:Hid (cntF m n=true→(∀i (hi:i<css.length),slimB css[i].length=true)→fewS m css=true):=YJ (fun h h2=>by
  unfold fewS
  rw[hn,h,Bool.true_and,alsi]
  intro c hc
  obtain⟨i,hi,rfl⟩:=qaJ hc
  exact h2 i hi)
 obtain⟨V,HV⟩:∃V,Hid (W.alloc (.cells #[.slice sa n sc] 81)=V):=⟨_,YJ rfl⟩
 have hV:Below W.heap.size W V:=by rw[←HV.out];exact bel
 have HA:Hid (V.heap[W.heap.size]? =some (.cells #[.slice sa n sc] 81 (0,0))):=YJ (by rw[←HV.out];exact ai rfl)
 have v0:V.cell? ⟨W.heap.size,0,none⟩=some (.slice sa n sc):=(ag HA.out 0).trans rfl
 have vz:=ah HA.out
 clear hx hn hl
 generalize fewS m css=res at*
 have key:∀g:Bool,cntF m n=g→Hid ((g=true→(n≤m∨100<n∧n≤105))∧(g=false→(m<n∧n≤100)∨105<n)):=fun g hg=>YJ (by
  unfold cntF at hg
  subst hg
  refine⟨fun h=> ?_,fun h=> ?_⟩
  ·simp only[Bool.or_eq_true,qaF,decide_eq_true_eq]at h;omega
  ·simp only[Bool.or_eq_false_iff,Bool.and_eq_false_iff,decide_eq_false_iff_not]at h;omega)
 obtain⟨g,hg⟩:∃g,cntF m n=g:=⟨_,rfl⟩
 have Hk:=key g hg
 rw[hg]at Hc0 Hall
 clear key hg
 cases g with
 |false=>
  have hr:=Hc0.out (by first|rfl|trivial)
  rcases Hk.out.2 (by first|rfl|trivial)with⟨k1,k2⟩|k1
  ·have g1:(m:Int)<(n:Int):=by omega
   have g2:(n:Int)≤100:=by omega
   clear Hc0 Hhit Hall Hk HX HSl
   go_enter Tryz.func45,Tryz.ntmps45
   go_wp2
   go_ret
   exact⟨by first|(rw[hr];rfl)|rfl,by rw[HV.out];exact hV⟩
  ·have g1:(m:Int)<(n:Int):=by omega
   have g2:¬(n:Int)≤100:=by omega
   have g3:(105:Int)<(n:Int):=by omega
   clear Hc0 Hhit Hall Hk HX HSl
   go_enter Tryz.func45,Tryz.ntmps45
   go_wp2
   go_ret
   exact⟨by first|(rw[hr];rfl)|rfl,by rw[HV.out];exact hV⟩
 |true=>
  have hk:=Hk.out.1 (by first|rfl|trivial)
  have g3:¬(105:Int)<(n:Int):=by omega
  have hn105:n≤105:=by omega
  by_cases hmn:n≤m
  ·have g4:¬(m:Int)<(n:Int):=by omega
   clear Hc0 Hk hk
   go_enter Tryz.func45,Tryz.ntmps45
   go_wp2
   try rw[HV.out]
   clear HV
   go_loopw [5] (fun x wr=>∃k:Nat,k≤n∧x= .int .i64 k∧Below V.heap.size V wr∧Hid (∀i (hi:i<css.length),i<k→slimB css[i].length=true)) (fun x _=>n-(intOf x).toNat)
   case atStart=>exact⟨0,by omega,rfl,brf,YJ (fun i _ h=>by omega)⟩
   case round=>
    obtain⟨k,hk,rfl,hb,Hd⟩:=hrel
    have r0:=ab hb v0
    have rz:=qaG vz hb.size
    by_cases hlt:k<n
    ·have g1:(k:Int)<(n:Int):=by omega
     have g2:(0:Int)≤(k:Int):=by omega
     have hil:k<css.length:=by have:=HN.out;omega
     obtain⟨b,off,rfl,hi4⟩:=HX.out (by omega)
     obtain⟨pv,e0,hs⟩:=hi4 k hil
     have e0:=ab (fB hV hb) e0
     have ze:=qaC wr _ e0
     simp only at ze
     obtain⟨pa,pn,pc,rfl,hpn, -⟩:=hs
     have HS:=fun W'=>YJ (HSl pa pn pc W').out
     have Hh:=YJ (Hhit.out k hil)
     have Hst:Hid (slimB css[k].length=true→∀i (hi:i<css.length),i<k+1→slimB css[i].length=true):=YJ (fun h i hi hik=>by
      by_cases e:i=k
      ·subst e;exact h
      ·exact Hd.out i hi (by omega))
     rw[hpn]at Hh Hst
     clear hpn hi4 HX Hhit Hall Hd HSl v0 vz
     generalize slimB pn=sl at*
     go_wp2_with fail
     refine((HS _).out).mono ?_
     rintro e w2 ⟨rfl,hb2⟩
     cases sl with
     |true=>
      have HF:=YJ (Hst.out rfl)
      clear HS Hh Hst
      go_wp2
      go_roundw
      case rel=>exact⟨k+1,by omega,by go_num,fB hb hb2,HF⟩
      case measure=>simp[intOf];try omega
     |false=>
      have hr:=Hh.out rfl
      have hw:=fB (fB hV hb) hb2
      clear HS Hh Hst
      go_wp2
      go_ret
      exact⟨by first|(rw[hr];rfl)|rfl,hw⟩
    ·obtain rfl:n=k:=by omega
     have hr:=Hall.out (by first|rfl|trivial) (fun i hi=>Hd.out i hi (by have:=HN.out;omega))
     have hw:=fB hV hb
     clear HX Hhit Hall Hd HSl
     go_wp2
     go_ret
     exact⟨by first|(rw[hr];rfl)|rfl,hw⟩
  ·have g4:(m:Int)<(n:Int):=by omega
   have g5:¬(n:Int)≤100:=by omega
   clear Hc0 Hk hk
   go_enter Tryz.func45,Tryz.ntmps45
   go_wp2
   try rw[HV.out]
   clear HV
   go_loopw [5] (fun x wr=>∃k:Nat,k≤n∧x= .int .i64 k∧Below V.heap.size V wr∧Hid (∀i (hi:i<css.length),i<k→slimB css[i].length=true)) (fun x _=>n-(intOf x).toNat)
   case atStart=>exact⟨0,by omega,rfl,brf,YJ (fun i _ h=>by omega)⟩
   case round=>
    obtain⟨k,hk,rfl,hb,Hd⟩:=hrel
    have r0:=ab hb v0
    have rz:=qaG vz hb.size
    by_cases hlt:k<n
    ·have g1:(k:Int)<(n:Int):=by omega
     have g2:(0:Int)≤(k:Int):=by omega
     have hil:k<css.length:=by have:=HN.out;omega
     obtain⟨b,off,rfl,hi4⟩:=HX.out (by omega)
     obtain⟨pv,e0,hs⟩:=hi4 k hil
     have e0:=ab (fB hV hb) e0
     have ze:=qaC wr _ e0
     simp only at ze
     obtain⟨pa,pn,pc,rfl,hpn, -⟩:=hs
     have HS:=fun W'=>YJ (HSl pa pn pc W').out
     have Hh:=YJ (Hhit.out k hil)
     have Hst:Hid (slimB css[k].length=true→∀i (hi:i<css.length),i<k+1→slimB css[i].length=true):=YJ (fun h i hi hik=>by
      by_cases e:i=k
      ·subst e;exact h
      ·exact Hd.out i hi (by omega))
     rw[hpn]at Hh Hst
     clear hpn hi4 HX Hhit Hall Hd HSl v0 vz
     generalize slimB pn=sl at*
     go_wp2_with fail
     refine((HS _).out).mono ?_
     rintro e w2 ⟨rfl,hb2⟩
     cases sl with
     |true=>
      have HF:=YJ (Hst.out rfl)
      clear HS Hh Hst
      go_wp2
      go_roundw
      case rel=>exact⟨k+1,by omega,by go_num,fB hb hb2,HF⟩
      case measure=>simp[intOf];try omega
     |false=>
      have hr:=Hh.out rfl
      have hw:=fB (fB hV hb) hb2
      clear HS Hh Hst
      go_wp2
      go_ret
      exact⟨by first|(rw[hr];rfl)|rfl,hw⟩
    ·obtain rfl:n=k:=by omega
     have hr:=Hall.out (by first|rfl|trivial) (fun i hi=>Hd.out i hi (by have:=HN.out;omega))
     have hw:=fB hV hb
     clear HX Hhit Hall Hd HSl
     go_wp2
     go_ret
     exact⟨by first|(rw[hr];rfl)|rfl,hw⟩
end
section
open Go.RowKit Go.Shelf
attribute [local go_sem] Ext.cell Ext.frozen
def cntL (n:Nat):Bool:=decide (n≤4) || (decide (12<n)&&decide (n≤15))
def fewL (l:List (List (List Q4))):Bool:=cntL l.length&&l.all fun s=>fewS 2 s
set_option maxRecDepth 100000 in
theorem fewL_any (l:List (List (List Q4))) (lv:Value) (W:World) (hl:l.length≤maxLen) (hL:∀s∈l,s.length≤maxLen) (h:SolsV W lv l):
  Calls Tryz.prog 11 #[lv] W (Ret W (.bool (fewL l))):=by
 obtain⟨la,n,lc,rfl,hn, -,hx⟩:=h
 have HX:=YJ hx
 have HN:=YJ hn
 have HLn:=fun i (h:i<l.length)=>YJ (hL _ (qaB h))
 have hn':n≤maxLen:=by omega
 have Hc0:Hid (cntL n=false→fewL l=false):=YJ (fun h=>by unfold fewL;rw[hn,h];rfl)
 have Hhit:Hid (∀i (hi:i<l.length),fewS 2 l[i]=false→fewL l=false):=YJ (fun i hi h=>by
  unfold fewL
  rw[Bool.and_eq_false_iff]
  refine .inr ?_
  rw[List.all_eq_false]
  exact⟨l[i],qaB hi,by simpa using h⟩)
 have Hall:Hid (cntL n=true→(∀i (hi:i<l.length),fewS 2 l[i]=true)→fewL l=true):=YJ (fun h h2=>by
  unfold fewL
  rw[hn,h,Bool.true_and,alsi]
  intro c hc
  obtain⟨i,hi,rfl⟩:=qaJ hc
  exact h2 i hi)
 clear hx hn hl hL
 generalize fewL l=res at*
 have key:∀g:Bool,cntL n=g→Hid ((g=true→(n≤4∨12<n∧n≤15))∧(g=false→(4<n∧n≤12)∨15<n)):=fun g hg=>YJ (by
  unfold cntL at hg
  subst hg
  refine⟨fun h=> ?_,fun h=> ?_⟩
  ·simp only[Bool.or_eq_true,qaF,decide_eq_true_eq]at h;omega
  ·simp only[Bool.or_eq_false_iff,Bool.and_eq_false_iff,decide_eq_false_iff_not]at h;omega)
 obtain⟨g,hg⟩:∃g,cntL n=g:=⟨_,rfl⟩
 have Hk:=key g hg
 rw[hg]at Hc0 Hall
 clear key hg
 cases g with
 |false=>
  have hr:=Hc0.out (by first|rfl|trivial)
  rcases Hk.out.2 (by first|rfl|trivial)with⟨k1,k2⟩|k1
  ·have g1:(4:Int)<(n:Int):=by omega
   have g2:(n:Int)≤12:=by omega
   clear Hc0 Hhit Hall Hk HX HLn
   go_enter Tryz.func11,Tryz.ntmps11
   go_wp2
   go_ret
   exact⟨by first|(rw[hr];rfl)|rfl,brf⟩
  ·have g1:(4:Int)<(n:Int):=by omega
   have g2:¬(n:Int)≤12:=by omega
   have g3:(15:Int)<(n:Int):=by omega
   clear Hc0 Hhit Hall Hk HX HLn
   go_enter Tryz.func11,Tryz.ntmps11
   go_wp2
   go_ret
   exact⟨by first|(rw[hr];rfl)|rfl,brf⟩
 |true=>
  have hk:=Hk.out.1 (by first|rfl|trivial)
  have g3:¬(15:Int)<(n:Int):=by omega
  have hn105:n≤15:=by omega
  by_cases hmn:n≤4
  ·have g4:¬(4:Int)<(n:Int):=by omega
   clear Hc0 Hk hk
   go_enter Tryz.func11,Tryz.ntmps11
   go_wp2
   go_loopw [3] (fun x wr=>∃k:Nat,k≤n∧x= .int .i64 k∧Below W.heap.size W wr∧Hid (∀i (hi:i<l.length),i<k→fewS 2 l[i]=true)) (fun x _=>n-(intOf x).toNat)
   case atStart=>exact⟨0,by omega,rfl,brf,YJ (fun i _ h=>by omega)⟩
   case round=>
    obtain⟨k,hk,rfl,hb,Hd⟩:=hrel
    by_cases hlt:k<n
    ·have g1:(k:Int)<(n:Int):=by omega
     have g2:(0:Int)≤(k:Int):=by omega
     have hil:k<l.length:=by have:=HN.out;omega
     obtain⟨b,off,rfl,hi4⟩:=HX.out (by omega)
     obtain⟨sv,e0,hs⟩:=hi4 k hil
     have e0:=ab hb e0
     have ze:=qaC wr _ e0
     simp only at ze
     have HS:Hid (Calls Tryz.prog 45 #[.agg #[sv], .int .i64 2] wr (Ret wr (.bool (fewS 2 l[k])))):=YJ (fewS_any 2 l[k] sv wr (by decide) (HLn k hil).out (hs.below hb))
     have Hh:=YJ (Hhit.out k hil)
     have Hst:Hid (fewS 2 l[k]=true→∀i (hi:i<l.length),i<k+1→fewS 2 l[i]=true):=YJ (fun h i hi hik=>by
      by_cases e:i=k
      ·subst e;exact h
      ·exact Hd.out i hi (by omega))
     obtain⟨sa,sn,sc,rfl, -⟩:=hs
     clear hi4 HX Hhit Hall Hd HLn
     generalize fewS 2 l[k]=sl at*
     go_wp2_with fail
     refine(HS.out).mono ?_
     rintro e w2 ⟨rfl,hb2⟩
     cases sl with
     |true=>
      have HF:=YJ (Hst.out rfl)
      clear HS Hh Hst
      go_wp2
      go_roundw
      case rel=>exact⟨k+1,by omega,by go_num,fB hb hb2,HF⟩
      case measure=>simp[intOf];try omega
     |false=>
      have hr:=Hh.out rfl
      have hw:=fB hb hb2
      clear HS Hh Hst
      go_wp2
      go_ret
      exact⟨by first|(rw[hr];rfl)|rfl,hw⟩
    ·obtain rfl:n=k:=by omega
     have hr:=Hall.out (by first|rfl|trivial) (fun i hi=>Hd.out i hi (by have:=HN.out;omega))
     clear HX Hhit Hall Hd HLn
     go_wp2
     go_ret
     exact⟨by first|(rw[hr];rfl)|rfl,hb⟩
  ·have g4:(4:Int)<(n:Int):=by omega
   have g5:¬(n:Int)≤12:=by omega
   clear Hc0 Hk hk
   go_enter Tryz.func11,Tryz.ntmps11
   go_wp2
   go_loopw [3] (fun x wr=>∃k:Nat,k≤n∧x= .int .i64 k∧Below W.heap.size W wr∧Hid (∀i (hi:i<l.length),i<k→fewS 2 l[i]=true)) (fun x _=>n-(intOf x).toNat)
   case atStart=>exact⟨0,by omega,rfl,brf,YJ (fun i _ h=>by omega)⟩
   case round=>
    obtain⟨k,hk,rfl,hb,Hd⟩:=hrel
    by_cases hlt:k<n
    ·have g1:(k:Int)<(n:Int):=by omega
     have g2:(0:Int)≤(k:Int):=by omega
     have hil:k<l.length:=by have:=HN.out;omega
     obtain⟨b,off,rfl,hi4⟩:=HX.out (by omega)
     obtain⟨sv,e0,hs⟩:=hi4 k hil
     have e0:=ab hb e0
     have ze:=qaC wr _ e0
     simp only at ze
     have HS:Hid (Calls Tryz.prog 45 #[.agg #[sv], .int .i64 2] wr (Ret wr (.bool (fewS 2 l[k])))):=YJ (fewS_any 2 l[k] sv wr (by decide) (HLn k hil).out (hs.below hb))
     have Hh:=YJ (Hhit.out k hil)
     have Hst:Hid (fewS 2 l[k]=true→∀i (hi:i<l.length),i<k+1→fewS 2 l[i]=true):=YJ (fun h i hi hik=>by
      by_cases e:i=k
      ·subst e;exact h
      ·exact Hd.out i hi (by omega))
     obtain⟨sa,sn,sc,rfl, -⟩:=hs
     clear hi4 HX Hhit Hall Hd HLn
     generalize fewS 2 l[k]=sl at*
     go_wp2_with fail
     refine(HS.out).mono ?_
     rintro e w2 ⟨rfl,hb2⟩
     cases sl with
     |true=>
      have HF:=YJ (Hst.out rfl)
      clear HS Hh Hst
      go_wp2
      go_roundw
      case rel=>exact⟨k+1,by omega,by go_num,fB hb hb2,HF⟩
      case measure=>simp[intOf];try omega
     |false=>
      have hr:=Hh.out rfl
      have hw:=fB hb hb2
      clear HS Hh Hst
      go_wp2
      go_ret
      exact⟨by first|(rw[hr];rfl)|rfl,hw⟩
    ·obtain rfl:n=k:=by omega
     have hr:=Hall.out (by first|rfl|trivial) (fun i hi=>Hd.out i hi (by have:=HN.out;omega))
     clear HX Hhit Hall Hd HLn
     go_wp2
     go_ret
     exact⟨by first|(rw[hr];rfl)|rfl,hb⟩
end
section
open Go.RowKit Go.Shelf
attribute [local go_sem] Ext.cell Ext.frozen
theorem slim_len {n:Nat} (h:slimB n=true):n≤20:=by
 unfold slimB at h
 simp only[Bool.or_eq_true,qaF,decide_eq_true_eq]at h
 omega
theorem fewS_len {m:Nat} {s:List (List Q4)} (hm:m≤100) (h:fewS m s=true):s.length≤105∧∀c∈s,c.length≤20:=by
 unfold fewS cntF at h
 simp only[Bool.or_eq_true,qaF,decide_eq_true_eq,alsi]at h
 exact⟨by omega,fun c hc=>slim_len (h.2 c hc)⟩
theorem fewL_len {l:List (List (List Q4))} (h:fewL l=true):l.length≤15∧∀s∈l,s.length≤105∧∀c∈s,c.length≤20:=by
 unfold fewL cntL at h
 simp only[Bool.or_eq_true,qaF,decide_eq_true_eq,alsi]at h
 exact⟨by omega,fun s hs=>fewS_len (by decide) (h.2 s hs)⟩
end
section
open Go.RowKit Go.Shelf Go.Lib
attribute [local go_sem] Ext.cell Ext.frozen
theorem slim_fewL {l:List (List (List Q4))} (hf:fewL l=true) (h:eB l=0):∀s∈l,s.length≤100∧∀c∈s,slimC c:=fun s hs=>by
 have h0:=(sq h).2 s hs
 refine⟨(xb h0).1,fun c hc=> ?_⟩
 have h1:=IL h0 c hc
 refine⟨h1, ?_⟩
 have h2:=(jx h1).1
 unfold fewL at hf
 rw[qaF,alsi]at hf
 have hf:=hf.2 s hs
 unfold fewS at hf
 rw[qaF,alsi]at hf
 have h3:=hf.2 c hc
 unfold slimB at h3
 simp only[Bool.or_eq_true,qaF,decide_eq_true_eq]at h3
 omega
theorem Ints.sl {w:World} {v:Value} {xs:List Int} (h:Ints w v xs):∃a n c,v= .slice a n c:=by obtain⟨a,n,c,rfl,_⟩:=h;exact⟨a,n,c,rfl⟩
end
section
open Go.RowKit Go.Shelf Go.Lib
set_option maxRecDepth 100000
attribute [local go_sem] Ext.cell Ext.frozen
theorem lkF_drop {ok:Nat→List Int→Bool} {ws:List (List Int)} {i:Nat} (h:i<ws.length):lkF ok i (ws.drop i)=if 200<ws[i].length then 8 else if ok i ws[i]=true then lkF ok (i+1) (ws.drop (i+1))else 26:=by
 rw[List.drop_eq_getElem_cons h]
 rfl
def clE (l:List (List (List Q4))) (cs:List Int) (ws:List (List Int)) (ok:Nat→List Int→Bool):Int:=if eB l≠0 then eB l else lkE l cs ws ok
theorem CheckLocked_any (l:List (List (List Q4))) (cs:List Int) (ws:List (List Int)) (lv cv wv:Value) (W:World) (hL:∀s∈l,∀c∈s,c.length≤1000000) (hcl:cs.length≤1000000) (hwl:ws.length≤1000000) (hww:∀w∈ws,w.length≤1000000) (h:SolsV W lv l) (hc:Ints W cv cs) (hw:Each W wv Ints ws) (hT:TabAt 1 Lib.deBruijn64tab W):
  Calls Tryz.prog 29 #[lv, .agg #[cv,wv]] W (Ret W (.int .i64 (clE l cs ws (okA (psB l) (nr cs))))):=by
 have HCk:=fun W' (h':Below W.heap.size W W')=>YJ (Gd l lv W' hL (SolsV.below h h'))
 have HSe:=fun W' (h':Below W.heap.size W W')=>YJ (En cs cv l.length W' hcl (hc.below h'))
 have HWy:=fun W'=>YJ (aWays_any W')
 have HSc:=fun(h0:eB l=0) W' (h':Below W.heap.size W W')=>YJ (scene_any W' h0 (SolsV.below h h'))
 have HGr:=fun(h0:eB l=0) (v:Q3) (hv:v∈ways26) (sb mb m0:Nat) (D:DataW Value) (pv:Value) (W':World) (hm:m0≤1000) k1 k2 k3=>YJ (sgraph_any h0 hv sb mb m0 D pv W' hm k1 k2 k3)
 have HSo:=fun(h0:eB l=0) (h1:gh cs l.length=0) W' (k:Ints W' cv cs)=>YJ (Cx cs cv W' (fun x hx=>by have:=DO h1 x hx;have:=(sq h0).1;omega) hcl k)
 have HCl:=fun(h0:eB l=0) (h1:gh cs l.length=0) (v:Q3) (gb:Nat) (wk:List Int) (wkv:Value) (W':World) (hl:wk.length≤1000) (k1:GphAt W' gb (eM (psB l) v)) (k2:Ints W' wkv wk)=>YJ (show Calls Tryz.prog 72 #[.slice (some ⟨gb,0,none⟩) l.length l.length,wkv, .int .u64 (nr cs:Nat)] W' (Ret W' (.bool (closedA (eM (psB l) v) (nr cs) wk)))from by
  have:=closed_any (eM (psB l) v) (nr cs) gb l.length wk wkv W' (gphB_lt h0 v) (by rw[gphB_len];exact(sq h0).1) (KX cs (fun x hx=>by have:=DO h1 x hx;have:=(sq h0).1;omega)) (by rw[gphB_len];exact qaA _) hl k1 k2
  rw[gphB_len]at this
  exact this)
 have Hgl:=fun v=>YJ (gphB_len l v)
 have HDr:=fun i (h:i<ws.length)=>YJ (@lkF_drop (okA (psB l) (nr cs)) ws i h)
 have HOk:=fun i (h:i<ways26.length) w=>YJ (show okA (psB l) (nr cs) i w=closedA (eM (psB l) ways26[i]) (nr cs) w from by unfold okA;rw[show ways26.getD i (0,0,0)=ways26[i] by simp[List.getD,h]])
 have HWm:=fun i (h:i<ways26.length)=>YJ (qaB h)
 have H12:=fun(h0:eB l=0)=>YJ (sq h0).1
 have He1:Hid (eB l≠0→clE l cs ws (okA (psB l) (nr cs))=eB l):=YJ (fun h=>by unfold clE;rw[if_pos h])
 have He2:Hid (eB l=0→gh cs l.length≠0→clE l cs ws (okA (psB l) (nr cs))=gh cs l.length):=YJ (fun h h2=>by unfold clE lkE;rw[if_neg (by simpa using h),if_pos h2])
 have He3:Hid (eB l=0→gh cs l.length=0→(cs.length<2∨ws.length≠26)→clE l cs ws (okA (psB l) (nr cs))=10):=YJ (fun h h2 h3=>by unfold clE lkE;rw[if_neg (by simpa using h),if_neg (by simpa using h2),if_pos h3])
 have He4:Hid (eB l=0→gh cs l.length=0→¬(cs.length<2∨ws.length≠26)→lkF (okA (psB l) (nr cs)) 0 (ws.drop 0)=clE l cs ws (okA (psB l) (nr cs))):=YJ (fun h h2 h3=>by unfold clE lkE;rw[if_neg (by simpa using h),if_neg (by simpa using h2),if_neg h3];rfl)
 have HlV:Hid (∃a n c,lv= .slice a n c∧l.length=n):=YJ (by obtain⟨a,n,c,rfl,hn,_⟩:=h;exact⟨a,n,c,rfl,hn⟩)
 obtain⟨la,ln,lc,rfl,hln⟩:=HlV.out
 have hc':=hc
 obtain⟨ca,cn,cc,rfl,hcn, -, -⟩:=hc'
 obtain⟨wa,wn,wc,rfl,hwn, -,hwx⟩:=hw
 have HWX:=YJ hwx
 have HC:=YJ hc
 have HWW:=fun i (h:i<ws.length)=>YJ (hww _ (qaB h))
 have Hwn:=YJ hwn
 have HT:=YJ hT
 have Hfin:Hid (ws.length=26→lkF (okA (psB l) (nr cs)) 26 (ws.drop 26)=0):=YJ (fun h=>by rw[show ws.drop 26=[]from List.drop_eq_nil_of_le (by omega)];rfl)
 rw[hln]at HSe HSo HCl H12 He2 He3 He4 Hgl
 rw[hcn,hwn]at He3 He4
 rw[hwn]at Hfin
 clear h hL hcl hwl hww hc hwx hT HlV hln hcn hwn
 generalize clE l cs ws (okA (psB l) (nr cs))=res at*
 obtain⟨ps,HP⟩:∃ps,Hid (psB l=ps):=⟨_,YJ rfl⟩
 rw[HP.out]at HSc HGr HCl Hgl HDr HOk He4 Hfin
 clear HP
 obtain⟨ok,Hok⟩:∃ok,Hid (okA ps (nr cs)=ok):=⟨_,YJ rfl⟩
 rw[Hok.out]at HDr HOk He4 Hfin
 generalize gh cs ln=D at*
 generalize nr cs=cl at*
 generalize eB l=A at*
 go_enter Tryz.func29,Tryz.ntmps29
 go_wp2_with fail
 refine((HCk _ bel).out).mono ?_
 rintro e w1 ⟨rfl,hb1⟩
 have hw1:Below W.heap.size W w1:=fB bel hb1
 have HB1:Hid (w1.heap[W.heap.size]? =some (.cells #[.slice ca cn cc, .slice wa wn wc] 53 (0,0))):=YJ ((hb1.block _ (by simp)).trans (ai rfl))
 clear HCk hb1
 by_cases hA:A=0
 ·subst hA
  have h12:=(H12 (by trivial)).out
  have HSc':=fun W' h'=>YJ (HSc (by trivial) W' h').out
  have HGr':=fun v hv sb mb m0 D pv W' hm k1 k2 k3=>YJ (HGr (by trivial) v hv sb mb m0 D pv W' hm k1 k2 k3).out
  have HSo':=fun h1 W' k=>YJ (HSo (by trivial) h1 W' k).out
  have HCl':=fun h1 v gb wk wkv W' hl k1 k2=>YJ (HCl (by trivial) h1 v gb wk wkv W' hl k1 k2).out
  have He2':=YJ (He2.out (by trivial))
  have He3':=YJ (He3.out (by trivial))
  have He4':=YJ (He4.out (by trivial))
  clear H12 HSc HGr HSo HCl He1 He2 He3 He4
  obtain⟨x0,x1,xz⟩:=xv HB1.out
  go_wp2_with fail
  refine((HSe _ hw1).out).mono ?_
  rintro e w2 ⟨rfl,hb2⟩
  have hw2:=fB hw1 hb2
  have HB2:=YJ ((hb2.block _ (ah HB1.out)).trans HB1.out)
  clear HSe x0 x1 xz hb2 HB1
  by_cases hD:D=0
  ·subst hD
   have HSo2:=fun W' k=>YJ (HSo' (by trivial) W' k).out
   have HCl2:=fun v gb wk wkv W' hl k1 k2=>YJ (HCl' (by trivial) v gb wk wkv W' hl k1 k2).out
   have He3a:=YJ (He3'.out (by trivial))
   have He4a:=YJ (He4'.out (by trivial))
   clear HSo' HCl' He2' He3' He4'
   go_wp2_with fail
   refine((HWy _).out).mono ?_
   rintro e w3 ⟨yv,rfl,hb3,ho3⟩
   have hw3:=fB hw2 hb3
   have HB3:=YJ ((hb3.block _ (ah HB2.out)).trans HB2.out)
   have hq:=qcv ho3
   have H26:Hid (ways26.length=26):=YJ rfl
   rw[H26.out]at ho3
   obtain⟨ya,yn,yc,rfl,hyn, -,hyx⟩:=hq
   have hyn':yn=26:=by rw[←hyn];exact H26.out
   subst hyn'
   have HY:=YJ hyx
   clear HWy ho3 hb3 HB2 hyx hyn
   obtain⟨x0,x1,xz⟩:=xv HB3.out
   by_cases hc2:cn<2
   ·have g1:(cn:Int)<2:=by omega
    obtain rfl:=He3a.out (.inl hc2)
    clear HSc' HGr' HSo2 HCl2 He4a HDr HOk HWm HY Hgl
    go_wp2
    go_ret
    exact⟨by first|rfl|trivial,hw3⟩
   ·have g1:¬(cn:Int)<2:=by omega
    by_cases hw26:wn=26
    ·subst hw26
     have hF0:=He4a.out (by omega)
     have HF0:=YJ hF0
     have Hfin':=YJ (Hfin.out (by trivial))
     clear He3a He4a hF0 Hfin
     go_wp2_with fail
     refine((HSc' _ hw3).out).mono ?_
     rintro e w4 ⟨sb,mb,pv,rfl,hb4,hS4,hM4,hmb,hsb,hne,hP4⟩
     have hw4:=fB hw3 hb4
     have HB4:=YJ ((hb4.block _ (ah HB3.out)).trans HB3.out)
     have HY4:Hid (0<26→∃b off,ya=some ⟨b,off,none⟩∧Q3At w4 b off ways26):=YJ (fun h=>by obtain⟨b,off,e,hi⟩:=HY.out h;exact⟨b,off,e,hi.below hb4⟩)
     have hmbz:mb<w4.heap.size:=by
      obtain⟨es,ck,h,_⟩:=hM4
      exact(alsl.1 h).1
     have hz3:=hw3.size
     have HM4:=YJ hM4
     have HS4:=YJ hS4
     have HP4:=YJ hP4
     have hsm:sb≠mb:=fun e=>hne e.symm
     have HMp:Hid (MapS w4 mb 0 (.map []) (eM ps)):=YJ (map_new hM4)
     have HCc:=fun(X:World) (hb:ButM mb w4 X)=>YJ (hb.ck HM4.out)
     have HIc:=fun(X:World) (hb:ButM mb w4 X)=>YJ (show Below W.heap.size W X from hw4.trans (hb.1.mono (by omega)))
     obtain⟨x0',x1',xz'⟩:=xv HB4.out
     clear HSc' x0 x1 xz HB3 HY hM4 hS4 hP4 hb4
     go_wp2
     generalize ways26=WS at*
     go_loopw [42] (fun x wr=>∃(i m:Nat) (D:DataW Value),i≤26∧x= .int .i64 i∧ButM mb w4 wr∧Hid (MapS wr mb m D (eM ps))∧m≤2*i∧Hid (lkF ok i (ws.drop i)=res)) (fun x _=>26-(intOf x).toNat)
     case atStart=>exact⟨0,0,_,by omega,rfl,ButM.refl _ _,HMp,by omega,HF0⟩
     case round=>
      obtain⟨i,m,Dmq,hi,rfl,hbm,HM,hm,HF⟩:=hrel
      have hck:=(HCc wr hbm).out
      have hbW:=(HIc wr hbm).out
      by_cases hlt:i<26
      ·have q1:(i:Int)<26:=by omega
       have q2:(0:Int)≤(i:Int):=by omega
       have hil:i<ws.length:=by rw[Hwn.out];exact hlt
       have hiW:i<WS.length:=by rw[H26.out];exact hlt
       obtain⟨b,off,rfl,hx⟩:=HWX.out (by omega)
       obtain⟨u,hu,hq⟩:=hx i hil
       have hqi:=hq
       obtain⟨ua,un,uc,rfl,hun, -, -⟩:=hq
       have d0:=ab hbW hu
       have z0:=qaC wr _ d0
       simp only at z0
       have hFd:=HF.out
       rw[(HDr i hil).out]at hFd
       have HFd:=YJ hFd
       have hokI:=(HOk i hiW ws[i]).out
       have hwi:=(HWW i hil).out
       obtain⟨b2,off2,rfl,hy⟩:=HY4.out (by omega)
       obtain⟨c0,c1,c2⟩:=hy i hiW
       have c0:=hck _ _ c0
       have c1:=hck _ _ c1
       have c2:=hck _ _ c2
       have hvm:=(HWm i hiW).out
       have k0:=hck _ _ x0'
       have kz:=qaC wr _ k0
       have cz:=qaC wr _ c0
       simp only at kz cz
       have HSr:=YJ ((hbm.2.2 _ (ah HS4.out) hsm).trans HS4.out)
       have HPr:=YJ (hck.pts HP4.out)
       clear HWX hx hu HY4 hy HDr HOk HWm hFd HF HWW
       generalize ws[i]=wk at*
       generalize WS[i]=v at*
       obtain⟨y0,y1,y2⟩:=v
       simp only at c0 c1 c2
       rw[hun]at HFd hwi
       by_cases h200:200<un
       ·have q3:(200:Int)<(un:Int):=by omega
        have hr:=HFd.out
        rw[if_pos h200]at hr
        subst hr
        clear HGr' HSo2 HCl2 HCc HIc HFd hokI
        go_wp2
        go_ret
        exact⟨by first|rfl|trivial,hbW⟩
       ·have q3:¬(200:Int)<(un:Int):=by omega
        have hr:=HFd.out
        rw[if_neg h200,hokI]at hr
        have hIk:=fun(X:World) (hb:Below W.heap.size W X)=>YJ (hqi.below hb)
        have HSx:=fun(X:World) (hb:Below W.heap.size W X)=>YJ (HSo2 X (HC.out.below hb)).out
        have HCx:=fun gb (X:World) (hb:Below W.heap.size W X) k1=>YJ (HCl2 (y0,y1,y2) gb wk _ X (by rw[hun];omega) k1 (hqi.below hb)).out
        obtain⟨G,HG⟩:∃G,Hid (eM ps (y0,y1,y2)=G):=⟨_,YJ rfl⟩
        have hgl:G.length=ln:=by rw[←HG.out];exact(Hgl _).out
        have HGx:=fun(X:World) (hb:Below wr.heap.size wr X)=>YJ ((HGr' (y0,y1,y2) hvm sb mb m Dmq pv X (by omega) ((hb.block _ (ah HSr.out)).trans HSr.out) (HM.out.kept hb) ((CK.of_below hb).pts HPr.out)).out.mono (fun e w' h=>show ∃(g m':Nat) (D':DataW Value),e= .returned (.slice (some ⟨g,0,none⟩) ln ln)∧Below mb X w'∧X.heap.size≤w'.heap.size∧(∀k,k<X.heap.size→k≠mb→w'.heap[k]? =X.heap[k]?)∧GphAt w' g G∧MapS w' mb m' D' (eM ps)∧m'≤m+2 from by
         obtain⟨g,m',D',he,r1,r2,r3,r4,r5,r6⟩:=h
         rw[(Hgl _).out]at he
         rw[HG.out]at r4
         exact⟨g,m',D',he,r1,r2,r3,r4,r5,r6⟩))
        rw[HG.out]at HCx hr
        obtain⟨cb,Hcb⟩:∃cb,Hid (closedA G cl wk=cb):=⟨_,YJ rfl⟩
        rw[Hcb.out]at HCx hr
        have HR:=YJ hr
        simp only[vW]at HGx
        clear HGr' HSo2 HCl2 hr HFd hokI hqi hIk Hgl
        go_wp2
        go_cut [51] (fun s wx=>s= .bool (!cb)∧∃(m5:Nat) (D5:DataW Value),ButM mb w4 wx∧Hid (MapS wx mb m5 D5 (eM ps))∧m5≤m+2)
        case first=>
         go_region_held (fun w'=>w'.cell? ⟨W.heap.size,0,none⟩=some (.slice ca cn cc)∧w'.cell? ⟨b2,off2+i*3,none⟩=some (.int .i64 y0)∧w'.cell? ⟨b2,off2+i*3+1,none⟩=some (.int .i64 y1)∧w'.cell? ⟨b2,off2+i*3+2,none⟩=some (.int .i64 y2)) (first|exact⟨ab hb57 (hk5 _ _ k0),ab hb57 (hk5 _ _ c0),ab hb57 (hk5 _ _ c1),ab hb57 (hk5 _ _ c2)⟩|exact⟨hk5 _ _ k0,hk5 _ _ c0,hk5 _ _ c1,hk5 _ _ c2⟩|exact⟨ab bel k0,ab bel c0,ab bel c1,ab bel c2⟩) (first|(have hs6':=hs6;go_at_call 72;refine((HCx g _ hbW5 hG5).out).mono ?_;rintro e w7 ⟨rfl,hb57⟩)|(have hG5':=hG5;go_at_call 65;refine((HSx _ hbW5).out).mono ?_;rintro e w6 ⟨rfl,rfl⟩;have hs6:True:=trivial)|(go_at_call 49;refine((HGx _ bel).out).mono ?_;rintro e w5 ⟨g,m5,D5,rfl,hb5,hs5,hk5',hG5,hM5,hm5⟩;have hbm5:ButM mb wr w5:=(ButM.of_below (by have:=hbm.2.1;omega) bel).trans ⟨hb5,hs5,hk5'⟩;have hk5:CK wr w5:=hbm5.ck HM.out.1;have hbm45:=hbm.trans hbm5;have hbW5:=(HIc w5 hbm45).out;have hz5:=hbm5.2.1))
         all_goals
          go_wp2_with fail
          go_meet
          exact⟨rfl,m5,D5,hbm45.trans (.of_below (by have:=hbm45.2.1;omega) hb57),YJ (hM5.kept hb57),by omega⟩
        case rest=>
         rename World=>w9
         obtain⟨rfl,m5,D5,hbm5,HM5,hm5⟩:=hcut
         have hbW9:=(HIc w9 hbm5).out
         have hr:=HR.out
         clear HGx HSx HCx HCc HIc HM HSr HPr HR
         cases cb with
         |true=>
          rw[if_pos rfl]at hr
          have HF9:=YJ hr
          clear hr
          go_wp2
          go_roundw
          case rel=>exact⟨i+1,m5,D5,by omega,by go_num,hbm5,HM5,by omega,HF9⟩
          case measure=>simp[intOf];try omega
         |false=>
          rw[if_neg (by simp)]at hr
          subst hr
          go_wp2
          go_ret
          exact⟨by first|rfl|trivial,hbW9⟩
      ·obtain rfl:i=26:=by omega
       have hr:=HF.out
       rw[Hfin'.out]at hr
       subst hr
       clear HGr' HSo2 HCl2 HCc HIc HDr HOk HWm HWX HY4
       go_wp2
       go_ret
       exact⟨by first|rfl|trivial,hbW⟩
    ·have g2:((wn:Int)==26)=false:=by simp;omega
     have g3:((wn:Int)!=26)=true:=by simp;omega
     obtain rfl:=He3a.out (.inr hw26)
     clear HSc' HGr' HSo2 HCl2 He4a HDr HOk HWm HY Hgl
     go_wp2
     go_ret
     exact⟨by first|rfl|trivial,hw3⟩
  ·have hD':(D !=0)=true:=by simpa using hD
   obtain rfl:=He2'.out hD
   clear HSc' HGr' HSo' HCl' He3' He4' HDr HOk HWm Hgl
   go_wp2
   go_ret
   exact⟨by first|rfl|trivial,hw2⟩
 ·have hA':(A !=0)=true:=by simpa using hA
  obtain rfl:=He1.out hA
  clear HSc HGr HSo HCl He2 He3 He4 HDr HOk HWm Hgl
  go_wp2
  go_ret
  exact⟨by first|rfl|trivial,hw1⟩
end
section
open Go.RowKit Go.Shelf Go.Lib
set_option maxRecDepth 100000
attribute [local go_sem] Ext.cell Ext.frozen
theorem nI_hasI (l:List Nat) (y:Int):(nI l).contains y=(decide (0≤y)&&l.contains y.toNat):=by
 rw[Bool.eq_iff_iff,qaF,List.contains_iff_mem,List.contains_iff_mem,decide_eq_true_eq]
 unfold nI
 rw[altt]
 constructor
 ·rintro⟨a,ha,rfl⟩
  exact⟨by omega,by simpa using ha⟩
 ·rintro⟨h0,h⟩
  exact⟨y.toNat,h,by omega⟩
theorem closedR_no1 {E:Nat→Nat→Bool} {cs wk:List Int} {k:Nat} (hk:k<cs.length) (h:wk.contains cs[k]=false):closedR E cs wk=false:=by
 unfold closedR
 rw[Bool.and_eq_false_iff]
 exact .inl (List.all_eq_false.2 ⟨cs[k],qaB hk,by rw[h];simp⟩)
theorem closedR_no2 {E:Nat→Nat→Bool} {cs wk:List Int} {k:Nat} (hk:k<wk.length) (h:chkR E cs wk k=false):closedR E cs wk=false:=by
 unfold closedR
 rw[Bool.and_eq_false_iff]
 exact .inr (List.all_eq_false.2 ⟨k,by simpa using hk,by rw[h];simp⟩)
theorem closedR_yes {E:Nat→Nat→Bool} {cs wk:List Int} (h1:∀k (h:k<cs.length),wk.contains cs[k]=true) (h2:∀k,k<wk.length→chkR E cs wk k=true):closedR E cs wk=true:=by
 unfold closedR
 rw[qaF,alsi,alsi]
 exact⟨fun x hx=>by
  obtain⟨k,hk,rfl⟩:=qaJ hx
  exact h1 k hk,fun k hk=>h2 k (by simpa using hk)⟩
theorem chkR_def (E:Nat→Nat→Bool) (cs wk:List Int) (k:Nat) (h:k<wk.length) (h2:(k+1) % wk.length<wk.length):chkR E cs wk k=(cs.contains wk[k]&&(decide (0≤wk[(k+1) % wk.length])&&E (wk[k]).toNat (wk[(k+1) % wk.length]).toNat)):=by
 unfold chkR getI
 simp[List.getD,h,h2]
theorem lkF_dropR {ok:Nat→List Int→Bool} {ws:List (List Int)} {i:Nat} (h:i<ws.length):lkF ok i (ws.drop i)=if 200<ws[i].length then 8 else if ok i ws[i]=true then lkF ok (i+1) (ws.drop (i+1))else 26:=by
 rw[List.drop_eq_getElem_cons h]
 rfl
theorem ints_at {w:World} {a:Option Addr} {n c:Nat} {xs:List Int} (h:Ints w (.slice a n c) xs):xs.length=n∧(0<n→∃b off,a=some ⟨b,off,none⟩∧∀i (hi:i<xs.length),w.cell? ⟨b,off+i,none⟩=some (.int .i64 xs[i])):=by
 obtain⟨_,_,_,e,hn,_,hx⟩:=h
 injection e with e1 e2 e3
 subst e1
 subst e2
 exact⟨hn,hx⟩
theorem rCheckLocked_any (l:List (List (List Q4))) (cs:List Int) (ws:List (List Int)) (gv cv wv:Value) (W:World) (hl:l.length≤1000) (hcl:cs.length≤1000000) (hwl:ws.length≤1000000) (hww:∀w∈ws,w.length≤1000000) (h1:GsV W gv (rgss l)) (hc:Ints W cv cs) (hw:Each W wv Ints ws):
  Calls Tryz.prog 28 #[gv, .int .i64 l.length, .agg #[cv,wv]] W (Ret W (.int .i64 (lkE l cs ws (okR l cs)))):=by
 obtain⟨V,HV⟩:∃V,Hid (W.alloc (.cells #[cv,wv] 53)=V):=⟨_,YJ rfl⟩
 have hV:Below W.heap.size W V:=by rw[←HV.out];exact bel
 have HB0:Hid (V.heap[W.heap.size]? =some (.cells #[cv,wv] 53 (0,0))):=YJ (by rw[←HV.out];exact ai rfl)
 have HSe:=fun W' (h':Below W.heap.size W W')=>YJ (rSetErr_any cs cv l.length W' hl hcl (hc.below h'))
 have HHc:=fun x W' (h':Below W.heap.size W W')=>YJ (show Calls Tryz.prog 68 #[cv, .int .i64 x] W' (Ret W' (.bool (cs.contains x)))from(has_any cv cs x W' hcl (hc.below h')).mono fun e w' h=>⟨h.1,h.2▸brf⟩)
 have HHw:=fun v xs x W' (hm:xs.length≤1000000) (h':Below W.heap.size W W') (k:Ints W v xs)=>YJ (show Calls Tryz.prog 68 #[v, .int .i64 x] W' (Ret W' (.bool (xs.contains x)))from(has_any v xs x W' hm (k.below h')).mono fun e w' h=>⟨h.1,h.2▸brf⟩)
 have HgsAt:=fun k (hk:k<ways26.length) (hk2:k<(rgss l).length)=>YJ (show(rgss l)[k]'hk2=rgphs l (ways26[k]'hk)from by simp[rgss])
 have Hrl:=YJ (rgss_len l)
 have HRow:=fun(v:Q3) (gi:Value) (X:Nat) (hX:X<l.length) (k:GrfV W gi (rgphs l v))=>YJ (show ∃gb go gn gc u,gi= .slice (some ⟨gb,go,none⟩) gn gc∧X<gn∧W.cell? ⟨gb,go+X,none⟩=some u∧NatV W u (UQ l v X)∧(UQ l v X).length≤1000 from by
  obtain⟨a,n,c,rfl,hn, -,hx⟩:=k
  have hn':n=l.length:=by rw[←hn,rgphs_len]
  obtain⟨b,off,rfl,hi⟩:=hx (by omega)
  obtain⟨u,h1,h2⟩:=hi X (by rw[rgphs_len];exact hX)
  have e:(rgphs l v)[X]'(by rw[rgphs_len];exact hX)=UQ l v X:=by simp[rgphs]
  rw[e]at h2
  exact⟨b,off,n,c,u,rfl,by omega,h1,h2,qaD (qdz _ _) (by simpa using hl)⟩)
 have HgE:=fun(v:Q3) (X:Nat) (hX:X<l.length) (y:Int)=>YJ (show(nI (UQ l v X)).contains y=(decide (0≤y)&&gE (rgphs l v) X y.toNat)from by
  rw[nI_hasI]
  unfold gE
  rw[show(rgphs l v).getD X []=UQ l v X by simp[rgphs,List.getD,hX]])
 have HN1:=fun(v:Q3) wk k (hk:k<cs.length)=>YJ (@closedR_no1 (gE (rgphs l v)) cs wk k hk)
 have HN2:=fun(v:Q3) (wk:List Int) k (hk:k<wk.length)=>YJ (@closedR_no2 (gE (rgphs l v)) cs wk k hk)
 have HYe:=fun(v:Q3) (wk:List Int)=>YJ (@closedR_yes (gE (rgphs l v)) cs wk)
 have HDf:=fun(v:Q3) (wk:List Int) k h h2=>YJ (chkR_def (gE (rgphs l v)) cs wk k h h2)
 have HDr:=fun i (h:i<ws.length)=>YJ (@lkF_dropR (okR l cs) ws i h)
 have HOk:=fun i (h:i<ways26.length) w=>YJ (show okR l cs i w=closedR (gE (rgphs l ways26[i])) cs w from by unfold okR;rw[show ways26.getD i (0,0,0)=ways26[i] by simp[List.getD,h]])
 have HIn:=fun(h:gh cs l.length=0) x (hx:cs.contains x=true)=>YJ (DO h x (by simpa using hx))
 have He2:Hid (gh cs l.length≠0→lkE l cs ws (okR l cs)=gh cs l.length):=YJ (fun h2=>by unfold lkE;rw[if_pos h2])
 have He3:Hid (gh cs l.length=0→(cs.length<2∨ws.length≠26)→lkE l cs ws (okR l cs)=10):=YJ (fun h2 h3=>by unfold lkE;rw[if_neg (by simpa using h2),if_pos h3])
 have He4:Hid (gh cs l.length=0→¬(cs.length<2∨ws.length≠26)→lkF (okR l cs) 0 (ws.drop 0)=lkE l cs ws (okR l cs)):=YJ (fun h2 h3=>by unfold lkE;rw[if_neg (by simpa using h2),if_neg h3];rfl)
 have Hfin:Hid (ws.length=26→lkF (okR l cs) 26 (ws.drop 26)=0):=YJ (fun h=>by rw[show ws.drop 26=[]from List.drop_eq_nil_of_le (by omega)];rfl)
 obtain⟨ga,gn,gc,rfl,hgn, -,hgx⟩:=h1
 obtain rfl:gn=26:=by rw[←hgn,rgss_len]
 have HG:=YJ hgx
 obtain⟨ca,cn,cc,rfl⟩:=Ints.sl hc
 obtain⟨hcn,hcx⟩:=ints_at hc
 have HC:=YJ hcx
 obtain⟨wa,wn,wc,rfl,hwn, -,hwx⟩:=hw
 have HWX:=YJ hwx
 have HWW:=fun i (h:i<ws.length)=>YJ (hww _ (qaB h))
 have Hwn:=YJ hwn
 have Hcn:=YJ hcn
 have H26:Hid (ways26.length=26):=YJ rfl
 obtain⟨N,HN⟩:∃N,Hid (l.length=N):=⟨_,YJ rfl⟩
 rw[HN.out]at HSe HRow HgE HIn He2 He3 He4 ⊢
 rw[hcn,hwn]at He3 He4
 rw[hwn]at Hfin
 rw[hcn]at hcl
 clear hwl hww hc hwx hwn hcn hcx hgx hgn
 obtain⟨ok,Hok⟩:∃ok,Hid (okR l cs=ok):=⟨_,YJ rfl⟩
 rw[Hok.out]at HDr HOk He2 He3 He4 Hfin ⊢
 generalize lkE l cs ws ok=res at*
 generalize gh cs N=D at*
 generalize ways26=WS at*
 go_enter Tryz.func28,Tryz.ntmps28
 go_wp2_with fail
 try rw[HV.out]
 refine((HSe _ hV).out).mono ?_
 rintro e w1 ⟨rfl,hb1⟩
 have hw1:=fB hV hb1
 have HB1:=YJ ((hb1.block _ (ah HB0.out)).trans HB0.out)
 clear HSe HB0 HV hV hb1
 obtain⟨x0,x1,xz⟩:=xv HB1.out
 by_cases hD:D=0
 ·subst hD
  have HIn':=fun x hx=>YJ (HIn (by trivial) x hx).out
  have He3':=YJ (He3.out (by trivial))
  have He4':=YJ (He4.out (by trivial))
  clear HIn He2 He3 He4
  by_cases hc2:cn<2
  ·have g1:(cn:Int)<2:=by omega
   obtain rfl:=He3'.out (.inl hc2)
   clear HHc HHw HgsAt HRow HgE HN1 HN2 HYe HDf HDr HOk HIn' He4'
   go_wp2
   go_ret
   exact⟨by first|rfl|trivial,hw1⟩
  ·have g1:¬(cn:Int)<2:=by omega
   by_cases hw26:wn=26
   ·subst hw26
    have HF0:=YJ (He4'.out (by omega))
    have Hfin':=YJ (Hfin.out (by trivial))
    clear He3' He4' Hfin
    go_wp2
    go_loopw [8] (fun x wr=>∃i:Nat,i≤26∧x= .int .i64 i∧Below w1.heap.size w1 wr∧Hid (lkF ok i (ws.drop i)=res)) (fun x _=>26-(intOf x).toNat)
    case atStart=>exact⟨0,by omega,rfl,brf,HF0⟩
    case round=>
     obtain⟨i,hi,rfl,hb,HF⟩:=hrel
     have hbW:=fB hw1 hb
     by_cases hlt:i<26
     ·have q1:(i:Int)<26:=by omega
      have q2:(0:Int)≤(i:Int):=by omega
      have hil:i<ws.length:=by rw[Hwn.out];exact hlt
      have hiW:i<WS.length:=by rw[H26.out];exact hlt
      obtain⟨b,off,rfl,hx⟩:=HWX.out (by omega)
      obtain⟨u,hu,hq⟩:=hx i hil
      obtain⟨ua,un,uc,rfl⟩:=Ints.sl hq
      obtain⟨hun,hux⟩:=ints_at hq
      have d0:=ab hbW hu
      have z0:=qaC wr _ d0
      simp only at z0
      have hFd:=HF.out
      rw[(HDr i hil).out,(HOk i hiW ws[i]).out]at hFd
      have HFd:=YJ hFd
      have hwi:=(HWW i hil).out
      obtain⟨gb,goff,rfl,hgx⟩:=HG.out (by omega)
      have hgl:i<(rgss l).length:=by rw[Hrl.out];exact hlt
      obtain⟨gi,e1,hgi⟩:=hgx i hgl
      rw[(HgsAt i hiW hgl).out]at hgi
      have HGi:=YJ hgi
      have HUx:=YJ hux
      have HQ:=YJ hq
      have k0:=ab hb x0
      have k1:=ab hb x1
      have kz:=qaC wr _ k0
      simp only at kz
      clear HWX hx hu HG hgx hgi HDr HOk hFd HF HWW HgsAt hux hq
      generalize ws[i]=wk at*
      generalize WS[i]=v at*
      have Hun:=YJ hun
      rw[hun]at HFd hwi
      by_cases h200:200<un
      ·have q3:(200:Int)<(un:Int):=by omega
       have hr:=HFd.out
       rw[if_pos h200]at hr
       subst hr
       clear HHc HHw HRow HgE HN1 HN2 HYe HDf HIn' HFd
       go_wp2
       go_ret
       exact⟨by first|rfl|trivial,hbW⟩
      ·have q3:¬(200:Int)<(un:Int):=by omega
       have hr:=HFd.out
       rw[if_neg h200]at hr
       have HR:=YJ hr
       have HHk:=fun x W' h'=>YJ (HHw _ wk x W' (by rw[Hun.out];omega) h' HQ.out).out
       have HN1v:=fun k hk=>YJ (HN1 v wk k hk).out
       have HN2v:=fun k hk=>YJ (HN2 v wk k hk).out
       have HYv:=YJ (HYe v wk).out
       have HDv:=fun k h h2=>YJ (HDf v wk k h h2).out
       clear HFd hr HN1 HN2 HYe HDf hun
       obtain⟨cb,Hcb⟩:∃cb,Hid (closedR (gE (rgphs l v)) cs wk=cb):=⟨_,YJ rfl⟩
       rw[Hcb.out]at HN1v HN2v HYv HR
       go_wp2
       go_loopw [10] (fun x ww=>∃k:Nat,k≤cn∧x= .int .i64 k∧Below wr.heap.size wr ww∧Hid (∀j (h:j<cs.length),j<k→wk.contains cs[j]=true)) (fun x _=>cn-(intOf x).toNat)
       case atStart=>exact⟨0,by omega,rfl,brf,YJ (fun j _ h=>by omega)⟩
       case round=>
        rename World=>ww
        obtain⟨k,hk,rfl,hbw,HK⟩:=hrel
        have hww:=fB hbW hbw
        have j0:=ab hbw k0
        have jz:=qaC ww _ j0
        simp only at jz
        by_cases hkc:k<cn
        ·have q4:(k:Int)<(cn:Int):=by omega
         have q5:(0:Int)≤(k:Int):=by omega
         have hkl:k<cs.length:=by rw[Hcn.out];exact hkc
         obtain⟨c1,co,rfl,hcx⟩:=HC.out (by omega)
         have e0:=ab hww (hcx k hkl)
         have ez:=qaC ww _ e0
         simp only at ez
         have HNk:=(HN1v k hkl)
         have HKs:Hid (wk.contains cs[k]=true→∀j (h:j<cs.length),j<k+1→wk.contains cs[j]=true):=YJ (fun h j hj hjk=>by
          by_cases e:j=k
          ·subst e;exact h
          ·exact HK.out j hj (by omega))
         clear HC hcx HK HN1v HN2v HYv HDv HRow HgE HIn' HHc
         generalize cs[k]=x at*
         have HCx:=YJ (HHk x ww hww).out
         obtain⟨hb9,Hb9⟩:∃hb9,Hid (wk.contains x=hb9):=⟨_,YJ rfl⟩
         rw[Hb9.out]at HCx HNk HKs
         clear HHk Hb9
         go_wp2_with fail
         refine(HCx.out).mono ?_
         rintro e w5 ⟨rfl,hb5⟩
         have hb15:=fB hbw hb5
         have hw5:=fB hww hb5
         clear HCx
         cases hb9 with
         |true=>
          have HK5:=YJ (HKs.out rfl)
          go_wp2
          go_roundw
          case rel=>exact⟨k+1,by omega,by go_num,hb15,HK5⟩
          case measure=>simp[intOf];try omega
         |false=>
          obtain rfl:=HNk.out rfl
          have hr:=HR.out
          rw[if_neg (by simp)]at hr
          subst hr
          clear HR
          go_wp2
          go_ret
          exact⟨by first|rfl|trivial,hw5⟩
        ·obtain rfl:k=cn:=by omega
         have HKa:Hid (∀j (h:j<cs.length),wk.contains cs[j]=true):=YJ (fun j h=>HK.out j h (by rw[Hcn.out]at h;exact h))
         have HY2:=YJ (fun h2=>HYv.out HKa.out h2)
         obtain⟨wo,rfl⟩:∃wo:World,wo=ww:=⟨_,rfl⟩
         clear HK HKa HYv HN1v HC
         go_wp2
         go_loopw [11] (fun x wz=>∃m:Nat,m≤un∧x= .int .i64 m∧Below wo.heap.size wo wz∧Hid (∀j,j<m→chkR (gE (rgphs l v)) cs wk j=true)) (fun x _=>un-(intOf x).toNat)
         case atStart=>exact⟨0,by omega,rfl,brf,YJ (fun j h=>by omega)⟩
         case round=>
          rename World=>wz
          obtain⟨m,hm,rfl,hbz,HM⟩:=hrel
          have hwz:=fB hww hbz
          by_cases hmu:m<un
          ·have q4:(m:Int)<(un:Int):=by omega
           have q5:(0:Int)≤(m:Int):=by omega
           have hml:m<wk.length:=by rw[Hun.out];exact hmu
           have hmm:(m+1) % wk.length<wk.length:=Nat.mod_lt _ (by omega)
           have hmz:(m+1) % un<un:=Nat.mod_lt _ (by omega)
           have q10:¬un=0:=by omega
           have hmod:(IntKind.i64.wrap ((m:Int)+1)).tmod (un:Int)=(((m+1) % un:Nat):Int):=by
            rw[IntWalk.i64_in _ (by omega),Int.tmod_eq_emod_of_nonneg (by omega)]
            first|exact(Int.natCast_mod (m+1) un).symm|exact(Int.natCast_emod (m+1) un).symm|(simp;done)
           obtain⟨ub,uo,rfl,hux⟩:=HUx.out (by omega)
           have f0:=ab hwz (hux m hml)
           have f1:=ab hwz (hux _ hmm)
           have fz:=qaC wz _ f0
           have f2:=ab hwz e1
           have fy:=qaC wz _ f2
           have f3:=ab hbz j0
           have fxq:=qaC wz _ f3
           simp only at fz fy fxq
           have HDk:=(HDv m hml hmm).out
           have HNk:=HN2v m hml
           have HMs:Hid (chkR (gE (rgphs l v)) cs wk m=true→∀j,j<m+1→chkR (gE (rgphs l v)) cs wk j=true):=YJ (fun h j hj=>by
            by_cases e:j=m
            ·subst e;exact h
            ·exact HM.out j (by omega))
           clear HUx hux HM HN2v HY2 HDv
           generalize chkR (gE (rgphs l v)) cs wk m=ck at*
           simp only[Hun.out]at f1 HDk
           generalize wk[m]=x at*
           generalize wk[(m+1) % un]'(by rw[Hun.out];exact hmz)=y at*
           have HCx2:=fun W' h'=>YJ (HHc x W' h').out
           generalize hcx:cs.contains x=cx at HCx2 HDk
           have Hcx:=YJ hcx
           clear hcx HHc
           cases cx with
           |false=>
            obtain rfl:=HNk.out (by rw[HDk];rfl)
            have hr:=HR.out
            rw[if_neg (by simp)]at hr
            subst hr
            clear HR HDk HMs HNk HHk HHw HRow HgE HIn'
            go_wp2
            refine wqb ?_
            repeat(first|go_big_quiet_step ((go_at_call 68;exact aE ((HCx2 _ (fB hwz (Ext.below _))).out)))|quiet_step ((go_at_call 68;exact aE ((HCx2 _ (fB hwz (Ext.below _))).out))))
            refine wqn fun u=> ?_
            have hbu:=fB hwz u.below
            go_wp2
            go_ret
            exact⟨by first|rfl|trivial,hbu⟩
           |true=>
            obtain⟨hx0,hxN⟩:=(HIn' x Hcx.out).out
            obtain⟨X,rfl⟩:∃X:Nat,x=(X:Int):=⟨x.toNat,by omega⟩
            have hXN:X<N:=by omega
            obtain⟨g2,o2,n2,c2,rv,rfl,hXg,hrc,hrv,hrl⟩:=(HRow v gi X hXN HGi.out).out
            have f4:=ab hwz hrc
            have fw:=qaC wz _ f4
            simp only at fw
            have q6:(X:Int)<(n2:Int):=by omega
            have q7:(0:Int)≤(X:Int):=by omega
            have q8:(((m+1) % un:Nat):Int)<(un:Int):=by omega
            have q9:(0:Int)≤(((m+1) % un:Nat):Int):=by omega
            rw[Int.toNat_natCast,Bool.true_and, ←(HgE v X hXN y).out]at HDk
            have HC2:=fun W' (h':Below W.heap.size W W')=>YJ (HHw rv (nI (UQ l v X)) y W' (by rw[nI_len];omega) h' hrv).out
            obtain⟨rva,rvn,rvc,rfl⟩:=Ints.sl hrv
            rw[←HDk]at HC2
            clear HDk HRow HgE HIn' HHw HHk hrc hrv hrl HGi Hcx hx0 hxN
            generalize(m+1) % un=mz at*
            go_wp2
            apply aj [] [0,1,2,3,4,5,6,7,8,9,10,11,12,13,14,15,16,17,18,19,20,21,22,23,24,25,26,27,28] 29 [] [sv _,sv _,sv _,sv _,sv _,sv _,sv _,sv _,sv _,sv _,sv _,sv _,sv _,sv _,sv _,sv _,sv _,sv _,sv _,sv _,sv _,sv _,sv _,sv _,sv _,sv _,sv _,sv _,sv _] (by kernel_rfl) (by kernel_rfl)
            iterate 6 ((try go_frame);refine wkQ ?_)
            try go_frame
            refine wkV ?_
            apply ex3
            ·intro u K hK
             go_simp
             refine((HCx2 _ (fB hwz u.below)).out).mono ?_
             rintro e w9 ⟨rfl,hb9⟩
             exact hK _ hb9
            rfl
            iterate 2 ((try go_frame);refine wkQ ?_)
            iterate 18 ((try go_frame);refine Ae rfl rfl (by simp) (by simp[Region.wanted,yielded]) ?_;apply ex3;(focus(intro u K hK;go_simp;exact hK _ brf));rfl)
            try go_frame
            refine Ae rfl rfl (by simp) (by simp[Region.wanted,yielded]) ?_
            apply ex3
            ·intro u K hK
             go_simp
             refine((HC2 _ (fB hwz u.below)).out).mono ?_
             rintro e w9 ⟨rfl,hb9⟩
             exact hK _ hb9
            rfl
            iterate 1 ((try go_frame);refine Ae rfl rfl (by simp) (by simp[Region.wanted,yielded]) ?_;apply ex3;(focus(intro u K hK;go_simp;exact hK _ brf));rfl)
            try go_frame
            refine aI (fun u hR=> ?_)
            have hbu:=fB hwz u.below
            have hbv:=fB hbz u.below
            clear hR
            simp only[oas]
            go_wp2
            refine NoPanic.normal ?_
            cases ck with
            |true=>
             have HM5:=YJ (HMs.out rfl)
             go_wp2
             go_roundw
             case rel=>exact⟨m+1,by omega,by go_num,hbv,HM5⟩
             case measure=>simp[intOf];try omega
            |false=>
             obtain rfl:=HNk.out rfl
             have hr:=HR.out
             rw[if_neg (by simp)]at hr
             subst hr
             clear HR
             go_wp2
             go_ret
             exact⟨by first|rfl|trivial,hbu⟩
          ·obtain rfl:m=un:=by omega
           have hcb:cb=true:=HY2.out (fun k hk=>HM.out k (by rw[Hun.out]at hk;exact hk))
           subst hcb
           have hr:=HR.out
           rw[if_pos rfl]at hr
           have HRn:=YJ hr
           have hbo:=fB hbw hbz
           have hbr:=fB hb hbo
           clear HR hr HY2 HM HUx HN2v HDv HHk HHw HHc HRow HgE HIn'
           go_wp2
           go_roundw
           case rel=>exact⟨i+1,by omega,by go_num,hbr,HRn⟩
           case measure=>simp[intOf];try omega
     ·obtain rfl:i=26:=by omega
      have hr:=HF.out
      rw[Hfin'.out]at hr
      subst hr
      clear HHc HHw HgsAt HRow HgE HN1 HN2 HYe HDf HDr HOk HIn' HWX HG
      go_wp2
      go_ret
      exact⟨by first|rfl|trivial,hbW⟩
   ·have g2:((wn:Int)==26)=false:=by simp;omega
    have g3:((wn:Int)!=26)=true:=by simp;omega
    obtain rfl:=He3'.out (.inr hw26)
    clear HHc HHw HgsAt HRow HgE HN1 HN2 HYe HDf HDr HOk HIn' He4'
    go_wp2
    go_ret
    exact⟨by first|rfl|trivial,hw1⟩
 ·have hD':(D !=0)=true:=by simpa using hD
  obtain rfl:=He2.out hD
  clear HHc HHw HgsAt HRow HgE HN1 HN2 HYe HDf HDr HOk HIn He3 He4
  go_wp2
  go_ret
  exact⟨by first|rfl|trivial,hw1⟩
end
section
open Go.RowKit Go.Shelf Go.Lib
attribute [local go_sem] Ext.cell Ext.frozen
def GrpQ (W w:World) (v:Value) (g:List Int):Prop:=Ints W v g∨w.ownsRow W.heap.size 3 1 v g.length (g.map (Value.int .i64))
theorem GrpQ.ints {W w:World} {v:Value} {g:List Int} (h:GrpQ W w v g) (hb:Below W.heap.size W w):Ints w v g:=h.elim (fun h=>h.below hb) (fun h=>jy h)
theorem GrpQ.below {W w w':World} {v:Value} {g:List Int} (h:GrpQ W w v g) (hb:Below w.heap.size w w'):GrpQ W w' v g:=h.imp id (fun h=>au h hb)
theorem GrpQ.kept {W w w':World} {v:Value} {g:List Int} {row:Option Nat} {T:TypeId} (hT:T≠3) (h:GrpQ W w v g) (hg:w.grownBy w' row) (hne:∀g cs,row=some g→w.heap[g]? =some cs→∃c t,cs= .cells c t (0,0)∧t=T):GrpQ W w' v g:=
 h.imp id (fun h=>Qu h hg (fun g cs k1 k2=>by obtain⟨c,t,h3,h4⟩:=hne g cs k1 k2;exact⟨c,t,h3,by rw[h4];exact hT⟩))
theorem RowsP.set {α:Type} {P:Value→α→Prop} {vs:List Value} {l:List α} {v:Value} {s:α} (h:RowsP P vs l) (hv:P v s) (k:Nat):RowsP P (vs.set k v) (l.set k s):=by
 refine⟨by simp[h.1],fun i h1 h2=> ?_⟩
 rw[List.getElem_set,List.getElem_set]
 split
 ·exact hv
 ·exact h.2 i (by simpa using h1) (by simpa using h2)
theorem ints_len {w:World} {a:Option Addr} {n c:Nat} {xs:List Int} (h:Ints w (.slice a n c) xs):xs.length=n:=by
 obtain⟨_,_,_,e,hn,_⟩:=h
 injection e with _ e2 _
 omega
end
section
open Go.RowKit Go.Shelf Go.Lib
set_option maxRecDepth 100000
attribute [local go_sem] Ext.cell Ext.frozen
def WkV (w:World) (v:Value) (xs:List Int):Prop:=Ints w v xs∧MW v
def OwnX (B:Nat) (w:World) (v:Value) (xs:List Int):Prop:=w.ownsRow B 3 1 v xs.length (xs.map (Value.int .i64))
theorem OwnX.below {B:Nat} {w w':World} {v:Value} {l:List Int} (h:OwnX B w v l) (hb:Below w.heap.size w w'):OwnX B w' v l:=au h hb
theorem OwnX.mono {B B':Nat} {w:World} {v:Value} {l:List Int} (h:OwnX B w v l) (hb:B'≤B):OwnX B' w v l:=AY h hb
theorem OwnX.ints {B:Nat} {w:World} {v:Value} {l:List Int} (h:OwnX B w v l):Ints w v l:=jy h
theorem OwnX.kept {B:Nat} {w w':World} {v:Value} {l:List Int} {row:Option Nat} {T:TypeId} (hT:T≠3) (h:OwnX B w v l) (hg:w.grownBy w' row) (hne:∀g cs,row=some g→w.heap[g]? =some cs→∃c t,cs= .cells c t (0,0)∧t=T):OwnX B w' v l:=
 Qu h hg (fun g cs k1 k2=>by obtain⟨c,t,h3,h4⟩:=hne g cs k1 k2;exact⟨c,t,h3,by rw[h4];exact hT⟩)
def IsOX (B:Nat) (xs:List Int):Value→World→Prop:=fun v w=>OwnX B w v xs
theorem stab_ox (B:Nat) (xs:List Int):dR (IsOX B xs):=fun _ _ _ hb h=>OwnX.below h hb
def SgX (B:Nat) (xs:List Int):Value→World→Prop:=fun v w=>∃g a n c,v= .slice (some ⟨g,0,none⟩) 1 1∧B≤g∧w.heap[g]? =some (.cells #[.slice a n c] 49 (0,0))∧OwnX B w (.slice a n c) xs
theorem stab_sx (B:Nat) (xs:List Int):dR (SgX B xs):=fun _ _ _ hb ⟨g,a,n,c,h1,h2,h3,h4⟩=>⟨g,a,n,c,h1,h2,(hb.block _ (ah h3)).trans h3,h4.below hb⟩
def IsGs (gs:List (List (List Nat))):Value→World→Prop:=fun v w=>(∃a n c,v= .slice a n c)∧GsV w v gs
theorem stab_gs (gs:List (List (List Nat))):dR (IsGs gs):=fun _ _ _ hb h=>⟨h.1,GsV.below h.2 hb⟩
def IsSs (l:List (List (List Q4))):Value→World→Prop:=fun v w=>(∃a n c,v= .slice a n c)∧SolsV w v l
theorem stab_ss (l:List (List (List Q4))):dR (IsSs l):=fun _ _ _ hb h=>⟨h.1,SolsV.below h.2 hb⟩
theorem wk_each {w:World} {v:Value} {ws:List (List Int)} (h:Each w v WkV ws):Each w v Ints ws:=Each.imp (fun _ _ h=>h.1) h
theorem AssemblyLocks_any (l:List (List (List Q4))) (lv:Value) (cs:List Int) (ws:List (List Int)) (cv wv:Value) (W:World) (hl:l.length≤maxLen) (hL:∀s∈l,s.length≤maxLen∧∀c∈s,c.length≤maxLen) (h:SolsV W lv l) (hcm:cs.length≤maxLen) (hc:WkV W cv cs) (hwm:ws.length≤maxLen) (hw:Each W wv WkV ws) (hww:∀w∈ws,w.length≤maxLen) (ht:Lib.TabIs Tryz.prog W "internal/strconv.uint64pow10" .u64 Lib.pow10Tab∧TabAt 1 Lib.deBruijn64tab W):
  Calls Tryz.prog 6 #[lv, .agg #[cv,wv]] W (Ret W (.bool true)):=by
 obtain⟨i1,hj0,hy0,hy1,hy2⟩:=info_parts info_ints
 have Hi1:=YJ (And.intro hj0 (And.intro hy0 (And.intro hy1 hy2)))
 clear hj0 hy0 hy1 hy2
 obtain⟨V,HV⟩:∃V,Hid (W.alloc (.cells #[cv,wv] 53)=V):=⟨_,YJ rfl⟩
 have hV:Below W.heap.size W V:=by rw[←HV.out];exact bel
 have HB0:Hid (V.heap[W.heap.size]? =some (.cells #[cv,wv] 53 (0,0))):=YJ (by rw[←HV.out];exact ai rfl)
 have HA:=YJ (Gv V (kl ht.1 hV) (ma ht.2 hV))
 have HF:=fun W' (hb:Below W.heap.size W W')=>YJ (fewL_any l lv W' hl (fun s hs=>(hL s hs).1) (SolsV.below h hb))
 have HC:=fun(hf:fewL l=true) W' (hb:Below W.heap.size W W')=>YJ (Py l lv W' (qaD (fewL_len hf).1 (by decide)) (fun s hs=>⟨qaD ((fewL_len hf).2 s hs).1 (by decide),fun c hc=>qaD (((fewL_len hf).2 s hs).2 c hc) (by decide)⟩) (SolsV.below h hb))
 have HCi:=fun(hx:cs.length≤20) W' (hb:Below W.heap.size W W')=>YJ (CopyInts_any cv cs W' (hc.1.below hb) hc.2 (by omega))
 have HCw:=fun i (h:i<ws.length) v W' (k:WkV W v ws[i]) (hx:ws[i].length≤210) (hb:Below W.heap.size W W')=>YJ (CopyInts_any v ws[i] W' (k.1.below hb) k.2 (by omega))
 have HK:=fun(hf:fewL l=true) (hx:cs.length≤20) (hy:ws.length≤30) (hz:∀w∈ws,w.length≤1000000) v v2 v3 W' (hb:Below W.heap.size W W') (hv:SolsV W' v l) (hv2:Ints W' v2 cs) (hv3:Each W' v3 Ints ws)=>YJ (CheckLocked_any l cs ws v v2 v3 W' (fun s hs c hc=>qaD (((fewL_len hf).2 s hs).2 c hc) (by decide)) (by omega) (by omega) hz hv hv2 hv3 (ma ht.2 hb))
 have HR:=fun(hf:fewL l=true) W' (hb:Below W.heap.size W W')=>YJ (PP l lv W' (fun s hs c hc=>qaD (((fewL_len hf).2 s hs).2 c hc) (by decide)) (SolsV.below h hb))
 rw[←QG]at HR
 have HGs:=fun(hf:fewL l=true) (h0:eB l=0) W' (hb:Below W.heap.size W W')=>YJ (rGraphs_any l lv W' (qaD (fewL_len hf).1 (by decide)) (slim_fewL hf h0) (SolsV.below h hb))
 have HRl:=fun(hf:fewL l=true) (hx:cs.length≤20) (hy:ws.length≤30) (hz:∀w∈ws,w.length≤1000000) gv W' (hb:Below W.heap.size W W') (k:GsV W' gv (rgss l))=>YJ (rCheckLocked_any l cs ws gv cv wv W' (qaD (fewL_len hf).1 (by decide)) (by omega) (by omega) hz k (hc.1.below hb) (Each.below (fun _ _ _ _ hb h=>Ints.below h hb) (wk_each hw) hb))
 have He1:Hid (eB l≠0→clE l cs ws (okA (psB l) (nr cs))=eB l):=YJ (fun h=>by unfold clE;rw[if_pos h])
 have He2:Hid (eB l=0→clE l cs ws (okA (psB l) (nr cs))=lkE l cs ws (okR l cs)):=YJ (fun h=>by unfold clE;rw[if_neg (by simpa using h),lkE_eq h])
 have Hlv:Hid (∃a n c,lv= .slice a n c∧l.length=n):=YJ (by obtain⟨a,n,c,rfl,hn,_⟩:=h;exact⟨a,n,c,rfl,hn⟩)
 obtain⟨la,ln,lc,rfl,hln⟩:=Hlv.out
 have hc1:=hc.1
 obtain⟨ca,cn,cc,rfl,hcn, -, -⟩:=hc1
 obtain⟨wa,wn,wc,rfl,hwn, -,hwx⟩:=hw
 have HWX:=YJ hwx
 have Hwn:=YJ hwn
 have HT:=fun i (h:i<ws.length)=>YJ (qaI h)
 have HTn:Hid (ws.take wn=ws):=YJ (by rw[←hwn];exact List.take_length)
 have Hlen:Hid ((∀j (h:j<ws.length),ws[j].length≤210)→∀w∈ws,w.length≤1000000):=YJ (fun h w hw=>by
  obtain⟨j,hj,rfl⟩:=qaJ hw
  have:=h j hj
  omega)
 rw[hcn]at HCi HK HRl hcm
 rw[hwn]at HK HRl hwm
 rw[hln]at HRl
 have Hcn:=YJ hcn
 clear h hl hL ht Hlv hc hww hwx hwn hcn hln
 generalize clE l cs ws (okA (psB l) (nr cs))=ce at*
 generalize lkE l cs ws (okR l cs)=re at*
 generalize fewL l=fl at*
 generalize eB l=ae at*
 go_enter Tryz.func6,Tryz.ntmps6
 go_wp2_with fail
 try rw[HV.out]
 refine(HA.out).mono ?_
 rintro e w1 ⟨rfl,hb1⟩
 have hw1:=fB hV hb1
 have HB1:=YJ ((hb1.block _ (ah HB0.out)).trans HB0.out)
 clear HA HB0 HV hb1
 go_wp2_with fail
 refine((HF _ hw1).out).mono ?_
 rintro e w2 ⟨rfl,hb2⟩
 have hw2:=fB hw1 hb2
 have HB2:=YJ ((hb2.block _ (ah HB1.out)).trans HB1.out)
 obtain⟨x0,x1,xz⟩:=xv HB2.out
 clear HF HB1
 cases fl with
 |false=>
  clear HC HCi HCw HK HR HGs HRl He1 He2 HWX HT Hlen
  go_wp2
  go_ret
  exact⟨ay (by simp),hw2⟩
 |true=>
  by_cases hx20:cn≤20
  ·have g1:¬(20:Int)<(cn:Int):=by omega
   by_cases hx30:wn≤30
   ·have g2:¬(30:Int)<(wn:Int):=by omega
    have HC':=fun W' hb=>YJ (HC (by first|rfl|trivial) W' hb).out
    have HCi':=YJ (HCi hx20 w2 hw2).out
    have HK':=fun hz v v2 v3 W' hb k1 k2 k3=>YJ (HK (by first|rfl|trivial) hx20 hx30 hz v v2 v3 W' hb k1 k2 k3).out
    have HR':=fun W' hb=>YJ (HR (by first|rfl|trivial) W' hb).out
    have HGs':=fun h0 W' hb=>YJ (HGs (by first|rfl|trivial) h0 W' hb).out
    have HRl':=fun hz gv W' hb k=>YJ (HRl (by first|rfl|trivial) hx20 hx30 hz gv W' hb k).out
    clear HC HCi HK HR HGs HRl
    go_wp2_with fail
    refine(HCi'.out).mono ?_
    rintro e w3 ⟨cp,rfl,hb3,ho3⟩
    have hw3:=fB hw2 hb3
    have HP3:Hid (Ints w3 cp cs):=YJ (jy (by rw[Hcn.out];exact ho3))
    have HB3:=YJ ((hb3.block _ (ah HB2.out)).trans HB2.out)
    obtain⟨cpa,cpc,rfl⟩:=aT ho3
    clear HCi' ho3 x0 x1 xz HB2
    go_wp2
    obtain⟨X,HX⟩:∃X,Hid (w3.alloc (.cells #[.slice cpa cn cpc, .slice none 0 0] 53)=X):=⟨_,YJ rfl⟩
    have hX:Below w3.heap.size w3 X:=by rw[←HX.out];exact bel
    have HD0:Hid (X.heap[w3.heap.size]? =some (.cells #[.slice cpa cn cpc, .slice none 0 0] 53 (0,0))):=YJ (by rw[←HX.out];exact ai rfl)
    have HDd:Hid (∃db,w3.heap.size=db):=YJ ⟨_,rfl⟩
    rw[HX.out]
    obtain⟨db,hdb⟩:=HDd.out
    rw[hdb]at HD0 ⊢
    have Hdb:=YJ hdb
    clear HX HDd hdb
    go_loopw [6] (fun x wr=>∃i:Nat,i≤wn∧x= .int .i64 i∧Below w3.heap.size w3 wr∧(∃dv vs,Hid (wr.heap[db]? =some (.cells #[.slice cpa cn cpc,dv] 53 (0,0)))∧Hid (wr.ownsRow (db+1) 49 1 dv i vs)∧Hid (RowsP (OwnX (db+1) wr) vs (ws.take i)))∧Hid (∀j (h:j<ws.length),j<i→ws[j].length≤210)) (fun x _=>wn-(intOf x).toNat)
    case atStart=>exact⟨0,by omega,rfl,hX,⟨_,[],HD0,YJ (qds _ _ _ _),YJ (by rw[qdu];exact RowsP.nil)⟩,YJ (fun j _ h=>by omega)⟩
    case round=>
     obtain⟨i,hi,rfl,hb,⟨dv,vs,HD,HO,HRw⟩,HS⟩:=hrel
     have hwr:=fB hw3 hb
     have HBr:=YJ ((hb.block _ (ah HB3.out)).trans HB3.out)
     obtain⟨b0,b1,bz⟩:=xv HBr.out
     obtain⟨oa,oc,rfl⟩:=aT HO.out
     obtain⟨d0,d1,dz⟩:=xv HD.out
     clear hX HD0
     by_cases hlt:i<wn
     ·have q1:(i:Int)<(wn:Int):=by omega
      have q2:(0:Int)≤(i:Int):=by omega
      have hil:i<ws.length:=by rw[Hwn.out];exact hlt
      obtain⟨b,off,rfl,hx⟩:=HWX.out (by omega)
      obtain⟨u,hu,hq⟩:=hx i hil
      obtain⟨ua,un,uc,rfl⟩:=hq.1.sl
      have hun:=ints_len hq.1
      have e0:=ab hwr hu
      have ez:=qaC wr _ e0
      simp only at ez
      have HCu:=fun(hx:un≤210) W' (h':Below W.heap.size W W')=>YJ (HCw i hil _ W' hq (by omega) h').out
      have HTi:=HT i hil
      have HSs:Hid (un≤210→∀j (h:j<ws.length),j<i+1→ws[j].length≤210):=YJ (fun h j hj hji=>by
       by_cases e:j=i
       ·subst e;omega
       ·exact HS.out j hj (by omega))
      clear HCw HT hx hu hq HS
      generalize ws[i]=wk at*
      have Hun:=YJ hun
      clear hun
      go_upto_region 10 with fail
      go_cut [52] (fun s wx=>∃bb:Bool,s= .bool bb∧(bb=false→un≤210)∧wx=wr)
      case first=>
       by_cases h40:40<un
       ·have r1:(40:Int)<(un:Int):=by omega
        by_cases h200:un≤200
        ·have r2:(un:Int)≤200:=by omega
         go_wp2_with fail
         go_meet
         exact⟨_,rfl,fun h=>by simp_all,rfl⟩
        ·have r2:¬(un:Int)≤200:=by omega
         go_wp2_with fail
         go_meet
         exact⟨_,rfl,fun h=>by simp at h;omega,rfl⟩
       ·have r1:¬(40:Int)<(un:Int):=by omega
        go_wp2_with fail
        go_meet
        exact⟨_,rfl,fun h=>by omega,rfl⟩
      case rest=>
       rename World=>wx
       obtain⟨bb,rfl,hbb,hwx⟩:=hcut
       have hwx':wr=wx:=hwx.symm
       subst hwx'
       clear hwx
       cases bb with
       |true=>
        clear HCu HTi HSs hbb
        go_wp2
        go_ret
        exact⟨ay (by simp),hwr⟩
       |false=>
        have hn210:=hbb rfl
        have HCx:=fun W' h'=>YJ (HCu hn210 W' h').out
        have HS2:=YJ (HSs.out hn210)
        clear HCu HSs hbb
        have hdz:db+1≤wr.heap.size:=ah HD.out
        go_wp2
        apply aj [] [0,1,2,3,4,5,6,7,8] 9 [10,11] [sv _,sv _,sv _,sv _,sv _,sv _,sv _,⟨IsOX wr.heap.size wk,by first|exact stab_ox _ _|exact stab_sx _ _|exact stab_gs _|exact stab_ss _⟩,⟨SgX wr.heap.size wk,by first|exact stab_ox _ _|exact stab_sx _ _|exact stab_gs _|exact stab_ss _⟩] (by kernel_rfl) (by kernel_rfl)
        iterate 7 ((try go_frame);refine wkQ ?_)
        try go_frame
        refine wkU (fun u hR K hK=> ?_) (fun o7=> ?_)
        ·clear hR
         go_simp
         refine((HCx _ (fB hwr u.below)).out).mono ?_
         rintro e w9 ⟨v9,rfl,hb9,ho9⟩
         exact hK _ _ hb9 (AY ho9 u.below.size)
        try go_frame
        refine wkU (fun u hR K hK=> ?_) (fun o8=> ?_)
        ·have h7:IsOX wr.heap.size wk o7 u.val:=hr hR 7
         clear hR
         have HP7:=YJ h7
         have zz:=u.below.size
         obtain⟨a7,c7,rfl⟩:=aT h7
         go_simp
         exact hK _ _ bel ⟨_,a7,_,c7,rfl,zz,ai rfl,HP7.out.below bel⟩
        try go_frame
        refine aI (fun u hR=> ?_)
        obtain⟨g8,a7,n7,c7,rfl,hg8,hh8,hp8⟩:SgX wr.heap.size wk o8 u.val:=hR 8 (by simp)
        have HH8:=YJ hh8
        have HP8:=YJ hp8
        have HDu:=YJ ((u.below.block _ (ah HD.out)).trans HD.out)
        have hbu:=fB hb u.below
        have HOu:=YJ (au HO.out u.below)
        have HRu:=YJ (HRw.out.imp fun _ _ h=>h.below u.below)
        have hzu:=u.below.size
        clear hR hh8 hp8 HD HO HRw HCx e0 ez b0 b1 bz d0 d1 dz HBr
        generalize u.val=wy at*
        clear u
        simp only[oas]
        refine fq _ rfl _ _ 37 rfl (db+1) 49 i1 (.slice none 0 0) 1 24 und_intss Hi1.out.1 Hi1.out.2.1 Hi1.out.2.2.1 Hi1.out.2.2.2 rfl (by decide) _ i vs rfl HOu.out ⟨g8,0,none⟩ 1 1 [.slice a7 n7 c7] rfl rfl (fun j u hu=>by rw[jY,ag HH8.out];simpa using hu) (fun u hu=>by simp at hu;subst hu;rfl) (by unfold maxLen;omega) (by omega) (by omega) ?_
        intro v' w4 hown4 hg4 _
        have hb4:Below w3.heap.size w3 w4:=hbu.grown hg4 hbu.size (fun z hz=>by have:=(HOu.out.lt z hz).1;have:=Hdb.out;omega)
        have HD4:=YJ ((hg4.block _ (ah HDu.out) (fun e=>aG HOu.out HDu.out (by decide) e.symm)).trans HDu.out)
        have HR4:Hid (RowsP (OwnX (db+1) w4) (vs++[.slice a7 n7 c7]) (ws.take (i+1))):=YJ (by
         rw[HTi.out]
         exact RowsP.snoc (HRu.out.imp fun _ _ h=>h.kept (T:=49) (by decide) hg4 (jC HOu.out)) ((HP8.out.mono hdz).kept (T:=49) (by decide) hg4 (jC HOu.out)))
        have HO4:=YJ hown4
        clear hown4 hg4 HOu HDu HRu HH8 HP8 HTi
        obtain⟨va,vc,rfl⟩:=aT HO4.out
        obtain⟨d0,d1,dz⟩:=xv HD4.out
        have df:=aC HD4.out
        go_wp2
        refine NoPanic.normal ?_
        go_wp2
        go_roundw
        case rel=>
         refine⟨i+1,by omega,by go_num,hb4.setCell (by show w3.heap.size≤db;rw[Hdb.out];exact qaA _) _,⟨.slice va (i+1) vc,_,YJ (by have:=Tu HD4.out 1 (.slice va (i+1) vc);simpa using this),YJ (aF HO4.out ⟨db,1,none⟩ _ (fun e=>absurd (HO4.out.lt db e.symm).1 (by omega))),YJ (HR4.out.imp fun _ _ h=>aF h ⟨db,1,none⟩ _ (fun e=>absurd (World.ownsRow.lt h db e.symm).1 (by omega)))⟩,HS2⟩
        case measure=>simp[intOf];try omega
     ·obtain rfl:i=wn:=by omega
      have HEa:Hid (Each wr (.slice oa i oc) Ints ws):=YJ (each_own HO.out Hwn.out.symm (by rw[←HTn.out];exact HRw.out.imp fun _ _ h=>h.ints))
      have Hz:=YJ (Hlen.out (fun j h=>HS.out j h (by rw[←Hwn.out];exact h)))
      have HPr:=YJ (HP3.out.below hb)
      have HRl2:=fun gv W' hb k=>YJ (HRl' Hz.out gv W' hb k).out
      have HK2:=fun v v2 v3 W' hb k1 k2 k3=>YJ (HK' Hz.out v v2 v3 W' hb k1 k2 k3).out
      clear HWX HT HCw HRl' HK' HS HO HRw HTn Hlen HP3 d0 d1 dz Hwn
      go_wp2_with fail
      refine((HR' _ hwr).out).mono ?_
      rintro e w5 ⟨rfl,hb5⟩
      have hw5:=fB hwr hb5
      have HB5:=YJ ((hb5.block _ (ah HBr.out)).trans HBr.out)
      have HD5:=YJ ((hb5.block _ (ah HD.out)).trans HD.out)
      have HE5:Hid (Each w5 (.slice oa i oc) Ints ws):=YJ (Each.below (fun _ _ _ _ hb h=>Ints.below h hb) HEa.out hb5)
      have HP5:=YJ (HPr.out.below hb5)
      clear HR' HBr HD HEa HPr b0 b1 bz
      go_upto_if 67 with fail
      go_cut [8] (fun s wx=>s= .int .i64 ce∧Below w5.heap.size w5 wx)
      case first=>
       obtain⟨b0,b1,bz⟩:=xv HB5.out
       by_cases hae:ae=0
       ·subst hae
        obtain rfl:=He2.out (by trivial)
        have HG5:=fun W' hb=>YJ (HGs' (by trivial) W' hb).out
        clear He1 He2 HGs' HK2 HC' HD5 HE5 HP5
        go_wp2
        apply aj [] [0,1,2,3,4,5] 6 [] [sv _,⟨IsGs (rgss l),by first|exact stab_ox _ _|exact stab_sx _ _|exact stab_gs _|exact stab_ss _⟩,sv _,sv _,sv _,sv _] (by kernel_rfl) (by kernel_rfl)
        ((try go_frame);refine wkQ ?_)
        try go_frame
        refine wkU (fun u hR K hK=> ?_) (fun o1=> ?_)
        ·clear hR
         go_simp
         refine((HG5 _ (fB hw5 u.below)).out).mono ?_
         rintro e w9 ⟨gv,rfl,hb9,hg9⟩
         exact hK _ _ hb9 ⟨by obtain⟨vs,h,_⟩:=hg9;obtain⟨a,c,h⟩:=aT h;exact⟨_,_,_,h⟩,hg9.gs⟩
        iterate 3 ((try go_frame);refine wkQ ?_)
        try go_frame
        refine wkR ?_
        apply ex3
        ·intro u hR K hK
         have h1:IsGs (rgss l) o1 u.val:=hr hR 1
         clear hR
         obtain⟨⟨a1,n1,c1,rfl⟩,hg1⟩:=h1
         go_simp
         refine((HRl2 _ _ (fB hw5 u.below) hg1).out).mono ?_
         rintro e w9 ⟨rfl,hb9⟩
         exact hK _ hb9
        rfl
        try go_frame
        refine aI (fun u hR=> ?_)
        have hbu:=u.below
        clear hR
        simp only[oas]
        go_wp2
        refine NoPanic.normal ?_
        go_wp2_with fail
        go_meet
        exact⟨rfl,hbu⟩
       ·have hae':((ae:Int)==0)=false:=by simpa using hae
        have hce:=He1.out hae
        clear He1 He2 HGs' HK2 HC' HRl2 HD5 HE5 HP5
        go_wp2_with fail
        go_meet
        exact⟨by rw[hce],brf⟩
      case rest=>
       rename World=>w6
       obtain⟨rfl,hb6⟩:=hcut
       have hw6:=fB hw5 hb6
       have HD6:=(hb6.block _ (ah HD5.out)).trans HD5.out
       have HE6:Hid (Each w6 (.slice oa i oc) Ints ws):=YJ (Each.below (fun _ _ _ _ hb h=>Ints.below h hb) HE5.out hb6)
       have HP6:=YJ (HP5.out.below hb6)
       obtain⟨d0,d1,dz⟩:=xv HD6
       clear He1 He2 HGs' HRl2 HD5 HE5 HP5 HB5 HD6
       go_wp2
       apply aj [] [0,1,2,3,4,5] 6 [] [sv _,⟨IsSs l,by first|exact stab_ox _ _|exact stab_sx _ _|exact stab_gs _|exact stab_ss _⟩,sv _,sv _,sv _,sv _] (by kernel_rfl) (by kernel_rfl)
       ((try go_frame);refine wkQ ?_)
       try go_frame
       refine wkU (fun u hR K hK=> ?_) (fun o1=> ?_)
       ·clear hR
        go_simp
        refine((HC' _ (fB hw6 u.below)).out).mono ?_
        rintro e w9 ⟨v9,rfl,hb9,hs9⟩
        exact hK _ _ hb9 ⟨by obtain⟨a,n,c,h,_⟩:=hs9;exact⟨a,n,c,h⟩,hs9⟩
       ((try go_frame);refine wkQ ?_)
       try go_frame
       refine wkR ?_
       apply ex3
       ·intro u hR K hK
        have h1:IsSs l o1 u.val:=hr hR 1
        clear hR
        obtain⟨⟨a1,n1,c1,rfl⟩,hs1⟩:=h1
        go_simp
        refine((HK2 _ _ _ _ (fB hw6 u.below) hs1 (HP6.out.below u.below) (Each.below (fun _ _ _ _ hb h=>Ints.below h hb) HE6.out u.below)).out).mono ?_
        rintro e w9 ⟨rfl,hb9⟩
        exact hK _ hb9
       rfl
       iterate 2 ((try go_frame);refine wkQ ?_)
       try go_frame
       refine aI (fun u hR=> ?_)
       have hwu:=fB hw6 u.below
       clear hR
       simp only[oas]
       go_wp2
       refine NoPanic.normal ?_
       go_wp2
       go_ret
       exact⟨ay (by simp),hwu⟩
   ·have g2:(30:Int)<(wn:Int):=by omega
    clear HC HCi HCw HK HR HGs HRl He1 He2 HWX HT Hlen
    go_wp2
    go_ret
    exact⟨ay (by simp),hw2⟩
  ·have g1:(20:Int)<(cn:Int):=by omega
   clear HC HCi HCw HK HR HGs HRl He1 He2 HWX HT Hlen
   go_wp2
   go_ret
   exact⟨ay (by simp),hw2⟩
end
end Go.Proofs.YtnpmkepfpekhfaaGreatDoor
