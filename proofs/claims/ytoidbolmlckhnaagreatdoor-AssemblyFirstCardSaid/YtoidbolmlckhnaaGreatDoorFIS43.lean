/- texts: FG7. -/
import Derived.Test.YtoidbolmlckhnaaGreatDoorFIS42
namespace Go.Proofs.YtoidbolmlckhnaaGreatDoor
set_option maxHeartbeats 8000000
set_option linter.unusedSimpArgs false
set_option linter.unusedVariables false
section
open Go.RowKit Go.Shelf Go.Lib
set_option maxRecDepth 100000
attribute [local go_sem] Ext.cell Ext.frozen
theorem Vy (xs:List Int) (v:Value) (m:Nat) (W:World) (hm:m≤1000) (hl:xs.length≤1000000) (hv:Ints W v xs):
  Calls Tryz.prog 21 #[.int .i64 m,v] W (Ret W (.int .i64 (gh xs m))):=by
 have H6:=fun k (h:k<xs.length)=>Lib.hid (@Kc xs m k h)
 have H9:=fun h0 k (h:k<xs.length) (h1:1≤k)=>Lib.hid (@Kd xs m k h0 h h1)
 have H0:=Lib.hid (@Ke xs m)
 have HWi:=fun n b (h:decide ((0:Int)≤n∧n≤(m:Int)-1)=b) W'=>Lib.hid (ba h W')
 obtain⟨a,n,c,rfl,hn,_,hi⟩:=hv
 have HX:=Lib.hid hi
 have HN:=Lib.hid hn
 have q5:IntKind.i64.wrap ((m:Int)-1)=(m:Int)-1:=IntWalk.i64_in _ (by omega)
 clear hi hn
 generalize gh xs m=res at*
 go_enter Tryz.func21,Tryz.ntmps21
 go_wp2
 go_loopw [5] (fun x wr=>∃k:Nat,k≤n∧x= .int .i64 k∧Below W.heap.size W wr∧Hid (∀j (h:j<xs.length),j<k→0≤xs[j]∧xs[j]<m)) (fun x _=>n-(intOf x).toNat)
 case atStart=>exact⟨0,by omega,rfl,bel,Lib.hid (fun j _ h=>by omega)⟩
 case round=>
  obtain⟨k,hk,rfl,hb,Hd⟩:=hrel
  by_cases hlt:k<n
  ·have g1:(k:Int)<(n:Int):=by omega
   have g2:(0:Int)≤(k:Int):=by omega
   have hil:k<xs.length:=by have:=HN.out;omega
   obtain⟨b,off,rfl,hi4⟩:=HX.out (by omega)
   have e0:=ab hb (hi4 k hil)
   have ze:=World.block_lt_of_cell? wr _ e0
   simp only at ze
   have HK:=Lib.hid (H6 k hil).out
   have Hst:Hid (0≤xs[k]∧xs[k]<m→∀j (h:j<xs.length),j<k+1→0≤xs[j]∧xs[j]<m):=Lib.hid (fun h j hj hji=>by
    by_cases e:j=k
    ·subst e;exact h
    ·exact Hd.out j hj (by omega))
   clear HX H6 H9 H0 hi4 Hd
   generalize xs[k]=y at*
   by_cases y0:0≤y∧y<m
   ·have HC:=Lib.hid (HWi y true (by rw[decide_eq_true_eq];omega) wr).out
    clear HWi
    go_wp2_with fail
    refine(HC.out).mono ?_
    rintro e w1 ⟨rfl,rfl⟩
    clear HC
    go_wp2
    go_roundw
    case rel=>exact⟨k+1,by omega,by go_num,hb,Lib.hid (Hst.out y0)⟩
    case measure=>first|(simp[intOf];done)|(simp[intOf];omega)
   ·have HC:=Lib.hid (HWi y false (by rw[decide_eq_false_iff_not];omega) wr).out
    have hr:=HK.out (by omega)
    subst hr
    clear HWi
    go_wp2_with fail
    refine(HC.out).mono ?_
    rintro e w1 ⟨rfl,rfl⟩
    clear HC
    go_wp2
    go_ret
    exact⟨by first|rfl|trivial,hb⟩
  ·obtain rfl:k=n:=by omega
   have Hd2:Hid (∀j (h:j<xs.length),0≤xs[j]∧xs[j]<m):=Lib.hid (fun j h=>Hd.out j h (by have:=HN.out;omega))
   have H9b:=fun k (h:k<xs.length) (h1:1≤k)=>Lib.hid (H9 Hd2.out k h h1).out
   have H0b:=Lib.hid (H0.out Hd2.out)
   clear H6 H9 H0 Hd Hd2
   go_wp2
   go_loopw [6] (fun x ww=>∃i:Nat,1≤i∧i≤k+1∧x= .int .i64 i∧Below W.heap.size W ww∧Hid (∀j (h:j<xs.length),j<i→1≤j→xs[j-1]'(by omega)<xs[j])) (fun x _=>k+1-(intOf x).toNat)
   case atStart=>exact⟨1,by omega,by omega,rfl,hb,Lib.hid (fun j _ h h1=>by omega)⟩
   case round=>
    obtain⟨i,hi1,hik,rfl,hbw,Hd⟩:=hrel
    by_cases hin:i<k
    ·have g1:(i:Int)<(k:Int):=by omega
     have g2:(0:Int)≤(i:Int):=by omega
     have g3:(0:Int)≤(i:Int)-1:=by omega
     have hil:i<xs.length:=by have:=HN.out;omega
     obtain⟨b,off,rfl,hi4⟩:=HX.out (by omega)
     have e0:=ab hbw (hi4 i hil)
     have e1:=ab hbw (hi4 (i-1) (by omega))
     have ez:((i:Int)-1).toNat=i-1:=by omega
     have ez2:(i:Int)-1=((i-1:Nat):Int):=by omega
     have g5:i-1<k:=by omega
     have g6:(i:Int)-1<(k:Int):=by omega
     have ze:=World.block_lt_of_cell? _ _ e0
     have bw2:=fun(u:Ext _)=>fB hbw u.below
     simp only at ze
     have HK:=Lib.hid (H9b i hil hi1).out
     have Hst:Hid (xs[i-1]'(by omega)<xs[i]→∀j (h:j<xs.length),j<i+1→1≤j→xs[j-1]'(by omega)<xs[j]):=Lib.hid (fun h j hj hji h1=>by
      by_cases e:j=i
      ·subst e;exact h
      ·exact Hd.out j hj (by omega) h1)
     clear HX H9b H0b hi4 Hd HWi q5
     generalize xs[i]=y at*
     generalize xs[i-1]'(by omega)=z at*
     by_cases hyz:y≤z
     ·have hr:=HK.out hyz
      subst hr
      go_wp2
      have q5:IntKind.i64.wrap ((i-1:Nat):Int)=((i-1:Nat):Int):=IntWalk.i64_in _ (by have:=HN.out;omega)
      refine px (C:=fun w'=>∃u:Ext _,w'=u.val) [] [0,1,2,3,4,5,6,7,8] 9 [] (by kernel_rfl) (by kernel_rfl) ⟨Ext.drew,rfl⟩ ?_
      simp only[oas]
      repeat(refine zd (fun K' hK'=> ?_);go_simp;refine hK' _ ?_;clear hK' K')
      refine lG ?_
      repeat(first|go_big_quiet_step (fail)|quiet_step (fail))
      refine wpQuiet_nil ?_
      rintro _ ⟨u,rfl⟩
      have hbu:=bw2 u
      iterate 1 (refine wpList_step (fun K hK=> ?_);go_simp;refine hK _ _ ?_;clear hK K)
      refine NoPanic.normal ?_
      go_wp2
      go_ret
      exact⟨by first|rfl|trivial,hbu⟩
     ·go_wp2
      have q5:IntKind.i64.wrap ((i-1:Nat):Int)=((i-1:Nat):Int):=IntWalk.i64_in _ (by have:=HN.out;omega)
      refine px (C:=fun w'=>∃u:Ext _,w'=u.val) [] [0,1,2,3,4,5,6,7,8] 9 [] (by kernel_rfl) (by kernel_rfl) ⟨Ext.drew,rfl⟩ ?_
      simp only[oas]
      repeat(refine zd (fun K' hK'=> ?_);go_simp;refine hK' _ ?_;clear hK' K')
      refine lG ?_
      repeat(first|go_big_quiet_step (fail)|quiet_step (fail))
      refine wpQuiet_nil ?_
      rintro _ ⟨u,rfl⟩
      have hbu:=bw2 u
      iterate 1 (refine wpList_step (fun K hK=> ?_);go_simp;refine hK _ _ ?_;clear hK K)
      refine NoPanic.normal ?_
      go_wp2
      go_roundw
      case rel=>exact⟨i+1,by omega,by omega,by go_num,hbu,Lib.hid (Hst.out (by omega))⟩
      case measure=>first|(simp[intOf];done)|(simp[intOf];omega)
    ·have g1:¬(i:Int)<(k:Int):=by omega
     have hr:=H0b.out (fun j h h1=>Hd.out j h (by have:=HN.out;omega) h1)
     subst hr
     go_wp2
     go_ret
     exact⟨by first|rfl|trivial,hbw⟩
def SplA (w:World) (b off:Nat) (s:Spl):Prop:=∃gv ov,w.cell? ⟨b,off,none⟩=some gv∧w.cell? ⟨b,off+1,none⟩=some ov∧w.cell? ⟨b,off+2,none⟩=some (.int .i64 s.2.2.1)∧w.cell? ⟨b,off+3,none⟩=some (.int .i64 s.2.2.2.1)∧w.cell? ⟨b,off+4,none⟩=some (.int .i64 s.2.2.2.2)∧Ints w gv s.1∧Ints w ov s.2.1
theorem SplA.below {w w':World} {b off:Nat} {s:Spl} (h:SplA w b off s) (hb:Below w.heap.size w w'):SplA w' b off s:=by
 obtain⟨gv,ov,h1,h2,h3,h4,h5,h6,h7⟩:=h
 exact⟨gv,ov,ab hb h1,ab hb h2,ab hb h3,ab hb h4,ab hb h5,h6.below hb,h7.below hb⟩
theorem Wd (l:List Spl) (v v2:Value) (W:World) (hl:l.length≤1000000) (hs:∀s∈l,s.1.length≤1000000∧s.2.1.length≤1000000) (h1:Kj W v l) (h2:Kj W v2 l):
  Calls Tryz.prog 24 #[v,v2] W (Ret W (.bool true)):=by
 obtain⟨a,n,c,rfl,hn, -,hx⟩:=h1
 obtain⟨a2,n2,c2,rfl,hn2, -,hy⟩:=h2
 obtain rfl:n2=n:=by omega
 have HI:=fun xs v v2 W' (hm:xs.length≤1000000) (k1:Ints W' v xs) (k2:Ints W' v2 xs)=>Lib.hid (show Calls Tryz.prog 33 #[v,v2] W' (Ret W' (.bool true))from by have:=VU v v2 xs xs W' hm k1 k2;simpa using this)
 have HX:=Lib.hid hx
 have HY:=Lib.hid hy
 have HN:=Lib.hid hn
 have HS:=fun k (h:k<l.length)=>Lib.hid (hs _ (List.getElem_mem h))
 have hn1:n2≤1000000:=by omega
 clear hx hy hn hn2 hs hl
 go_enter Tryz.func24,Tryz.ntmps24
 go_wp2
 go_loopw [5] (fun x wr=>∃k:Nat,k≤n2∧x= .int .i64 k∧Below W.heap.size W wr) (fun x _=>n2-(intOf x).toNat)
 case atStart=>exact⟨0,by omega,rfl,Below.refl _ _⟩
 case round=>
  obtain⟨k,hk,rfl,hb⟩:=hrel
  by_cases hlt:k<n2
  ·have g1:(k:Int)<(n2:Int):=by omega
   have g2:(0:Int)≤(k:Int):=by omega
   have hil:k<l.length:=by have:=HN.out;omega
   obtain⟨b,off,rfl,hx⟩:=HX.out (by omega)
   obtain⟨b2,off2,rfl,hy⟩:=HY.out (by omega)
   have hsx:SplA W b (off+k*5) l[k]:=hx k hil
   have hsy:SplA W b2 (off2+k*5) l[k]:=hy k hil
   obtain⟨gv,ov,c0,c1,c2,c3,c4,i1,i2⟩:=hsx.below hb
   obtain⟨gv2,ov2,d0,d1,d2,d3,d4,i3,i4⟩:=hsy.below hb
   have HSk:=(HS k hil).out
   have HA1:=fun W' (h:Below wr.heap.size wr W')=>Lib.hid (HI _ gv gv2 W' HSk.1 (i1.below h) (i3.below h)).out
   have HA2:=fun W' (h:Below wr.heap.size wr W')=>Lib.hid (HI _ ov ov2 W' HSk.2 (i2.below h) (i4.below h)).out
   have z1:=World.block_lt_of_cell? wr _ c0
   have z2:=World.block_lt_of_cell? wr _ d0
   simp only at z1 z2
   obtain⟨_,_,_,rfl, -⟩:=i1
   obtain⟨_,_,_,rfl, -⟩:=i2
   obtain⟨_,_,_,rfl, -⟩:=i3
   obtain⟨_,_,_,rfl, -⟩:=i4
   clear hx hy hsx hsy HX HY HI HS HSk
   generalize l[k]=s at*
   obtain⟨sg,so,sx,sy,sz⟩:=s
   simp only at c2 c3 c4 d2 d3 d4
   go_wp2
   apply aj [] [0,1,2,3,4,5,6,7,8,9,10,11,12,13,14,15,16,17,18,19,20,21,22,23,24,25,26,27,28,29,30,31,32,33,34,35,36,37] 38 [] [sv _,sv _,sv _,sv _,sv _,sv _,sv _,sv _,sv _,sv _,sv _,sv _,sv _,sv _,sv _,sv _,sv _,sv _,sv _,sv _,sv _,sv _,sv _,sv _,sv _,sv _,sv _,sv _,sv _,sv _,sv _,sv _,sv _,sv _,sv _,sv _,sv _,sv _] (by kernel_rfl) (by kernel_rfl)
   iterate 10 ((try go_frame);refine wkQ ?_)
   try go_frame
   refine wkV ?_
   apply ex3
   ·intro u K hK
    go_simp
    refine((HA1 _ u.below).out).mono ?_
    rintro e w9 ⟨rfl,hb9⟩
    exact hK _ hb9
   rfl
   iterate 2 ((try go_frame);refine wkQ ?_)
   iterate 10 ((try go_frame);refine Ae rfl rfl (by simp) (by simp[Region.wanted,yielded]) ?_;apply ex3;(focus(intro u K hK;go_simp;exact hK _ brf));rfl)
   try go_frame
   refine Ae rfl rfl (by simp) (by simp[Region.wanted,yielded]) ?_
   apply ex3
   ·intro u K hK
    go_simp
    refine((HA2 _ u.below).out).mono ?_
    rintro e w9 ⟨rfl,hb9⟩
    exact hK _ hb9
   rfl
   iterate 1 ((try go_frame);refine Ae rfl rfl (by simp) (by simp[Region.wanted,yielded]) ?_;apply ex3;(focus(intro u K hK;go_simp;exact hK _ brf));rfl)
   iterate 2 ((try go_frame);refine wkQ ?_)
   iterate 11 ((try go_frame);refine Ae rfl rfl (by simp) (by simp[Region.wanted,yielded]) ?_;apply ex3;(focus(intro u K hK;go_simp;exact hK _ brf));rfl)
   try go_frame
   refine aI (fun u hR=> ?_)
   have hbu:=fB hb u.below
   clear hR HA1 HA2 c0 c1 c2 c3 c4 d0 d1 d2 d3 d4 z1 z2
   generalize u.val=w5 at*
   clear u
   simp only[oas]
   go_wp2
   refine NoPanic.normal ?_
   go_wp2
   go_roundw
   case rel=>exact⟨k+1,by omega,by go_num,hbu⟩
   case measure=>first|(simp[intOf];done)|(simp[intOf];omega)
  ·obtain rfl:k=n2:=by omega
   clear HX HY HI HS
   go_wp2
   go_ret
   exact⟨by first|rfl|trivial,hb⟩
end
end Go.Proofs.YtoidbolmlckhnaaGreatDoor
