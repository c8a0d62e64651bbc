/- texts: M1. -/
import Derived.Test.YtleamcmbhioedaaGreatDoorAWS11
namespace Go.Proofs.YtleamcmbhioedaaGreatDoor
set_option maxHeartbeats 8000000
set_option linter.unusedSimpArgs false
set_option linter.unusedVariables false
section
open Go.RowKit Go.Shelf
attribute [local go_sem] Ext.cell Ext.frozen
def mK (v:Q3):Int:=if(-1≤v.1∧v.1≤1)∧(-1≤v.2.1∧v.2.1≤1)∧(-1≤v.2.2∧v.2.2≤1)then(if v.1=0∧v.2.1=0∧v.2.2=0 then 11 else 0)else 2
def Cj (v:Q3):Prop:=(-1≤v.1∧v.1≤1)∧(-1≤v.2.1∧v.2.1≤1)∧(-1≤v.2.2∧v.2.2≤1)
theorem gL {a b c:Int} (h:(a< -1∨1<a)∨(b< -1∨1<b)∨(c< -1∨1<c)):mK (a,b,c)=2:=by
 unfold mK;exact if_neg (by simp only;omega)
theorem GD {a b c:Int} (ha: -1≤a∧a≤1) (hb: -1≤b∧b≤1) (hc: -1≤c∧c≤1):mK (a,b,c)=if a=0∧b=0∧c=0 then 11 else 0:=by
 unfold mK;exact if_pos (by simp only;omega)
theorem BN {v:Q3} (h:mK v=0):Cj v:=by
 unfold mK at h
 split at h
 ·assumption
 ·cases h
set_option maxRecDepth 100000 in
theorem wA (a b c:Int) (w:World):Calls Tryz.prog 29 #[V3 a b c] w (Ret w (.int .i64 (mK (a,b,c)))):=by
 go_enter Tryz.func29,Tryz.ntmps29
 go_wp2
 go_loop [12] (fun i=>∃k:Int,0≤k∧k≤3∧i= .int .i64 k∧(1≤k→ -1≤a∧a≤1)∧(2≤k→ -1≤b∧b≤1)∧(3≤k→ -1≤c∧c≤1)) (fun i=>3-(intOf i).toNat)
 case atStart=>exact⟨0,by omega,by omega,rfl,by omega,by omega,by omega⟩
 case round=>
  obtain⟨k,hk0,hk,rfl,h1,h2,h3⟩:=hrel
  have i0:=qD (.int .i64 a) (.int .i64 b) (.int .i64 c)
  have i1:=qE (.int .i64 a) (.int .i64 b) (.int .i64 c)
  have i2:=qF (.int .i64 a) (.int .i64 b) (.int .i64 c)
  rcases(by omega:k=0∨k=1∨k=2∨k=3)with rfl|rfl|rfl|rfl
  ·clear h1 h2 h3
   have hx:(a< -1∨1<a)∨(-1≤a∧a≤1):=by omega
   rcases hx with(hx|hx)|hx
   ·go_wp2
    go_ret
    exact⟨aK (gL (by omega)).symm,bel⟩
   ·go_wp2
    go_ret
    exact⟨aK (gL (by omega)).symm,bel⟩
   ·go_wp2
    go_round
    case rel=>exact⟨1,by omega,by omega,rfl,by omega,by omega,by omega⟩
    case measure=>first|decide|(simp[intOf];done)
  ·have h1':=h1 (by omega)
   clear h1 h2 h3
   have hx:(b< -1∨1<b)∨(-1≤b∧b≤1):=by omega
   rcases hx with(hx|hx)|hx
   ·go_wp2
    go_ret
    exact⟨aK (gL (by omega)).symm,bel⟩
   ·go_wp2
    go_ret
    exact⟨aK (gL (by omega)).symm,bel⟩
   ·go_wp2
    go_round
    case rel=>exact⟨2,by omega,by omega,rfl,by omega,by omega,by omega⟩
    case measure=>first|decide|(simp[intOf];done)
  ·have h1':=h1 (by omega)
   have h2':=h2 (by omega)
   clear h1 h2 h3
   have hx:(c< -1∨1<c)∨(-1≤c∧c≤1):=by omega
   rcases hx with(hx|hx)|hx
   ·go_wp2
    go_ret
    exact⟨aK (gL (by omega)).symm,bel⟩
   ·go_wp2
    go_ret
    exact⟨aK (gL (by omega)).symm,bel⟩
   ·go_wp2
    go_round
    case rel=>exact⟨3,by omega,by omega,rfl,by omega,by omega,by omega⟩
    case measure=>first|decide|(simp[intOf];done)
  ·have h1':=h1 (by omega)
   have h2':=h2 (by omega)
   have h3':=h3 (by omega)
   clear h1 h2 h3 i0 i1 i2
   have Hp:=Lib.hid (GD h1' h2' h3')
   clear h1' h2' h3'
   by_cases ex:a=0
   ·subst ex
    by_cases ey:b=0
    ·subst ey
     by_cases ez:c=0
     ·subst ez
      go_wp2
      go_ret
      exact⟨aK (by rw[Hp.out];simp),bel⟩
     ·go_wp2
      go_ret
      exact⟨aK (by rw[Hp.out,if_neg (by omega)]),bel⟩
    ·go_wp2
     go_ret
     exact⟨aK (by rw[Hp.out,if_neg (by omega)]),bel⟩
   ·go_wp2
    go_ret
    exact⟨aK (by rw[Hp.out,if_neg (by omega)]),bel⟩
theorem ER (x y z:Int) (W:World) (hx: -1≤x∧x≤1) (hy: -1≤y∧y≤1) (hz: -1≤z∧z≤1):Calls Tryz.prog 39 #[V3 x y z] W (Ret W (V3 (-x) (-y) (-z))):=by
 go_enter Tryz.func39,Tryz.ntmps39
 go_wp2
 refine bodyPost_ret (v:= .agg #[.int .i64 (-x), .int .i64 (-y), .int .i64 (-z)]) (by simp[results,Tryz.results39,go_sem]) rfl ⟨rfl, ?_⟩
 exact bel
def Ed (v:Q3):Value:=if mK v=0 then V3 (-v.1) (-v.2.1) (-v.2.2)else V3 0 0 0
theorem Ee (x y z:Int) (W:World):Calls Tryz.prog 19 #[V3 x y z] W (Ret W (.tuple #[Ed (x,y,z), .int .i64 (mK (x,y,z))])):=by
 have HC:=fun W'=>Lib.hid (wA x y z W')
 have Hok:=Lib.hid (@BN (x,y,z))
 obtain⟨ov,HO⟩:∃ov,Hid (Ed (x,y,z)=ov):=⟨_,Lib.hid rfl⟩
 have HO0:Hid (mK (x,y,z)=0→ov=V3 (-x) (-y) (-z)):=Lib.hid (fun h=>by rw[←HO.out,Ed,if_pos h])
 have HO1:Hid (mK (x,y,z)≠0→ov=V3 0 0 0):=Lib.hid (fun h=>by rw[←HO.out,Ed,if_neg h])
 rw[HO.out]
 clear HO
 generalize mK (x,y,z)=e at*
 go_enter Tryz.func19,Tryz.ntmps19
 go_wp2_with fail
 refine((HC _).out).mono ?_
 rintro en w1 ⟨rfl,hb1⟩
 have hw1:Below W.heap.size W w1:=ae bel hb1
 have hbb:=(hb1.block W.heap.size (by simp;omega)).trans ((aB (by simp)).trans (ai rfl))
 have hcc:=(hb1.block (W.heap.size+1) (by simp)).trans (ai (by simp))
 have HB:=Lib.hid hbb
 have HD:=Lib.hid hcc
 clear HC hb1 hbb hcc
 obtain⟨b0,b1,b2,bf,bz⟩:=dQ HB.out
 obtain⟨d0,d1,d2,df,dz⟩:=dQ HD.out
 by_cases h0:e=0
 ·subst h0
  obtain⟨hx,hy,hz⟩:=Hok.out rfl
  have hov:=HO0.out rfl
  subst hov
  have HP:=fun W'=>Lib.hid (ER x y z W' hx hy hz)
  clear Hok HO0 HO1
  go_wp2_with fail
  refine((HP _).out).mono ?_
  rintro en w2 ⟨rfl,hb2⟩
  have HD2:=Lib.hid ((hb2.block _ dz).trans HD.out)
  have hw2:=ae hw1 hb2
  clear b0 b1 b2 bf bz d0 d1 d2 df dz HP
  obtain⟨d0,d1,d2,df,dz⟩:=dQ HD2.out
  go_wp2
  refine bodyPost_ret (v:= .tuple #[V3 (-x) (-y) (-z), .int .i64 0]) (by simp[results,Tryz.results19,go_sem,V3,d0,d1,d2,dz]) rfl ⟨rfl, ?_⟩
  iterate 3 (refine Below.setCell ?_ (by first|exact Nat.le_refl _|exact Nat.le_succ _|(simp;done)|(simp;omega)) _)
  exact hw2
 ·have h0':(e !=0)=true:=by simpa using h0
  have hov:=HO1.out h0
  subst hov
  clear Hok HO0 HO1
  go_wp2
  refine bodyPost_ret (v:= .tuple #[V3 0 0 0, .int .i64 e]) (by simp[results,Tryz.results19,go_sem,V3,d0,d1,d2,dz]) rfl ⟨rfl, ?_⟩
  iterate 3 (refine Below.setCell ?_ (by first|exact Nat.le_refl _|exact Nat.le_succ _|(simp;done)|(simp;omega)) _)
  exact hw1
end
end Go.Proofs.YtleamcmbhioedaaGreatDoor
