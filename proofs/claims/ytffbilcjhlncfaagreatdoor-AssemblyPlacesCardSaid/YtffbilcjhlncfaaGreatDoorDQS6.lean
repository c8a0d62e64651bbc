/- texts: Eq L6. -/
import Derived.Test.YtffbilcjhlncfaaGreatDoorDQS5
import Derived.Laws.StructEq
import Derived.ChangeKeysEq
namespace Go.Proofs.YtffbilcjhlncfaaGreatDoor
set_option maxHeartbeats 8000000
set_option linter.all false
section
open Go.RowKit
theorem oN:Tryz.prog.underlying 37=some (.array 3 3):=by kernel_rfl
theorem Gw:Tryz.prog.underlying 191=some (.array 3 3):=by kernel_rfl
theorem eJ:Tryz.prog.underlying 3=some (.int .i64):=by kernel_rfl
theorem fx:Tryz.prog.cellsOf 3=1:=by kernel_rfl
theorem lM:∃i,Tryz.prog.info? 3=some i:=Option.isSome_iff_exists.1 (by kernel_rfl)
theorem xg (x y z:Value) (w:World):(part 3 #[x,y,z] 0).run Tryz.prog w= .ok x w:=by kernel_rfl
theorem xh (x y z:Value) (w:World):(part 3 #[x,y,z] 1).run Tryz.prog w= .ok y w:=by kernel_rfl
theorem qfz (x y z:Value) (w:World):(part 3 #[x,y,z] 2).run Tryz.prog w= .ok z w:=by kernel_rfl
theorem lN (d:Nat) (a b c x y z:Int) (w:World):(Op.eqItems (d+1) 3 1 #[.int .i64 a, .int .i64 b, .int .i64 c] #[.int .i64 x, .int .i64 y, .int .i64 z] [0,1,2]).run Tryz.prog w= .ok (a==x&&b==y&&c==z) w:=by
 have h0:=fun p q=>run_equalIn_int w d _ .i64 _ p q eJ
 simp[Op.eqItems,xg,xh,qfz,h0]
 by_cases h1:a=x<;>by_cases h2:b=y<;>by_cases h3:c=z<;>simp[h1,h2,h3]
theorem xj (a b c x y z:Int) (w:World):(binOp .eql 191 (V3 a b c) (V3 x y z)).run Tryz.prog w= .ok (.bool (a==x&&b==y&&c==z)) w:=by
 obtain⟨i,hi⟩:=lM
 rw[run_eql_struct,run_equalIn_array w 9999 _ _ Gw hi,fx]
 rw[show List.range 3=[0,1,2]from rfl,lN 9998]
 rfl
theorem kL (a b c x y z:Int) (w:World):(Op.equalIn 10000 191 (.agg #[.int .i64 a, .int .i64 b, .int .i64 c]) (.agg #[.int .i64 x, .int .i64 y, .int .i64 z])).run Tryz.prog w= .ok (a==x&&b==y&&c==z) w:=by
 obtain⟨i,hi⟩:=lM
 rw[run_equalIn_array w 9999 _ _ Gw hi,fx]
 rw[show List.range 3=[0,1,2]from rfl,lN 9998]
theorem nL (a b c x y z:Int) (w:World):(Op.equalIn 10000 37 (.agg #[.int .i64 a, .int .i64 b, .int .i64 c]) (.agg #[.int .i64 x, .int .i64 y, .int .i64 z])).run Tryz.prog w= .ok (a==x&&b==y&&c==z) w:=by
 obtain⟨i,hi⟩:=lM
 rw[run_equalIn_array w 9999 _ _ oN hi,fx]
 rw[show List.range 3=[0,1,2]from rfl,lN 9998]
end
section
open Go.RowKit
attribute [local go_sem] Ext.cell Ext.frozen
set_option maxRecDepth 100000
theorem qD (x y z:Value) (w:World):(Instr.index 37 (.agg #[x,y,z]) (.int .i64 0)).run Tryz.prog w= .ok x w:=by kernel_rfl
theorem qE (x y z:Value) (w:World):(Instr.index 37 (.agg #[x,y,z]) (.int .i64 1)).run Tryz.prog w= .ok y w:=by kernel_rfl
theorem qF (x y z:Value) (w:World):(Instr.index 37 (.agg #[x,y,z]) (.int .i64 2)).run Tryz.prog w= .ok z w:=by kernel_rfl
theorem cH {a b c d:Int} (h:(a< -8∨8<a)∨(b< -8∨8<b)∨(c< -8∨8<c)∨(d< -10000000∨10000000<d)):bP (a,b,c,d)=2:=by
 unfold bP;exact if_pos (by simp only;omega)
theorem oO {a b c d:Int} (ha: -8≤a∧a≤8) (hb: -8≤b∧b≤8) (hc: -8≤c∧c≤8) (hd: -10000000≤d∧d≤10000000):bP (a,b,c,d)=if a=0∧b=0∧c=0 then 11 else 0:=by
 unfold bP;exact if_neg (by simp only;omega)
theorem lO (a b c d:Int) (w:World):Calls Tryz.prog 191 #[V4 a b c d] w (Ret w (.int .i64 (bP (a,b,c,d)))):=by
 go_enter Tryz.func191,Tryz.ntmps191
 go_wp2
 go_loop [12] (fun i=>∃k:Int,0≤k∧k≤3∧i= .int .i64 k∧(1≤k→ -8≤a∧a≤8)∧(2≤k→ -8≤b∧b≤8)∧(3≤k→ -8≤c∧c≤8)) (fun i=>3-(intOf i).toNat)
 case atStart=>exact⟨0,by omega,by omega,rfl,by omega,by omega,by omega⟩
 case round=>
  obtain⟨k,hk0,hk,rfl,h1,h2,h3⟩:=hrel
  have i0:=qD (.int .i64 a) (.int .i64 b) (.int .i64 c)
  have i1:=qE (.int .i64 a) (.int .i64 b) (.int .i64 c)
  have i2:=qF (.int .i64 a) (.int .i64 b) (.int .i64 c)
  rcases(by omega:k=0∨k=1∨k=2∨k=3)with rfl|rfl|rfl|rfl
  ·clear h1 h2 h3
   have hx:(a< -8∨8<a)∨(-8≤a∧a≤8):=by omega
   rcases hx with(hx|hx)|hx
   ·go_wp2
    go_ret
    exact⟨aK (cH (by omega)).symm,bel⟩
   ·go_wp2
    go_ret
    exact⟨aK (cH (by omega)).symm,bel⟩
   ·go_wp2
    go_round
    case rel=>exact⟨1,by omega,by omega,rfl,by omega,by omega,by omega⟩
    first|decide|(simp[intOf];done)
  ·have h1':=h1 (by omega)
   clear h1 h2 h3
   have hx:(b< -8∨8<b)∨(-8≤b∧b≤8):=by omega
   rcases hx with(hx|hx)|hx
   ·go_wp2
    go_ret
    exact⟨aK (cH (by omega)).symm,bel⟩
   ·go_wp2
    go_ret
    exact⟨aK (cH (by omega)).symm,bel⟩
   ·go_wp2
    go_round
    case rel=>exact⟨2,by omega,by omega,rfl,by omega,by omega,by omega⟩
    first|decide|(simp[intOf];done)
  ·have h1':=h1 (by omega)
   have h2':=h2 (by omega)
   clear h1 h2 h3
   have hx:(c< -8∨8<c)∨(-8≤c∧c≤8):=by omega
   rcases hx with(hx|hx)|hx
   ·go_wp2
    go_ret
    exact⟨aK (cH (by omega)).symm,bel⟩
   ·go_wp2
    go_ret
    exact⟨aK (cH (by omega)).symm,bel⟩
   ·go_wp2
    go_round
    case rel=>exact⟨3,by omega,by omega,rfl,by omega,by omega,by omega⟩
    first|decide|(simp[intOf];done)
  ·have h1':=h1 (by omega)
   have h2':=h2 (by omega)
   have h3':=h3 (by omega)
   clear h1 h2 h3 i0 i1 i2
   have hx:(d< -10000000∨10000000<d)∨(-10000000≤d∧d≤10000000):=by omega
   rcases hx with(hx|hx)|hx
   ·go_wp2
    go_ret
    exact⟨aK (cH (by omega)).symm,bel⟩
   ·go_wp2
    go_ret
    exact⟨aK (cH (by omega)).symm,bel⟩
   ·have Hp:=YJ (oO h1' h2' h3' hx)
    have hv:=xj a b c 0 0 0
    by_cases h0:a=0∧b=0∧c=0
    ·have hz:(a==0&&b==0&&c==0)=true:=by simp[h0]
     rw[hz]at hv
     have H0:=YJ h0
     clear h0 hz
     go_wp2_with (go_at_call 104;refine(Tx _ _ _ _ _).mono ?_;rintro e w1 ⟨rfl,hb1⟩)
     go_ret
     exact⟨aK (by rw[Hp.out,if_pos H0.out]),fB bel hb1⟩
    ·have hz:(a==0&&b==0&&c==0)=false:=by rw[Bool.eq_false_iff];simp;omega
     rw[hz]at hv
     go_wp2_with (go_at_call 104;refine(Tx _ _ _ _ _).mono ?_;rintro e w1 ⟨rfl,hb1⟩)
     go_ret
     exact⟨aK (by rw[Hp.out,if_neg h0]),fB bel hb1⟩
def lw (p:Int×Int×Int×Int):Bool:=decide (-300000*p.2.2.2≤p.1∧p.1≤300000*p.2.2.2)&&decide (-300000*p.2.2.2≤p.2.1∧p.2.1≤300000*p.2.2.2)&&decide (-300000*p.2.2.2≤p.2.2.1∧p.2.2.1≤300000*p.2.2.2)
theorem uF {x y z q:Int} (hx: -300000*q≤x∧x≤300000*q) (hy: -300000*q≤y∧y≤300000*q) (hz: -300000*q≤z∧z≤300000*q):lw (x,y,z,q)=true:=by simp[lw,hx,hy,hz]
theorem Ue {x y z q:Int} (h:(x< -300000*q∨300000*q<x)∨(y< -300000*q∨300000*q<y)∨(z< -300000*q∨300000*q<z)):lw (x,y,z,q)=false:=by
 rw[Bool.eq_false_iff];simp[lw];omega
theorem qG (x y z q:Int) (w:World) (hq:0≤q∧q≤1000000):Calls Tryz.prog 103 #[V4 x y z q] w (Ret w (.bool (lw (x,y,z,q)))):=by
 go_enter Tryz.func103,Tryz.ntmps103
 go_wp2
 go_loop [12] (fun i=>∃k:Int,0≤k∧k≤3∧i= .int .i64 k∧(1≤k→ -300000*q≤x∧x≤300000*q)∧(2≤k→ -300000*q≤y∧y≤300000*q)∧(3≤k→ -300000*q≤z∧z≤300000*q)) (fun i=>3-(intOf i).toNat)
 case atStart=>exact⟨0,by omega,by omega,rfl,by omega,by omega,by omega⟩
 case round=>
  obtain⟨k,hk0,hk,rfl,h1,h2,h3⟩:=hrel
  have i0:=qD (.int .i64 x) (.int .i64 y) (.int .i64 z)
  have i1:=qE (.int .i64 x) (.int .i64 y) (.int .i64 z)
  have i2:=qF (.int .i64 x) (.int .i64 y) (.int .i64 z)
  rcases(by omega:k=0∨k=1∨k=2∨k=3)with rfl|rfl|rfl|rfl
  ·clear h1 h2 h3
   have hx':(x< -300000*q∨300000*q<x)∨(-300000*q≤x∧x≤300000*q):=by omega
   rcases hx' with(hx'|hx')|hx'
   ·go_wp2
    go_ret
    exact⟨ay (Ue (by omega)).symm,bel⟩
   ·go_wp2
    go_ret
    exact⟨ay (Ue (by omega)).symm,bel⟩
   ·go_wp2
    go_round
    case rel=>exact⟨1,by omega,by omega,rfl,by omega,by omega,by omega⟩
    first|decide|(simp[intOf];done)
  ·have h1':=h1 (by omega)
   clear h1 h2 h3
   have hx':(y< -300000*q∨300000*q<y)∨(-300000*q≤y∧y≤300000*q):=by omega
   rcases hx' with(hx'|hx')|hx'
   ·go_wp2
    go_ret
    exact⟨ay (Ue (by omega)).symm,bel⟩
   ·go_wp2
    go_ret
    exact⟨ay (Ue (by omega)).symm,bel⟩
   ·go_wp2
    go_round
    case rel=>exact⟨2,by omega,by omega,rfl,by omega,by omega,by omega⟩
    first|decide|(simp[intOf];done)
  ·have h1':=h1 (by omega)
   have h2':=h2 (by omega)
   clear h1 h2 h3
   have hx':(z< -300000*q∨300000*q<z)∨(-300000*q≤z∧z≤300000*q):=by omega
   rcases hx' with(hx'|hx')|hx'
   ·go_wp2
    go_ret
    exact⟨ay (Ue (by omega)).symm,bel⟩
   ·go_wp2
    go_ret
    exact⟨ay (Ue (by omega)).symm,bel⟩
   ·go_wp2
    go_round
    case rel=>exact⟨3,by omega,by omega,rfl,by omega,by omega,by omega⟩
    first|decide|(simp[intOf];done)
  ·have h1':=h1 (by omega)
   have h2':=h2 (by omega)
   have h3':=h3 (by omega)
   clear h1 h2 h3 i0 i1 i2
   go_wp2
   go_ret
   exact⟨ay (uF h1' h2' h3').symm,bel⟩
end
end Go.Proofs.YtffbilcjhlncfaaGreatDoor
