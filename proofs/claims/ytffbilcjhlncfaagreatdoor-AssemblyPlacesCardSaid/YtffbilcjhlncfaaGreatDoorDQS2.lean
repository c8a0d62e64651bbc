/- texts: L1 L2. -/
import Derived.Test.YtffbilcjhlncfaaGreatDoorRows
import Derived.Test.YtffbilcjhlncfaaGreatDoorDQS1
namespace Go.Proofs.YtffbilcjhlncfaaGreatDoor
set_option maxHeartbeats 8000000
set_option linter.all false
section
open Go.RowKit
attribute [local go_sem] Ext.cell Ext.frozen
theorem sI (a b c d x y z q:Int) (w:World) (ha: -8≤a∧a≤8) (hb: -8≤b∧b≤8) (hc: -8≤c∧c≤8) (hd: -10000000≤d∧d≤10000000)
  (hx: -10000000000≤x∧x≤10000000000) (hy: -10000000000≤y∧y≤10000000000) (hz: -10000000000≤z∧z≤10000000000) (hq: -1000000≤q∧q≤1000000):
  Calls Tryz.prog 140 #[.agg #[.int .i64 a, .int .i64 b, .int .i64 c, .int .i64 d], .agg #[.int .i64 x, .int .i64 y, .int .i64 z, .int .i64 q]] w (Ret w (.int .i64 (sgn (a*x+b*y+c*z) (d*q)))):=by
 have h1:=aJ ha.1 ha.2 hx.1 hx.2
 have h2:=aJ hb.1 hb.2 hy.1 hy.2
 have h3:=aJ hc.1 hc.2 hz.1 hz.2
 have h4:=aJ hd.1 hd.2 hq.1 hq.2
 clear ha hb hc hd hx hy hz hq
 simp only[Int.reduceMul,Int.reduceNeg]at h1 h2 h3 h4
 go_enter Tryz.func140,Tryz.ntmps140
 go_wp2
 refine wqf fun u=> ?_
 go_wp2
 all_goals go_ret
 ·exact⟨aK (ux (by assumption)).symm,fB ((brf).alloc (qaA _) _ |>.alloc (by simp) _) u.below⟩
 ·exact⟨aK (uy (by assumption)).symm,fB ((brf).alloc (qaA _) _ |>.alloc (by simp) _) u.below⟩
 ·exact⟨aK (LK (by omega) (by omega)).symm,fB ((brf).alloc (qaA _) _ |>.alloc (by simp) _) u.below⟩
abbrev V3 (a b c:Int):Value:= .agg #[.int .i64 a, .int .i64 b, .int .i64 c]
abbrev V4 (a b c d:Int):Value:= .agg #[.int .i64 a, .int .i64 b, .int .i64 c, .int .i64 d]
theorem Tx (a b c d:Int) (w:World):Calls Tryz.prog 104 #[V4 a b c d] w (Ret w (V3 a b c)):=by
 go_enter Tryz.func104,Tryz.ntmps104
 go_wp2
 refine bodyPost_ret (v:=V3 a b c) (by simp[results,Tryz.results104,go_sem]) rfl ⟨rfl, ?_⟩
 exact bel
theorem iw (a b c x y z:Int) (w:World) (ha: -1000≤a∧a≤1000) (hb: -1000≤b∧b≤1000) (hc: -1000≤c∧c≤1000)
  (hx: -1000≤x∧x≤1000) (hy: -1000≤y∧y≤1000) (hz: -1000≤z∧z≤1000):
  Calls Tryz.prog 198 #[V3 a b c,V3 x y z] w (Ret w (V3 (b*z-c*y) (c*x-a*z) (a*y-b*x))):=by
 have h1:=aJ hb.1 hb.2 hz.1 hz.2
 have h2:=aJ hc.1 hc.2 hy.1 hy.2
 have h3:=aJ hc.1 hc.2 hx.1 hx.2
 have h4:=aJ ha.1 ha.2 hz.1 hz.2
 have h5:=aJ ha.1 ha.2 hy.1 hy.2
 have h6:=aJ hb.1 hb.2 hx.1 hx.2
 clear ha hb hc hx hy hz
 go_enter Tryz.func198,Tryz.ntmps198
 go_wp2
 refine bodyPost_ret (v:=V3 (b*z-c*y) (c*x-a*z) (a*y-b*x)) (by simp[results,Tryz.results198,go_sem]) rfl ⟨rfl, ?_⟩
 exact bel
theorem Ud (a b c x y z:Int) (w:World) (ha: -1000≤a∧a≤1000) (hb: -1000≤b∧b≤1000) (hc: -1000≤c∧c≤1000)
  (hx: -10000000000≤x∧x≤10000000000) (hy: -10000000000≤y∧y≤10000000000) (hz: -10000000000≤z∧z≤10000000000):
  Calls Tryz.prog 105 #[V3 a b c,V3 x y z] w (Ret w (.int .i64 (a*x+b*y+c*z))):=by
 have h1:=aJ ha.1 ha.2 hx.1 hx.2
 have h2:=aJ hb.1 hb.2 hy.1 hy.2
 have h3:=aJ hc.1 hc.2 hz.1 hz.2
 clear ha hb hc hx hy hz
 go_enter Tryz.func105,Tryz.ntmps105
 go_wp2
 go_ret
 refine⟨rfl, ?_⟩
 exact bel
theorem sJ (a:Int) (w:World):Calls Tryz.prog 230 #[.int .i64 a] w fun e w'=>e= .returned (.bool false)∧w=w':=by
 go_enter Tryz.func230,Tryz.ntmps230
 go_wp2
 go_ret
 exact⟨rfl,rfl⟩
theorem eO (a b:Int) (w:World):Calls Tryz.prog 197 #[.int .i64 a, .int .i64 b] w fun e w'=>e= .returned (.int .i64 (sgn a b))∧w=w':=by
 go_enter Tryz.func197,Tryz.ntmps197
 go_wp2_with (go_at_call 230;refine(sJ _ _).mono ?_;rintro e w' ⟨rfl,rfl⟩)
 all_goals go_ret
 ·exact⟨aK (ux (by assumption)).symm,rfl⟩
 ·exact⟨aK (uy (by assumption)).symm,rfl⟩
 ·exact⟨aK (LK (by omega) (by omega)).symm,rfl⟩
theorem kI (a b:Int) (w:World):Calls Tryz.prog 197 #[.int .i64 a, .int .i64 b] w (Ret w (.int .i64 (sgn a b))):=
 (eO a b w).mono fun _ _ ⟨he,hw⟩=>⟨he,hw▸brf⟩
def uA (a b c d x y z q:Int):Int:=sgn (a*x+b*y+c*z) (d*q)
theorem uB (a b c d x y z q:Int) (w:World) (ha: -8≤a∧a≤8) (hb: -8≤b∧b≤8) (hc: -8≤c∧c≤8) (hd: -10000000≤d∧d≤10000000)
  (hx: -10000000000≤x∧x≤10000000000) (hy: -10000000000≤y∧y≤10000000000) (hz: -10000000000≤z∧z≤10000000000) (hq: -1000000≤q∧q≤1000000):
  Calls Tryz.prog 153 #[V4 a b c d,V4 x y z q] w (Ret w (.int .i64 (uA a b c d x y z q))):=by
 have h4:=aJ hd.1 hd.2 hq.1 hq.2
 go_enter Tryz.func153,Tryz.ntmps153
 go_wp2
 refine wqb ?_
 repeat(first|go_big_quiet_step ((first|(go_at_call 104;exact aE (Tx _ _ _ _ _))|(go_at_call 105;exact aE (Ud _ _ _ _ _ _ _ (by omega) (by omega) (by omega) (by omega) (by omega) (by omega)))|(go_at_call 197;exact aE (kI _ _ _))))|quiet_step ((first|(go_at_call 104;exact aE (Tx _ _ _ _ _))|(go_at_call 105;exact aE (Ud _ _ _ _ _ _ _ (by omega) (by omega) (by omega) (by omega) (by omega) (by omega)))|(go_at_call 197;exact aE (kI _ _ _)))))
 refine wqn fun u=> ?_
 go_wp2
 go_ret
 refine⟨rfl, ?_⟩
 exact bel
end
end Go.Proofs.YtffbilcjhlncfaaGreatDoor
