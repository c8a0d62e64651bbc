/- texts: GB. -/
import Derived.Test.YtnpmkepfpekhfaaGreatDoorGGS22
namespace Go.Proofs.YtnpmkepfpekhfaaGreatDoor
set_option maxHeartbeats 8000000
set_option linter.all false
section
open Go.RowKit
section
variable {P:Program} {ops:Array Oper} {md:Region.Mode} {Q:Exit→Act→World→Prop} {R:Nat→Value→World→Prop} {w0:World} {F:(Nat→Value)→Act→Prop} {i:Nat} {l:List Nat} {vals:Nat→Value} {a:Act} {o:Oper} {d:Nat}
theorem wkr (ho:ops[i]? =some o) (hd:o.dst=some d) (hlt:d<a.tmps.size) (hg:Region.wanted o (yielded ops a.tmps)=true)
  (h:∃c,(∀u:Ext w0,(∀j,Region.waitsFor md ops i j=true→R j (vals j) u.val)→∀K:Act→World→Prop,(∀w'',Below u.val.heap.size u.val w''→K (a.put (some d) c) w'')→o.wp P a u.val K (NoPanic Q))∧R i=IsV c∧wpK P md ops R w0 Q [] F l (upd vals i c) (a.put (some d) c)):wpK P md ops R w0 Q [] F (i::l) vals a:=by
 obtain⟨c,h1,h2,h3⟩:=h
 have e:aM ops i=some d:=by simp[aM,ho,hd]
 refine⟨fun w' hb hR=> ?_, .inl ⟨c,fun v w hv=>by rw[h2]at hv;exact hv,by rw[e];exact h3⟩⟩
 rw[if_neg (by simp)]
 refine⟨o,d,ho,hd,hlt, ?_⟩
 rw[if_pos hg]
 exact h1 ⟨w',hb⟩ hR _ fun w'' hb'=>⟨c,by rw[hd],hb',by rw[h2];rfl⟩
theorem wkR (h:∃c,(∀u:Ext w0,(∀j,Region.waitsFor md ops i j=true→R j (vals j) u.val)→∀K:Act→World→Prop,(∀w'',Below u.val.heap.size u.val w''→K (a.put (some d) c) w'')→o.wp P a u.val K (NoPanic Q))∧R i=IsV c∧wpK P md ops R w0 Q [] F l (upd vals i c) (a.put (some d) c))
  (ho:ops[i]? =some o:=by rfl) (hd:o.dst=some d:=by rfl) (hlt:d<a.tmps.size:=by simp) (hg:Region.wanted o (yielded ops a.tmps)=true:=by simp[Region.wanted,yielded]):wpK P md ops R w0 Q [] F (i::l) vals a:=wkr ho hd hlt hg h
end
end
end Go.Proofs.YtnpmkepfpekhfaaGreatDoor
