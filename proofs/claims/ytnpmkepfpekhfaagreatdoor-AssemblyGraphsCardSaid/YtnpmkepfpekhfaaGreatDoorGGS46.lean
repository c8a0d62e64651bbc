/- texts: E2 E3. -/
import Derived.Test.YtnpmkepfpekhfaaGreatDoorGGS45
import Derived.Deep.Strs
import Derived.Lib.SmallJoins
namespace Go.Proofs.YtnpmkepfpekhfaaGreatDoor
set_option maxHeartbeats 8000000
set_option linter.all false
section
open Go.ChangeShapes Go.WideShapes Go.ChangeAt Go.WideMaps Go.WideElems Go.RowKit
theorem sG:laidOutB Tryz.prog=true:=by kernel_rfl
def wf3 (a b c:Int):Prop:=(Lit.int .i64 a).wf=true∧(Lit.int .i64 b).wf=true∧(Lit.int .i64 c).wf=true
end
section
open Go.ChangeShapes Go.WideShapes Go.ChangeAt Go.WideMaps Go.WideElems Go.RowKit
set_option maxRecDepth 100000
theorem IN:Tryz.prog.cellsOf 36=3:=by kernel_rfl
theorem KG {H:Type} {enc:TypeId×Value→H} {W:World} {base:Nat} {v:Value} {d:DataW H} {p:List MemPlace}
  (hv:Value.okWide Tryz.prog W .any base 36 v) (h:DataW.Trod enc Tryz.prog W 0 (fun _=>true) true 36 v d p):∃a b c,v= .agg #[.int .i64 a, .int .i64 b, .int .i64 c]∧wf3 a b c:=by
 obtain⟨cs,rfl,hsz⟩:=okWide_struct Tryz.underlying36 hv
 obtain⟨c0,c1,c2,rfl⟩:=Go.Joins.array3 (hsz.trans IN)
 obtain⟨fuel,hf⟩:=h
 obtain⟨y0,y1,y2,m,hx,_,h0,h1,h2⟩:=Deep.trod_struct3 Tryz.underlying36 hf
 simp[Value.cells,fx]at h0 h1 h2
 obtain⟨a0,ha0,_,w0⟩:=DataW.trod_int eJ h0
 obtain⟨a1,ha1,_,w1⟩:=DataW.trod_int eJ h1
 obtain⟨a2,ha2,_,w2⟩:=DataW.trod_int eJ h2
 simp only[List.cons.injEq,and_true]at ha0 ha1 ha2
 subst ha0 ha1 ha2
 exact⟨a0,a1,a2,rfl,w0,w1,w2⟩
end
end Go.Proofs.YtnpmkepfpekhfaaGreatDoor
