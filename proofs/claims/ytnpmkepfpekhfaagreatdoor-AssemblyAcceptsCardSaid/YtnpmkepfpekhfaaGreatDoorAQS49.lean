/- texts: EP E7. -/
import Derived.Test.YtnpmkepfpekhfaaGreatDoorAQS48
import Derived.Test.YtnpmkepfpekhfaaGreatDoorAQS42
namespace Go.Proofs.YtnpmkepfpekhfaaGreatDoor
set_option maxHeartbeats 8000000
set_option linter.all false
section
open Go.ChangeShapes Go.WideShapes Go.ChangeAt Go.WideMaps Go.WideElems Go.RowKit
set_option maxRecDepth 100000
theorem qeH:Tryz.prog.underlying 58=some (.slice 60):=by kernel_rfl
theorem qeN:Tryz.prog.cellsOf 60=5:=by kernel_rfl
theorem qeT:Tryz.prog.cellsOf 49=1:=by kernel_rfl
theorem qfc {H:Type} {enc:TypeId×Value→H} {W:World} {fuel:Nat} {c0 c1 c2 c3 c4:Value} {y:DataW H×List MemPlace} (h:DataW.trod enc Tryz.prog W 0 (fun _=>true) true fuel 60 [c0,c1,c2,c3,c4]=some y):
  ∃p:Spl,WkV W c0 p.1∧WkV W c1 p.2.1∧c2= .int .i64 p.2.2.1∧c3= .int .i64 p.2.2.2.1∧c4= .int .i64 p.2.2.2.2∧p.1.length≤maxLen∧p.2.1.length≤maxLen:=by
 obtain⟨y0,y1,y2,m,hx,_,h0,h1,h2⟩:=Deep.trod_struct3 Tryz.underlying60 h
 simp[qeT,IN]at h0 h1 h2
 obtain⟨g,k1,k2,_,k3,_⟩:=rY h0
 obtain⟨o,j1,j2,_,j3,_⟩:=rY h1
 obtain⟨z0,z1,z2,m2,hx2,_,w0,w1,w2⟩:=Deep.trod_struct3 Tryz.underlying36 h2
 simp[fx]at w0 w1 w2
 obtain⟨a0,ha0,_,_⟩:=DataW.trod_int eJ w0
 obtain⟨a1,ha1,_,_⟩:=DataW.trod_int eJ w1
 obtain⟨a2,ha2,_,_⟩:=DataW.trod_int eJ w2
 simp only[List.cons.injEq,and_true]at ha0 ha1 ha2
 exact⟨(g,o,a0,a1,a2),⟨k1,k3⟩,⟨j1,j3⟩,ha0,ha1,ha2,k2,j2⟩
theorem qeU {H:Type} {enc:TypeId×Value→H} {W:World} {base:Nat} {v:Value} {d:DataW H} {p:List MemPlace}
  (hv:Value.okWide Tryz.prog W .any base 58 v) (h:DataW.Trod enc Tryz.prog W 0 (fun _=>true) true 58 v d p):∃ps:List Spl,SplsN W v ps∧ps.length≤maxLen∧∀s∈ps,s.1.length≤maxLen∧s.2.1.length≤maxLen:=by
 obtain⟨a,len,cap,rfl⟩:=okWide_slice qeH hv
 obtain⟨fuel,hf⟩:=h
 simp only[Value.cells]at hf
 rcases Deep.open_slice qeH hf with⟨hcs,hx⟩|⟨a,len,cap,m,n,D,Pl,hcs,_,hl,hm,hmm,hx,hel⟩
 ·simp only[List.cons.injEq,and_true]at hcs
  rw[hcs]
  exact⟨[],⟨none,0,0,rfl,rfl,qaA _,fun h=>absurd h (by omega)⟩,by simp,fun s h=>by cases h⟩
 ·simp only[List.cons.injEq,and_true]at hcs
  rw[hcs]
  simp only[if_true]at hmm
  rw[qeN]at hel
  obtain⟨F,hF⟩:=Deep.choose_lt (α:=Spl) (n:=len) (p:=fun i s=>∃p q,W.cell? (a.add (i*5))=some p∧W.cell? (a.add (i*5+1))=some q∧W.cell? (a.add (i*5+2))=some (.int .i64 s.2.2.1)∧W.cell? (a.add (i*5+3))=some (.int .i64 s.2.2.2.1)∧W.cell? (a.add (i*5+4))=some (.int .i64 s.2.2.2.2)∧WkV W p s.1∧WkV W q s.2.1∧s.1.length≤maxLen∧s.2.1.length≤maxLen) (fun i hi=>by
   obtain⟨cs',k1,k2⟩:=hel i (by omega)
   obtain⟨_,hlen,hc⟩:=World.cells?_some k1
   match cs',hlen,k2,hc with
   | [c0,c1,c2,c3,c4],_,k2,hc=>
    obtain⟨p,p1,p2,rfl,rfl,rfl,p3,p4⟩:=qfc k2
    have e0:=hc 0 (by omega)
    have e1:=hc 1 (by omega)
    have e2:=hc 2 (by omega)
    have e3:=hc 3 (by omega)
    have e4:=hc 4 (by omega)
    rw[Deep.add_add]at e0 e1 e2 e3 e4
    exact⟨p,c0,c1,e0,e1,e2,e3,e4,p1,p2,p3,p4⟩)
  refine⟨(List.range len).map F,⟨some a,len,cap,rfl,by simp,hl,fun h0=> ?_⟩,by simp;omega,fun s hs=> ?_⟩
  ·obtain⟨b,off,spot⟩:=a
   obtain⟨p,q,e0,_⟩:=hF 0 h0
   have hspot:spot=none:=by simpa [Addr.add]using World.cell?_spot e0
   subst hspot
   refine⟨b,off,rfl,fun i hi=> ?_⟩
   obtain⟨p,q,e0,e1,e2,e3,e4,p1,p2,_⟩:=hF i (by simpa using hi)
   rw[QP]at e0 e1 e2 e3 e4
   simp only[qdB,qdD]
   exact⟨p,q,e0,e1,e2,e3,e4,p1,p2⟩
  ·obtain⟨i,hi,rfl⟩:=altt.1 hs
   obtain⟨p,q,_,_,_,_,_,_,_,p3,p4⟩:=hF i (ultv.1 hi)
   exact⟨p3,p4⟩
theorem Qw {W:World} (h:laidMetH Tryz.prog qw W):Lib.TabIs Tryz.prog W "internal/strconv.uint64pow10" .u64 Lib.pow10Tab∧TabAt 1 Lib.deBruijn64tab W:=by
 refine⟨qx h, ?_⟩
 rw[MakeChecks.laidMetH_plain _ _ _ (by kernel_rfl)]at h
 have h2:Lib.TabIs Tryz.prog W "math/bits.deBruijn64tab" .u8 (Lib.deBruijn64tab.map fun n:Nat=>(n:Int)):=Lib.tabIs_of_head (rest:=[("internal/strconv.uint64pow10",Rows.laid_internal_strconv_uint64pow10)]) (g:=1) (t:=262) (e:=5) (n:=64) (by kernel_rfl) (by kernel_rfl) (by kernel_rfl) (by kernel_rfl) (by kernel_rfl) (by kernel_rfl) h.tail
 intro j hj
 have h3:=h2.cell (g:=1) (by kernel_rfl) j (by simpa using hj)
 rw[h3]
 simp[List.getD,hj]
end
end Go.Proofs.YtnpmkepfpekhfaaGreatDoor
