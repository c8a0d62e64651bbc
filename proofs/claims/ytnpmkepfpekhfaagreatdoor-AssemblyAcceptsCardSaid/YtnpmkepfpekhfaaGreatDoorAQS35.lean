/- texts: MU. -/
import Derived.Test.YtnpmkepfpekhfaaGreatDoorAQS34
namespace Go.Proofs.YtnpmkepfpekhfaaGreatDoor
set_option maxHeartbeats 8000000
set_option linter.all false
section
open Go.RowKit Go.Shelf Go.Lib
set_option maxRecDepth 100000
attribute [local go_sem] Ext.cell Ext.frozen
def Ex:Value→World→Prop:=fun v w=>∃g sa sb,v= .slice (some ⟨g,0,none⟩) 2 2∧w.cell? ⟨g,0,none⟩=some sa∧w.cell? ⟨g,1,none⟩=some sb∧SolV w sa exA∧SolV w sb exB
theorem eK:dR Ex:=fun _ _ _ hb ⟨g,sa,sb,e,k0,k1,k2,k3⟩=>⟨g,sa,sb,e,ab hb k0,ab hb k1,SolV.below k2 hb,SolV.below k3 hb⟩
def Ey (css:List (List Q4)):Value→World→Prop:=fun v w=>∃g i sv,v= .pointer (some ⟨g,i,none⟩)∧w.cell? ⟨g,i,none⟩=some sv∧SolV w sv css
theorem NV (css:List (List Q4)):dR (Ey css):=fun _ _ _ hb ⟨g,i,sv,e,k0,k1⟩=>⟨g,i,sv,e,ab hb k0,SolV.below k1 hb⟩
def Ez (css:List (List Q4)):Value→World→Prop:=fun v w=>∃sv,v= .agg #[sv]∧SolV w sv css
theorem gu (css:List (List Q4)):dR (Ez css):=fun _ _ _ hb ⟨sv,e,k⟩=>⟨sv,e,SolV.below k hb⟩
theorem Mw:∀s∈exL,∀c∈s,c.length≤1000000:=by decide
theorem MN (W:World) (sv tv:Value) (h1:SolV W sv exA) (h2:SolV W tv exB):Calls Tryz.prog 41 #[.agg #[sv], .agg #[tv], .agg #[.int .i64 1, .int .i64 1, .int .i64 0]] W (Ret W (.tuple #[.bool true, .int .i64 0])):=by
 have h:=CO exA exB sv tv 1 1 0 W (by decide) (by decide) h1 h2
 rw[Lt,Mk]at h
 exact h
theorem MO (W:World) (sv tv:Value) (h1:SolV W sv exA) (h2:SolV W tv exB):Calls Tryz.prog 41 #[.agg #[sv], .agg #[tv], .agg #[.int .i64 0, .int .i64 1, .int .i64 0]] W (Ret W (.tuple #[.bool false, .int .i64 0])):=by
 have h:=CO exA exB sv tv 0 1 0 W (by decide) (by decide) h1 h2
 rw[Lu,Ml]at h
 exact h
theorem DU {w:World} {B n:Nat} {v:Value} {l:List Nat} (h:w.ownsRow B 3 1 v n (l.map iV)) (hn:n=l.length):Ints w v (l.map fun n:Nat=>(n:Int)):=by
 subst hn
 refine jy (base:=B) (T:=3) ?_
 rw[qdo,List.map_map]
 exact h
def MZ (W:World) (e:Ending) (w':World):Prop:=∃gv ov,e= .returned (.tuple #[.agg #[gv,ov, .int .i64 (-1), .int .i64 (-1), .int .i64 (-1)], .bool true, .int .i64 0])∧Below W.heap.size W w'∧Ints w' gv [0,1]∧Ints w' ov [0]
theorem Na (W:World) (lv nv:Value) (h:SolsV W lv exL) (hn:Ints W nv [0,1]) (hT:TabAt 1 Lib.deBruijn64tab W):Calls Tryz.prog 43 #[lv,nv] W (MZ W):=by
 refine(Iy exL [0,1] lv nv W Mw (by decide) h hn hT (fun h=>KE h)).mono ?_
 rintro e w' ⟨hb,⟨h1, -⟩|⟨h1,h2, -⟩|⟨h1,v,o,cs,hv,h2,he,hs⟩⟩
 ·exact absurd Mn h1
 ·rw[Fu]at h2;cases h2
 ·rw[Fu]at h2
  injection h2 with h2
  injection h2 with h3 h4
  subst h3 h4
  obtain⟨gv,ov,rfl,o1,o2⟩:=hs
  rw[Lv,Mo]at o1
  rw[Mp]at o2
  exact⟨gv,ov,he,hb,DU o1 rfl,DU o2 rfl⟩
theorem Nb (W:World) (v:Value) (h:Kj W v [([0,1],[0],(-1, -1, -1))]) (htab:Lib.TabIs Tryz.prog W "internal/strconv.uint64pow10" .u64 Lib.pow10Tab):
  Calls Tryz.prog 44 #[v] W (Ret W (.tuple #[.string ⟨#[48,44,49,32,48,32,45,49,32,45,49,32,45,49,10]⟩, .int .i64 0])):=by
 have h:=IA _ v W (by decide) h htab
 rw[Lw,Lx]at h
 exact h
theorem KF {w:World} {g:Nat} {sa sb:Value} (k0:w.cell? ⟨g,0,none⟩=some sa) (k1:w.cell? ⟨g,1,none⟩=some sb) (k2:SolV w sa exA) (k3:SolV w sb exB):SolsV w (.slice (some ⟨g,0,none⟩) 2 2) exL:=
 ⟨_,_,_,rfl,rfl,qaA _,fun _=>⟨g,0,rfl,fun i hi=>by
  match i,hi with
  |0,_=>exact⟨sa,k0,k2⟩
  |1,_=>exact⟨sb,k1,k3⟩⟩⟩
theorem IM {w:World} {g:Nat} {gv ov:Value} {T:TypeId} (h:w.heap[g]? =some (.cells #[gv,ov, .int .i64 (-1), .int .i64 (-1), .int .i64 (-1)] T (0,0))) (h1:Ints w gv [0,1]) (h2:Ints w ov [0]):Kj w (.slice (some ⟨g,0,none⟩) 1 1) [([0,1],[0],(-1, -1, -1))]:=
 ⟨_,_,_,rfl,rfl,qaA _,fun _=>⟨g,0,rfl,fun i hi=>by
  have:i=0:=by simpa using hi
  subst this
  exact⟨gv,ov,(ag h 0).trans rfl,(ag h 1).trans rfl,(ag h 2).trans rfl,(ag h 3).trans rfl,(ag h 4).trans rfl,h1,h2⟩⟩⟩
theorem Gv (W:World) (htab:Lib.TabIs Tryz.prog W "internal/strconv.uint64pow10" .u64 Lib.pow10Tab) (hT:TabAt 1 Lib.deBruijn64tab W):Calls Tryz.prog 10 #[] W (Ret W (.bool true)):=by
 have HPr:=fun W'=>YJ (qfo W')
 have HB1:=fun W' sv tv h1 h2=>YJ (MN W' sv tv h1 h2)
 have HB2:=fun W' sv tv h1 h2=>YJ (MO W' sv tv h1 h2)
 have HF:=fun W' (hb:Below W.heap.size W W') lv nv h hn=>YJ (Na W' lv nv h hn (nz hT hb))
 have HPt:=fun W' (hb:Below W.heap.size W W') v h=>YJ (Nb W' v h (kl htab hb))
 clear htab hT
 go_enter Tryz.func10,Tryz.ntmps10
 go_wp2
 apply aj [11] [0,1,2,3,4,5,6,7,8,9,10,11] 12 [] [⟨Ex,by first|exact eK|exact NV _|exact gu _⟩,⟨Ey exA,by first|exact eK|exact NV _|exact gu _⟩,⟨Ez exA,by first|exact eK|exact NV _|exact gu _⟩,⟨Ex,by first|exact eK|exact NV _|exact gu _⟩,⟨Ey exB,by first|exact eK|exact NV _|exact gu _⟩,⟨Ez exB,by first|exact eK|exact NV _|exact gu _⟩,sv _,sv _,sv _,sv _,sv _,sv _] (by kernel_rfl) (by kernel_rfl)
 try go_frame
 refine wkU (fun u hR K hK=> ?_) (fun o0=> ?_)
 ·clear hR
  go_simp
  refine((HPr _).out).mono ?_
  rintro e w9 ⟨g,sa,sb,rfl,hb9,k0,k1,k2,k3⟩
  exact hK _ _ hb9 ⟨g,sa,sb,rfl,k0,k1,k2,k3⟩
 try go_frame
 refine wkU (fun u hR K hK=> ?_) (fun o1=> ?_)
 ·have h0:Ex o0 u.val:=hr hR 0
  clear hR
  obtain⟨g,sa,sb,rfl,k0,k1,k2,k3⟩:=h0
  go_simp
  exact hK _ _ (brf) ⟨g,0,sa,rfl,k0,k2⟩
 try go_frame
 refine wkU (fun u hR K hK=> ?_) (fun o2=> ?_)
 ·have h1:Ey exA o1 u.val:=hr hR 1
  clear hR
  obtain⟨g,i,sa,rfl,k0,k2⟩:=h1
  have zl:=qaC u.val _ k0
  go_simp
  exact hK _ _ (brf) ⟨sa,rfl,k2⟩
 try go_frame
 refine wkU (fun u hR K hK=> ?_) (fun o3=> ?_)
 ·clear hR
  go_simp
  refine((HPr _).out).mono ?_
  rintro e w9 ⟨g,sa,sb,rfl,hb9,k0,k1,k2,k3⟩
  exact hK _ _ hb9 ⟨g,sa,sb,rfl,k0,k1,k2,k3⟩
 try go_frame
 refine wkU (fun u hR K hK=> ?_) (fun o4=> ?_)
 ·have h3:Ex o3 u.val:=hr hR 3
  clear hR
  obtain⟨g,sa,sb,rfl,k0,k1,k2,k3⟩:=h3
  go_simp
  exact hK _ _ (brf) ⟨g,1,sb,rfl,k1,k3⟩
 try go_frame
 refine wkU (fun u hR K hK=> ?_) (fun o5=> ?_)
 ·have h4:Ey exB o4 u.val:=hr hR 4
  clear hR
  obtain⟨g,i,sa,rfl,k0,k2⟩:=h4
  have zl:=qaC u.val _ k0
  go_simp
  exact hK _ _ (brf) ⟨sa,rfl,k2⟩
 ((try go_frame);refine wkQ ?_)
 try go_frame
 refine MM rfl rfl (by simp) rfl rfl ?_
 apply ex3
 ·intro u hR K hK
  have h2:Ez exA o2 u.val:=hr hR 2
  have h5:Ez exB o5 u.val:=hr hR 5
  clear hR
  obtain⟨sa,rfl,k1⟩:=h2
  obtain⟨sb,rfl,k2⟩:=h5
  go_simp
  refine((HB1 _ _ _ k1 k2).out).mono ?_
  rintro e w9 ⟨rfl,hb9⟩
  exact hK _ hb9
 rfl
 iterate 3 ((try go_frame);refine wkQ ?_)
 try go_frame
 refine wkz rfl rfl rfl rfl ?_
 apply Exists.intro
 apply And.intro
 ·intro w9
  go_simp
  try rfl
 refine⟨rfl, ?_⟩
 try go_frame
 refine aI (fun u hR=> ?_)
 have hb1:=u.below
 clear hR
 generalize u.val=w1 at*
 clear u
 simp only[oas]
 go_wp2
 refine NoPanic.normal ?_
 go_wp2
 clear HB1
 apply aj [11] [0,1,2,3,4,5,6,7,8,9,10,11] 12 [] [⟨Ex,by first|exact eK|exact NV _|exact gu _⟩,⟨Ey exA,by first|exact eK|exact NV _|exact gu _⟩,⟨Ez exA,by first|exact eK|exact NV _|exact gu _⟩,⟨Ex,by first|exact eK|exact NV _|exact gu _⟩,⟨Ey exB,by first|exact eK|exact NV _|exact gu _⟩,⟨Ez exB,by first|exact eK|exact NV _|exact gu _⟩,sv _,sv _,sv _,sv _,sv _,sv _] (by kernel_rfl) (by kernel_rfl)
 try go_frame
 refine wkU (fun u hR K hK=> ?_) (fun o0=> ?_)
 ·clear hR
  go_simp
  refine((HPr _).out).mono ?_
  rintro e w9 ⟨g,sa,sb,rfl,hb9,k0,k1,k2,k3⟩
  exact hK _ _ hb9 ⟨g,sa,sb,rfl,k0,k1,k2,k3⟩
 try go_frame
 refine wkU (fun u hR K hK=> ?_) (fun o1=> ?_)
 ·have h0:Ex o0 u.val:=hr hR 0
  clear hR
  obtain⟨g,sa,sb,rfl,k0,k1,k2,k3⟩:=h0
  go_simp
  exact hK _ _ (brf) ⟨g,0,sa,rfl,k0,k2⟩
 try go_frame
 refine wkU (fun u hR K hK=> ?_) (fun o2=> ?_)
 ·have h1:Ey exA o1 u.val:=hr hR 1
  clear hR
  obtain⟨g,i,sa,rfl,k0,k2⟩:=h1
  have zl:=qaC u.val _ k0
  go_simp
  exact hK _ _ (brf) ⟨sa,rfl,k2⟩
 try go_frame
 refine wkU (fun u hR K hK=> ?_) (fun o3=> ?_)
 ·clear hR
  go_simp
  refine((HPr _).out).mono ?_
  rintro e w9 ⟨g,sa,sb,rfl,hb9,k0,k1,k2,k3⟩
  exact hK _ _ hb9 ⟨g,sa,sb,rfl,k0,k1,k2,k3⟩
 try go_frame
 refine wkU (fun u hR K hK=> ?_) (fun o4=> ?_)
 ·have h3:Ex o3 u.val:=hr hR 3
  clear hR
  obtain⟨g,sa,sb,rfl,k0,k1,k2,k3⟩:=h3
  go_simp
  exact hK _ _ (brf) ⟨g,1,sb,rfl,k1,k3⟩
 try go_frame
 refine wkU (fun u hR K hK=> ?_) (fun o5=> ?_)
 ·have h4:Ey exB o4 u.val:=hr hR 4
  clear hR
  obtain⟨g,i,sa,rfl,k0,k2⟩:=h4
  have zl:=qaC u.val _ k0
  go_simp
  exact hK _ _ (brf) ⟨sa,rfl,k2⟩
 ((try go_frame);refine wkQ ?_)
 try go_frame
 refine MM rfl rfl (by simp) rfl rfl ?_
 apply ex3
 ·intro u hR K hK
  have h2:Ez exA o2 u.val:=hr hR 2
  have h5:Ez exB o5 u.val:=hr hR 5
  clear hR
  obtain⟨sa,rfl,k1⟩:=h2
  obtain⟨sb,rfl,k2⟩:=h5
  go_simp
  refine((HB2 _ _ _ k1 k2).out).mono ?_
  rintro e w9 ⟨rfl,hb9⟩
  exact hK _ hb9
 rfl
 iterate 3 ((try go_frame);refine wkQ ?_)
 try go_frame
 refine wkz rfl rfl rfl rfl ?_
 apply Exists.intro
 apply And.intro
 ·intro w9
  go_simp
  try rfl
 refine⟨rfl, ?_⟩
 try go_frame
 refine aI (fun u hR=> ?_)
 have hb2:=fB hb1 u.below
 clear hR
 generalize u.val=w2 at*
 clear u hb1
 simp only[oas]
 go_wp2
 refine NoPanic.normal ?_
 clear HB2
 go_wp2_with fail
 refine((HPr _).out).mono ?_
 rintro e w3 ⟨g,sa,sb,rfl,hb3,k0,k1,k2,k3⟩
 have hW3:=fB hb2 hb3
 have HSs:=YJ (KF k0 k1 k2 k3)
 clear k0 k1 k2 k3 HPr
 have hbi:Below w3.heap.size w3 (w3.alloc (.cells #[.int .i64 0, .int .i64 1] 3)):=bel
 have HFx:=YJ (HF (w3.alloc (.cells #[.int .i64 0, .int .i64 1] 3)) (fB hW3 hbi) (.slice (some ⟨g,0,none⟩) 2 2) (.slice (some ⟨w3.heap.size,0,none⟩) 2 2) (SolsV.below HSs.out hbi) (Fv (T:=3) [0,1] rfl)).out
 clear HF
 go_wp2_with fail
 refine HFx.out.mono ?_
 rintro e w4 ⟨gv,ov,rfl,hb4,hg,ho⟩
 have HG:=YJ hg
 have HO:=YJ ho
 have hW4:=fB (fB hW3 hbi) hb4
 clear hg ho HSs HFx
 have hbs:Below w4.heap.size w4 ((w4.alloc (.cells #[gv,ov, .int .i64 (-1), .int .i64 (-1), .int .i64 (-1)] 60)).alloc (.cells #[gv,ov, .int .i64 (-1), .int .i64 (-1), .int .i64 (-1)] 60)):=bel
 have HPx:=YJ (HPt _ (fB hW4 hbs) (.slice (some ⟨w4.heap.size+1,0,none⟩) 1 1) (IM (by exact ai (by simp)) (HG.out.below hbs) (HO.out.below hbs))).out
 clear HPt
 obtain⟨ga,gn,gc,rfl, -⟩:=id HG.out
 obtain⟨oa,on,oc,rfl, -⟩:=id HO.out
 go_wp2_with fail
 refine HPx.out.mono ?_
 rintro e w5 ⟨rfl,hb5⟩
 have hW5:=fB (fB hW4 hbs) hb5
 clear HPx HG HO
 go_wp2
 go_ret
 exact⟨ay (by first|rfl|simp),hW5⟩
end
end Go.Proofs.YtnpmkepfpekhfaaGreatDoor
