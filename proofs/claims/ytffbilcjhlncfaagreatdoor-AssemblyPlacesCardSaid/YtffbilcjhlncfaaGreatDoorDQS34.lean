/- texts: O3 MU O6 O7 GQ AC1 SR AC2 AC3 AC4 AC5 O4 BW0 BWP O8 O9 O10. -/
import Derived.Test.YtffbilcjhlncfaaGreatDoorDQS33
namespace Go.Proofs.YtffbilcjhlncfaaGreatDoor
set_option maxHeartbeats 8000000
set_option linter.all false
section
open Go.RowKit
theorem zs {ps:List Q4} (h:bK ps=0):Bdd ps∧Ins ps:=by
 unfold bK at h
 split at h
 ·cases h
 split at h
 ·contradiction
 split at h
 ·cases h
 rename_i hb
 split at h
 ·cases h
 rename_i hs
 have hb':bx ps=true:=by simpa using hb
 have hs':fh ps (aS ps)=true:=by simpa using hs
 refine⟨FA ps hb', ?_⟩
 unfold fh at hs'
 rw[qaF,qfV,alsi]at hs'
 refine Mt ps (ct ps) hs'.2 (Ku ps) (fun p hp=> ?_)
 have h1:=hs'.1 p hp
 unfold gM at h1
 rw[ultj]at h1
 obtain⟨c,hc,h2⟩:=h1
 have h2:=of_decide_eq_true h2
 rw[mt,dp]at h2
 exact⟨c,((kT ps).2 c).2 (pq hc),h2⟩
theorem FG {ps:List Q4} (h:bK ps=0):Rep (bp ps) ps:=KB (zs h).1 (zs h).2
theorem IL {css:List (List Q4)} (h:Tv css=0):∀c∈css,bK c=0:=by
 unfold Tv at h
 split at h
 ·cases h
 ·exact Dr h
theorem KC {α β:Type} (l:List α) (m:List β) (f:α→β→Bool):(l.any fun a=>m.any fun b=>f a b)=m.any fun b=>l.any fun a=>f a b:=by
 rw[Bool.eq_iff_iff]
 simp only[ultj]
 constructor
 ·rintro⟨a,ha,b,hb,h⟩;exact⟨b,hb,a,ha,h⟩
 ·rintro⟨b,hb,a,ha,h⟩;exact⟨a,ha,b,hb,h⟩
theorem Gu {α β:Type} {l:List α} {m:List β} {f g:α→β→Bool} (h:∀a∈l,∀b∈m,f a b=g a b):(l.any fun a=>m.any fun b=>f a b)=l.any fun a=>m.any fun b=>g a b:=by
 rw[Bool.eq_iff_iff]
 simp only[ultj]
 constructor
 ·rintro⟨a,ha,b,hb,e⟩;exact⟨a,ha,b,hb,by rw[←h a ha b hb];exact e⟩
 ·rintro⟨a,ha,b,hb,e⟩;exact⟨a,ha,b,hb,by rw[h a ha b hb];exact e⟩
theorem KD {p q:List (List Q4)} (hp:∀c∈p,bK c=0) (hq:∀c∈q,bK c=0) {w:Q3} (hw:w≠(0,0,0)):BT (q.map bp) (p.map bp) (Dy w)=BT (p.map bp) (q.map bp) w:=by
 unfold BT
 simp only[List.any_map,Function.comp_def]
 rw[KC]
 exact Gu fun c hc d hd=>Gt (FG (hp c hc)) (FG (hq d hd)) hw
theorem DT (l:List (List (List Q4))) (i:Nat):(l.map (·.map bp)).getD i []=(l.getD i []).map bp:=by
 simp only[List.getD,List.getElem?_map]
 cases l[i]? <;>rfl
theorem KE {l:List (List (List Q4))} (h:eB l=0):∀v∈ways26,∀i k,Cb (l.map (·.map bp)) (-v.1, -v.2.1, -v.2.2) k i=Cb (l.map (·.map bp)) v i k:=by
 intro v hv i k
 have hm:∀i,∀c∈l.getD i [],bK c=0:=fun i c hc=>by
  by_cases hi:i<l.length
  ·rw[show l.getD i []=l[i] by simp[List.getD,hi]]at hc
   exact IL ((sq h).2 _ (qaB hi)) c hc
  ·rw[show l.getD i []=[] by simp[List.getD,hi]]at hc
   cases hc
 unfold Cb
 rw[DT,DT]
 exact KD (hm i) (hm k) (by rintro rfl;have:=(Ef _ hv).2.2.2;simp at this)
end
section
open Go.RowKit Go.Shelf Go.Lib
set_option maxRecDepth 100000
attribute [local go_sem] Ext.cell Ext.frozen
def Ex:Value→World→Prop:=fun v w=>∃g sa sb,v= .slice (some ⟨g,0,none⟩) 2 2∧w.cell? ⟨g,0,none⟩=some sa∧w.cell? ⟨g,1,none⟩=some sb∧SolV w sa exA∧SolV w sb exB
theorem eK:dR Ex:=fun _ _ _ hb ⟨g,sa,sb,e,k0,k1,k2,k3⟩=>⟨g,sa,sb,e,ab hb k0,ab hb k1,SolV.below k2 hb,SolV.below k3 hb⟩
def Ey (css:List (List Q4)):Value→World→Prop:=fun v w=>∃g i sv,v= .pointer (some ⟨g,i,none⟩)∧w.cell? ⟨g,i,none⟩=some sv∧SolV w sv css
theorem NV (css:List (List Q4)):dR (Ey css):=fun _ _ _ hb ⟨g,i,sv,e,k0,k1⟩=>⟨g,i,sv,e,ab hb k0,SolV.below k1 hb⟩
def Ez (css:List (List Q4)):Value→World→Prop:=fun v w=>∃sv,v= .agg #[sv]∧SolV w sv css
theorem gu (css:List (List Q4)):dR (Ez css):=fun _ _ _ hb ⟨sv,e,k⟩=>⟨sv,e,SolV.below k hb⟩
theorem Mw:∀s∈exL,∀c∈s,c.length≤1000000:=by decide
theorem MN (W:World) (sv tv:Value) (h1:SolV W sv exA) (h2:SolV W tv exB):Calls Tryz.prog 33 #[.agg #[sv], .agg #[tv], .agg #[.int .i64 1, .int .i64 1, .int .i64 0]] W (Ret W (.tuple #[.bool true, .int .i64 0])):=by
 have h:=CO exA exB sv tv 1 1 0 W (by decide) (by decide) h1 h2
 rw[Lt,Mk]at h
 exact h
theorem MO (W:World) (sv tv:Value) (h1:SolV W sv exA) (h2:SolV W tv exB):Calls Tryz.prog 33 #[.agg #[sv], .agg #[tv], .agg #[.int .i64 0, .int .i64 1, .int .i64 0]] W (Ret W (.tuple #[.bool false, .int .i64 0])):=by
 have h:=CO exA exB sv tv 0 1 0 W (by decide) (by decide) h1 h2
 rw[Lu,Ml]at h
 exact h
theorem DU {w:World} {B n:Nat} {v:Value} {l:List Nat} (h:w.ownsRow B 3 1 v n (l.map iV)) (hn:n=l.length):Ints w v (l.map fun n:Nat=>(n:Int)):=by
 subst hn
 refine jy (base:=B) (T:=3) ?_
 rw[qdo,List.map_map]
 exact h
def MZ (W:World) (e:Ending) (w':World):Prop:=∃gv ov,e= .returned (.tuple #[.agg #[gv,ov, .int .i64 (-1), .int .i64 (-1), .int .i64 (-1)], .bool true, .int .i64 0])∧Below W.heap.size W w'∧Ints w' gv [0,1]∧Ints w' ov [0]
theorem Na (W:World) (lv nv:Value) (h:SolsV W lv exL) (hn:Ints W nv [0,1]) (hT:TabAt 3 Lib.deBruijn64tab W):Calls Tryz.prog 35 #[lv,nv] W (MZ W):=by
 refine(Iy exL [0,1] lv nv W Mw (by decide) h hn hT (fun h=>KE h)).mono ?_
 rintro e w' ⟨hb,⟨h1, -⟩|⟨h1,h2, -⟩|⟨h1,v,o,cs,hv,h2,he,hs⟩⟩
 ·exact absurd Mn h1
 ·rw[Fu]at h2;cases h2
 ·rw[Fu]at h2
  injection h2 with h2
  injection h2 with h3 h4
  subst h3 h4
  obtain⟨gv,ov,rfl,o1,o2⟩:=hs
  rw[Lv,Mo]at o1
  rw[Mp]at o2
  exact⟨gv,ov,he,hb,DU o1 rfl,DU o2 rfl⟩
theorem Nb (W:World) (v:Value) (h:Kj W v [([0,1],[0],(-1, -1, -1))]) (htab:Lib.TabIs Tryz.prog W "internal/strconv.uint64pow10" .u64 Lib.pow10Tab):
  Calls Tryz.prog 30 #[v] W (Ret W (.tuple #[.string ⟨#[48,44,49,32,48,32,45,49,32,45,49,32,45,49,10]⟩, .int .i64 0])):=by
 have h:=IA _ v W (by decide) h htab
 rw[Lw,Lx]at h
 exact h
theorem KF {w:World} {g:Nat} {sa sb:Value} (k0:w.cell? ⟨g,0,none⟩=some sa) (k1:w.cell? ⟨g,1,none⟩=some sb) (k2:SolV w sa exA) (k3:SolV w sb exB):SolsV w (.slice (some ⟨g,0,none⟩) 2 2) exL:=
 ⟨_,_,_,rfl,rfl,qaA _,fun _=>⟨g,0,rfl,fun i hi=>by
  match i,hi with
  |0,_=>exact⟨sa,k0,k2⟩
  |1,_=>exact⟨sb,k1,k3⟩⟩⟩
theorem IM {w:World} {g:Nat} {gv ov:Value} {T:TypeId} (h:w.heap[g]? =some (.cells #[gv,ov, .int .i64 (-1), .int .i64 (-1), .int .i64 (-1)] T (0,0))) (h1:Ints w gv [0,1]) (h2:Ints w ov [0]):Kj w (.slice (some ⟨g,0,none⟩) 1 1) [([0,1],[0],(-1, -1, -1))]:=
 ⟨_,_,_,rfl,rfl,qaA _,fun _=>⟨g,0,rfl,fun i hi=>by
  have:i=0:=by simpa using hi
  subst this
  exact⟨gv,ov,(bq h 0).trans rfl,(bq h 1).trans rfl,(bq h 2).trans rfl,(bq h 3).trans rfl,(bq h 4).trans rfl,h1,h2⟩⟩⟩
theorem Gv (W:World) (htab:Lib.TabIs Tryz.prog W "internal/strconv.uint64pow10" .u64 Lib.pow10Tab) (hT:TabAt 3 Lib.deBruijn64tab W):Calls Tryz.prog 7 #[] W (Ret W (.bool true)):=by
 have HPr:=fun W'=>YJ (qfo W')
 have HB1:=fun W' sv tv h1 h2=>YJ (MN W' sv tv h1 h2)
 have HB2:=fun W' sv tv h1 h2=>YJ (MO W' sv tv h1 h2)
 have HF:=fun W' (hb:Below W.heap.size W W') lv nv h hn=>YJ (Na W' lv nv h hn (nz hT hb))
 have HPt:=fun W' (hb:Below W.heap.size W W') v h=>YJ (Nb W' v h (vk htab hb))
 clear htab hT
 go_enter Tryz.func7,Tryz.ntmps7
 go_wp2
 apply aj [11] [0,1,2,3,4,5,6,7,8,9,10,11] 12 [] [⟨Ex,by first|exact eK|exact NV _|exact gu _⟩,⟨Ey exA,by first|exact eK|exact NV _|exact gu _⟩,⟨Ez exA,by first|exact eK|exact NV _|exact gu _⟩,⟨Ex,by first|exact eK|exact NV _|exact gu _⟩,⟨Ey exB,by first|exact eK|exact NV _|exact gu _⟩,⟨Ez exB,by first|exact eK|exact NV _|exact gu _⟩,sv _,sv _,sv _,sv _,sv _,sv _] (by kernel_rfl) (by kernel_rfl)
 try go_frame
 refine wkU (fun u hR K hK=> ?_) (fun o0=> ?_)
 ·clear hR
  go_simp
  refine((HPr _).out).mono ?_
  rintro e w9 ⟨g,sa,sb,rfl,hb9,k0,k1,k2,k3⟩
  exact hK _ _ hb9 ⟨g,sa,sb,rfl,k0,k1,k2,k3⟩
 try go_frame
 refine wkU (fun u hR K hK=> ?_) (fun o1=> ?_)
 ·have h0:Ex o0 u.val:=hr hR 0
  clear hR
  obtain⟨g,sa,sb,rfl,k0,k1,k2,k3⟩:=h0
  go_simp
  exact hK _ _ (brf) ⟨g,0,sa,rfl,k0,k2⟩
 try go_frame
 refine wkU (fun u hR K hK=> ?_) (fun o2=> ?_)
 ·have h1:Ey exA o1 u.val:=hr hR 1
  clear hR
  obtain⟨g,i,sa,rfl,k0,k2⟩:=h1
  have zl:=qaC u.val _ k0
  go_simp
  exact hK _ _ (brf) ⟨sa,rfl,k2⟩
 try go_frame
 refine wkU (fun u hR K hK=> ?_) (fun o3=> ?_)
 ·clear hR
  go_simp
  refine((HPr _).out).mono ?_
  rintro e w9 ⟨g,sa,sb,rfl,hb9,k0,k1,k2,k3⟩
  exact hK _ _ hb9 ⟨g,sa,sb,rfl,k0,k1,k2,k3⟩
 try go_frame
 refine wkU (fun u hR K hK=> ?_) (fun o4=> ?_)
 ·have h3:Ex o3 u.val:=hr hR 3
  clear hR
  obtain⟨g,sa,sb,rfl,k0,k1,k2,k3⟩:=h3
  go_simp
  exact hK _ _ (brf) ⟨g,1,sb,rfl,k1,k3⟩
 try go_frame
 refine wkU (fun u hR K hK=> ?_) (fun o5=> ?_)
 ·have h4:Ey exB o4 u.val:=hr hR 4
  clear hR
  obtain⟨g,i,sa,rfl,k0,k2⟩:=h4
  have zl:=qaC u.val _ k0
  go_simp
  exact hK _ _ (brf) ⟨sa,rfl,k2⟩
 ((try go_frame);refine wkQ ?_)
 try go_frame
 refine MM rfl rfl (by simp) rfl rfl ?_
 apply ex3
 ·intro u hR K hK
  have h2:Ez exA o2 u.val:=hr hR 2
  have h5:Ez exB o5 u.val:=hr hR 5
  clear hR
  obtain⟨sa,rfl,k1⟩:=h2
  obtain⟨sb,rfl,k2⟩:=h5
  go_simp
  refine((HB1 _ _ _ k1 k2).out).mono ?_
  rintro e w9 ⟨rfl,hb9⟩
  exact hK _ hb9
 rfl
 iterate 3 ((try go_frame);refine wkQ ?_)
 try go_frame
 refine wkz rfl rfl rfl rfl ?_
 apply Exists.intro
 apply And.intro
 ·intro w9
  go_simp
  try rfl
 refine⟨rfl, ?_⟩
 try go_frame
 refine aI (fun u hR=> ?_)
 have hb1:=u.below
 clear hR
 generalize u.val=w1 at*
 clear u
 simp only[oas]
 go_wp2
 refine NoPanic.normal ?_
 go_wp2
 clear HB1
 apply aj [11] [0,1,2,3,4,5,6,7,8,9,10,11] 12 [] [⟨Ex,by first|exact eK|exact NV _|exact gu _⟩,⟨Ey exA,by first|exact eK|exact NV _|exact gu _⟩,⟨Ez exA,by first|exact eK|exact NV _|exact gu _⟩,⟨Ex,by first|exact eK|exact NV _|exact gu _⟩,⟨Ey exB,by first|exact eK|exact NV _|exact gu _⟩,⟨Ez exB,by first|exact eK|exact NV _|exact gu _⟩,sv _,sv _,sv _,sv _,sv _,sv _] (by kernel_rfl) (by kernel_rfl)
 try go_frame
 refine wkU (fun u hR K hK=> ?_) (fun o0=> ?_)
 ·clear hR
  go_simp
  refine((HPr _).out).mono ?_
  rintro e w9 ⟨g,sa,sb,rfl,hb9,k0,k1,k2,k3⟩
  exact hK _ _ hb9 ⟨g,sa,sb,rfl,k0,k1,k2,k3⟩
 try go_frame
 refine wkU (fun u hR K hK=> ?_) (fun o1=> ?_)
 ·have h0:Ex o0 u.val:=hr hR 0
  clear hR
  obtain⟨g,sa,sb,rfl,k0,k1,k2,k3⟩:=h0
  go_simp
  exact hK _ _ (brf) ⟨g,0,sa,rfl,k0,k2⟩
 try go_frame
 refine wkU (fun u hR K hK=> ?_) (fun o2=> ?_)
 ·have h1:Ey exA o1 u.val:=hr hR 1
  clear hR
  obtain⟨g,i,sa,rfl,k0,k2⟩:=h1
  have zl:=qaC u.val _ k0
  go_simp
  exact hK _ _ (brf) ⟨sa,rfl,k2⟩
 try go_frame
 refine wkU (fun u hR K hK=> ?_) (fun o3=> ?_)
 ·clear hR
  go_simp
  refine((HPr _).out).mono ?_
  rintro e w9 ⟨g,sa,sb,rfl,hb9,k0,k1,k2,k3⟩
  exact hK _ _ hb9 ⟨g,sa,sb,rfl,k0,k1,k2,k3⟩
 try go_frame
 refine wkU (fun u hR K hK=> ?_) (fun o4=> ?_)
 ·have h3:Ex o3 u.val:=hr hR 3
  clear hR
  obtain⟨g,sa,sb,rfl,k0,k1,k2,k3⟩:=h3
  go_simp
  exact hK _ _ (brf) ⟨g,1,sb,rfl,k1,k3⟩
 try go_frame
 refine wkU (fun u hR K hK=> ?_) (fun o5=> ?_)
 ·have h4:Ey exB o4 u.val:=hr hR 4
  clear hR
  obtain⟨g,i,sa,rfl,k0,k2⟩:=h4
  have zl:=qaC u.val _ k0
  go_simp
  exact hK _ _ (brf) ⟨sa,rfl,k2⟩
 ((try go_frame);refine wkQ ?_)
 try go_frame
 refine MM rfl rfl (by simp) rfl rfl ?_
 apply ex3
 ·intro u hR K hK
  have h2:Ez exA o2 u.val:=hr hR 2
  have h5:Ez exB o5 u.val:=hr hR 5
  clear hR
  obtain⟨sa,rfl,k1⟩:=h2
  obtain⟨sb,rfl,k2⟩:=h5
  go_simp
  refine((HB2 _ _ _ k1 k2).out).mono ?_
  rintro e w9 ⟨rfl,hb9⟩
  exact hK _ hb9
 rfl
 iterate 3 ((try go_frame);refine wkQ ?_)
 try go_frame
 refine wkz rfl rfl rfl rfl ?_
 apply Exists.intro
 apply And.intro
 ·intro w9
  go_simp
  try rfl
 refine⟨rfl, ?_⟩
 try go_frame
 refine aI (fun u hR=> ?_)
 have hb2:=fB hb1 u.below
 clear hR
 generalize u.val=w2 at*
 clear u hb1
 simp only[oas]
 go_wp2
 refine NoPanic.normal ?_
 clear HB2
 go_wp2_with fail
 refine((HPr _).out).mono ?_
 rintro e w3 ⟨g,sa,sb,rfl,hb3,k0,k1,k2,k3⟩
 have hW3:=fB hb2 hb3
 have HSs:=YJ (KF k0 k1 k2 k3)
 clear k0 k1 k2 k3 HPr
 have hbi:Below w3.heap.size w3 (w3.alloc (.cells #[.int .i64 0, .int .i64 1] 3)):=bel
 have HFx:=YJ (HF (w3.alloc (.cells #[.int .i64 0, .int .i64 1] 3)) (fB hW3 hbi) (.slice (some ⟨g,0,none⟩) 2 2) (.slice (some ⟨w3.heap.size,0,none⟩) 2 2) (SolsV.below HSs.out hbi) (Fv (T:=3) [0,1] rfl)).out
 clear HF
 go_wp2_with fail
 refine HFx.out.mono ?_
 rintro e w4 ⟨gv,ov,rfl,hb4,hg,ho⟩
 have HG:=YJ hg
 have HO:=YJ ho
 have hW4:=fB (fB hW3 hbi) hb4
 clear hg ho HSs HFx
 have hbs:Below w4.heap.size w4 ((w4.alloc (.cells #[gv,ov, .int .i64 (-1), .int .i64 (-1), .int .i64 (-1)] 60)).alloc (.cells #[gv,ov, .int .i64 (-1), .int .i64 (-1), .int .i64 (-1)] 60)):=bel
 have HPx:=YJ (HPt _ (fB hW4 hbs) (.slice (some ⟨w4.heap.size+1,0,none⟩) 1 1) (IM (by exact ai (by simp)) (HG.out.below hbs) (HO.out.below hbs))).out
 clear HPt
 obtain⟨ga,gn,gc,rfl, -⟩:=id HG.out
 obtain⟨oa,on,oc,rfl, -⟩:=id HO.out
 go_wp2_with fail
 refine HPx.out.mono ?_
 rintro e w5 ⟨rfl,hb5⟩
 have hW5:=fB (fB hW4 hbs) hb5
 clear HPx HG HO
 go_wp2
 go_ret
 exact⟨ay (by first|rfl|simp),hW5⟩
theorem qhx:∀s,s<4096→lf s=(List.range 12).filter (fun i=>s.testBit i):=by decide+kernel
theorem Tz {s n:Nat} (h:s<4096):n∈lf s↔s.testBit n=true:=by
 rw[qhx s h,alsm,ultv]
 refine⟨fun h=>h.2,fun k=>⟨?_,k⟩⟩
 refine Nat.lt_of_not_le fun h12=> ?_
 have:s<2 ^ n:=qaG h (Nat.pow_le_pow_right (show 0<2 by omega) h12)
 rw[Nat.testBit_lt_two_pow this]at k
 cases k
theorem Wg (ps:List (List Bod)) (v:Q3) (i n k:Nat):(ks ps v i n).testBit k=(decide (k<n)&&(decide (i≠k)&&Cb ps v i k)):=by
 unfold ks
 induction n with
 |zero=>simp
 |succ n ih=>
  rw[List.range_succ,List.foldl_append]
  simp only[List.foldl_cons,List.foldl_nil]
  split
  ·rename_i h
   rw[Nat.testBit_or,ih,Nat.testBit_two_pow]
   by_cases e:n=k
   ·subst e;simp[h.1,h.2]
   ·have:decide (k<n+1)=decide (k<n):=by by_cases h:k<n<;>simp[h]<;>omega
    rw[this]
    simp[e]
  ·rename_i h
   rw[ih]
   by_cases e:n=k
   ·subst e
    have:(decide (i≠n)&&Cb ps v i n)=false:=by
     by_cases h1:i=n
     ·simp[h1]
     ·cases hb:Cb ps v i n with
      |false=>simp
      |true=>exact absurd ⟨h1,hb⟩ h
    rw[this]
    simp
   ·have:decide (k<n+1)=decide (k<n):=by by_cases h:k<n<;>simp[h]<;>omega
    rw[this]
theorem VS (G:List Nat) (grp:Nat) (l:List Nat) (k:Nat):(mn G grp l).testBit k=true↔grp.testBit k=true∧∃j∈l,(G.getD j 0).testBit k=true:=by
 unfold mn
 have key:∀(l:List Nat) (s:Nat),(l.foldl (fun s k=>s |||(G.getD k 0&&& grp)) s).testBit k=true↔s.testBit k=true∨(grp.testBit k=true∧∃j∈l,(G.getD j 0).testBit k=true):=by
  intro l
  induction l with
  |nil=>intro s;simp
  |cons x l ih=>
   intro s
   rw[List.foldl_cons,ih,Nat.testBit_or,qgq]
   simp only[qgf,qaF,alsk,exists_eq_or_imp]
   constructor
   ·rintro((h|h)|h)
    ·exact .inl h
    ·exact .inr ⟨h.2, .inl h.1⟩
    ·exact .inr ⟨h.1, .inr h.2⟩
   ·rintro(h|⟨h,h1|h1⟩)
    ·exact .inl (.inl h)
    ·exact .inl (.inr ⟨h1,h⟩)
    ·exact .inr ⟨h,h1⟩
 rw[key]
 simp
inductive Rch (E:Nat→Nat→Prop) (grp:Nat→Prop) (n:Nat):Nat→Prop
 |base:Rch E grp n n
 |step {j k:Nat}:Rch E grp n j→E j k→grp k→Rch E grp n k
def Vf (G:List Nat) (j k:Nat):Prop:=(G.getD j 0).testBit k=true
theorem Vq (G:List Nat) (grp n:Nat) (hg:grp<4096):∀f out fr,out<4096→fr<4096→cM out fr≤f→out.testBit n=true→
  (∀k,out.testBit k=true→Rch (Vf G) (fun k=>grp.testBit k=true) n k)→(∀k,fr.testBit k=true→out.testBit k=true)→
  (∀j k,out.testBit j=true→fr.testBit j=false→Vf G j k→grp.testBit k=true→out.testBit k=true)→
  ∀k,(Ro G grp f out fr).testBit k=true↔Rch (Vf G) (fun k=>grp.testBit k=true) n k
 |0,out,fr,ho,hf,hm,hn,h1,h2,h3=>by
  have h0:fr=0:=qgk fun h0=>by unfold cM at hm;rw[if_neg h0]at hm;omega
  subst h0
  intro k
  rw[TN]
  refine⟨h1 k,fun h=> ?_⟩
  induction h with
  |base=>exact hn
  |step _ e g ih=>exact h3 _ _ ih (by simp) e g
 |f+1,out,fr,ho,hf,hm,hn,h1,h2,h3=>by
  intro k
  by_cases h0:fr=0
  ·subst h0
   rw[TN]
   refine⟨h1 k,fun h=> ?_⟩
   induction h with
   |base=>exact hn
   |step _ e g ih=>exact h3 _ _ ih (by simp) e g
  ·rw[Ro,if_neg h0]
   have hnx:=VS G grp (lf fr)
   have hn2:mn G grp (lf fr)<4096:=Oj G grp 12 hg _
   have ho2:out |||mn G grp (lf fr)<4096:=Nat.or_lt_two_pow (n:=12) ho hn2
   have hd:=Gj (nx:=mn G grp (lf fr)) h0 ho ho2
   have hdl:dN (mn G grp (lf fr)) out<4096:=Nat.xor_lt_two_pow (n:=12) hn2 (Nat.lt_of_le_of_lt Nat.and_le_left hn2)
   refine Vq G grp n hg f _ (dN (mn G grp (lf fr)) out) ho2 hdl (by omega) (by rw[Nat.testBit_or,hn];rfl) (fun k hk=> ?_) (fun k hk=> ?_) (fun j k hj hf2 he hg2=> ?_) k
   ·rw[Nat.testBit_or,qgf]at hk
    rcases hk with hk|hk
    ·exact h1 k hk
    ·obtain⟨hk1,j,hj,hk2⟩:=(hnx k).1 hk
     exact .step (h1 j (h2 j ((Tz hf).1 hj))) hk2 hk1
   ·rw[Gh,qaF]at hk
    rw[Nat.testBit_or,hk.1,Bool.or_true]
   ·rw[Nat.testBit_or,qgf]at hj ⊢
    rw[Gh]at hf2
    have hjo:out.testBit j=true:=by
     rcases hj with hj|hj
     ·exact hj
     ·rw[hj]at hf2;simpa using hf2
    cases hfj:fr.testBit j with
    |false=>exact .inl (h3 j k hjo hfj he hg2)
    |true=>exact .inr ((hnx k).2 ⟨hg2,j,(Tz hf).2 hfj,he⟩)
theorem VK (G:List Nat) (grp n:Nat) (hg:grp<4096) (hn:n<12) (k:Nat):(car G grp n).testBit k=true↔Rch (Vf G) (fun k=>grp.testBit k=true) n k:=by
 unfold car
 have h2:2 ^ n<4096:=qaG (Nat.pow_lt_pow_right (by decide) hn) (by decide)
 refine Vq G grp n hg 8193 _ _ h2 h2 (by unfold cM;have:=Nat.two_pow_pos n;split<;>omega) (by rw[Nat.testBit_two_pow];simp) (fun k hk=> ?_) (fun k hk=>hk) (fun j k hj hf=> ?_) k
 ·rw[Nat.testBit_two_pow]at hk
  have:n=k:=by simpa using hk
  subst this
  exact .base
 ·rw[hj]at hf
  cases hf
def Tw (E:Nat→Nat→Bool) (grp:List Nat) (x:Nat) (acc:List Nat):List Nat:=grp.foldl (fun acc y=>if E x y&& !acc.contains y then acc++[y]else acc) acc
def Um (E:Nat→Nat→Bool) (grp:List Nat):Nat→Nat→List Nat→List Nat
 |0,_,acc=>acc
 |f+1,i,acc=>if h:i<acc.length then Um E grp f (i+1) (Tw E grp acc[i] acc)else acc
theorem TP (E:Nat→Nat→Bool) (x:Nat):∀(grp acc:List Nat),acc.Nodup→(Tw E grp x acc).Nodup∧(∃t,Tw E grp x acc=acc++t)∧∀y,y∈Tw E grp x acc↔y∈acc∨(y∈grp∧E x y=true)
 | [],acc,h=>⟨h,⟨[],by simp[Tw]⟩,fun y=>by simp[Tw]⟩
 |z::grp,acc,h=>by
  have hs:Tw E (z::grp) x acc=Tw E grp x (if E x z&& !acc.contains z then acc++[z]else acc):=rfl
  rw[hs]
  by_cases hc:(E x z&& !acc.contains z)=true
  ·rw[if_pos hc]
   rw[qaF]at hc
   have hz:z ∉ acc:=by simpa using hc.2
   obtain⟨h1,⟨t,h2⟩,h3⟩:=TP E x grp (acc++[z]) (by rw[List.nodup_append];exact⟨h,by simp,fun a ha b hb e=>by simp at hb;subst hb;subst e;exact hz ha⟩)
   refine⟨h1,⟨z::t,by rw[h2];simp⟩,fun y=> ?_⟩
   rw[h3]
   simp only[altl,alsk,List.not_mem_nil,or_false]
   constructor
   ·rintro((h|rfl)|⟨h,k⟩)
    ·exact .inl h
    ·exact .inr ⟨.inl rfl,hc.1⟩
    ·exact .inr ⟨.inr h,k⟩
   ·rintro(h|⟨rfl|h,k⟩)
    ·exact .inl (.inl h)
    ·exact .inl (.inr rfl)
    ·exact .inr ⟨h,k⟩
  ·rw[if_neg hc]
   obtain⟨h1,h2,h3⟩:=TP E x grp acc h
   refine⟨h1,h2,fun y=> ?_⟩
   rw[h3]
   simp only[alsk]
   constructor
   ·rintro(h|⟨h,k⟩)
    ·exact .inl h
    ·exact .inr ⟨.inr h,k⟩
   ·rintro(h|⟨rfl|h,k⟩)
    ·exact .inl h
    ·refine .inl (qgk fun hn=>hc ?_)
     rw[k]
     simpa using hn
    ·exact .inr ⟨h,k⟩
theorem Vi:∀(t l:List Nat),t.Nodup→(∀x∈t,x∈l)→t.length≤l.length
 | [],l,_,_=>by simp
 |a::t,l,hn,hs=>by
  rw[List.nodup_cons]at hn
  have ha:=hs a (by simp)
  have h:=Vi t (l.erase a) hn.2 (fun x hx=>(List.mem_erase_of_ne (fun e=>hn.1 (by rw[←e];exact hx))).2 (hs x (by simp[hx])))
  rw[List.length_erase_of_mem ha]at h
  have:=List.length_pos_of_mem ha
  rw[qdn]
  omega
structure BfsI (E:Nat→Nat→Bool) (grp:List Nat) (n i:Nat) (acc:List Nat):Prop where
 nd:acc.Nodup
 le:i≤acc.length
 mem:n∈acc
 rch:∀y∈acc,Rch (fun j k=>E j k=true) (· ∈grp) n y
 clo:∀j (h:j<acc.length),j<i→∀y∈grp,E acc[j] y=true→y∈acc
theorem BfsI.len {E:Nat→Nat→Bool} {grp:List Nat} {n i:Nat} {acc:List Nat} (h:BfsI E grp n i acc):acc.length≤grp.length+1:=by
 have:=Vi acc (n::grp) h.nd (fun x hx=>by
  have:=h.rch x hx
  cases this with
  |base=>simp
  |step _ _ g=>simp[g])
 simpa using this
theorem BfsI.start (E:Nat→Nat→Bool) (grp:List Nat) (n:Nat):BfsI E grp n 0 [n]:=
 ⟨by simp,by simp,by simp,fun y hy=>by simp at hy;subst hy;exact .base,fun j _ h=>by omega⟩
theorem BfsI.next {E:Nat→Nat→Bool} {grp:List Nat} {n i:Nat} {acc:List Nat} (h:BfsI E grp n i acc) (hi:i<acc.length):BfsI E grp n (i+1) (Tw E grp acc[i] acc):=by
 obtain⟨h1,⟨t,ht⟩,h3⟩:=TP E acc[i] grp acc h.nd
 refine⟨h1,by rw[ht,qaE];omega,(h3 n).2 (.inl h.mem),fun y hy=> ?_,fun j hj hji y hy he=> ?_⟩
 ·rcases(h3 y).1 hy with hy|⟨hy,he⟩
  ·exact h.rch y hy
  ·exact .step (h.rch _ (qaB hi)) he hy
 ·have e:(Tw E grp acc[i] acc)[j]'hj=acc[j]'(by omega):=by
   simp only[ht]
   rw[qgn (by omega)]
  rw[e]at he
  rw[h3]
  by_cases hij:j=i
  ·subst hij;exact .inr ⟨hy,he⟩
  ·exact .inl (h.clo j (by omega) (by omega) y hy he)
theorem BfsI.done {E:Nat→Nat→Bool} {grp:List Nat} {n:Nat} {acc:List Nat} (h:BfsI E grp n acc.length acc) (y:Nat):y∈acc↔Rch (fun j k=>E j k=true) (· ∈grp) n y:=by
 refine⟨h.rch y,fun hr=> ?_⟩
 induction hr with
 |base=>exact h.mem
 |step _ e g ih=>
  obtain⟨j,hj,rfl⟩:=qaJ ih
  exact h.clo j hj hj _ g e
theorem zsQ {P:Program} {ops:Array Oper} {S:World→Prop} {R:Nat→Value→World→Prop} {i:Nat} {l:List Nat} {a:Act} {o:Oper} {v:Value} {d:Nat} (h3:pZ P ops S R l (a.put (some d) v)) (ho:ops[i]? =some o:=by rfl) (hd:o.dst=some d:=by rfl) (hg:o.guard=none:=by rfl) (h1:∀w,S w→(execOp a.eval o).run P w= .ok (.value v) w) (h2:R i=IsV v:=by rfl):pZ P ops S R (i::l) a:=du ho hg ⟨v,h1,h2,hd▸h3⟩
def Rc (W:World) (e:Ending) (w':World):Prop:=∃r,e= .returned (.bool r)∧Below W.heap.size W w'
theorem Qq {w:World} {g:Nat} {x0 x1 x2:Value} {t:TypeId} (h:w.heap[g]? =some (.cells #[x0,x1,x2] t (0,0))) (i:Nat) (hi:i<3):w.cell? ⟨g,i,none⟩=some (if i=0 then x0 else if i=1 then x1 else x2):=by
 rw[bq h]
 match i,hi with
 |0,_=>rfl
 |1,_=>rfl
 |2,_=>rfl
theorem Qd (a b:Q4) (W:World):Calls Tryz.prog 141 #[v4 a,v4 b] W (Rc W):=by
 obtain⟨p0,p1,p2,pd⟩:=a
 obtain⟨q0,q1,q2,qd⟩:=b
 obtain⟨V,HV⟩:∃V,Hid ((W.alloc (.cells #[.int .i64 p0, .int .i64 p1, .int .i64 p2, .int .i64 pd] 186)).alloc (.cells #[.int .i64 q0, .int .i64 q1, .int .i64 q2, .int .i64 qd] 186)=V):=⟨_,YJ rfl⟩
 have hV:Below W.heap.size W V:=by rw[←HV.out];exact bel
 have BP:Hid (V.heap[W.heap.size]? =some (.cells #[.int .i64 p0, .int .i64 p1, .int .i64 p2, .int .i64 pd] 186 (0,0))):=YJ (by rw[←HV.out];exact(aB (by simp)).trans (ai rfl))
 have BQ:Hid (V.heap[W.heap.size+1]? =some (.cells #[.int .i64 q0, .int .i64 q1, .int .i64 q2, .int .i64 qd] 186 (0,0))):=YJ (by rw[←HV.out];exact ai (by simp))
 go_enter Tryz.func141,Tryz.ntmps141
 go_wp2
 rw[HV.out]
 clear HV
 have xp0:=(bq BP.out 0).trans rfl
 have xp1:=(bq BP.out 1).trans rfl
 have xp2:=(bq BP.out 2).trans rfl
 have xp3:=(bq BP.out 3).trans rfl
 simp only[qdp,qdq,qdr]at xp0 xp1 xp2 xp3
 have xpz:=ah BP.out
 have xpf:=aC BP.out
 have xq0:=(bq BQ.out 0).trans rfl
 have xq1:=(bq BQ.out 1).trans rfl
 have xq2:=(bq BQ.out 2).trans rfl
 have xq3:=(bq BQ.out 3).trans rfl
 simp only[qdp,qdq,qdr]at xq0 xq1 xq2 xq3
 have xqz:=ah BQ.out
 have xqf:=aC BQ.out
 apply bW [7,8,9,10,11,12,13] [0,1,2,3,4,5,6,7,8,9,10,11,12,13,14,15] 16 [] 17 [] [sv _,sv _,sv _,sv _,sv _,sv _,sv _,sv _,sv _,sv _,sv _,sv _,sv _,sv _,⟨yd V.heap.size 37 #[.int .i64 0, .int .i64 0, .int .i64 0],by first|exact stab_po _ _|exact stab_fo _ _|exact stab_co _ _|exact stab_ko _ _|exact stab_kgo _ _|exact ar _ _ _⟩,⟨yd V.heap.size 37 #[.int .i64 0, .int .i64 0, .int .i64 0],by first|exact stab_po _ _|exact stab_fo _ _|exact stab_co _ _|exact stab_ko _ _|exact stab_kgo _ _|exact ar _ _ _⟩] (fun w'=>Below V.heap.size V w') (by kernel_rfl) (by kernel_rfl) (by kernel_rfl) (fun u=>u.below)
 ·(try go_frame)
  iterate 7 ((try go_frame);refine zsQ ?_ (h1:=fun w9 h9=>by(have y0:=ab h9 xq0;have y1:=ab h9 xq1;have y2:=ab h9 xq2;have y3:=ab h9 xq3;have yz:=qaG xqz h9.size;go_simp;first|rfl|(simp only[h9];rfl))))
  exact gR
 iterate 14 ((try go_frame);refine wkQ ?_)
 try go_frame
 refine wkU (fun u hR K hK=> ?_) (fun o14=> ?_)
 ·clear hR
  have zz:=u.below.size
  go_simp
  exact hK _ _ bel ⟨_,rfl,zz,ai rfl⟩
 try go_frame
 refine wkU (fun u hR K hK=> ?_) (fun o15=> ?_)
 ·clear hR
  have zz:=u.below.size
  go_simp
  exact hK _ _ bel ⟨_,rfl,zz,ai rfl⟩
 try go_frame
 refine aI (fun u hR=> ?_)
 obtain⟨ga,rfl,hga,hA⟩:yd V.heap.size 37 #[.int .i64 0, .int .i64 0, .int .i64 0] o14 u.val:=hR 14 (by simp)
 obtain⟨gb,rfl,hgb,hB⟩:yd V.heap.size 37 #[.int .i64 0, .int .i64 0, .int .i64 0] o15 u.val:=hR 15 (by simp)
 have HA:=YJ hA
 have HB:=YJ hB
 have hVu:=u.below
 clear hR hA hB xp0 xp1 xp2 xp3 xpz xpf xq0 xq1 xq2 xq3 xqz xqf
 generalize u.val=X at*
 clear u
 obtain⟨a0,a1,a2,af,az⟩:=NO HA.out
 obtain⟨Y,HY⟩:∃Y,Hid (jd (jd X ga (.int .i64 p0) (.int .i64 p1) (.int .i64 p2)) gb (.int .i64 q0) (.int .i64 q1) (.int .i64 q2)=Y):=⟨_,YJ rfl⟩
 have hVY:Below V.heap.size V Y:=by rw[←HY.out];exact dt (dt hVu hga _ _ _) hgb _ _ _
 have HAY:Hid (∃u0 u1 u2:Int,Y.heap[ga]? =some (.cells #[.int .i64 u0, .int .i64 u1, .int .i64 u2] 37 (0,0))):=YJ (by
  rw[←HY.out]
  by_cases h:ga=gb
  ·subst h
   exact⟨q0,q1,q2,eh (eh HA.out _ _ _) _ _ _⟩
  ·exact⟨p0,p1,p2,(cE h _ _ _).trans (eh HA.out _ _ _)⟩)
 have HBY:Hid (Y.heap[gb]? =some (.cells #[.int .i64 q0, .int .i64 q1, .int .i64 q2] 37 (0,0))):=YJ (by
  rw[←HY.out]
  by_cases h:ga=gb
  ·subst h
   exact eh (eh HA.out _ _ _) _ _ _
  ·exact eh ((cE (fun e=>h e.symm) _ _ _).trans HB.out) _ _ _)
 have eY:(((((X.setCell ⟨ga,0,none⟩ (.int .i64 p0)).setCell ⟨ga,1,none⟩ (.int .i64 p1)).setCell ⟨ga,2,none⟩ (.int .i64 p2)).setCell ⟨gb,0,none⟩ (.int .i64 q0)).setCell ⟨gb,1,none⟩ (.int .i64 q1)).setCell ⟨gb,2,none⟩ (.int .i64 q2)=Y:=HY.out
 have HP:=YJ ((hVY.block _ (ah BP.out)).trans BP.out)
 have HQ:=YJ ((hVY.block _ (ah BQ.out)).trans BQ.out)
 have hW:=fB hV hVY
 by_cases hab:ga=gb
 ·subst hab
  simp only[oas]
  go_wp2
  refine⟨dt hVu hga _ _ _, ?_⟩
  simp only[oas]
  go_wp2
  refine NoPanic.normal ?_
  try rw[eY]
  clear eY HY HA HB a0 a1 a2 af az  BP BQ hVu
  obtain⟨u0,u1,u2,hAY⟩:=HAY.out
  have HAY:=YJ hAY
  clear hAY
  go_wp2
  go_loopw [7] (fun i wr=>∃k:Nat,k≤3∧i= .int .i64 k∧Below Y.heap.size Y wr) (fun i _=>3-(intOf i).toNat)
  case atStart=>exact⟨0,by omega,rfl,brf⟩
  case round=>
   obtain⟨k,hk,rfl,hb⟩:=hrel
   have hWr:=fB hW hb
   by_cases hlt:k<3
   ·have HPr:=YJ ((hb.block _ (ah HP.out)).trans HP.out)
    have HQr:=YJ ((hb.block _ (ah HQ.out)).trans HQ.out)
    have hAr:=(hb.block _ (ah HAY.out)).trans HAY.out
    have hBr:=(hb.block _ (ah HBY.out)).trans HBY.out
    obtain⟨m,hm⟩:∃m:Int,wr.cell? ⟨ga,k,none⟩=some (.int .i64 m):=by
     rw[Qq hAr k hlt]
     split
     ·exact⟨_,rfl⟩
     ·split<;>exact⟨_,rfl⟩
    obtain⟨n,hn⟩:∃n:Int,wr.cell? ⟨ga,k,none⟩=some (.int .i64 n):=by
     rw[Qq hBr k hlt]
     split
     ·exact⟨_,rfl⟩
     ·split<;>exact⟨_,rfl⟩
    have az:=ah hAr
    have bz:=ah hBr
    have dP:=(bq HPr.out 3).trans rfl
    have dQ:=(bq HQr.out 3).trans rfl
    have pz:=ah HPr.out
    have qz:=ah HQr.out
    simp only[qdp,qdq,qdr]at dP dQ
    have g1:(k:Int)<3:=by omega
    have g2:(0:Int)≤(k:Int):=by omega
    clear hAr hBr HAY HBY HP HQ HPr HQr
    obtain⟨x,Hx⟩:∃x,Hid (IntKind.i64.wrap (m*qd)=x):=⟨_,YJ rfl⟩
    obtain⟨y,Hy⟩:∃y,Hid (IntKind.i64.wrap (n*pd)=y):=⟨_,YJ rfl⟩
    have ex:=Hx.out
    have ey:=Hy.out
    go_wp2
    apply aj [12] [0,1,2,3,4,5,6,7,8,9,10,11,12] 13 [] [sv _,sv _,sv _,sv _,sv _,sv _,sv _,sv _,sv _,sv _,sv _,sv _,sv _] (by kernel_rfl) (by kernel_rfl)
    iterate 12 ((try go_frame);refine wkQ ?_)
    try go_frame
    refine wkz rfl rfl rfl rfl ?_
    apply Exists.intro
    apply And.intro
    ·intro w9
     go_simp
     try rfl
    refine⟨rfl, ?_⟩
    try go_frame
    refine aI (fun u hR=> ?_)
    have hbu:=fB hWr u.below
    have hbu':=fB hb u.below
    clear hR
    generalize u.val=Z at*
    clear u
    simp only[oas]
    go_wp2
    refine NoPanic.normal ?_
    go_wp2
    all_goals first
     |exact⟨⟨k+1,by omega,by go_num,hbu'⟩,by first|(simp[intOf];done)|(simp[intOf];omega)⟩
     |(go_ret;exact⟨_,rfl,hbu⟩)
   ·obtain rfl:k=3:=by omega
    clear HAY HBY HP HQ
    go_wp2
    go_ret
    exact⟨_,rfl,hWr⟩
 ·obtain⟨b0',b1',b2',bf,bz⟩:=NO HB.out
  have nba:gb≠ga:=fun e=>hab e.symm
  simp only[oas]
  go_wp2
  refine⟨dt hVu hga _ _ _, ?_⟩
  simp only[oas]
  go_wp2
  refine NoPanic.normal ?_
  try rw[eY]
  clear eY HY HA HB a0 a1 a2 af az b0' b1' b2' bf bz nba BP BQ hVu
  obtain⟨u0,u1,u2,hAY⟩:=HAY.out
  have HAY:=YJ hAY
  clear hAY
  go_wp2
  go_loopw [7] (fun i wr=>∃k:Nat,k≤3∧i= .int .i64 k∧Below Y.heap.size Y wr) (fun i _=>3-(intOf i).toNat)
  case atStart=>exact⟨0,by omega,rfl,brf⟩
  case round=>
   obtain⟨k,hk,rfl,hb⟩:=hrel
   have hWr:=fB hW hb
   by_cases hlt:k<3
   ·have HPr:=YJ ((hb.block _ (ah HP.out)).trans HP.out)
    have HQr:=YJ ((hb.block _ (ah HQ.out)).trans HQ.out)
    have hAr:=(hb.block _ (ah HAY.out)).trans HAY.out
    have hBr:=(hb.block _ (ah HBY.out)).trans HBY.out
    obtain⟨m,hm⟩:∃m:Int,wr.cell? ⟨ga,k,none⟩=some (.int .i64 m):=by
     rw[Qq hAr k hlt]
     split
     ·exact⟨_,rfl⟩
     ·split<;>exact⟨_,rfl⟩
    obtain⟨n,hn⟩:∃n:Int,wr.cell? ⟨gb,k,none⟩=some (.int .i64 n):=by
     rw[Qq hBr k hlt]
     split
     ·exact⟨_,rfl⟩
     ·split<;>exact⟨_,rfl⟩
    have az:=ah hAr
    have bz:=ah hBr
    have dP:=(bq HPr.out 3).trans rfl
    have dQ:=(bq HQr.out 3).trans rfl
    have pz:=ah HPr.out
    have qz:=ah HQr.out
    simp only[qdp,qdq,qdr]at dP dQ
    have g1:(k:Int)<3:=by omega
    have g2:(0:Int)≤(k:Int):=by omega
    clear hAr hBr HAY HBY HP HQ HPr HQr
    obtain⟨x,Hx⟩:∃x,Hid (IntKind.i64.wrap (m*qd)=x):=⟨_,YJ rfl⟩
    obtain⟨y,Hy⟩:∃y,Hid (IntKind.i64.wrap (n*pd)=y):=⟨_,YJ rfl⟩
    have ex:=Hx.out
    have ey:=Hy.out
    go_wp2
    apply aj [12] [0,1,2,3,4,5,6,7,8,9,10,11,12] 13 [] [sv _,sv _,sv _,sv _,sv _,sv _,sv _,sv _,sv _,sv _,sv _,sv _,sv _] (by kernel_rfl) (by kernel_rfl)
    iterate 12 ((try go_frame);refine wkQ ?_)
    try go_frame
    refine wkz rfl rfl rfl rfl ?_
    apply Exists.intro
    apply And.intro
    ·intro w9
     go_simp
     try rfl
    refine⟨rfl, ?_⟩
    try go_frame
    refine aI (fun u hR=> ?_)
    have hbu:=fB hWr u.below
    have hbu':=fB hb u.below
    clear hR
    generalize u.val=Z at*
    clear u
    simp only[oas]
    go_wp2
    refine NoPanic.normal ?_
    go_wp2
    all_goals first
     |exact⟨⟨k+1,by omega,by go_num,hbu'⟩,by first|(simp[intOf];done)|(simp[intOf];omega)⟩
     |(go_ret;exact⟨_,rfl,hbu⟩)
   ·obtain rfl:k=3:=by omega
    clear HAY HBY HP HQ
    go_wp2
    go_ret
    exact⟨_,rfl,hWr⟩
theorem tG {w:World} {base:Nat} {T:TypeId} {g n c:Nat} {cs:List Q4} (h:w.ownsRow base T 4 (.slice (some ⟨g,0,none⟩) n c) cs.length (cs.flatMap aH)):Q4At w g 0 cs:=by
 obtain⟨a,n',c',e,hn,_,hx⟩:=jz h
 intro i hi
 obtain⟨b,off,rfl,h4⟩:=hx (by omega)
 cases e
 exact h4 i hi
theorem mB {w:World} {g:Nat} {A:List Q4} (h:Q4At w g 0 A) (k:Nat):∀j u,((A.take k).flatMap aH)[j]? =some u→w.cell? ((⟨g,0,none⟩:Addr).add j)=some u:=by
 intro j u hu
 rw[jY]
 have hlen:∀l:List Q4,(l.flatMap aH).length=l.length*4:=fun l=>by
  induction l with
  |nil=>rfl
  |cons x l ih=>rw[qgm,qaE,ih,qdn];simp[aH];omega
 have hj:j<((A.take k).flatMap aH).length:=(List.getElem?_eq_some_iff.1 hu).1
 rw[hlen]at hj
 obtain⟨i,r,hr,rfl⟩:∃i r,r<4∧j=i*4+r:=⟨j / 4,j % 4,by omega,by omega⟩
 have hi:i<(A.take k).length:=by omega
 rw[eQ aH 4 (fun _=>rfl) _ i hi r hr]at hu
 have hi2:i<A.length:=by simp at hi;omega
 obtain⟨c0,c1,c2,c3⟩:=h i hi2
 rw[List.getElem_take]at hu
 simp only[qfW]at c0 c1 c2 c3
 rcases(by omega:r=0∨r=1∨r=2∨r=3)with rfl|rfl|rfl|rfl
 ·rw[←hu];exact c0
 ·rw[←hu];exact c1
 ·rw[←hu];exact c2
 ·rw[←hu];exact c3
theorem vH {w:World} {g:Nat} {A:List Q4} (h:Q4At w g 0 A) (k:Nat):∀j u,((A.drop k).flatMap aH)[j]? =some u→w.cell? ⟨g,k*4+j,none⟩=some u:=by
 intro j u hu
 have hlen:∀l:List Q4,(l.flatMap aH).length=l.length*4:=fun l=>by
  induction l with
  |nil=>rfl
  |cons x l ih=>rw[qgm,qaE,ih,qdn];simp[aH];omega
 have hj:j<((A.drop k).flatMap aH).length:=(List.getElem?_eq_some_iff.1 hu).1
 rw[hlen]at hj
 obtain⟨i,r,hr,rfl⟩:∃i r,r<4∧j=i*4+r:=⟨j / 4,j % 4,by omega,by omega⟩
 have hi:i<(A.drop k).length:=by omega
 rw[eQ aH 4 (fun _=>rfl) _ i hi r hr]at hu
 have hi2:k+i<A.length:=by simp at hi;omega
 obtain⟨c0,c1,c2,c3⟩:=h (k+i) hi2
 rw[List.getElem_drop]at hu
 simp only[qfW,Nat.add_mul]at c0 c1 c2 c3
 rcases(by omega:r=0∨r=1∨r=2∨r=3)with rfl|rfl|rfl|rfl
 ·rw[←hu];exact c0
 ·rw[←hu];exact c1
 ·rw[←hu];exact c2
 ·rw[←hu];exact c3
theorem gD {w:World} {g:Nat} {A:List Q4} (h:Q4At w g 0 A) (k:Nat):∀j u,((A.drop k).flatMap aH)[j]? =some u→w.cell? ((⟨g,k*4,none⟩:Addr).add j)=some u:=fun j u hu=>by
 rw[vp]
 exact vH h k j u hu
def Ou (B:Nat):Value→World→Prop:=fun v w=>∃g,v= .slice (some ⟨g,0,none⟩) 0 0∧B≤g∧w.heap[g]? =some (.cells #[] 186 (0,0))
theorem NQ (B:Nat):dR (Ou B):=fun _ _ _ hb ⟨g,h1,h2,h3⟩=>⟨g,h1,h2,(hb.block g (ah h3)).trans h3⟩
def PF (p:Q4):Value→World→Prop:=fun v w=>∃g,v= .slice (some ⟨g,0,none⟩) 1 1∧w.heap[g]? =some (.cells (aH p).toArray 186 (0,0))
theorem NR (p:Q4):dR (PF p):=fun _ _ _ hb ⟨g,h1,h2⟩=>⟨g,h1,(hb.block g (ah h2)).trans h2⟩
def OC (B:Nat) (L:List Q4):Value→World→Prop:=fun v w=>w.ownsRow B 186 4 v L.length (L.flatMap aH)
theorem NS (B:Nat) (L:List Q4):dR (OC B L):=fun _ _ _ hb h=>au h hb
def QT:Value→World→Prop:=fun v _=>∃b,v= .bool b
theorem NT:dR QT:=fun _ _ _ _ h=>h
theorem Ov {w:World} {g:Nat} {p:Q4} (h:w.heap[g]? =some (.cells (aH p).toArray 186 (0,0))):∀j u,([p].flatMap aH)[j]? =some u→w.cell? ((⟨g,0,none⟩:Addr).add j)=some u:=fun j u hu=>by
 rw[jY,bq h]
 simpa using hu
theorem NP {ops:Array Oper} {rest:List Oper} {o:Oper} {a:Act} {Q:Exit→Act→World→Prop} {w W:World} {B n m c:Nat} {L ds:List Q4} {v:Value} {ad:Addr} (hown:w.ownsRow B 186 4 v n (L.flatMap aH)) (hb:Below B W w) (hB:B≤w.heap.size) (hm:m=ds.length)
  (hsrc:∀j u,(ds.flatMap aH)[j]? =some u→w.cell? (ad.add j)=some u) (s x:Operand) (hgd:o.guard=none) (ho:o.op= .call {callee:= .builtin .append,args:=#[s,x],argTypes:=#[98,98]}) (hs:a.eval s=v) (hx:a.eval x= .slice (some ad) m c) (hn:n+m≤10000000)
  (h:∀v' w',w'.ownsRow B 186 4 v' (L++ds).length ((L++ds).flatMap aH)→Below B W w'→wpList Tryz.prog ops Q rest (a.put o.dst v') w'):wpList Tryz.prog ops Q (o::rest) a w:=by
 obtain⟨i0,hi0,hz0,hz1,hz2⟩:=info_parts kN
 have hl:=hown.1
 rw[bh]at hl
 obtain rfl:n=L.length:=by omega
 subst hm
 refine wpList_append_own w hgd s x 98 ho B 186 i0 (v4 (0,0,0,0)) 4 32 kO hi0 hz0 hz1 hz2 rfl (by decide) v _ (L.flatMap aH) hs hown ad ds.length c (ds.flatMap aH) hx (bh ds) hsrc (fun u hu=> ?_) (by unfold maxLen;omega) (by omega) hB fun v' w' h1 h2 _=>h v' w' ?_ (hb.grown h2 hB (fun z hz=>(hown.lt z hz).1))
 ·obtain⟨x,_,h⟩:=List.mem_flatMap.1 hu
  simp[aH]at h
  rcases h with rfl|rfl|rfl|rfl<;>rfl
 ·rw[qaE,qgj]
  exact h1
def Re (n:Nat) (W:World) (e:Ending) (w':World):Prop:=∃v,∃L:List Q4,e= .returned v∧Below W.heap.size W w'∧L.length=n∧w'.ownsRow W.heap.size 186 4 v L.length (L.flatMap aH)
theorem Qe (cs:List Q4) (cv:Value) (W:World) (hl:cs.length≤1000000) (h:Q4s W cv cs):Calls Tryz.prog 98 #[cv] W (Re cs.length W):=by
 obtain⟨i0,Hi0⟩:=qfT kN
 obtain⟨ca,n,cc,rfl,hn,_,hx⟩:=h
 have HX:=YJ hx
 have HN:=YJ hn
 have hl':n≤1000000:=by omega
 rw[hn]
 have HBf:=fun a b W'=>YJ (Qd a b W')
 clear hn hx hl
 go_enter Tryz.func98,Tryz.ntmps98
 go_wp2
 go_loopw [3,4] (fun v i wr=>∃(k:Nat) (L:List Q4),k≤n∧i= .int .i64 k∧Below W.heap.size W wr∧Hid (L.length=k∧(k=0→v= .slice none 0 0)∧wr.ownsRow W.heap.size 186 4 v L.length (L.flatMap aH))) (fun _ i _=>n-(intOf i).toNat)
 case atStart=>exact⟨0,[],by omega,rfl,brf,YJ ⟨rfl,fun _=>rfl,qds _ _ _ _⟩⟩
 case round=>
  rename World=>wo
  obtain⟨k,L,hk,rfl,hb,HL⟩:=hrel
  by_cases hlt:k<n
  ·have hil:k<cs.length:=by have:=HN.out;omega
   obtain⟨b,off,rfl,hi⟩:=HX.out (by omega)
   obtain⟨d0,d1,d2,d3⟩:=(hi.below hb) k hil
   generalize cs[k]=p at*
   obtain⟨p0,p1,p2,p3⟩:=p
   simp only at d0 d1 d2 d3
   have zlo:=qaC wo _ d0
   simp only at zlo
   have g1:(k:Int)<(n:Int):=by omega
   have g2:(0:Int)≤(k:Int):=by omega
   clear hi HX
   by_cases hk0:k=0
   ·subst hk0
    obtain⟨hLk,hv, -⟩:=HL.out
    obtain rfl:=hv rfl
    obtain rfl:L=[]:=alto.1 hLk
    clear hv hLk HL
    have z0:((0:Nat):Int)=0:=rfl
    simp only[Nat.zero_mul,Nat.add_zero]at d0 d1 d2 d3
    rw[z0]at g1
    simp only[z0]
    go_wp2
    go_loopw [5] (fun a wi=>a= .int .i64 0∧Below wo.heap.size wo wi) (fun a _=>0)
    case atStart=>exact⟨rfl,brf⟩
    case round=>
     rename World=>wi
     obtain⟨rfl,hbi⟩:=hrel
     have c0:=ab hbi d0
     have c1:=ab hbi d1
     have c2:=ab hbi d2
     have c3:=ab hbi d3
     have zl:=qaG zlo hbi.size
     clear d0 d1 d2 d3 zlo
     go_wp2
     refine wqf fun u=> ?_
     have e0:=ab u.below c0
     have e1:=ab u.below c1
     have e2:=ab u.below c2
     have e3:=ab u.below c3
     have ez:=qaG zl u.below.size
     have hbj:=fB hbi u.below
     skip
     clear c0 c1 c2 c3 zl hbi
     generalize u.val=wj at*
     clear u
     go_wp2
     apply aj [11,12,13] [0,1,2,3,4,5,6,7,8,9,11,12,13] 10 [14,15] [⟨Ou wj.heap.size,by first|exact NQ _|exact NR _|exact NS _ _|exact NT⟩,sv _,sv _,sv _,⟨OC wj.heap.size ([]:List Q4),by first|exact NQ _|exact NR _|exact NS _ _|exact NT⟩,sv _,sv _,sv _,sv _,⟨PF (p0,p1,p2,p3),by first|exact NQ _|exact NR _|exact NS _ _|exact NT⟩,sv undef,sv _,sv _,sv _] (by kernel_rfl) (by kernel_rfl)
     try go_frame
     refine wkU (fun u hR K hK=> ?_) (fun o0=> ?_)
     ·clear hR
      have zz:=u.below.size
      go_simp
      exact hK _ _ bel ⟨_,rfl,zz,ai rfl⟩
     iterate 3 ((try go_frame);refine wkQ ?_)
     try go_frame
     refine wkU (fun u hR K hK=> ?_) (fun o4=> ?_)
     ·have h0:Ou wj.heap.size o0 u.val:=hr hR 0
      clear hR
      obtain⟨gm,rfl,hgm,hgl⟩:=h0
      exact cZ _ _ 98 rfl (append_nil 98 _ 186 i0 kO Hi0.out.1 ⟨gm,0,none⟩ _ _) (hK _ _ (brf) ⟨rfl, .inr ⟨gm,0,#[],rfl,hgm,hgl,qaA _,by unfold maxLen;omega,rfl,rfl⟩⟩)
     iterate 4 ((try go_frame);refine wkQ ?_)
     try go_frame
     refine wkU (fun u hR K hK=> ?_) (fun o9=> ?_)
     ·clear hR
      go_simp
      exact hK _ _ bel ⟨_,rfl,ai rfl⟩
     try go_frame
     refine wkz rfl rfl rfl rfl ?_
     apply Exists.intro
     apply And.intro
     ·intro w9
      go_simp
      try rfl
     refine⟨rfl, ?_⟩
     try go_frame
     refine wkz rfl rfl rfl rfl ?_
     apply Exists.intro
     apply And.intro
     ·intro w9
      go_simp
      try rfl
     refine⟨rfl, ?_⟩
     try go_frame
     refine wkz rfl rfl rfl rfl ?_
     apply Exists.intro
     apply And.intro
     ·intro w9
      go_simp
      try rfl
     refine⟨rfl, ?_⟩
     try go_frame
     refine aI (fun u hR=> ?_)
     have ho4:OC wj.heap.size ([]:List Q4) o4 u.val:=hR 4 (by simp)
     obtain⟨gp,rfl,hgp⟩:PF (p0,p1,p2,p3) o9 u.val:=hR 9 (by simp)
     have hbu:=u.below
     clear hR
     simp only[oas]
     refine NP ho4 hbu hbu.size rfl (Ov hgp) _ _ rfl rfl rfl rfl (by first|omega|(simp;done)|(simp;omega)) fun v5 w5 hown5 hb5=> ?_
     clear ho4 hgp hbu
     go_frame
     refine wpList_append_own_none rfl _ _ 98 rfl wj.heap.size 186 i0 4 kO Hi0.out.1 _ _ _ rfl hown5 rfl ?_
     go_frame
     iterate 1 (refine wpList_step (fun K hK=> ?_);go_simp;refine hK _ _ ?_;clear hK K)
     refine NoPanic.normal ?_
     go_wp2
     go_roundw
     case rel=>exact⟨0+1,_,by omega,by go_num,fB (fB hb hbj) hb5,YJ ⟨rfl,fun h=>by omega,AY hown5 (fB hb hbj).size⟩⟩
     simp[intOf];try omega
   ·obtain⟨hLk, -,hown⟩:=HL.out
    rcases hown.2 with⟨_,h0⟩|⟨g,cap,cur,rfl,hgB,hh,hnc,hcm, -, -⟩
    ·omega
    rw[hLk]at hown hnc ⊢
    have HO:=YJ hown
    have HLk:=YJ hLk
    have hcap:cap≤maxLen:=hcm
    clear hown hLk HL hh hgB hcm
    have g3:(k:Int)≤(cap:Int):=by omega
    go_wp2
    go_loopw [5] (fun a wi=>∃T:Nat,T≤k∧a= .int .i64 T∧Below wo.heap.size wo wi) (fun a _=>(intOf a).toNat)
    case atStart=>exact⟨k,qaA _,rfl,brf⟩
    case round=>
     rename World=>wi
     obtain⟨T,hT,rfl,hbi⟩:=hrel
     have c0:=ab hbi d0
     have c1:=ab hbi d1
     have c2:=ab hbi d2
     have c3:=ab hbi d3
     have zl:=qaG zlo hbi.size
     have HOi:=YJ (au HO.out hbi)
     clear d0 d1 d2 d3 zlo HO
     by_cases hT0:T=0
     ·subst hT0
      have z0:((0:Nat):Int)=0:=rfl
      simp only[z0]
      go_wp2
      refine wqf fun u=> ?_
      have e0:=ab u.below c0
      have e1:=ab u.below c1
      have e2:=ab u.below c2
      have e3:=ab u.below c3
      have ez:=qaG zl u.below.size
      have hbj:=fB hbi u.below
      have HOj:=YJ (au HOi.out u.below)
      clear c0 c1 c2 c3 zl hbi
      generalize u.val=wj at*
      clear u
      clear HOi
      go_wp2
      apply aj [11,12,13] [0,1,2,3,4,5,6,7,8,9,11,12,13] 10 [14,15] [⟨Ou wj.heap.size,by first|exact NQ _|exact NR _|exact NS _ _|exact NT⟩,sv _,sv _,sv _,⟨OC wj.heap.size ([]:List Q4),by first|exact NQ _|exact NR _|exact NS _ _|exact NT⟩,sv _,sv _,sv _,sv _,⟨PF (p0,p1,p2,p3),by first|exact NQ _|exact NR _|exact NS _ _|exact NT⟩,sv undef,sv _,sv _,sv _] (by kernel_rfl) (by kernel_rfl)
      try go_frame
      refine wkU (fun u hR K hK=> ?_) (fun o0=> ?_)
      ·clear hR
       have zz:=u.below.size
       go_simp
       exact hK _ _ bel ⟨_,rfl,zz,ai rfl⟩
      iterate 3 ((try go_frame);refine wkQ ?_)
      try go_frame
      refine wkU (fun u hR K hK=> ?_) (fun o4=> ?_)
      ·have h0:Ou wj.heap.size o0 u.val:=hr hR 0
       clear hR
       obtain⟨gm,rfl,hgm,hgl⟩:=h0
       exact cZ _ _ 98 rfl (append_nil 98 _ 186 i0 kO Hi0.out.1 ⟨gm,0,none⟩ _ _) (hK _ _ (brf) ⟨rfl, .inr ⟨gm,0,#[],rfl,hgm,hgl,qaA _,by unfold maxLen;omega,rfl,rfl⟩⟩)
      iterate 4 ((try go_frame);refine wkQ ?_)
      try go_frame
      refine wkU (fun u hR K hK=> ?_) (fun o9=> ?_)
      ·clear hR
       go_simp
       exact hK _ _ bel ⟨_,rfl,ai rfl⟩
      try go_frame
      refine wkz rfl rfl rfl rfl ?_
      apply Exists.intro
      apply And.intro
      ·intro w9
       go_simp
       try rfl
      refine⟨rfl, ?_⟩
      try go_frame
      refine wkz rfl rfl rfl rfl ?_
      apply Exists.intro
      apply And.intro
      ·intro w9
       go_simp
       try rfl
      refine⟨rfl, ?_⟩
      try go_frame
      refine wkz rfl rfl rfl rfl ?_
      apply Exists.intro
      apply And.intro
      ·intro w9
       go_simp
       try rfl
      refine⟨rfl, ?_⟩
      try go_frame
      refine aI (fun u hR=> ?_)
      have ho4:OC wj.heap.size ([]:List Q4) o4 u.val:=hR 4 (by simp)
      obtain⟨gp,rfl,hgp⟩:PF (p0,p1,p2,p3) o9 u.val:=hR 9 (by simp)
      have hbu:=u.below
      clear hR
      simp only[oas]
      refine NP ho4 hbu hbu.size rfl (Ov hgp) _ _ rfl rfl rfl rfl (by first|omega|(simp;done)|(simp;omega)) fun v5 w5 hown5 hb5=> ?_
      clear ho4 hgp hbu
      go_frame
      refine NP (ds:=L.drop 0) hown5 hb5 hb5.size (by rw[List.length_drop,HLk.out];rfl) (gD (tG (by have:=au HOj.out hb5;rw[←HLk.out]at this;exact this)) 0) _ _ rfl rfl rfl rfl (by first|omega|(simp;done)|(simp;omega)) fun v6 w6 hown6 hb6=> ?_
      go_frame
      iterate 1 (refine wpList_step (fun K hK=> ?_);go_simp;refine hK _ _ ?_;clear hK K)
      refine NoPanic.normal ?_
      go_wp2
      go_roundw
      case rel=>exact⟨k+1,_,by omega,by go_num,fB (fB hb hbj) hb6,YJ ⟨(by simp[HLk.out]),fun h=>by omega,AY hown6 (fB hb hbj).size⟩⟩
      simp[intOf];try omega
     ·obtain⟨f0,f1,f2,f3⟩:=(tG (by have:=HOi.out;rw[←HLk.out]at this;exact this)) (T-1) (by have:=HLk.out;omega)
      generalize L[T-1]'(by have:=HLk.out;omega)=q at*
      obtain⟨q0,q1,q2,q3⟩:=q
      have zg:=qaC wi _ f0
      simp only[qfW]at f0 f1 f2 f3 zg
      have w1:IntKind.i64.wrap ((T:Int)-1)=((T-1:Nat):Int):=by rw[IntWalk.i64_in _ (by omega)];omega
      have g4:(0:Int)<(T:Int):=by omega
      have gT:0<T:=by omega
      have g5:(0:Int)≤((T-1:Nat):Int):=by omega
      have g6:((T-1:Nat):Int)<(k:Int):=by omega
      go_wp2
      apply aj [] [0,1,2,3,4,5,6,7,8,9,10,11,12] 13 [] [sv _,sv _,sv _,sv _,sv _,sv _,sv _,sv _,sv _,sv _,sv _,sv _,⟨QT,by first|exact NQ _|exact NR _|exact NS _ _|exact NT⟩] (by kernel_rfl) (by kernel_rfl)
      iterate 3 ((try go_frame);refine wkQ ?_)
      iterate 9 ((try go_frame);refine Ae rfl rfl (by simp) (by simp[Region.wanted,yielded]) ?_;apply ex3;(focus(intro u K hK;go_simp;exact hK _ brf));rfl)
      try go_frame
      refine Af rfl rfl (by simp) (by simp[Region.wanted,yielded]) (fun u hR K hK=> ?_) (fun o12=> ?_)
      ·clear hR
       go_simp
       refine((HBf (p0,p1,p2,p3) (q0,q1,q2,q3) _).out).mono ?_
       rintro e w9 ⟨r,rfl,hb9⟩
       exact hK _ _ hb9 ⟨r,rfl⟩
      try go_frame
      refine aI (fun u hR=> ?_)
      obtain⟨r,rfl⟩:QT o12 u.val:=hR 12 (by simp)
      clear hR f0 f1 f2 f3 zg
      have e0:=ab u.below c0
      have e1:=ab u.below c1
      have e2:=ab u.below c2
      have e3:=ab u.below c3
      have ez:=qaG zl u.below.size
      have hbj:=fB hbi u.below
      have HOj:=YJ (au HOi.out u.below)
      clear c0 c1 c2 c3 zl hbi
      generalize u.val=wj at*
      clear u
      clear HOi
      simp only[oas]
      go_wp2
      refine NoPanic.normal ?_
      cases r with
      |true=>
       go_wp2
       go_roundw
       case rel=>exact⟨T-1,by omega,by go_num,hbj⟩
       simp[intOf];try omega
      |false=>
       clear g4 g5 g6 w1
       have g4:(T:Int)≤(cap:Int):=by omega
       have g5:(0:Int)≤(T:Int):=by omega
       have g6:(T:Int)≤(k:Int):=by omega
       by_cases hTc:cap=T
       ·obtain rfl:T=k:=by omega
        subst hTc
        obtain⟨T,rfl⟩:∃T,T=cap:=⟨_,rfl⟩
        have e7:¬T=0:=by omega
        go_wp2
        apply aj [11,12,13] [0,1,2,3,4,5,6,7,8,9,11,12,13] 10 [14,15] [⟨Ou wj.heap.size,by first|exact NQ _|exact NR _|exact NS _ _|exact NT⟩,sv _,sv _,sv _,⟨OC wj.heap.size (L.take T),by first|exact NQ _|exact NR _|exact NS _ _|exact NT⟩,sv _,sv _,sv _,sv _,⟨PF (p0,p1,p2,p3),by first|exact NQ _|exact NR _|exact NS _ _|exact NT⟩,sv undef,sv _,sv _,sv _] (by kernel_rfl) (by kernel_rfl)
        try go_frame
        refine wkU (fun u hR K hK=> ?_) (fun o0=> ?_)
        ·clear hR
         have zz:=u.below.size
         go_simp
         exact hK _ _ bel ⟨_,rfl,zz,ai rfl⟩
        iterate 3 ((try go_frame);refine wkQ ?_)
        try go_frame
        refine wkU (fun u hR K hK=> ?_) (fun o4=> ?_)
        ·have h0:Ou wj.heap.size o0 u.val:=hr hR 0
         clear hR
         obtain⟨gm,rfl,hgm,hgl⟩:=h0
         obtain⟨v9,w9,hrun,hown9,hb9⟩:=dM (P:=Tryz.prog) (w:=u.val) 98 98 186 i0 (v4 (0,0,0,0)) 4 32 kO Hi0.out.1 Hi0.out.2.1 Hi0.out.2.2.1 Hi0.out.2.2.2 rfl (by decide) ⟨gm,0,none⟩ 0 0 [] rfl (fun _ _ h=>by simp at h) ⟨g,0,none⟩ T T ((L.take T).flatMap aH) (by rw[bh,qge,HLk.out];omega) (mB (tG (by have:=au HOj.out u.below;rw[←HLk.out]at this;exact this)) T) (by omega) (by unfold maxLen;omega) (by omega)
         exact cZ _ _ 98 rfl hrun (hK _ _ hb9 (show OC wj.heap.size (L.take T) v9 w9 from by have h9:=AY hown9 u.below.size;simp only[qfW,List.nil_append]at h9;unfold OC;rw[show(L.take T).length=T by rw[qge,HLk.out];omega];exact h9))
        iterate 4 ((try go_frame);refine wkQ ?_)
        try go_frame
        refine wkU (fun u hR K hK=> ?_) (fun o9=> ?_)
        ·clear hR
         go_simp
         exact hK _ _ bel ⟨_,rfl,ai rfl⟩
        try go_frame
        refine wkz rfl rfl rfl rfl ?_
        apply Exists.intro
        apply And.intro
        ·intro w9
         go_simp
         try rfl
        refine⟨rfl, ?_⟩
        try go_frame
        refine wkz rfl rfl rfl rfl ?_
        apply Exists.intro
        apply And.intro
        ·intro w9
         go_simp
         try rfl
        refine⟨rfl, ?_⟩
        try go_frame
        refine wkz rfl rfl rfl rfl ?_
        apply Exists.intro
        apply And.intro
        ·intro w9
         go_simp
         try rfl
        refine⟨rfl, ?_⟩
        try go_frame
        refine aI (fun u hR=> ?_)
        have ho4:OC wj.heap.size (L.take T) o4 u.val:=hR 4 (by simp)
        obtain⟨gp,rfl,hgp⟩:PF (p0,p1,p2,p3) o9 u.val:=hR 9 (by simp)
        have hbu:=u.below
        clear hR
        simp only[oas]
        refine NP ho4 hbu hbu.size rfl (Ov hgp) _ _ rfl rfl rfl rfl (by first|omega|(simp;done)|(simp;omega)) fun v5 w5 hown5 hb5=> ?_
        clear ho4 hgp hbu
        go_frame
        refine NP (ds:=L.drop T) hown5 hb5 hb5.size (by rw[List.length_drop,HLk.out];omega) (fun j u hu=>by rw[List.drop_eq_nil_of_le (by have:=HLk.out;omega)]at hu;simp at hu) _ _ rfl rfl rfl rfl (by first|omega|(simp;done)|(simp;omega)) fun v6 w6 hown6 hb6=> ?_
        go_frame
        iterate 1 (refine wpList_step (fun K hK=> ?_);go_simp;refine hK _ _ ?_;clear hK K)
        refine NoPanic.normal ?_
        go_wp2
        go_roundw
        case rel=>exact⟨T+1,_,by omega,by go_num,fB (fB hb hbj) hb6,YJ ⟨(by have:=HLk.out;simp;omega),fun h=>by omega,AY hown6 (fB hb hbj).size⟩⟩
        simp[intOf];try omega
       ·have e6:¬cap=T:=hTc
        have e7:¬cap=0:=by omega
        go_wp2
        apply aj [11,12,13] [0,1,2,3,4,5,6,7,8,9,11,12,13] 10 [14,15] [⟨Ou wj.heap.size,by first|exact NQ _|exact NR _|exact NS _ _|exact NT⟩,sv _,sv _,sv _,⟨OC wj.heap.size (L.take T),by first|exact NQ _|exact NR _|exact NS _ _|exact NT⟩,sv _,sv _,sv _,sv _,⟨PF (p0,p1,p2,p3),by first|exact NQ _|exact NR _|exact NS _ _|exact NT⟩,sv undef,sv _,sv _,sv _] (by kernel_rfl) (by kernel_rfl)
        try go_frame
        refine wkU (fun u hR K hK=> ?_) (fun o0=> ?_)
        ·clear hR
         have zz:=u.below.size
         go_simp
         exact hK _ _ bel ⟨_,rfl,zz,ai rfl⟩
        iterate 3 ((try go_frame);refine wkQ ?_)
        try go_frame
        refine wkU (fun u hR K hK=> ?_) (fun o4=> ?_)
        ·have h0:Ou wj.heap.size o0 u.val:=hr hR 0
         clear hR
         obtain⟨gm,rfl,hgm,hgl⟩:=h0
         obtain⟨v9,w9,hrun,hown9,hb9⟩:=dM (P:=Tryz.prog) (w:=u.val) 98 98 186 i0 (v4 (0,0,0,0)) 4 32 kO Hi0.out.1 Hi0.out.2.1 Hi0.out.2.2.1 Hi0.out.2.2.2 rfl (by decide) ⟨gm,0,none⟩ 0 0 [] rfl (fun _ _ h=>by simp at h) ⟨g,0,none⟩ T cap ((L.take T).flatMap aH) (by rw[bh,qge,HLk.out];omega) (mB (tG (by have:=au HOj.out u.below;rw[←HLk.out]at this;exact this)) T) (by omega) (by unfold maxLen;omega) (by omega)
         exact cZ _ _ 98 rfl hrun (hK _ _ hb9 (show OC wj.heap.size (L.take T) v9 w9 from by have h9:=AY hown9 u.below.size;simp only[qfW,List.nil_append]at h9;unfold OC;rw[show(L.take T).length=T by rw[qge,HLk.out];omega];exact h9))
        iterate 4 ((try go_frame);refine wkQ ?_)
        try go_frame
        refine wkU (fun u hR K hK=> ?_) (fun o9=> ?_)
        ·clear hR
         go_simp
         exact hK _ _ bel ⟨_,rfl,ai rfl⟩
        try go_frame
        refine wkz rfl rfl rfl rfl ?_
        apply Exists.intro
        apply And.intro
        ·intro w9
         go_simp
         try rfl
        refine⟨rfl, ?_⟩
        try go_frame
        refine wkz rfl rfl rfl rfl ?_
        apply Exists.intro
        apply And.intro
        ·intro w9
         go_simp
         try rfl
        refine⟨rfl, ?_⟩
        try go_frame
        refine wkz rfl rfl rfl rfl ?_
        apply Exists.intro
        apply And.intro
        ·intro w9
         go_simp
         try rfl
        refine⟨rfl, ?_⟩
        try go_frame
        refine aI (fun u hR=> ?_)
        have ho4:OC wj.heap.size (L.take T) o4 u.val:=hR 4 (by simp)
        obtain⟨gp,rfl,hgp⟩:PF (p0,p1,p2,p3) o9 u.val:=hR 9 (by simp)
        have hbu:=u.below
        clear hR
        simp only[oas]
        refine NP ho4 hbu hbu.size rfl (Ov hgp) _ _ rfl rfl rfl rfl (by first|omega|(simp;done)|(simp;omega)) fun v5 w5 hown5 hb5=> ?_
        clear ho4 hgp hbu
        go_frame
        refine NP (ds:=L.drop T) hown5 hb5 hb5.size (by rw[List.length_drop,HLk.out]) (gD (tG (by have:=au HOj.out hb5;rw[←HLk.out]at this;exact this)) T) _ _ rfl rfl rfl rfl (by first|omega|(simp;done)|(simp;omega)) fun v6 w6 hown6 hb6=> ?_
        go_frame
        iterate 1 (refine wpList_step (fun K hK=> ?_);go_simp;refine hK _ _ ?_;clear hK K)
        refine NoPanic.normal ?_
        go_wp2
        go_roundw
        case rel=>exact⟨k+1,_,by omega,by go_num,fB (fB hb hbj) hb6,YJ ⟨(by have:=HLk.out;simp;omega),fun h=>by omega,AY hown6 (fB hb hbj).size⟩⟩
        simp[intOf];try omega
  ·clear HX
   obtain rfl:k=n:=by omega
   go_wp2
   go_ret
   exact⟨_,L,rfl,hb,HL.out.1,HL.out.2.2⟩
theorem Oc:Tryz.prog.underlying 162=some (.slice 190):=by kernel_rfl
def Rd (L:List Q4) (W:World) (e:Ending) (w':World):Prop:=∃v,e= .returned v∧Below W.heap.size W w'∧Q4s w' v L
theorem Qf (ps qs:List Q4) (pv qv:Value) (W:World) (h0:0<ps.length) (h1:0<qs.length) (hl:ps.length≤1000) (hl2:qs.length≤1000) (hp:Q4s W pv ps) (hq:Q4s W qv qs):
  Calls Tryz.prog 95 #[pv,qv] W (Rd (ps++qs) W):=by
 obtain⟨i0,Hi0⟩:=qfT cY
 obtain⟨pa,pn,pc,rfl,hpn, -,hpx⟩:=hp
 obtain⟨qa,qn,qc,rfl,hqn, -,hqx⟩:=hq
 obtain⟨b,off,rfl,hi⟩:=hpx (by omega)
 obtain⟨b2,off2,rfl,hi2⟩:=hqx (by omega)
 have HS1:Hid (∀j u,(ps.flatMap aH)[j]? =some u→W.cell? ((⟨b,off,none⟩:Addr).add j)=some u):=YJ (MA hi)
 have HS2:Hid (∀j u,(qs.flatMap aH)[j]? =some u→W.cell? ((⟨b2,off2,none⟩:Addr).add j)=some u):=YJ (MA hi2)
 have Hpn:=YJ hpn
 have Hqn:=YJ hqn
 have hpl:pn≤1000:=by omega
 have hql:qn≤1000:=by omega
 clear hpx hqx hi hi2 hpn hqn h0 h1 hl hl2
 have hm0:(W.alloc (.cells #[] 190)).ownsRow W.heap.size 190 4 (.slice (some ⟨W.heap.size,0,none⟩) 0 0) 0 []:=World.ownsRow_made W #[] 0 (qaA _) (Nat.zero_le _) rfl
 have hx0:Below W.heap.size W (W.alloc (.cells #[] 190)):=bel
 go_enter Tryz.func95,Tryz.ntmps95
 go_wp2_with (at_builtin;refine wpList_append_own _ rfl _ _ 162 rfl W.heap.size 190 i0 (v4 (0,0,0,0)) 4 32 Oc Hi0.out.1 Hi0.out.2.1 Hi0.out.2.2.1 Hi0.out.2.2.2 rfl (by decide) _ 0 _ rfl hm0 ⟨b,off,none⟩ pn pc (ps.flatMap aH) rfl (by rw[dH aH 4 cP,Hpn.out]) (fun j u hu=>ab hx0 (HS1.out j u hu)) (Hu ps) (by unfold maxLen;omega) (by omega) hx0.size ?_)
 intro v' w4 hown4 hg4 _
 have hb4:Below W.heap.size W w4:=hx0.grown hg4 hx0.size (by intro k hk;simp[Value.ownBlock]at hk;omega)
 have HO4:=YJ hown4
 clear hown4 hg4 hm0 hx0
 go_wp2_with (at_builtin;refine wpList_append_own _ rfl _ _ 162 rfl W.heap.size 190 i0 (v4 (0,0,0,0)) 4 32 Oc Hi0.out.1 Hi0.out.2.1 Hi0.out.2.2.1 Hi0.out.2.2.2 rfl (by decide) _ _ _ rfl HO4.out ⟨b2,off2,none⟩ qn qc (qs.flatMap aH) rfl (by rw[dH aH 4 cP,Hqn.out]) (fun j u hu=>ab hb4 (HS2.out j u hu)) (Hu qs) (by unfold maxLen;omega) (by omega) hb4.size ?_)
 intro v6 w6 hown6 hg6 _
 have hb6:Below W.heap.size W w6:=hb4.grown hg6 hb4.size (fun z hz=>(HO4.out.lt z hz).1)
 go_wp2
 go_ret
 refine⟨_,rfl,hb6,jz (base:=W.heap.size) (T:=190) ?_⟩
 rw[qaE,qgj,Hpn.out,Hqn.out]
 simpa using hown6
def rcl (c d:List Q4):Bool:=(c++d).all (gM (ct (c++d)))
def Oh (a b:List (List Q4)):Bool:=a.any fun c=>b.any fun d=>rcl c d
def Rf (r:Bool) (W:World) (e:Ending) (w':World):Prop:=Below W.heap.size W w'∧∃i k sa sn sc,e= .returned (.tuple #[.agg #[.int .i64 i, .int .i64 k, .slice sa sn sc], .bool r])
theorem QM {a b:List (List Q4)} {i k:Nat} (hi:i<a.length) (hk:k<b.length) (h:rcl a[i] b[k]=true):Oh a b=true:=by
 unfold Oh
 rw[ultj]
 exact⟨a[i],qaB hi,by rw[ultj];exact⟨b[k],qaB hk,h⟩⟩
theorem QV {a b:List (List Q4)} (h:∀i k (hi:i<a.length) (hk:k<b.length),rcl a[i] b[k]=false):Oh a b=false:=by
 unfold Oh
 rw[ultp]
 intro c hc
 obtain⟨i,hi,rfl⟩:=qaJ hc
 rw[Bool.not_eq_true,ultp]
 intro d hd
 obtain⟨k,hk,rfl⟩:=qaJ hd
 rw[h i k hi hk]
 simp
def QW (L:List Q4):Value→World→Prop:=fun v w=>Q4s w v L
theorem QN (L:List Q4):dR (QW L):=fun _ _ _ hb h=>Q4s.below h hb
theorem QA {c d:List Q4} (hc:DC c) (hd:DC d):(∀p∈c++d,bI p)∧(c++d).length≤32∧(ct (c++d)).length≤1000000:=by
 have hl:(c++d).length≤32:=by rw[qaE];have:=hc.2.2;have:=hd.2.2;omega
 refine⟨fun p hp=>(altl.1 hp).elim (hc.1 p) (hd.1 p),hl, ?_⟩
 have h1:=pO (raw (c++d) (c++d).length)
 have h2:=jp (c++d) (c++d).length (by omega)
 unfold pN at h1
 unfold ct
 have:(c++d).length*(c++d).length*(c++d).length≤32*32*32:=Nat.mul_le_mul (Nat.mul_le_mul hl hl) hl
 omega
theorem PG (a b:List (List Q4)) (sv tv:Value) (W:World) (ha:∀c∈a,DC c) (hb:∀c∈b,DC c) (hal:a.length≤1000) (hbl:b.length≤1000) (h1:SolV W sv a) (h2:SolV W tv b):
  Calls Tryz.prog 46 #[.agg #[sv], .agg #[tv]] W (Rf (Oh a b) W):=by
 obtain⟨sa,sn,sc,rfl,hsn, -,hsx⟩:=h1
 obtain⟨ta,tn,tc,rfl,htn, -,htx⟩:=h2
 obtain⟨V,HV⟩:∃V,Hid (((W.alloc (.cells #[.slice sa sn sc] 75)).alloc (.cells #[.slice ta tn tc] 75)).alloc (.cells #[.int .i64 0, .int .i64 0, .slice none 0 0] 100)=V):=⟨_,YJ rfl⟩
 have hV:Below W.heap.size W V:=by rw[←HV.out];exact bel
 have HA:Hid (V.heap[W.heap.size]? =some (.cells #[.slice sa sn sc] 75 (0,0))):=YJ (by rw[←HV.out];exact(aB (by simp<;>omega)).trans ((aB (by simp)).trans (ai rfl)))
 have HB:Hid (V.heap[W.heap.size+1]? =some (.cells #[.slice ta tn tc] 75 (0,0))):=YJ (by rw[←HV.out];exact(aB (by simp)).trans (ai (by simp)))
 have HO:Hid (V.heap[W.heap.size+2]? =some (.cells #[.int .i64 0, .int .i64 0, .slice none 0 0] 100 (0,0))):=YJ (by rw[←HV.out];exact ai (by simp))
 have HX:=YJ hsx
 have HY:=YJ htx
 have Hn:=YJ hsn
 have Hm:=YJ htn
 have hxl:sn≤1000:=by omega
 have hyl:tn≤1000:=by omega
 have HCa:=fun i (h:i<a.length)=>YJ (ha _ (qaB h))
 have HCb:=fun i (h:i<b.length)=>YJ (hb _ (qaB h))
 have Hhit:=fun i k (hi:i<a.length) (hk:k<b.length)=>YJ (@QM a b i k hi hk)
 have Hno:=YJ (@QV a b)
 clear hsx htx hsn htn ha hb hal hbl
 generalize Oh a b=res at*
 go_enter Tryz.func46,Tryz.ntmps46
 go_wp2
 try rw[HV.out]
 go_loopw [6] (fun x wr=>∃k:Nat,k≤sn∧x= .int .i64 k∧Below V.heap.size V wr∧Hid (∀i j (hi:i<a.length) (hj:j<b.length),i<k→rcl a[i] b[j]=false)) (fun x _=>sn-(intOf x).toNat)
 case atStart=>exact⟨0,by omega,rfl,brf,YJ (fun i j _ _ h=>by omega)⟩
 case round=>
  obtain⟨k,hk,rfl,hb,Hd⟩:=hrel
  have hAr:=(hb.block _ (ah HA.out)).trans HA.out
  have a0:wr.cell? ⟨W.heap.size,0,none⟩=some (.slice sa sn sc):=(bq hAr 0).trans rfl
  have az:=ah hAr
  clear hAr
  by_cases hlt:k<sn
  ·have g1:(k:Int)<(sn:Int):=by omega
   have g2:(0:Int)≤(k:Int):=by omega
   have hil:k<a.length:=by have:=Hn.out;omega
   obtain⟨b0,off,rfl,hi4⟩:=HX.out (by omega)
   obtain⟨pv,e0,hq⟩:=hi4 k hil
   have e0:=ab (fB hV hb) e0
   have HQ1:Hid (Q4s wr pv a[k]):=YJ (hq.below (fB hV hb))
   clear hq hi4
   obtain⟨wq,rfl⟩:∃wq:World,wq=wr:=⟨_,rfl⟩
   go_wp2
   go_loopw [7] (fun x wr=>∃j:Nat,j≤tn∧x= .int .i64 j∧Below wq.heap.size wq wr∧Hid (∀m (hm:m<b.length),m<j→rcl a[k] b[m]=false)) (fun x _=>tn-(intOf x).toNat)
   case atStart=>exact⟨0,by omega,rfl,brf,YJ (fun m _ h=>by omega)⟩
   case round=>
    obtain⟨j,hj,rfl,hbq,Hdj⟩:=hrel
    have hbV:Below V.heap.size V wr:=fB hb hbq
    have hBr:=(hbV.block _ (ah HB.out)).trans HB.out
    have b0':wr.cell? ⟨W.heap.size+1,0,none⟩=some (.slice ta tn tc):=(bq hBr 0).trans rfl
    have bz:=ah hBr
    have a0:=ab hbq a0
    have az:=qaG az hbq.size
    clear hBr
    by_cases hlj:j<tn
    ·have g3:(j:Int)<(tn:Int):=by omega
     have g4:(0:Int)≤(j:Int):=by omega
     have hjl:j<b.length:=by have:=Hm.out;omega
     obtain⟨b2,off2,rfl,hi5⟩:=HY.out (by omega)
     obtain⟨qv,f0,hr⟩:=hi5 j hjl
     have f0:=ab (fB hV hbV) f0
     have HR1:Hid (Q4s wr qv b[j]):=YJ (hr.below (fB hV hbV))
     have e0:=ab hbq e0
     have HQ2:=YJ (HQ1.out.below hbq)
     have ze:=qaC wr _ e0
     have zf:=qaC wr _ f0
     simp only at ze zf
     have oa:=(HCa k hil).out
     have ob:=(HCb j hjl).out
     have on:=QA oa ob
     have HJ:=fun W' (hW':Below wr.heap.size wr W')=>YJ (Qf a[k] b[j] pv qv W' oa.2.1 ob.2.1 (qaD oa.2.2 (by decide)) (qaD ob.2.2 (by decide)) (HQ2.out.below hW') (HR1.out.below hW'))
     have HP:=fun v W' (h:Q4s W' v (a[k]++b[j]))=>YJ (WH (a[k]++b[j]) v W' on.1 (qaD on.2.1 (by decide)) h)
     have HI:=fun v cv W' (h:Q4s W' v (a[k]++b[j])) (h':Q4s W' cv (ct (a[k]++b[j])))=>YJ (WI (a[k]++b[j]) (ct (a[k]++b[j])) v cv W' on.1 (fun c hc=>tE on.1 c hc) (qaD on.2.1 (by decide)) on.2.2 h h')
     have HSo:=fun cv W' (h:Q4s W' cv (ct (a[k]++b[j])))=>YJ (Qe (ct (a[k]++b[j])) cv W' on.2.2 h)
     have HCl:Hid (rcl a[k] b[j]=(a[k]++b[j]).all (gM (ct (a[k]++b[j])))):=YJ rfl
     have Hh:=YJ ((Hhit k j hil hjl).out)
     have Hst:Hid (rcl a[k] b[j]=false→∀m (hm:m<b.length),m<j+1→rcl a[k] b[m]=false):=YJ (fun h m hm hmj=>by
      by_cases e:m=j
      ·subst e;exact h
      ·exact Hdj.out m hm (by omega))
     obtain⟨pa,pn,pc,rfl, -⟩:=id HQ2.out
     obtain⟨qa,qn,qc,rfl, -⟩:=id HR1.out
     have HLn:=YJ on.2.2
     clear HX HY Hhit Hno Hd Hdj hi5 oa ob on HCa HCb HQ1 HQ2 HR1 hr
     rw[←HCl.out]at HI
     clear HCl
     generalize rcl a[k] b[j]=cl at*
     generalize ct (a[k]++b[j])=cor at*
     generalize a[k]++b[j]=pls at*
     go_wp2
     apply aj [] [0,1,2,3,4,5,6,7,8,9,10,11,12] 13 [] [sv _,sv _,sv _,sv _,sv _,sv _,sv _,sv _,sv _,sv _,sv _,sv _,⟨QW pls,by first|exact QN _⟩] (by kernel_rfl) (by kernel_rfl)
     iterate 12 ((try go_frame);refine wkQ ?_)
     try go_frame
     refine wkU (fun u hR K hK=> ?_) (fun o12=> ?_)
     ·clear hR
      go_simp
      refine((HJ _ u.below).out).mono ?_
      rintro e w9 ⟨v9,rfl,hb9,hp9⟩
      exact hK _ _ hb9 hp9
     try go_frame
     refine aI (fun u hR=> ?_)
     have hpl:QW pls o12 u.val:=hR 12 (by simp)
     have HPl:=YJ hpl
     have hbu:=u.below
     clear hR HJ a0 az b0' bz e0 f0 ze zf
     obtain⟨ja,jn,jc,rfl, -⟩:=hpl
     generalize u.val=w1 at*
     clear u
     have HP1:=YJ ((HP _ w1 HPl.out).out)
     clear HP
     simp only[oas]
     go_wp2
     refine NoPanic.normal ?_
     go_wp2_with fail
     refine HP1.out.mono ?_
     rintro e w2 ⟨cv,rfl,hb2,hc2⟩
     have HC2:=YJ (jz hc2)
     have HI2:=YJ ((HI _ cv w2 (HPl.out.below hb2) HC2.out).out)
     have HS2:=fun W' (h:Below w2.heap.size w2 W')=>YJ ((HSo cv W' (HC2.out.below h)).out)
     have hbu2:=fB hbu hb2
     obtain⟨ca,cc,rfl⟩:=aT hc2
     clear HI HSo hc2 HP1 HPl
     go_wp2_with fail
     refine HI2.out.mono ?_
     rintro e w3 ⟨rfl,hb3⟩
     have hbu3:=fB hbu2 hb3
     cases cl with
     |false=>
      have HF:=YJ (Hst.out rfl)
      clear HI2 HS2 Hst Hh
      go_wp2
      go_roundw
      case rel=>exact⟨j+1,by omega,by go_num,fB hbq hbu3,HF⟩
      simp[intOf];try omega
     |true=>
      obtain rfl:=Hh.out rfl
      have HS3:=YJ ((HS2 w3 hb3).out)
      clear HI2 HS2 Hst
      go_wp2_with fail
      refine HS3.out.mono ?_
      rintro e w4 ⟨v,L,rfl,hb4, -,ho⟩
      have hbu4:=fB hbu3 hb4
      have hbV4:=fB hbV hbu4
      have HO4:=YJ ((hbV4.block _ (ah HO.out)).trans HO.out)
      have hw4:Below W.heap.size W w4:=fB hV hbV4
      obtain⟨va,vc,rfl⟩:=aT ho
      generalize L.length=ln at*
      obtain⟨o0,o1,o2,of,oz⟩:=NO HO4.out
      clear HS3 ho
      go_wp2
      refine bodyPost_ret (v:= .tuple #[.agg #[.int .i64 k, .int .i64 j, .slice va ln vc], .bool true]) (by simp[results,Tryz.results46,go_sem,o0,o1,o2,oz]) rfl ⟨?_,k,j,va,ln,vc,rfl⟩
      iterate 3 (refine qga ?_ (by first|exact qaA _|exact Nat.le_succ _|(simp;done)|(simp;omega)) _)
      exact hw4
    ·obtain rfl:j=tn:=by omega
     clear HX HY Hhit Hno
     have Hd2:Hid (∀i j (hi:i<a.length) (hj:j<b.length),i<k+1→rcl a[i] b[j]=false):=YJ (fun i m hi hm h=>by
      by_cases e:i=k
      ·subst e;exact Hdj.out m hm (by have:=Hm.out;omega)
      ·exact Hd.out i m hi hm (by omega))
     go_wp2
     go_roundw
     case rel=>exact⟨k+1,by omega,by go_num,hbV,Hd2⟩
     simp[intOf];try omega
  ·obtain rfl:k=sn:=by omega
   have hT:=Hno.out (fun i j hi hj=>Hd.out i j hi hj (by have:=Hn.out;omega))
   subst hT
   have HOr:=YJ ((hb.block _ (ah HO.out)).trans HO.out)
   have hw4:Below W.heap.size W wr:=fB hV hb
   obtain⟨o0,o1,o2,of,oz⟩:=NO HOr.out
   clear HX HY Hhit Hno Hd HCa HCb
   go_wp2
   refine bodyPost_ret (v:= .tuple #[.agg #[.int .i64 0, .int .i64 0, .slice none 0 0], .bool false]) (by simp[results,Tryz.results46,go_sem,o0,o1,o2,oz]) rfl ⟨?_,0,0,none,0,0,rfl⟩
   iterate 3 (refine qga ?_ (by first|exact qaA _|exact Nat.le_succ _|(simp;done)|(simp;omega)) _)
   exact hw4
def Oe (l:List (List (List Q4))):Bool:=(List.range l.length).any fun i=>(List.range i).any fun k=>Oh (l.getD i []) (l.getD k [])
def NY (l:List (List (List Q4))):Int:=if 12<l.length then 8 else if cx l=0 then(if Oe l then 15 else 0)else cx l
theorem Qg {l:List (List (List Q4))} {i k:Nat} (hi:i<l.length) (hk:k<i) (h:Oh l[i] l[k]=true):Oe l=true:=by
 unfold Oe
 rw[ultj]
 refine⟨i,by simpa using hi, ?_⟩
 rw[ultj]
 refine⟨k,by simpa using hk, ?_⟩
 simpa [List.getD,hi,(show k<l.length by omega)]using h
theorem Qt {l:List (List (List Q4))} (h:∀i k (hi:i<l.length) (hk:k<i),Oh l[i] l[k]=false):Oe l=false:=by
 unfold Oe
 rw[ultp]
 intro i hi
 rw[Bool.not_eq_true,ultp]
 intro k hk
 have hi':i<l.length:=by simpa using hi
 have hk':k<i:=by simpa using hk
 have:=h i k hi' hk'
 simpa [List.getD,hi',(show k<l.length by omega)]using this
theorem PP (l:List (List (List Q4))) (lv:Value) (W:World) (hL:∀s∈l,∀c∈s,c.length≤1000000) (h:SolsV W lv l):
  Calls Tryz.prog 11 #[lv] W (Ret W (.int .i64 (NY l))):=by
 obtain⟨la,n,lc,rfl,hn, -,hx⟩:=h
 have HX:=YJ hx
 have HN:=YJ hn
 have H12:Hid (12<n→NY l=8):=YJ (fun h=>by unfold NY;rw[if_pos (by omega)])
 have Hbad:Hid (¬12<n→cx l≠0→NY l=cx l):=YJ (fun h h'=>by unfold NY;rw[if_neg (by omega),if_neg h'])
 have Hcl:Hid (¬12<n→cx l=0→Oe l=true→NY l=15):=YJ (fun h h' h3=>by unfold NY;rw[if_neg (by omega),if_pos h',if_pos h3])
 have Hok:Hid (¬12<n→cx l=0→Oe l=false→NY l=0):=YJ (fun h h' h3=>by unfold NY;rw[if_neg (by omega),if_pos h',if_neg (by simp[h3])])
 have Hhit:=YJ (Fa l)
 have Hnone:=YJ (Eg l)
 have Hany:=YJ (@Fb l)
 have HCh:=YJ (fun i k=> @Qg l i k)
 have HCn:=YJ (@Qt l)
 have HLl:=fun i (h:i<l.length)=>YJ (hL _ (qaB h))
 clear hx hn hL
 generalize NY l=res at*
 generalize cx l=pe at*
 generalize Oe l=ca at*
 go_enter Tryz.func11,Tryz.ntmps11
 by_cases h12:12<n
 ·have g0:(12:Int)<(n:Int):=by omega
  obtain rfl:=H12.out h12
  clear H12 Hbad Hcl Hok Hhit Hnone Hany HCh HCn HX
  go_wp2
  go_ret
  exact⟨rfl,brf⟩
 ·have g0:¬(12:Int)<(n:Int):=by omega
  have Hbad':=YJ (Hbad.out h12)
  have Hcl':=YJ (Hcl.out h12)
  have Hok':=YJ (Hok.out h12)
  have hn12:n≤12:=by omega
  clear H12 Hbad Hcl Hok h12
  go_wp2
  go_loopw [3] (fun x wr=>∃k:Nat,k≤n∧x= .int .i64 k∧Below W.heap.size W wr∧Hid (∀i (hi:i<l.length),i<k→nb l[i]=0)) (fun x _=>n-(intOf x).toNat)
  case atStart=>exact⟨0,by omega,rfl,brf,YJ (fun i _ h=>by omega)⟩
  case round=>
   obtain⟨k,hk,rfl,hb,Hd⟩:=hrel
   by_cases hlt:k<n
   ·have g1:(k:Int)<(n:Int):=by omega
    have g2:(0:Int)≤(k:Int):=by omega
    have hil:k<l.length:=by have:=HN.out;omega
    obtain⟨b,off,rfl,hi4⟩:=HX.out (by omega)
    obtain⟨sv,e0,hs⟩:=hi4 k hil
    have e0:=ab hb e0
    have ze:=qaC wr _ e0
    simp only at ze
    have HC:=fun W' (h:Below wr.heap.size wr W')=>YJ (PO l[k] sv W' (HLl k hil).out ((hs.below hb).below h))
    have HE:Hid (nb l[k]=if Tv l[k]=0 then(if l[k].length=0 then 13 else 0)else Tv l[k]):=YJ rfl
    have Hh:=YJ (Hhit.out k hil (fun i hi hik=>Hd.out i hi hik))
    have Hst:Hid (nb l[k]=0→∀i (hi:i<l.length),i<k+1→nb l[i]=0):=YJ (fun h i hi hik=>by
     by_cases e:i=k
     ·subst e;exact h
     ·exact Hd.out i hi (by omega))
    obtain⟨sa,sn,sc,rfl,hsn, -⟩:=id hs
    have HSn:=YJ hsn
    clear hs hi4 hsn HX Hhit Hnone Hany HCh HCn Hd
    generalize nb l[k]=se at*
    generalize Tv l[k]=so at*
    rw[HSn.out]at HE
    go_wp2_with fail
    refine((HC _ (brf)).out).mono ?_
    rintro e w1 ⟨rfl,hb1⟩
    have hw1:=fB hb hb1
    have e0:=ab hb1 e0
    have ze:=qaG ze hb1.size
    clear HC HSn
    by_cases h0:so=0
    ·subst h0
     rw[if_pos rfl]at HE
     by_cases hz:sn=0
     ·subst hz
      rw[if_pos rfl]at HE
      have h13:=HE.out
      have hpe:=Hh.out (by omega)
      have hr:=Hbad'.out (by omega)
      clear HE Hst Hh Hcl' Hok' Hbad'
      have hz0:((0:Nat):Int)=0:=rfl
      go_wp2
      go_ret
      exact⟨by rw[hr,hpe,h13];rfl,hw1⟩
     ·have g5:¬((sn:Int)=0):=by omega
      have g6:((sn:Int)==0)=false:=by simpa using hz
      rw[if_neg hz]at HE
      have HF:=YJ (Hst.out HE.out)
      clear HE Hst Hh
      go_wp2
      go_roundw
      case rel=>exact⟨k+1,by omega,by go_num,hw1,HF⟩
      simp[intOf];try omega
    ·rw[if_neg h0]at HE
     have hse:=HE.out
     have hpe:=Hh.out (by omega)
     have hr:=Hbad'.out (by omega)
     have h0':(so !=0)=true:=by simpa using h0
     clear HE Hst Hh Hcl' Hok' Hbad'
     go_wp2
     go_ret
     exact⟨by rw[hr,hpe,hse];rfl,hw1⟩
   ·obtain rfl:n=k:=by omega
    have hpe:=Hnone.out (fun i hi=>Hd.out i hi (by have:=HN.out;omega))
    subst hpe
    have Hcl2:=YJ (Hcl'.out rfl)
    have Hok2:=YJ (Hok'.out rfl)
    have Hall:=YJ (Hany.out rfl)
    clear Hcl' Hok' Hany Hhit Hnone Hd Hbad'
    rename World=>wa
    go_wp2
    go_loopw [5] (fun x wr=>∃k:Nat,k≤n∧x= .int .i64 k∧Below wa.heap.size wa wr∧Hid (∀i j (hi:i<l.length) (hj:j<i),i<k→Oh l[i] l[j]=false)) (fun x _=>n-(intOf x).toNat)
    case atStart=>exact⟨0,by omega,rfl,brf,YJ (fun i j _ _ h=>by omega)⟩
    case round=>
     obtain⟨i,hi,rfl,hbi,Hdi⟩:=hrel
     have hbW:=fB hb hbi
     by_cases hli:i<n
     ·have g3:(i:Int)<(n:Int):=by omega
      have g4:(0:Int)≤(i:Int):=by omega
      have hil:i<l.length:=by have:=HN.out;omega
      obtain⟨b,off,rfl,hx4⟩:=HX.out (by omega)
      obtain⟨sv,e0,hs⟩:=hx4 i hil
      have e0:=ab hbW e0
      have HS:=YJ (hs.below hbW)
      have HX4:=YJ hx4
      clear hx4
      have oS:=Is (Hall.out _ (qaB hil))
      have HOS:=YJ oS
      obtain⟨sa,sn,sc,rfl, -⟩:=hs
      obtain⟨wq,rfl⟩:∃wq:World,wq=wr:=⟨_,rfl⟩
      clear oS HX
      go_wp2
      go_loopw [6] (fun x wr=>∃j:Nat,j≤i∧x= .int .i64 j∧Below wq.heap.size wq wr∧Hid (∀m (hm:m<i),m<j→Oh l[i] l[m]=false)) (fun x _=>i-(intOf x).toNat)
      case atStart=>exact⟨0,by omega,rfl,brf,YJ (fun m _ h=>by omega)⟩
      case round=>
       obtain⟨j,hj,rfl,hbj,Hdj⟩:=hrel
       by_cases hlj:j<i
       ·have g5:(j:Int)<(i:Int):=by omega
        have g6:(0:Int)≤(j:Int):=by omega
        have g7:(j:Int)<(n:Int):=by omega
        have hjl:j<l.length:=by omega
        obtain⟨tv,f0,ht⟩:=HX4.out j hjl
        have f0:=ab (fB hbW hbj) f0
        have HT:=YJ (ht.below (fB hbW hbj))
        have e0:=ab hbj e0
        have ze:=qaC wr _ e0
        simp only at ze
        have oT:=Is (Hall.out _ (qaB hjl))
        have HC:=fun W' (h:Below wr.heap.size wr W')=>YJ (PG l[i] l[j] _ tv W' (fun c hc=>Dl ((xb HOS.out.1).2 c hc)) (fun c hc=>Dl ((xb oT.1).2 c hc)) (qaD (xb HOS.out.1).1 (by decide)) (qaD (xb oT.1).1 (by decide)) ((HS.out.below hbj).below h) (HT.out.below h))
        have Hh:=YJ (HCh.out i j hil hlj)
        have Hst:Hid (Oh l[i] l[j]=false→∀m (hm:m<i),m<j+1→Oh l[i] l[m]=false):=YJ (fun h m hm hmj=>by
         by_cases e:m=j
         ·subst e;exact h
         ·exact Hdj.out m hm (by omega))
        obtain⟨ta,tn,tc,rfl, -⟩:=ht
        clear HX4 HCh HCn Hdi Hdj oT Hall HLl HOS HS HT
        generalize Oh l[i] l[j]=r at*
        go_wp2
        go_cut [8] (fun s8 wx=>s8= .bool r∧Below wr.heap.size wr wx)
        case first=>
         go_region_held (fun w'=>w'.cell? ⟨b,off+i,none⟩=some (.slice sa sn sc)∧w'.cell? ⟨b,off+j,none⟩=some (.slice ta tn tc)∧Below wr.heap.size wr w') (exact⟨ab bel e0,ab bel f0,bel⟩) ((go_at_call 46;refine((HC _ bel).out).mono ?_;rintro e w2 ⟨hb2,i9,k9,s9,n9,c9,rfl⟩;(try(have hq:=(hb2.block wr.heap.size (by simp)).trans (ai (by simp));obtain⟨q0,q1,q2,qf,qz⟩:=NO hq;clear hq));replace hb2:Below wr.heap.size wr w2:=fB bel hb2;have zz2:=hb2.size))
         all_goals (go_wp2_with fail;go_meet;exact⟨rfl,bel⟩)
        case rest=>
         rename World=>w3
         obtain⟨rfl,hb3⟩:=hcut
         clear HC e0 f0 ze
         cases r with
         |true=>
          have hca:=Hh.out rfl
          have hr:=Hcl2.out hca
          have hw3:=fB (fB hbW hbj) hb3
          clear Hh Hst Hcl2 Hok2
          go_wp2
          go_ret
          exact⟨by rw[hr];rfl,hw3⟩
         |false=>
          have HF:=YJ (Hst.out rfl)
          clear Hh Hst
          go_wp2
          go_roundw
          case rel=>exact⟨j+1,by omega,by go_num,fB hbj hb3,HF⟩
          simp[intOf];try omega
       ·obtain rfl:i=j:=by omega
        have HF:Hid (∀i' j (hi:i'<l.length) (hj:j<i'),i'<i+1→Oh l[i'] l[j]=false):=YJ (fun i' m hi hm h=>by
         by_cases e:i'=i
         ·subst e;exact Hdj.out m hm hm
         ·exact Hdi.out i' m hi hm (by omega))
        have hbq:=fB hbi hbj
        clear e0 HX4
        go_wp2
        go_roundw
        case rel=>exact⟨i+1,by omega,by go_num,hbq,HF⟩
        simp[intOf];try omega
     ·have hca:=HCn.out (fun i' j hi hj=>Hdi.out i' j hi hj (by have:=HN.out;omega))
      have hr:=Hok2.out hca
      clear HX HCh HCn Hcl2 Hok2 Hall HLl
      go_wp2
      go_ret
      exact⟨by rw[hr];rfl,hbW⟩
theorem PT {c d:List Q4} (h:Ins (c++d)):Ins (d++c):=by
 obtain⟨o,W,hW,hs⟩:=h
 exact⟨o,W,hW,fun p hp=>hs p (by rw[altl]at hp ⊢;exact hp.symm)⟩
theorem Qr {c d:List Q4} (hc:bK c=0):rcl c d=true↔Ins (c++d):=
 Ql ((zs hc).1.mono (fun p hp=>List.mem_append_left _ hp))
theorem PU {c:List Q4} (hc:bK c=0) {o:Q3} {W:Int} (hW:0<W) (ho:Str c o W) {p:Q4} (hp:0<slk p o W):gM (aS c) p=true:=by
 rw[←Pe]
 obtain⟨x,hx,x0, -,h3⟩:=Ko (FG hc) p o W hW (((FG hc).sub o W hW).2 ho.inP)
 unfold gM
 rw[ultj]
 refine⟨x,hx, ?_⟩
 rw[qfV,mt,dp]
 have h4:0<slk p (xyz x) x.2.2.2*W:=Int.lt_of_lt_of_le (qfY hp x0) h3
 exact mu hW h4
theorem QO {c d:List Q4} (hc:bK c=0) (hd:bK d=0):clB c d=true↔Ins (c++d):=by
 have key:fh (c++d) (aS (c++d))=true↔Ins (c++d):=by
  unfold fh
  rw[←Pe,qaF,qfV]
  have h:=Qr (d:=d) hc
  unfold rcl at h
  rw[h]
  refine⟨fun h=>h.1,fun h=>⟨h, ?_⟩⟩
  have:=(Dl hc).2.1
  rw[qaE]
  omega
 unfold clB
 rw[qaF,key]
 refine⟨fun h=>h.2,fun h=>⟨?_,h⟩⟩
 obtain⟨o,W,hW,hs⟩:=h
 have h1:Str c o W:=fun p hp=>hs p (List.mem_append_left _ hp)
 have h2:Str d o W:=fun p hp=>hs p (List.mem_append_right _ hp)
 have ha:Cy c (aS c) d (aS d)=false:=by
  unfold Cy
  rw[Bool.or_eq_false_iff,ultp,ultp]
  refine⟨fun p hp=> ?_,fun p hp=> ?_⟩
  ·rw[PU hd hW h2 (h1 p hp)];simp
  ·rw[PU hc hW h1 (h2 p hp)];simp
 rw[ha]
 rfl
theorem Qm {s t:List (List Q4)} (hs:∀c∈s,bK c=0) (ht:∀c∈t,bK c=0):cy s t=Oh t s:=by
 unfold cy Oh
 rw[KC]
 exact Gu fun d hd c hc=>LH (QO (hs c hc) (ht d hd)) ((Qr (ht d hd)).trans ⟨PT,PT⟩)
theorem PV {l:List (List (List Q4))} (h:cx l=0) (i:Nat):∀c∈l.getD i [],bK c=0:=fun c hc=>by
 by_cases hi:i<l.length
 ·rw[show l.getD i []=l[i] by simp[List.getD,hi]]at hc
  exact IL (Is (Fb h _ (qaB hi))).1 c hc
 ·rw[show l.getD i []=[] by simp[List.getD,hi]]at hc
  cases hc
theorem QG (l:List (List (List Q4))):eB l=NY l:=by
 unfold eB NY
 by_cases h12:12<l.length
 ·rw[if_pos h12,if_pos h12]
 ·rw[if_neg h12,if_neg h12]
  by_cases hp:cx l=0
  ·rw[if_pos hp,if_pos hp]
   have:mx l=Oe l:=by
    unfold mx Oe
    congr 1
    funext i
    congr 1
    funext k
    exact Qm (PV hp k) (PV hp i)
   rw[this]
  ·rw[if_neg hp,if_neg hp]
def Rl (w:Q3) (x y:Q4):List Q4:=if 0<bj (nrm x) w∧bj (nrm y) w<0∧nrm (kv x y w)≠(0,0,0)then [dG (kv x y w)]else []
def TE (ps:List Q4) (w:Q3) (i:Nat):List Q4:=(ps.take i).flatMap fun x=>ps.flatMap (Rl w x)
def TM (ps:List Q4) (w:Q3) (x:Q4) (k:Nat):List Q4:=(ps.take k).flatMap (Rl w x)
def TD (ps:List Q4) (w:Q3):List Q4:=IH ps w++TE ps w ps.length
theorem Ta (ps:List Q4) (w:Q3) (k:Nat) (h:k<ps.length):IH (ps.take (k+1)) w=IH (ps.take k) w++if bj (nrm ps[k]) w≤0 then [ps[k]]else []:=by
 unfold IH
 rw[qaI h,qgo]
 congr 1
 by_cases hd:bj (nrm ps[k]) w≤0
 ·rw[if_pos hd];simp[hd]
 ·rw[if_neg hd];simp[hd]
theorem SL (ps:List Q4) (w:Q3) (i:Nat) (h:i<ps.length):TE ps w (i+1)=TE ps w i++TM ps w ps[i] ps.length:=by
 unfold TE TM
 rw[qaI h,qgj,qgi]
 simp
theorem SM (ps:List Q4) (w:Q3) (x:Q4) (k:Nat) (h:k<ps.length):TM ps w x (k+1)=TM ps w x k++Rl w x ps[k]:=by
 unfold TM
 rw[qaI h,qgj]
 simp
theorem Tb (w:Q3) (x y:Q4):(Rl w x y).length≤1:=by unfold Rl;split<;>simp
theorem Su {α:Type} (f:α→List Q4) (m:Nat) (h:∀a,(f a).length≤m) (l:List α):(l.flatMap f).length≤l.length*m:=by
 induction l with
 |nil=>simp
 |cons a l ih=>
  rw[qgm,qaE,qdn,Nat.add_mul,Nat.one_mul]
  have:=h a
  omega
theorem Sv (ps:List Q4) (w:Q3) (x:Q4) (k:Nat) (hl:ps.length≤16):(TM ps w x k).length≤16:=by
 have h1:=Su (Rl w x) 1 (Tb w x) (ps.take k)
 have h2:(ps.take k).length≤ps.length:=by rw[qge];omega
 unfold TM
 omega
theorem Tc (ps:List Q4) (w:Q3) (k:Nat) (hl:ps.length≤16):(TE ps w k).length≤256:=by
 have h1:=Su (fun x=>ps.flatMap (Rl w x)) 16 (fun x=>by have:=Sv ps w x ps.length hl;unfold TM at this;rw[qgi]at this;exact this) (ps.take k)
 have h2:(ps.take k).length≤ps.length:=by rw[qge];omega
 unfold TE
 omega
def rbk (c d:List Q4) (w:Q3):Bool:=(TD (ch c) w++ch d).all (gM (ct (TD (ch c) w++ch d)))
def SG (p q:List (List Q4)) (w:Q3):Bool:=p.any fun c=>q.any fun d=>rbk c d w
theorem Tg (p:Q4) (h:nrm p≠(0,0,0)):∃g:Int,0<g∧∀x W,slk p x W=g*slk (dG p) x W:=by
 have h0:p.1≠0∨p.2.1≠0∨p.2.2.1≠0:=by
  by_cases a:p.1=0
  ·by_cases b:p.2.1=0
   ·by_cases c:p.2.2.1=0
    ·exact absurd (by unfold nrm;rw[a,b,c]) h
    ·exact .inr (.inr c)
   ·exact .inr (.inl b)
  ·exact .inl a
 have hp:=FJ p.1 p.2.1 p.2.2.1 p.2.2.2 h0
 have e1:=Int.mul_ediv_cancel' (aY [p.1,p.2.1,p.2.2.1,p.2.2.2] p.1 (by simp))
 have e2:=Int.mul_ediv_cancel' (aY [p.1,p.2.1,p.2.2.1,p.2.2.2] p.2.1 (by simp))
 have e3:=Int.mul_ediv_cancel' (aY [p.1,p.2.1,p.2.2.1,p.2.2.2] p.2.2.1 (by simp))
 have e4:=Int.mul_ediv_cancel' (aY [p.1,p.2.1,p.2.2.1,p.2.2.2] p.2.2.2 (by simp))
 refine⟨(aU [p.1,p.2.1,p.2.2.1,p.2.2.2]:Int),by omega,fun x W=> ?_⟩
 unfold slk bj nrm dG
 simp only
 generalize p.1 / (aU [p.1,p.2.1,p.2.2.1,p.2.2.2]:Int)=a at*
 generalize p.2.1 / (aU [p.1,p.2.1,p.2.2.1,p.2.2.2]:Int)=b at*
 generalize p.2.2.1 / (aU [p.1,p.2.1,p.2.2.1,p.2.2.2]:Int)=c at*
 generalize p.2.2.2 / (aU [p.1,p.2.1,p.2.2.1,p.2.2.2]:Int)=d at*
 generalize(aU [p.1,p.2.1,p.2.2.1,p.2.2.2]:Int)=g at*
 rw[←e1, ←e2, ←e3, ←e4]
 grind
theorem Rp (p:Q4) (h:nrm p≠(0,0,0)) (x:Q3) (W:Int):(0<slk p x W↔0<slk (dG p) x W)∧(0≤slk p x W↔0≤slk (dG p) x W):=by
 obtain⟨g,hg,e⟩:=Tg p h
 exact IF hg (e x W)
theorem Tt {p:Q4} (h:cI p):nrm p≠(0,0,0):=fun e=>by
 have:=h.2
 simp[nrm]at e
 omega
theorem Ti (ps cs:List Q4) (h:∀c,c∈cs↔c∈ct ps) (hn:cs.Nodup) (p:Q4):onA (ct ps) p=cQ p cs:=by
 unfold onA cQ
 have hp:(ct ps).Perm cs:=(List.perm_ext_iff_of_nodup (kT ps).1 hn).2 (fun c=>(h c).symm)
 rw[(hp.filter _).length_eq]
 congr 1
 refine List.filter_congr fun c _=> ?_
 have:=(IY p c).2.2
 by_cases e:sd p c=0
 ·simp[e,this.1 e]
 ·have k:¬cw p c=0:=fun k=>e (this.2 k)
  simp[e,k]
theorem SH (ps:List Q4) (hp:∀p∈ps,cI p) (x:Q4):x∈ch ps↔∃p∈nf ps (ct ps),x=dG p:=by
 rw[xF ps hp]
 unfold iS nf
 rw[Sq]
 have hc:=fun p=>Ti ps (aS ps) (fun c=>(Qp ps c).symm) (fV ps (fun p h=>(hp p h).1)) p
 constructor
 ·rintro⟨p,h1,h2,h3⟩
  refine⟨p,alsm.2 ⟨h1, ?_⟩,h3⟩
  unfold onB at h2
  rw[hc]
  exact h2
 ·rintro⟨p,h1,h3⟩
  obtain⟨h1,h2⟩:=alsm.1 h1
  refine⟨p,h1, ?_,h3⟩
  unfold onB
  rw[hc]at h2
  exact h2
theorem Rv {c:List Q4} (h:bK c=0):(∀x W,0<W→(InP (ch c) x W↔InP c x W))∧(∀x W,Str c x W→Str (ch c) x W)∧Bdd (ch c)∧Ins (ch c):=by
 have ok:=qV h
 have hm:=SH c ok
 have hr:=FG h
 have hn:∀p∈nf c (ct c),nrm p≠(0,0,0):=fun p hp=>Tt (ok p (alsm.1 hp).1)
 have h1:∀x W,0<W→(InP (ch c) x W↔InP c x W):=fun x W hW=>by
  rw[←hr.sub x W hW]
  constructor
  ·intro h p hp
   exact(Rp p (hn p hp) x W).2.2 (h _ ((hm _).2 ⟨p,hp,rfl⟩))
  ·intro h q hq
   obtain⟨p,hp,rfl⟩:=(hm q).1 hq
   exact(Rp p (hn p hp) x W).2.1 (h p hp)
 have h2:∀x W,Str c x W→Str (ch c) x W:=fun x W h q hq=>by
  obtain⟨p,hp,rfl⟩:=(hm q).1 hq
  exact(Rp p (hn p hp) x W).1.1 (h p (alsm.1 hp).1)
 obtain⟨o,W0,hW0,ho⟩:=(zs h).2
 exact⟨h1,h2,Dx (zs h).1 (fun y W hW hy=>(h1 y W hW).1 hy) o W0 hW0 (h2 o W0 ho).inP,o,W0,hW0,h2 o W0 ho⟩
theorem mem_swL2 {P:List Q4} {w:Q3} {q:Q4}:q∈Kw P w↔∃a∈P,∃b∈P,0<bj (nrm a) w∧bj (nrm b) w<0∧nrm (kv a b w)≠(0,0,0)∧q=kv a b w:=by
 unfold Kw cr bc
 simp only[List.mem_flatMap,altt,alsm,qfV]
 constructor
 ·rintro⟨a,⟨ha,pa⟩,b,⟨⟨hb,pb⟩,h0⟩,rfl⟩
  exact⟨a,ha,b,hb,pa,pb,h0,rfl⟩
 ·rintro⟨a,ha,b,hb,pa,pb,h0,rfl⟩
  exact⟨a,⟨ha,pa⟩,b,⟨⟨hb,pb⟩,h0⟩,rfl⟩
theorem mem_swpRi {P:List Q4} {w:Q3} {q:Q4}:q∈TE P w P.length↔∃a∈P,∃b∈P,0<bj (nrm a) w∧bj (nrm b) w<0∧nrm (kv a b w)≠(0,0,0)∧q=dG (kv a b w):=by
 unfold TE Rl
 rw[qgi]
 simp only[List.mem_flatMap]
 constructor
 ·rintro⟨a,ha,b,hb,h⟩
  split at h
  ·rename_i hc
   rw[ultg]at h
   exact⟨a,ha,b,hb,hc.1,hc.2.1,hc.2.2,h⟩
  ·cases h
 ·rintro⟨a,ha,b,hb,pa,pb,h0,rfl⟩
  exact⟨a,ha,b,hb,by rw[if_pos ⟨pa,pb,h0⟩];exact ultg.2 rfl⟩
theorem Sw {P Q:List Q4} {w:Q3} (x:Q3) (W:Int):Str (TD P w++Q) x W↔Str (Q++(IH P w++Kw P w)) x W:=by
 unfold TD
 constructor
 ·intro h q hq
  simp only[altl]at hq
  rcases hq with hq|hq|hq
  ·exact h q (by simp[hq])
  ·exact h q (by simp[hq])
  ·obtain⟨a,ha,b,hb,pa,pb,h0,rfl⟩:=mem_swL2.1 hq
   exact(Rp _ h0 x W).1.2 (h _ (by simp only[altl];exact .inl (.inr (mem_swpRi.2 ⟨a,ha,b,hb,pa,pb,h0,rfl⟩))))
 ·intro h q hq
  simp only[altl]at hq
  rcases hq with(hq|hq)|hq
  ·exact h q (by simp[hq])
  ·obtain⟨a,ha,b,hb,pa,pb,h0,rfl⟩:=mem_swpRi.1 hq
   exact(Rp _ h0 x W).1.1 (h _ (by simp only[altl];exact .inr (.inr (mem_swL2.2 ⟨a,ha,b,hb,pa,pb,h0,rfl⟩))))
  ·exact h q (by simp[hq])
theorem Tq {c d:List Q4} (hc:bK c=0) (hd:bK d=0) {w:Q3} (hw:w≠(0,0,0)):rbk c d w=true↔Hit c d w:=by
 obtain⟨c1,c2,c3,c4⟩:=Rv hc
 obtain⟨d1,d2,d3,d4⟩:=Rv hd
 unfold rbk
 rw[Ql (d3.mono (fun p hp=>List.mem_append_right _ hp))]
 have e:Ins (TD (ch c) w++ch d)↔Ins (ch d++(IH (ch c) w++Kw (ch c) w)):=
  ⟨fun⟨o,W,hW,h⟩=>⟨o,W,hW,(Sw o W).1 h⟩,fun⟨o,W,hW,h⟩=>⟨o,W,hW,(Sw o W).2 h⟩⟩
 rw[e,LE hw c3 c4]
 exact⟨Ky (fun x W hW h=>Mu (fun x W hW=>(c1 x W hW).1) (zs hc).2 hW h) (fun x W hW h=>Mu (fun x W hW=>(d1 x W hW).1) (zs hd).2 hW h),Ky (fun x W hW=>c2 x W) (fun x W hW=>d2 x W)⟩
theorem Tj {p q:List (List Q4)} (hp:∀c∈p,bK c=0) (hq:∀c∈q,bK c=0) {w:Q3} (hw:w≠(0,0,0)):BT (p.map bp) (q.map bp) w=SG p q w:=by
 unfold BT SG
 simp only[List.any_map,Function.comp_def]
 exact Gu fun c hc d hd=>LH (DA (FG (hp c hc)) (FG (hq d hd)) hw) (Tq (hp c hc) (hq d hd) hw)
def UQ (l:List (List (List Q4))) (w:Q3) (i:Nat):List Nat:=(List.range l.length).filter fun k=>decide (k≠i)&&SG (l.getD i []) (l.getD k []) w
theorem VL (ps:List (List Bod)) (v:Q3) (j k:Nat):Vf (eM ps v) j k↔j<ps.length∧k<ps.length∧j≠k∧Cb ps v j k=true:=by
 unfold Vf eM
 by_cases hj:j<ps.length
 ·rw[show((List.range ps.length).map fun i=>ks ps v i ps.length).getD j 0=ks ps v j ps.length by simp[List.getD,hj]]
  rw[Wg]
  simp[hj]
 ·rw[show((List.range ps.length).map fun i=>ks ps v i ps.length).getD j 0=0 by simp[List.getD,hj]]
  simp[hj]
theorem Wi {l:List (List (List Q4))} (h:eB l=0) {w:Q3} (hw:w≠(0,0,0)) {j:Nat} (hj:j<l.length) (k:Nat):(UQ l w j).contains k=true↔Vf (eM (l.map (·.map bp)) w) j k:=by
 have hp:cx l=0:=by
  unfold eB at h
  split at h
  ·cases h
  ·split at h
   ·assumption
   ·exact h
 rw[VL,qdo]
 unfold UQ Cb
 rw[DT,DT,Tj (PV hp j) (PV hp k) hw]
 simp only[List.contains_iff_mem,alsm,ultv,qaF,qfV]
 constructor
 ·rintro⟨h1,h2,h3⟩;exact⟨hj,h1,fun e=>h2 e.symm,h3⟩
 ·rintro⟨_,h1,h2,h3⟩;exact⟨h1,fun e=>h2 e.symm,h3⟩
theorem Vj (E:Nat→Nat→Bool) (grp:List Nat) (n:Nat):∀f i acc,BfsI E grp n i acc→grp.length+1-i≤f→BfsI E grp n (Um E grp f i acc).length (Um E grp f i acc)
 |0,i,acc,h,hf=>by
  have h1:=h.len
  have h2:=h.le
  have:i=acc.length:=by omega
  subst this
  exact h
 |f+1,i,acc,h,hf=>by
  unfold Um
  by_cases hi:i<acc.length
  ·rw[dif_pos hi]
   exact Vj E grp n f (i+1) _ (h.next hi) (by omega)
  ·rw[dif_neg hi]
   have h2:=h.le
   have:i=acc.length:=by omega
   subst this
   exact h
def TU (E:Nat→Nat→Bool) (grp:List Nat) (n:Nat):List Nat:=grp.filter fun y=>(Um E grp (grp.length+1) 0 [n]).contains y
def rE (l:List (List (List Q4))) (w:Q3) (j k:Nat):Bool:=(UQ l w j).contains k
theorem Wz {l:List (List (List Q4))} (h:eB l=0) {w:Q3} (hw:w≠(0,0,0)) (j k:Nat):rE l w j k=true↔Vf (eM (l.map (·.map bp)) w) j k:=by
 unfold rE
 by_cases hj:j<l.length
 ·exact Wi h hw hj k
 ·have h1:¬Vf (eM (l.map (·.map bp)) w) j k:=fun hb=>hj (by have:=((VL _ _ _ _).1 hb).1;simpa using this)
  refine⟨fun h2=> ?_,fun h2=>absurd h2 h1⟩
  unfold UQ at h2
  rw[show l.getD j []=[] by simp[List.getD,hj]]at h2
  simp[SG]at h2
theorem VT {a b:Nat} (ha:a<4096) (hb:b<4096) (h:lf a=lf b):a=b:=by
 apply qgp
 intro i
 rw[Bool.eq_iff_iff, ←Tz ha, ←Tz hb,h]
theorem VN {p:Nat→Bool}:∀l:List Nat,(l.filter p).length<l.length↔l.filter p≠l
 | []=>by simp
 |a::l=>by
  rw[qgg]
  have h1:=qdz p l
  have h2:=VN (p:=p) l
  split
  ·rw[qdn,qdn]
   simp only[ne_eq,List.cons.injEq,true_and]
   rw[←ne_eq, ←h2]
   omega
  ·rw[qdn]
   refine⟨fun _ e=> ?_,fun _=>by omega⟩
   have:=congrArg List.length e
   rw[qdn]at this
   omega
theorem Yj {s:Nat} (h:s<4096):lf s=[]↔s=0:=by
 refine⟨fun e=>VT h (by decide) (e.trans elems_zero.symm),fun e=>by rw[e];rfl⟩
def XM (G:List Nat) (grp out:Nat):Bool:=(lf out).all fun n=>dN (G.getD n 0&&& grp) out==0
def WP (E:Nat→Nat→Bool) (grp out:List Nat):Bool:=out.all fun j=>(grp.filter fun y=> !out.contains y).all fun y=> !E j y
theorem Yz {G:List Nat} {E:Nat→Nat→Bool} (hE:∀j k,E j k=true↔Vf G j k) {grp out:Nat} (hg:grp<4096) (ho:out<4096):XM G grp out=WP E (lf grp) (lf out):=by
 unfold XM WP
 rw[Bool.eq_iff_iff,alsi,alsi]
 refine forall_congr' fun j=>forall_congr' fun hj=> ?_
 rw[alsi]
 have hc:∀k,(lf out).contains k=out.testBit k:=fun k=>by
  rw[Bool.eq_iff_iff,List.contains_iff_mem,Tz ho]
 constructor
 ·intro h y hy
  obtain⟨hy1,hy2⟩:=alsm.1 hy
  rw[hc]at hy2
  have hz:dN (G.getD j 0&&& grp) out=0:=by simpa using h
  have hb:=Gh (G.getD j 0&&& grp) out y
  rw[hz,Nat.zero_testBit,qgq,(Tz hg).1 hy1,Bool.and_true,hy2,Bool.and_true]at hb
  have:¬E j y=true:=fun he=>by
   have:=(hE j y).1 he
   unfold Vf at this
   rw[this]at hb
   cases hb
  simpa using this
 ·intro h
  have hz:dN (G.getD j 0&&& grp) out=0:=by
   apply qgp
   intro y
   rw[Gh,qgq,Nat.zero_testBit]
   by_cases h1:grp.testBit y=true
   ·by_cases h2:out.testBit y=true
    ·simp[h2]
    ·have h2':out.testBit y=false:=by simpa using h2
     have:=h y (alsm.2 ⟨(Tz hg).2 h1,by rw[hc,h2'];rfl⟩)
     have hn:¬(G.getD j 0).testBit y=true:=fun hb=>by
      have:=(hE j y).2 hb
      simp_all
     have hn':(G.getD j 0).testBit y=false:=by simpa using hn
     rw[hn',Bool.false_and,Bool.false_and]
   ·have h1':grp.testBit y=false:=by simpa using h1
    rw[h1',Bool.and_false,Bool.false_and]
  rw[hz]
  rfl
theorem Rch.mono {E:Nat→Nat→Prop} {g h:Nat→Prop} {n k:Nat} (hs:∀x,g x→h x) (r:Rch E g n k):Rch E h n k:=by
 induction r with
 |base=>exact .base
 |step _ e gk ih=>exact .step ih e (hs _ gk)
theorem Rch.trans {E:Nat→Nat→Prop} {g:Nat→Prop} {n j k:Nat} (r:Rch E g n j) (s:Rch E g j k):Rch E g n k:=by
 induction s with
 |base=>exact r
 |step _ e gk ih=>exact .step ih e gk
theorem Rch.inG {E:Nat→Nat→Prop} {g:Nat→Prop} {n k:Nat} (hn:g n) (r:Rch E g n k):g k:=by
 cases r with
 |base=>exact hn
 |step _ _ gk=>exact gk
def WY (E:Nat→Nat→Prop) (all rest:Nat→Prop):Prop:=∀j k,all j→¬rest j→rest k→¬E j k
theorem WR {E:Nat→Nat→Prop} {all rest:Nat→Prop} (hs:WY E all rest) (hsub:∀x,rest x→all x) {n k:Nat} (hn:rest n) (hk:rest k):Rch E all n k↔Rch E rest n k:=by
 refine⟨fun r=> ?_,Rch.mono hsub⟩
 induction r with
 |base=>exact .base
 | @step j k r e gk ih=>
  have hj:rest j:=qgk fun h=>hs j k (Rch.inG (hsub n hn) r) h hk e
  exact .step (ih hj) e hk
def XX (E:Nat→Nat→Prop) (rest:Nat→Prop) (n:Nat):Prop:=∀k,Rch E rest n k→∀y,Rch E rest k y↔Rch E rest n y
def InR (E:Nat→Nat→Prop) (all rest:Nat→Prop) (n k:Nat):Prop:=rest k∧Rch E all n k∧Rch E all k n
def YA (E:Nat→Nat→Prop) (all rest:Nat→Prop) (n:Nat):Prop:=∀j y,InR E all rest n j→rest y→¬InR E all rest n y→¬E j y
theorem qgr {E:Nat→Nat→Prop} {all rest:Nat→Prop} (hs:WY E all rest) (hsub:∀x,rest x→all x) {n:Nat} (hn:rest n) (h:XX E rest n) (k:Nat):InR E all rest n k↔Rch E rest n k:=by
 constructor
 ·rintro⟨hk,h1, -⟩
  exact(WR hs hsub hn hk).1 h1
 ·intro r
  have hk:=Rch.inG hn r
  exact⟨hk,(WR hs hsub hn hk).2 r,(WR hs hsub hk hn).2 ((h k r n).2 .base)⟩
theorem YB {E:Nat→Nat→Prop} {all rest:Nat→Prop} (hs:WY E all rest) (hsub:∀x,rest x→all x) {n:Nat} (hn:rest n):XX E rest n↔YA E all rest n:=by
 constructor
 ·intro h j y hj hy hny he
  exact hny ((qgr hs hsub hn h y).2 (.step ((qgr hs hsub hn h j).1 hj) he hy))
 ·intro h
  have hown:∀k,Rch E rest n k→InR E all rest n k:=by
   intro k r
   induction r with
   |base=>exact⟨hn, .base, .base⟩
   | @step j k _ e gk ih=>exact qgk fun hk=>h j k ih gk hk e
  intro k r y
  have hk:=hown k r
  have back:Rch E rest k n:=(WR hs hsub hk.1 hn).1 hk.2.2
  exact⟨fun s=>r.trans s,fun s=>back.trans s⟩
theorem XY {E:Nat→Nat→Prop} {rest:Nat→Prop} (size:Nat→Nat) (own:Nat→List Nat) (hm:∀n,rest n→∀k,k∈own n↔Rch E rest n k) (hnd:∀n,(own n).Nodup) {n0:Nat} (h0:rest n0):∃n,rest n∧XX E rest n:=by
 have key:∀m n,rest n→(own n).length≤m→∃n,rest n∧XX E rest n:=by
  intro m
  induction m with
  |zero=>
   intro n hn hl
   have:=(hm n hn n).2 .base
   have:=List.length_pos_of_mem this
   omega
  |succ m ih=>
   intro n hn hl
   by_cases h:∃k,Rch E rest n k∧(own k).length<(own n).length
   ·obtain⟨k,r,hlt⟩:=h
    exact ih k (Rch.inG hn r) (by omega)
   ·refine⟨n,hn,fun k r y=>⟨fun s=>r.trans s,fun s=> ?_⟩⟩
    have hk:=Rch.inG hn r
    have hle:(own n).length≤(own k).length:=Nat.le_of_not_lt fun hlt=>h ⟨k,r,hlt⟩
    refine(hm k hk y).1 (qgk fun hy=> ?_)
    have:=Vi (y::own k) (own n) (List.nodup_cons.2 ⟨hy,hnd k⟩) (fun x hx=>by
     rcases alsk.1 hx with rfl|hx
     ·exact(hm n hn x).2 s
     ·exact(hm n hn x).2 (r.trans ((hm k hk x).1 hx)))
    rw[qdn]at this
    omega
 exact key _ n0 h0 (qaA _)
theorem Ym {E:Nat→Nat→Prop} {all rest:Nat→Prop} (hs:WY E all rest) (hsub:∀x,rest x→all x) {n:Nat} (hn:rest n) (h:XX E rest n):WY E all (fun k=>rest k∧¬Rch E rest n k):=by
 intro j k hj hnj hk he
 by_cases hr:rest j
 ·by_cases ho:Rch E rest n j
  ·exact hk.2 (.step ho he hk.1)
  ·exact hnj ⟨hr,ho⟩
 ·exact hs j k hj hr hk.1 he
end
end Go.Proofs.YtffbilcjhlncfaaGreatDoor
