/- texts: I1. -/
import Derived.Test.YtnpmkepfpekhfaaGreatDoorSIS10
namespace Go.Proofs.YtnpmkepfpekhfaaGreatDoor
set_option maxHeartbeats 8000000
set_option linter.all false
section
open Go.RowKit Go.Shelf
attribute [local go_sem] Ext.cell Ext.frozen
theorem Jg (b off n c:Nat) (xs:List Int) (w:World) (hn:xs.length=n) (hm:n≤1000) (hx:IntsAt w b off xs) (hB:∀x∈xs, -1000000000000000≤x∧x≤1000000000000000):
  Calls Tryz.prog 186 #[.slice (some ⟨b,off,none⟩) n c] w (Ret w (.int .i64 (aU xs))):=by
 go_enter Tryz.func186,Tryz.ntmps186
 go_wp2
 go_loopw [3,8] (fun g i wr=>∃k:Nat,k≤n∧i= .int .i64 k∧g= .int .i64 (aU (xs.take k))∧Below w.heap.size w wr) (fun _ i _=>n-(intOf i).toNat)
 case atStart=>exact⟨0,by omega,rfl,rfl,brf⟩
 case round=>
  obtain⟨k,hk,rfl,rfl,hb⟩:=hrel
  by_cases hlt:k<n
  ·have hcell:=ab hb (hx k (by omega))
   have hbx:=hB (xs[k]) (by simp)
   have Hs:aU (xs.take (k+1))=Nat.gcd (aU (xs.take k)) (xs[k]).natAbs:=by rw[qB xs k (by omega),sK]
   have hg:aU (xs.take k)≤1000000000000000:=Bo _ _ (fun x hx=>hB x (List.mem_of_mem_take hx))
   generalize aU (xs.take k)=g0 at*
   obtain⟨g1,Hg1⟩:∃g1,Hid (aU (xs.take (k+1))=g1):=⟨_,rfl⟩
   rw[Hg1.out]at Hs
   generalize xs[k]=x at*
   clear hx hB
   obtain⟨m,hm',hxm⟩:∃m:Nat,m≤1000000000000000∧(x=(m:Int)∨(x= -(m:Int)∧0<m)):=⟨x.natAbs,by omega,by omega⟩
   have Hm:Hid (g1=g0.gcd m):=by show g1=g0.gcd m;rcases hxm with rfl|⟨rfl,_⟩<;>simpa using Hs
   clear Hs hbx
   rcases hxm with rfl|⟨rfl,hm0⟩
   all_goals
    go_wp2
    try rw[Int.neg_neg]
    go_loopw [3,5] (fun g i wr=>∃g' n':Nat,g'≤1000000000000000∧n'≤1000000000000000∧i= .int .i64 n'∧g= .int .i64 g'∧Hid (g1=g'.gcd n')∧Below w.heap.size w wr) (fun _ i _=>(intOf i).toNat)
    case atStart=>exact⟨g0,m,hg,hm',by first|rfl|simp,rfl,Hm,hb⟩
    case round=>
     clear hb
     obtain⟨g',n',hg',hn',rfl,rfl,Hr,hb⟩:=hrel
     by_cases hz:0<n'
     ·go_wp2
      go_quiet (fail)
      go_wp2
      go_roundw
      case rel=>exact⟨n',g' % n',hn',by have:=Nat.mod_lt g' hz;omega,by go_num,by go_num,by unfold Hid;rw[oK];exact Hr.out,hb.drewN' _⟩
      case measure=>simp[intOf];have:=Nat.mod_lt g' hz;omega
     ·obtain rfl:n'=0:=by omega
      go_wp2
      go_roundw
      case rel=>exact⟨k+1,by omega,by go_num,by rw[Hg1.out,Hr.out];simp,hb⟩
      case measure=>simp[intOf];omega
  ·go_wp2
   go_ret
   exact⟨aK (by rw[qaK (by omega)]),hb⟩
theorem DH (W:World) (T:TypeId) (x0 x1 x2 x3:Int) (g:Nat) (hg:g=W.heap.size) (h0: -1000000000000000≤x0∧x0≤1000000000000000) (h1: -1000000000000000≤x1∧x1≤1000000000000000) (h2: -1000000000000000≤x2∧x2≤1000000000000000) (h3: -1000000000000000≤x3∧x3≤1000000000000000):
  Calls Tryz.prog 186 #[.slice (some ⟨g,0,none⟩) 4 4] (W.alloc (.cells #[.int .i64 x0, .int .i64 x1, .int .i64 x2, .int .i64 x3] T)) (Ret (W.alloc (.cells #[.int .i64 x0, .int .i64 x1, .int .i64 x2, .int .i64 x3] T)) (.int .i64 (aU [x0,x1,x2,x3]))):=
 Jg g 0 4 4 _ _ rfl (by omega) (kK hg) (fun x hx=>by simp at hx;rcases hx with rfl|rfl|rfl|rfl<;>assumption)
theorem lk (a b c x y z:Int) (w:World) (ha: -384≤a∧a≤384) (hb: -384≤b∧b≤384) (hc: -384≤c∧c≤384)
  (hx: -384≤x∧x≤384) (hy: -384≤y∧y≤384) (hz: -384≤z∧z≤384):
  Calls Tryz.prog 185 #[V3 a b c,V3 x y z] w (Ret w (V3 (b*z-c*y) (c*x-a*z) (a*y-b*x))):=by
 have h1:=aJ hb.1 hb.2 hz.1 hz.2
 have h2:=aJ hc.1 hc.2 hy.1 hy.2
 have h3:=aJ hc.1 hc.2 hx.1 hx.2
 have h4:=aJ ha.1 ha.2 hz.1 hz.2
 have h5:=aJ ha.1 ha.2 hy.1 hy.2
 have h6:=aJ hb.1 hb.2 hx.1 hx.2
 clear ha hb hc hx hy hz
 go_enter Tryz.func185,Tryz.ntmps185
 go_wp2
 refine bodyPost_ret (v:=V3 (b*z-c*y) (c*x-a*z) (a*y-b*x)) (by simp[results,Tryz.results185,go_sem]) rfl ⟨rfl, ?_⟩
 exact bel
theorem Cf (a b c x y z:Int) (w:World) (ha: -384≤a∧a≤384) (hb: -384≤b∧b≤384) (hc: -384≤c∧c≤384)
  (hx: -300000≤x∧x≤300000) (hy: -300000≤y∧y≤300000) (hz: -300000≤z∧z≤300000):
  Calls Tryz.prog 161 #[V3 a b c,V3 x y z] w (Ret w (.int .i64 (a*x+b*y+c*z))):=by
 have h1:=aJ ha.1 ha.2 hx.1 hx.2
 have h2:=aJ hb.1 hb.2 hy.1 hy.2
 have h3:=aJ hc.1 hc.2 hz.1 hz.2
 clear ha hb hc hx hy hz
 go_enter Tryz.func161,Tryz.ntmps161
 go_wp2
 go_ret
 refine⟨rfl, ?_⟩
 exact bel
theorem BK (p x:Q4) (w:World) (hp:okW p) (hx:okX x):
  Calls Tryz.prog 189 #[v4 p,v4 x] w (Ret w (.int .i64 (cw p x))):=by
 have HE:Hid (cw p x=p.1*x.1+p.2.1*x.2.1+p.2.2.1*x.2.2.1-p.2.2.2*x.2.2.2):=YJ rfl
 unfold okW at hp
 unfold okX at hx
 have h0:=aJ hp.1.1 hp.1.2 hx.1.1 hx.1.2
 have h1:=aJ hp.2.1.1 hp.2.1.2 hx.2.1.1 hx.2.1.2
 have h2:=aJ hp.2.2.1.1 hp.2.2.1.2 hx.2.2.1.1 hx.2.2.1.2
 have h3:=aJ (X:=400000000) hp.2.2.2.1 hp.2.2.2.2 (by omega) hx.2.2.2.2
 obtain⟨p0,p1,p2,p3⟩:=p
 obtain⟨x0,x1,x2,x3⟩:=x
 simp only at*
 generalize cw (p0,p1,p2,p3) (x0,x1,x2,x3)=s at*
 clear hp hx
 go_enter Tryz.func189,Tryz.ntmps189
 go_wp2
 go_ret
 exact⟨aK HE.out.symm,bel⟩
theorem DX (p:Q4) (w:World) (hp:okW p):
  Calls Tryz.prog 195 #[v4 p] w (Ret w (v4 (eL p))):=by
 unfold okW at hp
 have HE:Hid (eL p=if 1<IV p then dG p else p):=YJ rfl
 obtain⟨a,b,c,d⟩:=p
 simp only at hp
 have e1:=YJ (bH (aY [a,b,c,d] a (by simp)))
 have e2:=YJ (bH (aY [a,b,c,d] b (by simp)))
 have e3:=YJ (bH (aY [a,b,c,d] c (by simp)))
 have e4:=YJ (bH (aY [a,b,c,d] d (by simp)))
 have HL:Hid (dG (a,b,c,d)=(a / aU [a,b,c,d],b / aU [a,b,c,d],c / aU [a,b,c,d],d / aU [a,b,c,d])):=YJ rfl
 have HG:Hid (IV (a,b,c,d)=aU [a,b,c,d]):=YJ rfl
 have t1:=bZ (g:=aU [a,b,c,d]) hp.1
 have t2:=bZ (g:=aU [a,b,c,d]) hp.2.1
 have t3:=bZ (g:=aU [a,b,c,d]) hp.2.2.1
 have t4:=bZ (g:=aU [a,b,c,d]) hp.2.2.2
 have hle:=jl 10000000000 a b c d (by omega) (by omega) (by omega) (by omega)
 generalize eL (a,b,c,d)=r at*
 generalize dG (a,b,c,d)=lo at*
 generalize IV (a,b,c,d)=g4 at*
 go_enter Tryz.func195,Tryz.ntmps195
 go_wp2_with fail
 refine(DH _ _ _ _ _ _ _ (by simp) (by omega) (by omega) (by omega) (by omega)).mono ?_
 rintro e w1 ⟨rfl,hb1⟩
 have hw1:Below w.heap.size w w1:=by
  refine Below.trans ?_ (hb1.mono (by simp;omega))
  exact bel
 have HP:=YJ ((hb1.block w.heap.size (by simp;omega)).trans ((aB (by simp;omega)).trans ((aB (by simp)).trans (ai rfl))))
 have HO:=YJ ((hb1.block (w.heap.size+1) (by simp)).trans ((aB (by simp)).trans (ai (by simp))))
 obtain⟨c0,c1,c2,c3,cf,cz⟩:=am HP.out
 obtain⟨d0,d1,d2,d3,df,dz⟩:=am HO.out
 clear hb1
 generalize aU [a,b,c,d]=g at*
 by_cases hg:1<g
 ·have hgi:(1:Int)<(g:Int):=by omega
  have hg0:¬(g:Int)=0:=by omega
  have hg1:¬g=0:=by omega
  have Hr:Hid (r=(a.tdiv g,b.tdiv g,c.tdiv g,d.tdiv g)):=YJ (by rw[HE.out,HG.out,if_pos hg,HL.out,e1.out,e2.out,e3.out,e4.out])
  clear e1 e2 e3 e4 HL HE hg
  go_wp2
  apply aj [18,19] [0,1,2,3,4,5,6,7,8,9,10,11,12,13,14,15,16,17,18,19,20] 21 [22,23] [sv _,sv _,sv _,sv _,sv _,sv _,sv _,sv _,sv _,sv _,sv _,sv _,sv _,sv _,sv _,sv _,sv _,sv _,sv _,sv _,sv _] (by kernel_rfl) (by kernel_rfl)
  iterate 18 ((try go_frame);refine wkQ ?_)
  try go_frame
  refine wkz rfl rfl rfl rfl ?_
  apply Exists.intro
  apply And.intro
  ·intro w9
   go_simp
   try rfl
  refine⟨rfl, ?_⟩
  try go_frame
  refine wkz rfl rfl rfl rfl ?_
  apply Exists.intro
  apply And.intro
  ·intro w9
   go_simp
   try rfl
  refine⟨rfl, ?_⟩
  ((try go_frame);refine wkQ ?_)
  try go_frame
  refine aI (fun u hR=> ?_)
  have HPu:=YJ ((u.below.block _ cz).trans HP.out)
  have HOu:=YJ ((u.below.block _ dz).trans HO.out)
  have hwu:=fB hw1 u.below
  clear hR HP HO c0 c1 c2 c3 cf cz d0 d1 d2 d3 df dz hw1
  generalize u.val=w2 at*
  clear u
  obtain⟨c0,c1,c2,c3,cf,cz⟩:=am HPu.out
  obtain⟨d0,d1,d2,d3,df,dz⟩:=am HOu.out
  simp only[oas]
  go_wp2
  refine NoPanic.normal ?_
  go_wp2
  refine bodyPost_ret (v:=v4 (a.tdiv g,b.tdiv g,c.tdiv g,d.tdiv g)) (by simp[results,Tryz.results195,go_sem,c0,c1,c2,c3,cz,d0,d1,d2,d3,dz]) rfl ⟨?_, ?_⟩
  ·rw[Hr.out]
  ·iterate 8 (refine Below.setCell ?_ (by first|exact qaA _|exact Nat.le_succ _|(simp;done)|(simp;omega)) _)
   exact hwu
 ·have hgi:¬(1:Int)<(g:Int):=by omega
  have Hr:Hid (r=(a,b,c,d)):=YJ (by rw[HE.out,HG.out,if_neg hg])
  clear e1 e2 e3 e4 HL HE hg
  go_wp2
  refine bodyPost_ret (v:=v4 (a,b,c,d)) (by simp[results,Tryz.results195,go_sem,c0,c1,c2,c3,cz,d0,d1,d2,d3,dz]) rfl ⟨?_, ?_⟩
  ·rw[Hr.out]
  ·iterate 4 (refine Below.setCell ?_ (by first|exact qaA _|exact Nat.le_succ _|(simp;done)|(simp;omega)) _)
   exact hw1
end
end Go.Proofs.YtnpmkepfpekhfaaGreatDoor
