/- texts: BWS. -/
import Derived.Test.YtleamcmbhioedaaGreatDoorBKS40
namespace Go.Proofs.YtleamcmbhioedaaGreatDoor
set_option maxHeartbeats 8000000
set_option linter.unusedSimpArgs false
set_option linter.unusedVariables false
section
open Go.RowKit Go.Shelf
set_option maxRecDepth 100000
attribute [local go_sem] Ext.cell Ext.frozen
theorem SN {w:World} {B n k:Nat} {e:TypeId} {v x:Value} {xs:List Value} (h:w.ownsRow B e 1 v n xs) (hx:xs[k]? =some x):∃g c,v= .slice (some ⟨g,0,none⟩) n c∧w.cell? ⟨g,k,none⟩=some x∧g<w.heap.size:=by
 have hl:=h.1
 have hk:=(List.getElem?_eq_some_iff.1 hx).1
 rcases id h.2 with⟨rfl,h0⟩|⟨g,cap,cur,rfl,hb,hh,_⟩
 ·omega
 ·have:=World.ownsRow.cells h rfl k x hx
  rw[jY]at this
  exact⟨g,cap,rfl,this,ah hh⟩
theorem Td:(Tryz.prog.info? 3).map (fun i=>(i.zero,i.size,i.bytes))=some (some (.int .i64 0),1,8):=by kernel_rfl
theorem Te:Tryz.prog.underlying 48=some (.slice 3):=by kernel_rfl
def dts (ps:List Q4) (w:Q3):List Value:=ps.map fun p=> .int .i64 (bj (nrm p) w)
theorem Th {p:Q4} {x y z:Int} (h:bI p) (hx: -1≤x∧x≤1) (hy: -1≤y∧y≤1) (hz: -1≤z∧z≤1): -24≤bj (nrm p) (x,y,z)∧bj (nrm p) (x,y,z)≤24:=by
 have m0:=aJ h.1.1 h.1.2 hx.1 hx.2
 have m1:=aJ h.2.1.1 h.2.1.2 hy.1 hy.2
 have m2:=aJ h.2.2.1.1 h.2.2.1.2 hz.1 hz.2
 show -24≤p.1*x+p.2.1*y+p.2.2.1*z∧p.1*x+p.2.1*y+p.2.2.1*z≤24
 omega
def SwP (L:List Q4) (W:World) (e:Ending) (w':World):Prop:=∃v,e= .returned v∧Below W.heap.size W w'∧w'.ownsRow W.heap.size 127 4 v L.length (L.flatMap aH)
theorem Tf (ps:List Q4) (pv:Value) (x y z:Int) (W:World) (hps:∀p∈ps,bI p) (hl:ps.length≤16) (hx: -1≤x∧x≤1) (hy: -1≤y∧y≤1) (hz: -1≤z∧z≤1) (h:Q4s W pv ps):
  Calls Tryz.prog 33 #[.agg #[pv],V3 x y z] W (SwP (oS ps (x,y,z)) W):=by
 obtain⟨i0,hi0,hz0,hz1,hz2⟩:=info_parts cY
 have Hi0:=Lib.hid (And.intro hi0 (And.intro hz0 (And.intro hz1 hz2)))
 obtain⟨i1,hj0,hy0,hy1,hy2⟩:=info_parts Td
 have Hi1:=Lib.hid (And.intro hj0 (And.intro hy0 (And.intro hy1 hy2)))
 clear hi0 hz0 hz1 hz2 hj0 hy0 hy1 hy2
 obtain⟨pa,n,pc,rfl,hn, -,hpx⟩:=h
 have HX:=Lib.hid hpx
 have HN:=Lib.hid hn
 have hn16:n≤16:=by omega
 have HPs:=fun i (h:i<ps.length)=>Lib.hid (hps _ (List.getElem_mem h))
 have HL1:=fun i (h:i<ps.length)=>Lib.hid (Ta ps (x,y,z) i h)
 have HRi:=fun i (h:i<ps.length)=>Lib.hid (SL ps (x,y,z) i h)
 have HRk:=fun q i (h:i<ps.length)=>Lib.hid (SM ps (x,y,z) q i h)
 have HTk:Hid (ps.take n=ps):=Lib.hid (by rw[←hn];exact List.take_length)
 have HD:=fun i (h:i<ps.length)=>Lib.hid (show dts (ps.take (i+1)) (x,y,z)=dts (ps.take i) (x,y,z)++[.int .i64 (bj (nrm ps[i]) (x,y,z))] by unfold dts;rw[List.take_succ_eq_append_getElem h,List.map_append];rfl)
 have HDl:=fun i (h:i≤n)=>Lib.hid (show(dts (ps.take i) (x,y,z)).length=i by unfold dts;rw[List.length_map,List.length_take];omega)
 have HLl:Hid (∀i,(IH (ps.take i) (x,y,z)).length≤16):=Lib.hid (fun i=>by
  unfold IH
  have h1:=List.length_filter_le (fun x_1=>decide (bj (nrm x_1) (x,y,z)≤0)) (ps.take i)
  have h2:=List.length_take_le i ps
  have h3:(ps.take i).length≤ps.length:=by rw[List.length_take];omega
  omega)
 have HLr:=Lib.hid (fun q k j=>show(IH ps (x,y,z)++oT ps (x,y,z) k++OC ps (x,y,z) q j).length≤300 from by
  have h1:=HLl.out n
  rw[HTk.out]at h1
  have h2:=Tc ps (x,y,z) k hl
  have h3:=Sv ps (x,y,z) q j hl
  rw[List.length_append,List.length_append]
  omega)
 have HFin:Hid (oS ps (x,y,z)=IH ps (x,y,z)++oT ps (x,y,z) n):=Lib.hid (by unfold oS;rw[hn])
 have HR0:Hid (oT ps (x,y,z) 0=[]):=Lib.hid rfl
 have HK0:=fun q=>Lib.hid (show OC ps (x,y,z) q 0=[]from rfl)
 have HDat:=fun i (h:i<ps.length)=>Lib.hid (show(dts ps (x,y,z))[i]? =some (.int .i64 (bj (nrm ps[i]) (x,y,z))) by unfold dts;simp[h])
 clear hpx hn hps hl
 obtain⟨V,HV⟩:∃V,Hid ((W.alloc (.cells #[.slice pa n pc] 68)).alloc (.cells #[.int .i64 x, .int .i64 y, .int .i64 z] 33)=V):=⟨_,Lib.hid rfl⟩
 have hV:Below W.heap.size W V:=by rw[←HV.out];exact bel
 have BC:Hid (V.heap[W.heap.size]? =some (.cells #[.slice pa n pc] 68 (0,0))):=Lib.hid (by rw[←HV.out];exact(aB (by simp)).trans (ai rfl))
 have BY:Hid (V.heap[W.heap.size+1]? =some (.cells #[.int .i64 x, .int .i64 y, .int .i64 z] 33 (0,0))):=Lib.hid (by rw[←HV.out];exact ai (by simp))
 have zV:V.heap.size=W.heap.size+2:=by rw[←HV.out];simp
 go_enter Tryz.func33,Tryz.ntmps33
 go_wp2
 try rw[HV.out]
 go_loopw [5,6,7] (fun o a i wr=>∃k:Nat,k≤n∧i= .int .i64 k∧Below V.heap.size V wr∧Hid (wr.ownsRow (W.heap.size+2) 3 1 a k (dts (ps.take k) (x,y,z)))∧Hid (wr.ownsRow (W.heap.size+2) 127 4 o (IH (ps.take k) (x,y,z)).length ((IH (ps.take k) (x,y,z)).flatMap aH))) (fun _ _ i _=>n-(intOf i).toNat)
 case atStart=>exact⟨0,by omega,rfl,Below.refl _ _,Lib.hid (World.ownsRow_nil _ _ _ _),Lib.hid (World.ownsRow_nil _ _ _ _)⟩
 case round=>
  obtain⟨k,hk,rfl,hb,HA,HO⟩:=hrel
  have hCr:=(hb.block _ (ah BC.out)).trans BC.out
  have hYr:=(hb.block _ (ah BY.out)).trans BY.out
  have c0:wr.cell? ⟨W.heap.size,0,none⟩=some (.slice pa n pc):=(ag hCr 0).trans rfl
  have cz:=ah hCr
  obtain⟨w0,w1,w2,wf,wz⟩:=NO hYr
  have zr:W.heap.size+2≤wr.heap.size:=by have:=hb.size;omega
  obtain⟨aa,ac,rfl⟩:=aT HA.out
  obtain⟨oa,oc,rfl⟩:=aT HO.out
  by_cases hlt:k<n
  ·have g1:(k:Int)<(n:Int):=by omega
   have g2:(0:Int)≤(k:Int):=by omega
   have hil:k<ps.length:=by have:=HN.out;omega
   obtain⟨b,off,rfl,hi4⟩:=HX.out (by omega)
   obtain⟨d0,d1,d2,d3⟩:=(hi4.below (fB hV hb)) k hil
   have HDk:=HD k hil
   have HLk:=HL1 k hil
   have hok:=(HPs k hil).out
   have HLb:=Lib.hid (HLl.out k)
   have HDlk:=HDl k hk
   clear hi4 HX HD HL1 HPs HRi HRk HTk HLl HDl
   generalize ps[k]=p at*
   obtain⟨p0,p1,p2,p3⟩:=p
   simp only at d0 d1 d2 d3
   have dz:=World.block_lt_of_cell? wr _ d0
   simp only at dz
   have m0:=aJ hok.1.1 hok.1.2 hx.1 hx.2
   have m1:=aJ hok.2.1.1 hok.2.1.2 hy.1 hy.2
   have m2:=aJ hok.2.2.1.1 hok.2.2.1.2 hz.1 hz.2
   simp only[Int.reduceMul,Int.reduceNeg]at m0 m1 m2
   have Hdt:Hid (bj (nrm (p0,p1,p2,p3)) (x,y,z)=p0*x+p1*y+p2*z):=Lib.hid rfl
   rw[Hdt.out]at HDk HLk
   have hbB:Below wr.heap.size wr ((wr.alloc (.cells #[.int .i64 p0, .int .i64 p1, .int .i64 p2, .int .i64 p3] 127)).alloc (.cells #[.int .i64 (p0*x+p1*y+p2*z)] 3)):=bel
   have HAB:=Lib.hid (au HA.out hbB)
   have HOB:=Lib.hid (au HO.out hbB)
   have HNB:Hid (((wr.alloc (.cells #[.int .i64 p0, .int .i64 p1, .int .i64 p2, .int .i64 p3] 127)).alloc (.cells #[.int .i64 (p0*x+p1*y+p2*z)] 3)).heap[wr.heap.size+1]? =some (.cells #[.int .i64 (p0*x+p1*y+p2*z)] 3 (0,0))):=Lib.hid (ai (by simp))
   have HPB:Hid (((wr.alloc (.cells #[.int .i64 p0, .int .i64 p1, .int .i64 p2, .int .i64 p3] 127)).alloc (.cells #[.int .i64 (p0*x+p1*y+p2*z)] 3)).heap[wr.heap.size]? =some (.cells #[.int .i64 p0, .int .i64 p1, .int .i64 p2, .int .i64 p3] 127 (0,0))):=Lib.hid ((aB (by simp)).trans (ai rfl))
   clear hCr hYr HA HO
   go_wp2_with (at_builtin;refine wpList_append_own _ rfl _ _ 48 rfl (W.heap.size+2) 3 i1 (.int .i64 0) 1 8 Te Hi1.out.1 Hi1.out.2.1 Hi1.out.2.2.1 Hi1.out.2.2.2 rfl (by decide) _ k _ rfl HAB.out ⟨wr.heap.size+1,0,none⟩ 1 1 [.int .i64 (p0*x+p1*y+p2*z)] rfl rfl ?c1 ?c2 ?c3 ?c4 ?c5 ?_)
   case c1=>
    intro j u hu
    rw[jY,ag HNB.out]
    simpa using hu
   case c2=>
    intro u hu
    simp at hu
    subst hu
    rfl
   case c3=>unfold maxLen;omega
   case c4=>omega
   case c5=>simp;omega
   intro v4 w4 hown4 hg4 _
   have hb4:Below V.heap.size V w4:=(fB hb hbB).grown hg4 (by have:=hb.size;simp;omega) (fun z hz=>by have:=(HAB.out.lt z hz).1;omega)
   have HO4:=Lib.hid (Qu HOB.out hg4 (fun g cs h1 h2=>by obtain⟨c,t,h3,h4⟩:=jC HAB.out g cs h1 h2;exact⟨c,t,h3,by rw[h4];decide⟩))
   have HP4:=Lib.hid ((hg4.block _ (ah HPB.out) (fun e=>aG HAB.out HPB.out (by decide) e.symm)).trans HPB.out)
   have hown4':w4.ownsRow (W.heap.size+2) 3 1 v4 (k+1) (dts (ps.take (k+1)) (x,y,z)):=by rw[HDk.out];exact hown4
   obtain⟨ga,ca,rfl,ea,za⟩:=SN hown4 (k:=k) (x:= .int .i64 (p0*x+p1*y+p2*z)) (by rw[List.getElem?_append_right (by rw[HDlk.out];exact Nat.le_refl _),HDlk.out,Nat.sub_self];rfl)
   have HA4:=Lib.hid hown4'
   have zw4:=hg4.size
   clear hown4 hown4' hg4 HAB HOB HNB HPB hbB c0 cz w0 w1 w2 wf wz d0 d1 d2 d3 dz
   have q1:(k:Int)<((k+1:Nat):Int):=by omega
   obtain⟨e0,e1,e2,e3,ef,ez⟩:=am HP4.out
   by_cases hd:p0*x+p1*y+p2*z≤0
   ·rw[if_pos hd]at HLk
    have hlnb:=HLb.out
    have hbX:Below w4.heap.size w4 (w4.alloc (.cells #[.int .i64 p0, .int .i64 p1, .int .i64 p2, .int .i64 p3] 127)):=bel
    have HOX:=Lib.hid (au HO4.out hbX)
    have HAX:=Lib.hid (au HA4.out hbX)
    have HNX:Hid ((w4.alloc (.cells #[.int .i64 p0, .int .i64 p1, .int .i64 p2, .int .i64 p3] 127)).heap[w4.heap.size]? =some (.cells #[.int .i64 p0, .int .i64 p1, .int .i64 p2, .int .i64 p3] 127 (0,0))):=Lib.hid (ai rfl)
    clear HO4 HA4 HP4
    go_wp2_with (at_builtin;refine wpList_append_own _ rfl _ _ 66 rfl (W.heap.size+2) 127 i0 (v4 (0,0,0,0)) 4 32 Oc Hi0.out.1 Hi0.out.2.1 Hi0.out.2.2.1 Hi0.out.2.2.2 rfl (by decide) _ _ _ rfl HOX.out ⟨w4.heap.size,0,none⟩ 1 1 [.int .i64 p0, .int .i64 p1, .int .i64 p2, .int .i64 p3] rfl rfl ?c1 ?c2 ?c3 ?c4 ?c5 ?_)
    case c1=>
     intro j u hu
     rw[jY,ag HNX.out]
     simpa using hu
    case c2=>
     intro u hu
     simp at hu
     rcases hu with rfl|rfl|rfl|rfl<;>rfl
    case c3=>unfold maxLen;omega
    case c4=>omega
    case c5=>have:=hb4.size;simp;omega
    intro v6 w6 hown6 hg6 _
    have hb6:Below V.heap.size V w6:=(fB hb4 hbX).grown hg6 (by have:=hb4.size;simp;omega) (fun z hz=>by have:=(HOX.out.lt z hz).1;omega)
    have HA6:=Lib.hid (Qu HAX.out hg6 (fun g cs h1 h2=>by obtain⟨c,t,h3,h4⟩:=jC HOX.out g cs h1 h2;exact⟨c,t,h3,by rw[h4];decide⟩))
    have HO6:Hid (w6.ownsRow (W.heap.size+2) 127 4 v6 (IH (ps.take (k+1)) (x,y,z)).length ((IH (ps.take (k+1)) (x,y,z)).flatMap aH)):=Lib.hid (by rw[HLk.out,List.length_append,List.flatMap_append];exact hown6)
    clear hown6 hg6 HOX HAX HNX e0 e1 e2 e3 ef ez ea za
    go_wp2
    go_roundw
    case rel=>exact⟨k+1,by omega,by go_num,hb6,HA6,HO6⟩
    case measure=>first|(simp[intOf];done)|(simp[intOf];omega)
   ·rw[if_neg hd,List.append_nil]at HLk
    go_wp2
    go_roundw
    case rel=>exact⟨k+1,by omega,by go_num,hb4,HA4,by rw[HLk.out];exact HO4⟩
    case measure=>first|(simp[intOf];done)|(simp[intOf];omega)
  ·obtain rfl:n=k:=by omega
   rw[HTk.out]at HA HO ⊢
   clear hCr hYr HL1 HD HDl w0 w1 w2 wf wz HLl
   rename World=>wA
   go_wp2
   go_loopw [5,9] (fun o i wr=>∃k:Nat,k≤n∧i= .int .i64 k∧Below V.heap.size V wr∧Hid (wr.ownsRow (W.heap.size+2) 3 1 (.slice aa n ac) n (dts ps (x,y,z)))∧Hid (wr.ownsRow (W.heap.size+2) 127 4 o (IH ps (x,y,z)++oT ps (x,y,z) k).length ((IH ps (x,y,z)++oT ps (x,y,z) k).flatMap aH))) (fun _ i _=>n-(intOf i).toNat)
   case atStart=>exact⟨0,by omega,rfl,hb,HA,by rw[HR0.out,List.append_nil];exact HO⟩
   case round=>
    clear HA HO hb
    obtain⟨i,hi,rfl,hb,HA,HO⟩:=hrel
    have zr:W.heap.size+2≤wr.heap.size:=by have:=hb.size;omega
    obtain⟨oa2,oc2,rfl⟩:=aT HO.out
    by_cases hli:i<n
    ·have g3:(i:Int)<(n:Int):=by omega
     have g4:(0:Int)≤(i:Int):=by omega
     have hil:i<ps.length:=by have:=HN.out;omega
     have HRn:=HRi i hil
     go_wp2
     go_loopw [5,10] (fun o jv wr=>∃j:Nat,j≤n∧jv= .int .i64 j∧Below V.heap.size V wr∧Hid (wr.ownsRow (W.heap.size+2) 3 1 (.slice aa n ac) n (dts ps (x,y,z)))∧Hid (wr.ownsRow (W.heap.size+2) 127 4 o (IH ps (x,y,z)++oT ps (x,y,z) i++OC ps (x,y,z) ps[i] j).length ((IH ps (x,y,z)++oT ps (x,y,z) i++OC ps (x,y,z) ps[i] j).flatMap aH))) (fun _ jv _=>n-(intOf jv).toNat)
     case atStart=>exact⟨0,by omega,rfl,hb,HA,by rw[(HK0 _).out,List.append_nil];exact HO⟩
     case round=>
      clear HA HO hb zr
      obtain⟨j,hj,rfl,hb,HA,HO⟩:=hrel
      have zr:W.heap.size+2≤wr.heap.size:=by have:=hb.size;omega
      obtain⟨oa3,oc3,rfl⟩:=aT HO.out
      by_cases hlj:j<n
      ·have g5:(j:Int)<(n:Int):=by omega
       have g6:(0:Int)≤(j:Int):=by omega
       have hjl:j<ps.length:=by have:=HN.out;omega
       have HRk':=HRk ps[i] j hjl
       obtain⟨ga,ca,e,ei,za⟩:=SN HA.out (HDat i hil).out
       cases e
       obtain⟨_,_,e,ej, -⟩:=SN HA.out (HDat j hjl).out
       cases e
       have HM:Hid (Rl (x,y,z) ps[i] ps[j]=if 0<bj (nrm ps[i]) (x,y,z)∧bj (nrm ps[j]) (x,y,z)<0∧nrm (kv ps[i] ps[j] (x,y,z))≠(0,0,0)then [dG (kv ps[i] ps[j] (x,y,z))]else []):=Lib.hid rfl
       have HLb:=Lib.hid (HLr.out ps[i] i j)
       have HMx:Hid (kv ps[i] ps[j] (x,y,z)=(ps[i].1* -(bj (nrm ps[j]) (x,y,z))+ps[j].1*bj (nrm ps[i]) (x,y,z),ps[i].2.1* -(bj (nrm ps[j]) (x,y,z))+ps[j].2.1*bj (nrm ps[i]) (x,y,z),ps[i].2.2.1* -(bj (nrm ps[j]) (x,y,z))+ps[j].2.2.1*bj (nrm ps[i]) (x,y,z),ps[i].2.2.2* -(bj (nrm ps[j]) (x,y,z))+ps[j].2.2.2*bj (nrm ps[i]) (x,y,z))):=Lib.hid rfl
       have okP:=(HPs i hil).out
       have okQ:=(HPs j hjl).out
       have bdi:=Th okP hx hy hz
       have bdj:=Th okQ hx hy hz
       obtain⟨b,off,rfl,hi4⟩:=HX.out (by omega)
       obtain⟨d0,d1,d2,d3⟩:=(hi4.below (fB hV hb)) i hil
       obtain⟨f0,f1,f2,f3⟩:=(hi4.below (fB hV hb)) j hjl
       have hCr:=(hb.block _ (ah BC.out)).trans BC.out
       have c0':wr.cell? ⟨W.heap.size,0,none⟩=some (.slice (some ⟨b,off,none⟩) n pc):=(ag hCr 0).trans rfl
       have cz':=ah hCr
       clear hi4 hCr HX HPs HDat HRi HRk HLr HRn HK0 HR0
       rw[HM.out]at HRk'
       clear HM
       obtain⟨SR,HSR⟩:∃SR,Hid (IH ps (x,y,z)++oT ps (x,y,z) i++OC ps (x,y,z) ps[i] j=SR):=⟨_,Lib.hid rfl⟩
       have HRj:Hid (IH ps (x,y,z)++oT ps (x,y,z) i++OC ps (x,y,z) ps[i] (j+1)=SR++if 0<bj (nrm ps[i]) (x,y,z)∧bj (nrm ps[j]) (x,y,z)<0∧nrm (kv ps[i] ps[j] (x,y,z))≠(0,0,0)then [dG (kv ps[i] ps[j] (x,y,z))]else []):=Lib.hid (by rw[HRk'.out, ←HSR.out,List.append_assoc,List.append_assoc,List.append_assoc])
       rw[HSR.out]at HO HLb ⊢
       clear HRk' HSR
       generalize bj (nrm ps[i]) (x,y,z)=di at*
       generalize bj (nrm ps[j]) (x,y,z)=dj at*
       generalize kv ps[i] ps[j] (x,y,z)=M at*
       unfold bI at okP okQ
       generalize ps[i].1=p0 at*
       generalize ps[i].2.1=p1 at*
       generalize ps[i].2.2.1=p2 at*
       generalize ps[i].2.2.2=p3 at*
       generalize ps[j].1=q0 at*
       generalize ps[j].2.1=q1 at*
       generalize ps[j].2.2.1=q2 at*
       generalize ps[j].2.2.2=q3 at*
       have hlb:=HLb.out
       by_cases h1:0<di
       ·by_cases h2:dj<0
        ·have dz:=World.block_lt_of_cell? wr _ d0
         simp only at dz
         obtain⟨m,hm⟩:∃m:Int,m= -dj:=⟨_,rfl⟩
         have wn:IntKind.i64.wrap (-dj)=m:=by rw[IntWalk.i64_in _ (by omega)];exact hm.symm
         have hmb:0≤m∧m≤24:=by omega
         have hdib:0≤di∧di≤24:=by omega
         have A0:=aJ (A:=24) (by omega) hmb.2 okP.1.1 okP.1.2
         have A1:=aJ (A:=24) (by omega) hmb.2 okP.2.1.1 okP.2.1.2
         have A2:=aJ (A:=24) (by omega) hmb.2 okP.2.2.1.1 okP.2.2.1.2
         have A3:=aJ (A:=24) (by omega) hmb.2 okP.2.2.2.1 okP.2.2.2.2
         have B0:=aJ (A:=24) (by omega) hdib.2 okQ.1.1 okQ.1.2
         have B1:=aJ (A:=24) (by omega) hdib.2 okQ.2.1.1 okQ.2.1.2
         have B2:=aJ (A:=24) (by omega) hdib.2 okQ.2.2.1.1 okQ.2.2.1.2
         have B3:=aJ (A:=24) (by omega) hdib.2 okQ.2.2.2.1 okQ.2.2.2.2
         simp only[Int.reduceMul,Int.reduceNeg]at A0 A1 A2 A3 B0 B1 B2 B3
         have HMx':Hid (M=(m*p0+di*q0,m*p1+di*q1,m*p2+di*q2,m*p3+di*q3)):=Lib.hid (by rw[HMx.out,hm];simp only[Prod.mk.injEq];refine⟨?_, ?_, ?_, ?_⟩<;>grind)
         have Hm:=Lib.hid hm
         clear HMx hm
         go_wp2
         go_cut [11,12] (fun s11 s12 wx=>∃g h,s11= .pointer (some ⟨g,0,none⟩)∧s12= .pointer (some ⟨h,0,none⟩)∧wx.heap[g]? =some (.cells #[.int .i64 p0, .int .i64 p1, .int .i64 p2, .int .i64 p3] 127 (0,0))∧wx.heap[h]? =some (.cells #[.int .i64 q0, .int .i64 q1, .int .i64 q2, .int .i64 q3] 127 (0,0))∧Below wr.heap.size wr wx)
         case first=>
          go_region_held (fun w'=>w'.cell? ⟨W.heap.size,0,none⟩=some (.slice (some ⟨b,off,none⟩) n pc)∧w'.cell? ⟨b,off+i*4,none⟩=some (.int .i64 p0)∧w'.cell? ⟨b,off+i*4+1,none⟩=some (.int .i64 p1)∧w'.cell? ⟨b,off+i*4+2,none⟩=some (.int .i64 p2)∧w'.cell? ⟨b,off+i*4+3,none⟩=some (.int .i64 p3)∧w'.cell? ⟨b,off+j*4,none⟩=some (.int .i64 q0)∧w'.cell? ⟨b,off+j*4+1,none⟩=some (.int .i64 q1)∧w'.cell? ⟨b,off+j*4+2,none⟩=some (.int .i64 q2)∧w'.cell? ⟨b,off+j*4+3,none⟩=some (.int .i64 q3)) (exact⟨ab bel c0',ab bel d0,ab bel d1,ab bel d2,ab bel d3,ab bel f0,ab bel f1,ab bel f2,ab bel f3⟩) (fail)
          all_goals (go_wp2_with fail;go_meet;refine⟨_,_,rfl,rfl, ?_, ?_,bel⟩<;>first|exact ai (by simp;done)|exact(aB (by simp;done)).trans (ai rfl))
         case rest=>
          rename World=>wx
          obtain⟨g,h,rfl,rfl,hG,hH,hbx⟩:=hcut
          have HG:=Lib.hid hG
          have HH:=Lib.hid hH
          have HAx:=Lib.hid (au HA.out hbx)
          have HOx:=Lib.hid (au HO.out hbx)
          have hbV:Below V.heap.size V wx:=fB hb hbx
          have zx:W.heap.size+2≤wx.heap.size:=Nat.le_trans zr hbx.size
          have ei:=ab hbx ei
          have ej:=ab hbx ej
          have za:=Nat.lt_of_lt_of_le za hbx.size
          clear hG hH HA HO hb hbx zr c0' cz' d0 d1 d2 d3 f0 f1 f2 f3 dz c0 cz
          go_wp2
          apply aj [9] [0,1,2,3,4,5,6,7,8,9] 10 [] [sv _,sv _,sv _,sv _,sv _,sv _,sv _,sv _,sv _,sv _] (by kernel_rfl) (by kernel_rfl)
          iterate 9 ((try go_frame);refine wkQ ?_)
          try go_frame
          refine wkz rfl rfl rfl rfl ?_
          apply Exists.intro
          apply And.intro
          ·intro w9
           go_simp
           try rfl
          refine⟨rfl, ?_⟩
          try go_frame
          refine aI (fun u hR=> ?_)
          have HG2:=Lib.hid ((u.below.block _ (ah HG.out)).trans HG.out)
          have HH2:=Lib.hid ((u.below.block _ (ah HH.out)).trans HH.out)
          have HA2:=Lib.hid (au HAx.out u.below)
          have HO2:=Lib.hid (au HOx.out u.below)
          have hb2:=fB hbV u.below
          have z2:W.heap.size+2≤u.val.heap.size:=Nat.le_trans zx u.below.size
          clear hR HG HH HAx HOx hbV zx ei ej za
          generalize u.val=w3 at*
          clear u
          simp only[oas]
          go_wp2
          refine NoPanic.normal ?_
          obtain⟨d0,d1,d2,d3,df,dz⟩:=am HG2.out
          obtain⟨f0,f1,f2,f3,ff,fz⟩:=am HH2.out
          rw[HMx'.out]at HRj
          have hlow:=fun(hne:m*p0+di*q0≠0∨m*p1+di*q1≠0∨m*p2+di*q2≠0) W'=>Lib.hid (Sy (m*p0+di*q0) (m*p1+di*q1) (m*p2+di*q2) (m*p3+di*q3) W' (by omega) (by omega) (by omega) (by omega) hne)
          have hcon:∀hne:m*p0+di*q0≠0∨m*p1+di*q1≠0∨m*p2+di*q2≠0,Hid (IH ps (x,y,z)++oT ps (x,y,z) i++OC ps (x,y,z) ps[i] (j+1)=SR++[dG (m*p0+di*q0,m*p1+di*q1,m*p2+di*q2,m*p3+di*q3)]):=fun hne=>Lib.hid (by rw[HRj.out,if_pos ⟨h1,h2,fun e=>by simp[nrm]at e;omega⟩])
          have HLow:=Lib.hid hlow
          have HCon:=Lib.hid hcon
          clear hlow hcon HMx'
          by_cases n0:m*p0+di*q0=0
          ·have k0:(m*p0+di*q0 !=0)=false:=by simp[n0]
           by_cases n1:m*p1+di*q1=0
           ·have k1:(m*p1+di*q1 !=0)=false:=by simp[n1]
            by_cases n2:m*p2+di*q2=0
            ·have k2:(m*p2+di*q2 !=0)=false:=by simp[n2]
             have HF:Hid (IH ps (x,y,z)++oT ps (x,y,z) i++OC ps (x,y,z) ps[i] (j+1)=SR):=Lib.hid (by rw[HRj.out,if_neg (fun h=>h.2.2 (by simp[nrm,n0,n1,n2])),List.append_nil])
             have HO3:=HO2
             clear HLow HCon n0 n1 n2 HRj
             go_wp2
             go_roundw
             case rel=>exact⟨j+1,by omega,by go_num,fB hb2 bel,Lib.hid (au HA2.out bel),Lib.hid (by rw[HF.out];exact au HO3.out bel)⟩
             case measure=>first|(simp[intOf];done)|(simp[intOf];omega)
            ·have k2:(m*p2+di*q2 !=0)=true:=by simp[n2]
             have HLo:=fun W'=>Lib.hid (HLow.out (.inr (.inr n2)) W').out
             have HF:=HCon.out (.inr (.inr n2))
             clear HLow HCon n0 n1 n2 HRj
             go_wp2_with fail
             refine((HLo _).out).mono ?_
             rintro e w5 ⟨rfl,hb5⟩
             have hb3:Below w3.heap.size w3 w5:=fB bel hb5
             have HO5:=Lib.hid (au HO2.out hb3)
             have HA5:=Lib.hid (au HA2.out hb3)
             have hbV5:=fB hb2 hb3
             have z5:W.heap.size+2≤w5.heap.size:=Nat.le_trans z2 hb3.size
             clear HO2 HA2 hb2 z2 d0 d1 d2 d3 df dz f0 f1 f2 f3 ff fz HG2 HH2 HLo hb5
             obtain⟨⟨l0,l1,l2,l3⟩,HL⟩:∃L,Hid (dG (m*p0+di*q0,m*p1+di*q1,m*p2+di*q2,m*p3+di*q3)=L):=⟨_,Lib.hid rfl⟩
             rw[HL.out]at HF ⊢
             have hbX:Below w5.heap.size w5 (w5.alloc (.cells #[.int .i64 l0, .int .i64 l1, .int .i64 l2, .int .i64 l3] 127)):=bel
             have HOX:=Lib.hid (au HO5.out hbX)
             have HAX:=Lib.hid (au HA5.out hbX)
             have HNX:Hid ((w5.alloc (.cells #[.int .i64 l0, .int .i64 l1, .int .i64 l2, .int .i64 l3] 127)).heap[w5.heap.size]? =some (.cells #[.int .i64 l0, .int .i64 l1, .int .i64 l2, .int .i64 l3] 127 (0,0))):=Lib.hid (ai rfl)
             go_wp2_with (at_builtin;refine wpList_append_own _ rfl _ _ 66 rfl (W.heap.size+2) 127 i0 (v4 (0,0,0,0)) 4 32 Oc Hi0.out.1 Hi0.out.2.1 Hi0.out.2.2.1 Hi0.out.2.2.2 rfl (by decide) _ _ _ rfl HOX.out ⟨w5.heap.size,0,none⟩ 1 1 [.int .i64 l0, .int .i64 l1, .int .i64 l2, .int .i64 l3] rfl rfl ?c1 ?c2 ?c3 ?c4 ?c5 ?_)
             case c1=>
              intro j u hu
              rw[jY,ag HNX.out]
              simpa using hu
             case c2=>
              intro u hu
              simp at hu
              rcases hu with rfl|rfl|rfl|rfl<;>rfl
             case c3=>unfold maxLen;omega
             case c4=>omega
             case c5=>simp;omega
             intro v6 w6 hown6 hg6 _
             have hb6:Below V.heap.size V w6:=(fB hbV5 hbX).grown hg6 (by simp;omega) (fun z hz=>by have:=(HOX.out.lt z hz).1;omega)
             have HA6:=Lib.hid (Qu HAX.out hg6 (fun g cs h1 h2=>by obtain⟨c,t,h3,h4⟩:=jC HOX.out g cs h1 h2;exact⟨c,t,h3,by rw[h4];decide⟩))
             have HO6:=Lib.hid hown6
             clear hown6 hg6 HOX HAX HNX HO5 HA5
             go_wp2
             go_roundw
             case rel=>exact⟨j+1,by omega,by go_num,hb6,HA6,Lib.hid (by rw[HF.out,List.length_append,List.flatMap_append];exact HO6.out)⟩
             case measure=>first|(simp[intOf];done)|(simp[intOf];omega)
           ·have k1:(m*p1+di*q1 !=0)=true:=by simp[n1]
            have HLo:=fun W'=>Lib.hid (HLow.out (.inr (.inl n1)) W').out
            have HF:=HCon.out (.inr (.inl n1))
            clear HLow HCon n0 n1 HRj
            go_wp2_with fail
            refine((HLo _).out).mono ?_
            rintro e w5 ⟨rfl,hb5⟩
            have hb3:Below w3.heap.size w3 w5:=fB bel hb5
            have HO5:=Lib.hid (au HO2.out hb3)
            have HA5:=Lib.hid (au HA2.out hb3)
            have hbV5:=fB hb2 hb3
            have z5:W.heap.size+2≤w5.heap.size:=Nat.le_trans z2 hb3.size
            clear HO2 HA2 hb2 z2 d0 d1 d2 d3 df dz f0 f1 f2 f3 ff fz HG2 HH2 HLo hb5
            obtain⟨⟨l0,l1,l2,l3⟩,HL⟩:∃L,Hid (dG (m*p0+di*q0,m*p1+di*q1,m*p2+di*q2,m*p3+di*q3)=L):=⟨_,Lib.hid rfl⟩
            rw[HL.out]at HF ⊢
            have hbX:Below w5.heap.size w5 (w5.alloc (.cells #[.int .i64 l0, .int .i64 l1, .int .i64 l2, .int .i64 l3] 127)):=bel
            have HOX:=Lib.hid (au HO5.out hbX)
            have HAX:=Lib.hid (au HA5.out hbX)
            have HNX:Hid ((w5.alloc (.cells #[.int .i64 l0, .int .i64 l1, .int .i64 l2, .int .i64 l3] 127)).heap[w5.heap.size]? =some (.cells #[.int .i64 l0, .int .i64 l1, .int .i64 l2, .int .i64 l3] 127 (0,0))):=Lib.hid (ai rfl)
            go_wp2_with (at_builtin;refine wpList_append_own _ rfl _ _ 66 rfl (W.heap.size+2) 127 i0 (v4 (0,0,0,0)) 4 32 Oc Hi0.out.1 Hi0.out.2.1 Hi0.out.2.2.1 Hi0.out.2.2.2 rfl (by decide) _ _ _ rfl HOX.out ⟨w5.heap.size,0,none⟩ 1 1 [.int .i64 l0, .int .i64 l1, .int .i64 l2, .int .i64 l3] rfl rfl ?c1 ?c2 ?c3 ?c4 ?c5 ?_)
            case c1=>
             intro j u hu
             rw[jY,ag HNX.out]
             simpa using hu
            case c2=>
             intro u hu
             simp at hu
             rcases hu with rfl|rfl|rfl|rfl<;>rfl
            case c3=>unfold maxLen;omega
            case c4=>omega
            case c5=>simp;omega
            intro v6 w6 hown6 hg6 _
            have hb6:Below V.heap.size V w6:=(fB hbV5 hbX).grown hg6 (by simp;omega) (fun z hz=>by have:=(HOX.out.lt z hz).1;omega)
            have HA6:=Lib.hid (Qu HAX.out hg6 (fun g cs h1 h2=>by obtain⟨c,t,h3,h4⟩:=jC HOX.out g cs h1 h2;exact⟨c,t,h3,by rw[h4];decide⟩))
            have HO6:=Lib.hid hown6
            clear hown6 hg6 HOX HAX HNX HO5 HA5
            go_wp2
            go_roundw
            case rel=>exact⟨j+1,by omega,by go_num,hb6,HA6,Lib.hid (by rw[HF.out,List.length_append,List.flatMap_append];exact HO6.out)⟩
            case measure=>first|(simp[intOf];done)|(simp[intOf];omega)
          ·have k0:(m*p0+di*q0 !=0)=true:=by simp[n0]
           have HLo:=fun W'=>Lib.hid (HLow.out (.inl n0) W').out
           have HF:=HCon.out (.inl n0)
           clear HLow HCon n0 HRj
           go_wp2_with fail
           refine((HLo _).out).mono ?_
           rintro e w5 ⟨rfl,hb5⟩
           have hb3:Below w3.heap.size w3 w5:=fB bel hb5
           have HO5:=Lib.hid (au HO2.out hb3)
           have HA5:=Lib.hid (au HA2.out hb3)
           have hbV5:=fB hb2 hb3
           have z5:W.heap.size+2≤w5.heap.size:=Nat.le_trans z2 hb3.size
           clear HO2 HA2 hb2 z2 d0 d1 d2 d3 df dz f0 f1 f2 f3 ff fz HG2 HH2 HLo hb5
           obtain⟨⟨l0,l1,l2,l3⟩,HL⟩:∃L,Hid (dG (m*p0+di*q0,m*p1+di*q1,m*p2+di*q2,m*p3+di*q3)=L):=⟨_,Lib.hid rfl⟩
           rw[HL.out]at HF ⊢
           have hbX:Below w5.heap.size w5 (w5.alloc (.cells #[.int .i64 l0, .int .i64 l1, .int .i64 l2, .int .i64 l3] 127)):=bel
           have HOX:=Lib.hid (au HO5.out hbX)
           have HAX:=Lib.hid (au HA5.out hbX)
           have HNX:Hid ((w5.alloc (.cells #[.int .i64 l0, .int .i64 l1, .int .i64 l2, .int .i64 l3] 127)).heap[w5.heap.size]? =some (.cells #[.int .i64 l0, .int .i64 l1, .int .i64 l2, .int .i64 l3] 127 (0,0))):=Lib.hid (ai rfl)
           go_wp2_with (at_builtin;refine wpList_append_own _ rfl _ _ 66 rfl (W.heap.size+2) 127 i0 (v4 (0,0,0,0)) 4 32 Oc Hi0.out.1 Hi0.out.2.1 Hi0.out.2.2.1 Hi0.out.2.2.2 rfl (by decide) _ _ _ rfl HOX.out ⟨w5.heap.size,0,none⟩ 1 1 [.int .i64 l0, .int .i64 l1, .int .i64 l2, .int .i64 l3] rfl rfl ?c1 ?c2 ?c3 ?c4 ?c5 ?_)
           case c1=>
            intro j u hu
            rw[jY,ag HNX.out]
            simpa using hu
           case c2=>
            intro u hu
            simp at hu
            rcases hu with rfl|rfl|rfl|rfl<;>rfl
           case c3=>unfold maxLen;omega
           case c4=>omega
           case c5=>simp;omega
           intro v6 w6 hown6 hg6 _
           have hb6:Below V.heap.size V w6:=(fB hbV5 hbX).grown hg6 (by simp;omega) (fun z hz=>by have:=(HOX.out.lt z hz).1;omega)
           have HA6:=Lib.hid (Qu HAX.out hg6 (fun g cs h1 h2=>by obtain⟨c,t,h3,h4⟩:=jC HOX.out g cs h1 h2;exact⟨c,t,h3,by rw[h4];decide⟩))
           have HO6:=Lib.hid hown6
           clear hown6 hg6 HOX HAX HNX HO5 HA5
           go_wp2
           go_roundw
           case rel=>exact⟨j+1,by omega,by go_num,hb6,HA6,Lib.hid (by rw[HF.out,List.length_append,List.flatMap_append];exact HO6.out)⟩
           case measure=>first|(simp[intOf];done)|(simp[intOf];omega)
        ·have HF:Hid (IH ps (x,y,z)++oT ps (x,y,z) i++OC ps (x,y,z) ps[i] (j+1)=SR):=Lib.hid (by rw[HRj.out,if_neg (fun h=>h2 h.2.1),List.append_nil])
         clear HMx HRj
         go_wp2
         go_roundw
         case rel=>exact⟨j+1,by omega,by go_num,hb,HA,Lib.hid (by rw[HF.out];exact HO.out)⟩
         case measure=>first|(simp[intOf];done)|(simp[intOf];omega)
       ·have HF:Hid (IH ps (x,y,z)++oT ps (x,y,z) i++OC ps (x,y,z) ps[i] (j+1)=SR):=Lib.hid (by rw[HRj.out,if_neg (fun h=>h1 h.1),List.append_nil])
        clear HMx HRj
        go_wp2
        go_roundw
        case rel=>exact⟨j+1,by omega,by go_num,hb,HA,Lib.hid (by rw[HF.out];exact HO.out)⟩
        case measure=>first|(simp[intOf];done)|(simp[intOf];omega)
      ·obtain rfl:n=j:=by omega
       have HF:Hid (IH ps (x,y,z)++oT ps (x,y,z) i++OC ps (x,y,z) ps[i] n=IH ps (x,y,z)++oT ps (x,y,z) (i+1)):=Lib.hid (by rw[HRn.out,List.append_assoc,HN.out])
       rw[HF.out]at HO
       clear HX HPs HDat HRi HRk HLr
       go_wp2
       go_roundw
       case rel=>exact⟨i+1,by omega,by go_num,hb,HA,by rw[←HF.out];rw[HF.out];exact HO⟩
       case measure=>first|(simp[intOf];done)|(simp[intOf];omega)
    ·obtain rfl:n=i:=by omega
     rw[←HFin.out]at HO
     clear HX HPs HDat HRi HRk HLr
     go_wp2
     go_ret
     refine⟨_,rfl,fB hV hb, ?_⟩
     have hO:=AY HO.out (show W.heap.size≤W.heap.size+2 by omega)
     first|exact hO|(rw[HFin.out]at hO ⊢;exact hO)
end
end Go.Proofs.YtleamcmbhioedaaGreatDoor
