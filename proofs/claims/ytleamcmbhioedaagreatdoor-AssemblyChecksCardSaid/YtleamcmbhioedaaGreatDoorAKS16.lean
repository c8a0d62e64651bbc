/- texts: B6 B7 V1 J1. -/
import Derived.Test.YtleamcmbhioedaaGreatDoorAKS15
namespace Go.Proofs.YtleamcmbhioedaaGreatDoor
set_option maxHeartbeats 8000000
set_option linter.unusedSimpArgs false
set_option linter.unusedVariables false
section
open Go.RowKit Go.Shelf
attribute [local go_sem] Ext.cell Ext.frozen
set_option maxRecDepth 100000
def dJ (ps:List Q4) (i k:Nat):Q3:=aN (nrm (bm ps i)) (nrm (bm ps k))
def nzB (l:Q3):Bool:=decide (l≠(0,0,0))
def mR (ps:List Q4) (l:Q3) (m:Nat):Bool:=(ps.take m).any fun r=>decide (0<bj l (nrm r))
def mS (ps:List Q4) (l:Q3) (m:Nat):Bool:=(ps.take m).any fun r=>decide (bj l (nrm r)<0)
def ij (ps:List Q4) (i k:Nat):Bool:= !nzB (dJ ps i k) || (mR ps (dJ ps i k) ps.length&&mS ps (dJ ps i k) ps.length)
def jv (ps:List Q4) (i k:Nat):Bool:=(List.range k).any fun k=>nzB (dJ ps i k)
def jw (ps:List Q4) (i:Nat):Bool:=(List.range i).any fun i=>jv ps i i
def bx (ps:List Q4):Bool:=((List.range ps.length).all fun i=>(List.range i).all fun k=>ij ps i k)&&jw ps ps.length
theorem qT (ps:List Q4) (i k:Nat):jv ps i (k+1)=(jv ps i k || nzB (dJ ps i k)):=by simp[jv,List.range_succ]
theorem qU (ps:List Q4) (i:Nat):jw ps (i+1)=(jw ps i || jv ps i i):=by simp[jw,List.range_succ]
theorem Bv (ps:List Q4) (l:Q3) (m:Nat) (h:m<ps.length):mR ps l (m+1)=(mR ps l m || decide (0<bj l (nrm (bm ps m)))):=by
 unfold mR
 rw[List.take_succ_eq_append_getElem h,List.any_append,eN m h]
 simp
theorem Bw (ps:List Q4) (l:Q3) (m:Nat) (h:m<ps.length):mS ps l (m+1)=(mS ps l m || decide (bj l (nrm (bm ps m))<0)):=by
 unfold mS
 rw[List.take_succ_eq_append_getElem h,List.any_append,eN m h]
 simp
theorem EI (ps:List Q4) (i k:Nat) (hi:i<ps.length) (hk:k<i) (h:ij ps i k=false):bx ps=false:=by
 have:((List.range ps.length).all fun i=>(List.range i).all fun k=>ij ps i k)=false:=by
  rw[List.all_eq_false]
  refine⟨i,by simpa using hi, ?_⟩
  rw[Bool.not_eq_true,List.all_eq_false]
  exact⟨k,by simpa using hk,by simp[h]⟩
 simp[bx,this]
theorem nU (ps:List Q4) (h:∀i k,i<ps.length→k<i→ij ps i k=true):bx ps=jw ps ps.length:=by
 have:((List.range ps.length).all fun i=>(List.range i).all fun k=>ij ps i k)=true:=by
  rw[List.all_eq_true]
  intro i hi
  rw[List.all_eq_true]
  intro k hk
  exact h i k (by simpa using hi) (by simpa using hk)
 simp[bx,this]
theorem pp (ps:List Q4) (pv:Value) (w:World) (hps:∀p∈ps,bI p) (hl:ps.length≤1000000) (hpv:Q4s w pv ps):
  Calls Tryz.prog 110 #[pv] w (Ret w (.bool (bx ps))):=by
 obtain⟨a,n,cc,rfl,hn,hnc,hx⟩:=hpv
 have HPS:=Lib.hid hps
 have Hbad:=Lib.hid (EI ps)
 have Hgood:=Lib.hid (nU ps)
 generalize bx ps=res at*
 clear hps
 go_enter Tryz.func110,Tryz.ntmps110
 go_wp2
 go_loopw [3,16] (fun s3 i wr=>∃k:Nat,k≤n∧i= .int .i64 k∧s3= .bool (jw ps k)∧Below w.heap.size w wr∧Hid (∀i j,i<k→j<i→ij ps i j=true)) (fun _ i _=>n-(intOf i).toNat)
 case atStart=>exact⟨0,by omega,rfl,rfl,Below.refl _ _,Lib.hid (fun i j h=>by omega)⟩
 case round=>
  obtain⟨k,hk,rfl,rfl,hbk,Hgk⟩:=hrel
  by_cases hlt:k<n
  ·obtain⟨b,off,rfl,hi⟩:=hx (by omega)
   obtain⟨c0,c1,c2,c3⟩:=(hi.below hbk) k (by omega)
   have Hok:=Lib.hid (eV HPS.out k (by omega))
   rw[eN k (by omega)]at c0 c1 c2 c3
   obtain⟨P,HP⟩:∃P,Hid (bm ps k=P):=⟨_,Lib.hid rfl⟩
   rw[HP.out]at c0 c1 c2 c3 Hok
   clear hx
   obtain⟨wo,rfl⟩:∃wo:World,wo=wr:=⟨_,rfl⟩
   have HI:=Lib.hid hi
   clear hi
   go_wp2
   clear c0 c1 c2 c3
   go_loopw [3,25] (fun s3 i wr=>∃j:Nat,j≤k∧i= .int .i64 j∧s3= .bool (jw ps k || jv ps k j)∧Below w.heap.size w wr∧Hid (wr.heap[wo.heap.size]? =some (.cells #[.int .i64 P.1, .int .i64 P.2.1, .int .i64 P.2.2.1, .int .i64 P.2.2.2] 127 (0,0)))∧Hid (∀i,i<j→ij ps k i=true)) (fun _ i _=>k-(intOf i).toNat)
   case atStart=>exact⟨0,by omega,rfl,by simp[jv],fB hbk bel,Lib.hid (ai rfl),Lib.hid (fun i h=>by omega)⟩
   case round=>
    clear hbk
    obtain⟨j,hj,rfl,rfl,hb,HPb,Hgj⟩:=hrel
    by_cases hlt2:j<k
    ·obtain⟨c0,c1,c2,c3⟩:=(HI.out.below hb) j (by omega)
     have HokQ:=Lib.hid (eV HPS.out j (by omega))
     rw[eN j (by omega)]at c0 c1 c2 c3
     obtain⟨Q,HQ⟩:∃Q,Hid (bm ps j=Q):=⟨_,Lib.hid rfl⟩
     rw[HQ.out]at c0 c1 c2 c3 HokQ
     obtain⟨wq,rfl⟩:∃wq:World,wq=wr:=⟨_,rfl⟩
     have zq:=ah HPb.out
     have p0:wq.cell? ⟨wo.heap.size,0,none⟩=some (.int .i64 P.1):=(ag HPb.out 0).trans rfl
     have p1:wq.cell? ⟨wo.heap.size,1,none⟩=some (.int .i64 P.2.1):=(ag HPb.out 1).trans rfl
     have p2:wq.cell? ⟨wo.heap.size,2,none⟩=some (.int .i64 P.2.2.1):=(ag HPb.out 2).trans rfl
     have p3:wq.cell? ⟨wo.heap.size,3,none⟩=some (.int .i64 P.2.2.2):=(ag HPb.out 3).trans rfl
     have oP:=Hok.out
     have oQ:=HokQ.out
     simp only[bI]at oP oQ
     have Hline:Hid (dJ ps k j=aN (nrm P) (nrm Q)):=Lib.hid (by unfold dJ;rw[HP.out,HQ.out])
     have Hfi:=Lib.hid (qT ps k j)
     obtain⟨F,HF⟩:∃F,Hid ((jw ps k || jv ps k j)=F):=⟨_,Lib.hid rfl⟩
     rw[HF.out]
     go_wp2
     clear c0 c1 c2 c3
     have zo1:wo.heap.size<wq.heap.size+1:=by omega
     apply aj [] [0,1,2,3,4,5] 6 [] [sv _,sv _,sv _,sv _,sv _,⟨yd (wq.alloc (.cells #[.int .i64 Q.1, .int .i64 Q.2.1, .int .i64 Q.2.2.1, .int .i64 Q.2.2.2] 127)).heap.size 193 #[.int .i64 0, .int .i64 0, .int .i64 0],by first|exact stab_po _ _|exact stab_fo _ _|exact stab_co _ _|exact stab_ko _ _|exact stab_kgo _ _|exact ar _ _ _⟩] (by kernel_rfl) (by kernel_rfl)
     ((try go_frame);refine wkQ ?_)
     try go_frame
     refine wkV ?_
     apply ex3
     ·intro u K hK
      go_simp
      refine(ct _ _ _ _ _).mono ?_
      rintro e w9 ⟨rfl,hb9⟩
      exact hK _ hb9
     rfl
     ((try go_frame);refine wkQ ?_)
     try go_frame
     refine wkV ?_
     apply ex3
     ·intro u K hK
      go_simp
      refine(ct _ _ _ _ _).mono ?_
      rintro e w9 ⟨rfl,hb9⟩
      exact hK _ hb9
     rfl
     try go_frame
     refine wkV ?_
     apply ex3
     ·intro u K hK
      go_simp
      refine(iw _ _ _ _ _ _ _ (by omega) (by omega) (by omega) (by omega) (by omega) (by omega)).mono ?_
      rintro e w9 ⟨rfl,hb9⟩
      exact hK _ hb9
     rfl
     try go_frame
     refine wkU (fun u hR K hK=> ?_) (fun o5=> ?_)
     ·clear hR
      have zw:=u.size
      go_simp
      exact hK _ _ bel ⟨_,rfl,zw,ai rfl⟩
     try go_frame
     refine aI (fun u hR=> ?_)
     obtain⟨gl,rfl,hgl,Hgl⟩:yd (wq.alloc (.cells #[.int .i64 Q.1, .int .i64 Q.2.1, .int .i64 Q.2.2.1, .int .i64 Q.2.2.2] 127)).heap.size 193 #[.int .i64 0, .int .i64 0, .int .i64 0] o5 u.val:=hR 5 (by simp)
     have hbl:=u.below
     clear hR
     generalize u.val=wl at*
     clear u
     simp only[oas]
     have g0:wl.cell? ⟨gl,0,none⟩=some (.int .i64 0):=(ag Hgl 0).trans rfl
     have g1:wl.cell? ⟨gl,1,none⟩=some (.int .i64 0):=(ag Hgl 1).trans rfl
     have g2:wl.cell? ⟨gl,2,none⟩=some (.int .i64 0):=(ag Hgl 2).trans rfl
     have gf:=aC Hgl
     have Hb:=Lib.hid Hgl
     have HL:Hid (aN (nrm P) (nrm Q)=(P.2.1*Q.2.2.1-P.2.2.1*Q.2.1,P.2.2.1*Q.1-P.1*Q.2.2.1,P.1*Q.2.1-P.2.1*Q.1)):=Lib.hid rfl
     have bL0:=aL oP.2.1 oP.2.2.1 oQ.2.1 oQ.2.2.1
     have bL1:=aL oP.2.2.1 oP.1 oQ.2.2.1 oQ.1
     have bL2:=aL oP.1 oP.2.1 oQ.1 oQ.2.1
     clear Hgl p0 p1 p2 p3
     generalize P.2.1*Q.2.2.1-P.2.2.1*Q.2.1=l0 at*
     generalize P.2.2.1*Q.1-P.1*Q.2.2.1=l1 at*
     generalize P.1*Q.2.1-P.2.1*Q.1=l2 at*
     try go_frame
     iterate 1 (refine wpList_step (fun K hK=> ?_);go_simp;refine hK _ _ ?_;clear hK K)
     refine NoPanic.normal ?_
     have hv:=kL l0 l1 l2 0 0 0
     obtain⟨wm,Hwm⟩:∃wm,Hid (((wl.setCell ⟨gl,0,none⟩ (.int .i64 l0)).setCell ⟨gl,1,none⟩ (.int .i64 l1)).setCell ⟨gl,2,none⟩ (.int .i64 l2)=wm):=⟨_,Lib.hid rfl⟩
     have hbm:Below (wq.alloc (.cells #[.int .i64 Q.1, .int .i64 Q.2.1, .int .i64 Q.2.2.1, .int .i64 Q.2.2.2] 127)).heap.size (wq.alloc (.cells #[.int .i64 Q.1, .int .i64 Q.2.1, .int .i64 Q.2.2.1, .int .i64 Q.2.2.2] 127)) wm:=by
      rw[←Hwm.out];exact((hbl.setCell hgl _).setCell hgl _).setCell hgl _
     have hbwm:Below w.heap.size w wm:=fB hb (fB bel hbm)
     have HP1:Hid (wm.heap[wo.heap.size]? =some (.cells #[.int .i64 P.1, .int .i64 P.2.1, .int .i64 P.2.2.1, .int .i64 P.2.2.2] 127 (0,0))):=Lib.hid ((hbm.block _ (by simp;omega)).trans ((aB zq).trans HPb.out))
     have Hl:Hid (wm.heap[gl]? =some (.cells #[.int .i64 l0, .int .i64 l1, .int .i64 l2] 193 (0,0))):=by rw[←Hwm.out];exact Lib.hid (br (br (br Hb.out 0 _) 1 _) 2 _)
     rw[Hwm.out]
     rw[HL.out]at Hline
     clear hbl hbm g0 g1 g2 gf Hb Hwm HPb hgl hb
     have e0:wm.cell? ⟨gl,0,none⟩=some (.int .i64 l0):=(ag Hl.out 0).trans rfl
     have e1:wm.cell? ⟨gl,1,none⟩=some (.int .i64 l1):=(ag Hl.out 1).trans rfl
     have e2:wm.cell? ⟨gl,2,none⟩=some (.int .i64 l2):=(ag Hl.out 2).trans rfl
     by_cases hz:l0=0∧l1=0∧l2=0
     ·have hb0:(l0==0&&l1==0&&l2==0)=true:=by simp[hz]
      have Hz:=Lib.hid hz
      rw[hb0]at hv
      clear hz hb0
      have Hnz:Hid (nzB (dJ ps k j)=false):=Lib.hid (by rw[Hline.out,Hz.out.1,Hz.out.2.1,Hz.out.2.2];rfl)
      go_wp2
      go_roundw
      case rel=>exact⟨j+1,by omega,by go_num,by rw[Hfi.out,Hnz.out, ←HF.out];simp,hbwm,HP1,Lib.hid (fun i h=>by
       by_cases e:i=j
       ·subst e;unfold ij;rw[Hnz.out];rfl
       ·exact Hgj.out i (by omega))⟩
      case measure=>simp[intOf];omega
     ·have hb0:(l0==0&&l1==0&&l2==0)=false:=by rw[Bool.eq_false_iff];simp;omega
      rw[hb0]at hv
      clear hb0
      have Hnz:Hid (nzB (dJ ps k j)=true):=Lib.hid (by rw[Hline.out];unfold nzB;rw[decide_eq_true_eq];intro e;injection e with e1 e2;injection e2 with e2 e3;exact hz ⟨e1,e2,e3⟩)
      go_wp2
      go_loopw [9,10,39] (fun s9 s10 i wr=>∃m:Nat,m≤n∧i= .int .i64 m∧s9= .bool (mR ps (l0,l1,l2) m)∧s10= .bool (mS ps (l0,l1,l2) m)∧Below w.heap.size w wr∧Hid (wr.heap[wo.heap.size]? =some (.cells #[.int .i64 P.1, .int .i64 P.2.1, .int .i64 P.2.2.1, .int .i64 P.2.2.2] 127 (0,0)))∧Hid (wr.heap[gl]? =some (.cells #[.int .i64 l0, .int .i64 l1, .int .i64 l2] 193 (0,0)))) (fun _ _ i _=>n-(intOf i).toNat)
      case atStart=>exact⟨0,by omega,rfl,rfl,rfl,hbwm,HP1,Hl⟩
      case round=>
       clear e0 e1 e2 HP1 Hl hv hz hbwm
       obtain⟨m,hm,rfl,rfl,rfl,hb,HP1,Hl⟩:=hrel
       by_cases hlt3:m<n
       ·obtain⟨c0,c1,c2,c3⟩:=(HI.out.below hb) m (by omega)
        have HokR:=Lib.hid (eV HPS.out m (by omega))
        have Hab:=Lib.hid (Bv ps (l0,l1,l2) m (by omega))
        have Hbl:=Lib.hid (Bw ps (l0,l1,l2) m (by omega))
        rw[eN m (by omega)]at c0 c1 c2 c3
        obtain⟨R,HR⟩:∃R,Hid (bm ps m=R):=⟨_,Lib.hid rfl⟩
        rw[HR.out]at c0 c1 c2 c3 HokR Hab Hbl
        obtain⟨wz,rfl⟩:∃wz:World,wz=wr:=⟨_,rfl⟩
        have zP:=ah HP1.out
        have zL:=ah Hl.out
        have e0:wz.cell? ⟨gl,0,none⟩=some (.int .i64 l0):=(ag Hl.out 0).trans rfl
        have e1:wz.cell? ⟨gl,1,none⟩=some (.int .i64 l1):=(ag Hl.out 1).trans rfl
        have e2:wz.cell? ⟨gl,2,none⟩=some (.int .i64 l2):=(ag Hl.out 2).trans rfl
        have oR:=HokR.out
        simp only[bI]at oR
        go_wp2
        clear c0 c1 c2 c3
        have zL1:gl<wz.heap.size+1:=by omega
        refine wqb ?_
        repeat(first|go_big_quiet_step ((first|(go_at_call 116;exact aE (ct _ _ _ _ _))|(go_at_call 117;exact aE (ix _ _ _ _ _ _ _ (by omega) (by omega) (by omega) (by omega) (by omega) (by omega)))))|quiet_step ((first|(go_at_call 116;exact aE (ct _ _ _ _ _))|(go_at_call 117;exact aE (ix _ _ _ _ _ _ _ (by omega) (by omega) (by omega) (by omega) (by omega) (by omega))))))
        refine wqn fun u=> ?_
        have Hden:Hid (bj (l0,l1,l2) (nrm R)=l0*R.1+l1*R.2.1+l2*R.2.2.1):=Lib.hid rfl
        rw[Hden.out]at Hab Hbl
        have HP2:Hid (u.val.heap[wo.heap.size]? =some (.cells #[.int .i64 P.1, .int .i64 P.2.1, .int .i64 P.2.2.1, .int .i64 P.2.2.2] 127 (0,0))):=Lib.hid ((u.below.block _ (by simp;omega)).trans ((aB zP).trans HP1.out))
        have Hl2:Hid (u.val.heap[gl]? =some (.cells #[.int .i64 l0, .int .i64 l1, .int .i64 l2] 193 (0,0))):=Lib.hid ((u.below.block _ (by simp;omega)).trans ((aB zL).trans Hl.out))
        have hb2:Below w.heap.size w u.val:=fB hb (fB bel u.below)
        clear e0 e1 e2 HP1 Hl oR hb
        generalize l0*R.1+l1*R.2.1+l2*R.2.2.1=den at*
        generalize mR ps (l0,l1,l2) m=A at*
        generalize mS ps (l0,l1,l2) m=B at*
        have tri:0<den∨den<0∨den=0:=by omega
        rcases tri with hd|hd|hd
        ·have hd2:¬den<0:=by omega
         rw[decide_eq_true hd]at Hab
         rw[decide_eq_false hd2]at Hbl
         cases A<;>cases B
         all_goals
          go_wp2
          go_roundw
          case rel=>exact⟨m+1,by omega,by go_num,by rw[Hab.out];rfl,by rw[Hbl.out];rfl,hb2,HP2,Hl2⟩
          case measure=>simp[intOf];omega
        ·have hd2:¬0<den:=by omega
         rw[decide_eq_false hd2]at Hab
         rw[decide_eq_true hd]at Hbl
         cases A<;>cases B
         all_goals
          go_wp2
          go_roundw
          case rel=>exact⟨m+1,by omega,by go_num,by rw[Hab.out];rfl,by rw[Hbl.out];rfl,hb2,HP2,Hl2⟩
          case measure=>simp[intOf];omega
        ·subst hd
         cases A<;>cases B
         all_goals
          go_wp2
          go_roundw
          case rel=>exact⟨m+1,by omega,by go_num,by rw[Hab.out];rfl,by rw[Hbl.out];rfl,hb2,HP2,Hl2⟩
          case measure=>simp[intOf];omega
       ·obtain rfl:m=n:=by omega
        have HA:Hid (ij ps k j=(mR ps (l0,l1,l2) m&&mS ps (l0,l1,l2) m)):=Lib.hid (by unfold ij;rw[Hnz.out,Hline.out,hn];rfl)
        have Hbd:=Lib.hid (Hbad.out k j (by omega) hlt2)
        generalize mR ps (l0,l1,l2) m=A at*
        generalize mS ps (l0,l1,l2) m=B at*
        cases A<;>cases B
        ·cases F
         all_goals
          go_wp2
          go_ret
          exact⟨ay (Hbd.out HA.out).symm,hb⟩
        ·cases F
         all_goals
          go_wp2
          go_ret
          exact⟨ay (Hbd.out HA.out).symm,hb⟩
        ·cases F
         all_goals
          go_wp2
          go_ret
          exact⟨ay (Hbd.out HA.out).symm,hb⟩
        ·cases F
         all_goals
          go_wp2
          go_roundw
          case rel=>exact⟨j+1,by omega,by go_num,by rw[Hfi.out,Hnz.out];simp,hb,HP1,Lib.hid (fun i h=>by
           by_cases e:i=j
           ·subst e;exact HA.out
           ·exact Hgj.out i (by omega))⟩
          case measure=>simp[intOf];omega
    ·obtain rfl:j=k:=by omega
     have Hsum:=Lib.hid (qU ps j)
     go_wp2
     go_roundw
     case rel=>exact⟨j+1,by omega,by go_num,by rw[Hsum.out],hb,Lib.hid (fun i q h1 h2=>by
      by_cases e:i=j
      ·subst e;exact Hgj.out q h2
      ·exact Hgk.out i q (by omega) h2)⟩
     case measure=>simp[intOf];omega
  ·obtain rfl:k=n:=by omega
   have Hg:=Lib.hid (Hgood.out (fun i q h1 h2=>Hgk.out i q (by omega) h2))
   clear hx
   go_wp2
   go_ret
   exact⟨ay (by rw[Hg.out,hn]),hbk⟩
end
section
open Go.RowKit Go.Shelf
attribute [local go_sem] Ext.cell Ext.frozen
def cJ:List Q4→Int
 | []=>0
 |p::ps=>if bP p=0 then cJ ps else bP p
theorem nV (ps:List Q4) (k:Nat) (hk:k<ps.length) (h:∀i (hi:i<ps.length),i<k→bP ps[i]=0) (hx:bP ps[k]≠0):cJ ps=bP ps[k]:=by
 induction ps generalizing k with
 |nil=>simp at hk
 |cons p ps ih=>
  cases k with
  |zero=>simp only[List.getElem_cons_zero]at hx;simp[cJ,hx]
  |succ k=>
   have h0:=h 0 (by simp) (by omega)
   simp only[List.getElem_cons_zero]at h0
   simp only[cJ,h0,if_true,List.getElem_cons_succ]
   exact ih k (by simpa using hk) (fun i hi hik=>by have:=h (i+1) (by simpa using hi) (by omega);simpa using this) (by simpa using hx)
theorem iQ (ps:List Q4) (h:∀i (hi:i<ps.length),bP ps[i]=0):cJ ps=0:=by
 induction ps with
 |nil=>rfl
 |cons p ps ih=>
  have h0:=h 0 (by simp)
  simp only[List.getElem_cons_zero]at h0
  simp only[cJ,h0,if_true]
  exact ih (fun i hi=>by have:=h (i+1) (by simpa using hi);simpa using this)
theorem iR (p:Q4) (h:bP p=0):cI p:=by
 unfold bP at h
 split at h
 ·cases h
 ·rename_i h1
  split at h
  ·cases h
  ·rename_i h2
   unfold cI bI
   omega
def kT (cs:List Q4):Bool:= !(cs.any fun c=> !lw c)
def bK (ps:List Q4):Int:=
 if 16<ps.length then 8 else if cJ ps≠0 then cJ ps else if bx ps=false then 14 else
 if fh ps (aS ps)=false then 13 else if kT (aS ps)=false then 2 else 0
theorem kU {l:List Q4} {x:Q4} (h:x∈Lib.compact l):x∈l:=by
 simp only[Lib.compact,Lib.compactUpTo,List.mem_map,List.mem_filter,List.mem_range]at h
 obtain⟨i,⟨hi,_⟩,rfl⟩:=h
 rw[getElem!_pos l.toArray i (by simpa using hi)]
 simp
theorem pq {ps:List Q4} {c:Q4} (h:c∈aS ps):c∈raw ps ps.length:=by
 have:=kU h
 simpa [ed]using this
theorem ml (ps:List Q4) (h:∀p∈ps,bI p):∀c∈aS ps,dI c:=fun c hc=>iD ps h ps.length (Nat.le_refl _) c (pq hc)
theorem eR (l:List Q4):(Lib.compact l).length≤l.length:=Df _ _
theorem kV (ps:List Q4) (h:ps.length≤64):(aS ps).length≤262144:=by
 have h1:=eR (ed (raw ps ps.length))
 rw[ni]at h1
 have h2:=jp ps ps.length h
 unfold aS
 omega
theorem nW (c:Q4) (w:World) (hc:fD c):Calls Tryz.prog 111 #[v4 c] w (Ret w (.bool (!lw c))):=by
 obtain⟨x,y,z,q⟩:=c
 simp only[fD]at hc
 have hs:=fun W=>Lib.hid (qG x y z q W (by omega))
 generalize lw (x,y,z,q)=r at*
 go_enter Tryz.func111,Tryz.ntmps111
 go_wp2_with fail
 refine((hs _).out).mono ?_
 rintro e w1 ⟨rfl,hb1⟩
 go_wp2
 go_ret
 exact⟨rfl,fB bel hb1⟩
theorem Jm:∀args w,(callFunc 111 args).run Tryz.prog w= .ok (.enter 111 args) w:=enters_of Tryz.func111 (by kernel_rfl) rfl
theorem sY (c:Q4) (w:World) (hc:fD c):gH Tryz.prog 111 #[] w (v4 c) (!lw c):=fun _ _=>nW c _ hc
theorem AY {w:World} {base base':Nat} {e:TypeId} {size n:Nat} {v:Value} {xs:List Value} (h:w.ownsRow base e size v n xs) (hb:base'≤base):w.ownsRow base' e size v n xs:=
 ⟨h.1,h.2.imp id (fun⟨g,cap,cur,hv,hg,r⟩=>⟨g,cap,cur,hv,Nat.le_trans hb hg,r⟩)⟩
def ReadPost (ps:List Q4) (pv:Value) (w:World) (e:Ending) (w':World):Prop:=
 Below w.heap.size w w'∧((bK ps=0∧∃cv,e= .returned (.tuple #[.agg #[pv,cv], .int .i64 0])∧w'.ownsRow w.heap.size 131 4 cv (aS ps).length ((aS ps).flatMap aH))∨
  (bK ps≠0∧e= .returned (.tuple #[.agg #[.slice none 0 0, .slice none 0 0], .int .i64 (bK ps)])))
theorem ReadPost.err {ps:List Q4} {pv:Value} {w w':World} {n:Int} (hb:Below w.heap.size w w') (hn:bK ps=n) (h0:n≠0):ReadPost ps pv w (.returned (.tuple #[.agg #[.slice none 0 0, .slice none 0 0], .int .i64 n])) w':=
 ⟨hb, .inr ⟨by rw[hn];exact h0,by rw[hn]⟩⟩
set_option maxRecDepth 100000 in
theorem By (ps:List Q4) (pv:Value) (w:World) (hl:ps.length≤1000000000) (hpv:Q4s w pv ps):
  Calls Tryz.prog 77 #[.agg #[pv]] w (ReadPost ps pv w):=by
 have HPV:=Lib.hid hpv
 obtain⟨a,n,cc,rfl,hn,hnc,hx⟩:=hpv
 by_cases h16:16<n
 ·have He:Hid (bK ps=8):=Lib.hid (by unfold bK;rw[if_pos (by omega)])
  clear hx
  go_enter Tryz.func77,Tryz.ntmps77
  go_wp2
  refine bodyPost_ret (v:= .tuple #[.agg #[.slice none 0 0, .slice none 0 0], .int .i64 8]) (by simp[results,Tryz.results77,go_sem]) rfl (ReadPost.err ?_ He.out (by decide))
  exact bel
 ·have Hc0:Hid (∀x,cJ ps=x→x≠0→bK ps=x):=Lib.hid (fun x h h0=>by unfold bK;rw[if_neg (by omega),if_pos (by rw[h];exact h0),h])
  have Hc1:Hid (cJ ps=0→bx ps=false→bK ps=14):=Lib.hid (fun h h1=>by unfold bK;rw[if_neg (by omega),if_neg (by simp[h]),if_pos h1])
  have Hc2:Hid (cJ ps=0→bx ps=true→fh ps (aS ps)=false→bK ps=13):=Lib.hid (fun h h1 h2=>by unfold bK;rw[if_neg (by omega),if_neg (by simp[h]),if_neg (by simp[h1]),if_pos h2])
  have Hc3:Hid (cJ ps=0→bx ps=true→fh ps (aS ps)=true→kT (aS ps)=false→bK ps=2):=Lib.hid (fun h h1 h2 h3=>by unfold bK;rw[if_neg (by omega),if_neg (by simp[h]),if_neg (by simp[h1]),if_neg (by simp[h2]),if_pos h3])
  have Hc4:Hid (cJ ps=0→bx ps=true→fh ps (aS ps)=true→kT (aS ps)=true→bK ps=0):=Lib.hid (fun h h1 h2 h3=>by unfold bK;rw[if_neg (by omega),if_neg (by simp[h]),if_neg (by simp[h1]),if_neg (by simp[h2]),if_neg (by simp[h3])])
  have Hhit:=Lib.hid (nV ps)
  have Hnone:=Lib.hid (iQ ps)
  go_enter Tryz.func77,Tryz.ntmps77
  go_wp2
  go_loopw [16] (fun i wr=>∃k:Nat,k≤n∧i= .int .i64 k∧Below w.heap.size w wr∧Hid (wr.heap[w.heap.size]? =some (.cells #[.slice a n cc] 68 (0,0)))∧Hid (wr.heap[w.heap.size+1]? =some (.cells #[.slice none 0 0, .slice none 0 0] 114 (0,0)))∧Hid (∀i (h:i<ps.length),i<k→bP ps[i]=0)) (fun i _=>n-(intOf i).toNat)
  case atStart=>exact⟨0,by omega,rfl,bel,Lib.hid ((aB (by simp)).trans (ai rfl)),Lib.hid (ai (by simp)),Lib.hid (fun i _ h=>by omega)⟩
  case round=>
   obtain⟨k,hk,rfl,hb,HB,HC,Hz⟩:=hrel
   have zC:=ah HC.out
   have r0:wr.cell? ⟨w.heap.size+1,0,none⟩=some (.slice none 0 0):=(ag HC.out 0).trans rfl
   have r1:wr.cell? ⟨w.heap.size+1,1,none⟩=some (.slice none 0 0):=(ag HC.out 1).trans rfl
   by_cases hlt:k<n
   ·obtain⟨b,off,rfl,hi⟩:=hx (by omega)
    obtain⟨c0,c1,c2,c3⟩:=(hi.below hb) k (by omega)
    have Hhk:=Lib.hid (Hhit.out k (by omega) Hz.out)
    obtain⟨p,Hp⟩:∃p,Hid (ps[k]=p):=⟨_,Lib.hid rfl⟩
    rw[Hp.out]at c0 c1 c2 c3 Hhk
    have hs:=fun W=>Lib.hid (lO p.1 p.2.1 p.2.2.1 p.2.2.2 W)
    have Hpe:Hid (bP (p.1,p.2.1,p.2.2.1,p.2.2.2)=bP p):=Lib.hid rfl
    rw[Hpe.out]at hs
    clear hx hi
    by_cases hpe:bP p=0
    ·rw[hpe]at hs
     have He:=Lib.hid hpe
     clear hpe
     go_wp2_with fail
     refine((hs _).out).mono ?_
     rintro e w1 ⟨rfl,hb1⟩
     clear hs
     go_wp2
     go_roundw
     case rel=>exact⟨k+1,by omega,by go_num,fB hb (fB bel hb1),Lib.hid ((hb1.block _ (by simp;omega)).trans ((aB (by omega)).trans HB.out)),Lib.hid ((hb1.block _ (by simp;omega)).trans ((aB zC).trans HC.out)),Lib.hid (fun i hi hik=>by
      by_cases e:i=k
      ·subst e;rw[Hp.out];exact He.out
      ·exact Hz.out i hi (by omega))⟩
     case measure=>simp[intOf];omega
    ·have Hce:=Lib.hid (Hc0.out _ (Hhk.out hpe) hpe)
     have hne:(bP p !=0)=true:=by simpa using hpe
     go_wp2_with fail
     refine((hs _).out).mono ?_
     rintro e w1 ⟨rfl,hb1⟩
     have HC1:w1.heap[w.heap.size+1]? =some (.cells #[.slice none 0 0, .slice none 0 0] 114 (0,0)):=(hb1.block _ (by simp;omega)).trans ((aB zC).trans HC.out)
     have q0:w1.cell? ⟨w.heap.size+1,0,none⟩=some (.slice none 0 0):=(ag HC1 0).trans rfl
     have q1:w1.cell? ⟨w.heap.size+1,1,none⟩=some (.slice none 0 0):=(ag HC1 1).trans rfl
     have f0:=aC HC1
     have hbw1:Below w.heap.size w w1:=fB hb (fB bel hb1)
     clear hs HC1
     generalize bP p=pe at*
     go_wp2
     refine bodyPost_ret (v:= .tuple #[.agg #[.slice none 0 0, .slice none 0 0], .int .i64 pe]) (by simp[results,Tryz.results77,go_sem,q0,q1]) rfl (ReadPost.err ?_ Hce.out hpe)
     exact(hbw1.setCell (by simp) _).setCell (by simp) _
   ·obtain rfl:k=n:=by omega
    have hall:∀i (h:i<ps.length),bP ps[i]=0:=fun i hi=>Hz.out i hi (by omega)
    have HF:=Lib.hid (Hnone.out hall)
    have Hok0:Hid (∀p∈ps,cI p):=Lib.hid (fun p hp=>by obtain⟨i,hi,rfl⟩:=List.getElem_of_mem hp;exact iR _ (hall i hi))
    have Hok:Hid (∀p∈ps,bI p):=Lib.hid (fun p hp=>(Hok0.out p hp).1)
    have Hcok:=Lib.hid (ml ps Hok.out)
    have Hclen:=Lib.hid (kV ps (by omega))
    have b0:wr.cell? ⟨w.heap.size,0,none⟩=some (.slice a k cc):=(ag HB.out 0).trans rfl
    clear hall hx
    have hbd:=fun W hW=>Lib.hid (pp ps (.slice a k cc) W Hok.out (by omega) hW)
    cases hbb:bx ps with
    |false=>
     rw[hbb]at hbd
     have He:=Lib.hid (Hc1.out HF.out hbb)
     clear hbb
     go_wp2_with fail
     refine((hbd _ (HPV.out.below hb)).out).mono ?_
     rintro e w1 ⟨rfl,hb1⟩
     have HC1:w1.heap[w.heap.size+1]? =some (.cells #[.slice none 0 0, .slice none 0 0] 114 (0,0)):=(hb1.block _ zC).trans HC.out
     have q0:w1.cell? ⟨w.heap.size+1,0,none⟩=some (.slice none 0 0):=(ag HC1 0).trans rfl
     have q1:w1.cell? ⟨w.heap.size+1,1,none⟩=some (.slice none 0 0):=(ag HC1 1).trans rfl
     have f0:=aC HC1
     have hbw1:Below w.heap.size w w1:=fB hb hb1
     clear hbd HC1
     go_wp2
     refine bodyPost_ret (v:= .tuple #[.agg #[.slice none 0 0, .slice none 0 0], .int .i64 14]) (by simp[results,Tryz.results77,go_sem,q0,q1]) rfl (ReadPost.err ?_ He.out (by decide))
     exact(hbw1.setCell (by simp) _).setCell (by simp) _
    |true=>
     rw[hbb]at hbd
     have HBB:=Lib.hid hbb
     clear hbb
     go_wp2_with fail
     refine((hbd _ (HPV.out.below hb)).out).mono ?_
     rintro e w1 ⟨rfl,hb1⟩
     have HC1:Hid (w1.heap[w.heap.size+1]? =some (.cells #[.slice none 0 0, .slice none 0 0] 114 (0,0))):=Lib.hid ((hb1.block _ zC).trans HC.out)
     have HB1:Hid (w1.heap[w.heap.size]? =some (.cells #[.slice a k cc] 68 (0,0))):=Lib.hid ((hb1.block _ (by omega)).trans HB.out)
     have hbw1:Below w.heap.size w w1:=fB hb hb1
     have b1:w1.cell? ⟨w.heap.size,0,none⟩=some (.slice a k cc):=(ag HB1.out 0).trans rfl
     have zC1:=ah HC1.out
     clear hbd HC HB b0 r0 r1 hb hb1 zC
     go_wp2_with fail
     refine(qQ ps (.slice a k cc) w1 Hok.out (by omega) (HPV.out.below hbw1)).mono ?_
     rintro e w2 ⟨cv,rfl,hb2,hown2⟩
     have HQ:Hid (w2.ownsRow w.heap.size 131 4 cv (aS ps).length ((aS ps).flatMap aH)):=Lib.hid (AY hown2 (by have:=hbw1.size;omega))
     have HC2:Hid (w2.heap[w.heap.size+1]? =some (.cells #[.slice none 0 0, .slice none 0 0] 114 (0,0))):=Lib.hid ((hb2.block _ zC1).trans HC1.out)
     have hbw2:Below w.heap.size w w2:=fB hbw1 hb2
     have zC2:=ah HC2.out
     have Hcvs:∃a m c,cv= .slice a m c:=by obtain⟨a,m,c,h,_⟩:=dV HQ.out;exact⟨a,m,c,h⟩
     obtain⟨ca,cm,cc2,rfl⟩:=Hcvs
     clear hown2 HC1 HB1 hbw1 b1 zC1 hb2
     obtain⟨W,HW⟩:∃W,Hid (w2.alloc (.cells #[.slice a k cc, .slice ca cm cc2] 114)=W):=⟨_,Lib.hid rfl⟩
     have hbW:Below w2.heap.size w2 W:=by rw[←HW.out];exact bel
     have hs:=Lib.hid (pk ps (aS ps) (.slice a k cc) (.slice ca cm cc2) W Hok.out (fun c hc=>(Hcok.out c hc).1) (by omega) (by have:=Hclen.out;omega) ((HPV.out.below hbw2).below hbW) (dV (au HQ.out hbW)))
     rw[←HW.out]at hs
     go_wp2_with fail
     refine(hs.out).mono ?_
     rintro e w3 ⟨rfl,hb3⟩
     have HC3:Hid (w3.heap[w.heap.size+1]? =some (.cells #[.slice none 0 0, .slice none 0 0] 114 (0,0))):=Lib.hid ((hb3.block _ (by simp;omega)).trans ((aB zC2).trans HC2.out))
     have HD3:Hid (w3.heap[w2.heap.size]? =some (.cells #[.slice a k cc, .slice ca cm cc2] 114 (0,0))):=Lib.hid ((hb3.block _ (by simp)).trans (ai rfl))
     have hbw3:Below w2.heap.size w2 w3:=fB bel hb3
     have hbw3':Below w.heap.size w w3:=fB hbw2 hbw3
     have HQ3:=Lib.hid (au HQ.out hbw3)
     have q0:w3.cell? ⟨w.heap.size+1,0,none⟩=some (.slice none 0 0):=(ag HC3.out 0).trans rfl
     have q1:w3.cell? ⟨w.heap.size+1,1,none⟩=some (.slice none 0 0):=(ag HC3.out 1).trans rfl
     have f0:=aC HC3.out
     clear hs hbW HW HC2 hb3 hbw2 zC2 HQ hbw3
     cases hsb:fh ps (aS ps)with
     |false=>
      have He:=Lib.hid (Hc2.out HF.out HBB.out hsb)
      clear hsb
      go_wp2
      refine bodyPost_ret (v:= .tuple #[.agg #[.slice none 0 0, .slice none 0 0], .int .i64 13]) (by simp[results,Tryz.results77,go_sem,q0,q1]) rfl (ReadPost.err ?_ He.out (by decide))
      exact(hbw3'.setCell (by simp) _).setCell (by simp) _
     |true=>
      have HSB:=Lib.hid hsb
      clear hsb
      have d0:w3.cell? ⟨w2.heap.size,0,none⟩=some (.slice a k cc):=(ag HD3.out 0).trans rfl
      have d1:w3.cell? ⟨w2.heap.size,1,none⟩=some (.slice ca cm cc2):=(ag HD3.out 1).trans rfl
      have hcf:=Lib.hid (fo (.slice ca cm cc2) (aS ps) (fun c=> !lw c) _ _ w3 (dV HQ3.out) (by have:=Hclen.out;omega) Jm (fun c hc=>sY c w3 (Hcok.out c hc).1))
      have hany:((aS ps).any fun c=> !lw c)= !kT (aS ps):=by simp[kT]
      rw[hany]at hcf
      clear hany
      cases hrb:kT (aS ps)with
      |false=>
       have He:=Lib.hid (Hc3.out HF.out HBB.out HSB.out hrb)
       rw[hrb]at hcf
       clear hrb
       go_wp2_with fail
       refine(hcf.out).mono ?_
       rintro e w4 ⟨rfl,hb4⟩
       have HC4:=(hb4.block _ (ah HC3.out)).trans HC3.out
       have s0:w4.cell? ⟨w.heap.size+1,0,none⟩=some (.slice none 0 0):=(ag HC4 0).trans rfl
       have s1:w4.cell? ⟨w.heap.size+1,1,none⟩=some (.slice none 0 0):=(ag HC4 1).trans rfl
       have f4:=aC HC4
       clear HC4 q0 q1 f0 d0 d1 hcf
       go_wp2
       refine bodyPost_ret (v:= .tuple #[.agg #[.slice none 0 0, .slice none 0 0], .int .i64 2]) (by simp[results,Tryz.results77,go_sem,s0,s1]) rfl (ReadPost.err ?_ He.out (by decide))
       exact((fB hbw3' hb4).setCell (by simp) _).setCell (by simp) _
      |true=>
       have He:=Lib.hid (Hc4.out HF.out HBB.out HSB.out hrb)
       rw[hrb]at hcf
       clear hrb
       go_wp2_with fail
       refine(hcf.out).mono ?_
       rintro e w4 ⟨rfl,hb4⟩
       have HC4:=Lib.hid ((hb4.block _ (ah HC3.out)).trans HC3.out)
       have HD4:=(hb4.block _ (ah HD3.out)).trans HD3.out
       have s0:w4.cell? ⟨w.heap.size+1,0,none⟩=some (.slice none 0 0):=(ag HC4.out 0).trans rfl
       have s1:w4.cell? ⟨w.heap.size+1,1,none⟩=some (.slice none 0 0):=(ag HC4.out 1).trans rfl
       have t0:w4.cell? ⟨w2.heap.size,0,none⟩=some (.slice a k cc):=(ag HD4 0).trans rfl
       have t1:w4.cell? ⟨w2.heap.size,1,none⟩=some (.slice ca cm cc2):=(ag HD4 1).trans rfl
       have f4:=aC HC4.out
       have HQ4:=Lib.hid (au HQ3.out hb4)
       have hne:=Lib.hid (fun e=>aG HQ4.out HC4.out (by decide) e.symm:some (w.heap.size+1)≠(Value.slice ca cm cc2).ownBlock)
       clear HD4 q0 q1 f0 d0 d1 hcf
       go_wp2
       refine bodyPost_ret (v:= .tuple #[.agg #[.slice a k cc, .slice ca cm cc2], .int .i64 0]) (by simp[results,Tryz.results77,go_sem,s0,s1]) rfl ⟨((fB hbw3' hb4).setCell (by simp) _).setCell (by simp) _, .inl ⟨He.out,_,rfl, ?_⟩⟩
       exact aF (aF HQ4.out _ _ hne.out) _ _ hne.out
end
section
open Go.RowKit
def slk (p:Q4) (x:Q3) (W:Int):Int:=p.2.2.2*W-bj (nrm p) x
theorem nl {α:Type} (s t:α→Int):∀ps:List α,(∃p∈ps,0<t p)→∃p∈ps,0<t p∧∀q∈ps,0<t q→s p*t q≤s q*t p
 | [],h=>by obtain⟨p,hp,_⟩:=h;cases hp
 |a::l,h=>by
  by_cases hl:∃p∈l,0<t p
  ·obtain⟨p,hp,ht,hm⟩:=nl s t l hl
   by_cases ha:0<t a∧s a*t p≤s p*t a
   ·refine⟨a,by simp,ha.1,fun q hq h0=> ?_⟩
    rcases List.mem_cons.1 hq with rfl|hq
    ·exact Int.le_refl _
    ·have h1:=hm q hq h0
     have h2:s a*t p*t q≤s p*t a*t q:=Int.mul_le_mul_of_nonneg_right ha.2 (by omega)
     have h3:s p*t q*t a≤s q*t p*t a:=Int.mul_le_mul_of_nonneg_right h1 (by omega)
     have e1:s a*t p*t q=s a*t q*t p:=by grind
     have e2:s p*t a*t q=s p*t q*t a:=by grind
     have e3:s q*t p*t a=s q*t a*t p:=by grind
     exact Int.le_of_mul_le_mul_right (by omega:s a*t q*t p≤s q*t a*t p) ht
   ·refine⟨p,by simp[hp],ht,fun q hq h0=> ?_⟩
    rcases List.mem_cons.1 hq with rfl|hq
    ·have:¬(s q*t p≤s p*t q):=fun h=>ha ⟨h0,h⟩
     omega
    ·exact hm q hq h0
  ·obtain⟨p,hp,ht⟩:=h
   rcases List.mem_cons.1 hp with rfl|hp
   ·refine⟨p,by simp,ht,fun q hq h0=> ?_⟩
    rcases List.mem_cons.1 hq with rfl|hq
    ·exact Int.le_refl _
    ·exact absurd ⟨q,hq,h0⟩ hl
   ·exact absurd ⟨p,hp,ht⟩ hl
def mv (x d:Q3) (t s:Int):Q3:=(t*x.1+s*d.1,t*x.2.1+s*d.2.1,t*x.2.2+s*d.2.2)
theorem vq (n x d:Q3) (t s:Int):bj n (mv x d t s)=t*bj n x+s*bj n d:=by unfold bj mv;grind
theorem rh (q:Q4) (x d:Q3) (W t s:Int):slk q (mv x d t s) (t*W)=t*slk q x W-s*bj (nrm q) d:=by unfold slk;rw[vq];grind
theorem yV (ps:List Q4) (x d:Q3) (W:Int) (hW:0<W) (hin:∀p∈ps,0≤slk p x W) (hd:∃p∈ps,0<bj (nrm p) d):
  ∃p∈ps,∃x' W',0<W'∧(∀q∈ps,0≤slk q x' W')∧slk p x' W'=0∧0<bj (nrm p) d∧(∀q,bj (nrm q) d=0→slk q x W=0→slk q x' W'=0)∧∀f,bj f d≤0→bj f x'*W≤bj f x*W':=by
 obtain⟨p,hp,ht,hm⟩:=nl (fun p=>slk p x W) (fun p=>bj (nrm p) d) ps hd
 have hs:=hin p hp
 refine⟨p,hp,mv x d (bj (nrm p) d) (slk p x W),bj (nrm p) d*W,Int.mul_pos ht hW,fun q hq=> ?_, ?_,ht,fun q h0 h1=> ?_,fun f hf=> ?_⟩
 ·rw[rh]
  by_cases h0:0<bj (nrm q) d
  ·have:=hm q hq h0
   have e:bj (nrm p) d*slk q x W=slk q x W*bj (nrm p) d:=Int.mul_comm _ _
   omega
  ·have h1:0≤bj (nrm p) d*slk q x W:=Int.mul_nonneg (by omega) (hin q hq)
   have h2:0≤slk p x W*(-(bj (nrm q) d)):=Int.mul_nonneg hs (by omega)
   rw[Int.mul_neg]at h2
   omega
 ·rw[rh,Int.mul_comm];omega
 ·rw[rh,h0,h1];omega
 ·rw[vq,Int.add_mul]
  have h2:0≤slk p x W*(-(bj f d))*W:=Int.mul_nonneg (Int.mul_nonneg hs (by omega)) (by omega)
  have e:slk p x W*(-(bj f d))*W= -(slk p x W*bj f d*W):=by grind
  have e2:bj (nrm p) d*bj f x*W=bj f x*(bj (nrm p) d*W):=by grind
  omega
theorem vr {a b c W V U:Int} (hV:0<V) (hW:0<W) (hU:0<U) (h1:b*W≤a*V) (h2:c*V≤b*U):c*W≤a*U:=by
 have h3:b*W*U≤a*V*U:=Int.mul_le_mul_of_nonneg_right h1 (by omega)
 have h4:c*V*W≤b*U*W:=Int.mul_le_mul_of_nonneg_right h2 (by omega)
 have e1:b*W*U=b*U*W:=by grind
 have e2:a*V*U=a*U*V:=by grind
 have e3:c*V*W=c*W*V:=by grind
 exact Int.le_of_mul_le_mul_right (by omega:c*W*V≤a*U*V) hV
theorem yW (ps:List Q4) (hB:∀d:Q3,d≠(0,0,0)→∃p∈ps,0<bj (nrm p) d) (f x:Q3) (W:Int) (hW:0<W) (hin:∀p∈ps,0≤slk p x W):
  ∃p1∈ps,∃p2∈ps,∃p3∈ps,∃x' W',0<W'∧(∀q∈ps,0≤slk q x' W')∧slk p1 x' W'=0∧slk p2 x' W'=0∧slk p3 x' W'=0∧bN p1 p2 p3≠0∧bj f x'*W≤bj f x*W':=by
 have sg:∀d:Q3,d≠(0,0,0)→∃s:Int,(s=1∨s= -1)∧(s*d.1,s*d.2.1,s*d.2.2)≠((0,0,0):Q3)∧bj f (s*d.1,s*d.2.1,s*d.2.2)≤0:=fun d hd=>by
  by_cases h:bj f d≤0
  ·obtain⟨d1,d2,d3⟩:=d
   refine⟨1,Or.inl rfl, ?_, ?_⟩
   ·simp only[Int.one_mul];exact hd
   ·simp only[Int.one_mul];exact h
  ·refine⟨-1,Or.inr rfl, ?_, ?_⟩
   ·intro e
    apply hd
    simp only[Prod.mk.injEq]at e
    obtain⟨d1,d2,d3⟩:=d
    simp only[Prod.mk.injEq]at e ⊢
    omega
   ·have:bj f (-1*d.1, -1*d.2.1, -1*d.2.2)= -(bj f d):=by unfold bj;grind
    rw[this];omega
 obtain⟨s1,hs1,hn1,hf1⟩:=sg (1,0,0) (by simp)
 obtain⟨p1,hp1,x1,W1,hW1,hin1,z1,t1,_,l1⟩:=yV ps x _ W hW hin (hB _ hn1)
 have q1:p1.1≠0:=by
  intro e
  simp only[bj,nrm,e]at t1
  omega
 obtain⟨s2,hs2,hn2,hf2⟩:=sg (p1.2.1, -p1.1,0) (by simp;omega)
 obtain⟨p2,hp2,x2,W2,hW2,hin2,z2,t2,k2,l2⟩:=yV ps x1 _ W1 hW1 hin1 (hB _ hn2)
 have q2:p1.1*p2.2.1-p1.2.1*p2.1≠0:=by
  intro e
  have:bj (nrm p2) (s2*p1.2.1,s2* -p1.1,s2*0)= -(s2*(p1.1*p2.2.1-p1.2.1*p2.1)):=by unfold bj nrm;grind
  simp only at t2
  rw[this,e]at t2
  omega
 obtain⟨s3,hs3,hn3,hf3⟩:=sg (aN (nrm p1) (nrm p2)) (by
  intro e
  have:(aN (nrm p1) (nrm p2)).2.2=0:=by rw[e]
  exact q2 this)
 obtain⟨p3,hp3,x3,W3,hW3,hin3,z3,t3,k3,l3⟩:=yV ps x2 _ W2 hW2 hin2 (hB _ hn3)
 have y1:slk p1 x2 W2=0:=k2 p1 (by unfold bj nrm;grind) z1
 refine⟨p1,hp1,p2,hp2,p3,hp3,x3,W3,hW3,hin3,k3 p1 (by unfold bj aN nrm;grind) y1,k3 p2 (by unfold bj aN nrm;grind) z2,z3, ?_, ?_⟩
 ·intro e
  have:bj (nrm p3) (s3*(aN (nrm p1) (nrm p2)).1,s3*(aN (nrm p1) (nrm p2)).2.1,s3*(aN (nrm p1) (nrm p2)).2.2)=s3*bN p1 p2 p3:=by unfold bN bj;grind
  rw[this,e]at t3
  omega
 ·exact vr hW2 hW hW3 (vr hW1 hW hW2 (l1 f hf1) (l2 f hf2)) (l3 f hf3)
def SameAt (c:Q4) (x:Q3) (W:Int):Prop:=0<c.2.2.2∧c.2.2.2*x.1=W*c.1∧c.2.2.2*x.2.1=W*c.2.1∧c.2.2.2*x.2.2=W*c.2.2.1
def xyz (c:Q4):Q3:=(c.1,c.2.1,c.2.2.1)
theorem SameAt.slk {c:Q4} {x:Q3} {W:Int} (h:SameAt c x W) (q:Q4):slk q (xyz c) c.2.2.2*W=slk q x W*c.2.2.2:=by
 obtain⟨_,h1,h2,h3⟩:=h
 unfold Go.Proofs.YtleamcmbhioedaaGreatDoor.slk bj xyz nrm
 grind
theorem xB (a b:Int):sgn a b=sgn 0 (b-a):=by
 unfold sgn
 by_cases h1:a<b
 ·rw[if_pos h1,if_pos (by omega)]
 ·rw[if_neg h1,if_neg (by omega:¬0<b-a)]
  by_cases h2:b<a
  ·rw[if_pos h2,if_pos (by omega)]
  ·rw[if_neg h2,if_neg (by omega:¬b-a<0)]
theorem mt (p c:Q4):sd p c=sgn 0 (slk p (xyz c) c.2.2.2):=by
 unfold sd uA
 rw[xB]
 rfl
theorem mu {a W:Int} (hW:0<W) (h:0<a*W):0<a:=by
 rcases Int.lt_or_le 0 a with h1|h1
 ·exact h1
 ·have:0≤(-a)*W:=Int.mul_nonneg (by omega) (by omega)
  rw[Int.neg_mul]at this
  omega
theorem mT {a W:Int} (hW:0<W) (h:0≤a*W):0≤a:=by
 rcases Int.lt_or_le a 0 with h1|h1
 ·have:0<(-a)*W:=Int.mul_pos (by omega) (by omega)
  rw[Int.neg_mul]at this
  omega
 ·exact h1
theorem SameAt.pos {c:Q4} {x:Q3} {W:Int} (h:SameAt c x W) (hW:0<W) (q:Q4) (hs:0<Go.Proofs.YtleamcmbhioedaaGreatDoor.slk q x W):sd q c<0:=by
 have h1:0<Go.Proofs.YtleamcmbhioedaaGreatDoor.slk q x W*c.2.2.2:=Int.mul_pos hs h.1
 rw[←h.slk q]at h1
 have:=mu hW h1
 rw[mt,dp]
 exact this
theorem SameAt.nonneg {c:Q4} {x:Q3} {W:Int} (h:SameAt c x W) (hW:0<W) (q:Q4) (hs:0≤Go.Proofs.YtleamcmbhioedaaGreatDoor.slk q x W):¬0<sd q c:=by
 have h1:0≤Go.Proofs.YtleamcmbhioedaaGreatDoor.slk q x W*c.2.2.2:=Int.mul_nonneg hs (Int.le_of_lt h.1)
 rw[←h.slk q]at h1
 have:=mT hW h1
 rw[mt,kS]
 omega
theorem yX (a b c:Q3) (x:Q3):bj (aN a b) c*x.1=(fP (bj a x) (bj b x) (bj c x) (aN b c) (aN c a) (aN a b)).1∧
  bj (aN a b) c*x.2.1=(fP (bj a x) (bj b x) (bj c x) (aN b c) (aN c a) (aN a b)).2.1∧
  bj (aN a b) c*x.2.2=(fP (bj a x) (bj b x) (bj c x) (aN b c) (aN c a) (aN a b)).2.2:=by
 refine⟨?_, ?_, ?_⟩<;>(unfold fP bj aN;grind)
theorem vt (W d0 d1 d2:Int) (a b c:Q3):(fP (d0*W) (d1*W) (d2*W) a b c).1=W*(fP d0 d1 d2 a b c).1∧(fP (d0*W) (d1*W) (d2*W) a b c).2.1=W*(fP d0 d1 d2 a b c).2.1∧(fP (d0*W) (d1*W) (d2*W) a b c).2.2=W*(fP d0 d1 d2 a b c).2.2:=by
 refine⟨?_, ?_, ?_⟩<;>(unfold fP;grind)
theorem ri (p q r:Q4) (x:Q3) (W:Int) (h0:bN p q r≠0) (hp:slk p x W=0) (hq:slk q x W=0) (hr:slk r x W=0):SameAt (gk p q r (bN p q r)) x W:=by
 obtain⟨c1,c2,c3⟩:=yX (nrm p) (nrm q) (nrm r) x
 have ep:bj (nrm p) x=p.2.2.2*W:=by unfold slk at hp;omega
 have eq:bj (nrm q) x=q.2.2.2*W:=by unfold slk at hq;omega
 have er:bj (nrm r) x=r.2.2.2*W:=by unfold slk at hr;omega
 rw[ep,eq,er]at c1 c2 c3
 obtain⟨m1,m2,m3⟩:=vt W p.2.2.2 q.2.2.2 r.2.2.2 (aN (nrm q) (nrm r)) (aN (nrm r) (nrm p)) (aN (nrm p) (nrm q))
 rw[m1]at c1
 rw[m2]at c2
 rw[m3]at c3
 unfold gk
 simp only
 generalize fP p.2.2.2 q.2.2.2 r.2.2.2 (aN (nrm q) (nrm r)) (aN (nrm r) (nrm p)) (aN (nrm p) (nrm q))=v at*
 obtain⟨g,hg,e1,e2,e3,e4,hpos⟩:=AZ v.1 v.2.1 v.2.2 (bN p q r) h0
 change bN p q r*x.1=_ at c1
 change bN p q r*x.2.1=_ at c2
 change bN p q r*x.2.2=_ at c3
 generalize eu v.1 v.2.1 v.2.2 (bN p q r)=c at*
 generalize bN p q r=den at*
 refine⟨hpos, ?_, ?_, ?_⟩
 ·refine Int.eq_of_mul_eq_mul_left hg ?_
  rw[e4,e1]at c1
  grind
 ·refine Int.eq_of_mul_eq_mul_left hg ?_
  rw[e4,e2]at c2
  grind
 ·refine Int.eq_of_mul_eq_mul_left hg ?_
  rw[e4,e3]at c3
  grind
theorem xC (ps:List Q4) (i k m:Nat) (hi:i<ps.length) (hk:k<i) (hm:m<k) (h0:bN (bm ps i) (bm ps k) (bm ps m)≠0)
  (ha:bG ps (gk (bm ps i) (bm ps k) (bm ps m) (bN (bm ps i) (bm ps k) (bm ps m)))=true):
  gk (bm ps i) (bm ps k) (bm ps m) (bN (bm ps i) (bm ps k) (bm ps m))∈raw ps ps.length:=by
 unfold raw gJ gI
 simp only[List.mem_flatMap,List.mem_range]
 exact⟨i,hi,k,hk,m,hm,by unfold jo;rw[if_neg h0,if_pos ha];simp⟩
theorem rj {ps:List Q4} {c:Q4} {x:Q3} {W:Int} (h:SameAt c x W) (hW:0<W) (hin:∀q∈ps,0≤slk q x W):bG ps c=true:=by
 unfold bG
 simp only[Bool.not_eq_true',List.any_eq_false,decide_eq_true_eq]
 exact fun q hq=>h.nonneg hW q (hin q hq)
theorem jA {ps:List Q4} {p:Q4} (h:p∈ps):∃i,i<ps.length∧bm ps i=p:=by
 obtain⟨i,hi,rfl⟩:=List.getElem_of_mem h
 exact⟨i,hi,by simp[bm,List.getD,hi]⟩
theorem pl (ps:List Q4) (i k m:Nat) (hi:i<ps.length) (hk:k<i) (hm:m<k) (x:Q3) (W:Int) (hW:0<W) (hin:∀q∈ps,0≤slk q x W)
  (zi:slk (bm ps i) x W=0) (zk:slk (bm ps k) x W=0) (zm:slk (bm ps m) x W=0) (h0:bN (bm ps i) (bm ps k) (bm ps m)≠0):∃c∈raw ps ps.length,SameAt c x W:=by
 have h:=ri _ _ _ x W h0 zi zk zm
 exact⟨_,xC ps i k m hi hk hm h0 (rj h hW hin),h⟩
theorem gC (p q r:Q4):bN q p r= -bN p q r:=by unfold bN bj aN nrm;grind
theorem iH (p q r:Q4):bN p r q= -bN p q r:=by unfold bN bj aN nrm;grind
theorem tq (p r:Q4):bN p p r=0:=by unfold bN bj aN nrm;grind
theorem tr (p r:Q4):bN p r r=0:=by unfold bN bj aN nrm;grind
theorem tt (p r:Q4):bN p r p=0:=by unfold bN bj aN nrm;grind
theorem np (ps:List Q4) (p1 p2 p3:Q4) (h1:p1∈ps) (h2:p2∈ps) (h3:p3∈ps) (x:Q3) (W:Int) (hW:0<W) (hin:∀q∈ps,0≤slk q x W)
  (z1:slk p1 x W=0) (z2:slk p2 x W=0) (z3:slk p3 x W=0) (h0:bN p1 p2 p3≠0):∃c∈raw ps ps.length,SameAt c x W:=by
 obtain⟨i,hi,rfl⟩:=jA h1
 obtain⟨k,hk,rfl⟩:=jA h2
 obtain⟨m,hm,rfl⟩:=jA h3
 have n1:i≠k:=fun e=>h0 (by rw[e,tq])
 have n2:k≠m:=fun e=>h0 (by rw[e,tr])
 have n3:i≠m:=fun e=>h0 (by rw[e,tt])
 rcases Nat.lt_or_gt_of_ne n1 with a|a<;>rcases Nat.lt_or_gt_of_ne n2 with b|b<;>rcases Nat.lt_or_gt_of_ne n3 with c|c
 ·exact pl ps m k i hm b a x W hW hin z3 z2 z1 (by rw[gC,iH,gC];omega)
 ·omega
 ·exact pl ps k m i hk b c x W hW hin z2 z3 z1 (by rw[iH,gC];omega)
 ·exact pl ps k i m hk a c x W hW hin z2 z1 z3 (by rw[gC];omega)
 ·exact pl ps m i k hm c a x W hW hin z3 z1 z2 (by rw[gC,iH];omega)
 ·exact pl ps i m k hi c b x W hW hin z1 z3 z2 (by rw[iH];omega)
 ·omega
 ·exact pl ps i k m hi a b x W hW hin z1 z2 z3 h0
theorem od (ps:List Q4) (hB:∀d:Q3,d≠(0,0,0)→∃p∈ps,0<bj (nrm p) d) (x:Q3) (W:Int) (hW:0<W) (hin:∀p∈ps,0<slk p x W) (p:Q4) (hp:p∈ps):
  ∃c∈raw ps ps.length,sd p c<0:=by
 obtain⟨p1,h1,p2,h2,p3,h3,x',W',hW',hin',z1,z2,z3,h0,hf⟩:=yW ps hB (nrm p) x W hW (fun q hq=>Int.le_of_lt (hin q hq))
 obtain⟨c,hc,hs⟩:=np ps p1 p2 p3 h1 h2 h3 x' W' hW' hin' z1 z2 z3 h0
 refine⟨c,hc,hs.pos hW' p ?_⟩
 have h4:=hin p hp
 have h5:0<slk p x W*W':=Int.mul_pos h4 hW'
 refine mu hW (a:=slk p x' W') ?_
 unfold slk at h5 ⊢
 have e1:(p.2.2.2*W-bj (nrm p) x)*W'=p.2.2.2*W*W'-bj (nrm p) x*W':=Int.sub_mul _ _ _
 have e2:(p.2.2.2*W'-bj (nrm p) x')*W=p.2.2.2*W*W'-bj (nrm p) x'*W:=by grind
 omega
end
section
open Go.RowKit Go.Shelf
attribute [local go_sem] Ext.cell Ext.frozen
def axP (ax:Nat) (s d:Int):Q4:=(if ax=0 then s else 0,if ax=1 then s else 0,if ax=2 then s else 0,d)
end
end Go.Proofs.YtleamcmbhioedaaGreatDoor
