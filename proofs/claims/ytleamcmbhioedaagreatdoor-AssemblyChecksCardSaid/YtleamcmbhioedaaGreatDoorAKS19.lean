/- texts: W5. -/
import Derived.Test.YtleamcmbhioedaaGreatDoorAKS18
namespace Go.Proofs.YtleamcmbhioedaaGreatDoor
set_option maxHeartbeats 8000000
set_option linter.unusedSimpArgs false
set_option linter.unusedVariables false
section
open Go.RowKit Go.Shelf
set_option maxRecDepth 100000
attribute [local go_sem] Ext.cell Ext.frozen
theorem rr (p q r:Q4) (w:World) (hp:bI p) (hq:bI q) (hr:bI r):
  Calls Tryz.prog 64 #[v4 p,v4 q,v4 r] w (Ret w (.tuple #[v4 (lD p q r), .bool (okB p q r)])):=by
 unfold lD okB
 by_cases h:bN p q r=0
 ·rw[if_pos h,h]
  exact pJ p q r w hp hq hr h
 ·rw[if_neg h,show(bN p q r !=0)=true by simpa using h]
  exact pL p q r w hp hq hr h
def pN (l:List Q4):List Q4:=l.foldl NW []
theorem tC (l:List Q4) (c:Q4):pN (l++[c])=NW (pN l) c:=by simp[pN]
theorem pO (l:List Q4):(pN l).length≤l.length:=by
 have key:∀(l out:List Q4),(l.foldl NW out).length≤out.length+l.length:=by
  intro l
  induction l with
  |nil=>intro out;simp
  |cons c l ih=>
   intro out
   rw[List.foldl_cons]
   have:=ih (NW out c)
   have h2:(NW out c).length≤out.length+1:=by unfold NW;split<;>simp
   simp only[List.length_cons]
   omega
 have:=key l []
 unfold pN
 simpa using this
def fX (ps:List Q4) (i k m:Nat):List Q4:=pN (raw ps i++gJ ps i k++gI ps i k m)
theorem BD (ps:List Q4) (i k:Nat):fX ps i k k=fX ps i (k+1) 0:=by
 unfold fX
 rw[jZ,iz,List.append_nil,List.append_assoc]
theorem BE (ps:List Q4) (i:Nat):fX ps i i 0=fX ps (i+1) 0 0:=by
 unfold fX
 simp only[lS,iz,kd,List.append_nil]
theorem xH (ps:List Q4) (i k m:Nat) (h:okB (bm ps i) (bm ps k) (bm ps m)=false):fX ps i k (m+1)=fX ps i k m:=by
 have h0:bN (bm ps i) (bm ps k) (bm ps m)=0:=by simpa [okB]using h
 unfold fX
 rw[gq]
 unfold jo
 rw[if_pos h0,List.append_nil]
theorem vB (ps:List Q4) (i k m:Nat) (h:okB (bm ps i) (bm ps k) (bm ps m)=true) (ha:bG ps (lD (bm ps i) (bm ps k) (bm ps m))=false):fX ps i k (m+1)=fX ps i k m:=by
 have h0:bN (bm ps i) (bm ps k) (bm ps m)≠0:=by simpa [okB]using h
 unfold lD at ha
 rw[if_neg h0]at ha
 unfold fX
 rw[gq]
 unfold jo
 rw[if_neg h0,ha]
 simp
theorem vC (ps:List Q4) (i k m:Nat) (h:okB (bm ps i) (bm ps k) (bm ps m)=true) (ha:bG ps (lD (bm ps i) (bm ps k) (bm ps m))=true):fX ps i k (m+1)=NW (fX ps i k m) (lD (bm ps i) (bm ps k) (bm ps m)):=by
 have h0:bN (bm ps i) (bm ps k) (bm ps m)≠0:=by simpa [okB]using h
 unfold lD at ha ⊢
 rw[if_neg h0]at ha ⊢
 unfold fX
 rw[gq]
 unfold jo
 rw[if_neg h0,ha,if_pos rfl, ←List.append_assoc,tC]
theorem vD (ps:List Q4) (i k m:Nat) (hi:i≤64) (hk:k≤64) (hm:m≤64):(fX ps i k m).length≤300000:=by
 have h1:=pO (raw ps i++gJ ps i k++gI ps i k m)
 rw[List.length_append,List.length_append]at h1
 have h2:=jp ps i hi
 have h3:=lU ps i k hk
 have h4:=lT ps i k m
 unfold fX
 omega
theorem xI (p q r:Q4) (hp:bI p) (hq:bI q) (hr:bI r) (h:okB p q r=true):fD (lD p q r):=by
 have h0:bN p q r≠0:=by simpa [okB]using h
 unfold lD
 rw[if_neg h0]
 have:=lV p q r hp hq hr
 exact lW p q r _ hp hq hr (by omega) h0
theorem ru {B:Nat} {w0 w:World} {g:Nat} (h:Below B w0 w) (hg:B≤g) (a b c d:Value):Below B w0 (tB w g a b c d):=(((h.setCell hg _).setCell hg _).setCell hg _).setCell hg _
theorem pS (ps:List Q4) (pv:Value) (W:World) (hps:∀p∈ps,bI p) (hl:ps.length≤64) (hpv:Q4s W pv ps):
  Calls Tryz.prog 36 #[pv] W fun e w'=>∃r,e= .returned r∧Below W.heap.size W w'∧w'.ownsRow W.heap.size 131 4 r (cd ps).length ((cd ps).flatMap aH):=by
 obtain⟨i0,hi0,hz0,hz1,hz2⟩:=info_parts kN
 have Hi0:=Lib.hid (And.intro hi0 (And.intro hz0 (And.intro hz1 hz2)))
 clear hi0 hz0 hz1 hz2
 have Hpv:=Lib.hid hpv
 obtain⟨a,n,cc,rfl,hn,_,hx⟩:=hpv
 have HX:Hid (0<n→∃b off,a=some ⟨b,off,none⟩∧Q4At W b off ps):=Lib.hid hx
 have Hok:=fun i (h:i<ps.length)=>Lib.hid (eV hps i h)
 have Hge:=fun i (h:i<ps.length)=>Lib.hid (eN (ps:=ps) i h)
 have HP:=fun i j k (hi:i<ps.length) (hj:j<ps.length) (hk:k<ps.length) W'=>Lib.hid (rr (bm ps i) (bm ps j) (bm ps k) W' (Hok i hi).out (Hok j hj).out (Hok k hk).out)
 have HA:=fun i j k (hi:i<ps.length) (hj:j<ps.length) (hk:k<ps.length) (h:okB (bm ps i) (bm ps j) (bm ps k)=true) W' hb=>Lib.hid (oh ps (lD (bm ps i) (bm ps j) (bm ps k)) _ W' hps (xI _ _ _ (Hok i hi).out (Hok j hj).out (Hok k hk).out h) (by omega) (Hpv.out.below hb))
 have Hno:=fun i k m=>Lib.hid (xH ps i k m)
 have Hbar:=fun i k m=>Lib.hid (vB ps i k m)
 have Hyes:=fun i k m=>Lib.hid (vC ps i k m)
 have Hm:=fun i k=>Lib.hid (BD ps i k)
 have Hk:=fun i=>Lib.hid (BE ps i)
 have Hln:=fun i k m h1 h2 h3=>Lib.hid (vD ps i k m h1 h2 h3)
 have H0:Hid (fX ps 0 0 0=[]):=Lib.hid rfl
 have Hfin:Hid (fX ps n 0 0=cd ps):=Lib.hid (by
  unfold fX cd pN
  rw[kd,iz,List.append_nil,List.append_nil,hn])
 generalize cd ps=res at*
 generalize fX ps=acc at*
 clear hx hps Hok Hpv
 go_enter Tryz.func36,Tryz.ntmps36
 go_wp2
 go_loopw [3,4] (fun s x wr=>∃i:Nat,i≤n∧x= .int .i64 i∧Below W.heap.size W wr∧Hid (wr.ownsRow W.heap.size 131 4 s (acc i 0 0).length ((acc i 0 0).flatMap aH))) (fun _ x _=>n-(intOf x).toNat)
 case atStart=>exact⟨0,by omega,rfl,Below.refl _ _,Lib.hid (by rw[H0.out];exact World.ownsRow_nil _ _ _ _)⟩
 case round=>
  obtain⟨i,hi,rfl,hb,HO⟩:=hrel
  by_cases hlt:i<n
  ·have g1:(i:Int)<(n:Int):=by omega
   have g2:(0:Int)≤(i:Int):=by omega
   have hil:i<ps.length:=by omega
   go_wp2
   go_loopw [3,5] (fun s x wr=>∃k:Nat,k≤i∧x= .int .i64 k∧Below W.heap.size W wr∧Hid (wr.ownsRow W.heap.size 131 4 s (acc i k 0).length ((acc i k 0).flatMap aH))) (fun _ x _=>i-(intOf x).toNat)
   case atStart=>exact⟨0,by omega,rfl,hb,HO⟩
   case round=>
    clear hb HO
    obtain⟨k,hk,rfl,hb,HO⟩:=hrel
    by_cases hlk:k<i
    ·have g3:(k:Int)<(i:Int):=by omega
     have g4:(0:Int)≤(k:Int):=by omega
     have g4':(k:Int)<(n:Int):=by omega
     have hkl:k<ps.length:=by omega
     go_wp2
     go_loopw [3,6] (fun s x wr=>∃m:Nat,m≤k∧x= .int .i64 m∧Below W.heap.size W wr∧Hid (wr.ownsRow W.heap.size 131 4 s (acc i k m).length ((acc i k m).flatMap aH))) (fun _ x _=>k-(intOf x).toNat)
     case atStart=>exact⟨0,by omega,rfl,hb,HO⟩
     case round=>
      clear hb HO
      obtain⟨m,hm,rfl,hb,HO⟩:=hrel
      by_cases hlm:m<k
      ·have g5:(m:Int)<(k:Int):=by omega
       have g6:(0:Int)≤(m:Int):=by omega
       have g6':(m:Int)<(n:Int):=by omega
       have hml:m<ps.length:=by omega
       obtain⟨b,off,rfl,hi4⟩:=HX.out (by omega)
       obtain⟨x0,x1,x2,x3⟩:=(hi4.below hb) i hil
       obtain⟨y0,y1,y2,y3⟩:=(hi4.below hb) k hkl
       obtain⟨z0,z1,z2,z3⟩:=(hi4.below hb) m hml
       rw[(Hge i hil).out]at x0 x1 x2 x3
       rw[(Hge k hkl).out]at y0 y1 y2 y3
       rw[(Hge m hml).out]at z0 z1 z2 z3
       have zx:=World.block_lt_of_cell? wr _ x0
       simp only at zx
       have HPi:=fun W'=>Lib.hid ((HP i k m hil hkl hml W').out)
       have HAi:=fun h W' hb=>Lib.hid ((HA i k m hil hkl hml h W' hb).out)
       have Hno':=Lib.hid ((Hno i k m).out)
       have Hbar':=Lib.hid ((Hbar i k m).out)
       have Hyes':=Lib.hid ((Hyes i k m).out)
       have hln:=(Hln i k m (by omega) (by omega) (by omega)).out
       have HAcc:Hid (∀c,NW (acc i k m) c=if c∈acc i k m then acc i k m else acc i k m++[c]):=Lib.hid (fun c=>rfl)
       clear HP HA Hno Hbar Hyes hi4 HX Hge
       generalize bG ps (lD (bm ps i) (bm ps k) (bm ps m))=al at*
       generalize lD (bm ps i) (bm ps k) (bm ps m)=R at*
       generalize okB (bm ps i) (bm ps k) (bm ps m)=ok at*
       generalize bm ps i=P at*
       generalize bm ps k=Q at*
       generalize bm ps m=S at*
       generalize acc i k m=A at*
       obtain⟨P0,P1,P2,P3⟩:=P
       obtain⟨Q0,Q1,Q2,Q3⟩:=Q
       obtain⟨S0,S1,S2,S3⟩:=S
       obtain⟨R0,R1,R2,R3⟩:=R
       simp only at x0 x1 x2 x3 y0 y1 y2 y3 z0 z1 z2 z3
       go_wp2
       refine lB [15] [0,1,2,3,4,5,6,7,8,9,10,11,12,13,14,15,16] 17 [18] (pick [IsV (.slice (some ⟨b,off,none⟩) n cc),IsV (.int .i64 (i:Int)),IsV (.pointer (some ⟨b,off+i*4,none⟩)),IsV (v4 (P0,P1,P2,P3)),IsV (.slice (some ⟨b,off,none⟩) n cc),IsV (.int .i64 (k:Int)),IsV (.pointer (some ⟨b,off+k*4,none⟩)),IsV (v4 (Q0,Q1,Q2,Q3)),IsV (.slice (some ⟨b,off,none⟩) n cc),IsV (.int .i64 (m:Int)),IsV (.pointer (some ⟨b,off+m*4,none⟩)),IsV (v4 (S0,S1,S2,S3)),IsV (.tuple #[v4 (R0,R1,R2,R3), .bool ok]),IsV (.tuple #[v4 (R0,R1,R2,R3), .bool ok]),IsV (v4 (R0,R1,R2,R3)),IsV (.bool ok),yd wr.heap.size 131 #[.int .i64 0, .int .i64 0, .int .i64 0, .int .i64 0]]) (by kernel_rfl) (by kernel_rfl) (Stabs.pick (by repeat(first|exact Stabs.nil|refine Stabs.cons (by first|exact dj _|exact ar _ _ _) ?_))) ?_
       try go_frame
       refine wgn rfl rfl (by simp) (fun w' hb' hR K hK=> ?_) (fun o0=> ?_)
       ·clear hR
        go_simp
        exact hK _ _ brf rfl
       try go_frame
       refine wgn rfl rfl (by simp) (fun w' hb' hR K hK=> ?_) (fun o1=> ?_)
       ·clear hR
        go_simp
        exact hK _ _ brf rfl
       try go_frame
       refine wgn rfl rfl (by simp) (fun w' hb' hR K hK=> ?_) (fun o2=> ?_)
       ·obtain rfl:o0= .slice (some ⟨b,off,none⟩) n cc:=hR 0 (by kernel_rfl)
        obtain rfl:o1= .int .i64 (i:Int):=hR 1 (by kernel_rfl)
        clear hR
        go_simp
        exact hK _ _ brf rfl
       try go_frame
       refine wgn rfl rfl (by simp) (fun w' hb' hR K hK=> ?_) (fun o3=> ?_)
       ·obtain rfl:o2= .pointer (some ⟨b,off+i*4,none⟩):=hR 2 (by kernel_rfl)
        clear hR
        have q0:=ab hb' x0
        have q1:=ab hb' x1
        have q2:=ab hb' x2
        have q3:=ab hb' x3
        have qz:=Nat.lt_of_lt_of_le zx hb'.size
        go_simp
        exact hK _ _ brf rfl
       try go_frame
       refine wgn rfl rfl (by simp) (fun w' hb' hR K hK=> ?_) (fun o4=> ?_)
       ·clear hR
        go_simp
        exact hK _ _ brf rfl
       try go_frame
       refine wgn rfl rfl (by simp) (fun w' hb' hR K hK=> ?_) (fun o5=> ?_)
       ·clear hR
        go_simp
        exact hK _ _ brf rfl
       try go_frame
       refine wgn rfl rfl (by simp) (fun w' hb' hR K hK=> ?_) (fun o6=> ?_)
       ·obtain rfl:o4= .slice (some ⟨b,off,none⟩) n cc:=hR 4 (by kernel_rfl)
        obtain rfl:o5= .int .i64 (k:Int):=hR 5 (by kernel_rfl)
        clear hR
        go_simp
        exact hK _ _ brf rfl
       try go_frame
       refine wgn rfl rfl (by simp) (fun w' hb' hR K hK=> ?_) (fun o7=> ?_)
       ·obtain rfl:o6= .pointer (some ⟨b,off+k*4,none⟩):=hR 6 (by kernel_rfl)
        clear hR
        have q0:=ab hb' y0
        have q1:=ab hb' y1
        have q2:=ab hb' y2
        have q3:=ab hb' y3
        have qz:=Nat.lt_of_lt_of_le zx hb'.size
        go_simp
        exact hK _ _ brf rfl
       try go_frame
       refine wgn rfl rfl (by simp) (fun w' hb' hR K hK=> ?_) (fun o8=> ?_)
       ·clear hR
        go_simp
        exact hK _ _ brf rfl
       try go_frame
       refine wgn rfl rfl (by simp) (fun w' hb' hR K hK=> ?_) (fun o9=> ?_)
       ·clear hR
        go_simp
        exact hK _ _ brf rfl
       try go_frame
       refine wgn rfl rfl (by simp) (fun w' hb' hR K hK=> ?_) (fun o10=> ?_)
       ·obtain rfl:o8= .slice (some ⟨b,off,none⟩) n cc:=hR 8 (by kernel_rfl)
        obtain rfl:o9= .int .i64 (m:Int):=hR 9 (by kernel_rfl)
        clear hR
        go_simp
        exact hK _ _ brf rfl
       try go_frame
       refine wgn rfl rfl (by simp) (fun w' hb' hR K hK=> ?_) (fun o11=> ?_)
       ·obtain rfl:o10= .pointer (some ⟨b,off+m*4,none⟩):=hR 10 (by kernel_rfl)
        clear hR
        have q0:=ab hb' z0
        have q1:=ab hb' z1
        have q2:=ab hb' z2
        have q3:=ab hb' z3
        have qz:=Nat.lt_of_lt_of_le zx hb'.size
        go_simp
        exact hK _ _ brf rfl
       try go_frame
       refine wgn rfl rfl (by simp) (fun w' hb' hR K hK=> ?_) (fun o12=> ?_)
       ·obtain rfl:o3=v4 (P0,P1,P2,P3):=hR 3 (by kernel_rfl)
        obtain rfl:o7=v4 (Q0,Q1,Q2,Q3):=hR 7 (by kernel_rfl)
        obtain rfl:o11=v4 (S0,S1,S2,S3):=hR 11 (by kernel_rfl)
        clear hR
        go_simp
        refine((HPi _).out).mono ?_
        rintro e w1 ⟨rfl,hb1⟩
        exact hK _ _ hb1 rfl
       try go_frame
       refine wgn rfl rfl (by simp) (fun w' hb' hR K hK=> ?_) (fun o13=> ?_)
       ·obtain rfl:o12= .tuple #[v4 (R0,R1,R2,R3), .bool ok]:=hR 12 (by kernel_rfl)
        clear hR
        go_simp
        exact hK _ _ brf rfl
       try go_frame
       refine wgn rfl rfl (by simp) (fun w' hb' hR K hK=> ?_) (fun o14=> ?_)
       ·obtain rfl:o13= .tuple #[v4 (R0,R1,R2,R3), .bool ok]:=hR 13 (by kernel_rfl)
        clear hR
        go_simp
        exact hK _ _ brf rfl
       try go_frame
       refine wgz rfl rfl (fun w' hb' hR K' hK'=> ?_) (fun o15=> ?_)
       ·obtain rfl:o13= .tuple #[v4 (R0,R1,R2,R3), .bool ok]:=hR 13 (by kernel_rfl)
        clear hR
        go_simp
        exact hK' _ (fun _=>rfl)
       try go_frame
       refine wgn rfl rfl (by simp) (fun w' hb' hR K hK=> ?_) (fun o16=> ?_)
       ·clear hR
        have zz:=hb'.size
        go_simp
        exact hK _ _ bel ⟨_,rfl,zz,ai rfl⟩
       try go_frame
       refine uL (fun w' hb' hR=> ?_)
       obtain rfl:o14=v4 (R0,R1,R2,R3):=hR 14 (by simp)
       obtain rfl:o15= .bool ok:=hR 15 (by simp)
       obtain⟨g,rfl,hg,hB⟩:yd wr.heap.size 131 #[.int .i64 0, .int .i64 0, .int .i64 0, .int .i64 0] o16 w':=hR 16 (by simp)
       have HB:=Lib.hid hB
       obtain⟨c0,c1,c2,c3,cf,cz⟩:=am hB
       obtain⟨X,HX⟩:∃X,Hid (tB w' g (.int .i64 R0) (.int .i64 R1) (.int .i64 R2) (.int .i64 R3)=X):=⟨_,Lib.hid rfl⟩
       have hwX:Below wr.heap.size wr X:=by rw[←HX.out];exact ru hb' hg _ _ _ _
       have HBX:Hid (X.heap[g]? =some (.cells #[.int .i64 R0, .int .i64 R1, .int .i64 R2, .int .i64 R3] 131 (0,0))):=Lib.hid (by rw[←HX.out];exact pI HB.out _ _ _ _)
       have eX:(((w'.setCell ⟨g,0,none⟩ (.int .i64 R0)).setCell ⟨g,1,none⟩ (.int .i64 R1)).setCell ⟨g,2,none⟩ (.int .i64 R2)).setCell ⟨g,3,none⟩ (.int .i64 R3)=X:=HX.out
       have hbX:=fB hb hwX
       have HOX:=Lib.hid (au HO.out hwX)
       clear hR hB x0 x1 x2 x3 y0 y1 y2 y3 z0 z1 z2 z3 zx HPi
       simp only[oas]
       go_wp2
       refine NoPanic.normal ?_
       try rw[eX]
       clear eX HX HB c0 c1 c2 c3 cf cz hb' hwX HO hb
       obtain⟨c0,c1,c2,c3,cf,cz⟩:=am HBX.out
       cases ok with
       |false=>
        have he:=Lib.hid (Hno'.out (by first|trivial|rfl))
        go_wp2
        go_roundw
        case rel=>exact⟨m+1,by omega,by go_num,hbX,Lib.hid (by rw[he.out];exact HOX.out)⟩
        case measure=>first|(simp[intOf];done)|(simp[intOf];omega)
       |true=>
        have HA2:=Lib.hid ((HAi rfl X hbX).out)
        clear HAi
        go_wp2_with fail
        refine(HA2.out).mono ?_
        rintro en w2 ⟨rfl,hb2⟩
        have HO2:=Lib.hid (au HOX.out hb2)
        have HB2:=Lib.hid ((hb2.block _ cz).trans HBX.out)
        have hbX:=fB hbX hb2
        have HOX:=HO2
        clear HA2 hb2 HO2 c0 c1 c2 c3 cf cz HBX
        obtain⟨c0,c1,c2,c3,cf,cz⟩:=am HB2.out
        cases al with
        |false=>
         have he:=Lib.hid (Hbar'.out (by first|trivial|rfl) (by first|trivial|rfl))
         go_wp2
         go_roundw
         case rel=>exact⟨m+1,by omega,by go_num,hbX,Lib.hid (by rw[he.out];exact HOX.out)⟩
         case measure=>first|(simp[intOf];done)|(simp[intOf];omega)
        |true=>
         have he:=Lib.hid (Hyes'.out (by first|trivial|rfl) (by first|trivial|rfl))
         have HHc:=Lib.hid (mV A (R0,R1,R2,R3) _ w2 (by omega) (dV HOX.out))
         clear Hno' Hbar' Hyes'
         by_cases hin:(R0,R1,R2,R3)∈A
         ·rw[decide_eq_true hin]at HHc
          have he2:=Lib.hid (he.out.trans ((HAcc.out _).trans (if_pos hin)))
          go_wp2_with fail
          refine(HHc.out).mono ?_
          rintro en w3 ⟨rfl,hb3⟩
          have hbX:=fB hbX hb3
          have HOX:=Lib.hid (au HOX.out hb3)
          go_wp2
          go_roundw
          case rel=>exact⟨m+1,by omega,by go_num,hbX,Lib.hid (by rw[he2.out];exact HOX.out)⟩
          case measure=>first|(simp[intOf];done)|(simp[intOf];omega)
         ·rw[decide_eq_false hin]at HHc
          have he2:=Lib.hid (he.out.trans ((HAcc.out _).trans (if_neg hin)))
          go_wp2_with fail
          refine(HHc.out).mono ?_
          rintro en w3 ⟨rfl,hb3⟩
          have hbX:=fB hbX hb3
          have HOX:=Lib.hid (au HOX.out hb3)
          have HB3:=Lib.hid ((hb3.block _ cz).trans HB2.out)
          clear hb3 HHc he HAcc c0 c1 c2 c3 cf cz HB2
          obtain⟨c0,c1,c2,c3,cf,cz⟩:=am HB3.out
          go_wp2_with (at_builtin;refine wpList_append_own _ rfl _ _ 57 rfl W.heap.size 131 i0 (v4 (0,0,0,0)) 4 32 kO Hi0.out.1 Hi0.out.2.1 Hi0.out.2.2.1 Hi0.out.2.2.2 rfl (by decide) _ A.length _ rfl (HOX.out.alloc _) ⟨w3.heap.size,0,none⟩ 1 1 (aH (R0,R1,R2,R3)) rfl rfl ?c1 ?c2 ?c3 ?c4 ?c5 ?_)
          case c1=>
           intro jj uu hu
           rw[jY,aq rfl jj]
           simpa [aH]using hu
          case c2=>intro v hv;simp[aH]at hv;rcases hv with rfl|rfl|rfl|rfl<;>rfl
          case c3=>unfold maxLen;omega
          case c4=>omega
          case c5=>simp;have:=hbX.size;omega
          intro v' w4 hown4 hg4 _
          have hb4:Below W.heap.size W w4:=(hbX.alloc hbX.size _).grown hg4 (by simp;have:=hbX.size;omega) (fun z hz=>by have:=(HOX.out.lt z hz).1;omega)
          have HO4:=Lib.hid hown4
          clear hown4 hg4
          go_wp2
          go_roundw
          case rel=>exact⟨m+1,by omega,by go_num,hb4,Lib.hid (by rw[he2.out];simpa using HO4.out)⟩
          case measure=>first|(simp[intOf];done)|(simp[intOf];omega)
      ·obtain rfl:m=k:=by omega
       have g5:¬(m:Int)<(m:Int):=by omega
       go_wp2
       go_roundw
       case rel=>exact⟨m+1,by omega,by go_num,hb,Lib.hid (by rw[←(Hm i m).out];exact HO.out)⟩
       case measure=>first|(simp[intOf];done)|(simp[intOf];omega)
    ·obtain rfl:k=i:=by omega
     have g3:¬(k:Int)<(k:Int):=by omega
     go_wp2
     go_roundw
     case rel=>exact⟨k+1,by omega,by go_num,hb,Lib.hid (by rw[←(Hk k).out];exact HO.out)⟩
     case measure=>first|(simp[intOf];done)|(simp[intOf];omega)
  ·obtain rfl:i=n:=by omega
   have g1:¬(i:Int)<(i:Int):=by omega
   go_wp2
   go_ret
   exact⟨_,rfl,hb,by rw[←Hfin.out];exact HO.out⟩
end
end Go.Proofs.YtleamcmbhioedaaGreatDoor
