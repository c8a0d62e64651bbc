/- texts: XD XF. -/
import Derived.Test.YtokhkhnofkcalaaGreatDoorKZS40
import Derived.Deep.DeepCutAuto
import Derived.Deep.RegionHeld
namespace Go.Proofs.YtokhkhnofkcalaaGreatDoor
set_option maxHeartbeats 8000000
set_option linter.unusedSimpArgs false
set_option linter.unusedVariables false
section
open Go.RowKit Go.Shelf
set_option maxRecDepth 100000
attribute [local go_sem] Ext.cell Ext.frozen
def gF (W:World) (l s q:Int) (pv:Value) (g5 g6 g7 g8 gk:Nat):List (Nat×Array Value×TypeId):=
 [(W.heap.size,#[.int .i64 l],3),(W.heap.size+1,#[.slice none 0 0, .slice none 0 0],75),(g5,#[.int .i64 s],3),(g6,#[.int .i64 q],3),(g7,#[pv],23),(g8,#[.slice (some ⟨gk,0,none⟩) 2 2, .slice none 0 0],75)]
theorem Br (l:Int) (n:List Int) (i:Nat):kB l n (i+1)=[trP (em l (n.getD 0 0) (n.getD 1 0) (n.getD (2+i) 0))]:=by
 unfold kB
 rw[if_neg (by omega),show 1+(i+1)=2+i by omega]
def AA (V:World) (a b c:Value) (T1 T2 T3:TypeId) (s1 s2 s3:Value) (w:World):Prop:=∃g1 g2 g3,s1= .pointer (some ⟨g1,0,none⟩)∧s2= .pointer (some ⟨g2,0,none⟩)∧s3= .pointer (some ⟨g3,0,none⟩)∧V.heap.size≤g1∧V.heap.size≤g2∧V.heap.size≤g3∧
 w.heap[g1]? =some (.cells #[a] T1 (0,0))∧w.heap[g2]? =some (.cells #[b] T2 (0,0))∧w.heap[g3]? =some (.cells #[c] T3 (0,0))∧Below V.heap.size V w
theorem Bs (l w:Int) (nv:Value) (n:List Int) (W:World) (hn:Ints W nv n) (hl:3≤n.length) (hln:n.length≤1000) (hb:∀i, -100000≤n.getD i 0∧n.getD i 0≤100000) (hlb: -100000≤l∧l≤100000) (hs: -1000≤n.getD 0 0∧n.getD 0 0≤1000):
  Calls Tryz.prog 81 #[.int .i64 l,nv] W (gW W (aR 5 l w n) (bR 5 l n)):=by
 obtain⟨b,off,c,rfl,hc,zb,hat⟩:=hn.at' (by omega)
 have c0:=hat 0 (by omega)
 have c1:=hat 1 (by omega)
 rw[Nat.add_zero]at c0
 have hk:aR 5 l w n=[dB l n (n.length-2),fZ l n (n.length-2)++[kB l n (n.length-2)]]:=by simp[aR]
 have hg:bR 5 l n=[]:=by simp[bR]
 rw[hk,hg]
 have Hat:Hid (∀i,i<n.length-2→W.cell? ⟨b,off+2+i,none⟩=some (.int .i64 (n.getD (2+i) 0))):=Lib.hid (fun i hi=>by rw[Nat.add_assoc];exact hat (2+i) (by omega))
 have Hb:Hid (∀i, -100000≤n.getD i 0∧n.getD i 0≤100000):=Lib.hid hb
 have H0s:=Lib.hid (lj l n)
 have H1s:=Lib.hid (qf l n)
 have HPs:=Lib.hid (Br l n)
 have H00:Hid (dB l n 0=[]):=Lib.hid rfl
 have H10:Hid (fZ l n 0=[]):=Lib.hid rfl
 have HP0:Hid (kB l n 0=[]):=Lib.hid rfl
 have HLn:Hid (∀i,(dB l n i).length=i∧(fZ l n i).length=i∧(kB l n i).length≤1):=Lib.hid (fun i=>⟨by simp[dB],by simp[fZ],by unfold kB;split<;>simp⟩)
 have bq:=hb 1
 generalize dB l n=T0 at*
 generalize fZ l n=T1 at*
 generalize kB l n=pK at*
 generalize n.getD 0 0=s at*
 generalize n.getD 1 0=q at*
 have hc2:c≠2:=by omega
 obtain⟨N,hN⟩:∃N,n.length=N+2:=⟨n.length-2,by omega⟩
 simp only[hN,Nat.add_sub_cancel]at Hat hc hln ⊢
 obtain⟨V,HV⟩:∃V,Hid ((W.alloc (.cells #[.int .i64 l] 3)).alloc (.cells #[.slice none 0 0, .slice none 0 0] 75)=V):=⟨_,Lib.hid rfl⟩
 have hV:Below W.heap.size W V:=by rw[←HV.out];exact bel
 have HL:Hid (V.heap[W.heap.size]? =some (.cells #[.int .i64 l] 3 (0,0))):=by rw[←HV.out];exact Lib.hid ((aB (by simp)).trans (ai rfl))
 have HR:Hid (V.heap[W.heap.size+1]? =some (.cells #[.slice none 0 0, .slice none 0 0] 75 (0,0))):=by rw[←HV.out];exact Lib.hid (ai (by simp))
 have d0:=ab hV c0
 have d1:=ab hV c1
 have zs:W.heap.size+2≤V.heap.size:=by rw[←HV.out];simp
 have zd:=Nat.lt_of_lt_of_le zb hV.size
 have m0:(0:Int)<(N:Int)+2:=by omega
 have m1:(1:Int)<(N:Int)+2:=by omega
 have m2:(2:Int)≤(N:Int)+2:=by omega
 clear hat hn hk hg hb c0 c1 hN hl
 go_enter Tryz.func81,Tryz.ntmps81
 go_wp2_with fail
 rw[HV.out]
 go_cut [5,6,7] (fun s5 s6 s7 wx=>AA V (.int .i64 s) (.int .i64 q) (.slice (some ⟨b,off+2,none⟩) N (c-2)) 3 3 23 s5 s6 s7 wx)
 case first=>
  go_region_held (fun w'=>w'.cell? ⟨b,off,none⟩=some (.int .i64 s)∧w'.cell? ⟨b,off+1,none⟩=some (.int .i64 q)) (exact⟨ab bel d0,ab bel d1⟩) (fail)
  all_goals (go_wp2_with fail;go_meet;refine⟨_,_,_,rfl,rfl,rfl,by omega,by omega,by omega, ?_, ?_, ?_,bel⟩<;>first|exact ai (by simp)|exact(aB (by simp)).trans (ai (by simp))|exact(aB (by simp;omega)).trans ((aB (by simp)).trans (ai rfl)))
 case rest=>
  rename World=>X
  obtain⟨g5,g6,g7,rfl,rfl,rfl,l5,l6,l7,h5,h6,h7,hbX⟩:=hcut
  have HLX:=Lib.hid ((hbX.block _ (ah HL.out)).trans HL.out)
  have HRX:=Lib.hid ((hbX.block _ (ah HR.out)).trans HR.out)
  have HX5:=Lib.hid h5
  have HX6:=Lib.hid h6
  have HX7:=Lib.hid h7
  have hWX:=ae hV hbX
  have f7:X.cell? ⟨g7,0,none⟩=some (.slice (some ⟨b,off+2,none⟩) N (c-2)):=(ag h7 0).trans rfl
  have z7:=ah h7
  have zX:=hbX.size
  clear hV hbX HL HR d0 d1 h5 h6 h7 HV
  have hmk:=qn
  go_wp2_with fail
  obtain⟨Y,HY⟩:∃Y,Hid ((X.alloc (.cells #[.slice (some ⟨X.heap.size+1,0,none⟩) 2 2, .slice none 0 0] 75)).alloc (.cells #[.slice none 0 0, .slice none 0 0] 72)=Y):=⟨_,Lib.hid rfl⟩
  have HKI:Hid (KI W (W.heap.size+2) (gF W l s q (.slice (some ⟨b,off+2,none⟩) N (c-2)) g5 g6 g7 X.heap.size (X.heap.size+1)) (X.heap.size+1) (T0 0) (T1 0) (.slice none 0 0) (.slice none 0 0) Y):=Lib.hid (by
   have hbY:Below X.heap.size X Y:=by rw[←HY.out];exact bel
   rw[H00.out,H10.out]
   refine⟨ae hWX hbY,by omega,by omega,fun x hx=> ?_,by rw[←HY.out];exact ai (by simp),CO.nil,CO.nil,fun g h=>by cases h⟩
   simp only[gF,List.mem_cons,List.not_mem_nil,or_false]at hx
   rcases hx with rfl|rfl|rfl|rfl|rfl|rfl
   ·exact⟨(hbY.block _ (ah HLX.out)).trans HLX.out,by simp,by simp⟩
   ·exact⟨(hbY.block _ (ah HRX.out)).trans HRX.out,by simp,by simp⟩
   ·exact⟨(hbY.block _ (ah HX5.out)).trans HX5.out,by simp,by simp⟩
   ·exact⟨(hbY.block _ (ah HX6.out)).trans HX6.out,by simp,by simp⟩
   ·exact⟨(hbY.block _ (ah HX7.out)).trans HX7.out,by simp,by simp⟩
   ·exact⟨by rw[←HY.out];exact(aB (by simp)).trans (ai rfl),by simp,by simp⟩)
  have HPN:Hid (PO (W.heap.size+2) (pK 0) (.slice none 0 0) Y):=Lib.hid (by rw[HP0.out];exact World.ownsRow_nil _ _ _ _)
  rw[HY.out]
  clear HLX HRX HX5 HX6 HX7 hWX f7 z7 hmk HY
  generalize X.heap.size=g8 at*
  go_loopw [27,11] (fun x pv wr=>∃i:Nat,i≤N∧x= .int .i64 i∧Hid (PO (W.heap.size+2) (pK i) pv wr)∧∃a0 a1,Hid (KI W (W.heap.size+2) (gF W l s q (.slice (some ⟨b,off+2,none⟩) N (c-2)) g5 g6 g7 g8 (g8+1)) (g8+1) (T0 i) (T1 i) a0 a1 wr)) (fun x _ _=>N-(intOf x).toNat)
  case atStart=>exact⟨0,by omega,rfl,HPN,_,_,HKI⟩
  case round=>
   obtain⟨i,hi,rfl,HP,a0,a1,HK⟩:=hrel
   by_cases hlt:i<N
   ·have hK:=HK.out
    have bx:=Hb.out (2+i)
    have H8:=Lib.hid (hK.at (g8,#[.slice (some ⟨g8+1,0,none⟩) 2 2, .slice none 0 0],75) (by simp[gF]))
    have HCs:Hid (∀(cs0 cs1:List (List Q4)) (a0 a1:Value) (w':World),KI W (W.heap.size+2) (gF W l s q (.slice (some ⟨b,off+2,none⟩) N (c-2)) g5 g6 g7 g8 (g8+1)) (g8+1) cs0 cs1 a0 a1 w'→w'.cell? ⟨g5,0,none⟩=some (.int .i64 s)∧w'.cell? ⟨g6,0,none⟩=some (.int .i64 q)∧w'.cell? ⟨W.heap.size,0,none⟩=some (.int .i64 l)∧w'.cell? ⟨g7,0,none⟩=some (.slice (some ⟨b,off+2,none⟩) N (c-2))∧w'.cell? ⟨b,off+2+i,none⟩=some (.int .i64 (n.getD (2+i) 0))):=Lib.hid (fun cs0 cs1 a0 a1 w' hK=>
     ⟨(ag (hK.at (g5,#[.int .i64 s],3) (by simp[gF])) 0).trans rfl,(ag (hK.at (g6,#[.int .i64 q],3) (by simp[gF])) 0).trans rfl,(ag (hK.at (W.heap.size,#[.int .i64 l],3) (by simp[gF])) 0).trans rfl,(ag (hK.at (g7,#[.slice (some ⟨b,off+2,none⟩) N (c-2)],23) (by simp[gF])) 0).trans rfl,ab hK.below (Hat.out i hlt)⟩)
    have eL:∀(cs0 cs1:List (List Q4)) (a0 a1:Value) (w':World),KI W (W.heap.size+2) (gF W l s q (.slice (some ⟨b,off+2,none⟩) N (c-2)) g5 g6 g7 g8 (g8+1)) (g8+1) cs0 cs1 a0 a1 w'→Hid (Calls Tryz.prog 122 #[.int .i64 i, .pointer (some ⟨g5,0,none⟩), .pointer (some ⟨W.heap.size,0,none⟩), .pointer (some ⟨g7,0,none⟩)] w' (Ret w' (v4 (el l s (n.getD (2+i) 0))))):=fun cs0 cs1 a0 a1 w' hK=>Lib.hid (by
     obtain⟨cs,cq,cl,cp,cx⟩:=HCs.out cs0 cs1 a0 a1 w' hK
     exact tY i N b (off+2) (c-2) g5 W.heap.size g7 s l _ w' hs (by omega) (by omega) hlt cs cl cp cx)
    have eU:∀(cs0 cs1:List (List Q4)) (a0 a1:Value) (w':World),KI W (W.heap.size+2) (gF W l s q (.slice (some ⟨b,off+2,none⟩) N (c-2)) g5 g6 g7 g8 (g8+1)) (g8+1) cs0 cs1 a0 a1 w'→Hid (Calls Tryz.prog 123 #[.int .i64 i, .pointer (some ⟨g5,0,none⟩), .pointer (some ⟨W.heap.size,0,none⟩), .pointer (some ⟨g7,0,none⟩), .pointer (some ⟨g6,0,none⟩)] w' (Ret w' (v4 (em l s q (n.getD (2+i) 0))))):=fun cs0 cs1 a0 a1 w' hK=>Lib.hid (by
     obtain⟨cs,cq,cl,cp,cx⟩:=HCs.out cs0 cs1 a0 a1 w' hK
     exact tZ i N b (off+2) (c-2) g5 W.heap.size g7 g6 s l _ q w' hs (by omega) (by omega) (by omega) hlt cs cl cp cq cx)
    have r8:wr.cell? ⟨g8,0,none⟩=some (.slice (some ⟨g8+1,0,none⟩) 2 2):=(ag H8.out 0).trans rfl
    have z8:=ah H8.out
    have rk0:wr.cell? ⟨g8+1,0,none⟩=some a0:=(ag hK.row 0).trans rfl
    have zk:=ah hK.row
    have zr:=hK.below.size
    have zB:W.heap.size+2≤wr.heap.size:=Nat.le_trans hK.ge (Nat.le_of_lt zk)
    have H0:=Lib.hid (H0s.out i)
    have H1:=Lib.hid (H1s.out i)
    have HPi:=Lib.hid (HPs.out i)
    have HLi:=Lib.hid (HLn.out i)
    have m1:=aJ hs.1 hs.2 bx.1 bx.2
    have m2:=aJ hs.1 hs.2 (show -200000≤n.getD (2+i) 0+q by omega) (show n.getD (2+i) 0+q≤200000 by omega)
    have eT:∀w',Hid (Calls Tryz.prog 82 #[v4 (el l s (n.getD (2+i) 0))] w' (Ret w' (v4 (trP (el l s (n.getD (2+i) 0)))))):=fun w'=>Lib.hid (eE 1 (-s) 0 (l-s*n.getD (2+i) 0) w' (by omega) (by omega) (by omega) (by omega))
    have eV:∀w',Hid (Calls Tryz.prog 82 #[v4 (em l s q (n.getD (2+i) 0))] w' (Ret w' (v4 (trP (em l s q (n.getD (2+i) 0)))))):=fun w'=>Lib.hid (eE 1 s 0 (l+s*(n.getD (2+i) 0+q)) w' (by omega) (by omega) (by omega) (by omega))
    have hpl:=(HLn.out i).2.2
    clear m1 m2 bx HCs
    generalize el l s (n.getD (2+i) 0)=lo at*
    generalize em l s q (n.getD (2+i) 0)=hi' at*
    generalize trP lo=lo' at*
    generalize trP hi'=ht at*
    obtain⟨lo1,lo2,lo3,lo4⟩:=lo
    obtain⟨hi1,hi2,hi3,hi4⟩:=hi'
    obtain⟨lt1,lt2,lt3,lt4⟩:=lo'
    obtain⟨ht1,ht2,ht3,ht4⟩:=ht
    obtain⟨aa0,ac0,rfl⟩:=hK.c0.shape
    obtain⟨aa1,ac1,rfl⟩:=hK.c1.shape
    have g1:(i:Int)<(N:Int):=by omega
    obtain⟨pa,pc,rfl⟩:=HP.out.shape
    have eW:=fun cv lv w' hc hl=>Lib.hid (bC cv (pK i) lv [[(lt1,lt2,lt3,lt4)]] w' hc hl (by simp) (by simp) (by simp;omega))
    obtain⟨pk1,hpk1⟩:∃pk1,pk1=[pK i,[(lt1,lt2,lt3,lt4)]].flatten:=⟨_,rfl⟩
    rw[←hpk1]at eW
    have HT1:Hid (T1 (i+1)=T1 i++[pk1]):=Lib.hid (by rw[H1.out,hpk1];simp)
    obtain⟨C0,HC0⟩:∃C0,Hid (T0 i++[[(lo1,lo2,lo3,lo4),(hi1,hi2,hi3,hi4)]]=C0):=⟨_,Lib.hid rfl⟩
    obtain⟨C1,HC1⟩:∃C1,Hid (T1 i++[pk1]=C1):=⟨_,Lib.hid rfl⟩
    rw[HC0.out]at H0
    rw[HC1.out]at HT1
    clear hK hpk1 H1
    go_wp2
    apply bW [0,1] [0,1,2,3,4,5,6,7,8,9,10,11,12,13] 14 [] 15 [16] [sv _,sv _,sv _,sv _,sv _,sv _,sv _,sv _,sv _,sv _,sv _,sv _,sPO (W.heap.size+2) [(lo1,lo2,lo3,lo4),(hi1,hi2,hi3,hi4)],sFO (W.heap.size+2) [[(lo1,lo2,lo3,lo4),(hi1,hi2,hi3,hi4)]]] (fun w'=>w'.cell? ⟨g8,0,none⟩=some (.slice (some ⟨g8+1,0,none⟩) 2 2)) (by kernel_rfl) (by kernel_rfl) (by kernel_rfl) (fun u=>ab u.below r8)
    ·(try go_frame)
     refine du rfl rfl ?_
     apply Exists.intro
     apply And.intro
     ·intro w9 h9
      go_simp
      first|rfl|(simp only[h9];rfl)
     refine⟨rfl, ?_⟩
     (try go_frame)
     refine du rfl rfl ?_
     apply Exists.intro
     apply And.intro
     ·intro w9 h9
      go_simp
      first|rfl|(simp only[h9];rfl)
     refine⟨rfl, ?_⟩
     exact gR
    iterate 8 ((try go_frame);refine wkQ ?_)
    try go_frame
    refine wkV ?_
    apply ex3
    ·intro u K hK
     go_simp
     refine((eL _ _ _ _ _ (HK.out.grow u.below)).out).mono ?_
     rintro e w9 ⟨rfl,hb9⟩
     exact hK _ hb9
    rfl
    iterate 2 ((try go_frame);refine wkQ ?_)
    try go_frame
    refine wkV ?_
    apply ex3
    ·intro u K hK
     go_simp
     refine((eU _ _ _ _ _ (HK.out.grow u.below)).out).mono ?_
     rintro e w9 ⟨rfl,hb9⟩
     exact hK _ hb9
    rfl
    try go_frame
    refine wkU (fun u hR K hK=> ?_) (fun o12=> ?_)
    ·clear hR
     have zw:=u.size
     go_simp
     exact hK _ _ bel (cF [(lo1,lo2,lo3,lo4),(hi1,hi2,hi3,hi4)] (by omega))
    try go_frame
    refine wkU (fun u hR K hK=> ?_) (fun o13=> ?_)
    ·have h12:(PO (W.heap.size+2) [(lo1,lo2,lo3,lo4),(hi1,hi2,hi3,hi4)]) o12 u.val:=hr hR 12
     clear hR
     have zw:=u.size
     obtain⟨ya,yc,rfl⟩:=(h12).shape
     have H1:=Lib.hid h12
     clear h12
     go_simp
     exact hK _ _ bel (bi [_] [_] (by omega) ⟨H1.out,trivial⟩ bel)
    try go_frame
    refine aI (fun u hR=> ?_)
    have HF:Hid (FO (W.heap.size+2) [[(lo1,lo2,lo3,lo4),(hi1,hi2,hi3,hi4)]] o13 u.val):=Lib.hid (hR 13 (by simp))
    have HK1:=Lib.hid (HK.out.grow u.below)
    have HP1:=Lib.hid (HP.out.below u.below)
    have H81:=Lib.hid ((u.below.block _ (ah H8.out)).trans H8.out)
    have zB1:=Nat.le_trans zB u.below.size
    clear hR HK HP H8 zB r8 z8 rk0 zk zr
    generalize u.val=wx at*
    clear u
    simp only[oas]
    refine bE HK1.out.c0 HF.out _ _ rfl rfl rfl rfl (by have:=HLi.out;simp;omega) zB1 fun v' w' hc' hg' ha'=> ?_
    rw[HC0.out]at hc'
    have H82:Hid (w'.heap[g8]? =_):=Lib.hid ((hg'.block _ (ah H81.out) (fg HK1.out.c0 H81.out (by decide))).trans H81.out)
    have hrow:w'.heap[g8+1]? =_:=(hg'.block _ (ah HK1.out.row) (fg HK1.out.c0 HK1.out.row (by decide))).trans HK1.out.row
    have HK:Hid (KI W (W.heap.size+2) _ (g8+1) (C0) (T1 i) (v') (.slice aa1 (T1 i).length ac1) (w'.setCell ⟨g8+1,0,none⟩ v')):=Lib.hid (HK1.out.app0 hg' hc' ha')
    have HP:=Lib.hid (HP1.out.app (gk:=g8+1) (i:=0) (a':=v') HK1.out.c0 hg' HK1.out.row)
    have H8:=Lib.hid ((Below.heap_setCell w' ⟨g8+1,0,none⟩ v' g8 (by simp)).trans H82.out)
    obtain⟨vva0,vvc0,rfl⟩:=hc'.shape
    have r8:w'.cell? ⟨g8,0,none⟩=some (.slice (some ⟨g8+1,0,none⟩) 2 2):=(ag H82.out 0).trans rfl
    refine⟨r8, ?_⟩
    have rk0:=(ag hrow 0).trans rfl
    have rkf:=aC hrow 0
    have zk:=ah hrow
    clear hc' hg' ha' hrow HK1 HP1 H81 H82 zB1 HF
    simp only[oas]
    go_wp2
    refine NoPanic.normal ?_
    clear rk0 rkf zk r8
    generalize w'.setCell ⟨g8+1,0,none⟩ (.slice vva0 (C0).length vvc0)=wr at*
    have r8:wr.cell? ⟨g8,0,none⟩=some (.slice (some ⟨g8+1,0,none⟩) 2 2):=(ag H8.out 0).trans rfl
    have z8:=ah H8.out
    have rk0:=(ag HK.out.row 1).trans rfl
    have zk:=ah HK.out.row
    have zr:=HK.out.below.size
    have zB:W.heap.size+2≤wr.heap.size:=Nat.le_trans HK.out.ge (Nat.le_of_lt zk)
    go_wp2
    apply bW [0,1] [0,1,2,3,4,5,6,7,8,9,10,11,12,13,14] 15 [] 16 [17] [sv _,sv _,sv _,sv _,sv _,sv _,sv _,sv _,sv _,sv _,sv _,sPO (W.heap.size+2) [(lt1,lt2,lt3,lt4)],sFO (W.heap.size+2) [[(lt1,lt2,lt3,lt4)]],sPO (W.heap.size+2) pk1,sFO (W.heap.size+2) [pk1]] (fun w'=>w'.cell? ⟨g8,0,none⟩=some (.slice (some ⟨g8+1,0,none⟩) 2 2)) (by kernel_rfl) (by kernel_rfl) (by kernel_rfl) (fun u=>ab u.below r8)
    ·(try go_frame)
     refine du rfl rfl ?_
     apply Exists.intro
     apply And.intro
     ·intro w9 h9
      go_simp
      first|rfl|(simp only[h9];rfl)
     refine⟨rfl, ?_⟩
     (try go_frame)
     refine du rfl rfl ?_
     apply Exists.intro
     apply And.intro
     ·intro w9 h9
      go_simp
      first|rfl|(simp only[h9];rfl)
     refine⟨rfl, ?_⟩
     exact gR
    iterate 9 ((try go_frame);refine wkQ ?_)
    try go_frame
    refine wkV ?_
    apply ex3
    ·intro u K hK
     go_simp
     refine((eL _ _ _ _ _ (HK.out.grow u.below)).out).mono ?_
     rintro e w9 ⟨rfl,hb9⟩
     exact hK _ hb9
    rfl
    try go_frame
    refine wkV ?_
    apply ex3
    ·intro u K hK
     go_simp
     refine((eT _).out).mono ?_
     rintro e w9 ⟨rfl,hb9⟩
     exact hK _ hb9
    rfl
    try go_frame
    refine wkU (fun u hR K hK=> ?_) (fun o11=> ?_)
    ·clear hR
     have zw:=u.size
     go_simp
     exact hK _ _ bel (cF [(lt1,lt2,lt3,lt4)] (by omega))
    try go_frame
    refine wkU (fun u hR K hK=> ?_) (fun o12=> ?_)
    ·have h11:(PO (W.heap.size+2) [(lt1,lt2,lt3,lt4)]) o11 u.val:=hr hR 11
     clear hR
     have zw:=u.size
     obtain⟨ya,yc,rfl⟩:=(h11).shape
     have H1:=Lib.hid h11
     clear h11
     go_simp
     exact hK _ _ bel (bi [_] [_] (by omega) ⟨H1.out,trivial⟩ bel)
    try go_frame
    refine wkU (fun u hR K hK=> ?_) (fun o13=> ?_)
    ·have h12:(FO (W.heap.size+2) [[(lt1,lt2,lt3,lt4)]]) o12 u.val:=hr hR 12
     clear hR
     go_simp
     refine((eW _ _ _ ((HP.out.below u.below).planes.mono (Nat.zero_le _)) (h12.2.cells.mono (Nat.zero_le _))).out).mono ?_
     rintro e w9 ⟨v9,rfl,hb9,hp9⟩
     exact hK _ _ hb9 (AY hp9 (by have:=u.size;omega))
    try go_frame
    refine wkU (fun u hR K hK=> ?_) (fun o14=> ?_)
    ·have h13:(PO (W.heap.size+2) pk1) o13 u.val:=hr hR 13
     clear hR
     have zw:=u.size
     obtain⟨ya,yc,rfl⟩:=(h13).shape
     have H1:=Lib.hid h13
     clear h13
     go_simp
     exact hK _ _ bel (bi [_] [_] (by omega) ⟨H1.out,trivial⟩ bel)
    try go_frame
    refine aI (fun u hR=> ?_)
    have HF:Hid (FO (W.heap.size+2) [pk1] o14 u.val):=Lib.hid (hR 14 (by simp))
    have HK1:=Lib.hid (HK.out.grow u.below)
    have HP1:=Lib.hid (HP.out.below u.below)
    have H81:=Lib.hid ((u.below.block _ (ah H8.out)).trans H8.out)
    have zB1:=Nat.le_trans zB u.below.size
    clear hR HK HP H8 zB r8 z8 rk0 zk zr
    generalize u.val=wx at*
    clear u
    simp only[oas]
    refine bE HK1.out.c1 HF.out _ _ rfl rfl rfl rfl (by have:=HLi.out;simp;omega) zB1 fun v' w' hc' hg' ha'=> ?_
    rw[HC1.out]at hc'
    have H82:Hid (w'.heap[g8]? =_):=Lib.hid ((hg'.block _ (ah H81.out) (fg HK1.out.c1 H81.out (by decide))).trans H81.out)
    have hrow:w'.heap[g8+1]? =_:=(hg'.block _ (ah HK1.out.row) (fg HK1.out.c1 HK1.out.row (by decide))).trans HK1.out.row
    have HK:Hid (KI W (W.heap.size+2) _ (g8+1) (C0) (C1) (.slice vva0 C0.length vvc0) (v') (w'.setCell ⟨g8+1,1,none⟩ v')):=Lib.hid (HK1.out.app1 hg' hc' ha')
    have HP:=Lib.hid (HP1.out.app (gk:=g8+1) (i:=1) (a':=v') HK1.out.c1 hg' HK1.out.row)
    have H8:=Lib.hid ((Below.heap_setCell w' ⟨g8+1,1,none⟩ v' g8 (by simp)).trans H82.out)
    obtain⟨vva1,vvc1,rfl⟩:=hc'.shape
    have r8:w'.cell? ⟨g8,0,none⟩=some (.slice (some ⟨g8+1,0,none⟩) 2 2):=(ag H82.out 0).trans rfl
    refine⟨r8, ?_⟩
    have rk0:=(ag hrow 1).trans rfl
    have rkf:=aC hrow 1
    have zk:=ah hrow
    clear hc' hg' ha' hrow HK1 HP1 H81 H82 zB1 HF
    simp only[oas]
    go_wp2
    refine NoPanic.normal ?_
    clear rk0 rkf zk r8
    generalize w'.setCell ⟨g8+1,1,none⟩ (.slice vva1 (C1).length vvc1)=wr at*
    go_wp2_with fail
    refine((eU _ _ _ _ _ HK.out).out).mono ?_
    rintro e w3 ⟨rfl,hb3⟩
    go_wp2_with fail
    refine((eV _).out).mono ?_
    rintro e w4 ⟨rfl,hb4⟩
    have HK4:=Lib.hid (HK.out.grow (ae hb3 hb4))
    have z4:=HK4.out.below.size
    have z5:=HK4.out.ge
    have z6:=ah HK4.out.row
    rw[←H0.out, ←HT1.out]at HK4
    clear HK HP eL eT eU eV eW H8 hb3 hb4
    go_wp2
    go_roundw
    case rel=>exact⟨i+1,by omega,by go_num,Lib.hid (by rw[HPi.out];exact jO [(ht1,ht2,ht3,ht4)] rfl (by omega)),_,_,Lib.hid (HK4.out.grow bel)⟩
    case measure=>simp[intOf];omega
   ·obtain rfl:i=N:=by omega
    have hK:=HK.out
    have H8:=Lib.hid (hK.at (g8,#[.slice (some ⟨g8+1,0,none⟩) 2 2, .slice none 0 0],75) (by simp[gF]))
    have HLi:=Lib.hid (HLn.out i)
    obtain⟨aa0,ac0,rfl⟩:=hK.c0.shape
    obtain⟨aa1,ac1,rfl⟩:=hK.c1.shape
    obtain⟨pa,pc,rfl⟩:=HP.out.shape
    have g1:¬(i:Int)<(i:Int):=by omega
    obtain⟨C1,HC1⟩:∃C1,Hid (T1 i++[pK i]=C1):=⟨_,Lib.hid rfl⟩
    rw[HC1.out]
    clear hK Hb Hat H0s H1s HPs
    have r8:wr.cell? ⟨g8,0,none⟩=some (.slice (some ⟨g8+1,0,none⟩) 2 2):=(ag H8.out 0).trans rfl
    have z8:=ah H8.out
    have rk0:=(ag HK.out.row 1).trans rfl
    have zk:=ah HK.out.row
    have zr:=HK.out.below.size
    have zB:W.heap.size+2≤wr.heap.size:=Nat.le_trans HK.out.ge (Nat.le_of_lt zk)
    go_wp2
    apply bW [0,1] [0,1,2,3,4,5,6,7] 8 [] 9 [10] [sv _,sv _,sv _,sv _,sv _,sv _,sv _,sFO (W.heap.size+2) [pK i]] (fun w'=>w'.cell? ⟨g8,0,none⟩=some (.slice (some ⟨g8+1,0,none⟩) 2 2)) (by kernel_rfl) (by kernel_rfl) (by kernel_rfl) (fun u=>ab u.below r8)
    ·(try go_frame)
     refine du rfl rfl ?_
     apply Exists.intro
     apply And.intro
     ·intro w9 h9
      go_simp
      first|rfl|(simp only[h9];rfl)
     refine⟨rfl, ?_⟩
     (try go_frame)
     refine du rfl rfl ?_
     apply Exists.intro
     apply And.intro
     ·intro w9 h9
      go_simp
      first|rfl|(simp only[h9];rfl)
     refine⟨rfl, ?_⟩
     exact gR
    iterate 7 ((try go_frame);refine wkQ ?_)
    try go_frame
    refine wkU (fun u hR K hK=> ?_) (fun o7=> ?_)
    ·clear hR
     have zw:=u.size
     have H1:=Lib.hid (HP.out.below u.below)
     go_simp
     exact hK _ _ bel (bi [_] [_] (by omega) ⟨H1.out,trivial⟩ bel)
    try go_frame
    refine aI (fun u hR=> ?_)
    have HF:Hid (FO (W.heap.size+2) [pK i] o7 u.val):=Lib.hid (hR 7 (by simp))
    have HK1:=Lib.hid (HK.out.grow u.below)
    have HP1:=Lib.hid (HP.out.below u.below)
    have H81:=Lib.hid ((u.below.block _ (ah H8.out)).trans H8.out)
    have zB1:=Nat.le_trans zB u.below.size
    clear hR HK HP H8 zB r8 z8 rk0 zk zr
    generalize u.val=wx at*
    clear u
    simp only[oas]
    refine bE HK1.out.c1 HF.out _ _ rfl rfl rfl rfl (by have:=HLi.out;simp;omega) zB1 fun v' w' hc' hg' ha'=> ?_
    rw[HC1.out]at hc'
    have H82:Hid (w'.heap[g8]? =_):=Lib.hid ((hg'.block _ (ah H81.out) (fg HK1.out.c1 H81.out (by decide))).trans H81.out)
    have hrow:w'.heap[g8+1]? =_:=(hg'.block _ (ah HK1.out.row) (fg HK1.out.c1 HK1.out.row (by decide))).trans HK1.out.row
    have HK:Hid (KI W (W.heap.size+2) _ (g8+1) (T0 i) (C1) (.slice aa0 (T0 i).length ac0) (v') (w'.setCell ⟨g8+1,1,none⟩ v')):=Lib.hid (HK1.out.app1 hg' hc' ha')
    have HP:=Lib.hid (HP1.out.app (gk:=g8+1) (i:=1) (a':=v') HK1.out.c1 hg' HK1.out.row)
    have H8:=Lib.hid ((Below.heap_setCell w' ⟨g8+1,1,none⟩ v' g8 (by simp)).trans H82.out)
    obtain⟨vva1,vvc1,rfl⟩:=hc'.shape
    have r8:w'.cell? ⟨g8,0,none⟩=some (.slice (some ⟨g8+1,0,none⟩) 2 2):=(ag H82.out 0).trans rfl
    refine⟨r8, ?_⟩
    have rk0:=(ag hrow 1).trans rfl
    have rkf:=aC hrow 1
    have zk:=ah hrow
    clear hc' hg' ha' hrow HK1 HP1 H81 H82 zB1 HF
    simp only[oas]
    go_wp2
    refine NoPanic.normal ?_
    clear rk0 rkf zk r8
    generalize w'.setCell ⟨g8+1,1,none⟩ (.slice vva1 (C1).length vvc1)=wr at*
    have HR:=Lib.hid (HK.out.at (W.heap.size+1,#[.slice none 0 0, .slice none 0 0],75) (by simp[gF]))
    obtain⟨x0,x1,xf,xz⟩:=dC H8.out
    obtain⟨r0,r1,rf,rz⟩:=dC HR.out
    have rf0:=rf 0
    have rf1:=rf 1
    clear xf rf
    go_wp2
    refine bodyPost_ret (v:= .agg #[.slice (some ⟨g8+1,0,none⟩) 2 2, .slice none 0 0]) (by simp[results,Tryz.results81,go_sem,r0,r1]) rfl ⟨_,_,rfl, ?_, ?_,Bc⟩
    ·exact(HK.out.below.setCell (by simp) _).setCell (by simp) _
    ·rw[HC1.out]
     exact((HK.out.ko.put HR.out _ _).mono (B':=W.heap.size) (by omega)).parts
theorem wG (b off c g0 g1 g2:Nat) (w:Int) (n:List Int) (W:World) (hn:Ints W (.slice (some ⟨b,off,none⟩) n.length c) n) (hl:n.length≤1000)
  (h0:W.heap[g0]? =some (.cells #[.int .i64 0] 3 (0,0))) (h1:W.heap[g1]? =some (.cells #[.int .i64 w] 3 (0,0)))
  (h2:W.heap[g2]? =some (.cells #[.slice (some ⟨g0,0,none⟩) 1 1, .slice (some ⟨b,off,none⟩) n.length c, .slice (some ⟨g1,0,none⟩) 1 1] 23 (0,0))):
  Calls Tryz.prog 63 #[.slice (some ⟨g2,0,none⟩) 3 3] W fun e w'=>∃g cap cur,e= .returned (.slice (some ⟨g,0,none⟩) (n.length+2) cap)∧Below W.heap.size W w'∧W.heap.size≤g∧w'.heap[g]? =some (.cells cur 3 (0,0))∧∀i,i<n.length+2→cur[i]? =some (.int .i64 ((dT w n).getD i 0)):=by
 have hI0:Ints W (.slice (some ⟨g0,0,none⟩) 1 1) [0]:=⟨_,_,_,rfl,rfl,Nat.le_refl _,fun _=>⟨g0,0,rfl,fun i hi=>by
  obtain rfl:i=0:=by simpa using hi
  exact(ag h0 0).trans rfl⟩⟩
 have hI1:Ints W (.slice (some ⟨g1,0,none⟩) 1 1) [w]:=⟨_,_,_,rfl,rfl,Nat.le_refl _,fun _=>⟨g1,0,rfl,fun i hi=>by
  obtain rfl:i=0:=by simpa using hi
  exact(ag h1 0).trans rfl⟩⟩
 have hcat:=ja W g2 0 3 [[Value.int .i64 0],n.map (Value.int .i64),[Value.int .i64 w]] (by
   intro i hi
   match i,hi with
   |0,_=>exact⟨_,(ag h2 0).trans rfl,ec (xs:=[0]) hI0 (fun _ _ e=>by cases e)⟩
   |1,_=>exact⟨_,(ag h2 1).trans rfl,ec hn (fun _ _ e=>by cases e)⟩
   |2,_=>exact⟨_,(ag h2 2).trans rfl,ec (xs:=[w]) hI1 (fun _ _ e=>by cases e)⟩) (by simp) (by simp) (by
   intro cs hcs u hu
   simp at hcs
   rcases hcs with rfl|rfl|rfl
   ·simp at hu;subst hu;rfl
   ·simp at hu;obtain⟨_,_,rfl⟩:=hu;rfl
   ·simp at hu;subst hu;rfl) (by simp;omega)
 refine hcat.mono ?_
 rintro e w1 ⟨r,m,rfl,hb1,ho⟩
 have hm:m=n.length+2:=by have:=ho.1;simp at this;omega
 subst hm
 have e1: [[Value.int .i64 0],n.map (Value.int .i64),[Value.int .i64 w]].flatten=(dT w n).map (Value.int .i64):=by simp[dT]
 rw[e1]at ho
 rcases ho.2 with⟨rfl,h0⟩|⟨g,cap,cur,rfl,hb,hh,hnc,hcm,hcs,htk⟩
 ·omega
 ·refine⟨g,cap,cur,rfl,hb1,hb,hh,fun i hi=> ?_⟩
  have hlen:(dT w n).length=n.length+2:=by simp[dT]
  have h3:(cur.toList.take ((n.length+2)*1))[i]? =some (Value.int .i64 ((dT w n).getD i 0)):=by
   rw[htk,List.getElem?_map,List.getElem?_eq_getElem (by omega),cS _ i (by omega)]
   rfl
  rw[List.getElem?_take,if_pos (by omega)]at h3
  simpa using h3
theorem oE (l w:Int) (nv:Value) (n:List Int) (W:World) (hn:Ints W nv n) (h1:1≤n.length) (hln:n.length≤1000) (hb:∀i, -100000≤n.getD i 0∧n.getD i 0≤100000) (hwb: -100000≤w∧w≤100000):
  Calls Tryz.prog 83 #[.int .i64 w,nv] W (gW W (aR 7 l w n) (bR 7 l n)):=by
 have HN:=Lib.hid hn
 obtain⟨b,off,c,rfl,hc,zb,hat⟩:=hn.at' (by omega)
 have hk:aR 7 l w n=[cK w n 0 (n.length+1),cK w n 1 (n.length+1)]:=by simp[aR]
 have hg:bR 7 l n=[]:=by simp[bR]
 rw[hk,hg]
 clear hat hn hk hg
 obtain⟨N,HNn⟩:∃N,Hid (n.length=N):=⟨_,Lib.hid rfl⟩
 have hCat:=fun g0 g1 g2 W' hn' h0 h1 h2=>Lib.hid (wG b off c g0 g1 g2 w n W' hn' hln h0 h1 h2)
 simp only[HNn.out]at hCat ⊢
 have hmk:=qn
 go_enter Tryz.func83,Tryz.ntmps83
 obtain⟨U,HU⟩:∃U,Hid ((((((W.alloc (.cells #[.slice none 0 0, .slice none 0 0] 75)).alloc (.cells #[.slice none 0 0, .slice none 0 0] 72)).alloc (.cells #[.slice (some ⟨W.heap.size+1,0,none⟩) 2 2, .slice none 0 0] 75)).alloc (.cells #[.int .i64 0] 3)).alloc (.cells #[.int .i64 w] 3)).alloc (.cells #[.slice (some ⟨W.heap.size+1+1+1,0,none⟩) 1 1, .slice (some ⟨b,off,none⟩) N c, .slice (some ⟨W.heap.size+1+1+1+1,0,none⟩) 1 1] 23)=U):=⟨_,Lib.hid rfl⟩
 have hU:Below W.heap.size W U:=by rw[←HU.out];exact bel
 have H0:Hid (U.heap[W.heap.size]? =some (.cells #[.slice none 0 0, .slice none 0 0] 75 (0,0))):=Lib.hid (by rw[←HU.out];(repeat first|exact ai (by simp)|refine(aB (by first|(simp;done)|(simp;omega))).trans ?_))
 have H1:Hid (U.heap[W.heap.size+1]? =some (.cells #[.slice none 0 0, .slice none 0 0] 72 (0,0))):=Lib.hid (by rw[←HU.out];(repeat first|exact ai (by simp)|refine(aB (by first|(simp;done)|(simp;omega))).trans ?_))
 have H2:Hid (U.heap[W.heap.size+1+1]? =some (.cells #[.slice (some ⟨W.heap.size+1,0,none⟩) 2 2, .slice none 0 0] 75 (0,0))):=Lib.hid (by rw[←HU.out];(repeat first|exact ai (by simp)|refine(aB (by first|(simp;done)|(simp;omega))).trans ?_))
 have H3:U.heap[W.heap.size+1+1+1]? =some (.cells #[.int .i64 0] 3 (0,0)):=by rw[←HU.out];(repeat first|exact ai (by simp)|refine(aB (by first|(simp;done)|(simp;omega))).trans ?_)
 have H4:U.heap[W.heap.size+1+1+1+1]? =some (.cells #[.int .i64 w] 3 (0,0)):=by rw[←HU.out];(repeat first|exact ai (by simp)|refine(aB (by first|(simp;done)|(simp;omega))).trans ?_)
 have H5:U.heap[W.heap.size+1+1+1+1+1]? =some (.cells #[.slice (some ⟨W.heap.size+1+1+1,0,none⟩) 1 1, .slice (some ⟨b,off,none⟩) N c, .slice (some ⟨W.heap.size+1+1+1+1,0,none⟩) 1 1] 23 (0,0)):=by rw[←HU.out];(repeat first|exact ai (by simp)|refine(aB (by first|(simp;done)|(simp;omega))).trans ?_)
 have HC:=Lib.hid ((hCat _ _ _ U (by rw[←HNn.out];exact HN.out.below hU) H3 H4 H5).out)
 clear H3 H4 H5 hCat
 go_wp2_with fail
 rw[HU.out]
 refine(HC.out).mono ?_
 rintro e w1 ⟨g,cap,cur,rfl,hb1,hge,hh,hcur⟩
 have Hcur:=Lib.hid hcur
 have zg:=ah hh
 have HKI:Hid (KI W (W.heap.size+1) [(W.heap.size,#[.slice none 0 0, .slice none 0 0],75),(W.heap.size+1+1,#[.slice (some ⟨W.heap.size+1,0,none⟩) 2 2, .slice none 0 0],75),(g,cur,3)] (W.heap.size+1) (cK w n 0 0) (cK w n 1 0) (.slice none 0 0) (.slice none 0 0) w1):=Lib.hid (by
  refine⟨ae hU hb1,by omega,by omega,fun x hx=> ?_,(hb1.block _ (ah H1.out)).trans H1.out,CO.nil,CO.nil,fun g h=>by cases h⟩
  simp only[List.mem_cons,List.not_mem_nil,or_false]at hx
  rcases hx with rfl|rfl|rfl
  ·exact⟨(hb1.block _ (ah H0.out)).trans H0.out,by simp,by simp⟩
  ·exact⟨(hb1.block _ (ah H2.out)).trans H2.out,by simp,by simp⟩
  ·exact⟨hh,by simp,by simp⟩)
 clear hb1 hh hcur H0 H1 H2 HU hU HC HN hge hmk
 have hN1:N≤1000:=by have:=HNn.out;omega
 have kw:wrap64 ((N:Int)+2-1)=(N:Int)+1:=by unfold wrap64;omega
 go_wp2_with fail
 obtain⟨LL,HLL⟩:∃LL,Hid ([(W.heap.size,#[.slice none 0 0, .slice none 0 0],75),(W.heap.size+1+1,#[.slice (some ⟨W.heap.size+1,0,none⟩) 2 2, .slice none 0 0],75),(g,cur,3)]=LL):=⟨_,Lib.hid rfl⟩
 rw[HLL.out]at HKI
 have hL0:Hid ((W.heap.size,#[Value.slice none 0 0,Value.slice none 0 0],75)∈LL):=Lib.hid (by rw[←HLL.out];simp)
 have hL2:Hid ((W.heap.size+1+1,#[Value.slice (some ⟨W.heap.size+1,0,none⟩) 2 2,Value.slice none 0 0],75)∈LL):=Lib.hid (by rw[←HLL.out];simp)
 have hL3:Hid ((g,cur,3)∈LL):=Lib.hid (by rw[←HLL.out];simp)
 have Hbe:Hid (∀i, -100000≤(dT w n).getD i 0∧(dT w n).getD i 0≤100000):=Lib.hid (fun i=>by
  unfold dT
  by_cases h0:i=0
  ·subst h0;simp
  ·obtain⟨j,rfl⟩:∃j,i=j+1:=⟨i-1,by omega⟩
   by_cases hj:j<n.length
   ·have:=hb j
    simpa [List.getD_eq_getElem?_getD,List.getElem?_append_left,hj]using this
   ·by_cases hj2:j=n.length
    ·subst hj2;simpa [List.getD_eq_getElem?_getD]using hwb
    ·have:¬j<n.length+1:=by omega
     have e:([0]++n++[w])[j+1]? =none:=List.getElem?_eq_none (by simp;omega)
     simp only[List.getD_eq_getElem?_getD,e]
     simp)
 have H0s:=Lib.hid (fT w n 0)
 have H1s:=Lib.hid (fT w n 1)
 have HLn:Hid (∀i,(cK w n 0 i).length≤i∧(cK w n 1 i).length≤i):=Lib.hid (fun i=>⟨by unfold cK;rw[List.length_map];exact Nat.le_trans (List.length_filter_le _ _) (by simp),by unfold cK;rw[List.length_map];exact Nat.le_trans (List.length_filter_le _ _) (by simp)⟩)
 have HB:Hid (∀i W',Calls Tryz.prog 72 #[.int .i64 1, .int .i64 ((dT w n).getD i 0), .int .i64 ((dT w n).getD (i+1) 0)] W' fun e w'=>∃r,e= .returned r∧Below W'.heap.size W' w'∧PO W'.heap.size (im w n i) r w'):=Lib.hid (fun i W'=>by
  have b1:=Hbe.out i
  have b2:=Hbe.out (i+1)
  exact bO 1 _ _ W' (by omega) (by omega) (by omega))
 generalize cK w n 0=T0 at*
 generalize cK w n 1=T1 at*
 generalize im w n=sL at*
 generalize dT w n=eL at*
 clear hb hwb hln h1 HLL Hbe hc
 go_loopw [19] (fun x wr=>∃i:Nat,i≤N+1∧x= .int .i64 i∧∃a0 a1,Hid (KI W (W.heap.size+1) LL (W.heap.size+1) (T0 i) (T1 i) a0 a1 wr)) (fun x _=>N+1-(intOf x).toNat)
 case atStart=>exact⟨0,by omega,rfl,_,_,HKI⟩
 case round=>
  obtain⟨i,hi,rfl,a0,a1,HK⟩:=hrel
  have hK:=HK.out
  have H8:=Lib.hid (hK.at _ hL2.out)
  have r8:wr.cell? ⟨W.heap.size+1+1,0,none⟩=some (.slice (some ⟨W.heap.size+1,0,none⟩) 2 2):=(ag H8.out 0).trans rfl
  have z8:=ah H8.out
  have zk:=ah hK.row
  have zr:=hK.below.size
  have zB:W.heap.size+1≤wr.heap.size:=Nat.le_of_lt zk
  have HLi:=Lib.hid (HLn.out i)
  obtain⟨aa0,ac0,rfl⟩:=hK.c0.shape
  obtain⟨aa1,ac1,rfl⟩:=hK.c1.shape
  by_cases hlt:i<N+1
  ·have hgc:=hK.at _ hL3.out
   have e0:=(ag hgc i).trans (Hcur.out i (by omega))
   have e1:=(ag hgc (i+1)).trans (Hcur.out (i+1) (by omega))
   have zgg:=ah hgc
   have eB:=fun W'=>Lib.hid (HB.out i W')
   have H0:=Lib.hid (H0s.out i)
   have H1:=Lib.hid (H1s.out i)
   generalize eL.getD i 0=x0 at*
   generalize eL.getD (i+1) 0=x1 at*
   generalize sL i=ps at*
   have g1:(i:Int)<(N:Int)+1:=by omega
   have g2:(0:Int)≤(i:Int):=by omega
   have g3:(i:Int)<(N:Int)+2:=by omega
   have g4:(i:Int)+1<(N:Int)+2:=by omega
   have g5:(0:Int)≤(i:Int)+1:=by omega
   have k4:IntKind.i64.wrap ((i:Int)+1)=(i:Int)+1:=IntWalk.i64_in _ (by omega)
   clear hK hgc
   rcases(by omega:i % 2=0∨i % 2=1)with hp|hp
   ·obtain⟨C0,HC0⟩:∃C0,Hid (T0 i++[ps]=C0):=⟨_,Lib.hid rfl⟩
    have H0':Hid (T0 (i+1)=C0):=Lib.hid (by rw[H0.out,if_pos hp];exact HC0.out)
    have H1':Hid (T1 (i+1)=T1 i):=Lib.hid (by rw[H1.out,if_neg (by omega),List.append_nil])
    clear H0 H1
    have rk0:=(ag HK.out.row 0).trans rfl
    have hrm:Int.tmod (i:Int) 2=0:=by rw[Int.tmod_eq_emod_of_nonneg (by omega)];omega
    clear hp
    go_wp2
    apply bW [0,1,2,3] [0,1,2,3,4,5,6,7,8,9,10,11,12,13,14,15,16,17,18,19,20] 21 [] 22 [23] [sv _,sv _,sv _,sv _,sv _,sv _,sv _,sv _,sv _,sv _,sv _,sv _,sv _,sv _,sv _,sv _,sv _,sv _,sv _,sPO (W.heap.size+1) ps,sFO (W.heap.size+1) [ps]] (fun w'=>w'.cell? ⟨W.heap.size+1+1,0,none⟩=some (.slice (some ⟨W.heap.size+1,0,none⟩) 2 2)) (by kernel_rfl) (by kernel_rfl) (by kernel_rfl) (fun u=>ab u.below r8)
    ·(try go_frame)
     refine du rfl rfl ?_
     apply Exists.intro
     apply And.intro
     ·intro w9 h9
      go_simp
      first|rfl|(simp only[h9];rfl)
     refine⟨rfl, ?_⟩
     (try go_frame)
     refine du rfl rfl ?_
     apply Exists.intro
     apply And.intro
     ·intro w9 h9
      go_simp
      first|rfl|(simp only[h9];rfl)
     refine⟨rfl, ?_⟩
     (try go_frame)
     refine du rfl rfl ?_
     apply Exists.intro
     apply And.intro
     ·intro w9 h9
      go_simp
      first|rfl|(simp only[h9];rfl)
     refine⟨rfl, ?_⟩
     (try go_frame)
     refine du rfl rfl ?_
     apply Exists.intro
     apply And.intro
     ·intro w9 h9
      go_simp
      first|rfl|(simp only[h9];rfl)
     refine⟨rfl, ?_⟩
     exact gR
    iterate 19 ((try go_frame);refine wkQ ?_)
    try go_frame
    refine wkU (fun u hR K hK=> ?_) (fun o19=> ?_)
    ·clear hR
     go_simp
     refine((eB _).out).mono ?_
     rintro e w9 ⟨v9,rfl,hb9,hp9⟩
     exact hK _ _ hb9 (AY hp9 (by have:=u.size;omega))
    try go_frame
    refine wkU (fun u hR K hK=> ?_) (fun o20=> ?_)
    ·have h19:(PO (W.heap.size+1) ps) o19 u.val:=hr hR 19
     clear hR
     have zw:=u.size
     obtain⟨ya,yc,rfl⟩:=(h19).shape
     have H1:=Lib.hid h19
     clear h19
     go_simp
     exact hK _ _ bel (bi [_] [_] (by omega) ⟨H1.out,trivial⟩ bel)
    try go_frame
    refine aI (fun u hR=> ?_)
    have HF:Hid (FO (W.heap.size+1) [ps] o20 u.val):=Lib.hid (hR 20 (by simp))
    have HK1:=Lib.hid (HK.out.grow u.below)
    have H81:=Lib.hid ((u.below.block _ (ah H8.out)).trans H8.out)
    have zB1:=Nat.le_trans zB u.below.size
    clear hR HK H8 zB r8 z8 rk0 zk zr
    generalize u.val=wx at*
    clear u
    simp only[oas]
    refine bE HK1.out.c0 HF.out _ _ rfl rfl rfl rfl (by have:=HLi.out;simp;omega) zB1 fun v' w' hc' hg' ha'=> ?_
    rw[HC0.out]at hc'
    have H82:Hid (w'.heap[W.heap.size+1+1]? =_):=Lib.hid ((hg'.block _ (ah H81.out) (fg HK1.out.c0 H81.out (by decide))).trans H81.out)
    have hrow:w'.heap[W.heap.size+1]? =_:=(hg'.block _ (ah HK1.out.row) (fg HK1.out.c0 HK1.out.row (by decide))).trans HK1.out.row
    have HK:Hid (KI W (W.heap.size+1) _ (W.heap.size+1) (C0) (T1 i) (v') (.slice aa1 (T1 i).length ac1) (w'.setCell ⟨W.heap.size+1,0,none⟩ v')):=Lib.hid (HK1.out.app0 hg' hc' ha')
    obtain⟨vva0,vvc0,rfl⟩:=hc'.shape
    have r8:w'.cell? ⟨W.heap.size+1+1,0,none⟩=some (.slice (some ⟨W.heap.size+1,0,none⟩) 2 2):=(ag H82.out 0).trans rfl
    refine⟨r8, ?_⟩
    have rk0:=(ag hrow 0).trans rfl
    have rkf:=aC hrow 0
    have zk:=ah hrow
    clear hc' hg' ha' hrow HK1 H81 H82 zB1 HF
    simp only[oas]
    go_wp2
    refine NoPanic.normal ?_
    clear rk0 rkf zk r8
    generalize w'.setCell ⟨W.heap.size+1,0,none⟩ (.slice vva0 (C0).length vvc0)=wr at*
    rw[←H0'.out, ←H1'.out]at HK
    go_wp2
    go_roundw
    case rel=>exact⟨i+1,by omega,by go_num,_,_,HK⟩
    case measure=>simp[intOf];omega
   ·obtain⟨C0,HC0⟩:∃C0,Hid (T1 i++[ps]=C0):=⟨_,Lib.hid rfl⟩
    have H0':Hid (T0 (i+1)=T0 i):=Lib.hid (by rw[H0.out,if_neg (by omega),List.append_nil])
    have H1':Hid (T1 (i+1)=C0):=Lib.hid (by rw[H1.out,if_pos hp];exact HC0.out)
    clear H0 H1
    have rk0:=(ag HK.out.row 1).trans rfl
    have hrm:Int.tmod (i:Int) 2=1:=by rw[Int.tmod_eq_emod_of_nonneg (by omega)];omega
    clear hp
    go_wp2
    apply bW [0,1,2,3] [0,1,2,3,4,5,6,7,8,9,10,11,12,13,14,15,16,17,18,19,20] 21 [] 22 [23] [sv _,sv _,sv _,sv _,sv _,sv _,sv _,sv _,sv _,sv _,sv _,sv _,sv _,sv _,sv _,sv _,sv _,sv _,sv _,sPO (W.heap.size+1) ps,sFO (W.heap.size+1) [ps]] (fun w'=>w'.cell? ⟨W.heap.size+1+1,0,none⟩=some (.slice (some ⟨W.heap.size+1,0,none⟩) 2 2)) (by kernel_rfl) (by kernel_rfl) (by kernel_rfl) (fun u=>ab u.below r8)
    ·(try go_frame)
     refine du rfl rfl ?_
     apply Exists.intro
     apply And.intro
     ·intro w9 h9
      go_simp
      first|rfl|(simp only[h9];rfl)
     refine⟨rfl, ?_⟩
     (try go_frame)
     refine du rfl rfl ?_
     apply Exists.intro
     apply And.intro
     ·intro w9 h9
      go_simp
      first|rfl|(simp only[h9];rfl)
     refine⟨rfl, ?_⟩
     (try go_frame)
     refine du rfl rfl ?_
     apply Exists.intro
     apply And.intro
     ·intro w9 h9
      go_simp
      first|rfl|(simp only[h9];rfl)
     refine⟨rfl, ?_⟩
     (try go_frame)
     refine du rfl rfl ?_
     apply Exists.intro
     apply And.intro
     ·intro w9 h9
      go_simp
      first|rfl|(simp only[h9];rfl)
     refine⟨rfl, ?_⟩
     exact gR
    iterate 19 ((try go_frame);refine wkQ ?_)
    try go_frame
    refine wkU (fun u hR K hK=> ?_) (fun o19=> ?_)
    ·clear hR
     go_simp
     refine((eB _).out).mono ?_
     rintro e w9 ⟨v9,rfl,hb9,hp9⟩
     exact hK _ _ hb9 (AY hp9 (by have:=u.size;omega))
    try go_frame
    refine wkU (fun u hR K hK=> ?_) (fun o20=> ?_)
    ·have h19:(PO (W.heap.size+1) ps) o19 u.val:=hr hR 19
     clear hR
     have zw:=u.size
     obtain⟨ya,yc,rfl⟩:=(h19).shape
     have H1:=Lib.hid h19
     clear h19
     go_simp
     exact hK _ _ bel (bi [_] [_] (by omega) ⟨H1.out,trivial⟩ bel)
    try go_frame
    refine aI (fun u hR=> ?_)
    have HF:Hid (FO (W.heap.size+1) [ps] o20 u.val):=Lib.hid (hR 20 (by simp))
    have HK1:=Lib.hid (HK.out.grow u.below)
    have H81:=Lib.hid ((u.below.block _ (ah H8.out)).trans H8.out)
    have zB1:=Nat.le_trans zB u.below.size
    clear hR HK H8 zB r8 z8 rk0 zk zr
    generalize u.val=wx at*
    clear u
    simp only[oas]
    refine bE HK1.out.c1 HF.out _ _ rfl rfl rfl rfl (by have:=HLi.out;simp;omega) zB1 fun v' w' hc' hg' ha'=> ?_
    rw[HC0.out]at hc'
    have H82:Hid (w'.heap[W.heap.size+1+1]? =_):=Lib.hid ((hg'.block _ (ah H81.out) (fg HK1.out.c1 H81.out (by decide))).trans H81.out)
    have hrow:w'.heap[W.heap.size+1]? =_:=(hg'.block _ (ah HK1.out.row) (fg HK1.out.c1 HK1.out.row (by decide))).trans HK1.out.row
    have HK:Hid (KI W (W.heap.size+1) _ (W.heap.size+1) (T0 i) (C0) (.slice aa0 (T0 i).length ac0) (v') (w'.setCell ⟨W.heap.size+1,1,none⟩ v')):=Lib.hid (HK1.out.app1 hg' hc' ha')
    obtain⟨vva1,vvc1,rfl⟩:=hc'.shape
    have r8:w'.cell? ⟨W.heap.size+1+1,0,none⟩=some (.slice (some ⟨W.heap.size+1,0,none⟩) 2 2):=(ag H82.out 0).trans rfl
    refine⟨r8, ?_⟩
    have rk0:=(ag hrow 1).trans rfl
    have rkf:=aC hrow 1
    have zk:=ah hrow
    clear hc' hg' ha' hrow HK1 H81 H82 zB1 HF
    simp only[oas]
    go_wp2
    refine NoPanic.normal ?_
    clear rk0 rkf zk r8
    generalize w'.setCell ⟨W.heap.size+1,1,none⟩ (.slice vva1 (C0).length vvc1)=wr at*
    rw[←H0'.out, ←H1'.out]at HK
    go_wp2
    go_roundw
    case rel=>exact⟨i+1,by omega,by go_num,_,_,HK⟩
    case measure=>simp[intOf];omega
  ·obtain rfl:i=N+1:=by omega
   have HR:=Lib.hid (hK.at _ hL0.out)
   obtain⟨x0,x1,xf,xz⟩:=dC H8.out
   obtain⟨r0,r1,rf,rz⟩:=dC HR.out
   have rf0:=rf 0
   have rf1:=rf 1
   have g1:¬((N+1:Nat):Int)<(N:Int)+1:=by omega
   have hN2:=HNn.out
   clear xf rf hK hN2 HNn
   go_wp2
   refine bodyPost_ret (v:= .agg #[.slice (some ⟨W.heap.size+1,0,none⟩) 2 2, .slice none 0 0]) (by simp[results,Tryz.results83,go_sem,r0,r1]) rfl ⟨_,_,rfl, ?_, ?_,Bc⟩
   ·exact(HK.out.below.setCell (by simp) _).setCell (by simp) _
   ·exact((HK.out.ko.put HR.out _ _).mono (B':=W.heap.size) (by omega)).parts
end
end Go.Proofs.YtokhkhnofkcalaaGreatDoor
