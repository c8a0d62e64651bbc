/- texts: FGB FGC O10 O12 O13 FGD FGE FGS. -/
import Derived.Test.YtoidbolmlckhnaaGreatDoorSES43
namespace Go.Proofs.YtoidbolmlckhnaaGreatDoor
set_option maxHeartbeats 8000000
set_option linter.unusedSimpArgs false
set_option linter.unusedVariables false
section
open Go.RowKit Go.Shelf Go.Lib
attribute [local go_sem] Ext.cell Ext.frozen
theorem Yu {x y z:Int} (h:mK (x,y,z)=0):(x,y,z)∈ways26:=by
 unfold mK at h
 simp only at h
 split at h
 ·rename_i hb
  split at h
  ·cases h
  ·rename_i hz
   have hx:x= -1∨x=0∨x=1:=by omega
   have hy:y= -1∨y=0∨y=1:=by omega
   have hz':z= -1∨z=0∨z=1:=by omega
   rcases hx with rfl|rfl|rfl<;>rcases hy with rfl|rfl|rfl<;>rcases hz' with rfl|rfl|rfl<;>first|decide|exact absurd (by decide) hz
 ·cases h
def psB (l:List (List (List Q4))):List (List Bod):=l.map (·.map bp)
theorem WM (l:List (List (List Q4))):(psB l).length=l.length:=List.length_map _
theorem XO {l:List (List (List Q4))} {lv:Value} (W:World) (h0:eB l=0) (h:SolsV W lv l):Calls Tryz.prog 57 #[lv] W (ScP (psB l) W):=
 Fe l lv W (fun s hs=>⟨(rg ((sq h0).2 s hs)).1,Nat.le_trans (rg ((sq h0).2 s hs)).2 (by decide)⟩) (Nat.le_trans (sq h0).1 (by decide)) h
theorem XW {l:List (List (List Q4))} {v:Q3} (h0:eB l=0) (hv:v∈ways26) (sb mb m0:Nat) (D:DataW Value) (pv:Value) (W:World) (hm:m0≤1000) (k1:W.heap[sb]? =some (.cells #[pv, .map (some mb)] 171 (0,0))) (k2:MapS W mb m0 D (eM (psB l))) (k3:PtsV W pv (psB l)):
  Calls Tryz.prog 63 #[.pointer (some ⟨sb,0,none⟩),vW v] W (GrP mb m0 (eM (psB l)) v W):=
 Iu m0 D (psB l) v sb mb pv W hv (fun p hp=>by
  obtain⟨s,hs,rfl⟩:=List.mem_map.1 hp
  have:=rg ((sq h0).2 s hs)
  exact⟨Dm this.1,by rw[List.length_map];exact Nat.le_trans this.2 (by decide)⟩) (by rw[WM];exact(sq h0).1) k1 k2 hm (KE h0 v hv) k3
theorem Yv {W:World} {mb:Nat} {Gf:Q3→List Nat} (k:OwM W mb 0 (.map [])):MapS W mb 0 (.map []) Gf:=⟨k,fun v _ hh=>by simp[Maps.has]at hh⟩
theorem WK (l:List (List (List Q4))) (v:Q3):(eM (psB l) v).length=l.length:=by simp[eM,psB]
theorem XZ {l:List (List (List Q4))} (h0:eB l=0) (v:Q3):∀x∈eM (psB l) v,x<4096:=fun x hx=>by
 obtain⟨i,_,rfl⟩:=List.mem_map.1 hx
 exact Ei _ _ _ _ (by rw[WM];exact(sq h0).1)
end
section
open Go.RowKit Go.Shelf Go.Lib
set_option maxRecDepth 100000
attribute [local go_sem] Ext.cell Ext.frozen
def SGr (l:List (List (List Q4))) (sb:Nat) (G:List Nat) (W:World) (e:Ending) (w':World):Prop:=∃g mb pv,e= .returned (.slice (some ⟨g,0,none⟩) G.length G.length)∧CK W w'∧GphAt w' g G∧
 w'.heap[sb]? =some (.cells #[pv, .map (some mb)] 171 (0,0))∧PtsV w' pv (psB l)
theorem Ya {l:List (List (List Q4))} {x y z:Int} (h0:eB l=0) (h1:mK (x,y,z)=0) (sb mb:Nat) (pv:Value) (X W:World) (hmb:X.heap.size≤mb) (hXW:Below X.heap.size X W) (k1:W.heap[sb]? =some (.cells #[pv, .map (some mb)] 171 (0,0))) (k2:OwM W mb 0 (.map [])) (hne:mb≠sb) (k3:PtsV W pv (psB l)):
  Calls Tryz.prog 63 #[.pointer (some ⟨sb,0,none⟩),V3 x y z] W (fun e w'=>SGr l sb (eM (psB l) (x,y,z)) W e w'∧Below X.heap.size X w'):=by
 have h:=XW h0 (Yu h1) sb mb 0 (.map []) pv W (by omega) k1 (Yv k2) k3
 refine h.mono ?_
 rintro e w' ⟨g,m',D',he,hb,hs,hk,hg, -⟩
 have hbm:ButM mb W w':=⟨hb,hs,hk⟩
 exact⟨⟨g,mb,pv,he,hbm.ck k2,hg,(hk _ (ah k1) (fun e=>hne e.symm)).trans k1,(hbm.ck k2).pts k3⟩,hXW.trans (hb.mono hmb)⟩
def mvE (l:List (List (List Q4))) (xs:List Int) (w:Q3):Int:=if eB l=0 then(if gh xs l.length=0 then mK w else gh xs l.length)else eB l
def mvB (l:List (List (List Q4))) (xs:List Int) (w:Q3):Bool:=XM (eM (psB l) w) (2 ^ l.length-1) (nr xs)
def crE (l:List (List (List Q4))) (n:Int) (w:Q3):Int:=if eB l=0 then(if 0≤n∧n<l.length then mK w else 6)else eB l
def crL (l:List (List (List Q4))) (n:Nat) (w:Q3):List Nat:=av (car (eM (psB l) w) (2 ^ l.length-1) n)
theorem Yl (l:List (List (List Q4))) (xs:List Int) (lv nv:Value) (x y z:Int) (W:World) (hL:∀s∈l,∀c∈s,c.length≤1000000) (hxl:xs.length≤1000000) (h:SolsV W lv l) (hn:Ints W nv xs) (hT:TabAt 1 Lib.deBruijn64tab W):
  Calls Tryz.prog 27 #[lv,nv,V3 x y z] W (Ret W (.tuple #[.bool (decide (mvE l xs (x,y,z)=0)&&mvB l xs (x,y,z)), .int .i64 (mvE l xs (x,y,z))])):=by
 have HCk:=fun W' (h':Below W.heap.size W W')=>YJ (Gd l lv W' hL (SolsV.below h h'))
 have HCs:=fun W' (h':Below W.heap.size W W')=>YJ (En xs nv l.length W' hxl (Ints.below hn h'))
 have HCW:=fun W'=>YJ (Ru x y z W')
 have HSc:=fun(h0:eB l=0) W' (h':Below W.heap.size W W')=>YJ (XO W' h0 (SolsV.below h h'))
 have HGr:=fun(h0:eB l=0) (h1:mK (x,y,z)=0) sb mb pv X W' hmb hXW k1 k2 hne k3=>YJ (Ya (l:=l) h0 h1 sb mb pv X W' hmb hXW k1 k2 hne k3)
 have HSt:=fun(h0:eB l=0) (h1:gh xs l.length=0) W' (h':Below W.heap.size W W')=>YJ (Cx xs nv W' (fun x hx=>by have:=DO h1 x hx;have:=(sq h0).1;omega) hxl (Ints.below hn h'))
 have HAl:=fun(h0:eB l=0) sb mb pv W' k1 k3=>YJ (show Calls Tryz.prog 65 #[.pointer (some ⟨sb,0,none⟩)] W' (fun e w'=>e= .returned (.int .u64 ((2 ^ l.length-1:Nat):Int))∧w'=W')from by have:=XS (psB l) sb mb pv W' (by rw[WM];exact(sq h0).1) k1 k3;rwa [WM]at this)
 have HMv:=fun(h0:eB l=0) (h1:gh xs l.length=0) g W' (h':Below W.heap.size W W') (hg:GphAt W' g (eM (psB l) (x,y,z)))=>YJ (Yk (eM (psB l) (x,y,z)) (nr xs) (2 ^ l.length-1) g (eM (psB l) (x,y,z)).length W' (XZ h0 _) (by rw[WK];exact(sq h0).1) (by rw[WK];exact Kf _ _ (DO h1)) (WQ (sq h0).1) (Nat.le_refl _) hg (ma hT h'))
 have HmB:Hid (mvB l xs (x,y,z)=XM (eM (psB l) (x,y,z)) (2 ^ l.length-1) (nr xs)):=YJ rfl
 rw[←HmB.out]at HMv
 have He1:Hid (eB l≠0→mvE l xs (x,y,z)=eB l):=YJ (fun h=>by unfold mvE;rw[if_neg h])
 have He2:Hid (eB l=0→gh xs l.length≠0→mvE l xs (x,y,z)=gh xs l.length):=YJ (fun h h'=>by unfold mvE;rw[if_pos h,if_neg h'])
 have He3:Hid (eB l=0→gh xs l.length=0→mvE l xs (x,y,z)=mK (x,y,z)):=YJ (fun h h'=>by unfold mvE;rw[if_pos h,if_pos h'])
 have HlV:Hid (∃a c,lv= .slice a l.length c):=YJ (by obtain⟨a,n,c,rfl,hn,_⟩:=h;exact⟨a,c,by rw[hn]⟩)
 have HnV:Hid (∃a c,nv= .slice a xs.length c):=YJ (by obtain⟨a,n,c,rfl,hn',_⟩:=hn;exact⟨a,c,by rw[hn']⟩)
 obtain⟨la,lc,rfl⟩:=HlV.out
 obtain⟨na,nc,rfl⟩:=HnV.out
 clear h hn hL hxl HlV HnV HmB hT
 generalize eM (psB l) (x,y,z)=G at*
 generalize mvB l xs (x,y,z)=mb at*
 generalize mvE l xs (x,y,z)=R at*
 generalize mK (x,y,z)=E at*
 generalize gh xs l.length=D at*
 generalize eB l=A at*
 generalize nr xs=F at*
 obtain⟨AL,HAL⟩:∃AL:Nat,Hid (2 ^ l.length-1=AL):=⟨_,YJ rfl⟩
 rw[HAL.out]at HAl HMv
 clear HAL
 generalize l.length=ln at*
 generalize xs.length=xn at*
 obtain⟨gl,Hgl⟩:∃gl,Hid (G.length=gl):=⟨_,YJ rfl⟩
 rw[Hgl.out]at HMv
 have HSG:=fun sb W' e w' (h:SGr l sb G W' e w')=>YJ (show ∃g mb pv,e= .returned (.slice (some ⟨g,0,none⟩) gl gl)∧CK W' w'∧GphAt w' g G∧w'.heap[sb]? =some (.cells #[pv, .map (some mb)] 171 (0,0))∧PtsV w' pv (psB l)from by rw[←Hgl.out];exact h)
 clear Hgl
 go_enter Tryz.func27,Tryz.ntmps27
 go_wp2_with fail
 refine((HCk _ bel).out).mono ?_
 rintro e w1 ⟨rfl,hb1⟩
 have hw1:Below W.heap.size W w1:=fB bel hb1
 have HB1:Hid (w1.heap[W.heap.size]? =some (.cells #[.int .i64 x, .int .i64 y, .int .i64 z] 26 (0,0))):=YJ ((hb1.block _ (by simp)).trans (ai rfl))
 clear HCk hb1
 by_cases hA:A=0
 ·subst hA
  have HSc':=fun W' h'=>YJ (HSc (by first|rfl|trivial) W' h').out
  have HGr1:=fun h1 sb mb pv X W' a b c d e f=>YJ (HGr (by first|rfl|trivial) h1 sb mb pv X W' a b c d e f).out
  have HSt1:=fun h1 W' h'=>YJ (HSt (by first|rfl|trivial) h1 W' h').out
  have HAl':=fun sb mb pv W' k1 k3=>YJ (HAl (by first|rfl|trivial) sb mb pv W' k1 k3).out
  have HMv1:=fun h1 g W' h' hg=>YJ (HMv (by first|rfl|trivial) h1 g W' h' hg).out
  have He2':=YJ (He2.out (by first|rfl|trivial))
  have He3':=YJ (He3.out (by first|rfl|trivial))
  clear HSc HGr HSt HAl HMv He1 He2 He3
  go_wp2_with fail
  refine((HCs _ hw1).out).mono ?_
  rintro e w2 ⟨rfl,hb2⟩
  have hw2:=fB hw1 hb2
  have HB2:=YJ ((hb2.block _ (ah HB1.out)).trans HB1.out)
  clear HCs hb2 HB1
  by_cases hD:D=0
  ·subst hD
   have hR:=He3'.out (by first|rfl|trivial)
   subst hR
   have HSt2:=fun W' h'=>YJ (HSt1 (by first|rfl|trivial) W' h').out
   have HMv2:=fun g W' h' hg=>YJ (HMv1 (by first|rfl|trivial) g W' h' hg).out
   obtain⟨x0,x1,x2,xf,xz⟩:=NO HB2.out
   clear HSt1 HMv1 He2' He3'
   go_wp2_with fail
   refine((HCW _).out).mono ?_
   rintro e w3 ⟨rfl,hb3⟩
   have hw3:=fB hw2 hb3
   have HB3:=YJ ((hb3.block _ (ah HB2.out)).trans HB2.out)
   clear HCW x0 x1 x2 xf xz hb3 HB2
   by_cases hE:R=0
   ·subst hE
    have HGr2:=fun sb mb pv X W' a b c d e f=>YJ (HGr1 (by first|rfl|trivial) sb mb pv X W' a b c d e f).out
    clear HGr1
    go_wp2_with fail
    refine((HSc' _ hw3).out).mono ?_
    rintro e w4 ⟨sb,mm,pv,rfl,hb4,hS4,hM4,hmb4,hsb4,hne4,hP4⟩
    have HB4:=YJ ((hb4.block _ (ah HB3.out)).trans HB3.out)
    obtain⟨x0,x1,x2,xf,xz⟩:=NO HB4.out
    have HG5:=YJ (HGr2 sb mm pv w3 w4 hmb4 hb4 hS4 hM4 hne4 hP4).out
    clear HSc' HGr2 hS4 hM4 hP4
    go_wp2_with fail
    refine(HG5.out).mono ?_
    rintro e w5 ⟨hsg,hb35⟩
    obtain⟨g,mm5,pv5,rfl, -,hG5,hS5,hP5⟩:=(HSG sb w4 e w5 hsg).out
    have hw5:=fB hw3 hb35
    have HAl5:=YJ (HAl' sb mm5 pv5 w5 hS5 hP5).out
    have HMv5:=YJ (HMv2 g w5 hw5 hG5).out
    have HSt5:=YJ (HSt2 w5 hw5).out
    clear HG5 hsg HSG HAl' HMv2 HSt2 hG5 hS5 hP5 x0 x1 x2 xf xz
    go_wp2_with fail
    refine(HSt5.out).mono ?_
    rintro e w6 ⟨rfl,rfl⟩
    go_wp2_with fail
    refine(HAl5.out).mono ?_
    rintro e w6 ⟨rfl,rfl⟩
    go_wp2_with fail
    refine(HMv5.out).mono ?_
    rintro e w7 ⟨rfl,hb7⟩
    have hw7:=fB hw5 hb7
    clear HSt5 HAl5 HMv5
    go_wp2
    go_ret2
    exact⟨by simp,hw7⟩
   ·have hE':(R !=0)=true:=by simpa using hE
    clear HSc' HGr1 HSt2 HAl' HMv2
    go_wp2
    go_ret2
    exact⟨by simp[hE],hw3⟩
  ·have hD':(D !=0)=true:=by simpa using hD
   have hR:=He2'.out hD
   subst hR
   clear HSc' HGr1 HSt1 HAl' HMv1 He2' He3' HCW
   go_wp2
   go_ret2
   exact⟨by simp[hD],hw2⟩
 ·have hA':(A !=0)=true:=by simpa using hA
  have hR:=He1.out hA
  subst hR
  clear HSc HGr HSt HAl HMv He1 He2 He3 HCW HCs
  go_wp2
  go_ret2
  exact⟨by simp[hA],hw1⟩
def CarP (l:List (List (List Q4))) (n:Int) (w:Q3) (W:World) (e:Ending) (w':World):Prop:=Below W.heap.size W w'∧
 ((crE l n w≠0∧e= .returned (.tuple #[.slice none 0 0, .int .i64 (crE l n w)]))∨(crE l n w=0∧∃v,e= .returned (.tuple #[v, .int .i64 0])∧OwnI W.heap.size w' v (crL l n.toNat w)))
theorem XT (l:List (List (List Q4))) (n:Int) (lv:Value) (x y z:Int) (W:World) (hL:∀s∈l,∀c∈s,c.length≤1000000) (h:SolsV W lv l) (hT:TabAt 1 Lib.deBruijn64tab W):
  Calls Tryz.prog 28 #[lv, .int .i64 n,V3 x y z] W (CarP l n (x,y,z) W):=by
 have HCk:=fun W' (h':Below W.heap.size W W')=>YJ (Gd l lv W' hL (SolsV.below h h'))
 have HCW:=fun W'=>YJ (Ru x y z W')
 have HSc:=fun(h0:eB l=0) W' (h':Below W.heap.size W W')=>YJ (XO W' h0 (SolsV.below h h'))
 have HGr:=fun(h0:eB l=0) (h1:mK (x,y,z)=0) sb mb pv X W' hmb hXW k1 k2 hne k3=>YJ (Ya (l:=l) h0 h1 sb mb pv X W' hmb hXW k1 k2 hne k3)
 have HAl:=fun(h0:eB l=0) sb mb pv W' k1 k3=>YJ (show Calls Tryz.prog 65 #[.pointer (some ⟨sb,0,none⟩)] W' (fun e w'=>e= .returned (.int .u64 ((2 ^ l.length-1:Nat):Int))∧w'=W')from by have:=XS (psB l) sb mb pv W' (by rw[WM];exact(sq h0).1) k1 k3;rwa [WM]at this)
 have HCa:=fun(h0:eB l=0) (hn:0≤n∧n<l.length) g W' (h':Below W.heap.size W W') (hg:GphAt W' g (eM (psB l) (x,y,z)))=>YJ (show Calls Tryz.prog 66 #[.slice (some ⟨g,0,none⟩) (eM (psB l) (x,y,z)).length (eM (psB l) (x,y,z)).length, .int .i64 n, .int .u64 ((2 ^ l.length-1:Nat):Int)] W' (Ret W' (.int .u64 (car (eM (psB l) (x,y,z)) (2 ^ l.length-1) n.toNat)))from by
  have:=Ff (eM (psB l) (x,y,z)) n.toNat (2 ^ l.length-1) g (eM (psB l) (x,y,z)).length W' (XZ h0 _) (by rw[WK];exact(sq h0).1) (by rw[WK];omega) (by rw[WK];have:=Nat.two_pow_pos l.length;omega) (Nat.le_refl _) hg (ma hT h')
  rwa [Int.toNat_of_nonneg hn.1]at this)
 have HLi:=fun(h0:eB l=0) (hn:0≤n∧n<l.length) W' (h':Below W.heap.size W W')=>YJ (show Calls Tryz.prog 67 #[.int .u64 (car (eM (psB l) (x,y,z)) (2 ^ l.length-1) n.toNat)] W' (ME (crL l n.toNat (x,y,z)) W')from ES _ W' (Me _ _ _ (WQ (sq h0).1) (by have:=(sq h0).1;omega)) (ma hT h'))
 have He1:Hid (eB l≠0→crE l n (x,y,z)=eB l):=YJ (fun h=>by unfold crE;rw[if_neg h])
 have He2:Hid (eB l=0→¬(0≤n∧n<l.length)→crE l n (x,y,z)=6):=YJ (fun h h'=>by unfold crE;rw[if_pos h,if_neg h'])
 have He3:Hid (eB l=0→(0≤n∧n<l.length)→crE l n (x,y,z)=mK (x,y,z)):=YJ (fun h h'=>by unfold crE;rw[if_pos h,if_pos h'])
 have Hpost:Hid (∀e w',(Below W.heap.size W w'∧((crE l n (x,y,z)≠0∧e= .returned (.tuple #[.slice none 0 0, .int .i64 (crE l n (x,y,z))]))∨(crE l n (x,y,z)=0∧∃v,e= .returned (.tuple #[v, .int .i64 0])∧OwnI W.heap.size w' v (crL l n.toNat (x,y,z)))))→CarP l n (x,y,z) W e w'):=YJ (fun e w' h=>h)
 refine Calls.mono ?_ Hpost.out
 have HlV:Hid (∃a c,lv= .slice a l.length c):=YJ (by obtain⟨a,n,c,rfl,hn,_⟩:=h;exact⟨a,c,by rw[hn]⟩)
 obtain⟨la,lc,rfl⟩:=HlV.out
 clear h hL HlV hT Hpost
 generalize crL l n.toNat (x,y,z)=CL at*
 generalize crE l n (x,y,z)=R at*
 generalize car (eM (psB l) (x,y,z)) (2 ^ l.length-1) n.toNat=CA at*
 generalize eM (psB l) (x,y,z)=G at*
 generalize mK (x,y,z)=E at*
 generalize eB l=A at*
 obtain⟨AL,HAL⟩:∃AL:Nat,Hid (2 ^ l.length-1=AL):=⟨_,YJ rfl⟩
 rw[HAL.out]at HAl HCa
 clear HAL
 generalize l.length=ln at*
 obtain⟨gl,Hgl⟩:∃gl,Hid (G.length=gl):=⟨_,YJ rfl⟩
 rw[Hgl.out]at HCa
 have HSG:=fun sb W' e w' (h:SGr l sb G W' e w')=>YJ (show ∃g mb pv,e= .returned (.slice (some ⟨g,0,none⟩) gl gl)∧CK W' w'∧GphAt w' g G∧w'.heap[sb]? =some (.cells #[pv, .map (some mb)] 171 (0,0))∧PtsV w' pv (psB l)from by rw[←Hgl.out];exact h)
 clear Hgl
 go_enter Tryz.func28,Tryz.ntmps28
 go_wp2_with fail
 refine((HCk _ bel).out).mono ?_
 rintro e w1 ⟨rfl,hb1⟩
 have hw1:Below W.heap.size W w1:=fB bel hb1
 have HB1:Hid (w1.heap[W.heap.size]? =some (.cells #[.int .i64 x, .int .i64 y, .int .i64 z] 26 (0,0))):=YJ ((hb1.block _ (by simp)).trans (ai rfl))
 clear HCk hb1
 by_cases hA:A=0
 ·subst hA
  have HSc':=fun W' h'=>YJ (HSc (by first|rfl|trivial) W' h').out
  have HGr1:=fun h1 sb mb pv X W' a b c d e f=>YJ (HGr (by first|rfl|trivial) h1 sb mb pv X W' a b c d e f).out
  have HAl':=fun sb mb pv W' k1 k3=>YJ (HAl (by first|rfl|trivial) sb mb pv W' k1 k3).out
  have HCa1:=fun hn g W' h' hg=>YJ (HCa (by first|rfl|trivial) hn g W' h' hg).out
  have HLi1:=fun hn W' h'=>YJ (HLi (by first|rfl|trivial) hn W' h').out
  have He2':=YJ (He2.out (by first|rfl|trivial))
  have He3':=YJ (He3.out (by first|rfl|trivial))
  clear HSc HGr HAl HCa HLi He1 He2 He3
  by_cases hin:0≤n∧n<ln
  ·have hR:=He3'.out hin
   subst hR
   have HCa2:=fun g W' h' hg=>YJ (HCa1 hin g W' h' hg).out
   have HLi2:=fun W' h'=>YJ (HLi1 hin W' h').out
   have q1:¬n<0:=by omega
   have q2:¬(ln:Int)≤n:=by omega
   obtain⟨x0,x1,x2,xf,xz⟩:=NO HB1.out
   clear HCa1 HLi1 He2' He3'
   go_wp2_with fail
   refine((HCW _).out).mono ?_
   rintro e w3 ⟨rfl,hb3⟩
   have hw3:=fB hw1 hb3
   have HB3:=YJ ((hb3.block _ (ah HB1.out)).trans HB1.out)
   clear HCW x0 x1 x2 xf xz hb3 HB1
   by_cases hE:R=0
   ·subst hE
    have HGr2:=fun sb mb pv X W' a b c d e f=>YJ (HGr1 (by first|rfl|trivial) sb mb pv X W' a b c d e f).out
    clear HGr1
    go_wp2_with fail
    refine((HSc' _ hw3).out).mono ?_
    rintro e w4 ⟨sb,mm,pv,rfl,hb4,hS4,hM4,hmb4,hsb4,hne4,hP4⟩
    have HB4:=YJ ((hb4.block _ (ah HB3.out)).trans HB3.out)
    obtain⟨x0,x1,x2,xf,xz⟩:=NO HB4.out
    have HG5:=YJ (HGr2 sb mm pv w3 w4 hmb4 hb4 hS4 hM4 hne4 hP4).out
    clear HSc' HGr2 hS4 hM4 hP4
    go_wp2_with fail
    refine(HG5.out).mono ?_
    rintro e w5 ⟨hsg,hb35⟩
    obtain⟨g,mm5,pv5,rfl, -,hG5,hS5,hP5⟩:=(HSG sb w4 e w5 hsg).out
    have hw5:=fB hw3 hb35
    have HAl5:=YJ (HAl' sb mm5 pv5 w5 hS5 hP5).out
    have HCa5:=YJ (HCa2 g w5 hw5 hG5).out
    clear HG5 hsg HSG HAl' HCa2 hG5 hS5 hP5 x0 x1 x2 xf xz
    go_wp2_with fail
    refine(HAl5.out).mono ?_
    rintro e w6 ⟨rfl,rfl⟩
    go_wp2_with fail
    refine(HCa5.out).mono ?_
    rintro e w7 ⟨rfl,hb7⟩
    have hw7:=fB hw5 hb7
    have HLi7:=YJ (HLi2 w7 hw7).out
    clear HAl5 HCa5 HLi2
    unfold ME at HLi7
    go_wp2_with fail
    refine(HLi7.out).mono ?_
    rintro e w8 ⟨v,rfl,hb8,hown⟩
    obtain⟨va,vc,rfl⟩:=aT hown
    have HO8:=YJ (AY hown hw7.size)
    have hw8:=fB hw7 hb8
    clear HLi7 hown
    go_wp2
    go_ret2
    exact⟨hw8,_,rfl,HO8.out⟩
   ·have hE':(R !=0)=true:=by simpa using hE
    clear HSc' HGr1 HAl' HCa2 HLi2
    go_wp2
    go_ret2
    exact⟨hw3, .inl ⟨hE,rfl⟩⟩
  ·have hR:=He2'.out hin
   subst hR
   clear HSc' HGr1 HAl' HCa1 HLi1 He2' He3' HCW
   by_cases q1:n<0
   ·go_wp2
    go_ret2
    exact⟨hw1, .inl ⟨by decide,rfl⟩⟩
   ·have q2:(ln:Int)≤n:=by omega
    go_wp2
    go_ret2
    exact⟨hw1, .inl ⟨by decide,rfl⟩⟩
 ·have hA':(A !=0)=true:=by simpa using hA
  have hR:=He1.out hA
  subst hR
  clear HSc HGr HAl HCa HLi He1 He2 He3 HCW
  go_wp2
  go_ret2
  exact⟨hw1, .inl ⟨hA,rfl⟩⟩
end
section
open Go.RowKit
theorem Rch.mono {E:Nat→Nat→Prop} {g h:Nat→Prop} {n k:Nat} (hs:∀x,g x→h x) (r:Rch E g n k):Rch E h n k:=by
 induction r with
 |base=>exact .base
 |step _ e gk ih=>exact .step ih e (hs _ gk)
theorem Rch.trans {E:Nat→Nat→Prop} {g:Nat→Prop} {n j k:Nat} (r:Rch E g n j) (s:Rch E g j k):Rch E g n k:=by
 induction s with
 |base=>exact r
 |step _ e gk ih=>exact .step ih e gk
theorem Rch.inG {E:Nat→Nat→Prop} {g:Nat→Prop} {n k:Nat} (hn:g n) (r:Rch E g n k):g k:=by
 cases r with
 |base=>exact hn
 |step _ _ gk=>exact gk
def WY (E:Nat→Nat→Prop) (all rest:Nat→Prop):Prop:=∀j k,all j→¬rest j→rest k→¬E j k
theorem WR {E:Nat→Nat→Prop} {all rest:Nat→Prop} (hs:WY E all rest) (hsub:∀x,rest x→all x) {n k:Nat} (hn:rest n) (hk:rest k):Rch E all n k↔Rch E rest n k:=by
 refine⟨fun r=> ?_,Rch.mono hsub⟩
 induction r with
 |base=>exact .base
 | @step j k r e gk ih=>
  have hj:rest j:=Classical.byContradiction fun h=>hs j k (Rch.inG (hsub n hn) r) h hk e
  exact .step (ih hj) e hk
def XX (E:Nat→Nat→Prop) (rest:Nat→Prop) (n:Nat):Prop:=∀k,Rch E rest n k→∀y,Rch E rest k y↔Rch E rest n y
def InR (E:Nat→Nat→Prop) (all rest:Nat→Prop) (n k:Nat):Prop:=rest k∧Rch E all n k∧Rch E all k n
def YA (E:Nat→Nat→Prop) (all rest:Nat→Prop) (n:Nat):Prop:=∀j y,InR E all rest n j→rest y→¬InR E all rest n y→¬E j y
theorem XB {E:Nat→Nat→Prop} {all rest:Nat→Prop} (hs:WY E all rest) (hsub:∀x,rest x→all x) {n:Nat} (hn:rest n) (h:XX E rest n) (k:Nat):InR E all rest n k↔Rch E rest n k:=by
 constructor
 ·rintro⟨hk,h1, -⟩
  exact(WR hs hsub hn hk).1 h1
 ·intro r
  have hk:=Rch.inG hn r
  exact⟨hk,(WR hs hsub hn hk).2 r,(WR hs hsub hk hn).2 ((h k r n).2 .base)⟩
theorem YB {E:Nat→Nat→Prop} {all rest:Nat→Prop} (hs:WY E all rest) (hsub:∀x,rest x→all x) {n:Nat} (hn:rest n):XX E rest n↔YA E all rest n:=by
 constructor
 ·intro h j y hj hy hny he
  exact hny ((XB hs hsub hn h y).2 (.step ((XB hs hsub hn h j).1 hj) he hy))
 ·intro h
  have hown:∀k,Rch E rest n k→InR E all rest n k:=by
   intro k r
   induction r with
   |base=>exact⟨hn, .base, .base⟩
   | @step j k _ e gk ih=>exact Classical.byContradiction fun hk=>h j k ih gk hk e
  intro k r y
  have hk:=hown k r
  have back:Rch E rest k n:=(WR hs hsub hk.1 hn).1 hk.2.2
  exact⟨fun s=>r.trans s,fun s=>back.trans s⟩
theorem XY {E:Nat→Nat→Prop} {rest:Nat→Prop} (size:Nat→Nat) (own:Nat→List Nat) (hm:∀n,rest n→∀k,k∈own n↔Rch E rest n k) (hnd:∀n,(own n).Nodup) {n0:Nat} (h0:rest n0):∃n,rest n∧XX E rest n:=by
 have key:∀m n,rest n→(own n).length≤m→∃n,rest n∧XX E rest n:=by
  intro m
  induction m with
  |zero=>
   intro n hn hl
   have:=(hm n hn n).2 .base
   have:=List.length_pos_of_mem this
   omega
  |succ m ih=>
   intro n hn hl
   by_cases h:∃k,Rch E rest n k∧(own k).length<(own n).length
   ·obtain⟨k,r,hlt⟩:=h
    exact ih k (Rch.inG hn r) (by omega)
   ·refine⟨n,hn,fun k r y=>⟨fun s=>r.trans s,fun s=> ?_⟩⟩
    have hk:=Rch.inG hn r
    have hle:(own n).length≤(own k).length:=Nat.le_of_not_lt fun hlt=>h ⟨k,r,hlt⟩
    refine(hm k hk y).1 (Classical.byContradiction fun hy=> ?_)
    have:=Vi (y::own k) (own n) (List.nodup_cons.2 ⟨hy,hnd k⟩) (fun x hx=>by
     rcases List.mem_cons.1 hx with rfl|hx
     ·exact(hm n hn x).2 s
     ·exact(hm n hn x).2 (r.trans ((hm k hk x).1 hx)))
    rw[List.length_cons]at this
    omega
 exact key _ n0 h0 (Nat.le_refl _)
theorem Ym {E:Nat→Nat→Prop} {all rest:Nat→Prop} (hs:WY E all rest) (hsub:∀x,rest x→all x) {n:Nat} (hn:rest n) (h:XX E rest n):WY E all (fun k=>rest k∧¬Rch E rest n k):=by
 intro j k hj hnj hk he
 by_cases hr:rest j
 ·by_cases ho:Rch E rest n j
  ·exact hk.2 (.step ho he hk.1)
  ·exact hnj ⟨hr,ho⟩
 ·exact hs j k hj hr hk.1 he
def okC (G:List Nat) (rest n:Nat):Bool:=(av (car G rest n)).all fun k=>car G rest k==car G rest n
def WJ (E:Nat→Nat→Bool) (all left:List Nat) (n:Nat):List Nat:=left.filter fun k=>(TU E all n).contains k&&(TU E all k).contains n
def Yw (E:Nat→Nat→Bool) (all:List Nat):Nat→List Nat→List (List Nat)
 |0,_=>[]
 |f+1,left=>match left.find? (fun n=>WP E left (WJ E all left n))with
  |none=>[]
  |some n=>WJ E all left n::Yw E all f (left.filter fun y=> !(WJ E all left n).contains y)
theorem XP {E:Nat→Nat→Bool} {grp:List Nat} {n y:Nat}:y∈TU E grp n↔y∈grp∧Rch (fun j k=>E j k=true) (· ∈grp) n y:=by
 unfold TU
 rw[List.mem_filter,List.contains_iff_mem,(Vj E grp n _ 0 [n] (BfsI.start _ _ _) (by omega)).done y]
theorem rr {s n:Nat} (h:s<4096) (hb:s.testBit n=true):n<12:=by
 have:=(Tz h).2 hb
 rw[TS _ h,List.mem_filter,List.mem_range]at this
 exact this.1
theorem Yb {G:List Nat} {rest n:Nat} (hr:rest<4096) (hn:rest.testBit n=true):okC G rest n=true↔XX (Vf G) (fun k=>rest.testBit k=true) n:=by
 have hn12:=rr hr hn
 have hc:car G rest n<4096:=Me G rest n hr hn12
 have hm:=fun k=>VK G rest n hr hn12 k
 unfold okC XX
 rw[List.all_eq_true]
 constructor
 ·intro h k rk y
  have hk:rest.testBit k=true:=Rch.inG hn rk
  have e:=h k ((Tz hc).2 ((hm k).2 rk))
  have e:car G rest k=car G rest n:=by simpa using e
  rw[←hm y, ←VK G rest k hr (rr hr hk) y,e]
 ·intro h k hk
  have rk:=(hm k).1 ((Tz hc).1 hk)
  have hk:rest.testBit k=true:=Rch.inG hn rk
  have:car G rest k=car G rest n:=by
   apply Nat.eq_of_testBit_eq
   intro y
   rw[Bool.eq_iff_iff,hm y,VK G rest k hr (rr hr hk) y]
   exact h k rk y
  simpa using this
theorem WL {E:Nat→Nat→Bool} {all left:List Nat} (hs:∀x∈left,x∈all) {n:Nat} (hn:n∈left) (k:Nat):k∈WJ E all left n↔InR (fun j k=>E j k=true) (· ∈all) (· ∈left) n k:=by
 unfold WJ InR
 rw[List.mem_filter,Bool.and_eq_true,List.contains_iff_mem,List.contains_iff_mem,XP,XP]
 constructor
 ·rintro⟨h1,h2,h3⟩;exact⟨h1,h2.2,h3.2⟩
 ·rintro⟨h1,h2,h3⟩;exact⟨h1,⟨hs k h1,h2⟩,⟨hs n hn,h3⟩⟩
theorem Yx {E:Nat→Nat→Bool} {all left:List Nat} (hs:∀x∈left,x∈all) {n:Nat} (hn:n∈left):WP E left (WJ E all left n)=true↔YA (fun j k=>E j k=true) (· ∈all) (· ∈left) n:=by
 unfold WP YA
 rw[List.all_eq_true]
 constructor
 ·intro h j y hj hy hny he
  have h1:=h j ((WL hs hn j).2 hj)
  rw[List.all_eq_true]at h1
  have h2:=h1 y (List.mem_filter.2 ⟨hy,by
   have:¬y∈WJ E all left n:=fun hh=>hny ((WL hs hn y).1 hh)
   simpa using this⟩)
  rw[he]at h2
  cases h2
 ·intro h j hj
  rw[List.all_eq_true]
  intro y hy
  obtain⟨hy1,hy2⟩:=List.mem_filter.1 hy
  have hny:¬y∈WJ E all left n:=by simpa using hy2
  have:=h j y ((WL hs hn j).1 hj) hy1 (fun hh=>hny ((WL hs hn y).2 hh))
  simpa using this
theorem Yc {a b:Nat} (h:a<4096):dN a b<4096:=Nat.lt_of_le_of_lt (by
 apply Nat.le_of_testBit
 intro i hi
 rw[Gh]at hi
 simp at hi
 exact hi.1) h
theorem YC {a b n:Nat} (h1:a.testBit n=true) (h2:b.testBit n=true):dN a b<a:=by
 refine Nat.lt_of_le_of_ne (Nat.le_of_testBit fun i hi=> ?_) fun e=> ?_
 ·rw[Gh]at hi
  simp at hi
  exact hi.1
 ·have:=Gh a b n
  rw[e,h1,h2]at this
  cases this
theorem Yd {G:List Nat} {E:Nat→Nat→Bool} (hE:∀j k,E j k=true↔Vf G j k) {all rest n:Nat} (ha:all<4096) (hr:rest<4096) (hsub:∀x,rest.testBit x=true→all.testBit x=true) (hsh:WY (Vf G) (fun k=>all.testBit k=true) (fun k=>rest.testBit k=true)) (hn:rest.testBit n=true):
  (okC G rest n=WP E (av rest) (WJ E (av all) (av rest) n))∧(okC G rest n=true→av (car G rest n)=WJ E (av all) (av rest) n∧av (dN rest (car G rest n))=(av rest).filter (fun y=> !(WJ E (av all) (av rest) n).contains y)∧
   WY (Vf G) (fun k=>all.testBit k=true) (fun k=>(dN rest (car G rest n)).testBit k=true)):=by
 have eE:(fun j k=>E j k=true)=Vf G:=funext fun j=>funext fun k=>propext (hE j k)
 have eA:(fun k=>k∈av all)=fun k=>all.testBit k=true:=funext fun k=>propext (Tz ha)
 have eR:(fun k=>k∈av rest)=fun k=>rest.testBit k=true:=funext fun k=>propext (Tz hr)
 have hs:∀x∈av rest,x∈av all:=fun x hx=>(Tz ha).2 (hsub x ((Tz hr).1 hx))
 have hnr:n∈av rest:=(Tz hr).2 hn
 have hn12:=rr hr hn
 have hc:car G rest n<4096:=Me G rest n hr hn12
 have hm:=fun k=>VK G rest n hr hn12 k
 have h1:=Yb (G:=G) hr hn
 have h2:=Yx (E:=E) hs hnr
 rw[eE,eA,eR]at h2
 refine⟨by rw[Bool.eq_iff_iff,h1,h2];exact YB hsh hsub hn,fun hok=> ?_⟩
 have hacc:=h1.1 hok
 have hown:∀k,k∈WJ E (av all) (av rest) n↔Rch (Vf G) (fun k=>rest.testBit k=true) n k:=fun k=>by
  have:=WL (E:=E) hs hnr k
  rw[eE,eA,eR]at this
  rw[this]
  exact XB hsh hsub hn hacc k
 refine⟨Wj _ _ (UR hc) ((UR hr).filter _) fun x=> ?_,Wj _ _ (UR (Yc hr)) ((UR hr).filter _) fun x=> ?_, ?_⟩
 ·rw[Tz hc,hm x,hown x]
 ·have hcx:(WJ E (av all) (av rest) n).contains x=(car G rest n).testBit x:=by
   rw[Bool.eq_iff_iff,List.contains_iff_mem,hown x,hm x]
  rw[Tz (Yc hr),List.mem_filter,Tz hr,Gh,hcx,Bool.and_eq_true]
 ·have h3:=Ym hsh hsub hn hacc
  have e:(fun k=>(dN rest (car G rest n)).testBit k=true)=fun k=>rest.testBit k=true∧¬Rch (Vf G) (fun k=>rest.testBit k=true) n k:=funext fun k=>propext (by
   rw[Gh,Bool.and_eq_true, ←hm k]
   simp)
  rw[e]
  exact h3
theorem Yr {G:List Nat} {rest:Nat} (hr:rest<4096) (h0:rest≠0):∃n,(av rest).find? (okC G rest)=some n:=by
 cases h:(av rest).find? (okC G rest)with
 |some n=>exact⟨n,rfl⟩
 |none=>
  exfalso
  have hne:av rest≠[]:=fun e=>h0 ((Yj hr).1 e)
  obtain⟨n0,hn0⟩:=List.exists_mem_of_ne_nil _ hne
  have hb0:=(Tz hr).1 hn0
  obtain⟨n,hn,hacc⟩:=XY (E:=Vf G) (rest:=fun k=>rest.testBit k=true) (fun n=>n) (fun n=>if rest.testBit n=true then av (car G rest n)else []) (fun n hn k=>by
   have hn':rest.testBit n=true:=hn
   rw[if_pos hn',Tz (Me G rest n hr (rr hr hn)),VK G rest n hr (rr hr hn)]) (fun n=>by
   by_cases hn:rest.testBit n=true
   ·simp only[hn,if_true]
    exact((UR (Me G rest n hr (rr hr hn))).imp fun h=>Nat.ne_of_lt h)
   ·simp[hn]) hb0
  have:=List.find?_eq_none.1 h n ((Tz hr).2 hn)
  exact this ((Yb hr hn).2 hacc)
structure ClI (G:List Nat) (all rest:Nat):Prop where
 lt:rest<4096
 sub:∀x,rest.testBit x=true→all.testBit x=true
 shut:WY (Vf G) (fun k=>all.testBit k=true) (fun k=>rest.testBit k=true)
theorem ClI.start {G:List Nat} {all:Nat} (h:all<4096):ClI G all all:=⟨h,fun _ h=>h,fun _ _ h1 h2=>absurd h1 h2⟩
def XU (E:Nat→Nat→Bool) (A left:List Nat) (n:Nat):Bool:=WP E left (WJ E A left n)
theorem Ye {p:Nat→Bool}:∀(l:List Nat) (i:Nat) (hi:i<l.length),(∀j (hj:j<l.length),j<i→p l[j]=false)→p l[i]=true→l.find? p=some l[i]
 |a::l,0,_,_,h=>by rw[List.find?_cons];simp only[List.getElem_cons_zero]at h ⊢;rw[h]
 |a::l,i+1,hi,h0,h=>by
  have ha:=h0 0 (by simp) (by omega)
  simp only[List.getElem_cons_zero]at ha
  rw[List.find?_cons,ha]
  simp only[List.getElem_cons_succ]at h ⊢
  exact Ye l i (by simpa using hi) (fun j hj hji=>by have:=h0 (j+1) (by simpa using hj) (by omega);simpa using this) h
def nxt (G:List Nat) (rest n:Nat):Nat:=dN rest (car G rest n)
theorem ClI.next {G:List Nat} {E:Nat→Nat→Bool} (hE:∀j k,E j k=true↔Vf G j k) {all rest f:Nat} (ha:all<4096) (h:ClI G all rest) (i:Nat) (hi:i<(av rest).length)
  (h0:∀j (hj:j<(av rest).length),j<i→XU E (av all) (av rest) (av rest)[j]=false) (h1:XU E (av all) (av rest) (av rest)[i]=true) (hf:rest≤f):
  ∃r f',ClI G all r∧r<4096∧r≤f'∧av r=(av rest).filter (fun y=> !(WJ E (av all) (av rest) (av rest)[i]).contains y)∧(av r).length<(av rest).length∧Yw E (av all) f (av rest)=WJ E (av all) (av rest) (av rest)[i]::Yw E (av all) f' (av r):=by
 have hn:=(Tz h.lt).1 (List.getElem_mem hi)
 have hd:=Ye (p:=XU E (av all) (av rest)) _ i hi h0 h1
 obtain⟨e0,hok⟩:=Yd hE ha h.lt h.sub h.shut hn
 have hok1:okC G rest (av rest)[i]=true:=by rw[e0];exact h1
 obtain⟨e1,e2,h3⟩:=hok hok1
 have hc:=VK G rest (av rest)[i] h.lt (rr h.lt hn) (av rest)[i]
 have hdec:nxt G rest (av rest)[i]<rest:=YC hn (hc.2 .base)
 obtain⟨f',rfl⟩:∃f',f=f'+1:=⟨f-1,by omega⟩
 refine⟨nxt G rest (av rest)[i],f',⟨Yc h.lt,fun x hx=>h.sub x (by unfold nxt at hx;rw[Gh]at hx;simp at hx;exact hx.1),h3⟩,Yc h.lt,by omega,e2, ?_, ?_⟩
 ·unfold nxt
  rw[e2,VN]
  intro e
  have hm:(av rest)[i]∈(av rest).filter (fun y=> !(WJ E (av all) (av rest) (av rest)[i]).contains y):=by rw[e];exact List.getElem_mem hi
  have hm2:=(List.mem_filter.1 hm).2
  rw[←e1]at hm2
  have:(av (car G rest (av rest)[i])).contains (av rest)[i]=true:=List.contains_iff_mem.2 ((Tz (Me G rest _ h.lt (rr h.lt hn))).2 (hc.2 .base))
  rw[this]at hm2
  cases hm2
 ·conv=>lhs;unfold Yw
  have hd':(av rest).find? (fun n=>WP E (av rest) (WJ E (av all) (av rest) n))=some (av rest)[i]:=hd
  rw[hd']
  simp only
  unfold nxt
  rw[e2]
theorem ClI.some {G:List Nat} {E:Nat→Nat→Bool} (hE:∀j k,E j k=true↔Vf G j k) {all rest:Nat} (ha:all<4096) (h:ClI G all rest) (hl:0<(av rest).length)
  (h0:∀j (hj:j<(av rest).length),XU E (av all) (av rest) (av rest)[j]=false):False:=by
 obtain⟨n,hn⟩:=Yr (G:=G) h.lt (fun e=>by rw[e,elems_zero]at hl;simp at hl)
 have hm:=List.mem_of_find?_eq_some hn
 have hp:=List.find?_some hn
 rw[(Yd hE ha h.lt h.sub h.shut ((Tz h.lt).1 hm)).1]at hp
 obtain⟨j,hj,rfl⟩:=List.getElem_of_mem hm
 have:=h0 j hj
 unfold XU at this
 rw[this]at hp
 cases hp
end
section
open Go.RowKit Go.Shelf Go.Lib
attribute [local go_sem] Ext.cell Ext.frozen
theorem GS {w:World} {B:Nat} {v:Value} {l:List Nat} (h:w.ownsRow B 3 1 v (nI l).length ((nI l).map (Value.int .i64))):OwnI B w v l:=by
 rw[TO,Vm]at h
 exact h
theorem Yn (E:Nat→Nat→Bool) (A:List Nat) (n:Nat):(TU E A n).length≤A.length:=List.length_filter_le _ _
end
section
open Go.RowKit Go.Shelf Go.Lib
theorem YF {l:List (List (List Q4))} {w:Q3} {xs:List Int} (h:eB l=0) (hw:w≠(0,0,0)) (hs:gh xs l.length=0):
  mvB l xs w=WP (gE (TF l w)) (List.range l.length) (xs.map Int.toNat):=by
 have h12:=(sq h).1
 unfold mvB psB
 rw[WF,Yz (Wz h hw) (WQ h12) (KX _ (fun x hx=>by have:=DO hs x hx;omega)),WT h12,Uf hs (by omega)]
theorem Yy {l:List (List (List Q4))} {w:Q3} {n:Nat} (h:eB l=0) (hw:w≠(0,0,0)) (hn:n<l.length):
  crL l n w=TU (gE (TF l w)) (List.range l.length) n:=by
 have h12:=(sq h).1
 unfold crL psB
 rw[WF,VM h hw (WQ h12) (by rw[←Tz (WQ h12),WT h12];simpa using hn),WT h12]
theorem XQ {x y z:Int} (h:mK (x,y,z)=0):((x,y,z):Q3)≠(0,0,0):=(SV h).2
theorem XC (l:List (List (List Q4))) (w:Q3):∀r∈TF l w,r.length≤l.length:=Ww l w
def YD (l:List (List (List Q4))):Value→World→Prop:=fun v w=>SolsV w v l
theorem Yf (l:List (List (List Q4))):dR (YD l):=fun _ _ _ hb h=>SolsV.below h hb
def YE (xs:List Int):Value→World→Prop:=fun v w=>Ints w v xs
theorem Yg (xs:List Int):dR (YE xs):=fun _ _ _ hb h=>h.below hb
def YG (ce:Int) (CL:List Nat) (W:World) (e:Ending) (w':World):Prop:=∃ca cn cc,e= .returned (.tuple #[.slice ca cn cc, .int .i64 ce])∧Below W.heap.size W w'∧(ce≠0→cn=0)∧(ce=0→NatV w' (.slice ca cn cc) CL)
theorem CarP.q {l:List (List (List Q4))} {n:Int} {w:Q3} {W:World} {e:Ending} {w':World} (h:CarP l n w W e w'):YG (crE l n w) (crL l n.toNat w) W e w':=by
 obtain⟨hb,⟨h,rfl⟩|⟨h,v,rfl,ho⟩⟩:=h
 ·exact⟨none,0,0,rfl,hb,fun _=>rfl,fun h'=>absurd h' h⟩
 ·have h2:=ho
  unfold OwnI at h2
  obtain⟨a,c,rfl⟩:=aT h2
  exact⟨_,_,_,by rw[h],hb,fun h'=>absurd h h',fun _=>OwnI.ints ho⟩
def YH (ce:Int) (CL:List Nat):Value→World→Prop:=fun v w=>∃ca cn cc,v= .tuple #[.slice ca cn cc, .int .i64 ce]∧(ce≠0→cn=0)∧(ce=0→NatV w (.slice ca cn cc) CL)
theorem Yh (ce:Int) (CL:List Nat):dR (YH ce CL):=fun _ _ _ hb ⟨a,n,c,h1,h2,h3⟩=>⟨a,n,c,h1,h2,fun h=>NatV.below (h3 h) hb⟩
def YI (ce:Int) (CL:List Nat):Value→World→Prop:=fun v w=>∃ca cn cc,v= .slice ca cn cc∧(ce≠0→cn=0)∧(ce=0→NatV w (.slice ca cn cc) CL)
theorem Yi (ce:Int) (CL:List Nat):dR (YI ce CL):=fun _ _ _ hb ⟨a,n,c,h1,h2,h3⟩=>⟨a,n,c,h1,h2,fun h=>NatV.below (h3 h) hb⟩
end
section
open Go.RowKit Go.Shelf Go.Lib
set_option maxRecDepth 100000
attribute [local go_sem] Ext.cell Ext.frozen
theorem WU (l:List (List (List Q4))) (lv:Value) (xs:List Int) (nv:Value) (x y z:Int) (W:World) (hl:l.length≤maxLen) (hL:∀s∈l,s.length≤maxLen∧∀c∈s,c.length≤maxLen) (h:SolsV W lv l) (hxm:xs.length≤maxLen) (hn:Ints W nv xs) (hnil:MW nv) (ht:Lib.TabIs Tryz.prog W "internal/strconv.uint64pow10" .u64 Lib.pow10Tab∧TabAt 1 Lib.deBruijn64tab W):
  Calls Tryz.prog 6 #[lv,nv, .agg #[.int .i64 x, .int .i64 y, .int .i64 z]] W (Ret W (.bool true)):=by
 obtain⟨V,HV⟩:∃V,Hid (W.alloc (.cells #[.int .i64 x, .int .i64 y, .int .i64 z] 26)=V):=⟨_,YJ rfl⟩
 have hV:Below W.heap.size W V:=by rw[←HV.out];exact bel
 have HB0:Hid (V.heap[W.heap.size]? =some (.cells #[.int .i64 x, .int .i64 y, .int .i64 z] 26 (0,0))):=YJ (by rw[←HV.out];exact ai rfl)
 have HA:=YJ (Gv V (kl ht.1 hV) (ma ht.2 hV))
 have HF:=fun W' (hb:Below W.heap.size W W')=>YJ (QD l lv W' hl (fun s hs=>(hL s hs).1) (SolsV.below h hb))
 have HC:=fun(hf:Ow l=true) W' (hb:Below W.heap.size W W')=>YJ (Py l lv W' (Nat.le_trans (Ol hf).1 (by decide)) (fun s hs=>⟨Nat.le_trans ((Ol hf).2 s hs).1 (by decide),fun c hc=>Nat.le_trans (((Ol hf).2 s hs).2 c hc) (by decide)⟩) (SolsV.below h hb))
 have HCi:=fun(hx:xs.length≤20) W' (hb:Below W.heap.size W W')=>YJ (Ui nv xs W' (hn.below hb) hnil (by omega))
 have HM:=fun(hf:Ow l=true) (hx:xs.length≤20) v v2 W' (hb:Below W.heap.size W W') (hv:SolsV W' v l) (hv2:Ints W' v2 xs)=>YJ (Yl l xs v v2 x y z W' (fun s hs c hc=>Nat.le_trans (((Ol hf).2 s hs).2 c hc) (by decide)) (by omega) hv hv2 (ma ht.2 hb))
 have HK:=fun(hf:Ow l=true) v W' (hb:Below W.heap.size W W') (hv:SolsV W' v l)=>YJ (XT l ((xs.length:Int)-1) v x y z W' (fun s hs c hc=>Nat.le_trans (((Ol hf).2 s hs).2 c hc) (by decide)) hv (ma ht.2 hb) |>.mono fun _ _ h=>h.q)
 have HR:=fun(hf:Ow l=true) W' (hb:Below W.heap.size W W')=>YJ (PP l lv W' (fun s hs c hc=>Nat.le_trans (((Ol hf).2 s hs).2 c hc) (by decide)) (SolsV.below h hb))
 rw[←QG]at HR
 have HWe:=fun W'=>YJ (El x y z W')
 have HWi:=fun b (hb:decide ((0:Int)≤(xs.length:Int)-1∧(xs.length:Int)-1≤(l.length:Int)-1)=b) W'=>YJ (ba hb W')
 have HSe:=fun(hf:Ow l=true) (hx:xs.length≤20) W' (hb:Below W.heap.size W W')=>YJ (Vy xs nv l.length W' (Nat.le_trans (Ol hf).1 (by decide)) (by omega) (hn.below hb))
 have HGr:=fun(hf:Ow l=true) (h0:eB l=0) (hw:mK (x,y,z)=0) W' (hb:Below W.heap.size W W')=>YJ (VE l lv x y z W' (Nat.le_trans (Ol hf).1 (by decide)) (We hf h0) (SV hw).1 (SV hw).2 (SolsV.below h hb))
 have HAl:=fun W'=>fun(hf:Ow l=true)=>YJ (Yo l.length W' (Nat.le_trans (Ol hf).1 (by decide)))
 have HMo:=fun(hf:Ow l=true) (hx:xs.length≤20) (h0:eB l=0) (hw:mK (x,y,z)=0) (h9:gh xs l.length=0) gv pv W' (hb:Below W.heap.size W W') (h1:GrfV W' gv (TF l (x,y,z))) (h2:NatV W' pv (List.range l.length))=>YJ (show Calls Tryz.prog 31 #[gv,pv,nv] W' (Ret W' (.bool (mvB l xs (x,y,z))))from by
  rw[YF h0 (XQ hw) h9]
  exact XV (TF l (x,y,z)) (List.range l.length) (xs.map Int.toNat) gv pv nv W' (fun r hr=>Nat.le_trans (XC l _ r hr) (Nat.le_trans (Ol hf).1 (by decide))) (by simp;exact Nat.le_trans (Ol hf).1 (by decide)) (by rw[List.length_map];omega) (fun j hj=>by
   obtain⟨a,ha,rfl⟩:=List.mem_map.1 hj
   have:=DO h9 a ha
   rw[TV]
   omega) h1 h2 (by
   show Ints W' nv (nI (xs.map Int.toNat))
   rw[Ve (fun a ha=>(DO h9 a ha).1)]
   exact hn.below hb))
 have HCa:=fun(hf:Ow l=true) (h0:eB l=0) (hw:mK (x,y,z)=0) (hp:0≤(xs.length:Int)-1∧(xs.length:Int)-1<l.length) gv pv W' (hb:Below W.heap.size W W') (h1:GrfV W' gv (TF l (x,y,z))) (h2:NatV W' pv (List.range l.length))=>YJ (show Calls Tryz.prog 34 #[gv,pv, .int .i64 ((xs.length:Int)-1)] W' (Wu (nI (crL l ((xs.length:Int)-1).toNat (x,y,z))) W')from by
  rw[Yy h0 (XQ hw) (by omega)]
  have:=Vn (TF l (x,y,z)) (List.range l.length) ((xs.length:Int)-1).toNat gv pv W' (fun r hr=>Nat.le_trans (XC l _ r hr) (Nat.le_trans (Ol hf).1 (by decide))) (by simp;exact Nat.le_trans (Ol hf).1 (by decide)) (by rw[TV];omega) (fun a ha=>by rw[TV];simpa using ha) h1 h2
  rwa [Int.toNat_of_nonneg hp.1]at this)
 have HIn:=fun(hf:Ow l=true) (h0:eB l=0) (hw:mK (x,y,z)=0) (hp:0≤(xs.length:Int)-1∧(xs.length:Int)-1<l.length) v v2 W' (k1:NatV W' v (crL l ((xs.length:Int)-1).toNat (x,y,z))) (k2:NatV W' v2 (crL l ((xs.length:Int)-1).toNat (x,y,z)))=>YJ (show Calls Tryz.prog 33 #[v,v2] W' (Ret W' (.bool true))from by
  have:=VU v v2 (nI (crL l ((xs.length:Int)-1).toNat (x,y,z))) (nI (crL l ((xs.length:Int)-1).toNat (x,y,z))) W' (by
   rw[TO,Yy h0 (XQ hw) (by omega)]
   exact Nat.le_trans (Yn _ _ _) (by rw[List.length_range];exact Nat.le_trans (Ol hf).1 (by decide))) k1 k2
  simpa using this)
 have Hm1:Hid (eB l≠0→mvE l xs (x,y,z)=eB l∧crE l ((xs.length:Int)-1) (x,y,z)=eB l):=YJ (fun h=>⟨by unfold mvE;rw[if_neg h],by unfold crE;rw[if_neg h]⟩)
 have Hm2:Hid (eB l=0→mvE l xs (x,y,z)=if gh xs l.length=0 then mK (x,y,z)else gh xs l.length):=YJ (fun h=>by unfold mvE;rw[if_pos h])
 have Hc2:Hid (eB l=0→crE l ((xs.length:Int)-1) (x,y,z)=if 0≤(xs.length:Int)-1∧(xs.length:Int)-1<l.length then mK (x,y,z)else 6):=YJ (fun h=>by unfold crE;rw[if_pos h])
 obtain⟨br,Hbr⟩:∃br,Hid ((decide (mvE l xs (x,y,z)=0)&&mvB l xs (x,y,z))=br):=⟨_,YJ rfl⟩
 rw[Hbr.out]at HM
 have Hlv:Hid (∃a n c,lv= .slice a n c∧l.length=n):=YJ (by obtain⟨a,n,c,rfl,hn,_⟩:=h;exact⟨a,n,c,rfl,hn⟩)
 have Hnv:Hid (∃a n c,nv= .slice a n c∧xs.length=n):=YJ (by obtain⟨a,n,c,rfl,hn',_⟩:=hn;exact⟨a,n,c,rfl,hn'⟩)
 obtain⟨la,ln,lc,rfl,hln⟩:=Hlv.out
 obtain⟨na,nn,nc,rfl,hnn⟩:=Hnv.out
 have hl15:Hid (Ow l=true→ln≤15):=YJ (fun hf=>by rw[←hln];exact(Ol hf).1)
 rw[hnn]at HCi HM HK HWi HSe HMo HCa HIn Hm1 Hc2
 rw[hln]at HWi HSe HAl HMo HCa HIn Hm2 Hc2
 have Hnn:=YJ hnn
 clear h hl hL ht Hlv Hnv hn hnil hnn hln hxm
 generalize mvB l xs (x,y,z)=mb at*
 generalize crL l ((nn:Int)-1).toNat (x,y,z)=CL at*
 generalize crE l ((nn:Int)-1) (x,y,z)=ce at*
 generalize mvE l xs (x,y,z)=me at*
 generalize Ow l=fl at*
 generalize eB l=ae at*
 generalize gh xs ln=se at*
 generalize mK (x,y,z)=we at*
 go_enter Tryz.func6,Tryz.ntmps6
 go_wp2_with fail
 try rw[HV.out]
 refine(HA.out).mono ?_
 rintro e w1 ⟨rfl,hb1⟩
 have hw1:=fB hV hb1
 have HB1:=YJ ((hb1.block _ (ah HB0.out)).trans HB0.out)
 clear HA HB0 HV hV hb1
 go_wp2_with fail
 refine((HF _ hw1).out).mono ?_
 rintro e w2 ⟨rfl,hb2⟩
 have hw2:=fB hw1 hb2
 have HB2:=YJ ((hb2.block _ (ah HB1.out)).trans HB1.out)
 clear HF HB1 hb2
 cases fl with
 |false=>
  clear HC HCi HM HK HR HWe HWi HSe HGr HAl HMo HCa HIn Hm1 Hm2 Hc2 Hbr HB2
  go_wp2
  go_ret
  exact⟨ay (by simp),hw2⟩
 |true=>
  by_cases hx20:nn≤20
  ·have g1:¬(20:Int)<(nn:Int):=by omega
   have hn15:=hl15.out (by first|rfl|trivial)
   have q1:IntKind.i64.wrap ((nn:Int)-1)=(nn:Int)-1:=IntWalk.i64_in _ (by omega)
   have q2:IntKind.i64.wrap ((ln:Int)-1)=(ln:Int)-1:=IntWalk.i64_in _ (by omega)
   have HC':=fun W' hb=>YJ (HC (by first|rfl|trivial) W' hb).out
   have HCi':=fun W' hb=>YJ (HCi hx20 W' hb).out
   have HM':=fun v v2 W' hb k1 k2=>YJ (HM (by first|rfl|trivial) hx20 v v2 W' hb k1 k2).out
   have HK':=fun v W' hb k1=>YJ (HK (by first|rfl|trivial) v W' hb k1).out
   have HR':=fun W' hb=>YJ (HR (by first|rfl|trivial) W' hb).out
   have HSe':=fun W' hb=>YJ (HSe (by first|rfl|trivial) hx20 W' hb).out
   have HGr1:=fun h0 hw W' hb=>YJ (HGr (by first|rfl|trivial) h0 hw W' hb).out
   have HAl':=fun W'=>YJ (HAl W' (by first|rfl|trivial)).out
   have HMo1:=fun h0 hw h9 gv pv W' hb k1 k2=>YJ (HMo (by first|rfl|trivial) hx20 h0 hw h9 gv pv W' hb k1 k2).out
   have HCa1:=fun h0 hw hp gv pv W' hb k1 k2=>YJ (HCa (by first|rfl|trivial) h0 hw hp gv pv W' hb k1 k2).out
   have HIn1:=fun h0 hw hp v v2 W' k1 k2=>YJ (HIn (by first|rfl|trivial) h0 hw hp v v2 W' k1 k2).out
   clear HC HCi HM HK HR HSe HGr HAl HMo HCa HIn hl15
   obtain⟨x0,x1,x2,xf,xz⟩:=NO HB2.out
   go_wp2
   apply aj [9] [0,1,2,3,4,5,6,7,8,9] 10 [] [sv _,⟨YD l,by first|exact Yf _|exact Yg _|exact Yh _ _|exact Yi _ _|exact TC _⟩,sv _,⟨YE xs,by first|exact Yf _|exact Yg _|exact Yh _ _|exact Yi _ _|exact TC _⟩,sv _,sv _,sv _,sv _,sv _,sv _] (by kernel_rfl) (by kernel_rfl)
   ((try go_frame);refine wkQ ?_)
   try go_frame
   refine wkU (fun u hR K hK=> ?_) (fun o1=> ?_)
   ·clear hR
    go_simp
    refine((HC' _ (fB hw2 u.below)).out).mono ?_
    rintro e w9 ⟨v9,rfl,hb9,hv9⟩
    exact hK _ _ hb9 hv9
   ((try go_frame);refine wkQ ?_)
   try go_frame
   refine wkU (fun u hR K hK=> ?_) (fun o3=> ?_)
   ·clear hR
    go_simp
    refine((HCi' _ (fB hw2 u.below)).out).mono ?_
    rintro e w9 ⟨v9,rfl,hb9,ho9⟩
    exact hK _ _ hb9 (jy (by rw[Hnn.out];exact ho9))
   ((try go_frame);refine wkQ ?_)
   try go_frame
   refine MM rfl rfl (by simp) rfl rfl ?_
   apply ex3
   ·intro u hR K hK
    have h1:YD l o1 u.val:=hr hR 1
    have h3:YE xs o3 u.val:=hr hR 3
    clear hR
    go_simp
    refine((HM' _ _ _ (fB hw2 u.below) h1 h3).out).mono ?_
    rintro e w9 ⟨rfl,hb9⟩
    exact hK _ hb9
   rfl
   iterate 3 ((try go_frame);refine wkQ ?_)
   try go_frame
   refine wkz rfl rfl rfl rfl ?_
   apply Exists.intro
   apply And.intro
   ·intro w9
    go_simp
    try rfl
   refine⟨rfl, ?_⟩
   try go_frame
   refine aI (fun u hR=> ?_)
   have hw3:=fB hw2 u.below
   have HB3:=YJ ((u.below.block _ (ah HB2.out)).trans HB2.out)
   clear hR x0 x1 x2 xf xz HB2 HM' HCi'
   generalize u.val=w3 at*
   clear u
   simp only[oas]
   go_wp2
   refine NoPanic.normal ?_
   obtain⟨x0,x1,x2,xf,xz⟩:=NO HB3.out
   go_wp2
   go_cut [10,11] (fun s10 s11 wx=>∃ca cn cc,s10= .slice ca cn cc∧s11= .int .i64 ce∧Below w3.heap.size w3 wx∧(ce≠0→cn=0)∧(ce=0→NatV wx (.slice ca cn cc) CL))
   case first=>
    go_region_held (fun w'=>w'.cell? ⟨W.heap.size,0,none⟩=some (.int .i64 x)∧w'.cell? ⟨W.heap.size,1,none⟩=some (.int .i64 y)∧w'.cell? ⟨W.heap.size,2,none⟩=some (.int .i64 z)∧Below w3.heap.size w3 w') (exact⟨ab bel x0,ab bel x1,ab bel x2,bel⟩) (first|(have hv4':=hv4;go_at_call 28;refine((HK' _ _ (fB hw3 hb4) hv4).out).mono ?_;rintro e w5 ⟨ca,cn,cc,rfl,hb5,hcn,hcl⟩;have hb35:Below w3.heap.size w3 w5:=fB hb4 hb5;have zz5:=hb35.size)|(go_at_call 18;refine((HC' _ (fB hw3 bel)).out).mono ?_;rintro e w4 ⟨v4,rfl,hb4,hv4⟩;replace hb4:Below w3.heap.size w3 w4:=fB bel hb4;have zz4:=hb4.size;obtain⟨v4a,v4n,v4c,rfl⟩:∃a n c,v4= .slice a n c:=(by obtain⟨a,n,c,h,_⟩:=hv4;exact⟨a,n,c,h⟩)))
    all_goals (go_wp2_with fail;go_meet;exact⟨ca,cn,cc,rfl,rfl,hb35,hcn,hcl⟩)
   rename World=>w5
   obtain⟨ca,cn,cc,rfl,rfl,hb5,hcn,hcl⟩:=hcut
   have hw5:=fB hw3 hb5
   have HB5:=YJ ((hb5.block _ (ah HB3.out)).trans HB3.out)
   have Hcn:=YJ hcn
   have Hcl:=YJ hcl
   clear x0 x1 x2 xf xz HB3 hb5 hcn hcl HC' HK'
   go_wp2_with fail
   refine((HR' _ hw5).out).mono ?_
   rintro e w6 ⟨rfl,hb6⟩
   have hw6:=fB hw5 hb6
   have HB6:=YJ ((hb6.block _ (ah HB5.out)).trans HB5.out)
   have Hcl6:Hid (ce=0→NatV w6 (.slice ca cn cc) CL):=YJ (fun h=>NatV.below (Hcl.out h) hb6)
   clear HR' HB5 hb6 Hcl
   by_cases hae:ae=0
   ·subst hae
    have Hme:=YJ (Hm2.out (by first|rfl|trivial))
    have Hce:=YJ (Hc2.out (by first|rfl|trivial))
    have HGr2:=fun hw W' hb=>YJ (HGr1 (by first|rfl|trivial) hw W' hb).out
    have HMo2:=fun hw h9 gv pv W' hb k1 k2=>YJ (HMo1 (by first|rfl|trivial) hw h9 gv pv W' hb k1 k2).out
    have HCa2:=fun hw hp gv pv W' hb k1 k2=>YJ (HCa1 (by first|rfl|trivial) hw hp gv pv W' hb k1 k2).out
    have HIn2:=fun hw hp v v2 W' k1 k2=>YJ (HIn1 (by first|rfl|trivial) hw hp v v2 W' k1 k2).out
    obtain⟨x0,x1,x2,xf,xz⟩:=NO HB6.out
    clear HGr1 HMo1 HCa1 HIn1 Hm1 Hm2 Hc2
    go_wp2_with fail
    refine((HWe _).out).mono ?_
    rintro e w7 ⟨rfl,hb7⟩
    have hw7:=fB hw6 hb7
    have HB7:=YJ ((hb7.block _ (ah HB6.out)).trans HB6.out)
    have Hcl7:Hid (ce=0→NatV w7 (.slice ca cn cc) CL):=YJ (fun h=>NatV.below (Hcl6.out h) hb7)
    clear HWe x0 x1 x2 xf xz hb7 HB6 Hcl6
    by_cases hB:0≤(nn:Int)-1∧(nn:Int)-1<ln
    ·have HW7:=YJ (HWi true (by rw[decide_eq_true_eq];omega) w7).out
     clear HWi
     go_wp2_with fail
     refine(HW7.out).mono ?_
     rintro e wq ⟨rfl,rfl⟩
     clear HW7
     go_wp2_with fail
     refine((HSe' _ hw7).out).mono ?_
     rintro e w8 ⟨rfl,hb8⟩
     have hw8:=fB hw7 hb8
     have HB8:=YJ ((hb8.block _ (ah HB7.out)).trans HB7.out)
     have Hcv0:Hid (ce=0→NatV w8 (.slice ca cn cc) CL):=YJ (fun h=>NatV.below (Hcl7.out h) hb8)
     clear HSe' hb8 HB7 Hcl7
     by_cases hD:se=0
     ·subst hD
      by_cases hE:we=0
      ·subst hE
       obtain rfl:me=0:=by rw[Hme.out,if_pos rfl]
       obtain rfl:br=mb:=by rw[←Hbr.out];simp
       obtain rfl:ce=0:=by rw[Hce.out,if_pos hB]
       have HCv:=YJ (Hcv0.out (by first|rfl|trivial))
       clear Hcv0
       have HGr':=fun W' hb=>YJ (HGr2 (by first|rfl|trivial) W' hb).out
       have HMo':=fun gv pv W' hb k1 k2=>YJ (HMo2 (by first|rfl|trivial) (by first|rfl|trivial) gv pv W' hb k1 k2).out
       have HCa':=fun gv pv W' hb k1 k2=>YJ (HCa2 (by first|rfl|trivial) hB gv pv W' hb k1 k2).out
       have HIn':=fun v v2 W' k1 k2=>YJ (HIn2 (by first|rfl|trivial) hB v v2 W' k1 k2).out
       clear HGr2 HMo2 HCa2 HIn2 Hce Hme Hbr
       obtain⟨y0,y1,y2,yf,yz⟩:=NO HB8.out
       go_wp2_with fail
       refine((HGr' w8 hw8).out).mono ?_
       rintro e w9 ⟨gv,rfl,hb9,hg9⟩
       have hw9:=fB hw8 hb9
       have HG9:=YJ (OwnG.grf hg9)
       have HC9:=YJ (NatV.below HCv.out hb9)
       obtain⟨ga9,gn9,gc9,rfl⟩:∃a n c,gv= .slice a n c:=by obtain⟨vs,h,_⟩:=hg9;obtain⟨a,c,h⟩:=aT h;exact⟨_,_,_,h⟩
       clear hg9 hb9 HGr' HCv y0 y1 y2 yf yz
       go_wp2_with fail
       refine((HAl' w9).out).mono ?_
       rintro e wa ⟨va,rfl,hba,hoa⟩
       have hwa:=fB hw9 hba
       have HMa:=YJ (HMo' _ va wa hwa (GrfV.below HG9.out hba) (GS hoa).ints).out
       have HCa9:=YJ (NatV.below HC9.out hba)
       have HGa:=YJ (GrfV.below HG9.out hba)
       obtain⟨vaa,vac,rfl⟩:=aT hoa
       clear hoa
       go_wp2_with fail
       refine(HMa.out).mono ?_
       rintro e wb ⟨rfl,hbb⟩
       have hwb:=fB hwa hbb
       have HCb:=YJ (NatV.below HCa9.out hbb)
       have HGb:=YJ (GrfV.below HGa.out hbb)
       clear HMa HCa9 HGa HC9 HG9
       go_wp2_with fail
       refine((HAl' wb).out).mono ?_
       rintro e wc ⟨vc1,rfl,hbc,hoc⟩
       have hwc:=fB hwb hbc
       have HKc:=YJ (HCa' _ vc1 wc hwc (GrfV.below (HGb).out hbc) (GS hoc).ints).out
       have HCc:=YJ (NatV.below (HCb).out hbc)
       obtain⟨vca,vcc,rfl⟩:=aT hoc
       clear hoc
       go_wp2_with fail
       refine(HKc.out).mono ?_
       rintro e wd ⟨vd,rfl,hbd,hod⟩
       have hwd:=fB hwc hbd
       have HId:=YJ (HIn' _ vd wd (NatV.below HCc.out hbd) (GS hod).ints).out
       obtain⟨vda,vdn,vdc,rfl⟩:∃a n c,vd= .slice a n c:=by obtain⟨a,c,h⟩:=aT hod;exact⟨_,_,_,h⟩
       clear HKc HCc hod
       go_wp2_with fail
       refine(HId.out).mono ?_
       rintro e we ⟨rfl,hbe⟩
       have hwe:=fB hwd hbe
       go_wp2
       go_ret
       exact⟨ay (by simp),hwe⟩
      ·have hE':(we !=0)=true:=by simpa using hE
       have hE2:(we==0)=false:=by simpa using hE
       have hme:me=we:=by rw[Hme.out,if_pos rfl]
       subst hme
       obtain rfl:br=false:=by rw[←Hbr.out];simp[hE]
       have hce:ce=_:=Hce.out.trans (if_pos hB)
       subst hce
       obtain rfl:=Hcn.out hE
       clear HGr2 HMo2 HCa2 HIn2 Hce Hcv0 Hme Hbr HAl'
       go_wp2
       go_ret
       exact⟨ay (by simp),hw8⟩
     ·have hD':(se==0)=false:=by simpa using hD
      have hD2:(se !=0)=true:=by simpa using hD
      by_cases hE:we=0
      ·subst hE
       have hme:me=se:=by rw[Hme.out,if_neg hD]
       subst hme
       obtain rfl:br=false:=by rw[←Hbr.out];simp[hD]
       obtain rfl:ce=0:=by rw[Hce.out,if_pos hB]
       have HCv:=YJ (Hcv0.out (by first|rfl|trivial))
       clear Hcv0
       have HGr':=fun W' hb=>YJ (HGr2 (by first|rfl|trivial) W' hb).out
       have HCa':=fun gv pv W' hb k1 k2=>YJ (HCa2 (by first|rfl|trivial) hB gv pv W' hb k1 k2).out
       have HIn':=fun v v2 W' k1 k2=>YJ (HIn2 (by first|rfl|trivial) hB v v2 W' k1 k2).out
       clear HGr2 HMo2 HCa2 HIn2 Hce Hme Hbr
       obtain⟨y0,y1,y2,yf,yz⟩:=NO HB8.out
       go_wp2_with fail
       refine((HGr' w8 hw8).out).mono ?_
       rintro e w9 ⟨gv,rfl,hb9,hg9⟩
       have hw9:=fB hw8 hb9
       have HG9:=YJ (OwnG.grf hg9)
       have HC9:=YJ (NatV.below HCv.out hb9)
       obtain⟨ga9,gn9,gc9,rfl⟩:∃a n c,gv= .slice a n c:=by obtain⟨vs,h,_⟩:=hg9;obtain⟨a,c,h⟩:=aT h;exact⟨_,_,_,h⟩
       clear hg9 hb9 HGr' HCv y0 y1 y2 yf yz
       go_wp2_with fail
       refine((HAl' w9).out).mono ?_
       rintro e wc ⟨vc1,rfl,hbc,hoc⟩
       have hwc:=fB hw9 hbc
       have HKc:=YJ (HCa' _ vc1 wc hwc (GrfV.below (HG9).out hbc) (GS hoc).ints).out
       have HCc:=YJ (NatV.below (HC9).out hbc)
       obtain⟨vca,vcc,rfl⟩:=aT hoc
       clear hoc
       go_wp2_with fail
       refine(HKc.out).mono ?_
       rintro e wd ⟨vd,rfl,hbd,hod⟩
       have hwd:=fB hwc hbd
       have HId:=YJ (HIn' _ vd wd (NatV.below HCc.out hbd) (GS hod).ints).out
       obtain⟨vda,vdn,vdc,rfl⟩:∃a n c,vd= .slice a n c:=by obtain⟨a,c,h⟩:=aT hod;exact⟨_,_,_,h⟩
       clear HKc HCc hod
       go_wp2_with fail
       refine(HId.out).mono ?_
       rintro e we ⟨rfl,hbe⟩
       have hwe:=fB hwd hbe
       go_wp2
       go_ret
       exact⟨ay (by simp),hwe⟩
      ·have hE':(we !=0)=true:=by simpa using hE
       have hE2:(we==0)=false:=by simpa using hE
       have hme:me=se:=by rw[Hme.out,if_neg hD]
       subst hme
       obtain rfl:br=false:=by rw[←Hbr.out];simp[hD]
       have hce:ce=_:=Hce.out.trans (if_pos hB)
       subst hce
       obtain rfl:=Hcn.out hE
       clear HGr2 HMo2 HCa2 HIn2 Hce Hcv0 Hme Hbr HAl'
       go_wp2
       go_ret
       exact⟨ay (by simp),hw8⟩
    ·have HW7:=YJ (HWi false (by rw[decide_eq_false_iff_not];omega) w7).out
     obtain rfl:ce=6:=by rw[Hce.out,if_neg hB]
     obtain rfl:=Hcn.out (by decide)
     clear Hcn
     clear HWi Hce HCa2 HIn2
     go_wp2_with fail
     refine(HW7.out).mono ?_
     rintro e wq ⟨rfl,rfl⟩
     clear HW7
     go_wp2_with fail
     refine((HSe' _ hw7).out).mono ?_
     rintro e w8 ⟨rfl,hb8⟩
     have hw8:=fB hw7 hb8
     have HB8:=YJ ((hb8.block _ (ah HB7.out)).trans HB7.out)
     clear HSe' hb8 HB7 Hcl7
     by_cases hD:se=0
     ·subst hD
      by_cases hE:we=0
      ·subst hE
       obtain rfl:me=0:=by rw[Hme.out,if_pos rfl]
       obtain rfl:br=mb:=by rw[←Hbr.out];simp
       have HGr':=fun W' hb=>YJ (HGr2 (by first|rfl|trivial) W' hb).out
       have HMo':=fun gv pv W' hb k1 k2=>YJ (HMo2 (by first|rfl|trivial) (by first|rfl|trivial) gv pv W' hb k1 k2).out
       clear HGr2 HMo2 Hme Hbr
       obtain⟨y0,y1,y2,yf,yz⟩:=NO HB8.out
       go_wp2_with fail
       refine((HGr' w8 hw8).out).mono ?_
       rintro e w9 ⟨gv,rfl,hb9,hg9⟩
       have hw9:=fB hw8 hb9
       have HG9:=YJ (OwnG.grf hg9)
       obtain⟨ga9,gn9,gc9,rfl⟩:∃a n c,gv= .slice a n c:=by obtain⟨vs,h,_⟩:=hg9;obtain⟨a,c,h⟩:=aT h;exact⟨_,_,_,h⟩
       clear hg9 hb9 HGr' y0 y1 y2 yf yz
       go_wp2_with fail
       refine((HAl' w9).out).mono ?_
       rintro e wa ⟨va,rfl,hba,hoa⟩
       have hwa:=fB hw9 hba
       have HMa:=YJ (HMo' _ va wa hwa (GrfV.below HG9.out hba) (GS hoa).ints).out
       obtain⟨vaa,vac,rfl⟩:=aT hoa
       clear hoa
       go_wp2_with fail
       refine(HMa.out).mono ?_
       rintro e wb ⟨rfl,hbb⟩
       have hwb:=fB hwa hbb
       clear HMa HG9
       go_wp2
       go_ret
       exact⟨ay (by simp),hwb⟩
      ·have hE':(we !=0)=true:=by simpa using hE
       have hE2:(we==0)=false:=by simpa using hE
       have hme:me=we:=by rw[Hme.out,if_pos rfl]
       subst hme
       obtain rfl:br=false:=by rw[←Hbr.out];simp[hE]
       clear HGr2 HMo2 Hme Hbr HAl'
       go_wp2
       go_ret
       exact⟨ay (by simp),hw8⟩
     ·have hD':(se==0)=false:=by simpa using hD
      have hD2:(se !=0)=true:=by simpa using hD
      by_cases hE:we=0
      ·subst hE
       have hme:me=se:=by rw[Hme.out,if_neg hD]
       subst hme
       obtain rfl:br=false:=by rw[←Hbr.out];simp[hD]
       have HGr':=fun W' hb=>YJ (HGr2 (by first|rfl|trivial) W' hb).out
       clear HGr2 HMo2 Hme Hbr
       obtain⟨y0,y1,y2,yf,yz⟩:=NO HB8.out
       go_wp2_with fail
       refine((HGr' w8 hw8).out).mono ?_
       rintro e w9 ⟨gv,rfl,hb9,hg9⟩
       have hw9:=fB hw8 hb9
       have HG9:=YJ (OwnG.grf hg9)
       obtain⟨ga9,gn9,gc9,rfl⟩:∃a n c,gv= .slice a n c:=by obtain⟨vs,h,_⟩:=hg9;obtain⟨a,c,h⟩:=aT h;exact⟨_,_,_,h⟩
       clear hg9 hb9 HGr' y0 y1 y2 yf yz
       go_wp2
       go_ret
       exact⟨ay (by simp),hw9⟩
      ·have hE':(we !=0)=true:=by simpa using hE
       have hE2:(we==0)=false:=by simpa using hE
       have hme:me=se:=by rw[Hme.out,if_neg hD]
       subst hme
       obtain rfl:br=false:=by rw[←Hbr.out];simp[hD]
       clear HGr2 HMo2 Hme Hbr HAl'
       go_wp2
       go_ret
       exact⟨ay (by simp),hw8⟩
   ·have hae':(ae !=0)=true:=by simpa using hae
    obtain⟨h1,h2⟩:=Hm1.out hae
    subst h1
    subst h2
    obtain rfl:=Hcn.out hae
    obtain rfl:br=false:=by rw[←Hbr.out];simp[hae]
    clear HWe HWi HSe' HGr1 HAl' HMo1 HCa1 HIn1 Hm1 Hm2 Hc2 Hbr
    go_wp2
    go_ret
    exact⟨ay (by simp),hw6⟩
  ·have g1:(20:Int)<(nn:Int):=by omega
   clear HC HCi HM HK HR HWe HWi HSe HGr HAl HMo HCa HIn Hm1 Hm2 Hc2 Hbr HB2
   go_wp2
   go_ret
   exact⟨ay (by simp),hw2⟩
end
end Go.Proofs.YtoidbolmlckhnaaGreatDoor
