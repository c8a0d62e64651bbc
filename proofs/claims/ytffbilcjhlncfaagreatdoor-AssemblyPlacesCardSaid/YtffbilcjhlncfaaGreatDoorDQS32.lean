/- texts: MI M6 M7 M8 MA MT MS O0 O1. -/
import Derived.Test.YtffbilcjhlncfaaGreatDoorDQS31
namespace Go.Proofs.YtffbilcjhlncfaaGreatDoor
set_option maxHeartbeats 8000000
set_option linter.all false
section
open Go.RowKit Go.Shelf Go.Lib
set_option maxRecDepth 100000
attribute [local go_sem] Ext.cell Ext.frozen
theorem Kf (m:Nat) (l:List Int) (h:∀x∈l,0≤x∧x<m):nr l<2 ^ m:=by
 unfold nr
 have key:∀(l:List Int) (s:Nat),s<2 ^ m→(∀x∈l,0≤x∧x<m)→l.foldl (fun s n=>s |||2 ^ n.toNat) s<2 ^ m:=by
  intro l
  induction l with
  |nil=>intro s hs _;exact hs
  |cons x l ih=>
   intro s hs h
   have hx:=h x (by simp)
   exact ih _ (Nat.or_lt_two_pow hs (Nat.pow_lt_pow_right (by decide) (by omega))) (fun y hy=>h y (by simp[hy]))
 exact key l 0 (Nat.two_pow_pos m) h
theorem sq {l:List (List (List Q4))} (h:eB l=0):l.length≤12∧∀s∈l,Tv s=0:=by
 unfold eB at h
 split at h
 ·cases h
 ·rename_i h12
  refine⟨by omega, ?_⟩
  have hp:cx l=0:=by
   split at h
   ·assumption
   ·exact h
  clear h h12
  induction l with
  |nil=>intro s hs;cases hs
  |cons p l ih=>
   unfold cx at hp
   by_cases h0:nb p=0
   ·rw[if_pos h0]at hp
    intro s hs
    rcases alsk.1 hs with rfl|hs
    ·unfold nb at h0
     by_cases h1:Tv s=0
     ·exact h1
     ·rw[if_neg h1]at h0;exact h0
    ·exact ih hp s hs
   ·rw[if_neg h0]at hp
    exact absurd hp h0
theorem DO {xs:List Int} {n:Int} (h:gh xs n=0):∀x∈xs,0≤x∧x<n:=by
 unfold gh at h
 split at h
 ·assumption
 ·cases h
def fsE (l:List (List (List Q4))) (xs:List Int):Int:=if eB l=0 then gh xs l.length else eB l
noncomputable def fsA (l:List (List (List Q4))) (xs:List Int):Option (Q3×Nat):=Ok (l.map (·.map bp)) (nr xs)
def Fn:Value:= .agg #[.slice none 0 0, .slice none 0 0, .int .i64 0, .int .i64 0, .int .i64 0]
theorem GO {X:World} {b B:Nat} {c0 c1 c2 c3 c4:Value} {T:TypeId} (hB:B≤b) (hR:X.heap[b]? =some (.cells #[c0,c1,c2,c3,c4] T (0,0))) (u0 u1 u2 u3 u4:Value):
  ∃Y,Y=(((((X.setCell ⟨b,0,none⟩ u0).setCell ⟨b,1,none⟩ u1).setCell ⟨b,2,none⟩ u2).setCell ⟨b,3,none⟩ u3).setCell ⟨b,4,none⟩ u4)∧Below B X Y∧Y.heap[b]? =some (.cells #[u0,u1,u2,u3,u4] T (0,0))∧
   ∀{base n:Nat} {v:Value} {xs:List Value} {e:TypeId},e≠T→X.ownsRow base e 1 v n xs→Y.ownsRow base e 1 v n xs:=by
 have r1:=Tu hR 0 u0
 have r2:=Tu r1 1 u1
 have r3:=Tu r2 2 u2
 have r4:=Tu r3 3 u3
 have r5:=Tu r4 4 u4
 exact⟨_,rfl,(((((Below.refl B X).setCell (p:=⟨b,0,none⟩) hB u0).setCell (p:=⟨b,1,none⟩) hB u1).setCell (p:=⟨b,2,none⟩) hB u2).setCell (p:=⟨b,3,none⟩) hB u3).setCell (p:=⟨b,4,none⟩) hB u4,r5,fun hT h=>eU (eU (eU (eU (eU h hR hT) r1 hT) r2 hT) r3 hT) r4 hT⟩
def MY (l:List (List (List Q4))) (xs:List Int) (W:World) (e:Ending) (w':World):Prop:=Below W.heap.size W w'∧
 ((fsE l xs≠0∧e= .returned (.tuple #[Fn, .bool false, .int .i64 (fsE l xs)]))∨
 (fsE l xs=0∧fsA l xs=none∧e= .returned (.tuple #[Fn, .bool false, .int .i64 0]))∨
 (fsE l xs=0∧∃v o cs,v∈ways26∧fsA l xs=some (v,o)∧e= .returned (.tuple #[.agg cs, .bool true, .int .i64 0])∧Mf W.heap.size w' (nr xs) o v cs))
theorem Iy (l:List (List (List Q4))) (xs:List Int) (lv nv:Value) (W:World) (hL:∀s∈l,∀c∈s,c.length≤1000000) (hxl:xs.length≤1000000) (h:SolsV W lv l) (hn:Ints W nv xs) (hT:TabAt 3 Lib.deBruijn64tab W)
  (hsym:eB l=0→∀v∈ways26,∀i k,Cb (l.map (·.map bp)) (-v.1, -v.2.1, -v.2.2) k i=Cb (l.map (·.map bp)) v i k):
  Calls Tryz.prog 35 #[lv,nv] W (MY l xs W):=by
 have HCk:=fun W' (h':Below W.heap.size W W')=>YJ (Gd l lv W' hL (SolsV.below h h'))
 have HCs:=fun W' (h':Below W.heap.size W W')=>YJ (En xs nv l.length W' hxl (Ints.below hn h'))
 have HSc:=fun(h0:eB l=0) W' (h':Below W.heap.size W W')=>YJ (Fe l lv W' (fun s hs=>⟨(zZ ((sq h0).2 s hs)).1,qaD (zZ ((sq h0).2 s hs)).2 (by decide)⟩) (qaD (sq h0).1 (by decide)) (SolsV.below h h'))
 have HSt:=fun(h0:eB l=0) (h1:gh xs l.length=0) W' (h':Below W.heap.size W W')=>YJ (Cx xs nv W' (fun x hx=>by have:=DO h1 x hx;have:=(sq h0).1;omega) hxl (Ints.below hn h'))
 have HFi:=fun(h0:eB l=0) (h1:gh xs l.length=0) (sb mb:Nat) (pv:Value) (W':World) (h':Below W.heap.size W W') (k1:W'.heap[sb]? =some (.cells #[pv, .map (some mb)] 168 (0,0))) (k2:OwM W' mb 0 (.map [])) (k3:PtsV W' pv (l.map (·.map bp)))=>
  YJ (Iv (l.map (·.map bp)) (nr xs) sb mb 0 (.map []) pv W' (fun p hp=>by
   obtain⟨s,hs,rfl⟩:=altt.1 hp
   have:=zZ ((sq h0).2 s hs)
   exact⟨qer this.1,by rw[qdo];exact qaD this.2 (by decide)⟩) (by rw[qdo];exact(sq h0).1) (by rw[qdo];exact Kf _ _ (DO h1)) k1
   ⟨k2,fun v _ hh=>by simp[Maps.has]at hh⟩ (by omega) (hsym h0) k3 (nz hT h'))
 have He1:Hid (eB l≠0→fsE l xs=eB l):=YJ (fun h=>by unfold fsE;rw[if_neg h])
 have He2:Hid (eB l=0→fsE l xs=gh xs l.length):=YJ (fun h=>by unfold fsE;rw[if_pos h])
 have HlV:Hid (∃a c,lv= .slice a l.length c):=YJ (by obtain⟨a,n,c,rfl,hn,_⟩:=h;exact⟨a,c,by rw[hn]⟩)
 have HnV:Hid (∃a c,nv= .slice a xs.length c):=YJ (by obtain⟨a,n,c,rfl,hn',_⟩:=hn;exact⟨a,c,by rw[hn']⟩)
 obtain⟨la,lc,rfl⟩:=HlV.out
 obtain⟨na,nc,rfl⟩:=HnV.out
 obtain⟨ln,Hln⟩:∃ln,Hid (l.length=ln):=⟨_,YJ rfl⟩
 obtain⟨A,HA⟩:∃A,Hid (eB l=A):=⟨_,YJ rfl⟩
 obtain⟨E,HE⟩:∃E,Hid (gh xs l.length=E):=⟨_,YJ rfl⟩
 obtain⟨G,HG⟩:∃G,Hid (nr xs=G):=⟨_,YJ rfl⟩
 obtain⟨xn,Hxn⟩:∃xn,Hid (xs.length=xn):=⟨_,YJ rfl⟩
 rw[HA.out]at HCk He1 He2 HSc HSt HFi
 rw[HE.out]at HCs He2 HSt HFi
 simp only[HG.out]at HSt HFi
 rw[Hln.out]at HCk HCs HSc ⊢
 rw[Hxn.out]at HCs HSt ⊢
 clear h hn hsym hL hxl HlV HnV HA HE hT
 go_enter Tryz.func35,Tryz.ntmps35
 go_wp2_with fail
 refine((HCk _ bel).out).mono ?_
 rintro e w1 ⟨rfl,hb1⟩
 have hR1:w1.heap[W.heap.size]? =some (.cells #[.slice none 0 0, .slice none 0 0, .int .i64 0, .int .i64 0, .int .i64 0] 60 (0,0)):=(hb1.block _ (by simp)).trans (ai rfl)
 have hbw1:Below W.heap.size W w1:=fB bel hb1
 clear HCk
 have hR1':=hR1
 obtain⟨r0,r1,r2,r3,r4,rf,rz⟩:=bM hR1'
 obtain⟨Y,hY,hbY,hRY, -⟩:=GO (qaA _) hR1 (.slice none 0 0) (.slice none 0 0) (.int .i64 0) (.int .i64 0) (.int .i64 0)
 by_cases hA:A=0
 ·subst hA
  have He2':=YJ (He2.out rfl)
  have HG':=HG
  have HSc':=fun W' h'=>YJ (HSc rfl W' h').out
  have HSt':=fun h1 W' h'=>YJ (HSt rfl h1 W' h').out
  have HFi':=fun h1 sb mb pv W' h' k1 k2 k3=>YJ (HFi rfl h1 sb mb pv W' h' k1 k2 k3).out
  clear HSc HSt HFi He1 He2 hY hbY hRY Y
  go_wp2_with fail
  refine((HCs _ bel).out).mono ?_
  rintro e w2 ⟨rfl,hb2⟩
  have hb12:Below w1.heap.size w1 w2:=fB bel hb2
  have hbw2:=fB hbw1 hb12
  have hR2:=(hb12.block _ rz).trans hR1
  clear HCs r0 r1 r2 r3 r4 rf
  have hR2':=hR2
  obtain⟨r0,r1,r2,r3,r4,rf,rz2⟩:=bM hR2'
  by_cases hE:E=0
  ·subst hE
   have HSt2:=fun W' h'=>YJ (HSt' rfl W' h').out
   have HFi2:=fun sb mb pv W' h' k1 k2 k3=>YJ (HFi' rfl sb mb pv W' h' k1 k2 k3).out
   clear HSt' HFi' r0 r1 r2 r3 r4 rf
   go_wp2_with fail
   refine((HSc' _ bel).out).mono ?_
   rintro e w3 ⟨sb,mb,pv,rfl,hb3,hS3,hM3,hmb,hsb,hne,hP3⟩
   have hb23:Below w2.heap.size w2 w3:=fB bel hb3
   have hbw3:=fB hbw2 hb23
   have hmb2:w2.heap.size≤mb:=by first|exact hmb|(simp at hmb;omega)
   clear HSc'
   go_wp2_with fail
   refine((HSt2 _ bel).out).mono ?_
   rintro e w4 ⟨rfl,rfl⟩
   clear HSt2
   go_wp2_with fail
   refine((HFi2 sb mb pv _ hbw3 hS3 hM3 hP3).out).mono ?_
   rintro e w5 ⟨hbm, -,h5⟩
   clear HFi2 hS3 hM3 hP3
   have hWz:W.heap.size<w2.heap.size:=rz2
   have hbw5:Below W.heap.size W w5:=hbw3.trans (hbm.1.mono (by omega))
   have hR5:w5.heap[W.heap.size]? =some (.cells #[.slice none 0 0, .slice none 0 0, .int .i64 0, .int .i64 0, .int .i64 0] 60 (0,0)):=(hbm.2.2 _ (by have:=hb23.size;omega) (by omega)).trans ((hb23.block _ rz2).trans hR2)
   have hR5':=hR5
   obtain⟨r0,r1,r2,r3,r4,rf,rz5⟩:=bM hR5'
   have hfA:fsA l xs=Ok (l.map (·.map bp)) G:=by unfold fsA;rw[HG.out]
   rcases h5 with⟨hf,rfl⟩|⟨⟨v0,v1,v2⟩,o,cs,hv,hf,rfl,gv,ov,rfl,o1,o2⟩
   ·rw[←hfA]at hf
    obtain⟨Y,hY,hbY,hRY, -⟩:=GO (qaA _) hR5 (.slice none 0 0) (.slice none 0 0) (.int .i64 0) (.int .i64 0) (.int .i64 0)
    go_wp2
    rw[←hY]
    clear r0 r1 r2 r3 r4 rf hY
    have hYz:=ah hRY
    obtain⟨r0,r1,r2,r3,r4,rf,_⟩:=bM ((aB (o:= .cells #[.slice none 0 0, .slice none 0 0, .int .i64 0, .int .i64 0, .int .i64 0] 60) hYz).trans hRY)
    refine bodyPost_ret (v:= .tuple #[Fn, .bool false, .int .i64 0]) (by simp[Fn,results,Tryz.results35,go_sem,r0,r1,r2,r3,r4]) rfl ⟨(hbw5.trans hbY).alloc (by omega) _, .inr (.inl ⟨He2'.out,hf,rfl⟩)⟩
   ·rw[←hfA]at hf
    have ho1:=Cn o1 hbw3.size
    have ho2:=Cn o2 hbw3.size
    obtain⟨ga,gc,rfl⟩:=aT ho1
    obtain⟨oa,oc,rfl⟩:=aT ho2
    have Ho1:=YJ ho1
    have Ho2:=YJ ho2
    clear ho1 ho2 o1 o2
    obtain⟨Y,hY,hbY,hRY,hoY⟩:=GO (qaA _) hR5 (.slice ga (lf G).length gc) (.slice oa (lf o).length oc) (.int .i64 v0) (.int .i64 v1) (.int .i64 v2)
    go_wp2
    rw[←hY]
    clear r0 r1 r2 r3 r4 rf hY
    have hYz:=ah hRY
    obtain⟨r0,r1,r2,r3,r4,rf,_⟩:=bM ((aB (o:= .cells #[.slice ga (lf G).length gc, .slice oa (lf o).length oc, .int .i64 v0, .int .i64 v1, .int .i64 v2] 60) hYz).trans hRY)
    refine bodyPost_ret (v:= .tuple #[.agg #[.slice ga (lf G).length gc, .slice oa (lf o).length oc, .int .i64 v0, .int .i64 v1, .int .i64 v2], .bool true, .int .i64 0]) (by simp[results,Tryz.results35,go_sem,r0,r1,r2,r3,r4]) rfl ⟨(hbw5.trans hbY).alloc (by omega) _, .inr (.inr ⟨He2'.out,(v0,v1,v2),o,_,hv,hf,rfl,_,_,rfl, ?_,(hoY (by decide) Ho2.out).alloc _⟩)⟩
    rw[HG.out]
    exact(hoY (by decide) Ho1.out).alloc _
  ·have hE':(E !=0)=true:=by simpa using hE
   obtain⟨Y,hY,hbY,hRY, -⟩:=GO (qaA _) hR2 (.slice none 0 0) (.slice none 0 0) (.int .i64 0) (.int .i64 0) (.int .i64 0)
   go_wp2
   rw[←hY]
   clear r0 r1 r2 r3 r4 rf hY
   obtain⟨r0,r1,r2,r3,r4,rf,_⟩:=bM hRY
   refine bodyPost_ret (v:= .tuple #[Fn, .bool false, .int .i64 E]) (by simp[Fn,results,Tryz.results35,go_sem,r0,r1,r2,r3,r4]) rfl ⟨hbw2.trans hbY, .inl ⟨by rw[He2'.out];exact hE,by rw[He2'.out]⟩⟩
 ·have hA':(A !=0)=true:=by simpa using hA
  have hf:=He1.out hA
  clear HSc HSt HFi He2 HCs
  go_wp2
  rw[←hY]
  clear r0 r1 r2 r3 r4 rf hY
  obtain⟨r0,r1,r2,r3,r4,rf,_⟩:=bM hRY
  refine bodyPost_ret (v:= .tuple #[Fn, .bool false, .int .i64 A]) (by simp[Fn,results,Tryz.results35,go_sem,r0,r1,r2,r3,r4]) rfl ⟨hbw1.trans hbY, .inl ⟨by rw[hf];exact hA,by rw[hf]⟩⟩
theorem Fo:(Tryz.prog.info? 145).map (fun i=>i.size)=some 2:=by kernel_rfl
theorem DP:(Tryz.prog.info? 5).map (fun i=>(i.zero,i.size,i.bytes))=some (some (.int .u8 0),1,1):=by kernel_rfl
theorem DQ:Tryz.prog.underlying 143=some (.slice 5):=by kernel_rfl
theorem Kg:Tryz.prog.underlying 9=some .string:=by kernel_rfl
theorem Co:Tryz.prog.underlying 142=some (.pointer 145):=by kernel_rfl
theorem Fp:Tryz.prog.underlying 256=some .unsafePointer:=by kernel_rfl
theorem Kh:liesAt Tryz.prog Tryz.prog.depth 145 (2 / Tryz.prog.cellsOf 145) 0 145 1=true:=by kernel_rfl
theorem Fq (b:Nat) (w:World) (h0:w.cell? ⟨b,0,none⟩=some (.pointer (some ⟨b,0,none⟩))):
  Calls Tryz.prog 126 #[.pointer (some ⟨b,0,none⟩)] w fun e w'=>e= .returned (.tuple #[])∧w'=w:=by
 obtain⟨j,hj,hjs⟩:=Option.map_eq_some_iff.1 Fo
 have hlt:=qaC w _ h0
 simp only at hlt
 have hne:=Lib.run_neq_ptr_same w (⟨b,0,none⟩:Addr) Co hj
 go_enter Tryz.func126,Tryz.ntmps126
 go_wp2
 go_end0
 exact⟨rfl,rfl⟩
theorem Eo (b:Nat) (w:World) (h0:w.cell? ⟨b,0,none⟩=some (.pointer none)) (hsh:w.shape? b=some (145,2)) (hfz:w.frozen? ⟨b,0,none⟩=false):
  Calls Tryz.prog 126 #[.pointer (some ⟨b,0,none⟩)] w fun e w'=>e= .returned (.tuple #[])∧w'=w.setCell ⟨b,0,none⟩ (.pointer (some ⟨b,0,none⟩)):=by
 obtain⟨j,hj,hjs⟩:=Option.map_eq_some_iff.1 Fo
 have hlt:=qaC w _ h0
 simp only at hlt
 have hto:=Lib.run_to_unsafe w (⟨b,0,none⟩:Addr) Co Fp hj (by rw[hjs];decide) hsh (Nat.zero_lt_succ 1)
 have hfrom:=Lib.run_from_unsafe w (⟨b,0,none⟩:Addr) Fp Co hj hsh Kh
 have hne:∀w,(binOp .neq 142 (.pointer (some ⟨b,0,none⟩)) (.pointer (some ⟨b,0,none⟩))).run Tryz.prog w= .ok (.bool false) w:=fun w=>Lib.run_neq_ptr_same w (⟨b,0,none⟩:Addr) Co hj
 have hcall:∀w,(callFunc 172 #[.pointer (some ⟨b,0,none⟩)]).run Tryz.prog w= .ok (.value (.pointer (some ⟨b,0,none⟩))) w:=fun w=>by
  rw[run_callFunc_extern Tryz.func172 (by kernel_rfl) (by kernel_rfl) (by kernel_rfl) (e:=Extern.AbiNoEscape.same) (by kernel_rfl)]
  rfl
 go_enter Tryz.func126,Tryz.ntmps126
 go_wp2
 go_end0
 exact⟨rfl,rfl⟩
abbrev vm (B b:Nat) (bs:List Value) (w:World):Prop:=Lib.IsBuilder 145 5 B b bs w
abbrev Mj (B b:Nat) (bs:List Value) (w:World):Prop:=Lib.BuilderAt 145 5 B b (.pointer (some ⟨b,0,none⟩)) bs w
def KeepU (b:Nat) (w w':World):Prop:=∀g cells t,g≠b→5≠t→w.heap[g]? =some (.cells cells t (0,0))→w'.heap[g]? =some (.cells cells t (0,0))
theorem KeepU.refl (b:Nat) (w:World):KeepU b w w:=fun _ _ _ _ _ h=>h
theorem KeepU.trans {b:Nat} {w w1 w2:World} (h:KeepU b w w1) (h':KeepU b w1 w2):KeepU b w w2:=fun g c t hg ht hc=>h' g c t hg ht (h g c t hg ht hc)
theorem KeepU.setCell (b o:Nat) (w:World) (u:Value):KeepU b w (w.setCell ⟨b,o,none⟩ u):=fun g _ _ hg _ h=>(qaH w ⟨b,o,none⟩ u g hg).trans h
theorem KeepU.alloc (b:Nat) (w:World) (o:Obj):KeepU b w (w.alloc o):=fun g _ _ _ _ h=>(aB (ah h)).trans h
theorem KeepU.grown {b B n:Nat} {w w':World} {v:Value} {xs:List Value} (ho:w.ownsRow B 5 1 v n xs) (hg:w.grownBy w' v.ownBlock):KeepU b w w':=fun g _ _ _ ht h=>
 (hg.block _ (ah h) (fun e=>aG ho h ht e.symm)).trans h
theorem Du (B b:Nat) (bs:List Value) (w:World) (h:vm B b bs w):
  Calls Tryz.prog 126 #[.pointer (some ⟨b,0,none⟩)] w fun e w'=>e= .returned (.tuple #[])∧(Mj B b bs w'∧Below B w w'∧KeepU b w w'):=by
 rcases h with h|h
 ·refine(Eo b w h.cell0 h.shape h.frozen0).mono ?_
  rintro e w' ⟨rfl,rfl⟩
  exact⟨rfl,h.used _,(Below.refl B w).setCell (p:=⟨b,0,none⟩) h.1 _,KeepU.setCell _ _ _ _⟩
 ·refine(Fq b w h.cell0).mono ?_
  rintro e w' ⟨rfl,rfl⟩
  exact⟨rfl,h,Below.refl B _,KeepU.refl _ _⟩
set_option maxRecDepth 100000 in
theorem Iz (B b:Nat) (bs:List Value) (c:Int) (w:World) (h:vm B b bs w) (hlen:bs.length+1≤140737488355328) (hBw:B≤w.heap.size):
  Calls Tryz.prog 80 #[.pointer (some ⟨b,0,none⟩), .int .u8 c] w fun e w'=>e= .returned .nilIface∧(Mj B b (bs++[.int .u8 c]) w'∧Below B w w'∧KeepU b w w'):=by
 obtain⟨i0,hi,hz0,hz1,hz2⟩:=info_parts DP
 have HC:=YJ (Du B b bs w h)
 have Hi0:=YJ (And.intro hi (And.intro hz0 (And.intro hz1 hz2)))
 clear hi hz0 hz1 hz2 h
 go_enter Tryz.func80,Tryz.ntmps80
 go_wp2_with fail
 refine(HC.out).mono ?_
 rintro e w1 ⟨rfl,h1,hb1,hk1⟩
 obtain⟨hB,v,hbk,hown,hne⟩:=h1
 have c0:w1.cell? ⟨b,0,none⟩=some (.pointer (some ⟨b,0,none⟩)):=by rw[Lib.cell_of_heap hbk];rfl
 have c1:w1.cell? ⟨b,1,none⟩=some v:=by rw[Lib.cell_of_heap hbk];rfl
 have HBK:=YJ hbk
 have HO:=YJ hown
 have zb:=ah hbk
 obtain⟨va,vc,rfl⟩:=aT hown
 clear HC hbk hown
 go_wp2_with (at_builtin;refine wpList_append_own _ rfl _ _ 143 rfl B 5 i0 (.int .u8 0) 1 1 DQ Hi0.out.1 Hi0.out.2.1 Hi0.out.2.2.1 Hi0.out.2.2.2 rfl (by decide) _ _ _ rfl (HO.out.alloc _) ⟨w1.heap.size,0,none⟩ 1 1 [.int .u8 c] rfl rfl ?c1 ?c2 ?c3 ?c4 ?c5 ?_)
 case c1=>
  intro j u hj
  match j,hj with
  |0,hj=>simp at hj;subst hj;simp[Addr.add]
 case c2=>intro u hu;simp at hu;subst hu;rfl
 case c3=>unfold maxLen;omega
 case c4=>omega
 case c5=>have:=hb1.size;simp;omega
 intro v' w2 hown' hgrow _
 have HB2:Hid (w2.heap[b]? =some (.cells #[.pointer (some ⟨b,0,none⟩), .slice va bs.length vc] 145 (0,0))):=YJ (by
  rw[hgrow.block b (by simp;omega) (fun e=>hne e.symm),Lib.alloc_old w1 _ b zb]
  exact HBK.out)
 have HO2:=YJ hown'
 have HG:=YJ hgrow
 obtain⟨va2,vc2,rfl⟩:=aT hown'
 clear c0 c1 hown' hgrow
 have d0:w2.cell? ⟨b,0,none⟩=some (.pointer (some ⟨b,0,none⟩)):=by rw[Lib.cell_of_heap HB2.out];rfl
 have d1:w2.cell? ⟨b,1,none⟩=some (.slice va bs.length vc):=by rw[Lib.cell_of_heap HB2.out];rfl
 have f1:w2.frozen? ⟨b,1,none⟩=false:=Lib.frozen_of_heap HB2.out 1
 have zb2:=ah HB2.out
 go_wp2
 go_ret
 refine⟨rfl, ?_, ?_, ?_⟩
 ·exact Lib.BuilderAt.put (T:=145) (e:=5) hB HB2.out (bs':=bs++[.int .u8 c]) (by simpa using HO2.out) (by decide)
 ·exact((hb1.alloc (by have:=hb1.size;omega) _).grown HG.out (by have:=hb1.size;simp;omega) (fun k hk=>(HO.out.lt k hk).1)).setCell (p:=⟨b,1,none⟩) hB _
 ·exact((hk1.trans (KeepU.alloc _ _ _)).trans (KeepU.grown (HO.out.alloc _) HG.out)).trans (KeepU.setCell _ _ _ _)
set_option maxRecDepth 100000 in
theorem Ki (B b:Nat) (bs:List Value) (s:ByteArray) (w:World) (h:vm B b bs w) (hlen:bs.length+s.size≤140737488355328) (hBw:B≤w.heap.size):
  Calls Tryz.prog 77 #[.pointer (some ⟨b,0,none⟩), .string s] w fun e w'=>e= .returned (.tuple #[.int .i64 s.size, .nilIface])∧(Mj B b (bs++Lib.strCells s) w'∧Below B w w'∧KeepU b w w'):=by
 obtain⟨i0,hi,hz0,hz1,hz2⟩:=info_parts DP
 have HC:=YJ (Du B b bs w h)
 have Hi0:=YJ (And.intro hi (And.intro hz0 (And.intro hz1 hz2)))
 clear hi hz0 hz1 hz2 h
 go_enter Tryz.func77,Tryz.ntmps77
 go_wp2_with fail
 refine(HC.out).mono ?_
 rintro e w1 ⟨rfl,h1,hb1,hk1⟩
 obtain⟨hB,v,hbk,hown,hne⟩:=h1
 have c0:w1.cell? ⟨b,0,none⟩=some (.pointer (some ⟨b,0,none⟩)):=by rw[Lib.cell_of_heap hbk];rfl
 have c1:w1.cell? ⟨b,1,none⟩=some v:=by rw[Lib.cell_of_heap hbk];rfl
 have HBK:=YJ hbk
 have HO:=YJ hown
 have zb:=ah hbk
 obtain⟨va,vc,rfl⟩:=aT hown
 clear HC hbk hown
 go_wp2_with (at_builtin;refine Lib.wpList_append_own_string _ rfl _ _ 143 9 rfl B 5 i0 DQ Kg Hi0.out.1 Hi0.out.2.1 Hi0.out.2.2.1 Hi0.out.2.2.2 _ _ _ rfl HO.out s rfl ?c3 ?c4 ?c5 ?_)
 case c3=>unfold maxLen;omega
 case c4=>omega
 case c5=>have:=hb1.size;omega
 intro v' w2 hown' hgrow _
 have HB2:Hid (w2.heap[b]? =some (.cells #[.pointer (some ⟨b,0,none⟩), .slice va bs.length vc] 145 (0,0))):=YJ (by
  rw[hgrow.block b zb (fun e=>hne e.symm)]
  exact HBK.out)
 have HO2:=YJ hown'
 have HG:=YJ hgrow
 obtain⟨va2,vc2,rfl⟩:=aT hown'
 clear c0 c1 hown' hgrow
 have d0:w2.cell? ⟨b,0,none⟩=some (.pointer (some ⟨b,0,none⟩)):=by rw[Lib.cell_of_heap HB2.out];rfl
 have d1:w2.cell? ⟨b,1,none⟩=some (.slice va bs.length vc):=by rw[Lib.cell_of_heap HB2.out];rfl
 have f1:w2.frozen? ⟨b,1,none⟩=false:=Lib.frozen_of_heap HB2.out 1
 have zb2:=ah HB2.out
 go_wp2
 go_ret2
 refine⟨rfl, ?_, ?_, ?_⟩
 ·exact Lib.BuilderAt.put (T:=145) (e:=5) hB HB2.out (bs':=bs++Lib.strCells s) (by simpa [Lib.strCells_length]using HO2.out) (by decide)
 ·exact(hb1.grown HG.out (by have:=hb1.size;omega) (fun k hk=>(HO.out.lt k hk).1)).setCell (p:=⟨b,1,none⟩) hB _
 ·exact(hk1.trans (KeepU.grown HO.out HG.out)).trans (KeepU.setCell _ _ _ _)
theorem ws (l s:List UInt8):Lib.byteCells (l++s)=Lib.byteCells l++Lib.byteCells s:=qgh
theorem qfd (B b:Nat) (l s:List UInt8) (w:World) (h:vm B b (Lib.byteCells l) w) (hlen:l.length+s.length≤140737488355328) (hBw:B≤w.heap.size):
  Calls Tryz.prog 77 #[.pointer (some ⟨b,0,none⟩), .string ⟨s.toArray⟩] w fun e w'=>e= .returned (.tuple #[.int .i64 (⟨s.toArray⟩:ByteArray).size, .nilIface])∧(vm B b (Lib.byteCells (l++s)) w'∧Below B w w'∧KeepU b w w'):=by
 have hs:(⟨s.toArray⟩:ByteArray).size=s.length:=by simp[ByteArray.size]
 refine(Ki B b (Lib.byteCells l) ⟨s.toArray⟩ w h (by rw[hs,Lib.byteCells_length];exact hlen) hBw).mono ?_
 rintro e w' ⟨rfl,h1,h2,h3⟩
 rw[Lib.strCells_toArray, ←ws]at h1
 exact⟨rfl, .inr h1,h2,h3⟩
def GL (xs:List Int):List UInt8:=Lib.join (xs.map Lib.itoa) [44]
theorem Fs (n:Nat) (sep:List UInt8):∀ls:List (List UInt8),(∀l∈ls,l.length≤n)→(Lib.join ls sep).length≤ls.length*(n+sep.length)
 | [],_=>by simp[Lib.join_nil]
 | [a],h=>by
  rw[Lib.join_one]
  have:=h a (by simp)
  simp
  omega
 |a::b::ls,h=>by
  have ih:=Fs n sep (b::ls) (fun l hl=>h l (List.mem_cons_of_mem _ hl))
  have e:Lib.join (a::b::ls) sep=a++sep++Lib.join (b::ls) sep:=by simp[Lib.join,List.intercalate]
  rw[e,qaE,qaE]
  have:=h a (by simp)
  simp only[qdn]at ih ⊢
  rw[Nat.add_mul (ls.length+1) 1]
  omega
theorem CD (xs:List Int) (hx:∀x∈xs, -1000000000≤x∧x≤1000000000):(GL xs).length≤xs.length*22:=by
 have:=Fs 21 [44] (xs.map Lib.itoa) (fun l hl=>by
  obtain⟨x,hx',rfl⟩:=altt.1 hl
  have:=hx x hx'
  exact Lib.itoa_length_le x (by omega) (by omega))
 simpa [GL]using this
theorem Dv (xs:List Int) (v:Value) (W:World) (hx:∀x∈xs, -1000000000≤x∧x≤1000000000) (hl:xs.length≤1000000) (hv:Ints W v xs) (htab:Lib.TabIs Tryz.prog W "internal/strconv.uint64pow10" .u64 Lib.pow10Tab):
  Calls Tryz.prog 78 #[v] W (Ret W (.string ⟨(GL xs).toArray⟩)):=by
 obtain⟨i0,Hi0⟩:=qfT vj
 obtain⟨a,n,c,rfl,hn,_,hi⟩:=hv
 have HX:=YJ hi
 have HN:=YJ hn
 have HT:=YJ htab
 have HB:=fun i (h:i<xs.length)=>YJ (hx _ (qaB h))
 have HS:=fun i (h:i<xs.length)=>YJ (show(xs.take (i+1)).map txt=(xs.take i).map txt++[txt xs[i]] by rw[qaI h,qgh];rfl)
 have HE:Hid ((xs.take n).map txt=xs.map txt):=YJ (by rw[qaK (by omega)])
 have HJ:Hid (GL xs=Lib.join ((xs.map txt).map (·.data.toList)) [44]):=YJ (by unfold GL;rw[List.map_map];rfl)
 have HCL:=YJ (CD xs hx)
 clear hi hn hx htab
 go_enter Tryz.func78,Tryz.ntmps78
 go_wp2
 go_loopw [3,8] (fun s x wr=>Below W.heap.size W wr∧∃k:Nat,k≤n∧x= .int .i64 k∧Hid (wr.ownsRow W.heap.size 9 1 s k (((xs.take k).map txt).map Value.string))) (fun _ x _=>n-(intOf x).toNat)
 case atStart=>exact⟨brf,0,by omega,rfl,YJ (qds _ _ _ _)⟩
 case round=>
  obtain⟨hb,k,hk,rfl,HO⟩:=hrel
  obtain⟨sa,sc,rfl⟩:=aT HO.out
  by_cases hlt:k<n
  ·have g1:(k:Int)<(n:Int):=by omega
   have g2:(0:Int)≤(k:Int):=by omega
   have hil:k<xs.length:=by have:=HN.out;omega
   obtain⟨b,off,rfl,hi4⟩:=HX.out (by omega)
   have e0:=ab hb (hi4 k hil)
   have ze:=qaC wr _ e0
   simp only at ze
   have HI:=YJ (vi xs[k] (HB k hil).out wr (vk HT.out hb))
   have HSk:=YJ ((HS k hil).out)
   clear HX HB HS hi4
   have Htx:Hid ((⟨(Lib.itoa xs[k]).toArray⟩:ByteArray)=txt xs[k]):=YJ rfl
   rw[Htx.out]at HI
   generalize txt xs[k]=tx at*
   generalize xs[k]=y at*
   go_wp2_with fail
   refine(HI.out).mono ?_
   rintro e w1 ⟨rfl,hb1⟩
   have HO1:=YJ (au HO.out hb1)
   have hbw1:=fB hb hb1
   clear HI HO e0 ze
   go_wp2_with (at_builtin;refine wpList_append_own _ rfl _ _ 132 rfl W.heap.size 9 i0 (.string ⟨#[]⟩) 1 16 qcL Hi0.out.1 Hi0.out.2.1 Hi0.out.2.2.1 Hi0.out.2.2.2 rfl (by decide) _ k _ rfl (HO1.out.alloc _) ⟨_,0,none⟩ 1 1 [.string tx] rfl rfl ?c1 ?c2 ?c3 ?c4 ?c5 ?_)
   case c1=>
    intro jj uu hu
    rw[jY,aq (by simp) jj]
    simpa using hu
   case c2=>intro v hv;simp at hv;subst hv;rfl
   case c3=>unfold maxLen;omega
   case c4=>omega
   case c5=>simp;have:=hbw1.size;omega
   intro v' w4 hown4 hg4 _
   have hbx:Below w1.heap.size w1 (w1.alloc (.cells #[.string tx] 9)):=bel
   have hb4:Below W.heap.size W w4:=(fB hbw1 hbx).grown hg4 (fB hbw1 hbx).size (fun z hz=>by have:=(HO1.out.lt z hz).1;omega)
   have HO4:Hid (w4.ownsRow W.heap.size 9 1 v' (k+1) (((xs.take (k+1)).map txt).map Value.string)):=YJ (by rw[HSk.out];simpa using hown4)
   clear hown4 hg4 HO1 hbx hb1 hbw1 hb
   obtain⟨va,vc,rfl⟩:=aT HO4.out
   go_wp2
   go_roundw
   case rel=>exact⟨hb4,k+1,by omega,by go_num,HO4⟩
   simp[intOf];try omega
  ·obtain rfl:k=n:=by omega
   have HO2:Hid (wr.ownsRow W.heap.size 9 1 (.slice sa k sc) k ((xs.map txt).map Value.string)):=YJ (by rw[←HE.out];exact HO.out)
   clear HX HB HS HO HE
   by_cases h0:k=0
   ·subst h0
    have hx0:xs=[]:=alto.1 HN.out
    subst hx0
    have HQ:Hid ((⟨(GL []).toArray⟩:ByteArray)=⟨#[]⟩):=YJ rfl
    have HF:=fun a c W'=>YJ (Tryz.strings_Join_none a c ⟨#[44]⟩ W')
    go_wp2_with fail
    refine((HF _ _ _).out).mono ?_
    rintro e w1 ⟨rfl,rfl⟩
    go_wp2
    go_ret
    exact⟨by rw[HQ.out];rfl,hb⟩
   ·obtain⟨g,cap,e,hcap,hlt2,hcl⟩:=Qx HO2.out (by rw[qdo];have:=HN.out;omega)
    have hxl:(xs.map txt).length=k:=by rw[qdo];exact HN.out
    rw[hxl]at e hcap
    cases e
    have HF:=YJ (Tryz.strings_Join g 0 sc (xs.map txt) ⟨#[44]⟩ wr hcl hlt2 (by rw[hxl];have:=HN.out;omega) (by rw[hxl];exact hcap) (by
     have h9:=HCL.out
     rw[HJ.out]at h9
     have:(⟨#[44]⟩:ByteArray).data.toList=[44]:=rfl
     rw[this]
     have:=HN.out
     omega))
    rw[hxl]at HF
    have e2:(⟨#[44]⟩:ByteArray).data.toList=[44]:=rfl
    rw[e2, ←HJ.out]at HF
    clear hcl HO2 e2 hxl hcap
    go_wp2_with fail
    refine(HF.out).mono ?_
    rintro e w1 ⟨rfl,hb1⟩
    go_wp2
    go_ret
    exact⟨rfl,fB hb hb1⟩
def Ce (g o:List Int) (v:Q3):Int:=if g.length=0∨o.length=0 then 13 else if(g++o).any (fun n=>decide (n<0∨99<n))then 2 else if 12<g.length∨12<o.length then 8 else mK v
set_option maxRecDepth 100000 in
theorem DE (g o:List Int) (gv ov:Value) (x y z:Int) (W:World) (hg:Ints W gv g) (ho:Ints W ov o) (hl:g.length≤1000) (hl2:o.length≤1000):
  Calls Tryz.prog 76 #[.agg #[gv,ov, .int .i64 x, .int .i64 y, .int .i64 z]] W (Ret W (.int .i64 (Ce g o (x,y,z)))):=by
 have HCW:=fun W'=>YJ (Ru x y z W')
 have H13:Hid (g.length=0∨o.length=0→Ce g o (x,y,z)=13):=YJ (fun h=>by unfold Ce;rw[if_pos h])
 have H2:Hid (g.length≠0→o.length≠0→(g++o).any (fun n=>decide (n<0∨99<n))=true→Ce g o (x,y,z)=2):=YJ (fun h h1 h2=>by unfold Ce;rw[if_neg (by omega),if_pos h2])
 have H8:Hid (g.length≠0→o.length≠0→(g++o).any (fun n=>decide (n<0∨99<n))=false→12<g.length∨12<o.length→Ce g o (x,y,z)=8):=YJ (fun h h1 h2 h3=>by unfold Ce;rw[if_neg (by omega),if_neg (by rw[h2];simp),if_pos h3])
 have H0:Hid (g.length≠0→o.length≠0→(g++o).any (fun n=>decide (n<0∨99<n))=false→¬(12<g.length∨12<o.length)→Ce g o (x,y,z)=mK (x,y,z)):=YJ (fun h h1 h2 h3=>by unfold Ce;rw[if_neg (by omega),if_neg (by rw[h2];simp),if_neg h3])
 generalize Ce g o (x,y,z)=res at*
 generalize mK (x,y,z)=we at*
 obtain⟨ga,gn,gc,rfl,hgn,hgc,hgi⟩:=hg
 obtain⟨oa,on,oc,rfl,hon,hoc,hoi⟩:=ho
 obtain⟨V,HV⟩:∃V,Hid (W.alloc (.cells #[.slice ga gn gc, .slice oa on oc, .int .i64 x, .int .i64 y, .int .i64 z] 60)=V):=⟨_,YJ rfl⟩
 have hV:Below W.heap.size W V:=by rw[←HV.out];exact bel
 have HB:Hid (V.heap[W.heap.size]? =some (.cells #[.slice ga gn gc, .slice oa on oc, .int .i64 x, .int .i64 y, .int .i64 z] 60 (0,0))):=YJ (by rw[←HV.out];exact ai rfl)
 rw[hgn,hon]at H13 H2 H8 H0
 by_cases hg0:gn=0
 ·subst hg0
  have HT:=YJ (H13.out (.inl rfl))
  go_enter Tryz.func76,Tryz.ntmps76
  go_wp2
  go_ret
  exact⟨aK HT.out.symm,bel⟩
 ·have hg0':((gn:Int)==0)=false:=by rw[beq_eq_false_iff_ne];omega
  by_cases ho0:on=0
  ·subst ho0
   have HT:=YJ (H13.out (.inr rfl))
   clear hgi hoi
   go_enter Tryz.func76,Tryz.ntmps76
   go_wp2
   go_ret
   exact⟨aK HT.out.symm,bel⟩
  ·have ho0':((on:Int)==0)=false:=by rw[beq_eq_false_iff_ne];omega
   obtain⟨gb,goff,rfl,hgi'⟩:=hgi (by omega)
   obtain⟨ob,ooff,rfl,hoi'⟩:=hoi (by omega)
   obtain⟨U,HU⟩:∃U,Hid (V.alloc (.cells #[.slice (some ⟨gb,goff,none⟩) gn gc, .slice (some ⟨ob,ooff,none⟩) on oc] 34)=U):=⟨_,YJ rfl⟩
   have hU:Below V.heap.size V U:=by rw[←HU.out];exact bel
   have hWU:=fB hV hU
   have HBU:=YJ ((hU.block _ (ah HB.out)).trans HB.out)
   have hbk:U.heap[V.heap.size]? =some (.cells #[.slice (some ⟨gb,goff,none⟩) gn gc, .slice (some ⟨ob,ooff,none⟩) on oc] 34 (0,0)):=by rw[←HU.out];exact ai rfl
   have hcat:=YJ (Qb U V.heap.size 0 2 [g.map (Value.int .i64),o.map (Value.int .i64)] (fun i hi=>by
    rcases(by simp at hi;omega:i=0∨i=1)with rfl|rfl
    ·exact⟨_,(bq hbk 0).trans rfl,pA (hgi'.below hWU) hgn⟩
    ·exact⟨_,(bq hbk 1).trans rfl,pA (hoi'.below hWU) hon⟩) (by simp) (by simp) (by
    intro cs hcs
    simp only[alsk,List.not_mem_nil,or_false]at hcs
    rcases hcs with rfl|rfl
    ·exact ss g
    ·exact ss o) (by simp;omega))
   have HE:Hid ([g.map (Value.int .i64),o.map (Value.int .i64)].flatten=(g++o).map (Value.int .i64)):=YJ (by simp)
   have hVs:V.heap.size=W.heap.size+1:=by rw[←HV.out];simp
   rw[HE.out,hVs]at hcat
   have Hlen:Hid ((g++o).length=gn+on):=YJ (by rw[qaE,hgn,hon])
   have hlg:gn≤1000:=by omega
   have hlo:on≤1000:=by omega
   have H2':=YJ (H2.out hg0 ho0)
   have H8':=YJ (H8.out hg0 ho0)
   have H0':=YJ (H0.out hg0 ho0)
   obtain⟨b0,b1,b2,b3,b4,bf,bz⟩:=bM HB.out
   generalize g++o=xs at*
   clear hgi hoi hgi' hoi' H13 H2 H8 H0 HE hbk hl hl2
   go_enter Tryz.func76,Tryz.ntmps76
   go_wp2_with fail
   try rw[HV.out]
   try rw[HU.out]
   refine(hcat.out).mono ?_
   rintro e w1 ⟨r,m,rfl,hb1,hown⟩
   have hw1:Below W.heap.size W w1:=fB hWU hb1
   have HB1:=YJ ((hb1.block _ (ah HBU.out)).trans HBU.out)
   obtain⟨rfl,q,cap,cur,rfl,hq,hcur⟩:=vl hown (by rw[Hlen.out];omega)
   have hcs:xs.length≤cap:=by
    rcases hown.2 with⟨h,_⟩|⟨_,_,_,h,_,_,h2,_⟩
    ·cases h
    ·cases h;exact h2
   have HQ:=YJ hq
   have HC:=YJ hcur
   have Hat:Hid (∀i (h:i<xs.length),xs[i]<0∨99<xs[i]→xs.any (fun n=>decide (n<0∨99<n))=true):=YJ (fun i hi h=>ultj.2 ⟨_,qaB hi,qfX h⟩)
   have Haf:Hid ((∀i (h:i<xs.length),¬(xs[i]<0∨99<xs[i]))→xs.any (fun n=>decide (n<0∨99<n))=false):=YJ (fun h=>by
    rw[ultp]
    intro v hv
    obtain⟨i,hi,rfl⟩:=qaJ hv
    simpa using h i hi)
   generalize(xs.any fun n=>decide (n<0∨99<n))=an at*
   obtain⟨N,HN⟩:∃N,Hid (xs.length=N):=⟨_,YJ rfl⟩
   rw[HN.out]at hcs ⊢
   have hN2:N≤2000:=by have:=Hlen.out;have:=HN.out;omega
   clear hown hq hcur hcat hb1 HB HBU b0 b1 b2 b3 b4 bf bz
   go_wp2
   go_loopw [22] (fun i wr=>∃k:Nat,k≤N∧i= .int .i64 k∧wr=w1∧Hid (∀j (h:j<xs.length),j<k→¬(xs[j]<0∨99<xs[j]))) (fun i _=>N-(intOf i).toNat)
   case atStart=>exact⟨0,by omega,rfl,rfl,YJ (fun j _ h=>by omega)⟩
   case round=>
    obtain⟨k,hk,rfl,rfl,Hd⟩:=hrel
    by_cases hlt:k<N
    ·have g1:(k:Int)<(N:Int):=by omega
     have hkl:k<xs.length:=by have:=HN.out;omega
     have cj:=(bq HQ.out k).trans (HC.out k hkl)
     have zg:=ah HQ.out
     have Hbad:=YJ (Hat.out k hkl)
     have Hst:Hid (¬(xs[k]<0∨99<xs[k])→∀j (h:j<xs.length),j<k+1→¬(xs[j]<0∨99<xs[j])):=YJ (fun h j hj hji=>by
      by_cases e:j=k
      ·subst e;exact h
      ·exact Hd.out j hj (by omega))
     clear HC Hat Haf Hd
     generalize xs[k]=n at*
     by_cases h1:n<0
     ·have HT:=YJ (H2'.out (Hbad.out (.inl h1)))
      clear Hbad Hst
      go_wp2
      go_ret
      exact⟨aK HT.out.symm,hw1⟩
     ·by_cases h2:99<n
      ·have HT:=YJ (H2'.out (Hbad.out (.inr h2)))
       clear Hbad Hst
       go_wp2
       go_ret
       exact⟨aK HT.out.symm,hw1⟩
      ·have HT:=YJ (Hst.out (by omega))
       clear Hbad Hst
       go_wp2
       go_roundw
       case rel=>exact⟨k+1,by omega,by go_num,by first|trivial|rfl,HT⟩
       simp[intOf];try omega
    ·obtain rfl:k=N:=by omega
     have HF:=YJ (Haf.out (fun i hi=>Hd.out i hi (by have:=HN.out;omega)))
     obtain⟨b0,b1,b2,b3,b4,bf,bz⟩:=bM HB1.out
     clear Hat Haf Hd HC H2'
     by_cases hg12:12<gn
     ·have HT:=YJ (H8'.out HF.out (.inl hg12))
      have g3:(12:Int)<(gn:Int):=by omega
      clear H8' H0' HF
      go_wp2
      go_ret
      exact⟨aK HT.out.symm,hw1⟩
     ·have g3:¬(12:Int)<(gn:Int):=by omega
      by_cases ho12:12<on
      ·have HT:=YJ (H8'.out HF.out (.inr ho12))
       have g4:(12:Int)<(on:Int):=by omega
       clear H8' H0' HF
       go_wp2
       go_ret
       exact⟨aK HT.out.symm,hw1⟩
      ·have g4:¬(12:Int)<(on:Int):=by omega
       have HT:=YJ (H0'.out HF.out (by omega))
       clear H8' H0' HF
       go_wp2_with fail
       refine((HCW _).out).mono ?_
       rintro e w2 ⟨rfl,hb2⟩
       go_wp2
       go_ret
       exact⟨aK HT.out.symm,fB hw1 hb2⟩
abbrev Spl:=List Int×List Int×Q3
def fb (v:Q3):Nat→List UInt8
 |0=>[]
 |1=>32::Lib.itoa v.1
 |2=>32::Lib.itoa v.1++32::Lib.itoa v.2.1
 |_=>32::Lib.itoa v.1++32::Lib.itoa v.2.1++32::Lib.itoa v.2.2
def Rh (s:Spl):List UInt8:=GL s.1++[32]++GL s.2.1++fb s.2.2 3++[10]
def DF (s:Spl):Int:=Ce s.1 s.2.1 s.2.2
def sL:List Spl→Int
 | []=>0
 |s::l=>if DF s=0 then sL l else DF s
theorem Gr (ps:List Spl) (k:Nat) (hk:k<ps.length) (h:∀i (hi:i<ps.length),i<k→DF ps[i]=0) (hx:DF ps[k]≠0):sL ps=DF ps[k]:=by
 induction ps generalizing k with
 |nil=>simp at hk
 |cons p ps ih=>
  cases k with
  |zero=>simp only[qdt]at hx;simp[sL,hx]
  |succ k=>
   have h0:=h 0 (by simp) (by omega)
   simp only[qdt]at h0
   simp only[sL,h0,if_true,List.getElem_cons_succ]
   exact ih k (by simpa using hk) (fun i hi hik=>by have:=h (i+1) (by simpa using hi) (by omega);simpa using this) (by simpa using hx)
theorem Ft (ps:List Spl) (h:∀i (hi:i<ps.length),DF ps[i]=0):sL ps=0:=by
 induction ps with
 |nil=>rfl
 |cons p ps ih=>
  have h0:=h 0 (by simp)
  simp only[qdt]at h0
  simp only[sL,h0,if_true]
  exact ih (fun i hi=>by have:=h (i+1) (by simpa using hi);simpa using this)
def CE (ps:List Spl):Int:=if 100<ps.length then 8 else sL ps
def Ep (ps:List Spl):List UInt8:=if CE ps=0 then ps.flatMap Rh else []
def Kj (w:World) (v:Value) (ps:List Spl):Prop:=∃a n c,v= .slice a n c∧ps.length=n∧n≤c∧
 (0<n→∃g off,a=some ⟨g,off,none⟩∧∀i (h:i<ps.length),∃p q,w.cell? ⟨g,off+i*5,none⟩=some p∧w.cell? ⟨g,off+i*5+1,none⟩=some q∧
  w.cell? ⟨g,off+i*5+2,none⟩=some (.int .i64 ps[i].2.2.1)∧w.cell? ⟨g,off+i*5+3,none⟩=some (.int .i64 ps[i].2.2.2.1)∧w.cell? ⟨g,off+i*5+4,none⟩=some (.int .i64 ps[i].2.2.2.2)∧Ints w p ps[i].1∧Ints w q ps[i].2.1)
theorem Lp {g o:List Int} {v:Q3} (h:Ce g o v=0):(∀x∈g,0≤x∧x≤99)∧(∀x∈o,0≤x∧x≤99)∧g.length≤12∧o.length≤12∧Cj v:=by
 unfold Ce at h
 split at h
 ·cases h
 ·split at h
  ·cases h
  ·rename_i h2
   split at h
   ·cases h
   ·have h3:∀x∈g++o,0≤x∧x≤99:=fun x hx=>by
     have h2':(g++o).any (fun n=>decide (n<0∨99<n))=false:=(Bool.not_eq_true _).mp h2
     have:=ultp.1 h2' x hx
     simp only[qfV]at this
     omega
    exact⟨fun x hx=>h3 x (by simp[hx]),fun x hx=>h3 x (by simp[hx]),by omega,by omega,BN h⟩
theorem Cp (x y:List UInt8) (hx:x.length≤8000000) (hy:y.length≤8000000) (w:World):(Op.stringOp .add ⟨x.toArray⟩ ⟨y.toArray⟩).run Tryz.prog w= .ok (.string ⟨(x++y).toArray⟩) w:=
 Go.run_string_add_lists w x y (by omega) (by omega)
theorem ek {x:Int} (h: -1≤x∧x≤1):(Lib.itoa x).length≤21:=Lib.itoa_length_le x (by omega) (by omega)
theorem Kk {v:Q3} (h:Cj v) (k:Nat):(fb v k).length≤66:=by
 have h1:=ek h.1
 have h2:=ek h.2.1
 have h3:=ek h.2.2
 match k with
 |0=>simp[fb]
 |1=>simp[fb];omega
 |2=>simp[fb];omega
 |n+3=>simp[fb];omega
theorem xd {B b:Nat} {bs:List Value} {w w':World} (h:vm B b bs w) (hb:Below w.heap.size w w'):vm B b bs w':=by
 rcases h with⟨h1,v,h2,h3,h4⟩|⟨h1,v,h2,h3,h4⟩
 ·exact .inl ⟨h1,v,(hb.block _ (ah h2)).trans h2,au h3 hb,h4⟩
 ·exact .inr ⟨h1,v,(hb.block _ (ah h2)).trans h2,au h3 hb,h4⟩
theorem Lr {B b:Nat} {bs:List Value} {w:World} (h:vm B b bs w):b<w.heap.size:=by
 rcases h with⟨_,v,h2,_,_⟩|⟨_,v,h2,_,_⟩<;>exact ah h2
theorem IA (ps:List Spl) (v:Value) (W:World) (hl:∀s∈ps,s.1.length≤1000∧s.2.1.length≤1000) (hv:Kj W v ps) (htab:Lib.TabIs Tryz.prog W "internal/strconv.uint64pow10" .u64 Lib.pow10Tab):
  Calls Tryz.prog 30 #[v] W (Ret W (.tuple #[.string ⟨(Ep ps).toArray⟩, .int .i64 (CE ps)])):=by
 have H100:Hid (100<ps.length→CE ps=8∧Ep ps=[]):=YJ (fun h=>by
  have:CE ps=8:=by unfold CE;rw[if_pos h]
  exact⟨this,by unfold Ep;rw[this];rfl⟩)
 have Hbad:Hid (ps.length≤100→sL ps≠0→CE ps=sL ps∧Ep ps=[]):=YJ (fun h h0=>by
  have:CE ps=sL ps:=by unfold CE;rw[if_neg (by omega)]
  exact⟨this,by unfold Ep;rw[if_neg (by rw[this];exact h0)]⟩)
 have Hok:Hid (ps.length≤100→sL ps=0→CE ps=0∧Ep ps=ps.flatMap Rh):=YJ (fun h h0=>by
  have:CE ps=0:=by unfold CE;rw[if_neg (by omega),h0]
  exact⟨this,by unfold Ep;rw[if_pos this]⟩)
 have Hh:=YJ (Gr ps)
 have Hn:=YJ (Ft ps)
 have HL:=fun i (h:i<ps.length)=>YJ (hl _ (qaB h))
 have HS:=fun i (h:i<ps.length)=>YJ (show(ps.take (i+1)).flatMap Rh=(ps.take i).flatMap Rh++Rh ps[i] by rw[qaI h,qgj];simp)
 obtain⟨a,n,c,rfl,hn,hnc,hi⟩:=hv
 have HX:=YJ hi
 have HN:=YJ hn
 have HT:=YJ htab
 have HE:Hid ((ps.take n).flatMap Rh=ps.flatMap Rh):=YJ (by rw[qaK (by omega)])
 obtain⟨re,HRE⟩:∃re,Hid (CE ps=re):=⟨_,YJ rfl⟩
 obtain⟨rb,HRB⟩:∃rb,Hid (Ep ps=rb):=⟨_,YJ rfl⟩
 rw[HRE.out,HRB.out]at H100 Hbad Hok
 rw[HRE.out,HRB.out]
 clear hi hn hl htab HRE HRB
 go_enter Tryz.func30,Tryz.ntmps30
 by_cases hl100:100<n
 ·have g0:(100:Int)<(n:Int):=by omega
  obtain⟨rfl,rfl⟩:=H100.out (by have:=HN.out;omega)
  go_wp2
  go_ret2
  exact⟨rfl,bel⟩
 ·have g0:¬(100:Int)<(n:Int):=by omega
  have hps:ps.length≤100:=by have:=HN.out;omega
  have Hbad':=YJ (Hbad.out hps)
  have Hok':=YJ (Hok.out hps)
  clear H100 Hbad Hok hps
  have hB0:vm W.heap.size W.heap.size (Lib.byteCells []) (W.alloc (.cells #[.pointer none, .slice none 0 0] 145)):= .inl ⟨qaA _,_,ai rfl,qds _ _ _ _,by simp[Value.ownBlock]⟩
  have HB0:=YJ hB0
  clear hB0
  go_wp2
  go_loopw [15] (fun x wr=>∃k:Nat,k≤n∧x= .int .i64 k∧Below W.heap.size W wr∧Hid (vm W.heap.size W.heap.size (Lib.byteCells ((ps.take k).flatMap Rh)) wr)∧Hid (∀j (h:j<ps.length),j<k→DF ps[j]=0)∧Hid (((ps.take k).flatMap Rh).length≤k*1000)) (fun x _=>n-(intOf x).toNat)
  case atStart=>exact⟨0,by omega,rfl,bel,HB0,YJ (fun j _ h=>by omega),YJ (by simp)⟩
  case round=>
   clear HB0
   obtain⟨k,hk,rfl,hb,HBu,Hd,HLn⟩:=hrel
   have hbl:=Lr HBu.out
   by_cases hlt:k<n
   ·have g1:(k:Int)<(n:Int):=by omega
    have g2:(0:Int)≤(k:Int):=by omega
    have hil:k<ps.length:=by have:=HN.out;omega
    obtain⟨b,off,rfl,hi4⟩:=HX.out (by omega)
    obtain⟨gv,ov,e0,e1,e2,e3,e4,hg,ho⟩:=hi4 k hil
    have e0:=ab hb e0
    have e1:=ab hb e1
    have e2:=ab hb e2
    have e3:=ab hb e3
    have e4:=ab hb e4
    have ze:=qaC wr _ e0
    simp only at ze
    have HG:=YJ (hg.below hb)
    have HO:=YJ (ho.below hb)
    have HEk:=YJ (Hh.out k hil Hd.out)
    have Hst:Hid (DF ps[k]=0→∀j (h:j<ps.length),j<k+1→DF ps[j]=0):=YJ (fun h j hj hji=>by
     by_cases e:j=k
     ·subst e;exact h
     ·exact Hd.out j hj (by omega))
    have HSk:=YJ ((HS k hil).out)
    have hLk:=(HL k hil).out
    clear hi4 HX HL Hd Hh HS HE
    generalize ps[k]=s at*
    obtain⟨g,o,x,y,z⟩:=s
    simp only at e2 e3 e4 HG HO hLk hg ho
    have HCT:=fun W' (hW':Below wr.heap.size wr W')=>YJ (DE g o gv ov x y z W' (HG.out.below hW') (HO.out.below hW') hLk.1 hLk.2)
    have Hte:Hid (DF (g,o,(x,y,z))=Ce g o (x,y,z)):=YJ rfl
    rw[Hte.out]at HEk Hst
    have Hin:=YJ (@Lp g o (x,y,z))
    obtain⟨L,HLL⟩:∃L,Hid ((ps.take k).flatMap Rh=L):=⟨_,YJ rfl⟩
    rw[HLL.out]at HBu HLn HSk
    clear HLL Hte
    obtain⟨ga,gn,gc,rfl, -⟩:=hg
    obtain⟨oa,on,oc,rfl, -⟩:=ho
    generalize Ce g o (x,y,z)=te at*
    go_wp2_with fail
    refine((HCT _ bel).out).mono ?_
    rintro e w1 ⟨rfl,hb1⟩
    have hbw1:Below wr.heap.size wr w1:=fB bel hb1
    have HS1:Hid (w1.heap[wr.heap.size]? =some (.cells #[.slice ga gn gc, .slice oa on oc, .int .i64 x, .int .i64 y, .int .i64 z] 60 (0,0))):=YJ ((hb1.block _ (by simp)).trans (ai rfl))
    have hw1:=fB hb hbw1
    clear HCT e0 e1 e2 e3 e4 ze hb1
    by_cases h0:te=0
    ·subst h0
     have HD2:=YJ (Hst.out rfl)
     obtain⟨hg99,ho99,hg12,ho12,hwy⟩:=Hin.out rfl
     have HCG:=fun W' (hW':Below wr.heap.size wr W')=>YJ (Dv g (.slice ga gn gc) W' (fun x h=>by have:=hg99 x h;omega) (by omega) (HG.out.below hW') (vk HT.out (fB hb hW')))
     have HCO:=fun W' (hW':Below wr.heap.size wr W')=>YJ (Dv o (.slice oa on oc) W' (fun x h=>by have:=ho99 x h;omega) (by omega) (HO.out.below hW') (vk HT.out (fB hb hW')))
     have lg:=CD g (fun x h=>by have:=hg99 x h;omega)
     have lo:=CD o (fun x h=>by have:=ho99 x h;omega)
     have HWL:=YJ (fun k=>Kk hwy k)
     have HLine:Hid (Rh (g,o,(x,y,z))=GL g++[32]++GL o++fb (x,y,z) 3++[10]):=YJ rfl
     generalize GL g=G at*
     generalize GL o=O at*
     have add1:=fun W'=>Cp G [32] (by omega) (by simp) W'
     have add2:=fun W'=>Cp (G++[32]) O (by simp;omega) (by omega) W'
     have HWG:=fun W' h h2=>YJ (qfd W.heap.size W.heap.size L (G++32::O) W' h (by have:=HLn.out;simp;omega) h2)
     have hGO:(G++32::O).length≤600:=by simp;omega
     obtain⟨s0,s1,s2,s3,s4,sf,sz⟩:=bM HS1.out
     obtain⟨wx,Hwx⟩:∃wx,Hid (w1=wx):=⟨_,YJ rfl⟩
     have hS2:([32]:List UInt8).toArray=#[32]:=rfl
     rw[hS2]at add1
     go_wp2
     apply aj [] [0,1,2,3,4,5,6,7] 8 [] [sv _,sv _,sv _,sv _,sv _,sv _,sv _,sv _] (by kernel_rfl) (by kernel_rfl)
     iterate 2 ((try go_frame);refine wkQ ?_)
     try go_frame
     refine wkV ?_
     apply ex3
     ·intro u K hK
      go_simp
      refine((HCG _ (fB hbw1 u.below)).out).mono ?_
      rintro e w9 ⟨rfl,hb9⟩
      exact hK _ hb9
     rfl
     iterate 3 ((try go_frame);refine wkQ ?_)
     try go_frame
     refine wkV ?_
     apply ex3
     ·intro u K hK
      go_simp
      refine((HCO _ (fB hbw1 u.below)).out).mono ?_
      rintro e w9 ⟨rfl,hb9⟩
      exact hK _ hb9
     rfl
     ((try go_frame);refine wkQ ?_)
     try go_frame
     refine aI (fun u hR=> ?_)
     have hbu:Below wr.heap.size wr u.val:=fB hbw1 u.below
     have hWu:Below W.heap.size W u.val:=fB hb hbu
     have HSu:=YJ ((u.below.block _ (ah HS1.out)).trans HS1.out)
     have HBu2:=YJ (xd HBu.out hbu)
     clear hR HCG HCO HS1 s0 s1 s2 s3 s4 sf sz add1 add2 HBu
     generalize u.val=w2 at*
     clear u
     simp only[oas]
     have HX2:=YJ ((HWG w2 HBu2.out hWu.size).out)
     go_wp2_with fail
     refine((HX2.out)).mono ?_
     rintro e w3 ⟨rfl,hB3,hb3,hk3⟩
     have hw3:Below W.heap.size W w3:=hWu.trans hb3
     have HS3:=YJ (hk3 _ _ _ (by omega) (by decide) HSu.out)
     have HB3:=YJ hB3
     clear HX2 HWG hB3 HSu HBu2
     obtain⟨s0,s1,s2,s3,s4,sf,sz⟩:=bM HS3.out
     have HBu:Hid (vm W.heap.size W.heap.size (Lib.byteCells (L++(G++32::O)++fb (x,y,z) 0)) w3):=YJ (by simpa [fb]using HB3.out)
     have hLL:(L++(G++32::O)).length≤k*1000+600:=by have:=HLn.out;rw[qaE];omega
     have hNx:Hid (Rh (g,o,(x,y,z))=(G++32::O)++fb (x,y,z) 3++[10]):=YJ (by rw[HLine.out];simp)
     generalize hLG:L++(G++32::O)=LG at*
     have HLG:=YJ hLG
     clear hLG HB3 HLine
     go_wp2
     refine NoPanic.normal ?_
     go_wp2
     have i0:=qD (.int .i64 x) (.int .i64 y) (.int .i64 z)
     have i1:=qE (.int .i64 x) (.int .i64 y) (.int .i64 z)
     have i2:=qF (.int .i64 x) (.int .i64 y) (.int .i64 z)
     go_loopw [43] (fun j wr=>∃m:Nat,m≤3∧j= .int .i64 m∧Below W.heap.size W wr∧Hid (vm W.heap.size W.heap.size (Lib.byteCells (LG++fb (x,y,z) m)) wr)) (fun j _=>3-(intOf j).toNat)
     case atStart=>exact⟨0,by omega,rfl,hw3,HBu⟩
     case round=>
      clear hw3 HBu s0 s1 s2 s3 s4 sf sz hw1 hbw1 hbu hWu hb hk3 hb3
      obtain⟨m,hm,rfl,hb,HBu⟩:=hrel
      rcases(by omega:m=0∨m=1∨m=2∨m=3)with rfl|rfl|rfl|rfl
      ·have HI:=YJ (vi x (by have:=hwy;unfold Cj at this;simp only at this;omega) wr (vk HT.out (Below.mono hb (qaA _))))
       have HAd:=YJ (fun W'=>Cp [32] (Lib.itoa x) (by simp) (by have:=ek (x:=x) (by have:=hwy;unfold Cj at this;simp only at this;omega);omega) W')
       have hil:=ek (x:=x) (by have:=hwy;unfold Cj at this;simp only at this;omega)
       have hwl:=(HWL.out 0)
       have HWk:Hid (fb (x,y,z) 1=fb (x,y,z) 0++([32]++Lib.itoa x)):=YJ (by simp[fb])
       have HWS:=fun W' h h2=>YJ (qfd W.heap.size W.heap.size (LG++fb (x,y,z) 0) ([32]++Lib.itoa x) W' h (by simp only[qaE,qdn,List.length_nil];omega) h2)
       obtain⟨T,HTx⟩:∃T,Hid (Lib.itoa x=T):=⟨_,YJ rfl⟩
       rw[HTx.out]at HI HWk
       have had:∀W':World,(Op.stringOp .add ⟨#[32]⟩ ⟨T.toArray⟩).run Tryz.prog W'= .ok (.string ⟨([32]++T).toArray⟩) W':=fun W'=>by rw[←HTx.out];exact HAd.out W'
       have HWS':=fun W' h h2=>YJ (show Calls Tryz.prog 77 #[.pointer (some ⟨W.heap.size,0,none⟩), .string ⟨([32]++T).toArray⟩] W' (fun e w'=>e= .returned (.tuple #[.int .i64 (⟨([32]++T).toArray⟩:ByteArray).size, .nilIface])∧(vm W.heap.size W.heap.size (Lib.byteCells (LG++fb (x,y,z) 0++([32]++T))) w'∧Below W.heap.size W' w'∧KeepU W.heap.size W' w')) by rw[←HTx.out];exact(HWS W' h h2).out)
       clear HAd HWS HTx
       generalize([32]++T:List UInt8)=TT at*
       go_wp2_with fail
       refine(HI.out).mono ?_
       rintro e w1 ⟨rfl,hb1⟩
       have hB1:vm W.heap.size W.heap.size (Lib.byteCells (LG++fb (x,y,z) 0)) w1:=xd HBu.out hb1
       have hw1:Below W.heap.size W w1:=fB hb hb1
       have HX1:=YJ (HWS' w1 hB1 hw1.size)
       clear HI HWS'
       go_wp2_with fail
       refine((HX1.out).out).mono ?_
       rintro e w2 ⟨rfl,hB2,hb2,hk2⟩
       have hw2:Below W.heap.size W w2:=hw1.trans hb2
       have HB2:Hid (vm W.heap.size W.heap.size (Lib.byteCells (LG++fb (x,y,z) 1)) w2):=YJ (by rw[HWk.out, ←List.append_assoc];exact hB2)
       clear HX1 hB2 had
       go_wp2
       go_roundw
       case rel=>exact⟨1,by omega,rfl,hw2,HB2⟩
       first|decide|(simp[intOf];done)
      ·have HI:=YJ (vi y (by have:=hwy;unfold Cj at this;simp only at this;omega) wr (vk HT.out (Below.mono hb (qaA _))))
       have HAd:=YJ (fun W'=>Cp [32] (Lib.itoa y) (by simp) (by have:=ek (x:=y) (by have:=hwy;unfold Cj at this;simp only at this;omega);omega) W')
       have hil:=ek (x:=y) (by have:=hwy;unfold Cj at this;simp only at this;omega)
       have hwl:=(HWL.out 1)
       have HWk:Hid (fb (x,y,z) 2=fb (x,y,z) 1++([32]++Lib.itoa y)):=YJ (by simp[fb])
       have HWS:=fun W' h h2=>YJ (qfd W.heap.size W.heap.size (LG++fb (x,y,z) 1) ([32]++Lib.itoa y) W' h (by simp only[qaE,qdn,List.length_nil];omega) h2)
       obtain⟨T,HTx⟩:∃T,Hid (Lib.itoa y=T):=⟨_,YJ rfl⟩
       rw[HTx.out]at HI HWk
       have had:∀W':World,(Op.stringOp .add ⟨#[32]⟩ ⟨T.toArray⟩).run Tryz.prog W'= .ok (.string ⟨([32]++T).toArray⟩) W':=fun W'=>by rw[←HTx.out];exact HAd.out W'
       have HWS':=fun W' h h2=>YJ (show Calls Tryz.prog 77 #[.pointer (some ⟨W.heap.size,0,none⟩), .string ⟨([32]++T).toArray⟩] W' (fun e w'=>e= .returned (.tuple #[.int .i64 (⟨([32]++T).toArray⟩:ByteArray).size, .nilIface])∧(vm W.heap.size W.heap.size (Lib.byteCells (LG++fb (x,y,z) 1++([32]++T))) w'∧Below W.heap.size W' w'∧KeepU W.heap.size W' w')) by rw[←HTx.out];exact(HWS W' h h2).out)
       clear HAd HWS HTx
       generalize([32]++T:List UInt8)=TT at*
       go_wp2_with fail
       refine(HI.out).mono ?_
       rintro e w1 ⟨rfl,hb1⟩
       have hB1:vm W.heap.size W.heap.size (Lib.byteCells (LG++fb (x,y,z) 1)) w1:=xd HBu.out hb1
       have hw1:Below W.heap.size W w1:=fB hb hb1
       have HX1:=YJ (HWS' w1 hB1 hw1.size)
       clear HI HWS'
       go_wp2_with fail
       refine((HX1.out).out).mono ?_
       rintro e w2 ⟨rfl,hB2,hb2,hk2⟩
       have hw2:Below W.heap.size W w2:=hw1.trans hb2
       have HB2:Hid (vm W.heap.size W.heap.size (Lib.byteCells (LG++fb (x,y,z) 2)) w2):=YJ (by rw[HWk.out, ←List.append_assoc];exact hB2)
       clear HX1 hB2 had
       go_wp2
       go_roundw
       case rel=>exact⟨2,by omega,rfl,hw2,HB2⟩
       first|decide|(simp[intOf];done)
      ·have HI:=YJ (vi z (by have:=hwy;unfold Cj at this;simp only at this;omega) wr (vk HT.out (Below.mono hb (qaA _))))
       have HAd:=YJ (fun W'=>Cp [32] (Lib.itoa z) (by simp) (by have:=ek (x:=z) (by have:=hwy;unfold Cj at this;simp only at this;omega);omega) W')
       have hil:=ek (x:=z) (by have:=hwy;unfold Cj at this;simp only at this;omega)
       have hwl:=(HWL.out 2)
       have HWk:Hid (fb (x,y,z) 3=fb (x,y,z) 2++([32]++Lib.itoa z)):=YJ (by simp[fb])
       have HWS:=fun W' h h2=>YJ (qfd W.heap.size W.heap.size (LG++fb (x,y,z) 2) ([32]++Lib.itoa z) W' h (by simp only[qaE,qdn,List.length_nil];omega) h2)
       obtain⟨T,HTx⟩:∃T,Hid (Lib.itoa z=T):=⟨_,YJ rfl⟩
       rw[HTx.out]at HI HWk
       have had:∀W':World,(Op.stringOp .add ⟨#[32]⟩ ⟨T.toArray⟩).run Tryz.prog W'= .ok (.string ⟨([32]++T).toArray⟩) W':=fun W'=>by rw[←HTx.out];exact HAd.out W'
       have HWS':=fun W' h h2=>YJ (show Calls Tryz.prog 77 #[.pointer (some ⟨W.heap.size,0,none⟩), .string ⟨([32]++T).toArray⟩] W' (fun e w'=>e= .returned (.tuple #[.int .i64 (⟨([32]++T).toArray⟩:ByteArray).size, .nilIface])∧(vm W.heap.size W.heap.size (Lib.byteCells (LG++fb (x,y,z) 2++([32]++T))) w'∧Below W.heap.size W' w'∧KeepU W.heap.size W' w')) by rw[←HTx.out];exact(HWS W' h h2).out)
       clear HAd HWS HTx
       generalize([32]++T:List UInt8)=TT at*
       go_wp2_with fail
       refine(HI.out).mono ?_
       rintro e w1 ⟨rfl,hb1⟩
       have hB1:vm W.heap.size W.heap.size (Lib.byteCells (LG++fb (x,y,z) 2)) w1:=xd HBu.out hb1
       have hw1:Below W.heap.size W w1:=fB hb hb1
       have HX1:=YJ (HWS' w1 hB1 hw1.size)
       clear HI HWS'
       go_wp2_with fail
       refine((HX1.out).out).mono ?_
       rintro e w2 ⟨rfl,hB2,hb2,hk2⟩
       have hw2:Below W.heap.size W w2:=hw1.trans hb2
       have HB2:Hid (vm W.heap.size W.heap.size (Lib.byteCells (LG++fb (x,y,z) 3)) w2):=YJ (by rw[HWk.out, ←List.append_assoc];exact hB2)
       clear HX1 hB2 had
       go_wp2
       go_roundw
       case rel=>exact⟨3,by omega,rfl,hw2,HB2⟩
       first|decide|(simp[intOf];done)
      ·have HWB:=YJ (Iz W.heap.size W.heap.size (Lib.byteCells (LG++fb (x,y,z) 3)) 10 wr HBu.out (by rw[Lib.byteCells_length,qaE];have:=HWL.out 3;omega) hb.size)
       have HL2:Hid ((ps.take (k+1)).flatMap Rh=LG++fb (x,y,z) 3++[10]):=YJ (by rw[HSk.out,hNx.out, ←HLG.out];simp)
       have hw3l:=HWL.out 3
       clear i0 i1 i2
       go_wp2_with fail
       refine(HWB.out).mono ?_
       rintro e w4 ⟨rfl,hB4,hb4, -⟩
       have hw4:Below W.heap.size W w4:=hb.trans hb4
       have HB4:Hid (vm W.heap.size W.heap.size (Lib.byteCells ((ps.take (k+1)).flatMap Rh)) w4):=YJ (by
        rw[HL2.out,ws]
        exact .inr hB4)
       have HLn2:Hid (((ps.take (k+1)).flatMap Rh).length≤(k+1)*1000):=YJ (by rw[HL2.out,qaE,qaE];simp only[qdn,List.length_nil];omega)
       clear HWB hB4 hb4 HL2
       go_wp2
       go_roundw
       case rel=>exact⟨k+1,by omega,by go_num,hw4,HB4,HD2,HLn2⟩
       simp[intOf];try omega
    ·have h0':(te !=0)=true:=by simpa using h0
     obtain⟨e1,e2⟩:=Hbad'.out (by rw[HEk.out h0];exact h0)
     rw[HEk.out h0]at e1
     subst e1
     subst e2
     clear Hst HEk Hin
     go_wp2
     go_ret2
     exact⟨rfl,hw1⟩
   ·obtain rfl:k=n:=by omega
    have HT0:=YJ (Hn.out (fun j h=>Hd.out j h (by have:=HN.out;omega)))
    obtain⟨e1,e2⟩:=Hok'.out HT0.out
    rw[←HE.out]at e2
    have HSt:=YJ (Tryz.Builder_String_any W.heap.size W.heap.size ((ps.take k).flatMap Rh) wr HBu.out hb.size)
    rw[←e2]at HSt
    clear HX HL HS HE Hd Hh Hn HBu HLn
    subst e1
    clear e2
    go_wp2_with fail
    refine(HSt.out).mono ?_
    rintro e w2 ⟨rfl,hb2⟩
    go_wp2
    go_ret2
    exact⟨rfl,hb.trans hb2⟩
def exA:List (List Q4):=[CV 0 0 0 2 2 2]
def exB:List (List Q4):=[CV 2 0 0 4 2 2]
def exL:List (List (List Q4)):=[exA,exB]
theorem Dw (cs:List Q4):ed cs=msF (fun x y=> !decide (iO y x<0)) cs.length cs:=lL _ _ _ (qaA _)
theorem Er:Tv exA=0:=by
 simp only[Tv,exA,lr,bK,aS,Dw]
 kernel_rfl
theorem Es:Tv exB=0:=by
 simp only[Tv,exB,lr,bK,aS,Dw]
 kernel_rfl
theorem Lt:blE exA exB (1,1,0)=0:=by unfold blE;rw[if_pos Er,if_pos Es];rfl
theorem Lu:blE exA exB (0,1,0)=0:=by unfold blE;rw[if_pos Er,if_pos Es];rfl
theorem Mk:KZ exA exB (1,1,0)=true:=by kernel_rfl
theorem Ml:KZ exA exB (0,1,0)=false:=by kernel_rfl
theorem Kl:cy exA exB=false:=by
 simp only[cy,exA,exB,clB,aS,Dw]
 kernel_rfl
theorem MI:eB exL=0:=by
 have h1:nb exA=0:=by unfold nb;rw[if_pos Er];rfl
 have h2:nb exB=0:=by unfold nb;rw[if_pos Es];rfl
 have h3:cx exL=0:=by simp[exL,cx,h1,h2]
 have h4:mx exL=false:=by
  show((List.range 2).any fun i=>(List.range i).any fun k=>cy (exL.getD k []) (exL.getD i []))=false
  simp only[List.range,List.range.loop,List.any_cons,List.any_nil,Bool.or_false,Bool.false_or]
  exact Kl
 unfold eB
 rw[if_neg (by decide),if_pos h3,h4]
 rfl
theorem Mm:gh [0,1] 2=0:=by kernel_rfl
theorem Mn:fsE exL [0,1]=0:=by unfold fsE;rw[if_pos MI];exact Mm
theorem Fu:fsA exL [0,1]=some ((-1, -1, -1),1):=by kernel_rfl
theorem Lv:nr [0,1]=3:=by kernel_rfl
theorem Mo:lf 3=[0,1]:=by kernel_rfl
theorem Mp:lf 1=[0]:=by kernel_rfl
theorem Lw:CE [([0,1],[0],(-1, -1, -1))]=0:=by kernel_rfl
theorem Lx:Ep [([0,1],[0],(-1, -1, -1))]=[48,44,49,32,48,32,45,49,32,45,49,32,45,49,10]:=by kernel_rfl
theorem Fv {W:World} {T:TypeId} (xs:List Int) {g:Nat} (hg:g=W.heap.size):Ints (W.alloc (.cells (xs.map (Value.int .i64)).toArray T)) (.slice (some ⟨g,0,none⟩) xs.length xs.length) xs:=
 ⟨_,_,_,rfl,rfl,qaA _,fun _=>⟨g,0,rfl,fun i hi=>by
  refine(aq hg _).trans ?_
  simp[hi]⟩⟩
theorem Km {w:World} {g:Nat} {v:Value} {ps:List Q4} (h0:w.cell? ⟨g,0,none⟩=some v) (h:Q4s w v ps):SolV w (.slice (some ⟨g,0,none⟩) 1 1) [ps]:=
 ⟨_,_,_,rfl,rfl,qaA _,fun _=>⟨g,0,rfl,fun i hi=>by
  have:i=0:=by simpa using hi
  subst this
  exact⟨v,h0,h⟩⟩⟩
theorem Fw {w:World} {v:Value} {xs:List Q4} {g:Nat} {a:Value} {T:TypeId} (h:Q4s w v xs) (hg:w.heap[g]? =some (.cells #[a] T (0,0))) (ha:∀i,a≠ .int .i64 i) (o:Nat) (u:Value):Q4s (w.setCell ⟨g,o,none⟩ u) v xs:=by
 obtain⟨ad,n,c,e,hn,hc,hx⟩:=h
 refine⟨ad,n,c,e,hn,hc,fun h0=> ?_⟩
 obtain⟨k,off,e2,hi⟩:=hx h0
 have hbg:k≠g:=by
  rintro rfl
  have h1:=(hi 0 (by omega)).1
  rw[bq hg]at h1
  match off,h1 with
  |0,h1=>simp at h1;exact ha _ h1
  |n+1,h1=>simp at h1
 refine⟨k,off,e2,fun i hil=> ?_⟩
 obtain⟨c0,c1,c2,c3⟩:=hi i hil
 exact⟨(eW hbg).trans c0,(eW hbg).trans c1,(eW hbg).trans c2,(eW hbg).trans c3⟩
theorem IB {w:World} {v:Value} {css:List (List Q4)} {g:Nat} {T:TypeId} (h:SolV w v css) (hg:w.heap[g]? =some (.cells #[.slice none 0 0] T (0,0))) (hn:∀x∈css,0<x.length) (o:Nat) (u:Value):SolV (w.setCell ⟨g,o,none⟩ u) v css:=by
 obtain⟨ad,n,c,e,hl,hc,hx⟩:=h
 refine⟨ad,n,c,e,hl,hc,fun h0=> ?_⟩
 obtain⟨k,off,e2,hi⟩:=hx h0
 refine⟨k,off,e2,fun i hil=> ?_⟩
 obtain⟨x,hx,hq⟩:=hi i hil
 have hbg:k≠g:=by
  rintro rfl
  rw[bq hg]at hx
  match off+i,hx with
  |0,hx=>
   simp at hx
   subst hx
   obtain⟨ad',n',c',e',hn',_⟩:=hq
   cases e'
   have:=hn _ (qaB hil)
   omega
  |n+1,hx=>simp at hx
 exact⟨x,(eW hbg).trans hx,Fw hq hg (fun _ h=>by cases h) _ _⟩
theorem IC (x1 y1 z1 x2 y2 z2:Int) (W:World) (h1: -300000≤x1∧x1≤300000) (h2: -300000≤y1∧y1≤300000) (h3: -300000≤z1∧z1≤300000) (h4: -300000≤x2∧x2≤300000) (h5: -300000≤y2∧y2≤300000) (h6: -300000≤z2∧z2≤300000) (hx:x1<x2) (hy:y1<y2) (hz:z1<z2):
  Calls Tryz.prog 132 #[.agg #[.int .i64 x1, .int .i64 y1, .int .i64 z1, .int .i64 x2, .int .i64 y2, .int .i64 z2]] W (fun e w'=>∃sv,e= .returned (.tuple #[.agg #[sv], .int .i64 0])∧Below W.heap.size W w'∧SolV w' sv [CV x1 y1 z1 x2 y2 z2]):=by
 have HO:=fun W'=>YJ (Gq x1 y1 z1 x2 y2 z2 W' h1 h2 h3 h4 h5 h6)
 have HR:=fun W' v (h:Ints W' v [x1,y1,z1,x2,y2,z2])=>YJ (Lo [x1,y1,z1,x2,y2,z2] v W' (by simp;omega) (by simp) h)
 have HI:Hid (Ints (((W.alloc (.cells #[.int .i64 x1, .int .i64 y1, .int .i64 z1, .int .i64 x2, .int .i64 y2, .int .i64 z2] 159)).alloc (.cells #[.slice none 0 0] 75)).alloc (.cells #[.int .i64 x1, .int .i64 y1, .int .i64 z1, .int .i64 x2, .int .i64 y2, .int .i64 z2] 3)) (.slice (some ⟨W.heap.size+1+1,0,none⟩) 6 6) [x1,y1,z1,x2,y2,z2]):=YJ (Fv (T:=3) [x1,y1,z1,x2,y2,z2] (by simp))
 obtain⟨V,HV⟩:∃V,Hid (((W.alloc (.cells #[.int .i64 x1, .int .i64 y1, .int .i64 z1, .int .i64 x2, .int .i64 y2, .int .i64 z2] 159)).alloc (.cells #[.slice none 0 0] 75)).alloc (.cells #[.int .i64 x1, .int .i64 y1, .int .i64 z1, .int .i64 x2, .int .i64 y2, .int .i64 z2] 3)=V):=⟨_,YJ rfl⟩
 have hV:Below W.heap.size W V:=by rw[←HV.out];exact bel
 have HC:Hid (V.heap[W.heap.size]? =some (.cells #[.int .i64 x1, .int .i64 y1, .int .i64 z1, .int .i64 x2, .int .i64 y2, .int .i64 z2] 159 (0,0))):=YJ (by rw[←HV.out];exact(aB (by simp;omega)).trans ((aB (by simp)).trans (ai rfl)))
 have HD:Hid (V.heap[W.heap.size+1]? =some (.cells #[.slice none 0 0] 75 (0,0))):=YJ (by rw[←HV.out];exact(aB (by simp)).trans (ai (by simp)))
 rw[HV.out]at HI
 have q1:decide (x2≤x1)=false:=qfZ (by omega)
 have q2:decide (y2≤y1)=false:=qfZ (by omega)
 have q3:decide (z2≤z1)=false:=qfZ (by omega)
 have q1':¬x2≤x1:=by omega
 have q2':¬y2≤y1:=by omega
 have q3':¬z2≤z1:=by omega
 generalize CV x1 y1 z1 x2 y2 z2=B at*
 clear h1 h2 h3 h4 h5 h6 hx hy hz
 go_enter Tryz.func132,Tryz.ntmps132
 go_wp2_with fail
 rw[HV.out]
 refine((HR _ _ HI.out).out).mono ?_
 rintro e w1 ⟨rfl,hb1⟩
 have hC:=(hb1.block _ (ah HC.out)).trans HC.out
 have hD:=(hb1.block _ (ah HD.out)).trans HD.out
 have hb1':=fB hV hb1
 clear HR HI HV HC HD hb1 hV
 have c0:=(bq hC 0).trans rfl
 have c1:=(bq hC 1).trans rfl
 have c2:=(bq hC 2).trans rfl
 have c3:=(bq hC 3).trans rfl
 have c4:=(bq hC 4).trans rfl
 have c5:=(bq hC 5).trans rfl
 have cz:=ah hC
 go_wp2_with fail
 refine((HO _).out).mono ?_
 rintro e w2 ⟨pv,rfl,hb2,hq⟩
 have HQ:=YJ hq
 obtain⟨pa,pn,pc,rfl, -⟩:=hq
 have hW2:=fB hb1' (fB bel hb2)
 have hD2:=(hb2.block _ (ah hD)).trans hD
 clear c0 c1 c2 c3 c4 c5 cz hC hD HO
 have d0:=(bq hD2 0).trans rfl
 have df:=aC hD2
 have dz:=ah hD2
 have hS:=Tu hD2 0 (.slice (some ⟨w2.heap.size,0,none⟩) 1 1)
 obtain⟨Y,HY⟩:∃Y,Hid ((w2.setCell ⟨W.heap.size+1,0,none⟩ (.slice (some ⟨w2.heap.size,0,none⟩) 1 1)).alloc (.cells #[.slice pa pn pc] 164)=Y):=⟨_,YJ rfl⟩
 have hbY:Below W.heap.size W Y:=by rw[←HY.out];exact(hW2.setCell (p:=⟨W.heap.size+1,0,none⟩) (by show _≤W.heap.size+1;omega) _).alloc (by have:=hW2.size;simp;omega) _
 have hN:Y.cell? ⟨w2.heap.size,0,none⟩=some (.slice pa pn pc):=by rw[←HY.out];exact(aq (by simp) 0).trans rfl
 have hQY:Q4s Y (.slice pa pn pc) B:=by rw[←HY.out];exact(Fw HQ.out hD2 (fun _ h=>by cases h) _ _).below bel
 have hr:Y.cell? ⟨W.heap.size+1,0,none⟩=some (.slice (some ⟨w2.heap.size,0,none⟩) 1 1):=by rw[←HY.out];exact(bq ((aB (by simp;omega)).trans hS) 0).trans rfl
 go_wp2
 rw[HY.out]
 refine bodyPost_ret (v:= .tuple #[.agg #[.slice (some ⟨w2.heap.size,0,none⟩) 1 1], .int .i64 0]) (by simp[results,Tryz.results132,go_sem,hr]) rfl ⟨_,rfl,hbY,Km hN hQY⟩
theorem Ly (x1 y1 z1 x2 y2 z2:Int):∀x∈[CV x1 y1 z1 x2 y2 z2],0<x.length:=by
 intro x hx
 rw[ultg]at hx
 subst hx
 show 0<6
 omega
theorem Fx (x1 y1 z1 x2 y2 z2:Int) (W:World) (h1: -300000≤x1∧x1≤300000) (h2: -300000≤y1∧y1≤300000) (h3: -300000≤z1∧z1≤300000) (h4: -300000≤x2∧x2≤300000) (h5: -300000≤y2∧y2≤300000) (h6: -300000≤z2∧z2≤300000) (hx:x1<x2) (hy:y1<y2) (hz:z1<z2):
  Calls Tryz.prog 88 #[.agg #[.int .i64 x1, .int .i64 y1, .int .i64 z1, .int .i64 x2, .int .i64 y2, .int .i64 z2]] W (fun e w'=>∃sv,e= .returned (.agg #[sv])∧Below W.heap.size W w'∧SolV w' sv [CV x1 y1 z1 x2 y2 z2]):=by
 have HO:=fun W'=>YJ (IC x1 y1 z1 x2 y2 z2 W' h1 h2 h3 h4 h5 h6 hx hy hz)
 have hl:=Ly x1 y1 z1 x2 y2 z2
 generalize [CV x1 y1 z1 x2 y2 z2]=B at*
 clear h1 h2 h3 h4 h5 h6 hx hy hz
 obtain⟨V,HV⟩:∃V,Hid ((W.alloc (.cells #[.int .i64 x1, .int .i64 y1, .int .i64 z1, .int .i64 x2, .int .i64 y2, .int .i64 z2] 159)).alloc (.cells #[.slice none 0 0] 75)=V):=⟨_,YJ rfl⟩
 have hV:Below W.heap.size W V:=by rw[←HV.out];exact bel
 have HD:Hid (V.heap[W.heap.size+1]? =some (.cells #[.slice none 0 0] 75 (0,0))):=YJ (by rw[←HV.out];exact ai (by simp))
 go_enter Tryz.func88,Tryz.ntmps88
 go_wp2_with fail
 rw[HV.out]
 refine((HO _).out).mono ?_
 rintro e w1 ⟨sv,rfl,hb1,hs⟩
 have hD:=(hb1.block _ (ah HD.out)).trans HD.out
 have hb1':=fB hV hb1
 clear HO HV hV
 have d0:=(bq hD 0).trans rfl
 have df:=aC hD
 have dz:=ah hD
 obtain⟨sa,sn,sc,rfl,hx⟩:=id hs
 clear hx
 have HS:=YJ hs
 obtain⟨Y,HY⟩:∃Y,Hid ((w1.setCell ⟨W.heap.size+1,0,none⟩ (.slice sa sn sc)).alloc (.cells #[.slice sa sn sc] 75)=Y):=⟨_,YJ rfl⟩
 have hbY:Below W.heap.size W Y:=by rw[←HY.out];exact(hb1'.setCell (p:=⟨W.heap.size+1,0,none⟩) (by show _≤W.heap.size+1;omega) _).alloc (by have:=hb1'.size;simp;omega) _
 have hSY:SolV Y (.slice sa sn sc) B:=by rw[←HY.out];exact(IB HS.out hD hl 0 _).below bel
 have hr:Y.cell? ⟨W.heap.size+1,0,none⟩=some (.slice sa sn sc):=by rw[←HY.out];exact(bq ((aB (by simp;omega)).trans (Tu hD 0 _)) 0).trans rfl
 clear hs hD hl
 go_wp2
 rw[HY.out]
 refine bodyPost_ret (v:= .agg #[.slice sa sn sc]) (by simp[results,Tryz.results88,go_sem,hr]) rfl ⟨_,rfl,hbY,hSY⟩
def MJ (W:World) (e:Ending) (w':World):Prop:=∃g sa sb,e= .returned (.slice (some ⟨g,0,none⟩) 2 2)∧Below W.heap.size W w'∧w'.cell? ⟨g,0,none⟩=some sa∧w'.cell? ⟨g,1,none⟩=some sb∧SolV w' sa exA∧SolV w' sb exB
theorem qfo (W:World):Calls Tryz.prog 34 #[] W (MJ W):=by
 have H1:=fun W'=>YJ (Fx 0 0 0 2 2 2 W' (by decide) (by decide) (by decide) (by decide) (by decide) (by decide) (by decide) (by decide) (by decide))
 have H2:=fun W'=>YJ (Fx 2 0 0 4 2 2 W' (by decide) (by decide) (by decide) (by decide) (by decide) (by decide) (by decide) (by decide) (by decide))
 have e1: [CV 0 0 0 2 2 2]=exA:=rfl
 have e2: [CV 2 0 0 4 2 2]=exB:=rfl
 rw[e1]at H1
 rw[e2]at H2
 clear e1 e2
 go_enter Tryz.func34,Tryz.ntmps34
 go_wp2_with fail
 refine((H1 _).out).mono ?_
 rintro e w1 ⟨sa,rfl,hb1,hA⟩
 have HA:=YJ hA
 clear hA
 go_wp2_with fail
 refine((H2 _).out).mono ?_
 rintro e w2 ⟨sb,rfl,hb2,hB⟩
 have HB:=YJ hB
 clear hB H1 H2
 go_wp2
 go_ret
 exact⟨_,sa,sb,rfl,fB (fB hb1 hb2) bel,(aq rfl 0).trans rfl,(aq rfl 1).trans rfl,SolV.below HA.out (fB hb2 bel),SolV.below HB.out bel⟩
def Bdd (ps:List Q4):Prop:=∀d:Q3,d≠(0,0,0)→∃p∈ps,0<bj (nrm p) d
def InP (ps:List Q4) (x:Q3) (W:Int):Prop:=∀p∈ps,0≤slk p x W
def Str (ps:List Q4) (x:Q3) (W:Int):Prop:=∀p∈ps,0<slk p x W
def Vert (ps C:List Q4):Prop:=∀p∈ps,∀q∈ps,∀r∈ps,bN p q r≠0→∀x W,0<W→InP ps x W→slk p x W=0→slk q x W=0→slk r x W=0→∃c∈C,SameAt c x W
theorem Str.inP {ps:List Q4} {x:Q3} {W:Int} (h:Str ps x W):InP ps x W:=fun p hp=>Int.le_of_lt (h p hp)
theorem Bdd.mono {ps qs:List Q4} (h:Bdd ps) (hs:∀p∈ps,p∈qs):Bdd qs:=fun d hd=>by obtain⟨p,hp,h0⟩:=h d hd;exact⟨p,hs p hp,h0⟩
theorem Fy {c:Q4} {x:Q3} {W:Int} (h:SameAt c x W) (f:Q3):bj f (xyz c)*W=bj f x*c.2.2.2:=by
 obtain⟨_,h1,h2,h3⟩:=h
 unfold bj xyz
 grind
theorem GQ {c:Q4} {x:Q3} {W:Int} (h:SameAt c x W) (hW:0<W) (p:Q4) (hp:0≤slk p x W):0≤slk p (xyz c) c.2.2.2:=
 mT hW (by rw[h.slk p];exact qgc hp (Int.le_of_lt h.1))
theorem th (p c:Q4):cw p c= -(slk p (xyz c) c.2.2.2):=by
 unfold cw slk bj nrm xyz
 simp only
 omega
theorem Cq {L C:List Q4} (hB:Bdd L) (hV:Vert L C) (f x:Q3) (W:Int) (hW:0<W) (hin:InP L x W):
  ∃c∈C,0<c.2.2.2∧InP L (xyz c) c.2.2.2∧bj f (xyz c)*W≤bj f x*c.2.2.2:=by
 obtain⟨p1,h1,p2,h2,p3,h3,x',W',hW',hin',z1,z2,z3,h0,hf⟩:=yW L hB f x W hW hin
 obtain⟨c,hc,hs⟩:=hV p1 h1 p2 h2 p3 h3 h0 x' W' hW' hin' z1 z2 z3
 exact⟨c,hc,hs.1,fun q hq=>GQ hs hW' q (hin' q hq),vr hW' hW hs.1 hf (Int.le_of_eq (Fy hs f))⟩
def opQ (p:Q4):Q4:=(-p.1, -p.2.1, -p.2.2.1, -p.2.2.2)
theorem Gs (p:Q4) (x:Q3) (W:Int):slk (opQ p) x W= -(slk p x W):=by unfold slk opQ bj nrm;grind
theorem Et {L:List Q4} {p:Q4} (hp:p∈L) {q:Q4} (hq:q∈opQ p::L) {x:Q3} {W:Int} (h0:slk q x W=0):
  ∃r∈L,slk r x W=0∧∃s:Int,nrm q=(s*r.1,s*r.2.1,s*r.2.2.1):=by
 rcases alsk.1 hq with rfl|hq
 ·refine⟨p,hp,by rw[Gs]at h0;omega, -1, ?_⟩
  unfold nrm opQ
  simp
 ·exact⟨q,hq,h0,1,by unfold nrm;simp⟩
theorem DR {L C:List Q4} {p:Q4} (hp:p∈L) (hB:Bdd L) (hV:Vert L C) (f x:Q3) (W:Int) (hW:0<W) (hin:InP L x W) (h0:slk p x W=0):
  ∃c∈C,0<c.2.2.2∧slk p (xyz c) c.2.2.2=0∧bj f (xyz c)*W≤bj f x*c.2.2.2:=by
 obtain⟨p1,h1,p2,h2,p3,h3,x',W',hW',hin',z1,z2,z3,hd,hf⟩:=yW (opQ p::L) (hB.mono (fun q hq=>List.mem_cons_of_mem _ hq)) f x W hW (fun q hq=>by
  rcases alsk.1 hq with rfl|hq
  ·rw[Gs];omega
  ·exact hin q hq)
 obtain⟨q1,k1,y1,s1,e1⟩:=Et hp h1 z1
 obtain⟨q2,k2,y2,s2,e2⟩:=Et hp h2 z2
 obtain⟨q3,k3,y3,s3,e3⟩:=Et hp h3 z3
 have hd':bN q1 q2 q3≠0:=fun e=>hd (by
  have:bN p1 p2 p3=s1*s2*s3*bN q1 q2 q3:=by
   unfold bN
   rw[e1,e2,e3]
   unfold aN bj nrm
   grind
  rw[this,e,Int.mul_zero])
 obtain⟨c,hc,hs⟩:=hV q1 k1 q2 k2 q3 k3 hd' x' W' hW' (fun q hq=>hin' q (List.mem_cons_of_mem _ hq)) y1 y2 y3
 have ha:=hin' (opQ p) (by simp)
 have hb:=hin' p (List.mem_cons_of_mem _ hp)
 rw[Gs]at ha
 have hz:slk p x' W'=0:=by omega
 refine⟨c,hc,hs.1, ?_,vr hW' hW hs.1 hf (Int.le_of_eq (Fy hs f))⟩
 have h5:=hs.slk p
 rw[hz,Int.zero_mul]at h5
 exact(Int.mul_eq_zero.1 h5).resolve_right (by omega)
theorem Mq (a b c:Int) (h:¬(a=0∧b=0∧c=0)):0<a*a+b*b+c*c:=by
 have ha:0≤a*a:=by rcases Int.le_total 0 a with h|h;exact qgc h h;exact Int.mul_nonneg_of_nonpos_of_nonpos h h
 have hb:0≤b*b:=by rcases Int.le_total 0 b with h|h;exact qgc h h;exact Int.mul_nonneg_of_nonpos_of_nonpos h h
 have hc:0≤c*c:=by rcases Int.le_total 0 c with h|h;exact qgc h h;exact Int.mul_nonneg_of_nonpos_of_nonpos h h
 rcases Decidable.em (a=0)with rfl|h1
 ·rcases Decidable.em (b=0)with rfl|h2
  ·have h3:c≠0:=fun e=>h ⟨rfl,rfl,e⟩
   have:c*c≠0:=fun e=>h3 (by rcases Int.mul_eq_zero.1 e with e|e<;>exact e)
   omega
  ·have:b*b≠0:=fun e=>h2 (by rcases Int.mul_eq_zero.1 e with e|e<;>exact e)
   omega
 ·have:a*a≠0:=fun e=>h1 (by rcases Int.mul_eq_zero.1 e with e|e<;>exact e)
  omega
theorem ne3 {d:Q3} (h:d≠(0,0,0)):¬(d.1=0∧d.2.1=0∧d.2.2=0):=fun⟨h1,h2,h3⟩=>h (by obtain⟨a,b,c⟩:=d;simp only at h1 h2 h3;rw[h1,h2,h3])
theorem ku {d:Q3} (h:d≠(0,0,0)):0<bj d d:=Mq _ _ _ (ne3 h)
theorem Mr (n v:Q3) (hn:n≠(0,0,0)) (hv:bj n v=0):∃d:Q3,d≠(0,0,0)∧bj n d=0∧bj d v=0:=by
 by_cases h0:v=(0,0,0)
 ·subst h0
  by_cases h1:n.1=0∧n.2.1=0
  ·exact⟨(1,0,0),by simp,by unfold bj;simp[h1.1],by unfold bj;simp⟩
  ·refine⟨(n.2.1, -n.1,0), ?_,by unfold bj;grind,by unfold bj;simp⟩
   intro e
   simp only[Prod.mk.injEq]at e
   omega
 ·refine⟨aN n v, ?_,by unfold bj aN;grind,by unfold bj aN;grind⟩
  intro e
  have h1:=ku hn
  have h2:=ku h0
  have h3:bj (aN n v) (aN n v)=bj n n*bj v v-bj n v*bj n v:=by unfold bj aN;grind
  rw[e,hv]at h3
  have h4:=qfY h1 h2
  have:bj ((0,0,0):Q3) (0,0,0)=0:=rfl
  omega
theorem CF (d:Q3) (x:Q3) (W:Int):∀l:List Q4,Str l x W→∃K:Int,0<K∧∀k,K≤k→Str l (mv x d k 1) (k*W)
 | [],_=>⟨1,by omega,fun _ _ q h=>by cases h⟩
 |p::l,h=>by
  obtain⟨K,hK,hk⟩:=CF d x W l (fun q hq=>h q (List.mem_cons_of_mem _ hq))
  have hp:=h p (by simp)
  refine⟨K+(bj (nrm p) d).natAbs,by omega,fun k hk' q hq=> ?_⟩
  rcases alsk.1 hq with rfl|hq
  ·rw[rh,Int.one_mul]
   have h1:k*1≤k*slk q x W:=Int.mul_le_mul_of_nonneg_left hp (by omega)
   omega
  ·exact hk k (by omega) q hq
theorem Da (p:Q4) (x y:Q3) (V W a b:Int):slk p (a*x.1+b*y.1,a*x.2.1+b*y.2.1,a*x.2.2+b*y.2.2) (a*V+b*W)=a*slk p x V+b*slk p y W:=by unfold slk bj;grind
theorem Ms {C:List Q4} {p:Q4} (h3:onA C p<3):∃v:Q3,bj (nrm p) v=0∧∀d:Q3,bj d v=0→∀c∈C,∀c'∈C,slk p (xyz c) c.2.2.2=0→slk p (xyz c') c'.2.2.2=0→bj d (xyz c)*c'.2.2.2=bj d (xyz c')*c.2.2.2:=by
 have hm:∀c∈C,slk p (xyz c) c.2.2.2=0→c∈C.filter (fun x=>cw p x==0):=fun c hc h=>by
  rw[alsm]
  exact⟨hc,by rw[th,h];rfl⟩
 have hs:∀c∈C.filter (fun x=>cw p x==0),slk p (xyz c) c.2.2.2=0:=fun c hc=>by
  have:=(alsm.1 hc).2
  rw[th]at this
  have h2: -(slk p (xyz c) c.2.2.2)=0:=by simpa using this
  omega
 unfold onA at h3
 generalize C.filter (fun x=>cw p x==0)=F at*
 match F,h3 with
 | [],_=>exact⟨(0,0,0),by unfold bj;simp,fun d _ c hc c' _ h _=>by have:=hm c hc h;cases this⟩
 | [a],_=>exact⟨(0,0,0),by unfold bj;simp,fun d _ c hc c' hc' h h'=>by
   have e1:=ultg.1 (hm c hc h)
   have e2:=ultg.1 (hm c' hc' h')
   rw[e1,e2]⟩
 | [a,b],_=>
  refine⟨(a.2.2.2*b.1-b.2.2.2*a.1,a.2.2.2*b.2.1-b.2.2.2*a.2.1,a.2.2.2*b.2.2.1-b.2.2.2*a.2.2.1), ?_,fun d hd c hc c' hc' h h'=> ?_⟩
  ·have h1:=hs a (by simp)
   have h2:=hs b (by simp)
   unfold slk bj xyz nrm at*
   grind
  ·have hab:bj d (xyz b)*a.2.2.2=bj d (xyz a)*b.2.2.2:=by
    unfold bj xyz at*
    grind
   have e1:=hm c hc h
   have e2:=hm c' hc' h'
   simp only[alsk,List.not_mem_nil,or_false]at e1 e2
   rcases e1 with rfl|rfl<;>rcases e2 with rfl|rfl
   ·rfl
   ·exact hab.symm
   ·exact hab
   ·rfl
 |_::_::_::_,h=>exact absurd h (by simp only[qdn];omega)
theorem ID {L M C:List Q4} {p:Q4} (hp:p∈L) (hM:∀q∈L,q=p∨q∈M) (hML:∀q∈M,q∈L) (hB:Bdd L) (hV:Vert L C) (o:Q3) (W0:Int) (hW0:0<W0) (ho:Str L o W0)
  (h3:onA C p<3) (y:Q3) (Wy:Int) (hWy:0<Wy) (hy:InP M y Wy):0≤slk p y Wy:=by
 refine qgk fun hng=> ?_
 have ha:=ho p hp
 generalize hA:slk p o W0=a at*
 obtain⟨b,hb⟩:∃b,b= -(slk p y Wy):=⟨_,rfl⟩
 have hb0:0<b:=by omega
 have hn:nrm p≠(0,0,0):=by
  intro e
  unfold slk at hA hb
  rw[e]at hA hb
  have e0:∀z:Q3,bj (0,0,0) z=0:=fun z=>by unfold bj;simp
  rw[e0]at hA hb
  have h1:0<p.2.2.2:=mu hW0 (by omega)
  have:=qfY h1 hWy
  omega
 obtain⟨v,hv0,hv⟩:=Ms h3
 obtain⟨d,hd0,hd1,hd2⟩:=Mr (nrm p) v hn hv0
 have hdd:=ku hd0
 obtain⟨z,hz⟩:∃z:Q3,z=(b*o.1+a*y.1,b*o.2.1+a*y.2.1,b*o.2.2+a*y.2.2):=⟨_,rfl⟩
 obtain⟨V,hV0⟩:∃V,V=b*W0+a*Wy:=⟨_,rfl⟩
 have hVp:0<V:=by have:=qfY hb0 hW0;have:=qfY ha hWy;omega
 have sz:∀q,slk q z V=b*slk q o W0+a*slk q y Wy:=fun q=>by rw[hz,hV0,Da]
 have szp:slk p z V=0:=by
  rw[sz,hA,show slk p y Wy= -b by omega,Int.mul_neg,Int.mul_comm];omega
 have szM:Str M z V:=fun q hq=>by
  rw[sz]
  have h1:=qfY hb0 (ho q (hML q hq))
  have h2:=qgc (Int.le_of_lt ha) (hy q hq)
  omega
 obtain⟨K1,hK1,k1⟩:=CF d z V M szM
 obtain⟨K2,hK2,k2⟩:=CF (-d.1, -d.2.1, -d.2.2) z V M szM
 obtain⟨k,hk⟩:∃k,k=K1+K2:=⟨_,rfl⟩
 have hkp:0<k:=by omega
 have hkV:0<k*V:=qfY hkp hVp
 have hnf:∀f:Q3,bj f (-d.1, -d.2.1, -d.2.2)= -(bj f d):=fun f=>by unfold bj;grind
 have hnd:∀f:Q3,bj (-d.1, -d.2.1, -d.2.2) f= -(bj d f):=fun f=>by unfold bj;grind
 have i1:InP L (mv z d k 1) (k*V):=fun q hq=>by
  rcases hM q hq with rfl|hq
  ·rw[rh,szp,hd1];omega
  ·exact Int.le_of_lt (k1 k (by omega) q hq)
 have i2:InP L (mv z (-d.1, -d.2.1, -d.2.2) k 1) (k*V):=fun q hq=>by
  rcases hM q hq with rfl|hq
  ·rw[rh,szp,hnf,hd1];omega
  ·exact Int.le_of_lt (k2 k (by omega) q hq)
 have z1:slk p (mv z d k 1) (k*V)=0:=by rw[rh,szp,hd1];omega
 have z2:slk p (mv z (-d.1, -d.2.1, -d.2.2) k 1) (k*V)=0:=by rw[rh,szp,hnf,hd1];omega
 obtain⟨c,hc,hcW,hcp,hcf⟩:=DR hp hB hV d _ _ hkV i2 z2
 obtain⟨c',hc',hcW',hcp',hcf'⟩:=DR hp hB hV (-d.1, -d.2.1, -d.2.2) _ _ hkV i1 z1
 have he:=hv d hd2 c hc c' hc' hcp hcp'
 rw[vq,hnf]at hcf
 rw[vq,hnd,hnd,hnd]at hcf'
 generalize bj d (xyz c)=u at*
 generalize bj d (xyz c')=u' at*
 generalize bj d z=m at*
 generalize bj d d=D at*
 generalize c.2.2.2=w at*
 generalize c'.2.2.2=w' at*
 generalize k*V=T at*
 have f1:u*T*w'≤(k*m+1* -D)*w*w':=qgl hcf (by omega)
 have f2: -u'*T*w≤(k* -m+1* -D)*w'*w:=qgl hcf' (by omega)
 have f3:0<D*(w*w'):=qfY hdd (qfY hcW hcW')
 have f4:u*T*w'=u'*T*w:=by
  have:u*T*w'=u*w'*T:=by grind
  rw[this,he];grind
 have f5:(k*m+1* -D)*w*w'=k*m*(w*w')-D*(w*w'):=by grind
 have f6:(k* -m+1* -D)*w'*w= -(k*m*(w*w'))-D*(w*w'):=by grind
 have f7: -u'*T*w= -(u'*T*w):=by grind
 omega
theorem Dx {L M:List Q4} (hB:Bdd L) (hsub:∀y W,0<W→InP M y W→InP L y W) (o:Q3) (W0:Int) (hW0:0<W0) (ho:InP M o W0):Bdd M:=by
 intro d hd
 refine qgk fun hno=> ?_
 obtain⟨p,hp,hpd⟩:=hB d hd
 have hL:=hsub o W0 hW0 ho p hp
 have h1:InP M (mv o d 1 (slk p o W0+1)) (1*W0):=fun q hq=>by
  rw[rh]
  have h2:bj (nrm q) d≤0:=Int.not_lt.1 fun h=>hno ⟨q,hq,h⟩
  have h3:=qgc (show 0≤slk p o W0+1 by omega) (show 0≤ -(bj (nrm q) d) by omega)
  have h4:=ho q hq
  rw[Int.mul_neg]at h3
  omega
 have h2:=hsub _ _ (by omega) h1 p hp
 rw[rh]at h2
 have h3:(slk p o W0+1)*1≤(slk p o W0+1)*bj (nrm p) d:=Int.mul_le_mul_of_nonneg_left hpd (by omega)
 omega
theorem Vert.sub {L M C:List Q4} (h:Vert L C) (hML:∀q∈M,q∈L) (hsub:∀y W,0<W→InP M y W→InP L y W):Vert M C:=fun p hp q hq r hr hd x W hW hin=>h p (hML p hp) q (hML q hq) r (hML r hr) hd x W hW (hsub x W hW hin)
theorem CG (C:List Q4) (o:Q3) (W0:Int) (hW0:0<W0):∀R K:List Q4,Bdd (K++R)→Vert (K++R) C→Str (K++R) o W0→
  ∀y W,0<W→InP (K++nf R C) y W→InP (K++R) y W
 | [],K,_,_,_=>fun y W _ h=>h
 |r::R,K,hB,hV,ho=>by
  by_cases h3:3≤onA C r
  ·have e1:K++nf (r::R) C=(K++[r])++nf R C:=by unfold nf;simp[h3]
   have e2:K++r::R=(K++[r])++R:=by simp
   rw[e1,e2]
   rw[e2]at hB hV ho
   exact CG C o W0 hW0 R (K++[r]) hB hV ho
  ·have e1:K++nf (r::R) C=K++nf R C:=by unfold nf;simp[h3]
   rw[e1]
   have hM:∀q∈K++r::R,q=r∨q∈K++R:=fun q hq=>by
    simp only[altl,alsk]at hq ⊢
    rcases hq with h|h|h
    ·exact .inr (.inl h)
    ·exact .inl h
    ·exact .inr (.inr h)
   have hML:∀q∈K++R,q∈K++r::R:=fun q hq=>by
    simp only[altl,alsk]at hq ⊢
    rcases hq with h|h
    ·exact .inl h
    ·exact .inr (.inr h)
   have hsub:∀y W,0<W→InP (K++R) y W→InP (K++r::R) y W:=fun y W hW hy q hq=>by
    rcases hM q hq with rfl|h
    ·exact ID (by simp) hM hML hB hV o W0 hW0 ho (by omega) y W hW hy
    ·exact hy q h
   have hoM:Str (K++R) o W0:=fun q hq=>ho q (hML q hq)
   have ih:=CG C o W0 hW0 R K (Dx hB hsub o W0 hW0 hoM.inP) (hV.sub hML hsub) hoM
   exact fun y W hW h=>hsub y W hW (ih y W hW h)
theorem Fz (ps:List Q4) (d e:Q3) (hd:∀p∈ps,bj (nrm p) d≤0) (hde:bj d e=0) (hdd:0<bj d d) (he:∃p∈ps,bj (nrm p) e≠0):
  ∃p∈ps,bj (nrm p) e≠0∧∃d':Q3,(∀q∈ps,bj (nrm q) d'≤0)∧bj (nrm p) d'=0∧d'≠(0,0,0)∧∀q:Q3,bj q d=0→bj q e=0→bj q d'=0:=by
 have key:∀e:Q3,bj d e=0→(∃p∈ps,0<bj (nrm p) e)→∃p∈ps,0<bj (nrm p) e∧∃d':Q3,(∀q∈ps,bj (nrm q) d'≤0)∧bj (nrm p) d'=0∧d'≠(0,0,0)∧∀q:Q3,bj q d=0→bj q e=0→bj q d'=0:=by
  intro e hde he
  obtain⟨p,hp,ht,hm⟩:=nl (fun p=> -(bj (nrm p) d)) (fun p=>bj (nrm p) e) ps he
  have hs:=hd p hp
  refine⟨p,hp,ht,mv d e (bj (nrm p) e) (-(bj (nrm p) d)),fun q hq=> ?_, ?_, ?_,fun q h1 h2=> ?_⟩
  ·rw[vq]
   by_cases h0:0<bj (nrm q) e
   ·have h1:=hm q hq h0
    rw[Int.neg_mul,Int.neg_mul]at h1
    have e1:bj (nrm p) e*bj (nrm q) d=bj (nrm q) d*bj (nrm p) e:=Int.mul_comm _ _
    rw[Int.neg_mul]
    omega
   ·have h1:=qgc (Int.le_of_lt ht) (show 0≤ -(bj (nrm q) d) by have:=hd q hq;omega)
    have h2:=qgc (show 0≤ -(bj (nrm p) d) by omega) (show 0≤ -(bj (nrm q) e) by omega)
    rw[Int.mul_neg]at h1 h2
    omega
  ·rw[vq,Int.neg_mul,Int.mul_comm];omega
  ·intro h0
   have h1:bj d (mv d e (bj (nrm p) e) (-(bj (nrm p) d)))=0:=by rw[h0];unfold bj;simp
   rw[vq,hde,Int.mul_zero,Int.add_zero]at h1
   have:=qfY ht hdd
   omega
  ·rw[vq,h1,h2];omega
 by_cases h:∃p∈ps,0<bj (nrm p) e
 ·obtain⟨p,hp,h0,d',h1,h2,h3,h4⟩:=key e hde h
  exact⟨p,hp,by omega,d',h1,h2,h3,h4⟩
 ·have hn:∀f:Q3,bj f (-e.1, -e.2.1, -e.2.2)= -(bj f e):=fun f=>by unfold bj;grind
  obtain⟨p,hp,h0,d',h1,h2,h3,h4⟩:=key (-e.1, -e.2.1, -e.2.2) (by rw[hn,hde];rfl) (by
   obtain⟨p,hp,h0⟩:=he
   have:¬0<bj (nrm p) e:=fun h1=>h ⟨p,hp,h1⟩
   exact⟨p,hp,by rw[hn];omega⟩)
  rw[hn]at h0
  exact⟨p,hp,by omega,d',h1,h2,h3,fun q g1 g2=>h4 q g1 (by rw[hn,g2];rfl)⟩
theorem FA (ps:List Q4) (h:bx ps=true):Bdd ps:=by
 unfold bx at h
 rw[qaF]at h
 obtain⟨hg,hf⟩:=h
 have hln:∀i k,dJ ps k i=(-(dJ ps i k).1, -(dJ ps i k).2.1, -(dJ ps i k).2.2):=fun i k=>by unfold dJ aN;simp only[Prod.mk.injEq];refine⟨?_, ?_, ?_⟩<;>grind
 have hG:∀p∈ps,∀q∈ps,aN (nrm p) (nrm q)≠(0,0,0)→(∃r∈ps,0<bj (aN (nrm p) (nrm q)) (nrm r))∧∃r∈ps,bj (aN (nrm p) (nrm q)) (nrm r)<0:=by
  have key:∀i k,i<ps.length→k<i→dJ ps i k≠(0,0,0)→(∃r∈ps,0<bj (dJ ps i k) (nrm r))∧∃r∈ps,bj (dJ ps i k) (nrm r)<0:=fun i k hi hk h0=>by
   have h1:=alsi.1 hg i (by simpa using hi)
   have h2:=alsi.1 h1 k (by simpa using hk)
   unfold ij nzB at h2
   rw[qfX h0]at h2
   unfold mR mS at h2
   rw[qgi]at h2
   simp only[Bool.not_true,Bool.false_or,qaF,ultj,qfV]at h2
   exact h2
  intro p hp q hq h0
  obtain⟨i,hi,rfl⟩:=jA hp
  obtain⟨k,hk,rfl⟩:=jA hq
  rcases Nat.lt_trichotomy i k with h1|h1|h1
  ·have e:aN (nrm (fk ps i)) (nrm (fk ps k))=(-(dJ ps k i).1, -(dJ ps k i).2.1, -(dJ ps k i).2.2):=hln k i
   have hn:∀f:Q3,bj (-(dJ ps k i).1, -(dJ ps k i).2.1, -(dJ ps k i).2.2) f= -(bj (dJ ps k i) f):=fun f=>by unfold bj;grind
   rw[e]at h0 ⊢
   obtain⟨⟨r,hr,h2⟩,r',hr',h3⟩:=key k i hk h1 (fun e0=>h0 (by rw[e0];rfl))
   exact⟨⟨r',hr',by rw[hn];omega⟩,r,hr,by rw[hn];omega⟩
  ·subst h1
   exact absurd (by unfold aN;simp only[Prod.mk.injEq];refine⟨?_, ?_, ?_⟩<;>grind) h0
  ·exact key i k hi h1 h0
 have hsp:∃p∈ps,∃q∈ps,∃r∈ps,bN p q r≠0:=by
  unfold jw Rq at hf
  simp only[ultj,ultv]at hf
  obtain⟨i,hi,k,hk,h0⟩:=hf
  have h0:dJ ps i k≠(0,0,0):=of_decide_eq_true h0
  have g:∀j,j<ps.length→fk ps j∈ps:=fun j hj=>by
   have:fk ps j=ps[j]:=by simp[fk,List.getD,hj]
   rw[this];exact qaB hj
  obtain⟨⟨r,hr,h2⟩,_⟩:=hG _ (g i hi) _ (g k (by omega)) h0
  exact⟨_,g i hi,_,g k (by omega),r,hr,by unfold bN;omega⟩
 obtain⟨a,ha,b,hb,c,hc,hden⟩:=hsp
 have hspan:∀e:Q3,e≠(0,0,0)→∃p∈ps,bj (nrm p) e≠0:=fun e he=>by
  refine qgk fun hno=> ?_
  have z:∀p∈ps,bj (nrm p) e=0:=fun p hp=>qgk fun h0=>hno ⟨p,hp,h0⟩
  obtain⟨c1,c2,c3⟩:=yX (nrm a) (nrm b) (nrm c) e
  rw[z a ha,z b hb,z c hc]at c1 c2 c3
  have hz:∀u v w:Q3,fP 0 0 0 u v w=(0,0,0):=fun u v w=>by unfold fP;simp
  rw[hz]at c1 c2 c3
  obtain⟨e1,e2,e3⟩:=e
  unfold bN at hden
  refine he ?_
  have g1:e1=0:=(Int.mul_eq_zero.1 c1).resolve_left hden
  have g2:e2=0:=(Int.mul_eq_zero.1 c2).resolve_left hden
  have g3:e3=0:=(Int.mul_eq_zero.1 c3).resolve_left hden
  rw[g1,g2,g3]
 intro d hd
 refine qgk fun hno=> ?_
 have hcone:∀p∈ps,bj (nrm p) d≤0:=fun p hp=>Int.not_lt.1 fun h=>hno ⟨p,hp,h⟩
 obtain⟨e,he,_,hed⟩:=Mr d (0,0,0) hd (by unfold bj;simp)
 obtain⟨e,he0,hde,_⟩:=Mr d (0,0,0) hd (by unfold bj;simp)
 obtain⟨p1,hp1,hpe,d1,hc1,ht1,hd1,_⟩:=Fz ps d e hcone hde (ku hd) (hspan e he0)
 have hn1:nrm p1≠(0,0,0):=fun e0=>hpe (by rw[e0];unfold bj;simp)
 have he2:aN (nrm p1) d1≠(0,0,0):=fun e0=>by
  have h3:bj (aN (nrm p1) d1) (aN (nrm p1) d1)=bj (nrm p1) (nrm p1)*bj d1 d1-bj (nrm p1) d1*bj (nrm p1) d1:=by unfold bj aN;grind
  rw[e0,ht1]at h3
  have:=qfY (ku hn1) (ku hd1)
  have:bj ((0,0,0):Q3) (0,0,0)=0:=rfl
  omega
 obtain⟨p2,hp2,hpe2,d2,hc2,ht2,hd2,hk2⟩:=Fz ps d1 (aN (nrm p1) d1) hc1 (by unfold bj aN;grind) (ku hd1) (hspan _ he2)
 have ht12:=hk2 (nrm p1) ht1 (by unfold bj aN;grind)
 have hx:aN (nrm p1) (nrm p2)≠(0,0,0):=fun e0=>hpe2 (by
  have:bj (nrm p2) (aN (nrm p1) d1)= -(bj d1 (aN (nrm p1) (nrm p2))):=by unfold bj aN;grind
  rw[this,e0];unfold bj;simp)
 obtain⟨⟨r,hr,h1⟩,r',hr',h2⟩:=hG p1 hp1 p2 hp2 hx
 have hid:∀n:Q3,bj (aN (nrm p1) (nrm p2)) n*bj d2 d2=bj (aN (nrm p1) (nrm p2)) d2*bj n d2:=fun n=>by
  have:bj (aN (nrm p1) (nrm p2)) n*bj d2 d2-bj (aN (nrm p1) (nrm p2)) d2*bj n d2=bj (nrm p1) d2*bj (nrm p2) (aN n d2)-bj (nrm p2) d2*bj (nrm p1) (aN n d2):=by unfold bj aN;grind
  rw[ht12,ht2]at this
  omega
 have hdd:=ku hd2
 have g1:=hid (nrm r)
 have g2:=hid (nrm r')
 have k1:=qfY h1 hdd
 have k2:=qfY (show 0< -(bj (aN (nrm p1) (nrm p2)) (nrm r')) by omega) hdd
 rw[Int.neg_mul]at k2
 have n1:=hc2 r hr
 have n2:=hc2 r' hr'
 rcases Int.le_total 0 (bj (aN (nrm p1) (nrm p2)) d2)with h|h
 ·have:=qgc h (show 0≤ -(bj (nrm r) d2) by omega)
  rw[Int.mul_neg]at this
  omega
 ·have:=qgc (show 0≤ -(bj (aN (nrm p1) (nrm p2)) d2) by omega) (show 0≤ -(bj (nrm r') d2) by omega)
  rw[Int.neg_mul,Int.mul_neg]at this
  omega
def Ins (l:List Q4):Prop:=∃o:Q3,∃W:Int,0<W∧Str l o W
theorem Mt (ps C:List Q4) (h0:0<ps.length) (hC:∀c∈C,0<c.2.2.2∧InP ps (xyz c) c.2.2.2) (hi:∀p∈ps,∃c∈C,0<slk p (xyz c) c.2.2.2):Ins ps:=by
 have key:∀l:List Q4,0<l.length→(∀p∈l,p∈ps)→∃o W,0<W∧InP ps o W∧Str l o W:=by
  intro l
  induction l with
  |nil=>intro h;simp at h
  |cons p l ih=>
   intro _ hl
   obtain⟨c,hc,hs⟩:=hi p (hl p (by simp))
   obtain⟨hcW,hcI⟩:=hC c hc
   by_cases hn:0<l.length
   ·obtain⟨o,W,hW,hI,hS⟩:=ih hn (fun q hq=>hl q (List.mem_cons_of_mem _ hq))
    refine⟨(1*o.1+1*(xyz c).1,1*o.2.1+1*(xyz c).2.1,1*o.2.2+1*(xyz c).2.2),1*W+1*c.2.2.2,by omega,fun q hq=> ?_,fun q hq=> ?_⟩
    ·rw[Da];have:=hI q hq;have:=hcI q hq;omega
    ·rw[Da]
     have h1:=hcI q (hl q hq)
     rcases alsk.1 hq with rfl|hq
     ·have:=hI q (hl q (by simp));omega
     ·have:=hS q hq;omega
   ·have:l=[]:=List.eq_nil_of_length_eq_zero (by omega)
    subst this
    exact⟨xyz c,c.2.2.2,hcW,hcI,fun q hq=>by rw[ultg]at hq;subst hq;exact hs⟩
 obtain⟨o,W,hW,_,hS⟩:=key ps h0 (fun p hp=>hp)
 exact⟨o,W,hW,hS⟩
structure Rep (q:Bod) (S:List Q4):Prop where
 sub:∀x W,0<W→(InP q.1 x W↔InP S x W)
 str:∀x W,Str S x W→Str q.1 x W
 bdd:Bdd q.1
 vert:Vert q.1 q.2
 inC:∀c∈q.2,0<c.2.2.2∧InP q.1 (xyz c) c.2.2.2
 ins:Ins S
theorem IE (p:Q4):∃g:Int,0<g∧∀x W,slk p x W=g*slk (eL p) x W:=by
 unfold eL
 split
 ·rename_i h
  unfold IV at h
  have d1:=aY [p.1,p.2.1,p.2.2.1,p.2.2.2] p.1 (by simp)
  have d2:=aY [p.1,p.2.1,p.2.2.1,p.2.2.2] p.2.1 (by simp)
  have d3:=aY [p.1,p.2.1,p.2.2.1,p.2.2.2] p.2.2.1 (by simp)
  have d4:=aY [p.1,p.2.1,p.2.2.1,p.2.2.2] p.2.2.2 (by simp)
  unfold dG
  generalize aU [p.1,p.2.1,p.2.2.1,p.2.2.2]=g at*
  have e1:=Int.mul_ediv_cancel' d1
  have e2:=Int.mul_ediv_cancel' d2
  have e3:=Int.mul_ediv_cancel' d3
  have e4:=Int.mul_ediv_cancel' d4
  refine⟨g,by omega,fun x W=> ?_⟩
  unfold slk bj nrm
  simp only
  grind
 ·exact⟨1,by omega,fun x W=>by omega⟩
theorem IF {g a b:Int} (hg:0<g) (h:a=g*b):(0<a↔0<b)∧(0≤a↔0≤b):=by
 subst h
 refine⟨⟨fun h=> ?_,fun h=>qfY hg h⟩,⟨fun h=> ?_,fun h=>qgc (Int.le_of_lt hg) h⟩⟩
 ·exact mu hg (by rw[Int.mul_comm];exact h)
 ·exact mT hg (by rw[Int.mul_comm];exact h)
theorem zW (p:Q4) (x:Q3) (W:Int):(0<slk p x W↔0<slk (eL p) x W)∧(0≤slk p x W↔0≤slk (eL p) x W):=by
 obtain⟨g,hg,h⟩:=IE p
 exact IF hg (h x W)
theorem Lz {S:List Q4} {x:Q4} {o y:Q3} {W V:Int} (hW:0<W) (ho:Str S o W) (hV:0<V) (hy:InP S y V) (hx:0<slk x y V):Ins (S++[x]):=by
 obtain⟨t,ht⟩:∃t:Int,t=1+(slk x o W).natAbs:=⟨_,rfl⟩
 refine⟨(1*o.1+t*y.1,1*o.2.1+t*y.2.1,1*o.2.2+t*y.2.2),1*W+t*V, ?_,fun q hq=> ?_⟩
 ·have:=qfY (show 0<t by omega) hV;omega
 ·rw[Da]
  rcases altl.1 hq with hq|hq
  ·have h1:=ho q hq
   have h2:=qgc (show 0≤t by omega) (hy q hq)
   omega
  ·rw[ultg]at hq
   subst hq
   have h2:t*1≤t*slk q y V:=Int.mul_le_mul_of_nonneg_left hx (by omega)
   omega
theorem Ko {q:Bod} {S:List Q4} (h:Rep q S) (r:Q4) (o:Q3) (W:Int) (hW:0<W) (ho:InP q.1 o W):∃c∈q.2,0<c.2.2.2∧InP q.1 (xyz c) c.2.2.2∧slk r o W*c.2.2.2≤slk r (xyz c) c.2.2.2*W:=by
 obtain⟨c,hc,h1,h2,h3⟩:=Cq h.bdd h.vert (nrm r) o W hW ho
 refine⟨c,hc,h1,h2, ?_⟩
 unfold slk
 have e1:(r.2.2.2*W-bj (nrm r) o)*c.2.2.2=r.2.2.2*W*c.2.2.2-bj (nrm r) o*c.2.2.2:=Int.sub_mul _ _ _
 have e2:(r.2.2.2*c.2.2.2-bj (nrm r) (xyz c))*W=r.2.2.2*W*c.2.2.2-bj (nrm r) (xyz c)*W:=by grind
 omega
theorem IG {q:Bod} {S:List Q4} (h:Rep q S) (r:Q4) (o:Q3) (W:Int) (hW:0<W) (ho:InP q.1 o W):∃c∈q.2,0<c.2.2.2∧slk r (xyz c) c.2.2.2*W≤slk r o W*c.2.2.2:=by
 obtain⟨c,hc,h1,_,h3⟩:=Cq h.bdd h.vert (-(nrm r).1, -(nrm r).2.1, -(nrm r).2.2) o W hW ho
 refine⟨c,hc,h1, ?_⟩
 have hn:∀f:Q3,bj (-(nrm r).1, -(nrm r).2.1, -(nrm r).2.2) f= -(bj (nrm r) f):=fun f=>by unfold bj;grind
 rw[hn,hn,Int.neg_mul,Int.neg_mul]at h3
 unfold slk
 have e1:(r.2.2.2*W-bj (nrm r) o)*c.2.2.2=r.2.2.2*W*c.2.2.2-bj (nrm r) o*c.2.2.2:=Int.sub_mul _ _ _
 have e2:(r.2.2.2*c.2.2.2-bj (nrm r) (xyz c))*W=r.2.2.2*W*c.2.2.2-bj (nrm r) (xyz c)*W:=by grind
 omega
theorem Kp {p:Q4} {cs:List Q4} {c:Q4}:c∈Ob p cs↔c∈cs∧cw p c≤0:=by
 unfold Ob
 rw[(tw _ [] List.nodup_nil).2]
 simp
theorem mem_cutC {p:Q4} {b:Bod} {c:Q4}:c∈ol p b b.1.length 0↔(c∈b.2∧cw p c≤0)∨∃i k,i<b.1.length∧k<i∧c∈py p b.1 i k:=by
 unfold ol
 rw[(tw _ _ (by unfold Ob;exact(tw _ [] List.nodup_nil).1)).2,Kp]
 unfold Cu pK
 simp only[altl,List.mem_flatMap,ultv,List.range_zero,List.flatMap_nil,List.not_mem_nil,or_false]
 constructor
 ·rintro(h|⟨i,hi,k,hk,h⟩)
  ·exact .inl h
  ·exact .inr ⟨i,k,hi,hk,h⟩
 ·rintro(h|⟨i,k,hi,hk,h⟩)
  ·exact .inl h
  ·exact .inr ⟨i,hi,k,hk,h⟩
theorem DS (p q r:Q4) (h0:bN p q r≠0):0<(TB p q r (bN p q r)).2.2.2:=by
 unfold TB
 exact(AZ _ _ _ _ h0).choose_spec.2.2.2.2.2
theorem FB {p:Q4} {ps:List Q4} {i k:Nat} {x:Q3} {W:Int} (hW:0<W) (hin:InP (ps++[p]) x W) (h0:bN p (fk ps i) (fk ps k)≠0) (zp:slk p x W=0) (zi:slk (fk ps i) x W=0) (zk:slk (fk ps k) x W=0):
  ∃c∈py p ps i k,SameAt c x W:=by
 have hs:=ri _ _ _ x W h0 zp zi zk
 have e:lD p (fk ps i) (fk ps k)=TB p (fk ps i) (fk ps k) (bN p (fk ps i) (fk ps k)):=by unfold lD;rw[if_neg h0]
 have ha:=rj hs hW hin
 have ho:okB p (fk ps i) (fk ps k)=true:=by unfold okB;simpa using h0
 refine⟨_, ?_,hs⟩
 unfold py
 rw[e,ho,ha]
 simp
theorem Kq {p:Q4} {ps:List Q4} {i k:Nat} {c:Q4} (h:c∈py p ps i k):0<c.2.2.2∧InP (ps++[p]) (xyz c) c.2.2.2:=by
 unfold py at h
 split at h
 ·rename_i hc
  rw[qaF]at hc
  rw[ultg]at h
  have h0:bN p (fk ps i) (fk ps k)≠0:=by have:=hc.1;unfold okB at this;simpa using this
  have e:lD p (fk ps i) (fk ps k)=TB p (fk ps i) (fk ps k) (bN p (fk ps i) (fk ps k)):=by unfold lD;rw[if_neg h0]
  have ha:=hc.2
  rw[←h]at ha
  refine⟨by rw[h,e];exact DS _ _ _ h0,fun q hq=>dL ha hq⟩
 ·cases h
theorem Kr {p:Q4} {ps:List Q4} {a b:Q4} (ha:a∈ps) (hb:b∈ps) (h0:bN p a b≠0) {x:Q3} {W:Int} (hW:0<W) (hin:InP (ps++[p]) x W) (zp:slk p x W=0) (za:slk a x W=0) (zb:slk b x W=0):
  ∃i k,i<ps.length∧k<i∧∃c∈py p ps i k,SameAt c x W:=by
 obtain⟨i,hi,rfl⟩:=jA ha
 obtain⟨k,hk,rfl⟩:=jA hb
 rcases Nat.lt_trichotomy i k with h1|h1|h1
 ·exact⟨k,i,hk,h1,FB hW hin (by rw[iH];omega) zp zb za⟩
 ·subst h1
  exact absurd (tr _ _) h0
 ·exact⟨i,k,hi,h1,FB hW hin h0 zp za zb⟩
theorem Ks {q:Bod} {p:Q4} (hV:Vert q.1 q.2):Vert (q.1++[p]) (ol p q q.1.length 0):=by
 intro a ha b hb c hc hd x W hW hin za zb zc
 have hp:=hin p (by simp)
 have via:∀u v:Q4,u∈q.1++[p]→v∈q.1++[p]→bN p u v≠0→slk p x W=0→slk u x W=0→slk v x W=0→∃c∈ol p q q.1.length 0,SameAt c x W:=fun u v hu hv h0 z1 z2 z3=>by
  have hu':u∈q.1:=by
   rcases altl.1 hu with h|h
   ·exact h
   ·rw[ultg]at h;subst h;exact absurd (tq _ _) h0
  have hv':v∈q.1:=by
   rcases altl.1 hv with h|h
   ·exact h
   ·rw[ultg]at h;subst h;exact absurd (tt _ _) h0
  obtain⟨i,k,hi,hk,c,hc,hs⟩:=Kr hu' hv' h0 hW hin z1 z2 z3
  exact⟨c,mem_cutC.2 (.inr ⟨i,k,hi,hk,hc⟩),hs⟩
 rcases altl.1 ha with ha'|ha'
 ·rcases altl.1 hb with hb'|hb'
  ·rcases altl.1 hc with hc'|hc'
   ·obtain⟨d,hd',hs⟩:=hV a ha' b hb' c hc' hd x W hW (fun q hq=>hin q (by simp[hq])) za zb zc
    refine⟨d,mem_cutC.2 (.inl ⟨hd', ?_⟩),hs⟩
    rw[th]
    have:=GQ hs hW p hp
    omega
   ·rw[ultg]at hc'
    subst hc'
    exact via a b ha hb (by rw[gC,iH];omega) zc za zb
  ·rw[ultg]at hb'
   subst hb'
   exact via a c ha hc (by rw[gC];omega) zb za zc
 ·rw[ultg]at ha'
  subst ha'
  exact via b c hb hc hd za zb zc
theorem inP_snoc {S:List Q4} {x:Q4} {o:Q3} {W:Int}:InP (S++[x]) o W↔InP S o W∧0≤slk x o W:=by
 unfold InP
 simp only[altl,ultg]
 constructor
 ·intro h;exact⟨fun p hp=>h p (.inl hp),h x (.inr rfl)⟩
 ·rintro⟨h1,h2⟩ p (hp|rfl)
  ·exact h1 p hp
  ·exact h2
theorem str_snoc {S:List Q4} {x:Q4} {o:Q3} {W:Int}:Str (S++[x]) o W↔Str S o W∧0<slk x o W:=by
 unfold Str
 simp only[altl,ultg]
 constructor
 ·intro h;exact⟨fun p hp=>h p (.inl hp),h x (.inr rfl)⟩
 ·rintro⟨h1,h2⟩ p (hp|rfl)
  ·exact h1 p hp
  ·exact h2
theorem FC {L C S:List Q4} (hB:Bdd L) (hV:Vert L C) (hC:∀c∈C,0<c.2.2.2∧InP L (xyz c) c.2.2.2) (hsub:∀x W,0<W→(InP L x W↔InP S x W)) (hstr:∀x W,Str S x W→Str L x W) (hi:Ins S):Rep (nf L C,C) S:=by
 obtain⟨o,W0,hW0,ho⟩:=hi
 have hoL:=hstr o W0 ho
 have hm:=(BM L C).2
 have hn:∀x W,0<W→InP (nf L C) x W→InP L x W:=fun x W hW h=>CG C o W0 hW0 L [] hB hV hoL x W hW h
 exact{
  sub:=fun x W hW=>⟨fun h=>(hsub x W hW).1 (hn x W hW h),fun h p hp=>(hsub x W hW).2 h p (hm p hp)⟩
  str:=fun x W h p hp=>hstr x W h p (hm p hp)
  bdd:=Dx hB hn o W0 hW0 (fun p hp=>Int.le_of_lt (hoL p (hm p hp)))
  vert:=hV.sub hm hn
  inC:=fun c hc=>⟨(hC c hc).1,fun p hp=>(hC c hc).2 p (hm p hp)⟩
  ins:=⟨o,W0,hW0,ho⟩}
theorem LA {q:Bod} {S:List Q4} (h:Rep q S) (x:Q4):((qm q x).2=true→Rep (qm q x).1 (S++[x]))∧((qm q x).2=false→¬Ins (S++[x])):=by
 have hwi:wiA (eL x) q.2=false→¬Ins (S++[x]):=fun hw hI=>by
  obtain⟨o,W,hW,ho⟩:=hI
  obtain⟨h1,h2⟩:=str_snoc.1 ho
  obtain⟨c,hc,hcW,_,h3⟩:=Ko h (eL x) o W hW ((h.sub o W hW).2 h1.inP)
  have h4:=qfY ((zW x o W).1.1 h2) hcW
  have h5:0<slk (eL x) (xyz c) c.2.2.2:=mu hW (by omega)
  unfold wiA at hw
  rw[ultp]at hw
  exact hw c hc (by rw[th];simp;omega)
 have hwt:wiA (eL x) q.2=true→Ins (S++[x]):=fun hw=>by
  obtain⟨o,W,hW,ho⟩:=h.ins
  unfold wiA at hw
  rw[ultj]at hw
  obtain⟨c,hc,hs⟩:=hw
  have hs:=of_decide_eq_true hs
  rw[th]at hs
  obtain⟨hcW,hcI⟩:=h.inC c hc
  exact Lz hW ho hcW ((h.sub _ _ hcW).1 hcI) ((zW x _ _).1.2 (by omega))
 unfold qm
 by_cases hw:wiA (eL x) q.2=true
 ·by_cases hb:beA (eL x) q.2=true
  ·rw[if_pos (by rw[hw,hb];rfl)]
   refine⟨fun _=> ?_,(fun h=>by cases h)⟩
   have hC:∀c∈ol (eL x) q q.1.length 0,0<c.2.2.2∧InP (q.1++[eL x]) (xyz c) c.2.2.2:=fun c hc=>by
    rcases mem_cutC.1 hc with⟨h1,h2⟩|⟨i,k,_,_,h1⟩
    ·rw[th]at h2
     exact⟨(h.inC c h1).1,inP_snoc.2 ⟨(h.inC c h1).2,by omega⟩⟩
    ·exact Kq h1
   exact FC (h.bdd.mono (fun p hp=>by simp[hp])) (Ks h.vert) hC
    (fun y W hW=>by rw[inP_snoc,inP_snoc,h.sub y W hW,(zW x y W).2])
    (fun y W hy=>by
     obtain⟨h1,h2⟩:=str_snoc.1 hy
     exact str_snoc.2 ⟨h.str y W h1,(zW x y W).1.1 h2⟩) (hwt hw)
  ·rw[if_neg (by rw[hw];simpa using hb)]
   refine⟨fun _=> ?_,fun h=> ?_⟩
   rotate_left
   ·simp only at h
    rw[hw]at h
    cases h
   have hall:∀y W,0<W→InP q.1 y W→0≤slk x y W:=fun y W hW hy=>by
    obtain⟨c,hc,hcW,h3⟩:=IG h (eL x) y W hW hy
    have h4:¬0<cw (eL x) c:=fun h5=>hb (by unfold beA;rw[ultj];exact⟨c,hc,by simpa using h5⟩)
    rw[th]at h4
    have h5:=qgc (show 0≤slk (eL x) (xyz c) c.2.2.2 by omega) (Int.le_of_lt hW)
    exact(zW x y W).2.2 (mT hcW (by omega))
   exact{
    sub:=fun y W hW=>⟨fun hy=>inP_snoc.2 ⟨(h.sub y W hW).1 hy,hall y W hW hy⟩,fun hy=>(h.sub y W hW).2 (inP_snoc.1 hy).1⟩
    str:=fun y W hy=>h.str y W (str_snoc.1 hy).1
    bdd:=h.bdd
    vert:=h.vert
    inC:=h.inC
    ins:=hwt hw}
 ·have hw':wiA (eL x) q.2=false:=by simpa using hw
  rw[if_neg (by rw[hw'];simp)]
  refine⟨fun h=> ?_,fun _=>hwi hw'⟩
  simp only at h
  rw[hw']at h
  cases h
theorem Kt (ps:List Q4):Vert ps (ct ps):=fun p hp q hq r hr hd x W hW hin z1 z2 z3=>by
 obtain⟨c,hc,hs⟩:=np ps p q r hp hq hr x W hW hin z1 z2 z3 hd
 exact⟨c,((kT ps).2 c).2 hc,hs⟩
theorem Ku (ps:List Q4):∀c∈ct ps,0<c.2.2.2∧InP ps (xyz c) c.2.2.2:=fun c hc=>by
 have hr:=((kT ps).2 c).1 hc
 obtain⟨p,_,q,_,r,_,h0,e⟩:=YN (qaA _) hr
 exact⟨by rw[e];exact DS _ _ _ h0,fun q hq=>dL (ld hr) hq⟩
theorem Ql {ps:List Q4} (hB:Bdd ps):ps.all (gM (ct ps))=true↔Ins ps:=by
 have hne:0<ps.length:=by
  obtain⟨p,hp,_⟩:=hB (1,0,0) (by simp)
  exact List.length_pos_of_mem hp
 constructor
 ·intro h
  rw[alsi]at h
  refine Mt ps (ct ps) hne (Ku ps) (fun p hp=> ?_)
  have h1:=h p hp
  unfold gM at h1
  rw[ultj]at h1
  obtain⟨c,hc,h2⟩:=h1
  have h2:=of_decide_eq_true h2
  rw[mt,dp]at h2
  exact⟨c,hc,h2⟩
 ·rintro⟨o,W,hW,ho⟩
  rw[alsi]
  intro p hp
  obtain⟨c,hc,hs⟩:=Sx ps hB o W hW ho p hp
  unfold gM
  rw[ultj]
  exact⟨c,((kT ps).2 c).2 hc,by simpa using hs⟩
end
end Go.Proofs.YtffbilcjhlncfaaGreatDoor
