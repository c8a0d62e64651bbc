/- texts: I7 IA0 IA1 IA3 I8 I9. -/
import Derived.Test.YtffbilcjhlncfaaGreatDoorDQS18
import Derived.Deep.DeepCutAuto
import Derived.Deep.RegionHeldLaw
import Derived.Deep.AppendLies
namespace Go.Proofs.YtffbilcjhlncfaaGreatDoor
set_option maxHeartbeats 8000000
set_option linter.all false
section
open Go.RowKit Go.Shelf Go.Lib
set_option maxRecDepth 100000
attribute [local go_sem] Ext.cell Ext.frozen
theorem DI (l:List Q4) (x:Q4):∀out,x∈l.foldl NW out→x∈out∨x∈l:=by
 induction l with
 |nil=>intro out h;exact .inl h
 |cons c l ih=>
  intro out h
  rw[List.foldl_cons]at h
  rcases ih _ h with h|h
  ·unfold NW at h
   split at h
   ·exact .inl h
   ·rw[altl,ultg]at h
    rcases h with h|rfl
    ·exact .inl h
    ·exact .inr (by simp)
  ·exact .inr (by simp[h])
theorem Jp (p:Q4) (cs:List Q4) (h:∀c∈cs,okX c):∀c∈Ob p cs,okX c:=fun c hc=>by
 unfold Ob at hc
 rcases DI _ _ _ hc with h1|h1
 ·cases h1
 ·exact h c (alsm.1 h1).1
theorem Dj {ps:List Q4} (h:∀p∈ps,okW p) (i:Nat) (hi:i<ps.length):okW (fk ps i):=by
 rw[←eN i hi]
 exact h _ (qaB hi)
theorem Ib (p:Q4) (ps:List Q4) (hp:okW p) (hps:∀p∈ps,okW p) (i k:Nat) (hi:i<ps.length) (hk:k<ps.length):∀c∈py p ps i k,okX c:=fun c hc=>by
 unfold py at hc
 split at hc
 ·rename_i h
  rw[ultg]at hc
  subst hc
  rw[qaF]at h
  exact De _ _ _ hp (Dj hps i hi) (Dj hps k hk) h.1
 ·cases hc
theorem EK (p:Q4) (b:Bod) (hp:okW p) (hps:∀p∈b.1,okW p) (hcs:∀c∈b.2,okX c):∀c∈ol p b b.1.length 0,okX c:=fun c hc=>by
 unfold ol at hc
 rcases DI _ _ _ hc with h|h
 ·exact Jp p b.2 hcs c h
 ·rw[altl]at h
  rcases h with h|h
  ·unfold Cu pK at h
   simp only[List.mem_flatMap,ultv]at h
   obtain⟨i,hi,k,hk,h⟩:=h
   exact Ib p b.1 hp hps i k (by omega) (by omega) c h
  ·simp[pK]at h
theorem Jq (p:Q4) (cs:List Q4) (k:Nat) (h:k<cs.length):wiA p (cs.take (k+1))=(wiA p (cs.take k) || decide (cw p cs[k]<0)):=by
 unfold wiA;rw[qaI h,List.any_append];simp
theorem Jr (p:Q4) (cs:List Q4) (k:Nat) (h:k<cs.length):beA p (cs.take (k+1))=(beA p (cs.take k) || decide (0<cw p cs[k])):=by
 unfold beA;rw[qaI h,List.any_append];simp
theorem Js {Z w4 w1:World} {B n:Nat} {e:TypeId} {v:Value} {xs:List Value} (hown:w1.ownsRow B e 4 v n xs) (hb:Below w1.heap.size w1 Z) (hg:Z.grownBy w4 v.ownBlock):∀(g:Nat) (cells:Array Value) (t:TypeId),e≠t→Z.heap[g]? =some (.cells cells t (0,0))→w4.heap[g]? =some (.cells cells t (0,0)):=
 fun g cells t ht h=>(hg.block g (ah h) (fun e=>aG (au hown hb) h ht e.symm)).trans h
def OwP (B n:Nat) (xs:List Value):Value→World→Prop:=fun v w=>w.ownsRow B 261 4 v n xs
theorem KQ (B n:Nat) (xs:List Value):dR (OwP B n xs):=fun _ _ _ hb h=>au h hb
def OwQ (B n:Nat) (xs:List Value):Value→World→Prop:=fun v w=>∃u,v= .agg #[u, .slice none 0 0]∧w.ownsRow B 261 4 u n xs
theorem KR (B n:Nat) (xs:List Value):dR (OwQ B n xs):=fun _ _ _ hb ⟨u,e,h⟩=>⟨u,e,au h hb⟩
def BxS (T:TypeId) (cs:Array Value):Value→World→Prop:=fun v w=>∃g,v= .slice (some ⟨g,0,none⟩) 1 1∧w.heap[g]? =some (.cells cs T (0,0))
theorem KS (T:TypeId) (cs:Array Value):dR (BxS T cs):=fun _ _ _ hb ⟨g,e,h⟩=>⟨g,e,(hb.block g (ah h)).trans h⟩
def BxP (B:Nat) (T:TypeId) (cs:Array Value):Value→World→Prop:=fun v w=>∃g,v= .pointer (some ⟨g,0,none⟩)∧B≤g∧w.heap[g]? =some (.cells cs T (0,0))
theorem KT (B:Nat) (T:TypeId) (cs:Array Value):dR (BxP B T cs):=fun _ _ _ hb ⟨g,e,h0,h⟩=>⟨g,e,h0,(hb.block g (ah h)).trans h⟩
def EmP (Y w w':World):Prop:=(Below Y.heap.size Y w→Below Y.heap.size Y w')∧∀(g:Nat) (cells:Array Value) (t:TypeId),261≠t→w.heap[g]? =some (.cells cells t (0,0))→w'.heap[g]? =some (.cells cells t (0,0))
theorem EmP.refl (Y w:World):EmP Y w w:=⟨id,fun _ _ _ _ h=>h⟩
structure CtX (N:Nat) (pv cv:Value) (P:Q4) (X:World):Prop where
 b:X.heap[N]? =some (.cells #[pv,cv] 216 (0,0))
 p:X.heap[N+1]? =some (.cells #[.int .i64 P.1, .int .i64 P.2.1, .int .i64 P.2.2.1, .int .i64 P.2.2.2] 261 (0,0))
 o:X.heap[N+1+1]? =some (.cells #[.slice none 0 0, .slice none 0 0] 216 (0,0))
theorem CtX.keep {N:Nat} {pv cv:Value} {P:Q4} {X Y:World} {B:Nat} (h:CtX N pv cv P X) (hb:Below B X Y) (hB:N+1+1<B):CtX N pv cv P Y:=
 ⟨(hb.block _ (by omega)).trans h.b,(hb.block _ (by omega)).trans h.p,(hb.block _ hB).trans h.o⟩
theorem GC (b:Bod) (p:Q4) (pv cv:Value) (w:World) (hp0:okW p) (hps:∀p∈b.1,okW p) (hcs:∀c∈b.2,okX c) (hl:b.1.length≤100) (hlc:b.2.length≤900000) (hpv:Q4s w pv b.1) (hcv:Q4s w cv b.2):
  Calls Tryz.prog 181 #[.agg #[pv,cv],v4 p] w (MT pv cv (qm b p) w):=by
 have hP:okW (eL p):=EB p hp0
 have HRes:Hid (qm b p=if wiA (eL p) b.2&&beA (eL p) b.2 then(IW b (eL p),true)else(b,wiA (eL p) b.2)):=YJ rfl
 obtain⟨V,HV⟩:∃V,Hid (((w.alloc (.cells #[pv,cv] 216)).alloc (.cells #[.int .i64 p.1, .int .i64 p.2.1, .int .i64 p.2.2.1, .int .i64 p.2.2.2] 261)).alloc (.cells #[.slice none 0 0, .slice none 0 0] 216)=V):=⟨_,YJ rfl⟩
 have hV:Below w.heap.size w V:=by rw[←HV.out];exact bel
 have HXV:Hid (CtX w.heap.size pv cv p V):=YJ (by
  rw[←HV.out]
  exact⟨(aB (by simp<;>omega)).trans ((aB (by simp)).trans (ai rfl)),(aB (by simp)).trans (ai (by simp)),ai (by simp)⟩)
 have HRd:=fun W=>YJ (DX p W hp0)
 have Hpv:=YJ hpv
 have Hcv:=YJ hcv
 obtain⟨pa,pn,pc,rfl, -⟩:=hpv
 obtain⟨ca,cn,cc,rfl,hcn, -,hcx⟩:=hcv
 have HCX:Hid (0<cn→∃g off,ca=some ⟨g,off,none⟩∧Q4At w g off b.2):=YJ hcx
 generalize qm b p=res at*
 generalize eL p=P at*
 obtain⟨p0,p1,p2,p3⟩:=p
 obtain⟨x0,x1,x2,x3,_,xz⟩:=am HXV.out.p
 have Hcn:=YJ hcn
 have HSd:=fun(k:Nat) (h:k<b.2.length) W=>YJ (BK P b.2[k] W hP (hcs _ (qaB h)))
 have Hwi:=fun(k:Nat) (h:k<b.2.length)=>YJ (Jq P b.2 k h)
 have Hbe:=fun(k:Nat) (h:k<b.2.length)=>YJ (Jr P b.2 k h)
 have H0w:Hid (wiA P (b.2.take 0)=false∧beA P (b.2.take 0)=false):=YJ ⟨rfl,rfl⟩
 have H1w:Hid (wiA P (b.2.take cn)=wiA P b.2∧beA P (b.2.take cn)=beA P b.2):=YJ (by rw[qaK (by omega)];exact⟨rfl,rfl⟩)
 have HPs:=YJ hps
 have HCs:=YJ hcs
 have HPw:=YJ hP
 clear hp0 hcn hcx hps hcs hP
 go_enter Tryz.func181,Tryz.ntmps181
 go_wp2_with fail
 rw[HV.out]
 go_wp2_with fail
 refine((HRd _).out).mono ?_
 rintro e V2 ⟨rfl,hb2⟩
 have HX2:=YJ (HXV.out.keep hb2 (ah HXV.out.o))
 have hw2:=fB hV hb2
 clear HRd hb2 hV HXV HV x0 x1 x2 x3 xz
 obtain⟨X,HXe⟩:∃X,Hid (tB V2 (w.heap.size+1) (.int .i64 P.1) (.int .i64 P.2.1) (.int .i64 P.2.2.1) (.int .i64 P.2.2.2)=X):=⟨_,YJ rfl⟩
 have hX:Below (w.heap.size+1) V2 X:=by rw[←HXe.out];exact ru (brf) (qaA _) _ _ _ _
 have eX:(((V2.setCell ⟨w.heap.size+1,0,none⟩ (.int .i64 P.1)).setCell ⟨w.heap.size+1,1,none⟩ (.int .i64 P.2.1)).setCell ⟨w.heap.size+1,2,none⟩ (.int .i64 P.2.2.1)).setCell ⟨w.heap.size+1,3,none⟩ (.int .i64 P.2.2.2)=X:=HXe.out
 have HXX:Hid (CtX w.heap.size (.slice pa pn pc) (.slice ca cn cc) P X):=YJ (by
  refine⟨(hX.block _ (by omega)).trans HX2.out.b, ?_, ?_⟩
  ·rw[←HXe.out];exact pI HX2.out.p _ _ _ _
  ·rw[←HXe.out]
   unfold tB
   exact(qaH _ _ _ _ (by simp)).trans ((qaH _ _ _ _ (by simp)).trans ((qaH _ _ _ _ (by simp)).trans ((qaH _ _ _ _ (by simp)).trans HX2.out.o))))
 have hwX:Below w.heap.size w X:=hw2.trans (hX.mono (by omega))
 have zo:=ah HXX.out.o
 obtain⟨x0,x1,x2,x3,xf,xz⟩:=am HX2.out.p
 have y1:V2.cell? ⟨w.heap.size,1,none⟩=some (.slice ca cn cc):=(bq HX2.out.b 1).trans rfl
 have yz:=ah HX2.out.b
 clear HX2 hw2 hX
 go_upto_region 2 with fail
 clear y1 yz
 have y1:X.cell? ⟨w.heap.size,1,none⟩=some (.slice ca cn cc):=(bq HXX.out.b 1).trans rfl
 have yz:=ah HXX.out.b
 go_wp2
 clear x0 x1 x2 x3 xf xz y1 yz eX HXe
 go_loopw [6,7,25] (fun s6 s7 x wr=>∃k:Nat,k≤cn∧x= .int .i64 k∧∃b6 b7,s6= .bool b6∧s7= .bool b7∧Hid (b6=wiA P (b.2.take k))∧Hid (b7=beA P (b.2.take k))∧Below X.heap.size X wr) (fun _ _ x _=>cn-(intOf x).toNat)
 case atStart=>exact⟨0,by omega,rfl,_,_,rfl,rfl,YJ H0w.out.1.symm,YJ H0w.out.2.symm,brf⟩
 case round=>
  obtain⟨k,hk,rfl,b6,b7,rfl,rfl,H6,H7,hb⟩:=hrel
  have HXr:=YJ (HXX.out.keep hb zo)
  by_cases hlt:k<cn
  ·have hkl:k<b.2.length:=by have:=Hcn.out;omega
   obtain⟨g,off,rfl,hi⟩:=HCX.out (by omega)
   obtain⟨e0,e1,e2,e3⟩:=(hi.below (hwX.trans (hb.mono hwX.size))) k hkl
   have ze:=qaC wr _ e0
   simp only at ze
   have HSk:=fun W=>YJ ((HSd k hkl W).out)
   have Hw:=YJ ((Hwi k hkl).out)
   have Hbe':=YJ ((Hbe k hkl).out)
   obtain⟨x0,x1,x2,x3,xf,xz⟩:=am HXr.out.p
   clear hi HSd Hwi Hbe HCX H0w H1w HRes HPs HCs Hpv Hcv HPw
   generalize b.2[k]=c at*
   obtain⟨c0,c1,c2,c3⟩:=c
   simp only at e0 e1 e2 e3
   generalize cw P (c0,c1,c2,c3)=s at*
   go_wp2_with fail
   refine((HSk _).out).mono ?_
   rintro e w1 ⟨rfl,hb1⟩
   have hb2:Below X.heap.size X w1:=fB hb (fB bel hb1)
   clear e0 e1 e2 e3 x0 x1 x2 x3 xf xz HSk hb1
   have Hbe:=Hbe'
   clear Hbe'
   rcases(by omega:s<0∨s=0∨0<s)with hs|hs|hs
   ·have d1:decide (s<0)=true:=qfX hs
    have d2:decide (0<s)=false:=qfZ (by omega)
    rw[d1]at Hw
    rw[d2]at Hbe
    have n1:¬0<s:=by omega
    clear d1 d2
    cases b6<;>cases b7
    all_goals
     go_wp2
     go_roundw
     case rel=>exact⟨k+1,by omega,by go_num,_,_,rfl,rfl,YJ (by rw[Hw.out, ←H6.out];(first|(simp;done)|(simp;omega))),YJ (by rw[Hbe.out, ←H7.out];(first|(simp;done)|(simp;omega))),hb2⟩
     simp[intOf];try omega
   ·subst hs
    have Hw:Hid _:=Hw
    cases b6<;>cases b7
    all_goals
     go_wp2
     go_roundw
     case rel=>exact⟨k+1,by omega,by go_num,_,_,rfl,rfl,YJ (by rw[Hw.out, ←H6.out];(first|(simp;done)|(simp;omega))),YJ (by rw[Hbe.out, ←H7.out];(first|(simp;done)|(simp;omega))),hb2⟩
     simp[intOf];try omega
   ·have d1:decide (s<0)=false:=qfZ (by omega)
    have d2:decide (0<s)=true:=qfX hs
    rw[d1]at Hw
    rw[d2]at Hbe
    have n1:¬s<0:=by omega
    clear d1 d2
    cases b6<;>cases b7
    all_goals
     go_wp2
     go_roundw
     case rel=>exact⟨k+1,by omega,by go_num,_,_,rfl,rfl,YJ (by rw[Hw.out, ←H6.out];(first|(simp;done)|(simp;omega))),YJ (by rw[Hbe.out, ←H7.out];(first|(simp;done)|(simp;omega))),hb2⟩
     simp[intOf];try omega
  ·obtain rfl:k=cn:=by omega
   rw[H1w.out.1]at H6
   rw[H1w.out.2]at H7
   clear HSd Hwi Hbe H0w H1w
   rw[←H6.out, ←H7.out]at HRes
   have hwY:Below w.heap.size w wr:=hwX.trans (hb.mono hwX.size)
   have HXY:=HXr
   have zY:=hb.size
   obtain⟨Y,rfl⟩:∃Y:World,Y=wr:=⟨_,rfl⟩
   clear HXr HXX hb H6 H7 hwX
   have HQp:=YJ (Hpv.out.below hwY)
   have HQc:=YJ (Hcv.out.below hwY)
   have y0:Y.cell? ⟨w.heap.size,0,none⟩=some (.slice pa pn pc):=(bq HXY.out.b 0).trans rfl
   have y1:Y.cell? ⟨w.heap.size,1,none⟩=some (.slice ca k cc):=(bq HXY.out.b 1).trans rfl
   have yz:=ah HXY.out.b
   have o0:Y.cell? ⟨w.heap.size+1+1,0,none⟩=some (.slice none 0 0):=(bq HXY.out.o 0).trans rfl
   have o1:Y.cell? ⟨w.heap.size+1+1,1,none⟩=some (.slice none 0 0):=(bq HXY.out.o 1).trans rfl
   have of:=aC HXY.out.o
   have oz:=ah HXY.out.o
   cases b6 with
   |false=>
    have HRes:Hid (res=(b,false)):=YJ (by rw[HRes.out];rfl)
    go_wp2
    have HO6:(Y.setCell ⟨w.heap.size+1+1,0,none⟩ (.slice pa pn pc)).heap[w.heap.size+1+1]? =some (.cells #[.slice pa pn pc, .slice none 0 0] 216 (0,0)):=by have:=Tu HXY.out.o 0 (.slice pa pn pc);simpa using this
    refine bodyPost_ret (v:= .tuple #[.agg #[.slice pa pn pc, .slice ca k cc], .bool false]) (by simp[results,Tryz.results181,go_sem,o0,o1,oz]) rfl ?_
    rw[HRes.out]
    refine⟨_,_,rfl, ?_, ?_, ?_, .inl rfl, .inl rfl⟩
    ·iterate 2 (refine qga ?_ (by first|exact qaA _|exact Nat.le_succ _|(simp;done)|(simp;omega)) _)
     exact hwY
    ·exact br (br HQp.out HXY.out.o (fun _ h=>by cases h) (fun _ h=>by cases h) _ _) HO6 (fun _ h=>by cases h) (fun _ h=>by cases h) _ _
    ·exact br (br HQc.out HXY.out.o (fun _ h=>by cases h) (fun _ h=>by cases h) _ _) HO6 (fun _ h=>by cases h) (fun _ h=>by cases h) _ _
   |true=>
    cases b7 with
    |false=>
     have HRes:Hid (res=(b,true)):=YJ (by rw[HRes.out];rfl)
     go_wp2
     have HO6:(Y.setCell ⟨w.heap.size+1+1,0,none⟩ (.slice pa pn pc)).heap[w.heap.size+1+1]? =some (.cells #[.slice pa pn pc, .slice none 0 0] 216 (0,0)):=by have:=Tu HXY.out.o 0 (.slice pa pn pc);simpa using this
     refine bodyPost_ret (v:= .tuple #[.agg #[.slice pa pn pc, .slice ca k cc], .bool true]) (by simp[results,Tryz.results181,go_sem,o0,o1,oz]) rfl ?_
     rw[HRes.out]
     refine⟨_,_,rfl, ?_, ?_, ?_, .inl rfl, .inl rfl⟩
     ·iterate 2 (refine qga ?_ (by first|exact qaA _|exact Nat.le_succ _|(simp;done)|(simp;omega)) _)
      exact hwY
     ·exact br (br HQp.out HXY.out.o (fun _ h=>by cases h) (fun _ h=>by cases h) _ _) HO6 (fun _ h=>by cases h) (fun _ h=>by cases h) _ _
     ·exact br (br HQc.out HXY.out.o (fun _ h=>by cases h) (fun _ h=>by cases h) _ _) HO6 (fun _ h=>by cases h) (fun _ h=>by cases h) _ _
    |true=>
     have HRes:Hid (res=(IW b P,true)):=YJ (by rw[HRes.out];rfl)
     have HX0:Hid (b.1.length+1=(b.1++[P]).length):=YJ (by simp)
     have HCl:=fun W' h=>YJ (CJ b.1 _ W' (by omega) (HQp.out.below (w':=W') h))
     have hfl:(b.1++[P]).flatMap aH=b.1.flatMap aH++[.int .i64 P.1, .int .i64 P.2.1, .int .i64 P.2.2.1, .int .i64 P.2.2.2]:=by simp[aH]
     have Hfl:=YJ hfl
     obtain⟨i0,hi0,hz0,hz1,hz2⟩:=info_parts CW
     have Hi0:=YJ (And.intro hi0 (And.intro hz0 (And.intro hz1 hz2)))
     clear hi0 hz0 hz1 hz2 hfl
     obtain⟨x0,x1,x2,x3,xf,xz⟩:=am HXY.out.p
     go_upto_region 11 with fail
     go_cut [11] (fun s11 wx=>∃g va,s11= .pointer (some ⟨g,0,none⟩)∧BdS Y Y.heap.size g (b.1++[P]) [] va wx)
     case first=>
      have hmx:Tryz.prog.follows .mixedOrders=true:=by kernel_rfl
      have HFl:=Hfl
      clear Hfl
      refine CS 5 [2,4] (EmP Y) [0,1,2,3,4,5,6,7] 8 [] (pick [IsV (.pointer (some ⟨w.heap.size,0,none⟩)),IsV (.slice pa pn pc),OwP Y.heap.size b.1.length (b.1.flatMap aH),IsV (v4 P),BxS 261 #[.int .i64 P.1, .int .i64 P.2.1, .int .i64 P.2.2.1, .int .i64 P.2.2.2],OwP Y.heap.size (b.1.length+1) (b.1.flatMap aH++[.int .i64 P.1, .int .i64 P.2.1, .int .i64 P.2.2.1, .int .i64 P.2.2.2]),OwQ Y.heap.size (b.1.length+1) (b.1.flatMap aH++[.int .i64 P.1, .int .i64 P.2.1, .int .i64 P.2.2.1, .int .i64 P.2.2.2]),BxP Y.heap.size 216 #[.slice none 0 0, .slice none 0 0]]) hmx (by kernel_rfl) (by kernel_rfl) (EmP.refl Y) (fun w1 h1 w2 h2=>h2.1 h1) (Stabs.pick (by repeat(first|exact Stabs.nil|refine Stabs.cons (by first|exact TC _|exact KQ _ _ _|exact KR _ _ _|exact KS _ _|exact KT _ _ _) ?_))) (fun i v w1 w2 hD hw hi hE h=> ?_) ?_
      ·match i,hD,hw,hi,h with
       |0,_,_,_,h=>exact h
       |1,_,_,_,h=>exact h
       |2,hD,_,_,_=>exact absurd (by simp) hD
       |3,_,_,_,h=>exact h
       |4,hD,_,_,_=>exact absurd (by simp) hD
       |5,_,_,hi,_=>exact absurd rfl hi
       |6,_,hw,_,_=>
        rw[show Region.waitsFor .any _ 6 5=true by kernel_rfl]at hw
        cases hw
       |7,_,_,_,h=>
        obtain⟨g,e,h0,h⟩:=h
        exact⟨g,e,h0,hE.2 g _ _ (by decide) h⟩
       |n+8,_,_,_,_=>trivial
      try go_frame
      refine wdu (fun u hR K hK=> ?_) (fun r0=> ?_)
      ·clear hR
       go_simp
       exact hK _ _ (EF.of (by decide) (brf)) rfl
      try go_frame
      refine wdu (fun u hR K hK=> ?_) (fun r1=> ?_)
      ·obtain rfl:r0=_:=hr hR 0
       clear hR
       go_simp
       exact hK _ _ (EF.of (by decide) (brf)) rfl
      try go_frame
      refine wdu (fun u hR K hK=> ?_) (fun r2=> ?_)
      ·obtain rfl:r1=_:=hr hR 1
       clear hR
       go_simp
       refine((HCl u.val u.below).out).mono ?_
       rintro e w1 ⟨v1,rfl,hb1,hown1⟩
       exact hK _ _ (EF.of (by decide) hb1) (AY hown1 u.below.size)
      try go_frame
      refine wdu (fun u hR K hK=> ?_) (fun r3=> ?_)
      ·clear hR
       go_simp
       exact hK _ _ (EF.of (by decide) (brf)) rfl
      try go_frame
      refine wdu (fun u hR K hK=> ?_) (fun r4=> ?_)
      ·obtain rfl:r3=_:=hr hR 3
       clear hR
       go_simp
       exact hK _ _ (EF.of (by decide) bel) ⟨_,rfl,ai (by simp)⟩
      try go_frame
      refine wdu (fun u hR K hK=> ?_) (fun r5=> ?_)
      ·have hown2:u.val.ownsRow Y.heap.size 261 4 r2 b.1.length (b.1.flatMap aH):=hr hR 2
       obtain⟨g4,rfl,hg⟩:BxS 261 _ r4 u.val:=hr hR 4
       clear hR
       refine wp_append_lies _ _ _ 213 rfl Y.heap.size 261 i0 (v4 (0,0,0,0)) 4 32 Rk Hi0.out.1 Hi0.out.2.1 Hi0.out.2.2.1 Hi0.out.2.2.2 rfl (by decide) r2 b.1.length _ rfl hown2 ⟨g4,0,none⟩ 1 1 [.int .i64 P.1, .int .i64 P.2.1, .int .i64 P.2.2.1, .int .i64 P.2.2.2] rfl rfl (World.news_of_block (cs:=#[.int .i64 P.1, .int .i64 P.2.1, .int .i64 P.2.2.1, .int .i64 P.2.2.2]) (t:=261) (fr:=(0,0)) hg) (fun v hv=>by(simp at hv;rcases hv with rfl|rfl|rfl|rfl<;>rfl)) (by omega) (by(unfold maxLen;omega)) (by omega) u.below.size _ rfl ?_
       intro g5 c5 w5 hown5 hg5 _ hlt5
       refine hK _ _ ?_ hown5
       unfold EF
       rw[if_pos rfl]
       exact⟨fun hb=>Below.grown hb hg5 u.below.size (fun j hj=>(hown2.lt j hj).1),Js hown2 (brf) hg5⟩
      try go_frame
      refine wdu (fun u hR K hK=> ?_) (fun r6=> ?_)
      ·have hown2:u.val.ownsRow Y.heap.size 261 4 r5 (b.1.length+1) _:=hr hR 5
       obtain⟨g1,c1,rfl⟩:=aT hown2
       clear hR
       go_simp
       exact hK _ _ (EF.of (by decide) (brf)) ⟨_,rfl,hown2⟩
      try go_frame
      refine wdu (fun u hR K hK=> ?_) (fun r7=> ?_)
      ·clear hR
       go_simp
       exact hK _ _ (EF.of (by decide) bel) ⟨_,rfl,u.below.size,ai (by simp)⟩
      go_frame
      refine LP (fun Z hb' hR=> ?_)
      obtain⟨u,rfl,hown⟩:OwQ Y.heap.size (b.1.length+1) _ r6 Z:=hR 6 (by simp) (by simp)
      obtain⟨g,rfl,hg0,hg⟩:BxP Y.heap.size 216 _ r7 Z:=hR 7 (by simp) (by simp)
      clear hR
      have e0:=(bq hg 0).trans rfl
      have e1:=(bq hg 1).trans rfl
      have f0:=aC hg 0
      have f1:=aC hg 1
      have zu:=ah hg
      have hbl:u.ownBlock≠some g:=aG hown hg (by decide)
      obtain⟨g1,c1,rfl⟩:=aT hown
      simp only[oas]
      go_wp2
      refine NoPanic.normal ?_
      try go_wp2_with fail
      go_meet
      have hb2:∀v1 v2,Below Y.heap.size Y ((Z.setCell ⟨g,0,none⟩ v1).setCell ⟨g,1,none⟩ v2):=fun v1 v2=>(hb'.setCell hg0 _).setCell hg0 _
      have hown3:=aF (aF hown ⟨g,0,none⟩ (.slice g1 (b.1.length+1) c1) (Ne.symm hbl)) ⟨g,1,none⟩ (.slice none 0 0) (Ne.symm hbl)
      rw[←HFl.out,show b.1.length+1=(b.1++[P]).length by simp]at hown3
      refine⟨g,_,rfl,hb2 _ _,hg0,⟨.slice none 0 0,by have:=Tu (Tu hg 0 (.slice g1 (b.1.length+1) c1)) 1 (.slice none 0 0);simpa using this,qds _ _ _ _⟩, ?_⟩
      simpa using hown3
     case rest=>
      rename World=>Z
      obtain⟨g,va,rfl,HS⟩:=hcut
      have HS:=YJ HS
      have zYo:w.heap.size+1+1<Y.heap.size:=oz
      clear x0 x1 x2 x3 xf xz y0 y1 yz o0 o1 of oz HCl Hfl Hi0
      have hsz:Y.heap.size≤g:=HS.out.2.1
      have HCs1:=fun(k:Nat) (h:k<b.2.length)=>YJ (GW P (b.2.take k) b.2[k])
      have HCl1:=fun(k:Nat)=>YJ (Db P (b.2.take k))
      have HCz:Hid (Ob P (b.2.take 0)=[]):=YJ rfl
      have HCe:Hid (Ob P (b.2.take k)=ol P b 0 0):=YJ (by rw[GV,qaK (by have:=Hcn.out;omega)])
      have HSd:=fun(k:Nat) (h:k<b.2.length) W=>YJ (BK P b.2[k] W HPw.out (HCs.out _ (qaB h)))
      have HOk:=fun i (h:i<b.1.length)=>YJ (Dj HPs.out i h)
      have Hge:=fun i (h:i<b.1.length)=>YJ (eN (ps:=b.1) i h)
      have HPC:=fun i j (hi:i<b.1.length) (hj:j<b.1.length) W'=>YJ (CI P (fk b.1 i) (fk b.1 j) W' HPw.out (HOk i hi).out (HOk j hj).out)
      have HPX:=fun i j (hi:i<b.1.length) (hj:j<b.1.length) h=>YJ (De P (fk b.1 i) (fk b.1 j) HPw.out (HOk i hi).out (HOk j hj).out h)
      have Hno:=fun i k=>YJ (KH P b i k)
      have Hbar:=fun i k=>YJ (IZ P b i k)
      have Hyes:=fun i k=>YJ (Ja P b i k)
      have Hck:=fun i=>YJ (QU P b i)
      have Hln:=fun i k h1 h2=>YJ (EA P b i k h1 h2)
      have HcB:Hid (IW b P=(nf (b.1++[P]) (ol P b b.1.length 0),ol P b b.1.length 0)):=YJ rfl
      have HpsP:Hid (∀p∈b.1++[P],okW p):=YJ (fun p hp=>by
       rw[altl,ultg]at hp
       rcases hp with hp|rfl
       ·exact HPs.out p hp
       ·exact HPw.out)
      have HcX:=YJ (EK P b HPw.out HPs.out HCs.out)
      have HNd:=fun pv cv W h1 h2=>YJ (Dh (b.1++[P]) (ol P b b.1.length 0) pv cv W HpsP.out HcX.out (by simp) (by simp;omega) (by have:=EA P b b.1.length 0 (by omega) (by omega);omega) h1 h2)
      rw[HcB.out]at HRes
      have HAl:=fun c pv a n cc W' (hc:okX c) h=>YJ (GB c Y Y.heap.size g (b.1++[P]) [] pv a n cc W' HpsP.out hc (by simp;omega) h)
      have hPl1:(b.1++[P]).length≤101:=by simp;omega
      have hPl0:0<(b.1++[P]).length:=by simp
      clear HX0
      generalize b.1++[P]=PS at*
      obtain⟨pa',pn',pc',e,hpn,hpc,hpx⟩:=Hpv.out
      cases e
      have HPI:=YJ hpx
      have Hpn:=YJ hpn
      have hpl:pn≤100:=by omega
      have HXZ:=YJ (HXY.out.keep HS.out.1 zYo)
      have z1:Z.cell? ⟨w.heap.size,1,none⟩=some (.slice ca k cc):=(bq HXZ.out.b 1).trans rfl
      have zz:=ah HXZ.out.b
      have hwY0:=hwY.size
      have Hwr:Hid (∀wr,Below Y.heap.size Y wr→Below w.heap.size w wr):=YJ (fun wr h=>hwY.trans (h.mono hwY.size))
      have HXr:=fun wr h=>YJ (HXY.out.keep (Y:=wr) (B:=Y.heap.size) h zYo)
      clear hpx hpn HPs Hpv Hcv HQp HQc HPw HCs HcB HXZ hwY
      go_wp2
      go_loopw [61] (fun x wr=>∃i:Nat,i≤k∧x= .int .i64 i∧Hid (BdS Y Y.heap.size g PS (Ob P (b.2.take i)) va wr)) (fun x _=>k-(intOf x).toNat)
      case atStart=>exact⟨0,by omega,rfl,YJ (by rw[HCz.out];exact HS.out)⟩
      case round=>
       clear HS z1 zz
       obtain⟨i,hi,rfl,HS⟩:=hrel
       have HXi:=YJ ((HXr wr HS.out.1).out)
       by_cases hlt:i<k
       ·have hil:i<b.2.length:=by have:=Hcn.out;omega
        obtain⟨cg,co,rfl,hci⟩:=HCX.out (by omega)
        obtain⟨e0,e1,e2,e3⟩:=(hci.below (Hwr.out _ HS.out.1)) i hil
        have ze:=qaC wr _ e0
        simp only at ze
        have HSk:=fun W=>YJ ((HSd i hil W).out)
        have HT:Hid (b.2.take (i+1)=b.2.take i++[b.2[i]]):=YJ (qaI hil)
        have HCk:=YJ ((HCs1 i hil).out)
        have hcl:=(HCl1 i).out
        have hcl2:(b.2.take i).length≤900000:=by rw[qge];omega
        rw[←HT.out]at HCk
        obtain⟨x0,x1,x2,x3,xf,xz⟩:=am HXi.out.p
        have HW:=fun c W' h=>YJ (Di c Y Y.heap.size g PS (Ob P (b.2.take i)) va W' (by omega) h)
        clear hci HSd HCX HCs1 HCl1 HT HPC HPX Hno Hbar Hyes Hck Hln HNd HAl HRes
        generalize b.2[i]=c at*
        generalize Ob P (b.2.take i)=cur at*
        obtain⟨c0,c1,c2,c3⟩:=c
        simp only at e0 e1 e2 e3
        have HW:=fun W' h=>YJ ((HW (c0,c1,c2,c3) W' h).out)
        generalize cw P (c0,c1,c2,c3)=s at*
        go_wp2_with fail
        refine((HSk _).out).mono ?_
        rintro e w1 ⟨rfl,hb1⟩
        have hbx:Below wr.heap.size wr w1:=fB bel hb1
        have HS1:=YJ (HS.out.keep hbx)
        have HB1:Hid (w1.heap[wr.heap.size]? =some (.cells #[.int .i64 c0, .int .i64 c1, .int .i64 c2, .int .i64 c3] 263 (0,0))):=YJ ((hb1.block _ (by simp)).trans (ai rfl))
        clear e0 e1 e2 e3 ze x0 x1 x2 x3 xf xz HSk hb1 hbx HS HXi
        obtain⟨r0,r1,r2,r3,_,rz⟩:=am HB1.out
        by_cases hs:s≤0
        ·have HCk2:Hid (Ob P (b.2.take (i+1))=NW cur (c0,c1,c2,c3)):=YJ (by rw[HCk.out,if_pos hs])
         have HW2:=YJ ((HW w1 HS1.out).out)
         clear HCk HW HS1
         go_wp2_with fail
         refine(HW2.out).mono ?_
         rintro e w2 ⟨rfl,hS2,hK2,hs2⟩
         have HS2:=YJ hS2
         clear hS2 hK2 HW2
         go_wp2
         go_roundw
         case rel=>exact⟨i+1,by omega,by go_num,YJ (by rw[HCk2.out];exact HS2.out)⟩
         simp[intOf];try omega
        ·have HCk2:Hid (Ob P (b.2.take (i+1))=cur):=YJ (by rw[HCk.out,if_neg hs])
         clear HCk HW
         go_wp2
         go_roundw
         case rel=>exact⟨i+1,by omega,by go_num,YJ (by rw[HCk2.out];exact HS1.out)⟩
         simp[intOf];try omega
       ·obtain rfl:i=k:=by omega
        rw[HCe.out]at HS
        clear HCs1 HCl1 HCz HCe HSd
        have z0:wr.cell? ⟨w.heap.size,0,none⟩=some (.slice pa pn pc):=(bq HXi.out.b 0).trans rfl
        have zz:=ah HXi.out.b
        go_wp2
        clear z0 zz HXi
        go_loopw [75] (fun x wr=>∃i:Nat,i≤pn∧x= .int .i64 i∧Hid (BdS Y Y.heap.size g PS (ol P b i 0) va wr)) (fun x _=>pn-(intOf x).toNat)
        case atStart=>exact⟨0,by omega,rfl,HS⟩
        case round=>
         clear HS
         obtain⟨i,hi,rfl,HS⟩:=hrel
         have HXi:=YJ ((HXr wr HS.out.1).out)
         have hgs:=HS.out.lt
         by_cases hli:i<pn
         ·have g1:(i:Int)<(pn:Int):=by omega
          have hil:i<b.1.length:=by have:=Hpn.out;omega
          obtain⟨pg,po,rfl,hpi⟩:=HPI.out (by omega)
          obtain⟨e0,e1,e2,e3⟩:=(hpi.below (Hwr.out _ HS.out.1)) i hil
          rw[(Hge i hil).out]at e0 e1 e2 e3
          have ze:=qaC wr _ e0
          simp only at ze
          obtain⟨Q,HQe⟩:∃Q,Hid (fk b.1 i=Q):=⟨_,YJ rfl⟩
          rw[HQe.out]at e0 e1 e2 e3
          obtain⟨Q0,Q1,Q2,Q3⟩:=Q
          simp only at e0 e1 e2 e3
          have z0:wr.cell? ⟨w.heap.size,0,none⟩=some (.slice (some ⟨pg,po,none⟩) pn pc):=(bq HXi.out.b 0).trans rfl
          have zz:=ah HXi.out.b
          obtain⟨wo,rfl⟩:∃wo:World,wo=wr:=⟨_,rfl⟩
          have hci:pc≠i:=by omega
          go_wp2
          go_loopw [85] (fun x wr=>∃j:Nat,j≤i∧x= .int .i64 j∧Hid (BdS Y Y.heap.size g PS (ol P b i j) va wr)∧wo.heap.size<wr.heap.size∧Hid (wr.heap[wo.heap.size]? =some (.cells #[.int .i64 Q0, .int .i64 Q1, .int .i64 Q2, .int .i64 Q3] 261 (0,0)))) (fun x _=>i-(intOf x).toNat)
          case atStart=>exact⟨0,by omega,rfl,YJ (HS.out.keep bel),by simp,YJ (ai rfl)⟩
          case round=>
           clear HS e0 e1 e2 e3 ze z0 zz HXi
           obtain⟨j,hj,rfl,HS,hsz,HQb⟩:=hrel
           by_cases hlj:j<i
           ·have g2:(j:Int)<(i:Int):=by omega
            have hjl:j<b.1.length:=by omega
            have HXi:=YJ ((HXr wr HS.out.1).out)
            obtain⟨e0,e1,e2,e3⟩:=(hpi.below (Hwr.out _ HS.out.1)) j hjl
            rw[(Hge j hjl).out]at e0 e1 e2 e3
            have ze:=qaC wr _ e0
            simp only at ze
            have HPi:=fun W'=>YJ ((HPC i j hil hjl W').out)
            have HRi:=YJ (HPX i j hil hjl)
            have Hno':=YJ ((Hno i j).out)
            have Hbar':=YJ ((Hbar i j).out)
            have Hyes':=YJ ((Hyes i j).out)
            have hln:=(Hln i j (by omega) (by omega)).out
            clear HPC HPX Hno Hbar Hyes Hln Hge HNd HRes HcX
            rw[HQe.out]at HPi HRi Hno' Hbar' Hyes'
            generalize fk b.1 j=S at*
            generalize ol P b i j=A at*
            obtain⟨S0,S1,S2,S3⟩:=S
            simp only at e0 e1 e2 e3
            generalize lD P (Q0,Q1,Q2,Q3) (S0,S1,S2,S3)=R at*
            generalize okB P (Q0,Q1,Q2,Q3) (S0,S1,S2,S3)=ok at*
            have HAR:=fun pv a n cc W' hR h=>YJ ((EE PS R pv a n cc W' HpsP.out hR (by omega) h))
            generalize bG PS R=al at*
            clear HAl
            obtain⟨R0,R1,R2,R3⟩:=R
            obtain⟨q0,q1,q2,q3,_,qz⟩:=am HQb.out
            obtain⟨x0,x1,x2,x3,_,xz⟩:=am HXi.out.p
            obtain⟨wz,rfl⟩:∃wz:World,wz=wr:=⟨_,rfl⟩
            go_wp2_with fail
            refine((HPi _).out).mono ?_
            rintro e w2 ⟨rfl,hb2⟩
            have hbx:Below wz.heap.size wz w2:=fB bel hb2
            have HS2:=YJ (HS.out.keep hbx)
            have HQ2:=YJ ((hbx.block _ qz).trans HQb.out)
            have hs2:=hbx.size
            clear HPi HS HQb hbx hb2 e0 e1 e2 e3 ze q0 q1 q2 q3 qz x0 x1 x2 x3 xz HXi
            obtain⟨da,dn,dc,y0,y1,hdq,rfl⟩:=HS2.out.body
            obtain⟨vg,vc,hva,_,_⟩:=HS2.out.at hPl0
            have kz:=HS2.out.lt
            clear hdq
            obtain⟨X',HXw⟩:∃X',Hid (w2.alloc (.cells #[.int .i64 R0, .int .i64 R1, .int .i64 R2, .int .i64 R3] 263)=X'):=⟨_,YJ rfl⟩
            have hbX:Below w2.heap.size w2 X':=by rw[←HXw.out];exact bel
            have HSX:=YJ (HS2.out.keep hbX)
            have HQX:=YJ ((hbX.block _ (ah HQ2.out)).trans HQ2.out)
            have hsX:=hbX.size
            cases ok with
            |false=>
             have he:=YJ (Hno'.out (by first|trivial|rfl))
             clear Hno' Hbar' Hyes' HAR HRi
             go_wp2
             rw[HXw.out]
             go_roundw
             case rel=>exact⟨j+1,by omega,by go_num,YJ (by rw[he.out];exact HSX.out),by omega,HQX⟩
             simp[intOf];try omega
            |true=>
             have hRok:=HRi.out (by first|trivial|rfl)
             have HA2:=fun pv a n cc W' h=>YJ ((HAR pv a n cc W' hRok h).out)
             have HW:=fun W' h=>YJ (Di (R0,R1,R2,R3) Y Y.heap.size g PS A va W' (by omega) h)
             clear HAR HRi hRok Hno' HSX HQX hbX
             subst hva
             go_wp2_with fail
             refine((HA2 _ _ _ _ _ (jz (HS2.out.keep bel).2.2.2)).out).mono ?_
             rintro e w3 ⟨rfl,hb3⟩
             have hb3':Below w2.heap.size w2 w3:=fB bel hb3
             have HS3:=YJ (HS2.out.keep hb3')
             have HQ3:=YJ ((hb3'.block _ (ah HQ2.out)).trans HQ2.out)
             have HR3:Hid (w3.heap[w2.heap.size]? =some (.cells #[.int .i64 R0, .int .i64 R1, .int .i64 R2, .int .i64 R3] 263 (0,0))):=YJ ((hb3.block _ (by simp)).trans (ai rfl))
             have hs3:=hb3'.size
             clear HA2 HS2 HQ2 hb3 hb3' y0 y1 kz HXw
             obtain⟨r0,r1,r2,r3,_,rz⟩:=am HR3.out
             cases al with
             |false=>
              have he:=YJ (Hbar'.out (by first|trivial|rfl))
              clear Hbar' Hyes' HW
              go_wp2
              go_roundw
              case rel=>exact⟨j+1,by omega,by go_num,YJ (by rw[he.out];exact HS3.out),by omega,HQ3⟩
              simp[intOf];try omega
             |true=>
              have he:=YJ (Hyes'.out (by first|trivial|rfl) (by first|trivial|rfl))
              have HW3:=YJ ((HW w3 HS3.out).out)
              clear Hbar' Hyes' HW HS3
              go_wp2_with fail
              refine(HW3.out).mono ?_
              rintro e w4 ⟨rfl,hS4,hK4,hs4⟩
              have HS4:=YJ hS4
              have HK4:=YJ hK4
              clear hS4 hK4 HW3
              go_wp2
              go_roundw
              case rel=>exact⟨j+1,by omega,by go_num,YJ (by rw[he.out];exact HS4.out),by omega,YJ (HK4.out _ _ _ (by omega) (by decide) HQ3.out)⟩
              simp[intOf];try omega
           ·obtain rfl:j=i:=by omega
            have he:=YJ ((Hck j).out)
            go_wp2
            go_roundw
            case rel=>exact⟨j+1,by omega,by go_num,YJ (by rw[←he.out];exact HS.out)⟩
            simp[intOf];try omega
         ·have hie:i=b.1.length:=by have:=Hpn.out;omega
          have HS:=YJ (show BdS Y Y.heap.size g PS (ol P b b.1.length 0) va wr by have:=HS.out;rwa [hie]at this)
          clear hie
          obtain⟨da,dn,dc,z0,z1,hdq,rfl⟩:=HS.out.body
          obtain⟨vg,vc,hva,_,_⟩:=HS.out.at hPl0
          have HN:=YJ ((HNd _ _ wr (jz HS.out.2.2.2) hdq).out)
          have hyr:=HS.out.1.size
          have HFs:=YJ (HS.out.fsh z1)
          have HXe:=YJ ((HXr wr HS.out.1).out)
          have hww:=Hwr.out _ HS.out.1
          have zz:=HS.out.lt
          subst hva
          clear HPC HPX Hno Hbar Hyes Hck Hln HNd Hge hdq HS HAl HXi HPI HOk HcX HpsP
          generalize(ol P b b.1.length 0).length=cl at*
          go_wp2_with fail
          refine(HN.out).mono ?_
          rintro e w5 ⟨pv',cv',rfl,hb5,hq1,hq2,hf1,hf2⟩
          have HF2:Hid (Fsh w.heap.size cv'):=YJ (by rw[hf2];exact HFs.out.mono hwY0)
          have HF1:=YJ (hf1.mono (qaD hwY0 hyr))
          clear hf1 hf2 HFs
          have HO5:=YJ ((hb5.block _ (ah HXe.out.o)).trans HXe.out.o)
          have hw5:=fB hww hb5
          have HQ1:=YJ hq1
          have HQ2:=YJ hq2
          obtain⟨fa,fn,fc,rfl, -⟩:=hq1
          obtain⟨ga,gn,gc,rfl, -⟩:=hq2
          clear HN hb5 HXe hww z0 z1 zz
          have o0:w5.cell? ⟨w.heap.size+1+1,0,none⟩=some (.slice none 0 0):=(bq HO5.out 0).trans rfl
          have o1:w5.cell? ⟨w.heap.size+1+1,1,none⟩=some (.slice none 0 0):=(bq HO5.out 1).trans rfl
          have of:=aC HO5.out
          have oz:=ah HO5.out
          go_wp2
          have HO6:(w5.setCell ⟨w.heap.size+1+1,0,none⟩ (.slice fa fn fc)).heap[w.heap.size+1+1]? =some (.cells #[.slice fa fn fc, .slice none 0 0] 216 (0,0)):=by have:=Tu HO5.out 0 (.slice fa fn fc);simpa using this
          refine bodyPost_ret (v:= .tuple #[.agg #[.slice fa fn fc, .slice ga gn gc], .bool true]) (by simp[results,Tryz.results181,go_sem,o0,o1,oz]) rfl ?_
          rw[HRes.out]
          refine⟨_,_,rfl, ?_, ?_, ?_, .inr HF1.out, .inr HF2.out⟩
          ·iterate 2 (refine qga ?_ (by first|exact qaA _|exact Nat.le_succ _|(simp;done)|(simp;omega)) _)
           exact hw5
          ·exact br (br HQ1.out HO5.out (fun _ h=>by cases h) (fun _ h=>by cases h) _ _) HO6 (fun _ h=>by cases h) (fun _ h=>by cases h) _ _
          ·exact br (br HQ2.out HO5.out (fun _ h=>by cases h) (fun _ h=>by cases h) _ _) HO6 (fun _ h=>by cases h) (fun _ h=>by cases h) _ _
theorem Ic (p:Q4) (ps:List Q4) (i:Nat):2*(Cu p ps i).length≤i*i:=by
 induction i with
 |zero=>simp[Cu]
 |succ i ih=>
  rw[Cw,qaE]
  have h1:=BJ p ps i i
  have h2:(i+1)*(i+1)=i*i+2*i+1:=by rw[Nat.add_mul,Nat.mul_add];omega
  omega
theorem Id (p:Q4) (b:Bod) (h:b.1.length≤100):(ol p b b.1.length 0).length≤b.2.length+5000:=by
 unfold ol
 have h1:=Om (Cu p b.1 b.1.length++pK p b.1 b.1.length 0) (Ob p b.2)
 have h2:=Db p b.2
 have h3:=Ic p b.1 b.1.length
 have h4:=BJ p b.1 b.1.length 0
 have h5:=Nat.mul_le_mul h h
 rw[qaE]at h1
 omega
def okBd (m:Nat) (q:Bod):Prop:=q.1.length≤16+m∧q.2.length≤600+5000*m∧(∀p∈q.1,okW p)∧∀c∈q.2,okX c
theorem okBd.mono {m n:Nat} {q:Bod} (h:okBd m q) (hm:m≤n):okBd n q:=⟨by have:=h.1;omega,by have:=h.2.1;omega,h.2.2⟩
theorem EL {m:Nat} {q:Bod} {x:Q4} (h:okBd m q) (hm:m≤84) (hx:okW x):okBd (m+1) (qm q x).1:=by
 unfold qm
 split
 ·obtain⟨h1,h2,h3,h4⟩:=h
  have hr:=EB x hx
  refine⟨?_, ?_,fun p hp=> ?_, ?_⟩
  ·have:(nf (q.1++[eL x]) (ol (eL x) q q.1.length 0)).length≤(q.1++[eL x]).length:=qdz _ _
   rw[qaE,List.length_singleton]at this
   unfold IW
   simp only
   omega
  ·have h5:=Id (eL x) q (qaD h1 (by omega))
   have e:600+5000*(m+1)=600+5000*m+5000:=by rw[Nat.mul_add,Nat.mul_one,Nat.add_assoc]
   show(ol (eL x) q q.1.length 0).length≤_
   rw[e]
   exact qaD h5 (Nat.add_le_add_right h2 5000)
  ·have hp:=(alsm.1 hp).1
   rw[altl,ultg]at hp
   rcases hp with hp|rfl
   ·exact h3 p hp
   ·exact hr
  ·intro c hc
   exact EK (eL x) q hr h3 h4 c hc
 ·exact okBd.mono h (Nat.le_succ m)
theorem Ie (w:Q3) (l:List Q4):l.foldl (zn w) none=none:=by
 induction l with
 |nil=>rfl
 |cons x l ih=>
  rw[List.foldl_cons,show zn w none x=none by unfold zn BU;split<;>rfl]
  exact ih
theorem DJ (x:Q4) (w:Q3) (l:List Q4):l.foldl (BW x w) none=none:=by
 induction l with
 |nil=>rfl
 |cons y l ih=>
  rw[List.foldl_cons,show BW x w none y=none by unfold BW BU;split<;>rfl]
  exact ih
def Jt (w:Q3) (g:List Q4) (q:Option Bod) (x:Q4):Option Bod:=g.foldl (BW x w) q
theorem DK (w:Q3) (g l:List Q4):l.foldl (Jt w g) none=none:=by
 induction l with
 |nil=>rfl
 |cons x l ih=>
  rw[List.foldl_cons,show Jt w g none x=none from DJ x w g]
  exact ih
theorem Dk {α β:Type} (f:Option β→α→Option β) (hn:∀l:List α,l.foldl f none=none) (s:Option β) (l:List α) (i:Nat) (h:(l.take i).foldl f s=none):l.foldl f s=none:=by
 rw[←List.take_append_drop i l,List.foldl_append,h]
 exact hn _
theorem TJ {α β:Type} (f:β→α→β) (s:β) (l:List α) (i:Nat) (h:i<l.length):(l.take (i+1)).foldl f s=f ((l.take i).foldl f s) l[i]:=by
 rw[qaI h,List.foldl_append];rfl
theorem FM (w:Q3) (l:List Q4) (i:Nat) (h:i<l.length):cr (l.take (i+1)) w=cr (l.take i) w++if 0<bj (nrm l[i]) w then [l[i]]else []:=by
 rw[qaI h]
 unfold cr
 rw[qgo]
 congr 1
 by_cases hd:0<bj (nrm l[i]) w<;>simp[hd]
theorem EM (w:Q3) (l:List Q4) (i:Nat) (h:i<l.length):bc (l.take (i+1)) w=bc (l.take i) w++if bj (nrm l[i]) w<0 then [l[i]]else []:=by
 rw[qaI h]
 unfold bc
 rw[qgo]
 congr 1
 by_cases hd:bj (nrm l[i]) w<0<;>simp[hd]
theorem FN (w:Q3) (l:List Q4):(cr l w).length+(bc l w).length≤l.length:=by
 unfold cr bc
 induction l with
 |nil=>simp
 |cons x l ih=>
  simp only[qgg,qdn]
  split
  ·rename_i h
   rw[if_neg (by simp at h ⊢;omega)]
   simp only[qdn]
   omega
  ·split
   ·simp only[qdn];omega
   ·omega
theorem MU:∀f≤16,∀g≤16,f+g≤16→f*g≤64:=by decide
theorem TX (p q:Bod) (w:Q3):eS p q w=if CQ p.2 q.2 w then false else((cr p.1 w).foldl (Jt w (bc p.1 w)) (p.1.foldl (zn w) (some q))).isSome:=rfl
def Ap (v u:Value):Prop:=∀ad n c,v= .slice (some ad) n c→0<n→u.ownBlock≠some ad.block
theorem Q4s.lt {w:World} {xs:List Q4} {ad:Addr} {n c:Nat} (h:Q4s w (.slice (some ad) n c) xs) (hn:0<n):ad.block<w.heap.size:=by
 obtain⟨a,m,d,e,hl,hc,hx⟩:=h
 cases e
 obtain⟨b,off,e,hi⟩:=hx hn
 cases e
 have h0:=(hi 0 (by omega)).1
 exact qaC w _ h0
theorem Q4s.grown {w w':World} {v u:Value} {xs:List Q4} (h:Q4s w v xs) (hg:w.grownBy w' u.ownBlock) (ha:Ap v u):Q4s w' v xs:=by
 obtain⟨a,n,c,rfl,hl,hc,hx⟩:=id h
 refine⟨a,n,c,rfl,hl,hc,fun h0=> ?_⟩
 obtain⟨b,off,rfl,hi⟩:=hx h0
 have hb:b<w.heap.size:=h.lt h0
 refine⟨b,off,rfl,fun i hi'=> ?_⟩
 have hk:w'.heap[b]? =w.heap[b]? :=hg.block b hb (fun e=>ha _ _ _ rfl h0 e.symm)
 obtain⟨e0,e1,e2,e3⟩:=hi i hi'
 have hcell:∀j,w'.cell? ⟨b,j,none⟩=w.cell? ⟨b,j,none⟩:=fun j=>World.cell?_of_block (w:=w) hk
 exact⟨(hcell _).trans e0,(hcell _).trans e1,(hcell _).trans e2,(hcell _).trans e3⟩
theorem Ap.grow {w:World} {v u u':Value} {xs:List Q4} (ha:Ap v u) (h:Q4s w v xs) (hu:u'.ownBlock=u.ownBlock∨∀g,u'.ownBlock=some g→w.heap.size≤g):Ap v u':=by
 intro ad n c e hn
 subst e
 rcases hu with hu|hu
 ·rw[hu];exact ha _ _ _ rfl hn
 ·intro he
  have h1:=hu _ he
  have h2:=h.lt hn
  omega
theorem Ap.fresh {w:World} {v u:Value} {base:Nat} {e:TypeId} {size n:Nat} {xs:List Value} (h:w.ownsRow base e size u n xs) (hf:Fsh w.heap.size v):Ap v u:=by
 intro ad m c ev _ he
 have h1:=hf _ _ _ ev
 rcases h.2 with⟨rfl,_⟩|⟨g,cap,cur,rfl,_,hh,_⟩
 ·simp[Value.ownBlock]at he
 ·have:=ah hh
  simp[Value.ownBlock]at he
  omega
theorem Ap.nil (v:Value):Ap v (.slice none 0 0):=fun _ _ _ _ _=>by simp[Value.ownBlock]
end
section
open Go.RowKit Go.Shelf
theorem Ap.grow1 {w:World} {v u u':Value} {xs:List Q4} (ha:Ap v u) (h:Q4s w v xs) (hu:u'.ownBlock=u.ownBlock∨u'.ownBlock=some w.heap.size):Ap v u':=
 ha.grow h (hu.imp id fun e g hg=>by rw[e]at hg;cases hg;exact qaA _)
theorem Ci {w:World} {base:Nat} {e:TypeId} {size n:Nat} {v:Value} {xs:List Value} (h:w.ownsRow base e size v n xs) {g:Nat} (hg:v.ownBlock=some g):g<w.heap.size:=by
 rcases h.2 with⟨rfl,_⟩|⟨g',cap,cur,rfl,_,hh,_⟩
 ·simp[Value.ownBlock]at hg
 ·simp[Value.ownBlock]at hg
  subst hg
  exact ah hh
structure SwS (N:Nat) (W:World) (pv cv:Value) (d:Q3) (fs bs:List Q4) (q:Bod) (fv bv qv rv:Value) (w:World):Prop where
 hW:Below N W w
 hs:N+3≤w.heap.size
 b:w.heap[N]? =some (.cells #[pv,cv] 216 (0,0))
 x:w.heap[N+1]? =some (.cells #[qv,rv] 216 (0,0))
 d:w.heap[N+1+1]? =some (.cells #[.int .i64 d.1, .int .i64 d.2.1, .int .i64 d.2.2] 37 (0,0))
 hq:Q4s w qv q.1
 hr:Q4s w rv q.2
 f:w.ownsRow (N+3) 261 4 fv fs.length (fs.flatMap aH)
 g:w.ownsRow (N+3) 261 4 bv bs.length (bs.flatMap aH)
 fg:∀i,fv.ownBlock=some i→bv.ownBlock≠some i
 aqf:Ap qv fv
 aqg:Ap qv bv
 arf:Ap rv fv
 arg:Ap rv bv
section
variable {N:Nat} {W:World} {pv cv:Value} {d:Q3} {fs bs:List Q4} {q:Bod} {fv bv qv rv:Value} {w w':World}
theorem SwS.keep (h:SwS N W pv cv d fs bs q fv bv qv rv w) (hb:Below w.heap.size w w'):SwS N W pv cv d fs bs q fv bv qv rv w' where
 hW:=h.hW.trans (hb.mono (by have:=h.hs;omega))
 hs:=qaD h.hs hb.size
 b:=(hb.block _ (ah h.b)).trans h.b
 x:=(hb.block _ (ah h.x)).trans h.x
 d:=(hb.block _ (ah h.d)).trans h.d
 hq:=h.hq.below hb
 hr:=h.hr.below hb
 f:=au h.f hb
 g:=au h.g hb
 fg:=h.fg
 aqf:=h.aqf
 aqg:=h.aqg
 arf:=h.arf
 arg:=h.arg
theorem SwS.front (h:SwS N W pv cv d fs bs q fv bv qv rv w) (x:Q4) {fv':Value} (hf:w'.ownsRow (N+3) 261 4 fv' (fs.length+1) (fs.flatMap aH++aH x)) (hg:w.grownBy w' fv.ownBlock) (hu:fv'.ownBlock=fv.ownBlock∨fv'.ownBlock=some w.heap.size):
  SwS N W pv cv d (fs++[x]) bs q fv' bv qv rv w' where
 hW:=h.hW.grown hg (by have:=h.hs;omega) (fun k hk=>by have:=(h.f.lt k hk).1;omega)
 hs:=qaD h.hs hg.size
 b:=(hg.block _ (ah h.b) (fun e=>aG h.f h.b (by decide) e.symm)).trans h.b
 x:=(hg.block _ (ah h.x) (fun e=>aG h.f h.x (by decide) e.symm)).trans h.x
 d:=(hg.block _ (ah h.d) (fun e=>aG h.f h.d (by decide) e.symm)).trans h.d
 hq:=h.hq.grown hg h.aqf
 hr:=h.hr.grown hg h.arf
 f:=by rw[qaE,qgj];simpa using hf
 g:=h.g.kept hg (by
  cases hb:bv.ownBlock with
  |none=>exact .inl rfl
  |some i=>exact .inr (fun e=>h.fg i e.symm hb))
 fg:=fun i hi hb=>by
  rcases hu with hu|hu
  ·exact h.fg i (hu▸hi) hb
  ·rw[hu]at hi
   cases hi
   exact absurd (Ci h.g hb) (Nat.lt_irrefl _)
 aqf:=h.aqf.grow1 h.hq hu
 aqg:=h.aqg
 arf:=h.arf.grow1 h.hr hu
 arg:=h.arg
theorem SwS.behind (h:SwS N W pv cv d fs bs q fv bv qv rv w) (x:Q4) {bv':Value} (hf:w'.ownsRow (N+3) 261 4 bv' (bs.length+1) (bs.flatMap aH++aH x)) (hg:w.grownBy w' bv.ownBlock) (hu:bv'.ownBlock=bv.ownBlock∨bv'.ownBlock=some w.heap.size):
  SwS N W pv cv d fs (bs++[x]) q fv bv' qv rv w' where
 hW:=h.hW.grown hg (by have:=h.hs;omega) (fun k hk=>by have:=(h.g.lt k hk).1;omega)
 hs:=qaD h.hs hg.size
 b:=(hg.block _ (ah h.b) (fun e=>aG h.g h.b (by decide) e.symm)).trans h.b
 x:=(hg.block _ (ah h.x) (fun e=>aG h.g h.x (by decide) e.symm)).trans h.x
 d:=(hg.block _ (ah h.d) (fun e=>aG h.g h.d (by decide) e.symm)).trans h.d
 hq:=h.hq.grown hg h.aqg
 hr:=h.hr.grown hg h.arg
 g:=by rw[qaE,qgj];simpa using hf
 f:=h.f.kept hg (by
  cases hb:fv.ownBlock with
  |none=>exact .inl rfl
  |some i=>exact .inr (fun e=>h.fg i hb e.symm))
 fg:=fun i hi hb=>by
  rcases hu with hu|hu
  ·exact h.fg i hi (hu▸hb)
  ·rw[hu]at hb
   cases hb
   exact absurd (Ci h.f hi) (Nat.lt_irrefl _)
 aqg:=h.aqg.grow1 h.hq hu
 aqf:=h.aqf
 arg:=h.arg.grow1 h.hr hu
 arf:=h.arf
theorem SwS.cut (h:SwS N W pv cv d fs bs q fv bv qv rv w) (q':Bod) {qv' rv':Value} (hb:Below w.heap.size w w') (h1:Q4s w' qv' q'.1) (h2:Q4s w' rv' q'.2) (f1:qv'=qv∨Fsh w.heap.size qv') (f2:rv'=rv∨Fsh w.heap.size rv'):
  SwS N W pv cv d fs bs q' fv bv qv' rv' ((w'.setCell ⟨N+1,0,none⟩ qv').setCell ⟨N+1,1,none⟩ rv'):=by
 have k:=h.keep hb
 have nq:∀{u:Value} {xs:List Q4} {z:World},Q4s z u xs→∀i,u≠ .int .i64 i:=fun h i e=>by
  obtain⟨a,n,c,e2,_⟩:=h
  rw[e2]at e;cases e
 have x1:(w'.setCell ⟨N+1,0,none⟩ qv').heap[N+1]? =some (.cells #[qv',rv] 216 (0,0)):=by have:=Tu k.x 0 qv';simpa using this
 have x2:((w'.setCell ⟨N+1,0,none⟩ qv').setCell ⟨N+1,1,none⟩ rv').heap[N+1]? =some (.cells #[qv',rv'] 216 (0,0)):=by have:=Tu x1 1 rv';simpa using this
 have far:∀g,g≠N+1→((w'.setCell ⟨N+1,0,none⟩ qv').setCell ⟨N+1,1,none⟩ rv').heap[g]? =w'.heap[g]? :=fun g hg=>by
  rw[qaH _ _ _ _ hg,qaH _ _ _ _ hg]
 have ap:∀{v v' u:Value} {m:Nat} {xs:List Value},w.ownsRow (N+3) 261 4 u m xs→Ap v u→(v'=v∨Fsh w.heap.size v')→Ap v' u:=fun ho ha hv=>by
  rcases hv with rfl|hv
  ·exact ha
  ·exact Ap.fresh ho hv
 exact{
  hW:=(k.hW.setCell (by simp) _).setCell (by simp) _
  hs:=by have:=k.hs;simpa [World.setCell]using this
  b:=(far _ (by omega)).trans k.b
  x:=x2
  d:=(far _ (by omega)).trans k.d
  hq:=br (br h1 k.x (nq k.hq) (nq k.hr) _ _) x1 (nq h1) (nq k.hr) _ _
  hr:=br (br h2 k.x (nq k.hq) (nq k.hr) _ _) x1 (nq h1) (nq k.hr) _ _
  f:=aF (aF k.f _ _ (fun e=>aG k.f k.x (by decide) e.symm)) _ _ (fun e=>aG k.f k.x (by decide) e.symm)
  g:=aF (aF k.g _ _ (fun e=>aG k.g k.x (by decide) e.symm)) _ _ (fun e=>aG k.g k.x (by decide) e.symm)
  fg:=k.fg
  aqf:=ap h.f h.aqf f1
  aqg:=ap h.g h.aqg f1
  arf:=ap h.f h.arf f2
  arg:=ap h.g h.arg f2}
end
end
section
open Go.RowKit
def Lp2 (fs bs:List Q4) (d:Q3) (q1:Bod) (i:Nat) (qi:Bod):Prop:=(fs.take i).foldl (Jt d bs) (some q1)=some qi∧okBd (16+i*bs.length) qi
def Lp3 (x:Q4) (bs:List Q4) (d:Q3) (q2:Bod) (m k:Nat) (qk:Bod):Prop:=(bs.take k).foldl (BW x d) (some q2)=some qk∧okBd (m+k) qk
theorem Lp2.next {fs bs:List Q4} {d:Q3} {q1 q2 q3:Bod} {i:Nat} (hi:i<fs.length) (h:Lp2 fs bs d q1 i q2) (h3:Lp3 fs[i] bs d q2 (16+i*bs.length) bs.length q3):Lp2 fs bs d q1 (i+1) q3:=by
 refine⟨?_,h3.2.mono (by rw[Nat.add_mul,Nat.one_mul,Nat.add_assoc];exact qaA _)⟩
 rw[TJ _ _ _ _ hi,h.1]
 have:=h3.1
 rw[qaK (qaA _)]at this
 exact this
theorem Lp3.skip {x:Q4} {bs:List Q4} {d:Q3} {q2 qk:Bod} {m k:Nat} (hk:k<bs.length) (h:Lp3 x bs d q2 m k qk) (hz:nrm (kv x bs[k] d)=(0,0,0)):Lp3 x bs d q2 m (k+1) qk:=by
 refine⟨?_,h.2.mono (Nat.le_succ _)⟩
 rw[TJ _ _ _ _ hk,h.1];unfold BW;rw[if_pos hz]
theorem Lp3.cut {x:Q4} {bs:List Q4} {d:Q3} {q2 qk:Bod} {m k:Nat} (hk:k<bs.length) (h:Lp3 x bs d q2 m k qk) (hm:m+k≤84) (hx:okW (kv x bs[k] d)) (hz:¬nrm (kv x bs[k] d)=(0,0,0)) (hc:(qm qk (kv x bs[k] d)).2=true):
  Lp3 x bs d q2 m (k+1) (qm qk (kv x bs[k] d)).1:=by
 refine⟨?_,EL h.2 hm hx⟩
 rw[TJ _ _ _ _ hk,h.1];unfold BW BU;rw[if_neg hz];simp[hc]
theorem Lp3.out {x:Q4} {bs:List Q4} {d:Q3} {q2 qk:Bod} {m k:Nat} (hk:k<bs.length) (h:Lp3 x bs d q2 m k qk) (hz:¬nrm (kv x bs[k] d)=(0,0,0)) (hc:(qm qk (kv x bs[k] d)).2=false):
  (bs.take (k+1)).foldl (BW x d) (some q2)=none:=by
 rw[TJ _ _ _ _ hk,h.1];unfold BW BU;rw[if_neg hz];simp[hc]
theorem Ea {p q q1 q2:Bod} {d:Q3} (hf:CQ p.2 q.2 d=false) (h1:p.1.foldl (zn d) (some q)=some q1) {i:Nat} (hi:i<(cr p.1 d).length) (h:Lp2 (cr p.1 d) (bc p.1 d) d q1 i q2) (k:Nat)
  (hn:((bc p.1 d).take k).foldl (BW (cr p.1 d)[i] d) (some q2)=none):eS p q d=false:=by
 rw[TX,hf,h1,Dk (Jt d (bc p.1 d)) (DK d _) _ _ (i+1)]
 ·rfl
 ·rw[TJ _ _ _ _ hi,h.1]
  exact Dk (BW _ d) (DJ _ d) _ _ k hn
theorem FO {p q q1 q2:Bod} {d:Q3} (hf:CQ p.2 q.2 d=false) (h1:p.1.foldl (zn d) (some q)=some q1) (h:Lp2 (cr p.1 d) (bc p.1 d) d q1 (cr p.1 d).length q2):eS p q d=true:=by
 rw[TX,hf,h1]
 have:=h.1
 rw[qaK (qaA _)]at this
 rw[this];rfl
theorem Ju {ps:List Q4} {d:Q3} (h:∀x∈ps,bI x):∀x∈cr ps d,bI x:=fun x hx=>h x (alsm.1 hx).1
theorem If {ps:List Q4} {d:Q3} (h:∀x∈ps,bI x):∀x∈bc ps d,bI x:=fun x hx=>h x (alsm.1 hx).1
theorem LQ {ps:List Q4} {d:Q3} (h:ps.length≤16) {i k:Nat} (hi:i<(cr ps d).length) (hk:k<(bc ps d).length):16+i*(bc ps d).length+k≤84:=by
 have h1:=FN d ps
 have h2:=MU _ (by omega:(cr ps d).length≤16) _ (by omega:(bc ps d).length≤16) (by omega)
 have h3:(i+1)*(bc ps d).length≤(cr ps d).length*(bc ps d).length:=Nat.mul_le_mul (by omega) (qaA _)
 rw[Nat.add_mul,Nat.one_mul]at h3
 omega
theorem EN {w:World} {base:Nat} {a:Option Addr} {n c:Nat} {cs:List Q4} (h:w.ownsRow base 261 4 (.slice a n c) cs.length (cs.flatMap aH)) (h0:0<cs.length):∃g,a=some ⟨g,0,none⟩∧Q4At w g 0 cs:=by
 obtain⟨g,cap,e,_,_⟩:=fF h h0
 cases e
 obtain⟨a',m,d,e,hl,_,hx⟩:=jz h
 cases e
 obtain⟨b,off,e,hi⟩:=hx h0
 cases e
 exact⟨g,rfl,hi⟩
end
section
open Go.RowKit Go.Shelf Go.Lib
set_option maxRecDepth 100000
attribute [local go_sem] Ext.cell Ext.frozen
theorem Jv (i:Nat) (x:Q4) (h:okX x): -500000000000000≤axA i x∧axA i x≤500000000000000:=by
 unfold okX at h
 unfold axA
 split
 ·omega
 ·split<;>omega
theorem FP (i:Nat) (x:Q4) (h:okX x): -500000000000000≤flA i x∧flA i x≤500000000000000:=by
 have h1:=Jv i x h
 have h2:1≤x.2.2.2:=h.2.2.2.1
 unfold flA
 constructor
 ·have: -500000000000000≤axA i x / x.2.2.2:=by
   rw[Int.le_ediv_iff_mul_le (by omega)]
   have:=Int.mul_le_mul_of_nonneg_left h2 (by omega:(0:Int)≤500000000000000)
   omega
  exact this
 ·have:axA i x / x.2.2.2<500000000000001:=by
   rw[Int.ediv_lt_iff_lt_mul (by omega)]
   have:=Int.mul_le_mul_of_nonneg_left h2 (by omega:(0:Int)≤500000000000001)
   omega
  omega
theorem Jw (i:Nat) (x:Q4) (h:okX x): -500000000000000≤clA i x∧clA i x≤500000000000001:=by
 have:=FP i x h
 unfold clA
 split<;>omega
theorem KU (i:Nat) (l:List Q4) (h:∀x∈l,okX x): -500000000000000≤eT i l∧eT i l≤500000000000000:=by
 have key:∀(l:List Q4) (m:Int),(∀x∈l,okX x)→ -500000000000000≤m∧m≤500000000000000→ -500000000000000≤l.foldl (fun m y=>min m (flA i y)) m∧l.foldl (fun m y=>min m (flA i y)) m≤500000000000000:=by
  intro l
  induction l with
  |nil=>intro m _ hm;exact hm
  |cons y l ih=>
   intro m hl hm
   have:=FP i y (hl y (by simp))
   exact ih _ (fun x hx=>hl x (by simp[hx])) (by dsimp only;omega)
 cases l with
 |nil=>exact⟨by simp[eT],by simp[eT]⟩
 |cons y l=>exact key l _ (fun x hx=>h x (by simp[hx])) (FP i y (h y (by simp)))
theorem Jy (i:Nat) (l:List Q4) (h:∀x∈l,okX x): -500000000000001≤bt i l∧bt i l≤500000000000001:=by
 have key:∀(l:List Q4) (m:Int),(∀x∈l,okX x)→ -500000000000001≤m∧m≤500000000000001→ -500000000000001≤l.foldl (fun m y=>max m (clA i y)) m∧l.foldl (fun m y=>max m (clA i y)) m≤500000000000001:=by
  intro l
  induction l with
  |nil=>intro m _ hm;exact hm
  |cons y l ih=>
   intro m hl hm
   have:=Jw i y (hl y (by simp))
   exact ih _ (fun x hx=>hl x (by simp[hx])) (by dsimp only;omega)
 cases l with
 |nil=>exact⟨by simp[bt],by simp[bt]⟩
 |cons y l=>exact key l _ (fun x hx=>h x (by simp[hx])) (by have:=Jw i y (h y (by simp));omega)
theorem MV (a d:Int) (hd:1≤d):(a.tmod d<0→a.tdiv d-1=a / d)∧(¬a.tmod d<0→a.tdiv d=a / d)∧(a.tmod d=0↔a % d=0):=by
 have h3:=Int.emod_nonneg a (by omega:d≠0)
 have h4:=Int.emod_lt_of_pos a (by omega:0<d)
 have hs:d.sign=1:=Int.sign_eq_one_of_pos (by omega)
 have hn:(d.natAbs:Int)=d:=by omega
 have hdv:d ∣ a↔a % d=0:=Int.dvd_iff_emod_eq_zero
 rw[Int.tdiv_eq_ediv,Int.tmod_eq_emod,hs]
 by_cases hc:0≤a∨d ∣ a
 ·rw[if_pos hc,if_pos hc]
  exact⟨fun h=>by omega,fun _=>by omega,by omega⟩
 ·rw[if_neg hc,if_neg hc]
  have:¬a % d=0:=fun h=>hc (.inr (hdv.2 h))
  exact⟨fun h=>by omega,fun h=>by omega,by omega⟩
theorem LR {x0 x1 x2 x3:Int} {i:Nat} (h:i<3):(#[.int .i64 x0, .int .i64 x1, .int .i64 x2, .int .i64 x3]:Array Value)[i]? =some (.int .i64 (axA i (x0,x1,x2,x3))):=by
 rcases(by omega:i=0∨i=1∨i=2)with rfl|rfl|rfl<;>rfl
theorem Eb (i:Nat) (l:List Q4) (x:Q4) (h:l=[]):eT i (l++[x])=flA i x∧bt i (l++[x])=clA i x:=by subst h;exact⟨rfl,rfl⟩
theorem EO (cs:List Q4) (i:Nat) (hi3:i<3) (pv cv:Value) (w:World) (hcs:∀c∈cs,okX c) (hl:cs.length≤1000000) (hpv:∃a n c,pv= .slice a n c) (hcv:Q4s w cv cs):
  Calls Tryz.prog 228 #[.agg #[pv,cv], .int .i64 i] w (Ret w (.tuple #[.int .i64 (eT i cs), .int .i64 (bt i cs)])):=by
 obtain⟨pa,pn,pc,rfl⟩:=hpv
 obtain⟨V,HV⟩:∃V,Hid (w.alloc (.cells #[.slice pa pn pc,cv] 216)=V):=⟨_,YJ rfl⟩
 have hV:Below w.heap.size w V:=by rw[←HV.out];exact bel
 obtain⟨a,n,c,rfl,hn,_,hx⟩:=hcv
 have HX:Hid (0<n→∃b off,a=some ⟨b,off,none⟩∧Q4At V b off cs):=YJ (fun h=>by obtain⟨b,off,e,h2⟩:=hx h;exact⟨b,off,e,h2.below hV⟩)
 have HLo:Hid (∀k, -500000000000000≤eT i (cs.take k)∧eT i (cs.take k)≤500000000000000):=YJ (fun k=>KU i _ (fun x hx=>hcs x (List.mem_of_mem_take hx)))
 have HHi:Hid (∀k, -500000000000001≤bt i (cs.take k)∧bt i (cs.take k)≤500000000000001):=YJ (fun k=>Jy i _ (fun x hx=>hcs x (List.mem_of_mem_take hx)))
 have HLs:=fun k (h:k<cs.length)=>YJ (show cs.take (k+1)=cs.take k++[cs[k]]from qaI h)
 have HOk:=fun k (h:k<cs.length)=>YJ (hcs _ (qaB h))
 have Hn:=YJ hn
 have HE:Hid (cs.take n=cs):=YJ (qaK (by omega))
 have H0:Hid (eT i (cs.take 0)=0∧bt i (cs.take 0)=0):=YJ ⟨rfl,rfl⟩
 clear hx hcs hn
 go_enter Tryz.func228,Tryz.ntmps228
 go_wp2
 rw[HV.out]
 go_loopw [4,5,14] (fun s4 s5 s14 wr=>∃k:Nat,k≤n∧s14= .int .i64 k∧∃lo hi,s4= .int .i64 lo∧s5= .int .i64 hi∧Hid (lo=eT i (cs.take k))∧Hid (hi=bt i (cs.take k))∧Below V.heap.size V wr) (fun _ _ s14 _=>n-(intOf s14).toNat)
 case atStart=>exact⟨0,by omega,rfl,0,0,rfl,rfl,YJ H0.out.1.symm,YJ H0.out.2.symm,brf⟩
 case round=>
  obtain⟨k,hk,rfl,lo,hi,rfl,rfl,Hlo,Hhi,hb⟩:=hrel
  by_cases hlt:k<n
  ·have hkl:k<cs.length:=by have:=Hn.out;omega
   obtain⟨b,off,rfl,hi4⟩:=HX.out (by omega)
   obtain⟨e0,e1,e2,e3⟩:=(hi4.below hb) k hkl
   have ze:=qaC wr _ e0
   simp only at ze
   have HLk:=YJ ((HLs k hkl).out)
   have hok:=(HOk k hkl).out
   have hlb:=HLo.out k
   have hhb:=HHi.out k
   rw[←Hlo.out]at hlb
   rw[←Hhi.out]at hhb
   clear HX hi4 HLs HOk HLo HHi HE H0
   generalize cs[k]=x at*
   obtain⟨x0,x1,x2,q⟩:=x
   simp only at e0 e1 e2 e3
   have hA:=Jv i _ hok
   have hq:1≤q∧q≤400000000:=hok.2.2.2
   have ec:(wr.alloc (.cells #[.int .i64 x0, .int .i64 x1, .int .i64 x2, .int .i64 q] 263)).cell? ⟨wr.heap.size,i,none⟩=some (.int .i64 (axA i (x0,x1,x2,q))):=(aq rfl i).trans (LR hi3)
   have Hfl:Hid (flA i (x0,x1,x2,q)=axA i (x0,x1,x2,q) / q):=YJ rfl
   have Hcl:Hid (clA i (x0,x1,x2,q)=if axA i (x0,x1,x2,q) % q=0 then axA i (x0,x1,x2,q) / q else axA i (x0,x1,x2,q) / q+1):=YJ rfl
   generalize axA i (x0,x1,x2,q)=A at*
   have hF:=MV A q hq.1
   have hD: -500000000000000≤A.tdiv q∧A.tdiv q≤500000000000000:=by
    have h1:(A.tdiv q).natAbs≤A.natAbs:=by rw[Int.natAbs_tdiv];exact Nat.div_le_self _ _
    omega
   have hT: -400000000≤A.tmod q∧A.tmod q≤400000000:=by
    have h1:=Int.natAbs_tmod A q
    have h2:A.natAbs % q.natAbs<q.natAbs:=Nat.mod_lt _ (by omega)
    omega
   have hb2:Below V.heap.size V (wr.alloc (.cells #[.int .i64 x0, .int .i64 x1, .int .i64 x2, .int .i64 q] 263)):=fB hb bel
   have hi3':(i:Int)<3:=by omega
   have hi0:(0:Int)≤(i:Int):=by omega
   have hq0:¬q=0:=by omega
   clear hok
   rcases(by omega:A.tmod q<0∨A.tmod q=0∨0<A.tmod q)with ht|ht|ht
   ·have h1:=hF.1 ht
    have h2:¬A % q=0:=fun h=>by have:=hF.2.2.2 h;omega
    have t0:(A.tmod q==0)=false:=by rw[beq_eq_false_iff_ne];omega
    have t1:(A.tmod q !=0)=true:=by simpa using(by omega:¬A.tmod q=0)
    rw[if_neg h2]at Hcl
    rw[←h1]at Hfl Hcl
    clear hF h1 h2
    by_cases hk0:k=0
    ·subst hk0
     simp only[Nat.zero_mul,Nat.add_zero]at e0 e1 e2 e3
     have hnew:=YJ (Eb i (cs.take 0) (x0,x1,x2,q) rfl)
     go_wp2
     go_roundw
     case rel=>exact⟨0+1,by omega,rfl,_,_,rfl,rfl,YJ (by rw[HLk.out,hnew.out.1,Hfl.out];try(first|rfl|omega)),YJ (by rw[HLk.out,hnew.out.2,Hcl.out];try(first|rfl|omega)),hb2⟩
     simp[intOf];try omega
    ·have hne:cs.take k≠[]:=by
      intro e
      have h9:=congrArg List.length e
      rw[qge,List.length_nil]at h9
      have:=Hn.out
      omega
     have hkb:((k:Int)==0)=false:=by rw[beq_eq_false_iff_ne];omega
     have hlow:=YJ (Cv i (cs.take k) (x0,x1,x2,q) hne)
     have hhigh:=YJ (Zf i (cs.take k) (x0,x1,x2,q) hne)
     clear hne
     go_wp2
     go_roundw
     case rel=>exact⟨k+1,by omega,by go_num,_,_,rfl,rfl,YJ (by rw[HLk.out,hlow.out,Hfl.out, ←Hlo.out];try(first|rfl|omega)),YJ (by rw[HLk.out,hhigh.out,Hcl.out, ←Hhi.out];try(first|rfl|omega)),hb2⟩
     simp[intOf];try omega
   ·have h1:=hF.2.1 (by omega)
    have h2:A % q=0:=hF.2.2.1 ht
    have t0:(A.tmod q==0)=true:=by simpa using ht
    have t1:(A.tmod q !=0)=false:=by simpa using ht
    have t2:¬A.tmod q<0:=by omega
    rw[if_pos h2]at Hcl
    rw[←h1]at Hfl Hcl
    clear hF h1 h2
    by_cases hk0:k=0
    ·subst hk0
     simp only[Nat.zero_mul,Nat.add_zero]at e0 e1 e2 e3
     have hnew:=YJ (Eb i (cs.take 0) (x0,x1,x2,q) rfl)
     go_wp2
     go_roundw
     case rel=>exact⟨0+1,by omega,rfl,_,_,rfl,rfl,YJ (by rw[HLk.out,hnew.out.1,Hfl.out];try(first|rfl|omega)),YJ (by rw[HLk.out,hnew.out.2,Hcl.out];try(first|rfl|omega)),hb2⟩
     simp[intOf];try omega
    ·have hne:cs.take k≠[]:=by
      intro e
      have h9:=congrArg List.length e
      rw[qge,List.length_nil]at h9
      have:=Hn.out
      omega
     have hkb:((k:Int)==0)=false:=by rw[beq_eq_false_iff_ne];omega
     have hlow:=YJ (Cv i (cs.take k) (x0,x1,x2,q) hne)
     have hhigh:=YJ (Zf i (cs.take k) (x0,x1,x2,q) hne)
     clear hne
     go_wp2
     go_roundw
     case rel=>exact⟨k+1,by omega,by go_num,_,_,rfl,rfl,YJ (by rw[HLk.out,hlow.out,Hfl.out, ←Hlo.out];try(first|rfl|omega)),YJ (by rw[HLk.out,hhigh.out,Hcl.out, ←Hhi.out];try(first|rfl|omega)),hb2⟩
     simp[intOf];try omega
   ·have h1:=hF.2.1 (by omega)
    have h2:¬A % q=0:=fun h=>by have:=hF.2.2.2 h;omega
    have t0:(A.tmod q==0)=false:=by rw[beq_eq_false_iff_ne];omega
    have t1:(A.tmod q !=0)=true:=by simpa using(by omega:¬A.tmod q=0)
    have t2:¬A.tmod q<0:=by omega
    rw[if_neg h2]at Hcl
    rw[←h1]at Hfl Hcl
    clear hF h1 h2
    by_cases hk0:k=0
    ·subst hk0
     simp only[Nat.zero_mul,Nat.add_zero]at e0 e1 e2 e3
     have hnew:=YJ (Eb i (cs.take 0) (x0,x1,x2,q) rfl)
     go_wp2
     go_roundw
     case rel=>exact⟨0+1,by omega,rfl,_,_,rfl,rfl,YJ (by rw[HLk.out,hnew.out.1,Hfl.out];try(first|rfl|omega)),YJ (by rw[HLk.out,hnew.out.2,Hcl.out];try(first|rfl|omega)),hb2⟩
     simp[intOf];try omega
    ·have hne:cs.take k≠[]:=by
      intro e
      have h9:=congrArg List.length e
      rw[qge,List.length_nil]at h9
      have:=Hn.out
      omega
     have hkb:((k:Int)==0)=false:=by rw[beq_eq_false_iff_ne];omega
     have hlow:=YJ (Cv i (cs.take k) (x0,x1,x2,q) hne)
     have hhigh:=YJ (Zf i (cs.take k) (x0,x1,x2,q) hne)
     clear hne
     go_wp2
     go_roundw
     case rel=>exact⟨k+1,by omega,by go_num,_,_,rfl,rfl,YJ (by rw[HLk.out,hlow.out,Hfl.out, ←Hlo.out];try(first|rfl|omega)),YJ (by rw[HLk.out,hhigh.out,Hcl.out, ←Hhi.out];try(first|rfl|omega)),hb2⟩
     simp[intOf];try omega
  ·obtain rfl:k=n:=by omega
   rw[HE.out]at Hlo Hhi
   clear HLs HOk HX
   go_wp2
   refine bodyPost_ret (v:= .tuple #[.int .i64 lo, .int .i64 hi]) (by simp[results,Tryz.results228,go_sem]) rfl ⟨by rw[Hlo.out,Hhi.out],fB hV hb⟩
theorem nj {p q:List Q4} {w:Q3} (k:Nat) (hk:k=0∨k=1∨k=2) (h:wd p q w k=true):CQ p q w=true:=by
 unfold CQ
 rcases hk with rfl|rfl|rfl<;>simp[h]
theorem KV {p q:List Q4} {w:Q3} (h0:wd p q w 0=false) (h1:wd p q w 1=false) (h2:wd p q w 2=false):CQ p q w=false:=by
 unfold CQ
 simp[h0,h1,h2]
theorem nm {w:World} {g:Nat} {x0 x1:Value} {t:TypeId} (h:w.heap[g]? =some (.cells #[x0,x1] t (0,0))):w.cell? ⟨g,0,none⟩=some x0∧w.cell? ⟨g,1,none⟩=some x1∧g<w.heap.size:=⟨(bq h 0).trans rfl,(bq h 1).trans rfl,ah h⟩
theorem Jz (ps qs:List Q4) (pv1 cv1 pv2 cv2:Value) (a b c:Int) (w:World) (hps:∀c∈ps,okX c) (hqs:∀c∈qs,okX c) (hl1:ps.length≤1000000) (hl2:qs.length≤1000000)
  (hp1:∃a n c,pv1= .slice a n c) (hp2:∃a n c,pv2= .slice a n c) (hc1:Q4s w cv1 ps) (hc2:Q4s w cv2 qs):
  Calls Tryz.prog 179 #[.agg #[pv1,cv1], .agg #[pv2,cv2],V3 a b c] w (Ret w (.bool (CQ ps qs (a,b,c)))):=by
 have H1:=fun i (h:i<3) W hb=>YJ (EO ps i h pv1 cv1 W hps hl1 hp1 (hc1.below (w':=W) hb))
 have H2:=fun i (h:i<3) W hb=>YJ (EO qs i h pv2 cv2 W hqs hl2 hp2 (hc2.below (w':=W) hb))
 obtain⟨pa,pn,pc,rfl⟩:=hp1
 obtain⟨qa,qn,qc,rfl⟩:=hp2
 obtain⟨ca,cn,cc,rfl, -⟩:=hc1
 obtain⟨da,dn,dc,rfl, -⟩:=hc2
 have HN:=YJ (@KV ps qs (a,b,c))
 obtain⟨V,HV⟩:∃V,Hid (((w.alloc (.cells #[.slice pa pn pc, .slice ca cn cc] 216)).alloc (.cells #[.slice qa qn qc, .slice da dn dc] 216)).alloc (.cells #[.int .i64 a, .int .i64 b, .int .i64 c] 37)=V):=⟨_,YJ rfl⟩
 have hV:Below w.heap.size w V:=by rw[←HV.out];exact bel
 have HB:Hid (V.heap[w.heap.size]? =some (.cells #[.slice pa pn pc, .slice ca cn cc] 216 (0,0))∧V.heap[w.heap.size+1]? =some (.cells #[.slice qa qn qc, .slice da dn dc] 216 (0,0))):=YJ (by
  rw[←HV.out]
  exact⟨(aB (by simp<;>omega)).trans ((aB (by simp)).trans (ai rfl)),(aB (by simp)).trans (ai (by simp))⟩)
 have j0:=qD (.int .i64 a) (.int .i64 b) (.int .i64 c)
 have j1:=qE (.int .i64 a) (.int .i64 b) (.int .i64 c)
 have j2:=qF (.int .i64 a) (.int .i64 b) (.int .i64 c)
 clear hps hqs
 go_enter Tryz.func179,Tryz.ntmps179
 go_wp2
 rw[HV.out]
 go_loopw [14] (fun x wr=>∃k:Int,0≤k∧k≤3∧x= .int .i64 k∧Below V.heap.size V wr∧Hid ((1≤k→wd ps qs (a,b,c) 0=false)∧(2≤k→wd ps qs (a,b,c) 1=false)∧(3≤k→wd ps qs (a,b,c) 2=false))) (fun x _=>3-(intOf x).toNat)
 case atStart=>exact⟨0,by omega,by omega,rfl,brf,YJ ⟨fun h=>by omega,fun h=>by omega,fun h=>by omega⟩⟩
 case round=>
  obtain⟨k,hk0,hk,rfl,hb,Hf⟩:=hrel
  have hwr:Below w.heap.size w wr:=hV.trans (hb.mono hV.size)
  have HBr:Hid (wr.heap[w.heap.size]? =some (.cells #[.slice pa pn pc, .slice ca cn cc] 216 (0,0))∧wr.heap[w.heap.size+1]? =some (.cells #[.slice qa qn qc, .slice da dn dc] 216 (0,0))):=YJ ⟨(hb.block _ (ah HB.out.1)).trans HB.out.1,(hb.block _ (ah HB.out.2)).trans HB.out.2⟩
  rcases(by omega:k=0∨k=1∨k=2∨k=3)with rfl|rfl|rfl|rfl
  ·have hE:wd ps qs (a,b,c) 0=((decide (a≤0)&&decide (bt 0 ps≤eT 0 qs)) || (decide (0≤a)&&decide (bt 0 qs≤eT 0 ps))):=rfl
   have H1k:=fun W h=>YJ ((H1 0 (by decide) W h).out)
   have H2k:=fun W h=>YJ ((H2 0 (by decide) W h).out)
   clear H1 H2
   obtain⟨e0,e1,ez⟩:=nm HBr.out.1
   generalize bt 0 ps=h1 at*
   generalize eT 0 qs=l2 at*
   generalize bt 0 qs=h2 at*
   generalize eT 0 ps=l1 at*
   go_wp2_with fail
   refine((H1k _ hwr).out).mono ?_
   rintro e w1 ⟨rfl,hb1⟩
   have hD:=YJ ((hb1.block _ (ah HBr.out.2)).trans HBr.out.2)
   have hw1:=fB hwr hb1
   have hb1':=fB hb hb1
   clear e0 e1 ez hb1 H1k
   obtain⟨d0,d1,dz⟩:=nm hD.out
   go_wp2_with fail
   refine((H2k _ hw1).out).mono ?_
   rintro e w2 ⟨rfl,hb2'⟩
   have hb2:=fB hb1' hb2'
   clear d0 d1 dz hb1' hb2' H2k hw1 hwr
   by_cases c1:a≤0
   ·by_cases c2:h1≤l2
    ·by_cases c3:0≤a
     ·by_cases c4:h2≤l1
      ·have hF:=YJ (nj 0 (by decide) (hE.trans (by simp[c1,c2,c3,c4])))
       go_wp2
       go_ret
       exact⟨ay hF.out.symm,fB hV hb2⟩
      ·have hF:=YJ (nj 0 (by decide) (hE.trans (by simp[c1,c2,c3,c4])))
       go_wp2
       go_ret
       exact⟨ay hF.out.symm,fB hV hb2⟩
     ·by_cases c4:h2≤l1
      ·have hF:=YJ (nj 0 (by decide) (hE.trans (by simp[c1,c2,c3,c4])))
       go_wp2
       go_ret
       exact⟨ay hF.out.symm,fB hV hb2⟩
      ·have hF:=YJ (nj 0 (by decide) (hE.trans (by simp[c1,c2,c3,c4])))
       go_wp2
       go_ret
       exact⟨ay hF.out.symm,fB hV hb2⟩
    ·by_cases c3:0≤a
     ·by_cases c4:h2≤l1
      ·have hF:=YJ (nj 0 (by decide) (hE.trans (by simp[c1,c2,c3,c4])))
       go_wp2
       go_ret
       exact⟨ay hF.out.symm,fB hV hb2⟩
      ·have hF:Hid (wd ps qs (a,b,c) 0=false):=YJ (hE.trans (by simp[c1,c2,c3,c4]))
       go_wp2
       go_roundw
       case rel=>exact⟨1,by omega,by omega,rfl,hb2,YJ (by have h9:=Hf.out;simp only[hF.out]at*;refine⟨fun _=> ?_,fun h=> ?_,fun h=> ?_⟩<;>first|rfl|exact h9.1 (by omega)|exact h9.2.1 (by omega)|exact h9.2.2 (by omega)|exact hF.out|omega)⟩
       first|decide|(simp[intOf];done)
     ·by_cases c4:h2≤l1
      ·have hF:Hid (wd ps qs (a,b,c) 0=false):=YJ (hE.trans (by simp[c1,c2,c3,c4]))
       go_wp2
       go_roundw
       case rel=>exact⟨1,by omega,by omega,rfl,hb2,YJ (by have h9:=Hf.out;simp only[hF.out]at*;refine⟨fun _=> ?_,fun h=> ?_,fun h=> ?_⟩<;>first|rfl|exact h9.1 (by omega)|exact h9.2.1 (by omega)|exact h9.2.2 (by omega)|exact hF.out|omega)⟩
       first|decide|(simp[intOf];done)
      ·have hF:Hid (wd ps qs (a,b,c) 0=false):=YJ (hE.trans (by simp[c1,c2,c3,c4]))
       go_wp2
       go_roundw
       case rel=>exact⟨1,by omega,by omega,rfl,hb2,YJ (by have h9:=Hf.out;simp only[hF.out]at*;refine⟨fun _=> ?_,fun h=> ?_,fun h=> ?_⟩<;>first|rfl|exact h9.1 (by omega)|exact h9.2.1 (by omega)|exact h9.2.2 (by omega)|exact hF.out|omega)⟩
       first|decide|(simp[intOf];done)
   ·have c3:0≤a:=by omega
    by_cases c2:h1≤l2
    ·by_cases c4:h2≤l1
     ·have hF:=YJ (nj 0 (by decide) (hE.trans (by simp[c1,c2,c3,c4])))
      go_wp2
      go_ret
      exact⟨ay hF.out.symm,fB hV hb2⟩
     ·have hF:Hid (wd ps qs (a,b,c) 0=false):=YJ (hE.trans (by simp[c1,c2,c3,c4]))
      go_wp2
      go_roundw
      case rel=>exact⟨1,by omega,by omega,rfl,hb2,YJ (by have h9:=Hf.out;simp only[hF.out]at*;refine⟨fun _=> ?_,fun h=> ?_,fun h=> ?_⟩<;>first|rfl|exact h9.1 (by omega)|exact h9.2.1 (by omega)|exact h9.2.2 (by omega)|exact hF.out|omega)⟩
      first|decide|(simp[intOf];done)
    ·by_cases c4:h2≤l1
     ·have hF:=YJ (nj 0 (by decide) (hE.trans (by simp[c1,c2,c3,c4])))
      go_wp2
      go_ret
      exact⟨ay hF.out.symm,fB hV hb2⟩
     ·have hF:Hid (wd ps qs (a,b,c) 0=false):=YJ (hE.trans (by simp[c1,c2,c3,c4]))
      go_wp2
      go_roundw
      case rel=>exact⟨1,by omega,by omega,rfl,hb2,YJ (by have h9:=Hf.out;simp only[hF.out]at*;refine⟨fun _=> ?_,fun h=> ?_,fun h=> ?_⟩<;>first|rfl|exact h9.1 (by omega)|exact h9.2.1 (by omega)|exact h9.2.2 (by omega)|exact hF.out|omega)⟩
      first|decide|(simp[intOf];done)
  ·have hE:wd ps qs (a,b,c) 1=((decide (b≤0)&&decide (bt 1 ps≤eT 1 qs)) || (decide (0≤b)&&decide (bt 1 qs≤eT 1 ps))):=rfl
   have H1k:=fun W h=>YJ ((H1 1 (by decide) W h).out)
   have H2k:=fun W h=>YJ ((H2 1 (by decide) W h).out)
   clear H1 H2
   obtain⟨e0,e1,ez⟩:=nm HBr.out.1
   generalize bt 1 ps=h1 at*
   generalize eT 1 qs=l2 at*
   generalize bt 1 qs=h2 at*
   generalize eT 1 ps=l1 at*
   go_wp2_with fail
   refine((H1k _ hwr).out).mono ?_
   rintro e w1 ⟨rfl,hb1⟩
   have hD:=YJ ((hb1.block _ (ah HBr.out.2)).trans HBr.out.2)
   have hw1:=fB hwr hb1
   have hb1':=fB hb hb1
   clear e0 e1 ez hb1 H1k
   obtain⟨d0,d1,dz⟩:=nm hD.out
   go_wp2_with fail
   refine((H2k _ hw1).out).mono ?_
   rintro e w2 ⟨rfl,hb2'⟩
   have hb2:=fB hb1' hb2'
   clear d0 d1 dz hb1' hb2' H2k hw1 hwr
   by_cases c1:b≤0
   ·by_cases c2:h1≤l2
    ·by_cases c3:0≤b
     ·by_cases c4:h2≤l1
      ·have hF:=YJ (nj 1 (by decide) (hE.trans (by simp[c1,c2,c3,c4])))
       go_wp2
       go_ret
       exact⟨ay hF.out.symm,fB hV hb2⟩
      ·have hF:=YJ (nj 1 (by decide) (hE.trans (by simp[c1,c2,c3,c4])))
       go_wp2
       go_ret
       exact⟨ay hF.out.symm,fB hV hb2⟩
     ·by_cases c4:h2≤l1
      ·have hF:=YJ (nj 1 (by decide) (hE.trans (by simp[c1,c2,c3,c4])))
       go_wp2
       go_ret
       exact⟨ay hF.out.symm,fB hV hb2⟩
      ·have hF:=YJ (nj 1 (by decide) (hE.trans (by simp[c1,c2,c3,c4])))
       go_wp2
       go_ret
       exact⟨ay hF.out.symm,fB hV hb2⟩
    ·by_cases c3:0≤b
     ·by_cases c4:h2≤l1
      ·have hF:=YJ (nj 1 (by decide) (hE.trans (by simp[c1,c2,c3,c4])))
       go_wp2
       go_ret
       exact⟨ay hF.out.symm,fB hV hb2⟩
      ·have hF:Hid (wd ps qs (a,b,c) 1=false):=YJ (hE.trans (by simp[c1,c2,c3,c4]))
       go_wp2
       go_roundw
       case rel=>exact⟨2,by omega,by omega,rfl,hb2,YJ (by have h9:=Hf.out;simp only[hF.out]at*;refine⟨fun _=> ?_,fun h=> ?_,fun h=> ?_⟩<;>first|rfl|exact h9.1 (by omega)|exact h9.2.1 (by omega)|exact h9.2.2 (by omega)|exact hF.out|omega)⟩
       first|decide|(simp[intOf];done)
     ·by_cases c4:h2≤l1
      ·have hF:Hid (wd ps qs (a,b,c) 1=false):=YJ (hE.trans (by simp[c1,c2,c3,c4]))
       go_wp2
       go_roundw
       case rel=>exact⟨2,by omega,by omega,rfl,hb2,YJ (by have h9:=Hf.out;simp only[hF.out]at*;refine⟨fun _=> ?_,fun h=> ?_,fun h=> ?_⟩<;>first|rfl|exact h9.1 (by omega)|exact h9.2.1 (by omega)|exact h9.2.2 (by omega)|exact hF.out|omega)⟩
       first|decide|(simp[intOf];done)
      ·have hF:Hid (wd ps qs (a,b,c) 1=false):=YJ (hE.trans (by simp[c1,c2,c3,c4]))
       go_wp2
       go_roundw
       case rel=>exact⟨2,by omega,by omega,rfl,hb2,YJ (by have h9:=Hf.out;simp only[hF.out]at*;refine⟨fun _=> ?_,fun h=> ?_,fun h=> ?_⟩<;>first|rfl|exact h9.1 (by omega)|exact h9.2.1 (by omega)|exact h9.2.2 (by omega)|exact hF.out|omega)⟩
       first|decide|(simp[intOf];done)
   ·have c3:0≤b:=by omega
    by_cases c2:h1≤l2
    ·by_cases c4:h2≤l1
     ·have hF:=YJ (nj 1 (by decide) (hE.trans (by simp[c1,c2,c3,c4])))
      go_wp2
      go_ret
      exact⟨ay hF.out.symm,fB hV hb2⟩
     ·have hF:Hid (wd ps qs (a,b,c) 1=false):=YJ (hE.trans (by simp[c1,c2,c3,c4]))
      go_wp2
      go_roundw
      case rel=>exact⟨2,by omega,by omega,rfl,hb2,YJ (by have h9:=Hf.out;simp only[hF.out]at*;refine⟨fun _=> ?_,fun h=> ?_,fun h=> ?_⟩<;>first|rfl|exact h9.1 (by omega)|exact h9.2.1 (by omega)|exact h9.2.2 (by omega)|exact hF.out|omega)⟩
      first|decide|(simp[intOf];done)
    ·by_cases c4:h2≤l1
     ·have hF:=YJ (nj 1 (by decide) (hE.trans (by simp[c1,c2,c3,c4])))
      go_wp2
      go_ret
      exact⟨ay hF.out.symm,fB hV hb2⟩
     ·have hF:Hid (wd ps qs (a,b,c) 1=false):=YJ (hE.trans (by simp[c1,c2,c3,c4]))
      go_wp2
      go_roundw
      case rel=>exact⟨2,by omega,by omega,rfl,hb2,YJ (by have h9:=Hf.out;simp only[hF.out]at*;refine⟨fun _=> ?_,fun h=> ?_,fun h=> ?_⟩<;>first|rfl|exact h9.1 (by omega)|exact h9.2.1 (by omega)|exact h9.2.2 (by omega)|exact hF.out|omega)⟩
      first|decide|(simp[intOf];done)
  ·have hE:wd ps qs (a,b,c) 2=((decide (c≤0)&&decide (bt 2 ps≤eT 2 qs)) || (decide (0≤c)&&decide (bt 2 qs≤eT 2 ps))):=rfl
   have H1k:=fun W h=>YJ ((H1 2 (by decide) W h).out)
   have H2k:=fun W h=>YJ ((H2 2 (by decide) W h).out)
   clear H1 H2
   obtain⟨e0,e1,ez⟩:=nm HBr.out.1
   generalize bt 2 ps=h1 at*
   generalize eT 2 qs=l2 at*
   generalize bt 2 qs=h2 at*
   generalize eT 2 ps=l1 at*
   go_wp2_with fail
   refine((H1k _ hwr).out).mono ?_
   rintro e w1 ⟨rfl,hb1⟩
   have hD:=YJ ((hb1.block _ (ah HBr.out.2)).trans HBr.out.2)
   have hw1:=fB hwr hb1
   have hb1':=fB hb hb1
   clear e0 e1 ez hb1 H1k
   obtain⟨d0,d1,dz⟩:=nm hD.out
   go_wp2_with fail
   refine((H2k _ hw1).out).mono ?_
   rintro e w2 ⟨rfl,hb2'⟩
   have hb2:=fB hb1' hb2'
   clear d0 d1 dz hb1' hb2' H2k hw1 hwr
   by_cases c1:c≤0
   ·by_cases c2:h1≤l2
    ·by_cases c3:0≤c
     ·by_cases c4:h2≤l1
      ·have hF:=YJ (nj 2 (by decide) (hE.trans (by simp[c1,c2,c3,c4])))
       go_wp2
       go_ret
       exact⟨ay hF.out.symm,fB hV hb2⟩
      ·have hF:=YJ (nj 2 (by decide) (hE.trans (by simp[c1,c2,c3,c4])))
       go_wp2
       go_ret
       exact⟨ay hF.out.symm,fB hV hb2⟩
     ·by_cases c4:h2≤l1
      ·have hF:=YJ (nj 2 (by decide) (hE.trans (by simp[c1,c2,c3,c4])))
       go_wp2
       go_ret
       exact⟨ay hF.out.symm,fB hV hb2⟩
      ·have hF:=YJ (nj 2 (by decide) (hE.trans (by simp[c1,c2,c3,c4])))
       go_wp2
       go_ret
       exact⟨ay hF.out.symm,fB hV hb2⟩
    ·by_cases c3:0≤c
     ·by_cases c4:h2≤l1
      ·have hF:=YJ (nj 2 (by decide) (hE.trans (by simp[c1,c2,c3,c4])))
       go_wp2
       go_ret
       exact⟨ay hF.out.symm,fB hV hb2⟩
      ·have hF:Hid (wd ps qs (a,b,c) 2=false):=YJ (hE.trans (by simp[c1,c2,c3,c4]))
       go_wp2
       go_roundw
       case rel=>exact⟨3,by omega,by omega,rfl,hb2,YJ (by have h9:=Hf.out;simp only[hF.out]at*;refine⟨fun _=> ?_,fun h=> ?_,fun h=> ?_⟩<;>first|rfl|exact h9.1 (by omega)|exact h9.2.1 (by omega)|exact h9.2.2 (by omega)|exact hF.out|omega)⟩
       first|decide|(simp[intOf];done)
     ·by_cases c4:h2≤l1
      ·have hF:Hid (wd ps qs (a,b,c) 2=false):=YJ (hE.trans (by simp[c1,c2,c3,c4]))
       go_wp2
       go_roundw
       case rel=>exact⟨3,by omega,by omega,rfl,hb2,YJ (by have h9:=Hf.out;simp only[hF.out]at*;refine⟨fun _=> ?_,fun h=> ?_,fun h=> ?_⟩<;>first|rfl|exact h9.1 (by omega)|exact h9.2.1 (by omega)|exact h9.2.2 (by omega)|exact hF.out|omega)⟩
       first|decide|(simp[intOf];done)
      ·have hF:Hid (wd ps qs (a,b,c) 2=false):=YJ (hE.trans (by simp[c1,c2,c3,c4]))
       go_wp2
       go_roundw
       case rel=>exact⟨3,by omega,by omega,rfl,hb2,YJ (by have h9:=Hf.out;simp only[hF.out]at*;refine⟨fun _=> ?_,fun h=> ?_,fun h=> ?_⟩<;>first|rfl|exact h9.1 (by omega)|exact h9.2.1 (by omega)|exact h9.2.2 (by omega)|exact hF.out|omega)⟩
       first|decide|(simp[intOf];done)
   ·have c3:0≤c:=by omega
    by_cases c2:h1≤l2
    ·by_cases c4:h2≤l1
     ·have hF:=YJ (nj 2 (by decide) (hE.trans (by simp[c1,c2,c3,c4])))
      go_wp2
      go_ret
      exact⟨ay hF.out.symm,fB hV hb2⟩
     ·have hF:Hid (wd ps qs (a,b,c) 2=false):=YJ (hE.trans (by simp[c1,c2,c3,c4]))
      go_wp2
      go_roundw
      case rel=>exact⟨3,by omega,by omega,rfl,hb2,YJ (by have h9:=Hf.out;simp only[hF.out]at*;refine⟨fun _=> ?_,fun h=> ?_,fun h=> ?_⟩<;>first|rfl|exact h9.1 (by omega)|exact h9.2.1 (by omega)|exact h9.2.2 (by omega)|exact hF.out|omega)⟩
      first|decide|(simp[intOf];done)
    ·by_cases c4:h2≤l1
     ·have hF:=YJ (nj 2 (by decide) (hE.trans (by simp[c1,c2,c3,c4])))
      go_wp2
      go_ret
      exact⟨ay hF.out.symm,fB hV hb2⟩
     ·have hF:Hid (wd ps qs (a,b,c) 2=false):=YJ (hE.trans (by simp[c1,c2,c3,c4]))
      go_wp2
      go_roundw
      case rel=>exact⟨3,by omega,by omega,rfl,hb2,YJ (by have h9:=Hf.out;simp only[hF.out]at*;refine⟨fun _=> ?_,fun h=> ?_,fun h=> ?_⟩<;>first|rfl|exact h9.1 (by omega)|exact h9.2.1 (by omega)|exact h9.2.2 (by omega)|exact hF.out|omega)⟩
      first|decide|(simp[intOf];done)
  ·go_wp2
   go_ret
   have h9:=Hf.out
   exact⟨ay (HN.out (h9.1 (by omega)) (h9.2.1 (by omega)) (h9.2.2 (by omega))).symm,fB hV hb⟩
end
end Go.Proofs.YtffbilcjhlncfaaGreatDoor
