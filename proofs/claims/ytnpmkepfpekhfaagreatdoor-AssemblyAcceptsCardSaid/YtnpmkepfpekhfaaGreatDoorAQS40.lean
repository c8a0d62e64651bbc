/- texts: CPA FHB FHF CPB LKD. -/
import Derived.Test.YtnpmkepfpekhfaaGreatDoorAQS39
import Derived.Maps.OwnOps
namespace Go.Proofs.YtnpmkepfpekhfaaGreatDoor
set_option maxHeartbeats 8000000
set_option linter.all false
section
open Go.RowKit Go.Shelf Go.Maps Go.ChangeMaps
theorem qes:Tryz.prog.underlying 98=some (.int .u64):=by kernel_rfl
theorem qeD:Tryz.prog.underlying 4=some .bool:=by kernel_rfl
theorem qeJ:Tryz.prog.underlying 130=some (.map 98 4):=by kernel_rfl
theorem qeX (u:World):(zeroValue 4).run Tryz.prog u= .ok (.bool false) u:=by kernel_rfl
def OwB (w:World) (b n:Nat) (K:Nat→Bool):Prop:=∃D:DataW Value,w.ownsMap Tryz.prog 98 (plainElem Tryz.prog 4) b n D∧∀x:Nat,x<4096→D.atKey (.int .u64 x) (.lit (.bool false))= .lit (.bool (K x))
theorem qfL {x:Nat} (h:x<4096):(Lit.int .u64 x).wf=true:=by
 have h1:IntKind.u64.min=0:=by decide
 have h2:IntKind.u64.max=18446744073709551615:=by decide
 show(decide (IntKind.u64.min≤(x:Int))&&decide ((x:Int)≤IntKind.u64.max))=true
 rw[h1,h2,qaF,qfV,qfV]
 omega
theorem qfM {x:Nat} (h:x<4096):keyOf Tryz.prog 98 (.int .u64 x)=some (.int .u64 x):=keyOf_int_mk qes (qfL h)
theorem qfs {y x:Nat} (h:¬y=x):(Lit.int .u64 (y:Int))≠ .int .u64 (x:Int):=fun e=>h (by injection e with _ e;exact Int.ofNat_inj.1 e)
theorem OwB.made (w:World):OwB (w.alloc (.map #[] 0)) w.heap.size 0 (fun _=>false):=⟨.map [],World.ownsMap_made w Tryz.prog _ _,fun x _=>rfl⟩
theorem qfk {v:Value} {c:Bool} {ps:List MemPlace} (h:plainElem (H:=Value) Tryz.prog 4 v=some (.lit (.bool c),ps)):v= .bool c:=by
 unfold plainElem at h
 rw[qeD]at h
 cases v with
 |bool x=>simp at h;rw[h.1]
 |_=>simp at h
theorem OwB.look {w:World} {b n:Nat} {K:Nat→Bool} (h:OwB w b n K) {x:Nat} (hx:x<4096):(Instr.lookup 130 (.map (some b)) (.int .u64 x) false).run Tryz.prog w= .ok (.bool (K x)) w:=by
 obtain⟨D,h,hK⟩:=h
 obtain⟨v,ps,hrun,hv⟩:=h.lookup (int_keyed qes) qeJ (qeX w) (plainElem_bool qeD false) (qfM hx)
 rw[hrun]
 rw[hK x hx]at hv
 rw[qfk hv]
theorem OwB.put {w:World} {b n:Nat} {K:Nat→Bool} (h:OwB w b n K) (hn:n<maxLen) {x:Nat} (hx:x<4096):∃w',(Instr.mapUpdate 130 (.map (some b)) (.int .u64 x) (.bool true)).run Tryz.prog w= .ok () w'∧OwB w' b (n+1) (fun y=>if y=x then true else K y)∧w.grownBy w' (some b):=by
 obtain⟨D,h,hK⟩:=h
 obtain⟨w',hrun,ho,hg⟩:=h.update (int_keyed qes) qeJ hn (qfM hx) (plainElem_bool qeD true)
 refine⟨w',hrun,⟨_,ho,fun y hy=> ?_⟩,hg⟩
 by_cases e:y=x
 ·subst e
  simp only[if_pos rfl]
  exact atKey_put_same h.isMap (k:= .int .u64 y) (show WideAt.IsKeyLit (.int .u64 y)from trivial) _ _
 ·simp only[if_neg e]
  rw[atKey_put_other (qfs e),hK y hy]
theorem OwB.del {w:World} {b n:Nat} {K:Nat→Bool} (h:OwB w b n K) {x:Nat} (hx:x<4096) (ty:TypeId):∃w',(Builtin.delete_ #[130,98] ty #[.map (some b), .int .u64 x]).run Tryz.prog w= .ok (.tuple #[]) w'∧OwB w' b n (fun y=>if y=x then false else K y)∧w.grownBy w' (some b):=by
 obtain⟨D,h,hK⟩:=h
 obtain⟨w',hrun,ho,hg⟩:=h.drop (int_keyed qes) qeJ (qfM hx) ty
 refine⟨w',hrun,⟨_,ho,fun y hy=> ?_⟩,hg.grown⟩
 by_cases e:y=x
 ·subst e
  simp only[if_pos rfl]
  exact atKey_del_same _
 ·simp only[if_neg e]
  rw[atKey_del_other (qfs e),hK y hy]
theorem OwB.congr {w:World} {b n:Nat} {K K':Nat→Bool} (h:OwB w b n K) (e:∀x,K x=K' x):OwB w b n K':=by
 rw[show K'=K from funext fun x=>(e x).symm]
 exact h
theorem OwB.moved {w w':World} {row:Option Nat} {b n:Nat} {K:Nat→Bool} (h:OwB w b n K) (hg:w.grownBy w' row) (hr:row≠some b):OwB w' b n K:=by
 obtain⟨D,h,hK⟩:=h
 exact⟨D,h.kept hg hr.symm,hK⟩
theorem OwB.below {w w':World} {b n:Nat} {K:Nat→Bool} (h:OwB w b n K) (hb:Below w.heap.size w w'):OwB w' b n K:=h.moved (row:=none) ⟨hb.os,hb.tape,hb.output,hb.size,fun k hk _=>hb.block k hk⟩ (by simp)
theorem OwB.lt {w:World} {b n:Nat} {K:Nat→Bool} (h:OwB w b n K):b<w.heap.size:=by
 obtain⟨D,h,hK⟩:=h
 exact h.lt
theorem qeY {mb:Nat} {X Y:World} (h:ButM mb X Y):X.grownBy Y (some mb):=⟨h.1.os,h.1.tape,h.1.output,h.2.1,fun k hk hn=>h.2.2 k hk (fun e=>hn (by rw[e]))⟩
theorem OwB.butm {X Y:World} {mb b n:Nat} {K:Nat→Bool} (h:OwB X b n K) (hb:ButM mb X Y) (hne:mb≠b):OwB Y b n K:=h.moved (qeY hb) (by simpa using hne)
theorem OwB.obj {w:World} {b n:Nat} {K:Nat→Bool} (h:OwB w b n K):∃o:Obj,w.heap[b]? =some o∧o.isCells=false:=by
 obtain⟨D,⟨es,ck,hb,_⟩,hK⟩:=h
 exact⟨_,hb,rfl⟩
theorem ButM.later {mb b:Nat} {W X Y:World} (h:ButM mb W X) (hg:X.grownBy Y (some b)) (hb:W.heap.size≤b) (hm:mb<W.heap.size):ButM mb W Y:=
 ⟨h.1.grown hg (Nat.le_of_lt (qaG hm h.2.1)) (fun z hz=>by cases hz;omega),qaD h.2.1 hg.size,fun k hk hn=>(hg.block k (qaG hk h.2.1) (fun e=>by cases e;omega)).trans (h.2.2 k hk hn)⟩
end
section
open Go.RowKit Go.Shelf Go.Lib
set_option maxRecDepth 100000
attribute [local go_sem] Ext.cell Ext.frozen
def qbP (v:Q3):Nat:=ways26.idxOf v
theorem qch {v:Q3}:∀(l:List Q3) (k:Nat) (hk:k<l.length),l[k]=v→(∀j (hj:j<l.length),j<k→l[j]≠v)→l.idxOf v=k
 | [],k,hk,_,_=>absurd hk (by simp)
 |a::l,0,hk,h,_=>by
  simp only[qdt]at h
  simp[List.idxOf_cons,h]
 |a::l,k+1,hk,h,h0=>by
  have ha:a≠v:=h0 0 (by simp) (by omega)
  have:=qch l k (by simpa using hk) (by simpa using h) (fun j hj hjk=>by
   have:=h0 (j+1) (Nat.succ_lt_succ hj) (by omega)
   rwa [List.getElem_cons_succ]at this)
  rw[List.idxOf_cons,this]
  have:(a==v)=false:=by simpa using ha
  simp[this]
theorem qbZ {v:Q3} (h:v∈ways26):∃hk:qbP v<ways26.length,ways26[qbP v]'hk=v:=by
 have h1:qbP v<ways26.length:=List.idxOf_lt_length_of_mem h
 refine⟨h1, ?_⟩
 unfold qbP
 exact List.getElem_idxOf h1
theorem qci (x y z:Int) (W:World) (h:(x,y,z)∈ways26):Calls Tryz.prog 73 #[V3 x y z] W (Ret W (.int .i64 (qbP (x,y,z):Nat))):=by
 obtain⟨V,HV⟩:∃V,Hid (W.alloc (.cells #[.int .i64 x, .int .i64 y, .int .i64 z] 36)=V):=⟨_,YJ rfl⟩
 have hV:Below W.heap.size W V:=by rw[←HV.out];exact bel
 have HB0:Hid (V.heap[W.heap.size]? =some (.cells #[.int .i64 x, .int .i64 y, .int .i64 z] 36 (0,0))):=YJ (by rw[←HV.out];exact ai rfl)
 have HWy:=fun W'=>YJ (Gm W')
 have Hn:=fun k (hk:k<ways26.length) (h1:ways26[k]=(x,y,z)) h0=>YJ (show qbP (x,y,z)=k from qch ways26 k hk h1 h0)
 have Hs:Hid (ways26[qbP (x,y,z)]? =some (x,y,z)):=YJ (by
  obtain⟨hs1,hs2⟩:=qbZ h
  rw[List.getElem?_eq_getElem hs1,hs2])
 have H26:Hid (ways26.length=26):=YJ rfl
 clear h
 generalize qbP (x,y,z)=res at*
 go_enter Tryz.func73,Tryz.ntmps73
 go_wp2_with fail
 try rw[HV.out]
 refine((HWy _).out).mono ?_
 rintro e w1 ⟨wv,rfl,hb1,ho1⟩
 have hw1:Below W.heap.size W w1:=fB hV hb1
 have HB1:=YJ ((hb1.block _ (ah HB0.out)).trans HB0.out)
 have hq:=qcv ho1
 rw[H26.out]at ho1
 obtain⟨wa,wn,wc,rfl,hwn, -,hwx⟩:=hq
 have hwn':wn=26:=by rw[←hwn];exact H26.out
 subst hwn'
 have HX:=YJ hwx
 clear HWy ho1 hb1 hwx hwn HB0 HV hV
 generalize ways26=WS at*
 go_wp2
 go_loopw [4] (fun i wr=>∃k:Nat,k≤26∧i= .int .i64 k∧Below w1.heap.size w1 wr∧Hid (∀j (hj:j<WS.length),j<k→WS[j]≠(x,y,z))) (fun i _=>26-(intOf i).toNat)
 case atStart=>exact⟨0,by omega,rfl,brf,YJ (fun j _ h=>by omega)⟩
 case round=>
  obtain⟨k,hk,rfl,hb,Hd⟩:=hrel
  by_cases hlt:k<26
  ·have g1:(k:Int)<26:=by omega
   have g2:(0:Int)≤(k:Int):=by omega
   have hkl:k<WS.length:=by rw[H26.out];exact hlt
   obtain⟨b,off,rfl,hi3⟩:=HX.out (by omega)
   obtain⟨c0,c1,c2⟩:=(hi3.below hb) k hkl
   obtain⟨d0,d1,d2,df,dz⟩:=NO ((hb.block _ (ah HB1.out)).trans HB1.out)
   have HH:=fun(h1:WS[k]=(x,y,z))=>YJ (Hn k hkl h1 Hd.out).out
   have Hst:Hid (WS[k]≠(x,y,z)→∀j (hj:j<WS.length),j<k+1→WS[j]≠(x,y,z)):=YJ (fun h j hj hjk=>by
    by_cases e:j=k
    ·subst e;exact h
    ·exact Hd.out j hj (by omega))
   have z1:=qaC wr _ c0
   simp only at z1
   have hw:=fB hw1 hb
   clear HX Hn Hs hi3 Hd
   generalize WS[k]=u0 at*
   obtain⟨a,b',c⟩:=u0
   simp only at c0 c1 c2
   by_cases he:((a,b',c):Q3)=(x,y,z)
   ·have hr:=(HH he).out
    injection he with e1 e2
    injection e2 with e2 e3
    subst e1;subst e2;subst e3
    subst hr
    clear HH Hst
    go_wp2
    refine wqf fun u=> ?_
    have hbu:=fB hw u.below
    go_wp2
    go_ret
    exact⟨by trivial,hbu⟩
   ·have HSt:=YJ (Hst.out he)
    clear HH Hst
    by_cases e1:a=x
    ·subst e1
     by_cases e2:b'=y
     ·subst e2
      have e3:¬c=z:=fun e=>he (by rw[e])
      have e3':(c==z)=false:=by simpa using e3
      clear he
      go_wp2
      refine wqf fun u=> ?_
      have hbu:=fB hb u.below
      go_wp2
      go_roundw
      case rel=>exact⟨k+1,by omega,by go_num,hbu,HSt⟩
      simp[intOf];try omega
     ·have e2':(b'==y)=false:=by simpa using e2
      clear he
      go_wp2
      refine wqf fun u=> ?_
      have hbu:=fB hb u.below
      go_wp2
      go_roundw
      case rel=>exact⟨k+1,by omega,by go_num,hbu,HSt⟩
      simp[intOf];try omega
    ·have e1':(a==x)=false:=by simpa using e1
     clear he
     go_wp2
     refine wqf fun u=> ?_
     have hbu:=fB hb u.below
     go_wp2
     go_roundw
     case rel=>exact⟨k+1,by omega,by go_num,hbu,HSt⟩
     simp[intOf];try omega
  ·obtain rfl:k=26:=by omega
   obtain⟨h1,h2⟩:=List.getElem?_eq_some_iff.1 Hs.out
   exact absurd h2 (Hd.out _ h1 (by have:=H26.out;omega))
def GrpQ (W w:World) (v:Value) (g:List Int):Prop:=Ints W v g∨w.ownsRow W.heap.size 3 1 v g.length (g.map (Value.int .i64))
theorem GrpQ.ints {W w:World} {v:Value} {g:List Int} (h:GrpQ W w v g) (hb:Below W.heap.size W w):Ints w v g:=h.elim (fun h=>h.below hb) (fun h=>jy h)
theorem GrpQ.below {W w w':World} {v:Value} {g:List Int} (h:GrpQ W w v g) (hb:Below w.heap.size w w'):GrpQ W w' v g:=h.imp id (fun h=>au h hb)
theorem GrpQ.kept {W w w':World} {v:Value} {g:List Int} {row:Option Nat} {T:TypeId} (hT:T≠3) (h:GrpQ W w v g) (hg:w.grownBy w' row) (hne:∀g cs,row=some g→w.heap[g]? =some cs→∃c t,cs= .cells c t (0,0)∧t=T):GrpQ W w' v g:=
 h.imp id (fun h=>Qu h hg (fun g cs k1 k2=>by obtain⟨c,t,h3,h4⟩:=hne g cs k1 k2;exact⟨c,t,h3,by rw[h4];exact hT⟩))
theorem RowsP.set {α:Type} {P:Value→α→Prop} {vs:List Value} {l:List α} {v:Value} {s:α} (h:RowsP P vs l) (hv:P v s) (k:Nat):RowsP P (vs.set k v) (l.set k s):=by
 refine⟨by simp[h.1],fun i h1 h2=> ?_⟩
 rw[List.getElem_set,List.getElem_set]
 split
 ·exact hv
 ·exact h.2 i (by simpa using h1) (by simpa using h2)
theorem qcX {w:World} {B:Nat} {T:TypeId} {v:Value} {n:Nat} {xs:List Value} (h:w.ownsRow B T 1 v n xs) (h0:0<n):
  ∃g cap,v= .slice (some ⟨g,0,none⟩) n cap∧n≤cap∧g<w.heap.size∧(∃cur,w.heap[g]? =some (.cells cur T (0,0)))∧∀i (hi:i<xs.length),w.cell? ⟨g,i,none⟩=some xs[i]:=by
 rcases h.2 with⟨_,h1⟩|⟨g,cap,cur,rfl,hb,hh,hc,_,_,ht⟩
 ·omega
 ·refine⟨g,cap,rfl,hc,ah hh,⟨cur,hh⟩,fun i hi=> ?_⟩
  have hl:=h.1
  have h2:(cur.toList.take (n*1))[i]? =xs[i]? :=by rw[ht]
  rw[qdx (by omega),List.getElem?_eq_getElem hi]at h2
  rw[ag hh]
  simpa using h2
theorem qbA {w:World} {a:Option Addr} {n c:Nat} {xs:List Int} (h:Ints w (.slice a n c) xs):xs.length=n:=by
 obtain⟨_,_,_,e,hn,_⟩:=h
 injection e with _ e2 _
 omega
theorem qcY {l:List (List (List Q4))} {gs:List (List Int)} {p:List Spl} {i:Nat} (h:i<p.length):qbO l gs (p.drop i)=qbO l gs (p[i]::p.drop (i+1)):=by
 rw[List.drop_eq_getElem_cons h]
theorem qcZ {l:List (List (List Q4))} {v:Q3} (h:v∈ways26):∃hk:qbP v<(Uh l).length,(Uh l)[qbP v]'hk=TF l v:=by
 obtain⟨h1,h2⟩:=qbZ h
 refine⟨by rw[Uj];exact h1, ?_⟩
 unfold Uh
 rw[qdB,h2]
theorem qbT (l:List (List (List Q4))) (p:List Spl) (gv pv:Value) (W:World) (hl:l.length≤1000) (hp:p.length≤1000) (hs:∀s∈p,s.1.length≤1000∧s.2.1.length≤1000) (h1:GsV W gv (Uh l)) (h2:Kj W pv p):
  Calls Tryz.prog 30 #[gv, .int .i64 l.length,pv] W (Ret W (.int .i64 (rcp l p))):=by
 obtain⟨i1,Hi1⟩:=qfT VX
 have HAl:=fun W'=>YJ (Yo l.length W' (by omega))
 have HSe:=fun xs v W' (hx:xs.length≤1000) (hb:Below W.heap.size W W') (k:Ints W v xs)=>YJ (Vy xs v l.length W' hl (by omega) (k.below hb))
 have HWe:=fun(x y z:Int) (W':World)=>YJ (El x y z W')
 have HIn:=fun(v v2:Value) (xs ys:List Int) (W':World) (hm:xs.length≤1000000) (k1:Ints W' v xs) (k2:Ints W' v2 ys)=>YJ (VU v v2 xs ys W' hm k1 k2)
 have HWo:=fun(v v2:Value) (xs ys:List Int) (W':World) (hx:xs.length≤1000) (hy:ys.length≤1000) (hb:Below W.heap.size W W') (k1:Ints W v xs) (k2:Ints W v2 ys)=>YJ (Vs v v2 xs ys W' (by omega) (by omega) (k1.below hb) (k2.below hb))
 have HNu:=fun(x y z:Int) (h:mK (x,y,z)=0) (W':World)=>YJ (qci x y z W' (Yu h))
 have HMo:=fun(v:Q3) (gi gv ov:Value) (xs ys:List Int) (W':World) (hx:xs.length≤1000) (hy:ys.length≤1000) (e1:gh xs l.length=0) (e2:gh ys l.length=0) (hb:Below W.heap.size W W') (k0:GrfV W gi (TF l v)) (k1:Ints W gv xs) (k2:Ints W ov ys)=>
  YJ (show Calls Tryz.prog 63 #[gi,gv,ov] W' (Ret W' (.bool (WP (gE (TF l v)) (xs.map Int.toNat) (ys.map Int.toNat))))from
   XV (TF l v) (xs.map Int.toNat) (ys.map Int.toNat) gi gv ov W' (fun r hr=>qaD (Ww l _ r hr) hl) (by rw[qdo];exact hx) (by rw[qdo];exact hy)
    (fun j hj=>by
     rw[TV]
     obtain⟨y,hy,rfl⟩:=altt.1 hj
     have:=DO e2 y hy
     omega) (k0.below hb)
    (by
     show Ints W' gv (nI (xs.map Int.toNat))
     rw[Ve (fun x hx=>(DO e1 x hx).1)]
     exact k1.below hb)
    (by
     show Ints W' ov (nI (ys.map Int.toNat))
     rw[Ve (fun x hx=>(DO e2 x hx).1)]
     exact k2.below hb))
 have HGi:=fun(x y z:Int) (h:mK (x,y,z)=0)=>YJ (@qcZ l (x,y,z) (Yu h))
 have HDr:=fun gs i (h:i<p.length)=>YJ (@qcY l gs p i h)
 have HSs:=fun i (h:i<p.length)=>YJ (hs _ (qaB h))
 have Hr0:Hid ((p.length:Int)≠max ((l.length:Int)-1) 0→rcp l p=10):=YJ (fun h=>by unfold rcp;rw[if_pos h])
 have Hr1:Hid ((p.length:Int)=max ((l.length:Int)-1) 0→qbO l [nI (List.range l.length)] (p.drop 0)=rcp l p):=YJ (fun h=>by unfold rcp;rw[if_neg (by omega)];rfl)
 have HStep:=fun(gs:List (List Int)) (s:Spl) (q:List Spl)=>YJ (show qbO l gs (s::q)=if gh s.1 l.length≠0 then gh s.1 l.length else if gh s.2.1 l.length≠0 then gh s.2.1 l.length else if mK s.2.2≠0 then mK s.2.2 else
  if atF gs s.1 gs.length<0 then 27 else
  if s.2.1.length=0∨(Ug s.1 s.2.1).length=0∨(Ug s.1 s.2.1).length+s.2.1.length≠s.1.length then 3 else
  if WP (gE (TF l s.2.2)) (s.1.map Int.toNat) (s.2.1.map Int.toNat)=false then 18 else
  qbO l (gs.set (atF gs s.1 gs.length).toNat s.2.1++[Ug s.1 s.2.1]) q from rfl)
 have Hfin:Hid (∀gs,qbO l gs (p.drop p.length)=0):=YJ (fun gs=>by rw[List.drop_length];rfl)
 have Hwl:=fun xs ys=>YJ (show(Ug xs ys).length≤xs.length from qdz _ _)
 obtain⟨ga,gn,gc,rfl,hgn, -,hgx⟩:=h1
 obtain rfl:gn=26:=by rw[←hgn,Uj]
 obtain⟨pa,pn,pc,rfl,hpn, -,hpx⟩:=h2
 have HG:=YJ hgx
 have HP:=YJ hpx
 have Hpn:=YJ hpn
 rw[hpn]at hp Hr0 Hr1 Hfin
 have hR0:(nI (List.range l.length)).length=l.length:=by rw[TO,qdA]
 obtain⟨R0,HR0⟩:∃R0,Hid (nI (List.range l.length)=R0):=⟨_,YJ rfl⟩
 rw[HR0.out]at HAl Hr1 hR0
 clear hgx hgn hpx hs hpn HR0
 generalize rcp l p=res at*
 obtain⟨n,Hn⟩:∃n,Hid (l.length=n):=⟨_,YJ rfl⟩
 rw[Hn.out]at HAl HSe Hr0 Hr1 HMo HStep hl hR0 ⊢
 go_enter Tryz.func30,Tryz.ntmps30
 by_cases hlen:(pn:Int)=max ((n:Int)-1) 0
 ·have HD0:=YJ (Hr1.out hlen)
  have hlen':((pn:Int)!=max ((n:Int)-1) 0)=false:=by simpa using hlen
  clear Hr0 Hr1
  go_wp2_with fail
  refine((HAl _).out).mono ?_
  rintro e w1 ⟨v1,rfl,hb1,ho1⟩
  have hw1:Below W.heap.size W w1:=by first|exact hb1|exact fB bel hb1
  rw[hR0]at ho1
  obtain⟨va,vc,rfl⟩:=aT ho1
  obtain⟨X,HX⟩:∃X,Hid (w1.alloc (.cells #[.slice va n vc] 49)=X):=⟨_,YJ rfl⟩
  have hbX:Below w1.heap.size w1 X:=by rw[←HX.out];exact bel
  have hwX:=fB hw1 hbX
  have HOX:Hid (X.ownsRow W.heap.size 49 1 (.slice (some ⟨w1.heap.size,0,none⟩) 1 1) 1 [.slice va n vc]):=YJ (Wv hw1.size (by rw[←HX.out];exact ai rfl))
  have HRX:Hid (RowsP (GrpQ W X) [.slice va n vc] [R0]):=YJ (RowsP.snoc RowsP.nil (.inr (by rw[hR0];exact au ho1 hbX)))
  clear HAl ho1 hb1
  go_wp2
  try rw[HX.out]
  go_loopw [7,8] (fun g x wr=>∃(i m:Nat) (gs:List (List Int)),i≤pn∧Hid (m=i+1)∧x= .int .i64 i∧Below W.heap.size W wr∧∃vs,Hid (wr.ownsRow W.heap.size 49 1 g m vs)∧Hid (RowsP (GrpQ W wr) vs gs)∧Hid (qbO l gs (p.drop i)=res)∧Hid (gs.length=m∧∀g∈gs,g.length≤1000)) (fun _ x _=>pn-(intOf x).toNat)
  case atStart=>exact⟨0,1,[R0],by omega,YJ rfl,rfl,hwX,_,HOX,HRX,HD0,YJ ⟨rfl,fun g hg=>by
   have e:g=R0:=by simpa using hg
   rw[e,hR0]
   exact hl⟩⟩
  case round=>
   obtain⟨i,m,gs,hi,hm,rfl,hb,vs,HO,HR,HD,HL⟩:=hrel
   have hmb:m≤1001:=by have:=hm.out;omega
   have hm0:0<m:=by have:=hm.out;omega
   obtain⟨oa,oc,rfl⟩:=aT HO.out
   by_cases hlt:i<pn
   ·have q1:(i:Int)<(pn:Int):=by omega
    have q2:(0:Int)≤(i:Int):=by omega
    have hil:i<p.length:=by have:=Hpn.out;omega
    obtain⟨b,off,rfl,hx⟩:=HP.out (by omega)
    have hsi:SplA W b (off+i*5) p[i]:=hx i hil
    obtain⟨pgv,pov,c0,c1,c2,c3,c4,j1,j2⟩:=hsi
    have c0:=ab hb c0
    have c1:=ab hb c1
    have c2:=ab hb c2
    have c3:=ab hb c3
    have c4:=ab hb c4
    have z0:=qaC wr _ c0
    simp only at z0
    have hss:=(HSs i hil).out
    have HDi:=HDr gs i hil
    rw[(HStep gs p[i] (p.drop (i+1))).out]at HDi
    have HDk:=YJ (HDi.out.symm.trans HD.out)
    have HI1:=YJ j1
    have HI2:=YJ j2
    obtain⟨a1,n1,d1,rfl⟩:=Ints.sl j1
    obtain⟨a2,n2,d2,rfl⟩:=Ints.sl j2
    have hn1:=qbA HI1.out
    have hn2:=qbA HI2.out
    clear HP hx j1 j2 HSs HDr HStep HDi HD
    generalize p[i]=s at*
    obtain⟨sg,so,sx,sy,sz⟩:=s
    simp only at c2 c3 c4 hss HI1 HI2 hn1 hn2 HDk
    subst hn1
    subst hn2
    have HC1:=fun W' hb=>YJ (HSe sg _ W' hss.1 hb HI1.out).out
    have HC2:=fun W' hb=>YJ (HSe so _ W' hss.2 hb HI2.out).out
    have HCo:=fun W' hb=>YJ (HWo _ _ sg so W' hss.1 hss.2 hb HI1.out HI2.out).out
    have HMi:=fun gi W' e1 e2 hb k0=>YJ (HMo (sx,sy,sz) gi _ _ sg so W' hss.1 hss.2 e1 e2 hb k0 HI1.out HI2.out).out
    have HCg:=fun(k:Nat) v xs W' (hm:xs.length≤1000000) k1 (hb:Below W.heap.size W W')=>YJ (HIn v _ xs sg W' hm k1 (HI1.out.below hb)).out
    have HWl:=YJ (Hwl sg so).out
    obtain⟨rest,Hrest⟩:∃rest,Hid (Ug sg so=rest):=⟨_,YJ rfl⟩
    rw[Hrest.out]at HCo HDk HWl
    obtain⟨mv,Hmv⟩:∃mv,Hid (WP (gE (TF l (sx,sy,sz))) (sg.map Int.toNat) (so.map Int.toNat)=mv):=⟨_,YJ rfl⟩
    rw[Hmv.out]at HMi HDk
    obtain⟨av,Hav⟩:∃av,Hid (atF gs sg gs.length=av):=⟨_,YJ rfl⟩
    rw[Hav.out]at HDk
    have HGk:=fun h=>YJ (HGi sx sy sz h).out
    have HNk:=fun h W'=>YJ (HNu sx sy sz h W').out
    have HWk:=fun W'=>YJ (HWe sx sy sz W').out
    clear HSe HWo HMo HIn Hwl HGi HNu HWe
    generalize gh sg n=se1 at*
    generalize gh so n=se2 at*
    generalize mK (sx,sy,sz)=se3 at*
    obtain⟨Y,HY⟩:∃Y,Hid (wr.alloc (.cells #[.slice a1 sg.length d1, .slice a2 so.length d2, .int .i64 sx, .int .i64 sy, .int .i64 sz] 60)=Y):=⟨_,YJ rfl⟩
    have hbY:Below wr.heap.size wr Y:=by rw[←HY.out];exact bel
    have hwY:=fB hb hbY
    have HBY:Hid (Y.heap[wr.heap.size]? =some (.cells #[.slice a1 sg.length d1, .slice a2 so.length d2, .int .i64 sx, .int .i64 sy, .int .i64 sz] 60 (0,0))):=YJ (by rw[←HY.out];exact ai rfl)
    have HOY:=YJ (au HO.out hbY)
    have HRY:=YJ (HR.out.imp fun _ _ h=>GrpQ.below h hbY)
    have hg1:=hss.1
    have hg2:=hss.2
    clear hss
    generalize sg.length=ng at*
    generalize so.length=no at*
    go_wp2_with fail
    try rw[HY.out]
    refine((HC1 _ hwY).out).mono ?_
    rintro e w2 ⟨rfl,hb2⟩
    have hw2:=fB hwY hb2
    have HB2:=YJ ((hb2.block _ (ah HBY.out)).trans HBY.out)
    have HO2:=YJ (au HOY.out hb2)
    have HR2:=YJ (HRY.out.imp fun _ _ h=>GrpQ.below h hb2)
    clear HC1 HY HBY HOY HRY HO HR c0 c1 c2 c3 c4 z0
    by_cases h1:se1=0
    ·subst h1
     obtain⟨r0,r1,r2,r3,r4,rf,rz⟩:=bM HB2.out
     have h9:=HDk.out
     rw[if_neg (by simp)]at h9
     have HDk1:=YJ h9
     clear h9
     clear HDk
     go_wp2_with fail
     refine((HC2 _ hw2).out).mono ?_
     rintro e w3 ⟨rfl,hb3⟩
     have hw3:=fB hw2 hb3
     have HB3:=YJ ((hb3.block _ (ah HB2.out)).trans HB2.out)
     have HO3:=YJ (au HO2.out hb3)
     have HR3:=YJ (HR2.out.imp fun _ _ h=>GrpQ.below h hb3)
     clear HC2 HB2 HO2 HR2 r0 r1 r2 r3 r4 rf rz
     by_cases h2:se2=0
     ·subst h2
      obtain⟨r0,r1,r2,r3,r4,rf,rz⟩:=bM HB3.out
      have h9:=HDk1.out
      rw[if_neg (by simp)]at h9
      have HDk2:=YJ h9
      clear h9
      clear HDk1
      go_wp2_with fail
      refine((HWk _).out).mono ?_
      rintro e w4 ⟨rfl,hb4⟩
      have hw4:=fB hw3 hb4
      have HB4:=YJ ((hb4.block _ (ah HB3.out)).trans HB3.out)
      have HO4:=YJ (au HO3.out hb4)
      have HR4:=YJ (HR3.out.imp fun _ _ h=>GrpQ.below h hb4)
      clear HWk HB3 HO3 HR3 r0 r1 r2 r3 r4 rf rz
      by_cases h3:se3=0
      ·subst h3
       have h9:=HDk2.out
       rw[if_neg (by simp)]at h9
       have HDk3:=YJ h9
       clear h9
       have HMi':=fun gi W' hb k0=>YJ (HMi gi W' (by trivial) (by trivial) hb k0).out
       have HGk':=YJ (HGk (by trivial)).out
       have HNk':=fun W'=>YJ (HNk (by trivial) W').out
       clear HDk2 HMi HGk HNk
       go_wp2
       go_loopw [13,14] (fun a x ww=>∃k:Nat,k≤m∧x= .int .i64 k∧a= .int .i64 (atF gs sg k)∧Below w4.heap.size w4 ww) (fun _ x _=>m-(intOf x).toNat)
       case atStart=>exact⟨0,by omega,rfl,rfl,brf⟩
       case round=>
        rename World=>ww
        obtain⟨k,hk,rfl,rfl,hbw⟩:=hrel
        by_cases hkm:k<m
        ·have q3:(k:Int)<(m:Int):=by omega
         have q4:(0:Int)≤(k:Int):=by omega
         have hvl:=(HR4.out).1
         have hgl:=HL.out
         have hww:=fB hw4 hbw
         obtain⟨rg,rcap,e,hcc,hgz, -,hcell⟩:=qcX (au HO4.out hbw) (by omega)
         injection e with e1 e2 e3
         subst e1
         subst e3
         have ck:=hcell k (by omega)
         have hq:=((HR4.out).2 k (by omega) (by omega)).below hbw
         have hqi:=hq.ints hww
         obtain⟨r0,r1,r2,r3,r4,rf,rz⟩:=bM ((hbw.block _ (ah HB4.out)).trans HB4.out)
         have hsuc:=qbR gs sg k
         rw[show gs.getD k []=gs[k]'(by omega) by simp[List.getD,show k<gs.length by omega]]at hsuc
         have hlq:=qaD (hgl.2 _ (qaB (show k<gs.length by omega))) (show 1000≤1000000 by decide)
         have HCk:=fun(u:Ext ww)=>YJ (HCg k _ _ u.val hlq (hqi.below u.below) (fB hww u.below)).out
         have Hsuc:=YJ hsuc
         clear hcell hq HO4 HR4 hsuc hlq
         generalize gs[k]'(by omega)=gk at*
         generalize vs[k]'(by omega)=vk at*
         obtain⟨a3,n3,d3,rfl⟩:=Ints.sl hqi
         obtain⟨bq,Hbq⟩:∃bq,Hid (decide (gk=sg)=bq):=⟨_,YJ rfl⟩
         rw[Hbq.out]at HCk
         clear HDk3 HMi' HGk' HNk' HCo hqi HCg
         go_wp2
         refine wqb ?_
         repeat(first|go_big_quiet_step ((go_at_call 61;exact aE ((HCk _).out)))|quiet_step ((go_at_call 61;exact aE ((HCk _).out))))
         refine wqn fun u=> ?_
         have hbu:=fB hbw u.below
         cases bq with
         |true=>
          have e9:gk=sg:=of_decide_eq_true Hbq.out
          have hs9:=Hsuc.out
          rw[if_pos e9]at hs9
          go_wp2
          go_roundw
          case rel=>exact⟨k+1,by omega,by go_num,by rw[hs9],hbu⟩
          simp[intOf];try omega
         |false=>
          have e9:¬gk=sg:=of_decide_eq_false Hbq.out
          have hs9:=Hsuc.out
          rw[if_neg e9]at hs9
          go_wp2
          go_roundw
          case rel=>exact⟨k+1,by omega,by go_num,by rw[hs9],hbu⟩
          simp[intOf];try omega
        ·obtain rfl:k=m:=by omega
         have hav:atF gs sg k=av:=by rw[←HL.out.1];exact Hav.out
         have hbd:=qcN gs sg k
         rw[hav]at hbd ⊢
         have hww:=fB hw4 hbw
         have HBw:=YJ ((hbw.block _ (ah HB4.out)).trans HB4.out)
         have HOw:=YJ (au HO4.out hbw)
         have HRw:=YJ (HR4.out.imp fun _ _ h=>GrpQ.below h hbw)
         clear HB4 HO4 HR4 HCg Hav hav
         by_cases hneg:av<0
         ·have hr:27=res:=by have:=HDk3.out;rwa [if_pos hneg]at this
          subst hr
          clear HDk3 HMi' HGk' HNk' HCo
          go_wp2
          go_ret
          exact⟨by trivial,hww⟩
         ·obtain⟨q,rfl⟩:∃q:Nat,av=(q:Int):=⟨av.toNat,by omega⟩
          have hqk:q<k:=by omega
          have h9:=HDk3.out
          rw[if_neg hneg]at h9
          have HDk4:=YJ h9
          clear h9
          obtain⟨r0,r1,r2,r3,r4,rf,rz⟩:=bM HBw.out
          have HC5:=YJ (HCo _ hww).out
          clear HDk3 HCo
          go_wp2_with fail
          refine(HC5.out).mono ?_
          rintro e w5 ⟨v5,rfl,hb5,ho5⟩
          have hw5:=fB hww hb5
          have HB5:=YJ ((hb5.block _ (ah HBw.out)).trans HBw.out)
          have HO5:=YJ (au HOw.out hb5)
          have HR5:=YJ (HRw.out.imp fun _ _ h=>GrpQ.below h hb5)
          have HN5:=YJ (show GrpQ W w5 v5 rest from .inr (AY ho5 hww.size))
          obtain⟨a5,d5,rfl⟩:=aT ho5
          clear HC5 HBw HOw HRw r0 r1 r2 r3 r4 rf rz ho5
          obtain⟨rl,Hrl⟩:∃rl,Hid (rest.length=rl):=⟨_,YJ rfl⟩
          have hwl:=HWl.out
          rw[Hrl.out]at HDk4 hwl HN5 ⊢
          obtain⟨r0,r1,r2,r3,r4,rf,rz⟩:=bM HB5.out
          by_cases k1:no=0
          ·have hr:3=res:=by have:=HDk4.out;rwa [if_pos (.inl k1)]at this
           subst hr
           subst k1
           clear HDk4 HMi' HGk' HNk'
           go_wp2
           go_ret
           exact⟨by trivial,hw5⟩
          ·by_cases k2:rl=0
           ·have hr:3=res:=by have:=HDk4.out;rwa [if_pos (.inr (.inl k2))]at this
            subst hr
            subst k2
            have k1':((no:Int)==0)=false:=by simpa using k1
            clear HDk4 HMi' HGk' HNk'
            go_wp2
            go_ret
            exact⟨by trivial,hw5⟩
           ·have k1':((no:Int)==0)=false:=by simpa using k1
            have k2':((rl:Int)==0)=false:=by simpa using k2
            by_cases k3:rl+no=ng
            ·have k3':((rl:Int)+(no:Int)!=(ng:Int))=false:=by simp;omega
             have h9:=HDk4.out
             rw[if_neg (by simp[k1,k2,k3])]at h9
             have HDk5:=YJ h9
             clear h9
             obtain⟨hk26,hgn⟩:=HGk'.out
             have hk26':qbP (sx,sy,sz)<26:=by rw[Uj]at hk26;exact hk26
             obtain⟨gb,goff,rfl,hgx⟩:=HG.out (by omega)
             obtain⟨gi,e1,hgi⟩:=hgx _ hk26
             rw[hgn]at hgi
             have f1:=ab hw5 e1
             have HM5:=fun(u:Ext w5)=>YJ (HMi' gi u.val (fB hw5 u.below) hgi).out
             have HN9:=fun(u:Ext w5)=>YJ (HNk' u.val).out
             obtain⟨gia,gin,gic,rfl⟩:∃a n c,gi= .slice a n c:=by obtain⟨a,n,c,h,_⟩:=hgi;exact⟨a,n,c,h⟩
             have y1:=qaC w5 _ f1
             simp only at y1
             clear HDk4 HMi' HGk' HNk' hgx hgi e1 hk26 hgn
             generalize qbP (sx,sy,sz)=nw at*
             have q5:(nw:Int)<26:=by omega
             have q6:(0:Int)≤(nw:Int):=by omega
             go_wp2
             refine wqb ?_
             repeat(first|go_big_quiet_step ((first|(go_at_call 73;exact aE ((HN9 _).out))|(go_at_call 63;exact aE ((HM5 _).out))))|quiet_step ((first|(go_at_call 73;exact aE ((HN9 _).out))|(go_at_call 63;exact aE ((HM5 _).out)))))
             refine wqn fun u=> ?_
             have hb6:=u.below
             generalize u.val=w6 at*
             clear u
             have hw6:=fB hw5 hb6
             have HB6:=YJ ((hb6.block _ (ah HB5.out)).trans HB5.out)
             have HO6:=YJ (au HO5.out hb6)
             have HR6:=YJ (HR5.out.imp fun _ _ h=>GrpQ.below h hb6)
             have HN6:=YJ (HN5.out.below hb6)
             clear HM5 HN9 HB5 HO5 HR5 HN5 r0 r1 r2 r3 r4 rf rz f1 y1
             cases mv with
             |false=>
              have hr:18=res:=by have:=HDk5.out;rwa [if_pos rfl]at this
              subst hr
              go_wp2
              go_ret
              exact⟨by trivial,hw6⟩
             |true=>
              have h9:=HDk5.out
              rw[if_neg (by simp),Int.toNat_natCast]at h9
              have HDk6:=YJ h9
              clear h9
              obtain⟨r0,r1,r2,r3,r4,rf,rz⟩:=bM HB6.out
              obtain⟨rg,rcap,e,hcc,hgz,⟨cur,hcur⟩,hcell⟩:=qcX HO6.out (by omega)
              injection e with e1 e2 e3
              subst e1
              subst e3
              have hvl:=(HR6.out).1
              have hgl:=HL.out
              have ck:=hcell q (by omega)
              have fk:=aC hcur q
              have q7:(q:Int)<(k:Int):=by omega
              have q8:(0:Int)≤(q:Int):=by omega
              obtain⟨Z,HZ⟩:∃Z,Hid (w6.setCell ⟨rg,q,none⟩ (.slice a2 no d2)=Z):=⟨_,YJ rfl⟩
              have hst:=World.ownsRow.stored HO6.out q (.slice a2 no d2)
              rw[HZ.out]at hst
              have hwZ:Below W.heap.size W Z:=by
               rw[←HZ.out]
               exact hw6.setCell ((HO6.out.lt rg (by simp[Value.ownBlock])).1) _
              have HOZ:=YJ hst.1
              have HRZ:=YJ (RowsP.set (HR6.out.imp fun _ _ h=>h.kept (T:=49) (by decide) hst.2 (jC HO6.out)) (show GrpQ W Z (.slice a2 no d2) so from .inl HI2.out) q)
              have HNZ:=YJ (HN6.out.kept (T:=49) (by decide) hst.2 (jC HO6.out))
              clear HB6 HO6 HR6 HN6 HDk5 hst hcell
              go_upto_region 31 with fail
              rw[HZ.out]
              have hbx:Below Z.heap.size Z (Z.alloc (.cells #[.slice a5 rl d5] 49)):=bel
              have HOx:=YJ (au (HOZ).out hbx)
              have HNx:Hid ((Z.alloc (.cells #[.slice a5 rl d5] 49)).heap[Z.heap.size]? =some (.cells #[.slice a5 rl d5] 49 (0,0))):=YJ (ai rfl)
              have HRx:=YJ (RowsP.snoc ((HRZ).out.imp fun _ _ h=>h.below hbx) ((HNZ).out.below hbx))
              have zw1:=(hwZ).size
              go_wp2_with (at_builtin;refine fq _ rfl _ _ 37 rfl W.heap.size 49 i1 (.slice none 0 0) 1 24 VY Hi1.out.1 Hi1.out.2.1 Hi1.out.2.2.1 Hi1.out.2.2.2 rfl (by decide) _ k (vs.set q (.slice a2 no d2)) rfl HOx.out ⟨Z.heap.size,0,none⟩ 1 1 [.slice a5 rl d5] rfl rfl (fun j u hu=>by rw[jY,ag HNx.out];simpa using hu) (fun u hu=>by simp at hu;subst hu;rfl) (by unfold maxLen;omega) (by omega) (by simp;omega) ?_)
              intro v' w4 hown4 hg4 _
              have hb4:Below W.heap.size W w4:=(fB (hwZ) hbx).grown hg4 (by simp;omega) (fun z hz=>(HOx.out.lt z hz).1)
              have HR4:=YJ (HRx.out.imp fun _ _ h=>h.kept (T:=49) (by decide) hg4 (jC HOx.out))
              have HO4:=YJ hown4
              clear hown4 hg4 HOx HNx HRx hbx
              obtain⟨va4,vc4,rfl⟩:=aT HO4.out
              go_wp2
              go_roundw
              case rel=>exact⟨i+1,k+1,_,by omega,YJ (by rw[hm.out]),by go_num,hb4,_,HO4,HR4,HDk6,YJ ⟨by simp[hgl.1],fun g hg=>by
               rcases altl.1 hg with hg|hg
               ·rcases List.mem_or_eq_of_mem_set hg with hg|rfl
                ·exact hgl.2 g hg
                ·have:=qbA HI2.out;omega
               ·obtain rfl:g=rest:=by simpa using hg
                have:=Hrl.out;omega⟩⟩
              simp[intOf];try omega
            ·have k3':((rl:Int)+(no:Int)!=(ng:Int))=true:=by simp;omega
             have hr:3=res:=by have:=HDk4.out;rwa [if_pos (.inr (.inr k3))]at this
             subst hr
             clear HDk4 HMi' HGk' HNk'
             go_wp2
             go_ret
             exact⟨by trivial,hw5⟩
      ·have hr:se3=res:=by have:=HDk2.out;rwa [if_pos h3]at this
       subst hr
       have h3':(se3 !=0)=true:=by simpa using h3
       clear HDk2 HMi HGk HNk HCo HCg
       go_wp2
       go_ret
       exact⟨by trivial,hw4⟩
     ·have hr:se2=res:=by have:=HDk1.out;rwa [if_pos h2]at this
      subst hr
      have h2':(se2 !=0)=true:=by simpa using h2
      clear HDk1 HMi HGk HNk HCo HCg HWk
      go_wp2
      go_ret
      exact⟨by trivial,hw3⟩
    ·have hr:se1=res:=by have:=HDk.out;rwa [if_pos h1]at this
     subst hr
     have h1':(se1 !=0)=true:=by simpa using h1
     clear HDk HMi HGk HNk HCo HCg HWk HC2
     go_wp2
     go_ret
     exact⟨by trivial,hw2⟩
   ·obtain rfl:i=pn:=by omega
    have hr:0=res:=by have:=HD.out;rwa [Hfin.out]at this
    subst hr
    clear HSe HWe HIn HWo HNu HMo HGi HDr HSs HStep HG HP
    go_wp2
    go_ret
    exact⟨by trivial,hb⟩
 ·have hr:res=10:=Hr0.out hlen
  subst hr
  have hlen':((pn:Int)!=max ((n:Int)-1) 0)=true:=by simpa using hlen
  clear HAl HSe HWe HIn HWo HNu HMo HGi HDr HSs HStep HG HP Hr0 Hr1
  go_wp2
  go_ret
  exact⟨by trivial,brf⟩
def qfN (a b c:Int):Value→World→Prop:=fun v w=>∃g,v= .slice (some ⟨g,0,none⟩) 3 3∧w.heap[g]? =some (.cells #[.int .i64 a, .int .i64 b, .int .i64 c] 26 (0,0))
theorem qfB (a b c:Int):dR (qfN a b c):=fun _ _ _ hb ⟨g,h1,h2⟩=>⟨g,h1,(hb.block _ (ah h2)).trans h2⟩
theorem qdN (l:List (List (List Q4))) (p:List Spl) (lv pv:Value) (W:World) (hL:∀s∈l,∀c∈s,c.length≤1000000) (hp:p.length≤300) (hs:∀s∈p,s.1.length≤1000∧s.2.1.length≤1000) (h:SolsV W lv l) (h2:Kj W pv p) (hT:TabAt 1 Lib.deBruijn64tab W):
  Calls Tryz.prog 33 #[lv,pv] W (Ret W (.int .i64 (cpE l p))):=by
 have HCk:=fun W' (h':Below W.heap.size W W')=>YJ (Gd l lv W' hL (SolsV.below h h'))
 have HSe:=fun xs v W' (hx:xs.length≤1000) (hb:Below W.heap.size W W') (k:Ints W v xs)=>YJ (En xs v l.length W' (by omega) (k.below hb))
 have HWe:=fun(x y z:Int) (W':World)=>YJ (Ru x y z W')
 have HSc:=fun(h0:eB l=0) W' (h':Below W.heap.size W W')=>YJ (XO W' h0 (SolsV.below h h'))
 have HAl:=fun(h0:eB l=0) sb mb pv W' k1 k2=>YJ (show Calls Tryz.prog 56 #[.pointer (some ⟨sb,0,none⟩)] W' (fun e w'=>e= .returned (.int .u64 ((2 ^ l.length-1:Nat):Int))∧w'=W')from by
  have:=XS (psB l) sb mb pv W' (by rw[WM];exact(sq h0).1) k1 k2
  rw[WM]at this
  exact this)
 have HGr:=fun(h0:eB l=0) (v:Q3) (hv:v∈ways26) (sb mb m0:Nat) (D:DataW Value) (pv:Value) (W':World) (hm:m0≤1000) k1 k2 k3=>YJ (XW h0 hv sb mb m0 D pv W' hm k1 k2 k3)
 have HSo:=fun(h0:eB l=0) (xs:List Int) (v:Value) (W':World) (hx:xs.length≤1000) (h1:gh xs l.length=0) (hb:Below W.heap.size W W') (k:Ints W v xs)=>YJ ((Cx xs v W' (fun x hx=>by have:=DO h1 x hx;have:=(sq h0).1;omega) (by omega) (k.below hb)).mono fun e w' h=>(show Ret W' (.int .u64 (nr xs:Nat)) e w' from⟨h.1,h.2▸brf⟩))
 have HMv:=fun(h0:eB l=0) (v:Q3) (gb grp out:Nat) (W':World) (hg:grp<4096) (ho:out<2 ^ l.length) (hb:Below W.heap.size W W') (k1:GphAt W' gb (eM (psB l) v))=>YJ (show Calls Tryz.prog 66 #[.slice (some ⟨gb,0,none⟩) l.length l.length, .int .u64 out, .int .u64 grp] W' (Ret W' (.bool (XM (eM (psB l) v) grp out)))from by
  have:=Yk (eM (psB l) v) out grp gb l.length W' (XZ h0 v) (by rw[WK];exact(sq h0).1) (by rw[WK];exact ho) hg (by rw[WK];exact qaA _) k1 (nz hT hb)
  rw[WK]at this
  exact this)
 have Hgl:=fun v=>YJ (WK l v)
 have H12:=fun(h0:eB l=0)=>YJ (sq h0).1
 have HS1:=fun(h0:eB l=0) xs (h1:gh xs l.length=0)=>YJ (show nr xs<4096∧nr xs<2 ^ l.length from⟨KX xs (fun x hx=>by have:=DO h1 x hx;have:=(sq h0).1;omega),Kf l.length xs (fun x hx=>DO h1 x hx)⟩)
 have HAl2:=fun(h0:eB l=0)=>YJ (show 2 ^ l.length-1<4096 from WQ (sq h0).1)
 have HSs:=fun i (h:i<p.length)=>YJ (hs _ (qaB h))
 have HDr:=fun K i (h:i<p.length)=>YJ (show cpA l K (p.drop i)=cpA l K (p[i]::p.drop (i+1))from by rw[List.drop_eq_getElem_cons h])
 have HStep:=fun(K:Nat→Bool) (s:Spl) (q:List Spl)=>YJ (show cpA l K (s::q)=if gh s.1 l.length≠0 then gh s.1 l.length else if gh s.2.1 l.length≠0 then gh s.2.1 l.length else if mK s.2.2≠0 then mK s.2.2 else
  if K (nr s.1)=false then 27 else
  if nr s.2.1=0∨dN (nr s.2.1) (nr s.1)≠0∨nr s.2.1=nr s.1 then 3 else
  if XM (eM (psB l) s.2.2) (nr s.1) (nr s.2.1)=false then 18 else
  cpA l (qfp K (nr s.1) (nr s.2.1)) q from rfl)
 have Hfin:Hid (∀K,cpA l K (p.drop p.length)=0):=YJ (fun K=>by rw[List.drop_length];rfl)
 have He1:Hid (eB l≠0→cpE l p=eB l):=YJ (fun h=>by unfold cpE;rw[if_pos h])
 have He2:Hid (eB l=0→(p.length:Int)≠max ((l.length:Int)-1) 0→cpE l p=10):=YJ (fun h h2=>by unfold cpE;rw[if_neg (by simpa using h),if_pos h2])
 have He3:Hid (eB l=0→(p.length:Int)=max ((l.length:Int)-1) 0→cpA l (fun x=>x==2 ^ l.length-1) (p.drop 0)=cpE l p):=YJ (fun h h2=>by unfold cpE;rw[if_neg (by simpa using h),if_neg (by omega)];rfl)
 have HlV:Hid (∃a n c,lv= .slice a n c∧l.length=n):=YJ (by obtain⟨a,n,c,rfl,hn,_⟩:=h;exact⟨a,n,c,rfl,hn⟩)
 obtain⟨la,ln,lc,rfl,hln⟩:=HlV.out
 obtain⟨pa,pn,pc,rfl,hpn, -,hpx⟩:=h2
 have HP:=YJ hpx
 have Hpn:=YJ hpn
 have HT:=YJ hT
 rw[hln]at HSe HAl HMv H12 HS1 HAl2 HStep He2 He3 HSo Hgl
 rw[hpn]at hp Hfin He2 He3
 clear h hL hs hpx hT HlV hln hpn
 generalize cpE l p=res at*
 obtain⟨cp,Hcp⟩:∃cp,Hid (cpA l=cp):=⟨_,YJ rfl⟩
 rw[Hcp.out]at HDr HStep Hfin He3
 obtain⟨ps,HPs⟩:∃ps,Hid (psB l=ps):=⟨_,YJ rfl⟩
 rw[HPs.out]at HSc HAl HGr HMv HStep Hgl
 clear HPs Hcp
 generalize eB l=A at*
 go_enter Tryz.func33,Tryz.ntmps33
 go_wp2_with fail
 refine((HCk _ bel).out).mono ?_
 rintro e w1 ⟨rfl,hb1⟩
 have hw1:Below W.heap.size W w1:=by first|exact hb1|exact fB bel hb1
 clear HCk hb1
 by_cases hA:A=0
 ·subst hA
  have h12:=(H12 (by trivial)).out
  have HSc':=fun W' h'=>YJ (HSc (by trivial) W' h').out
  have HAl':=fun sb mb pv W' k1 k2=>YJ (HAl (by trivial) sb mb pv W' k1 k2).out
  have HGr':=fun v hv sb mb m0 D pv W' hm k1 k2 k3=>YJ (HGr (by trivial) v hv sb mb m0 D pv W' hm k1 k2 k3).out
  have HSo':=fun xs v W' hx h1 hb k=>YJ (HSo (by trivial) xs v W' hx h1 hb k).out
  have HMv':=fun v gb grp out W' hg ho hb k1=>YJ (HMv (by trivial) v gb grp out W' hg ho hb k1).out
  have HS1':=fun xs h1=>YJ (HS1 (by trivial) xs h1).out
  have hAl2:=(HAl2 (by trivial)).out
  have He2':=YJ (He2.out (by trivial))
  have He3':=YJ (He3.out (by trivial))
  clear H12 HSc HAl HGr HSo HMv HS1 HAl2 He1 He2 He3
  by_cases hlen:(pn:Int)=max ((ln:Int)-1) 0
  ·have hlen':((pn:Int)!=max 0 ((ln:Int)-1))=false:=by simp;omega
   have HD0:=YJ (He3'.out hlen)
   clear He2' He3' hlen
   go_wp2_with fail
   refine((HSc' _ hw1).out).mono ?_
   rintro e w4 ⟨sb,mb,pv,rfl,hb4,hS4,hM4,hmb,hsb,hne,hP4⟩
   have hw4:=fB hw1 hb4
   have hmz:mb<w4.heap.size:=by
    obtain⟨es,ck,h,_⟩:=hM4
    exact(alsl.1 h).1
   have hsm:sb≠mb:=fun e=>hne e.symm
   generalize 2 ^ ln-1=AL at*
   obtain⟨V,HV⟩:∃V,Hid (w4.alloc (.map #[] 0)=V):=⟨_,YJ rfl⟩
   have hV:Below w4.heap.size w4 V:=by rw[←HV.out];exact bel
   have hM0:OwB V w4.heap.size 0 (fun _=>false):=by rw[←HV.out];exact OwB.made w4
   obtain⟨w5,hrun,hO5,hg5⟩:=hM0.put (by unfold maxLen;omega) hAl2
   have HAV:=YJ (HAl' sb mb pv V ((hV.block _ (ah hS4)).trans hS4) (PtsV.below hP4 hV)).out
   have HB5:Hid (ButM mb w4 w5):=YJ ((ButM.of_below (Nat.le_of_lt hmz) hV).later hg5 (qaA _) hmz)
   have HM5:Hid (MapS w5 mb 0 (.map []) (eM ps)):=YJ (((Yv hM4).kept hV).moved hg5 (fun e=>absurd (qgb e) (Nat.ne_of_gt hmz)) (fun r e=>by cases e;exact hM0.obj))
   have HO5:Hid (OwB w5 w4.heap.size 1 (fun x=>x==AL)):=YJ (hO5.congr (fun x=>by by_cases e:x=AL<;>simp[e]))
   have HCc:=fun(X:World) (hb:ButM mb w4 X)=>YJ (hb.ck hM4)
   have HIc:=fun(X:World) (hb:ButM mb w4 X)=>YJ (show Below W.heap.size W X from hw4.trans (hb.1.mono (qaD hw1.size hmb)))
   have HS4:=YJ hS4
   have HP4:=YJ hP4
   have HGb:Hid (∃gb,w4.heap.size=gb):=YJ ⟨_,rfl⟩
   have hmm:= @run_makeMap Tryz.prog
   clear HSc' HAl' hb4 hM4 hS4 hP4 hM0 hO5 hg5 hV
   go_wp2_with fail
   try rw[HV.out]
   refine(HAV.out).mono ?_
   rintro e V ⟨rfl,rfl⟩
   clear HAV HV
   go_wp2
   obtain⟨gb,hgb⟩:=HGb.out
   rw[hgb]at HO5 ⊢
   have Hgb:=YJ hgb
   clear hrun hmm HGb hgb
   go_loopw [34] (fun x wr=>∃(i m n:Nat) (D:DataW Value) (K:Nat→Bool),i≤pn∧x= .int .i64 i∧ButM mb w4 wr∧Hid (MapS wr mb m D (eM ps))∧m≤2*i∧Hid (OwB wr gb n K)∧n≤1+2*i∧Hid (cp K (p.drop i)=res)) (fun x _=>pn-(intOf x).toNat)
   case atStart=>exact⟨0,0,1,_,_,by omega,rfl,HB5.out,HM5,by omega,HO5,by omega,HD0⟩
   case round=>
    obtain⟨i,m,n,Dm,K,hi,rfl,hbm,HM,hm,HO,hn,HF⟩:=hrel
    have hck:=(HCc wr hbm).out
    have hbW:=(HIc wr hbm).out
    clear HB5 HM5 HO5 HD0
    by_cases hlt:i<pn
    ·have q1:(i:Int)<(pn:Int):=by omega
     have q2:(0:Int)≤(i:Int):=by omega
     have hil:i<p.length:=by rw[Hpn.out];exact hlt
     obtain⟨b,off,rfl,hx⟩:=HP.out (by omega)
     have hsi:SplA W b (off+i*5) p[i]:=hx i hil
     obtain⟨pgv,pov,c0,c1,c2,c3,c4,j1,j2⟩:=hsi
     have c0:=ab hbW c0
     have c1:=ab hbW c1
     have c2:=ab hbW c2
     have c3:=ab hbW c3
     have c4:=ab hbW c4
     have z0:=qaC wr _ c0
     simp only at z0
     have hss:=(HSs i hil).out
     have HDi:=(HDr K i hil).out
     rw[(HStep K p[i] (p.drop (i+1))).out,HF.out]at HDi
     have HDk:=YJ HDi
     have HI1:=YJ j1
     have HI2:=YJ j2
     obtain⟨a1,n1,d1,rfl⟩:=Ints.sl j1
     obtain⟨a2,n2,d2,rfl⟩:=Ints.sl j2
     have HSr:=YJ ((hbm.2.2 _ (ah HS4.out) hsm).trans HS4.out)
     have HPr:=YJ (hck.pts HP4.out)
     clear HP hx HDr HStep HF HDi j1 j2 HSs
     generalize p[i]=s at*
     obtain⟨xs,ys,v0,v1,v2⟩:=s
     simp only at c2 c3 c4 hss HDk HI1 HI2
     obtain⟨X,HX⟩:∃X,Hid (wr.alloc (.cells #[.slice a1 n1 d1, .slice a2 n2 d2, .int .i64 v0, .int .i64 v1, .int .i64 v2] 60)=X):=⟨_,YJ rfl⟩
     have hbX:Below wr.heap.size wr X:=by rw[←HX.out];exact bel
     have HBX:Hid (X.heap[wr.heap.size]? =some (.cells #[.slice a1 n1 d1, .slice a2 n2 d2, .int .i64 v0, .int .i64 v1, .int .i64 v2] 60 (0,0))):=YJ (by rw[←HX.out];exact ai rfl)
     have hwX:=fB hbW hbX
     have HSe1:=fun W' h'=>YJ (HSe xs _ W' hss.1 h' HI1.out).out
     have HSe2:=fun W' h'=>YJ (HSe ys _ W' hss.2 h' HI2.out).out
     have HWe1:=fun W'=>YJ (HWe v0 v1 v2 W').out
     have hmX:mb<wr.heap.size:=qaG hmz hbm.2.1
     clear HSe HWe
     go_wp2
     rw[HX.out]
     obtain⟨x0,x1,x2,x3,x4,xz⟩:X.cell? ⟨wr.heap.size,0,none⟩=some (.slice a1 n1 d1)∧X.cell? ⟨wr.heap.size,1,none⟩=some (.slice a2 n2 d2)∧X.cell? ⟨wr.heap.size,2,none⟩=some (.int .i64 v0)∧X.cell? ⟨wr.heap.size,3,none⟩=some (.int .i64 v1)∧X.cell? ⟨wr.heap.size,4,none⟩=some (.int .i64 v2)∧wr.heap.size<X.heap.size:=⟨(ag HBX.out 0).trans rfl,(ag HBX.out 1).trans rfl,(ag HBX.out 2).trans rfl,(ag HBX.out 3).trans rfl,(ag HBX.out 4).trans rfl,ah HBX.out⟩
     clear c0 c1 c2 c3 c4 z0
     obtain⟨E1,HE1⟩:∃E1,Hid (gh xs ln=E1):=⟨_,YJ rfl⟩
     obtain⟨E2,HE2⟩:∃E2,Hid (gh ys ln=E2):=⟨_,YJ rfl⟩
     obtain⟨E3,HE3⟩:∃E3,Hid (mK (v0,v1,v2)=E3):=⟨_,YJ rfl⟩
     rw[HE1.out]at HSe1
     rw[HE2.out]at HSe2
     rw[HE3.out]at HWe1
     rw[HE1.out,HE2.out,HE3.out]at HDk
     apply aj [15] [0,1,2,3,4,5,6,7,8,9,10,11,12,13,15] 14 [] [sv _,sv _,sv _,sv _,sv _,sv _,sv _,sv _,sv _,sv _,sv _,sv _,sv _,⟨qfN E1 E2 E3,by first|exact qfB _ _ _⟩,sv undef,sv _] (by kernel_rfl) (by kernel_rfl)
     iterate 4 ((try go_frame);refine wkQ ?_)
     try go_frame
     refine wkV ?_
     apply ex3
     ·intro u K hK
      go_simp
      refine((HSe1 _ (fB hwX u.below)).out).mono ?_
      rintro e w9 ⟨rfl,hb9⟩
      exact hK _ hb9
     rfl
     iterate 4 ((try go_frame);refine wkQ ?_)
     try go_frame
     refine wkV ?_
     apply ex3
     ·intro u K hK
      go_simp
      refine((HSe2 _ (fB hwX u.below)).out).mono ?_
      rintro e w9 ⟨rfl,hb9⟩
      exact hK _ hb9
     rfl
     iterate 2 ((try go_frame);refine wkQ ?_)
     try go_frame
     refine wkV ?_
     apply ex3
     ·intro u K hK
      go_simp
      refine((HWe1 _).out).mono ?_
      rintro e w9 ⟨rfl,hb9⟩
      exact hK _ hb9
     rfl
     try go_frame
     refine wkU (fun u hR K hK=> ?_) (fun o13=> ?_)
     ·clear hR
      go_simp
      exact hK _ _ bel ⟨_,rfl,ai rfl⟩
     try go_frame
     refine wkz rfl rfl rfl rfl ?_
     apply Exists.intro
     apply And.intro
     ·intro w9
      go_simp
      try rfl
     refine⟨rfl, ?_⟩
     try go_frame
     refine aI (fun u hR=> ?_)
     obtain⟨g13,rfl,hg13⟩:qfN E1 E2 E3 o13 u.val:=hR 13 (by simp)
     have HG13:=YJ hg13
     have hbu:=fB hbX u.below
     have hwu:=fB hbW hbu
     have HBu:=YJ ((u.below.block _ (ah HBX.out)).trans HBX.out)
     clear hR hg13 HBX x0 x1 x2 x3 x4 xz HSe1 HSe2 HWe1 hwX hbX
     generalize u.val=w6 at*
     clear u
     simp only[oas]
     go_wp2
     refine NoPanic.normal ?_
     obtain⟨y0,y1,y2,yz⟩:w6.cell? ⟨g13,0,none⟩=some (.int .i64 E1)∧w6.cell? ⟨g13,1,none⟩=some (.int .i64 E2)∧w6.cell? ⟨g13,2,none⟩=some (.int .i64 E3)∧g13<w6.heap.size:=⟨(ag HG13.out 0).trans rfl,(ag HG13.out 1).trans rfl,(ag HG13.out 2).trans rfl,ah HG13.out⟩
     go_wp2
     go_loopw [53] (fun x wy=>∃j:Int,0≤j∧j≤3∧x= .int .i64 j∧wy=w6∧(1≤j→E1=0)∧(2≤j→E2=0)∧(3≤j→E3=0)) (fun x _=>3-(intOf x).toNat)
     case atStart=>exact⟨0,by omega,by omega,rfl,rfl,by omega,by omega,by omega⟩
     case round=>
      rename World=>wy
      obtain⟨j,hj0,hj,rfl,hwy,k1,k2,k3⟩:=hrel
      have hwy':w6=wy:=hwy.symm
      subst hwy'
      clear hwy
      rcases(by omega:j=0∨j=1∨j=2∨j=3)with rfl|rfl|rfl|rfl
      ·clear k1 k2 k3 hj0 hj HGr' HSo' HMv' HS1'
       by_cases h1:E1=0
       ·subst h1
        go_wp2
        go_roundw
        case rel=>exact⟨1,by omega,by omega,rfl,by trivial,fun _=>by trivial,by omega,by omega⟩
        first|decide|(simp[intOf];done)
       ·have h1':(E1 !=0)=true:=by simpa using h1
        have hr:res=_:=HDk.out.trans (if_pos h1)
        subst hr
        go_wp2
        go_ret
        exact⟨by trivial,hwu⟩
      ·have h0:=k1 (by omega)
       subst h0
       clear k1 k2 k3 hj0 hj HGr' HSo' HMv' HS1'
       by_cases h1:E2=0
       ·subst h1
        go_wp2
        go_roundw
        case rel=>exact⟨2,by omega,by omega,rfl,by trivial,fun _=>by trivial,fun _=>by trivial,by omega⟩
        first|decide|(simp[intOf];done)
       ·have h1':(E2 !=0)=true:=by simpa using h1
        have hr:res=_:=HDk.out.trans ((if_neg (by simp)).trans (if_pos h1))
        subst hr
        go_wp2
        go_ret
        exact⟨by trivial,hwu⟩
      ·have h0:=k1 (by omega)
       subst h0
       have h00:=k2 (by omega)
       subst h00
       clear k1 k2 k3 hj0 hj HGr' HSo' HMv' HS1'
       by_cases h1:E3=0
       ·subst h1
        go_wp2
        go_roundw
        case rel=>exact⟨3,by omega,by omega,rfl,by trivial,fun _=>by trivial,fun _=>by trivial,fun _=>by trivial⟩
        first|decide|(simp[intOf];done)
       ·have h1':(E3 !=0)=true:=by simpa using h1
        have hr:res=_:=HDk.out.trans ((if_neg (by simp)).trans ((if_neg (by simp)).trans (if_pos h1)))
        subst hr
        go_wp2
        go_ret
        exact⟨by trivial,hwu⟩
      ·have h0:=k1 (by omega)
       subst h0
       have h00:=k2 (by omega)
       subst h00
       have h000:=k3 (by omega)
       subst h000
       clear k1 k2 k3 hj0 hj y0 y1 y2 yz
       have hDm:=HDk.out.trans ((if_neg (by simp)).trans ((if_neg (by simp)).trans (if_neg (by simp))))
       obtain⟨hg12, -⟩:=(HS1' xs HE1.out).out
       obtain⟨ho12,ho2⟩:=(HS1' ys HE2.out).out
       have hv:=Yu HE3.out
       have HSo1:=fun W' h'=>YJ (HSo' xs _ W' hss.1 HE1.out h' HI1.out).out
       have HSo2:=fun W' h'=>YJ (HSo' ys _ W' hss.2 HE2.out h' HI2.out).out
       clear HSo' HS1' HE1 HE2 HE3 HI1 HI2 hss
       try simp only at hDm
       generalize nr xs=G at*
       generalize nr ys=O at*
       have HDm:=YJ hDm
       obtain⟨x0,x1,x2,x3,x4,xz⟩:w6.cell? ⟨wr.heap.size,0,none⟩=some (.slice a1 n1 d1)∧w6.cell? ⟨wr.heap.size,1,none⟩=some (.slice a2 n2 d2)∧w6.cell? ⟨wr.heap.size,2,none⟩=some (.int .i64 v0)∧w6.cell? ⟨wr.heap.size,3,none⟩=some (.int .i64 v1)∧w6.cell? ⟨wr.heap.size,4,none⟩=some (.int .i64 v2)∧wr.heap.size<w6.heap.size:=⟨(ag HBu.out 0).trans rfl,(ag HBu.out 1).trans rfl,(ag HBu.out 2).trans rfl,(ag HBu.out 3).trans rfl,(ag HBu.out 4).trans rfl,ah HBu.out⟩
       clear HDk hDm
       go_wp2
       apply aj [] [0,1,2,3,4,5] 6 [7] [sv _,sv _,sv _,sv _,sv _,sv _] (by kernel_rfl) (by kernel_rfl)
       iterate 2 ((try go_frame);refine wkQ ?_)
       try go_frame
       refine wkV ?_
       apply ex3
       ·intro u K hK
        go_simp
        refine((HSo1 _ (fB hwu u.below)).out).mono ?_
        rintro e w9 ⟨rfl,hb9⟩
        exact hK _ hb9
       rfl
       iterate 2 ((try go_frame);refine wkQ ?_)
       try go_frame
       refine wkV ?_
       apply ex3
       ·intro u K hK
        go_simp
        refine((HSo2 _ (fB hwu u.below)).out).mono ?_
        rintro e w9 ⟨rfl,hb9⟩
        exact hK _ hb9
       rfl
       try go_frame
       refine aI (fun u hR=> ?_)
       have hbv:=fB hbu u.below
       have hwv:=fB hbW hbv
       have HBv:=YJ ((u.below.block _ (ah HBu.out)).trans HBu.out)
       clear hR x0 x1 x2 x3 x4 xz HSo1 HSo2 HBu HG13 hbu hwu
       generalize u.val=w8 at*
       clear u
       have HO8:=YJ (HO.out.below hbv)
       have HM8:=YJ (HM.out.kept hbv)
       have HS8:=YJ ((hbv.block _ (ah HSr.out)).trans HSr.out)
       have HP8:=YJ (PtsV.below HPr.out hbv)
       have hbm8:=hbm.trans (.of_below (Nat.le_of_lt hmX) hbv)
       have hlk:=HO8.out.look hg12
       clear HO HM HSr HPr hbv
       obtain⟨c,Hc⟩:∃c,Hid (K G=c):=⟨_,YJ rfl⟩
       rw[Hc.out]at hlk HDm
       simp only[oas]
       go_wp2
       refine NoPanic.normal ?_
       cases c with
       |false=>
        clear HGr' HMv'
        have hr:res=_:=HDm.out.trans (if_pos rfl)
        subst hr
        go_wp2
        go_ret
        exact⟨by trivial,hwv⟩
       |true=>
        have HDn:=YJ (HDm.out.trans (if_neg (by simp)))
        have hand:=CT O G (by omega) (by omega)
        have hdl:dN O G<4096:=Yc ho12
        clear HDm
        by_cases f1:O=0
        ·subst f1
         clear HGr' HMv' hand
         have hr:res=_:=HDn.out.trans (if_pos (.inl rfl))
         subst hr
         go_wp2
         go_ret
         exact⟨by trivial,hwv⟩
        ·have f1':((O:Int)==0)=false:=by simp;omega
         by_cases f2:dN O G=0
         ·rw[f2]at hand
          by_cases f3:O=G
          ·subst f3
           clear HGr' HMv'
           have hr:res=_:=HDn.out.trans (if_pos (.inr (.inr rfl)))
           subst hr
           go_wp2
           go_ret
           exact⟨by trivial,hwv⟩
          ·have f3':((O:Int)==(G:Int))=false:=by simp;omega
           have HDo:=YJ (HDn.out.trans (if_neg (fun h=>h.elim f1 (fun h=>h.elim (fun h=>h f2) f3))))
           obtain⟨x0,x1,x2,x3,x4,xz⟩:w8.cell? ⟨wr.heap.size,0,none⟩=some (.slice a1 n1 d1)∧w8.cell? ⟨wr.heap.size,1,none⟩=some (.slice a2 n2 d2)∧w8.cell? ⟨wr.heap.size,2,none⟩=some (.int .i64 v0)∧w8.cell? ⟨wr.heap.size,3,none⟩=some (.int .i64 v1)∧w8.cell? ⟨wr.heap.size,4,none⟩=some (.int .i64 v2)∧wr.heap.size<w8.heap.size:=⟨(ag HBv.out 0).trans rfl,(ag HBv.out 1).trans rfl,(ag HBv.out 2).trans rfl,(ag HBv.out 3).trans rfl,(ag HBv.out 4).trans rfl,ah HBv.out⟩
           have HGx:=YJ ((HGr' (v0,v1,v2) hv sb mb m Dm pv w8 (by omega) HS8.out HM8.out HP8.out).out.mono (fun e w' h=>show ∃(g m':Nat) (D':DataW Value),e= .returned (.slice (some ⟨g,0,none⟩) ln ln)∧Below mb w8 w'∧w8.heap.size≤w'.heap.size∧(∀k,k<w8.heap.size→k≠mb→w'.heap[k]? =w8.heap[k]?)∧GphAt w' g (eM ps (v0,v1,v2))∧MapS w' mb m' D' (eM ps)∧m'≤m+2 from by
            obtain⟨g,m',D',he,r1,r2,r3,r4,r5,r6⟩:=h
            rw[(Hgl _).out]at he
            exact⟨g,m',D',he,r1,r2,r3,r4,r5,r6⟩))
           have HMx:=fun g W' hb k=>YJ (HMv' (v0,v1,v2) g G O W' hg12 ho2 hb k).out
           simp only[vW]at HGx
           obtain⟨GP,HGP⟩:∃GP,Hid (eM ps (v0,v1,v2)=GP):=⟨_,YJ rfl⟩
           rw[HGP.out]at HGx HMx HDo
           obtain⟨cb,Hcb⟩:∃cb,Hid (XM GP G O=cb):=⟨_,YJ rfl⟩
           rw[Hcb.out]at HMx HDo
           clear HGr' HMv' HDn f1 f3
           go_wp2_with fail
           refine(HGx.out).mono ?_
           rintro e w9 ⟨g,m',D',rfl,r1,r2,r3,r4,r5,r6⟩
           have hbm9:=hbm8.trans ⟨r1,r2,r3⟩
           have hw9:=(HIc w9 hbm9).out
           have HC9:=YJ (HMx g w9 hw9 r4).out
           have HO9:=YJ (HO8.out.butm ⟨r1,r2,r3⟩ (by have:=Hgb.out;omega))
           have HM9:=YJ r5
           clear HGx HMx r1 r2 r3 r4 r5 HO8 HM8 HS8 HP8 x0 x1 x2 x3 x4 xz HBv
           go_wp2_with fail
           refine(HC9.out).mono ?_
           rintro e w10 ⟨rfl,hb10⟩
           have hbm10:=hbm9.trans (.of_below (by have:=hbm9.2.1;omega) hb10)
           have hw10:=(HIc w10 hbm10).out
           have HO10:=HO9.out.below hb10
           have HM10:=HM9.out.kept hb10
           clear HC9 HO9 HM9
           cases cb with
           |false=>
            have hr:res=_:=HDo.out.trans (if_pos rfl)
            subst hr
            go_wp2
            go_ret
            exact⟨by trivial,hw10⟩
           |true=>
            have HDp:=YJ (HDo.out.trans (if_neg (by simp)))
            have hgb':=Hgb.out
            have hne':¬(gb=mb):=by omega
            have hand2:=CT G O (by omega) (by omega)
            have hdg:dN G O<4096:=Yc hg12
            obtain⟨w11,h11,o11,g11⟩:=HO10.del hg12 0
            obtain⟨w12,h12',o12,g12⟩:=o11.put (by unfold maxLen;omega) ho12
            obtain⟨w13,h13',o13,g13'⟩:=o12.put (by unfold maxLen;omega) hdg
            have HB13:Hid (ButM mb w4 w13):=YJ (((hbm10.later g11 (by omega) hmz).later g12 (by omega) hmz).later g13' (by omega) hmz)
            have HM13:=YJ (((HM10.moved g11 (fun e=>hne' (qgb e)) (fun r e=>by cases e;exact HO10.obj)).moved g12 (fun e=>hne' (qgb e)) (fun r e=>by cases e;exact o11.obj)).moved g13' (fun e=>hne' (qgb e)) (fun r e=>by cases e;exact o12.obj))
            have HO13:Hid (OwB w13 gb (n+1+1) (qfp K G O)):=YJ (o13.congr (fun x=>rfl))
            clear hlk HO10 HM10 o11 o12 o13 g11 g12 g13' HDo hgb' hne' hbm10 hbm9 hbm8
            generalize dN G O=gd at*
            go_wp2
            go_roundw
            case rel=>exact⟨i+1,m',n+1+1,D',_,by omega,by go_num,HB13.out,HM13,by omega,HO13,by omega,YJ HDp.out.symm⟩
            simp[intOf];try omega
         ·have f2':((dN O G:Nat):Int)≠0:=by omega
          have f2'':(((dN O G:Nat):Int)!=0)=true:=by simpa using f2
          clear HGr' HMv'
          generalize dN O G=od at*
          have hr:res=_:=HDn.out.trans (if_pos (.inr (.inl f2)))
          subst hr
          go_wp2
          go_ret
          exact⟨by trivial,hwv⟩
    ·obtain rfl:i=pn:=by omega
     have hr:=HF.out
     rw[Hfin.out]at hr
     subst hr
     clear HSe HWe HGr' HSo' HMv' HS1' HDr HStep HSs HCc HIc HP
     go_wp2
     go_ret
     exact⟨by trivial,hbW⟩
  ·have hlen':((pn:Int)!=max 0 ((ln:Int)-1))=true:=by simp;omega
   obtain rfl:=He2'.out hlen
   clear HSc' HAl' HGr' HSo' HMv' HS1' He3' hlen HSe HWe HDr HStep Hfin
   go_wp2
   go_ret
   exact⟨by trivial,hw1⟩
 ·have hA':(A !=0)=true:=by simpa using hA
  obtain rfl:=He1.out hA
  clear HSc HAl HGr HSo HMv HS1 HAl2 He2 He3 HSe HWe HDr HStep Hfin H12
  go_wp2
  go_ret
  exact⟨by trivial,hw1⟩
def WkV (w:World) (v:Value) (xs:List Int):Prop:=Ints w v xs∧MW v
def OwnX (B:Nat) (w:World) (v:Value) (xs:List Int):Prop:=w.ownsRow B 3 1 v xs.length (xs.map (Value.int .i64))
theorem OwnX.below {B:Nat} {w w':World} {v:Value} {l:List Int} (h:OwnX B w v l) (hb:Below w.heap.size w w'):OwnX B w' v l:=au h hb
theorem OwnX.mono {B B':Nat} {w:World} {v:Value} {l:List Int} (h:OwnX B w v l) (hb:B'≤B):OwnX B' w v l:=AY h hb
theorem OwnX.ints {B:Nat} {w:World} {v:Value} {l:List Int} (h:OwnX B w v l):Ints w v l:=jy h
theorem OwnX.kept {B:Nat} {w w':World} {v:Value} {l:List Int} {row:Option Nat} {T:TypeId} (hT:T≠3) (h:OwnX B w v l) (hg:w.grownBy w' row) (hne:∀g cs,row=some g→w.heap[g]? =some cs→∃c t,cs= .cells c t (0,0)∧t=T):OwnX B w' v l:=
 Qu h hg (fun g cs k1 k2=>by obtain⟨c,t,h3,h4⟩:=hne g cs k1 k2;exact⟨c,t,h3,by rw[h4];exact hT⟩)
def qeM (B:Nat) (xs:List Int):Value→World→Prop:=fun v w=>OwnX B w v xs
theorem qdG (B:Nat) (xs:List Int):dR (qeM B xs):=fun _ _ _ hb h=>OwnX.below h hb
end
end Go.Proofs.YtnpmkepfpekhfaaGreatDoor
