/- texts: W6 W7 R0 D1 G3 GM GB. -/
import Derived.Test.YtokhkhnofkcalaaGreatDoorKZS16
import Derived.Test.YtokhkhnofkcalaaGreatDoorKZS17
import Derived.Test.YtokhkhnofkcalaaGreatDoorKZS18
namespace Go.Proofs.YtokhkhnofkcalaaGreatDoor
set_option maxHeartbeats 8000000
set_option linter.unusedSimpArgs false
set_option linter.unusedVariables false
section
open Go.RowKit Go.Shelf
theorem xJ (p:Q4) (h:bI p):bI (dG p):=by
 obtain⟨a,b,c,d⟩:=p
 obtain⟨ha,hb,hc,hd⟩:=h
 simp only at ha hb hc hd
 have e1:=bH (aY [a,b,c,d] a (by simp))
 have e2:=bH (aY [a,b,c,d] b (by simp))
 have e3:=bH (aY [a,b,c,d] c (by simp))
 have e4:=bH (aY [a,b,c,d] d (by simp))
 have t1:=bZ (g:=aU [a,b,c,d]) ha
 have t2:=bZ (g:=aU [a,b,c,d]) hb
 have t3:=bZ (g:=aU [a,b,c,d]) hc
 have t4:=bZ (g:=aU [a,b,c,d]) hd
 rw[e1]at t1
 rw[e2]at t2
 rw[e3]at t3
 rw[e4]at t4
 exact⟨t1,t2,t3,t4⟩
theorem tE {ps:List Q4} (hps:∀p∈ps,bI p):∀c∈cd ps,fD c:=fun c hc=>by
 have hr:=((lf ps).2 c).1 hc
 obtain⟨p,hp,q,hq,r,hr',h0,rfl⟩:=mx (Nat.le_refl _) hr
 have:=lV p q r (hps p hp) (hps q hq) (hps r hr')
 exact lW p q r _ (hps p hp) (hps q hq) (hps r hr') (by omega) h0
theorem rv {ps:List Q4} (h:ps.length≤64):(cd ps).length≤300000:=by
 have h1:=pO (raw ps ps.length)
 have h2:=jp ps ps.length h
 unfold cd
 unfold pN at h1
 omega
theorem tF (p:Q4) (w:World) (h:cI p):Calls Tryz.prog 128 #[v4 p] w (Ret w (v4 (dG p))):=by
 obtain⟨⟨h0,h1,h2,h3⟩,hne⟩:=h
 exact pF p.1 p.2.1 p.2.2.1 p.2.2.2 w (by omega) (by omega) (by omega) (by omega) hne
theorem pU (p q:Q4) (w:World):Calls Tryz.prog 130 #[v4 p,v4 q] w (Ret w (.bool (decide (bD p q<0)))):=mU _ _ _ _ _ _ _ _ w
theorem rx (p:Q4) (cs:List Q4) (k:Nat) (h:k<cs.length):cQ p (cs.take (k+1))=cQ p (cs.take k)+if sd p cs[k]=0 then 1 else 0:=by
 unfold cQ
 rw[List.take_succ_eq_append_getElem h,List.filter_append,List.length_append]
 congr 1
 by_cases hs:sd p cs[k]=0<;>simp[hs]
theorem pV (p:Q4) (cs:List Q4):cQ p cs≤cs.length:=List.length_filter_le _ _
section
variable (f:Q4→Bool)
def twN (A:List Q4):Nat:=(A.takeWhile f).length
theorem BF (A:List Q4):twN f A≤A.length:=by
 have:=congrArg List.length (List.takeWhile_append_dropWhile (p:=f) (l:=A))
 rw[List.length_append]at this
 unfold twN
 omega
theorem xK (A:List Q4):A.takeWhile f=A.take (twN f A):=by
 have h:=List.takeWhile_append_dropWhile (p:=f) (l:=A)
 have h2:(A.takeWhile f++A.dropWhile f).take (twN f A)=A.takeWhile f:=List.take_left
 rw[h]at h2
 exact h2.symm
theorem xL (A:List Q4):A.dropWhile f=A.drop (twN f A):=by
 have h:=List.takeWhile_append_dropWhile (p:=f) (l:=A)
 have h2:(A.takeWhile f++A.dropWhile f).drop (twN f A)=A.dropWhile f:=List.drop_left
 rw[h]at h2
 exact h2.symm
theorem yD:∀(A:List Q4) (i:Nat) (h:i<A.length),i<twN f A→f A[i]=true
 | [],_,h,_=>by simp at h
 |a::A,0,_,h2=>by
  unfold twN at h2
  rw[List.takeWhile_cons]at h2
  split at h2
  ·rename_i h3;exact h3
  ·simp at h2
 |a::A,i+1,h,h2=>by
  unfold twN at h2
  rw[List.takeWhile_cons]at h2
  split at h2
  ·rename_i h3
   simp only[List.length_cons]at h2
   exact yD A i (by simpa using h) (by unfold twN;omega)
  ·simp at h2
theorem vE:∀(A:List Q4) (h:twN f A<A.length),f A[twN f A]=false
 | [],h=>by simp at h
 |a::A,h=>by
  by_cases ha:f a=true
  ·have e:twN f (a::A)=twN f A+1:=by unfold twN;rw[List.takeWhile_cons,if_pos ha,List.length_cons]
   have h':twN f A<A.length:=by rw[e]at h;simpa using h
   have:=vE A h'
   simpa [e]using this
  ·have e:twN f (a::A)=0:=by unfold twN;rw[List.takeWhile_cons,if_neg ha];rfl
   simpa [e]using ha
end
def dP (p:Q4):Q4→Bool:=fun q=>decide (bD q p<0)
theorem lI (A:List Q4) (p:Q4):kp A p=if(A.drop (twN (dP p) A)).head?=some p then A else A.take (twN (dP p) A)++[p]++A.drop (twN (dP p) A):=by
 unfold kp
 rw[show(fun q=>decide (bD q p<0))=dP p from rfl,xK,xL]
 simp
theorem vF (A:List Q4) (p:Q4) (h:twN (dP p) A<A.length) (he:A[twN (dP p) A]=p):kp A p=A:=by
 rw[lI,if_pos]
 rw[List.head?_drop,List.getElem?_eq_getElem h,he]
theorem xM (A:List Q4) (p:Q4) (h:twN (dP p) A=A.length):kp A p=A.take (twN (dP p) A)++[p]++A.drop (twN (dP p) A):=by
 rw[lI,if_neg]
 rw[List.head?_drop,List.getElem?_eq_none (by omega)]
 simp
theorem xN (A:List Q4) (p:Q4) (h:twN (dP p) A<A.length) (he:A[twN (dP p) A]≠p):kp A p=A.take (twN (dP p) A)++[p]++A.drop (twN (dP p) A):=by
 rw[lI,if_neg]
 rw[List.head?_drop,List.getElem?_eq_getElem h]
 simpa using he
theorem vG (A:List Q4) (p:Q4):(kp A p).length≤A.length+1:=by
 rw[lI]
 split
 ·omega
 ·simp
  omega
def iT (cs ps:List Q4) (i:Nat):List Q4:=(ps.take i).foldl (dX cs) []
theorem mA (cs ps:List Q4) (i:Nat) (h:i<ps.length):iT cs ps (i+1)=dX cs (iT cs ps i) ps[i]:=by
 unfold iT
 rw[List.take_succ_eq_append_getElem h,List.foldl_append]
 rfl
theorem ny (cs ps:List Q4):∀i,i≤ps.length→(iT cs ps i).length≤i
 |0,_=>by simp[iT]
 |i+1,h=>by
  rw[mA cs ps i (by omega)]
  have:=ny cs ps i (by omega)
  unfold dX
  split
  ·have h2:=vG (iT cs ps i) (dG ps[i])
   omega
  ·omega
end
section
open Go.RowKit Go.Shelf
set_option maxRecDepth 100000
attribute [local go_sem] Ext.cell Ext.frozen
def je (B:Nat):Value→World→Prop:=fun v w=>∃g,v= .slice (some ⟨g,0,none⟩) 0 0∧B≤g∧w.heap[g]? =some (.cells #[] 69 (0,0))
theorem gO (B:Nat):dR (je B):=fun _ _ _ hb ⟨g,h1,h2,h3⟩=>⟨g,h1,h2,(hb.block g (ah h3)).trans h3⟩
def jf (p:Q4):Value→World→Prop:=fun v w=>∃g,v= .slice (some ⟨g,0,none⟩) 1 1∧w.heap[g]? =some (.cells (aH p).toArray 69 (0,0))
theorem gP (p:Q4):dR (jf p):=fun _ _ _ hb ⟨g,h1,h2⟩=>⟨g,h1,(hb.block g (ah h2)).trans h2⟩
theorem tG {w:World} {base:Nat} {T:TypeId} {g n c:Nat} {cs:List Q4} (h:w.ownsRow base T 4 (.slice (some ⟨g,0,none⟩) n c) cs.length (cs.flatMap aH)):Q4At w g 0 cs:=by
 obtain⟨a,n',c',e,hn,_,hx⟩:=dV h
 intro i hi
 obtain⟨b,off,rfl,h4⟩:=hx (by omega)
 cases e
 exact h4 i hi
theorem mB {w:World} {g:Nat} {A:List Q4} (h:Q4At w g 0 A) (k:Nat):∀j u,((A.take k).flatMap aH)[j]? =some u→w.cell? ((⟨g,0,none⟩:Addr).add j)=some u:=by
 intro j u hu
 rw[jY]
 have hlen:∀l:List Q4,(l.flatMap aH).length=l.length*4:=fun l=>by
  induction l with
  |nil=>rfl
  |cons x l ih=>rw[List.flatMap_cons,List.length_append,ih,List.length_cons];simp[aH];omega
 have hj:j<((A.take k).flatMap aH).length:=(List.getElem?_eq_some_iff.1 hu).1
 rw[hlen]at hj
 obtain⟨i,r,hr,rfl⟩:∃i r,r<4∧j=i*4+r:=⟨j / 4,j % 4,by omega,by omega⟩
 have hi:i<(A.take k).length:=by omega
 rw[eQ aH 4 (fun _=>rfl) _ i hi r hr]at hu
 have hi2:i<A.length:=by simp at hi;omega
 obtain⟨c0,c1,c2,c3⟩:=h i hi2
 rw[List.getElem_take]at hu
 simp only[Nat.zero_add]at c0 c1 c2 c3
 rcases(by omega:r=0∨r=1∨r=2∨r=3)with rfl|rfl|rfl|rfl
 ·rw[←hu];exact c0
 ·rw[←hu];exact c1
 ·rw[←hu];exact c2
 ·rw[←hu];exact c3
theorem vH {w:World} {g:Nat} {A:List Q4} (h:Q4At w g 0 A) (k:Nat):∀j u,((A.drop k).flatMap aH)[j]? =some u→w.cell? ⟨g,k*4+j,none⟩=some u:=by
 intro j u hu
 have hlen:∀l:List Q4,(l.flatMap aH).length=l.length*4:=fun l=>by
  induction l with
  |nil=>rfl
  |cons x l ih=>rw[List.flatMap_cons,List.length_append,ih,List.length_cons];simp[aH];omega
 have hj:j<((A.drop k).flatMap aH).length:=(List.getElem?_eq_some_iff.1 hu).1
 rw[hlen]at hj
 obtain⟨i,r,hr,rfl⟩:∃i r,r<4∧j=i*4+r:=⟨j / 4,j % 4,by omega,by omega⟩
 have hi:i<(A.drop k).length:=by omega
 rw[eQ aH 4 (fun _=>rfl) _ i hi r hr]at hu
 have hi2:k+i<A.length:=by simp at hi;omega
 obtain⟨c0,c1,c2,c3⟩:=h (k+i) hi2
 rw[List.getElem_drop]at hu
 simp only[Nat.zero_add,Nat.add_mul]at c0 c1 c2 c3
 rcases(by omega:r=0∨r=1∨r=2∨r=3)with rfl|rfl|rfl|rfl
 ·rw[←hu];exact c0
 ·rw[←hu];exact c1
 ·rw[←hu];exact c2
 ·rw[←hu];exact c3
theorem gD {w:World} {g:Nat} {A:List Q4} (h:Q4At w g 0 A) (k:Nat):∀j u,((A.drop k).flatMap aH)[j]? =some u→w.cell? ((⟨g,k*4,none⟩:Addr).add j)=some u:=fun j u hu=>by
 rw[vp]
 exact vH h k j u hu
theorem gQ {w:World} {g:Nat} {p:Q4} (h:w.heap[g]? =some (.cells (aH p).toArray 69 (0,0))):∀j u,([p].flatMap aH)[j]? =some u→w.cell? ((⟨g,0,none⟩:Addr).add j)=some u:=fun j u hu=>by
 rw[jY,ag h]
 simpa using hu
theorem bn {ops:Array Oper} {rest:List Oper} {o:Oper} {a:Act} {Q:Exit→Act→World→Prop} {w W:World} {B n m c:Nat} {L ds:List Q4} {v:Value} {ad:Addr} (hown:w.ownsRow B 69 4 v n (L.flatMap aH)) (hb:Below B W w) (hB:B≤w.heap.size) (hm:m=ds.length)
  (hsrc:∀j u,(ds.flatMap aH)[j]? =some u→w.cell? (ad.add j)=some u) (s x:Operand) (hgd:o.guard=none) (ho:o.op= .call {callee:= .builtin .append,args:=#[s,x],argTypes:=#[65,65]}) (hs:a.eval s=v) (hx:a.eval x= .slice (some ad) m c) (hn:n+m≤100000)
  (h:∀v' w',w'.ownsRow B 69 4 v' (L++ds).length ((L++ds).flatMap aH)→Below B W w'→wpList Tryz.prog ops Q rest (a.put o.dst v') w'):wpList Tryz.prog ops Q (o::rest) a w:=by
 obtain⟨i0,hi0,hz0,hz1,hz2⟩:=info_parts cY
 have hl:=hown.1
 rw[bh]at hl
 obtain rfl:n=L.length:=by omega
 subst hm
 refine wpList_append_own w hgd s x 65 ho B 69 i0 (v4 (0,0,0,0)) 4 32 be hi0 hz0 hz1 hz2 rfl (by decide) v _ (L.flatMap aH) hs hown ad ds.length c (ds.flatMap aH) hx (bh ds) hsrc (fun u hu=> ?_) (by unfold maxLen;omega) (by omega) hB fun v' w' h1 h2 _=>h v' w' ?_ (hb.grown h2 hB (fun z hz=>(hown.lt z hz).1))
 ·obtain⟨x,_,h⟩:=List.mem_flatMap.1 hu
  simp[aH]at h
  rcases h with rfl|rfl|rfl|rfl<;>rfl
 ·rw[List.length_append,List.flatMap_append]
  exact h1
theorem pW (ps:List Q4) (pv:Value) (W:World) (hps:∀p∈ps,cI p) (hl:ps.length≤64) (hpv:Q4s W pv ps):
  Calls Tryz.prog 93 #[pv] W fun e w'=>∃r,e= .returned r∧Below W.heap.size W w'∧w'.ownsRow W.heap.size 69 4 r (ch ps).length ((ch ps).flatMap aH):=by
 obtain⟨i0,hi0,hz0,hz1,hz2⟩:=info_parts cY
 have Hi0:=Lib.hid (And.intro hi0 (And.intro hz0 (And.intro hz1 hz2)))
 clear hi0 hz0 hz1 hz2
 have hps':∀p∈ps,bI p:=fun p hp=>(hps p hp).1
 have HPt:=Lib.hid (pS ps pv W hps' hl hpv)
 obtain⟨a,n,cc,rfl,hn,_,hx⟩:=hpv
 have HX:Hid (0<n→∃b off,a=some ⟨b,off,none⟩∧Q4At W b off ps):=Lib.hid hx
 have HL:=fun i (h:i<ps.length) W'=>Lib.hid (tF ps[i] W' (hps _ (List.getElem_mem h)))
 have Hco:=fun i (h:i<ps.length) k (hk:k<(cd ps).length) W'=>Lib.hid (sA (dG ps[i]) (cd ps)[k] W' (xJ _ (hps' _ (List.getElem_mem h))) (tE hps' _ (List.getElem_mem hk)))
 have hcl:=rv hl
 have Hcn:=fun p k h=>Lib.hid (rx p (cd ps) k h)
 have Hcle:=fun p k=>Lib.hid (show cQ p ((cd ps).take k)≤300000 from Nat.le_trans (pV _ _) (by rw[List.length_take];omega))
 have Hcall:=fun p=>Lib.hid (show cQ p ((cd ps).take (cd ps).length)=cQ p (cd ps) by rw[List.take_length])
 have Hs:=fun i h=>Lib.hid (mA (cd ps) ps i h)
 have Hnl:=fun i (h:i≤ps.length)=>Lib.hid (ny (cd ps) ps i h)
 have H0:Hid (iT (cd ps) ps 0=[]):=Lib.hid rfl
 have Hfin:Hid (iT (cd ps) ps n=ch ps):=Lib.hid (by
  unfold iT ch
  rw[←hn,List.take_length])
 have Hst:Hid (∀A p,dX (cd ps) A p=if 3≤cQ (dG p) (cd ps)then kp A (dG p)else A):=Lib.hid (fun A p=>rfl)
 generalize ch ps=res at*
 generalize iT (cd ps) ps=acc at*
 generalize dX (cd ps)=stp at*
 generalize cd ps=cs at*
 clear hx hps hps'
 go_enter Tryz.func93,Tryz.ntmps93
 go_wp2_with fail
 refine(HPt.out).mono ?_
 rintro en W1 ⟨cv,rfl,hb1,hoc⟩
 have HC:=Lib.hid (dV hoc)
 obtain⟨ca,cn,ccc,rfl,hcn,_,hcx⟩:=dV hoc
 have HCX:=Lib.hid hcx
 have HX1:Hid (0<n→∃b off,a=some ⟨b,off,none⟩∧Q4At W1 b off ps):=Lib.hid (fun h=>by obtain⟨b,off,e,h2⟩:=HX.out h;exact⟨b,off,e,h2.below hb1⟩)
 clear HX HPt hcx hoc HC
 have hcl':cn≤300000:=by omega
 go_wp2
 go_loopw [4,5] (fun s x wr=>∃i:Nat,i≤n∧x= .int .i64 i∧Below W1.heap.size W1 wr∧Hid (wr.ownsRow W1.heap.size 69 4 s (acc i).length ((acc i).flatMap aH))) (fun _ x _=>n-(intOf x).toNat)
 case atStart=>exact⟨0,by omega,rfl,Below.refl _ _,Lib.hid (by rw[H0.out];exact World.ownsRow_nil _ _ _ _)⟩
 case round=>
  obtain⟨i,hi,rfl,hb,HO⟩:=hrel
  by_cases hlt:i<n
  ·have g1:(i:Int)<(n:Int):=by omega
   have g2:(0:Int)≤(i:Int):=by omega
   have hil:i<ps.length:=by omega
   obtain⟨b,off,rfl,hi4⟩:=HX1.out (by omega)
   obtain⟨x0,x1,x2,x3⟩:=(hi4.below hb) i hil
   have zx:=World.block_lt_of_cell? wr _ x0
   simp only at zx
   have HLi:=fun W'=>Lib.hid ((HL i hil W').out)
   have Hsd:=fun k hk W'=>Lib.hid ((Hco i hil k hk W').out)
   have Hsi:=Lib.hid ((Hs i hil).out.trans (Hst.out _ _))
   have hAl:=(Hnl i (by omega)).out
   have hi64:i≤64:=by omega
   generalize dG ps[i]=p at*
   generalize ps[i]=P at*
   generalize acc i=A at*
   obtain⟨P0,P1,P2,P3⟩:=P
   obtain⟨p0,p1,p2,p3⟩:=p
   simp only at x0 x1 x2 x3
   clear HL Hco Hs Hst Hnl hi4 HX1
   go_wp2_with fail
   refine((HLi _).out).mono ?_
   rintro en w2 ⟨rfl,hb2⟩
   have hbw2:=ae hb hb2
   have HO2:=Lib.hid (au HO.out hb2)
   obtain⟨X,HXX⟩:∃X,Hid (w2.alloc (.cells #[.int .i64 p0, .int .i64 p1, .int .i64 p2, .int .i64 p3] 69)=X):=⟨_,Lib.hid rfl⟩
   obtain⟨g6,Hg6⟩:∃g6,Hid (w2.heap.size=g6):=⟨_,Lib.hid rfl⟩
   have hbX:Below w2.heap.size w2 X:=by rw[←HXX.out];exact bel
   have HGX:Hid (X.heap[g6]? =some (.cells #[.int .i64 p0, .int .i64 p1, .int .i64 p2, .int .i64 p3] 69 (0,0))):=Lib.hid (by rw[←HXX.out, ←Hg6.out];exact ai rfl)
   have hbwX:=ae hbw2 hbX
   have HOX:=Lib.hid (au HO2.out hbX)
   clear x0 x1 x2 x3 zx hb2 hbw2 HO2 HO hb HLi
   go_wp2
   rw[HXX.out,Hg6.out]
   clear HXX Hg6 hbX
   go_loopw [7,8] (fun s x wr=>∃k:Nat,k≤cn∧x= .int .i64 k∧s= .int .i64 (cQ (p0,p1,p2,p3) (cs.take k):Nat)∧Below X.heap.size X wr) (fun _ x _=>cn-(intOf x).toNat)
   case atStart=>exact⟨0,by omega,rfl,by simp[cQ],Below.refl _ _⟩
   case round=>
    obtain⟨k,hk,rfl,rfl,hbk⟩:=hrel
    by_cases hlk:k<cn
    ·have g3:(k:Int)<(cn:Int):=by omega
     have g4:(0:Int)≤(k:Int):=by omega
     have hkl:k<cs.length:=by omega
     obtain⟨cb,co,rfl,hc4⟩:=HCX.out (by omega)
     obtain⟨y0,y1,y2,y3⟩:=(hc4.below (ae hbwX hbk)) k hkl
     have zy:=World.block_lt_of_cell? wr _ y0
     simp only at zy
     have HSk:=fun W'=>Lib.hid ((Hsd k hkl W').out)
     have Hc:=Lib.hid ((Hcn (p0,p1,p2,p3) k hkl).out)
     have hcle:=(Hcle (p0,p1,p2,p3) k).out
     have HGk:=Lib.hid ((hbk.block _ (ah HGX.out)).trans HGX.out)
     obtain⟨f0,f1,f2,f3,_,fz⟩:=ff HGk.out
     generalize cQ (p0,p1,p2,p3) (cs.take k)=cnt at*
     generalize sd (p0,p1,p2,p3) cs[k]=s9 at*
     generalize cs[k]=c at*
     obtain⟨c0,c1,c2,c3⟩:=c
     simp only at y0 y1 y2 y3
     clear hc4 Hsd Hcn Hcle HCX
     by_cases hs:s9=0
     ·subst hs
      rw[if_pos rfl]at Hc
      go_wp2
      refine wqb ?_
      repeat(first|go_big_quiet_step ((go_at_call 129;exact aE ((HSk _).out)))|quiet_step ((go_at_call 129;exact aE ((HSk _).out))))
      refine wqn fun u=> ?_
      go_wp2
      go_roundw
      case rel=>exact⟨k+1,by omega,by go_num,by rw[Hc.out];go_num,ae hbk u.below⟩
      case measure=>first|(simp[intOf];done)|(simp[intOf];omega)
     ·have hs':(s9==0)=false:=by simpa using hs
      rw[if_neg hs]at Hc
      go_wp2
      refine wqb ?_
      repeat(first|go_big_quiet_step ((go_at_call 129;exact aE ((HSk _).out)))|quiet_step ((go_at_call 129;exact aE ((HSk _).out))))
      refine wqn fun u=> ?_
      go_wp2
      go_roundw
      case rel=>exact⟨k+1,by omega,by go_num,by rw[Hc.out];rfl,ae hbk u.below⟩
      case measure=>first|(simp[intOf];done)|(simp[intOf];omega)
    ·obtain rfl:k=cn:=by omega
     have g3:¬(k:Int)<(k:Int):=by omega
     have hcall:=(Hcall (p0,p1,p2,p3)).out
     rw[hcn]at hcall
     rw[hcall]
     obtain⟨cnt,Hcnt⟩:∃cnt,Hid (cQ (p0,p1,p2,p3) cs=cnt):=⟨_,Lib.hid rfl⟩
     rw[Hcnt.out]at Hsi ⊢
     have hcnt:cnt≤300000:=by rw[←Hcnt.out];have:=pV (p0,p1,p2,p3) cs;omega
     have Hin:=Lib.hid (fun j (h:j<A.length) (h2:j<twN (dP (p0,p1,p2,p3)) A)=>show bD A[j] (p0,p1,p2,p3)<0 by simpa [dP]using yD (dP (p0,p1,p2,p3)) A j h h2)
     have Hout:=Lib.hid (fun(h:twN (dP (p0,p1,p2,p3)) A<A.length)=>show ¬bD A[twN (dP (p0,p1,p2,p3)) A] (p0,p1,p2,p3)<0 by simpa [dP]using vE (dP (p0,p1,p2,p3)) A h)
     have hTl:=BF (dP (p0,p1,p2,p3)) A
     have Hend:=Lib.hid (xM A (p0,p1,p2,p3))
     have Hmid:=Lib.hid (xN A (p0,p1,p2,p3))
     have Hskip:=Lib.hid (vF A (p0,p1,p2,p3))
     have Hless:=fun q W'=>Lib.hid (pU q (p0,p1,p2,p3) W')
     generalize twN (dP (p0,p1,p2,p3)) A=T at*
     generalize kp A (p0,p1,p2,p3)=ins at*
     have hbwk:=ae hbwX hbk
     have HOk:=Lib.hid (au HOX.out hbk)
     have HGk:=Lib.hid ((hbk.block _ (ah HGX.out)).trans HGX.out)
     have zg6:=ah HGk.out
     obtain⟨wk,rfl⟩:∃wk:World,wk=wr:=⟨_,rfl⟩
     clear hbk HOX HGX Hcn Hcle Hcall Hsd
     rcases HOk.out.2 with⟨e,h0⟩|⟨g,cap,cur,e,hbg,hh,hnc,hcm,hcs,htk⟩
     ·subst e
      obtain rfl:A=[]:=List.length_eq_zero_iff.1 h0
      obtain rfl:T=0:=by simpa using hTl
      go_wp2
      go_loopw [9] (fun x wr=>x= .int .i64 0∧Below wk.heap.size wk wr) (fun _ _=>0)
      case atStart=>exact⟨rfl,Below.refl _ _⟩
      case round=>
       obtain⟨rfl,hbr⟩:=hrel
       have HG:=Lib.hid ((hbr.block _ (ah HGk.out)).trans HGk.out)
       have hbw:=ae hbwk hbr
       have HO:=Lib.hid (au HOk.out hbr)
       clear hbr HOk HGk
       obtain⟨c0,c1,c2,c3,_,cz⟩:=ff HG.out
       go_wp2
       refine wqf fun u=> ?_
       have hbu:=u.below
       have HOu:=Lib.hid (au HO.out hbu)
       have HGu:=Lib.hid ((hbu.block _ (ah HG.out)).trans HG.out)
       have hbwu:=ae hbw hbu
       clear HO HG hbw hbu c0 c1 c2 c3 cz
       have HO:=HOu
       have HG:=HGu
       have hbw:=hbwu
       clear HOu HGu hbwu
       generalize u.val=wr at*
       clear u
       obtain⟨c0,c1,c2,c3,_,cz⟩:=ff HG.out
       by_cases hc3:3≤cnt
       ·have hd3:decide ((3:Int)≤(cnt:Int))=true:=decide_eq_true (by omega)
        rw[if_pos hc3]at Hsi
        have Hres:=Lib.hid (Hsi.out.trans (Hend.out rfl))
        go_wp2
        refine wqf fun u=> ?_
        have hbu:=u.below
        have HOu:=Lib.hid (au HO.out hbu)
        have HGu:=Lib.hid ((hbu.block _ (ah HG.out)).trans HG.out)
        have hbwu:=ae hbw hbu
        clear HO HG hbw hbu c0 c1 c2 c3 cz
        have HO:=HOu
        have HG:=HGu
        have hbw:=hbwu
        clear HOu HGu hbwu
        generalize u.val=wr at*
        clear u
        obtain⟨c0,c1,c2,c3,_,cz⟩:=ff HG.out
        go_wp2
        refine cO [1,2,3,8,9,10] [0,1,2,3,4,5,6,8,9,10] 7 [11,12] (pick [je wr.heap.size,IsV (.slice none 0 0),IsV (.int .i64 0),IsV (.slice none 0 0),IsO wr.heap.size 0 [],IsV (v4 (p0,p1,p2,p3)),jf (p0,p1,p2,p3),IsV undef,IsV (.slice none 0 0),IsV (.int .i64 0),IsV (.slice none 0 0)]) (by kernel_rfl) (by kernel_rfl) (Stabs.pick (by repeat(first|exact Stabs.nil|refine Stabs.cons (by first|exact dj _|exact gO _|exact gP _|exact fJ _ _ _) ?_))) ?_ ?_
        ·repeat(refine eH rfl (fun K' hK'=> ?_);go_simp;refine hK' _ _ (fun _=>rfl) ?_;clear hK' K')
         trivial
        try go_frame
        refine wgs rfl rfl (by simp) (fun w' hb' hR K hK=> ?_) (fun o0=> ?_)
        ·clear hR
         have zz:=hb'.size
         go_simp
         exact hK _ _ bel ⟨_,rfl,zz,ai rfl⟩
        try go_frame
        refine wgs rfl rfl (by simp) (fun w' hb' hR K hK=> ?_) (fun o1=> ?_)
        ·clear hR
         go_simp
         exact hK _ _ brf rfl
        try go_frame
        refine wgs rfl rfl (by simp) (fun w' hb' hR K hK=> ?_) (fun o2=> ?_)
        ·clear hR
         go_simp
         exact hK _ _ brf rfl
        try go_frame
        refine wgs rfl rfl (by simp) (fun w' hb' hR K hK=> ?_) (fun o3=> ?_)
        ·obtain rfl:o1= .slice none 0 0:=hR 1 (by kernel_rfl)
         obtain rfl:o2= .int .i64 0:=hR 2 (by kernel_rfl)
         clear hR
         go_simp
         exact hK _ _ brf rfl
        try go_frame
        refine wgs rfl rfl (by simp) (fun w' hb' hR K hK=> ?_) (fun o4=> ?_)
        ·have h0:(je wr.heap.size) o0 w':=hR 0 (by kernel_rfl)
         obtain rfl:o3= .slice none 0 0:=hR 3 (by kernel_rfl)
         clear hR
         obtain⟨gm,rfl,hgm,hgl⟩:=h0
         exact cZ _ _ 65 rfl (append_nil 65 _ 69 i0 be Hi0.out.1 ⟨gm,0,none⟩ _ _) (hK _ _ (Below.refl _ _) ⟨rfl, .inr ⟨gm,0,#[],rfl,hgm,hgl,Nat.le_refl _,by unfold maxLen;omega,rfl,rfl⟩⟩)
        try go_frame
        refine wgs rfl rfl (by simp) (fun w' hb' hR K hK=> ?_) (fun o5=> ?_)
        ·clear hR
         have q0:=ab hb' c0
         have q1:=ab hb' c1
         have q2:=ab hb' c2
         have q3:=ab hb' c3
         have qz:=Nat.lt_of_lt_of_le cz hb'.size
         go_simp
         exact hK _ _ brf rfl
        try go_frame
        refine wgs rfl rfl (by simp) (fun w' hb' hR K hK=> ?_) (fun o6=> ?_)
        ·obtain rfl:o5=v4 (p0,p1,p2,p3):=hR 5 (by kernel_rfl)
         clear hR
         go_simp
         exact hK _ _ bel ⟨_,rfl,ai rfl⟩
        try go_frame
        refine wgs rfl rfl (by simp) (fun w' hb' hR K hK=> ?_) (fun o8=> ?_)
        ·clear hR
         go_simp
         exact hK _ _ brf rfl
        try go_frame
        refine wgs rfl rfl (by simp) (fun w' hb' hR K hK=> ?_) (fun o9=> ?_)
        ·clear hR
         go_simp
         exact hK _ _ brf rfl
        try go_frame
        refine wgs rfl rfl (by simp) (fun w' hb' hR K hK=> ?_) (fun o10=> ?_)
        ·obtain rfl:o8= .slice none 0 0:=hR 8 (by kernel_rfl)
         obtain rfl:o9= .int .i64 0:=hR 9 (by kernel_rfl)
         clear hR
         go_simp
         exact hK _ _ brf rfl
        try go_frame
        refine dE (fun w' hb' hR=> ?_)
        obtain rfl:o10= .slice none 0 0:=hR 10 (by simp)
        have ho4:w'.ownsRow wr.heap.size 69 4 o4 0 ((([]:List Q4)).flatMap aH):=hR 4 (by simp)
        obtain⟨gp,rfl,hgp⟩:jf (p0,p1,p2,p3) o6 w':=hR 6 (by simp)
        clear hR
        simp only[oas]
        refine bn ho4 hb' hb'.size rfl (gQ hgp) _ _ rfl rfl rfl rfl (by first|omega|(simp;done)|(simp;omega)) fun v5 w5 hown5 hb5=> ?_
        clear ho4 hgp hb'
        go_frame
        refine wpList_append_own_none rfl _ _ 65 rfl wr.heap.size 69 i0 4 be Hi0.out.1 _ _ _ rfl hown5 rfl ?_
        go_frame
        iterate 1 (refine wpList_step (fun K hK=> ?_);go_simp;refine hK _ _ ?_;clear hK K)
        refine NoPanic.normal ?_
        go_wp2
        go_roundw
        case rel=>exact⟨i+1,by omega,by go_num,ae hbw hb5,Lib.hid (by rw[Hres.out];exact AY (by simpa using hown5) hbw.size)⟩
        case measure=>first|(simp[intOf];done)|(simp[intOf];omega)
       ·have hd3:decide ((3:Int)≤(cnt:Int))=false:=decide_eq_false (by omega)
        rw[if_neg hc3]at Hsi
        go_wp2
        refine wqf fun u=> ?_
        have hbu:=u.below
        have HOu:=Lib.hid (au HO.out hbu)
        have HGu:=Lib.hid ((hbu.block _ (ah HG.out)).trans HG.out)
        have hbwu:=ae hbw hbu
        clear HO HG hbw hbu c0 c1 c2 c3 cz
        have HO:=HOu
        have HG:=HGu
        have hbw:=hbwu
        clear HOu HGu hbwu
        generalize u.val=wr at*
        clear u
        obtain⟨c0,c1,c2,c3,_,cz⟩:=ff HG.out
        go_wp2
        go_roundw
        case rel=>exact⟨i+1,by omega,by go_num,hbw,Lib.hid (by rw[Hsi.out];exact HO.out)⟩
        case measure=>first|(simp[intOf];done)|(simp[intOf];omega)
     ·subst e
      have HQk:=Lib.hid (tG HOk.out)
      go_wp2
      go_loopw [9] (fun x wr=>∃j:Nat,j≤T∧x= .int .i64 j∧Below wk.heap.size wk wr) (fun x _=>T-(intOf x).toNat)
      case atStart=>exact⟨0,by omega,rfl,Below.refl _ _⟩
      case round=>
       obtain⟨j,hj,rfl,hbr⟩:=hrel
       have HG:=Lib.hid ((hbr.block _ (ah HGk.out)).trans HGk.out)
       have hbw:=ae hbwk hbr
       have HO:=Lib.hid (au HOk.out hbr)
       have HQ:=Lib.hid (HQk.out.below hbr)
       clear HOk HGk HQk
       obtain⟨c0,c1,c2,c3,_,cz⟩:=ff HG.out
       by_cases hjT:j<T
       ·have hjl:j<A.length:=by omega
        obtain⟨a0,a1,a2,a3⟩:=HQ.out j hjl
        have za:=World.block_lt_of_cell? wr _ a0
        simp only[Nat.zero_add]at a0 a1 a2 a3 za
        have HL1:∀W',Hid (Calls Tryz.prog 130 #[v4 A[j],v4 (p0,p1,p2,p3)] W' (Ret W' (.bool true))):=fun W'=>Lib.hid (by have:=(Hless A[j] W').out;rwa [decide_eq_true (Hin.out j hjl hjT)]at this)
        have g3:(j:Int)<(A.length:Int):=by omega
        have g4:(0:Int)≤(j:Int):=by omega
        clear Hin Hout Hend Hmid Hskip Hless HQ
        generalize A[j]=q at*
        obtain⟨q0,q1,q2,q3⟩:=q
        simp only at a0 a1 a2 a3
        go_wp2
        refine wqb ?_
        repeat(first|go_big_quiet_step ((go_at_call 130;exact aE ((HL1 _).out)))|quiet_step ((go_at_call 130;exact aE ((HL1 _).out))))
        refine wqn fun u=> ?_
        go_wp2
        go_roundw
        case rel=>exact⟨j+1,by omega,by go_num,ae hbr u.below⟩
        case measure=>first|(simp[intOf];done)|(simp[intOf];omega)
       ·obtain rfl:j=T:=by omega
        clear hbr hjT
        obtain⟨T,rfl⟩:∃T,T=j:=⟨_,rfl⟩
        have g4:(0:Int)≤(T:Int):=by omega
        by_cases hTA:T<A.length
        ·have Hq:=Lib.hid (Hout.out hTA)
         obtain⟨a0,a1,a2,a3⟩:=HQ.out T hTA
         have za:=World.block_lt_of_cell? wr _ a0
         simp only[Nat.zero_add]at a0 a1 a2 a3 za
         have HL0:∀W',Hid (Calls Tryz.prog 130 #[v4 A[T],v4 (p0,p1,p2,p3)] W' (Ret W' (.bool false))):=fun W'=>Lib.hid (by have:=(Hless A[T] W').out;rwa [decide_eq_false (by have:=Hq.out;omega)]at this)
         have g3:(T:Int)<(A.length:Int):=by omega
         have e58:((T:Int)==(A.length:Int))=false:=by simp;omega
         have Heq:=Lib.hid (fun W'=>nh A[T] (p0,p1,p2,p3) W')
         have Hm2:=Lib.hid (fun h=>Hmid.out hTA h)
         have Hs2:=Lib.hid (fun h=>Hskip.out hTA h)
         clear Hin Hout Hend Hmid Hskip Hless Hq
         generalize A[T]=q at*
         obtain⟨q0,q1,q2,q3⟩:=q
         simp only at a0 a1 a2 a3
         go_wp2
         refine wqb ?_
         repeat(first|go_big_quiet_step ((go_at_call 130;exact aE ((HL0 _).out)))|quiet_step ((go_at_call 130;exact aE ((HL0 _).out))))
         refine wqn fun u=> ?_
         have a0:=ab u.below a0
         have a1:=ab u.below a1
         have a2:=ab u.below a2
         have a3:=ab u.below a3
         have za:=Nat.lt_of_lt_of_le za u.below.size
         have HQu:=Lib.hid (HQ.out.below u.below)
         clear HQ
         have HQ:=HQu
         clear HQu
         have hbu:=u.below
         have HOu:=Lib.hid (au HO.out hbu)
         have HGu:=Lib.hid ((hbu.block _ (ah HG.out)).trans HG.out)
         have hbwu:=ae hbw hbu
         clear HO HG hbw hbu c0 c1 c2 c3 cz
         have HO:=HOu
         have HG:=HGu
         have hbw:=hbwu
         clear HOu HGu hbwu
         generalize u.val=wr at*
         clear u
         obtain⟨c0,c1,c2,c3,_,cz⟩:=ff HG.out
         clear HL0
         by_cases hc3:3≤cnt
         ·have hd3:decide ((3:Int)≤(cnt:Int))=true:=decide_eq_true (by omega)
          rw[if_pos hc3]at Hsi
          by_cases hE:((q0,q1,q2,q3):Q4)=(p0,p1,p2,p3)
          ·have Hres:=Lib.hid (Hsi.out.trans (Hs2.out hE))
           have he:=Heq.out
           have hd:=decide_eq_true hE
           simp only[hd]at he
           clear hE hd
           go_wp2
           refine wqf fun u=> ?_
           have hbu:=u.below
           have HOu:=Lib.hid (au HO.out hbu)
           have HGu:=Lib.hid ((hbu.block _ (ah HG.out)).trans HG.out)
           have hbwu:=ae hbw hbu
           clear HO HG hbw hbu c0 c1 c2 c3 cz
           have HO:=HOu
           have HG:=HGu
           have hbw:=hbwu
           clear HOu HGu hbwu
           generalize u.val=wr at*
           clear u
           obtain⟨c0,c1,c2,c3,_,cz⟩:=ff HG.out
           clear Hsi
           have Hsi:=Hres
           go_wp2
           go_roundw
           case rel=>exact⟨i+1,by omega,by go_num,hbw,Lib.hid (by rw[Hsi.out];exact HO.out)⟩
           case measure=>first|(simp[intOf];done)|(simp[intOf];omega)
          ·have Hres:=Lib.hid (Hsi.out.trans (Hm2.out hE))
           have he:=Heq.out
           have hd:=decide_eq_false hE
           simp only[hd]at he
           clear hE hd
           go_wp2
           refine wqf fun u=> ?_
           have HQu:=Lib.hid (HQ.out.below u.below)
           clear HQ
           have HQ:=HQu
           clear HQu
           have hbu:=u.below
           have HOu:=Lib.hid (au HO.out hbu)
           have HGu:=Lib.hid ((hbu.block _ (ah HG.out)).trans HG.out)
           have hbwu:=ae hbw hbu
           clear HO HG hbw hbu c0 c1 c2 c3 cz
           have HO:=HOu
           have HG:=HGu
           have hbw:=hbwu
           clear HOu HGu hbwu
           generalize u.val=wr at*
           clear u
           obtain⟨c0,c1,c2,c3,_,cz⟩:=ff HG.out
           clear he Heq Hm2 Hs2 e58 a0 a1 a2 a3 za
           have g5:(T:Int)≤(cap:Int):=by omega
           have e6:¬cap=T:=by omega
           have e7:¬cap=0:=by omega
           go_wp2
           by_cases hT0:T=0
           ·subst hT0
            have z0:((0:Nat):Int)=0:=rfl
            simp only[z0]
            refine cO [1,2,3,8,9,10] [0,1,2,3,4,5,6,8,9,10] 7 [11,12] (pick [je wr.heap.size,IsV (.slice (some ⟨g,0,none⟩) A.length cap),IsV (.int .i64 0),IsV (.slice (some ⟨g,0,none⟩) 0 cap),IsO wr.heap.size 0 ([]:List Q4),IsV (v4 (p0,p1,p2,p3)),jf (p0,p1,p2,p3),IsV undef,IsV (.slice (some ⟨g,0,none⟩) A.length cap),IsV (.int .i64 0),IsV (.slice (some ⟨g,0,none⟩) A.length cap)]) (by kernel_rfl) (by kernel_rfl) (Stabs.pick (by repeat(first|exact Stabs.nil|refine Stabs.cons (by first|exact dj _|exact gO _|exact gP _|exact fJ _ _ _) ?_))) ?_ ?_
            ·repeat(refine eH rfl (fun K' hK'=> ?_);go_simp;refine hK' _ _ (fun _=>rfl) ?_;clear hK' K')
             trivial
            try go_frame
            refine wgs rfl rfl (by simp) (fun w' hb' hR K hK=> ?_) (fun o0=> ?_)
            ·clear hR
             have zz:=hb'.size
             go_simp
             exact hK _ _ bel ⟨_,rfl,zz,ai rfl⟩
            try go_frame
            refine wgs rfl rfl (by simp) (fun w' hb' hR K hK=> ?_) (fun o1=> ?_)
            ·clear hR
             go_simp
             exact hK _ _ brf rfl
            try go_frame
            refine wgs rfl rfl (by simp) (fun w' hb' hR K hK=> ?_) (fun o2=> ?_)
            ·clear hR
             go_simp
             exact hK _ _ brf rfl
            try go_frame
            refine wgs rfl rfl (by simp) (fun w' hb' hR K hK=> ?_) (fun o3=> ?_)
            ·obtain rfl:o1= .slice (some ⟨g,0,none⟩) A.length cap:=hR 1 (by kernel_rfl)
             obtain rfl:o2= .int .i64 0:=hR 2 (by kernel_rfl)
             clear hR
             go_simp
             exact hK _ _ brf rfl
            try go_frame
            refine wgs rfl rfl (by simp) (fun w' hb' hR K hK=> ?_) (fun o4=> ?_)
            ·have h0:(je wr.heap.size) o0 w':=hR 0 (by kernel_rfl)
             obtain rfl:o3= .slice (some ⟨g,0,none⟩) 0 cap:=hR 3 (by kernel_rfl)
             clear hR
             obtain⟨gm,rfl,hgm,hgl⟩:=h0
             exact cZ _ _ 65 rfl (append_nil 65 _ 69 i0 be Hi0.out.1 ⟨gm,0,none⟩ _ _) (hK _ _ (Below.refl _ _) ⟨rfl, .inr ⟨gm,0,#[],rfl,hgm,hgl,Nat.le_refl _,by unfold maxLen;omega,rfl,rfl⟩⟩)
            try go_frame
            refine wgs rfl rfl (by simp) (fun w' hb' hR K hK=> ?_) (fun o5=> ?_)
            ·clear hR
             have q0:=ab hb' c0
             have q1:=ab hb' c1
             have q2:=ab hb' c2
             have q3:=ab hb' c3
             have qz:=Nat.lt_of_lt_of_le cz hb'.size
             go_simp
             exact hK _ _ brf rfl
            try go_frame
            refine wgs rfl rfl (by simp) (fun w' hb' hR K hK=> ?_) (fun o6=> ?_)
            ·obtain rfl:o5=v4 (p0,p1,p2,p3):=hR 5 (by kernel_rfl)
             clear hR
             go_simp
             exact hK _ _ bel ⟨_,rfl,ai rfl⟩
            try go_frame
            refine wgs rfl rfl (by simp) (fun w' hb' hR K hK=> ?_) (fun o8=> ?_)
            ·clear hR
             go_simp
             exact hK _ _ brf rfl
            try go_frame
            refine wgs rfl rfl (by simp) (fun w' hb' hR K hK=> ?_) (fun o9=> ?_)
            ·clear hR
             go_simp
             exact hK _ _ brf rfl
            try go_frame
            refine wgs rfl rfl (by simp) (fun w' hb' hR K hK=> ?_) (fun o10=> ?_)
            ·obtain rfl:o8= .slice (some ⟨g,0,none⟩) A.length cap:=hR 8 (by kernel_rfl)
             obtain rfl:o9= .int .i64 0:=hR 9 (by kernel_rfl)
             clear hR
             go_simp
             exact hK _ _ brf rfl
            try go_frame
            refine dE (fun w' hb' hR=> ?_)
            obtain rfl:o10= .slice (some ⟨g,0,none⟩) A.length cap:=hR 10 (by simp)
            have ho4:w'.ownsRow wr.heap.size 69 4 o4 0 ((([]:List Q4)).flatMap aH):=hR 4 (by simp)
            obtain⟨gp,rfl,hgp⟩:jf (p0,p1,p2,p3) o6 w':=hR 6 (by simp)
            clear hR
            simp only[oas]
            refine bn ho4 hb' hb'.size rfl (gQ hgp) _ _ rfl rfl rfl rfl (by first|omega|(simp;done)|(simp;omega)) fun v5 w5 hown5 hb5=> ?_
            clear ho4 hgp hb'
            go_frame
            refine bn (ds:=A.drop 0) hown5 hb5 hb5.size (by rw[List.length_drop];try omega) (gD (HQ.out.below hb5) 0) _ _ rfl rfl rfl rfl (by first|omega|(simp;done)|(simp;omega)) fun v6 w6 hown6 hb6=> ?_
            go_frame
            iterate 1 (refine wpList_step (fun K hK=> ?_);go_simp;refine hK _ _ ?_;clear hK K)
            refine NoPanic.normal ?_
            go_wp2
            go_roundw
            case rel=>exact⟨i+1,by omega,by go_num,ae hbw hb6,Lib.hid (by rw[Hres.out];exact AY (by simpa using hown6) hbw.size)⟩
            case measure=>first|(simp[intOf];done)|(simp[intOf];omega)
           ·have hT1:0<T:=by omega
            refine cO [1,2,3,8,9,10] [0,1,2,3,4,5,6,8,9,10] 7 [11,12] (pick [je wr.heap.size,IsV (.slice (some ⟨g,0,none⟩) A.length cap),IsV (.int .i64 T),IsV (.slice (some ⟨g,0,none⟩) T cap),IsO wr.heap.size T (A.take T),IsV (v4 (p0,p1,p2,p3)),jf (p0,p1,p2,p3),IsV undef,IsV (.slice (some ⟨g,0,none⟩) A.length cap),IsV (.int .i64 T),IsV (.slice (some ⟨g,T*4,none⟩) (A.length-T) (cap-T))]) (by kernel_rfl) (by kernel_rfl) (Stabs.pick (by repeat(first|exact Stabs.nil|refine Stabs.cons (by first|exact dj _|exact gO _|exact gP _|exact fJ _ _ _) ?_))) ?_ ?_
            ·repeat(refine eH rfl (fun K' hK'=> ?_);go_simp;refine hK' _ _ (fun _=>rfl) ?_;clear hK' K')
             trivial
            try go_frame
            refine wgs rfl rfl (by simp) (fun w' hb' hR K hK=> ?_) (fun o0=> ?_)
            ·clear hR
             have zz:=hb'.size
             go_simp
             exact hK _ _ bel ⟨_,rfl,zz,ai rfl⟩
            try go_frame
            refine wgs rfl rfl (by simp) (fun w' hb' hR K hK=> ?_) (fun o1=> ?_)
            ·clear hR
             go_simp
             exact hK _ _ brf rfl
            try go_frame
            refine wgs rfl rfl (by simp) (fun w' hb' hR K hK=> ?_) (fun o2=> ?_)
            ·clear hR
             go_simp
             exact hK _ _ brf rfl
            try go_frame
            refine wgs rfl rfl (by simp) (fun w' hb' hR K hK=> ?_) (fun o3=> ?_)
            ·obtain rfl:o1= .slice (some ⟨g,0,none⟩) A.length cap:=hR 1 (by kernel_rfl)
             obtain rfl:o2= .int .i64 T:=hR 2 (by kernel_rfl)
             clear hR
             go_simp
             exact hK _ _ brf rfl
            try go_frame
            refine wgs rfl rfl (by simp) (fun w' hb' hR K hK=> ?_) (fun o4=> ?_)
            ·have h0:(je wr.heap.size) o0 w':=hR 0 (by kernel_rfl)
             obtain rfl:o3= .slice (some ⟨g,0,none⟩) T cap:=hR 3 (by kernel_rfl)
             clear hR
             obtain⟨gm,rfl,hgm,hgl⟩:=h0
             obtain⟨v9,w9,hrun,hown9,hb9⟩:=dM (P:=Tryz.prog) (w:=w') 65 65 69 i0 (v4 (0,0,0,0)) 4 32 be Hi0.out.1 Hi0.out.2.1 Hi0.out.2.2.1 Hi0.out.2.2.2 rfl (by decide) ⟨gm,0,none⟩ 0 0 [] rfl (fun _ _ h=>by simp at h) ⟨g,0,none⟩ T cap ((A.take T).flatMap aH) (by rw[bh,List.length_take];omega) (mB (HQ.out.below hb') T) (by omega) (by unfold maxLen;omega) (by omega)
             exact cZ _ _ 65 rfl hrun (hK _ _ hb9 (by have h9:=AY hown9 hb'.size;simp only[Nat.zero_add,List.nil_append]at h9;exact h9))
            try go_frame
            refine wgs rfl rfl (by simp) (fun w' hb' hR K hK=> ?_) (fun o5=> ?_)
            ·clear hR
             have q0:=ab hb' c0
             have q1:=ab hb' c1
             have q2:=ab hb' c2
             have q3:=ab hb' c3
             have qz:=Nat.lt_of_lt_of_le cz hb'.size
             go_simp
             exact hK _ _ brf rfl
            try go_frame
            refine wgs rfl rfl (by simp) (fun w' hb' hR K hK=> ?_) (fun o6=> ?_)
            ·obtain rfl:o5=v4 (p0,p1,p2,p3):=hR 5 (by kernel_rfl)
             clear hR
             go_simp
             exact hK _ _ bel ⟨_,rfl,ai rfl⟩
            try go_frame
            refine wgs rfl rfl (by simp) (fun w' hb' hR K hK=> ?_) (fun o8=> ?_)
            ·clear hR
             go_simp
             exact hK _ _ brf rfl
            try go_frame
            refine wgs rfl rfl (by simp) (fun w' hb' hR K hK=> ?_) (fun o9=> ?_)
            ·clear hR
             go_simp
             exact hK _ _ brf rfl
            try go_frame
            refine wgs rfl rfl (by simp) (fun w' hb' hR K hK=> ?_) (fun o10=> ?_)
            ·obtain rfl:o8= .slice (some ⟨g,0,none⟩) A.length cap:=hR 8 (by kernel_rfl)
             obtain rfl:o9= .int .i64 T:=hR 9 (by kernel_rfl)
             clear hR
             go_simp
             exact hK _ _ brf rfl
            try go_frame
            refine dE (fun w' hb' hR=> ?_)
            obtain rfl:o10= .slice (some ⟨g,T*4,none⟩) (A.length-T) (cap-T):=hR 10 (by simp)
            have ho4:w'.ownsRow wr.heap.size 69 4 o4 T (((A.take T)).flatMap aH):=hR 4 (by simp)
            obtain⟨gp,rfl,hgp⟩:jf (p0,p1,p2,p3) o6 w':=hR 6 (by simp)
            clear hR
            simp only[oas]
            refine bn ho4 hb' hb'.size rfl (gQ hgp) _ _ rfl rfl rfl rfl (by first|omega|(simp;done)|(simp;omega)) fun v5 w5 hown5 hb5=> ?_
            clear ho4 hgp hb'
            go_frame
            refine bn (ds:=A.drop T) hown5 hb5 hb5.size (by rw[List.length_drop];try omega) (gD (HQ.out.below hb5) T) _ _ rfl rfl rfl rfl (by first|omega|(simp;done)|(simp;omega)) fun v6 w6 hown6 hb6=> ?_
            go_frame
            iterate 1 (refine wpList_step (fun K hK=> ?_);go_simp;refine hK _ _ ?_;clear hK K)
            refine NoPanic.normal ?_
            go_wp2
            go_roundw
            case rel=>exact⟨i+1,by omega,by go_num,ae hbw hb6,Lib.hid (by rw[Hres.out];exact AY (by simpa using hown6) hbw.size)⟩
            case measure=>first|(simp[intOf];done)|(simp[intOf];omega)
         ·have hd3:decide ((3:Int)≤(cnt:Int))=false:=decide_eq_false (by omega)
          rw[if_neg hc3]at Hsi
          go_wp2
          refine wqf fun u=> ?_
          have hbu:=u.below
          have HOu:=Lib.hid (au HO.out hbu)
          have HGu:=Lib.hid ((hbu.block _ (ah HG.out)).trans HG.out)
          have hbwu:=ae hbw hbu
          clear HO HG hbw hbu c0 c1 c2 c3 cz
          have HO:=HOu
          have HG:=HGu
          have hbw:=hbwu
          clear HOu HGu hbwu
          generalize u.val=wr at*
          clear u
          obtain⟨c0,c1,c2,c3,_,cz⟩:=ff HG.out
          go_wp2
          go_roundw
          case rel=>exact⟨i+1,by omega,by go_num,hbw,Lib.hid (by rw[Hsi.out];exact HO.out)⟩
          case measure=>first|(simp[intOf];done)|(simp[intOf];omega)
        ·have hT2:A.length≤T:=by omega
         clear hTA
         have g3:¬(T:Int)<(A.length:Int):=by omega
         have g3':(T:Int)≤(A.length:Int):=by omega
         have d3:decide (T<A.length)=false:=decide_eq_false (by omega)
         have e58:((T:Int)==(A.length:Int))=true:=by simp;omega
         clear Hin Hout Hmid Hskip Hless
         go_wp2
         refine wqf fun u=> ?_
         have HQu:=Lib.hid (HQ.out.below u.below)
         clear HQ
         have HQ:=HQu
         clear HQu
         have hbu:=u.below
         have HOu:=Lib.hid (au HO.out hbu)
         have HGu:=Lib.hid ((hbu.block _ (ah HG.out)).trans HG.out)
         have hbwu:=ae hbw hbu
         clear HO HG hbw hbu c0 c1 c2 c3 cz
         have HO:=HOu
         have HG:=HGu
         have hbw:=hbwu
         clear HOu HGu hbwu
         generalize u.val=wr at*
         clear u
         obtain⟨c0,c1,c2,c3,_,cz⟩:=ff HG.out
         by_cases hc3:3≤cnt
         ·have hd3:decide ((3:Int)≤(cnt:Int))=true:=decide_eq_true (by omega)
          rw[if_pos hc3]at Hsi
          have Hres:=Lib.hid (Hsi.out.trans (Hend.out (by omega)))
          go_wp2
          refine wqf fun u=> ?_
          have HQu:=Lib.hid (HQ.out.below u.below)
          clear HQ
          have HQ:=HQu
          clear HQu
          have hbu:=u.below
          have HOu:=Lib.hid (au HO.out hbu)
          have HGu:=Lib.hid ((hbu.block _ (ah HG.out)).trans HG.out)
          have hbwu:=ae hbw hbu
          clear HO HG hbw hbu c0 c1 c2 c3 cz
          have HO:=HOu
          have HG:=HGu
          have hbw:=hbwu
          clear HOu HGu hbwu
          generalize u.val=wr at*
          clear u
          obtain⟨c0,c1,c2,c3,_,cz⟩:=ff HG.out
          clear e58 g3
          have g5:(T:Int)≤(cap:Int):=by omega
          go_wp2
          by_cases hT0:T=0
          ·subst hT0
           have z0:((0:Nat):Int)=0:=rfl
           simp only[z0]
           have hA0:A.length=0:=by omega
           rw[hA0]
           by_cases e7:cap=0
           ·subst e7
            refine cO [1,2,3,8,9,10] [0,1,2,3,4,5,6,8,9,10] 7 [11,12] (pick [je wr.heap.size,IsV (.slice (some ⟨g,0,none⟩) 0 0),IsV (.int .i64 0),IsV (.slice (some ⟨g,0,none⟩) 0 0),IsO wr.heap.size 0 ([]:List Q4),IsV (v4 (p0,p1,p2,p3)),jf (p0,p1,p2,p3),IsV undef,IsV (.slice (some ⟨g,0,none⟩) 0 0),IsV (.int .i64 0),IsV (.slice (some ⟨g,0,none⟩) 0 0)]) (by kernel_rfl) (by kernel_rfl) (Stabs.pick (by repeat(first|exact Stabs.nil|refine Stabs.cons (by first|exact dj _|exact gO _|exact gP _|exact fJ _ _ _) ?_))) ?_ ?_
            ·repeat(refine eH rfl (fun K' hK'=> ?_);go_simp;refine hK' _ _ (fun _=>rfl) ?_;clear hK' K')
             trivial
            try go_frame
            refine wgs rfl rfl (by simp) (fun w' hb' hR K hK=> ?_) (fun o0=> ?_)
            ·clear hR
             have zz:=hb'.size
             go_simp
             exact hK _ _ bel ⟨_,rfl,zz,ai rfl⟩
            try go_frame
            refine wgs rfl rfl (by simp) (fun w' hb' hR K hK=> ?_) (fun o1=> ?_)
            ·clear hR
             go_simp
             exact hK _ _ brf rfl
            try go_frame
            refine wgs rfl rfl (by simp) (fun w' hb' hR K hK=> ?_) (fun o2=> ?_)
            ·clear hR
             go_simp
             exact hK _ _ brf rfl
            try go_frame
            refine wgs rfl rfl (by simp) (fun w' hb' hR K hK=> ?_) (fun o3=> ?_)
            ·obtain rfl:o1= .slice (some ⟨g,0,none⟩) 0 0:=hR 1 (by kernel_rfl)
             obtain rfl:o2= .int .i64 0:=hR 2 (by kernel_rfl)
             clear hR
             go_simp
             exact hK _ _ brf rfl
            try go_frame
            refine wgs rfl rfl (by simp) (fun w' hb' hR K hK=> ?_) (fun o4=> ?_)
            ·have h0:(je wr.heap.size) o0 w':=hR 0 (by kernel_rfl)
             obtain rfl:o3= .slice (some ⟨g,0,none⟩) 0 0:=hR 3 (by kernel_rfl)
             clear hR
             obtain⟨gm,rfl,hgm,hgl⟩:=h0
             exact cZ _ _ 65 rfl (append_nil 65 _ 69 i0 be Hi0.out.1 ⟨gm,0,none⟩ _ _) (hK _ _ (Below.refl _ _) ⟨rfl, .inr ⟨gm,0,#[],rfl,hgm,hgl,Nat.le_refl _,by unfold maxLen;omega,rfl,rfl⟩⟩)
            try go_frame
            refine wgs rfl rfl (by simp) (fun w' hb' hR K hK=> ?_) (fun o5=> ?_)
            ·clear hR
             have q0:=ab hb' c0
             have q1:=ab hb' c1
             have q2:=ab hb' c2
             have q3:=ab hb' c3
             have qz:=Nat.lt_of_lt_of_le cz hb'.size
             go_simp
             exact hK _ _ brf rfl
            try go_frame
            refine wgs rfl rfl (by simp) (fun w' hb' hR K hK=> ?_) (fun o6=> ?_)
            ·obtain rfl:o5=v4 (p0,p1,p2,p3):=hR 5 (by kernel_rfl)
             clear hR
             go_simp
             exact hK _ _ bel ⟨_,rfl,ai rfl⟩
            try go_frame
            refine wgs rfl rfl (by simp) (fun w' hb' hR K hK=> ?_) (fun o8=> ?_)
            ·clear hR
             go_simp
             exact hK _ _ brf rfl
            try go_frame
            refine wgs rfl rfl (by simp) (fun w' hb' hR K hK=> ?_) (fun o9=> ?_)
            ·clear hR
             go_simp
             exact hK _ _ brf rfl
            try go_frame
            refine wgs rfl rfl (by simp) (fun w' hb' hR K hK=> ?_) (fun o10=> ?_)
            ·obtain rfl:o8= .slice (some ⟨g,0,none⟩) 0 0:=hR 8 (by kernel_rfl)
             obtain rfl:o9= .int .i64 0:=hR 9 (by kernel_rfl)
             clear hR
             go_simp
             exact hK _ _ brf rfl
            try go_frame
            refine dE (fun w' hb' hR=> ?_)
            obtain rfl:o10= .slice (some ⟨g,0,none⟩) 0 0:=hR 10 (by simp)
            have ho4:w'.ownsRow wr.heap.size 69 4 o4 0 ((([]:List Q4)).flatMap aH):=hR 4 (by simp)
            obtain⟨gp,rfl,hgp⟩:jf (p0,p1,p2,p3) o6 w':=hR 6 (by simp)
            clear hR
            simp only[oas]
            refine bn ho4 hb' hb'.size rfl (gQ hgp) _ _ rfl rfl rfl rfl (by first|omega|(simp;done)|(simp;omega)) fun v5 w5 hown5 hb5=> ?_
            clear ho4 hgp hb'
            go_frame
            refine bn (ds:=A.drop 0) hown5 hb5 hb5.size (by rw[List.length_drop];try omega) (gD (HQ.out.below hb5) 0) _ _ rfl rfl rfl rfl (by first|omega|(simp;done)|(simp;omega)) fun v6 w6 hown6 hb6=> ?_
            go_frame
            iterate 1 (refine wpList_step (fun K hK=> ?_);go_simp;refine hK _ _ ?_;clear hK K)
            refine NoPanic.normal ?_
            go_wp2
            go_roundw
            case rel=>exact⟨i+1,by omega,by go_num,ae hbw hb6,Lib.hid (by rw[Hres.out];exact AY (by simpa using hown6) hbw.size)⟩
            case measure=>first|(simp[intOf];done)|(simp[intOf];omega)
           ·skip
            refine cO [1,2,3,8,9,10] [0,1,2,3,4,5,6,8,9,10] 7 [11,12] (pick [je wr.heap.size,IsV (.slice (some ⟨g,0,none⟩) 0 cap),IsV (.int .i64 0),IsV (.slice (some ⟨g,0,none⟩) 0 cap),IsO wr.heap.size 0 ([]:List Q4),IsV (v4 (p0,p1,p2,p3)),jf (p0,p1,p2,p3),IsV undef,IsV (.slice (some ⟨g,0,none⟩) 0 cap),IsV (.int .i64 0),IsV (.slice (some ⟨g,0,none⟩) 0 cap)]) (by kernel_rfl) (by kernel_rfl) (Stabs.pick (by repeat(first|exact Stabs.nil|refine Stabs.cons (by first|exact dj _|exact gO _|exact gP _|exact fJ _ _ _) ?_))) ?_ ?_
            ·repeat(refine eH rfl (fun K' hK'=> ?_);go_simp;refine hK' _ _ (fun _=>rfl) ?_;clear hK' K')
             trivial
            try go_frame
            refine wgs rfl rfl (by simp) (fun w' hb' hR K hK=> ?_) (fun o0=> ?_)
            ·clear hR
             have zz:=hb'.size
             go_simp
             exact hK _ _ bel ⟨_,rfl,zz,ai rfl⟩
            try go_frame
            refine wgs rfl rfl (by simp) (fun w' hb' hR K hK=> ?_) (fun o1=> ?_)
            ·clear hR
             go_simp
             exact hK _ _ brf rfl
            try go_frame
            refine wgs rfl rfl (by simp) (fun w' hb' hR K hK=> ?_) (fun o2=> ?_)
            ·clear hR
             go_simp
             exact hK _ _ brf rfl
            try go_frame
            refine wgs rfl rfl (by simp) (fun w' hb' hR K hK=> ?_) (fun o3=> ?_)
            ·obtain rfl:o1= .slice (some ⟨g,0,none⟩) 0 cap:=hR 1 (by kernel_rfl)
             obtain rfl:o2= .int .i64 0:=hR 2 (by kernel_rfl)
             clear hR
             go_simp
             exact hK _ _ brf rfl
            try go_frame
            refine wgs rfl rfl (by simp) (fun w' hb' hR K hK=> ?_) (fun o4=> ?_)
            ·have h0:(je wr.heap.size) o0 w':=hR 0 (by kernel_rfl)
             obtain rfl:o3= .slice (some ⟨g,0,none⟩) 0 cap:=hR 3 (by kernel_rfl)
             clear hR
             obtain⟨gm,rfl,hgm,hgl⟩:=h0
             exact cZ _ _ 65 rfl (append_nil 65 _ 69 i0 be Hi0.out.1 ⟨gm,0,none⟩ _ _) (hK _ _ (Below.refl _ _) ⟨rfl, .inr ⟨gm,0,#[],rfl,hgm,hgl,Nat.le_refl _,by unfold maxLen;omega,rfl,rfl⟩⟩)
            try go_frame
            refine wgs rfl rfl (by simp) (fun w' hb' hR K hK=> ?_) (fun o5=> ?_)
            ·clear hR
             have q0:=ab hb' c0
             have q1:=ab hb' c1
             have q2:=ab hb' c2
             have q3:=ab hb' c3
             have qz:=Nat.lt_of_lt_of_le cz hb'.size
             go_simp
             exact hK _ _ brf rfl
            try go_frame
            refine wgs rfl rfl (by simp) (fun w' hb' hR K hK=> ?_) (fun o6=> ?_)
            ·obtain rfl:o5=v4 (p0,p1,p2,p3):=hR 5 (by kernel_rfl)
             clear hR
             go_simp
             exact hK _ _ bel ⟨_,rfl,ai rfl⟩
            try go_frame
            refine wgs rfl rfl (by simp) (fun w' hb' hR K hK=> ?_) (fun o8=> ?_)
            ·clear hR
             go_simp
             exact hK _ _ brf rfl
            try go_frame
            refine wgs rfl rfl (by simp) (fun w' hb' hR K hK=> ?_) (fun o9=> ?_)
            ·clear hR
             go_simp
             exact hK _ _ brf rfl
            try go_frame
            refine wgs rfl rfl (by simp) (fun w' hb' hR K hK=> ?_) (fun o10=> ?_)
            ·obtain rfl:o8= .slice (some ⟨g,0,none⟩) 0 cap:=hR 8 (by kernel_rfl)
             obtain rfl:o9= .int .i64 0:=hR 9 (by kernel_rfl)
             clear hR
             go_simp
             exact hK _ _ brf rfl
            try go_frame
            refine dE (fun w' hb' hR=> ?_)
            obtain rfl:o10= .slice (some ⟨g,0,none⟩) 0 cap:=hR 10 (by simp)
            have ho4:w'.ownsRow wr.heap.size 69 4 o4 0 ((([]:List Q4)).flatMap aH):=hR 4 (by simp)
            obtain⟨gp,rfl,hgp⟩:jf (p0,p1,p2,p3) o6 w':=hR 6 (by simp)
            clear hR
            simp only[oas]
            refine bn ho4 hb' hb'.size rfl (gQ hgp) _ _ rfl rfl rfl rfl (by first|omega|(simp;done)|(simp;omega)) fun v5 w5 hown5 hb5=> ?_
            clear ho4 hgp hb'
            go_frame
            refine bn (ds:=A.drop 0) hown5 hb5 hb5.size (by rw[List.length_drop];try omega) (gD (HQ.out.below hb5) 0) _ _ rfl rfl rfl rfl (by first|omega|(simp;done)|(simp;omega)) fun v6 w6 hown6 hb6=> ?_
            go_frame
            iterate 1 (refine wpList_step (fun K hK=> ?_);go_simp;refine hK _ _ ?_;clear hK K)
            refine NoPanic.normal ?_
            go_wp2
            go_roundw
            case rel=>exact⟨i+1,by omega,by go_num,ae hbw hb6,Lib.hid (by rw[Hres.out];exact AY (by simpa using hown6) hbw.size)⟩
            case measure=>first|(simp[intOf];done)|(simp[intOf];omega)
          ·have hT1:0<T:=by omega
           have e7:¬cap=0:=by omega
           by_cases e6:cap=T
           ·subst e6
            obtain⟨T,rfl⟩:∃T,T=cap:=⟨_,rfl⟩
            refine cO [1,2,3,8,9,10] [0,1,2,3,4,5,6,8,9,10] 7 [11,12] (pick [je wr.heap.size,IsV (.slice (some ⟨g,0,none⟩) A.length T),IsV (.int .i64 T),IsV (.slice (some ⟨g,0,none⟩) T T),IsO wr.heap.size T (A.take T),IsV (v4 (p0,p1,p2,p3)),jf (p0,p1,p2,p3),IsV undef,IsV (.slice (some ⟨g,0,none⟩) A.length T),IsV (.int .i64 T),IsV (.slice (some ⟨g,0,none⟩) 0 0)]) (by kernel_rfl) (by kernel_rfl) (Stabs.pick (by repeat(first|exact Stabs.nil|refine Stabs.cons (by first|exact dj _|exact gO _|exact gP _|exact fJ _ _ _) ?_))) ?_ ?_
            ·repeat(refine eH rfl (fun K' hK'=> ?_);go_simp;refine hK' _ _ (fun _=>rfl) ?_;clear hK' K')
             trivial
            try go_frame
            refine wgs rfl rfl (by simp) (fun w' hb' hR K hK=> ?_) (fun o0=> ?_)
            ·clear hR
             have zz:=hb'.size
             go_simp
             exact hK _ _ bel ⟨_,rfl,zz,ai rfl⟩
            try go_frame
            refine wgs rfl rfl (by simp) (fun w' hb' hR K hK=> ?_) (fun o1=> ?_)
            ·clear hR
             go_simp
             exact hK _ _ brf rfl
            try go_frame
            refine wgs rfl rfl (by simp) (fun w' hb' hR K hK=> ?_) (fun o2=> ?_)
            ·clear hR
             go_simp
             exact hK _ _ brf rfl
            try go_frame
            refine wgs rfl rfl (by simp) (fun w' hb' hR K hK=> ?_) (fun o3=> ?_)
            ·obtain rfl:o1= .slice (some ⟨g,0,none⟩) A.length T:=hR 1 (by kernel_rfl)
             obtain rfl:o2= .int .i64 T:=hR 2 (by kernel_rfl)
             clear hR
             go_simp
             exact hK _ _ brf rfl
            try go_frame
            refine wgs rfl rfl (by simp) (fun w' hb' hR K hK=> ?_) (fun o4=> ?_)
            ·have h0:(je wr.heap.size) o0 w':=hR 0 (by kernel_rfl)
             obtain rfl:o3= .slice (some ⟨g,0,none⟩) T T:=hR 3 (by kernel_rfl)
             clear hR
             obtain⟨gm,rfl,hgm,hgl⟩:=h0
             obtain⟨v9,w9,hrun,hown9,hb9⟩:=dM (P:=Tryz.prog) (w:=w') 65 65 69 i0 (v4 (0,0,0,0)) 4 32 be Hi0.out.1 Hi0.out.2.1 Hi0.out.2.2.1 Hi0.out.2.2.2 rfl (by decide) ⟨gm,0,none⟩ 0 0 [] rfl (fun _ _ h=>by simp at h) ⟨g,0,none⟩ T T ((A.take T).flatMap aH) (by rw[bh,List.length_take];omega) (mB (HQ.out.below hb') T) (by omega) (by unfold maxLen;omega) (by omega)
             exact cZ _ _ 65 rfl hrun (hK _ _ hb9 (by have h9:=AY hown9 hb'.size;simp only[Nat.zero_add,List.nil_append]at h9;exact h9))
            try go_frame
            refine wgs rfl rfl (by simp) (fun w' hb' hR K hK=> ?_) (fun o5=> ?_)
            ·clear hR
             have q0:=ab hb' c0
             have q1:=ab hb' c1
             have q2:=ab hb' c2
             have q3:=ab hb' c3
             have qz:=Nat.lt_of_lt_of_le cz hb'.size
             go_simp
             exact hK _ _ brf rfl
            try go_frame
            refine wgs rfl rfl (by simp) (fun w' hb' hR K hK=> ?_) (fun o6=> ?_)
            ·obtain rfl:o5=v4 (p0,p1,p2,p3):=hR 5 (by kernel_rfl)
             clear hR
             go_simp
             exact hK _ _ bel ⟨_,rfl,ai rfl⟩
            try go_frame
            refine wgs rfl rfl (by simp) (fun w' hb' hR K hK=> ?_) (fun o8=> ?_)
            ·clear hR
             go_simp
             exact hK _ _ brf rfl
            try go_frame
            refine wgs rfl rfl (by simp) (fun w' hb' hR K hK=> ?_) (fun o9=> ?_)
            ·clear hR
             go_simp
             exact hK _ _ brf rfl
            try go_frame
            refine wgs rfl rfl (by simp) (fun w' hb' hR K hK=> ?_) (fun o10=> ?_)
            ·obtain rfl:o8= .slice (some ⟨g,0,none⟩) A.length T:=hR 8 (by kernel_rfl)
             obtain rfl:o9= .int .i64 T:=hR 9 (by kernel_rfl)
             clear hR
             go_simp
             exact hK _ _ brf rfl
            try go_frame
            refine dE (fun w' hb' hR=> ?_)
            obtain rfl:o10= .slice (some ⟨g,0,none⟩) 0 0:=hR 10 (by simp)
            have ho4:w'.ownsRow wr.heap.size 69 4 o4 T (((A.take T)).flatMap aH):=hR 4 (by simp)
            obtain⟨gp,rfl,hgp⟩:jf (p0,p1,p2,p3) o6 w':=hR 6 (by simp)
            clear hR
            simp only[oas]
            refine bn ho4 hb' hb'.size rfl (gQ hgp) _ _ rfl rfl rfl rfl (by first|omega|(simp;done)|(simp;omega)) fun v5 w5 hown5 hb5=> ?_
            clear ho4 hgp hb'
            go_frame
            refine bn (ds:=A.drop T) hown5 hb5 hb5.size (by rw[List.length_drop];try omega) (fun j u hu=>by rw[List.drop_eq_nil_of_le (by omega)]at hu;simp at hu) _ _ rfl rfl rfl rfl (by first|omega|(simp;done)|(simp;omega)) fun v6 w6 hown6 hb6=> ?_
            go_frame
            iterate 1 (refine wpList_step (fun K hK=> ?_);go_simp;refine hK _ _ ?_;clear hK K)
            refine NoPanic.normal ?_
            go_wp2
            go_roundw
            case rel=>exact⟨i+1,by omega,by go_num,ae hbw hb6,Lib.hid (by rw[Hres.out];exact AY (by simpa using hown6) hbw.size)⟩
            case measure=>first|(simp[intOf];done)|(simp[intOf];omega)
           ·skip
            refine cO [1,2,3,8,9,10] [0,1,2,3,4,5,6,8,9,10] 7 [11,12] (pick [je wr.heap.size,IsV (.slice (some ⟨g,0,none⟩) A.length cap),IsV (.int .i64 T),IsV (.slice (some ⟨g,0,none⟩) T cap),IsO wr.heap.size T (A.take T),IsV (v4 (p0,p1,p2,p3)),jf (p0,p1,p2,p3),IsV undef,IsV (.slice (some ⟨g,0,none⟩) A.length cap),IsV (.int .i64 T),IsV (.slice (some ⟨g,T*4,none⟩) 0 (cap-T))]) (by kernel_rfl) (by kernel_rfl) (Stabs.pick (by repeat(first|exact Stabs.nil|refine Stabs.cons (by first|exact dj _|exact gO _|exact gP _|exact fJ _ _ _) ?_))) ?_ ?_
            ·repeat(refine eH rfl (fun K' hK'=> ?_);go_simp;refine hK' _ _ (fun _=>rfl) ?_;clear hK' K')
             trivial
            try go_frame
            refine wgs rfl rfl (by simp) (fun w' hb' hR K hK=> ?_) (fun o0=> ?_)
            ·clear hR
             have zz:=hb'.size
             go_simp
             exact hK _ _ bel ⟨_,rfl,zz,ai rfl⟩
            try go_frame
            refine wgs rfl rfl (by simp) (fun w' hb' hR K hK=> ?_) (fun o1=> ?_)
            ·clear hR
             go_simp
             exact hK _ _ brf rfl
            try go_frame
            refine wgs rfl rfl (by simp) (fun w' hb' hR K hK=> ?_) (fun o2=> ?_)
            ·clear hR
             go_simp
             exact hK _ _ brf rfl
            try go_frame
            refine wgs rfl rfl (by simp) (fun w' hb' hR K hK=> ?_) (fun o3=> ?_)
            ·obtain rfl:o1= .slice (some ⟨g,0,none⟩) A.length cap:=hR 1 (by kernel_rfl)
             obtain rfl:o2= .int .i64 T:=hR 2 (by kernel_rfl)
             clear hR
             go_simp
             exact hK _ _ brf rfl
            try go_frame
            refine wgs rfl rfl (by simp) (fun w' hb' hR K hK=> ?_) (fun o4=> ?_)
            ·have h0:(je wr.heap.size) o0 w':=hR 0 (by kernel_rfl)
             obtain rfl:o3= .slice (some ⟨g,0,none⟩) T cap:=hR 3 (by kernel_rfl)
             clear hR
             obtain⟨gm,rfl,hgm,hgl⟩:=h0
             obtain⟨v9,w9,hrun,hown9,hb9⟩:=dM (P:=Tryz.prog) (w:=w') 65 65 69 i0 (v4 (0,0,0,0)) 4 32 be Hi0.out.1 Hi0.out.2.1 Hi0.out.2.2.1 Hi0.out.2.2.2 rfl (by decide) ⟨gm,0,none⟩ 0 0 [] rfl (fun _ _ h=>by simp at h) ⟨g,0,none⟩ T cap ((A.take T).flatMap aH) (by rw[bh,List.length_take];omega) (mB (HQ.out.below hb') T) (by omega) (by unfold maxLen;omega) (by omega)
             exact cZ _ _ 65 rfl hrun (hK _ _ hb9 (by have h9:=AY hown9 hb'.size;simp only[Nat.zero_add,List.nil_append]at h9;exact h9))
            try go_frame
            refine wgs rfl rfl (by simp) (fun w' hb' hR K hK=> ?_) (fun o5=> ?_)
            ·clear hR
             have q0:=ab hb' c0
             have q1:=ab hb' c1
             have q2:=ab hb' c2
             have q3:=ab hb' c3
             have qz:=Nat.lt_of_lt_of_le cz hb'.size
             go_simp
             exact hK _ _ brf rfl
            try go_frame
            refine wgs rfl rfl (by simp) (fun w' hb' hR K hK=> ?_) (fun o6=> ?_)
            ·obtain rfl:o5=v4 (p0,p1,p2,p3):=hR 5 (by kernel_rfl)
             clear hR
             go_simp
             exact hK _ _ bel ⟨_,rfl,ai rfl⟩
            try go_frame
            refine wgs rfl rfl (by simp) (fun w' hb' hR K hK=> ?_) (fun o8=> ?_)
            ·clear hR
             go_simp
             exact hK _ _ brf rfl
            try go_frame
            refine wgs rfl rfl (by simp) (fun w' hb' hR K hK=> ?_) (fun o9=> ?_)
            ·clear hR
             go_simp
             exact hK _ _ brf rfl
            try go_frame
            refine wgs rfl rfl (by simp) (fun w' hb' hR K hK=> ?_) (fun o10=> ?_)
            ·obtain rfl:o8= .slice (some ⟨g,0,none⟩) A.length cap:=hR 8 (by kernel_rfl)
             obtain rfl:o9= .int .i64 T:=hR 9 (by kernel_rfl)
             clear hR
             go_simp
             exact hK _ _ brf rfl
            try go_frame
            refine dE (fun w' hb' hR=> ?_)
            obtain rfl:o10= .slice (some ⟨g,T*4,none⟩) 0 (cap-T):=hR 10 (by simp)
            have ho4:w'.ownsRow wr.heap.size 69 4 o4 T (((A.take T)).flatMap aH):=hR 4 (by simp)
            obtain⟨gp,rfl,hgp⟩:jf (p0,p1,p2,p3) o6 w':=hR 6 (by simp)
            clear hR
            simp only[oas]
            refine bn ho4 hb' hb'.size rfl (gQ hgp) _ _ rfl rfl rfl rfl (by first|omega|(simp;done)|(simp;omega)) fun v5 w5 hown5 hb5=> ?_
            clear ho4 hgp hb'
            go_frame
            refine bn (ds:=A.drop T) hown5 hb5 hb5.size (by rw[List.length_drop];try omega) (gD (HQ.out.below hb5) T) _ _ rfl rfl rfl rfl (by first|omega|(simp;done)|(simp;omega)) fun v6 w6 hown6 hb6=> ?_
            go_frame
            iterate 1 (refine wpList_step (fun K hK=> ?_);go_simp;refine hK _ _ ?_;clear hK K)
            refine NoPanic.normal ?_
            go_wp2
            go_roundw
            case rel=>exact⟨i+1,by omega,by go_num,ae hbw hb6,Lib.hid (by rw[Hres.out];exact AY (by simpa using hown6) hbw.size)⟩
            case measure=>first|(simp[intOf];done)|(simp[intOf];omega)
         ·have hd3:decide ((3:Int)≤(cnt:Int))=false:=decide_eq_false (by omega)
          rw[if_neg hc3]at Hsi
          go_wp2
          refine wqf fun u=> ?_
          have hbu:=u.below
          have HOu:=Lib.hid (au HO.out hbu)
          have HGu:=Lib.hid ((hbu.block _ (ah HG.out)).trans HG.out)
          have hbwu:=ae hbw hbu
          clear HO HG hbw hbu c0 c1 c2 c3 cz
          have HO:=HOu
          have HG:=HGu
          have hbw:=hbwu
          clear HOu HGu hbwu
          generalize u.val=wr at*
          clear u
          obtain⟨c0,c1,c2,c3,_,cz⟩:=ff HG.out
          go_wp2
          go_roundw
          case rel=>exact⟨i+1,by omega,by go_num,hbw,Lib.hid (by rw[Hsi.out];exact HO.out)⟩
          case measure=>first|(simp[intOf];done)|(simp[intOf];omega)
  ·obtain rfl:i=n:=by omega
   have g1:¬(i:Int)<(i:Int):=by omega
   go_wp2
   go_ret
   exact⟨_,rfl,ae hb1 hb,by have:=AY (base':=W.heap.size) HO.out hb1.size;rw[←Hfin.out];exact this⟩
end
section
open Go.RowKit Go.Shelf
attribute [local go_sem] Ext.cell Ext.frozen
theorem de (n lo hi:Int) (w:World):Calls Tryz.prog 11 #[.int .i64 n, .int .i64 lo, .int .i64 hi] w fun e w'=>e= .returned (.bool (decide (lo≤n∧n≤hi)))∧w=w':=by
 by_cases h1:lo≤n
 ·by_cases h2:n≤hi
  ·go_enter Tryz.func11,Tryz.ntmps11
   go_wp2
   go_ret
   exact⟨ay (by simp[h1,h2]),rfl⟩
  ·go_enter Tryz.func11,Tryz.ntmps11
   go_wp2
   go_ret
   exact⟨ay (by simp[h2]),rfl⟩
 ·go_enter Tryz.func11,Tryz.ntmps11
  go_wp2
  go_ret
  exact⟨ay (by simp;omega),rfl⟩
theorem pX (k:Int) (w:World):Calls Tryz.prog 87 #[.int .i64 k] w fun e w'=>e= .returned (.bool (decide (0≤k∧k≤10)))∧w=w':=by
 have h:=fun w=>Lib.hid (de k 0 10 w)
 go_enter Tryz.func87,Tryz.ntmps87
 go_wp2_with fail
 refine((h _).out).mono ?_
 rintro e w1 ⟨rfl,rfl⟩
 go_wp2
 go_ret
 exact⟨ay (by simp),rfl⟩
theorem oo (k:Int) (w:World):Calls Tryz.prog 12 #[.int .i64 k] w fun e w'=>e= .returned (.int .i64 (cD k))∧w=w':=by
 by_cases h:k=10
 ·subst h
  go_enter Tryz.func12,Tryz.ntmps12
  go_wp2
  go_ret
  exact⟨rfl,rfl⟩
 ·have h':(k==10)=false:=by simpa using h
  go_enter Tryz.func12,Tryz.ntmps12
  go_wp2
  go_ret
  exact⟨aK (by simp[cD,h]),rfl⟩
theorem bY (v:Value) (xs:List Int) (w:World) (hx:Ints w v xs) (hm:xs.length≤1000000000):
  Calls Tryz.prog 88 #[v] w (Ret w (.bool (aD xs))):=by
 obtain⟨a,n,c,rfl,hn,_,hx⟩:=hx
 have Hyes:Hid ((∀i,i+1<xs.length→xs.getD i 0<xs.getD (i+1) 0)→aD xs=true):=Lib.hid (Be xs).2
 have Hno:Hid (∀i,i+1<xs.length→¬xs.getD i 0<xs.getD (i+1) 0→aD xs=false):=Lib.hid (fun i hi h=>by rw[Bool.eq_false_iff];exact fun h'=>h ((Be xs).1 h' i hi))
 generalize aD xs=res at*
 go_enter Tryz.func88,Tryz.ntmps88
 go_wp2
 go_loopw [3] (fun i wr=>∃k:Nat,1≤k∧(k≤n∨k=1)∧i= .int .i64 k∧Below w.heap.size w wr∧Hid (∀i,i+1<k→xs.getD i 0<xs.getD (i+1) 0)) (fun i _=>n-(intOf i).toNat)
 case atStart=>exact⟨1,by omega,by omega,rfl,Below.refl _ _,Lib.hid (fun i h=>by omega)⟩
 case round=>
  obtain⟨k,hk1,hk2,rfl,hb,Hz⟩:=hrel
  by_cases hlt:k<n
  ·obtain⟨b,off,rfl,hi⟩:=hx (by omega)
   have c1:=ab hb (hi k (by omega))
   have c0:=ab hb (hi (k-1) (by omega))
   have zb:=World.block_lt_of_cell? wr _ c1
   simp only at zb
   rw[cS xs k (by omega)]at c1
   rw[cS xs (k-1) (by omega)]at c0
   have Hnk:=Lib.hid (Hno.out (k-1) (by omega))
   rw[show k-1+1=k by omega]at Hnk
   obtain⟨x,Hx⟩:∃x,Hid (xs.getD k 0=x):=⟨_,Lib.hid rfl⟩
   obtain⟨y,Hy⟩:∃y,Hid (xs.getD (k-1) 0=y):=⟨_,Lib.hid rfl⟩
   rw[Hx.out]at c1 Hnk
   rw[Hy.out]at c0 Hnk
   clear hx hi
   by_cases hxy:y<x
   ·have hxd:¬x≤y:=by omega
    go_wp2
    refine wqf fun u=> ?_
    go_wp2
    go_roundw
    case rel=>exact⟨k+1,by omega,by omega,by go_num,ae hb u.below,Lib.hid (fun i hi=>by
     by_cases e:i=k-1
     ·subst e;rw[show k-1+1=k by omega,Hx.out,Hy.out];exact hxy
     ·exact Hz.out i (by omega))⟩
    case measure=>simp[intOf];omega
   ·have hxd:x≤y:=by omega
    go_wp2
    refine wqf fun u=> ?_
    go_wp2
    go_ret
    exact⟨ay (Hnk.out hxy).symm,ae hb u.below⟩
  ·have Hy:=Lib.hid (Hyes.out (fun i hi=>Hz.out i (by omega)))
   clear hx
   go_wp2
   go_ret
   exact⟨ay Hy.out.symm,hb⟩
set_option maxRecDepth 100000 in
theorem xO (n:Int) (w:World):Calls Tryz.prog 34 #[.int .i64 0, .int .i64 n] w (Ret w (.bool (n==1))):=by
 go_enter Tryz.func34,Tryz.ntmps34
 go_wp2
 go_ret
 exact⟨rfl,bel⟩
set_option maxRecDepth 100000 in
theorem xP (n:Int) (w:World):Calls Tryz.prog 34 #[.int .i64 1, .int .i64 n] w (Ret w (.bool (n==2))):=by
 go_enter Tryz.func34,Tryz.ntmps34
 go_wp2
 go_ret
 exact⟨rfl,bel⟩
set_option maxRecDepth 100000 in
theorem xQ (n:Int) (w:World):Calls Tryz.prog 34 #[.int .i64 2, .int .i64 n] w (Ret w (.bool (n==4))):=by
 go_enter Tryz.func34,Tryz.ntmps34
 go_wp2
 go_ret
 exact⟨rfl,bel⟩
set_option maxRecDepth 100000 in
theorem xR (n:Int) (w:World):Calls Tryz.prog 34 #[.int .i64 3, .int .i64 n] w (Ret w (.bool (n==6))):=by
 go_enter Tryz.func34,Tryz.ntmps34
 go_wp2
 go_ret
 exact⟨rfl,bel⟩
set_option maxRecDepth 100000 in
theorem xS (n:Int) (w:World):Calls Tryz.prog 34 #[.int .i64 4, .int .i64 n] w (Ret w (.bool (n==4))):=by
 go_enter Tryz.func34,Tryz.ntmps34
 go_wp2
 go_ret
 exact⟨rfl,bel⟩
set_option maxRecDepth 100000 in
theorem xT (n:Int) (w:World):Calls Tryz.prog 34 #[.int .i64 6, .int .i64 n] w (Ret w (.bool (n==3))):=by
 go_enter Tryz.func34,Tryz.ntmps34
 go_wp2
 go_ret
 exact⟨rfl,bel⟩
set_option maxRecDepth 100000 in
theorem xU (n:Int) (w:World):Calls Tryz.prog 34 #[.int .i64 9, .int .i64 n] w (Ret w (.bool (n==5))):=by
 go_enter Tryz.func34,Tryz.ntmps34
 go_wp2
 go_ret
 exact⟨rfl,bel⟩
set_option maxRecDepth 100000 in
theorem vI (n:Int) (w:World):Calls Tryz.prog 34 #[.int .i64 10, .int .i64 n] w (Ret w (.bool (n==5))):=by
 go_enter Tryz.func34,Tryz.ntmps34
 go_wp2
 go_ret
 exact⟨rfl,bel⟩
set_option maxRecDepth 100000 in
theorem xV (n:Int) (w:World):Calls Tryz.prog 34 #[.int .i64 5, .int .i64 n] w (Ret w (.bool (decide (3≤n)))):=by
 go_enter Tryz.func34,Tryz.ntmps34
 go_wp2
 go_ret
 exact⟨rfl,bel⟩
set_option maxRecDepth 100000 in
theorem xW (n:Int) (w:World):Calls Tryz.prog 34 #[.int .i64 7, .int .i64 n] w (Ret w (.bool (decide (1≤n)))):=by
 go_enter Tryz.func34,Tryz.ntmps34
 go_wp2
 go_ret
 exact⟨rfl,bel⟩
set_option maxRecDepth 100000 in
theorem xX (n:Int) (w:World):Calls Tryz.prog 34 #[.int .i64 8, .int .i64 n] w (Ret w (.bool (decide (8≤n)&&n.tmod 2==0))):=by
 by_cases h:8≤n
 ·go_enter Tryz.func34,Tryz.ntmps34
  go_wp2
  go_ret
  exact⟨ay (by rw[Int.tmod_eq_emod_of_nonneg (by omega)];simp[h]),bel⟩
 ·go_enter Tryz.func34,Tryz.ntmps34
  go_wp2
  go_ret
  exact⟨ay (by simp;omega),bel⟩
theorem tH (kind n:Int) (w:World) (hk:0≤kind∧kind≤10):Calls Tryz.prog 34 #[.int .i64 kind, .int .i64 n] w (Ret w (.bool (Bf kind n))):=by
 rcases(by omega:kind=0∨kind=1∨kind=2∨kind=3∨kind=4∨kind=5∨kind=6∨kind=7∨kind=8∨kind=9∨kind=10)with rfl|rfl|rfl|rfl|rfl|rfl|rfl|rfl|rfl|rfl|rfl
 ·exact xO n w
 ·exact xP n w
 ·exact xQ n w
 ·exact xR n w
 ·exact xS n w
 ·exact xV n w
 ·exact xT n w
 ·exact xW n w
 ·exact xX n w
 ·exact xU n w
 ·exact vI n w
theorem xY (n m:Int) (w:World) (hm:1≤m∧m≤1000000000000000):Calls Tryz.prog 90 #[.int .i64 n, .int .i64 m] w fun e w'=>e= .returned (.int .i64 (n % m))∧w=w':=by
 have h0:(m==0)=false:=by simp;omega
 have hq:n.tmod m=if 0≤n % m∧(0≤n∨n % m=0)then n % m else n % m-m:=by
  rw[Int.tmod_eq_emod]
  have:=Int.emod_nonneg n (show m≠0 by omega)
  by_cases hn:0≤n
  ·simp[hn,this]
  ·by_cases h1:m ∣ n
   ·have:n % m=0:=Int.emod_eq_zero_of_dvd h1
    simp[h1,this]
   ·have h2:n % m≠0:=fun h=>h1 (Int.dvd_of_emod_eq_zero h)
    simp[hn,h1,h2]
    omega
 have e1:=Int.emod_nonneg n (show m≠0 by omega)
 have e2:=Int.emod_lt_of_pos n (show 0<m by omega)
 have Hq:=Lib.hid hq
 generalize n % m=r at*
 generalize hT:n.tmod m=T at*
 have HT:=Lib.hid hT
 clear hT hq
 by_cases hneg:T<0
 ·have hr:Hid (r=T+m):=Lib.hid (by have:=Hq.out;split at this<;>omega)
  have e3:T+m≤1000000000000000:=by have:=hr.out;omega
  have e4: -1000000000000000≤T:=by have:=hr.out;omega
  have hT:=HT.out
  go_enter Tryz.func90,Tryz.ntmps90
  go_wp2
  go_ret
  exact⟨aK hr.out.symm,rfl⟩
 ·have hr:Hid (r=T):=Lib.hid (by have:=Hq.out;split at this<;>omega)
  have hT:=HT.out
  go_enter Tryz.func90,Tryz.ntmps90
  go_wp2
  go_ret
  exact⟨aK hr.out.symm,rfl⟩
set_option maxRecDepth 100000 in
theorem mC (k l w t:Int) (W:World):
  Calls Tryz.prog 33 #[.int .i64 k, .agg #[.int .i64 l, .int .i64 w, .int .i64 t]] W (Ret W (.int .i64 (ef k l w t))):=by
 have hi:=fun W'=>Lib.hid (pX k W')
 by_cases hk:0≤k∧k≤10
 ·rw[show decide (0≤k∧k≤10)=true from decide_eq_true hk]at hi
  have hw:=fun x W'=>Lib.hid (de x 1 100000 W')
  have Hbad:Hid (¬((1≤l∧l≤100000)∧(1≤w∧w≤100000)∧(1≤t∧t≤100000))→ef k l w t=2):=Lib.hid (fun h=>by
   unfold ef
   rw[if_neg]
   rintro⟨_,h2⟩
   rw[cC]at h2
   exact h ⟨h2 l (by simp),h2 w (by simp),h2 t (by simp)⟩)
  have Hgood:Hid (((1≤l∧l≤100000)∧(1≤w∧w≤100000)∧(1≤t∧t≤100000))→ef k l w t=0):=Lib.hid (fun h=>by
   unfold ef
   rw[if_pos]
   refine⟨hk, ?_⟩
   rw[cC]
   intro x hx
   simp at hx
   rcases hx with rfl|rfl|rfl
   ·exact h.1
   ·exact h.2.1
   ·exact h.2.2)
  generalize ef k l w t=res at*
  go_enter Tryz.func33,Tryz.ntmps33
  go_wp2_with fail
  refine((hi _).out).mono ?_
  rintro e w1 ⟨rfl,rfl⟩
  obtain⟨V,HV⟩:∃V,Hid (W.alloc (.cells #[.int .i64 l, .int .i64 w, .int .i64 t] 22)=V):=⟨_,Lib.hid rfl⟩
  have hV:Below W.heap.size W V:=by rw[←HV.out];exact bel
  have d0:V.cell? ⟨W.heap.size,0,none⟩=some (.int .i64 l):=by rw[←HV.out];exact(aq rfl 0).trans rfl
  have d1:V.cell? ⟨W.heap.size,1,none⟩=some (.int .i64 w):=by rw[←HV.out];exact(aq rfl 1).trans rfl
  have d2:V.cell? ⟨W.heap.size,2,none⟩=some (.int .i64 t):=by rw[←HV.out];exact(aq rfl 2).trans rfl
  have zV:=World.block_lt_of_cell? V _ d0
  simp only at zV
  rw[HV.out]
  clear HV
  go_wp2
  go_loopw [5] (fun i wr=>V=wr∧∃k:Nat,k≤3∧i= .int .i64 k∧Hid ((1≤k→1≤l∧l≤100000)∧(2≤k→1≤w∧w≤100000)∧(3≤k→1≤t∧t≤100000))) (fun i _=>3-(intOf i).toNat)
  case atStart=>exact⟨rfl,0,by omega,rfl,Lib.hid (by omega)⟩
  case round=>
   obtain⟨rfl,j,hj,rfl,HJ⟩:=hrel
   rcases(by omega:j=0∨j=1∨j=2∨j=3)with rfl|rfl|rfl|rfl
   ·by_cases hx:1≤l∧l≤100000
    ·have hw':=hw l
     rw[show decide (1≤l∧l≤100000)=true from decide_eq_true hx]at hw'
     have HX:=Lib.hid hx
     clear hx hw
     go_wp2_with fail
     refine((hw' _).out).mono ?_
     rintro e w1 ⟨rfl,rfl⟩
     go_wp2
     go_roundw
     case rel=>exact⟨by first|rfl|trivial,0+1,by omega,by first|rfl|go_num,Lib.hid (by have:=HJ.out;have:=HX.out;omega)⟩
     case measure=>first|decide|(simp[intOf];done)
    ·have hw':=hw l
     rw[show decide (1≤l∧l≤100000)=false from decide_eq_false hx]at hw'
     have HB:=Lib.hid (Hbad.out (fun h=>by omega))
     clear hx hw
     go_wp2_with fail
     refine((hw' _).out).mono ?_
     rintro e w1 ⟨rfl,rfl⟩
     go_wp2
     go_ret
     exact⟨aK HB.out.symm,hV⟩
   ·by_cases hx:1≤w∧w≤100000
    ·have hw':=hw w
     rw[show decide (1≤w∧w≤100000)=true from decide_eq_true hx]at hw'
     have HX:=Lib.hid hx
     clear hx hw
     go_wp2_with fail
     refine((hw' _).out).mono ?_
     rintro e w1 ⟨rfl,rfl⟩
     go_wp2
     go_roundw
     case rel=>exact⟨by first|rfl|trivial,1+1,by omega,by first|rfl|go_num,Lib.hid (by have:=HJ.out;have:=HX.out;omega)⟩
     case measure=>first|decide|(simp[intOf];done)
    ·have hw':=hw w
     rw[show decide (1≤w∧w≤100000)=false from decide_eq_false hx]at hw'
     have HB:=Lib.hid (Hbad.out (fun h=>by omega))
     clear hx hw
     go_wp2_with fail
     refine((hw' _).out).mono ?_
     rintro e w1 ⟨rfl,rfl⟩
     go_wp2
     go_ret
     exact⟨aK HB.out.symm,hV⟩
   ·by_cases hx:1≤t∧t≤100000
    ·have hw':=hw t
     rw[show decide (1≤t∧t≤100000)=true from decide_eq_true hx]at hw'
     have HX:=Lib.hid hx
     clear hx hw
     go_wp2_with fail
     refine((hw' _).out).mono ?_
     rintro e w1 ⟨rfl,rfl⟩
     go_wp2
     go_roundw
     case rel=>exact⟨by first|rfl|trivial,2+1,by omega,by first|rfl|go_num,Lib.hid (by have:=HJ.out;have:=HX.out;omega)⟩
     case measure=>first|decide|(simp[intOf];done)
    ·have hw':=hw t
     rw[show decide (1≤t∧t≤100000)=false from decide_eq_false hx]at hw'
     have HB:=Lib.hid (Hbad.out (fun h=>by omega))
     clear hx hw
     go_wp2_with fail
     refine((hw' _).out).mono ?_
     rintro e w1 ⟨rfl,rfl⟩
     go_wp2
     go_ret
     exact⟨aK HB.out.symm,hV⟩
   ·have Hg:=Lib.hid (Hgood.out ⟨HJ.out.1 (by omega),HJ.out.2.1 (by omega),HJ.out.2.2 (by omega)⟩)
    go_wp2
    go_ret
    exact⟨aK Hg.out.symm,hV⟩
 ·rw[show decide (0≤k∧k≤10)=false from decide_eq_false hk]at hi
  have He:=Lib.hid (show ef k l w t=2 by unfold ef;rw[if_neg (fun h=>hk h.1)])
  go_enter Tryz.func33,Tryz.ntmps33
  go_wp2_with fail
  refine((hi _).out).mono ?_
  rintro e w1 ⟨rfl,rfl⟩
  go_wp2
  go_ret
  exact⟨aK He.out.symm,bel⟩
end
section
open Go.RowKit
def Gd (c:Bool) (P:Value→World→Prop):Value→World→Prop:=
 match c with
 |true=>P
 |false=>fun v _=>v=undef
theorem sB {c:Bool} {P:Value→World→Prop} (h:dR P):dR (Gd c P):=by
 cases c
 ·exact fun _ _ _ _ h=>h
 ·exact h
def IsL (xs:List Int):Value→World→Prop:=fun v w=>Ints w v xs
theorem oq (xs:List Int):dR (IsL xs):=fun _ _ _ hb h=>Ints.below h hb
end
section
open Go.RowKit
section
variable {P:Program} {ops:Array Oper} {md:Region.Mode} {Q:Exit→Act→World→Prop}
def vK (P:Program) (ops:Array Oper) (S:World→Prop) (Q:Exit→Act→World→Prop) (fin:List Nat):List Nat→Exit→Act→World→Prop
 | []=>Mid P ops S Q (bu ops fin)
 |m::ms=>fun e a w=>match e with
  | .normal=>S w∧wpList P ops (vK P ops S Q fin ms) (bu ops [m]) a w
  |_=>False
theorem pY {S:World→Prop} {fin:List Nat} {m g:Nat} {listed:Array Bool} {a:Act} {w:World} (hB:Region.ready md ops listed=[m]) {R:Exit→Act→World→Prop} {T:Act→World→Prop} (hR:R=fun e a w=>match e with| .normal=>S w∧T a w|_=>False)
  (h:wpList P ops R (bu ops [m]) a w) (hT:∀a' w',T a' w'→jX P md ops Q S fin g (listed.setIfInBounds m true) a' w'):jX P md ops Q S fin (g+1) listed a w:=by
 have hi:m∈Region.ready md ops listed:=by rw[hB];simp
 obtain⟨_,om,hom,_⟩:=mem_ready.1 hi
 refine⟨fun h1=>(by rw[hB]at h1;cases h1),fun j hj=> ?_⟩
 rw[hB]at hj
 have hji:j=m:=by simpa using hj
 subst hji
 have h':wpList P ops R [om] a w:=by simpa [bu,hom]using h
 have:=lR (Q:=Q) h' j hom (fun e a w he=>by subst hR;cases e<;>first|rfl|exact he.elim)
 refine wpOp_mono (fun a' w' h'=> ?_) this
 subst hR
 exact⟨fun _=>h'.1,hT _ _ h'.2⟩
theorem nz {S:World→Prop} {f0:Nat} {fs:List Nat}:∀(ms:List Nat) (t0:Nat) (listed:Array Bool) (a:Act) (w:World),bJ md ops (t0::(ms++f0::fs)) listed=true→wpList P ops (vK P ops S Q (f0::fs) ms) (bu ops [t0]) a w→
  jX P md ops (NoPanic Q) S (f0::fs) (1+(ms.length+(fs.length+1))) listed a w
 | [],t0,listed,a,w,hB,h=>by
  simp only[bJ,List.nil_append,Bool.and_eq_true,decide_eq_true_eq]at hB
  rw[show 1+(([]:List Nat).length+(fs.length+1))=(fs.length+1)+1 by simp;omega]
  refine pY hB.1 (T:=fun a' w'=>wpList P ops (NoPanic Q) (bu ops (f0::fs)) a' w') (by funext e a w;cases e<;>rfl) h fun a' w' h'=> ?_
  exact ie (f0::fs) _ a' w' (fun _ h=>h) (by simp only[bJ,Bool.and_eq_true,decide_eq_true_eq];exact hB.2) h'
 |m::ms,t0,listed,a,w,hB,h=>by
  rw[List.cons_append]at hB
  have hB1:Region.ready md ops listed=[t0]∧bJ md ops (m::(ms++f0::fs)) (listed.setIfInBounds t0 true)=true:=by
   rw[bJ,Bool.and_eq_true,decide_eq_true_eq]at hB
   exact hB
  rw[show 1+((m::ms).length+(fs.length+1))=(1+(ms.length+(fs.length+1)))+1 by simp;omega]
  exact pY hB1.1 (T:=fun a' w'=>wpList P ops (vK P ops S Q (f0::fs) ms) (bu ops [m]) a' w') (by funext e a w;cases e<;>rfl) h fun a' w' h'=>nz ms m _ a' w' hB1.2 h'
theorem li {f0:Nat} {fs:List Nat}:∀(l:List Nat),cT md ops (l++f0::fs)=true→cT md ops (f0::fs)=true
 | [],h=>h
 | [x],h=>by
  simp only[List.cons_append,List.nil_append,cT,Bool.and_eq_true]at h
  simpa only[cT]using h.2
 |x::y::l,h=>li (y::l) (by
  simp only[List.cons_append,cT,Bool.and_eq_true]at h ⊢
  simpa only[cT]using h.2)
theorem ot {wi ci:List Nat} {t0 f0:Nat} {ms fs:List Nat} (hB:il md ops wi ci t0 (ms++f0::fs)=true) {S:World→Prop} {R:Nat→Value→World→Prop} {a0:Act} {w0:World}
  (hS:∀u:Ext w0,S u.val) (hst:∀i v w w',Below w.heap.size w w'→R i v w→R i v w')
  (hob:∀i∈ci,∀vals,gOp P md ops R w0 Q i vals (frm ops a0 vals (bw ops ci i)))
  (hfin:∀vals w',Below w0.heap.size w0 w'→(∀i∈ci,R i (vals i) w')→wpList P ops (vK P ops S Q (f0::fs) ms) (bu ops [t0]) (frm ops a0 vals (bw ops ci ops.size)) w'):
  ∀(f:Nat) (listed:Array Bool) (vals:Nat→Value) (w:World),Inv md ops (t0::(ms++f0::fs)) listed→(∀i∈wi,listed.getD i false=true)→(ci.filter fun i=> !listed.getD i false).length=f→Below w0.heap.size w0 w→
   (∀j,listed.getD j false=true→R j (vals j) w)→jX P md ops (NoPanic Q) S (f0::fs) (f+(1+(ms.length+(fs.length+1)))) listed (frm ops a0 vals listed) w:=by
 simp only[il,Bool.and_eq_true,decide_eq_true_eq]at hB
 obtain⟨⟨⟨⟨⟨⟨⟨⟨⟨⟨⟨⟨⟨⟨hsel,hd⟩,hnd⟩,_⟩,htl⟩,hsz⟩,hs⟩,_⟩,_⟩,_⟩,hc⟩,hdis⟩,hcov⟩,hop⟩,hfo⟩:=hB
 have hit:∀i∈ci,i ∉ t0::(ms++f0::fs):=fun i hi=>by have:=List.all_eq_true.1 hdis i hi;simpa using this
 have hcv:∀j,j<ops.size→j∈ci∨j∈t0::(ms++f0::fs):=fun j hj=>by have:=List.all_eq_true.1 hcov j (List.mem_range.2 hj);simpa using this
 have hops:∀i∈ci,∃o,ops[i]? =some o∧(∀e∈o.after,Region.binds md e=true→e.on<i∧e.on∈ci)∧(∀j,j<ops.size→j∈t0::(ms++f0::fs)∨Region.waitsFor md ops i j=true∨∀d,aM ops j=some d→d ∉ o.looksAt ops):=fun i hi=>by
  have h:=List.all_eq_true.1 hop i hi
  cases ho:ops[i]? with
  |none=>rw[ho]at h;cases h
  |some o=>
   rw[ho]at h
   simp only[Bool.and_eq_true]at h
   obtain⟨he,hl⟩:=h
   refine⟨o,rfl,fun e hem hb=> ?_,fun j hj=> ?_⟩
   ·have:=Array.all_eq_true'.1 he e hem
    simpa [hb]using this
   ·have:=List.all_eq_true.1 hl j (List.mem_range.2 hj)
    simp only[Bool.or_eq_true]at this
    rcases this with(h|h)|h
    ·exact .inl (by simpa using h)
    ·exact .inr (.inl h)
    ·refine .inr (.inr fun d hd hm=> ?_)
     rw[hd]at h
     simp[hm]at h
 intro f
 induction f with
 |zero=>
  intro listed vals w inv hwi hcnt hb hR
  have hall:∀i∈ci,listed.getD i false=true:=fun i hi=>by
   have:=List.filter_eq_nil_iff.1 (List.length_eq_zero_iff.1 hcnt) i hi
   simpa using this
  have hL:listed=bw ops ci ops.size:=by
   have hsz2:(bw ops ci ops.size).size=ops.size:=by simp[bw]
   apply Array.ext (by rw[inv.size,hsz2])
   intro j h1 h2
   have e1:listed[j]=listed.getD j false:=by simp[Array.getD,h1]
   have e2:(bw ops ci ops.size)[j]=(bw ops ci ops.size).getD j false:=by simp[Array.getD,h2]
   have hj:j<ops.size:=by rw[←inv.size];exact h1
   rw[e1,e2,bg]
   rcases hcv j hj with h|h
   ·rw[hall j h];simp[hj,h]
   ·rw[getD_both (inv.tail j h hj)]
    have:j ∉ ci:=fun hh=>hit j hh h
    simp[this]
  subst hL
  rw[Nat.zero_add]
  exact nz ms t0 _ _ w hfo (hfin vals w hb fun i hi=>hR i (hall i hi))
 |succ f ih=>
  intro listed vals w inv hwi hcnt hb hR
  have hlt:∀i∈ci,i<listed.size:=fun i hi=>by
   obtain⟨o,ho,_⟩:=hops i hi
   rw[inv.size];exact(Array.getElem?_eq_some_iff.1 ho).1
  have hun:∃i∈ci,listed.getD i true=false:=by
   cases hfl:(ci.filter fun i=> !listed.getD i false)with
   |nil=>rw[hfl]at hcnt;cases hcnt
   |cons i l=>
    have hi:i∈ci.filter fun i=> !listed.getD i false:=by rw[hfl];simp
    obtain⟨h1,h2⟩:=List.mem_filter.1 hi
    exact⟨i,h1,getD_in (hlt i h1) (by simpa using h2)⟩
  have hex:∀n i,i≤n→i∈ci→listed.getD i true=false→∃k,k∈Region.ready md ops listed:=by
   intro n
   induction n with
   |zero=>
    intro i hin hi hu
    obtain⟨o,ho,he,_⟩:=hops i hi
    exact⟨i,mem_ready.2 ⟨hu,o,ho,fun e hem hb=>by have:=(he e hem hb).1;omega⟩⟩
   |succ n ihn=>
    intro i hin hi hu
    obtain⟨o,ho,he,_⟩:=hops i hi
    by_cases hall:∀e∈o.after,Region.binds md e=true→listed.getD e.on false=true
    ·exact⟨i,mem_ready.2 ⟨hu,o,ho,hall⟩⟩
    ·simp only[Classical.not_forall]at hall
     obtain⟨e,hem,hb,hn⟩:=hall
     obtain⟨h1,h2⟩:=he e hem hb
     exact ihn e.on (by omega) h2 (getD_in (hlt _ h2) (by simpa using hn))
  obtain⟨i1,hi1,hu1⟩:=hun
  obtain⟨k,hk⟩:=hex i1 i1 (Nat.le_refl _) hi1 hu1
  rw[show f+1+(1+(ms.length+(fs.length+1)))=(f+(1+(ms.length+(fs.length+1))))+1 by omega]
  refine⟨fun h0=>(by rw[h0]at hk;cases hk),fun i hi=> ?_⟩
  have htt:∀t∈t0::(ms++f0::fs),listed.getD t true=false:=fun t ht=>inv.tail t ht (by have:=List.all_eq_true.1 htl t ht;simpa using this)
  have hnt:i ∉ t0::(ms++f0::fs):=fun h=>by
   rcases List.mem_cons.1 h with rfl|h
   ·exact dm inv _ hs ⟨i1,List.mem_filter.2 ⟨hi1,by
     have hnw:i1 ∉ wi:=fun hh=>by have:=hwi i1 hh;rw[getD_both hu1]at this;cases this
     simpa using hnw⟩,hu1⟩ hi
   ·exact Bd htt t0 (ms++f0::fs) (fun _ h=>h) hc i h hi
  obtain⟨hu,o,ho,hall⟩:=mem_ready.1 hi
  have hic:i∈ci:=by
   rcases hcv i (Array.getElem?_eq_some_iff.1 ho).1 with h|h
   ·exact h
   ·exact absurd h hnt
  obtain⟨o',ho',he,hlk⟩:=hops i hic
  obtain rfl:o=o':=Option.some.inj (ho.symm.trans ho')
  have hdep:∀j,Region.waitsFor md ops i j=true→listed.getD j false=true∧j<i∧j∈ci:=fun j hj=>by
   obtain⟨oj,hoj,e,hem,hb',hon⟩:=Region.waitsFor_spec hj
   obtain rfl:o=oj:=Option.some.inj (ho.symm.trans hoj)
   subst hon
   exact⟨hall e hem hb',he e hem hb'⟩
  obtain⟨o2,d,ho2,hdst,hds,hwp⟩:=hob i hic vals w hb (fun j hj=>hR j (hdep j hj).1)
  obtain rfl:o=o2:=Option.some.inj (ho.symm.trans ho2)
  have hag:∀d∈o.looksAt ops,∀j,aM ops j=some d→listed.getD j false=(bw ops ci i).getD j false:=(fun d hd j hj=>by
   have hjs:j<ops.size:=by
    rcases Nat.lt_or_ge j ops.size with h|h
    ·exact h
    ·unfold aM at hj;rw[Array.getElem?_eq_none h]at hj;cases hj
   rw[bg]
   rcases hlk j hjs with h|h|h
   ·rw[getD_both (htt j h)]
    have:j ∉ ci:=fun hh=>hit j hh h
    simp[this]
   ·obtain⟨h1,h2,h3⟩:=hdep j h
    rw[h1];simp[hjs,h2,h3]
   ·exact absurd hd (h d hj))
  have hex2:execOp (frm ops a0 vals listed).eval o=execOp (frm ops a0 vals (bw ops ci i)).eval o:=gA o (fun cs b=>Region.noSelect_spec hsel i o cs b ho) hag
  have hwn:=eC (a0:=a0) (vals:=vals) o hag
  have hdo:aM ops i=o.dst:=by simp[aM,ho]
  have key:∀v w'',Below w.heap.size w w''→R i v w''→(i ∉ f0::fs→S w'')∧jX P md ops (NoPanic Q) S (f0::fs) (f+(1+(ms.length+(fs.length+1)))) (listed.setIfInBounds i true) ((frm ops a0 vals listed).put o.dst v) w'':=fun v w'' hbw hRv=>by
   refine⟨fun _=>hS ⟨w'',ae hb hbw⟩, ?_⟩
   rw[←hdo,dU hd (hlt i hic)]
   refine ih _ _ w'' (inv.set hi hnt) (fun k hk=>by
    by_cases hki:i=k
    ·subst hki
     have:=hwi i hk
     rw[getD_both hu]at this;cases this
    ·rw[getD_set_ne false hki];exact hwi k hk) ?_ (ae hb hbw) (fun j hj=> ?_)
   ·have:=fy hnd hic hu
    omega
   ·by_cases hji:j=i
    ·subst hji;simpa [upd]using hRv
    ·rw[getD_set_ne false (fun h=>hji h.symm)]at hj
     simp only[upd,if_neg hji]
     exact hst j _ _ _ hbw (hR j hj)
  unfold wpOp
  simp only[ho]
  rw[hwn]
  split
  ·rename_i hw
   rw[if_pos hw]at hwp
   refine .inl (Oper.wp_mono ?_ (iB hex2 hdst hds hwp))
   rintro x w'' ⟨v,rfl,hbw,hRv⟩
   exact key v w'' hbw hRv
  ·rename_i hw
   rw[if_neg hw]at hwp
   exact key undef w (Below.refl _ _) hwp
def pZ (P:Program) (ops:Array Oper) (S:World→Prop) (R:Nat→Value→World→Prop):List Nat→Act→Prop
 | [],_=>True
 |i::l,a=>∃o v,ops[i]? =some o∧YieldsIf P ops S o v a∧R i=IsV v∧pZ P ops S R l (a.put o.dst v)
theorem gR {S:World→Prop} {R:Nat→Value→World→Prop} {a:Act}:pZ P ops S R [] a:=trivial
theorem du {S:World→Prop} {R:Nat→Value→World→Prop} {i:Nat} {l:List Nat} {a:Act} {o:Oper} (ho:ops[i]? =some o) (hg:o.guard=none)
  (h:∃v,(∀w,S w→(execOp a.eval o).run P w= .ok (.value v) w)∧R i=IsV v∧pZ P ops S R l (a.put o.dst v)):pZ P ops S R (i::l) a:=by
 obtain⟨v,h1,h2,h3⟩:=h
 exact⟨o,v,ho, .inl ⟨by unfold Region.wanted;rw[hg],h1⟩,h2,h3⟩
theorem nA {wi cs:List Nat} {f0:Nat} {fs:List Nat} (hsel:Region.noSelect ops=true) (hd:gZ ops=true) {S:World→Prop} {R:Nat→Value→World→Prop} {a0:Act} {w:World} {g:Nat}
  (hB2:fQ md ops f0 cs=true) (hc:cT md ops (f0::fs)=true) (hwc:∀i∈wi,i∈cs) (hit:∀i∈wi,i ∉ f0::fs) (hSw:S w)
  (hK:∀listed vals,Inv md ops (f0::fs) listed→(∀i,listed.getD i false=true↔i∈wi)→(∀j,listed.getD j false=true→R j (vals j) w)→jX P md ops (NoPanic Q) S (f0::fs) g listed (frm ops a0 vals listed) w):
  ∀(l pre:List Nat) (listed:Array Bool) (vals:Nat→Value),wi=pre++l→(∀i,listed.getD i false=true↔i∈pre)→Inv md ops (f0::fs) listed→(∀j,listed.getD j false=true→R j (vals j) w)→
   ev md ops (fun _=>true) l listed=true→pZ P ops S R l (frm ops a0 vals listed)→jX P md ops (NoPanic Q) S (f0::fs) (l.length+g) listed (frm ops a0 vals listed) w
 | [],pre,listed,vals,he,hl,inv,hR,_,_=>by
  rw[List.append_nil]at he
  subst he
  simpa using hK listed vals inv hl hR
 |i::l,pre,listed,vals,he,hl,inv,hR,hB,h=>by
  simp only[ev,Bool.and_eq_true]at hB
  obtain⟨⟨hr,hf⟩,hB'⟩:=hB
  have hr':i∈Region.ready md ops listed:=by simpa using hr
  obtain⟨hu,oi,hoi,_⟩:=mem_ready.1 hr'
  obtain⟨o,v,ho,hy,hRv,h'⟩:=h
  obtain rfl:oi=o:=Option.some.inj (hoi.symm.trans ho)
  have hdo:aM ops i=oi.dst:=by simp[aM,ho]
  have hlt:i<listed.size:=by rw[inv.size];exact(Array.getElem?_eq_some_iff.1 ho).1
  have hiw:i∈wi:=by rw[he];simp
  have hset:(listed.setIfInBounds i true).getD i false=true:=by simp[Array.getD,hlt]
  rw[show(i::l).length+g=(l.length+g)+1 by simp;omega]
  refine lQ hoi (Region.noSelect_spec hsel) (fun c a w h=>h) cs hB2 hc (hwc i hiw) _ listed _ w inv (Region.free_spec hoi hf) hr' hy hSw ?_
  rw[←hdo,dU hd hlt]at h' ⊢
  refine nA hsel hd hB2 hc hwc hit hSw hK l (pre++[i]) _ _ (by rw[he];simp) (fun k=> ?_) (inv.set hr' (hit i hiw)) (fun j hj=> ?_) hB' h'
  ·by_cases hki:k=i
   ·subst hki;rw[hset];simp
   ·rw[getD_set_ne false (fun h=>hki h.symm),hl k];simp[hki]
  ·by_cases hji:j=i
   ·subst hji;rw[hRv];simp[upd,IsV]
   ·rw[getD_set_ne false (fun h=>hji h.symm)]at hj
    simp only[upd,if_neg hji]
    exact hR j hj
theorem Ae {R:Nat→Value→World→Prop} {w0:World} {F:(Nat→Value)→Act→Prop} {i:Nat} {l:List Nat} {vals:Nat→Value} {a:Act} {o:Oper} {d:Nat} (ho:ops[i]? =some o) (hd:o.dst=some d) (hlt:d<a.tmps.size) (hg:Region.wanted o (yielded ops a.tmps)=true)
  (h:∃c,(∀(u:Ext w0) (K:Act→World→Prop),(∀w'',Below u.val.heap.size u.val w''→K (a.put (some d) c) w'')→o.wp P a u.val K (NoPanic Q))∧R i=IsV c∧wpK P md ops R w0 Q [] F l (upd vals i c) (a.put (some d) c)):wpK P md ops R w0 Q [] F (i::l) vals a:=by
 obtain⟨c,h1,h2,h3⟩:=h
 have e:aM ops i=some d:=by simp[aM,ho,hd]
 refine⟨fun w' hb _=> ?_, .inl ⟨c,fun v w hv=>by rw[h2]at hv;exact hv,by rw[e];exact h3⟩⟩
 rw[if_neg (by simp)]
 refine⟨o,d,ho,hd,hlt, ?_⟩
 rw[if_pos hg]
 exact h1 ⟨w',hb⟩ _ fun w'' hb'=>⟨c,by rw[hd],hb',by rw[h2];rfl⟩
theorem Af {R:Nat→Value→World→Prop} {w0:World} {F:(Nat→Value)→Act→Prop} {i:Nat} {l:List Nat} {vals:Nat→Value} {a:Act} {o:Oper} {d:Nat} (ho:ops[i]? =some o) (hd:o.dst=some d) (hlt:d<a.tmps.size) (hg:Region.wanted o (yielded ops a.tmps)=true)
  (h1:∀u:Ext w0,(∀j,Region.waitsFor md ops i j=true→R j (vals j) u.val)→
   ∀K:Act→World→Prop,(∀v w'',Below u.val.heap.size u.val w''→R i v w''→K (a.put (some d) v) w'')→o.wp P a u.val K (NoPanic Q))
  (h2:∀v,wpK P md ops R w0 Q [] F l (upd vals i v) (a.put (some d) v)):wpK P md ops R w0 Q [] F (i::l) vals a:=by
 have e:aM ops i=some d:=by simp[aM,ho,hd]
 refine⟨fun w' hb hR=> ?_, .inr fun v=>by rw[e];exact h2 v⟩
 rw[if_neg (by simp)]
 refine⟨o,d,ho,hd,hlt, ?_⟩
 rw[if_pos hg]
 exact h1 ⟨w',hb⟩ hR _ fun v w'' hb' hr=>⟨v,by rw[hd],hb',hr⟩
theorem bW {id:Nat} {a:Act} {w:World} {l:List Oper} (wi ci:List Nat) (t0:Nat) (ms:List Nat) (f0:Nat) (fs:List Nat) (R:List SP) (S:World→Prop) (hm:P.follows .mixedOrders=true) (hB:il .any l.toArray wi ci t0 (ms++f0::fs)=true)
  (hB2:fQ .any l.toArray f0 (ci++t0::ms)=true)
  (hS:∀u:Ext w,S u.val) (hz:pZ P l.toArray S (hJ R) wi a)
  (h:wpK P .any l.toArray (hJ R) w Q [] (fun vals a'=>∀u:Ext w,(∀i∈ci,hJ R i (vals i) u.val)→wpList P l.toArray (vK P l.toArray S Q (f0::fs) ms) (bu l.toArray [t0]) a' u.val) ci (fun _=>undef) a):
  (Code.region id l.toArray true).wp P Q a w:=by
 refine wp_region_noPanic (wp_region_any hm ?_)
 have hst:∀i v w w',Below w.heap.size w w'→hJ R i v w→hJ R i v w':=fun i v w w' hb h=>(R.getD i (sv undef)).2 v w w' hb h
 have hB':=hB
 simp only[il,Bool.and_eq_true,decide_eq_true_eq]at hB
 obtain⟨⟨⟨⟨⟨⟨⟨⟨⟨⟨⟨⟨⟨⟨hsel,hd⟩,hnd⟩,hpw⟩,htl⟩,hsz⟩,hs⟩,hwc⟩,hwn⟩,hfr⟩,hc⟩,hdis⟩,hcov⟩,hop⟩,hfo⟩:=hB
 have hlt:∀i∈ci,i<l.toArray.size:=fun i hi=>by
  have h:=List.all_eq_true.1 hop i hi
  rcases Nat.lt_or_ge i l.toArray.size with h'|h'
  ·exact h'
  ·rw[Array.getElem?_eq_none h']at h;cases h
 have hdep:∀i∈ci,∀j,Region.waitsFor .any l.toArray i j=true→j<i∧j∈ci:=fun i hi j hj=>by
  have h:=List.all_eq_true.1 hop i hi
  obtain⟨o,ho,e,hem,hb,rfl⟩:=Region.waitsFor_spec hj
  rw[ho]at h
  simp only[Bool.and_eq_true]at h
  have:=Array.all_eq_true'.1 h.1 e hem
  simpa [hb]using this
 have hlk:∀i∈ci,∀o,l.toArray[i]? =some o→∀j∈ci,Region.waitsFor .any l.toArray i j=true∨∀d,aM l.toArray j=some d→d ∉ o.looksAt l.toArray:=fun i hi o ho j hj=>by
  have h:=List.all_eq_true.1 hop i hi
  rw[ho]at h
  simp only[Bool.and_eq_true]at h
  have h2:=List.all_eq_true.1 h.2 j (List.mem_range.2 (hlt j hj))
  have hnt:j ∉ t0::(ms++f0::fs):=by have:=List.all_eq_true.1 hdis j hj;simpa using this
  simp only[Bool.or_eq_true]at h2
  rcases h2 with(h3|h3)|h3
  ·exact absurd (by simpa using h3) hnt
  ·exact .inl h3
  ·refine .inr fun d hd hm=> ?_
   rw[hd]at h3
   simp[hm]at h3
 have hnil:∀j,(bw l.toArray [] l.toArray.size).getD j false=false:=fun j=>by rw[bg];simp
 have hobs:=gK (P:=P) (md:= .any) (Q:=Q) (zi:=[]) (R:=hJ R) (a0:=a) (w0:=w) hsel hd hpw hlt hdep hlk ci [] (fun _=>undef) rfl (by rw[dD hnil];exact h)
 have hrep:∀j,(Array.replicate l.toArray.size false).getD j false=false:=fun j=>getD_replicate_false _ _
 have hwc':∀i∈wi,i∈ci:=fun i hi=>by have:=List.all_eq_true.1 hwc i hi;simpa using this
 have hcf:cT .any l.toArray (f0::fs)=true:=li (t0::ms) hc
 have hit:∀i∈wi,i ∉ t0::(ms++f0::fs):=fun i hi=>by have:=List.all_eq_true.1 hdis i (hwc' i hi);simpa using this
 have hgo:=ot (P:=P) (Q:=Q) hB' (a0:=a) (w0:=w) hS hst (fun i hi vals=>by
   have h1:=hobs.1 i hi vals (by simp)
   intro w' hb hR
   have h2:=h1 w' hb hR
   simpa using h2) (fun vals w' hb hR=>by
   obtain⟨vals1,h1,h2⟩:=hobs.2 vals (by simp) (fun j hj=>⟨w',hR j hj⟩)
   rw[dO (vals:=vals) (vals':=vals1) (fun j hj=>h1 j (by rw[bg]at hj;simp at hj;exact hj.2))]
   exact h2 ⟨w',hb⟩ (fun i hi=>by rw[←h1 i hi];exact hR i hi))
 have hb0:Below w.heap.size w {w with drawn:=w.drawn+1}:=⟨rfl,rfl,rfl,Nat.le_refl _,fun _ _=>rfl⟩
 have htl':∀t∈t0::(ms++f0::fs),t<l.toArray.size:=fun t ht=>by have:=List.all_eq_true.1 htl t ht;simpa using this
 have:=nA (P:=P) (md:= .any) (Q:=Q) (wi:=wi) (cs:=ci++t0::ms) (f0:=f0) (fs:=fs) (S:=S) (R:=hJ R) (a0:=a) (w:={w with drawn:=w.drawn+1}) (g:=(ci.length-wi.length)+(1+(ms.length+(fs.length+1)))) hsel hd hB2 hcf (fun i hi=>List.mem_append_left _ (hwc' i hi)) (fun i hi h=>hit i hi (List.mem_cons_of_mem _ (List.mem_append_right _ h))) (hS ⟨_,hb0⟩)
  (fun listed vals inv hl hR=>hgo (ci.length-wi.length) listed vals _ ⟨inv.closed,fun t ht hts=>by
    refine getD_in (by rw[inv.size];exact hts) ?_
    cases hx:listed.getD t false with
    |false=>rfl
    |true=>exact absurd ht (hit t ((hl t).1 hx)),inv.size⟩ (fun i hi=>(hl i).2 hi) (by have:=pT hnd hwn hwc' hl;omega) hb0 hR)
  wi [] (Array.replicate l.toArray.size false) (fun _=>undef) rfl (fun i=>by rw[hrep];simp) ⟨fun j oj _ hl=>(by rw[hrep]at hl;cases hl),fun t _ ht=>getD_in (by simpa using ht) (getD_replicate_false _ _),by simp⟩
  (fun j hj=>by rw[hrep]at hj;cases hj) hfr (by rw[dD hrep];exact hz)
 rw[dD hrep]at this
 have hle:wi.length≤ci.length:=by
  have h2:(ci.filter fun i=>wi.contains i).length=wi.length:=by
   refine List.Perm.length_eq ((List.perm_ext_iff_of_nodup (hnd.filter _) hwn).2 fun x=> ?_)
   rw[List.mem_filter]
   exact⟨fun h=>by simpa using h.2,fun h=>⟨hwc' x h,by simpa using h⟩⟩
  have:=List.length_filter_le (fun i=>wi.contains i) ci
  omega
 have h9:=ic _ _ _ _ this
 simp only[List.length_append,List.length_cons]at hsz
 rw[show wi.length+(ci.length-wi.length+(1+(ms.length+(fs.length+1))))=l.toArray.size by omega]at h9
 exact h9
end
end
section
open Go.RowKit
def svl (xs:List Int):SP:=⟨IsL xs,oq xs⟩
def svg (b:Bool) (xs:List Int):SP:=⟨Gd b (IsL xs),sB (oq xs)⟩
section
variable {P:Program} {ops:Array Oper} {md:Region.Mode} {Q:Exit→Act→World→Prop} {R:Nat→Value→World→Prop} {w0:World} {F:(Nat→Value)→Act→Prop} {i:Nat} {l:List Nat} {vals:Nat→Value} {a:Act} {o:Oper} {d:Nat}
theorem wkr (ho:ops[i]? =some o) (hd:o.dst=some d) (hlt:d<a.tmps.size) (hg:Region.wanted o (yielded ops a.tmps)=true)
  (h:∃c,(∀u:Ext w0,(∀j,Region.waitsFor md ops i j=true→R j (vals j) u.val)→∀K:Act→World→Prop,(∀w'',Below u.val.heap.size u.val w''→K (a.put (some d) c) w'')→o.wp P a u.val K (NoPanic Q))∧R i=IsV c∧wpK P md ops R w0 Q [] F l (upd vals i c) (a.put (some d) c)):wpK P md ops R w0 Q [] F (i::l) vals a:=by
 obtain⟨c,h1,h2,h3⟩:=h
 have e:aM ops i=some d:=by simp[aM,ho,hd]
 refine⟨fun w' hb hR=> ?_, .inl ⟨c,fun v w hv=>by rw[h2]at hv;exact hv,by rw[e];exact h3⟩⟩
 rw[if_neg (by simp)]
 refine⟨o,d,ho,hd,hlt, ?_⟩
 rw[if_pos hg]
 exact h1 ⟨w',hb⟩ hR _ fun w'' hb'=>⟨c,by rw[hd],hb',by rw[h2];rfl⟩
theorem wkR (h:∃c,(∀u:Ext w0,(∀j,Region.waitsFor md ops i j=true→R j (vals j) u.val)→∀K:Act→World→Prop,(∀w'',Below u.val.heap.size u.val w''→K (a.put (some d) c) w'')→o.wp P a u.val K (NoPanic Q))∧R i=IsV c∧wpK P md ops R w0 Q [] F l (upd vals i c) (a.put (some d) c))
  (ho:ops[i]? =some o:=by rfl) (hd:o.dst=some d:=by rfl) (hlt:d<a.tmps.size:=by simp) (hg:Region.wanted o (yielded ops a.tmps)=true:=by simp[Region.wanted,yielded]):wpK P md ops R w0 Q [] F (i::l) vals a:=wkr ho hd hlt hg h
theorem wkw {b:Bool} (ho:ops[i]? =some o) (hd:o.dst=some d) (hlt:d<a.tmps.size) (hg:Region.wanted o (yielded ops a.tmps)=b)
  (h:∃c,(b=true→∀u:Ext w0,(∀j,Region.waitsFor md ops i j=true→R j (vals j) u.val)→∀K:Act→World→Prop,(∀w'',Below u.val.heap.size u.val w''→K (a.put (some d) c) w'')→o.wp P a u.val K (NoPanic Q))∧R i=IsV (bif b then c else undef)∧wpK P md ops R w0 Q [] F l (upd vals i (bif b then c else undef)) (a.put (some d) (bif b then c else undef))):wpK P md ops R w0 Q [] F (i::l) vals a:=by
 obtain⟨c,h1,h2,h3⟩:=h
 have e:aM ops i=some d:=by simp[aM,ho,hd]
 refine⟨fun w' hb hR=> ?_, .inl ⟨bif b then c else undef,fun v w hv=>by rw[h2]at hv;exact hv,by rw[e];exact h3⟩⟩
 rw[if_neg (by simp)]
 refine⟨o,d,ho,hd,hlt, ?_⟩
 cases b with
 |true=>
  rw[if_pos hg]
  exact h1 rfl ⟨w',hb⟩ hR _ fun w'' hb'=>⟨c,by rw[hd],hb',by rw[h2];rfl⟩
 |false=>
  rw[if_neg (by rw[hg];simp),h2]
  rfl
theorem wkx {b:Bool} {p:Value→World→Prop} (ho:ops[i]? =some o) (hd:o.dst=some d) (hlt:d<a.tmps.size) (hg:Region.wanted o (yielded ops a.tmps)=b) (hp:R i=Gd b p)
  (h1:b=true→∀u:Ext w0,(∀j,Region.waitsFor md ops i j=true→R j (vals j) u.val)→
   ∀K:Act→World→Prop,(∀v w'',Below u.val.heap.size u.val w''→p v w''→K (a.put (some d) v) w'')→o.wp P a u.val K (NoPanic Q))
  (h2:∀v,wpK P md ops R w0 Q [] F l (upd vals i v) (a.put (some d) v)):wpK P md ops R w0 Q [] F (i::l) vals a:=by
 have e:aM ops i=some d:=by simp[aM,ho,hd]
 refine⟨fun w' hb hR=> ?_, .inr fun v=>by rw[e];exact h2 v⟩
 rw[if_neg (by simp)]
 refine⟨o,d,ho,hd,hlt, ?_⟩
 cases b with
 |true=>
  rw[if_pos hg]
  exact h1 rfl ⟨w',hb⟩ hR _ fun v w'' hb' hr=>⟨v,by rw[hd],hb',by rw[hp];exact hr⟩
 |false=>
  rw[if_neg (by rw[hg];simp),hp]
  rfl
end
end
end Go.Proofs.YtokhkhnofkcalaaGreatDoor
