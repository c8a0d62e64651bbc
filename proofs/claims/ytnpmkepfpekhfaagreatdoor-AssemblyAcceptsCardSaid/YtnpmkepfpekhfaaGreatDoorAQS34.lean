/- texts: O4 BW0 BWP O8 O9 O10 O11 O12 MO MQ MR Ms M6 M7 M8 MA MT MS. -/
import Derived.Test.YtnpmkepfpekhfaaGreatDoorAQS33
namespace Go.Proofs.YtnpmkepfpekhfaaGreatDoor
set_option maxHeartbeats 8000000
set_option linter.all false
section
open Go.RowKit
theorem PT {c d:List Q4} (h:Ins (c++d)):Ins (d++c):=by
 obtain⟨o,W,hW,hs⟩:=h
 exact⟨o,W,hW,fun p hp=>hs p (by rw[altl]at hp ⊢;exact hp.symm)⟩
theorem Qr {c d:List Q4} (hc:bK c=0):rcl c d=true↔Ins (c++d):=
 Ql ((FF hc).1.mono (fun p hp=>List.mem_append_left _ hp))
theorem PU {c:List Q4} (hc:bK c=0) {o:Q3} {W:Int} (hW:0<W) (ho:Str c o W) {p:Q4} (hp:0<slk p o W):gM (aS c) p=true:=by
 rw[←Pe]
 obtain⟨x,hx,x0, -,h3⟩:=Ko (FG hc) p o W hW (((FG hc).sub o W hW).2 ho.inP)
 unfold gM
 rw[ultj]
 refine⟨x,hx, ?_⟩
 rw[qfV,mt,dp]
 have h4:0<slk p (xyz x) x.2.2.2*W:=Int.lt_of_lt_of_le (qfY hp x0) h3
 exact mu hW h4
theorem QO {c d:List Q4} (hc:bK c=0) (hd:bK d=0):clB c d=true↔Ins (c++d):=by
 have key:fh (c++d) (aS (c++d))=true↔Ins (c++d):=by
  unfold fh
  rw[←Pe,qaF,qfV]
  have h:=Qr (d:=d) hc
  unfold rcl at h
  rw[h]
  refine⟨fun h=>h.1,fun h=>⟨h, ?_⟩⟩
  have:=(Dl hc).2.1
  rw[qaE]
  omega
 unfold clB
 rw[qaF,key]
 refine⟨fun h=>h.2,fun h=>⟨?_,h⟩⟩
 obtain⟨o,W,hW,hs⟩:=h
 have h1:Str c o W:=fun p hp=>hs p (List.mem_append_left _ hp)
 have h2:Str d o W:=fun p hp=>hs p (List.mem_append_right _ hp)
 have ha:Cy c (aS c) d (aS d)=false:=by
  unfold Cy
  rw[Bool.or_eq_false_iff,ultp,ultp]
  refine⟨fun p hp=> ?_,fun p hp=> ?_⟩
  ·rw[PU hd hW h2 (h1 p hp)];simp
  ·rw[PU hc hW h1 (h2 p hp)];simp
 rw[ha]
 rfl
theorem Qm {s t:List (List Q4)} (hs:∀c∈s,bK c=0) (ht:∀c∈t,bK c=0):cy s t=Oh t s:=by
 unfold cy Oh
 rw[KC]
 exact Gu fun d hd c hc=>LH (QO (hs c hc) (ht d hd)) ((Qr (ht d hd)).trans ⟨PT,PT⟩)
theorem PV {l:List (List (List Q4))} (h:cx l=0) (i:Nat):∀c∈l.getD i [],bK c=0:=fun c hc=>by
 by_cases hi:i<l.length
 ·rw[show l.getD i []=l[i] by simp[List.getD,hi]]at hc
  exact IL (Is (Fb h _ (qaB hi))).1 c hc
 ·rw[show l.getD i []=[] by simp[List.getD,hi]]at hc
  cases hc
theorem QG (l:List (List (List Q4))):eB l=NY l:=by
 unfold eB NY
 by_cases h12:12<l.length
 ·rw[if_pos h12,if_pos h12]
 ·rw[if_neg h12,if_neg h12]
  by_cases hp:cx l=0
  ·rw[if_pos hp,if_pos hp]
   have:mx l=Oe l:=by
    unfold mx Oe
    congr 1
    funext i
    congr 1
    funext k
    exact Qm (PV hp k) (PV hp i)
   rw[this]
  ·rw[if_neg hp,if_neg hp]
def Rl (w:Q3) (x y:Q4):List Q4:=if 0<bj (nrm x) w∧bj (nrm y) w<0∧nrm (kv x y w)≠(0,0,0)then [dG (kv x y w)]else []
def TE (ps:List Q4) (w:Q3) (i:Nat):List Q4:=(ps.take i).flatMap fun x=>ps.flatMap (Rl w x)
def TM (ps:List Q4) (w:Q3) (x:Q4) (k:Nat):List Q4:=(ps.take k).flatMap (Rl w x)
def TD (ps:List Q4) (w:Q3):List Q4:=IH ps w++TE ps w ps.length
theorem Ta (ps:List Q4) (w:Q3) (k:Nat) (h:k<ps.length):IH (ps.take (k+1)) w=IH (ps.take k) w++if bj (nrm ps[k]) w≤0 then [ps[k]]else []:=by
 unfold IH
 rw[qaI h,qgo]
 congr 1
 by_cases hd:bj (nrm ps[k]) w≤0
 ·rw[if_pos hd];simp[hd]
 ·rw[if_neg hd];simp[hd]
theorem SL (ps:List Q4) (w:Q3) (i:Nat) (h:i<ps.length):TE ps w (i+1)=TE ps w i++TM ps w ps[i] ps.length:=by
 unfold TE TM
 rw[qaI h,qgj,qgi]
 simp
theorem SM (ps:List Q4) (w:Q3) (x:Q4) (k:Nat) (h:k<ps.length):TM ps w x (k+1)=TM ps w x k++Rl w x ps[k]:=by
 unfold TM
 rw[qaI h,qgj]
 simp
theorem Tb (w:Q3) (x y:Q4):(Rl w x y).length≤1:=by unfold Rl;split<;>simp
theorem Su {α:Type} (f:α→List Q4) (m:Nat) (h:∀a,(f a).length≤m) (l:List α):(l.flatMap f).length≤l.length*m:=by
 induction l with
 |nil=>simp
 |cons a l ih=>
  rw[qgm,qaE,qdn,Nat.add_mul,Nat.one_mul]
  have:=h a
  omega
theorem Sv (ps:List Q4) (w:Q3) (x:Q4) (k:Nat) (hl:ps.length≤16):(TM ps w x k).length≤16:=by
 have h1:=Su (Rl w x) 1 (Tb w x) (ps.take k)
 have h2:(ps.take k).length≤ps.length:=by rw[qge];omega
 unfold TM
 omega
theorem Tc (ps:List Q4) (w:Q3) (k:Nat) (hl:ps.length≤16):(TE ps w k).length≤256:=by
 have h1:=Su (fun x=>ps.flatMap (Rl w x)) 16 (fun x=>by have:=Sv ps w x ps.length hl;unfold TM at this;rw[qgi]at this;exact this) (ps.take k)
 have h2:(ps.take k).length≤ps.length:=by rw[qge];omega
 unfold TE
 omega
def rbk (c d:List Q4) (w:Q3):Bool:=(TD (ch c) w++ch d).all (gM (ct (TD (ch c) w++ch d)))
def SG (p q:List (List Q4)) (w:Q3):Bool:=p.any fun c=>q.any fun d=>rbk c d w
theorem Tg (p:Q4) (h:nrm p≠(0,0,0)):∃g:Int,0<g∧∀x W,slk p x W=g*slk (dG p) x W:=by
 have h0:p.1≠0∨p.2.1≠0∨p.2.2.1≠0:=by
  by_cases a:p.1=0
  ·by_cases b:p.2.1=0
   ·by_cases c:p.2.2.1=0
    ·exact absurd (by unfold nrm;rw[a,b,c]) h
    ·exact .inr (.inr c)
   ·exact .inr (.inl b)
  ·exact .inl a
 have hp:=FJ p.1 p.2.1 p.2.2.1 p.2.2.2 h0
 have e1:=Int.mul_ediv_cancel' (aY [p.1,p.2.1,p.2.2.1,p.2.2.2] p.1 (by simp))
 have e2:=Int.mul_ediv_cancel' (aY [p.1,p.2.1,p.2.2.1,p.2.2.2] p.2.1 (by simp))
 have e3:=Int.mul_ediv_cancel' (aY [p.1,p.2.1,p.2.2.1,p.2.2.2] p.2.2.1 (by simp))
 have e4:=Int.mul_ediv_cancel' (aY [p.1,p.2.1,p.2.2.1,p.2.2.2] p.2.2.2 (by simp))
 refine⟨(aU [p.1,p.2.1,p.2.2.1,p.2.2.2]:Int),by omega,fun x W=> ?_⟩
 unfold slk bj nrm dG
 simp only
 generalize p.1 / (aU [p.1,p.2.1,p.2.2.1,p.2.2.2]:Int)=a at*
 generalize p.2.1 / (aU [p.1,p.2.1,p.2.2.1,p.2.2.2]:Int)=b at*
 generalize p.2.2.1 / (aU [p.1,p.2.1,p.2.2.1,p.2.2.2]:Int)=c at*
 generalize p.2.2.2 / (aU [p.1,p.2.1,p.2.2.1,p.2.2.2]:Int)=d at*
 generalize(aU [p.1,p.2.1,p.2.2.1,p.2.2.2]:Int)=g at*
 rw[←e1, ←e2, ←e3, ←e4]
 grind
theorem Rp (p:Q4) (h:nrm p≠(0,0,0)) (x:Q3) (W:Int):(0<slk p x W↔0<slk (dG p) x W)∧(0≤slk p x W↔0≤slk (dG p) x W):=by
 obtain⟨g,hg,e⟩:=Tg p h
 exact IF hg (e x W)
theorem Tt {p:Q4} (h:cI p):nrm p≠(0,0,0):=fun e=>by
 have:=h.2
 simp[nrm]at e
 omega
theorem Ti (ps cs:List Q4) (h:∀c,c∈cs↔c∈ct ps) (hn:cs.Nodup) (p:Q4):onA (ct ps) p=cQ p cs:=by
 unfold onA cQ
 have hp:(ct ps).Perm cs:=(List.perm_ext_iff_of_nodup (kT ps).1 hn).2 (fun c=>(h c).symm)
 rw[(hp.filter _).length_eq]
 congr 1
 refine List.filter_congr fun c _=> ?_
 have:=(IY p c).2.2
 by_cases e:sd p c=0
 ·simp[e,this.1 e]
 ·have k:¬cw p c=0:=fun k=>e (this.2 k)
  simp[e,k]
theorem SH (ps:List Q4) (hp:∀p∈ps,cI p) (x:Q4):x∈ch ps↔∃p∈nf ps (ct ps),x=dG p:=by
 rw[xF ps hp]
 unfold iS nf
 rw[Sq]
 have hc:=fun p=>Ti ps (aS ps) (fun c=>(Qp ps c).symm) (fV ps (fun p h=>(hp p h).1)) p
 constructor
 ·rintro⟨p,h1,h2,h3⟩
  refine⟨p,alsm.2 ⟨h1, ?_⟩,h3⟩
  unfold onB at h2
  rw[hc]
  exact h2
 ·rintro⟨p,h1,h3⟩
  obtain⟨h1,h2⟩:=alsm.1 h1
  refine⟨p,h1, ?_,h3⟩
  unfold onB
  rw[hc]at h2
  exact h2
theorem Rv {c:List Q4} (h:bK c=0):(∀x W,0<W→(InP (ch c) x W↔InP c x W))∧(∀x W,Str c x W→Str (ch c) x W)∧Bdd (ch c)∧Ins (ch c):=by
 have ok:=qV h
 have hm:=SH c ok
 have hr:=FG h
 have hn:∀p∈nf c (ct c),nrm p≠(0,0,0):=fun p hp=>Tt (ok p (alsm.1 hp).1)
 have h1:∀x W,0<W→(InP (ch c) x W↔InP c x W):=fun x W hW=>by
  rw[←hr.sub x W hW]
  constructor
  ·intro h p hp
   exact(Rp p (hn p hp) x W).2.2 (h _ ((hm _).2 ⟨p,hp,rfl⟩))
  ·intro h q hq
   obtain⟨p,hp,rfl⟩:=(hm q).1 hq
   exact(Rp p (hn p hp) x W).2.1 (h p hp)
 have h2:∀x W,Str c x W→Str (ch c) x W:=fun x W h q hq=>by
  obtain⟨p,hp,rfl⟩:=(hm q).1 hq
  exact(Rp p (hn p hp) x W).1.1 (h p (alsm.1 hp).1)
 obtain⟨o,W0,hW0,ho⟩:=(FF h).2
 exact⟨h1,h2,Dx (FF h).1 (fun y W hW hy=>(h1 y W hW).1 hy) o W0 hW0 (h2 o W0 ho).inP,o,W0,hW0,h2 o W0 ho⟩
theorem mem_swL2 {P:List Q4} {w:Q3} {q:Q4}:q∈Kw P w↔∃a∈P,∃b∈P,0<bj (nrm a) w∧bj (nrm b) w<0∧nrm (kv a b w)≠(0,0,0)∧q=kv a b w:=by
 unfold Kw cr bc
 simp only[List.mem_flatMap,altt,alsm,qfV]
 constructor
 ·rintro⟨a,⟨ha,pa⟩,b,⟨⟨hb,pb⟩,h0⟩,rfl⟩
  exact⟨a,ha,b,hb,pa,pb,h0,rfl⟩
 ·rintro⟨a,ha,b,hb,pa,pb,h0,rfl⟩
  exact⟨a,⟨ha,pa⟩,b,⟨⟨hb,pb⟩,h0⟩,rfl⟩
theorem mem_swpRi {P:List Q4} {w:Q3} {q:Q4}:q∈TE P w P.length↔∃a∈P,∃b∈P,0<bj (nrm a) w∧bj (nrm b) w<0∧nrm (kv a b w)≠(0,0,0)∧q=dG (kv a b w):=by
 unfold TE Rl
 rw[qgi]
 simp only[List.mem_flatMap]
 constructor
 ·rintro⟨a,ha,b,hb,h⟩
  split at h
  ·rename_i hc
   rw[ultg]at h
   exact⟨a,ha,b,hb,hc.1,hc.2.1,hc.2.2,h⟩
  ·cases h
 ·rintro⟨a,ha,b,hb,pa,pb,h0,rfl⟩
  exact⟨a,ha,b,hb,by rw[if_pos ⟨pa,pb,h0⟩];exact ultg.2 rfl⟩
theorem Sw {P Q:List Q4} {w:Q3} (x:Q3) (W:Int):Str (TD P w++Q) x W↔Str (Q++(IH P w++Kw P w)) x W:=by
 unfold TD
 constructor
 ·intro h q hq
  simp only[altl]at hq
  rcases hq with hq|hq|hq
  ·exact h q (by simp[hq])
  ·exact h q (by simp[hq])
  ·obtain⟨a,ha,b,hb,pa,pb,h0,rfl⟩:=mem_swL2.1 hq
   exact(Rp _ h0 x W).1.2 (h _ (by simp only[altl];exact .inl (.inr (mem_swpRi.2 ⟨a,ha,b,hb,pa,pb,h0,rfl⟩))))
 ·intro h q hq
  simp only[altl]at hq
  rcases hq with(hq|hq)|hq
  ·exact h q (by simp[hq])
  ·obtain⟨a,ha,b,hb,pa,pb,h0,rfl⟩:=mem_swpRi.1 hq
   exact(Rp _ h0 x W).1.1 (h _ (by simp only[altl];exact .inr (.inr (mem_swL2.2 ⟨a,ha,b,hb,pa,pb,h0,rfl⟩))))
  ·exact h q (by simp[hq])
theorem Tq {c d:List Q4} (hc:bK c=0) (hd:bK d=0) {w:Q3} (hw:w≠(0,0,0)):rbk c d w=true↔Hit c d w:=by
 obtain⟨c1,c2,c3,c4⟩:=Rv hc
 obtain⟨d1,d2,d3,d4⟩:=Rv hd
 unfold rbk
 rw[Ql (d3.mono (fun p hp=>List.mem_append_right _ hp))]
 have e:Ins (TD (ch c) w++ch d)↔Ins (ch d++(IH (ch c) w++Kw (ch c) w)):=
  ⟨fun⟨o,W,hW,h⟩=>⟨o,W,hW,(Sw o W).1 h⟩,fun⟨o,W,hW,h⟩=>⟨o,W,hW,(Sw o W).2 h⟩⟩
 rw[e,LE hw c3 c4]
 exact⟨Ky (fun x W hW h=>Mu (fun x W hW=>(c1 x W hW).1) (FF hc).2 hW h) (fun x W hW h=>Mu (fun x W hW=>(d1 x W hW).1) (FF hd).2 hW h),Ky (fun x W hW=>c2 x W) (fun x W hW=>d2 x W)⟩
theorem Tj {p q:List (List Q4)} (hp:∀c∈p,bK c=0) (hq:∀c∈q,bK c=0) {w:Q3} (hw:w≠(0,0,0)):BT (p.map bp) (q.map bp) w=SG p q w:=by
 unfold BT SG
 simp only[List.any_map,Function.comp_def]
 exact Gu fun c hc d hd=>LH (DA (FG (hp c hc)) (FG (hq d hd)) hw) (Tq (hp c hc) (hq d hd) hw)
def UQ (l:List (List (List Q4))) (w:Q3) (i:Nat):List Nat:=(List.range l.length).filter fun k=>decide (k≠i)&&SG (l.getD i []) (l.getD k []) w
theorem VL (ps:List (List Bod)) (v:Q3) (j k:Nat):Vf (eM ps v) j k↔j<ps.length∧k<ps.length∧j≠k∧Cb ps v j k=true:=by
 unfold Vf eM
 by_cases hj:j<ps.length
 ·rw[show((List.range ps.length).map fun i=>ks ps v i ps.length).getD j 0=ks ps v j ps.length by simp[List.getD,hj]]
  rw[Wg]
  simp[hj]
 ·rw[show((List.range ps.length).map fun i=>ks ps v i ps.length).getD j 0=0 by simp[List.getD,hj]]
  simp[hj]
theorem Wi {l:List (List (List Q4))} (h:eB l=0) {w:Q3} (hw:w≠(0,0,0)) {j:Nat} (hj:j<l.length) (k:Nat):(UQ l w j).contains k=true↔Vf (eM (l.map (·.map bp)) w) j k:=by
 have hp:cx l=0:=by
  unfold eB at h
  split at h
  ·cases h
  ·split at h
   ·assumption
   ·exact h
 rw[VL,qdo]
 unfold UQ Cb
 rw[DT,DT,Tj (PV hp j) (PV hp k) hw]
 simp only[List.contains_iff_mem,alsm,ultv,qaF,qfV]
 constructor
 ·rintro⟨h1,h2,h3⟩;exact⟨hj,h1,fun e=>h2 e.symm,h3⟩
 ·rintro⟨_,h1,h2,h3⟩;exact⟨h1,fun e=>h2 e.symm,h3⟩
theorem Vj (E:Nat→Nat→Bool) (grp:List Nat) (n:Nat):∀f i acc,BfsI E grp n i acc→grp.length+1-i≤f→BfsI E grp n (Um E grp f i acc).length (Um E grp f i acc)
 |0,i,acc,h,hf=>by
  have h1:=h.len
  have h2:=h.le
  have:i=acc.length:=by omega
  subst this
  exact h
 |f+1,i,acc,h,hf=>by
  unfold Um
  by_cases hi:i<acc.length
  ·rw[dif_pos hi]
   exact Vj E grp n f (i+1) _ (h.next hi) (by omega)
  ·rw[dif_neg hi]
   have h2:=h.le
   have:i=acc.length:=by omega
   subst this
   exact h
def TU (E:Nat→Nat→Bool) (grp:List Nat) (n:Nat):List Nat:=grp.filter fun y=>(Um E grp (grp.length+1) 0 [n]).contains y
def rE (l:List (List (List Q4))) (w:Q3) (j k:Nat):Bool:=(UQ l w j).contains k
theorem Wz {l:List (List (List Q4))} (h:eB l=0) {w:Q3} (hw:w≠(0,0,0)) (j k:Nat):rE l w j k=true↔Vf (eM (l.map (·.map bp)) w) j k:=by
 unfold rE
 by_cases hj:j<l.length
 ·exact Wi h hw hj k
 ·have h1:¬Vf (eM (l.map (·.map bp)) w) j k:=fun hb=>hj (by have:=((VL _ _ _ _).1 hb).1;simpa using this)
  refine⟨fun h2=> ?_,fun h2=>absurd h2 h1⟩
  unfold UQ at h2
  rw[show l.getD j []=[] by simp[List.getD,hj]]at h2
  simp[SG]at h2
theorem VT {a b:Nat} (ha:a<4096) (hb:b<4096) (h:lf a=lf b):a=b:=by
 apply qgp
 intro i
 rw[Bool.eq_iff_iff, ←Tz ha, ←Tz hb,h]
theorem VN {p:Nat→Bool}:∀l:List Nat,(l.filter p).length<l.length↔l.filter p≠l
 | []=>by simp
 |a::l=>by
  rw[qgg]
  have h1:=qdz p l
  have h2:=VN (p:=p) l
  split
  ·rw[qdn,qdn]
   simp only[ne_eq,List.cons.injEq,true_and]
   rw[←ne_eq, ←h2]
   omega
  ·rw[qdn]
   refine⟨fun _ e=> ?_,fun _=>by omega⟩
   have:=congrArg List.length e
   rw[qdn]at this
   omega
theorem Yj {s:Nat} (h:s<4096):lf s=[]↔s=0:=by
 refine⟨fun e=>VT h (by decide) (e.trans elems_zero.symm),fun e=>by rw[e];rfl⟩
def XM (G:List Nat) (grp out:Nat):Bool:=(lf out).all fun n=>dN (G.getD n 0&&& grp) out==0
def WP (E:Nat→Nat→Bool) (grp out:List Nat):Bool:=out.all fun j=>(grp.filter fun y=> !out.contains y).all fun y=> !E j y
theorem Yz {G:List Nat} {E:Nat→Nat→Bool} (hE:∀j k,E j k=true↔Vf G j k) {grp out:Nat} (hg:grp<4096) (ho:out<4096):XM G grp out=WP E (lf grp) (lf out):=by
 unfold XM WP
 rw[Bool.eq_iff_iff,alsi,alsi]
 refine forall_congr' fun j=>forall_congr' fun hj=> ?_
 rw[alsi]
 have hc:∀k,(lf out).contains k=out.testBit k:=fun k=>by
  rw[Bool.eq_iff_iff,List.contains_iff_mem,Tz ho]
 constructor
 ·intro h y hy
  obtain⟨hy1,hy2⟩:=alsm.1 hy
  rw[hc]at hy2
  have hz:dN (G.getD j 0&&& grp) out=0:=by simpa using h
  have hb:=Gh (G.getD j 0&&& grp) out y
  rw[hz,Nat.zero_testBit,qgq,(Tz hg).1 hy1,Bool.and_true,hy2,Bool.and_true]at hb
  have:¬E j y=true:=fun he=>by
   have:=(hE j y).1 he
   unfold Vf at this
   rw[this]at hb
   cases hb
  simpa using this
 ·intro h
  have hz:dN (G.getD j 0&&& grp) out=0:=by
   apply qgp
   intro y
   rw[Gh,qgq,Nat.zero_testBit]
   by_cases h1:grp.testBit y=true
   ·by_cases h2:out.testBit y=true
    ·simp[h2]
    ·have h2':out.testBit y=false:=by simpa using h2
     have:=h y (alsm.2 ⟨(Tz hg).2 h1,by rw[hc,h2'];rfl⟩)
     have hn:¬(G.getD j 0).testBit y=true:=fun hb=>by
      have:=(hE j y).2 hb
      simp_all
     have hn':(G.getD j 0).testBit y=false:=by simpa using hn
     rw[hn',Bool.false_and,Bool.false_and]
   ·have h1':grp.testBit y=false:=by simpa using h1
    rw[h1',Bool.and_false,Bool.false_and]
  rw[hz]
  rfl
theorem Rch.mono {E:Nat→Nat→Prop} {g h:Nat→Prop} {n k:Nat} (hs:∀x,g x→h x) (r:Rch E g n k):Rch E h n k:=by
 induction r with
 |base=>exact .base
 |step _ e gk ih=>exact .step ih e (hs _ gk)
theorem Rch.trans {E:Nat→Nat→Prop} {g:Nat→Prop} {n j k:Nat} (r:Rch E g n j) (s:Rch E g j k):Rch E g n k:=by
 induction s with
 |base=>exact r
 |step _ e gk ih=>exact .step ih e gk
theorem Rch.inG {E:Nat→Nat→Prop} {g:Nat→Prop} {n k:Nat} (hn:g n) (r:Rch E g n k):g k:=by
 cases r with
 |base=>exact hn
 |step _ _ gk=>exact gk
def WY (E:Nat→Nat→Prop) (all rest:Nat→Prop):Prop:=∀j k,all j→¬rest j→rest k→¬E j k
theorem WR {E:Nat→Nat→Prop} {all rest:Nat→Prop} (hs:WY E all rest) (hsub:∀x,rest x→all x) {n k:Nat} (hn:rest n) (hk:rest k):Rch E all n k↔Rch E rest n k:=by
 refine⟨fun r=> ?_,Rch.mono hsub⟩
 induction r with
 |base=>exact .base
 | @step j k r e gk ih=>
  have hj:rest j:=qgk fun h=>hs j k (Rch.inG (hsub n hn) r) h hk e
  exact .step (ih hj) e hk
def XX (E:Nat→Nat→Prop) (rest:Nat→Prop) (n:Nat):Prop:=∀k,Rch E rest n k→∀y,Rch E rest k y↔Rch E rest n y
def InR (E:Nat→Nat→Prop) (all rest:Nat→Prop) (n k:Nat):Prop:=rest k∧Rch E all n k∧Rch E all k n
def YA (E:Nat→Nat→Prop) (all rest:Nat→Prop) (n:Nat):Prop:=∀j y,InR E all rest n j→rest y→¬InR E all rest n y→¬E j y
theorem qgr {E:Nat→Nat→Prop} {all rest:Nat→Prop} (hs:WY E all rest) (hsub:∀x,rest x→all x) {n:Nat} (hn:rest n) (h:XX E rest n) (k:Nat):InR E all rest n k↔Rch E rest n k:=by
 constructor
 ·rintro⟨hk,h1, -⟩
  exact(WR hs hsub hn hk).1 h1
 ·intro r
  have hk:=Rch.inG hn r
  exact⟨hk,(WR hs hsub hn hk).2 r,(WR hs hsub hk hn).2 ((h k r n).2 .base)⟩
theorem YB {E:Nat→Nat→Prop} {all rest:Nat→Prop} (hs:WY E all rest) (hsub:∀x,rest x→all x) {n:Nat} (hn:rest n):XX E rest n↔YA E all rest n:=by
 constructor
 ·intro h j y hj hy hny he
  exact hny ((qgr hs hsub hn h y).2 (.step ((qgr hs hsub hn h j).1 hj) he hy))
 ·intro h
  have hown:∀k,Rch E rest n k→InR E all rest n k:=by
   intro k r
   induction r with
   |base=>exact⟨hn, .base, .base⟩
   | @step j k _ e gk ih=>exact qgk fun hk=>h j k ih gk hk e
  intro k r y
  have hk:=hown k r
  have back:Rch E rest k n:=(WR hs hsub hk.1 hn).1 hk.2.2
  exact⟨fun s=>r.trans s,fun s=>back.trans s⟩
theorem XY {E:Nat→Nat→Prop} {rest:Nat→Prop} (size:Nat→Nat) (own:Nat→List Nat) (hm:∀n,rest n→∀k,k∈own n↔Rch E rest n k) (hnd:∀n,(own n).Nodup) {n0:Nat} (h0:rest n0):∃n,rest n∧XX E rest n:=by
 have key:∀m n,rest n→(own n).length≤m→∃n,rest n∧XX E rest n:=by
  intro m
  induction m with
  |zero=>
   intro n hn hl
   have:=(hm n hn n).2 .base
   have:=List.length_pos_of_mem this
   omega
  |succ m ih=>
   intro n hn hl
   by_cases h:∃k,Rch E rest n k∧(own k).length<(own n).length
   ·obtain⟨k,r,hlt⟩:=h
    exact ih k (Rch.inG hn r) (by omega)
   ·refine⟨n,hn,fun k r y=>⟨fun s=>r.trans s,fun s=> ?_⟩⟩
    have hk:=Rch.inG hn r
    have hle:(own n).length≤(own k).length:=Nat.le_of_not_lt fun hlt=>h ⟨k,r,hlt⟩
    refine(hm k hk y).1 (qgk fun hy=> ?_)
    have:=Vi (y::own k) (own n) (List.nodup_cons.2 ⟨hy,hnd k⟩) (fun x hx=>by
     rcases alsk.1 hx with rfl|hx
     ·exact(hm n hn x).2 s
     ·exact(hm n hn x).2 (r.trans ((hm k hk x).1 hx)))
    rw[qdn]at this
    omega
 exact key _ n0 h0 (qaA _)
theorem Ym {E:Nat→Nat→Prop} {all rest:Nat→Prop} (hs:WY E all rest) (hsub:∀x,rest x→all x) {n:Nat} (hn:rest n) (h:XX E rest n):WY E all (fun k=>rest k∧¬Rch E rest n k):=by
 intro j k hj hnj hk he
 by_cases hr:rest j
 ·by_cases ho:Rch E rest n j
  ·exact hk.2 (.step ho he hk.1)
  ·exact hnj ⟨hr,ho⟩
 ·exact hs j k hj hr hk.1 he
theorem Wj:∀(l m:List Nat),l.Pairwise (· < ·)→m.Pairwise (· < ·)→(∀x,x∈l↔x∈m)→l=m
 | [],[],_,_,_=>rfl
 | [],b::m,_,_,h=>by have:=(h b).2 (by simp);cases this
 |a::l,[],_,_,h=>by have:=(h a).1 (by simp);cases this
 |a::l,b::m,hl,hm,h=>by
  rw[List.pairwise_cons]at hl hm
  have hab:a=b:=by
   have h1:=(h a).1 (by simp)
   have h2:=(h b).2 (by simp)
   rcases alsk.1 h1 with e|h1
   ·exact e
   ·rcases alsk.1 h2 with e|h2
    ·exact e.symm
    ·have:=hm.1 a h1
     have:=hl.1 b h2
     omega
  subst hab
  congr 1
  refine Wj l m hl.2 hm.2 (fun x=>⟨fun hx=> ?_,fun hx=> ?_⟩)
  ·have h1:=(h x).1 (by simp[hx])
   rcases alsk.1 h1 with e|h1
   ·have:=hl.1 x hx;omega
   ·exact h1
  ·have h1:=(h x).2 (by simp[hx])
   rcases alsk.1 h1 with e|h1
   ·have:=hm.1 x hx;omega
   ·exact h1
theorem Wk (n:Nat):(List.range n).Pairwise (· < ·):=List.pairwise_lt_range
theorem UR {s:Nat} (h:s<4096):(lf s).Pairwise (· < ·):=by rw[TS s h];exact(Wk 12).filter _
theorem Wl (l:List Int) (k:Nat):(nr l).testBit k=true↔∃x∈l,x.toNat=k:=by
 unfold nr
 have key:∀(l:List Int) (s:Nat),(l.foldl (fun s n=>s |||2 ^ n.toNat) s).testBit k=true↔s.testBit k=true∨∃x∈l,x.toNat=k:=by
  intro l
  induction l with
  |nil=>intro s;simp
  |cons x l ih=>
   intro s
   rw[List.foldl_cons,ih,Nat.testBit_or,Nat.testBit_two_pow]
   simp only[qgf,qfV,alsk,exists_eq_or_imp,or_assoc]
 rw[key]
 simp
theorem Vg {xs:List Int} {n:Int} (h:gh xs n=0):(xs.map Int.toNat).Pairwise (· < ·):=by
 have hr:=DO h
 unfold gh at h
 rw[if_pos hr]at h
 by_cases h2:∀i,i<xs.length→1≤i→xs.getD (i-1) 0<xs.getD i 0
 ·skip
  rw[List.pairwise_iff_getElem]
  have key:∀d i,i+d+1<xs.length→xs.getD i 0<xs.getD (i+d+1) 0:=by
   intro d
   induction d with
   |zero=>intro i hi;have:=h2 (i+1) hi (by omega);simpa using this
   |succ d ih=>
    intro i hi
    have a:=ih i (by omega)
    have b:=h2 (i+d+1+1) (by omega) (by omega)
    simp only[Nat.add_sub_cancel]at b
    have e:i+(d+1)+1=i+d+1+1:=by omega
    rw[e]
    omega
  intro i j hi hj hij
  rw[qdo]at hi hj
  have:=key (j-i-1) i (by omega)
  rw[show i+(j-i-1)+1=j by omega]at this
  rw[qdB,qdB]
  rw[show xs.getD i 0=xs[i] by simp[List.getD,hi],show xs.getD j 0=xs[j] by simp[List.getD,hj]]at this
  have b1:=hr _ (qaB hi)
  have b2:=hr _ (qaB hj)
  omega
 ·rw[if_neg h2]at h
  exact absurd h (by decide)
theorem Uf {xs:List Int} {n:Int} (h:gh xs n=0) (hn:n≤12):lf (nr xs)=xs.map Int.toNat:=by
 have hr:=DO h
 have hs:nr xs<4096:=KX xs (fun x hx=>by have:=hr x hx;omega)
 refine Wj _ _ (UR hs) (Vg h) (fun k=> ?_)
 rw[Tz hs,Wl,altt]
theorem WQ {n:Nat} (h:n≤12):2 ^ n-1<4096:=by
 have:2 ^ n≤2 ^ 12:=Nat.pow_le_pow_right (show 0<2 by omega) h
 have h2:=Nat.two_pow_pos n
 omega
theorem WT {n:Nat} (h:n≤12):lf (2 ^ n-1)=List.range n:=by
 refine Wj _ _ (UR (WQ h)) (Wk n) (fun k=> ?_)
 rw[Tz (WQ h),ultv,Nat.testBit_two_pow_sub_one]
 simp
def okC (G:List Nat) (rest n:Nat):Bool:=(lf (car G rest n)).all fun k=>car G rest k==car G rest n
def WJ (E:Nat→Nat→Bool) (all left:List Nat) (n:Nat):List Nat:=left.filter fun k=>(TU E all n).contains k&&(TU E all k).contains n
def Yw (E:Nat→Nat→Bool) (all:List Nat):Nat→List Nat→List (List Nat)
 |0,_=>[]
 |f+1,left=>match left.find? (fun n=>WP E left (WJ E all left n))with
  |none=>[]
  |some n=>WJ E all left n::Yw E all f (left.filter fun y=> !(WJ E all left n).contains y)
theorem XP {E:Nat→Nat→Bool} {grp:List Nat} {n y:Nat}:y∈TU E grp n↔y∈grp∧Rch (fun j k=>E j k=true) (· ∈grp) n y:=by
 unfold TU
 rw[alsm,List.contains_iff_mem,(Vj E grp n _ 0 [n] (BfsI.start _ _ _) (by omega)).done y]
theorem rr {s n:Nat} (h:s<4096) (hb:s.testBit n=true):n<12:=by
 have:=(Tz h).2 hb
 rw[TS _ h,alsm,ultv]at this
 exact this.1
theorem Yb {G:List Nat} {rest n:Nat} (hr:rest<4096) (hn:rest.testBit n=true):okC G rest n=true↔XX (Vf G) (fun k=>rest.testBit k=true) n:=by
 have hn12:=rr hr hn
 have hc:car G rest n<4096:=Me G rest n hr hn12
 have hm:=fun k=>VK G rest n hr hn12 k
 unfold okC XX
 rw[alsi]
 constructor
 ·intro h k rk y
  have hk:rest.testBit k=true:=Rch.inG hn rk
  have e:=h k ((Tz hc).2 ((hm k).2 rk))
  have e:car G rest k=car G rest n:=by simpa using e
  rw[←hm y, ←VK G rest k hr (rr hr hk) y,e]
 ·intro h k hk
  have rk:=(hm k).1 ((Tz hc).1 hk)
  have hk:rest.testBit k=true:=Rch.inG hn rk
  have:car G rest k=car G rest n:=by
   apply qgp
   intro y
   rw[Bool.eq_iff_iff,hm y,VK G rest k hr (rr hr hk) y]
   exact h k rk y
  simpa using this
theorem WL {E:Nat→Nat→Bool} {all left:List Nat} (hs:∀x∈left,x∈all) {n:Nat} (hn:n∈left) (k:Nat):k∈WJ E all left n↔InR (fun j k=>E j k=true) (· ∈all) (· ∈left) n k:=by
 unfold WJ InR
 rw[alsm,qaF,List.contains_iff_mem,List.contains_iff_mem,XP,XP]
 constructor
 ·rintro⟨h1,h2,h3⟩;exact⟨h1,h2.2,h3.2⟩
 ·rintro⟨h1,h2,h3⟩;exact⟨h1,⟨hs k h1,h2⟩,⟨hs n hn,h3⟩⟩
theorem Yx {E:Nat→Nat→Bool} {all left:List Nat} (hs:∀x∈left,x∈all) {n:Nat} (hn:n∈left):WP E left (WJ E all left n)=true↔YA (fun j k=>E j k=true) (· ∈all) (· ∈left) n:=by
 unfold WP YA
 rw[alsi]
 constructor
 ·intro h j y hj hy hny he
  have h1:=h j ((WL hs hn j).2 hj)
  rw[alsi]at h1
  have h2:=h1 y (alsm.2 ⟨hy,by
   have:¬y∈WJ E all left n:=fun hh=>hny ((WL hs hn y).1 hh)
   simpa using this⟩)
  rw[he]at h2
  cases h2
 ·intro h j hj
  rw[alsi]
  intro y hy
  obtain⟨hy1,hy2⟩:=alsm.1 hy
  have hny:¬y∈WJ E all left n:=by simpa using hy2
  have:=h j y ((WL hs hn j).1 hj) hy1 (fun hh=>hny ((WL hs hn y).2 hh))
  simpa using this
theorem Yc {a b:Nat} (h:a<4096):dN a b<4096:=Nat.lt_of_le_of_lt (by
 apply Nat.le_of_testBit
 intro i hi
 rw[Gh]at hi
 simp at hi
 exact hi.1) h
theorem YC {a b n:Nat} (h1:a.testBit n=true) (h2:b.testBit n=true):dN a b<a:=by
 refine Nat.lt_of_le_of_ne (Nat.le_of_testBit fun i hi=> ?_) fun e=> ?_
 ·rw[Gh]at hi
  simp at hi
  exact hi.1
 ·have:=Gh a b n
  rw[e,h1,h2]at this
  cases this
theorem Yd {G:List Nat} {E:Nat→Nat→Bool} (hE:∀j k,E j k=true↔Vf G j k) {all rest n:Nat} (ha:all<4096) (hr:rest<4096) (hsub:∀x,rest.testBit x=true→all.testBit x=true) (hsh:WY (Vf G) (fun k=>all.testBit k=true) (fun k=>rest.testBit k=true)) (hn:rest.testBit n=true):
  (okC G rest n=WP E (lf rest) (WJ E (lf all) (lf rest) n))∧(okC G rest n=true→lf (car G rest n)=WJ E (lf all) (lf rest) n∧lf (dN rest (car G rest n))=(lf rest).filter (fun y=> !(WJ E (lf all) (lf rest) n).contains y)∧
   WY (Vf G) (fun k=>all.testBit k=true) (fun k=>(dN rest (car G rest n)).testBit k=true)):=by
 have eE:(fun j k=>E j k=true)=Vf G:=funext fun j=>funext fun k=>propext (hE j k)
 have eA:(fun k=>k∈lf all)=fun k=>all.testBit k=true:=funext fun k=>propext (Tz ha)
 have eR:(fun k=>k∈lf rest)=fun k=>rest.testBit k=true:=funext fun k=>propext (Tz hr)
 have hs:∀x∈lf rest,x∈lf all:=fun x hx=>(Tz ha).2 (hsub x ((Tz hr).1 hx))
 have hnr:n∈lf rest:=(Tz hr).2 hn
 have hn12:=rr hr hn
 have hc:car G rest n<4096:=Me G rest n hr hn12
 have hm:=fun k=>VK G rest n hr hn12 k
 have h1:=Yb (G:=G) hr hn
 have h2:=Yx (E:=E) hs hnr
 rw[eE,eA,eR]at h2
 refine⟨by rw[Bool.eq_iff_iff,h1,h2];exact YB hsh hsub hn,fun hok=> ?_⟩
 have hacc:=h1.1 hok
 have hown:∀k,k∈WJ E (lf all) (lf rest) n↔Rch (Vf G) (fun k=>rest.testBit k=true) n k:=fun k=>by
  have:=WL (E:=E) hs hnr k
  rw[eE,eA,eR]at this
  rw[this]
  exact qgr hsh hsub hn hacc k
 refine⟨Wj _ _ (UR hc) ((UR hr).filter _) fun x=> ?_,Wj _ _ (UR (Yc hr)) ((UR hr).filter _) fun x=> ?_, ?_⟩
 ·rw[Tz hc,hm x,hown x]
 ·have hcx:(WJ E (lf all) (lf rest) n).contains x=(car G rest n).testBit x:=by
   rw[Bool.eq_iff_iff,List.contains_iff_mem,hown x,hm x]
  rw[Tz (Yc hr),alsm,Tz hr,Gh,hcx,qaF]
 ·have h3:=Ym hsh hsub hn hacc
  have e:(fun k=>(dN rest (car G rest n)).testBit k=true)=fun k=>rest.testBit k=true∧¬Rch (Vf G) (fun k=>rest.testBit k=true) n k:=funext fun k=>propext (by
   rw[Gh,qaF, ←hm k]
   simp)
  rw[e]
  exact h3
theorem Yr {G:List Nat} {rest:Nat} (hr:rest<4096) (h0:rest≠0):∃n,(lf rest).find? (okC G rest)=some n:=by
 cases h:(lf rest).find? (okC G rest)with
 |some n=>exact⟨n,rfl⟩
 |none=>
  exfalso
  have hne:lf rest≠[]:=fun e=>h0 ((Yj hr).1 e)
  obtain⟨n0,hn0⟩:=List.exists_mem_of_ne_nil _ hne
  have hb0:=(Tz hr).1 hn0
  obtain⟨n,hn,hacc⟩:=XY (E:=Vf G) (rest:=fun k=>rest.testBit k=true) (fun n=>n) (fun n=>if rest.testBit n=true then lf (car G rest n)else []) (fun n hn k=>by
   have hn':rest.testBit n=true:=hn
   rw[if_pos hn',Tz (Me G rest n hr (rr hr hn)),VK G rest n hr (rr hr hn)]) (fun n=>by
   by_cases hn:rest.testBit n=true
   ·simp only[hn,if_true]
    exact((UR (Me G rest n hr (rr hr hn))).imp fun h=>Nat.ne_of_lt h)
   ·simp[hn]) hb0
  have:=List.find?_eq_none.1 h n ((Tz hr).2 hn)
  exact this ((Yb hr hn).2 hacc)
end
section
open Go.RowKit Go.Shelf Go.Lib
attribute [local go_sem] Ext.cell Ext.frozen
theorem Ix (x y z:Int) (W:World) (hx: -1≤x∧x≤1) (hy: -1≤y∧y≤1) (hz: -1≤z∧z≤1):Calls Tryz.prog 34 #[V3 x y z] W (Ret W (V3 (-x) (-y) (-z))):=by
 go_enter Tryz.func34,Tryz.ntmps34
 go_wp2
 refine bodyPost_ret (v:= .agg #[.int .i64 (-x), .int .i64 (-y), .int .i64 (-z)]) (by simp[results,Tryz.results34,go_sem]) rfl ⟨rfl, ?_⟩
 exact bel
theorem ba {n lo hi:Int} {b:Bool} (h:decide (lo≤n∧n≤hi)=b) (w:World):Calls Tryz.prog 24 #[.int .i64 n, .int .i64 lo, .int .i64 hi] w fun e w'=>e= .returned (.bool b)∧w'=w:=(de n lo hi w).mono fun e w' h'=>⟨by rw[h'.1,h],h'.2.symm⟩
theorem El (x y z:Int) (W:World):Calls Tryz.prog 19 #[V3 x y z] W (Ret W (.int .i64 (mK (x,y,z)))):=by
 have Hr:=YJ (@gL x y z)
 have Hp:=YJ (@GD x y z)
 obtain⟨we,HW⟩:∃we,Hid (mK (x,y,z)=we):=⟨_,YJ rfl⟩
 rw[HW.out]at Hr Hp ⊢
 clear HW
 go_enter Tryz.func19,Tryz.ntmps19
 by_cases hx: -1≤x∧x≤1
 ·have gx:decide (-1≤x∧x≤1)=true:=qfX hx
  by_cases hy: -1≤y∧y≤1
  ·have gy:decide (-1≤y∧y≤1)=true:=qfX hy
   by_cases hz: -1≤z∧z≤1
   ·have gz:decide (-1≤z∧z≤1)=true:=qfX hz
    have hp:=Hp.out hx hy hz
    clear Hr Hp hx hy hz
    by_cases ex:x=0
    ·by_cases ey:y=0
     ·by_cases ez:z=0
      ·rw[if_pos ⟨ex,ey,ez⟩]at hp
       subst hp
       subst ex
       subst ey
       subst ez
       go_wp2_with fail
       refine(ba gx _).mono ?_
       rintro e w2 ⟨rfl,rfl⟩
       go_wp2_with fail
       refine(ba gy _).mono ?_
       rintro e w2 ⟨rfl,rfl⟩
       go_wp2_with fail
       refine(ba gz _).mono ?_
       rintro e w2 ⟨rfl,rfl⟩
       clear gx gy gz
       go_wp2
       go_ret
       exact⟨by trivial,bel⟩
      ·rw[if_neg (fun h=>ez h.2.2)]at hp
       subst hp
       subst ex
       subst ey
       go_wp2_with fail
       refine(ba gx _).mono ?_
       rintro e w2 ⟨rfl,rfl⟩
       go_wp2_with fail
       refine(ba gy _).mono ?_
       rintro e w2 ⟨rfl,rfl⟩
       go_wp2_with fail
       refine(ba gz _).mono ?_
       rintro e w2 ⟨rfl,rfl⟩
       clear gx gy gz
       go_wp2
       go_ret
       exact⟨by trivial,bel⟩
     ·rw[if_neg (fun h=>ey h.2.1)]at hp
      subst hp
      subst ex
      go_wp2_with fail
      refine(ba gx _).mono ?_
      rintro e w2 ⟨rfl,rfl⟩
      go_wp2_with fail
      refine(ba gy _).mono ?_
      rintro e w2 ⟨rfl,rfl⟩
      go_wp2_with fail
      refine(ba gz _).mono ?_
      rintro e w2 ⟨rfl,rfl⟩
      clear gx gy gz
      go_wp2
      go_ret
      exact⟨by trivial,bel⟩
    ·rw[if_neg (fun h=>ex h.1)]at hp
     subst hp
     go_wp2_with fail
     refine(ba gx _).mono ?_
     rintro e w2 ⟨rfl,rfl⟩
     go_wp2_with fail
     refine(ba gy _).mono ?_
     rintro e w2 ⟨rfl,rfl⟩
     go_wp2_with fail
     refine(ba gz _).mono ?_
     rintro e w2 ⟨rfl,rfl⟩
     clear gx gy gz
     go_wp2
     go_ret
     exact⟨by trivial,bel⟩
   ·have gz:decide (-1≤z∧z≤1)=false:=qfZ hz
    have hp:=Hr.out (by omega)
    subst hp
    clear Hr Hp hx hy hz
    go_wp2_with fail
    refine(ba gx _).mono ?_
    rintro e w2 ⟨rfl,rfl⟩
    go_wp2_with fail
    refine(ba gy _).mono ?_
    rintro e w2 ⟨rfl,rfl⟩
    go_wp2_with fail
    refine(ba gz _).mono ?_
    rintro e w2 ⟨rfl,rfl⟩
    clear gx gy gz
    go_wp2
    go_ret
    exact⟨by trivial,bel⟩
  ·have gy:decide (-1≤y∧y≤1)=false:=qfZ hy
   have hp:=Hr.out (by omega)
   subst hp
   clear Hr Hp hx hy
   go_wp2_with fail
   refine(ba gx _).mono ?_
   rintro e w2 ⟨rfl,rfl⟩
   go_wp2_with fail
   refine(ba gy _).mono ?_
   rintro e w2 ⟨rfl,rfl⟩
   clear gx gy
   go_wp2
   go_ret
   exact⟨by trivial,bel⟩
 ·have gx:decide (-1≤x∧x≤1)=false:=qfZ hx
  have hp:=Hr.out (by omega)
  subst hp
  clear Hr Hp hx
  go_wp2_with fail
  refine(ba gx _).mono ?_
  rintro e w2 ⟨rfl,rfl⟩
  clear gx
  go_wp2
  go_ret
  exact⟨by trivial,bel⟩
end
section
open Go.RowKit Go.Shelf Go.Lib
set_option maxRecDepth 100000
attribute [local go_sem] Ext.cell Ext.frozen
theorem Lo (xs:List Int) (v:Value) (W:World) (hx:∀x∈xs, -300000≤x∧x≤300000) (hl:xs.length≤1000000) (hv:Ints W v xs):
  Calls Tryz.prog 163 #[v] W (Ret W (.bool true)):=by
 obtain⟨a,n,c,rfl,hn,_,hi⟩:=hv
 have HX:=YJ hi
 have HN:=YJ hn
 have HB:=fun i (h:i<xs.length)=>YJ (hx _ (qaB h))
 clear hi hn hx
 go_enter Tryz.func163,Tryz.ntmps163
 go_wp2
 go_loopw [3] (fun x wr=>wr=W∧∃k:Nat,k≤n∧x= .int .i64 k) (fun x _=>n-(intOf x).toNat)
 case atStart=>exact⟨rfl,0,by omega,rfl⟩
 case round=>
  obtain⟨rfl,k,hk,rfl⟩:=hrel
  by_cases hlt:k<n
  ·have g1:(k:Int)<(n:Int):=by omega
   have g2:(0:Int)≤(k:Int):=by omega
   have hil:k<xs.length:=by have:=HN.out;omega
   have hnl:n≤1000000:=by have:=HN.out;omega
   obtain⟨b,off,rfl,hi4⟩:=HX.out (by omega)
   have e0:=hi4 k hil
   have ze:=qaC wr _ e0
   simp only at ze
   have gb:decide (-300000≤xs[k]∧xs[k]≤300000)=true:=qfX (HB k hil).out
   clear HX HB hi4
   generalize xs[k]=y at*
   go_wp2_with fail
   refine(ba gb _).mono ?_
   rintro e w2 ⟨rfl,rfl⟩
   go_wp2
   go_roundw
   case rel=>exact⟨by first|trivial|rfl,k+1,by omega,by go_num⟩
   simp[intOf];try omega
  ·obtain rfl:k=n:=by omega
   clear HX HB
   go_wp2
   go_ret
   exact⟨by trivial,bel⟩
def CV (x1 y1 z1 x2 y2 z2:Int):List Q4:=[dG (-1,0,0, -x1),dG (0, -1,0, -y1),dG (0,0, -1, -z1),dG (0,0,1,z2),dG (0,1,0,y2),dG (1,0,0,x2)]
theorem Gq (x1 y1 z1 x2 y2 z2:Int) (W:World) (h1: -300000≤x1∧x1≤300000) (h2: -300000≤y1∧y1≤300000) (h3: -300000≤z1∧z1≤300000) (h4: -300000≤x2∧x2≤300000) (h5: -300000≤y2∧y2≤300000) (h6: -300000≤z2∧z2≤300000):
  Calls Tryz.prog 164 #[.agg #[.int .i64 x1, .int .i64 y1, .int .i64 z1, .int .i64 x2, .int .i64 y2, .int .i64 z2]] W (fun e w'=>∃pv,e= .returned (.agg #[pv])∧Below W.heap.size W w'∧Q4s w' pv (CV x1 y1 z1 x2 y2 z2)):=by
 have L1:=fun w=>YJ (tF (-1,0,0, -x1) w (by unfold cI bI;simp;omega))
 have L2:=fun w=>YJ (tF (0, -1,0, -y1) w (by unfold cI bI;simp;omega))
 have L3:=fun w=>YJ (tF (0,0, -1, -z1) w (by unfold cI bI;simp;omega))
 have L4:=fun w=>YJ (tF (0,0,1,z2) w (by unfold cI bI;simp;omega))
 have L5:=fun w=>YJ (tF (0,1,0,y2) w (by unfold cI bI;simp;omega))
 have L6:=fun w=>YJ (tF (1,0,0,x2) w (by unfold cI bI;simp;omega))
 have w1:IntKind.i64.wrap (-x1)= -x1:=IntWalk.i64_in _ (by omega)
 have w2:IntKind.i64.wrap (-y1)= -y1:=IntWalk.i64_in _ (by omega)
 have w3:IntKind.i64.wrap (-z1)= -z1:=IntWalk.i64_in _ (by omega)
 obtain⟨B,HBx⟩:∃B,Hid (CV x1 y1 z1 x2 y2 z2=B):=⟨_,YJ rfl⟩
 rw[HBx.out]
 unfold CV at HBx
 generalize dG (-1,0,0, -x1)=p1 at*
 generalize dG (0, -1,0, -y1)=p2 at*
 generalize dG (0,0, -1, -z1)=p3 at*
 generalize dG (0,0,1,z2)=p4 at*
 generalize dG (0,1,0,y2)=p5 at*
 generalize dG (1,0,0,x2)=p6 at*
 obtain⟨a1,b1,c1,d1⟩:=p1
 obtain⟨a2,b2,c2,d2⟩:=p2
 obtain⟨a3,b3,c3,d3⟩:=p3
 obtain⟨a4,b4,c4,d4⟩:=p4
 obtain⟨a5,b5,c5,d5⟩:=p5
 obtain⟨a6,b6,c6,d6⟩:=p6
 simp only[v4]at L1 L2 L3 L4 L5 L6
 clear h1 h2 h3 h4 h5 h6
 go_enter Tryz.func164,Tryz.ntmps164
 go_wp2
 apply aj [] [0,1,2,3,4,5,6,7,8,9,10,11,12,13,14,15,16,17,18,19,20,21,22,23,24,25,26] 27 [28,29] [sv _,sv _,sv _,sv _,sv _,sv _,sv _,sv _,sv _,sv _,sv _,sv _,sv _,sv _,sv _,sv _,sv _,sv _,sv _,sv _,sv _,sv _,sv _,sv _,sv _,sv _,sv _] (by kernel_rfl) (by kernel_rfl)
 iterate 4 ((try go_frame);refine wkQ ?_)
 try go_frame
 refine wkV ?_
 apply ex3
 ·intro u K hK
  go_simp
  refine((L1 _).out).mono ?_
  rintro e w9 ⟨rfl,hb9⟩
  exact hK _ hb9
 rfl
 iterate 4 ((try go_frame);refine wkQ ?_)
 try go_frame
 refine wkV ?_
 apply ex3
 ·intro u K hK
  go_simp
  refine((L2 _).out).mono ?_
  rintro e w9 ⟨rfl,hb9⟩
  exact hK _ hb9
 rfl
 iterate 4 ((try go_frame);refine wkQ ?_)
 try go_frame
 refine wkV ?_
 apply ex3
 ·intro u K hK
  go_simp
  refine((L3 _).out).mono ?_
  rintro e w9 ⟨rfl,hb9⟩
  exact hK _ hb9
 rfl
 iterate 3 ((try go_frame);refine wkQ ?_)
 try go_frame
 refine wkV ?_
 apply ex3
 ·intro u K hK
  go_simp
  refine((L4 _).out).mono ?_
  rintro e w9 ⟨rfl,hb9⟩
  exact hK _ hb9
 rfl
 iterate 3 ((try go_frame);refine wkQ ?_)
 try go_frame
 refine wkV ?_
 apply ex3
 ·intro u K hK
  go_simp
  refine((L5 _).out).mono ?_
  rintro e w9 ⟨rfl,hb9⟩
  exact hK _ hb9
 rfl
 iterate 3 ((try go_frame);refine wkQ ?_)
 try go_frame
 refine wkV ?_
 apply ex3
 ·intro u K hK
  go_simp
  refine((L6 _).out).mono ?_
  rintro e w9 ⟨rfl,hb9⟩
  exact hK _ hb9
 rfl
 try go_frame
 refine aI (fun u hR=> ?_)
 have hbu:=u.below
 have hC0:u.val.heap[W.heap.size+1]? =some (.cells #[.slice none 0 0] 167 (0,0)):=(hbu.block _ (by simp)).trans (ai (by simp))
 have hbW:Below W.heap.size W u.val:=fB bel hbu
 have c0:=(ag hC0 0).trans rfl
 have cf:=aC hC0
 have cz:=ah hC0
 generalize u.val=V at*
 clear u
 simp only[oas]
 iterate 3 (refine wpList_step (fun K hK=> ?_);go_simp;refine hK _ _ ?_;clear hK K)
 refine NoPanic.normal ?_
 go_wp2
 have hS:=Tu hC0 0 (.slice (some ⟨V.heap.size,0,none⟩) 6 6)
 obtain⟨Y,HY⟩:∃Y,Hid (((V.setCell ⟨W.heap.size+1,0,none⟩ (.slice (some ⟨V.heap.size,0,none⟩) 6 6)).alloc (.cells #[.int .i64 a1, .int .i64 b1, .int .i64 c1, .int .i64 d1, .int .i64 a2, .int .i64 b2, .int .i64 c2, .int .i64 d2, .int .i64 a3, .int .i64 b3, .int .i64 c3, .int .i64 d3, .int .i64 a4, .int .i64 b4, .int .i64 c4, .int .i64 d4, .int .i64 a5, .int .i64 b5, .int .i64 c5, .int .i64 d5, .int .i64 a6, .int .i64 b6, .int .i64 c6, .int .i64 d6] 196))=Y):=⟨_,YJ rfl⟩
 have hbY:Below W.heap.size W Y:=by rw[←HY.out];exact(hbW.setCell (p:=⟨W.heap.size+1,0,none⟩) (by show _≤W.heap.size+1;omega) _).alloc (by simp;omega) _
 have hN:Y.heap[V.heap.size]? =some (.cells #[.int .i64 a1, .int .i64 b1, .int .i64 c1, .int .i64 d1, .int .i64 a2, .int .i64 b2, .int .i64 c2, .int .i64 d2, .int .i64 a3, .int .i64 b3, .int .i64 c3, .int .i64 d3, .int .i64 a4, .int .i64 b4, .int .i64 c4, .int .i64 d4, .int .i64 a5, .int .i64 b5, .int .i64 c5, .int .i64 d5, .int .i64 a6, .int .i64 b6, .int .i64 c6, .int .i64 d6] 196 (0,0)):=by rw[←HY.out];exact ai (by simp)
 have hr:Y.cell? ⟨W.heap.size+1,0,none⟩=some (.slice (some ⟨V.heap.size,0,none⟩) 6 6):=by rw[←HY.out];exact(ag ((aB (by simp;omega)).trans hS) 0).trans rfl
 rw[HY.out]
 refine bodyPost_ret (v:= .agg #[.slice (some ⟨V.heap.size,0,none⟩) 6 6]) (by simp[results,Tryz.results164,go_sem,hr]) rfl ⟨_,rfl,hbY,_,6,6,rfl,by rw[←HBx.out];rfl,qaA _,fun _=>⟨V.heap.size,0,rfl, ?_⟩⟩
 rw[←HBx.out]
 intro i hi
 have cs:=fun j=>ag hN j
 match i,hi with
 |0,_=>exact⟨(cs 0).trans rfl,(cs 1).trans rfl,(cs 2).trans rfl,(cs 3).trans rfl⟩
 |1,_=>exact⟨(cs 4).trans rfl,(cs 5).trans rfl,(cs 6).trans rfl,(cs 7).trans rfl⟩
 |2,_=>exact⟨(cs 8).trans rfl,(cs 9).trans rfl,(cs 10).trans rfl,(cs 11).trans rfl⟩
 |3,_=>exact⟨(cs 12).trans rfl,(cs 13).trans rfl,(cs 14).trans rfl,(cs 15).trans rfl⟩
 |4,_=>exact⟨(cs 16).trans rfl,(cs 17).trans rfl,(cs 18).trans rfl,(cs 19).trans rfl⟩
 |5,_=>exact⟨(cs 20).trans rfl,(cs 21).trans rfl,(cs 22).trans rfl,(cs 23).trans rfl⟩
end
section
section
variable {α:Type} (le:α→α→Bool)
def mgF:Nat→List α→List α→List α
 |0,xs,ys=>xs++ys
 |_+1,[],ys=>ys
 |_+1,xs,[]=>xs
 |f+1,x::xs,y::ys=>if le x y then x::mgF f xs (y::ys)else y::mgF f (x::xs) ys
theorem rR:∀(f:Nat) (xs ys:List α),xs.length+ys.length≤f→List.merge xs ys le=mgF le f xs ys
 |0,xs,ys,h=>by
  obtain rfl:xs=[]:=List.length_eq_zero_iff.1 (by omega)
  obtain rfl:ys=[]:=List.length_eq_zero_iff.1 (by omega)
  simp[mgF]
 |f+1,[],ys,_=>by simp[mgF]
 |f+1,x::xs,[],_=>by simp[mgF]
 |f+1,x::xs,y::ys,h=>by
  rw[List.cons_merge_cons]
  simp only[mgF]
  split
  ·rw[rR f xs (y::ys) (by simp at h ⊢;omega)]
  ·rw[rR f (x::xs) ys (by simp at h ⊢;omega)]
def msF:Nat→List α→List α
 |0,l=>l
 |_+1,[]=>[]
 |_+1,[a]=>[a]
 |f+1,a::b::xs=>let l:=a::b::xs;mgF le l.length (msF f (l.take ((l.length+1) / 2))) (msF f (l.drop ((l.length+1) / 2)))
theorem lL:∀(f:Nat) (l:List α),l.length≤f→l.mergeSort le=msF le f l
 |0,l,h=>by
  obtain rfl:l=[]:=List.length_eq_zero_iff.1 (by omega)
  simp[msF]
 |f+1,[],_=>by simp[msF]
 |f+1,[a],_=>by simp[msF]
 |f+1,a::b::xs,h=>by
  rw[List.mergeSort]
  simp only[msF,List.MergeSort.Internal.splitInTwo_fst,List.MergeSort.Internal.splitInTwo_snd]
  have h1:((a::b::xs).take (((a::b::xs).length+1) / 2)).length≤f:=by simp at h ⊢;omega
  have h2:((a::b::xs).drop (((a::b::xs).length+1) / 2)).length≤f:=by simp at h ⊢;omega
  rw[←lL f _ h1, ←lL f _ h2, ←rR le _ _ _ (by simp;omega)]
end
end
section
open Go.RowKit Go.Shelf
theorem Fo:(Tryz.prog.info? 154).map (fun i=>i.size)=some 2:=by kernel_rfl
theorem DP:(Tryz.prog.info? 5).map (fun i=>(i.zero,i.size,i.bytes))=some (some (.int .u8 0),1,1):=by kernel_rfl
theorem DQ:Tryz.prog.underlying 152=some (.slice 5):=by kernel_rfl
theorem Kg:Tryz.prog.underlying 9=some .string:=by kernel_rfl
theorem Co:Tryz.prog.underlying 151=some (.pointer 154):=by kernel_rfl
theorem Fp:Tryz.prog.underlying 254=some .unsafePointer:=by kernel_rfl
theorem Kh:liesAt Tryz.prog Tryz.prog.depth 154 (2 / Tryz.prog.cellsOf 154) 0 154 1=true:=by kernel_rfl
theorem Fq (b:Nat) (w:World) (h0:w.cell? ⟨b,0,none⟩=some (.pointer (some ⟨b,0,none⟩))):
  Calls Tryz.prog 129 #[.pointer (some ⟨b,0,none⟩)] w fun e w'=>e= .returned (.tuple #[])∧w'=w:=by
 obtain⟨j,hj,hjs⟩:=Option.map_eq_some_iff.1 Fo
 have hlt:=qaC w _ h0
 simp only at hlt
 have hne:=Lib.run_neq_ptr_same w (⟨b,0,none⟩:Addr) Co hj
 go_enter Tryz.func129,Tryz.ntmps129
 go_wp2
 go_end0
 exact⟨rfl,rfl⟩
theorem Eo (b:Nat) (w:World) (h0:w.cell? ⟨b,0,none⟩=some (.pointer none)) (hsh:w.shape? b=some (154,2)) (hfz:w.frozen? ⟨b,0,none⟩=false):
  Calls Tryz.prog 129 #[.pointer (some ⟨b,0,none⟩)] w fun e w'=>e= .returned (.tuple #[])∧w'=w.setCell ⟨b,0,none⟩ (.pointer (some ⟨b,0,none⟩)):=by
 obtain⟨j,hj,hjs⟩:=Option.map_eq_some_iff.1 Fo
 have hlt:=qaC w _ h0
 simp only at hlt
 have hto:=Lib.run_to_unsafe w (⟨b,0,none⟩:Addr) Co Fp hj (by rw[hjs];decide) hsh (Nat.zero_lt_succ 1)
 have hfrom:=Lib.run_from_unsafe w (⟨b,0,none⟩:Addr) Fp Co hj hsh Kh
 have hne:∀w,(binOp .neq 151 (.pointer (some ⟨b,0,none⟩)) (.pointer (some ⟨b,0,none⟩))).run Tryz.prog w= .ok (.bool false) w:=fun w=>Lib.run_neq_ptr_same w (⟨b,0,none⟩:Addr) Co hj
 have hcall:∀w,(callFunc 166 #[.pointer (some ⟨b,0,none⟩)]).run Tryz.prog w= .ok (.value (.pointer (some ⟨b,0,none⟩))) w:=fun w=>by
  rw[run_callFunc_extern Tryz.func166 (by kernel_rfl) (by kernel_rfl) (by kernel_rfl) (e:=Extern.AbiNoEscape.same) (by kernel_rfl)]
  rfl
 go_enter Tryz.func129,Tryz.ntmps129
 go_wp2
 go_end0
 exact⟨rfl,rfl⟩
abbrev vm (B b:Nat) (bs:List Value) (w:World):Prop:=Lib.IsBuilder 154 5 B b bs w
abbrev Mj (B b:Nat) (bs:List Value) (w:World):Prop:=Lib.BuilderAt 154 5 B b (.pointer (some ⟨b,0,none⟩)) bs w
def KeepU (b:Nat) (w w':World):Prop:=∀g cells t,g≠b→5≠t→w.heap[g]? =some (.cells cells t (0,0))→w'.heap[g]? =some (.cells cells t (0,0))
theorem KeepU.refl (b:Nat) (w:World):KeepU b w w:=fun _ _ _ _ _ h=>h
theorem KeepU.trans {b:Nat} {w w1 w2:World} (h:KeepU b w w1) (h':KeepU b w1 w2):KeepU b w w2:=fun g c t hg ht hc=>h' g c t hg ht (h g c t hg ht hc)
theorem KeepU.setCell (b o:Nat) (w:World) (u:Value):KeepU b w (w.setCell ⟨b,o,none⟩ u):=fun g _ _ hg _ h=>(qaH w ⟨b,o,none⟩ u g hg).trans h
theorem KeepU.alloc (b:Nat) (w:World) (o:Obj):KeepU b w (w.alloc o):=fun g _ _ _ _ h=>(aB (ah h)).trans h
theorem KeepU.grown {b B n:Nat} {w w':World} {v:Value} {xs:List Value} (ho:w.ownsRow B 5 1 v n xs) (hg:w.grownBy w' v.ownBlock):KeepU b w w':=fun g _ _ _ ht h=>
 (hg.block _ (ah h) (fun e=>aG ho h ht e.symm)).trans h
theorem Du (B b:Nat) (bs:List Value) (w:World) (h:vm B b bs w):
  Calls Tryz.prog 129 #[.pointer (some ⟨b,0,none⟩)] w fun e w'=>e= .returned (.tuple #[])∧(Mj B b bs w'∧Below B w w'∧KeepU b w w'):=by
 rcases h with h|h
 ·refine(Eo b w h.cell0 h.shape h.frozen0).mono ?_
  rintro e w' ⟨rfl,rfl⟩
  exact⟨rfl,h.used _,(Below.refl B w).setCell (p:=⟨b,0,none⟩) h.1 _,KeepU.setCell _ _ _ _⟩
 ·refine(Fq b w h.cell0).mono ?_
  rintro e w' ⟨rfl,rfl⟩
  exact⟨rfl,h,Below.refl B _,KeepU.refl _ _⟩
set_option maxRecDepth 100000 in
theorem Iz (B b:Nat) (bs:List Value) (c:Int) (w:World) (h:vm B b bs w) (hlen:bs.length+1≤140737488355328) (hBw:B≤w.heap.size):
  Calls Tryz.prog 92 #[.pointer (some ⟨b,0,none⟩), .int .u8 c] w fun e w'=>e= .returned .nilIface∧(Mj B b (bs++[.int .u8 c]) w'∧Below B w w'∧KeepU b w w'):=by
 obtain⟨i0,hi,hz0,hz1,hz2⟩:=info_parts DP
 have HC:=YJ (Du B b bs w h)
 have Hi0:=YJ (And.intro hi (And.intro hz0 (And.intro hz1 hz2)))
 clear hi hz0 hz1 hz2 h
 go_enter Tryz.func92,Tryz.ntmps92
 go_wp2_with fail
 refine(HC.out).mono ?_
 rintro e w1 ⟨rfl,h1,hb1,hk1⟩
 obtain⟨hB,v,hbk,hown,hne⟩:=h1
 have c0:w1.cell? ⟨b,0,none⟩=some (.pointer (some ⟨b,0,none⟩)):=by rw[Lib.cell_of_heap hbk];rfl
 have c1:w1.cell? ⟨b,1,none⟩=some v:=by rw[Lib.cell_of_heap hbk];rfl
 have HBK:=YJ hbk
 have HO:=YJ hown
 have zb:=ah hbk
 obtain⟨va,vc,rfl⟩:=aT hown
 clear HC hbk hown
 go_wp2_with (at_builtin;refine wpList_append_own _ rfl _ _ 152 rfl B 5 i0 (.int .u8 0) 1 1 DQ Hi0.out.1 Hi0.out.2.1 Hi0.out.2.2.1 Hi0.out.2.2.2 rfl (by decide) _ _ _ rfl (HO.out.alloc _) ⟨w1.heap.size,0,none⟩ 1 1 [.int .u8 c] rfl rfl ?c1 ?c2 ?c3 ?c4 ?c5 ?_)
 case c1=>
  intro j u hj
  match j,hj with
  |0,hj=>simp at hj;subst hj;simp[Addr.add]
 case c2=>intro u hu;simp at hu;subst hu;rfl
 case c3=>unfold maxLen;omega
 case c4=>omega
 case c5=>have:=hb1.size;simp;omega
 intro v' w2 hown' hgrow _
 have HB2:Hid (w2.heap[b]? =some (.cells #[.pointer (some ⟨b,0,none⟩), .slice va bs.length vc] 154 (0,0))):=YJ (by
  rw[hgrow.block b (by simp;omega) (fun e=>hne e.symm),Lib.alloc_old w1 _ b zb]
  exact HBK.out)
 have HO2:=YJ hown'
 have HG:=YJ hgrow
 obtain⟨va2,vc2,rfl⟩:=aT hown'
 clear c0 c1 hown' hgrow
 have d0:w2.cell? ⟨b,0,none⟩=some (.pointer (some ⟨b,0,none⟩)):=by rw[Lib.cell_of_heap HB2.out];rfl
 have d1:w2.cell? ⟨b,1,none⟩=some (.slice va bs.length vc):=by rw[Lib.cell_of_heap HB2.out];rfl
 have f1:w2.frozen? ⟨b,1,none⟩=false:=Lib.frozen_of_heap HB2.out 1
 have zb2:=ah HB2.out
 go_wp2
 go_ret
 refine⟨rfl, ?_, ?_, ?_⟩
 ·exact Lib.BuilderAt.put (T:=154) (e:=5) hB HB2.out (bs':=bs++[.int .u8 c]) (by simpa using HO2.out) (by decide)
 ·exact((hb1.alloc (by have:=hb1.size;omega) _).grown HG.out (by have:=hb1.size;simp;omega) (fun k hk=>(HO.out.lt k hk).1)).setCell (p:=⟨b,1,none⟩) hB _
 ·exact((hk1.trans (KeepU.alloc _ _ _)).trans (KeepU.grown (HO.out.alloc _) HG.out)).trans (KeepU.setCell _ _ _ _)
set_option maxRecDepth 100000 in
theorem Ki (B b:Nat) (bs:List Value) (s:ByteArray) (w:World) (h:vm B b bs w) (hlen:bs.length+s.size≤140737488355328) (hBw:B≤w.heap.size):
  Calls Tryz.prog 89 #[.pointer (some ⟨b,0,none⟩), .string s] w fun e w'=>e= .returned (.tuple #[.int .i64 s.size, .nilIface])∧(Mj B b (bs++Lib.strCells s) w'∧Below B w w'∧KeepU b w w'):=by
 obtain⟨i0,hi,hz0,hz1,hz2⟩:=info_parts DP
 have HC:=YJ (Du B b bs w h)
 have Hi0:=YJ (And.intro hi (And.intro hz0 (And.intro hz1 hz2)))
 clear hi hz0 hz1 hz2 h
 go_enter Tryz.func89,Tryz.ntmps89
 go_wp2_with fail
 refine(HC.out).mono ?_
 rintro e w1 ⟨rfl,h1,hb1,hk1⟩
 obtain⟨hB,v,hbk,hown,hne⟩:=h1
 have c0:w1.cell? ⟨b,0,none⟩=some (.pointer (some ⟨b,0,none⟩)):=by rw[Lib.cell_of_heap hbk];rfl
 have c1:w1.cell? ⟨b,1,none⟩=some v:=by rw[Lib.cell_of_heap hbk];rfl
 have HBK:=YJ hbk
 have HO:=YJ hown
 have zb:=ah hbk
 obtain⟨va,vc,rfl⟩:=aT hown
 clear HC hbk hown
 go_wp2_with (at_builtin;refine Lib.wpList_append_own_string _ rfl _ _ 152 9 rfl B 5 i0 DQ Kg Hi0.out.1 Hi0.out.2.1 Hi0.out.2.2.1 Hi0.out.2.2.2 _ _ _ rfl HO.out s rfl ?c3 ?c4 ?c5 ?_)
 case c3=>unfold maxLen;omega
 case c4=>omega
 case c5=>have:=hb1.size;omega
 intro v' w2 hown' hgrow _
 have HB2:Hid (w2.heap[b]? =some (.cells #[.pointer (some ⟨b,0,none⟩), .slice va bs.length vc] 154 (0,0))):=YJ (by
  rw[hgrow.block b zb (fun e=>hne e.symm)]
  exact HBK.out)
 have HO2:=YJ hown'
 have HG:=YJ hgrow
 obtain⟨va2,vc2,rfl⟩:=aT hown'
 clear c0 c1 hown' hgrow
 have d0:w2.cell? ⟨b,0,none⟩=some (.pointer (some ⟨b,0,none⟩)):=by rw[Lib.cell_of_heap HB2.out];rfl
 have d1:w2.cell? ⟨b,1,none⟩=some (.slice va bs.length vc):=by rw[Lib.cell_of_heap HB2.out];rfl
 have f1:w2.frozen? ⟨b,1,none⟩=false:=Lib.frozen_of_heap HB2.out 1
 have zb2:=ah HB2.out
 go_wp2
 go_ret2
 refine⟨rfl, ?_, ?_, ?_⟩
 ·exact Lib.BuilderAt.put (T:=154) (e:=5) hB HB2.out (bs':=bs++Lib.strCells s) (by simpa [Lib.strCells_length]using HO2.out) (by decide)
 ·exact(hb1.grown HG.out (by have:=hb1.size;omega) (fun k hk=>(HO.out.lt k hk).1)).setCell (p:=⟨b,1,none⟩) hB _
 ·exact(hk1.trans (KeepU.grown HO.out HG.out)).trans (KeepU.setCell _ _ _ _)
theorem ws (l s:List UInt8):Lib.byteCells (l++s)=Lib.byteCells l++Lib.byteCells s:=qgh
theorem qfd (B b:Nat) (l s:List UInt8) (w:World) (h:vm B b (Lib.byteCells l) w) (hlen:l.length+s.length≤140737488355328) (hBw:B≤w.heap.size):
  Calls Tryz.prog 89 #[.pointer (some ⟨b,0,none⟩), .string ⟨s.toArray⟩] w fun e w'=>e= .returned (.tuple #[.int .i64 (⟨s.toArray⟩:ByteArray).size, .nilIface])∧(vm B b (Lib.byteCells (l++s)) w'∧Below B w w'∧KeepU b w w'):=by
 have hs:(⟨s.toArray⟩:ByteArray).size=s.length:=by simp[ByteArray.size]
 refine(Ki B b (Lib.byteCells l) ⟨s.toArray⟩ w h (by rw[hs,Lib.byteCells_length];exact hlen) hBw).mono ?_
 rintro e w' ⟨rfl,h1,h2,h3⟩
 rw[Lib.strCells_toArray, ←ws]at h1
 exact⟨rfl, .inr h1,h2,h3⟩
end
section
open Go.RowKit Go.Shelf
set_option maxRecDepth 100000
attribute [local go_sem] Ext.cell Ext.frozen
def GL (xs:List Int):List UInt8:=Lib.join (xs.map Lib.itoa) [44]
theorem Fs (n:Nat) (sep:List UInt8):∀ls:List (List UInt8),(∀l∈ls,l.length≤n)→(Lib.join ls sep).length≤ls.length*(n+sep.length)
 | [],_=>by simp[Lib.join_nil]
 | [a],h=>by
  rw[Lib.join_one]
  have:=h a (by simp)
  simp
  omega
 |a::b::ls,h=>by
  have ih:=Fs n sep (b::ls) (fun l hl=>h l (List.mem_cons_of_mem _ hl))
  have e:Lib.join (a::b::ls) sep=a++sep++Lib.join (b::ls) sep:=by simp[Lib.join,List.intercalate]
  rw[e,qaE,qaE]
  have:=h a (by simp)
  simp only[qdn]at ih ⊢
  rw[Nat.add_mul (ls.length+1) 1]
  omega
theorem CD (xs:List Int) (hx:∀x∈xs, -1000000000≤x∧x≤1000000000):(GL xs).length≤xs.length*22:=by
 have:=Fs 21 [44] (xs.map Lib.itoa) (fun l hl=>by
  obtain⟨x,hx',rfl⟩:=altt.1 hl
  have:=hx x hx'
  exact Lib.itoa_length_le x (by omega) (by omega))
 simpa [GL]using this
theorem Dv (xs:List Int) (v:Value) (W:World) (hx:∀x∈xs, -1000000000≤x∧x≤1000000000) (hl:xs.length≤1000000) (hv:Ints W v xs) (htab:Lib.TabIs Tryz.prog W "internal/strconv.uint64pow10" .u64 Lib.pow10Tab):
  Calls Tryz.prog 90 #[v] W (Ret W (.string ⟨(GL xs).toArray⟩)):=by
 obtain⟨i0,Hi0⟩:=qfT vj
 obtain⟨a,n,c,rfl,hn,_,hi⟩:=hv
 have HX:=YJ hi
 have HN:=YJ hn
 have HT:=YJ htab
 have HB:=fun i (h:i<xs.length)=>YJ (hx _ (qaB h))
 have HS:=fun i (h:i<xs.length)=>YJ (show(xs.take (i+1)).map txt=(xs.take i).map txt++[txt xs[i]] by rw[qaI h,qgh];rfl)
 have HE:Hid ((xs.take n).map txt=xs.map txt):=YJ (by rw[qaK (by omega)])
 have HJ:Hid (GL xs=Lib.join ((xs.map txt).map (·.data.toList)) [44]):=YJ (by unfold GL;rw[List.map_map];rfl)
 have HCL:=YJ (CD xs hx)
 clear hi hn hx htab
 go_enter Tryz.func90,Tryz.ntmps90
 go_wp2
 go_loopw [3,8] (fun s x wr=>Below W.heap.size W wr∧∃k:Nat,k≤n∧x= .int .i64 k∧Hid (wr.ownsRow W.heap.size 9 1 s k (((xs.take k).map txt).map Value.string))) (fun _ x _=>n-(intOf x).toNat)
 case atStart=>exact⟨brf,0,by omega,rfl,YJ (qds _ _ _ _)⟩
 case round=>
  obtain⟨hb,k,hk,rfl,HO⟩:=hrel
  obtain⟨sa,sc,rfl⟩:=aT HO.out
  by_cases hlt:k<n
  ·have g1:(k:Int)<(n:Int):=by omega
   have g2:(0:Int)≤(k:Int):=by omega
   have hil:k<xs.length:=by have:=HN.out;omega
   obtain⟨b,off,rfl,hi4⟩:=HX.out (by omega)
   have e0:=ab hb (hi4 k hil)
   have ze:=qaC wr _ e0
   simp only at ze
   have HI:=YJ (vi xs[k] (HB k hil).out wr (kl HT.out hb))
   have HSk:=YJ ((HS k hil).out)
   clear HX HB HS hi4
   have Htx:Hid ((⟨(Lib.itoa xs[k]).toArray⟩:ByteArray)=txt xs[k]):=YJ rfl
   rw[Htx.out]at HI
   generalize txt xs[k]=tx at*
   generalize xs[k]=y at*
   go_wp2_with fail
   refine(HI.out).mono ?_
   rintro e w1 ⟨rfl,hb1⟩
   have HO1:=YJ (au HO.out hb1)
   have hbw1:=fB hb hb1
   clear HI HO e0 ze
   go_wp2_with (at_builtin;refine wpList_append_own _ rfl _ _ 219 rfl W.heap.size 9 i0 (.string ⟨#[]⟩) 1 16 qcL Hi0.out.1 Hi0.out.2.1 Hi0.out.2.2.1 Hi0.out.2.2.2 rfl (by decide) _ k _ rfl (HO1.out.alloc _) ⟨_,0,none⟩ 1 1 [.string tx] rfl rfl ?c1 ?c2 ?c3 ?c4 ?c5 ?_)
   case c1=>
    intro jj uu hu
    rw[jY,aq (by simp) jj]
    simpa using hu
   case c2=>intro v hv;simp at hv;subst hv;rfl
   case c3=>unfold maxLen;omega
   case c4=>omega
   case c5=>simp;have:=hbw1.size;omega
   intro v' w4 hown4 hg4 _
   have hbx:Below w1.heap.size w1 (w1.alloc (.cells #[.string tx] 9)):=bel
   have hb4:Below W.heap.size W w4:=(fB hbw1 hbx).grown hg4 (fB hbw1 hbx).size (fun z hz=>by have:=(HO1.out.lt z hz).1;omega)
   have HO4:Hid (w4.ownsRow W.heap.size 9 1 v' (k+1) (((xs.take (k+1)).map txt).map Value.string)):=YJ (by rw[HSk.out];simpa using hown4)
   clear hown4 hg4 HO1 hbx hb1 hbw1 hb
   obtain⟨va,vc,rfl⟩:=aT HO4.out
   go_wp2
   go_roundw
   case rel=>exact⟨hb4,k+1,by omega,by go_num,HO4⟩
   simp[intOf];try omega
  ·obtain rfl:k=n:=by omega
   have HO2:Hid (wr.ownsRow W.heap.size 9 1 (.slice sa k sc) k ((xs.map txt).map Value.string)):=YJ (by rw[←HE.out];exact HO.out)
   clear HX HB HS HO HE
   by_cases h0:k=0
   ·subst h0
    have hx0:xs=[]:=alto.1 HN.out
    subst hx0
    have HQ:Hid ((⟨(GL []).toArray⟩:ByteArray)=⟨#[]⟩):=YJ rfl
    have HF:=fun a c W'=>YJ (Tryz.strings_Join_none a c ⟨#[44]⟩ W')
    go_wp2_with fail
    refine((HF _ _ _).out).mono ?_
    rintro e w1 ⟨rfl,rfl⟩
    go_wp2
    go_ret
    exact⟨by rw[HQ.out];rfl,hb⟩
   ·obtain⟨g,cap,e,hcap,hlt2,hcl⟩:=Qx HO2.out (by rw[qdo];have:=HN.out;omega)
    have hxl:(xs.map txt).length=k:=by rw[qdo];exact HN.out
    rw[hxl]at e hcap
    cases e
    have HF:=YJ (Tryz.strings_Join g 0 sc (xs.map txt) ⟨#[44]⟩ wr hcl hlt2 (by rw[hxl];have:=HN.out;omega) (by rw[hxl];exact hcap) (by
     have h9:=HCL.out
     rw[HJ.out]at h9
     have:(⟨#[44]⟩:ByteArray).data.toList=[44]:=rfl
     rw[this]
     have:=HN.out
     omega))
    rw[hxl]at HF
    have e2:(⟨#[44]⟩:ByteArray).data.toList=[44]:=rfl
    rw[e2, ←HJ.out]at HF
    clear hcl HO2 e2 hxl hcap
    go_wp2_with fail
    refine(HF.out).mono ?_
    rintro e w1 ⟨rfl,hb1⟩
    go_wp2
    go_ret
    exact⟨rfl,fB hb hb1⟩
def Ce (g o:List Int) (v:Q3):Int:=if g.length=0∨o.length=0 then 13 else if(g++o).any (fun n=>decide (n<0∨99<n))then 2 else if 12<g.length∨12<o.length then 8 else mK v
set_option maxRecDepth 100000 in
theorem DE (g o:List Int) (gv ov:Value) (x y z:Int) (W:World) (hg:Ints W gv g) (ho:Ints W ov o) (hl:g.length≤1000) (hl2:o.length≤1000):
  Calls Tryz.prog 88 #[.agg #[gv,ov, .int .i64 x, .int .i64 y, .int .i64 z]] W (Ret W (.int .i64 (Ce g o (x,y,z)))):=by
 have HCW:=fun W'=>YJ (Ru x y z W')
 have H13:Hid (g.length=0∨o.length=0→Ce g o (x,y,z)=13):=YJ (fun h=>by unfold Ce;rw[if_pos h])
 have H2:Hid (g.length≠0→o.length≠0→(g++o).any (fun n=>decide (n<0∨99<n))=true→Ce g o (x,y,z)=2):=YJ (fun h h1 h2=>by unfold Ce;rw[if_neg (by omega),if_pos h2])
 have H8:Hid (g.length≠0→o.length≠0→(g++o).any (fun n=>decide (n<0∨99<n))=false→12<g.length∨12<o.length→Ce g o (x,y,z)=8):=YJ (fun h h1 h2 h3=>by unfold Ce;rw[if_neg (by omega),if_neg (by rw[h2];simp),if_pos h3])
 have H0:Hid (g.length≠0→o.length≠0→(g++o).any (fun n=>decide (n<0∨99<n))=false→¬(12<g.length∨12<o.length)→Ce g o (x,y,z)=mK (x,y,z)):=YJ (fun h h1 h2 h3=>by unfold Ce;rw[if_neg (by omega),if_neg (by rw[h2];simp),if_neg h3])
 generalize Ce g o (x,y,z)=res at*
 generalize mK (x,y,z)=we at*
 obtain⟨ga,gn,gc,rfl,hgn,hgc,hgi⟩:=hg
 obtain⟨oa,on,oc,rfl,hon,hoc,hoi⟩:=ho
 obtain⟨V,HV⟩:∃V,Hid (W.alloc (.cells #[.slice ga gn gc, .slice oa on oc, .int .i64 x, .int .i64 y, .int .i64 z] 60)=V):=⟨_,YJ rfl⟩
 have hV:Below W.heap.size W V:=by rw[←HV.out];exact bel
 have HB:Hid (V.heap[W.heap.size]? =some (.cells #[.slice ga gn gc, .slice oa on oc, .int .i64 x, .int .i64 y, .int .i64 z] 60 (0,0))):=YJ (by rw[←HV.out];exact ai rfl)
 rw[hgn,hon]at H13 H2 H8 H0
 by_cases hg0:gn=0
 ·subst hg0
  have HT:=YJ (H13.out (.inl rfl))
  go_enter Tryz.func88,Tryz.ntmps88
  go_wp2
  go_ret
  exact⟨aK HT.out.symm,bel⟩
 ·have hg0':((gn:Int)==0)=false:=by rw[beq_eq_false_iff_ne];omega
  by_cases ho0:on=0
  ·subst ho0
   have HT:=YJ (H13.out (.inr rfl))
   clear hgi hoi
   go_enter Tryz.func88,Tryz.ntmps88
   go_wp2
   go_ret
   exact⟨aK HT.out.symm,bel⟩
  ·have ho0':((on:Int)==0)=false:=by rw[beq_eq_false_iff_ne];omega
   obtain⟨gb,goff,rfl,hgi'⟩:=hgi (by omega)
   obtain⟨ob,ooff,rfl,hoi'⟩:=hoi (by omega)
   obtain⟨U,HU⟩:∃U,Hid (V.alloc (.cells #[.slice (some ⟨gb,goff,none⟩) gn gc, .slice (some ⟨ob,ooff,none⟩) on oc] 49)=U):=⟨_,YJ rfl⟩
   have hU:Below V.heap.size V U:=by rw[←HU.out];exact bel
   have hWU:=fB hV hU
   have HBU:=YJ ((hU.block _ (ah HB.out)).trans HB.out)
   have hbk:U.heap[V.heap.size]? =some (.cells #[.slice (some ⟨gb,goff,none⟩) gn gc, .slice (some ⟨ob,ooff,none⟩) on oc] 49 (0,0)):=by rw[←HU.out];exact ai rfl
   have hcat:=YJ (Qb U V.heap.size 0 2 [g.map (Value.int .i64),o.map (Value.int .i64)] (fun i hi=>by
    rcases(by simp at hi;omega:i=0∨i=1)with rfl|rfl
    ·exact⟨_,(ag hbk 0).trans rfl,pA (hgi'.below hWU) hgn⟩
    ·exact⟨_,(ag hbk 1).trans rfl,pA (hoi'.below hWU) hon⟩) (by simp) (by simp) (by
    intro cs hcs
    simp only[alsk,List.not_mem_nil,or_false]at hcs
    rcases hcs with rfl|rfl
    ·exact ss g
    ·exact ss o) (by simp;omega))
   have HE:Hid ([g.map (Value.int .i64),o.map (Value.int .i64)].flatten=(g++o).map (Value.int .i64)):=YJ (by simp)
   have hVs:V.heap.size=W.heap.size+1:=by rw[←HV.out];simp
   rw[HE.out,hVs]at hcat
   have Hlen:Hid ((g++o).length=gn+on):=YJ (by rw[qaE,hgn,hon])
   have hlg:gn≤1000:=by omega
   have hlo:on≤1000:=by omega
   have H2':=YJ (H2.out hg0 ho0)
   have H8':=YJ (H8.out hg0 ho0)
   have H0':=YJ (H0.out hg0 ho0)
   obtain⟨b0,b1,b2,b3,b4,bf,bz⟩:=bM HB.out
   generalize g++o=xs at*
   clear hgi hoi hgi' hoi' H13 H2 H8 H0 HE hbk hl hl2
   go_enter Tryz.func88,Tryz.ntmps88
   go_wp2_with fail
   try rw[HV.out]
   try rw[HU.out]
   refine(hcat.out).mono ?_
   rintro e w1 ⟨r,m,rfl,hb1,hown⟩
   have hw1:Below W.heap.size W w1:=fB hWU hb1
   have HB1:=YJ ((hb1.block _ (ah HBU.out)).trans HBU.out)
   obtain⟨rfl,q,cap,cur,rfl,hq,hcur⟩:=vl hown (by rw[Hlen.out];omega)
   have hcs:xs.length≤cap:=by
    rcases hown.2 with⟨h,_⟩|⟨_,_,_,h,_,_,h2,_⟩
    ·cases h
    ·cases h;exact h2
   have HQ:=YJ hq
   have HC:=YJ hcur
   have Hat:Hid (∀i (h:i<xs.length),xs[i]<0∨99<xs[i]→xs.any (fun n=>decide (n<0∨99<n))=true):=YJ (fun i hi h=>ultj.2 ⟨_,qaB hi,qfX h⟩)
   have Haf:Hid ((∀i (h:i<xs.length),¬(xs[i]<0∨99<xs[i]))→xs.any (fun n=>decide (n<0∨99<n))=false):=YJ (fun h=>by
    rw[ultp]
    intro v hv
    obtain⟨i,hi,rfl⟩:=qaJ hv
    simpa using h i hi)
   generalize(xs.any fun n=>decide (n<0∨99<n))=an at*
   obtain⟨N,HN⟩:∃N,Hid (xs.length=N):=⟨_,YJ rfl⟩
   rw[HN.out]at hcs ⊢
   have hN2:N≤2000:=by have:=Hlen.out;have:=HN.out;omega
   clear hown hq hcur hcat hb1 HB HBU b0 b1 b2 b3 b4 bf bz
   go_wp2
   go_loopw [22] (fun i wr=>∃k:Nat,k≤N∧i= .int .i64 k∧wr=w1∧Hid (∀j (h:j<xs.length),j<k→¬(xs[j]<0∨99<xs[j]))) (fun i _=>N-(intOf i).toNat)
   case atStart=>exact⟨0,by omega,rfl,rfl,YJ (fun j _ h=>by omega)⟩
   case round=>
    obtain⟨k,hk,rfl,rfl,Hd⟩:=hrel
    by_cases hlt:k<N
    ·have g1:(k:Int)<(N:Int):=by omega
     have hkl:k<xs.length:=by have:=HN.out;omega
     have cj:=(ag HQ.out k).trans (HC.out k hkl)
     have zg:=ah HQ.out
     have Hbad:=YJ (Hat.out k hkl)
     have Hst:Hid (¬(xs[k]<0∨99<xs[k])→∀j (h:j<xs.length),j<k+1→¬(xs[j]<0∨99<xs[j])):=YJ (fun h j hj hji=>by
      by_cases e:j=k
      ·subst e;exact h
      ·exact Hd.out j hj (by omega))
     clear HC Hat Haf Hd
     generalize xs[k]=n at*
     by_cases h1:n<0
     ·have HT:=YJ (H2'.out (Hbad.out (.inl h1)))
      clear Hbad Hst
      go_wp2
      go_ret
      exact⟨aK HT.out.symm,hw1⟩
     ·by_cases h2:99<n
      ·have HT:=YJ (H2'.out (Hbad.out (.inr h2)))
       clear Hbad Hst
       go_wp2
       go_ret
       exact⟨aK HT.out.symm,hw1⟩
      ·have HT:=YJ (Hst.out (by omega))
       clear Hbad Hst
       go_wp2
       go_roundw
       case rel=>exact⟨k+1,by omega,by go_num,by first|trivial|rfl,HT⟩
       simp[intOf];try omega
    ·obtain rfl:k=N:=by omega
     have HF:=YJ (Haf.out (fun i hi=>Hd.out i hi (by have:=HN.out;omega)))
     obtain⟨b0,b1,b2,b3,b4,bf,bz⟩:=bM HB1.out
     clear Hat Haf Hd HC H2'
     by_cases hg12:12<gn
     ·have HT:=YJ (H8'.out HF.out (.inl hg12))
      have g3:(12:Int)<(gn:Int):=by omega
      clear H8' H0' HF
      go_wp2
      go_ret
      exact⟨aK HT.out.symm,hw1⟩
     ·have g3:¬(12:Int)<(gn:Int):=by omega
      by_cases ho12:12<on
      ·have HT:=YJ (H8'.out HF.out (.inr ho12))
       have g4:(12:Int)<(on:Int):=by omega
       clear H8' H0' HF
       go_wp2
       go_ret
       exact⟨aK HT.out.symm,hw1⟩
      ·have g4:¬(12:Int)<(on:Int):=by omega
       have HT:=YJ (H0'.out HF.out (by omega))
       clear H8' H0' HF
       go_wp2_with fail
       refine((HCW _).out).mono ?_
       rintro e w2 ⟨rfl,hb2⟩
       go_wp2
       go_ret
       exact⟨aK HT.out.symm,fB hw1 hb2⟩
abbrev Spl:=List Int×List Int×Q3
def fb (v:Q3):Nat→List UInt8
 |0=>[]
 |1=>32::Lib.itoa v.1
 |2=>32::Lib.itoa v.1++32::Lib.itoa v.2.1
 |_=>32::Lib.itoa v.1++32::Lib.itoa v.2.1++32::Lib.itoa v.2.2
def Rh (s:Spl):List UInt8:=GL s.1++[32]++GL s.2.1++fb s.2.2 3++[10]
def DF (s:Spl):Int:=Ce s.1 s.2.1 s.2.2
def sL:List Spl→Int
 | []=>0
 |s::l=>if DF s=0 then sL l else DF s
theorem Gr (ps:List Spl) (k:Nat) (hk:k<ps.length) (h:∀i (hi:i<ps.length),i<k→DF ps[i]=0) (hx:DF ps[k]≠0):sL ps=DF ps[k]:=by
 induction ps generalizing k with
 |nil=>simp at hk
 |cons p ps ih=>
  cases k with
  |zero=>simp only[qdt]at hx;simp[sL,hx]
  |succ k=>
   have h0:=h 0 (by simp) (by omega)
   simp only[qdt]at h0
   simp only[sL,h0,if_true,List.getElem_cons_succ]
   exact ih k (by simpa using hk) (fun i hi hik=>by have:=h (i+1) (by simpa using hi) (by omega);simpa using this) (by simpa using hx)
theorem Ft (ps:List Spl) (h:∀i (hi:i<ps.length),DF ps[i]=0):sL ps=0:=by
 induction ps with
 |nil=>rfl
 |cons p ps ih=>
  have h0:=h 0 (by simp)
  simp only[qdt]at h0
  simp only[sL,h0,if_true]
  exact ih (fun i hi=>by have:=h (i+1) (by simpa using hi);simpa using this)
def CE (ps:List Spl):Int:=if 100<ps.length then 8 else sL ps
def Ep (ps:List Spl):List UInt8:=if CE ps=0 then ps.flatMap Rh else []
def Kj (w:World) (v:Value) (ps:List Spl):Prop:=∃a n c,v= .slice a n c∧ps.length=n∧n≤c∧
 (0<n→∃g off,a=some ⟨g,off,none⟩∧∀i (h:i<ps.length),∃p q,w.cell? ⟨g,off+i*5,none⟩=some p∧w.cell? ⟨g,off+i*5+1,none⟩=some q∧
  w.cell? ⟨g,off+i*5+2,none⟩=some (.int .i64 ps[i].2.2.1)∧w.cell? ⟨g,off+i*5+3,none⟩=some (.int .i64 ps[i].2.2.2.1)∧w.cell? ⟨g,off+i*5+4,none⟩=some (.int .i64 ps[i].2.2.2.2)∧Ints w p ps[i].1∧Ints w q ps[i].2.1)
theorem Lp {g o:List Int} {v:Q3} (h:Ce g o v=0):(∀x∈g,0≤x∧x≤99)∧(∀x∈o,0≤x∧x≤99)∧g.length≤12∧o.length≤12∧Cj v:=by
 unfold Ce at h
 split at h
 ·cases h
 ·split at h
  ·cases h
  ·rename_i h2
   split at h
   ·cases h
   ·have h3:∀x∈g++o,0≤x∧x≤99:=fun x hx=>by
     have h2':(g++o).any (fun n=>decide (n<0∨99<n))=false:=(Bool.not_eq_true _).mp h2
     have:=ultp.1 h2' x hx
     simp only[qfV]at this
     omega
    exact⟨fun x hx=>h3 x (by simp[hx]),fun x hx=>h3 x (by simp[hx]),by omega,by omega,BN h⟩
theorem Cp (x y:List UInt8) (hx:x.length≤8000000) (hy:y.length≤8000000) (w:World):(Op.stringOp .add ⟨x.toArray⟩ ⟨y.toArray⟩).run Tryz.prog w= .ok (.string ⟨(x++y).toArray⟩) w:=
 Go.run_string_add_lists w x y (by omega) (by omega)
theorem ek {x:Int} (h: -1≤x∧x≤1):(Lib.itoa x).length≤21:=Lib.itoa_length_le x (by omega) (by omega)
theorem Kk {v:Q3} (h:Cj v) (k:Nat):(fb v k).length≤66:=by
 have h1:=ek h.1
 have h2:=ek h.2.1
 have h3:=ek h.2.2
 match k with
 |0=>simp[fb]
 |1=>simp[fb];omega
 |2=>simp[fb];omega
 |n+3=>simp[fb];omega
theorem xd {B b:Nat} {bs:List Value} {w w':World} (h:vm B b bs w) (hb:Below w.heap.size w w'):vm B b bs w':=by
 rcases h with⟨h1,v,h2,h3,h4⟩|⟨h1,v,h2,h3,h4⟩
 ·exact .inl ⟨h1,v,(hb.block _ (ah h2)).trans h2,au h3 hb,h4⟩
 ·exact .inr ⟨h1,v,(hb.block _ (ah h2)).trans h2,au h3 hb,h4⟩
theorem Lr {B b:Nat} {bs:List Value} {w:World} (h:vm B b bs w):b<w.heap.size:=by
 rcases h with⟨_,v,h2,_,_⟩|⟨_,v,h2,_,_⟩<;>exact ah h2
theorem IA (ps:List Spl) (v:Value) (W:World) (hl:∀s∈ps,s.1.length≤1000∧s.2.1.length≤1000) (hv:Kj W v ps) (htab:Lib.TabIs Tryz.prog W "internal/strconv.uint64pow10" .u64 Lib.pow10Tab):
  Calls Tryz.prog 44 #[v] W (Ret W (.tuple #[.string ⟨(Ep ps).toArray⟩, .int .i64 (CE ps)])):=by
 have H100:Hid (100<ps.length→CE ps=8∧Ep ps=[]):=YJ (fun h=>by
  have:CE ps=8:=by unfold CE;rw[if_pos h]
  exact⟨this,by unfold Ep;rw[this];rfl⟩)
 have Hbad:Hid (ps.length≤100→sL ps≠0→CE ps=sL ps∧Ep ps=[]):=YJ (fun h h0=>by
  have:CE ps=sL ps:=by unfold CE;rw[if_neg (by omega)]
  exact⟨this,by unfold Ep;rw[if_neg (by rw[this];exact h0)]⟩)
 have Hok:Hid (ps.length≤100→sL ps=0→CE ps=0∧Ep ps=ps.flatMap Rh):=YJ (fun h h0=>by
  have:CE ps=0:=by unfold CE;rw[if_neg (by omega),h0]
  exact⟨this,by unfold Ep;rw[if_pos this]⟩)
 have Hh:=YJ (Gr ps)
 have Hn:=YJ (Ft ps)
 have HL:=fun i (h:i<ps.length)=>YJ (hl _ (qaB h))
 have HS:=fun i (h:i<ps.length)=>YJ (show(ps.take (i+1)).flatMap Rh=(ps.take i).flatMap Rh++Rh ps[i] by rw[qaI h,qgj];simp)
 obtain⟨a,n,c,rfl,hn,hnc,hi⟩:=hv
 have HX:=YJ hi
 have HN:=YJ hn
 have HT:=YJ htab
 have HE:Hid ((ps.take n).flatMap Rh=ps.flatMap Rh):=YJ (by rw[qaK (by omega)])
 obtain⟨re,HRE⟩:∃re,Hid (CE ps=re):=⟨_,YJ rfl⟩
 obtain⟨rb,HRB⟩:∃rb,Hid (Ep ps=rb):=⟨_,YJ rfl⟩
 rw[HRE.out,HRB.out]at H100 Hbad Hok
 rw[HRE.out,HRB.out]
 clear hi hn hl htab HRE HRB
 go_enter Tryz.func44,Tryz.ntmps44
 by_cases hl100:100<n
 ·have g0:(100:Int)<(n:Int):=by omega
  obtain⟨rfl,rfl⟩:=H100.out (by have:=HN.out;omega)
  go_wp2
  go_ret2
  exact⟨rfl,bel⟩
 ·have g0:¬(100:Int)<(n:Int):=by omega
  have hps:ps.length≤100:=by have:=HN.out;omega
  have Hbad':=YJ (Hbad.out hps)
  have Hok':=YJ (Hok.out hps)
  clear H100 Hbad Hok hps
  have hB0:vm W.heap.size W.heap.size (Lib.byteCells []) (W.alloc (.cells #[.pointer none, .slice none 0 0] 154)):= .inl ⟨qaA _,_,ai rfl,qds _ _ _ _,by simp[Value.ownBlock]⟩
  have HB0:=YJ hB0
  clear hB0
  go_wp2
  go_loopw [15] (fun x wr=>∃k:Nat,k≤n∧x= .int .i64 k∧Below W.heap.size W wr∧Hid (vm W.heap.size W.heap.size (Lib.byteCells ((ps.take k).flatMap Rh)) wr)∧Hid (∀j (h:j<ps.length),j<k→DF ps[j]=0)∧Hid (((ps.take k).flatMap Rh).length≤k*1000)) (fun x _=>n-(intOf x).toNat)
  case atStart=>exact⟨0,by omega,rfl,bel,HB0,YJ (fun j _ h=>by omega),YJ (by simp)⟩
  case round=>
   clear HB0
   obtain⟨k,hk,rfl,hb,HBu,Hd,HLn⟩:=hrel
   have hbl:=Lr HBu.out
   by_cases hlt:k<n
   ·have g1:(k:Int)<(n:Int):=by omega
    have g2:(0:Int)≤(k:Int):=by omega
    have hil:k<ps.length:=by have:=HN.out;omega
    obtain⟨b,off,rfl,hi4⟩:=HX.out (by omega)
    obtain⟨gv,ov,e0,e1,e2,e3,e4,hg,ho⟩:=hi4 k hil
    have e0:=ab hb e0
    have e1:=ab hb e1
    have e2:=ab hb e2
    have e3:=ab hb e3
    have e4:=ab hb e4
    have ze:=qaC wr _ e0
    simp only at ze
    have HG:=YJ (hg.below hb)
    have HO:=YJ (ho.below hb)
    have HEk:=YJ (Hh.out k hil Hd.out)
    have Hst:Hid (DF ps[k]=0→∀j (h:j<ps.length),j<k+1→DF ps[j]=0):=YJ (fun h j hj hji=>by
     by_cases e:j=k
     ·subst e;exact h
     ·exact Hd.out j hj (by omega))
    have HSk:=YJ ((HS k hil).out)
    have hLk:=(HL k hil).out
    clear hi4 HX HL Hd Hh HS HE
    generalize ps[k]=s at*
    obtain⟨g,o,x,y,z⟩:=s
    simp only at e2 e3 e4 HG HO hLk hg ho
    have HCT:=fun W' (hW':Below wr.heap.size wr W')=>YJ (DE g o gv ov x y z W' (HG.out.below hW') (HO.out.below hW') hLk.1 hLk.2)
    have Hte:Hid (DF (g,o,(x,y,z))=Ce g o (x,y,z)):=YJ rfl
    rw[Hte.out]at HEk Hst
    have Hin:=YJ (@Lp g o (x,y,z))
    obtain⟨L,HLL⟩:∃L,Hid ((ps.take k).flatMap Rh=L):=⟨_,YJ rfl⟩
    rw[HLL.out]at HBu HLn HSk
    clear HLL Hte
    obtain⟨ga,gn,gc,rfl, -⟩:=hg
    obtain⟨oa,on,oc,rfl, -⟩:=ho
    generalize Ce g o (x,y,z)=te at*
    go_wp2_with fail
    refine((HCT _ bel).out).mono ?_
    rintro e w1 ⟨rfl,hb1⟩
    have hbw1:Below wr.heap.size wr w1:=fB bel hb1
    have HS1:Hid (w1.heap[wr.heap.size]? =some (.cells #[.slice ga gn gc, .slice oa on oc, .int .i64 x, .int .i64 y, .int .i64 z] 60 (0,0))):=YJ ((hb1.block _ (by simp)).trans (ai rfl))
    have hw1:=fB hb hbw1
    clear HCT e0 e1 e2 e3 e4 ze hb1
    by_cases h0:te=0
    ·subst h0
     have HD2:=YJ (Hst.out rfl)
     obtain⟨hg99,ho99,hg12,ho12,hwy⟩:=Hin.out rfl
     have HCG:=fun W' (hW':Below wr.heap.size wr W')=>YJ (Dv g (.slice ga gn gc) W' (fun x h=>by have:=hg99 x h;omega) (by omega) (HG.out.below hW') (kl HT.out (fB hb hW')))
     have HCO:=fun W' (hW':Below wr.heap.size wr W')=>YJ (Dv o (.slice oa on oc) W' (fun x h=>by have:=ho99 x h;omega) (by omega) (HO.out.below hW') (kl HT.out (fB hb hW')))
     have lg:=CD g (fun x h=>by have:=hg99 x h;omega)
     have lo:=CD o (fun x h=>by have:=ho99 x h;omega)
     have HWL:=YJ (fun k=>Kk hwy k)
     have HLine:Hid (Rh (g,o,(x,y,z))=GL g++[32]++GL o++fb (x,y,z) 3++[10]):=YJ rfl
     generalize GL g=G at*
     generalize GL o=O at*
     have add1:=fun W'=>Cp G [32] (by omega) (by simp) W'
     have add2:=fun W'=>Cp (G++[32]) O (by simp;omega) (by omega) W'
     have HWG:=fun W' h h2=>YJ (qfd W.heap.size W.heap.size L (G++32::O) W' h (by have:=HLn.out;simp;omega) h2)
     have hGO:(G++32::O).length≤600:=by simp;omega
     obtain⟨s0,s1,s2,s3,s4,sf,sz⟩:=bM HS1.out
     obtain⟨wx,Hwx⟩:∃wx,Hid (w1=wx):=⟨_,YJ rfl⟩
     have hS2:([32]:List UInt8).toArray=#[32]:=rfl
     rw[hS2]at add1
     go_wp2
     apply aj [] [0,1,2,3,4,5,6,7] 8 [] [sv _,sv _,sv _,sv _,sv _,sv _,sv _,sv _] (by kernel_rfl) (by kernel_rfl)
     iterate 2 ((try go_frame);refine wkQ ?_)
     try go_frame
     refine wkV ?_
     apply ex3
     ·intro u K hK
      go_simp
      refine((HCG _ (fB hbw1 u.below)).out).mono ?_
      rintro e w9 ⟨rfl,hb9⟩
      exact hK _ hb9
     rfl
     iterate 3 ((try go_frame);refine wkQ ?_)
     try go_frame
     refine wkV ?_
     apply ex3
     ·intro u K hK
      go_simp
      refine((HCO _ (fB hbw1 u.below)).out).mono ?_
      rintro e w9 ⟨rfl,hb9⟩
      exact hK _ hb9
     rfl
     ((try go_frame);refine wkQ ?_)
     try go_frame
     refine aI (fun u hR=> ?_)
     have hbu:Below wr.heap.size wr u.val:=fB hbw1 u.below
     have hWu:Below W.heap.size W u.val:=fB hb hbu
     have HSu:=YJ ((u.below.block _ (ah HS1.out)).trans HS1.out)
     have HBu2:=YJ (xd HBu.out hbu)
     clear hR HCG HCO HS1 s0 s1 s2 s3 s4 sf sz add1 add2 HBu
     generalize u.val=w2 at*
     clear u
     simp only[oas]
     have HX2:=YJ ((HWG w2 HBu2.out hWu.size).out)
     go_wp2_with fail
     refine((HX2.out)).mono ?_
     rintro e w3 ⟨rfl,hB3,hb3,hk3⟩
     have hw3:Below W.heap.size W w3:=hWu.trans hb3
     have HS3:=YJ (hk3 _ _ _ (by omega) (by decide) HSu.out)
     have HB3:=YJ hB3
     clear HX2 HWG hB3 HSu HBu2
     obtain⟨s0,s1,s2,s3,s4,sf,sz⟩:=bM HS3.out
     have HBu:Hid (vm W.heap.size W.heap.size (Lib.byteCells (L++(G++32::O)++fb (x,y,z) 0)) w3):=YJ (by simpa [fb]using HB3.out)
     have hLL:(L++(G++32::O)).length≤k*1000+600:=by have:=HLn.out;rw[qaE];omega
     have hNx:Hid (Rh (g,o,(x,y,z))=(G++32::O)++fb (x,y,z) 3++[10]):=YJ (by rw[HLine.out];simp)
     generalize hLG:L++(G++32::O)=LG at*
     have HLG:=YJ hLG
     clear hLG HB3 HLine
     go_wp2
     refine NoPanic.normal ?_
     go_wp2
     have i0:=qD (.int .i64 x) (.int .i64 y) (.int .i64 z)
     have i1:=qE (.int .i64 x) (.int .i64 y) (.int .i64 z)
     have i2:=qF (.int .i64 x) (.int .i64 y) (.int .i64 z)
     go_loopw [43] (fun j wr=>∃m:Nat,m≤3∧j= .int .i64 m∧Below W.heap.size W wr∧Hid (vm W.heap.size W.heap.size (Lib.byteCells (LG++fb (x,y,z) m)) wr)) (fun j _=>3-(intOf j).toNat)
     case atStart=>exact⟨0,by omega,rfl,hw3,HBu⟩
     case round=>
      clear hw3 HBu s0 s1 s2 s3 s4 sf sz hw1 hbw1 hbu hWu hb hk3 hb3
      obtain⟨m,hm,rfl,hb,HBu⟩:=hrel
      rcases(by omega:m=0∨m=1∨m=2∨m=3)with rfl|rfl|rfl|rfl
      ·have HI:=YJ (vi x (by have:=hwy;unfold Cj at this;simp only at this;omega) wr (kl HT.out (Below.mono hb (qaA _))))
       have HAd:=YJ (fun W'=>Cp [32] (Lib.itoa x) (by simp) (by have:=ek (x:=x) (by have:=hwy;unfold Cj at this;simp only at this;omega);omega) W')
       have hil:=ek (x:=x) (by have:=hwy;unfold Cj at this;simp only at this;omega)
       have hwl:=(HWL.out 0)
       have HWk:Hid (fb (x,y,z) 1=fb (x,y,z) 0++([32]++Lib.itoa x)):=YJ (by simp[fb])
       have HWS:=fun W' h h2=>YJ (qfd W.heap.size W.heap.size (LG++fb (x,y,z) 0) ([32]++Lib.itoa x) W' h (by simp only[qaE,qdn,List.length_nil];omega) h2)
       obtain⟨T,HTx⟩:∃T,Hid (Lib.itoa x=T):=⟨_,YJ rfl⟩
       rw[HTx.out]at HI HWk
       have had:∀W':World,(Op.stringOp .add ⟨#[32]⟩ ⟨T.toArray⟩).run Tryz.prog W'= .ok (.string ⟨([32]++T).toArray⟩) W':=fun W'=>by rw[←HTx.out];exact HAd.out W'
       have HWS':=fun W' h h2=>YJ (show Calls Tryz.prog 89 #[.pointer (some ⟨W.heap.size,0,none⟩), .string ⟨([32]++T).toArray⟩] W' (fun e w'=>e= .returned (.tuple #[.int .i64 (⟨([32]++T).toArray⟩:ByteArray).size, .nilIface])∧(vm W.heap.size W.heap.size (Lib.byteCells (LG++fb (x,y,z) 0++([32]++T))) w'∧Below W.heap.size W' w'∧KeepU W.heap.size W' w')) by rw[←HTx.out];exact(HWS W' h h2).out)
       clear HAd HWS HTx
       generalize([32]++T:List UInt8)=TT at*
       go_wp2_with fail
       refine(HI.out).mono ?_
       rintro e w1 ⟨rfl,hb1⟩
       have hB1:vm W.heap.size W.heap.size (Lib.byteCells (LG++fb (x,y,z) 0)) w1:=xd HBu.out hb1
       have hw1:Below W.heap.size W w1:=fB hb hb1
       have HX1:=YJ (HWS' w1 hB1 hw1.size)
       clear HI HWS'
       go_wp2_with fail
       refine((HX1.out).out).mono ?_
       rintro e w2 ⟨rfl,hB2,hb2,hk2⟩
       have hw2:Below W.heap.size W w2:=hw1.trans hb2
       have HB2:Hid (vm W.heap.size W.heap.size (Lib.byteCells (LG++fb (x,y,z) 1)) w2):=YJ (by rw[HWk.out, ←List.append_assoc];exact hB2)
       clear HX1 hB2 had
       go_wp2
       go_roundw
       case rel=>exact⟨1,by omega,rfl,hw2,HB2⟩
       first|decide|(simp[intOf];done)
      ·have HI:=YJ (vi y (by have:=hwy;unfold Cj at this;simp only at this;omega) wr (kl HT.out (Below.mono hb (qaA _))))
       have HAd:=YJ (fun W'=>Cp [32] (Lib.itoa y) (by simp) (by have:=ek (x:=y) (by have:=hwy;unfold Cj at this;simp only at this;omega);omega) W')
       have hil:=ek (x:=y) (by have:=hwy;unfold Cj at this;simp only at this;omega)
       have hwl:=(HWL.out 1)
       have HWk:Hid (fb (x,y,z) 2=fb (x,y,z) 1++([32]++Lib.itoa y)):=YJ (by simp[fb])
       have HWS:=fun W' h h2=>YJ (qfd W.heap.size W.heap.size (LG++fb (x,y,z) 1) ([32]++Lib.itoa y) W' h (by simp only[qaE,qdn,List.length_nil];omega) h2)
       obtain⟨T,HTx⟩:∃T,Hid (Lib.itoa y=T):=⟨_,YJ rfl⟩
       rw[HTx.out]at HI HWk
       have had:∀W':World,(Op.stringOp .add ⟨#[32]⟩ ⟨T.toArray⟩).run Tryz.prog W'= .ok (.string ⟨([32]++T).toArray⟩) W':=fun W'=>by rw[←HTx.out];exact HAd.out W'
       have HWS':=fun W' h h2=>YJ (show Calls Tryz.prog 89 #[.pointer (some ⟨W.heap.size,0,none⟩), .string ⟨([32]++T).toArray⟩] W' (fun e w'=>e= .returned (.tuple #[.int .i64 (⟨([32]++T).toArray⟩:ByteArray).size, .nilIface])∧(vm W.heap.size W.heap.size (Lib.byteCells (LG++fb (x,y,z) 1++([32]++T))) w'∧Below W.heap.size W' w'∧KeepU W.heap.size W' w')) by rw[←HTx.out];exact(HWS W' h h2).out)
       clear HAd HWS HTx
       generalize([32]++T:List UInt8)=TT at*
       go_wp2_with fail
       refine(HI.out).mono ?_
       rintro e w1 ⟨rfl,hb1⟩
       have hB1:vm W.heap.size W.heap.size (Lib.byteCells (LG++fb (x,y,z) 1)) w1:=xd HBu.out hb1
       have hw1:Below W.heap.size W w1:=fB hb hb1
       have HX1:=YJ (HWS' w1 hB1 hw1.size)
       clear HI HWS'
       go_wp2_with fail
       refine((HX1.out).out).mono ?_
       rintro e w2 ⟨rfl,hB2,hb2,hk2⟩
       have hw2:Below W.heap.size W w2:=hw1.trans hb2
       have HB2:Hid (vm W.heap.size W.heap.size (Lib.byteCells (LG++fb (x,y,z) 2)) w2):=YJ (by rw[HWk.out, ←List.append_assoc];exact hB2)
       clear HX1 hB2 had
       go_wp2
       go_roundw
       case rel=>exact⟨2,by omega,rfl,hw2,HB2⟩
       first|decide|(simp[intOf];done)
      ·have HI:=YJ (vi z (by have:=hwy;unfold Cj at this;simp only at this;omega) wr (kl HT.out (Below.mono hb (qaA _))))
       have HAd:=YJ (fun W'=>Cp [32] (Lib.itoa z) (by simp) (by have:=ek (x:=z) (by have:=hwy;unfold Cj at this;simp only at this;omega);omega) W')
       have hil:=ek (x:=z) (by have:=hwy;unfold Cj at this;simp only at this;omega)
       have hwl:=(HWL.out 2)
       have HWk:Hid (fb (x,y,z) 3=fb (x,y,z) 2++([32]++Lib.itoa z)):=YJ (by simp[fb])
       have HWS:=fun W' h h2=>YJ (qfd W.heap.size W.heap.size (LG++fb (x,y,z) 2) ([32]++Lib.itoa z) W' h (by simp only[qaE,qdn,List.length_nil];omega) h2)
       obtain⟨T,HTx⟩:∃T,Hid (Lib.itoa z=T):=⟨_,YJ rfl⟩
       rw[HTx.out]at HI HWk
       have had:∀W':World,(Op.stringOp .add ⟨#[32]⟩ ⟨T.toArray⟩).run Tryz.prog W'= .ok (.string ⟨([32]++T).toArray⟩) W':=fun W'=>by rw[←HTx.out];exact HAd.out W'
       have HWS':=fun W' h h2=>YJ (show Calls Tryz.prog 89 #[.pointer (some ⟨W.heap.size,0,none⟩), .string ⟨([32]++T).toArray⟩] W' (fun e w'=>e= .returned (.tuple #[.int .i64 (⟨([32]++T).toArray⟩:ByteArray).size, .nilIface])∧(vm W.heap.size W.heap.size (Lib.byteCells (LG++fb (x,y,z) 2++([32]++T))) w'∧Below W.heap.size W' w'∧KeepU W.heap.size W' w')) by rw[←HTx.out];exact(HWS W' h h2).out)
       clear HAd HWS HTx
       generalize([32]++T:List UInt8)=TT at*
       go_wp2_with fail
       refine(HI.out).mono ?_
       rintro e w1 ⟨rfl,hb1⟩
       have hB1:vm W.heap.size W.heap.size (Lib.byteCells (LG++fb (x,y,z) 2)) w1:=xd HBu.out hb1
       have hw1:Below W.heap.size W w1:=fB hb hb1
       have HX1:=YJ (HWS' w1 hB1 hw1.size)
       clear HI HWS'
       go_wp2_with fail
       refine((HX1.out).out).mono ?_
       rintro e w2 ⟨rfl,hB2,hb2,hk2⟩
       have hw2:Below W.heap.size W w2:=hw1.trans hb2
       have HB2:Hid (vm W.heap.size W.heap.size (Lib.byteCells (LG++fb (x,y,z) 3)) w2):=YJ (by rw[HWk.out, ←List.append_assoc];exact hB2)
       clear HX1 hB2 had
       go_wp2
       go_roundw
       case rel=>exact⟨3,by omega,rfl,hw2,HB2⟩
       first|decide|(simp[intOf];done)
      ·have HWB:=YJ (Iz W.heap.size W.heap.size (Lib.byteCells (LG++fb (x,y,z) 3)) 10 wr HBu.out (by rw[Lib.byteCells_length,qaE];have:=HWL.out 3;omega) hb.size)
       have HL2:Hid ((ps.take (k+1)).flatMap Rh=LG++fb (x,y,z) 3++[10]):=YJ (by rw[HSk.out,hNx.out, ←HLG.out];simp)
       have hw3l:=HWL.out 3
       clear i0 i1 i2
       go_wp2_with fail
       refine(HWB.out).mono ?_
       rintro e w4 ⟨rfl,hB4,hb4, -⟩
       have hw4:Below W.heap.size W w4:=hb.trans hb4
       have HB4:Hid (vm W.heap.size W.heap.size (Lib.byteCells ((ps.take (k+1)).flatMap Rh)) w4):=YJ (by
        rw[HL2.out,ws]
        exact .inr hB4)
       have HLn2:Hid (((ps.take (k+1)).flatMap Rh).length≤(k+1)*1000):=YJ (by rw[HL2.out,qaE,qaE];simp only[qdn,List.length_nil];omega)
       clear HWB hB4 hb4 HL2
       go_wp2
       go_roundw
       case rel=>exact⟨k+1,by omega,by go_num,hw4,HB4,HD2,HLn2⟩
       simp[intOf];try omega
    ·have h0':(te !=0)=true:=by simpa using h0
     obtain⟨e1,e2⟩:=Hbad'.out (by rw[HEk.out h0];exact h0)
     rw[HEk.out h0]at e1
     subst e1
     subst e2
     clear Hst HEk Hin
     go_wp2
     go_ret2
     exact⟨rfl,hw1⟩
   ·obtain rfl:k=n:=by omega
    have HT0:=YJ (Hn.out (fun j h=>Hd.out j h (by have:=HN.out;omega)))
    obtain⟨e1,e2⟩:=Hok'.out HT0.out
    rw[←HE.out]at e2
    have HSt:=YJ (Tryz.Builder_String_any W.heap.size W.heap.size ((ps.take k).flatMap Rh) wr HBu.out hb.size)
    rw[←e2]at HSt
    clear HX HL HS HE Hd Hh Hn HBu HLn
    subst e1
    clear e2
    go_wp2_with fail
    refine(HSt.out).mono ?_
    rintro e w2 ⟨rfl,hb2⟩
    go_wp2
    go_ret2
    exact⟨rfl,hb.trans hb2⟩
def exA:List (List Q4):=[CV 0 0 0 2 2 2]
def exB:List (List Q4):=[CV 2 0 0 4 2 2]
def exL:List (List (List Q4)):=[exA,exB]
theorem Dw (cs:List Q4):ed cs=msF (fun x y=> !decide (iO y x<0)) cs.length cs:=lL _ _ _ (qaA _)
theorem Er:Tv exA=0:=by
 simp only[Tv,exA,lr,bK,aS,Dw]
 kernel_rfl
theorem Es:Tv exB=0:=by
 simp only[Tv,exB,lr,bK,aS,Dw]
 kernel_rfl
theorem Lt:blE exA exB (1,1,0)=0:=by unfold blE;rw[if_pos Er,if_pos Es];rfl
theorem Lu:blE exA exB (0,1,0)=0:=by unfold blE;rw[if_pos Er,if_pos Es];rfl
theorem Mk:KZ exA exB (1,1,0)=true:=by kernel_rfl
theorem Ml:KZ exA exB (0,1,0)=false:=by kernel_rfl
theorem Kl:cy exA exB=false:=by
 simp only[cy,exA,exB,clB,aS,Dw]
 kernel_rfl
theorem MI:eB exL=0:=by
 have h1:nb exA=0:=by unfold nb;rw[if_pos Er];rfl
 have h2:nb exB=0:=by unfold nb;rw[if_pos Es];rfl
 have h3:cx exL=0:=by simp[exL,cx,h1,h2]
 have h4:mx exL=false:=by
  show((List.range 2).any fun i=>(List.range i).any fun k=>cy (exL.getD k []) (exL.getD i []))=false
  simp only[List.range,List.range.loop,List.any_cons,List.any_nil,Bool.or_false,Bool.false_or]
  exact Kl
 unfold eB
 rw[if_neg (by decide),if_pos h3,h4]
 rfl
theorem Mm:gh [0,1] 2=0:=by kernel_rfl
theorem Mn:fsE exL [0,1]=0:=by unfold fsE;rw[if_pos MI];exact Mm
theorem Fu:fsA exL [0,1]=some ((-1, -1, -1),1):=by kernel_rfl
theorem Lv:nr [0,1]=3:=by kernel_rfl
theorem Mo:lf 3=[0,1]:=by kernel_rfl
theorem Mp:lf 1=[0]:=by kernel_rfl
theorem Lw:CE [([0,1],[0],(-1, -1, -1))]=0:=by kernel_rfl
theorem Lx:Ep [([0,1],[0],(-1, -1, -1))]=[48,44,49,32,48,32,45,49,32,45,49,32,45,49,10]:=by kernel_rfl
end
section
open Go.RowKit Go.Shelf Go.Lib
set_option maxRecDepth 100000
attribute [local go_sem] Ext.cell Ext.frozen
theorem Fv {W:World} {T:TypeId} (xs:List Int) {g:Nat} (hg:g=W.heap.size):Ints (W.alloc (.cells (xs.map (Value.int .i64)).toArray T)) (.slice (some ⟨g,0,none⟩) xs.length xs.length) xs:=
 ⟨_,_,_,rfl,rfl,qaA _,fun _=>⟨g,0,rfl,fun i hi=>by
  refine(aq hg _).trans ?_
  simp[hi]⟩⟩
theorem Km {w:World} {g:Nat} {v:Value} {ps:List Q4} (h0:w.cell? ⟨g,0,none⟩=some v) (h:Q4s w v ps):SolV w (.slice (some ⟨g,0,none⟩) 1 1) [ps]:=
 ⟨_,_,_,rfl,rfl,qaA _,fun _=>⟨g,0,rfl,fun i hi=>by
  have:i=0:=by simpa using hi
  subst this
  exact⟨v,h0,h⟩⟩⟩
theorem Fw {w:World} {v:Value} {xs:List Q4} {g:Nat} {a:Value} {T:TypeId} (h:Q4s w v xs) (hg:w.heap[g]? =some (.cells #[a] T (0,0))) (ha:∀i,a≠ .int .i64 i) (o:Nat) (u:Value):Q4s (w.setCell ⟨g,o,none⟩ u) v xs:=by
 obtain⟨ad,n,c,e,hn,hc,hx⟩:=h
 refine⟨ad,n,c,e,hn,hc,fun h0=> ?_⟩
 obtain⟨k,off,e2,hi⟩:=hx h0
 have hbg:k≠g:=by
  rintro rfl
  have h1:=(hi 0 (by omega)).1
  rw[ag hg]at h1
  match off,h1 with
  |0,h1=>simp at h1;exact ha _ h1
  |n+1,h1=>simp at h1
 refine⟨k,off,e2,fun i hil=> ?_⟩
 obtain⟨c0,c1,c2,c3⟩:=hi i hil
 exact⟨(eW hbg).trans c0,(eW hbg).trans c1,(eW hbg).trans c2,(eW hbg).trans c3⟩
theorem IB {w:World} {v:Value} {css:List (List Q4)} {g:Nat} {T:TypeId} (h:SolV w v css) (hg:w.heap[g]? =some (.cells #[.slice none 0 0] T (0,0))) (hn:∀x∈css,0<x.length) (o:Nat) (u:Value):SolV (w.setCell ⟨g,o,none⟩ u) v css:=by
 obtain⟨ad,n,c,e,hl,hc,hx⟩:=h
 refine⟨ad,n,c,e,hl,hc,fun h0=> ?_⟩
 obtain⟨k,off,e2,hi⟩:=hx h0
 refine⟨k,off,e2,fun i hil=> ?_⟩
 obtain⟨x,hx,hq⟩:=hi i hil
 have hbg:k≠g:=by
  rintro rfl
  rw[ag hg]at hx
  match off+i,hx with
  |0,hx=>
   simp at hx
   subst hx
   obtain⟨ad',n',c',e',hn',_⟩:=hq
   cases e'
   have:=hn _ (qaB hil)
   omega
  |n+1,hx=>simp at hx
 exact⟨x,(eW hbg).trans hx,Fw hq hg (fun _ h=>by cases h) _ _⟩
theorem IC (x1 y1 z1 x2 y2 z2:Int) (W:World) (h1: -300000≤x1∧x1≤300000) (h2: -300000≤y1∧y1≤300000) (h3: -300000≤z1∧z1≤300000) (h4: -300000≤x2∧x2≤300000) (h5: -300000≤y2∧y2≤300000) (h6: -300000≤z2∧z2≤300000) (hx:x1<x2) (hy:y1<y2) (hz:z1<z2):
  Calls Tryz.prog 127 #[.agg #[.int .i64 x1, .int .i64 y1, .int .i64 z1, .int .i64 x2, .int .i64 y2, .int .i64 z2]] W (fun e w'=>∃sv,e= .returned (.tuple #[.agg #[sv], .int .i64 0])∧Below W.heap.size W w'∧SolV w' sv [CV x1 y1 z1 x2 y2 z2]):=by
 have HO:=fun W'=>YJ (Gq x1 y1 z1 x2 y2 z2 W' h1 h2 h3 h4 h5 h6)
 have HR:=fun W' v (h:Ints W' v [x1,y1,z1,x2,y2,z2])=>YJ (Lo [x1,y1,z1,x2,y2,z2] v W' (by simp;omega) (by simp) h)
 have HI:Hid (Ints (((W.alloc (.cells #[.int .i64 x1, .int .i64 y1, .int .i64 z1, .int .i64 x2, .int .i64 y2, .int .i64 z2] 148)).alloc (.cells #[.slice none 0 0] 81)).alloc (.cells #[.int .i64 x1, .int .i64 y1, .int .i64 z1, .int .i64 x2, .int .i64 y2, .int .i64 z2] 3)) (.slice (some ⟨W.heap.size+1+1,0,none⟩) 6 6) [x1,y1,z1,x2,y2,z2]):=YJ (Fv (T:=3) [x1,y1,z1,x2,y2,z2] (by simp))
 obtain⟨V,HV⟩:∃V,Hid (((W.alloc (.cells #[.int .i64 x1, .int .i64 y1, .int .i64 z1, .int .i64 x2, .int .i64 y2, .int .i64 z2] 148)).alloc (.cells #[.slice none 0 0] 81)).alloc (.cells #[.int .i64 x1, .int .i64 y1, .int .i64 z1, .int .i64 x2, .int .i64 y2, .int .i64 z2] 3)=V):=⟨_,YJ rfl⟩
 have hV:Below W.heap.size W V:=by rw[←HV.out];exact bel
 have HC:Hid (V.heap[W.heap.size]? =some (.cells #[.int .i64 x1, .int .i64 y1, .int .i64 z1, .int .i64 x2, .int .i64 y2, .int .i64 z2] 148 (0,0))):=YJ (by rw[←HV.out];exact(aB (by simp;omega)).trans ((aB (by simp)).trans (ai rfl)))
 have HD:Hid (V.heap[W.heap.size+1]? =some (.cells #[.slice none 0 0] 81 (0,0))):=YJ (by rw[←HV.out];exact(aB (by simp)).trans (ai (by simp)))
 rw[HV.out]at HI
 have q1:decide (x2≤x1)=false:=qfZ (by omega)
 have q2:decide (y2≤y1)=false:=qfZ (by omega)
 have q3:decide (z2≤z1)=false:=qfZ (by omega)
 have q1':¬x2≤x1:=by omega
 have q2':¬y2≤y1:=by omega
 have q3':¬z2≤z1:=by omega
 generalize CV x1 y1 z1 x2 y2 z2=B at*
 clear h1 h2 h3 h4 h5 h6 hx hy hz
 go_enter Tryz.func127,Tryz.ntmps127
 go_wp2_with fail
 rw[HV.out]
 refine((HR _ _ HI.out).out).mono ?_
 rintro e w1 ⟨rfl,hb1⟩
 have hC:=(hb1.block _ (ah HC.out)).trans HC.out
 have hD:=(hb1.block _ (ah HD.out)).trans HD.out
 have hb1':=fB hV hb1
 clear HR HI HV HC HD hb1 hV
 have c0:=(ag hC 0).trans rfl
 have c1:=(ag hC 1).trans rfl
 have c2:=(ag hC 2).trans rfl
 have c3:=(ag hC 3).trans rfl
 have c4:=(ag hC 4).trans rfl
 have c5:=(ag hC 5).trans rfl
 have cz:=ah hC
 go_wp2_with fail
 refine((HO _).out).mono ?_
 rintro e w2 ⟨pv,rfl,hb2,hq⟩
 have HQ:=YJ hq
 obtain⟨pa,pn,pc,rfl, -⟩:=hq
 have hW2:=fB hb1' (fB bel hb2)
 have hD2:=(hb2.block _ (ah hD)).trans hD
 clear c0 c1 c2 c3 c4 c5 cz hC hD HO
 have d0:=(ag hD2 0).trans rfl
 have df:=aC hD2
 have dz:=ah hD2
 have hS:=Tu hD2 0 (.slice (some ⟨w2.heap.size,0,none⟩) 1 1)
 obtain⟨Y,HY⟩:∃Y,Hid ((w2.setCell ⟨W.heap.size+1,0,none⟩ (.slice (some ⟨w2.heap.size,0,none⟩) 1 1)).alloc (.cells #[.slice pa pn pc] 167)=Y):=⟨_,YJ rfl⟩
 have hbY:Below W.heap.size W Y:=by rw[←HY.out];exact(hW2.setCell (p:=⟨W.heap.size+1,0,none⟩) (by show _≤W.heap.size+1;omega) _).alloc (by have:=hW2.size;simp;omega) _
 have hN:Y.cell? ⟨w2.heap.size,0,none⟩=some (.slice pa pn pc):=by rw[←HY.out];exact(aq (by simp) 0).trans rfl
 have hQY:Q4s Y (.slice pa pn pc) B:=by rw[←HY.out];exact(Fw HQ.out hD2 (fun _ h=>by cases h) _ _).below bel
 have hr:Y.cell? ⟨W.heap.size+1,0,none⟩=some (.slice (some ⟨w2.heap.size,0,none⟩) 1 1):=by rw[←HY.out];exact(ag ((aB (by simp;omega)).trans hS) 0).trans rfl
 go_wp2
 rw[HY.out]
 refine bodyPost_ret (v:= .tuple #[.agg #[.slice (some ⟨w2.heap.size,0,none⟩) 1 1], .int .i64 0]) (by simp[results,Tryz.results127,go_sem,hr]) rfl ⟨_,rfl,hbY,Km hN hQY⟩
theorem Ly (x1 y1 z1 x2 y2 z2:Int):∀x∈[CV x1 y1 z1 x2 y2 z2],0<x.length:=by
 intro x hx
 rw[ultg]at hx
 subst hx
 show 0<6
 omega
theorem Fx (x1 y1 z1 x2 y2 z2:Int) (W:World) (h1: -300000≤x1∧x1≤300000) (h2: -300000≤y1∧y1≤300000) (h3: -300000≤z1∧z1≤300000) (h4: -300000≤x2∧x2≤300000) (h5: -300000≤y2∧y2≤300000) (h6: -300000≤z2∧z2≤300000) (hx:x1<x2) (hy:y1<y2) (hz:z1<z2):
  Calls Tryz.prog 86 #[.agg #[.int .i64 x1, .int .i64 y1, .int .i64 z1, .int .i64 x2, .int .i64 y2, .int .i64 z2]] W (fun e w'=>∃sv,e= .returned (.agg #[sv])∧Below W.heap.size W w'∧SolV w' sv [CV x1 y1 z1 x2 y2 z2]):=by
 have HO:=fun W'=>YJ (IC x1 y1 z1 x2 y2 z2 W' h1 h2 h3 h4 h5 h6 hx hy hz)
 have hl:=Ly x1 y1 z1 x2 y2 z2
 generalize [CV x1 y1 z1 x2 y2 z2]=B at*
 clear h1 h2 h3 h4 h5 h6 hx hy hz
 obtain⟨V,HV⟩:∃V,Hid ((W.alloc (.cells #[.int .i64 x1, .int .i64 y1, .int .i64 z1, .int .i64 x2, .int .i64 y2, .int .i64 z2] 148)).alloc (.cells #[.slice none 0 0] 81)=V):=⟨_,YJ rfl⟩
 have hV:Below W.heap.size W V:=by rw[←HV.out];exact bel
 have HD:Hid (V.heap[W.heap.size+1]? =some (.cells #[.slice none 0 0] 81 (0,0))):=YJ (by rw[←HV.out];exact ai (by simp))
 go_enter Tryz.func86,Tryz.ntmps86
 go_wp2_with fail
 rw[HV.out]
 refine((HO _).out).mono ?_
 rintro e w1 ⟨sv,rfl,hb1,hs⟩
 have hD:=(hb1.block _ (ah HD.out)).trans HD.out
 have hb1':=fB hV hb1
 clear HO HV hV
 have d0:=(ag hD 0).trans rfl
 have df:=aC hD
 have dz:=ah hD
 obtain⟨sa,sn,sc,rfl,hx⟩:=id hs
 clear hx
 have HS:=YJ hs
 obtain⟨Y,HY⟩:∃Y,Hid ((w1.setCell ⟨W.heap.size+1,0,none⟩ (.slice sa sn sc)).alloc (.cells #[.slice sa sn sc] 81)=Y):=⟨_,YJ rfl⟩
 have hbY:Below W.heap.size W Y:=by rw[←HY.out];exact(hb1'.setCell (p:=⟨W.heap.size+1,0,none⟩) (by show _≤W.heap.size+1;omega) _).alloc (by have:=hb1'.size;simp;omega) _
 have hSY:SolV Y (.slice sa sn sc) B:=by rw[←HY.out];exact(IB HS.out hD hl 0 _).below bel
 have hr:Y.cell? ⟨W.heap.size+1,0,none⟩=some (.slice sa sn sc):=by rw[←HY.out];exact(ag ((aB (by simp;omega)).trans (Tu hD 0 _)) 0).trans rfl
 clear hs hD hl
 go_wp2
 rw[HY.out]
 refine bodyPost_ret (v:= .agg #[.slice sa sn sc]) (by simp[results,Tryz.results86,go_sem,hr]) rfl ⟨_,rfl,hbY,hSY⟩
def MJ (W:World) (e:Ending) (w':World):Prop:=∃g sa sb,e= .returned (.slice (some ⟨g,0,none⟩) 2 2)∧Below W.heap.size W w'∧w'.cell? ⟨g,0,none⟩=some sa∧w'.cell? ⟨g,1,none⟩=some sb∧SolV w' sa exA∧SolV w' sb exB
theorem qfo (W:World):Calls Tryz.prog 42 #[] W (MJ W):=by
 have H1:=fun W'=>YJ (Fx 0 0 0 2 2 2 W' (by decide) (by decide) (by decide) (by decide) (by decide) (by decide) (by decide) (by decide) (by decide))
 have H2:=fun W'=>YJ (Fx 2 0 0 4 2 2 W' (by decide) (by decide) (by decide) (by decide) (by decide) (by decide) (by decide) (by decide) (by decide))
 have e1: [CV 0 0 0 2 2 2]=exA:=rfl
 have e2: [CV 2 0 0 4 2 2]=exB:=rfl
 rw[e1]at H1
 rw[e2]at H2
 clear e1 e2
 go_enter Tryz.func42,Tryz.ntmps42
 go_wp2_with fail
 refine((H1 _).out).mono ?_
 rintro e w1 ⟨sa,rfl,hb1,hA⟩
 have HA:=YJ hA
 clear hA
 go_wp2_with fail
 refine((H2 _).out).mono ?_
 rintro e w2 ⟨sb,rfl,hb2,hB⟩
 have HB:=YJ hB
 clear hB H1 H2
 go_wp2
 go_ret
 exact⟨_,sa,sb,rfl,fB (fB hb1 hb2) bel,(aq rfl 0).trans rfl,(aq rfl 1).trans rfl,SolV.below HA.out (fB hb2 bel),SolV.below HB.out bel⟩
end
end Go.Proofs.YtnpmkepfpekhfaaGreatDoor
