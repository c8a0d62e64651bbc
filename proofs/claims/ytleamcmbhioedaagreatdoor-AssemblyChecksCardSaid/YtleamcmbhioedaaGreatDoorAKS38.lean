/- texts: MA. -/
import Derived.Test.YtleamcmbhioedaaGreatDoorAKS37
namespace Go.Proofs.YtleamcmbhioedaaGreatDoor
set_option maxHeartbeats 8000000
set_option linter.unusedSimpArgs false
set_option linter.unusedVariables false
section
open Go.RowKit Go.Shelf
set_option maxRecDepth 100000
attribute [local go_sem] Ext.cell Ext.frozen
abbrev Spl:=List Int×List Int×Q3
def fb (v:Q3):Nat→List UInt8
 |0=>[]
 |1=>32::Lib.itoa v.1
 |2=>32::Lib.itoa v.1++32::Lib.itoa v.2.1
 |_=>32::Lib.itoa v.1++32::Lib.itoa v.2.1++32::Lib.itoa v.2.2
def nn (s:Spl):List UInt8:=nf s.1++[32]++nf s.2.1++fb s.2.2 3++[10]
def DF (s:Spl):Int:=Ce s.1 s.2.1 s.2.2
def sL:List Spl→Int
 | []=>0
 |s::l=>if DF s=0 then sL l else DF s
theorem Gr (ps:List Spl) (k:Nat) (hk:k<ps.length) (h:∀i (hi:i<ps.length),i<k→DF ps[i]=0) (hx:DF ps[k]≠0):sL ps=DF ps[k]:=by
 induction ps generalizing k with
 |nil=>simp at hk
 |cons p ps ih=>
  cases k with
  |zero=>simp only[List.getElem_cons_zero]at hx;simp[sL,hx]
  |succ k=>
   have h0:=h 0 (by simp) (by omega)
   simp only[List.getElem_cons_zero]at h0
   simp only[sL,h0,if_true,List.getElem_cons_succ]
   exact ih k (by simpa using hk) (fun i hi hik=>by have:=h (i+1) (by simpa using hi) (by omega);simpa using this) (by simpa using hx)
theorem Ft (ps:List Spl) (h:∀i (hi:i<ps.length),DF ps[i]=0):sL ps=0:=by
 induction ps with
 |nil=>rfl
 |cons p ps ih=>
  have h0:=h 0 (by simp)
  simp only[List.getElem_cons_zero]at h0
  simp only[sL,h0,if_true]
  exact ih (fun i hi=>by have:=h (i+1) (by simpa using hi);simpa using this)
def CE (ps:List Spl):Int:=if 100<ps.length then 8 else sL ps
def Ep (ps:List Spl):List UInt8:=if CE ps=0 then ps.flatMap nn else []
def Kj (w:World) (v:Value) (ps:List Spl):Prop:=∃a n c,v= .slice a n c∧ps.length=n∧n≤c∧
 (0<n→∃g off,a=some ⟨g,off,none⟩∧∀i (h:i<ps.length),∃p q,w.cell? ⟨g,off+i*5,none⟩=some p∧w.cell? ⟨g,off+i*5+1,none⟩=some q∧
  w.cell? ⟨g,off+i*5+2,none⟩=some (.int .i64 ps[i].2.2.1)∧w.cell? ⟨g,off+i*5+3,none⟩=some (.int .i64 ps[i].2.2.2.1)∧w.cell? ⟨g,off+i*5+4,none⟩=some (.int .i64 ps[i].2.2.2.2)∧Ints w p ps[i].1∧Ints w q ps[i].2.1)
theorem Lp {g o:List Int} {v:Q3} (h:Ce g o v=0):(∀x∈g,0≤x∧x≤99)∧(∀x∈o,0≤x∧x≤99)∧g.length≤12∧o.length≤12∧Cj v:=by
 unfold Ce at h
 split at h
 ·cases h
 ·split at h
  ·cases h
  ·rename_i h2
   split at h
   ·cases h
   ·have h3:∀x∈g++o,0≤x∧x≤99:=fun x hx=>by
     have h2':(g++o).any (fun n=>decide (n<0∨99<n))=false:=(Bool.not_eq_true _).mp h2
     have:=List.any_eq_false.1 h2' x hx
     simp only[decide_eq_true_eq]at this
     omega
    exact⟨fun x hx=>h3 x (by simp[hx]),fun x hx=>h3 x (by simp[hx]),by omega,by omega,BN h⟩
theorem Cp (x y:List UInt8) (hx:x.length≤8000000) (hy:y.length≤8000000) (w:World):(Op.stringOp .add ⟨x.toArray⟩ ⟨y.toArray⟩).run Tryz.prog w= .ok (.string ⟨(x++y).toArray⟩) w:=
 Go.run_string_add_lists w x y (by omega) (by omega)
theorem ek {x:Int} (h: -1≤x∧x≤1):(Lib.itoa x).length≤21:=Lib.itoa_length_le x (by omega) (by omega)
theorem Kk {v:Q3} (h:Cj v) (k:Nat):(fb v k).length≤66:=by
 have h1:=ek h.1
 have h2:=ek h.2.1
 have h3:=ek h.2.2
 match k with
 |0=>simp[fb]
 |1=>simp[fb];omega
 |2=>simp[fb];omega
 |n+3=>simp[fb];omega
theorem xd {B b:Nat} {bs:List Value} {w w':World} (h:vm B b bs w) (hb:Below w.heap.size w w'):vm B b bs w':=by
 rcases h with⟨h1,v,h2,h3,h4⟩|⟨h1,v,h2,h3,h4⟩
 ·exact .inl ⟨h1,v,(hb.block _ (ah h2)).trans h2,au h3 hb,h4⟩
 ·exact .inr ⟨h1,v,(hb.block _ (ah h2)).trans h2,au h3 hb,h4⟩
theorem Lr {B b:Nat} {bs:List Value} {w:World} (h:vm B b bs w):b<w.heap.size:=by
 rcases h with⟨_,v,h2,_,_⟩|⟨_,v,h2,_,_⟩<;>exact ah h2
theorem IA (ps:List Spl) (v:Value) (W:World) (hl:∀s∈ps,s.1.length≤1000∧s.2.1.length≤1000) (hv:Kj W v ps) (htab:Lib.TabIs Tryz.prog W "internal/strconv.uint64pow10" .u64 Lib.pow10Tab):
  Calls Tryz.prog 23 #[v] W (Ret W (.tuple #[.string ⟨(Ep ps).toArray⟩, .int .i64 (CE ps)])):=by
 have H100:Hid (100<ps.length→CE ps=8∧Ep ps=[]):=Lib.hid (fun h=>by
  have:CE ps=8:=by unfold CE;rw[if_pos h]
  exact⟨this,by unfold Ep;rw[this];rfl⟩)
 have Hbad:Hid (ps.length≤100→sL ps≠0→CE ps=sL ps∧Ep ps=[]):=Lib.hid (fun h h0=>by
  have:CE ps=sL ps:=by unfold CE;rw[if_neg (by omega)]
  exact⟨this,by unfold Ep;rw[if_neg (by rw[this];exact h0)]⟩)
 have Hok:Hid (ps.length≤100→sL ps=0→CE ps=0∧Ep ps=ps.flatMap nn):=Lib.hid (fun h h0=>by
  have:CE ps=0:=by unfold CE;rw[if_neg (by omega),h0]
  exact⟨this,by unfold Ep;rw[if_pos this]⟩)
 have Hh:=Lib.hid (Gr ps)
 have Hn:=Lib.hid (Ft ps)
 have HL:=fun i (h:i<ps.length)=>Lib.hid (hl _ (List.getElem_mem h))
 have HS:=fun i (h:i<ps.length)=>Lib.hid (show(ps.take (i+1)).flatMap nn=(ps.take i).flatMap nn++nn ps[i] by rw[List.take_succ_eq_append_getElem h,List.flatMap_append];simp)
 obtain⟨a,n,c,rfl,hn,hnc,hi⟩:=hv
 have HX:=Lib.hid hi
 have HN:=Lib.hid hn
 have HT:=Lib.hid htab
 have HE:Hid ((ps.take n).flatMap nn=ps.flatMap nn):=Lib.hid (by rw[List.take_of_length_le (by omega)])
 obtain⟨re,HRE⟩:∃re,Hid (CE ps=re):=⟨_,Lib.hid rfl⟩
 obtain⟨rb,HRB⟩:∃rb,Hid (Ep ps=rb):=⟨_,Lib.hid rfl⟩
 rw[HRE.out,HRB.out]at H100 Hbad Hok
 rw[HRE.out,HRB.out]
 clear hi hn hl htab HRE HRB
 go_enter Tryz.func23,Tryz.ntmps23
 by_cases hl100:100<n
 ·have g0:(100:Int)<(n:Int):=by omega
  obtain⟨rfl,rfl⟩:=H100.out (by have:=HN.out;omega)
  go_wp2
  go_ret2
  exact⟨rfl,bel⟩
 ·have g0:¬(100:Int)<(n:Int):=by omega
  have hps:ps.length≤100:=by have:=HN.out;omega
  have Hbad':=Lib.hid (Hbad.out hps)
  have Hok':=Lib.hid (Hok.out hps)
  clear H100 Hbad Hok hps
  have hB0:vm W.heap.size W.heap.size (Lib.byteCells []) (W.alloc (.cells #[.pointer none, .slice none 0 0] 97)):= .inl ⟨Nat.le_refl _,_,ai rfl,World.ownsRow_nil _ _ _ _,by simp[Value.ownBlock]⟩
  have HB0:=Lib.hid hB0
  clear hB0
  go_wp2
  go_loopw [15] (fun x wr=>∃k:Nat,k≤n∧x= .int .i64 k∧Below W.heap.size W wr∧Hid (vm W.heap.size W.heap.size (Lib.byteCells ((ps.take k).flatMap nn)) wr)∧Hid (∀j (h:j<ps.length),j<k→DF ps[j]=0)∧Hid (((ps.take k).flatMap nn).length≤k*1000)) (fun x _=>n-(intOf x).toNat)
  case atStart=>exact⟨0,by omega,rfl,bel,HB0,Lib.hid (fun j _ h=>by omega),Lib.hid (by simp)⟩
  case round=>
   clear HB0
   obtain⟨k,hk,rfl,hb,HBu,Hd,HLn⟩:=hrel
   have hbl:=Lr HBu.out
   by_cases hlt:k<n
   ·have g1:(k:Int)<(n:Int):=by omega
    have g2:(0:Int)≤(k:Int):=by omega
    have hil:k<ps.length:=by have:=HN.out;omega
    obtain⟨b,off,rfl,hi4⟩:=HX.out (by omega)
    obtain⟨gv,ov,e0,e1,e2,e3,e4,hg,ho⟩:=hi4 k hil
    have e0:=ab hb e0
    have e1:=ab hb e1
    have e2:=ab hb e2
    have e3:=ab hb e3
    have e4:=ab hb e4
    have ze:=World.block_lt_of_cell? wr _ e0
    simp only at ze
    have HG:=Lib.hid (hg.below hb)
    have HO:=Lib.hid (ho.below hb)
    have HEk:=Lib.hid (Hh.out k hil Hd.out)
    have Hst:Hid (DF ps[k]=0→∀j (h:j<ps.length),j<k+1→DF ps[j]=0):=Lib.hid (fun h j hj hji=>by
     by_cases e:j=k
     ·subst e;exact h
     ·exact Hd.out j hj (by omega))
    have HSk:=Lib.hid ((HS k hil).out)
    have hLk:=(HL k hil).out
    clear hi4 HX HL Hd Hh HS HE
    generalize ps[k]=s at*
    obtain⟨g,o,x,y,z⟩:=s
    simp only at e2 e3 e4 HG HO hLk hg ho
    have HCT:=fun W' (hW':Below wr.heap.size wr W')=>Lib.hid (DE g o gv ov x y z W' (HG.out.below hW') (HO.out.below hW') hLk.1 hLk.2)
    have Hte:Hid (DF (g,o,(x,y,z))=Ce g o (x,y,z)):=Lib.hid rfl
    rw[Hte.out]at HEk Hst
    have Hin:=Lib.hid (@Lp g o (x,y,z))
    obtain⟨L,HLL⟩:∃L,Hid ((ps.take k).flatMap nn=L):=⟨_,Lib.hid rfl⟩
    rw[HLL.out]at HBu HLn HSk
    clear HLL Hte
    obtain⟨ga,gn,gc,rfl, -⟩:=hg
    obtain⟨oa,on,oc,rfl, -⟩:=ho
    generalize Ce g o (x,y,z)=te at*
    go_wp2_with fail
    refine((HCT _ bel).out).mono ?_
    rintro e w1 ⟨rfl,hb1⟩
    have hbw1:Below wr.heap.size wr w1:=fB bel hb1
    have HS1:Hid (w1.heap[wr.heap.size]? =some (.cells #[.slice ga gn gc, .slice oa on oc, .int .i64 x, .int .i64 y, .int .i64 z] 50 (0,0))):=Lib.hid ((hb1.block _ (by simp)).trans (ai rfl))
    have hw1:=fB hb hbw1
    clear HCT e0 e1 e2 e3 e4 ze hb1
    by_cases h0:te=0
    ·subst h0
     have HD2:=Lib.hid (Hst.out rfl)
     obtain⟨hg99,ho99,hg12,ho12,hwy⟩:=Hin.out rfl
     have HCG:=fun W' (hW':Below wr.heap.size wr W')=>Lib.hid (Dv g (.slice ga gn gc) W' (fun x h=>by have:=hg99 x h;omega) (by omega) (HG.out.below hW') (kl HT.out (fB hb hW')))
     have HCO:=fun W' (hW':Below wr.heap.size wr W')=>Lib.hid (Dv o (.slice oa on oc) W' (fun x h=>by have:=ho99 x h;omega) (by omega) (HO.out.below hW') (kl HT.out (fB hb hW')))
     have lg:=CD g (fun x h=>by have:=hg99 x h;omega)
     have lo:=CD o (fun x h=>by have:=ho99 x h;omega)
     have HWL:=Lib.hid (fun k=>Kk hwy k)
     have HLine:Hid (nn (g,o,(x,y,z))=nf g++[32]++nf o++fb (x,y,z) 3++[10]):=Lib.hid rfl
     generalize nf g=G at*
     generalize nf o=O at*
     have add1:=fun W'=>Cp G [32] (by omega) (by simp) W'
     have add2:=fun W'=>Cp (G++[32]) O (by simp;omega) (by omega) W'
     have HWG:=fun W' h h2=>Lib.hid (GP W.heap.size W.heap.size L (G++32::O) W' h (by have:=HLn.out;simp;omega) h2)
     have hGO:(G++32::O).length≤600:=by simp;omega
     obtain⟨s0,s1,s2,s3,s4,sf,sz⟩:=bM HS1.out
     obtain⟨wx,Hwx⟩:∃wx,Hid (w1=wx):=⟨_,Lib.hid rfl⟩
     have hS2:([32]:List UInt8).toArray=#[32]:=rfl
     rw[hS2]at add1
     go_wp2
     apply aj [] [0,1,2,3,4,5,6,7] 8 [] [sv _,sv _,sv _,sv _,sv _,sv _,sv _,sv _] (by kernel_rfl) (by kernel_rfl)
     iterate 2 ((try go_frame);refine wkQ ?_)
     try go_frame
     refine wkV ?_
     apply ex3
     ·intro u K hK
      go_simp
      refine((HCG _ (fB hbw1 u.below)).out).mono ?_
      rintro e w9 ⟨rfl,hb9⟩
      exact hK _ hb9
     rfl
     iterate 3 ((try go_frame);refine wkQ ?_)
     try go_frame
     refine wkV ?_
     apply ex3
     ·intro u K hK
      go_simp
      refine((HCO _ (fB hbw1 u.below)).out).mono ?_
      rintro e w9 ⟨rfl,hb9⟩
      exact hK _ hb9
     rfl
     ((try go_frame);refine wkQ ?_)
     try go_frame
     refine aI (fun u hR=> ?_)
     have hbu:Below wr.heap.size wr u.val:=fB hbw1 u.below
     have hWu:Below W.heap.size W u.val:=fB hb hbu
     have HSu:=Lib.hid ((u.below.block _ (ah HS1.out)).trans HS1.out)
     have HBu2:=Lib.hid (xd HBu.out hbu)
     clear hR HCG HCO HS1 s0 s1 s2 s3 s4 sf sz add1 add2 HBu
     generalize u.val=w2 at*
     clear u
     simp only[oas]
     have HX2:=Lib.hid ((HWG w2 HBu2.out hWu.size).out)
     go_wp2_with fail
     refine((HX2.out)).mono ?_
     rintro e w3 ⟨rfl,hB3,hb3,hk3⟩
     have hw3:Below W.heap.size W w3:=hWu.trans hb3
     have HS3:=Lib.hid (hk3 _ _ _ (by omega) (by decide) HSu.out)
     have HB3:=Lib.hid hB3
     clear HX2 HWG hB3 HSu HBu2
     obtain⟨s0,s1,s2,s3,s4,sf,sz⟩:=bM HS3.out
     have HBu:Hid (vm W.heap.size W.heap.size (Lib.byteCells (L++(G++32::O)++fb (x,y,z) 0)) w3):=Lib.hid (by simpa [fb]using HB3.out)
     have hLL:(L++(G++32::O)).length≤k*1000+600:=by have:=HLn.out;rw[List.length_append];omega
     have hNx:Hid (nn (g,o,(x,y,z))=(G++32::O)++fb (x,y,z) 3++[10]):=Lib.hid (by rw[HLine.out];simp)
     generalize hLG:L++(G++32::O)=LG at*
     have HLG:=Lib.hid hLG
     clear hLG HB3 HLine
     go_wp2
     refine NoPanic.normal ?_
     go_wp2
     have i0:=qD (.int .i64 x) (.int .i64 y) (.int .i64 z)
     have i1:=qE (.int .i64 x) (.int .i64 y) (.int .i64 z)
     have i2:=qF (.int .i64 x) (.int .i64 y) (.int .i64 z)
     go_loopw [43] (fun j wr=>∃m:Nat,m≤3∧j= .int .i64 m∧Below W.heap.size W wr∧Hid (vm W.heap.size W.heap.size (Lib.byteCells (LG++fb (x,y,z) m)) wr)) (fun j _=>3-(intOf j).toNat)
     case atStart=>exact⟨0,by omega,rfl,hw3,HBu⟩
     case round=>
      clear hw3 HBu s0 s1 s2 s3 s4 sf sz hw1 hbw1 hbu hWu hb hk3 hb3
      obtain⟨m,hm,rfl,hb,HBu⟩:=hrel
      rcases(by omega:m=0∨m=1∨m=2∨m=3)with rfl|rfl|rfl|rfl
      ·have HI:=Lib.hid (vi x (by have:=hwy;unfold Cj at this;simp only at this;omega) wr (kl HT.out (Below.mono hb (Nat.le_refl _))))
       have HAd:=Lib.hid (fun W'=>Cp [32] (Lib.itoa x) (by simp) (by have:=ek (x:=x) (by have:=hwy;unfold Cj at this;simp only at this;omega);omega) W')
       have hil:=ek (x:=x) (by have:=hwy;unfold Cj at this;simp only at this;omega)
       have hwl:=(HWL.out 0)
       have HWk:Hid (fb (x,y,z) 1=fb (x,y,z) 0++([32]++Lib.itoa x)):=Lib.hid (by simp[fb])
       have HWS:=fun W' h h2=>Lib.hid (GP W.heap.size W.heap.size (LG++fb (x,y,z) 0) ([32]++Lib.itoa x) W' h (by simp only[List.length_append,List.length_cons,List.length_nil];omega) h2)
       obtain⟨T,HTx⟩:∃T,Hid (Lib.itoa x=T):=⟨_,Lib.hid rfl⟩
       rw[HTx.out]at HI HWk
       have had:∀W':World,(Op.stringOp .add ⟨#[32]⟩ ⟨T.toArray⟩).run Tryz.prog W'= .ok (.string ⟨([32]++T).toArray⟩) W':=fun W'=>by rw[←HTx.out];exact HAd.out W'
       have HWS':=fun W' h h2=>Lib.hid (show Calls Tryz.prog 46 #[.pointer (some ⟨W.heap.size,0,none⟩), .string ⟨([32]++T).toArray⟩] W' (fun e w'=>e= .returned (.tuple #[.int .i64 (⟨([32]++T).toArray⟩:ByteArray).size, .nilIface])∧(vm W.heap.size W.heap.size (Lib.byteCells (LG++fb (x,y,z) 0++([32]++T))) w'∧Below W.heap.size W' w'∧KeepU W.heap.size W' w')) by rw[←HTx.out];exact(HWS W' h h2).out)
       clear HAd HWS HTx
       generalize([32]++T:List UInt8)=TT at*
       go_wp2_with fail
       refine(HI.out).mono ?_
       rintro e w1 ⟨rfl,hb1⟩
       have hB1:vm W.heap.size W.heap.size (Lib.byteCells (LG++fb (x,y,z) 0)) w1:=xd HBu.out hb1
       have hw1:Below W.heap.size W w1:=fB hb hb1
       have HX1:=Lib.hid (HWS' w1 hB1 hw1.size)
       clear HI HWS'
       go_wp2_with fail
       refine((HX1.out).out).mono ?_
       rintro e w2 ⟨rfl,hB2,hb2,hk2⟩
       have hw2:Below W.heap.size W w2:=hw1.trans hb2
       have HB2:Hid (vm W.heap.size W.heap.size (Lib.byteCells (LG++fb (x,y,z) 1)) w2):=Lib.hid (by rw[HWk.out, ←List.append_assoc];exact hB2)
       clear HX1 hB2 had
       go_wp2
       go_roundw
       case rel=>exact⟨1,by omega,rfl,hw2,HB2⟩
       case measure=>first|decide|(simp[intOf];done)
      ·have HI:=Lib.hid (vi y (by have:=hwy;unfold Cj at this;simp only at this;omega) wr (kl HT.out (Below.mono hb (Nat.le_refl _))))
       have HAd:=Lib.hid (fun W'=>Cp [32] (Lib.itoa y) (by simp) (by have:=ek (x:=y) (by have:=hwy;unfold Cj at this;simp only at this;omega);omega) W')
       have hil:=ek (x:=y) (by have:=hwy;unfold Cj at this;simp only at this;omega)
       have hwl:=(HWL.out 1)
       have HWk:Hid (fb (x,y,z) 2=fb (x,y,z) 1++([32]++Lib.itoa y)):=Lib.hid (by simp[fb])
       have HWS:=fun W' h h2=>Lib.hid (GP W.heap.size W.heap.size (LG++fb (x,y,z) 1) ([32]++Lib.itoa y) W' h (by simp only[List.length_append,List.length_cons,List.length_nil];omega) h2)
       obtain⟨T,HTx⟩:∃T,Hid (Lib.itoa y=T):=⟨_,Lib.hid rfl⟩
       rw[HTx.out]at HI HWk
       have had:∀W':World,(Op.stringOp .add ⟨#[32]⟩ ⟨T.toArray⟩).run Tryz.prog W'= .ok (.string ⟨([32]++T).toArray⟩) W':=fun W'=>by rw[←HTx.out];exact HAd.out W'
       have HWS':=fun W' h h2=>Lib.hid (show Calls Tryz.prog 46 #[.pointer (some ⟨W.heap.size,0,none⟩), .string ⟨([32]++T).toArray⟩] W' (fun e w'=>e= .returned (.tuple #[.int .i64 (⟨([32]++T).toArray⟩:ByteArray).size, .nilIface])∧(vm W.heap.size W.heap.size (Lib.byteCells (LG++fb (x,y,z) 1++([32]++T))) w'∧Below W.heap.size W' w'∧KeepU W.heap.size W' w')) by rw[←HTx.out];exact(HWS W' h h2).out)
       clear HAd HWS HTx
       generalize([32]++T:List UInt8)=TT at*
       go_wp2_with fail
       refine(HI.out).mono ?_
       rintro e w1 ⟨rfl,hb1⟩
       have hB1:vm W.heap.size W.heap.size (Lib.byteCells (LG++fb (x,y,z) 1)) w1:=xd HBu.out hb1
       have hw1:Below W.heap.size W w1:=fB hb hb1
       have HX1:=Lib.hid (HWS' w1 hB1 hw1.size)
       clear HI HWS'
       go_wp2_with fail
       refine((HX1.out).out).mono ?_
       rintro e w2 ⟨rfl,hB2,hb2,hk2⟩
       have hw2:Below W.heap.size W w2:=hw1.trans hb2
       have HB2:Hid (vm W.heap.size W.heap.size (Lib.byteCells (LG++fb (x,y,z) 2)) w2):=Lib.hid (by rw[HWk.out, ←List.append_assoc];exact hB2)
       clear HX1 hB2 had
       go_wp2
       go_roundw
       case rel=>exact⟨2,by omega,rfl,hw2,HB2⟩
       case measure=>first|decide|(simp[intOf];done)
      ·have HI:=Lib.hid (vi z (by have:=hwy;unfold Cj at this;simp only at this;omega) wr (kl HT.out (Below.mono hb (Nat.le_refl _))))
       have HAd:=Lib.hid (fun W'=>Cp [32] (Lib.itoa z) (by simp) (by have:=ek (x:=z) (by have:=hwy;unfold Cj at this;simp only at this;omega);omega) W')
       have hil:=ek (x:=z) (by have:=hwy;unfold Cj at this;simp only at this;omega)
       have hwl:=(HWL.out 2)
       have HWk:Hid (fb (x,y,z) 3=fb (x,y,z) 2++([32]++Lib.itoa z)):=Lib.hid (by simp[fb])
       have HWS:=fun W' h h2=>Lib.hid (GP W.heap.size W.heap.size (LG++fb (x,y,z) 2) ([32]++Lib.itoa z) W' h (by simp only[List.length_append,List.length_cons,List.length_nil];omega) h2)
       obtain⟨T,HTx⟩:∃T,Hid (Lib.itoa z=T):=⟨_,Lib.hid rfl⟩
       rw[HTx.out]at HI HWk
       have had:∀W':World,(Op.stringOp .add ⟨#[32]⟩ ⟨T.toArray⟩).run Tryz.prog W'= .ok (.string ⟨([32]++T).toArray⟩) W':=fun W'=>by rw[←HTx.out];exact HAd.out W'
       have HWS':=fun W' h h2=>Lib.hid (show Calls Tryz.prog 46 #[.pointer (some ⟨W.heap.size,0,none⟩), .string ⟨([32]++T).toArray⟩] W' (fun e w'=>e= .returned (.tuple #[.int .i64 (⟨([32]++T).toArray⟩:ByteArray).size, .nilIface])∧(vm W.heap.size W.heap.size (Lib.byteCells (LG++fb (x,y,z) 2++([32]++T))) w'∧Below W.heap.size W' w'∧KeepU W.heap.size W' w')) by rw[←HTx.out];exact(HWS W' h h2).out)
       clear HAd HWS HTx
       generalize([32]++T:List UInt8)=TT at*
       go_wp2_with fail
       refine(HI.out).mono ?_
       rintro e w1 ⟨rfl,hb1⟩
       have hB1:vm W.heap.size W.heap.size (Lib.byteCells (LG++fb (x,y,z) 2)) w1:=xd HBu.out hb1
       have hw1:Below W.heap.size W w1:=fB hb hb1
       have HX1:=Lib.hid (HWS' w1 hB1 hw1.size)
       clear HI HWS'
       go_wp2_with fail
       refine((HX1.out).out).mono ?_
       rintro e w2 ⟨rfl,hB2,hb2,hk2⟩
       have hw2:Below W.heap.size W w2:=hw1.trans hb2
       have HB2:Hid (vm W.heap.size W.heap.size (Lib.byteCells (LG++fb (x,y,z) 3)) w2):=Lib.hid (by rw[HWk.out, ←List.append_assoc];exact hB2)
       clear HX1 hB2 had
       go_wp2
       go_roundw
       case rel=>exact⟨3,by omega,rfl,hw2,HB2⟩
       case measure=>first|decide|(simp[intOf];done)
      ·have HWB:=Lib.hid (Iz W.heap.size W.heap.size (Lib.byteCells (LG++fb (x,y,z) 3)) 10 wr HBu.out (by rw[Lib.byteCells_length,List.length_append];have:=HWL.out 3;omega) hb.size)
       have HL2:Hid ((ps.take (k+1)).flatMap nn=LG++fb (x,y,z) 3++[10]):=Lib.hid (by rw[HSk.out,hNx.out, ←HLG.out];simp)
       have hw3l:=HWL.out 3
       clear i0 i1 i2
       go_wp2_with fail
       refine(HWB.out).mono ?_
       rintro e w4 ⟨rfl,hB4,hb4, -⟩
       have hw4:Below W.heap.size W w4:=hb.trans hb4
       have HB4:Hid (vm W.heap.size W.heap.size (Lib.byteCells ((ps.take (k+1)).flatMap nn)) w4):=Lib.hid (by
        rw[HL2.out,wd]
        exact .inr hB4)
       have HLn2:Hid (((ps.take (k+1)).flatMap nn).length≤(k+1)*1000):=Lib.hid (by rw[HL2.out,List.length_append,List.length_append];simp only[List.length_cons,List.length_nil];omega)
       clear HWB hB4 hb4 HL2
       go_wp2
       go_roundw
       case rel=>exact⟨k+1,by omega,by go_num,hw4,HB4,HD2,HLn2⟩
       case measure=>first|(simp[intOf];done)|(simp[intOf];omega)
    ·have h0':(te !=0)=true:=by simpa using h0
     obtain⟨e1,e2⟩:=Hbad'.out (by rw[HEk.out h0];exact h0)
     rw[HEk.out h0]at e1
     subst e1
     subst e2
     clear Hst HEk Hin
     go_wp2
     go_ret2
     exact⟨rfl,hw1⟩
   ·obtain rfl:k=n:=by omega
    have HT0:=Lib.hid (Hn.out (fun j h=>Hd.out j h (by have:=HN.out;omega)))
    obtain⟨e1,e2⟩:=Hok'.out HT0.out
    rw[←HE.out]at e2
    have HSt:=Lib.hid (Tryz.Builder_String_any W.heap.size W.heap.size ((ps.take k).flatMap nn) wr HBu.out hb.size)
    rw[←e2]at HSt
    clear HX HL HS HE Hd Hh Hn HBu HLn
    subst e1
    clear e2
    go_wp2_with fail
    refine(HSt.out).mono ?_
    rintro e w2 ⟨rfl,hb2⟩
    go_wp2
    go_ret2
    exact⟨rfl,hb.trans hb2⟩
end
end Go.Proofs.YtleamcmbhioedaaGreatDoor
