/- texts: J9 J10 J11 C0 C2 V1 J13 J14 V2 V3. -/
import Derived.Test.YtokhkhnofkcalaaGreatDoorKZS14
import Derived.Test.YtokhkhnofkcalaaGreatDoorKZShelf
import Derived.Lib.AppendIntMem
import Derived.Lib.ItoaLen
namespace Go.Proofs.YtokhkhnofkcalaaGreatDoor
set_option maxHeartbeats 8000000
set_option linter.unusedSimpArgs false
set_option linter.unusedVariables false
section
open Go.RowKit Go.Shelf
attribute [local go_sem] Ext.cell Ext.frozen
def nameB:List ByteArray:=[⟨#[108,97,112]⟩,⟨#[98,114,105,100,108,101]⟩,⟨#[116,101,110,111,110]⟩,⟨#[115,116,111,112,112,101,100]⟩,⟨#[116,111,110,103,117,101]⟩,⟨#[100,111,118,101,116,97,105,108]⟩,⟨#[115,99,97,114,102]⟩,⟨#[102,105,110,103,101,114,115]⟩,⟨#[100,111,119,101,108,115]⟩,⟨#[115,112,108,105,110,101]⟩,⟨#[116,104,114,101,101]⟩]
theorem nk (w:World):Calls Tryz.prog 62 #[] w fun e w'=>e= .returned (.slice (some ⟨w.heap.size,0,none⟩) 11 11)∧w'=w.alloc (.cells (nameB.map Value.string).toArray 9):=by
 go_enter Tryz.func62,Tryz.ntmps62
 go_wp2
 go_ret
 exact⟨rfl,rfl⟩
theorem kl {w w':World} (h:Lib.TabIs Tryz.prog w "internal/strconv.uint64pow10" .u64 Lib.pow10Tab) (hb:Below w.heap.size w w'):Lib.TabIs Tryz.prog w' "internal/strconv.uint64pow10" .u64 Lib.pow10Tab:=by
 obtain⟨g,hg⟩:=Option.isSome_iff_exists.1 (show(Tryz.prog.globalNamed "internal/strconv.uint64pow10").isSome=true by kernel_rfl)
 unfold Lib.TabIs World.var? at h ⊢
 rw[hg]at h ⊢
 simp only[Option.bind_some]at h ⊢
 have hlt:g<w.heap.size:=by
  rcases Nat.lt_or_ge g w.heap.size with h'|h'
  ·exact h'
  ·rw[Array.getElem?_eq_none h']at h;cases h
 rw[hb.block g hlt]
 exact h
theorem vi (n:Int) (hn: -1000000000≤n∧n≤1000000000) (w:World) (htab:Lib.TabIs Tryz.prog w "internal/strconv.uint64pow10" .u64 Lib.pow10Tab):
  Calls Tryz.prog 64 #[.int .i64 n] w (Ret w (.string ⟨(Lib.itoa n).toArray⟩)):=
 (Tryz.strconv_Itoa n (by omega) (by omega) w htab).mono (by
  rintro e w' ⟨rfl,k,os,rfl⟩
  exact⟨rfl,Lib.below_grow _ _ (Nat.le_refl _) k os⟩)
structure Shut (p:Prop):Prop where
 out:p
theorem yT {A B p:Prop} (h1:Shut p→A) (h2:Shut p→B) (h:p):A∧B:=⟨h1 ⟨h⟩,h2 ⟨h⟩⟩
def txt (x:Int):ByteArray:=⟨(Lib.itoa x).toArray⟩
def fi (k l w t:Int) (n:List Int):List ByteArray:=nameB.getD k.toNat ByteArray.empty::([l,w,t]++n).map txt
def Bm (k l w t:Int) (n:List Int):ByteArray:=⟨(Lib.join ((fi k l w t n).map (·.data.toList)) [32]).toArray⟩
theorem vj:(Tryz.prog.info? 9).map (fun i=>(i.zero,i.size,i.bytes))=some (some (.string ⟨#[]⟩),1,16):=by kernel_rfl
theorem vk:Tryz.prog.underlying 96=some (.slice 9):=by kernel_rfl
theorem ss (xs:List Int):∀u∈xs.map (Value.int .i64),u.oneCell'=true:=fun u hu=>by
 obtain⟨x,_,rfl⟩:=List.mem_map.1 hu;rfl
theorem pA {W:World} {b off m c:Nat} {xs:List Int} (h:IntsAt W b off xs) (hl:xs.length=m):Raw W 1 (.slice (some ⟨b,off,none⟩) m c) (xs.map (Value.int .i64)):=
 ⟨_,_,_,rfl,by simp[hl],(fun h=>by cases h),fun ad ha j u hu=>by
  cases ha
  have hj:j<xs.length:=by simpa using(List.getElem?_eq_some_iff.1 hu).1
  have:=h j hj
  have hu':u= .int .i64 xs[j]:=by rw[List.getElem?_map,List.getElem?_eq_getElem hj]at hu;simpa using hu.symm
  subst hu'
  by_cases h0:j=0
  ·subst h0;simpa [Addr.add]using this
  ·simpa [Addr.add,h0]using this⟩
theorem vl {w:World} {base:Nat} {e:TypeId} {v:Value} {n:Nat} {xs:List Int} (h:w.ownsRow base e 1 v n (xs.map (Value.int .i64))) (h0:0<xs.length):
  n=xs.length∧∃g cap cur,v= .slice (some ⟨g,0,none⟩) n cap∧w.heap[g]? =some (.cells cur e (0,0))∧∀i (hi:i<xs.length),cur[i]? =some (.int .i64 xs[i]):=by
 have hl:n=xs.length:=by have:=h.1;simp at this;omega
 rcases h.2 with⟨_,h1⟩|⟨g,cap,cur,rfl,_,hh,_,_,_,ht⟩
 ·omega
 ·refine⟨hl,g,cap,cur,rfl,hh,fun i hi=> ?_⟩
  have h2:(cur.toList.take (n*1))[i]? =(xs.map (Value.int .i64))[i]? :=by rw[ht]
  rw[List.getElem?_take_of_lt (by omega),List.getElem?_map,List.getElem?_eq_getElem hi]at h2
  simpa using h2
theorem vn {w:World} {base:Nat} {e:TypeId} {v:Value} {n:Nat} {xs:List ByteArray} (h:w.ownsRow base e 1 v n (xs.map Value.string)) (h0:0<xs.length):
  ∃g cap,v= .slice (some ⟨g,0,none⟩) xs.length cap∧xs.length≤cap∧g<w.heap.size∧∀(j:Nat) x,xs[j]? =some x→w.cell? ⟨g,0+j,none⟩=some (.string x):=by
 have hl:n=xs.length:=by have:=h.1;simp at this;omega
 rcases h.2 with⟨_,h1⟩|⟨g,cap,cur,rfl,_,hh,hc,_,_,ht⟩
 ·omega
 ·subst hl
  refine⟨g,cap,rfl,hc,ah hh,fun i x hx=> ?_⟩
  obtain⟨hi,rfl⟩:=List.getElem?_eq_some_iff.1 hx
  have h2:(cur.toList.take (xs.length*1))[i]? =(xs.map Value.string)[i]? :=by rw[ht]
  rw[List.getElem?_take_of_lt (by omega),List.getElem?_map,List.getElem?_eq_getElem hi]at h2
  rw[ag hh,Nat.zero_add]
  simpa using h2
set_option maxRecDepth 100000 in
theorem vo (k l w t:Int) (nv:Value) (n:List Int) (W:World) (hn:Ints W nv n) (h0:0<n.length) (hm:n.length≤1000) (hk:0≤k∧k≤10)
  (hb:∀x∈[l,w,t]++n, -1000000000≤x∧x≤1000000000) (htab:Lib.TabIs Tryz.prog W "internal/strconv.uint64pow10" .u64 Lib.pow10Tab)
  (hc:∀W',Below W.heap.size W W'→Calls Tryz.prog 48 #[vJ k l w t nv] W' (Ret W' (.int .i64 0)))
  (hlen:(Lib.join ((fi k l w t n).map (·.data.toList)) [32]).length≤1000000):
  Calls Tryz.prog 26 #[vJ k l w t nv] W (Ret W (.tuple #[.string (Bm k l w t n), .int .i64 0])):=by
 unfold vJ at*
 obtain⟨a,m,c,rfl,hm',hcc,hx⟩:=hn
 have Hc:=fun W' h=>Lib.hid (hc W' h)
 have HT:=Lib.hid htab
 have HL:=Lib.hid hlen
 have HB:=Lib.hid hb
 clear hc htab hlen hb
 obtain⟨b,off,rfl,hi⟩:=hx (by omega)
 have HI:=Lib.hid hi
 clear hx hi
 obtain⟨kn,rfl⟩:∃kn:Nat,k=kn:=⟨k.toNat,by omega⟩
 have kb:(kn:Int)<11:=by omega
 have k0:(0:Int)≤(kn:Int):=by omega
 have kb':kn<11:=by omega
 go_enter Tryz.func26,Tryz.ntmps26
 go_wp2_with fail
 refine((Hc _ bel).out).mono ?_
 rintro e w1 ⟨rfl,hb1⟩
 have hw1:=ae (show Below W.heap.size W (W.alloc (.cells #[.int .i64 kn, .int .i64 l, .int .i64 w, .int .i64 t, .slice (some ⟨b,off,none⟩) m c] 25))from bel) hb1
 have c0:=ab hb1 ((aq rfl 0).trans rfl:_=some (.int .i64 kn))
 have c4:=ab hb1 ((aq rfl 4).trans rfl:_=some (.slice (some ⟨b,off,none⟩) m c))
 have c1:=ab hb1 ((aq rfl 1).trans rfl:_=some (.int .i64 l))
 have c2:=ab hb1 ((aq rfl 2).trans rfl:_=some (.int .i64 w))
 have c3:=ab hb1 ((aq rfl 3).trans rfl:_=some (.int .i64 t))
 have zw:W.heap.size<w1.heap.size:=World.block_lt_of_cell? w1 _ c0
 clear hb1 Hc
 go_wp2
 obtain⟨nm,Hnm⟩:∃nm,Hid (nameB.getD kn ByteArray.empty=nm):=⟨_,Lib.hid rfl⟩
 have hnm:nameB[kn]? =some nm:=by
  have:kn<nameB.length:=kb'
  rw[←Hnm.out,List.getElem?_eq_getElem this];simp[List.getD,this]
 refine mr [1] 0 2 [3,4,5,6] (by kernel_rfl) (by kernel_rfl) ?_
 simp only[oas]
 repeat(refine jm (fun K' hK'=> ?_);go_simp;refine hK' _ ?_;clear hK' K')
 refine lG ?_
 refine yT (p:= ?joined9) ?_ ?_ ?_
 rotate_left 1
 ·intro hp
  go_wp2_with fail
  refine(nk _).mono ?_
  rintro e w2 ⟨rfl,rfl⟩
  go_wp2
  exact hp.out
 ·intro hp
  go_wp2_with fail
  refine(nk _).mono ?_
  rintro e w2 ⟨rfl,rfl⟩
  go_wp2
  exact hp.out
 obtain⟨w2,Hw2⟩:∃w2,Hid (((w1.alloc (.cells (nameB.map Value.string).toArray 9)).alloc (.cells #[.string nm] 9)).drew=w2):=⟨_,Lib.hid rfl⟩
 rw[Hw2.out]
 have hb12:Below w1.heap.size w1 w2:=by rw[←Hw2.out];exact bel
 have HO:Hid (w2.ownsRow W.heap.size 9 1 (.slice (some ⟨w1.heap.size+1,0,none⟩) 1 1) 1 [.string nm]):=Lib.hid (by
  refine⟨rfl, .inr ⟨_,_,#[.string nm],rfl, ?_, ?_,Nat.le_refl _,by unfold maxLen;omega,rfl,rfl⟩⟩
  ·omega
  ·rw[←Hw2.out];exact ai (by simp))
 have hw2:=ae hw1 hb12
 have c0:=ab hb12 c0
 have c1:=ab hb12 c1
 have c2:=ab hb12 c2
 have c3:=ab hb12 c3
 have c4:=ab hb12 c4
 have zw2:W.heap.size<w2.heap.size:=World.block_lt_of_cell? w2 _ c0
 generalize w1.heap.size+1=gw at*
 generalize w1.heap.size=gu at*
 clear hb12 hw1 Hw2 zw hnm
 refine NoPanic.normal ?_
 go_wp2
 refine ib (C:=fun w'=>∃u:Ext _,w'=u.val) [0,1,2,7] [3] 4 [5,6] (by kernel_rfl) (by kernel_rfl) ⟨Ext.drew,rfl⟩ ?_
 simp only[oas]
 repeat(refine jm (fun K' hK'=> ?_);go_simp;refine hK' _ ?_;clear hK' K')
 refine lG ?_
 repeat(first|go_big_quiet_step (fail)|quiet_step (fail))
 refine wpQuiet_nil ?_
 rintro _ ⟨u,rfl⟩
 iterate 1 (refine wpList_step (fun K hK=> ?_);go_simp;refine hK _ _ ?_;clear hK K)
 have hbu:=ae hw2 u.below
 have hcat:=Lib.hid (ja (u.val.alloc (.cells #[.slice (some ⟨W.heap.size,1,none⟩) 3 3, .slice (some ⟨b,off,none⟩) m c] 23)) u.val.heap.size 0 2 [[l,w,t].map (Value.int .i64),n.map (Value.int .i64)] (by
   intro i hi
   have hz:∀(a:Addr) x,w2.cell? a=some x→(u.val.alloc (.cells #[.slice (some ⟨W.heap.size,1,none⟩) 3 3, .slice (some ⟨b,off,none⟩) m c] 23)).cell? a=some x:=fun a x h=>ab (ae u.below bel) h
   match i,hi with
   |0,_=>
    refine⟨_,(aq rfl 0).trans rfl,pA ?_ rfl⟩
    intro j hj
    match j,hj with
    |0,_=>exact hz _ _ c1
    |1,_=>exact hz _ _ c2
    |2,_=>exact hz _ _ c3
   |1,_=>exact⟨_,(aq rfl 1).trans rfl,pA (HI.out.below (ae hbu bel)) hm'⟩) (by simp) (by simp) (by
   intro cs hcs
   simp only[List.mem_cons,List.not_mem_nil,or_false]at hcs
   rcases hcs with rfl|rfl
   ·exact ss [l,w,t]
   ·exact ss n) (by simp;omega))
 go_wp2_with fail
 refine hcat.out.mono ?_
 rintro e w3 ⟨r,mm,rfl,hb3,ho3⟩
 have hbu3:Below u.val.heap.size u.val w3:=ae bel hb3
 have hW3:Below W.heap.size W w3:=ae hbu hbu3
 obtain⟨ys,Hys⟩:∃ys,Hid ([l,w,t]++n=ys):=⟨_,Lib.hid rfl⟩
 have hyl:ys.length=3+m:=by rw[←Hys.out];simp;omega
 have ho4:w3.ownsRow (u.val.alloc (.cells #[.slice (some ⟨W.heap.size,1,none⟩) 3 3, .slice (some ⟨b,off,none⟩) m c] 23)).heap.size 3 1 r mm (ys.map (Value.int .i64)):=by
  rw[←Hys.out];simpa using ho3
 obtain⟨rfl,g,cap,cur,rfl,hh,hcur⟩:=vl ho4 (by omega)
 have HO3:=Lib.hid (au (au HO.out u.below) hbu3)
 have HH:=Lib.hid hh
 have Hcur:=Lib.hid hcur
 have hcs:ys.length≤cap:=by
  rcases ho4.2 with⟨h,_⟩|⟨_,_,_,h,_,_,h2,_⟩
  ·cases h
  ·cases h;exact h2
 clear ho3 ho4 hh hcur hb3 hbu3 hcat HO hbu c0 c1 c2 c3 c4
 obtain⟨N,HN⟩:∃N,Hid (ys.length=N):=⟨_,Lib.hid rfl⟩
 rw[HN.out]at hcs hyl ⊢
 obtain⟨i0,hi0,hz0,hz1,hz2⟩:=info_parts vj
 have Hi0:=Lib.hid (And.intro hi0 (And.intro hz0 (And.intro hz1 hz2)))
 clear hi0 hz0 hz1 hz2
 go_wp2
 refine NoPanic.normal ?_
 go_wp2
 go_loopw [5,26] (fun s i wr=>∃j:Nat,j≤N∧i= .int .i64 j∧Below W.heap.size W wr∧Hid (wr.ownsRow W.heap.size 9 1 s (1+j) (.string nm::(ys.take j).map (fun x=> .string (txt x))))∧Hid (wr.heap[g]? =some (.cells cur 3 (0,0)))) (fun _ i _=>N-(intOf i).toNat)
 case atStart=>exact⟨0,by omega,rfl,hW3,HO3,HH⟩
 case round=>
  clear hW3 HO3 HH
  obtain⟨j,hj,rfl,hb,HO,HH⟩:=hrel
  by_cases hlt:j<N
  ·have hj':j<ys.length:=by have:=HN.out;omega
   have cj:=(ag HH.out j).trans (Hcur.out j hj')
   have zg:=ah HH.out
   have hbx:=HB.out ys[j] (by rw[Hys.out];exact List.getElem_mem hj')
   have Hs:Hid ((ys.take (j+1)).map (fun x=>Value.string (txt x))=(ys.take j).map (fun x=>Value.string (txt x))++[.string (txt ys[j])]):=Lib.hid (by rw[List.take_succ_eq_append_getElem hj',List.map_append];rfl)
   have hit:=Lib.hid (vi ys[j] hbx wr (kl HT.out hb))
   rw[show(⟨(Lib.itoa ys[j]).toArray⟩:ByteArray)=txt ys[j]from rfl]at hit
   generalize ys[j]=x at*
   generalize txt x=tx at*
   clear hj' hbx
   go_wp2_with fail
   refine hit.out.mono ?_
   rintro e w4 ⟨rfl,hb4⟩
   have HO4:=Lib.hid (au HO.out hb4)
   have HH4:Hid (w4.heap[g]? =some (.cells cur 3 (0,0))):=Lib.hid ((hb4.block g zg).trans HH.out)
   have hbw:=ae hb hb4
   clear hit cj hb4
   go_wp2_with (at_builtin;refine wpList_append_own _ rfl _ _ 96 rfl W.heap.size 9 i0 (.string ⟨#[]⟩) 1 16 vk Hi0.out.1 Hi0.out.2.1 Hi0.out.2.2.1 Hi0.out.2.2.2 rfl (by decide) u5 (1+j) _ rfl (HO4.out.alloc _) ⟨w4.heap.size,0,none⟩ 1 1 [.string tx] rfl rfl ?c1 ?c2 ?c3 ?c4 ?c5 ?_)
   case c1=>
    intro jj uu hu
    rw[jY,aq rfl jj]
    simpa using hu
   case c2=>intro v hv;simp at hv;subst hv;rfl
   case c3=>unfold maxLen;omega
   case c4=>omega
   case c5=>simp;have:=hbw.size;omega
   intro v' w5 hown5 hg5 _
   have hbw5:Below W.heap.size W w5:=(hbw.alloc hbw.size _).grown hg5 (by simp;have:=hbw.size;omega) (fun q hq=>(HO4.out.lt q hq).1)
   have zg4:=ah HH4.out
   have HH5:Hid (w5.heap[g]? =some (.cells cur 3 (0,0))):=Lib.hid ((hg5.block g (by simp;omega) (fun e=>aG HO4.out HH4.out (by decide) e.symm)).trans ((aB zg4).trans HH4.out))
   have HO5:=Lib.hid hown5
   clear hown5 hg5
   go_wp2
   go_roundw
   case rel=>exact⟨j+1,by omega,by go_num,hbw5,Lib.hid (by rw[Hs.out];simpa [Nat.add_assoc]using HO5.out),HH5⟩
   case measure=>simp[intOf];omega
  ·obtain rfl:N=j:=by omega
   have ho:wr.ownsRow W.heap.size 9 1 u5 (1+N) ((fi kn l w t n).map Value.string):=by
    have:=HO.out
    rw[List.take_of_length_le (by have:=HN.out;omega)]at this
    have e:fi (kn:Int) l w t n=nm::ys.map txt:=by unfold fi;rw[Hys.out, ←Hnm.out];rfl
    rw[e]
    simpa [Function.comp_def]using this
   obtain⟨g',cap',rfl,hc',hg',hcl⟩:=vn ho (by simp[fi])
   have hpl:(fi kn l w t n).length≤140737488355328:=by simp[fi];omega
   have hjn:=Lib.hid (Tryz.strings_Join g' 0 cap' (fi kn l w t n) ⟨#[32]⟩ wr hcl hg' hpl hc' (Nat.le_trans HL.out (by decide)))
   rw[show(⟨(Lib.join ((fi (kn:Int) l w t n).map (·.data.toList)) (⟨#[32]⟩:ByteArray).data.toList).toArray⟩:ByteArray)=Bm kn l w t n from rfl]at hjn
   clear ho hcl hc' hpl HO
   go_wp2_with fail
   refine hjn.out.mono ?_
   rintro e w4 ⟨rfl,hb4⟩
   go_wp2
   refine bodyPost_ret (v:= .tuple #[.string (Bm kn l w t n), .int .i64 0]) (by simp[results,Tryz.results26,go_sem]) rfl ⟨rfl, ?_⟩
   exact ae hb hb4
end
section
open Go.RowKit Go.Shelf
attribute [local go_sem] Ext.cell Ext.frozen
set_option maxRecDepth 100000
theorem su {a b A B:Int} (ha:0≤a∧a≤A) (hb:0≤b∧b≤B):0≤a*b∧a*b≤A*B:=
 ⟨Int.mul_nonneg ha.1 hb.1,Int.mul_le_mul ha.2 hb.2 hb.1 (Int.le_trans ha.1 ha.2)⟩
theorem yU (l w t:Int) (nv:Value) (n:List Int) (W:World) (hn:Ints W nv n) (h0:3≤n.length) (hm:n.length≤1000)
  (hl:1≤l∧l≤1000000) (ht:1≤t∧t≤1000000) (hs:1≤n.getD 0 0∧n.getD 0 0≤8)
  (hc:∀W',Below W.heap.size W W'→Calls Tryz.prog 48 #[vJ 5 l w t nv] W' (Ret W' (.int .i64 0))):
  Calls Tryz.prog 27 #[vJ 5 l w t nv] W (Ret W (.tuple #[.agg #[.int .i64 (2*((n.length-2:Nat):Int)*(l / n.getD 0 0)*t), .int .i64 (2*((n.length-2:Nat):Int)*l*t), .int .i64 0], .int .i64 0])):=by
 unfold vJ at*
 obtain⟨a,m,c,rfl,hm',hcc,hx⟩:=hn
 have Hc:=fun W' h=>Lib.hid (hc W' h)
 obtain⟨b,off,rfl,hi⟩:=hx (by omega)
 have d0:=hi 0 (by omega)
 rw[cS n _ (by omega)]at d0
 rw[Nat.add_zero]at d0
 generalize n.getD 0 0=s at*
 rw[hm']at h0 hm ⊢
 clear hc hx hi
 obtain⟨q,rfl⟩:∃q,m=q+2:=⟨m-2,by omega⟩
 rw[show q+2-2=q by omega]
 have hk0:0≤l / s∧l / s≤1000000:=⟨Int.ediv_nonneg (by omega) (by omega),Int.le_trans (Int.ediv_le_self _ (by omega)) (by omega)⟩
 obtain⟨k,Hk⟩:∃k,Hid (l / s=k):=⟨_,Lib.hid rfl⟩
 rw[Hk.out]at hk0 ⊢
 have p1:=su (A:=2000) (B:=1000000) (a:=2*(q:Int)) (b:=k) (by omega) (by omega)
 have p2:=su (A:=2000000000) (B:=1000000) (a:=2*(q:Int)*k) (b:=t) (by omega) (by omega)
 have p3:=su (A:=2000) (B:=1000000) (a:=2*(q:Int)) (b:=l) (by omega) (by omega)
 have p4:=su (A:=2000000000) (B:=1000000) (a:=2*(q:Int)*l) (b:=t) (by omega) (by omega)
 have r0:IntKind.i64.wrap (2*(q:Int))=2*(q:Int):=IntWalk.i64_in _ (by omega)
 have r1:IntKind.i64.wrap (2*(q:Int)*k)=2*(q:Int)*k:=IntWalk.i64_in _ (by omega)
 have r2:IntKind.i64.wrap (2*(q:Int)*k*t)=2*(q:Int)*k*t:=IntWalk.i64_in _ (by omega)
 have r3:IntKind.i64.wrap (2*(q:Int)*l)=2*(q:Int)*l:=IntWalk.i64_in _ (by omega)
 have r4:IntKind.i64.wrap (2*(q:Int)*l*t)=2*(q:Int)*l*t:=IntWalk.i64_in _ (by omega)
 clear p1 p2 p3 p4
 have zb:=World.block_lt_of_cell? W _ d0
 simp only at zb
 go_enter Tryz.func27,Tryz.ntmps27
 go_wp2_with fail
 refine((Hc _ bel).out).mono ?_
 rintro e w1 ⟨rfl,hb1⟩
 have hw1:=ae (show Below W.heap.size W ((W.alloc (.cells #[.int .i64 5, .int .i64 l, .int .i64 w, .int .i64 t, .slice (some ⟨b,off,none⟩) (q+2) c] 25)).alloc (.cells #[.int .i64 0, .int .i64 0, .int .i64 0] 22))from bel) hb1
 have HJ:=(hb1.block W.heap.size (by simp;omega)).trans ((aB (by simp)).trans (ai rfl))
 have HR:=(hb1.block (W.heap.size+1) (by simp)).trans (ai (by simp))
 have c0:=(ag HJ 0).trans rfl
 have c1:=(ag HJ 1).trans rfl
 have c2:=(ag HJ 2).trans rfl
 have c3:=(ag HJ 3).trans rfl
 have c4:=(ag HJ 4).trans rfl
 have zj:=ah HJ
 have zr:=ah HR
 have d1:=ab hw1 d0
 have zb1:=World.block_lt_of_cell? w1 _ d1
 simp only at zb1
 have hkk:=Hk.out
 clear hb1 Hc d0
 go_wp2
 refine wqf fun u=> ?_
 have HJu:=Lib.hid ((u.below.block _ zj).trans HJ)
 have HRu:=(u.below.block _ zr).trans HR
 have d2:=ab u.below d1
 clear HJ HR c0 c1 c2 c3 c4 d1
 have hwu:=ae hw1 u.below
 have zju:=ah HJu.out
 have zbu:=World.block_lt_of_cell? u.val _ d2
 simp only at zbu
 generalize u.val=w9 at*
 have c0:=(ag HJu.out 0).trans rfl
 have c4:=(ag HJu.out 4).trans rfl
 have e0:=(ag HRu 0).trans rfl
 have e1:=(ag HRu 1).trans rfl
 have e2:=(ag HRu 2).trans rfl
 have f0:=aC HRu 0
 have f1:=aC HRu 1
 have f2:=aC HRu 2
 have zu:=ah HRu
 simp only[List.getElem?_toArray,List.getElem?_cons_zero,List.getElem?_cons_succ]at c0 c4 e0 e1 e2
 go_wp2
 refine bodyPost_ret (v:= .tuple #[.agg #[.int .i64 (2*(q:Int)*k*t), .int .i64 (2*(q:Int)*l*t), .int .i64 0], .int .i64 0]) (by simp[results,Tryz.results27,go_sem,e0,e1,e2]) rfl ⟨rfl, ?_⟩
 refine Below.setCell (Below.setCell (Below.setCell hwu ?_ _) ?_ _) ?_ _<;>simp
end
section
open Go.RowKit Go.Shelf
attribute [local go_sem] Ext.cell Ext.frozen
def aV (k:Int) (n:List Int):Nat:=if k=8 then(n.length-6) / 2 else if k=9 then 1 else 0
set_option maxRecDepth 100000 in
theorem tp (k l w t:Int) (nv:Value) (n:List Int) (W:World) (hn:Ints W nv n) (hm:n.length≤1000000) (h8:k=8→8≤n.length∧n.length % 2=0):
  Calls Tryz.prog 70 #[vJ k l w t nv] W (Ret W (.int .i64 (aV k n))):=by
 unfold vJ
 by_cases hk:k=8
 ·subst hk
  obtain⟨h6,h2⟩:=h8 rfl
  have hh:=fun W' h=>Lib.hid (ki nv n W' ((n.length-6) / 2) (hn.below (w':=W') h) (by omega) (by omega))
  rw[show aV 8 n=(n.length-6) / 2 from rfl]
  generalize(n.length-6) / 2=q at*
  go_enter Tryz.func70,Tryz.ntmps70
  go_wp2_with fail
  refine((hh _ bel).out).mono ?_
  rintro e w1 ⟨r,rfl,hb1,ho⟩
  obtain⟨c,a,rfl⟩:∃c a,r= .slice a q c:=by
   rcases ho.2 with⟨rfl,rfl⟩|⟨g,cap,cur,rfl,_⟩
   ·exact⟨0,none,rfl⟩
   ·exact⟨_,_,rfl⟩
  clear ho
  go_wp2
  go_ret
  exact⟨rfl,ae bel hb1⟩
 ·have hk':(k==8)=false:=by simpa using hk
  clear h8 hn
  by_cases h9:k=9
  ·subst h9
   go_enter Tryz.func70,Tryz.ntmps70
   go_wp2
   go_ret
   exact⟨rfl,bel⟩
  ·have h9':(k==9)=false:=by simpa using h9
   go_enter Tryz.func70,Tryz.ntmps70
   go_wp2
   go_ret
   exact⟨aK (by simp[aV,hk,h9]),bel⟩
end
section
open Go.RowKit
def bV (n:List Int) (i:Nat):Int:=if i=0 then -(n.getD 1 0)else n.getD (4+2*i) 0
def eZ (t:Int) (n:List Int) (i:Nat):Bool:=
 decide (bV n i+2*n.getD 1 0<n.getD (6+2*i) 0)&&decide (n.getD 1 0<n.getD (7+2*i) 0∧n.getD (7+2*i) 0<t-n.getD 1 0)
def dW (l:Int) (n:List Int):Bool:=aD [0,n.getD 1 0,n.getD 2 0,2*n.getD 1 0]&&
 decide (0<n.getD 3 0∧0<n.getD 4 0∧0≤n.getD 5 0∧n.getD 4 0+n.getD 5 0<n.getD 0 0∧n.getD 0 0+n.getD 3 0+n.getD 5 0<l)
def bQ (l w t:Int) (n:List Int):Bool:=
 dW l n&&(List.range ((n.length-6) / 2)).all (eZ t n)&&decide (bV n ((n.length-6) / 2)+n.getD 1 0<w)
theorem kX {l w t:Int} {n:List Int} (h:dW l n=false):bQ l w t n=false:=by simp[bQ,h]
theorem kY {l w t:Int} {n:List Int} (i:Nat) (hi:i<(n.length-6) / 2) (h:eZ t n i=false):bQ l w t n=false:=by
 have:(List.range ((n.length-6) / 2)).all (eZ t n)=false:=by rw[List.all_eq_false];exact⟨i,by simpa using hi,by simpa using h⟩
 simp[bQ,this]
theorem kZ {l w t:Int} {n:List Int} (h1:dW l n=true) (h2:∀i,i<(n.length-6) / 2→eZ t n i=true):bQ l w t n=decide (bV n ((n.length-6) / 2)+n.getD 1 0<w):=by
 have:(List.range ((n.length-6) / 2)).all (eZ t n)=true:=by rw[List.all_eq_true];intro i hi;exact h2 i (by simpa using hi)
 simp[bQ,h1,this]
def fH (l t:Int) (n:List Int):Bool:=
 decide (1≤n.getD 1 0∧n.getD 1 0≤8)&&decide (-8≤n.getD 2 0∧n.getD 2 0≤8)&&decide (n.getD 2 0≠0)&&((n.getD 2 0*t).tmod (n.getD 1 0)==0)&&
 bB 0 l [n.getD 0 0,n.getD 0 0+(n.getD 2 0*t).tdiv (n.getD 1 0)]
def iG (l w t:Int) (n:List Int):Bool:=
 decide (l=w∧0<n.getD 1 0∧0<n.getD 2 0∧n.getD 1 0+n.getD 2 0≤n.getD 0 0∧n.getD 0 0+n.getD 1 0+n.getD 2 0≤2*l)&&aD [0,n.getD 3 0,n.getD 4 0,t]
def fj (l:Int) (n:List Int):Bool:=decide (0<n.getD 0 0∧0≤n.getD 1 0∧n.getD 0 0+n.getD 1 0<l)
def cU (k l w t:Int) (n:List Int):Bool:=
 if k=0 then aD [0,n.getD 0 0,t]
 else if k=1 then aD [0,n.getD 0 0,n.getD 1 0,t]
 else if k=2 then aD [0,n.getD 0 0,n.getD 1 0,w]&&aD [0,n.getD 2 0,n.getD 3 0,t]
 else if k=3 then aD [0,n.getD 2 0,n.getD 3 0,w]&&aD [0,n.getD 4 0,n.getD 5 0,t]&&fj l n
 else if k=4 then aD [0,n.getD 2 0,n.getD 3 0,t]&&fj l n
 else if k=5 then bF l w n
 else if k=6 then fH l t n
 else if k=7 then aD ([0]++n++[w])
 else if k=8 then bQ l w t n
 else if k=9 then iG l w t n
 else aD [0,n.getD 0 0,t]&&aD [0,n.getD 1 0,n.getD 2 0,l]&&aD [0,n.getD 3 0,n.getD 4 0,w]
theorem Ints.at' {W:World} {nv:Value} {n:List Int} (h:Ints W nv n) (h0:0<n.length):∃b off c,nv= .slice (some ⟨b,off,none⟩) n.length c∧n.length≤c∧b<W.heap.size∧∀i,i<n.length→W.cell? ⟨b,off+i,none⟩=some (.int .i64 (n.getD i 0)):=by
 obtain⟨a,m,c,rfl,hm,hc,hx⟩:=h
 subst hm
 obtain⟨b,off,rfl,hi⟩:=hx h0
 refine⟨b,off,c,rfl,hc, ?_,fun i h=> ?_⟩
 ·exact World.block_lt_of_cell? W _ (hi 0 h0)
 ·rw[hi i h,cS n i h]
end
section
open Go.RowKit Go.Shelf
attribute [local go_sem] Ext.cell Ext.frozen
def re (v:Value):Prop:=∀m c,v= .slice none m c→m=0∧c=0
theorem vp (b o j:Nat):(⟨b,o,none⟩:Addr).add j=⟨b,o+j,none⟩:=by
 unfold Addr.add
 split
 ·rename_i h;subst h;rfl
 ·rfl
theorem jy {w:World} {base:Nat} {T:TypeId} {v:Value} {xs:List Int} (h:w.ownsRow base T 1 v xs.length (xs.map (Value.int .i64))):Ints w v xs:=by
 rcases h.2 with⟨rfl,h0⟩|⟨g,cap,cur,rfl,hb,hh,hc,hm,hcs,ht⟩
 ·exact⟨none,0,0,rfl,h0,Nat.le_refl _,fun h=>absurd h (by omega)⟩
 ·refine⟨some ⟨g,0,none⟩,xs.length,cap,rfl,rfl,hc,fun _=>⟨g,0,rfl,fun i hi=> ?_⟩⟩
  rw[Nat.zero_add,ag hh]
  have h2:(cur.toList.take (xs.length*1))[i]? =some (Value.int .i64 xs[i]):=by rw[ht];simp[hi]
  rw[List.getElem?_take_of_lt (by omega)]at h2
  simpa using h2
set_option maxRecDepth 100000 in
theorem ob (v:Value) (xs:List Int) (W:World) (hx:Ints W v xs) (hnil:re v) (hm:xs.length*8≤140737488355328):
  Calls Tryz.prog 32 #[v] W fun e w'=>∃r,e= .returned r∧Below W.heap.size W w'∧w'.ownsRow W.heap.size 3 1 r xs.length (xs.map (Value.int .i64)):=by
 obtain⟨i0,hi0,hz0,hz1,hz2⟩:=info_parts iE
 have Hi0:=Lib.hid (And.intro hi0 (And.intro hz0 (And.intro hz1 hz2)))
 clear hi0 hz0 hz1 hz2
 obtain⟨a,m,c,rfl,hl,hc,hx⟩:=hx
 have hmade:(W.alloc (.cells #[] 3)).ownsRow W.heap.size 3 1 (.slice (some ⟨W.heap.size,0,none⟩) 0 0) 0 []:=World.ownsRow_made W #[] 0 (Nat.le_refl _) (Nat.zero_le _) rfl
 have Hm:=Lib.hid hmade
 clear hmade
 cases a with
 |none=>
  obtain⟨rfl,rfl⟩:=hnil m c rfl
  obtain rfl:xs=[]:=List.length_eq_zero_iff.1 hl
  clear hx hnil hl
  go_enter Tryz.func32,Tryz.ntmps32
  go_wp2_with (at_builtin;refine wpList_append_own_none rfl _ _ 23 rfl W.heap.size 3 i0 1 eY Hi0.out.1 _ 0 [] rfl Hm.out rfl ?_)
  go_ret
  exact⟨_,rfl,bel,Hm.out⟩
 |some ad=>
  have HN:Hid (∀j u,(xs.map (Value.int .i64))[j]? =some u→(W.alloc (.cells #[] 3)).cell? (ad.add j)=some u):=Lib.hid (fun j u hu=>by
   have hj:j<xs.length:=by
    have:=(List.getElem?_eq_some_iff.1 hu).1
    simpa using this
   obtain⟨b,off,e,hi⟩:=hx (by omega)
   cases e
   rw[vp]
   refine ab (show Below W.heap.size W _ from bel) ?_
   rw[hi j hj]
   simpa [hj]using hu)
  clear hx hnil
  go_enter Tryz.func32,Tryz.ntmps32
  go_wp2_with (at_builtin;refine wpList_append_own _ rfl _ _ 23 rfl W.heap.size 3 i0 (.int .i64 0) 1 8 eY Hi0.out.1 Hi0.out.2.1 Hi0.out.2.2.1 Hi0.out.2.2.2 rfl (by decide) _ 0 [] rfl Hm.out ad m c (xs.map (Value.int .i64)) rfl ?c0 HN.out ?c2 ?c3 ?c4 ?c5 ?_)
  case c0=>simp[hl]
  case c2=>intro u hu;simp at hu;obtain⟨_,_,rfl⟩:=hu;rfl
  case c3=>unfold maxLen;omega
  case c4=>omega
  case c5=>simp
  intro v' w2 hown2 hg2 _
  have hb2:Below W.heap.size W w2:=Below.grown (show Below W.heap.size W (W.alloc (.cells #[] 3))from bel) hg2 (by simp) (fun q hq=>(Hm.out.lt q hq).1)
  have HO:=Lib.hid hown2
  clear hown2 hg2
  go_wp2
  go_ret
  exact⟨_,rfl,hb2,by have:=HO.out;simpa [hl]using this⟩
set_option maxRecDepth 100000 in
theorem rg (k l w t:Int) (nv:Value) (n:List Int) (W:World) (hn:Ints W nv n) (hnil:re nv) (hm:n.length*8≤140737488355328):
  Calls Tryz.prog 9 #[vJ k l w t nv] W fun e w'=>∃r,e= .returned (vJ k l w t r)∧Below W.heap.size W w'∧w'.ownsRow W.heap.size 3 1 r n.length (n.map (Value.int .i64)):=by
 have HC:=fun W' h=>Lib.hid (ob nv n W' (hn.below (w':=W') h) hnil hm)
 unfold vJ
 obtain⟨a,m,c,rfl,hl,hc,hx⟩:=hn
 clear hx hnil hl
 go_enter Tryz.func9,Tryz.ntmps9
 go_wp2_with fail
 refine((HC _ bel).out).mono ?_
 rintro e w1 ⟨r,rfl,hb1,ho⟩
 have HO:=Lib.hid ho
 obtain⟨ra,rc,rfl⟩:∃ra rc,r= .slice ra n.length rc:=by
  rcases ho.2 with⟨rfl,h0⟩|⟨g,cap,cur,rfl,_⟩
  ·exact⟨none,0,by rw[h0]⟩
  ·exact⟨_,_,rfl⟩
 have HB:=Lib.hid ((hb1.block W.heap.size (by simp;omega)).trans ((aB (by simp)).trans (ai rfl)))
 have HR:=Lib.hid ((hb1.block (W.heap.size+1) (by simp)).trans (ai (by simp)))
 have r0:=(ag HR.out 0).trans rfl
 have r1:=(ag HR.out 1).trans rfl
 have r2:=(ag HR.out 2).trans rfl
 have r3:=(ag HR.out 3).trans rfl
 have r4:=(ag HR.out 4).trans rfl
 have rf0:=aC HR.out 0
 have rf1:=aC HR.out 1
 have rf2:=aC HR.out 2
 have rf3:=aC HR.out 3
 have rf4:=aC HR.out 4
 have zr:=ah HR.out
 simp only[List.getElem?_toArray,List.getElem?_cons_zero,List.getElem?_cons_succ]at r0 r1 r2 r3 r4
 have c0:=(ag HB.out 0).trans rfl
 have c1:=(ag HB.out 1).trans rfl
 have c2:=(ag HB.out 2).trans rfl
 have c3:=(ag HB.out 3).trans rfl
 have c4:=(ag HB.out 4).trans rfl
 have f4:=aC HB.out 4
 have zb:=ah HB.out
 simp only[List.getElem?_toArray,List.getElem?_cons_zero,List.getElem?_cons_succ]at c0 c1 c2 c3 c4
 have hw1:=ae (show Below W.heap.size W (W.alloc (.cells #[.int .i64 k, .int .i64 l, .int .i64 w, .int .i64 t, .slice a m c] 25))from bel) (ae (show Below (W.alloc (.cells #[.int .i64 k, .int .i64 l, .int .i64 w, .int .i64 t, .slice a m c] 25)).heap.size _ _ from bel) hb1)
 clear ho hb1 HC
 go_wp2
 refine bodyPost_ret (v:= .agg #[.int .i64 k, .int .i64 l, .int .i64 w, .int .i64 t, .slice ra n.length rc]) (by simp[results,Tryz.results9,go_sem,r0,r1,r2,r3,r4]) rfl ⟨_,rfl, ?_, ?_⟩
 ·refine Below.setCell (Below.setCell (Below.setCell (Below.setCell (Below.setCell (Below.setCell hw1 ?_ _) ?_ _) ?_ _) ?_ _) ?_ _) ?_ _<;>simp
 ·have nb:(Value.slice ra n.length rc).ownBlock≠some W.heap.size:=aG HO.out HB.out (by decide)
  have nr:(Value.slice ra n.length rc).ownBlock≠some (W.heap.size+1):=aG HO.out HR.out (by decide)
  exact AY (aF (aF (aF (aF (aF (aF HO.out _ _ (fun e=>nb e.symm)) _ _ (fun e=>nr e.symm)) _ _ (fun e=>nr e.symm)) _ _ (fun e=>nr e.symm)) _ _ (fun e=>nr e.symm)) _ _ (fun e=>nr e.symm)) (by simp;omega)
theorem xA (k l w t:Int) (a:Option Addr) (m c:Nat) (W:World):Calls Tryz.prog 7 #[vJ k l w t (.slice a m c)] W (Ret W (.bool (decide (m≤30)))):=by
 unfold vJ
 go_enter Tryz.func7,Tryz.ntmps7
 go_wp2
 go_ret
 exact⟨ay (by simp;omega),bel⟩
end
section
open Go.RowKit
def slk (p:Q4) (x:Q3) (W:Int):Int:=p.2.2.2*W-bj (nrm p) x
theorem nl {α:Type} (s t:α→Int):∀ps:List α,(∃p∈ps,0<t p)→∃p∈ps,0<t p∧∀q∈ps,0<t q→s p*t q≤s q*t p
 | [],h=>by obtain⟨p,hp,_⟩:=h;cases hp
 |a::l,h=>by
  by_cases hl:∃p∈l,0<t p
  ·obtain⟨p,hp,ht,hm⟩:=nl s t l hl
   by_cases ha:0<t a∧s a*t p≤s p*t a
   ·refine⟨a,by simp,ha.1,fun q hq h0=> ?_⟩
    rcases List.mem_cons.1 hq with rfl|hq
    ·exact Int.le_refl _
    ·have h1:=hm q hq h0
     have h2:s a*t p*t q≤s p*t a*t q:=Int.mul_le_mul_of_nonneg_right ha.2 (by omega)
     have h3:s p*t q*t a≤s q*t p*t a:=Int.mul_le_mul_of_nonneg_right h1 (by omega)
     have e1:s a*t p*t q=s a*t q*t p:=by grind
     have e2:s p*t a*t q=s p*t q*t a:=by grind
     have e3:s q*t p*t a=s q*t a*t p:=by grind
     exact Int.le_of_mul_le_mul_right (by omega:s a*t q*t p≤s q*t a*t p) ht
   ·refine⟨p,by simp[hp],ht,fun q hq h0=> ?_⟩
    rcases List.mem_cons.1 hq with rfl|hq
    ·have:¬(s q*t p≤s p*t q):=fun h=>ha ⟨h0,h⟩
     omega
    ·exact hm q hq h0
  ·obtain⟨p,hp,ht⟩:=h
   rcases List.mem_cons.1 hp with rfl|hp
   ·refine⟨p,by simp,ht,fun q hq h0=> ?_⟩
    rcases List.mem_cons.1 hq with rfl|hq
    ·exact Int.le_refl _
    ·exact absurd ⟨q,hq,h0⟩ hl
   ·exact absurd ⟨p,hp,ht⟩ hl
def mv (x d:Q3) (t s:Int):Q3:=(t*x.1+s*d.1,t*x.2.1+s*d.2.1,t*x.2.2+s*d.2.2)
theorem vq (n x d:Q3) (t s:Int):bj n (mv x d t s)=t*bj n x+s*bj n d:=by unfold bj mv;grind
theorem rh (q:Q4) (x d:Q3) (W t s:Int):slk q (mv x d t s) (t*W)=t*slk q x W-s*bj (nrm q) d:=by unfold slk;rw[vq];grind
theorem yV (ps:List Q4) (x d:Q3) (W:Int) (hW:0<W) (hin:∀p∈ps,0≤slk p x W) (hd:∃p∈ps,0<bj (nrm p) d):
  ∃p∈ps,∃x' W',0<W'∧(∀q∈ps,0≤slk q x' W')∧slk p x' W'=0∧0<bj (nrm p) d∧(∀q,bj (nrm q) d=0→slk q x W=0→slk q x' W'=0)∧∀f,bj f d≤0→bj f x'*W≤bj f x*W':=by
 obtain⟨p,hp,ht,hm⟩:=nl (fun p=>slk p x W) (fun p=>bj (nrm p) d) ps hd
 have hs:=hin p hp
 refine⟨p,hp,mv x d (bj (nrm p) d) (slk p x W),bj (nrm p) d*W,Int.mul_pos ht hW,fun q hq=> ?_, ?_,ht,fun q h0 h1=> ?_,fun f hf=> ?_⟩
 ·rw[rh]
  by_cases h0:0<bj (nrm q) d
  ·have:=hm q hq h0
   have e:bj (nrm p) d*slk q x W=slk q x W*bj (nrm p) d:=Int.mul_comm _ _
   omega
  ·have h1:0≤bj (nrm p) d*slk q x W:=Int.mul_nonneg (by omega) (hin q hq)
   have h2:0≤slk p x W*(-(bj (nrm q) d)):=Int.mul_nonneg hs (by omega)
   rw[Int.mul_neg]at h2
   omega
 ·rw[rh,Int.mul_comm];omega
 ·rw[rh,h0,h1];omega
 ·rw[vq,Int.add_mul]
  have h2:0≤slk p x W*(-(bj f d))*W:=Int.mul_nonneg (Int.mul_nonneg hs (by omega)) (by omega)
  have e:slk p x W*(-(bj f d))*W= -(slk p x W*bj f d*W):=by grind
  have e2:bj (nrm p) d*bj f x*W=bj f x*(bj (nrm p) d*W):=by grind
  omega
theorem vr {a b c W V U:Int} (hV:0<V) (hW:0<W) (hU:0<U) (h1:b*W≤a*V) (h2:c*V≤b*U):c*W≤a*U:=by
 have h3:b*W*U≤a*V*U:=Int.mul_le_mul_of_nonneg_right h1 (by omega)
 have h4:c*V*W≤b*U*W:=Int.mul_le_mul_of_nonneg_right h2 (by omega)
 have e1:b*W*U=b*U*W:=by grind
 have e2:a*V*U=a*U*V:=by grind
 have e3:c*V*W=c*W*V:=by grind
 exact Int.le_of_mul_le_mul_right (by omega:c*W*V≤a*U*V) hV
theorem yW (ps:List Q4) (hB:∀d:Q3,d≠(0,0,0)→∃p∈ps,0<bj (nrm p) d) (f x:Q3) (W:Int) (hW:0<W) (hin:∀p∈ps,0≤slk p x W):
  ∃p1∈ps,∃p2∈ps,∃p3∈ps,∃x' W',0<W'∧(∀q∈ps,0≤slk q x' W')∧slk p1 x' W'=0∧slk p2 x' W'=0∧slk p3 x' W'=0∧bN p1 p2 p3≠0∧bj f x'*W≤bj f x*W':=by
 have sg:∀d:Q3,d≠(0,0,0)→∃s:Int,(s=1∨s= -1)∧(s*d.1,s*d.2.1,s*d.2.2)≠((0,0,0):Q3)∧bj f (s*d.1,s*d.2.1,s*d.2.2)≤0:=fun d hd=>by
  by_cases h:bj f d≤0
  ·obtain⟨d1,d2,d3⟩:=d
   refine⟨1,Or.inl rfl, ?_, ?_⟩
   ·simp only[Int.one_mul];exact hd
   ·simp only[Int.one_mul];exact h
  ·refine⟨-1,Or.inr rfl, ?_, ?_⟩
   ·intro e
    apply hd
    simp only[Prod.mk.injEq]at e
    obtain⟨d1,d2,d3⟩:=d
    simp only[Prod.mk.injEq]at e ⊢
    omega
   ·have:bj f (-1*d.1, -1*d.2.1, -1*d.2.2)= -(bj f d):=by unfold bj;grind
    rw[this];omega
 obtain⟨s1,hs1,hn1,hf1⟩:=sg (1,0,0) (by simp)
 obtain⟨p1,hp1,x1,W1,hW1,hin1,z1,t1,_,l1⟩:=yV ps x _ W hW hin (hB _ hn1)
 have q1:p1.1≠0:=by
  intro e
  simp only[bj,nrm,e]at t1
  omega
 obtain⟨s2,hs2,hn2,hf2⟩:=sg (p1.2.1, -p1.1,0) (by simp;omega)
 obtain⟨p2,hp2,x2,W2,hW2,hin2,z2,t2,k2,l2⟩:=yV ps x1 _ W1 hW1 hin1 (hB _ hn2)
 have q2:p1.1*p2.2.1-p1.2.1*p2.1≠0:=by
  intro e
  have:bj (nrm p2) (s2*p1.2.1,s2* -p1.1,s2*0)= -(s2*(p1.1*p2.2.1-p1.2.1*p2.1)):=by unfold bj nrm;grind
  simp only at t2
  rw[this,e]at t2
  omega
 obtain⟨s3,hs3,hn3,hf3⟩:=sg (aN (nrm p1) (nrm p2)) (by
  intro e
  have:(aN (nrm p1) (nrm p2)).2.2=0:=by rw[e]
  exact q2 this)
 obtain⟨p3,hp3,x3,W3,hW3,hin3,z3,t3,k3,l3⟩:=yV ps x2 _ W2 hW2 hin2 (hB _ hn3)
 have y1:slk p1 x2 W2=0:=k2 p1 (by unfold bj nrm;grind) z1
 refine⟨p1,hp1,p2,hp2,p3,hp3,x3,W3,hW3,hin3,k3 p1 (by unfold bj aN nrm;grind) y1,k3 p2 (by unfold bj aN nrm;grind) z2,z3, ?_, ?_⟩
 ·intro e
  have:bj (nrm p3) (s3*(aN (nrm p1) (nrm p2)).1,s3*(aN (nrm p1) (nrm p2)).2.1,s3*(aN (nrm p1) (nrm p2)).2.2)=s3*bN p1 p2 p3:=by unfold bN bj;grind
  rw[this,e]at t3
  omega
 ·exact vr hW2 hW hW3 (vr hW1 hW hW2 (l1 f hf1) (l2 f hf2)) (l3 f hf3)
theorem AZ (a b c den:Int) (h0:den≠0):∃g:Int,g≠0∧a=g*(eu a b c den).1∧b=g*(eu a b c den).2.1∧c=g*(eu a b c den).2.2.1∧den=g*(eu a b c den).2.2.2∧0<(eu a b c den).2.2.2:=by
 have hp:=gj a b c den h0
 have d1:=aY [a,b,c,den] a (by simp)
 have d2:=aY [a,b,c,den] b (by simp)
 have d3:=aY [a,b,c,den] c (by simp)
 have d4:=aY [a,b,c,den] den (by simp)
 unfold eu
 generalize aU [a,b,c,den]=g at*
 have e1:=Int.mul_ediv_cancel' d1
 have e2:=Int.mul_ediv_cancel' d2
 have e3:=Int.mul_ediv_cancel' d3
 have e4:=Int.mul_ediv_cancel' d4
 have hg:(0:Int)<g:=by omega
 split
 ·rename_i hneg
  refine⟨-(g:Int),by omega,by simp only;grind,by simp only;grind,by simp only;grind,by simp only;grind, ?_⟩
  simp only
  have:¬0≤den / (g:Int):=fun h=>by have:=Int.mul_nonneg (Int.le_of_lt hg) h;omega
  omega
 ·refine⟨(g:Int),by omega,e1.symm,e2.symm,e3.symm,e4.symm, ?_⟩
  simp only
  have h1:¬den / (g:Int)≤0:=fun h=>by
   have:0≤(g:Int)*(-(den / (g:Int))):=Int.mul_nonneg (Int.le_of_lt hg) (by omega)
   rw[Int.mul_neg]at this
   omega
  omega
def SameAt (c:Q4) (x:Q3) (W:Int):Prop:=0<c.2.2.2∧c.2.2.2*x.1=W*c.1∧c.2.2.2*x.2.1=W*c.2.1∧c.2.2.2*x.2.2=W*c.2.2.1
def xyz (c:Q4):Q3:=(c.1,c.2.1,c.2.2.1)
theorem SameAt.slk {c:Q4} {x:Q3} {W:Int} (h:SameAt c x W) (q:Q4):slk q (xyz c) c.2.2.2*W=slk q x W*c.2.2.2:=by
 obtain⟨_,h1,h2,h3⟩:=h
 unfold Go.Proofs.YtokhkhnofkcalaaGreatDoor.slk bj xyz nrm
 grind
theorem xB (a b:Int):sgn a b=sgn 0 (b-a):=by
 unfold sgn
 by_cases h1:a<b
 ·rw[if_pos h1,if_pos (by omega)]
 ·rw[if_neg h1,if_neg (by omega:¬0<b-a)]
  by_cases h2:b<a
  ·rw[if_pos h2,if_pos (by omega)]
  ·rw[if_neg h2,if_neg (by omega:¬b-a<0)]
theorem mt (p c:Q4):sd p c=sgn 0 (slk p (xyz c) c.2.2.2):=by
 unfold sd uA
 rw[xB]
 rfl
theorem mu {a W:Int} (hW:0<W) (h:0<a*W):0<a:=by
 rcases Int.lt_or_le 0 a with h1|h1
 ·exact h1
 ·have:0≤(-a)*W:=Int.mul_nonneg (by omega) (by omega)
  rw[Int.neg_mul]at this
  omega
theorem mT {a W:Int} (hW:0<W) (h:0≤a*W):0≤a:=by
 rcases Int.lt_or_le a 0 with h1|h1
 ·have:0<(-a)*W:=Int.mul_pos (by omega) (by omega)
  rw[Int.neg_mul]at this
  omega
 ·exact h1
theorem SameAt.pos {c:Q4} {x:Q3} {W:Int} (h:SameAt c x W) (hW:0<W) (q:Q4) (hs:0<Go.Proofs.YtokhkhnofkcalaaGreatDoor.slk q x W):sd q c<0:=by
 have h1:0<Go.Proofs.YtokhkhnofkcalaaGreatDoor.slk q x W*c.2.2.2:=Int.mul_pos hs h.1
 rw[←h.slk q]at h1
 have:=mu hW h1
 rw[mt,dp]
 exact this
theorem SameAt.nonneg {c:Q4} {x:Q3} {W:Int} (h:SameAt c x W) (hW:0<W) (q:Q4) (hs:0≤Go.Proofs.YtokhkhnofkcalaaGreatDoor.slk q x W):¬0<sd q c:=by
 have h1:0≤Go.Proofs.YtokhkhnofkcalaaGreatDoor.slk q x W*c.2.2.2:=Int.mul_nonneg hs (Int.le_of_lt h.1)
 rw[←h.slk q]at h1
 have:=mT hW h1
 rw[mt,kS]
 omega
theorem yX (a b c:Q3) (x:Q3):bj (aN a b) c*x.1=(fP (bj a x) (bj b x) (bj c x) (aN b c) (aN c a) (aN a b)).1∧
  bj (aN a b) c*x.2.1=(fP (bj a x) (bj b x) (bj c x) (aN b c) (aN c a) (aN a b)).2.1∧
  bj (aN a b) c*x.2.2=(fP (bj a x) (bj b x) (bj c x) (aN b c) (aN c a) (aN a b)).2.2:=by
 refine⟨?_, ?_, ?_⟩<;>(unfold fP bj aN;grind)
theorem vt (W d0 d1 d2:Int) (a b c:Q3):(fP (d0*W) (d1*W) (d2*W) a b c).1=W*(fP d0 d1 d2 a b c).1∧(fP (d0*W) (d1*W) (d2*W) a b c).2.1=W*(fP d0 d1 d2 a b c).2.1∧(fP (d0*W) (d1*W) (d2*W) a b c).2.2=W*(fP d0 d1 d2 a b c).2.2:=by
 refine⟨?_, ?_, ?_⟩<;>(unfold fP;grind)
theorem ri (p q r:Q4) (x:Q3) (W:Int) (h0:bN p q r≠0) (hp:slk p x W=0) (hq:slk q x W=0) (hr:slk r x W=0):SameAt (dv p q r (bN p q r)) x W:=by
 obtain⟨c1,c2,c3⟩:=yX (nrm p) (nrm q) (nrm r) x
 have ep:bj (nrm p) x=p.2.2.2*W:=by unfold slk at hp;omega
 have eq:bj (nrm q) x=q.2.2.2*W:=by unfold slk at hq;omega
 have er:bj (nrm r) x=r.2.2.2*W:=by unfold slk at hr;omega
 rw[ep,eq,er]at c1 c2 c3
 obtain⟨m1,m2,m3⟩:=vt W p.2.2.2 q.2.2.2 r.2.2.2 (aN (nrm q) (nrm r)) (aN (nrm r) (nrm p)) (aN (nrm p) (nrm q))
 rw[m1]at c1
 rw[m2]at c2
 rw[m3]at c3
 unfold dv
 simp only
 generalize fP p.2.2.2 q.2.2.2 r.2.2.2 (aN (nrm q) (nrm r)) (aN (nrm r) (nrm p)) (aN (nrm p) (nrm q))=v at*
 obtain⟨g,hg,e1,e2,e3,e4,hpos⟩:=AZ v.1 v.2.1 v.2.2 (bN p q r) h0
 change bN p q r*x.1=_ at c1
 change bN p q r*x.2.1=_ at c2
 change bN p q r*x.2.2=_ at c3
 generalize eu v.1 v.2.1 v.2.2 (bN p q r)=c at*
 generalize bN p q r=den at*
 refine⟨hpos, ?_, ?_, ?_⟩
 ·refine Int.eq_of_mul_eq_mul_left hg ?_
  rw[e4,e1]at c1
  grind
 ·refine Int.eq_of_mul_eq_mul_left hg ?_
  rw[e4,e2]at c2
  grind
 ·refine Int.eq_of_mul_eq_mul_left hg ?_
  rw[e4,e3]at c3
  grind
theorem xC (ps:List Q4) (i k m:Nat) (hi:i<ps.length) (hk:k<i) (hm:m<k) (h0:bN (bm ps i) (bm ps k) (bm ps m)≠0)
  (ha:bG ps (dv (bm ps i) (bm ps k) (bm ps m) (bN (bm ps i) (bm ps k) (bm ps m)))=true):
  dv (bm ps i) (bm ps k) (bm ps m) (bN (bm ps i) (bm ps k) (bm ps m))∈raw ps ps.length:=by
 unfold raw gJ gI
 simp only[List.mem_flatMap,List.mem_range]
 exact⟨i,hi,k,hk,m,hm,by unfold jo;rw[if_neg h0,if_pos ha];simp⟩
theorem rj {ps:List Q4} {c:Q4} {x:Q3} {W:Int} (h:SameAt c x W) (hW:0<W) (hin:∀q∈ps,0≤slk q x W):bG ps c=true:=by
 unfold bG
 simp only[Bool.not_eq_true',List.any_eq_false,decide_eq_true_eq]
 exact fun q hq=>h.nonneg hW q (hin q hq)
theorem jA {ps:List Q4} {p:Q4} (h:p∈ps):∃i,i<ps.length∧bm ps i=p:=by
 obtain⟨i,hi,rfl⟩:=List.getElem_of_mem h
 exact⟨i,hi,by simp[bm,List.getD,hi]⟩
theorem fB (ps:List Q4) (i k m:Nat) (hi:i<ps.length) (hk:k<i) (hm:m<k) (x:Q3) (W:Int) (hW:0<W) (hin:∀q∈ps,0≤slk q x W)
  (zi:slk (bm ps i) x W=0) (zk:slk (bm ps k) x W=0) (zm:slk (bm ps m) x W=0) (h0:bN (bm ps i) (bm ps k) (bm ps m)≠0):∃c∈raw ps ps.length,SameAt c x W:=by
 have h:=ri _ _ _ x W h0 zi zk zm
 exact⟨_,xC ps i k m hi hk hm h0 (rj h hW hin),h⟩
theorem gC (p q r:Q4):bN q p r= -bN p q r:=by unfold bN bj aN nrm;grind
theorem iH (p q r:Q4):bN p r q= -bN p q r:=by unfold bN bj aN nrm;grind
theorem tq (p r:Q4):bN p p r=0:=by unfold bN bj aN nrm;grind
theorem tr (p r:Q4):bN p r r=0:=by unfold bN bj aN nrm;grind
theorem tt (p r:Q4):bN p r p=0:=by unfold bN bj aN nrm;grind
theorem np (ps:List Q4) (p1 p2 p3:Q4) (h1:p1∈ps) (h2:p2∈ps) (h3:p3∈ps) (x:Q3) (W:Int) (hW:0<W) (hin:∀q∈ps,0≤slk q x W)
  (z1:slk p1 x W=0) (z2:slk p2 x W=0) (z3:slk p3 x W=0) (h0:bN p1 p2 p3≠0):∃c∈raw ps ps.length,SameAt c x W:=by
 obtain⟨i,hi,rfl⟩:=jA h1
 obtain⟨k,hk,rfl⟩:=jA h2
 obtain⟨m,hm,rfl⟩:=jA h3
 have n1:i≠k:=fun e=>h0 (by rw[e,tq])
 have n2:k≠m:=fun e=>h0 (by rw[e,tr])
 have n3:i≠m:=fun e=>h0 (by rw[e,tt])
 rcases Nat.lt_or_gt_of_ne n1 with a|a<;>rcases Nat.lt_or_gt_of_ne n2 with b|b<;>rcases Nat.lt_or_gt_of_ne n3 with c|c
 ·exact fB ps m k i hm b a x W hW hin z3 z2 z1 (by rw[gC,iH,gC];omega)
 ·omega
 ·exact fB ps k m i hk b c x W hW hin z2 z3 z1 (by rw[iH,gC];omega)
 ·exact fB ps k i m hk a c x W hW hin z2 z1 z3 (by rw[gC];omega)
 ·exact fB ps m i k hm c a x W hW hin z3 z1 z2 (by rw[gC,iH];omega)
 ·exact fB ps i m k hi c b x W hW hin z1 z3 z2 (by rw[iH];omega)
 ·omega
 ·exact fB ps i k m hi a b x W hW hin z1 z2 z3 h0
theorem od (ps:List Q4) (hB:∀d:Q3,d≠(0,0,0)→∃p∈ps,0<bj (nrm p) d) (x:Q3) (W:Int) (hW:0<W) (hin:∀p∈ps,0<slk p x W) (p:Q4) (hp:p∈ps):
  ∃c∈raw ps ps.length,sd p c<0:=by
 obtain⟨p1,h1,p2,h2,p3,h3,x',W',hW',hin',z1,z2,z3,h0,hf⟩:=yW ps hB (nrm p) x W hW (fun q hq=>Int.le_of_lt (hin q hq))
 obtain⟨c,hc,hs⟩:=np ps p1 p2 p3 h1 h2 h3 x' W' hW' hin' z1 z2 z3 h0
 refine⟨c,hc,hs.pos hW' p ?_⟩
 have h4:=hin p hp
 have h5:0<slk p x W*W':=Int.mul_pos h4 hW'
 refine mu hW (a:=slk p x' W') ?_
 unfold slk at h5 ⊢
 have e1:(p.2.2.2*W-bj (nrm p) x)*W'=p.2.2.2*W*W'-bj (nrm p) x*W':=Int.sub_mul _ _ _
 have e2:(p.2.2.2*W'-bj (nrm p) x')*W=p.2.2.2*W*W'-bj (nrm p) x'*W:=by grind
 omega
end
section
open Go.RowKit Go.Shelf
attribute [local go_sem] Ext.cell Ext.frozen
set_option maxRecDepth 100000
def Each (w:World) (v:Value) {α:Type} (E:World→Value→α→Prop) (cs:List α):Prop:=
 ∃a m c,v= .slice a m c∧cs.length=m∧m≤c∧(0<m→∃b off,a=some ⟨b,off,none⟩∧∀i (h:i<cs.length),∃u,w.cell? ⟨b,off+i,none⟩=some u∧E w u cs[i])
theorem Each.below {w w':World} {v:Value} {α:Type} {E:World→Value→α→Prop} {cs:List α} (hE:∀u c w w',Below w.heap.size w w'→E w u c→E w' u c) (h:Each w v E cs) (hb:Below w.heap.size w w'):Each w' v E cs:=by
 obtain⟨a,m,c,hv,hl,hc,hx⟩:=h
 refine⟨a,m,c,hv,hl,hc,fun h0=> ?_⟩
 obtain⟨b,off,ha,hi⟩:=hx h0
 exact⟨b,off,ha,fun i h=>by obtain⟨u,hu,he⟩:=hi i h;exact⟨u,ab hb hu,hE _ _ _ _ hb he⟩⟩
def At (B:Nat) (v:Value):Prop:=∀a m c,v= .slice (some a) m c→B≤a.block
theorem At.mono {B B':Nat} {v:Value} (h:At B v) (hb:B'≤B):At B' v:=fun a m c e=>Nat.le_trans hb (h a m c e)
theorem At.mk {B g m c:Nat} (h:B≤g):At B (.slice (some ⟨g,0,none⟩) m c):=fun a _ _ e=>by cases e;exact h
theorem At.none' {B m c:Nat}:At B (.slice none m c):=fun a _ _ e=>by cases e
def PlanesV (B:Nat) (w:World) (v:Value) (ps:List Q4):Prop:=Raw w 4 v (ps.flatMap aH)∧At B v
def CellsV (B:Nat) (w:World) (v:Value) (cs:List (List Q4)):Prop:=Each w v (PlanesV B) cs∧At B v
def PartsV (B:Nat) (w:World) (v:Value) (cs:List (List (List Q4))):Prop:=Each w v (CellsV B) cs∧At B v
theorem PlanesV.below {B:Nat} {w w':World} {v:Value} {ps:List Q4} (h:PlanesV B w v ps) (hb:Below w.heap.size w w'):PlanesV B w' v ps:=⟨Raw.below h.1 hb,h.2⟩
theorem CellsV.below {B:Nat} {w w':World} {v:Value} {ps:List (List Q4)} (h:CellsV B w v ps) (hb:Below w.heap.size w w'):CellsV B w' v ps:=⟨Each.below (fun _ _ _ _ hb h=>PlanesV.below h hb) h.1 hb,h.2⟩
theorem PartsV.below {B:Nat} {w w':World} {v:Value} {ps:List (List (List Q4))} (h:PartsV B w v ps) (hb:Below w.heap.size w w'):PartsV B w' v ps:=⟨Each.below (fun _ _ _ _ hb h=>CellsV.below h hb) h.1 hb,h.2⟩
theorem pB {w:World} {g i:Nat} {x u:Value} {a:Addr} (h:w.cell? a=some u) (hne:g≠a.block):(w.setCell ⟨g,i,none⟩ x).cell? a=some u:=
 (World.cell?_setCell_other w ⟨g,i,none⟩ a x (fun e=>by subst e;exact hne rfl)).trans h
theorem Each.far {B:Nat} {w:World} {v:Value} {α:Type} {E:World→Value→α→Prop} {cs:List α} {g i:Nat} {x:Value} (hE:∀u c,E w u c→E (w.setCell ⟨g,i,none⟩ x) u c) (h:Each w v E cs) (ha:At B v) (hg:g<B):Each (w.setCell ⟨g,i,none⟩ x) v E cs:=by
 obtain⟨a,m,c,rfl,hl,hc,hx⟩:=h
 refine⟨a,m,c,rfl,hl,hc,fun h0=> ?_⟩
 obtain⟨b,off,rfl,hi⟩:=hx h0
 have:=ha _ _ _ rfl
 exact⟨b,off,rfl,fun k h=>by obtain⟨u,hu,he⟩:=hi k h;exact⟨u,pB hu (by simp at this ⊢;omega),hE _ _ he⟩⟩
theorem PlanesV.far {B g i:Nat} {x:Value} {w:World} {v:Value} {ps:List Q4} (h:PlanesV B w v ps) (hg:g<B):PlanesV B (w.setCell ⟨g,i,none⟩ x) v ps:=by
 obtain⟨⟨a,m,c,rfl,hl,hn,hc⟩,ha⟩:=h
 refine⟨⟨a,m,c,rfl,hl,hn,fun ad hd j u hu=> ?_⟩,ha⟩
 subst hd
 have hh:=ha _ _ _ rfl
 refine pB (hc ad rfl j u hu) ?_
 have:(ad.add j).block=ad.block:=by unfold Addr.add;split<;>rfl
 rw[this]
 omega
theorem CellsV.far {B g i:Nat} {x:Value} {w:World} {v:Value} {ps:List (List Q4)} (h:CellsV B w v ps) (hg:g<B):CellsV B (w.setCell ⟨g,i,none⟩ x) v ps:=⟨h.1.far (fun _ _ h=>PlanesV.far h hg) h.2 hg,h.2⟩
theorem PartsV.far {B g i:Nat} {x:Value} {w:World} {v:Value} {ps:List (List (List Q4))} (h:PartsV B w v ps) (hg:g<B):PartsV B (w.setCell ⟨g,i,none⟩ x) v ps:=⟨h.1.far (fun _ _ h=>CellsV.far h hg) h.2 hg,h.2⟩
theorem Each.imp {w:World} {v:Value} {α:Type} {E E':World→Value→α→Prop} {cs:List α} (hE:∀u c,E w u c→E' w u c) (h:Each w v E cs):Each w v E' cs:=by
 obtain⟨a,m,c,rfl,hl,hc,hx⟩:=h
 refine⟨a,m,c,rfl,hl,hc,fun h0=> ?_⟩
 obtain⟨b,off,rfl,hi⟩:=hx h0
 exact⟨b,off,rfl,fun k h=>by obtain⟨u,hu,he⟩:=hi k h;exact⟨u,hu,hE _ _ he⟩⟩
theorem PlanesV.mono {B B':Nat} {w:World} {v:Value} {ps:List Q4} (h:PlanesV B w v ps) (hb:B'≤B):PlanesV B' w v ps:=⟨h.1,h.2.mono hb⟩
theorem CellsV.mono {B B':Nat} {w:World} {v:Value} {ps:List (List Q4)} (h:CellsV B w v ps) (hb:B'≤B):CellsV B' w v ps:=⟨h.1.imp (fun _ _ h=>PlanesV.mono h hb),h.2.mono hb⟩
theorem PartsV.mono {B B':Nat} {w:World} {v:Value} {ps:List (List (List Q4))} (h:PartsV B w v ps) (hb:B'≤B):PartsV B' w v ps:=⟨h.1.imp (fun _ _ h=>CellsV.mono h hb),h.2.mono hb⟩
theorem fI {α:Type} {E:World→Value→α→Prop} {W:World} {T:TypeId} (vs:List Value) (cs:List α) {n g:Nat} (hg:g=W.heap.size) (hl:vs.length=cs.length) (hn:n=cs.length)
  (hE:∀p∈vs.zip cs,E (W.alloc (.cells vs.toArray T)) p.1 p.2):Each (W.alloc (.cells vs.toArray T)) (.slice (some ⟨g,0,none⟩) n n) E cs:=by
 refine⟨_,_,_,rfl,hn.symm,Nat.le_refl _,fun _=>⟨g,0,rfl,fun i hi=>⟨vs[i]'(by omega), ?_, ?_⟩⟩⟩
 ·refine(aq hg _).trans ?_
  simp[hl,hi]
 ·refine hE (vs[i]'(by omega),cs[i]) ?_
  have:(vs.zip cs)[i]'(by simp;omega)=(vs[i]'(by omega),cs[i]):=by simp
  rw[←this]
  exact List.getElem_mem _
theorem dZ {B:Nat} {W:World} {T:TypeId} (ps:List Q4) {n g:Nat} (hg:g=W.heap.size) (hB:B≤W.heap.size) (hn:n=ps.length):PlanesV B (W.alloc (.cells (ps.flatMap aH).toArray T)) (.slice (some ⟨g,0,none⟩) n n) ps:=by
 refine⟨⟨_,_,_,rfl, ?_,(fun h=>by cases h), ?_⟩,At.mk (by omega)⟩
 ·subst hn
  induction ps with
  |nil=>rfl
  |cons p ps ih=>simp[aH]at ih ⊢;omega
 ·intro ad ha j u hu
  cases ha
  rw[jY,aq hg j]
  simpa using hu
def IsP (B:Nat) (ps:List Q4):Value→World→Prop:=fun v w=>PlanesV B w v ps
def IsC (B:Nat) (ps:List (List Q4)):Value→World→Prop:=fun v w=>CellsV B w v ps
def IsK (B:Nat) (ps:List (List (List Q4))):Value→World→Prop:=fun v w=>PartsV B w v ps
def xD (B:Nat) (ps:List (List (List Q4))):Value→World→Prop:=fun v w=>∃u,v= .agg #[u, .slice none 0 0]∧PartsV B w u ps
theorem dy (B:Nat) (ps:List Q4):dR (IsP B ps):=fun _ _ _ hb h=>PlanesV.below h hb
theorem dA (B:Nat) (ps:List (List Q4)):dR (IsC B ps):=fun _ _ _ hb h=>CellsV.below h hb
theorem dK (B:Nat) (ps:List (List (List Q4))):dR (IsK B ps):=fun _ _ _ hb h=>PartsV.below h hb
theorem di (B:Nat) (ps:List (List (List Q4))):dR (xD B ps):=fun _ _ _ hb ⟨u,h,k⟩=>⟨u,h,PartsV.below k hb⟩
theorem ns (l w t:Int) (nv:Value) (n:List Int) (W:World) (hn:Ints W nv n) (hl:n.length=1) (hb: -1000000≤n.getD 0 0∧n.getD 0 0≤1000000):
  Calls Tryz.prog 31 #[vJ 0 l w t nv] W fun e w'=>∃u,e= .returned (.agg #[u, .slice none 0 0])∧Below W.heap.size W w'∧PartsV W.heap.size w' u [[[axP 2 (-1) (-n.getD 0 0)]],[[axP 2 1 (n.getD 0 0)]]]:=by
 unfold vJ
 obtain⟨a,m,c,rfl,hm,hc,hx⟩:=hn
 obtain⟨b,off,rfl,hi⟩:=hx (by omega)
 have c0:=hi 0 (by omega)
 have zb:=World.block_lt_of_cell? W _ c0
 simp only at zb
 rw[cS n _ (by omega)]at c0
 rw[Nat.add_zero]at c0
 generalize n.getD 0 0=x at*
 obtain rfl:m=1:=by omega
 have h1:=fun W'=>Lib.hid (bX 2 x W' (by omega) (by omega))
 have h2:=fun W'=>Lib.hid (cR 2 x W' (by omega) (by omega))
 generalize axP 2 (-1) (-x)=p at*
 generalize axP 2 1 x=q at*
 obtain⟨p1,p2,p3,p4⟩:=p
 obtain⟨q1,q2,q3,q4⟩:=q
 clear hi hx hm
 go_enter Tryz.func31,Tryz.ntmps31
 go_wp2
 obtain⟨W1,HW1⟩:∃W1,Hid ((W.alloc (.cells #[.int .i64 0, .int .i64 l, .int .i64 w, .int .i64 t, .slice (some ⟨b,off,none⟩) 1 c] 25)).alloc (.cells #[.slice none 0 0, .slice none 0 0] 75)=W1):=⟨_,Lib.hid rfl⟩
 rw[HW1.out]
 have hW1:Below W.heap.size W W1:=by rw[←HW1.out];exact bel
 have HR:Hid (W1.heap[W.heap.size+1]? =some (.cells #[.slice none 0 0, .slice none 0 0] 75 (0,0))):=by rw[←HW1.out];exact Lib.hid (ai (by simp))
 have c1:=ab hW1 c0
 have zs:W1.heap.size=W.heap.size+2:=by rw[←HW1.out];simp
 clear HW1 c0
 refine cX [0,1,2,3,4,5,6,7,8,9,10,11,12,13] 14 [] (pick [
  IsV (.slice (some ⟨b,off,none⟩) 1 c),IsV (.pointer (some ⟨b,off,none⟩)),IsV (.int .i64 x),IsV (v4 (p1,p2,p3,p4)),IsP (W.heap.size+2) [(p1,p2,p3,p4)],IsC (W.heap.size+2) [[(p1,p2,p3,p4)]],
  IsV (.slice (some ⟨b,off,none⟩) 1 c),IsV (.pointer (some ⟨b,off,none⟩)),IsV (.int .i64 x),IsV (v4 (q1,q2,q3,q4)),IsP (W.heap.size+2) [(q1,q2,q3,q4)],IsC (W.heap.size+2) [[(q1,q2,q3,q4)]],
  IsK (W.heap.size+2) [[[(p1,p2,p3,p4)]],[[(q1,q2,q3,q4)]]],xD (W.heap.size+2) [[[(p1,p2,p3,p4)]],[[(q1,q2,q3,q4)]]]]) (by kernel_rfl) (by kernel_rfl) (Stabs.pick (by repeat(first|exact Stabs.nil|refine Stabs.cons (by first|exact dj _|exact dy _ _|exact dA _ _|exact dK _ _|exact di _ _) ?_))) ?_
 try go_frame
 refine aZ _ _ rfl rfl (by simp) (fun w' hb' hR K hK=> ?_) (fun v0=> ?_)
 ·clear hR
  go_simp
  exact hK _ _ (Below.refl _ _) rfl
 try go_frame
 refine aZ _ _ rfl rfl (by simp) (fun w' hb' hR K hK=> ?_) (fun v1=> ?_)
 ·obtain rfl:v0=_:=hr hR 0
  clear hR
  go_simp
  exact hK _ _ (Below.refl _ _) rfl
 try go_frame
 refine aZ _ _ rfl rfl (by simp) (fun w' hb' hR K hK=> ?_) (fun v2=> ?_)
 ·obtain rfl:v1=_:=hr hR 1
  have c2:=ab hb' c1
  have z2:=World.block_lt_of_cell? w' _ c2
  simp only at z2
  clear hR
  go_simp
  exact hK _ _ (Below.refl _ _) rfl
 try go_frame
 refine aZ _ _ rfl rfl (by simp) (fun w' hb' hR K hK=> ?_) (fun v3=> ?_)
 ·obtain rfl:v2=_:=hr hR 2
  clear hR
  go_simp
  refine((h1 _).out).mono ?_
  rintro e w1 ⟨rfl,hb1⟩
  exact hK _ _ hb1 rfl
 try go_frame
 refine aZ _ _ rfl rfl (by simp) (fun w' hb' hR K hK=> ?_) (fun v5=> ?_)
 ·obtain rfl:v3=_:=hr hR 3
  clear hR
  go_simp
  exact hK _ _ bel (dZ [(p1,p2,p3,p4)] rfl (by have:=hb'.size;omega) rfl)
 try go_frame
 refine aZ _ _ rfl rfl (by simp) (fun w' hb' hR K hK=> ?_) (fun v6=> ?_)
 ·have hp:PlanesV (W.heap.size+2) w' v5 _:=hr hR 4
  have HP:=Lib.hid hp
  obtain⟨⟨pa,pm,pc,rfl,_⟩,_⟩:=hp
  clear hR
  go_simp
  exact hK _ _ bel ⟨fI [_] [_] rfl rfl rfl (by
   intro q hq
   simp only[List.zip_cons_cons,List.zip_nil_right,List.mem_cons,List.not_mem_nil,or_false]at hq
   subst hq
   exact HP.out.below bel),At.mk (by have:=hb'.size;omega)⟩
 try go_frame
 refine aZ _ _ rfl rfl (by simp) (fun w' hb' hR K hK=> ?_) (fun w0=> ?_)
 ·clear hR
  go_simp
  exact hK _ _ (Below.refl _ _) rfl
 try go_frame
 refine aZ _ _ rfl rfl (by simp) (fun w' hb' hR K hK=> ?_) (fun w1=> ?_)
 ·obtain rfl:w0=_:=hr hR 6
  clear hR
  go_simp
  exact hK _ _ (Below.refl _ _) rfl
 try go_frame
 refine aZ _ _ rfl rfl (by simp) (fun w' hb' hR K hK=> ?_) (fun w2=> ?_)
 ·obtain rfl:w1=_:=hr hR 7
  have c2:=ab hb' c1
  have z2:=World.block_lt_of_cell? w' _ c2
  simp only at z2
  clear hR
  go_simp
  exact hK _ _ (Below.refl _ _) rfl
 try go_frame
 refine aZ _ _ rfl rfl (by simp) (fun w' hb' hR K hK=> ?_) (fun w3=> ?_)
 ·obtain rfl:w2=_:=hr hR 8
  clear hR
  go_simp
  refine((h2 _).out).mono ?_
  rintro e w1 ⟨rfl,hb1⟩
  exact hK _ _ hb1 rfl
 try go_frame
 refine aZ _ _ rfl rfl (by simp) (fun w' hb' hR K hK=> ?_) (fun w5=> ?_)
 ·obtain rfl:w3=_:=hr hR 9
  clear hR
  go_simp
  exact hK _ _ bel (dZ [(q1,q2,q3,q4)] rfl (by have:=hb'.size;omega) rfl)
 try go_frame
 refine aZ _ _ rfl rfl (by simp) (fun w' hb' hR K hK=> ?_) (fun w6=> ?_)
 ·have hp:PlanesV (W.heap.size+2) w' w5 _:=hr hR 10
  have HP:=Lib.hid hp
  obtain⟨⟨pa,pm,pc,rfl,_⟩,_⟩:=hp
  clear hR
  go_simp
  exact hK _ _ bel ⟨fI [_] [_] rfl rfl rfl (by
   intro q hq
   simp only[List.zip_cons_cons,List.zip_nil_right,List.mem_cons,List.not_mem_nil,or_false]at hq
   subst hq
   exact HP.out.below bel),At.mk (by have:=hb'.size;omega)⟩
 try go_frame
 refine aZ _ _ rfl rfl (by simp) (fun w' hb' hR K hK=> ?_) (fun x1=> ?_)
 ·have hp:CellsV (W.heap.size+2) w' v6 _:=hr hR 5
  have hq:CellsV (W.heap.size+2) w' w6 _:=hr hR 11
  have HP:=Lib.hid hp
  have HQ:=Lib.hid hq
  obtain⟨⟨pa,pm,pc,rfl,_⟩,_⟩:=hp
  obtain⟨⟨qa,qm,qc,rfl,_⟩,_⟩:=hq
  clear hR
  go_simp
  exact hK _ _ bel ⟨fI [_,_] [_,_] rfl rfl rfl (by
   intro q hq
   simp only[List.zip_cons_cons,List.zip_nil_right,List.mem_cons,List.not_mem_nil,or_false]at hq
   rcases hq with rfl|rfl
   ·exact HP.out.below bel
   ·exact HQ.out.below bel),At.mk (by have:=hb'.size;omega)⟩
 try go_frame
 refine aZ _ _ rfl rfl (by simp) (fun w' hb' hR K hK=> ?_) (fun x2=> ?_)
 ·have hp:PartsV (W.heap.size+2) w' x1 _:=hr hR 12
  have HP:=Lib.hid hp
  obtain⟨⟨pa,pm,pc,rfl,_⟩,_⟩:=hp
  clear hR
  go_simp
  exact hK _ _ (Below.refl _ _) ⟨_,rfl,HP.out⟩
 go_frame
 refine dE (fun w' hb' hR=> ?_)
 obtain⟨u,rfl,hp⟩:∃u,x2= .agg #[u, .slice none 0 0]∧PartsV (W.heap.size+2) w' u [[[(p1,p2,p3,p4)]],[[(q1,q2,q3,q4)]]]:=hR 13 (by simp)
 have HP:=Lib.hid hp
 obtain⟨⟨pa,pm,pc,rfl,_⟩,_⟩:=hp
 have HR':w'.heap[W.heap.size+1]? =some (.cells #[.slice none 0 0, .slice none 0 0] 75 (0,0)):=(hb'.block _ (ah HR.out)).trans HR.out
 have e0:=(ag HR' 0).trans rfl
 have e1:=(ag HR' 1).trans rfl
 have f0:=aC HR' 0
 have f1:=aC HR' 1
 have zu:=ah HR'
 clear hR
 simp only[oas]
 go_wp2
 refine NoPanic.normal ?_
 go_wp2
 refine bodyPost_ret (v:= .agg #[.slice pa pm pc, .slice none 0 0]) (by simp[results,Tryz.results31,go_sem,e0,e1]) rfl ⟨_,rfl, ?_, ?_⟩
 ·exact((ae hW1 hb').setCell (by simp) _).setCell (by simp) _
 ·exact((HP.out.far (by omega)).far (by omega)).mono (by omega)
theorem fC (ax:Nat) (lo hi:Int) (W:World) (hx:ax≤2) (hlo: -1000000000≤lo∧lo≤1000000000) (hhi: -1000000000≤hi∧hi≤1000000000):
  Calls Tryz.prog 72 #[.int .i64 ax, .int .i64 lo, .int .i64 hi] W fun e w'=>∃r,e= .returned r∧Below W.heap.size W w'∧PlanesV W.heap.size w' r [axP ax (-1) (-lo),axP ax 1 hi]:=by
 have h1:=fun W'=>Lib.hid (bX ax lo W' hx hlo)
 have h2:=fun W'=>Lib.hid (cR ax hi W' hx hhi)
 generalize axP ax (-1) (-lo)=p at*
 generalize axP ax 1 hi=q at*
 obtain⟨p1,p2,p3,p4⟩:=p
 obtain⟨q1,q2,q3,q4⟩:=q
 go_enter Tryz.func72,Tryz.ntmps72
 go_wp2_with fail
 refine((h1 _).out).mono ?_
 rintro e w1 ⟨rfl,hb1⟩
 go_wp2_with fail
 refine((h2 _).out).mono ?_
 rintro e w2 ⟨rfl,hb2⟩
 go_wp2
 go_ret
 have hs:=(ae hb1 hb2).size
 exact⟨_,rfl,ae (ae hb1 hb2) bel,dZ [(p1,p2,p3,p4),(q1,q2,q3,q4)] rfl hs rfl⟩
def IsO (B n:Nat) (ps:List Q4):Value→World→Prop:=fun v w=>w.ownsRow B 69 4 v n (ps.flatMap aH)
theorem fJ (B n:Nat) (ps:List Q4):dR (IsO B n ps):=fun _ _ _ hb h=>au h hb
def fU (l w t:Int) (c:List Q4):List Q4:=c++[axP 0 (-1) (-0),axP 0 1 l]++[axP 1 (-1) (-0),axP 1 1 w]++[axP 2 (-1) (-0),axP 2 1 t]
def jB (ps:List Q4):List Q4:=if bK ps=0 then iS ps else []
def dr (l w t:Int) (c:List Q4):List Q4:=jB (Lib.compact (fU l w t c))
def RowsV (w:World) (B:Nat) (vs:List Value) (css:List (List Q4)):Prop:=
 vs.length=css.length∧∀i (h1:i<vs.length) (h2:i<css.length),w.ownsRow B 69 4 vs[i] css[i].length (css[i].flatMap aH)
theorem RowsV.below {w w':World} {B:Nat} {vs:List Value} {css:List (List Q4)} (h:RowsV w B vs css) (hb:Below w.heap.size w w'):RowsV w' B vs css:=⟨h.1,fun i h1 h2=>au (h.2 i h1 h2) hb⟩
theorem RowsV.snoc {w:World} {B:Nat} {vs:List Value} {css:List (List Q4)} {v:Value} {cs:List Q4} (h:RowsV w B vs css) (hv:w.ownsRow B 69 4 v cs.length (cs.flatMap aH)):RowsV w B (vs++[v]) (css++[cs]):=by
 refine⟨by simp[h.1],fun i h1 h2=> ?_⟩
 by_cases hi:i<vs.length
 ·have hc:i<css.length:=by rw[←h.1];exact hi
  rw[List.getElem_append_left hi,List.getElem_append_left hc]
  exact h.2 i hi hc
 ·have he:i=vs.length:=by simp at h1;omega
  subst he
  have:=h.1
  simp only[List.getElem_append_right (Nat.le_refl _),Nat.sub_self,List.getElem_cons_zero]
  rw[List.getElem_append_right (by omega)]
  simp only[this,Nat.sub_self,List.getElem_cons_zero]
  exact hv
theorem RowsV.nil {w:World} {B:Nat}:RowsV w B [] []:=⟨rfl,fun _ h=>by simp at h⟩
theorem RowsV.kept {w w':World} {B:Nat} {vs:List Value} {css:List (List Q4)} {row:Option Nat} (h:RowsV w B vs css) (hg:w.grownBy w' row) (hne:∀g cs,row=some g→w.heap[g]? =some cs→∃c t,cs= .cells c t (0,0)∧t≠69):RowsV w' B vs css:=by
 refine⟨h.1,fun i h1 h2=>(h.2 i h1 h2).kept hg ?_⟩
 cases hr:row with
 |none=>cases hv:vs[i].ownBlock<;>simp
 |some g=>
  right
  intro e
  rcases(h.2 i h1 h2).2 with⟨hv,_⟩|⟨g',cap,cur,hv,_,hh,_⟩
  ·rw[hv]at e;simp[Value.ownBlock]at e
  ·rw[hv]at e
   have:g'=g:=by simpa [Value.ownBlock]using e
   subst this
   obtain⟨c,t,h3,h4⟩:=hne _ _ hr hh
   cases h3
   exact h4 rfl
theorem RowsV.set {w:World} {B g i:Nat} {u:Value} {vs:List Value} {css:List (List Q4)} {c:Array Value} {T:TypeId} (h:RowsV w B vs css) (hg:w.heap[g]? =some (.cells c T (0,0))) (hT:69≠T):RowsV (w.setCell ⟨g,i,none⟩ u) B vs css:=
 ⟨h.1,fun k h1 h2=>aF (h.2 k h1 h2) _ _ (fun e=>aG (h.2 k h1 h2) hg hT e.symm)⟩
theorem RowsV.mono {w:World} {B B':Nat} {vs:List Value} {css:List (List Q4)} (h:RowsV w B vs css) (hb:B'≤B):RowsV w B' vs css:=⟨h.1,fun i h1 h2=>AY (h.2 i h1 h2) hb⟩
theorem aT {w:World} {base:Nat} {e:TypeId} {size n:Nat} {v:Value} {xs:List Value} (h:w.ownsRow base e size v n xs):∃a c,v= .slice a n c:=by
 rcases h.2 with⟨hv,h0⟩|⟨g,cap,cur,hv,_⟩
 ·exact⟨none,0,by rw[hv,h0]⟩
 ·exact⟨_,_,hv⟩
theorem jC {w:World} {base:Nat} {e:TypeId} {size n:Nat} {v:Value} {xs:List Value} (h:w.ownsRow base e size v n xs):∀g cs,v.ownBlock=some g→w.heap[g]? =some cs→∃c t,cs= .cells c t (0,0)∧t=e:=by
 intro g cs hv hg
 rcases h.2 with⟨rfl,_⟩|⟨g',cap,cur,rfl,_,hh,_⟩
 ·simp[Value.ownBlock]at hv
 ·have:g'=g:=by simpa [Value.ownBlock]using hv
  subst this
  rw[hh]at hg
  cases hg
  exact⟨_,_,rfl,rfl⟩
theorem nt:(Tryz.prog.info? 67).map (fun i=>(i.zero,i.size,i.bytes))=some (some (.agg #[.slice none 0 0]),1,24):=by kernel_rfl
theorem nu:Tryz.prog.underlying 28=some (.slice 67):=by kernel_rfl
theorem nw (ps:List Q4):∀u∈ps.flatMap aH,u.oneCell'=true:=fun u hu=>by
 obtain⟨x,_,hx⟩:=List.mem_flatMap.1 hu
 exact mh x u hx
theorem bh (ps:List Q4):(ps.flatMap aH).length=ps.length*4:=by
 induction ps with
 |nil=>rfl
 |cons p ps ih=>simp[aH]at ih ⊢;omega
theorem tu (l w t:Int) (cv:Value) (cs:List (List Q4)) (W:World) (hl: -1000000≤l∧l≤1000000) (hw: -1000000≤w∧w≤1000000) (ht: -1000000≤t∧t≤1000000)
  (B:Nat) (hcv:CellsV B W cv cs) (hn:cs.length≤1000000) (hps:∀c∈cs,c.length≤1000):
  Calls Tryz.prog 30 #[.agg #[.int .i64 l, .int .i64 w, .int .i64 t],cv] W fun e w'=>∃v vs,e= .returned (.agg #[v])∧Below W.heap.size W w'∧
   w'.ownsRow W.heap.size 67 1 v cs.length vs∧RowsV w' W.heap.size vs (cs.map (dr l w t)):=by
 have HCV:=Lib.hid hcv
 obtain⟨⟨a,n,cc,rfl,hlen,hnc,hx⟩,_⟩:=hcv
 have HX:=Lib.hid hx
 have HN:=Lib.hid hps
 have Hlen:=Lib.hid hlen
 obtain⟨i0,hi0,hz0,hz1,hz2⟩:=info_parts nt
 have Hi0:=Lib.hid (And.intro hi0 (And.intro hz0 (And.intro hz1 hz2)))
 have HB0:=fun W'=>Lib.hid (fC 0 0 l W' (by omega) (by omega) (by omega))
 have HB1:=fun W'=>Lib.hid (fC 1 0 w W' (by omega) (by omega) (by omega))
 have HB2:=fun W'=>Lib.hid (fC 2 0 t W' (by omega) (by omega) (by omega))
 clear hx hps hi0 hz0 hz1 hz2
 rw[hlen]at hn ⊢
 clear hlen
 go_enter Tryz.func30,Tryz.ntmps30
 go_wp2
 obtain⟨W1,HW1⟩:∃W1,Hid (((W.alloc (.cells #[.int .i64 l, .int .i64 w, .int .i64 t] 22)).alloc (.cells #[.slice none 0 0] 30)).alloc (.cells #[.slice none 0 0] 30)=W1):=⟨_,Lib.hid rfl⟩
 rw[HW1.out]
 have hW1:Below W.heap.size W W1:=by rw[←HW1.out];exact bel
 have zW1:W1.heap.size=W.heap.size+3:=by rw[←HW1.out];simp
 have HS1:Hid (W1.heap[W.heap.size]? =some (.cells #[.int .i64 l, .int .i64 w, .int .i64 t] 22 (0,0))):=Lib.hid (by rw[←HW1.out];exact(aB (by simp;omega)).trans ((aB (by simp)).trans (ai rfl)))
 have HR1:Hid (W1.heap[W.heap.size+1]? =some (.cells #[.slice none 0 0] 30 (0,0))):=Lib.hid (by rw[←HW1.out];exact(aB (by simp)).trans (ai (by simp)))
 have HO1:Hid (W1.heap[W.heap.size+2]? =some (.cells #[.slice none 0 0] 30 (0,0))):=Lib.hid (by rw[←HW1.out];exact ai (by simp))
 clear HW1
 go_loopw [13] (fun i wr=>∃k:Nat,k≤n∧i= .int .i64 k∧Below W.heap.size W wr∧W.heap.size+3≤wr.heap.size∧Hid (wr.heap[W.heap.size]? =some (.cells #[.int .i64 l, .int .i64 w, .int .i64 t] 22 (0,0)))∧
   Hid (wr.heap[W.heap.size+1]? =some (.cells #[.slice none 0 0] 30 (0,0)))∧∃s vs,Hid (wr.heap[W.heap.size+2]? =some (.cells #[s] 30 (0,0)))∧Hid (wr.ownsRow (W.heap.size+3) 67 1 s k vs)∧Hid (RowsV wr (W.heap.size+3) vs ((cs.take k).map (dr l w t)))) (fun i _=>n-(intOf i).toNat)
 case atStart=>exact⟨0,by omega,rfl,hW1,by omega,HS1,HR1, .slice none 0 0,[],HO1,Lib.hid (World.ownsRow_nil _ _ _ _),Lib.hid RowsV.nil⟩
 case round=>
  clear hW1 zW1 HS1 HR1 HO1
  obtain⟨k,hk,rfl,hb,zr,HS,HR,s,vs,HG,HO,HV⟩:=hrel
  by_cases hlt:k<n
  ·have hk':k<cs.length:=by have:=Hlen.out;omega
   obtain⟨b,off,rfl,hi⟩:=HX.out (by omega)
   obtain⟨u,hu,hpl⟩:=hi k hk'
   have cu:=ab hb hu
   have zb:=World.block_lt_of_cell? wr _ cu
   simp only at zb
   have HP:=Lib.hid (hpl.below hb)
   have HPn:=Lib.hid (HN.out cs[k] (List.getElem_mem hk'))
   have Hsn:Hid ((cs.take (k+1)).map (dr l w t)=(cs.take k).map (dr l w t)++[dr l w t cs[k]]):=Lib.hid (by rw[List.take_succ_eq_append_getElem hk',List.map_append];rfl)
   generalize cs[k]=c at*
   clear hi hu hpl
   have q1:(k:Int)<(n:Int):=by omega
   have q2:(0:Int)≤(k:Int):=by omega
   obtain⟨pa,pm,pc,rfl⟩:∃pa pm pc,u= .slice pa pm pc:=by obtain⟨⟨a,m,c,h,_⟩,_⟩:=HP.out;exact⟨a,m,c,h⟩
   go_wp2
   have zO:=HS.out
   have s0:=(ag HS.out 0).trans rfl
   have s1:=(ag HS.out 1).trans rfl
   have s2:=(ag HS.out 2).trans rfl
   simp only[List.getElem?_toArray,List.getElem?_cons_zero,List.getElem?_cons_succ]at s0 s1 s2
   clear zO cu
   refine cX [0,1,2,3,4,5,6,7,8,9,10,11] 12 [] (pick [
    IsP B c,IsV (.pointer (some ⟨W.heap.size,0,none⟩)),IsV (.int .i64 l),IsP 0 [axP 0 (-1) (-0),axP 0 1 l],
    IsV (.pointer (some ⟨W.heap.size,1,none⟩)),IsV (.int .i64 w),IsP 0 [axP 1 (-1) (-0),axP 1 1 w],
    IsV (.pointer (some ⟨W.heap.size,2,none⟩)),IsV (.int .i64 t),IsP 0 [axP 2 (-1) (-0),axP 2 1 t],
    IsC 0 [c,[axP 0 (-1) (-0),axP 0 1 l],[axP 1 (-1) (-0),axP 1 1 w],[axP 2 (-1) (-0),axP 2 1 t]],IsO wr.heap.size (fU l w t c).length (fU l w t c)]) (by kernel_rfl) (by kernel_rfl) (Stabs.pick (by repeat(first|exact Stabs.nil|refine Stabs.cons (by first|exact dj _|exact dy _ _|exact dA _ _|exact dK _ _|exact di _ _|exact fJ _ _ _) ?_))) ?_
   try go_frame
   refine aZ _ _ rfl rfl (by simp) (fun w' hb' hR K hK=> ?_) (fun v0=> ?_)
   ·clear hR
    have:=HP.out.below hb'
    go_simp
    exact hK _ _ (Below.refl _ _) this
   try go_frame
   refine aZ _ _ rfl rfl (by simp) (fun w' hb' hR K hK=> ?_) (fun v1=> ?_)
   ·clear hR
    have z:=hb'.size
    go_simp
    exact hK _ _ (Below.refl _ _) rfl
   try go_frame
   refine aZ _ _ rfl rfl (by simp) (fun w' hb' hR K hK=> ?_) (fun v2=> ?_)
   ·obtain rfl:v1=_:=hr hR 1
    have c2:=ab hb' s0
    have z2:=World.block_lt_of_cell? w' _ c2
    simp only at z2
    clear hR
    go_simp
    exact hK _ _ (Below.refl _ _) rfl
   try go_frame
   refine aZ _ _ rfl rfl (by simp) (fun w' hb' hR K hK=> ?_) (fun v3=> ?_)
   ·obtain rfl:v2=_:=hr hR 2
    clear hR
    go_simp
    refine((HB0 _).out).mono ?_
    rintro e w1 ⟨r,rfl,hb1,hp⟩
    exact hK _ _ hb1 (hp.mono (Nat.zero_le _))
   try go_frame
   refine aZ _ _ rfl rfl (by simp) (fun w' hb' hR K hK=> ?_) (fun v4=> ?_)
   ·clear hR
    have z:=hb'.size
    go_simp
    exact hK _ _ (Below.refl _ _) rfl
   try go_frame
   refine aZ _ _ rfl rfl (by simp) (fun w' hb' hR K hK=> ?_) (fun v5=> ?_)
   ·obtain rfl:v4=_:=hr hR 4
    have c2:=ab hb' s1
    have z2:=World.block_lt_of_cell? w' _ c2
    simp only at z2
    clear hR
    go_simp
    exact hK _ _ (Below.refl _ _) rfl
   try go_frame
   refine aZ _ _ rfl rfl (by simp) (fun w' hb' hR K hK=> ?_) (fun v6=> ?_)
   ·obtain rfl:v5=_:=hr hR 5
    clear hR
    go_simp
    refine((HB1 _).out).mono ?_
    rintro e w1 ⟨r,rfl,hb1,hp⟩
    exact hK _ _ hb1 (hp.mono (Nat.zero_le _))
   try go_frame
   refine aZ _ _ rfl rfl (by simp) (fun w' hb' hR K hK=> ?_) (fun v7=> ?_)
   ·clear hR
    have z:=hb'.size
    go_simp
    exact hK _ _ (Below.refl _ _) rfl
   try go_frame
   refine aZ _ _ rfl rfl (by simp) (fun w' hb' hR K hK=> ?_) (fun v8=> ?_)
   ·obtain rfl:v7=_:=hr hR 7
    have c2:=ab hb' s2
    have z2:=World.block_lt_of_cell? w' _ c2
    simp only at z2
    clear hR
    go_simp
    exact hK _ _ (Below.refl _ _) rfl
   try go_frame
   refine aZ _ _ rfl rfl (by simp) (fun w' hb' hR K hK=> ?_) (fun v9=> ?_)
   ·obtain rfl:v8=_:=hr hR 8
    clear hR
    go_simp
    refine((HB2 _).out).mono ?_
    rintro e w1 ⟨r,rfl,hb1,hp⟩
    exact hK _ _ hb1 (hp.mono (Nat.zero_le _))
   try go_frame
   refine aZ _ _ rfl rfl (by simp) (fun w' hb' hR K hK=> ?_) (fun v10=> ?_)
   ·have hp0:PlanesV B w' v0 _:=hr hR 0
    have hp1:PlanesV 0 w' v3 _:=hr hR 3
    have hp2:PlanesV 0 w' v6 _:=hr hR 6
    have hp3:PlanesV 0 w' v9 _:=hr hR 9
    have HP0:=Lib.hid hp0
    have HP1:=Lib.hid hp1
    have HP2:=Lib.hid hp2
    have HP3:=Lib.hid hp3
    obtain⟨⟨a0,m0,c0,rfl,_⟩,_⟩:=hp0
    obtain⟨⟨a1,m1,c1,rfl,_⟩,_⟩:=hp1
    obtain⟨⟨a2,m2,c2,rfl,_⟩,_⟩:=hp2
    obtain⟨⟨a3,m3,c3,rfl,_⟩,_⟩:=hp3
    clear hR
    go_simp
    exact hK _ _ bel ⟨fI [_,_,_,_] [_,_,_,_] rfl rfl rfl (by
     intro q hq
     simp only[List.zip_cons_cons,List.zip_nil_right,List.mem_cons,List.not_mem_nil,or_false]at hq
     rcases hq with rfl|rfl|rfl|rfl
     ·exact(HP0.out.below bel).mono (Nat.zero_le _)
     ·exact HP1.out.below bel
     ·exact HP2.out.below bel
     ·exact HP3.out.below bel),At.mk (Nat.zero_le _)⟩
   try go_frame
   refine aZ _ _ rfl rfl (by simp) (fun w' hb' hR K hK=> ?_) (fun v11=> ?_)
   ·have hp:CellsV 0 w' v10 _:=hr hR 10
    obtain⟨⟨a0,m0,c0,rfl,hm0,_,hx0⟩,_⟩:=hp
    obtain rfl:m0=4:=by simpa using hm0.symm
    obtain⟨b0,off0,rfl,hi0⟩:=hx0 (by omega)
    have e1:(([c,[axP 0 (-1) (-0),axP 0 1 l],[axP 1 (-1) (-0),axP 1 1 w],[axP 2 (-1) (-0),axP 2 1 t]]:List (List Q4)).map (List.flatMap aH)).flatten=(fU l w t c).flatMap aH:=by simp[fU]
    have hcat:=Lib.hid (kW w' b0 off0 c0 (([c,[axP 0 (-1) (-0),axP 0 1 l],[axP 1 (-1) (-0),axP 1 1 w],[axP 2 (-1) (-0),axP 2 1 t]]:List (List Q4)).map (List.flatMap aH)) (by
      intro i hi
      obtain⟨u,hu,hpu⟩:=hi0 i (by simpa using hi)
      exact⟨u,hu,by rw[List.getElem_map];exact hpu.1⟩) (by simp) (by simp) (by
      intro cs' hcs'
      obtain⟨x,_,rfl⟩:=List.mem_map.1 hcs'
      exact nw x) (by
      rw[e1,bh]
      have:=HPn.out
      simp[fU]
      omega))
    have hz:=hb'.size
    have E1:=Lib.hid e1
    clear hR hi0 hx0 e1
    go_simp
    refine hcat.out.mono ?_
    rintro e w1 ⟨r,m,rfl,hb1,ho⟩
    refine hK _ _ hb1 ?_
    rw[E1.out]at ho
    have e2:m=(fU l w t c).length:=by have:=ho.1;rw[bh]at this;omega
    rw[e2]at ho
    exact AY ho (by omega)
   go_frame
   refine dE (fun w' hb' hR=> ?_)
   have ho:w'.ownsRow wr.heap.size 69 4 v11 (fU l w t c).length ((fU l w t c).flatMap aH):=hR 11 (by simp)
   have HQ:=Lib.hid ho
   have Hbl:Hid ((fU l w t c).length≤10000):=Lib.hid (by have:=HPn.out;simp[fU];omega)
   clear hR ho HP s0 s1 s2 zb
   obtain⟨bp,Hbp⟩:∃bp,Hid (fU l w t c=bp):=⟨_,Lib.hid rfl⟩
   rw[Hbp.out]at HQ Hbl
   have hcm:=Lib.hid (kh bp wr.heap.size bp.length v11 w' rfl (by have:=Hbl.out;omega) HQ.out)
   simp only[oas]
   go_wp2
   refine NoPanic.normal ?_
   go_wp2_with fail
   refine hcm.out.mono ?_
   rintro e w2 ⟨cv',rfl,hg2,⟨ca,cn,cc',rfl⟩,ho2⟩
   have hb2:Below wr.heap.size wr w2:=hb'.grown hg2 hb'.size (fun q hq=>(HQ.out.lt q hq).1)
   have hQ2:=dV ho2
   have Hcl:Hid ((Lib.compact bp).length≤10000):=Lib.hid (Nat.le_trans (eR bp) Hbl.out)
   obtain⟨cb,Hcb⟩:∃cb,Hid (Lib.compact bp=cb):=⟨_,Lib.hid rfl⟩
   rw[Hcb.out]at hQ2 Hcl
   have hnm:=Lib.hid (qW cb (.slice ca cn cc') w2 (by have:=Hcl.out;omega) hQ2)
   clear hcm hg2 ho2 hQ2 HQ hb'
   go_wp2_with fail
   refine hnm.out.mono ?_
   rintro e w3 ⟨hb3,hpost⟩
   obtain⟨nv,err,rfl,hown3⟩:∃nv err,e= .returned (.tuple #[.agg #[nv], .int .i64 err])∧w3.ownsRow wr.heap.size 69 4 nv (jB cb).length ((jB cb).flatMap aH):=by
    rcases hpost with⟨h0,v,rfl,ho⟩|⟨h0,rfl⟩
    ·exact⟨_,_,rfl,by unfold jB;rw[if_pos h0];exact AY ho hb2.size⟩
    ·exact⟨_,_,rfl,by unfold jB;rw[if_neg h0];exact World.ownsRow_nil _ _ _ _⟩
   have hbw3:Below wr.heap.size wr w3:=hb2.trans (hb3.mono hb2.size)
   obtain⟨na,nn,nc,rfl⟩:∃a m c,nv= .slice a m c:=by obtain⟨a,m,c,h,_⟩:=dV hown3;exact⟨a,m,c,h⟩
   have HN3:=Lib.hid hown3
   have HS3:Hid (w3.heap[W.heap.size]? =_):=Lib.hid ((hbw3.block _ (ah HS.out)).trans HS.out)
   have HR3:Hid (w3.heap[W.heap.size+1]? =_):=Lib.hid ((hbw3.block _ (ah HR.out)).trans HR.out)
   have HG3:Hid (w3.heap[W.heap.size+2]? =_):=Lib.hid ((hbw3.block _ (ah HG.out)).trans HG.out)
   have HO3:=Lib.hid (au HO.out hbw3)
   have HV3:=Lib.hid (HV.out.below hbw3)
   have hW3:=ae hb hbw3
   have zr3:=Nat.le_trans zr hbw3.size
   have Hnn:Hid (dr l w t c=jB cb):=Lib.hid (by unfold dr;rw[Hbp.out,Hcb.out])
   have HN4:=Lib.hid (AY HN3.out zr)
   clear hpost hown3 hnm hb2 hb3 hbw3 HS HR HG HO HV hb zr Hbp Hcb HN3
   obtain⟨sa,sc,rfl⟩:=aT HO3.out
   have g0:w3.cell? ⟨W.heap.size+2,0,none⟩=some (.slice sa k sc):=(ag HG3.out 0).trans rfl
   have zg:=ah HG3.out
   go_wp2_with (at_builtin;refine wpList_append_own _ rfl _ _ 28 rfl (W.heap.size+3) 67 i0 (.agg #[.slice none 0 0]) 1 24 nu Hi0.out.1 Hi0.out.2.1 Hi0.out.2.2.1 Hi0.out.2.2.2 rfl (by decide) (.slice sa k sc) k _ rfl ((HO3.out.alloc _).alloc _) ⟨w3.heap.size+1,0,none⟩ 1 1 [.slice na nn nc] rfl rfl ?c1 ?c2 ?c3 ?c4 ?c5 ?_)
   case c1=>
    intro jj uu hu
    rw[jY,aq (by simp) jj]
    simpa using hu
   case c2=>intro v hv;simp at hv;subst hv;rfl
   case c3=>unfold maxLen;omega
   case c4=>omega
   case c5=>simp;omega
   intro v' w5 hown5 hg5 _
   obtain⟨va,vc,rfl⟩:=aT hown5
   have e4:∀g,g<w3.heap.size→((w3.alloc (.cells #[.slice na nn nc] 67)).alloc (.cells #[.slice na nn nc] 67)).heap[g]? =w3.heap[g]? :=fun g hg=>(aB (by simp;omega)).trans (aB hg)
   have HO4:=Lib.hid ((HO3.out.alloc (.cells #[.slice na nn nc] 67)).alloc (.cells #[.slice na nn nc] 67))
   have HS5:Hid (w5.heap[W.heap.size]? =_):=Lib.hid ((hg5.block _ (by simp;omega) (fun e=>aG HO4.out ((e4 _ (ah HS3.out)).trans HS3.out) (by decide) e.symm)).trans ((e4 _ (ah HS3.out)).trans HS3.out))
   have HR5:Hid (w5.heap[W.heap.size+1]? =_):=Lib.hid ((hg5.block _ (by simp;omega) (fun e=>aG HO4.out ((e4 _ (ah HR3.out)).trans HR3.out) (by decide) e.symm)).trans ((e4 _ (ah HR3.out)).trans HR3.out))
   have HG5:Hid (w5.heap[W.heap.size+2]? =_):=Lib.hid ((hg5.block _ (by simp;omega) (fun e=>aG HO4.out ((e4 _ (ah HG3.out)).trans HG3.out) (by decide) e.symm)).trans ((e4 _ (ah HG3.out)).trans HG3.out))
   have hb34:Below w3.heap.size w3 ((w3.alloc (.cells #[.slice na nn nc] 67)).alloc (.cells #[.slice na nn nc] 67)):=bel
   have HV5:=Lib.hid (((HV3.out.snoc HN4.out).below hb34).kept hg5 (fun g cs hr hc=>by obtain⟨c,t,h1,h2⟩:=jC HO4.out g cs hr hc;exact⟨c,t,h1,by rw[h2];decide⟩))
   have hW5:Below W.heap.size W w5:=(ae hW3 hb34).grown hg5 (by simp;omega) (fun q hq=>by have:=(HO4.out.lt q hq).1;omega)
   have zr5:W.heap.size+3≤w5.heap.size:=Nat.le_trans (by simp;omega) hg5.size
   have HO5:=Lib.hid hown5
   have g5:w5.cell? ⟨W.heap.size+2,0,none⟩=some (.slice sa k sc):=(ag HG5.out 0).trans rfl
   have gf:=aC HG5.out 0
   have zg5:=ah HG5.out
   clear hown5 hg5 e4 HO4 HS3 HR3 HG3 HO3 HV3 hb34 hW3 zr3 zg g0 HN4
   go_wp2
   go_roundw
   case rel=>
    refine⟨k+1,by omega,by go_num,hW5.setCell (by simp<;>omega) _,(by simp;omega),Lib.hid ((Below.heap_setCell _ _ _ _ (by simp<;>omega)).trans HS5.out),Lib.hid ((Below.heap_setCell _ _ _ _ (by simp<;>omega)).trans HR5.out), .slice va (k+1) vc,_,Lib.hid (br HG5.out 0 _),Lib.hid (aF HO5.out _ _ (fun e=>aG HO5.out HG5.out (by decide) e.symm)),Lib.hid ?_⟩
    rw[Hsn.out,Hnn.out]
    exact HV5.out.set HG5.out (by decide)
   case measure=>simp[intOf];omega
  ·obtain rfl:k=n:=by omega
   obtain⟨sa,sc,rfl⟩:=aT HO.out
   have g0:wr.cell? ⟨W.heap.size+2,0,none⟩=some (.slice sa k sc):=(ag HG.out 0).trans rfl
   have r0:wr.cell? ⟨W.heap.size+1,0,none⟩=some (.slice none 0 0):=(ag HR.out 0).trans rfl
   have rf:=aC HR.out 0
   have zg:=ah HG.out
   go_wp2
   refine bodyPost_ret (v:= .agg #[.slice sa k sc]) (by simp[results,Tryz.results30,go_sem,r0]) rfl ⟨_,vs,rfl,hb.setCell (by simp) _, ?_, ?_⟩
   ·exact AY (aF HO.out _ _ (fun e=>aG HO.out HR.out (by decide) e.symm)) (by omega)
   ·have:=HV.out
    rw[List.take_of_length_le (by have:=Hlen.out;omega)]at this
    exact(this.set HR.out (by decide)).mono (by omega)
end
section
open Go.RowKit
theorem jD (l:List Q4):∀i (h:i<l.length),l[i]∈Lib.compact l
 |0,h=>by
  simp only[Lib.compact,Lib.compactUpTo,List.mem_map,List.mem_filter,List.mem_range]
  exact⟨0,⟨h,by simp[Lib.keeps]⟩,by rw[getElem!_pos l.toArray 0 (by simpa using h)];simp⟩
 |i+1,h=>by
  by_cases hk:Lib.keeps l.toArray (i+1)=true
  ·simp only[Lib.compact,Lib.compactUpTo,List.mem_map,List.mem_filter,List.mem_range]
   exact⟨i+1,⟨h,hk⟩,by rw[getElem!_pos l.toArray (i+1) (by simpa using h)];simp⟩
  ·have e:l[i+1]=l[i]:=by
    simp only[Lib.keeps]at hk
    rw[getElem!_pos l.toArray (i+1) (by simpa using h),getElem!_pos l.toArray (i+1-1) (by simp;omega)]at hk
    simpa using hk
   rw[e]
   exact jD l i (by omega)
theorem fd (l:List Q4) (x:Q4):x∈Lib.compact l↔x∈l:=
 ⟨kU,fun h=>by obtain⟨i,hi,rfl⟩:=List.getElem_of_mem h;exact jD l i hi⟩
theorem fe (ps:List Q4) (c:Q4):c∈aS ps↔c∈raw ps ps.length:=by
 unfold aS
 rw[fd]
 simp[ed]
theorem ld {ps:List Q4} {n:Nat} {c:Q4} (h:c∈raw ps n):bG ps c=true:=by
 unfold raw gJ gI at h
 simp only[List.mem_flatMap,List.mem_range]at h
 obtain⟨i,_,k,_,m,_,h⟩:=h
 unfold jo at h
 split at h
 ·cases h
 ·split at h
  ·rename_i ha
   rw[List.mem_singleton]at h
   subst h
   exact ha
  ·cases h
theorem dL {ps:List Q4} {c:Q4} (h:bG ps c=true) {p:Q4} (hp:p∈ps):0≤slk p (xyz c) c.2.2.2:=by
 unfold bG at h
 simp only[Bool.not_eq_true',List.any_eq_false,decide_eq_true_eq]at h
 have:=h p hp
 rw[mt,kS]at this
 omega
structure HasBox (ps:List Q4) (l w t:Int):Prop where
 x0:(-1,0,0,0)∈ps
 x1:(1,0,0,l)∈ps
 y0:(0, -1,0,0)∈ps
 y1:(0,1,0,w)∈ps
 z0:(0,0, -1,0)∈ps
 z1:(0,0,1,t)∈ps
theorem HasBox.ray {ps:List Q4} {l w t:Int} (h:HasBox ps l w t) (d:Q3) (hd:d≠(0,0,0)):∃p∈ps,0<bj (nrm p) d:=by
 obtain⟨a,b,c⟩:=d
 by_cases h1:0<a
 ·exact⟨_,h.x1,by simp[bj,nrm];omega⟩
 by_cases h2:a<0
 ·exact⟨_,h.x0,by simp[bj,nrm];omega⟩
 by_cases h3:0<b
 ·exact⟨_,h.y1,by simp[bj,nrm];omega⟩
 by_cases h4:b<0
 ·exact⟨_,h.y0,by simp[bj,nrm];omega⟩
 by_cases h5:0<c
 ·exact⟨_,h.z1,by simp[bj,nrm];omega⟩
 by_cases h6:c<0
 ·exact⟨_,h.z0,by simp[bj,nrm];omega⟩
 exact absurd (by simp only[Prod.mk.injEq];omega) hd
theorem vu (a b:Q3):bj a b=bj b a:=by unfold bj;grind
theorem HasBox.bounded {ps:List Q4} {l w t:Int} (h:HasBox ps l w t):dc ps=true:=by
 unfold dc
 rw[Bool.and_eq_true]
 constructor
 ·rw[List.all_eq_true]
  intro i _
  rw[List.all_eq_true]
  intro k _
  unfold ij nzB
  by_cases h0:dJ ps i k=(0,0,0)
  ·simp[h0]
  ·have hn:decide (dJ ps i k≠(0,0,0))=true:=decide_eq_true h0
   rw[hn]
   have h1:=h.ray _ h0
   have h2:=h.ray (-(dJ ps i k).1, -(dJ ps i k).2.1, -(dJ ps i k).2.2) (fun e=>h0 (by
    generalize dJ ps i k=v at*
    obtain⟨a,b,c⟩:=v
    simp only[Prod.mk.injEq]at e ⊢
    omega))
   obtain⟨p,hp,hpd⟩:=h1
   obtain⟨q,hq,hqd⟩:=h2
   have e1:mR ps (dJ ps i k) ps.length=true:=by
    unfold mR
    rw[List.take_length,List.any_eq_true]
    exact⟨p,hp,by rw[vu];exact decide_eq_true hpd⟩
   have e2:mS ps (dJ ps i k) ps.length=true:=by
    unfold mS
    rw[List.take_length,List.any_eq_true]
    refine⟨q,hq,decide_eq_true ?_⟩
    have:bj (nrm q) (-(dJ ps i k).1, -(dJ ps i k).2.1, -(dJ ps i k).2.2)= -(bj (dJ ps i k) (nrm q)):=by unfold bj;grind
    omega
   rw[e1,e2];rfl
 ·obtain⟨i,hi,ei⟩:=jA h.x1
  obtain⟨k,hk,ek⟩:=jA h.y1
  have hne:i≠k:=fun e=>by subst e;rw[ei]at ek;simp at ek
  unfold jw jv
  rw[List.any_eq_true]
  rcases Nat.lt_or_gt_of_ne hne with hl|hl
  ·refine⟨k,by simpa using hk, ?_⟩
   rw[List.any_eq_true]
   refine⟨i,by simpa using hl, ?_⟩
   unfold nzB dJ
   rw[ei,ek]
   simp[aN,nrm]
  ·refine⟨i,by simpa using hi, ?_⟩
   rw[List.any_eq_true]
   refine⟨k,by simpa using hl, ?_⟩
   unfold nzB dJ
   rw[ei,ek]
   simp[aN,nrm]
theorem pC {p:Q4} (h:cI p):bP p=0:=by
 obtain⟨⟨h1,h2,h3,h4⟩,h5⟩:=h
 unfold bP
 split
 ·omega
 ·split
  ·omega
  ·first|rfl|(split<;>omega)
theorem pD {ps:List Q4} {l w t:Int} (h:HasBox ps l w t) (hlen:ps.length≤16) (hok:∀p∈ps,cI p) (hl:1≤l∧l≤100000) (hw:1≤w∧w≤100000) (ht:1≤t∧t≤100000)
  (x:Q3) (W:Int) (hW:0<W) (hin:∀p∈ps,0<slk p x W):bK ps=0:=by
 have h1:cJ ps=0:=iQ ps (fun i hi=>pC (hok _ (List.getElem_mem hi)))
 have h2:fh ps (aS ps)=true:=by
  unfold fh
  rw[Bool.and_eq_true]
  refine⟨?_,decide_eq_true (List.length_pos_of_mem h.x0)⟩
  rw[List.all_eq_true]
  intro p hp
  unfold gM
  rw[List.any_eq_true]
  obtain⟨c,hc,hs⟩:=od ps h.ray x W hW hin p hp
  exact⟨c,(fe ps c).2 hc,decide_eq_true hs⟩
 have h3:kT (aS ps)=true:=by
  unfold kT
  simp only[Bool.not_eq_true',List.any_eq_false]
  intro c hc
  have hc':=(fe ps c).1 hc
  have ha:=ld hc'
  have hn:=iD ps (fun p hp=>(hok p hp).1) ps.length (Nat.le_refl _) c hc'
  have a1:=dL ha h.x0
  have a2:=dL ha h.x1
  have a3:=dL ha h.y0
  have a4:=dL ha h.y1
  have a5:=dL ha h.z0
  have a6:=dL ha h.z1
  simp only[slk,bj,nrm,xyz]at a1 a2 a3 a4 a5 a6
  have hd:=hn.1.2.2.2
  have b1:l*c.2.2.2≤100000*c.2.2.2:=Int.mul_le_mul_of_nonneg_right hl.2 (by omega)
  have b2:w*c.2.2.2≤100000*c.2.2.2:=Int.mul_le_mul_of_nonneg_right hw.2 (by omega)
  have b3:t*c.2.2.2≤100000*c.2.2.2:=Int.mul_le_mul_of_nonneg_right ht.2 (by omega)
  simp only[lw,Bool.and_eq_false_iff,decide_eq_false_iff_not]
  omega
 unfold bK
 rw[if_neg (by omega),if_neg (by simp[h1]),if_neg (by simp[h.bounded]),if_neg (by simp[h2]),if_neg (by simp[h3])]
end
section
open Go.RowKit Go.Sort Go.Lib
theorem jE {le:Q4→Q4→Prop} (l:List Q4) (hs:l.Pairwise le) (anti:∀x∈l,∀y∈l,le x y→le y x→x=y):(Lib.compact l).Pairwise (fun x y=>le x y∧x≠y):=by
 rw[List.pairwise_iff_getElem]at hs
 unfold Lib.compact Lib.compactUpTo
 rw[List.pairwise_map,List.pairwise_filter]
 refine List.Pairwise.imp_of_mem ?_ List.pairwise_lt_range
 intro a b ha hb hab _ kb
 have ha':a<l.length:=List.mem_range.1 ha
 have hb':b<l.length:=List.mem_range.1 hb
 simp only[Lib.keeps,decide_eq_true_eq]at kb
 rw[getElem!_pos l.toArray b (by simpa using hb'),getElem!_pos l.toArray (b-1) (by simp;omega)]at kb
 rw[getElem!_pos l.toArray b (by simpa using hb'),getElem!_pos l.toArray a (by simpa using ha')]
 simp only[List.getElem_toArray]at kb ⊢
 have kb':l[b]≠l[b-1]:=by
  rcases kb with h|h
  ·omega
  ·exact h
 have hab':=hs a b ha' hb' hab
 refine⟨hab',fun e=>kb' ?_⟩
 by_cases h1:a=b-1
 ·subst h1;exact e.symm
 ·have h2:=hs a (b-1) ha' (by omega) (by omega)
  have h3:=hs (b-1) b (by omega) hb' (by omega)
  rw[←e]at h3
  have:=anti _ (List.getElem_mem ha') _ (List.getElem_mem (by omega)) h2 h3
  rw[←e,this]
theorem rn (ps:List Q4):(iP ps).Pairwise (fun x y=>¬bD y x<0):=by
 have:=List.pairwise_mergeSort (le:=fun x y:Q4=> !decide (bD y x<0))
  (fun a b c h1 h2=>by
   simp only[Bool.not_eq_true',decide_eq_false_iff_not,dx]at*
   omega)
  (fun a b=>by
   simp only[Bool.or_eq_true,Bool.not_eq_true',decide_eq_false_iff_not,dx]at*
   omega) ps
 refine List.Pairwise.imp ?_ this
 intro a b h
 simpa using h
theorem sw {x y:Q4} (h1:¬bD y x<0) (h2:¬bD x y<0):x=y:=yB x y (by rw[sX];simpa using h2) (by rw[sX];simpa using h1)
theorem vv {x y:Q4} (h1:¬bD y x<0) (h2:x≠y):bD x y<0:=Classical.byContradiction fun h=>h2 (sw h1 h)
theorem gN (ps cs:List Q4):(ii ps cs).Pairwise (fun x y=>bD x y<0):=by
 unfold ii
 exact(jE _ (rn _) (fun x _ y _ h1 h2=>sw h1 h2)).imp (fun h=>vv h.1 h.2)
theorem km (ps cs:List Q4) (x:Q4):x∈ii ps cs↔∃p∈ps,onB cs p=true∧x=dG p:=by
 unfold ii
 rw[fd]
 simp only[iP,List.mem_mergeSort,iZ,List.mem_map,List.mem_filter]
 constructor
 ·rintro⟨p,⟨hp,ho⟩,rfl⟩;exact⟨p,hp,ho,rfl⟩
 ·rintro⟨p,hp,ho,rfl⟩;exact⟨p,⟨hp,ho⟩,rfl⟩
theorem vw (x:Q4):¬bD x x<0:=by rw[dx];omega
theorem vx {x y:Q4} (h:bD x y<0):¬bD y x<0:=by rw[dx]at*;omega
theorem vy {x y z:Q4} (h1:bD x y<0) (h2:bD y z<0):bD x z<0:=by rw[dx]at*;omega
theorem jb:∀{l1 l2:List Q4},l1.Pairwise (fun x y=>bD x y<0)→l2.Pairwise (fun x y=>bD x y<0)→(∀x,x∈l1↔x∈l2)→l1=l2
 | [],[],_,_,_=>rfl
 | [],b::l2,_,_,h=>by have:=(h b).2 (by simp);cases this
 |a::l1,[],_,_,h=>by have:=(h a).1 (by simp);cases this
 |a::l1,b::l2,h1,h2,h=>by
  rw[List.pairwise_cons]at h1 h2
  have e:a=b:=by
   rcases List.mem_cons.1 ((h a).1 (by simp))with e|ha
   ·exact e
   ·rcases List.mem_cons.1 ((h b).2 (by simp))with e|hb
    ·exact e.symm
    ·exact absurd (h1.1 b hb) (vx (h2.1 a ha))
  subst e
  rw[jb h1.2 h2.2 (fun x=> ?_)]
  constructor
  ·intro hx
   rcases List.mem_cons.1 ((h x).1 (List.mem_cons_of_mem _ hx))with e|h3
   ·subst e;exact absurd (h1.1 _ hx) (vw _)
   ·exact h3
  ·intro hx
   rcases List.mem_cons.1 ((h x).2 (List.mem_cons_of_mem _ hx))with e|h3
   ·subst e;exact absurd (h2.1 _ hx) (vw _)
   ·exact h3
theorem ro (cs:List Q4) (hcs:∀c∈cs,dI c):(ed cs).Pairwise (fun x y=>¬iO y x<0):=by
 have hv:(cs.attachWith dI hcs).map Subtype.val=cs:=List.attachWith_map_subtype_val hcs
 have e:(List.mergeSort (cs.attachWith dI hcs) fun x y=> !ltOf jt y x).map Subtype.val=ed cs:=by
  unfold ed
  have:=List.map_mergeSort (r:=fun x y:NCo=> !ltOf jt y x) (s:=fun x y=> !decide (iO y x<0)) (f:=Subtype.val) (l:=cs.attachWith dI hcs) (fun a _ b _=>rfl)
  rw[this,hv]
 have:=List.pairwise_mergeSort (le:=fun x y:NCo=> !ltOf jt y x)
  (fun a b c h1 h2=>by
   simp only[Bool.not_eq_true']at*
   exact swoPt.ntrans _ _ _ h2 h1)
  (fun a b=>by
   simp only[Bool.or_eq_true,Bool.not_eq_true']
   cases h:ltOf jt b a with
   |false=>exact Or.inl rfl
   |true=>
    right
    cases h2:ltOf jt a b with
    |false=>rfl
    |true=>
     have:=swoPt.trans _ _ _ h h2
     rw[swoPt.irrefl]at this
     cases this) (cs.attachWith dI hcs)
 rw[←e,List.pairwise_map]
 refine List.Pairwise.imp ?_ this
 intro a b h
 simpa [qK]using h
theorem fV (ps:List Q4) (h:∀p∈ps,bI p):(aS ps).Nodup:=by
 unfold aS
 have hn:=iD ps h ps.length (Nat.le_refl _)
 refine(jE _ (ro _ hn) (fun x hx y hy h1 h2=> ?_)).imp (fun h=>h.2)
 have hx':x∈raw ps ps.length:=by simpa [ed]using hx
 have hy':y∈raw ps ps.length:=by simpa [ed]using hy
 have:=yy ⟨x,hn x hx'⟩ ⟨y,hn y hy'⟩ (by rw[qK];simpa using h2) (by rw[qK];simpa using h1)
 exact congrArg Subtype.val this
theorem mw {cs ds:List Q4} (hc:cs.Nodup) (hd:ds.Nodup) (h:∀x,x∈cs↔x∈ds) (p:Q4):cQ p cs=cQ p ds:=by
 unfold cQ
 exact(((List.perm_ext_iff_of_nodup hc hd).2 h).filter _).length_eq
theorem mx {ps:List Q4} {n:Nat} (hn:n≤ps.length) {c:Q4} (h:c∈raw ps n):∃p∈ps,∃q∈ps,∃r∈ps,bN p q r≠0∧c=dv p q r (bN p q r):=by
 unfold raw gJ gI at h
 simp only[List.mem_flatMap,List.mem_range]at h
 obtain⟨i,hi,k,hk,m,hm,h⟩:=h
 unfold jo at h
 split at h
 ·cases h
 ·rename_i h0
  split at h
  ·rw[List.mem_singleton]at h
   have g:∀j,j<ps.length→bm ps j∈ps:=fun j hj=>by
    have:bm ps j=ps[j]:=by simp[bm,List.getD,hj]
    rw[this];exact List.getElem_mem hj
   exact⟨_,g i (by omega),_,g k (by omega),_,g m (by omega),h0,h⟩
  ·cases h
theorem tv (p q r:Q4) (h0:bN p q r≠0):slk p (xyz (dv p q r (bN p q r))) (dv p q r (bN p q r)).2.2.2=0∧slk q (xyz (dv p q r (bN p q r))) (dv p q r (bN p q r)).2.2.2=0∧slk r (xyz (dv p q r (bN p q r))) (dv p q r (bN p q r)).2.2.2=0:=by
 unfold dv
 simp only
 have key:∀s:Q4,slk s (fP p.2.2.2 q.2.2.2 r.2.2.2 (aN (nrm q) (nrm r)) (aN (nrm r) (nrm p)) (aN (nrm p) (nrm q))) (bN p q r)=0→
   slk s (xyz (eu (fP p.2.2.2 q.2.2.2 r.2.2.2 (aN (nrm q) (nrm r)) (aN (nrm r) (nrm p)) (aN (nrm p) (nrm q))).1 (fP p.2.2.2 q.2.2.2 r.2.2.2 (aN (nrm q) (nrm r)) (aN (nrm r) (nrm p)) (aN (nrm p) (nrm q))).2.1 (fP p.2.2.2 q.2.2.2 r.2.2.2 (aN (nrm q) (nrm r)) (aN (nrm r) (nrm p)) (aN (nrm p) (nrm q))).2.2 (bN p q r))) (eu (fP p.2.2.2 q.2.2.2 r.2.2.2 (aN (nrm q) (nrm r)) (aN (nrm r) (nrm p)) (aN (nrm p) (nrm q))).1 (fP p.2.2.2 q.2.2.2 r.2.2.2 (aN (nrm q) (nrm r)) (aN (nrm r) (nrm p)) (aN (nrm p) (nrm q))).2.1 (fP p.2.2.2 q.2.2.2 r.2.2.2 (aN (nrm q) (nrm r)) (aN (nrm r) (nrm p)) (aN (nrm p) (nrm q))).2.2 (bN p q r)).2.2.2=0:=by
  intro s hs
  generalize fP p.2.2.2 q.2.2.2 r.2.2.2 (aN (nrm q) (nrm r)) (aN (nrm r) (nrm p)) (aN (nrm p) (nrm q))=v at*
  obtain⟨g,hg,e1,e2,e3,e4,_⟩:=AZ v.1 v.2.1 v.2.2 (bN p q r) h0
  generalize eu v.1 v.2.1 v.2.2 (bN p q r)=c at*
  refine(Int.mul_eq_zero.1 (?_:g*_=0)).resolve_left hg
  rw[←hs]
  unfold slk bj xyz nrm
  rw[e4]
  simp only[e1,e2,e3]
  grind
 refine⟨key p ?_,key q ?_,key r ?_⟩<;>(unfold slk bN fP bj aN nrm;grind)
theorem xE {c d:Q4} (hc:dI c) (hd:dI d) (h:SameAt d (xyz c) c.2.2.2):d=c:=by
 obtain⟨_,h1,h2,h3⟩:=h
 simp only[xyz]at h1 h2 h3
 exact uR d c hd hc (by grind) (by grind) (by grind)
theorem sx {ps qs:List Q4} (h:∀p,p∈ps↔p∈qs) (hp:∀p∈ps,bI p) {c:Q4} (hc:c∈raw ps ps.length):c∈raw qs qs.length:=by
 have hn:=iD ps hp ps.length (Nat.le_refl _) c hc
 have ha:=ld hc
 obtain⟨p,h1,q,h2,r,h3,h0,e⟩:=mx (Nat.le_refl _) hc
 obtain⟨z1,z2,z3⟩:=tv p q r h0
 rw[←e]at z1 z2 z3
 have hq:∀p∈qs,bI p:=fun p hp'=>hp p ((h p).2 hp')
 obtain⟨d,hd,hs⟩:=np qs p q r ((h p).1 h1) ((h q).1 h2) ((h r).1 h3) (xyz c) c.2.2.2 (by have:=hn.1.2.2.2;omega) (fun s hs=>dL ha ((h s).2 hs)) z1 z2 z3 h0
 have:=xE hn (iD qs hq qs.length (Nat.le_refl _) d hd) hs
 rw[←this]
 exact hd
theorem pE {ps qs:List Q4} (h:∀p,p∈ps↔p∈qs) (hp:∀p∈ps,bI p):iS ps=iS qs:=by
 have hq:∀p∈qs,bI p:=fun p hp'=>hp p ((h p).2 hp')
 have hm:∀c,c∈aS ps↔c∈aS qs:=fun c=>by
  rw[fe,fe]
  exact⟨sx h hp,sx (fun p=>(h p).symm) hq⟩
 refine jb (gN _ _) (gN _ _) (fun x=> ?_)
 unfold iS
 rw[km,km]
 have ho:∀p,onB (aS ps) p=onB (aS qs) p:=fun p=>by
  unfold onB
  rw[mw (fV ps hp) (fV qs hq) hm p]
 constructor
 ·rintro⟨p,h1,h2,h3⟩;exact⟨p,(h p).1 h1,by rw[←ho];exact h2,h3⟩
 ·rintro⟨p,h1,h2,h3⟩;exact⟨p,(h p).2 h1,by rw[ho];exact h2,h3⟩
def jc (out:List Q4) (c:Q4):List Q4:=if c∈out then out else out++[c]
def cd (ps:List Q4):List Q4:=(raw ps ps.length).foldl jc []
def kp (out:List Q4) (p:Q4):List Q4:=
 if(out.dropWhile (fun q=>decide (bD q p<0))).head?=some p then out else out.takeWhile (fun q=>decide (bD q p<0))++p::out.dropWhile (fun q=>decide (bD q p<0))
def dX (cs:List Q4) (out:List Q4) (p:Q4):List Q4:=if 3≤cQ (dG p) cs then kp out (dG p)else out
def ch (ps:List Q4):List Q4:=ps.foldl (dX (cd ps)) []
theorem tw (l:List Q4):∀out:List Q4,out.Nodup→(l.foldl jc out).Nodup∧∀x,x∈l.foldl jc out↔x∈out∨x∈l:=by
 induction l with
 |nil=>intro out h;exact⟨h,fun x=>by simp⟩
 |cons c l ih=>
  intro out h
  rw[List.foldl_cons]
  by_cases hc:c∈out
  ·have e:jc out c=out:=by simp[jc,hc]
   rw[e]
   obtain⟨h1,h2⟩:=ih out h
   refine⟨h1,fun x=> ?_⟩
   rw[h2,List.mem_cons]
   constructor
   ·rintro(h|h)
    ·exact Or.inl h
    ·exact Or.inr (Or.inr h)
   ·rintro(h|rfl|h)
    ·exact Or.inl h
    ·exact Or.inl hc
    ·exact Or.inr h
  ·have e:jc out c=out++[c]:=by simp[jc,hc]
   rw[e]
   obtain⟨h1,h2⟩:=ih (out++[c]) (by
    rw[List.nodup_append]
    exact⟨h,by simp,fun a ha b hb=>by simp at hb;subst hb;exact fun e=>hc (e▸ha)⟩)
   refine⟨h1,fun x=> ?_⟩
   rw[h2,List.mem_append,List.mem_singleton,List.mem_cons]
   constructor
   ·rintro((h|h)|h)
    ·exact Or.inl h
    ·exact Or.inr (Or.inl h)
    ·exact Or.inr (Or.inr h)
   ·rintro(h|h|h)
    ·exact Or.inl (Or.inl h)
    ·exact Or.inl (Or.inr h)
    ·exact Or.inr h
theorem lf (ps:List Q4):(cd ps).Nodup∧∀x,x∈cd ps↔x∈raw ps ps.length:=by
 obtain⟨h1,h2⟩:=tw (raw ps ps.length) [] List.nodup_nil
 exact⟨h1,fun x=>by rw[cd,h2];simp⟩
theorem tz (out:List Q4) (p:Q4) (h:out.Pairwise (fun x y=>bD x y<0)):(kp out p).Pairwise (fun x y=>bD x y<0)∧∀x,x∈kp out p↔x∈out∨x=p:=by
 have hta:out.takeWhile (fun q=>decide (bD q p<0))++out.dropWhile (fun q=>decide (bD q p<0))=out:=List.takeWhile_append_dropWhile
 have hA:∀q∈out.takeWhile (fun q=>decide (bD q p<0)),bD q p<0:=fun q hq=>by
  have:=List.all_eq_true.1 (List.all_takeWhile (p:=fun q=>decide (bD q p<0)) (l:=out)) q hq
  simpa using this
 have hH:∀b,(out.dropWhile (fun q=>decide (bD q p<0))).head?=some b→¬bD b p<0:=fun b hb=>by
  have:=List.head?_dropWhile_not (fun q=>decide (bD q p<0)) out
  rw[hb]at this
  simpa using this
 unfold kp
 generalize out.takeWhile (fun q=>decide (bD q p<0))=A at*
 generalize out.dropWhile (fun q=>decide (bD q p<0))=B at*
 subst hta
 split
 ·rename_i hp
  refine⟨h,fun x=>⟨Or.inl, ?_⟩⟩
  rintro(h1|rfl)
  ·exact h1
  ·exact List.mem_append_right _ (List.mem_of_head? hp)
 ·rename_i hp
  refine⟨?_,fun x=> ?_⟩
  ·rw[List.pairwise_append]at h ⊢
   obtain⟨h1,h2,h3⟩:=h
   have hB:∀b∈B,bD p b<0:=by
    cases B with
    |nil=>intro b hb;cases hb
    |cons b0 B=>
     have h0:bD p b0<0:=vv (hH b0 rfl) (fun e=>hp (by rw[e];rfl))
     intro b hb
     rcases List.mem_cons.1 hb with rfl|hb
     ·exact h0
     ·exact vy h0 ((List.pairwise_cons.1 h2).1 b hb)
   refine⟨h1,List.pairwise_cons.2 ⟨hB,h2⟩,fun a ha b hb=> ?_⟩
   rcases List.mem_cons.1 hb with rfl|hb
   ·exact hA a ha
   ·exact h3 a ha b hb
  ·simp only[List.mem_append,List.mem_cons]
   constructor
   ·rintro(h|h|h)
    ·exact Or.inl (Or.inl h)
    ·exact Or.inr h
    ·exact Or.inl (Or.inr h)
   ·rintro((h|h)|h)
    ·exact Or.inl h
    ·exact Or.inr (Or.inr h)
    ·exact Or.inr (Or.inl h)
theorem oe (cs:List Q4) (l:List Q4):∀out:List Q4,out.Pairwise (fun x y=>bD x y<0)→
  (l.foldl (dX cs) out).Pairwise (fun x y=>bD x y<0)∧∀x,x∈l.foldl (dX cs) out↔x∈out∨∃p∈l,3≤cQ (dG p) cs∧x=dG p:=by
 induction l with
 |nil=>intro out h;exact⟨h,fun x=>by simp⟩
 |cons q l ih=>
  intro out h
  rw[List.foldl_cons]
  by_cases hc:3≤cQ (dG q) cs
  ·have e:dX cs out q=kp out (dG q):=by simp[dX,hc]
   rw[e]
   obtain⟨i1,i2⟩:=tz out (dG q) h
   obtain⟨h1,h2⟩:=ih _ i1
   refine⟨h1,fun x=> ?_⟩
   rw[h2,i2]
   constructor
   ·rintro((h|h)|⟨p,h3,h4⟩)
    ·exact Or.inl h
    ·exact Or.inr ⟨q,by simp,hc,h⟩
    ·exact Or.inr ⟨p,by simp[h3],h4⟩
   ·rintro(h|⟨p,h3,h4⟩)
    ·exact Or.inl (Or.inl h)
    ·rcases List.mem_cons.1 h3 with rfl|h3
     ·exact Or.inl (Or.inr h4.2)
     ·exact Or.inr ⟨p,h3,h4⟩
  ·have e:dX cs out q=out:=by simp[dX,hc]
   rw[e]
   obtain⟨h1,h2⟩:=ih out h
   refine⟨h1,fun x=> ?_⟩
   rw[h2]
   constructor
   ·rintro(h|⟨p,h3,h4⟩)
    ·exact Or.inl h
    ·exact Or.inr ⟨p,by simp[h3],h4⟩
   ·rintro(h|⟨p,h3,h4⟩)
    ·exact Or.inl h
    ·rcases List.mem_cons.1 h3 with rfl|h3
     ·exact absurd h4.1 hc
     ·exact Or.inr ⟨p,h3,h4⟩
theorem yY (p c:Q4) (h:cI p):sd (dG p) c=0↔sd p c=0:=by
 have hp:=iV p.1 p.2.1 p.2.2.1 p.2.2.2 h.2
 have e1:=Int.mul_ediv_cancel' (aY [p.1,p.2.1,p.2.2.1,p.2.2.2] p.1 (by simp))
 have e2:=Int.mul_ediv_cancel' (aY [p.1,p.2.1,p.2.2.1,p.2.2.2] p.2.1 (by simp))
 have e3:=Int.mul_ediv_cancel' (aY [p.1,p.2.1,p.2.2.1,p.2.2.2] p.2.2.1 (by simp))
 have e4:=Int.mul_ediv_cancel' (aY [p.1,p.2.1,p.2.2.1,p.2.2.2] p.2.2.2 (by simp))
 have hs:slk p (xyz c) c.2.2.2=(aU [p.1,p.2.1,p.2.2.1,p.2.2.2]:Int)*slk (dG p) (xyz c) c.2.2.2:=by
  unfold slk bj nrm dG
  simp only
  generalize aU [p.1,p.2.1,p.2.2.1,p.2.2.2]=g at*
  generalize p.1 / (g:Int)=a at*
  generalize p.2.1 / (g:Int)=b at*
  generalize p.2.2.1 / (g:Int)=c' at*
  generalize p.2.2.2 / (g:Int)=d at*
  rw[←e1, ←e2, ←e3, ←e4]
  grind
 rw[mt,mt,dq,dq,hs]
 have hg:(aU [p.1,p.2.1,p.2.2.1,p.2.2.2]:Int)≠0:=by omega
 constructor
 ·intro h;rw[←h];simp
 ·intro h
  exact((Int.mul_eq_zero.1 h.symm).resolve_left hg).symm
theorem xF (ps:List Q4) (hp:∀p∈ps,cI p):ch ps=iS ps:=by
 have hp':∀p∈ps,bI p:=fun p h=>(hp p h).1
 obtain⟨h1,h2⟩:=oe (cd ps) ps [] List.Pairwise.nil
 obtain⟨r1,r2⟩:=lf ps
 refine jb h1 (gN _ _) (fun x=> ?_)
 unfold iS
 rw[ch,h2,km]
 have hc:∀p∈ps,(3≤cQ (dG p) (cd ps)↔onB (aS ps) p=true):=fun p hpp=>by
  rw[mw r1 (fV ps hp') (fun x=>by rw[r2,fe])]
  unfold onB cQ
  rw[decide_eq_true_eq]
  have:(fun c=>decide (sd (dG p) c=0))=(fun c=>decide (sd p c=0)):=by
   funext c
   exact decide_eq_decide.2 (yY p c (hp p hpp))
  rw[this]
 constructor
 ·rintro(h|⟨p,h3,h4,h5⟩)
  ·cases h
  ·exact⟨p,h3,(hc p h3).1 h4,h5⟩
 ·rintro⟨p,h3,h4,h5⟩
  exact Or.inr ⟨p,h3,(hc p h3).2 h4,h5⟩
end
end Go.Proofs.YtokhkhnofkcalaaGreatDoor
