/- texts: J8. -/
import Derived.Test.YtffbilcjhlncfaaGreatDoorDQS15
import Derived.Lib.AppendZerosOnto
import Derived.Laws.AppendOwnNone
namespace Go.Proofs.YtffbilcjhlncfaaGreatDoor
set_option maxHeartbeats 8000000
set_option linter.all false
section
open Go.RowKit Go.Shelf
attribute [local go_sem] Ext.cell Ext.frozen
theorem iE:(Tryz.prog.info? 3).map (fun i=>(i.zero,i.size,i.bytes))=some (some (.int .i64 0),1,8):=by kernel_rfl
theorem Pw:Tryz.prog.underlying 34=some (.slice 3):=by kernel_rfl
set_option maxRecDepth 100000 in
theorem Jn (n:Nat) (w:World) (hn:n≤1000000):Calls Tryz.prog 171 #[.slice none 0 0, .int .i64 n] w fun e w'=>∃r,e= .returned r∧Below w.heap.size w w'∧w'.ownsRow w.heap.size 3 1 r 0 []:=by
 obtain⟨i0,hi0,hz0,hz1,hz2⟩:=info_parts iE
 by_cases h0:n=0
 ·subst h0
  go_enter Tryz.func171,Tryz.ntmps171
  go_wp2
  go_ret
  exact⟨_,rfl,brf,qds _ _ _ _⟩
 ·have hrz:∀ty,(Builtin.append_ #[34,3] ty #[.slice none 0 0, .int .i64 n]).run Tryz.prog w=
    .ok (.slice (some ⟨w.heap.size,0,none⟩) n (grownCap w n 0 3)) (w.drew.alloc (.cells (#[]++Builtin.zeroCells (Value.int .i64 0).cells n++Builtin.zeroCells (Value.int .i64 0).cells (grownCap w n 0 3-n)) 3)):=fun ty=>by
   have h:=Lib.run_append_grow_zeros w 34 3 ty 3 i0 (Value.int .i64 0) .i64 .i64 Pw eJ hi0 hz0 none 0 0 [] (run_firstCells_none w.drew i0.size 0 0 0) n (by omega) (by omega) (by omega) (by omega) (by rw[hz2];omega) (growslice_fits (by omega) (by rw[hz2];omega))
   simpa using h
  have hGn:n≤grownCap w n 0 3:=grownCap_ge w _ _ _
  have hGm:grownCap w n 0 3≤maxLen:=grownCap_le_maxLen w n 0 3 (by unfold maxLen;omega)
  generalize grownCap w n 0 3=G at*
  have h1:¬((n:Int)<0):=by omega
  have h2:0<n:=by omega
  have hG63:G≤9223372036854775807:=by unfold maxLen at hGm;omega
  have Hrz:=fun ty=>YJ (hrz ty)
  have Hm:=YJ hGm
  clear hrz hi0 hz0 hz1 hz2 hGm
  go_enter Tryz.func171,Tryz.ntmps171
  go_wp2_with (at_builtin;refine Lib.wpList_append_run _ rfl _ _ _ _ rfl _ _ rfl rfl _ _ (Hrz _).out ?_)
  go_ret
  refine⟨_,rfl,Below.alloc (Below.drew (brf)) (by simp) _,World.ownsRow_made _ _ G (by simp) Hm.out ?_⟩
  rw[Array.size_append,size_zeroCells,size_zeroCells]
  show n*1+(G-n)*1=G*1
  omega
def Raw (W:World) (sz:Nat) (v:Value) (cs:List Value):Prop:=
 ∃a m c,v= .slice a m c∧cs.length=m*sz∧(a=none→m=0∧c=0)∧∀ad,a=some ad→∀j u,cs[j]? =some u→W.cell? (ad.add j)=some u
theorem Raw.below {W W':World} {sz:Nat} {v:Value} {cs:List Value} (h:Raw W sz v cs) (hb:Below W.heap.size W W'):Raw W' sz v cs:=by
 obtain⟨a,m,c,hv,hl,hn,hc⟩:=h
 exact⟨a,m,c,hv,hl,hn,fun ad ha j u hu=>ab hb (hc ad ha j u hu)⟩
def vh (W:World) (sz b off:Nat) (css:List (List Value)):Prop:=
 ∀i (h:i<css.length),∃u,W.cell? ⟨b,off+i,none⟩=some u∧Raw W sz u css[i]
theorem fA {css:List (List Value)} {k:Nat} (h:k<css.length):(css.take (k+1)).flatten=(css.take k).flatten++css[k]:=by
 rw[qaI h,List.flatten_append,List.flatten_singleton]
theorem iF (css:List (List Value)) (k:Nat):(css.take k).flatten.length≤css.flatten.length:=by
 have:css.flatten=(css.take k).flatten++(css.drop k).flatten:=by rw[←List.flatten_append,List.take_append_drop]
 rw[this];simp
set_option maxRecDepth 100000 in
theorem Qb (w:World) (b off cc:Nat) (css:List (List Value)) (hp:vh w 1 b off css) (h0:0<css.length) (hcs:css.length≤1000000) (hone:∀cs∈css,∀u∈cs,u.oneCell'=true) (hl:css.flatten.length≤1000000):
  Calls Tryz.prog 125 #[.slice (some ⟨b,off,none⟩) css.length cc] w fun e w'=>∃r m,e= .returned r∧Below w.heap.size w w'∧w'.ownsRow w.heap.size 3 1 r m css.flatten:=by
 obtain⟨i0,Hi0⟩:=qfT iE
 have HP:=YJ hp
 have H1:=YJ hone
 obtain⟨n,Hn⟩:∃n,Hid (css.length=n):=⟨_,YJ rfl⟩
 rw[Hn.out]at h0 hcs ⊢
 have Hl:=YJ hl
 have zb:b<w.heap.size:=by
  obtain⟨u,hu,_⟩:=hp 0 (by have:=Hn.out;omega)
  exact qaC w _ hu
 clear hp hone hl
 go_enter Tryz.func125,Tryz.ntmps125
 go_wp2
 go_loopw [3,11] (fun s i wr=>w=wr∧∃k T:Nat,k≤n∧i= .int .i64 k∧s= .int .i64 T∧Hid (T*1=(css.take k).flatten.length)) (fun _ i _=>n-(intOf i).toNat)
 case atStart=>exact⟨rfl,0,0,by omega,rfl,rfl,YJ (by simp)⟩
 case round=>
  obtain⟨rfl,k,T,hk,rfl,rfl,HT⟩:=hrel
  by_cases hlt:k<n
  ·have hk':k<css.length:=by have:=Hn.out;omega
   obtain⟨u,cu,a,m,c,rfl,hm,hz,hc⟩:=HP.out k hk'
   have hTm:(T+m)*1=(css.take (k+1)).flatten.length:=by rw[fA hk',qaE,hm,Nat.add_mul,HT.out]
   have hT9:T+m≤1000000:=by have:=iF css (k+1);have:=Hl.out;omega
   have HTm:=YJ hTm
   have w1:IntKind.i64.wrap ((T:Int)+(m:Int))=((T+m:Nat):Int):=(IntWalk.i64_in _ (by omega)).trans (by omega)
   clear hTm hm hz hc hk'
   go_wp2
   go_roundw
   case rel=>exact⟨trivial,k+1,T+m,by omega,by go_num,rfl,HTm⟩
   simp[intOf];omega
  ·obtain rfl:n=k:=by omega
   have hT9:T≤1000000:=by have:=iF css n;have:=Hl.out;have:=HT.out;omega
   have hg:=YJ (Jn T w hT9)
   go_wp2_with fail
   refine hg.out.mono ?_
   rintro e w1 ⟨r,rfl,hb1,ho1⟩
   have HO1:=YJ ho1
   clear ho1 hg
   go_wp2
   go_loopw [6,27] (fun s i wr=>∃k T:Nat,k≤n∧i= .int .i64 k∧Below w.heap.size w wr∧Hid (wr.ownsRow w.heap.size 3 1 s T (css.take k).flatten)) (fun _ i _=>n-(intOf i).toNat)
   case atStart=>exact⟨0,0,by omega,rfl,hb1,HO1⟩
   case round=>
    clear hb1 HO1
    obtain⟨k,T,hk,rfl,hb,HO⟩:=hrel
    by_cases hlt:k<n
    ·have hk':k<css.length:=by have:=Hn.out;omega
     obtain⟨u,cu,a,m,c,rfl,hm,hz,hc⟩:=HP.out k hk'
     have cu':=ab hb cu
     have zb':b<wr.heap.size:=qaC wr _ cu'
     have hTm:T*1=(css.take k).flatten.length:=HO.out.1.symm
     have hT9:(T+m)*1≤1000000:=by have:=iF css (k+1);rw[fA hk',qaE]at this;have:=Hl.out;omega
     have Hs:=YJ (fA hk')
     have h1:=YJ (H1.out _ (qaB hk'))
     have Hc:=YJ hc
     have Hm:=YJ hm
     clear hTm hm hc cu
     generalize css[k]=ck at*
     clear hk'
     cases a with
     |none=>
      obtain⟨rfl,rfl⟩:=hz rfl
      have hnil:ck=[]:=alto.1 (by simpa using Hm.out)
      rw[hnil]at Hs
      clear Hc Hm h1 hz hnil
      go_wp2_with (at_builtin;refine wpList_append_own_none rfl _ _ 34 rfl w.heap.size 3 i0 1 Pw Hi0.out.1 u6 T _ rfl HO.out rfl ?_)
      go_roundw
      case rel=>exact⟨k+1,T,by omega,by go_num,hb,YJ (by rw[Hs.out];simpa using HO.out)⟩
      simp[intOf];omega
     |some ad=>
      clear hz
      go_wp2_with (at_builtin;refine wpList_append_own _ rfl _ _ 34 rfl w.heap.size 3 i0 (Value.int .i64 0) 1 8 Pw Hi0.out.1 Hi0.out.2.1 Hi0.out.2.2.1 Hi0.out.2.2.2 rfl (by decide) u6 T _ rfl HO.out ad m c _ rfl Hm.out ?c1 h1.out ?c3 ?c4 ?c5 ?_)
      case c1=>exact fun j u hu=>ab hb (Hc.out ad rfl j u hu)
      case c3=>unfold maxLen;omega
      case c4=>omega
      case c5=>exact hb.size
      intro v' w2 hown2 hg2 _
      have hbw2:Below w.heap.size w w2:=hb.grown hg2 hb.size (fun q hq=>(HO.out.lt q hq).1)
      have HO3:=YJ hown2
      clear hown2 hg2
      go_wp2
      go_roundw
      case rel=>exact⟨k+1,T+m,by omega,by go_num,hbw2,YJ (by rw[Hs.out];exact HO3.out)⟩
      simp[intOf];omega
    ·obtain rfl:n=k:=by omega
     go_wp2
     go_ret
     exact⟨_,_,rfl,hb,by have:=HO.out;rwa [qaK (by have:=Hn.out;omega)]at this⟩
end
end Go.Proofs.YtffbilcjhlncfaaGreatDoor
