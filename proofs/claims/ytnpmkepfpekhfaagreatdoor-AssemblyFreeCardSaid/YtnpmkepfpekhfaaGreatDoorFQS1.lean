/- texts: FA F3 IE F6 BWB O6 O7 O8 O9 O11 FG1 FG2 FG3 FG4 FG5 FG7 FG8 FGB FGC O10 O12 O13 FGE. -/
import Derived.ArgAppend
import Derived.BigQuiet
import Derived.ChangeKeysEq
import Derived.Deep.AppendLies
import Derived.Deep.DeepAppendRoom
import Derived.Deep.DeepAppendWide
import Derived.Deep.DeepCutAuto
import Derived.Deep.QuietTactic
import Derived.Deep.RegionHeld
import Derived.Deep.RegionHeld3
import Derived.Deep.RegionHeldLaw
import Derived.DeepKeys4
import Derived.Ground.Names2Prog
import Derived.Ground.SlgnProg
import Derived.Laws.AppendOwnNone
import Derived.Laws.StructEq
import Derived.Lib.AppendIntMem
import Derived.Lib.AppendZerosOnto
import Derived.Lib.Hide
import Derived.Lib.ItoaLen
import Derived.Lib.SliceRun
import Derived.Lib.SlicesCompact
import Derived.LoopIn
import Derived.LoopNIn
import Derived.Maps.AppendAt
import Derived.Maps.OwnSet
import Derived.OwnWalkIn
import Derived.RangeFuncBound
import Derived.RangeFuncBox
import Derived.RangeFuncCalls
import Derived.RangeFuncFrom
import Derived.RangeFuncLeaves
import Derived.RangeFuncNested
import Derived.RangeFuncWrites
import Derived.Shelf.Abstract
import Derived.Shelf.Lays8
import Derived.Shelf.LaysM
import Derived.Shelf.RegionOpen
import Derived.Shelf.Slices.Clone
import Derived.Shelf.SlicesE.Clone
import Derived.Shelf.Small.Bits
import Derived.Shelf.Spec.TrailingZeros
import Derived.Shelf.Strconv.Itoa0
import Derived.Shelf.Strconv.Itoa1
import Derived.Shelf.Strconv.Itoa2
import Derived.Shelf.Strconv.Itoa3
import Derived.Shelf.Strings.Builder1
import Derived.Shelf.Strings.Builder2
import Derived.Shelf.Strings.OnBuilder
import Derived.Sort.Grow
import Derived.StillTail
import Derived.TacticsInMore
import Derived.WalkKit
import Derived.WalkLawsBesides
import Derived.WalkSpells
import Derived.WideKeyEntry
import Derived.Test.YtnpmkepfpekhfaaGreatDoorProg
import Derived.Test.YtnpmkepfpekhfaaGreatDoorRows
import Derived.Test.YtnpmkepfpekhfaaGreatDoorSort
import Derived.Test.YtnpmkepfpekhfaaGreatDoorGGS1
import Derived.Test.YtnpmkepfpekhfaaGreatDoorGGS2
import Derived.Test.YtnpmkepfpekhfaaGreatDoorGGS4
import Derived.Test.YtnpmkepfpekhfaaGreatDoorGGS5
import Derived.Test.YtnpmkepfpekhfaaGreatDoorGGS7
import Derived.Test.YtnpmkepfpekhfaaGreatDoorGGS8
import Derived.Test.YtnpmkepfpekhfaaGreatDoorGGS9
import Derived.Test.YtnpmkepfpekhfaaGreatDoorGGS10
import Derived.Test.YtnpmkepfpekhfaaGreatDoorGGS11
import Derived.Test.YtnpmkepfpekhfaaGreatDoorGGS12
import Derived.Test.YtnpmkepfpekhfaaGreatDoorGGS13
import Derived.Test.YtnpmkepfpekhfaaGreatDoorGGS14
import Derived.Test.YtnpmkepfpekhfaaGreatDoorGGS15
import Derived.Test.YtnpmkepfpekhfaaGreatDoorGGS17
import Derived.Test.YtnpmkepfpekhfaaGreatDoorGGS18
import Derived.Test.YtnpmkepfpekhfaaGreatDoorGGS19
import Derived.Test.YtnpmkepfpekhfaaGreatDoorGGS20
import Derived.Test.YtnpmkepfpekhfaaGreatDoorGGS21
import Derived.Test.YtnpmkepfpekhfaaGreatDoorGGS24
import Derived.Test.YtnpmkepfpekhfaaGreatDoorGGS25
import Derived.Test.YtnpmkepfpekhfaaGreatDoorGGS26
import Derived.Test.YtnpmkepfpekhfaaGreatDoorGGS27
import Derived.Test.YtnpmkepfpekhfaaGreatDoorGGS28
import Derived.Test.YtnpmkepfpekhfaaGreatDoorGGS29
import Derived.Test.YtnpmkepfpekhfaaGreatDoorGGS30
import Derived.Test.YtnpmkepfpekhfaaGreatDoorGGS32
import Derived.Test.YtnpmkepfpekhfaaGreatDoorGGS33
import Derived.Test.YtnpmkepfpekhfaaGreatDoorGGS34
import Derived.Test.YtnpmkepfpekhfaaGreatDoorGGS35
import Derived.Test.YtnpmkepfpekhfaaGreatDoorGGS36
import Derived.Test.YtnpmkepfpekhfaaGreatDoorGGS37
import Derived.Test.YtnpmkepfpekhfaaGreatDoorGGS38
import Derived.Test.YtnpmkepfpekhfaaGreatDoorGGS39
import Derived.Test.YtnpmkepfpekhfaaGreatDoorGGS40
import Derived.Test.YtnpmkepfpekhfaaGreatDoorGGS41
namespace Go.Proofs.YtnpmkepfpekhfaaGreatDoor
set_option maxHeartbeats 8000000
set_option linter.all false
section
open Go.RowKit Go.Shelf
section
attribute [local go_sem] Ext.cell Ext.frozen
def enc3 (v:Q3):List Value:=[.int .i64 v.1, .int .i64 v.2.1, .int .i64 v.2.2]
theorem enc3_len (v:Q3):(enc3 v).length=3:=rfl
theorem q3s_own {w:World} {base:Nat} {T:TypeId} {v:Value} {cs:List Q3} (h:w.ownsRow base T 3 v cs.length (cs.flatMap enc3)):Q3s w v cs:=by
 rcases h.2 with⟨rfl,h0⟩|⟨g,cap,cur,rfl,hb,hh,hc,hm,hcs,ht⟩
 ·exact⟨none,0,0,rfl,h0,qaA _,fun h=>absurd h (by omega)⟩
 ·refine⟨some ⟨g,0,none⟩,cs.length,cap,rfl,rfl,hc,fun _=>⟨g,0,rfl,fun i hi=> ?_⟩⟩
  have key:∀j,j<3→w.cell? ⟨g,i*3+j,none⟩=(enc3 cs[i])[j]? :=fun j hj=>by
   rw[ag hh, ←eQ enc3 3 enc3_len cs i hi j hj, ←ht,List.getElem?_take_of_lt (by omega),Array.getElem?_toList]
  simp only[Nat.zero_add]
  exact⟨key 0 (by omega),key 1 (by omega),key 2 (by omega)⟩
end
section
attribute [local go_sem] Oper.semAt_some
end
end
section
open Go.RowKit Go.Shelf
attribute [local go_sem] Ext.cell Ext.frozen
theorem info_way:(Tryz.prog.info? 36).map (fun i=>(i.zero,i.size,i.bytes))=some (some (vW (0,0,0)),3,24):=by kernel_rfl
theorem und_ways:Tryz.prog.underlying 33=some (.slice 36):=by kernel_rfl
theorem wpre_len (m:Nat):(Ri m).length≤m:=by
 unfold Ri
 exact qaD (List.length_filter_le _ _) (by simp)
def RetW (W:World) (xs:List Q3) (e:Ending) (w':World):Prop:=∃r,e= .returned r∧Below W.heap.size W w'∧w'.ownsRow W.heap.size 36 3 r xs.length (xs.flatMap enc3)
end
section
open Go.RowKit Go.Shelf
set_option maxRecDepth 100000
section
attribute [local go_sem] Oper.semAt_some
end
section
attribute [local go_sem] Ext.cell Ext.frozen
theorem r4Ways_any (W:World):Calls Tryz.prog 53 #[] W (RetW W ways26):=by
 obtain⟨i0,hi0,hz0,hz1,hz2⟩:=info_parts info_way
 have Hi0:=YJ (And.intro hi0 (And.intro hz0 (And.intro hz1 hz2)))
 clear hi0 hz0 hz1 hz2
 go_enter Tryz.func53,Tryz.ntmps53
 go_wp2
 go_loopw [1,2] (fun s p wr=>∃(i:Nat) (x:Int),i≤3∧p= .int .i64 x∧Hid (x=(i:Int)-1)∧Below W.heap.size W wr∧Hid (wr.ownsRow W.heap.size 36 3 s (Ri (9*i)).length ((Ri (9*i)).flatMap enc3))) (fun _ p _=>(2-intOf p).toNat)
 case atStart=>exact⟨0, -1,by omega,rfl,YJ (by omega),brf,YJ (World.ownsRow_nil _ _ _ _)⟩
 case round=>
  obtain⟨i,x,hi,rfl,Hx,hb,HO⟩:=hrel
  by_cases hi3:i<3
  ·have t1:x≤1:=by have:=Hx.out;omega
   have lx: -1≤x:=by have:=Hx.out;omega
   go_wp2
   go_loopw [1,3] (fun s p wr=>∃(j:Nat) (y:Int),j≤3∧p= .int .i64 y∧Hid (y=(j:Int)-1)∧Below W.heap.size W wr∧Hid (wr.ownsRow W.heap.size 36 3 s (Ri (9*i+3*j)).length ((Ri (9*i+3*j)).flatMap enc3))) (fun _ p _=>(2-intOf p).toNat)
   case atStart=>exact⟨0, -1,by omega,rfl,YJ (by omega),hb,HO⟩
   case round=>
    clear hb HO
    obtain⟨j,y,hj,rfl,Hy,hb,HO⟩:=hrel
    by_cases hj3:j<3
    ·have t2:y≤1:=by have:=Hy.out;omega
     have ly: -1≤y:=by have:=Hy.out;omega
     go_wp2
     go_loopw [1,4] (fun s p wr=>∃(q:Nat) (z:Int),q≤3∧p= .int .i64 z∧Hid (z=(q:Int)-1)∧Below W.heap.size W wr∧Hid (wr.ownsRow W.heap.size 36 3 s (Ri (9*i+3*j+q)).length ((Ri (9*i+3*j+q)).flatMap enc3))) (fun _ p _=>(2-intOf p).toNat)
     case atStart=>exact⟨0, -1,by omega,rfl,YJ (by omega),hb,HO⟩
     case round=>
      clear hb HO
      obtain⟨q,z,hq,rfl,Hz,hb,HO⟩:=hrel
      by_cases hq3:q<3
      ·have t3:z≤1:=by have:=Hz.out;omega
       have lz: -1≤z:=by have:=Hz.out;omega
       have Hs:=YJ (CB (9*i+3*j+q))
       have Hd:=YJ (qan (i:=i) hj3 hq3)
       have Hl:=YJ (wpre_len (9*i+3*j+q))
       have hl:=Hl.out
       rw[Hd.out, ←Hx.out, ←Hy.out, ←Hz.out]at Hs
       generalize Ri (9*i+3*j+q)=P at*
       obtain⟨sa,sc,rfl⟩:=aT HO.out
       clear Hd Hl
       by_cases h0:((x,y,z):Q3)=(0,0,0)
       ·have Hs':Hid (Ri (9*i+3*j+q+1)=P):=YJ (by rw[Hs.out,if_neg (by simpa using h0)];simp)
        simp only[Prod.mk.injEq]at h0
        obtain⟨rfl,rfl,rfl⟩:=h0
        clear Hs
        go_wp2
        go_roundw
        case rel=>exact⟨q+1,0+1,by omega,rfl,YJ (by have:=Hz.out;omega),hb.alloc hb.size _,YJ (by rw[show 9*i+3*j+(q+1)=9*i+3*j+q+1 by omega,Hs'.out];exact HO.out.alloc _)⟩
        case measure=>first|(simp[intOf];done)|(simp[intOf];omega)
       ·have Hs':Hid (Ri (9*i+3*j+q+1)=P++[(x,y,z)]):=YJ (by rw[Hs.out,if_pos h0])
        clear Hs
        by_cases ex:x=0
        ·subst ex
         by_cases ey:y=0
         ·subst ey
          have ez:¬z=0:=fun e=>h0 (by rw[e])
          clear h0
          go_wp2_with (at_builtin;refine wpList_append_own _ rfl _ _ 33 rfl W.heap.size 36 i0 (vW (0,0,0)) 3 24 und_ways Hi0.out.1 Hi0.out.2.1 Hi0.out.2.2.1 Hi0.out.2.2.2 rfl (by decide) _ P.length _ rfl ((HO.out.alloc _).alloc _) ⟨_,0,none⟩ 1 1 (enc3 (0,0,z)) rfl rfl (fun jj uu hu=>by rw[jY,aq (by simp) jj];simpa [enc3]using hu) (fun u hu=>by simp[enc3]at hu;rcases hu with rfl|rfl|rfl<;>rfl) (by unfold maxLen;omega) (by omega) (by have:=hb.size;simp;omega) ?_)
          intro v' w2 hown2 hg2 _
          have hb2:Below W.heap.size W w2:=((hb.alloc hb.size _).alloc (by have:=hb.size;simp;omega) _).grown hg2 (by have:=hb.size;simp;omega) (fun z hz=>(HO.out.lt z hz).1)
          have HO2:=YJ hown2
          clear hown2 hg2
          go_wp2
          go_roundw
          case rel=>exact⟨q+1,z+1,by omega,rfl,YJ (by have:=Hz.out;omega),hb2,YJ (by rw[show 9*i+3*j+(q+1)=9*i+3*j+q+1 by omega,Hs'.out];simpa using HO2.out)⟩
          case measure=>first|(simp[intOf];done)|(simp[intOf];omega)
         ·clear h0
          go_wp2_with (at_builtin;refine wpList_append_own _ rfl _ _ 33 rfl W.heap.size 36 i0 (vW (0,0,0)) 3 24 und_ways Hi0.out.1 Hi0.out.2.1 Hi0.out.2.2.1 Hi0.out.2.2.2 rfl (by decide) _ P.length _ rfl ((HO.out.alloc _).alloc _) ⟨_,0,none⟩ 1 1 (enc3 (0,y,z)) rfl rfl (fun jj uu hu=>by rw[jY,aq (by simp) jj];simpa [enc3]using hu) (fun u hu=>by simp[enc3]at hu;rcases hu with rfl|rfl|rfl<;>rfl) (by unfold maxLen;omega) (by omega) (by have:=hb.size;simp;omega) ?_)
          intro v' w2 hown2 hg2 _
          have hb2:Below W.heap.size W w2:=((hb.alloc hb.size _).alloc (by have:=hb.size;simp;omega) _).grown hg2 (by have:=hb.size;simp;omega) (fun z hz=>(HO.out.lt z hz).1)
          have HO2:=YJ hown2
          clear hown2 hg2
          go_wp2
          go_roundw
          case rel=>exact⟨q+1,z+1,by omega,rfl,YJ (by have:=Hz.out;omega),hb2,YJ (by rw[show 9*i+3*j+(q+1)=9*i+3*j+q+1 by omega,Hs'.out];simpa using HO2.out)⟩
          case measure=>first|(simp[intOf];done)|(simp[intOf];omega)
        ·clear h0
         go_wp2_with (at_builtin;refine wpList_append_own _ rfl _ _ 33 rfl W.heap.size 36 i0 (vW (0,0,0)) 3 24 und_ways Hi0.out.1 Hi0.out.2.1 Hi0.out.2.2.1 Hi0.out.2.2.2 rfl (by decide) _ P.length _ rfl ((HO.out.alloc _).alloc _) ⟨_,0,none⟩ 1 1 (enc3 (x,y,z)) rfl rfl (fun jj uu hu=>by rw[jY,aq (by simp) jj];simpa [enc3]using hu) (fun u hu=>by simp[enc3]at hu;rcases hu with rfl|rfl|rfl<;>rfl) (by unfold maxLen;omega) (by omega) (by have:=hb.size;simp;omega) ?_)
         intro v' w2 hown2 hg2 _
         have hb2:Below W.heap.size W w2:=((hb.alloc hb.size _).alloc (by have:=hb.size;simp;omega) _).grown hg2 (by have:=hb.size;simp;omega) (fun z hz=>(HO.out.lt z hz).1)
         have HO2:=YJ hown2
         clear hown2 hg2
         go_wp2
         go_roundw
         case rel=>exact⟨q+1,z+1,by omega,rfl,YJ (by have:=Hz.out;omega),hb2,YJ (by rw[show 9*i+3*j+(q+1)=9*i+3*j+q+1 by omega,Hs'.out];simpa using HO2.out)⟩
         case measure=>first|(simp[intOf];done)|(simp[intOf];omega)
      ·obtain rfl:q=3:=by omega
       have t3:¬z≤1:=by have:=Hz.out;omega
       go_wp2
       go_roundw
       case rel=>exact⟨j+1,y+1,by omega,rfl,YJ (by have:=Hy.out;omega),hb,YJ (by rw[show 9*i+3*(j+1)=9*i+3*j+3 by omega];exact HO.out)⟩
       case measure=>first|(simp[intOf];done)|(simp[intOf];omega)
    ·obtain rfl:j=3:=by omega
     have t2:¬y≤1:=by have:=Hy.out;omega
     go_wp2
     go_roundw
     case rel=>exact⟨i+1,x+1,by omega,rfl,YJ (by have:=Hx.out;omega),hb,YJ (by rw[show 9*(i+1)=9*i+3*3 by omega];exact HO.out)⟩
     case measure=>first|(simp[intOf];done)|(simp[intOf];omega)
  ·obtain rfl:i=3:=by omega
   have t1:¬x≤1:=by have:=Hx.out;omega
   have H27:=YJ CY
   go_wp2
   go_ret
   refine⟨_,rfl,hb, ?_⟩
   have:=HO.out
   rwa [show 9*3=27 from rfl,CY]at this
end
end
section
open Go.RowKit Go.Shelf
attribute [local go_sem] Oper.semAt_some
def filS (p:Q3→Bool) (pre:List On):List Q3:=(pre.map Subtype.val).filter p
theorem filS_hit (p:Q3→Bool) (pre:List On) {x:On} (h:p x.1=true):filS p (pre++[x])=filS p pre++[x.1]:=by simp[filS,h]
theorem filS_miss (p:Q3→Bool) (pre:List On) {x:On} (h:p x.1=false):filS p (pre++[x])=filS p pre:=by simp[filS,h]
theorem filS_len (p:Q3→Bool) (pre:List On):(filS p pre).length≤pre.length:=by
 unfold filS
 exact qaD (List.length_filter_le _ _) (by simp)
end
section
open Go.RowKit Go.Shelf
set_option maxRecDepth 100000
attribute [local go_sem] Ext.cell Ext.frozen
def SwQ (L:List Q4) (W:World) (e:Ending) (w':World):Prop:=∃v,e= .returned v∧Below W.heap.size W w'∧w'.ownsRow W.heap.size 196 4 v L.length (L.flatMap aH)
def okWb (x y z:Int):Prop:=(-1≤x∧x≤1)∧(-1≤y∧y≤1)∧(-1≤z∧z≤1)
def slimC (c:List Q4):Prop:=bK c=0∧c.length≤8
theorem swin_len (ps:List Q4) (w:Q3) (x:Q4):(ps.flatMap (Rl w x)).length≤if 0<bj (nrm x) w then(bc ps w).length else 0:=by
 induction ps with
 |nil=>simp
 |cons y l ih=>
  rw[List.flatMap_cons,qaE]
  unfold bc at ih ⊢
  rw[List.filter_cons]
  unfold Rl at ih ⊢
  by_cases h1:0<bj (nrm x) w
  ·rw[if_pos h1]at ih ⊢
   by_cases h2:bj (nrm y) w<0
   ·rw[if_pos (decide_eq_true h2),List.length_cons]
    split
    ·simp only[List.length_singleton];omega
    ·simp only[List.length_nil];omega
   ·rw[if_neg (show ¬(decide (bj (nrm y) w<0)=true) by simpa using h2),if_neg (show ¬(0<bj (nrm x) w∧bj (nrm y) w<0∧nrm (kv x y w)≠(0,0,0))from fun h=>h2 h.2.1)]
    simp only[List.length_nil];omega
  ·rw[if_neg h1]at ih ⊢
   rw[if_neg (fun h=>h1 h.1)]
   simp only[List.length_nil];omega
theorem swRi_len (ps l:List Q4) (w:Q3):(l.flatMap fun x=>ps.flatMap (Rl w x)).length≤(cr l w).length*(bc ps w).length:=by
 induction l with
 |nil=>simp
 |cons x l ih=>
  rw[List.flatMap_cons,qaE]
  have h1:=swin_len ps w x
  unfold cr at ih ⊢
  rw[List.filter_cons]
  by_cases h:0<bj (nrm x) w
  ·rw[if_pos h]at h1
   rw[if_pos (decide_eq_true h),List.length_cons,Nat.add_mul,Nat.one_mul]
   omega
  ·rw[if_neg h]at h1
   rw[if_neg (by simpa using h)]
   omega
theorem fbR_len (ps:List Q4) (w:Q3):(cr ps w).length+(bc ps w).length≤ps.length:=by
 induction ps with
 |nil=>simp[cr,bc]
 |cons x l ih=>
  unfold cr bc at ih ⊢
  rw[List.filter_cons,List.filter_cons,List.length_cons]
  by_cases h:0<bj (nrm x) w
  ·rw[if_pos (decide_eq_true h),if_neg (by rw[decide_eq_true_eq];omega),List.length_cons];omega
  ·rw[if_neg (by simpa using h)]
   split
   ·rw[List.length_cons];omega
   ·omega
theorem sweptR_len (ps:List Q4) (w:Q3) (h:ps.length≤8):(TD ps w).length≤24:=by
 unfold TD TE
 rw[List.take_length,qaE]
 have h1:=swRi_len ps ps w
 have h2:=fbR_len ps w
 have h3:(IH ps w).length≤ps.length:=List.length_filter_le _ _
 generalize(cr ps w).length=f at*
 generalize(bc ps w).length=b at*
 have h4:f*b≤16:=by
  have hf:f≤8:=by omega
  have hb:b≤8-f:=by omega
  have:f*b≤f*(8-f):=Nat.mul_le_mul_left f hb
  have h5:∀f,f≤8→f*(8-f)≤16:=by decide
  have:=h5 f hf
  omega
 omega
theorem refN_okP {c:List Q4} (h:∀p∈c,cI p):(∀p∈ch c,bI p)∧(ch c).length≤c.length:=by
 refine⟨fun q hq=> ?_, ?_⟩
 ·obtain⟨p,hp,rfl⟩:=(SH c h q).1 hq
  exact xJ p (h p (alsm.1 hp).1).1
 ·rw[xF c h]
  unfold iS Sp
  have h1:=WW (iP (iZ (aS c) c))
  have h2:(iP (iZ (aS c) c)).length=(iZ (aS c) c).length:=by unfold iP;simp
  have h3:=sk (aS c) c c.length
  rw[List.take_length]at h3
  omega
theorem sweptR_okW {ps:List Q4} {x y z:Int} (h:∀p∈ps,bI p) (hw:okWb x y z):∀q∈TD ps (x,y,z),okW q:=by
 intro q hq
 unfold TD at hq
 rcases List.mem_append.1 hq with hq|hq
 ·exact DW (h q (alsm.1 hq).1)
 ·obtain⟨a,ha,b,hb, -, -, -,rfl⟩:=mem_swpRi.1 hq
  exact Je _ (Jf a b (x,y,z) (h a ha) (h b hb) hw)
theorem look_ok {c d:List Q4} {x y z:Int} (hc:slimC c) (hd:slimC d) (hw:okWb x y z):(∀p∈TD (ch c) (x,y,z)++ch d,okW p)∧(TD (ch c) (x,y,z)++ch d).length≤32:=by
 have oc:=refN_okP (qV hc.1)
 have od:=refN_okP (qV hd.1)
 refine⟨fun p hp=> ?_, ?_⟩
 ·rcases List.mem_append.1 hp with hp|hp
  ·exact sweptR_okW oc.1 hw p hp
  ·exact DW (od.1 p hp)
 ·have h1:=sweptR_len (ch c) (x,y,z) (qaD oc.2 hc.2)
  have:=hd.2
  rw[qaE]
  omega
theorem sweptR_pos {c:List Q4} {w:Q3} (h:bK c=0) (hw:w≠(0,0,0)):0<(TD (ch c) w).length:=by
 obtain⟨p,hp,h0⟩:=(Rv h).2.2.1 (Dy w) (fun h=>hw (by rw[←Dz w,h];rfl))
 have h1:bj (nrm p) w≤0:=by unfold bj Dy at h0;unfold bj;grind
 unfold TD
 rw[qaE]
 have:0<(IH (ch c) w).length:=List.length_pos_of_mem (alsm.2 ⟨hp,decide_eq_true h1⟩)
 omega
theorem refPts_okX {ps:List Q4} (h:∀p∈ps,okW p):∀c∈ct ps,okX c:=fun c hc=>by
 have hr:=((mc ps).2 c).1 hc
 obtain⟨p,hp,q,hq,r,hr',h0,e⟩:=YN (qaA _) hr
 have:=De p q r (h p hp) (h q hq) (h r hr') (by simpa [okB]using h0)
 unfold lD at this
 rw[if_neg h0]at this
 rw[e]
 exact this
theorem rbk_hitB {p q:List (List Q4)} {w:Q3} {i k:Nat} (hi:i<p.length) (hk:k<q.length) (h:rbk p[i] q[k] w=true):SG p q w=true:=by
 unfold SG
 rw[List.any_eq_true]
 exact⟨p[i],qaB hi,by rw[List.any_eq_true];exact⟨q[k],qaB hk,h⟩⟩
theorem rbk_noB {p q:List (List Q4)} {w:Q3} (h:∀i k (hi:i<p.length) (hk:k<q.length),rbk p[i] q[k] w=false):SG p q w=false:=by
 unfold SG
 rw[List.any_eq_false]
 intro c hc
 obtain⟨i,hi,rfl⟩:=qaJ hc
 rw[Bool.not_eq_true,List.any_eq_false]
 intro d hd
 obtain⟨k,hk,rfl⟩:=qaJ hd
 rw[h i k hi hk]
 simp
def IsAgP (L:List Q4):Value→World→Prop:=fun v w=>∃x,v= .agg #[x]∧Q4s w x L
theorem stab_agp (L:List Q4):dR (IsAgP L):=fun _ _ _ hb ⟨x,h1,h2⟩=>⟨x,h1,Q4s.below h2 hb⟩
theorem rBlocked_any (HSw:∀(ps:List Q4) (pv:Value) (x y z:Int) (W:World),(∀p∈ps,bI p)→ps.length≤16→okWb x y z→Q4s W pv ps→Calls Tryz.prog 103 #[.agg #[pv],V3 x y z] W (SwQ (TD ps (x,y,z)) W))
  (p q:List (List Q4)) (sv tv:Value) (x y z:Int) (W:World) (hp:∀c∈p,slimC c) (hq:∀c∈q,slimC c) (hpl:p.length≤100) (hql:q.length≤100) (hw:okWb x y z) (hw0:((x,y,z):Q3)≠(0,0,0)) (h1:SolV W sv p) (h2:SolV W tv q):
  Calls Tryz.prog 60 #[.agg #[sv], .agg #[tv],V3 x y z] W (Ret W (.bool (SG p q (x,y,z)))):=by
 obtain⟨i0,hi0,hz0,hz1,hz2⟩:=info_parts cY
 have Hi0:=YJ (And.intro hi0 (And.intro hz0 (And.intro hz1 hz2)))
 clear hi0 hz0 hz1 hz2
 obtain⟨sa,sn,sc,rfl,hsn, -,hsx⟩:=h1
 obtain⟨ta,tn,tc,rfl,htn, -,htx⟩:=h2
 obtain⟨V,HV⟩:∃V,Hid (((W.alloc (.cells #[.slice sa sn sc] 81)).alloc (.cells #[.slice ta tn tc] 81)).alloc (.cells #[.int .i64 x, .int .i64 y, .int .i64 z] 36)=V):=⟨_,YJ rfl⟩
 have hV:Below W.heap.size W V:=by rw[←HV.out];exact bel
 have HA:Hid (V.heap[W.heap.size]? =some (.cells #[.slice sa sn sc] 81 (0,0))):=YJ (by rw[←HV.out];exact(aB (by simp<;>omega)).trans ((aB (by simp)).trans (ai rfl)))
 have HB:Hid (V.heap[W.heap.size+1]? =some (.cells #[.slice ta tn tc] 81 (0,0))):=YJ (by rw[←HV.out];exact(aB (by simp)).trans (ai (by simp)))
 have HW:Hid (V.heap[W.heap.size+2]? =some (.cells #[.int .i64 x, .int .i64 y, .int .i64 z] 36 (0,0))):=YJ (by rw[←HV.out];exact ai (by simp))
 have HX:=YJ hsx
 have HY:=YJ htx
 have Hn:=YJ hsn
 have Hm:=YJ htn
 have hxl:sn≤100:=by omega
 have hyl:tn≤100:=by omega
 have HCa:=fun i (h:i<p.length)=>YJ (hp _ (qaB h))
 have HCb:=fun i (h:i<q.length)=>YJ (hq _ (qaB h))
 have Hhit:=fun i k (hi:i<p.length) (hk:k<q.length)=>YJ (@rbk_hitB p q (x,y,z) i k hi hk)
 have Hno:=YJ (@rbk_noB p q (x,y,z))
 have HWb:=YJ hw
 have HSw':=YJ HSw
 clear hsx htx hsn htn hp hq hpl hql hw HSw
 generalize SG p q (x,y,z)=res at*
 go_enter Tryz.func60,Tryz.ntmps60
 go_wp2
 try rw[HV.out]
 go_loopw [7] (fun i wr=>∃k:Nat,k≤sn∧i= .int .i64 k∧Below V.heap.size V wr∧Hid (∀i j (hi:i<p.length) (hj:j<q.length),i<k→rbk p[i] q[j] (x,y,z)=false)) (fun i _=>sn-(intOf i).toNat)
 case atStart=>exact⟨0,by omega,rfl,brf,YJ (fun i j _ _ h=>by omega)⟩
 case round=>
  obtain⟨k,hk,rfl,hb,Hd⟩:=hrel
  have hAr:=(hb.block _ (ah HA.out)).trans HA.out
  have a0:wr.cell? ⟨W.heap.size,0,none⟩=some (.slice sa sn sc):=(ag hAr 0).trans rfl
  have az:=ah hAr
  obtain⟨w0,w1,w2,wf,wz⟩:=NO ((hb.block _ (ah HW.out)).trans HW.out)
  clear hAr
  by_cases hlt:k<sn
  ·have g1:(k:Int)<(sn:Int):=by omega
   have g2:(0:Int)≤(k:Int):=by omega
   have hil:k<p.length:=by have:=Hn.out;omega
   obtain⟨b0,off,rfl,hi4⟩:=HX.out (by omega)
   obtain⟨pv,e0,hq⟩:=hi4 k hil
   have e0:=ab (fB hV hb) e0
   have ze:=qaC wr _ e0
   simp only at ze
   have hsl:=(HCa k hil).out
   have okc:=qV hsl.1
   have okr:=refN_okP okc
   have HNr:=fun W' (hW':Below wr.heap.size wr W')=>YJ (pW p[k] pv W' okc (qaD hsl.2 (by decide)) ((hq.below (fB hV hb)).below hW'))
   have HSk:=fun v W' (hv:Q4s W' v (ch p[k]))=>YJ (HSw'.out (ch p[k]) v x y z W' okr.1 (qaD okr.2 (qaD hsl.2 (by decide))) HWb.out hv)
   obtain⟨pa,pn,pc,rfl, -⟩:=hq
   have HSl:=YJ hsl
   clear hi4 hsl okc okr
   unfold SwQ at HSk
   generalize hSS:TD (ch p[k]) (x,y,z)=SS at HSk
   have HSS:=YJ hSS
   clear hSS
   go_wp2
   apply aj [] [0,1,2,3,4,5,6,7,8,9] 10 [] [sv _,sv _,sv _,sv _,sv _,sv _,⟨OA wr.heap.size (ch p[k]),by first|exact Ox _|exact Pt _ _|exact stab_agp _⟩,⟨IsAgP (ch p[k]),by first|exact Ox _|exact Pt _ _|exact stab_agp _⟩,sv _,⟨OA wr.heap.size SS,by first|exact Ox _|exact Pt _ _|exact stab_agp _⟩] (by kernel_rfl) (by kernel_rfl)
   iterate 6 ((try go_frame);refine wkQ ?_)
   try go_frame
   refine wkU (fun u hR K hK=> ?_) (fun o6=> ?_)
   ·clear hR
    go_simp
    refine((HNr _ u.below).out).mono ?_
    rintro e w9 ⟨v9,rfl,hb9,ho9⟩
    exact hK _ _ hb9 (AY ho9 u.below.size)
   try go_frame
   refine wkU (fun u hR K hK=> ?_) (fun o7=> ?_)
   ·have h6:(OA wr.heap.size (ch p[k])) o6 u.val:=hr hR 6
    clear hR
    have H9:=YJ h6
    obtain⟨a9,c9,rfl⟩:=aT h6
    clear h6
    go_simp
    exact hK _ _ (brf) ⟨_,rfl,dV H9.out⟩
   ((try go_frame);refine wkQ ?_)
   try go_frame
   refine wkU (fun u hR K hK=> ?_) (fun o9=> ?_)
   ·have h7:IsAgP (ch p[k]) o7 u.val:=hr hR 7
    clear hR
    obtain⟨x9,rfl,hx9⟩:=h7
    go_simp
    refine((HSk _ _ hx9).out).mono ?_
    rintro e w9 ⟨v9,rfl,hb9,ho9⟩
    exact hK _ _ hb9 (AY ho9 u.below.size)
   try go_frame
   refine aI (fun u hR=> ?_)
   have ho:OA wr.heap.size SS o9 u.val:=hR 9 (by simp)
   have HO:=YJ ho
   have hbu:=u.below
   clear hR HNr HSk a0 az w0 w1 w2 wf wz e0 ze
   have hSS0:0<SS.length:=by rw[←HSS.out];exact sweptR_pos HSl.out.1 hw0
   rcases id ho.2 with⟨_,hz⟩|⟨gs,oc,_,heo,_⟩
   ·omega
   subst heo
   clear ho
   generalize u.val=wq at*
   clear u
   simp only[oas]
   go_wp2
   refine NoPanic.normal ?_
   have hbV:=fB hb hbu
   go_wp2
   go_loopw [9] (fun jv wr=>∃j:Nat,j≤tn∧jv= .int .i64 j∧Below wq.heap.size wq wr∧Hid (∀m (hm:m<q.length),m<j→rbk p[k] q[m] (x,y,z)=false)) (fun jv _=>tn-(intOf jv).toNat)
   case atStart=>exact⟨0,by omega,rfl,brf,YJ (fun m _ h=>by omega)⟩
   case round=>
    have zq:=hbu.size
    obtain⟨wp0,hwp⟩:∃n0,n0=wr.heap.size:=⟨_,rfl⟩
    obtain⟨j,hj,rfl,hbj,Hdj⟩:=hrel
    have hbVj:=fB hbV hbj
    have hBr:=(hbVj.block _ (ah HB.out)).trans HB.out
    have b1:wr.cell? ⟨W.heap.size+1,0,none⟩=some (.slice ta tn tc):=(ag hBr 0).trans rfl
    have bz:=ah hBr
    clear hBr hwp wp0 zq
    by_cases hlj:j<tn
    ·have g3:(j:Int)<(tn:Int):=by omega
     have g4:(0:Int)≤(j:Int):=by omega
     have hjl:j<q.length:=by have:=Hm.out;omega
     obtain⟨b2,off2,rfl,hi5⟩:=HY.out (by omega)
     obtain⟨qv,f0,hr⟩:=hi5 j hjl
     have f0:=ab (fB hV hbVj) f0
     have zf:=qaC wr _ f0
     simp only at zf
     have hsd:=(HCb j hjl).out
     have okd:=qV hsd.1
     have HNd:=fun W' (hW':Below wr.heap.size wr W')=>YJ (pW q[j] qv W' okd (qaD hsd.2 (by decide)) ((hr.below (fB hV hbVj)).below hW'))
     have HOj:=YJ (au HO.out hbj)
     have hLk:=look_ok HSl.out hsd HWb.out
     rw[HSS.out]at hLk
     have hrl:0<(ch q[j]).length:=by
      obtain⟨o1,ho1, -⟩:=(Rv hsd.1).2.2.1 (1,0,0) (by simp)
      exact List.length_pos_of_mem ho1
     have HCl:Hid (rbk p[k] q[j] (x,y,z)=(SS++ch q[j]).all (gM (ct (SS++ch q[j])))):=YJ (by unfold rbk;rw[HSS.out])
     have HP:=fun v W' (h:Q4s W' v (SS++ch q[j]))=>YJ (SB (SS++ch q[j]) v W' hLk.1 (qaD hLk.2 (by decide)) h)
     have hpl:(ct (SS++ch q[j])).length≤300000:=Qc (qaD hLk.2 (by decide))
     have HI:=fun v cv W' (h:Q4s W' v (SS++ch q[j])) (h':Q4s W' cv (ct (SS++ch q[j])))=>YJ (SC (SS++ch q[j]) (ct (SS++ch q[j])) v cv W' hLk.1 (refPts_okX hLk.1) (qaD hLk.2 (by decide)) (by omega) h h')
     have hln:(SS++ch q[j]).length≤32:=hLk.2
     have Hh:=YJ ((Hhit k j hil hjl).out)
     have Hst:Hid (rbk p[k] q[j] (x,y,z)=false→∀m (hm:m<q.length),m<j+1→rbk p[k] q[m] (x,y,z)=false):=YJ (fun h m hm hmj=>by
      by_cases e:m=j
      ·subst e;exact h
      ·exact Hdj.out m hm (by omega))
     obtain⟨qa,qn,qc,rfl, -⟩:=hr
     rw[←HCl.out]at HI
     rw[qaE]at hln
     clear hi5 hsd okd HX HY Hhit Hno Hd Hdj HCa HCb HO HSl HSS HCl hLk HSw' HWb
     generalize rbk p[k] q[j] (x,y,z)=cl at*
     generalize hRD:ch q[j]=RD at*
     clear hRD
     generalize hcor:ct (SS++RD)=cor at*
     clear hcor
     go_wp2
     apply aj [] [0,1,2,3,4,5,6,7,8,9] 10 [11] [⟨QE wr.heap.size,by first|exact Ox _|exact Pt _ _|exact stab_agp _⟩,sv _,⟨OA wr.heap.size SS,by first|exact Ox _|exact Pt _ _|exact stab_agp _⟩,sv _,sv _,sv _,sv _,sv _,sv _,⟨OA wr.heap.size RD,by first|exact Ox _|exact Pt _ _|exact stab_agp _⟩] (by kernel_rfl) (by kernel_rfl)
     try go_frame
     refine wkU (fun u hR K hK=> ?_) (fun o0=> ?_)
     ·clear hR
      have zz:=u.below.size
      go_simp
      exact hK _ _ bel ⟨_,rfl,zz,ai rfl⟩
     ((try go_frame);refine wkQ ?_)
     try go_frame
     refine wkU (fun u hR K hK=> ?_) (fun o2=> ?_)
     ·have h0:QE wr.heap.size o0 u.val:=hr hR 0
      clear hR
      obtain⟨gm,rfl,hgm,hgl⟩:=h0
      have hOu:=au HOj.out u.below
      obtain⟨v9,w9,hrun,hown9,hb9⟩:=dM (P:=Tryz.prog) (w:=u.val) 165 165 196 i0 (v4 (0,0,0,0)) 4 32 Oc Hi0.out.1 Hi0.out.2.1 Hi0.out.2.2.1 Hi0.out.2.2.2 rfl (by decide) ⟨gm,0,none⟩ 0 0 [] rfl (fun _ _ h=>by simp at h) ⟨gs,0,none⟩ SS.length oc (SS.flatMap aH) (by rw[bh]) (World.ownsRow.cells hOu rfl) (by omega) (by unfold maxLen;omega) (by omega)
      exact cZ _ _ 165 rfl hrun (hK _ _ hb9 (show OA wr.heap.size SS v9 w9 from by have h9:=AY hown9 u.below.size;simp only[Nat.zero_add,List.nil_append]at h9;exact h9))
     iterate 6 ((try go_frame);refine wkQ ?_)
     try go_frame
     refine wkU (fun u hR K hK=> ?_) (fun o9=> ?_)
     ·clear hR
      go_simp
      refine((HNd _ u.below).out).mono ?_
      rintro e w9 ⟨v9,rfl,hb9,ho9⟩
      exact hK _ _ hb9 (AY ho9 u.below.size)
     try go_frame
     refine aI (fun u hR=> ?_)
     have h2:OA wr.heap.size SS o2 u.val:=hR 2 (by simp)
     have h9:OA wr.heap.size RD o9 u.val:=hR 9 (by simp)
     rcases id h9.2 with⟨_,hz⟩|⟨gd,cd,_,hed,_⟩
     ·omega
     subst hed
     have hbu2:=u.below
     have hs9:=World.ownsRow.cells h9 rfl
     clear hR b1 bz f0 zf HNd h9
     generalize u.val=w5 at*
     clear u
     simp only[oas]
     refine bn h2 hbu2 hbu2.size rfl hs9 _ _ rfl rfl rfl rfl (by omega) fun v6 w6 hown6 hb6=> ?_
     have HQ6:=YJ (dV hown6)
     obtain⟨va,vc,rfl⟩:=aT hown6
     generalize(SS++RD).length=nn at*
     clear h2 hs9 hown6 hbu2
     have HP6:=YJ ((HP _ w6 HQ6.out).out)
     clear HP HOj
     iterate 1 (refine wpList_step (fun K hK=> ?_);go_simp;refine hK _ _ ?_;clear hK K)
     refine NoPanic.normal ?_
     go_wp2_with fail
     refine HP6.out.mono ?_
     rintro e w7 ⟨cv,rfl,hb7,hc7⟩
     have HC7:=YJ (dV hc7)
     have HI7:=YJ ((HI _ cv w7 (HQ6.out.below hb7) HC7.out).out)
     obtain⟨ca,cc,rfl⟩:=aT hc7
     have hb67:=fB hb6 hb7
     clear HI hc7 HP6 HQ6 HC7
     generalize cor.length=cn at*
     go_wp2_with fail
     refine HI7.out.mono ?_
     rintro e w8 ⟨rfl,hb8⟩
     have hb68:=fB hb67 hb8
     cases cl with
     |true=>
      obtain rfl:=Hh.out rfl
      have hw8:=fB (fB hV hbVj) hb68
      clear HI7 Hh Hst
      go_wp2
      go_ret
      exact⟨ay (by simp),hw8⟩
     |false=>
      have HF:=YJ (Hst.out rfl)
      clear HI7 Hh Hst
      go_wp2
      go_roundw
      case rel=>exact⟨j+1,by omega,by go_num,fB hbj hb68,HF⟩
      case measure=>first|(simp[intOf];done)|(simp[intOf];omega)
    ·obtain rfl:j=tn:=by omega
     have Hd2:Hid (∀i j (hi:i<p.length) (hj:j<q.length),i<k+1→rbk p[i] q[j] (x,y,z)=false):=YJ (fun i m hi hm h=>by
      by_cases e:i=k
      ·subst e;exact Hdj.out m hm (by have:=Hm.out;omega)
      ·exact Hd.out i m hi hm (by omega))
     clear HX HY Hhit Hno HCa HCb HO HSl HSS HSw'
     go_wp2
     go_roundw
     case rel=>exact⟨k+1,by omega,by go_num,hbVj,Hd2⟩
     case measure=>first|(simp[intOf];done)|(simp[intOf];omega)
  ·obtain rfl:k=sn:=by omega
   have hT:=Hno.out (fun i j hi hj=>Hd.out i j hi hj (by have:=Hn.out;omega))
   subst hT
   have hw4:Below W.heap.size W wr:=fB hV hb
   clear HX HY Hhit Hno Hd HCa HCb HSw' HWb
   go_wp2
   go_ret
   exact⟨ay (by simp),hw4⟩
end
section
open Go.RowKit
set_option maxRecDepth 100000
theorem elems_eq:∀s,s<4096→av s=(List.range 12).filter (fun i=>s.testBit i):=by decide+kernel
theorem mem_elems {s n:Nat} (h:s<4096):n∈av s↔s.testBit n=true:=by
 rw[elems_eq s h,alsm,List.mem_range]
 refine⟨fun h=>h.2,fun k=>⟨?_,k⟩⟩
 refine Nat.lt_of_not_le fun h12=> ?_
 have:s<2 ^ n:=qaG h (Nat.pow_le_pow_right (show 0<2 by omega) h12)
 rw[Nat.testBit_lt_two_pow this]at k
 cases k
theorem gRow_bit (ps:List (List Bod)) (v:Q3) (i n k:Nat):(ks ps v i n).testBit k=(decide (k<n)&&(decide (i≠k)&&Cb ps v i k)):=by
 unfold ks
 induction n with
 |zero=>simp
 |succ n ih=>
  rw[List.range_succ,List.foldl_append]
  simp only[List.foldl_cons,List.foldl_nil]
  split
  ·rename_i h
   rw[Nat.testBit_or,ih,Nat.testBit_two_pow]
   by_cases e:n=k
   ·subst e;simp[h.1,h.2]
   ·have:decide (k<n+1)=decide (k<n):=by by_cases h:k<n<;>simp[h]<;>omega
    rw[this]
    simp[e]
  ·rename_i h
   rw[ih]
   by_cases e:n=k
   ·subst e
    have:(decide (i≠n)&&Cb ps v i n)=false:=by
     by_cases h1:i=n
     ·simp[h1]
     ·cases hb:Cb ps v i n with
      |false=>simp
      |true=>exact absurd ⟨h1,hb⟩ h
    rw[this]
    simp
   ·have:decide (k<n+1)=decide (k<n):=by by_cases h:k<n<;>simp[h]<;>omega
    rw[this]
theorem nextA_bit (G:List Nat) (grp:Nat) (l:List Nat) (k:Nat):(kn G grp l).testBit k=true↔grp.testBit k=true∧∃j∈l,(G.getD j 0).testBit k=true:=by
 unfold kn
 have key:∀(l:List Nat) (s:Nat),(l.foldl (fun s k=>s |||(G.getD k 0&&& grp)) s).testBit k=true↔s.testBit k=true∨(grp.testBit k=true∧∃j∈l,(G.getD j 0).testBit k=true):=by
  intro l
  induction l with
  |nil=>intro s;simp
  |cons x l ih=>
   intro s
   rw[List.foldl_cons,ih,Nat.testBit_or,Nat.testBit_and]
   simp only[Bool.or_eq_true,qaF,alsk,exists_eq_or_imp]
   constructor
   ·rintro((h|h)|h)
    ·exact .inl h
    ·exact .inr ⟨h.2, .inl h.1⟩
    ·exact .inr ⟨h.1, .inr h.2⟩
   ·rintro(h|⟨h,h1|h1⟩)
    ·exact .inl (.inl h)
    ·exact .inl (.inr ⟨h1,h⟩)
    ·exact .inr ⟨h,h1⟩
 rw[key]
 simp
inductive Rch (E:Nat→Nat→Prop) (grp:Nat→Prop) (n:Nat):Nat→Prop
 |base:Rch E grp n n
 |step {j k:Nat}:Rch E grp n j→E j k→grp k→Rch E grp n k
def bitE (G:List Nat) (j k:Nat):Prop:=(G.getD j 0).testBit k=true
theorem carA_rch (G:List Nat) (grp n:Nat) (hg:grp<4096):∀f out fr,out<4096→fr<4096→cM out fr≤f→out.testBit n=true→
  (∀k,out.testBit k=true→Rch (bitE G) (fun k=>grp.testBit k=true) n k)→(∀k,fr.testBit k=true→out.testBit k=true)→
  (∀j k,out.testBit j=true→fr.testBit j=false→bitE G j k→grp.testBit k=true→out.testBit k=true)→
  ∀k,(Ro G grp f out fr).testBit k=true↔Rch (bitE G) (fun k=>grp.testBit k=true) n k
 |0,out,fr,ho,hf,hm,hn,h1,h2,h3=>by
  have h0:fr=0:=Classical.byContradiction fun h0=>by unfold cM at hm;rw[if_neg h0]at hm;omega
  subst h0
  intro k
  rw[TN]
  refine⟨h1 k,fun h=> ?_⟩
  induction h with
  |base=>exact hn
  |step _ e g ih=>exact h3 _ _ ih (by simp) e g
 |f+1,out,fr,ho,hf,hm,hn,h1,h2,h3=>by
  intro k
  by_cases h0:fr=0
  ·subst h0
   rw[TN]
   refine⟨h1 k,fun h=> ?_⟩
   induction h with
   |base=>exact hn
   |step _ e g ih=>exact h3 _ _ ih (by simp) e g
  ·rw[Ro,if_neg h0]
   have hnx:=nextA_bit G grp (av fr)
   have hn2:kn G grp (av fr)<4096:=Oj G grp 12 hg _
   have ho2:out |||kn G grp (av fr)<4096:=Nat.or_lt_two_pow (n:=12) ho hn2
   have hd:=Gj (nx:=kn G grp (av fr)) h0 ho ho2
   have hdl:dN (kn G grp (av fr)) out<4096:=Nat.xor_lt_two_pow (n:=12) hn2 (Nat.lt_of_le_of_lt Nat.and_le_left hn2)
   refine carA_rch G grp n hg f _ (dN (kn G grp (av fr)) out) ho2 hdl (by omega) (by rw[Nat.testBit_or,hn];rfl) (fun k hk=> ?_) (fun k hk=> ?_) (fun j k hj hf2 he hg2=> ?_) k
   ·rw[Nat.testBit_or,Bool.or_eq_true]at hk
    rcases hk with hk|hk
    ·exact h1 k hk
    ·obtain⟨hk1,j,hj,hk2⟩:=(hnx k).1 hk
     exact .step (h1 j (h2 j ((mem_elems hf).1 hj))) hk2 hk1
   ·rw[Gh,qaF]at hk
    rw[Nat.testBit_or,hk.1,Bool.or_true]
   ·rw[Nat.testBit_or,Bool.or_eq_true]at hj ⊢
    rw[Gh]at hf2
    have hjo:out.testBit j=true:=by
     rcases hj with hj|hj
     ·exact hj
     ·rw[hj]at hf2;simpa using hf2
    cases hfj:fr.testBit j with
    |false=>exact .inl (h3 j k hjo hfj he hg2)
    |true=>exact .inr ((hnx k).2 ⟨hg2,j,(mem_elems hf).2 hfj,he⟩)
theorem car_rch (G:List Nat) (grp n:Nat) (hg:grp<4096) (hn:n<12) (k:Nat):(car G grp n).testBit k=true↔Rch (bitE G) (fun k=>grp.testBit k=true) n k:=by
 unfold car
 have h2:2 ^ n<4096:=qaG (Nat.pow_lt_pow_right (by decide) hn) (by decide)
 refine carA_rch G grp n hg 8193 _ _ h2 h2 (by unfold cM;have:=Nat.two_pow_pos n;split<;>omega) (by rw[Nat.testBit_two_pow];simp) (fun k hk=> ?_) (fun k hk=>hk) (fun j k hj hf=> ?_) k
 ·rw[Nat.testBit_two_pow]at hk
  have:n=k:=by simpa using hk
  subst this
  exact .base
 ·rw[hj]at hf
  cases hf
def stepIn (E:Nat→Nat→Bool) (grp:List Nat) (x:Nat) (acc:List Nat):List Nat:=grp.foldl (fun acc y=>if E x y&& !acc.contains y then acc++[y]else acc) acc
def bfsF (E:Nat→Nat→Bool) (grp:List Nat):Nat→Nat→List Nat→List Nat
 |0,_,acc=>acc
 |f+1,i,acc=>if h:i<acc.length then bfsF E grp f (i+1) (stepIn E grp acc[i] acc)else acc
theorem stepIn_spec (E:Nat→Nat→Bool) (x:Nat):∀(grp acc:List Nat),acc.Nodup→(stepIn E grp x acc).Nodup∧(∃t,stepIn E grp x acc=acc++t)∧∀y,y∈stepIn E grp x acc↔y∈acc∨(y∈grp∧E x y=true)
 | [],acc,h=>⟨h,⟨[],by simp[stepIn]⟩,fun y=>by simp[stepIn]⟩
 |z::grp,acc,h=>by
  have hs:stepIn E (z::grp) x acc=stepIn E grp x (if E x z&& !acc.contains z then acc++[z]else acc):=rfl
  rw[hs]
  by_cases hc:(E x z&& !acc.contains z)=true
  ·rw[if_pos hc]
   rw[qaF]at hc
   have hz:z ∉ acc:=by simpa using hc.2
   obtain⟨h1,⟨t,h2⟩,h3⟩:=stepIn_spec E x grp (acc++[z]) (by rw[List.nodup_append];exact⟨h,by simp,fun a ha b hb e=>by simp at hb;subst hb;subst e;exact hz ha⟩)
   refine⟨h1,⟨z::t,by rw[h2];simp⟩,fun y=> ?_⟩
   rw[h3]
   simp only[List.mem_append,alsk,List.not_mem_nil,or_false]
   constructor
   ·rintro((h|rfl)|⟨h,k⟩)
    ·exact .inl h
    ·exact .inr ⟨.inl rfl,hc.1⟩
    ·exact .inr ⟨.inr h,k⟩
   ·rintro(h|⟨rfl|h,k⟩)
    ·exact .inl (.inl h)
    ·exact .inl (.inr rfl)
    ·exact .inr ⟨h,k⟩
  ·rw[if_neg hc]
   obtain⟨h1,h2,h3⟩:=stepIn_spec E x grp acc h
   refine⟨h1,h2,fun y=> ?_⟩
   rw[h3]
   simp only[alsk]
   constructor
   ·rintro(h|⟨h,k⟩)
    ·exact .inl h
    ·exact .inr ⟨.inr h,k⟩
   ·rintro(h|⟨rfl|h,k⟩)
    ·exact .inl h
    ·refine .inl (Classical.byContradiction fun hn=>hc ?_)
     rw[k]
     simpa using hn
    ·exact .inr ⟨h,k⟩
end
section
open Go.RowKit
theorem nodup_len:∀(t l:List Nat),t.Nodup→(∀x∈t,x∈l)→t.length≤l.length
 | [],l,_,_=>by simp
 |a::t,l,hn,hs=>by
  rw[List.nodup_cons]at hn
  have ha:=hs a (by simp)
  have h:=nodup_len t (l.erase a) hn.2 (fun x hx=>(List.mem_erase_of_ne (fun e=>hn.1 (by rw[←e];exact hx))).2 (hs x (by simp[hx])))
  rw[List.length_erase_of_mem ha]at h
  have:=List.length_pos_of_mem ha
  rw[List.length_cons]
  omega
structure BfsI (E:Nat→Nat→Bool) (grp:List Nat) (n i:Nat) (acc:List Nat):Prop where
 nd:acc.Nodup
 le:i≤acc.length
 mem:n∈acc
 rch:∀y∈acc,Rch (fun j k=>E j k=true) (· ∈grp) n y
 clo:∀j (h:j<acc.length),j<i→∀y∈grp,E acc[j] y=true→y∈acc
theorem BfsI.len {E:Nat→Nat→Bool} {grp:List Nat} {n i:Nat} {acc:List Nat} (h:BfsI E grp n i acc):acc.length≤grp.length+1:=by
 have:=nodup_len acc (n::grp) h.nd (fun x hx=>by
  have:=h.rch x hx
  cases this with
  |base=>simp
  |step _ _ g=>simp[g])
 simpa using this
theorem BfsI.start (E:Nat→Nat→Bool) (grp:List Nat) (n:Nat):BfsI E grp n 0 [n]:=
 ⟨by simp,by simp,by simp,fun y hy=>by simp at hy;subst hy;exact .base,fun j _ h=>by omega⟩
theorem BfsI.next {E:Nat→Nat→Bool} {grp:List Nat} {n i:Nat} {acc:List Nat} (h:BfsI E grp n i acc) (hi:i<acc.length):BfsI E grp n (i+1) (stepIn E grp acc[i] acc):=by
 obtain⟨h1,⟨t,ht⟩,h3⟩:=stepIn_spec E acc[i] grp acc h.nd
 refine⟨h1,by rw[ht,qaE];omega,(h3 n).2 (.inl h.mem),fun y hy=> ?_,fun j hj hji y hy he=> ?_⟩
 ·rcases(h3 y).1 hy with hy|⟨hy,he⟩
  ·exact h.rch y hy
  ·exact .step (h.rch _ (qaB hi)) he hy
 ·have e:(stepIn E grp acc[i] acc)[j]'hj=acc[j]'(by omega):=by
   simp only[ht]
   rw[List.getElem_append_left (by omega)]
  rw[e]at he
  rw[h3]
  by_cases hij:j=i
  ·subst hij;exact .inr ⟨hy,he⟩
  ·exact .inl (h.clo j (by omega) (by omega) y hy he)
theorem BfsI.done {E:Nat→Nat→Bool} {grp:List Nat} {n:Nat} {acc:List Nat} (h:BfsI E grp n acc.length acc) (y:Nat):y∈acc↔Rch (fun j k=>E j k=true) (· ∈grp) n y:=by
 refine⟨h.rch y,fun hr=> ?_⟩
 induction hr with
 |base=>exact h.mem
 |step _ e g ih=>
  obtain⟨j,hj,rfl⟩:=qaJ ih
  exact h.clo j hj hj _ g e
end
section
open Go.RowKit
def rgph (l:List (List (List Q4))) (w:Q3) (i:Nat):List Nat:=(List.range l.length).filter fun k=>decide (k≠i)&&SG (l.getD i []) (l.getD k []) w
theorem bfsF_done (E:Nat→Nat→Bool) (grp:List Nat) (n:Nat):∀f i acc,BfsI E grp n i acc→grp.length+1-i≤f→BfsI E grp n (bfsF E grp f i acc).length (bfsF E grp f i acc)
 |0,i,acc,h,hf=>by
  have h1:=h.len
  have h2:=h.le
  have:i=acc.length:=by omega
  subst this
  exact h
 |f+1,i,acc,h,hf=>by
  unfold bfsF
  by_cases hi:i<acc.length
  ·rw[dif_pos hi]
   exact bfsF_done E grp n f (i+1) _ (h.next hi) (by omega)
  ·rw[dif_neg hi]
   have h2:=h.le
   have:i=acc.length:=by omega
   subst this
   exact h
def rcarL (E:Nat→Nat→Bool) (grp:List Nat) (n:Nat):List Nat:=grp.filter fun y=>(bfsF E grp (grp.length+1) 0 [n]).contains y
theorem elems_inj {a b:Nat} (ha:a<4096) (hb:b<4096) (h:av a=av b):a=b:=by
 apply Nat.eq_of_testBit_eq
 intro i
 rw[Bool.eq_iff_iff, ←mem_elems ha, ←mem_elems hb,h]
theorem filt_lt {p:Nat→Bool}:∀l:List Nat,(l.filter p).length<l.length↔l.filter p≠l
 | []=>by simp
 |a::l=>by
  rw[List.filter_cons]
  have h1:=List.length_filter_le p l
  have h2:=filt_lt (p:=p) l
  split
  ·rw[List.length_cons,List.length_cons]
   simp only[ne_eq,List.cons.injEq,true_and]
   rw[←ne_eq, ←h2]
   omega
  ·rw[List.length_cons]
   refine⟨fun _ e=> ?_,fun _=>by omega⟩
   have:=congrArg List.length e
   rw[List.length_cons]at this
   omega
end
section
open Go.RowKit
theorem filter_range (n:Nat) (p:Nat→Bool):∀m,n≤m→(List.range m).filter (fun k=>decide (k<n)&&p k)=(List.range n).filter p
 |0,h=>by
  obtain rfl:n=0:=by omega
  rfl
 |m+1,h=>by
  by_cases hn:n=m+1
  ·subst hn
   refine List.filter_congr fun k hk=> ?_
   rw[List.mem_range]at hk
   simp[hk]
  ·rw[List.range_succ,List.filter_append,filter_range n p m (by omega)]
   have:¬m<n:=by omega
   simp[this]
theorem gph_list {l:List (List (List Q4))} (h:eB l=0) {w:Q3} (hw:w≠(0,0,0)) {j:Nat} (hj:j<l.length):av ((eM (l.map (·.map bp)) w).getD j 0)=rgph l w j:=by
 have hl:l.length≤12:=(sq h).1
 have hp:cx l=0:=by
  unfold eB at h
  split at h
  ·cases h
  ·split at h
   ·assumption
   ·exact h
 have e:(eM (l.map (·.map bp)) w).getD j 0=ks (l.map (·.map bp)) w j l.length:=by
  unfold eM
  rw[List.length_map]
  simp[List.getD,hj]
 rw[e,elems_eq _ (Ei _ _ _ _ hl)]
 unfold rgph
 rw[←filter_range l.length _ 12 hl]
 refine List.filter_congr fun k _=> ?_
 rw[gRow_bit]
 unfold Cb
 rw[DT,DT,Tj (PV hp j) (PV hp k) hw]
 by_cases hjk:j=k
 ·subst hjk;simp
 ·have h2:¬k=j:=fun e=>hjk e.symm
  simp[hjk,h2]
theorem elems_nil {s:Nat} (h:s<4096):av s=[]↔s=0:=by
 refine⟨fun e=>elems_inj h (by decide) (e.trans elems_zero.symm),fun e=>by rw[e];rfl⟩
def movR (E:Nat→Nat→Bool) (grp out:List Nat):Bool:=out.all fun j=>(grp.filter fun y=> !out.contains y).all fun y=> !E j y
end
section
open Go.RowKit
theorem lt_ext:∀(l m:List Nat),l.Pairwise (· < ·)→m.Pairwise (· < ·)→(∀x,x∈l↔x∈m)→l=m
 | [],[],_,_,_=>rfl
 | [],b::m,_,_,h=>by have:=(h b).2 (by simp);cases this
 |a::l,[],_,_,h=>by have:=(h a).1 (by simp);cases this
 |a::l,b::m,hl,hm,h=>by
  rw[List.pairwise_cons]at hl hm
  have hab:a=b:=by
   have h1:=(h a).1 (by simp)
   have h2:=(h b).2 (by simp)
   rcases alsk.1 h1 with e|h1
   ·exact e
   ·rcases alsk.1 h2 with e|h2
    ·exact e.symm
    ·have:=hm.1 a h1
     have:=hl.1 b h2
     omega
  subst hab
  congr 1
  refine lt_ext l m hl.2 hm.2 (fun x=>⟨fun hx=> ?_,fun hx=> ?_⟩)
  ·have h1:=(h x).1 (by simp[hx])
   rcases alsk.1 h1 with e|h1
   ·have:=hl.1 x hx;omega
   ·exact h1
  ·have h1:=(h x).2 (by simp[hx])
   rcases alsk.1 h1 with e|h1
   ·have:=hm.1 x hx;omega
   ·exact h1
theorem range_lt (n:Nat):(List.range n).Pairwise (· < ·):=List.pairwise_lt_range
theorem elems_lt_sorted {s:Nat} (h:s<4096):(av s).Pairwise (· < ·):=by rw[elems_eq s h];exact(range_lt 12).filter _
end
section
open Go.RowKit Go.Shelf Go.Lib
attribute [local go_sem] Ext.cell Ext.frozen
def nI (l:List Nat):List Int:=l.map fun n:Nat=>(n:Int)
theorem nI_len (l:List Nat):(nI l).length=l.length:=List.length_map _
theorem nI_vals (l:List Nat):(nI l).map (Value.int .i64)=l.map iV:=by unfold nI;rw[List.map_map];rfl
theorem lst_ints {w:World} {B:Nat} {v:Value} {l:List Nat} (h:w.ownsRow B 3 1 v l.length (l.map iV)):Ints w v (nI l):=jy (T:=3) (base:=B) (by rw[nI_len,nI_vals];exact h)
end
section
open Go.RowKit Go.Shelf Go.Lib
set_option maxRecDepth 100000
attribute [local go_sem] Ext.cell Ext.frozen
def RowsP {α:Type} (P:Value→α→Prop) (vs:List Value) (l:List α):Prop:=vs.length=l.length∧∀i (h1:i<vs.length) (h2:i<l.length),P vs[i] l[i]
theorem RowsP.nil {α:Type} {P:Value→α→Prop}:RowsP P [] []:=⟨rfl,fun i h=>by simp at h⟩
theorem RowsP.snoc {α:Type} {P:Value→α→Prop} {vs:List Value} {l:List α} {v:Value} {s:α} (h:RowsP P vs l) (hv:P v s):RowsP P (vs++[v]) (l++[s]):=by
 refine⟨by simp[h.1],fun i h1 h2=> ?_⟩
 by_cases hi:i<vs.length
 ·have hc:i<l.length:=by rw[←h.1];exact hi
  rw[List.getElem_append_left hi,List.getElem_append_left hc]
  exact h.2 i hi hc
 ·have he:i=vs.length:=by simp at h1;omega
  subst he
  have:=h.1
  simp only[List.getElem_append_right (qaA _),Nat.sub_self,List.getElem_cons_zero]
  rw[List.getElem_append_right (by omega)]
  simp only[this,Nat.sub_self,List.getElem_cons_zero]
  exact hv
theorem RowsP.imp {α:Type} {P Q:Value→α→Prop} {vs:List Value} {l:List α} (hi:∀v a,P v a→Q v a) (h:RowsP P vs l):RowsP Q vs l:=⟨h.1,fun i h1 h2=>hi _ _ (h.2 i h1 h2)⟩
theorem each_own {α:Type} {E:World→Value→α→Prop} {w:World} {B n:Nat} {T:TypeId} {v:Value} {vs:List Value} {l:List α} (h:w.ownsRow B T 1 v n vs) (hn:n=l.length) (hr:RowsP (E w) vs l):Each w v E l:=by
 subst hn
 have hlen:=h.1
 have hX:=h.2
 rcases hX with⟨rfl,h0⟩|⟨g,cap,cur,rfl,hb,hh,hnc,hcm,hcs,htk⟩
 ·exact⟨none,0,0,rfl,h0,qaA _,fun h=>absurd h (by omega)⟩
 ·refine⟨_,_,_,rfl,rfl,hnc,fun _=>⟨g,0,rfl,fun i hi=> ?_⟩⟩
  have hi2:i<vs.length:=by omega
  refine⟨vs[i], ?_,hr.2 i hi2 hi⟩
  have h3:=(World.ownsRow.cells h rfl) i vs[i] (by simp[hi2])
  simpa [jY]using h3
def OwnI (B:Nat) (w:World) (v:Value) (l:List Nat):Prop:=w.ownsRow B 3 1 v l.length (l.map iV)
theorem OwnI.below {B:Nat} {w w':World} {v:Value} {l:List Nat} (h:OwnI B w v l) (hb:Below w.heap.size w w'):OwnI B w' v l:=au h hb
theorem OwnI.mono {B B':Nat} {w:World} {v:Value} {l:List Nat} (h:OwnI B w v l) (hb:B'≤B):OwnI B' w v l:=AY h hb
theorem OwnI.ints {B:Nat} {w:World} {v:Value} {l:List Nat} (h:OwnI B w v l):Ints w v (nI l):=lst_ints h
theorem OwnI.kept {B:Nat} {w w':World} {v:Value} {l:List Nat} {row:Option Nat} {T:TypeId} (hT:T≠3) (h:OwnI B w v l) (hg:w.grownBy w' row) (hne:∀g cs,row=some g→w.heap[g]? =some cs→∃c t,cs= .cells c t (0,0)∧t=T):OwnI B w' v l:=
 Qu h hg (fun g cs k1 k2=>by obtain⟨c,t,h3,h4⟩:=hne g cs k1 k2;exact⟨c,t,h3,by rw[h4];exact hT⟩)
def OwnG (B:Nat) (w:World) (v:Value) (g:List (List Nat)):Prop:=∃vs,w.ownsRow B 49 1 v g.length vs∧RowsP (OwnI B w) vs g
theorem OwnG.below {B:Nat} {w w':World} {v:Value} {g:List (List Nat)} (h:OwnG B w v g) (hb:Below w.heap.size w w'):OwnG B w' v g:=by
 obtain⟨vs,h1,h2⟩:=h
 exact⟨vs,au h1 hb,h2.imp fun _ _ h=>h.below hb⟩
theorem OwnG.mono {B B':Nat} {w:World} {v:Value} {g:List (List Nat)} (h:OwnG B w v g) (hb:B'≤B):OwnG B' w v g:=by
 obtain⟨vs,h1,h2⟩:=h
 exact⟨vs,AY h1 hb,h2.imp fun _ _ h=>h.mono hb⟩
theorem OwnG.kept {B:Nat} {w w':World} {v:Value} {g:List (List Nat)} {row:Option Nat} {T:TypeId} (hT:T≠3) (hT2:T≠49) (h:OwnG B w v g) (hg:w.grownBy w' row) (hne:∀g cs,row=some g→w.heap[g]? =some cs→∃c t,cs= .cells c t (0,0)∧t=T):OwnG B w' v g:=by
 obtain⟨vs,h1,h2⟩:=h
 exact⟨vs,Qu h1 hg (fun g cs k1 k2=>by obtain⟨c,t,h3,h4⟩:=hne g cs k1 k2;exact⟨c,t,h3,by rw[h4];exact hT2⟩),h2.imp fun _ _ h=>h.kept hT hg hne⟩
def NatV (w:World) (v:Value) (l:List Nat):Prop:=Ints w v (nI l)
def GrfV (w:World) (v:Value) (g:List (List Nat)):Prop:=Each w v NatV g
def GsV (w:World) (v:Value) (gs:List (List (List Nat))):Prop:=Each w v GrfV gs
theorem NatV.below {w w':World} {v:Value} {l:List Nat} (h:NatV w v l) (hb:Below w.heap.size w w'):NatV w' v l:=Ints.below h hb
theorem GrfV.below {w w':World} {v:Value} {g:List (List Nat)} (h:GrfV w v g) (hb:Below w.heap.size w w'):GrfV w' v g:=Each.below (fun _ _ _ _ hb h=>NatV.below h hb) h hb
theorem GsV.below {w w':World} {v:Value} {gs:List (List (List Nat))} (h:GsV w v gs) (hb:Below w.heap.size w w'):GsV w' v gs:=Each.below (fun _ _ _ _ hb h=>GrfV.below h hb) h hb
theorem OwnG.grf {B:Nat} {w:World} {v:Value} {g:List (List Nat)} (h:OwnG B w v g):GrfV w v g:=by
 obtain⟨vs,h1,h2⟩:=h
 exact each_own h1 rfl (h2.imp fun _ _ h=>h.ints)
def GrO (g:List (List Nat)) (W:World) (e:Ending) (w':World):Prop:=∃v,e= .returned v∧Below W.heap.size W w'∧OwnG W.heap.size w' v g
theorem info_ints:(Tryz.prog.info? 49).map (fun i=>(i.zero,i.size,i.bytes))=some (some (.slice none 0 0),1,24):=by kernel_rfl
theorem und_intss:Tryz.prog.underlying 37=some (.slice 49):=by kernel_rfl
def rgphs (l:List (List (List Q4))) (w:Q3):List (List Nat):=(List.range l.length).map (rgph l w)
theorem rgphs_len (l:List (List (List Q4))) (w:Q3):(rgphs l w).length=l.length:=by unfold rgphs;simp
theorem rgphs_succ {l:List (List (List Q4))} {w:Q3} {k:Nat} (h:k<l.length):(rgphs l w).take (k+1)=(rgphs l w).take k++[rgph l w k]:=by
 rw[qaI (by rw[rgphs_len];exact h)]
 congr 2
 unfold rgphs
 simp
def rgrow (l:List (List (List Q4))) (w:Q3) (i k:Nat):List Nat:=(List.range k).filter fun k=>decide (k≠i)&&SG (l.getD i []) (l.getD k []) w
theorem rgrow_succ {l:List (List (List Q4))} {w:Q3} {i k:Nat} (hi:i<l.length) (hk:k<l.length):rgrow l w i (k+1)=if(decide (k≠i)&&SG l[i] l[k] w)=true then rgrow l w i k++[k]else rgrow l w i k:=by
 unfold rgrow
 rw[List.range_succ,List.filter_append,List.filter_cons]
 have e1:l.getD i []=l[i]:=by simp[List.getD,hi]
 have e2:l.getD k []=l[k]:=by simp[List.getD,hk]
 rw[e1,e2]
 split<;>simp
theorem rgrow_len (l:List (List (List Q4))) (w:Q3) (i k:Nat):(rgrow l w i k).length≤k:=qaD (List.length_filter_le _ _) (by simp)
theorem rGraph_any (l:List (List (List Q4))) (lv:Value) (x y z:Int) (W:World) (hl:l.length≤1000) (hL:∀s∈l,s.length≤100∧∀c∈s,slimC c) (hw:okWb x y z) (hw0:((x,y,z):Q3)≠(0,0,0)) (h:SolsV W lv l):
  Calls Tryz.prog 20 #[lv,V3 x y z] W (GrO (rgphs l (x,y,z)) W):=by
 obtain⟨i0,hi0,hz0,hz1,hz2⟩:=info_parts In
 have Hi0:=YJ (And.intro hi0 (And.intro hz0 (And.intro hz1 hz2)))
 obtain⟨i1,hj0,hy0,hy1,hy2⟩:=info_parts info_ints
 have Hi1:=YJ (And.intro hj0 (And.intro hy0 (And.intro hy1 hy2)))
 clear hi0 hz0 hz1 hz2 hj0 hy0 hy1 hy2
 obtain⟨V,HV⟩:∃V,Hid (W.alloc (.cells #[.int .i64 x, .int .i64 y, .int .i64 z] 36)=V):=⟨_,YJ rfl⟩
 have hV:Below W.heap.size W V:=by rw[←HV.out];exact bel
 have zV:W.heap.size≤V.heap.size:=hV.size
 have HW:Hid (V.heap[W.heap.size]? =some (.cells #[.int .i64 x, .int .i64 y, .int .i64 z] 36 (0,0))):=YJ (by rw[←HV.out];exact ai rfl)
 have HB:=fun i k (hi:i<l.length) (hk:k<l.length) sv tv W' (k1:SolV W' sv l[i]) (k2:SolV W' tv l[k])=>YJ (rBlocked_any (fun ps pv x y z W h1 h2 h3 h4=>Tf ps pv x y z W h1 h2 h3.1 h3.2.1 h3.2.2 h4) l[i] l[k] sv tv x y z W' (hL _ (qaB hi)).2 (hL _ (qaB hk)).2 (hL _ (qaB hi)).1 (hL _ (qaB hk)).1 hw hw0 k1 k2)
 have HS1:=fun k (h:k<l.length)=>YJ (@rgphs_succ l (x,y,z) k h)
 have HS2:=fun i k (hi:i<l.length) (h:k<l.length)=>YJ (@rgrow_succ l (x,y,z) i k hi h)
 have HLn:=fun i k=>YJ (rgrow_len l (x,y,z) i k)
 obtain⟨la,n,lc,rfl,hn, -,hx⟩:=h
 have HX:=YJ hx
 have HN:=YJ hn
 have hn1:n≤1000:=by omega
 have HE:Hid ((rgphs l (x,y,z)).take n=rgphs l (x,y,z)):=YJ (by rw[←hn, ←rgphs_len l (x,y,z),List.take_length])
 have HEl:Hid ((rgphs l (x,y,z)).length=n):=YJ (by rw[rgphs_len,hn])
 have HRg:Hid (∀i,rgrow l (x,y,z) i n=rgph l (x,y,z) i):=YJ (fun i=>by unfold rgrow rgph;rw[hn])
 clear hx hn hl hL hw hw0
 go_enter Tryz.func20,Tryz.ntmps20
 go_wp2
 try rw[HV.out]
 go_loopw [5,6] (fun s ix wr=>∃k:Nat,k≤n∧ix= .int .i64 k∧Below V.heap.size V wr∧∃vs,Hid (wr.ownsRow V.heap.size 49 1 s k vs)∧Hid (RowsP (OwnI V.heap.size wr) vs ((rgphs l (x,y,z)).take k))) (fun _ ix _=>n-(intOf ix).toNat)
 case atStart=>exact⟨0,by omega,rfl,brf,[],YJ (World.ownsRow_nil _ _ _ _),YJ (by rw[List.take_zero];exact RowsP.nil)⟩
 case round=>
  obtain⟨i,hi,rfl,hb,vs,HO,HR⟩:=hrel
  obtain⟨oa,oc,rfl⟩:=aT HO.out
  by_cases hlt:i<n
  ·have g1:(i:Int)<(n:Int):=by omega
   have g2:(0:Int)≤(i:Int):=by omega
   have hil:i<l.length:=by have:=HN.out;omega
   have HSi:=YJ (HS1 i hil).out
   have HS2i:=fun k (h:k<l.length)=>YJ (HS2 i k hil h).out
   have HBi:=fun k (h:k<l.length) sv tv W' k1 k2=>YJ (HB i k hil h sv tv W' k1 k2).out
   have hbV:=fB hV hb
   obtain⟨b,off,rfl,hi4⟩:=HX.out (by omega)
   have HX4:=YJ hi4
   clear hi4 HX HS1 HS2 HB
   obtain⟨wo,rfl⟩:∃wo:World,wo=wr:=⟨_,rfl⟩
   go_wp2
   go_loopw [7,8] (fun r iy wr=>∃k:Nat,k≤n∧iy= .int .i64 k∧Below wo.heap.size wo wr∧Hid (wr.ownsRow wo.heap.size 3 1 r (rgrow l (x,y,z) i k).length ((rgrow l (x,y,z) i k).map iV))) (fun _ iy _=>n-(intOf iy).toNat)
   case atStart=>exact⟨0,by omega,rfl,brf,YJ (World.ownsRow_nil _ _ _ _)⟩
   case round=>
    obtain⟨k,hk,rfl,hbw,HP⟩:=hrel
    obtain⟨ra,rc,rfl⟩:=aT HP.out
    by_cases hkn:k<n
    ·have g3:(k:Int)<(n:Int):=by omega
     have g4:(0:Int)≤(k:Int):=by omega
     have hkl:k<l.length:=by have:=HN.out;omega
     have HS2k:=YJ (HS2i k hkl).out
     have hPl:(rgrow l (x,y,z) i k).length≤1000:=qaD (HLn i k).out (by omega)
     by_cases hki:k=i
     ·have HS2':rgrow l (x,y,z) i (k+1)=rgrow l (x,y,z) i k:=by rw[HS2k.out,if_neg (by simp[hki])]
      have gk:((k:Int)!=(i:Int))=false:=by simp[hki]
      clear HS2k HS2i HBi HX4 HLn
      generalize rgrow l (x,y,z) i k=P at*
      go_wp2
      refine wqf fun u=> ?_
      go_wp2
      go_roundw
      case rel=>exact⟨k+1,by omega,by go_num,fB hbw u.below,YJ (by rw[HS2'];exact au HP.out u.below)⟩
      case measure=>first|(simp[intOf];done)|(simp[intOf];omega)
     ·have gk:((k:Int)!=(i:Int))=true:=by simp;omega
      obtain⟨sv,e0,hs⟩:=HX4.out i hil
      obtain⟨tv,e1,ht⟩:=HX4.out k hkl
      have hbVw:=fB hbV hbw
      have e0:=ab hbVw e0
      have e1:=ab hbVw e1
      have ze:=qaC wr _ e0
      have ze1:=qaC wr _ e1
      simp only at ze ze1
      obtain⟨w0,w1,w2,wf,wz⟩:=NO ((hbw.block _ (qaG (ah HW.out) hb.size)).trans ((hb.block _ (ah HW.out)).trans HW.out))
      have HC:=fun W' (h':Below W.heap.size W W')=>YJ (HBi k hkl sv tv W' (hs.below h') (ht.below h')).out
      clear hs ht HX4 HBi HS2i HLn
      generalize SG l[i] l[k] (x,y,z)=cb at*
      generalize rgrow l (x,y,z) i k=P at*
      go_wp2
      refine wqb ?_
      repeat(first|go_big_quiet_step ((go_at_call 60;exact aE ((HC _ (fB hbVw (Ext.below _))).out)))|quiet_step ((go_at_call 60;exact aE ((HC _ (fB hbVw (Ext.below _))).out))))
      refine wqn fun u=> ?_
      clear HC e0 e1 ze ze1 w0 w1 w2 wf wz
      have hbu:=fB hbw u.below
      have HPu:=YJ (au HP.out u.below)
      generalize u.val=w5 at*
      clear u HP
      cases cb with
      |true=>
       have HS2':rgrow l (x,y,z) i (k+1)=P++[k]:=by rw[HS2k.out,if_pos (by simp[hki])]
       clear HS2k
       go_wp2_with (at_builtin;refine wpList_append_own _ rfl _ _ 49 rfl wo.heap.size 3 i0 (.int .i64 0) 1 8 Io Hi0.out.1 Hi0.out.2.1 Hi0.out.2.2.1 Hi0.out.2.2.2 rfl (by decide) _ P.length _ rfl ((HPu).out.alloc _) ⟨_,0,none⟩ 1 1 [.int .i64 k] rfl rfl ?c1 ?c2 ?c3 ?c4 ?c5 ?_)
       case c1=>
        intro jj uu hu
        rw[jY,aq (by simp) jj]
        simpa using hu
       case c2=>intro v hv;simp at hv;subst hv;rfl
       case c3=>unfold maxLen;omega
       case c4=>omega
       case c5=>simp;have:=(hbu).size;omega
       intro v' w4 hown4 hg4 hu4
       have hb4:Below wo.heap.size wo w4:=((hbu).alloc (hbu).size _).grown hg4 (by simp;have:=(hbu).size;omega) (fun z hz=>by have:=((HPu).out.lt z hz).1;omega)
       have HO4:Hid (w4.ownsRow wo.heap.size 3 1 v' (rgrow l (x,y,z) i (k+1)).length ((rgrow l (x,y,z) i (k+1)).map iV)):=YJ (by rw[show rgrow l (x,y,z) i (k+1)=P++[k]from HS2',qaE,List.map_append];exact hown4)
       clear hown4 hg4 hu4
       obtain⟨va,vc,rfl⟩:=aT HO4.out
       clear HPu
       go_wp2
       go_roundw
       case rel=>exact⟨k+1,by omega,by go_num,hb4,HO4⟩
       case measure=>first|(simp[intOf];done)|(simp[intOf];omega)
      |false=>
       have HS2':rgrow l (x,y,z) i (k+1)=P:=by rw[HS2k.out,if_neg (by simp)]
       go_wp2
       go_roundw
       case rel=>exact⟨k+1,by omega,by go_num,hbu,YJ (by rw[HS2'];exact HPu.out)⟩
       case measure=>first|(simp[intOf];done)|(simp[intOf];omega)
    ·obtain rfl:k=n:=by omega
     have HPn:Hid (OwnI wo.heap.size wr (.slice ra (rgrow l (x,y,z) i k).length rc) (rgph l (x,y,z) i)):=YJ (by rw[←HRg.out i];exact HP.out)
     have HO1:=YJ (au HO.out hbw)
     have HR1:=YJ (HR.out.imp fun _ _ h=>h.below hbw)
     have hb1:=fB hb hbw
     have zwr:=hb.size
     clear HS2i HBi HX4 HLn HP HO HR
     generalize(rgrow l (x,y,z) i k).length=rn at*
     generalize rgph l (x,y,z) i=rl at*
     have hbx:Below wr.heap.size wr (wr.alloc (.cells #[.slice ra rn rc] 49)):=bel
     have HOx:=YJ (au HO1.out hbx)
     have HNx:Hid ((wr.alloc (.cells #[.slice ra rn rc] 49)).heap[wr.heap.size]? =some (.cells #[.slice ra rn rc] 49 (0,0))):=YJ (ai rfl)
     have HRx:Hid (RowsP (OwnI V.heap.size (wr.alloc (.cells #[.slice ra rn rc] 49))) (vs++[.slice ra rn rc]) ((rgphs l (x,y,z)).take (i+1))):=YJ (by
      rw[HSi.out]
      exact RowsP.snoc (HR1.out.imp fun _ _ h=>h.below hbx) ((HPn.out.mono zwr).below hbx))
     have zw1:=hb1.size
     clear HO1 HR1 HPn
     go_wp2_with (at_builtin;refine fq _ rfl _ _ 37 rfl V.heap.size 49 i1 (.slice none 0 0) 1 24 und_intss Hi1.out.1 Hi1.out.2.1 Hi1.out.2.2.1 Hi1.out.2.2.2 rfl (by decide) _ i vs rfl HOx.out ⟨wr.heap.size,0,none⟩ 1 1 [.slice ra rn rc] rfl rfl ?c1 ?c2 ?c3 ?c4 ?c5 ?_)
     case c1=>
      intro j u hu
      rw[jY,ag HNx.out]
      simpa using hu
     case c2=>
      intro u hu
      simp at hu
      subst hu
      rfl
     case c3=>unfold maxLen;omega
     case c4=>omega
     case c5=>simp;omega
     intro v' w4 hown4 hg4 _
     have hb4:Below V.heap.size V w4:=(fB hb1 hbx).grown hg4 (by simp;omega) (fun z hz=>(HOx.out.lt z hz).1)
     have HR4:Hid (RowsP (OwnI V.heap.size w4) (vs++[.slice ra rn rc]) ((rgphs l (x,y,z)).take (i+1))):=YJ (HRx.out.imp fun _ _ h=>h.kept (T:=49) (by decide) hg4 (jC HOx.out))
     have HO4:=YJ hown4
     clear hown4 hg4 HOx HNx HRx hbx
     go_wp2
     go_roundw
     case rel=>exact⟨i+1,by omega,by go_num,hb4,_,HO4,HR4⟩
     case measure=>first|(simp[intOf];done)|(simp[intOf];omega)
  ·obtain rfl:i=n:=by omega
   have HRn:=HR
   rw[HE.out]at HRn
   clear HX HS1 HS2 HB HR
   go_wp2
   go_ret
   refine⟨_,rfl,fB hV hb,vs, ?_,HRn.out.imp fun _ _ h=>h.mono zV⟩
   rw[HEl.out]
   exact AY HO.out zV
end
section
open Go.RowKit Go.Shelf Go.Lib
attribute [local go_sem] Ext.cell Ext.frozen
theorem nI_get {l:List Nat} {i:Nat} (h:i<l.length):(nI l)[i]'(by rw[nI_len];exact h)=(l[i]:Int):=by unfold nI;simp
theorem NatV.at {w:World} {v:Value} {l:List Nat} (h:NatV w v l):∃a n c,v= .slice a n c∧l.length=n∧(0<n→∃b off,a=some ⟨b,off,none⟩∧∀i (h:i<l.length),w.cell? ⟨b,off+i,none⟩=some (.int .i64 (l[i]:Nat))):=by
 obtain⟨a,n,c,rfl,hn,_,hi⟩:=h
 rw[nI_len]at hn
 refine⟨a,n,c,rfl,hn,fun h0=> ?_⟩
 obtain⟨b,off,rfl,hx⟩:=hi h0
 exact⟨b,off,rfl,fun i h=>by have:=hx i (by rw[nI_len];exact h);rwa [nI_get h]at this⟩
end
section
open Go.RowKit Go.Shelf Go.Lib
attribute [local go_sem] Ext.cell Ext.frozen
theorem BfsI.lt {E:Nat→Nat→Bool} {grp:List Nat} {n i G:Nat} {acc:List Nat} (h:BfsI E grp n i acc) (hn:n<G) (hg:∀y∈grp,y<G):∀y∈acc,y<G:=fun y hy=>by
 have:=h.rch y hy
 cases this with
 |base=>exact hn
 |step _ _ g=>exact hg _ g
end
section
open Go.RowKit Go.Shelf Go.Lib
set_option maxRecDepth 100000
attribute [local go_sem] Ext.cell Ext.frozen
def OwnGs (B:Nat) (w:World) (v:Value) (gs:List (List (List Nat))):Prop:=∃vs,w.ownsRow B 37 1 v gs.length vs∧RowsP (OwnG B w) vs gs
theorem OwnGs.below {B:Nat} {w w':World} {v:Value} {g:List (List (List Nat))} (h:OwnGs B w v g) (hb:Below w.heap.size w w'):OwnGs B w' v g:=by
 obtain⟨vs,h1,h2⟩:=h
 exact⟨vs,au h1 hb,h2.imp fun _ _ h=>h.below hb⟩
theorem OwnGs.gs {B:Nat} {w:World} {v:Value} {g:List (List (List Nat))} (h:OwnGs B w v g):GsV w v g:=by
 obtain⟨vs,h1,h2⟩:=h
 exact each_own h1 rfl (h2.imp fun _ _ h=>h.grf)
def GsO (g:List (List (List Nat))) (W:World) (e:Ending) (w':World):Prop:=∃v,e= .returned v∧Below W.heap.size W w'∧OwnGs W.heap.size w' v g
theorem info_intss:(Tryz.prog.info? 37).map (fun i=>(i.zero,i.size,i.bytes))=some (some (.slice none 0 0),1,24):=by kernel_rfl
theorem und_intsss:Tryz.prog.underlying 31=some (.slice 37):=by kernel_rfl
def rgss (l:List (List (List Q4))):List (List (List Nat)):=ways26.map (rgphs l)
theorem rgss_len (l:List (List (List Q4))):(rgss l).length=26:=by unfold rgss;rw[List.length_map];rfl
theorem rgss_succ {l:List (List (List Q4))} {k:Nat} (h:k<ways26.length):(rgss l).take (k+1)=(rgss l).take k++[rgphs l ways26[k]]:=by
 unfold rgss
 rw[qaI (by rw[List.length_map];exact h),List.getElem_map]
theorem rGraphs_any (l:List (List (List Q4))) (lv:Value) (W:World) (hl:l.length≤1000) (hL:∀s∈l,s.length≤100∧∀c∈s,slimC c) (h:SolsV W lv l):
  Calls Tryz.prog 15 #[lv] W (GsO (rgss l) W):=by
 obtain⟨i1,hj0,hy0,hy1,hy2⟩:=info_parts info_intss
 have Hi1:=YJ (And.intro hj0 (And.intro hy0 (And.intro hy1 hy2)))
 clear hj0 hy0 hy1 hy2
 have HWy:=fun W'=>YJ (r4Ways_any W')
 have HGr:=fun k (hk:k<ways26.length) W' (hb:Below W.heap.size W W')=>YJ (rGraph_any l lv ways26[k].1 ways26[k].2.1 ways26[k].2.2 W' hl hL (by have:=Ef _ (qaB hk);unfold okWb;omega) (by
  have:=Ef _ (qaB hk)
  intro e
  injection e with e1 e2
  injection e2 with e2 e3
  omega) (h.below hb))
 have HS:=fun k (hk:k<ways26.length)=>YJ (@rgss_succ l k hk)
 have HEl:=YJ (rgss_len l)
 have HE:Hid ((rgss l).take 26=rgss l):=YJ (by rw[←rgss_len l,List.take_length])
 obtain⟨la,n,lc,rfl, -⟩:=h
 have H26:Hid (ways26.length=26):=YJ rfl
 clear hl hL
 generalize rgss l=GS at*
 generalize ways26=WS at*
 go_enter Tryz.func15,Tryz.ntmps15
 go_wp2_with fail
 refine((HWy _).out).mono ?_
 rintro e w1 ⟨wv,rfl,hb1,ho1⟩
 have hw1:Below W.heap.size W w1:=by first|exact hb1|exact fB bel hb1
 have hq:=q3s_own ho1
 rw[H26.out]at ho1
 obtain⟨wa,wn,wc,rfl,hwn, -,hwx⟩:=hq
 have hwn':wn=26:=by rw[←hwn];exact H26.out
 subst hwn'
 have HX:=YJ hwx
 clear HWy ho1 hb1 hwx hwn
 go_wp2
 go_loopw [3,5] (fun s x wr=>∃k:Nat,k≤26∧x= .int .i64 k∧Below w1.heap.size w1 wr∧∃vs,Hid (wr.ownsRow w1.heap.size 37 1 s k vs)∧Hid (RowsP (OwnG w1.heap.size wr) vs (GS.take k))) (fun _ x _=>26-(intOf x).toNat)
 case atStart=>exact⟨0,by omega,rfl,brf,[],YJ (World.ownsRow_nil _ _ _ _),YJ (by rw[List.take_zero];exact RowsP.nil)⟩
 case round=>
  obtain⟨k,hk,rfl,hb,vs,HO,HR⟩:=hrel
  obtain⟨oa,oc,rfl⟩:=aT HO.out
  by_cases hlt:k<26
  ·have g1:(k:Int)<26:=by omega
   have g2:(0:Int)≤(k:Int):=by omega
   have hkl:k<WS.length:=by rw[H26.out];exact hlt
   obtain⟨b,off,rfl,hi⟩:=HX.out (by omega)
   obtain⟨c0,c1',c2'⟩:=(hi.below hb) k hkl
   have HSk:=YJ (HS k hkl).out
   have HC:=YJ (HGr k hkl wr (fB hw1 hb)).out
   clear HS HGr HX hi
   generalize WS[k]=u at*
   obtain⟨x,y,z⟩:=u
   simp only at c0 c1' c2'
   have z1:=qaC wr _ c0
   simp only at z1
   go_wp2_with fail
   refine(HC.out).mono ?_
   rintro e w2 ⟨v,rfl,hb2,hg2⟩
   obtain⟨a9,c9,rfl⟩:∃a c,v= .slice a (rgphs l (x,y,z)).length c:=by obtain⟨_,h,_⟩:=hg2;exact aT h
   clear HC c0 c1' c2' z1
   have HO1:=YJ (au HO.out hb2)
   have HR1:=YJ (HR.out.imp fun _ _ h=>h.below hb2)
   have hbw2:=fB hb hb2
   have HG2:=YJ (hg2.mono hb.size)
   clear HO HR hg2
   generalize(rgphs l (x,y,z)).length=rn at*
   generalize rgphs l (x,y,z)=rgq at*
   have hbx:Below w2.heap.size w2 (w2.alloc (.cells #[.slice a9 rn c9] 37)):=bel
   have HOx:=YJ (au HO1.out hbx)
   have HNx:Hid ((w2.alloc (.cells #[.slice a9 rn c9] 37)).heap[w2.heap.size]? =some (.cells #[.slice a9 rn c9] 37 (0,0))):=YJ (ai rfl)
   have HRx:Hid (RowsP (OwnG w1.heap.size (w2.alloc (.cells #[.slice a9 rn c9] 37))) (vs++[.slice a9 rn c9]) (GS.take (k+1))):=YJ (by
    rw[HSk.out]
    exact RowsP.snoc (HR1.out.imp fun _ _ h=>h.below hbx) (HG2.out.below hbx))
   have zw1:=hbw2.size
   clear HO1 HR1 HG2
   go_wp2_with (at_builtin;refine fq _ rfl _ _ 31 rfl w1.heap.size 37 i1 (.slice none 0 0) 1 24 und_intsss Hi1.out.1 Hi1.out.2.1 Hi1.out.2.2.1 Hi1.out.2.2.2 rfl (by decide) _ k vs rfl HOx.out ⟨w2.heap.size,0,none⟩ 1 1 [.slice a9 rn c9] rfl rfl ?c1 ?c2 ?c3 ?c4 ?c5 ?_)
   case c1=>
    intro j u hu
    rw[jY,ag HNx.out]
    simpa using hu
   case c2=>
    intro u hu
    simp at hu
    subst hu
    rfl
   case c3=>unfold maxLen;omega
   case c4=>omega
   case c5=>simp;omega
   intro v' w4 hown4 hg4 _
   have hb4:Below w1.heap.size w1 w4:=(fB hbw2 hbx).grown hg4 (by simp;omega) (fun z hz=>(HOx.out.lt z hz).1)
   have HR4:Hid (RowsP (OwnG w1.heap.size w4) (vs++[.slice a9 rn c9]) (GS.take (k+1))):=YJ (HRx.out.imp fun _ _ h=>h.kept (T:=37) (by decide) (by decide) hg4 (jC HOx.out))
   have HO4:=YJ hown4
   clear hown4 hg4 HOx HNx HRx hbx
   go_wp2
   go_roundw
   case rel=>exact⟨k+1,by omega,by go_num,hb4,_,HO4,HR4⟩
   case measure=>first|(simp[intOf];done)|(simp[intOf];omega)
  ·obtain rfl:k=26:=by omega
   have HRn:=HR
   rw[HE.out]at HRn
   clear HX HS HGr HR
   go_wp2
   go_ret
   refine⟨_,rfl,fB hw1 hb,vs, ?_,HRn.out.imp fun _ _ h=>h.mono hw1.size⟩
   rw[HEl.out]
   exact AY HO.out hw1.size
end
section
open Go.RowKit Go.Shelf Go.Lib
attribute [local go_sem] Ext.cell Ext.frozen
def SplA (w:World) (b off:Nat) (s:Spl):Prop:=∃gv ov,w.cell? ⟨b,off,none⟩=some gv∧w.cell? ⟨b,off+1,none⟩=some ov∧w.cell? ⟨b,off+2,none⟩=some (.int .i64 s.2.2.1)∧w.cell? ⟨b,off+3,none⟩=some (.int .i64 s.2.2.2.1)∧w.cell? ⟨b,off+4,none⟩=some (.int .i64 s.2.2.2.2)∧Ints w gv s.1∧Ints w ov s.2.1
theorem SplA.below {w w':World} {b off:Nat} {s:Spl} (h:SplA w b off s) (hb:Below w.heap.size w w'):SplA w' b off s:=by
 obtain⟨gv,ov,h1,h2,h3,h4,h5,h6,h7⟩:=h
 exact⟨gv,ov,ab hb h1,ab hb h2,ab hb h3,ab hb h4,ab hb h5,h6.below hb,h7.below hb⟩
end
section
open Go.RowKit Go.Shelf Go.Lib
attribute [local go_sem] Ext.cell Ext.frozen
theorem slim_fewL {l:List (List (List Q4))} (hf:Ow l=true) (h:eB l=0):∀s∈l,s.length≤100∧∀c∈s,slimC c:=fun s hs=>by
 have h0:=(sq h).2 s hs
 refine⟨(xb h0).1,fun c hc=> ?_⟩
 have h1:=IL h0 c hc
 refine⟨h1, ?_⟩
 have h2:=(jx h1).1
 unfold Ow at hf
 rw[qaF,alsi]at hf
 have hf:=hf.2 s hs
 unfold Oa at hf
 rw[qaF,alsi]at hf
 have h3:=hf.2 c hc
 unfold NX at h3
 simp only[Bool.or_eq_true,qaF,decide_eq_true_eq]at h3
 omega
end
section
open Go.RowKit Go.Shelf Go.Lib
attribute [local go_sem] Ext.cell Ext.frozen
def psB (l:List (List (List Q4))):List (List Bod):=l.map (·.map bp)
theorem psB_len (l:List (List (List Q4))):(psB l).length=l.length:=List.length_map _
theorem scene_any {l:List (List (List Q4))} {lv:Value} (W:World) (h0:eB l=0) (h:SolsV W lv l):Calls Tryz.prog 47 #[lv] W (ScP (psB l) W):=
 Fe l lv W (fun s hs=>⟨(rg ((sq h0).2 s hs)).1,qaD (rg ((sq h0).2 s hs)).2 (by decide)⟩) (qaD (sq h0).1 (by decide)) h
theorem sgraph_any {l:List (List (List Q4))} {v:Q3} (h0:eB l=0) (hv:v∈ways26) (sb mb m0:Nat) (D:DataW Value) (pv:Value) (W:World) (hm:m0≤1000) (k1:W.heap[sb]? =some (.cells #[pv, .map (some mb)] 171 (0,0))) (k2:MapS W mb m0 D (eM (psB l))) (k3:PtsV W pv (psB l)):
  Calls Tryz.prog 49 #[.pointer (some ⟨sb,0,none⟩),vW v] W (GrP mb m0 (eM (psB l)) v W):=
 Iu m0 D (psB l) v sb mb pv W hv (fun p hp=>by
  obtain⟨s,hs,rfl⟩:=List.mem_map.1 hp
  have:=rg ((sq h0).2 s hs)
  exact⟨Dm this.1,by rw[List.length_map];exact qaD this.2 (by decide)⟩) (by rw[psB_len];exact(sq h0).1) k1 k2 hm (KE h0 v hv) k3
theorem map_new {W:World} {mb:Nat} {Gf:Q3→List Nat} (k:OwM W mb 0 (.map [])):MapS W mb 0 (.map []) Gf:=⟨k,fun v _ hh=>by simp[Maps.has]at hh⟩
theorem gphB_len (l:List (List (List Q4))) (v:Q3):(eM (psB l) v).length=l.length:=by simp[eM,psB]
theorem gphB_lt {l:List (List (List Q4))} (h0:eB l=0) (v:Q3):∀x∈eM (psB l) v,x<4096:=fun x hx=>by
 obtain⟨i,_,rfl⟩:=List.mem_map.1 hx
 exact Ei _ _ _ _ (by rw[psB_len];exact(sq h0).1)
end
section
open Go.RowKit Go.Shelf Go.Lib
attribute [local go_sem] Ext.cell Ext.frozen
def crE (l:List (List (List Q4))) (n:Int) (w:Q3):Int:=if eB l=0 then(if 0≤n∧n<l.length then mK w else 6)else eB l
def crL (l:List (List (List Q4))) (n:Nat) (w:Q3):List Nat:=av (car (eM (psB l) w) (2 ^ l.length-1) n)
def CarP (l:List (List (List Q4))) (n:Int) (w:Q3) (W:World) (e:Ending) (w':World):Prop:=Below W.heap.size W w'∧
 ((crE l n w≠0∧e= .returned (.tuple #[.slice none 0 0, .int .i64 (crE l n w)]))∨(crE l n w=0∧∃v,e= .returned (.tuple #[v, .int .i64 0])∧OwnI W.heap.size w' v (crL l n.toNat w)))
end
section
open Go.RowKit
theorem Rch.mono {E:Nat→Nat→Prop} {g h:Nat→Prop} {n k:Nat} (hs:∀x,g x→h x) (r:Rch E g n k):Rch E h n k:=by
 induction r with
 |base=>exact .base
 |step _ e gk ih=>exact .step ih e (hs _ gk)
theorem Rch.trans {E:Nat→Nat→Prop} {g:Nat→Prop} {n j k:Nat} (r:Rch E g n j) (s:Rch E g j k):Rch E g n k:=by
 induction s with
 |base=>exact r
 |step _ e gk ih=>exact .step ih e gk
theorem Rch.inG {E:Nat→Nat→Prop} {g:Nat→Prop} {n k:Nat} (hn:g n) (r:Rch E g n k):g k:=by
 cases r with
 |base=>exact hn
 |step _ _ gk=>exact gk
def Shut2 (E:Nat→Nat→Prop) (all rest:Nat→Prop):Prop:=∀j k,all j→¬rest j→rest k→¬E j k
theorem rch_rest {E:Nat→Nat→Prop} {all rest:Nat→Prop} (hs:Shut2 E all rest) (hsub:∀x,rest x→all x) {n k:Nat} (hn:rest n) (hk:rest k):Rch E all n k↔Rch E rest n k:=by
 refine⟨fun r=> ?_,Rch.mono hsub⟩
 induction r with
 |base=>exact .base
 | @step j k r e gk ih=>
  have hj:rest j:=Classical.byContradiction fun h=>hs j k (Rch.inG (hsub n hn) r) h hk e
  exact .step (ih hj) e hk
def AccC (E:Nat→Nat→Prop) (rest:Nat→Prop) (n:Nat):Prop:=∀k,Rch E rest n k→∀y,Rch E rest k y↔Rch E rest n y
def InR (E:Nat→Nat→Prop) (all rest:Nat→Prop) (n k:Nat):Prop:=rest k∧Rch E all n k∧Rch E all k n
def AccR (E:Nat→Nat→Prop) (all rest:Nat→Prop) (n:Nat):Prop:=∀j y,InR E all rest n j→rest y→¬InR E all rest n y→¬E j y
theorem accC_own {E:Nat→Nat→Prop} {all rest:Nat→Prop} (hs:Shut2 E all rest) (hsub:∀x,rest x→all x) {n:Nat} (hn:rest n) (h:AccC E rest n) (k:Nat):InR E all rest n k↔Rch E rest n k:=by
 constructor
 ·rintro⟨hk,h1, -⟩
  exact(rch_rest hs hsub hn hk).1 h1
 ·intro r
  have hk:=Rch.inG hn r
  exact⟨hk,(rch_rest hs hsub hn hk).2 r,(rch_rest hs hsub hk hn).2 ((h k r n).2 .base)⟩
theorem acc_eq {E:Nat→Nat→Prop} {all rest:Nat→Prop} (hs:Shut2 E all rest) (hsub:∀x,rest x→all x) {n:Nat} (hn:rest n):AccC E rest n↔AccR E all rest n:=by
 constructor
 ·intro h j y hj hy hny he
  exact hny ((accC_own hs hsub hn h y).2 (.step ((accC_own hs hsub hn h j).1 hj) he hy))
 ·intro h
  have hown:∀k,Rch E rest n k→InR E all rest n k:=by
   intro k r
   induction r with
   |base=>exact⟨hn, .base, .base⟩
   | @step j k _ e gk ih=>exact Classical.byContradiction fun hk=>h j k ih gk hk e
  intro k r y
  have hk:=hown k r
  have back:Rch E rest k n:=(rch_rest hs hsub hk.1 hn).1 hk.2.2
  exact⟨fun s=>r.trans s,fun s=>back.trans s⟩
theorem acc_exists {E:Nat→Nat→Prop} {rest:Nat→Prop} (size:Nat→Nat) (own:Nat→List Nat) (hm:∀n,rest n→∀k,k∈own n↔Rch E rest n k) (hnd:∀n,(own n).Nodup) {n0:Nat} (h0:rest n0):∃n,rest n∧AccC E rest n:=by
 have key:∀m n,rest n→(own n).length≤m→∃n,rest n∧AccC E rest n:=by
  intro m
  induction m with
  |zero=>
   intro n hn hl
   have:=(hm n hn n).2 .base
   have:=List.length_pos_of_mem this
   omega
  |succ m ih=>
   intro n hn hl
   by_cases h:∃k,Rch E rest n k∧(own k).length<(own n).length
   ·obtain⟨k,r,hlt⟩:=h
    exact ih k (Rch.inG hn r) (by omega)
   ·refine⟨n,hn,fun k r y=>⟨fun s=>r.trans s,fun s=> ?_⟩⟩
    have hk:=Rch.inG hn r
    have hle:(own n).length≤(own k).length:=Nat.le_of_not_lt fun hlt=>h ⟨k,r,hlt⟩
    refine(hm k hk y).1 (Classical.byContradiction fun hy=> ?_)
    have:=nodup_len (y::own k) (own n) (List.nodup_cons.2 ⟨hy,hnd k⟩) (fun x hx=>by
     rcases alsk.1 hx with rfl|hx
     ·exact(hm n hn x).2 s
     ·exact(hm n hn x).2 (r.trans ((hm k hk x).1 hx)))
    rw[List.length_cons]at this
    omega
 exact key _ n0 h0 (qaA _)
theorem shut_next {E:Nat→Nat→Prop} {all rest:Nat→Prop} (hs:Shut2 E all rest) (hsub:∀x,rest x→all x) {n:Nat} (hn:rest n) (h:AccC E rest n):Shut2 E all (fun k=>rest k∧¬Rch E rest n k):=by
 intro j k hj hnj hk he
 by_cases hr:rest j
 ·by_cases ho:Rch E rest n j
  ·exact hk.2 (.step ho he hk.1)
  ·exact hnj ⟨hr,ho⟩
 ·exact hs j k hj hr hk.1 he
end
section
open Go.RowKit
def okC (G:List Nat) (rest n:Nat):Bool:=(av (car G rest n)).all fun k=>car G rest k==car G rest n
def rown (E:Nat→Nat→Bool) (all left:List Nat) (n:Nat):List Nat:=left.filter fun k=>(rcarL E all n).contains k&&(rcarL E all k).contains n
def clsR (E:Nat→Nat→Bool) (all:List Nat):Nat→List Nat→List (List Nat)
 |0,_=>[]
 |f+1,left=>match left.find? (fun n=>movR E left (rown E all left n))with
  |none=>[]
  |some n=>rown E all left n::clsR E all f (left.filter fun y=> !(rown E all left n).contains y)
theorem mem_rcarL {E:Nat→Nat→Bool} {grp:List Nat} {n y:Nat}:y∈rcarL E grp n↔y∈grp∧Rch (fun j k=>E j k=true) (· ∈grp) n y:=by
 unfold rcarL
 rw[alsm,List.contains_iff_mem,(bfsF_done E grp n _ 0 [n] (BfsI.start _ _ _) (by omega)).done y]
theorem bit_lt12 {s n:Nat} (h:s<4096) (hb:s.testBit n=true):n<12:=by
 have:=(mem_elems h).2 hb
 rw[elems_eq _ h,alsm,List.mem_range]at this
 exact this.1
theorem okC_acc {G:List Nat} {rest n:Nat} (hr:rest<4096) (hn:rest.testBit n=true):okC G rest n=true↔AccC (bitE G) (fun k=>rest.testBit k=true) n:=by
 have hn12:=bit_lt12 hr hn
 have hc:car G rest n<4096:=Me G rest n hr hn12
 have hm:=fun k=>car_rch G rest n hr hn12 k
 unfold okC AccC
 rw[alsi]
 constructor
 ·intro h k rk y
  have hk:rest.testBit k=true:=Rch.inG hn rk
  have e:=h k ((mem_elems hc).2 ((hm k).2 rk))
  have e:car G rest k=car G rest n:=by simpa using e
  rw[←hm y, ←car_rch G rest k hr (bit_lt12 hr hk) y,e]
 ·intro h k hk
  have rk:=(hm k).1 ((mem_elems hc).1 hk)
  have hk:rest.testBit k=true:=Rch.inG hn rk
  have:car G rest k=car G rest n:=by
   apply Nat.eq_of_testBit_eq
   intro y
   rw[Bool.eq_iff_iff,hm y,car_rch G rest k hr (bit_lt12 hr hk) y]
   exact h k rk y
  simpa using this
theorem mem_rown {E:Nat→Nat→Bool} {all left:List Nat} (hs:∀x∈left,x∈all) {n:Nat} (hn:n∈left) (k:Nat):k∈rown E all left n↔InR (fun j k=>E j k=true) (· ∈all) (· ∈left) n k:=by
 unfold rown InR
 rw[alsm,qaF,List.contains_iff_mem,List.contains_iff_mem,mem_rcarL,mem_rcarL]
 constructor
 ·rintro⟨h1,h2,h3⟩;exact⟨h1,h2.2,h3.2⟩
 ·rintro⟨h1,h2,h3⟩;exact⟨h1,⟨hs k h1,h2⟩,⟨hs n hn,h3⟩⟩
theorem mov_acc {E:Nat→Nat→Bool} {all left:List Nat} (hs:∀x∈left,x∈all) {n:Nat} (hn:n∈left):movR E left (rown E all left n)=true↔AccR (fun j k=>E j k=true) (· ∈all) (· ∈left) n:=by
 unfold movR AccR
 rw[alsi]
 constructor
 ·intro h j y hj hy hny he
  have h1:=h j ((mem_rown hs hn j).2 hj)
  rw[alsi]at h1
  have h2:=h1 y (alsm.2 ⟨hy,by
   have:¬y∈rown E all left n:=fun hh=>hny ((mem_rown hs hn y).1 hh)
   simpa using this⟩)
  rw[he]at h2
  cases h2
 ·intro h j hj
  rw[alsi]
  intro y hy
  obtain⟨hy1,hy2⟩:=alsm.1 hy
  have hny:¬y∈rown E all left n:=by simpa using hy2
  have:=h j y ((mem_rown hs hn j).1 hj) hy1 (fun hh=>hny ((mem_rown hs hn y).2 hh))
  simpa using this
theorem dN_lt {a b:Nat} (h:a<4096):dN a b<4096:=Nat.lt_of_le_of_lt (by
 apply Nat.le_of_testBit
 intro i hi
 rw[Gh]at hi
 simp at hi
 exact hi.1) h
theorem dN_dec {a b n:Nat} (h1:a.testBit n=true) (h2:b.testBit n=true):dN a b<a:=by
 refine Nat.lt_of_le_of_ne (Nat.le_of_testBit fun i hi=> ?_) fun e=> ?_
 ·rw[Gh]at hi
  simp at hi
  exact hi.1
 ·have:=Gh a b n
  rw[e,h1,h2]at this
  cases this
theorem okC_own {G:List Nat} {E:Nat→Nat→Bool} (hE:∀j k,E j k=true↔bitE G j k) {all rest n:Nat} (ha:all<4096) (hr:rest<4096) (hsub:∀x,rest.testBit x=true→all.testBit x=true) (hsh:Shut2 (bitE G) (fun k=>all.testBit k=true) (fun k=>rest.testBit k=true)) (hn:rest.testBit n=true):
  (okC G rest n=movR E (av rest) (rown E (av all) (av rest) n))∧(okC G rest n=true→av (car G rest n)=rown E (av all) (av rest) n∧av (dN rest (car G rest n))=(av rest).filter (fun y=> !(rown E (av all) (av rest) n).contains y)∧
   Shut2 (bitE G) (fun k=>all.testBit k=true) (fun k=>(dN rest (car G rest n)).testBit k=true)):=by
 have eE:(fun j k=>E j k=true)=bitE G:=funext fun j=>funext fun k=>propext (hE j k)
 have eA:(fun k=>k∈av all)=fun k=>all.testBit k=true:=funext fun k=>propext (mem_elems ha)
 have eR:(fun k=>k∈av rest)=fun k=>rest.testBit k=true:=funext fun k=>propext (mem_elems hr)
 have hs:∀x∈av rest,x∈av all:=fun x hx=>(mem_elems ha).2 (hsub x ((mem_elems hr).1 hx))
 have hnr:n∈av rest:=(mem_elems hr).2 hn
 have hn12:=bit_lt12 hr hn
 have hc:car G rest n<4096:=Me G rest n hr hn12
 have hm:=fun k=>car_rch G rest n hr hn12 k
 have h1:=okC_acc (G:=G) hr hn
 have h2:=mov_acc (E:=E) hs hnr
 rw[eE,eA,eR]at h2
 refine⟨by rw[Bool.eq_iff_iff,h1,h2];exact acc_eq hsh hsub hn,fun hok=> ?_⟩
 have hacc:=h1.1 hok
 have hown:∀k,k∈rown E (av all) (av rest) n↔Rch (bitE G) (fun k=>rest.testBit k=true) n k:=fun k=>by
  have:=mem_rown (E:=E) hs hnr k
  rw[eE,eA,eR]at this
  rw[this]
  exact accC_own hsh hsub hn hacc k
 refine⟨lt_ext _ _ (elems_lt_sorted hc) ((elems_lt_sorted hr).filter _) fun x=> ?_,lt_ext _ _ (elems_lt_sorted (dN_lt hr)) ((elems_lt_sorted hr).filter _) fun x=> ?_, ?_⟩
 ·rw[mem_elems hc,hm x,hown x]
 ·have hcx:(rown E (av all) (av rest) n).contains x=(car G rest n).testBit x:=by
   rw[Bool.eq_iff_iff,List.contains_iff_mem,hown x,hm x]
  rw[mem_elems (dN_lt hr),alsm,mem_elems hr,Gh,hcx,qaF]
 ·have h3:=shut_next hsh hsub hn hacc
  have e:(fun k=>(dN rest (car G rest n)).testBit k=true)=fun k=>rest.testBit k=true∧¬Rch (bitE G) (fun k=>rest.testBit k=true) n k:=funext fun k=>propext (by
   rw[Gh,qaF, ←hm k]
   simp)
  rw[e]
  exact h3
theorem okC_some {G:List Nat} {rest:Nat} (hr:rest<4096) (h0:rest≠0):∃n,(av rest).find? (okC G rest)=some n:=by
 cases h:(av rest).find? (okC G rest)with
 |some n=>exact⟨n,rfl⟩
 |none=>
  exfalso
  have hne:av rest≠[]:=fun e=>h0 ((elems_nil hr).1 e)
  obtain⟨n0,hn0⟩:=List.exists_mem_of_ne_nil _ hne
  have hb0:=(mem_elems hr).1 hn0
  obtain⟨n,hn,hacc⟩:=acc_exists (E:=bitE G) (rest:=fun k=>rest.testBit k=true) (fun n=>n) (fun n=>if rest.testBit n=true then av (car G rest n)else []) (fun n hn k=>by
   have hn':rest.testBit n=true:=hn
   rw[if_pos hn',mem_elems (Me G rest n hr (bit_lt12 hr hn)),car_rch G rest n hr (bit_lt12 hr hn)]) (fun n=>by
   by_cases hn:rest.testBit n=true
   ·simp only[hn,if_true]
    exact((elems_lt_sorted (Me G rest n hr (bit_lt12 hr hn))).imp fun h=>Nat.ne_of_lt h)
   ·simp[hn]) hb0
  have:=List.find?_eq_none.1 h n ((mem_elems hr).2 hn)
  exact this ((okC_acc hr hn).2 hacc)
end
section
open Go.RowKit
structure ClI (G:List Nat) (all rest:Nat):Prop where
 lt:rest<4096
 sub:∀x,rest.testBit x=true→all.testBit x=true
 shut:Shut2 (bitE G) (fun k=>all.testBit k=true) (fun k=>rest.testBit k=true)
theorem ClI.start {G:List Nat} {all:Nat} (h:all<4096):ClI G all all:=⟨h,fun _ h=>h,fun _ _ h1 h2=>absurd h1 h2⟩
def rpass (E:Nat→Nat→Bool) (A left:List Nat) (n:Nat):Bool:=movR E left (rown E A left n)
theorem find_at {p:Nat→Bool}:∀(l:List Nat) (i:Nat) (hi:i<l.length),(∀j (hj:j<l.length),j<i→p l[j]=false)→p l[i]=true→l.find? p=some l[i]
 |a::l,0,_,_,h=>by rw[List.find?_cons];simp only[List.getElem_cons_zero]at h ⊢;rw[h]
 |a::l,i+1,hi,h0,h=>by
  have ha:=h0 0 (by simp) (by omega)
  simp only[List.getElem_cons_zero]at ha
  rw[List.find?_cons,ha]
  simp only[List.getElem_cons_succ]at h ⊢
  exact find_at l i (by simpa using hi) (fun j hj hji=>by have:=h0 (j+1) (by simpa using hj) (by omega);simpa using this) h
def nxt (G:List Nat) (rest n:Nat):Nat:=dN rest (car G rest n)
theorem ClI.next {G:List Nat} {E:Nat→Nat→Bool} (hE:∀j k,E j k=true↔bitE G j k) {all rest f:Nat} (ha:all<4096) (h:ClI G all rest) (i:Nat) (hi:i<(av rest).length)
  (h0:∀j (hj:j<(av rest).length),j<i→rpass E (av all) (av rest) (av rest)[j]=false) (h1:rpass E (av all) (av rest) (av rest)[i]=true) (hf:rest≤f):
  ∃r f',ClI G all r∧r<4096∧r≤f'∧av r=(av rest).filter (fun y=> !(rown E (av all) (av rest) (av rest)[i]).contains y)∧(av r).length<(av rest).length∧clsR E (av all) f (av rest)=rown E (av all) (av rest) (av rest)[i]::clsR E (av all) f' (av r):=by
 have hn:=(mem_elems h.lt).1 (qaB hi)
 have hd:=find_at (p:=rpass E (av all) (av rest)) _ i hi h0 h1
 obtain⟨e0,hok⟩:=okC_own hE ha h.lt h.sub h.shut hn
 have hok1:okC G rest (av rest)[i]=true:=by rw[e0];exact h1
 obtain⟨e1,e2,h3⟩:=hok hok1
 have hc:=car_rch G rest (av rest)[i] h.lt (bit_lt12 h.lt hn) (av rest)[i]
 have hdec:nxt G rest (av rest)[i]<rest:=dN_dec hn (hc.2 .base)
 obtain⟨f',rfl⟩:∃f',f=f'+1:=⟨f-1,by omega⟩
 refine⟨nxt G rest (av rest)[i],f',⟨dN_lt h.lt,fun x hx=>h.sub x (by unfold nxt at hx;rw[Gh]at hx;simp at hx;exact hx.1),h3⟩,dN_lt h.lt,by omega,e2, ?_, ?_⟩
 ·unfold nxt
  rw[e2,filt_lt]
  intro e
  have hm:(av rest)[i]∈(av rest).filter (fun y=> !(rown E (av all) (av rest) (av rest)[i]).contains y):=by rw[e];exact qaB hi
  have hm2:=(alsm.1 hm).2
  rw[←e1]at hm2
  have:(av (car G rest (av rest)[i])).contains (av rest)[i]=true:=List.contains_iff_mem.2 ((mem_elems (Me G rest _ h.lt (bit_lt12 h.lt hn))).2 (hc.2 .base))
  rw[this]at hm2
  cases hm2
 ·conv=>lhs;unfold clsR
  have hd':(av rest).find? (fun n=>movR E (av rest) (rown E (av all) (av rest) n))=some (av rest)[i]:=hd
  rw[hd']
  simp only
  unfold nxt
  rw[e2]
theorem ClI.some {G:List Nat} {E:Nat→Nat→Bool} (hE:∀j k,E j k=true↔bitE G j k) {all rest:Nat} (ha:all<4096) (h:ClI G all rest) (hl:0<(av rest).length)
  (h0:∀j (hj:j<(av rest).length),rpass E (av all) (av rest) (av rest)[j]=false):False:=by
 obtain⟨n,hn⟩:=okC_some (G:=G) h.lt (fun e=>by rw[e,elems_zero]at hl;simp at hl)
 have hm:=List.mem_of_find?_eq_some hn
 have hp:=List.find?_some hn
 rw[(okC_own hE ha h.lt h.sub h.shut ((mem_elems h.lt).1 hm)).1]at hp
 obtain⟨j,hj,rfl⟩:=qaJ hm
 have:=h0 j hj
 unfold rpass at this
 rw[this]at hp
 cases hp
end
section
open Go.RowKit Go.Shelf Go.Lib
def CarQ (ce:Int) (CL:List Nat) (W:World) (e:Ending) (w':World):Prop:=∃ca cn cc,e= .returned (.tuple #[.slice ca cn cc, .int .i64 ce])∧Below W.heap.size W w'∧(ce≠0→cn=0)∧(ce=0→NatV w' (.slice ca cn cc) CL)
theorem CarP.q {l:List (List (List Q4))} {n:Int} {w:Q3} {W:World} {e:Ending} {w':World} (h:CarP l n w W e w'):CarQ (crE l n w) (crL l n.toNat w) W e w':=by
 obtain⟨hb,⟨h,rfl⟩|⟨h,v,rfl,ho⟩⟩:=h
 ·exact⟨none,0,0,rfl,hb,fun _=>rfl,fun h'=>absurd h' h⟩
 ·have h2:=ho
  unfold OwnI at h2
  obtain⟨a,c,rfl⟩:=aT h2
  exact⟨_,_,_,by rw[h],hb,fun h'=>absurd h h',fun _=>OwnI.ints ho⟩
end
end Go.Proofs.YtnpmkepfpekhfaaGreatDoor
