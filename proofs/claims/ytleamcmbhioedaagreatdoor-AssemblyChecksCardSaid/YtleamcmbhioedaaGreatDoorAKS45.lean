/- texts: ACA. -/
import Derived.Test.YtleamcmbhioedaaGreatDoorAKS41
import Derived.Test.YtleamcmbhioedaaGreatDoorAKS43
import Derived.Test.YtleamcmbhioedaaGreatDoorAKS44
namespace Go.Proofs.YtleamcmbhioedaaGreatDoor
set_option maxHeartbeats 8000000
set_option linter.unusedSimpArgs false
set_option linter.unusedVariables false
section
open Go.RowKit Go.Shelf
set_option maxRecDepth 100000
attribute [local go_sem] Ext.cell Ext.frozen
theorem QH {n:Nat} (h:NX n=true):n≤20:=by
 unfold NX at h
 simp only[Bool.or_eq_true,Bool.and_eq_true,decide_eq_true_eq]at h
 omega
theorem QI {m:Nat} {s:List (List Q4)} (hm:m≤100) (h:Oa m s=true):s.length≤105∧∀c∈s,c.length≤20:=by
 unfold Oa Qh at h
 simp only[Bool.or_eq_true,Bool.and_eq_true,decide_eq_true_eq,List.all_eq_true]at h
 exact⟨by omega,fun c hc=>QH (h.2 c hc)⟩
theorem Ol {l:List (List (List Q4))} (h:Ow l=true):l.length≤15∧∀s∈l,s.length≤105∧∀c∈s,c.length≤20:=by
 unfold Ow Qi at h
 simp only[Bool.or_eq_true,Bool.and_eq_true,decide_eq_true_eq,List.all_eq_true]at h
 exact⟨by omega,fun s hs=>QI (by decide) (h.2 s hs)⟩
theorem Oq (l:List (List (List Q4))) (lv:Value) (W:World) (hl:l.length≤maxLen) (hL:∀s∈l,s.length≤maxLen∧∀c∈s,c.length≤maxLen) (h:SolsV W lv l) (ht:Lib.TabIs Tryz.prog W "internal/strconv.uint64pow10" .u64 Lib.pow10Tab∧TabAt 1 Lib.deBruijn64tab W):
  Calls Tryz.prog 3 #[lv] W (Ret W (.bool true)):=by
 have HA:=Lib.hid (Gv W ht.1 ht.2)
 have HF:=fun W' (hb:Below W.heap.size W W')=>Lib.hid (QD l lv W' hl (fun s hs=>(hL s hs).1) (SolsV.below h hb))
 have HC:=fun(hf:Ow l=true) W' (hb:Below W.heap.size W W')=>Lib.hid (Py l lv W' (Nat.le_trans (Ol hf).1 (by decide)) (fun s hs=>⟨Nat.le_trans ((Ol hf).2 s hs).1 (by decide),fun c hc=>Nat.le_trans (((Ol hf).2 s hs).2 c hc) (by decide)⟩) (SolsV.below h hb))
 have HK:=fun(hf:Ow l=true) v W' (hv:SolsV W' v l)=>Lib.hid (Gd l v W' (fun s hs c hc=>Nat.le_trans (((Ol hf).2 s hs).2 c hc) (by decide)) hv)
 have HR:=fun(hf:Ow l=true) W' (hb:Below W.heap.size W W')=>Lib.hid (PP l lv W' (fun s hs c hc=>Nat.le_trans (((Ol hf).2 s hs).2 c hc) (by decide)) (SolsV.below h hb))
 rw[←QG]at HR
 have Hlv:Hid (∃a n c,lv= .slice a n c):=Lib.hid (by obtain⟨a,n,c,rfl,_⟩:=h;exact⟨a,n,c,rfl⟩)
 obtain⟨la,ln,lc,rfl⟩:=Hlv.out
 clear h hl hL ht Hlv
 generalize Ow l=fl at*
 generalize eB l=ae at*
 go_enter Tryz.func3,Tryz.ntmps3
 go_wp2_with fail
 refine(HA.out).mono ?_
 rintro e w1 ⟨rfl,hb1⟩
 clear HA
 go_wp2_with fail
 refine((HF _ hb1).out).mono ?_
 rintro e w2 ⟨rfl,hb2⟩
 have hw2:=fB hb1 hb2
 clear HF
 cases fl with
 |false=>
  clear HC HK HR
  go_wp2
  go_ret
  exact⟨ay (by simp),hw2⟩
 |true=>
  have HC2:=Lib.hid ((HC (by first|rfl|trivial) w2 hw2).out)
  go_wp2_with fail
  refine(HC2.out).mono ?_
  rintro e w3 ⟨v,rfl,hb3,hv⟩
  have hw3:=fB hw2 hb3
  have HK3:=Lib.hid ((HK (by first|rfl|trivial) v w3 hv).out)
  obtain⟨va,vn,vc,rfl, -⟩:=hv
  clear HC HC2 HK
  go_wp2_with fail
  refine(HK3.out).mono ?_
  rintro e w4 ⟨rfl,hb4⟩
  have hw4:=fB hw3 hb4
  have HR4:=Lib.hid ((HR (by first|rfl|trivial) w4 hw4).out)
  clear HK3 HR
  go_wp2_with fail
  refine(HR4.out).mono ?_
  rintro e w5 ⟨rfl,hb5⟩
  have hw5:=fB hw4 hb5
  clear HR4
  go_wp2
  go_ret
  exact⟨ay (by simp),hw5⟩
end
end Go.Proofs.YtleamcmbhioedaaGreatDoor
