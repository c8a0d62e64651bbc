/- texts: O4. -/
import Derived.Test.YtnpmkepfpekhfaaGreatDoorGGS37
namespace Go.Proofs.YtnpmkepfpekhfaaGreatDoor
set_option maxHeartbeats 8000000
set_option linter.all false
section
open Go.RowKit
theorem PT {c d:List Q4} (h:Ins (c++d)):Ins (d++c):=by
 obtain⟨o,W,hW,hs⟩:=h
 exact⟨o,W,hW,fun p hp=>hs p (by rw[List.mem_append]at hp ⊢;exact hp.symm)⟩
theorem Qr {c d:List Q4} (hc:bK c=0):rcl c d=true↔Ins (c++d):=
 Ql ((FF hc).1.mono (fun p hp=>List.mem_append_left _ hp))
theorem PU {c:List Q4} (hc:bK c=0) {o:Q3} {W:Int} (hW:0<W) (ho:Str c o W) {p:Q4} (hp:0<slk p o W):gM (aS c) p=true:=by
 rw[←Pe]
 obtain⟨x,hx,x0, -,h3⟩:=Ko (FG hc) p o W hW (((FG hc).sub o W hW).2 ho.inP)
 unfold gM
 rw[List.any_eq_true]
 refine⟨x,hx, ?_⟩
 rw[decide_eq_true_eq,mt,dp]
 have h4:0<slk p (xyz x) x.2.2.2*W:=Int.lt_of_lt_of_le (Int.mul_pos hp x0) h3
 exact mu hW h4
theorem QO {c d:List Q4} (hc:bK c=0) (hd:bK d=0):clB c d=true↔Ins (c++d):=by
 have key:fh (c++d) (aS (c++d))=true↔Ins (c++d):=by
  unfold fh
  rw[←Pe,qaF,decide_eq_true_eq]
  have h:=Qr (d:=d) hc
  unfold rcl at h
  rw[h]
  refine⟨fun h=>h.1,fun h=>⟨h, ?_⟩⟩
  have:=(Dl hc).2.1
  rw[qaE]
  omega
 unfold clB
 rw[qaF,key]
 refine⟨fun h=>h.2,fun h=>⟨?_,h⟩⟩
 obtain⟨o,W,hW,hs⟩:=h
 have h1:Str c o W:=fun p hp=>hs p (List.mem_append_left _ hp)
 have h2:Str d o W:=fun p hp=>hs p (List.mem_append_right _ hp)
 have ha:Cy c (aS c) d (aS d)=false:=by
  unfold Cy
  rw[Bool.or_eq_false_iff,List.any_eq_false,List.any_eq_false]
  refine⟨fun p hp=> ?_,fun p hp=> ?_⟩
  ·rw[PU hd hW h2 (h1 p hp)];simp
  ·rw[PU hc hW h1 (h2 p hp)];simp
 rw[ha]
 rfl
theorem Qm {s t:List (List Q4)} (hs:∀c∈s,bK c=0) (ht:∀c∈t,bK c=0):cy s t=Oh t s:=by
 unfold cy Oh
 rw[KC]
 exact Gu fun d hd c hc=>LH (QO (hs c hc) (ht d hd)) ((Qr (ht d hd)).trans ⟨PT,PT⟩)
theorem PV {l:List (List (List Q4))} (h:cx l=0) (i:Nat):∀c∈l.getD i [],bK c=0:=fun c hc=>by
 by_cases hi:i<l.length
 ·rw[show l.getD i []=l[i] by simp[List.getD,hi]]at hc
  exact IL (Is (Fb h _ (qaB hi))).1 c hc
 ·rw[show l.getD i []=[] by simp[List.getD,hi]]at hc
  cases hc
theorem QG (l:List (List (List Q4))):eB l=NY l:=by
 unfold eB NY
 by_cases h12:12<l.length
 ·rw[if_pos h12,if_pos h12]
 ·rw[if_neg h12,if_neg h12]
  by_cases hp:cx l=0
  ·rw[if_pos hp,if_pos hp]
   have:mx l=Oe l:=by
    unfold mx Oe
    congr 1
    funext i
    congr 1
    funext k
    exact Qm (PV hp k) (PV hp i)
   rw[this]
  ·rw[if_neg hp,if_neg hp]
end
end Go.Proofs.YtnpmkepfpekhfaaGreatDoor
