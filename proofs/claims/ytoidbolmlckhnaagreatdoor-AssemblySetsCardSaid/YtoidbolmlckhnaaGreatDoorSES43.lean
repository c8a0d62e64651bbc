/- texts: FGA. -/
import Derived.Test.YtoidbolmlckhnaaGreatDoorSES42
namespace Go.Proofs.YtoidbolmlckhnaaGreatDoor
set_option maxHeartbeats 8000000
set_option linter.unusedSimpArgs false
set_option linter.unusedVariables false
section
open Go.RowKit Go.Shelf Go.Lib
attribute [local go_sem] Ext.cell Ext.frozen
theorem XS (ps:List (List Bod)) (sb mb:Nat) (pv:Value) (W:World) (hl:ps.length≤12) (hS:W.heap[sb]? =some (.cells #[pv, .map (some mb)] 171 (0,0))) (hP:PtsV W pv ps):
  Calls Tryz.prog 65 #[.pointer (some ⟨sb,0,none⟩)] W (fun e w'=>e= .returned (.int .u64 ((2 ^ ps.length-1:Nat):Int))∧w'=W):=by
 obtain⟨a,n,c,rfl,hn, -, -⟩:=hP
 rw[hn]at hl ⊢
 clear hn
 obtain⟨s0,s1,sz⟩:=xv hS
 have hp:(2:Nat) ^ n<2 ^ 13:=Nat.pow_lt_pow_right (by decide) (by omega)
 have hp0:0<(2:Nat) ^ n:=Nat.two_pow_pos _
 have sh:IntKind.u64.wrap (2 ^ n)=((2 ^ n:Nat):Int):=by
  have e:((2:Int) ^ n)=((2 ^ n:Nat):Int):=by simp
  rw[IntKind.wrap_u64,e]
  generalize 2 ^ n=P at*
  omega
 have sh2:IntKind.u64.wrap (2 ^ ((n:Int).toNat))=((2 ^ n:Nat):Int):=sh
 have sb1:IntKind.u64.wrap (((2 ^ n:Nat):Int)-1)=((2 ^ n-1:Nat):Int):=by
  rw[IntKind.wrap_u64]
  generalize 2 ^ n=P at*
  omega
 have hn64:(n:Int)≤64:=by omega
 have hn64':n≤64:=by omega
 obtain⟨P,HP⟩:∃P:Nat,Hid (2 ^ n=P):=⟨_,YJ rfl⟩
 rw[HP.out]at sh sh2 sb1 ⊢
 go_enter Tryz.func65,Tryz.ntmps65
 go_wp2
 go_ret
 exact⟨by first|rfl|trivial,by first|rfl|trivial⟩
theorem Yt {G:List Nat} {grp out k:Nat} (hk:k<(av out).length) (h:dN (G.getD (av out)[k] 0&&& grp) out≠0):XM G grp out=false:=by
 unfold XM
 rw[List.all_eq_false]
 exact⟨_,List.getElem_mem hk,by simpa using h⟩
theorem Yq {G:List Nat} {grp out:Nat} (h:∀k (hk:k<(av out).length),dN (G.getD (av out)[k] 0&&& grp) out=0):XM G grp out=true:=by
 unfold XM
 rw[List.all_eq_true]
 intro n hn
 obtain⟨k,hk,rfl⟩:=List.getElem_of_mem hn
 simpa using h k hk
set_option maxRecDepth 100000 in
theorem Yk (G:List Nat) (out grp gb cap:Nat) (W:World) (hG:∀x∈G,x<4096) (hm:G.length≤12) (ho:out<2 ^ G.length) (hg:grp<4096) (hcap:G.length≤cap) (hat:GphAt W gb G) (hT:TabAt 1 Lib.deBruijn64tab W):
  Calls Tryz.prog 64 #[.slice (some ⟨gb,0,none⟩) G.length cap, .int .u64 out, .int .u64 grp] W (Ret W (.bool (XM G grp out))):=by
 have ho12:out<4096:=Nat.lt_of_lt_of_le ho (by have:=Nat.pow_le_pow_right (n:=2) (by decide) hm;simpa using this)
 have HLi:=YJ (ES out W ho12 hT)
 have HAt:=YJ hat
 have HGl:=fun i (h:i<G.length)=>YJ (hG _ (List.getElem_mem h))
 have HGd:=fun i (h:i<G.length)=>YJ (show G.getD i 0=G[i] by simp[List.getD,h])
 have HEl:=YJ (fun k (hk:k∈av out)=>Cz G.length out out ho12 ho k hk)
 have HNo:=fun k hk=>YJ (@Yt G grp out k hk)
 have HYe:=YJ (@Yq G grp out)
 have Hlen:Hid ((av out).length≤4096):=YJ (Nat.le_trans (BS out out) (by omega))
 generalize XM G grp out=res at*
 generalize av out=l at*
 clear hG hat hT
 go_enter Tryz.func64,Tryz.ntmps64
 unfold ME at HLi
 go_wp2_with fail
 refine(HLi.out).mono ?_
 rintro e w1 ⟨v,rfl,hb1,hown⟩
 obtain⟨va,vc,rfl⟩:=aT hown
 obtain⟨N,HN⟩:∃N,Hid (l.length=N):=⟨_,YJ rfl⟩
 rw[HN.out]at Hlen
 have hNl:=Hlen.out
 have HRow:Hid (0<N→∃g cap,va=some ⟨g,0,none⟩∧vc=cap∧N≤cap∧∀i (hi:i<l.length),w1.cell? ⟨g,i,none⟩=some (.int .i64 (l[i]:Nat))):=YJ (fun h=>by
  obtain⟨g,cp,e,h1,_,_,h2⟩:=JK hown (by rw[HN.out];exact h)
  injection e with e1 e2 e3
  exact⟨g,cp,e1,e3,by rw[←HN.out];exact h1,h2⟩)
 rw[HN.out]
 clear HLi hown
 go_wp2
 go_loopw [12] (fun i wr=>∃k:Nat,k≤N∧i= .int .i64 k∧wr=w1∧Hid (∀j (hj:j<l.length),j<k→dN (G.getD l[j] 0&&& grp) out=0)) (fun i _=>N-(intOf i).toNat)
 case atStart=>exact⟨0,by omega,rfl,rfl,YJ (fun j _ h=>by omega)⟩
 case round=>
  obtain⟨k,hk,rfl,rfl,Hd⟩:=hrel
  by_cases hlt:k<N
  ·have g1:(k:Int)<(N:Int):=by omega
   have g2:(0:Int)≤(k:Int):=by omega
   have hkl:k<l.length:=by have:=HN.out;omega
   obtain⟨g,cp,rfl,rfl,hcp,hcl⟩:=HRow.out (by omega)
   have c0:=hcl k hkl
   have cz:=World.block_lt_of_cell? wr _ c0
   simp only at cz
   have hin:=HEl.out l[k] (List.getElem_mem hkl)
   have HNk:=YJ (HNo k hkl).out
   have Hst:Hid (dN (G.getD l[k] 0&&& grp) out=0→∀j (hj:j<l.length),j<k+1→dN (G.getD l[j] 0&&& grp) out=0):=YJ (fun h j hj hjk=>by
    by_cases e:j=k
    ·subst e;exact h
    ·exact Hd.out j hj (by omega))
   generalize l[k]=q at*
   have d0:=ab hb1 (HAt.out q hin)
   have dz:=World.block_lt_of_cell? wr _ d0
   simp only at dz
   rw[(HGd q hin).out]at HNk Hst
   have hx12:=(HGl q hin).out
   have q1:(q:Int)<(G.length:Int):=by omega
   have q2:(0:Int)≤(q:Int):=by omega
   generalize G[q]=x at*
   have e1:=bits_and_u64_nat x grp (by omega) (by omega)
   have hle:x&&& grp<4096:=Nat.lt_of_le_of_lt Nat.and_le_left hx12
   have e2:=CT (x&&& grp) out (by omega) (by omega)
   clear HRow hcl hin HGl HGd HAt HNo HYe HEl Hd
   generalize x&&& grp=y at*
   generalize dN y out=r at*
   by_cases hr:r=0
   ·have hr':((r:Int)!=0)=false:=by simpa using hr
    go_wp2
    go_roundw
    case rel=>exact⟨k+1,by omega,by go_num,by first|trivial|rfl,YJ (Hst.out hr)⟩
    case measure=>first|(simp[intOf];done)|(simp[intOf];omega)
   ·have hr':((r:Int)!=0)=true:=by simpa using hr
    obtain rfl:=HNk.out hr
    go_wp2
    go_ret
    exact⟨by first|rfl|trivial,hb1⟩
  ·obtain rfl:k=N:=by omega
   obtain rfl:=HYe.out (fun j hj=>Hd.out j hj (by have:=HN.out;omega))
   clear HRow HGl HGd HAt HNo HEl
   go_wp2
   go_ret
   exact⟨by first|rfl|trivial,hb1⟩
end
end Go.Proofs.YtoidbolmlckhnaaGreatDoor
