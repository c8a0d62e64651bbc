/- texts: M5. -/
import Derived.Test.YtffbilcjhlncfaaGreatDoorDQS10
import Derived.Test.YtffbilcjhlncfaaGreatDoorDQS12
import Derived.Shelf.Spec.TrailingZeros
import Derived.Lib.AppendIntMem
namespace Go.Proofs.YtffbilcjhlncfaaGreatDoor
set_option maxHeartbeats 8000000
set_option linter.all false
section
open Go.RowKit Go.Shelf
attribute [local go_sem] Ext.cell Ext.frozen
def TI:Nat→Nat→List Nat
 |0,_=>[]
 |f+1,s=>if s=0 then []else Lib.ctz 64 s::TI f (s&&& (s-1))
def lf (s:Nat):List Nat:=TI s s
theorem Od {s:Nat} (h:0<s):s&&& (s-1)<s:=Nat.lt_of_le_of_lt Nat.and_le_right (by omega)
theorem DL:∀f g s,s≤f→s≤g→TI f s=TI g s
 |0,g,s,h,_=>by
  obtain rfl:s=0:=by omega
  cases g with
  |zero=>rfl
  |succ g=>simp[TI]
 |f+1,0,s,_,h=>by
  obtain rfl:s=0:=by omega
  simp[TI]
 |f+1,g+1,s,h1,h2=>by
  unfold TI
  split
  ·rfl
  ·rename_i h0
   have:=Od (show 0<s by omega)
   rw[DL f g _ (by omega) (by omega)]
theorem elems_zero:lf 0=[]:=rfl
theorem FY {s:Nat} (h:0<s):lf s=Lib.ctz 64 s::lf (s&&& (s-1)):=by
 obtain⟨f,rfl⟩:∃f,s=f+1:=⟨s-1,by omega⟩
 have hl:=Od h
 show TI (f+1) (f+1)=_
 rw[TI,if_neg (by omega)]
 congr 1
 exact DL _ _ _ (by omega) (qaA _)
theorem BS:∀f s,(TI f s).length≤f
 |0,_=>by simp[TI]
 |f+1,s=>by
  unfold TI
  split
  ·simp
  ·simp only[qdn];have:=BS f (s&&& (s-1));omega
theorem LV {s:Nat} (h0:0<s) (h:s<4096):Lib.ctz 64 s<12:=by
 obtain⟨m,hm,_⟩:=Lib.ctzFrom_spec 64 s h0 (by omega)
 have hc:Lib.ctz 64 s=Lib.ctzFrom 64 s:=by unfold Lib.ctz;rw[if_neg (by omega)]
 rw[hc]
 refine Nat.lt_of_not_le fun h12=> ?_
 have h1:2 ^ 12≤2 ^ Lib.ctzFrom 64 s:=Nat.pow_le_pow_right (by decide) h12
 have h2:2 ^ Lib.ctzFrom 64 s≤s:=by
  have:=Nat.le_mul_of_pos_right (2 ^ Lib.ctzFrom 64 s) (show 0<2*m+1 by omega)
  omega
 omega
def nr (l:List Int):Nat:=l.foldl (fun s n=>s |||2 ^ n.toNat) 0
theorem Il (l:List Int) (x:Int):nr (l++[x])=nr l |||2 ^ x.toNat:=by simp[nr]
theorem KX (l:List Int) (h:∀x∈l,0≤x∧x<12):nr l<4096:=by
 unfold nr
 have key:∀(l:List Int) (s:Nat),s<2 ^ 12→(∀x∈l,0≤x∧x<12)→l.foldl (fun s n=>s |||2 ^ n.toNat) s<2 ^ 12:=by
  intro l
  induction l with
  |nil=>intro s hs _;exact hs
  |cons x l ih=>
   intro s hs hl
   have hx:=hl x (by simp)
   refine ih _ (Nat.or_lt_two_pow hs (Nat.pow_lt_pow_right (by decide) (by omega))) (fun y hy=>hl y (by simp[hy]))
 exact key l 0 (by decide) h
theorem KY {x:Int} (h0:0≤x) (h:x<12):IntKind.u64.wrap (2 ^ x.toNat)=((2 ^ x.toNat:Nat):Int):=by
 have h1:(2:Nat) ^ x.toNat<2 ^ 12:=Nat.pow_lt_pow_right (by decide) (by omega)
 have e:((2:Int) ^ x.toNat)=((2 ^ x.toNat:Nat):Int):=by simp
 rw[IntKind.wrap_u64,e]
 generalize 2 ^ x.toNat=P at*
 omega
set_option maxRecDepth 100000 in
theorem Cx (xs:List Int) (v:Value) (W:World) (hx:∀x∈xs,0≤x∧x<12) (hl:xs.length≤1000000) (hv:Ints W v xs):
  Calls Tryz.prog 40 #[v] W (fun e w'=>e= .returned (.int .u64 (nr xs))∧w'=W):=by
 obtain⟨a,n,c,rfl,hn,_,hi⟩:=hv
 have HX:=YJ hi
 have HN:=YJ hn
 have HB:=fun i (h:i<xs.length)=>YJ (hx _ (qaB h))
 have HS:=fun i (h:i<xs.length)=>YJ (show nr (xs.take (i+1))=nr (xs.take i) |||2 ^ (xs[i]).toNat by rw[qaI h,Il])
 have HL:=fun i=>YJ (KX (xs.take i) (fun x h=>hx x (List.mem_of_mem_take h)))
 have HE:Hid (nr (xs.take n)=nr xs):=YJ (by rw[qaK (by omega)])
 have H0:Hid (nr (xs.take 0)=0):=YJ rfl
 clear hi hn hx
 go_enter Tryz.func40,Tryz.ntmps40
 go_wp2
 go_loopw [3,8] (fun s x wr=>wr=W∧∃k m:Nat,k≤n∧x= .int .i64 k∧s= .int .u64 m∧Hid (m=nr (xs.take k))) (fun _ x _=>n-(intOf x).toNat)
 case atStart=>exact⟨rfl,0,0,by omega,rfl,rfl,YJ H0.out.symm⟩
 case round=>
  obtain⟨rfl,k,m,hk,rfl,rfl,Hm⟩:=hrel
  by_cases hlt:k<n
  ·have g1:(k:Int)<(n:Int):=by omega
   have g2:(0:Int)≤(k:Int):=by omega
   have hil:k<xs.length:=by have:=HN.out;omega
   obtain⟨b,off,rfl,hi4⟩:=HX.out (by omega)
   have e0:=hi4 k hil
   have ze:=qaC wr _ e0
   simp only at ze
   obtain⟨y0,y1⟩:=(HB k hil).out
   have HSk:=YJ ((HS k hil).out)
   have hm:m<4096:=by rw[Hm.out];exact(HL k).out
   clear HX HB HS HL hi4
   generalize xs[k]=y at*
   have hp:(2:Nat) ^ y.toNat<4096:=Nat.pow_lt_pow_right (by decide) (show y.toNat<12 by omega)
   have sh:=KY y0 y1
   have hy64:y≤64:=by omega
   have hor:=bits_or_u64_nat m (2 ^ y.toNat) (by omega) (by omega)
   obtain⟨P,HP⟩:∃P:Nat,Hid (2 ^ y.toNat=P):=⟨_,YJ rfl⟩
   rw[HP.out]at sh hor hp HSk
   go_wp2
   go_roundw
   case rel=>exact⟨by first|trivial|rfl,k+1,m |||P,by omega,by go_num,rfl,YJ (by rw[HSk.out, ←Hm.out])⟩
   simp[intOf];try omega
  ·obtain rfl:k=n:=by omega
   have HM2:Hid (m=nr xs):=YJ (by rw[Hm.out,HE.out])
   clear HX HB HS HL
   go_wp2
   go_ret
   exact⟨by rw[HM2.out];rfl,rfl⟩
theorem nz {w w':World} {g:Nat} {tab:List Nat} (h:TabAt g tab w) (hb:Below w.heap.size w w'):TabAt g tab w':=fun j hj=>ab hb (h j hj)
theorem Im (x k idx:Nat) (w:World) (hx0:((x:Int)==0)=false)
  (key:IntKind.u64.wrap (bits BinOp.and IntKind.u64 (x:Int) (IntKind.u64.wrap (-(x:Int)))*285870213051353865) / 288230376151711744=(idx:Int))
  (hi:idx<64) (hk:k<64) (hcell:w.cell? ⟨3,idx,none⟩=some (.int .u8 k)):
  Calls Tryz.prog 185 #[.int .u64 x] w fun e w'=>e= .returned (.int .i64 k)∧w'=w:=by
 have hlt:=qaC w _ hcell
 simp only at hlt
 go_enter Tryz.func185,Tryz.ntmps185
 go_wp2_with (simp only[key])
 go_ret
 exact⟨rfl,rfl⟩
theorem JB (x:Nat) (h0:0<x) (hx:x<18446744073709551616) (w:World) (hT:TabAt 3 Lib.deBruijn64tab w):
  Calls Tryz.prog 185 #[.int .u64 x] w fun e w'=>e= .returned (.int .i64 (Lib.ctz 64 x))∧w'=w:=by
 obtain⟨hlow,hk⟩:=Lib.lowest_bit 64 x (by omega) hx
 obtain⟨hi,htab⟩:=Lib.deBruijn64_at _ hk
 have hcell:=hT _ hi
 rw[htab]at hcell
 exact Im x _ _ w (by simp;omega) (tz64_key x _ hx (by omega) hlow) hi hk hcell
theorem LW (x:Nat) (h0:0<x) (hx:x<18446744073709551616) (w:World) (hT:TabAt 3 Lib.deBruijn64tab w):
  Calls Tryz.prog 134 #[.int .u64 x] w fun e w'=>e= .returned (.int .i64 (Lib.ctz 64 x))∧w'=w:=by
 have HC:=YJ (JB x h0 hx w hT)
 generalize Lib.ctz 64 x=k at*
 go_enter Tryz.func134,Tryz.ntmps134
 go_wp2_with fail
 refine(HC.out).mono ?_
 rintro e w1 ⟨rfl,rfl⟩
 go_wp2
 go_ret
 exact⟨rfl,rfl⟩
theorem In:(Tryz.prog.info? 3).map (fun i=>(i.zero,i.size,i.bytes))=some (some (.int .i64 0),1,8):=by kernel_rfl
theorem Io:Tryz.prog.underlying 34=some (.slice 3):=by kernel_rfl
def iV (n:Nat):Value:= .int .i64 (n:Int)
def ME (l:List Nat) (W:World) (e:Ending) (w':World):Prop:=∃v,e= .returned v∧Below W.heap.size W w'∧w'.ownsRow W.heap.size 3 1 v l.length (l.map iV)
set_option maxRecDepth 100000 in
theorem ES (s:Nat) (W:World) (hs:s<4096) (hT:TabAt 3 Lib.deBruijn64tab W):
  Calls Tryz.prog 93 #[.int .u64 s] W (ME (lf s) W):=by
 obtain⟨i0,Hi0⟩:=qfT In
 obtain⟨L,HL⟩:∃L,Hid (lf s=L):=⟨_,YJ rfl⟩
 have HLen:Hid (L.length≤4096):=YJ (by rw[←HL.out];exact qaD (BS s s) (by omega))
 rw[HL.out]
 go_enter Tryz.func93,Tryz.ntmps93
 go_wp2
 go_loopw [0,3] (fun x o wr=>∃(r:Nat) (pre:List Nat),r<4096∧x= .int .u64 r∧Below W.heap.size W wr∧Hid (wr.ownsRow W.heap.size 3 1 o pre.length (pre.map iV))∧Hid (pre++lf r=L)) (fun x _ _=>(intOf x).toNat)
 case atStart=>exact⟨s,[],hs,rfl,brf,YJ (qds _ _ _ _),YJ (by rw[List.nil_append];exact HL.out)⟩
 case round=>
  obtain⟨r,pre,hr,rfl,hb,HO,HP⟩:=hrel
  obtain⟨oa,oc,rfl⟩:=aT HO.out
  by_cases h0:r=0
  ·subst h0
   have HE:Hid (pre=L):=YJ (by rw[←HP.out,elems_zero,qgd])
   go_wp2
   go_ret
   refine⟨_,rfl,hb, ?_⟩
   rw[←HE.out]
   exact HO.out
  ·have hr0:0<r:=by omega
   have hne:((r:Int)!=0)=true:=by simpa using h0
   have HT:=YJ (LW r hr0 (by omega) wr (nz hT hb))
   have HSt:=YJ (FY hr0)
   have hand:=bits_and_u64_nat r (r-1) (by omega) (by omega)
   have hsub:IntKind.u64.wrap ((r:Int)-1)=((r-1:Nat):Int):=by rw[IntKind.wrap_u64];omega
   have hlt:=Od hr0
   have hpl:pre.length≤4096:=by have:=HLen.out;rw[←HP.out,qaE]at this;omega
   have HQ:Hid (pre++[Lib.ctz 64 r]++lf (r&&& (r-1))=L):=YJ (by rw[←HP.out,HSt.out];simp)
   have hk:=LV hr0 hr
   clear HSt HP
   generalize Lib.ctz 64 r=k at*
   generalize r&&& (r-1)=r2 at*
   go_wp2_with fail
   refine(HT.out).mono ?_
   rintro e w1 ⟨rfl,rfl⟩
   clear HT
   go_wp2_with (at_builtin;refine wpList_append_own _ rfl _ _ 34 rfl W.heap.size 3 i0 (.int .i64 0) 1 8 Io Hi0.out.1 Hi0.out.2.1 Hi0.out.2.2.1 Hi0.out.2.2.2 rfl (by decide) _ pre.length _ rfl (HO.out.alloc _) ⟨_,0,none⟩ 1 1 [.int .i64 k] rfl rfl ?c1 ?c2 ?c3 ?c4 ?c5 ?_)
   case c1=>
    intro jj uu hu
    rw[jY,aq (by simp) jj]
    simpa using hu
   case c2=>intro v hv;simp at hv;subst hv;rfl
   case c3=>unfold maxLen;omega
   case c4=>omega
   case c5=>simp;have:=hb.size;omega
   intro v' w4 hown4 hg4 hu4
   have hbx:Below w1.heap.size w1 (w1.alloc (.cells #[.int .i64 k] 3)):=bel
   have hb4:Below W.heap.size W w4:=(fB hb hbx).grown hg4 (fB hb hbx).size (fun z hz=>by have:=(HO.out.lt z hz).1;omega)
   have HO4:Hid (w4.ownsRow W.heap.size 3 1 v' (pre++[k]).length ((pre++[k]).map iV)):=YJ (by rw[qaE,qgh];exact hown4)
   clear hown4 hg4 hu4 HO hbx
   obtain⟨va,vc,rfl⟩:=aT HO4.out
   go_wp2
   go_roundw
   case rel=>exact⟨r2,pre++[k],by omega,rfl,hb4,HO4,HQ⟩
   simp[intOf];try omega
end
end Go.Proofs.YtffbilcjhlncfaaGreatDoor
