/- texts: L3. -/
import Derived.Test.YtffbilcjhlncfaaGreatDoorDQS2
import Derived.Test.YtffbilcjhlncfaaGreatDoorDQS3
namespace Go.Proofs.YtffbilcjhlncfaaGreatDoor
set_option maxHeartbeats 8000000
set_option linter.all false
section
open Go.RowKit
attribute [local go_sem] Ext.cell Ext.frozen
def IntsAt (w:World) (b off:Nat) (xs:List Int):Prop:=∀i (h:i<xs.length),w.cell? ⟨b,off+i,none⟩=some (.int .i64 xs[i])
theorem IntsAt.below {w w':World} {b off:Nat} {xs:List Int} (h:IntsAt w b off xs) (hb:Below w.heap.size w w'):IntsAt w' b off xs:=fun i hi=>ab hb (h i hi)
theorem wV {w:World} {b:Nat} {x0 x1 x2:Int} (h0:w.cell? ⟨b,0,none⟩=some (.int .i64 x0)) (h1:w.cell? ⟨b,1,none⟩=some (.int .i64 x1)) (h2:w.cell? ⟨b,2,none⟩=some (.int .i64 x2)):IntsAt w b 0 [x0,x1,x2]:=by
 intro i hi
 match i,hi with
 |0,_=>simpa using h0
 |1,_=>simpa using h1
 |2,_=>simpa using h2
theorem wW {w:World} {b:Nat} {x0 x1 x2 x3:Int} (h0:w.cell? ⟨b,0,none⟩=some (.int .i64 x0)) (h1:w.cell? ⟨b,1,none⟩=some (.int .i64 x1)) (h2:w.cell? ⟨b,2,none⟩=some (.int .i64 x2)) (h3:w.cell? ⟨b,3,none⟩=some (.int .i64 x3)):IntsAt w b 0 [x0,x1,x2,x3]:=by
 intro i hi
 match i,hi with
 |0,_=>simpa using h0
 |1,_=>simpa using h1
 |2,_=>simpa using h2
 |3,_=>simpa using h3
theorem aq {W:World} {T:TypeId} {cs:Array Value} {g:Nat} (hg:g=W.heap.size) (i:Nat):(W.alloc (.cells cs T)).cell? ⟨g,i,none⟩=cs[i]? :=by
 subst hg
 exact cell_of_row _ _ i cs T (0,0) (heap_alloc_new W _)
theorem oJ {W:World} {T:TypeId} {x0 x1 x2:Int} {g:Nat} (hg:g=W.heap.size):IntsAt (W.alloc (.cells #[.int .i64 x0, .int .i64 x1, .int .i64 x2] T)) g 0 [x0,x1,x2]:=
 wV ((aq hg 0).trans rfl) ((aq hg 1).trans rfl) ((aq hg 2).trans rfl)
theorem kK {W:World} {T:TypeId} {x0 x1 x2 x3:Int} {g:Nat} (hg:g=W.heap.size):IntsAt (W.alloc (.cells #[.int .i64 x0, .int .i64 x1, .int .i64 x2, .int .i64 x3] T)) g 0 [x0,x1,x2,x3]:=
 wW ((aq hg 0).trans rfl) ((aq hg 1).trans rfl) ((aq hg 2).trans rfl) ((aq hg 3).trans rfl)
def aU (xs:List Int):Nat:=xs.foldl (fun g n=>Nat.gcd g n.natAbs) 0
theorem sK (xs:List Int) (n:Int):aU (xs++[n])=Nat.gcd (aU xs) n.natAbs:=by simp[aU]
theorem qB (xs:List Int) (k:Nat) (h:k<xs.length):xs.take (k+1)=xs.take k++[xs[k]]:=by
 rw[qaI h]
theorem Bn (B:Nat):∀(xs:List Int) (g:Nat),g≤B→(∀x∈xs, -(B:Int)≤x∧x≤B)→xs.foldl (fun g n=>Nat.gcd g n.natAbs) g≤B
 | [],_,hg,_=>hg
 |x::xs,g,hg,h=>by
  have hx:=h x (by simp)
  refine Bn B xs _ ?_ (fun y hy=>h y (by simp[hy]))
  show Nat.gcd g x.natAbs≤B
  by_cases hz:x.natAbs=0
  ·rw[hz];simpa using hg
  ·exact qaD (Nat.gcd_le_right _ (by omega)) (by omega)
theorem Bo (B:Nat) (xs:List Int) (h:∀x∈xs, -(B:Int)≤x∧x≤B):aU xs≤B:=Bn B xs 0 (Nat.zero_le _) h
theorem oK (g n:Nat):Nat.gcd n (g % n)=Nat.gcd g n:=by
 rw[Nat.gcd_comm g n,Nat.gcd_rec n g,Nat.gcd_comm]
theorem wX (b off n c:Nat) (xs:List Int) (w:World) (hn:xs.length=n) (hm:n≤1000) (hx:IntsAt w b off xs) (hB:∀x∈xs, -1000000000000000≤x∧x≤1000000000000000):
  Calls Tryz.prog 249 #[.slice (some ⟨b,off,none⟩) n c] w (Ret w (.int .i64 (aU xs))):=by
 go_enter Tryz.func249,Tryz.ntmps249
 go_wp2
 go_loopw [3,8] (fun g i wr=>∃k:Nat,k≤n∧i= .int .i64 k∧g= .int .i64 (aU (xs.take k))∧Below w.heap.size w wr) (fun _ i _=>n-(intOf i).toNat)
 case atStart=>exact⟨0,by omega,rfl,rfl,brf⟩
 case round=>
  obtain⟨k,hk,rfl,rfl,hb⟩:=hrel
  by_cases hlt:k<n
  ·have hcell:=ab hb (hx k (by omega))
   have hbx:=hB (xs[k]) (by simp)
   have Hs:aU (xs.take (k+1))=Nat.gcd (aU (xs.take k)) (xs[k]).natAbs:=by rw[qB xs k (by omega),sK]
   have hg:aU (xs.take k)≤1000000000000000:=Bo _ _ (fun x hx=>hB x (List.mem_of_mem_take hx))
   generalize aU (xs.take k)=g0 at*
   obtain⟨g1,Hg1⟩:∃g1,Hid (aU (xs.take (k+1))=g1):=⟨_,rfl⟩
   rw[Hg1.out]at Hs
   generalize xs[k]=x at*
   clear hx hB
   obtain⟨m,hm',hxm⟩:∃m:Nat,m≤1000000000000000∧(x=(m:Int)∨(x= -(m:Int)∧0<m)):=⟨x.natAbs,by omega,by omega⟩
   have Hm:Hid (g1=g0.gcd m):=by show g1=g0.gcd m;rcases hxm with rfl|⟨rfl,_⟩<;>simpa using Hs
   clear Hs hbx
   rcases hxm with rfl|⟨rfl,hm0⟩
   all_goals
    go_wp2
    try rw[Int.neg_neg]
    go_loopw [3,5] (fun g i wr=>∃g' n':Nat,g'≤1000000000000000∧n'≤1000000000000000∧i= .int .i64 n'∧g= .int .i64 g'∧Hid (g1=g'.gcd n')∧Below w.heap.size w wr) (fun _ i _=>(intOf i).toNat)
    case atStart=>exact⟨g0,m,hg,hm',by first|rfl|simp,rfl,Hm,hb⟩
    case round=>
     clear hb
     obtain⟨g',n',hg',hn',rfl,rfl,Hr,hb⟩:=hrel
     by_cases hz:0<n'
     ·go_wp2
      go_quiet (fail)
      go_wp2
      go_roundw
      case rel=>exact⟨n',g' % n',hn',by have:=Nat.mod_lt g' hz;omega,by go_num,by go_num,by unfold Hid;rw[oK];exact Hr.out,hb.drewN' _⟩
      simp[intOf];have:=Nat.mod_lt g' hz;omega
     ·obtain rfl:n'=0:=by omega
      go_wp2
      go_roundw
      case rel=>exact⟨k+1,by omega,by go_num,by rw[Hg1.out,Hr.out];simp,hb⟩
      simp[intOf];omega
  ·go_wp2
   go_ret
   exact⟨aK (by rw[qaK (by omega)]),hb⟩
theorem oL (W:World) (T:TypeId) (x0 x1 x2 x3:Int) (g:Nat) (hg:g=W.heap.size) (h0: -1000000000000000≤x0∧x0≤1000000000000000) (h1: -1000000000000000≤x1∧x1≤1000000000000000) (h2: -1000000000000000≤x2∧x2≤1000000000000000) (h3: -1000000000000000≤x3∧x3≤1000000000000000):
  Calls Tryz.prog 249 #[.slice (some ⟨g,0,none⟩) 4 4] (W.alloc (.cells #[.int .i64 x0, .int .i64 x1, .int .i64 x2, .int .i64 x3] T)) (Ret (W.alloc (.cells #[.int .i64 x0, .int .i64 x1, .int .i64 x2, .int .i64 x3] T)) (.int .i64 (aU [x0,x1,x2,x3]))):=
 wX g 0 4 4 _ _ rfl (by omega) (kK hg) (fun x hx=>by simp at hx;rcases hx with rfl|rfl|rfl|rfl<;>assumption)
end
end Go.Proofs.YtffbilcjhlncfaaGreatDoor
