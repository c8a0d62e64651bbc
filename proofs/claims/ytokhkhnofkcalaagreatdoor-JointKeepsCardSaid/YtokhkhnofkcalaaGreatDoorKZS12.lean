/- texts: Cmp Cmp2 Cmp3 B3 B2 B4 Srt4 B5 B6. -/
import Derived.Test.YtokhkhnofkcalaaGreatDoorKZS11
import Derived.Lib.SlicesCompact
import Derived.Lib.SliceRun
import Derived.Test.YtokhkhnofkcalaaGreatDoorKZS10
namespace Go.Proofs.YtokhkhnofkcalaaGreatDoor
set_option maxHeartbeats 8000000
set_option linter.unusedSimpArgs false
set_option linter.unusedVariables false
section
open Go.RowKit Go.Shelf Go.Sort Go.Lib
def RowQ (w:World) (g:Nat) (T:TypeId) (d:Array Q4) (sp:List Value):Prop:=w.heap[g]? =some (.cells (d.toList.flatMap aH++sp).toArray T (0,0))
theorem cP (x:Q4):(aH x).length=4:=rfl
theorem RowQ.get {w:World} {g:Nat} {T:TypeId} {d:Array Q4} {sp:List Value} (h:RowQ w g T d sp) (i:Nat) (hi:i<d.size):
  w.cell? ⟨g,i*4,none⟩=some (.int .i64 d[i]!.1)∧w.cell? ⟨g,i*4+1,none⟩=some (.int .i64 d[i]!.2.1)∧w.cell? ⟨g,i*4+2,none⟩=some (.int .i64 d[i]!.2.2.1)∧w.cell? ⟨g,i*4+3,none⟩=some (.int .i64 d[i]!.2.2.2):=by
 have hl:(d.toList.flatMap aH).length=d.size*4:=by rw[dH aH 4 cP];simp
 have key:∀j,j<4→w.cell? ⟨g,i*4+j,none⟩=(aH d[i]!)[j]? :=fun j hj=>by
  rw[ag h,List.getElem?_toArray,List.getElem?_append_left (by rw[hl];omega),eQ aH 4 cP d.toList i (by simpa using hi) j hj,getElem!_pos d i hi]
  simp
 exact⟨key 0 (by omega),key 1 (by omega),key 2 (by omega),key 3 (by omega)⟩
theorem RowQ.free {w:World} {g:Nat} {T:TypeId} {d:Array Q4} {sp:List Value} (h:RowQ w g T d sp) (i:Nat):w.frozen? ⟨g,i,none⟩=false:=aC h i
theorem uU (l:List Q4) (i:Nat) (hi:i<l.length) (x:Q4) (sp:List Value):
  ((((l.flatMap aH++sp).set (i*4) (.int .i64 x.1)).set (i*4+1) (.int .i64 x.2.1)).set (i*4+2) (.int .i64 x.2.2.1)).set (i*4+3) (.int .i64 x.2.2.2)=(l.set i x).flatMap aH++sp:=by
 induction l generalizing i with
 |nil=>simp at hi
 |cons y l ih=>
  cases i with
  |zero=>simp[aH]
  |succ i=>
   have:=ih i (by simpa using hi)
   simp only[List.flatMap_cons,List.set_cons_succ,List.append_assoc,aH]at this ⊢
   rw[show(i+1)*4=i*4+4 by omega]
   simp only[List.cons_append,List.nil_append,List.set_cons_succ]
   rw[this]
theorem RowQ.set {w:World} {g:Nat} {T:TypeId} {d:Array Q4} {sp:List Value} (h:RowQ w g T d sp) (i:Nat) (hi:i<d.size) (x:Q4):
  RowQ ((((w.setCell ⟨g,i*4,none⟩ (.int .i64 x.1)).setCell ⟨g,i*4+1,none⟩ (.int .i64 x.2.1)).setCell ⟨g,i*4+2,none⟩ (.int .i64 x.2.2.1)).setCell ⟨g,i*4+3,none⟩ (.int .i64 x.2.2.2)) g T (d.setIfInBounds i x) sp:=by
 have:=br (br (br (br h (i*4) (.int .i64 x.1)) (i*4+1) (.int .i64 x.2.1)) (i*4+2) (.int .i64 x.2.2.1)) (i*4+3) (.int .i64 x.2.2.2)
 unfold RowQ
 rw[this]
 simp only[List.setIfInBounds_toArray,Array.toList_setIfInBounds]
 rw[uU _ _ (by simpa using hi)]
theorem RowQ.keep {w w':World} {g:Nat} {T:TypeId} {d:Array Q4} {sp:List Value} (h:RowQ w g T d sp) (hb:Below w.heap.size w w'):RowQ w' g T d sp:=(hb.block g (ah h)).trans h
theorem cB {w w1 w2:World} {row:Option Nat} (h:w.grownBy w1 row) (hb:Below w1.heap.size w1 w2):w.grownBy w2 row:=
 ⟨hb.os.trans h.os,hb.tape.trans h.tape,hb.output.trans h.output,Nat.le_trans h.size hb.size,fun k hk hne=>(hb.block k (Nat.lt_of_lt_of_le hk h.size)).trans (h.block k hk hne)⟩
theorem cV {w w1:World} {g:Nat} (h:w.grownBy w1 (some g)) (i:Nat) (v:Value):w.grownBy (w1.setCell ⟨g,i,none⟩ v) (some g):=
 ⟨h.os,h.tape,h.output,by simpa [World.setCell]using h.size,fun k hk hne=>(Below.heap_setCell _ _ _ _ (fun e=>hne (by rw[e]))).trans (h.block k hk hne)⟩
theorem me {w:World} {base g n cap:Nat} {T:TypeId} (d:Array Q4) (h:w.ownsRow base T 4 (.slice (some ⟨g,0,none⟩) n cap) n (d.toList.flatMap aH)):∃sp,RowQ w g T d sp∧base≤g∧cap≤maxLen∧n≤cap∧n*4+sp.length=cap*4:=by
 rcases h.2 with⟨h0,_⟩|⟨g',cap',cur,hv,hb,hh,hc,hm,hcs,ht⟩
 ·cases h0
 ·injection hv with h1 h2 h3
  injection h1 with h1
  injection h1 with h1
  subst h1 h3
  refine⟨cur.toList.drop (n*4), ?_,hb,hm,hc, ?_⟩
  ·unfold RowQ
   rw[←ht,List.take_append_drop]
   simpa using hh
  ·have:=Nat.mul_le_mul_right 4 hc
   simp;omega
theorem gB {w:World} {base g n m cap:Nat} {T:TypeId} {d:Array Q4} {sp:List Value} (h:RowQ w g T d sp) (hb:base≤g) (hm:cap≤maxLen) (hd:d.size=n) (hs:n*4+sp.length=cap*4) (hle:m≤n):
  w.ownsRow base T 4 (.slice (some ⟨g,0,none⟩) m cap) m ((d.toList.take m).flatMap aH):=by
 have hl:(d.toList.flatMap aH).length=n*4:=by rw[dH aH 4 cP];simp[hd]
 have ht:∀(l:List Q4) (m:Nat),(l.flatMap aH).take (m*4)=(l.take m).flatMap aH:=by
  intro l
  induction l with
  |nil=>simp
  |cons x l ih=>
   intro m
   cases m with
   |zero=>simp
   |succ m=>
    simp only[List.flatMap_cons,List.take_succ_cons]
    rw[List.take_append,List.take_of_length_le (by rw[cP];omega),cP,show(m+1)*4-4=m*4 by omega,ih]
 refine⟨by rw[dH aH 4 cP];simp;omega, .inr ⟨g,cap,_,rfl,hb,h,by omega,hm,by simp only[List.size_toArray,List.length_append];omega, ?_⟩⟩
 simp only
 rw[List.take_append_of_le_length (by rw[hl];omega),ht]
theorem qM:∀w,(zeroValue 143).run Tryz.prog w= .ok (v4 (0,0,0,0)) w:=fun _=>by kernel_rfl
theorem nd:∀w,(zeroValue 69).run Tryz.prog w= .ok (v4 (0,0,0,0)) w:=fun _=>by kernel_rfl
theorem iX {P:Program} (w:World) (t e ty:TypeId) (ht:P.underlying t=some (.slice e)) (hv:∀w,(zeroValue e).run P w= .ok (v4 (0,0,0,0)) w) (b o n c:Nat) (hn:0<n)
  (hc:∀j,j<n*4→(w.cell? ⟨b,o+j,none⟩).isSome=true) (hf:∀j,j<n*4→w.frozen? ⟨b,o+j,none⟩=false):
  (Builtin.clear_ #[t] ty #[.slice (some ⟨b,o,none⟩) n c]).run P w= .ok (.tuple #[]) (w.setCells b o (List.replicate (n*4) (.int .i64 0))):=by
 have hzc:(Builtin.zeroCells (v4 (0,0,0,0)).cells n).toList=List.replicate (n*4) (.int .i64 0):=by
  apply List.ext_getElem
  ·simp[Builtin.zeroCells,Value.cells]
  ·intro i h1 h2
   simp[Builtin.zeroCells,Value.cells]
   have:i % 4=0∨i % 4=1∨i % 4=2∨i % 4=3:=by omega
   rcases this with h|h|h|h<;>simp[h]
 have hst:=run_storeCells_cells (P:=P) b o (List.replicate (n*4) (.int .i64 0)) 0 w (by simpa using hc) (by simpa using hf) (by intro v hv';rw[List.eq_of_mem_replicate hv'];rfl)
 simp only[Nat.add_zero]at hst
 obtain⟨m,rfl⟩:∃m,n=m+1:=⟨n-1,by omega⟩
 simp[Builtin.clear_,run_underlying ht,hv,hzc,hst]
theorem ft (g:Nat) (T:TypeId):∀(vs:List Value) (o:Nat) (w:World) (cur:Array Value),w.heap[g]? =some (.cells cur T (0,0))→
  ∃cur',(w.setCells g o vs).heap[g]? =some (.cells cur' T (0,0))∧cur'.size=cur.size∧∀i,i<o→cur'[i]? =cur[i]?
 | [],_,_,cur,h=>⟨cur,h,rfl,fun _ _=>rfl⟩
 |v::r,o,w,cur,h=>by
  obtain⟨cur',h1,h2,h3⟩:=ft g T r (o+1) (w.setCell ⟨g,o,none⟩ v) _ (br h o v)
  refine⟨cur',h1,by rw[h2];simp,fun i hi=> ?_⟩
  rw[h3 i (by omega),Array.getElem?_setIfInBounds_ne (by omega)]
theorem ee {w:World} {g:Nat}:∀(vs:List Value) (o:Nat) (w1:World),w.grownBy w1 (some g)→w.grownBy (w1.setCells g o vs) (some g)
 | [],_,_,h=>h
 |v::r,o,_,h=>ee r (o+1) _ (cV h o v)
theorem eqF (d:Nat) (a x:Int) (w:World):(Op.equalIn (d+1) 3 (.int .i64 a) (.int .i64 x)).run Tryz.prog w= .ok (a==x) w:=run_equalIn_int w d _ .i64 _ a x eJ
theorem xr (x y z q:Value) (w:World):(part 3 #[x,y,z,q] 0).run Tryz.prog w= .ok x w:=by kernel_rfl
theorem xt (x y z q:Value) (w:World):(part 3 #[x,y,z,q] 1).run Tryz.prog w= .ok y w:=by kernel_rfl
theorem xu (x y z q:Value) (w:World):(part 3 #[x,y,z,q] 2).run Tryz.prog w= .ok z w:=by kernel_rfl
theorem xw (x y z q:Value) (w:World):(part 3 #[x,y,z,q] 3).run Tryz.prog w= .ok q w:=by kernel_rfl
theorem yJ:Tryz.prog.underlying 143=some (.struct (Tryz.prog.fieldsOf 143)):=by kernel_rfl
theorem yK:Tryz.prog.underlying 69=some (.struct (Tryz.prog.fieldsOf 69)):=by kernel_rfl
theorem sS:(Tryz.prog.fieldsOf 143).toList.map (fun f=>(f.type,f.offset,decide (f.name≠ "_")))=[(3,0,true),(3,1,true),(3,2,true),(3,3,true)]:=by kernel_rfl
theorem sT:(Tryz.prog.fieldsOf 69).toList.map (fun f=>(f.type,f.offset,decide (f.name≠ "_")))=[(3,0,true),(3,1,true),(3,2,true),(3,3,true)]:=by kernel_rfl
theorem ng (d:Nat) (fs:List Field) (hf:fs.map (fun f=>(f.type,f.offset,decide (f.name≠ "_")))=[(3,0,true),(3,1,true),(3,2,true),(3,3,true)]) (a b c e x y z q:Int) (w:World):
  (Op.eqFields (d+1) #[.int .i64 a, .int .i64 b, .int .i64 c, .int .i64 e] #[.int .i64 x, .int .i64 y, .int .i64 z, .int .i64 q] fs).run Tryz.prog w= .ok (a==x&&b==y&&c==z&&e==q) w:=by
 have hlen:fs.length=4:=by simpa using congrArg List.length hf
 match fs,hlen,hf with
 | [f0,f1,f2,f3],_,hf=>
  simp only[List.map_cons,List.map_nil,List.cons.injEq,Prod.mk.injEq,and_true,decide_eq_true_eq]at hf
  obtain⟨⟨a0,o0,n0⟩,⟨a1,o1,n1⟩,⟨a2,o2,n2⟩,⟨a3,o3,n3⟩⟩:=hf
  simp[Op.eqFields,a0,o0,n0,a1,o1,n1,a2,o2,n2,a3,o3,n3,xr,xt,xu,xw,eqF]
  by_cases h1:a=x<;>by_cases h2:b=y<;>by_cases h3:c=z<;>by_cases h4:e=q<;>simp[h1,h2,h3,h4]
theorem qN (a b c e x y z q:Int) (w:World):(Op.equalIn 10000 143 (v4 (a,b,c,e)) (v4 (x,y,z,q))).run Tryz.prog w= .ok (a==x&&b==y&&c==z&&e==q) w:=by
 rw[run_equalIn_struct w 9999 _ _ _ yJ (by kernel_rfl),ng 9998 _ sS]
theorem qO (a b c e x y z q:Int) (w:World):(Op.equalIn 10000 69 (v4 (a,b,c,e)) (v4 (x,y,z,q))).run Tryz.prog w= .ok (a==x&&b==y&&c==z&&e==q) w:=by
 rw[run_equalIn_struct w 9999 _ _ _ yK (by kernel_rfl),ng 9998 _ sT]
theorem zS (x y:Q4):(x.1==y.1&&x.2.1==y.2.1&&x.2.2.1==y.2.2.1&&x.2.2.2==y.2.2.2)=decide (x=y):=by
 obtain⟨a,b,c,d⟩:=x
 obtain⟨a',b',c',d'⟩:=y
 rw[Bool.eq_iff_iff]
 simp[Prod.ext_iff,and_assoc]
theorem yA (x y:Q4) (w:World):(Op.equalIn 10000 143 (.agg #[.int .i64 x.1, .int .i64 x.2.1, .int .i64 x.2.2.1, .int .i64 x.2.2.2]) (.agg #[.int .i64 y.1, .int .i64 y.2.1, .int .i64 y.2.2.1, .int .i64 y.2.2.2])).run Tryz.prog w= .ok (decide (x=y)) w:=by
 rw[←zS];exact qN _ _ _ _ _ _ _ _ w
theorem nh (x y:Q4) (w:World):(Op.equalIn 10000 69 (.agg #[.int .i64 x.1, .int .i64 x.2.1, .int .i64 x.2.2.1, .int .i64 x.2.2.2]) (.agg #[.int .i64 y.1, .int .i64 y.2.1, .int .i64 y.2.2.1, .int .i64 y.2.2.2])).run Tryz.prog w= .ok (decide (x=y)) w:=by
 rw[←zS];exact qO _ _ _ _ _ _ _ _ w
end
section
open Go.RowKit Go.Shelf Go.Sort Go.Lib
attribute [local go_sem] Ext.cell Ext.frozen
theorem mf (d:Array Q4) (m:Nat):(compactUpTo d m).length≤m:=by
 unfold compactUpTo
 rw[List.length_map]
 exact Nat.le_trans (List.length_filter_le _ _) (by simp)
theorem nR:Tryz.prog.underlying 139=some (.slice 143):=by kernel_rfl
theorem be:Tryz.prog.underlying 65=some (.slice 69):=by kernel_rfl
set_option maxRecDepth 100000 in
theorem mg (d:Array Q4) (g n cap base:Nat) (w:World) (hd:d.size=n) (hn:n≤10000000) (h2:2≤n) (hown:w.ownsRow base 143 4 (.slice (some ⟨g,0,none⟩) n cap) n (d.toList.flatMap aH)):
  Calls Tryz.prog 182 #[.slice (some ⟨g,0,none⟩) n cap] w fun e w'=>e= .returned (.slice (some ⟨g,0,none⟩) (compactUpTo d n).length cap)∧w.grownBy w' (some g)∧
   w'.ownsRow base 143 4 (.slice (some ⟨g,0,none⟩) (compactUpTo d n).length cap) (compactUpTo d n).length ((compactUpTo d n).flatMap aH):=by
 obtain⟨sp,hrow,hbase,hcap,hnc,hsp⟩:=me d hown
 have HR:=Lib.hid hrow
 clear hown hrow
 go_enter Tryz.func182,Tryz.ntmps182
 go_wp2
 go_loopw [3] (fun i wr=>∃k:Nat,1≤k∧k≤n∧i= .int .i64 k∧w.grownBy wr (some g)∧Hid (RowQ wr g 143 d sp)∧Hid (∀j,j<k→keeps d j=true)) (fun i _=>n-(intOf i).toNat)
 case atStart=>exact⟨1,by omega,by omega,rfl,⟨rfl,rfl,rfl,Nat.le_refl _,fun _ _ _=>rfl⟩,HR,Lib.hid (keeps_lt_one d)⟩
 case round=>
  clear HR
  obtain⟨k,hk1,hk,rfl,hgr,HR,Ha⟩:=hrel
  by_cases hlt:k<n
  ·obtain⟨c0,c1,c2,c3⟩:=HR.out.get k (by omega)
   obtain⟨e0,e1,e2,e3⟩:=HR.out.get (k-1) (by omega)
   have zg:=ah HR.out
   obtain⟨x,Hx⟩:∃x,Hid (d[k]! =x):=⟨_,Lib.hid rfl⟩
   obtain⟨y,Hy⟩:∃y,Hid (d[k-1]! =y):=⟨_,Lib.hid rfl⟩
   rw[Hx.out]at c0 c1 c2 c3
   rw[Hy.out]at e0 e1 e2 e3
   have hq:=yA x y
   by_cases hxy:x=y
   ·have Hxy:=Lib.hid hxy
    rw[decide_eq_true hxy]at hq
    clear hxy
    go_wp2
    refine wqf fun u=> ?_
    have HR1:Hid (RowQ u.val g 143 d sp):=Lib.hid (HR.out.keep u.below)
    have hgr1:=cB hgr u.below
    clear c0 c1 c2 c3 e0 e1 e2 e3 hq HR hgr
    go_wp2
    go_loopw [3,5] (fun s3 s5 wr=>∃(kk k2:Nat) (dk:Array Q4),s3= .int .i64 kk∧s5= .int .i64 k2∧1≤k2∧k+k2≤n∧w.grownBy wr (some g)∧Hid (RowQ wr g 143 dk sp)∧Hid (CompInv d (k+k2) kk dk)) (fun _ i _=>n-(intOf i).toNat)
    case atStart=>exact⟨k,1,d,rfl,rfl,Nat.le_refl _,by omega,hgr1,HR1,Lib.hid (CompInv.start Ha.out (keeps_neg (by omega) (by rw[Hx.out,Hy.out];exact Hxy.out)))⟩
    case round=>
     clear HR1 hgr1
     obtain⟨kk,k2,dk,rfl,rfl,h1,hle,hgr,HR,HI⟩:=hrel
     have hkk:=HI.out.lt
     have hds:=HI.out.size
     have zg:=ah HR.out
     have fz:=HR.out.free
     by_cases hlt2:k+k2<n
     ·obtain⟨c0,c1,c2,c3⟩:=HR.out.get (k+k2) (by omega)
      obtain⟨e0,e1,e2,e3⟩:=HR.out.get (k+k2-1) (by omega)
      obtain⟨d0,d1,d2,d3⟩:=HR.out.get kk (by omega)
      rw[HI.out.high (k+k2) (by omega),show(k+k2)*4=k*4+k2*4 by omega]at c0 c1 c2 c3
      rw[HI.out.high (k+k2-1) (by omega),show(k+k2-1)*4=k*4+(k2-1)*4 by omega]at e0 e1 e2 e3
      obtain⟨x2,Hx2⟩:∃x,Hid (d[k+k2]! =x):=⟨_,Lib.hid rfl⟩
      obtain⟨y2,Hy2⟩:∃y,Hid (d[k+k2-1]! =y):=⟨_,Lib.hid rfl⟩
      rw[Hx2.out]at c0 c1 c2 c3
      rw[Hy2.out]at e0 e1 e2 e3
      have hq:=yA x2 y2
      have Hds:=Lib.hid hds
      clear hds
      by_cases hxy2:x2=y2
      ·have Hxy2:=Lib.hid hxy2
       rw[decide_eq_true hxy2]at hq
       clear hxy2
       go_wp2
       refine wqf fun u=> ?_
       have HR1:Hid (RowQ u.val g 143 dk sp):=Lib.hid (HR.out.keep u.below)
       have hgr1:=cB hgr u.below
       clear c0 c1 c2 c3 e0 e1 e2 e3 d0 d1 d2 d3 hq HR hgr
       go_wp2
       go_roundw
       case rel=>exact⟨kk,k2+1,dk,rfl,by go_num,by omega,by omega,hgr1,HR1,Lib.hid (HI.out.skip (keeps_neg (by omega) (by rw[Hx2.out,Hy2.out];exact Hxy2.out)))⟩
       case measure=>simp[intOf];omega
      ·have Hxy2:=Lib.hid hxy2
       rw[decide_eq_false hxy2]at hq
       clear hxy2
       go_wp2
       refine wqf fun u=> ?_
       have HR1:Hid (RowQ u.val g 143 dk sp):=Lib.hid (HR.out.keep u.below)
       have hgr1:=cB hgr u.below
       have zu:g<u.val.heap.size:=ah HR1.out
       go_wp2
       go_roundw
       case rel=>
        refine⟨kk+1,k2+1,dk.setIfInBounds kk x2,by go_num,by go_num,by omega,by omega,cV (cV (cV (cV hgr1 _ _) _ _) _ _) _ _,Lib.hid (HR1.out.set kk (by have:=Hds.out;omega) x2),Lib.hid ?_⟩
        have:=HI.out.keep (by omega) (keeps_pos (by rw[Hx2.out,Hy2.out];exact Hxy2.out))
        rw[Hx2.out]at this
        exact this
       case measure=>simp[intOf];omega
     ·have hend:k+k2=n:=by omega
      have hcl:∀ty,(Builtin.clear_ #[139] ty #[.slice (some ⟨g,kk*4,none⟩) (n-kk) (cap-kk)]).run Tryz.prog wr= .ok (.tuple #[]) (wr.setCells g (kk*4) (List.replicate ((n-kk)*4) (.int .i64 0))):=fun ty=>
       iX wr _ _ ty nR qM g (kk*4) _ _ (by omega) (fun j hj=>by
        rw[ag HR.out]
        have hl:(dk.toList.flatMap aH).length=n*4:=by rw[dH aH 4 cP];simp;omega
        have hlt:kk*4+j<(dk.toList.flatMap aH++sp).toArray.size:=by simp only[List.size_toArray,List.length_append,hl];omega
        rw[Array.getElem?_eq_getElem hlt];rfl) (fun j _=>fz _)
      have Hend:=Lib.hid hend
      have Hds:=Lib.hid hds
      clear hds hend fz
      go_wp2
      go_ret
      have hlen:(compactUpTo d n).length=kk:=by have:=HI.out.len;rwa [Hend.out]at this
      rw[hlen]
      refine⟨rfl,ee _ _ _ hgr, ?_⟩
      have hlow:compactUpTo d n=dk.toList.take kk:=by
       apply List.ext_getElem?
       intro i
       by_cases hi:i<kk
       ·have:=HI.out.low i hi
        rw[Hend.out]at this
        rw[this,List.getElem?_take_of_lt hi,Array.getElem?_toList,Array.getElem?_eq_getElem (by have:=Hds.out;omega),getElem!_pos _ i (by have:=Hds.out;omega)]
       ·rw[List.getElem?_eq_none (by omega),List.getElem?_eq_none (by simp;omega)]
      obtain⟨cur',hb',hs',hsame⟩:=ft g 143 (List.replicate ((n-kk)*4) (.int .i64 0)) (kk*4) wr _ HR.out
      have hown0:=gB (m:=kk) (n:=n) HR.out hbase hcap (by have:=Hds.out;omega) hsp (by omega)
      rw[hlow]
      refine⟨hown0.1, .inr ⟨g,cap,cur',rfl,hbase,hb',by omega,hcap, ?_, ?_⟩⟩
      ·rw[hs'];simp only[List.size_toArray,List.length_append];rw[dH aH 4 cP];simp;have:=Hds.out;omega
      ·rcases hown0.2 with⟨h0,_⟩|⟨g',cap',cur,hv,_,hh,_,_,_,ht⟩
       ·cases h0
       ·injection hv with h1 h2 h3
        injection h1 with h1
        injection h1 with h1
        subst h1
        rw[HR.out]at hh
        injection hh with hh
        injection hh with hh
        subst hh
        rw[←ht]
        apply List.ext_getElem?
        intro i
        by_cases hi:i<kk*4
        ·rw[List.getElem?_take_of_lt hi,List.getElem?_take_of_lt hi]
         simpa using hsame i hi
        ·rw[List.getElem?_eq_none (by simp;omega),List.getElem?_eq_none (by simp;omega)]
   ·have Hxy:=Lib.hid hxy
    rw[decide_eq_false hxy]at hq
    clear hxy
    go_wp2
    refine wqf fun u=> ?_
    have HR1:Hid (RowQ u.val g 143 d sp):=Lib.hid (HR.out.keep u.below)
    have hgr1:=cB hgr u.below
    clear c0 c1 c2 c3 e0 e1 e2 e3 hq HR hgr
    go_wp2
    go_roundw
    case rel=>exact⟨k+1,by omega,by omega,by go_num,hgr1,HR1,Lib.hid (fun j hj=>by
     by_cases e:j=k
     ·subst e;exact keeps_pos (by rw[Hx.out,Hy.out];exact Hxy.out)
     ·exact Ha.out j (by omega))⟩
    case measure=>simp[intOf];omega
  ·obtain rfl:k=n:=by omega
   go_wp2
   go_ret
   have e:compactUpTo d k=d.toList:=by rw[compactUpTo_all d _ Ha.out, ←hd,range_map_get]
   have hl:(compactUpTo d k).length=k:=by rw[e];simpa using hd
   rw[hl]
   refine⟨rfl,hgr, ?_⟩
   have:=gB (m:=k) HR.out hbase hcap hd hsp (Nat.le_refl _)
   rw[e]
   rwa [List.take_of_length_le (by simp[hd])]at this
set_option maxRecDepth 100000 in
theorem mQ (d:Array Q4) (g n cap base:Nat) (w:World) (hd:d.size=n) (hn:n≤10000000) (h2:2≤n) (hown:w.ownsRow base 69 4 (.slice (some ⟨g,0,none⟩) n cap) n (d.toList.flatMap aH)):
  Calls Tryz.prog 166 #[.slice (some ⟨g,0,none⟩) n cap] w fun e w'=>e= .returned (.slice (some ⟨g,0,none⟩) (compactUpTo d n).length cap)∧w.grownBy w' (some g)∧
   w'.ownsRow base 69 4 (.slice (some ⟨g,0,none⟩) (compactUpTo d n).length cap) (compactUpTo d n).length ((compactUpTo d n).flatMap aH):=by
 obtain⟨sp,hrow,hbase,hcap,hnc,hsp⟩:=me d hown
 have HR:=Lib.hid hrow
 clear hown hrow
 go_enter Tryz.func166,Tryz.ntmps166
 go_wp2
 go_loopw [3] (fun i wr=>∃k:Nat,1≤k∧k≤n∧i= .int .i64 k∧w.grownBy wr (some g)∧Hid (RowQ wr g 69 d sp)∧Hid (∀j,j<k→keeps d j=true)) (fun i _=>n-(intOf i).toNat)
 case atStart=>exact⟨1,by omega,by omega,rfl,⟨rfl,rfl,rfl,Nat.le_refl _,fun _ _ _=>rfl⟩,HR,Lib.hid (keeps_lt_one d)⟩
 case round=>
  clear HR
  obtain⟨k,hk1,hk,rfl,hgr,HR,Ha⟩:=hrel
  by_cases hlt:k<n
  ·obtain⟨c0,c1,c2,c3⟩:=HR.out.get k (by omega)
   obtain⟨e0,e1,e2,e3⟩:=HR.out.get (k-1) (by omega)
   have zg:=ah HR.out
   obtain⟨x,Hx⟩:∃x,Hid (d[k]! =x):=⟨_,Lib.hid rfl⟩
   obtain⟨y,Hy⟩:∃y,Hid (d[k-1]! =y):=⟨_,Lib.hid rfl⟩
   rw[Hx.out]at c0 c1 c2 c3
   rw[Hy.out]at e0 e1 e2 e3
   have hq:=nh x y
   by_cases hxy:x=y
   ·have Hxy:=Lib.hid hxy
    rw[decide_eq_true hxy]at hq
    clear hxy
    go_wp2
    refine wqf fun u=> ?_
    have HR1:Hid (RowQ u.val g 69 d sp):=Lib.hid (HR.out.keep u.below)
    have hgr1:=cB hgr u.below
    clear c0 c1 c2 c3 e0 e1 e2 e3 hq HR hgr
    go_wp2
    go_loopw [3,5] (fun s3 s5 wr=>∃(kk k2:Nat) (dk:Array Q4),s3= .int .i64 kk∧s5= .int .i64 k2∧1≤k2∧k+k2≤n∧w.grownBy wr (some g)∧Hid (RowQ wr g 69 dk sp)∧Hid (CompInv d (k+k2) kk dk)) (fun _ i _=>n-(intOf i).toNat)
    case atStart=>exact⟨k,1,d,rfl,rfl,Nat.le_refl _,by omega,hgr1,HR1,Lib.hid (CompInv.start Ha.out (keeps_neg (by omega) (by rw[Hx.out,Hy.out];exact Hxy.out)))⟩
    case round=>
     clear HR1 hgr1
     obtain⟨kk,k2,dk,rfl,rfl,h1,hle,hgr,HR,HI⟩:=hrel
     have hkk:=HI.out.lt
     have hds:=HI.out.size
     have zg:=ah HR.out
     have fz:=HR.out.free
     by_cases hlt2:k+k2<n
     ·obtain⟨c0,c1,c2,c3⟩:=HR.out.get (k+k2) (by omega)
      obtain⟨e0,e1,e2,e3⟩:=HR.out.get (k+k2-1) (by omega)
      obtain⟨d0,d1,d2,d3⟩:=HR.out.get kk (by omega)
      rw[HI.out.high (k+k2) (by omega),show(k+k2)*4=k*4+k2*4 by omega]at c0 c1 c2 c3
      rw[HI.out.high (k+k2-1) (by omega),show(k+k2-1)*4=k*4+(k2-1)*4 by omega]at e0 e1 e2 e3
      obtain⟨x2,Hx2⟩:∃x,Hid (d[k+k2]! =x):=⟨_,Lib.hid rfl⟩
      obtain⟨y2,Hy2⟩:∃y,Hid (d[k+k2-1]! =y):=⟨_,Lib.hid rfl⟩
      rw[Hx2.out]at c0 c1 c2 c3
      rw[Hy2.out]at e0 e1 e2 e3
      have hq:=nh x2 y2
      have Hds:=Lib.hid hds
      clear hds
      by_cases hxy2:x2=y2
      ·have Hxy2:=Lib.hid hxy2
       rw[decide_eq_true hxy2]at hq
       clear hxy2
       go_wp2
       refine wqf fun u=> ?_
       have HR1:Hid (RowQ u.val g 69 dk sp):=Lib.hid (HR.out.keep u.below)
       have hgr1:=cB hgr u.below
       clear c0 c1 c2 c3 e0 e1 e2 e3 d0 d1 d2 d3 hq HR hgr
       go_wp2
       go_roundw
       case rel=>exact⟨kk,k2+1,dk,rfl,by go_num,by omega,by omega,hgr1,HR1,Lib.hid (HI.out.skip (keeps_neg (by omega) (by rw[Hx2.out,Hy2.out];exact Hxy2.out)))⟩
       case measure=>simp[intOf];omega
      ·have Hxy2:=Lib.hid hxy2
       rw[decide_eq_false hxy2]at hq
       clear hxy2
       go_wp2
       refine wqf fun u=> ?_
       have HR1:Hid (RowQ u.val g 69 dk sp):=Lib.hid (HR.out.keep u.below)
       have hgr1:=cB hgr u.below
       have zu:g<u.val.heap.size:=ah HR1.out
       go_wp2
       go_roundw
       case rel=>
        refine⟨kk+1,k2+1,dk.setIfInBounds kk x2,by go_num,by go_num,by omega,by omega,cV (cV (cV (cV hgr1 _ _) _ _) _ _) _ _,Lib.hid (HR1.out.set kk (by have:=Hds.out;omega) x2),Lib.hid ?_⟩
        have:=HI.out.keep (by omega) (keeps_pos (by rw[Hx2.out,Hy2.out];exact Hxy2.out))
        rw[Hx2.out]at this
        exact this
       case measure=>simp[intOf];omega
     ·have hend:k+k2=n:=by omega
      have hcl:∀ty,(Builtin.clear_ #[65] ty #[.slice (some ⟨g,kk*4,none⟩) (n-kk) (cap-kk)]).run Tryz.prog wr= .ok (.tuple #[]) (wr.setCells g (kk*4) (List.replicate ((n-kk)*4) (.int .i64 0))):=fun ty=>
       iX wr _ _ ty be nd g (kk*4) _ _ (by omega) (fun j hj=>by
        rw[ag HR.out]
        have hl:(dk.toList.flatMap aH).length=n*4:=by rw[dH aH 4 cP];simp;omega
        have hlt:kk*4+j<(dk.toList.flatMap aH++sp).toArray.size:=by simp only[List.size_toArray,List.length_append,hl];omega
        rw[Array.getElem?_eq_getElem hlt];rfl) (fun j _=>fz _)
      have Hend:=Lib.hid hend
      have Hds:=Lib.hid hds
      clear hds hend fz
      go_wp2
      go_ret
      have hlen:(compactUpTo d n).length=kk:=by have:=HI.out.len;rwa [Hend.out]at this
      rw[hlen]
      refine⟨rfl,ee _ _ _ hgr, ?_⟩
      have hlow:compactUpTo d n=dk.toList.take kk:=by
       apply List.ext_getElem?
       intro i
       by_cases hi:i<kk
       ·have:=HI.out.low i hi
        rw[Hend.out]at this
        rw[this,List.getElem?_take_of_lt hi,Array.getElem?_toList,Array.getElem?_eq_getElem (by have:=Hds.out;omega),getElem!_pos _ i (by have:=Hds.out;omega)]
       ·rw[List.getElem?_eq_none (by omega),List.getElem?_eq_none (by simp;omega)]
      obtain⟨cur',hb',hs',hsame⟩:=ft g 69 (List.replicate ((n-kk)*4) (.int .i64 0)) (kk*4) wr _ HR.out
      have hown0:=gB (m:=kk) (n:=n) HR.out hbase hcap (by have:=Hds.out;omega) hsp (by omega)
      rw[hlow]
      refine⟨hown0.1, .inr ⟨g,cap,cur',rfl,hbase,hb',by omega,hcap, ?_, ?_⟩⟩
      ·rw[hs'];simp only[List.size_toArray,List.length_append];rw[dH aH 4 cP];simp;have:=Hds.out;omega
      ·rcases hown0.2 with⟨h0,_⟩|⟨g',cap',cur,hv,_,hh,_,_,_,ht⟩
       ·cases h0
       ·injection hv with h1 h2 h3
        injection h1 with h1
        injection h1 with h1
        subst h1
        rw[HR.out]at hh
        injection hh with hh
        injection hh with hh
        subst hh
        rw[←ht]
        apply List.ext_getElem?
        intro i
        by_cases hi:i<kk*4
        ·rw[List.getElem?_take_of_lt hi,List.getElem?_take_of_lt hi]
         simpa using hsame i hi
        ·rw[List.getElem?_eq_none (by simp;omega),List.getElem?_eq_none (by simp;omega)]
   ·have Hxy:=Lib.hid hxy
    rw[decide_eq_false hxy]at hq
    clear hxy
    go_wp2
    refine wqf fun u=> ?_
    have HR1:Hid (RowQ u.val g 69 d sp):=Lib.hid (HR.out.keep u.below)
    have hgr1:=cB hgr u.below
    clear c0 c1 c2 c3 e0 e1 e2 e3 hq HR hgr
    go_wp2
    go_roundw
    case rel=>exact⟨k+1,by omega,by omega,by go_num,hgr1,HR1,Lib.hid (fun j hj=>by
     by_cases e:j=k
     ·subst e;exact keeps_pos (by rw[Hx.out,Hy.out];exact Hxy.out)
     ·exact Ha.out j (by omega))⟩
    case measure=>simp[intOf];omega
  ·obtain rfl:k=n:=by omega
   go_wp2
   go_ret
   have e:compactUpTo d k=d.toList:=by rw[compactUpTo_all d _ Ha.out, ←hd,range_map_get]
   have hl:(compactUpTo d k).length=k:=by rw[e];simpa using hd
   rw[hl]
   refine⟨rfl,hgr, ?_⟩
   have:=gB (m:=k) HR.out hbase hcap hd hsp (Nat.le_refl _)
   rw[e]
   rwa [List.take_of_length_le (by simp[hd])]at this
theorem qP:Tryz.prog.underlying 104=some (.slice 69):=by kernel_rfl
set_option maxRecDepth 100000 in
theorem nS (d:Array Q4) (g n cap base:Nat) (w:World) (hd:d.size=n) (hn:n≤10000000) (h2:2≤n) (hown:w.ownsRow base 69 4 (.slice (some ⟨g,0,none⟩) n cap) n (d.toList.flatMap aH)):
  Calls Tryz.prog 74 #[.slice (some ⟨g,0,none⟩) n cap] w fun e w'=>e= .returned (.slice (some ⟨g,0,none⟩) (compactUpTo d n).length cap)∧w.grownBy w' (some g)∧
   w'.ownsRow base 69 4 (.slice (some ⟨g,0,none⟩) (compactUpTo d n).length cap) (compactUpTo d n).length ((compactUpTo d n).flatMap aH):=by
 obtain⟨sp,hrow,hbase,hcap,hnc,hsp⟩:=me d hown
 have HR:=Lib.hid hrow
 clear hown hrow
 go_enter Tryz.func74,Tryz.ntmps74
 go_wp2
 go_loopw [3] (fun i wr=>∃k:Nat,1≤k∧k≤n∧i= .int .i64 k∧w.grownBy wr (some g)∧Hid (RowQ wr g 69 d sp)∧Hid (∀j,j<k→keeps d j=true)) (fun i _=>n-(intOf i).toNat)
 case atStart=>exact⟨1,by omega,by omega,rfl,⟨rfl,rfl,rfl,Nat.le_refl _,fun _ _ _=>rfl⟩,HR,Lib.hid (keeps_lt_one d)⟩
 case round=>
  clear HR
  obtain⟨k,hk1,hk,rfl,hgr,HR,Ha⟩:=hrel
  by_cases hlt:k<n
  ·obtain⟨c0,c1,c2,c3⟩:=HR.out.get k (by omega)
   obtain⟨e0,e1,e2,e3⟩:=HR.out.get (k-1) (by omega)
   have zg:=ah HR.out
   obtain⟨x,Hx⟩:∃x,Hid (d[k]! =x):=⟨_,Lib.hid rfl⟩
   obtain⟨y,Hy⟩:∃y,Hid (d[k-1]! =y):=⟨_,Lib.hid rfl⟩
   rw[Hx.out]at c0 c1 c2 c3
   rw[Hy.out]at e0 e1 e2 e3
   have hq:=nh x y
   by_cases hxy:x=y
   ·have Hxy:=Lib.hid hxy
    rw[decide_eq_true hxy]at hq
    clear hxy
    go_wp2
    refine wqf fun u=> ?_
    have HR1:Hid (RowQ u.val g 69 d sp):=Lib.hid (HR.out.keep u.below)
    have hgr1:=cB hgr u.below
    clear c0 c1 c2 c3 e0 e1 e2 e3 hq HR hgr
    go_wp2
    go_loopw [3,5] (fun s3 s5 wr=>∃(kk k2:Nat) (dk:Array Q4),s3= .int .i64 kk∧s5= .int .i64 k2∧1≤k2∧k+k2≤n∧w.grownBy wr (some g)∧Hid (RowQ wr g 69 dk sp)∧Hid (CompInv d (k+k2) kk dk)) (fun _ i _=>n-(intOf i).toNat)
    case atStart=>exact⟨k,1,d,rfl,rfl,Nat.le_refl _,by omega,hgr1,HR1,Lib.hid (CompInv.start Ha.out (keeps_neg (by omega) (by rw[Hx.out,Hy.out];exact Hxy.out)))⟩
    case round=>
     clear HR1 hgr1
     obtain⟨kk,k2,dk,rfl,rfl,h1,hle,hgr,HR,HI⟩:=hrel
     have hkk:=HI.out.lt
     have hds:=HI.out.size
     have zg:=ah HR.out
     have fz:=HR.out.free
     by_cases hlt2:k+k2<n
     ·obtain⟨c0,c1,c2,c3⟩:=HR.out.get (k+k2) (by omega)
      obtain⟨e0,e1,e2,e3⟩:=HR.out.get (k+k2-1) (by omega)
      obtain⟨d0,d1,d2,d3⟩:=HR.out.get kk (by omega)
      rw[HI.out.high (k+k2) (by omega),show(k+k2)*4=k*4+k2*4 by omega]at c0 c1 c2 c3
      rw[HI.out.high (k+k2-1) (by omega),show(k+k2-1)*4=k*4+(k2-1)*4 by omega]at e0 e1 e2 e3
      obtain⟨x2,Hx2⟩:∃x,Hid (d[k+k2]! =x):=⟨_,Lib.hid rfl⟩
      obtain⟨y2,Hy2⟩:∃y,Hid (d[k+k2-1]! =y):=⟨_,Lib.hid rfl⟩
      rw[Hx2.out]at c0 c1 c2 c3
      rw[Hy2.out]at e0 e1 e2 e3
      have hq:=nh x2 y2
      have Hds:=Lib.hid hds
      clear hds
      by_cases hxy2:x2=y2
      ·have Hxy2:=Lib.hid hxy2
       rw[decide_eq_true hxy2]at hq
       clear hxy2
       go_wp2
       refine wqf fun u=> ?_
       have HR1:Hid (RowQ u.val g 69 dk sp):=Lib.hid (HR.out.keep u.below)
       have hgr1:=cB hgr u.below
       clear c0 c1 c2 c3 e0 e1 e2 e3 d0 d1 d2 d3 hq HR hgr
       go_wp2
       go_roundw
       case rel=>exact⟨kk,k2+1,dk,rfl,by go_num,by omega,by omega,hgr1,HR1,Lib.hid (HI.out.skip (keeps_neg (by omega) (by rw[Hx2.out,Hy2.out];exact Hxy2.out)))⟩
       case measure=>simp[intOf];omega
      ·have Hxy2:=Lib.hid hxy2
       rw[decide_eq_false hxy2]at hq
       clear hxy2
       go_wp2
       refine wqf fun u=> ?_
       have HR1:Hid (RowQ u.val g 69 dk sp):=Lib.hid (HR.out.keep u.below)
       have hgr1:=cB hgr u.below
       have zu:g<u.val.heap.size:=ah HR1.out
       go_wp2
       go_roundw
       case rel=>
        refine⟨kk+1,k2+1,dk.setIfInBounds kk x2,by go_num,by go_num,by omega,by omega,cV (cV (cV (cV hgr1 _ _) _ _) _ _) _ _,Lib.hid (HR1.out.set kk (by have:=Hds.out;omega) x2),Lib.hid ?_⟩
        have:=HI.out.keep (by omega) (keeps_pos (by rw[Hx2.out,Hy2.out];exact Hxy2.out))
        rw[Hx2.out]at this
        exact this
       case measure=>simp[intOf];omega
     ·have hend:k+k2=n:=by omega
      have hcl:∀ty,(Builtin.clear_ #[104] ty #[.slice (some ⟨g,kk*4,none⟩) (n-kk) (cap-kk)]).run Tryz.prog wr= .ok (.tuple #[]) (wr.setCells g (kk*4) (List.replicate ((n-kk)*4) (.int .i64 0))):=fun ty=>
       iX wr _ _ ty qP nd g (kk*4) _ _ (by omega) (fun j hj=>by
        rw[ag HR.out]
        have hl:(dk.toList.flatMap aH).length=n*4:=by rw[dH aH 4 cP];simp;omega
        have hlt:kk*4+j<(dk.toList.flatMap aH++sp).toArray.size:=by simp only[List.size_toArray,List.length_append,hl];omega
        rw[Array.getElem?_eq_getElem hlt];rfl) (fun j _=>fz _)
      have Hend:=Lib.hid hend
      have Hds:=Lib.hid hds
      clear hds hend fz
      go_wp2
      go_ret
      have hlen:(compactUpTo d n).length=kk:=by have:=HI.out.len;rwa [Hend.out]at this
      rw[hlen]
      refine⟨rfl,ee _ _ _ hgr, ?_⟩
      have hlow:compactUpTo d n=dk.toList.take kk:=by
       apply List.ext_getElem?
       intro i
       by_cases hi:i<kk
       ·have:=HI.out.low i hi
        rw[Hend.out]at this
        rw[this,List.getElem?_take_of_lt hi,Array.getElem?_toList,Array.getElem?_eq_getElem (by have:=Hds.out;omega),getElem!_pos _ i (by have:=Hds.out;omega)]
       ·rw[List.getElem?_eq_none (by omega),List.getElem?_eq_none (by simp;omega)]
      obtain⟨cur',hb',hs',hsame⟩:=ft g 69 (List.replicate ((n-kk)*4) (.int .i64 0)) (kk*4) wr _ HR.out
      have hown0:=gB (m:=kk) (n:=n) HR.out hbase hcap (by have:=Hds.out;omega) hsp (by omega)
      rw[hlow]
      refine⟨hown0.1, .inr ⟨g,cap,cur',rfl,hbase,hb',by omega,hcap, ?_, ?_⟩⟩
      ·rw[hs'];simp only[List.size_toArray,List.length_append];rw[dH aH 4 cP];simp;have:=Hds.out;omega
      ·rcases hown0.2 with⟨h0,_⟩|⟨g',cap',cur,hv,_,hh,_,_,_,ht⟩
       ·cases h0
       ·injection hv with h1 h2 h3
        injection h1 with h1
        injection h1 with h1
        subst h1
        rw[HR.out]at hh
        injection hh with hh
        injection hh with hh
        subst hh
        rw[←ht]
        apply List.ext_getElem?
        intro i
        by_cases hi:i<kk*4
        ·rw[List.getElem?_take_of_lt hi,List.getElem?_take_of_lt hi]
         simpa using hsame i hi
        ·rw[List.getElem?_eq_none (by simp;omega),List.getElem?_eq_none (by simp;omega)]
   ·have Hxy:=Lib.hid hxy
    rw[decide_eq_false hxy]at hq
    clear hxy
    go_wp2
    refine wqf fun u=> ?_
    have HR1:Hid (RowQ u.val g 69 d sp):=Lib.hid (HR.out.keep u.below)
    have hgr1:=cB hgr u.below
    clear c0 c1 c2 c3 e0 e1 e2 e3 hq HR hgr
    go_wp2
    go_roundw
    case rel=>exact⟨k+1,by omega,by omega,by go_num,hgr1,HR1,Lib.hid (fun j hj=>by
     by_cases e:j=k
     ·subst e;exact keeps_pos (by rw[Hx.out,Hy.out];exact Hxy.out)
     ·exact Ha.out j (by omega))⟩
    case measure=>simp[intOf];omega
  ·obtain rfl:k=n:=by omega
   go_wp2
   go_ret
   have e:compactUpTo d k=d.toList:=by rw[compactUpTo_all d _ Ha.out, ←hd,range_map_get]
   have hl:(compactUpTo d k).length=k:=by rw[e];simpa using hd
   rw[hl]
   refine⟨rfl,hgr, ?_⟩
   have:=gB (m:=k) HR.out hbase hcap hd hsp (Nat.le_refl _)
   rw[e]
   rwa [List.take_of_length_le (by simp[hd])]at this
theorem ig (a:Option Addr) (n c:Nat) (w:World) (h:n<2):Calls Tryz.prog 182 #[.slice a n c] w fun e w'=>e= .returned (.slice a n c)∧w=w':=by
 go_enter Tryz.func182,Tryz.ntmps182
 go_wp2
 go_ret
 exact⟨rfl,rfl⟩
theorem iK (a:Option Addr) (n c:Nat) (w:World) (h:n<2):Calls Tryz.prog 166 #[.slice a n c] w fun e w'=>e= .returned (.slice a n c)∧w=w':=by
 go_enter Tryz.func166,Tryz.ntmps166
 go_wp2
 go_ret
 exact⟨rfl,rfl⟩
theorem iY (a:Option Addr) (n c:Nat) (w:World) (h:n<2):Calls Tryz.prog 74 #[.slice a n c] w fun e w'=>e= .returned (.slice a n c)∧w=w':=by
 go_enter Tryz.func74,Tryz.ntmps74
 go_wp2
 go_ret
 exact⟨rfl,rfl⟩
end
section
open Go.RowKit Go.Shelf Go.Sort Go.Lib
theorem sU (a b c d:Int):aU [-a, -b, -c, -d]=aU [a,b,c,d]:=by simp[aU]
theorem ph (a b c d:Int) (hp:0<aU [a,b,c,d]):aU [a / aU [a,b,c,d],b / aU [a,b,c,d],c / aU [a,b,c,d],d / aU [a,b,c,d]]=1:=by
 have key:∀x∈[a,b,c,d],x=(aU [a,b,c,d]:Int)*(x / aU [a,b,c,d]):=fun x hx=>(Int.mul_ediv_cancel' (aY _ x hx)).symm
 have h1:aU [a / aU [a,b,c,d],b / aU [a,b,c,d],c / aU [a,b,c,d],d / aU [a,b,c,d]]*aU [a,b,c,d] ∣ aU [a,b,c,d]:=by
  apply pb
  intro x hx
  rw[key x hx,Int.natCast_mul,Int.mul_comm]
  apply Int.mul_dvd_mul_left
  simp only[List.mem_cons,List.not_mem_nil,or_false]at hx
  apply aY
  rcases hx with rfl|rfl|rfl|rfl<;>simp
 obtain⟨k,hk⟩:=h1
 have h2:aU [a,b,c,d]*1=aU [a,b,c,d]*(aU [a / aU [a,b,c,d],b / aU [a,b,c,d],c / aU [a,b,c,d],d / aU [a,b,c,d]]*k):=by
  rw[Nat.mul_one, ←Nat.mul_assoc,Nat.mul_comm (aU [a,b,c,d]) (aU [_,_,_,_])];exact hk
 have h3:=Nat.eq_of_mul_eq_mul_left hp h2
 exact Nat.eq_one_of_mul_eq_one_right h3.symm
theorem uV (a b c den:Int) (ha: -10000000000≤a∧a≤10000000000) (hb: -10000000000≤b∧b≤10000000000) (hc: -10000000000≤c∧c≤10000000000)
  (hd: -1000000≤den∧den≤1000000) (h0:den≠0):dI (eu a b c den):=by
 refine⟨sh a b c den ha hb hc hd h0, ?_⟩
 have hp:=gj a b c den h0
 unfold eu
 split
 ·exact(sU _ _ _ _).trans (ph a b c den hp)
 ·exact ph a b c den hp
theorem sV (p q r:Q4) (den:Int) (hp:bI p) (hq:bI q) (hr:bI r) (hd: -1000000≤den∧den≤1000000) (h0:den≠0):dI (dv p q r den):=by
 simp only[bI]at hp hq hr
 refine uV _ _ _ _ ?_ ?_ ?_ hd h0
 ·exact iA hp.2.2.2 hq.2.2.2 hr.2.2.2 (aL hq.2.1 hq.2.2.1 hr.2.1 hr.2.2.1) (aL hr.2.1 hr.2.2.1 hp.2.1 hp.2.2.1) (aL hp.2.1 hp.2.2.1 hq.2.1 hq.2.2.1)
 ·exact iA hp.2.2.2 hq.2.2.2 hr.2.2.2 (aL hq.2.2.1 hq.1 hr.2.2.1 hr.1) (aL hr.2.2.1 hr.1 hp.2.2.1 hp.1) (aL hp.2.2.1 hp.1 hq.2.2.1 hq.1)
 ·exact iA hp.2.2.2 hq.2.2.2 hr.2.2.2 (aL hq.1 hq.2.1 hr.1 hr.2.1) (aL hr.1 hr.2.1 hp.1 hp.2.1) (aL hp.1 hp.2.1 hq.1 hq.2.1)
theorem iD (ps:List Q4) (h:∀p∈ps,bI p) (n:Nat) (hn:n≤ps.length):∀c∈raw ps n,dI c:=by
 intro c hc
 simp only[raw,gJ,gI,List.mem_flatMap,List.mem_range]at hc
 obtain⟨i,hi,k,hk,m,hm,hc⟩:=hc
 unfold jo at hc
 split at hc
 ·cases hc
 ·rename_i h0
  split at hc
  ·rw[List.mem_singleton]at hc
   subst hc
   have b:=lV _ _ _ (dN h i (by omega)) (dN h k (by omega)) (dN h m (by omega))
   exact sV _ _ _ _ (dN h i (by omega)) (dN h k (by omega)) (dN h m (by omega)) (by omega) h0
  ·cases hc
def aS (ps:List Q4):List Q4:=Lib.compact (ed (raw ps ps.length))
theorem ni (cs:List Q4):(ed cs).length=cs.length:=by simp[ed]
theorem uW (cs:List Q4) (hcs:∀c∈cs,dI c) (base n:Nat) (cv:Value) (w:World) (hn:cs.length=n) (hs:n<4611686018427387904)
  (hown:w.ownsRow base 143 4 cv n (cs.flatMap aH)):
  Calls Tryz.prog 180 #[cv, .func (.func 181) #[] #[]] w fun e w'=>
   e= .returned (.tuple #[])∧w'.ownsRow base 143 4 cv n ((ed cs).flatMap aH)∧w.grownBy w' cv.ownBlock:=by
 by_cases h0:0<n
 ·obtain⟨g,cap,rfl,_,_⟩:=fF hown h0
  exact pf cs hcs base g n cap w hn hs hown
 ·obtain rfl:n=0:=by omega
  have hnil:cs=[]:=List.length_eq_zero_iff.1 hn
  subst hnil
  have hf:∃a cap,cv= .slice a 0 cap:=by
   rcases hown.2 with⟨rfl,_⟩|⟨g,cap,cur,rfl,_⟩
   ·exact⟨_,_,rfl⟩
   ·exact⟨_,_,rfl⟩
  obtain⟨a,cap,rfl⟩:=hf
  refine Calls.mono (show Calls Tryz.prog 180 _ _ _ from AnyF.slices_SortFunc_none Tryz.sortCorner a cap _ w) ?_
  rintro e w' ⟨rfl,rfl⟩
  exact⟨rfl,by simpa [ed]using hown,⟨rfl,rfl,rfl,Nat.le_refl _,fun _ _ _=>rfl⟩⟩
theorem pi (cs:List Q4) (base n:Nat) (cv:Value) (w:World) (hn:cs.length=n) (hs:n≤10000000) (hown:w.ownsRow base 143 4 cv n (cs.flatMap aH)):
  Calls Tryz.prog 182 #[cv] w fun e w'=>∃cv',e= .returned cv'∧w.grownBy w' cv.ownBlock∧(∃a m c,cv'= .slice a m c)∧
   w'.ownsRow base 143 4 cv' (Lib.compact cs).length ((Lib.compact cs).flatMap aH):=by
 by_cases h2:2≤n
 ·obtain⟨g,cap,rfl,_,_⟩:=fF hown (by omega)
  refine(mg cs.toArray g n cap base w (by simpa using hn) hs h2 (by simpa using hown)).mono ?_
  rintro e w' ⟨rfl,hg,ho⟩
  have e:compactUpTo cs.toArray n=Lib.compact cs:=by unfold Lib.compact;rw[hn]
  rw[e]at ho ⊢
  exact⟨_,rfl,hg,⟨_,_,_,rfl⟩,ho⟩
 ·have hf:∃a cap,cv= .slice a n cap:=by
   rcases hown.2 with⟨rfl,h⟩|⟨g,cap,cur,rfl,_⟩
   ·exact⟨_,_,by rw[h]⟩
   ·exact⟨_,_,rfl⟩
  obtain⟨a,cap,rfl⟩:=hf
  refine(ig a n cap w (by omega)).mono ?_
  rintro e w' ⟨rfl,rfl⟩
  have e:Lib.compact cs=cs:=compact_all cs (fun j hj=>keeps_lt_one _ j (by omega))
  rw[e,hn]
  exact⟨_,rfl,⟨rfl,rfl,rfl,Nat.le_refl _,fun _ _ _=>rfl⟩,⟨_,_,_,rfl⟩,hown⟩
theorem dV {w:World} {base:Nat} {T:TypeId} {v:Value} {cs:List Q4} (h:w.ownsRow base T 4 v cs.length (cs.flatMap aH)):Q4s w v cs:=by
 rcases h.2 with⟨rfl,h0⟩|⟨g,cap,cur,rfl,hb,hh,hc,hm,hcs,ht⟩
 ·exact⟨none,0,0,rfl,h0,Nat.le_refl _,fun h=>absurd h (by omega)⟩
 ·refine⟨some ⟨g,0,none⟩,cs.length,cap,rfl,rfl,hc,fun _=>⟨g,0,rfl,fun i hi=> ?_⟩⟩
  have key:∀j,j<4→w.cell? ⟨g,i*4+j,none⟩=(aH cs[i])[j]? :=fun j hj=>by
   rw[ag hh, ←eQ aH 4 cP cs i hi j hj, ←ht,List.getElem?_take_of_lt (by omega),Array.getElem?_toList]
  simp only[Nat.zero_add]
  exact⟨key 0 (by omega),key 1 (by omega),key 2 (by omega),key 3 (by omega)⟩
end
section
open Go.RowKit Go.Shelf
attribute [local go_sem] Ext.cell Ext.frozen
set_option maxRecDepth 100000
def BSt (w:World) (pv:Value) (cs:List Q4) (wr:World):Prop:=
 Below w.heap.size w wr∧wr.heap[w.heap.size]? =some (.cells #[.slice none 0 0, .slice none 0 0] 160 (0,0))∧
 ∃cv,wr.heap[w.heap.size+1]? =some (.cells #[pv,cv] 160 (0,0))∧wr.ownsRow (w.heap.size+2) 143 4 cv cs.length (cs.flatMap aH)
theorem BSt.keep {w:World} {pv:Value} {cs:List Q4} {wr w':World} (h:BSt w pv cs wr) (hb:Below wr.heap.size wr w'):BSt w pv cs w':=by
 obtain⟨h1,h2,cv,h3,h4⟩:=h
 exact⟨ae h1 hb,(hb.block _ (ah h2)).trans h2,cv,(hb.block _ (ah h3)).trans h3,au h4 hb⟩
theorem BSt.size {w:World} {pv:Value} {cs:List Q4} {wr:World} (h:BSt w pv cs wr):w.heap.size+2≤wr.heap.size:=by
 obtain⟨_,_,cv,h3,_⟩:=h
 have:=ah h3;omega
theorem pj {w w':World} {bb base g:Nat} {cv:Value} {n:Nat} {xs:List Value} {cs:Array Value} {t:TypeId} (h:Kept2 w w' bb cv.ownBlock) (hown:w.ownsRow base 143 4 cv n xs)
  (hg:w.heap[g]? =some (.cells cs t (0,0))) (hne:g≠bb) (ht:143≠t):w'.heap[g]? =some (.cells cs t (0,0)):=
 (h.block g (ah hg) hne (fun e=>aG hown hg ht e.symm)).trans hg
theorem xx (ps:List Q4) (c:Q4) (pv:Value) (cs:List Q4) (w wr:World) (hps:∀p∈ps,bI p) (hc:fD c) (hl:ps.length≤64) (hn:cs.length≤1000000) (hpv:Q4s w pv ps) (h:BSt w pv cs wr):
  Calls Tryz.prog 178 #[.pointer (some ⟨w.heap.size+1,0,none⟩),v4 c] wr fun e w'=>e= .returned (.tuple #[])∧BSt w pv (cs++if bG ps c then [c]else []) w'∧wr.heap.size≤w'.heap.size∧
   ∀g cells t,w.heap.size+1<g→143≠t→wr.heap[g]? =some (.cells cells t (0,0))→w'.heap[g]? =some (.cells cells t (0,0)):=by
 obtain⟨h1,h2,cv,h3,h4⟩:=h
 have hz:=ah h3
 cases ha:bG ps c with
 |true=>
  refine(xl ps c pv cv _ _ _ _ wr hps hc (by omega) hn h3 (hpv.below h1) h4 (by omega) ha).mono ?_
  rintro e w' ⟨rfl,hk,cv',hb',ho'⟩
  refine⟨rfl,⟨h1.trans (hk.below (by omega) (by omega) (fun k hk=> ?_)),pj hk h4 h2 (by omega) (by decide),cv',hb', ?_⟩,hk.size,fun g cells t hg ht hgb=>pj hk h4 hgb (by omega) ht⟩
  ·obtain⟨h,_⟩:=h4.lt k hk;omega
  ·simpa [aH]using ho'
 |false=>
  refine(yF ps c pv cv _ wr hps hc (by omega) h3 (hpv.below h1) ha).mono ?_
  rintro e w' ⟨rfl,hk⟩
  refine⟨rfl, ?_,hk.size,fun g cells t hg ht hgb=>(hk.block g (ah hgb)).trans hgb⟩
  simpa using(show BSt w pv cs wr from⟨h1,h2,cv,h3,h4⟩).keep hk
theorem qQ (ps:List Q4) (pv:Value) (w:World) (hps:∀p∈ps,bI p) (hl:ps.length≤64) (hpv:Q4s w pv ps):
  Calls Tryz.prog 158 #[pv] w fun e w'=>∃cv,e= .returned (.agg #[pv,cv])∧Below w.heap.size w w'∧w'.ownsRow (w.heap.size+2) 143 4 cv (aS ps).length ((aS ps).flatMap aH):=by
 have Hco:Hid (aS ps=Lib.compact (ed (raw ps ps.length))):=Lib.hid rfl
 generalize aS ps=co at*
 obtain⟨a,n,cc,rfl,hn,hnc,hx⟩:=hpv
 have HPV:Hid (Q4s w (.slice a n cc) ps):=Lib.hid ⟨a,n,cc,rfl,hn,hnc,hx⟩
 have HPS:=Lib.hid hps
 clear hps
 go_enter Tryz.func158,Tryz.ntmps158
 go_wp2
 go_loopw [16] (fun i wr=>∃k:Nat,k≤n∧i= .int .i64 k∧BSt w (.slice a n cc) (raw ps k) wr) (fun i _=>n-(intOf i).toNat)
 case atStart=>exact⟨0,by omega,rfl,bel,(aB (by simp)).trans (ai rfl),_,ai (by simp),World.ownsRow_nil _ _ _ _⟩
 case round=>
  obtain⟨k,hk,rfl,hst⟩:=hrel
  by_cases hlt:k<n
  ·obtain⟨b,off,rfl,hi⟩:=hx (by omega)
   obtain⟨c0,c1,c2,c3⟩:=(hi.below hst.1) k (by omega)
   have Hok:=Lib.hid (dN HPS.out k (by omega))
   rw[eN k (by omega)]at c0 c1 c2 c3
   obtain⟨P,HP⟩:∃P,Hid (bm ps k=P):=⟨_,Lib.hid rfl⟩
   rw[HP.out]at c0 c1 c2 c3 Hok
   have Hst:=Lib.hid hst
   clear hx hst
   obtain⟨wo,rfl⟩:∃wo:World,wo=wr:=⟨_,rfl⟩
   have HI:=Lib.hid hi
   clear hi
   go_wp2
   go_loopw [25] (fun i wr=>∃j:Nat,j≤k∧i= .int .i64 j∧BSt w (.slice (some ⟨b,off,none⟩) n cc) (raw ps k++gJ ps k j) wr∧Hid (wr.heap[wo.heap.size]? =some (.cells #[.int .i64 P.1, .int .i64 P.2.1, .int .i64 P.2.2.1, .int .i64 P.2.2.2] 69 (0,0)))) (fun i _=>k-(intOf i).toNat)
   case atStart=>exact⟨0,by omega,rfl,by simpa [kd]using Hst.out.keep bel,Lib.hid (ai rfl)⟩
   case round=>
    have zo:=Hst.out.size
    clear Hst c0 c1 c2 c3
    obtain⟨j,hj,rfl,hst,HPb⟩:=hrel
    by_cases hlt2:j<k
    ·obtain⟨c0,c1,c2,c3⟩:=(HI.out.below hst.1) j (by omega)
     have HokQ:=Lib.hid (dN HPS.out j (by omega))
     rw[eN j (by omega)]at c0 c1 c2 c3
     obtain⟨Q,HQ⟩:∃Q,Hid (bm ps j=Q):=⟨_,Lib.hid rfl⟩
     rw[HQ.out]at c0 c1 c2 c3 HokQ
     have Hst:=Lib.hid hst
     clear hst
     obtain⟨wq,rfl⟩:∃wq:World,wq=wr:=⟨_,rfl⟩
     have zq:=ah HPb.out
     have p0:wq.cell? ⟨wo.heap.size,0,none⟩=some (.int .i64 P.1):=(ag HPb.out 0).trans rfl
     have p1:wq.cell? ⟨wo.heap.size,1,none⟩=some (.int .i64 P.2.1):=(ag HPb.out 1).trans rfl
     have p2:wq.cell? ⟨wo.heap.size,2,none⟩=some (.int .i64 P.2.2.1):=(ag HPb.out 2).trans rfl
     have p3:wq.cell? ⟨wo.heap.size,3,none⟩=some (.int .i64 P.2.2.2):=(ag HPb.out 3).trans rfl
     have oP:=Hok.out
     have oQ:=HokQ.out
     simp only[bI]at oP oQ
     go_wp2
     clear c0 c1 c2 c3
     have zo1:wo.heap.size<wq.heap.size+1:=by omega
     apply aj [] [0,1,2,3,4,5] 6 [] [sv _,sv _,sv _,sv _,sv _,⟨da (wq.alloc (.cells #[.int .i64 Q.1, .int .i64 Q.2.1, .int .i64 Q.2.2.1, .int .i64 Q.2.2.2] 69)).heap.size 124 #[.int .i64 0, .int .i64 0, .int .i64 0],by first|exact bT _ _|exact dF _ _|exact bU _ _|exact db _ _|exact dS _ _|exact ar _ _ _⟩] (by kernel_rfl) (by kernel_rfl)
     ((try go_frame);refine wkQ ?_)
     try go_frame
     refine wkV ?_
     apply ex3
     ·intro u K hK
      go_simp
      refine(ct _ _ _ _ _).mono ?_
      rintro e w9 ⟨rfl,hb9⟩
      exact hK _ hb9
     rfl
     ((try go_frame);refine wkQ ?_)
     try go_frame
     refine wkV ?_
     apply ex3
     ·intro u K hK
      go_simp
      refine(ct _ _ _ _ _).mono ?_
      rintro e w9 ⟨rfl,hb9⟩
      exact hK _ hb9
     rfl
     try go_frame
     refine wkV ?_
     apply ex3
     ·intro u K hK
      go_simp
      refine(iw _ _ _ _ _ _ _ (by omega) (by omega) (by omega) (by omega) (by omega) (by omega)).mono ?_
      rintro e w9 ⟨rfl,hb9⟩
      exact hK _ hb9
     rfl
     try go_frame
     refine wkU (fun u hR K hK=> ?_) (fun o5=> ?_)
     ·clear hR
      have zw:=u.size
      go_simp
      exact hK _ _ bel ⟨_,rfl,zw,ai rfl⟩
     try go_frame
     refine aI (fun u hR=> ?_)
     obtain⟨gl,rfl,hgl,Hgl⟩:da (wq.alloc (.cells #[.int .i64 Q.1, .int .i64 Q.2.1, .int .i64 Q.2.2.1, .int .i64 Q.2.2.2] 69)).heap.size 124 #[.int .i64 0, .int .i64 0, .int .i64 0] o5 u.val:=hR 5 (by simp)
     have hbl:=u.below
     clear hR
     generalize u.val=wl at*
     clear u
     simp only[oas]
     have g0:wl.cell? ⟨gl,0,none⟩=some (.int .i64 0):=(ag Hgl 0).trans rfl
     have g1:wl.cell? ⟨gl,1,none⟩=some (.int .i64 0):=(ag Hgl 1).trans rfl
     have g2:wl.cell? ⟨gl,2,none⟩=some (.int .i64 0):=(ag Hgl 2).trans rfl
     have gf:=aC Hgl
     have Hb:=Lib.hid Hgl
     have HL:Hid (aN (nrm P) (nrm Q)=(P.2.1*Q.2.2.1-P.2.2.1*Q.2.1,P.2.2.1*Q.1-P.1*Q.2.2.1,P.1*Q.2.1-P.2.1*Q.1)):=Lib.hid rfl
     have bL0:=aL oP.2.1 oP.2.2.1 oQ.2.1 oQ.2.2.1
     have bL1:=aL oP.2.2.1 oP.1 oQ.2.2.1 oQ.1
     have bL2:=aL oP.1 oP.2.1 oQ.1 oQ.2.1
     clear Hgl p0 p1 p2 p3
     generalize P.2.1*Q.2.2.1-P.2.2.1*Q.2.1=l0 at*
     generalize P.2.2.1*Q.1-P.1*Q.2.2.1=l1 at*
     generalize P.1*Q.2.1-P.2.1*Q.1=l2 at*
     try go_frame
     iterate 1 (refine wpList_step (fun K hK=> ?_);go_simp;refine hK _ _ ?_;clear hK K)
     refine NoPanic.normal ?_
     have hv:=kL l0 l1 l2 0 0 0
     obtain⟨wm,Hwm⟩:∃wm,Hid (((wl.setCell ⟨gl,0,none⟩ (.int .i64 l0)).setCell ⟨gl,1,none⟩ (.int .i64 l1)).setCell ⟨gl,2,none⟩ (.int .i64 l2)=wm):=⟨_,Lib.hid rfl⟩
     have hbm:Below (wq.alloc (.cells #[.int .i64 Q.1, .int .i64 Q.2.1, .int .i64 Q.2.2.1, .int .i64 Q.2.2.2] 69)).heap.size (wq.alloc (.cells #[.int .i64 Q.1, .int .i64 Q.2.1, .int .i64 Q.2.2.1, .int .i64 Q.2.2.2] 69)) wm:=by
      rw[←Hwm.out];exact((hbl.setCell hgl _).setCell hgl _).setCell hgl _
     have Hst1:Hid (BSt w (.slice (some ⟨b,off,none⟩) n cc) (raw ps k++gJ ps k j) wm):=Lib.hid ((Hst.out.keep bel).keep hbm)
     have HP1:Hid (wm.heap[wo.heap.size]? =some (.cells #[.int .i64 P.1, .int .i64 P.2.1, .int .i64 P.2.2.1, .int .i64 P.2.2.2] 69 (0,0))):=Lib.hid ((hbm.block _ (by simp;omega)).trans ((aB zq).trans HPb.out))
     have HQ1:Hid (wm.heap[wq.heap.size]? =some (.cells #[.int .i64 Q.1, .int .i64 Q.2.1, .int .i64 Q.2.2.1, .int .i64 Q.2.2.2] 69 (0,0))):=Lib.hid ((hbm.block _ (by simp)).trans (ai rfl))
     have Hl:Hid (wm.heap[gl]? =some (.cells #[.int .i64 l0, .int .i64 l1, .int .i64 l2] 124 (0,0))):=by rw[←Hwm.out];exact Lib.hid (br (br (br Hb.out 0 _) 1 _) 2 _)
     have zg:wq.heap.size+1≤gl:=by simpa using hgl
     rw[Hwm.out]
     clear Hst hbl hbm g0 g1 g2 gf Hb Hwm HPb hgl
     have e0:wm.cell? ⟨gl,0,none⟩=some (.int .i64 l0):=(ag Hl.out 0).trans rfl
     have e1:wm.cell? ⟨gl,1,none⟩=some (.int .i64 l1):=(ag Hl.out 1).trans rfl
     have e2:wm.cell? ⟨gl,2,none⟩=some (.int .i64 l2):=(ag Hl.out 2).trans rfl
     have Hsum:=Lib.hid (jZ ps k j)
     by_cases hz:l0=0∧l1=0∧l2=0
     ·have hb0:(l0==0&&l1==0&&l2==0)=true:=by simp[hz]
      have Hz:=Lib.hid hz
      rw[hb0]at hv
      clear hz hb0
      go_wp2
      go_roundw
      case rel=>exact⟨j+1,by omega,by go_num,by rw[Hsum.out,sO ps k j j (by rw[HP.out,HQ.out,HL.out,Hz.out.1,Hz.out.2.1,Hz.out.2.2])];simpa using Hst1.out,HP1⟩
      case measure=>simp[intOf];omega
     ·have hb0:(l0==0&&l1==0&&l2==0)=false:=by rw[Bool.eq_false_iff];simp;omega
      rw[hb0]at hv
      clear hb0
      go_wp2
      go_loopw [42] (fun i wr=>∃m:Nat,m≤j∧i= .int .i64 m∧BSt w (.slice (some ⟨b,off,none⟩) n cc) (raw ps k++gJ ps k j++gI ps k j m) wr∧Hid (wr.heap[wo.heap.size]? =some (.cells #[.int .i64 P.1, .int .i64 P.2.1, .int .i64 P.2.2.1, .int .i64 P.2.2.2] 69 (0,0)))∧Hid (wr.heap[wq.heap.size]? =some (.cells #[.int .i64 Q.1, .int .i64 Q.2.1, .int .i64 Q.2.2.1, .int .i64 Q.2.2.2] 69 (0,0)))∧Hid (wr.heap[gl]? =some (.cells #[.int .i64 l0, .int .i64 l1, .int .i64 l2] 124 (0,0)))) (fun i _=>j-(intOf i).toNat)
      case atStart=>exact⟨0,by omega,rfl,by simpa [iz]using Hst1.out,HP1,HQ1,Hl⟩
      case round=>
       clear e0 e1 e2 Hst1 HP1 HQ1 Hl hv hz
       obtain⟨m,hm,rfl,hst,HP1,HQ1,Hl⟩:=hrel
       by_cases hlt3:m<j
       ·obtain⟨c0,c1,c2,c3⟩:=(HI.out.below hst.1) m (by omega)
        have HokR:=Lib.hid (dN HPS.out m (by omega))
        rw[eN m (by omega)]at c0 c1 c2 c3
        obtain⟨R,HR⟩:∃R,Hid (bm ps m=R):=⟨_,Lib.hid rfl⟩
        rw[HR.out]at c0 c1 c2 c3 HokR
        have Hst:=Lib.hid hst
        clear hst
        obtain⟨wz,rfl⟩:∃wz:World,wz=wr:=⟨_,rfl⟩
        have zP:=ah HP1.out
        have zQ:=ah HQ1.out
        have zL:=ah Hl.out
        have e0:wz.cell? ⟨gl,0,none⟩=some (.int .i64 l0):=(ag Hl.out 0).trans rfl
        have e1:wz.cell? ⟨gl,1,none⟩=some (.int .i64 l1):=(ag Hl.out 1).trans rfl
        have e2:wz.cell? ⟨gl,2,none⟩=some (.int .i64 l2):=(ag Hl.out 2).trans rfl
        have oR:=HokR.out
        simp only[bI]at oR
        go_wp2
        clear c0 c1 c2 c3
        have zL1:gl<wz.heap.size+1:=by omega
        refine wqb ?_
        repeat(first|go_big_quiet_step ((first|(go_at_call 139;exact aE (ct _ _ _ _ _))|(go_at_call 142;exact aE (ix _ _ _ _ _ _ _ (by omega) (by omega) (by omega) (by omega) (by omega) (by omega)))))|quiet_step ((first|(go_at_call 139;exact aE (ct _ _ _ _ _))|(go_at_call 142;exact aE (ix _ _ _ _ _ _ _ (by omega) (by omega) (by omega) (by omega) (by omega) (by omega))))))
        refine wqn fun u=> ?_
        have Hden:Hid (bN P Q R=l0*R.1+l1*R.2.1+l2*R.2.2.1):=Lib.hid (by show bj (aN (nrm P) (nrm Q)) (nrm R)=_;rw[HL.out];rfl)
        have bden:=lV P Q R Hok.out HokQ.out HokR.out
        rw[Hden.out]at bden
        have Hst1:Hid (BSt w (.slice (some ⟨b,off,none⟩) n cc) (raw ps k++gJ ps k j++gI ps k j m) u.val):=Lib.hid (Hst.out.keep (ae bel u.below))
        have HP2:Hid (u.val.heap[wo.heap.size]? =some (.cells #[.int .i64 P.1, .int .i64 P.2.1, .int .i64 P.2.2.1, .int .i64 P.2.2.2] 69 (0,0))):=Lib.hid ((u.below.block _ (by simp;omega)).trans ((aB zP).trans HP1.out))
        have HQ2:Hid (u.val.heap[wq.heap.size]? =some (.cells #[.int .i64 Q.1, .int .i64 Q.2.1, .int .i64 Q.2.2.1, .int .i64 Q.2.2.2] 69 (0,0))):=Lib.hid ((u.below.block _ (by simp;omega)).trans ((aB zQ).trans HQ1.out))
        have Hl2:Hid (u.val.heap[gl]? =some (.cells #[.int .i64 l0, .int .i64 l1, .int .i64 l2] 124 (0,0))):=Lib.hid ((u.below.block _ (by simp;omega)).trans ((aB zL).trans Hl.out))
        have HR2:Hid (u.val.heap[wz.heap.size]? =some (.cells #[.int .i64 R.1, .int .i64 R.2.1, .int .i64 R.2.2.1, .int .i64 R.2.2.2] 69 (0,0))):=Lib.hid ((u.below.block _ (by simp)).trans (ai rfl))
        have Hraw:=Lib.hid (gq ps k j m)
        have Hr1:Hid (jo ps k j m=if bN P Q R=0 then []else if bG ps (dv P Q R (bN P Q R))then [dv P Q R (bN P Q R)]else []):=Lib.hid (by unfold jo;rw[HP.out,HQ.out,HR.out])
        clear e0 e1 e2 Hst HP1 HQ1 Hl oR
        rw[Hden.out]at Hr1
        generalize l0*R.1+l1*R.2.1+l2*R.2.2.1=den at*
        by_cases hd0:den=0
        ·have Hd0:=Lib.hid hd0
         have hdb:(den !=0)=false:=by simp[hd0]
         clear hd0
         go_wp2
         go_roundw
         case rel=>exact⟨m+1,by omega,by go_num,by rw[Hraw.out,Hr1.out,if_pos Hd0.out];simpa using Hst1.out,HP2,HQ2,Hl2⟩
         case measure=>simp[intOf];omega
        ·have hdb:(den !=0)=true:=by simpa using hd0
         have p0:u.val.cell? ⟨wo.heap.size,0,none⟩=some (.int .i64 P.1):=(ag HP2.out 0).trans rfl
         have p1:u.val.cell? ⟨wo.heap.size,1,none⟩=some (.int .i64 P.2.1):=(ag HP2.out 1).trans rfl
         have p2:u.val.cell? ⟨wo.heap.size,2,none⟩=some (.int .i64 P.2.2.1):=(ag HP2.out 2).trans rfl
         have p3:u.val.cell? ⟨wo.heap.size,3,none⟩=some (.int .i64 P.2.2.2):=(ag HP2.out 3).trans rfl
         have q0:u.val.cell? ⟨wq.heap.size,0,none⟩=some (.int .i64 Q.1):=(ag HQ2.out 0).trans rfl
         have q1:u.val.cell? ⟨wq.heap.size,1,none⟩=some (.int .i64 Q.2.1):=(ag HQ2.out 1).trans rfl
         have q2:u.val.cell? ⟨wq.heap.size,2,none⟩=some (.int .i64 Q.2.2.1):=(ag HQ2.out 2).trans rfl
         have q3:u.val.cell? ⟨wq.heap.size,3,none⟩=some (.int .i64 Q.2.2.2):=(ag HQ2.out 3).trans rfl
         have r0:u.val.cell? ⟨wz.heap.size,0,none⟩=some (.int .i64 R.1):=(ag HR2.out 0).trans rfl
         have r1:u.val.cell? ⟨wz.heap.size,1,none⟩=some (.int .i64 R.2.1):=(ag HR2.out 1).trans rfl
         have r2:u.val.cell? ⟨wz.heap.size,2,none⟩=some (.int .i64 R.2.2.1):=(ag HR2.out 2).trans rfl
         have r3:u.val.cell? ⟨wz.heap.size,3,none⟩=some (.int .i64 R.2.2.2):=(ag HR2.out 3).trans rfl
         have bl:(raw ps k++gJ ps k j++gI ps k j m).length≤1000000:=by
          have:=jp ps k (by omega);have:=lU ps k j (by omega);have:=lT ps k j m
          simp only[List.length_append];omega
         go_wp2_with fail
         refine(oV P Q R den _ Hok.out HokQ.out HokR.out (by omega) hd0).mono ?_
         rintro e wy ⟨rfl,hby⟩
         clear p0 p1 p2 p3 q0 q1 q2 q3 r0 r1 r2 r3
         go_wp2_with fail
         refine(xx ps _ _ _ w wy HPS.out (lW P Q R den Hok.out HokQ.out HokR.out (by omega) hd0) hl bl HPV.out (Hst1.out.keep hby)).mono ?_
         rintro e wx ⟨rfl,hst2,hsz2,hkeep⟩
         have Hst2:=Lib.hid hst2
         have Hk2:=Lib.hid hkeep
         clear hst2 hkeep
         go_wp2
         go_roundw
         case rel=>exact⟨m+1,by omega,by go_num,by rw[Hraw.out,Hr1.out,if_neg hd0];simpa using Hst2.out,Lib.hid (Hk2.out _ _ _ (by omega) (by decide) ((hby.block _ (ah HP2.out)).trans HP2.out)),Lib.hid (Hk2.out _ _ _ (by omega) (by decide) ((hby.block _ (ah HQ2.out)).trans HQ2.out)),Lib.hid (Hk2.out _ _ _ (by omega) (by decide) ((hby.block _ (ah Hl2.out)).trans Hl2.out))⟩
         case measure=>simp[intOf];omega
       ·go_wp2
        go_roundw
        case rel=>exact⟨j+1,by omega,by go_num,by rw[Hsum.out];obtain rfl:m=j:=(by omega);simpa using hst,HP1⟩
        case measure=>simp[intOf];omega
    ·obtain rfl:j=k:=by omega
     have Hsum:=Lib.hid (lS ps j)
     have Hst:=Lib.hid hst
     clear hst
     go_wp2
     go_roundw
     case rel=>exact⟨j+1,by omega,by go_num,by rw[Hsum.out];exact Hst.out⟩
     case measure=>simp[intOf];omega
  ·obtain rfl:k=n:=by omega
   obtain⟨h1,h2,cv,h3,h4⟩:=hst
   have k1:wr.cell? ⟨w.heap.size+1,1,none⟩=some cv:=(ag h3 1).trans rfl
   have z1:=ah h3
   have Hst:=Lib.hid (And.intro h1 (And.intro h2 (And.intro h3 h4)))
   clear hx h1 h2 h3 h4
   subst hn
   have Hrn:=Lib.hid (iD ps HPS.out ps.length (Nat.le_refl _))
   have Hrl:=Lib.hid (jp ps ps.length hl)
   go_wp2_with fail
   refine(uW (raw ps ps.length) Hrn.out _ _ cv wr rfl (by have:=Hrl.out;omega) Hst.out.2.2.2).mono ?_
   rintro e w1 ⟨rfl,hown1,hg1⟩
   have hne1:some (w.heap.size+1)≠cv.ownBlock:=fun e=>aG Hst.out.2.2.2 Hst.out.2.2.1 (by decide) e.symm
   have hne0:some w.heap.size≠cv.ownBlock:=fun e=>aG Hst.out.2.2.2 Hst.out.2.1 (by decide) e.symm
   have b1:w1.heap[w.heap.size+1]? =some (.cells #[.slice a ps.length cc,cv] 160 (0,0)):=(hg1.block _ z1 hne1).trans Hst.out.2.2.1
   have b0:w1.heap[w.heap.size]? =some (.cells #[.slice none 0 0, .slice none 0 0] 160 (0,0)):=(hg1.block _ (ah Hst.out.2.1) hne0).trans Hst.out.2.1
   have hbw1:Below w.heap.size w w1:=Hst.out.1.grown hg1 Hst.out.1.size (fun j hj=>by obtain⟨h,_⟩:=Hst.out.2.2.2.lt j hj;omega)
   have k2:w1.cell? ⟨w.heap.size+1,1,none⟩=some cv:=(ag b1 1).trans rfl
   have Ho1:=Lib.hid hown1
   have Hb0:=Lib.hid b0
   have Hb1:=Lib.hid b1
   clear Hst k1 z1 hg1 hown1 b0 b1 hne0 hne1
   go_wp2_with fail
   refine(pi (ed (raw ps ps.length)) _ _ cv w1 (ni _) (by have:=Hrl.out;omega) Ho1.out).mono ?_
   rintro e w2 ⟨cv',rfl,hg2,⟨a',m',c',rfl⟩,hown2⟩
   have hne1:some (w.heap.size+1)≠cv.ownBlock:=fun e=>aG Ho1.out Hb1.out (by decide) e.symm
   have hne0:some w.heap.size≠cv.ownBlock:=fun e=>aG Ho1.out Hb0.out (by decide) e.symm
   have b1:w2.heap[w.heap.size+1]? =some (.cells #[.slice a ps.length cc,cv] 160 (0,0)):=(hg2.block _ (ah Hb1.out) hne1).trans Hb1.out
   have b0:w2.heap[w.heap.size]? =some (.cells #[.slice none 0 0, .slice none 0 0] 160 (0,0)):=(hg2.block _ (ah Hb0.out) hne0).trans Hb0.out
   have hbw2:Below w.heap.size w w2:=hbw1.grown hg2 hbw1.size (fun j hj=>by obtain⟨h,_⟩:=Ho1.out.lt j hj;omega)
   have k0:w2.cell? ⟨w.heap.size+1,0,none⟩=some (.slice a ps.length cc):=(ag b1 0).trans rfl
   have k3:w2.cell? ⟨w.heap.size+1,1,none⟩=some cv:=(ag b1 1).trans rfl
   have f1:=aC b1
   have r0:w2.cell? ⟨w.heap.size,0,none⟩=some (.slice none 0 0):=(ag b0 0).trans rfl
   have r1:w2.cell? ⟨w.heap.size,1,none⟩=some (.slice none 0 0):=(ag b0 1).trans rfl
   have f0:=aC b0
   rw[←Hco.out]at hown2
   have Ho2:=Lib.hid hown2
   have hfar1:=Lib.hid (fun e=>aG hown2 b1 (by decide) e.symm:some (w.heap.size+1)≠(Value.slice a' m' c').ownBlock)
   have hfar0:=Lib.hid (fun e=>aG hown2 b0 (by decide) e.symm:some w.heap.size≠(Value.slice a' m' c').ownBlock)
   clear hown2 b0 b1 hg2 Ho1 Hb0 Hb1 k2 hbw1 hne0 hne1
   go_wp2
   refine bodyPost_ret (v:= .agg #[.slice a ps.length cc, .slice a' m' c']) (by simp[results,Tryz.results158,go_sem,r0,r1]) rfl ⟨_,rfl, ?_, ?_⟩
   ·exact((hbw2.setCell (by simp) _).setCell (by simp) _).setCell (by simp) _
   ·exact aF (aF (aF Ho2.out _ _ hfar1.out) _ _ hfar0.out) _ _ hfar0.out
end
section
open Go.RowKit Go.Shelf Go.Sort Go.Lib
attribute [local go_sem] Ext.cell Ext.frozen
def gM (cs:List Q4) (p:Q4):Bool:=cs.any fun c=>decide (sd p c<0)
def fh (ps cs:List Q4):Bool:=ps.all (gM cs)&&decide (0<ps.length)
theorem lC (p c:Q4) (b:Nat) (w:World) (hp:bI p) (hc:fD c) (h0:w.cell? ⟨b,0,none⟩=some (.int .i64 p.1)) (h1:w.cell? ⟨b,1,none⟩=some (.int .i64 p.2.1)) (h2:w.cell? ⟨b,2,none⟩=some (.int .i64 p.2.2.1)) (h3:w.cell? ⟨b,3,none⟩=some (.int .i64 p.2.2.2)):
  Calls Tryz.prog 183 #[v4 c, .pointer (some ⟨b,0,none⟩)] w (Ret w (.bool (decide (sd p c<0)))):=by
 have hs:=fun W=>Lib.hid (qI p c W hp hc)
 have hlt:=World.block_lt_of_cell? w _ h0
 go_enter Tryz.func183,Tryz.ntmps183
 go_wp2_with fail
 refine((hs _).out).mono ?_
 rintro e w1 ⟨rfl,hb1⟩
 go_wp2
 go_ret
 exact⟨rfl,ae bel hb1⟩
theorem sW:∀args w,(callFunc 183 args).run Tryz.prog w= .ok (.enter 183 args) w:=enters_of Tryz.func183 (by kernel_rfl) rfl
theorem qR (p c:Q4) (b:Nat) (w:World) (hp:bI p) (hc:fD c) (hb:w.heap[b]? =some (.cells #[.int .i64 p.1, .int .i64 p.2.1, .int .i64 p.2.2.1, .int .i64 p.2.2.2] 69 (0,0))):
  gH Tryz.prog 183 #[.pointer (some ⟨b,0,none⟩)] w (v4 c) (decide (sd p c<0)):=
 fun _ hw=>lC p c b _ hp hc (ab hw ((ag hb 0).trans rfl)) (ab hw ((ag hb 1).trans rfl)) (ab hw ((ag hb 2).trans rfl)) (ab hw ((ag hb 3).trans rfl))
theorem pk (ps cs:List Q4) (pv cv:Value) (w:World) (hps:∀p∈ps,bI p) (hcs:∀c∈cs,fD c) (hl:ps.length≤1000000) (hlc:cs.length≤1000000) (hpv:Q4s w pv ps) (hcv:Q4s w cv cs):
  Calls Tryz.prog 159 #[.agg #[pv,cv]] w (Ret w (.bool (fh ps cs))):=by
 obtain⟨a,n,cc,rfl,hn,hnc,hx⟩:=hpv
 obtain⟨a',n',cc',rfl,hn',hnc',hx'⟩:=hcv
 have HCV:Hid (Q4s w (.slice a' n' cc') cs):=Lib.hid ⟨a',n',cc',rfl,hn',hnc',hx'⟩
 have HPS:=Lib.hid hps
 have HCS:=Lib.hid hcs
 have Hyes:Hid ((∀i (h:i<ps.length),gM cs ps[i]=true)→fh ps cs=decide (0<ps.length)):=Lib.hid (fun h=>by
  have:ps.all (gM cs)=true:=by rw[List.all_eq_true];intro x hx;obtain⟨i,hi,rfl⟩:=List.getElem_of_mem hx;exact h i hi
  simp[fh,this])
 have Hno:Hid (∀i (h:i<ps.length),gM cs ps[i]=false→fh ps cs=false):=Lib.hid (fun i hi h=>by
  have:ps.all (gM cs)=false:=by rw[List.all_eq_false];exact⟨_,List.getElem_mem hi,by simp[h]⟩
  simp[fh,this])
 clear hps hcs hx'
 go_enter Tryz.func159,Tryz.ntmps159
 go_wp2
 go_loopw [8] (fun i wr=>∃k:Nat,k≤n∧i= .int .i64 k∧Below w.heap.size w wr∧Hid (wr.heap[w.heap.size]? =some (.cells #[.slice a n cc, .slice a' n' cc'] 160 (0,0)))∧Hid (∀i (h:i<ps.length),i<k→gM cs ps[i]=true)) (fun i _=>n-(intOf i).toNat)
 case atStart=>exact⟨0,by omega,rfl,bel,Lib.hid (ai rfl),Lib.hid (fun i _ h=>by omega)⟩
 case round=>
  obtain⟨k,hk,rfl,hb,HB,Hz⟩:=hrel
  have zB:=ah HB.out
  by_cases hlt:k<n
  ·obtain⟨b,off,rfl,hi⟩:=hx (by omega)
   obtain⟨c0,c1,c2,c3⟩:=(hi.below hb) k (by omega)
   have Hok:=Lib.hid (HPS.out (ps[k]) (by simp))
   have Hnk:=Lib.hid (Hno.out k (by omega))
   obtain⟨p,Hp⟩:∃p,Hid (ps[k]=p):=⟨_,Lib.hid rfl⟩
   rw[Hp.out]at c0 c1 c2 c3 Hok Hnk
   have k1:wr.cell? ⟨w.heap.size,1,none⟩=some (.slice a' n' cc'):=(ag HB.out 1).trans rfl
   obtain⟨W,HW⟩:∃W,Hid (W=wr.alloc (.cells #[.int .i64 p.1, .int .i64 p.2.1, .int .i64 p.2.2.1, .int .i64 p.2.2.2] 69)):=⟨_,Lib.hid rfl⟩
   have hbW:Below wr.heap.size wr W:=by rw[HW.out];exact bel
   have hblk:W.heap[wr.heap.size]? =some (.cells #[.int .i64 p.1, .int .i64 p.2.1, .int .i64 p.2.2.1, .int .i64 p.2.2.2] 69 (0,0)):=by rw[HW.out];exact ai rfl
   have hcon:=fo (.slice a' n' cc') cs (fun c=>decide (sd p c<0)) _ _ W ((HCV.out.below hb).below hbW) (by omega) sW (fun c hc=>qR p c _ W Hok.out (HCS.out c hc) hblk)
   have hin:(cs.any fun c=>decide (sd p c<0))=gM cs p:=rfl
   rw[hin,HW.out]at hcon
   have Hcon:=Lib.hid hcon
   clear hcon hin hblk hbW hx hi
   cases hib:gM cs p with
   |true=>
    have Hib:=Lib.hid hib
    rw[hib]at Hcon
    clear hib HW
    go_wp2_with fail
    refine(Hcon.out).mono ?_
    rintro e w1 ⟨rfl,hb1⟩
    go_wp2
    go_roundw
    case rel=>exact⟨k+1,by omega,by go_num,ae hb (ae bel hb1),Lib.hid ((hb1.block _ (by simp;omega)).trans ((aB zB).trans HB.out)),Lib.hid (fun i hi hik=>by
     by_cases e:i=k
     ·subst e;rw[Hp.out];exact Hib.out
     ·exact Hz.out i hi (by omega))⟩
    case measure=>simp[intOf];omega
   |false=>
    have Hib:=Lib.hid hib
    rw[hib]at Hcon
    clear hib HW
    go_wp2_with fail
    refine(Hcon.out).mono ?_
    rintro e w1 ⟨rfl,hb1⟩
    go_wp2
    go_ret
    exact⟨ay (Hnk.out Hib.out).symm,ae hb (ae bel hb1)⟩
  ·have Hy:=Lib.hid (Hyes.out (fun i hi=>Hz.out i hi (by omega)))
   have k0:wr.cell? ⟨w.heap.size,0,none⟩=some (.slice a n cc):=(ag HB.out 0).trans rfl
   clear hx
   go_wp2
   go_ret
   exact⟨ay (by rw[Hy.out,hn]),hb⟩
end
section
open Go.RowKit Go.Shelf Go.Sort Go.Lib
theorem dx (p q:Q4):bD p q<0↔p.1<q.1∨(p.1=q.1∧(p.2.1<q.2.1∨(p.2.1=q.2.1∧(p.2.2.1<q.2.2.1∨(p.2.2.1=q.2.2.1∧p.2.2.2<q.2.2.2))))):=by
 unfold bD
 rw[uP,dp,dq,dp,dq,dp,dq,dp]
theorem sX (x y:Q4):ltOf bD x y=decide (bD x y<0):=rfl
theorem zT:SWO (ltOf bD) where
 irrefl x:=by rw[sX,decide_eq_false_iff_not,dx];omega
 trans x y z h1 h2:=by
  rw[sX,decide_eq_true_eq,dx]at*
  omega
 ntrans x y z h1 h2:=by
  rw[sX,decide_eq_false_iff_not,dx]at*
  omega
theorem yB (x y:Q4) (h1:ltOf bD x y=false) (h2:ltOf bD y x=false):x=y:=by
 rw[sX,decide_eq_false_iff_not,dx]at h1 h2
 obtain⟨a,b,c,d⟩:=x
 obtain⟨a',b',c',d'⟩:=y
 simp only at h1 h2
 have:a=a'∧b=b'∧c=c'∧d=d':=by omega
 obtain⟨rfl,rfl,rfl,rfl⟩:=this
 rfl
theorem mh (x:Q4):∀v∈aH x,v.oneCell'=true:=fun v hv=>by simp[aH]at hv;rcases hv with rfl|rfl|rfl|rfl<;>rfl
theorem pn:∀w,(isAgg 69).run Tryz.prog w= .ok true w:=fun _=>by kernel_rfl
theorem nT:∀w,(Go.sizeOf 69).run Tryz.prog w= .ok 4 w:=fun _=>by kernel_rfl
theorem uX:∀args w,(callFunc 165 args).run Tryz.prog w= .ok (.enter 165 args) w:=enters_of Tryz.func165 (by kernel_rfl) rfl
theorem qS (blk off size:Nat) (w:World):CmpLays Tryz.prog 165 #[] aH 4 bD blk off size w:=fun _ _ _ _ x y=>by
 obtain⟨x0,x1,x2,x3⟩:=x
 obtain⟨y0,y1,y2,y3⟩:=y
 exact jk x0 x1 x2 x3 y0 y1 y2 y3 _
def iP (ps:List Q4):List Q4:=ps.mergeSort (fun x y=> !decide (bD y x<0))
theorem nj (ps:List Q4):(iP ps).length=ps.length:=by simp[iP]
theorem mi (ps:List Q4) (base n:Nat) (v:Value) (w:World) (hn:ps.length=n) (hs:n<4611686018427387904)
  (hown:w.ownsRow base 69 4 v n (ps.flatMap aH)):
  Calls Tryz.prog 164 #[v, .func (.func 165) #[] #[]] w fun e w'=>
   e= .returned (.tuple #[])∧w'.ownsRow base 69 4 v n ((iP ps).flatMap aH)∧w.grownBy w' v.ownBlock:=by
 by_cases h0:0<n
 ·obtain⟨g,cap,rfl,_,hg⟩:=fF hown h0
  have hd:ps.toArray.size=n:=by simp[hn]
  have hcon:=AnyQ.slices_SortFunc_total Tryz.sortPlane 4 pn nT aH cP mh bD zT 165 #[] g 0 cap ps.toArray w uX (qS _ _ _ _)
   (lY aH (by decide) cP _ hd (by simpa using hown)) hg (by rw[hd];exact hs) yB
  rw[hd]at hcon
  refine Calls.mono (show Calls Tryz.prog 164 _ _ _ from hcon) ?_
  rintro e w' ⟨rfl,m,os,rfl⟩
  have hsz:(List.mergeSort ps fun x y=> !ltOf bD y x).toArray.size=n:=by simp[hn]
  obtain⟨h1,h2⟩:=lZ (m:=m) (os:=os) aH (by decide) cP _ hsz hown
  exact⟨rfl,h1,h2⟩
 ·obtain rfl:n=0:=by omega
  have hnil:ps=[]:=List.length_eq_zero_iff.1 hn
  subst hnil
  have hf:∃a cap,v= .slice a 0 cap:=by
   rcases hown.2 with⟨rfl,_⟩|⟨g,cap,cur,rfl,_⟩
   ·exact⟨_,_,rfl⟩
   ·exact⟨_,_,rfl⟩
  obtain⟨a,cap,rfl⟩:=hf
  refine Calls.mono (show Calls Tryz.prog 164 _ _ _ from AnyF.slices_SortFunc_none Tryz.sortPlane a cap _ w) ?_
  rintro e w' ⟨rfl,rfl⟩
  exact⟨rfl,by simpa [iP]using hown,⟨rfl,rfl,rfl,Nat.le_refl _,fun _ _ _=>rfl⟩⟩
theorem ju (cs:List Q4) (base n:Nat) (cv:Value) (w:World) (hn:cs.length=n) (hs:n≤10000000) (hown:w.ownsRow base 69 4 cv n (cs.flatMap aH)):
  Calls Tryz.prog 166 #[cv] w fun e w'=>∃cv',e= .returned cv'∧w.grownBy w' cv.ownBlock∧(∃a m c,cv'= .slice a m c)∧
   w'.ownsRow base 69 4 cv' (Lib.compact cs).length ((Lib.compact cs).flatMap aH):=by
 by_cases h2:2≤n
 ·obtain⟨g,cap,rfl,_,_⟩:=fF hown (by omega)
  refine(mQ cs.toArray g n cap base w (by simpa using hn) hs h2 (by simpa using hown)).mono ?_
  rintro e w' ⟨rfl,hg,ho⟩
  have e:compactUpTo cs.toArray n=Lib.compact cs:=by unfold Lib.compact;rw[hn]
  rw[e]at ho ⊢
  exact⟨_,rfl,hg,⟨_,_,_,rfl⟩,ho⟩
 ·have hf:∃a cap,cv= .slice a n cap:=by
   rcases hown.2 with⟨rfl,h⟩|⟨g,cap,cur,rfl,_⟩
   ·exact⟨_,_,by rw[h]⟩
   ·exact⟨_,_,rfl⟩
  obtain⟨a,cap,rfl⟩:=hf
  refine(iK a n cap w (by omega)).mono ?_
  rintro e w' ⟨rfl,rfl⟩
  have e:Lib.compact cs=cs:=compact_all cs (fun j hj=>keeps_lt_one _ j (by omega))
  rw[e,hn]
  exact⟨_,rfl,⟨rfl,rfl,rfl,Nat.le_refl _,fun _ _ _=>rfl⟩,⟨_,_,_,rfl⟩,hown⟩
theorem kh (cs:List Q4) (base n:Nat) (cv:Value) (w:World) (hn:cs.length=n) (hs:n≤10000000) (hown:w.ownsRow base 69 4 cv n (cs.flatMap aH)):
  Calls Tryz.prog 74 #[cv] w fun e w'=>∃cv',e= .returned cv'∧w.grownBy w' cv.ownBlock∧(∃a m c,cv'= .slice a m c)∧
   w'.ownsRow base 69 4 cv' (Lib.compact cs).length ((Lib.compact cs).flatMap aH):=by
 by_cases h2:2≤n
 ·obtain⟨g,cap,rfl,_,_⟩:=fF hown (by omega)
  refine(nS cs.toArray g n cap base w (by simpa using hn) hs h2 (by simpa using hown)).mono ?_
  rintro e w' ⟨rfl,hg,ho⟩
  have e:compactUpTo cs.toArray n=Lib.compact cs:=by unfold Lib.compact;rw[hn]
  rw[e]at ho ⊢
  exact⟨_,rfl,hg,⟨_,_,_,rfl⟩,ho⟩
 ·have hf:∃a cap,cv= .slice a n cap:=by
   rcases hown.2 with⟨rfl,h⟩|⟨g,cap,cur,rfl,_⟩
   ·exact⟨_,_,by rw[h]⟩
   ·exact⟨_,_,rfl⟩
  obtain⟨a,cap,rfl⟩:=hf
  refine(iY a n cap w (by omega)).mono ?_
  rintro e w' ⟨rfl,rfl⟩
  have e:Lib.compact cs=cs:=compact_all cs (fun j hj=>keeps_lt_one _ j (by omega))
  rw[e,hn]
  exact⟨_,rfl,⟨rfl,rfl,rfl,Nat.le_refl _,fun _ _ _=>rfl⟩,⟨_,_,_,rfl⟩,hown⟩
end
section
open Go.RowKit Go.Shelf Go.Sort Go.Lib
attribute [local go_sem] Ext.cell Ext.frozen
set_option maxRecDepth 100000
def cQ (p:Q4) (cs:List Q4):Nat:=(cs.filter fun c=>decide (sd p c=0)).length
def onB (cs:List Q4) (p:Q4):Bool:=decide (3≤cQ p cs)
def iZ (cs ps:List Q4):List Q4:=(ps.filter (onB cs)).map dG
def ii (ps cs:List Q4):List Q4:=Lib.compact (iP (iZ cs ps))
theorem uY (p:Q4) (cs:List Q4) (j:Nat) (h:j<cs.length):cQ p (cs.take (j+1))=cQ p (cs.take j)+if sd p cs[j]=0 then 1 else 0:=by
 unfold cQ
 rw[List.take_succ_eq_append_getElem h,List.filter_append,List.length_append]
 by_cases e:sd p cs[j]=0<;>simp[e]
theorem uZ (cs ps:List Q4) (k:Nat) (h:k<ps.length):iZ cs (ps.take (k+1))=iZ cs (ps.take k)++if onB cs ps[k]then [dG ps[k]]else []:=by
 unfold iZ
 rw[List.take_succ_eq_append_getElem h,List.filter_append,List.map_append]
 by_cases e:onB cs ps[k]<;>simp[e]
theorem sk (cs ps:List Q4) (k:Nat):(iZ cs (ps.take k)).length≤k:=by
 unfold iZ
 rw[List.length_map]
 exact Nat.le_trans (List.length_filter_le _ _) (by simp;omega)
theorem cY:(Tryz.prog.info? 69).map (fun i=>(i.zero,i.size,i.bytes))=some (some (v4 (0,0,0,0)),4,32):=by kernel_rfl
def cI (p:Q4):Prop:=bI p∧(p.1≠0∨p.2.1≠0∨p.2.2.1≠0)
theorem Bu (p:Q4) (w:World) (h:cI p):Calls Tryz.prog 163 #[v4 p] w (Ret w (v4 (dG p))):=by
 obtain⟨a,b,c,d⟩:=p
 have h1:=h.1
 simp only[bI]at h1
 exact qC a b c d w (by omega) (by omega) (by omega) (by omega) h.2
theorem mj (ps cs:List Q4) (pv cv:Value) (w:World) (hps:∀p∈ps,cI p) (hcs:∀c∈cs,fD c) (hl:ps.length≤1000000) (hlc:cs.length≤1000000) (hpv:Q4s w pv ps) (hcv:Q4s w cv cs):
  Calls Tryz.prog 121 #[.agg #[pv,cv]] w fun e w'=>∃v,e= .returned (.agg #[v])∧Below w.heap.size w w'∧w'.ownsRow (w.heap.size+2) 69 4 v (ii ps cs).length ((ii ps cs).flatMap aH):=by
 have Hnf:Hid (ii ps cs=Lib.compact (iP (iZ cs (ps.take ps.length)))):=Lib.hid (by rw[List.take_length];rfl)
 generalize ii ps cs=nf at*
 obtain⟨a,n,cc,rfl,hn,hnc,hx⟩:=hpv
 obtain⟨a',n',cc',rfl,hn',hnc',hx'⟩:=hcv
 have HPS:=Lib.hid hps
 have HCS:=Lib.hid hcs
 have HX':=Lib.hid hx'
 clear hps hcs hx'
 obtain⟨i0,hi0,hz0,hz1,hz2⟩:=info_parts cY
 have Hi0:=Lib.hid (And.intro hi0 (And.intro hz0 (And.intro hz1 hz2)))
 clear hi0 hz0 hz1 hz2
 go_enter Tryz.func121,Tryz.ntmps121
 go_wp2
 go_loopw [3,12] (fun s3 i wr=>∃k:Nat,k≤n∧i= .int .i64 k∧Below w.heap.size w wr∧Hid (wr.heap[w.heap.size]? =some (.cells #[.slice a n cc, .slice a' n' cc'] 160 (0,0)))∧Hid (wr.heap[w.heap.size+1]? =some (.cells #[.slice none 0 0] 67 (0,0)))∧
   Hid (wr.ownsRow (w.heap.size+2) 69 4 s3 (iZ cs (ps.take k)).length ((iZ cs (ps.take k)).flatMap aH))) (fun _ i _=>n-(intOf i).toNat)
 case atStart=>exact⟨0,by omega,rfl,bel,Lib.hid ((aB (by simp)).trans (ai rfl)),Lib.hid (ai (by simp)),Lib.hid (World.ownsRow_nil _ _ _ _)⟩
 case round=>
  obtain⟨k,hk,rfl,hb,HB,HC,HO⟩:=hrel
  have zC:=ah HC.out
  by_cases hlt:k<n
  ·obtain⟨b,off,rfl,hi⟩:=hx (by omega)
   obtain⟨c0,c1,c2,c3⟩:=(hi.below hb) k (by omega)
   have Hok:=Lib.hid (HPS.out (ps[k]) (by simp))
   have Hsn:=Lib.hid (uZ cs ps k (by omega))
   have Hll:=Lib.hid (sk cs ps k)
   obtain⟨p,Hp⟩:∃p,Hid (ps[k]=p):=⟨_,Lib.hid rfl⟩
   rw[Hp.out]at c0 c1 c2 c3 Hok Hsn
   have k1:wr.cell? ⟨w.heap.size,1,none⟩=some (.slice a' n' cc'):=(ag HB.out 1).trans rfl
   have zB:w.heap.size<wr.heap.size:=by omega
   obtain⟨wo,rfl⟩:∃wo:World,wo=wr:=⟨_,rfl⟩
   clear hx hi
   go_wp2
   clear c0 c1 c2 c3 k1
   go_loopw [6,19] (fun s6 i wr=>∃j:Nat,j≤n'∧i= .int .i64 j∧s6= .int .i64 (cQ p (cs.take j))∧Below (wo.heap.size+1) (wo.alloc (.cells #[.int .i64 p.1, .int .i64 p.2.1, .int .i64 p.2.2.1, .int .i64 p.2.2.2] 69)) wr) (fun _ i _=>n'-(intOf i).toNat)
   case atStart=>exact⟨0,by omega,rfl,rfl,Below.refl _ _⟩
   case round=>
    obtain⟨j,hj,rfl,rfl,hbj⟩:=hrel
    have Hpb:Hid (wr.heap[wo.heap.size]? =some (.cells #[.int .i64 p.1, .int .i64 p.2.1, .int .i64 p.2.2.1, .int .i64 p.2.2.2] 69 (0,0))):=Lib.hid ((hbj.block _ (by omega)).trans (ai rfl))
    have zp:=ah Hpb.out
    have p0:wr.cell? ⟨wo.heap.size,0,none⟩=some (.int .i64 p.1):=(ag Hpb.out 0).trans rfl
    have p1:wr.cell? ⟨wo.heap.size,1,none⟩=some (.int .i64 p.2.1):=(ag Hpb.out 1).trans rfl
    have p2:wr.cell? ⟨wo.heap.size,2,none⟩=some (.int .i64 p.2.2.1):=(ag Hpb.out 2).trans rfl
    have p3:wr.cell? ⟨wo.heap.size,3,none⟩=some (.int .i64 p.2.2.2):=(ag Hpb.out 3).trans rfl
    have hbwr:Below w.heap.size w wr:=(hb.alloc (by omega) _).trans (hbj.mono (by omega))
    by_cases hlt2:j<n'
    ·obtain⟨b',off',rfl,hi'⟩:=HX'.out (by omega)
     obtain⟨c0,c1,c2,c3⟩:=(hi'.below hbwr) j (by omega)
     have Hok':=Lib.hid (HCS.out (cs[j]) (by simp))
     have Hcn:=Lib.hid (uY p cs j (by omega))
     have hcl:cQ p (cs.take j)≤j:=Nat.le_trans (List.length_filter_le _ _) (by simp;omega)
     obtain⟨c,Hc⟩:∃c,Hid (cs[j]=c):=⟨_,Lib.hid rfl⟩
     rw[Hc.out]at c0 c1 c2 c3 Hok' Hcn
     generalize cQ p (cs.take j)=cn at*
     clear hi'
     have hs:=fun W=>Lib.hid (qI p c W Hok.out.1 Hok'.out)
     by_cases hsd:sd p c=0
     ·have Hsd:=Lib.hid hsd
      rw[hsd]at hs
      clear hsd
      go_wp2_with fail
      refine((hs _).out).mono ?_
      rintro e w1 ⟨rfl,hb1⟩
      clear hs
      go_wp2
      go_roundw
      case rel=>exact⟨j+1,by omega,by go_num,by rw[Hcn.out,if_pos Hsd.out];go_num,hbj.trans ((ae bel hb1:Below wr.heap.size wr w1).mono (by omega))⟩
      case measure=>simp[intOf];omega
     ·have hsd':(sd p c==0)=false:=by simpa using hsd
      have Hsd:=Lib.hid hsd
      clear hsd
      go_wp2_with fail
      refine((hs _).out).mono ?_
      rintro e w1 ⟨rfl,hb1⟩
      clear hs
      go_wp2
      go_roundw
      case rel=>exact⟨j+1,by omega,by go_num,by rw[Hcn.out,if_neg Hsd.out];simp,hbj.trans ((ae bel hb1:Below wr.heap.size wr w1).mono (by omega))⟩
      case measure=>simp[intOf];omega
    ·obtain rfl:j=n':=by omega
     have Hct:Hid (cQ p (cs.take j)=cQ p cs):=Lib.hid (by rw[List.take_of_length_le (by omega)])
     have hcl:cQ p (cs.take j)≤j:=Nat.le_trans (List.length_filter_le _ _) (by simp;omega)
     have HB1:Hid (wr.heap[w.heap.size]? =some (.cells #[.slice (some ⟨b,off,none⟩) n cc, .slice a' j cc'] 160 (0,0))):=Lib.hid ((hbj.block _ (by omega)).trans ((aB zB).trans HB.out))
     have HC1:Hid (wr.heap[w.heap.size+1]? =some (.cells #[.slice none 0 0] 67 (0,0))):=Lib.hid ((hbj.block _ (by omega)).trans ((aB zC).trans HC.out))
     have HO1:Hid (wr.ownsRow (w.heap.size+2) 69 4 u3 (iZ cs (ps.take k)).length ((iZ cs (ps.take k)).flatMap aH)):=Lib.hid (au HO.out ((Below.alloc (Below.refl _ _) (Nat.le_refl _) _).trans (hbj.mono (by omega))))
     clear HB HC HO hbj
     by_cases h3:3≤cQ p (cs.take j)
     ·have Hon:Hid (onB cs p=true):=Lib.hid (by unfold onB;rw[←Hct.out];exact decide_eq_true h3)
      generalize cQ p (cs.take j)=cn at*
      go_wp2_with fail
      refine(Bu p _ Hok.out).mono ?_
      rintro e w1 ⟨rfl,hb1⟩
      have HO2:=Lib.hid (au HO1.out hb1)
      have HB2:Hid (w1.heap[w.heap.size]? =some (.cells #[.slice (some ⟨b,off,none⟩) n cc, .slice a' j cc'] 160 (0,0))):=Lib.hid ((hb1.block _ (ah HB1.out)).trans HB1.out)
      have HC2:Hid (w1.heap[w.heap.size+1]? =some (.cells #[.slice none 0 0] 67 (0,0))):=Lib.hid ((hb1.block _ (ah HC1.out)).trans HC1.out)
      have hbw1:Below w.heap.size w w1:=ae hbwr hb1
      have zb1:=hb1.size
      have zC1:=ah HC1.out
      clear HB1 HC1 HO1 hbwr hb1 p0 p1 p2 p3
      go_wp2_with (at_builtin;refine wpList_append_own _ rfl _ _ 65 rfl (w.heap.size+2) 69 i0 (v4 (0,0,0,0)) 4 32 be Hi0.out.1 Hi0.out.2.1 Hi0.out.2.2.1 Hi0.out.2.2.2 rfl (by decide) u3 _ _ rfl (HO2.out.alloc _) ⟨w1.heap.size,0,none⟩ 1 1 (aH (dG p)) rfl rfl ?c1 ?c2 ?c3 ?c4 ?c5 ?_)
      case c1=>
       intro jj uu hu
       rw[jY,aq rfl jj]
       simpa [aH]using hu
      case c2=>exact mh _
      case c3=>unfold maxLen;have:=Hll.out;omega
      case c4=>have:=Hll.out;omega
      case c5=>simp;omega
      intro v' w2 hown2 hg2 _
      have hne1:some (w.heap.size+1)≠u3.ownBlock:=fun e=>aG HO2.out HC2.out (by decide) e.symm
      have hne0:some w.heap.size≠u3.ownBlock:=fun e=>aG HO2.out HB2.out (by decide) e.symm
      have HB3:Hid (w2.heap[w.heap.size]? =some (.cells #[.slice (some ⟨b,off,none⟩) n cc, .slice a' j cc'] 160 (0,0))):=Lib.hid ((hg2.block _ (by simp;omega) hne0).trans ((aB (by omega)).trans HB2.out))
      have HC3:Hid (w2.heap[w.heap.size+1]? =some (.cells #[.slice none 0 0] 67 (0,0))):=Lib.hid ((hg2.block _ (by simp;omega) hne1).trans ((aB (by omega)).trans HC2.out))
      have hbw2:Below w.heap.size w w2:=(hbw1.alloc hbw1.size _).grown hg2 (by simp;omega) (fun q hq=>by obtain⟨h,_⟩:=HO2.out.lt q hq;omega)
      have HO3:=Lib.hid hown2
      clear hown2 hg2 hne0 hne1 HB2 HC2 HO2
      go_wp2
      go_roundw
      case rel=>exact⟨k+1,by omega,by go_num,hbw2,HB3,HC3,Lib.hid (by rw[Hsn.out,Hon.out];simpa using HO3.out)⟩
      case measure=>simp[intOf];omega
     ·have Hon:Hid (onB cs p=false):=Lib.hid (by unfold onB;rw[←Hct.out];exact decide_eq_false h3)
      generalize cQ p (cs.take j)=cn at*
      go_wp2
      go_roundw
      case rel=>exact⟨k+1,by omega,by go_num,hbwr,HB1,HC1,Lib.hid (by rw[Hsn.out,Hon.out];simpa using HO1.out)⟩
      case measure=>simp[intOf];omega
  ·obtain rfl:k=n:=by omega
   subst hn
   have Hll:=Lib.hid (sk cs ps ps.length)
   clear hx
   go_wp2_with fail
   refine(mi (iZ cs (ps.take ps.length)) _ _ u3 wr rfl (by have:=Hll.out;omega) HO.out).mono ?_
   rintro e w1 ⟨rfl,hown1,hg1⟩
   have hne1:some (w.heap.size+1)≠u3.ownBlock:=fun e=>aG HO.out HC.out (by decide) e.symm
   have hbw1:Below w.heap.size w w1:=hb.grown hg1 hb.size (fun q hq=>by obtain⟨h,_⟩:=HO.out.lt q hq;omega)
   have HC1:Hid (w1.heap[w.heap.size+1]? =some (.cells #[.slice none 0 0] 67 (0,0))):=Lib.hid ((hg1.block _ zC hne1).trans HC.out)
   have HO1:=Lib.hid hown1
   clear hown1 hg1 hne1 HO HC HB hb zC
   go_wp2_with fail
   refine(ju (iP (iZ cs (ps.take ps.length))) _ _ u3 w1 (nj _) (by have:=Hll.out;omega) HO1.out).mono ?_
   rintro e w2 ⟨cv',rfl,hg2,⟨a2,m2,c2,rfl⟩,hown2⟩
   have hne1:some (w.heap.size+1)≠u3.ownBlock:=fun e=>aG HO1.out HC1.out (by decide) e.symm
   have hbw2:Below w.heap.size w w2:=hbw1.grown hg2 hbw1.size (fun q hq=>by obtain⟨h,_⟩:=HO1.out.lt q hq;omega)
   have b1:w2.heap[w.heap.size+1]? =some (.cells #[.slice none 0 0] 67 (0,0)):=(hg2.block _ (ah HC1.out) hne1).trans HC1.out
   have r0:w2.cell? ⟨w.heap.size+1,0,none⟩=some (.slice none 0 0):=(ag b1 0).trans rfl
   have f0:=aC b1
   rw[←Hnf.out]at hown2
   have Ho2:=Lib.hid hown2
   have hfar1:=Lib.hid (fun e=>aG hown2 b1 (by decide) e.symm:some (w.heap.size+1)≠(Value.slice a2 m2 c2).ownBlock)
   clear hown2 b1 hg2 HO1 HC1 hbw1 hne1
   go_wp2
   refine bodyPost_ret (v:= .agg #[.slice a2 m2 c2]) (by simp[results,Tryz.results121,go_sem,r0]) rfl ⟨_,rfl, ?_, ?_⟩
   ·exact hbw2.setCell (by simp) _
   ·exact aF Ho2.out _ _ hfar1.out
end
section
open Go.RowKit Go.Shelf
attribute [local go_sem] Ext.cell Ext.frozen
set_option maxRecDepth 100000
def dJ (ps:List Q4) (i k:Nat):Q3:=aN (nrm (bm ps i)) (nrm (bm ps k))
def nzB (l:Q3):Bool:=decide (l≠(0,0,0))
def mR (ps:List Q4) (l:Q3) (m:Nat):Bool:=(ps.take m).any fun r=>decide (0<bj l (nrm r))
def mS (ps:List Q4) (l:Q3) (m:Nat):Bool:=(ps.take m).any fun r=>decide (bj l (nrm r)<0)
def ij (ps:List Q4) (i k:Nat):Bool:= !nzB (dJ ps i k) || (mR ps (dJ ps i k) ps.length&&mS ps (dJ ps i k) ps.length)
def jv (ps:List Q4) (i k:Nat):Bool:=(List.range k).any fun k=>nzB (dJ ps i k)
def jw (ps:List Q4) (i:Nat):Bool:=(List.range i).any fun i=>jv ps i i
def dc (ps:List Q4):Bool:=((List.range ps.length).all fun i=>(List.range i).all fun k=>ij ps i k)&&jw ps ps.length
theorem qT (ps:List Q4) (i k:Nat):jv ps i (k+1)=(jv ps i k || nzB (dJ ps i k)):=by simp[jv,List.range_succ]
theorem qU (ps:List Q4) (i:Nat):jw ps (i+1)=(jw ps i || jv ps i i):=by simp[jw,List.range_succ]
theorem Bv (ps:List Q4) (l:Q3) (m:Nat) (h:m<ps.length):mR ps l (m+1)=(mR ps l m || decide (0<bj l (nrm (bm ps m)))):=by
 unfold mR
 rw[List.take_succ_eq_append_getElem h,List.any_append,eN m h]
 simp
theorem Bw (ps:List Q4) (l:Q3) (m:Nat) (h:m<ps.length):mS ps l (m+1)=(mS ps l m || decide (bj l (nrm (bm ps m))<0)):=by
 unfold mS
 rw[List.take_succ_eq_append_getElem h,List.any_append,eN m h]
 simp
theorem po (ps:List Q4) (i k:Nat) (hi:i<ps.length) (hk:k<i) (h:ij ps i k=false):dc ps=false:=by
 have:((List.range ps.length).all fun i=>(List.range i).all fun k=>ij ps i k)=false:=by
  rw[List.all_eq_false]
  refine⟨i,by simpa using hi, ?_⟩
  rw[Bool.not_eq_true,List.all_eq_false]
  exact⟨k,by simpa using hk,by simp[h]⟩
 simp[dc,this]
theorem nU (ps:List Q4) (h:∀i k,i<ps.length→k<i→ij ps i k=true):dc ps=jw ps ps.length:=by
 have:((List.range ps.length).all fun i=>(List.range i).all fun k=>ij ps i k)=true:=by
  rw[List.all_eq_true]
  intro i hi
  rw[List.all_eq_true]
  intro k hk
  exact h i k (by simpa using hi) (by simpa using hk)
 simp[dc,this]
theorem pp (ps:List Q4) (pv:Value) (w:World) (hps:∀p∈ps,bI p) (hl:ps.length≤1000000) (hpv:Q4s w pv ps):
  Calls Tryz.prog 157 #[pv] w (Ret w (.bool (dc ps))):=by
 obtain⟨a,n,cc,rfl,hn,hnc,hx⟩:=hpv
 have HPS:=Lib.hid hps
 have Hbad:=Lib.hid (po ps)
 have Hgood:=Lib.hid (nU ps)
 generalize dc ps=res at*
 clear hps
 go_enter Tryz.func157,Tryz.ntmps157
 go_wp2
 go_loopw [3,16] (fun s3 i wr=>∃k:Nat,k≤n∧i= .int .i64 k∧s3= .bool (jw ps k)∧Below w.heap.size w wr∧Hid (∀i j,i<k→j<i→ij ps i j=true)) (fun _ i _=>n-(intOf i).toNat)
 case atStart=>exact⟨0,by omega,rfl,rfl,Below.refl _ _,Lib.hid (fun i j h=>by omega)⟩
 case round=>
  obtain⟨k,hk,rfl,rfl,hbk,Hgk⟩:=hrel
  by_cases hlt:k<n
  ·obtain⟨b,off,rfl,hi⟩:=hx (by omega)
   obtain⟨c0,c1,c2,c3⟩:=(hi.below hbk) k (by omega)
   have Hok:=Lib.hid (dN HPS.out k (by omega))
   rw[eN k (by omega)]at c0 c1 c2 c3
   obtain⟨P,HP⟩:∃P,Hid (bm ps k=P):=⟨_,Lib.hid rfl⟩
   rw[HP.out]at c0 c1 c2 c3 Hok
   clear hx
   obtain⟨wo,rfl⟩:∃wo:World,wo=wr:=⟨_,rfl⟩
   have HI:=Lib.hid hi
   clear hi
   go_wp2
   clear c0 c1 c2 c3
   go_loopw [3,25] (fun s3 i wr=>∃j:Nat,j≤k∧i= .int .i64 j∧s3= .bool (jw ps k || jv ps k j)∧Below w.heap.size w wr∧Hid (wr.heap[wo.heap.size]? =some (.cells #[.int .i64 P.1, .int .i64 P.2.1, .int .i64 P.2.2.1, .int .i64 P.2.2.2] 69 (0,0)))∧Hid (∀i,i<j→ij ps k i=true)) (fun _ i _=>k-(intOf i).toNat)
   case atStart=>exact⟨0,by omega,rfl,by simp[jv],ae hbk bel,Lib.hid (ai rfl),Lib.hid (fun i h=>by omega)⟩
   case round=>
    clear hbk
    obtain⟨j,hj,rfl,rfl,hb,HPb,Hgj⟩:=hrel
    by_cases hlt2:j<k
    ·obtain⟨c0,c1,c2,c3⟩:=(HI.out.below hb) j (by omega)
     have HokQ:=Lib.hid (dN HPS.out j (by omega))
     rw[eN j (by omega)]at c0 c1 c2 c3
     obtain⟨Q,HQ⟩:∃Q,Hid (bm ps j=Q):=⟨_,Lib.hid rfl⟩
     rw[HQ.out]at c0 c1 c2 c3 HokQ
     obtain⟨wq,rfl⟩:∃wq:World,wq=wr:=⟨_,rfl⟩
     have zq:=ah HPb.out
     have p0:wq.cell? ⟨wo.heap.size,0,none⟩=some (.int .i64 P.1):=(ag HPb.out 0).trans rfl
     have p1:wq.cell? ⟨wo.heap.size,1,none⟩=some (.int .i64 P.2.1):=(ag HPb.out 1).trans rfl
     have p2:wq.cell? ⟨wo.heap.size,2,none⟩=some (.int .i64 P.2.2.1):=(ag HPb.out 2).trans rfl
     have p3:wq.cell? ⟨wo.heap.size,3,none⟩=some (.int .i64 P.2.2.2):=(ag HPb.out 3).trans rfl
     have oP:=Hok.out
     have oQ:=HokQ.out
     simp only[bI]at oP oQ
     have Hline:Hid (dJ ps k j=aN (nrm P) (nrm Q)):=Lib.hid (by unfold dJ;rw[HP.out,HQ.out])
     have Hfi:=Lib.hid (qT ps k j)
     obtain⟨F,HF⟩:∃F,Hid ((jw ps k || jv ps k j)=F):=⟨_,Lib.hid rfl⟩
     rw[HF.out]
     go_wp2
     clear c0 c1 c2 c3
     have zo1:wo.heap.size<wq.heap.size+1:=by omega
     apply aj [] [0,1,2,3,4,5] 6 [] [sv _,sv _,sv _,sv _,sv _,⟨da (wq.alloc (.cells #[.int .i64 Q.1, .int .i64 Q.2.1, .int .i64 Q.2.2.1, .int .i64 Q.2.2.2] 69)).heap.size 124 #[.int .i64 0, .int .i64 0, .int .i64 0],by first|exact bT _ _|exact dF _ _|exact bU _ _|exact db _ _|exact dS _ _|exact ar _ _ _⟩] (by kernel_rfl) (by kernel_rfl)
     ((try go_frame);refine wkQ ?_)
     try go_frame
     refine wkV ?_
     apply ex3
     ·intro u K hK
      go_simp
      refine(ct _ _ _ _ _).mono ?_
      rintro e w9 ⟨rfl,hb9⟩
      exact hK _ hb9
     rfl
     ((try go_frame);refine wkQ ?_)
     try go_frame
     refine wkV ?_
     apply ex3
     ·intro u K hK
      go_simp
      refine(ct _ _ _ _ _).mono ?_
      rintro e w9 ⟨rfl,hb9⟩
      exact hK _ hb9
     rfl
     try go_frame
     refine wkV ?_
     apply ex3
     ·intro u K hK
      go_simp
      refine(iw _ _ _ _ _ _ _ (by omega) (by omega) (by omega) (by omega) (by omega) (by omega)).mono ?_
      rintro e w9 ⟨rfl,hb9⟩
      exact hK _ hb9
     rfl
     try go_frame
     refine wkU (fun u hR K hK=> ?_) (fun o5=> ?_)
     ·clear hR
      have zw:=u.size
      go_simp
      exact hK _ _ bel ⟨_,rfl,zw,ai rfl⟩
     try go_frame
     refine aI (fun u hR=> ?_)
     obtain⟨gl,rfl,hgl,Hgl⟩:da (wq.alloc (.cells #[.int .i64 Q.1, .int .i64 Q.2.1, .int .i64 Q.2.2.1, .int .i64 Q.2.2.2] 69)).heap.size 124 #[.int .i64 0, .int .i64 0, .int .i64 0] o5 u.val:=hR 5 (by simp)
     have hbl:=u.below
     clear hR
     generalize u.val=wl at*
     clear u
     simp only[oas]
     have g0:wl.cell? ⟨gl,0,none⟩=some (.int .i64 0):=(ag Hgl 0).trans rfl
     have g1:wl.cell? ⟨gl,1,none⟩=some (.int .i64 0):=(ag Hgl 1).trans rfl
     have g2:wl.cell? ⟨gl,2,none⟩=some (.int .i64 0):=(ag Hgl 2).trans rfl
     have gf:=aC Hgl
     have Hb:=Lib.hid Hgl
     have HL:Hid (aN (nrm P) (nrm Q)=(P.2.1*Q.2.2.1-P.2.2.1*Q.2.1,P.2.2.1*Q.1-P.1*Q.2.2.1,P.1*Q.2.1-P.2.1*Q.1)):=Lib.hid rfl
     have bL0:=aL oP.2.1 oP.2.2.1 oQ.2.1 oQ.2.2.1
     have bL1:=aL oP.2.2.1 oP.1 oQ.2.2.1 oQ.1
     have bL2:=aL oP.1 oP.2.1 oQ.1 oQ.2.1
     clear Hgl p0 p1 p2 p3
     generalize P.2.1*Q.2.2.1-P.2.2.1*Q.2.1=l0 at*
     generalize P.2.2.1*Q.1-P.1*Q.2.2.1=l1 at*
     generalize P.1*Q.2.1-P.2.1*Q.1=l2 at*
     try go_frame
     iterate 1 (refine wpList_step (fun K hK=> ?_);go_simp;refine hK _ _ ?_;clear hK K)
     refine NoPanic.normal ?_
     have hv:=kL l0 l1 l2 0 0 0
     obtain⟨wm,Hwm⟩:∃wm,Hid (((wl.setCell ⟨gl,0,none⟩ (.int .i64 l0)).setCell ⟨gl,1,none⟩ (.int .i64 l1)).setCell ⟨gl,2,none⟩ (.int .i64 l2)=wm):=⟨_,Lib.hid rfl⟩
     have hbm:Below (wq.alloc (.cells #[.int .i64 Q.1, .int .i64 Q.2.1, .int .i64 Q.2.2.1, .int .i64 Q.2.2.2] 69)).heap.size (wq.alloc (.cells #[.int .i64 Q.1, .int .i64 Q.2.1, .int .i64 Q.2.2.1, .int .i64 Q.2.2.2] 69)) wm:=by
      rw[←Hwm.out];exact((hbl.setCell hgl _).setCell hgl _).setCell hgl _
     have hbwm:Below w.heap.size w wm:=ae hb (ae bel hbm)
     have HP1:Hid (wm.heap[wo.heap.size]? =some (.cells #[.int .i64 P.1, .int .i64 P.2.1, .int .i64 P.2.2.1, .int .i64 P.2.2.2] 69 (0,0))):=Lib.hid ((hbm.block _ (by simp;omega)).trans ((aB zq).trans HPb.out))
     have Hl:Hid (wm.heap[gl]? =some (.cells #[.int .i64 l0, .int .i64 l1, .int .i64 l2] 124 (0,0))):=by rw[←Hwm.out];exact Lib.hid (br (br (br Hb.out 0 _) 1 _) 2 _)
     rw[Hwm.out]
     rw[HL.out]at Hline
     clear hbl hbm g0 g1 g2 gf Hb Hwm HPb hgl hb
     have e0:wm.cell? ⟨gl,0,none⟩=some (.int .i64 l0):=(ag Hl.out 0).trans rfl
     have e1:wm.cell? ⟨gl,1,none⟩=some (.int .i64 l1):=(ag Hl.out 1).trans rfl
     have e2:wm.cell? ⟨gl,2,none⟩=some (.int .i64 l2):=(ag Hl.out 2).trans rfl
     by_cases hz:l0=0∧l1=0∧l2=0
     ·have hb0:(l0==0&&l1==0&&l2==0)=true:=by simp[hz]
      have Hz:=Lib.hid hz
      rw[hb0]at hv
      clear hz hb0
      have Hnz:Hid (nzB (dJ ps k j)=false):=Lib.hid (by rw[Hline.out,Hz.out.1,Hz.out.2.1,Hz.out.2.2];rfl)
      go_wp2
      go_roundw
      case rel=>exact⟨j+1,by omega,by go_num,by rw[Hfi.out,Hnz.out, ←HF.out];simp,hbwm,HP1,Lib.hid (fun i h=>by
       by_cases e:i=j
       ·subst e;unfold ij;rw[Hnz.out];rfl
       ·exact Hgj.out i (by omega))⟩
      case measure=>simp[intOf];omega
     ·have hb0:(l0==0&&l1==0&&l2==0)=false:=by rw[Bool.eq_false_iff];simp;omega
      rw[hb0]at hv
      clear hb0
      have Hnz:Hid (nzB (dJ ps k j)=true):=Lib.hid (by rw[Hline.out];unfold nzB;rw[decide_eq_true_eq];intro e;injection e with e1 e2;injection e2 with e2 e3;exact hz ⟨e1,e2,e3⟩)
      go_wp2
      go_loopw [9,10,39] (fun s9 s10 i wr=>∃m:Nat,m≤n∧i= .int .i64 m∧s9= .bool (mR ps (l0,l1,l2) m)∧s10= .bool (mS ps (l0,l1,l2) m)∧Below w.heap.size w wr∧Hid (wr.heap[wo.heap.size]? =some (.cells #[.int .i64 P.1, .int .i64 P.2.1, .int .i64 P.2.2.1, .int .i64 P.2.2.2] 69 (0,0)))∧Hid (wr.heap[gl]? =some (.cells #[.int .i64 l0, .int .i64 l1, .int .i64 l2] 124 (0,0)))) (fun _ _ i _=>n-(intOf i).toNat)
      case atStart=>exact⟨0,by omega,rfl,rfl,rfl,hbwm,HP1,Hl⟩
      case round=>
       clear e0 e1 e2 HP1 Hl hv hz hbwm
       obtain⟨m,hm,rfl,rfl,rfl,hb,HP1,Hl⟩:=hrel
       by_cases hlt3:m<n
       ·obtain⟨c0,c1,c2,c3⟩:=(HI.out.below hb) m (by omega)
        have HokR:=Lib.hid (dN HPS.out m (by omega))
        have Hab:=Lib.hid (Bv ps (l0,l1,l2) m (by omega))
        have Hbl:=Lib.hid (Bw ps (l0,l1,l2) m (by omega))
        rw[eN m (by omega)]at c0 c1 c2 c3
        obtain⟨R,HR⟩:∃R,Hid (bm ps m=R):=⟨_,Lib.hid rfl⟩
        rw[HR.out]at c0 c1 c2 c3 HokR Hab Hbl
        obtain⟨wz,rfl⟩:∃wz:World,wz=wr:=⟨_,rfl⟩
        have zP:=ah HP1.out
        have zL:=ah Hl.out
        have e0:wz.cell? ⟨gl,0,none⟩=some (.int .i64 l0):=(ag Hl.out 0).trans rfl
        have e1:wz.cell? ⟨gl,1,none⟩=some (.int .i64 l1):=(ag Hl.out 1).trans rfl
        have e2:wz.cell? ⟨gl,2,none⟩=some (.int .i64 l2):=(ag Hl.out 2).trans rfl
        have oR:=HokR.out
        simp only[bI]at oR
        go_wp2
        clear c0 c1 c2 c3
        have zL1:gl<wz.heap.size+1:=by omega
        refine wqb ?_
        repeat(first|go_big_quiet_step ((first|(go_at_call 139;exact aE (ct _ _ _ _ _))|(go_at_call 142;exact aE (ix _ _ _ _ _ _ _ (by omega) (by omega) (by omega) (by omega) (by omega) (by omega)))))|quiet_step ((first|(go_at_call 139;exact aE (ct _ _ _ _ _))|(go_at_call 142;exact aE (ix _ _ _ _ _ _ _ (by omega) (by omega) (by omega) (by omega) (by omega) (by omega))))))
        refine wqn fun u=> ?_
        have Hden:Hid (bj (l0,l1,l2) (nrm R)=l0*R.1+l1*R.2.1+l2*R.2.2.1):=Lib.hid rfl
        rw[Hden.out]at Hab Hbl
        have HP2:Hid (u.val.heap[wo.heap.size]? =some (.cells #[.int .i64 P.1, .int .i64 P.2.1, .int .i64 P.2.2.1, .int .i64 P.2.2.2] 69 (0,0))):=Lib.hid ((u.below.block _ (by simp;omega)).trans ((aB zP).trans HP1.out))
        have Hl2:Hid (u.val.heap[gl]? =some (.cells #[.int .i64 l0, .int .i64 l1, .int .i64 l2] 124 (0,0))):=Lib.hid ((u.below.block _ (by simp;omega)).trans ((aB zL).trans Hl.out))
        have hb2:Below w.heap.size w u.val:=ae hb (ae bel u.below)
        clear e0 e1 e2 HP1 Hl oR hb
        generalize l0*R.1+l1*R.2.1+l2*R.2.2.1=den at*
        generalize mR ps (l0,l1,l2) m=A at*
        generalize mS ps (l0,l1,l2) m=B at*
        have tri:0<den∨den<0∨den=0:=by omega
        rcases tri with hd|hd|hd
        ·have hd2:¬den<0:=by omega
         rw[decide_eq_true hd]at Hab
         rw[decide_eq_false hd2]at Hbl
         cases A<;>cases B
         all_goals
          go_wp2
          go_roundw
          case rel=>exact⟨m+1,by omega,by go_num,by rw[Hab.out];rfl,by rw[Hbl.out];rfl,hb2,HP2,Hl2⟩
          case measure=>simp[intOf];omega
        ·have hd2:¬0<den:=by omega
         rw[decide_eq_false hd2]at Hab
         rw[decide_eq_true hd]at Hbl
         cases A<;>cases B
         all_goals
          go_wp2
          go_roundw
          case rel=>exact⟨m+1,by omega,by go_num,by rw[Hab.out];rfl,by rw[Hbl.out];rfl,hb2,HP2,Hl2⟩
          case measure=>simp[intOf];omega
        ·subst hd
         cases A<;>cases B
         all_goals
          go_wp2
          go_roundw
          case rel=>exact⟨m+1,by omega,by go_num,by rw[Hab.out];rfl,by rw[Hbl.out];rfl,hb2,HP2,Hl2⟩
          case measure=>simp[intOf];omega
       ·obtain rfl:m=n:=by omega
        have HA:Hid (ij ps k j=(mR ps (l0,l1,l2) m&&mS ps (l0,l1,l2) m)):=Lib.hid (by unfold ij;rw[Hnz.out,Hline.out,hn];rfl)
        have Hbd:=Lib.hid (Hbad.out k j (by omega) hlt2)
        generalize mR ps (l0,l1,l2) m=A at*
        generalize mS ps (l0,l1,l2) m=B at*
        cases A<;>cases B
        ·cases F
         all_goals
          go_wp2
          go_ret
          exact⟨ay (Hbd.out HA.out).symm,hb⟩
        ·cases F
         all_goals
          go_wp2
          go_ret
          exact⟨ay (Hbd.out HA.out).symm,hb⟩
        ·cases F
         all_goals
          go_wp2
          go_ret
          exact⟨ay (Hbd.out HA.out).symm,hb⟩
        ·cases F
         all_goals
          go_wp2
          go_roundw
          case rel=>exact⟨j+1,by omega,by go_num,by rw[Hfi.out,Hnz.out];simp,hb,HP1,Lib.hid (fun i h=>by
           by_cases e:i=j
           ·subst e;exact HA.out
           ·exact Hgj.out i (by omega))⟩
          case measure=>simp[intOf];omega
    ·obtain rfl:j=k:=by omega
     have Hsum:=Lib.hid (qU ps j)
     go_wp2
     go_roundw
     case rel=>exact⟨j+1,by omega,by go_num,by rw[Hsum.out],hb,Lib.hid (fun i q h1 h2=>by
      by_cases e:i=j
      ·subst e;exact Hgj.out q h2
      ·exact Hgk.out i q (by omega) h2)⟩
     case measure=>simp[intOf];omega
  ·obtain rfl:k=n:=by omega
   have Hg:=Lib.hid (Hgood.out (fun i q h1 h2=>Hgk.out i q (by omega) h2))
   clear hx
   go_wp2
   go_ret
   exact⟨ay (by rw[Hg.out,hn]),hbk⟩
end
end Go.Proofs.YtokhkhnofkcalaaGreatDoor
