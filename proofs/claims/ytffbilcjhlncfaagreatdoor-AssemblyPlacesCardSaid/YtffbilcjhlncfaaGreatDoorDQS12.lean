/- texts: Cmp Cmp2 Cmp3 B3. -/
import Derived.Test.YtffbilcjhlncfaaGreatDoorDQS11
import Derived.Lib.SlicesCompact
import Derived.Lib.SliceRun
namespace Go.Proofs.YtffbilcjhlncfaaGreatDoor
set_option maxHeartbeats 8000000
set_option linter.all false
section
open Go.RowKit Go.Shelf Go.Sort Go.Lib
def RowQ (w:World) (g:Nat) (T:TypeId) (d:Array Q4) (sp:List Value):Prop:=w.heap[g]? =some (.cells (d.toList.flatMap aH++sp).toArray T (0,0))
theorem cP (x:Q4):(aH x).length=4:=rfl
theorem RowQ.get {w:World} {g:Nat} {T:TypeId} {d:Array Q4} {sp:List Value} (h:RowQ w g T d sp) (i:Nat) (hi:i<d.size):
  w.cell? ⟨g,i*4,none⟩=some (.int .i64 d[i]!.1)∧w.cell? ⟨g,i*4+1,none⟩=some (.int .i64 d[i]!.2.1)∧w.cell? ⟨g,i*4+2,none⟩=some (.int .i64 d[i]!.2.2.1)∧w.cell? ⟨g,i*4+3,none⟩=some (.int .i64 d[i]!.2.2.2):=by
 have hl:(d.toList.flatMap aH).length=d.size*4:=by rw[dH aH 4 cP];simp
 have key:∀j,j<4→w.cell? ⟨g,i*4+j,none⟩=(aH d[i]!)[j]? :=fun j hj=>by
  rw[bq h,qdp,List.getElem?_append_left (by rw[hl];omega),eQ aH 4 cP d.toList i (by simpa using hi) j hj,getElem!_pos d i hi]
  simp
 exact⟨key 0 (by omega),key 1 (by omega),key 2 (by omega),key 3 (by omega)⟩
theorem RowQ.free {w:World} {g:Nat} {T:TypeId} {d:Array Q4} {sp:List Value} (h:RowQ w g T d sp) (i:Nat):w.frozen? ⟨g,i,none⟩=false:=aC h i
theorem uU (l:List Q4) (i:Nat) (hi:i<l.length) (x:Q4) (sp:List Value):
  ((((l.flatMap aH++sp).set (i*4) (.int .i64 x.1)).set (i*4+1) (.int .i64 x.2.1)).set (i*4+2) (.int .i64 x.2.2.1)).set (i*4+3) (.int .i64 x.2.2.2)=(l.set i x).flatMap aH++sp:=by
 induction l generalizing i with
 |nil=>simp at hi
 |cons y l ih=>
  cases i with
  |zero=>simp[aH]
  |succ i=>
   have:=ih i (by simpa using hi)
   simp only[qgm,List.set_cons_succ,List.append_assoc,aH]at this ⊢
   rw[show(i+1)*4=i*4+4 by omega]
   simp only[List.cons_append,List.nil_append,List.set_cons_succ]
   rw[this]
theorem RowQ.set {w:World} {g:Nat} {T:TypeId} {d:Array Q4} {sp:List Value} (h:RowQ w g T d sp) (i:Nat) (hi:i<d.size) (x:Q4):
  RowQ ((((w.setCell ⟨g,i*4,none⟩ (.int .i64 x.1)).setCell ⟨g,i*4+1,none⟩ (.int .i64 x.2.1)).setCell ⟨g,i*4+2,none⟩ (.int .i64 x.2.2.1)).setCell ⟨g,i*4+3,none⟩ (.int .i64 x.2.2.2)) g T (d.setIfInBounds i x) sp:=by
 have:=Tu (Tu (Tu (Tu h (i*4) (.int .i64 x.1)) (i*4+1) (.int .i64 x.2.1)) (i*4+2) (.int .i64 x.2.2.1)) (i*4+3) (.int .i64 x.2.2.2)
 unfold RowQ
 rw[this]
 simp only[List.setIfInBounds_toArray,Array.toList_setIfInBounds]
 rw[uU _ _ (by simpa using hi)]
theorem RowQ.keep {w w':World} {g:Nat} {T:TypeId} {d:Array Q4} {sp:List Value} (h:RowQ w g T d sp) (hb:Below w.heap.size w w'):RowQ w' g T d sp:=(hb.block g (ah h)).trans h
theorem cB {w w1 w2:World} {row:Option Nat} (h:w.grownBy w1 row) (hb:Below w1.heap.size w1 w2):w.grownBy w2 row:=
 ⟨hb.os.trans h.os,hb.tape.trans h.tape,hb.output.trans h.output,qaD h.size hb.size,fun k hk hne=>(hb.block k (qaG hk h.size)).trans (h.block k hk hne)⟩
theorem cV {w w1:World} {g:Nat} (h:w.grownBy w1 (some g)) (i:Nat) (v:Value):w.grownBy (w1.setCell ⟨g,i,none⟩ v) (some g):=
 ⟨h.os,h.tape,h.output,by simpa [World.setCell]using h.size,fun k hk hne=>(qaH _ _ _ _ (fun e=>hne (by rw[e]))).trans (h.block k hk hne)⟩
theorem XR {w:World} {base g n cap:Nat} {T:TypeId} (d:Array Q4) (h:w.ownsRow base T 4 (.slice (some ⟨g,0,none⟩) n cap) n (d.toList.flatMap aH)):∃sp,RowQ w g T d sp∧base≤g∧cap≤maxLen∧n≤cap∧n*4+sp.length=cap*4:=by
 rcases h.2 with⟨h0,_⟩|⟨g',cap',cur,hv,hb,hh,hc,hm,hcs,ht⟩
 ·cases h0
 ·injection hv with h1 h2 h3
  injection h1 with h1
  injection h1 with h1
  subst h1 h3
  refine⟨cur.toList.drop (n*4), ?_,hb,hm,hc, ?_⟩
  ·unfold RowQ
   rw[←ht,List.take_append_drop]
   simpa using hh
  ·have:=Nat.mul_le_mul_right 4 hc
   simp;omega
theorem gB {w:World} {base g n m cap:Nat} {T:TypeId} {d:Array Q4} {sp:List Value} (h:RowQ w g T d sp) (hb:base≤g) (hm:cap≤maxLen) (hd:d.size=n) (hs:n*4+sp.length=cap*4) (hle:m≤n):
  w.ownsRow base T 4 (.slice (some ⟨g,0,none⟩) m cap) m ((d.toList.take m).flatMap aH):=by
 have hl:(d.toList.flatMap aH).length=n*4:=by rw[dH aH 4 cP];simp[hd]
 have ht:∀(l:List Q4) (m:Nat),(l.flatMap aH).take (m*4)=(l.take m).flatMap aH:=by
  intro l
  induction l with
  |nil=>simp
  |cons x l ih=>
   intro m
   cases m with
   |zero=>simp
   |succ m=>
    simp only[qgm,qdv]
    rw[List.take_append,qaK (by rw[cP];omega),cP,show(m+1)*4-4=m*4 by omega,ih]
 refine⟨by rw[dH aH 4 cP];simp;omega, .inr ⟨g,cap,_,rfl,hb,h,by omega,hm,by simp only[List.size_toArray,qaE];omega, ?_⟩⟩
 simp only
 rw[List.take_append_of_le_length (by rw[hl];omega),ht]
theorem qM:∀w,(zeroValue 186).run Tryz.prog w= .ok (v4 (0,0,0,0)) w:=fun _=>by kernel_rfl
theorem iX {P:Program} (w:World) (t e ty:TypeId) (ht:P.underlying t=some (.slice e)) (hv:∀w,(zeroValue e).run P w= .ok (v4 (0,0,0,0)) w) (b o n c:Nat) (hn:0<n)
  (hc:∀j,j<n*4→(w.cell? ⟨b,o+j,none⟩).isSome=true) (hf:∀j,j<n*4→w.frozen? ⟨b,o+j,none⟩=false):
  (Builtin.clear_ #[t] ty #[.slice (some ⟨b,o,none⟩) n c]).run P w= .ok (.tuple #[]) (w.setCells b o (List.replicate (n*4) (.int .i64 0))):=by
 have hzc:(Builtin.zeroCells (v4 (0,0,0,0)).cells n).toList=List.replicate (n*4) (.int .i64 0):=by
  apply List.ext_getElem
  ·simp[Builtin.zeroCells,Value.cells]
  ·intro i h1 h2
   simp[Builtin.zeroCells,Value.cells]
   have:i % 4=0∨i % 4=1∨i % 4=2∨i % 4=3:=by omega
   rcases this with h|h|h|h<;>simp[h]
 have hst:=run_storeCells_cells (P:=P) b o (List.replicate (n*4) (.int .i64 0)) 0 w (by simpa using hc) (by simpa using hf) (by intro v hv';rw[List.eq_of_mem_replicate hv'];rfl)
 simp only[Nat.add_zero]at hst
 obtain⟨m,rfl⟩:∃m,n=m+1:=⟨n-1,by omega⟩
 simp[Builtin.clear_,run_underlying ht,hv,hzc,hst]
theorem ft (g:Nat) (T:TypeId):∀(vs:List Value) (o:Nat) (w:World) (cur:Array Value),w.heap[g]? =some (.cells cur T (0,0))→
  ∃cur',(w.setCells g o vs).heap[g]? =some (.cells cur' T (0,0))∧cur'.size=cur.size∧∀i,i<o→cur'[i]? =cur[i]?
 | [],_,_,cur,h=>⟨cur,h,rfl,fun _ _=>rfl⟩
 |v::r,o,w,cur,h=>by
  obtain⟨cur',h1,h2,h3⟩:=ft g T r (o+1) (w.setCell ⟨g,o,none⟩ v) _ (Tu h o v)
  refine⟨cur',h1,by rw[h2];simp,fun i hi=> ?_⟩
  rw[h3 i (by omega),Array.getElem?_setIfInBounds_ne (by omega)]
theorem ee {w:World} {g:Nat}:∀(vs:List Value) (o:Nat) (w1:World),w.grownBy w1 (some g)→w.grownBy (w1.setCells g o vs) (some g)
 | [],_,_,h=>h
 |v::r,o,_,h=>ee r (o+1) _ (cV h o v)
theorem eqF (d:Nat) (a x:Int) (w:World):(Op.equalIn (d+1) 3 (.int .i64 a) (.int .i64 x)).run Tryz.prog w= .ok (a==x) w:=run_equalIn_int w d _ .i64 _ a x eJ
theorem xr (x y z q:Value) (w:World):(part 3 #[x,y,z,q] 0).run Tryz.prog w= .ok x w:=by kernel_rfl
theorem xt (x y z q:Value) (w:World):(part 3 #[x,y,z,q] 1).run Tryz.prog w= .ok y w:=by kernel_rfl
theorem xu (x y z q:Value) (w:World):(part 3 #[x,y,z,q] 2).run Tryz.prog w= .ok z w:=by kernel_rfl
theorem xw (x y z q:Value) (w:World):(part 3 #[x,y,z,q] 3).run Tryz.prog w= .ok q w:=by kernel_rfl
theorem yJ:Tryz.prog.underlying 186=some (.struct (Tryz.prog.fieldsOf 186)):=by kernel_rfl
theorem yK:Tryz.prog.underlying 190=some (.struct (Tryz.prog.fieldsOf 190)):=by kernel_rfl
theorem sS:(Tryz.prog.fieldsOf 186).toList.map (fun f=>(f.type,f.offset,decide (f.name≠ "_")))=[(3,0,true),(3,1,true),(3,2,true),(3,3,true)]:=by kernel_rfl
theorem sT:(Tryz.prog.fieldsOf 190).toList.map (fun f=>(f.type,f.offset,decide (f.name≠ "_")))=[(3,0,true),(3,1,true),(3,2,true),(3,3,true)]:=by kernel_rfl
theorem qbV (d:Nat) (fs:List Field) (hf:fs.map (fun f=>(f.type,f.offset,decide (f.name≠ "_")))=[(3,0,true),(3,1,true),(3,2,true),(3,3,true)]) (a b c e x y z q:Int) (w:World):
  (Op.eqFields (d+1) #[.int .i64 a, .int .i64 b, .int .i64 c, .int .i64 e] #[.int .i64 x, .int .i64 y, .int .i64 z, .int .i64 q] fs).run Tryz.prog w= .ok (a==x&&b==y&&c==z&&e==q) w:=by
 have hlen:fs.length=4:=by simpa using congrArg List.length hf
 match fs,hlen,hf with
 | [f0,f1,f2,f3],_,hf=>
  simp only[List.map_cons,List.map_nil,List.cons.injEq,Prod.mk.injEq,and_true,qfV]at hf
  obtain⟨⟨a0,o0,n0⟩,⟨a1,o1,n1⟩,⟨a2,o2,n2⟩,⟨a3,o3,n3⟩⟩:=hf
  simp[Op.eqFields,a0,o0,n0,a1,o1,n1,a2,o2,n2,a3,o3,n3,xr,xt,xu,xw,eqF]
  by_cases h1:a=x<;>by_cases h2:b=y<;>by_cases h3:c=z<;>by_cases h4:e=q<;>simp[h1,h2,h3,h4]
theorem qN (a b c e x y z q:Int) (w:World):(Op.equalIn 10000 186 (v4 (a,b,c,e)) (v4 (x,y,z,q))).run Tryz.prog w= .ok (a==x&&b==y&&c==z&&e==q) w:=by
 rw[run_equalIn_struct w 9999 _ _ _ yJ (by kernel_rfl),qbV 9998 _ sS]
theorem qO (a b c e x y z q:Int) (w:World):(Op.equalIn 10000 190 (v4 (a,b,c,e)) (v4 (x,y,z,q))).run Tryz.prog w= .ok (a==x&&b==y&&c==z&&e==q) w:=by
 rw[run_equalIn_struct w 9999 _ _ _ yK (by kernel_rfl),qbV 9998 _ sT]
theorem zS (x y:Q4):(x.1==y.1&&x.2.1==y.2.1&&x.2.2.1==y.2.2.1&&x.2.2.2==y.2.2.2)=decide (x=y):=by
 obtain⟨a,b,c,d⟩:=x
 obtain⟨a',b',c',d'⟩:=y
 rw[Bool.eq_iff_iff]
 simp[Prod.ext_iff,and_assoc]
theorem yA (x y:Q4) (w:World):(Op.equalIn 10000 186 (.agg #[.int .i64 x.1, .int .i64 x.2.1, .int .i64 x.2.2.1, .int .i64 x.2.2.2]) (.agg #[.int .i64 y.1, .int .i64 y.2.1, .int .i64 y.2.2.1, .int .i64 y.2.2.2])).run Tryz.prog w= .ok (decide (x=y)) w:=by
 rw[←zS];exact qN _ _ _ _ _ _ _ _ w
theorem nh (x y:Q4) (w:World):(Op.equalIn 10000 190 (.agg #[.int .i64 x.1, .int .i64 x.2.1, .int .i64 x.2.2.1, .int .i64 x.2.2.2]) (.agg #[.int .i64 y.1, .int .i64 y.2.1, .int .i64 y.2.2.1, .int .i64 y.2.2.2])).run Tryz.prog w= .ok (decide (x=y)) w:=by
 rw[←zS];exact qO _ _ _ _ _ _ _ _ w
end
section
open Go.RowKit Go.Shelf Go.Sort Go.Lib
attribute [local go_sem] Ext.cell Ext.frozen
theorem Df (d:Array Q4) (m:Nat):(compactUpTo d m).length≤m:=by
 unfold compactUpTo
 rw[qdo]
 exact qaD (qdz _ _) (by simp)
theorem nR:Tryz.prog.underlying 98=some (.slice 186):=by kernel_rfl
theorem TA:Tryz.prog.underlying 162=some (.slice 190):=by kernel_rfl
set_option maxRecDepth 100000 in
theorem mg (d:Array Q4) (g n cap base:Nat) (w:World) (hd:d.size=n) (hn:n≤10000000) (h2:2≤n) (hown:w.ownsRow base 186 4 (.slice (some ⟨g,0,none⟩) n cap) n (d.toList.flatMap aH)):
  Calls Tryz.prog 203 #[.slice (some ⟨g,0,none⟩) n cap] w fun e w'=>e= .returned (.slice (some ⟨g,0,none⟩) (compactUpTo d n).length cap)∧w.grownBy w' (some g)∧
   w'.ownsRow base 186 4 (.slice (some ⟨g,0,none⟩) (compactUpTo d n).length cap) (compactUpTo d n).length ((compactUpTo d n).flatMap aH):=by
 obtain⟨sp,hrow,hbase,hcap,hnc,hsp⟩:=XR d hown
 have HR:=YJ hrow
 clear hown hrow
 go_enter Tryz.func203,Tryz.ntmps203
 go_wp2
 go_loopw [3] (fun i wr=>∃k:Nat,1≤k∧k≤n∧i= .int .i64 k∧w.grownBy wr (some g)∧Hid (RowQ wr g 186 d sp)∧Hid (∀j,j<k→keeps d j=true)) (fun i _=>n-(intOf i).toNat)
 case atStart=>exact⟨1,by omega,by omega,rfl,⟨rfl,rfl,rfl,qaA _,fun _ _ _=>rfl⟩,HR,YJ (keeps_lt_one d)⟩
 case round=>
  clear HR
  obtain⟨k,hk1,hk,rfl,hgr,HR,Ha⟩:=hrel
  by_cases hlt:k<n
  ·obtain⟨c0,c1,c2,c3⟩:=HR.out.get k (by omega)
   obtain⟨e0,e1,e2,e3⟩:=HR.out.get (k-1) (by omega)
   have zg:=ah HR.out
   obtain⟨x,Hx⟩:∃x,Hid (d[k]! =x):=⟨_,YJ rfl⟩
   obtain⟨y,Hy⟩:∃y,Hid (d[k-1]! =y):=⟨_,YJ rfl⟩
   rw[Hx.out]at c0 c1 c2 c3
   rw[Hy.out]at e0 e1 e2 e3
   have hq:=yA x y
   by_cases hxy:x=y
   ·have Hxy:=YJ hxy
    rw[qfX hxy]at hq
    clear hxy
    go_wp2
    refine wqf fun u=> ?_
    have HR1:Hid (RowQ u.val g 186 d sp):=YJ (HR.out.keep u.below)
    have hgr1:=cB hgr u.below
    clear c0 c1 c2 c3 e0 e1 e2 e3 hq HR hgr
    go_wp2
    go_loopw [3,5] (fun s3 s5 wr=>∃(kk k2:Nat) (dk:Array Q4),s3= .int .i64 kk∧s5= .int .i64 k2∧1≤k2∧k+k2≤n∧w.grownBy wr (some g)∧Hid (RowQ wr g 186 dk sp)∧Hid (CompInv d (k+k2) kk dk)) (fun _ i _=>n-(intOf i).toNat)
    case atStart=>exact⟨k,1,d,rfl,rfl,qaA _,by omega,hgr1,HR1,YJ (CompInv.start Ha.out (keeps_neg (by omega) (by rw[Hx.out,Hy.out];exact Hxy.out)))⟩
    case round=>
     clear HR1 hgr1
     obtain⟨kk,k2,dk,rfl,rfl,h1,hle,hgr,HR,HI⟩:=hrel
     have hkk:=HI.out.lt
     have hds:=HI.out.size
     have zg:=ah HR.out
     have fz:=HR.out.free
     by_cases hlt2:k+k2<n
     ·obtain⟨c0,c1,c2,c3⟩:=HR.out.get (k+k2) (by omega)
      obtain⟨e0,e1,e2,e3⟩:=HR.out.get (k+k2-1) (by omega)
      obtain⟨d0,d1,d2,d3⟩:=HR.out.get kk (by omega)
      rw[HI.out.high (k+k2) (by omega),show(k+k2)*4=k*4+k2*4 by omega]at c0 c1 c2 c3
      rw[HI.out.high (k+k2-1) (by omega),show(k+k2-1)*4=k*4+(k2-1)*4 by omega]at e0 e1 e2 e3
      obtain⟨x2,Hx2⟩:∃x,Hid (d[k+k2]! =x):=⟨_,YJ rfl⟩
      obtain⟨y2,Hy2⟩:∃y,Hid (d[k+k2-1]! =y):=⟨_,YJ rfl⟩
      rw[Hx2.out]at c0 c1 c2 c3
      rw[Hy2.out]at e0 e1 e2 e3
      have hq:=yA x2 y2
      have Hds:=YJ hds
      clear hds
      by_cases hxy2:x2=y2
      ·have Hxy2:=YJ hxy2
       rw[qfX hxy2]at hq
       clear hxy2
       go_wp2
       refine wqf fun u=> ?_
       have HR1:Hid (RowQ u.val g 186 dk sp):=YJ (HR.out.keep u.below)
       have hgr1:=cB hgr u.below
       clear c0 c1 c2 c3 e0 e1 e2 e3 d0 d1 d2 d3 hq HR hgr
       go_wp2
       go_roundw
       case rel=>exact⟨kk,k2+1,dk,rfl,by go_num,by omega,by omega,hgr1,HR1,YJ (HI.out.skip (keeps_neg (by omega) (by rw[Hx2.out,Hy2.out];exact Hxy2.out)))⟩
       simp[intOf];omega
      ·have Hxy2:=YJ hxy2
       rw[qfZ hxy2]at hq
       clear hxy2
       go_wp2
       refine wqf fun u=> ?_
       have HR1:Hid (RowQ u.val g 186 dk sp):=YJ (HR.out.keep u.below)
       have hgr1:=cB hgr u.below
       have zu:g<u.val.heap.size:=ah HR1.out
       go_wp2
       go_roundw
       case rel=>
        refine⟨kk+1,k2+1,dk.setIfInBounds kk x2,by go_num,by go_num,by omega,by omega,cV (cV (cV (cV hgr1 _ _) _ _) _ _) _ _,YJ (HR1.out.set kk (by have:=Hds.out;omega) x2),YJ ?_⟩
        have:=HI.out.keep (by omega) (keeps_pos (by rw[Hx2.out,Hy2.out];exact Hxy2.out))
        rw[Hx2.out]at this
        exact this
       case measure=>simp[intOf];omega
     ·have hend:k+k2=n:=by omega
      have hcl:∀ty,(Builtin.clear_ #[98] ty #[.slice (some ⟨g,kk*4,none⟩) (n-kk) (cap-kk)]).run Tryz.prog wr= .ok (.tuple #[]) (wr.setCells g (kk*4) (List.replicate ((n-kk)*4) (.int .i64 0))):=fun ty=>
       iX wr _ _ ty nR qM g (kk*4) _ _ (by omega) (fun j hj=>by
        rw[bq HR.out]
        have hl:(dk.toList.flatMap aH).length=n*4:=by rw[dH aH 4 cP];simp;omega
        have hlt:kk*4+j<(dk.toList.flatMap aH++sp).toArray.size:=by simp only[List.size_toArray,qaE,hl];omega
        rw[Array.getElem?_eq_getElem hlt];rfl) (fun j _=>fz _)
      have Hend:=YJ hend
      have Hds:=YJ hds
      clear hds hend fz
      go_wp2
      go_ret
      have hlen:(compactUpTo d n).length=kk:=by have:=HI.out.len;rwa [Hend.out]at this
      rw[hlen]
      refine⟨rfl,ee _ _ _ hgr, ?_⟩
      have hlow:compactUpTo d n=dk.toList.take kk:=by
       apply List.ext_getElem?
       intro i
       by_cases hi:i<kk
       ·have:=HI.out.low i hi
        rw[Hend.out]at this
        rw[this,qdx hi,Array.getElem?_toList,Array.getElem?_eq_getElem (by have:=Hds.out;omega),getElem!_pos _ i (by have:=Hds.out;omega)]
       ·rw[List.getElem?_eq_none (by omega),List.getElem?_eq_none (by simp;omega)]
      obtain⟨cur',hb',hs',hsame⟩:=ft g 186 (List.replicate ((n-kk)*4) (.int .i64 0)) (kk*4) wr _ HR.out
      have hown0:=gB (m:=kk) (n:=n) HR.out hbase hcap (by have:=Hds.out;omega) hsp (by omega)
      rw[hlow]
      refine⟨hown0.1, .inr ⟨g,cap,cur',rfl,hbase,hb',by omega,hcap, ?_, ?_⟩⟩
      ·rw[hs'];simp only[List.size_toArray,qaE];rw[dH aH 4 cP];simp;have:=Hds.out;omega
      ·rcases hown0.2 with⟨h0,_⟩|⟨g',cap',cur,hv,_,hh,_,_,_,ht⟩
       ·cases h0
       ·injection hv with h1 h2 h3
        injection h1 with h1
        injection h1 with h1
        subst h1
        rw[HR.out]at hh
        injection hh with hh
        injection hh with hh
        subst hh
        rw[←ht]
        apply List.ext_getElem?
        intro i
        by_cases hi:i<kk*4
        ·rw[qdx hi,qdx hi]
         simpa using hsame i hi
        ·rw[List.getElem?_eq_none (by simp;omega),List.getElem?_eq_none (by simp;omega)]
   ·have Hxy:=YJ hxy
    rw[qfZ hxy]at hq
    clear hxy
    go_wp2
    refine wqf fun u=> ?_
    have HR1:Hid (RowQ u.val g 186 d sp):=YJ (HR.out.keep u.below)
    have hgr1:=cB hgr u.below
    clear c0 c1 c2 c3 e0 e1 e2 e3 hq HR hgr
    go_wp2
    go_roundw
    case rel=>exact⟨k+1,by omega,by omega,by go_num,hgr1,HR1,YJ (fun j hj=>by
     by_cases e:j=k
     ·subst e;exact keeps_pos (by rw[Hx.out,Hy.out];exact Hxy.out)
     ·exact Ha.out j (by omega))⟩
    simp[intOf];omega
  ·obtain rfl:k=n:=by omega
   go_wp2
   go_ret
   have e:compactUpTo d k=d.toList:=by rw[compactUpTo_all d _ Ha.out, ←hd,range_map_get]
   have hl:(compactUpTo d k).length=k:=by rw[e];simpa using hd
   rw[hl]
   refine⟨rfl,hgr, ?_⟩
   have:=gB (m:=k) HR.out hbase hcap hd hsp (qaA _)
   rw[e]
   rwa [qaK (by simp[hd])]at this
theorem ig (a:Option Addr) (n c:Nat) (w:World) (h:n<2):Calls Tryz.prog 203 #[.slice a n c] w fun e w'=>e= .returned (.slice a n c)∧w=w':=by
 go_enter Tryz.func203,Tryz.ntmps203
 go_wp2
 go_ret
 exact⟨rfl,rfl⟩
theorem sU (a b c d:Int):aU [-a, -b, -c, -d]=aU [a,b,c,d]:=by simp[aU]
theorem ph (a b c d:Int) (hp:0<aU [a,b,c,d]):aU [a / aU [a,b,c,d],b / aU [a,b,c,d],c / aU [a,b,c,d],d / aU [a,b,c,d]]=1:=by
 have key:∀x∈[a,b,c,d],x=(aU [a,b,c,d]:Int)*(x / aU [a,b,c,d]):=fun x hx=>(Int.mul_ediv_cancel' (aY _ x hx)).symm
 have h1:aU [a / aU [a,b,c,d],b / aU [a,b,c,d],c / aU [a,b,c,d],d / aU [a,b,c,d]]*aU [a,b,c,d] ∣ aU [a,b,c,d]:=by
  apply ED
  intro x hx
  rw[key x hx,Int.natCast_mul,Int.mul_comm]
  apply Int.mul_dvd_mul_left
  simp only[alsk,List.not_mem_nil,or_false]at hx
  apply aY
  rcases hx with rfl|rfl|rfl|rfl<;>simp
 obtain⟨k,hk⟩:=h1
 have h2:aU [a,b,c,d]*1=aU [a,b,c,d]*(aU [a / aU [a,b,c,d],b / aU [a,b,c,d],c / aU [a,b,c,d],d / aU [a,b,c,d]]*k):=by
  rw[Nat.mul_one, ←Nat.mul_assoc,Nat.mul_comm (aU [a,b,c,d]) (aU [_,_,_,_])];exact hk
 have h3:=Nat.eq_of_mul_eq_mul_left hp h2
 exact Nat.eq_one_of_mul_eq_one_right h3.symm
theorem Ji (a b c den:Int) (ha: -10000000000≤a∧a≤10000000000) (hb: -10000000000≤b∧b≤10000000000) (hc: -10000000000≤c∧c≤10000000000)
  (hd: -1000000≤den∧den≤1000000) (h0:den≠0):dI (eu a b c den):=by
 refine⟨Gy a b c den ha hb hc hd h0, ?_⟩
 have hp:=gj a b c den h0
 unfold eu
 split
 ·exact(sU _ _ _ _).trans (ph a b c den hp)
 ·exact ph a b c den hp
theorem sV (p q r:Q4) (den:Int) (hp:bI p) (hq:bI q) (hr:bI r) (hd: -1000000≤den∧den≤1000000) (h0:den≠0):dI (TB p q r den):=by
 simp only[bI]at hp hq hr
 refine Ji _ _ _ _ ?_ ?_ ?_ hd h0
 ·exact iA hp.2.2.2 hq.2.2.2 hr.2.2.2 (aL hq.2.1 hq.2.2.1 hr.2.1 hr.2.2.1) (aL hr.2.1 hr.2.2.1 hp.2.1 hp.2.2.1) (aL hp.2.1 hp.2.2.1 hq.2.1 hq.2.2.1)
 ·exact iA hp.2.2.2 hq.2.2.2 hr.2.2.2 (aL hq.2.2.1 hq.1 hr.2.2.1 hr.1) (aL hr.2.2.1 hr.1 hp.2.2.1 hp.1) (aL hp.2.2.1 hp.1 hq.2.2.1 hq.1)
 ·exact iA hp.2.2.2 hq.2.2.2 hr.2.2.2 (aL hq.1 hq.2.1 hr.1 hr.2.1) (aL hr.1 hr.2.1 hp.1 hp.2.1) (aL hp.1 hp.2.1 hq.1 hq.2.1)
theorem iD (ps:List Q4) (h:∀p∈ps,bI p) (n:Nat) (hn:n≤ps.length):∀c∈raw ps n,dI c:=by
 intro c hc
 simp only[raw,gJ,gI,List.mem_flatMap,ultv]at hc
 obtain⟨i,hi,k,hk,m,hm,hc⟩:=hc
 unfold jo at hc
 split at hc
 ·cases hc
 ·rename_i h0
  split at hc
  ·rw[ultg]at hc
   subst hc
   have b:=lV _ _ _ (eV h i (by omega)) (eV h k (by omega)) (eV h m (by omega))
   exact sV _ _ _ _ (eV h i (by omega)) (eV h k (by omega)) (eV h m (by omega)) (by omega) h0
  ·cases hc
def aS (ps:List Q4):List Q4:=Lib.compact (ed (raw ps ps.length))
theorem ni (cs:List Q4):(ed cs).length=cs.length:=by simp[ed]
theorem uW (cs:List Q4) (hcs:∀c∈cs,dI c) (base n:Nat) (cv:Value) (w:World) (hn:cs.length=n) (hs:n<4611686018427387904)
  (hown:w.ownsRow base 186 4 cv n (cs.flatMap aH)):
  Calls Tryz.prog 201 #[cv, .func (.func 202) #[] #[]] w fun e w'=>
   e= .returned (.tuple #[])∧w'.ownsRow base 186 4 cv n ((ed cs).flatMap aH)∧w.grownBy w' cv.ownBlock:=by
 by_cases h0:0<n
 ·obtain⟨g,cap,rfl,_,_⟩:=fF hown h0
  exact pf cs hcs base g n cap w hn hs hown
 ·obtain rfl:n=0:=by omega
  have hnil:cs=[]:=alto.1 hn
  subst hnil
  have hf:∃a cap,cv= .slice a 0 cap:=by
   rcases hown.2 with⟨rfl,_⟩|⟨g,cap,cur,rfl,_⟩
   ·exact⟨_,_,rfl⟩
   ·exact⟨_,_,rfl⟩
  obtain⟨a,cap,rfl⟩:=hf
  refine Calls.mono (show Calls Tryz.prog 201 _ _ _ from AnyF.slices_SortFunc_none Tryz.sortCorner a cap _ w) ?_
  rintro e w' ⟨rfl,rfl⟩
  exact⟨rfl,by simpa [ed]using hown,⟨rfl,rfl,rfl,qaA _,fun _ _ _=>rfl⟩⟩
theorem pi (cs:List Q4) (base n:Nat) (cv:Value) (w:World) (hn:cs.length=n) (hs:n≤10000000) (hown:w.ownsRow base 186 4 cv n (cs.flatMap aH)):
  Calls Tryz.prog 203 #[cv] w fun e w'=>∃cv',e= .returned cv'∧w.grownBy w' cv.ownBlock∧(∃a m c,cv'= .slice a m c)∧
   w'.ownsRow base 186 4 cv' (Lib.compact cs).length ((Lib.compact cs).flatMap aH):=by
 by_cases h2:2≤n
 ·obtain⟨g,cap,rfl,_,_⟩:=fF hown (by omega)
  refine(mg cs.toArray g n cap base w (by simpa using hn) hs h2 (by simpa using hown)).mono ?_
  rintro e w' ⟨rfl,hg,ho⟩
  have e:compactUpTo cs.toArray n=Lib.compact cs:=by unfold Lib.compact;rw[hn]
  rw[e]at ho ⊢
  exact⟨_,rfl,hg,⟨_,_,_,rfl⟩,ho⟩
 ·have hf:∃a cap,cv= .slice a n cap:=by
   rcases hown.2 with⟨rfl,h⟩|⟨g,cap,cur,rfl,_⟩
   ·exact⟨_,_,by rw[h]⟩
   ·exact⟨_,_,rfl⟩
  obtain⟨a,cap,rfl⟩:=hf
  refine(ig a n cap w (by omega)).mono ?_
  rintro e w' ⟨rfl,rfl⟩
  have e:Lib.compact cs=cs:=compact_all cs (fun j hj=>keeps_lt_one _ j (by omega))
  rw[e,hn]
  exact⟨_,rfl,⟨rfl,rfl,rfl,qaA _,fun _ _ _=>rfl⟩,⟨_,_,_,rfl⟩,hown⟩
theorem aT {w:World} {base:Nat} {e:TypeId} {size n:Nat} {v:Value} {xs:List Value} (h:w.ownsRow base e size v n xs):∃a c,v= .slice a n c:=by
 rcases h.2 with⟨hv,h0⟩|⟨g,cap,cur,hv,_⟩
 ·exact⟨none,0,by rw[hv,h0]⟩
 ·exact⟨_,_,hv⟩
theorem jz {w:World} {base:Nat} {T:TypeId} {v:Value} {cs:List Q4} (h:w.ownsRow base T 4 v cs.length (cs.flatMap aH)):Q4s w v cs:=by
 rcases h.2 with⟨rfl,h0⟩|⟨g,cap,cur,rfl,hb,hh,hc,hm,hcs,ht⟩
 ·exact⟨none,0,0,rfl,h0,qaA _,fun h=>absurd h (by omega)⟩
 ·refine⟨some ⟨g,0,none⟩,cs.length,cap,rfl,rfl,hc,fun _=>⟨g,0,rfl,fun i hi=> ?_⟩⟩
  have key:∀j,j<4→w.cell? ⟨g,i*4+j,none⟩=(aH cs[i])[j]? :=fun j hj=>by
   rw[bq hh, ←eQ aH 4 cP cs i hi j hj, ←ht,qdx (by omega),Array.getElem?_toList]
  simp only[qfW]
  exact⟨key 0 (by omega),key 1 (by omega),key 2 (by omega),key 3 (by omega)⟩
end
end Go.Proofs.YtffbilcjhlncfaaGreatDoor
