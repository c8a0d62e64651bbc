/- texts: CPA O18 O19 DPA MF2 O13. -/
import Derived.Test.YtffbilcjhlncfaaGreatDoorDQS38
import Derived.Maps.OwnOps
namespace Go.Proofs.YtffbilcjhlncfaaGreatDoor
set_option maxHeartbeats 8000000
set_option linter.all false
section
open Go.RowKit Go.Shelf Go.Maps Go.ChangeMaps
theorem qes:Tryz.prog.underlying 84=some (.int .u64):=by kernel_rfl
theorem qeD:Tryz.prog.underlying 4=some .bool:=by kernel_rfl
theorem qeJ:Tryz.prog.underlying 125=some (.map 84 4):=by kernel_rfl
theorem qeX (u:World):(zeroValue 4).run Tryz.prog u= .ok (.bool false) u:=by kernel_rfl
def OwB (w:World) (b n:Nat) (K:Nat→Bool):Prop:=∃D:DataW Value,w.ownsMap Tryz.prog 84 (plainElem Tryz.prog 4) b n D∧∀x:Nat,x<4096→D.atKey (.int .u64 x) (.lit (.bool false))= .lit (.bool (K x))
theorem qfL {x:Nat} (h:x<4096):(Lit.int .u64 x).wf=true:=by
 have h1:IntKind.u64.min=0:=by decide
 have h2:IntKind.u64.max=18446744073709551615:=by decide
 show(decide (IntKind.u64.min≤(x:Int))&&decide ((x:Int)≤IntKind.u64.max))=true
 rw[h1,h2,qaF,qfV,qfV]
 omega
theorem qfM {x:Nat} (h:x<4096):keyOf Tryz.prog 84 (.int .u64 x)=some (.int .u64 x):=keyOf_int_mk qes (qfL h)
theorem qfs {y x:Nat} (h:¬y=x):(Lit.int .u64 (y:Int))≠ .int .u64 (x:Int):=fun e=>h (by injection e with _ e;exact Int.ofNat_inj.1 e)
theorem OwB.made (w:World):OwB (w.alloc (.map #[] 0)) w.heap.size 0 (fun _=>false):=⟨.map [],World.ownsMap_made w Tryz.prog _ _,fun x _=>rfl⟩
theorem qfk {v:Value} {c:Bool} {ps:List MemPlace} (h:plainElem (H:=Value) Tryz.prog 4 v=some (.lit (.bool c),ps)):v= .bool c:=by
 unfold plainElem at h
 rw[qeD]at h
 cases v with
 |bool x=>simp at h;rw[h.1]
 |_=>simp at h
theorem OwB.look {w:World} {b n:Nat} {K:Nat→Bool} (h:OwB w b n K) {x:Nat} (hx:x<4096):(Instr.lookup 125 (.map (some b)) (.int .u64 x) false).run Tryz.prog w= .ok (.bool (K x)) w:=by
 obtain⟨D,h,hK⟩:=h
 obtain⟨v,ps,hrun,hv⟩:=h.lookup (int_keyed qes) qeJ (qeX w) (plainElem_bool qeD false) (qfM hx)
 rw[hrun]
 rw[hK x hx]at hv
 rw[qfk hv]
theorem OwB.put {w:World} {b n:Nat} {K:Nat→Bool} (h:OwB w b n K) (hn:n<maxLen) {x:Nat} (hx:x<4096):∃w',(Instr.mapUpdate 125 (.map (some b)) (.int .u64 x) (.bool true)).run Tryz.prog w= .ok () w'∧OwB w' b (n+1) (fun y=>if y=x then true else K y)∧w.grownBy w' (some b):=by
 obtain⟨D,h,hK⟩:=h
 obtain⟨w',hrun,ho,hg⟩:=h.update (int_keyed qes) qeJ hn (qfM hx) (plainElem_bool qeD true)
 refine⟨w',hrun,⟨_,ho,fun y hy=> ?_⟩,hg⟩
 by_cases e:y=x
 ·subst e
  simp only[if_pos rfl]
  exact atKey_put_same h.isMap (k:= .int .u64 y) (show WideAt.IsKeyLit (.int .u64 y)from trivial) _ _
 ·simp only[if_neg e]
  rw[atKey_put_other (qfs e),hK y hy]
theorem OwB.congr {w:World} {b n:Nat} {K K':Nat→Bool} (h:OwB w b n K) (e:∀x,K x=K' x):OwB w b n K':=by
 rw[show K'=K from funext fun x=>(e x).symm]
 exact h
theorem OwB.moved {w w':World} {row:Option Nat} {b n:Nat} {K:Nat→Bool} (h:OwB w b n K) (hg:w.grownBy w' row) (hr:row≠some b):OwB w' b n K:=by
 obtain⟨D,h,hK⟩:=h
 exact⟨D,h.kept hg hr.symm,hK⟩
theorem OwB.below {w w':World} {b n:Nat} {K:Nat→Bool} (h:OwB w b n K) (hb:Below w.heap.size w w'):OwB w' b n K:=h.moved (row:=none) ⟨hb.os,hb.tape,hb.output,hb.size,fun k hk _=>hb.block k hk⟩ (by simp)
theorem OwB.lt {w:World} {b n:Nat} {K:Nat→Bool} (h:OwB w b n K):b<w.heap.size:=by
 obtain⟨D,h,hK⟩:=h
 exact h.lt
theorem qeY {mb:Nat} {X Y:World} (h:ButM mb X Y):X.grownBy Y (some mb):=⟨h.1.os,h.1.tape,h.1.output,h.2.1,fun k hk hn=>h.2.2 k hk (fun e=>hn (by rw[e]))⟩
theorem OwB.butm {X Y:World} {mb b n:Nat} {K:Nat→Bool} (h:OwB X b n K) (hb:ButM mb X Y) (hne:mb≠b):OwB Y b n K:=h.moved (qeY hb) (by simpa using hne)
theorem OwB.obj {w:World} {b n:Nat} {K:Nat→Bool} (h:OwB w b n K):∃o:Obj,w.heap[b]? =some o∧o.isCells=false:=by
 obtain⟨D,⟨es,ck,hb,_⟩,hK⟩:=h
 exact⟨_,hb,rfl⟩
theorem ButM.later {mb b:Nat} {W X Y:World} (h:ButM mb W X) (hg:X.grownBy Y (some b)) (hb:W.heap.size≤b) (hm:mb<W.heap.size):ButM mb W Y:=
 ⟨h.1.grown hg (Nat.le_of_lt (qaG hm h.2.1)) (fun z hz=>by cases hz;omega),qaD h.2.1 hg.size,fun k hk hn=>(hg.block k (qaG hk h.2.1) (fun e=>by cases e;omega)).trans (h.2.2 k hk hn)⟩
def Pth (T:Nat→Nat→Prop) (full:Nat):Nat→Nat→Prop
 |0,g=>g=full
 |m+1,h=>∃g,T h g∧Pth T full m g
def ChN {α:Type} (T:α→α→Prop) (fin:α→Prop):Nat→α→Prop
 |0,g=>fin g
 |m+1,g=>∃h,T h g∧ChN T fin m h
theorem qhV {T:Nat→Nat→Prop} {full goal:Nat}:∀a b g,Pth T full a g→ChN T (· =goal) b g→Pth T full (a+b) goal
 |a,0,g,h,e=>by obtain rfl:g=goal:=e;exact h
 |a,b+1,g,h,⟨x,t,e⟩=>by
  have:=qhV (a+1) b x ⟨g,t,h⟩ e
  rwa [show a+(b+1)=a+1+b by omega]
theorem qhW {T:Nat→Nat→Prop} {full goal:Nat}:∀a g b,Pth T full a g→ChN T (· =goal) b g→ChN T (· =goal) (a+b) full
 |0,g,b,h,e=>by obtain rfl:g=full:=h;rwa [qfW]
 |a+1,g,b,⟨x,t,h⟩,e=>by
  have:=qhW a x (b+1) h ⟨g,t,e⟩
  rwa [show a+1+b=a+(b+1) by omega]
theorem qiw {T:Nat→Nat→Prop} {full goal m:Nat}:Pth T full m goal↔ChN T (· =goal) m full:=
 ⟨fun h=>by simpa using qhW m goal 0 h rfl,fun h=>by simpa using qhV 0 m full rfl h⟩
structure Bfs (T:Nat→Nat→Prop) (full goal:Nat) (L:List Nat) (D:Nat→Option Nat) (k:Nat) (done:Nat→Prop):Prop where
 mem:∀g,g∈L↔∃d,D g=some d
 nd:L.Nodup
 sound:∀g d,D g=some d→Pth T full d g
 st:D full=some 0
 up:∀i j (hi:i<L.length) (hj:j<L.length),i≤j→∀a b,D L[i]=some a→D L[j]=some b→a≤b
 top:∀(hk:k<L.length) x b a,D x=some b→D L[k]=some a→b≤a+1
 closed:∀j (hj:j<L.length),j<k→∀h,T h L[j]→∀a,D L[j]=some a→∃b,D h=some b∧b≤a+1
 here:∀(hk:k<L.length) h,done h→T h L[k]→∃b,D h=some b
 ng:∀j (hj:j<L.length),j<k→L[j]≠goal
 kl:k≤L.length
 dl:∀g d,D g=some d→d<L.length
theorem Bfs.start (T:Nat→Nat→Prop) (full goal:Nat):Bfs T full goal [full] (fun x=>if x=full then some 0 else none) 0 (fun _=>False) where
 mem g:=by
  by_cases h:g=full
  ·simp[h]
  ·simp[h]
 nd:=by simp
 sound g d h:=by
  by_cases e:g=full
  ·simp[e]at h;subst h;exact e
  ·simp[e]at h
 st:=by simp
 up i j hi hj _ a b ha hb:=by
  obtain rfl:i=0:=by simp at hi;omega
  obtain rfl:j=0:=by simp at hj;omega
  simp at ha hb;omega
 top _ x b a hb ha:=by
  by_cases e:x=full
  ·simp[e]at hb;omega
  ·simp[e]at hb
 closed j _ hj:=by omega
 here _ h d:=d.elim
 ng j _ hj:=by omega
 kl:=by simp
 dl g d h:=by
  by_cases e:g=full
  ·simp[e]at h;subst h;simp
  ·simp[e]at h
theorem Bfs.known {T:Nat→Nat→Prop} {full goal:Nat} {L:List Nat} {D:Nat→Option Nat} {k:Nat} {done done':Nat→Prop} (B:Bfs T full goal L D k done) (hk:k<L.length) {h:Nat}
  (h1:(∃d,D h=some d)∨¬T h L[k]) (h2:∀x,done' x→x=h∨done x∨¬T x L[k]):Bfs T full goal L D k done':=
 have hh:∀(hk:k<L.length) x,done' x→T x L[k]→∃b,D x=some b:=fun _ x hx t=>by
  rcases h2 x hx with rfl|hd|hn
  ·rcases h1 with h1|h1
   ·exact h1
   ·exact(h1 t).elim
  ·exact B.here hk x hd t
  ·exact(hn t).elim
 {B with here:=hh}
theorem Bfs.new {T:Nat→Nat→Prop} {full goal:Nat} {L:List Nat} {D:Nat→Option Nat} {k:Nat} {done done':Nat→Prop} (B:Bfs T full goal L D k done) (hk:k<L.length) {h a:Nat}
  (ha:D L[k]=some a) (hn:D h=none) (ht:T h L[k]) (h2:∀x,done' x→x=h∨done x∨¬T x L[k]):Bfs T full goal (L++[h]) (fun x=>if x=h then some (a+1)else D x) k done':=by
 have hne:∀x d,D x=some d→x≠h:=fun x d e e2=>by subst e2;rw[hn]at e;cases e
 have hin:∀j (hj:j<L.length),∃d,D L[j]=some d:=fun j hj=>(B.mem _).1 (qaB hj)
 have hg:∀j (hj:j<(L++[h]).length),(∃hj':j<L.length,(L++[h])[j]=L[j])∨(j=L.length∧(L++[h])[j]=h):=fun j hj=>by
  by_cases hj':j<L.length
  ·exact .inl ⟨hj',qgn hj'⟩
  ·have e:j=L.length:=by simp at hj;omega
   subst e
   exact .inr ⟨rfl,by simp⟩
 have hk':(L++[h])[k]'(by simp;omega)=L[k]:=qgn hk
 have hold:∀x,x≠h→(if x=h then some (a+1)else D x)=D x:=fun x e=>if_neg e
 refine⟨fun g=> ?_, ?_,fun g d e=> ?_, ?_,fun i j hi hj hij x y ex ey=> ?_,fun hk2 x b c eb ec=> ?_,fun j hj hjk x t c ec=> ?_,fun hk2 x hx t=> ?_,fun j hj hjk=> ?_, ?_,fun g d e=> ?_⟩
 ·rw[altl,B.mem]
  by_cases e:g=h
  ·simp[e]
  ·simp[e]
 ·rw[List.nodup_append]
  refine⟨B.nd,by simp,fun x hx y hy e=> ?_⟩
  obtain rfl:y=h:=by simpa using hy
  obtain⟨d,hd⟩:=(B.mem x).1 hx
  exact hne x d hd e
 ·by_cases e2:g=h
  ·subst e2
   simp at e;subst e
   exact⟨L[k],ht,B.sound _ _ ha⟩
  ·rw[hold g e2]at e
   exact B.sound g d e
 ·show(if full=h then some (a+1)else D full)=some 0
  rw[hold full (hne full 0 B.st)]
  exact B.st
 ·rcases hg i hi with⟨hi',ei⟩|⟨ei',ei⟩
  ·obtain⟨di,hdi⟩:=hin i hi'
   rw[ei,hold _ (hne _ _ hdi)]at ex
   rcases hg j hj with⟨hj',ej⟩|⟨ej',ej⟩
   ·obtain⟨dj,hdj⟩:=hin j hj'
    rw[ej,hold _ (hne _ _ hdj)]at ey
    exact B.up i j hi' hj' hij x y ex ey
   ·rw[ej]at ey
    simp at ey
    have:=B.top hk _ x a ex ha
    omega
  ·rcases hg j hj with⟨hj',ej⟩|⟨ej',ej⟩
   ·omega
   ·rw[ei]at ex;rw[ej]at ey
    simp at ex ey;omega
 ·rw[hk',hold _ (hne _ _ ha),ha]at ec
  obtain rfl:=qgb ec
  by_cases e:x=h
  ·simp[e]at eb;omega
  ·rw[hold x e]at eb
   exact B.top hk x b _ eb ha
 ·have hjl:j<L.length:=by omega
  rw[qgn hjl]at t ec
  obtain⟨dj,hdj⟩:=hin j hjl
  rw[hold _ (hne _ _ hdj)]at ec
  obtain⟨b,hb,hb2⟩:=B.closed j hjl hjk x t c ec
  exact⟨b,by rw[hold _ (hne _ _ hb)];exact hb,hb2⟩
 ·rw[hk']at t
  by_cases e:x=h
  ·exact⟨a+1,if_pos e⟩
  ·rw[hold x e]
   rcases h2 x hx with e'|hd|hn'
   ·exact(e e').elim
   ·exact B.here hk x hd t
   ·exact(hn' t).elim
 ·have hjl:j<L.length:=by omega
  rw[qgn hjl]
  exact B.ng j hjl hjk
 ·have:=B.kl
  simp;omega
 ·simp
  by_cases e2:g=h
  ·simp[e2]at e
   have:=B.dl _ _ ha
   omega
  ·rw[hold g e2]at e
   have:=B.dl _ _ e
   omega
theorem Bfs.next {T:Nat→Nat→Prop} {full goal:Nat} {L:List Nat} {D:Nat→Option Nat} {k:Nat} {done:Nat→Prop} (B:Bfs T full goal L D k done) (hk:k<L.length)
  (hd:∀x,T x L[k]→done x) (hg:L[k]≠goal):Bfs T full goal L D (k+1) (fun _=>False):=by
 obtain⟨a,ha⟩:=(B.mem _).1 (qaB hk)
 refine{B with top:=fun hk2 x b c hb hc=> ?_,closed:=fun j hj hjk h t c hc=> ?_,here:=fun _ _ f=>f.elim,ng:=fun j hj hjk=> ?_,kl:=hk}
 ·have:=B.top hk x b a hb ha
  have:=B.up k (k+1) hk hk2 (by omega) a c ha hc
  omega
 ·by_cases e:j<k
  ·exact B.closed j hj e h t c hc
  ·obtain rfl:j=k:=by omega
   obtain⟨b,hb⟩:=B.here hk h (hd h t) t
   exact⟨b,hb,B.top hk h b c hb hc⟩
 ·by_cases e:j<k
  ·exact B.ng j hj e
  ·obtain rfl:j=k:=by omega
   exact hg
theorem Bfs.all {T:Nat→Nat→Prop} {full goal:Nat} {L:List Nat} {D:Nat→Option Nat} {k:Nat} {done:Nat→Prop} (B:Bfs T full goal L D k done):
  ∀m g,Pth T full m g→(∃(hk:k<L.length),∃a,D L[k]=some a∧a≤m)∨(∃j,∃hj:j<L.length,j<k∧L[j]=g∧∃b,D g=some b∧b≤m):=by
 have key:∀m g b,D g=some b→b≤m→(∃(hk:k<L.length),∃a,D L[k]=some a∧a≤m)∨(∃j,∃hj:j<L.length,j<k∧L[j]=g∧∃b,D g=some b∧b≤m):=by
  intro m g b hb hbm
  obtain⟨j,hj,e⟩:=qaJ ((B.mem g).2 ⟨b,hb⟩)
  by_cases hjk:j<k
  ·exact .inr ⟨j,hj,hjk,e,b,hb,hbm⟩
  ·have hk:k<L.length:=by omega
   obtain⟨a,ha⟩:=(B.mem _).1 (qaB hk)
   have:=B.up k j hk hj (by omega) a b ha (by rw[e];exact hb)
   exact .inl ⟨hk,a,ha,by omega⟩
 intro m
 induction m with
 |zero=>intro g h;obtain rfl:g=full:=h;exact key 0 _ 0 B.st (by omega)
 |succ m ih=>
  rintro g ⟨x,t,p⟩
  rcases ih x p with⟨hk,a,ha,ham⟩|⟨j,hj,hjk,e,b,hb,hbm⟩
  ·exact .inl ⟨hk,a,ha,by omega⟩
  ·subst e
   obtain⟨c,hc,hcb⟩:=B.closed j hj hjk g t b hb
   exact key (m+1) g c hc (by omega)
theorem Bfs.found {T:Nat→Nat→Prop} {full goal:Nat} {L:List Nat} {D:Nat→Option Nat} {k:Nat} {done:Nat→Prop} (B:Bfs T full goal L D k done) (hk:k<L.length) (hg:L[k]=goal) {a:Nat} (ha:D L[k]=some a):
  Pth T full a goal∧∀m,Pth T full m goal→a≤m:=by
 refine⟨hg▸B.sound _ _ ha,fun m p=> ?_⟩
 rcases B.all m goal p with⟨_,b,hb,hbm⟩|⟨j,hj,hjk,e,_⟩
 ·rw[ha]at hb
  obtain rfl:=qgb hb
  exact hbm
 ·exact(B.ng j hj hjk e).elim
theorem Bfs.none {T:Nat→Nat→Prop} {full goal:Nat} {L:List Nat} {D:Nat→Option Nat} {done:Nat→Prop} (B:Bfs T full goal L D L.length done) (m:Nat):¬Pth T full m goal:=fun p=>by
 rcases B.all m goal p with⟨hk,_⟩|⟨j,hj,hjk,e,_⟩
 ·omega
 ·exact B.ng j hj hjk e
theorem qhD {L:List Nat} {i:Nat} (h:i<L.length):L.getD i 0=L[i]:=by simp[List.getD,h]
def ma (L:List Nat) (b:Nat):Nat→List Nat
 |0=>[]
 |k+1=>if b.testBit k then ma L b k++[L.getD k 0]else ma L b k
theorem qhu (L:List Nat) (b:Nat):∀k,ma L b k=((List.range k).filter (fun i=>b.testBit i)).map (fun i=>L.getD i 0)
 |0=>rfl
 |k+1=>by
  rw[ma,qhu L b k,List.range_succ,qgo,qgh]
  by_cases h:b.testBit k
  ·simp[h]
  ·simp[h]
theorem mem_subL {L:List Nat} {b x:Nat}:x∈ma L b L.length↔∃i,i<L.length∧b.testBit i=true∧L.getD i 0=x:=by
 rw[qhu,altt]
 constructor
 ·rintro⟨i,hi,e⟩
  rw[alsm,ultv]at hi
  exact⟨i,hi.1,hi.2,e⟩
 ·rintro⟨i,hi,hb,e⟩
  exact⟨i,alsm.2 ⟨ultv.2 hi,hb⟩,e⟩
theorem qhv {L:List Nat} {b x:Nat} (h:x∈ma L b L.length):x∈L:=by
 obtain⟨i,hi,_,e⟩:=mem_subL.1 h
 rw[←e,qhD hi]
 exact qaB hi
theorem qht {L:List Nat} (h:L.Pairwise (· < ·)) (b:Nat):(ma L b L.length).Pairwise (· < ·):=by
 rw[qhu,List.pairwise_map]
 refine List.Pairwise.imp_of_mem (R:=(· < ·)) (fun{i j} hi hj hij=> ?_) (List.Pairwise.filter _ List.pairwise_lt_range)
 rw[alsm,ultv]at hi hj
 rw[qhD hi.1,qhD hj.1]
 exact List.pairwise_iff_getElem.1 h i j hi.1 hj.1 hij
theorem qhZ {b n:Nat} (h:∀i,i<n→b.testBit i=true):2 ^ n-1≤b:=by
 have:b&&& (2 ^ n-1)=2 ^ n-1:=by
  apply qgp
  intro i
  rw[qgq,Nat.testBit_two_pow_sub_one]
  by_cases hi:i<n
  ·simp[hi,h i hi]
  ·simp[hi]
 have h2:b&&& (2 ^ n-1)≤b:=Nat.and_le_left
 omega
theorem AL {L:List Nat} {b:Nat} (h:b<2 ^ L.length-1):(ma L b L.length).length<L.length:=by
 rw[qhu,qdo]
 have:∃i,i<L.length∧¬b.testBit i=true:=by
  apply qgk
  intro hn
  have:=qhZ (b:=b) (n:=L.length) fun i hi=>qgk fun h2=>hn ⟨i,hi,h2⟩
  omega
 obtain⟨i,hi,hb⟩:=this
 have:=List.length_filter_lt_length_iff_exists (l:=List.range L.length) (p:=fun i=>b.testBit i)
 rw[qdA]at this
 exact this.2 ⟨i,ultv.2 hi,hb⟩
def stp (M:List Nat→List Nat→Bool) (part:Nat) (out L:List Nat):Prop:=∃b,1≤b∧b<2 ^ L.length-1∧out=ma L b L.length∧part∈out∧M L out=true
def mc (M:List Nat→Bool) (F:List Nat→Int) (part:Nat) (L:List Nat):Nat→Int
 |0=> -1
 |k+1=>if k=0 then -1 else if(ma L k L.length).contains part=false∨M (ma L k L.length)=false then mc M F part L k else
  if 0≤F (ma L k L.length)∧(mc M F part L k<0∨F (ma L k L.length)+1<mc M F part L k)then F (ma L k L.length)+1 else mc M F part L k
def xi (M:List Nat→List Nat→Bool) (part:Nat):Nat→List Nat→Int
 |0,_=>0
 |f+1,L=>if L.length=1 then 0 else mc (M L) (xi M part f) part L (2 ^ L.length-1)
def IsD (P:Nat→Prop) (v:Int):Prop:=(v= -1∧∀m,¬P m)∨∃m:Nat,v=m∧P m∧∀x,P x→m≤x
theorem IsD.one {P:Nat→Prop} {v w:Int} (a:IsD P v) (b:IsD P w):v=w:=by
 rcases a with⟨e,h⟩|⟨m,e,h,h2⟩
 ·rcases b with⟨e',h'⟩|⟨m',e',h',h2'⟩
  ·omega
  ·exact(h _ h').elim
 ·rcases b with⟨e',h'⟩|⟨m',e',h',h2'⟩
  ·exact(h' _ h).elim
  ·have:=h2 _ h';have:=h2' _ h;omega
theorem IsD.congr {P Q:Nat→Prop} {v:Int} (a:IsD P v) (h:∀m,P m↔Q m):IsD Q v:=by
 obtain rfl:P=Q:=funext fun m=>propext (h m)
 exact a
theorem qhy {M:List Nat→Bool} {F:List Nat→Int} {part:Nat} {L:List Nat} {P:List Nat→Nat→Prop}:∀k,(∀b,1≤b→b<k→part∈ma L b L.length→IsD (P (ma L b L.length)) (F (ma L b L.length)))→
  IsD (fun m=>∃b,1≤b∧b<k∧part∈ma L b L.length∧M (ma L b L.length)=true∧∃m',m=m'+1∧P (ma L b L.length) m') (mc M F part L k)
 |0,_=> .inl ⟨rfl,fun m ⟨b,h1,h2,_⟩=>by omega⟩
 |k+1,hF=>by
  have ih:=qhy (M:=M) k fun b h1 h2 h3=>hF b h1 (by omega) h3
  rw[mc]
  by_cases hk:k=0
  ·rw[if_pos hk]
   exact .inl ⟨rfl,fun m ⟨b,h1,h2,_⟩=>by omega⟩
  rw[if_neg hk]
  by_cases hc:(ma L k L.length).contains part=false∨M (ma L k L.length)=false
  ·rw[if_pos hc]
   refine ih.congr fun m=>⟨fun⟨b,h1,h2,h3⟩=>⟨b,h1,by omega,h3⟩,fun⟨b,h1,h2,h3,h4,h5⟩=>⟨b,h1, ?_,h3,h4,h5⟩⟩
   by_cases e:b=k
   ·subst e
    rcases hc with hc|hc
    ·rw[List.contains_eq_mem,decide_eq_false_iff_not]at hc
     exact(hc h3).elim
    ·rw[hc]at h4;cases h4
   ·omega
  ·rw[if_neg hc]
   have hm:part∈ma L k L.length:=by
    apply qgk
    intro hn
    exact hc (.inl (by simpa using hn))
   have hM:M (ma L k L.length)=true:=by
    cases e:M (ma L k L.length)
    ·exact(hc (.inr e)).elim
    ·rfl
   have hd:=hF k (by omega) (by omega) hm
   generalize F (ma L k L.length)=d at hd ⊢
   generalize mc M F part L k=o at ih ⊢
   rcases hd with⟨e,hn⟩|⟨m0,e,h0,hl0⟩
   ·rw[if_neg (by omega)]
    refine ih.congr fun m=>⟨fun⟨b,h1,h2,h3⟩=>⟨b,h1,by omega,h3⟩,fun⟨b,h1,h2,h3,h4,m',h5,h6⟩=>⟨b,h1, ?_,h3,h4,m',h5,h6⟩⟩
    by_cases e:b=k
    ·subst e
     exact(hn _ h6).elim
    ·omega
   ·rcases ih with⟨e1,hn⟩|⟨m1,e1,⟨b1,h1,h2,h3,h4,h5⟩,hl⟩
    ·rw[if_pos (by omega)]
     refine .inr ⟨m0+1,by omega,⟨k,by omega,by omega,hm,hM,m0,rfl,h0⟩,fun x ⟨b,g1,g2,g3,g4,m',g5,g6⟩=> ?_⟩
     by_cases e:b=k
     ·subst e
      have:=hl0 _ g6
      omega
     ·exact(hn x ⟨b,g1,by omega,g3,g4,m',g5,g6⟩).elim
    ·by_cases hlt:(m0:Int)+1<m1
     ·rw[if_pos (by omega)]
      refine .inr ⟨m0+1,by omega,⟨k,by omega,by omega,hm,hM,m0,rfl,h0⟩,fun x ⟨b,g1,g2,g3,g4,m',g5,g6⟩=> ?_⟩
      by_cases e:b=k
      ·subst e
       have:=hl0 _ g6
       omega
      ·have:=hl x ⟨b,g1,by omega,g3,g4,m',g5,g6⟩
       omega
     ·rw[if_neg (by omega)]
      refine .inr ⟨m1,by omega,⟨b1,h1,by omega,h3,h4,h5⟩,fun x ⟨b,g1,g2,g3,g4,m',g5,g6⟩=> ?_⟩
      by_cases e:b=k
      ·subst e
       have:=hl0 _ g6
       omega
      ·exact hl x ⟨b,g1,by omega,g3,g4,m',g5,g6⟩
theorem qhg (M:List Nat→List Nat→Bool) (part:Nat):∀f L,L.length≤f→part∈L→IsD (fun m=>ChN (stp M part) (fun L=>L.length=1) m L) (xi M part f L)
 |0,L,h,hp=>by
  have:=List.length_pos_of_mem hp
  omega
 |f+1,L,h,hp=>by
  rw[xi]
  by_cases h1:L.length=1
  ·rw[if_pos h1]
   exact .inr ⟨0,rfl,h1,fun x _=>by omega⟩
  ·rw[if_neg h1]
   refine(qhy (M:=M L) (P:=fun out m=>ChN (stp M part) (fun L=>L.length=1) m out) (2 ^ L.length-1) fun b hb1 hb2 hb3=>qhg M part f _ ?_ hb3).congr fun m=> ?_
   ·have:=AL hb2
    omega
   ·cases m with
    |zero=>exact⟨fun⟨b,_,_,_,_,m',e,_⟩=>by omega,fun e=>(h1 e).elim⟩
    |succ m=>
     constructor
     ·rintro⟨b,h1,h2,h3,h4,m',e,h5⟩
      obtain rfl:m=m':=by omega
      exact⟨_,⟨b,h1,h2,rfl,h3,h4⟩,h5⟩
     ·rintro⟨out,⟨b,h1,h2,rfl,h3,h4⟩,h5⟩
      exact⟨b,h1,h2,h3,h4,m,rfl,h5⟩
theorem qhz {M:List Nat→Bool} {F:List Nat→Int} {part:Nat} {L:List Nat} {N:Int} (hN:0≤N):∀k,(∀b,1≤b→b<k→part∈ma L b L.length→F (ma L b L.length)+1<N)→mc M F part L k<N
 |0,_=>by rw[mc];omega
 |k+1,hF=>by
  have ih:=qhz (M:=M) hN k fun b h1 h2 h3=>hF b h1 (by omega) h3
  rw[mc]
  split
  ·omega
  ·split
   ·exact ih
   ·rename_i hk hc
    have hm:part∈ma L k L.length:=by
     apply qgk
     intro hn
     exact hc (.inl (by simpa using hn))
    have:=hF k (by omega) (by omega) hm
    split
    ·exact this
    ·exact ih
theorem qhw (M:List Nat→List Nat→Bool) (part:Nat):∀f L,L.length≤f→part∈L→xi M part f L<L.length
 |0,L,h,hp=>by
  have:=List.length_pos_of_mem hp
  omega
 |f+1,L,h,hp=>by
  have hpos:=List.length_pos_of_mem hp
  rw[xi]
  by_cases h1:L.length=1
  ·rw[if_pos h1];omega
  ·rw[if_neg h1]
   refine qhz (by omega) _ fun b hb1 hb2 hb3=> ?_
   have:=AL hb2
   have:=qhw M part f _ (by omega) hb3
   omega
theorem qio (M:List Nat→List Nat→Bool) (part:Nat) {f:Nat} {L:List Nat} (h:L.length≤f) (hp:part∈L): -1≤xi M part f L:=by
 rcases qhg M part f L h hp with⟨e,_⟩|⟨m,e,_⟩<;>omega
def TS (Mb:Nat→Nat→Bool) (part h g:Nat):Prop:=dN h g=0∧h≠g∧h.testBit part=true∧Mb g h=true
theorem qix {X:List Nat} (hX:X.Pairwise (· < ·)) (hb:∀x∈X,x<12):lf (nr (nI X))=X∧nr (nI X)<4096:=by
 have hs:nr (nI X)<4096:=KX _ fun x hx=>by
  unfold nI at hx
  obtain⟨y,hy,rfl⟩:=altt.1 hx
  have:=hb y hy
  omega
 refine⟨Wj _ _ (UR hs) hX fun k=> ?_,hs⟩
 rw[Tz hs,Wl]
 unfold nI
 constructor
 ·rintro⟨x,hx,e⟩
  obtain⟨y,hy,rfl⟩:=altt.1 hx
  obtain rfl:y=k:=by simpa using e
  exact hy
 ·intro hk
  exact⟨k,altt.2 ⟨k,hk,rfl⟩,by simp⟩
theorem qiB {g x:Nat} (hg:g<4096) (h:x∈lf g):x<12:=by
 rw[Tz hg]at h
 apply qgk
 intro hn
 have:=Nat.testBit_lt_two_pow (x:=g) (i:=x) (qaG hg (Nat.pow_le_pow_right (n:=2) (by omega) (show 12≤x by omega)))
 rw[this]at h
 cases h
theorem TS.lt {Mb:Nat→Nat→Bool} {part h g:Nat} (t:TS Mb part h g) (hg:g<4096):h<4096:=by
 have:h&&& g=h:=by
  apply qgp
  intro i
  rw[qgq]
  cases e:h.testBit i
  ·rfl
  ·rw[dN_zero.1 t.1 i e];rfl
 have h2:h&&& g≤g:=Nat.and_le_right
 omega
theorem qie {g h:Nat} (hg:g<4096) (hh:h<4096) (hs:dN h g=0) (hne:h≠g) (h0:h≠0):∃b,1≤b∧b<2 ^ (lf g).length-1∧lf h=ma (lf g) b (lf g).length:=by
 generalize hL:lf g=L
 have hmem:∀x,x∈L↔g.testBit x=true:=fun x=>by rw[←hL,Tz hg]
 have hsub:∀x,h.testBit x=true→x∈L:=fun x hx=>(hmem x).2 (dN_zero.1 hs x hx)
 let b:=nr (nI ((List.range L.length).filter fun i=>h.testBit (L.getD i 0)))
 have hb:∀i,b.testBit i=true↔i<L.length∧h.testBit (L.getD i 0)=true:=fun i=>by
  show(nr _).testBit i=true↔_
  rw[Wl]
  unfold nI
  constructor
  ·rintro⟨x,hx,e⟩
   obtain⟨y,hy,rfl⟩:=altt.1 hx
   obtain rfl:y=i:=by simpa using e
   rw[alsm,ultv]at hy
   exact hy
  ·rintro⟨h1,h2⟩
   exact⟨i,altt.2 ⟨i,alsm.2 ⟨ultv.2 h1,h2⟩,rfl⟩,by simp⟩
 have hat:∀x,h.testBit x=true→∃i,i<L.length∧L.getD i 0=x:=fun x hx=>by
  obtain⟨i,hi,e⟩:=qaJ (hsub x hx)
  exact⟨i,hi,by rw[qhD hi,e]⟩
 have hlt:b<2 ^ L.length:=Nat.lt_pow_two_of_testBit _ fun i hi=>by
  cases e:b.testBit i
  ·rfl
  ·have:=((hb i).1 e).1
   omega
 refine⟨b, ?_, ?_, ?_⟩
 ·apply qgk
  intro hn
  have hb0:b=0:=by omega
  apply h0
  apply qgp
  intro x
  rw[Nat.zero_testBit]
  cases e:h.testBit x
  ·rfl
  ·obtain⟨i,hi,e2⟩:=hat x e
   have:=(hb i).2 ⟨hi,by rw[e2];exact e⟩
   rw[hb0,Nat.zero_testBit]at this
   cases this
 ·have:b≠2 ^ L.length-1:=fun e=>hne (by
   apply qgp
   intro x
   cases e2:g.testBit x
   ·cases e3:h.testBit x
    ·rfl
    ·have:=(hmem x).1 (hsub x e3)
     rw[e2]at this
     cases this
   ·obtain⟨i,hi,e3⟩:=qaJ ((hmem x).2 e2)
    have h4:b.testBit i=true:=by rw[e,Nat.testBit_two_pow_sub_one];simpa using hi
    have:=((hb i).1 h4).2
    rw[qhD hi,e3]at this
    exact this)
  omega
 ·refine Wj _ _ (UR hh) (qht (by rw[←hL];exact UR hg) b) fun x=> ?_
  rw[Tz hh,mem_subL]
  constructor
  ·intro hx
   obtain⟨i,hi,e⟩:=hat x hx
   exact⟨i,hi,(hb i).2 ⟨hi,by rw[e];exact hx⟩,e⟩
  ·rintro⟨i,hi,hbi,rfl⟩
   exact((hb i).1 hbi).2
theorem qhh {M:List Nat→List Nat→Bool} {Mb:Nat→Nat→Bool} (hM:∀g h,g<4096→h<4096→M (lf g) (lf h)=Mb g h) {part:Nat} (hp:part<12):∀m g,g<4096→g.testBit part=true→
  (ChN (stp M part) (fun L=>L.length=1) m (lf g)↔ChN (TS Mb part) (· =2 ^ part) m g)
 |0,g,hg,hb=>by
  show(lf g).length=1↔g=2 ^ part
  constructor
  ·intro h
   apply VT hg (qbQ hp)
   rw[qbX part hp]
   have:=(Tz hg).2 hb
   match hL:lf g,h,this with
   | [x],_,hx=>rw[ultg.1 hx]
  ·intro h
   rw[h,qbX part hp];rfl
 |m+1,g,hg,hb=>by
  constructor
  ·rintro⟨out,⟨b,h1,h2,e,h3,h4⟩,c⟩
   obtain⟨s1,s2⟩:=qix (X:=out) (by rw[e];exact qht (UR hg) b) (fun x hx=>qiB hg (qhv (b:=b) (by rw[←e];exact hx)))
   have hbit:∀x,(nr (nI out)).testBit x=true↔x∈out:=fun x=>by rw[←Tz s2,s1]
   have hpt:=(hbit part).2 h3
   refine⟨nr (nI out),⟨?_, ?_,hpt, ?_⟩, ?_⟩
   ·rw[dN_zero]
    intro k hk
    have:=(hbit k).1 hk
    rw[e]at this
    exact(Tz hg).1 (qhv this)
   ·intro e2
    have h5:=AL h2
    rw[←e, ←s1,e2]at h5
    omega
   ·rw[←hM g _ hg s2,s1];exact h4
   ·refine(qhh hM hp m _ s2 hpt).1 ?_
    rw[s1];exact c
  ·rintro⟨h,t,c⟩
   have hh:=t.lt hg
   obtain⟨t1,t2,t3,t4⟩:=t
   have h0:h≠0:=fun e=>by rw[e,Nat.zero_testBit]at t3;cases t3
   obtain⟨b,b1,b2,b3⟩:=qie hg hh t1 t2 h0
   exact⟨lf h,⟨b,b1,b2,b3,(Tz hh).2 t3,by rw[hM g h hg hh];exact t4⟩,(qhh hM hp m h hh t3).2 c⟩
def mvb (l:List (List (List Q4))) (L out:List Nat):Bool:=ways26.any fun v=>WP (gE (TF l v)) L out
def mvA (ps:List (List Bod)) (g h:Nat):Bool:=ways26.any fun v=>XM (eM ps v) g h
theorem qiy {l:List (List (List Q4))} (h:eB l=0) {g x:Nat} (hg:g<4096) (hx:x<4096):mvb l (lf g) (lf x)=mvA (psB l) g x:=by
 unfold mvb mvA
 rw[Bool.eq_iff_iff,ultj,ultj]
 refine exists_congr fun v=>and_congr_right fun hv=> ?_
 rw[WF,show psB l=l.map (·.map bp)from rfl,Yz (Wz h (qcM hv)) hg hx]
def qgz (l:List (List (List Q4))) (part:Nat):Int:=xi (mvb l) part l.length (List.range l.length)
theorem qif {l:List (List (List Q4))} (h:eB l=0) {part:Nat} (hp:part<l.length):IsD (fun m=>Pth (TS (mvA (psB l)) part) (2 ^ l.length-1) m (2 ^ part)) (qgz l part):=by
 have hl:l.length≤12:=(sq h).1
 have hb:(2 ^ l.length-1).testBit part=true:=by rw[Nat.testBit_two_pow_sub_one];simpa using hp
 refine(qhg (mvb l) part l.length (List.range l.length) (by simp) (ultv.2 hp)).congr fun m=> ?_
 rw[qiw, ←WT hl]
 exact qhh (fun g x hg hx=>qiy h hg hx) (by omega) m _ (WQ hl) hb
theorem qia {l:List (List (List Q4))} (h:eB l=0) {part:Nat} (hp:part<l.length) {L:List Nat} {D:Nat→Option Nat} {k:Nat} {done:Nat→Prop} (B:Bfs (TS (mvA (psB l)) part) (2 ^ l.length-1) (2 ^ part) L D k done)
  (hk:k<L.length) (hg:L[k]=2 ^ part) {a:Nat} (ha:D L[k]=some a):qgz l part=a:=
 (qif h hp).one (.inr ⟨a,rfl,B.found hk hg ha⟩)
theorem qig {l:List (List (List Q4))} (h:eB l=0) {part:Nat} (hp:part<l.length) {L:List Nat} {D:Nat→Option Nat} {done:Nat→Prop} (B:Bfs (TS (mvA (psB l)) part) (2 ^ l.length-1) (2 ^ part) L D L.length done):qgz l part= -1:=
 (qif h hp).one (.inl ⟨rfl,fun m=>B.none m⟩)
theorem qip {l:List (List (List Q4))} {part:Nat} (hp:part<l.length):qgz l part<l.length:=by
 have:=qhw (mvb l) part l.length (List.range l.length) (by simp) (ultv.2 hp)
 rw[qdA]at this
 exact this
end
section
open Go.RowKit Go.Shelf Go.Maps Go.ChangeMaps
set_option maxRecDepth 100000
theorem qgx:Tryz.prog.underlying 3=some (.int .i64):=by kernel_rfl
theorem qhA:Tryz.prog.underlying 86=some (.map 84 3):=by kernel_rfl
theorem qhE (u:World):(zeroValue 3).run Tryz.prog u= .ok (.int .i64 0) u:=by kernel_rfl
def qiI (o:Option Nat) (z:DataW Value):DataW Value:=match o with|none=>z|some d=> .lit (.int .i64 d)
def OwD (w:World) (b n:Nat) (K:Nat→Option Nat):Prop:=∃D:DataW Value,w.ownsMap Tryz.prog 84 (plainElem Tryz.prog 3) b n D∧∀x:Nat,x<4096→∀z,D.atKey (.int .u64 x) z=qiI (K x) z
theorem qih {x:Nat} (h:x<1000000):(Lit.int .i64 x).wf=true:=by
 have h1:IntKind.i64.min= -9223372036854775808:=by decide
 have h2:IntKind.i64.max=9223372036854775807:=by decide
 show(decide (IntKind.i64.min≤(x:Int))&&decide ((x:Int)≤IntKind.i64.max))=true
 rw[h1,h2,qaF,qfV,qfV]
 omega
theorem qhX:(Lit.int .i64 0).wf=true:=qih (x:=0) (by omega)
theorem OwD.made (w:World):OwD (w.alloc (.map #[] 0)) w.heap.size 0 (fun _=>none):=⟨.map [],World.ownsMap_made w Tryz.prog _ _,fun x _ z=>rfl⟩
theorem OwD.look {w:World} {b n:Nat} {K:Nat→Option Nat} (h:OwD w b n K) {x d:Nat} (hx:x<4096) (hd:K x=some d):(Instr.lookup 86 (.map (some b)) (.int .u64 x) false).run Tryz.prog w= .ok (.int .i64 d) w:=by
 obtain⟨D,h,hK⟩:=h
 obtain⟨v,ps,hrun,hv⟩:=h.lookup (int_keyed qes) qhA (qhE w) (plainElem_int qgx qhX) (qfM hx)
 rw[hrun]
 rw[hK x hx,hd]at hv
 obtain⟨a,rfl,e,_⟩:=plainElem_int_inv qgx hv
 injection e with e _
 injection e with e
 injection e with _ e
 rw[e]
theorem OwD.has {w:World} {b n:Nat} {K:Nat→Option Nat} (h:OwD w b n K) {x:Nat} (hx:x<4096):∃v,(Instr.lookup 86 (.map (some b)) (.int .u64 x) true).run Tryz.prog w= .ok (.tuple #[.int .i64 v, .bool (K x).isSome]) w:=by
 obtain⟨D,h,hK⟩:=h
 obtain⟨v,ps,hrun,hv⟩:=h.look_ok (int_keyed qes) qhA (qhE w) (plainElem_int qgx qhX) (qfM hx)
 obtain⟨a,rfl,e,_⟩:=plainElem_int_inv qgx hv
 refine⟨a, ?_⟩
 rw[hrun]
 have:Maps.has D (.int .u64 x)=(K x).isSome:=by
  cases e:K x with
  |none=>exact Maps.has_false_of_atKey fun z=>by rw[hK x hx,e];rfl
  |some d=>exact Maps.has_true_of_atKey (y:= .lit (.int .i64 d)) fun z=>by rw[hK x hx,e];rfl
 rw[this]
theorem OwD.put {w:World} {b n:Nat} {K:Nat→Option Nat} (h:OwD w b n K) (hn:n<maxLen) {x d:Nat} (hx:x<4096) (hd:d<1000000):∃w',(Instr.mapUpdate 86 (.map (some b)) (.int .u64 x) (.int .i64 d)).run Tryz.prog w= .ok () w'∧OwD w' b (n+1) (fun y=>if y=x then some d else K y)∧w.grownBy w' (some b):=by
 obtain⟨D,h,hK⟩:=h
 obtain⟨w',hrun,ho,hg⟩:=h.update (int_keyed qes) qhA hn (qfM hx) (plainElem_int qgx (qih hd))
 refine⟨w',hrun,⟨_,ho,fun y hy z=> ?_⟩,hg⟩
 by_cases e:y=x
 ·subst e
  simp only[if_pos rfl]
  exact atKey_put_same h.isMap (k:= .int .u64 y) (show WideAt.IsKeyLit (.int .u64 y)from trivial) _ _
 ·simp only[if_neg e]
  rw[atKey_put_other (qfs e),hK y hy]
theorem OwD.congr {w:World} {b n:Nat} {K K':Nat→Option Nat} (h:OwD w b n K) (e:∀x,K x=K' x):OwD w b n K':=by
 rw[show K'=K from funext fun x=>(e x).symm]
 exact h
theorem OwD.moved {w w':World} {row:Option Nat} {b n:Nat} {K:Nat→Option Nat} (h:OwD w b n K) (hg:w.grownBy w' row) (hr:row≠some b):OwD w' b n K:=by
 obtain⟨D,h,hK⟩:=h
 exact⟨D,h.kept hg hr.symm,hK⟩
theorem OwD.below {w w':World} {b n:Nat} {K:Nat→Option Nat} (h:OwD w b n K) (hb:Below w.heap.size w w'):OwD w' b n K:=h.moved (row:=none) ⟨hb.os,hb.tape,hb.output,hb.size,fun k hk _=>hb.block k hk⟩ (by simp)
theorem OwD.lt {w:World} {b n:Nat} {K:Nat→Option Nat} (h:OwD w b n K):b<w.heap.size:=by
 obtain⟨D,h,hK⟩:=h
 exact h.lt
theorem OwD.butm {X Y:World} {mb b n:Nat} {K:Nat→Option Nat} (h:OwD X b n K) (hb:ButM mb X Y) (hne:mb≠b):OwD Y b n K:=h.moved (qeY hb) (by simpa using hne)
theorem OwD.obj {w:World} {b n:Nat} {K:Nat→Option Nat} (h:OwD w b n K):∃o:Obj,w.heap[b]? =some o∧o.isCells=false:=by
 obtain⟨D,⟨es,ck,hb,_⟩,hK⟩:=h
 exact⟨_,hb,rfl⟩
def OwU (w:World) (B:Nat) (v:Value) (xs:List Value):Prop:=∃g o cap cur,v= .slice (some ⟨g,o,none⟩) xs.length cap∧B≤g∧w.heap[g]? =some (.cells cur 84 (0,0))∧xs.length≤cap∧cap≤maxLen∧o+cap≤cur.size∧(cur.toList.drop o).take xs.length=xs
theorem OwU.lt {w:World} {B:Nat} {v:Value} {xs:List Value} (h:OwU w B v xs):∀k,v.ownBlock=some k→B≤k∧k<w.heap.size:=by
 obtain⟨g,o,cap,cur,rfl,hb,hg,_⟩:=h
 intro k hk
 simp[Value.ownBlock]at hk
 subst hk
 exact⟨hb,ah hg⟩
theorem OwU.kept {w w':World} {B:Nat} {v:Value} {xs:List Value} {row:Option Nat} (h:OwU w B v xs) (hg:w.grownBy w' row) (hne:v.ownBlock≠row):OwU w' B v xs:=by
 obtain⟨g,o,cap,cur,rfl,hb,hgg,rest⟩:=h
 refine⟨g,o,cap,cur,rfl,hb, ?_,rest⟩
 rw[hg.block g (ah hgg) (by simpa [Value.ownBlock]using hne)]
 exact hgg
theorem OwU.cells {w:World} {B:Nat} {xs:List Value} {g o n cap:Nat} (h:OwU w B (.slice (some ⟨g,o,none⟩) n cap) xs):∀j u,xs[j]? =some u→w.cell? (⟨g,o+j,none⟩:Addr)=some u:=by
 obtain⟨g',o',cap',cur,e,hb,hg,h1,h2,h3,h4⟩:=h
 injection e with e1 e2 e3
 injection e1 with e1
 injection e1 with e4 e5
 subst e4 e5 e2 e3
 intro j u hu
 rw[cell_of_row w g (o+j) cur _ (0,0) hg]
 rw[←h4,List.getElem?_take]at hu
 split at hu
 ·simpa using hu
 ·cases hu
theorem OwU.tail {w:World} {B:Nat} {x:Value} {xs:List Value} {g o n cap:Nat} (h:OwU w B (.slice (some ⟨g,o,none⟩) n cap) (x::xs)) (hc:1<cap):OwU w B (.slice (some ⟨g,o+1,none⟩) (n-1) (cap-1)) xs:=by
 obtain⟨g',o',cap',cur,e,hb,hg,h1,h2,h3,h4⟩:=h
 injection e with e1 e2 e3
 injection e1 with e1
 injection e1 with e4 e5
 subst e4 e5 e2 e3
 refine⟨g,o+1,cap-1,cur,by simp,hb,hg,by simp at h1;omega,by omega,by omega, ?_⟩
 have:=congrArg (List.drop 1) h4
 rw[qdn,List.drop_take,List.drop_drop]at this
 simpa using this
theorem OwU.done {w:World} {B:Nat} {x:Value} {xs:List Value} {g o n:Nat} (h:OwU w B (.slice (some ⟨g,o,none⟩) n 1) (x::xs)):OwU w B (.slice (some ⟨g,o,none⟩) (n-1) 0) xs∧xs=[]:=by
 obtain⟨g',o',cap',cur,e,hb,hg,h1,h2,h3,h4⟩:=h
 injection e with e1 e2 e3
 injection e1 with e1
 injection e1 with e4 e5
 subst e4 e5 e2 e3
 have:xs=[]:=by simpa using h1
 subst this
 exact⟨⟨g,o,0,cur,by simp,hb,hg,by simp,by omega,by omega,by simp⟩,rfl⟩
theorem OwU.push {w:World} {B:Nat} {v:Value} {xs:List Value} (h:OwU w B v xs) {i:TypeInfo} {z:Value} (hi:Tryz.prog.info? 84=some i) (hz:i.zero=some z) (hsz:i.size=1) (hby:i.bytes=8) (hzs:z.cells.size=1)
  (hu:Tryz.prog.underlying 87=some (.slice 84)) (ty:TypeId) {a:Addr} {c:Nat} {x:Value} (hx:w.cell? (a.add 0)=some x) (hx1:x.oneCell'=true) (hn:xs.length≤1000000) (hB:B≤w.heap.size):
  ∃v' w',(Builtin.append_ #[87,87] ty #[v, .slice (some a) 1 c]).run Tryz.prog w= .ok v' w'∧OwU w' B v' (xs++[x])∧w.grownBy w' v.ownBlock∧(v'.ownBlock=v.ownBlock∨∃r,v'.ownBlock=some r∧w.heap.size≤r):=by
 have hcells:=fun g o n cap (e:v= .slice (some ⟨g,o,none⟩) n cap)=>(e▸h).cells
 obtain⟨g,o,cap,cur,rfl,hb,hg,h1,h2,h3,h4⟩:=h
 have hnews:∀j u,([x]:List Value)[j]? =some u→w.cell? (a.add j)=some u:=fun j u hu=>by
  cases j with
  |zero=>simp at hu;subst hu;exact hx
  |succ j=>simp at hu
 have hf:=run_firstCells_some (P:=Tryz.prog) w i.size 1 a 1 c [x] (by simp[hsz]) hnews
 rw[hsz]at hf
 by_cases hroom:xs.length+1≤cap
 ·have hst:=run_storeCells_at Tryz.prog g (o+xs.length) 84 [x] 0 cur w hg (by simp;omega) (fun u hu=>by rw[ultg.1 hu];exact hx1)
  simp only[Nat.add_zero]at hst
  refine⟨.slice (some ⟨g,o,none⟩) (xs.length+1) cap,w.setRow g (cur.toList.take (o+xs.length)++[x]++cur.toList.drop (o+xs.length+[x].length)).toArray, ?_,⟨g,o,cap,(cur.toList.take (o+xs.length)++[x]++cur.toList.drop (o+xs.length+[x].length)).toArray,by simp,hb,setRow_heap w g cur _ _ _ hg,by simpa using hroom,h2, ?_, ?_⟩,⟨rfl,rfl,rfl,by simp,fun k _ hk=>setRow_other w g k _ (fun e=>hk (by simp[Value.ownBlock,e]))⟩, .inl rfl⟩
  ·simp[Builtin.append_,run_underlying hu,sizeOf,typeInfo,hi,Builtin.lenOf,hroom,hf,Addr.add_lit,hsz,hst]
  ·have hcl:cur.toList.length=cur.size:=Array.length_toList
   simp
   omega
  ·have hl:(cur.toList.take (o+xs.length)).length=o+xs.length:=by rw[qge,show cur.toList.length=cur.size from Array.length_toList];omega
   have e2:(cur.toList.take (o+xs.length)).drop o=xs:=by
    rw[List.drop_take,show o+xs.length-o=xs.length by omega]
    exact h4
   show(List.drop o (cur.toList.take (o+xs.length)++[x]++cur.toList.drop (o+xs.length+[x].length))).take (xs++[x]).length=xs++[x]
   rw[List.append_assoc,List.drop_append_of_le_length (by omega),e2, ←List.append_assoc]
   exact List.take_left
 ·have hr:=run_append_grow (P:=Tryz.prog) w 87 ty 84 i z hu hi hz ⟨g,o,none⟩ xs.length cap xs (by simp[hsz]) (fun j u hu=>by rw[Addr.add_lit];exact hcells g o _ _ rfl j u hu) a 1 c [x] (by simp[hsz]) hnews (by omega) (by omega) (growslice_fits (by omega) (by rw[hby];omega))
  refine⟨_,_,hr,⟨w.heap.size,0,grownCap w (xs.length+1) cap 84,_,by simp,hB,heap_alloc_new w.drew _, ?_,grownCap_le_maxLen w _ _ _ (by unfold maxLen;omega), ?_, ?_⟩,⟨rfl,rfl,rfl,by simp,fun k hk _=>aB (W:=w.drew) hk⟩, .inr ⟨_,rfl,qaA _⟩⟩
  ·have:=grownCap_ge w (xs.length+1) cap 84
   simpa using this
  ·have:=grownCap_ge w (xs.length+1) cap 84
   simp only[Array.size_append,List.size_toArray,size_zeroCells,hzs,List.length_singleton]
   omega
  ·show((xs.toArray++[x].toArray++Builtin.zeroCells z.cells (grownCap w (xs.length+1) cap 84-(xs.length+1))).toList.drop 0).take (xs++[x]).length=xs++[x]
   rw[qdy,Array.toList_append,Array.toList_append]
   exact List.take_left
theorem OwU.made {w:World} {B:Nat} {x:Value} (hB:B≤w.heap.size):OwU (w.alloc (.cells #[x] 84)) B (.slice (some ⟨w.heap.size,0,none⟩) 1 1) [x]:=⟨w.heap.size,0,1,#[x],rfl,hB,heap_alloc_new w _,by simp,by unfold maxLen;omega,by simp,by simp⟩
end
section
open Go.RowKit Go.Shelf Go.Lib
attribute [local go_sem] Ext.cell Ext.frozen
theorem MapAv.nil (r:Nat):MapAv (.map []) r:=fun v _ hh=>by simp[Maps.has]at hh
theorem MapAv.fresh {w:World} {mb m:Nat} {D:DataW Value} {Gf:Q3→List Nat} (h:MapS w mb m D Gf) {r:Nat} (hr:w.heap.size≤r):MapAv D r:=fun v hv hh=>by
 obtain⟨g,h1,h2⟩:=h.2 v hv hh
 exact⟨g,_,by have:=ah h2;omega,h1⟩
theorem MapS.away {w w':World} {mb m r:Nat} {D:DataW Value} {Gf:Q3→List Nat} {row:Option Nat} (h:MapS w mb m D Gf) (ha:MapAv D r) (hg:w.grownBy w' row) (hr:row=some r) (hm:r≠mb):MapS w' mb m D Gf:=by
 subst hr
 refine⟨h.1.kept hg (fun e=>hm (qgb e).symm),fun v hv hh=> ?_⟩
 obtain⟨g,h1,h2⟩:=h.2 v hv hh
 obtain⟨g',n',h3,h4⟩:=ha v hv hh
 have e:=(h1 .nil).symm.trans (h4 .nil)
 injection e with e
 injection e with e _ _
 injection e with e
 injection e with e _ _
 exact⟨g,h1,(hg.block g (ah h2) (fun k=>h3 (by rw[←e];exact qgb k))).trans h2⟩
theorem qhK {l:List (List (List Q4))} {v:Q3} (h0:eB l=0) (hv:v∈ways26) (sb mb m0:Nat) (D:DataW Value) (pv:Value) (W:World) (hm:m0≤1000000) (k1:W.heap[sb]? =some (.cells #[pv, .map (some mb)] 168 (0,0))) (k2:MapS W mb m0 D (eM (psB l))) (k3:PtsV W pv (psB l)):
  Calls Tryz.prog 42 #[.pointer (some ⟨sb,0,none⟩),vW v] W (qiC mb m0 D (eM (psB l)) v W):=
 qhS m0 D (psB l) v sb mb pv W hv (fun p hp=>by
  obtain⟨s,hs,rfl⟩:=altt.1 hp
  have:=zZ ((sq h0).2 s hs)
  exact⟨qer this.1,by rw[qdo];exact qaD this.2 (by decide)⟩) (by rw[WM];exact(sq h0).1) k1 k2 hm (KE h0 v hv) k3
structure ClI (G:List Nat) (all rest:Nat):Prop where
 lt:rest<4096
 sub:∀x,rest.testBit x=true→all.testBit x=true
 shut:WY (Vf G) (fun k=>all.testBit k=true) (fun k=>rest.testBit k=true)
theorem ClI.start {G:List Nat} {all:Nat} (h:all<4096):ClI G all all:=⟨h,fun _ h=>h,fun _ _ h1 h2=>absurd h1 h2⟩
def XU (E:Nat→Nat→Bool) (A left:List Nat) (n:Nat):Bool:=WP E left (WJ E A left n)
theorem Ye {p:Nat→Bool}:∀(l:List Nat) (i:Nat) (hi:i<l.length),(∀j (hj:j<l.length),j<i→p l[j]=false)→p l[i]=true→l.find? p=some l[i]
 |a::l,0,_,_,h=>by rw[List.find?_cons];simp only[qdt]at h ⊢;rw[h]
 |a::l,i+1,hi,h0,h=>by
  have ha:=h0 0 (by simp) (by omega)
  simp only[qdt]at ha
  rw[List.find?_cons,ha]
  simp only[List.getElem_cons_succ]at h ⊢
  exact Ye l i (by simpa using hi) (fun j hj hji=>by have:=h0 (j+1) (by simpa using hj) (by omega);simpa using this) h
def nxt (G:List Nat) (rest n:Nat):Nat:=dN rest (car G rest n)
theorem ClI.next {G:List Nat} {E:Nat→Nat→Bool} (hE:∀j k,E j k=true↔Vf G j k) {all rest f:Nat} (ha:all<4096) (h:ClI G all rest) (i:Nat) (hi:i<(lf rest).length)
  (h0:∀j (hj:j<(lf rest).length),j<i→XU E (lf all) (lf rest) (lf rest)[j]=false) (h1:XU E (lf all) (lf rest) (lf rest)[i]=true) (hf:rest≤f):
  ∃r f',ClI G all r∧r<4096∧r≤f'∧lf r=(lf rest).filter (fun y=> !(WJ E (lf all) (lf rest) (lf rest)[i]).contains y)∧(lf r).length<(lf rest).length∧Yw E (lf all) f (lf rest)=WJ E (lf all) (lf rest) (lf rest)[i]::Yw E (lf all) f' (lf r):=by
 have hn:=(Tz h.lt).1 (qaB hi)
 have hd:=Ye (p:=XU E (lf all) (lf rest)) _ i hi h0 h1
 obtain⟨e0,hok⟩:=Yd hE ha h.lt h.sub h.shut hn
 have hok1:okC G rest (lf rest)[i]=true:=by rw[e0];exact h1
 obtain⟨e1,e2,h3⟩:=hok hok1
 have hc:=VK G rest (lf rest)[i] h.lt (nw h.lt hn) (lf rest)[i]
 have hdec:nxt G rest (lf rest)[i]<rest:=YC hn (hc.2 .base)
 obtain⟨f',rfl⟩:∃f',f=f'+1:=⟨f-1,by omega⟩
 refine⟨nxt G rest (lf rest)[i],f',⟨Yc h.lt,fun x hx=>h.sub x (by unfold nxt at hx;rw[Gh]at hx;simp at hx;exact hx.1),h3⟩,Yc h.lt,by omega,e2, ?_, ?_⟩
 ·unfold nxt
  rw[e2,VN]
  intro e
  have hm:(lf rest)[i]∈(lf rest).filter (fun y=> !(WJ E (lf all) (lf rest) (lf rest)[i]).contains y):=by rw[e];exact qaB hi
  have hm2:=(alsm.1 hm).2
  rw[←e1]at hm2
  have:(lf (car G rest (lf rest)[i])).contains (lf rest)[i]=true:=List.contains_iff_mem.2 ((Tz (Me G rest _ h.lt (nw h.lt hn))).2 (hc.2 .base))
  rw[this]at hm2
  cases hm2
 ·conv=>lhs;unfold Yw
  have hd':(lf rest).find? (fun n=>WP E (lf rest) (WJ E (lf all) (lf rest) n))=some (lf rest)[i]:=hd
  rw[hd']
  simp only
  unfold nxt
  rw[e2]
theorem ClI.some {G:List Nat} {E:Nat→Nat→Bool} (hE:∀j k,E j k=true↔Vf G j k) {all rest:Nat} (ha:all<4096) (h:ClI G all rest) (hl:0<(lf rest).length)
  (h0:∀j (hj:j<(lf rest).length),XU E (lf all) (lf rest) (lf rest)[j]=false):False:=by
 obtain⟨n,hn⟩:=Yr (G:=G) h.lt (fun e=>by rw[e,elems_zero]at hl;simp at hl)
 have hm:=List.mem_of_find?_eq_some hn
 have hp:=List.find?_some hn
 rw[(Yd hE ha h.lt h.sub h.shut ((Tz h.lt).1 hm)).1]at hp
 obtain⟨j,hj,rfl⟩:=qaJ hm
 have:=h0 j hj
 unfold XU at this
 rw[this]at hp
 cases hp
end
end Go.Proofs.YtffbilcjhlncfaaGreatDoor
