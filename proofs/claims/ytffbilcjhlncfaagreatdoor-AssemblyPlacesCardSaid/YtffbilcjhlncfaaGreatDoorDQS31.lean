/- texts: MF F3 F2 IE MG0 MG1 MG MO MQ MR Ms MH. -/
import Derived.Test.YtffbilcjhlncfaaGreatDoorDQS30
import Derived.Deep.RegionHeld
namespace Go.Proofs.YtffbilcjhlncfaaGreatDoor
set_option maxHeartbeats 8000000
set_option linter.all false
section
open Go.RowKit Go.Shelf Go.Lib
set_option maxRecDepth 100000
attribute [local go_sem] Ext.cell Ext.frozen
def uV (n:Nat):Value:= .int .u64 (n:Int)
def Cb (ps:List (List Bod)) (v:Q3) (i k:Nat):Bool:=BT (ps.getD i []) (ps.getD k []) v
def ks (ps:List (List Bod)) (v:Q3) (i k:Nat):Nat:=(List.range k).foldl (fun s k=>if i≠k∧Cb ps v i k=true then s |||2 ^ k else s) 0
def eM (ps:List (List Bod)) (v:Q3):List Nat:=(List.range ps.length).map fun i=>ks ps v i ps.length
theorem qbK (ps:List (List Bod)) (v:Q3) (i k:Nat):ks ps v i (k+1)=if i≠k∧Cb ps v i k=true then ks ps v i k |||2 ^ k else ks ps v i k:=by
 unfold ks
 rw[List.range_succ,List.foldl_append]
 rfl
theorem Ei (ps:List (List Bod)) (v:Q3) (i k:Nat) (h:k≤12):ks ps v i k<4096:=by
 have key:ks ps v i k<2 ^ 12:=by
  induction k with
  |zero=>unfold ks;simp
  |succ k ih=>
   rw[qbK]
   split
   ·exact Nat.or_lt_two_pow (ih (by omega)) (Nat.pow_lt_pow_right (by decide) (by omega))
   ·exact ih (by omega)
 exact key
def gSt (ps:List (List Bod)) (v:Q3) (n i k:Nat):List Nat:=(List.range n).map fun j=>if j<i then ks ps v j n else if j=i then ks ps v i k else 0
theorem Ej (ps:List (List Bod)) (v:Q3) (n i k:Nat):(gSt ps v n i k).length=n:=by simp[gSt]
theorem Mc (ps:List (List Bod)) (v:Q3) (n i k:Nat) (h:i<n):(gSt ps v n i k)[i]? =some (ks ps v i k):=by
 unfold gSt
 rw[List.getElem?_map,List.getElem?_range h]
 simp
theorem Ld (ps:List (List Bod)) (v:Q3) (n i k:Nat) (h:i<n):((gSt ps v n i k).map uV).toArray.setIfInBounds i (uV (ks ps v i (k+1)))=((gSt ps v n i (k+1)).map uV).toArray:=by
 apply Array.ext
 ·simp[Ej]
 ·intro j h1 h2
  have hj:j<n:=by simpa [Ej]using h2
  rw[qdC (by simpa [Ej]using hj)]
  by_cases e:i=j
  ·subst e
   rw[if_pos rfl]
   simp[gSt]
  ·rw[if_neg e]
   simp[gSt]
   congr 1
   split
   ·rfl
   ·rw[if_neg (by omega),if_neg (by omega)]
theorem qhI (ps:List (List Bod)) (v:Q3) (n i k:Nat) (h:ks ps v i (k+1)=ks ps v i k):gSt ps v n i (k+1)=gSt ps v n i k:=by unfold gSt;rw[h]
theorem qhJ (ps:List (List Bod)) (v:Q3) (n i:Nat):gSt ps v n i n=gSt ps v n (i+1) 0:=by
 unfold gSt
 apply List.map_congr_left
 intro j hj
 have hj:j<n:=by simpa using hj
 have h0:∀i,ks ps v i 0=0:=fun _=>rfl
 by_cases h1:j<i
 ·rw[if_pos h1,if_pos (by omega)]
 ·rw[if_neg h1]
  by_cases h2:j=i
  ·subst h2;rw[if_pos rfl,if_pos (by omega)]
  ·rw[if_neg h2,if_neg (by omega),h0]
   split<;>rfl
theorem JN (ps:List (List Bod)) (v:Q3) (n:Nat):gSt ps v n 0 0=List.replicate n 0:=by
 unfold gSt
 apply List.ext_getElem
 ·simp
 ·intro j h1 h2
  have h0:ks ps v 0 0=0:=rfl
  simp[h0]
theorem Le (ps:List (List Bod)) (v:Q3) (k:Nat):gSt ps v ps.length ps.length k=eM ps v:=by
 unfold gSt eM
 apply List.map_congr_left
 intro j hj
 rw[if_pos (by simpa using hj)]
theorem JO {w:World} {g:Nat} {G:List Nat} {t:TypeId} (h:w.heap[g]? =some (.cells (G.map uV).toArray t (0,0))):GphAt w g G:=fun i hi=>by
 rw[bq h]
 simp[uV,hi]
theorem JP:(Tryz.prog.info? 84).map (fun i=>(i.zero,i.size,i.bytes))=some (some (.int .u64 0),1,8):=by kernel_rfl
theorem Gk:Tryz.prog.underlying 93=some (.slice 84):=by kernel_rfl
theorem It (n:Nat):madeCells #[.int .u64 0] (n*1)=((List.replicate n 0).map uV).toArray:=by
 apply Array.ext
 ·simp[madeCells]
 ·intro j h1 h2
  simp[madeCells,uV,Nat.mod_one]
theorem Gl (n:Nat) (hn:n≤1000) (w:World):(Instr.makeSlice 93 (.int .i64 n) (.int .i64 n)).run Tryz.prog w= .ok (.slice (some ⟨w.heap.size,0,none⟩) n n) (w.alloc (.cells ((List.replicate n 0).map uV).toArray 84)):=by
 obtain⟨i0,hi0,hz0,hz1,hz2⟩:=info_parts JP
 have h:=run_make w 93 84 i0 (.int .u64 0) Gk hi0 hz0 .i64 .i64 n n (by omega) (Int.le_refl _) (by rw[hz2];omega) (by omega)
 rw[hz1]at h
 have e:(Value.int .u64 0).cells=#[.int .u64 0]:=rfl
 rw[e,Int.toNat_natCast,It]at h
 exact h
theorem Lf:∀v∈ways26,(-v.1, -v.2.1, -v.2.2)∈ways26:=by decide
theorem GK (k:Nat) (hk:k<12) (g:Nat) (W:World) (h:W.heap[g]? =some (.cells #[.int .i64 k] 3 (0,0))):Calls Tryz.prog 40 #[.slice (some ⟨g,0,none⟩) 1 1] W (Ret W (.int .u64 ((2 ^ k:Nat):Int))):=by
 have hs:nr [(k:Int)]=2 ^ k:=by simp[nr]
 have:=Cx [(k:Int)] (.slice (some ⟨g,0,none⟩) 1 1) W (fun x hx=>by simp at hx;omega) (by simp) ⟨_,1,1,rfl,rfl,qaA _,fun _=>⟨g,0,rfl,fun i hi=>by
  obtain rfl:i=0:=by simpa using hi
  exact(bq h 0).trans rfl⟩⟩
 refine this.mono ?_
 rintro e w' ⟨rfl,rfl⟩
 exact⟨by rw[hs],brf⟩
def JQ (k:Nat):Value→World→Prop:=fun v w=>∃g,v= .slice (some ⟨g,0,none⟩) 1 1∧w.heap[g]? =some (.cells #[.int .i64 k] 3 (0,0))
theorem Fg (k:Nat):dR (JQ k):=fun _ _ _ hb ⟨g,h1,h2⟩=>⟨g,h1,(hb.block _ (ah h2)).trans h2⟩
def GrS (X:World) (g b:Nat) (L M:List Nat) (w:World):Prop:=Below X.heap.size X w∧w.heap[g]? =some (.cells (L.map uV).toArray 84 (0,0))∧w.heap[b]? =some (.cells (M.map uV).toArray 84 (0,0))
theorem GrS.keep {X:World} {g b:Nat} {L M:List Nat} {w w':World} (h:GrS X g b L M w) (hb:Below w.heap.size w w'):GrS X g b L M w':=by
 obtain⟨h1,h2,h5⟩:=h
 exact⟨h1.trans (hb.mono h1.size),(hb.block _ (ah h2)).trans h2,(hb.block _ (ah h5)).trans h5⟩
theorem GrS.setG {X:World} {g b:Nat} {L L' M:List Nat} {w:World} (h:GrS X g b L M w) (hX:X.heap.size≤g) (hgb:g≠b) (i:Nat) (u:Value) (e:(L.map uV).toArray.setIfInBounds i u=(L'.map uV).toArray):GrS X g b L' M (w.setCell ⟨g,i,none⟩ u):=by
 obtain⟨h1,h2,h5⟩:=h
 refine⟨h1.setCell hX _,by rw[←e];exact Tu h2 i u,(qaH w ⟨g,i,none⟩ u b hgb.symm).trans h5⟩
theorem GrS.setB {X:World} {g b:Nat} {L M M':List Nat} {w:World} (h:GrS X g b L M w) (hX:X.heap.size≤b) (hgb:g≠b) (k:Nat) (u:Value) (e:(M.map uV).toArray.setIfInBounds k u=(M'.map uV).toArray):GrS X g b L M' (w.setCell ⟨b,k,none⟩ u):=by
 obtain⟨h1,h2,h5⟩:=h
 exact⟨h1.setCell hX _,(qaH w ⟨b,k,none⟩ _ g hgb).trans h2,by rw[←e];exact Tu h5 k u⟩
theorem GrS.atG {X:World} {g b:Nat} {L M:List Nat} {w:World} (h:GrS X g b L M w) {i m:Nat} (hi:L[i]? =some m):w.cell? ⟨g,i,none⟩=some (.int .u64 (m:Int))∧w.frozen? ⟨g,i,none⟩=false∧g<w.heap.size:=
 ⟨by rw[bq h.2.1];simp[hi,uV],aC h.2.1 i,ah h.2.1⟩
theorem GrS.atB {X:World} {g b:Nat} {L M:List Nat} {w:World} (h:GrS X g b L M w) {i m:Nat} (hi:M[i]? =some m):w.cell? ⟨b,i,none⟩=some (.int .u64 (m:Int))∧w.frozen? ⟨b,i,none⟩=false∧b<w.heap.size:=
 ⟨by rw[bq h.2.2];simp[hi,uV],aC h.2.2 i,ah h.2.2⟩
def bSt (ps:List (List Bod)) (v:Q3) (n i k:Nat):List Nat:=(List.range n).map fun j=>if j<k then ks ps v j (i+1)else ks ps v j i
theorem Md (ps:List (List Bod)) (v:Q3) (n i k:Nat) (h:k<n):(bSt ps v n i k)[k]? =some (ks ps v k i):=by
 unfold bSt
 rw[List.getElem?_map,List.getElem?_range h]
 simp
theorem Lg (ps:List (List Bod)) (v:Q3) (n i k:Nat) (h:k<n):((bSt ps v n i k).map uV).toArray.setIfInBounds k (uV (ks ps v k (i+1)))=((bSt ps v n i (k+1)).map uV).toArray:=by
 apply Array.ext
 ·simp[bSt]
 ·intro j h1 h2
  have hj:j<n:=by simpa [bSt]using h2
  rw[qdC (by simpa [bSt]using hj)]
  by_cases e:k=j
  ·subst e
   rw[if_pos rfl]
   simp[bSt]
  ·rw[if_neg e]
   simp[bSt]
   congr 1
   by_cases h3:j<k
   ·rw[if_pos h3,if_pos (by omega)]
   ·rw[if_neg h3,if_neg (by omega)]
theorem JR (ps:List (List Bod)) (v:Q3) (n i k:Nat) (h:ks ps v k (i+1)=ks ps v k i):bSt ps v n i (k+1)=bSt ps v n i k:=by
 unfold bSt
 apply List.map_congr_left
 intro j _
 by_cases e:j=k
 ·subst e;rw[if_pos (by omega),if_neg (by omega),h]
 ·by_cases h3:j<k
  ·rw[if_pos h3,if_pos (by omega)]
  ·rw[if_neg h3,if_neg (by omega)]
theorem JS (ps:List (List Bod)) (v:Q3) (n i:Nat):bSt ps v n i n=bSt ps v n (i+1) 0:=by
 unfold bSt
 apply List.map_congr_left
 intro j hj
 have hj:j<n:=by simpa using hj
 rw[if_pos hj,if_neg (by omega)]
theorem JT (ps:List (List Bod)) (v:Q3) (n:Nat):bSt ps v n 0 0=List.replicate n 0:=by
 unfold bSt
 apply List.ext_getElem
 ·simp
 ·intro j h1 h2
  have h0:ks ps v j 0=0:=rfl
  simp[h0]
theorem Lh (ps:List (List Bod)) (v:Q3):bSt ps v ps.length ps.length 0=eM ps v:=by
 unfold bSt eM
 apply List.map_congr_left
 intro j hj
 rw[if_neg (by omega)]
def MapS (w:World) (mb m:Nat) (D:DataW Value) (Gf:Q3→List Nat):Prop:=OwM w mb m D∧
 ∀v∈ways26,Maps.has D (Oi v)=true→∃g,(∀z,D.atKey (Oi v) z= .held (.slice (some ⟨g,0,none⟩) (Gf v).length (Gf v).length))∧w.heap[g]? =some (.cells ((Gf v).map uV).toArray 84 (0,0))
theorem MapS.kept {w w':World} {mb m:Nat} {D:DataW Value} {Gf:Q3→List Nat} (h:MapS w mb m D Gf) (hb:Below w.heap.size w w'):MapS w' mb m D Gf:=
 ⟨h.1.kept (row:=none) ⟨hb.os,hb.tape,hb.output,hb.size,fun k hk _=>hb.block k hk⟩ (by simp),fun v hv hh=>by
  obtain⟨g,h1,h2⟩:=h.2 v hv hh
  exact⟨g,h1,(hb.block _ (ah h2)).trans h2⟩⟩
theorem rt {w:World} {mb m g:Nat} {D:DataW Value} {cs:Array Value} {t:TypeId} (h:OwM w mb m D) (hg:w.heap[g]? =some (.cells cs t (0,0))):g≠mb:=fun e=>by
 obtain⟨es,ck,h,_⟩:=h
 subst e
 rw[h]at hg
 cases hg
theorem JU {v v':Q3} (h:v∈ways26) (h':v'∈ways26) (e:Oi v=Oi v'):v=v':=by
 have h1:=wC h
 have h2:=wC h'
 rw[e]at h1
 have h3:=way_keyed.inj h1 h2
 obtain⟨a,b,c⟩:=v
 obtain⟨a',b',c'⟩:=v'
 simp only[vW]at h3
 injection h3 with h3
 simp at h3
 obtain⟨rfl,rfl,rfl⟩:=h3
 rfl
theorem MapS.put {w w2:World} {mb m g:Nat} {D:DataW Value} {Gf:Q3→List Nat} (h:MapS w mb m D Gf) {v:Q3} (hv:v∈ways26) (ho:OwM w2 mb (m+1) (D.put (Oi v) (.held (.slice (some ⟨g,0,none⟩) (Gf v).length (Gf v).length)))) (hg:w.grownBy w2 (some mb))
  (hc:w.heap[g]? =some (.cells ((Gf v).map uV).toArray 84 (0,0))):MapS w2 mb (m+1) (D.put (Oi v) (.held (.slice (some ⟨g,0,none⟩) (Gf v).length (Gf v).length))) Gf:=by
 have hk:∀{g':Nat} {cs:Array Value} {t:TypeId},w.heap[g']? =some (.cells cs t (0,0))→w2.heap[g']? =some (.cells cs t (0,0)):=fun{g' cs t} h'=>(hg.block _ (ah h') (fun e=>rt h.1 h' (by cases e;rfl))).trans h'
 refine⟨ho,fun v' hv' hh=> ?_⟩
 by_cases e:v'=v
 ·subst e
  exact⟨g,fun z=>Maps.atKey_put_same h.1.isMap (way_keyed.key (wC hv)) _ _,hk hc⟩
 ·have hne:Oi v'≠Oi v:=fun e'=>e (JU hv' hv e')
  rw[Maps.has_put_other hne]at hh
  obtain⟨g',h1,h2⟩:=h.2 v' hv' hh
  exact⟨g',fun z=>by rw[Maps.atKey_put_other hne];exact h1 z,hk h2⟩
def GrP (mb m:Nat) (Gf:Q3→List Nat) (v:Q3) (W:World) (e:Ending) (w':World):Prop:=∃g m' D',e= .returned (.slice (some ⟨g,0,none⟩) (Gf v).length (Gf v).length)∧Below mb W w'∧W.heap.size≤w'.heap.size∧(∀k,k<W.heap.size→k≠mb→w'.heap[k]? =W.heap[k]?)∧
 GphAt w' g (Gf v)∧MapS w' mb m' D' Gf∧m'≤m+2
theorem JV {w:World} {mb m:Nat} {D:DataW Value} (h:OwM w mb m D) {v:Q3} (hv:v∈ways26) (hh:Maps.has D (Oi v)=false):(Instr.lookup 165 (.map (some mb)) (vW v) true).run Tryz.prog w= .ok (.tuple #[.slice none 0 0, .bool false]) w:=by
 obtain⟨x,ps,h1,h2⟩:=World.ownsMap.look_ok h way_keyed Cl (Ca w) (rfl:RV (.slice none 0 0)=some (.held (.slice none 0 0),[])) (wC hv)
 have e:x= .slice none 0 0:=by
  have h3:RV x=some (.held x,[]):=rfl
  rw[h3,Maps.atKey_of_not_has hh]at h2
  injection h2 with h2
  injection h2 with h2 _
  injection h2
 subst e
 rw[hh]at h1
 exact h1
theorem JW {w:World} {mb m g n:Nat} {D:DataW Value} (h:OwM w mb m D) {v:Q3} (hv:v∈ways26) (hh:Maps.has D (Oi v)=true) (hd:∀z,D.atKey (Oi v) z= .held (.slice (some ⟨g,0,none⟩) n n)):(Instr.lookup 165 (.map (some mb)) (vW v) true).run Tryz.prog w= .ok (.tuple #[.slice (some ⟨g,0,none⟩) n n, .bool true]) w:=by
 obtain⟨x,ps,h1,h2⟩:=World.ownsMap.look_ok h way_keyed Cl (Ca w) (rfl:RV (.slice none 0 0)=some (.held (.slice none 0 0),[])) (wC hv)
 have e:x= .slice (some ⟨g,0,none⟩) n n:=by
  have h3:RV x=some (.held x,[]):=rfl
  rw[h3,hd]at h2
  injection h2 with h2
  injection h2 with h2 _
  injection h2
 subst e
 rw[hh]at h1
 exact h1
def MapAv (D:DataW Value) (r:Nat):Prop:=∀v∈ways26,Maps.has D (Oi v)=true→∃(g n:Nat),g≠r∧∀z,D.atKey (Oi v) z= .held (.slice (some ⟨g,0,none⟩) n n)
theorem MapAv.put {w:World} {mb m:Nat} {D:DataW Value} {r:Nat} (h:MapAv D r) (ho:OwM w mb m D) {v:Q3} (hv:v∈ways26) {g n:Nat} (hg:g≠r):MapAv (D.put (Oi v) (.held (.slice (some ⟨g,0,none⟩) n n))) r:=fun v' hv' hh=>by
 by_cases e:v'=v
 ·subst e
  exact⟨g,n,hg,fun z=>Maps.atKey_put_same ho.isMap (way_keyed.key (wC hv)) _ _⟩
 ·have hne:Oi v'≠Oi v:=fun e'=>e (JU hv' hv e')
  rw[Maps.has_put_other hne]at hh
  obtain⟨g',n',h1,h2⟩:=h v' hv' hh
  exact⟨g',n',h1,fun z=>by rw[Maps.atKey_put_other hne];exact h2 z⟩
def qiC (mb m:Nat) (D:DataW Value) (Gf:Q3→List Nat) (v:Q3) (W:World) (e:Ending) (w':World):Prop:=∃g m' D',e= .returned (.slice (some ⟨g,0,none⟩) (Gf v).length (Gf v).length)∧Below mb W w'∧W.heap.size≤w'.heap.size∧(∀k,k<W.heap.size→k≠mb→w'.heap[k]? =W.heap[k]?)∧
 GphAt w' g (Gf v)∧MapS w' mb m' D' Gf∧m'≤m+2∧∀r,r<W.heap.size→MapAv D r→MapAv D' r
theorem qhS (m0:Nat) (D:DataW Value) (ps:List (List Bod)) (v:Q3) (sb mb:Nat) (pv:Value) (W:World) (hv:v∈ways26) (hps:∀p∈ps,(∀b∈p,Ii b)∧p.length≤1000000) (hl:ps.length≤12) (hS:W.heap[sb]? =some (.cells #[pv, .map (some mb)] 168 (0,0))) (hM:MapS W mb m0 D (eM ps)) (hm0:m0≤1000000) (hsym:∀i k,Cb ps (-v.1, -v.2.1, -v.2.2) k i=Cb ps v i k) (hP:PtsV W pv ps):
  Calls Tryz.prog 42 #[.pointer (some ⟨sb,0,none⟩),vW v] W (qiC mb m0 D (eM ps) v W):=by
 have HBk:=fun i k (hi:i<ps.length) (hk:k<ps.length) p q W' (h1:PartV W' p ps[i]) (h2:PartV W' q ps[k])=>YJ (CN ps[i] ps[k] p q v W' (hps _ (qaB hi)).1 (hps _ (qaB hk)).1 (by have:=Ef v hv;unfold Cj;omega) (hps _ (qaB hi)).2 (hps _ (qaB hk)).2 h1 h2)
 have HBe:=fun i k (hi:i<ps.length) (hk:k<ps.length)=>YJ (show BT ps[i] ps[k] v=Cb ps v i k by unfold Cb;simp[List.getD,hi,hk])
 have HSc:=fun i k=>YJ (qbK ps v i k)
 have HSL:=fun i k (h:k≤12)=>YJ (Ei ps v i k h)
 have hneg:=Lf v hv
 have HWb:=YJ (Ef v hv)
 have HPs:=YJ hP
 have HLen:Hid ((eM ps v).length=ps.length):=YJ (by simp[eM])
 have HEnd:=fun k=>YJ (Le ps v k)
 have HSt:=fun i k h=>YJ (Ld ps v ps.length i k h)
 have HSn:=fun i=>YJ (qhJ ps v ps.length i)
 have HSe:=fun i k h=>YJ (qhI ps v ps.length i k h)
 have HS0:=YJ (JN ps v ps.length)
 have HSa:=fun i k h=>YJ (Mc ps v ps.length i k h)
 obtain⟨v',Hv'⟩:∃v':Q3,Hid (v'=(-v.1, -v.2.1, -v.2.2)):=⟨_,YJ rfl⟩
 have hneg':v'∈ways26:=by rw[Hv'.out];exact hneg
 have HBc:=fun i k=>YJ (show ks ps v' k (i+1)=if i≠k∧Cb ps v i k=true then ks ps v' k i |||2 ^ i else ks ps v' k i by
  rw[qbK,Hv'.out,hsym i k]
  by_cases h:i=k
  ·rw[if_neg (by omega),if_neg (by omega)]
  ·congr 1
   simp[h,Ne.symm h])
 have HBL:=fun i k (h:i≤12)=>YJ (Ei ps v' k i h)
 have HBt:=fun i k h=>YJ (Lg ps v' ps.length i k h)
 have HBn:=fun i=>YJ (JS ps v' ps.length i)
 have HBs:=fun i k h=>YJ (JR ps v' ps.length i k h)
 have HB0:=YJ (JT ps v' ps.length)
 have HBa:=fun i k h=>YJ (Md ps v' ps.length i k h)
 have HBd:=YJ (Lh ps v')
 obtain⟨a,n,c,rfl,hn,hnc,hx⟩:=hP
 have HX:=YJ hx
 have HN:=YJ hn
 obtain⟨x,y,z⟩:=v
 obtain⟨V,HV⟩:∃V,Hid (W.alloc (.cells #[.int .i64 x, .int .i64 y, .int .i64 z] 58)=V):=⟨_,YJ rfl⟩
 have hV:Below W.heap.size W V:=by rw[←HV.out];exact bel
 have hmb:mb<W.heap.size:=hM.1.lt
 have hne:mb≠sb:=(rt hM.1 hS).symm
 have HSb:=YJ ((hV.block _ (ah hS)).trans hS)
 have HWy:Hid (V.heap[W.heap.size]? =some (.cells #[.int .i64 x, .int .i64 y, .int .i64 z] 58 (0,0))):=YJ (by rw[←HV.out];exact ai rfl)
 have HMV:=YJ (hM.kept hV)
 have hsb:sb<W.heap.size:=ah hS
 clear hx hn hM hS
 show Calls Tryz.prog 42 #[.pointer (some ⟨sb,0,none⟩),V3 x y z] W _
 go_enter Tryz.func42,Tryz.ntmps42
 cases hhas:Maps.has D (Oi (x,y,z))with
 |true=>
  obtain⟨g,hd,hcg⟩:=HMV.out.2 _ hv hhas
  have HLk:=fun W' (h:Below V.heap.size V W')=>YJ (JW (w:=W') (HMV.out.kept h).1 hv hhas hd)
  simp only[vW]at HLk
  have HCg:=YJ hcg
  obtain⟨L,HL⟩:∃L,Hid ((eM ps (x,y,z)).length=L):=⟨_,YJ rfl⟩
  rw[HL.out]at HLk
  clear hd hcg HBk HBe HSc HSL HSt HSn HSe HSa HBc HBL HBt HBn HBs HBa hsym
  go_wp2
  rw[HV.out]
  obtain⟨s0,s1,sz⟩:=xv HSb.out
  obtain⟨w0,w1,w2,wf,wz⟩:=NO HWy.out
  apply aj [9] [0,1,2,3,4,5,6,7,8,9] 10 [] [sv _,sv _,sv _,sv _,sv _,sv _,sv _,sv _,sv _,sv _] (by kernel_rfl) (by kernel_rfl)
  iterate 5 ((try go_frame);refine wkQ ?_)
  try go_frame
  refine wkV ?_
  apply ex3
  ·intro u K hK
   have hlk:=(HLk u.val u.below).out
   go_simp
   exact hK _ brf
  rfl
  iterate 3 ((try go_frame);refine wkQ ?_)
  try go_frame
  refine wkz rfl rfl rfl rfl ?_
  apply Exists.intro
  apply And.intro
  ·intro w9
   go_simp
   try rfl
  refine⟨rfl, ?_⟩
  try go_frame
  refine aI (fun u hR=> ?_)
  have HMu:=YJ (HMV.out.kept u.below)
  have hWu:Below W.heap.size W u.val:=fB hV u.below
  have HCu:=YJ ((u.below.block _ (ah HCg.out)).trans HCg.out)
  clear hR HLk s0 s1 sz w0 w1 w2 wf wz
  generalize u.val=X at*
  clear u
  simp only[oas]
  go_wp2
  refine NoPanic.normal ?_
  go_wp2
  go_ret
  exact⟨g,m0,D,by rw[HL.out];rfl,hWu.mono (by omega),hWu.size,fun k hk _=>hWu.block k hk,JO HCu.out,HMu.out,by omega,fun r _ h=>h⟩
 |false=>
 have HLk:=fun W' (h:Below V.heap.size V W')=>YJ (JV (w:=W') (HMV.out.kept h).1 hv hhas)
 simp only[vW]at HLk
 go_wp2
 rw[HV.out]
 obtain⟨s0,s1,sz⟩:=xv HSb.out
 obtain⟨w0,w1,w2,wf,wz⟩:=NO HWy.out
 apply aj [9] [0,1,2,3,4,5,6,7,8,9] 10 [] [sv _,sv _,sv _,sv _,sv _,sv _,sv _,sv _,sv _,sv _] (by kernel_rfl) (by kernel_rfl)
 iterate 5 ((try go_frame);refine wkQ ?_)
 try go_frame
 refine wkV ?_
 apply ex3
 ·intro u K hK
  have hlk:=(HLk u.val u.below).out
  go_simp
  exact hK _ brf
 rfl
 iterate 3 ((try go_frame);refine wkQ ?_)
 try go_frame
 refine wkz rfl rfl rfl rfl ?_
 apply Exists.intro
 apply And.intro
 ·intro w9
  go_simp
  try rfl
 refine⟨rfl, ?_⟩
 try go_frame
 refine aI (fun u hR=> ?_)
 have HSu:=YJ ((u.below.block _ (ah HSb.out)).trans HSb.out)
 have HWu:=YJ ((u.below.block _ (ah HWy.out)).trans HWy.out)
 have HMu:=YJ (HMV.out.kept u.below)
 have hWu:Below W.heap.size W u.val:=fB hV u.below
 clear hR HLk s0 s1 sz w0 w1 w2 wf wz HSb HWy HMV HV hV
 generalize u.val=X at*
 clear u
 simp only[oas]
 go_wp2
 refine NoPanic.normal ?_
 obtain⟨s0,s1,sz⟩:=xv HSu.out
 have hn1000:n≤1000:=by have:=HN.out;omega
 have hmk:=Gl n hn1000
 obtain⟨Z,HZ⟩:∃Z,Hid (((List.replicate n 0).map uV).toArray=Z):=⟨_,YJ rfl⟩
 rw[HZ.out]at hmk
 go_wp2_with fail
 go_cut [7,8] (fun s7 s8 wx=>∃g b,s7= .slice (some ⟨g,0,none⟩) n n∧s8= .slice (some ⟨b,0,none⟩) n n∧g≠b∧X.heap.size≤g∧X.heap.size≤b∧wx.heap[g]? =some (.cells Z 84 (0,0))∧wx.heap[b]? =some (.cells Z 84 (0,0))∧Below X.heap.size X wx)
 case first=>
  go_region_held (fun w'=>w'.cell? ⟨sb,0,none⟩=some (.slice a n c)) (exact ab bel s0) (fail)
  all_goals (go_wp2_with fail;go_meet;refine⟨_,_,rfl,rfl, ?_, ?_, ?_, ?_, ?_,bel⟩<;>first|(refine ai ?_;(simp;done))|(refine(aB ?_).trans (ai rfl);(simp;done))|(simp;done)|(simp;omega))
 case rest=>
  rename World=>Y
  obtain⟨g,b,rfl,rfl,hgb,hg,hb0,hG,hB,hbY⟩:=hcut
  have HG0:Hid (GrS X g b (gSt ps (x,y,z) ps.length 0 0) (bSt ps v' ps.length 0 0) Y):=YJ ⟨hbY,by rw[HS0.out,HN.out,HZ.out];exact hG,by rw[HB0.out,HN.out,HZ.out];exact hB⟩
  have hWX:W.heap.size<X.heap.size:=ah HWu.out
  clear hG hB HZ hmk s0 s1 sz HS0 HB0
  have HSX:=HSu
  have x0:∀w,Below X.heap.size X w→w.cell? ⟨sb,0,none⟩=some (.slice a n c)∧w.cell? ⟨sb,1,none⟩=some (.map (some mb))∧sb<w.heap.size:=fun w h=>by
   obtain⟨s0,s1,sz⟩:=xv HSu.out
   exact⟨ab h s0,ab h s1,qaG sz h.size⟩
  have HX0:=YJ x0
  clear x0
  obtain⟨s0,s1,sz⟩:=HX0.out Y hbY
  go_wp2
  go_loopw [41] (fun j wr=>∃i:Nat,i≤n∧j= .int .i64 i∧Hid (GrS X g b (gSt ps (x,y,z) ps.length i 0) (bSt ps v' ps.length i 0) wr)) (fun j _=>n-(intOf j).toNat)
  case atStart=>exact⟨0,by omega,rfl,HG0⟩
  case round=>
   clear s0 s1 sz HG0 hbY
   obtain⟨i,hi,rfl,HG⟩:=hrel
   obtain⟨s0,s1,sz⟩:=HX0.out _ HG.out.1
   by_cases hli:i<n
   ·have g1:(i:Int)<(n:Int):=by omega
    have g2:(0:Int)≤(i:Int):=by omega
    have hil:i<ps.length:=by have:=HN.out;omega
    obtain⟨pb,poff,rfl,hpi⟩:=HX.out (by omega)
    obtain⟨pvi,e0,hPi⟩:=hpi i hil
    have e0':X.cell? ⟨pb,poff+i,none⟩=some pvi:=ab hWu e0
    have HPi:=YJ (hPi.below hWu)
    have e1:=ab HG.out.1 e0'
    have ez:=qaC wr _ e1
    simp only at ez
    obtain⟨ia,im,ic,rfl, -⟩:=hPi
    clear e0 e0' hpi
    go_wp2
    go_loopw [51] (fun j wr=>∃k:Nat,k≤n∧j= .int .i64 k∧Hid (GrS X g b (gSt ps (x,y,z) ps.length i k) (bSt ps v' ps.length i k) wr)) (fun j _=>n-(intOf j).toNat)
    case atStart=>exact⟨0,by omega,rfl,HG⟩
    case round=>
     clear s0 s1 sz HG e1 ez
     obtain⟨k,hk,rfl,HG⟩:=hrel
     obtain⟨s0,s1,sz⟩:=HX0.out _ HG.out.1
     by_cases hlk:k<n
     ·have g3:(k:Int)<(n:Int):=by omega
      have g4:(0:Int)≤(k:Int):=by omega
      have hkl:k<ps.length:=by have:=HN.out;omega
      have hk12:k<12:=by omega
      have hi12:i<12:=by omega
      obtain⟨pb',poff',he,hpk⟩:=HX.out (by omega)
      cases he
      obtain⟨pvk,f0,hPk⟩:=hpk k hkl
      have f0':X.cell? ⟨pb,poff+k,none⟩=some pvk:=ab hWu f0
      have HPk:=YJ (hPk.below hWu)
      have f1:=ab HG.out.1 f0'
      have fz:=qaC wr _ f1
      simp only at fz
      obtain⟨ka,km,kc,rfl, -⟩:=hPk
      have Hrow:=YJ ((HSc i k).out)
      clear f0 f0' hpk HX
      by_cases hik:i=k
      ·have HN2:Hid (GrS X g b (gSt ps (x,y,z) ps.length i (k+1)) (bSt ps v' ps.length i (k+1)) wr):=YJ (by rw[(HSe i k (by rw[Hrow.out,if_neg (by omega)])).out,(HBs i k (by rw[(HBc i k).out,if_neg (by omega)])).out];exact HG.out)
       subst hik
       clear HSc HSe Hrow HBk HBe HBc HBs
       go_wp2
       go_roundw
       case rel=>exact⟨i+1,by omega,by go_num,HN2⟩
       simp[intOf];try omega
      ·have hik':((i:Int)!=(k:Int))=true:=by simp;omega
       have HC:=fun W' (hW':Below wr.heap.size wr W')=>YJ ((HBk i k hil hkl _ _ W' (HPi.out.below (HG.out.1.trans (hW'.mono HG.out.1.size))) (HPk.out.below (HG.out.1.trans (hW'.mono HG.out.1.size)))).out)
       rw[(HBe i k hil hkl).out]at HC
       obtain⟨w0,w1,w2,wf,wz⟩:wr.cell? ⟨W.heap.size,0,none⟩=some (.int .i64 x)∧wr.cell? ⟨W.heap.size,1,none⟩=some (.int .i64 y)∧wr.cell? ⟨W.heap.size,2,none⟩=some (.int .i64 z)∧True∧W.heap.size<wr.heap.size:=by
        obtain⟨w0,w1,w2,_,wz⟩:=NO HWu.out
        exact⟨ab HG.out.1 w0,ab HG.out.1 w1,ab HG.out.1 w2,trivial,qaG wz HG.out.1.size⟩
       have HSame:=YJ (HSe i k)
       have HSameB:=YJ (HBs i k)
       have HrowB:=YJ ((HBc i k).out)
       have HSetB:=YJ ((HBt i k hkl).out)
       have HAtB:=YJ ((HBa i k hkl).out)
       have hq12:=(HBL i k (by omega)).out
       have HSet:=YJ ((HSt i k hil).out)
       have HAt:=YJ ((HSa i k hil).out)
       have hm12:=(HSL i k (by omega)).out
       have hm12':=(HSL i (k+1) (by omega)).out
       clear HBk HBe HSc HSe HSt HSa HSL HBc HBs HBt HBa HBL
       obtain⟨m,HMm⟩:∃m,Hid (ks ps (x,y,z) i k=m):=⟨_,YJ rfl⟩
       obtain⟨m',HMm'⟩:∃m',Hid (ks ps (x,y,z) i (k+1)=m'):=⟨_,YJ rfl⟩
       rw[HMm.out]at HAt hm12 Hrow
       rw[HMm'.out]at HSet hm12' Hrow
       have HSame':Hid (m'=m→gSt ps (x,y,z) ps.length i (k+1)=gSt ps (x,y,z) ps.length i k):=YJ (fun e=>(HSame.out (by rw[HMm.out,HMm'.out,e])).out)
       obtain⟨q,HQq⟩:∃q,Hid (ks ps v' k i=q):=⟨_,YJ rfl⟩
       obtain⟨Q,HQq'⟩:∃Q,Hid (ks ps v' k (i+1)=Q):=⟨_,YJ rfl⟩
       rw[HQq.out]at HAtB hq12 HrowB
       rw[HQq'.out]at HSetB HrowB
       have HSameB':Hid (Q=q→bSt ps v' ps.length i (k+1)=bSt ps v' ps.length i k):=YJ (fun e=>(HSameB.out (by rw[HQq.out,HQq'.out,e])).out)
       obtain⟨M',HM'⟩:∃M',Hid (bSt ps v' ps.length i (k+1)=M'):=⟨_,YJ rfl⟩
       rw[HM'.out]at HSetB HSameB'
       generalize bSt ps v' ps.length i k=M at*
       clear HMm HMm' HSame HQq HQq' HSameB
       obtain⟨L',HL'⟩:∃L',Hid (gSt ps (x,y,z) ps.length i (k+1)=L'):=⟨_,YJ rfl⟩
       rw[HL'.out]at HSet HSame'
       generalize gSt ps (x,y,z) ps.length i k=L at*
       generalize Cb ps (x,y,z) i k=bk at*
       go_wp2_with fail
       refine((HC wr (brf)).out).mono ?_
       rintro e w3 ⟨rfl,hb3⟩
       have HG3:=YJ (HG.out.keep hb3)
       clear HC HG s0 s1 sz f1 fz w0 w1 w2 wf wz hb3
       cases bk with
       |false=>
        have HN2:Hid (GrS X g b L' M' w3):=YJ (by rw[HSame'.out (by rw[Hrow.out,if_neg (by simp)]),HSameB'.out (by rw[HrowB.out,if_neg (by simp)])];exact HG3.out)
        clear Hrow HSame' HSet HAt HrowB HSameB' HSetB HAtB
        go_wp2
        go_roundw
        case rel=>exact⟨k+1,by omega,by go_num,YJ (by rw[HL'.out,HM'.out];exact HN2.out)⟩
        simp[intOf];try omega
       |true=>
        have hrow:m'=m |||2 ^ k:=by rw[Hrow.out,if_pos ⟨hik,rfl⟩]
        have hrowB:Q=q |||2 ^ i:=by rw[HrowB.out,if_pos ⟨hik,rfl⟩]
        have hset:=fun W' g h=>YJ (GK k hk12 g W' h)
        have hset2:=fun W' g h=>YJ (GK i hi12 g W' h)
        have hpk:(2:Nat) ^ k<2 ^ 12:=Nat.pow_lt_pow_right (by decide) hk12
        have hpi:(2:Nat) ^ i<2 ^ 12:=Nat.pow_lt_pow_right (by decide) hi12
        obtain⟨P,HP⟩:∃P:Nat,Hid (2 ^ k=P):=⟨_,YJ rfl⟩
        obtain⟨R,HR⟩:∃R:Nat,Hid (2 ^ i=R):=⟨_,YJ rfl⟩
        rw[HP.out]at hset hrow hpk
        rw[HR.out]at hset2 hpi hrowB
        have hor:=bits_or_u64_nat m P (by omega) (by omega)
        rw[←hrow]at hor
        obtain⟨cg,cf,cz⟩:=HG3.out.atG HAt.out
        have hor2:=bits_or_u64_nat q R (by omega) (by omega)
        rw[←hrowB]at hor2
        clear Hrow HSame' HP HR hrow HrowB HSameB' hrowB
        go_wp2
        apply aj [] [0,1,2,3,4,5,6,7] 8 [9] [sv _,sv _,sv _,sv _,sv _,⟨JQ k,by first|exact Fg _⟩,sv _,sv _] (by kernel_rfl) (by kernel_rfl)
        iterate 5 ((try go_frame);refine wkQ ?_)
        try go_frame
        refine wkU (fun u hR K hK=> ?_) (fun o5=> ?_)
        ·clear hR
         go_simp
         exact hK _ _ bel ⟨_,rfl,ai rfl⟩
        try go_frame
        refine wkR ?_
        apply ex3
        ·intro u hR K hK
         have h5:(JQ k) o5 u.val:=hr hR 5
         clear hR
         obtain⟨g9,rfl,hg9⟩:=h5
         go_simp
         refine((hset _ _ hg9).out).mono ?_
         rintro e w9 ⟨rfl,hb9⟩
         exact hK _ hb9
        rfl
        ((try go_frame);refine wkQ ?_)
        try go_frame
        refine aI (fun u hR=> ?_)
        have HG4:=YJ (HG3.out.keep u.below)
        clear hR HG3 cg cf cz
        generalize u.val=w4 at*
        clear u
        obtain⟨cg,cf,cz⟩:=HG4.out.atG HAt.out
        have HG5:=YJ (HG4.out.setG hg hgb i (uV m') HSet.out)
        simp only[oas]
        go_wp2
        refine NoPanic.normal ?_
        obtain⟨w5,HW5⟩:∃w5,Hid (w4.setCell ⟨g,i,none⟩ (.int .u64 m')=w5):=⟨_,YJ rfl⟩
        have HG6:Hid (GrS X g b L' M w5):=YJ (by rw[←HW5.out];exact HG5.out)
        clear HG4 HG5 cg cf cz HSet HAt
        obtain⟨cb,cbf,cbz⟩:=HG6.out.atB HAtB.out
        rw[HW5.out]
        go_wp2
        apply aj [] [0,1,2,3,4,5,6,7] 8 [9] [sv _,sv _,sv _,sv _,sv _,⟨JQ i,by first|exact Fg _⟩,sv _,sv _] (by kernel_rfl) (by kernel_rfl)
        iterate 5 ((try go_frame);refine wkQ ?_)
        try go_frame
        refine wkU (fun u hR K hK=> ?_) (fun o5=> ?_)
        ·clear hR
         go_simp
         exact hK _ _ bel ⟨_,rfl,ai rfl⟩
        try go_frame
        refine wkR ?_
        apply ex3
        ·intro u hR K hK
         have h5:(JQ i) o5 u.val:=hr hR 5
         clear hR
         obtain⟨g9,rfl,hg9⟩:=h5
         go_simp
         refine((hset2 _ _ hg9).out).mono ?_
         rintro e w9 ⟨rfl,hb9⟩
         exact hK _ hb9
        rfl
        ((try go_frame);refine wkQ ?_)
        try go_frame
        refine aI (fun u hR=> ?_)
        have HG7:=YJ (HG6.out.keep u.below)
        clear hR HG6 cb cbf cbz HW5
        generalize u.val=w7 at*
        clear u
        obtain⟨cb,cbf,cbz⟩:=HG7.out.atB HAtB.out
        have HG8:=YJ (HG7.out.setB hb0 hgb k (uV Q) HSetB.out)
        simp only[oas]
        go_wp2
        refine NoPanic.normal ?_
        go_wp2
        go_roundw
        case rel=>exact⟨k+1,by omega,by go_num,YJ (by rw[HL'.out,HM'.out];exact HG8.out)⟩
        simp[intOf];try omega
     ·obtain rfl:k=n:=by omega
      have HN2:Hid (GrS X g b (gSt ps (x,y,z) ps.length (i+1) 0) (bSt ps v' ps.length (i+1) 0) wr):=YJ (by rw[←(HSn i).out, ←(HBn i).out];simpa [HN.out]using HG.out)
      clear HSc HSe HBk HBe HX HBc HBs HBt HBa HBL
      go_wp2
      go_roundw
      case rel=>exact⟨i+1,by omega,by go_num,HN2⟩
      simp[intOf];try omega
   ·obtain rfl:i=n:=by omega
    have HGe:Hid (GrS X g b (eM ps (x,y,z)) (eM ps v') wr):=YJ (by rw[←(HEnd 0).out, ←HBd.out];have:=HG.out;simpa [HN.out]using this)
    have HWr:=YJ ((HG.out.1.block _ (ah HWu.out)).trans HWu.out)
    have HMr:=YJ (HMu.out.kept HG.out.1)
    have hwr:Below W.heap.size W wr:=fB hWu HG.out.1
    obtain⟨wy1,wy2,wy3,wyf,wyz⟩:=NO HWr.out
    have hxr:=HG.out.1.size
    have HOp:=fun W'=>YJ (ER x y z W' (by have:=HWb.out;omega) (by have:=HWb.out;omega) (by have:=HWb.out;omega))
    clear HG HSc HSe HBk HBe HX HSt HSa HSL HSn HEnd HPs HMu HBc HBs HBt HBa HBL HBn HBd
    go_wp2
    refine px (C:=fun w'=>∃u:Ext _,w'=u.val) [0,5,11,12] [1,2,3,4,6,7,8,9,10] 13 [14,15,16,17,18] (by kernel_rfl) (by kernel_rfl) ⟨Ext.drew,rfl⟩ ?_
    simp only[oas]
    repeat(refine zd (fun K' hK'=> ?_);go_simp;refine hK' _ ?_;clear hK' K')
    refine lG ?_
    repeat(first|go_big_quiet_step ((go_at_call 92;exact aE ((HOp _).out)))|quiet_step ((go_at_call 92;exact aE ((HOp _).out))))
    refine wpQuiet_nil ?_
    rintro _ ⟨u,rfl⟩
    have HGu:=YJ (HGe.out.keep u.below)
    have HMu:=YJ (HMr.out.kept u.below)
    have hWu2:Below W.heap.size W u.val:=fB hwr u.below
    clear s0 s1 sz wy1 wy2 wy3 wyf wyz HGe HMr HWr hxr
    generalize u.val=w8 at*
    clear u
    obtain⟨v0,st,w9,w10,he1,hs1,hO2,hg1,hg2⟩:=GF HMu.out.1 (by unfold maxLen;omega) hv (.slice (some ⟨g,0,none⟩) i i)
    obtain⟨v1,st1,w11,w12,he2,hs2,hO3,hg3,hg4⟩:=GF hO2 (by unfold maxLen;omega) hneg (.slice (some ⟨b,0,none⟩) i i)
    have he1':(Instr.mapEntry 165 (.map (some mb)) (.agg #[.int .i64 x, .int .i64 y, .int .i64 z])).run Tryz.prog w8= .ok (.tuple #[v0, .int .i64 (st:Int)]) w9:=he1
    have hs1':(Instr.entryStore 165 (.map (some mb)) (.int .i64 (st:Int)) (.slice (some ⟨g,0,none⟩) i i)).run Tryz.prog w9= .ok () w10:=hs1
    have he2':(Instr.mapEntry 165 (.map (some mb)) (.agg #[.int .i64 (-x), .int .i64 (-y), .int .i64 (-z)])).run Tryz.prog w10= .ok (.tuple #[v1, .int .i64 (st1:Int)]) w11:=he2
    have hs2':(Instr.entryStore 165 (.map (some mb)) (.int .i64 (st1:Int)) (.slice (some ⟨b,0,none⟩) i i)).run Tryz.prog w11= .ok () w12:=hs2
    have HO2:=YJ hO2
    have HO3:=YJ hO3
    have HK1:=YJ hg2
    have HK2:=YJ hg4
    clear he1 hs1 he2 hs2 hO2 hO3 hg1 hg3 hg2 hg4
    iterate 6 (refine wpList_step (fun K hK=> ?_);go_simp;refine hK _ _ ?_;clear hK K)
    go_wp2
    have hm8:mb≤w8.heap.size:=by have:=hWu2.size;omega
    have hm10:mb≤w10.heap.size:=qaD hm8 HK1.out.size
    have HBel:Hid (Below mb W w12):=YJ (((hWu2.mono (by omega)).grown HK1.out hm8 (fun k hk=>by cases hk;exact qaA _)).grown HK2.out hm10 (fun k hk=>by cases hk;exact qaA _))
    have HOth:Hid (∀k,k<W.heap.size→k≠mb→w12.heap[k]? =W.heap[k]?):=YJ (fun k hk hkm=>by
     have h1:=HK2.out.block k (by have:=HK1.out.size;have:=hWu2.size;omega) (fun e=>hkm (by cases e;rfl))
     have h2:=HK1.out.block k (by have:=hWu2.size;omega) (fun e=>hkm (by cases e;rfl))
     exact h1.trans (h2.trans (hWu2.block k hk)))
    have hgm:g≠mb:=by omega
    have HGt:Hid (GphAt w12 g (eM ps (x,y,z))):=YJ (by
     have h1:=HGu.out.2.1
     have h2:=HK1.out.block g (ah h1) (fun e=>hgm (by cases e;rfl))
     have h3:=HK2.out.block g (by have:=HK1.out.size;have:=ah h1;omega) (fun e=>hgm (by cases e;rfl))
     exact JO (h3.trans (h2.trans h1)))
    have HSz:Hid (W.heap.size≤w12.heap.size):=YJ (by have:=HK1.out.size;have:=HK2.out.size;have:=hWu2.size;omega)
    have HLb:Hid ((eM ps v').length=i):=YJ (by simp[eM,HN.out])
    have HLi0:(eM ps (x,y,z)).length=i:=by rw[HLen.out,HN.out]
    have HMp1:=YJ (HMu.out.put (g:=g) hv (by rw[HLi0];exact HO2.out) HK1.out HGu.out.2.1)
    have HMp2:Hid (MapS w12 mb (m0+1+1) ((D.put (Oi (x,y,z)) (.held (.slice (some ⟨g,0,none⟩) i i))).put (Oi v') (.held (.slice (some ⟨b,0,none⟩) i i))) (eM ps)):=YJ (by
     have h1:=HMp1.out
     rw[HLi0]at h1
     have hbk:=(HK1.out.block b (ah HGu.out.2.2) (fun e=>rt HMu.out.1 HGu.out.2.2 (by cases e;rfl))).trans HGu.out.2.2
     have h2:=h1.put (g:=b) (w2:=w12) hneg' (by rw[HLb.out,Hv'.out];exact HO3.out) HK2.out hbk
     rwa [HLb.out]at h2)
    have HLi:Hid ((eM ps (x,y,z)).length=i):=YJ (by rw[HLen.out,HN.out])
    have hMow:=And.intro HMu.out.1 HO2.out
    have hgW:W.heap.size≤g:=by omega
    have hbW:W.heap.size≤b:=by omega
    clear HK1 HK2 HGu HMu he1' hs1' he2' hs2' hm8 hm10 HO2 HO3 HMp1 HLi0
    refine NoPanic.normal ?_
    go_wp2
    go_ret
    refine⟨g,_,_,by rw[HLi.out];rfl,HBel.out,HSz.out,HOth.out,HGt.out,HMp2.out,qaA _,fun r hr h=>(h.put hMow.1 hv (by omega)).put hMow.2 hneg' (by omega)⟩
theorem Iu (m0:Nat) (D:DataW Value) (ps:List (List Bod)) (v:Q3) (sb mb:Nat) (pv:Value) (W:World) (hv:v∈ways26) (hps:∀p∈ps,(∀b∈p,Ii b)∧p.length≤1000000) (hl:ps.length≤12) (hS:W.heap[sb]? =some (.cells #[pv, .map (some mb)] 168 (0,0))) (hM:MapS W mb m0 D (eM ps)) (hm0:m0≤1000) (hsym:∀i k,Cb ps (-v.1, -v.2.1, -v.2.2) k i=Cb ps v i k) (hP:PtsV W pv ps):
  Calls Tryz.prog 42 #[.pointer (some ⟨sb,0,none⟩),vW v] W (GrP mb m0 (eM ps) v W):=
 (qhS m0 D ps v sb mb pv W hv hps hl hS hM (by omega) hsym hP).mono fun _ _ ⟨g,m',D',h1,h2,h3,h4,h5,h6,h7,_⟩=>⟨g,m',D',h1,h2,h3,h4,h5,h6,h7⟩
theorem Fh:(Tryz.prog.info? 58).map (fun i=>(i.zero,i.size,i.bytes))=some (some (vW (0,0,0)),3,24):=by kernel_rfl
theorem Cm:Tryz.prog.underlying 106=some (.slice 58):=by kernel_rfl
def Ds (m:Nat):Q3:=(((m / 9:Nat):Int)-1,((m / 3 % 3:Nat):Int)-1,((m % 3:Nat):Int)-1)
def Ri (m:Nat):List Q3:=((List.range m).map Ds).filter (fun v=>decide (v≠(0,0,0)))
theorem CY:Ri 27=ways26:=by decide
theorem qan {i j q:Nat} (hj:j<3) (hq:q<3):Ds (9*i+3*j+q)=((i:Int)-1,(j:Int)-1,(q:Int)-1):=by
 unfold Ds
 rw[show(9*i+3*j+q) / 9=i by omega,show(9*i+3*j+q) / 3 % 3=j by omega,show(9*i+3*j+q) % 3=q by omega]
theorem CB (m:Nat):Ri (m+1)=Ri m++if Ds m≠(0,0,0)then [Ds m]else []:=by
 simp only[Ri,List.range_succ,qgh,qgo]
 congr 1
 by_cases h:Ds m=(0,0,0)<;>simp[h]
theorem JX (m:Nat):(Ri m).length≤m:=by
 unfold Ri
 exact qaD (qdz _ _) (by simp)
theorem Li:∀m,m<27→Ds m≠(0,0,0)→(Ri m).length<26:=by decide
def Lj (W:World) (xs:List Q3) (e:Ending) (w':World):Prop:=∃r,e= .returned r∧Below W.heap.size W w'∧w'.ownsRow W.heap.size 58 3 r xs.length (xs.flatMap TZ)
end
section
open Go.RowKit Go.Shelf
attribute [local go_sem] Oper.semAt_some
abbrev On:={v:Q3 // v∈ways26}
theorem JY (m:Nat) (hm:m<27) (h:Ds m≠(0,0,0)):Ds m∈ways26:=by
 have:∀m,m<27→Ds m=(0,0,0)∨Ds m∈ways26:=by decide
 exact(this m hm).resolve_left h
end
section
open Go.RowKit Go.Shelf
set_option maxRecDepth 100000
section
attribute [local go_sem] Oper.semAt_some
theorem Lk (l:Nat) (J Jx:List On→World→Prop) (W0:World) (hJa:AbidesFrom W0.heap.size J) (n:Nat) (hn:1≤n) (n₀:Nat)
  (hY:∀pre x W1,J pre W1→pre.length<26→YieldAt Fence.wide (n-1) Tryz.prog l #[vW x.1] W1 fun e W'=>
   (e= .returned (.bool true)∧J (pre++[x]) W'∧Below n₀ W1 W')∨(e= .returned (.bool false)∧Jx (pre++[x]) W'))
  (W:World) (h0:J [] W):
  CallsIn Fence.wide n Tryz.prog 91 #[.func (.yield l) #[] #[]] W fun e W'=>(∃v,e= .returned v)∧((∃xs:List On,xs.map Subtype.val=ways26∧J xs W')∨(∃pre:List On,(∃m,m≤27∧pre.map Subtype.val=Ri m)∧Jx pre W')):=by
 refine callsIn_of_wp Tryz.func91 rfl trivial ?_ rfl
 simp only[Tryz.ntmps91,List.size_toArray,qdn,List.length_nil,Nat.reduceAdd,Nat.reduceSub,Array.replicate_succ,Array.replicate_zero,List.push_toArray,List.append_toArray,List.nil_append,List.cons_append]
 gi_wp2
 gi_loopw [2] (fun p wr=>∃(i:Nat) (x:Int),i≤3∧p= .int .i64 x∧Hid (x=(i:Int)-1)∧∃pre:List On,Hid (pre.map Subtype.val=Ri (9*i))∧J pre wr) (fun p _=>(2-intOf p).toNat)
 case atStart=>exact⟨0, -1,by omega,rfl,YJ (by omega),[],YJ rfl,h0⟩
 case round=>
  obtain⟨i,x,hi,rfl,Hx,pre,Hp,hJ⟩:=hrel
  by_cases hi3:i<3
  ·have t1:x≤1:=by have:=Hx.out;omega
   have lx: -1≤x:=by have:=Hx.out;omega
   gi_wp2
   gi_loopw [3] (fun p wr=>∃(j:Nat) (y:Int),j≤3∧p= .int .i64 y∧Hid (y=(j:Int)-1)∧∃pre:List On,Hid (pre.map Subtype.val=Ri (9*i+3*j))∧J pre wr) (fun p _=>(2-intOf p).toNat)
   case atStart=>exact⟨0, -1,by omega,rfl,YJ (by omega),pre,Hp,hJ⟩
   case round=>
    clear hJ Hp pre
    obtain⟨j,y,hj,rfl,Hy,pre,Hp,hJ⟩:=hrel
    by_cases hj3:j<3
    ·have t2:y≤1:=by have:=Hy.out;omega
     have ly: -1≤y:=by have:=Hy.out;omega
     gi_wp2
     gi_loopw [4] (fun p wr=>∃(q:Nat) (z:Int),q≤3∧p= .int .i64 z∧Hid (z=(q:Int)-1)∧∃pre:List On,Hid (pre.map Subtype.val=Ri (9*i+3*j+q))∧J pre wr) (fun p _=>(2-intOf p).toNat)
     case atStart=>exact⟨0, -1,by omega,rfl,YJ (by omega),pre,Hp,hJ⟩
     case round=>
      clear hJ Hp pre
      obtain⟨q,z,hq,rfl,Hz,pre,Hp,hJ⟩:=hrel
      by_cases hq3:q<3
      ·have t3:z≤1:=by have:=Hz.out;omega
       have lz: -1≤z:=by have:=Hz.out;omega
       have Hs:=YJ (CB (9*i+3*j+q))
       have Hd:=YJ (qan (i:=i) hj3 hq3)
       have Hm:=YJ (JY (9*i+3*j+q) (by omega))
       have Hl:=YJ (Li (9*i+3*j+q) (by omega))
       rw[Hd.out, ←Hx.out, ←Hy.out, ←Hz.out]at Hs Hm Hl
       have hpl:pre.length=(Ri (9*i+3*j+q)).length:=by rw[←Hp.out];simp
       by_cases h0:((x,y,z):Q3)=(0,0,0)
       ·have Hs':Hid (pre.map Subtype.val=Ri (9*i+3*j+(q+1))):=YJ (by rw[show 9*i+3*j+(q+1)=9*i+3*j+q+1 by omega,Hs.out,if_neg (by simpa using h0),qgd];exact Hp.out)
        simp only[Prod.mk.injEq]at h0
        obtain⟨rfl,rfl,rfl⟩:=h0
        have hJ2:=GP hJa hJ (.cells #[.int .i64 0, .int .i64 0, .int .i64 0] 58)
        clear Hs Hp Hd Hm Hl hJ
        gi_wp2
        refine⟨fun _ h=>(by cases h), ?_⟩
        gi_wp2
        go_roundw
        case rel=>exact⟨q+1,0+1,by omega,rfl,YJ (by have:=Hz.out;omega),pre,Hs',hJ2⟩
        simp[intOf];try omega
       ·have hmem:=Hm.out h0
        have hlt:=Hl.out h0
        have Hs':Hid ((pre++[(⟨(x,y,z),hmem⟩:On)]).map Subtype.val=Ri (9*i+3*j+(q+1))):=YJ (by
         rw[show 9*i+3*j+(q+1)=9*i+3*j+q+1 by omega,Hs.out,if_pos h0,qgh,Hp.out];rfl)
        by_cases ex:x=0
        ·subst ex
         by_cases ey:y=0
         ·subst ey
          have ez:¬z=0:=fun e=>h0 (by rw[e])
          obtain⟨fn,tmps,assign,body,hy,hR⟩:=hY pre ⟨(0,0,z),hmem⟩ (wr.alloc (.cells #[.int .i64 (0), .int .i64 (0), .int .i64 (z)] 58)) (GP hJa hJ _) (by omega)
          dsimp only[vW]at hy
          clear Hs Hp Hd Hm Hl hJ hY
          gi_wp2
          refine hR.mono ?_
          rintro e W3 (⟨rfl,hJ3,hk3⟩|⟨rfl,hJx3⟩)
          ·gi_wp2
           go_roundw
           case rel=>exact⟨q+1,z+1,by omega,rfl,YJ (by have:=Hz.out;omega),_,Hs',hJ3⟩
           simp[intOf];try omega
          ·gi_wp2
           refine bodyPost_ret (results_none rfl _ _ _) rfl ?_
           exact⟨⟨_,rfl⟩, .inr ⟨_,⟨9*i+3*j+(q+1),by omega,Hs'.out⟩,hJx3⟩⟩
         ·obtain⟨fn,tmps,assign,body,hy,hR⟩:=hY pre ⟨(0,y,z),hmem⟩ (wr.alloc (.cells #[.int .i64 (0), .int .i64 (y), .int .i64 (z)] 58)) (GP hJa hJ _) (by omega)
          dsimp only[vW]at hy
          clear Hs Hp Hd Hm Hl hJ hY
          gi_wp2
          refine hR.mono ?_
          rintro e W3 (⟨rfl,hJ3,hk3⟩|⟨rfl,hJx3⟩)
          ·gi_wp2
           go_roundw
           case rel=>exact⟨q+1,z+1,by omega,rfl,YJ (by have:=Hz.out;omega),_,Hs',hJ3⟩
           simp[intOf];try omega
          ·gi_wp2
           refine bodyPost_ret (results_none rfl _ _ _) rfl ?_
           exact⟨⟨_,rfl⟩, .inr ⟨_,⟨9*i+3*j+(q+1),by omega,Hs'.out⟩,hJx3⟩⟩
        ·obtain⟨fn,tmps,assign,body,hy,hR⟩:=hY pre ⟨(x,y,z),hmem⟩ (wr.alloc (.cells #[.int .i64 (x), .int .i64 (y), .int .i64 (z)] 58)) (GP hJa hJ _) (by omega)
         dsimp only[vW]at hy
         clear Hs Hp Hd Hm Hl hJ hY
         gi_wp2
         refine hR.mono ?_
         rintro e W3 (⟨rfl,hJ3,hk3⟩|⟨rfl,hJx3⟩)
         ·gi_wp2
          go_roundw
          case rel=>exact⟨q+1,z+1,by omega,rfl,YJ (by have:=Hz.out;omega),_,Hs',hJ3⟩
          simp[intOf];try omega
         ·gi_wp2
          refine bodyPost_ret (results_none rfl _ _ _) rfl ?_
          exact⟨⟨_,rfl⟩, .inr ⟨_,⟨9*i+3*j+(q+1),by omega,Hs'.out⟩,hJx3⟩⟩
      ·obtain rfl:q=3:=by omega
       have t3:¬z≤1:=by have:=Hz.out;omega
       gi_wp2
       go_roundw
       case rel=>exact⟨j+1,y+1,by omega,rfl,YJ (by have:=Hy.out;omega),pre,YJ (by rw[show 9*i+3*(j+1)=9*i+3*j+3 by omega];exact Hp.out),hJ⟩
       simp[intOf];try omega
    ·obtain rfl:j=3:=by omega
     have t2:¬y≤1:=by have:=Hy.out;omega
     gi_wp2
     go_roundw
     case rel=>exact⟨i+1,x+1,by omega,rfl,YJ (by have:=Hx.out;omega),pre,YJ (by rw[show 9*(i+1)=9*i+3*3 by omega];exact Hp.out),hJ⟩
     simp[intOf];try omega
  ·obtain rfl:i=3:=by omega
   have t1:¬x≤1:=by have:=Hx.out;omega
   gi_wp2
   go_end0
   exact⟨⟨_,rfl⟩, .inl ⟨pre,Hp.out.trans CY,hJ⟩⟩
end
section
attribute [local go_sem] Ext.cell Ext.frozen
theorem Gm (W:World):Calls Tryz.prog 50 #[] W (Lj W ways26):=by
 obtain⟨i0,Hi0⟩:=qfT Fh
 go_enter Tryz.func50,Tryz.ntmps50
 go_wp2
 go_loopw [1,2] (fun s p wr=>∃(i:Nat) (x:Int),i≤3∧p= .int .i64 x∧Hid (x=(i:Int)-1)∧Below W.heap.size W wr∧Hid (wr.ownsRow W.heap.size 58 3 s (Ri (9*i)).length ((Ri (9*i)).flatMap TZ))) (fun _ p _=>(2-intOf p).toNat)
 case atStart=>exact⟨0, -1,by omega,rfl,YJ (by omega),brf,YJ (qds _ _ _ _)⟩
 case round=>
  obtain⟨i,x,hi,rfl,Hx,hb,HO⟩:=hrel
  by_cases hi3:i<3
  ·have t1:x≤1:=by have:=Hx.out;omega
   have lx: -1≤x:=by have:=Hx.out;omega
   go_wp2
   go_loopw [1,3] (fun s p wr=>∃(j:Nat) (y:Int),j≤3∧p= .int .i64 y∧Hid (y=(j:Int)-1)∧Below W.heap.size W wr∧Hid (wr.ownsRow W.heap.size 58 3 s (Ri (9*i+3*j)).length ((Ri (9*i+3*j)).flatMap TZ))) (fun _ p _=>(2-intOf p).toNat)
   case atStart=>exact⟨0, -1,by omega,rfl,YJ (by omega),hb,HO⟩
   case round=>
    clear hb HO
    obtain⟨j,y,hj,rfl,Hy,hb,HO⟩:=hrel
    by_cases hj3:j<3
    ·have t2:y≤1:=by have:=Hy.out;omega
     have ly: -1≤y:=by have:=Hy.out;omega
     go_wp2
     go_loopw [1,4] (fun s p wr=>∃(q:Nat) (z:Int),q≤3∧p= .int .i64 z∧Hid (z=(q:Int)-1)∧Below W.heap.size W wr∧Hid (wr.ownsRow W.heap.size 58 3 s (Ri (9*i+3*j+q)).length ((Ri (9*i+3*j+q)).flatMap TZ))) (fun _ p _=>(2-intOf p).toNat)
     case atStart=>exact⟨0, -1,by omega,rfl,YJ (by omega),hb,HO⟩
     case round=>
      clear hb HO
      obtain⟨q,z,hq,rfl,Hz,hb,HO⟩:=hrel
      by_cases hq3:q<3
      ·have t3:z≤1:=by have:=Hz.out;omega
       have lz: -1≤z:=by have:=Hz.out;omega
       have Hs:=YJ (CB (9*i+3*j+q))
       have Hd:=YJ (qan (i:=i) hj3 hq3)
       have Hl:=YJ (JX (9*i+3*j+q))
       have hl:=Hl.out
       rw[Hd.out, ←Hx.out, ←Hy.out, ←Hz.out]at Hs
       generalize Ri (9*i+3*j+q)=P at*
       obtain⟨sa,sc,rfl⟩:=aT HO.out
       clear Hd Hl
       by_cases h0:((x,y,z):Q3)=(0,0,0)
       ·have Hs':Hid (Ri (9*i+3*j+q+1)=P):=YJ (by rw[Hs.out,if_neg (by simpa using h0)];simp)
        simp only[Prod.mk.injEq]at h0
        obtain⟨rfl,rfl,rfl⟩:=h0
        clear Hs
        go_wp2
        go_roundw
        case rel=>exact⟨q+1,0+1,by omega,rfl,YJ (by have:=Hz.out;omega),hb.alloc hb.size _,YJ (by rw[show 9*i+3*j+(q+1)=9*i+3*j+q+1 by omega,Hs'.out];exact HO.out.alloc _)⟩
        simp[intOf];try omega
       ·have Hs':Hid (Ri (9*i+3*j+q+1)=P++[(x,y,z)]):=YJ (by rw[Hs.out,if_pos h0])
        clear Hs
        by_cases ex:x=0
        ·subst ex
         by_cases ey:y=0
         ·subst ey
          have ez:¬z=0:=fun e=>h0 (by rw[e])
          clear h0
          go_wp2_with (at_builtin;refine wpList_append_own _ rfl _ _ 106 rfl W.heap.size 58 i0 (vW (0,0,0)) 3 24 Cm Hi0.out.1 Hi0.out.2.1 Hi0.out.2.2.1 Hi0.out.2.2.2 rfl (by decide) _ P.length _ rfl ((HO.out.alloc _).alloc _) ⟨_,0,none⟩ 1 1 (TZ (0,0,z)) rfl rfl (fun jj uu hu=>by rw[jY,aq (by simp) jj];simpa [TZ]using hu) (fun u hu=>by simp[TZ]at hu;rcases hu with rfl|rfl|rfl<;>rfl) (by unfold maxLen;omega) (by omega) (by have:=hb.size;simp;omega) ?_)
          intro v' w2 hown2 hg2 _
          have hb2:Below W.heap.size W w2:=((hb.alloc hb.size _).alloc (by have:=hb.size;simp;omega) _).grown hg2 (by have:=hb.size;simp;omega) (fun z hz=>(HO.out.lt z hz).1)
          have HO2:=YJ hown2
          clear hown2 hg2
          go_wp2
          go_roundw
          case rel=>exact⟨q+1,z+1,by omega,rfl,YJ (by have:=Hz.out;omega),hb2,YJ (by rw[show 9*i+3*j+(q+1)=9*i+3*j+q+1 by omega,Hs'.out];simpa using HO2.out)⟩
          simp[intOf];try omega
         ·clear h0
          go_wp2_with (at_builtin;refine wpList_append_own _ rfl _ _ 106 rfl W.heap.size 58 i0 (vW (0,0,0)) 3 24 Cm Hi0.out.1 Hi0.out.2.1 Hi0.out.2.2.1 Hi0.out.2.2.2 rfl (by decide) _ P.length _ rfl ((HO.out.alloc _).alloc _) ⟨_,0,none⟩ 1 1 (TZ (0,y,z)) rfl rfl (fun jj uu hu=>by rw[jY,aq (by simp) jj];simpa [TZ]using hu) (fun u hu=>by simp[TZ]at hu;rcases hu with rfl|rfl|rfl<;>rfl) (by unfold maxLen;omega) (by omega) (by have:=hb.size;simp;omega) ?_)
          intro v' w2 hown2 hg2 _
          have hb2:Below W.heap.size W w2:=((hb.alloc hb.size _).alloc (by have:=hb.size;simp;omega) _).grown hg2 (by have:=hb.size;simp;omega) (fun z hz=>(HO.out.lt z hz).1)
          have HO2:=YJ hown2
          clear hown2 hg2
          go_wp2
          go_roundw
          case rel=>exact⟨q+1,z+1,by omega,rfl,YJ (by have:=Hz.out;omega),hb2,YJ (by rw[show 9*i+3*j+(q+1)=9*i+3*j+q+1 by omega,Hs'.out];simpa using HO2.out)⟩
          simp[intOf];try omega
        ·clear h0
         go_wp2_with (at_builtin;refine wpList_append_own _ rfl _ _ 106 rfl W.heap.size 58 i0 (vW (0,0,0)) 3 24 Cm Hi0.out.1 Hi0.out.2.1 Hi0.out.2.2.1 Hi0.out.2.2.2 rfl (by decide) _ P.length _ rfl ((HO.out.alloc _).alloc _) ⟨_,0,none⟩ 1 1 (TZ (x,y,z)) rfl rfl (fun jj uu hu=>by rw[jY,aq (by simp) jj];simpa [TZ]using hu) (fun u hu=>by simp[TZ]at hu;rcases hu with rfl|rfl|rfl<;>rfl) (by unfold maxLen;omega) (by omega) (by have:=hb.size;simp;omega) ?_)
         intro v' w2 hown2 hg2 _
         have hb2:Below W.heap.size W w2:=((hb.alloc hb.size _).alloc (by have:=hb.size;simp;omega) _).grown hg2 (by have:=hb.size;simp;omega) (fun z hz=>(HO.out.lt z hz).1)
         have HO2:=YJ hown2
         clear hown2 hg2
         go_wp2
         go_roundw
         case rel=>exact⟨q+1,z+1,by omega,rfl,YJ (by have:=Hz.out;omega),hb2,YJ (by rw[show 9*i+3*j+(q+1)=9*i+3*j+q+1 by omega,Hs'.out];simpa using HO2.out)⟩
         simp[intOf];try omega
      ·obtain rfl:q=3:=by omega
       have t3:¬z≤1:=by have:=Hz.out;omega
       go_wp2
       go_roundw
       case rel=>exact⟨j+1,y+1,by omega,rfl,YJ (by have:=Hy.out;omega),hb,YJ (by rw[show 9*i+3*(j+1)=9*i+3*j+3 by omega];exact HO.out)⟩
       simp[intOf];try omega
    ·obtain rfl:j=3:=by omega
     have t2:¬y≤1:=by have:=Hy.out;omega
     go_wp2
     go_roundw
     case rel=>exact⟨i+1,x+1,by omega,rfl,YJ (by have:=Hx.out;omega),hb,YJ (by rw[show 9*(i+1)=9*i+3*3 by omega];exact HO.out)⟩
     simp[intOf];try omega
  ·obtain rfl:i=3:=by omega
   have t1:¬x≤1:=by have:=Hx.out;omega
   have H27:=YJ CY
   go_wp2
   go_ret
   refine⟨_,rfl,hb, ?_⟩
   have:=HO.out
   rwa [show 9*3=27 from rfl,CY]at this
end
end
section
open Go.RowKit Go.Shelf Go.Lib
section
attribute [local go_sem] Ext.cell Ext.frozen
theorem GM (W:World):Calls Tryz.prog 41 #[] W (fun e w'=>e= .returned (.func (.func 91) #[] #[])∧w'=W):=by
 go_enter Tryz.func41,Tryz.ntmps41
 go_wp2
 go_ret
 exact⟨rfl,rfl⟩
end
def CK (W X:World):Prop:=∀p v,W.cell? p=some v→X.cell? p=some v
theorem CK.of_below {W X:World} (h:Below W.heap.size W X):CK W X:=fun p v hv=>ab h hv
theorem CK.trans {W X Y:World} (h:CK W X) (k:CK X Y):CK W Y:=fun p v hv=>k p v (h p v hv)
theorem CK.q4s {W X:World} (h:CK W X) {v:Value} {xs:List Q4} (hv:Q4s W v xs):Q4s X v xs:=by
 obtain⟨a,n,c,hv,hn,hc,hx⟩:=hv
 exact⟨a,n,c,hv,hn,hc,fun h0=>by obtain⟨b,off,ha,hi⟩:=hx h0;exact⟨b,off,ha,fun i hh=>⟨h _ _ (hi i hh).1,h _ _ (hi i hh).2.1,h _ _ (hi i hh).2.2.1,h _ _ (hi i hh).2.2.2⟩⟩⟩
theorem CK.part {W X:World} (h:CK W X) {v:Value} {bs:List Bod} (hv:PartV W v bs):PartV X v bs:=by
 obtain⟨a,n,c,hv,hn,hc,hx⟩:=hv
 refine⟨a,n,c,hv,hn,hc,fun h0=> ?_⟩
 obtain⟨g,off,e,hi⟩:=hx h0
 refine⟨g,off,e,fun i hh=> ?_⟩
 obtain⟨p,q,h1,h2,h3,h4⟩:=hi i hh
 exact⟨p,q,h _ _ h1,h _ _ h2,h.q4s h3,h.q4s h4⟩
theorem CK.pts {W X:World} (h:CK W X) {v:Value} {ps:List (List Bod)} (hv:PtsV W v ps):PtsV X v ps:=by
 obtain⟨a,n,c,hv,hn,hc,hx⟩:=hv
 refine⟨a,n,c,hv,hn,hc,fun h0=> ?_⟩
 obtain⟨b,off,ha,hi⟩:=hx h0
 exact⟨b,off,ha,fun i hh=>by obtain⟨u,hu,he⟩:=hi i hh;exact⟨u,h _ _ hu,h.part he⟩⟩
theorem CK.tab {W X:World} (h:CK W X) {g:Nat} {tab:List Nat} (hv:TabAt g tab W):TabAt g tab X:=fun j hj=>h _ _ (hv j hj)
def ButM (mb:Nat) (W X:World):Prop:=Below mb W X∧W.heap.size≤X.heap.size∧∀k,k<W.heap.size→k≠mb→X.heap[k]? =W.heap[k]?
theorem ButM.refl (mb:Nat) (W:World):ButM mb W W:=⟨brf,qaA _,fun _ _ _=>rfl⟩
theorem ButM.trans {mb:Nat} {W X Y:World} (h:ButM mb W X) (k:ButM mb X Y):ButM mb W Y:=⟨h.1.trans k.1,qaD h.2.1 k.2.1,fun i hi hn=>(k.2.2 i (qaG hi h.2.1) hn).trans (h.2.2 i hi hn)⟩
theorem ButM.of_below {mb:Nat} {W X:World} (hm:mb≤W.heap.size) (h:Below W.heap.size W X):ButM mb W X:=⟨h.mono hm,h.size,fun k hk _=>h.block k hk⟩
theorem ButM.ck {mb m:Nat} {D:DataW Value} {W X:World} (h:ButM mb W X) (ho:OwM W mb m D):CK W X:=fun p v hv=>by
 have hne:p.block≠mb:=fun e=>by
  obtain⟨es,ck,hm,_⟩:=ho
  rw[←e]at hm
  simp[World.cell?,hm]at hv
 have e:X.heap[p.block]? =W.heap[p.block]? :=h.2.2 _ (qaC W p hv) hne
 rw[←hv]
 simp only[World.cell?,e]
theorem ButM.keeps {mb B:Nat} {W X:World} (h:ButM mb W X) (hb:mb<B):KeepsFrom B W X:=⟨h.2.1,fun k o hB hk _=>(h.2.2 k (alsl.1 hk).1 (by omega)).trans hk⟩
theorem ButM.set {mb:Nat} {W X:World} (h:ButM mb W X) {p:Addr} (hp:W.heap.size≤p.block) (hm:mb<W.heap.size) (v:Value):ButM mb W (X.setCell p v):=
 ⟨h.1.setCell (by omega) v,by simpa using h.2.1,fun k hk hn=>(qaH _ _ _ k (by omega)).trans (h.2.2 k hk hn)⟩
theorem OwM.moved {w w':World} {row:Option Nat} {mb m:Nat} {D:DataW Value} (h:OwM w mb m D) (hg:w.grownBy w' row) (hr:row≠some mb):OwM w' mb m D:=h.kept hg hr.symm
theorem MapS.moved {w w':World} {row:Option Nat} {mb m:Nat} {D:DataW Value} {Gf:Q3→List Nat} (h:MapS w mb m D Gf) (hg:w.grownBy w' row) (hr:row≠some mb) (hc:∀r,row=some r→∃o:Obj,w.heap[r]? =some o∧o.isCells=false):MapS w' mb m D Gf:=
 ⟨h.1.moved hg hr,fun v hv hh=>by
  obtain⟨g,h1,h2⟩:=h.2 v hv hh
  exact⟨g,h1,(hg.block g (ah h2) (fun e=>by obtain⟨o,ho,hc'⟩:=hc g e.symm;rw[h2]at ho;cases ho;cases hc')).trans h2⟩⟩
def Ty (ps:List (List Bod)) (grp:Nat) (v:Q3):Option Nat:=((lf grp).map (car (eM ps v) grp)).find? (fun o=>o !=grp)
def Ok (ps:List (List Bod)) (grp:Nat):Option (Q3×Nat):=ways26.findSome? fun v=>(Ty ps grp v).map fun o=>(v,o)
theorem JZ (f:Nat→Nat) (g:Nat) (l:List Nat) {k:Nat} (hk:k<l.length) (h0:∀j (hj:j<k),f (l[j]'(by omega))=g) (hx:f l[k]≠g):(l.map f).find? (fun o=>o !=g)=some (f l[k]):=by
 rw[List.find?_map]
 have e:l=l.take k++l[k]::l.drop (k+1):=by rw[←List.drop_eq_getElem_cons hk,List.take_append_drop]
 have h1:(l.take k).find? ((fun o=>o !=g) ∘ f)=none:=by
  rw[List.find?_eq_none]
  intro x hx
  obtain⟨j,hj,rfl⟩:=List.mem_iff_getElem.1 hx
  have hj':j<k:=by simp at hj;omega
  have:=h0 j hj'
  simp[this]
 have h2:l.find? ((fun o=>o !=g) ∘ f)=some l[k]:=by
  have e2:=congrArg (fun l=>l.find? ((fun o=>o !=g) ∘ f)) e
  have h3:(f l[k]!=g)=true:=by simpa using hx
  rw[e2,List.find?_append,h1,Option.none_or,List.find?_cons]
  simp[h3]
 rw[h2]
 rfl
theorem Gn {ps:List (List Bod)} {grp:Nat} {v:Q3} {k:Nat} (hk:k<(lf grp).length) (h0:∀j (hj:j<k),car (eM ps v) grp ((lf grp)[j]'(by omega))=grp) (hx:car (eM ps v) grp (lf grp)[k]≠grp):Ty ps grp v=some (car (eM ps v) grp (lf grp)[k]):=JZ _ _ _ hk h0 hx
theorem Fi {ps:List (List Bod)} {grp:Nat} {v:Q3} (h0:∀j (hj:j<(lf grp).length),car (eM ps v) grp (lf grp)[j]=grp):Ty ps grp v=none:=by
 unfold Ty
 rw[List.find?_eq_none]
 intro x hx
 obtain⟨n,hn,rfl⟩:=altt.1 hx
 obtain⟨j,hj,rfl⟩:=List.mem_iff_getElem.1 hn
 simp[h0 j hj]
theorem Fj {ps:List (List Bod)} {grp:Nat} {ys:List On} (he:ys.map Subtype.val=ways26) (h:∀a∈ys,Ty ps grp a.1=none):Ok ps grp=none:=by
 unfold Ok
 rw[List.findSome?_eq_none_iff]
 intro v hv
 rw[←he]at hv
 obtain⟨a,ha,rfl⟩:=altt.1 hv
 rw[h a ha]
 rfl
theorem Gp {ps:List (List Bod)} {grp m o:Nat} {pre:List On} {v:On} (hm:m≤27) (he:(pre++[v]).map Subtype.val=Ri m) (h:∀a∈pre,Ty ps grp a.1=none) (hv:Ty ps grp v.1=some o):Ok ps grp=some (v.1,o):=by
 unfold Ok
 have e:∃rest,ways26=Ri m++rest:=by
  obtain⟨d,hd⟩:∃d,m+d=27:=⟨27-m,by omega⟩
  have key:∀d m,∃rest,Ri (m+d)=Ri m++rest:=fun d=>by
   induction d with
   |zero=>exact fun m=>⟨[],by simp⟩
   |succ d ih=>
    intro m
    obtain⟨r,hr⟩:=ih m
    obtain⟨s,hs⟩:∃s,Ri (m+d+1)=Ri (m+d)++s:=⟨_,CB _⟩
    exact⟨r++s,by rw[show m+(d+1)=m+d+1 by omega,hs,hr,List.append_assoc]⟩
  obtain⟨rest,hr⟩:=key d m
  rw[hd,CY]at hr
  exact⟨rest,hr⟩
 obtain⟨rest,e⟩:=e
 have e2:=congrArg (fun l=>l.findSome? fun v=>(Ty ps grp v).map fun o=>(v,o)) e
 rw[e2, ←he,List.findSome?_append]
 have h1:((pre++[v]).map Subtype.val).findSome? (fun v=>(Ty ps grp v).map fun o=>(v,o))=some (v.1,o):=by
  rw[qgh,List.findSome?_append]
  have h2:(pre.map Subtype.val).findSome? (fun v=>(Ty ps grp v).map fun o=>(v,o))=none:=by
   rw[List.findSome?_eq_none_iff]
   intro x hx
   obtain⟨a,ha,rfl⟩:=altt.1 hx
   rw[h a ha]
   rfl
  rw[h2]
  simp[hv]
 rw[h1]
 rfl
theorem GN (G:List Nat) (grp:Nat) (hg:grp<4096):∀f out fr,out<4096→Ro G grp f out fr<4096
 |0,out,_,h=>h
 |f+1,out,fr,h=>by
  rw[Ro]
  split
  ·exact h
  ·exact GN G grp hg f _ _ (Nat.or_lt_two_pow (n:=12) h (Oj G grp 12 hg _))
theorem Me (G:List Nat) (grp n:Nat) (hg:grp<4096) (hn:n<12):car G grp n<4096:=GN G grp hg _ _ _ (Nat.pow_lt_pow_right (n:=12) (by decide) hn)
def FI (ps:List (List Bod)) (grp mb m0:Nat) (W0:World) (pre:List On) (X:World):Prop:=ButM mb W0 X∧(∃m D,MapS X mb m D (eM ps)∧m≤m0+2*pre.length)∧∀a∈pre,Ty ps grp a.1=none
def Mf (B:Nat) (w:World) (grp o:Nat) (v:Q3) (cs:Array Value):Prop:=∃gv ov,cs=#[gv,ov, .int .i64 v.1, .int .i64 v.2.1, .int .i64 v.2.2]∧w.ownsRow B 3 1 gv (lf grp).length ((lf grp).map iV)∧w.ownsRow B 3 1 ov (lf o).length ((lf o).map iV)
def FX (ps:List (List Bod)) (grp mb m0:Nat) (W:World) (b:Nat) (c:Code) (pre:List On) (X:World):Prop:=c= .ret∧∃pre0 v o,pre=pre0++[v]∧(∀a∈pre0,Ty ps grp a.1=none)∧Ty ps grp v.1=some o∧
 ButM mb W X∧(∃m D,MapS X mb m D (eM ps)∧m≤m0+2*pre.length)∧(∃cs,X.heap[b]? =some (.cells cs 60 (0,0))∧Mf W.heap.size X grp o v.1 cs)∧Boxed X (b+1) 4 (.bool true)
theorem CC {w w':World} {row:Option Nat} {base:Nat} {e:TypeId} {size n:Nat} {v:Value} {xs:List Value} (h:w.ownsRow base e size v n xs) (hg:w.grownBy w' row) (hc:∀r,row=some r→∃o:Obj,w.heap[r]? =some o∧o.isCells=false):w'.ownsRow base e size v n xs:=by
 refine h.kept hg ?_
 rcases h.2 with⟨rfl,_⟩|⟨g,cap,cur,rfl,_,hgb,_⟩
 ·exact .inl rfl
 ·refine .inr fun e'=> ?_
  obtain⟨o,ho,hc⟩:=hc g (by simpa [Value.ownBlock]using e'.symm)
  rw[hgb]at ho;cases ho;cases hc
theorem Cc {mb:Nat} {W X Y:World} {row:Option Nat} {B:Nat} (h:ButM mb W X) (hg:X.grownBy Y row) (hB:W.heap.size≤B) (hm:mb<W.heap.size) (hr:∀r,row=some r→B≤r):ButM mb W Y:=
 ⟨h.1.grown hg (by have:=h.2.1;omega) (fun k e=>by have:=hr k e;omega),qaD h.2.1 hg.size,fun k hk hn=>(hg.block k (qaG hk h.2.1) (fun e=>by have:=hr k e.symm;omega)).trans (h.2.2 k hk hn)⟩
theorem Mg (ps:List (List Bod)) (grp mb m0:Nat) (W0:World) (hmb:mb<W0.heap.size):OwnFrom W0.heap.size (FI ps grp mb m0 W0):=by
 rintro pre X Y row ⟨h1,⟨m,D,h2,h3⟩,h4⟩ hg hr
 exact⟨Cc h1 hg (qaA _) hmb (fun r e=>(hr r e).1),⟨m,D,h2.moved hg (fun e=>by have:=(hr _ e).1;omega) (fun r e=>(hr r e).2),h3⟩,h4⟩
theorem Mh (ps:List (List Bod)) (grp mb m0:Nat) (W:World) (b B:Nat) (hmb:mb<W.heap.size) (hB:W.heap.size≤B) (c:Code):OwnFrom B (FX ps grp mb m0 W b c):=by
 rintro pre X Y row ⟨rfl,pre0,v,o,hp,h0,hv,h1,⟨m,D,h2,h3⟩,⟨cs,h5,gv,ov,h6,h7,h8⟩,h9⟩ hg hr
 have hc:=fun r e=>(hr r e).2
 refine⟨rfl,pre0,v,o,hp,h0,hv,Cc h1 hg hB hmb (fun r e=>(hr r e).1),⟨m,D,h2.moved hg (fun e=>by have:=(hr _ e).1;omega) hc,h3⟩,⟨cs,Ck b (fun(_:Unit)=>cs) _ () X Y row h5 hg hc,gv,ov,h6,CC h7 hg hc,CC h8 hg hc⟩,Ck (b+1) (fun(_:Unit)=>_) _ () X Y row h9 hg hc⟩
theorem Cn {w:World} {base B:Nat} {e:TypeId} {size n:Nat} {v:Value} {xs:List Value} (h:w.ownsRow base e size v n xs) (hb:B≤base):w.ownsRow B e size v n xs:=by
 refine⟨h.1, ?_⟩
 rcases h.2 with h|⟨g,cap,cur,h1,h2,h3⟩
 ·exact .inl h
 ·exact .inr ⟨g,cap,cur,h1,qaD hb h2,h3⟩
theorem eU {w:World} {base g:Nat} {e T:TypeId} {size n i:Nat} {v u:Value} {xs:List Value} {cs:Array Value} (h:w.ownsRow base e size v n xs) (hg:w.heap[g]? =some (.cells cs T (0,0))) (hT:e≠T):(w.setCell ⟨g,i,none⟩ u).ownsRow base e size v n xs:=by
 refine h.kept ⟨rfl,rfl,rfl,(KeepsWalks.setCell w _ u).size,fun k _ hk=>qaH _ _ _ k (fun e=>hk (by rw[e]))⟩ (.inr (aG h hg hT))
theorem pm {B:Nat} {X Y:World} (h:KeepsFrom B X Y) (p:Addr) (v:Value):KeepsFrom B X (Y.setCell p v):=h.trans ((KeepsOthers.setCell Y p v).from B)
theorem NU {w:World} {mb m g i:Nat} {D:DataW Value} {Gf:Q3→List Nat} {T:TypeId} {cs:Array Value} {u:Value} (h:MapS w mb m D Gf) (hg:w.heap[g]? =some (.cells cs T (0,0))) (hT:84≠T):MapS (w.setCell ⟨g,i,none⟩ u) mb m D Gf:=
 ⟨h.1.moved ⟨rfl,rfl,rfl,(KeepsWalks.setCell w _ u).size,fun k _ hk=>qaH _ _ _ k (fun e=>hk (by rw[e]))⟩ (fun e=>rt h.1 hg (by cases e;rfl)),fun v hv hh=>by
  obtain⟨g',h1,h2⟩:=h.2 v hv hh
  refine⟨g',h1,(qaH _ _ _ g' (fun e=> ?_)).trans h2⟩
  subst e
  rw[hg]at h2
  simp at h2
  exact hT h2.2.symm⟩
theorem Ll {ps:List (List Bod)} {grp mb m0 m2 o b B:Nat} {W X w7:World} {D2:DataW Value} {pre:List On} {v:On} {c0 c1 c2 c3 c4 v1 v2:Value}
  (hmb:mb<W.heap.size) (hb:W.heap.size≤b) (hmB:mb<B) (hWX:ButM mb W X) (hX7:ButM mb X w7) (hM:MapS w7 mb m2 D2 (eM ps)) (hm:m2≤m0+2*(pre++[v]).length) (hno:∀a∈pre,Ty ps grp a.1=none) (hv:Ty ps grp v.1=some o)
  (hR:w7.heap[b]? =some (.cells #[c0,c1,c2,c3,c4] 60 (0,0))) (hF:Boxed w7 (b+1) 4 (.bool false))
  (h1:w7.ownsRow W.heap.size 3 1 v1 (lf grp).length ((lf grp).map iV)) (h2:w7.ownsRow W.heap.size 3 1 v2 (lf o).length ((lf o).map iV)):
  KeepsFrom B X ((((((w7.setCell ⟨b,0,none⟩ v1).setCell ⟨b,1,none⟩ v2).setCell ⟨b,2,none⟩ (.int .i64 v.1.1)).setCell ⟨b,3,none⟩ (.int .i64 v.1.2.1)).setCell ⟨b,4,none⟩ (.int .i64 v.1.2.2)).setCell ⟨b+1,0,none⟩ (.bool true))∧
  FX ps grp mb m0 W b .ret (pre++[v]) ((((((w7.setCell ⟨b,0,none⟩ v1).setCell ⟨b,1,none⟩ v2).setCell ⟨b,2,none⟩ (.int .i64 v.1.1)).setCell ⟨b,3,none⟩ (.int .i64 v.1.2.1)).setCell ⟨b,4,none⟩ (.int .i64 v.1.2.2)).setCell ⟨b+1,0,none⟩ (.bool true)):=by
 have k0:KeepsFrom B X w7:=hX7.keeps hmB
 have k1:=pm (pm (pm (pm (pm (pm k0 ⟨b,0,none⟩ v1) ⟨b,1,none⟩ v2) ⟨b,2,none⟩ (.int .i64 v.1.1)) ⟨b,3,none⟩ (.int .i64 v.1.2.1)) ⟨b,4,none⟩ (.int .i64 v.1.2.2)) ⟨b+1,0,none⟩ (.bool true)
 have hW7:=hWX.trans hX7
 have b1:=(((((hW7.set (p:=⟨b,0,none⟩) hb hmb v1).set (p:=⟨b,1,none⟩) hb hmb v2).set (p:=⟨b,2,none⟩) hb hmb (.int .i64 v.1.1)).set (p:=⟨b,3,none⟩) hb hmb (.int .i64 v.1.2.1)).set (p:=⟨b,4,none⟩) hb hmb (.int .i64 v.1.2.2)).set (p:=⟨b+1,0,none⟩) (by show _≤b+1;omega) hmb (.bool true)
 have r1:=Tu hR 0 v1
 have r2:=Tu r1 1 v2
 have r3:=Tu r2 2 (.int .i64 v.1.1)
 have r4:=Tu r3 3 (.int .i64 v.1.2.1)
 have r5:=Tu r4 4 (.int .i64 v.1.2.2)
 have ne:∀w:World,∀i u,(w.setCell ⟨b,i,none⟩ u).heap[b+1]? =w.heap[b+1]? :=fun w i u=>qaH _ _ _ _ (by show b+1≠b;omega)
 have f5:Boxed (((((w7.setCell ⟨b,0,none⟩ v1).setCell ⟨b,1,none⟩ v2).setCell ⟨b,2,none⟩ (.int .i64 v.1.1)).setCell ⟨b,3,none⟩ (.int .i64 v.1.2.1)).setCell ⟨b,4,none⟩ (.int .i64 v.1.2.2)) (b+1) 4 (.bool false):=by
  unfold Boxed
  rw[ne,ne,ne,ne,ne]
  exact hF
 have hT:(3:TypeId)≠60:=by decide
 have hT2:(3:TypeId)≠4:=by decide
 have own:∀{u:Value} {n:Nat} {xs:List Value},w7.ownsRow W.heap.size 3 1 u n xs→((((((w7.setCell ⟨b,0,none⟩ v1).setCell ⟨b,1,none⟩ v2).setCell ⟨b,2,none⟩ (.int .i64 v.1.1)).setCell ⟨b,3,none⟩ (.int .i64 v.1.2.1)).setCell ⟨b,4,none⟩ (.int .i64 v.1.2.2)).setCell ⟨b+1,0,none⟩ (.bool true)).ownsRow W.heap.size 3 1 u n xs:=fun h=>
  eU (eU (eU (eU (eU (eU h hR hT) r1 hT) r2 hT) r3 hT) r4 hT) f5 hT2
 have mp:=NU (i:=0) (u:= .bool true) (NU (i:=4) (u:= .int .i64 v.1.2.2) (NU (i:=3) (u:= .int .i64 v.1.2.1) (NU (i:=2) (u:= .int .i64 v.1.1) (NU (i:=1) (u:=v2) (NU (i:=0) (u:=v1) hM hR (by decide)) r1 (by decide)) r2 (by decide)) r3 (by decide)) r4 (by decide)) f5 (by decide)
 refine⟨k1,rfl,pre,v,o,rfl,hno,hv,b1,⟨m2,D2,mp,hm⟩,⟨_,(qaH _ _ _ b (by show b≠b+1;omega)).trans r5,v1,v2,rfl,own h1,own h2⟩,f5.set _⟩
theorem Lm {ps:List (List Bod)} {mb m b:Nat} {W X:World} {D:DataW Value} {c0 c1 c2 c3 c4:Value}
  (hmb:mb<W.heap.size) (hb:W.heap.size≤b) (hWX:ButM mb W X) (hM:MapS X mb m D (eM ps))
  (hR:X.heap[b]? =some (.cells #[c0,c1,c2,c3,c4] 60 (0,0))) (hF:Boxed X (b+1) 4 (.bool false)) (u0 u1 u2 u3 u4 u5:Value):
  ∃Y,Y=((((((X.setCell ⟨b,0,none⟩ u0).setCell ⟨b,1,none⟩ u1).setCell ⟨b,2,none⟩ u2).setCell ⟨b,3,none⟩ u3).setCell ⟨b,4,none⟩ u4).setCell ⟨b+1,0,none⟩ u5)∧
  ButM mb W Y∧MapS Y mb m D (eM ps)∧Y.heap[b]? =some (.cells #[u0,u1,u2,u3,u4] 60 (0,0))∧Boxed Y (b+1) 4 u5∧∀k,b+2≤k→Y.heap[k]? =X.heap[k]? :=by
 have b1:=(((((hWX.set (p:=⟨b,0,none⟩) hb hmb u0).set (p:=⟨b,1,none⟩) hb hmb u1).set (p:=⟨b,2,none⟩) hb hmb u2).set (p:=⟨b,3,none⟩) hb hmb u3).set (p:=⟨b,4,none⟩) hb hmb u4).set (p:=⟨b+1,0,none⟩) (by show _≤b+1;omega) hmb u5
 have r1:=Tu hR 0 u0
 have r2:=Tu r1 1 u1
 have r3:=Tu r2 2 u2
 have r4:=Tu r3 3 u3
 have r5:=Tu r4 4 u4
 have ne:∀(w:World) (g:Nat) i u k,k≠g→(w.setCell ⟨g,i,none⟩ u).heap[k]? =w.heap[k]? :=fun w g i u k h=>qaH _ _ _ _ h
 have f5:Boxed (((((X.setCell ⟨b,0,none⟩ u0).setCell ⟨b,1,none⟩ u1).setCell ⟨b,2,none⟩ u2).setCell ⟨b,3,none⟩ u3).setCell ⟨b,4,none⟩ u4) (b+1) 4 (.bool false):=by
  unfold Boxed
  rw[ne _ _ _ _ _ (by omega),ne _ _ _ _ _ (by omega),ne _ _ _ _ _ (by omega),ne _ _ _ _ _ (by omega),ne _ _ _ _ _ (by omega)]
  exact hF
 have mp:=NU (i:=0) (u:=u5) (NU (i:=4) (u:=u4) (NU (i:=3) (u:=u3) (NU (i:=2) (u:=u2) (NU (i:=1) (u:=u1) (NU (i:=0) (u:=u0) hM hR (by decide)) r1 (by decide)) r2 (by decide)) r3 (by decide)) r4 (by decide)) f5 (by decide)
 exact⟨_,rfl,b1,mp,(qaH _ _ _ b (by show b≠b+1;omega)).trans r5,f5.set _,fun k hk=>by
  rw[ne _ _ _ _ _ (by omega),ne _ _ _ _ _ (by omega),ne _ _ _ _ _ (by omega),ne _ _ _ _ _ (by omega),ne _ _ _ _ _ (by omega),ne _ _ _ _ _ (by omega)]⟩
theorem Ek {ps:List (List Bod)} {grp:Nat} {v:Q3} {G Ls:List Nat} (hG:eM ps v=G) (hL:lf grp=Ls) (h:∀j (hj:j<Ls.length),car G grp Ls[j]=grp):Ty ps grp v=none:=by
 subst hG
 subst hL
 exact Fi h
theorem Fk {ps:List (List Bod)} {grp k n o:Nat} {v:Q3} {G Ls:List Nat} (hG:eM ps v=G) (hL:lf grp=Ls) (hk:k<Ls.length) (hn:Ls[k]=n) (ho:car G grp n=o) (h:∀j (hj:j<Ls.length),j<k→car G grp Ls[j]=grp) (hx:o≠grp):Ty ps grp v=some o:=by
 subst hG
 subst hL
 subst hn
 subst ho
 exact Gn hk (fun j hj=>h j (by omega) hj) hx
theorem Fl {ps:List (List Bod)} {mb m b Dd:Nat} {W Y:World} {D:DataW Value} {cs:Array Value} {u:Value}
  (hmb:mb<W.heap.size) (hb:W.heap.size≤b) (hWY:ButM mb W Y) (hM:MapS Y mb m D (eM ps))
  (hR:Y.heap[b]? =some (.cells cs 60 (0,0))) (hF:Boxed Y (b+1) 4 u) (hD:b+2≤Dd) (hK:Y.heap[Dd]? =some (.deferred (some []))):
  ∃Z,Z=Y.putObj Dd (.deferred none)∧ButM mb W Z∧MapS Z mb m D (eM ps)∧Z.heap[b]? =some (.cells cs 60 (0,0))∧Boxed Z (b+1) 4 u∧
   ∀{v:Value} {n:Nat} {xs:List Value},Y.ownsRow W.heap.size 3 1 v n xs→Z.ownsRow W.heap.size 3 1 v n xs:=by
 have hg:=grownBy_putObj' Y Dd (.deferred none)
 have hc:∀r,some Dd=some r→∃o:Obj,Y.heap[r]? =some o∧o.isCells=false:=fun r e=>by cases e;exact⟨_,hK,rfl⟩
 refine⟨_,rfl,Cc (B:=b+2) hWY hg (by omega) hmb (fun r e=>by cases e;exact hD),hM.moved hg (fun e=>by cases e;omega) hc,(World.putObj_heap_other (by omega)).trans hR,(World.putObj_heap_other (by omega)).trans hF,fun h=>CC h hg hc⟩
theorem Ln:∀m,m<28→(Ri m).length≤26:=by decide
end
section
open Go.RowKit Go.Shelf Go.Lib
set_option maxRecDepth 100000
attribute [local go_sem] Oper.semAt_some
theorem Dt (n:Nat) (hn:1≤n) (n₀:Nat) (w:World):SeqStopsK Fence.wide n Tryz.prog 91 #[] (fun x:On=>#[vW x.1]) (Below n₀) (fun xs=>xs.map Subtype.val=ways26) (fun pre=>∃m,m≤27∧pre.map Subtype.val=Ri m) 26 w:=fun l J Jx W _ hJ _ hY h0=>by
 have:=Lk l J Jx W hJ n hn n₀ hY W h0
 simpa using this
def Mi (ps:List (List Bod)) (grp mb m0:Nat) (W:World) (e:Ending) (w':World):Prop:=
 ButM mb W w'∧(∃m D,MapS w' mb m D (eM ps)∧m≤m0+52)∧
 ((Ok ps grp=none∧e= .returned (.tuple #[.agg #[.slice none 0 0, .slice none 0 0, .int .i64 0, .int .i64 0, .int .i64 0], .bool false]))∨(∃v o cs,v∈ways26∧Ok ps grp=some (v,o)∧e= .returned (.tuple #[.agg cs, .bool true])∧Mf W.heap.size w' grp o v cs))
theorem Iv (ps:List (List Bod)) (grp sb mb m0:Nat) (D:DataW Value) (pv:Value) (W:World) (hps:∀p∈ps,(∀b∈p,Ii b)∧p.length≤1000000) (hl:ps.length≤12) (hgrp:grp<2 ^ ps.length) (hS:W.heap[sb]? =some (.cells #[pv, .map (some mb)] 168 (0,0))) (hM:MapS W mb m0 D (eM ps)) (hm0:m0≤900) (hsym:∀v∈ways26,∀i k,Cb ps (-v.1, -v.2.1, -v.2.2) k i=Cb ps v i k) (hP:PtsV W pv ps) (hT:TabAt 3 Lib.deBruijn64tab W):
  Calls Tryz.prog 89 #[.pointer (some ⟨sb,0,none⟩), .int .u64 grp] W (Mi ps grp mb m0 W):=by
 have HE:=fun W'=>YJ (GM W')
 have hmbW:mb<W.heap.size:=by
  obtain⟨⟨es,ck,h,_⟩,_⟩:=hM
  exact(alsl.1 h).1
 have hsm:sb≠mb:=rt hM.1 hS
 have hg12:grp<4096:=qaG hgrp (by have:=Nat.pow_le_pow_right (n:=2) (by decide) hl;simpa using this)
 have HGR:=fun(v:Q3) (hv:v∈ways26) (X:World) (m:Nat) (D:DataW Value) (hb:ButM mb W X) (hM2:MapS X mb m D (eM ps)) (hm:m≤1000)=>YJ (Iu m D ps v sb mb pv X hv hps hl ((hb.2.2 _ (ah hS) hsm).trans hS) hM2 hm (hsym v hv) ((hb.ck hM.1).pts hP))
 have HL:=fun(X:World) (s:Nat) (hs:s<4096) (hb:ButM mb W X)=>YJ (ES s X hs ((hb.ck hM.1).tab hT))
 have HTX:=fun(X:World) (hb:ButM mb W X)=>YJ ((hb.ck hM.1).tab hT)
 refine(callsIn_wide (n:=6)).1 ?_
 refine callsIn_of_wp_marks Tryz.func89 rfl trivial ?_ rfl
 simp only[Tryz.ntmps89,List.size_toArray,qdn,List.length_nil,Nat.reduceAdd,Nat.reduceSub,Array.replicate_succ,Array.replicate_zero,List.push_toArray,List.append_toArray,List.nil_append,List.cons_append]
 gi_wp2_with fail
 refine⟨trivial, ?_⟩
 refine(callsIn_wide.2 ((HE _).out)).mono ?_
 rintro e w1 ⟨rfl,rfl⟩
 gi_wp2
 obtain⟨W0,HW0⟩:∃W0,Hid ((((W.alloc (.cells #[.pointer (some ⟨sb,0,none⟩)] 81)).alloc (.cells #[.int .u64 grp] 84)).alloc (.cells #[.slice none 0 0, .slice none 0 0, .int .i64 0, .int .i64 0, .int .i64 0] 60)).alloc (.cells #[.bool false] 4)=W0):=⟨_,YJ rfl⟩
 have hB0:Below W.heap.size W W0:=by rw[←HW0.out];exact bel
 have hA0:Boxed W0 W.heap.size 81 (.pointer (some ⟨sb,0,none⟩)):=by rw[←HW0.out];exact(aB (by first|(simp;done)|(simp;omega))).trans ((aB (by first|(simp;done)|(simp;omega))).trans ((aB (by simp)).trans (ai rfl)))
 have hG0:Boxed W0 (W.heap.size+1) 84 (.int .u64 grp):=by rw[←HW0.out];exact(aB (by first|(simp;done)|(simp;omega))).trans ((aB (by simp)).trans (ai (by simp)))
 have hR0:W0.heap[W.heap.size+1+1]? =some (.cells #[.slice none 0 0, .slice none 0 0, .int .i64 0, .int .i64 0, .int .i64 0] 60 (0,0)):=by rw[←HW0.out];exact(aB (by simp)).trans (ai (by simp))
 have hF0:Boxed W0 (W.heap.size+1+1+1) 4 (.bool false):=by rw[←HW0.out];exact ai (by simp)
 have hsz:W0.heap.size=W.heap.size+4:=by rw[←HW0.out];simp
 rw[HW0.out]
 clear HW0 HE
 have hM0:MapS W0 mb m0 D (eM ps):=hM.kept hB0
 have hbm0:ButM mb W W0:= .of_below (by omega) hB0
 refine wpIn_rangeFunc_ownH rfl (by omega) (gf:=91) (lb:=#[]) rfl trivial (enters_of Tryz.func91 (by kernel_rfl) rfl)
  (Dt (6-1) (by omega) mb W0) belowK_t (belowK_b (by omega)) (brf) (fun _=>rfl)
  (FI ps grp mb m0 W0)
  (FX ps grp mb m0 W (W.heap.size+1+1))
  (Mg ps grp mb m0 W0 (by omega))
  (Mh ps grp mb m0 W (W.heap.size+1+1) W0.heap.size hmbW (by omega))
  ⟨ButM.refl _ _,⟨m0,D,hM0,by simp⟩,by simp⟩
  (fun x a' X=>∃Bx,W0.heap.size≤Bx∧X.heap[Bx]? =some (.cells #[.int .i64 x.1.1, .int .i64 x.1.2.1, .int .i64 x.1.2.2] 58 (0,0))∧a'={tmps:=#[.pointer (some ⟨sb,0,none⟩), .int .u64 grp, .pointer (some ⟨W.heap.size,0,none⟩), .pointer (some ⟨W.heap.size+1,0,none⟩), .pointer (some ⟨W.heap.size+1+1,0,none⟩), .pointer (some ⟨W.heap.size+1+1+1,0,none⟩), .pointer (some ⟨Bx,0,none⟩),undef,undef,undef,undef, .func (.func 91) #[] #[],vW x.1,undef,undef,undef,undef,undef,undef,undef,undef,undef,undef,undef,undef,undef,undef,undef,undef,undef,undef,undef,undef,undef,undef,undef,undef,undef],defers:=[]})
  (fun x a' _ X Y row hs hg hr=>by obtain⟨Bx,h1,h2,h3⟩:=hs;exact⟨Bx,h1,Ck Bx (fun(_:Unit)=>#[.int .i64 x.1.1, .int .i64 x.1.2.1, .int .i64 x.1.2.2]) 58 () X Y row h2 hg (fun r e=>(hr r e).2),h3⟩)
  ?assign ?body ?done ?stop
 case assign=>
  rintro L pre x X K ⟨hbm,⟨m,D,hM,hm⟩,hno⟩ hK
  obtain⟨⟨x0,x1,x2⟩,hx⟩:=x
  have hXs:=hbm.2.1
  simp only[vW]
  gi_wp2
  have hbx:Below X.heap.size X (X.alloc (.cells #[.int .i64 x0, .int .i64 x1, .int .i64 x2] 58)):=(Below.refl _ X).alloc (qaA _) _
  exact hK _ _ (EV hbx) (hbx.mono (by omega)) ⟨hbm.trans (.of_below (by omega) hbx),⟨m,D,hM.kept hbx,hm⟩,hno⟩ ⟨X.heap.size,by omega,ai rfl,rfl⟩
 case body=>
  rintro L pre x a' X hLl ⟨r,hr⟩ ⟨hbm,⟨m,D,hM,hm⟩,hno⟩ ⟨Bx,hBx,hX,rfl⟩ hlt
  obtain⟨⟨x0,x1,x2⟩,hx⟩:=x
  simp only at hX
  have hXs:=hbm.2.1
  have hbX:=hbm0.trans hbm
  obtain⟨xc0,xc1,xc2,xf,xz⟩:=NO hX
  have hAX:Boxed X W.heap.size 81 (.pointer (some ⟨sb,0,none⟩)):=(hbm.2.2 _ (by omega) (by omega)).trans hA0
  have ca:=hAX.cell
  have h1':1≤6-1-1:=by omega
  have HC:=HGR (x0,x1,x2) hx X m D hbX hM (by omega)
  simp only[vW]at HC ⊢
  gi_wp2_with fail
  refine⟨trivial, ?_⟩
  refine(CallsIn.inRound L (callsIn_wide.2 (HC.out))).mono ?_
  rintro e w2 ⟨g,m2,D2,rfl,hb2,hs2,hk2,hG2,hM2,hm2⟩
  have hbm2:ButM mb X w2:=⟨hb2,hs2,hk2⟩
  have hbW2:ButM mb W w2:=hbX.trans hbm2
  obtain⟨G,HG⟩:∃G,Hid (eM ps (x0,x1,x2)=G):=⟨_,YJ rfl⟩
  have hgl:G.length=ps.length:=by rw[←HG.out];simp[eM]
  have HGlt:Hid (∀x∈G,x<4096):=YJ (fun x hx=>by
   rw[←HG.out]at hx
   obtain⟨i,_,rfl⟩:=altt.1 hx
   exact Ei _ _ _ _ hl)
  rw[HG.out]at hG2 ⊢
  have HG2:=YJ hG2
  have hGB:Boxed w2 (W.heap.size+1) 84 (.int .u64 grp):=((hbm.trans hbm2).2.2 _ (by omega) (by omega)).trans hG0
  have hXB:w2.heap[Bx]? =some (.cells #[.int .i64 x0, .int .i64 x1, .int .i64 x2] 58 (0,0)):=(hbm2.2.2 _ xz (by omega)).trans hX
  have HM2:=YJ hM2
  clear xc0 xc1 xc2 xf ca HC hG2 hM2
  have cg:=hGB.cell
  have hz1:=hGB.lt
  gi_wp2_with fail
  refine⟨trivial, ?_⟩
  refine(CallsIn.inRound L (callsIn_wide.2 ((HL w2 grp hg12 hbW2).out))).mono ?_
  rintro e w3 ⟨lv,rfl,hb3,hown3⟩
  obtain⟨la,lc,rfl⟩:=aT hown3
  obtain⟨Ls,HLs⟩:∃Ls,Hid (lf grp=Ls):=⟨_,YJ rfl⟩
  rw[HLs.out]at hown3 ⊢
  have HO3:=YJ hown3
  have hll:Ls.length≤4096:=by rw[←HLs.out];exact qaD (BS grp grp) (by omega)
  have HLm:Hid (∀n∈Ls,n<ps.length):=YJ (fun n hn=>Cz ps.length grp grp hg12 hgrp n (by rw[←HLs.out]at hn;exact hn))
  clear hown3 cg
  have hGB3:Boxed w3 (W.heap.size+1) 84 (.int .u64 grp):=(hb3.block _ hz1).trans hGB
  have hXB3:=(hb3.block _ (ah hXB)).trans hXB
  have hbW3:ButM mb W w3:=hbW2.trans (.of_below (by have:=hbW2.2.1;omega) hb3)
  have HG3:=YJ (HG2.out.below hb3)
  have HM3:=YJ (HM2.out.kept hb3)
  gi_wp2
  gi_loopw [19] (fun i wr=>∃k:Nat,k≤Ls.length∧i= .int .i64 k∧Below w3.heap.size w3 wr∧Hid (∀j (h:j<Ls.length),j<k→car G grp Ls[j]=grp)) (fun i _=>(Ls.length-intOf i).toNat)
  case atStart=>exact⟨0,by omega,rfl,brf,YJ (fun j _ h=>by omega)⟩
  case round=>
   obtain⟨k,hk,rfl,hbr,H0⟩:=hrel
   by_cases hkl:k<Ls.length
   ·have t1:(k:Int)<Ls.length:=by omega
    obtain⟨ga,gcap,e,hcc,hgz,_,hcell⟩:=JK HO3.out (by omega)
    injection e with e1 e2 e3
    subst e1
    subst e3
    have cn:=ab hbr (hcell k hkl)
    have hnm:=HLm.out _ (qaB hkl)
    obtain⟨n,Hn⟩:∃n,Hid (Ls[k]=n):=⟨_,YJ rfl⟩
    rw[Hn.out]at cn hnm
    clear hcell
    have hGBr:Boxed wr (W.heap.size+1) 84 (.int .u64 grp):=(hbr.block _ hGB3.lt).trans hGB3
    have hXBr:=(hbr.block _ (ah hXB3)).trans hXB3
    have hbWr:ButM mb W wr:=hbW3.trans (.of_below (by have:=hbW3.2.1;omega) hbr)
    have cg:=hGBr.cell
    have hz2:=hGBr.lt
    have HCa:=Ff G n grp g G.length wr HGlt.out (by omega) (by omega) (by rw[hgl];exact hgrp) (qaA _) (HG3.out.below hbr) (HTX wr hbWr).out
    rw[hgl]at HCa
    have hgz2:ga<wr.heap.size:=qaG hgz hbr.size
    gi_wp2_with fail
    refine⟨trivial, ?_⟩
    refine(CallsIn.inRound L (callsIn_wide.2 HCa)).mono ?_
    rintro e w5 ⟨rfl,hb5⟩
    obtain⟨o,Ho⟩:∃o,Hid (car G grp n=o):=⟨_,YJ rfl⟩
    rw[Ho.out]
    have hGB5:Boxed w5 (W.heap.size+1) 84 (.int .u64 grp):=(hb5.block _ hGBr.lt).trans hGBr
    have cg5:=hGB5.cell
    by_cases hog:o=grp
    ·have hc:((o:Int)!=(grp:Int))=false:=by simp[hog]
     gi_wp2
     go_roundw
     case rel=>exact⟨k+1,by omega,by go_num,fB hbr hb5,YJ (fun j h hj=>by
      by_cases e:j=k
      ·subst e;rw[Hn.out,Ho.out];exact hog
      ·exact H0.out j h (by omega))⟩
     simp[intOf];try omega
    ·have hc:((o:Int)!=(grp:Int))=true:=by simp only[bne_iff_ne,ne_eq,Int.natCast_inj];exact hog
     gi_wp2
     have hmx:Tryz.prog.follows .mixedOrders=true:=by kernel_rfl
     have hbW5:ButM mb W w5:=hbWr.trans (.of_below (by have:=hbWr.2.1;omega) hb5)
     have hmz:mb≤w5.heap.size:=by have:=hbW5.2.1;omega
     have HLg:=fun(Y:World) (h:Below w5.heap.size w5 Y)=>YJ (HL Y grp hg12 (hbW5.trans (.of_below hmz h))).out
     have HLo:=fun(Y:World) (h:Below w5.heap.size w5 Y)=>YJ (HL Y o (by rw[←Ho.out];exact Me _ _ _ hg12 (by omega)) (hbW5.trans (.of_below hmz h))).out
     have hRX:w5.heap[W.heap.size+1+1]? =some (.cells #[.slice none 0 0, .slice none 0 0, .int .i64 0, .int .i64 0, .int .i64 0] 60 (0,0)):=by
      refine Eq.trans ?_ hR0
      have h1:=(hbm.trans hbm2).2.2 (W.heap.size+1+1) (by omega) (by omega)
      have h2:=hb3.block (W.heap.size+1+1) (by have:=hbm2.2.1;omega)
      have h3:=(fB hbr hb5).block (W.heap.size+1+1) (by have:=hbm2.2.1;have:=hb3.size;omega)
      rw[h3,h2,h1]
     have hFX:Boxed w5 (W.heap.size+1+1+1) 4 (.bool false):=by
      refine Eq.trans ?_ hF0
      have h1:=(hbm.trans hbm2).2.2 (W.heap.size+1+1+1) (by omega) (by omega)
      have h2:=hb3.block (W.heap.size+1+1+1) (by have:=hbm2.2.1;omega)
      have h3:=(fB hbr hb5).block (W.heap.size+1+1+1) (by have:=hbm2.2.1;have:=hb3.size;omega)
      rw[h3,h2,h1]
     have hXB5:=(hb5.block _ (ah hXBr)).trans hXBr
     clear cg cn
     have hz5:W.heap.size≤w5.heap.size:=hbW5.2.1
     have hz6:∀{Y:World},Below w5.heap.size w5 Y→W.heap.size≤Y.heap.size:=fun h=>qaD hz5 h.size
     have hm2z:mb≤w2.heap.size:=by have:=hbm2.2.1;omega
     have hm7:m2≤m0+2*(pre++[(⟨(x0,x1,x2),hx⟩:On)]).length:=by simp;omega
     have Hhit:Hid (Ty ps grp (x0,x1,x2)=some o):=YJ (Fk HG.out HLs.out hkl Hn.out Ho.out H0.out hog)
     obtain⟨xc0,xc1,xc2,xf,xz5⟩:=NO hXB5
     obtain⟨r0,r1,r2,r3,r4,rf,rz⟩:=bM hRX
     gi_region_with_o (first|(have hb6X':=hb6X;refine⟨trivial, ?_⟩;gi_at_call 93;refine(CallsIn.inRound L (callsIn_wide.2 ((HLo _ (fB hb6X bel)).out))).mono ?_;rintro e w7 ⟨v2,rfl,hb7,hown7⟩;obtain⟨a2,c2,rfl⟩:=aT hown7;have hb7X:Below w6.heap.size w6 w7:=fB bel hb7;have HO7:=YJ hown7;clear hown7 hb6X';have hb75:=fB hb6X hb7X;have hXB7:=(hb7X.block _ yz).trans hXB6;obtain⟨zc0,zc1,zc2,zf,zz⟩:=NO hXB7;have hR7:=(hb75.block _ rz).trans hRX;have hF7:Boxed w7 (W.heap.size+1+1+1) 4 (.bool false):=(hb75.block _ hFX.lt).trans hFX;obtain⟨s0,s1,s2,s3,s4,sf,sz⟩:=bM hR7;have fc:=hF7.cell;have ff:=hF7.frozen;have fz:=hF7.lt)|(refine⟨trivial, ?_⟩;gi_at_call 93;refine(CallsIn.inRound L (callsIn_wide.2 ((HLg _ bel).out))).mono ?_;rintro e w6 ⟨v1,rfl,hb6,hown6⟩;obtain⟨a1,c1,rfl⟩:=aT hown6;have hb6X:Below w5.heap.size w5 w6:=fB bel hb6;have HO6:=YJ hown6;clear hown6;have hXB6:=(hb6X.block _ xz5).trans hXB5;obtain⟨yc0,yc1,yc2,yf,yz⟩:=NO hXB6))
     all_goals
      have h7X:ButM mb X w7:=hbm2.trans (.of_below hm2z (fB hb3 (fB hbr (fB hb5 hb75))))
      have hM7:=HM3.out.kept (fB hbr (fB hb5 hb75))
      have hw1:=Cn (au HO6.out hb7X) (show W.heap.size≤_ by first|exact hz5|(simp;exact hz5))
      have hw2:=Cn HO7.out (show W.heap.size≤_ by first|exact hz6 hb6X|(simp;exact hz6 hb6X))
      gi_wp2
      exact Ll (v:=⟨(x0,x1,x2),hx⟩) (X:=X) (w7:=w7) (b:=W.heap.size+1+1) hmbW (by omega) (by omega) hbX h7X hM7 hm7 hno Hhit.out hR7 hF7 hw1 hw2
   ·have t1:¬(k:Int)<Ls.length:=by omega
    have hbR:ButM mb X wr:=hbm2.trans (.of_below (by have:=hbm2.2.1;omega) (fB hb3 hbr))
    have hMr:=HM3.out.kept hbr
    have Hno:Hid (Ty ps grp (x0,x1,x2)=none):=YJ (Ek HG.out HLs.out (fun j hj=>H0.out j hj (by omega)))
    gi_wp2
    refine⟨hbR.keeps (by omega),hbR.1,hbm.trans hbR,⟨m2,D2,hMr,by simp;omega⟩,fun a ha=> ?_⟩
    rcases altl.1 ha with ha|ha
    ·exact hno a ha
    ·obtain rfl:a=⟨(x0,x1,x2),hx⟩:=by simpa using ha
     exact Hno.out
 case done=>
  rintro Dd ys X hD hys ⟨hbm,⟨m,D,hM,hm⟩,hno⟩ hK
  have hRX:X.heap[W.heap.size+1+1]? =some (.cells #[.slice none 0 0, .slice none 0 0, .int .i64 0, .int .i64 0, .int .i64 0] 60 (0,0)):=(hbm.2.2 _ (by omega) (by omega)).trans hR0
  have hFX:Boxed X (W.heap.size+1+1+1) 4 (.bool false):=(hbm.2.2 _ (by omega) (by omega)).trans hF0
  obtain⟨r0,r1,r2,r3,r4,rf,rz⟩:=bM hRX
  have fc:=hFX.cell
  have ff:=hFX.frozen
  have fz:=hFX.lt
  obtain⟨Y,hY,hbY,hMY,hRY,hFY,hkY⟩:=Lm hmbW (by omega) (hbm0.trans hbm) hM hRX hFX (.slice none 0 0) (.slice none 0 0) (.int .i64 0) (.int .i64 0) (.int .i64 0) (.bool false)
  have hKY:=(hkY Dd (by omega)).trans hK
  have Hn:=YJ (Fj hys hno)
  have hyl:ys.length=26:=by
   have:=congrArg List.length hys
   rw[qdo]at this
   rw[this]
   decide
  gi_wp2
  rw[←hY]
  clear hY r0 r1 r2 r3 r4 rf rz fc ff fz hRX hFX
  refine⟨by simp, .inl ⟨_,_,rfl,run_takeDeferred hKY, ?_⟩⟩
  obtain⟨Z,hZ,hbZ,hMZ,hRZ,hFZ,_⟩:=Fl hmbW (by omega) hbY hMY hRY hFY (by omega) hKY
  rw[←hZ]
  obtain⟨c0,c1,c2,c3,c4,_,_⟩:=bM hRZ
  have fc:=hFZ.cell
  refine⟨.tuple #[.agg #[.slice none 0 0, .slice none 0 0, .int .i64 0, .int .i64 0, .int .i64 0], .bool false],by simp[results,Tryz.results89,go_sem,c0,c1,c2,c3,c4,fc],hbZ,⟨m,D,hMZ,by omega⟩, .inl ⟨Hn.out,rfl⟩⟩
 case stop=>
  rintro Dd c' pre X hD ⟨mm,hmm,hpre⟩ ⟨rfl,pre0,v,o,rfl,hno,hv,hbm,⟨m,D,hM,hm⟩,⟨cs,hcs,gv,ov,rfl,ho1,ho2⟩,hbx⟩ hK
  gi_wp2
  refine⟨by simp, .inl ⟨_,_,rfl,run_takeDeferred hK, ?_⟩⟩
  obtain⟨Z,hZ,hbZ,hMZ,hRZ,hFZ,hoZ⟩:=Fl hmbW (by omega) hbm hM hcs hbx (by omega) hK
  rw[←hZ]
  obtain⟨c0,c1,c2,c3,c4,_,_⟩:=bM hRZ
  have fc:=hFZ.cell
  have hlen:(pre0++[v]).length≤26:=by
   have h1:=congrArg List.length hpre
   rw[qdo]at h1
   have h2:=Ln mm (by omega)
   omega
  refine⟨.tuple #[.agg #[gv,ov, .int .i64 v.1.1, .int .i64 v.1.2.1, .int .i64 v.1.2.2], .bool true],by simp[results,Tryz.results89,go_sem,c0,c1,c2,c3,c4,fc],hbZ,⟨m,D,hMZ,by omega⟩, .inr ⟨v.1,o,_,v.2,Gp hmm hpre hno hv,rfl,gv,ov,rfl,hoZ ho1,hoZ ho2⟩⟩
end
section
open Go.RowKit Go.Shelf Go.Lib
attribute [local go_sem] Ext.cell Ext.frozen
theorem ba {n lo hi:Int} {b:Bool} (h:decide (lo≤n∧n≤hi)=b) (w:World):Calls Tryz.prog 12 #[.int .i64 n, .int .i64 lo, .int .i64 hi] w fun e w'=>e= .returned (.bool b)∧w'=w:=(de n lo hi w).mono fun e w' h'=>⟨by rw[h'.1,h],h'.2.symm⟩
end
section
open Go.RowKit Go.Shelf Go.Lib
set_option maxRecDepth 100000
attribute [local go_sem] Ext.cell Ext.frozen
theorem Lo (xs:List Int) (v:Value) (W:World) (hx:∀x∈xs, -300000≤x∧x≤300000) (hl:xs.length≤1000000) (hv:Ints W v xs):
  Calls Tryz.prog 182 #[v] W (Ret W (.bool true)):=by
 obtain⟨a,n,c,rfl,hn,_,hi⟩:=hv
 have HX:=YJ hi
 have HN:=YJ hn
 have HB:=fun i (h:i<xs.length)=>YJ (hx _ (qaB h))
 clear hi hn hx
 go_enter Tryz.func182,Tryz.ntmps182
 go_wp2
 go_loopw [3] (fun x wr=>wr=W∧∃k:Nat,k≤n∧x= .int .i64 k) (fun x _=>n-(intOf x).toNat)
 case atStart=>exact⟨rfl,0,by omega,rfl⟩
 case round=>
  obtain⟨rfl,k,hk,rfl⟩:=hrel
  by_cases hlt:k<n
  ·have g1:(k:Int)<(n:Int):=by omega
   have g2:(0:Int)≤(k:Int):=by omega
   have hil:k<xs.length:=by have:=HN.out;omega
   have hnl:n≤1000000:=by have:=HN.out;omega
   obtain⟨b,off,rfl,hi4⟩:=HX.out (by omega)
   have e0:=hi4 k hil
   have ze:=qaC wr _ e0
   simp only at ze
   have gb:decide (-300000≤xs[k]∧xs[k]≤300000)=true:=qfX (HB k hil).out
   clear HX HB hi4
   generalize xs[k]=y at*
   go_wp2_with fail
   refine(ba gb _).mono ?_
   rintro e w2 ⟨rfl,rfl⟩
   go_wp2
   go_roundw
   case rel=>exact⟨by first|trivial|rfl,k+1,by omega,by go_num⟩
   simp[intOf];try omega
  ·obtain rfl:k=n:=by omega
   clear HX HB
   go_wp2
   go_ret
   exact⟨by trivial,bel⟩
def CV (x1 y1 z1 x2 y2 z2:Int):List Q4:=[dG (-1,0,0, -x1),dG (0, -1,0, -y1),dG (0,0, -1, -z1),dG (0,0,1,z2),dG (0,1,0,y2),dG (1,0,0,x2)]
theorem Gq (x1 y1 z1 x2 y2 z2:Int) (W:World) (h1: -300000≤x1∧x1≤300000) (h2: -300000≤y1∧y1≤300000) (h3: -300000≤z1∧z1≤300000) (h4: -300000≤x2∧x2≤300000) (h5: -300000≤y2∧y2≤300000) (h6: -300000≤z2∧z2≤300000):
  Calls Tryz.prog 183 #[.agg #[.int .i64 x1, .int .i64 y1, .int .i64 z1, .int .i64 x2, .int .i64 y2, .int .i64 z2]] W (fun e w'=>∃pv,e= .returned (.agg #[pv])∧Below W.heap.size W w'∧Q4s w' pv (CV x1 y1 z1 x2 y2 z2)):=by
 have L1:=fun w=>YJ (tF (-1,0,0, -x1) w (by unfold cI bI;simp;omega))
 have L2:=fun w=>YJ (tF (0, -1,0, -y1) w (by unfold cI bI;simp;omega))
 have L3:=fun w=>YJ (tF (0,0, -1, -z1) w (by unfold cI bI;simp;omega))
 have L4:=fun w=>YJ (tF (0,0,1,z2) w (by unfold cI bI;simp;omega))
 have L5:=fun w=>YJ (tF (0,1,0,y2) w (by unfold cI bI;simp;omega))
 have L6:=fun w=>YJ (tF (1,0,0,x2) w (by unfold cI bI;simp;omega))
 have w1:IntKind.i64.wrap (-x1)= -x1:=IntWalk.i64_in _ (by omega)
 have w2:IntKind.i64.wrap (-y1)= -y1:=IntWalk.i64_in _ (by omega)
 have w3:IntKind.i64.wrap (-z1)= -z1:=IntWalk.i64_in _ (by omega)
 obtain⟨B,HBx⟩:∃B,Hid (CV x1 y1 z1 x2 y2 z2=B):=⟨_,YJ rfl⟩
 rw[HBx.out]
 unfold CV at HBx
 generalize dG (-1,0,0, -x1)=p1 at*
 generalize dG (0, -1,0, -y1)=p2 at*
 generalize dG (0,0, -1, -z1)=p3 at*
 generalize dG (0,0,1,z2)=p4 at*
 generalize dG (0,1,0,y2)=p5 at*
 generalize dG (1,0,0,x2)=p6 at*
 obtain⟨a1,b1,c1,d1⟩:=p1
 obtain⟨a2,b2,c2,d2⟩:=p2
 obtain⟨a3,b3,c3,d3⟩:=p3
 obtain⟨a4,b4,c4,d4⟩:=p4
 obtain⟨a5,b5,c5,d5⟩:=p5
 obtain⟨a6,b6,c6,d6⟩:=p6
 simp only[v4]at L1 L2 L3 L4 L5 L6
 clear h1 h2 h3 h4 h5 h6
 go_enter Tryz.func183,Tryz.ntmps183
 go_wp2
 apply aj [] [0,1,2,3,4,5,6,7,8,9,10,11,12,13,14,15,16,17,18,19,20,21,22,23,24,25,26] 27 [28,29] [sv _,sv _,sv _,sv _,sv _,sv _,sv _,sv _,sv _,sv _,sv _,sv _,sv _,sv _,sv _,sv _,sv _,sv _,sv _,sv _,sv _,sv _,sv _,sv _,sv _,sv _,sv _] (by kernel_rfl) (by kernel_rfl)
 iterate 4 ((try go_frame);refine wkQ ?_)
 try go_frame
 refine wkV ?_
 apply ex3
 ·intro u K hK
  go_simp
  refine((L1 _).out).mono ?_
  rintro e w9 ⟨rfl,hb9⟩
  exact hK _ hb9
 rfl
 iterate 4 ((try go_frame);refine wkQ ?_)
 try go_frame
 refine wkV ?_
 apply ex3
 ·intro u K hK
  go_simp
  refine((L2 _).out).mono ?_
  rintro e w9 ⟨rfl,hb9⟩
  exact hK _ hb9
 rfl
 iterate 4 ((try go_frame);refine wkQ ?_)
 try go_frame
 refine wkV ?_
 apply ex3
 ·intro u K hK
  go_simp
  refine((L3 _).out).mono ?_
  rintro e w9 ⟨rfl,hb9⟩
  exact hK _ hb9
 rfl
 iterate 3 ((try go_frame);refine wkQ ?_)
 try go_frame
 refine wkV ?_
 apply ex3
 ·intro u K hK
  go_simp
  refine((L4 _).out).mono ?_
  rintro e w9 ⟨rfl,hb9⟩
  exact hK _ hb9
 rfl
 iterate 3 ((try go_frame);refine wkQ ?_)
 try go_frame
 refine wkV ?_
 apply ex3
 ·intro u K hK
  go_simp
  refine((L5 _).out).mono ?_
  rintro e w9 ⟨rfl,hb9⟩
  exact hK _ hb9
 rfl
 iterate 3 ((try go_frame);refine wkQ ?_)
 try go_frame
 refine wkV ?_
 apply ex3
 ·intro u K hK
  go_simp
  refine((L6 _).out).mono ?_
  rintro e w9 ⟨rfl,hb9⟩
  exact hK _ hb9
 rfl
 try go_frame
 refine aI (fun u hR=> ?_)
 have hbu:=u.below
 have hC0:u.val.heap[W.heap.size+1]? =some (.cells #[.slice none 0 0] 164 (0,0)):=(hbu.block _ (by simp)).trans (ai (by simp))
 have hbW:Below W.heap.size W u.val:=fB bel hbu
 have c0:=(bq hC0 0).trans rfl
 have cf:=aC hC0
 have cz:=ah hC0
 generalize u.val=V at*
 clear u
 simp only[oas]
 iterate 3 (refine wpList_step (fun K hK=> ?_);go_simp;refine hK _ _ ?_;clear hK K)
 refine NoPanic.normal ?_
 go_wp2
 have hS:=Tu hC0 0 (.slice (some ⟨V.heap.size,0,none⟩) 6 6)
 obtain⟨Y,HY⟩:∃Y,Hid (((V.setCell ⟨W.heap.size+1,0,none⟩ (.slice (some ⟨V.heap.size,0,none⟩) 6 6)).alloc (.cells #[.int .i64 a1, .int .i64 b1, .int .i64 c1, .int .i64 d1, .int .i64 a2, .int .i64 b2, .int .i64 c2, .int .i64 d2, .int .i64 a3, .int .i64 b3, .int .i64 c3, .int .i64 d3, .int .i64 a4, .int .i64 b4, .int .i64 c4, .int .i64 d4, .int .i64 a5, .int .i64 b5, .int .i64 c5, .int .i64 d5, .int .i64 a6, .int .i64 b6, .int .i64 c6, .int .i64 d6] 190))=Y):=⟨_,YJ rfl⟩
 have hbY:Below W.heap.size W Y:=by rw[←HY.out];exact(hbW.setCell (p:=⟨W.heap.size+1,0,none⟩) (by show _≤W.heap.size+1;omega) _).alloc (by simp;omega) _
 have hN:Y.heap[V.heap.size]? =some (.cells #[.int .i64 a1, .int .i64 b1, .int .i64 c1, .int .i64 d1, .int .i64 a2, .int .i64 b2, .int .i64 c2, .int .i64 d2, .int .i64 a3, .int .i64 b3, .int .i64 c3, .int .i64 d3, .int .i64 a4, .int .i64 b4, .int .i64 c4, .int .i64 d4, .int .i64 a5, .int .i64 b5, .int .i64 c5, .int .i64 d5, .int .i64 a6, .int .i64 b6, .int .i64 c6, .int .i64 d6] 190 (0,0)):=by rw[←HY.out];exact ai (by simp)
 have hr:Y.cell? ⟨W.heap.size+1,0,none⟩=some (.slice (some ⟨V.heap.size,0,none⟩) 6 6):=by rw[←HY.out];exact(bq ((aB (by simp;omega)).trans hS) 0).trans rfl
 rw[HY.out]
 refine bodyPost_ret (v:= .agg #[.slice (some ⟨V.heap.size,0,none⟩) 6 6]) (by simp[results,Tryz.results183,go_sem,hr]) rfl ⟨_,rfl,hbY,_,6,6,rfl,by rw[←HBx.out];rfl,qaA _,fun _=>⟨V.heap.size,0,rfl, ?_⟩⟩
 rw[←HBx.out]
 intro i hi
 have cs:=fun j=>bq hN j
 match i,hi with
 |0,_=>exact⟨(cs 0).trans rfl,(cs 1).trans rfl,(cs 2).trans rfl,(cs 3).trans rfl⟩
 |1,_=>exact⟨(cs 4).trans rfl,(cs 5).trans rfl,(cs 6).trans rfl,(cs 7).trans rfl⟩
 |2,_=>exact⟨(cs 8).trans rfl,(cs 9).trans rfl,(cs 10).trans rfl,(cs 11).trans rfl⟩
 |3,_=>exact⟨(cs 12).trans rfl,(cs 13).trans rfl,(cs 14).trans rfl,(cs 15).trans rfl⟩
 |4,_=>exact⟨(cs 16).trans rfl,(cs 17).trans rfl,(cs 18).trans rfl,(cs 19).trans rfl⟩
 |5,_=>exact⟨(cs 20).trans rfl,(cs 21).trans rfl,(cs 22).trans rfl,(cs 23).trans rfl⟩
end
section
section
variable {α:Type} (le:α→α→Bool)
def mgF:Nat→List α→List α→List α
 |0,xs,ys=>xs++ys
 |_+1,[],ys=>ys
 |_+1,xs,[]=>xs
 |f+1,x::xs,y::ys=>if le x y then x::mgF f xs (y::ys)else y::mgF f (x::xs) ys
theorem rR:∀(f:Nat) (xs ys:List α),xs.length+ys.length≤f→List.merge xs ys le=mgF le f xs ys
 |0,xs,ys,h=>by
  obtain rfl:xs=[]:=List.length_eq_zero_iff.1 (by omega)
  obtain rfl:ys=[]:=List.length_eq_zero_iff.1 (by omega)
  simp[mgF]
 |f+1,[],ys,_=>by simp[mgF]
 |f+1,x::xs,[],_=>by simp[mgF]
 |f+1,x::xs,y::ys,h=>by
  rw[List.cons_merge_cons]
  simp only[mgF]
  split
  ·rw[rR f xs (y::ys) (by simp at h ⊢;omega)]
  ·rw[rR f (x::xs) ys (by simp at h ⊢;omega)]
def msF:Nat→List α→List α
 |0,l=>l
 |_+1,[]=>[]
 |_+1,[a]=>[a]
 |f+1,a::b::xs=>let l:=a::b::xs;mgF le l.length (msF f (l.take ((l.length+1) / 2))) (msF f (l.drop ((l.length+1) / 2)))
theorem lL:∀(f:Nat) (l:List α),l.length≤f→l.mergeSort le=msF le f l
 |0,l,h=>by
  obtain rfl:l=[]:=List.length_eq_zero_iff.1 (by omega)
  simp[msF]
 |f+1,[],_=>by simp[msF]
 |f+1,[a],_=>by simp[msF]
 |f+1,a::b::xs,h=>by
  rw[List.mergeSort]
  simp only[msF,List.MergeSort.Internal.splitInTwo_fst,List.MergeSort.Internal.splitInTwo_snd]
  have h1:((a::b::xs).take (((a::b::xs).length+1) / 2)).length≤f:=by simp at h ⊢;omega
  have h2:((a::b::xs).drop (((a::b::xs).length+1) / 2)).length≤f:=by simp at h ⊢;omega
  rw[←lL f _ h1, ←lL f _ h2, ←rR le _ _ _ (by simp;omega)]
end
end
section
open Go.RowKit Go.Shelf Go.Lib
set_option maxRecDepth 100000
attribute [local go_sem] Ext.cell Ext.frozen
theorem CZ (xs:List Int) (j:Nat) (h:j<xs.length):xs.getD j 0=xs[j]:=by simp[List.getD,h]
def gh (xs:List Int) (n:Int):Int:=if(∀x∈xs,0≤x∧x<n)then(if(∀i,i<xs.length→1≤i→xs.getD (i-1) 0<xs.getD i 0)then 0 else 9)else 6
theorem Kc {xs:List Int} {n:Int} {k:Nat} (hk:k<xs.length) (h:xs[k]<0∨n≤xs[k]):gh xs n=6:=by
 unfold gh
 rw[if_neg]
 intro h'
 have:=h' _ (qaB hk)
 omega
theorem Kd {xs:List Int} {n:Int} {k:Nat} (h0:∀j (h:j<xs.length),0≤xs[j]∧xs[j]<n) (hk:k<xs.length) (h1:1≤k) (h:xs[k]≤xs[k-1]'(by omega)):gh xs n=9:=by
 unfold gh
 rw[if_pos (fun x hx=>by obtain⟨j,hj,rfl⟩:=List.mem_iff_getElem.1 hx;exact h0 j hj),if_neg]
 intro h'
 have:=h' k hk h1
 rw[CZ _ _ hk,CZ _ _ (show k-1<xs.length by omega)]at this
 omega
theorem Ke {xs:List Int} {n:Int} (h0:∀j (h:j<xs.length),0≤xs[j]∧xs[j]<n) (h:∀j (h:j<xs.length),1≤j→xs[j-1]'(by omega)<xs[j]):gh xs n=0:=by
 unfold gh
 rw[if_pos (fun x hx=>by obtain⟨j,hj,rfl⟩:=List.mem_iff_getElem.1 hx;exact h0 j hj),if_pos]
 intro i hi h1
 rw[CZ _ _ hi,CZ _ _ (show i-1<xs.length by omega)]
 exact h i hi h1
theorem En (xs:List Int) (v:Value) (m:Int) (W:World) (hl:xs.length≤1000000) (hv:Ints W v xs):
  Calls Tryz.prog 52 #[v, .int .i64 m] W (Ret W (.int .i64 (gh xs m))):=by
 have H6:=fun k (h:k<xs.length)=>YJ (@Kc xs m k h)
 have H9:=fun h0 k (h:k<xs.length) (h1:1≤k)=>YJ (@Kd xs m k h0 h h1)
 have H0:=YJ (@Ke xs m)
 obtain⟨a,n,c,rfl,hn,_,hi⟩:=hv
 have HX:=YJ hi
 have HN:=YJ hn
 clear hi hn
 generalize gh xs m=res at*
 go_enter Tryz.func52,Tryz.ntmps52
 go_wp2
 go_loopw [10] (fun x wr=>∃k:Nat,k≤n∧x= .int .i64 k∧Below W.heap.size W wr∧Hid (∀j (h:j<xs.length),j<k→0≤xs[j]∧xs[j]<m)) (fun x _=>n-(intOf x).toNat)
 case atStart=>exact⟨0,by omega,rfl,bel,YJ (fun j _ h=>by omega)⟩
 case round=>
  obtain⟨k,hk,rfl,hb,Hd⟩:=hrel
  by_cases hlt:k<n
  ·have g1:(k:Int)<(n:Int):=by omega
   have g2:(0:Int)≤(k:Int):=by omega
   have hil:k<xs.length:=by have:=HN.out;omega
   obtain⟨b,off,rfl,hi4⟩:=HX.out (by omega)
   have e0:=ab hb (hi4 k hil)
   have ze:=qaC wr _ e0
   simp only at ze
   have HK:=YJ (H6 k hil).out
   have Hst:Hid (0≤xs[k]∧xs[k]<m→∀j (h:j<xs.length),j<k+1→0≤xs[j]∧xs[j]<m):=YJ (fun h j hj hji=>by
    by_cases e:j=k
    ·subst e;exact h
    ·exact Hd.out j hj (by omega))
   clear HX H6 H9 H0 hi4 Hd
   generalize xs[k]=y at*
   by_cases y0:y<0
   ·have hr:=HK.out (.inl y0)
    subst hr
    go_wp2
    go_ret
    exact⟨by trivial,bel⟩
   ·by_cases y1:m≤y
    ·have hr:=HK.out (.inr y1)
     subst hr
     go_wp2
     go_ret
     exact⟨by trivial,bel⟩
    ·go_wp2
     go_roundw
     case rel=>exact⟨k+1,by omega,by go_num,bel,YJ (Hst.out ⟨by omega,by omega⟩)⟩
     simp[intOf];try omega
  ·obtain rfl:k=n:=by omega
   have Hd2:Hid (∀j (h:j<xs.length),0≤xs[j]∧xs[j]<m):=YJ (fun j h=>Hd.out j h (by have:=HN.out;omega))
   have H9b:=fun k (h:k<xs.length) (h1:1≤k)=>YJ (H9 Hd2.out k h h1).out
   have H0b:=YJ (H0.out Hd2.out)
   clear H6 H9 H0 Hd Hd2
   go_wp2
   go_loopw [7] (fun x ww=>∃i:Nat,1≤i∧i≤k+1∧x= .int .i64 i∧Below W.heap.size W ww∧Hid (∀j (h:j<xs.length),j<i→1≤j→xs[j-1]'(by omega)<xs[j])) (fun x _=>k+1-(intOf x).toNat)
   case atStart=>exact⟨1,by omega,by omega,rfl,bel,YJ (fun j _ h h1=>by omega)⟩
   case round=>
    obtain⟨i,hi1,hik,rfl,hbw,Hd⟩:=hrel
    by_cases hin:i<k
    ·have g1:(i:Int)<(k:Int):=by omega
     have g2:(0:Int)≤(i:Int):=by omega
     have g3:(0:Int)≤(i:Int)-1:=by omega
     have hil:i<xs.length:=by have:=HN.out;omega
     obtain⟨b,off,rfl,hi4⟩:=HX.out (by omega)
     have e0:=ab hbw (hi4 i hil)
     have e1:=ab hbw (hi4 (i-1) (by omega))
     have ez:((i:Int)-1).toNat=i-1:=by omega
     have ez2:(i:Int)-1=((i-1:Nat):Int):=by omega
     have g5:i-1<k:=by omega
     have g6:(i:Int)-1<(k:Int):=by omega
     have ze:=qaC _ _ e0
     have bw2:=fun(u:Ext _)=>fB hbw u.below
     simp only at ze
     have HK:=YJ (H9b i hil hi1).out
     have Hst:Hid (xs[i-1]'(by omega)<xs[i]→∀j (h:j<xs.length),j<i+1→1≤j→xs[j-1]'(by omega)<xs[j]):=YJ (fun h j hj hji h1=>by
      by_cases e:j=i
      ·subst e;exact h
      ·exact Hd.out j hj (by omega) h1)
     clear HX H9b H0b hi4 Hd
     generalize xs[i]=y at*
     generalize xs[i-1]'(by omega)=z at*
     by_cases hyz:y≤z
     ·have hr:=HK.out hyz
      subst hr
      go_wp2
      have q5:IntKind.i64.wrap ((i-1:Nat):Int)=((i-1:Nat):Int):=IntWalk.i64_in _ (by have:=HN.out;omega)
      refine px (C:=fun w'=>∃u:Ext _,w'=u.val) [] [0,1,2,3,4,5,6,7,8] 9 [] (by kernel_rfl) (by kernel_rfl) ⟨Ext.drew,rfl⟩ ?_
      simp only[oas]
      repeat(refine zd (fun K' hK'=> ?_);go_simp;refine hK' _ ?_;clear hK' K')
      refine lG ?_
      repeat(first|go_big_quiet_step (fail)|quiet_step (fail))
      refine wpQuiet_nil ?_
      rintro _ ⟨u,rfl⟩
      have hbu:=bw2 u
      iterate 1 (refine wpList_step (fun K hK=> ?_);go_simp;refine hK _ _ ?_;clear hK K)
      refine NoPanic.normal ?_
      go_wp2
      go_ret
      exact⟨by trivial,hbu⟩
     ·go_wp2
      have q5:IntKind.i64.wrap ((i-1:Nat):Int)=((i-1:Nat):Int):=IntWalk.i64_in _ (by have:=HN.out;omega)
      refine px (C:=fun w'=>∃u:Ext _,w'=u.val) [] [0,1,2,3,4,5,6,7,8] 9 [] (by kernel_rfl) (by kernel_rfl) ⟨Ext.drew,rfl⟩ ?_
      simp only[oas]
      repeat(refine zd (fun K' hK'=> ?_);go_simp;refine hK' _ ?_;clear hK' K')
      refine lG ?_
      repeat(first|go_big_quiet_step (fail)|quiet_step (fail))
      refine wpQuiet_nil ?_
      rintro _ ⟨u,rfl⟩
      have hbu:=bw2 u
      iterate 1 (refine wpList_step (fun K hK=> ?_);go_simp;refine hK _ _ ?_;clear hK K)
      refine NoPanic.normal ?_
      go_wp2
      go_roundw
      case rel=>exact⟨i+1,by omega,by omega,by go_num,hbu,YJ (Hst.out (by omega))⟩
      simp[intOf];try omega
    ·have g1:¬(i:Int)<(k:Int):=by omega
     have hr:=H0b.out (fun j h h1=>Hd.out j h (by have:=HN.out;omega) h1)
     subst hr
     go_wp2
     go_ret
     exact⟨by trivial,bel⟩
end
end Go.Proofs.YtffbilcjhlncfaaGreatDoor
