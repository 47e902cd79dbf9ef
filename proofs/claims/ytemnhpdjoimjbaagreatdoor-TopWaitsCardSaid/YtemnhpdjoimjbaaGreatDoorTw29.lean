import Derived.Test.YtemnhpdjoimjbaaGreatDoorTw28
import Derived.StillTailTactics
namespace Go.Proofs.YtemnhpdjoimjbaaGreatDoor
section
open Go.RowKit Top
set_option linter.unusedVariables false
theorem pol_get : ∀(L:List Pol) (i k:Nat) (h:i<L.length),k<4→(L.flatMap polEnc)[4*i+k]? =(polEnc L[i])[k]?
 |[],i,k,h,_=>by simp at h
 |x::L,0,k,h,hk=>by
   rw[List.flatMap_cons,Nat.mul_zero,Nat.zero_add,List.getElem?_append_left (by simpa [polEnc]using hk)]
   rfl
 |x::L,i+1,k,h,hk=>by
   rw[List.flatMap_cons,List.getElem?_append_right (by simp [polEnc];omega)]
   have e:4*(i+1)+k-(polEnc x).length=4*i+k:=by simp [polEnc];omega
   rw[e,pol_get L i k (by simpa using h) hk]
   simp
theorem pol_at {w:World} {a:Option Addr} {n c:Nat} {L:List Pol} (h:PolsAt w (.slice a n c) L) (k:Nat) (hk:k<L.length):n=L.length∧ ∃b off,a=some ⟨b,off,none⟩∧w.cell? ⟨b,off+k*4,none⟩=some (.int .u8 (L[k].kind:Nat)):=by
 obtain⟨h1,h2,h3,h4⟩:=Row.cells h
 obtain⟨b,off,h5,h6⟩:=h4 (by omega)
 refine⟨h1,b,off,h5,?_⟩
 have:=h6 (4*k+0) _ (pol_get L k 0 hk (by decide))
 rwa [show off+(4*k+0)=off+k*4 by omega]at this
set_option maxHeartbeats 2000000 in
set_option maxRecDepth 100000 in
theorem idle_book (list:List Pol) (lv:Value) (c:Cell) (kv hv:Value) (now:Int) (w:World) (hl:PolsAt w lv list) (hk: ∃a n c,kv= .slice a n c) (hh:HeldAt w hv c.held) (hf:c.held.length≤64) (p0:0≤c.pol) (p1:c.pol<list.length):
   Calls Tryz.prog 95 #[lv,.agg (cellA c kv hv),.int .i64 now] w fun e w'=>e= .returned (.bool (idleF list c now))∧Below w.heap.size w w':=by
 obtain⟨ka,kn,kc,rfl⟩:=hk
 obtain⟨ha,hc,rfl⟩: ∃a c',hv= .slice a c.held.length c':=by obtain⟨_,a,c',e,_⟩:=hh;exact⟨a,c',e⟩
 obtain⟨la,lc,rfl⟩: ∃a c',lv= .slice a list.length c':=by obtain⟨_,a,c',e,_⟩:=hl;exact⟨a,c',e⟩
 obtain⟨p,hp⟩: ∃p:Nat,c.pol=(p:Int):=⟨c.pol.toNat,by omega⟩
 have hpl:p<list.length:=by omega
 obtain⟨_,b,off,rfl,hc0⟩:=pol_at hl p hpl
 have hbl:b<w.heap.size:=World.block_lt_of_cell? _ _ hc0
 have hkd:list.getD c.pol.toNat default=list[p]:=by rw[hp,Int.toNat_natCast,List.getD_eq_getElem?_getD,List.getElem?_eq_getElem hpl];rfl
 have hI:idleF list c now=if list[p].kind=2 then c.held.isEmpty else decide (c.tat≤now):=by unfold idleF;rw[hkd]
 rw[hI]
 obtain⟨cp,ck,ct,ch⟩:=c
 dsimp only at hp hf
 subst hp
 clear hI hkd hl hh p0 p1
 generalize list[p].kind=kd at*
 by_cases hz:kd=2
 · subst hz
   rw[if_pos rfl]
   go_enter Tryz.func95,Tryz.ntmps95
   go_wp2_with fail
   exact bodyPost_ret (v:= .bool ch.isEmpty) (by cases ch<;>simp [results,Tryz.results95,go_sem]<;>omega) rfl ⟨rfl,below_allocs [_] w⟩
 · rw[if_neg hz]
   have hz': ¬(kd:Int)=2:=by omega
   go_enter Tryz.func95,Tryz.ntmps95
   go_wp2_with fail
   exact bodyPost_ret (v:= .bool (decide (ct≤now))) (by simp [results,Tryz.results95,go_sem]) rfl ⟨rfl,below_allocs [_] w⟩
set_option maxHeartbeats 2000000 in
set_option maxRecDepth 100000 in
theorem evict_ask (E:Env) (bx bn:Nat) (c:Cell) (kv hv lv:Value) (now:Int) (w:World) (hx:Bx w bx 107 #[P E.x]) (hcall:w.cell? ⟨E.x,4,none⟩=some (P E.A.K)) (hcore:w.cell? ⟨E.A.K,0,none⟩=some lv) (hl:PolsAt w lv E.A.list) (hn:Bx w bn 2 #[.int .i64 now]) (hk: ∃a n c,kv= .slice a n c) (hh:HeldAt w hv c.held) (hf:c.held.length≤64) (p0:0≤c.pol) (p1:c.pol<E.A.list.length) (hE:E.x<w.heap.size) (hK:E.A.K<w.heap.size):
   Calls Tryz.prog 94 #[.agg (cellA c kv hv),P bx,P bn] w fun e w'=>e= .returned (.bool (idleF E.A.list c now))∧Below w.heap.size w w':=by
 obtain⟨ka,kn,kc,rfl⟩:=hk
 obtain⟨ha,hc,rfl⟩: ∃a c',hv= .slice a c.held.length c':=by obtain⟨_,a,c',e,_⟩:=hh;exact⟨a,c',e⟩
 obtain⟨la,lc,rfl⟩: ∃a c',lv= .slice a E.A.list.length c':=by obtain⟨_,a,c',e,_⟩:=hl;exact⟨a,c',e⟩
 have x0:=hx.at0;have n0:=hn.at0
 have hbx:=hx.lt;have hbn:=hn.lt
 have Ki:Hid (∀W:World,Below w.heap.size w W→Calls Tryz.prog 95 #[.slice la E.A.list.length lc,.agg (cellA c (.slice ka kn kc) (.slice ha c.held.length hc)),.int .i64 now] W fun e w'=>e= .returned (.bool (idleF E.A.list c now))∧Below W.heap.size W w'):=fun W hb=>idle_book E.A.list _ c _ _ now W (hl.keep (fr0 hb)) ⟨_,_,_,rfl⟩ (hh.keep (fr0 hb)) hf p0 p1
 clear hl hh hf p0 p1 hx hn
 generalize idleF E.A.list c now=ans at*
 go_enter Tryz.func94,Tryz.ntmps94
 go_wp2_with fail
 refine wp_name (fun u=>Below w.heap.size w u∧Bx u w.heap.size 100 (cellA c (.slice ka kn kc) (.slice ha c.held.length hc))∧u.cell? ⟨bx,0,none⟩=some (P E.x)∧u.cell? ⟨E.x,4,none⟩=some (P E.A.K)∧u.cell? ⟨E.A.K,0,none⟩=some (.slice la E.A.list.length lc)∧u.cell? ⟨bn,0,none⟩=some (.int .i64 now)) ⟨below_allocs [_] w,Bx.new _ _ _,cell_later (below_allocs [_] w) x0,cell_later (below_allocs [_] w) hcall,cell_later (below_allocs [_] w) hcore,cell_later (below_allocs [_] w) n0⟩ ?_
 rintro y ⟨hby,hcy,y0,y1,y2,y3⟩
 have c0:=hcy.cell 0;have c1:=hcy.cell 1;have c2:=hcy.cell 2;have c3:=hcy.cell 3
 have Hby:=Lib.hid hby
 clear hby hcy x0 n0 hcall hcore
 go_still_tail 9,(by kernel_rfl)
 change wpList _ _ _ _ _ y.drew
 go_wp2_with (go_at_call 95;(with_reducible refine(Ki.out _ Hby.out.drew).mono ?_);rintro e w2 ⟨rfl,hb2⟩;have Hb2:=Lib.hid hb2;clear hb2)
 exact bodyPost_ret (v:= .bool ans) (by simp [results,Tryz.results94,go_sem]) rfl ⟨rfl,Hby.out.drew.trans (Hb2.out.mono Hby.out.drew.size)⟩
end
section
open Go.RowKit Top
set_option linter.unusedVariables false
def firstGo (q:CV→Bool) (xs:List CV):Nat:=(xs.takeWhile fun x=> !q x).length
theorem first_take {q:CV→Bool}: ∀ {xs:List CV} {k:Nat},k≤xs.length→(∀j (h:j<k) (h':j<xs.length),q xs[j]=false)→k≤firstGo q xs
 |[],k,h,_=>by simp at h;omega
 |x::xs,0,_,_=>Nat.zero_le _
 |x::xs,k+1,h,hq=>by
   have h0:=hq 0 (by omega) (by simp)
   have ih:=first_take (q:=q) (xs:=xs) (k:=k) (by simpa using h) (fun j hj hj'=>by have:=hq (j+1) (by omega) (by simpa using hj');simpa using this)
   unfold firstGo at ih ⊢
   rw[List.takeWhile_cons]
   simp only[List.getElem_cons_zero]at h0
   rw[h0]
   simpa using ih
theorem first_at {q:CV→Bool}: ∀ {xs:List CV} {k:Nat} (h:k<xs.length),(∀j (h:j<k) (h':j<xs.length),q xs[j]=false)→q xs[k]=true→firstGo q xs=k
 |[],k,h,_,_=>by simp at h
 |x::xs,0,_,_,hk=>by
   simp only[List.getElem_cons_zero]at hk
   unfold firstGo
   rw[List.takeWhile_cons,hk]
   rfl
 |x::xs,k+1,h,hq,hk=>by
   have h0:=hq 0 (by omega) (by simp)
   simp only[List.getElem_cons_zero]at h0
   have ih:=first_at (q:=q) (xs:=xs) (k:=k) (by simpa using h) (fun j hj hj'=>by have:=hq (j+1) (by omega) (by simpa using hj');simpa using this) (by simpa using hk)
   unfold firstGo at ih ⊢
   rw[List.takeWhile_cons,h0]
   simpa using ih
set_option maxHeartbeats 2000000 in
set_option maxRecDepth 100000 in
theorem index_any (xs:List CV) (q:CV→Bool) (fv:FuncId) (lb:Array Value) (base:Nat) (a:Option Addr) (c:Nat) (w:World) (hef: ∀args w,(callFunc fv args).run Tryz.prog w= .ok (.enter fv args) w) (hc2:xs.length≤1048576) (hcell: ∀W,Below w.heap.size w W→0<xs.length→ ∃b off,a=some ⟨b,off,none⟩∧ ∀j u,(encs xs)[j]? =some u→W.cell? ⟨b,off+j,none⟩=some u) (hcc:xs.length≤c)
   (hsl: ∀x∈xs,(∃a n c,x.kv= .slice a n c)∧ ∃a n c,x.hv= .slice a n c)
   (hq: ∀x∈xs,∀W,Below base w W→Calls Tryz.prog fv (#[.agg (cellA x.c x.kv x.hv)]++lb) W fun e w'=>e= .returned (.bool (q x))∧Below W.heap.size W w') (hB:base≤w.heap.size) (r:Int) (hr:r=if firstGo q xs=xs.length then(-1:Int)else((firstGo q xs:Nat):Int)):
   Calls Tryz.prog 129 #[.slice a xs.length c,.func (.func fv) #[] lb] w fun e w'=>e= .returned (.int .i64 r)∧Below w.heap.size w w':=by
 have Hr:=Lib.hid hr
 clear hr
 have Hcell:=Lib.hid hcell;have Hq:=Lib.hid hq;have Hsl:=Lib.hid hsl
 clear hcell hq hsl
 go_enter Tryz.func129,Tryz.ntmps129
 go_wp2
 go_loopw [5,8] (fun _ i wr=> ∃k:Nat,i= .int .i64 k∧k≤xs.length∧(∀j (h:j<k) (h':j<xs.length),q xs[j]=false)∧Below w.heap.size w wr) (fun _ i _=>xs.length-(intOf i).toNat)
 case atStart=>exact⟨0,rfl,Nat.zero_le _,fun j h=>absurd h (by omega),Below.refl _ _⟩
 case round=>
   obtain⟨k,rfl,hk,hno,hbel⟩:=hrel
   have Hbel:=Lib.hid hbel;have Hno:=Lib.hid hno
   clear hbel hno
   by_cases hA:k<xs.length
   · obtain⟨b,off,rfl,hcl⟩:=Hcell.out wr Hbel.out (by omega)
     obtain⟨x0,x1,x2,x3⟩:=cell_at hcl k hA
     have KQ:=Lib.hid (Hq.out xs[k] (List.getElem_mem hA))
     obtain⟨⟨qa,qn,qc,e1⟩,qa',qn',qc',e2⟩:=Hsl.out xs[k] (List.getElem_mem hA)
     rw[e1]at x1
     rw[e2]at x3
     rw[e1,e2]at KQ
     have Hat:=Lib.hid (fun h=>first_at (q:=q) hA Hno.out h)
     have Hnx:Hid (q xs[k]=false→ ∀j (h:j<k+1) (h':j<xs.length),q xs[j]=false):=fun h j hj hj'=>by
       by_cases e:j=k
       · subst e;exact h
       · exact Hno.out j (by omega) hj'
     clear hcl e1 e2
     generalize q xs[k]=ans at*
     generalize xs[k].c=cc at*
     obtain⟨pol,key,tat,held⟩:=cc
     cases ans with
     |true=>
       have hF:=Hat.out rfl
       have hne: ¬firstGo q xs=xs.length:=by omega
       have Hres:=Lib.hid (show r=(k:Nat)by rw[Hr.out,if_neg hne,hF])
       clear hF hne
       go_wp2_with (go_at_fn fv;(refine (KQ.out wr (Hbel.out.mono hB)).mono ?_);rintro e w2 ⟨rfl,hb2⟩;have Hb2:=Lib.hid hb2;clear hb2)
       exact bodyPost_ret (v:= .int .i64 r) (by rw[Hres.out];simp [results,Tryz.results129,go_sem]) rfl ⟨rfl,Hbel.out.trans (Hb2.out.mono Hbel.out.size)⟩
     |false=>
       go_wp2_with (go_at_fn fv;(refine (KQ.out wr (Hbel.out.mono hB)).mono ?_);rintro e w2 ⟨rfl,hb2⟩;have Hb2:=Lib.hid hb2;clear hb2)
       go_roundw
       case rel=>exact⟨k+1,by go_num,by omega,Hnx.out trivial,Hbel.out.trans (Hb2.out.mono Hbel.out.size)⟩
       case measure=>simp [intOf];omega
   · obtain rfl:k=xs.length:=by omega
     have hF:firstGo q xs=xs.length:=Nat.le_antisymm (by unfold firstGo;exact(List.takeWhile_prefix _).length_le) (first_take (Nat.le_refl _) Hno.out)
     have Hres:=Lib.hid (show r= -1 by rw[Hr.out,if_pos hF])
     clear hF
     go_wp2
     exact bodyPost_ret (v:= .int .i64 r) (by rw[Hres.out];simp [results,Tryz.results129,go_sem]) rfl ⟨rfl,Hbel.out⟩
end
section
open Go.RowKit Top
set_option linter.unusedVariables false
theorem run_clear_row {P:Program} (w:World) (tS ty e:TypeId) (z:Value) (ht:P.underlying tS=some (.slice e)) (hz: ∀w,(zeroValue e).run P w= .ok z w) (k:Nat) (hk:z.cells.size=k) (hall: ∀n,∀u∈(Builtin.zeroCells z.cells n).toList,u.oneCell'=true) (g o n c:Nat) (cur:Array Value) (t:TypeId) (hg:w.heap[g]? =some (.cells cur t (0,0))) (hfit:o+n*k≤cur.size):
   ∃W cur',(Builtin.clear_ #[tS] ty #[.slice (some ⟨g,o,none⟩) n c]).run P w= .ok (.tuple #[]) W∧W.heap[g]? =some (.cells cur' t (0,0))∧cur'.size=cur.size∧(∀m,m<o→cur'[m]? =cur[m]?)∧ ∀B w0,B≤g→Below B w0 w→Below B w0 W:=by
 cases n with
 |zero=>
   refine⟨w,cur,?_,hg,rfl,fun _ _=>rfl,fun _ _ _ h=>h⟩
   simp [Builtin.clear_,run_underlying ht]
 |succ n=>
   have hsz:(Builtin.zeroCells z.cells (n+1)).toList.length=(n+1)*k:=by rw[Array.length_toList,size_zeroCells,hk]
   have hst:=run_storeCells_at P g o t (Builtin.zeroCells z.cells (n+1)).toList 0 cur w hg (by rw[hsz];simpa using hfit) (hall (n+1))
   obtain⟨R,hR⟩: ∃R,R=(cur.toList.take (o+0)++(Builtin.zeroCells z.cells (n+1)).toList++cur.toList.drop (o+0+(Builtin.zeroCells z.cells (n+1)).toList.length)).toArray:=⟨_,rfl⟩
   rw[← hR]at hst
   refine⟨w.setRow g R,R,?_,setRow_heap w g cur R t _ hg,?_,?_,fun B w0 hB hb=>below_setRow hb hB _⟩
   · simp [Builtin.clear_,run_underlying ht,hz,hst]
   · rw[hR]
     simp only[List.size_toArray,List.length_append,List.length_take,List.length_drop,hsz,Array.length_toList]
     omega
   · intro m hm
     rw[hR]
     simp only[List.getElem?_toArray,Nat.add_zero]
     rw[List.append_assoc,List.getElem?_append_left (by rw[List.length_take,Array.length_toList];omega),List.getElem?_take,if_pos hm]
     simp
def Pf (cur:Array Value) (ys:List CV):Prop:= ∀(m:Nat) (u:Value),(encs ys)[m]? =some u→cur[m]? =some u
theorem pf_push {cur:Array Value} {ys:List CV} {i:Nat} (x:CV) (h:Pf cur ys) (hi:ys.length=i) (hs:i*4+4≤cur.size) (a0 a1 a2 a3:Value) (hx:x.enc=[a0,a1,a2,a3]):
   Pf ((((cur.setIfInBounds (i*4) a0).setIfInBounds (i*4+1) a1).setIfInBounds (i*4+2) a2).setIfInBounds (i*4+3) a3) (ys++[x]):=by
 intro m u hm
 rw[encs_append,List.getElem?_append,encs_length,hi]at hm
 simp only[Array.getElem?_setIfInBounds,Array.size_setIfInBounds]
 split at hm
 · rename_i hlt
   rw[if_neg (by omega),if_neg (by omega),if_neg (by omega),if_neg (by omega)]
   exact h m u hm
 · rename_i hge
   have he:encs [x]=[a0,a1,a2,a3]:=by rw[← hx];simp [encs]
   rw[he]at hm
   have hlt:=(List.getElem?_eq_some_iff.1 hm).1
   simp only[List.length_cons,List.length_nil]at hlt
   have h4:m-i*4=0∨m-i*4=1∨m-i*4=2∨m-i*4=3:=by omega
   rcases h4 with h4|h4|h4|h4<;>rw[h4]at hm<;>simp at hm<;>subst hm
   · rw[if_neg (by omega),if_neg (by omega),if_neg (by omega),if_pos (by omega),if_pos (by omega)]
   · rw[if_neg (by omega),if_neg (by omega),if_pos (by omega),if_pos (by omega)]
   · rw[if_neg (by omega),if_pos (by omega),if_pos (by omega)]
   · rw[if_pos (by omega),if_pos (by omega)]
theorem rest_push {cur:Array Value} {i m:Nat} (a0 a1 a2 a3:Value) (hm:i*4+4≤m):
   ((((cur.setIfInBounds (i*4) a0).setIfInBounds (i*4+1) a1).setIfInBounds (i*4+2) a2).setIfInBounds (i*4+3) a3)[m]? =cur[m]? :=by
 simp only[Array.getElem?_setIfInBounds,Array.size_setIfInBounds]
 rw[if_neg (by omega),if_neg (by omega),if_neg (by omega),if_neg (by omega)]
theorem first_cons (q:CV→Bool) (x:CV) (xs:List CV):firstGo q (x::xs)=if q x then 0 else firstGo q xs+1:=by
 unfold firstGo
 rw[List.takeWhile_cons]
 cases q x<;>rfl
theorem first_lt {q:CV→Bool}: ∀ {xs:List CV} {k:Nat} (_:firstGo q xs=k) (h:k<xs.length),(∀j (h:j<k) (h':j<xs.length),q xs[j]=false)∧q xs[k]=true
 |[],k,_,h=>by simp at h
 |x::xs,k,hk,h=>by
   rw[first_cons]at hk
   cases hx:q x with
   |true=>
     rw[hx,if_pos rfl]at hk
     subst hk
     exact⟨fun j hj=>absurd hj (by omega),by simpa using hx⟩
   |false=>
     rw[hx,if_neg (by simp)]at hk
     subst hk
     have:=first_lt (q:=q) (xs:=xs) rfl (by simpa using h)
     refine⟨fun j hj hj'=> ?_,by simpa using this.2⟩
     cases j with
     |zero=>simpa using hx
     |succ j=>simpa using this.1 j (by omega) (by simpa using hj')
theorem filter_first {q:CV→Bool} {xs:List CV} {k:Nat} (h: ∀j (h:j<k) (h':j<xs.length),q xs[j]=false):(xs.take k).filter (fun x=> !q x)=xs.take k:=by
 rw[List.filter_eq_self]
 intro x hx
 obtain⟨j,hj,rfl⟩:=List.getElem_of_mem hx
 rw[List.length_take]at hj
 rw[List.getElem_take,h j (by omega) (by omega)]
 rfl
structure DelAt (w:World) (g cap:Nat) (xs:List CV) (q:CV→Bool) (i j:Nat):Prop where
 cur: ∃cur:Array Value,Bx w g 100 cur∧cur.size=cap*4∧Pf cur ((xs.take j).filter fun x=> !q x)∧ ∀m u,j*4≤m→(encs xs)[m]? =some u→cur[m]? =some u
 i:i=((xs.take j).filter fun x=> !q x).length
theorem DelAt.le {w:World} {g cap:Nat} {xs:List CV} {q:CV→Bool} {i j:Nat} (h:DelAt w g cap xs q i j):i≤j:=by
 rw[h.i]
 exact Nat.le_trans (List.length_filter_le _ _) (by rw[List.length_take];omega)
theorem DelAt.below {w w':World} {g cap:Nat} {xs:List CV} {q:CV→Bool} {i j:Nat} (h:DelAt w g cap xs q i j) (hb:Below w.heap.size w w'):DelAt w' g cap xs q i j:=by
 obtain⟨cur,h1,h2⟩:=h.cur
 exact⟨⟨cur,h1.below hb h1.lt,h2⟩,h.i⟩
theorem DelAt.skip {w:World} {g cap:Nat} {xs:List CV} {q:CV→Bool} {i j:Nat} (h:DelAt w g cap xs q i j) (hj:j<xs.length) (hq:q xs[j]=true):DelAt w g cap xs q i (j+1):=by
 have e:(xs.take (j+1)).filter (fun x=> !q x)=(xs.take j).filter fun x=> !q x:=by
   rw[filter_snoc xs _ j hj,hq]
   simp
 obtain⟨cur,h1,h2,h3,h4⟩:=h.cur
 exact⟨⟨cur,h1,h2,by rw[e];exact h3,fun m u hm=>h4 m u (by omega)⟩,by rw[e];exact h.i⟩
theorem DelAt.push {w:World} {g cap:Nat} {xs:List CV} {q:CV→Bool} {i j:Nat} (h:DelAt w g cap xs q i j) (hj:j<xs.length) (hq:q xs[j]=false) (hcap:xs.length≤cap) (a0 a1 a2 a3:Value) (hx:xs[j].enc=[a0,a1,a2,a3]):
   DelAt ((((w.setCell ⟨g,i*4,none⟩ a0).setCell ⟨g,i*4+1,none⟩ a1).setCell ⟨g,i*4+2,none⟩ a2).setCell ⟨g,i*4+3,none⟩ a3) g cap xs q (i+1) (j+1):=by
 have hle:=h.le
 have e:(xs.take (j+1)).filter (fun x=> !q x)=((xs.take j).filter fun x=> !q x)++[xs[j]]:=by
   rw[filter_snoc xs _ j hj,hq]
   simp
 obtain⟨cur,h1,h2,h3,h4⟩:=h.cur
 refine⟨⟨_,(((h1.setCell _ _).setCell _ _).setCell _ _).setCell _ _,by simpa using h2,?_,fun m u hm hu=> ?_⟩,?_⟩
 · rw[e];exact pf_push xs[j] h3 h.i.symm (by omega) a0 a1 a2 a3 hx
 · rw[rest_push _ _ _ _ (by omega)];exact h4 m u (by omega) hu
 · rw[e,List.length_append,←h.i];rfl
theorem DelAt.cells {w:World} {g cap:Nat} {xs:List CV} {q:CV→Bool} {i j:Nat} (h:DelAt w g cap xs q i j) (hj:j<xs.length) (hcap:xs.length≤cap):
   (w.cell? ⟨g,j*4,none⟩=some (.int .i64 xs[j].c.pol)∧w.cell? ⟨g,j*4+1,none⟩=some xs[j].kv∧w.cell? ⟨g,j*4+2,none⟩=some (.int .i64 xs[j].c.tat)∧w.cell? ⟨g,j*4+3,none⟩=some xs[j].hv)∧
   (∃u0 u1 u2 u3,w.cell? ⟨g,i*4,none⟩=some u0∧w.cell? ⟨g,i*4+1,none⟩=some u1∧w.cell? ⟨g,i*4+2,none⟩=some u2∧w.cell? ⟨g,i*4+3,none⟩=some u3)∧
   (w.frozen? ⟨g,i*4,none⟩=false∧w.frozen? ⟨g,i*4+1,none⟩=false∧w.frozen? ⟨g,i*4+2,none⟩=false∧w.frozen? ⟨g,i*4+3,none⟩=false):=by
 have hle:=h.le
 obtain⟨cur,h1,h2,h3,h4⟩:=h.cur
 have e:=fun r hr=>encs_get xs j r hj hr
 refine⟨⟨?_,?_,?_,?_⟩,row_cells4 h1 h2 (show i<cap by omega),h1.free _,h1.free _,h1.free _,h1.free _⟩
 · have:=h4 (4*j+0) _ (by omega) (e 0 (by decide));rw[h1.cell,show j*4=4*j+0 by omega];exact this
 · have:=h4 (4*j+1) _ (by omega) (e 1 (by decide));rw[h1.cell,show j*4+1=4*j+1 by omega];exact this
 · have:=h4 (4*j+2) _ (by omega) (e 2 (by decide));rw[h1.cell,show j*4+2=4*j+2 by omega];exact this
 · have:=h4 (4*j+3) _ (by omega) (e 3 (by decide));rw[h1.cell,show j*4+3=4*j+3 by omega];exact this
end
section
open Go.RowKit Top
set_option linter.unusedVariables false
theorem zero_one (n:Nat): ∀u∈(Builtin.zeroCells (Value.agg #[.int .i64 0,.slice none 0 0,.int .i64 0,.slice none 0 0]).cells n).toList,u.oneCell'=true:=by
 intro u hu
 unfold Builtin.zeroCells at hu
 simp only[Array.toList_map,List.mem_map]at hu
 obtain⟨i,_,rfl⟩:=hu
 have h:i%4=0∨i%4=1∨i%4=2∨i%4=3:=by omega
 show(#[Value.int .i64 0,.slice none 0 0,.int .i64 0,.slice none 0 0][i%4]!).oneCell'=true
 rcases h with h|h|h|h<;>rw[h]<;>rfl
set_option maxHeartbeats 4000000 in
set_option maxRecDepth 100000 in
theorem deletefunc_any (xs:List CV) (q:CV→Bool) (fv:FuncId) (lb:Array Value) (base g cap:Nat) (w:World) (hef: ∀args w,(callFunc fv args).run Tryz.prog w= .ok (.enter fv args) w) (hfew:xs.length≤1048576) (hown:w.ownsRow base 100 4 (.slice (some ⟨g,0,none⟩) xs.length cap) xs.length (encs xs))
   (hsl: ∀x∈xs,(∃a n c,x.kv= .slice a n c)∧ ∃a n c,x.hv= .slice a n c)
   (hq: ∀x∈xs,∀W,Below base w W→Calls Tryz.prog fv (#[.agg (cellA x.c x.kv x.hv)]++lb) W fun e w'=>e= .returned (.bool (q x))∧Below W.heap.size W w') (hB:base≤w.heap.size):
   Calls Tryz.prog 92 #[.slice (some ⟨g,0,none⟩) xs.length cap,.func (.func fv) #[] lb] w fun e w'=> ∃a m c,e= .returned (.slice a m c)∧m=(xs.filter fun x=> !q x).length∧Row w' 100 4 m (.slice a m c) (encs (xs.filter fun x=> !q x))∧Below base w w':=by
 have hcells:=hown.cells (g:=g) rfl
 obtain⟨cur,hbg,hg,hcap,hmax,hcs,htake⟩: ∃cur:Array Value,base≤g∧w.heap[g]? =some (.cells cur 100 (0,0))∧xs.length≤cap∧cap≤maxLen∧cur.size=cap*4∧cur.toList.take (xs.length*4)=encs xs:=by
   rcases hown.2 with ⟨e,_⟩|⟨g',cap',cur,e,h1,h2,h3,h4,h5,h6⟩
   · cases e
   · injection e with e1 e2 e3
     injection e1 with e1
     injection e1 with e1
     subst e1 e3
     exact⟨cur,h1,h2,h3,h4,h5,h6⟩
 have hcur: ∀m u,(encs xs)[m]? =some u→cur[m]? =some u:=fun m u hm=>by
   rw[← htake,List.getElem?_take]at hm
   split at hm
   · simpa using hm
   · cases hm
 have hgl:=lt_of_block hg
 obtain⟨r,hr⟩: ∃r:Int,r=if firstGo q xs=xs.length then(-1:Int)else((firstGo q xs:Nat):Int):=⟨_,rfl⟩
 have Kix:Hid (Calls Tryz.prog 129 #[.slice (some ⟨g,0,none⟩) xs.length cap,.func (.func fv) #[] lb] w fun e w'=>e= .returned (.int .i64 r)∧Below w.heap.size w w'):=
   index_any xs q fv lb base (some ⟨g,0,none⟩) cap w hef hfew (fun W hb _=>⟨g,0,rfl,fun j u hu=>by
     rw[Nat.zero_add]
     exact cell_later hb (by rw[(show Bx w g 100 cur from hg).cell];exact hcur j u hu)⟩) hcap hsl (fun x hx W hb=>hq x hx W hb) hB r hr
 by_cases hF:firstGo q xs=xs.length
 · have hr':r= -1:=by rw[hr,if_pos hF]
   have hfl:(xs.filter fun x=> !q x)=xs:=by
     have:=filter_first (q:=q) (xs:=xs) (k:=xs.length) (fun j hj hj'=>by
       refine Classical.byContradiction fun hne=> ?_
       have htw:xs.takeWhile (fun x=> !q x)=xs:=(List.takeWhile_prefix _).eq_of_length hF
       have hm:xs[j]∈xs.takeWhile (fun x=> !q x):=by rw[htw];exact List.getElem_mem hj'
       have hall:=List.all_takeWhile (p:=fun x=> !q x) (l:=xs)
       rw[List.all_eq_true]at hall
       have:=hall _ hm
       simp at this
       exact hne this)
     rwa [List.take_length]at this
   have Hres:Hid (∀w',Below w.heap.size w w'→ ∃a m c,Value.slice (some ⟨g,0,none⟩) xs.length cap= .slice a m c∧m=(xs.filter fun x=> !q x).length∧Row w' 100 4 m (.slice a m c) (encs (xs.filter fun x=> !q x))∧Below base w w'):=fun w' hb=>by
     rw[hfl]
     exact⟨_,_,_,rfl,rfl,Row.own (ownsRow_below hown hb),hb.mono hB⟩
   subst hr'
   clear hr hF hfl hq hsl hcells hown hcur hcs htake hg
   go_enter Tryz.func92,Tryz.ntmps92
   go_wp2_with (go_at_call 129;(with_reducible refine Kix.out.mono ?_);rintro e w1 ⟨rfl,hb1⟩;have Hb1:=Lib.hid hb1;clear hb1)
   obtain⟨a,m,c,e1,h2,h3,h4⟩:=Hres.out _ Hb1.out
   exact bodyPost_ret (v:= .slice (some ⟨g,0,none⟩) xs.length cap) (by simp [results,Tryz.results92,go_sem]) rfl ⟨a,m,c,by rw[e1],h2,h3,h4⟩
 · have hlt:firstGo q xs<xs.length:=Nat.lt_of_le_of_ne (by unfold firstGo;exact(List.takeWhile_prefix _).length_le) hF
   obtain⟨F,hFe⟩: ∃F,firstGo q xs=F:=⟨_,rfl⟩
   rw[hFe]at hlt hF hr
   have hr':r=(F:Nat):=by rw[hr,if_neg hF]
   obtain⟨hno,hyes⟩:=first_lt hFe hlt
   have hD0:DelAt w g cap xs q F F:=⟨⟨cur,hg,hcs,by
     rw[filter_first hno]
     intro m u hm
     refine hcur m u ?_
     have hlm:=(List.getElem?_eq_some_iff.1 hm).1
     rw[encs_length,List.length_take]at hlm
     have:=congrArg (fun l=>l[m]?) (show encs xs=encs (xs.take F)++encs (xs.drop F)by rw[← encs_append,List.take_append_drop])
     rw[this,List.getElem?_append_left (by rw[encs_length,List.length_take];omega)]
     exact hm,fun m u _ hm=>hcur m u hm⟩,by rw[filter_first hno,List.length_take];omega⟩
   have HD:=Lib.hid (hD0.skip hlt hyes)
   have Hq:=Lib.hid hq;have Hsl:=Lib.hid hsl
   unfold maxLen at hmax
   have Hcl:Hid (∀(W:World) (i:Nat),i≤xs.length→DelAt W g cap xs q i xs.length→ ∃W',(Builtin.clear_ #[64] 0 #[.slice (some ⟨g,i*4,none⟩) (xs.length-i) (cap-i)]).run Tryz.prog W= .ok (.tuple #[]) W'∧Row W' 100 4 i (.slice (some ⟨g,0,none⟩) i cap) (encs (xs.filter fun x=> !q x))∧i=(xs.filter fun x=> !q x).length∧(Below base w W→Below base w W')):=by
     intro W i hi hD
     have hieq:=hD.i
     obtain⟨cu,h1,h2,h3,_⟩:=hD.cur
     rw[List.take_length]at h3 hieq
     obtain⟨W',cu',h5,h6,h7,h8,h9⟩:=run_clear_row W 64 0 100 (.agg #[.int .i64 0,.slice none 0 0,.int .i64 0,.slice none 0 0]) Tryz.underlying64 Tryz.zeroValue100 4 rfl zero_one g (i*4) (xs.length-i) (cap-i) cu 100 h1 (by omega)
     refine⟨W',h5,⟨by rw[encs_length,hieq],_,_,rfl,by omega,by unfold maxLen;omega,fun _=>⟨g,0,cu',rfl,h6,fun j u hj=> ?_⟩⟩,hieq,fun hb=>h9 base w hbg hb⟩
     have hjl:=(List.getElem?_eq_some_iff.1 hj).1
     rw[encs_length,←hieq]at hjl
     rw[Nat.zero_add,h8 j hjl]
     exact h3 j u hj
   subst hr'
   clear hr hF hno hyes hD0 hq hsl hcells hown hcur hcs htake hg hFe
   have hwF:IntKind.i64.wrap ((F:Int)+1)=(F:Int)+1:=by rw[IntKind.wrap_i64];omega
   have hFm: ¬(F:Int)= -1:=by omega
   go_enter Tryz.func92,Tryz.ntmps92
   go_wp2_with (go_at_call 129;(with_reducible refine Kix.out.mono ?_);rintro e w1 ⟨rfl,hb1⟩;have HD1:=Lib.hid (HD.out.below hb1);have Hb1:=Lib.hid (hb1.mono hB);clear hb1)
   go_loopw [5,6,7] (fun vi vj _ wr=> ∃i j:Nat,vi= .int .i64 i∧vj= .int .i64 j∧i<j∧j≤xs.length∧DelAt wr g cap xs q i j∧Below base w wr) (fun _ vj _ _=>xs.length-(intOf vj).toNat)
   case atStart=>exact⟨F,F+1,rfl,by go_num,Nat.lt_succ_self F,hlt,HD1.out,Hb1.out⟩
   case round=>
     obtain⟨i,j,rfl,rfl,hlt',hj,hD,hbel⟩:=hrel
     have hij:=hD.le
     have HDj:=Lib.hid hD;have Hbel:=Lib.hid hbel
     clear hD hbel HD HD1 Hb1 Kix
     by_cases hA:j<xs.length
     · obtain⟨⟨x0,x1,x2,x3⟩,_,_⟩:=HDj.out.cells hA hcap
       have KQ:=Lib.hid (Hq.out xs[j] (List.getElem_mem hA))
       obtain⟨⟨qa,qn,qc,e1⟩,qa',qn',qc',e2⟩:=Hsl.out xs[j] (List.getElem_mem hA)
       have Hskip:=Lib.hid (fun (W:World) (hD:DelAt W g cap xs q i j) (h:q xs[j]=true)=>hD.skip hA h)
       have Hpush:=Lib.hid (fun (W:World) (hD:DelAt W g cap xs q i j) (h:q xs[j]=false) (a0 a1 a2 a3:Value) (hx:xs[j].enc=[a0,a1,a2,a3])=>hD.push hA h hcap a0 a1 a2 a3 hx)
       have Hcel:=Lib.hid (fun (W:World) (hD:DelAt W g cap xs q i j)=>(hD.cells hA hcap).2)
       rw[e1]at x1
       rw[e2]at x3
       unfold CV.enc at Hpush
       rw[e1,e2]at KQ Hpush
       clear e1 e2
       generalize q xs[j]=ans at*
       generalize xs[j].c=cc at*
       obtain⟨pol,key,tat,held⟩:=cc
       have hsz:base≤wr.heap.size:=Nat.le_trans hB Hbel.out.size
       go_wp2_with fail
       refine calls_name (fun u=>Below base w u∧Below wr.heap.size wr u∧Bx u wr.heap.size 100 #[.int .i64 pol,.slice qa qn qc,.int .i64 tat,.slice qa' qn' qc']) ⟨Hbel.out.alloc hsz _,below_allocs [_] wr,Bx.new _ _ _⟩ ?_
       rintro W0 ⟨hb0,hbr0,hx0⟩
       (refine (KQ.out W0 hb0).mono ?_)
       rintro e w2 ⟨rfl,hb2⟩
       have hx2:=hx0.below hb2 hx0.lt
       have HD2:=Lib.hid (HDj.out.below (hbr0.trans (hb2.mono hbr0.size)))
       have Hb2:=Lib.hid (hb0.trans (hb2.mono (Nat.le_trans hsz hbr0.size)))
       obtain⟨⟨u0,u1,u2,u3,d0,d1,d2,d3⟩,f0,f1,f2,f3⟩:=Hcel.out w2 HD2.out
       have c0:=hx2.cell 0;have c1:=hx2.cell 1;have c2:=hx2.cell 2;have c3:=hx2.cell 3
       clear hb0 hbr0 hx0 hb2 hx2 x0 x1 x2 x3 Hcel
       cases ans with
       |true=>
         have HD3:=Lib.hid (Hskip.out w2 HD2.out rfl)
         clear Hskip Hpush
         go_wp2_with fail
         go_roundw
         case rel=>exact⟨_,_,_,_,_,_,_,_,_,_,_,_,_,_,_,_,_,_,_,_,_,_,_,⟨i,j+1,rfl,by go_num,by omega,by omega,HD3.out,Hb2.out⟩,rfl⟩
         case measure=>simp [intOf];omega
       |false=>
         have HD3:=Lib.hid (Hpush.out w2 HD2.out rfl _ _ _ _ rfl)
         clear Hskip Hpush
         go_wp2_with fail
         go_roundw
         case rel=>exact⟨_,_,_,_,_,_,_,_,_,_,_,_,_,_,_,_,_,_,_,_,_,_,_,⟨i+1,j+1,by go_num,by go_num,by omega,by omega,HD3.out,(((Hb2.out.setCell (p:=⟨g,i*4,none⟩) hbg _).setCell (p:=⟨g,i*4+1,none⟩) hbg _).setCell (p:=⟨g,i*4+2,none⟩) hbg _).setCell (p:=⟨g,i*4+3,none⟩) hbg _⟩,rfl⟩
         case measure=>simp [intOf];omega
     · obtain rfl:j=xs.length:=by omega
       obtain⟨W',hrun,hrow,hieq,hbel'⟩:=Hcl.out wr i hij HDj.out
       have Hrow:=Lib.hid hrow;have Hieq:=Lib.hid hieq;have HB':=Lib.hid (hbel' Hbel.out)
       clear hrow hieq hbel' Hcl
       have hic: ¬cap=i:=by omega
       · go_wp2_with (simp only[hrun])
         exact bodyPost_ret (v:= .slice (some ⟨g,0,none⟩) i cap) (by simp [results,Tryz.results92,go_sem]) rfl ⟨_,_,_,rfl,Hieq.out,Hrow.out,HB'.out⟩
end
end Go.Proofs.YtemnhpdjoimjbaaGreatDoor
