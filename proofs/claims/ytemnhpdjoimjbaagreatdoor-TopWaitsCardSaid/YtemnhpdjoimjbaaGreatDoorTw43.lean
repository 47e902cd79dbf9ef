import Derived.Test.YtemnhpdjoimjbaaGreatDoorTw42
section
namespace Go.Proofs.YtemnhpdjoimjbaaGreatDoor.Top
set_option linter.unusedVariables false
def TL (b:Int) (L:List Cell):Prop:= ∀c∈L,c.tat≤b
theorem TL.nil (b:Int):TL b []:=fun c h=>by cases h
theorem TL.mono {a b:Int} {L:List Cell} (h:TL a L) (hab:a≤b):TL b L:=fun c hc=>by have:=h c hc;omega
theorem TL.filter {b:Int} {L:List Cell} (h:TL b L) (p:Cell→Bool):TL b (L.filter p):=fun c hc=>h c (List.mem_filter.1 hc).1
theorem TL.cut {b:Int} {L:List Cell} (h:TL b L) (l s:Nat):TL b (cut L l s):=h.filter _
theorem TL.with {b:Int} {L:List Cell} (h:TL b L) (a:Nat) (t:Bool) {c:Cell} (hc:c.tat≤b):TL b (withCell L a t c):=by
 intro d hd
 unfold withCell at hd
 split at hd
 · rcases List.mem_or_eq_of_mem_set hd with h1|h1
   · exact h d h1
   · rw[h1];exact hc
 · simp only[List.mem_append,List.mem_singleton]at hd
   rcases hd with (h1|h1)|h1
   · exact h d (List.mem_of_mem_take h1)
   · rw[h1];exact hc
   · exact h d (List.mem_of_mem_drop h1)
theorem TL.found {b:Int} {L:List Cell} (h:TL b L) (h0:0≤b) (pol:Int) (key:List Nat):(findCell L pol key).tat≤b:=by
 unfold findCell
 split
 · rename_i e
   unfold findThere at e
   cases hq:L[findAt L pol key]? with
   |none=>rw[hq]at e;cases e
   |some c=>
     rw[List.getD_eq_getElem?_getD,hq]
     exact h c (List.mem_of_getElem? hq)
 · exact h0
def HT (b:Int):HThen→Prop
 | .one _ _ h=>TL b h
 |_=>True
def WT (b:Int):WThen→Prop
 | .back _=>True
 | .room f _ _ c _=>TL b f.cells∧c.tat≤b
 | .serial f _ _ c=>TL b f.cells∧c.tat≤b
def KT (b:Int):Kont→Prop
 | .freezeSwap _ _ h _=>TL b h
 | .half _ _ h t=>TL b h∧HT b t
 | .halfSwap _ _ h h' t=>TL b h∧TL b h'∧HT b t
 | .wordLoad _ _ _ t=>WT b t
 | .wordSwap _ _ _ _ t=>WT b t
 | .put f _ _ c _=>TL b f.cells∧c.tat≤b
 | .allow f _ _ c=>TL b f.cells∧c.tat≤b
 | .evictClock _ _ _ _ _ cells=>TL b cells
 | .evictSwap _ _ _ _ _ rest _=>TL b rest
 |_=>True
theorem HT.mono {a b:Int} {t:HThen} (h:HT a t) (hab:a≤b):HT b t:=by
 cases t with
 |one l i h'=>exact TL.mono h hab
 |find=>trivial
 |two=>trivial
theorem WT.mono {a b:Int} {t:WThen} (h:WT a t) (hab:a≤b):WT b t:=by
 cases t with
 |back=>trivial
 |room f a t c r=>exact⟨h.1.mono hab,Int.le_trans h.2 hab⟩
 |serial f a t c=>exact⟨h.1.mono hab,Int.le_trans h.2 hab⟩
theorem KT.mono {a b:Int} {k:Kont} (h:KT a k) (hab:a≤b):KT b k:=by
 cases k with
 |freezeSwap=>exact TL.mono h hab
 |half=>exact⟨h.1.mono hab,h.2.mono hab⟩
 |halfSwap=>exact⟨h.1.mono hab,h.2.1.mono hab,h.2.2.mono hab⟩
 |wordLoad=>exact WT.mono h hab
 |wordSwap=>exact WT.mono h hab
 |put=>exact⟨h.1.mono hab,Int.le_trans h.2 hab⟩
 |allow=>exact⟨h.1.mono hab,Int.le_trans h.2 hab⟩
 |evictClock=>exact TL.mono h hab
 |evictSwap=>exact TL.mono h hab
 |_=>trivial
def MT (b:Int) (m:Mem):Prop:= ∀i,TL b (m.hold i)
theorem MT.touch {b:Int} {m:Mem} (h:MT b m):MT b m.touch:=h
theorem MT.swap {b:Int} {m:Mem} (h:MT b m) (i o n:Nat) {L:List Cell} (hL:TL b L):MT b (m.swap i o n L).2:=by
 unfold Mem.swap
 split
 · intro j
   show TL b ((m.holds.set i L).getD j [])
   rw[List.getD_eq_getElem?_getD,List.getElem?_set]
   split
   · split
     · exact hL
     · exact TL.nil b
   · rw[← List.getD_eq_getElem?_getD]
     exact h j
 · exact h
structure OT (b:Int) (o:Out):Prop where
 mem:MT b o.2.2
 kont: ∀k,o.1= .inl k→KT b k
section
variable {B : Below} {list:List Pol} {room:Nat} {b:Int} {m:Mem} {x:Live}
theorem ot_more {k:Kont} (h1:MT b m) (h2:KT b k):OT b (more k x m):=⟨h1,fun k' e=>by cases e;exact h2⟩
theorem ot_fin {r:Reply} (h1:MT b m):OT b (fin r x m):=⟨h1,fun k' e=>by cases e⟩
theorem ot_leave {r:Reply} (h1:MT b m):OT b (leave r x m):=by
 unfold leave
 split
 · exact ot_more h1 trivial
 · exact ot_fin h1
theorem ot_further {j s:Nat} {g:Int} (h1:MT b m):OT b (further j s g x m):=by
 unfold further
 split
 · exact ot_fin h1
 · exact ot_more h1 trivial
theorem kt_put {f:Found} {a:Nat} {t:Bool} {c:Cell} {r:Reply} (h1:TL b f.cells) (h2:c.tat≤b):KT b (putK room f a t c r x):=by
 unfold putK
 split<;>exact⟨h1,h2⟩
theorem take_tat (p:Pol) (c:Cell) (n:Int):(takeF B p c n).2.tat=c.tat:=by
 unfold takeF
 dsimp only
 split<;>rfl
theorem give_tat (p:Pol) (c:Cell) (n:Int):(giveF B p c n).2.tat=c.tat:=by
 unfold giveF
 dsimp only
 split<;>rfl
theorem ot_acquire {f:Found} {a:Nat} {t:Bool} {c:Cell} (h1:MT b m) (h2:TL b f.cells) (h3:c.tat≤b):OT b (acquireF B list room f a t c x m):=by
 unfold acquireF
 split
 · exact ot_leave h1
 split
 · exact ot_more h1 (kt_put h2 (by rw[take_tat];exact h3))
 · exact ot_more h1 ⟨h2,h3⟩
theorem ot_then {t:Then} {w v:Nat} {L:List Cell} (h0:0≤b) (h1:MT b m) (h2:TL b L):OT b (thenF B list room t w v L x m):=by
 unfold thenF
 cases t with
 |evict j s g=>
   dsimp only
   split
   · exact ot_further h1
   · exact ot_more h1 h2
 |call=>
   have hc:=h2.found h0 x.call.pol x.call.key
   dsimp only
   split
   · exact ot_more h1 ⟨h2,hc⟩
   split
   · exact ot_acquire h1 h2 hc
   split
   · split
     · exact ot_fin h1
     · exact ot_more h1 (kt_put h2 (by rw[give_tat];exact hc))
   split
   · exact ot_fin h1
   · exact ot_more h1 trivial
theorem ot_entered {s w v:Nat} {L:List Cell} {t:Then} (h0:0≤b) (h1:MT b m) (h2:TL b L):OT b (enteredF B list room s w v L t x m):=by
 unfold enteredF
 split
 · exact ot_more h1 trivial
 · exact ot_then h0 h1 h2
theorem kt_move (l i:Nat):KT b (moveK l i):=by
 unfold moveK
 split<;>trivial
theorem kt_fthen {t:FThen} {h:List Cell} (h1:TL b h):KT b (fthenF t h):=by
 cases t with
 |find l s t=>exact⟨h1,trivial⟩
 |move l i=>exact⟨h1,h1⟩
theorem ot_hthen {t:HThen} {w v:Nat} {L:List Cell} (h0:0≤b) (h1:MT b m) (h2:TL b L) (h3:HT b t):OT b (hthenF B list room t w v L x m):=by
 cases t with
 |find s t=>
   unfold hthenF
   dsimp only
   split
   · exact ot_more h1 trivial
   · exact ot_entered h0 h1 h2
 |one l i h=>exact ot_more h1 ⟨h3,trivial⟩
 |two l i=>exact ot_more h1 (kt_move _ _)
theorem ot_bthen {t:BThen} (h1:MT b m):OT b (bthenF t x m):=by
 cases t with
 |done r=>exact ot_fin h1
 |evict j s g=>exact ot_further h1
theorem ot_wthen {t:WThen} {n:Nat} (h1:MT b m) (h2:WT b t):OT b (wthenF B list room t n x m):=by
 cases t with
 |back t=>exact ot_bthen h1
 |room f a t c r=>exact ot_more h1 h2
 |serial f a t c=>exact ot_more h1 (kt_put h2.1 (by rw[take_tat];exact h2.2))
theorem ot_stop {t:WThen} (h1:MT b m):OT b (stopF t x m):=by
 cases t with
 |back t=>exact ot_fin h1
 |room f a t c r=>exact ot_fin h1
 |serial f a t c=>exact ot_leave h1
theorem tat_step {k:Kont} (h0:0≤b) (hm:MT b m) (hk:KT b k) (hd: ∀f a t c,k= .allow f a t c→(B.decide (polOf list x) c.tat m.clock x.call.n).2.1≤b):OT b (stepF B list room k x m):=by
 cases k with
 |find sum t=>unfold stepF;dsimp only;split<;>exact ot_more hm trivial
 |enter sum word t=>exact ot_entered h0 hm.touch (hm word)
 |freeze word t=>
   unfold stepF
   dsimp only
   split
   · exact ot_more hm (kt_fthen (hm word))
   · exact ot_more hm (hm word)
 |freezeSwap word v holds t=>
   unfold stepF
   dsimp only
   split
   · exact ot_more (hm.swap _ _ _ hk) (kt_fthen hk)
   · exact ot_more (hm.swap _ _ _ hk) trivial
 |half level shard holds t=>
   unfold stepF
   dsimp only
   split
   · exact ot_hthen h0 hm.touch (hm _) hk.2
   · exact ot_more hm.touch ⟨hk.1,hm _,hk.2⟩
 |halfSwap level shard holds h t=>exact ot_hthen h0 (hm.swap _ _ _ (hk.1.cut _ _)) hk.2.1 hk.2.2
 |split=>
   unfold stepF
   dsimp only
   split
   · exact ot_more hm.touch (kt_move _ _)
   split
   · exact ot_fin hm.touch
   · exact ot_more hm.touch trivial
 |splitSwap d level=>
   unfold stepF
   dsimp only
   split
   · exact ot_more (hm.swap _ _ _ (TL.nil b)) (kt_move _ _)
   · exact ot_more (hm.swap _ _ _ (TL.nil b)) trivial
 |moveEnd level=>exact ot_fin (hm.swap _ _ _ (TL.nil b))
 |wordLoad word by_ stop t=>
   unfold stepF
   dsimp only
   split
   · exact ot_stop hm.touch
   · exact ot_more hm.touch hk
 |wordSwap word by_ stop v t=>
   unfold stepF
   dsimp only
   split
   · exact ot_wthen (hm.swap _ _ _ (TL.nil b)) hk
   · exact ot_more (hm.swap _ _ _ (TL.nil b)) hk
 |put f a t c r=>
   have h1:=hm.swap f.word f.v (f.v+1) (hk.1.with a t hk.2)
   unfold stepF
   dsimp only
   split
   · split
     · exact ot_leave h1
     · exact ot_fin h1
   · exact ot_more h1 trivial
 |allow f a t c=>
   have h1:=hd f a t c rfl
   unfold stepF
   dsimp only
   split
   · exact ot_leave hm.touch
   · exact ot_more hm.touch (kt_put hk.1 h1)
 |peek c=>exact ot_fin hm.touch
 |evictStart=>exact ot_more hm.touch trivial
 |evictClock j s g w v cells=>
   unfold stepF
   dsimp only
   split
   · exact ot_further hm.touch
   · exact ot_more hm.touch (hk.filter _)
 |evictSwap j s g w v rest n=>
   unfold stepF
   dsimp only
   split
   · exact ot_more (hm.swap _ _ _ hk) trivial
   · exact ot_further (hm.swap _ _ _ hk)
end
end Go.Proofs.YtemnhpdjoimjbaaGreatDoor.Top
end
section
namespace Go.Proofs.YtemnhpdjoimjbaaGreatDoor.Top
set_option linter.unusedVariables false
variable {list : List Pol} {room:Nat}
def allowAt (B:Below) (list:List Pol) (m:Mem) (x:Live):Bool×Int×Int×Int:=B.decide (polOf list x) (cellAt m x.call.pol x.call.key).tat m.clock x.call.n
def allowR (d:Bool×Int×Int×Int) (now:Int):Reply:=⟨0,d.1,d.2.2.1,d.2.2.2,0,now⟩
def AlwK (B:Below) (list:List Pol) (m:Mem) (x:Live):Kont→Prop
 | .put f at_ there c r=>m.word f.word=f.v∧(allowAt B list m x).1=true∧r=allowR (allowAt B list m x) m.clock∧(there=true→x.reserved=false)
 | .allow f at_ there c=>m.word f.word=f.v∧c=cellAt m x.call.pol x.call.key∧there=isAt m x.call.pol x.call.key∧x.reserved=false
 | .wordLoad _ _ _ (.room f at_ there c r)=>m.word f.word=f.v∧isAt m x.call.pol x.call.key=false∧(allowAt B list m x).1=true∧r=allowR (allowAt B list m x) m.clock
 | .wordSwap _ _ _ _ (.room f at_ there c r)=>m.word f.word=f.v∧isAt m x.call.pol x.call.key=false∧(allowAt B list m x).1=true∧r=allowR (allowAt B list m x) m.clock
 | .wordLoad _ _ _ _=>False
 | .wordSwap _ _ _ _ _=>False
 |_=>x.reserved=false
structure AlwO (B:Below) (list:List Pol) (m0:Mem) (x0:Live) (o:Out):Prop where
 on: ∀k,o.1= .inl k→(∀c,Has o.2.2 c↔Has m0 c)∧AlwK B list o.2.2 o.2.1 k
 fin: ∀r,o.1= .inr r→(r=err 10∧(allowAt B list m0 x0).1=true∧isAt m0 x0.call.pol x0.call.key=false)∨(r=allowR (allowAt B list m0 x0) m0.clock∧((allowAt B list m0 x0).1=false→ ∀c,Has o.2.2 c↔Has m0 c))
theorem AlwO.more {B:Below} {m0 m:Mem} {x0 x:Live} {k:Kont} (h1: ∀c,Has m c↔Has m0 c) (h2:AlwK B list m x k):AlwO B list m0 x0 (more k x m):=
 ⟨fun k' e=>by cases e;exact⟨h1,h2⟩,fun r e=>by cases e⟩
theorem AlwO.done {B:Below} {m0 m:Mem} {x0 x:Live} {r:Reply} (h1:r=allowR (allowAt B list m0 x0) m0.clock) (h2:(allowAt B list m0 x0).1=false→ ∀c,Has m c↔Has m0 c):AlwO B list m0 x0 (.inr r,x,m):=
 ⟨fun k' e=>(by cases e),fun r e=>by cases e;exact .inr ⟨h1,h2⟩⟩
theorem allowAt_congr {B:Below} {m m':Mem} {x x':Live} (h:Lies list m) (h':Lies list m') (hh: ∀c,Has m' c↔Has m c) (hc:m'.clock=m.clock) (e:x'.call=x.call):allowAt B list m' x'=allowAt B list m x∧isAt m' x'.call.pol x'.call.key=isAt m x.call.pol x.call.key:=by
 unfold allowAt polOf
 have:=cellAt_congr h h' hh x.call.pol x.call.key
 rw[e,this.1,hc]
 exact⟨rfl,this.2⟩
theorem alw_entered {B:Below} {m:Mem} {x:Live} {t:Then} {sum level:Nat} (hd:Dir m) (hx:LiveOk list x) (hop:x.call.op=1) (ht:TOkP x sum t) (hlev:level≤4) (hres:x.reserved=false):
   AlwO B list m x (enteredF B list room sum (place level sum) (m.word (place level sum)) (m.hold (place level sum)) t x m.touch):=by
 unfold enteredF
 split
 · exact AlwO.more (fun c=>Iff.rfl) hres
 · rename_i hw
   have hlv:m.live (place level sum):=⟨by omega,by omega⟩
   cases t with
   |evict j s g=>have:=ht.1;omega
   |call=>
     obtain⟨hop4,hsum⟩:=ht
     have hcur:=curHold_live hd hlev hlv
     have hcell:cellAt m x.call.pol x.call.key=findCell (m.hold (place level sum)) x.call.pol x.call.key:=by
       unfold cellAt
       rw[← hx.sum,←hsum,hcur]
     have his:isAt m x.call.pol x.call.key=findThere (m.hold (place level sum)) x.call.pol x.call.key:=by
       unfold isAt
       rw[← hx.sum,←hsum,hcur]
     unfold thenF
     dsimp only
     rw[if_pos hop]
     exact AlwO.more (fun c=>Iff.rfl) ⟨rfl,hcell.symm,his.symm,hres⟩
theorem alw_step {B:Below} (hB:Sound B) (T:TabOk list room) {q:Nat} {m:Mem} {x:Live} {k:Kont} (h1:SInv list room m (claim x k+q)) (h3:LiveOk list x) (hk:KOk list room m x k) (hc:m.count<4611686018427387900) (hop:x.call.op=1) (hr:AlwK B list m x k):
   AlwO B list m x (stepF B list room k x m):=by
 have hd:=h1.dir
 have ho:=step_ok hB T h1 h3 hk hc
 cases k with
 |find sum t=>have hr:x.reserved=false:=hr;unfold stepF;dsimp only;split<;>exact AlwO.more (fun c=>Iff.rfl) hr
 |enter sum word t=>
   obtain⟨ht,l,hl,rfl⟩:=hk
   exact alw_entered hd h3 hop ht hl hr
 |freeze word t=>
   have hr:x.reserved=false:=hr
   unfold stepF
   dsimp only
   split
   · refine AlwO.more (fun c=>Iff.rfl) ?_
     cases t<;>exact hr
   · exact AlwO.more (fun c=>Iff.rfl) hr
 |freezeSwap word v holds t=>
   have hr:x.reserved=false:=hr
   have hh:=fun c=>step_has (B:=B) T h1 hk (fun _ _ _ _ _ e=>by cases e) (fun _ _ _ _ _ _ _ e=>by cases e) c
   clear ho
   unfold stepF at hh ⊢
   dsimp only at hh ⊢
   split
   · rename_i e
     rw[if_pos e]at hh
     refine AlwO.more hh ?_
     cases t<;>exact hr
   · rename_i e
     rw[if_neg e]at hh
     exact AlwO.more hh hr
 |half level shard holds t=>
   have hr:x.reserved=false:=hr
   unfold stepF
   dsimp only
   split
   · rename_i hz
     obtain⟨l,rfl,hl,hdl,hf,hh,ht⟩:=hk
     cases t with
     |find sum t=>
       obtain⟨ht,rfl⟩:=ht
       unfold hthenF
       dsimp only
       rw[if_neg hz]
       exact alw_entered hd h3 hop ht (by omega) hr
     |one l' i h=>have:=ht.1;omega
     |two l' i=>have:=ht.1;omega
   · exact AlwO.more (fun c=>Iff.rfl) hr
 |halfSwap level shard holds h t=>
   have hr:x.reserved=false:=hr
   have hh:=fun c=>step_has (B:=B) T h1 hk (fun _ _ _ _ _ e=>by cases e) (fun _ _ _ _ _ _ _ e=>by cases e) c
   obtain⟨l,rfl,hl,hdl,hf,hho,ht⟩:=hk
   clear ho
   cases t with
   |find sum t=>
     unfold stepF hthenF at hh ⊢
     dsimp only at hh ⊢
     rw[if_pos rfl]at hh ⊢
     exact AlwO.more hh hr
   |one l' i h=>have:=ht.1;omega
   |two l' i=>have:=ht.1;omega
 |split=>have:x.call.op=6:=hk;omega
 |splitSwap d level=>have:=hk.1;omega
 |moveEnd level=>have:=hk.1;omega
 |wordLoad word by_ stop t=>
   cases t with
   |back t=>exact hr.elim
   |serial f a th c=>exact hr.elim
   |room f a th c r=>
     obtain⟨hw,his,hg,hrr⟩:=hr
     unfold stepF
     dsimp only
     split
     · exact⟨fun k e=>(by cases e),fun r e=>by cases e;exact .inl ⟨rfl,hg,his⟩⟩
     · exact AlwO.more (fun c=>Iff.rfl) ⟨hw,his,hg,hrr⟩
 |wordSwap word by_ stop v t=>
   cases t with
   |back t=>exact hr.elim
   |serial f a th c=>exact hr.elim
   |room f a th c r=>
     obtain⟨hw,his,hg,hrr⟩:=hr
     have hh:=fun c=>step_has (B:=B) T h1 hk (fun _ _ _ _ _ e=>by cases e) (fun _ _ _ _ _ _ _ e=>by cases e) c
     obtain⟨hwk,_⟩:=hk
     have hword:word=32:=hwk.1
     have hth:th=false:=hwk.2.2.2.2.1
     obtain⟨_,_,⟨l,hl,hfw⟩,_⟩:=hwk.2.2.2.2.2.2
     have hbd:=place_bd (s:=x.sum) hl
     have hi:=ho.inv
     have hcl:=ho.clock
     subst hword hth
     by_cases e:m.word 32=v
     · unfold stepF at hh hi hcl ⊢
       dsimp only at hh hi hcl ⊢
       rw[swap_hit e]at hh hi hcl ⊢
       dsimp only at hh hi hcl ⊢
       rw[if_pos rfl]at hh hi hcl ⊢
       have hcg:=allowAt_congr (B:=B) (x:=x) (x':={x with reserved:=true }) h1.lies hi.lies hh hcl rfl
       refine AlwO.more hh ⟨?_,?_,?_,fun h=>by cases h⟩
       · rw[put1_word (by rw[hd.nw];decide),if_neg (by omega)]
         exact hw
       · exact(congrArg Prod.fst hcg.1).trans hg
       · rw[hrr]
         show allowR _ _=allowR (allowAt B list (m.put1 32 ((v+by_)%U64) []) {x with reserved:=true }) m.clock
         exact congrArg (fun d=>allowR d m.clock) hcg.1.symm
     · unfold stepF
       dsimp only
       rw[swap_miss e]
       dsimp only
       rw[if_neg (by simp)]
       exact AlwO.more (fun c=>Iff.rfl) ⟨hw,his,hg,hrr⟩
 |put f at_ there c r=>
   obtain⟨hw,hg,hrr,hres⟩:=hr
   unfold stepF
   dsimp only
   rw[swap_hit hw]
   dsimp only
   rw[if_pos rfl]
   split
   · rename_i ht
     unfold leave
     rw[hres ht,if_neg (by simp)]
     exact AlwO.done hrr (fun h=>by rw[hg]at h;cases h)
   · exact AlwO.done hrr (fun h=>by rw[hg]at h;cases h)
 |allow f at_ there d=>
   obtain⟨hw,rfl,rfl,hres⟩:=hr
   unfold stepF
   dsimp only
   split
   · rename_i hcond
     unfold leave
     rw[hres,if_neg (by simp)]
     exact AlwO.done rfl (fun _ c=>Iff.rfl)
   · rename_i hcond
     have hg:(allowAt B list m x).1=true:=by
       cases e:(allowAt B list m x).1 with
       |true=>rfl
       |false=>exact absurd (.inl e) hcond
     refine AlwO.more (fun c=>Iff.rfl) ?_
     unfold putK
     cases e:isAt m x.call.pol x.call.key with
     |true=>
       rw[if_pos (by simp)]
       exact⟨hw,hg,rfl,fun _=>hres⟩
     |false=>
       rw[hres,if_neg (by simp)]
       exact⟨hw,e,hg,rfl⟩
 |peek d=>have:x.call.op=4:=hk;omega
 |evictStart=>have:x.call.op=5:=hk;omega
 |evictClock j shards gone word v cells=>have:=hk.1.1;omega
 |evictSwap j s g w v r n=>have:=hk.1.1;omega
theorem allow_alone {B:Below} (hB:Sound B) (T:TabOk list room) {who:Nat} (hw:who<64): ∀(c n:Nat) (s:Sys) (x:Live) (k:Kont) (r:Reply) (s':Sys),SysOk list room s n→n+c<4611686018427387900→s.pd who=some (x,k)→x.call.op=1→AlwK B list s.m x k→aloneS list room B who c s=some (r,s')→
   (r=err 10∧(allowAt B list s.m x).1=true∧isAt s.m x.call.pol x.call.key=false)∨(r=allowR (allowAt B list s.m x) s.m.clock∧((allowAt B list s.m x).1=false→ ∀c,Has s'.m c↔Has s.m c))
 |0,_,_,_,_,_,_,_,_,_,_,_,h=>by cases h
 |c+1,n,s,x,k,r,s',h,hn,hp,hop,hr,ha=>by
   have h1:=h.step hB T hw (by omega:n<4611686018427387900) (B:=B)
   have ho:=h.out hB T hw hp (by omega:n<4611686018427387900)
   have hi:=h.inv
   rw[tot_rest s.pd hw,hp]at hi
   have hl:=h.live who x k hw hp
   have hf:=h.few
   have hR:=alw_step hB T hi hl.1 hl.2 (by omega) hop hr
   have hlies:=hi.lies
   unfold aloneS at ha
   have es:stepS list room B s who=stepO who s (stepF B list room k x s.m):=by unfold stepS;rw[hp]
   rw[es]at h1 ha
   have hcall:=ho.call
   have hinv:=ho.inv
   have hclk:=ho.clock
   unfold stepO at h1 ha
   generalize stepF B list room k x s.m=o at*
   obtain⟨o1,x1,m1⟩:=o
   cases o1 with
   |inl k1=>
     dsimp only at h1 ha
     rw[if_neg (by simp)]at ha
     obtain⟨hH,hR1⟩:=hR.on k1 rfl
     have:=allow_alone hB T hw c (n+1) ⟨m1,setP s.pd who (some (x1,k1))⟩ x1 k1 r s' h1 (by omega) (setP_self _ _ _) (by rw[hcall];exact hop) hR1 ha
     have e:=allowAt_congr (B:=B) (x:=x) (x':=x1) hlies hinv.lies hH hclk hcall
     dsimp only at this
     rw[e.1,e.2,show m1.clock=s.m.clock from hclk]at this
     exact this.imp id fun h=>⟨h.1,fun hf c=>(h.2 hf c).trans (hH c)⟩
   |inr r1=>
     dsimp only at ha
     rw[if_pos rfl]at ha
     cases ha
     exact hR.fin _ rfl
end Go.Proofs.YtemnhpdjoimjbaaGreatDoor.Top
end
section
namespace Go.Proofs.YtemnhpdjoimjbaaGreatDoor.Top
set_option linter.unusedVariables false
def Ahead (B:Below) (list:List Pol) (D:Int):Prop:= ∀p∈list,p.kind=1→ ∀tat now n b:Int,0≤tat→tat≤4611686018427387903→0≤now→now≤4611686018427387903→0≤n→n≤4611686018427387903→tat≤b→now+D≤b→(B.decide p tat now n).2.1≤b
structure SysT (b:Int) (s:Sys):Prop where
 mem:MT b s.m
 pend: ∀who x k,s.pd who=some (x,k)→KT b k
theorem MT.mono {a b:Int} {m:Mem} (h:MT a m) (hab:a≤b):MT b m:=fun i=>(h i).mono hab
theorem SysT.mono {a b:Int} {s:Sys} (h:SysT a s) (hab:a≤b):SysT b s:=⟨h.mem.mono hab,fun w x k e=>(h.pend w x k e).mono hab⟩
theorem SysT.start {b:Int} {s:Sys} (h:SysT b s) (who:Nat) (c:Call):SysT b (startS s who c):=by
 unfold startS
 split
 · refine⟨h.mem,fun w x k e=> ?_⟩
   by_cases hw:w=who
   · subst hw
     have e:setP s.pd w (some (liveOf c,firstK c)) w=some (x,k):=e
     rw[setP_self]at e
     cases e
     unfold firstK
     split
     · trivial
     · split<;>trivial
   · have e:setP s.pd who (some (liveOf c,firstK c)) w=some (x,k):=e
     rw[setP_ne _ _ hw]at e
     exact h.pend w x k e
 · exact h
theorem SysT.tick {b:Int} {s:Sys} (h:SysT b s) (t:Int):SysT b ⟨s.m.at_ t,s.pd⟩:=⟨fun i=>h.mem i,h.pend⟩
variable {list : List Pol} {room:Nat}
theorem pol_mem {x:Live} (h:LiveOk list x) (hop:x.call.op≤4):polOf list x∈list:=by
 obtain⟨p,e,hp⟩:=h.pol hop
 unfold polOf
 rw[e,Int.toNat_natCast,List.getD_eq_getElem?_getD,List.getElem?_eq_getElem hp]
 exact List.getElem_mem hp
theorem SysT.step {B:Below} {D b:Int} (hA:Ahead B list D) {s:Sys} {n who:Nat} (h:SysT b s) (hok:SysOk list room s n) (hw:who<64) (hb:s.m.clock+D≤b) (hD:0≤D):SysT b (stepS list room B s who).1:=by
 unfold stepS
 cases e:s.pd who with
 |none=>exact h
 |some v=>
   obtain⟨x,k⟩:=v
   have hl:=hok.live who x k hw e
   have hck:=hok.inv.clk
   have ho:OT b (stepF B list room k x s.m):=tat_step (B:=B) (list:=list) (room:=room) (x:=x) (by omega) h.mem (h.pend who x k e) fun f a t c ek=>by
     subst ek
     obtain⟨hop,hp⟩:=hl.2
     have hcell:=hp.2.2.2.2.2.ok
     have hn:=hl.1.n hop
     exact hA _ (pol_mem hl.1 (by omega)) (hl.1.kind1 hop) _ _ _ _ hcell.tat0 hcell.tat1 hck.1 hck.2 hn.1 hn.2 (h.pend who x _ e).2 hb
   dsimp only
   unfold stepO
   generalize stepF B list room k x s.m=o at*
   obtain⟨o1,x1,m1⟩:=o
   cases o1 with
   |inl k1=>
     refine⟨ho.mem,fun w x' k' e'=> ?_⟩
     by_cases hw':w=who
     · subst hw'
       have e':setP s.pd w (some (x1,k1)) w=some (x',k'):=e'
       rw[setP_self]at e'
       cases e'
       exact ho.kont _ rfl
     · have e':setP s.pd who (some (x1,k1)) w=some (x',k'):=e'
       rw[setP_ne _ _ hw']at e'
       exact h.pend w x' k' e'
   |inr r=>
     refine⟨ho.mem,fun w x' k' e'=> ?_⟩
     by_cases hw':w=who
     · subst hw'
       have e':setP s.pd w none w=some (x',k'):=e'
       rw[setP_self]at e'
       cases e'
     · have e':setP s.pd who none w=some (x',k'):=e'
       rw[setP_ne _ _ hw']at e'
       exact h.pend w x' k' e'
theorem MT.has {b:Int} {m:Mem} (h:MT b m) {c:Cell} (hc:Has m c):c.tat≤b:=by
 unfold Has curHold at hc
 split at hc
 · exact(h _).cut _ _ c hc
 · exact h _ c hc
theorem MT.cellAt {b:Int} {m:Mem} (h:MT b m) (h0:0≤b) (pol:Int) (key:List Nat):(cellAt m pol key).tat≤b:=by
 unfold Top.cellAt
 refine TL.found ?_ h0 pol key
 unfold curHold
 split
 · exact(h _).cut _ _
 · exact h _
end Go.Proofs.YtemnhpdjoimjbaaGreatDoor.Top
end
