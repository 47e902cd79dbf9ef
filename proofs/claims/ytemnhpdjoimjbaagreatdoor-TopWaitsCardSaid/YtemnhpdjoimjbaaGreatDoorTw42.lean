import Derived.Test.YtemnhpdjoimjbaaGreatDoorTw38
import Derived.Test.YtemnhpdjoimjbaaGreatDoorTw41
import Derived.Test.YtemnhpdjoimjbaaGreatDoorRows
import Derived.OpenShut
import Derived.Lib.SmallJoins
import Derived.Deep.Slices
import Derived.ChangeSame
section
namespace Go.Proofs.YtemnhpdjoimjbaaGreatDoor.Top
set_option linter.unusedVariables false
variable {list : List Pol} {room:Nat}
theorem further_mem (j s:Nat) (g:Int) (x:Live) (m:Mem):(further j s g x m).2.2=m:=by unfold further;split<;>rfl
theorem leave_mem (r:Reply) (x:Live) (m:Mem):(leave r x m).2.2=m:=by unfold leave;split<;>rfl
theorem acquireF_mem (B:Below) (f:Found) (a:Nat) (t:Bool) (c:Cell) (x:Live) (m:Mem):(acquireF B list room f a t c x m).2.2=m:=by
 unfold acquireF
 split
 · exact leave_mem _ _ _
 split<;>rfl
theorem thenF_mem (B:Below) (t:Then) (w v:Nat) (L:List Cell) (x:Live) (m:Mem):(thenF B list room t w v L x m).2.2=m:=by
 unfold thenF
 cases t with
 |evict j s g=>
   dsimp only
   split
   · exact further_mem _ _ _ _ _
   · rfl
 |call=>
   dsimp only
   split
   · rfl
   split
   · exact acquireF_mem _ _ _ _ _ _ _
   split
   · split<;>rfl
   split<;>rfl
theorem enteredF_mem (B:Below) (s w v:Nat) (L:List Cell) (t:Then) (x:Live) (m:Mem):(enteredF B list room s w v L t x m).2.2=m:=by
 unfold enteredF
 split
 · rfl
 · exact thenF_mem _ _ _ _ _ _ _
theorem hthenF_mem (B:Below) (t:HThen) (w v:Nat) (L:List Cell) (x:Live) (m:Mem):(hthenF B list room t w v L x m).2.2=m:=by
 cases t with
 |find s t=>
   unfold hthenF
   dsimp only
   split
   · rfl
   · exact enteredF_mem _ _ _ _ _ _ _ _
 |one l i h=>rfl
 |two l i=>rfl
theorem bthenF_mem (t:BThen) (x:Live) (m:Mem):(bthenF t x m).2.2=m:=by
 cases t with
 |done r=>rfl
 |evict j s g=>exact further_mem _ _ _ _ _
theorem wthenF_mem (B:Below) (t:WThen) (n:Nat) (x:Live) (m:Mem):(wthenF B list room t n x m).2.2=m:=by
 cases t with
 |back t=>exact bthenF_mem _ _ _
 |room f a t c r=>rfl
 |serial f a t c=>rfl
theorem stopF_mem (t:WThen) (x:Live) (m:Mem):(stopF t x m).2.2=m:=by
 cases t with
 |back t=>rfl
 |room f a t c r=>rfl
 |serial f a t c=>exact leave_mem _ _ _
theorem step_has {B:Below} (T:TabOk list room) {q:Nat} {m:Mem} {x:Live} {k:Kont} (h1:SInv list room m (claim x k+q)) (hk:KOk list room m x k)
   (n1: ∀f a t c r,k≠ .put f a t c r) (n2: ∀j s g w v r n,k≠ .evictSwap j s g w v r n) (c:Cell):Has (stepF B list room k x m).2.2 c↔Has m c:=by
 have hd:=h1.dir
 cases k with
 |find sum t=>unfold stepF;dsimp only;split<;>exact Iff.rfl
 |enter sum word t=>
   unfold stepF
   dsimp only
   rw[enteredF_mem]
   exact Iff.rfl
 |freeze word t=>unfold stepF;dsimp only;split<;>exact Iff.rfl
 |freezeSwap word v holds t=>
   obtain⟨hk,hv⟩:=hk
   unfold stepF
   dsimp only
   by_cases e:m.word word=v
   · rw[swap_hit e]
     dsimp only
     rw[if_pos rfl]
     have hh:=hv.eq e
     subst hh
     subst e
     have hw: ∃l s,word=place l s∧l≤3∧2*l+1≤m.word 0:=by
       cases t with
       |find level sum t=>exact⟨_,_,hk.2.2.1,hk.2.1,hk.2.2.2⟩
       |move level i=>exact⟨_,_,hk.2.2.2.1,hk.2.1,hk.2.2.2.2.1⟩
     obtain⟨l,s,rfl,hl,hdl⟩:=hw
     have b:=place_bd (s:=s) (show l≤4 by omega)
     have hpl:=place_lt l s
     have h0:=two_pos l
     have hv1:=hv.v1
     have hv2:=hv.v2
     have el:l=m.word 0/2:=by
       refine Classical.byContradiction fun hne=> ?_
       have hlt:2^(l+1)≤2^(m.word 0/2):=two_le (by omega)
       have:=hd.old (place l s) (by omega) (by omega)
       omega
     have hodd:m.word 0%2=1:=by
       refine Classical.byContradiction fun hne=> ?_
       omega
     rw[el]at hpl
     have:=has_freeze hd hodd hpl.1 hpl.2 (by rw[← el];exact⟨hv1,hv2⟩) c
     rw[← el]at this
     exact this
   · rw[swap_miss e]
     exact Iff.rfl
 |half level shard holds t=>
   unfold stepF
   dsimp only
   split
   · rw[hthenF_mem];exact Iff.rfl
   · exact Iff.rfl
 |halfSwap level shard holds h t=>
   unfold stepF
   dsimp only
   rw[hthenF_mem]
   by_cases e:m.word (place level shard)=0
   · rw[swap_hit e]
     dsimp only
     obtain⟨l,rfl,hl,hdl,hf,hh,ht⟩:=id hk
     have b1:=place_bd (s:=shard) (show l≤4 by omega)
     have b2:=place_bd (s:=shard) (show l+1≤4 by omega)
     have hp1:=place_lt l shard
     have hp2:=place_lt (l+1) shard
     have el:l=m.word 0/2:=by
       refine Classical.byContradiction fun hne=> ?_
       have hle:l+1≤m.word 0/2:=by omega
       by_cases e2:l+1=m.word 0/2
       · rw[e2]at hp2
         have:=(hd.cur _ hp2.1 hp2.2).1
         rw[← e2]at this
         omega
       · have hlt:2^(l+1+1)≤2^(m.word 0/2):=two_le (by omega)
         have:=hd.old (place (l+1) shard) (by omega) (by omega)
         have:=frz_pos
         omega
     have hodd:m.word 0%2=1:=by
       refine Classical.byContradiction fun hne=> ?_
       have h0:=two_pos l
       have hpl:=hp1
       rw[el]at hpl
       have:=(hd.cur _ hpl.1 hpl.2).2 (by omega)
       rw[← el]at this
       omega
     have hcut:cut holds (l+1) (place (l+1) shard-2^(l+1))=cut (m.hold (place l shard)) (l+1) (shard%2^(l+1)):=by
       rw[hh]
       congr 1
       unfold place
       omega
     rw[hcut]
     rw[el]at e hf ⊢
     exact has_lay hd hodd hf e c
   · rw[swap_miss e]
     exact Iff.rfl
 |split=>
   unfold stepF
   dsimp only
   split
   · exact Iff.rfl
   split<;>exact Iff.rfl
 |splitSwap d level=>
   obtain⟨hop,rfl,hl⟩:=hk
   unfold stepF
   dsimp only
   by_cases e:m.word 0=2*level
   · rw[swap_hit e]
     dsimp only
     rw[if_pos rfl]
     show Has (m.put1 0 (2*level+1) []) c↔_
     rw[← e]
     exact has_split hd _ (by omega) c
   · rw[swap_miss e]
     exact Iff.rfl
 |moveEnd level=>
   obtain⟨hop,hl,hdl,hdone⟩:=hk
   unfold stepF
   dsimp only
   by_cases e:m.word 0=2*level+1
   · rw[swap_hit e]
     have el:level=m.word 0/2:=by omega
     show Has (m.put1 0 (2*level+2) []) c↔_
     rw[show 2*level+2=m.word 0+1 by omega]
     refine has_moved hd _ (by omega) ?_ ?_ c
     · rw[← el]
       intro i hi hi2
       have h01:=two_succ level
       have:=(hdone (i-2^level) (by omega)).1
       rwa [place_self (by omega),show 2^level+(i-2^level)=i by omega]at this
     · rw[← el]
       intro i hi hi2
       have h01:=two_succ level
       have h02:=two_succ2 level
       by_cases hlt:i-2^(level+1)<2^level
       · have:=(hdone (i-2^(level+1)) hlt).2.1
         rwa [place_self (by omega),show 2^(level+1)+(i-2^(level+1))=i by omega]at this
       · have:=(hdone (i-2^(level+1)-2^level) (by omega)).2.2
         rwa [show i-2^(level+1)-2^level+2^level=i-2^(level+1)by omega,place_self (by omega),show 2^(level+1)+(i-2^(level+1))=i by omega]at this
   · rw[swap_miss e]
     exact Iff.rfl
 |wordLoad word by_ stop t=>
   unfold stepF
   dsimp only
   split
   · rw[stopF_mem];exact Iff.rfl
   · exact Iff.rfl
 |wordSwap word by_ stop v t=>
   obtain⟨hk,_⟩:=hk
   have hw:32≤word∧word<34:=by
     cases t with
     |back t=>cases t with
       |done r=>have:=hk.2.1;unfold COUNT at this;omega
       |evict j s g=>have:=hk.2.1;unfold COUNT at this;omega
     |room f a th c r=>have:=hk.1;unfold COUNT at this;omega
     |serial f a th c=>have:=hk.1;unfold SERIAL at this;omega
   unfold stepF
   dsimp only
   by_cases e:m.word word=v
   · rw[swap_hit e]
     dsimp only
     rw[if_pos rfl,wthenF_mem]
     exact has_num hd _ _ hw.1 hw.2 c
   · rw[swap_miss e]
     exact Iff.rfl
 |put f a t d r=>exact absurd rfl (n1 _ _ _ _ _)
 |allow f at_ there d=>
   unfold stepF
   dsimp only
   split
   · rw[leave_mem];exact Iff.rfl
   · exact Iff.rfl
 |peek d=>exact Iff.rfl
 |evictStart=>exact Iff.rfl
 |evictClock j shards gone word v cells=>
   unfold stepF
   dsimp only
   split
   · rw[further_mem];exact Iff.rfl
   · exact Iff.rfl
 |evictSwap j s g w v r n=>exact absurd rfl (n2 _ _ _ _ _ _ _)
theorem curHold_wf {m:Mem} (hL:Lies list m) (sum:Nat):WfL (curHold m sum):=by
 unfold curHold
 split
 · exact(hL.wf _).filter _
 · exact hL.wf _
theorem wf_one {L:List Cell} (h:WfL L) {c d:Cell} (hc:c∈L) (hd:d∈L) (e:cid c=cid d):c=d:=by
 obtain⟨i,hi,rfl⟩:=List.getElem_of_mem hc
 obtain⟨j,hj,rfl⟩:=List.getElem_of_mem hd
 have ho:=List.pairwise_iff_getElem.1 h.order
 rcases Nat.lt_trichotomy i j with h1|h1|h1
 · have:=ho i j hi hj h1
   unfold identLt at this
   unfold cid at e
   rw[e,cmp_self]at this
   omega
 · subst h1;rfl
 · have:=ho j i hj hi h1
   unfold identLt at this
   unfold cid at e
   rw[e,cmp_self]at this
   omega
theorem find_congr {L L':List Cell} (h:WfL L) (h':WfL L') {pol:Int} {key:List Nat} (hm: ∀c,cid c=ident pol key→(c∈L↔c∈L')):findCell L pol key=findCell L' pol key∧findThere L pol key=findThere L' pol key:=by
 cases e:findThere L pol key with
 |true=>
   obtain⟨c,_,h2,h3,h4⟩:=there_get e
   have h5:=(hm c h2).1 h4
   cases e':findThere L' pol key with
   |true=>
     obtain⟨c',_,g2,g3,g4⟩:=there_get e'
     exact⟨by rw[h3,g3];exact wf_one h' h5 g4 (h2.trans g2.symm),rfl⟩
   |false=>exact absurd h2 ((not_there h' e').2 c h5)
 |false=>
   have hn:=not_there h e
   cases e':findThere L' pol key with
   |true=>
     obtain⟨c',_,g2,g3,g4⟩:=there_get e'
     exact absurd g2 (hn.2 c' ((hm c' g2).2 g4))
   |false=>exact⟨by rw[hn.1,(not_there h' e').1],rfl⟩
def cellAt (m:Mem) (pol:Int) (key:List Nat):Cell:=findCell (curHold m (sumB (ident pol key))) pol key
def isAt (m:Mem) (pol:Int) (key:List Nat):Bool:=findThere (curHold m (sumB (ident pol key))) pol key
theorem cellAt_congr {m m':Mem} (h:Lies list m) (h':Lies list m') (hh: ∀c,Has m' c↔Has m c) (pol:Int) (key:List Nat):cellAt m' pol key=cellAt m pol key∧isAt m' pol key=isAt m pol key:=by
 refine find_congr (curHold_wf h' _) (curHold_wf h _) fun c hc=> ?_
 have:=hh c
 unfold Has idSum at this
 rw[← show cid c=ident c.pol c.key from rfl,hc]at this
 exact this
def giveAt (B:Below) (list:List Pol) (m:Mem) (x:Live):Reply×Cell:=giveF B (polOf list x) (cellAt m x.call.pol x.call.key) x.call.n
def RelK (B:Below) (list:List Pol) (m:Mem) (x:Live):Kont→Prop
 | .put f at_ there c r=>m.word f.word=f.v∧there=true∧(giveAt B list m x).1.e=0∧c=(giveAt B list m x).2∧r=(giveAt B list m x).1
 |_=>True
structure RelO (B:Below) (list:List Pol) (m0:Mem) (x0:Live) (o:Out):Prop where
 on: ∀k,o.1= .inl k→(∀c,Has o.2.2 c↔Has m0 c)∧RelK B list o.2.2 o.2.1 k
 fin: ∀r,o.1= .inr r→r=(giveAt B list m0 x0).1∧(((giveAt B list m0 x0).1.e≠0∧ ∀c,Has o.2.2 c↔Has m0 c)∨((giveAt B list m0 x0).1.e=0∧ ∀d,Has o.2.2 d↔if cid d=cid (giveAt B list m0 x0).2 then d=(giveAt B list m0 x0).2 else Has m0 d))
theorem RelO.more {B:Below} {m0 m:Mem} {x0 x:Live} {k:Kont} (h1: ∀c,Has m c↔Has m0 c) (h2:RelK B list m x k):RelO B list m0 x0 (more k x m):=
 ⟨fun k' e=>by cases e;exact⟨h1,h2⟩,fun r e=>by cases e⟩
end Go.Proofs.YtemnhpdjoimjbaaGreatDoor.Top
end
section
namespace Go.Proofs.YtemnhpdjoimjbaaGreatDoor
open Go.RowKit Top Go.Sort
set_option linter.unusedVariables false
abbrev GoodCV (w:World):={x:CV // x.ok w∧CellOk x.c }
theorem held_nil (w:World):HeldAt w (.slice none 0 0) []:=Row.nil w _ _ none 0 (by decide)
theorem key_nil (w:World):KeyAt w (.slice none 0 0) []:=⟨fun x h=>(by cases h),Row.nil w _ _ none 0 (by decide)⟩
instance goodInh (w:World):Inhabited (GoodCV w):=⟨⟨⟨⟨0,[],0,[]⟩,.slice none 0 0,.slice none 0 0⟩,⟨key_nil w,held_nil w⟩,⟨by decide,by decide,by decide,fun b h=>(by cases h),by decide,by decide,fun n h=>(by cases h),List.Pairwise.nil,by decide⟩⟩⟩
def encG (w:World) (x:GoodCV w):List Value:=x.val.enc
def cfG (w:World) (x y:GoodCV w):Int:=cmpB (cid x.val.c) (cid y.val.c)
end Go.Proofs.YtemnhpdjoimjbaaGreatDoor
end
section
namespace Go.Proofs.YtemnhpdjoimjbaaGreatDoor
open Go.RowKit Top
set_option linter.unusedVariables false
variable {list : List Pol}
structure ShardOk (m:Mem) (i:Nat):Prop where
 own: ∀c∈(shardF m i).flatten,shardOf c (lvlOf m)=i
 ne:(shardF m i).flatten.Pairwise fun a b=>cid a≠cid b
 has: ∀c,shardOf c (lvlOf m)=i→(c∈(shardF m i).flatten↔Has m c)
def allF (m:Mem):List Cell:=(shardsF m (2^lvlOf m)).flatten
end Go.Proofs.YtemnhpdjoimjbaaGreatDoor
end
section
namespace Go.Proofs.YtemnhpdjoimjbaaGreatDoor
open Go.RowKit Top
set_option linter.unusedVariables false
variable {list : List Pol}
end Go.Proofs.YtemnhpdjoimjbaaGreatDoor
end
section
namespace Go.Proofs.YtemnhpdjoimjbaaGreatDoor
open Go.RowKit Top
set_option linter.unusedVariables false
variable {list : List Pol}
end Go.Proofs.YtemnhpdjoimjbaaGreatDoor
end
section
namespace Go.Proofs.YtemnhpdjoimjbaaGreatDoor
open Go.RowKit Top
set_option linter.unusedVariables false
def relC (key:List Nat) (serial:Int):Top.Call:=⟨3,1,key,serial⟩
theorem start_pd {s:Top.Sys} {who:Nat} {c:Top.Call} (hp:s.pd who=none):startS s who c=⟨s.m,setP s.pd who (some (liveOf c,firstK c))⟩:=by unfold startS;rw[hp]
theorem alone_call {list:List Pol} {room:Nat} (T:TabOk list room) {s:Top.Sys} {n who:Nat} {c:Top.Call} (hok:SysOk list room s n) (hn:n+600<4611686018427387900) (hw:who<64) (hp:s.pd who=none) (hc:CallIn list c):
   ∃r s',aloneS list room BlV who 512 (startS s who c)=some (r,s')∧SysOk list room s' (n+512)∧s'.pd who=none∧(∀j,j≠who→s'.pd j=s.pd j)∧s'.m.clock=s.m.clock:=by
 have h1:=hok.start hw hc
 have e:=start_pd (c:=c) hp
 have hk:=(first_ok (list:=list) (room:=room) hc s.m).1
 have hcost:=cost_le hk
 rw[e]at h1 ⊢
 obtain⟨r,s',h2,h3,h4,h5,h6⟩:=alone_ends sound_V T hw 512 n _ _ _ h1 (by omega) (setP_self s.pd who _) (by show cost s.m _<512;omega)
 exact⟨r,s',h2,h3,h4,fun j hj=>(h5 j hj).trans (setP_ne _ _ hj),h6⟩
end Go.Proofs.YtemnhpdjoimjbaaGreatDoor
end
section
namespace Go.Proofs.YtemnhpdjoimjbaaGreatDoor
open Go.RowKit Top
set_option linter.unusedVariables false
theorem m0_word (i:Nat):m0.word i=if i=1 then 1 else 0:=by
 have h: ∀i,i<34→m0.word i=if i=1 then 1 else 0:=by decide
 by_cases hi:i<34
 · exact h i hi
 · unfold Mem.word
   rw[List.getD_eq_getElem?_getD,List.getElem?_eq_none (by show 34≤i;omega),if_neg (by omega)]
   rfl
theorem tot_none : ∀n,tot (fun _=>none) n=0
 |0=>rfl
 |n+1=>by
   show tot (fun _=>none) n+0=0
   rw[tot_none n]
theorem dir0 :Dir m0:=by
 have w0:m0.word 0=0:=rfl
 refine⟨rfl,rfl,by rw[w0];decide,fun i h1 h2=> ?_,fun i h1 h2=> ?_,fun i h1 h2=> ?_,fun i h1 h2=> ?_,by decide⟩
 · rw[w0]at h2
   have h2:i<1:=h2
   omega
 · rw[w0]at h1 h2
   have h1:1≤i:=h1
   have h2:i<2:=h2
   obtain rfl:i=1:=by omega
   exact⟨by decide,fun _=>by decide⟩
 · rw[w0]at h1
   have h1:2≤i:=h1
   rw[m0_word,if_neg (by omega)]
   exact⟨by decide,fun h=>absurd rfl h⟩
 · rw[m0_word]
   split
   · exact⟨by decide,by decide⟩
   · exact⟨by decide,by decide⟩
theorem sys0 (list:List Pol) (room:Nat):SysOk list room ⟨m0,fun _=>none⟩ 1:=by
 refine⟨⟨dir0,⟨fun i=>by rw[m0_hold];exact WfL.nil,fun l s hl c hc=>(by rw[m0_hold]at hc;cases hc),fun i c hc=>(by rw[m0_hold]at hc;cases hc)⟩,?_,?_,?_,by decide⟩,fun who x k _ h=>(by cases h),by decide⟩
 · show m0.word 32=size m0+tot (fun _=>none) 64
   rw[tot_none]
   rfl
 · show m0.word 32≤room
   exact Nat.zero_le _
 · show m0.word 33≤_
   decide
theorem fit_fits {p:Pk} (h:PkOk p) (hk: ∀b∈p.c.key,b<256):PkFit tabL (fitP p)∧(fitP p).who<5:=by
 obtain⟨h1,h2,h3,h4,h5,h6,h7,h8,h9,h10⟩:=h
 have ho:1≤fitOp p.c.op∧fitOp p.c.op≤6:=by unfold fitOp;split<;>constructor<;>omega
 have hw:0≤p.who%18446744073709551616%5∧p.who%18446744073709551616%5<5:=by omega
 refine⟨⟨?_,⟨(p.who%18446744073709551616%5).toNat,?_,?_⟩,⟨⟨ho.1,ho.2,fun e=> ?_,?_,?_,fun e1 e2=> ?_⟩,fun b hb=>hk b (List.mem_of_mem_take hb),?_⟩,?_,?_⟩,hw.2⟩
 · show p.kind%3<3
   omega
 · show p.who%18446744073709551616%5=_
   omega
 · omega
 · have e:fitOp p.c.op=1:=e
   show 0≤fitN (fitOp p.c.op) p.c.n∧fitN (fitOp p.c.op) p.c.n≤4611686018427387903
   rw[e]
   exact clampI_tick _
 · show(p.c.key.take 2).length≤255
   rw[List.length_take]
   omega
 · show ∃q:Nat,fitPol (fitOp p.c.op) p.c.pol=(q:Int)∧q<2
   unfold fitPol
   split
   · exact⟨1,rfl,by decide⟩
   · exact⟨0,rfl,by decide⟩
 · have e1:fitOp p.c.op≤4:=e1
   have e2:kindOf (fitOp p.c.op)≠0:=e2
   show(tabL.getD (fitPol (fitOp p.c.op) p.c.pol).toNat default).kind=kindOf (fitOp p.c.op)
   have ho4:fitOp p.c.op=1∨fitOp p.c.op=2∨fitOp p.c.op=3∨fitOp p.c.op=4:=by omega
   rcases ho4 with e|e|e|e
   · rw[e];rfl
   · rw[e];rfl
   · rw[e];rfl
   · rw[e]at e2
     exact absurd rfl e2
 · show -9223372036854775808≤fitN (fitOp p.c.op) p.c.n∧fitN (fitOp p.c.op) p.c.n≤9223372036854775807
   unfold fitN
   split
   · have:=clampI_tick p.c.n
     omega
   · exact⟨h7,h8⟩
 · show 0≤p.N%18446744073709551616%40
   omega
 · show p.N%18446744073709551616%40≤4611686018427387903
   omega
theorem play_ok {list:List Pol} {room:Nat} (T:TabOk list room) {s:Top.Sys} {n:Nat} {p:Pk} (h:SysOk list room s n) (hn:n<4611686018427387900) (hp:PkFit list p):SysOk list room (playS list room s p) (n+1):=by
 obtain⟨j,hj,hj64⟩:=hp.who
 have hw:p.who.toNat<64:=by omega
 unfold playS
 split
 · exact h.step sound_V T hw hn
 split
 · exact(h.start hw hp.call.in_).mono (by omega)
 · have:=clampI_tick (s.m.clock+p.N)
   exact(h.tick this.1 this.2).mono (by omega)
end Go.Proofs.YtemnhpdjoimjbaaGreatDoor
end
section
namespace Go.Proofs.YtemnhpdjoimjbaaGreatDoor
open Go.ChangeShapes Go.WideShapes Go.Deep Go.RowKit Go.Joins Top
set_option linter.unusedVariables false
def PicksAt (w:World) (v:Value) (L:List Pk):Prop:=
 (∀p∈L,PkOk p)∧ ∃a c,v= .slice a L.length c∧L.length≤c∧c≤maxLen∧
   (0<L.length→ ∃b off,a=some ⟨b,off,none⟩∧ ∀j p,L[j]? =some p→ ∃kv,ByAt w kv p.c.key∧w.cell? ⟨b,off+j*7,none⟩=some (.int .u8 (p.kind:Nat))∧w.cell? ⟨b,off+j*7+1,none⟩=some (.int .i64 p.who)∧w.cell? ⟨b,off+j*7+2,none⟩=some (.int .u8 (p.c.op:Nat))∧w.cell? ⟨b,off+j*7+3,none⟩=some (.int .i64 p.c.pol)∧w.cell? ⟨b,off+j*7+4,none⟩=some kv∧w.cell? ⟨b,off+j*7+5,none⟩=some (.int .i64 p.c.n)∧w.cell? ⟨b,off+j*7+6,none⟩=some (.int .i64 p.N))
theorem i64_of_wf {x:Int} (h:(Lit.int .i64 x).wf=true): -9223372036854775808≤x∧x≤9223372036854775807:=by
 have e1:IntKind.i64.min= -9223372036854775808:=by decide
 have e2:IntKind.i64.max=9223372036854775807:=by decide
 simp only[Lit.wf,e1,e2,Bool.and_eq_true,decide_eq_true_eq]at h
 omega
theorem u8_of_wf {x:Int} (h:(Lit.int .u8 x).wf=true): ∃n:Nat,x=n∧n<256:=by
 have e1:IntKind.u8.min=0:=by decide
 have e2:IntKind.u8.max=255:=by decide
 simp only[Lit.wf,e1,e2,Bool.and_eq_true,decide_eq_true_eq]at h
 exact⟨x.toNat,by omega,by omega⟩
theorem nat_list {α:Type} {P:Nat→α→Prop}: ∀n,(∀i,i<n→ ∃x,P i x)→ ∃L:List α,L.length=n∧ ∀i,i<n→ ∃x,L[i]? =some x∧P i x
 |0,_=>⟨[],rfl,fun i hi=>by omega⟩
 |n+1,h=>by
   obtain⟨L,hl,hL⟩:=nat_list n (fun i hi=>h i (by omega))
   obtain⟨x,hx⟩:=h n (by omega)
   refine⟨L++[x],by simp [hl],fun i hi=> ?_⟩
   by_cases hin:i<n
   · rw[List.getElem?_append_left (by omega)]
     exact hL i hin
   · obtain rfl:i=n:=by omega
     rw[List.getElem?_append_right (by omega)]
     exact⟨x,by simp [hl],hx⟩
section
variable {H : Type} {enc:TypeId×Value→H} {W:World}
theorem key_trod {fuel:Nat} {cs:List Value} {x:DataW H×List MemPlace} (h:DataW.trod enc Tryz.prog W 0 (fun _=>true) true fuel 29 cs=some x): ∃v L,cs=[v]∧ByAt W v L:=by
 rcases open_slice1 Tryz.underlying29 (by kernel_rfl) h with ⟨rfl,_⟩|⟨a,len,cap,m,q,V,D,Pl,rfl,_,hl,hm,hmm,_,hcell⟩
 · exact⟨_,[],rfl,fun x h=>(by cases h),none,0,rfl,Nat.le_refl _,by decide,fun h=>by cases h⟩
 · simp at hmm
   have hall: ∀i,i<len→ ∃n:Nat,W.cell? (a.add i)=some (.int .u8 (n:Nat))∧n<256:=by
     intro i hi
     obtain⟨hc0,ht0⟩:=hcell i (by omega)
     obtain⟨x,f0,hd,w0⟩:=DataW.trod_int Tryz.underlying5 ht0
     simp at f0
     rw[f0]at hc0
     obtain⟨n,rfl,hn⟩:=u8_of_wf w0
     exact⟨n,hc0,hn⟩
   obtain⟨L,rfl,hL⟩:=nat_list len hall
   refine⟨_,L,rfl,fun x hx=> ?_,a,cap,rfl,hl,hm,fun h0=> ?_⟩
   · obtain⟨j,hj,rfl⟩:=List.getElem_of_mem hx
     obtain⟨y,h1,h2,h3⟩:=hL j hj
     rw[List.getElem?_eq_getElem hj]at h1
     injection h1 with h1
     rw[h1]
     exact h3
   · obtain⟨b,off,spot⟩:=a
     obtain⟨y0,_,hc,_⟩:=hL 0 h0
     have hspot:spot=none:=by simpa [Addr.add]using World.cell?_spot hc
     subst hspot
     have hadd: ∀j,(⟨b,off,none⟩:Addr).add j=⟨b,off+j,none⟩:=by
       intro j;unfold Addr.add;split<;>simp_all
     refine⟨b,off,rfl,fun j hj=> ?_⟩
     obtain⟨y,h1,h2,h3⟩:=hL j hj
     rw[hadd]at h2
     rw[h2,List.getD_eq_getElem?_getD,h1]
     rfl
set_option maxRecDepth 100000 in
theorem pick_trod {n:Nat} {cs:List Value} {x:DataW H×List MemPlace} (h:DataW.trod enc Tryz.prog W 0 (fun _=>true) true n 33 cs=some x): ∃(p:Pk) (kv:Value),cs=(pickA p kv).toList∧PkOk p∧ByAt W kv p.c.key:=by
 obtain⟨ys,n1,rfl,_,hlen,hyl,hf⟩:=DataW.trod_struct Tryz.underlying33 h
 have hc:Tryz.prog.cellsOf 33=7:=by kernel_rfl
 rw[hc]at hlen
 obtain⟨c0,c1,c2,c3,c4,c5,c6,rfl⟩: ∃c0 c1 c2 c3 c4 c5 c6,cs=[c0,c1,c2,c3,c4,c5,c6]:=by
   match cs,hlen with
   |[c0,c1,c2,c3,c4,c5,c6],_=>exact⟨_,_,_,_,_,_,_,rfl⟩
 have k1:Tryz.prog.cellsOf 5=1:=by kernel_rfl
 have k2:Tryz.prog.cellsOf 3=1:=by kernel_rfl
 have k3:Tryz.prog.cellsOf 31=4:=by kernel_rfl
 have k4:Tryz.prog.cellsOf 2=1:=by kernel_rfl
 have k5:Tryz.prog.cellsOf 29=1:=by kernel_rfl
 have t0:DataW.trod enc Tryz.prog W 0 (fun _=>true) true n1 5 (([c0,c1,c2,c3,c4,c5,c6].drop 0).take (Tryz.prog.cellsOf 5))=ys[0]? :=hf 0 _ rfl
 have t1:DataW.trod enc Tryz.prog W 0 (fun _=>true) true n1 3 (([c0,c1,c2,c3,c4,c5,c6].drop 1).take (Tryz.prog.cellsOf 3))=ys[1]? :=hf 1 _ rfl
 have t2:DataW.trod enc Tryz.prog W 0 (fun _=>true) true n1 31 (([c0,c1,c2,c3,c4,c5,c6].drop 2).take (Tryz.prog.cellsOf 31))=ys[2]? :=hf 2 _ rfl
 have t3:DataW.trod enc Tryz.prog W 0 (fun _=>true) true n1 2 (([c0,c1,c2,c3,c4,c5,c6].drop 6).take (Tryz.prog.cellsOf 2))=ys[3]? :=hf 3 _ rfl
 have hs: ∀i,i<4→ ∃y,ys[i]? =some y:=fun i hi=>⟨_,List.getElem?_eq_getElem (by rw[hyl];exact hi)⟩
 obtain⟨y0,e0⟩:=hs 0 (by decide)
 obtain⟨y1,e1⟩:=hs 1 (by decide)
 obtain⟨y2,e2⟩:=hs 2 (by decide)
 obtain⟨y3,e3⟩:=hs 3 (by decide)
 rw[e0]at t0
 rw[e1]at t1
 rw[e2]at t2
 rw[e3]at t3
 rw[k1]at t0
 rw[k2]at t1
 rw[k3]at t2
 rw[k4]at t3
 simp only[List.drop_zero,List.drop_succ_cons,List.take_succ_cons,List.take_zero]at t0 t1 t2 t3
 obtain⟨x0,f0,_,w0⟩:=DataW.trod_int Tryz.underlying5 t0
 obtain⟨x1,f1,_,w1⟩:=DataW.trod_int Tryz.underlying3 t1
 obtain⟨x3,f3,_,w3⟩:=DataW.trod_int Tryz.underlying2 t3
 obtain⟨zs,n2,rfl,_,_,hzl,hg⟩:=DataW.trod_struct Tryz.underlying31 t2
 have s0:DataW.trod enc Tryz.prog W 0 (fun _=>true) true n2 5 (([c2,c3,c4,c5].drop 0).take (Tryz.prog.cellsOf 5))=zs[0]? :=hg 0 _ rfl
 have s1:DataW.trod enc Tryz.prog W 0 (fun _=>true) true n2 3 (([c2,c3,c4,c5].drop 1).take (Tryz.prog.cellsOf 3))=zs[1]? :=hg 1 _ rfl
 have s2:DataW.trod enc Tryz.prog W 0 (fun _=>true) true n2 29 (([c2,c3,c4,c5].drop 2).take (Tryz.prog.cellsOf 29))=zs[2]? :=hg 2 _ rfl
 have s3:DataW.trod enc Tryz.prog W 0 (fun _=>true) true n2 2 (([c2,c3,c4,c5].drop 3).take (Tryz.prog.cellsOf 2))=zs[3]? :=hg 3 _ rfl
 have hz: ∀i,i<4→ ∃y,zs[i]? =some y:=fun i hi=>⟨_,List.getElem?_eq_getElem (by rw[hzl];exact hi)⟩
 obtain⟨z0,g0⟩:=hz 0 (by decide)
 obtain⟨z1,g1⟩:=hz 1 (by decide)
 obtain⟨z2,g2⟩:=hz 2 (by decide)
 obtain⟨z3,g3⟩:=hz 3 (by decide)
 rw[g0]at s0
 rw[g1]at s1
 rw[g2]at s2
 rw[g3]at s3
 rw[k1]at s0
 rw[k2]at s1
 rw[k5]at s2
 rw[k4]at s3
 simp only[List.drop_zero,List.drop_succ_cons,List.take_succ_cons,List.take_zero]at s0 s1 s2 s3
 obtain⟨u0,h0,_,v0⟩:=DataW.trod_int Tryz.underlying5 s0
 obtain⟨u1,h1,_,v1⟩:=DataW.trod_int Tryz.underlying3 s1
 obtain⟨u3,h3,_,v3⟩:=DataW.trod_int Tryz.underlying2 s3
 obtain⟨kv,key,h2,hk⟩:=key_trod s2
 simp only[List.cons.injEq,and_true]at f0 f1 f3 h0 h1 h2 h3
 subst f0 f1 f3 h0 h1 h2 h3
 obtain⟨kd,rfl,hkd⟩:=u8_of_wf w0
 obtain⟨op,rfl,hop⟩:=u8_of_wf v0
 have b1:=i64_of_wf w1
 have b3:=i64_of_wf w3
 have d1:=i64_of_wf v1
 have d3:=i64_of_wf v3
 exact⟨⟨kd,x1,⟨op,u1,key,u3⟩,x3⟩,_,rfl,⟨hkd,b1.1,b1.2,hop,d1.1,d1.2,d3.1,d3.2,b3.1,b3.2⟩,hk⟩
theorem picks_open {d:DataW H} {p:List MemPlace} {v:Value} (h:DataW.Trod enc Tryz.prog W 0 (fun _=>true) true 22 v d p) (hv: ∃a n c,v= .slice a n c): ∃L,PicksAt W v L:=by
 obtain⟨fuel,hf⟩:=h
 obtain⟨a,n,c,rfl⟩:=hv
 have hc7:Tryz.prog.cellsOf 33=7:=by kernel_rfl
 rcases open_slice Tryz.underlying22 hf with ⟨hcs,_⟩|⟨a',len,cap,m,q,D,Pl,hcs,_,hl,hm,hmm,_,hcell⟩
 · simp [Value.cells]at hcs
   obtain⟨rfl,rfl,rfl⟩:=hcs
   exact⟨[],fun x h=>(by cases h),none,0,rfl,Nat.le_refl _,by decide,fun h=>by cases h⟩
 · simp [Value.cells]at hcs
   obtain⟨rfl,rfl,rfl⟩:=hcs
   simp at hmm
   have hall: ∀i,i<n→ ∃p:Pk,PkOk p∧ ∃kv,ByAt W kv p.c.key∧ ∀j u,(pickA p kv)[j]? =some u→W.cell? ((a'.add (i*7)).add j)=some u:=by
     intro i hi
     obtain⟨cs',hcs',ht⟩:=hcell i (by omega)
     rw[hc7]at hcs'
     obtain⟨pk,kv,rfl,hok,hk⟩:=pick_trod ht
     obtain⟨_,_,hat⟩:=World.cells?_some hcs'
     refine⟨pk,hok,kv,hk,fun j u hu=> ?_⟩
     have hj:j<7:=by
       have:=(Array.getElem?_eq_some_iff.1 hu).1
       simpa [pickA]using this
     rw[hat j hj,Array.getElem?_toList]
     exact hu
   obtain⟨L,rfl,hL⟩:=nat_list n (P:=fun i p=>PkOk p∧ ∃kv,ByAt W kv p.c.key∧ ∀j u,(pickA p kv)[j]? =some u→W.cell? ((a'.add (i*7)).add j)=some u) hall
   refine⟨L,fun x hx=> ?_,a',c,rfl,hl,hm,fun h0=> ?_⟩
   · obtain⟨j,hj,rfl⟩:=List.getElem_of_mem hx
     obtain⟨y,h1,h2,_⟩:=hL j hj
     rw[List.getElem?_eq_getElem hj]at h1
     injection h1 with h1
     rw[h1]
     exact h2
   · obtain⟨b,off,spot⟩:=a'
     obtain⟨y0,_,_,kv0,_,hc⟩:=hL 0 h0
     have hc:=hc 0 _ rfl
     have hspot:spot=none:=by simpa [Addr.add]using World.cell?_spot hc
     subst hspot
     have hadd1: ∀o j,(⟨b,o,none⟩:Addr).add j=⟨b,o+j,none⟩:=by
       intro o j;unfold Addr.add;split<;>simp_all
     have hadd: ∀j q,((⟨b,off,none⟩:Addr).add j).add q=⟨b,off+j+q,none⟩:=fun j q=>by rw[hadd1,hadd1]
     refine⟨b,off,rfl,fun j p hp=> ?_⟩
     have hj:=(List.getElem?_eq_some_iff.1 hp).1
     obtain⟨y,h1,_,kv,hk,h2⟩:=hL j hj
     rw[hp]at h1
     injection h1 with h1
     subst h1
     have g:=fun q u hu=>by have:=h2 q u hu;rwa [hadd]at this
     exact⟨kv,hk,g 0 _ rfl,g 1 _ rfl,g 2 _ rfl,g 3 _ rfl,g 4 _ rfl,g 5 _ rfl,g 6 _ rfl⟩
end
end Go.Proofs.YtemnhpdjoimjbaaGreatDoor
end
section
namespace Go.Proofs.YtemnhpdjoimjbaaGreatDoor
open Go.RowKit Top
set_option linter.unusedVariables false
theorem ByAt.news {w:World} {ad:Addr} {n c:Nat} {L:List Nat} (h:ByAt w (.slice (some ad) n c) L): ∀j u,(L.map fun(x:Nat)=>Value.int .u8 x)[j]? =some u→w.cell? (ad.add j)=some u:=by
 intro j u hu
 have hj:j<L.length:=by simpa using(List.getElem?_eq_some_iff.1 hu).1
 obtain⟨_,a',c',e,_,_,h3⟩:=h
 injection e with e1 e2 e3
 obtain⟨b,off,e,h4⟩:=h3 (by omega)
 rw[← e1]at e
 injection e with e
 subst e
 rw[Addr.add_lit,h4 j hj]
 rw[List.getElem?_map,List.getElem?_eq_getElem hj]at hu
 simp only[Option.map_some,Option.some.injEq]at hu
 rw[← hu,List.getD_eq_getElem?_getD,List.getElem?_eq_getElem hj]
 rfl
theorem new_sys (lv:Value) (room:Nat) (w:World) (hl:PolsAt w lv tabL) (r0:1≤room) (r1:room≤4096):
   Calls Tryz.prog 4 #[lv,.int .i64 room] w fun e w'=> ∃A:Adr,e= .returned (.tuple #[P A.K,.int .i64 0])∧A.list=tabL∧A.room=room∧SysAt w' w.heap.size A m0 (fun _=>none)∧Below w.heap.size w w':=by
 refine(core_new tabL lv room w hl (by decide) (by decide) (tab_ok r0 r1).good r0 r1).mono ?_
 rintro e w' ⟨K,lb,bd,M,W,H,lv',rfl,h1,h2,h3,h4,h5⟩
 exact⟨⟨K,lb,bd,M,W,H,tabL,room⟩,rfl,rfl,rfl,sys_new h1 h2 h3 h4 h5.size,h5⟩
theorem Fz.later {B:Nat} {w w':World} (h:Fz B w w') {n:Nat} (hn:n≤B) {a:World} (hb:Below n a w):Below n a w':=hb.trans (h.bel.mono hn)
end Go.Proofs.YtemnhpdjoimjbaaGreatDoor
end
