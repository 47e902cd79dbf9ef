import Derived.Test.YtemnhpdjoimjbaaGreatDoorTw05
namespace Go.Proofs.YtemnhpdjoimjbaaGreatDoor.Top
set_option linter.unusedVariables false
structure OOk (list:List Pol) (room q:Nat) (m0:Mem) (x0:Live) (o:Out):Prop where
 inv:SInv list room o.2.2 (claimO o+q)
 later:Later m0 o.2.2
 live:LiveOk list o.2.1
 call:o.2.1.call=x0.call
 clock:o.2.2.clock=m0.clock
 count:o.2.2.count=m0.count+1
 kont: ∀k,o.1= .inl k→KOk list room o.2.2 o.2.1 k
variable {list : List Pol} {room:Nat}
def base (x:Live):Nat:=if x.reserved then 1 else 0
theorem base_off {x:Live} (h:LiveOk list x) (h1:x.call.op≠1) (h2:x.call.op≠2):x.reserved=false:=by
 cases e:x.reserved with
 |false=>rfl
 |true=>rcases h.res e with h|h<;>omega
theorem base_zero {x:Live} (h:x.reserved=false):base x=0:=by unfold base;rw[h];rfl
theorem base_one {x:Live} (h:x.reserved=true):base x=1:=by unfold base;rw[h];rfl
theorem more_ok {q:Nat} {m0 m:Mem} {x0 x:Live} {k:Kont} (h1:SInv list room m (claim x k+q)) (h2:Later m0 m) (h3:LiveOk list x) (h4:x.call=x0.call) (h5:m.clock=m0.clock) (h6:m.count=m0.count+1) (h7:KOk list room m x k):OOk list room q m0 x0 (more k x m):=
 ⟨h1,h2,h3,h4,h5,h6,fun k' e=>by cases e;exact h7⟩
theorem fin_ok {q:Nat} {m0 m:Mem} {x0 x:Live} {r:Reply} (h1:SInv list room m q) (h2:Later m0 m) (h3:LiveOk list x) (h4:x.call=x0.call) (h5:m.clock=m0.clock) (h6:m.count=m0.count+1):OOk list room q m0 x0 (fin r x m):=
 ⟨by show SInv list room m (0+q);rw[Nat.zero_add];exact h1,h2,h3,h4,h5,h6,fun k' e=>by cases e⟩
theorem leave_ok {q:Nat} {m0 m:Mem} {x0 x:Live} (r:Reply) (h1:SInv list room m (base x+q)) (h2:Later m0 m) (h3:LiveOk list x) (h4:x.call=x0.call) (h5:m.clock=m0.clock) (h6:m.count=m0.count+1) (hop:x.call.op≤4):OOk list room q m0 x0 (leave r x m):=by
 unfold leave
 cases e:x.reserved with
 |true=>
   rw[if_pos rfl]
   exact more_ok h1 h2 h3 h4 h5 h6 ⟨hop,rfl,rfl,rfl,e⟩
 |false=>
   rw[if_neg (by simp)]
   rw[base_zero e,Nat.zero_add]at h1
   exact fin_ok h1 h2 h3 h4 h5 h6
theorem further_ok {q:Nat} {m0 m:Mem} {x0 x:Live} {j shards:Nat} {gone:Int} (h1:SInv list room m q) (h2:Later m0 m) (h3:LiveOk list x) (h4:x.call=x0.call) (h5:m.clock=m0.clock) (h6:m.count=m0.count+1) (hop:x.call.op=5) (hj:j<shards) (hs:shards≤16) (hg0:0≤gone) (hg1:gone≤(j+1)*1048576):OOk list room q m0 x0 (further j shards gone x m):=by
 unfold further
 split
 · exact fin_ok h1 h2 h3 h4 h5 h6
 · refine more_ok ?_ h2 h3 h4 h5 h6 ⟨hop,rfl,by omega,hs,hg0,by omega⟩
   show SInv list room m (base x+q)
   rw[base_zero (base_off h3 (by omega) (by omega)),Nat.zero_add]
   exact h1
theorem list_good (T:TabOk list room) {x:Live} (h:LiveOk list x) (hop:x.call.op≤4):PolGood (polOf list x)∧0≤x.call.pol∧x.call.pol<32:=by
 obtain⟨p,hp,hlt⟩:=h.pol hop
 have:=T.few
 unfold polOf
 rw[hp]
 refine⟨T.good _ ?_,by omega,by omega⟩
 rw[Int.toNat_natCast,List.getD_eq_getElem?_getD,List.getElem?_eq_getElem hlt]
 exact List.getElem_mem hlt
theorem found_put (T:TabOk list room) {x:Live} (h:LiveOk list x) (hop:x.call.op≤4) {w:Nat} {L:List Cell} (hL:LiesL list w L):CPut list x (findCell L x.call.pol x.call.key):=by
 have hg:=list_good T h hop
 have hid:=findCell_id hL.wf (key:=x.call.key) hg.2.1 hg.2.2
 refine⟨findCell_ok hL.wf hg.2.1 hg.2.2 (h.klen hop) h.kb,hid.1,hid.2,?_⟩
 cases ht:findThere L x.call.pol x.call.key with
 |true=>
   obtain⟨c,_,_,h3,h4⟩:=there_get ht
   rw[h3]
   exact hL.perm c h4
 |false=>
   rw[(not_there hL.wf ht).1]
   obtain⟨p,hp,hlt⟩:=h.pol hop
   refine⟨by show x.call.pol<list.length;omega,fun hk=> ?_⟩
   have:=hg.1
   unfold polOf at this
   rcases this with h|h
   · rw[h.1]at hk;cases hk
   · show((0:Nat):Int)≤_
     have:=h.2.1
     show(0:Int)≤(list.getD x.call.pol.toNat default).permits
     omega
theorem putK_ok {q:Nat} {m0 m:Mem} {x0 x:Live} {f:Found} {at_:Nat} {there:Bool} {c:Cell} (r:Reply) (h1:SInv list room m (base x+q)) (h2:Later m0 m) (h3:LiveOk list x) (h4:x.call=x0.call) (h5:m.clock=m0.clock) (h6:m.count=m0.count+1) (hp:PutP list room m x f at_ there c) (hop:(x.call.op=1∨x.call.op=2)∨there=true):OOk list room q m0 x0 (more (putK room f at_ there c r x) x m):=by
 unfold putK
 cases e:(there||x.reserved)with
 |true=>
   rw[if_pos rfl]
   refine more_ok h1 h2 h3 h4 h5 h6 ⟨hp,?_⟩
   simpa using e
 |false=>
   rw[if_neg (by simp)]
   have e':there=false∧x.reserved=false:=by simpa using e
   refine more_ok h1 h2 h3 h4 h5 h6 ⟨rfl,rfl,rfl,?_,e'.1,e'.2,hp⟩
   rcases hop with h|h
   · exact h
   · rw[e'.1]at h;cases h
theorem thenF_ok {B:Below} (hB:Sound B) (T:TabOk list room) {q:Nat} {m:Mem} {x:Live} {t:Then} {sum level:Nat} (h1:SInv list room m (base x+q)) (h3:LiveOk list x) (ht:TOkP x sum t) (hlev:level≤4) (hl:m.live (place level sum)):
   OOk list room q m x (thenF B list room t (place level sum) (m.word (place level sum)) (m.hold (place level sum)) x m.touch):=by
 have hbd:=place_bd (s:=sum) hlev
 have hlies:=h1.lies.at_ (place level sum)
 have hlen:=live_size h1.dir hbd.1 hbd.2 hl
 have hv:Ver list room m.touch (place level sum) (m.word (place level sum)) (m.hold (place level sum)):=
   ⟨hl.1,hl.2,Nat.le_refl _,fun _=>rfl,hlies,by have:=h1.cnt;have:=h1.cnt2;omega⟩
 cases t with
 |evict j shards gone=>
   obtain⟨a,b,c,d,e,f⟩:=ht
   have hb:=base_zero (base_off h3 (by omega) (by omega))
   unfold thenF
   dsimp only
   split
   · rw[hb,Nat.zero_add]at h1
     exact further_ok h1.touch (Later.touch m) h3 rfl rfl rfl a c d e (by omega)
   · rename_i hem
     refine more_ok h1.touch (Later.touch m) h3 rfl rfl rfl ⟨⟨a,rfl,c,d,e,f⟩,hv,fun h0=>hem (by rw[h0];rfl),level,hlev,?_⟩
     rw[b]
 |call=>
   obtain⟨hop,hsum⟩:=ht
   have hg:=list_good T h3 hop
   have hfp:=found_put T h3 hop hlies
   have hput:PutP list room m.touch x ⟨place level sum,m.word (place level sum),m.hold (place level sum)⟩ (findAt (m.hold (place level sum)) x.call.pol x.call.key) (findThere (m.hold (place level sum)) x.call.pol x.call.key) (findCell (m.hold (place level sum)) x.call.pol x.call.key):=
     ⟨hop,hv,⟨level,hlev,by rw[← hsum]⟩,rfl,rfl,hfp⟩
   generalize hc:findCell (m.hold (place level sum)) x.call.pol x.call.key=c at hput hfp
   generalize hat:findAt (m.hold (place level sum)) x.call.pol x.call.key=at_ at hput
   generalize hth:findThere (m.hold (place level sum)) x.call.pol x.call.key=there at hput
   have hperm:(polOf list x).kind=2→(c.held.length:Int)≤(polOf list x).permits:=by
     intro hk
     have:=hfp.perm.2
     rw[hfp.pol]at this
     exact this hk
   have hinl:x.call.pol<list.length:=by have:=hfp.perm.1;rwa [hfp.pol]at this
   unfold thenF
   dsimp only
   rw[hc,hat,hth]
   by_cases o1:x.call.op=1
   · rw[if_pos o1]
     exact more_ok h1.touch (Later.touch m) h3 rfl rfl rfl ⟨o1,hput⟩
   rw[if_neg o1]
   by_cases o2:x.call.op=2
   · rw[if_pos o2]
     have hk:=h3.kind2 (.inl o2)
     unfold acquireF
     split
     · exact leave_ok _ h1.touch (Later.touch m) h3 rfl rfl rfl hop
     split
     · have htk:=hB.take (polOf list x) c x.serial hg.1 hk hfp.ok (hperm hk)
       have hs:=(hB.same (polOf list x) c x.serial).1
       refine putK_ok _ h1.touch (Later.touch m) h3 rfl rfl rfl ⟨hput.1,hput.2.1,hput.2.2.1,hput.2.2.2.1,hput.2.2.2.2.1,⟨htk.1,by rw[hs.1,hfp.pol],by rw[hs.2,hfp.key],by rw[hs.1,hfp.pol];exact hinl,fun _=> ?_⟩⟩ (.inl (.inr o2))
       rw[hs.1,hfp.pol]
       exact htk.2
     · exact more_ok h1.touch (Later.touch m) h3 rfl rfl rfl ⟨rfl,rfl,rfl,o2,hput⟩
   rw[if_neg o2]
   by_cases o3:x.call.op=3
   · rw[if_pos o3]
     have hk:=h3.kind2 (.inr o3)
     have hb:=base_zero (base_off h3 (by omega) (by omega))
     split
     · rw[hb,Nat.zero_add]at h1
       exact fin_ok h1.touch (Later.touch m) h3 rfl rfl rfl
     · rename_i he
       have htk:=hB.give (polOf list x) c x.call.n hg.1 hk hfp.ok (hperm hk)
       have hs:=(hB.same (polOf list x) c x.call.n).2
       have hne:=hB.has (polOf list x) c x.call.n (by omega)
       have hthere:there=true:=by
         cases ht:there with
         |true=>rfl
         |false=>
           rw[ht]at hth
           rw[(not_there hlies.wf hth).1]at hc
           rw[← hc]at hne
           exact absurd rfl hne
       refine putK_ok _ h1.touch (Later.touch m) h3 rfl rfl rfl ⟨hput.1,hput.2.1,hput.2.2.1,hput.2.2.2.1,hput.2.2.2.2.1,⟨htk.1,by rw[hs.1,hfp.pol],by rw[hs.2,hfp.key],by rw[hs.1,hfp.pol];exact hinl,fun _=> ?_⟩⟩ (.inr hthere)
       rw[hs.1,hfp.pol]
       exact htk.2
   rw[if_neg o3]
   have hb:=base_zero (base_off h3 (by omega) (by omega))
   split
   · rw[hb,Nat.zero_add]at h1
     exact fin_ok h1.touch (Later.touch m) h3 rfl rfl rfl
   · refine more_ok h1.touch (Later.touch m) h3 rfl rfl rfl ?_
     show x.call.op=4
     have:=h3.op0
     omega
theorem enteredF_ok {B:Below} (hB:Sound B) (T:TabOk list room) {q:Nat} {m:Mem} {x:Live} {t:Then} {sum level:Nat} (h1:SInv list room m (base x+q)) (h3:LiveOk list x) (ht:TOkP x sum t) (hlev:level≤4):
   OOk list room q m x (enteredF B list room sum (place level sum) (m.word (place level sum)) (m.hold (place level sum)) t x m.touch):=by
 unfold enteredF
 split
 · exact more_ok h1.touch (Later.touch m) h3 rfl rfl rfl ht
 · rename_i h
   exact thenF_ok hB T h1 h3 ht hlev ⟨by omega,by omega⟩
theorem moveK_ok {m:Mem} {x:Live} {level i:Nat} (hop:x.call.op=6) (hl:level≤3) (hi:i≤2^level) (hd:2*level+1≤m.word 0) (h:Done m level i):KOk list room m x (moveK level i):=by
 unfold moveK
 split
 · rename_i e;subst e;exact⟨hop,hl,hd,h⟩
 · exact⟨hop,hl,by omega,rfl,hd,h⟩
theorem claim_moveK (x:Live) (level i:Nat):claim x (moveK level i)=base x:=by
 unfold moveK;split<;>rfl
theorem fthenF_ok {m:Mem} {x:Live} {w:Nat} {t:FThen} (h:FOk m x w t) (hf:FRZ≤m.word w):KOk list room m x (fthenF t (m.hold w)):=by
 cases t with
 |find level sum t=>
   obtain⟨h1,h2,h3,h4⟩:=h
   exact⟨level,rfl,h2,h4,by rw[← h3];exact hf,by rw[← h3],h1,rfl⟩
 |move level i=>
   obtain⟨h1,h2,h3,h4,h5,h6⟩:=h
   exact⟨level,rfl,h2,h5,by rw[← h4];exact hf,by rw[← h4],h1,rfl,rfl,h3,rfl,h6⟩
theorem claim_fthenF (x:Live) (t:FThen) (h:List Cell):claim x (fthenF t h)=base x:=by
 cases t<;>rfl
theorem place_add (l i:Nat):place l (i+2^l)=place l i:=by unfold place;rw[Nat.add_mod_right]
theorem hthenF_ok {B:Below} (hB:Sound B) (T:TabOk list room) {q:Nat} {m:Mem} {x:Live} {level shard:Nat} {holds:List Cell} {t:HThen} (h1:SInv list room m (base x+q)) (h3:LiveOk list x) (hk:HOkP m x level shard holds t) (hz:m.word (place level shard)≠0):
   OOk list room q m x (hthenF B list room t (place level shard) (m.word (place level shard)) (m.hold (place level shard)) x m.touch):=by
 obtain⟨l,rfl,hl,hd,hf,hh,ht⟩:=hk
 cases t with
 |find sum t=>
   obtain⟨ht,rfl⟩:=ht
   unfold hthenF
   dsimp only
   rw[if_neg hz]
   exact enteredF_ok hB T h1 h3 ht (by omega)
 |one l' i h=>
   obtain⟨a,rfl,rfl,d,rfl,f⟩:=ht
   refine more_ok h1.touch (Later.touch m) h3 rfl rfl rfl ⟨l',rfl,hl,hd,?_,?_,a,rfl,rfl,d,f,hz⟩
   · rw[place_add];exact hf
   · rw[place_add];exact hh
 |two l' i=>
   obtain⟨a,rfl,rfl,d,e,f⟩:=ht
   refine more_ok (by rw[claim_moveK];exact h1.touch) (Later.touch m) h3 rfl rfl rfl (moveK_ok a hl (by omega) hd ?_)
   intro i' hi'
   by_cases ei:i'=i
   · subst ei
     rw[place_add]at hf
     exact⟨hf,f,hz⟩
   · exact e i' (by omega)
theorem hthenF_laid {B:Below} {q:Nat} {m0 m:Mem} {x:Live} {level shard:Nat} {holds h:List Cell} {t:HThen} (h1:SInv list room m (base x+q)) (h2:Later m0 m) (h3:LiveOk list x) (h5:m.clock=m0.clock) (h6:m.count=m0.count+1) (hk:HOkP m x level shard holds t) (hz:m.word (place level shard)≠0):
   OOk list room q m0 x (hthenF B list room t (place level shard) 0 h x m):=by
 obtain⟨l,rfl,hl,hd,hf,hh,ht⟩:=hk
 cases t with
 |find sum t=>
   obtain⟨ht,rfl⟩:=ht
   exact more_ok h1 h2 h3 rfl h5 h6 ⟨ht,l+1,by omega,rfl⟩
 |one l' i h=>
   obtain⟨a,rfl,rfl,d,rfl,f⟩:=ht
   refine more_ok h1 h2 h3 rfl h5 h6 ⟨l',rfl,hl,hd,?_,?_,a,rfl,rfl,d,f,hz⟩
   · rw[place_add];exact hf
   · rw[place_add];exact hh
 |two l' i=>
   obtain⟨a,rfl,rfl,d,e,f⟩:=ht
   refine more_ok (by rw[claim_moveK];exact h1) h2 h3 rfl h5 h6 (moveK_ok a hl (by omega) hd ?_)
   intro i' hi'
   by_cases ei:i'=i
   · subst ei
     rw[place_add]at hf
     exact⟨hf,f,hz⟩
   · exact e i' (by omega)
theorem neg_add {v n:Nat} (hv:v<U64) (hn0:1≤n) (hn:n≤v):(v+neg n)%U64=v-n:=by
 unfold neg
 unfold U64 at*
 omega
theorem neg_claim {n:Nat} (h1:1≤n) (h2:n≤1048576):U64-neg n=n:=by
 unfold neg U64
 omega
set_option maxHeartbeats 1000000 in
theorem step_ok {B:Below} (hB:Sound B) (T:TabOk list room) {q:Nat} {m:Mem} {x:Live} {k:Kont} (h1:SInv list room m (claim x k+q)) (h3:LiveOk list x) (hk:KOk list room m x k) (hc:m.count<4611686018427387900):
   OOk list room q m x (stepF B list room k x m):=by
 have hd:=h1.dir
 have hr2:=T.room2
 cases k with
 |find sum t=>
   unfold stepF
   dsimp only
   split
   · exact more_ok h1.touch (Later.touch m) h3 rfl rfl rfl ⟨hk,_,hd.lvl4,rfl⟩
   · exact more_ok h1.touch (Later.touch m) h3 rfl rfl rfl ⟨hk,hd.lvl3 (by omega),rfl,by show 2*(m.word 0/2)+1≤m.word 0;omega⟩
 |enter sum word t=>
   obtain⟨ht,l,hl,rfl⟩:=hk
   exact enteredF_ok hB T h1 h3 ht hl
 |freeze word t=>
   unfold stepF
   dsimp only
   have hw: ∃l s,word=place l s∧l≤4:=by
     cases t with
     |find level sum t=>exact⟨_,_,hk.2.2.1,by have:=hk.2.1;omega⟩
     |move level i=>exact⟨_,_,hk.2.2.2.1,by have:=hk.2.1;omega⟩
   split
   · rename_i hf
     exact more_ok (by rw[claim_fthenF];exact h1.touch) (Later.touch m) h3 rfl rfl rfl (fthenF_ok (m:=m.touch) hk hf)
   · rename_i hf
     obtain⟨l,s,rfl,hl⟩:=hw
     have b:=place_bd (s:=s) hl
     have hdl:2*l+1≤m.word 0:=by
       cases t with
       |find level sum t=>have:=(place_inj hk.2.2.1).1;have:=hk.2.2.2;omega
       |move level i=>have:=(place_inj hk.2.2.2.1).1;have:=hk.2.2.2.2.1;omega
     have hpl:=place_lt l s
     have h0:=two_pos l
     have hone:1≤m.word (place l s):=by
       by_cases e:l=m.word 0/2
       · rw[e]at hpl ⊢
         exact(hd.cur _ hpl.1 hpl.2).1
       · have hlt:2^(l+1)≤2^(m.word 0/2):=two_le (by omega)
         have:=hd.old (place l s) (by omega) (by omega)
         have:=frz_pos
         omega
     have hlv:m.live (place l s):=⟨hone,by omega⟩
     refine more_ok h1.touch (Later.touch m) h3 rfl rfl rfl ⟨hk,⟨hone,by omega,Nat.le_refl _,fun _=>rfl,h1.lies.at_ _,?_⟩⟩
     have:=live_size hd b.1 b.2 hlv
     have:=h1.cnt
     have:=h1.cnt2
     show(m.hold (place l s)).length≤room
     omega
 |freezeSwap word v holds t=>
   obtain⟨hk,hv⟩:=hk
   unfold stepF
   dsimp only
   by_cases e:m.word word=v
   · rw[swap_hit e]
     dsimp only
     rw[if_pos rfl]
     have hh:=hv.eq e
     subst hh
     subst e
     have hw: ∃l s,word=place l s∧l≤3∧2*l+1≤m.word 0:=by
       cases t with
       |find level sum t=>exact⟨_,_,hk.2.2.1,hk.2.1,hk.2.2.2⟩
       |move level i=>exact⟨_,_,hk.2.2.2.1,hk.2.1,hk.2.2.2.2.1⟩
     obtain⟨l,s,rfl,hl,hdl⟩:=hw
     have b:=place_bd (s:=s) (show l≤4 by omega)
     have hpl:=place_lt l s
     have h0:=two_pos l
     have hv1:=hv.v1
     have hv2:=hv.v2
     have el:l=m.word 0/2:=by
       refine Classical.byContradiction fun hne=> ?_
       have hlt:2^(l+1)≤2^(m.word 0/2):=two_le (by omega)
       have:=hd.old (place l s) (by omega) (by omega)
       omega
     have hodd:m.word 0%2=1:=by
       refine Classical.byContradiction fun hne=> ?_
       omega
     have hlater:Later m (m.put1 (place l s) (m.word (place l s)+FRZ) (m.hold (place l s))):=Later.put1 hd.nw hd.nh (by omega) (by omega) (fun _ _=>⟨by have:=frz_pos;omega,hv2⟩)
     have hwl:place l s<m.words.length:=by rw[hd.nw];omega
     have hwh:place l s<m.holds.length:=by rw[hd.nh];omega
     have hkk:=fthenF_ok (list:=list) (room:=room) (FOk.later hlater hk) (by rw[put1_word hwl,if_pos rfl];omega)
     rw[put1_hold hwh,if_pos rfl]at hkk
     refine more_ok ?_ hlater h3 rfl rfl rfl hkk
     rw[claim_fthenF]
     rw[el]at hpl ⊢
     exact h1.freeze hodd hpl.1 hpl.2 (by rw[← el];exact⟨hv1,hv2⟩)
   · rw[swap_miss e]
     exact more_ok h1.touch (Later.touch m) h3 rfl rfl rfl hk
 |half level shard holds t=>
   unfold stepF
   dsimp only
   split
   · rename_i hz
     exact hthenF_ok hB T h1 h3 hk hz
   · exact more_ok h1.touch (Later.touch m) h3 rfl rfl rfl hk
 |halfSwap level shard holds h t=>
   unfold stepF
   dsimp only
   by_cases e:m.word (place level shard)=0
   · rw[swap_hit e]
     dsimp only
     obtain⟨l,rfl,hl,hdl,hf,hh,ht⟩:=id hk
     have b1:=place_bd (s:=shard) (show l≤4 by omega)
     have b2:=place_bd (s:=shard) (show l+1≤4 by omega)
     have hp1:=place_lt l shard
     have hp2:=place_lt (l+1) shard
     have el:l=m.word 0/2:=by
       refine Classical.byContradiction fun hne=> ?_
       have hle:l+1≤m.word 0/2:=by omega
       by_cases e2:l+1=m.word 0/2
       · rw[e2]at hp2
         have:=(hd.cur _ hp2.1 hp2.2).1
         rw[← e2]at this
         omega
       · have hlt:2^(l+1+1)≤2^(m.word 0/2):=two_le (by omega)
         have:=hd.old (place (l+1) shard) (by omega) (by omega)
         have:=frz_pos
         omega
     have hodd:m.word 0%2=1:=by
       refine Classical.byContradiction fun hne=> ?_
       have h0:=two_pos l
       have hpl:=hp1
       rw[el]at hpl
       have:=(hd.cur _ hpl.1 hpl.2).2 (by omega)
       rw[← el]at this
       omega
     have hcut:cut holds (l+1) (place (l+1) shard-2^(l+1))=cut (m.hold (place l shard)) (l+1) (shard%2^(l+1)):=by
       rw[hh]
       congr 1
       unfold place
       omega
     rw[hcut]
     have hwl:place (l+1) shard<m.words.length:=by rw[hd.nw];omega
     have hlater: ∀L,Later m (m.put1 (place (l+1) shard) 1 L):=fun L=>Later.put1 hd.nw hd.nh (by omega) (by omega) (fun _ _=>⟨by omega,by rw[e];exact frz_pos⟩)
     refine hthenF_laid ?_ (hlater _) h3 rfl rfl (HOkP.later (hlater _) hk) (by rw[put1_word hwl,if_pos rfl];decide)
     rw[el]at e hf ⊢
     exact h1.lay hodd hf e
   · rw[swap_miss e]
     exact hthenF_laid h1.touch (Later.touch m) h3 rfl rfl hk e
 |split=>
   unfold stepF
   dsimp only
   have hb:=base_zero (base_off h3 (by rw[show x.call.op=6 from hk];decide) (by rw[show x.call.op=6 from hk];decide))
   split
   · rename_i ho
     refine more_ok (by rw[claim_moveK];exact h1.touch) (Later.touch m) h3 rfl rfl rfl (moveK_ok hk (hd.lvl3 ho) (Nat.zero_le _) (by show _≤m.word 0;omega) (fun i hi=>absurd hi (by omega)))
   split
   · have h1':SInv list room m (base x+q):=h1
     rw[hb,Nat.zero_add]at h1'
     exact fin_ok h1'.touch (Later.touch m) h3 rfl rfl rfl
   · refine more_ok h1.touch (Later.touch m) h3 rfl rfl rfl ⟨hk,by omega,?_⟩
     have:=hd.d8
     omega
 |splitSwap d level=>
   obtain⟨hop,rfl,hl⟩:=hk
   unfold stepF
   dsimp only
   by_cases e:m.word 0=2*level
   · rw[swap_hit e]
     dsimp only
     rw[if_pos rfl]
     have hwl:0<m.words.length:=by rw[hd.nw];omega
     have hlater:Later m (m.put1 0 (2*level+1) []):=Later.put1 hd.nw hd.nh (by omega) (by omega) (by omega)
     refine more_ok ?_ hlater h3 rfl rfl rfl (moveK_ok hop hl (Nat.zero_le _) (by rw[put1_word hwl,if_pos rfl];omega) (fun i hi=>absurd hi (by omega)))
     rw[claim_moveK,←e]
     exact h1.split (by omega) (by omega)
   · rw[swap_miss e]
     exact more_ok h1.touch (Later.touch m) h3 rfl rfl rfl hop
 |moveEnd level=>
   obtain⟨hop,hl,hdl,hdone⟩:=hk
   have hb:=base_zero (base_off h3 (by omega) (by omega))
   have h1':SInv list room m (base x+q):=h1
   rw[hb,Nat.zero_add]at h1'
   unfold stepF
   dsimp only
   by_cases e:m.word 0=2*level+1
   · rw[swap_hit e]
     have hlater:Later m (m.put1 0 (2*level+2) []):=Later.put1 hd.nw hd.nh (by omega) (by omega) (by omega)
     refine fin_ok ?_ hlater h3 rfl rfl rfl
     have el:level=m.word 0/2:=by omega
     rw[show 2*level+2=m.word 0+1 by omega]
     refine h1'.moved (by omega) ?_ ?_
     · rw[← el]
       intro i hi hi2
       have h01:=two_succ level
       have:=(hdone (i-2^level) (by omega)).1
       rwa [place_self (by omega),show 2^level+(i-2^level)=i by omega]at this
     · rw[← el]
       intro i hi hi2
       have h01:=two_succ level
       have h02:=two_succ2 level
       by_cases hlt:i-2^(level+1)<2^level
       · have:=(hdone (i-2^(level+1)) hlt).2.1
         rwa [place_self (by omega),show 2^(level+1)+(i-2^(level+1))=i by omega]at this
       · have:=(hdone (i-2^(level+1)-2^level) (by omega)).2.2
         rwa [show i-2^(level+1)-2^level+2^level=i-2^(level+1)by omega,place_self (by omega),show 2^(level+1)+(i-2^(level+1))=i by omega]at this
   · rw[swap_miss e]
     exact fin_ok h1'.touch (Later.touch m) h3 rfl rfl rfl
 |wordLoad word by_ stop t=>
   unfold stepF
   dsimp only
   have hc32:=h1.cnt
   have hc2:=h1.cnt2
   have hc33:=h1.ser
   split
   · rename_i es
     cases t with
     |back t=>
       have:word=COUNT∧stop=NEVER:=by cases t with
         |done r=>exact⟨hk.2.1,hk.2.2.2.1⟩
         |evict j s g=>exact⟨hk.2.1,hk.2.2.1⟩
       rw[this.1,this.2]at es
       have e32:m.word 32=18446744073709551615:=es
       omega
     |room f at_ there c r=>
       have h1':SInv list room m (base x+q):=h1
       rw[base_zero hk.2.2.2.2.2.1,Nat.zero_add]at h1'
       exact fin_ok h1'.touch (Later.touch m) h3 rfl rfl rfl
     |serial f at_ there c=>exact leave_ok _ h1.touch (Later.touch m) h3 rfl rfl rfl (by have:=hk.2.2.2.1;omega)
   · rename_i es
     refine more_ok ?_ (Later.touch m) h3 rfl rfl rfl ⟨WOkP.later (Later.touch m) hk,?_,es,?_⟩
     · have:claim x (.wordSwap word by_ stop (m.word word) t)=claim x (.wordLoad word by_ stop t):=by
         cases t with
         |back t=>cases t<;>rfl
         |room f at_ there c r=>rfl
         |serial f at_ there c=>rfl
       rw[this]
       exact h1.touch
     · cases t with
       |back t=>
         have:word=32:=by cases t with
           |done r=>exact hk.2.1
           |evict j s g=>exact hk.2.1
         rw[this]
         unfold U64
         omega
       |room f at_ there c r=>rw[show word=32 from hk.1];unfold U64;omega
       |serial f at_ there c=>rw[show word=33 from hk.1];unfold U64;omega
     · intro hb
       cases t with
       |back t=>exact absurd rfl (hb t)
       |room f at_ there c r=>rw[show word=32 from hk.1,show stop=room from hk.2.2.1];exact hc2
       |serial f at_ there c=>rw[show word=33 from hk.1,show stop=4611686018427387903 from hk.2.2.1];exact hc33
 |wordSwap word by_ stop v t=>
   obtain⟨hk,hv64,hvs,hvle⟩:=hk
   unfold stepF
   dsimp only
   have hc32:=h1.cnt
   have hc2:=h1.cnt2
   have hc33:=h1.ser
   by_cases e:m.word word=v
   · rw[swap_hit e]
     dsimp only
     rw[if_pos rfl]
     subst e
     cases t with
     |back t=>
       cases t with
       |done r=>
         obtain⟨hop,rfl,rfl,rfl,hres⟩:=hk
         have hcl:m.word 32=size m+(base x+q):=hc32
         rw[base_one hres]at hcl
         have e2:(m.word COUNT+neg 1)%U64=m.word 32-1:=neg_add hv64 (by omega) (by show 1≤m.word 32;omega)
         rw[e2]
         have hlater:Later m (m.put1 COUNT (m.word 32-1) []):=Later.put1 hd.nw hd.nh (by decide) (by intro h;cases h) (by intro _ h;exact absurd h (by decide))
         exact fin_ok (h1.count (by omega) (by omega)) hlater h3 rfl rfl rfl
       |evict j shards gone=>
         obtain⟨hop,rfl,rfl,⟨n,hn1,hn2,rfl⟩,a,b,c,d⟩:=hk
         have hcl:m.word 32=size m+(U64-neg n+q):=hc32
         rw[neg_claim hn1 hn2]at hcl
         have e2:(m.word COUNT+neg n)%U64=m.word 32-n:=neg_add hv64 hn1 (by show n≤m.word 32;omega)
         rw[e2]
         have hlater:Later m (m.put1 COUNT (m.word 32-n) []):=Later.put1 hd.nw hd.nh (by decide) (by intro h;cases h) (by intro _ h;exact absurd h (by decide))
         exact further_ok (h1.count (by omega) (by omega)) hlater h3 rfl rfl rfl hop a b c d
     |room f at_ there c r=>
       obtain⟨rfl,rfl,rfl,hop,rfl,hres,hp⟩:=hk
       have hcl:m.word 32=size m+(base x+q):=hc32
       rw[base_zero hres]at hcl
       have e2:(m.word COUNT+1)%U64=m.word 32+1:=by
         show(m.word 32+1)%U64=_
         unfold U64
         omega
       rw[e2]
       have hlt:m.word 32<stop:=by
         have:m.word COUNT≤stop:=hvle (by intro b h;cases h)
         have:m.word COUNT≠stop:=hvs
         show m.word COUNT<stop
         omega
       have hlater:Later m (m.put1 COUNT (m.word 32+1) []):=Later.put1 hd.nw hd.nh (by decide) (by intro h;cases h) (by intro _ h;exact absurd h (by decide))
       have h3':LiveOk list {x with reserved:=true }:=⟨h3.op0,h3.op1,h3.pol,h3.klen,h3.kb,h3.n,h3.n64,h3.se0,h3.se1,h3.kind1,h3.kind2,h3.sum,fun _=>hop⟩
       refine more_ok ?_ hlater h3' rfl rfl rfl ⟨?_,.inr rfl⟩
       · show SInv list stop _ (1+q)
         exact h1.count (by omega) (by omega)
       · have hp':=hp.later hlater
         exact⟨hp'.1,hp'.2.1,hp'.2.2.1,hp'.2.2.2.1,hp'.2.2.2.2.1,⟨hp'.2.2.2.2.2.ok,hp'.2.2.2.2.2.pol,hp'.2.2.2.2.2.key,hp'.2.2.2.2.2.perm⟩⟩
     |serial f at_ there c=>
       obtain⟨rfl,rfl,rfl,hop,hp⟩:=hk
       have hlt:m.word 33<4611686018427387903:=by
         have:m.word SERIAL≠4611686018427387903:=hvs
         show m.word SERIAL<_
         have:m.word SERIAL≤4611686018427387903:=hc33
         omega
       have e2:(m.word SERIAL+1)%U64=m.word 33+1:=by
         show(m.word 33+1)%U64=_
         unfold U64
         omega
       rw[e2]
       have hlater:Later m (m.put1 SERIAL (m.word 33+1) []):=Later.put1 hd.nw hd.nh (by decide) (by intro h;cases h) (by intro _ h;exact absurd h (by decide))
       have hop4:x.call.op≤4:=by omega
       have hg:=list_good T h3 hop4
       have h3':LiveOk list {x with serial:=((m.word 33+1:Nat):Int) }:=⟨h3.op0,h3.op1,h3.pol,h3.klen,h3.kb,h3.n,h3.n64,by show(0:Int)≤((m.word 33+1:Nat):Int);omega,by show((m.word 33+1:Nat):Int)≤4611686018427387903;omega,h3.kind1,h3.kind2,h3.sum,h3.res⟩
       have hk2:=h3.kind2 (.inl hop)
       have hcp:=hp.2.2.2.2.2
       have hperm:(c.held.length:Int)≤(polOf list x).permits:=by
         have:=hcp.perm.2
         rw[hcp.pol]at this
         exact this hk2
       have htk:=hB.take (polOf list x) c ((m.word 33+1:Nat):Int) hg.1 hk2 hcp.ok hperm
       have hs:=(hB.same (polOf list x) c ((m.word 33+1:Nat):Int)).1
       have hp':=hp.later hlater
       refine putK_ok (x:={x with serial:=((m.word 33+1:Nat):Int) }) _ (h1.serial (by omega)) hlater h3' rfl rfl rfl ⟨hop4,hp'.2.1,hp'.2.2.1,hp'.2.2.2.1,hp'.2.2.2.2.1,⟨htk.1,by rw[hs.1];exact hcp.pol,by rw[hs.2];exact hcp.key,by rw[hs.1];exact hcp.perm.1,fun _=> ?_⟩⟩ (.inl (.inr hop))
       rw[hs.1,hcp.pol]
       exact htk.2
   · rw[swap_miss e]
     dsimp only
     rw[if_neg (by simp)]
     refine more_ok ?_ (Later.touch m) h3 rfl rfl rfl (WOkP.later (Later.touch m) hk)
     have:claim x (.wordSwap word by_ stop v t)=claim x (.wordLoad word by_ stop t):=by
       cases t with
       |back t=>cases t<;>rfl
       |room f at_ there c r=>rfl
       |serial f at_ there c=>rfl
     rw[← this]
     exact h1.touch
 |put f at_ there c r=>
   obtain⟨⟨hop,hv,⟨l,hl,hw⟩,hat,hth,hcp⟩,hres⟩:=hk
   have b:=place_bd (s:=x.sum) hl
   rw[← hw]at b
   unfold stepF
   dsimp only
   by_cases e:m.word f.word=f.v
   · rw[swap_hit e]
     dsimp only
     rw[if_pos rfl]
     have hh:=hv.eq e
     have hv1:=hv.v1
     have hv2:=hv.v2
     have hlive:m.live f.word:=⟨by omega,by omega⟩
     have hsm:=hd.small f.word b.1 b.2
     rw[Nat.mod_eq_of_lt hlive.2,e]at hsm
     have hfew:=hv.few
     have hlater: ∀L,Later m (m.put1 f.word (f.v+1) L):=fun L=>Later.put1 hd.nw hd.nh (by omega) (by omega) (fun _ _=>⟨by omega,hlive.2⟩)
     have hfz:f.v+1<FRZ:=by
       have:=hsm.1
       have h4:(f.v:Int)<4611686018427387900:=by omega
       unfold FRZ
       omega
     have hwith:withCell f.cells at_ there c=withCell f.cells (findAt f.cells c.pol c.key) (findThere f.cells c.pol c.key) c:=by rw[hat,hth,hcp.pol,hcp.key]
     have hlw:LiesL list f.word (withCell f.cells at_ there c):=by
       rw[hwith]
       refine⟨withCell_ok hv.lies.wf hcp.ok (by omega),fun level s hl' e' d hd'=> ?_,fun d hd'=> ?_⟩
       · rw[mem_with hv.lies.wf]at hd'
         split at hd'
         · subst hd'
           rw[hw]at e'
           obtain⟨e1,e2⟩:=place_inj e'
           subst e1
           unfold shardOf
           rw[hcp.pol,hcp.key,←h3.sum,e2]
         · exact hv.lies.shard level s hl' e' d hd'
       · rw[mem_with hv.lies.wf]at hd'
         split at hd'
         · subst hd';exact hcp.perm
         · exact hv.lies.perm d hd'
     have hlen:(withCell f.cells at_ there c).length=f.cells.length+if there then 0 else 1:=by
       rw[hwith,withCell_length,hth,hcp.pol,hcp.key]
     have h1':SInv list room m (base x+q):=h1
     have hgo: ∀cl',base x+q+(m.hold f.word).length=cl'+(withCell f.cells at_ there c).length→SInv list room (m.put1 f.word (f.v+1) (withCell f.cells at_ there c)) cl':=fun cl' hcl=>h1'.go b.1 b.2 hlive (by omega) hfz (by have:=hsm.1;omega) hlw hcl
     cases ht:there with
     |true=>
       subst ht
       rw[if_pos rfl]
       rw[if_pos rfl]at hlen
       exact leave_ok r (hgo (base x+q) (by rw[hlen,hh];omega)) (hlater _) h3 rfl rfl rfl hop
     |false=>
       subst ht
       rw[if_neg (by simp)]
       rw[if_neg (by simp)]at hlen
       have hr:x.reserved=true:=by rcases hres with h|h;cases h;exact h
       have hb1:=base_one hr
       exact fin_ok (hgo q (by rw[hlen,hh];omega)) (hlater _) h3 rfl rfl rfl
   · rw[swap_miss e]
     exact more_ok h1.touch (Later.touch m) h3 rfl rfl rfl ⟨hop,rfl⟩
 |allow f at_ there c=>
   obtain⟨hop,hp⟩:=hk
   have hg:=list_good T h3 (by omega)
   have hcp:=hp.2.2.2.2.2
   unfold stepF
   dsimp only
   split
   · exact leave_ok _ h1.touch (Later.touch m) h3 rfl rfl rfl (by omega)
   · have hn:=h3.n hop
     have hck:=h1.clk
     have htat:=hB.tat (polOf list x) c.tat m.clock x.call.n hg.1 (h3.kind1 hop) hcp.ok.tat0 hcp.ok.tat1 hck.1 hck.2 hn.1 hn.2
     refine putK_ok _ h1.touch (Later.touch m) h3 rfl rfl rfl ⟨hp.1,(hp.later (Later.touch m)).2.1,hp.2.2.1,hp.2.2.2.1,hp.2.2.2.2.1,⟨⟨hcp.ok.pol0,hcp.ok.pol1,hcp.ok.len,hcp.ok.bytes,htat.1,htat.2,hcp.ok.held0,hcp.ok.rises,hcp.ok.few⟩,hcp.pol,hcp.key,hcp.perm⟩⟩ (.inl (.inl hop))
 |peek c=>
   have hb:=base_zero (base_off h3 (by rw[show x.call.op=4 from hk];decide) (by rw[show x.call.op=4 from hk];decide))
   have h1':SInv list room m (base x+q):=h1
   rw[hb,Nat.zero_add]at h1'
   exact fin_ok h1'.touch (Later.touch m) h3 rfl rfl rfl
 |evictStart=>
   have:=hd.d8
   have h16:2^((m.word 0+1)/2)≤16:=two_le (show (m.word 0+1)/2≤4 by omega)
   exact more_ok h1.touch (Later.touch m) h3 rfl rfl rfl ⟨hk,rfl,two_pos _,h16,by decide,by decide⟩
 |evictClock j shards gone word v cells=>
   obtain⟨⟨a,_,c,d,e,f⟩,hv,_,hw⟩:=hk
   have hb:=base_zero (base_off h3 (by omega) (by omega))
   have h1':SInv list room m (base x+q):=h1
   unfold stepF
   dsimp only
   split
   · rw[hb,Nat.zero_add]at h1'
     exact further_ok h1'.touch (Later.touch m) h3 rfl rfl rfl a c d e (by omega)
   · rename_i hne
     exact more_ok h1.touch (Later.touch m) h3 rfl rfl rfl ⟨⟨a,rfl,c,d,e,f⟩,hw,by omega,cells,_,⟨hv.v1,hv.v2,hv.le,hv.eq,hv.lies,hv.few⟩,rfl,rfl⟩
 |evictSwap j shards gone word v rest n=>
   obtain⟨⟨a,_,c,d,e,f⟩,⟨l,hl,hw⟩,hn,cells,p,hv,hrest,hnn⟩:=hk
   have hb:=base_zero (base_off h3 (by omega) (by omega))
   have h1':SInv list room m (base x+q):=h1
   have b:=place_bd (s:=j) hl
   rw[← hw]at b
   unfold stepF
   dsimp only
   by_cases es:m.word word=v
   · rw[swap_hit es]
     dsimp only
     rw[if_pos rfl]
     have hh:=hv.eq es
     have hv1:=hv.v1
     have hv2:=hv.v2
     have hlive:m.live word:=⟨by omega,by omega⟩
     have hsm:=hd.small word b.1 b.2
     rw[Nat.mod_eq_of_lt hlive.2,es]at hsm
     have hfew:=hv.lies.wf.few
     have hlater:Later m (m.put1 word (v+1) rest):=Later.put1 hd.nw hd.nh (by omega) (by omega) (fun _ _=>⟨by omega,hlive.2⟩)
     have hfz:v+1<FRZ:=by
       have:=hsm.1
       have h4:(v:Int)<4611686018427387900:=by omega
       unfold FRZ
       omega
     have hlr:LiesL list word rest:=by rw[hrest];exact hv.lies.filter p
     have hle:rest.length≤cells.length:=by rw[hrest];exact List.length_filter_le _ _
     refine more_ok ?_ hlater h3 rfl rfl rfl ⟨a,rfl,rfl,⟨n,hn,by omega,rfl⟩,c,d,by omega,by omega⟩
     show SInv list room _ (U64-neg n+q)
     rw[neg_claim hn (by omega)]
     exact h1'.go b.1 b.2 hlive (by omega) hfz (by have:=hsm.1;omega) hlr (by rw[hh,hb];omega)
   · rw[swap_miss es]
     rw[hb,Nat.zero_add]at h1'
     exact further_ok h1'.touch (Later.touch m) h3 rfl rfl rfl a c d e (by omega)
end Go.Proofs.YtemnhpdjoimjbaaGreatDoor.Top
