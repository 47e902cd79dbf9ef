import Derived.Test.YtemnhpdjoimjbaaGreatDoorTw29
import Derived.Test.YtemnhpdjoimjbaaGreatDoorTw34
import Derived.Test.YtemnhpdjoimjbaaGreatDoorTw06
section
namespace Go.Proofs.YtemnhpdjoimjbaaGreatDoor
open Go.RowKit Top
set_option linter.unusedVariables false
theorem CoreAt.c0 {w:World} {A:Adr} (h:CoreAt w A): ∃lv,w.cell? ⟨A.K,0,none⟩=some lv∧PolsAt w lv A.list∧A.K<w.heap.size:=by
 obtain⟨arr,lv,h1,h2,h3,h4,h5,h6⟩:=h
 exact⟨lv,(h1.cell 0).trans h3,h6,h1.lt⟩
set_option maxHeartbeats 4000000 in
set_option maxRecDepth 100000 in
theorem step_evictClock (B:Nat) (E:Env) (x:Live) (m:Mem) (j shards:Nat) (gone:Int) (word u:Nat) (cells:List Cell) (v:Value) (w:World) (hk:KontAt w E v (.evictClock j shards gone word u cells)) (hj:j<65535) (hsh:shards<65536) (hs:St w B E.A m) (hcl:CallAt w E x) (ok:E.Ok m) (hne:cells≠[]) (hin: ∀c∈cells,c.pol<E.A.list.length):
   ∃fn ps,v= .func (.func fn) #[] ps∧Enters fn∧Calls Tryz.prog fn ps w (ORes w B E (stepF BlV E.A.list E.A.room (.evictClock j shards gone word u cells) x m)):=by
 obtain⟨b0,b1,cv,b2,fv,b3,b4,b5,rfl,h0,h1,hcv,h2,hfv,h3,h4,h5⟩:=hk
 refine⟨_,_,rfl,enters_of Tryz.func90 (by kernel_rfl) rfl,?_⟩
 have hwf:=hcv.wf
 obtain⟨xs,hxs,hr,hxo,_⟩:=hcv
 have hfew:xs.length≤1048576:=by have:=hwf.few;rw[← hxs,List.length_map]at this;exact this
 have hpos:0<xs.length:=by
   cases xs with
   |nil=>exact absurd hxs.symm hne
   |cons x xs=>simp
 obtain⟨ca,cc,rfl⟩: ∃a c,cv= .slice a xs.length c:=by obtain⟨_,a,c,e,_⟩:=hr;exact⟨a,c,e⟩
 have hff:Func1 fv:=by obtain⟨_,_,_,e,_⟩:=hfv;exact⟨_,_,e⟩
 obtain⟨ff,fps,rfl⟩:=hff
 have hq: ∀y∈xs,0≤y.c.pol∧y.c.pol<E.A.list.length∧y.c.held.length≤64:=fun y hy=>by
   have hm:y.c∈cells:=by rw[← hxs];exact List.mem_map_of_mem hy
   have okc:=hwf.ok _ hm
   exact⟨okc.pol0,hin _ hm,okc.few⟩
 have hmapF:(xs.filter fun y=> !idleF E.A.list y.c m.clock).map CV.c=cells.filter fun c=> !idleF E.A.list c m.clock:=by
   rw[← hxs,List.filter_map]
   rfl
 obtain⟨rest,hrest⟩: ∃rest,rest=cells.filter fun c=> !idleF E.A.list c m.clock:=⟨_,rfl⟩
 have hwr:WfL rest:=by rw[hrest];exact hwf.filter _
 rw[← hrest]at hmapF
 have hlenR:(xs.filter fun y=> !idleF E.A.list y.c m.clock).length=rest.length:=by rw[← hmapF,List.length_map]
 have hlenX:xs.length=cells.length:=by rw[← hxs,List.length_map]
 have hle:rest.length≤xs.length:=by rw[hlenX,hrest];exact List.length_filter_le _ _
 have hstep:stepF BlV E.A.list E.A.room (.evictClock j shards gone word u cells) x m=if xs.length-rest.length=0 then further j shards gone x m.touch else more (.evictSwap j shards gone word u rest (xs.length-rest.length)) x m.touch:=by
   rw[hlenX,hrest]
   rfl
 have Hstep:=Lib.hid hstep
 have W0:=Lib.hid (Was.start hs hcl)
 have HB0:=Lib.hid hs.below.2.2.2
 have H:=Lib.hid (And.intro h0 (And.intro h1 (And.intro h2 (And.intro h3 (And.intro h4 (And.intro h5 hfv))))))
 have Hr:=Lib.hid hr;have Hxo:=Lib.hid hxo;have Hq:=Lib.hid hq;have Hj:=Lib.hid hj;have Hsh:=Lib.hid hsh;have Hok:=Lib.hid ok
 have HF:Hid ((xs.filter fun y=> !idleF E.A.list y.c m.clock).map CV.c=rest∧(xs.filter fun y=> !idleF E.A.list y.c m.clock).length=rest.length∧WfL rest):=⟨hmapF,hlenR,hwr⟩
 have hb0:=h0.lt;have hb1:=h1.lt;have hb2:=h2.lt;have hb3:=h3.lt
 have c0:=h0.at0
 clear hs hcl ok h0 h1 h2 h3 h4 h5 hfv hr hxo hq hj hsh hxs hmapF hlenR hlenX hrest hwr hstep hin hne hwf
 go_enter Tryz.func90,Tryz.ntmps90
 go_wp2_with fail
 refine calls_name (fun u=>Was w B E x m u∧Bx u w.heap.size 37 res0) ⟨W0.out.later (below_allocs [_] w),bx_allocs w [_] 0 rfl⟩ ?_
 rintro y0 ⟨hw0,hl0⟩
 (refine (cnow_any B E x m y0 hw0.st hw0.call Hok.out).mono ?_)
 rintro e w1 ⟨rfl,hn⟩
 have hw1:=hw0.noted hn
 have hf1:=(hn.acc hw0.st).2
 have hl1:=hl0.keep hf1 rfl
 have c1:=(H.out.2.1.keep hw1.fr rfl).at0
 have hb1':=(H.out.2.1.keep hw1.fr rfl).lt
 have Hw1:=Lib.hid hw1;have Hl1:=Lib.hid hl1
 clear hw0 hl0 hn hw1 hf1 hl1 c0 hb0
 go_wp2_with fail
 refine calls_name (fun u=>Was w B E x m.touch u∧Bx u w.heap.size 37 res0∧Bx u w1.heap.size 2 #[.int .i64 m.clock]) ⟨Hw1.out.later (below_allocs [_] w1),Hl1.out.alloc _,Bx.new w1 _ _⟩ ?_
 rintro W2 ⟨hw2,hl2,hn2⟩
 have hr2:=Hr.out.keep hw2.fr (by simp [okT])
 (refine (clone_cells _ xs W2 hr2 (fun x hx=>(Hxo.out x hx).keep hw2.fr) hfew).mono ?_)
 rintro e w3 ⟨v',rfl,hown,hb3'⟩
 obtain⟨g,cap,rfl⟩: ∃g cap,v'= .slice (some ⟨g,0,none⟩) xs.length cap:=by
   rcases hown.2 with ⟨_,e⟩|⟨g,cap,cur,e,_⟩
   · omega
   · exact⟨g,cap,e⟩
 have Kd:Hid (Calls Tryz.prog 92 #[.slice (some ⟨g,0,none⟩) xs.length cap,.func (.func 94) #[] #[P b0,P w1.heap.size]] w3 fun e w'=> ∃a m' c,e= .returned (.slice a m' c)∧m'=(xs.filter fun y=> !idleF E.A.list y.c m.clock).length∧Row w' 100 4 m' (.slice a m' c) (encs (xs.filter fun y=> !idleF E.A.list y.c m.clock))∧Below W2.heap.size w3 w'):=
   deletefunc_any xs (fun y=>idleF E.A.list y.c m.clock) 94 #[P b0,P w1.heap.size] W2.heap.size g cap w3 (enters_of Tryz.func94 (by kernel_rfl) rfl) hfew hown
     (fun y hy=>by
       obtain⟨⟨_,_,a,c,e,_⟩,_,a',c',e',_⟩:=Hxo.out y hy
       exact⟨⟨a,_,c,e⟩,⟨a',_,c',e'⟩⟩)
     (fun y hy W hb=>by
       have hbW:Below W2.heap.size W2 W:=hb3'.trans hb
       have hW:=hw2.later hbW
       obtain⟨lv,hc0,hpl,hK⟩:=hW.st.core.c0
       obtain⟨⟨_,_,a,c,e,_⟩,_⟩:=Hxo.out y hy
       obtain⟨q1,q2,q3⟩:=Hq.out y hy
       exact evict_ask E b0 w1.heap.size y.c y.kv y.hv lv m.clock W (H.out.1.keep hW.fr rfl) hW.call.c4 hc0 hpl (hn2.below hbW hn2.lt) ⟨a,_,c,e⟩ ((Hxo.out y hy).2.keep hW.fr) q3 q1 q2 hW.call.lt hK) hb3'.size
 have Hb3:=Lib.hid hb3';have Hw2:=Lib.hid hw2;have Hl2:=Lib.hid hl2
 clear hw2 hl2 hn2 hr2 hown hb3' c1 hb1'
 go_wp2_with fail
 (with_reducible refine Kd.out.mono ?_)
 rintro e w4 ⟨ra,m',rc,rfl,hm',hrow,hb4⟩
 have hb24:Below W2.heap.size W2 w4:=Hb3.out.trans hb4
 have hw4:=Hw2.out.later hb24
 have hl4:=Hl2.out.below hb24 Hl2.out.lt
 rw[HF.out.2.1]at hm'
 subst hm'
 have hcr:CellsAt w4 (.slice ra rest.length rc) rest:=⟨_,HF.out.1,by rw[HF.out.2.1];exact hrow,fun y hy=>(Hxo.out y (List.mem_filter.1 hy).1).keep hw4.fr,HF.out.2.2⟩
 have c1:=(H.out.2.1.keep hw4.fr rfl).at0
 have c2:=(H.out.2.2.1.keep hw4.fr rfl).at0
 have c3:=(H.out.2.2.2.1.keep hw4.fr rfl).at0
 have q1:=(H.out.2.1.keep hw4.fr rfl).lt
 have q2:=(H.out.2.2.1.keep hw4.fr rfl).lt
 have q3:=(H.out.2.2.2.1.keep hw4.fr rfl).lt
 have hw64:IntKind.i64.wrap ((xs.length:Int)-(rest.length:Int))=((xs.length-rest.length:Nat):Int):=by rw[IntKind.wrap_i64];omega
 have Hw4:=Lib.hid hw4;have Hl4:=Lib.hid hl4;have Hcr:=Lib.hid hcr
 clear hb4 hrow hb24 hw4 hl4 hcr Kd HF Hb3 Hw2 Hl2 Hq Hxo Hr Hw1 Hl1 hb1 hb2 hb3 hle
 generalize hN:xs.length-rest.length=N at*
 by_cases hz:N=0
 · subst hz
   have hw64':IntKind.i64.wrap ((xs.length:Int)-(rest.length:Int))=0:=hw64
   have Hw5:=Lib.hid (Hw4.out.later (below_allocs [.cells #[.slice ra rest.length rc] 64,.cells #[.int .i64 0] 3] w4))
   have Hl5:=Lib.hid (Hl4.out.below (below_allocs [.cells #[.slice ra rest.length rc] 64,.cells #[.int .i64 0] 3] w4) Hl4.out.lt)
   obtain⟨f,ps,hfe,hef,kt⟩:=further_any B E x m.touch j shards gone _ _ (H.out.2.2.2.2.2.2.keep Hw5.out.fr) Hw5.out.st Hw5.out.call Hj.out Hsh.out
   injection hfe with e1 e2 e3
   subst e1 e3
   unfold Enters at hef
   have Kt:=Lib.hid kt
   clear kt hw64 hN
   go_wp2_with (go_at_fn f;(refine (Kt.out).mono ?_);rintro e w6 h;obtain⟨v,d,a,rfl,ha⟩:=Ans.of h;have hr3:=Hl5.out.keep ha.fr rfl;obtain⟨r0,r1,r2,r3,r4,r5,r6⟩:=res_cells hr3;obtain⟨f0,f1,f2,f3,f4,f5,f6⟩:=res_free hr3;have Hr3:=Lib.hid hr3;have Ha:=Lib.hid ha;clear hr3 ha h)
   rw[Hstep.out,if_pos trivial]
   exact bodyPost_ret (v:= .tuple #[v,.agg (resA d a)]) (by simp [results,Tryz.results90,go_sem,r0,r1,r2,r3,r4,r5,r6]) rfl ((Ha.out.pre Hw5.out.fr).store Hr3.out (Nat.le_refl _) HB0.out).ores
 · have hzi: ¬(N:Int)=0:=by omega
   have Hw5:=Lib.hid (Hw4.out.later (below_allocs [.cells #[.slice ra rest.length rc] 64,.cells #[.int .i64 (N:Nat)] 3] w4))
   have Hl5:=Lib.hid (Hl4.out.below (below_allocs [.cells #[.slice ra rest.length rc] 64,.cells #[.int .i64 (N:Nat)] 3] w4) Hl4.out.lt)
   have Hk5:Hid (KontAt (allocs w4 [.cells #[.slice ra rest.length rc] 64,.cells #[.int .i64 (N:Nat)] 3]) E (.func (.func 96) #[] #[P b0,P b4,P b5,P w4.heap.size,P b2,P b3,P (w4.heap.size+1)]) (.evictSwap j shards gone word u rest N)):=
     ⟨b0,b4,b5,w4.heap.size,.slice ra rest.length rc,b2,_,b3,w4.heap.size+1,rfl,H.out.1.keep Hw5.out.fr rfl,H.out.2.2.2.2.1.keep Hw5.out.fr rfl,H.out.2.2.2.2.2.1.keep Hw5.out.fr rfl,bx_allocs w4 [_,_] 0 rfl,Hcr.out.keep (fr0 (below_allocs [_,_] w4)),H.out.2.2.1.keep Hw5.out.fr rfl,H.out.2.2.2.2.2.2.keep Hw5.out.fr,H.out.2.2.2.1.keep Hw5.out.fr rfl,bx_allocs w4 [_,_] 1 rfl⟩
   clear hN
   go_wp2_with (go_at_call 63;(refine (con_any _ _).mono ?_);rintro e w6 ⟨rfl,hb⟩;have hr3:=Hl5.out.keep (fr0 hb) rfl;have hw6:=Hw5.out.later hb;have hk6:=Hk5.out.keep (fr0 hb);obtain⟨r0,r1,r2,r3,r4,r5,r6⟩:=res_cells hr3;obtain⟨f0,f1,f2,f3,f4,f5,f6⟩:=res_free hr3;have Hr3:=Lib.hid hr3;have HW6:=Lib.hid hw6;have Hk6:=Lib.hid hk6;clear hr3 hw6 hk6 hb)
   rw[Hstep.out,if_neg (by omega)]
   exact bodyPost_ret (v:= .tuple #[.func (.func 96) #[] #[P b0,P b4,P b5,P w4.heap.size,P b2,P b3,P (w4.heap.size+1)],.agg (resA false (err 0))]) (by simp [results,Tryz.results90,go_sem,r0,r1,r2,r3,r4,r5,r6]) rfl ((Ans.more HW6.out Hk6.out).store Hr3.out (Nat.le_refl _) HB0.out).ores
end Go.Proofs.YtemnhpdjoimjbaaGreatDoor
end
section
namespace Go.Proofs.YtemnhpdjoimjbaaGreatDoor.Top
set_option linter.unusedVariables false
def offT :Then→Nat
 | .call=>24
 | .evict j shards _=>(shards-1-j)*24
def lvC (m:Mem) (l:Nat):Nat:=if m.word 0=2*l+1 then 0 else 70
def stC (m:Mem) (f:Found):Nat:=if m.word f.word=f.v then 0 else 70
def costF (m:Mem) (t:FThen) (c:Nat):Nat:=match t with
 | .find level _ t=>offT t+lvC m level+c
 | .move level i=>(2^level-i)*24+c
def costH (m:Mem) (level:Nat) (t:HThen) (c:Nat):Nat:=match t with
 | .find _ t=>offT t+lvC m (level-1)+(c+4)
 | .one l i _=>(2^l-i)*24+(c+4)
 | .two l i=>(2^l-i)*24+c
def costW (m:Mem) (t:WThen) (c:Nat):Nat:=match t with
 | .back (.done _)=>5+c
 | .back (.evict j shards _)=>(shards-1-j)*24+2+c
 | .room f _ _ _ _=>13+c+stC m f
 | .serial f _ _ _=>17+c+stC m f
def cost (m:Mem):Kont→Nat
 | .find _ t=>offT t+20
 | .enter _ word t=>offT t+9+(if 1≤m.word word∧m.word word<FRZ then 0 else 70)
 | .freeze _ t=>costF m t 17
 | .freezeSwap word v _ t=>costF m t (if m.word word=v then 15 else 18)
 | .half level _ _ t=>costH m level t 9
 | .halfSwap level _ _ _ t=>costH m level t 7
 | .split=>300
 | .splitSwap d _=>if m.word 0=d then 290 else 310
 | .moveEnd _=>1
 | .wordLoad _ _ _ t=>costW m t 1
 | .wordSwap word _ _ v t=>costW m t (if m.word word=v then 0 else 2)
 | .put f _ _ _ _=>10+stC m f
 | .allow f _ _ _=>20+stC m f
 | .peek _=>2
 | .evictStart=>400
 | .evictClock j shards _ _ _ _=>(shards-1-j)*24+7
 | .evictSwap j shards _ _ _ _ _=>(shards-1-j)*24+5
def costO (o:Out):Nat:=match o.1 with
 | .inl k=>cost o.2.2 k
 | .inr _=>0
variable {list : List Pol} {room:Nat}
theorem lvC_le (m:Mem) (l:Nat):lvC m l≤70:=by unfold lvC;split<;>omega
theorem stC_le (m:Mem) (f:Found):stC m f≤70:=by unfold stC;split<;>omega
theorem offT_le {x:Live} {s:Nat} {t:Then} (h:TOkP x s t):offT t≤360:=by
 cases t with
 |call=>decide
 |evict j shards gone=>have:=h.2.2.2.1;show(shards-1-j)*24≤360;omega
theorem pow8 {l:Nat} (h:l≤3):2^l≤8:=two_le h
theorem cost_le {m:Mem} {x:Live} {k:Kont} (h:KOk list room m x k):cost m k≤500:=by
 cases k with
 |find sum t=>have:=offT_le h;show offT t+20≤500;omega
 |enter sum word t=>have:=offT_le h.1;show offT t+9+_≤500;split<;>omega
 |freeze word t=>
   cases t with
   |find level sum t=>have:=offT_le h.1;have:=lvC_le m level;show offT t+lvC m level+17≤500;omega
   |move level i=>have:=pow8 h.2.1;show(2^level-i)*24+17≤500;omega
 |freezeSwap word v holds t=>
   cases t with
   |find level sum t=>have:=offT_le h.1.1;have:=lvC_le m level;show offT t+lvC m level+_≤500;split<;>omega
   |move level i=>have:=pow8 h.1.2.1;show(2^level-i)*24+_≤500;split<;>omega
 |half level shard holds t=>
   obtain⟨l,h1,h2,h3,h4,h5,h6⟩:=h
   cases t with
   |find sum t=>have:=offT_le h6.1;have:=lvC_le m (level-1);show offT t+lvC m (level-1)+13≤500;omega
   |one l' i h=>have:=pow8 h2;have:=h6.2.1;subst this;show(2^l'-i)*24+13≤500;omega
   |two l' i=>have:=pow8 h2;have:=h6.2.1;subst this;show(2^l'-i)*24+9≤500;omega
 |halfSwap level shard holds hh t=>
   obtain⟨l,h1,h2,h3,h4,h5,h6⟩:=h
   cases t with
   |find sum t=>have:=offT_le h6.1;have:=lvC_le m (level-1);show offT t+lvC m (level-1)+11≤500;omega
   |one l' i h=>have:=pow8 h2;have:=h6.2.1;subst this;show(2^l'-i)*24+11≤500;omega
   |two l' i=>have:=pow8 h2;have:=h6.2.1;subst this;show(2^l'-i)*24+7≤500;omega
 |split=>show 300≤500;decide
 |splitSwap d level=>show(if m.word 0=d then 290 else 310)≤500;split<;>omega
 |moveEnd level=>show 1≤500;decide
 |wordLoad word by_ stop t=>
   cases t with
   |back t=>cases t with
     |done r=>show 6≤500;decide
     |evict j shards gone=>have:=h.2.2.2.2.2.1;show(shards-1-j)*24+2+1≤500;omega
   |room f at_ there c r=>have:=stC_le m f;show 13+1+stC m f≤500;omega
   |serial f at_ there c=>have:=stC_le m f;show 17+1+stC m f≤500;omega
 |wordSwap word by_ stop v t=>
   cases t with
   |back t=>cases t with
     |done r=>show 5+_≤500;split<;>omega
     |evict j shards gone=>have:=h.1.2.2.2.2.2.1;show(shards-1-j)*24+2+_≤500;split<;>omega
   |room f at_ there c r=>have:=stC_le m f;show 13+_+stC m f≤500;split<;>omega
   |serial f at_ there c=>have:=stC_le m f;show 17+_+stC m f≤500;split<;>omega
 |put f at_ there c r=>have:=stC_le m f;show 10+stC m f≤500;omega
 |allow f at_ there c=>have:=stC_le m f;show 20+stC m f≤500;omega
 |peek c=>show 2≤500;decide
 |evictStart=>show 400≤500;decide
 |evictClock j shards gone word v cells=>have:=h.1.2.2.2.1;show(shards-1-j)*24+7≤500;omega
 |evictSwap j shards gone word v rest n=>have:=h.1.2.2.2.1;show(shards-1-j)*24+5≤500;omega
theorem costO_fin (r:Reply) (x:Live) (m:Mem):costO (fin r x m)=0:=rfl
theorem costO_more (k:Kont) (x:Live) (m:Mem):costO (more k x m)=cost m k:=rfl
theorem cost_leave (r:Reply) (x:Live) (m:Mem):costO (leave r x m)≤6:=by
 unfold leave;split
 · exact Nat.le_refl 6
 · exact Nat.zero_le _
theorem cost_further {j shards:Nat} (gone:Int) (x:Live) (m:Mem) (h:j<shards):costO (further j shards gone x m)≤(shards-1-j)*24:=by
 unfold further;split
 · exact Nat.zero_le _
 · show(shards-1-(j+1))*24+20≤_;omega
theorem cost_putK (room:Nat) (f:Found) (at_:Nat) (there:Bool) (c:Cell) (r:Reply) (x:Live) (m:Mem):costO (more (putK room f at_ there c r x) x m)≤14+stC m f:=by
 rw[costO_more];unfold putK;split
 · show 10+stC m f≤_;omega
 · show 13+1+stC m f≤_;omega
theorem cost_then {B:Below} {m:Mem} {x:Live} {t:Then} {sum word:Nat} {h:List Cell} (ht:TOkP x sum t):costO (thenF B list room t word (m.word word) h x m.touch)<offT t+9:=by
 have hst:stC m.touch ⟨word,m.word word,h⟩=0:=by unfold stC;exact if_pos rfl
 cases t with
 |evict j shards gone=>
   unfold thenF
   dsimp only
   have:=cost_further gone x m.touch ht.2.2.1
   split
   · show costO (further j shards gone x m.touch)<(shards-1-j)*24+9;omega
   · show(shards-1-j)*24+7<(shards-1-j)*24+9;omega
 |call=>
   show _<24+9
   unfold thenF
   dsimp only
   split
   · show 20+stC m.touch _<33;rw[hst];decide
   split
   · unfold acquireF
     split
     · have:=cost_leave (err 9) x m.touch;omega
     split
     · have:=cost_putK room ⟨word,m.word word,h⟩ (findAt h x.call.pol x.call.key) (findThere h x.call.pol x.call.key) (takeF B (polOf list x) (findCell h x.call.pol x.call.key) x.serial).2 (takeF B (polOf list x) (findCell h x.call.pol x.call.key) x.serial).1 x m.touch
       rw[hst]at this
       omega
     · show 17+1+stC m.touch _<33;rw[hst];decide
   split
   · split
     · rw[costO_fin];decide
     · have:=cost_putK room ⟨word,m.word word,h⟩ (findAt h x.call.pol x.call.key) (findThere h x.call.pol x.call.key) (giveF B (polOf list x) (findCell h x.call.pol x.call.key) x.call.n).2 (giveF B (polOf list x) (findCell h x.call.pol x.call.key) x.call.n).1 x m.touch
       rw[hst]at this
       omega
   split
   · rw[costO_fin];decide
   · show 2<33;decide
theorem cost_entered {B:Below} {m:Mem} {x:Live} {t:Then} {sum word:Nat} {h:List Cell} (ht:TOkP x sum t):costO (enteredF B list room sum word (m.word word) h t x m.touch)<offT t+9+(if 1≤m.word word∧m.word word<FRZ then 0 else 70):=by
 unfold enteredF
 split
 · rename_i hv
   rw[if_neg (by omega)]
   show offT t+20<_
   omega
 · rename_i hv
   rw[if_pos (by omega)]
   exact cost_then ht
theorem cost_moveK (m:Mem) {level i:Nat} (h:i≤2^level):cost m (moveK level i)≤(2^level-i)*24+17:=by
 unfold moveK;split
 · show 1≤_;omega
 · exact Nat.le_refl _
theorem cost_fthen (m:Mem) (t:FThen) (L:List Cell):cost m (fthenF t L)+2=costF m t 15:=by
 cases t with
 |find level sum t=>show offT t+lvC m (level+1-1)+13+2=offT t+lvC m level+15;rw[Nat.add_sub_cancel]
 |move level i=>rfl
theorem costF_mono (m:Mem) (t:FThen) {a b:Nat} (h:a<b):costF m t a<costF m t b:=by
 cases t with
 |find level sum t=>show offT t+lvC m level+a<offT t+lvC m level+b;omega
 |move level i=>show(2^level-i)*24+a<(2^level-i)*24+b;omega
theorem costF_dir {m m':Mem} (h:m'.word 0=m.word 0) (t:FThen) (c:Nat):costF m' t c=costF m t c:=by
 cases t with
 |find level sum t=>show offT t+lvC m' level+c=_;unfold lvC;rw[h];rfl
 |move level i=>rfl
theorem costW_mono (m:Mem) (t:WThen) {a b:Nat} (h:a<b):costW m t a<costW m t b:=by
 cases t with
 |back t=>cases t with
   |done r=>show 5+a<5+b;omega
   |evict j shards gone=>show(shards-1-j)*24+2+a<(shards-1-j)*24+2+b;omega
 |room f at_ there c r=>show 13+a+stC m f<13+b+stC m f;omega
 |serial f at_ there c=>show 17+a+stC m f<17+b+stC m f;omega
set_option maxHeartbeats 1000000 in
theorem step_cost {B:Below} {q:Nat} {m:Mem} {x:Live} {k:Kont} (h1:SInv list room m (claim x k+q)) (h3:LiveOk list x) (hk:KOk list room m x k):
   costO (stepF B list room k x m)<cost m k:=by
 have hd:=h1.dir
 cases k with
 |find sum t=>
   unfold stepF
   dsimp only
   split
   · rename_i he
     have hpl:=place_lt (m.word 0/2) sum
     have h:=hd.cur _ hpl.1 hpl.2
     show offT t+9+(if 1≤m.word (place (m.word 0/2) sum)∧m.word (place (m.word 0/2) sum)<FRZ then 0 else 70)<offT t+20
     rw[if_pos ⟨h.1,h.2 he⟩]
     omega
   · show offT t+lvC m (m.word 0/2)+17<offT t+20
     unfold lvC
     rw[if_pos (by omega)]
     omega
 |enter sum word t=>exact cost_entered hk.1
 |freeze word t=>
   unfold stepF
   dsimp only
   split
   · have:=cost_fthen m.touch t (m.hold word)
     have e:costF m.touch t 15=costF m t 15:=costF_dir rfl t 15
     have:=costF_mono m t (show 15<17 by decide)
     show cost m.touch _<costF m t 17
     omega
   · show costF m.touch t (if m.word word=m.word word then 15 else 18)<costF m t 17
     rw[if_pos rfl,costF_dir (show m.touch.word 0=m.word 0 from rfl)]
     exact costF_mono m t (by decide)
 |freezeSwap word v holds t=>
   unfold stepF
   dsimp only
   have hw:1≤word∧word<32:=by
     obtain⟨hk,_⟩:=hk
     cases t with
     |find level sum t=>rw[hk.2.2.1];exact place_bd (by have:=hk.2.1;omega)
     |move level i=>rw[hk.2.2.2.1];exact place_bd (by have:=hk.2.1;omega)
   by_cases e:m.word word=v
   · rw[swap_hit e]
     dsimp only
     rw[if_pos rfl]
     have:=cost_fthen (m.put1 word (v+FRZ) holds) t holds
     have e0:(m.put1 word (v+FRZ) holds).word 0=m.word 0:=put1_zero hd hw.1 hw.2 _ _
     rw[costF_dir e0]at this
     show cost (m.put1 word (v+FRZ) holds) (fthenF t holds)<costF m t (if m.word word=v then 15 else 18)
     rw[if_pos e]
     omega
   · rw[swap_miss e]
     show costF m.touch t 17<costF m t (if m.word word=v then 15 else 18)
     rw[if_neg e,costF_dir (show m.touch.word 0=m.word 0 from rfl)]
     exact costF_mono m t (by decide)
 |half level shard holds t=>
   obtain⟨l,rfl,hl,hdl,hf,hh,ht⟩:=hk
   unfold stepF
   dsimp only
   split
   · rename_i hz
     cases t with
     |find sum t=>
       obtain⟨ht,rfl⟩:=ht
       unfold hthenF
       dsimp only
       rw[if_neg hz]
       have hc:=cost_entered (B:=B) (list:=list) (room:=room) (m:=m) (word:=place (l+1) shard) (h:=m.hold (place (l+1) shard)) ht
       show _<offT t+lvC m l+13
       by_cases e:m.word 0=2*l+1
       · have e2:m.word 0/2=l:=by omega
         have hpl:=place_lt (l+1) shard
         have hn:=hd.nxt (place (l+1) shard) (by rw[e2];exact hpl.1) (place_bd (by omega)).2
         rw[if_pos ⟨by omega,hn.1⟩]at hc
         omega
       · unfold lvC
         rw[if_neg e]
         have:(if 1≤m.word (place (l+1) shard)∧m.word (place (l+1) shard)<FRZ then 0 else 70)≤70:=by split<;>omega
         omega
     |one l' i h=>show(2^l'-i)*24+9<(2^l'-i)*24+13;omega
     |two l' i=>
       obtain⟨a,rfl,rfl,d,e,f⟩:=ht
       have:=cost_moveK m.touch (show i+1≤2^l' by omega)
       show cost m.touch (moveK l' (i+1))<(2^l'-i)*24+9
       omega
   · show costH m.touch (l+1) t 7<costH m (l+1) t 9
     cases t with
     |find sum t=>show offT t+lvC m l+11<offT t+lvC m l+13;omega
     |one l' i h=>show(2^l'-i)*24+11<(2^l'-i)*24+13;omega
     |two l' i=>show(2^l'-i)*24+7<(2^l'-i)*24+9;omega
 |halfSwap level shard holds h t=>
   obtain⟨l,rfl,hl,hdl,hf,hh,ht⟩:=hk
   have b:=place_bd (s:=shard) (show l+1≤4 by omega)
   unfold stepF
   dsimp only
   cases t with
   |find sum t=>
     have hstep:costO (hthenF B list room (.find sum t) (place (l+1) shard) 0 h x (m.swap (place (l+1) shard) 0 1 (cut holds (l+1) (place (l+1) shard-2^(l+1)))).2)=offT t+9+(if 1≤(m.swap (place (l+1) shard) 0 1 (cut holds (l+1) (place (l+1) shard-2^(l+1)))).2.word (place (l+1) shard)∧(m.swap (place (l+1) shard) 0 1 (cut holds (l+1) (place (l+1) shard-2^(l+1)))).2.word (place (l+1) shard)<FRZ then 0 else 70):=rfl
     rw[hstep]
     show _<offT t+lvC m l+11
     by_cases e:m.word (place (l+1) shard)=0
     · rw[swap_hit e]
       dsimp only
       have hwl:place (l+1) shard<m.words.length:=by rw[hd.nw];omega
       rw[put1_word hwl,if_pos rfl,if_pos (by decide)]
       omega
     · rw[swap_miss e]
       dsimp only
       rw[touch_word]
       by_cases e1:m.word 0=2*l+1
       · have e2:m.word 0/2=l:=by omega
         have hpl:=place_lt (l+1) shard
         have hn:=hd.nxt (place (l+1) shard) (by rw[e2];exact hpl.1) b.2
         rw[if_pos ⟨by omega,hn.1⟩]
         omega
       · unfold lvC
         rw[if_neg e1]
         split<;>omega
   |one l' i h=>show(2^l'-i)*24+9<(2^l'-i)*24+11;omega
   |two l' i=>
     obtain⟨a,rfl,rfl,d,e,f⟩:=ht
     have:=cost_moveK (m.swap (place (l'+1) (i+2^l')) 0 1 (cut holds (l'+1) (place (l'+1) (i+2^l')-2^(l'+1)))).2 (show i+1≤2^l' by omega)
     refine Nat.lt_of_le_of_lt this ?_
     show _<(2^l'-i)*24+7
     omega
 |split=>
   unfold stepF
   dsimp only
   split
   · rename_i ho
     have:=cost_moveK m.touch (Nat.zero_le (2^(m.word 0/2)))
     have:=pow8 (hd.lvl3 ho)
     show cost m.touch (moveK (m.word 0/2) 0)<300
     omega
   split
   · show 0<300;decide
   · show(if m.word 0=m.word 0 then 290 else 310)<300
     rw[if_pos rfl]
     decide
 |splitSwap d level=>
   unfold stepF
   dsimp only
   by_cases e:m.word 0=d
   · rw[swap_hit e]
     dsimp only
     rw[if_pos rfl]
     have hmk:=cost_moveK (m.put1 0 (d+1) []) (Nat.zero_le (2^level))
     have:=pow8 hk.2.2
     refine Nat.lt_of_le_of_lt hmk ?_
     show _<(if m.word 0=d then 290 else 310)
     rw[if_pos e]
     omega
   · rw[swap_miss e]
     show 300<(if m.word 0=d then 290 else 310)
     rw[if_neg e]
     decide
 |moveEnd level=>exact Nat.zero_lt_one
 |wordLoad word by_ stop t=>
   unfold stepF
   dsimp only
   split
   · cases t with
     |back t=>cases t with
       |done r=>show 0<6;decide
       |evict j shards gone=>show 0<(shards-1-j)*24+2+1;omega
     |room f at_ there c r=>show 0<13+1+stC m f;omega
     |serial f at_ there c=>
       have:=cost_leave (err 5) x m.touch
       show costO (leave (err 5) x m.touch)<17+1+stC m f
       omega
   · show costW m.touch t (if m.word word=m.word word then 0 else 2)<costW m t 1
     rw[if_pos rfl]
     exact costW_mono m t (by decide)
 |wordSwap word by_ stop v t=>
   unfold stepF
   dsimp only
   by_cases e:m.word word=v
   · rw[swap_hit e]
     dsimp only
     rw[if_pos rfl]
     show _<costW m t (if m.word word=v then 0 else 2)
     rw[if_pos e]
     cases t with
     |back t=>cases t with
       |done r=>show 0<5+0;decide
       |evict j shards gone=>
         have:=cost_further gone x (m.put1 word ((v+by_)%U64) []) hk.1.2.2.2.2.1
         show costO (further j shards gone x (m.put1 word ((v+by_)%U64) []))<(shards-1-j)*24+2+0
         omega
     |room f at_ there c r=>
       obtain⟨⟨rfl,_,_,_,_,_,hp⟩,_⟩:=hk
       obtain⟨_,_,⟨l,hl,hw⟩,_⟩:=hp
       have b:=place_bd (s:=x.sum) hl
       rw[← hw]at b
       have hwl:COUNT<m.words.length:=by rw[hd.nw];decide
       show 10+stC (m.put1 COUNT ((v+by_)%U64) []) f<13+0+stC m f
       have:stC (m.put1 COUNT ((v+by_)%U64) []) f=stC m f:=by
         unfold stC
         rw[put1_word hwl,if_neg (show ¬f.word=COUNT by unfold COUNT;omega)]
       rw[this]
       omega
     |serial f at_ there c=>
       obtain⟨⟨rfl,_,_,_,hp⟩,_⟩:=hk
       obtain⟨_,_,⟨l,hl,hw⟩,_⟩:=hp
       have b:=place_bd (s:=x.sum) hl
       rw[← hw]at b
       have hwl:SERIAL<m.words.length:=by rw[hd.nw];decide
       have:stC (m.put1 SERIAL ((v+by_)%U64) []) f=stC m f:=by
         unfold stC
         rw[put1_word hwl,if_neg (show ¬f.word=SERIAL by unfold SERIAL;omega)]
       unfold wthenF
       have hp:=cost_putK room f at_ there (takeF B (polOf list x) c (((v+by_)%U64:Nat):Int)).2 (takeF B (polOf list x) c (((v+by_)%U64:Nat):Int)).1 {x with serial:=(((v+by_)%U64:Nat):Int) } (m.put1 SERIAL ((v+by_)%U64) [])
       rw[this]at hp
       refine Nat.lt_of_le_of_lt hp ?_
       show _<17+0+stC m f
       omega
   · rw[swap_miss e]
     dsimp only
     rw[if_neg (by simp)]
     show costW m.touch t 1<costW m t (if m.word word=v then 0 else 2)
     rw[if_neg e]
     exact costW_mono m t (by decide)
 |put f at_ there c r=>
   unfold stepF
   dsimp only
   by_cases e:m.word f.word=f.v
   · rw[swap_hit e]
     dsimp only
     rw[if_pos rfl]
     split
     · have:=cost_leave r x (m.put1 f.word (f.v+1) (withCell f.cells at_ there c))
       show _<10+stC m f
       omega
     · rw[costO_fin]
       show 0<10+stC m f
       omega
   · rw[swap_miss e]
     show 24+20<10+stC m f
     unfold stC
     rw[if_neg e]
     decide
 |allow f at_ there c=>
   unfold stepF
   dsimp only
   have hst:stC m.touch f=stC m f:=rfl
   split
   · have:=cost_leave ⟨0,(B.decide (polOf list x) c.tat m.clock x.call.n).1,(B.decide (polOf list x) c.tat m.clock x.call.n).2.2.1,(B.decide (polOf list x) c.tat m.clock x.call.n).2.2.2,0,m.clock⟩ x m.touch
     show _<20+stC m f
     omega
   · have:=cost_putK room f at_ there {c with tat:=(B.decide (polOf list x) c.tat m.clock x.call.n).2.1 } ⟨0,(B.decide (polOf list x) c.tat m.clock x.call.n).1,(B.decide (polOf list x) c.tat m.clock x.call.n).2.2.1,(B.decide (polOf list x) c.tat m.clock x.call.n).2.2.2,0,m.clock⟩ x m.touch
     show _<20+stC m f
     omega
 |peek c=>show 0<2;decide
 |evictStart=>
   have:=hd.d8
   have h16:2^((m.word 0+1)/2)≤16:=two_le (show (m.word 0+1)/2≤4 by omega)
   show(2^((m.word 0+1)/2)-1-0)*24+20<400
   omega
 |evictClock j shards gone word v cells=>
   unfold stepF
   dsimp only
   split
   · have:=cost_further gone x m.touch hk.1.2.2.1
     show _<(shards-1-j)*24+7
     omega
   · show(shards-1-j)*24+5<(shards-1-j)*24+7
     omega
 |evictSwap j shards gone word v rest n=>
   unfold stepF
   dsimp only
   by_cases e:m.word word=v
   · rw[swap_hit e]
     dsimp only
     rw[if_pos rfl]
     show(shards-1-j)*24+2+1<(shards-1-j)*24+5
     omega
   · rw[swap_miss e]
     have:=cost_further gone x m.touch hk.1.2.2.1
     show costO (further j shards gone x m.touch)<(shards-1-j)*24+5
     omega
end Go.Proofs.YtemnhpdjoimjbaaGreatDoor.Top
end
