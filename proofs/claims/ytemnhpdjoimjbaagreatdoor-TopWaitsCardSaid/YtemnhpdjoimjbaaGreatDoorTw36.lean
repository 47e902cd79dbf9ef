import Derived.Test.YtemnhpdjoimjbaaGreatDoorTw35
import Derived.Test.YtemnhpdjoimjbaaGreatDoorTw17
import Derived.Test.YtemnhpdjoimjbaaGreatDoorTw21
namespace Go.Proofs.YtemnhpdjoimjbaaGreatDoor
section
open Go.RowKit Top
set_option linter.unusedVariables false
structure EOk (E:Env) (x:Live):Prop where
 who0:0≤E.who
 who1:E.who<64
 pol:x.call.op≤4→E.A.list[x.call.pol.toNat]? =some E.pol
theorem EOk.good {E:Env} {x:Live} (T:TabOk E.A.list E.A.room) (h:EOk E x) (hl:LiveOk E.A.list x) (ho:x.call.op≤4):Good E x:=by
 obtain⟨p,hp,hlt⟩:=hl.pol ho
 have he:=h.pol ho
 rw[hp,Int.toNat_natCast]at he
 have hpo:polOf E.A.list x=E.pol:=by
   unfold polOf
   rw[hp,Int.toNat_natCast,List.getD_eq_getElem?_getD,he];rfl
 have:=T.few
 have hg:PolGood E.pol:=T.good _ (List.mem_of_getElem? he)
 exact⟨h.who0,h.who1,⟨p,hp,he⟩,by omega,hl.klen ho,hl.op0,ho,hl.n,hl.n64,hl.se0,hl.se1,hg,fun e=>by rw[← hpo];exact hl.kind1 e,fun e=>by rw[← hpo];exact hl.kind2 e⟩
theorem EOk.t {E:Env} {x:Live} (T:TabOk E.A.list E.A.room) (h:EOk E x) (hl:LiveOk E.A.list x) {sum:Nat} {t:Then} (ht:TOkP x sum t):TOk E x t:=by
 cases t with
 |call=>exact h.good T hl ht.1
 |evict j shards gone=>
   obtain⟨h1,h2,h3,h4,h5,h6⟩:=ht
   exact⟨by omega,by omega⟩
theorem place34 {l s:Nat} (h:l≤4):place l s<34:=by have:=(place_bd (s:=s) h).2;omega
theorem fok_bd {m:Mem} {x:Live} {word:Nat} {t:FThen} (h:FOk m x word t):word<34∧levelOf t≤4∧ ∀level i,t= .move level i→i<32:=by
 cases t with
 |find level sum t=>
   obtain⟨h1,h2,rfl,h4⟩:=h
   exact⟨place34 (by omega),by show level≤4;omega,fun _ _ e=>by cases e⟩
 |move level i=>
   obtain⟨h1,h2,h3,rfl,h4⟩:=h
   refine⟨place34 (by omega),by show level≤4;omega,fun _ _ e=> ?_⟩
   cases e
   have:=two_le (show level≤3 from h2)
   omega
theorem hok_bd {E:Env} {m:Mem} {x:Live} (T:TabOk E.A.list E.A.room) (he:EOk E x) (hl:LiveOk E.A.list x) {level shard:Nat} {holds:List Cell} {t:HThen} (h:HOkP m x level shard holds t):HOk E x t∧place level shard<34∧level≤4:=by
 obtain⟨l,rfl,h2,h3,h4,h5,h6⟩:=h
 refine⟨?_,place34 (by omega),by omega⟩
 cases t with
 |find sum t=>exact he.t T hl h6.1
 |one l' i h=>obtain⟨_,rfl,_,h7,_⟩:=h6;exact⟨by omega,h7⟩
 |two l' i=>obtain⟨_,rfl,_,h7,_⟩:=h6;exact⟨by omega,h7⟩
set_option maxHeartbeats 1000000 in
theorem step_any (B:Nat) (E:Env) (x:Live) (m:Mem) (k:Kont) (cl:Nat) (v:Value) (w:World) (T:TabOk E.A.list E.A.room) (hi:SInv E.A.list E.A.room m cl) (hl:LiveOk E.A.list x) (hk:KOk E.A.list E.A.room m x k) (he:EOk E x) (hc:m.count<4611686018427387900) (hB:B≤E.x) (hv:KontAt w E v k) (hs:St w B E.A m) (hcl:CallAt w E x):
   ∃f ps,v= .func (.func f) #[] ps∧Enters f∧Calls Tryz.prog f ps w (ORes w B E (stepF BlV E.A.list E.A.room k x m)):=by
 have ok:E.Ok m:=⟨he.who0,he.who1,by omega⟩
 have h8:=hi.dir.d8
 have hT:=then_spec BlV books_V
 have hr2:=T.room2
 cases k with
 |find sum t=>exact step_find BlV B E x m sum t v w hv hs hcl ok h8
 |enter sum word t=>
   obtain⟨ht,l,h4,rfl⟩:=hk
   exact step_enter BlV hT B E x m sum _ t v w hv (he.t T hl ht) hs hcl ok (place34 h4)
 |freeze word t=>
   obtain⟨h1,h2,h3⟩:=fok_bd hk
   obtain⟨f,ps,e,hC⟩:=step_freeze BlV E.A.list E.A.room B E x m word t v w hv hs hcl ok h1 h2 h3
   refine⟨f,ps,e,?_,hC⟩
   obtain⟨b0,b1,b2,b3,tv,e',_⟩:=hv
   rw[e]at e'
   injection e' with e1 _ _
   injection e1 with e1
   subst e1
   exact enters_of Tryz.func148 (by kernel_rfl) rfl
 |freezeSwap word u holds t=>
   obtain⟨h1,h2,h3⟩:=fok_bd hk.1
   exact step_freezeSwap BlV B E x m word u holds t v w hv hs hcl ok h1 hk.2.v2 h2 h3
 |half level shard holds t=>
   obtain⟨h1,h2,h3⟩:=hok_bd T he hl hk
   exact step_half BlV hT B E x m level shard holds t v w hv h1 hs hcl ok h2
 |halfSwap level shard holds h t=>
   obtain⟨h1,h2,h3⟩:=hok_bd T he hl hk
   exact step_halfSwap BlV hT cut_any B E x m level shard holds h t v w hv h1 hs hcl ok h2 h3
 |split=>exact step_split BlV B E x m v w hv hs hcl ok h8
 |splitSwap d level=>
   obtain⟨h1,rfl,h3⟩:=hk
   exact step_splitSwap BlV B E x m _ level v w hv hs hcl ok (by omega) (by omega)
 |moveEnd level=>
   exact step_moveEnd BlV B E x m level v w hv hs hcl ok (by have:=hk.2.1;omega)
 |wordLoad word by_ stop t=>
   have hw:word<34:=by
     cases t with
     |back t=>cases t with
       |done r=>have:=hk.2.1;unfold COUNT at this;omega
       |evict j s g=>have:=hk.2.1;unfold COUNT at this;omega
     |room f a th c r=>have:=hk.1;unfold COUNT at this;omega
     |serial f a th c=>have:=hk.1;unfold SERIAL at this;omega
   refine step_wordLoad BlV B E x m word by_ stop t v w hv hs hcl ok hw fun e b eb=> ?_
   subst eb
   have h32:=hi.cnt2
   have hst:word=32∧stop=NEVER:=by
     cases b with
     |done r=>exact⟨hk.2.1,hk.2.2.2.1⟩
     |evict j s g=>exact⟨hk.2.1,hk.2.2.1⟩
   obtain⟨rfl,rfl⟩:=hst
   unfold NEVER at e
   omega
 |wordSwap word by_ stop u t=>
   obtain⟨h1,h2,h3,h4⟩:=hk
   have hw:word<34:=by
     cases t with
     |back t=>cases t with
       |done r=>have:=h1.2.1;unfold COUNT at this;omega
       |evict j s g=>have:=h1.2.1;unfold COUNT at this;omega
     |room f a th c r=>have:=h1.1;unfold COUNT at this;omega
     |serial f a th c=>have:=h1.1;unfold SERIAL at this;omega
   refine step_wordSwap BlV (take_spec BlV books_V) B E x m word by_ stop u t v w hv ?_ hs hcl hB ok hw
   cases t with
   |back t=>cases t with
     |done r=>trivial
     |evict j s g=>
       obtain⟨_,_,_,_,h5,h6,h7,h8⟩:=h1
       exact⟨by omega,by omega,h7,by omega⟩
   |room f a th c r=>trivial
   |serial f a th c=>
     obtain⟨_,rfl,rfl,h5,h6⟩:=h1
     have h7:=h4 (fun b e=>by cases e)
     refine⟨he.good T hl (by omega),?_,h5⟩
     unfold U64
     omega
 |put f at_ there c r=>
   obtain⟨⟨h1,h2,⟨l,h3,h4⟩,h5⟩,h6⟩:=hk
   have:=h2.few
   exact step_put BlV books_V B E x m f at_ there c r v w hv (he.good T hl h1) hs hcl ok (by rw[h4];exact place34 h3) h2.v2 (by omega)
 |allow f at_ there c=>
   exact step_allow BlV books_V B E x m f at_ there c v w hv (he.good T hl (by have:=hk.1;omega)) hk.1 hs hcl ok
 |peek c=>
   exact step_peek BlV books_V B E x m c v w hv (he.good T hl (by have:x.call.op=4:=hk;omega)) hs hcl ok
 |evictStart=>exact step_evictStart BlV B E x m v w hv hs hcl ok h8
 |evictClock j shards gone word u cells=>
   obtain⟨h1,h2,h3,h4⟩:=hk
   obtain⟨_,_,h5,h6,_⟩:=h1
   exact step_evictClock B E x m j shards gone word u cells v w hv (by omega) (by omega) hs hcl ok h3 (fun c hc=>(h2.lies.perm c hc).1)
 |evictSwap j shards gone word u rest n=>
   obtain⟨h1,⟨l,h2,rfl⟩,h3,cells,p,h4,rfl,rfl⟩:=hk
   obtain⟨_,_,h5,h6,_⟩:=h1
   have:=h4.few
   exact step_evictSwap BlV B E x m j shards gone _ u _ _ v w hv (by omega) (by omega) (by omega) hs hcl ok (place34 h2) h4.v2
end
section
open Go.RowKit Top
set_option linter.unusedVariables false
theorem pol_at4 {w:World} {a:Option Addr} {n c:Nat} {L:List Pol} (h:PolsAt w (.slice a n c) L) (k:Nat) (hk:k<L.length): ∃b off,a=some ⟨b,off,none⟩∧w.cell? ⟨b,off+k*4,none⟩=some (.int .u8 (L[k].kind:Nat))∧w.cell? ⟨b,off+k*4+1,none⟩=some (.int .i64 L[k].T)∧w.cell? ⟨b,off+k*4+2,none⟩=some (.int .i64 L[k].tau)∧w.cell? ⟨b,off+k*4+3,none⟩=some (.int .i64 L[k].permits):=by
 obtain⟨h1,h2,h3,h4⟩:=Row.cells h
 obtain⟨b,off,h5,h6⟩:=h4 (by omega)
 refine⟨b,off,h5,?_,?_,?_,?_⟩
 · have:=h6 (4*k+0) _ (pol_get L k 0 hk (by decide));rwa [show off+(4*k+0)=off+k*4 by omega]at this
 · have:=h6 (4*k+1) _ (pol_get L k 1 hk (by decide));rwa [show off+(4*k+1)=off+k*4+1 by omega]at this
 · have:=h6 (4*k+2) _ (pol_get L k 2 hk (by decide));rwa [show off+(4*k+2)=off+k*4+2 by omega]at this
 · have:=h6 (4*k+3) _ (pol_get L k 3 hk (by decide));rwa [show off+(4*k+3)=off+k*4+3 by omega]at this
set_option maxHeartbeats 1000000 in
theorem form_pol (kd:Nat) (T tau perm:Int) (w:World) (hp:PolGood ⟨kd,T,tau,perm⟩):
   Calls Tryz.prog 54 #[.agg #[.int .u8 (kd:Nat),.int .i64 T,.int .i64 tau,.int .i64 perm]] w fun e w'=>e= .returned (.bool true)∧Below w.heap.size w w':=by
 rcases hp with ⟨h1,h2,h3,h4,h5⟩|⟨h1,h2,h3⟩
 · dsimp only at h1 h2 h3 h4 h5
   subst h1
   have Kc:=Lib.hid (fun W=>rcheck_yes T tau W (by simp [limB,tickB];omega))
   clear h2 h3 h4 h5
   unfold limV at Kc
   go_enter Tryz.func54,Tryz.ntmps54
   go_wp2_with (go_at_call 77;(with_reducible refine(Kc.out _).mono ?_);rintro e w2 ⟨rfl,hb⟩)
   exact bodyPost_ret (v:= .bool true) (by simp [results,Tryz.results54,go_sem]) rfl ⟨rfl,(below_allocs [_] w).trans (hb.mono (by simp))⟩
 · dsimp only at h1 h2 h3
   subst h1
   go_enter Tryz.func54,Tryz.ntmps54
   go_wp2_with fail
   exact bodyPost_ret (v:= .bool true) (by simp [results,Tryz.results54,go_sem]) rfl ⟨rfl,below_allocs [_] w⟩
set_option maxHeartbeats 1000000 in
theorem policies_good (L:List Pol) (lv:Value) (w:World) (hl:PolsAt w lv L) (hn:L.length≤32) (hg: ∀p∈L,PolGood p):
   Calls Tryz.prog 30 #[lv] w fun e w'=>e= .returned (.int .i64 0)∧Below w.heap.size w w':=by
 obtain⟨la,lc,rfl⟩: ∃a c',lv= .slice a L.length c':=by obtain⟨_,a,c',e,_⟩:=hl;exact⟨a,c',e⟩
 have Hl:=Lib.hid (fun k hk=>pol_at4 hl k hk)
 have Hg:=Lib.hid hg
 clear hl hg
 go_enter Tryz.func30,Tryz.ntmps30
 go_wp2
 go_loopw [10] (fun i wr=> ∃k:Nat,i= .int .i64 k∧k≤L.length∧Below w.heap.size w wr) (fun i _=>L.length-(intOf i).toNat)
 case atStart=>exact⟨0,rfl,Nat.zero_le _,Below.refl _ _⟩
 case round=>
   obtain⟨k,rfl,hk,hbel⟩:=hrel
   have Hbel:=Lib.hid hbel
   clear hbel
   by_cases hA:k<L.length
   · obtain⟨b,off,rfl,x0,x1,x2,x3⟩:=Hl.out k hA
     have y0:=cell_later Hbel.out x0;have y1:=cell_later Hbel.out x1;have y2:=cell_later Hbel.out x2;have y3:=cell_later Hbel.out x3
     have KF:Hid (∀W,Calls Tryz.prog 54 #[.agg #[.int .u8 (L[k].kind:Nat),.int .i64 L[k].T,.int .i64 L[k].tau,.int .i64 L[k].permits]] W fun e w'=>e= .returned (.bool true)∧Below W.heap.size W w'):=fun W=>form_pol _ _ _ _ W (Hg.out L[k] (List.getElem_mem hA))
     clear x0 x1 x2 x3
     generalize L[k].kind=kd at*
     generalize L[k].T=pT at*
     generalize L[k].tau=ptau at*
     generalize L[k].permits=pp at*
     have hw0:w.heap.size≤wr.heap.size:=Hbel.out.size
     go_wp2_with (go_at_call 54;(with_reducible refine(KF.out _).mono ?_);rintro e w2 ⟨rfl,hb2⟩;have Hb2:=Lib.hid hb2;clear hb2)
     go_roundw
     case rel=>exact⟨k+1,by go_num,by omega,(Hbel.out.alloc hw0 _).trans (Hb2.out.mono (by simp;omega))⟩
     case measure=>simp [intOf];omega
   · obtain rfl:k=L.length:=by omega
     go_wp2
     exact bodyPost_ret (v:= .int .i64 0) (by simp [results,Tryz.results30,go_sem]) rfl ⟨rfl,Hbel.out⟩
def kindOf (op:Nat):Nat:=if op=1 then 1 else if op=2∨op=3 then 2 else 0
theorem kind_any (op:Nat) (w:World):
   Calls Tryz.prog 58 #[.int .u8 op] w fun e w'=>e= .returned (.int .u8 (kindOf op:Nat))∧w=w':=by
 by_cases h1:op=1
 · subst h1
   go_enter Tryz.func58,Tryz.ntmps58
   go_wp2
   go_ret
   exact⟨rfl,rfl⟩
 · by_cases h2:op=2
   · subst h2
     go_enter Tryz.func58,Tryz.ntmps58
     go_wp2
     go_ret
     exact⟨rfl,rfl⟩
   · by_cases h3:op=3
     · subst h3
       go_enter Tryz.func58,Tryz.ntmps58
       go_wp2
       go_ret
       exact⟨rfl,rfl⟩
     · have g1: ¬(op:Int)=1:=by omega
       have g2: ¬(op:Int)=2:=by omega
       have g3: ¬(op:Int)=3:=by omega
       have e:kindOf op=0:=by unfold kindOf;rw[if_neg h1,if_neg (by omega)]
       rw[e]
       clear e h1 h2 h3
       go_enter Tryz.func58,Tryz.ntmps58
       go_wp2
       go_ret
       exact⟨rfl,rfl⟩
end
section
open Go.RowKit Top
set_option linter.unusedVariables false
structure CallOk (L:List Pol) (c:Top.Call):Prop where
 op0:1≤c.op
 op1:c.op≤6
 n:c.op=1→0≤c.n∧c.n≤4611686018427387903
 klen:c.key.length≤255
 pol: ∃p:Nat,c.pol=(p:Int)∧p<L.length
 kind:c.op≤4→kindOf c.op≠0→(L.getD c.pol.toNat default).kind=kindOf c.op
set_option maxHeartbeats 20000000 in
theorem check_good (L:List Pol) (lv:Value) (c:Top.Call) (kv:Value) (w:World) (hl:PolsAt w lv L) (hn:L.length≤32) (hg: ∀p∈L,PolGood p) (hc:CallOk L c) (hk: ∃a cap,kv= .slice a c.key.length cap):
   Calls Tryz.prog 36 #[lv,.agg #[.int .u8 (c.op:Nat),.int .i64 c.pol,kv,.int .i64 c.n]] w fun e w'=>e= .returned (.int .i64 0)∧Below w.heap.size w w':=by
 obtain⟨op,pol,key,n⟩:=c
 obtain⟨h0,h1,h2,h3,⟨p,h4,h5⟩,h6⟩:=hc
 dsimp only at h0 h1 h2 h3 h4 h5 h6 hk ⊢
 subst h4
 rw[Int.toNat_natCast]at h6
 obtain⟨ka,kc,rfl⟩:=hk
 obtain⟨la,lc,rfl⟩: ∃a c',lv= .slice a L.length c':=by obtain⟨_,a,c',e,_⟩:=hl;exact⟨a,c',e⟩
 have hkd:L.getD p default=L[p]:=by rw[List.getD_eq_getElem?_getD,List.getElem?_eq_getElem h5];rfl
 rw[hkd]at h6
 obtain⟨b,off,rfl,x0,z1,z2,z3⟩:=pol_at4 hl p h5
 clear z1 z2 z3
 have KP:Hid (∀W,Below w.heap.size w W→Calls Tryz.prog 30 #[.slice (some ⟨b,off,none⟩) L.length lc] W fun e w'=>e= .returned (.int .i64 0)∧Below W.heap.size W w'):=fun W hb=>policies_good L _ W (hl.keep (fr0 hb)) hn hg
 have HX:Hid (∀W,Below w.heap.size w W→W.cell? ⟨b,off+p*4,none⟩=some (.int .u8 (L[p].kind:Nat))):=fun W hb=>cell_later hb x0
 have KF:=Lib.hid (fun W=>form_any n W)
 generalize hkk:L[p].kind=kd at*
 have hpl:p<L.length:=h5
 clear hl hg hkd hkk h5
 generalize key.length=kn at*
 generalize hln:L.length=ln at*
 clear hln
 have d1:decide ((p:Int)<0)=false:=decide_eq_false (by omega)
 have d2:decide ((p:Int)≥(ln:Int))=false:=decide_eq_false (by omega)
 have d7:decide (ln≤p)=false:=decide_eq_false (by omega)
 have d3:decide ((kn:Int)>255)=false:=decide_eq_false (by omega)
 have hop:op=1∨op=2∨op=3∨op=4∨op=5∨op=6:=by omega
 clear x0 h0 h1
 rcases hop with rfl|rfl|rfl|rfl|rfl|rfl
 · show Calls _ _ #[.slice (some ⟨b,off,none⟩) ln lc,.agg #[.int .u8 1,.int .i64 p,.slice ka kn kc,.int .i64 n]] w _
   have Hb0:Hid (Below w.heap.size w (w.alloc (.cells #[.int .u8 1,.int .i64 p,.slice ka kn kc,.int .i64 n] 31))):=below_allocs [_] w
   have Hbx:Hid (Bx (w.alloc (.cells #[.int .u8 1,.int .i64 p,.slice ka kn kc,.int .i64 n] 31)) w.heap.size 31 #[.int .u8 1,.int .i64 p,.slice ka kn kc,.int .i64 n]):=Bx.new _ _ _
   have ht:tickB n=true:=by have:=h2 rfl;simp [tickB];omega
   rw[ht]at KF
   have Kk:Hid (∀W,Calls Tryz.prog 58 #[.int .u8 1] W fun e w'=>e= .returned (.int .u8 1)∧W=w'):=fun W=>kind_any 1 W
   have hz:kd=1:=h6 (by omega) (by decide)
   subst hz
   clear h6 h2
   go_enter Tryz.func36,Tryz.ntmps36
   go_wp2_with (first
     |(go_at_call 42;(with_reducible refine(KF.out _).mono ?_);rintro e w2 ⟨rfl,rfl⟩)
     |(go_at_call 30;(with_reducible refine(KP.out _ Hb0.out).mono ?_);rintro e w2 ⟨rfl,hb2⟩;have hbx:=Hbx.out.below hb2 Hbx.out.lt;have c0:=hbx.cell 0;have c1:=hbx.cell 1;have c2:=hbx.cell 2;have c3:=hbx.cell 3;have y0:=HX.out w2 (Hb0.out.trans (hb2.mono Hb0.out.size));have Hb2:=Lib.hid (Hb0.out.trans (hb2.mono Hb0.out.size));clear hb2 hbx))
   go_quiet ((go_at_call 58;with_reducible exact quiet_left (Kk.out _)))
   go_wp2_with fail
   exact bodyPost_ret (v:= .int .i64 0) (by simp [results,Tryz.results36,go_sem]) rfl ⟨rfl,below_drewN Hb2.out _⟩
 · show Calls _ _ #[.slice (some ⟨b,off,none⟩) ln lc,.agg #[.int .u8 2,.int .i64 p,.slice ka kn kc,.int .i64 n]] w _
   have Hb0:Hid (Below w.heap.size w (w.alloc (.cells #[.int .u8 2,.int .i64 p,.slice ka kn kc,.int .i64 n] 31))):=below_allocs [_] w
   have Hbx:Hid (Bx (w.alloc (.cells #[.int .u8 2,.int .i64 p,.slice ka kn kc,.int .i64 n] 31)) w.heap.size 31 #[.int .u8 2,.int .i64 p,.slice ka kn kc,.int .i64 n]):=Bx.new _ _ _
   have Kk:Hid (∀W,Calls Tryz.prog 58 #[.int .u8 2] W fun e w'=>e= .returned (.int .u8 2)∧W=w'):=fun W=>kind_any 2 W
   have hz:kd=2:=h6 (by omega) (by decide)
   subst hz
   clear h6 h2
   go_enter Tryz.func36,Tryz.ntmps36
   go_wp2_with (first
     |(go_at_call 42;(with_reducible refine(KF.out _).mono ?_);rintro e w2 ⟨rfl,rfl⟩)
     |(go_at_call 30;(with_reducible refine(KP.out _ Hb0.out).mono ?_);rintro e w2 ⟨rfl,hb2⟩;have hbx:=Hbx.out.below hb2 Hbx.out.lt;have c0:=hbx.cell 0;have c1:=hbx.cell 1;have c2:=hbx.cell 2;have c3:=hbx.cell 3;have y0:=HX.out w2 (Hb0.out.trans (hb2.mono Hb0.out.size));have Hb2:=Lib.hid (Hb0.out.trans (hb2.mono Hb0.out.size));clear hb2 hbx))
   go_quiet ((go_at_call 58;with_reducible exact quiet_left (Kk.out _)))
   go_wp2_with fail
   exact bodyPost_ret (v:= .int .i64 0) (by simp [results,Tryz.results36,go_sem]) rfl ⟨rfl,below_drewN Hb2.out _⟩
 · show Calls _ _ #[.slice (some ⟨b,off,none⟩) ln lc,.agg #[.int .u8 3,.int .i64 p,.slice ka kn kc,.int .i64 n]] w _
   have Hb0:Hid (Below w.heap.size w (w.alloc (.cells #[.int .u8 3,.int .i64 p,.slice ka kn kc,.int .i64 n] 31))):=below_allocs [_] w
   have Hbx:Hid (Bx (w.alloc (.cells #[.int .u8 3,.int .i64 p,.slice ka kn kc,.int .i64 n] 31)) w.heap.size 31 #[.int .u8 3,.int .i64 p,.slice ka kn kc,.int .i64 n]):=Bx.new _ _ _
   have Kk:Hid (∀W,Calls Tryz.prog 58 #[.int .u8 3] W fun e w'=>e= .returned (.int .u8 2)∧W=w'):=fun W=>kind_any 3 W
   have hz:kd=2:=h6 (by omega) (by decide)
   subst hz
   clear h6 h2
   go_enter Tryz.func36,Tryz.ntmps36
   go_wp2_with (first
     |(go_at_call 42;(with_reducible refine(KF.out _).mono ?_);rintro e w2 ⟨rfl,rfl⟩)
     |(go_at_call 30;(with_reducible refine(KP.out _ Hb0.out).mono ?_);rintro e w2 ⟨rfl,hb2⟩;have hbx:=Hbx.out.below hb2 Hbx.out.lt;have c0:=hbx.cell 0;have c1:=hbx.cell 1;have c2:=hbx.cell 2;have c3:=hbx.cell 3;have y0:=HX.out w2 (Hb0.out.trans (hb2.mono Hb0.out.size));have Hb2:=Lib.hid (Hb0.out.trans (hb2.mono Hb0.out.size));clear hb2 hbx))
   go_quiet ((go_at_call 58;with_reducible exact quiet_left (Kk.out _)))
   go_wp2_with fail
   exact bodyPost_ret (v:= .int .i64 0) (by simp [results,Tryz.results36,go_sem]) rfl ⟨rfl,below_drewN Hb2.out _⟩
 · show Calls _ _ #[.slice (some ⟨b,off,none⟩) ln lc,.agg #[.int .u8 4,.int .i64 p,.slice ka kn kc,.int .i64 n]] w _
   have Hb0:Hid (Below w.heap.size w (w.alloc (.cells #[.int .u8 4,.int .i64 p,.slice ka kn kc,.int .i64 n] 31))):=below_allocs [_] w
   have Hbx:Hid (Bx (w.alloc (.cells #[.int .u8 4,.int .i64 p,.slice ka kn kc,.int .i64 n] 31)) w.heap.size 31 #[.int .u8 4,.int .i64 p,.slice ka kn kc,.int .i64 n]):=Bx.new _ _ _
   have Kk:Hid (∀W,Calls Tryz.prog 58 #[.int .u8 4] W fun e w'=>e= .returned (.int .u8 0)∧W=w'):=fun W=>kind_any 4 W
   clear h6 h2
   go_enter Tryz.func36,Tryz.ntmps36
   go_wp2_with (first
     |(go_at_call 42;(with_reducible refine(KF.out _).mono ?_);rintro e w2 ⟨rfl,rfl⟩)
     |(go_at_call 30;(with_reducible refine(KP.out _ Hb0.out).mono ?_);rintro e w2 ⟨rfl,hb2⟩;have hbx:=Hbx.out.below hb2 Hbx.out.lt;have c0:=hbx.cell 0;have c1:=hbx.cell 1;have c2:=hbx.cell 2;have c3:=hbx.cell 3;have y0:=HX.out w2 (Hb0.out.trans (hb2.mono Hb0.out.size));have Hb2:=Lib.hid (Hb0.out.trans (hb2.mono Hb0.out.size));clear hb2 hbx))
   go_quiet ((go_at_call 58;with_reducible exact quiet_left (Kk.out _)))
   go_wp2_with fail
   exact bodyPost_ret (v:= .int .i64 0) (by simp [results,Tryz.results36,go_sem]) rfl ⟨rfl,below_drewN Hb2.out _⟩
 · show Calls _ _ #[.slice (some ⟨b,off,none⟩) ln lc,.agg #[.int .u8 5,.int .i64 p,.slice ka kn kc,.int .i64 n]] w _
   have Hb0:Hid (Below w.heap.size w (w.alloc (.cells #[.int .u8 5,.int .i64 p,.slice ka kn kc,.int .i64 n] 31))):=below_allocs [_] w
   have Hbx:Hid (Bx (w.alloc (.cells #[.int .u8 5,.int .i64 p,.slice ka kn kc,.int .i64 n] 31)) w.heap.size 31 #[.int .u8 5,.int .i64 p,.slice ka kn kc,.int .i64 n]):=Bx.new _ _ _
   clear h6 h2
   go_enter Tryz.func36,Tryz.ntmps36
   go_wp2_with (first
     |(go_at_call 42;(with_reducible refine(KF.out _).mono ?_);rintro e w2 ⟨rfl,rfl⟩)
     |(go_at_call 30;(with_reducible refine(KP.out _ Hb0.out).mono ?_);rintro e w2 ⟨rfl,hb2⟩;have hbx:=Hbx.out.below hb2 Hbx.out.lt;have c0:=hbx.cell 0;have c1:=hbx.cell 1;have c2:=hbx.cell 2;have c3:=hbx.cell 3;have y0:=HX.out w2 (Hb0.out.trans (hb2.mono Hb0.out.size));have Hb2:=Lib.hid (Hb0.out.trans (hb2.mono Hb0.out.size));clear hb2 hbx))
   go_quiet (fail)
   go_wp2_with fail
   exact bodyPost_ret (v:= .int .i64 0) (by simp [results,Tryz.results36,go_sem]) rfl ⟨rfl,below_drewN Hb2.out _⟩
 · show Calls _ _ #[.slice (some ⟨b,off,none⟩) ln lc,.agg #[.int .u8 6,.int .i64 p,.slice ka kn kc,.int .i64 n]] w _
   have Hb0:Hid (Below w.heap.size w (w.alloc (.cells #[.int .u8 6,.int .i64 p,.slice ka kn kc,.int .i64 n] 31))):=below_allocs [_] w
   have Hbx:Hid (Bx (w.alloc (.cells #[.int .u8 6,.int .i64 p,.slice ka kn kc,.int .i64 n] 31)) w.heap.size 31 #[.int .u8 6,.int .i64 p,.slice ka kn kc,.int .i64 n]):=Bx.new _ _ _
   clear h6 h2
   go_enter Tryz.func36,Tryz.ntmps36
   go_wp2_with (first
     |(go_at_call 42;(with_reducible refine(KF.out _).mono ?_);rintro e w2 ⟨rfl,rfl⟩)
     |(go_at_call 30;(with_reducible refine(KP.out _ Hb0.out).mono ?_);rintro e w2 ⟨rfl,hb2⟩;have hbx:=Hbx.out.below hb2 Hbx.out.lt;have c0:=hbx.cell 0;have c1:=hbx.cell 1;have c2:=hbx.cell 2;have c3:=hbx.cell 3;have y0:=HX.out w2 (Hb0.out.trans (hb2.mono Hb0.out.size));have Hb2:=Lib.hid (Hb0.out.trans (hb2.mono Hb0.out.size));clear hb2 hbx))
   go_quiet (fail)
   go_wp2_with fail
   exact bodyPost_ret (v:= .int .i64 0) (by simp [results,Tryz.results36,go_sem]) rfl ⟨rfl,below_drewN Hb2.out _⟩
end
section
open Go.RowKit Top
set_option linter.unusedVariables false
theorem csum_any (pol:Int) (kv:Value) (k:List Nat) (w:World) (h:KeyAt w kv k) (hk:k.length≤255) (h0:0≤pol) (h1:pol<32):
   Calls Tryz.prog 38 #[.int .i64 pol,kv] w fun e w'=>e= .returned (.int .u64 (sumB (ident pol k):Nat))∧Below w.heap.size w w':=by
 have Ki:=Lib.hid (ident_any pol kv k w h hk h0 h1)
 obtain⟨s,hs⟩: ∃s,sumB (ident pol k)=s:=⟨_,rfl⟩
 have Ks:Hid (∀(v:Value) (W:World),ByAt W v (ident pol k)→Calls Tryz.prog 57 #[v] W fun e w'=>e= .returned (.int .u64 (s:Nat))∧W=w'):=fun v W hv=>by rw[← hs];exact sum_any v _ W hv
 rw[hs]
 clear h hk h0 h1 hs
 go_enter Tryz.func38,Tryz.ntmps38
 go_wp2_with (first
   |(go_at_call 34;(with_reducible refine Ki.out.mono ?_);rintro e w1 ⟨a,c,rfl,hi,hb⟩;have Hi:=Lib.hid hi;have Hb:=Lib.hid hb;clear hi hb)
   |(go_at_call 57;(with_reducible refine(Ks.out _ _ Hi.out).mono ?_);rintro e w2 ⟨rfl,rfl⟩))
 exact bodyPost_ret (v:= .int .u64 s) (by simp [results,Tryz.results38,go_sem]) rfl ⟨rfl,Hb.out⟩
theorem info_polT :(Tryz.prog.info? 60).map (fun i=>(i.zero,i.size,i.bytes))=some (some (.agg #[.int .u8 0,.int .i64 0,.int .i64 0,.int .i64 0]),4,32):=by kernel_rfl
theorem polEnc_length : ∀(L:List Pol),(L.flatMap polEnc).length=L.length*4
 |[]=>rfl
 |p::L=>by rw[List.flatMap_cons,List.length_append,polEnc_length L];simp [polEnc];omega
theorem pols_clone (lv:Value) (L:List Pol) (w:World) (h:PolsAt w lv L) (h0:0<L.length) (hn:L.length≤32):
   Calls Tryz.prog 16 #[lv] w fun e w'=> ∃v',e= .returned v'∧PolsAt w' v' L∧(∃a c,v'= .slice a L.length c)∧Below w.heap.size w w':=by
 obtain⟨i0,hi,hz0,hz1,hz2⟩:=info_parts info_polT
 obtain⟨a,c,rfl⟩: ∃a c,lv= .slice a L.length c:=by obtain⟨_,a,c,e,_⟩:=h;exact⟨a,c,e⟩
 obtain⟨_,hc1,hc2,hcells⟩:=Row.cells h
 obtain⟨b,off,rfl,hcell⟩:=hcells h0
 refine(Tryz.slices_Clone_f16 i0 _ 4 32 hi hz0 hz1 hz2 rfl (by decide) Tryz.sizeOf60 b off L.length c (L.flatMap polEnc) w (polEnc_length L) (by unfold maxLen;omega) (by omega) hcell ?_).mono ?_
 · intro u hu
   obtain⟨p,_,hu⟩:=List.mem_flatMap.1 hu
   simp [polEnc]at hu
   rcases hu with rfl|rfl|rfl|rfl<;>rfl
 · rintro e w' ⟨v',rfl,h2,_,h3⟩
   have hr:=Row.own h2
   exact⟨v',rfl,hr,by obtain⟨_,a,c,e,_⟩:=hr;exact⟨a,c,e⟩,h3⟩
def zeros34 :Array Value:=Array.replicate 34 (.int .u64 0)
def nils34 :Array Value:=Array.replicate 34 (.slice none 0 0)
set_option maxHeartbeats 1000000 in
theorem mnew_34 (w:World):
   Calls Tryz.prog 55 #[.int .i64 34] w fun e w'=>e= .returned (.tuple #[P (w.heap.size+1),.int .i64 0])∧Below w.heap.size w w'∧w'.heap.size=w.heap.size+2∧Bx w' w.heap.size 61 zeros34∧Bx w' (w.heap.size+1) 121 (machV w.heap.size 0 0 (.slice none 0 0)):=by
 have hmk: ∀w,(Instr.makeSlice 76 (.int .i64 34) (.int .i64 34)).run Tryz.prog w= .ok (.slice (some ⟨w.heap.size,0,none⟩) 34 34) (w.alloc (.cells zeros34 61)):=fun _=>by kernel_rfl
 go_enter Tryz.func55,Tryz.ntmps55
 go_wp2
 refine bodyPost_ret (v:= .tuple #[P (w.heap.size+1),.int .i64 0]) (by simp [results,Tryz.results55,go_sem]) rfl ?_
 exact⟨rfl,below_allocs [.cells zeros34 61,.cells (machV w.heap.size 0 0 (.slice none 0 0)) 121] w,by simp,bx_allocs w [.cells zeros34 61,.cells (machV w.heap.size 0 0 (.slice none 0 0)) 121] 0 rfl,bx_allocs w [.cells zeros34 61,.cells (machV w.heap.size 0 0 (.slice none 0 0)) 121] 1 rfl⟩
set_option maxHeartbeats 1000000 in
theorem bnew_34 (w:World):
   Calls Tryz.prog 31 #[.int .i64 34] w fun e w'=> ∃b,e= .returned (P b)∧Below w.heap.size w w'∧w'.heap.size=w.heap.size+4∧b=w.heap.size+3∧Bx w' w.heap.size 61 zeros34∧Bx w' (w.heap.size+1) 121 (machV w.heap.size 0 0 (.slice none 0 0))∧Bx w' (w.heap.size+2) 64 nils34∧Bx w' (w.heap.size+3) 81 #[P (w.heap.size+1),.slice (some ⟨w.heap.size+2,0,none⟩) 34 34]:=by
 have hmk: ∀w,(Instr.makeSlice 79 (.int .i64 34) (.int .i64 34)).run Tryz.prog w= .ok (.slice (some ⟨w.heap.size,0,none⟩) 34 34) (w.alloc (.cells nils34 64)):=fun _=>by kernel_rfl
 go_enter Tryz.func31,Tryz.ntmps31
 go_wp2_with (go_at_call 55;(with_reducible refine(mnew_34 _).mono ?_);rintro e w1 ⟨rfl,hb,hsz,h1,h2⟩;have Hb:=Lib.hid hb;have Hs:=Lib.hid hsz;have H1:=Lib.hid h1;have H2:=Lib.hid h2;clear hb hsz h1 h2)
 go_ret
 have hs:=Hs.out
 have hb0:Below w1.heap.size w1 (allocs w1 [.cells nils34 64,.cells #[P (w.heap.size+1),.slice (some ⟨w1.heap.size,0,none⟩) 34 34] 81]):=below_allocs _ _
 have g0:=bx_allocs w1 [.cells nils34 64,.cells #[P (w.heap.size+1),.slice (some ⟨w1.heap.size,0,none⟩) 34 34] 81] 0 rfl
 have g1:=bx_allocs w1 [.cells nils34 64,.cells #[P (w.heap.size+1),.slice (some ⟨w1.heap.size,0,none⟩) 34 34] 81] 1 rfl
 refine⟨w.heap.size+3,?_,Hb.out.trans (hb0.mono Hb.out.size),?_,rfl,H1.out.below hb0 H1.out.lt,H2.out.below hb0 H2.out.lt,?_,?_⟩
 · simp [hs]
 · simp [hs]
 · have e:w.heap.size+2=w1.heap.size:=hs.symm
   rw[e];exact g0
 · have e:w.heap.size+2=w1.heap.size:=hs.symm
   have e3:w.heap.size+3=w1.heap.size+1:=by omega
   rw[e,e3];exact g1
end
end Go.Proofs.YtemnhpdjoimjbaaGreatDoor
