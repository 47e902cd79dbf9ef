import Derived.Test.YtemnhpdjoimjbaaGreatDoorTw39
import Derived.Test.YtemnhpdjoimjbaaGreatDoorTw38
import Derived.Test.YtemnhpdjoimjbaaGreatDoorTw01
namespace Go.Proofs.YtemnhpdjoimjbaaGreatDoor
section
open Go.RowKit Top
set_option linter.unusedVariables false
set_option maxHeartbeats 2000000 in
set_option maxRecDepth 100000 in
theorem start_busy (B:Nat) (A:Adr) (m:Mem) (pd:Nat→Option (Live×Kont)) (who:Nat) (q:Live×Kont) (c:Top.Call) (kv:Value) (w:World) (hs:SysAt w B A m pd) (T:TabOk A.list A.room) (hp:pd who=some q) (hw:who<64) (hc:CallGood A.list c) (hk:ByAt w kv c.key):
   Calls Tryz.prog 19 #[P A.K,.int .i64 who,.agg #[.int .u8 (c.op:Nat),.int .i64 c.pol,kv,.int .i64 c.n]] w fun e w'=>e= .returned (.int .i64 9)∧Below w.heap.size w w':=by
 obtain⟨arr,hK,ha,hpd⟩:=hs.pend
 obtain⟨v,hv,hpv⟩:=hpd who hw
 rw[hp]at hpv
 obtain⟨x,k⟩:=q
 obtain⟨xb,pol,h1,_⟩:=hpv
 obtain⟨f,ps,rfl⟩:=kont_fn h1
 obtain⟨arr',lv,c1,c2,c3,c4,c5,c6⟩:=hs.st.core
 have ea:arr'=arr:=bx_inj c1 hK
 subst ea
 have Kc:Hid (∀W,Below w.heap.size w W→Calls Tryz.prog 36 #[lv,.agg #[.int .u8 (c.op:Nat),.int .i64 c.pol,kv,.int .i64 c.n]] W fun e w'=>e= .returned (.int .i64 0)∧Below W.heap.size W w'):=fun W hb=>check_good A.list lv c kv W (c6.keep (fr0 hb)) T.few T.good hc.ok (by obtain⟨_,a,n,e,_⟩:=hk;exact⟨a,n,e⟩)
 have cK0:w.cell? ⟨A.K,0,none⟩=some lv:=by rw[hK.cell];exact c3
 have cKw:w.cell? ⟨A.K,3+who,none⟩=some (.func (.func f) #[] ps):=by rw[hK.cell];exact hv
 have hKl:=hK.lt
 have e2:=neq_func (.func f) #[] ps
 obtain⟨la,lc,rfl⟩: ∃a c',lv= .slice a A.list.length c':=by obtain⟨_,a,c',e,_⟩:=c6;exact⟨a,c',e⟩
 obtain⟨ka,kc,rfl⟩: ∃a c',kv= .slice a c.key.length c':=by obtain⟨_,a,c',e,_⟩:=hk;exact⟨a,c',e⟩
 have hwi:(who:Int)<64:=by omega
 clear c1 c2 c3 c4 c5 c6 hs hpd hp hc hk hK hv ha T h1
 go_enter Tryz.func19,Tryz.ntmps19
 go_upto_region 1 with (fail)
 refine wp_name (fun u=>Below w.heap.size w u∧Bx u w.heap.size 31 #[.int .u8 (c.op:Nat),.int .i64 c.pol,.slice ka c.key.length kc,.int .i64 c.n]) ⟨below_allocs [_] w,bx_allocs w [_] 0 rfl⟩ ?_
 rintro u ⟨hb,hx⟩
 have hx0:=hx.cell 0;have hx1:=hx.cell 1;have hx2:=hx.cell 2;have hx3:=hx.cell 3
 have uK0:=cell_later hb cK0;have uKw:=cell_later hb cKw
 have Hb:=Lib.hid hb;have Hx:=Lib.hid hx;have Hc0:=Lib.hid cK0;have Hcw:=Lib.hid cKw
 clear hb hx cK0 cKw
 go_wp2_with (first
   |(go_at_call 20;(with_reducible refine(is_any who u (by omega) (by omega)).mono ?_);rintro e w1 ⟨rfl,rfl⟩)
   |(go_at_call 36;(with_reducible refine(Kc.out _ Hb.out).mono ?_);rintro e w2 ⟨rfl,hb2⟩;have hbu:=below_then Hb.out hb2;have z0:=cell_later hbu Hc0.out;have zw:=cell_later hbu Hcw.out;have Hb2:=Lib.hid hbu;clear hb2 hbu))
 exact bodyPost_ret (v:= .int .i64 9) (by simp [results,Tryz.results19,go_sem]) rfl ⟨rfl,Hb2.out⟩
theorem SysAt.acc {w w':World} {B:Nat} {A:Adr} {m m':Mem} {pd:Nat→Option (Live×Kont)} (h:SysAt w B A m pd) (k:Acc w B A m' w'):SysAt w' B A m' pd:=by
 obtain⟨arr,h1,h2,h3⟩:=h.pend
 refine⟨k.1,⟨arr,k.2.quiet _ _ _ _ h1 (.inr ⟨rfl,by simp⟩),h2,fun who hw=> ?_⟩,h.kb⟩
 obtain⟨v,h4,h5⟩:=h3 who hw
 exact⟨v,h4,h5.keep k.2 (fun _ _ _ _ _ _=>by simp)⟩
def tickS (s:Top.Sys) (n:Int):Top.Sys:=⟨s.m.at_ (clampI (s.m.clock+n)),s.pd⟩
theorem tick_sys (B:Nat) (A:Adr) (s:Top.Sys) (n:Int) (w:World) (hs:SysAt w B A s.m s.pd) (h0:0≤n) (h1:n≤4611686018427387903):
   Calls Tryz.prog 12 #[P A.K,.int .i64 n] w fun e w'=>e= .returned (.tuple #[.int .i64 (tickS s n).m.clock,.int .i64 0])∧SysAt w' B A (tickS s n).m (tickS s n).pd∧Fz B w w':=by
 refine(ctick_any B A s.m n w hs.st h0 h1).mono ?_
 rintro e w' ⟨rfl,ha⟩
 exact⟨rfl,hs.acc ha,[],ha.2⟩
end
section
open Go.RowKit Top
set_option linter.unusedVariables false
def fitOp (op:Nat):Nat:=if op<1∨6<op then 1+op%6 else op
def fitPol (op:Nat) (pol:Int):Int:=if op=2∨op=3∨(op=4∧pol.tmod 2≠0)then 1 else 0
def fitN (op:Nat) (n:Int):Int:=if op=1 then clampI n else n
structure Pk where
 kind:Nat
 who:Int
 c:Top.Call
 N:Int
def fitC (c:Top.Call):Top.Call:=⟨fitOp c.op,fitPol (fitOp c.op) c.pol,c.key.take 2,fitN (fitOp c.op) c.n⟩
def fitP (p:Pk):Pk:=⟨p.kind%3,p.who%18446744073709551616%5,fitC p.c,p.N%18446744073709551616%40⟩
def pickA (p:Pk) (kv:Value):Array Value:= #[.int .u8 (p.kind:Nat),.int .i64 p.who,.int .u8 (p.c.op:Nat),.int .i64 p.c.pol,kv,.int .i64 p.c.n,.int .i64 p.N]
structure PkOk (p:Pk):Prop where
 kind:p.kind<256
 who0: -9223372036854775808≤p.who
 who1:p.who≤9223372036854775807
 op:p.c.op<256
 pol0: -9223372036854775808≤p.c.pol
 pol1:p.c.pol≤9223372036854775807
 n0: -9223372036854775808≤p.c.n
 n1:p.c.n≤9223372036854775807
 N0: -9223372036854775808≤p.N
 N1:p.N≤9223372036854775807
def FitW (w:World) (a:Array Value) (u:World):Prop:=Below w.heap.size w u∧Bx u w.heap.size 33 a∧Bx u (w.heap.size+1) 33 #[.int .u8 0,.int .i64 0,.int .u8 0,.int .i64 0,.slice none 0 0,.int .i64 0,.int .i64 0]
theorem FitW.set {w u:World} {a:Array Value} (h:FitW w a u) (i:Nat) (v:Value):FitW w (a.setIfInBounds i v) (u.setCell ⟨w.heap.size,i,none⟩ v):=⟨h.1.setCell (Nat.le_refl _) _,h.2.1.setCell i v,h.2.2.setCell_ne _ _ (by simp)⟩
theorem FitW.cells {w u:World} {v0 v1 v2 v3 v4 v5 v6:Value} (h:FitW w #[v0,v1,v2,v3,v4,v5,v6] u):(u.cell? ⟨w.heap.size,0,none⟩=some v0∧u.cell? ⟨w.heap.size,1,none⟩=some v1∧u.cell? ⟨w.heap.size,2,none⟩=some v2∧u.cell? ⟨w.heap.size,3,none⟩=some v3∧u.cell? ⟨w.heap.size,4,none⟩=some v4∧u.cell? ⟨w.heap.size,5,none⟩=some v5∧u.cell? ⟨w.heap.size,6,none⟩=some v6)∧u.frozen? ⟨w.heap.size,0,none⟩=false∧u.frozen? ⟨w.heap.size,1,none⟩=false∧u.frozen? ⟨w.heap.size,2,none⟩=false∧u.frozen? ⟨w.heap.size,3,none⟩=false∧u.frozen? ⟨w.heap.size,4,none⟩=false∧u.frozen? ⟨w.heap.size,5,none⟩=false∧u.frozen? ⟨w.heap.size,6,none⟩=false:=
 ⟨⟨h.2.1.cell 0,h.2.1.cell 1,h.2.1.cell 2,h.2.1.cell 3,h.2.1.cell 4,h.2.1.cell 5,h.2.1.cell 6⟩,h.2.1.free 0,h.2.1.free 1,h.2.1.free 2,h.2.1.free 3,h.2.1.free 4,h.2.1.free 5,h.2.1.free 6⟩
def storeP (w:World) (r:Nat) (v0 v1 v2 v3 v4 v5 v6:Value):World:=((((((w.setCell ⟨r,0,none⟩ v0).setCell ⟨r,1,none⟩ v1).setCell ⟨r,2,none⟩ v2).setCell ⟨r,3,none⟩ v3).setCell ⟨r,4,none⟩ v4).setCell ⟨r,5,none⟩ v5).setCell ⟨r,6,none⟩ v6
theorem storeP_bx {w:World} {r:Nat} {t:TypeId} {u0 u1 u2 u3 u4 u5 u6 v0 v1 v2 v3 v4 v5 v6:Value} (h:Bx w r t #[u0,u1,u2,u3,u4,u5,u6]):Bx (storeP w r v0 v1 v2 v3 v4 v5 v6) r t #[v0,v1,v2,v3,v4,v5,v6]:=by
 have h1:Bx (((w.setCell ⟨r,0,none⟩ v0).setCell ⟨r,1,none⟩ v1).setCell ⟨r,2,none⟩ v2) r t #[v0,v1,v2,u3,u4,u5,u6]:=((h.setCell 0 v0).setCell 1 v1).setCell 2 v2
 have h2:Bx (((((w.setCell ⟨r,0,none⟩ v0).setCell ⟨r,1,none⟩ v1).setCell ⟨r,2,none⟩ v2).setCell ⟨r,3,none⟩ v3).setCell ⟨r,4,none⟩ v4) r t #[v0,v1,v2,v3,v4,u5,u6]:=(h1.setCell 3 v3).setCell 4 v4
 exact(h2.setCell 5 v5).setCell 6 v6
theorem storeP_bel {B:Nat} {a w:World} {r:Nat} {v0 v1 v2 v3 v4 v5 v6:Value} (hr:B≤r) (h:RowKit.Below B a w):RowKit.Below B a (storeP w r v0 v1 v2 v3 v4 v5 v6):=belSet hr (belSet hr (belSet hr (belSet hr (belSet hr (belSet hr (belSet hr h))))))
theorem storeP_at {w Z:World} {a:Array Value} (v0 v1 v2 v3 v4 v5 v6:Value) (h:FitW w a Z):Below w.heap.size w (storeP Z (w.heap.size+1) v0 v1 v2 v3 v4 v5 v6)∧(storeP Z (w.heap.size+1) v0 v1 v2 v3 v4 v5 v6).cell? ⟨w.heap.size+1,0,none⟩=some v0∧(storeP Z (w.heap.size+1) v0 v1 v2 v3 v4 v5 v6).cell? ⟨w.heap.size+1,1,none⟩=some v1∧(storeP Z (w.heap.size+1) v0 v1 v2 v3 v4 v5 v6).cell? ⟨w.heap.size+1,2,none⟩=some v2∧(storeP Z (w.heap.size+1) v0 v1 v2 v3 v4 v5 v6).cell? ⟨w.heap.size+1,3,none⟩=some v3∧(storeP Z (w.heap.size+1) v0 v1 v2 v3 v4 v5 v6).cell? ⟨w.heap.size+1,4,none⟩=some v4∧(storeP Z (w.heap.size+1) v0 v1 v2 v3 v4 v5 v6).cell? ⟨w.heap.size+1,5,none⟩=some v5∧(storeP Z (w.heap.size+1) v0 v1 v2 v3 v4 v5 v6).cell? ⟨w.heap.size+1,6,none⟩=some v6:=by
 have hz:Bx (storeP Z (w.heap.size+1) v0 v1 v2 v3 v4 v5 v6) (w.heap.size+1) 33 #[v0,v1,v2,v3,v4,v5,v6]:=storeP_bx h.2.2
 exact⟨storeP_bel (Nat.le_succ _) h.1,hz.cell 0,hz.cell 1,hz.cell 2,hz.cell 3,hz.cell 4,hz.cell 5,hz.cell 6⟩
theorem FitW.later {w u u':World} {a:Array Value} (h:FitW w a u) (k:Below u.heap.size u u'):FitW w a u':=⟨below_then h.1 k,h.2.1.below k h.2.1.lt,h.2.2.below k h.2.2.lt⟩
theorem FitW.outs {w u:World} {a:Array Value} (h:FitW w a u):(u.cell? ⟨w.heap.size+1,0,none⟩=some (.int .u8 0)∧u.cell? ⟨w.heap.size+1,1,none⟩=some (.int .i64 0)∧u.cell? ⟨w.heap.size+1,2,none⟩=some (.int .u8 0)∧u.cell? ⟨w.heap.size+1,3,none⟩=some (.int .i64 0)∧u.cell? ⟨w.heap.size+1,4,none⟩=some (.slice none 0 0)∧u.cell? ⟨w.heap.size+1,5,none⟩=some (.int .i64 0)∧u.cell? ⟨w.heap.size+1,6,none⟩=some (.int .i64 0))∧u.frozen? ⟨w.heap.size+1,0,none⟩=false∧u.frozen? ⟨w.heap.size+1,1,none⟩=false∧u.frozen? ⟨w.heap.size+1,2,none⟩=false∧u.frozen? ⟨w.heap.size+1,3,none⟩=false∧u.frozen? ⟨w.heap.size+1,4,none⟩=false∧u.frozen? ⟨w.heap.size+1,5,none⟩=false∧u.frozen? ⟨w.heap.size+1,6,none⟩=false:=
 ⟨⟨h.2.2.cell 0,h.2.2.cell 1,h.2.2.cell 2,h.2.2.cell 3,h.2.2.cell 4,h.2.2.cell 5,h.2.2.cell 6⟩,h.2.2.free 0,h.2.2.free 1,h.2.2.free 2,h.2.2.free 3,h.2.2.free 4,h.2.2.free 5,h.2.2.free 6⟩
theorem ByAt.take {w:World} {a:Option Addr} {c n:Nat} {L:List Nat} (h:ByAt w (.slice a n c) L) (k:Nat):ByAt w (.slice a (min L.length k) c) (L.take k):=by
 obtain⟨h0,a',c',e,h1,h2,h3⟩:=h
 injection e with e1 e2 e3
 subst e1 e2 e3
 refine⟨fun x hx=>h0 x (List.mem_of_mem_take hx),a,c,by rw[List.length_take,Nat.min_comm],by rw[List.length_take];omega,h2,fun hn=> ?_⟩
 obtain⟨b,off,e,h4⟩:=h3 (by rw[List.length_take]at hn;omega)
 refine⟨b,off,e,fun j hj=> ?_⟩
 rw[List.length_take]at hj
 rw[h4 j (by omega),List.getD_eq_getElem?_getD,List.getD_eq_getElem?_getD,List.getElem?_take_of_lt (by omega)]
theorem ByAt.row {w:World} {a:Option Addr} {c n:Nat} {L:List Nat} (h:ByAt w (.slice a n c) L):L.length≤c∧c≤maxLen∧(0<L.length→ ∃b off,a=some ⟨b,off,none⟩):=by
 obtain⟨_,a',c',e,h1,h2,h3⟩:=h
 injection e with e1 e2 e3
 subst e1 e2 e3
 exact⟨h1,h2,fun hn=>by obtain⟨b,off,e,_⟩:=h3 hn;exact⟨b,off,e⟩⟩
set_option maxHeartbeats 2000000 in
set_option maxRecDepth 100000 in
theorem fit_all (p:Pk) (kv:Value) (w:World) (hk:ByAt w kv p.c.key) (hp:PkOk p):
   Calls Tryz.prog 7 #[.agg (pickA p kv)] w fun e w'=> ∃kv',e= .returned (.agg (pickA (fitP p) kv'))∧(∀W,ByAt W kv p.c.key→ByAt W kv' (fitP p).c.key)∧Below w.heap.size w w':=by
 obtain⟨kind,who,⟨op,pol,key,n⟩,N⟩:=p
 obtain⟨h1,h2,h3,h4,h5,h6,h7,h8,h9,h10⟩:=hp
 dsimp only at*
 obtain⟨ka,kc,rfl⟩: ∃a c',kv= .slice a key.length c':=by obtain⟨_,a,c',e,_⟩:=hk;exact⟨a,c',e⟩
 have HK:=Lib.hid hk
 have HP:=Lib.hid (And.intro h1 (And.intro h2 (And.intro h3 (And.intro h4 (And.intro h5 (And.intro h6 (And.intro h7 (And.intro h8 (And.intro h9 h10)))))))))
 have e2:(IntKind.u64.wrap who).tmod 5=who%18446744073709551616%5:=by rw[IntKind.wrap_u64,Int.tmod_eq_emod_of_nonneg (by omega)]
 have e3:(IntKind.u64.wrap N).tmod 40=N%18446744073709551616%40:=by rw[IntKind.wrap_u64,Int.tmod_eq_emod_of_nonneg (by omega)]
 clear h1 h2 h3 h4 h5 h6 h7 h8 h9 h10 hk
 show Calls _ _ #[.agg #[.int .u8 (kind:Nat),.int .i64 who,.int .u8 (op:Nat),.int .i64 pol,.slice ka key.length kc,.int .i64 n,.int .i64 N]] w _
 go_enter Tryz.func7,Tryz.ntmps7
 go_upto_region 1 with (fail)
 refine wp_name (FitW w #[.int .u8 (kind:Nat),.int .i64 who,.int .u8 (op:Nat),.int .i64 pol,.slice ka key.length kc,.int .i64 n,.int .i64 N]) ⟨below_allocs [_,_] w,bx_allocs w [_,_] 0 rfl,bx_allocs w [_,_] 1 rfl⟩ ?_
 intro u hu
 have HU:=Lib.hid hu
 obtain⟨⟨a0,a1,a2,a3,a4,a5,a6⟩,f0,f1,f2,f3,f4,f5,f6⟩:=hu.cells
 clear hu
 go_upto_region 3 with (fail)
 refine wp_name (FitW w #[.int .u8 ((kind%3:Nat):Int),.int .i64 (who%18446744073709551616%5),.int .u8 (op:Nat),.int .i64 pol,.slice ka key.length kc,.int .i64 n,.int .i64 N]) ((HU.out.set 0 _).set 1 _) ?_
 clear HU a0 a1 a2 a3 a4 a5 a6 f0 f1 f2 f3 f4 f5 f6
 intro X hu
 have HU:=Lib.hid hu
 obtain⟨⟨a0,a1,a2,a3,a4,a5,a6⟩,f0,f1,f2,f3,f4,f5,f6⟩:=hu.cells
 clear hu
 go_cut [23] (fun v wx=>v= .bool (decide (op<1∨6<op))∧wx=X)
 case first=>
   by_cases ho:op=0
   · subst ho
     go_wp2_with fail
     go_meet
     exact⟨rfl,rfl⟩
   · by_cases ho2:6<op
     · have hf:decide (op<1∨6<op)=true:=decide_eq_true (.inr ho2)
       have g1: ¬(op:Int)<1:=by omega
       have g2:(6:Int)<op:=by omega
       clear ho ho2
       go_wp2_with fail
       go_meet
       exact⟨by rw[hf],rfl⟩
     · have hf:decide (op<1∨6<op)=false:=decide_eq_false (by omega)
       have g1: ¬(op:Int)<1:=by omega
       have g2: ¬(6:Int)<op:=by omega
       clear ho ho2
       go_wp2_with fail
       go_meet
       exact⟨by rw[hf],rfl⟩
 case rest=>
   obtain⟨rfl,rfl⟩:=hcut
   have Hb:Hid (decide (op<1∨6<op)=true→fitOp op=1+op%6):=fun h=>if_pos (of_decide_eq_true h)
   have Hb2:Hid (decide (op<1∨6<op)=false→fitOp op=op):=fun h=>if_neg (of_decide_eq_false h)
   generalize decide (op<1∨6<op)=bb at*
   go_upto_if 23 with (fail)
   go_cut [] (fun wx=>FitW w #[.int .u8 ((kind%3:Nat):Int),.int .i64 (who%18446744073709551616%5),.int .u8 (fitOp op:Nat),.int .i64 pol,.slice ka key.length kc,.int .i64 n,.int .i64 N] wx)
   case first=>
     cases bb
     · have hf:=Hb2.out rfl
       go_wp2_with fail
       go_meet
       rw[hf]
       exact HU.out
     · have hf:=Hb.out rfl
       have g3:IntKind.u8.wrap (1+(op:Int)%6)=((1+op%6:Nat):Int):=by rw[IntKind.wrap_u8];omega
       go_wp2_with fail
       go_meet
       rw[hf]
       have h:=HU.out.set 2 (.int .u8 ((1+op%6:Nat):Int))
       simp only[Int.natCast_add,Int.natCast_emod,Int.cast_ofNat_Int]at h ⊢
       exact h
   case rest=>
     have hu:=hcut
     clear hcut Hb Hb2
     have HO:Hid (1≤fitOp op∧fitOp op≤6):=by unfold fitOp;split<;>constructor<;>omega
     clear HU a0 a1 a2 a3 a4 a5 a6 f0 f1 f2 f3 f4 f5 f6
     have HU:=Lib.hid hu
     obtain⟨⟨a0,a1,a2,a3,a4,a5,a6⟩,f0,f1,f2,f3,f4,f5,f6⟩:=hu.cells
     clear hu
     have HF:Hid (fitP ⟨kind,who,⟨op,pol,key,n⟩,N⟩=⟨kind%3,who%18446744073709551616%5,⟨fitOp op,fitPol (fitOp op) pol,key.take 2,fitN (fitOp op) n⟩,N%18446744073709551616%40⟩):=rfl
     generalize fitOp op=o at*
     go_upto_region 7 with (fail)
     refine wp_name (FitW w #[.int .u8 ((kind%3:Nat):Int),.int .i64 (who%18446744073709551616%5),.int .u8 (o:Nat),.int .i64 0,.slice ka key.length kc,.int .i64 n,.int .i64 N]) (HU.out.set 3 _) ?_
     intro Y hu
     clear HU a0 a1 a2 a3 a4 a5 a6 f0 f1 f2 f3 f4 f5 f6
     have HU:=Lib.hid hu
     obtain⟨⟨a0,a1,a2,a3,a4,a5,a6⟩,f0,f1,f2,f3,f4,f5,f6⟩:=hu.cells
     clear hu
     go_cut [56] (fun v wx=>v= .bool (decide (o=2∨o=3∨(o=4∧pol.tmod 2≠0)))∧wx=Y)
     case first=>
       have ho:o=2∨o=3∨o=4∨(o≠2∧o≠3∧o≠4):=by omega
       rcases ho with rfl|rfl|rfl|⟨q1,q2,q3⟩
       · go_wp2_with fail
         go_meet
         exact⟨rfl,rfl⟩
       · go_wp2_with fail
         go_meet
         exact⟨rfl,rfl⟩
       · go_wp2_with fail
         go_meet
         exact⟨by simp only[bne];by_cases hod:pol.tmod 2=0<;>simp [hod],rfl⟩
       · have hf:decide (o=2∨o=3∨(o=4∧pol.tmod 2≠0))=false:=decide_eq_false (by omega)
         have g1: ¬(o:Int)=2:=by omega
         have g2: ¬(o:Int)=3:=by omega
         have g3: ¬(o:Int)=4:=by omega
         clear q1 q2 q3
         go_wp2_with fail
         go_meet
         exact⟨by rw[hf];simp [g1,g2],rfl⟩
     case rest=>
       obtain⟨rfl,rfl⟩:=hcut
       have Hb:Hid (decide (o=2∨o=3∨(o=4∧pol.tmod 2≠0))=true→fitPol o pol=1):=fun h=>if_pos (of_decide_eq_true h)
       have Hb2:Hid (decide (o=2∨o=3∨(o=4∧pol.tmod 2≠0))=false→fitPol o pol=0):=fun h=>if_neg (of_decide_eq_false h)
       generalize decide (o=2∨o=3∨(o=4∧pol.tmod 2≠0))=bb at*
       go_upto_if 56 with (fail)
       go_cut [] (fun wx=>FitW w #[.int .u8 ((kind%3:Nat):Int),.int .i64 (who%18446744073709551616%5),.int .u8 (o:Nat),.int .i64 (fitPol o pol),.slice ka key.length kc,.int .i64 n,.int .i64 N] wx)
       case first=>
         cases bb
         · have hf:=Hb2.out rfl
           go_wp2_with fail
           go_meet
           rw[hf]
           exact HU.out
         · have hf:=Hb.out rfl
           go_wp2_with fail
           go_meet
           rw[hf]
           exact HU.out.set 3 _
       case rest=>
         have hu:=hcut
         clear hcut Hb Hb2
         clear HU a0 a1 a2 a3 a4 a5 a6 f0 f1 f2 f3 f4 f5 f6
         have HU:=Lib.hid hu
         obtain⟨⟨a0,a1,a2,a3,a4,a5,a6⟩,f0,f1,f2,f3,f4,f5,f6⟩:=hu.cells
         clear hu
         generalize fitPol o pol=po at*
         go_upto_region 9 with (fail)
         go_cut [] (fun wx=>FitW w #[.int .u8 ((kind%3:Nat):Int),.int .i64 (who%18446744073709551616%5),.int .u8 (o:Nat),.int .i64 po,.slice ka (min key.length 2) kc,.int .i64 n,.int .i64 N] wx)
         case first=>
           have hkc:=HK.out.row
           generalize key.length=ln at*
           by_cases hl:ln≤2
           · have hm:min ln 2=ln:=by omega
             have g1:ln≤kc:=hkc.1
             cases ka with
             |none=>
               obtain rfl:ln=0:=by
                 refine Classical.byContradiction fun h=> ?_
                 obtain⟨b,off,e⟩:=hkc.2.2 (by omega)
                 cases e
               clear hkc hl
               go_wp2_with fail
               go_meet
               exact HU.out.set 4 _
             |some ad=>
               clear hkc
               go_wp2_with fail
               go_meet
               rw[hm,show(min (ln:Int) 2).toNat=ln by omega]
               exact HU.out.set 4 _
           · have hm:min ln 2=2:=by omega
             have g1:ln≤kc:=hkc.1
             obtain⟨b,off,rfl⟩:=hkc.2.2 (by omega)
             have g2:(2:Int)≤kc:=by omega
             clear hkc
             go_wp2_with fail
             go_meet
             rw[hm,show(min (ln:Int) 2).toNat=2 by omega]
             exact HU.out.set 4 _
         case rest=>
           have hu:=hcut
           clear hcut
           clear HU a0 a1 a2 a3 a4 a5 a6 f0 f1 f2 f3 f4 f5 f6
           have HU:=Lib.hid hu
           obtain⟨⟨a0,a1,a2,a3,a4,a5,a6⟩,f0,f1,f2,f3,f4,f5,f6⟩:=hu.cells
           clear hu
           have HKf:Hid (∀W,ByAt W (.slice ka key.length kc) key→ByAt W (.slice ka (min key.length 2) kc) (key.take 2)):=fun W h=>h.take 2
           generalize min key.length 2=ln at*
           have hoo:o=1∨o≠1:=by omega
           have hn:=HP.out.2.2.2.2.2.2.2.1
           have hoo:o=1∨o≠1:=by omega
           have hn:=HP.out.2.2.2.2.2.2.2.1
           rcases hoo with rfl|ho
           · have hf:fitN 1 n=clampI n:=rfl
             go_upto_region 13 with (go_at_call 10;(refine (rclamp_any n wc hn).mono ?_);rintro e w2 ⟨rfl,hb2⟩;have hu:=HU.out.later hb2;clear HU a0 a1 a2 a3 a4 a5 a6 f0 f1 f2 f3 f4 f5 f6;have HU:=Lib.hid hu;obtain⟨⟨a0,a1,a2,a3,a4,a5,a6⟩,f0,f1,f2,f3,f4,f5,f6⟩:=hu.cells;clear hu hb2)
             refine wp_name (FitW w #[.int .u8 ((kind%3:Nat):Int),.int .i64 (who%18446744073709551616%5),.int .u8 (1:Nat),.int .i64 po,.slice ka ln kc,.int .i64 (clampI n),.int .i64 (N%18446744073709551616%40)]) ((HU.out.set 5 _).set 6 _) ?_
             clear HU a0 a1 a2 a3 a4 a5 a6 f0 f1 f2 f3 f4 f5 f6
             intro Z hu
             have HU:=Lib.hid hu
             obtain⟨⟨a0,a1,a2,a3,a4,a5,a6⟩,f0,f1,f2,f3,f4,f5,f6⟩:=hu.cells
             obtain⟨⟨r0,r1,r2,r3,r4,r5,r6⟩,s0,s1,s2,s3,s4,s5,s6⟩:=hu.outs
             clear hu
             go_wp2_with fail
             have hz:=storeP_at (.int .u8 ((kind:Int)%3)) (.int .i64 (who%18446744073709551616%5)) (.int .u8 (1:Nat)) (.int .i64 po) (.slice ka ln kc) (.int .i64 (clampI n)) (.int .i64 (N%18446744073709551616%40)) HU.out
             clear a0 a1 a2 a3 a4 a5 a6 f0 f1 f2 f3 f4 f5 f6 r0 r1 r2 r3 r4 r5 r6 s0 s1 s2 s3 s4 s5 s6
             show bodyPost _ _ _ _ _ (storeP Z (w.heap.size+1) (.int .u8 ((kind:Int)%3)) (.int .i64 (who%18446744073709551616%5)) (.int .u8 (1:Nat)) (.int .i64 po) (.slice ka ln kc) (.int .i64 (clampI n)) (.int .i64 (N%18446744073709551616%40)))
             generalize storeP Z (w.heap.size+1) (.int .u8 ((kind:Int)%3)) (.int .i64 (who%18446744073709551616%5)) (.int .u8 (1:Nat)) (.int .i64 po) (.slice ka ln kc) (.int .i64 (clampI n)) (.int .i64 (N%18446744073709551616%40))=W at*
             obtain⟨hbz,z0,z1,z2,z3,z4,z5,z6⟩:=hz
             exact bodyPost_ret (v:= .agg #[.int .u8 ((kind:Int)%3),.int .i64 (who%18446744073709551616%5),.int .u8 (1:Nat),.int .i64 po,.slice ka ln kc,.int .i64 (clampI n),.int .i64 (N%18446744073709551616%40)]) (by simp [results,Tryz.results7,go_sem,z0,z1,z2,z3,z4,z5,z6]) rfl ⟨.slice ka ln kc,by rw[HF.out,hf];simp [pickA],fun W hb=>(by rw[HF.out];exact HKf.out W hb),hbz⟩
           · have hf:fitN o n=n:=if_neg ho
             have g1: ¬(o:Int)=1:=by omega
             clear ho
             go_upto_region 13 with (fail)
             refine wp_name (FitW w #[.int .u8 ((kind%3:Nat):Int),.int .i64 (who%18446744073709551616%5),.int .u8 (o:Nat),.int .i64 po,.slice ka ln kc,.int .i64 n,.int .i64 (N%18446744073709551616%40)]) (HU.out.set 6 _) ?_
             clear HU a0 a1 a2 a3 a4 a5 a6 f0 f1 f2 f3 f4 f5 f6
             intro Z hu
             have HU:=Lib.hid hu
             obtain⟨⟨a0,a1,a2,a3,a4,a5,a6⟩,f0,f1,f2,f3,f4,f5,f6⟩:=hu.cells
             obtain⟨⟨r0,r1,r2,r3,r4,r5,r6⟩,s0,s1,s2,s3,s4,s5,s6⟩:=hu.outs
             clear hu
             go_wp2_with fail
             have hz:=storeP_at (.int .u8 ((kind:Int)%3)) (.int .i64 (who%18446744073709551616%5)) (.int .u8 (o:Nat)) (.int .i64 po) (.slice ka ln kc) (.int .i64 n) (.int .i64 (N%18446744073709551616%40)) HU.out
             clear a0 a1 a2 a3 a4 a5 a6 f0 f1 f2 f3 f4 f5 f6 r0 r1 r2 r3 r4 r5 r6 s0 s1 s2 s3 s4 s5 s6
             show bodyPost _ _ _ _ _ (storeP Z (w.heap.size+1) (.int .u8 ((kind:Int)%3)) (.int .i64 (who%18446744073709551616%5)) (.int .u8 (o:Nat)) (.int .i64 po) (.slice ka ln kc) (.int .i64 n) (.int .i64 (N%18446744073709551616%40)))
             generalize storeP Z (w.heap.size+1) (.int .u8 ((kind:Int)%3)) (.int .i64 (who%18446744073709551616%5)) (.int .u8 (o:Nat)) (.int .i64 po) (.slice ka ln kc) (.int .i64 n) (.int .i64 (N%18446744073709551616%40))=W at*
             obtain⟨hbz,z0,z1,z2,z3,z4,z5,z6⟩:=hz
             exact bodyPost_ret (v:= .agg #[.int .u8 ((kind:Int)%3),.int .i64 (who%18446744073709551616%5),.int .u8 (o:Nat),.int .i64 po,.slice ka ln kc,.int .i64 n,.int .i64 (N%18446744073709551616%40)]) (by simp [results,Tryz.results7,go_sem,z0,z1,z2,z3,z4,z5,z6]) rfl ⟨.slice ka ln kc,by rw[HF.out,hf];simp [pickA],fun W hb=>(by rw[HF.out];exact HKf.out W hb),hbz⟩
theorem fit_any (p:Pk) (kv:Value) (w:World) (hk:ByAt w kv p.c.key) (hp:PkOk p):
   Calls Tryz.prog 7 #[.agg (pickA p kv)] w fun e w'=> ∃kv',e= .returned (.agg (pickA (fitP p) kv'))∧ByAt w' kv' (fitP p).c.key∧Below w.heap.size w w':=by
 refine(fit_all p kv w hk hp).mono ?_
 rintro e w' ⟨kv',h1,h2,h3⟩
 exact⟨kv',h1,h2 _ (hk.below h3),h3⟩
end
end Go.Proofs.YtemnhpdjoimjbaaGreatDoor
