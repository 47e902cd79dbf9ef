import Derived.Test.YtemnhpdjoimjbaaGreatDoorTw23
import Derived.Test.YtemnhpdjoimjbaaGreatDoorTw27
namespace Go.Proofs.YtemnhpdjoimjbaaGreatDoor
section
open Go.RowKit Top
set_option linter.unusedVariables false
theorem held_drew {w:World} {v:Value} {L:List Int} (h:HeldAt w v L):HeldAt w.drew v L:=h
theorem bel_two {w0 w:World} {B b b':Nat} (h:Below B w0 w) (hb:B≤b) (hb':B≤b') (a0 a1 a2 a3 a4 a5 c0 c1 c2 c3:Value):Below B w0 ((((((((((w.setCell ⟨b,0,none⟩ a0).setCell ⟨b,1,none⟩ a1).setCell ⟨b,2,none⟩ a2).setCell ⟨b,3,none⟩ a3).setCell ⟨b,4,none⟩ a4).setCell ⟨b,5,none⟩ a5).setCell ⟨b',0,none⟩ c0).setCell ⟨b',1,none⟩ c1).setCell ⟨b',2,none⟩ c2).setCell ⟨b',3,none⟩ c3):=
 (((((((((h.setCell (p:=⟨b,0,none⟩) hb a0).setCell (p:=⟨b,1,none⟩) hb a1).setCell (p:=⟨b,2,none⟩) hb a2).setCell (p:=⟨b,3,none⟩) hb a3).setCell (p:=⟨b,4,none⟩) hb a4).setCell (p:=⟨b,5,none⟩) hb a5).setCell (p:=⟨b',0,none⟩) hb' c0).setCell (p:=⟨b',1,none⟩) hb' c1).setCell (p:=⟨b',2,none⟩) hb' c2).setCell (p:=⟨b',3,none⟩) hb' c3
theorem held_two {w:World} {b b':Nat} {v:Value} {L:List Int} (h:HeldAt w v L) {ar ar':Array Value} (hr:Bx w b 35 ar) (hc:Bx w b' 100 ar') (a0 a1 a2 a3 a4 a5 c0 c1 c2 c3:Value):HeldAt ((((((((((w.setCell ⟨b,0,none⟩ a0).setCell ⟨b,1,none⟩ a1).setCell ⟨b,2,none⟩ a2).setCell ⟨b,3,none⟩ a3).setCell ⟨b,4,none⟩ a4).setCell ⟨b,5,none⟩ a5).setCell ⟨b',0,none⟩ c0).setCell ⟨b',1,none⟩ c1).setCell ⟨b',2,none⟩ c2).setCell ⟨b',3,none⟩ c3) v L:=
 Row.same h fun k arr hx=>
   have n1:=hx.ne hr (by decide)
   have n2:=hx.ne hc (by decide)
   (((((((((hx.setCell_ne ⟨b,0,none⟩ a0 n1).setCell_ne ⟨b,1,none⟩ a1 n1).setCell_ne ⟨b,2,none⟩ a2 n1).setCell_ne ⟨b,3,none⟩ a3 n1).setCell_ne ⟨b,4,none⟩ a4 n1).setCell_ne ⟨b,5,none⟩ a5 n1).setCell_ne ⟨b',0,none⟩ c0 n2).setCell_ne ⟨b',1,none⟩ c1 n2).setCell_ne ⟨b',2,none⟩ c2 n2).setCell_ne ⟨b',3,none⟩ c3 n2
set_option maxHeartbeats 2000000 in
set_option maxRecDepth 100000 in
theorem acquire_book (p:Pol) (c:Cell) (kv hv:Value) (n:Int) (w:World) (hk:KeyAt w kv c.key) (hh:HeldAt w hv c.held) (ok:CellOk c) (hp:PolOk p) (hkind:p.kind=2):
   Calls Tryz.prog 138 #[.agg (polA p),.agg (cellA c kv hv),.int .i64 n] w fun e w'=> ∃ha hn hc,e= .returned (.tuple #[.agg (replyA (takeF BlV p c n).1),.agg (cellA (takeF BlV p c n).2 kv (.slice ha hn hc))])∧HeldAt w' (.slice ha hn hc) (takeF BlV p c n).2.held∧CellOk (takeF BlV p c n).2∧Below w.heap.size w w':=by
 obtain⟨ka,kc,rfl⟩: ∃a c',kv= .slice a c.key.length c':=by obtain⟨_,_,a,c',e,_⟩:=hk;exact⟨a,c',e⟩
 obtain⟨ha,hc,rfl⟩: ∃a c',hv= .slice a c.held.length c':=by obtain⟨_,a,c',e,_⟩:=hh;exact⟨a,c',e⟩
 have hpm:1≤p.permits∧p.permits≤64:=by rcases hp with h|h;omega;exact⟨h.2.1,h.2.2⟩
 have hok2:CellOk (takeF BlV p c n).2:=by exact(takeF_ok n hpm.2 ok).1
 have Hok2:=Lib.hid hok2;have Hh:=Lib.hid hh
 have Kt:Hid (∀W:World,Below w.heap.size w W→Calls Tryz.prog 159 #[.agg #[.int .i64 p.permits,.slice ha c.held.length hc],.int .i64 n] W (SemaRes W (takeB p.permits c.held n).1 p.permits (takeB p.permits c.held n).2)):=fun W hb=>take_any p.permits _ c.held n W (hh.keep (fr0 hb)) ok.rises ok.held0 hpm.1 hpm.2 ok.few
 clear hk hh ok hp hkind hok2
 by_cases hz:(takeB p.permits c.held n).1=0
 · have hG:=takeF_yes hz
   rw[hG]at Hok2 ⊢
   have hL64:(takeB p.permits c.held n).2.length≤64:=Hok2.out.few
   rw[hz]at Kt
   clear hz hG
   generalize hL:(takeB p.permits c.held n).2=L at*
   clear hL
   have hw64:IntKind.i64.wrap (p.permits-(L.length:Int))=p.permits-(L.length:Int):=by rw[IntKind.wrap_i64];omega
   go_enter Tryz.func138,Tryz.ntmps138
   go_wp2_with fail
   refine calls_name (fun u=>Below w.heap.size w u∧Bx u w.heap.size 60 #[.int .u8 (p.kind:Nat),.int .i64 p.T,.int .i64 p.tau,.int .i64 p.permits]∧Bx u (w.heap.size+1) 100 #[.int .i64 c.pol,.slice ka c.key.length kc,.int .i64 c.tat,.slice ha c.held.length hc]∧Bx u (w.heap.size+1+1) 35 #[.int .i64 0,.bool false,.int .i64 0,.int .i64 0,.int .i64 0,.int .i64 0]∧Bx u (w.heap.size+1+1+1) 100 #[.int .i64 0,.slice none 0 0,.int .i64 0,.slice none 0 0]) ⟨below_allocs [_,_,_,_] w,bx_allocs w [_,_,_,_] 0 rfl,bx_allocs w [_,_,_,_] 1 rfl,bx_allocs w [_,_,_,_] 2 rfl,bx_allocs w [_,_,_,_] 3 rfl⟩ ?_
   rintro W0 ⟨hb0,hp0,hc0,hr0,hd0⟩
   (with_reducible refine(Kt.out W0 hb0).mono ?_)
   rintro e w1 ⟨la,ln,lc,rfl,hL,hb1⟩
   obtain⟨la',lc',e1⟩: ∃a c',Value.slice la ln lc= .slice a L.length c':=by obtain⟨_,a,c',e,_⟩:=hL;exact⟨a,c',e⟩
   injection e1 with e2 e3 e4
   subst e2 e3 e4
   have hp1:=hp0.below hb1 hp0.lt;have hc1:=hc0.below hb1 hc0.lt;have hr1:=hr0.below hb1 hr0.lt;have hd1:=hd0.below hb1 hd0.lt
   have hbw:=hb0.trans (hb1.mono hb0.size)
   have hs1:w.heap.size≤w1.heap.size:=hbw.size
   have c0:=hc1.cell 0;have c1:=hc1.cell 1;have c2:=hc1.cell 2;have c3:=hc1.cell 3;have cf0:=hc1.free 0;have cf1:=hc1.free 1;have cf2:=hc1.free 2;have cf3:=hc1.free 3
   have hlt1:w.heap.size+1<w1.heap.size:=hc1.lt
   go_wp2_with fail
   refine wp_name (fun u=>Below w.heap.size w u∧Bx u w.heap.size 60 #[.int .u8 (p.kind:Nat),.int .i64 p.T,.int .i64 p.tau,.int .i64 p.permits]∧Bx u (w.heap.size+1) 100 #[.int .i64 c.pol,.slice ka c.key.length kc,.int .i64 c.tat,.slice la L.length lc]∧Bx u (w.heap.size+1+1) 35 #[.int .i64 0,.bool false,.int .i64 0,.int .i64 0,.int .i64 0,.int .i64 0]∧Bx u (w.heap.size+1+1+1) 100 #[.int .i64 0,.slice none 0 0,.int .i64 0,.slice none 0 0]∧HeldAt u (.slice la L.length lc) L) ⟨(hbw.setCell (p:=⟨w.heap.size+1,3,none⟩) (Nat.le_succ _) _).alloc (by simpa [World.setCell]using hs1) _,(hp1.setCell_ne ⟨w.heap.size+1,3,none⟩ _ (by show _≠w.heap.size+1;omega)).alloc _,(hc1.setCell 3 _).alloc _,(hr1.setCell_ne ⟨w.heap.size+1,3,none⟩ _ (by show _≠w.heap.size+1;omega)).alloc _,(hd1.setCell_ne ⟨w.heap.size+1,3,none⟩ _ (by show _≠w.heap.size+1;omega)).alloc _,Row.same hL fun b arr hx=>(hx.setCell_ne ⟨w.heap.size+1,3,none⟩ _ (hx.ne hc1 (by decide))).alloc _⟩ ?_
   clear c0 c1 c2 c3 cf0 cf1 cf2 cf3 hL hlt1
   rintro y ⟨hby,hpy,hcy,hry,hdy,hhy⟩
   have p0:=hpy.cell 0;have p1:=hpy.cell 1;have p2:=hpy.cell 2;have p3:=hpy.cell 3;have c0:=hcy.cell 0;have c1:=hcy.cell 1;have c2:=hcy.cell 2;have c3:=hcy.cell 3;have r0:=hry.cell 0;have r1:=hry.cell 1;have r2:=hry.cell 2;have r3:=hry.cell 3;have r4:=hry.cell 4;have r5:=hry.cell 5;have rf0:=hry.free 0;have rf1:=hry.free 1;have rf2:=hry.free 2;have rf3:=hry.free 3;have rf4:=hry.free 4;have rf5:=hry.free 5;have d0:=hdy.cell 0;have d1:=hdy.cell 1;have d2:=hdy.cell 2;have d3:=hdy.cell 3;have df0:=hdy.free 0;have df1:=hdy.free 1;have df2:=hdy.free 2;have df3:=hdy.free 3
   have Hby:=Lib.hid hby;have Hry:=Lib.hid hry;have Hdy:=Lib.hid hdy;have Hhy:=Lib.hid hhy
   clear hby hpy hcy hry hdy hhy hb0 hp0 hc0 hr0 hd0 hb1 hp1 hc1 hr1 hd1 hbw hs1
   go_region
   all_goals
     go_wp2_with fail
     refine bodyPost_ret (v:= .tuple #[.agg (replyA ⟨0,true,p.permits-L.length,0,n,0⟩),.agg (cellA {c with held:=L } (.slice ka c.key.length kc) (.slice la L.length lc))]) (by simp [results,Tryz.results138,go_sem,r0,r1,r2,r3,r4,r5,d0,d1,d2,d3]) rfl ⟨la,L.length,lc,rfl,?_,Hok2.out,?_⟩
     · with_reducible exact held_drew (held_two Hhy.out Hry.out Hdy.out _ _ _ _ _ _ _ _ _ _)
     · with_reducible exact(bel_two Hby.out (Nat.le_trans (Nat.le_succ _) (Nat.le_succ _)) (Nat.le_trans (Nat.le_succ _) (Nat.le_trans (Nat.le_succ _) (Nat.le_succ _))) _ _ _ _ _ _ _ _ _ _).drew
 · have hG:=takeF_no hz
   rw[hG]at Hok2 ⊢
   have hz': ¬(takeB p.permits c.held n).1=0:=hz
   clear hG hz
   generalize (takeB p.permits c.held n).1=code at*
   generalize (takeB p.permits c.held n).2=L at*
   go_enter Tryz.func138,Tryz.ntmps138
   go_wp2_with fail
   refine calls_name (fun u=>Below w.heap.size w u∧Bx u w.heap.size 60 #[.int .u8 (p.kind:Nat),.int .i64 p.T,.int .i64 p.tau,.int .i64 p.permits]∧Bx u (w.heap.size+1) 100 #[.int .i64 c.pol,.slice ka c.key.length kc,.int .i64 c.tat,.slice ha c.held.length hc]∧Bx u (w.heap.size+1+1) 35 #[.int .i64 0,.bool false,.int .i64 0,.int .i64 0,.int .i64 0,.int .i64 0]∧Bx u (w.heap.size+1+1+1) 100 #[.int .i64 0,.slice none 0 0,.int .i64 0,.slice none 0 0]) ⟨below_allocs [_,_,_,_] w,bx_allocs w [_,_,_,_] 0 rfl,bx_allocs w [_,_,_,_] 1 rfl,bx_allocs w [_,_,_,_] 2 rfl,bx_allocs w [_,_,_,_] 3 rfl⟩ ?_
   rintro W0 ⟨hb0,hp0,hc0,hr0,hd0⟩
   (with_reducible refine(Kt.out W0 hb0).mono ?_)
   rintro e w1 ⟨la,ln,lc,rfl,hL,hb1⟩
   clear hL
   rw[if_neg hz']
   have hp1:=hp0.below hb1 hp0.lt;have hc1:=hc0.below hb1 hc0.lt;have hr1:=hr0.below hb1 hr0.lt;have hd1:=hd0.below hb1 hd0.lt
   have hbw:=hb0.trans (hb1.mono hb0.size)
   have hs1:w.heap.size≤w1.heap.size:=hbw.size
   go_wp2_with fail
   refine wp_name (fun u=>Below w.heap.size w u∧Bx u w.heap.size 60 #[.int .u8 (p.kind:Nat),.int .i64 p.T,.int .i64 p.tau,.int .i64 p.permits]∧Bx u (w.heap.size+1) 100 #[.int .i64 c.pol,.slice ka c.key.length kc,.int .i64 c.tat,.slice ha c.held.length hc]∧Bx u (w.heap.size+1+1) 35 #[.int .i64 0,.bool false,.int .i64 0,.int .i64 0,.int .i64 0,.int .i64 0]∧Bx u (w.heap.size+1+1+1) 100 #[.int .i64 0,.slice none 0 0,.int .i64 0,.slice none 0 0]∧HeldAt u (.slice ha c.held.length hc) c.held) ⟨hbw.alloc hs1 _,hp1.alloc _,hc1.alloc _,hr1.alloc _,hd1.alloc _,Hh.out.keep (fr0 (hbw.alloc hs1 _))⟩ ?_
   rintro y ⟨hby,hpy,hcy,hry,hdy,hhy⟩
   have p0:=hpy.cell 0;have p1:=hpy.cell 1;have p2:=hpy.cell 2;have p3:=hpy.cell 3;have c0:=hcy.cell 0;have c1:=hcy.cell 1;have c2:=hcy.cell 2;have c3:=hcy.cell 3;have r0:=hry.cell 0;have r1:=hry.cell 1;have r2:=hry.cell 2;have r3:=hry.cell 3;have r4:=hry.cell 4;have r5:=hry.cell 5;have rf0:=hry.free 0;have rf1:=hry.free 1;have rf2:=hry.free 2;have rf3:=hry.free 3;have rf4:=hry.free 4;have rf5:=hry.free 5;have d0:=hdy.cell 0;have d1:=hdy.cell 1;have d2:=hdy.cell 2;have d3:=hdy.cell 3;have df0:=hdy.free 0;have df1:=hdy.free 1;have df2:=hdy.free 2;have df3:=hdy.free 3
   have Hby:=Lib.hid hby;have Hry:=Lib.hid hry;have Hdy:=Lib.hid hdy;have Hhy:=Lib.hid hhy
   clear hby hpy hcy hry hdy hhy hb0 hp0 hc0 hr0 hd0 hb1 hp1 hc1 hr1 hd1 hbw hs1
   go_region
   all_goals
     go_wp2_with fail
     refine bodyPost_ret (v:= .tuple #[.agg (replyA (err code)),.agg (cellA c (.slice ka c.key.length kc) (.slice ha c.held.length hc))]) (by simp [results,Tryz.results138,go_sem,r0,r1,r2,r3,r4,r5,d0,d1,d2,d3];exact⟨rfl,rfl,rfl,rfl,rfl,rfl⟩) rfl ⟨ha,c.held.length,hc,rfl,?_,Hok2.out,?_⟩
     · with_reducible exact held_drew (held_two Hhy.out Hry.out Hdy.out _ _ _ _ _ _ _ _ _ _)
     · with_reducible exact(bel_two Hby.out (Nat.le_trans (Nat.le_succ _) (Nat.le_succ _)) (Nat.le_trans (Nat.le_succ _) (Nat.le_trans (Nat.le_succ _) (Nat.le_succ _))) _ _ _ _ _ _ _ _ _ _).drew
set_option maxHeartbeats 2000000 in
set_option maxRecDepth 100000 in
theorem release_book (p:Pol) (c:Cell) (kv hv:Value) (n:Int) (w:World) (hk:KeyAt w kv c.key) (hh:HeldAt w hv c.held) (ok:CellOk c) (hp:PolOk p) (hkind:p.kind=2):
   Calls Tryz.prog 103 #[.agg (polA p),.agg (cellA c kv hv),.int .i64 n] w fun e w'=> ∃ha hn hc,e= .returned (.tuple #[.agg (replyA (giveF BlV p c n).1),.agg (cellA (giveF BlV p c n).2 kv (.slice ha hn hc))])∧HeldAt w' (.slice ha hn hc) (giveF BlV p c n).2.held∧CellOk (giveF BlV p c n).2∧Below w.heap.size w w':=by
 obtain⟨ka,kc,rfl⟩: ∃a c',kv= .slice a c.key.length c':=by obtain⟨_,_,a,c',e,_⟩:=hk;exact⟨a,c',e⟩
 obtain⟨ha,hc,rfl⟩: ∃a c',hv= .slice a c.held.length c':=by obtain⟨_,a,c',e,_⟩:=hh;exact⟨a,c',e⟩
 have hpm:1≤p.permits∧p.permits≤64:=by rcases hp with h|h;omega;exact⟨h.2.1,h.2.2⟩
 have hok2:CellOk (giveF BlV p c n).2:=by exact(giveF_ok n ok).1
 have Hok2:=Lib.hid hok2;have Hh:=Lib.hid hh
 have Kt:Hid (∀W:World,Below w.heap.size w W→Calls Tryz.prog 141 #[.agg #[.int .i64 p.permits,.slice ha c.held.length hc],.int .i64 n] W (SemaRes W (giveB p.permits c.held n).1 p.permits (giveB p.permits c.held n).2)):=fun W hb=>give_any p.permits _ c.held n W (hh.keep (fr0 hb)) ok.rises ok.held0 hpm.1 hpm.2 ok.few
 clear hk hh ok hp hkind hok2
 by_cases hz:(giveB p.permits c.held n).1=0
 · have hG:=giveF_yes hz
   rw[hG]at Hok2 ⊢
   have hL64:(giveB p.permits c.held n).2.length≤64:=Hok2.out.few
   rw[hz]at Kt
   clear hz hG
   generalize hL:(giveB p.permits c.held n).2=L at*
   clear hL
   have hw64:IntKind.i64.wrap (p.permits-(L.length:Int))=p.permits-(L.length:Int):=by rw[IntKind.wrap_i64];omega
   go_enter Tryz.func103,Tryz.ntmps103
   go_wp2_with fail
   refine calls_name (fun u=>Below w.heap.size w u∧Bx u w.heap.size 60 #[.int .u8 (p.kind:Nat),.int .i64 p.T,.int .i64 p.tau,.int .i64 p.permits]∧Bx u (w.heap.size+1) 100 #[.int .i64 c.pol,.slice ka c.key.length kc,.int .i64 c.tat,.slice ha c.held.length hc]∧Bx u (w.heap.size+1+1) 35 #[.int .i64 0,.bool false,.int .i64 0,.int .i64 0,.int .i64 0,.int .i64 0]∧Bx u (w.heap.size+1+1+1) 100 #[.int .i64 0,.slice none 0 0,.int .i64 0,.slice none 0 0]) ⟨below_allocs [_,_,_,_] w,bx_allocs w [_,_,_,_] 0 rfl,bx_allocs w [_,_,_,_] 1 rfl,bx_allocs w [_,_,_,_] 2 rfl,bx_allocs w [_,_,_,_] 3 rfl⟩ ?_
   rintro W0 ⟨hb0,hp0,hc0,hr0,hd0⟩
   (with_reducible refine(Kt.out W0 hb0).mono ?_)
   rintro e w1 ⟨la,ln,lc,rfl,hL,hb1⟩
   obtain⟨la',lc',e1⟩: ∃a c',Value.slice la ln lc= .slice a L.length c':=by obtain⟨_,a,c',e,_⟩:=hL;exact⟨a,c',e⟩
   injection e1 with e2 e3 e4
   subst e2 e3 e4
   have hp1:=hp0.below hb1 hp0.lt;have hc1:=hc0.below hb1 hc0.lt;have hr1:=hr0.below hb1 hr0.lt;have hd1:=hd0.below hb1 hd0.lt
   have hbw:=hb0.trans (hb1.mono hb0.size)
   have hs1:w.heap.size≤w1.heap.size:=hbw.size
   have c0:=hc1.cell 0;have c1:=hc1.cell 1;have c2:=hc1.cell 2;have c3:=hc1.cell 3;have cf0:=hc1.free 0;have cf1:=hc1.free 1;have cf2:=hc1.free 2;have cf3:=hc1.free 3
   have hlt1:w.heap.size+1<w1.heap.size:=hc1.lt
   go_wp2_with fail
   refine wp_name (fun u=>Below w.heap.size w u∧Bx u w.heap.size 60 #[.int .u8 (p.kind:Nat),.int .i64 p.T,.int .i64 p.tau,.int .i64 p.permits]∧Bx u (w.heap.size+1) 100 #[.int .i64 c.pol,.slice ka c.key.length kc,.int .i64 c.tat,.slice la L.length lc]∧Bx u (w.heap.size+1+1) 35 #[.int .i64 0,.bool false,.int .i64 0,.int .i64 0,.int .i64 0,.int .i64 0]∧Bx u (w.heap.size+1+1+1) 100 #[.int .i64 0,.slice none 0 0,.int .i64 0,.slice none 0 0]∧HeldAt u (.slice la L.length lc) L) ⟨(hbw.setCell (p:=⟨w.heap.size+1,3,none⟩) (Nat.le_succ _) _).alloc (by simpa [World.setCell]using hs1) _,(hp1.setCell_ne ⟨w.heap.size+1,3,none⟩ _ (by show _≠w.heap.size+1;omega)).alloc _,(hc1.setCell 3 _).alloc _,(hr1.setCell_ne ⟨w.heap.size+1,3,none⟩ _ (by show _≠w.heap.size+1;omega)).alloc _,(hd1.setCell_ne ⟨w.heap.size+1,3,none⟩ _ (by show _≠w.heap.size+1;omega)).alloc _,Row.same hL fun b arr hx=>(hx.setCell_ne ⟨w.heap.size+1,3,none⟩ _ (hx.ne hc1 (by decide))).alloc _⟩ ?_
   clear c0 c1 c2 c3 cf0 cf1 cf2 cf3 hL hlt1
   rintro y ⟨hby,hpy,hcy,hry,hdy,hhy⟩
   have p0:=hpy.cell 0;have p1:=hpy.cell 1;have p2:=hpy.cell 2;have p3:=hpy.cell 3;have c0:=hcy.cell 0;have c1:=hcy.cell 1;have c2:=hcy.cell 2;have c3:=hcy.cell 3;have r0:=hry.cell 0;have r1:=hry.cell 1;have r2:=hry.cell 2;have r3:=hry.cell 3;have r4:=hry.cell 4;have r5:=hry.cell 5;have rf0:=hry.free 0;have rf1:=hry.free 1;have rf2:=hry.free 2;have rf3:=hry.free 3;have rf4:=hry.free 4;have rf5:=hry.free 5;have d0:=hdy.cell 0;have d1:=hdy.cell 1;have d2:=hdy.cell 2;have d3:=hdy.cell 3;have df0:=hdy.free 0;have df1:=hdy.free 1;have df2:=hdy.free 2;have df3:=hdy.free 3
   have Hby:=Lib.hid hby;have Hry:=Lib.hid hry;have Hdy:=Lib.hid hdy;have Hhy:=Lib.hid hhy
   clear hby hpy hcy hry hdy hhy hb0 hp0 hc0 hr0 hd0 hb1 hp1 hc1 hr1 hd1 hbw hs1
   go_region
   all_goals
     go_wp2_with fail
     refine bodyPost_ret (v:= .tuple #[.agg (replyA ⟨0,true,p.permits-L.length,0,0,0⟩),.agg (cellA {c with held:=L } (.slice ka c.key.length kc) (.slice la L.length lc))]) (by simp [results,Tryz.results103,go_sem,r0,r1,r2,r3,r4,r5,d0,d1,d2,d3]) rfl ⟨la,L.length,lc,rfl,?_,Hok2.out,?_⟩
     · with_reducible exact held_drew (held_two Hhy.out Hry.out Hdy.out _ _ _ _ _ _ _ _ _ _)
     · with_reducible exact(bel_two Hby.out (Nat.le_trans (Nat.le_succ _) (Nat.le_succ _)) (Nat.le_trans (Nat.le_succ _) (Nat.le_trans (Nat.le_succ _) (Nat.le_succ _))) _ _ _ _ _ _ _ _ _ _).drew
 · have hG:=giveF_no hz
   rw[hG]at Hok2 ⊢
   have hz': ¬(giveB p.permits c.held n).1=0:=hz
   clear hG hz
   generalize (giveB p.permits c.held n).1=code at*
   generalize (giveB p.permits c.held n).2=L at*
   go_enter Tryz.func103,Tryz.ntmps103
   go_wp2_with fail
   refine calls_name (fun u=>Below w.heap.size w u∧Bx u w.heap.size 60 #[.int .u8 (p.kind:Nat),.int .i64 p.T,.int .i64 p.tau,.int .i64 p.permits]∧Bx u (w.heap.size+1) 100 #[.int .i64 c.pol,.slice ka c.key.length kc,.int .i64 c.tat,.slice ha c.held.length hc]∧Bx u (w.heap.size+1+1) 35 #[.int .i64 0,.bool false,.int .i64 0,.int .i64 0,.int .i64 0,.int .i64 0]∧Bx u (w.heap.size+1+1+1) 100 #[.int .i64 0,.slice none 0 0,.int .i64 0,.slice none 0 0]) ⟨below_allocs [_,_,_,_] w,bx_allocs w [_,_,_,_] 0 rfl,bx_allocs w [_,_,_,_] 1 rfl,bx_allocs w [_,_,_,_] 2 rfl,bx_allocs w [_,_,_,_] 3 rfl⟩ ?_
   rintro W0 ⟨hb0,hp0,hc0,hr0,hd0⟩
   (with_reducible refine(Kt.out W0 hb0).mono ?_)
   rintro e w1 ⟨la,ln,lc,rfl,hL,hb1⟩
   clear hL
   rw[if_neg hz']
   have hp1:=hp0.below hb1 hp0.lt;have hc1:=hc0.below hb1 hc0.lt;have hr1:=hr0.below hb1 hr0.lt;have hd1:=hd0.below hb1 hd0.lt
   have hbw:=hb0.trans (hb1.mono hb0.size)
   have hs1:w.heap.size≤w1.heap.size:=hbw.size
   go_wp2_with fail
   refine wp_name (fun u=>Below w.heap.size w u∧Bx u w.heap.size 60 #[.int .u8 (p.kind:Nat),.int .i64 p.T,.int .i64 p.tau,.int .i64 p.permits]∧Bx u (w.heap.size+1) 100 #[.int .i64 c.pol,.slice ka c.key.length kc,.int .i64 c.tat,.slice ha c.held.length hc]∧Bx u (w.heap.size+1+1) 35 #[.int .i64 0,.bool false,.int .i64 0,.int .i64 0,.int .i64 0,.int .i64 0]∧Bx u (w.heap.size+1+1+1) 100 #[.int .i64 0,.slice none 0 0,.int .i64 0,.slice none 0 0]∧HeldAt u (.slice ha c.held.length hc) c.held) ⟨hbw.alloc hs1 _,hp1.alloc _,hc1.alloc _,hr1.alloc _,hd1.alloc _,Hh.out.keep (fr0 (hbw.alloc hs1 _))⟩ ?_
   rintro y ⟨hby,hpy,hcy,hry,hdy,hhy⟩
   have p0:=hpy.cell 0;have p1:=hpy.cell 1;have p2:=hpy.cell 2;have p3:=hpy.cell 3;have c0:=hcy.cell 0;have c1:=hcy.cell 1;have c2:=hcy.cell 2;have c3:=hcy.cell 3;have r0:=hry.cell 0;have r1:=hry.cell 1;have r2:=hry.cell 2;have r3:=hry.cell 3;have r4:=hry.cell 4;have r5:=hry.cell 5;have rf0:=hry.free 0;have rf1:=hry.free 1;have rf2:=hry.free 2;have rf3:=hry.free 3;have rf4:=hry.free 4;have rf5:=hry.free 5;have d0:=hdy.cell 0;have d1:=hdy.cell 1;have d2:=hdy.cell 2;have d3:=hdy.cell 3;have df0:=hdy.free 0;have df1:=hdy.free 1;have df2:=hdy.free 2;have df3:=hdy.free 3
   have Hby:=Lib.hid hby;have Hry:=Lib.hid hry;have Hdy:=Lib.hid hdy;have Hhy:=Lib.hid hhy
   clear hby hpy hcy hry hdy hhy hb0 hp0 hc0 hr0 hd0 hb1 hp1 hc1 hr1 hd1 hbw hs1
   go_region
   all_goals
     go_wp2_with fail
     refine bodyPost_ret (v:= .tuple #[.agg (replyA (err code)),.agg (cellA c (.slice ka c.key.length kc) (.slice ha c.held.length hc))]) (by simp [results,Tryz.results103,go_sem,r0,r1,r2,r3,r4,r5,d0,d1,d2,d3];exact⟨rfl,rfl,rfl,rfl,rfl,rfl⟩) rfl ⟨ha,c.held.length,hc,rfl,?_,Hok2.out,?_⟩
     · with_reducible exact held_drew (held_two Hhy.out Hry.out Hdy.out _ _ _ _ _ _ _ _ _ _)
     · with_reducible exact(bel_two Hby.out (Nat.le_trans (Nat.le_succ _) (Nat.le_succ _)) (Nat.le_trans (Nat.le_succ _) (Nat.le_trans (Nat.le_succ _) (Nat.le_succ _))) _ _ _ _ _ _ _ _ _ _).drew
end
section
open Go.RowKit Top
set_option linter.unusedVariables false
set_option maxHeartbeats 2000000 in
set_option maxRecDepth 100000 in
theorem allow_book (p:Pol) (c:Cell) (kv hv:Value) (now n:Int) (w:World) (hk:KeyAt w kv c.key) (hh:HeldAt w hv c.held) (ok:CellOk c) (hp:PolOk p) (hkind:p.kind=1) (n0:0≤now) (n1:now≤4611686018427387903) (k0:0≤n) (k1:n≤4611686018427387903):
   Calls Tryz.prog 135 #[.agg (polA p),.agg (cellA c kv hv),.int .i64 now,.int .i64 n] w fun e w'=>e= .returned (.tuple #[.agg (replyA ⟨0,decG p.T p.tau c.tat now n,decLeft p.T p.tau c.tat now n,decWait p.T p.tau c.tat now n,0,now⟩),.agg (cellA {c with tat:=decTat p.T p.tau c.tat now n } kv hv)])∧Below w.heap.size w w':=by
 obtain⟨ka,kc,rfl⟩: ∃a c',kv= .slice a c.key.length c':=by obtain⟨_,_,a,c',e,_⟩:=hk;exact⟨a,c',e⟩
 obtain⟨ha,hc,rfl⟩: ∃a c',hv= .slice a c.held.length c':=by obtain⟨_,a,c',e,_⟩:=hh;exact⟨a,c',e⟩
 have Kd:Hid (∀W:World,Calls Tryz.prog 157 #[.agg #[.int .i64 p.T,.int .i64 p.tau],.int .i64 c.tat,.int .i64 now,.int .i64 n] W fun e w'=>e= .returned (.tuple #[.agg #[.bool (decG p.T p.tau c.tat now n),.int .i64 (decTat p.T p.tau c.tat now n),.int .i64 (decWait p.T p.tau c.tat now n),.int .i64 (decLeft p.T p.tau c.tat now n)],.int .i64 0])∧Below W.heap.size W w'):=fun W=>gDecide_yes p.T p.tau c.tat now n W (pol_limB hp hkind) (tickB_mk ok.tat0 ok.tat1) (tickB_mk n0 n1) (tickB_mk k0 k1)
 clear hk hh ok hp hkind n0 n1 k0 k1
 generalize decG p.T p.tau c.tat now n=dg at*
 generalize decTat p.T p.tau c.tat now n=dt at*
 generalize decWait p.T p.tau c.tat now n=dw at*
 generalize decLeft p.T p.tau c.tat now n=dl at*
 go_enter Tryz.func135,Tryz.ntmps135
 go_wp2_with fail
 refine calls_name (fun u=>Below w.heap.size w u∧Bx u w.heap.size 60 #[.int .u8 (p.kind:Nat),.int .i64 p.T,.int .i64 p.tau,.int .i64 p.permits]∧Bx u (w.heap.size+1) 100 #[.int .i64 c.pol,.slice ka c.key.length kc,.int .i64 c.tat,.slice ha c.held.length hc]∧Bx u (w.heap.size+1+1) 35 #[.int .i64 0,.bool false,.int .i64 0,.int .i64 0,.int .i64 0,.int .i64 0]∧Bx u (w.heap.size+1+1+1) 100 #[.int .i64 0,.slice none 0 0,.int .i64 0,.slice none 0 0]) ⟨below_allocs [_,_,_,_] w,bx_allocs w [_,_,_,_] 0 rfl,bx_allocs w [_,_,_,_] 1 rfl,bx_allocs w [_,_,_,_] 2 rfl,bx_allocs w [_,_,_,_] 3 rfl⟩ ?_
 rintro W0 ⟨hb0,hp0,hc0,hr0,hd0⟩
 (with_reducible refine(Kd.out W0).mono ?_)
 rintro e w1 ⟨rfl,hb1⟩
 have hp1:=hp0.below hb1 hp0.lt;have hc1:=hc0.below hb1 hc0.lt;have hr1:=hr0.below hb1 hr0.lt;have hd1:=hd0.below hb1 hd0.lt
 have hbw:=hb0.trans (hb1.mono hb0.size)
 have hs1:w.heap.size≤w1.heap.size:=hbw.size
 have c0:=hc1.cell 0;have c1:=hc1.cell 1;have c2:=hc1.cell 2;have c3:=hc1.cell 3;have cf0:=hc1.free 0;have cf1:=hc1.free 1;have cf2:=hc1.free 2;have cf3:=hc1.free 3
 have hlt1:w.heap.size+1<w1.heap.size:=hc1.lt
 go_wp2_with fail
 refine wp_name (fun u=>Below w.heap.size w u∧Bx u w.heap.size 60 #[.int .u8 (p.kind:Nat),.int .i64 p.T,.int .i64 p.tau,.int .i64 p.permits]∧Bx u (w.heap.size+1) 100 #[.int .i64 c.pol,.slice ka c.key.length kc,.int .i64 dt,.slice ha c.held.length hc]∧Bx u (w.heap.size+1+1) 35 #[.int .i64 0,.bool false,.int .i64 0,.int .i64 0,.int .i64 0,.int .i64 0]∧Bx u (w.heap.size+1+1+1) 100 #[.int .i64 0,.slice none 0 0,.int .i64 0,.slice none 0 0]∧Bx u w1.heap.size 213 #[.bool dg,.int .i64 dt,.int .i64 dw,.int .i64 dl]) ⟨(hbw.setCell (p:=⟨w.heap.size+1,2,none⟩) (Nat.le_succ _) _).alloc (by simpa [World.setCell]using hs1) _,(hp1.setCell_ne ⟨w.heap.size+1,2,none⟩ _ (by show _≠w.heap.size+1;omega)).alloc _,(hc1.setCell 2 _).alloc _,(hr1.setCell_ne ⟨w.heap.size+1,2,none⟩ _ (by show _≠w.heap.size+1;omega)).alloc _,(hd1.setCell_ne ⟨w.heap.size+1,2,none⟩ _ (by show _≠w.heap.size+1;omega)).alloc _,Bx.newq _ _ (by simp [World.setCell])⟩ ?_
 clear c0 c1 c2 c3 cf0 cf1 cf2 cf3 hlt1
 rintro y ⟨hby,hpy,hcy,hry,hdy,hay⟩
 have p0:=hpy.cell 0;have p1:=hpy.cell 1;have p2:=hpy.cell 2;have p3:=hpy.cell 3;have c0:=hcy.cell 0;have c1:=hcy.cell 1;have c2:=hcy.cell 2;have c3:=hcy.cell 3;have r0:=hry.cell 0;have r1:=hry.cell 1;have r2:=hry.cell 2;have r3:=hry.cell 3;have r4:=hry.cell 4;have r5:=hry.cell 5;have rf0:=hry.free 0;have rf1:=hry.free 1;have rf2:=hry.free 2;have rf3:=hry.free 3;have rf4:=hry.free 4;have rf5:=hry.free 5;have d0:=hdy.cell 0;have d1:=hdy.cell 1;have d2:=hdy.cell 2;have d3:=hdy.cell 3;have df0:=hdy.free 0;have df1:=hdy.free 1;have df2:=hdy.free 2;have df3:=hdy.free 3;have a0:=hay.cell 0;have a1:=hay.cell 1;have a2:=hay.cell 2;have a3:=hay.cell 3
 have Hby:=Lib.hid hby
 clear hby hpy hcy hry hdy hay hb0 hp0 hc0 hr0 hd0 hb1 hp1 hc1 hr1 hd1 hbw hs1
 go_region
 all_goals
   go_wp2_with fail
   refine bodyPost_ret (v:= .tuple #[.agg (replyA ⟨0,dg,dl,dw,0,now⟩),.agg (cellA {c with tat:=dt } (.slice ka c.key.length kc) (.slice ha c.held.length hc))]) (by simp [results,Tryz.results135,go_sem,r0,r1,r2,r3,r4,r5,d0,d1,d2,d3]) rfl ⟨rfl,?_⟩
   with_reducible exact(bel_two Hby.out (Nat.le_trans (Nat.le_succ _) (Nat.le_succ _)) (Nat.le_trans (Nat.le_succ _) (Nat.le_trans (Nat.le_succ _) (Nat.le_succ _))) _ _ _ _ _ _ _ _ _ _).drew
theorem bel_six {w0 w:World} {B b:Nat} (h:Below B w0 w) (hb:B≤b) (a0 a1 a2 a3 a4 a5:Value):Below B w0 ((((((w.setCell ⟨b,0,none⟩ a0).setCell ⟨b,1,none⟩ a1).setCell ⟨b,2,none⟩ a2).setCell ⟨b,3,none⟩ a3).setCell ⟨b,4,none⟩ a4).setCell ⟨b,5,none⟩ a5):=
 (((((h.setCell (p:=⟨b,0,none⟩) hb a0).setCell (p:=⟨b,1,none⟩) hb a1).setCell (p:=⟨b,2,none⟩) hb a2).setCell (p:=⟨b,3,none⟩) hb a3).setCell (p:=⟨b,4,none⟩) hb a4).setCell (p:=⟨b,5,none⟩) hb a5
set_option maxHeartbeats 2000000 in
set_option maxRecDepth 100000 in
theorem peek_book (p:Pol) (c:Cell) (kv hv:Value) (now:Int) (w:World) (hk:KeyAt w kv c.key) (hh:HeldAt w hv c.held) (ok:CellOk c) (hp:PolOk p) (n0:0≤now) (n1:now≤4611686018427387903):
   Calls Tryz.prog 105 #[.agg (polA p),.agg (cellA c kv hv),.int .i64 now] w fun e w'=>e= .returned (.agg (replyA (peekF BlV p c now)))∧Below w.heap.size w w':=by
 obtain⟨ka,kc,rfl⟩: ∃a c',kv= .slice a c.key.length c':=by obtain⟨_,_,a,c',e,_⟩:=hk;exact⟨a,c',e⟩
 obtain⟨ha,hc,rfl⟩: ∃a c',hv= .slice a c.held.length c':=by obtain⟨_,a,c',e,_⟩:=hh;exact⟨a,c',e⟩
 have hfew:=ok.few
 by_cases hkind:p.kind=2
 · have hF:peekF BlV p c now=⟨0,false,p.permits-c.held.length,0,0,0⟩:=by unfold peekF;rw[if_pos hkind]
   rw[hF]
   have hpm:1≤p.permits∧p.permits≤64:=by rcases hp with h|h;omega;exact⟨h.2.1,h.2.2⟩
   have hw64:IntKind.i64.wrap (p.permits-(c.held.length:Int))=p.permits-(c.held.length:Int):=by rw[IntKind.wrap_i64];omega
   have hk2:(p.kind:Int)=2:=by omega
   clear hF hk hh ok hp hkind
   go_enter Tryz.func105,Tryz.ntmps105
   go_wp2_with fail
   exact bodyPost_ret (v:= .agg (replyA ⟨0,false,p.permits-c.held.length,0,0,0⟩)) (by simp [results,Tryz.results105,go_sem]) rfl ⟨rfl,below_allocs [_,_,_] w⟩
 · have hk1:p.kind=1:=by rcases hp with h|h;exact h.1;omega
   have hF:peekF BlV p c now=⟨0,false,leftI p.T p.tau c.tat now,clampI (c.tat-now),0,now⟩:=by unfold peekF;rw[if_neg hkind];rfl
   rw[hF]
   have hl:=pol_limB hp hk1
   have Kl:Hid (∀W:World,Calls Tryz.prog 146 #[.agg #[.int .i64 p.T,.int .i64 p.tau],.int .i64 c.tat,.int .i64 now] W fun e w'=>e= .returned (.tuple #[.int .i64 (leftI p.T p.tau c.tat now),.int .i64 0])∧Below W.heap.size W w'):=fun W=>gLeft_any p.T p.tau c.tat now (leftI p.T p.tau c.tat now) W true (by simp [hl,tickB_mk ok.tat0 ok.tat1,tickB_mk n0 n1]) (fun _=>rfl) (fun h=>by cases h)
   have Ks:Hid (∀W:World,Calls Tryz.prog 147 #[.int .i64 c.tat,.int .i64 now] W fun e w'=>e= .returned (.tuple #[.int .i64 (clampI (c.tat-now)),.int .i64 0])∧W=w'):=fun W=>sub_yes c.tat now W (tickB_mk ok.tat0 ok.tat1) (tickB_mk n0 n1)
   have hk2: ¬(p.kind:Int)=2:=by omega
   clear hF hk hh ok hp hkind hl hk1
   generalize leftI p.T p.tau c.tat now=li at*
   generalize clampI (c.tat-now)=si at*
   go_enter Tryz.func105,Tryz.ntmps105
   go_wp2_with fail
   refine calls_name (fun u=>Below w.heap.size w u∧Bx u w.heap.size 60 #[.int .u8 (p.kind:Nat),.int .i64 p.T,.int .i64 p.tau,.int .i64 p.permits]∧Bx u (w.heap.size+1) 100 #[.int .i64 c.pol,.slice ka c.key.length kc,.int .i64 c.tat,.slice ha c.held.length hc]∧Bx u (w.heap.size+1+1) 35 #[.int .i64 0,.bool false,.int .i64 0,.int .i64 0,.int .i64 0,.int .i64 0]) ⟨below_allocs [_,_,_] w,bx_allocs w [_,_,_] 0 rfl,bx_allocs w [_,_,_] 1 rfl,bx_allocs w [_,_,_] 2 rfl⟩ ?_
   rintro W0 ⟨hb0,hp0,hc0,hr0⟩
   (with_reducible refine(Kl.out W0).mono ?_)
   rintro e w1 ⟨rfl,hb1⟩
   have hc1:=hc0.below hb1 hc0.lt;have hr1:=hr0.below hb1 hr0.lt
   have hbw:=hb0.trans (hb1.mono hb0.size)
   have c0:=hc1.cell 0;have c1:=hc1.cell 1;have c2:=hc1.cell 2;have c3:=hc1.cell 3;have r0:=hr1.cell 0;have r1:=hr1.cell 1;have r2:=hr1.cell 2;have r3:=hr1.cell 3;have r4:=hr1.cell 4;have r5:=hr1.cell 5;have rf0:=hr1.free 0;have rf1:=hr1.free 1;have rf2:=hr1.free 2;have rf3:=hr1.free 3;have rf4:=hr1.free 4;have rf5:=hr1.free 5
   have Hbw:=Lib.hid hbw
   clear hb0 hp0 hc0 hr0 hb1 hc1 hr1 hbw
   go_wp2_with (go_at_call 147;(with_reducible refine(Ks.out _).mono ?_);rintro e w2 ⟨rfl,rfl⟩)
   refine bodyPost_ret (v:= .agg (replyA ⟨0,false,li,si,0,now⟩)) (by simp [results,Tryz.results105,go_sem,r0,r1,r2,r3,r4,r5]) rfl ⟨rfl,?_⟩
   with_reducible exact bel_six Hbw.out (Nat.le_trans (Nat.le_succ _) (Nat.le_succ _)) _ _ _ _ _ _
theorem books_V :Books BlV where
 with_:=with_any
 peek:=peek_book
 allow:=fun p c kv hv now n w hk hh ok hp hkind n0 n1 k0 k1=>(allow_book p c kv hv now n w hk hh ok hp hkind n0 n1 k0 k1).mono fun e w' ⟨h1,h2⟩=>⟨h1,by
   have ht:=sound_V.tat p c.tat now n hp hkind ok.tat0 ok.tat1 n0 n1 k0 k1
   exact⟨ok.pol0,ok.pol1,ok.len,ok.bytes,ht.1,ht.2,ok.held0,ok.rises,ok.few⟩,h2⟩
 acquire:=fun p c kv hv serial w hk hh ok hp hkind _ _=>acquire_book p c kv hv serial w hk hh ok hp hkind
 release:=fun p c kv hv serial w hk hh ok hp hkind _ _=>release_book p c kv hv serial w hk hh ok hp hkind
 find:=find_book
end
end Go.Proofs.YtemnhpdjoimjbaaGreatDoor
