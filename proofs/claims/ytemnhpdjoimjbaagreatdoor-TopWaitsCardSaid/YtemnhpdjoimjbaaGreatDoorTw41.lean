import Derived.Test.YtemnhpdjoimjbaaGreatDoorTw40
import Derived.Test.YtemnhpdjoimjbaaGreatDoorTw22
import Derived.Test.YtemnhpdjoimjbaaGreatDoorTw16
namespace Go.Proofs.YtemnhpdjoimjbaaGreatDoor
section
open Go.RowKit Top
set_option linter.unusedVariables false
theorem StepRes.later {w w2 w3:World} {B:Nat} {A:Adr} {s:Top.Sys} {who:Nat} {r:Top.Sys×(Bool×Reply)} (h:StepRes w B A s who r w2) (hb:Below w2.heap.size w2 w3):StepRes w B A s who r w3:=by
 obtain⟨X,h1,h2⟩:=h.fr
 obtain⟨arr,v,k1,k2,k3⟩:=h.core
 exact⟨h.st.later hb,⟨arr,v,k1,k2.below hb k2.lt,k3.keep (fr0 hb) (fun _ _ _ _ _ _=>by simp)⟩,h.oth,⟨X,h1.below h.st.below.2.2.2 hb,h2⟩,h.res⟩
def playS (list:List Pol) (room:Nat) (s:Top.Sys) (p:Pk):Top.Sys:=if p.kind=0 then(stepS list room BlV s p.who.toNat).1 else if p.kind=1 then startS s p.who.toNat p.c else tickS s p.N
structure PkFit (list:List Pol) (p:Pk):Prop where
 kind:p.kind<3
 who: ∃j:Nat,p.who=j∧j<64
 call:CallGood list p.c
 N0:0≤p.N
 N1:p.N≤4611686018427387903
set_option maxHeartbeats 2000000 in
set_option maxRecDepth 100000 in
theorem play_any (B:Nat) (A:Adr) (s:Top.Sys) (n:Nat) (p:Pk) (kv:Value) (w:World) (hs:SysAt w B A s.m s.pd) (T:TabOk A.list A.room) (hok:SysOk A.list A.room s n) (hn:n<4611686018427387900) (hp:PkFit A.list p) (hk:ByAt w kv p.c.key):
   Calls Tryz.prog 6 #[P A.K,.agg (pickA p kv)] w fun e w'=>(∃v,e= .returned v)∧SysAt w' B A (playS A.list A.room s p).m (playS A.list A.room s p).pd∧Fz B w w':=by
 obtain⟨kind,who,c,N⟩:=p
 obtain⟨h1,⟨j,rfl,hj⟩,h3,h4,h5⟩:=hp
 dsimp only at*
 obtain⟨ka,kc,rfl⟩: ∃a c',kv= .slice a c.key.length c':=by obtain⟨_,a,c',e,_⟩:=hk;exact⟨a,c',e⟩
 show Calls _ _ #[P A.K,.agg #[.int .u8 (kind:Nat),.int .i64 j,.int .u8 (c.op:Nat),.int .i64 c.pol,.slice ka c.key.length kc,.int .i64 c.n,.int .i64 N]] w _
 have HS:=Lib.hid hs
 have hkind:kind=0∨kind=1∨kind=2:=by omega
 have hB:=Lib.hid hs.st.below.2.2.2
 rcases hkind with rfl|rfl|rfl
 · have hps:playS A.list A.room s ⟨0,j,c,N⟩=(stepS A.list A.room BlV s j).1:=by unfold playS;rw[if_pos rfl];rfl
   rw[hps]
   obtain⟨s1,hs1⟩: ∃s1,(stepS A.list A.room BlV s j).1=s1:=⟨_,rfl⟩
   rw[hs1]
   have Kc:Hid (∀W,Below w.heap.size w W→Calls Tryz.prog 9 #[P A.K,.int .i64 j] W fun e w'=> ∃d a ee,e= .returned (.tuple #[.agg (resA d a),.int .i64 ee])∧Fz B W w'∧ ∀W2,Below w'.heap.size w' W2→ ∀r0,w.heap.size≤r0→Bx W2 r0 37 res0→SysAt (storeR W2 r0 d a) B A s1.m s1.pd∧Fz B w (storeR W2 r0 d a)):=fun W hb=>by
     cases hq:s.pd j with
     |none=>
       have hr:stepS A.list A.room BlV s j=(s,false,err 0):=by unfold stepS;rw[hq]
       rw[hr]at hs1
       subst hs1
       refine(core_step_none B A s.m s.pd j W (hs.keep hb) hj hq).mono ?_
       rintro e w' ⟨rfl,hb'⟩
       refine⟨false,err 0,7,rfl,Fz.of_below (Nat.le_trans hs.st.below.2.2.2 hb.size) hb',fun W2 hb2 r0 hr0 hx=> ?_⟩
       rw[storeR_zero hx]
       have hbb:=below_then (below_then hb hb') hb2
       exact⟨hs.keep hbb,Fz.of_below hs.st.below.2.2.2 hbb⟩
     |some q=>
       obtain⟨x,k⟩:=q
       refine(core_step B A s n j x k W (hs.keep hb) T hok hn hj hq).mono ?_
       rintro e w' ⟨rfl,hr⟩
       refine⟨_,_,0,rfl,hr.fz,fun W2 hb2 r0 hr0 hx=> ?_⟩
       have h1:=StepRes.store hs ((StepRes.pre hb hs hr).later hb2) hx hr0
       rw[← hs1]
       exact⟨h1.sys hs hj,h1.fz⟩
   clear hs hok hn h1 h3 h4 h5 hps hk T hs1
   go_enter Tryz.func6,Tryz.ntmps6
   go_upto_region 1 with (fail)
   refine wp_name (fun u=>Below w.heap.size w u∧Bx u w.heap.size 33 #[.int .u8 0,.int .i64 j,.int .u8 (c.op:Nat),.int .i64 c.pol,.slice ka c.key.length kc,.int .i64 c.n,.int .i64 N]∧Bx u (w.heap.size+1) 37 res0) ⟨below_allocs [_,_] w,bx_allocs w [_,_] 0 rfl,bx_allocs w [_,_] 1 rfl⟩ ?_
   rintro u ⟨hb,hx,hy⟩
   have x0:=hx.cell 0;have x1:=hx.cell 1
   have Hb:=Lib.hid hb;have Hy:=Lib.hid hy
   clear hb hx hy
   go_upto_region 4 with (go_at_call 9;(with_reducible refine(Kc.out _ Hb.out).mono ?_);rintro e w2 ⟨d,a,ee,rfl,hz,hst⟩;have hy2:=Hy.out.kz hz rfl;have Hy2:=Lib.hid hy2;have Hst:=Lib.hid hst;clear hz hst hy2)
   refine wp_name (fun v=>Below w2.heap.size w2 v∧Bx v w2.heap.size 37 (resA d a)∧Bx v (w.heap.size+1) 37 res0) ⟨below_allocs [_] w2,Bx.new w2 _ _,Hy2.out.alc⟩ ?_
   rintro v ⟨hv,hv1,hv2⟩
   have x0:=hv1.cell 0;have x1:=hv1.cell 1;have x2:=hv1.cell 2;have x3:=hv1.cell 3;have x4:=hv1.cell 4;have x5:=hv1.cell 5;have x6:=hv1.cell 6
   obtain⟨r0,r1,r2,r3,r4,r5,r6⟩:=res_cells hv2
   obtain⟨f0,f1,f2,f3,f4,f5,f6⟩:=res_free hv2
   have HV:=Lib.hid (And.intro hv (And.intro hv1 hv2))
   clear hv hv1 hv2
   go_wp2_with fail
   have hbx:=storeR_bx (d:=d) (a:=a) HV.out.2.2
   have hfin:=Hst.out v HV.out.1 (w.heap.size+1) (by omega) HV.out.2.2
   show bodyPost _ _ _ _ _ (storeR v (w.heap.size+1) d a)
   generalize storeR v (w.heap.size+1) d a=W at*
   have u0:=hbx.cell 0;have u1:=hbx.cell 1;have u2:=hbx.cell 2;have u3:=hbx.cell 3;have u4:=hbx.cell 4;have u5:=hbx.cell 5;have u6:=hbx.cell 6
   exact bodyPost_ret (v:= .agg (resA d a)) (by simp [results,Tryz.results6,go_sem,u0,u1,u2,u3,u4,u5,u6]) rfl ⟨⟨_,rfl⟩,hfin⟩
 · have hps:playS A.list A.room s ⟨1,j,c,N⟩=startS s j c:=by unfold playS;rw[if_neg (show ¬(1:Nat)=0 by decide),if_pos rfl];rfl
   rw[hps]
   obtain⟨s1,hs1⟩: ∃s1,startS s j c=s1:=⟨_,rfl⟩
   rw[hs1]
   have Kc:Hid (∀W,Below w.heap.size w W→Calls Tryz.prog 19 #[P A.K,.int .i64 j,.agg #[.int .u8 (c.op:Nat),.int .i64 c.pol,.slice ka c.key.length kc,.int .i64 c.n]] W fun e w'=> ∃ee,e= .returned (.int .i64 ee)∧Fz B W w'∧SysAt w' B A s1.m s1.pd∧Fz B w w'):=fun W hb=>by
     have hfb:=Fz.of_below hs.st.below.2.2.2 hb
     cases hq:s.pd j with
     |none=>
       have hr:startS s j c=⟨s.m,setP s.pd j (some (liveOf c,firstK c))⟩:=by unfold startS;rw[hq]
       rw[hr]at hs1
       subst hs1
       refine(start_any B A s.m s.pd j c _ W (hs.keep hb) T hq hj h3 (hk.below hb)).mono ?_
       rintro e w' ⟨rfl,h6,h7,_⟩
       exact⟨0,rfl,⟨_,h7⟩,h6,hfb.trans ⟨_,h7⟩⟩
     |some q=>
       have hr:startS s j c=s:=by unfold startS;rw[hq]
       rw[hr]at hs1
       subst hs1
       refine(start_busy B A s.m s.pd j q c _ W (hs.keep hb) T hq hj h3 (hk.below hb)).mono ?_
       rintro e w' ⟨rfl,hb'⟩
       have hbb:=below_then hb hb'
       exact⟨9,rfl,Fz.of_below (Nat.le_trans hs.st.below.2.2.2 hb.size) hb',hs.keep hbb,Fz.of_below hs.st.below.2.2.2 hbb⟩
   clear hs hok hn h1 h3 h4 h5 hps hk T hs1
   go_enter Tryz.func6,Tryz.ntmps6
   go_upto_region 1 with (fail)
   refine wp_name (fun u=>Below w.heap.size w u∧Bx u w.heap.size 33 #[.int .u8 1,.int .i64 j,.int .u8 (c.op:Nat),.int .i64 c.pol,.slice ka c.key.length kc,.int .i64 c.n,.int .i64 N]∧Bx u (w.heap.size+1) 37 res0) ⟨below_allocs [_,_] w,bx_allocs w [_,_] 0 rfl,bx_allocs w [_,_] 1 rfl⟩ ?_
   rintro u ⟨hb,hx,hy⟩
   have x0:=hx.cell 0;have x1:=hx.cell 1;have x2:=hx.cell 2;have x3:=hx.cell 3;have x4:=hx.cell 4;have x5:=hx.cell 5;have x6:=hx.cell 6
   have Hb:=Lib.hid hb;have Hy:=Lib.hid hy
   clear hb hx hy
   go_upto_region 9 with (go_at_call 19;(refine (Kc.out _ Hb.out).mono ?_);rintro e w2 ⟨ee,rfl,hz,hst⟩;have hy2:=Hy.out.kz hz rfl;have Hy2:=Lib.hid hy2;have Hst:=Lib.hid hst;clear hz hst hy2)
   obtain⟨r0,r1,r2,r3,r4,r5,r6⟩:=res_cells Hy2.out
   obtain⟨f0,f1,f2,f3,f4,f5,f6⟩:=res_free Hy2.out
   go_wp2_with fail
   rw[set7_same Hy2.out]
   exact bodyPost_ret (v:= .agg res0) (by simp [results,Tryz.results6,go_sem,r0,r1,r2,r3,r4,r5,r6]) rfl ⟨⟨_,rfl⟩,Hst.out⟩
 · have hps:playS A.list A.room s ⟨2,j,c,N⟩=tickS s N:=by unfold playS;rw[if_neg (show ¬(2:Nat)=0 by decide),if_neg (show ¬(2:Nat)=1 by decide)]
   rw[hps]
   have Kc:Hid (∀W,Below w.heap.size w W→Calls Tryz.prog 12 #[P A.K,.int .i64 N] W fun e w'=> ∃ee,e= .returned (.tuple #[.int .i64 ee,.int .i64 0])∧Fz B W w'∧SysAt w' B A (tickS s N).m (tickS s N).pd∧Fz B w w'):=fun W hb=>by
     refine(tick_sys B A s N W (hs.keep hb) h4 h5).mono ?_
     rintro e w' ⟨rfl,h6,h7⟩
     exact⟨_,rfl,h7,h6,(Fz.of_below hs.st.below.2.2.2 hb).trans h7⟩
   clear hs hok hn h1 h3 h4 h5 hps hk T
   generalize tickS s N=s1 at*
   go_enter Tryz.func6,Tryz.ntmps6
   go_upto_region 1 with (fail)
   refine wp_name (fun u=>Below w.heap.size w u∧Bx u w.heap.size 33 #[.int .u8 2,.int .i64 j,.int .u8 (c.op:Nat),.int .i64 c.pol,.slice ka c.key.length kc,.int .i64 c.n,.int .i64 N]∧Bx u (w.heap.size+1) 37 res0) ⟨below_allocs [_,_] w,bx_allocs w [_,_] 0 rfl,bx_allocs w [_,_] 1 rfl⟩ ?_
   rintro u ⟨hb,hx,hy⟩
   have x0:=hx.cell 0;have x1:=hx.cell 1;have x2:=hx.cell 2;have x3:=hx.cell 3;have x4:=hx.cell 4;have x5:=hx.cell 5;have x6:=hx.cell 6
   have Hb:=Lib.hid hb;have Hy:=Lib.hid hy
   clear hb hx hy
   go_upto_region 9 with (go_at_call 12;(refine (Kc.out _ Hb.out).mono ?_);rintro e w2 ⟨ee,rfl,hz,hst⟩;have hy2:=Hy.out.kz hz rfl;have Hy2:=Lib.hid hy2;have Hst:=Lib.hid hst;clear hz hst hy2)
   obtain⟨r0,r1,r2,r3,r4,r5,r6⟩:=res_cells Hy2.out
   obtain⟨f0,f1,f2,f3,f4,f5,f6⟩:=res_free Hy2.out
   go_wp2_with fail
   rw[set7_same Hy2.out]
   exact bodyPost_ret (v:= .agg res0) (by simp [results,Tryz.results6,go_sem,r0,r1,r2,r3,r4,r5,r6]) rfl ⟨⟨_,rfl⟩,Hst.out⟩
end
section
open Go.RowKit Top
set_option linter.unusedVariables false
def alienT (t:TypeId):Bool:= !(t==5)&& !(t==2)&& !(t==61)&& !(t==100)&& !(t==64)&& !(t==71)&& !(t==121)&& !(t==156)&& !(t==84)&& !(t==81)&& !(t==60)
theorem alien_ne {t t':TypeId} (h:alienT t'=true) (ht:alienT t=false):t≠t':=by
 rintro rfl
 rw[h]at ht
 cases ht
theorem CellsAt.alien {w:World} {v:Value} {L:List Cell} (h:CellsAt w v L) {r i:Nat} {t:TypeId} {c:Array Value} (hr:Bx w r t c) (ht:alienT t=true) (u:Value):CellsAt (w.setCell ⟨r,i,none⟩ u) v L:=by
 obtain⟨xs,h1,h2,h3,h4⟩:=h
 exact⟨xs,h1,Row.sto h2 hr (alien_ne ht rfl) u,fun x hx=>⟨(h3 x hx).1.sto hr (alien_ne ht rfl) u,Row.sto (h3 x hx).2 hr (alien_ne ht rfl) u⟩,h4⟩
theorem CoreAt.alien {w:World} {A:Adr} (h:CoreAt w A) {r i:Nat} {t:TypeId} {c:Array Value} (hr:Bx w r t c) (ht:alienT t=true) (u:Value):CoreAt (w.setCell ⟨r,i,none⟩ u) A:=by
 obtain⟨arr,lv,h1,h2,h3,h4,h5,h6⟩:=h
 exact⟨arr,lv,h1.sne (h1.ne hr (alien_ne ht rfl)),h2,h3,h4,h5,Row.sto h6 hr (alien_ne ht rfl) u⟩
theorem St.alien {w:World} {B:Nat} {A:Adr} {m:Mem} (h:St w B A m) {r i:Nat} {t:TypeId} {c:Array Value} (hr:Bx w r t c) (ht:alienT t=true) (u:Value):St (w.setCell ⟨r,i,none⟩ u) B A m:=by
 obtain⟨last,hm,n,xs,ho,hn,h1⟩:=h.mach
 obtain⟨hs,h2,h3,h4⟩:=h.holds
 refine⟨h.lanes.sne (h.lanes.ne hr (alien_ne ht rfl)),h.board.sne (h.board.ne hr (alien_ne ht rfl)),⟨last,hm.sne (hm.ne hr (alien_ne ht rfl)),n,xs,ownsRow_setCell_other ho (own_ne ho hr (Ne.symm (alien_ne ht rfl))) _,hn,h1⟩,h.words.sne (h.words.ne hr (alien_ne ht rfl)),h.nwords,h.wordlt,⟨hs,h2,h3.sne (h3.ne hr (alien_ne ht rfl)),fun i hi=> ?_⟩,h.nholds,⟨h.below.1,h.below.2.1,h.below.2.2.1,by simpa [World.setCell]using h.below.2.2.2⟩,h.clock,h.count,h.core.alien hr ht u⟩
 obtain⟨v,h5,h6⟩:=h4 i hi
 exact⟨v,h5,h6.alien hr ht u⟩
structure RunRes (w:World) (B:Nat) (A:Adr) (s:Top.Sys) (who:Nat) (s':Top.Sys) (w':World):Prop where
 st:St w' B A s'.m
 core: ∃arr v,Bx w A.K 71 arr∧Bx w' A.K 71 (arr.setIfInBounds (3+who) v)∧PendAt w' B A who v (s'.pd who)
 oth: ∀j,j≠who→s'.pd j=s.pd j
 fr: ∃X,Fr B X w w'∧ ∀(j:Nat) (x:Live) (k:Kont) (xb:Nat) (pol:Pol),j≠who→s.pd j=some (x,k)→CallAt w ⟨A,(j:Int),xb,pol⟩ x→xb∉X
theorem StepRes.run {w:World} {B:Nat} {A:Adr} {s:Top.Sys} {who:Nat} {r:Top.Sys×(Bool×Reply)} {w':World} (h:StepRes w B A s who r w'):RunRes w B A s who r.1 w':=⟨h.st,h.core,h.oth,h.fr⟩
theorem RunRes.fz {w:World} {B:Nat} {A:Adr} {s:Top.Sys} {who:Nat} {s':Top.Sys} {w':World} (h:RunRes w B A s who s' w'):Fz B w w':=by
 obtain⟨X,h1,_⟩:=h.fr
 exact⟨X,h1⟩
theorem RunRes.sys {w:World} {B:Nat} {A:Adr} {s:Top.Sys} {who:Nat} {s':Top.Sys} {w':World} (h:RunRes w B A s who s' w') (hs:SysAt w B A s.m s.pd) (hw:who<64):SysAt w' B A s'.m s'.pd:=by
 obtain⟨arr,v,k1,k2,k3⟩:=h.core
 obtain⟨arr0,l1,l2,l3⟩:=hs.pend
 obtain rfl:=bx_inj l1 k1
 obtain⟨X,h1,h2⟩:=h.fr
 refine⟨h.st,⟨_,k2,by simpa using l2,fun j hj=> ?_⟩,hs.kb⟩
 by_cases e:j=who
 · subst e
   exact⟨v,Array.getElem?_setIfInBounds_self_of_lt (by omega),k3⟩
 · obtain⟨u,h3,h4⟩:=l3 j hj
   refine⟨u,by rw[Array.getElem?_setIfInBounds_ne (by omega)];exact h3,?_⟩
   rw[h.oth j e]
   exact h4.keep h1 fun x k xb pol ep hc=>h2 j x k xb pol e ep hc
theorem RunRes.later {w w2 w3:World} {B:Nat} {A:Adr} {s:Top.Sys} {who:Nat} {s':Top.Sys} (h:RunRes w B A s who s' w2) (hb:Below w2.heap.size w2 w3):RunRes w B A s who s' w3:=by
 obtain⟨X,h1,h2⟩:=h.fr
 obtain⟨arr,v,k1,k2,k3⟩:=h.core
 exact⟨h.st.later hb,⟨arr,v,k1,k2.below hb k2.lt,k3.keep (fr0 hb) (fun _ _ _ _ _ _=>by simp)⟩,h.oth,⟨X,h1.below h.st.below.2.2.2 hb,h2⟩⟩
theorem RunRes.pre {w w1 w2:World} {B:Nat} {A:Adr} {s:Top.Sys} {who:Nat} {s':Top.Sys} (hb:Below w.heap.size w w1) (hs:SysAt w B A s.m s.pd) (h:RunRes w1 B A s who s' w2):RunRes w B A s who s' w2:=by
 obtain⟨X,h1,h2⟩:=h.fr
 obtain⟨arr,v,k1,k2,k3⟩:=h.core
 obtain⟨arr0,l1,_⟩:=hs.pend
 obtain rfl:=bx_inj (l1.below hb l1.lt) k1
 exact⟨h.st,⟨_,v,l1,k2,k3⟩,h.oth,⟨X,(Fr.of_below hs.st.below.2.2.2 hb).trans h1,fun j x k xb pol h3 h4 h5=>h2 j x k xb pol h3 h4 (h5.keep (fr0 hb) (by simp))⟩⟩
theorem RunRes.trans {w w1 w2:World} {B:Nat} {A:Adr} {s s1 s2:Top.Sys} {who:Nat} (h:RunRes w B A s who s1 w1) (k:RunRes w1 B A s1 who s2 w2):RunRes w B A s who s2 w2:=by
 obtain⟨X,h1,h2⟩:=h.fr
 obtain⟨Y,k1,k2⟩:=k.fr
 obtain⟨arr,v,a1,a2,a3⟩:=h.core
 obtain⟨arr',v',b1,b2,b3⟩:=k.core
 obtain rfl:=bx_inj a2 b1
 refine⟨k.st,⟨arr,v',a1,by simpa using b2,b3⟩,fun j hj=>(k.oth j hj).trans (h.oth j hj),⟨X++Y,(h1.mono (Nat.le_refl _) (fun x hx=>List.mem_append_left _ hx)).trans (k1.mono (Nat.le_refl _) (fun x hx=>List.mem_append_right _ hx)),fun j x q xb pol h3 h4 h5=> ?_⟩⟩
 have n1:=h2 j x q xb pol h3 h4 h5
 have n2:=k2 j x q xb pol h3 ((h.oth j h3).trans h4) (h5.keep h1 n1)
 simp [n1,n2]
theorem RunRes.start {w w':World} {B:Nat} {A:Adr} {s:Top.Sys} {who:Nat} {c:Top.Call} (hp:s.pd who=none) (hw:who<64) (h:SysAt w' B A s.m (setP s.pd who (some (liveOf c,firstK c)))) (hs:SysAt w B A s.m s.pd) (hf:Fr B [A.K] w w') (hc: ∃arr v,Bx w A.K 71 arr∧Bx w' A.K 71 (arr.setIfInBounds (3+who) v)):RunRes w B A s who (startS s who c) w':=by
 have e:startS s who c=⟨s.m,setP s.pd who (some (liveOf c,firstK c))⟩:=by unfold startS;rw[hp]
 rw[e]
 obtain⟨arr,v,k1,k2⟩:=hc
 obtain⟨arr0,l1,l2,l3⟩:=h.pend
 obtain rfl:=bx_inj k2 l1
 obtain⟨u,l4,l5⟩:=l3 who hw
 have hsz:(3+who)<arr.size:=by simp at l2;omega
 rw[Array.getElem?_setIfInBounds_self_of_lt hsz]at l4
 injection l4 with l4
 subst l4
 refine⟨h.st,⟨arr,v,k1,k2,l5⟩,fun j hj=>setP_ne _ _ hj,⟨_,hf,fun j x k xb pol h1 h2 h3=> ?_⟩⟩
 obtain⟨_,hx,_⟩:=h3
 simpa using hx.ne k1 (by decide)
theorem RunRes.alien {w w2:World} {B:Nat} {A:Adr} {s:Top.Sys} {who:Nat} {s':Top.Sys} (h:RunRes w B A s who s' w2) (hB:B≤w.heap.size) (hp:s'.pd who=none) {r i:Nat} {t:TypeId} {c:Array Value} (hr:Bx w2 r t c) (hnew:w.heap.size≤r) (ht:alienT t=true) (u:Value):RunRes w B A s who s' (w2.setCell ⟨r,i,none⟩ u):=by
 obtain⟨X,h1,h2⟩:=h.fr
 obtain⟨arr,v,k1,k2,k3⟩:=h.core
 rw[hp]at k3
 exact⟨h.st.alien hr ht u,⟨arr,v,k1,k2.sne (k2.ne hr (alien_ne ht rfl)),(none_pend (pend_none k3)).trans' hp.symm⟩,h.oth,⟨X,h1.setNew (p:=⟨r,i,none⟩) (Nat.le_trans hB hnew) hnew u,h2⟩⟩
def storeY (w:World) (r:Nat) (a:Reply):World:=(((((w.setCell ⟨r,0,none⟩ (.int .i64 a.e)).setCell ⟨r,1,none⟩ (.bool a.granted)).setCell ⟨r,2,none⟩ (.int .i64 a.left)).setCell ⟨r,3,none⟩ (.int .i64 a.wait)).setCell ⟨r,4,none⟩ (.int .i64 a.serial)).setCell ⟨r,5,none⟩ (.int .i64 a.now)
abbrev rep0 :Array Value:= #[.int .i64 0,.bool false,.int .i64 0,.int .i64 0,.int .i64 0,.int .i64 0]
theorem storeY_bx {w:World} {r:Nat} {t:TypeId} {a:Reply} (h:Bx w r t rep0):Bx (storeY w r a) r t (replyA a):=by
 unfold storeY
 exact h.set6
theorem RunRes.storeY {w w2:World} {B:Nat} {A:Adr} {s:Top.Sys} {who:Nat} {s':Top.Sys} {a:Reply} (h:RunRes w B A s who s' w2) (hB:B≤w.heap.size) (hp:s'.pd who=none) {r:Nat} {t:TypeId} (hr:Bx w2 r t rep0) (hnew:w.heap.size≤r) (ht:alienT t=true):RunRes w B A s who s' (storeY w2 r a):=by
 have b0:=hr.setCell 0 (.int .i64 a.e)
 have b1:=b0.setCell 1 (.bool a.granted)
 have b2:=b1.setCell 2 (.int .i64 a.left)
 have b3:=b2.setCell 3 (.int .i64 a.wait)
 have b4:=b3.setCell 4 (.int .i64 a.serial)
 exact(((((h.alien hB hp hr hnew ht _).alien hB hp b0 hnew ht _).alien hB hp b1 hnew ht _).alien hB hp b2 hnew ht _).alien hB hp b3 hnew ht _).alien hB hp b4 hnew ht _
end
section
open Go.RowKit Top
set_option linter.unusedVariables false
structure AlAt (w:World) (B:Nat) (A:Adr) (s:Top.Sys) (who:Nat) (n c:Nat) (r:Reply) (s':Top.Sys) (sk:Top.Sys) (wr:World):Prop where
 run:RunRes w B A s who sk wr
 ok:SysOk A.list A.room sk (n+(512-c))
 on:(sk.pd who).isSome=true
 al:aloneS A.list A.room BlV who c sk=some (r,s')
theorem alone_pos {list:List Pol} {room:Nat} {B:Top.Below} {who c:Nat} {s:Top.Sys} {o:Reply×Top.Sys} (h:aloneS list room B who c s=some o):0<c:=by
 cases c with
 |zero=>cases h
 |succ c=>omega
theorem alone_off {list:List Pol} {room:Nat} {B:Top.Below} {who:Nat}: ∀ {c:Nat} {s:Top.Sys},s.pd who=none→aloneS list room B who c s=none
 |0,_,_=>rfl
 |c+1,s,h=>by
   have e:stepS list room B s who=(s,false,err 0):=by unfold stepS;rw[h]
   unfold aloneS
   rw[e]
   exact alone_off (c:=c) h
set_option maxHeartbeats 2000000 in
set_option maxRecDepth 100000 in
theorem alone_any (B:Nat) (A:Adr) (s:Top.Sys) (n who:Nat) (c:Top.Call) (kv:Value) (w:World) (r:Reply) (s':Top.Sys) (hs:SysAt w B A s.m s.pd) (T:TabOk A.list A.room) (hok:SysOk A.list A.room s n) (hn:n+600<4611686018427387900) (hw:who<64) (hp:s.pd who=none) (hc:CallGood A.list c) (hk:ByAt w kv c.key) (hal:aloneS A.list A.room BlV who 512 (startS s who c)=some (r,s')):
   Calls Tryz.prog 11 #[P A.K,.int .i64 who,.agg #[.int .u8 (c.op:Nat),.int .i64 c.pol,kv,.int .i64 c.n]] w fun e w'=>e= .returned (.tuple #[.agg (replyA r),.bool true])∧RunRes w B A s who s' w':=by
 obtain⟨ka,kc,rfl⟩: ∃a c',kv= .slice a c.key.length c':=by obtain⟨_,a,c',e,_⟩:=hk;exact⟨a,c',e⟩
 have HS:=Lib.hid hs
 have Ks:Hid (∀W,Below w.heap.size w W→Calls Tryz.prog 19 #[P A.K,.int .i64 who,.agg #[.int .u8 (c.op:Nat),.int .i64 c.pol,.slice ka c.key.length kc,.int .i64 c.n]] W fun e w'=>e= .returned (.int .i64 0)∧Fz B W w'∧AlAt w B A s who n 512 r s' (startS s who c) w'):=fun W hb=>by
   refine(start_any B A s.m s.pd who c _ W (hs.keep hb) T hp hw hc (hk.below hb)).mono ?_
   rintro e w' ⟨rfl,h1,h2,h3⟩
   have hok':SysOk A.list A.room (startS s who c) (n+(512-512)):=hok.start hw hc.in_
   refine⟨rfl,⟨_,h2⟩,RunRes.pre hb hs (RunRes.start hp hw h1 (hs.keep hb) h2 h3),hok',?_,hal⟩
   show((startS s who c).pd who).isSome=true
   unfold startS
   rw[hp]
   show(setP s.pd who _ who).isSome=true
   rw[setP_self]
   rfl
 have Kt:Hid (∀(q:Nat) (sk:Top.Sys) (W:World),q≤512→AlAt w B A s who n q r s' sk W→Calls Tryz.prog 9 #[P A.K,.int .i64 who] W fun e w'=>Fz B W w'∧((e= .returned (.tuple #[.agg (resA true r),.int .i64 0])∧RunRes w B A s who s' w'∧s'.pd who=none)∨ ∃sk',e= .returned (.tuple #[.agg (resA false (err 0)),.int .i64 0])∧AlAt w B A s who n (q-1) r s' sk' w')):=fun q sk W hle h=>by
   have hpos:=alone_pos h.al
   obtain⟨p,rfl⟩: ∃p,q=p+1:=⟨q-1,by omega⟩
   have hsys:=h.run.sys hs hw
   obtain⟨⟨x,k⟩,hx⟩:=Option.isSome_iff_exists.1 h.on
   refine(core_step B A sk (n+(512-(p+1))) who x k W hsys T h.ok (by omega) hw hx).mono ?_
   rintro e w' ⟨rfl,hr⟩
   refine⟨hr.fz,?_⟩
   have hal:=h.al
   have hok2:=h.ok.step sound_V T hw (by omega:n+(512-(p+1))<4611686018427387900)
   unfold aloneS at hal
   generalize stepS A.list A.room BlV sk who=o at*
   obtain⟨s1,d,a⟩:=o
   rcases hr.res with ⟨hd,ha⟩|⟨hd,hpd⟩
   · have hd:d=false:=hd
     have ha:a=err 0:=ha
     subst hd ha
     rw[if_neg (by simp)]at hal
     have hok3:SysOk A.list A.room s1 (n+(512-p)):=hok2.mono (by have:=h.al;have:=hle;omega)
     refine .inr ⟨s1,rfl,h.run.trans hr.run,hok3,?_,hal⟩
     obtain⟨arr,v,k1,k2,k3⟩:=hr.core
     have hq:(s1.pd who).isSome=true:=by
       cases e:s1.pd who with
       |some _=>rfl
       |none=>
         have:=alone_pos hal
         obtain⟨p',rfl⟩: ∃p',p=p'+1:=⟨p-1,by omega⟩
         rw[alone_off e]at hal;cases hal
     exact hq
   · have hd:d=true:=hd
     subst hd
     rw[if_pos rfl]at hal
     injection hal with hal
     injection hal with h1 h2
     subst h1 h2
     exact .inl ⟨rfl,h.run.trans hr.run,hpd⟩
 have HB:=Lib.hid hs.st.below.2.2.2
 clear hs T hok hn hp hc hk hal
 go_enter Tryz.func11,Tryz.ntmps11
 go_upto_region 1 with (fail)
 refine wp_name (fun u=>Below w.heap.size w u∧Bx u w.heap.size 31 #[.int .u8 (c.op:Nat),.int .i64 c.pol,.slice ka c.key.length kc,.int .i64 c.n]∧Bx u (w.heap.size+1) 35 rep0) ⟨below_allocs [_,_] w,bx_allocs w [_,_] 0 rfl,bx_allocs w [_,_] 1 rfl⟩ ?_
 rintro u ⟨hb,hx,hy⟩
 have x0:=hx.cell 0;have x1:=hx.cell 1;have x2:=hx.cell 2;have x3:=hx.cell 3
 have Hb:=Lib.hid hb;have Hy:=Lib.hid hy
 clear hb hx hy
 go_upto_region 4 with (go_at_call 19;(with_reducible refine(Ks.out _ Hb.out).mono ?_);rintro e w2 ⟨rfl,hz,hal⟩;have hy2:=Hy.out.kz hz rfl;have Hy2:=Lib.hid hy2;have Hal:=Lib.hid hal;clear hz hal hy2)
 go_loopw [16] (fun i wr=> ∃(k:Nat) (sk:Top.Sys),i= .int .i64 k∧k≤512∧AlAt w B A s who n (512-k) r s' sk wr∧Bx wr (w.heap.size+1) 35 rep0) (fun i _=>512-(intOf i).toNat)
 case atStart=>exact⟨0,_,rfl,Nat.zero_le _,Hal.out,Hy2.out⟩
 case round=>
   obtain⟨k,sk,rfl,hk,hal,hy⟩:=hrel
   have hpos:=alone_pos hal.al
   have hk':k<512:=by omega
   have KT:=Lib.hid (Kt.out _ _ _ (by omega) hal)
   have HY:=Lib.hid hy
   clear hal hy hpos
   go_upto_region 6 with (go_at_call 9;(with_reducible refine KT.out.mono ?_);rintro e w3 ⟨hz,h⟩;have hy3:=HY.out.kz hz rfl;have HY3:=Lib.hid hy3;clear hy3 hz;rcases h with ⟨rfl,hrun,hpd⟩|⟨sk',rfl,hal⟩)
   · have HR:=Lib.hid (And.intro hrun hpd)
     have HZ3:=Lib.hid (Below.refl w3.heap.size w3)
     clear hrun hpd
     refine wp_name (fun v=>Below w3.heap.size w3 v∧Bx v w3.heap.size 37 (resA true r)∧Bx v (w.heap.size+1) 35 rep0) ⟨below_allocs [_] w3,Bx.new w3 _ _,HY3.out.alc⟩ ?_
     rintro v ⟨hv,hv1,hv2⟩
     have x0:=hv1.cell 0;have x1:=hv1.cell 1;have x2:=hv1.cell 2;have x3:=hv1.cell 3;have x4:=hv1.cell 4;have x5:=hv1.cell 5;have x6:=hv1.cell 6
     obtain⟨r0,r1,r2,r3,r4,r5⟩:=cells6 hv2
     obtain⟨f0,f1,f2,f3,f4,f5⟩:=free6 hv2
     have HV:=Lib.hid (And.intro hv (And.intro hv1 hv2))
     clear hv hv1 hv2
     go_wp2_with fail
     have hbx:=storeY_bx (a:=r) HV.out.2.2
     have hfin:=(HR.out.1.later HV.out.1).storeY (a:=r) HB.out HR.out.2 HV.out.2.2 (Nat.le_succ _) rfl
     show bodyPost _ _ _ _ _ (storeY v (w.heap.size+1) r)
     generalize storeY v (w.heap.size+1) r=W at*
     have u0:=hbx.cell 0;have u1:=hbx.cell 1;have u2:=hbx.cell 2;have u3:=hbx.cell 3;have u4:=hbx.cell 4;have u5:=hbx.cell 5
     exact bodyPost_ret (v:= .tuple #[.agg (replyA r),.bool true]) (by simp [results,Tryz.results11,go_sem,u0,u1,u2,u3,u4,u5]) rfl ⟨rfl,hfin⟩
   · have HR:=Lib.hid hal
     clear hal
     refine wp_name (fun v=>Below w3.heap.size w3 v∧Bx v w3.heap.size 37 (resA false (err 0))∧Bx v (w.heap.size+1) 35 rep0) ⟨below_allocs [_] w3,Bx.new w3 _ _,HY3.out.alc⟩ ?_
     rintro v ⟨hv,hv1,hv2⟩
     have x0:=hv1.cell 0;have x1:=hv1.cell 1
     have HV:=Lib.hid (And.intro hv (And.intro hv1 hv2))
     clear hv hv1 hv2
     go_wp2_with fail
     go_roundw
     case rel=>exact⟨k+1,sk',by go_num,by omega,⟨HR.out.run.later HV.out.1,HR.out.ok,HR.out.on,HR.out.al⟩,HV.out.2.2⟩
     case measure=>simp [intOf];omega
end
section
open Go.RowKit Top
set_option linter.unusedVariables false
def tabL :List Pol:=[⟨1,10,20,0⟩,⟨2,0,0,2⟩]
theorem tab_ok {room:Nat} (h1:1≤room) (h2:room≤4096):TabOk tabL room:=
 ⟨by decide,fun p hp=>by
   simp only[tabL,List.mem_cons,List.not_mem_nil,or_false]at hp
   rcases hp with rfl|rfl
   · exact .inl ⟨rfl,by decide,by decide,by decide,by decide⟩
   · exact .inr ⟨rfl,by decide,by decide⟩,h1,h2⟩
set_option maxHeartbeats 1000000 in
theorem table_any (w:World):Calls Tryz.prog 5 #[] w fun e w'=> ∃v,e= .returned v∧PolsAt w' v tabL∧Below w.heap.size w w':=by
 go_enter Tryz.func5,Tryz.ntmps5
 go_wp2
 refine bodyPost_ret (v:= .slice (some ⟨w.heap.size,0,none⟩) 2 2) (by simp [results,Tryz.results5,go_sem]) rfl ⟨_,rfl,⟨rfl,_,2,rfl,Nat.le_refl _,by decide,fun _=>⟨w.heap.size,0,_,rfl,Bx.new w _ _,fun j u hu=> ?_⟩⟩,below_allocs [_] w⟩
 have h: ∀j u,(tabL.flatMap polEnc)[j]? =some u→(#[Value.int .u8 1,.int .i64 10,.int .i64 20,.int .i64 0,.int .u8 2,.int .i64 0,.int .i64 0,.int .i64 2]:Array Value)[0+j]? =some u:=fun j u hu=>by
   rw[Nat.zero_add]
   simpa [tabL,polEnc]using hu
 exact h j u hu
end
section
open Go.RowKit Top
set_option linter.unusedVariables false
def lvlOf (m:Mem):Nat:=m.word 0/2
def movOf (m:Mem):Bool:=decide (m.word 0%2=1)
def halfF (m:Mem) (holds:List Cell) (j:Nat):List Cell:=if m.word (place (lvlOf m+1) j)=0 then cut holds (lvlOf m+1) j else m.hold (place (lvlOf m+1) j)
def shardF (m:Mem) (i:Nat):List (List Cell):=
 if movOf m=false∨m.word (place (lvlOf m) i)<FRZ then[m.hold (place (lvlOf m) i)]else[halfF m (m.hold (place (lvlOf m) i)) i,halfF m (m.hold (place (lvlOf m) i)) (i+2^lvlOf m)]
def shardsF (m:Mem) (k:Nat):List (List Cell):=(List.range k).flatMap (shardF m)
def ListsAt (w:World) (base:Nat) (v:Value) (LL:List (List Cell)):Prop:=
 ∃vs:List Value,w.ownsRow base 64 1 v LL.length vs∧ ∀(i:Nat) (x:Value) (L:List Cell),vs[i]? =some x→LL[i]? =some L→CellsAt w x L
theorem Row.grown {w w':World} {t t':TypeId} {size n:Nat} {v:Value} {xs:List Value} {row:Option Nat} (h:Row w t size n v xs) (hg:w.grownBy w' row) (hr: ∀g,row=some g→ ∃c,w.heap[g]? =some (.cells c t' (0,0))) (ht:t≠t'):Row w' t size n v xs:=by
 obtain⟨h1,a,c,h2,h3,h4,h5⟩:=h
 refine⟨h1,a,c,h2,h3,h4,fun hn=> ?_⟩
 obtain⟨b,off,arr,h6,h7,h8⟩:=h5 hn
 refine⟨b,off,arr,h6,(hg.block b h7.lt fun e=> ?_).trans h7,h8⟩
 obtain⟨c',hc⟩:=hr b e.symm
 exact(show Bx w b t arr from h7).ne (show Bx w b t' c' from hc) ht rfl
theorem KeyAt.grown {w w':World} {t':TypeId} {v:Value} {L:List Nat} {row:Option Nat} (h:KeyAt w v L) (hg:w.grownBy w' row) (hr: ∀g,row=some g→ ∃c,w.heap[g]? =some (.cells c t' (0,0))) (ht:5≠t'):KeyAt w' v L:=⟨h.1,Row.grown h.2 hg hr ht⟩
theorem CellsAt.grown {w w':World} {v:Value} {L:List Cell} {row:Option Nat} (h:CellsAt w v L) (hg:w.grownBy w' row) (hr: ∀g,row=some g→ ∃c,w.heap[g]? =some (.cells c 64 (0,0))):CellsAt w' v L:=by
 obtain⟨xs,h1,h2,h3,h4⟩:=h
 exact⟨xs,h1,Row.grown h2 hg hr (by decide),fun x hx=>⟨(h3 x hx).1.grown hg hr (by decide),Row.grown (h3 x hx).2 hg hr (by decide)⟩,h4⟩
theorem ListsAt.later {w w':World} {base:Nat} {v:Value} {LL:List (List Cell)} (h:ListsAt w base v LL) (hb:Below w.heap.size w w'):ListsAt w' base v LL:=by
 obtain⟨vs,h1,h2⟩:=h
 exact⟨vs,ownsRow_below h1 hb,fun i x L hx hL=>(h2 i x L hx hL).keep (fr0 hb)⟩
end
section
open Go.RowKit Top
set_option linter.unusedVariables false
def OwnCells (w:World) (base:Nat) (v:Value) (ys:List CV):Prop:=w.ownsRow base 100 4 v ys.length (encs ys)∧ ∀y∈ys,y.ok w
theorem OwnCells.later {w w':World} {base:Nat} {v:Value} {ys:List CV} (h:OwnCells w base v ys) (hb:Below w.heap.size w w'):OwnCells w' base v ys:=⟨ownsRow_below h.1 hb,fun y hy=>(h.2 y hy).keep (fr0 hb)⟩
theorem CV.ok.grown {w w':World} {x:CV} {row:Option Nat} (h:x.ok w) (hg:w.grownBy w' row) (hr: ∀g,row=some g→ ∃c,w.heap[g]? =some (.cells c 100 (0,0))):x.ok w':=⟨h.1.grown hg hr (by decide),Row.grown h.2 hg hr (by decide)⟩
theorem OwnCells.nil (w:World) (base:Nat):OwnCells w base (.slice none 0 0) []:=⟨World.ownsRow_nil _ _ _ _,fun y h=>(by cases h)⟩
end
section
open Go.RowKit Top
set_option linter.unusedVariables false
end
end Go.Proofs.YtemnhpdjoimjbaaGreatDoor
