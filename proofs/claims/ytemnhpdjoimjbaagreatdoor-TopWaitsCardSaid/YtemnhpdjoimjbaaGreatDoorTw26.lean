import Derived.Test.YtemnhpdjoimjbaaGreatDoorTw25
namespace Go.Proofs.YtemnhpdjoimjbaaGreatDoor
section
open Go.RowKit Top
set_option linter.unusedVariables false
variable (Bl : Top.Below)
def TakeSpec :Prop:= ∀(B:Nat) (E:Env) (x:Live) (m:Mem) (f:Top.Found) (at_:Nat) (there:Bool) (c:Cell) (v:Value) (w:World),TakeAt w E v f at_ there c→Good E x→x.call.op=2→0≤x.serial→x.serial≤4611686018427387903→St w B E.A m→CallAt w E x→
 ∃fn ps,v= .func (.func fn) #[] ps∧Enters fn∧Calls Tryz.prog fn ps w (KRes w E (putK E.A.room f at_ there (takeF Bl (polOf E.A.list x) c x.serial).2 (takeF Bl (polOf E.A.list x) c x.serial).1 x))
def WOk (E:Env) (x:Live) (now:Nat):WThen→Prop
 | .back t=>BOk t
 | .room .. =>True
 | .serial .. =>Good E x∧now≤4611686018427387903∧x.call.op=2
set_option maxHeartbeats 1000000 in
set_option maxRecDepth 100000 in
theorem wthen_any (hA:TakeSpec Bl) (B:Nat) (E:Env) (x:Live) (m:Mem) (t:WThen) (now:Nat) (v:Value) (w:World) (hv:WThenAt w E v t) (ho:WOk E x now t) (hs:St w B E.A m) (hcl:CallAt w E x) (hB:B≤E.x):
   ∃f ps,v= .func (.func f) #[] ps∧Enters f∧Calls Tryz.prog f (#[.int .u64 now]++ps) w (ORes w B E (wthenF Bl E.A.list E.A.room t now x m)):=by
 have W0:=Lib.hid (Was.start hs hcl)
 have HB0:=Lib.hid hs.below.2.2.2
 cases t with
 |back t=>
   have HW:Hid (Was w B E x m (w.alloc (.cells res0 37))):=W0.out.later (below_allocs [_] w)
   have HL0:Hid (Bx (w.alloc (.cells res0 37)) w.heap.size 37 res0):=bx_allocs w [_] 0 rfl
   obtain⟨b0,bv,rfl,h0,hb⟩:=hv
   refine⟨_,_,rfl,enters_of Tryz.func131 (by kernel_rfl) rfl,?_⟩
   show Calls _ _ #[.int .u64 now,P b0] _ _
   have H:=Lib.hid (And.intro h0 hb)
   have Hx:Hid (wthenF Bl E.A.list E.A.room (.back t) now x m=bthenF t x m):=rfl
   obtain⟨f,ps,rfl,hef,kt⟩:=bthen_any B E x m t bv (w.alloc (.cells res0 37)) (hb.keep HW.out.fr) ho HW.out.st HW.out.call
   unfold Enters at hef
   have Kt:=Lib.hid kt
   have c0:=h0.at0;have l0:=h0.lt
   clear h0 hb hs hcl kt ho
   go_enter Tryz.func131,Tryz.ntmps131
   go_wp2_with (go_at_fn f;(refine (Kt.out).mono ?_);rintro e w3 h;obtain⟨v,d,a,rfl,ha⟩:=Ans.of h;have hr3:=HL0.out.keep ha.fr rfl;obtain⟨r0,r1,r2,r3,r4,r5,r6⟩:=res_cells hr3;obtain⟨f0,f1,f2,f3,f4,f5,f6⟩:=res_free hr3;have Hr3:=Lib.hid hr3;have Ha:=Lib.hid ha;clear hr3 ha h)
   rw[Hx.out]
   exact bodyPost_ret (v:= .tuple #[v,.agg (resA d a)]) (by simp [results,Tryz.results131,go_sem,r0,r1,r2,r3,r4,r5,r6]) rfl ((Ha.out.pre HW.out.fr).store Hr3.out (Nat.le_refl _) HB0.out).ores
 |room f at_ there c r=>
   have HW:Hid (Was w B E {x with reserved:=true } m ((w.setCell ⟨E.x,7,none⟩ (.bool true)).alloc (.cells res0 37))):=(W0.out.reserve hB true).later ((Below.refl _ _).alloc (Nat.le_refl _) _)
   have HL0:Hid (Bx ((w.setCell ⟨E.x,7,none⟩ (.bool true)).alloc (.cells res0 37)) w.heap.size 37 res0):=Bx.newq' (by simp [World.setCell])
   obtain⟨b0,b1,pv,rfl,h0,h1,hp⟩:=hv
   refine⟨_,_,rfl,enters_of Tryz.func145 (by kernel_rfl) rfl,?_⟩
   show Calls _ _ #[.int .u64 now,P b0,P b1] _ _
   have Hx:Hid (wthenF Bl E.A.list E.A.room (.room f at_ there c r) now x m=more (.put f at_ there c r) {x with reserved:=true } m):=rfl
   have hkw:KontAt w E pv (.put f at_ there c r):=hp
   have hpv:Func1 pv:=by obtain⟨_,_,_,_,_,_,_,_,_,e,_⟩:=hp;exact⟨_,_,e⟩
   obtain⟨pf,pps,rfl⟩:=hpv
   have Hk:=Lib.hid (hkw.keep HW.out.fr)
   have c0:=h0.at0;have l0:=h0.lt;have c1:=h1.at0;have l1:=h1.lt
   have x7:=hcl.c7;have lx:=hcl.lt
   have x7f:w.frozen? ⟨E.x,7,none⟩=false:=by obtain⟨key,hk,_⟩:=hcl;exact hk.free 7
   have n0:E.x≠b0:=by obtain⟨key,hk,_⟩:=hcl;exact hk.ne h0 (by decide)
   have n1:E.x≠b1:=by obtain⟨key,hk,_⟩:=hcl;exact hk.ne h1 (by decide)
   clear h0 h1 hp hkw hs hcl ho
   go_enter Tryz.func145,Tryz.ntmps145
   go_wp2_with (go_at_call 63;(refine (con_any _ _).mono ?_);rintro e w3 ⟨rfl,hb⟩;have hr3:=HL0.out.keep (fr0 hb) rfl;have hw3:=HW.out.later hb;have hk3:=Hk.out.keep (fr0 hb);obtain⟨r0,r1,r2,r3,r4,r5,r6⟩:=res_cells hr3;obtain⟨f0,f1,f2,f3,f4,f5,f6⟩:=res_free hr3;have Hr3:=Lib.hid hr3;have HW3:=Lib.hid hw3;have Hk3:=Lib.hid hk3;clear hr3 hw3 hk3 hb)
   rw[Hx.out]
   exact bodyPost_ret (v:= .tuple #[.func pf #[] pps,.agg (resA false (err 0))]) (by simp [results,Tryz.results145,go_sem,r0,r1,r2,r3,r4,r5,r6]) rfl ((Ans.more HW3.out Hk3.out).store Hr3.out (Nat.le_refl _) HB0.out).ores
 |serial f at_ there c=>
   obtain⟨ho1,ho2,ho3⟩:=ho
   have HW:Hid (Was w B E {x with serial:=(now:Nat) } m ((w.setCell ⟨E.x,8,none⟩ (.int .i64 (now:Nat))).alloc (.cells res0 37))):=(W0.out.serial hB (now:Nat)).later ((Below.refl _ _).alloc (Nat.le_refl _) _)
   have HL0:Hid (Bx ((w.setCell ⟨E.x,8,none⟩ (.int .i64 (now:Nat))).alloc (.cells res0 37)) w.heap.size 37 res0):=Bx.newq' (by simp [World.setCell])
   obtain⟨b0,b1,pv,rfl,h0,h1,hp⟩:=hv
   refine⟨_,_,rfl,enters_of Tryz.func140 (by kernel_rfl) rfl,?_⟩
   show Calls _ _ #[.int .u64 now,P b0,P b1] _ _
   have hgood:Good E {x with serial:=(now:Nat) }:=⟨ho1.who0,ho1.who1,ho1.pol,ho1.pol1,ho1.klen,ho1.op0,ho1.op1,ho1.n,ho1.n64,(by show(0:Int)≤(now:Int);omega),(by show(now:Int)≤4611686018427387903;omega),ho1.polok,ho1.kind1,ho1.kind2⟩
   have Hx:Hid (wthenF Bl E.A.list E.A.room (.serial f at_ there c) now x m=more (putK E.A.room f at_ there (takeF Bl (polOf E.A.list {x with serial:=(now:Nat) }) c now).2 (takeF Bl (polOf E.A.list {x with serial:=(now:Nat) }) c now).1 {x with serial:=(now:Nat) }) {x with serial:=(now:Nat) } m):=rfl
   obtain⟨f',ps,rfl,hef,kt⟩:=hA B E {x with serial:=(now:Nat) } m f at_ there c pv ((w.setCell ⟨E.x,8,none⟩ (.int .i64 (now:Nat))).alloc (.cells res0 37)) (hp.keep HW.out.fr) hgood ho3 (by show(0:Int)≤(now:Int);omega) (by show(now:Int)≤4611686018427387903;omega) HW.out.st HW.out.call
   unfold Enters at hef
   have Kt:=Lib.hid kt
   have hwz:wrap64 (now:Int)=(now:Int):=by unfold wrap64;omega
   have c0:=h0.at0;have l0:=h0.lt;have c1:=h1.at0;have l1:=h1.lt
   have x8:=hcl.c8;have lx:=hcl.lt
   have x8f:w.frozen? ⟨E.x,8,none⟩=false:=by obtain⟨key,hk,_⟩:=hcl;exact hk.free 8
   have n0:E.x≠b0:=by obtain⟨key,hk,_⟩:=hcl;exact hk.ne h0 (by decide)
   have n1:E.x≠b1:=by obtain⟨key,hk,_⟩:=hcl;exact hk.ne h1 (by decide)
   clear h0 h1 hp hs hcl ho1 ho2 ho3 kt hgood
   go_enter Tryz.func140,Tryz.ntmps140
   go_wp2_with (first|(go_at_fn f';(refine (Kt.out).mono ?_);rintro e w2 ⟨v,rfl,hk,hb⟩;have hr2:=HL0.out.keep (fr0 hb) rfl;have hw2:=HW.out.later hb;have Hk:=Lib.hid hk;have Hr2:=Lib.hid hr2;have HW2:=Lib.hid hw2;clear hk hr2 hw2 hb)|(go_at_call 63;(refine (con_any _ _).mono ?_);rintro e w3 ⟨rfl,hb⟩;have hr3:=Hr2.out.keep (fr0 hb) rfl;have hw3:=HW2.out.later hb;have hk3:=Hk.out.keep (fr0 hb);obtain⟨r0,r1,r2,r3,r4,r5,r6⟩:=res_cells hr3;obtain⟨f0,f1,f2,f3,f4,f5,f6⟩:=res_free hr3;have Hr3:=Lib.hid hr3;have HW3:=Lib.hid hw3;have Hk3:=Lib.hid hk3;clear hr3 hw3 hk3 hb))
   rw[Hx.out]
   exact bodyPost_ret (v:= .tuple #[v,.agg (resA false (err 0))]) (by simp [results,Tryz.results140,go_sem,r0,r1,r2,r3,r4,r5,r6]) rfl ((Ans.more HW3.out Hk3.out).store Hr3.out (Nat.le_refl _) HB0.out).ores
set_option maxHeartbeats 1000000 in
set_option maxRecDepth 100000 in
theorem stop_any (B:Nat) (E:Env) (x:Live) (m:Mem) (t:WThen) (v:Value) (w:World) (hv:StopAt w E v t) (ho: ∀b,t≠ .back b) (hs:St w B E.A m) (hcl:CallAt w E x):
   ∃f ps,v= .func (.func f) #[] ps∧Enters f∧Calls Tryz.prog f ps w (ORes w B E (stopF t x m)):=by
 have W0:=Lib.hid (Was.start hs hcl)
 have HB0:=Lib.hid hs.below.2.2.2
 have HW:Hid (Was w B E x m (w.alloc (.cells res0 37))):=W0.out.later (below_allocs [_] w)
 have HL0:Hid (Bx (w.alloc (.cells res0 37)) w.heap.size 37 res0):=bx_allocs w [_] 0 rfl
 cases t with
 |back b=>exact absurd rfl (ho b)
 |room f at_ there c r=>
   obtain rfl:=hv
   refine⟨_,_,rfl,enters_of Tryz.func144 (by kernel_rfl) rfl,?_⟩
   have Hx:Hid (stopF (.room f at_ there c r) x m=fin (err 10) x m):=rfl
   clear hs hcl ho
   go_enter Tryz.func144,Tryz.ntmps144
   go_wp2_with (go_at_call 87;(refine (cend_any (err 10) _).mono ?_);rintro e w3 ⟨rfl,hb⟩;have hw3:=HW.out.later hb;have hr3:=HL0.out.keep (fr0 hb) rfl;obtain⟨r0,r1,r2,r3,r4,r5,r6⟩:=res_cells hr3;obtain⟨f0,f1,f2,f3,f4,f5,f6⟩:=res_free hr3;have Hr3:=Lib.hid hr3;have HW3:=Lib.hid hw3;clear hr3 hw3 hb)
   rw[Hx.out]
   exact bodyPost_ret (v:= .tuple #[.nilFunc,.agg (resA true (err 10))]) (by simp [results,Tryz.results144,go_sem,r0,r1,r2,r3,r4,r5,r6]) rfl ((Ans.fin HW3.out).store Hr3.out (Nat.le_refl _) HB0.out).ores
 |serial f at_ there c=>
   obtain⟨b0,rfl,h0⟩:=hv
   refine⟨_,_,rfl,enters_of Tryz.func139 (by kernel_rfl) rfl,?_⟩
   have Hx:Hid (stopF (.serial f at_ there c) x m=leave (err 5) x m):=rfl
   have Kt:=Lib.hid (leave_any B E x m (err 5) (w.alloc (.cells res0 37)) HW.out.st HW.out.call)
   have c0:=h0.at0;have l0:=h0.lt
   clear h0 hs hcl ho
   go_enter Tryz.func139,Tryz.ntmps139
   go_wp2_with (go_at_call 136;(refine (Kt.out).mono ?_);rintro e w3 h;obtain⟨v,d,a,rfl,ha⟩:=Ans.of h;have hr3:=HL0.out.keep ha.fr rfl;obtain⟨r0,r1,r2,r3,r4,r5,r6⟩:=res_cells hr3;obtain⟨f0,f1,f2,f3,f4,f5,f6⟩:=res_free hr3;have Hr3:=Lib.hid hr3;have Ha:=Lib.hid ha;clear hr3 ha h)
   rw[Hx.out]
   exact bodyPost_ret (v:= .tuple #[v,.agg (resA d a)]) (by simp [results,Tryz.results139,go_sem,r0,r1,r2,r3,r4,r5,r6]) rfl ((Ha.out.pre HW.out.fr).store Hr3.out (Nat.le_refl _) HB0.out).ores
end
section
open Go.RowKit Top
set_option linter.unusedVariables false
variable (Bl : Top.Below)
theorem belOfX {W w3:World} {B:Nat} {E:Env} {o:Out} {v:Value} {d:Bool} {a:Reply} {u:World} (ha:Ans W B E o v d a w3) (h:RowKit.Below u.heap.size u W):RowKit.Below u.heap.size u W:=h
set_option maxHeartbeats 1000000 in
set_option maxRecDepth 100000 in
theorem step_wordLoad (B:Nat) (E:Env) (x:Live) (m:Mem) (word by_ stop:Nat) (t:WThen) (v:Value) (w:World) (hk:KontAt w E v (.wordLoad word by_ stop t)) (hs:St w B E.A m) (hcl:CallAt w E x) (ok:E.Ok m) (hi:word<34) (hst:m.word word=stop→ ∀b,t≠ .back b):
   ∃f ps,v= .func (.func f) #[] ps∧Enters f∧Calls Tryz.prog f ps w (ORes w B E (stepF Bl E.A.list E.A.room (.wordLoad word by_ stop t) x m)):=by
 obtain⟨b0,b1,b2,b3,sv,b4,b5,tv,rfl,h0,h1,h2,h3,hsv,h4,h5,htv⟩:=hk
 refine⟨_,_,rfl,enters_of Tryz.func153 (by kernel_rfl) rfl,?_⟩
 have W0:=Lib.hid (Was.start hs hcl)
 have HB0:=Lib.hid hs.below.2.2.2
 have HW:Hid (Was w B E x m (w.alloc (.cells res0 37))):=W0.out.later (below_allocs [_] w)
 have HL0:Hid (Bx (w.alloc (.cells res0 37)) w.heap.size 37 res0):=bx_allocs w [_] 0 rfl
 have H:=Lib.hid (And.intro h0 (And.intro h1 (And.intro h2 (And.intro h3 (And.intro h4 (And.intro h5 (And.intro hsv htv)))))))
 have Kl:=Lib.hid (cload_any B E x m word (w.alloc (.cells res0 37)) HW.out.st HW.out.call ok hi)
 have c0:=H.out.1.at0;have l0:=H.out.1.lt
 have c1:=H.out.2.1.at0;have l1:=H.out.2.1.lt
 by_cases hp:m.word word=stop
 · have hx:stepF Bl E.A.list E.A.room (.wordLoad word by_ stop t) x m=stopF t x m.touch:=if_pos hp
   have Hx:=Lib.hid hx
   have hnb:=hst hp
   have hsf:Func1 sv:=by
     rcases hsv.func with h|h
     · cases t with
       |back b=>exact absurd rfl (hnb b)
       |room=>cases hsv.symm.trans h
       |serial=>obtain⟨_,e,_⟩:=hsv;cases e.symm.trans h
     · exact h
   obtain⟨f0,ps0,rfl⟩:=hsf
   obtain⟨f,ps,hfe,hef,_⟩:=stop_any B E x m t _ w hsv hnb hs hcl
   injection hfe with e1 e2 e3
   subst e1 e3
   unfold Enters at hef
   have Kt:Hid (∀W,Was w B E x m.touch W→Calls Tryz.prog f ps0 W (ORes W B E (stopF t x m.touch))):=fun W hW=>by
     obtain⟨f',ps',e,_,k⟩:=stop_any B E x m.touch t _ W (H.out.2.2.2.2.2.2.1.keep hW.fr) hnb hW.st hW.call
     injection e with e1 e2 e3
     injection e1 with e1
     subst e1 e3
     exact k
   subst hp
   clear h0 h1 h2 h3 h4 h5 hsv htv hs hcl ok hi hst hx hnb
   go_enter Tryz.func153,Tryz.ntmps153
   go_wp2_with (first|(go_at_call 62;(refine Kl.out.mono ?_);rintro e w1 ⟨rfl,hno⟩;have hno1:=hno;have hw1:=HW.out.noted hno;have hr1:=HL0.out.keep (hno.acc HW.out.st).2 rfl;have k2:=(H.out.2.2.1.keep hw1.fr rfl).at0;have kl2:=(H.out.2.2.1.keep hw1.fr rfl).lt;have k3:=(H.out.2.2.2.1.keep hw1.fr rfl).at0;have kl3:=(H.out.2.2.2.1.keep hw1.fr rfl).lt;have HW1:=Lib.hid hw1;have HR1:=Lib.hid hr1;clear hno hno1 hw1 hr1)|(go_at_fn f;(refine (Kt.out _ (HW1.out.later (by (repeat (first|(with_reducible first|exact RowKit.Below.refl _ _|assumption|refine RowKit.Below.drew ?_)|((with_reducible first|refine belAlloc ?_ ?_|refine belSet ?_ ?_);(first|simp<;>omega|omega))))))).mono ?_);rintro e w3 h;obtain⟨v,d,a,rfl,ha⟩:=Ans.of h;have ha2:=Ans.pre (w:=w) (HW1.out.later (belOfX (u:=w1) ha (by (repeat (first|(with_reducible first|exact RowKit.Below.refl _ _|assumption|refine RowKit.Below.drew ?_)|((with_reducible first|refine belAlloc ?_ ?_|refine belSet ?_ ?_);(first|simp<;>omega|omega))))))).fr ha;have hr3:=(HR1.out.keep (fr0 (belOfX (u:=w1) ha (by (repeat (first|(with_reducible first|exact RowKit.Below.refl _ _|assumption|refine RowKit.Below.drew ?_)|((with_reducible first|refine belAlloc ?_ ?_|refine belSet ?_ ?_);(first|simp<;>omega|omega))))))) rfl).keep ha.fr rfl;obtain⟨r0,r1,r2,r3,r4,r5,r6⟩:=res_cells hr3;obtain⟨f0,f1,f2,f3,f4,f5,f6⟩:=res_free hr3;have Hr3:=Lib.hid hr3;have Ha:=Lib.hid ha2;clear hr3 ha ha2 h))
   rw[Hx.out]
   exact bodyPost_ret (v:= .tuple #[v,.agg (resA d a)]) (by simp [results,Tryz.results153,go_sem,r0,r1,r2,r3,r4,r5,r6]) rfl (Ha.out.store Hr3.out (Nat.le_refl _) HB0.out).ores
 · have hx:stepF Bl E.A.list E.A.room (.wordLoad word by_ stop t) x m=more (.wordSwap word by_ stop (m.word word) t) x m.touch:=if_neg hp
   have Hx:=Lib.hid hx
   have hpi: ¬((m.word word:Nat):Int)=(stop:Int):=by omega
   clear h0 h1 h2 h3 h4 h5 hsv htv hs hcl ok hi hst hx hp
   go_enter Tryz.func153,Tryz.ntmps153
   go_wp2_with (first|(go_at_call 62;(refine Kl.out.mono ?_);rintro e w1 ⟨rfl,hno⟩;have hno1:=hno;have hw1:=HW.out.noted hno;have hr1:=HL0.out.keep (hno.acc HW.out.st).2 rfl;have k2:=(H.out.2.2.1.keep hw1.fr rfl).at0;have kl2:=(H.out.2.2.1.keep hw1.fr rfl).lt;have k3:=(H.out.2.2.2.1.keep hw1.fr rfl).at0;have kl3:=(H.out.2.2.2.1.keep hw1.fr rfl).lt;have HW1:=Lib.hid hw1;have HR1:=Lib.hid hr1;clear hno hno1 hw1 hr1)|(go_at_call 63;(refine (con_any _ _).mono ?_);rintro e w3 ⟨rfl,hb⟩;have hb1:=below_allocs [.cells #[.int .u64 (m.word word:Nat)] 61] w1;have hwA:=HW1.out.later hb1;have hrA:=HR1.out.keep (fr0 hb1) rfl;have hk:KontAt (w1.alloc (.cells #[.int .u64 (m.word word:Nat)] 61)) E (.func (.func 154) #[] #[P b0,P b1,P w1.heap.size,P b4,P b2,P b3,P b5]) (.wordSwap word by_ stop (m.word word) t):=⟨_,_,_,_,_,_,_,_,_,rfl,H.out.1.keep hwA.fr rfl,H.out.2.1.keep hwA.fr rfl,bx_allocs w1 [_] 0 rfl,H.out.2.2.2.2.1.keep hwA.fr rfl,H.out.2.2.1.keep hwA.fr rfl,H.out.2.2.2.1.keep hwA.fr rfl,H.out.2.2.2.2.2.2.1.keep hwA.fr,H.out.2.2.2.2.2.1.keep hwA.fr rfl,H.out.2.2.2.2.2.2.2.keep hwA.fr⟩;have hr3:=hrA.keep (fr0 hb) rfl;have hw3:=hwA.later hb;have hk3:=hk.keep (fr0 hb);obtain⟨r0,r1,r2,r3,r4,r5,r6⟩:=res_cells hr3;obtain⟨f0,f1,f2,f3,f4,f5,f6⟩:=res_free hr3;have Hr3:=Lib.hid hr3;have HW3:=Lib.hid hw3;have Hk3:=Lib.hid hk3;clear hr3 hw3 hk3 hk hb hb1 hwA hrA))
   rw[Hx.out]
   exact bodyPost_ret (v:= .tuple #[.func (.func 154) #[] #[P b0,P b1,P w1.heap.size,P b4,P b2,P b3,P b5],.agg (resA false (err 0))]) (by simp [results,Tryz.results153,go_sem,r0,r1,r2,r3,r4,r5,r6]) rfl ((Ans.more HW3.out Hk3.out).store Hr3.out (Nat.le_refl _) HB0.out).ores
theorem wrap_add (u b:Nat):IntKind.u64.wrap ((u:Int)+(b:Int))=(((u+b)%U64:Nat):Int):=by rw[IntKind.wrap_u64];unfold U64;omega
set_option maxHeartbeats 1000000 in
set_option maxRecDepth 100000 in
theorem step_wordSwap (hA:TakeSpec Bl) (B:Nat) (E:Env) (x:Live) (m:Mem) (word by_ stop u:Nat) (t:WThen) (v:Value) (w:World) (hk:KontAt w E v (.wordSwap word by_ stop u t)) (ho:WOk E x ((u+by_)%U64) t) (hs:St w B E.A m) (hcl:CallAt w E x) (hB:B≤E.x) (ok:E.Ok m) (hi:word<34):
   ∃f ps,v= .func (.func f) #[] ps∧Enters f∧Calls Tryz.prog f ps w (ORes w B E (stepF Bl E.A.list E.A.room (.wordSwap word by_ stop u t) x m)):=by
 obtain⟨b0,b1,b2,b3,b4,b5,sv,b6,tv,rfl,h0,h1,h2,h3,h4,h5,hsv,h6,htv⟩:=hk
 refine⟨_,_,rfl,enters_of Tryz.func154 (by kernel_rfl) rfl,?_⟩
 have W0:=Lib.hid (Was.start hs hcl)
 have HB0:=Lib.hid hs.below.2.2.2
 have HW:Hid (Was w B E x m (w.alloc (.cells res0 37))):=W0.out.later (below_allocs [_] w)
 have HL0:Hid (Bx (w.alloc (.cells res0 37)) w.heap.size 37 res0):=bx_allocs w [_] 0 rfl
 obtain⟨tf,tps,rfl⟩:=htv.func
 have hsf:=hsv.func
 have H:=Lib.hid (And.intro h0 (And.intro h1 (And.intro h2 (And.intro h3 (And.intro h4 (And.intro h5 (And.intro h6 (And.intro hsv htv))))))))
 obtain⟨now,hnow⟩: ∃now,(u+by_)%U64=now:=⟨_,rfl⟩
 have hwr:IntKind.u64.wrap ((u:Int)+(by_:Int))=(now:Int):=by rw[wrap_add,hnow]
 have hn64:now<18446744073709551616:=by have:(u+by_)%U64<U64:=Nat.mod_lt _ (by decide);unfold U64 at *;omega
 obtain⟨sw,m1,hsw⟩: ∃sw m1,m.swap word u now []=(sw,m1):=⟨_,_,rfl⟩
 have Ks:Hid (Calls Tryz.prog 155 #[P E.x,.int .i64 word,.int .u64 u,.int .u64 now] (w.alloc (.cells res0 37)) fun e w'=>e= .returned (.bool sw)∧Acc (w.alloc (.cells res0 37)) B E.A m1 w'):=by
   have k:=cswap_any B E x m word u now (w.alloc (.cells res0 37)) HW.out.st HW.out.call ok hi hn64
   rw[hsw]at k
   exact k
 rw[hnow]at ho
 have Hsw:=Lib.hid hsw;have Ho:=Lib.hid ho
 have c0:=H.out.1.at0;have l0:=H.out.1.lt
 have c1:=H.out.2.1.at0;have l1:=H.out.2.1.lt
 have c2:=H.out.2.2.1.at0;have l2:=H.out.2.2.1.lt
 have c3:=H.out.2.2.2.1.at0;have l3:=H.out.2.2.2.1.lt
 cases sw with
 |true=>
   have hx:stepF Bl E.A.list E.A.room (.wordSwap word by_ stop u t) x m=wthenF Bl E.A.list E.A.room t now x m1:=by
     show(if (m.swap word u ((u+by_)%U64) []).1 then wthenF Bl E.A.list E.A.room t ((u+by_)%U64) x (m.swap word u ((u+by_)%U64) []).2 else _)=_
     rw[hnow,hsw]
     rfl
   have Hx:=Lib.hid hx
   obtain⟨f,ps,hfe,hef,_⟩:=wthen_any Bl hA B E x m t now _ w htv ho hs hcl hB
   injection hfe with e1 e2 e3
   subst e1 e3
   unfold Enters at hef
   have Kt:Hid (∀W,Was w B E x m1 W→Calls Tryz.prog f (#[.int .u64 now]++tps) W (ORes W B E (wthenF Bl E.A.list E.A.room t now x m1))):=fun W hW=>by
     obtain⟨f',ps',e,_,k⟩:=wthen_any Bl hA B E x m1 t now _ W (H.out.2.2.2.2.2.2.2.2.keep hW.fr) Ho.out hW.st hW.call hB
     injection e with e1 e2 e3
     injection e1 with e1
     subst e1 e3
     exact k
   clear h0 h1 h2 h3 h4 h5 h6 hsv htv hs hcl ok hi hx ho hsw hnow hsf hn64
   go_enter Tryz.func154,Tryz.ntmps154
   go_wp2_with (first|(go_at_call 155;(refine Ks.out.mono ?_);rintro e w1 ⟨rfl,hacc⟩;have hw1:=HW.out.acc hacc;have hr1:=HL0.out.keep hacc.2 rfl;have k0:=(H.out.1.keep hw1.fr rfl).at0;have kl0:=(H.out.1.keep hw1.fr rfl).lt;have k1:=(H.out.2.1.keep hw1.fr rfl).at0;have kl1:=(H.out.2.1.keep hw1.fr rfl).lt;have k2:=(H.out.2.2.1.keep hw1.fr rfl).at0;have kl2:=(H.out.2.2.1.keep hw1.fr rfl).lt;have k3:=(H.out.2.2.2.1.keep hw1.fr rfl).at0;have kl3:=(H.out.2.2.2.1.keep hw1.fr rfl).lt;have k4:=(H.out.2.2.2.2.1.keep hw1.fr rfl).at0;have kl4:=(H.out.2.2.2.2.1.keep hw1.fr rfl).lt;have k5:=(H.out.2.2.2.2.2.1.keep hw1.fr rfl).at0;have kl5:=(H.out.2.2.2.2.2.1.keep hw1.fr rfl).lt;have k6:=(H.out.2.2.2.2.2.2.1.keep hw1.fr rfl).at0;have kl6:=(H.out.2.2.2.2.2.2.1.keep hw1.fr rfl).lt;have HW1:=Lib.hid hw1;have HR1:=Lib.hid hr1;clear hacc hw1 hr1)|(go_at_fn f;(refine (Kt.out _ HW1.out).mono ?_);rintro e w3 h;obtain⟨v,d,a,rfl,ha⟩:=Ans.of h;have ha2:=Ans.pre (w:=w) HW1.out.fr ha;have hr3:=HR1.out.keep ha.fr rfl;obtain⟨r0,r1,r2,r3,r4,r5,r6⟩:=res_cells hr3;obtain⟨f0,f1,f2,f3,f4,f5,f6⟩:=res_free hr3;have Hr3:=Lib.hid hr3;have Ha:=Lib.hid ha2;clear hr3 ha ha2 h))
   rw[Hx.out]
   exact bodyPost_ret (v:= .tuple #[v,.agg (resA d a)]) (by simp [results,Tryz.results154,go_sem,r0,r1,r2,r3,r4,r5,r6]) rfl (Ha.out.store Hr3.out (Nat.le_refl _) HB0.out).ores
 |false=>
   have hx:stepF Bl E.A.list E.A.room (.wordSwap word by_ stop u t) x m=more (.wordLoad word by_ stop t) x m1:=by
     show(if (m.swap word u ((u+by_)%U64) []).1 then _ else more (.wordLoad word by_ stop t) x (m.swap word u ((u+by_)%U64) []).2)=_
     rw[hnow,hsw]
     rfl
   have Hx:=Lib.hid hx
   have Km:=Lib.hid (fun W sv tv h1 h2=>cmove_any E word by_ stop t sv tv W h1 h2)
   clear h0 h1 h2 h3 h4 h5 h6 hsv htv hs hcl ok hi hx ho hsw hnow hn64
   rcases hsf with rfl|⟨f',ps',rfl⟩
   all_goals
     go_enter Tryz.func154,Tryz.ntmps154
     go_wp2_with (first|(go_at_call 155;(refine Ks.out.mono ?_);rintro e w1 ⟨rfl,hacc⟩;have hw1:=HW.out.acc hacc;have hr1:=HL0.out.keep hacc.2 rfl;have k0:=(H.out.1.keep hw1.fr rfl).at0;have kl0:=(H.out.1.keep hw1.fr rfl).lt;have k1:=(H.out.2.1.keep hw1.fr rfl).at0;have kl1:=(H.out.2.1.keep hw1.fr rfl).lt;have k2:=(H.out.2.2.1.keep hw1.fr rfl).at0;have kl2:=(H.out.2.2.1.keep hw1.fr rfl).lt;have k3:=(H.out.2.2.2.1.keep hw1.fr rfl).at0;have kl3:=(H.out.2.2.2.1.keep hw1.fr rfl).lt;have k4:=(H.out.2.2.2.2.1.keep hw1.fr rfl).at0;have kl4:=(H.out.2.2.2.2.1.keep hw1.fr rfl).lt;have k5:=(H.out.2.2.2.2.2.1.keep hw1.fr rfl).at0;have kl5:=(H.out.2.2.2.2.2.1.keep hw1.fr rfl).lt;have k6:=(H.out.2.2.2.2.2.2.1.keep hw1.fr rfl).at0;have kl6:=(H.out.2.2.2.2.2.2.1.keep hw1.fr rfl).lt;have HW1:=Lib.hid hw1;have HR1:=Lib.hid hr1;clear hacc hw1 hr1)|(go_at_call 130;(refine (Km.out _ _ _ (H.out.2.2.2.2.2.2.2.1.keep HW1.out.fr) (H.out.2.2.2.2.2.2.2.2.keep HW1.out.fr)).mono ?_);rintro e w2 ⟨v,rfl,hk,hb⟩;have hr2:=HR1.out.keep (fr0 hb) rfl;have hw2:=HW1.out.later hb;have Hk:=Lib.hid hk;have Hr2:=Lib.hid hr2;have HW2:=Lib.hid hw2;clear hk hr2 hw2 hb)|(go_at_call 63;(refine (con_any _ _).mono ?_);rintro e w3 ⟨rfl,hb⟩;have hr3:=Hr2.out.keep (fr0 hb) rfl;have hw3:=HW2.out.later hb;have hk3:=Hk.out.keep (fr0 hb);obtain⟨r0,r1,r2,r3,r4,r5,r6⟩:=res_cells hr3;obtain⟨f0,f1,f2,f3,f4,f5,f6⟩:=res_free hr3;have Hr3:=Lib.hid hr3;have HW3:=Lib.hid hw3;have Hk3:=Lib.hid hk3;clear hr3 hw3 hk3 hb))
     rw[Hx.out]
     exact bodyPost_ret (v:= .tuple #[v,.agg (resA false (err 0))]) (by simp [results,Tryz.results154,go_sem,r0,r1,r2,r3,r4,r5,r6]) rfl ((Ans.more HW3.out Hk3.out).store Hr3.out (Nat.le_refl _) HB0.out).ores
end
end Go.Proofs.YtemnhpdjoimjbaaGreatDoor
