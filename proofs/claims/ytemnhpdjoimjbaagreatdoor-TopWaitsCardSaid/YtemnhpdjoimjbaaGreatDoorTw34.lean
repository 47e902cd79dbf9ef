import Derived.Test.YtemnhpdjoimjbaaGreatDoorTw33
namespace Go.Proofs.YtemnhpdjoimjbaaGreatDoor
section
open Go.RowKit Top
set_option linter.unusedVariables false
set_option maxHeartbeats 1000000 in
set_option maxRecDepth 100000 in
theorem first_any (B:Nat) (E:Env) (x:Live) (m:Mem) (w:World) (hs:St w B E.A m) (hcl:CallAt w E x) (hk:x.call.op≤4→ ∃p:Nat,x.call.pol=(p:Int)∧E.A.list[p]? =some E.pol) (hsum:x.sum=sumB (ident x.call.pol x.call.key)) (h6:x.call.op≤6):
   Calls Tryz.prog 39 #[P E.x] w (KRes w E (firstK x.call)):=by
 have hb0:=below_allocs [.cells #[P E.x] 107] w
 have W0:=Lib.hid (Was.start hs hcl)
 have Y0:=Lib.hid (W0.out.later hb0)
 have Hb0:=Lib.hid hb0
 have x0:=hcl.c0;have lx:=hcl.lt
 obtain⟨op,hop⟩: ∃op,x.call.op=op:=⟨_,rfl⟩
 rw[hop]at x0 hk h6
 by_cases h1:op=6
 · subst h1
   have hx:firstK x.call= .split:=by unfold firstK;rw[hop];rfl
   have Hx:=Lib.hid hx
   have Kf:=Lib.hid (fun W=>split_any E W)
   clear hs hcl hk hsum h6 hx hop hb0
   go_enter Tryz.func39,Tryz.ntmps39
   go_wp2_with fail
   refine wp_name (fun u=>Was w B E x m u∧Below w.heap.size w u∧Bx u w.heap.size 107 #[P E.x]) ⟨Y0.out,Hb0.out,bx_allocs w [_] 0 rfl⟩ ?_
   rintro u ⟨hw,hbu0,hl0⟩
   have HBu:=Lib.hid hbu0;clear hbu0
   have HW:=Lib.hid hw
   have HL0:=Lib.hid hl0
   have HS:Hid (∀(mm:Mem) (W:World),Was w B E x mm W→Fr B [] u W→W.cell? ⟨w.heap.size,0,none⟩=some (P E.x)∧W.cell? ⟨E.x,4,none⟩=some (P E.A.K)∧W.cell? ⟨E.A.K,2,none⟩=some (P E.A.lanes)∧W.cell? ⟨E.x,5,none⟩=some (.int .i64 E.who)):=fun mm W hw hf=>⟨(HL0.out.keep hf rfl).cell 0,hw.call.c4,hw.st.core.c2,hw.call.c5⟩
   have HSa:Hid (∀W:World,Below u.heap.size u W→W.cell? ⟨w.heap.size,0,none⟩=some (P E.x)∧W.cell? ⟨E.x,4,none⟩=some (P E.A.K)∧W.cell? ⟨E.A.K,2,none⟩=some (P E.A.lanes)∧W.cell? ⟨E.x,5,none⟩=some (.int .i64 E.who)):=fun W hb=>HS.out _ W (HW.out.later hb) (Fr.of_below HW.out.st.below.2.2.2 hb)
   have HLt:Hid (w.heap.size<u.heap.size∧E.x<u.heap.size∧E.A.K<u.heap.size∧E.x<u.heap.size):=⟨HL0.out.lt,HW.out.call.lt,HW.out.st.core.lt,HW.out.call.lt⟩
   clear hw hl0
   go_region_held3 (fun w'=>w'.cell? ⟨w.heap.size,0,none⟩=some (P E.x)∧w'.cell? ⟨E.x,4,none⟩=some (P E.A.K)∧w'.cell? ⟨E.A.K,2,none⟩=some (P E.A.lanes)∧w'.cell? ⟨E.x,5,none⟩=some (.int .i64 E.who)) (first|(refine HSa.out _ ?_;(repeat (first|(with_reducible first|exact RowKit.Below.refl _ _|assumption|refine RowKit.Below.drew ?_)|((with_reducible first|refine belAlloc ?_ ?_|refine belSet ?_ ?_);(first|simp<;>omega|omega))));done)|(refine hSb _ ?_;(repeat (first|(with_reducible first|exact RowKit.Below.refl _ _|assumption|refine RowKit.Below.drew ?_)|((with_reducible first|refine belAlloc ?_ ?_|refine belSet ?_ ?_);(first|simp<;>omega|omega))));done)) ((first|(go_at_call 59;(refine (Kf.out _).mono ?_);rintro e w2 ⟨v,rfl,hk,hb⟩;have hbW:=belOfB (u:=u) hb (by (repeat (first|(with_reducible first|exact RowKit.Below.refl _ _|assumption|refine RowKit.Below.drew ?_)|((with_reducible first|refine belAlloc ?_ ?_|refine belSet ?_ ?_);(first|simp<;>omega|omega)))));have hbu:=hbW.trans (hb.mono hbW.size);have hw2:=HW.out.later hbu;have hf:Fr B [] u w2:=Fr.of_below HW.out.st.below.2.2.2 hbu;have hfW:Fr B [] _ w2:=Fr.of_below (Nat.le_trans HW.out.st.below.2.2.2 hbW.size) hb;have Hk:=Lib.hid hk;have HB2:=Lib.hid hbu;clear hk;have hs2:=HS.out _ w2 hw2 hf;have hSb: ∀W:World,Below u.heap.size w2 W→W.cell? ⟨w.heap.size,0,none⟩=some (P E.x)∧W.cell? ⟨E.x,4,none⟩=some (P E.A.K)∧W.cell? ⟨E.A.K,2,none⟩=some (P E.A.lanes)∧W.cell? ⟨E.x,5,none⟩=some (.int .i64 E.who):=fun W hb=>⟨cell_lt HLt.out.1 hb hs2.1,cell_lt HLt.out.2.1 hb hs2.2.1,cell_lt HLt.out.2.2.1 hb hs2.2.2.1,cell_lt HLt.out.2.2.2 hb hs2.2.2.2⟩;have hsk:=hs2;have hsz:=hf.size;have hl02:=HL0.out.keep hf rfl;have HW2:=Lib.hid hw2;have Hf:=Lib.hid hf;have HLb0:=Lib.hid hl02;clear hw2 hf hfW hbW hs2 hb hbu hl02)))
   all_goals
     go_wp2_with fail
     go_ret
     rw[Hx.out]
     exact⟨v,rfl,Hk.out,HBu.out.trans (HB2.out.mono HBu.out.size)⟩
 · by_cases h2:op=5
   · subst h2
     have hx:firstK x.call= .evictStart:=by unfold firstK;rw[hop];rfl
     have Hx:=Lib.hid hx
     clear hs hcl hk hsum h6 hx hop hb0 h1
     go_enter Tryz.func39,Tryz.ntmps39
     go_wp2_with fail
     go_ret
     rw[Hx.out]
     exact⟨_,rfl,⟨w.heap.size,rfl,bx_allocs w [_] 0 rfl⟩,Hb0.out⟩
   · obtain⟨p,hp1,hp2⟩:=hk (by omega)
     have hx:firstK x.call= .find x.sum .call:=by
       unfold firstK
       rw[hop,if_neg h1,if_neg h2,hsum]
     have Hx:=Lib.hid hx
     have h1i: ¬(op:Int)=6:=by omega
     have h2i: ¬(op:Int)=5:=by omega
     have Kb:Hid (Calls Tryz.prog 65 #[P E.x] (w.alloc (.cells #[P E.x] 107)) (KRes (w.alloc (.cells #[P E.x] 107)) E (.find x.sum .call))):=begin_any B E x m p _ Y0.out.st Y0.out.call hp1 hp2
     clear hs hcl hk hsum h6 hx hop hb0 h1 h2 hp1 hp2
     go_enter Tryz.func39,Tryz.ntmps39
     go_wp2_with (go_at_call 65;(refine Kb.out.mono ?_);rintro e w2 ⟨v,rfl,hk,hb⟩;have Hk:=Lib.hid hk;have HB2:=Lib.hid hb;clear hk hb)
     go_ret
     rw[Hx.out]
     exact⟨v,rfl,Hk.out,Hb0.out.trans (HB2.out.mono Hb0.out.size)⟩
end
section
open Go.RowKit Top
set_option linter.unusedVariables false
variable (Bl : Top.Below)
set_option maxHeartbeats 4000000 in
set_option maxRecDepth 100000 in
theorem step_allow (hB:Books Bl) (B:Nat) (E:Env) (x:Live) (m:Mem) (f:Top.Found) (at_:Nat) (there:Bool) (c:Cell) (v:Value) (w:World) (hk:KontAt w E v (.allow f at_ there c)) (hg:Good E x) (hop:x.call.op=1) (hs:St w B E.A m) (hcl:CallAt w E x) (ok:E.Ok m):
   ∃fn ps,v= .func (.func fn) #[] ps∧Enters fn∧Calls Tryz.prog fn ps w (ORes w B E (stepF Bl E.A.list E.A.room (.allow f at_ there c) x m)):=by
 obtain⟨b0,b1,kv,hv,b2,b3,fv,b4,b5,rfl,h0,h1,hkv,hhv,h2,h3,hfv,h4,h5,hput⟩:=hk
 refine⟨_,_,rfl,enters_of Tryz.func134 (by kernel_rfl) rfl,?_⟩
 obtain⟨fa,fn,fc,rfl⟩:=hfv.slice
 obtain⟨ka,kc,rfl⟩: ∃a c',kv= .slice a c.key.length c':=by obtain⟨_,_,a,c',e,_⟩:=hkv;exact⟨a,c',e⟩
 obtain⟨ha,hc,rfl⟩: ∃a c',hv= .slice a c.held.length c':=by obtain⟨_,a,c',e,_⟩:=hhv;exact⟨a,c',e⟩
 have Kn:=Lib.hid (fun W h1 h2=>cnow_any B E x m W h1 h2 ok)
 obtain⟨dg,dt,dl,dw,hd⟩: ∃dg dt dl dw,Bl.decide E.pol c.tat m.clock x.call.n=(dg,dt,dl,dw):=⟨_,_,_,_,rfl⟩
 have hn:=hg.n hop
 have Ka:Hid (∀W,KeyAt W (.slice ka c.key.length kc) c.key→HeldAt W (.slice ha c.held.length hc) c.held→Calls Tryz.prog 135 #[.agg (polA E.pol),.agg (cellA c (.slice ka c.key.length kc) (.slice ha c.held.length hc)),.int .i64 m.clock,.int .i64 x.call.n] W fun e w'=>e= .returned (.tuple #[.agg (replyA ⟨0,dg,dl,dw,0,m.clock⟩),.agg (cellA {c with tat:=dt } (.slice ka c.key.length kc) (.slice ha c.held.length hc))])∧CellOk {c with tat:=dt }∧Below W.heap.size W w'):=fun W h1 h2=>by
   have k:=hB.allow E.pol c _ _ m.clock x.call.n W h1 h2 hput.cell hg.polok (hg.kind1 hop) hs.clock.1 hs.clock.2 hn.1 hn.2
   rw[hd]at k
   exact k
 have W0:=Lib.hid (Was.start hs hcl)
 have HB0:=Lib.hid hs.below.2.2.2
 have H:=Lib.hid (And.intro h0 (And.intro h1 (And.intro h2 (And.intro h3 (And.intro h4 (And.intro h5 (And.intro hfv (And.intro hkv hhv))))))))
 have hx:stepF Bl E.A.list E.A.room (.allow f at_ there c) x m=if dg=false∨x.call.n=0 then leave ⟨0,dg,dl,dw,0,m.clock⟩ x m.touch else more (putK E.A.room f at_ there {c with tat:=dt } ⟨0,dg,dl,dw,0,m.clock⟩ x) x m.touch:=by
   show(if (Bl.decide (polOf E.A.list x) c.tat m.clock x.call.n).1=false∨x.call.n=0 then leave ⟨0,(Bl.decide (polOf E.A.list x) c.tat m.clock x.call.n).1,(Bl.decide (polOf E.A.list x) c.tat m.clock x.call.n).2.2.1,(Bl.decide (polOf E.A.list x) c.tat m.clock x.call.n).2.2.2,0,m.clock⟩ x m.touch else more (putK E.A.room f at_ there {c with tat:=(Bl.decide (polOf E.A.list x) c.tat m.clock x.call.n).2.1 } ⟨0,(Bl.decide (polOf E.A.list x) c.tat m.clock x.call.n).1,(Bl.decide (polOf E.A.list x) c.tat m.clock x.call.n).2.2.1,(Bl.decide (polOf E.A.list x) c.tat m.clock x.call.n).2.2.2,0,m.clock⟩ x) x m.touch)=_
   simp only[hg.polOf,hd]
 have Hx:=Lib.hid hx;have Hput:=Lib.hid hput
 clear hs hcl ok h0 h1 h2 h3 h4 h5 hfv hkv hhv hput hg hop hd hn hx
 go_enter Tryz.func134,Tryz.ntmps134
 go_wp2_with fail
 refine wp_name (fun u=>Was w B E x (m) u∧Bx u w.heap.size 37 res0) ⟨W0.out.later (below_allocs [_] w),bx_allocs w [_] 0 rfl⟩ ?_
 rintro u ⟨hw,hl0⟩
 have HW:=Lib.hid hw
 have HL0:=Lib.hid hl0
 have HS:Hid (∀(mm:Mem) (W:World),Was w B E x mm W→Fr B [] u W→W.cell? ⟨b0,0,none⟩=some (.int .u8 (E.pol.kind:Nat))∧W.cell? ⟨b0,1,none⟩=some (.int .i64 E.pol.T)∧W.cell? ⟨b0,2,none⟩=some (.int .i64 E.pol.tau)∧W.cell? ⟨b0,3,none⟩=some (.int .i64 E.pol.permits)∧W.cell? ⟨b1,0,none⟩=some (.int .i64 c.pol)∧W.cell? ⟨b1,1,none⟩=some (.slice ka c.key.length kc)∧W.cell? ⟨b1,2,none⟩=some (.int .i64 c.tat)∧W.cell? ⟨b1,3,none⟩=some (.slice ha c.held.length hc)∧W.cell? ⟨b2,0,none⟩=some (P E.x)∧W.cell? ⟨E.x,3,none⟩=some (.int .i64 x.call.n)):=fun mm W hw hf=>⟨(H.out.1.keep hw.fr rfl).cell 0,(H.out.1.keep hw.fr rfl).cell 1,(H.out.1.keep hw.fr rfl).cell 2,(H.out.1.keep hw.fr rfl).cell 3,(H.out.2.1.keep hw.fr rfl).cell 0,(H.out.2.1.keep hw.fr rfl).cell 1,(H.out.2.1.keep hw.fr rfl).cell 2,(H.out.2.1.keep hw.fr rfl).cell 3,(H.out.2.2.1.keep hw.fr rfl).cell 0,hw.call.c3⟩
 have HSa:Hid (∀W:World,Below u.heap.size u W→W.cell? ⟨b0,0,none⟩=some (.int .u8 (E.pol.kind:Nat))∧W.cell? ⟨b0,1,none⟩=some (.int .i64 E.pol.T)∧W.cell? ⟨b0,2,none⟩=some (.int .i64 E.pol.tau)∧W.cell? ⟨b0,3,none⟩=some (.int .i64 E.pol.permits)∧W.cell? ⟨b1,0,none⟩=some (.int .i64 c.pol)∧W.cell? ⟨b1,1,none⟩=some (.slice ka c.key.length kc)∧W.cell? ⟨b1,2,none⟩=some (.int .i64 c.tat)∧W.cell? ⟨b1,3,none⟩=some (.slice ha c.held.length hc)∧W.cell? ⟨b2,0,none⟩=some (P E.x)∧W.cell? ⟨E.x,3,none⟩=some (.int .i64 x.call.n)):=fun W hb=>HS.out _ W (HW.out.later hb) (Fr.of_below HW.out.st.below.2.2.2 hb)
 have HLt:Hid (b0<u.heap.size∧b0<u.heap.size∧b0<u.heap.size∧b0<u.heap.size∧b1<u.heap.size∧b1<u.heap.size∧b1<u.heap.size∧b1<u.heap.size∧b2<u.heap.size∧E.x<u.heap.size):=⟨(H.out.1.keep HW.out.fr rfl).lt,(H.out.1.keep HW.out.fr rfl).lt,(H.out.1.keep HW.out.fr rfl).lt,(H.out.1.keep HW.out.fr rfl).lt,(H.out.2.1.keep HW.out.fr rfl).lt,(H.out.2.1.keep HW.out.fr rfl).lt,(H.out.2.1.keep HW.out.fr rfl).lt,(H.out.2.1.keep HW.out.fr rfl).lt,(H.out.2.2.1.keep HW.out.fr rfl).lt,HW.out.call.lt⟩
 clear hw hl0
 go_cut [8,9] (fun s8 s9 wx=> ∃q8 q9,s8=P q8∧s9=P q9∧Noted u B E.A m wx∧Bx wx q8 35 (replyA ⟨0,dg,dl,dw,0,m.clock⟩)∧Bx wx q9 100 (cellA {c with tat:=dt } (.slice ka c.key.length kc) (.slice ha c.held.length hc))∧CellOk {c with tat:=dt })
 case first=>
   go_region_held3 (fun w'=>w'.cell? ⟨b0,0,none⟩=some (.int .u8 (E.pol.kind:Nat))∧w'.cell? ⟨b0,1,none⟩=some (.int .i64 E.pol.T)∧w'.cell? ⟨b0,2,none⟩=some (.int .i64 E.pol.tau)∧w'.cell? ⟨b0,3,none⟩=some (.int .i64 E.pol.permits)∧w'.cell? ⟨b1,0,none⟩=some (.int .i64 c.pol)∧w'.cell? ⟨b1,1,none⟩=some (.slice ka c.key.length kc)∧w'.cell? ⟨b1,2,none⟩=some (.int .i64 c.tat)∧w'.cell? ⟨b1,3,none⟩=some (.slice ha c.held.length hc)∧w'.cell? ⟨b2,0,none⟩=some (P E.x)∧w'.cell? ⟨E.x,3,none⟩=some (.int .i64 x.call.n)) (first|(refine HSa.out _ ?_;(repeat (first|(with_reducible first|exact RowKit.Below.refl _ _|assumption|refine RowKit.Below.drew ?_)|((with_reducible first|refine belAlloc ?_ ?_|refine belSet ?_ ?_);(first|simp<;>omega|omega))));done)|(refine hSb _ ?_;(repeat (first|(with_reducible first|exact RowKit.Below.refl _ _|assumption|refine RowKit.Below.drew ?_)|((with_reducible first|refine belAlloc ?_ ?_|refine belSet ?_ ?_);(first|simp<;>omega|omega))));done)) ((first|(go_at_call 91;(refine (Kn.out _ (HW.out.later (by (repeat (first|(with_reducible first|exact RowKit.Below.refl _ _|assumption|refine RowKit.Below.drew ?_)|((with_reducible first|refine belAlloc ?_ ?_|refine belSet ?_ ?_);(first|simp<;>omega|omega)))))).st (HW.out.later (by (repeat (first|(with_reducible first|exact RowKit.Below.refl _ _|assumption|refine RowKit.Below.drew ?_)|((with_reducible first|refine belAlloc ?_ ?_|refine belSet ?_ ?_);(first|simp<;>omega|omega)))))).call).mono ?_);rintro e w1 ⟨rfl,hno⟩;have hbW:=belOfN (u:=u) hno (by (repeat (first|(with_reducible first|exact RowKit.Below.refl _ _|assumption|refine RowKit.Below.drew ?_)|((with_reducible first|refine belAlloc ?_ ?_|refine belSet ?_ ?_);(first|simp<;>omega|omega)))));have n2:=hno.pre HW.out.st hbW;have hw2:=HW.out.noted n2;have hf:=(n2.acc HW.out.st).2;have hfW:=(hno.acc (HW.out.later hbW).st).2;have hs2:=HS.out _ w1 hw2 hf;have hSb: ∀W:World,Below u.heap.size w1 W→W.cell? ⟨b0,0,none⟩=some (.int .u8 (E.pol.kind:Nat))∧W.cell? ⟨b0,1,none⟩=some (.int .i64 E.pol.T)∧W.cell? ⟨b0,2,none⟩=some (.int .i64 E.pol.tau)∧W.cell? ⟨b0,3,none⟩=some (.int .i64 E.pol.permits)∧W.cell? ⟨b1,0,none⟩=some (.int .i64 c.pol)∧W.cell? ⟨b1,1,none⟩=some (.slice ka c.key.length kc)∧W.cell? ⟨b1,2,none⟩=some (.int .i64 c.tat)∧W.cell? ⟨b1,3,none⟩=some (.slice ha c.held.length hc)∧W.cell? ⟨b2,0,none⟩=some (P E.x)∧W.cell? ⟨E.x,3,none⟩=some (.int .i64 x.call.n):=fun W hb=>⟨cell_lt HLt.out.1 hb hs2.1,cell_lt HLt.out.2.1 hb hs2.2.1,cell_lt HLt.out.2.2.1 hb hs2.2.2.1,cell_lt HLt.out.2.2.2.1 hb hs2.2.2.2.1,cell_lt HLt.out.2.2.2.2.1 hb hs2.2.2.2.2.1,cell_lt HLt.out.2.2.2.2.2.1 hb hs2.2.2.2.2.2.1,cell_lt HLt.out.2.2.2.2.2.2.1 hb hs2.2.2.2.2.2.2.1,cell_lt HLt.out.2.2.2.2.2.2.2.1 hb hs2.2.2.2.2.2.2.2.1,cell_lt HLt.out.2.2.2.2.2.2.2.2.1 hb hs2.2.2.2.2.2.2.2.2.1,cell_lt HLt.out.2.2.2.2.2.2.2.2.2 hb hs2.2.2.2.2.2.2.2.2.2⟩;have hsk:=hs2;have hsz:=hf.size;(try (refine (have z1:Bx w1 (u.heap.size) 35 #[.int .i64 0,.bool false,.int .i64 0,.int .i64 0,.int .i64 0,.int .i64 0]:= ?_;?_);· (refine Bx.keep hfW ?_ rfl;(repeat (first|with_reducible assumption|((with_reducible apply Bx.newq');(first|simp<;>omega|omega))|(with_reducible first|apply Bx.alc|apply Bx.dr|apply Bx.sc0|apply Bx.set4|apply Bx.set6)|((with_reducible apply Bx.sne);(first|simp<;>omega|omega))));done)));(try have zc1:=cells6 z1);(try have zf1:=free6 z1);(try have zl1:=z1.lt);(try (refine (have z2:Bx w1 (u.heap.size) 100 #[.int .i64 0,.slice none 0 0,.int .i64 0,.slice none 0 0]:= ?_;?_);· (refine Bx.keep hfW ?_ rfl;(repeat (first|with_reducible assumption|((with_reducible apply Bx.newq');(first|simp<;>omega|omega))|(with_reducible first|apply Bx.alc|apply Bx.dr|apply Bx.sc0|apply Bx.set4|apply Bx.set6)|((with_reducible apply Bx.sne);(first|simp<;>omega|omega))));done)));(try have zc2:=cells4 z2);(try have zf2:=free4 z2);(try have zl2:=z2.lt);(try (refine (have z3:Bx w1 (u.heap.size+1) 35 #[.int .i64 0,.bool false,.int .i64 0,.int .i64 0,.int .i64 0,.int .i64 0]:= ?_;?_);· (refine Bx.keep hfW ?_ rfl;(repeat (first|with_reducible assumption|((with_reducible apply Bx.newq');(first|simp<;>omega|omega))|(with_reducible first|apply Bx.alc|apply Bx.dr|apply Bx.sc0|apply Bx.set4|apply Bx.set6)|((with_reducible apply Bx.sne);(first|simp<;>omega|omega))));done)));(try have zc3:=cells6 z3);(try have zf3:=free6 z3);(try have zl3:=z3.lt);(try (refine (have z4:Bx w1 (u.heap.size+1) 100 #[.int .i64 0,.slice none 0 0,.int .i64 0,.slice none 0 0]:= ?_;?_);· (refine Bx.keep hfW ?_ rfl;(repeat (first|with_reducible assumption|((with_reducible apply Bx.newq');(first|simp<;>omega|omega))|(with_reducible first|apply Bx.alc|apply Bx.dr|apply Bx.sc0|apply Bx.set4|apply Bx.set6)|((with_reducible apply Bx.sne);(first|simp<;>omega|omega))));done)));(try have zc4:=cells4 z4);(try have zf4:=free4 z4);(try have zl4:=z4.lt);have hl02:=HL0.out.keep hf rfl;have HW2:=Lib.hid hw2;have Hf:=Lib.hid hf;have HLb0:=Lib.hid hl02;clear hw2 hf hfW hbW hs2 hno hl02)|(go_at_call 135;(refine (Ka.out _ (H.out.2.2.2.2.2.2.2.1.keep (HW2.out.later (by (repeat (first|(with_reducible first|exact RowKit.Below.refl _ _|assumption|refine RowKit.Below.drew ?_)|((with_reducible first|refine belAlloc ?_ ?_|refine belSet ?_ ?_);(first|simp<;>omega|omega)))))).fr) (H.out.2.2.2.2.2.2.2.2.keep (HW2.out.later (by (repeat (first|(with_reducible first|exact RowKit.Below.refl _ _|assumption|refine RowKit.Below.drew ?_)|((with_reducible first|refine belAlloc ?_ ?_|refine belSet ?_ ?_);(first|simp<;>omega|omega)))))).fr)).mono ?_);rintro e wp ⟨rfl,hcok,hb⟩;have hbW:=belOfB (u:=w1) hb (by (repeat (first|(with_reducible first|exact RowKit.Below.refl _ _|assumption|refine RowKit.Below.drew ?_)|((with_reducible first|refine belAlloc ?_ ?_|refine belSet ?_ ?_);(first|simp<;>omega|omega)))));have hbu:=hbW.trans (hb.mono hbW.size);have hw2:=HW2.out.later hbu;have hf:=Hf.out.below HW2.out.st.below.2.2.2 hbu;have hfW:Fr B [] _ wp:=Fr.of_below (Nat.le_trans HW2.out.st.below.2.2.2 hbW.size) hb;have n3:=Noted.later n2 hbu;have Hcok:=Lib.hid hcok;clear hcok;have hs2:=HS.out _ wp hw2 hf;have hSb: ∀W:World,Below u.heap.size wp W→W.cell? ⟨b0,0,none⟩=some (.int .u8 (E.pol.kind:Nat))∧W.cell? ⟨b0,1,none⟩=some (.int .i64 E.pol.T)∧W.cell? ⟨b0,2,none⟩=some (.int .i64 E.pol.tau)∧W.cell? ⟨b0,3,none⟩=some (.int .i64 E.pol.permits)∧W.cell? ⟨b1,0,none⟩=some (.int .i64 c.pol)∧W.cell? ⟨b1,1,none⟩=some (.slice ka c.key.length kc)∧W.cell? ⟨b1,2,none⟩=some (.int .i64 c.tat)∧W.cell? ⟨b1,3,none⟩=some (.slice ha c.held.length hc)∧W.cell? ⟨b2,0,none⟩=some (P E.x)∧W.cell? ⟨E.x,3,none⟩=some (.int .i64 x.call.n):=fun W hb=>⟨cell_lt HLt.out.1 hb hs2.1,cell_lt HLt.out.2.1 hb hs2.2.1,cell_lt HLt.out.2.2.1 hb hs2.2.2.1,cell_lt HLt.out.2.2.2.1 hb hs2.2.2.2.1,cell_lt HLt.out.2.2.2.2.1 hb hs2.2.2.2.2.1,cell_lt HLt.out.2.2.2.2.2.1 hb hs2.2.2.2.2.2.1,cell_lt HLt.out.2.2.2.2.2.2.1 hb hs2.2.2.2.2.2.2.1,cell_lt HLt.out.2.2.2.2.2.2.2.1 hb hs2.2.2.2.2.2.2.2.1,cell_lt HLt.out.2.2.2.2.2.2.2.2.1 hb hs2.2.2.2.2.2.2.2.2.1,cell_lt HLt.out.2.2.2.2.2.2.2.2.2 hb hs2.2.2.2.2.2.2.2.2.2⟩;have hsk:=hs2;have hsz:=hf.size;(try (refine (have z1:Bx wp (u.heap.size) 35 #[.int .i64 0,.bool false,.int .i64 0,.int .i64 0,.int .i64 0,.int .i64 0]:= ?_;?_);· (refine Bx.keep hfW ?_ rfl;(repeat (first|with_reducible assumption|((with_reducible apply Bx.newq');(first|simp<;>omega|omega))|(with_reducible first|apply Bx.alc|apply Bx.dr|apply Bx.sc0|apply Bx.set4|apply Bx.set6)|((with_reducible apply Bx.sne);(first|simp<;>omega|omega))));done)));(try have zc1:=cells6 z1);(try have zf1:=free6 z1);(try have zl1:=z1.lt);(try (refine (have z2:Bx wp (u.heap.size) 100 #[.int .i64 0,.slice none 0 0,.int .i64 0,.slice none 0 0]:= ?_;?_);· (refine Bx.keep hfW ?_ rfl;(repeat (first|with_reducible assumption|((with_reducible apply Bx.newq');(first|simp<;>omega|omega))|(with_reducible first|apply Bx.alc|apply Bx.dr|apply Bx.sc0|apply Bx.set4|apply Bx.set6)|((with_reducible apply Bx.sne);(first|simp<;>omega|omega))));done)));(try have zc2:=cells4 z2);(try have zf2:=free4 z2);(try have zl2:=z2.lt);(try (refine (have z3:Bx wp (u.heap.size+1) 35 #[.int .i64 0,.bool false,.int .i64 0,.int .i64 0,.int .i64 0,.int .i64 0]:= ?_;?_);· (refine Bx.keep hfW ?_ rfl;(repeat (first|with_reducible assumption|((with_reducible apply Bx.newq');(first|simp<;>omega|omega))|(with_reducible first|apply Bx.alc|apply Bx.dr|apply Bx.sc0|apply Bx.set4|apply Bx.set6)|((with_reducible apply Bx.sne);(first|simp<;>omega|omega))));done)));(try have zc3:=cells6 z3);(try have zf3:=free6 z3);(try have zl3:=z3.lt);(try (refine (have z4:Bx wp (u.heap.size+1) 100 #[.int .i64 0,.slice none 0 0,.int .i64 0,.slice none 0 0]:= ?_;?_);· (refine Bx.keep hfW ?_ rfl;(repeat (first|with_reducible assumption|((with_reducible apply Bx.newq');(first|simp<;>omega|omega))|(with_reducible first|apply Bx.alc|apply Bx.dr|apply Bx.sc0|apply Bx.set4|apply Bx.set6)|((with_reducible apply Bx.sne);(first|simp<;>omega|omega))));done)));(try have zc4:=cells4 z4);(try have zf4:=free4 z4);(try have zl4:=z4.lt);(try (refine (have z5:Bx wp (w1.heap.size) 35 #[.int .i64 0,.bool false,.int .i64 0,.int .i64 0,.int .i64 0,.int .i64 0]:= ?_;?_);· (refine Bx.keep hfW ?_ rfl;(repeat (first|with_reducible assumption|((with_reducible apply Bx.newq');(first|simp<;>omega|omega))|(with_reducible first|apply Bx.alc|apply Bx.dr|apply Bx.sc0|apply Bx.set4|apply Bx.set6)|((with_reducible apply Bx.sne);(first|simp<;>omega|omega))));done)));(try have zc5:=cells6 z5);(try have zf5:=free6 z5);(try have zl5:=z5.lt);(try (refine (have z6:Bx wp (w1.heap.size) 100 #[.int .i64 0,.slice none 0 0,.int .i64 0,.slice none 0 0]:= ?_;?_);· (refine Bx.keep hfW ?_ rfl;(repeat (first|with_reducible assumption|((with_reducible apply Bx.newq');(first|simp<;>omega|omega))|(with_reducible first|apply Bx.alc|apply Bx.dr|apply Bx.sc0|apply Bx.set4|apply Bx.set6)|((with_reducible apply Bx.sne);(first|simp<;>omega|omega))));done)));(try have zc6:=cells4 z6);(try have zf6:=free4 z6);(try have zl6:=z6.lt);(try (refine (have z7:Bx wp (w1.heap.size+1) 35 #[.int .i64 0,.bool false,.int .i64 0,.int .i64 0,.int .i64 0,.int .i64 0]:= ?_;?_);· (refine Bx.keep hfW ?_ rfl;(repeat (first|with_reducible assumption|((with_reducible apply Bx.newq');(first|simp<;>omega|omega))|(with_reducible first|apply Bx.alc|apply Bx.dr|apply Bx.sc0|apply Bx.set4|apply Bx.set6)|((with_reducible apply Bx.sne);(first|simp<;>omega|omega))));done)));(try have zc7:=cells6 z7);(try have zf7:=free6 z7);(try have zl7:=z7.lt);(try (refine (have z8:Bx wp (w1.heap.size+1) 100 #[.int .i64 0,.slice none 0 0,.int .i64 0,.slice none 0 0]:= ?_;?_);· (refine Bx.keep hfW ?_ rfl;(repeat (first|with_reducible assumption|((with_reducible apply Bx.newq');(first|simp<;>omega|omega))|(with_reducible first|apply Bx.alc|apply Bx.dr|apply Bx.sc0|apply Bx.set4|apply Bx.set6)|((with_reducible apply Bx.sne);(first|simp<;>omega|omega))));done)));(try have zc8:=cells4 z8);(try have zf8:=free4 z8);(try have zl8:=z8.lt);have hl02:=HL0.out.keep hf rfl;have HW2:=Lib.hid hw2;have Hf:=Lib.hid hf;have HLb0:=Lib.hid hl02;clear hw2 hf hfW hbW hs2 hb hbu hl02)))
   all_goals
     go_wp2_with fail
     go_meet
     refine⟨_,_,rfl,rfl,?_,?_,?_,Hcok.out⟩
     · (repeat (first|(with_reducible first|assumption|refine Noted.drew ?_|refine Noted.alc ?_)|((with_reducible apply Noted.sv6_reply);((first|simp<;>omega|omega));(focus ((repeat (first|with_reducible assumption|((with_reducible apply Bx.newq');(first|simp<;>omega|omega))|(with_reducible first|apply Bx.alc|apply Bx.dr|apply Bx.sc0|apply Bx.set4|apply Bx.set6)|((with_reducible apply Bx.sne);(first|simp<;>omega|omega))));done)))|((with_reducible apply Noted.sv4_cell);((first|simp<;>omega|omega));(focus ((repeat (first|with_reducible assumption|((with_reducible apply Bx.newq');(first|simp<;>omega|omega))|(with_reducible first|apply Bx.alc|apply Bx.dr|apply Bx.sc0|apply Bx.set4|apply Bx.set6)|((with_reducible apply Bx.sne);(first|simp<;>omega|omega))));done)))))
     · (repeat (first|with_reducible assumption|((with_reducible apply Bx.newq');(first|simp<;>omega|omega))|(with_reducible first|apply Bx.alc|apply Bx.dr|apply Bx.sc0|apply Bx.set4|apply Bx.set6)|((with_reducible apply Bx.sne);(first|simp<;>omega|omega))))
     · (repeat (first|with_reducible assumption|((with_reducible apply Bx.newq');(first|simp<;>omega|omega))|(with_reducible first|apply Bx.alc|apply Bx.dr|apply Bx.sc0|apply Bx.set4|apply Bx.set6)|((with_reducible apply Bx.sne);(first|simp<;>omega|omega))))
 case rest=>
   obtain⟨q8,q9,rfl,rfl,hno,z8,z9,hcok⟩:=hcut
   have hf:=(hno.acc HW.out.st).2
   have hw:=HW.out.noted hno
   have hl0:=HL0.out.keep hf rfl
   obtain⟨y0,y1,y2,y3,y4,y5⟩:=cells6 z8
   obtain⟨k0,k1,k2,k3⟩:=cells4 z9
   have d2:=(H.out.2.2.1.keep hw.fr rfl).at0
   obtain⟨f0,f1,f2⟩:wc.cell? ⟨b3,0,none⟩=some (.int .i64 (f.word:Nat))∧wc.cell? ⟨b3,1,none⟩=some (.int .u64 (f.v:Nat))∧wc.cell? ⟨b3,2,none⟩=some (.slice fa fn fc):=⟨(H.out.2.2.2.1.keep hw.fr rfl).cell 0,(H.out.2.2.2.1.keep hw.fr rfl).cell 1,(H.out.2.2.2.1.keep hw.fr rfl).cell 2⟩
   have d4:=(H.out.2.2.2.2.1.keep hw.fr rfl).at0
   have d5:=(H.out.2.2.2.2.2.1.keep hw.fr rfl).at0
   have xn:=hw.call.c3
   have hpo:PutOk f at_ there {c with tat:=dt }:=⟨hcok,Hput.out.place,Hput.out.there_⟩
   have Kp:=Lib.hid (put_any B E x m.touch f at_ there {c with tat:=dt } ⟨0,dg,dl,dw,0,m.clock⟩ fa fn fc _ _ wc hw.st hw.call (H.out.2.2.2.2.2.2.1.keep hw.fr) (H.out.2.2.2.2.2.2.2.1.keep hw.fr) (H.out.2.2.2.2.2.2.2.2.keep hw.fr) hpo)
   have Kl:=Lib.hid (leave_any B E x m.touch ⟨0,dg,dl,dw,0,m.clock⟩ wc hw.st hw.call)
   clear HW HL0 HSa HS HLt
   have HW:=Lib.hid hw;have HL0:=Lib.hid hl0
   clear hno hf hw hl0 z8 z9 hcok hpo Kn Ka
   cases dg with
   |false=>
     have hx:=Hx.out
     rw[if_pos (.inl rfl)]at hx
     clear Hx
     have Hx:=Lib.hid hx
     clear hx
     go_wp2_with (go_at_call 136;(refine (Kl.out).mono ?_);rintro e w3 h;obtain⟨v,d,a,rfl,ha⟩:=Ans.of h;have hr3:=HL0.out.keep ha.fr rfl;obtain⟨r0,r1,r2,r3,r4,r5,r6⟩:=res_cells hr3;obtain⟨f0,f1,f2,f3,f4,f5,f6⟩:=res_free hr3;have Hr3:=Lib.hid hr3;have Ha:=Lib.hid ha;clear hr3 ha h)
     rw[Hx.out]
     exact bodyPost_ret (v:= .tuple #[v,.agg (resA d a)]) (by simp [results,Tryz.results134,go_sem,r0,r1,r2,r3,r4,r5,r6]) rfl ((Ha.out.pre HW.out.fr).store Hr3.out (Nat.le_refl _) HB0.out).ores
   |true=>
     by_cases hn0:x.call.n=0
     · have hx:=Hx.out
       rw[if_pos (.inr hn0)]at hx
       clear Hx
       have Hx:=Lib.hid hx
       clear hx
       go_wp2_with (go_at_call 136;(refine (Kl.out).mono ?_);rintro e w3 h;obtain⟨v,d,a,rfl,ha⟩:=Ans.of h;have hr3:=HL0.out.keep ha.fr rfl;obtain⟨r0,r1,r2,r3,r4,r5,r6⟩:=res_cells hr3;obtain⟨f0,f1,f2,f3,f4,f5,f6⟩:=res_free hr3;have Hr3:=Lib.hid hr3;have Ha:=Lib.hid ha;clear hr3 ha h)
       rw[Hx.out]
       exact bodyPost_ret (v:= .tuple #[v,.agg (resA d a)]) (by simp [results,Tryz.results134,go_sem,r0,r1,r2,r3,r4,r5,r6]) rfl ((Ha.out.pre HW.out.fr).store Hr3.out (Nat.le_refl _) HB0.out).ores
     · have hx:=Hx.out
       rw[if_neg (by simp [hn0])]at hx
       clear Hx
       have Hx:=Lib.hid hx
       clear hx
       go_wp2_with (first|(go_at_call 104;(refine (Kp.out).mono ?_);rintro e w2 ⟨v,rfl,hk,hb⟩;have hr2:=HL0.out.keep (fr0 hb) rfl;have hw2:=HW.out.later hb;have Hk:=Lib.hid hk;have Hr2:=Lib.hid hr2;have HW2:=Lib.hid hw2;clear hk hr2 hw2 hb)|(go_at_call 63;(refine (con_any _ _).mono ?_);rintro e w3 ⟨rfl,hb⟩;have hr3:=Hr2.out.keep (fr0 hb) rfl;have hw3:=HW2.out.later hb;have hk3:=Hk.out.keep (fr0 hb);obtain⟨r0,r1,r2,r3,r4,r5,r6⟩:=res_cells hr3;obtain⟨f0,f1,f2,f3,f4,f5,f6⟩:=res_free hr3;have Hr3:=Lib.hid hr3;have HW3:=Lib.hid hw3;have Hk3:=Lib.hid hk3;clear hr3 hw3 hk3 hb))
       rw[Hx.out]
       exact bodyPost_ret (v:= .tuple #[v,.agg (resA false (err 0))]) (by simp [results,Tryz.results134,go_sem,r0,r1,r2,r3,r4,r5,r6]) rfl ((Ans.more HW3.out Hk3.out).store Hr3.out (Nat.le_refl _) HB0.out).ores
end
end Go.Proofs.YtemnhpdjoimjbaaGreatDoor
