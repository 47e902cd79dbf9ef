import Derived.Test.YtemnhpdjoimjbaaGreatDoorTw15
import Derived.Test.YtemnhpdjoimjbaaGreatDoorTw17
namespace Go.Proofs.YtemnhpdjoimjbaaGreatDoor
open Go.RowKit Top
set_option linter.unusedVariables false
variable (Bl : Top.Below)
set_option maxHeartbeats 1000000 in
set_option maxRecDepth 100000 in
theorem step_enter (hT:ThenSpec Bl) (B:Nat) (E:Env) (x:Live) (m:Mem) (sum word:Nat) (t:Then) (v:Value) (w:World) (hk:KontAt w E v (.enter sum word t)) (hg:TOk E x t) (hs:St w B E.A m) (hc:CallAt w E x) (ok:E.Ok m) (hi:word<34):
   ∃f ps,v= .func (.func f) #[] ps∧Enters f∧Calls Tryz.prog f ps w (ORes w B E (stepF Bl E.A.list E.A.room (.enter sum word t) x m)):=by
 obtain⟨b0,b1,b2,b3,b4,tv,rfl,h0,h1,h2,h3,h4,ht⟩:=hk
 refine⟨_,_,rfl,enters_of Tryz.func152 (by kernel_rfl) rfl,?_⟩
 obtain⟨tf,tps,rfl⟩:=ht.func
 have Kl:=Lib.hid (fun a n c W h hh=>bload_at B E.A m E.who word a n c W h ok.who0 ok.who1 hi ok.count hh)
 have W0:=Lib.hid (Was.start hs hc)
 have HB0:=Lib.hid hs.below.2.2.2
 have Hlt:=Lib.hid (hs.wordlt word)
 have H:=Lib.hid (And.intro h0 (And.intro h1 (And.intro h2 (And.intro h3 (And.intro h4 ht)))))
 have Hi:=Lib.hid hi;have Hg:=Lib.hid hg
 have Hx:Hid (stepF Bl E.A.list E.A.room (.enter sum word t) x m=enteredF Bl E.A.list E.A.room sum word (m.word word) (m.hold word) t x m.touch):=rfl
 clear hs hc ok h0 h1 h2 h3 h4 ht hi hg
 go_enter Tryz.func152,Tryz.ntmps152
 go_wp2_with fail
 refine wp_name (fun u=>Was w B E x (m) u∧Bx u w.heap.size 37 res0) ⟨W0.out.later (below_allocs [_] w),bx_allocs w [_] 0 rfl⟩ ?_
 rintro u ⟨hw,hl0⟩
 obtain⟨ha,hn,hc,hh,hcs⟩:=hold_cell hw.st Hi.out
 have Hh:Hid (∀W,Below u.heap.size u W→W.cell? ⟨E.A.holds,word,none⟩=some (.slice ha hn hc)):=fun W hb=>cell_later hb hh
 have Hcs:=Lib.hid hcs;clear hh hcs
 have HW:=Lib.hid hw
 have HL0:=Lib.hid hl0
 have HS:Hid (∀(mm:Mem) (W:World),Was w B E x mm W→Fr B [] u W→W.cell? ⟨b0,0,none⟩=some (P E.A.lanes)∧W.cell? ⟨b1,0,none⟩=some (.int .i64 E.who)∧W.cell? ⟨b2,0,none⟩=some (.int .i64 (word:Nat))∧W.cell? ⟨E.A.lanes,0,none⟩=some (P E.A.board)):=fun mm W hw hf=>⟨(H.out.1.keep hw.fr rfl).cell 0,(H.out.2.1.keep hw.fr rfl).cell 0,(H.out.2.2.1.keep hw.fr rfl).cell 0,hw.st.lanes.cell 0⟩
 have HSa:Hid (∀W:World,Below u.heap.size u W→W.cell? ⟨b0,0,none⟩=some (P E.A.lanes)∧W.cell? ⟨b1,0,none⟩=some (.int .i64 E.who)∧W.cell? ⟨b2,0,none⟩=some (.int .i64 (word:Nat))∧W.cell? ⟨E.A.lanes,0,none⟩=some (P E.A.board)):=fun W hb=>HS.out _ W (HW.out.later hb) (Fr.of_below HW.out.st.below.2.2.2 hb)
 have HLt:Hid (b0<u.heap.size∧b1<u.heap.size∧b2<u.heap.size∧E.A.lanes<u.heap.size):=⟨(H.out.1.keep HW.out.fr rfl).lt,(H.out.2.1.keep HW.out.fr rfl).lt,(H.out.2.2.1.keep HW.out.fr rfl).lt,HW.out.st.lanes.lt⟩
 clear hw hl0
 go_region_held3 (fun w'=>w'.cell? ⟨b0,0,none⟩=some (P E.A.lanes)∧w'.cell? ⟨b1,0,none⟩=some (.int .i64 E.who)∧w'.cell? ⟨b2,0,none⟩=some (.int .i64 (word:Nat))∧w'.cell? ⟨E.A.lanes,0,none⟩=some (P E.A.board)) (first|(refine HSa.out _ ?_;(repeat (first|(with_reducible first|exact RowKit.Below.refl _ _|assumption|refine RowKit.Below.drew ?_)|((with_reducible first|refine belAlloc ?_ ?_|refine belSet ?_ ?_);(first|simp<;>omega|omega))));done)|(refine hSb _ ?_;(repeat (first|(with_reducible first|exact RowKit.Below.refl _ _|assumption|refine RowKit.Below.drew ?_)|((with_reducible first|refine belAlloc ?_ ?_|refine belSet ?_ ?_);(first|simp<;>omega|omega))));done)) ((first|(go_at_call 83;(refine (Kl.out _ _ _ _ (HW.out.later (by (repeat (first|(with_reducible first|exact RowKit.Below.refl _ _|assumption|refine RowKit.Below.drew ?_)|((with_reducible first|refine belAlloc ?_ ?_|refine belSet ?_ ?_);(first|simp<;>omega|omega)))))).st (Hh.out _ (by (repeat (first|(with_reducible first|exact RowKit.Below.refl _ _|assumption|refine RowKit.Below.drew ?_)|((with_reducible first|refine belAlloc ?_ ?_|refine belSet ?_ ?_);(first|simp<;>omega|omega))))))).mono ?_);rintro e w1 ⟨rfl,hno⟩;have hbW:=belOfN (u:=u) hno (by (repeat (first|(with_reducible first|exact RowKit.Below.refl _ _|assumption|refine RowKit.Below.drew ?_)|((with_reducible first|refine belAlloc ?_ ?_|refine belSet ?_ ?_);(first|simp<;>omega|omega)))));have n2:=hno.pre HW.out.st hbW;have hw2:=HW.out.noted n2;have hf:=(n2.acc HW.out.st).2;have hfW:=(hno.acc (HW.out.later hbW).st).2;have hs2:=HS.out _ w1 hw2 hf;have hSb: ∀W:World,Below u.heap.size w1 W→W.cell? ⟨b0,0,none⟩=some (P E.A.lanes)∧W.cell? ⟨b1,0,none⟩=some (.int .i64 E.who)∧W.cell? ⟨b2,0,none⟩=some (.int .i64 (word:Nat))∧W.cell? ⟨E.A.lanes,0,none⟩=some (P E.A.board):=fun W hb=>⟨cell_lt HLt.out.1 hb hs2.1,cell_lt HLt.out.2.1 hb hs2.2.1,cell_lt HLt.out.2.2.1 hb hs2.2.2.1,cell_lt HLt.out.2.2.2 hb hs2.2.2.2⟩;have hsk:=hs2;have hsz:=hf.size;have hl02:=HL0.out.keep hf rfl;have HW2:=Lib.hid hw2;have Hf:=Lib.hid hf;have HLb0:=Lib.hid hl02;clear hw2 hf hfW hbW hs2 hno hl02)))
 have hcs:=Hcs.out.keep Hf.out
 have HW:=HW2;have HL0:=HLb0
 clear HW2 HLb0
 have Kt:=Lib.hid (entered_any Bl hT B E x m.touch sum word (m.word word) t (.func tf #[] tps) ha hn hc (m.hold word) w1 (H.out.2.2.2.2.2.keep HW.out.fr) Hg.out HW.out.st HW.out.call hcs Hi.out Hlt.out)
 have c0:=(H.out.1.keep HW.out.fr rfl).at0;have c1:=(H.out.2.1.keep HW.out.fr rfl).at0;have c2:=(H.out.2.2.1.keep HW.out.fr rfl).at0;have c3:=(H.out.2.2.2.1.keep HW.out.fr rfl).at0;have c4:=(H.out.2.2.2.2.1.keep HW.out.fr rfl).at0
 clear HSa HS HLt hSb n2 hcs Kl Hh Hcs
 go_wp2_with (go_at_call 127;(refine (Kt.out).mono ?_);rintro e w3 h;obtain⟨v,d,a,rfl,ha⟩:=Ans.of h;have hr3:=HL0.out.keep ha.fr rfl;obtain⟨r0,r1,r2,r3,r4,r5,r6⟩:=res_cells hr3;obtain⟨f0,f1,f2,f3,f4,f5,f6⟩:=res_free hr3;have Hr3:=Lib.hid hr3;have Ha:=Lib.hid ha;clear hr3 ha h)
 rw[Hx.out]
 exact bodyPost_ret (v:= .tuple #[v,.agg (resA d a)]) (by simp [results,Tryz.results152,go_sem,r0,r1,r2,r3,r4,r5,r6]) rfl ((Ha.out.pre HW.out.fr).store Hr3.out (Nat.le_refl _) HB0.out).ores
set_option maxHeartbeats 1000000 in
set_option maxRecDepth 100000 in
theorem step_find (B:Nat) (E:Env) (x:Live) (m:Mem) (sum:Nat) (t:Then) (v:Value) (w:World) (hk:KontAt w E v (.find sum t)) (hs:St w B E.A m) (hc:CallAt w E x) (ok:E.Ok m) (h8:m.word 0≤8):
   ∃f ps,v= .func (.func f) #[] ps∧Enters f∧Calls Tryz.prog f ps w (ORes w B E (stepF Bl E.A.list E.A.room (.find sum t) x m)):=by
 obtain⟨b0,b1,b2,b3,tv,rfl,h0,h1,h2,h3,ht⟩:=hk
 refine⟨_,_,rfl,enters_of Tryz.func123 (by kernel_rfl) rfl,?_⟩
 obtain⟨tf,tps,rfl⟩:=ht.func
 have Kl:=Lib.hid (fun a n c W h hh=>bload_at B E.A m E.who 0 a n c W h ok.who0 ok.who1 (by decide) ok.count hh)
 have W0:=Lib.hid (Was.start hs hc)
 have H:=Lib.hid (And.intro h0 (And.intro h1 (And.intro h2 (And.intro h3 ht))))
 obtain⟨lv,hlv⟩: ∃lv,m.word 0/2=lv:=⟨_,rfl⟩
 have hlv5:lv≤4:=by omega
 have hq:wrap64 (IntKind.u64.wrap ((m.word 0:Nat)/2:Int))=(lv:Int):=by
   rw[IntKind.wrap_u64];unfold wrap64;omega
 have Hlv:=Lib.hid hlv;have Hlv5:=Lib.hid hlv5;have Hq:=Lib.hid hq
 clear hs hc ok h0 h1 h2 h3 ht h8 hlv hlv5 hq
 go_enter Tryz.func123,Tryz.ntmps123
 go_wp2_with fail
 refine wp_name (fun u=>Was w B E x (m) u∧Bx u w.heap.size 37 res0∧Bx u (w.heap.size+1) 37 res0) ⟨W0.out.later (below_allocs [_,_] w),bx_allocs w [_,_] 0 rfl,bx_allocs w [_,_] 1 rfl⟩ ?_
 rintro u ⟨hw,hl0,hl1⟩
 obtain⟨ha,hn,hc,hh,hcs⟩:=hold_cell hw.st (i:=0) (by decide)
 have Hh:Hid (∀W,Below u.heap.size u W→W.cell? ⟨E.A.holds,0,none⟩=some (.slice ha hn hc)):=fun W hb=>cell_later hb hh
 have Hcs:=Lib.hid hcs;clear hh hcs
 have HW:=Lib.hid hw
 have HL0:=Lib.hid hl0
 have HL1:=Lib.hid hl1
 have HS:Hid (∀(mm:Mem) (W:World),Was w B E x mm W→Fr B [] u W→W.cell? ⟨b0,0,none⟩=some (P E.A.lanes)∧W.cell? ⟨b1,0,none⟩=some (.int .i64 E.who)∧W.cell? ⟨E.A.lanes,0,none⟩=some (P E.A.board)):=fun mm W hw hf=>⟨(H.out.1.keep hw.fr rfl).cell 0,(H.out.2.1.keep hw.fr rfl).cell 0,hw.st.lanes.cell 0⟩
 have HSa:Hid (∀W:World,Below u.heap.size u W→W.cell? ⟨b0,0,none⟩=some (P E.A.lanes)∧W.cell? ⟨b1,0,none⟩=some (.int .i64 E.who)∧W.cell? ⟨E.A.lanes,0,none⟩=some (P E.A.board)):=fun W hb=>HS.out _ W (HW.out.later hb) (Fr.of_below HW.out.st.below.2.2.2 hb)
 have HLt:Hid (b0<u.heap.size∧b1<u.heap.size∧E.A.lanes<u.heap.size):=⟨(H.out.1.keep HW.out.fr rfl).lt,(H.out.2.1.keep HW.out.fr rfl).lt,HW.out.st.lanes.lt⟩
 clear hw hl0 hl1
 go_region_held3 (fun w'=>w'.cell? ⟨b0,0,none⟩=some (P E.A.lanes)∧w'.cell? ⟨b1,0,none⟩=some (.int .i64 E.who)∧w'.cell? ⟨E.A.lanes,0,none⟩=some (P E.A.board)) (first|(refine HSa.out _ ?_;(repeat (first|(with_reducible first|exact RowKit.Below.refl _ _|assumption|refine RowKit.Below.drew ?_)|((with_reducible first|refine belAlloc ?_ ?_|refine belSet ?_ ?_);(first|simp<;>omega|omega))));done)|(refine hSb _ ?_;(repeat (first|(with_reducible first|exact RowKit.Below.refl _ _|assumption|refine RowKit.Below.drew ?_)|((with_reducible first|refine belAlloc ?_ ?_|refine belSet ?_ ?_);(first|simp<;>omega|omega))));done)) ((first|(go_at_call 83;(refine (Kl.out _ _ _ _ (HW.out.later (by (repeat (first|(with_reducible first|exact RowKit.Below.refl _ _|assumption|refine RowKit.Below.drew ?_)|((with_reducible first|refine belAlloc ?_ ?_|refine belSet ?_ ?_);(first|simp<;>omega|omega)))))).st (Hh.out _ (by (repeat (first|(with_reducible first|exact RowKit.Below.refl _ _|assumption|refine RowKit.Below.drew ?_)|((with_reducible first|refine belAlloc ?_ ?_|refine belSet ?_ ?_);(first|simp<;>omega|omega))))))).mono ?_);rintro e w1 ⟨rfl,hno⟩;have hbW:=belOfN (u:=u) hno (by (repeat (first|(with_reducible first|exact RowKit.Below.refl _ _|assumption|refine RowKit.Below.drew ?_)|((with_reducible first|refine belAlloc ?_ ?_|refine belSet ?_ ?_);(first|simp<;>omega|omega)))));have n2:=hno.pre HW.out.st hbW;have hw2:=HW.out.noted n2;have hf:=(n2.acc HW.out.st).2;have hfW:=(hno.acc (HW.out.later hbW).st).2;have hs2:=HS.out _ w1 hw2 hf;have hSb: ∀W:World,Below u.heap.size w1 W→W.cell? ⟨b0,0,none⟩=some (P E.A.lanes)∧W.cell? ⟨b1,0,none⟩=some (.int .i64 E.who)∧W.cell? ⟨E.A.lanes,0,none⟩=some (P E.A.board):=fun W hb=>⟨cell_lt HLt.out.1 hb hs2.1,cell_lt HLt.out.2.1 hb hs2.2.1,cell_lt HLt.out.2.2 hb hs2.2.2⟩;have hsk:=hs2;have hsz:=hf.size;have hl02:=HL0.out.keep hf rfl;have hl12:=HL1.out.keep hf rfl;have HW2:=Lib.hid hw2;have Hf:=Lib.hid hf;have HLb0:=Lib.hid hl02;have HLb1:=Lib.hid hl12;clear hw2 hf hfW hbW hs2 hno hl02 hl12)))
 clear HSa HS HLt hSb n2 Kl Hh Hcs HW HL0 HL1 hsz Hf
 by_cases hp:m.word 0%2=0
 · skip
   have hp':((m.word 0:Nat):Int)%2=0:=by omega
   go_wp2_with fail
   rw[Hq.out]
   have hx:stepF Bl E.A.list E.A.room (.find sum t) x m=more (.enter sum (place lv sum) t) x m.touch:=by
     show(if m.word 0%2=0 then _ else _)=_
     rw[if_pos hp,Hlv.out]
   have Hx:=Lib.hid hx
   clear hx hp hp'
   refine wp_name (fun u=>Was w B E x (m.touch) u∧Bx u w.heap.size 37 res0∧Bx u (w.heap.size+1) 37 res0∧Bx u w1.heap.size 3 #[.int .i64 (lv:Nat)]) ⟨HW2.out.later (below_allocs [_] w1),HLb0.out.alloc _,HLb1.out.alloc _,bx_allocs w1 [_] 0 rfl⟩ ?_
   rintro y ⟨hw,hl0,hl1,hl2⟩
   have Kp:=Lib.hid (fun W=>place_any lv sum W (by have:=Hlv5.out;omega))
   have Ke:=Lib.hid (fun W v h=>enter_any E sum (place lv sum) t v W h)
   have HW:=Lib.hid hw
   have HL0:=Lib.hid hl0
   have HL1:=Lib.hid hl1
   have HL2:=Lib.hid hl2
   have HS:Hid (∀(mm:Mem) (W:World),Was w B E x mm W→Fr B [] y W→W.cell? ⟨b0,0,none⟩=some (P E.A.lanes)∧W.cell? ⟨b1,0,none⟩=some (.int .i64 E.who)∧W.cell? ⟨b2,0,none⟩=some (.int .u64 (sum:Nat))∧W.cell? ⟨b3,0,none⟩=some (.func tf #[] tps)∧W.cell? ⟨w1.heap.size,0,none⟩=some (.int .i64 (lv:Nat))∧W.cell? ⟨w.heap.size+1,0,none⟩=some (.bool false)∧W.cell? ⟨w.heap.size+1,1,none⟩=some (.int .i64 0)∧W.cell? ⟨w.heap.size+1,2,none⟩=some (.bool false)∧W.cell? ⟨w.heap.size+1,3,none⟩=some (.int .i64 0)∧W.cell? ⟨w.heap.size+1,4,none⟩=some (.int .i64 0)∧W.cell? ⟨w.heap.size+1,5,none⟩=some (.int .i64 0)∧W.cell? ⟨w.heap.size+1,6,none⟩=some (.int .i64 0)):=fun mm W hw hf=>⟨(H.out.1.keep hw.fr rfl).cell 0,(H.out.2.1.keep hw.fr rfl).cell 0,(H.out.2.2.1.keep hw.fr rfl).cell 0,(H.out.2.2.2.1.keep hw.fr rfl).cell 0,(HL2.out.keep hf rfl).cell 0,(HL1.out.keep hf rfl).cell 0,(HL1.out.keep hf rfl).cell 1,(HL1.out.keep hf rfl).cell 2,(HL1.out.keep hf rfl).cell 3,(HL1.out.keep hf rfl).cell 4,(HL1.out.keep hf rfl).cell 5,(HL1.out.keep hf rfl).cell 6⟩
   have HSa:Hid (∀W:World,Below y.heap.size y W→W.cell? ⟨b0,0,none⟩=some (P E.A.lanes)∧W.cell? ⟨b1,0,none⟩=some (.int .i64 E.who)∧W.cell? ⟨b2,0,none⟩=some (.int .u64 (sum:Nat))∧W.cell? ⟨b3,0,none⟩=some (.func tf #[] tps)∧W.cell? ⟨w1.heap.size,0,none⟩=some (.int .i64 (lv:Nat))∧W.cell? ⟨w.heap.size+1,0,none⟩=some (.bool false)∧W.cell? ⟨w.heap.size+1,1,none⟩=some (.int .i64 0)∧W.cell? ⟨w.heap.size+1,2,none⟩=some (.bool false)∧W.cell? ⟨w.heap.size+1,3,none⟩=some (.int .i64 0)∧W.cell? ⟨w.heap.size+1,4,none⟩=some (.int .i64 0)∧W.cell? ⟨w.heap.size+1,5,none⟩=some (.int .i64 0)∧W.cell? ⟨w.heap.size+1,6,none⟩=some (.int .i64 0)):=fun W hb=>HS.out _ W (HW.out.later hb) (Fr.of_below HW.out.st.below.2.2.2 hb)
   have HLt:Hid (b0<y.heap.size∧b1<y.heap.size∧b2<y.heap.size∧b3<y.heap.size∧w1.heap.size<y.heap.size∧w.heap.size+1<y.heap.size∧w.heap.size+1<y.heap.size∧w.heap.size+1<y.heap.size∧w.heap.size+1<y.heap.size∧w.heap.size+1<y.heap.size∧w.heap.size+1<y.heap.size∧w.heap.size+1<y.heap.size):=⟨(H.out.1.keep HW.out.fr rfl).lt,(H.out.2.1.keep HW.out.fr rfl).lt,(H.out.2.2.1.keep HW.out.fr rfl).lt,(H.out.2.2.2.1.keep HW.out.fr rfl).lt,HL2.out.lt,HL1.out.lt,HL1.out.lt,HL1.out.lt,HL1.out.lt,HL1.out.lt,HL1.out.lt,HL1.out.lt⟩
   clear hw hl0 hl1 hl2
   go_region_held3 (fun w'=>w'.cell? ⟨b0,0,none⟩=some (P E.A.lanes)∧w'.cell? ⟨b1,0,none⟩=some (.int .i64 E.who)∧w'.cell? ⟨b2,0,none⟩=some (.int .u64 (sum:Nat))∧w'.cell? ⟨b3,0,none⟩=some (.func tf #[] tps)∧w'.cell? ⟨w1.heap.size,0,none⟩=some (.int .i64 (lv:Nat))∧w'.cell? ⟨w.heap.size+1,0,none⟩=some (.bool false)∧w'.cell? ⟨w.heap.size+1,1,none⟩=some (.int .i64 0)∧w'.cell? ⟨w.heap.size+1,2,none⟩=some (.bool false)∧w'.cell? ⟨w.heap.size+1,3,none⟩=some (.int .i64 0)∧w'.cell? ⟨w.heap.size+1,4,none⟩=some (.int .i64 0)∧w'.cell? ⟨w.heap.size+1,5,none⟩=some (.int .i64 0)∧w'.cell? ⟨w.heap.size+1,6,none⟩=some (.int .i64 0)) (first|(refine HSa.out _ ?_;(repeat (first|(with_reducible first|exact RowKit.Below.refl _ _|assumption|refine RowKit.Below.drew ?_)|((with_reducible first|refine belAlloc ?_ ?_|refine belSet ?_ ?_);(first|simp<;>omega|omega))));done)|(refine hSb _ ?_;(repeat (first|(with_reducible first|exact RowKit.Below.refl _ _|assumption|refine RowKit.Below.drew ?_)|((with_reducible first|refine belAlloc ?_ ?_|refine belSet ?_ ?_);(first|simp<;>omega|omega))));done)|(simp only[set7_same hres];refine hSb _ ?_;(repeat (first|(with_reducible first|exact RowKit.Below.refl _ _|assumption|refine RowKit.Below.drew ?_)|((with_reducible first|refine belAlloc ?_ ?_|refine belSet ?_ ?_);(first|simp<;>omega|omega))));done)) ((first|(go_at_call 33;(refine (Kp.out _).mono ?_);rintro e w3 ⟨rfl,rfl⟩)|(go_at_call 124;(refine (Ke.out _ _ (H.out.2.2.2.2.keep (HW.out.later (by (repeat (first|(with_reducible first|exact RowKit.Below.refl _ _|assumption|refine RowKit.Below.drew ?_)|((with_reducible first|refine belAlloc ?_ ?_|refine belSet ?_ ?_);(first|simp<;>omega|omega)))))).fr)).mono ?_);rintro e w2 ⟨v,rfl,hk,hb⟩;have hbW:=belOfB (u:=y) hb (by (repeat (first|(with_reducible first|exact RowKit.Below.refl _ _|assumption|refine RowKit.Below.drew ?_)|((with_reducible first|refine belAlloc ?_ ?_|refine belSet ?_ ?_);(first|simp<;>omega|omega)))));have hbu:=hbW.trans (hb.mono hbW.size);have hw2:=HW.out.later hbu;have hf:Fr B [] y w2:=Fr.of_below HW.out.st.below.2.2.2 hbu;have hfW:Fr B [] _ w2:=Fr.of_below (Nat.le_trans HW.out.st.below.2.2.2 hbW.size) hb;have Hk:=Lib.hid hk;clear hk;have hs2:=HS.out _ w2 hw2 hf;have hSb: ∀W:World,Below y.heap.size w2 W→W.cell? ⟨b0,0,none⟩=some (P E.A.lanes)∧W.cell? ⟨b1,0,none⟩=some (.int .i64 E.who)∧W.cell? ⟨b2,0,none⟩=some (.int .u64 (sum:Nat))∧W.cell? ⟨b3,0,none⟩=some (.func tf #[] tps)∧W.cell? ⟨w1.heap.size,0,none⟩=some (.int .i64 (lv:Nat))∧W.cell? ⟨w.heap.size+1,0,none⟩=some (.bool false)∧W.cell? ⟨w.heap.size+1,1,none⟩=some (.int .i64 0)∧W.cell? ⟨w.heap.size+1,2,none⟩=some (.bool false)∧W.cell? ⟨w.heap.size+1,3,none⟩=some (.int .i64 0)∧W.cell? ⟨w.heap.size+1,4,none⟩=some (.int .i64 0)∧W.cell? ⟨w.heap.size+1,5,none⟩=some (.int .i64 0)∧W.cell? ⟨w.heap.size+1,6,none⟩=some (.int .i64 0):=fun W hb=>⟨cell_lt HLt.out.1 hb hs2.1,cell_lt HLt.out.2.1 hb hs2.2.1,cell_lt HLt.out.2.2.1 hb hs2.2.2.1,cell_lt HLt.out.2.2.2.1 hb hs2.2.2.2.1,cell_lt HLt.out.2.2.2.2.1 hb hs2.2.2.2.2.1,cell_lt HLt.out.2.2.2.2.2.1 hb hs2.2.2.2.2.2.1,cell_lt HLt.out.2.2.2.2.2.2.1 hb hs2.2.2.2.2.2.2.1,cell_lt HLt.out.2.2.2.2.2.2.2.1 hb hs2.2.2.2.2.2.2.2.1,cell_lt HLt.out.2.2.2.2.2.2.2.2.1 hb hs2.2.2.2.2.2.2.2.2.1,cell_lt HLt.out.2.2.2.2.2.2.2.2.2.1 hb hs2.2.2.2.2.2.2.2.2.2.1,cell_lt HLt.out.2.2.2.2.2.2.2.2.2.2.1 hb hs2.2.2.2.2.2.2.2.2.2.2.1,cell_lt HLt.out.2.2.2.2.2.2.2.2.2.2.2 hb hs2.2.2.2.2.2.2.2.2.2.2.2⟩;have hsk:=hs2;have hsz:=hf.size;have hl02:=HL0.out.keep hf rfl;have hl12:=HL1.out.keep hf rfl;have hl22:=HL2.out.keep hf rfl;have hres:=hl02;obtain⟨r0,r1,r2,r3,r4,r5,r6⟩:=res_cells hl02;obtain⟨f0,f1,f2,f3,f4,f5,f6⟩:=res_free hl02;have HW2:=Lib.hid hw2;have Hf:=Lib.hid hf;have HLb0:=Lib.hid hl02;have HLb1:=Lib.hid hl12;have HLb2:=Lib.hid hl22;clear hw2 hf hfW hbW hs2 hb hbu hl02 hl12 hl22)))
   all_goals
     rw[set7_same hres]
     go_wp2_with fail
     rw[Hx.out]
     exact bodyPost_ret (v:= .tuple #[v,.agg res0]) (by simp [results,Tryz.results123,go_sem,r0,r1,r2,r3,r4,r5,r6]) rfl ⟨v,false,err 0,rfl,⟨Hk.out,rfl,rfl⟩,HW2.out.call,HW2.out.st,HW2.out.fr⟩
 · skip
   have hp': ¬((m.word 0:Nat):Int)%2=0:=by omega
   go_wp2_with fail
   rw[Hq.out]
   have hx:stepF Bl E.A.list E.A.room (.find sum t) x m=more (.freeze (place lv sum) (.find lv sum t)) x m.touch:=by
     show(if m.word 0%2=0 then _ else _)=_
     rw[if_neg hp,Hlv.out]
   have Hx:=Lib.hid hx
   clear hx hp hp'
   refine wp_name (fun u=>Was w B E x (m.touch) u∧Bx u w.heap.size 37 res0∧Bx u (w.heap.size+1) 37 res0∧Bx u w1.heap.size 3 #[.int .i64 (lv:Nat)]) ⟨HW2.out.later (below_allocs [_] w1),HLb0.out.alloc _,HLb1.out.alloc _,bx_allocs w1 [_] 0 rfl⟩ ?_
   rintro y ⟨hw,hl0,hl1,hl2⟩
   have Kp:=Lib.hid (fun W=>place_any lv sum W (by have:=Hlv5.out;omega))
   have Ke:=Lib.hid (fun W v h=>freeze_any E (place lv sum) (.find lv sum t) v W h)
   have HT:Hid (∀W,Below y.heap.size y W→FThenAt W E (.func (.func 125) #[] #[P b0,P b1,P w1.heap.size,P b2,P b3,P (w.heap.size+1)]) (.find lv sum t)):=fun W hbb=>⟨_,_,_,_,_,_,_,rfl,H.out.1.keep (hw.later hbb).fr rfl,H.out.2.1.keep (hw.later hbb).fr rfl,hl2.keep (fr0 hbb) rfl,H.out.2.2.1.keep (hw.later hbb).fr rfl,H.out.2.2.2.1.keep (hw.later hbb).fr rfl,H.out.2.2.2.2.keep (hw.later hbb).fr,hl1.keep (fr0 hbb) rfl⟩
   have HW:=Lib.hid hw
   have HL0:=Lib.hid hl0
   have HL1:=Lib.hid hl1
   have HL2:=Lib.hid hl2
   have HS:Hid (∀(mm:Mem) (W:World),Was w B E x mm W→Fr B [] y W→W.cell? ⟨b0,0,none⟩=some (P E.A.lanes)∧W.cell? ⟨b1,0,none⟩=some (.int .i64 E.who)∧W.cell? ⟨b2,0,none⟩=some (.int .u64 (sum:Nat))∧W.cell? ⟨w1.heap.size,0,none⟩=some (.int .i64 (lv:Nat))∧W.cell? ⟨w.heap.size+1,0,none⟩=some (.bool false)∧W.cell? ⟨w.heap.size+1,1,none⟩=some (.int .i64 0)∧W.cell? ⟨w.heap.size+1,2,none⟩=some (.bool false)∧W.cell? ⟨w.heap.size+1,3,none⟩=some (.int .i64 0)∧W.cell? ⟨w.heap.size+1,4,none⟩=some (.int .i64 0)∧W.cell? ⟨w.heap.size+1,5,none⟩=some (.int .i64 0)∧W.cell? ⟨w.heap.size+1,6,none⟩=some (.int .i64 0)):=fun mm W hw hf=>⟨(H.out.1.keep hw.fr rfl).cell 0,(H.out.2.1.keep hw.fr rfl).cell 0,(H.out.2.2.1.keep hw.fr rfl).cell 0,(HL2.out.keep hf rfl).cell 0,(HL1.out.keep hf rfl).cell 0,(HL1.out.keep hf rfl).cell 1,(HL1.out.keep hf rfl).cell 2,(HL1.out.keep hf rfl).cell 3,(HL1.out.keep hf rfl).cell 4,(HL1.out.keep hf rfl).cell 5,(HL1.out.keep hf rfl).cell 6⟩
   have HSa:Hid (∀W:World,Below y.heap.size y W→W.cell? ⟨b0,0,none⟩=some (P E.A.lanes)∧W.cell? ⟨b1,0,none⟩=some (.int .i64 E.who)∧W.cell? ⟨b2,0,none⟩=some (.int .u64 (sum:Nat))∧W.cell? ⟨w1.heap.size,0,none⟩=some (.int .i64 (lv:Nat))∧W.cell? ⟨w.heap.size+1,0,none⟩=some (.bool false)∧W.cell? ⟨w.heap.size+1,1,none⟩=some (.int .i64 0)∧W.cell? ⟨w.heap.size+1,2,none⟩=some (.bool false)∧W.cell? ⟨w.heap.size+1,3,none⟩=some (.int .i64 0)∧W.cell? ⟨w.heap.size+1,4,none⟩=some (.int .i64 0)∧W.cell? ⟨w.heap.size+1,5,none⟩=some (.int .i64 0)∧W.cell? ⟨w.heap.size+1,6,none⟩=some (.int .i64 0)):=fun W hb=>HS.out _ W (HW.out.later hb) (Fr.of_below HW.out.st.below.2.2.2 hb)
   have HLt:Hid (b0<y.heap.size∧b1<y.heap.size∧b2<y.heap.size∧w1.heap.size<y.heap.size∧w.heap.size+1<y.heap.size∧w.heap.size+1<y.heap.size∧w.heap.size+1<y.heap.size∧w.heap.size+1<y.heap.size∧w.heap.size+1<y.heap.size∧w.heap.size+1<y.heap.size∧w.heap.size+1<y.heap.size):=⟨(H.out.1.keep HW.out.fr rfl).lt,(H.out.2.1.keep HW.out.fr rfl).lt,(H.out.2.2.1.keep HW.out.fr rfl).lt,HL2.out.lt,HL1.out.lt,HL1.out.lt,HL1.out.lt,HL1.out.lt,HL1.out.lt,HL1.out.lt,HL1.out.lt⟩
   clear hw hl0 hl1 hl2
   go_region_held3 (fun w'=>w'.cell? ⟨b0,0,none⟩=some (P E.A.lanes)∧w'.cell? ⟨b1,0,none⟩=some (.int .i64 E.who)∧w'.cell? ⟨b2,0,none⟩=some (.int .u64 (sum:Nat))∧w'.cell? ⟨w1.heap.size,0,none⟩=some (.int .i64 (lv:Nat))∧w'.cell? ⟨w.heap.size+1,0,none⟩=some (.bool false)∧w'.cell? ⟨w.heap.size+1,1,none⟩=some (.int .i64 0)∧w'.cell? ⟨w.heap.size+1,2,none⟩=some (.bool false)∧w'.cell? ⟨w.heap.size+1,3,none⟩=some (.int .i64 0)∧w'.cell? ⟨w.heap.size+1,4,none⟩=some (.int .i64 0)∧w'.cell? ⟨w.heap.size+1,5,none⟩=some (.int .i64 0)∧w'.cell? ⟨w.heap.size+1,6,none⟩=some (.int .i64 0)) (first|(refine HSa.out _ ?_;(repeat (first|(with_reducible first|exact RowKit.Below.refl _ _|assumption|refine RowKit.Below.drew ?_)|((with_reducible first|refine belAlloc ?_ ?_|refine belSet ?_ ?_);(first|simp<;>omega|omega))));done)|(refine hSb _ ?_;(repeat (first|(with_reducible first|exact RowKit.Below.refl _ _|assumption|refine RowKit.Below.drew ?_)|((with_reducible first|refine belAlloc ?_ ?_|refine belSet ?_ ?_);(first|simp<;>omega|omega))));done)|(simp only[set7_same hres];refine hSb _ ?_;(repeat (first|(with_reducible first|exact RowKit.Below.refl _ _|assumption|refine RowKit.Below.drew ?_)|((with_reducible first|refine belAlloc ?_ ?_|refine belSet ?_ ?_);(first|simp<;>omega|omega))));done)) ((first|(go_at_call 33;(refine (Kp.out _).mono ?_);rintro e w3 ⟨rfl,rfl⟩)|(go_at_call 118;(refine (Ke.out _ _ (HT.out _ (by (repeat (first|(with_reducible first|exact RowKit.Below.refl _ _|assumption|refine RowKit.Below.drew ?_)|((with_reducible first|refine belAlloc ?_ ?_|refine belSet ?_ ?_);(first|simp<;>omega|omega))))))).mono ?_);rintro e w2 ⟨v,rfl,hk,hb⟩;have hbW:=belOfB (u:=y) hb (by (repeat (first|(with_reducible first|exact RowKit.Below.refl _ _|assumption|refine RowKit.Below.drew ?_)|((with_reducible first|refine belAlloc ?_ ?_|refine belSet ?_ ?_);(first|simp<;>omega|omega)))));have hbu:=hbW.trans (hb.mono hbW.size);have hw2:=HW.out.later hbu;have hf:Fr B [] y w2:=Fr.of_below HW.out.st.below.2.2.2 hbu;have hfW:Fr B [] _ w2:=Fr.of_below (Nat.le_trans HW.out.st.below.2.2.2 hbW.size) hb;have Hk:=Lib.hid hk;clear hk;have hs2:=HS.out _ w2 hw2 hf;have hSb: ∀W:World,Below y.heap.size w2 W→W.cell? ⟨b0,0,none⟩=some (P E.A.lanes)∧W.cell? ⟨b1,0,none⟩=some (.int .i64 E.who)∧W.cell? ⟨b2,0,none⟩=some (.int .u64 (sum:Nat))∧W.cell? ⟨w1.heap.size,0,none⟩=some (.int .i64 (lv:Nat))∧W.cell? ⟨w.heap.size+1,0,none⟩=some (.bool false)∧W.cell? ⟨w.heap.size+1,1,none⟩=some (.int .i64 0)∧W.cell? ⟨w.heap.size+1,2,none⟩=some (.bool false)∧W.cell? ⟨w.heap.size+1,3,none⟩=some (.int .i64 0)∧W.cell? ⟨w.heap.size+1,4,none⟩=some (.int .i64 0)∧W.cell? ⟨w.heap.size+1,5,none⟩=some (.int .i64 0)∧W.cell? ⟨w.heap.size+1,6,none⟩=some (.int .i64 0):=fun W hb=>⟨cell_lt HLt.out.1 hb hs2.1,cell_lt HLt.out.2.1 hb hs2.2.1,cell_lt HLt.out.2.2.1 hb hs2.2.2.1,cell_lt HLt.out.2.2.2.1 hb hs2.2.2.2.1,cell_lt HLt.out.2.2.2.2.1 hb hs2.2.2.2.2.1,cell_lt HLt.out.2.2.2.2.2.1 hb hs2.2.2.2.2.2.1,cell_lt HLt.out.2.2.2.2.2.2.1 hb hs2.2.2.2.2.2.2.1,cell_lt HLt.out.2.2.2.2.2.2.2.1 hb hs2.2.2.2.2.2.2.2.1,cell_lt HLt.out.2.2.2.2.2.2.2.2.1 hb hs2.2.2.2.2.2.2.2.2.1,cell_lt HLt.out.2.2.2.2.2.2.2.2.2.1 hb hs2.2.2.2.2.2.2.2.2.2.1,cell_lt HLt.out.2.2.2.2.2.2.2.2.2.2 hb hs2.2.2.2.2.2.2.2.2.2.2⟩;have hsk:=hs2;have hsz:=hf.size;have hl02:=HL0.out.keep hf rfl;have hl12:=HL1.out.keep hf rfl;have hl22:=HL2.out.keep hf rfl;have hres:=hl02;obtain⟨r0,r1,r2,r3,r4,r5,r6⟩:=res_cells hl02;obtain⟨f0,f1,f2,f3,f4,f5,f6⟩:=res_free hl02;have HW2:=Lib.hid hw2;have Hf:=Lib.hid hf;have HLb0:=Lib.hid hl02;have HLb1:=Lib.hid hl12;have HLb2:=Lib.hid hl22;clear hw2 hf hfW hbW hs2 hb hbu hl02 hl12 hl22)))
   all_goals
     rw[set7_same hres]
     go_wp2_with fail
     rw[Hx.out]
     exact bodyPost_ret (v:= .tuple #[v,.agg res0]) (by simp [results,Tryz.results123,go_sem,r0,r1,r2,r3,r4,r5,r6]) rfl ⟨v,false,err 0,rfl,⟨Hk.out,rfl,rfl⟩,HW2.out.call,HW2.out.st,HW2.out.fr⟩
end Go.Proofs.YtemnhpdjoimjbaaGreatDoor
