import Derived.Test.YtemnhpdjoimjbaaGreatDoorTw13
import Derived.Deep.DeepCutAuto
namespace Go.Proofs.YtemnhpdjoimjbaaGreatDoor
open Go.RowKit Top
set_option linter.unusedVariables false
variable (Bl : Top.Below) (list:List Pol) (room:Nat)
set_option maxHeartbeats 1000000 in
set_option maxRecDepth 100000 in
theorem step_freeze (B:Nat) (E:Env) (x:Live) (m:Mem) (word:Nat) (t:FThen) (v:Value) (w:World) (hk:KontAt w E v (.freeze word t)) (hs:St w B E.A m) (hc:CallAt w E x) (ok:E.Ok m) (hi:word<34) (hl:levelOf t≤4) (hm: ∀level i,t= .move level i→i<32):
   ∃f ps,v= .func (.func f) #[] ps∧Calls Tryz.prog f ps w (ORes w B E (stepF Bl list room (.freeze word t) x m)):=by
 obtain⟨b0,b1,b2,b3,tv,rfl,h0,h1,h2,h3,ht⟩:=hk
 refine⟨_,_,rfl,?_⟩
 obtain⟨tf,tps,rfl⟩:=ht.func
 have Kl:=Lib.hid (fun a n c W h hh=>bload_at B E.A m E.who word a n c W h ok.who0 ok.who1 hi ok.count hh)
 have Hi:=Lib.hid hi;have Hl:=Lib.hid hl;have Hm:=Lib.hid hm
 clear hl hm
 have W0:=Lib.hid (Was.start hs hc)
 have H:=Lib.hid (And.intro h0 (And.intro h1 (And.intro h2 (And.intro h3 ht))))
 clear hs hc ok h0 h1 h2 h3 ht
 go_enter Tryz.func148,Tryz.ntmps148
 go_wp2_with fail
 refine wp_name (fun u=>Was w B E x (m) u∧Bx u w.heap.size 37 res0∧Bx u (w.heap.size+1) 37 res0) ⟨W0.out.later (below_allocs [_,_] w),bx_allocs w [_,_] 0 rfl,bx_allocs w [_,_] 1 rfl⟩ ?_
 rintro u ⟨hw,hl0,hl1⟩
 obtain⟨ha,hn,hc,hh,hcs⟩:=hold_cell hw.st Hi.out
 have Hh:Hid (∀W,Below u.heap.size u W→W.cell? ⟨E.A.holds,word,none⟩=some (.slice ha hn hc)):=fun W hb=>cell_later hb hh
 have Hcs:=Lib.hid hcs;clear hh hcs
 have HW:=Lib.hid hw
 have HL0:=Lib.hid hl0
 have HL1:=Lib.hid hl1
 have HS:Hid (∀(mm:Mem) (W:World),Was w B E x mm W→Fr B [] u W→W.cell? ⟨b0,0,none⟩=some (P E.A.lanes)∧W.cell? ⟨b1,0,none⟩=some (.int .i64 E.who)∧W.cell? ⟨b2,0,none⟩=some (.int .i64 (word:Nat))∧W.cell? ⟨E.A.lanes,0,none⟩=some (P E.A.board)):=fun mm W hw hf=>⟨(H.out.1.keep hw.fr rfl).cell 0,(H.out.2.1.keep hw.fr rfl).cell 0,(H.out.2.2.1.keep hw.fr rfl).cell 0,hw.st.lanes.cell 0⟩
 have HSa:Hid (∀W:World,Below u.heap.size u W→W.cell? ⟨b0,0,none⟩=some (P E.A.lanes)∧W.cell? ⟨b1,0,none⟩=some (.int .i64 E.who)∧W.cell? ⟨b2,0,none⟩=some (.int .i64 (word:Nat))∧W.cell? ⟨E.A.lanes,0,none⟩=some (P E.A.board)):=fun W hb=>HS.out _ W (HW.out.later hb) (Fr.of_below HW.out.st.below.2.2.2 hb)
 have HLt:Hid (b0<u.heap.size∧b1<u.heap.size∧b2<u.heap.size∧E.A.lanes<u.heap.size):=⟨(H.out.1.keep HW.out.fr rfl).lt,(H.out.2.1.keep HW.out.fr rfl).lt,(H.out.2.2.1.keep HW.out.fr rfl).lt,HW.out.st.lanes.lt⟩
 clear hw hl0 hl1
 go_cut [7,8] (fun s7 s8 wx=> ∃q7 q8,s7=P q7∧s8=P q8∧Noted u B E.A m wx∧Bx wx q7 61 #[.int .u64 (m.word word:Nat)]∧Bx wx q8 64 #[.slice ha hn hc])
 case first=>
   go_region_held3 (fun w'=>w'.cell? ⟨b0,0,none⟩=some (P E.A.lanes)∧w'.cell? ⟨b1,0,none⟩=some (.int .i64 E.who)∧w'.cell? ⟨b2,0,none⟩=some (.int .i64 (word:Nat))∧w'.cell? ⟨E.A.lanes,0,none⟩=some (P E.A.board)) (first|(refine HSa.out _ ?_;(repeat (first|(with_reducible first|exact RowKit.Below.refl _ _|assumption|refine RowKit.Below.drew ?_)|((with_reducible first|refine belAlloc ?_ ?_|refine belSet ?_ ?_);(first|simp<;>omega|omega))));done)|(refine hSb _ ?_;(repeat (first|(with_reducible first|exact RowKit.Below.refl _ _|assumption|refine RowKit.Below.drew ?_)|((with_reducible first|refine belAlloc ?_ ?_|refine belSet ?_ ?_);(first|simp<;>omega|omega))));done)) ((first|(go_at_call 83;(refine (Kl.out _ _ _ _ (HW.out.later (by (repeat (first|(with_reducible first|exact RowKit.Below.refl _ _|assumption|refine RowKit.Below.drew ?_)|((with_reducible first|refine belAlloc ?_ ?_|refine belSet ?_ ?_);(first|simp<;>omega|omega)))))).st (Hh.out _ (by (repeat (first|(with_reducible first|exact RowKit.Below.refl _ _|assumption|refine RowKit.Below.drew ?_)|((with_reducible first|refine belAlloc ?_ ?_|refine belSet ?_ ?_);(first|simp<;>omega|omega))))))).mono ?_);rintro e w1 ⟨rfl,hno⟩;have hbW:=belOfN (u:=u) hno (by (repeat (first|(with_reducible first|exact RowKit.Below.refl _ _|assumption|refine RowKit.Below.drew ?_)|((with_reducible first|refine belAlloc ?_ ?_|refine belSet ?_ ?_);(first|simp<;>omega|omega)))));have n2:=hno.pre HW.out.st hbW;have hw2:=HW.out.noted n2;have hf:=(n2.acc HW.out.st).2;have hfW:=(hno.acc (HW.out.later hbW).st).2;have hs2:=HS.out _ w1 hw2 hf;have hSb: ∀W:World,Below u.heap.size w1 W→W.cell? ⟨b0,0,none⟩=some (P E.A.lanes)∧W.cell? ⟨b1,0,none⟩=some (.int .i64 E.who)∧W.cell? ⟨b2,0,none⟩=some (.int .i64 (word:Nat))∧W.cell? ⟨E.A.lanes,0,none⟩=some (P E.A.board):=fun W hb=>⟨cell_lt HLt.out.1 hb hs2.1,cell_lt HLt.out.2.1 hb hs2.2.1,cell_lt HLt.out.2.2.1 hb hs2.2.2.1,cell_lt HLt.out.2.2.2 hb hs2.2.2.2⟩;have hsz:=hf.size;(try (refine (have z1:Bx w1 (u.heap.size) 61 #[.int .u64 0]:= ?_;?_);· (refine Bx.keep hfW ?_ rfl;(repeat (first|with_reducible assumption|((with_reducible apply Bx.newq');(first|simp<;>omega|omega))|(with_reducible first|apply Bx.alc|apply Bx.dr|apply Bx.sc0|apply Bx.set4|apply Bx.set6)|((with_reducible apply Bx.sne);(first|simp<;>omega|omega))));done)));(try have zc1:=z1.at0);(try have zf1:=z1.free 0);(try have zl1:=z1.lt);(try (refine (have z2:Bx w1 (u.heap.size) 64 #[.slice none 0 0]:= ?_;?_);· (refine Bx.keep hfW ?_ rfl;(repeat (first|with_reducible assumption|((with_reducible apply Bx.newq');(first|simp<;>omega|omega))|(with_reducible first|apply Bx.alc|apply Bx.dr|apply Bx.sc0|apply Bx.set4|apply Bx.set6)|((with_reducible apply Bx.sne);(first|simp<;>omega|omega))));done)));(try have zc2:=z2.at0);(try have zf2:=z2.free 0);(try have zl2:=z2.lt);(try (refine (have z3:Bx w1 (u.heap.size+1) 61 #[.int .u64 0]:= ?_;?_);· (refine Bx.keep hfW ?_ rfl;(repeat (first|with_reducible assumption|((with_reducible apply Bx.newq');(first|simp<;>omega|omega))|(with_reducible first|apply Bx.alc|apply Bx.dr|apply Bx.sc0|apply Bx.set4|apply Bx.set6)|((with_reducible apply Bx.sne);(first|simp<;>omega|omega))));done)));(try have zc3:=z3.at0);(try have zf3:=z3.free 0);(try have zl3:=z3.lt);(try (refine (have z4:Bx w1 (u.heap.size+1) 64 #[.slice none 0 0]:= ?_;?_);· (refine Bx.keep hfW ?_ rfl;(repeat (first|with_reducible assumption|((with_reducible apply Bx.newq');(first|simp<;>omega|omega))|(with_reducible first|apply Bx.alc|apply Bx.dr|apply Bx.sc0|apply Bx.set4|apply Bx.set6)|((with_reducible apply Bx.sne);(first|simp<;>omega|omega))));done)));(try have zc4:=z4.at0);(try have zf4:=z4.free 0);(try have zl4:=z4.lt);have hl02:=HL0.out.keep hf rfl;have hl12:=HL1.out.keep hf rfl;have HW2:=Lib.hid hw2;have Hf:=Lib.hid hf;have HLb0:=Lib.hid hl02;have HLb1:=Lib.hid hl12;clear hw2 hf hfW hbW hs2 hno hl02 hl12)))
   all_goals
     go_wp2_with fail
     go_meet
     refine⟨_,_,rfl,rfl,?_,?_,?_⟩
     · (repeat (first|(with_reducible first|assumption|refine Noted.drew ?_|refine Noted.alc ?_)|((with_reducible apply Noted.sv_u64);((first|simp<;>omega|omega));(focus ((repeat (first|with_reducible assumption|((with_reducible apply Bx.newq');(first|simp<;>omega|omega))|(with_reducible first|apply Bx.alc|apply Bx.dr|apply Bx.sc0|apply Bx.set4|apply Bx.set6)|((with_reducible apply Bx.sne);(first|simp<;>omega|omega))));done)))|((with_reducible apply Noted.sv_cells);((first|simp<;>omega|omega));(focus ((repeat (first|with_reducible assumption|((with_reducible apply Bx.newq');(first|simp<;>omega|omega))|(with_reducible first|apply Bx.alc|apply Bx.dr|apply Bx.sc0|apply Bx.set4|apply Bx.set6)|((with_reducible apply Bx.sne);(first|simp<;>omega|omega))));done)))))
     · (repeat (first|with_reducible assumption|((with_reducible apply Bx.newq');(first|simp<;>omega|omega))|(with_reducible first|apply Bx.alc|apply Bx.dr|apply Bx.sc0|apply Bx.set4|apply Bx.set6)|((with_reducible apply Bx.sne);(first|simp<;>omega|omega))))
     · (repeat (first|with_reducible assumption|((with_reducible apply Bx.newq');(first|simp<;>omega|omega))|(with_reducible first|apply Bx.alc|apply Bx.dr|apply Bx.sc0|apply Bx.set4|apply Bx.set6)|((with_reducible apply Bx.sne);(first|simp<;>omega|omega))))
 case rest=>
   obtain⟨q7,q8,rfl,rfl,hno,z7,z8⟩:=hcut
   have hf:=(hno.acc HW.out.st).2
   have hw:=HW.out.noted hno
   have hl0:=HL0.out.keep hf rfl
   have hl1:=HL1.out.keep hf rfl
   have Hcs1:=Lib.hid (Hcs.out.keep hf)
   have c7:=z7.at0
   clear HSa HS HLt HL0 HL1 HW Hcs Hh Kl Hi hi
   by_cases hp:4611686018427387904≤m.word word
   · have hp':(4611686018427387904:Int)≤(m.word word:Nat):=by omega
     go_wp2_with fail
     have hx:stepF Bl list room (.freeze word t) x m=more (fthenF t (m.hold word)) x m.touch:=by
       show(if FRZ≤m.word word then _ else _)=_
       exact if_pos hp
     have Hx:=Lib.hid hx
     obtain⟨f,ps,hfp,hef,-⟩:=fthen_any E t _ _ _ _ (H.out.2.2.2.2.keep hw.fr) Hcs1.out Hl.out Hm.out
     injection hfp with hf1 hf2 hf3
     subst hf1 hf3
     unfold Enters at hef
     have Kf:Hid (∀W,FThenAt W E (.func (.func f) #[] tps) t→CellsAt W (.slice ha hn hc) (m.hold word)→Calls Tryz.prog f (#[.slice ha hn hc]++tps) W (KRes W E (fthenF t (m.hold word)))):=fun W h hc=>by
       obtain⟨f',ps',e,_,k⟩:=fthen_any E t _ _ _ W h hc Hl.out Hm.out
       injection e with e1 e2 e3
       injection e1 with e1
       subst e1 e3
       exact k
     clear hx hp hp' c7
     have HW:=Lib.hid hw
     have HL0:=Lib.hid hl0
     have HL1:=Lib.hid hl1
     have HL2:=Lib.hid z7
     have HL3:=Lib.hid z8
     have HS:Hid (∀(mm:Mem) (W:World),Was w B E x mm W→Fr B [] wc W→W.cell? ⟨b3,0,none⟩=some (.func (.func f) #[] tps)∧W.cell? ⟨q8,0,none⟩=some (.slice ha hn hc)∧W.cell? ⟨w.heap.size+1,0,none⟩=some (.bool false)∧W.cell? ⟨w.heap.size+1,1,none⟩=some (.int .i64 0)∧W.cell? ⟨w.heap.size+1,2,none⟩=some (.bool false)∧W.cell? ⟨w.heap.size+1,3,none⟩=some (.int .i64 0)∧W.cell? ⟨w.heap.size+1,4,none⟩=some (.int .i64 0)∧W.cell? ⟨w.heap.size+1,5,none⟩=some (.int .i64 0)∧W.cell? ⟨w.heap.size+1,6,none⟩=some (.int .i64 0)):=fun mm W hw hf=>⟨(H.out.2.2.2.1.keep hw.fr rfl).cell 0,(HL3.out.keep hf rfl).cell 0,(HL1.out.keep hf rfl).cell 0,(HL1.out.keep hf rfl).cell 1,(HL1.out.keep hf rfl).cell 2,(HL1.out.keep hf rfl).cell 3,(HL1.out.keep hf rfl).cell 4,(HL1.out.keep hf rfl).cell 5,(HL1.out.keep hf rfl).cell 6⟩
     have HSa:Hid (∀W:World,Below wc.heap.size wc W→W.cell? ⟨b3,0,none⟩=some (.func (.func f) #[] tps)∧W.cell? ⟨q8,0,none⟩=some (.slice ha hn hc)∧W.cell? ⟨w.heap.size+1,0,none⟩=some (.bool false)∧W.cell? ⟨w.heap.size+1,1,none⟩=some (.int .i64 0)∧W.cell? ⟨w.heap.size+1,2,none⟩=some (.bool false)∧W.cell? ⟨w.heap.size+1,3,none⟩=some (.int .i64 0)∧W.cell? ⟨w.heap.size+1,4,none⟩=some (.int .i64 0)∧W.cell? ⟨w.heap.size+1,5,none⟩=some (.int .i64 0)∧W.cell? ⟨w.heap.size+1,6,none⟩=some (.int .i64 0)):=fun W hb=>HS.out _ W (HW.out.later hb) (Fr.of_below HW.out.st.below.2.2.2 hb)
     have HLt:Hid (b3<wc.heap.size∧q8<wc.heap.size∧w.heap.size+1<wc.heap.size∧w.heap.size+1<wc.heap.size∧w.heap.size+1<wc.heap.size∧w.heap.size+1<wc.heap.size∧w.heap.size+1<wc.heap.size∧w.heap.size+1<wc.heap.size∧w.heap.size+1<wc.heap.size):=⟨(H.out.2.2.2.1.keep HW.out.fr rfl).lt,HL3.out.lt,HL1.out.lt,HL1.out.lt,HL1.out.lt,HL1.out.lt,HL1.out.lt,HL1.out.lt,HL1.out.lt⟩
     clear hw hl0 hl1 z7 z8
     go_region_held3 (fun w'=>w'.cell? ⟨b3,0,none⟩=some (.func (.func f) #[] tps)∧w'.cell? ⟨q8,0,none⟩=some (.slice ha hn hc)∧w'.cell? ⟨w.heap.size+1,0,none⟩=some (.bool false)∧w'.cell? ⟨w.heap.size+1,1,none⟩=some (.int .i64 0)∧w'.cell? ⟨w.heap.size+1,2,none⟩=some (.bool false)∧w'.cell? ⟨w.heap.size+1,3,none⟩=some (.int .i64 0)∧w'.cell? ⟨w.heap.size+1,4,none⟩=some (.int .i64 0)∧w'.cell? ⟨w.heap.size+1,5,none⟩=some (.int .i64 0)∧w'.cell? ⟨w.heap.size+1,6,none⟩=some (.int .i64 0)) (first|(refine HSa.out _ ?_;(repeat (first|(with_reducible first|exact RowKit.Below.refl _ _|assumption|refine RowKit.Below.drew ?_)|((with_reducible first|refine belAlloc ?_ ?_|refine belSet ?_ ?_);(first|simp<;>omega|omega))));done)|(refine hSb _ ?_;(repeat (first|(with_reducible first|exact RowKit.Below.refl _ _|assumption|refine RowKit.Below.drew ?_)|((with_reducible first|refine belAlloc ?_ ?_|refine belSet ?_ ?_);(first|simp<;>omega|omega))));done)|(simp only[set7_same hres];refine hSb _ ?_;(repeat (first|(with_reducible first|exact RowKit.Below.refl _ _|assumption|refine RowKit.Below.drew ?_)|((with_reducible first|refine belAlloc ?_ ?_|refine belSet ?_ ?_);(first|simp<;>omega|omega))));done)) ((first|(go_at_fn f;(refine (Kf.out _ (H.out.2.2.2.2.keep (HW.out.later (by (repeat (first|(with_reducible first|exact RowKit.Below.refl _ _|assumption|refine RowKit.Below.drew ?_)|((with_reducible first|refine belAlloc ?_ ?_|refine belSet ?_ ?_);(first|simp<;>omega|omega)))))).fr) (Hcs1.out.keep (fr0 (by (repeat (first|(with_reducible first|exact RowKit.Below.refl _ _|assumption|refine RowKit.Below.drew ?_)|((with_reducible first|refine belAlloc ?_ ?_|refine belSet ?_ ?_);(first|simp<;>omega|omega)))))))).mono ?_);rintro e w2 ⟨v,rfl,hk,hb⟩;have hbW:=belOfB (u:=wc) hb (by (repeat (first|(with_reducible first|exact RowKit.Below.refl _ _|assumption|refine RowKit.Below.drew ?_)|((with_reducible first|refine belAlloc ?_ ?_|refine belSet ?_ ?_);(first|simp<;>omega|omega)))));have hbu:=hbW.trans (hb.mono hbW.size);have hw2:=HW.out.later hbu;have hf:Fr B [] wc w2:=Fr.of_below HW.out.st.below.2.2.2 hbu;have hfW:Fr B [] _ w2:=Fr.of_below (Nat.le_trans HW.out.st.below.2.2.2 hbW.size) hb;have Hk:=Lib.hid hk;clear hk;have hs2:=HS.out _ w2 hw2 hf;have hSb: ∀W:World,Below wc.heap.size w2 W→W.cell? ⟨b3,0,none⟩=some (.func (.func f) #[] tps)∧W.cell? ⟨q8,0,none⟩=some (.slice ha hn hc)∧W.cell? ⟨w.heap.size+1,0,none⟩=some (.bool false)∧W.cell? ⟨w.heap.size+1,1,none⟩=some (.int .i64 0)∧W.cell? ⟨w.heap.size+1,2,none⟩=some (.bool false)∧W.cell? ⟨w.heap.size+1,3,none⟩=some (.int .i64 0)∧W.cell? ⟨w.heap.size+1,4,none⟩=some (.int .i64 0)∧W.cell? ⟨w.heap.size+1,5,none⟩=some (.int .i64 0)∧W.cell? ⟨w.heap.size+1,6,none⟩=some (.int .i64 0):=fun W hb=>⟨cell_lt HLt.out.1 hb hs2.1,cell_lt HLt.out.2.1 hb hs2.2.1,cell_lt HLt.out.2.2.1 hb hs2.2.2.1,cell_lt HLt.out.2.2.2.1 hb hs2.2.2.2.1,cell_lt HLt.out.2.2.2.2.1 hb hs2.2.2.2.2.1,cell_lt HLt.out.2.2.2.2.2.1 hb hs2.2.2.2.2.2.1,cell_lt HLt.out.2.2.2.2.2.2.1 hb hs2.2.2.2.2.2.2.1,cell_lt HLt.out.2.2.2.2.2.2.2.1 hb hs2.2.2.2.2.2.2.2.1,cell_lt HLt.out.2.2.2.2.2.2.2.2 hb hs2.2.2.2.2.2.2.2.2⟩;have hsz:=hf.size;have hl02:=HL0.out.keep hf rfl;have hl12:=HL1.out.keep hf rfl;have hl22:=HL2.out.keep hf rfl;have hl32:=HL3.out.keep hf rfl;have hres:=hl02;obtain⟨r0,r1,r2,r3,r4,r5,r6⟩:=res_cells hl02;obtain⟨f0,f1,f2,f3,f4,f5,f6⟩:=res_free hl02;have HW2:=Lib.hid hw2;have Hf:=Lib.hid hf;have HLb0:=Lib.hid hl02;have HLb1:=Lib.hid hl12;have HLb2:=Lib.hid hl22;have HLb3:=Lib.hid hl32;clear hw2 hf hfW hbW hs2 hb hbu hl02 hl12 hl22 hl32)))
     all_goals
       rw[set7_same hres]
       go_wp2_with fail
       rw[Hx.out]
       exact bodyPost_ret (v:= .tuple #[v,.agg res0]) (by simp [results,Tryz.results148,go_sem,r0,r1,r2,r3,r4,r5,r6]) rfl ⟨v,false,err 0,rfl,⟨Hk.out,rfl,rfl⟩,HW2.out.call,HW2.out.st,HW2.out.fr⟩
   · have hp': ¬(4611686018427387904:Int)≤(m.word word:Nat):=by omega
     go_wp2_with fail
     have hx:stepF Bl list room (.freeze word t) x m=more (.freezeSwap word (m.word word) (m.hold word) t) x m.touch:=by
       show(if FRZ≤m.word word then _ else _)=_
       exact if_neg hp
     have Hx:=Lib.hid hx
     clear hx hp hp' c7
     have hk:KontAt wc E (.func (.func 149) #[] #[P b0,P b1,P b2,P q7,P q8,P b3,P (w.heap.size+1)]) _:=(show KontAt wc E _ (.freezeSwap word (m.word word) (m.hold word) t)from⟨_,_,_,_,_,_,_,_,_,rfl,H.out.1.keep hw.fr rfl,H.out.2.1.keep hw.fr rfl,H.out.2.2.1.keep hw.fr rfl,z7,z8,Hcs1.out,H.out.2.2.2.1.keep hw.fr rfl,H.out.2.2.2.2.keep hw.fr,hl1⟩)
     have Hk:=Lib.hid hk;clear hk
     have hres:=hl0
     obtain⟨r0,r1,r2,r3,r4,r5,r6⟩:=res_cells hres;obtain⟨f0,f1,f2,f3,f4,f5,f6⟩:=res_free hres
     have HW:=Lib.hid hw
     have HL0:=Lib.hid hl0
     have HL1:=Lib.hid hl1
     have HL2:=Lib.hid z7
     have HL3:=Lib.hid z8
     have HS:Hid (∀(mm:Mem) (W:World),Was w B E x mm W→Fr B [] wc W→W.cell? ⟨w.heap.size+1,0,none⟩=some (.bool false)∧W.cell? ⟨w.heap.size+1,1,none⟩=some (.int .i64 0)∧W.cell? ⟨w.heap.size+1,2,none⟩=some (.bool false)∧W.cell? ⟨w.heap.size+1,3,none⟩=some (.int .i64 0)∧W.cell? ⟨w.heap.size+1,4,none⟩=some (.int .i64 0)∧W.cell? ⟨w.heap.size+1,5,none⟩=some (.int .i64 0)∧W.cell? ⟨w.heap.size+1,6,none⟩=some (.int .i64 0)):=fun mm W hw hf=>⟨(HL1.out.keep hf rfl).cell 0,(HL1.out.keep hf rfl).cell 1,(HL1.out.keep hf rfl).cell 2,(HL1.out.keep hf rfl).cell 3,(HL1.out.keep hf rfl).cell 4,(HL1.out.keep hf rfl).cell 5,(HL1.out.keep hf rfl).cell 6⟩
     have HSa:Hid (∀W:World,Below wc.heap.size wc W→W.cell? ⟨w.heap.size+1,0,none⟩=some (.bool false)∧W.cell? ⟨w.heap.size+1,1,none⟩=some (.int .i64 0)∧W.cell? ⟨w.heap.size+1,2,none⟩=some (.bool false)∧W.cell? ⟨w.heap.size+1,3,none⟩=some (.int .i64 0)∧W.cell? ⟨w.heap.size+1,4,none⟩=some (.int .i64 0)∧W.cell? ⟨w.heap.size+1,5,none⟩=some (.int .i64 0)∧W.cell? ⟨w.heap.size+1,6,none⟩=some (.int .i64 0)):=fun W hb=>HS.out _ W (HW.out.later hb) (Fr.of_below HW.out.st.below.2.2.2 hb)
     have HLt:Hid (w.heap.size+1<wc.heap.size∧w.heap.size+1<wc.heap.size∧w.heap.size+1<wc.heap.size∧w.heap.size+1<wc.heap.size∧w.heap.size+1<wc.heap.size∧w.heap.size+1<wc.heap.size∧w.heap.size+1<wc.heap.size):=⟨HL1.out.lt,HL1.out.lt,HL1.out.lt,HL1.out.lt,HL1.out.lt,HL1.out.lt,HL1.out.lt⟩
     clear hw hl0 hl1 z7 z8
     go_region_held3 (fun w'=>w'.cell? ⟨w.heap.size+1,0,none⟩=some (.bool false)∧w'.cell? ⟨w.heap.size+1,1,none⟩=some (.int .i64 0)∧w'.cell? ⟨w.heap.size+1,2,none⟩=some (.bool false)∧w'.cell? ⟨w.heap.size+1,3,none⟩=some (.int .i64 0)∧w'.cell? ⟨w.heap.size+1,4,none⟩=some (.int .i64 0)∧w'.cell? ⟨w.heap.size+1,5,none⟩=some (.int .i64 0)∧w'.cell? ⟨w.heap.size+1,6,none⟩=some (.int .i64 0)) (first|(refine HSa.out _ ?_;(repeat (first|(with_reducible first|exact RowKit.Below.refl _ _|assumption|refine RowKit.Below.drew ?_)|((with_reducible first|refine belAlloc ?_ ?_|refine belSet ?_ ?_);(first|simp<;>omega|omega))));done)|(simp only[set7_same hres];refine HSa.out _ ?_;(repeat (first|(with_reducible first|exact RowKit.Below.refl _ _|assumption|refine RowKit.Below.drew ?_)|((with_reducible first|refine belAlloc ?_ ?_|refine belSet ?_ ?_);(first|simp<;>omega|omega))));done)) (fail)
     rw[set7_same hres]
     go_wp2_with fail
     rw[Hx.out]
     exact bodyPost_ret (v:= .tuple #[.func (.func 149) #[] #[P b0,P b1,P b2,P q7,P q8,P b3,P (w.heap.size+1)],.agg res0]) (by simp [results,Tryz.results148,go_sem,r0,r1,r2,r3,r4,r5,r6]) rfl ⟨_,false,err 0,rfl,⟨Hk.out.keep (fr0 (RowKit.Below.refl _ _).drew),rfl,rfl⟩,HW.out.drew.call,HW.out.drew.st,HW.out.drew.fr⟩
end Go.Proofs.YtemnhpdjoimjbaaGreatDoor
