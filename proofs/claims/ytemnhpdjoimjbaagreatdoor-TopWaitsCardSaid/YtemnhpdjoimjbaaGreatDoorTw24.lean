import Derived.Test.YtemnhpdjoimjbaaGreatDoorTw20
namespace Go.Proofs.YtemnhpdjoimjbaaGreatDoor
open Go.RowKit Top
set_option linter.unusedVariables false
set_option maxHeartbeats 1000000 in
set_option maxRecDepth 100000 in
theorem step_splitSwap (Bl:Top.Below) (B:Nat) (E:Env) (x:Live) (m:Mem) (d level:Nat) (v:Value) (w:World) (hk:KontAt w E v (.splitSwap d level)) (hs:St w B E.A m) (hc:CallAt w E x) (ok:E.Ok m) (hd:d≤8) (hl:level≤4):
   ∃f ps,v= .func (.func f) #[] ps∧Enters f∧Calls Tryz.prog f ps w (ORes w B E (stepF Bl E.A.list E.A.room (.splitSwap d level) x m)):=by
 obtain⟨b0,b1,b2,b3,b4,b5,rfl,h0,h1,h2,h3,h4,h5⟩:=hk
 refine⟨_,_,rfl,enters_of Tryz.func85 (by kernel_rfl) rfl,?_⟩
 have hwr:IntKind.u64.wrap ((d:Int)+1)=(d:Int)+1:=by rw[IntKind.wrap_u64];omega
 obtain⟨sw,m1,hsw⟩: ∃sw m1,m.swap 0 d (d+1) []=(sw,m1):=⟨_,_,rfl⟩
 have Ks:Hid (∀W,St W B E.A m→Calls Tryz.prog 32 #[P E.A.board,.int .i64 E.who,.int .i64 0,.int .u64 d,.int .u64 ((d:Int)+1),.slice none 0 0] W fun e w'=>e= .returned (.bool sw)∧Acc W B E.A m1 w'):=fun W h=>by
   have k:=bswap_any B E.A m E.who 0 d (d+1) (.slice none 0 0) [] W h ok.who0 ok.who1 (by decide) (by omega) (CellsAt.nil W) ok.count
   rw[hsw]at k
   exact k
 have W0:=Lib.hid (Was.start hs hc)
 have H:=Lib.hid (And.intro h0 (And.intro h1 (And.intro h2 (And.intro h3 (And.intro h4 h5)))))
 have Hsw:=Lib.hid hsw;have Hl:=Lib.hid hl
 clear hs hc ok h0 h1 h2 h3 h4 h5 hd hl hsw
 go_enter Tryz.func85,Tryz.ntmps85
 go_wp2_with fail
 refine wp_name (fun u=>Was w B E x (m) u∧Bx u w.heap.size 37 res0) ⟨W0.out.later (below_allocs [_] w),bx_allocs w [_] 0 rfl⟩ ?_
 rintro y ⟨hw,hl0⟩
 have HW:=Lib.hid hw
 have HL0:=Lib.hid hl0
 have HS:Hid (∀(mm:Mem) (W:World),Was w B E x mm W→Fr B [] y W→W.cell? ⟨b0,0,none⟩=some (P E.A.lanes)∧W.cell? ⟨b1,0,none⟩=some (.int .i64 E.who)∧W.cell? ⟨b2,0,none⟩=some (.int .u64 (d:Nat))∧W.cell? ⟨E.A.lanes,0,none⟩=some (P E.A.board)):=fun mm W hw hf=>⟨(H.out.1.keep hw.fr rfl).cell 0,(H.out.2.1.keep hw.fr rfl).cell 0,(H.out.2.2.1.keep hw.fr rfl).cell 0,hw.st.lanes.cell 0⟩
 have HSa:Hid (∀W:World,Below y.heap.size y W→W.cell? ⟨b0,0,none⟩=some (P E.A.lanes)∧W.cell? ⟨b1,0,none⟩=some (.int .i64 E.who)∧W.cell? ⟨b2,0,none⟩=some (.int .u64 (d:Nat))∧W.cell? ⟨E.A.lanes,0,none⟩=some (P E.A.board)):=fun W hb=>HS.out _ W (HW.out.later hb) (Fr.of_below HW.out.st.below.2.2.2 hb)
 have HLt:Hid (b0<y.heap.size∧b1<y.heap.size∧b2<y.heap.size∧E.A.lanes<y.heap.size):=⟨(H.out.1.keep HW.out.fr rfl).lt,(H.out.2.1.keep HW.out.fr rfl).lt,(H.out.2.2.1.keep HW.out.fr rfl).lt,HW.out.st.lanes.lt⟩
 clear hw hl0
 go_region_held3 (fun w'=>w'.cell? ⟨b0,0,none⟩=some (P E.A.lanes)∧w'.cell? ⟨b1,0,none⟩=some (.int .i64 E.who)∧w'.cell? ⟨b2,0,none⟩=some (.int .u64 (d:Nat))∧w'.cell? ⟨E.A.lanes,0,none⟩=some (P E.A.board)) (first|(refine HSa.out _ ?_;(repeat (first|(with_reducible first|exact RowKit.Below.refl _ _|assumption|refine RowKit.Below.drew ?_)|((with_reducible first|refine belAlloc ?_ ?_|refine belSet ?_ ?_);(first|simp<;>omega|omega))));done)|(refine hSb _ ?_;(repeat (first|(with_reducible first|exact RowKit.Below.refl _ _|assumption|refine RowKit.Below.drew ?_)|((with_reducible first|refine belAlloc ?_ ?_|refine belSet ?_ ?_);(first|simp<;>omega|omega))));done)) ((first|(go_at_call 32;(refine (Ks.out _ (HW.out.later (by (repeat (first|(with_reducible first|exact RowKit.Below.refl _ _|assumption|refine RowKit.Below.drew ?_)|((with_reducible first|refine belAlloc ?_ ?_|refine belSet ?_ ?_);(first|simp<;>omega|omega)))))).st).mono ?_);rintro e w1 ⟨rfl,hacc⟩;have hbW:=belOfA (u:=y) hacc (by (repeat (first|(with_reducible first|exact RowKit.Below.refl _ _|assumption|refine RowKit.Below.drew ?_)|((with_reducible first|refine belAlloc ?_ ?_|refine belSet ?_ ?_);(first|simp<;>omega|omega)))));have hw2:=(HW.out.later hbW).acc hacc;have hf:=Fr.trans (Fr.of_below (X:=[]) HW.out.st.below.2.2.2 hbW) hacc.2;have hfW:=hacc.2;have hs2:=HS.out _ w1 hw2 hf;have hSb: ∀W:World,Below y.heap.size w1 W→W.cell? ⟨b0,0,none⟩=some (P E.A.lanes)∧W.cell? ⟨b1,0,none⟩=some (.int .i64 E.who)∧W.cell? ⟨b2,0,none⟩=some (.int .u64 (d:Nat))∧W.cell? ⟨E.A.lanes,0,none⟩=some (P E.A.board):=fun W hb=>⟨cell_lt HLt.out.1 hb hs2.1,cell_lt HLt.out.2.1 hb hs2.2.1,cell_lt HLt.out.2.2.1 hb hs2.2.2.1,cell_lt HLt.out.2.2.2 hb hs2.2.2.2⟩;have hsk:=hs2;have hsz:=hf.size;have hl02:=HL0.out.keep hf rfl;have HW2:=Lib.hid hw2;have Hf:=Lib.hid hf;have HLb0:=Lib.hid hl02;clear hw2 hf hfW hbW hs2 hacc hl02)))
 have hw:=HW2.out
 have hl0:=HLb0.out
 clear HW2 HW HSa HS HLt hSb hsz Hf HLb0 HL0 Ks hwr
 cases sw with
 |true=>
   have hx:stepF Bl E.A.list E.A.room (.splitSwap d level) x m=more (moveK level 0) x m1:=by
     show(if (m.swap 0 d (d+1) []).1 then _ else _)=_
     rw[Hsw.out]
     rfl
   have Hx:=Lib.hid hx
   clear hx
   go_wp2_with fail
   have Kf:Hid (∀W,Calls Tryz.prog 84 #[P E.A.lanes,.int .i64 E.who,.int .i64 level,.int .i64 0,.func (.func 60) #[] #[]] W (KRes W E (moveK level 0))):=fun W=>move_any E level 0 W Hl.out (Nat.zero_le _)
   have HW:=Lib.hid hw
   have HL0:=Lib.hid hl0
   have HS:Hid (∀(mm:Mem) (W:World),Was w B E x mm W→Fr B [] w1 W→W.cell? ⟨b0,0,none⟩=some (P E.A.lanes)∧W.cell? ⟨b1,0,none⟩=some (.int .i64 E.who)∧W.cell? ⟨b5,0,none⟩=some (.int .i64 (level:Nat))∧W.cell? ⟨b3,0,none⟩=some (.func (.func 60) #[] #[])∧W.cell? ⟨b4,0,none⟩=some (.bool false)∧W.cell? ⟨b4,1,none⟩=some (.int .i64 0)∧W.cell? ⟨b4,2,none⟩=some (.bool false)∧W.cell? ⟨b4,3,none⟩=some (.int .i64 0)∧W.cell? ⟨b4,4,none⟩=some (.int .i64 0)∧W.cell? ⟨b4,5,none⟩=some (.int .i64 0)∧W.cell? ⟨b4,6,none⟩=some (.int .i64 0)):=fun mm W hw hf=>⟨(H.out.1.keep hw.fr rfl).cell 0,(H.out.2.1.keep hw.fr rfl).cell 0,(H.out.2.2.2.2.2.keep hw.fr rfl).cell 0,(H.out.2.2.2.1.keep hw.fr rfl).cell 0,(H.out.2.2.2.2.1.keep hw.fr rfl).cell 0,(H.out.2.2.2.2.1.keep hw.fr rfl).cell 1,(H.out.2.2.2.2.1.keep hw.fr rfl).cell 2,(H.out.2.2.2.2.1.keep hw.fr rfl).cell 3,(H.out.2.2.2.2.1.keep hw.fr rfl).cell 4,(H.out.2.2.2.2.1.keep hw.fr rfl).cell 5,(H.out.2.2.2.2.1.keep hw.fr rfl).cell 6⟩
   have HSa:Hid (∀W:World,Below w1.heap.size w1 W→W.cell? ⟨b0,0,none⟩=some (P E.A.lanes)∧W.cell? ⟨b1,0,none⟩=some (.int .i64 E.who)∧W.cell? ⟨b5,0,none⟩=some (.int .i64 (level:Nat))∧W.cell? ⟨b3,0,none⟩=some (.func (.func 60) #[] #[])∧W.cell? ⟨b4,0,none⟩=some (.bool false)∧W.cell? ⟨b4,1,none⟩=some (.int .i64 0)∧W.cell? ⟨b4,2,none⟩=some (.bool false)∧W.cell? ⟨b4,3,none⟩=some (.int .i64 0)∧W.cell? ⟨b4,4,none⟩=some (.int .i64 0)∧W.cell? ⟨b4,5,none⟩=some (.int .i64 0)∧W.cell? ⟨b4,6,none⟩=some (.int .i64 0)):=fun W hb=>HS.out _ W (HW.out.later hb) (Fr.of_below HW.out.st.below.2.2.2 hb)
   have HLt:Hid (b0<w1.heap.size∧b1<w1.heap.size∧b5<w1.heap.size∧b3<w1.heap.size∧b4<w1.heap.size∧b4<w1.heap.size∧b4<w1.heap.size∧b4<w1.heap.size∧b4<w1.heap.size∧b4<w1.heap.size∧b4<w1.heap.size):=⟨(H.out.1.keep HW.out.fr rfl).lt,(H.out.2.1.keep HW.out.fr rfl).lt,(H.out.2.2.2.2.2.keep HW.out.fr rfl).lt,(H.out.2.2.2.1.keep HW.out.fr rfl).lt,(H.out.2.2.2.2.1.keep HW.out.fr rfl).lt,(H.out.2.2.2.2.1.keep HW.out.fr rfl).lt,(H.out.2.2.2.2.1.keep HW.out.fr rfl).lt,(H.out.2.2.2.2.1.keep HW.out.fr rfl).lt,(H.out.2.2.2.2.1.keep HW.out.fr rfl).lt,(H.out.2.2.2.2.1.keep HW.out.fr rfl).lt,(H.out.2.2.2.2.1.keep HW.out.fr rfl).lt⟩
   clear hw hl0
   go_region_held3 (fun w'=>w'.cell? ⟨b0,0,none⟩=some (P E.A.lanes)∧w'.cell? ⟨b1,0,none⟩=some (.int .i64 E.who)∧w'.cell? ⟨b5,0,none⟩=some (.int .i64 (level:Nat))∧w'.cell? ⟨b3,0,none⟩=some (.func (.func 60) #[] #[])∧w'.cell? ⟨b4,0,none⟩=some (.bool false)∧w'.cell? ⟨b4,1,none⟩=some (.int .i64 0)∧w'.cell? ⟨b4,2,none⟩=some (.bool false)∧w'.cell? ⟨b4,3,none⟩=some (.int .i64 0)∧w'.cell? ⟨b4,4,none⟩=some (.int .i64 0)∧w'.cell? ⟨b4,5,none⟩=some (.int .i64 0)∧w'.cell? ⟨b4,6,none⟩=some (.int .i64 0)) (first|(refine HSa.out _ ?_;(repeat (first|(with_reducible first|exact RowKit.Below.refl _ _|assumption|refine RowKit.Below.drew ?_)|((with_reducible first|refine belAlloc ?_ ?_|refine belSet ?_ ?_);(first|simp<;>omega|omega))));done)|(refine hSb _ ?_;(repeat (first|(with_reducible first|exact RowKit.Below.refl _ _|assumption|refine RowKit.Below.drew ?_)|((with_reducible first|refine belAlloc ?_ ?_|refine belSet ?_ ?_);(first|simp<;>omega|omega))));done)|(simp only[set7_same hres];refine hSb _ ?_;(repeat (first|(with_reducible first|exact RowKit.Below.refl _ _|assumption|refine RowKit.Below.drew ?_)|((with_reducible first|refine belAlloc ?_ ?_|refine belSet ?_ ?_);(first|simp<;>omega|omega))));done)) ((first|(go_at_call 84;(refine (Kf.out _).mono ?_);rintro e w2 ⟨v,rfl,hk,hb⟩;have hbW:=belOfB (u:=w1) hb (by (repeat (first|(with_reducible first|exact RowKit.Below.refl _ _|assumption|refine RowKit.Below.drew ?_)|((with_reducible first|refine belAlloc ?_ ?_|refine belSet ?_ ?_);(first|simp<;>omega|omega)))));have hbu:=hbW.trans (hb.mono hbW.size);have hw2:=HW.out.later hbu;have hf:Fr B [] w1 w2:=Fr.of_below HW.out.st.below.2.2.2 hbu;have hfW:Fr B [] _ w2:=Fr.of_below (Nat.le_trans HW.out.st.below.2.2.2 hbW.size) hb;have Hk:=Lib.hid hk;clear hk;have hs2:=HS.out _ w2 hw2 hf;have hSb: ∀W:World,Below w1.heap.size w2 W→W.cell? ⟨b0,0,none⟩=some (P E.A.lanes)∧W.cell? ⟨b1,0,none⟩=some (.int .i64 E.who)∧W.cell? ⟨b5,0,none⟩=some (.int .i64 (level:Nat))∧W.cell? ⟨b3,0,none⟩=some (.func (.func 60) #[] #[])∧W.cell? ⟨b4,0,none⟩=some (.bool false)∧W.cell? ⟨b4,1,none⟩=some (.int .i64 0)∧W.cell? ⟨b4,2,none⟩=some (.bool false)∧W.cell? ⟨b4,3,none⟩=some (.int .i64 0)∧W.cell? ⟨b4,4,none⟩=some (.int .i64 0)∧W.cell? ⟨b4,5,none⟩=some (.int .i64 0)∧W.cell? ⟨b4,6,none⟩=some (.int .i64 0):=fun W hb=>⟨cell_lt HLt.out.1 hb hs2.1,cell_lt HLt.out.2.1 hb hs2.2.1,cell_lt HLt.out.2.2.1 hb hs2.2.2.1,cell_lt HLt.out.2.2.2.1 hb hs2.2.2.2.1,cell_lt HLt.out.2.2.2.2.1 hb hs2.2.2.2.2.1,cell_lt HLt.out.2.2.2.2.2.1 hb hs2.2.2.2.2.2.1,cell_lt HLt.out.2.2.2.2.2.2.1 hb hs2.2.2.2.2.2.2.1,cell_lt HLt.out.2.2.2.2.2.2.2.1 hb hs2.2.2.2.2.2.2.2.1,cell_lt HLt.out.2.2.2.2.2.2.2.2.1 hb hs2.2.2.2.2.2.2.2.2.1,cell_lt HLt.out.2.2.2.2.2.2.2.2.2.1 hb hs2.2.2.2.2.2.2.2.2.2.1,cell_lt HLt.out.2.2.2.2.2.2.2.2.2.2 hb hs2.2.2.2.2.2.2.2.2.2.2⟩;have hsk:=hs2;have hsz:=hf.size;have hl02:=HL0.out.keep hf rfl;have hres:=hl02;obtain⟨r0,r1,r2,r3,r4,r5,r6⟩:=res_cells hl02;obtain⟨f0,f1,f2,f3,f4,f5,f6⟩:=res_free hl02;have HW2:=Lib.hid hw2;have Hf:=Lib.hid hf;have HLb0:=Lib.hid hl02;clear hw2 hf hfW hbW hs2 hb hbu hl02)))
   all_goals
     rw[set7_same hres]
     go_wp2_with fail
     rw[Hx.out]
     exact bodyPost_ret (v:= .tuple #[v,.agg res0]) (by simp [results,Tryz.results85,go_sem,r0,r1,r2,r3,r4,r5,r6]) rfl ⟨v,false,err 0,rfl,⟨Hk.out,rfl,rfl⟩,HW2.out.call,HW2.out.st,HW2.out.fr⟩
 |false=>
   have hx:stepF Bl E.A.list E.A.room (.splitSwap d level) x m=more (.split) x m1:=by
     show(if (m.swap 0 d (d+1) []).1 then _ else _)=_
     rw[Hsw.out]
     rfl
   have Hx:=Lib.hid hx
   clear hx
   go_wp2_with fail
   have Kf:=Lib.hid (fun W=>split_any E W)
   have HW:=Lib.hid hw
   have HL0:=Lib.hid hl0
   have HS:Hid (∀(mm:Mem) (W:World),Was w B E x mm W→Fr B [] w1 W→W.cell? ⟨b0,0,none⟩=some (P E.A.lanes)∧W.cell? ⟨b1,0,none⟩=some (.int .i64 E.who)∧W.cell? ⟨b3,0,none⟩=some (.func (.func 60) #[] #[])∧W.cell? ⟨b4,0,none⟩=some (.bool false)∧W.cell? ⟨b4,1,none⟩=some (.int .i64 0)∧W.cell? ⟨b4,2,none⟩=some (.bool false)∧W.cell? ⟨b4,3,none⟩=some (.int .i64 0)∧W.cell? ⟨b4,4,none⟩=some (.int .i64 0)∧W.cell? ⟨b4,5,none⟩=some (.int .i64 0)∧W.cell? ⟨b4,6,none⟩=some (.int .i64 0)):=fun mm W hw hf=>⟨(H.out.1.keep hw.fr rfl).cell 0,(H.out.2.1.keep hw.fr rfl).cell 0,(H.out.2.2.2.1.keep hw.fr rfl).cell 0,(H.out.2.2.2.2.1.keep hw.fr rfl).cell 0,(H.out.2.2.2.2.1.keep hw.fr rfl).cell 1,(H.out.2.2.2.2.1.keep hw.fr rfl).cell 2,(H.out.2.2.2.2.1.keep hw.fr rfl).cell 3,(H.out.2.2.2.2.1.keep hw.fr rfl).cell 4,(H.out.2.2.2.2.1.keep hw.fr rfl).cell 5,(H.out.2.2.2.2.1.keep hw.fr rfl).cell 6⟩
   have HSa:Hid (∀W:World,Below w1.heap.size w1 W→W.cell? ⟨b0,0,none⟩=some (P E.A.lanes)∧W.cell? ⟨b1,0,none⟩=some (.int .i64 E.who)∧W.cell? ⟨b3,0,none⟩=some (.func (.func 60) #[] #[])∧W.cell? ⟨b4,0,none⟩=some (.bool false)∧W.cell? ⟨b4,1,none⟩=some (.int .i64 0)∧W.cell? ⟨b4,2,none⟩=some (.bool false)∧W.cell? ⟨b4,3,none⟩=some (.int .i64 0)∧W.cell? ⟨b4,4,none⟩=some (.int .i64 0)∧W.cell? ⟨b4,5,none⟩=some (.int .i64 0)∧W.cell? ⟨b4,6,none⟩=some (.int .i64 0)):=fun W hb=>HS.out _ W (HW.out.later hb) (Fr.of_below HW.out.st.below.2.2.2 hb)
   have HLt:Hid (b0<w1.heap.size∧b1<w1.heap.size∧b3<w1.heap.size∧b4<w1.heap.size∧b4<w1.heap.size∧b4<w1.heap.size∧b4<w1.heap.size∧b4<w1.heap.size∧b4<w1.heap.size∧b4<w1.heap.size):=⟨(H.out.1.keep HW.out.fr rfl).lt,(H.out.2.1.keep HW.out.fr rfl).lt,(H.out.2.2.2.1.keep HW.out.fr rfl).lt,(H.out.2.2.2.2.1.keep HW.out.fr rfl).lt,(H.out.2.2.2.2.1.keep HW.out.fr rfl).lt,(H.out.2.2.2.2.1.keep HW.out.fr rfl).lt,(H.out.2.2.2.2.1.keep HW.out.fr rfl).lt,(H.out.2.2.2.2.1.keep HW.out.fr rfl).lt,(H.out.2.2.2.2.1.keep HW.out.fr rfl).lt,(H.out.2.2.2.2.1.keep HW.out.fr rfl).lt⟩
   clear hw hl0
   go_region_held3 (fun w'=>w'.cell? ⟨b0,0,none⟩=some (P E.A.lanes)∧w'.cell? ⟨b1,0,none⟩=some (.int .i64 E.who)∧w'.cell? ⟨b3,0,none⟩=some (.func (.func 60) #[] #[])∧w'.cell? ⟨b4,0,none⟩=some (.bool false)∧w'.cell? ⟨b4,1,none⟩=some (.int .i64 0)∧w'.cell? ⟨b4,2,none⟩=some (.bool false)∧w'.cell? ⟨b4,3,none⟩=some (.int .i64 0)∧w'.cell? ⟨b4,4,none⟩=some (.int .i64 0)∧w'.cell? ⟨b4,5,none⟩=some (.int .i64 0)∧w'.cell? ⟨b4,6,none⟩=some (.int .i64 0)) (first|(refine HSa.out _ ?_;(repeat (first|(with_reducible first|exact RowKit.Below.refl _ _|assumption|refine RowKit.Below.drew ?_)|((with_reducible first|refine belAlloc ?_ ?_|refine belSet ?_ ?_);(first|simp<;>omega|omega))));done)|(refine hSb _ ?_;(repeat (first|(with_reducible first|exact RowKit.Below.refl _ _|assumption|refine RowKit.Below.drew ?_)|((with_reducible first|refine belAlloc ?_ ?_|refine belSet ?_ ?_);(first|simp<;>omega|omega))));done)|(simp only[set7_same hres];refine hSb _ ?_;(repeat (first|(with_reducible first|exact RowKit.Below.refl _ _|assumption|refine RowKit.Below.drew ?_)|((with_reducible first|refine belAlloc ?_ ?_|refine belSet ?_ ?_);(first|simp<;>omega|omega))));done)) ((first|(go_at_call 59;(refine (Kf.out _).mono ?_);rintro e w2 ⟨v,rfl,hk,hb⟩;have hbW:=belOfB (u:=w1) hb (by (repeat (first|(with_reducible first|exact RowKit.Below.refl _ _|assumption|refine RowKit.Below.drew ?_)|((with_reducible first|refine belAlloc ?_ ?_|refine belSet ?_ ?_);(first|simp<;>omega|omega)))));have hbu:=hbW.trans (hb.mono hbW.size);have hw2:=HW.out.later hbu;have hf:Fr B [] w1 w2:=Fr.of_below HW.out.st.below.2.2.2 hbu;have hfW:Fr B [] _ w2:=Fr.of_below (Nat.le_trans HW.out.st.below.2.2.2 hbW.size) hb;have Hk:=Lib.hid hk;clear hk;have hs2:=HS.out _ w2 hw2 hf;have hSb: ∀W:World,Below w1.heap.size w2 W→W.cell? ⟨b0,0,none⟩=some (P E.A.lanes)∧W.cell? ⟨b1,0,none⟩=some (.int .i64 E.who)∧W.cell? ⟨b3,0,none⟩=some (.func (.func 60) #[] #[])∧W.cell? ⟨b4,0,none⟩=some (.bool false)∧W.cell? ⟨b4,1,none⟩=some (.int .i64 0)∧W.cell? ⟨b4,2,none⟩=some (.bool false)∧W.cell? ⟨b4,3,none⟩=some (.int .i64 0)∧W.cell? ⟨b4,4,none⟩=some (.int .i64 0)∧W.cell? ⟨b4,5,none⟩=some (.int .i64 0)∧W.cell? ⟨b4,6,none⟩=some (.int .i64 0):=fun W hb=>⟨cell_lt HLt.out.1 hb hs2.1,cell_lt HLt.out.2.1 hb hs2.2.1,cell_lt HLt.out.2.2.1 hb hs2.2.2.1,cell_lt HLt.out.2.2.2.1 hb hs2.2.2.2.1,cell_lt HLt.out.2.2.2.2.1 hb hs2.2.2.2.2.1,cell_lt HLt.out.2.2.2.2.2.1 hb hs2.2.2.2.2.2.1,cell_lt HLt.out.2.2.2.2.2.2.1 hb hs2.2.2.2.2.2.2.1,cell_lt HLt.out.2.2.2.2.2.2.2.1 hb hs2.2.2.2.2.2.2.2.1,cell_lt HLt.out.2.2.2.2.2.2.2.2.1 hb hs2.2.2.2.2.2.2.2.2.1,cell_lt HLt.out.2.2.2.2.2.2.2.2.2 hb hs2.2.2.2.2.2.2.2.2.2⟩;have hsk:=hs2;have hsz:=hf.size;have hl02:=HL0.out.keep hf rfl;have hres:=hl02;obtain⟨r0,r1,r2,r3,r4,r5,r6⟩:=res_cells hl02;obtain⟨f0,f1,f2,f3,f4,f5,f6⟩:=res_free hl02;have HW2:=Lib.hid hw2;have Hf:=Lib.hid hf;have HLb0:=Lib.hid hl02;clear hw2 hf hfW hbW hs2 hb hbu hl02)))
   all_goals
     rw[set7_same hres]
     go_wp2_with fail
     rw[Hx.out]
     exact bodyPost_ret (v:= .tuple #[v,.agg res0]) (by simp [results,Tryz.results85,go_sem,r0,r1,r2,r3,r4,r5,r6]) rfl ⟨v,false,err 0,rfl,⟨Hk.out,rfl,rfl⟩,HW2.out.call,HW2.out.st,HW2.out.fr⟩
set_option maxHeartbeats 1000000 in
set_option maxRecDepth 100000 in
theorem step_split (Bl:Top.Below) (B:Nat) (E:Env) (x:Live) (m:Mem) (v:Value) (w:World) (hk:KontAt w E v .split) (hs:St w B E.A m) (hc:CallAt w E x) (ok:E.Ok m) (h8:m.word 0≤8):
   ∃f ps,v= .func (.func f) #[] ps∧Enters f∧Calls Tryz.prog f ps w (ORes w B E (stepF Bl E.A.list E.A.room .split x m)):=by
 obtain⟨b0,b1,b2,rfl,h0,h1,h2⟩:=hk
 refine⟨_,_,rfl,enters_of Tryz.func82 (by kernel_rfl) rfl,?_⟩
 have Kl:=Lib.hid (fun a n c W h hh=>bload_at B E.A m E.who 0 a n c W h ok.who0 ok.who1 (by decide) ok.count hh)
 have W0:=Lib.hid (Was.start hs hc)
 have HB0:=Lib.hid hs.below.2.2.2
 have H:=Lib.hid (And.intro h0 (And.intro h1 h2))
 obtain⟨lv,hlv⟩: ∃lv,m.word 0/2=lv:=⟨_,rfl⟩
 have hlv5:lv≤4:=by omega
 have hq:wrap64 (IntKind.u64.wrap ((m.word 0:Nat)/2:Int))=(lv:Int):=by
   rw[IntKind.wrap_u64];unfold wrap64;omega
 have Hlv:=Lib.hid hlv;have Hlv5:=Lib.hid hlv5;have Hq:=Lib.hid hq
 clear hs hc ok h0 h1 h2 h8 hlv hlv5
 go_enter Tryz.func82,Tryz.ntmps82
 go_wp2_with fail
 refine wp_name (fun u=>Was w B E x (m) u∧Bx u w.heap.size 37 res0∧Bx u (w.heap.size+1) 37 res0) ⟨W0.out.later (below_allocs [_,_] w),bx_allocs w [_,_] 0 rfl,bx_allocs w [_,_] 1 rfl⟩ ?_
 rintro u ⟨hw,hl0,hl1⟩
 obtain⟨ha,hn,hc,hh,hcs⟩:=hold_cell hw.st (i:=0) (by decide)
 have Hh:Hid (∀W,Below u.heap.size u W→W.cell? ⟨E.A.holds,0,none⟩=some (.slice ha hn hc)):=fun W hb=>cell_later hb hh
 clear hh hcs hq
 have HW:=Lib.hid hw
 have HL0:=Lib.hid hl0
 have HL1:=Lib.hid hl1
 have HS:Hid (∀(mm:Mem) (W:World),Was w B E x mm W→Fr B [] u W→W.cell? ⟨b0,0,none⟩=some (P E.A.lanes)∧W.cell? ⟨b1,0,none⟩=some (.int .i64 E.who)∧W.cell? ⟨E.A.lanes,0,none⟩=some (P E.A.board)):=fun mm W hw hf=>⟨(H.out.1.keep hw.fr rfl).cell 0,(H.out.2.1.keep hw.fr rfl).cell 0,hw.st.lanes.cell 0⟩
 have HSa:Hid (∀W:World,Below u.heap.size u W→W.cell? ⟨b0,0,none⟩=some (P E.A.lanes)∧W.cell? ⟨b1,0,none⟩=some (.int .i64 E.who)∧W.cell? ⟨E.A.lanes,0,none⟩=some (P E.A.board)):=fun W hb=>HS.out _ W (HW.out.later hb) (Fr.of_below HW.out.st.below.2.2.2 hb)
 have HLt:Hid (b0<u.heap.size∧b1<u.heap.size∧E.A.lanes<u.heap.size):=⟨(H.out.1.keep HW.out.fr rfl).lt,(H.out.2.1.keep HW.out.fr rfl).lt,HW.out.st.lanes.lt⟩
 clear hw hl0 hl1
 go_cut [6,7] (fun s6 s7 wx=> ∃q6,s6=P q6∧s7= .slice ha hn hc∧Noted u B E.A m wx∧Bx wx q6 61 #[.int .u64 (m.word 0:Nat)])
 case first=>
   go_region_held3 (fun w'=>w'.cell? ⟨b0,0,none⟩=some (P E.A.lanes)∧w'.cell? ⟨b1,0,none⟩=some (.int .i64 E.who)∧w'.cell? ⟨E.A.lanes,0,none⟩=some (P E.A.board)) (first|(refine HSa.out _ ?_;(repeat (first|(with_reducible first|exact RowKit.Below.refl _ _|assumption|refine RowKit.Below.drew ?_)|((with_reducible first|refine belAlloc ?_ ?_|refine belSet ?_ ?_);(first|simp<;>omega|omega))));done)|(refine hSb _ ?_;(repeat (first|(with_reducible first|exact RowKit.Below.refl _ _|assumption|refine RowKit.Below.drew ?_)|((with_reducible first|refine belAlloc ?_ ?_|refine belSet ?_ ?_);(first|simp<;>omega|omega))));done)) ((first|(go_at_call 83;(refine (Kl.out _ _ _ _ (HW.out.later (by (repeat (first|(with_reducible first|exact RowKit.Below.refl _ _|assumption|refine RowKit.Below.drew ?_)|((with_reducible first|refine belAlloc ?_ ?_|refine belSet ?_ ?_);(first|simp<;>omega|omega)))))).st (Hh.out _ (by (repeat (first|(with_reducible first|exact RowKit.Below.refl _ _|assumption|refine RowKit.Below.drew ?_)|((with_reducible first|refine belAlloc ?_ ?_|refine belSet ?_ ?_);(first|simp<;>omega|omega))))))).mono ?_);rintro e w1 ⟨rfl,hno⟩;have hbW:=belOfN (u:=u) hno (by (repeat (first|(with_reducible first|exact RowKit.Below.refl _ _|assumption|refine RowKit.Below.drew ?_)|((with_reducible first|refine belAlloc ?_ ?_|refine belSet ?_ ?_);(first|simp<;>omega|omega)))));have n2:=hno.pre HW.out.st hbW;have hw2:=HW.out.noted n2;have hf:=(n2.acc HW.out.st).2;have hfW:=(hno.acc (HW.out.later hbW).st).2;have hs2:=HS.out _ w1 hw2 hf;have hSb: ∀W:World,Below u.heap.size w1 W→W.cell? ⟨b0,0,none⟩=some (P E.A.lanes)∧W.cell? ⟨b1,0,none⟩=some (.int .i64 E.who)∧W.cell? ⟨E.A.lanes,0,none⟩=some (P E.A.board):=fun W hb=>⟨cell_lt HLt.out.1 hb hs2.1,cell_lt HLt.out.2.1 hb hs2.2.1,cell_lt HLt.out.2.2 hb hs2.2.2⟩;have hsk:=hs2;have hsz:=hf.size;(try (refine (have z1:Bx w1 (u.heap.size) 61 #[.int .u64 0]:= ?_;?_);· (refine Bx.keep hfW ?_ rfl;(repeat (first|with_reducible assumption|((with_reducible apply Bx.newq');(first|simp<;>omega|omega))|(with_reducible first|apply Bx.alc|apply Bx.dr|apply Bx.sc0|apply Bx.set4|apply Bx.set6)|((with_reducible apply Bx.sne);(first|simp<;>omega|omega))));done)));(try have zc1:=z1.at0);(try have zf1:=z1.free 0);(try have zl1:=z1.lt);have hl02:=HL0.out.keep hf rfl;have hl12:=HL1.out.keep hf rfl;have HW2:=Lib.hid hw2;have Hf:=Lib.hid hf;have HLb0:=Lib.hid hl02;have HLb1:=Lib.hid hl12;clear hw2 hf hfW hbW hs2 hno hl02 hl12)))
   all_goals
     go_wp2_with fail
     go_meet
     refine⟨_,rfl,rfl,?_,?_⟩
     · (repeat (first|(with_reducible first|assumption|refine Noted.drew ?_|refine Noted.alc ?_)|((with_reducible apply Noted.sv_u64);((first|simp<;>omega|omega));(focus ((repeat (first|with_reducible assumption|((with_reducible apply Bx.newq');(first|simp<;>omega|omega))|(with_reducible first|apply Bx.alc|apply Bx.dr|apply Bx.sc0|apply Bx.set4|apply Bx.set6)|((with_reducible apply Bx.sne);(first|simp<;>omega|omega))));done)))))
     · (repeat (first|with_reducible assumption|((with_reducible apply Bx.newq');(first|simp<;>omega|omega))|(with_reducible first|apply Bx.alc|apply Bx.dr|apply Bx.sc0|apply Bx.set4|apply Bx.set6)|((with_reducible apply Bx.sne);(first|simp<;>omega|omega))))
 case rest=>
   obtain⟨q6,rfl,rfl,hno,z6⟩:=hcut
   have hf:=(hno.acc HW.out.st).2
   have hw:=HW.out.noted hno
   have hl0:=HL0.out.keep hf rfl
   have hl1:=HL1.out.keep hf rfl
   have c6:=z6.at0
   have hq:=Hq.out
   have g6:=z6.lt
   clear HSa HS HLt HL0 HL1 HW Hh Kl hno hf
   by_cases hp:m.word 0%2=1
   · skip
     have hp':((m.word 0:Nat):Int)%2=1:=by omega
     have hx:stepF Bl E.A.list E.A.room .split x m=more (moveK lv 0) x m.touch:=by
       show(if m.word 0%2=1 then _ else _)=_
       rw[if_pos hp,Hlv.out]
     have Hx:=Lib.hid hx
     clear hx
     go_wp2_with fail
     refine wp_name (fun u=>Was w B E x (m.touch) u∧Bx u w.heap.size 37 res0∧Bx u (w.heap.size+1) 37 res0∧Bx u q6 61 #[.int .u64 (m.word 0:Nat)]∧Bx u wc.heap.size 3 #[.int .i64 (lv:Nat)]) ⟨hw.later (below_allocs [_] wc),hl0.alloc _,hl1.alloc _,z6.alloc _,bx_allocs wc [_] 0 rfl⟩ ?_
     rintro y ⟨hw,hl0,hl1,hl2,hl3⟩
     clear hp hp' hq c6 g6
     have Kf:Hid (∀W,Calls Tryz.prog 84 #[P E.A.lanes,.int .i64 E.who,.int .i64 lv,.int .i64 0,.func (.func 60) #[] #[]] W (KRes W E (moveK lv 0))):=fun W=>move_any E lv 0 W Hlv5.out (Nat.zero_le _)
     have HW:=Lib.hid hw
     have HL0:=Lib.hid hl0
     have HL1:=Lib.hid hl1
     have HL2:=Lib.hid hl2
     have HL3:=Lib.hid hl3
     have HS:Hid (∀(mm:Mem) (W:World),Was w B E x mm W→Fr B [] y W→W.cell? ⟨b0,0,none⟩=some (P E.A.lanes)∧W.cell? ⟨b1,0,none⟩=some (.int .i64 E.who)∧W.cell? ⟨wc.heap.size,0,none⟩=some (.int .i64 (lv:Nat))∧W.cell? ⟨b2,0,none⟩=some (.func (.func 60) #[] #[])∧W.cell? ⟨w.heap.size+1,0,none⟩=some (.bool false)∧W.cell? ⟨w.heap.size+1,1,none⟩=some (.int .i64 0)∧W.cell? ⟨w.heap.size+1,2,none⟩=some (.bool false)∧W.cell? ⟨w.heap.size+1,3,none⟩=some (.int .i64 0)∧W.cell? ⟨w.heap.size+1,4,none⟩=some (.int .i64 0)∧W.cell? ⟨w.heap.size+1,5,none⟩=some (.int .i64 0)∧W.cell? ⟨w.heap.size+1,6,none⟩=some (.int .i64 0)):=fun mm W hw hf=>⟨(H.out.1.keep hw.fr rfl).cell 0,(H.out.2.1.keep hw.fr rfl).cell 0,(HL3.out.keep hf rfl).cell 0,(H.out.2.2.keep hw.fr rfl).cell 0,(HL1.out.keep hf rfl).cell 0,(HL1.out.keep hf rfl).cell 1,(HL1.out.keep hf rfl).cell 2,(HL1.out.keep hf rfl).cell 3,(HL1.out.keep hf rfl).cell 4,(HL1.out.keep hf rfl).cell 5,(HL1.out.keep hf rfl).cell 6⟩
     have HSa:Hid (∀W:World,Below y.heap.size y W→W.cell? ⟨b0,0,none⟩=some (P E.A.lanes)∧W.cell? ⟨b1,0,none⟩=some (.int .i64 E.who)∧W.cell? ⟨wc.heap.size,0,none⟩=some (.int .i64 (lv:Nat))∧W.cell? ⟨b2,0,none⟩=some (.func (.func 60) #[] #[])∧W.cell? ⟨w.heap.size+1,0,none⟩=some (.bool false)∧W.cell? ⟨w.heap.size+1,1,none⟩=some (.int .i64 0)∧W.cell? ⟨w.heap.size+1,2,none⟩=some (.bool false)∧W.cell? ⟨w.heap.size+1,3,none⟩=some (.int .i64 0)∧W.cell? ⟨w.heap.size+1,4,none⟩=some (.int .i64 0)∧W.cell? ⟨w.heap.size+1,5,none⟩=some (.int .i64 0)∧W.cell? ⟨w.heap.size+1,6,none⟩=some (.int .i64 0)):=fun W hb=>HS.out _ W (HW.out.later hb) (Fr.of_below HW.out.st.below.2.2.2 hb)
     have HLt:Hid (b0<y.heap.size∧b1<y.heap.size∧wc.heap.size<y.heap.size∧b2<y.heap.size∧w.heap.size+1<y.heap.size∧w.heap.size+1<y.heap.size∧w.heap.size+1<y.heap.size∧w.heap.size+1<y.heap.size∧w.heap.size+1<y.heap.size∧w.heap.size+1<y.heap.size∧w.heap.size+1<y.heap.size):=⟨(H.out.1.keep HW.out.fr rfl).lt,(H.out.2.1.keep HW.out.fr rfl).lt,HL3.out.lt,(H.out.2.2.keep HW.out.fr rfl).lt,HL1.out.lt,HL1.out.lt,HL1.out.lt,HL1.out.lt,HL1.out.lt,HL1.out.lt,HL1.out.lt⟩
     clear hw hl0 hl1 hl2 hl3
     go_region_held3 (fun w'=>w'.cell? ⟨b0,0,none⟩=some (P E.A.lanes)∧w'.cell? ⟨b1,0,none⟩=some (.int .i64 E.who)∧w'.cell? ⟨wc.heap.size,0,none⟩=some (.int .i64 (lv:Nat))∧w'.cell? ⟨b2,0,none⟩=some (.func (.func 60) #[] #[])∧w'.cell? ⟨w.heap.size+1,0,none⟩=some (.bool false)∧w'.cell? ⟨w.heap.size+1,1,none⟩=some (.int .i64 0)∧w'.cell? ⟨w.heap.size+1,2,none⟩=some (.bool false)∧w'.cell? ⟨w.heap.size+1,3,none⟩=some (.int .i64 0)∧w'.cell? ⟨w.heap.size+1,4,none⟩=some (.int .i64 0)∧w'.cell? ⟨w.heap.size+1,5,none⟩=some (.int .i64 0)∧w'.cell? ⟨w.heap.size+1,6,none⟩=some (.int .i64 0)) (first|(refine HSa.out _ ?_;(repeat (first|(with_reducible first|exact RowKit.Below.refl _ _|assumption|refine RowKit.Below.drew ?_)|((with_reducible first|refine belAlloc ?_ ?_|refine belSet ?_ ?_);(first|simp<;>omega|omega))));done)|(refine hSb _ ?_;(repeat (first|(with_reducible first|exact RowKit.Below.refl _ _|assumption|refine RowKit.Below.drew ?_)|((with_reducible first|refine belAlloc ?_ ?_|refine belSet ?_ ?_);(first|simp<;>omega|omega))));done)|(simp only[set7_same hres];refine hSb _ ?_;(repeat (first|(with_reducible first|exact RowKit.Below.refl _ _|assumption|refine RowKit.Below.drew ?_)|((with_reducible first|refine belAlloc ?_ ?_|refine belSet ?_ ?_);(first|simp<;>omega|omega))));done)) ((first|(go_at_call 84;(refine (Kf.out _).mono ?_);rintro e w2 ⟨v,rfl,hk,hb⟩;have hbW:=belOfB (u:=y) hb (by (repeat (first|(with_reducible first|exact RowKit.Below.refl _ _|assumption|refine RowKit.Below.drew ?_)|((with_reducible first|refine belAlloc ?_ ?_|refine belSet ?_ ?_);(first|simp<;>omega|omega)))));have hbu:=hbW.trans (hb.mono hbW.size);have hw2:=HW.out.later hbu;have hf:Fr B [] y w2:=Fr.of_below HW.out.st.below.2.2.2 hbu;have hfW:Fr B [] _ w2:=Fr.of_below (Nat.le_trans HW.out.st.below.2.2.2 hbW.size) hb;have Hk:=Lib.hid hk;clear hk;have hs2:=HS.out _ w2 hw2 hf;have hSb: ∀W:World,Below y.heap.size w2 W→W.cell? ⟨b0,0,none⟩=some (P E.A.lanes)∧W.cell? ⟨b1,0,none⟩=some (.int .i64 E.who)∧W.cell? ⟨wc.heap.size,0,none⟩=some (.int .i64 (lv:Nat))∧W.cell? ⟨b2,0,none⟩=some (.func (.func 60) #[] #[])∧W.cell? ⟨w.heap.size+1,0,none⟩=some (.bool false)∧W.cell? ⟨w.heap.size+1,1,none⟩=some (.int .i64 0)∧W.cell? ⟨w.heap.size+1,2,none⟩=some (.bool false)∧W.cell? ⟨w.heap.size+1,3,none⟩=some (.int .i64 0)∧W.cell? ⟨w.heap.size+1,4,none⟩=some (.int .i64 0)∧W.cell? ⟨w.heap.size+1,5,none⟩=some (.int .i64 0)∧W.cell? ⟨w.heap.size+1,6,none⟩=some (.int .i64 0):=fun W hb=>⟨cell_lt HLt.out.1 hb hs2.1,cell_lt HLt.out.2.1 hb hs2.2.1,cell_lt HLt.out.2.2.1 hb hs2.2.2.1,cell_lt HLt.out.2.2.2.1 hb hs2.2.2.2.1,cell_lt HLt.out.2.2.2.2.1 hb hs2.2.2.2.2.1,cell_lt HLt.out.2.2.2.2.2.1 hb hs2.2.2.2.2.2.1,cell_lt HLt.out.2.2.2.2.2.2.1 hb hs2.2.2.2.2.2.2.1,cell_lt HLt.out.2.2.2.2.2.2.2.1 hb hs2.2.2.2.2.2.2.2.1,cell_lt HLt.out.2.2.2.2.2.2.2.2.1 hb hs2.2.2.2.2.2.2.2.2.1,cell_lt HLt.out.2.2.2.2.2.2.2.2.2.1 hb hs2.2.2.2.2.2.2.2.2.2.1,cell_lt HLt.out.2.2.2.2.2.2.2.2.2.2 hb hs2.2.2.2.2.2.2.2.2.2.2⟩;have hsk:=hs2;have hsz:=hf.size;have hl02:=HL0.out.keep hf rfl;have hl12:=HL1.out.keep hf rfl;have hl22:=HL2.out.keep hf rfl;have hl32:=HL3.out.keep hf rfl;have hres:=hl02;obtain⟨r0,r1,r2,r3,r4,r5,r6⟩:=res_cells hl02;obtain⟨f0,f1,f2,f3,f4,f5,f6⟩:=res_free hl02;have HW2:=Lib.hid hw2;have Hf:=Lib.hid hf;have HLb0:=Lib.hid hl02;have HLb1:=Lib.hid hl12;have HLb2:=Lib.hid hl22;have HLb3:=Lib.hid hl32;clear hw2 hf hfW hbW hs2 hb hbu hl02 hl12 hl22 hl32)))
     all_goals
       rw[set7_same hres]
       go_wp2_with fail
       rw[Hx.out]
       exact bodyPost_ret (v:= .tuple #[v,.agg res0]) (by simp [results,Tryz.results82,go_sem,r0,r1,r2,r3,r4,r5,r6]) rfl ⟨v,false,err 0,rfl,⟨Hk.out,rfl,rfl⟩,HW2.out.call,HW2.out.st,HW2.out.fr⟩
   · skip
     have hp': ¬((m.word 0:Nat):Int)%2=1:=by omega
     by_cases h4:lv=4
     · skip
       have h4':(lv:Int)=4:=by omega
       have hx:stepF Bl E.A.list E.A.room .split x m=fin (err 5) x m.touch:=by
         show(if m.word 0%2=1 then _ else if m.word 0/2=4 then _ else _)=_
         rw[if_neg hp,if_pos (by rw[Hlv.out];exact h4)]
       have Hx:=Lib.hid hx
       clear hx
       have c2:=(H.out.2.2.keep hw.fr rfl).at0
       have l2:=(H.out.2.2.keep hw.fr rfl).lt
       have HW:=Lib.hid hw;have HL0:=Lib.hid hl0
       have Y0:=Lib.hid (hw.later (below_allocs [.cells #[.int .i64 4] 3] wc))
       have YL0:=Lib.hid (hl0.alloc (.cells #[.int .i64 4] 3))
       have l2':b2<wc.heap.size+1:=by omega
       clear hw hl0 hl1 z6 h4
       go_wp2_with (go_at_call 60;(refine (first1_any _ _).mono ?_);rintro e w3 ⟨rfl,hb⟩;have hw3:=Y0.out.later hb;have hr3:=YL0.out.keep (fr0 hb) rfl;obtain⟨r0,r1,r2,r3,r4,r5,r6⟩:=res_cells hr3;obtain⟨f0,f1,f2,f3,f4,f5,f6⟩:=res_free hr3;have Hr3:=Lib.hid hr3;have HW3:=Lib.hid hw3;clear hr3 hw3 hb)
       rw[Hx.out]
       exact bodyPost_ret (v:= .tuple #[.nilFunc,.agg (resA true (err 5))]) (by simp [results,Tryz.results82,go_sem,r0,r1,r2,r3,r4,r5,r6]) rfl ((Ans.fin HW3.out).store Hr3.out (Nat.le_refl _) HB0.out).ores
     · skip
       have h4': ¬(lv:Int)=4:=by omega
       have hx:stepF Bl E.A.list E.A.room .split x m=more (.splitSwap (m.word 0) lv) x m.touch:=by
         show(if m.word 0%2=1 then _ else if m.word 0/2=4 then _ else _)=_
         rw[if_neg hp,if_neg (by rw[Hlv.out];exact h4),Hlv.out]
       have Hx:=Lib.hid hx
       clear hx
       go_wp2_with fail
       refine wp_name (fun u=>Was w B E x (m.touch) u∧Bx u w.heap.size 37 res0∧Bx u (w.heap.size+1) 37 res0∧Bx u q6 61 #[.int .u64 (m.word 0:Nat)]∧Bx u wc.heap.size 3 #[.int .i64 (lv:Nat)]) ⟨hw.later (below_allocs [_] wc),hl0.alloc _,hl1.alloc _,z6.alloc _,bx_allocs wc [_] 0 rfl⟩ ?_
       rintro y ⟨hw,hl0,hl1,hl2,hl3⟩
       clear hp hp' h4 h4' hq c6 g6
       have hk:KontAt y E (.func (.func 85) #[] #[P b0,P b1,P q6,P b2,P (w.heap.size+1),P wc.heap.size]) _:=(show KontAt y E _ (.splitSwap (m.word 0) lv)from⟨_,_,_,_,_,_,rfl,H.out.1.keep hw.fr rfl,H.out.2.1.keep hw.fr rfl,hl2,H.out.2.2.keep hw.fr rfl,hl1,hl3⟩)
       have Hk:=Lib.hid hk;clear hk
       have hres:=hl0
       obtain⟨r0,r1,r2,r3,r4,r5,r6⟩:=res_cells hres;obtain⟨f0,f1,f2,f3,f4,f5,f6⟩:=res_free hres
       have HW:=Lib.hid hw
       have HL0:=Lib.hid hl0
       have HL1:=Lib.hid hl1
       have HL2:=Lib.hid hl2
       have HL3:=Lib.hid hl3
       have HS:Hid (∀(mm:Mem) (W:World),Was w B E x mm W→Fr B [] y W→W.cell? ⟨w.heap.size+1,0,none⟩=some (.bool false)∧W.cell? ⟨w.heap.size+1,1,none⟩=some (.int .i64 0)∧W.cell? ⟨w.heap.size+1,2,none⟩=some (.bool false)∧W.cell? ⟨w.heap.size+1,3,none⟩=some (.int .i64 0)∧W.cell? ⟨w.heap.size+1,4,none⟩=some (.int .i64 0)∧W.cell? ⟨w.heap.size+1,5,none⟩=some (.int .i64 0)∧W.cell? ⟨w.heap.size+1,6,none⟩=some (.int .i64 0)):=fun mm W hw hf=>⟨(HL1.out.keep hf rfl).cell 0,(HL1.out.keep hf rfl).cell 1,(HL1.out.keep hf rfl).cell 2,(HL1.out.keep hf rfl).cell 3,(HL1.out.keep hf rfl).cell 4,(HL1.out.keep hf rfl).cell 5,(HL1.out.keep hf rfl).cell 6⟩
       have HSa:Hid (∀W:World,Below y.heap.size y W→W.cell? ⟨w.heap.size+1,0,none⟩=some (.bool false)∧W.cell? ⟨w.heap.size+1,1,none⟩=some (.int .i64 0)∧W.cell? ⟨w.heap.size+1,2,none⟩=some (.bool false)∧W.cell? ⟨w.heap.size+1,3,none⟩=some (.int .i64 0)∧W.cell? ⟨w.heap.size+1,4,none⟩=some (.int .i64 0)∧W.cell? ⟨w.heap.size+1,5,none⟩=some (.int .i64 0)∧W.cell? ⟨w.heap.size+1,6,none⟩=some (.int .i64 0)):=fun W hb=>HS.out _ W (HW.out.later hb) (Fr.of_below HW.out.st.below.2.2.2 hb)
       have HLt:Hid (w.heap.size+1<y.heap.size∧w.heap.size+1<y.heap.size∧w.heap.size+1<y.heap.size∧w.heap.size+1<y.heap.size∧w.heap.size+1<y.heap.size∧w.heap.size+1<y.heap.size∧w.heap.size+1<y.heap.size):=⟨HL1.out.lt,HL1.out.lt,HL1.out.lt,HL1.out.lt,HL1.out.lt,HL1.out.lt,HL1.out.lt⟩
       clear hw hl0 hl1 hl2 hl3
       go_region_held3 (fun w'=>w'.cell? ⟨w.heap.size+1,0,none⟩=some (.bool false)∧w'.cell? ⟨w.heap.size+1,1,none⟩=some (.int .i64 0)∧w'.cell? ⟨w.heap.size+1,2,none⟩=some (.bool false)∧w'.cell? ⟨w.heap.size+1,3,none⟩=some (.int .i64 0)∧w'.cell? ⟨w.heap.size+1,4,none⟩=some (.int .i64 0)∧w'.cell? ⟨w.heap.size+1,5,none⟩=some (.int .i64 0)∧w'.cell? ⟨w.heap.size+1,6,none⟩=some (.int .i64 0)) (first|(refine HSa.out _ ?_;(repeat (first|(with_reducible first|exact RowKit.Below.refl _ _|assumption|refine RowKit.Below.drew ?_)|((with_reducible first|refine belAlloc ?_ ?_|refine belSet ?_ ?_);(first|simp<;>omega|omega))));done)|(simp only[set7_same hres];refine HSa.out _ ?_;(repeat (first|(with_reducible first|exact RowKit.Below.refl _ _|assumption|refine RowKit.Below.drew ?_)|((with_reducible first|refine belAlloc ?_ ?_|refine belSet ?_ ?_);(first|simp<;>omega|omega))));done)) (fail)
       rw[set7_same hres]
       go_wp2_with fail
       rw[Hx.out]
       exact bodyPost_ret (v:= .tuple #[.func (.func 85) #[] #[P b0,P b1,P q6,P b2,P (w.heap.size+1),P wc.heap.size],.agg res0]) (by simp [results,Tryz.results82,go_sem,r0,r1,r2,r3,r4,r5,r6]) rfl ⟨_,false,err 0,rfl,⟨Hk.out.keep (fr0 (RowKit.Below.refl _ _).drew),rfl,rfl⟩,HW.out.drew.call,HW.out.drew.st,HW.out.drew.fr⟩
end Go.Proofs.YtemnhpdjoimjbaaGreatDoor
