import Derived.Test.YtemnhpdjoimjbaaGreatDoorTw24
namespace Go.Proofs.YtemnhpdjoimjbaaGreatDoor
section
open Go.RowKit Top
set_option linter.unusedVariables false
set_option maxHeartbeats 1000000 in
set_option maxRecDepth 100000 in
theorem cload_any (B:Nat) (E:Env) (x:Live) (m:Mem) (word:Nat) (w:World) (hs:St w B E.A m) (hc:CallAt w E x) (ok:E.Ok m) (hi:word<34):
   Calls Tryz.prog 62 #[P E.x,.int .i64 word] w fun e w'=>e= .returned (.int .u64 (m.word word:Nat))∧Noted w B E.A m w':=by
 obtain⟨ha,hn,hcp,hh,_⟩:=hold_cell hs hi
 have Kl:=Lib.hid (fun W h hh=>bload_at B E.A m E.who word ha hn hcp W h ok.who0 ok.who1 hi ok.count hh)
 have W0:=Lib.hid (Was.start hs hc)
 have Hh:Hid (∀W,Below w.heap.size w W→W.cell? ⟨E.A.holds,word,none⟩=some (.slice ha hn hcp)):=fun W hb=>cell_later hb hh
 clear hs hc ok hh
 go_enter Tryz.func62,Tryz.ntmps62
 go_wp2_with fail
 have hw:=W0.out
 have HW:=Lib.hid hw
 have HS:Hid (∀(mm:Mem) (W:World),Was w B E x mm W→Fr B [] w W→W.cell? ⟨E.x,4,none⟩=some (P E.A.K)∧W.cell? ⟨E.x,5,none⟩=some (.int .i64 E.who)∧W.cell? ⟨E.A.K,2,none⟩=some (P E.A.lanes)∧W.cell? ⟨E.A.lanes,0,none⟩=some (P E.A.board)):=fun mm W hw hf=>⟨hw.call.c4,hw.call.c5,hw.st.core.c2,hw.st.lanes.cell 0⟩
 have HSa:Hid (∀W:World,Below w.heap.size w W→W.cell? ⟨E.x,4,none⟩=some (P E.A.K)∧W.cell? ⟨E.x,5,none⟩=some (.int .i64 E.who)∧W.cell? ⟨E.A.K,2,none⟩=some (P E.A.lanes)∧W.cell? ⟨E.A.lanes,0,none⟩=some (P E.A.board)):=fun W hb=>HS.out _ W (HW.out.later hb) (Fr.of_below HW.out.st.below.2.2.2 hb)
 have HLt:Hid (E.x<w.heap.size∧E.x<w.heap.size∧E.A.K<w.heap.size∧E.A.lanes<w.heap.size):=⟨HW.out.call.lt,HW.out.call.lt,HW.out.st.core.lt,HW.out.st.lanes.lt⟩
 clear hw
 go_region_held3 (fun w'=>w'.cell? ⟨E.x,4,none⟩=some (P E.A.K)∧w'.cell? ⟨E.x,5,none⟩=some (.int .i64 E.who)∧w'.cell? ⟨E.A.K,2,none⟩=some (P E.A.lanes)∧w'.cell? ⟨E.A.lanes,0,none⟩=some (P E.A.board)) (first|(refine HSa.out _ ?_;(repeat (first|(with_reducible first|exact RowKit.Below.refl _ _|assumption|refine RowKit.Below.drew ?_)|((with_reducible first|refine belAlloc ?_ ?_|refine belSet ?_ ?_);(first|simp<;>omega|omega))));done)|(refine hSb _ ?_;(repeat (first|(with_reducible first|exact RowKit.Below.refl _ _|assumption|refine RowKit.Below.drew ?_)|((with_reducible first|refine belAlloc ?_ ?_|refine belSet ?_ ?_);(first|simp<;>omega|omega))));done)) ((first|(go_at_call 83;(refine (Kl.out _ (HW.out.later (by (repeat (first|(with_reducible first|exact RowKit.Below.refl _ _|assumption|refine RowKit.Below.drew ?_)|((with_reducible first|refine belAlloc ?_ ?_|refine belSet ?_ ?_);(first|simp<;>omega|omega)))))).st (Hh.out _ (by (repeat (first|(with_reducible first|exact RowKit.Below.refl _ _|assumption|refine RowKit.Below.drew ?_)|((with_reducible first|refine belAlloc ?_ ?_|refine belSet ?_ ?_);(first|simp<;>omega|omega))))))).mono ?_);rintro e w1 ⟨rfl,hno⟩;have hbW:=belOfN (u:=w) hno (by (repeat (first|(with_reducible first|exact RowKit.Below.refl _ _|assumption|refine RowKit.Below.drew ?_)|((with_reducible first|refine belAlloc ?_ ?_|refine belSet ?_ ?_);(first|simp<;>omega|omega)))));have n2:=hno.pre HW.out.st hbW;have hw2:=HW.out.noted n2;have hf:=(n2.acc HW.out.st).2;have hfW:=(hno.acc (HW.out.later hbW).st).2;have Hn2:=Lib.hid n2;have hs2:=HS.out _ w1 hw2 hf;have hSb: ∀W:World,Below w.heap.size w1 W→W.cell? ⟨E.x,4,none⟩=some (P E.A.K)∧W.cell? ⟨E.x,5,none⟩=some (.int .i64 E.who)∧W.cell? ⟨E.A.K,2,none⟩=some (P E.A.lanes)∧W.cell? ⟨E.A.lanes,0,none⟩=some (P E.A.board):=fun W hb=>⟨cell_lt HLt.out.1 hb hs2.1,cell_lt HLt.out.2.1 hb hs2.2.1,cell_lt HLt.out.2.2.1 hb hs2.2.2.1,cell_lt HLt.out.2.2.2 hb hs2.2.2.2⟩;have hsk:=hs2;have hsz:=hf.size;have HW2:=Lib.hid hw2;have Hf:=Lib.hid hf;clear hw2 hf hfW hbW hs2 hno)))
 go_wp2_with fail
 go_ret
 exact⟨rfl,Hn2.out⟩
set_option maxHeartbeats 1000000 in
set_option maxRecDepth 100000 in
theorem cnow_any (B:Nat) (E:Env) (x:Live) (m:Mem) (w:World) (hs:St w B E.A m) (hc:CallAt w E x) (ok:E.Ok m):
   Calls Tryz.prog 91 #[P E.x] w fun e w'=>e= .returned (.int .i64 m.clock)∧Noted w B E.A m w':=by
 have Kl:=Lib.hid (fun W h=>mclock_any B E.A m E.who W h ok.who0 ok.who1 ok.count)
 have W0:=Lib.hid (Was.start hs hc)
 clear hs hc ok
 go_enter Tryz.func91,Tryz.ntmps91
 go_wp2_with fail
 have hw:=W0.out
 have HW:=Lib.hid hw
 have HS:Hid (∀(mm:Mem) (W:World),Was w B E x mm W→Fr B [] w W→W.cell? ⟨E.x,4,none⟩=some (P E.A.K)∧W.cell? ⟨E.x,5,none⟩=some (.int .i64 E.who)∧W.cell? ⟨E.A.K,2,none⟩=some (P E.A.lanes)∧W.cell? ⟨E.A.lanes,0,none⟩=some (P E.A.board)∧W.cell? ⟨E.A.board,0,none⟩=some (P E.A.mach)):=fun mm W hw hf=>⟨hw.call.c4,hw.call.c5,hw.st.core.c2,hw.st.lanes.cell 0,hw.st.board.cell 0⟩
 have HSa:Hid (∀W:World,Below w.heap.size w W→W.cell? ⟨E.x,4,none⟩=some (P E.A.K)∧W.cell? ⟨E.x,5,none⟩=some (.int .i64 E.who)∧W.cell? ⟨E.A.K,2,none⟩=some (P E.A.lanes)∧W.cell? ⟨E.A.lanes,0,none⟩=some (P E.A.board)∧W.cell? ⟨E.A.board,0,none⟩=some (P E.A.mach)):=fun W hb=>HS.out _ W (HW.out.later hb) (Fr.of_below HW.out.st.below.2.2.2 hb)
 have HLt:Hid (E.x<w.heap.size∧E.x<w.heap.size∧E.A.K<w.heap.size∧E.A.lanes<w.heap.size∧E.A.board<w.heap.size):=⟨HW.out.call.lt,HW.out.call.lt,HW.out.st.core.lt,HW.out.st.lanes.lt,HW.out.st.board.lt⟩
 clear hw
 go_region_held3 (fun w'=>w'.cell? ⟨E.x,4,none⟩=some (P E.A.K)∧w'.cell? ⟨E.x,5,none⟩=some (.int .i64 E.who)∧w'.cell? ⟨E.A.K,2,none⟩=some (P E.A.lanes)∧w'.cell? ⟨E.A.lanes,0,none⟩=some (P E.A.board)∧w'.cell? ⟨E.A.board,0,none⟩=some (P E.A.mach)) (first|(refine HSa.out _ ?_;(repeat (first|(with_reducible first|exact RowKit.Below.refl _ _|assumption|refine RowKit.Below.drew ?_)|((with_reducible first|refine belAlloc ?_ ?_|refine belSet ?_ ?_);(first|simp<;>omega|omega))));done)|(refine hSb _ ?_;(repeat (first|(with_reducible first|exact RowKit.Below.refl _ _|assumption|refine RowKit.Below.drew ?_)|((with_reducible first|refine belAlloc ?_ ?_|refine belSet ?_ ?_);(first|simp<;>omega|omega))));done)) ((first|(go_at_call 128;(refine (Kl.out _ (HW.out.later (by (repeat (first|(with_reducible first|exact RowKit.Below.refl _ _|assumption|refine RowKit.Below.drew ?_)|((with_reducible first|refine belAlloc ?_ ?_|refine belSet ?_ ?_);(first|simp<;>omega|omega)))))).st).mono ?_);rintro e w1 ⟨rfl,hno⟩;have hbW:=belOfN (u:=w) hno (by (repeat (first|(with_reducible first|exact RowKit.Below.refl _ _|assumption|refine RowKit.Below.drew ?_)|((with_reducible first|refine belAlloc ?_ ?_|refine belSet ?_ ?_);(first|simp<;>omega|omega)))));have n2:=hno.pre HW.out.st hbW;have hw2:=HW.out.noted n2;have hf:=(n2.acc HW.out.st).2;have hfW:=(hno.acc (HW.out.later hbW).st).2;have Hn2:=Lib.hid n2;have hs2:=HS.out _ w1 hw2 hf;have hSb: ∀W:World,Below w.heap.size w1 W→W.cell? ⟨E.x,4,none⟩=some (P E.A.K)∧W.cell? ⟨E.x,5,none⟩=some (.int .i64 E.who)∧W.cell? ⟨E.A.K,2,none⟩=some (P E.A.lanes)∧W.cell? ⟨E.A.lanes,0,none⟩=some (P E.A.board)∧W.cell? ⟨E.A.board,0,none⟩=some (P E.A.mach):=fun W hb=>⟨cell_lt HLt.out.1 hb hs2.1,cell_lt HLt.out.2.1 hb hs2.2.1,cell_lt HLt.out.2.2.1 hb hs2.2.2.1,cell_lt HLt.out.2.2.2.1 hb hs2.2.2.2.1,cell_lt HLt.out.2.2.2.2 hb hs2.2.2.2.2⟩;have hsk:=hs2;have hsz:=hf.size;have HW2:=Lib.hid hw2;have Hf:=Lib.hid hf;clear hw2 hf hfW hbW hs2 hno)))
 go_wp2_with fail
 go_ret
 exact⟨rfl,Hn2.out⟩
set_option maxHeartbeats 1000000 in
set_option maxRecDepth 100000 in
theorem cswap_any (B:Nat) (E:Env) (x:Live) (m:Mem) (word old new:Nat) (w:World) (hs:St w B E.A m) (hc:CallAt w E x) (ok:E.Ok m) (hi:word<34) (hn:new<18446744073709551616):
   Calls Tryz.prog 155 #[P E.x,.int .i64 word,.int .u64 old,.int .u64 new] w fun e w'=>e= .returned (.bool (m.swap word old new []).1)∧Acc w B E.A (m.swap word old new []).2 w':=by
 have Ks:=Lib.hid (fun W h=>bswap_any B E.A m E.who word old new (.slice none 0 0) [] W h ok.who0 ok.who1 hi hn (CellsAt.nil W) ok.count)
 have W0:=Lib.hid (Was.start hs hc)
 clear hs hc ok
 go_enter Tryz.func155,Tryz.ntmps155
 go_wp2_with fail
 have hw:=W0.out
 have HW:=Lib.hid hw
 have HS:Hid (∀(mm:Mem) (W:World),Was w B E x mm W→Fr B [] w W→W.cell? ⟨E.x,4,none⟩=some (P E.A.K)∧W.cell? ⟨E.x,5,none⟩=some (.int .i64 E.who)∧W.cell? ⟨E.A.K,2,none⟩=some (P E.A.lanes)∧W.cell? ⟨E.A.lanes,0,none⟩=some (P E.A.board)):=fun mm W hw hf=>⟨hw.call.c4,hw.call.c5,hw.st.core.c2,hw.st.lanes.cell 0⟩
 have HSa:Hid (∀W:World,Below w.heap.size w W→W.cell? ⟨E.x,4,none⟩=some (P E.A.K)∧W.cell? ⟨E.x,5,none⟩=some (.int .i64 E.who)∧W.cell? ⟨E.A.K,2,none⟩=some (P E.A.lanes)∧W.cell? ⟨E.A.lanes,0,none⟩=some (P E.A.board)):=fun W hb=>HS.out _ W (HW.out.later hb) (Fr.of_below HW.out.st.below.2.2.2 hb)
 have HLt:Hid (E.x<w.heap.size∧E.x<w.heap.size∧E.A.K<w.heap.size∧E.A.lanes<w.heap.size):=⟨HW.out.call.lt,HW.out.call.lt,HW.out.st.core.lt,HW.out.st.lanes.lt⟩
 clear hw
 go_region_held3 (fun w'=>w'.cell? ⟨E.x,4,none⟩=some (P E.A.K)∧w'.cell? ⟨E.x,5,none⟩=some (.int .i64 E.who)∧w'.cell? ⟨E.A.K,2,none⟩=some (P E.A.lanes)∧w'.cell? ⟨E.A.lanes,0,none⟩=some (P E.A.board)) (first|(refine HSa.out _ ?_;(repeat (first|(with_reducible first|exact RowKit.Below.refl _ _|assumption|refine RowKit.Below.drew ?_)|((with_reducible first|refine belAlloc ?_ ?_|refine belSet ?_ ?_);(first|simp<;>omega|omega))));done)|(refine hSb _ ?_;(repeat (first|(with_reducible first|exact RowKit.Below.refl _ _|assumption|refine RowKit.Below.drew ?_)|((with_reducible first|refine belAlloc ?_ ?_|refine belSet ?_ ?_);(first|simp<;>omega|omega))));done)) ((first|(go_at_call 32;(refine (Ks.out _ (HW.out.later (by (repeat (first|(with_reducible first|exact RowKit.Below.refl _ _|assumption|refine RowKit.Below.drew ?_)|((with_reducible first|refine belAlloc ?_ ?_|refine belSet ?_ ?_);(first|simp<;>omega|omega)))))).st).mono ?_);rintro e w1 ⟨rfl,hacc⟩;have hbW:=belOfA (u:=w) hacc (by (repeat (first|(with_reducible first|exact RowKit.Below.refl _ _|assumption|refine RowKit.Below.drew ?_)|((with_reducible first|refine belAlloc ?_ ?_|refine belSet ?_ ?_);(first|simp<;>omega|omega)))));have hw2:=(HW.out.later hbW).acc hacc;have hf:=Fr.trans (Fr.of_below (X:=[]) HW.out.st.below.2.2.2 hbW) hacc.2;have hfW:=hacc.2;have Hacc:=Lib.hid (And.intro hacc.1 hf);have hs2:=HS.out _ w1 hw2 hf;have hSb: ∀W:World,Below w.heap.size w1 W→W.cell? ⟨E.x,4,none⟩=some (P E.A.K)∧W.cell? ⟨E.x,5,none⟩=some (.int .i64 E.who)∧W.cell? ⟨E.A.K,2,none⟩=some (P E.A.lanes)∧W.cell? ⟨E.A.lanes,0,none⟩=some (P E.A.board):=fun W hb=>⟨cell_lt HLt.out.1 hb hs2.1,cell_lt HLt.out.2.1 hb hs2.2.1,cell_lt HLt.out.2.2.1 hb hs2.2.2.1,cell_lt HLt.out.2.2.2 hb hs2.2.2.2⟩;have hsk:=hs2;have hsz:=hf.size;have HW2:=Lib.hid hw2;have Hf:=Lib.hid hf;clear hw2 hf hfW hbW hs2 hacc)))
 go_wp2_with fail
 go_ret
 exact⟨rfl,Hacc.out⟩
set_option maxHeartbeats 1000000 in
set_option maxRecDepth 100000 in
theorem evict_any (B:Nat) (E:Env) (x:Live) (m:Mem) (j shards:Nat) (gone:Int) (w:World) (hs:St w B E.A m) (hcl:CallAt w E x) (hj:j<65536):
   Calls Tryz.prog 64 #[P E.x,.int .i64 j,.int .i64 shards,.int .i64 gone] w (KRes w E (.find j (.evict j shards gone))):=by
 have hb0:=below_allocs [.cells #[P E.x] 107,.cells #[.int .i64 j] 3,.cells #[.int .i64 shards] 3,.cells #[.int .i64 gone] 2,.cells #[.func (.func 86) #[] #[P (w.heap.size+1),P (w.heap.size+2),P w.heap.size]] 162] w
 have W0:=Lib.hid ((Was.start hs hcl).later hb0)
 have Hb0:=Lib.hid hb0
 have hju:IntKind.u64.wrap (j:Int)=(j:Int):=by rw[IntKind.wrap_u64];omega
 have Kf:=Lib.hid (fun W v h=>find_any E j (.evict j shards gone) v W h)
 clear hs hcl hb0 hj
 go_enter Tryz.func64,Tryz.ntmps64
 go_wp2_with fail
 refine wp_name (fun u=>Was w B E x (m) u∧Below w.heap.size w u∧Bx u w.heap.size 107 #[P E.x]∧Bx u (w.heap.size+1) 3 #[.int .i64 (j:Nat)]∧Bx u (w.heap.size+2) 3 #[.int .i64 (shards:Nat)]∧Bx u (w.heap.size+3) 2 #[.int .i64 gone]∧Bx u (w.heap.size+4) 162 #[.func (.func 86) #[] #[P (w.heap.size+1),P (w.heap.size+2),P w.heap.size]]) ⟨W0.out,Hb0.out,bx_allocs w [_,_,_,_,_] 0 rfl,bx_allocs w [_,_,_,_,_] 1 rfl,bx_allocs w [_,_,_,_,_] 2 rfl,bx_allocs w [_,_,_,_,_] 3 rfl,bx_allocs w [_,_,_,_,_] 4 rfl⟩ ?_
 rintro u ⟨hw,hbu0,hl0,hl1,hl2,hl3,hl4⟩
 have HBu:=Lib.hid hbu0;clear hbu0
 have HW:=Lib.hid hw
 have HL0:=Lib.hid hl0
 have HL1:=Lib.hid hl1
 have HL2:=Lib.hid hl2
 have HL3:=Lib.hid hl3
 have HL4:=Lib.hid hl4
 have HS:Hid (∀(mm:Mem) (W:World),Was w B E x mm W→Fr B [] u W→W.cell? ⟨w.heap.size,0,none⟩=some (P E.x)∧W.cell? ⟨E.x,4,none⟩=some (P E.A.K)∧W.cell? ⟨E.A.K,2,none⟩=some (P E.A.lanes)∧W.cell? ⟨E.x,5,none⟩=some (.int .i64 E.who)∧W.cell? ⟨w.heap.size+1,0,none⟩=some (.int .i64 (j:Nat))):=fun mm W hw hf=>⟨(HL0.out.keep hf rfl).cell 0,hw.call.c4,hw.st.core.c2,hw.call.c5,(HL1.out.keep hf rfl).cell 0⟩
 have HSa:Hid (∀W:World,Below u.heap.size u W→W.cell? ⟨w.heap.size,0,none⟩=some (P E.x)∧W.cell? ⟨E.x,4,none⟩=some (P E.A.K)∧W.cell? ⟨E.A.K,2,none⟩=some (P E.A.lanes)∧W.cell? ⟨E.x,5,none⟩=some (.int .i64 E.who)∧W.cell? ⟨w.heap.size+1,0,none⟩=some (.int .i64 (j:Nat))):=fun W hb=>HS.out _ W (HW.out.later hb) (Fr.of_below HW.out.st.below.2.2.2 hb)
 have HLt:Hid (w.heap.size<u.heap.size∧E.x<u.heap.size∧E.A.K<u.heap.size∧E.x<u.heap.size∧w.heap.size+1<u.heap.size):=⟨HL0.out.lt,HW.out.call.lt,HW.out.st.core.lt,HW.out.call.lt,HL1.out.lt⟩
 clear hw hl0 hl1 hl2 hl3 hl4
 have HT:Hid (∀W,Below u.heap.size u W→ThenAt W E (.func (.func 89) #[] #[P (w.heap.size+4),P (w.heap.size+3),P w.heap.size]) (.evict j shards gone)):=fun W hbb=>⟨_,_,_,_,rfl,HL4.out.keep (fr0 hbb) rfl,⟨_,_,_,rfl,HL1.out.keep (fr0 hbb) rfl,HL2.out.keep (fr0 hbb) rfl,HL0.out.keep (fr0 hbb) rfl⟩,HL3.out.keep (fr0 hbb) rfl,HL0.out.keep (fr0 hbb) rfl⟩
 go_region_held3 (fun w'=>w'.cell? ⟨w.heap.size,0,none⟩=some (P E.x)∧w'.cell? ⟨E.x,4,none⟩=some (P E.A.K)∧w'.cell? ⟨E.A.K,2,none⟩=some (P E.A.lanes)∧w'.cell? ⟨E.x,5,none⟩=some (.int .i64 E.who)∧w'.cell? ⟨w.heap.size+1,0,none⟩=some (.int .i64 (j:Nat))) (first|(refine HSa.out _ ?_;(repeat (first|(with_reducible first|exact RowKit.Below.refl _ _|assumption|refine RowKit.Below.drew ?_)|((with_reducible first|refine belAlloc ?_ ?_|refine belSet ?_ ?_);(first|simp<;>omega|omega))));done)|(refine hSb _ ?_;(repeat (first|(with_reducible first|exact RowKit.Below.refl _ _|assumption|refine RowKit.Below.drew ?_)|((with_reducible first|refine belAlloc ?_ ?_|refine belSet ?_ ?_);(first|simp<;>omega|omega))));done)) ((first|(go_at_call 88;(refine (Kf.out _ _ (HT.out _ (by (repeat (first|(with_reducible first|exact RowKit.Below.refl _ _|assumption|refine RowKit.Below.drew ?_)|((with_reducible first|refine belAlloc ?_ ?_|refine belSet ?_ ?_);(first|simp<;>omega|omega))))))).mono ?_);rintro e w2 ⟨v,rfl,hk,hb⟩;have hbW:=belOfB (u:=u) hb (by (repeat (first|(with_reducible first|exact RowKit.Below.refl _ _|assumption|refine RowKit.Below.drew ?_)|((with_reducible first|refine belAlloc ?_ ?_|refine belSet ?_ ?_);(first|simp<;>omega|omega)))));have hbu:=hbW.trans (hb.mono hbW.size);have hw2:=HW.out.later hbu;have hf:Fr B [] u w2:=Fr.of_below HW.out.st.below.2.2.2 hbu;have hfW:Fr B [] _ w2:=Fr.of_below (Nat.le_trans HW.out.st.below.2.2.2 hbW.size) hb;have Hk:=Lib.hid hk;have HB2:=Lib.hid hbu;clear hk;have hs2:=HS.out _ w2 hw2 hf;have hSb: ∀W:World,Below u.heap.size w2 W→W.cell? ⟨w.heap.size,0,none⟩=some (P E.x)∧W.cell? ⟨E.x,4,none⟩=some (P E.A.K)∧W.cell? ⟨E.A.K,2,none⟩=some (P E.A.lanes)∧W.cell? ⟨E.x,5,none⟩=some (.int .i64 E.who)∧W.cell? ⟨w.heap.size+1,0,none⟩=some (.int .i64 (j:Nat)):=fun W hb=>⟨cell_lt HLt.out.1 hb hs2.1,cell_lt HLt.out.2.1 hb hs2.2.1,cell_lt HLt.out.2.2.1 hb hs2.2.2.1,cell_lt HLt.out.2.2.2.1 hb hs2.2.2.2.1,cell_lt HLt.out.2.2.2.2 hb hs2.2.2.2.2⟩;have hsk:=hs2;have hsz:=hf.size;have hl02:=HL0.out.keep hf rfl;have hl12:=HL1.out.keep hf rfl;have hl22:=HL2.out.keep hf rfl;have hl32:=HL3.out.keep hf rfl;have hl42:=HL4.out.keep hf rfl;have HW2:=Lib.hid hw2;have Hf:=Lib.hid hf;have HLb0:=Lib.hid hl02;have HLb1:=Lib.hid hl12;have HLb2:=Lib.hid hl22;have HLb3:=Lib.hid hl32;have HLb4:=Lib.hid hl42;clear hw2 hf hfW hbW hs2 hb hbu hl02 hl12 hl22 hl32 hl42)))
 all_goals
   go_wp2_with fail
   go_ret
   exact⟨v,rfl,Hk.out,HBu.out.trans (HB2.out.mono HBu.out.size)⟩
end
section
open Go.RowKit Top
set_option linter.unusedVariables false
variable (Bl : Top.Below)
theorem Row.setCal {w:World} {t:TypeId} {size n:Nat} {v:Value} {xs:List Value} (h:Row w t size n v xs) {r i:Nat} {c:Array Value} (hr:Bx w r 110 c) (ht:t≠110) (u:Value):Row (w.setCell ⟨r,i,none⟩ u) t size n v xs:=by
 obtain⟨h1,a,cc,h2,h3,h4,h5⟩:=h
 refine⟨h1,a,cc,h2,h3,h4,fun hn=> ?_⟩
 obtain⟨b,off,arr,h6,h7,h8⟩:=h5 hn
 exact⟨b,off,arr,h6,h7.sne (h7.ne hr ht),h8⟩
theorem CellsAt.setCal {w:World} {v:Value} {L:List Cell} (h:CellsAt w v L) {r i:Nat} {c:Array Value} (hr:Bx w r 110 c) (u:Value):CellsAt (w.setCell ⟨r,i,none⟩ u) v L:=by
 obtain⟨xs,h1,h2,h3,h4⟩:=h
 exact⟨xs,h1,h2.setCal hr (by decide) u,fun x hx=>⟨⟨(h3 x hx).1.1,(h3 x hx).1.2.setCal hr (by decide) u⟩,Row.setCal (h3 x hx).2 hr (by decide) u⟩,h4⟩
theorem CoreAt.setCal {w:World} {A:Adr} (h:CoreAt w A) {r i:Nat} {c:Array Value} (hr:Bx w r 110 c) (u:Value):CoreAt (w.setCell ⟨r,i,none⟩ u) A:=by
 obtain⟨arr,lv,h1,h2,h3,h4,h5,h6⟩:=h
 exact⟨arr,lv,h1.sne (h1.ne hr (by decide)),h2,h3,h4,h5,Row.setCal h6 hr (by decide) u⟩
theorem St.setCal {w:World} {B:Nat} {A:Adr} {m:Mem} (h:St w B A m) {r i:Nat} {c:Array Value} (hr:Bx w r 110 c) (u:Value):St (w.setCell ⟨r,i,none⟩ u) B A m:=by
 obtain⟨last,hm,n,xs,ho,hn,h1⟩:=h.mach
 obtain⟨hs,h2,h3,h4⟩:=h.holds
 refine⟨h.lanes.sne (h.lanes.ne hr (by decide)),h.board.sne (h.board.ne hr (by decide)),⟨last,hm.sne (hm.ne hr (by decide)),n,xs,ownsRow_setCell_other ho (own_ne ho hr (by decide)) _,hn,h1⟩,h.words.sne (h.words.ne hr (by decide)),h.nwords,h.wordlt,⟨hs,h2,h3.sne (h3.ne hr (by decide)),fun i hi=> ?_⟩,h.nholds,⟨h.below.1,h.below.2.1,h.below.2.2.1,by simpa [World.setCell]using h.below.2.2.2⟩,h.clock,h.count,h.core.setCal hr u⟩
 obtain⟨v,h5,h6⟩:=h4 i hi
 exact⟨v,h5,h6.setCal hr u⟩
theorem Fr.setCal {B:Nat} {a w:World} {b i:Nat} {c:Array Value} (h:Fr B [b] a w) (hb:Bx w b 110 c) (hB:B≤b) (v:Value):Fr B [b] a (w.setCell ⟨b,i,none⟩ v):=
 h.setCell (p:=⟨b,i,none⟩) hb hB rfl (fun _=>by simp) v
theorem Was.reserve {w u:World} {B:Nat} {E:Env} {x:Live} {m:Mem} (h:Was w B E x m u) (hB:B≤E.x) (b:Bool):Was w B E {x with reserved:=b } m (u.setCell ⟨E.x,7,none⟩ (.bool b)):=by
 obtain⟨key,h1,h2⟩:=h.call
 exact⟨h.st.setCal h1 _,⟨key,h1.setCell 7 _,h2.1,h2.2.setCal h1 (by decide) _⟩,h.fr.setCal h1 hB _⟩
theorem Was.serial {w u:World} {B:Nat} {E:Env} {x:Live} {m:Mem} (h:Was w B E x m u) (hB:B≤E.x) (n:Int):Was w B E {x with serial:=n } m (u.setCell ⟨E.x,8,none⟩ (.int .i64 n)):=by
 obtain⟨key,h1,h2⟩:=h.call
 exact⟨h.st.setCal h1 _,⟨key,h1.setCell 8 _,h2.1,h2.2.setCal h1 (by decide) _⟩,h.fr.setCal h1 hB _⟩
set_option maxHeartbeats 1000000 in
set_option maxRecDepth 100000 in
theorem further_any (B:Nat) (E:Env) (x:Live) (m:Mem) (j shards:Nat) (gone:Int) (v:Value) (w:World) (hv:FurtherAt w E v j shards) (hs:St w B E.A m) (hcl:CallAt w E x) (hj:j<65535) (hsh:shards<65536):
   ∃f ps,v= .func (.func f) #[] ps∧Enters f∧Calls Tryz.prog f (#[.int .i64 gone]++ps) w (ORes w B E (further j shards gone x m)):=by
 obtain⟨b0,b1,b2,rfl,h0,h1,h2⟩:=hv
 refine⟨_,_,rfl,enters_of Tryz.func86 (by kernel_rfl) rfl,?_⟩
 show Calls _ _ #[.int .i64 gone,P b0,P b1,P b2] _ _
 have H:=Lib.hid (And.intro h0 (And.intro h1 h2))
 have W0:=Lib.hid (Was.start hs hcl)
 have HB0:=Lib.hid hs.below.2.2.2
 have HW:Hid (Was w B E x m (w.alloc (.cells res0 37))):=W0.out.later (below_allocs [_] w)
 have HL0:Hid (Bx (w.alloc (.cells res0 37)) w.heap.size 37 res0):=bx_allocs w [_] 0 rfl
 have c0:=H.out.1.at0;have l0:=H.out.1.lt
 have c1:=H.out.2.1.at0;have l1:=H.out.2.1.lt
 have c2:=H.out.2.2.at0;have l2:=H.out.2.2.lt
 by_cases hp:j+1=shards
 · have hx:further j shards gone x m=fin ⟨0,false,gone,0,0,0⟩ x m:=if_pos hp
   have Hx:=Lib.hid hx
   have hj':(j:Int)<65535:=by omega
   subst hp
   clear h0 h1 h2 hs hcl hx hj hsh
   go_enter Tryz.func86,Tryz.ntmps86
   go_wp2_with (go_at_call 87;(refine (cend_any ⟨0,false,gone,0,0,0⟩ _).mono ?_);rintro e w3 ⟨rfl,hb⟩;have hw3:=HW.out.later hb;have hr3:=HL0.out.keep (fr0 hb) rfl;obtain⟨r0,r1,r2,r3,r4,r5,r6⟩:=res_cells hr3;obtain⟨f0,f1,f2,f3,f4,f5,f6⟩:=res_free hr3;have Hr3:=Lib.hid hr3;have HW3:=Lib.hid hw3;clear hr3 hw3 hb)
   rw[Hx.out]
   exact bodyPost_ret (v:= .tuple #[.nilFunc,.agg (resA true ⟨0,false,gone,0,0,0⟩)]) (by simp [results,Tryz.results86,go_sem,r0,r1,r2,r3,r4,r5,r6]) rfl ((Ans.fin HW3.out).store Hr3.out (Nat.le_refl _) HB0.out).ores
 · have hp': ¬(j:Int)+1=shards:=by omega
   have hx:further j shards gone x m=more (.find (j+1) (.evict (j+1) shards gone)) x m:=if_neg hp
   have Hx:=Lib.hid hx
   have Ke:Hid (Calls Tryz.prog 64 #[P E.x,.int .i64 ((j:Int)+1),.int .i64 shards,.int .i64 gone] (w.alloc (.cells res0 37)) (KRes (w.alloc (.cells res0 37)) E (.find (j+1) (.evict (j+1) shards gone)))):=evict_any B E x m (j+1) shards gone _ HW.out.st HW.out.call (by omega)
   have hwz:wrap64 ((j:Int)+1)=(j:Int)+1:=by unfold wrap64;omega
   clear h0 h1 h2 hs hcl hx hp hj hsh
   go_enter Tryz.func86,Tryz.ntmps86
   go_wp2_with (first|(go_at_call 64;(refine (Ke.out).mono ?_);rintro e w2 ⟨v,rfl,hk,hb⟩;have hr2:=HL0.out.keep (fr0 hb) rfl;have hw2:=HW.out.later hb;have Hk:=Lib.hid hk;have Hr2:=Lib.hid hr2;have HW2:=Lib.hid hw2;clear hk hr2 hw2 hb)|(go_at_call 63;(refine (con_any _ _).mono ?_);rintro e w3 ⟨rfl,hb⟩;have hr3:=Hr2.out.keep (fr0 hb) rfl;have hw3:=HW2.out.later hb;have hk3:=Hk.out.keep (fr0 hb);obtain⟨r0,r1,r2,r3,r4,r5,r6⟩:=res_cells hr3;obtain⟨f0,f1,f2,f3,f4,f5,f6⟩:=res_free hr3;have Hr3:=Lib.hid hr3;have HW3:=Lib.hid hw3;have Hk3:=Lib.hid hk3;clear hr3 hw3 hk3 hb))
   rw[Hx.out]
   exact bodyPost_ret (v:= .tuple #[v,.agg (resA false (err 0))]) (by simp [results,Tryz.results86,go_sem,r0,r1,r2,r3,r4,r5,r6]) rfl ((Ans.more HW3.out Hk3.out).store Hr3.out (Nat.le_refl _) HB0.out).ores
def BOk :BThen→Prop
 | .done _=>True
 | .evict j shards gone=>j<65535∧shards<65536∧0≤gone∧gone<9223372036854775808
set_option maxHeartbeats 1000000 in
set_option maxRecDepth 100000 in
theorem bthen_any (B:Nat) (E:Env) (x:Live) (m:Mem) (t:BThen) (v:Value) (w:World) (hv:BThenAt w E v t) (ho:BOk t) (hs:St w B E.A m) (hcl:CallAt w E x):
   ∃f ps,v= .func (.func f) #[] ps∧Enters f∧Calls Tryz.prog f ps w (ORes w B E (bthenF t x m)):=by
 have W0:=Lib.hid (Was.start hs hcl)
 have HB0:=Lib.hid hs.below.2.2.2
 have HW:Hid (Was w B E x m (w.alloc (.cells res0 37))):=W0.out.later (below_allocs [_] w)
 have HL0:Hid (Bx (w.alloc (.cells res0 37)) w.heap.size 37 res0):=bx_allocs w [_] 0 rfl
 cases t with
 |done r=>
   obtain⟨b0,rfl,h0⟩:=hv
   refine⟨_,_,rfl,enters_of Tryz.func158 (by kernel_rfl) rfl,?_⟩
   have H:=Lib.hid h0
   have Hx:Hid (bthenF (.done r) x m=fin r x m):=rfl
   obtain⟨e0,e1,e2,e3,e4,e5⟩:w.cell? ⟨b0,0,none⟩=some (.int .i64 r.e)∧w.cell? ⟨b0,1,none⟩=some (.bool r.granted)∧w.cell? ⟨b0,2,none⟩=some (.int .i64 r.left)∧w.cell? ⟨b0,3,none⟩=some (.int .i64 r.wait)∧w.cell? ⟨b0,4,none⟩=some (.int .i64 r.serial)∧w.cell? ⟨b0,5,none⟩=some (.int .i64 r.now):=⟨h0.cell 0,h0.cell 1,h0.cell 2,h0.cell 3,h0.cell 4,h0.cell 5⟩
   have l0:=h0.lt
   clear h0 hs hcl ho
   go_enter Tryz.func158,Tryz.ntmps158
   go_wp2_with (go_at_call 87;(refine (cend_any r _).mono ?_);rintro e w3 ⟨rfl,hb⟩;have hw3:=HW.out.later hb;have hr3:=HL0.out.keep (fr0 hb) rfl;obtain⟨r0,r1,r2,r3,r4,r5,r6⟩:=res_cells hr3;obtain⟨f0,f1,f2,f3,f4,f5,f6⟩:=res_free hr3;have Hr3:=Lib.hid hr3;have HW3:=Lib.hid hw3;clear hr3 hw3 hb)
   rw[Hx.out]
   exact bodyPost_ret (v:= .tuple #[.nilFunc,.agg (resA true r)]) (by simp [results,Tryz.results158,go_sem,r0,r1,r2,r3,r4,r5,r6]) rfl ((Ans.fin HW3.out).store Hr3.out (Nat.le_refl _) HB0.out).ores
 |evict j shards gone=>
   obtain⟨a0,n,rfl,b0,fv,b1,b2,rfl,h0,hfv,h1,h2⟩:=hv
   refine⟨_,_,rfl,enters_of Tryz.func98 (by kernel_rfl) rfl,?_⟩
   have H:=Lib.hid (And.intro h0 (And.intro h1 (And.intro h2 hfv)))
   have Hx:Hid (bthenF (.evict j shards (a0+n)) x m=further j shards (a0+n) x m):=rfl
   obtain⟨o1,o2,o3,o4⟩:=ho
   have hwr:IntKind.i64.wrap (a0+(n:Int))=a0+(n:Int):=by rw[IntKind.wrap_i64];omega
   obtain⟨f,ps,rfl,hef,kt⟩:=further_any B E x m j shards (a0+n) fv (w.alloc (.cells res0 37)) (hfv.keep HW.out.fr) HW.out.st HW.out.call o1 o2
   unfold Enters at hef
   have Kt:=Lib.hid kt
   have c0:=H.out.1.at0;have l0:=H.out.1.lt
   have c1:=H.out.2.1.at0;have l1:=H.out.2.1.lt
   have c2:=H.out.2.2.1.at0;have l2:=H.out.2.2.1.lt
   clear h0 h1 h2 hfv hs hcl kt o1 o2 o3 o4
   go_enter Tryz.func98,Tryz.ntmps98
   go_wp2_with (go_at_fn f;(refine (Kt.out).mono ?_);rintro e w3 h;obtain⟨v,d,a,rfl,ha⟩:=Ans.of h;have hr3:=HL0.out.keep ha.fr rfl;obtain⟨r0,r1,r2,r3,r4,r5,r6⟩:=res_cells hr3;obtain⟨f0,f1,f2,f3,f4,f5,f6⟩:=res_free hr3;have Hr3:=Lib.hid hr3;have Ha:=Lib.hid ha;clear hr3 ha h)
   rw[Hx.out]
   exact bodyPost_ret (v:= .tuple #[v,.agg (resA d a)]) (by simp [results,Tryz.results98,go_sem,r0,r1,r2,r3,r4,r5,r6]) rfl ((Ha.out.pre HW.out.fr).store Hr3.out (Nat.le_refl _) HB0.out).ores
end
end Go.Proofs.YtemnhpdjoimjbaaGreatDoor
