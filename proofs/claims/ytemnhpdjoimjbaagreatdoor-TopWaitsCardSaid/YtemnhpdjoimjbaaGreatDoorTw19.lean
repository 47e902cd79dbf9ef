import Derived.Test.YtemnhpdjoimjbaaGreatDoorTw18
namespace Go.Proofs.YtemnhpdjoimjbaaGreatDoor
open Go.RowKit Top
set_option linter.unusedVariables false
variable (Bl : Top.Below)
theorem first1_any (e:Int) (w:World):Calls Tryz.prog 60 #[.int .i64 e] w fun en w'=>en= .returned (.agg (resA true (err e)))∧Below w.heap.size w w':=by
 go_enter Tryz.func60,Tryz.ntmps60
 go_wp2
 exact bodyPost_ret (v:= .agg (resA true (err e))) (by simp [results,Tryz.results60,go_sem,err]) rfl ⟨rfl,(RowKit.Below.refl _ _).alloc (Nat.le_refl _) _⟩
set_option maxHeartbeats 1000000 in
set_option maxRecDepth 100000 in
theorem step_freezeSwap (B:Nat) (E:Env) (x:Live) (m:Mem) (word u:Nat) (holds:List Cell) (t:FThen) (v:Value) (w:World) (hk:KontAt w E v (.freezeSwap word u holds t)) (hs:St w B E.A m) (hc:CallAt w E x) (ok:E.Ok m) (hi:word<34) (hu:u<4611686018427387904) (hl:levelOf t≤4) (hm: ∀level i,t= .move level i→i<32):
   ∃f ps,v= .func (.func f) #[] ps∧Enters f∧Calls Tryz.prog f ps w (ORes w B E (stepF Bl E.A.list E.A.room (.freezeSwap word u holds t) x m)):=by
 obtain⟨b0,b1,b2,b3,b4,cv,b5,tv,b6,rfl,h0,h1,h2,h3,h4,hcv,h5,ht,h6⟩:=hk
 refine⟨_,_,rfl,enters_of Tryz.func149 (by kernel_rfl) rfl,?_⟩
 obtain⟨tf,tps,rfl⟩:=ht.func
 obtain⟨va,vn,vc,rfl⟩:=hcv.slice
 have hwr:IntKind.u64.wrap ((u:Int)+4611686018427387904)=(u:Int)+4611686018427387904:=by rw[IntKind.wrap_u64];omega
 obtain⟨sw,m1,hsw⟩: ∃sw m1,m.swap word u (u+FRZ) holds=(sw,m1):=⟨_,_,rfl⟩
 have Ks:Hid (∀W,St W B E.A m→CellsAt W (.slice va vn vc) holds→Calls Tryz.prog 32 #[P E.A.board,.int .i64 E.who,.int .i64 word,.int .u64 u,.int .u64 ((u:Int)+4611686018427387904),.slice va vn vc] W fun e w'=>e= .returned (.bool sw)∧Acc W B E.A m1 w'):=fun W h hv=>by
   have k:=bswap_any B E.A m E.who word u (u+4611686018427387904) (.slice va vn vc) holds W h ok.who0 ok.who1 hi (by omega) hv ok.count
   have e:m.swap word u (u+4611686018427387904) holds=(sw,m1):=hsw
   rw[e]at k
   exact k
 have W0:=Lib.hid (Was.start hs hc)
 have H:=Lib.hid (And.intro h0 (And.intro h1 (And.intro h2 (And.intro h3 (And.intro h4 (And.intro h5 (And.intro h6 (And.intro hcv ht))))))))
 have Hi:=Lib.hid hi;have Hl:=Lib.hid hl;have Hm:=Lib.hid hm;have Hsw:=Lib.hid hsw
 clear hs hc ok h0 h1 h2 h3 h4 h5 h6 hcv ht hi hl hm hsw hu
 go_enter Tryz.func149,Tryz.ntmps149
 go_wp2_with fail
 refine wp_name (fun u=>Was w B E x (m) u∧Bx u w.heap.size 37 res0) ⟨W0.out.later (below_allocs [_] w),bx_allocs w [_] 0 rfl⟩ ?_
 rintro y ⟨hw,hl0⟩
 have HW:=Lib.hid hw
 have HL0:=Lib.hid hl0
 have HS:Hid (∀(mm:Mem) (W:World),Was w B E x mm W→Fr B [] y W→W.cell? ⟨b0,0,none⟩=some (P E.A.lanes)∧W.cell? ⟨b1,0,none⟩=some (.int .i64 E.who)∧W.cell? ⟨b2,0,none⟩=some (.int .i64 (word:Nat))∧W.cell? ⟨b3,0,none⟩=some (.int .u64 (u:Nat))∧W.cell? ⟨b4,0,none⟩=some (.slice va vn vc)∧W.cell? ⟨E.A.lanes,0,none⟩=some (P E.A.board)):=fun mm W hw hf=>⟨(H.out.1.keep hw.fr rfl).cell 0,(H.out.2.1.keep hw.fr rfl).cell 0,(H.out.2.2.1.keep hw.fr rfl).cell 0,(H.out.2.2.2.1.keep hw.fr rfl).cell 0,(H.out.2.2.2.2.1.keep hw.fr rfl).cell 0,hw.st.lanes.cell 0⟩
 have HSa:Hid (∀W:World,Below y.heap.size y W→W.cell? ⟨b0,0,none⟩=some (P E.A.lanes)∧W.cell? ⟨b1,0,none⟩=some (.int .i64 E.who)∧W.cell? ⟨b2,0,none⟩=some (.int .i64 (word:Nat))∧W.cell? ⟨b3,0,none⟩=some (.int .u64 (u:Nat))∧W.cell? ⟨b4,0,none⟩=some (.slice va vn vc)∧W.cell? ⟨E.A.lanes,0,none⟩=some (P E.A.board)):=fun W hb=>HS.out _ W (HW.out.later hb) (Fr.of_below HW.out.st.below.2.2.2 hb)
 have HLt:Hid (b0<y.heap.size∧b1<y.heap.size∧b2<y.heap.size∧b3<y.heap.size∧b4<y.heap.size∧E.A.lanes<y.heap.size):=⟨(H.out.1.keep HW.out.fr rfl).lt,(H.out.2.1.keep HW.out.fr rfl).lt,(H.out.2.2.1.keep HW.out.fr rfl).lt,(H.out.2.2.2.1.keep HW.out.fr rfl).lt,(H.out.2.2.2.2.1.keep HW.out.fr rfl).lt,HW.out.st.lanes.lt⟩
 clear hw hl0
 go_region_held3 (fun w'=>w'.cell? ⟨b0,0,none⟩=some (P E.A.lanes)∧w'.cell? ⟨b1,0,none⟩=some (.int .i64 E.who)∧w'.cell? ⟨b2,0,none⟩=some (.int .i64 (word:Nat))∧w'.cell? ⟨b3,0,none⟩=some (.int .u64 (u:Nat))∧w'.cell? ⟨b4,0,none⟩=some (.slice va vn vc)∧w'.cell? ⟨E.A.lanes,0,none⟩=some (P E.A.board)) (first|(refine HSa.out _ ?_;(repeat (first|(with_reducible first|exact RowKit.Below.refl _ _|assumption|refine RowKit.Below.drew ?_)|((with_reducible first|refine belAlloc ?_ ?_|refine belSet ?_ ?_);(first|simp<;>omega|omega))));done)|(refine hSb _ ?_;(repeat (first|(with_reducible first|exact RowKit.Below.refl _ _|assumption|refine RowKit.Below.drew ?_)|((with_reducible first|refine belAlloc ?_ ?_|refine belSet ?_ ?_);(first|simp<;>omega|omega))));done)) ((first|(go_at_call 32;(refine (Ks.out _ (HW.out.later (by (repeat (first|(with_reducible first|exact RowKit.Below.refl _ _|assumption|refine RowKit.Below.drew ?_)|((with_reducible first|refine belAlloc ?_ ?_|refine belSet ?_ ?_);(first|simp<;>omega|omega)))))).st (H.out.2.2.2.2.2.2.2.1.keep (HW.out.later (by (repeat (first|(with_reducible first|exact RowKit.Below.refl _ _|assumption|refine RowKit.Below.drew ?_)|((with_reducible first|refine belAlloc ?_ ?_|refine belSet ?_ ?_);(first|simp<;>omega|omega)))))).fr)).mono ?_);rintro e w1 ⟨rfl,hacc⟩;have hbW:=belOfA (u:=y) hacc (by (repeat (first|(with_reducible first|exact RowKit.Below.refl _ _|assumption|refine RowKit.Below.drew ?_)|((with_reducible first|refine belAlloc ?_ ?_|refine belSet ?_ ?_);(first|simp<;>omega|omega)))));have hw2:=(HW.out.later hbW).acc hacc;have hf:=Fr.trans (Fr.of_below (X:=[]) HW.out.st.below.2.2.2 hbW) hacc.2;have hfW:=hacc.2;have hs2:=HS.out _ w1 hw2 hf;have hSb: ∀W:World,Below y.heap.size w1 W→W.cell? ⟨b0,0,none⟩=some (P E.A.lanes)∧W.cell? ⟨b1,0,none⟩=some (.int .i64 E.who)∧W.cell? ⟨b2,0,none⟩=some (.int .i64 (word:Nat))∧W.cell? ⟨b3,0,none⟩=some (.int .u64 (u:Nat))∧W.cell? ⟨b4,0,none⟩=some (.slice va vn vc)∧W.cell? ⟨E.A.lanes,0,none⟩=some (P E.A.board):=fun W hb=>⟨cell_lt HLt.out.1 hb hs2.1,cell_lt HLt.out.2.1 hb hs2.2.1,cell_lt HLt.out.2.2.1 hb hs2.2.2.1,cell_lt HLt.out.2.2.2.1 hb hs2.2.2.2.1,cell_lt HLt.out.2.2.2.2.1 hb hs2.2.2.2.2.1,cell_lt HLt.out.2.2.2.2.2 hb hs2.2.2.2.2.2⟩;have hsk:=hs2;have hsz:=hf.size;have hl02:=HL0.out.keep hf rfl;have HW2:=Lib.hid hw2;have Hf:=Lib.hid hf;have HLb0:=Lib.hid hl02;clear hw2 hf hfW hbW hs2 hacc hl02)))
 have hw:=HW2.out
 have hl0:=HLb0.out
 clear HW2 HW HSa HS HLt hSb hsz Hf HLb0 HL0 Ks hwr
 cases sw with
 |true=>
   have hx:stepF Bl E.A.list E.A.room (.freezeSwap word u holds t) x m=more (fthenF t holds) x m1:=by
     show(if (m.swap word u (u+FRZ) holds).1 then _ else _)=_
     rw[Hsw.out]
     rfl
   have Hx:=Lib.hid hx
   clear hx
   go_wp2_with fail
   obtain⟨f,ps,hfp,hef,-⟩:=fthen_any E t _ _ _ _ (H.out.2.2.2.2.2.2.2.2.keep hw.fr) (H.out.2.2.2.2.2.2.2.1.keep hw.fr) Hl.out Hm.out
   injection hfp with hf1 hf2 hf3
   subst hf1 hf3
   unfold Enters at hef
   have Kf:Hid (∀W,FThenAt W E (.func (.func f) #[] tps) t→CellsAt W (.slice va vn vc) holds→Calls Tryz.prog f (#[.slice va vn vc]++tps) W (KRes W E (fthenF t holds))):=fun W h hc=>by
     obtain⟨f',ps',e,_,k⟩:=fthen_any E t _ _ _ W h hc Hl.out Hm.out
     injection e with e1 e2 e3
     injection e1 with e1
     subst e1 e3
     exact k
   have HW:=Lib.hid hw
   have HL0:=Lib.hid hl0
   have HS:Hid (∀(mm:Mem) (W:World),Was w B E x mm W→Fr B [] w1 W→W.cell? ⟨b5,0,none⟩=some (.func (.func f) #[] tps)∧W.cell? ⟨b4,0,none⟩=some (.slice va vn vc)∧W.cell? ⟨b6,0,none⟩=some (.bool false)∧W.cell? ⟨b6,1,none⟩=some (.int .i64 0)∧W.cell? ⟨b6,2,none⟩=some (.bool false)∧W.cell? ⟨b6,3,none⟩=some (.int .i64 0)∧W.cell? ⟨b6,4,none⟩=some (.int .i64 0)∧W.cell? ⟨b6,5,none⟩=some (.int .i64 0)∧W.cell? ⟨b6,6,none⟩=some (.int .i64 0)):=fun mm W hw hf=>⟨(H.out.2.2.2.2.2.1.keep hw.fr rfl).cell 0,(H.out.2.2.2.2.1.keep hw.fr rfl).cell 0,(H.out.2.2.2.2.2.2.1.keep hw.fr rfl).cell 0,(H.out.2.2.2.2.2.2.1.keep hw.fr rfl).cell 1,(H.out.2.2.2.2.2.2.1.keep hw.fr rfl).cell 2,(H.out.2.2.2.2.2.2.1.keep hw.fr rfl).cell 3,(H.out.2.2.2.2.2.2.1.keep hw.fr rfl).cell 4,(H.out.2.2.2.2.2.2.1.keep hw.fr rfl).cell 5,(H.out.2.2.2.2.2.2.1.keep hw.fr rfl).cell 6⟩
   have HSa:Hid (∀W:World,Below w1.heap.size w1 W→W.cell? ⟨b5,0,none⟩=some (.func (.func f) #[] tps)∧W.cell? ⟨b4,0,none⟩=some (.slice va vn vc)∧W.cell? ⟨b6,0,none⟩=some (.bool false)∧W.cell? ⟨b6,1,none⟩=some (.int .i64 0)∧W.cell? ⟨b6,2,none⟩=some (.bool false)∧W.cell? ⟨b6,3,none⟩=some (.int .i64 0)∧W.cell? ⟨b6,4,none⟩=some (.int .i64 0)∧W.cell? ⟨b6,5,none⟩=some (.int .i64 0)∧W.cell? ⟨b6,6,none⟩=some (.int .i64 0)):=fun W hb=>HS.out _ W (HW.out.later hb) (Fr.of_below HW.out.st.below.2.2.2 hb)
   have HLt:Hid (b5<w1.heap.size∧b4<w1.heap.size∧b6<w1.heap.size∧b6<w1.heap.size∧b6<w1.heap.size∧b6<w1.heap.size∧b6<w1.heap.size∧b6<w1.heap.size∧b6<w1.heap.size):=⟨(H.out.2.2.2.2.2.1.keep HW.out.fr rfl).lt,(H.out.2.2.2.2.1.keep HW.out.fr rfl).lt,(H.out.2.2.2.2.2.2.1.keep HW.out.fr rfl).lt,(H.out.2.2.2.2.2.2.1.keep HW.out.fr rfl).lt,(H.out.2.2.2.2.2.2.1.keep HW.out.fr rfl).lt,(H.out.2.2.2.2.2.2.1.keep HW.out.fr rfl).lt,(H.out.2.2.2.2.2.2.1.keep HW.out.fr rfl).lt,(H.out.2.2.2.2.2.2.1.keep HW.out.fr rfl).lt,(H.out.2.2.2.2.2.2.1.keep HW.out.fr rfl).lt⟩
   clear hw hl0
   go_region_held3 (fun w'=>w'.cell? ⟨b5,0,none⟩=some (.func (.func f) #[] tps)∧w'.cell? ⟨b4,0,none⟩=some (.slice va vn vc)∧w'.cell? ⟨b6,0,none⟩=some (.bool false)∧w'.cell? ⟨b6,1,none⟩=some (.int .i64 0)∧w'.cell? ⟨b6,2,none⟩=some (.bool false)∧w'.cell? ⟨b6,3,none⟩=some (.int .i64 0)∧w'.cell? ⟨b6,4,none⟩=some (.int .i64 0)∧w'.cell? ⟨b6,5,none⟩=some (.int .i64 0)∧w'.cell? ⟨b6,6,none⟩=some (.int .i64 0)) (first|(refine HSa.out _ ?_;(repeat (first|(with_reducible first|exact RowKit.Below.refl _ _|assumption|refine RowKit.Below.drew ?_)|((with_reducible first|refine belAlloc ?_ ?_|refine belSet ?_ ?_);(first|simp<;>omega|omega))));done)|(refine hSb _ ?_;(repeat (first|(with_reducible first|exact RowKit.Below.refl _ _|assumption|refine RowKit.Below.drew ?_)|((with_reducible first|refine belAlloc ?_ ?_|refine belSet ?_ ?_);(first|simp<;>omega|omega))));done)|(simp only[set7_same hres];refine hSb _ ?_;(repeat (first|(with_reducible first|exact RowKit.Below.refl _ _|assumption|refine RowKit.Below.drew ?_)|((with_reducible first|refine belAlloc ?_ ?_|refine belSet ?_ ?_);(first|simp<;>omega|omega))));done)) ((first|(go_at_fn f;(refine (Kf.out _ (H.out.2.2.2.2.2.2.2.2.keep (HW.out.later (by (repeat (first|(with_reducible first|exact RowKit.Below.refl _ _|assumption|refine RowKit.Below.drew ?_)|((with_reducible first|refine belAlloc ?_ ?_|refine belSet ?_ ?_);(first|simp<;>omega|omega)))))).fr) (H.out.2.2.2.2.2.2.2.1.keep (HW.out.later (by (repeat (first|(with_reducible first|exact RowKit.Below.refl _ _|assumption|refine RowKit.Below.drew ?_)|((with_reducible first|refine belAlloc ?_ ?_|refine belSet ?_ ?_);(first|simp<;>omega|omega)))))).fr)).mono ?_);rintro e w2 ⟨v,rfl,hk,hb⟩;have hbW:=belOfB (u:=w1) hb (by (repeat (first|(with_reducible first|exact RowKit.Below.refl _ _|assumption|refine RowKit.Below.drew ?_)|((with_reducible first|refine belAlloc ?_ ?_|refine belSet ?_ ?_);(first|simp<;>omega|omega)))));have hbu:=hbW.trans (hb.mono hbW.size);have hw2:=HW.out.later hbu;have hf:Fr B [] w1 w2:=Fr.of_below HW.out.st.below.2.2.2 hbu;have hfW:Fr B [] _ w2:=Fr.of_below (Nat.le_trans HW.out.st.below.2.2.2 hbW.size) hb;have Hk:=Lib.hid hk;clear hk;have hs2:=HS.out _ w2 hw2 hf;have hSb: ∀W:World,Below w1.heap.size w2 W→W.cell? ⟨b5,0,none⟩=some (.func (.func f) #[] tps)∧W.cell? ⟨b4,0,none⟩=some (.slice va vn vc)∧W.cell? ⟨b6,0,none⟩=some (.bool false)∧W.cell? ⟨b6,1,none⟩=some (.int .i64 0)∧W.cell? ⟨b6,2,none⟩=some (.bool false)∧W.cell? ⟨b6,3,none⟩=some (.int .i64 0)∧W.cell? ⟨b6,4,none⟩=some (.int .i64 0)∧W.cell? ⟨b6,5,none⟩=some (.int .i64 0)∧W.cell? ⟨b6,6,none⟩=some (.int .i64 0):=fun W hb=>⟨cell_lt HLt.out.1 hb hs2.1,cell_lt HLt.out.2.1 hb hs2.2.1,cell_lt HLt.out.2.2.1 hb hs2.2.2.1,cell_lt HLt.out.2.2.2.1 hb hs2.2.2.2.1,cell_lt HLt.out.2.2.2.2.1 hb hs2.2.2.2.2.1,cell_lt HLt.out.2.2.2.2.2.1 hb hs2.2.2.2.2.2.1,cell_lt HLt.out.2.2.2.2.2.2.1 hb hs2.2.2.2.2.2.2.1,cell_lt HLt.out.2.2.2.2.2.2.2.1 hb hs2.2.2.2.2.2.2.2.1,cell_lt HLt.out.2.2.2.2.2.2.2.2 hb hs2.2.2.2.2.2.2.2.2⟩;have hsk:=hs2;have hsz:=hf.size;have hl02:=HL0.out.keep hf rfl;have hres:=hl02;obtain⟨r0,r1,r2,r3,r4,r5,r6⟩:=res_cells hl02;obtain⟨f0,f1,f2,f3,f4,f5,f6⟩:=res_free hl02;have HW2:=Lib.hid hw2;have Hf:=Lib.hid hf;have HLb0:=Lib.hid hl02;clear hw2 hf hfW hbW hs2 hb hbu hl02)))
   all_goals
     rw[set7_same hres]
     go_wp2_with fail
     rw[Hx.out]
     exact bodyPost_ret (v:= .tuple #[v,.agg res0]) (by simp [results,Tryz.results149,go_sem,r0,r1,r2,r3,r4,r5,r6]) rfl ⟨v,false,err 0,rfl,⟨Hk.out,rfl,rfl⟩,HW2.out.call,HW2.out.st,HW2.out.fr⟩
 |false=>
   have hx:stepF Bl E.A.list E.A.room (.freezeSwap word u holds t) x m=more (.freeze word t) x m1:=by
     show(if (m.swap word u (u+FRZ) holds).1 then _ else _)=_
     rw[Hsw.out]
     rfl
   have Hx:=Lib.hid hx
   clear hx
   have Kf:=Lib.hid (fun W v h=>freeze_any E word t v W h)
   go_wp2_with fail
   have HW:=Lib.hid hw
   have HL0:=Lib.hid hl0
   have HS:Hid (∀(mm:Mem) (W:World),Was w B E x mm W→Fr B [] w1 W→W.cell? ⟨b0,0,none⟩=some (P E.A.lanes)∧W.cell? ⟨b1,0,none⟩=some (.int .i64 E.who)∧W.cell? ⟨b2,0,none⟩=some (.int .i64 (word:Nat))∧W.cell? ⟨b5,0,none⟩=some (.func tf #[] tps)∧W.cell? ⟨b6,0,none⟩=some (.bool false)∧W.cell? ⟨b6,1,none⟩=some (.int .i64 0)∧W.cell? ⟨b6,2,none⟩=some (.bool false)∧W.cell? ⟨b6,3,none⟩=some (.int .i64 0)∧W.cell? ⟨b6,4,none⟩=some (.int .i64 0)∧W.cell? ⟨b6,5,none⟩=some (.int .i64 0)∧W.cell? ⟨b6,6,none⟩=some (.int .i64 0)):=fun mm W hw hf=>⟨(H.out.1.keep hw.fr rfl).cell 0,(H.out.2.1.keep hw.fr rfl).cell 0,(H.out.2.2.1.keep hw.fr rfl).cell 0,(H.out.2.2.2.2.2.1.keep hw.fr rfl).cell 0,(H.out.2.2.2.2.2.2.1.keep hw.fr rfl).cell 0,(H.out.2.2.2.2.2.2.1.keep hw.fr rfl).cell 1,(H.out.2.2.2.2.2.2.1.keep hw.fr rfl).cell 2,(H.out.2.2.2.2.2.2.1.keep hw.fr rfl).cell 3,(H.out.2.2.2.2.2.2.1.keep hw.fr rfl).cell 4,(H.out.2.2.2.2.2.2.1.keep hw.fr rfl).cell 5,(H.out.2.2.2.2.2.2.1.keep hw.fr rfl).cell 6⟩
   have HSa:Hid (∀W:World,Below w1.heap.size w1 W→W.cell? ⟨b0,0,none⟩=some (P E.A.lanes)∧W.cell? ⟨b1,0,none⟩=some (.int .i64 E.who)∧W.cell? ⟨b2,0,none⟩=some (.int .i64 (word:Nat))∧W.cell? ⟨b5,0,none⟩=some (.func tf #[] tps)∧W.cell? ⟨b6,0,none⟩=some (.bool false)∧W.cell? ⟨b6,1,none⟩=some (.int .i64 0)∧W.cell? ⟨b6,2,none⟩=some (.bool false)∧W.cell? ⟨b6,3,none⟩=some (.int .i64 0)∧W.cell? ⟨b6,4,none⟩=some (.int .i64 0)∧W.cell? ⟨b6,5,none⟩=some (.int .i64 0)∧W.cell? ⟨b6,6,none⟩=some (.int .i64 0)):=fun W hb=>HS.out _ W (HW.out.later hb) (Fr.of_below HW.out.st.below.2.2.2 hb)
   have HLt:Hid (b0<w1.heap.size∧b1<w1.heap.size∧b2<w1.heap.size∧b5<w1.heap.size∧b6<w1.heap.size∧b6<w1.heap.size∧b6<w1.heap.size∧b6<w1.heap.size∧b6<w1.heap.size∧b6<w1.heap.size∧b6<w1.heap.size):=⟨(H.out.1.keep HW.out.fr rfl).lt,(H.out.2.1.keep HW.out.fr rfl).lt,(H.out.2.2.1.keep HW.out.fr rfl).lt,(H.out.2.2.2.2.2.1.keep HW.out.fr rfl).lt,(H.out.2.2.2.2.2.2.1.keep HW.out.fr rfl).lt,(H.out.2.2.2.2.2.2.1.keep HW.out.fr rfl).lt,(H.out.2.2.2.2.2.2.1.keep HW.out.fr rfl).lt,(H.out.2.2.2.2.2.2.1.keep HW.out.fr rfl).lt,(H.out.2.2.2.2.2.2.1.keep HW.out.fr rfl).lt,(H.out.2.2.2.2.2.2.1.keep HW.out.fr rfl).lt,(H.out.2.2.2.2.2.2.1.keep HW.out.fr rfl).lt⟩
   clear hw hl0
   go_region_held3 (fun w'=>w'.cell? ⟨b0,0,none⟩=some (P E.A.lanes)∧w'.cell? ⟨b1,0,none⟩=some (.int .i64 E.who)∧w'.cell? ⟨b2,0,none⟩=some (.int .i64 (word:Nat))∧w'.cell? ⟨b5,0,none⟩=some (.func tf #[] tps)∧w'.cell? ⟨b6,0,none⟩=some (.bool false)∧w'.cell? ⟨b6,1,none⟩=some (.int .i64 0)∧w'.cell? ⟨b6,2,none⟩=some (.bool false)∧w'.cell? ⟨b6,3,none⟩=some (.int .i64 0)∧w'.cell? ⟨b6,4,none⟩=some (.int .i64 0)∧w'.cell? ⟨b6,5,none⟩=some (.int .i64 0)∧w'.cell? ⟨b6,6,none⟩=some (.int .i64 0)) (first|(refine HSa.out _ ?_;(repeat (first|(with_reducible first|exact RowKit.Below.refl _ _|assumption|refine RowKit.Below.drew ?_)|((with_reducible first|refine belAlloc ?_ ?_|refine belSet ?_ ?_);(first|simp<;>omega|omega))));done)|(refine hSb _ ?_;(repeat (first|(with_reducible first|exact RowKit.Below.refl _ _|assumption|refine RowKit.Below.drew ?_)|((with_reducible first|refine belAlloc ?_ ?_|refine belSet ?_ ?_);(first|simp<;>omega|omega))));done)|(simp only[set7_same hres];refine hSb _ ?_;(repeat (first|(with_reducible first|exact RowKit.Below.refl _ _|assumption|refine RowKit.Below.drew ?_)|((with_reducible first|refine belAlloc ?_ ?_|refine belSet ?_ ?_);(first|simp<;>omega|omega))));done)) ((first|(go_at_call 118;(refine (Kf.out _ _ (H.out.2.2.2.2.2.2.2.2.keep (HW.out.later (by (repeat (first|(with_reducible first|exact RowKit.Below.refl _ _|assumption|refine RowKit.Below.drew ?_)|((with_reducible first|refine belAlloc ?_ ?_|refine belSet ?_ ?_);(first|simp<;>omega|omega)))))).fr)).mono ?_);rintro e w2 ⟨v,rfl,hk,hb⟩;have hbW:=belOfB (u:=w1) hb (by (repeat (first|(with_reducible first|exact RowKit.Below.refl _ _|assumption|refine RowKit.Below.drew ?_)|((with_reducible first|refine belAlloc ?_ ?_|refine belSet ?_ ?_);(first|simp<;>omega|omega)))));have hbu:=hbW.trans (hb.mono hbW.size);have hw2:=HW.out.later hbu;have hf:Fr B [] w1 w2:=Fr.of_below HW.out.st.below.2.2.2 hbu;have hfW:Fr B [] _ w2:=Fr.of_below (Nat.le_trans HW.out.st.below.2.2.2 hbW.size) hb;have Hk:=Lib.hid hk;clear hk;have hs2:=HS.out _ w2 hw2 hf;have hSb: ∀W:World,Below w1.heap.size w2 W→W.cell? ⟨b0,0,none⟩=some (P E.A.lanes)∧W.cell? ⟨b1,0,none⟩=some (.int .i64 E.who)∧W.cell? ⟨b2,0,none⟩=some (.int .i64 (word:Nat))∧W.cell? ⟨b5,0,none⟩=some (.func tf #[] tps)∧W.cell? ⟨b6,0,none⟩=some (.bool false)∧W.cell? ⟨b6,1,none⟩=some (.int .i64 0)∧W.cell? ⟨b6,2,none⟩=some (.bool false)∧W.cell? ⟨b6,3,none⟩=some (.int .i64 0)∧W.cell? ⟨b6,4,none⟩=some (.int .i64 0)∧W.cell? ⟨b6,5,none⟩=some (.int .i64 0)∧W.cell? ⟨b6,6,none⟩=some (.int .i64 0):=fun W hb=>⟨cell_lt HLt.out.1 hb hs2.1,cell_lt HLt.out.2.1 hb hs2.2.1,cell_lt HLt.out.2.2.1 hb hs2.2.2.1,cell_lt HLt.out.2.2.2.1 hb hs2.2.2.2.1,cell_lt HLt.out.2.2.2.2.1 hb hs2.2.2.2.2.1,cell_lt HLt.out.2.2.2.2.2.1 hb hs2.2.2.2.2.2.1,cell_lt HLt.out.2.2.2.2.2.2.1 hb hs2.2.2.2.2.2.2.1,cell_lt HLt.out.2.2.2.2.2.2.2.1 hb hs2.2.2.2.2.2.2.2.1,cell_lt HLt.out.2.2.2.2.2.2.2.2.1 hb hs2.2.2.2.2.2.2.2.2.1,cell_lt HLt.out.2.2.2.2.2.2.2.2.2.1 hb hs2.2.2.2.2.2.2.2.2.2.1,cell_lt HLt.out.2.2.2.2.2.2.2.2.2.2 hb hs2.2.2.2.2.2.2.2.2.2.2⟩;have hsk:=hs2;have hsz:=hf.size;have hl02:=HL0.out.keep hf rfl;have hres:=hl02;obtain⟨r0,r1,r2,r3,r4,r5,r6⟩:=res_cells hl02;obtain⟨f0,f1,f2,f3,f4,f5,f6⟩:=res_free hl02;have HW2:=Lib.hid hw2;have Hf:=Lib.hid hf;have HLb0:=Lib.hid hl02;clear hw2 hf hfW hbW hs2 hb hbu hl02)))
   all_goals
     rw[set7_same hres]
     go_wp2_with fail
     rw[Hx.out]
     exact bodyPost_ret (v:= .tuple #[v,.agg res0]) (by simp [results,Tryz.results149,go_sem,r0,r1,r2,r3,r4,r5,r6]) rfl ⟨v,false,err 0,rfl,⟨Hk.out,rfl,rfl⟩,HW2.out.call,HW2.out.st,HW2.out.fr⟩
set_option maxHeartbeats 1000000 in
set_option maxRecDepth 100000 in
theorem step_moveEnd (B:Nat) (E:Env) (x:Live) (m:Mem) (level:Nat) (v:Value) (w:World) (hk:KontAt w E v (.moveEnd level)) (hs:St w B E.A m) (hc:CallAt w E x) (ok:E.Ok m) (hl:level≤4):
   ∃f ps,v= .func (.func f) #[] ps∧Enters f∧Calls Tryz.prog f ps w (ORes w B E (stepF Bl E.A.list E.A.room (.moveEnd level) x m)):=by
 obtain⟨b0,b1,b2,b3,rfl,h0,h1,h2,h3⟩:=hk
 refine⟨_,_,rfl,enters_of Tryz.func117 (by kernel_rfl) rfl,?_⟩
 obtain⟨sw,m1,hsw⟩: ∃sw m1,m.swap 0 (2*level+1) (2*level+2) []=(sw,m1):=⟨_,_,rfl⟩
 have Ks:Hid (∀W,St W B E.A m→Calls Tryz.prog 32 #[P E.A.board,.int .i64 E.who,.int .i64 0,.int .u64 (2*(level:Int)+1),.int .u64 (2*(level:Int)+2),.slice none 0 0] W fun e w'=>e= .returned (.bool sw)∧Acc W B E.A m1 w'):=fun W h=>by
   have k:=bswap_any B E.A m E.who 0 (2*level+1) (2*level+2) (.slice none 0 0) [] W h ok.who0 ok.who1 (by decide) (by omega) (CellsAt.nil W) ok.count
   rw[hsw]at k
   exact k
 have hw1:IntKind.i64.wrap (2*(level:Int))=2*(level:Int):=by rw[IntKind.wrap_i64];omega
 have hw2:IntKind.i64.wrap (2*(level:Int)+1)=2*(level:Int)+1:=by rw[IntKind.wrap_i64];omega
 have hw3:IntKind.i64.wrap (2*(level:Int)+2)=2*(level:Int)+2:=by rw[IntKind.wrap_i64];omega
 have hw4:IntKind.u64.wrap (2*(level:Int)+1)=2*(level:Int)+1:=by rw[IntKind.wrap_u64];omega
 have hw5:IntKind.u64.wrap (2*(level:Int)+2)=2*(level:Int)+2:=by rw[IntKind.wrap_u64];omega
 have W0:=Lib.hid (Was.start hs hc)
 have HB0:=Lib.hid hs.below.2.2.2
 have H:=Lib.hid (And.intro h0 (And.intro h1 (And.intro h2 h3)))
 have Hx:Hid (stepF Bl E.A.list E.A.room (.moveEnd level) x m=fin (err 0) x m1):=by
   show fin (err 0) x (m.swap 0 (2*level+1) (2*level+2) []).2=_
   rw[hsw]
 clear hs hc ok h0 h1 h2 h3 hl hsw
 go_enter Tryz.func117,Tryz.ntmps117
 go_wp2_with fail
 refine wp_name (fun u=>Was w B E x (m) u∧Bx u w.heap.size 37 res0) ⟨W0.out.later (below_allocs [_] w),bx_allocs w [_] 0 rfl⟩ ?_
 rintro y ⟨hw,hl0⟩
 have HW:=Lib.hid hw
 have HL0:=Lib.hid hl0
 have HS:Hid (∀(mm:Mem) (W:World),Was w B E x mm W→Fr B [] y W→W.cell? ⟨b0,0,none⟩=some (P E.A.lanes)∧W.cell? ⟨b1,0,none⟩=some (.int .i64 E.who)∧W.cell? ⟨b2,0,none⟩=some (.int .i64 (level:Nat))∧W.cell? ⟨E.A.lanes,0,none⟩=some (P E.A.board)):=fun mm W hw hf=>⟨(H.out.1.keep hw.fr rfl).cell 0,(H.out.2.1.keep hw.fr rfl).cell 0,(H.out.2.2.1.keep hw.fr rfl).cell 0,hw.st.lanes.cell 0⟩
 have HSa:Hid (∀W:World,Below y.heap.size y W→W.cell? ⟨b0,0,none⟩=some (P E.A.lanes)∧W.cell? ⟨b1,0,none⟩=some (.int .i64 E.who)∧W.cell? ⟨b2,0,none⟩=some (.int .i64 (level:Nat))∧W.cell? ⟨E.A.lanes,0,none⟩=some (P E.A.board)):=fun W hb=>HS.out _ W (HW.out.later hb) (Fr.of_below HW.out.st.below.2.2.2 hb)
 have HLt:Hid (b0<y.heap.size∧b1<y.heap.size∧b2<y.heap.size∧E.A.lanes<y.heap.size):=⟨(H.out.1.keep HW.out.fr rfl).lt,(H.out.2.1.keep HW.out.fr rfl).lt,(H.out.2.2.1.keep HW.out.fr rfl).lt,HW.out.st.lanes.lt⟩
 clear hw hl0
 go_region_held3 (fun w'=>w'.cell? ⟨b0,0,none⟩=some (P E.A.lanes)∧w'.cell? ⟨b1,0,none⟩=some (.int .i64 E.who)∧w'.cell? ⟨b2,0,none⟩=some (.int .i64 (level:Nat))∧w'.cell? ⟨E.A.lanes,0,none⟩=some (P E.A.board)) (first|(refine HSa.out _ ?_;(repeat (first|(with_reducible first|exact RowKit.Below.refl _ _|assumption|refine RowKit.Below.drew ?_)|((with_reducible first|refine belAlloc ?_ ?_|refine belSet ?_ ?_);(first|simp<;>omega|omega))));done)|(refine hSb _ ?_;(repeat (first|(with_reducible first|exact RowKit.Below.refl _ _|assumption|refine RowKit.Below.drew ?_)|((with_reducible first|refine belAlloc ?_ ?_|refine belSet ?_ ?_);(first|simp<;>omega|omega))));done)) ((first|(go_at_call 32;(refine (Ks.out _ (HW.out.later (by (repeat (first|(with_reducible first|exact RowKit.Below.refl _ _|assumption|refine RowKit.Below.drew ?_)|((with_reducible first|refine belAlloc ?_ ?_|refine belSet ?_ ?_);(first|simp<;>omega|omega)))))).st).mono ?_);rintro e w1 ⟨rfl,hacc⟩;have hbW:=belOfA (u:=y) hacc (by (repeat (first|(with_reducible first|exact RowKit.Below.refl _ _|assumption|refine RowKit.Below.drew ?_)|((with_reducible first|refine belAlloc ?_ ?_|refine belSet ?_ ?_);(first|simp<;>omega|omega)))));have hw2:=(HW.out.later hbW).acc hacc;have hf:=Fr.trans (Fr.of_below (X:=[]) HW.out.st.below.2.2.2 hbW) hacc.2;have hfW:=hacc.2;have hs2:=HS.out _ w1 hw2 hf;have hSb: ∀W:World,Below y.heap.size w1 W→W.cell? ⟨b0,0,none⟩=some (P E.A.lanes)∧W.cell? ⟨b1,0,none⟩=some (.int .i64 E.who)∧W.cell? ⟨b2,0,none⟩=some (.int .i64 (level:Nat))∧W.cell? ⟨E.A.lanes,0,none⟩=some (P E.A.board):=fun W hb=>⟨cell_lt HLt.out.1 hb hs2.1,cell_lt HLt.out.2.1 hb hs2.2.1,cell_lt HLt.out.2.2.1 hb hs2.2.2.1,cell_lt HLt.out.2.2.2 hb hs2.2.2.2⟩;have hsk:=hs2;have hsz:=hf.size;have hl02:=HL0.out.keep hf rfl;have HW2:=Lib.hid hw2;have Hf:=Lib.hid hf;have HLb0:=Lib.hid hl02;clear hw2 hf hfW hbW hs2 hacc hl02)))
 have hw:=HW2.out
 have hl0:=HLb0.out
 clear HW2 HW HSa HS HLt hSb hsz Hf HLb0 HL0 Ks hw1 hw2 hw3 hw4 hw5
 have c3:=(H.out.2.2.2.keep hw.fr rfl).at0
 have HW:=Lib.hid hw;have HL0:=Lib.hid hl0
 clear hw hl0
 go_wp2_with (go_at_call 60;(refine (first1_any _ _).mono ?_);rintro e w3 ⟨rfl,hb⟩;have hw3:=HW.out.later hb;have hr3:=HL0.out.keep (fr0 hb) rfl;obtain⟨r0,r1,r2,r3,r4,r5,r6⟩:=res_cells hr3;obtain⟨f0,f1,f2,f3,f4,f5,f6⟩:=res_free hr3;have Hr3:=Lib.hid hr3;have HW3:=Lib.hid hw3;clear hr3 hw3 hb)
 rw[Hx.out]
 exact bodyPost_ret (v:= .tuple #[.nilFunc,.agg (resA true (err 0))]) (by simp [results,Tryz.results117,go_sem,r0,r1,r2,r3,r4,r5,r6]) rfl ((Ans.fin HW3.out).store Hr3.out (Nat.le_refl _) HB0.out).ores
end Go.Proofs.YtemnhpdjoimjbaaGreatDoor
