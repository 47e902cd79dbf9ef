import Derived.Test.YtemnhpdjoimjbaaGreatDoorTw14
namespace Go.Proofs.YtemnhpdjoimjbaaGreatDoor
open Go.RowKit Top
set_option linter.unusedVariables false
variable (Bl : Top.Below)
def PolOk (p:Pol):Prop:=(p.kind=1∧1≤p.T∧p.T≤4611686018427387903∧0≤p.tau∧p.tau≤4611686018427387903)∨(p.kind=2∧1≤p.permits∧p.permits≤64)
structure Good (E:Env) (x:Live):Prop where
 who0:0≤E.who
 who1:E.who<64
 pol: ∃p:Nat,x.call.pol=(p:Int)∧E.A.list[p]? =some E.pol
 pol1:x.call.pol<32
 klen:x.call.key.length≤255
 op0:1≤x.call.op
 op1:x.call.op≤4
 n:x.call.op=1→0≤x.call.n∧x.call.n≤4611686018427387903
 n64: -9223372036854775808≤x.call.n∧x.call.n≤9223372036854775807
 se0:0≤x.serial
 se1:x.serial≤4611686018427387903
 polok:PolOk E.pol
 kind1:x.call.op=1→E.pol.kind=1
 kind2:x.call.op=2∨x.call.op=3→E.pol.kind=2
def TOk (E:Env) (x:Live):Then→Prop
 | .call=>Good E x
 | .evict j shards _=>j<65535∧shards<65536
def ThenSpec :Prop:= ∀(B:Nat) (E:Env) (x:Live) (m:Mem) (t:Then) (v:Value) (word u:Nat) (ca:Option Addr) (cn cc:Nat) (L:List Cell) (w:World),ThenAt w E v t→TOk E x t→St w B E.A m→CallAt w E x→CellsAt w (.slice ca cn cc) L→word<34→u<18446744073709551616→
 ∃f ps,v= .func (.func f) #[] ps∧Enters f∧Calls Tryz.prog f (#[.int .i64 word,.int .u64 u,.slice ca cn cc]++ps) w (ORes w B E (thenF Bl E.A.list E.A.room t word u L x m))
set_option maxHeartbeats 1000000 in
set_option maxRecDepth 100000 in
theorem entered_any (hT:ThenSpec Bl) (B:Nat) (E:Env) (x:Live) (m:Mem) (sum word u:Nat) (t:Then) (tv:Value) (ca:Option Addr) (cn cc:Nat) (L:List Cell) (w:World) (ht:ThenAt w E tv t) (hg:TOk E x t) (hs:St w B E.A m) (hcl:CallAt w E x) (hc:CellsAt w (.slice ca cn cc) L) (hw34:word<34) (hu:u<18446744073709551616):
   Calls Tryz.prog 127 #[P E.A.lanes,.int .i64 E.who,.int .u64 sum,.int .i64 word,.int .u64 u,.slice ca cn cc,tv] w (ORes w B E (enteredF Bl E.A.list E.A.room sum word u L t x m)):=by
 obtain⟨f,ps,rfl,hef,_⟩:=hT B E x m t tv word u ca cn cc L w ht hg hs hcl hc hw34 hu
 unfold Enters at hef
 have W0:=Lib.hid (Was.start hs hcl)
 have HB0:=Lib.hid hs.below.2.2.2
 have Ht:=Lib.hid ht;have Hc:=Lib.hid hc;have Hg:=Lib.hid hg;have H34:=Lib.hid hw34;have Hu:=Lib.hid hu
 clear ht hs hcl hc hg hw34
 by_cases hp:u=0∨4611686018427387904≤u
 · have hx:enteredF Bl E.A.list E.A.room sum word u L t x m=more (.find sum t) x m:=by
     unfold enteredF
     exact if_pos hp
   have Hx:=Lib.hid hx
   have Kf:=Lib.hid (fun W v h=>find_any E sum t v W h)
   clear hx hu
   go_enter Tryz.func127,Tryz.ntmps127
   rcases hp with h0|h0
   · subst h0
     go_wp2_with fail
     refine wp_name (fun u=>Was w B E x (m) u∧Bx u w.heap.size 37 res0∧Bx u (w.heap.size+1) 37 res0) ⟨W0.out.later (below_allocs [_,_] w),bx_allocs w [_,_] 0 rfl,bx_allocs w [_,_] 1 rfl⟩ ?_
     rintro y ⟨hw,hl0,hl1⟩
     have HW:=Lib.hid hw
     have HL0:=Lib.hid hl0
     have HL1:=Lib.hid hl1
     have HS:Hid (∀(mm:Mem) (W:World),Was w B E x mm W→Fr B [] y W→W.cell? ⟨w.heap.size+1,0,none⟩=some (.bool false)∧W.cell? ⟨w.heap.size+1,1,none⟩=some (.int .i64 0)∧W.cell? ⟨w.heap.size+1,2,none⟩=some (.bool false)∧W.cell? ⟨w.heap.size+1,3,none⟩=some (.int .i64 0)∧W.cell? ⟨w.heap.size+1,4,none⟩=some (.int .i64 0)∧W.cell? ⟨w.heap.size+1,5,none⟩=some (.int .i64 0)∧W.cell? ⟨w.heap.size+1,6,none⟩=some (.int .i64 0)):=fun mm W hw hf=>⟨(HL1.out.keep hf rfl).cell 0,(HL1.out.keep hf rfl).cell 1,(HL1.out.keep hf rfl).cell 2,(HL1.out.keep hf rfl).cell 3,(HL1.out.keep hf rfl).cell 4,(HL1.out.keep hf rfl).cell 5,(HL1.out.keep hf rfl).cell 6⟩
     have HSa:Hid (∀W:World,Below y.heap.size y W→W.cell? ⟨w.heap.size+1,0,none⟩=some (.bool false)∧W.cell? ⟨w.heap.size+1,1,none⟩=some (.int .i64 0)∧W.cell? ⟨w.heap.size+1,2,none⟩=some (.bool false)∧W.cell? ⟨w.heap.size+1,3,none⟩=some (.int .i64 0)∧W.cell? ⟨w.heap.size+1,4,none⟩=some (.int .i64 0)∧W.cell? ⟨w.heap.size+1,5,none⟩=some (.int .i64 0)∧W.cell? ⟨w.heap.size+1,6,none⟩=some (.int .i64 0)):=fun W hb=>HS.out _ W (HW.out.later hb) (Fr.of_below HW.out.st.below.2.2.2 hb)
     have HLt:Hid (w.heap.size+1<y.heap.size∧w.heap.size+1<y.heap.size∧w.heap.size+1<y.heap.size∧w.heap.size+1<y.heap.size∧w.heap.size+1<y.heap.size∧w.heap.size+1<y.heap.size∧w.heap.size+1<y.heap.size):=⟨HL1.out.lt,HL1.out.lt,HL1.out.lt,HL1.out.lt,HL1.out.lt,HL1.out.lt,HL1.out.lt⟩
     clear hw hl0 hl1
     go_region_held3 (fun w'=>w'.cell? ⟨w.heap.size+1,0,none⟩=some (.bool false)∧w'.cell? ⟨w.heap.size+1,1,none⟩=some (.int .i64 0)∧w'.cell? ⟨w.heap.size+1,2,none⟩=some (.bool false)∧w'.cell? ⟨w.heap.size+1,3,none⟩=some (.int .i64 0)∧w'.cell? ⟨w.heap.size+1,4,none⟩=some (.int .i64 0)∧w'.cell? ⟨w.heap.size+1,5,none⟩=some (.int .i64 0)∧w'.cell? ⟨w.heap.size+1,6,none⟩=some (.int .i64 0)) (first|(refine HSa.out _ ?_;(repeat (first|(with_reducible first|exact RowKit.Below.refl _ _|assumption|refine RowKit.Below.drew ?_)|((with_reducible first|refine belAlloc ?_ ?_|refine belSet ?_ ?_);(first|simp<;>omega|omega))));done)|(refine hSb _ ?_;(repeat (first|(with_reducible first|exact RowKit.Below.refl _ _|assumption|refine RowKit.Below.drew ?_)|((with_reducible first|refine belAlloc ?_ ?_|refine belSet ?_ ?_);(first|simp<;>omega|omega))));done)|(simp only[set7_same hres];refine hSb _ ?_;(repeat (first|(with_reducible first|exact RowKit.Below.refl _ _|assumption|refine RowKit.Below.drew ?_)|((with_reducible first|refine belAlloc ?_ ?_|refine belSet ?_ ?_);(first|simp<;>omega|omega))));done)) ((first|(go_at_call 88;(refine (Kf.out _ _ (Ht.out.keep (HW.out.later (by (repeat (first|(with_reducible first|exact RowKit.Below.refl _ _|assumption|refine RowKit.Below.drew ?_)|((with_reducible first|refine belAlloc ?_ ?_|refine belSet ?_ ?_);(first|simp<;>omega|omega)))))).fr)).mono ?_);rintro e w2 ⟨v,rfl,hk,hb⟩;have hbW:=belOfB (u:=y) hb (by (repeat (first|(with_reducible first|exact RowKit.Below.refl _ _|assumption|refine RowKit.Below.drew ?_)|((with_reducible first|refine belAlloc ?_ ?_|refine belSet ?_ ?_);(first|simp<;>omega|omega)))));have hbu:=hbW.trans (hb.mono hbW.size);have hw2:=HW.out.later hbu;have hf:Fr B [] y w2:=Fr.of_below HW.out.st.below.2.2.2 hbu;have hfW:Fr B [] _ w2:=Fr.of_below (Nat.le_trans HW.out.st.below.2.2.2 hbW.size) hb;have Hk:=Lib.hid hk;clear hk;have hs2:=HS.out _ w2 hw2 hf;have hSb: ∀W:World,Below y.heap.size w2 W→W.cell? ⟨w.heap.size+1,0,none⟩=some (.bool false)∧W.cell? ⟨w.heap.size+1,1,none⟩=some (.int .i64 0)∧W.cell? ⟨w.heap.size+1,2,none⟩=some (.bool false)∧W.cell? ⟨w.heap.size+1,3,none⟩=some (.int .i64 0)∧W.cell? ⟨w.heap.size+1,4,none⟩=some (.int .i64 0)∧W.cell? ⟨w.heap.size+1,5,none⟩=some (.int .i64 0)∧W.cell? ⟨w.heap.size+1,6,none⟩=some (.int .i64 0):=fun W hb=>⟨cell_lt HLt.out.1 hb hs2.1,cell_lt HLt.out.2.1 hb hs2.2.1,cell_lt HLt.out.2.2.1 hb hs2.2.2.1,cell_lt HLt.out.2.2.2.1 hb hs2.2.2.2.1,cell_lt HLt.out.2.2.2.2.1 hb hs2.2.2.2.2.1,cell_lt HLt.out.2.2.2.2.2.1 hb hs2.2.2.2.2.2.1,cell_lt HLt.out.2.2.2.2.2.2 hb hs2.2.2.2.2.2.2⟩;have hsk:=hs2;have hsz:=hf.size;have hl02:=HL0.out.keep hf rfl;have hl12:=HL1.out.keep hf rfl;have hres:=hl02;obtain⟨r0,r1,r2,r3,r4,r5,r6⟩:=res_cells hl02;obtain⟨f0,f1,f2,f3,f4,f5,f6⟩:=res_free hl02;have HW2:=Lib.hid hw2;have Hf:=Lib.hid hf;have HLb0:=Lib.hid hl02;have HLb1:=Lib.hid hl12;clear hw2 hf hfW hbW hs2 hb hbu hl02 hl12)))
     all_goals
       rw[set7_same hres]
       go_wp2_with fail
       rw[Hx.out]
       exact bodyPost_ret (v:= .tuple #[v,.agg res0]) (by simp [results,Tryz.results127,go_sem,r0,r1,r2,r3,r4,r5,r6]) rfl ⟨v,false,err 0,rfl,⟨Hk.out,rfl,rfl⟩,HW2.out.call,HW2.out.st,HW2.out.fr⟩
   · have h1: ¬(u:Int)=0:=by omega
     have h2:(4611686018427387904:Int)≤u:=by omega
     go_wp2_with fail
     refine wp_name (fun u=>Was w B E x (m) u∧Bx u w.heap.size 37 res0∧Bx u (w.heap.size+1) 37 res0) ⟨W0.out.later (below_allocs [_,_] w),bx_allocs w [_,_] 0 rfl,bx_allocs w [_,_] 1 rfl⟩ ?_
     rintro y ⟨hw,hl0,hl1⟩
     have HW:=Lib.hid hw
     have HL0:=Lib.hid hl0
     have HL1:=Lib.hid hl1
     have HS:Hid (∀(mm:Mem) (W:World),Was w B E x mm W→Fr B [] y W→W.cell? ⟨w.heap.size+1,0,none⟩=some (.bool false)∧W.cell? ⟨w.heap.size+1,1,none⟩=some (.int .i64 0)∧W.cell? ⟨w.heap.size+1,2,none⟩=some (.bool false)∧W.cell? ⟨w.heap.size+1,3,none⟩=some (.int .i64 0)∧W.cell? ⟨w.heap.size+1,4,none⟩=some (.int .i64 0)∧W.cell? ⟨w.heap.size+1,5,none⟩=some (.int .i64 0)∧W.cell? ⟨w.heap.size+1,6,none⟩=some (.int .i64 0)):=fun mm W hw hf=>⟨(HL1.out.keep hf rfl).cell 0,(HL1.out.keep hf rfl).cell 1,(HL1.out.keep hf rfl).cell 2,(HL1.out.keep hf rfl).cell 3,(HL1.out.keep hf rfl).cell 4,(HL1.out.keep hf rfl).cell 5,(HL1.out.keep hf rfl).cell 6⟩
     have HSa:Hid (∀W:World,Below y.heap.size y W→W.cell? ⟨w.heap.size+1,0,none⟩=some (.bool false)∧W.cell? ⟨w.heap.size+1,1,none⟩=some (.int .i64 0)∧W.cell? ⟨w.heap.size+1,2,none⟩=some (.bool false)∧W.cell? ⟨w.heap.size+1,3,none⟩=some (.int .i64 0)∧W.cell? ⟨w.heap.size+1,4,none⟩=some (.int .i64 0)∧W.cell? ⟨w.heap.size+1,5,none⟩=some (.int .i64 0)∧W.cell? ⟨w.heap.size+1,6,none⟩=some (.int .i64 0)):=fun W hb=>HS.out _ W (HW.out.later hb) (Fr.of_below HW.out.st.below.2.2.2 hb)
     have HLt:Hid (w.heap.size+1<y.heap.size∧w.heap.size+1<y.heap.size∧w.heap.size+1<y.heap.size∧w.heap.size+1<y.heap.size∧w.heap.size+1<y.heap.size∧w.heap.size+1<y.heap.size∧w.heap.size+1<y.heap.size):=⟨HL1.out.lt,HL1.out.lt,HL1.out.lt,HL1.out.lt,HL1.out.lt,HL1.out.lt,HL1.out.lt⟩
     clear hw hl0 hl1
     go_region_held3 (fun w'=>w'.cell? ⟨w.heap.size+1,0,none⟩=some (.bool false)∧w'.cell? ⟨w.heap.size+1,1,none⟩=some (.int .i64 0)∧w'.cell? ⟨w.heap.size+1,2,none⟩=some (.bool false)∧w'.cell? ⟨w.heap.size+1,3,none⟩=some (.int .i64 0)∧w'.cell? ⟨w.heap.size+1,4,none⟩=some (.int .i64 0)∧w'.cell? ⟨w.heap.size+1,5,none⟩=some (.int .i64 0)∧w'.cell? ⟨w.heap.size+1,6,none⟩=some (.int .i64 0)) (first|(refine HSa.out _ ?_;(repeat (first|(with_reducible first|exact RowKit.Below.refl _ _|assumption|refine RowKit.Below.drew ?_)|((with_reducible first|refine belAlloc ?_ ?_|refine belSet ?_ ?_);(first|simp<;>omega|omega))));done)|(refine hSb _ ?_;(repeat (first|(with_reducible first|exact RowKit.Below.refl _ _|assumption|refine RowKit.Below.drew ?_)|((with_reducible first|refine belAlloc ?_ ?_|refine belSet ?_ ?_);(first|simp<;>omega|omega))));done)|(simp only[set7_same hres];refine hSb _ ?_;(repeat (first|(with_reducible first|exact RowKit.Below.refl _ _|assumption|refine RowKit.Below.drew ?_)|((with_reducible first|refine belAlloc ?_ ?_|refine belSet ?_ ?_);(first|simp<;>omega|omega))));done)) ((first|(go_at_call 88;(refine (Kf.out _ _ (Ht.out.keep (HW.out.later (by (repeat (first|(with_reducible first|exact RowKit.Below.refl _ _|assumption|refine RowKit.Below.drew ?_)|((with_reducible first|refine belAlloc ?_ ?_|refine belSet ?_ ?_);(first|simp<;>omega|omega)))))).fr)).mono ?_);rintro e w2 ⟨v,rfl,hk,hb⟩;have hbW:=belOfB (u:=y) hb (by (repeat (first|(with_reducible first|exact RowKit.Below.refl _ _|assumption|refine RowKit.Below.drew ?_)|((with_reducible first|refine belAlloc ?_ ?_|refine belSet ?_ ?_);(first|simp<;>omega|omega)))));have hbu:=hbW.trans (hb.mono hbW.size);have hw2:=HW.out.later hbu;have hf:Fr B [] y w2:=Fr.of_below HW.out.st.below.2.2.2 hbu;have hfW:Fr B [] _ w2:=Fr.of_below (Nat.le_trans HW.out.st.below.2.2.2 hbW.size) hb;have Hk:=Lib.hid hk;clear hk;have hs2:=HS.out _ w2 hw2 hf;have hSb: ∀W:World,Below y.heap.size w2 W→W.cell? ⟨w.heap.size+1,0,none⟩=some (.bool false)∧W.cell? ⟨w.heap.size+1,1,none⟩=some (.int .i64 0)∧W.cell? ⟨w.heap.size+1,2,none⟩=some (.bool false)∧W.cell? ⟨w.heap.size+1,3,none⟩=some (.int .i64 0)∧W.cell? ⟨w.heap.size+1,4,none⟩=some (.int .i64 0)∧W.cell? ⟨w.heap.size+1,5,none⟩=some (.int .i64 0)∧W.cell? ⟨w.heap.size+1,6,none⟩=some (.int .i64 0):=fun W hb=>⟨cell_lt HLt.out.1 hb hs2.1,cell_lt HLt.out.2.1 hb hs2.2.1,cell_lt HLt.out.2.2.1 hb hs2.2.2.1,cell_lt HLt.out.2.2.2.1 hb hs2.2.2.2.1,cell_lt HLt.out.2.2.2.2.1 hb hs2.2.2.2.2.1,cell_lt HLt.out.2.2.2.2.2.1 hb hs2.2.2.2.2.2.1,cell_lt HLt.out.2.2.2.2.2.2 hb hs2.2.2.2.2.2.2⟩;have hsk:=hs2;have hsz:=hf.size;have hl02:=HL0.out.keep hf rfl;have hl12:=HL1.out.keep hf rfl;have hres:=hl02;obtain⟨r0,r1,r2,r3,r4,r5,r6⟩:=res_cells hl02;obtain⟨f0,f1,f2,f3,f4,f5,f6⟩:=res_free hl02;have HW2:=Lib.hid hw2;have Hf:=Lib.hid hf;have HLb0:=Lib.hid hl02;have HLb1:=Lib.hid hl12;clear hw2 hf hfW hbW hs2 hb hbu hl02 hl12)))
     all_goals
       rw[set7_same hres]
       go_wp2_with fail
       rw[Hx.out]
       exact bodyPost_ret (v:= .tuple #[v,.agg res0]) (by simp [results,Tryz.results127,go_sem,r0,r1,r2,r3,r4,r5,r6]) rfl ⟨v,false,err 0,rfl,⟨Hk.out,rfl,rfl⟩,HW2.out.call,HW2.out.st,HW2.out.fr⟩
 · have hx:enteredF Bl E.A.list E.A.room sum word u L t x m=thenF Bl E.A.list E.A.room t word u L x m:=by
     unfold enteredF
     exact if_neg hp
   have Hx:=Lib.hid hx
   have h1: ¬(u:Int)=0:=by omega
   have h2: ¬(4611686018427387904:Int)≤u:=by omega
   clear hx hu hp
   have HW:Hid (Was w B E x m (w.alloc (.cells res0 37))):=W0.out.later (below_allocs [_] w)
   have HL0:Hid (Bx (w.alloc (.cells res0 37)) w.heap.size 37 res0):=bx_allocs w [_] 0 rfl
   have Kt:Hid (Calls Tryz.prog f (#[.int .i64 word,.int .u64 u,.slice ca cn cc]++ps) (w.alloc (.cells res0 37)) (ORes (w.alloc (.cells res0 37)) B E (thenF Bl E.A.list E.A.room t word u L x m))):=by
     obtain⟨f',ps',e,_,k⟩:=hT B E x m t _ word u ca cn cc L (w.alloc (.cells res0 37)) (Ht.out.keep HW.out.fr) Hg.out HW.out.st HW.out.call (Hc.out.keep HW.out.fr) H34.out Hu.out
     injection e with e1 e2 e3
     injection e1 with e1
     subst e1 e3
     exact k
   go_enter Tryz.func127,Tryz.ntmps127
   go_wp2_with (go_at_fn f;(refine (Kt.out).mono ?_);rintro e w3 h;obtain⟨v,d,a,rfl,ha⟩:=Ans.of h;have hr3:=HL0.out.keep ha.fr rfl;obtain⟨r0,r1,r2,r3,r4,r5,r6⟩:=res_cells hr3;obtain⟨f0,f1,f2,f3,f4,f5,f6⟩:=res_free hr3;have Hr3:=Lib.hid hr3;have Ha:=Lib.hid ha;clear hr3 ha h)
   rw[Hx.out]
   exact bodyPost_ret (v:= .tuple #[v,.agg (resA d a)]) (by simp [results,Tryz.results127,go_sem,r0,r1,r2,r3,r4,r5,r6]) rfl ((Ha.out.pre HW.out.fr).store Hr3.out (Nat.le_refl _) HB0.out).ores
set_option maxHeartbeats 1000000 in
set_option maxRecDepth 100000 in
theorem hthen_find (hT:ThenSpec Bl) (B:Nat) (E:Env) (x:Live) (m:Mem) (sum:Nat) (t:Then) (v:Value) (word u:Nat) (ca:Option Addr) (cn cc:Nat) (L:List Cell) (w:World) (hv:HThenAt w E v (.find sum t)) (hg:TOk E x t) (hs:St w B E.A m) (hcl:CallAt w E x) (hc:CellsAt w (.slice ca cn cc) L) (hw34:word<34) (hu:u<18446744073709551616):
   ∃f ps,v= .func (.func f) #[] ps∧Enters f∧Calls Tryz.prog f (#[.int .i64 word,.int .u64 u,.slice ca cn cc]++ps) w (ORes w B E (hthenF Bl E.A.list E.A.room (.find sum t) word u L x m)):=by
 obtain⟨b0,b1,b2,b3,tv,b4,rfl,h0,h1,h2,h3,ht,h4⟩:=hv
 refine⟨_,_,rfl,enters_of Tryz.func126 (by kernel_rfl) rfl,?_⟩
 show Calls _ _ #[.int .i64 word,.int .u64 u,.slice ca cn cc,P b0,P b1,P b2,P b3,P b4] _ _
 obtain⟨tf,tps,rfl⟩:=ht.func
 have W0:=Lib.hid (Was.start hs hcl)
 have HB0:=Lib.hid hs.below.2.2.2
 have H:=Lib.hid (And.intro h0 (And.intro h1 (And.intro h2 (And.intro h3 (And.intro h4 ht)))))
 have Hc:=Lib.hid hc;have Hg:=Lib.hid hg;have H34:=Lib.hid hw34;have Hu:=Lib.hid hu
 clear h0 h1 h2 h3 h4 ht hs hcl hc hg hw34
 by_cases hp:u=0
 · have hx:hthenF Bl E.A.list E.A.room (.find sum t) word u L x m=more (.enter sum word t) x m:=if_pos hp
   have Hx:=Lib.hid hx
   have Ke:=Lib.hid (fun W v h=>enter_any E sum word t v W h)
   clear hx hu
   subst hp
   go_enter Tryz.func126,Tryz.ntmps126
   go_wp2_with fail
   refine wp_name (fun u=>Was w B E x (m) u∧Bx u w.heap.size 37 res0) ⟨W0.out.later (below_allocs [_] w),bx_allocs w [_] 0 rfl⟩ ?_
   rintro y ⟨hw,hl0⟩
   have HW:=Lib.hid hw
   have HL0:=Lib.hid hl0
   have HS:Hid (∀(mm:Mem) (W:World),Was w B E x mm W→Fr B [] y W→W.cell? ⟨b0,0,none⟩=some (P E.A.lanes)∧W.cell? ⟨b1,0,none⟩=some (.int .i64 E.who)∧W.cell? ⟨b2,0,none⟩=some (.int .u64 (sum:Nat))∧W.cell? ⟨b3,0,none⟩=some (.func tf #[] tps)∧W.cell? ⟨b4,0,none⟩=some (.bool false)∧W.cell? ⟨b4,1,none⟩=some (.int .i64 0)∧W.cell? ⟨b4,2,none⟩=some (.bool false)∧W.cell? ⟨b4,3,none⟩=some (.int .i64 0)∧W.cell? ⟨b4,4,none⟩=some (.int .i64 0)∧W.cell? ⟨b4,5,none⟩=some (.int .i64 0)∧W.cell? ⟨b4,6,none⟩=some (.int .i64 0)):=fun mm W hw hf=>⟨(H.out.1.keep hw.fr rfl).cell 0,(H.out.2.1.keep hw.fr rfl).cell 0,(H.out.2.2.1.keep hw.fr rfl).cell 0,(H.out.2.2.2.1.keep hw.fr rfl).cell 0,(H.out.2.2.2.2.1.keep hw.fr rfl).cell 0,(H.out.2.2.2.2.1.keep hw.fr rfl).cell 1,(H.out.2.2.2.2.1.keep hw.fr rfl).cell 2,(H.out.2.2.2.2.1.keep hw.fr rfl).cell 3,(H.out.2.2.2.2.1.keep hw.fr rfl).cell 4,(H.out.2.2.2.2.1.keep hw.fr rfl).cell 5,(H.out.2.2.2.2.1.keep hw.fr rfl).cell 6⟩
   have HSa:Hid (∀W:World,Below y.heap.size y W→W.cell? ⟨b0,0,none⟩=some (P E.A.lanes)∧W.cell? ⟨b1,0,none⟩=some (.int .i64 E.who)∧W.cell? ⟨b2,0,none⟩=some (.int .u64 (sum:Nat))∧W.cell? ⟨b3,0,none⟩=some (.func tf #[] tps)∧W.cell? ⟨b4,0,none⟩=some (.bool false)∧W.cell? ⟨b4,1,none⟩=some (.int .i64 0)∧W.cell? ⟨b4,2,none⟩=some (.bool false)∧W.cell? ⟨b4,3,none⟩=some (.int .i64 0)∧W.cell? ⟨b4,4,none⟩=some (.int .i64 0)∧W.cell? ⟨b4,5,none⟩=some (.int .i64 0)∧W.cell? ⟨b4,6,none⟩=some (.int .i64 0)):=fun W hb=>HS.out _ W (HW.out.later hb) (Fr.of_below HW.out.st.below.2.2.2 hb)
   have HLt:Hid (b0<y.heap.size∧b1<y.heap.size∧b2<y.heap.size∧b3<y.heap.size∧b4<y.heap.size∧b4<y.heap.size∧b4<y.heap.size∧b4<y.heap.size∧b4<y.heap.size∧b4<y.heap.size∧b4<y.heap.size):=⟨(H.out.1.keep HW.out.fr rfl).lt,(H.out.2.1.keep HW.out.fr rfl).lt,(H.out.2.2.1.keep HW.out.fr rfl).lt,(H.out.2.2.2.1.keep HW.out.fr rfl).lt,(H.out.2.2.2.2.1.keep HW.out.fr rfl).lt,(H.out.2.2.2.2.1.keep HW.out.fr rfl).lt,(H.out.2.2.2.2.1.keep HW.out.fr rfl).lt,(H.out.2.2.2.2.1.keep HW.out.fr rfl).lt,(H.out.2.2.2.2.1.keep HW.out.fr rfl).lt,(H.out.2.2.2.2.1.keep HW.out.fr rfl).lt,(H.out.2.2.2.2.1.keep HW.out.fr rfl).lt⟩
   clear hw hl0
   go_region_held3 (fun w'=>w'.cell? ⟨b0,0,none⟩=some (P E.A.lanes)∧w'.cell? ⟨b1,0,none⟩=some (.int .i64 E.who)∧w'.cell? ⟨b2,0,none⟩=some (.int .u64 (sum:Nat))∧w'.cell? ⟨b3,0,none⟩=some (.func tf #[] tps)∧w'.cell? ⟨b4,0,none⟩=some (.bool false)∧w'.cell? ⟨b4,1,none⟩=some (.int .i64 0)∧w'.cell? ⟨b4,2,none⟩=some (.bool false)∧w'.cell? ⟨b4,3,none⟩=some (.int .i64 0)∧w'.cell? ⟨b4,4,none⟩=some (.int .i64 0)∧w'.cell? ⟨b4,5,none⟩=some (.int .i64 0)∧w'.cell? ⟨b4,6,none⟩=some (.int .i64 0)) (first|(refine HSa.out _ ?_;(repeat (first|(with_reducible first|exact RowKit.Below.refl _ _|assumption|refine RowKit.Below.drew ?_)|((with_reducible first|refine belAlloc ?_ ?_|refine belSet ?_ ?_);(first|simp<;>omega|omega))));done)|(refine hSb _ ?_;(repeat (first|(with_reducible first|exact RowKit.Below.refl _ _|assumption|refine RowKit.Below.drew ?_)|((with_reducible first|refine belAlloc ?_ ?_|refine belSet ?_ ?_);(first|simp<;>omega|omega))));done)|(simp only[set7_same hres];refine hSb _ ?_;(repeat (first|(with_reducible first|exact RowKit.Below.refl _ _|assumption|refine RowKit.Below.drew ?_)|((with_reducible first|refine belAlloc ?_ ?_|refine belSet ?_ ?_);(first|simp<;>omega|omega))));done)) ((first|(go_at_call 124;(refine (Ke.out _ _ (H.out.2.2.2.2.2.keep (HW.out.later (by (repeat (first|(with_reducible first|exact RowKit.Below.refl _ _|assumption|refine RowKit.Below.drew ?_)|((with_reducible first|refine belAlloc ?_ ?_|refine belSet ?_ ?_);(first|simp<;>omega|omega)))))).fr)).mono ?_);rintro e w2 ⟨v,rfl,hk,hb⟩;have hbW:=belOfB (u:=y) hb (by (repeat (first|(with_reducible first|exact RowKit.Below.refl _ _|assumption|refine RowKit.Below.drew ?_)|((with_reducible first|refine belAlloc ?_ ?_|refine belSet ?_ ?_);(first|simp<;>omega|omega)))));have hbu:=hbW.trans (hb.mono hbW.size);have hw2:=HW.out.later hbu;have hf:Fr B [] y w2:=Fr.of_below HW.out.st.below.2.2.2 hbu;have hfW:Fr B [] _ w2:=Fr.of_below (Nat.le_trans HW.out.st.below.2.2.2 hbW.size) hb;have Hk:=Lib.hid hk;clear hk;have hs2:=HS.out _ w2 hw2 hf;have hSb: ∀W:World,Below y.heap.size w2 W→W.cell? ⟨b0,0,none⟩=some (P E.A.lanes)∧W.cell? ⟨b1,0,none⟩=some (.int .i64 E.who)∧W.cell? ⟨b2,0,none⟩=some (.int .u64 (sum:Nat))∧W.cell? ⟨b3,0,none⟩=some (.func tf #[] tps)∧W.cell? ⟨b4,0,none⟩=some (.bool false)∧W.cell? ⟨b4,1,none⟩=some (.int .i64 0)∧W.cell? ⟨b4,2,none⟩=some (.bool false)∧W.cell? ⟨b4,3,none⟩=some (.int .i64 0)∧W.cell? ⟨b4,4,none⟩=some (.int .i64 0)∧W.cell? ⟨b4,5,none⟩=some (.int .i64 0)∧W.cell? ⟨b4,6,none⟩=some (.int .i64 0):=fun W hb=>⟨cell_lt HLt.out.1 hb hs2.1,cell_lt HLt.out.2.1 hb hs2.2.1,cell_lt HLt.out.2.2.1 hb hs2.2.2.1,cell_lt HLt.out.2.2.2.1 hb hs2.2.2.2.1,cell_lt HLt.out.2.2.2.2.1 hb hs2.2.2.2.2.1,cell_lt HLt.out.2.2.2.2.2.1 hb hs2.2.2.2.2.2.1,cell_lt HLt.out.2.2.2.2.2.2.1 hb hs2.2.2.2.2.2.2.1,cell_lt HLt.out.2.2.2.2.2.2.2.1 hb hs2.2.2.2.2.2.2.2.1,cell_lt HLt.out.2.2.2.2.2.2.2.2.1 hb hs2.2.2.2.2.2.2.2.2.1,cell_lt HLt.out.2.2.2.2.2.2.2.2.2.1 hb hs2.2.2.2.2.2.2.2.2.2.1,cell_lt HLt.out.2.2.2.2.2.2.2.2.2.2 hb hs2.2.2.2.2.2.2.2.2.2.2⟩;have hsk:=hs2;have hsz:=hf.size;have hl02:=HL0.out.keep hf rfl;have hres:=hl02;obtain⟨r0,r1,r2,r3,r4,r5,r6⟩:=res_cells hl02;obtain⟨f0,f1,f2,f3,f4,f5,f6⟩:=res_free hl02;have HW2:=Lib.hid hw2;have Hf:=Lib.hid hf;have HLb0:=Lib.hid hl02;clear hw2 hf hfW hbW hs2 hb hbu hl02)))
   all_goals
     rw[set7_same hres]
     go_wp2_with fail
     rw[Hx.out]
     exact bodyPost_ret (v:= .tuple #[v,.agg res0]) (by simp [results,Tryz.results126,go_sem,r0,r1,r2,r3,r4,r5,r6]) rfl ⟨v,false,err 0,rfl,⟨Hk.out,rfl,rfl⟩,HW2.out.call,HW2.out.st,HW2.out.fr⟩
 · have hx:hthenF Bl E.A.list E.A.room (.find sum t) word u L x m=enteredF Bl E.A.list E.A.room sum word u L t x m:=if_neg hp
   have Hx:=Lib.hid hx
   have h1: ¬(u:Int)=0:=by omega
   clear hx hu hp
   have HW:Hid (Was w B E x m (w.alloc (.cells res0 37))):=W0.out.later (below_allocs [_] w)
   have HL0:Hid (Bx (w.alloc (.cells res0 37)) w.heap.size 37 res0):=bx_allocs w [_] 0 rfl
   have Kt:=Lib.hid (entered_any Bl hT B E x m sum word u t (.func tf #[] tps) ca cn cc L (w.alloc (.cells res0 37)) (H.out.2.2.2.2.2.keep HW.out.fr) Hg.out HW.out.st HW.out.call (Hc.out.keep HW.out.fr) H34.out Hu.out)
   have c0:=H.out.1.at0;have c1:=H.out.2.1.at0;have c2:=H.out.2.2.1.at0;have c3:=H.out.2.2.2.1.at0
   have l0:=H.out.1.lt;have l1:=H.out.2.1.lt;have l2:=H.out.2.2.1.lt;have l3:=H.out.2.2.2.1.lt
   go_enter Tryz.func126,Tryz.ntmps126
   go_wp2_with (go_at_call 127;(refine (Kt.out).mono ?_);rintro e w3 h;obtain⟨v,d,a,rfl,ha⟩:=Ans.of h;have hr3:=HL0.out.keep ha.fr rfl;obtain⟨r0,r1,r2,r3,r4,r5,r6⟩:=res_cells hr3;obtain⟨f0,f1,f2,f3,f4,f5,f6⟩:=res_free hr3;have Hr3:=Lib.hid hr3;have Ha:=Lib.hid ha;clear hr3 ha h)
   rw[Hx.out]
   exact bodyPost_ret (v:= .tuple #[v,.agg (resA d a)]) (by simp [results,Tryz.results126,go_sem,r0,r1,r2,r3,r4,r5,r6]) rfl ((Ha.out.pre HW.out.fr).store Hr3.out (Nat.le_refl _) HB0.out).ores
set_option maxHeartbeats 1000000 in
set_option maxRecDepth 100000 in
theorem move_any (E:Env) (level i:Nat) (w:World) (hl:level≤4) (hi:i≤2^level):
   Calls Tryz.prog 84 #[P E.A.lanes,.int .i64 E.who,.int .i64 level,.int .i64 i,.func (.func 60) #[] #[]] w (KRes w E (moveK level i)):=by
 unfold moveK
 by_cases h:i=2^level
 · rw[if_pos h,h]
   exact move_end E level w hl
 · rw[if_neg h]
   exact move_on E level i w hl (by omega)
set_option maxHeartbeats 1000000 in
set_option maxRecDepth 100000 in
theorem hthen_two (B:Nat) (E:Env) (x:Live) (m:Mem) (level i:Nat) (v:Value) (word u:Nat) (ca:Option Addr) (cn cc:Nat) (L:List Cell) (w:World) (hv:HThenAt w E v (.two level i)) (hl:level≤4) (hi:i<2^level) (hs:St w B E.A m) (hcl:CallAt w E x):
   ∃f ps,v= .func (.func f) #[] ps∧Enters f∧Calls Tryz.prog f (#[.int .i64 word,.int .u64 u,.slice ca cn cc]++ps) w (ORes w B E (hthenF Bl E.A.list E.A.room (.two level i) word u L x m)):=by
 obtain⟨b0,b1,b2,b3,b4,b5,rfl,h0,h1,h2,h3,h4,h5⟩:=hv
 refine⟨_,_,rfl,enters_of Tryz.func122 (by kernel_rfl) rfl,?_⟩
 show Calls _ _ #[.int .i64 word,.int .u64 u,.slice ca cn cc,P b0,P b1,P b2,P b3,P b4,P b5] _ _
 have W0:=Lib.hid (Was.start hs hcl)
 have H:=Lib.hid (And.intro h0 (And.intro h1 (And.intro h2 (And.intro h3 (And.intro h4 h5)))))
 have hx:hthenF Bl E.A.list E.A.room (.two level i) word u L x m=more (moveK level (i+1)) x m:=rfl
 have Hx:=Lib.hid hx
 have hi16:i<16:=Nat.lt_of_lt_of_le hi (by have:=Nat.pow_le_pow_right (n:=2) (by decide) hl;simpa using this)
 have hwr:IntKind.i64.wrap ((i:Int)+1)=((i+1:Nat):Int):=by rw[IntKind.wrap_i64];omega
 have Kf:=Lib.hid (fun W=>move_any E level (i+1) W hl hi)
 clear h0 h1 h2 h3 h4 h5 hs hcl hx hi hl hi16
 go_enter Tryz.func122,Tryz.ntmps122
 go_wp2_with fail
 refine wp_name (fun u=>Was w B E x (m) u∧Bx u w.heap.size 37 res0) ⟨W0.out.later (below_allocs [_] w),bx_allocs w [_] 0 rfl⟩ ?_
 rintro y ⟨hw,hl0⟩
 have HW:=Lib.hid hw
 have HL0:=Lib.hid hl0
 have HS:Hid (∀(mm:Mem) (W:World),Was w B E x mm W→Fr B [] y W→W.cell? ⟨b0,0,none⟩=some (P E.A.lanes)∧W.cell? ⟨b1,0,none⟩=some (.int .i64 E.who)∧W.cell? ⟨b2,0,none⟩=some (.int .i64 (level:Nat))∧W.cell? ⟨b3,0,none⟩=some (.int .i64 (i:Nat))∧W.cell? ⟨b4,0,none⟩=some (.func (.func 60) #[] #[])∧W.cell? ⟨b5,0,none⟩=some (.bool false)∧W.cell? ⟨b5,1,none⟩=some (.int .i64 0)∧W.cell? ⟨b5,2,none⟩=some (.bool false)∧W.cell? ⟨b5,3,none⟩=some (.int .i64 0)∧W.cell? ⟨b5,4,none⟩=some (.int .i64 0)∧W.cell? ⟨b5,5,none⟩=some (.int .i64 0)∧W.cell? ⟨b5,6,none⟩=some (.int .i64 0)):=fun mm W hw hf=>⟨(H.out.1.keep hw.fr rfl).cell 0,(H.out.2.1.keep hw.fr rfl).cell 0,(H.out.2.2.1.keep hw.fr rfl).cell 0,(H.out.2.2.2.1.keep hw.fr rfl).cell 0,(H.out.2.2.2.2.1.keep hw.fr rfl).cell 0,(H.out.2.2.2.2.2.keep hw.fr rfl).cell 0,(H.out.2.2.2.2.2.keep hw.fr rfl).cell 1,(H.out.2.2.2.2.2.keep hw.fr rfl).cell 2,(H.out.2.2.2.2.2.keep hw.fr rfl).cell 3,(H.out.2.2.2.2.2.keep hw.fr rfl).cell 4,(H.out.2.2.2.2.2.keep hw.fr rfl).cell 5,(H.out.2.2.2.2.2.keep hw.fr rfl).cell 6⟩
 have HSa:Hid (∀W:World,Below y.heap.size y W→W.cell? ⟨b0,0,none⟩=some (P E.A.lanes)∧W.cell? ⟨b1,0,none⟩=some (.int .i64 E.who)∧W.cell? ⟨b2,0,none⟩=some (.int .i64 (level:Nat))∧W.cell? ⟨b3,0,none⟩=some (.int .i64 (i:Nat))∧W.cell? ⟨b4,0,none⟩=some (.func (.func 60) #[] #[])∧W.cell? ⟨b5,0,none⟩=some (.bool false)∧W.cell? ⟨b5,1,none⟩=some (.int .i64 0)∧W.cell? ⟨b5,2,none⟩=some (.bool false)∧W.cell? ⟨b5,3,none⟩=some (.int .i64 0)∧W.cell? ⟨b5,4,none⟩=some (.int .i64 0)∧W.cell? ⟨b5,5,none⟩=some (.int .i64 0)∧W.cell? ⟨b5,6,none⟩=some (.int .i64 0)):=fun W hb=>HS.out _ W (HW.out.later hb) (Fr.of_below HW.out.st.below.2.2.2 hb)
 have HLt:Hid (b0<y.heap.size∧b1<y.heap.size∧b2<y.heap.size∧b3<y.heap.size∧b4<y.heap.size∧b5<y.heap.size∧b5<y.heap.size∧b5<y.heap.size∧b5<y.heap.size∧b5<y.heap.size∧b5<y.heap.size∧b5<y.heap.size):=⟨(H.out.1.keep HW.out.fr rfl).lt,(H.out.2.1.keep HW.out.fr rfl).lt,(H.out.2.2.1.keep HW.out.fr rfl).lt,(H.out.2.2.2.1.keep HW.out.fr rfl).lt,(H.out.2.2.2.2.1.keep HW.out.fr rfl).lt,(H.out.2.2.2.2.2.keep HW.out.fr rfl).lt,(H.out.2.2.2.2.2.keep HW.out.fr rfl).lt,(H.out.2.2.2.2.2.keep HW.out.fr rfl).lt,(H.out.2.2.2.2.2.keep HW.out.fr rfl).lt,(H.out.2.2.2.2.2.keep HW.out.fr rfl).lt,(H.out.2.2.2.2.2.keep HW.out.fr rfl).lt,(H.out.2.2.2.2.2.keep HW.out.fr rfl).lt⟩
 clear hw hl0
 go_region_held3 (fun w'=>w'.cell? ⟨b0,0,none⟩=some (P E.A.lanes)∧w'.cell? ⟨b1,0,none⟩=some (.int .i64 E.who)∧w'.cell? ⟨b2,0,none⟩=some (.int .i64 (level:Nat))∧w'.cell? ⟨b3,0,none⟩=some (.int .i64 (i:Nat))∧w'.cell? ⟨b4,0,none⟩=some (.func (.func 60) #[] #[])∧w'.cell? ⟨b5,0,none⟩=some (.bool false)∧w'.cell? ⟨b5,1,none⟩=some (.int .i64 0)∧w'.cell? ⟨b5,2,none⟩=some (.bool false)∧w'.cell? ⟨b5,3,none⟩=some (.int .i64 0)∧w'.cell? ⟨b5,4,none⟩=some (.int .i64 0)∧w'.cell? ⟨b5,5,none⟩=some (.int .i64 0)∧w'.cell? ⟨b5,6,none⟩=some (.int .i64 0)) (first|(refine HSa.out _ ?_;(repeat (first|(with_reducible first|exact RowKit.Below.refl _ _|assumption|refine RowKit.Below.drew ?_)|((with_reducible first|refine belAlloc ?_ ?_|refine belSet ?_ ?_);(first|simp<;>omega|omega))));done)|(refine hSb _ ?_;(repeat (first|(with_reducible first|exact RowKit.Below.refl _ _|assumption|refine RowKit.Below.drew ?_)|((with_reducible first|refine belAlloc ?_ ?_|refine belSet ?_ ?_);(first|simp<;>omega|omega))));done)|(simp only[set7_same hres];refine hSb _ ?_;(repeat (first|(with_reducible first|exact RowKit.Below.refl _ _|assumption|refine RowKit.Below.drew ?_)|((with_reducible first|refine belAlloc ?_ ?_|refine belSet ?_ ?_);(first|simp<;>omega|omega))));done)) ((first|(go_at_call 84;(refine (Kf.out _).mono ?_);rintro e w2 ⟨v,rfl,hk,hb⟩;have hbW:=belOfB (u:=y) hb (by (repeat (first|(with_reducible first|exact RowKit.Below.refl _ _|assumption|refine RowKit.Below.drew ?_)|((with_reducible first|refine belAlloc ?_ ?_|refine belSet ?_ ?_);(first|simp<;>omega|omega)))));have hbu:=hbW.trans (hb.mono hbW.size);have hw2:=HW.out.later hbu;have hf:Fr B [] y w2:=Fr.of_below HW.out.st.below.2.2.2 hbu;have hfW:Fr B [] _ w2:=Fr.of_below (Nat.le_trans HW.out.st.below.2.2.2 hbW.size) hb;have Hk:=Lib.hid hk;clear hk;have hs2:=HS.out _ w2 hw2 hf;have hSb: ∀W:World,Below y.heap.size w2 W→W.cell? ⟨b0,0,none⟩=some (P E.A.lanes)∧W.cell? ⟨b1,0,none⟩=some (.int .i64 E.who)∧W.cell? ⟨b2,0,none⟩=some (.int .i64 (level:Nat))∧W.cell? ⟨b3,0,none⟩=some (.int .i64 (i:Nat))∧W.cell? ⟨b4,0,none⟩=some (.func (.func 60) #[] #[])∧W.cell? ⟨b5,0,none⟩=some (.bool false)∧W.cell? ⟨b5,1,none⟩=some (.int .i64 0)∧W.cell? ⟨b5,2,none⟩=some (.bool false)∧W.cell? ⟨b5,3,none⟩=some (.int .i64 0)∧W.cell? ⟨b5,4,none⟩=some (.int .i64 0)∧W.cell? ⟨b5,5,none⟩=some (.int .i64 0)∧W.cell? ⟨b5,6,none⟩=some (.int .i64 0):=fun W hb=>⟨cell_lt HLt.out.1 hb hs2.1,cell_lt HLt.out.2.1 hb hs2.2.1,cell_lt HLt.out.2.2.1 hb hs2.2.2.1,cell_lt HLt.out.2.2.2.1 hb hs2.2.2.2.1,cell_lt HLt.out.2.2.2.2.1 hb hs2.2.2.2.2.1,cell_lt HLt.out.2.2.2.2.2.1 hb hs2.2.2.2.2.2.1,cell_lt HLt.out.2.2.2.2.2.2.1 hb hs2.2.2.2.2.2.2.1,cell_lt HLt.out.2.2.2.2.2.2.2.1 hb hs2.2.2.2.2.2.2.2.1,cell_lt HLt.out.2.2.2.2.2.2.2.2.1 hb hs2.2.2.2.2.2.2.2.2.1,cell_lt HLt.out.2.2.2.2.2.2.2.2.2.1 hb hs2.2.2.2.2.2.2.2.2.2.1,cell_lt HLt.out.2.2.2.2.2.2.2.2.2.2.1 hb hs2.2.2.2.2.2.2.2.2.2.2.1,cell_lt HLt.out.2.2.2.2.2.2.2.2.2.2.2 hb hs2.2.2.2.2.2.2.2.2.2.2.2⟩;have hsk:=hs2;have hsz:=hf.size;have hl02:=HL0.out.keep hf rfl;have hres:=hl02;obtain⟨r0,r1,r2,r3,r4,r5,r6⟩:=res_cells hl02;obtain⟨f0,f1,f2,f3,f4,f5,f6⟩:=res_free hl02;have HW2:=Lib.hid hw2;have Hf:=Lib.hid hf;have HLb0:=Lib.hid hl02;clear hw2 hf hfW hbW hs2 hb hbu hl02)))
 all_goals
   rw[set7_same hres]
   go_wp2_with fail
   rw[Hx.out]
   exact bodyPost_ret (v:= .tuple #[v,.agg res0]) (by simp [results,Tryz.results122,go_sem,r0,r1,r2,r3,r4,r5,r6]) rfl ⟨v,false,err 0,rfl,⟨Hk.out,rfl,rfl⟩,HW2.out.call,HW2.out.st,HW2.out.fr⟩
set_option maxHeartbeats 1000000 in
set_option maxRecDepth 100000 in
theorem hthen_one (B:Nat) (E:Env) (x:Live) (m:Mem) (level i:Nat) (holds:List Cell) (v:Value) (word u:Nat) (ca:Option Addr) (cn cc:Nat) (L:List Cell) (w:World) (hv:HThenAt w E v (.one level i holds)) (hl:level≤4) (hi:i<2^level) (hs:St w B E.A m) (hcl:CallAt w E x):
   ∃f ps,v= .func (.func f) #[] ps∧Enters f∧Calls Tryz.prog f (#[.int .i64 word,.int .u64 u,.slice ca cn cc]++ps) w (ORes w B E (hthenF Bl E.A.list E.A.room (.one level i holds) word u L x m)):=by
 obtain⟨b0,b1,b2,b3,b4,cv,b5,b6,rfl,h0,h1,h2,h3,h4,hcv,h5,h6⟩:=hv
 refine⟨_,_,rfl,enters_of Tryz.func121 (by kernel_rfl) rfl,?_⟩
 show Calls _ _ #[.int .i64 word,.int .u64 u,.slice ca cn cc,P b0,P b1,P b2,P b3,P b4,P b5,P b6] _ _
 obtain⟨va,vn,vc,rfl⟩:=hcv.slice
 have W0:=Lib.hid (Was.start hs hcl)
 have H:=Lib.hid (And.intro h0 (And.intro h1 (And.intro h2 (And.intro h3 (And.intro h4 (And.intro h5 (And.intro h6 hcv)))))))
 have hx:hthenF Bl E.A.list E.A.room (.one level i holds) word u L x m=more (.half (level+1) (i+2^level) holds (.two level i)) x m:=rfl
 have Hx:=Lib.hid hx
 have h16:2^level≤16:=by have:=Nat.pow_le_pow_right (n:=2) (by decide) hl;simpa using this
 have hwr:IntKind.i64.wrap ((level:Int)+1)=((level+1:Nat):Int):=by rw[IntKind.wrap_i64];omega
 have hs1:IntKind.i64.wrap (2^level:Int)=(2^level:Nat):=shl1 level (by omega)
 have Kf0: ∀W v,HThenAt W E v (.two level i)→CellsAt W (.slice va vn vc) holds→Calls Tryz.prog 120 #[P E.A.lanes,.int .i64 E.who,.int .i64 (level+1:Nat),.int .u64 (i+2^level:Nat),.slice va vn vc,v] W (KRes W E (.half (level+1) (i+2^level) holds (.two level i))):=fun W v h hc=>half_any E (level+1) (i+2^level) holds (.two level i) v (.slice va vn vc) W h hc (by omega)
 obtain⟨pw,hpw⟩: ∃pw,2^level=pw:=⟨_,rfl⟩
 rw[hpw]at Kf0 h16 hs1 hi Hx
 have hs2:IntKind.i64.wrap ((i:Int)+(pw:Int))=(i:Int)+(pw:Int):=by rw[IntKind.wrap_i64];omega
 have hs3:IntKind.u64.wrap ((i:Int)+(pw:Int))=(i:Int)+(pw:Int):=by rw[IntKind.wrap_u64];omega
 have Kf:Hid (∀W v,HThenAt W E v (.two level i)→CellsAt W (.slice va vn vc) holds→Calls Tryz.prog 120 #[P E.A.lanes,.int .i64 E.who,.int .i64 ((level:Int)+1),.int .u64 ((i:Int)+(pw:Int)),.slice va vn vc,v] W (KRes W E (.half (level+1) (i+pw) holds (.two level i)))):=Kf0
 have hl0:(0:Int)≤level:=by omega
 have hl1:(level:Int)<64:=by omega
 clear h0 h1 h2 h3 h4 h5 h6 hs hcl hx hi hl h16 hcv Kf0 hpw
 go_enter Tryz.func121,Tryz.ntmps121
 go_wp2_with fail
 refine wp_name (fun u=>Was w B E x (m) u∧Bx u w.heap.size 37 res0) ⟨W0.out.later (below_allocs [_] w),bx_allocs w [_] 0 rfl⟩ ?_
 rintro y ⟨hw,hl0⟩
 have HW:=Lib.hid hw
 have HL0:=Lib.hid hl0
 have HS:Hid (∀(mm:Mem) (W:World),Was w B E x mm W→Fr B [] y W→W.cell? ⟨b0,0,none⟩=some (P E.A.lanes)∧W.cell? ⟨b1,0,none⟩=some (.int .i64 E.who)∧W.cell? ⟨b2,0,none⟩=some (.int .i64 (level:Nat))∧W.cell? ⟨b3,0,none⟩=some (.int .i64 (i:Nat))∧W.cell? ⟨b4,0,none⟩=some (.slice va vn vc)∧W.cell? ⟨b6,0,none⟩=some (.bool false)∧W.cell? ⟨b6,1,none⟩=some (.int .i64 0)∧W.cell? ⟨b6,2,none⟩=some (.bool false)∧W.cell? ⟨b6,3,none⟩=some (.int .i64 0)∧W.cell? ⟨b6,4,none⟩=some (.int .i64 0)∧W.cell? ⟨b6,5,none⟩=some (.int .i64 0)∧W.cell? ⟨b6,6,none⟩=some (.int .i64 0)):=fun mm W hw hf=>⟨(H.out.1.keep hw.fr rfl).cell 0,(H.out.2.1.keep hw.fr rfl).cell 0,(H.out.2.2.1.keep hw.fr rfl).cell 0,(H.out.2.2.2.1.keep hw.fr rfl).cell 0,(H.out.2.2.2.2.1.keep hw.fr rfl).cell 0,(H.out.2.2.2.2.2.2.1.keep hw.fr rfl).cell 0,(H.out.2.2.2.2.2.2.1.keep hw.fr rfl).cell 1,(H.out.2.2.2.2.2.2.1.keep hw.fr rfl).cell 2,(H.out.2.2.2.2.2.2.1.keep hw.fr rfl).cell 3,(H.out.2.2.2.2.2.2.1.keep hw.fr rfl).cell 4,(H.out.2.2.2.2.2.2.1.keep hw.fr rfl).cell 5,(H.out.2.2.2.2.2.2.1.keep hw.fr rfl).cell 6⟩
 have HSa:Hid (∀W:World,Below y.heap.size y W→W.cell? ⟨b0,0,none⟩=some (P E.A.lanes)∧W.cell? ⟨b1,0,none⟩=some (.int .i64 E.who)∧W.cell? ⟨b2,0,none⟩=some (.int .i64 (level:Nat))∧W.cell? ⟨b3,0,none⟩=some (.int .i64 (i:Nat))∧W.cell? ⟨b4,0,none⟩=some (.slice va vn vc)∧W.cell? ⟨b6,0,none⟩=some (.bool false)∧W.cell? ⟨b6,1,none⟩=some (.int .i64 0)∧W.cell? ⟨b6,2,none⟩=some (.bool false)∧W.cell? ⟨b6,3,none⟩=some (.int .i64 0)∧W.cell? ⟨b6,4,none⟩=some (.int .i64 0)∧W.cell? ⟨b6,5,none⟩=some (.int .i64 0)∧W.cell? ⟨b6,6,none⟩=some (.int .i64 0)):=fun W hb=>HS.out _ W (HW.out.later hb) (Fr.of_below HW.out.st.below.2.2.2 hb)
 have HLt:Hid (b0<y.heap.size∧b1<y.heap.size∧b2<y.heap.size∧b3<y.heap.size∧b4<y.heap.size∧b6<y.heap.size∧b6<y.heap.size∧b6<y.heap.size∧b6<y.heap.size∧b6<y.heap.size∧b6<y.heap.size∧b6<y.heap.size):=⟨(H.out.1.keep HW.out.fr rfl).lt,(H.out.2.1.keep HW.out.fr rfl).lt,(H.out.2.2.1.keep HW.out.fr rfl).lt,(H.out.2.2.2.1.keep HW.out.fr rfl).lt,(H.out.2.2.2.2.1.keep HW.out.fr rfl).lt,(H.out.2.2.2.2.2.2.1.keep HW.out.fr rfl).lt,(H.out.2.2.2.2.2.2.1.keep HW.out.fr rfl).lt,(H.out.2.2.2.2.2.2.1.keep HW.out.fr rfl).lt,(H.out.2.2.2.2.2.2.1.keep HW.out.fr rfl).lt,(H.out.2.2.2.2.2.2.1.keep HW.out.fr rfl).lt,(H.out.2.2.2.2.2.2.1.keep HW.out.fr rfl).lt,(H.out.2.2.2.2.2.2.1.keep HW.out.fr rfl).lt⟩
 clear hw hl0
 go_region_held3 (fun w'=>w'.cell? ⟨b0,0,none⟩=some (P E.A.lanes)∧w'.cell? ⟨b1,0,none⟩=some (.int .i64 E.who)∧w'.cell? ⟨b2,0,none⟩=some (.int .i64 (level:Nat))∧w'.cell? ⟨b3,0,none⟩=some (.int .i64 (i:Nat))∧w'.cell? ⟨b4,0,none⟩=some (.slice va vn vc)∧w'.cell? ⟨b6,0,none⟩=some (.bool false)∧w'.cell? ⟨b6,1,none⟩=some (.int .i64 0)∧w'.cell? ⟨b6,2,none⟩=some (.bool false)∧w'.cell? ⟨b6,3,none⟩=some (.int .i64 0)∧w'.cell? ⟨b6,4,none⟩=some (.int .i64 0)∧w'.cell? ⟨b6,5,none⟩=some (.int .i64 0)∧w'.cell? ⟨b6,6,none⟩=some (.int .i64 0)) (first|(refine HSa.out _ ?_;(repeat (first|(with_reducible first|exact RowKit.Below.refl _ _|assumption|refine RowKit.Below.drew ?_)|((with_reducible first|refine belAlloc ?_ ?_|refine belSet ?_ ?_);(first|simp<;>omega|omega))));done)|(refine hSb _ ?_;(repeat (first|(with_reducible first|exact RowKit.Below.refl _ _|assumption|refine RowKit.Below.drew ?_)|((with_reducible first|refine belAlloc ?_ ?_|refine belSet ?_ ?_);(first|simp<;>omega|omega))));done)|(simp only[set7_same hres];refine hSb _ ?_;(repeat (first|(with_reducible first|exact RowKit.Below.refl _ _|assumption|refine RowKit.Below.drew ?_)|((with_reducible first|refine belAlloc ?_ ?_|refine belSet ?_ ?_);(first|simp<;>omega|omega))));done)) ((first|(go_at_call 120;(refine (Kf.out _ _ (show HThenAt _ E (.func (.func 122) #[] #[P b0,P b1,P b2,P b3,P b5,P b6]) (.two level i)from⟨_,_,_,_,_,_,rfl,H.out.1.keep (HW.out.later (by (repeat (first|(with_reducible first|exact RowKit.Below.refl _ _|assumption|refine RowKit.Below.drew ?_)|((with_reducible first|refine belAlloc ?_ ?_|refine belSet ?_ ?_);(first|simp<;>omega|omega)))))).fr rfl,H.out.2.1.keep (HW.out.later (by (repeat (first|(with_reducible first|exact RowKit.Below.refl _ _|assumption|refine RowKit.Below.drew ?_)|((with_reducible first|refine belAlloc ?_ ?_|refine belSet ?_ ?_);(first|simp<;>omega|omega)))))).fr rfl,H.out.2.2.1.keep (HW.out.later (by (repeat (first|(with_reducible first|exact RowKit.Below.refl _ _|assumption|refine RowKit.Below.drew ?_)|((with_reducible first|refine belAlloc ?_ ?_|refine belSet ?_ ?_);(first|simp<;>omega|omega)))))).fr rfl,H.out.2.2.2.1.keep (HW.out.later (by (repeat (first|(with_reducible first|exact RowKit.Below.refl _ _|assumption|refine RowKit.Below.drew ?_)|((with_reducible first|refine belAlloc ?_ ?_|refine belSet ?_ ?_);(first|simp<;>omega|omega)))))).fr rfl,H.out.2.2.2.2.2.1.keep (HW.out.later (by (repeat (first|(with_reducible first|exact RowKit.Below.refl _ _|assumption|refine RowKit.Below.drew ?_)|((with_reducible first|refine belAlloc ?_ ?_|refine belSet ?_ ?_);(first|simp<;>omega|omega)))))).fr rfl,H.out.2.2.2.2.2.2.1.keep (HW.out.later (by (repeat (first|(with_reducible first|exact RowKit.Below.refl _ _|assumption|refine RowKit.Below.drew ?_)|((with_reducible first|refine belAlloc ?_ ?_|refine belSet ?_ ?_);(first|simp<;>omega|omega)))))).fr rfl⟩) (H.out.2.2.2.2.2.2.2.keep (HW.out.later (by (repeat (first|(with_reducible first|exact RowKit.Below.refl _ _|assumption|refine RowKit.Below.drew ?_)|((with_reducible first|refine belAlloc ?_ ?_|refine belSet ?_ ?_);(first|simp<;>omega|omega)))))).fr)).mono ?_);rintro e w2 ⟨v,rfl,hk,hb⟩;have hbW:=belOfB (u:=y) hb (by (repeat (first|(with_reducible first|exact RowKit.Below.refl _ _|assumption|refine RowKit.Below.drew ?_)|((with_reducible first|refine belAlloc ?_ ?_|refine belSet ?_ ?_);(first|simp<;>omega|omega)))));have hbu:=hbW.trans (hb.mono hbW.size);have hw2:=HW.out.later hbu;have hf:Fr B [] y w2:=Fr.of_below HW.out.st.below.2.2.2 hbu;have hfW:Fr B [] _ w2:=Fr.of_below (Nat.le_trans HW.out.st.below.2.2.2 hbW.size) hb;have Hk:=Lib.hid hk;clear hk;have hs2:=HS.out _ w2 hw2 hf;have hSb: ∀W:World,Below y.heap.size w2 W→W.cell? ⟨b0,0,none⟩=some (P E.A.lanes)∧W.cell? ⟨b1,0,none⟩=some (.int .i64 E.who)∧W.cell? ⟨b2,0,none⟩=some (.int .i64 (level:Nat))∧W.cell? ⟨b3,0,none⟩=some (.int .i64 (i:Nat))∧W.cell? ⟨b4,0,none⟩=some (.slice va vn vc)∧W.cell? ⟨b6,0,none⟩=some (.bool false)∧W.cell? ⟨b6,1,none⟩=some (.int .i64 0)∧W.cell? ⟨b6,2,none⟩=some (.bool false)∧W.cell? ⟨b6,3,none⟩=some (.int .i64 0)∧W.cell? ⟨b6,4,none⟩=some (.int .i64 0)∧W.cell? ⟨b6,5,none⟩=some (.int .i64 0)∧W.cell? ⟨b6,6,none⟩=some (.int .i64 0):=fun W hb=>⟨cell_lt HLt.out.1 hb hs2.1,cell_lt HLt.out.2.1 hb hs2.2.1,cell_lt HLt.out.2.2.1 hb hs2.2.2.1,cell_lt HLt.out.2.2.2.1 hb hs2.2.2.2.1,cell_lt HLt.out.2.2.2.2.1 hb hs2.2.2.2.2.1,cell_lt HLt.out.2.2.2.2.2.1 hb hs2.2.2.2.2.2.1,cell_lt HLt.out.2.2.2.2.2.2.1 hb hs2.2.2.2.2.2.2.1,cell_lt HLt.out.2.2.2.2.2.2.2.1 hb hs2.2.2.2.2.2.2.2.1,cell_lt HLt.out.2.2.2.2.2.2.2.2.1 hb hs2.2.2.2.2.2.2.2.2.1,cell_lt HLt.out.2.2.2.2.2.2.2.2.2.1 hb hs2.2.2.2.2.2.2.2.2.2.1,cell_lt HLt.out.2.2.2.2.2.2.2.2.2.2.1 hb hs2.2.2.2.2.2.2.2.2.2.2.1,cell_lt HLt.out.2.2.2.2.2.2.2.2.2.2.2 hb hs2.2.2.2.2.2.2.2.2.2.2.2⟩;have hsk:=hs2;have hsz:=hf.size;have hl02:=HL0.out.keep hf rfl;have hres:=hl02;obtain⟨r0,r1,r2,r3,r4,r5,r6⟩:=res_cells hl02;obtain⟨f0,f1,f2,f3,f4,f5,f6⟩:=res_free hl02;have HW2:=Lib.hid hw2;have Hf:=Lib.hid hf;have HLb0:=Lib.hid hl02;clear hw2 hf hfW hbW hs2 hb hbu hl02)))
 all_goals
   rw[set7_same hres]
   go_wp2_with fail
   rw[Hx.out]
   exact bodyPost_ret (v:= .tuple #[v,.agg res0]) (by simp [results,Tryz.results121,go_sem,r0,r1,r2,r3,r4,r5,r6]) rfl ⟨v,false,err 0,rfl,⟨Hk.out,rfl,rfl⟩,HW2.out.call,HW2.out.st,HW2.out.fr⟩
def HOk (E:Env) (x:Live):HThen→Prop
 | .find _ t=>TOk E x t
 | .one level i _=>level≤4∧i<2^level
 | .two level i=>level≤4∧i<2^level
theorem hthen_any (hT:ThenSpec Bl) (B:Nat) (E:Env) (x:Live) (m:Mem) (t:HThen) (v:Value) (word u:Nat) (ca:Option Addr) (cn cc:Nat) (L:List Cell) (w:World) (hv:HThenAt w E v t) (ho:HOk E x t) (hs:St w B E.A m) (hcl:CallAt w E x) (hc:CellsAt w (.slice ca cn cc) L) (hw34:word<34) (hu:u<18446744073709551616):
   ∃f ps,v= .func (.func f) #[] ps∧Enters f∧Calls Tryz.prog f (#[.int .i64 word,.int .u64 u,.slice ca cn cc]++ps) w (ORes w B E (hthenF Bl E.A.list E.A.room t word u L x m)):=by
 cases t with
 |find sum t=>exact hthen_find Bl hT B E x m sum t v word u ca cn cc L w hv ho hs hcl hc hw34 hu
 |one level i holds=>exact hthen_one Bl B E x m level i holds v word u ca cn cc L w hv ho.1 ho.2 hs hcl
 |two level i=>exact hthen_two Bl B E x m level i v word u ca cn cc L w hv ho.1 ho.2 hs hcl
end Go.Proofs.YtemnhpdjoimjbaaGreatDoor
