import Derived.Test.YtemnhpdjoimjbaaGreatDoorTw19
import Derived.Test.YtemnhpdjoimjbaaGreatDoorTw16
namespace Go.Proofs.YtemnhpdjoimjbaaGreatDoor
section
open Go.RowKit Top
set_option linter.unusedVariables false
variable (Bl : Top.Below)
def CutSpec :Prop:= ∀(cv:Value) (L:List Cell) (level k:Nat) (w:World),CellsAt w cv L→level≤4→Calls Tryz.prog 18 #[cv,.int .i64 level,.int .i64 k] w fun e w'=> ∃a n c,e= .returned (.slice a n c)∧CellsAt w' (.slice a n c) (cut L level k)∧Below w.heap.size w w'
set_option maxHeartbeats 1000000 in
set_option maxRecDepth 100000 in
theorem step_half (hT:ThenSpec Bl) (B:Nat) (E:Env) (x:Live) (m:Mem) (level shard:Nat) (holds:List Cell) (t:HThen) (v:Value) (w:World) (hk:KontAt w E v (.half level shard holds t)) (ho:HOk E x t) (hs:St w B E.A m) (hc:CallAt w E x) (ok:E.Ok m) (hi:place level shard<34):
   ∃f ps,v= .func (.func f) #[] ps∧Enters f∧Calls Tryz.prog f ps w (ORes w B E (stepF Bl E.A.list E.A.room (.half level shard holds t) x m)):=by
 obtain⟨b0,b1,b2,b3,tv,b4,cv,b5,rfl,h0,h1,h2,h3,ht,h4,hcv,h5⟩:=hk
 refine⟨_,_,rfl,enters_of Tryz.func150 (by kernel_rfl) rfl,?_⟩
 obtain⟨tf,tps,rfl⟩:=ht.func
 obtain⟨word,hword⟩: ∃word,place level shard=word:=⟨_,rfl⟩
 have Hwd:=Lib.hid hword
 rw[hword]at h2 hi
 have Kl:=Lib.hid (fun a n c W h hh=>bload_at B E.A m E.who word a n c W h ok.who0 ok.who1 hi ok.count hh)
 have Hlt:=Lib.hid (hs.wordlt word)
 have W0:=Lib.hid (Was.start hs hc)
 have HB0:=Lib.hid hs.below.2.2.2
 have H:=Lib.hid (And.intro h0 (And.intro h1 (And.intro h2 (And.intro h3 (And.intro h4 (And.intro h5 (And.intro hcv ht)))))))
 have Hi:=Lib.hid hi;have Ho:=Lib.hid ho
 clear hs hc ok h0 h1 h2 h3 h4 h5 hcv ht hi ho hword
 go_enter Tryz.func150,Tryz.ntmps150
 go_wp2_with fail
 refine wp_name (fun u=>Was w B E x (m) u∧Bx u w.heap.size 37 res0) ⟨W0.out.later (below_allocs [_] w),bx_allocs w [_] 0 rfl⟩ ?_
 rintro u ⟨hw,hl0⟩
 obtain⟨ha,hn,hc,hh,hcs⟩:=hold_cell hw.st Hi.out
 have Hh:Hid (∀W,Below u.heap.size u W→W.cell? ⟨E.A.holds,word,none⟩=some (.slice ha hn hc)):=fun W hb=>cell_later hb hh
 have Hcs:=Lib.hid hcs;clear hh hcs
 have HW:=Lib.hid hw
 have HL0:=Lib.hid hl0
 have HS:Hid (∀(mm:Mem) (W:World),Was w B E x mm W→Fr B [] u W→W.cell? ⟨b0,0,none⟩=some (P E.A.lanes)∧W.cell? ⟨b1,0,none⟩=some (.int .i64 E.who)∧W.cell? ⟨b2,0,none⟩=some (.int .i64 (word:Nat))∧W.cell? ⟨E.A.lanes,0,none⟩=some (P E.A.board)):=fun mm W hw hf=>⟨(H.out.1.keep hw.fr rfl).cell 0,(H.out.2.1.keep hw.fr rfl).cell 0,(H.out.2.2.1.keep hw.fr rfl).cell 0,hw.st.lanes.cell 0⟩
 have HSa:Hid (∀W:World,Below u.heap.size u W→W.cell? ⟨b0,0,none⟩=some (P E.A.lanes)∧W.cell? ⟨b1,0,none⟩=some (.int .i64 E.who)∧W.cell? ⟨b2,0,none⟩=some (.int .i64 (word:Nat))∧W.cell? ⟨E.A.lanes,0,none⟩=some (P E.A.board)):=fun W hb=>HS.out _ W (HW.out.later hb) (Fr.of_below HW.out.st.below.2.2.2 hb)
 have HLt:Hid (b0<u.heap.size∧b1<u.heap.size∧b2<u.heap.size∧E.A.lanes<u.heap.size):=⟨(H.out.1.keep HW.out.fr rfl).lt,(H.out.2.1.keep HW.out.fr rfl).lt,(H.out.2.2.1.keep HW.out.fr rfl).lt,HW.out.st.lanes.lt⟩
 clear hw hl0
 go_cut [8,9] (fun s8 s9 wx=> ∃q9,s8= .int .u64 (m.word word:Nat)∧s9=P q9∧Noted u B E.A m wx∧Bx wx q9 64 #[.slice ha hn hc])
 case first=>
   go_region_held3 (fun w'=>w'.cell? ⟨b0,0,none⟩=some (P E.A.lanes)∧w'.cell? ⟨b1,0,none⟩=some (.int .i64 E.who)∧w'.cell? ⟨b2,0,none⟩=some (.int .i64 (word:Nat))∧w'.cell? ⟨E.A.lanes,0,none⟩=some (P E.A.board)) (first|(refine HSa.out _ ?_;(repeat (first|(with_reducible first|exact RowKit.Below.refl _ _|assumption|refine RowKit.Below.drew ?_)|((with_reducible first|refine belAlloc ?_ ?_|refine belSet ?_ ?_);(first|simp<;>omega|omega))));done)|(refine hSb _ ?_;(repeat (first|(with_reducible first|exact RowKit.Below.refl _ _|assumption|refine RowKit.Below.drew ?_)|((with_reducible first|refine belAlloc ?_ ?_|refine belSet ?_ ?_);(first|simp<;>omega|omega))));done)) ((first|(go_at_call 83;(refine (Kl.out _ _ _ _ (HW.out.later (by (repeat (first|(with_reducible first|exact RowKit.Below.refl _ _|assumption|refine RowKit.Below.drew ?_)|((with_reducible first|refine belAlloc ?_ ?_|refine belSet ?_ ?_);(first|simp<;>omega|omega)))))).st (Hh.out _ (by (repeat (first|(with_reducible first|exact RowKit.Below.refl _ _|assumption|refine RowKit.Below.drew ?_)|((with_reducible first|refine belAlloc ?_ ?_|refine belSet ?_ ?_);(first|simp<;>omega|omega))))))).mono ?_);rintro e w1 ⟨rfl,hno⟩;have hbW:=belOfN (u:=u) hno (by (repeat (first|(with_reducible first|exact RowKit.Below.refl _ _|assumption|refine RowKit.Below.drew ?_)|((with_reducible first|refine belAlloc ?_ ?_|refine belSet ?_ ?_);(first|simp<;>omega|omega)))));have n2:=hno.pre HW.out.st hbW;have hw2:=HW.out.noted n2;have hf:=(n2.acc HW.out.st).2;have hfW:=(hno.acc (HW.out.later hbW).st).2;have hs2:=HS.out _ w1 hw2 hf;have hSb: ∀W:World,Below u.heap.size w1 W→W.cell? ⟨b0,0,none⟩=some (P E.A.lanes)∧W.cell? ⟨b1,0,none⟩=some (.int .i64 E.who)∧W.cell? ⟨b2,0,none⟩=some (.int .i64 (word:Nat))∧W.cell? ⟨E.A.lanes,0,none⟩=some (P E.A.board):=fun W hb=>⟨cell_lt HLt.out.1 hb hs2.1,cell_lt HLt.out.2.1 hb hs2.2.1,cell_lt HLt.out.2.2.1 hb hs2.2.2.1,cell_lt HLt.out.2.2.2 hb hs2.2.2.2⟩;have hsk:=hs2;have hsz:=hf.size;(try (refine (have z1:Bx w1 (u.heap.size) 64 #[.slice none 0 0]:= ?_;?_);· (refine Bx.keep hfW ?_ rfl;(repeat (first|with_reducible assumption|((with_reducible apply Bx.newq');(first|simp<;>omega|omega))|(with_reducible first|apply Bx.alc|apply Bx.dr|apply Bx.sc0|apply Bx.set4|apply Bx.set6)|((with_reducible apply Bx.sne);(first|simp<;>omega|omega))));done)));(try have zc1:=z1.at0);(try have zf1:=z1.free 0);(try have zl1:=z1.lt);have hl02:=HL0.out.keep hf rfl;have HW2:=Lib.hid hw2;have Hf:=Lib.hid hf;have HLb0:=Lib.hid hl02;clear hw2 hf hfW hbW hs2 hno hl02)))
   all_goals
     go_wp2_with fail
     go_meet
     refine⟨_,rfl,rfl,?_,?_⟩
     · (repeat (first|(with_reducible first|assumption|refine Noted.drew ?_|refine Noted.alc ?_)|((with_reducible apply Noted.sv_cells);((first|simp<;>omega|omega));(focus ((repeat (first|with_reducible assumption|((with_reducible apply Bx.newq');(first|simp<;>omega|omega))|(with_reducible first|apply Bx.alc|apply Bx.dr|apply Bx.sc0|apply Bx.set4|apply Bx.set6)|((with_reducible apply Bx.sne);(first|simp<;>omega|omega))));done)))))
     · (repeat (first|with_reducible assumption|((with_reducible apply Bx.newq');(first|simp<;>omega|omega))|(with_reducible first|apply Bx.alc|apply Bx.dr|apply Bx.sc0|apply Bx.set4|apply Bx.set6)|((with_reducible apply Bx.sne);(first|simp<;>omega|omega))))
 case rest=>
   obtain⟨q9,rfl,rfl,hno,z9⟩:=hcut
   have hf:=(hno.acc HW.out.st).2
   have hw:=HW.out.noted hno
   have hl0:=HL0.out.keep hf rfl
   have Hcs1:=Lib.hid (Hcs.out.keep hf)
   clear HSa HS HLt HL0 HW Hcs Hh Kl hno hf
   by_cases hp:m.word word=0
   · have hp':((m.word word:Nat):Int)=0:=by omega
     go_wp2_with fail
     have hx:stepF Bl E.A.list E.A.room (.half level shard holds t) x m=more (.halfSwap level shard holds (m.hold word) t) x m.touch:=by
       show(if m.word (place level shard)≠0 then _ else more (.halfSwap level shard holds (m.hold (place level shard)) t) x m.touch)=_
       rw[Hwd.out]
       exact if_neg (fun h=>h hp)
     have Hx:=Lib.hid hx
     clear hx hp hp'
     have c9:=z9.at0
     have hk:KontAt wc E (.func (.func 151) #[] #[P b0,P b1,P b2,P b4,P b5,P b3,P q9]) (.halfSwap level shard holds (m.hold word) t):=⟨_,_,_,_,_,_,_,_,_,_,rfl,H.out.1.keep hw.fr rfl,H.out.2.1.keep hw.fr rfl,Hwd.out▸H.out.2.2.1.keep hw.fr rfl,H.out.2.2.2.2.1.keep hw.fr rfl,H.out.2.2.2.2.2.2.1.keep hw.fr,H.out.2.2.2.2.2.1.keep hw.fr rfl,H.out.2.2.2.1.keep hw.fr rfl,H.out.2.2.2.2.2.2.2.keep hw.fr,z9,Hcs1.out⟩
     have Hk:=Lib.hid hk;clear hk
     have hres:=hl0
     obtain⟨r0,r1,r2,r3,r4,r5,r6⟩:=res_cells hres;obtain⟨f0,f1,f2,f3,f4,f5,f6⟩:=res_free hres
     have dl:wc.cell? ⟨E.A.lanes,0,none⟩=some (P E.A.board):=hw.st.lanes.cell 0
     have hlr:w.heap.size<wc.heap.size:=hl0.lt
     have HW:=Lib.hid hw;have HL0:=Lib.hid hl0
     clear hw hl0 c9
     go_region_with (fail)
     all_goals
       rw[set7_same hres]
       go_wp2_with fail
       rw[Hx.out]
       have hbel:Below wc.heap.size wc ((wc.alloc (.cells res0 37)).drew):=((Below.refl _ _).alloc (Nat.le_refl _) _).drew
       exact bodyPost_ret (v:= .tuple #[.func (.func 151) #[] #[P b0,P b1,P b2,P b4,P b5,P b3,P q9],.agg res0]) (by simp [results,Tryz.results150,go_sem,r0,r1,r2,r3,r4,r5,r6,hlr]) rfl ⟨_,false,err 0,rfl,⟨Hk.out.keep (fr0 hbel),rfl,rfl⟩,(HW.out.later hbel).call,(HW.out.later hbel).st,(HW.out.later hbel).fr⟩
   · have hp': ¬((m.word word:Nat):Int)=0:=by omega
     have hx:stepF Bl E.A.list E.A.room (.half level shard holds t) x m=hthenF Bl E.A.list E.A.room t word (m.word word) (m.hold word) x m.touch:=by
       show(if m.word (place level shard)≠0 then hthenF Bl E.A.list E.A.room t (place level shard) (m.word (place level shard)) (m.hold (place level shard)) x m.touch else _)=_
       rw[Hwd.out]
       exact if_pos hp
     have Hx:=Lib.hid hx
     clear hx hp
     obtain⟨f,ps,hfp,hef,kt⟩:=hthen_any Bl hT B E x m.touch t _ word (m.word word) ha hn hc (m.hold word) wc (H.out.2.2.2.2.2.2.2.keep hw.fr) Ho.out hw.st hw.call Hcs1.out Hi.out Hlt.out
     injection hfp with hf1 hf2 hf3
     subst hf1 hf3
     unfold Enters at hef
     have Kt:=Lib.hid kt
     clear kt
     have d0:wc.cell? ⟨b3,0,none⟩=some (.func (.func f) #[] tps):=(H.out.2.2.2.1.keep hw.fr rfl).cell 0
     have g0:b3<wc.heap.size:=World.block_lt_of_cell? _ _ d0
     have d1:wc.cell? ⟨b2,0,none⟩=some (.int .i64 (word:Nat)):=(H.out.2.2.1.keep hw.fr rfl).cell 0
     have g1:b2<wc.heap.size:=World.block_lt_of_cell? _ _ d1
     have d2:wc.cell? ⟨q9,0,none⟩=some (.slice ha hn hc):=z9.cell 0
     have g2:q9<wc.heap.size:=World.block_lt_of_cell? _ _ d2
     have HW:=Lib.hid hw
     have HL0:=Lib.hid hl0
     have HL1:=Lib.hid z9
     clear hw hl0 z9
     go_wp2_with (go_at_fn f;(refine (Kt.out).mono ?_);rintro e w3 h;obtain⟨v,d,a,rfl,ha⟩:=Ans.of h;have hr3:=HL0.out.keep ha.fr rfl;obtain⟨r0,r1,r2,r3,r4,r5,r6⟩:=res_cells hr3;obtain⟨f0,f1,f2,f3,f4,f5,f6⟩:=res_free hr3;have Hr3:=Lib.hid hr3;have Ha:=Lib.hid ha;clear hr3 ha h)
     rw[Hx.out]
     exact bodyPost_ret (v:= .tuple #[v,.agg (resA d a)]) (by simp [results,Tryz.results150,go_sem,r0,r1,r2,r3,r4,r5,r6]) rfl ((Ha.out.pre HW.out.fr).store Hr3.out (Nat.le_refl _) HB0.out).ores
set_option maxHeartbeats 1000000 in
set_option maxRecDepth 100000 in
theorem step_halfSwap (hT:ThenSpec Bl) (hC:CutSpec) (B:Nat) (E:Env) (x:Live) (m:Mem) (level shard:Nat) (holds h:List Cell) (t:HThen) (v:Value) (w:World) (hk:KontAt w E v (.halfSwap level shard holds h t)) (ho:HOk E x t) (hs:St w B E.A m) (hc:CallAt w E x) (ok:E.Ok m) (hi:place level shard<34) (hl4:level≤4):
   ∃f ps,v= .func (.func f) #[] ps∧Enters f∧Calls Tryz.prog f ps w (ORes w B E (stepF Bl E.A.list E.A.room (.halfSwap level shard holds h t) x m)):=by
 have hl:level≤5:=by omega
 obtain⟨b0,b1,b2,b3,cv,b4,b5,tv,b6,dv,rfl,h0,h1,h2,h3,hcv,h4,h5,ht,h6,hdv⟩:=hk
 refine⟨_,_,rfl,enters_of Tryz.func151 (by kernel_rfl) rfl,?_⟩
 obtain⟨tf,tps,rfl⟩:=ht.func
 obtain⟨va,vn,vc,rfl⟩:=hcv.slice
 obtain⟨ha,hn,hcp,rfl⟩:=hdv.slice
 have hpl:2^level≤place level shard:=by unfold place;omega
 have h32:2^level≤32:=by have:=Nat.pow_le_pow_right (n:=2) (by decide) hl;simpa using this
 have hs1:IntKind.i64.wrap (2^level:Int)=(2^level:Nat):=shl1 level hl
 obtain⟨sw,m1,hsw⟩: ∃sw m1,m.swap (place level shard) 0 1 (cut holds level (place level shard-2^level))=(sw,m1):=⟨_,_,rfl⟩
 have Hx:Hid (stepF Bl E.A.list E.A.room (.halfSwap level shard holds h t) x m=hthenF Bl E.A.list E.A.room t (place level shard) 0 h x m1):=by
   show hthenF Bl E.A.list E.A.room t (place level shard) 0 h x (m.swap (place level shard) 0 1 (cut holds level (place level shard-2^level))).2=_
   rw[hsw]
 obtain⟨word,hword⟩: ∃word,place level shard=word:=⟨_,rfl⟩
 obtain⟨pw,hpw⟩: ∃pw,2^level=pw:=⟨_,rfl⟩
 rw[hword]at h2 hi hpl hsw Hx
 rw[hpw]at hpl h32 hs1 hsw
 have hsub:IntKind.i64.wrap ((word:Int)-(pw:Int))=(word:Int)-(pw:Int):=by rw[IntKind.wrap_i64];omega
 have hcast:(((word-pw:Nat)):Int)=(word:Int)-(pw:Int):=by omega
 have Kc:Hid (∀W,CellsAt W (.slice va vn vc) holds→Calls Tryz.prog 18 #[.slice va vn vc,.int .i64 level,.int .i64 ((word:Int)-(pw:Int))] W fun e w'=> ∃a n c,e= .returned (.slice a n c)∧CellsAt w' (.slice a n c) (cut holds level (word-pw))∧Below W.heap.size W w'):=fun W h=>by
   have k:=hC (.slice va vn vc) holds level (word-pw) W h hl4
   rw[hcast]at k
   exact k
 have Ks:Hid (∀a n c W,St W B E.A m→CellsAt W (.slice a n c) (cut holds level (word-pw))→Calls Tryz.prog 32 #[P E.A.board,.int .i64 E.who,.int .i64 word,.int .u64 0,.int .u64 1,.slice a n c] W fun e w'=>e= .returned (.bool sw)∧Acc W B E.A m1 w'):=fun a n c W h hv=>by
   have k:=bswap_any B E.A m E.who word 0 1 (.slice a n c) _ W h ok.who0 ok.who1 hi (by decide) hv ok.count
   rw[hsw]at k
   exact k
 have W0:=Lib.hid (Was.start hs hc)
 have HB0:=Lib.hid hs.below.2.2.2
 have H:=Lib.hid (And.intro h0 (And.intro h1 (And.intro h2 (And.intro h3 (And.intro h4 (And.intro h5 (And.intro h6 (And.intro hcv (And.intro hdv ht)))))))))
 have Hi:=Lib.hid hi;have Ho:=Lib.hid ho
 have hl0:(0:Int)≤level:=by omega
 have hl1:(level:Int)<64:=by omega
 clear hs hc ok h0 h1 h2 h3 h4 h5 h6 hcv hdv ht hi ho hword hpw hsw hpl h32 hcast hl hl4
 go_enter Tryz.func151,Tryz.ntmps151
 go_wp2_with fail
 refine wp_name (fun u=>Was w B E x (m) u∧Bx u w.heap.size 37 res0) ⟨W0.out.later (below_allocs [_] w),bx_allocs w [_] 0 rfl⟩ ?_
 rintro y ⟨hw,hl0⟩
 have HW:=Lib.hid hw
 have HL0:=Lib.hid hl0
 have HS:Hid (∀(mm:Mem) (W:World),Was w B E x mm W→Fr B [] y W→W.cell? ⟨b0,0,none⟩=some (P E.A.lanes)∧W.cell? ⟨b1,0,none⟩=some (.int .i64 E.who)∧W.cell? ⟨b2,0,none⟩=some (.int .i64 (word:Nat))∧W.cell? ⟨b3,0,none⟩=some (.slice va vn vc)∧W.cell? ⟨b4,0,none⟩=some (.int .i64 (level:Nat))∧W.cell? ⟨E.A.lanes,0,none⟩=some (P E.A.board)∧W.cell? ⟨E.A.lanes,1,none⟩=some (.func (.func 18) #[] #[])):=fun mm W hw hf=>⟨(H.out.1.keep hw.fr rfl).cell 0,(H.out.2.1.keep hw.fr rfl).cell 0,(H.out.2.2.1.keep hw.fr rfl).cell 0,(H.out.2.2.2.1.keep hw.fr rfl).cell 0,(H.out.2.2.2.2.1.keep hw.fr rfl).cell 0,hw.st.lanes.cell 0,hw.st.lanes.cell 1⟩
 have HSa:Hid (∀W:World,Below y.heap.size y W→W.cell? ⟨b0,0,none⟩=some (P E.A.lanes)∧W.cell? ⟨b1,0,none⟩=some (.int .i64 E.who)∧W.cell? ⟨b2,0,none⟩=some (.int .i64 (word:Nat))∧W.cell? ⟨b3,0,none⟩=some (.slice va vn vc)∧W.cell? ⟨b4,0,none⟩=some (.int .i64 (level:Nat))∧W.cell? ⟨E.A.lanes,0,none⟩=some (P E.A.board)∧W.cell? ⟨E.A.lanes,1,none⟩=some (.func (.func 18) #[] #[])):=fun W hb=>HS.out _ W (HW.out.later hb) (Fr.of_below HW.out.st.below.2.2.2 hb)
 have HLt:Hid (b0<y.heap.size∧b1<y.heap.size∧b2<y.heap.size∧b3<y.heap.size∧b4<y.heap.size∧E.A.lanes<y.heap.size∧E.A.lanes<y.heap.size):=⟨(H.out.1.keep HW.out.fr rfl).lt,(H.out.2.1.keep HW.out.fr rfl).lt,(H.out.2.2.1.keep HW.out.fr rfl).lt,(H.out.2.2.2.1.keep HW.out.fr rfl).lt,(H.out.2.2.2.2.1.keep HW.out.fr rfl).lt,HW.out.st.lanes.lt,HW.out.st.lanes.lt⟩
 clear hw hl0
 go_region_held3 (fun w'=>w'.cell? ⟨b0,0,none⟩=some (P E.A.lanes)∧w'.cell? ⟨b1,0,none⟩=some (.int .i64 E.who)∧w'.cell? ⟨b2,0,none⟩=some (.int .i64 (word:Nat))∧w'.cell? ⟨b3,0,none⟩=some (.slice va vn vc)∧w'.cell? ⟨b4,0,none⟩=some (.int .i64 (level:Nat))∧w'.cell? ⟨E.A.lanes,0,none⟩=some (P E.A.board)∧w'.cell? ⟨E.A.lanes,1,none⟩=some (.func (.func 18) #[] #[])) (first|(refine HSa.out _ ?_;(repeat (first|(with_reducible first|exact RowKit.Below.refl _ _|assumption|refine RowKit.Below.drew ?_)|((with_reducible first|refine belAlloc ?_ ?_|refine belSet ?_ ?_);(first|simp<;>omega|omega))));done)|(refine hSb _ ?_;(repeat (first|(with_reducible first|exact RowKit.Below.refl _ _|assumption|refine RowKit.Below.drew ?_)|((with_reducible first|refine belAlloc ?_ ?_|refine belSet ?_ ?_);(first|simp<;>omega|omega))));done)) ((first|(go_at_call 18;(refine (Kc.out _ (H.out.2.2.2.2.2.2.2.1.keep (HW.out.later (by (repeat (first|(with_reducible first|exact RowKit.Below.refl _ _|assumption|refine RowKit.Below.drew ?_)|((with_reducible first|refine belAlloc ?_ ?_|refine belSet ?_ ?_);(first|simp<;>omega|omega)))))).fr)).mono ?_);rintro e wq ⟨qa,qn,qc,rfl,hk,hb⟩;have hbW:=belOfB (u:=y) hb (by (repeat (first|(with_reducible first|exact RowKit.Below.refl _ _|assumption|refine RowKit.Below.drew ?_)|((with_reducible first|refine belAlloc ?_ ?_|refine belSet ?_ ?_);(first|simp<;>omega|omega)))));have hbu:=hbW.trans (hb.mono hbW.size);have hw2:=HW.out.later hbu;have hf:Fr B [] y wq:=Fr.of_below HW.out.st.below.2.2.2 hbu;have hfW:Fr B [] _ wq:=Fr.of_below (Nat.le_trans HW.out.st.below.2.2.2 hbW.size) hb;have hk2:=hk;have hbu2:=hbu;have hs2:=HS.out _ wq hw2 hf;have hSb: ∀W:World,Below y.heap.size wq W→W.cell? ⟨b0,0,none⟩=some (P E.A.lanes)∧W.cell? ⟨b1,0,none⟩=some (.int .i64 E.who)∧W.cell? ⟨b2,0,none⟩=some (.int .i64 (word:Nat))∧W.cell? ⟨b3,0,none⟩=some (.slice va vn vc)∧W.cell? ⟨b4,0,none⟩=some (.int .i64 (level:Nat))∧W.cell? ⟨E.A.lanes,0,none⟩=some (P E.A.board)∧W.cell? ⟨E.A.lanes,1,none⟩=some (.func (.func 18) #[] #[]):=fun W hb=>⟨cell_lt HLt.out.1 hb hs2.1,cell_lt HLt.out.2.1 hb hs2.2.1,cell_lt HLt.out.2.2.1 hb hs2.2.2.1,cell_lt HLt.out.2.2.2.1 hb hs2.2.2.2.1,cell_lt HLt.out.2.2.2.2.1 hb hs2.2.2.2.2.1,cell_lt HLt.out.2.2.2.2.2.1 hb hs2.2.2.2.2.2.1,cell_lt HLt.out.2.2.2.2.2.2 hb hs2.2.2.2.2.2.2⟩;have hsk:=hs2;have hsz:=hf.size;have hl02:=HL0.out.keep hf rfl;have HWc:=Lib.hid hw2;have Hfc:=Lib.hid hf;have HLc0:=Lib.hid hl02;clear hk hw2 hf hfW hbW hs2 hb hbu hl02)|(go_at_call 32;(refine (Ks.out _ _ _ _ (HW.out.later (by (repeat (first|(with_reducible first|exact RowKit.Below.refl _ _|assumption|refine RowKit.Below.drew ?_)|((with_reducible first|refine belAlloc ?_ ?_|refine belSet ?_ ?_);(first|simp<;>omega|omega)))))).st (hk2.keep (fr0 (by (repeat (first|(with_reducible first|exact RowKit.Below.refl _ _|assumption|refine RowKit.Below.drew ?_)|((with_reducible first|refine belAlloc ?_ ?_|refine belSet ?_ ?_);(first|simp<;>omega|omega)))))))).mono ?_);rintro e w1 ⟨rfl,hacc⟩;have hbW:=belOfA (u:=y) hacc (by (repeat (first|(with_reducible first|exact RowKit.Below.refl _ _|assumption|refine RowKit.Below.drew ?_)|((with_reducible first|refine belAlloc ?_ ?_|refine belSet ?_ ?_);(first|simp<;>omega|omega)))));have hw2:=(HW.out.later hbW).acc hacc;have hf:=Fr.trans (Fr.of_below (X:=[]) HW.out.st.below.2.2.2 hbW) hacc.2;have hfW:=hacc.2;have hs2:=HS.out _ w1 hw2 hf;have hSb: ∀W:World,Below y.heap.size w1 W→W.cell? ⟨b0,0,none⟩=some (P E.A.lanes)∧W.cell? ⟨b1,0,none⟩=some (.int .i64 E.who)∧W.cell? ⟨b2,0,none⟩=some (.int .i64 (word:Nat))∧W.cell? ⟨b3,0,none⟩=some (.slice va vn vc)∧W.cell? ⟨b4,0,none⟩=some (.int .i64 (level:Nat))∧W.cell? ⟨E.A.lanes,0,none⟩=some (P E.A.board)∧W.cell? ⟨E.A.lanes,1,none⟩=some (.func (.func 18) #[] #[]):=fun W hb=>⟨cell_lt HLt.out.1 hb hs2.1,cell_lt HLt.out.2.1 hb hs2.2.1,cell_lt HLt.out.2.2.1 hb hs2.2.2.1,cell_lt HLt.out.2.2.2.1 hb hs2.2.2.2.1,cell_lt HLt.out.2.2.2.2.1 hb hs2.2.2.2.2.1,cell_lt HLt.out.2.2.2.2.2.1 hb hs2.2.2.2.2.2.1,cell_lt HLt.out.2.2.2.2.2.2 hb hs2.2.2.2.2.2.2⟩;have hsk:=hs2;have hsz:=hf.size;have hl02:=HL0.out.keep hf rfl;have HW2:=Lib.hid hw2;have Hf:=Lib.hid hf;have HLb0:=Lib.hid hl02;clear hw2 hf hfW hbW hs2 hacc hl02)))
 have hw:=HW2.out
 have hl0:=HLb0.out
 clear HW2 HW HSa HS HLt hSb hsz Hf HLb0 HL0 Ks Kc
 obtain⟨f,ps,hfp,hef,kt⟩:=hthen_any Bl hT B E x m1 t _ word 0 ha hn hcp h w1 (H.out.2.2.2.2.2.2.2.2.2.keep hw.fr) Ho.out hw.st hw.call (H.out.2.2.2.2.2.2.2.2.1.keep hw.fr) Hi.out (by decide)
 injection hfp with hf1 hf2 hf3
 subst hf1 hf3
 unfold Enters at hef
 have Kt:=Lib.hid kt
 clear kt
 have d0:w1.cell? ⟨b5,0,none⟩=some (.func (.func f) #[] tps):=(H.out.2.2.2.2.2.1.keep hw.fr rfl).cell 0
 have g0:b5<w1.heap.size:=World.block_lt_of_cell? _ _ d0
 have d1:w1.cell? ⟨b2,0,none⟩=some (.int .i64 (word:Nat)):=(H.out.2.2.1.keep hw.fr rfl).cell 0
 have g1:b2<w1.heap.size:=World.block_lt_of_cell? _ _ d1
 have d2:w1.cell? ⟨b6,0,none⟩=some (.slice ha hn hcp):=(H.out.2.2.2.2.2.2.1.keep hw.fr rfl).cell 0
 have g2:b6<w1.heap.size:=World.block_lt_of_cell? _ _ d2
 have HW:=Lib.hid hw
 have HL0:=Lib.hid hl0
 clear hw hl0
 go_wp2_with (go_at_fn f;(refine (Kt.out).mono ?_);rintro e w3 h;obtain⟨v,d,a,rfl,ha⟩:=Ans.of h;have hr3:=HL0.out.keep ha.fr rfl;obtain⟨r0,r1,r2,r3,r4,r5,r6⟩:=res_cells hr3;obtain⟨f0,f1,f2,f3,f4,f5,f6⟩:=res_free hr3;have Hr3:=Lib.hid hr3;have Ha:=Lib.hid ha;clear hr3 ha h)
 rw[Hx.out]
 exact bodyPost_ret (v:= .tuple #[v,.agg (resA d a)]) (by simp [results,Tryz.results151,go_sem,r0,r1,r2,r3,r4,r5,r6]) rfl ((Ha.out.pre HW.out.fr).store Hr3.out (Nat.le_refl _) HB0.out).ores
end
section
open Go.RowKit Top
set_option linter.unusedVariables false
theorem u64_mask (n:Nat) (m:Int) (l:Nat) (hn:n<18446744073709551616) (hm:(BitVec.ofInt 64 m).toNat=2^l-1) (hl:l≤4):bits .and .u64 n m=((n%2^l:Nat):Int):=by
 have key:(BitVec.ofInt 64 (n:Int) &&& BitVec.ofInt 64 m).toNat=n%2^l:=by
   rw[BitVec.toNat_and,BitVec.toNat_ofInt,hm,Nat.and_two_pow_sub_one_eq_mod]
   congr 1
   omega
 show IntKind.u64.wrap ((BitVec.ofInt 64 (n:Int) &&& BitVec.ofInt 64 m).toNat:Nat)=_
 rw[key,IntKind.wrap_u64]
 have h:l=0∨l=1∨l=2∨l=3∨l=4:=by omega
 rcases h with rfl|rfl|rfl|rfl|rfl<;>omega
theorem ByAt.drewN {w:World} {v:Value} {L:List Nat} (h:ByAt w v L) (n:Nat):ByAt (w.drewN n) v L:=by
 obtain⟨h0,a,c,h1,h2,h3,h4⟩:=h
 refine⟨h0,a,c,h1,h2,h3,fun hn=> ?_⟩
 obtain⟨b,off,h5,h6⟩:=h4 hn
 exact⟨b,off,h5,fun j hj=>by simp only[World.cell?_drewN];exact h6 j hj⟩
theorem quiet_left {P:Program} {f:FuncId} {args:Array Value} {w:World} {n:Nat} {v:Value}
   (h:Calls P f args (w.drewN n) fun e w'=>e= .returned v∧w.drewN n=w'):Calls P f args (w.drewN n) fun e w''=>e= .returned v∧ ∃m,w''=w.drewN m:=
 h.mono fun _ _ ⟨he,hm⟩=>⟨he,n,hm.symm⟩
theorem sumB_lt (L:List Nat):sumB L<18446744073709551616:=updB_lt L (by decide)
set_option maxHeartbeats 2000000 in
theorem shard_any (level:Nat) (v:Value) (L:List Nat) (w:World) (hL:ByAt w v L) (hl:level≤4):
   Calls Tryz.prog 35 #[v,.int .i64 level] w fun e w'=>e= .returned (.tuple #[.int .i64 (sumB L%2^level:Nat),.int .i64 0])∧ ∃q,w'=w.drewN q:=by
 have hlt:=sumB_lt L
 have m0:=u64_mask (sumB L) 0 0 hlt (by decide) (by decide)
 have m1:=u64_mask (sumB L) 1 1 hlt (by decide) (by decide)
 have m2:=u64_mask (sumB L) 3 2 hlt (by decide) (by decide)
 have m3:=u64_mask (sumB L) 7 3 hlt (by decide) (by decide)
 have m4:=u64_mask (sumB L) 15 4 hlt (by decide) (by decide)
 have Ks:Hid (∀n,Calls Tryz.prog 57 #[v] (w.drewN n) fun e w'=>e= .returned (.int .u64 (sumB L:Nat))∧w.drewN n=w'):=fun n=>sum_any v L _ (hL.drewN n)
 have M:=Lib.hid (And.intro m0 (And.intro m1 (And.intro m2 (And.intro m3 m4))))
 have Hlt:=Lib.hid hlt
 clear m0 m1 m2 m3 m4 hL hlt
 have h:level=0∨level=1∨level=2∨level=3∨level=4:=by omega
 clear hl
 rcases h with rfl|rfl|rfl|rfl|rfl
 · go_enter Tryz.func35,Tryz.ntmps35
   go_wp2_with fail
   go_quiet ((go_at_call 57;with_reducible exact quiet_left (Ks.out _)))
   go_wp2_with fail
   have hz:wrap64 (bits .and .u64 (sumB L:Int) 0)=((sumB L%2^0:Nat):Int):=by
     rw[M.out.1]
     unfold wrap64
     have:=Hlt.out
     omega
   simp only[hz]
   exact bodyPost_ret (v:= .tuple #[.int .i64 (sumB L%2^0:Nat),.int .i64 0]) (by simp [results,Tryz.results35,go_sem]) rfl ⟨rfl,_,rfl⟩
 · go_enter Tryz.func35,Tryz.ntmps35
   go_wp2_with fail
   go_quiet ((go_at_call 57;with_reducible exact quiet_left (Ks.out _)))
   go_wp2_with fail
   have hz:wrap64 (bits .and .u64 (sumB L:Int) 1)=((sumB L%2^1:Nat):Int):=by
     rw[M.out.2.1]
     unfold wrap64
     have:=Hlt.out
     omega
   simp only[hz]
   exact bodyPost_ret (v:= .tuple #[.int .i64 (sumB L%2^1:Nat),.int .i64 0]) (by simp [results,Tryz.results35,go_sem]) rfl ⟨rfl,_,rfl⟩
 · go_enter Tryz.func35,Tryz.ntmps35
   go_wp2_with fail
   go_quiet ((go_at_call 57;with_reducible exact quiet_left (Ks.out _)))
   go_wp2_with fail
   have hz:wrap64 (bits .and .u64 (sumB L:Int) 3)=((sumB L%2^2:Nat):Int):=by
     rw[M.out.2.2.1]
     unfold wrap64
     have:=Hlt.out
     omega
   simp only[hz]
   exact bodyPost_ret (v:= .tuple #[.int .i64 (sumB L%2^2:Nat),.int .i64 0]) (by simp [results,Tryz.results35,go_sem]) rfl ⟨rfl,_,rfl⟩
 · go_enter Tryz.func35,Tryz.ntmps35
   go_wp2_with fail
   go_quiet ((go_at_call 57;with_reducible exact quiet_left (Ks.out _)))
   go_wp2_with fail
   have hz:wrap64 (bits .and .u64 (sumB L:Int) 7)=((sumB L%2^3:Nat):Int):=by
     rw[M.out.2.2.2.1]
     unfold wrap64
     have:=Hlt.out
     omega
   simp only[hz]
   exact bodyPost_ret (v:= .tuple #[.int .i64 (sumB L%2^3:Nat),.int .i64 0]) (by simp [results,Tryz.results35,go_sem]) rfl ⟨rfl,_,rfl⟩
 · go_enter Tryz.func35,Tryz.ntmps35
   go_wp2_with fail
   go_quiet ((go_at_call 57;with_reducible exact quiet_left (Ks.out _)))
   go_wp2_with fail
   have hz:wrap64 (bits .and .u64 (sumB L:Int) 15)=((sumB L%2^4:Nat):Int):=by
     rw[M.out.2.2.2.2]
     unfold wrap64
     have:=Hlt.out
     omega
   simp only[hz]
   exact bodyPost_ret (v:= .tuple #[.int .i64 (sumB L%2^4:Nat),.int .i64 0]) (by simp [results,Tryz.results35,go_sem]) rfl ⟨rfl,_,rfl⟩
theorem ByAt.below {w w':World} {v:Value} {L:List Nat} (h:ByAt w v L) (hb:Below w.heap.size w w'):ByAt w' v L:=by
 obtain⟨h0,a,c,h1,h2,h3,h4⟩:=h
 refine⟨h0,a,c,h1,h2,h3,fun hn=> ?_⟩
 obtain⟨b,off,h5,h6⟩:=h4 hn
 exact⟨b,off,h5,fun j hj=>cell_later hb (h6 j hj)⟩
set_option maxHeartbeats 2000000 in
set_option maxRecDepth 100000 in
theorem order_any (c d:Cell) (kv hv ku hu:Value) (w:World) (hc:KeyAt w kv c.key) (hd:KeyAt w ku d.key) (okc:CellOk c) (okd:CellOk d) (hh: ∃a n c,hv= .slice a n c) (hh': ∃a n c,hu= .slice a n c):
   Calls Tryz.prog 133 #[.agg (cellA c kv hv),.agg (cellA d ku hu)] w fun e w'=>e= .returned (.int .i64 (cmpB (cid c) (cid d)))∧Below w.heap.size w w':=by
 obtain⟨ka,kc,rfl⟩: ∃a c',kv= .slice a c.key.length c':=by obtain⟨_,_,a,c',e,_⟩:=hc;exact⟨a,c',e⟩
 obtain⟨ka',kc',rfl⟩: ∃a c',ku= .slice a d.key.length c':=by obtain⟨_,_,a,c',e,_⟩:=hd;exact⟨a,c',e⟩
 obtain⟨ha,hn,hcc,rfl⟩:=hh
 obtain⟨ha',hn',hcc',rfl⟩:=hh'
 have Kc:Hid (∀W:World,Below w.heap.size w W→Calls Tryz.prog 34 #[.int .i64 c.pol,.slice ka c.key.length kc] W fun e w'=> ∃a c',e= .returned (.tuple #[.slice a (c.key.length+1) c',.int .i64 0])∧ByAt w' (.slice a (c.key.length+1) c') (ident c.pol c.key)∧Below W.heap.size W w'):=fun W hb=>ident_any c.pol _ c.key W (hc.keep (fr0 hb)) okc.len okc.pol0 okc.pol1
 have Kd:Hid (∀W:World,Below w.heap.size w W→Calls Tryz.prog 34 #[.int .i64 d.pol,.slice ka' d.key.length kc'] W fun e w'=> ∃a c',e= .returned (.tuple #[.slice a (d.key.length+1) c',.int .i64 0])∧ByAt w' (.slice a (d.key.length+1) c') (ident d.pol d.key)∧Below W.heap.size W w'):=fun W hb=>ident_any d.pol _ d.key W (hd.keep (fr0 hb)) okd.len okd.pol0 okd.pol1
 clear hc hd okc okd
 go_enter Tryz.func133,Tryz.ntmps133
 go_wp2_with fail
 refine calls_name (fun u=>Below w.heap.size w u∧w.heap.size+1<u.heap.size∧Bx u (w.heap.size+1) 100 (cellA d (.slice ka' d.key.length kc') (.slice ha' hn' hcc'))) ⟨below_allocs [_,_] w,by simp,bx_allocs w [_,_] 1 rfl⟩ ?_
 intro W0 h0
 have H0:=Lib.hid h0
 clear h0
 (refine (Kc.out W0 H0.out.1).mono ?_)
 rintro e w1 ⟨ia,ic,rfl,hi,hb1⟩
 have hbx:=H0.out.2.2.below hb1 H0.out.2.2.lt
 have c0:=hbx.cell 0
 have c1:=hbx.cell 1
 have hs0:=H0.out.1.size
 have HB1:=Lib.hid (H0.out.1.trans (hb1.mono hs0));have Hi:=Lib.hid hi
 clear hi hb1 hbx
 go_wp2_with (first
   |(go_at_call 34;(refine (Kd.out _ HB1.out).mono ?_);rintro e w2 ⟨ja,jc,rfl,hj,hb2⟩;have Hj:=Lib.hid hj;have Hb2:=Lib.hid hb2;clear hj hb2)
   |(go_at_call 156;(refine (horder_any _ _ _ _ w2 (Hi.out.below Hb2.out) Hj.out).mono ?_);rintro e w3 ⟨rfl,rfl⟩))
 exact bodyPost_ret (v:= .int .i64 (cmpB (cid c) (cid d))) (by simp [results,Tryz.results133,go_sem,cid]) rfl ⟨rfl,HB1.out.trans (Hb2.out.mono HB1.out.size)⟩
end
end Go.Proofs.YtemnhpdjoimjbaaGreatDoor
