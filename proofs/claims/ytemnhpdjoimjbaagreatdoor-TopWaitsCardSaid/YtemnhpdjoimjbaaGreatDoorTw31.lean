import Derived.Test.YtemnhpdjoimjbaaGreatDoorTw30
namespace Go.Proofs.YtemnhpdjoimjbaaGreatDoor
section
open Go.RowKit Top
set_option linter.unusedVariables false
variable (Bl : Top.Below)
set_option maxHeartbeats 8000000 in
set_option maxRecDepth 100000 in
theorem call_then1 (hB:Books Bl) (hA:TakeSpec Bl) (B:Nat) (E:Env) (x:Live) (m:Mem) (v:Value) (word u:Nat) (ca:Option Addr) (cn cc:Nat) (L:List Cell) (w:World) (hv:ThenAt w E v .call) (hg:Good E x) (hop:x.call.op=1) (hs:St w B E.A m) (hcl:CallAt w E x) (hc:CellsAt w (.slice ca cn cc) L):
   ∃f ps,v= .func (.func f) #[] ps∧Enters f∧Calls Tryz.prog f (#[.int .i64 word,.int .u64 u,.slice ca cn cc]++ps) w (ORes w B E (thenF Bl E.A.list E.A.room .call word u L x m)):=by
 obtain⟨b0,b1,rfl,h0,h1⟩:=hv
 refine⟨_,_,rfl,enters_of Tryz.func99 (by kernel_rfl) rfl,?_⟩
 show Calls _ _ #[.int .i64 word,.int .u64 u,.slice ca cn cc,P b0,P b1] _ _
 obtain⟨key,hx0,hkey⟩:=id hcl
 obtain⟨ya,yc,rfl⟩: ∃a c',key= .slice a x.call.key.length c':=by obtain⟨_,_,a,c',e,_⟩:=hkey;exact⟨a,c',e⟩
 have hpol0:0≤x.call.pol:=by obtain⟨p,hp,_⟩:=hg.pol;omega
 have Kf:Hid (∀W,CellsAt W (.slice ca cn cc) L→KeyAt W (.slice ya x.call.key.length yc) x.call.key→Calls Tryz.prog 100 #[.slice ca cn cc,.int .i64 x.call.pol,.slice ya x.call.key.length yc] W fun e w'=> ∃ka kn kc ha hn hc,e= .returned (.tuple #[.int .i64 (findAt L x.call.pol x.call.key:Nat),.bool (findThere L x.call.pol x.call.key),.agg (cellA (findCell L x.call.pol x.call.key) (.slice ka kn kc) (.slice ha hn hc))])∧KeyAt W (.slice ka kn kc) (findCell L x.call.pol x.call.key).key∧HeldAt W (.slice ha hn hc) (findCell L x.call.pol x.call.key).held∧CellOk (findCell L x.call.pol x.call.key)∧Below W.heap.size W w'):=fun W h1 h2=>hB.find L _ _ x.call.pol x.call.key W h1 h2 hg.klen hpol0 hg.pol1
 have W0:=Lib.hid (Was.start hs hcl)
 have HB0:=Lib.hid hs.below.2.2.2
 have hb0:=below_allocs [.cells res0 37,.cells #[.int .i64 word,.int .u64 u,.slice ca cn cc] 172] w
 have HX0:=Lib.hid (hx0.below hb0 hx0.lt)
 have HKey:=Lib.hid (hkey.keep (fr0 hb0))
 have H:=Lib.hid (And.intro h0 (And.intro h1 hc))
 have Hg:=Lib.hid hg;have Hb0:=Lib.hid hb0;have Hop:=Lib.hid hop
 clear hop
 clear hs hcl h0 h1 hc hg hx0 hkey hb0 hpol0
 go_enter Tryz.func99,Tryz.ntmps99
 go_wp2_with fail
 refine wp_name (fun y=>Below w.heap.size w y∧Bx y w.heap.size 37 res0∧Bx y (w.heap.size+1) 172 #[.int .i64 word,.int .u64 u,.slice ca cn cc]∧Bx y E.x 110 (callA E x (.slice ya x.call.key.length yc))∧KeyAt y (.slice ya x.call.key.length yc) x.call.key) ⟨Hb0.out,bx_allocs w [_,_] 0 rfl,bx_allocs w [_,_] 1 rfl,HX0.out,HKey.out⟩ ?_
 rintro y ⟨hby,hr,hfd,hxb,hky⟩
 have HBy:=Lib.hid hby;have HR:=Lib.hid hr;have HFd:=Lib.hid hfd;have HXb:=Lib.hid hxb;have HKy:=Lib.hid hky
 have p00:=(H.out.1.keep (fr0 hby) rfl).at0
 clear HX0 HKey Hb0 hby hr hfd hky
 have p0:y.cell? ⟨b0,0,none⟩=some (P E.x):=p00
 have p1:y.cell? ⟨E.x,1,none⟩=some (.int .i64 x.call.pol):=hxb.cell 1
 have p2:y.cell? ⟨E.x,2,none⟩=some (.slice ya x.call.key.length yc):=hxb.cell 2
 have HSa:Hid (∀W:World,Below y.heap.size y W→W.cell? ⟨b0,0,none⟩=some (P E.x)∧W.cell? ⟨E.x,1,none⟩=some (.int .i64 x.call.pol)∧W.cell? ⟨E.x,2,none⟩=some (.slice ya x.call.key.length yc)):=fun W hb=>⟨cell_later hb p0,cell_later hb p1,cell_later hb p2⟩
 clear p0 p1 p2
 clear p00 hxb
 obtain⟨C,hC⟩: ∃C,findCell L x.call.pol x.call.key=C:=⟨_,rfl⟩
 have HC:=Lib.hid hC;clear hC
 go_cut [11,12,13] (fun s11 s12 s13 wx=> ∃q13 ka kn kc ha hn hc,s11= .int .i64 (findAt L x.call.pol x.call.key:Nat)∧s12= .bool (findThere L x.call.pol x.call.key)∧s13=P q13∧Below y.heap.size y wx∧Bx wx q13 100 (cellA (findCell L x.call.pol x.call.key) (.slice ka kn kc) (.slice ha hn hc))∧KeyAt wx (.slice ka kn kc) (findCell L x.call.pol x.call.key).key∧HeldAt wx (.slice ha hn hc) (findCell L x.call.pol x.call.key).held∧CellOk (findCell L x.call.pol x.call.key))
 case first=>
   go_region_held3 (fun w'=>w'.cell? ⟨b0,0,none⟩=some (P E.x)∧w'.cell? ⟨E.x,1,none⟩=some (.int .i64 x.call.pol)∧w'.cell? ⟨E.x,2,none⟩=some (.slice ya x.call.key.length yc)) (first|(refine HSa.out _ ?_;(repeat (first|(with_reducible first|exact RowKit.Below.refl _ _|assumption|refine RowKit.Below.drew ?_)|((with_reducible first|refine belAlloc ?_ ?_|refine belSet ?_ ?_);(first|simp<;>omega|omega))));done)|(refine hSb _ ?_;(repeat (first|(with_reducible first|exact RowKit.Below.refl _ _|assumption|refine RowKit.Below.drew ?_)|((with_reducible first|refine belAlloc ?_ ?_|refine belSet ?_ ?_);(first|simp<;>omega|omega))));done)) ((first|(go_at_call 100;(refine (Kf.out _ (H.out.2.2.keep (fr0 (belTrans HBy.out (by (repeat (first|(with_reducible first|exact RowKit.Below.refl _ _|assumption|refine RowKit.Below.drew ?_)|((with_reducible first|refine belAlloc ?_ ?_|refine belSet ?_ ?_);(first|simp<;>omega|omega)))))))) (HKy.out.keep (fr0 (by (repeat (first|(with_reducible first|exact RowKit.Below.refl _ _|assumption|refine RowKit.Below.drew ?_)|((with_reducible first|refine belAlloc ?_ ?_|refine belSet ?_ ?_);(first|simp<;>omega|omega)))))))).mono ?_);rintro e w2 ⟨ka,kn,kc,ha,hn,hc,rfl,hk1,hh1,hok1,hb⟩;have hbW:=belOfB (u:=y) hb (by (repeat (first|(with_reducible first|exact RowKit.Below.refl _ _|assumption|refine RowKit.Below.drew ?_)|((with_reducible first|refine belAlloc ?_ ?_|refine belSet ?_ ?_);(first|simp<;>omega|omega)))));have hbu:=hbW.trans (hb.mono hbW.size);have hSb: ∀W:World,Below y.heap.size w2 W→W.cell? ⟨b0,0,none⟩=some (P E.x)∧W.cell? ⟨E.x,1,none⟩=some (.int .i64 x.call.pol)∧W.cell? ⟨E.x,2,none⟩=some (.slice ya x.call.key.length yc):=fun W h=>HSa.out W (hbu.trans h);have hsz:=hbu.size;have hfW:=fr0 hb;(try (refine (have z1:Bx w2 (y.heap.size) 100 #[.int .i64 0,.slice none 0 0,.int .i64 0,.slice none 0 0]:= ?_;?_);· (refine Bx.keep hfW ?_ rfl;(repeat (first|with_reducible assumption|((with_reducible apply Bx.newq');(first|simp<;>omega|omega))|(with_reducible first|apply Bx.alc|apply Bx.dr|apply Bx.sc0|apply Bx.set4|apply Bx.set6)|((with_reducible apply Bx.sne);(first|simp<;>omega|omega))));done)));(try have zc1:=cells4 z1);(try have zf1:=free4 z1);(try have zl1:=z1.lt);have hk2:=hk1.keep hfW;have hh2:=hh1.keep hfW;have Hok:=Lib.hid hok1;clear hk1 hh1 hok1;have hbu2:=hbu;clear hfW hbW hb hbu)))
   all_goals
     go_wp2_with fail
     go_meet
     refine⟨_,ka,kn,kc,ha,hn,hc,rfl,rfl,rfl,?_,?_,?_,?_,Hok.out⟩
     · (repeat (first|(with_reducible first|exact RowKit.Below.refl _ _|assumption|refine RowKit.Below.drew ?_)|((with_reducible first|refine belAlloc ?_ ?_|refine belSet ?_ ?_);(first|simp<;>omega|omega))))
     · (repeat (first|with_reducible assumption|((with_reducible apply Bx.newq');(first|simp<;>omega|omega))|(with_reducible first|apply Bx.alc|apply Bx.dr|apply Bx.sc0|apply Bx.set4|apply Bx.set6)|((with_reducible apply Bx.sne);(first|simp<;>omega|omega))))
     · (repeat (first|(with_reducible first|assumption|apply KeyAt.alc|apply KeyAt.dr)|((with_reducible apply KeyAt.s4);(focus ((repeat (first|with_reducible assumption|((with_reducible apply Bx.newq');(first|simp<;>omega|omega))|(with_reducible first|apply Bx.alc|apply Bx.dr|apply Bx.sc0|apply Bx.set4|apply Bx.set6)|((with_reducible apply Bx.sne);(first|simp<;>omega|omega))));done)))))
     · (repeat (first|(with_reducible first|assumption|apply HeldAt.alc|apply HeldAt.dr)|((with_reducible apply HeldAt.s4);(focus ((repeat (first|with_reducible assumption|((with_reducible apply Bx.newq');(first|simp<;>omega|omega))|(with_reducible first|apply Bx.alc|apply Bx.dr|apply Bx.sc0|apply Bx.set4|apply Bx.set6)|((with_reducible apply Bx.sne);(first|simp<;>omega|omega))));done)))|((with_reducible apply HeldAt.s6);(focus ((repeat (first|with_reducible assumption|((with_reducible apply Bx.newq');(first|simp<;>omega|omega))|(with_reducible first|apply Bx.alc|apply Bx.dr|apply Bx.sc0|apply Bx.set4|apply Bx.set6)|((with_reducible apply Bx.sne);(first|simp<;>omega|omega))));done)))))
 case rest=>
   rename World=>zc
   obtain⟨q13,ka,kn,kc,ha,hn,hc,rfl,rfl,rfl,hbx,z13,hkc,hhc,hok⟩:=hcut
   have hbw:Below w.heap.size w zc:=belTrans HBy.out hbx
   have hw:Was w B E x m zc:=W0.out.later hbw
   have hr:=HR.out.below hbx HR.out.lt
   have hfd:=HFd.out.below hbx HFd.out.lt
   have hxb:=HXb.out.below hbx HXb.out.lt
   have d0:=(H.out.1.keep hw.fr rfl).at0
   obtain⟨p0,p1,p2,p3⟩:=cells4 (H.out.2.1.keep hw.fr rfl)
   obtain⟨f0,f1,f2⟩:zc.cell? ⟨w.heap.size+1,0,none⟩=some (.int .i64 word)∧zc.cell? ⟨w.heap.size+1,1,none⟩=some (.int .u64 u)∧zc.cell? ⟨w.heap.size+1,2,none⟩=some (.slice ca cn cc):=⟨hfd.cell 0,hfd.cell 1,hfd.cell 2⟩
   obtain⟨v0,v1,v2,v3⟩:=cells4 z13
   have x0:zc.cell? ⟨E.x,0,none⟩=some (.int .u8 (x.call.op:Nat)):=hxb.cell 0
   have hpk:=findCell_ident H.out.2.2.wf Hg.out.polb Hg.out.pol1 (L:=L) (key:=x.call.key)
   have hput:PutOk ⟨word,u,L⟩ (findAt L x.call.pol x.call.key) (findThere L x.call.pol x.call.key) (findCell L x.call.pol x.call.key):=⟨hok,by show _=findAt L _ _;rw[hpk.1,hpk.2],by show _=findThere L _ _;rw[hpk.1,hpk.2]⟩
   have HW:=Lib.hid hw;have HL0:=Lib.hid hr
   have hcw:=H.out.2.2.keep hw.fr
   have hop:=Hop.out
   rw[hop]at x0
   clear HSa HBy HR HFd HXb HKy Kf hbx hbw hr hfd hxb hpk
   skip
   have hx:thenF Bl E.A.list E.A.room .call word u L x m=more (.allow ⟨word,u,L⟩ (findAt L x.call.pol x.call.key) (findThere L x.call.pol x.call.key) (findCell L x.call.pol x.call.key)) x m:=by
     unfold thenF
     rw[hop]
     rfl
   have Hx:=Lib.hid hx
   have Kt:=Lib.hid (allow_any E ⟨word,u,L⟩ _ _ _ ca cn cc _ _ zc hcw hkc hhc hput)
   clear hx hop hput hcw hkc hhc hok hw z13
   go_wp2_with (first|(go_at_call 101;(refine (Kt.out).mono ?_);rintro e w2 ⟨v,rfl,hk,hb⟩;have hr2:=HL0.out.keep (fr0 hb) rfl;have hw2:=HW.out.later hb;have Hk:=Lib.hid hk;have Hr2:=Lib.hid hr2;have HW2:=Lib.hid hw2;clear hk hr2 hw2 hb)|(go_at_call 63;(refine (con_any _ _).mono ?_);rintro e w3 ⟨rfl,hb⟩;have hr3:=Hr2.out.keep (fr0 hb) rfl;have hw3:=HW2.out.later hb;have hk3:=Hk.out.keep (fr0 hb);obtain⟨r0,r1,r2,r3,r4,r5,r6⟩:=res_cells hr3;obtain⟨f0,f1,f2,f3,f4,f5,f6⟩:=res_free hr3;have Hr3:=Lib.hid hr3;have HW3:=Lib.hid hw3;have Hk3:=Lib.hid hk3;clear hr3 hw3 hk3 hb))
   rw[Hx.out]
   exact bodyPost_ret (v:= .tuple #[v,.agg (resA false (err 0))]) (by simp [results,Tryz.results99,go_sem,r0,r1,r2,r3,r4,r5,r6]) rfl ((Ans.more HW3.out Hk3.out).store Hr3.out (Nat.le_refl _) HB0.out).ores
end
section
open Go.RowKit Top
set_option linter.unusedVariables false
variable (Bl : Top.Below)
set_option maxHeartbeats 8000000 in
set_option maxRecDepth 100000 in
theorem call_then2 (hB:Books Bl) (hA:TakeSpec Bl) (B:Nat) (E:Env) (x:Live) (m:Mem) (v:Value) (word u:Nat) (ca:Option Addr) (cn cc:Nat) (L:List Cell) (w:World) (hv:ThenAt w E v .call) (hg:Good E x) (hop:x.call.op=2) (hs:St w B E.A m) (hcl:CallAt w E x) (hc:CellsAt w (.slice ca cn cc) L):
   ∃f ps,v= .func (.func f) #[] ps∧Enters f∧Calls Tryz.prog f (#[.int .i64 word,.int .u64 u,.slice ca cn cc]++ps) w (ORes w B E (thenF Bl E.A.list E.A.room .call word u L x m)):=by
 obtain⟨b0,b1,rfl,h0,h1⟩:=hv
 refine⟨_,_,rfl,enters_of Tryz.func99 (by kernel_rfl) rfl,?_⟩
 show Calls _ _ #[.int .i64 word,.int .u64 u,.slice ca cn cc,P b0,P b1] _ _
 obtain⟨key,hx0,hkey⟩:=id hcl
 obtain⟨ya,yc,rfl⟩: ∃a c',key= .slice a x.call.key.length c':=by obtain⟨_,_,a,c',e,_⟩:=hkey;exact⟨a,c',e⟩
 have hpol0:0≤x.call.pol:=by obtain⟨p,hp,_⟩:=hg.pol;omega
 have Kf:Hid (∀W,CellsAt W (.slice ca cn cc) L→KeyAt W (.slice ya x.call.key.length yc) x.call.key→Calls Tryz.prog 100 #[.slice ca cn cc,.int .i64 x.call.pol,.slice ya x.call.key.length yc] W fun e w'=> ∃ka kn kc ha hn hc,e= .returned (.tuple #[.int .i64 (findAt L x.call.pol x.call.key:Nat),.bool (findThere L x.call.pol x.call.key),.agg (cellA (findCell L x.call.pol x.call.key) (.slice ka kn kc) (.slice ha hn hc))])∧KeyAt W (.slice ka kn kc) (findCell L x.call.pol x.call.key).key∧HeldAt W (.slice ha hn hc) (findCell L x.call.pol x.call.key).held∧CellOk (findCell L x.call.pol x.call.key)∧Below W.heap.size W w'):=fun W h1 h2=>hB.find L _ _ x.call.pol x.call.key W h1 h2 hg.klen hpol0 hg.pol1
 have W0:=Lib.hid (Was.start hs hcl)
 have HB0:=Lib.hid hs.below.2.2.2
 have hb0:=below_allocs [.cells res0 37,.cells #[.int .i64 word,.int .u64 u,.slice ca cn cc] 172] w
 have HX0:=Lib.hid (hx0.below hb0 hx0.lt)
 have HKey:=Lib.hid (hkey.keep (fr0 hb0))
 have H:=Lib.hid (And.intro h0 (And.intro h1 hc))
 have Hg:=Lib.hid hg;have Hb0:=Lib.hid hb0;have Hop:=Lib.hid hop
 clear hop
 clear hs hcl h0 h1 hc hg hx0 hkey hb0 hpol0
 go_enter Tryz.func99,Tryz.ntmps99
 go_wp2_with fail
 refine wp_name (fun y=>Below w.heap.size w y∧Bx y w.heap.size 37 res0∧Bx y (w.heap.size+1) 172 #[.int .i64 word,.int .u64 u,.slice ca cn cc]∧Bx y E.x 110 (callA E x (.slice ya x.call.key.length yc))∧KeyAt y (.slice ya x.call.key.length yc) x.call.key) ⟨Hb0.out,bx_allocs w [_,_] 0 rfl,bx_allocs w [_,_] 1 rfl,HX0.out,HKey.out⟩ ?_
 rintro y ⟨hby,hr,hfd,hxb,hky⟩
 have HBy:=Lib.hid hby;have HR:=Lib.hid hr;have HFd:=Lib.hid hfd;have HXb:=Lib.hid hxb;have HKy:=Lib.hid hky
 have p00:=(H.out.1.keep (fr0 hby) rfl).at0
 clear HX0 HKey Hb0 hby hr hfd hky
 have p0:y.cell? ⟨b0,0,none⟩=some (P E.x):=p00
 have p1:y.cell? ⟨E.x,1,none⟩=some (.int .i64 x.call.pol):=hxb.cell 1
 have p2:y.cell? ⟨E.x,2,none⟩=some (.slice ya x.call.key.length yc):=hxb.cell 2
 have HSa:Hid (∀W:World,Below y.heap.size y W→W.cell? ⟨b0,0,none⟩=some (P E.x)∧W.cell? ⟨E.x,1,none⟩=some (.int .i64 x.call.pol)∧W.cell? ⟨E.x,2,none⟩=some (.slice ya x.call.key.length yc)):=fun W hb=>⟨cell_later hb p0,cell_later hb p1,cell_later hb p2⟩
 clear p0 p1 p2
 clear p00 hxb
 obtain⟨C,hC⟩: ∃C,findCell L x.call.pol x.call.key=C:=⟨_,rfl⟩
 have HC:=Lib.hid hC;clear hC
 go_cut [11,12,13] (fun s11 s12 s13 wx=> ∃q13 ka kn kc ha hn hc,s11= .int .i64 (findAt L x.call.pol x.call.key:Nat)∧s12= .bool (findThere L x.call.pol x.call.key)∧s13=P q13∧Below y.heap.size y wx∧Bx wx q13 100 (cellA (findCell L x.call.pol x.call.key) (.slice ka kn kc) (.slice ha hn hc))∧KeyAt wx (.slice ka kn kc) (findCell L x.call.pol x.call.key).key∧HeldAt wx (.slice ha hn hc) (findCell L x.call.pol x.call.key).held∧CellOk (findCell L x.call.pol x.call.key))
 case first=>
   go_region_held3 (fun w'=>w'.cell? ⟨b0,0,none⟩=some (P E.x)∧w'.cell? ⟨E.x,1,none⟩=some (.int .i64 x.call.pol)∧w'.cell? ⟨E.x,2,none⟩=some (.slice ya x.call.key.length yc)) (first|(refine HSa.out _ ?_;(repeat (first|(with_reducible first|exact RowKit.Below.refl _ _|assumption|refine RowKit.Below.drew ?_)|((with_reducible first|refine belAlloc ?_ ?_|refine belSet ?_ ?_);(first|simp<;>omega|omega))));done)|(refine hSb _ ?_;(repeat (first|(with_reducible first|exact RowKit.Below.refl _ _|assumption|refine RowKit.Below.drew ?_)|((with_reducible first|refine belAlloc ?_ ?_|refine belSet ?_ ?_);(first|simp<;>omega|omega))));done)) ((first|(go_at_call 100;(refine (Kf.out _ (H.out.2.2.keep (fr0 (belTrans HBy.out (by (repeat (first|(with_reducible first|exact RowKit.Below.refl _ _|assumption|refine RowKit.Below.drew ?_)|((with_reducible first|refine belAlloc ?_ ?_|refine belSet ?_ ?_);(first|simp<;>omega|omega)))))))) (HKy.out.keep (fr0 (by (repeat (first|(with_reducible first|exact RowKit.Below.refl _ _|assumption|refine RowKit.Below.drew ?_)|((with_reducible first|refine belAlloc ?_ ?_|refine belSet ?_ ?_);(first|simp<;>omega|omega)))))))).mono ?_);rintro e w2 ⟨ka,kn,kc,ha,hn,hc,rfl,hk1,hh1,hok1,hb⟩;have hbW:=belOfB (u:=y) hb (by (repeat (first|(with_reducible first|exact RowKit.Below.refl _ _|assumption|refine RowKit.Below.drew ?_)|((with_reducible first|refine belAlloc ?_ ?_|refine belSet ?_ ?_);(first|simp<;>omega|omega)))));have hbu:=hbW.trans (hb.mono hbW.size);have hSb: ∀W:World,Below y.heap.size w2 W→W.cell? ⟨b0,0,none⟩=some (P E.x)∧W.cell? ⟨E.x,1,none⟩=some (.int .i64 x.call.pol)∧W.cell? ⟨E.x,2,none⟩=some (.slice ya x.call.key.length yc):=fun W h=>HSa.out W (hbu.trans h);have hsz:=hbu.size;have hfW:=fr0 hb;(try (refine (have z1:Bx w2 (y.heap.size) 100 #[.int .i64 0,.slice none 0 0,.int .i64 0,.slice none 0 0]:= ?_;?_);· (refine Bx.keep hfW ?_ rfl;(repeat (first|with_reducible assumption|((with_reducible apply Bx.newq');(first|simp<;>omega|omega))|(with_reducible first|apply Bx.alc|apply Bx.dr|apply Bx.sc0|apply Bx.set4|apply Bx.set6)|((with_reducible apply Bx.sne);(first|simp<;>omega|omega))));done)));(try have zc1:=cells4 z1);(try have zf1:=free4 z1);(try have zl1:=z1.lt);have hk2:=hk1.keep hfW;have hh2:=hh1.keep hfW;have Hok:=Lib.hid hok1;clear hk1 hh1 hok1;have hbu2:=hbu;clear hfW hbW hb hbu)))
   all_goals
     go_wp2_with fail
     go_meet
     refine⟨_,ka,kn,kc,ha,hn,hc,rfl,rfl,rfl,?_,?_,?_,?_,Hok.out⟩
     · (repeat (first|(with_reducible first|exact RowKit.Below.refl _ _|assumption|refine RowKit.Below.drew ?_)|((with_reducible first|refine belAlloc ?_ ?_|refine belSet ?_ ?_);(first|simp<;>omega|omega))))
     · (repeat (first|with_reducible assumption|((with_reducible apply Bx.newq');(first|simp<;>omega|omega))|(with_reducible first|apply Bx.alc|apply Bx.dr|apply Bx.sc0|apply Bx.set4|apply Bx.set6)|((with_reducible apply Bx.sne);(first|simp<;>omega|omega))))
     · (repeat (first|(with_reducible first|assumption|apply KeyAt.alc|apply KeyAt.dr)|((with_reducible apply KeyAt.s4);(focus ((repeat (first|with_reducible assumption|((with_reducible apply Bx.newq');(first|simp<;>omega|omega))|(with_reducible first|apply Bx.alc|apply Bx.dr|apply Bx.sc0|apply Bx.set4|apply Bx.set6)|((with_reducible apply Bx.sne);(first|simp<;>omega|omega))));done)))))
     · (repeat (first|(with_reducible first|assumption|apply HeldAt.alc|apply HeldAt.dr)|((with_reducible apply HeldAt.s4);(focus ((repeat (first|with_reducible assumption|((with_reducible apply Bx.newq');(first|simp<;>omega|omega))|(with_reducible first|apply Bx.alc|apply Bx.dr|apply Bx.sc0|apply Bx.set4|apply Bx.set6)|((with_reducible apply Bx.sne);(first|simp<;>omega|omega))));done)))|((with_reducible apply HeldAt.s6);(focus ((repeat (first|with_reducible assumption|((with_reducible apply Bx.newq');(first|simp<;>omega|omega))|(with_reducible first|apply Bx.alc|apply Bx.dr|apply Bx.sc0|apply Bx.set4|apply Bx.set6)|((with_reducible apply Bx.sne);(first|simp<;>omega|omega))));done)))))
 case rest=>
   rename World=>zc
   obtain⟨q13,ka,kn,kc,ha,hn,hc,rfl,rfl,rfl,hbx,z13,hkc,hhc,hok⟩:=hcut
   have hbw:Below w.heap.size w zc:=belTrans HBy.out hbx
   have hw:Was w B E x m zc:=W0.out.later hbw
   have hr:=HR.out.below hbx HR.out.lt
   have hfd:=HFd.out.below hbx HFd.out.lt
   have hxb:=HXb.out.below hbx HXb.out.lt
   have d0:=(H.out.1.keep hw.fr rfl).at0
   obtain⟨p0,p1,p2,p3⟩:=cells4 (H.out.2.1.keep hw.fr rfl)
   obtain⟨f0,f1,f2⟩:zc.cell? ⟨w.heap.size+1,0,none⟩=some (.int .i64 word)∧zc.cell? ⟨w.heap.size+1,1,none⟩=some (.int .u64 u)∧zc.cell? ⟨w.heap.size+1,2,none⟩=some (.slice ca cn cc):=⟨hfd.cell 0,hfd.cell 1,hfd.cell 2⟩
   obtain⟨v0,v1,v2,v3⟩:=cells4 z13
   have x0:zc.cell? ⟨E.x,0,none⟩=some (.int .u8 (x.call.op:Nat)):=hxb.cell 0
   have hpk:=findCell_ident H.out.2.2.wf Hg.out.polb Hg.out.pol1 (L:=L) (key:=x.call.key)
   have hput:PutOk ⟨word,u,L⟩ (findAt L x.call.pol x.call.key) (findThere L x.call.pol x.call.key) (findCell L x.call.pol x.call.key):=⟨hok,by show _=findAt L _ _;rw[hpk.1,hpk.2],by show _=findThere L _ _;rw[hpk.1,hpk.2]⟩
   have HW:=Lib.hid hw;have HL0:=Lib.hid hr
   have hcw:=H.out.2.2.keep hw.fr
   have hop:=Hop.out
   rw[hop]at x0
   clear HSa HBy HR HFd HXb HKy Kf hbx hbw hr hfd hxb hpk
   skip
   have hx:thenF Bl E.A.list E.A.room .call word u L x m=acquireF Bl E.A.list E.A.room ⟨word,u,L⟩ (findAt L x.call.pol x.call.key) (findThere L x.call.pol x.call.key) (findCell L x.call.pol x.call.key) x m:=by
     unfold thenF
     rw[hop]
     rfl
   have Hx:=Lib.hid hx
   have Kt:=Lib.hid (acquire_any Bl hA B E x m ⟨word,u,L⟩ _ _ _ ca cn cc _ _ zc Hg.out hop Hg.out.se0 Hg.out.se1 hw.st hw.call hcw hkc hhc hput)
   clear hx hop hput hcw hkc hhc hok hw z13
   go_wp2_with (go_at_call 102;(refine (Kt.out).mono ?_);rintro e w3 h;obtain⟨v,d,a,rfl,ha⟩:=Ans.of h;have hr3:=HL0.out.keep ha.fr rfl;obtain⟨r0,r1,r2,r3,r4,r5,r6⟩:=res_cells hr3;obtain⟨f0,f1,f2,f3,f4,f5,f6⟩:=res_free hr3;have Hr3:=Lib.hid hr3;have Ha:=Lib.hid ha;clear hr3 ha h)
   rw[Hx.out]
   exact bodyPost_ret (v:= .tuple #[v,.agg (resA d a)]) (by simp [results,Tryz.results99,go_sem,r0,r1,r2,r3,r4,r5,r6]) rfl ((Ha.out.pre HW.out.fr).store Hr3.out (Nat.le_refl _) HB0.out).ores
end
end Go.Proofs.YtemnhpdjoimjbaaGreatDoor
