import Derived.Test.YtemnhpdjoimjbaaGreatDoorTw30
namespace Go.Proofs.YtemnhpdjoimjbaaGreatDoor
open Go.RowKit Top
set_option linter.unusedVariables false
variable (Bl : Top.Below)
set_option maxHeartbeats 8000000 in
set_option maxRecDepth 100000 in
theorem call_then3 (hB:Books Bl) (hA:TakeSpec Bl) (B:Nat) (E:Env) (x:Live) (m:Mem) (v:Value) (word u:Nat) (ca:Option Addr) (cn cc:Nat) (L:List Cell) (w:World) (hv:ThenAt w E v .call) (hg:Good E x) (hop:x.call.op=3) (hs:St w B E.A m) (hcl:CallAt w E x) (hc:CellsAt w (.slice ca cn cc) L):
   ∃f ps,v= .func (.func f) #[] ps∧Enters f∧Calls Tryz.prog f (#[.int .i64 word,.int .u64 u,.slice ca cn cc]++ps) w (ORes w B E (thenF Bl E.A.list E.A.room .call word u L x m)):=by
 obtain⟨b0,b1,rfl,h0,h1⟩:=hv
 refine⟨_,_,rfl,enters_of Tryz.func99 (by kernel_rfl) rfl,?_⟩
 show Calls _ _ #[.int .i64 word,.int .u64 u,.slice ca cn cc,P b0,P b1] _ _
 obtain⟨key,hx0,hkey⟩:=id hcl
 obtain⟨ya,yc,rfl⟩: ∃a c',key= .slice a x.call.key.length c':=by obtain⟨_,_,a,c',e,_⟩:=hkey;exact⟨a,c',e⟩
 have hpol0:0≤x.call.pol:=by obtain⟨p,hp,_⟩:=hg.pol;omega
 have Kf:Hid (∀W,CellsAt W (.slice ca cn cc) L→KeyAt W (.slice ya x.call.key.length yc) x.call.key→Calls Tryz.prog 100 #[.slice ca cn cc,.int .i64 x.call.pol,.slice ya x.call.key.length yc] W fun e w'=> ∃ka kn kc ha hn hc,e= .returned (.tuple #[.int .i64 (findAt L x.call.pol x.call.key:Nat),.bool (findThere L x.call.pol x.call.key),.agg (cellA (findCell L x.call.pol x.call.key) (.slice ka kn kc) (.slice ha hn hc))])∧KeyAt W (.slice ka kn kc) (findCell L x.call.pol x.call.key).key∧HeldAt W (.slice ha hn hc) (findCell L x.call.pol x.call.key).held∧CellOk (findCell L x.call.pol x.call.key)∧Below W.heap.size W w'):=fun W h1 h2=>hB.find L _ _ x.call.pol x.call.key W h1 h2 hg.klen hpol0 hg.pol1
 have W0:=Lib.hid (Was.start hs hcl)
 have HB0:=Lib.hid hs.below.2.2.2
 have hb0:=below_allocs [.cells res0 37,.cells #[.int .i64 word,.int .u64 u,.slice ca cn cc] 172] w
 have HX0:=Lib.hid (hx0.below hb0 hx0.lt)
 have HKey:=Lib.hid (hkey.keep (fr0 hb0))
 have H:=Lib.hid (And.intro h0 (And.intro h1 hc))
 have Hg:=Lib.hid hg;have Hb0:=Lib.hid hb0;have Hop:=Lib.hid hop
 clear hop
 clear hs hcl h0 h1 hc hg hx0 hkey hb0 hpol0
 go_enter Tryz.func99,Tryz.ntmps99
 go_wp2_with fail
 refine wp_name (fun y=>Below w.heap.size w y∧Bx y w.heap.size 37 res0∧Bx y (w.heap.size+1) 172 #[.int .i64 word,.int .u64 u,.slice ca cn cc]∧Bx y E.x 110 (callA E x (.slice ya x.call.key.length yc))∧KeyAt y (.slice ya x.call.key.length yc) x.call.key) ⟨Hb0.out,bx_allocs w [_,_] 0 rfl,bx_allocs w [_,_] 1 rfl,HX0.out,HKey.out⟩ ?_
 rintro y ⟨hby,hr,hfd,hxb,hky⟩
 have HBy:=Lib.hid hby;have HR:=Lib.hid hr;have HFd:=Lib.hid hfd;have HXb:=Lib.hid hxb;have HKy:=Lib.hid hky
 have p00:=(H.out.1.keep (fr0 hby) rfl).at0
 clear HX0 HKey Hb0 hby hr hfd hky
 have p0:y.cell? ⟨b0,0,none⟩=some (P E.x):=p00
 have p1:y.cell? ⟨E.x,1,none⟩=some (.int .i64 x.call.pol):=hxb.cell 1
 have p2:y.cell? ⟨E.x,2,none⟩=some (.slice ya x.call.key.length yc):=hxb.cell 2
 have HSa:Hid (∀W:World,Below y.heap.size y W→W.cell? ⟨b0,0,none⟩=some (P E.x)∧W.cell? ⟨E.x,1,none⟩=some (.int .i64 x.call.pol)∧W.cell? ⟨E.x,2,none⟩=some (.slice ya x.call.key.length yc)):=fun W hb=>⟨cell_later hb p0,cell_later hb p1,cell_later hb p2⟩
 clear p0 p1 p2
 clear p00 hxb
 obtain⟨C,hC⟩: ∃C,findCell L x.call.pol x.call.key=C:=⟨_,rfl⟩
 have HC:=Lib.hid hC;clear hC
 go_cut [11,12,13] (fun s11 s12 s13 wx=> ∃q13 ka kn kc ha hn hc,s11= .int .i64 (findAt L x.call.pol x.call.key:Nat)∧s12= .bool (findThere L x.call.pol x.call.key)∧s13=P q13∧Below y.heap.size y wx∧Bx wx q13 100 (cellA (findCell L x.call.pol x.call.key) (.slice ka kn kc) (.slice ha hn hc))∧KeyAt wx (.slice ka kn kc) (findCell L x.call.pol x.call.key).key∧HeldAt wx (.slice ha hn hc) (findCell L x.call.pol x.call.key).held∧CellOk (findCell L x.call.pol x.call.key))
 case first=>
   go_region_held3 (fun w'=>w'.cell? ⟨b0,0,none⟩=some (P E.x)∧w'.cell? ⟨E.x,1,none⟩=some (.int .i64 x.call.pol)∧w'.cell? ⟨E.x,2,none⟩=some (.slice ya x.call.key.length yc)) (first|(refine HSa.out _ ?_;(repeat (first|(with_reducible first|exact RowKit.Below.refl _ _|assumption|refine RowKit.Below.drew ?_)|((with_reducible first|refine belAlloc ?_ ?_|refine belSet ?_ ?_);(first|simp<;>omega|omega))));done)|(refine hSb _ ?_;(repeat (first|(with_reducible first|exact RowKit.Below.refl _ _|assumption|refine RowKit.Below.drew ?_)|((with_reducible first|refine belAlloc ?_ ?_|refine belSet ?_ ?_);(first|simp<;>omega|omega))));done)) ((first|(go_at_call 100;(refine (Kf.out _ (H.out.2.2.keep (fr0 (belTrans HBy.out (by (repeat (first|(with_reducible first|exact RowKit.Below.refl _ _|assumption|refine RowKit.Below.drew ?_)|((with_reducible first|refine belAlloc ?_ ?_|refine belSet ?_ ?_);(first|simp<;>omega|omega)))))))) (HKy.out.keep (fr0 (by (repeat (first|(with_reducible first|exact RowKit.Below.refl _ _|assumption|refine RowKit.Below.drew ?_)|((with_reducible first|refine belAlloc ?_ ?_|refine belSet ?_ ?_);(first|simp<;>omega|omega)))))))).mono ?_);rintro e w2 ⟨ka,kn,kc,ha,hn,hc,rfl,hk1,hh1,hok1,hb⟩;have hbW:=belOfB (u:=y) hb (by (repeat (first|(with_reducible first|exact RowKit.Below.refl _ _|assumption|refine RowKit.Below.drew ?_)|((with_reducible first|refine belAlloc ?_ ?_|refine belSet ?_ ?_);(first|simp<;>omega|omega)))));have hbu:=hbW.trans (hb.mono hbW.size);have hSb: ∀W:World,Below y.heap.size w2 W→W.cell? ⟨b0,0,none⟩=some (P E.x)∧W.cell? ⟨E.x,1,none⟩=some (.int .i64 x.call.pol)∧W.cell? ⟨E.x,2,none⟩=some (.slice ya x.call.key.length yc):=fun W h=>HSa.out W (hbu.trans h);have hsz:=hbu.size;have hfW:=fr0 hb;(try (refine (have z1:Bx w2 (y.heap.size) 100 #[.int .i64 0,.slice none 0 0,.int .i64 0,.slice none 0 0]:= ?_;?_);· (refine Bx.keep hfW ?_ rfl;(repeat (first|with_reducible assumption|((with_reducible apply Bx.newq');(first|simp<;>omega|omega))|(with_reducible first|apply Bx.alc|apply Bx.dr|apply Bx.sc0|apply Bx.set4|apply Bx.set6)|((with_reducible apply Bx.sne);(first|simp<;>omega|omega))));done)));(try have zc1:=cells4 z1);(try have zf1:=free4 z1);(try have zl1:=z1.lt);have hk2:=hk1.keep hfW;have hh2:=hh1.keep hfW;have Hok:=Lib.hid hok1;clear hk1 hh1 hok1;have hbu2:=hbu;clear hfW hbW hb hbu)))
   all_goals
     go_wp2_with fail
     go_meet
     refine⟨_,ka,kn,kc,ha,hn,hc,rfl,rfl,rfl,?_,?_,?_,?_,Hok.out⟩
     · (repeat (first|(with_reducible first|exact RowKit.Below.refl _ _|assumption|refine RowKit.Below.drew ?_)|((with_reducible first|refine belAlloc ?_ ?_|refine belSet ?_ ?_);(first|simp<;>omega|omega))))
     · (repeat (first|with_reducible assumption|((with_reducible apply Bx.newq');(first|simp<;>omega|omega))|(with_reducible first|apply Bx.alc|apply Bx.dr|apply Bx.sc0|apply Bx.set4|apply Bx.set6)|((with_reducible apply Bx.sne);(first|simp<;>omega|omega))))
     · (repeat (first|(with_reducible first|assumption|apply KeyAt.alc|apply KeyAt.dr)|((with_reducible apply KeyAt.s4);(focus ((repeat (first|with_reducible assumption|((with_reducible apply Bx.newq');(first|simp<;>omega|omega))|(with_reducible first|apply Bx.alc|apply Bx.dr|apply Bx.sc0|apply Bx.set4|apply Bx.set6)|((with_reducible apply Bx.sne);(first|simp<;>omega|omega))));done)))))
     · (repeat (first|(with_reducible first|assumption|apply HeldAt.alc|apply HeldAt.dr)|((with_reducible apply HeldAt.s4);(focus ((repeat (first|with_reducible assumption|((with_reducible apply Bx.newq');(first|simp<;>omega|omega))|(with_reducible first|apply Bx.alc|apply Bx.dr|apply Bx.sc0|apply Bx.set4|apply Bx.set6)|((with_reducible apply Bx.sne);(first|simp<;>omega|omega))));done)))|((with_reducible apply HeldAt.s6);(focus ((repeat (first|with_reducible assumption|((with_reducible apply Bx.newq');(first|simp<;>omega|omega))|(with_reducible first|apply Bx.alc|apply Bx.dr|apply Bx.sc0|apply Bx.set4|apply Bx.set6)|((with_reducible apply Bx.sne);(first|simp<;>omega|omega))));done)))))
 case rest=>
   rename World=>zc
   obtain⟨q13,ka,kn,kc,ha,hn,hc,rfl,rfl,rfl,hbx,z13,hkc,hhc,hok⟩:=hcut
   have hbw:Below w.heap.size w zc:=belTrans HBy.out hbx
   have hw:Was w B E x m zc:=W0.out.later hbw
   have hr:=HR.out.below hbx HR.out.lt
   have hfd:=HFd.out.below hbx HFd.out.lt
   have hxb:=HXb.out.below hbx HXb.out.lt
   have d0:=(H.out.1.keep hw.fr rfl).at0
   obtain⟨p0,p1,p2,p3⟩:=cells4 (H.out.2.1.keep hw.fr rfl)
   obtain⟨f0,f1,f2⟩:zc.cell? ⟨w.heap.size+1,0,none⟩=some (.int .i64 word)∧zc.cell? ⟨w.heap.size+1,1,none⟩=some (.int .u64 u)∧zc.cell? ⟨w.heap.size+1,2,none⟩=some (.slice ca cn cc):=⟨hfd.cell 0,hfd.cell 1,hfd.cell 2⟩
   obtain⟨v0,v1,v2,v3⟩:=cells4 z13
   have x0:zc.cell? ⟨E.x,0,none⟩=some (.int .u8 (x.call.op:Nat)):=hxb.cell 0
   have hpk:=findCell_ident H.out.2.2.wf Hg.out.polb Hg.out.pol1 (L:=L) (key:=x.call.key)
   have hput:PutOk ⟨word,u,L⟩ (findAt L x.call.pol x.call.key) (findThere L x.call.pol x.call.key) (findCell L x.call.pol x.call.key):=⟨hok,by show _=findAt L _ _;rw[hpk.1,hpk.2],by show _=findThere L _ _;rw[hpk.1,hpk.2]⟩
   have HW:=Lib.hid hw;have HL0:=Lib.hid hr
   have hcw:=H.out.2.2.keep hw.fr
   have hop:=Hop.out
   rw[hop]at x0
   clear HSa HBy HR HFd HXb HKy Kf hbx hbw hr hfd hxb hpk
   skip
   obtain⟨R,D,hRD⟩: ∃R D,giveF Bl E.pol (findCell L x.call.pol x.call.key) x.call.n=(R,D):=⟨_,_,rfl⟩
   have hD:D.pol=(findCell L x.call.pol x.call.key).pol∧D.key=(findCell L x.call.pol x.call.key).key∧D.tat=(findCell L x.call.pol x.call.key).tat:=by
     have h:(giveF Bl E.pol (findCell L x.call.pol x.call.key) x.call.n).2=D:=by rw[hRD]
     rw[← h]
     unfold giveF
     dsimp only
     split<;>exact⟨rfl,rfl,rfl⟩
   have Ka:Hid (∀W,KeyAt W (.slice ka kn kc) (findCell L x.call.pol x.call.key).key→HeldAt W (.slice ha hn hc) (findCell L x.call.pol x.call.key).held→Calls Tryz.prog 103 #[.agg (polA E.pol),.agg (cellA (findCell L x.call.pol x.call.key) (.slice ka kn kc) (.slice ha hn hc)),.int .i64 x.call.n] W fun e w'=> ∃na nn nc,e= .returned (.tuple #[.agg (replyA R),.agg (cellA D (.slice ka kn kc) (.slice na nn nc))])∧HeldAt w' (.slice na nn nc) D.held∧CellOk D∧Below W.heap.size W w'):=fun W h1 h2=>by
     have k:=hB.release E.pol (findCell L x.call.pol x.call.key) _ _ x.call.n W h1 h2 hok Hg.out.polok (Hg.out.kind2 (.inr hop)) Hg.out.n64.1 Hg.out.n64.2
     rw[hRD]at k
     exact k
   have hx:thenF Bl E.A.list E.A.room .call word u L x m=if R.e≠0 then fin R x m else more (putK E.A.room ⟨word,u,L⟩ (findAt L x.call.pol x.call.key) (findThere L x.call.pol x.call.key) D R x) x m:=by
     unfold thenF
     rw[hop]
     show(if (giveF Bl (polOf E.A.list x) (findCell L x.call.pol x.call.key) x.call.n).1.e≠0 then fin (giveF Bl (polOf E.A.list x) (findCell L x.call.pol x.call.key) x.call.n).1 x m else more (putK E.A.room ⟨word,u,L⟩ (findAt L x.call.pol x.call.key) (findThere L x.call.pol x.call.key) (giveF Bl (polOf E.A.list x) (findCell L x.call.pol x.call.key) x.call.n).2 (giveF Bl (polOf E.A.list x) (findCell L x.call.pol x.call.key) x.call.n).1 x) x m)=_
     simp only[Hg.out.polOf,hRD]
   have Hx:=Lib.hid hx
   have n3:zc.cell? ⟨E.x,3,none⟩=some (.int .i64 x.call.n):=hw.call.c3
   have Hkc:=Lib.hid hkc;have Hhc:=Lib.hid hhc;have Hput:=Lib.hid hput;have HD:=Lib.hid hD;have Hcw:=Lib.hid hcw;have HFd:=Lib.hid (show zc.cell? ⟨w.heap.size+1,0,none⟩=some (.int .i64 word)∧zc.cell? ⟨w.heap.size+1,1,none⟩=some (.int .u64 u)∧zc.cell? ⟨w.heap.size+1,2,none⟩=some (.slice ca cn cc)from⟨f0,f1,f2⟩)
   have Hd0:=Lib.hid d0
   clear hx hop hput hD hcw hkc hhc hok hw hRD
   go_wp2_with fail
   have pp0:zc.cell? ⟨b1,0,none⟩=some (.int .u8 (E.pol.kind:Nat)):=p0
   have pp1:zc.cell? ⟨b1,1,none⟩=some (.int .i64 E.pol.T):=p1
   have pp2:zc.cell? ⟨b1,2,none⟩=some (.int .i64 E.pol.tau):=p2
   have pp3:zc.cell? ⟨b1,3,none⟩=some (.int .i64 E.pol.permits):=p3
   have pp4:zc.cell? ⟨q13,0,none⟩=some (.int .i64 (findCell L x.call.pol x.call.key).pol):=v0
   have pp5:zc.cell? ⟨q13,1,none⟩=some (.slice ka kn kc):=v1
   have pp6:zc.cell? ⟨q13,2,none⟩=some (.int .i64 (findCell L x.call.pol x.call.key).tat):=v2
   have pp7:zc.cell? ⟨q13,3,none⟩=some (.slice ha hn hc):=v3
   have pp8:zc.cell? ⟨b0,0,none⟩=some (P E.x):=d0
   have pp9:zc.cell? ⟨E.x,3,none⟩=some (.int .i64 x.call.n):=n3
   have HSa:Hid (∀W:World,Below zc.heap.size zc W→W.cell? ⟨b1,0,none⟩=some (.int .u8 (E.pol.kind:Nat))∧W.cell? ⟨b1,1,none⟩=some (.int .i64 E.pol.T)∧W.cell? ⟨b1,2,none⟩=some (.int .i64 E.pol.tau)∧W.cell? ⟨b1,3,none⟩=some (.int .i64 E.pol.permits)∧W.cell? ⟨q13,0,none⟩=some (.int .i64 (findCell L x.call.pol x.call.key).pol)∧W.cell? ⟨q13,1,none⟩=some (.slice ka kn kc)∧W.cell? ⟨q13,2,none⟩=some (.int .i64 (findCell L x.call.pol x.call.key).tat)∧W.cell? ⟨q13,3,none⟩=some (.slice ha hn hc)∧W.cell? ⟨b0,0,none⟩=some (P E.x)∧W.cell? ⟨E.x,3,none⟩=some (.int .i64 x.call.n)):=fun W hb=>⟨cell_later hb pp0,cell_later hb pp1,cell_later hb pp2,cell_later hb pp3,cell_later hb pp4,cell_later hb pp5,cell_later hb pp6,cell_later hb pp7,cell_later hb pp8,cell_later hb pp9⟩
   clear pp0 pp1 pp2 pp3 pp4 pp5 pp6 pp7 pp8 pp9 p0 p1 p2 p3 v0 v1 v2 v3 d0 n3 f0 f1 f2 x0
   go_cut [14,15] (fun s14 s15 wx=> ∃q14 q15 na nn nc,s14=P q14∧s15=P q15∧Below zc.heap.size zc wx∧Bx wx q14 35 (replyA R)∧Bx wx q15 100 (cellA D (.slice ka kn kc) (.slice na nn nc))∧HeldAt wx (.slice na nn nc) D.held∧CellOk D)
   case first=>
     go_region_held3 (fun w'=>w'.cell? ⟨b1,0,none⟩=some (.int .u8 (E.pol.kind:Nat))∧w'.cell? ⟨b1,1,none⟩=some (.int .i64 E.pol.T)∧w'.cell? ⟨b1,2,none⟩=some (.int .i64 E.pol.tau)∧w'.cell? ⟨b1,3,none⟩=some (.int .i64 E.pol.permits)∧w'.cell? ⟨q13,0,none⟩=some (.int .i64 (findCell L x.call.pol x.call.key).pol)∧w'.cell? ⟨q13,1,none⟩=some (.slice ka kn kc)∧w'.cell? ⟨q13,2,none⟩=some (.int .i64 (findCell L x.call.pol x.call.key).tat)∧w'.cell? ⟨q13,3,none⟩=some (.slice ha hn hc)∧w'.cell? ⟨b0,0,none⟩=some (P E.x)∧w'.cell? ⟨E.x,3,none⟩=some (.int .i64 x.call.n)) (first|(refine HSa.out _ ?_;(repeat (first|(with_reducible first|exact RowKit.Below.refl _ _|assumption|refine RowKit.Below.drew ?_)|((with_reducible first|refine belAlloc ?_ ?_|refine belSet ?_ ?_);(first|simp<;>omega|omega))));done)|(refine hSb _ ?_;(repeat (first|(with_reducible first|exact RowKit.Below.refl _ _|assumption|refine RowKit.Below.drew ?_)|((with_reducible first|refine belAlloc ?_ ?_|refine belSet ?_ ?_);(first|simp<;>omega|omega))));done)) ((first|(go_at_call 103;(refine (Ka.out _ (Hkc.out.keep (fr0 (by (repeat (first|(with_reducible first|exact RowKit.Below.refl _ _|assumption|refine RowKit.Below.drew ?_)|((with_reducible first|refine belAlloc ?_ ?_|refine belSet ?_ ?_);(first|simp<;>omega|omega))))))) (Hhc.out.keep (fr0 (by (repeat (first|(with_reducible first|exact RowKit.Below.refl _ _|assumption|refine RowKit.Below.drew ?_)|((with_reducible first|refine belAlloc ?_ ?_|refine belSet ?_ ?_);(first|simp<;>omega|omega)))))))).mono ?_);rintro e w2 ⟨na,nn,nc,rfl,hheld,hcok,hb⟩;have hbW:=belOfB (u:=zc) hb (by (repeat (first|(with_reducible first|exact RowKit.Below.refl _ _|assumption|refine RowKit.Below.drew ?_)|((with_reducible first|refine belAlloc ?_ ?_|refine belSet ?_ ?_);(first|simp<;>omega|omega)))));have hbu:=hbW.trans (hb.mono hbW.size);have hSb: ∀W:World,Below zc.heap.size w2 W→W.cell? ⟨b1,0,none⟩=some (.int .u8 (E.pol.kind:Nat))∧W.cell? ⟨b1,1,none⟩=some (.int .i64 E.pol.T)∧W.cell? ⟨b1,2,none⟩=some (.int .i64 E.pol.tau)∧W.cell? ⟨b1,3,none⟩=some (.int .i64 E.pol.permits)∧W.cell? ⟨q13,0,none⟩=some (.int .i64 (findCell L x.call.pol x.call.key).pol)∧W.cell? ⟨q13,1,none⟩=some (.slice ka kn kc)∧W.cell? ⟨q13,2,none⟩=some (.int .i64 (findCell L x.call.pol x.call.key).tat)∧W.cell? ⟨q13,3,none⟩=some (.slice ha hn hc)∧W.cell? ⟨b0,0,none⟩=some (P E.x)∧W.cell? ⟨E.x,3,none⟩=some (.int .i64 x.call.n):=fun W h=>HSa.out W (hbu.trans h);have hsz:=hbu.size;have hfW:=fr0 hb;(try (refine (have z1:Bx w2 (zc.heap.size) 35 #[.int .i64 0,.bool false,.int .i64 0,.int .i64 0,.int .i64 0,.int .i64 0]:= ?_;?_);· (refine Bx.keep hfW ?_ rfl;(repeat (first|with_reducible assumption|((with_reducible apply Bx.newq');(first|simp<;>omega|omega))|(with_reducible first|apply Bx.alc|apply Bx.dr|apply Bx.sc0|apply Bx.set4|apply Bx.set6)|((with_reducible apply Bx.sne);(first|simp<;>omega|omega))));done)));(try have zc1:=cells6 z1);(try have zf1:=free6 z1);(try have zl1:=z1.lt);(try (refine (have z2:Bx w2 (zc.heap.size) 100 #[.int .i64 0,.slice none 0 0,.int .i64 0,.slice none 0 0]:= ?_;?_);· (refine Bx.keep hfW ?_ rfl;(repeat (first|with_reducible assumption|((with_reducible apply Bx.newq');(first|simp<;>omega|omega))|(with_reducible first|apply Bx.alc|apply Bx.dr|apply Bx.sc0|apply Bx.set4|apply Bx.set6)|((with_reducible apply Bx.sne);(first|simp<;>omega|omega))));done)));(try have zc2:=cells4 z2);(try have zf2:=free4 z2);(try have zl2:=z2.lt);(try (refine (have z3:Bx w2 (zc.heap.size+1) 35 #[.int .i64 0,.bool false,.int .i64 0,.int .i64 0,.int .i64 0,.int .i64 0]:= ?_;?_);· (refine Bx.keep hfW ?_ rfl;(repeat (first|with_reducible assumption|((with_reducible apply Bx.newq');(first|simp<;>omega|omega))|(with_reducible first|apply Bx.alc|apply Bx.dr|apply Bx.sc0|apply Bx.set4|apply Bx.set6)|((with_reducible apply Bx.sne);(first|simp<;>omega|omega))));done)));(try have zc3:=cells6 z3);(try have zf3:=free6 z3);(try have zl3:=z3.lt);(try (refine (have z4:Bx w2 (zc.heap.size+1) 100 #[.int .i64 0,.slice none 0 0,.int .i64 0,.slice none 0 0]:= ?_;?_);· (refine Bx.keep hfW ?_ rfl;(repeat (first|with_reducible assumption|((with_reducible apply Bx.newq');(first|simp<;>omega|omega))|(with_reducible first|apply Bx.alc|apply Bx.dr|apply Bx.sc0|apply Bx.set4|apply Bx.set6)|((with_reducible apply Bx.sne);(first|simp<;>omega|omega))));done)));(try have zc4:=cells4 z4);(try have zf4:=free4 z4);(try have zl4:=z4.lt);have Hcok:=Lib.hid hcok;clear hcok;have hbu2:=hbu;clear hfW hbW hb hbu)))
     all_goals
       go_wp2_with fail
       go_meet
       refine⟨_,_,na,nn,nc,rfl,rfl,?_,?_,?_,?_,Hcok.out⟩
       · (repeat (first|(with_reducible first|exact RowKit.Below.refl _ _|assumption|refine RowKit.Below.drew ?_)|((with_reducible first|refine belAlloc ?_ ?_|refine belSet ?_ ?_);(first|simp<;>omega|omega))))
       · (repeat (first|with_reducible assumption|((with_reducible apply Bx.newq');(first|simp<;>omega|omega))|(with_reducible first|apply Bx.alc|apply Bx.dr|apply Bx.sc0|apply Bx.set4|apply Bx.set6)|((with_reducible apply Bx.sne);(first|simp<;>omega|omega))))
       · (repeat (first|with_reducible assumption|((with_reducible apply Bx.newq');(first|simp<;>omega|omega))|(with_reducible first|apply Bx.alc|apply Bx.dr|apply Bx.sc0|apply Bx.set4|apply Bx.set6)|((with_reducible apply Bx.sne);(first|simp<;>omega|omega))))
       · (repeat (first|(with_reducible first|assumption|apply HeldAt.alc|apply HeldAt.dr)|((with_reducible apply HeldAt.s4);(focus ((repeat (first|with_reducible assumption|((with_reducible apply Bx.newq');(first|simp<;>omega|omega))|(with_reducible first|apply Bx.alc|apply Bx.dr|apply Bx.sc0|apply Bx.set4|apply Bx.set6)|((with_reducible apply Bx.sne);(first|simp<;>omega|omega))));done)))|((with_reducible apply HeldAt.s6);(focus ((repeat (first|with_reducible assumption|((with_reducible apply Bx.newq');(first|simp<;>omega|omega))|(with_reducible first|apply Bx.alc|apply Bx.dr|apply Bx.sc0|apply Bx.set4|apply Bx.set6)|((with_reducible apply Bx.sne);(first|simp<;>omega|omega))));done)))))
   case rest=>
     obtain⟨q14,q15,na,nn,nc,rfl,rfl,hbx,z14,z15,hheld,hcok⟩:=hcut
     have hw2:=HW.out.later hbx
     have hr2:=HL0.out.below hbx HL0.out.lt
     obtain⟨y0,y1,y2,y3,y4,y5⟩:=cells6 z14
     obtain⟨k0,k1,k2,k3⟩:=cells4 z15
     have dd0:=cell_later hbx Hd0.out
     have ff0:=cell_later hbx HFd.out.1
     have ff1:=cell_later hbx HFd.out.2.1
     have ff2:=cell_later hbx HFd.out.2.2
     clear HW HL0
     have HW:=Lib.hid hw2;have HL0:=Lib.hid hr2
     have hkd:KeyAt wc (.slice ka kn kc) D.key:=by rw[HD.out.2.1];exact Hkc.out.keep (fr0 hbx)
     have hpo:PutOk ⟨word,u,L⟩ (findAt L x.call.pol x.call.key) (findThere L x.call.pol x.call.key) D:=⟨hcok,by rw[HD.out.1,HD.out.2.1];exact Hput.out.place,by rw[HD.out.1,HD.out.2.1];exact Hput.out.there_⟩
     have Kp:=Lib.hid (put_any B E x m ⟨word,u,L⟩ _ _ D R ca cn cc _ _ wc hw2.st hw2.call (Hcw.out.keep (fr0 hbx)) hkd hheld hpo)
     clear HSa Ka hbx z14 z15 hheld hcok hw2 hr2 hkd hpo HD Hput Hkc Hhc Hcw HFd Hd0
     by_cases hre:R.e=0
     · have hx:=Hx.out
       rw[if_neg (fun h=>h hre)]at hx
       clear Hx
       have Hx:=Lib.hid hx
       clear hx
       obtain⟨re,rg,rl,rwt,rs,rn⟩:=R
       obtain rfl:re=0:=hre
       go_wp2_with (first|(go_at_call 104;(refine (Kp.out).mono ?_);rintro e w2 ⟨v,rfl,hk,hb⟩;have hr2:=HL0.out.keep (fr0 hb) rfl;have hw2:=HW.out.later hb;have Hk:=Lib.hid hk;have Hr2:=Lib.hid hr2;have HW2:=Lib.hid hw2;clear hk hr2 hw2 hb)|(go_at_call 63;(refine (con_any _ _).mono ?_);rintro e w3 ⟨rfl,hb⟩;have hr3:=Hr2.out.keep (fr0 hb) rfl;have hw3:=HW2.out.later hb;have hk3:=Hk.out.keep (fr0 hb);obtain⟨r0,r1,r2,r3,r4,r5,r6⟩:=res_cells hr3;obtain⟨f0,f1,f2,f3,f4,f5,f6⟩:=res_free hr3;have Hr3:=Lib.hid hr3;have HW3:=Lib.hid hw3;have Hk3:=Lib.hid hk3;clear hr3 hw3 hk3 hb))
       rw[Hx.out]
       exact bodyPost_ret (v:= .tuple #[v,.agg (resA false (err 0))]) (by simp [results,Tryz.results99,go_sem,r0,r1,r2,r3,r4,r5,r6]) rfl ((Ans.more HW3.out Hk3.out).store Hr3.out (Nat.le_refl _) HB0.out).ores
     · have hx:=Hx.out
       rw[if_pos hre]at hx
       clear Hx
       have Hx:=Lib.hid hx
       clear hx
       go_wp2_with (go_at_call 87;(refine (cend_any R _).mono ?_);rintro e w3 ⟨rfl,hb⟩;have hw3:=HW.out.later hb;have hr3:=HL0.out.keep (fr0 hb) rfl;obtain⟨r0,r1,r2,r3,r4,r5,r6⟩:=res_cells hr3;obtain⟨f0,f1,f2,f3,f4,f5,f6⟩:=res_free hr3;have Hr3:=Lib.hid hr3;have HW3:=Lib.hid hw3;clear hr3 hw3 hb)
       rw[Hx.out]
       exact bodyPost_ret (v:= .tuple #[.nilFunc,.agg (resA true R)]) (by simp [results,Tryz.results99,go_sem,r0,r1,r2,r3,r4,r5,r6]) rfl ((Ans.fin HW3.out).store Hr3.out (Nat.le_refl _) HB0.out).ores
end Go.Proofs.YtemnhpdjoimjbaaGreatDoor
