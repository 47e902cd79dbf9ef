import Derived.Test.YtemnhpdjoimjbaaGreatDoorTw30
import Derived.Test.YtemnhpdjoimjbaaGreatDoorTw31
import Derived.Test.YtemnhpdjoimjbaaGreatDoorTw32
namespace Go.Proofs.YtemnhpdjoimjbaaGreatDoor
section
open Go.RowKit Top
set_option linter.unusedVariables false
variable (Bl : Top.Below)
set_option maxHeartbeats 8000000 in
set_option maxRecDepth 100000 in
theorem call_then4 (hB:Books Bl) (hA:TakeSpec Bl) (B:Nat) (E:Env) (x:Live) (m:Mem) (v:Value) (word u:Nat) (ca:Option Addr) (cn cc:Nat) (L:List Cell) (w:World) (hv:ThenAt w E v .call) (hg:Good E x) (hop:x.call.op=4) (hs:St w B E.A m) (hcl:CallAt w E x) (hc:CellsAt w (.slice ca cn cc) L):
   ∃f ps,v= .func (.func f) #[] ps∧Enters f∧Calls Tryz.prog f (#[.int .i64 word,.int .u64 u,.slice ca cn cc]++ps) w (ORes w B E (thenF Bl E.A.list E.A.room .call word u L x m)):=by
 obtain⟨b0,b1,rfl,h0,h1⟩:=hv
 refine⟨_,_,rfl,enters_of Tryz.func99 (by kernel_rfl) rfl,?_⟩
 show Calls _ _ #[.int .i64 word,.int .u64 u,.slice ca cn cc,P b0,P b1] _ _
 obtain⟨key,hx0,hkey⟩:=id hcl
 obtain⟨ya,yc,rfl⟩: ∃a c',key= .slice a x.call.key.length c':=by obtain⟨_,_,a,c',e,_⟩:=hkey;exact⟨a,c',e⟩
 have hpol0:0≤x.call.pol:=by obtain⟨p,hp,_⟩:=hg.pol;omega
 have Kf:Hid (∀W,CellsAt W (.slice ca cn cc) L→KeyAt W (.slice ya x.call.key.length yc) x.call.key→Calls Tryz.prog 100 #[.slice ca cn cc,.int .i64 x.call.pol,.slice ya x.call.key.length yc] W fun e w'=> ∃ka kn kc ha hn hc,e= .returned (.tuple #[.int .i64 (findAt L x.call.pol x.call.key:Nat),.bool (findThere L x.call.pol x.call.key),.agg (cellA (findCell L x.call.pol x.call.key) (.slice ka kn kc) (.slice ha hn hc))])∧KeyAt W (.slice ka kn kc) (findCell L x.call.pol x.call.key).key∧HeldAt W (.slice ha hn hc) (findCell L x.call.pol x.call.key).held∧CellOk (findCell L x.call.pol x.call.key)∧Below W.heap.size W w'):=fun W h1 h2=>hB.find L _ _ x.call.pol x.call.key W h1 h2 hg.klen hpol0 hg.pol1
 have W0:=Lib.hid (Was.start hs hcl)
 have HB0:=Lib.hid hs.below.2.2.2
 have hb0:=below_allocs [.cells res0 37,.cells #[.int .i64 word,.int .u64 u,.slice ca cn cc] 172] w
 have HX0:=Lib.hid (hx0.below hb0 hx0.lt)
 have HKey:=Lib.hid (hkey.keep (fr0 hb0))
 have H:=Lib.hid (And.intro h0 (And.intro h1 hc))
 have Hg:=Lib.hid hg;have Hb0:=Lib.hid hb0;have Hop:=Lib.hid hop
 clear hop
 clear hs hcl h0 h1 hc hg hx0 hkey hb0 hpol0
 go_enter Tryz.func99,Tryz.ntmps99
 go_wp2_with fail
 refine wp_name (fun y=>Below w.heap.size w y∧Bx y w.heap.size 37 res0∧Bx y (w.heap.size+1) 172 #[.int .i64 word,.int .u64 u,.slice ca cn cc]∧Bx y E.x 110 (callA E x (.slice ya x.call.key.length yc))∧KeyAt y (.slice ya x.call.key.length yc) x.call.key) ⟨Hb0.out,bx_allocs w [_,_] 0 rfl,bx_allocs w [_,_] 1 rfl,HX0.out,HKey.out⟩ ?_
 rintro y ⟨hby,hr,hfd,hxb,hky⟩
 have HBy:=Lib.hid hby;have HR:=Lib.hid hr;have HFd:=Lib.hid hfd;have HXb:=Lib.hid hxb;have HKy:=Lib.hid hky
 have p00:=(H.out.1.keep (fr0 hby) rfl).at0
 clear HX0 HKey Hb0 hby hr hfd hky
 have p0:y.cell? ⟨b0,0,none⟩=some (P E.x):=p00
 have p1:y.cell? ⟨E.x,1,none⟩=some (.int .i64 x.call.pol):=hxb.cell 1
 have p2:y.cell? ⟨E.x,2,none⟩=some (.slice ya x.call.key.length yc):=hxb.cell 2
 have HSa:Hid (∀W:World,Below y.heap.size y W→W.cell? ⟨b0,0,none⟩=some (P E.x)∧W.cell? ⟨E.x,1,none⟩=some (.int .i64 x.call.pol)∧W.cell? ⟨E.x,2,none⟩=some (.slice ya x.call.key.length yc)):=fun W hb=>⟨cell_later hb p0,cell_later hb p1,cell_later hb p2⟩
 clear p0 p1 p2
 clear p00 hxb
 obtain⟨C,hC⟩: ∃C,findCell L x.call.pol x.call.key=C:=⟨_,rfl⟩
 have HC:=Lib.hid hC;clear hC
 go_cut [11,12,13] (fun s11 s12 s13 wx=> ∃q13 ka kn kc ha hn hc,s11= .int .i64 (findAt L x.call.pol x.call.key:Nat)∧s12= .bool (findThere L x.call.pol x.call.key)∧s13=P q13∧Below y.heap.size y wx∧Bx wx q13 100 (cellA (findCell L x.call.pol x.call.key) (.slice ka kn kc) (.slice ha hn hc))∧KeyAt wx (.slice ka kn kc) (findCell L x.call.pol x.call.key).key∧HeldAt wx (.slice ha hn hc) (findCell L x.call.pol x.call.key).held∧CellOk (findCell L x.call.pol x.call.key))
 case first=>
   go_region_held3 (fun w'=>w'.cell? ⟨b0,0,none⟩=some (P E.x)∧w'.cell? ⟨E.x,1,none⟩=some (.int .i64 x.call.pol)∧w'.cell? ⟨E.x,2,none⟩=some (.slice ya x.call.key.length yc)) (first|(refine HSa.out _ ?_;(repeat (first|(with_reducible first|exact RowKit.Below.refl _ _|assumption|refine RowKit.Below.drew ?_)|((with_reducible first|refine belAlloc ?_ ?_|refine belSet ?_ ?_);(first|simp<;>omega|omega))));done)|(refine hSb _ ?_;(repeat (first|(with_reducible first|exact RowKit.Below.refl _ _|assumption|refine RowKit.Below.drew ?_)|((with_reducible first|refine belAlloc ?_ ?_|refine belSet ?_ ?_);(first|simp<;>omega|omega))));done)) ((first|(go_at_call 100;(refine (Kf.out _ (H.out.2.2.keep (fr0 (belTrans HBy.out (by (repeat (first|(with_reducible first|exact RowKit.Below.refl _ _|assumption|refine RowKit.Below.drew ?_)|((with_reducible first|refine belAlloc ?_ ?_|refine belSet ?_ ?_);(first|simp<;>omega|omega)))))))) (HKy.out.keep (fr0 (by (repeat (first|(with_reducible first|exact RowKit.Below.refl _ _|assumption|refine RowKit.Below.drew ?_)|((with_reducible first|refine belAlloc ?_ ?_|refine belSet ?_ ?_);(first|simp<;>omega|omega)))))))).mono ?_);rintro e w2 ⟨ka,kn,kc,ha,hn,hc,rfl,hk1,hh1,hok1,hb⟩;have hbW:=belOfB (u:=y) hb (by (repeat (first|(with_reducible first|exact RowKit.Below.refl _ _|assumption|refine RowKit.Below.drew ?_)|((with_reducible first|refine belAlloc ?_ ?_|refine belSet ?_ ?_);(first|simp<;>omega|omega)))));have hbu:=hbW.trans (hb.mono hbW.size);have hSb: ∀W:World,Below y.heap.size w2 W→W.cell? ⟨b0,0,none⟩=some (P E.x)∧W.cell? ⟨E.x,1,none⟩=some (.int .i64 x.call.pol)∧W.cell? ⟨E.x,2,none⟩=some (.slice ya x.call.key.length yc):=fun W h=>HSa.out W (hbu.trans h);have hsz:=hbu.size;have hfW:=fr0 hb;(try (refine (have z1:Bx w2 (y.heap.size) 100 #[.int .i64 0,.slice none 0 0,.int .i64 0,.slice none 0 0]:= ?_;?_);· (refine Bx.keep hfW ?_ rfl;(repeat (first|with_reducible assumption|((with_reducible apply Bx.newq');(first|simp<;>omega|omega))|(with_reducible first|apply Bx.alc|apply Bx.dr|apply Bx.sc0|apply Bx.set4|apply Bx.set6)|((with_reducible apply Bx.sne);(first|simp<;>omega|omega))));done)));(try have zc1:=cells4 z1);(try have zf1:=free4 z1);(try have zl1:=z1.lt);have hk2:=hk1.keep hfW;have hh2:=hh1.keep hfW;have Hok:=Lib.hid hok1;clear hk1 hh1 hok1;have hbu2:=hbu;clear hfW hbW hb hbu)))
   all_goals
     go_wp2_with fail
     go_meet
     refine⟨_,ka,kn,kc,ha,hn,hc,rfl,rfl,rfl,?_,?_,?_,?_,Hok.out⟩
     · (repeat (first|(with_reducible first|exact RowKit.Below.refl _ _|assumption|refine RowKit.Below.drew ?_)|((with_reducible first|refine belAlloc ?_ ?_|refine belSet ?_ ?_);(first|simp<;>omega|omega))))
     · (repeat (first|with_reducible assumption|((with_reducible apply Bx.newq');(first|simp<;>omega|omega))|(with_reducible first|apply Bx.alc|apply Bx.dr|apply Bx.sc0|apply Bx.set4|apply Bx.set6)|((with_reducible apply Bx.sne);(first|simp<;>omega|omega))))
     · (repeat (first|(with_reducible first|assumption|apply KeyAt.alc|apply KeyAt.dr)|((with_reducible apply KeyAt.s4);(focus ((repeat (first|with_reducible assumption|((with_reducible apply Bx.newq');(first|simp<;>omega|omega))|(with_reducible first|apply Bx.alc|apply Bx.dr|apply Bx.sc0|apply Bx.set4|apply Bx.set6)|((with_reducible apply Bx.sne);(first|simp<;>omega|omega))));done)))))
     · (repeat (first|(with_reducible first|assumption|apply HeldAt.alc|apply HeldAt.dr)|((with_reducible apply HeldAt.s4);(focus ((repeat (first|with_reducible assumption|((with_reducible apply Bx.newq');(first|simp<;>omega|omega))|(with_reducible first|apply Bx.alc|apply Bx.dr|apply Bx.sc0|apply Bx.set4|apply Bx.set6)|((with_reducible apply Bx.sne);(first|simp<;>omega|omega))));done)))|((with_reducible apply HeldAt.s6);(focus ((repeat (first|with_reducible assumption|((with_reducible apply Bx.newq');(first|simp<;>omega|omega))|(with_reducible first|apply Bx.alc|apply Bx.dr|apply Bx.sc0|apply Bx.set4|apply Bx.set6)|((with_reducible apply Bx.sne);(first|simp<;>omega|omega))));done)))))
 case rest=>
   rename World=>zc
   obtain⟨q13,ka,kn,kc,ha,hn,hc,rfl,rfl,rfl,hbx,z13,hkc,hhc,hok⟩:=hcut
   have hbw:Below w.heap.size w zc:=belTrans HBy.out hbx
   have hw:Was w B E x m zc:=W0.out.later hbw
   have hr:=HR.out.below hbx HR.out.lt
   have hfd:=HFd.out.below hbx HFd.out.lt
   have hxb:=HXb.out.below hbx HXb.out.lt
   have d0:=(H.out.1.keep hw.fr rfl).at0
   obtain⟨p0,p1,p2,p3⟩:=cells4 (H.out.2.1.keep hw.fr rfl)
   obtain⟨f0,f1,f2⟩:zc.cell? ⟨w.heap.size+1,0,none⟩=some (.int .i64 word)∧zc.cell? ⟨w.heap.size+1,1,none⟩=some (.int .u64 u)∧zc.cell? ⟨w.heap.size+1,2,none⟩=some (.slice ca cn cc):=⟨hfd.cell 0,hfd.cell 1,hfd.cell 2⟩
   obtain⟨v0,v1,v2,v3⟩:=cells4 z13
   have x0:zc.cell? ⟨E.x,0,none⟩=some (.int .u8 (x.call.op:Nat)):=hxb.cell 0
   have hpk:=findCell_ident H.out.2.2.wf Hg.out.polb Hg.out.pol1 (L:=L) (key:=x.call.key)
   have hput:PutOk ⟨word,u,L⟩ (findAt L x.call.pol x.call.key) (findThere L x.call.pol x.call.key) (findCell L x.call.pol x.call.key):=⟨hok,by show _=findAt L _ _;rw[hpk.1,hpk.2],by show _=findThere L _ _;rw[hpk.1,hpk.2]⟩
   have HW:=Lib.hid hw;have HL0:=Lib.hid hr
   have hcw:=H.out.2.2.keep hw.fr
   have hop:=Hop.out
   rw[hop]at x0
   clear HSa HBy HR HFd HXb HKy Kf hbx hbw hr hfd hxb hpk
   skip
   by_cases hkd:E.pol.kind=2
   · have hx:thenF Bl E.A.list E.A.room .call word u L x m=fin (peekF Bl E.pol (findCell L x.call.pol x.call.key) 0) x m:=by
       unfold thenF
       rw[hop]
       show(if (polOf E.A.list x).kind=2 then fin (peekF Bl (polOf E.A.list x) (findCell L x.call.pol x.call.key) 0) x m else _)=_
       rw[Hg.out.polOf,if_pos hkd]
     have Hx:=Lib.hid hx
     have Kp:Hid (Calls Tryz.prog 105 #[.agg #[.int .u8 2,.int .i64 E.pol.T,.int .i64 E.pol.tau,.int .i64 E.pol.permits],.agg (cellA (findCell L x.call.pol x.call.key) (.slice ka kn kc) (.slice ha hn hc)),.int .i64 0] zc fun e w'=>e= .returned (.agg (replyA (peekF Bl E.pol (findCell L x.call.pol x.call.key) 0)))∧Below zc.heap.size zc w'):=by
       have k:=hB.peek E.pol (findCell L x.call.pol x.call.key) _ _ 0 zc hkc hhc hok Hg.out.polok (by decide) (by decide)
       have e:polA E.pol= #[.int .u8 2,.int .i64 E.pol.T,.int .i64 E.pol.tau,.int .i64 E.pol.permits]:=by simp [polA,hkd]
       rw[e]at k
       exact k
     have p0':zc.cell? ⟨b1,0,none⟩=some (.int .u8 2):=by rw[p0,hkd];rfl
     clear p0
     clear hx hop hput hcw hkc hhc hok hw z13 hkd
     go_wp2_with (first|(go_at_call 105;(refine Kp.out.mono ?_);rintro e w2 ⟨rfl,hb⟩;have hr2:=HL0.out.keep (fr0 hb) rfl;have hw2:=HW.out.later hb;have HRa:=Lib.hid hr2;have HWa:=Lib.hid hw2;clear hr2 hw2 hb)|(go_at_call 87;(refine (cend_any (peekF Bl E.pol (findCell L x.call.pol x.call.key) 0) _).mono ?_);rintro e w3 ⟨rfl,hb⟩;have hw3:=HWa.out.later hb;have hr3:=HRa.out.keep (fr0 hb) rfl;obtain⟨r0,r1,r2,r3,r4,r5,r6⟩:=res_cells hr3;obtain⟨f0,f1,f2,f3,f4,f5,f6⟩:=res_free hr3;have Hr3:=Lib.hid hr3;have HW3:=Lib.hid hw3;clear hr3 hw3 hb))
     rw[Hx.out]
     exact bodyPost_ret (v:= .tuple #[.nilFunc,.agg (resA true (peekF Bl E.pol (findCell L x.call.pol x.call.key) 0))]) (by simp [results,Tryz.results99,go_sem,r0,r1,r2,r3,r4,r5,r6]) rfl ((Ans.fin HW3.out).store Hr3.out (Nat.le_refl _) HB0.out).ores
   · have hx:thenF Bl E.A.list E.A.room .call word u L x m=more (.peek (findCell L x.call.pol x.call.key)) x m:=by
       unfold thenF
       rw[hop]
       show(if (polOf E.A.list x).kind=2 then _ else more (.peek (findCell L x.call.pol x.call.key)) x m)=_
       rw[Hg.out.polOf,if_neg hkd]
     have Hx:=Lib.hid hx
     have hk1:E.pol.kind=1:=by rcases Hg.out.polok with h|h;exact h.1;exact absurd h.1 hkd
     have p0':zc.cell? ⟨b1,0,none⟩=some (.int .u8 1):=by rw[p0,hk1];rfl
     clear p0
     have Hk0:Hid (KontAt zc E (.func (.func 106) #[] #[P b1,P q13,P b0]) (.peek (findCell L x.call.pol x.call.key))):=⟨b1,q13,_,_,b0,rfl,H.out.2.1.keep hw.fr rfl,z13,hkc,hhc,H.out.1.keep hw.fr rfl,hok⟩
     clear hx hop hput hcw hkc hhc hok hw z13 hkd hk1
     go_wp2_with (go_at_call 63;(refine (con_any _ _).mono ?_);rintro e w3 ⟨rfl,hb⟩;have hr3:=HL0.out.keep (fr0 hb) rfl;have hw3:=HW.out.later hb;have hk3:=Hk0.out.keep (fr0 hb);obtain⟨r0,r1,r2,r3,r4,r5,r6⟩:=res_cells hr3;obtain⟨f0,f1,f2,f3,f4,f5,f6⟩:=res_free hr3;have Hr3:=Lib.hid hr3;have HW3:=Lib.hid hw3;have Hk3:=Lib.hid hk3;clear hr3 hw3 hk3 hb)
     rw[Hx.out]
     exact bodyPost_ret (v:= .tuple #[.func (.func 106) #[] #[P b1,P q13,P b0],.agg (resA false (err 0))]) (by simp [results,Tryz.results99,go_sem,r0,r1,r2,r3,r4,r5,r6]) rfl ((Ans.more HW3.out Hk3.out).store Hr3.out (Nat.le_refl _) HB0.out).ores
end
section
open Go.RowKit Top
set_option linter.unusedVariables false
variable (Bl : Top.Below)
theorem CellsAt.len {w:World} {a:Option Addr} {n c:Nat} {L:List Cell} (h:CellsAt w (.slice a n c) L):n=L.length:=by
 obtain⟨xs,h1,⟨_,a',c',e,_⟩,_⟩:=h
 injection e with e1 e2 e3
 rw[e2,←h1,List.length_map]
set_option maxHeartbeats 1000000 in
set_option maxRecDepth 100000 in
theorem evict_then (B:Nat) (E:Env) (x:Live) (m:Mem) (j shards:Nat) (gone:Int) (v:Value) (word u:Nat) (ca:Option Addr) (cn cc:Nat) (L:List Cell) (w:World) (hv:ThenAt w E v (.evict j shards gone)) (hj:j<65535) (hsh:shards<65536) (hs:St w B E.A m) (hcl:CallAt w E x) (hc:CellsAt w (.slice ca cn cc) L):
   ∃f ps,v= .func (.func f) #[] ps∧Enters f∧Calls Tryz.prog f (#[.int .i64 word,.int .u64 u,.slice ca cn cc]++ps) w (ORes w B E (thenF Bl E.A.list E.A.room (.evict j shards gone) word u L x m)):=by
 obtain⟨b0,fv,b1,b2,rfl,h0,hfv,h1,h2⟩:=hv
 refine⟨_,_,rfl,enters_of Tryz.func89 (by kernel_rfl) rfl,?_⟩
 show Calls _ _ #[.int .i64 word,.int .u64 u,.slice ca cn cc,P b0,P b1,P b2] _ _
 have W0:=Lib.hid (Was.start hs hcl)
 have HB0:=Lib.hid hs.below.2.2.2
 have hlen:=hc.len
 have HW:Hid (Was w B E x m ((((w.alloc (.cells #[.int .i64 word] 3)).alloc (.cells #[.int .u64 u] 61)).alloc (.cells #[.slice ca cn cc] 64)).alloc (.cells res0 37))):=W0.out.later (below_allocs [_,_,_,_] w)
 have HL0:Hid (Bx ((((w.alloc (.cells #[.int .i64 word] 3)).alloc (.cells #[.int .u64 u] 61)).alloc (.cells #[.slice ca cn cc] 64)).alloc (.cells res0 37)) (w.heap.size+3) 37 res0):=bx_allocs w [_,_,_,_] 3 rfl
 have c0:=h0.at0;have l0:=h0.lt;have c1:=h1.at0;have l1:=h1.lt
 have l01:b0<w.heap.size+1:=by omega
 have l11:b1<w.heap.size+1:=by omega
 have l02:b0<w.heap.size+1+1:=by omega
 have l12:b1<w.heap.size+1+1:=by omega
 have l03:b0<w.heap.size+1+1+1:=by omega
 have l13:b1<w.heap.size+1+1+1:=by omega
 have l04:b0<w.heap.size+1+1+1+1:=by omega
 have l14:b1<w.heap.size+1+1+1+1:=by omega
 by_cases hp:L=[]
 · subst hp
   have hx:thenF Bl E.A.list E.A.room (.evict j shards gone) word u [] x m=further j shards gone x m:=rfl
   have Hx:=Lib.hid hx
   have hcn0:(cn:Int)=0:=by have:cn=0:=hlen;omega
   obtain⟨f,ps,rfl,hef,kt⟩:=further_any B E x m j shards gone fv ((((w.alloc (.cells #[.int .i64 word] 3)).alloc (.cells #[.int .u64 u] 61)).alloc (.cells #[.slice ca cn cc] 64)).alloc (.cells res0 37)) (hfv.keep HW.out.fr) HW.out.st HW.out.call hj hsh
   unfold Enters at hef
   have Kt:=Lib.hid kt
   clear h0 h1 h2 hfv hs hcl hc kt hx hj hsh hlen
   go_enter Tryz.func89,Tryz.ntmps89
   go_wp2_with (go_at_fn f;(refine (Kt.out).mono ?_);rintro e w3 h;obtain⟨v,d,a,rfl,ha⟩:=Ans.of h;have hr3:=HL0.out.keep ha.fr rfl;obtain⟨r0,r1,r2,r3,r4,r5,r6⟩:=res_cells hr3;obtain⟨f0,f1,f2,f3,f4,f5,f6⟩:=res_free hr3;have Hr3:=Lib.hid hr3;have Ha:=Lib.hid ha;clear hr3 ha h)
   rw[Hx.out]
   exact bodyPost_ret (v:= .tuple #[v,.agg (resA d a)]) (by simp [results,Tryz.results89,go_sem,r0,r1,r2,r3,r4,r5,r6]) rfl ((Ha.out.pre HW.out.fr).store Hr3.out (Nat.le_add_right _ _) HB0.out).ores
 · have hx:thenF Bl E.A.list E.A.room (.evict j shards gone) word u L x m=more (.evictClock j shards gone word u L) x m:=by
     cases L with
     |nil=>exact absurd rfl hp
     |cons c L=>rfl
   have Hx:=Lib.hid hx
   have hcn: ¬cn=0:=by
     intro e
     rw[e]at hlen
     exact hp (List.length_eq_zero_iff.1 hlen.symm)
   have hcn': ¬(cn:Int)=0:=by omega
   have Hk0:Hid (KontAt ((((w.alloc (.cells #[.int .i64 word] 3)).alloc (.cells #[.int .u64 u] 61)).alloc (.cells #[.slice ca cn cc] 64)).alloc (.cells res0 37)) E (.func (.func 90) #[] #[P b2,P (w.heap.size+2),P b0,P b1,P w.heap.size,P (w.heap.size+1)]) (.evictClock j shards gone word u L)):=⟨b2,w.heap.size+2,_,b0,_,b1,w.heap.size,w.heap.size+1,rfl,h2.keep HW.out.fr rfl,bx_allocs w [_,_,_,_] 2 rfl,hc.keep HW.out.fr,h0.keep HW.out.fr rfl,hfv.keep HW.out.fr,h1.keep HW.out.fr rfl,bx_allocs w [_,_,_,_] 0 rfl,bx_allocs w [_,_,_,_] 1 rfl⟩
   clear h0 h1 h2 hfv hs hcl hc hx hj hsh hlen hp hcn
   go_enter Tryz.func89,Tryz.ntmps89
   go_wp2_with (go_at_call 63;(refine (con_any _ _).mono ?_);rintro e w3 ⟨rfl,hb⟩;have hr3:=HL0.out.keep (fr0 hb) rfl;have hw3:=HW.out.later hb;have hk3:=Hk0.out.keep (fr0 hb);obtain⟨r0,r1,r2,r3,r4,r5,r6⟩:=res_cells hr3;obtain⟨f0,f1,f2,f3,f4,f5,f6⟩:=res_free hr3;have Hr3:=Lib.hid hr3;have HW3:=Lib.hid hw3;have Hk3:=Lib.hid hk3;clear hr3 hw3 hk3 hb)
   rw[Hx.out]
   exact bodyPost_ret (v:= .tuple #[.func (.func 90) #[] #[P b2,P (w.heap.size+2),P b0,P b1,P w.heap.size,P (w.heap.size+1)],.agg (resA false (err 0))]) (by simp [results,Tryz.results89,go_sem,r0,r1,r2,r3,r4,r5,r6]) rfl ((Ans.more HW3.out Hk3.out).store Hr3.out (Nat.le_add_right _ _) HB0.out).ores
theorem call_then (hB:Books Bl) (hA:TakeSpec Bl) (B:Nat) (E:Env) (x:Live) (m:Mem) (v:Value) (word u:Nat) (ca:Option Addr) (cn cc:Nat) (L:List Cell) (w:World) (hv:ThenAt w E v .call) (hg:Good E x) (hs:St w B E.A m) (hcl:CallAt w E x) (hc:CellsAt w (.slice ca cn cc) L):
   ∃f ps,v= .func (.func f) #[] ps∧Enters f∧Calls Tryz.prog f (#[.int .i64 word,.int .u64 u,.slice ca cn cc]++ps) w (ORes w B E (thenF Bl E.A.list E.A.room .call word u L x m)):=by
 have h:x.call.op=1∨x.call.op=2∨x.call.op=3∨x.call.op=4:=by have:=hg.op0;have:=hg.op1;omega
 rcases h with h|h|h|h
 · exact call_then1 Bl hB hA B E x m v word u ca cn cc L w hv hg h hs hcl hc
 · exact call_then2 Bl hB hA B E x m v word u ca cn cc L w hv hg h hs hcl hc
 · exact call_then3 Bl hB hA B E x m v word u ca cn cc L w hv hg h hs hcl hc
 · exact call_then4 Bl hB hA B E x m v word u ca cn cc L w hv hg h hs hcl hc
theorem then_spec (hB:Books Bl):ThenSpec Bl:=by
 intro B E x m t v word u ca cn cc L w hv hg hs hcl hc _ _
 cases t with
 |call=>exact call_then Bl hB (take_spec Bl hB) B E x m v word u ca cn cc L w hv hg hs hcl hc
 |evict j shards gone=>exact evict_then Bl B E x m j shards gone v word u ca cn cc L w hv hg.1 hg.2 hs hcl hc
end
section
open Go.RowKit Top
set_option linter.unusedVariables false
variable (Bl : Top.Below)
set_option maxHeartbeats 1000000 in
set_option maxRecDepth 100000 in
theorem step_evictSwap (B:Nat) (E:Env) (x:Live) (m:Mem) (j shards:Nat) (gone:Int) (word u:Nat) (rest:List Cell) (n:Nat) (v:Value) (w:World) (hk:KontAt w E v (.evictSwap j shards gone word u rest n)) (hj:j<65535) (hsh:shards<65536) (hn:n≤1048576) (hs:St w B E.A m) (hcl:CallAt w E x) (ok:E.Ok m) (hi:word<34) (hu:u<4611686018427387904):
   ∃fn ps,v= .func (.func fn) #[] ps∧Enters fn∧Calls Tryz.prog fn ps w (ORes w B E (stepF Bl E.A.list E.A.room (.evictSwap j shards gone word u rest n) x m)):=by
 obtain⟨b0,b1,b2,b3,cv,b4,fv,b5,b6,rfl,h0,h1,h2,h3,hcv,h4,hfv,h5,h6⟩:=hk
 refine⟨_,_,rfl,enters_of Tryz.func96 (by kernel_rfl) rfl,?_⟩
 obtain⟨va,vn,vc,rfl⟩:=hcv.slice
 have hwr:IntKind.u64.wrap ((u:Int)+1)=(u:Int)+1:=by rw[IntKind.wrap_u64];omega
 obtain⟨sw,m1,hsw⟩: ∃sw m1,m.swap word u (u+1) rest=(sw,m1):=⟨_,_,rfl⟩
 have Ks:Hid (∀W,St W B E.A m→CellsAt W (.slice va vn vc) rest→Calls Tryz.prog 32 #[P E.A.board,.int .i64 E.who,.int .i64 word,.int .u64 u,.int .u64 ((u:Int)+1),.slice va vn vc] W fun e w'=>e= .returned (.bool sw)∧Acc W B E.A m1 w'):=fun W h hv=>by
   have k:=bswap_any B E.A m E.who word u (u+1) (.slice va vn vc) _ W h ok.who0 ok.who1 hi (by omega) hv ok.count
   rw[hsw]at k
   exact k
 have hff:Func1 fv:=by obtain⟨_,_,_,e,_⟩:=hfv;exact⟨_,_,e⟩
 obtain⟨ff,fps,rfl⟩:=hff
 have W0:=Lib.hid (Was.start hs hcl)
 have HB0:=Lib.hid hs.below.2.2.2
 have H:=Lib.hid (And.intro h0 (And.intro h1 (And.intro h2 (And.intro h3 (And.intro h4 (And.intro h5 (And.intro h6 (And.intro hcv hfv))))))))
 have Hsw:=Lib.hid hsw;have Hj:=Lib.hid hj;have Hsh:=Lib.hid hsh;have Hn:=Lib.hid hn
 clear hs hcl ok h0 h1 h2 h3 h4 h5 h6 hcv hfv hi hu hsw hj hsh hn
 go_enter Tryz.func96,Tryz.ntmps96
 go_wp2_with fail
 refine wp_name (fun u=>Was w B E x (m) u∧Bx u w.heap.size 37 res0) ⟨W0.out.later (below_allocs [_] w),bx_allocs w [_] 0 rfl⟩ ?_
 rintro y ⟨hw,hl0⟩
 have HW:=Lib.hid hw
 have HL0:=Lib.hid hl0
 have HS:Hid (∀(mm:Mem) (W:World),Was w B E x mm W→Fr B [] y W→W.cell? ⟨b0,0,none⟩=some (P E.x)∧W.cell? ⟨E.x,4,none⟩=some (P E.A.K)∧W.cell? ⟨E.A.K,2,none⟩=some (P E.A.lanes)∧W.cell? ⟨E.A.lanes,0,none⟩=some (P E.A.board)∧W.cell? ⟨E.x,5,none⟩=some (.int .i64 E.who)∧W.cell? ⟨b1,0,none⟩=some (.int .i64 (word:Nat))∧W.cell? ⟨b2,0,none⟩=some (.int .u64 (u:Nat))∧W.cell? ⟨b3,0,none⟩=some (.slice va vn vc)):=fun mm W hw hf=>⟨(H.out.1.keep hw.fr rfl).cell 0,hw.call.c4,hw.st.core.c2,hw.st.lanes.cell 0,hw.call.c5,(H.out.2.1.keep hw.fr rfl).cell 0,(H.out.2.2.1.keep hw.fr rfl).cell 0,(H.out.2.2.2.1.keep hw.fr rfl).cell 0⟩
 have HSa:Hid (∀W:World,Below y.heap.size y W→W.cell? ⟨b0,0,none⟩=some (P E.x)∧W.cell? ⟨E.x,4,none⟩=some (P E.A.K)∧W.cell? ⟨E.A.K,2,none⟩=some (P E.A.lanes)∧W.cell? ⟨E.A.lanes,0,none⟩=some (P E.A.board)∧W.cell? ⟨E.x,5,none⟩=some (.int .i64 E.who)∧W.cell? ⟨b1,0,none⟩=some (.int .i64 (word:Nat))∧W.cell? ⟨b2,0,none⟩=some (.int .u64 (u:Nat))∧W.cell? ⟨b3,0,none⟩=some (.slice va vn vc)):=fun W hb=>HS.out _ W (HW.out.later hb) (Fr.of_below HW.out.st.below.2.2.2 hb)
 have HLt:Hid (b0<y.heap.size∧E.x<y.heap.size∧E.A.K<y.heap.size∧E.A.lanes<y.heap.size∧E.x<y.heap.size∧b1<y.heap.size∧b2<y.heap.size∧b3<y.heap.size):=⟨(H.out.1.keep HW.out.fr rfl).lt,HW.out.call.lt,HW.out.st.core.lt,HW.out.st.lanes.lt,HW.out.call.lt,(H.out.2.1.keep HW.out.fr rfl).lt,(H.out.2.2.1.keep HW.out.fr rfl).lt,(H.out.2.2.2.1.keep HW.out.fr rfl).lt⟩
 clear hw hl0
 go_region_held3 (fun w'=>w'.cell? ⟨b0,0,none⟩=some (P E.x)∧w'.cell? ⟨E.x,4,none⟩=some (P E.A.K)∧w'.cell? ⟨E.A.K,2,none⟩=some (P E.A.lanes)∧w'.cell? ⟨E.A.lanes,0,none⟩=some (P E.A.board)∧w'.cell? ⟨E.x,5,none⟩=some (.int .i64 E.who)∧w'.cell? ⟨b1,0,none⟩=some (.int .i64 (word:Nat))∧w'.cell? ⟨b2,0,none⟩=some (.int .u64 (u:Nat))∧w'.cell? ⟨b3,0,none⟩=some (.slice va vn vc)) (first|(refine HSa.out _ ?_;(repeat (first|(with_reducible first|exact RowKit.Below.refl _ _|assumption|refine RowKit.Below.drew ?_)|((with_reducible first|refine belAlloc ?_ ?_|refine belSet ?_ ?_);(first|simp<;>omega|omega))));done)|(refine hSb _ ?_;(repeat (first|(with_reducible first|exact RowKit.Below.refl _ _|assumption|refine RowKit.Below.drew ?_)|((with_reducible first|refine belAlloc ?_ ?_|refine belSet ?_ ?_);(first|simp<;>omega|omega))));done)) ((first|(go_at_call 32;(refine (Ks.out _ (HW.out.later (by (repeat (first|(with_reducible first|exact RowKit.Below.refl _ _|assumption|refine RowKit.Below.drew ?_)|((with_reducible first|refine belAlloc ?_ ?_|refine belSet ?_ ?_);(first|simp<;>omega|omega)))))).st (H.out.2.2.2.2.2.2.2.1.keep (HW.out.later (by (repeat (first|(with_reducible first|exact RowKit.Below.refl _ _|assumption|refine RowKit.Below.drew ?_)|((with_reducible first|refine belAlloc ?_ ?_|refine belSet ?_ ?_);(first|simp<;>omega|omega)))))).fr)).mono ?_);rintro e w1 ⟨rfl,hacc⟩;have hbW:=belOfA (u:=y) hacc (by (repeat (first|(with_reducible first|exact RowKit.Below.refl _ _|assumption|refine RowKit.Below.drew ?_)|((with_reducible first|refine belAlloc ?_ ?_|refine belSet ?_ ?_);(first|simp<;>omega|omega)))));have hw2:=(HW.out.later hbW).acc hacc;have hf:=Fr.trans (Fr.of_below (X:=[]) HW.out.st.below.2.2.2 hbW) hacc.2;have hfW:=hacc.2;have hs2:=HS.out _ w1 hw2 hf;have hSb: ∀W:World,Below y.heap.size w1 W→W.cell? ⟨b0,0,none⟩=some (P E.x)∧W.cell? ⟨E.x,4,none⟩=some (P E.A.K)∧W.cell? ⟨E.A.K,2,none⟩=some (P E.A.lanes)∧W.cell? ⟨E.A.lanes,0,none⟩=some (P E.A.board)∧W.cell? ⟨E.x,5,none⟩=some (.int .i64 E.who)∧W.cell? ⟨b1,0,none⟩=some (.int .i64 (word:Nat))∧W.cell? ⟨b2,0,none⟩=some (.int .u64 (u:Nat))∧W.cell? ⟨b3,0,none⟩=some (.slice va vn vc):=fun W hb=>⟨cell_lt HLt.out.1 hb hs2.1,cell_lt HLt.out.2.1 hb hs2.2.1,cell_lt HLt.out.2.2.1 hb hs2.2.2.1,cell_lt HLt.out.2.2.2.1 hb hs2.2.2.2.1,cell_lt HLt.out.2.2.2.2.1 hb hs2.2.2.2.2.1,cell_lt HLt.out.2.2.2.2.2.1 hb hs2.2.2.2.2.2.1,cell_lt HLt.out.2.2.2.2.2.2.1 hb hs2.2.2.2.2.2.2.1,cell_lt HLt.out.2.2.2.2.2.2.2 hb hs2.2.2.2.2.2.2.2⟩;have hsk:=hs2;have hsz:=hf.size;have hl02:=HL0.out.keep hf rfl;have HW2:=Lib.hid hw2;have Hf:=Lib.hid hf;have HLb0:=Lib.hid hl02;clear hw2 hf hfW hbW hs2 hacc hl02)))
 have hw:=HW2.out
 have hl0:=HLb0.out
 clear HW2 HW HSa HS HLt hSb hsz Hf HLb0 HL0 Ks hwr
 have c0:=(H.out.1.keep hw.fr rfl).at0;have c4:=(H.out.2.2.2.2.1.keep hw.fr rfl).at0;have c5:=(H.out.2.2.2.2.2.1.keep hw.fr rfl).at0;have c6:=(H.out.2.2.2.2.2.2.1.keep hw.fr rfl).at0
 have hfv:=H.out.2.2.2.2.2.2.2.2.keep hw.fr
 have hb4:=H.out.2.2.2.2.1.keep hw.fr rfl;have hb5:=H.out.2.2.2.2.2.1.keep hw.fr rfl;have hb6:=H.out.2.2.2.2.2.2.1.keep hw.fr rfl
 have HW:=Lib.hid hw;have HL0:=Lib.hid hl0
 clear hw hl0
 cases sw with
 |false=>
   have hx:stepF Bl E.A.list E.A.room (.evictSwap j shards gone word u rest n) x m=further j shards gone x m1:=by
     show(if (m.swap word u (u+1) rest).1 then _ else further j shards gone x (m.swap word u (u+1) rest).2)=_
     rw[Hsw.out]
     rfl
   have Hx:=Lib.hid hx
   obtain⟨f,ps,hfe,hef,kt⟩:=further_any B E x m1 j shards gone _ w1 hfv HW.out.st HW.out.call Hj.out Hsh.out
   injection hfe with e1 e2 e3
   subst e1 e3
   unfold Enters at hef
   have Kt:=Lib.hid kt
   clear hx kt hfv hb4 hb5 hb6
   go_wp2_with (go_at_fn f;(refine (Kt.out).mono ?_);rintro e w3 h;obtain⟨v,d,a,rfl,ha⟩:=Ans.of h;have hr3:=HL0.out.keep ha.fr rfl;obtain⟨r0,r1,r2,r3,r4,r5,r6⟩:=res_cells hr3;obtain⟨f0,f1,f2,f3,f4,f5,f6⟩:=res_free hr3;have Hr3:=Lib.hid hr3;have Ha:=Lib.hid ha;clear hr3 ha h)
   rw[Hx.out]
   exact bodyPost_ret (v:= .tuple #[v,.agg (resA d a)]) (by simp [results,Tryz.results96,go_sem,r0,r1,r2,r3,r4,r5,r6]) rfl ((Ha.out.pre HW.out.fr).store Hr3.out (Nat.le_refl _) HB0.out).ores
 |true=>
   have hx:stepF Bl E.A.list E.A.room (.evictSwap j shards gone word u rest n) x m=more (backK n (.evict j shards (gone+n))) x m1:=by
     show(if (m.swap word u (u+1) rest).1 then more (backK n (.evict j shards (gone+n))) x (m.swap word u (u+1) rest).2 else _)=_
     rw[Hsw.out]
     rfl
   have Hx:=Lib.hid hx
   have hnu:IntKind.u64.wrap (n:Int)=(n:Int):=by have:=Hn.out;rw[IntKind.wrap_u64];omega
   have Kt:=Lib.hid (back_any E n (.evict j shards (gone+n)) (.func (.func 98) #[] #[P b4,P b5,P b6]) w1 ⟨gone,n,rfl,_,_,_,_,rfl,hb4,hfv,hb5,hb6⟩)
   clear hx hfv hb4 hb5 hb6
   go_wp2_with (first|(go_at_call 97;(refine (Kt.out).mono ?_);rintro e w2 ⟨v,rfl,hk,hb⟩;have hr2:=HL0.out.keep (fr0 hb) rfl;have hw2:=HW.out.later hb;have Hk:=Lib.hid hk;have Hr2:=Lib.hid hr2;have HW2:=Lib.hid hw2;clear hk hr2 hw2 hb)|(go_at_call 63;(refine (con_any _ _).mono ?_);rintro e w3 ⟨rfl,hb⟩;have hr3:=Hr2.out.keep (fr0 hb) rfl;have hw3:=HW2.out.later hb;have hk3:=Hk.out.keep (fr0 hb);obtain⟨r0,r1,r2,r3,r4,r5,r6⟩:=res_cells hr3;obtain⟨f0,f1,f2,f3,f4,f5,f6⟩:=res_free hr3;have Hr3:=Lib.hid hr3;have HW3:=Lib.hid hw3;have Hk3:=Lib.hid hk3;clear hr3 hw3 hk3 hb))
   rw[Hx.out]
   exact bodyPost_ret (v:= .tuple #[v,.agg (resA false (err 0))]) (by simp [results,Tryz.results96,go_sem,r0,r1,r2,r3,r4,r5,r6]) rfl ((Ans.more HW3.out Hk3.out).store Hr3.out (Nat.le_refl _) HB0.out).ores
set_option maxHeartbeats 1000000 in
set_option maxRecDepth 100000 in
theorem step_evictStart (B:Nat) (E:Env) (x:Live) (m:Mem) (v:Value) (w:World) (hk:KontAt w E v .evictStart) (hs:St w B E.A m) (hcl:CallAt w E x) (ok:E.Ok m) (h8:m.word 0≤8):
   ∃fn ps,v= .func (.func fn) #[] ps∧Enters fn∧Calls Tryz.prog fn ps w (ORes w B E (stepF Bl E.A.list E.A.room .evictStart x m)):=by
 obtain⟨b0,rfl,h0⟩:=hk
 refine⟨_,_,rfl,enters_of Tryz.func61 (by kernel_rfl) rfl,?_⟩
 have W0:=Lib.hid (Was.start hs hcl)
 have HB0:=Lib.hid hs.below.2.2.2
 have HW:Hid (Was w B E x m (w.alloc (.cells res0 37))):=W0.out.later (below_allocs [_] w)
 have HL0:Hid (Bx (w.alloc (.cells res0 37)) w.heap.size 37 res0):=bx_allocs w [_] 0 rfl
 have H:=Lib.hid h0
 have c0:=h0.at0;have l0:=h0.lt
 have Kl:=Lib.hid (cload_any B E x m 0 (w.alloc (.cells res0 37)) HW.out.st HW.out.call ok (by decide))
 obtain⟨d,hd⟩: ∃d,m.word 0=d:=⟨_,rfl⟩
 rw[hd]at Kl h8
 obtain⟨pw,hpw⟩: ∃pw,2^((d+1)/2)=pw:=⟨_,rfl⟩
 have Hx:Hid (stepF Bl E.A.list E.A.room .evictStart x m=more (.find 0 (.evict 0 pw 0)) x m.touch):=by
   show more (.find 0 (.evict 0 (2^((m.word 0+1)/2)) 0)) x m.touch=_
   rw[hd,hpw]
 have hd9:d=0∨d=1∨d=2∨d=3∨d=4∨d=5∨d=6∨d=7∨d=8:=by omega
 have Ke:=Lib.hid (fun W h1 h2=>evict_any B E x m.touch 0 pw 0 W h1 h2 (by decide))
 clear h0 hs hcl ok h8 hd
 rcases hd9 with rfl|rfl|rfl|rfl|rfl|rfl|rfl|rfl|rfl
 all_goals
   simp at hpw
   subst hpw
   go_enter Tryz.func61,Tryz.ntmps61
   go_wp2_with (first|(go_at_call 62;(refine Kl.out.mono ?_);rintro e w1 ⟨rfl,hno⟩;have hw1:=HW.out.noted hno;have hr1:=HL0.out.keep (hno.acc HW.out.st).2 rfl;have k0:=(H.out.keep hw1.fr rfl).at0;have HW1:=Lib.hid hw1;have HR1:=Lib.hid hr1;clear hno hw1 hr1)|(go_at_call 64;(refine (Ke.out _ HW1.out.st HW1.out.call).mono ?_);rintro e w2 ⟨v,rfl,hk,hb⟩;have hr2:=HR1.out.keep (fr0 hb) rfl;have hw2:=HW1.out.later hb;have Hk:=Lib.hid hk;have Hr2:=Lib.hid hr2;have HW2:=Lib.hid hw2;clear hk hr2 hw2 hb)|(go_at_call 63;(refine (con_any _ _).mono ?_);rintro e w3 ⟨rfl,hb⟩;have hr3:=Hr2.out.keep (fr0 hb) rfl;have hw3:=HW2.out.later hb;have hk3:=Hk.out.keep (fr0 hb);obtain⟨r0,r1,r2,r3,r4,r5,r6⟩:=res_cells hr3;obtain⟨f0,f1,f2,f3,f4,f5,f6⟩:=res_free hr3;have Hr3:=Lib.hid hr3;have HW3:=Lib.hid hw3;have Hk3:=Lib.hid hk3;clear hr3 hw3 hk3 hb))
   rw[Hx.out]
   exact bodyPost_ret (v:= .tuple #[v,.agg (resA false (err 0))]) (by simp [results,Tryz.results61,go_sem,r0,r1,r2,r3,r4,r5,r6]) rfl ((Ans.more HW3.out Hk3.out).store Hr3.out (Nat.le_refl _) HB0.out).ores
end
end Go.Proofs.YtemnhpdjoimjbaaGreatDoor
