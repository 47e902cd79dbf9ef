import Derived.Test.YtemnhpdjoimjbaaGreatDoorTw27
namespace Go.Proofs.YtemnhpdjoimjbaaGreatDoor
section
open Go.RowKit Top
set_option linter.unusedVariables false
variable (Bl : Top.Below)
theorem Row.setOther {w:World} {t:TypeId} {size n:Nat} {v:Value} {xs:List Value} (h:Row w t size n v xs) {q i:Nat} {t':TypeId} {c:Array Value} (hr:Bx w q t' c) (ht:t≠t') (u:Value):Row (w.setCell ⟨q,i,none⟩ u) t size n v xs:=by
 obtain⟨h1,a,cc,h2,h3,h4,h5⟩:=h
 refine⟨h1,a,cc,h2,h3,h4,fun hn=> ?_⟩
 obtain⟨b,off,arr,h6,h7,h8⟩:=h5 hn
 exact⟨b,off,arr,h6,h7.sne (h7.ne hr ht),h8⟩
theorem HeldAt.alc {w:World} {v:Value} {L:List Int} {o:Obj} (h:HeldAt w v L):HeldAt (w.alloc o) v L:=h.keep (fr0 ((RowKit.Below.refl _ _).alloc (Nat.le_refl _) o))
theorem HeldAt.dr {w:World} {v:Value} {L:List Int} (h:HeldAt w v L):HeldAt w.drew v L:=h.keep (fr0 (RowKit.Below.refl _ _).drew)
theorem HeldAt.s4 {w:World} {v:Value} {L:List Int} {q:Nat} {a:Array Value} {v0 v1 v2 v3:Value} (hb:Bx w q 100 a) (h:HeldAt w v L):HeldAt ((((w.setCell ⟨q,0,none⟩ v0).setCell ⟨q,1,none⟩ v1).setCell ⟨q,2,none⟩ v2).setCell ⟨q,3,none⟩ v3) v L:=
 Row.setOther (Row.setOther (Row.setOther (Row.setOther h hb (by decide) v0) (hb.setCell 0 v0) (by decide) v1) ((hb.setCell 0 v0).setCell 1 v1) (by decide) v2) (((hb.setCell 0 v0).setCell 1 v1).setCell 2 v2) (by decide) v3
theorem HeldAt.s6 {w:World} {v:Value} {L:List Int} {q:Nat} {a:Array Value} {v0 v1 v2 v3 v4 v5:Value} (hb:Bx w q 35 a) (h:HeldAt w v L):HeldAt ((((((w.setCell ⟨q,0,none⟩ v0).setCell ⟨q,1,none⟩ v1).setCell ⟨q,2,none⟩ v2).setCell ⟨q,3,none⟩ v3).setCell ⟨q,4,none⟩ v4).setCell ⟨q,5,none⟩ v5) v L:=
 Row.setOther (Row.setOther (Row.setOther (Row.setOther (Row.setOther (Row.setOther h hb (by decide) v0) (hb.setCell 0 v0) (by decide) v1) ((hb.setCell 0 v0).setCell 1 v1) (by decide) v2) (((hb.setCell 0 v0).setCell 1 v1).setCell 2 v2) (by decide) v3) ((((hb.setCell 0 v0).setCell 1 v1).setCell 2 v2).setCell 3 v3) (by decide) v4) (((((hb.setCell 0 v0).setCell 1 v1).setCell 2 v2).setCell 3 v3).setCell 4 v4) (by decide) v5
set_option maxHeartbeats 1000000 in
set_option maxRecDepth 100000 in
theorem take_spec (hB:Books Bl):TakeSpec Bl:=by
 intro B E x m f at_ there c v w hk hg hop hse0 hse1 hs hcl
 obtain⟨b0,b1,kv,hv,b2,b3,fv,b4,b5,rfl,h0,h1,hkv,hhv,h2,h3,hfv,h4,h5,hput⟩:=hk
 refine⟨_,_,rfl,enters_of Tryz.func137 (by kernel_rfl) rfl,?_⟩
 obtain⟨fa,fn,fc,rfl⟩:=hfv.slice
 obtain⟨ka,kc,rfl⟩: ∃a c',kv= .slice a c.key.length c':=by obtain⟨_,_,a,c',e,_⟩:=hkv;exact⟨a,c',e⟩
 obtain⟨ha,hc,rfl⟩: ∃a c',hv= .slice a c.held.length c':=by obtain⟨_,a,c',e,_⟩:=hhv;exact⟨a,c',e⟩
 obtain⟨R,C,hRC⟩: ∃R C,takeF Bl E.pol c x.serial=(R,C):=⟨_,_,rfl⟩
 have hC:C.pol=c.pol∧C.key=c.key∧C.tat=c.tat:=by
   have h:(takeF Bl E.pol c x.serial).2=C:=by rw[hRC]
   rw[← h]
   unfold takeF
   dsimp only
   split<;>exact⟨rfl,rfl,rfl⟩
 have Ka:Hid (∀W,KeyAt W (.slice ka c.key.length kc) c.key→HeldAt W (.slice ha c.held.length hc) c.held→Calls Tryz.prog 138 #[.agg (polA E.pol),.agg (cellA c (.slice ka c.key.length kc) (.slice ha c.held.length hc)),.int .i64 x.serial] W fun e w'=> ∃na nn nc,e= .returned (.tuple #[.agg (replyA R),.agg (cellA C (.slice ka c.key.length kc) (.slice na nn nc))])∧HeldAt w' (.slice na nn nc) C.held∧CellOk C∧Below W.heap.size W w'):=fun W h1 h2=>by
   have k:=hB.acquire E.pol c _ _ x.serial W h1 h2 hput.cell hg.polok (hg.kind2 (.inl hop)) (by omega) (by omega)
   rw[hRC]at k
   exact k
 have W0:=Lib.hid (Was.start hs hcl)
 have H:=Lib.hid (And.intro h0 (And.intro h1 (And.intro h2 (And.intro h3 (And.intro h4 (And.intro h5 (And.intro hfv (And.intro hkv hhv))))))))
 have Hx:Hid (putK E.A.room f at_ there (takeF Bl (polOf E.A.list x) c x.serial).2 (takeF Bl (polOf E.A.list x) c x.serial).1 x=putK E.A.room f at_ there C R x):=by
   show putK _ _ _ _ _ _ _=_
   simp only[hg.polOf,hRC]
 have Hput:=Lib.hid hput;have HC:=Lib.hid hC
 clear hs hcl h0 h1 h2 h3 h4 h5 hfv hkv hhv hput hg hop hse0 hse1 hRC hC
 go_enter Tryz.func137,Tryz.ntmps137
 go_wp2_with fail
 refine wp_name (fun u=>Was w B E x m u∧Below w.heap.size w u) ⟨W0.out,RowKit.Below.refl _ _⟩ ?_
 rintro u ⟨hw,hbu0⟩
 have HBu:=Lib.hid hbu0;clear hbu0
 have HW:=Lib.hid hw
 have HS:Hid (∀(mm:Mem) (W:World),Was w B E x mm W→Fr B [] u W→W.cell? ⟨b0,0,none⟩=some (.int .u8 (E.pol.kind:Nat))∧W.cell? ⟨b0,1,none⟩=some (.int .i64 E.pol.T)∧W.cell? ⟨b0,2,none⟩=some (.int .i64 E.pol.tau)∧W.cell? ⟨b0,3,none⟩=some (.int .i64 E.pol.permits)∧W.cell? ⟨b1,0,none⟩=some (.int .i64 c.pol)∧W.cell? ⟨b1,1,none⟩=some (.slice ka c.key.length kc)∧W.cell? ⟨b1,2,none⟩=some (.int .i64 c.tat)∧W.cell? ⟨b1,3,none⟩=some (.slice ha c.held.length hc)∧W.cell? ⟨b2,0,none⟩=some (P E.x)∧W.cell? ⟨E.x,8,none⟩=some (.int .i64 x.serial)):=fun mm W hw hf=>⟨(H.out.1.keep hw.fr rfl).cell 0,(H.out.1.keep hw.fr rfl).cell 1,(H.out.1.keep hw.fr rfl).cell 2,(H.out.1.keep hw.fr rfl).cell 3,(H.out.2.1.keep hw.fr rfl).cell 0,(H.out.2.1.keep hw.fr rfl).cell 1,(H.out.2.1.keep hw.fr rfl).cell 2,(H.out.2.1.keep hw.fr rfl).cell 3,(H.out.2.2.1.keep hw.fr rfl).cell 0,hw.call.c8⟩
 have HSa:Hid (∀W:World,Below u.heap.size u W→W.cell? ⟨b0,0,none⟩=some (.int .u8 (E.pol.kind:Nat))∧W.cell? ⟨b0,1,none⟩=some (.int .i64 E.pol.T)∧W.cell? ⟨b0,2,none⟩=some (.int .i64 E.pol.tau)∧W.cell? ⟨b0,3,none⟩=some (.int .i64 E.pol.permits)∧W.cell? ⟨b1,0,none⟩=some (.int .i64 c.pol)∧W.cell? ⟨b1,1,none⟩=some (.slice ka c.key.length kc)∧W.cell? ⟨b1,2,none⟩=some (.int .i64 c.tat)∧W.cell? ⟨b1,3,none⟩=some (.slice ha c.held.length hc)∧W.cell? ⟨b2,0,none⟩=some (P E.x)∧W.cell? ⟨E.x,8,none⟩=some (.int .i64 x.serial)):=fun W hb=>HS.out _ W (HW.out.later hb) (Fr.of_below HW.out.st.below.2.2.2 hb)
 have HLt:Hid (b0<u.heap.size∧b0<u.heap.size∧b0<u.heap.size∧b0<u.heap.size∧b1<u.heap.size∧b1<u.heap.size∧b1<u.heap.size∧b1<u.heap.size∧b2<u.heap.size∧E.x<u.heap.size):=⟨(H.out.1.keep HW.out.fr rfl).lt,(H.out.1.keep HW.out.fr rfl).lt,(H.out.1.keep HW.out.fr rfl).lt,(H.out.1.keep HW.out.fr rfl).lt,(H.out.2.1.keep HW.out.fr rfl).lt,(H.out.2.1.keep HW.out.fr rfl).lt,(H.out.2.1.keep HW.out.fr rfl).lt,(H.out.2.1.keep HW.out.fr rfl).lt,(H.out.2.2.1.keep HW.out.fr rfl).lt,HW.out.call.lt⟩
 clear hw
 go_cut [7,8] (fun s7 s8 wx=> ∃q7 q8 na nn nc,s7=P q7∧s8=P q8∧Below u.heap.size u wx∧Bx wx q7 35 (replyA R)∧Bx wx q8 100 (cellA C (.slice ka c.key.length kc) (.slice na nn nc))∧HeldAt wx (.slice na nn nc) C.held∧CellOk C)
 case first=>
   go_region_held3 (fun w'=>w'.cell? ⟨b0,0,none⟩=some (.int .u8 (E.pol.kind:Nat))∧w'.cell? ⟨b0,1,none⟩=some (.int .i64 E.pol.T)∧w'.cell? ⟨b0,2,none⟩=some (.int .i64 E.pol.tau)∧w'.cell? ⟨b0,3,none⟩=some (.int .i64 E.pol.permits)∧w'.cell? ⟨b1,0,none⟩=some (.int .i64 c.pol)∧w'.cell? ⟨b1,1,none⟩=some (.slice ka c.key.length kc)∧w'.cell? ⟨b1,2,none⟩=some (.int .i64 c.tat)∧w'.cell? ⟨b1,3,none⟩=some (.slice ha c.held.length hc)∧w'.cell? ⟨b2,0,none⟩=some (P E.x)∧w'.cell? ⟨E.x,8,none⟩=some (.int .i64 x.serial)) (first|(refine HSa.out _ ?_;(repeat (first|(with_reducible first|exact RowKit.Below.refl _ _|assumption|refine RowKit.Below.drew ?_)|((with_reducible first|refine belAlloc ?_ ?_|refine belSet ?_ ?_);(first|simp<;>omega|omega))));done)|(refine hSb _ ?_;(repeat (first|(with_reducible first|exact RowKit.Below.refl _ _|assumption|refine RowKit.Below.drew ?_)|((with_reducible first|refine belAlloc ?_ ?_|refine belSet ?_ ?_);(first|simp<;>omega|omega))));done)) ((first|(go_at_call 138;(refine (Ka.out _ (H.out.2.2.2.2.2.2.2.1.keep (HW.out.later (by (repeat (first|(with_reducible first|exact RowKit.Below.refl _ _|assumption|refine RowKit.Below.drew ?_)|((with_reducible first|refine belAlloc ?_ ?_|refine belSet ?_ ?_);(first|simp<;>omega|omega)))))).fr) (H.out.2.2.2.2.2.2.2.2.keep (HW.out.later (by (repeat (first|(with_reducible first|exact RowKit.Below.refl _ _|assumption|refine RowKit.Below.drew ?_)|((with_reducible first|refine belAlloc ?_ ?_|refine belSet ?_ ?_);(first|simp<;>omega|omega)))))).fr)).mono ?_);rintro e w2 ⟨na,nn,nc,rfl,hheld,hcok,hb⟩;have hbW:=belOfB (u:=u) hb (by (repeat (first|(with_reducible first|exact RowKit.Below.refl _ _|assumption|refine RowKit.Below.drew ?_)|((with_reducible first|refine belAlloc ?_ ?_|refine belSet ?_ ?_);(first|simp<;>omega|omega)))));have hbu:=hbW.trans (hb.mono hbW.size);have hw2:=HW.out.later hbu;have hf:Fr B [] u w2:=Fr.of_below HW.out.st.below.2.2.2 hbu;have hfW:Fr B [] _ w2:=Fr.of_below (Nat.le_trans HW.out.st.below.2.2.2 hbW.size) hb;have hbu2:=hbu;have Hcok:=Lib.hid hcok;clear hcok;have hs2:=HS.out _ w2 hw2 hf;have hSb: ∀W:World,Below u.heap.size w2 W→W.cell? ⟨b0,0,none⟩=some (.int .u8 (E.pol.kind:Nat))∧W.cell? ⟨b0,1,none⟩=some (.int .i64 E.pol.T)∧W.cell? ⟨b0,2,none⟩=some (.int .i64 E.pol.tau)∧W.cell? ⟨b0,3,none⟩=some (.int .i64 E.pol.permits)∧W.cell? ⟨b1,0,none⟩=some (.int .i64 c.pol)∧W.cell? ⟨b1,1,none⟩=some (.slice ka c.key.length kc)∧W.cell? ⟨b1,2,none⟩=some (.int .i64 c.tat)∧W.cell? ⟨b1,3,none⟩=some (.slice ha c.held.length hc)∧W.cell? ⟨b2,0,none⟩=some (P E.x)∧W.cell? ⟨E.x,8,none⟩=some (.int .i64 x.serial):=fun W hb=>⟨cell_lt HLt.out.1 hb hs2.1,cell_lt HLt.out.2.1 hb hs2.2.1,cell_lt HLt.out.2.2.1 hb hs2.2.2.1,cell_lt HLt.out.2.2.2.1 hb hs2.2.2.2.1,cell_lt HLt.out.2.2.2.2.1 hb hs2.2.2.2.2.1,cell_lt HLt.out.2.2.2.2.2.1 hb hs2.2.2.2.2.2.1,cell_lt HLt.out.2.2.2.2.2.2.1 hb hs2.2.2.2.2.2.2.1,cell_lt HLt.out.2.2.2.2.2.2.2.1 hb hs2.2.2.2.2.2.2.2.1,cell_lt HLt.out.2.2.2.2.2.2.2.2.1 hb hs2.2.2.2.2.2.2.2.2.1,cell_lt HLt.out.2.2.2.2.2.2.2.2.2 hb hs2.2.2.2.2.2.2.2.2.2⟩;have hsk:=hs2;have hsz:=hf.size;(try (refine (have z1:Bx w2 (u.heap.size) 35 #[.int .i64 0,.bool false,.int .i64 0,.int .i64 0,.int .i64 0,.int .i64 0]:= ?_;?_);· (refine Bx.keep hfW ?_ rfl;(repeat (first|with_reducible assumption|((with_reducible apply Bx.newq');(first|simp<;>omega|omega))|(with_reducible first|apply Bx.alc|apply Bx.dr|apply Bx.sc0|apply Bx.set4|apply Bx.set6)|((with_reducible apply Bx.sne);(first|simp<;>omega|omega))));done)));(try have zc1:=cells6 z1);(try have zf1:=free6 z1);(try have zl1:=z1.lt);(try (refine (have z2:Bx w2 (u.heap.size) 100 #[.int .i64 0,.slice none 0 0,.int .i64 0,.slice none 0 0]:= ?_;?_);· (refine Bx.keep hfW ?_ rfl;(repeat (first|with_reducible assumption|((with_reducible apply Bx.newq');(first|simp<;>omega|omega))|(with_reducible first|apply Bx.alc|apply Bx.dr|apply Bx.sc0|apply Bx.set4|apply Bx.set6)|((with_reducible apply Bx.sne);(first|simp<;>omega|omega))));done)));(try have zc2:=cells4 z2);(try have zf2:=free4 z2);(try have zl2:=z2.lt);(try (refine (have z3:Bx w2 (u.heap.size+1) 35 #[.int .i64 0,.bool false,.int .i64 0,.int .i64 0,.int .i64 0,.int .i64 0]:= ?_;?_);· (refine Bx.keep hfW ?_ rfl;(repeat (first|with_reducible assumption|((with_reducible apply Bx.newq');(first|simp<;>omega|omega))|(with_reducible first|apply Bx.alc|apply Bx.dr|apply Bx.sc0|apply Bx.set4|apply Bx.set6)|((with_reducible apply Bx.sne);(first|simp<;>omega|omega))));done)));(try have zc3:=cells6 z3);(try have zf3:=free6 z3);(try have zl3:=z3.lt);(try (refine (have z4:Bx w2 (u.heap.size+1) 100 #[.int .i64 0,.slice none 0 0,.int .i64 0,.slice none 0 0]:= ?_;?_);· (refine Bx.keep hfW ?_ rfl;(repeat (first|with_reducible assumption|((with_reducible apply Bx.newq');(first|simp<;>omega|omega))|(with_reducible first|apply Bx.alc|apply Bx.dr|apply Bx.sc0|apply Bx.set4|apply Bx.set6)|((with_reducible apply Bx.sne);(first|simp<;>omega|omega))));done)));(try have zc4:=cells4 z4);(try have zf4:=free4 z4);(try have zl4:=z4.lt);have HW2:=Lib.hid hw2;have Hf:=Lib.hid hf;clear hw2 hf hfW hbW hs2 hb hbu)))
   all_goals
     go_wp2_with fail
     go_meet
     refine⟨_,_,na,nn,nc,rfl,rfl,?_,?_,?_,?_,Hcok.out⟩
     · (repeat (first|(with_reducible first|exact RowKit.Below.refl _ _|assumption|refine RowKit.Below.drew ?_)|((with_reducible first|refine belAlloc ?_ ?_|refine belSet ?_ ?_);(first|simp<;>omega|omega))))
     · (repeat (first|with_reducible assumption|((with_reducible apply Bx.newq');(first|simp<;>omega|omega))|(with_reducible first|apply Bx.alc|apply Bx.dr|apply Bx.sc0|apply Bx.set4|apply Bx.set6)|((with_reducible apply Bx.sne);(first|simp<;>omega|omega))))
     · (repeat (first|with_reducible assumption|((with_reducible apply Bx.newq');(first|simp<;>omega|omega))|(with_reducible first|apply Bx.alc|apply Bx.dr|apply Bx.sc0|apply Bx.set4|apply Bx.set6)|((with_reducible apply Bx.sne);(first|simp<;>omega|omega))))
     · (repeat (first|(with_reducible first|assumption|apply HeldAt.alc|apply HeldAt.dr)|((with_reducible apply HeldAt.s4);(focus ((repeat (first|with_reducible assumption|((with_reducible apply Bx.newq');(first|simp<;>omega|omega))|(with_reducible first|apply Bx.alc|apply Bx.dr|apply Bx.sc0|apply Bx.set4|apply Bx.set6)|((with_reducible apply Bx.sne);(first|simp<;>omega|omega))));done)))|((with_reducible apply HeldAt.s6);(focus ((repeat (first|with_reducible assumption|((with_reducible apply Bx.newq');(first|simp<;>omega|omega))|(with_reducible first|apply Bx.alc|apply Bx.dr|apply Bx.sc0|apply Bx.set4|apply Bx.set6)|((with_reducible apply Bx.sne);(first|simp<;>omega|omega))));done)))))
 case rest=>
   obtain⟨q7,q8,na,nn,nc,rfl,rfl,hbx,z7,z8,hheld,hcok⟩:=hcut
   have hw:=HW.out.later hbx
   have hb9:=HBu.out.trans (hbx.mono HBu.out.size)
   obtain⟨y0,y1,y2,y3,y4,y5⟩:=cells6 z7
   obtain⟨v0,v1,v2,v3⟩:=cells4 z8
   have d2:=(H.out.2.2.1.keep hw.fr rfl).at0
   obtain⟨d30,d31,d32⟩:wc.cell? ⟨b3,0,none⟩=some (.int .i64 (f.word:Nat))∧wc.cell? ⟨b3,1,none⟩=some (.int .u64 (f.v:Nat))∧wc.cell? ⟨b3,2,none⟩=some (.slice fa fn fc):=⟨(H.out.2.2.2.1.keep hw.fr rfl).cell 0,(H.out.2.2.2.1.keep hw.fr rfl).cell 1,(H.out.2.2.2.1.keep hw.fr rfl).cell 2⟩
   have d4:=(H.out.2.2.2.2.1.keep hw.fr rfl).at0
   have d5:=(H.out.2.2.2.2.2.1.keep hw.fr rfl).at0
   have hkc:KeyAt wc (.slice ka c.key.length kc) C.key:=by rw[HC.out.2.1];exact H.out.2.2.2.2.2.2.2.1.keep hw.fr
   have hpo:PutOk f at_ there C:=⟨hcok,by rw[HC.out.1,HC.out.2.1];exact Hput.out.place,by rw[HC.out.1,HC.out.2.1];exact Hput.out.there_⟩
   have Kp:=Lib.hid (put_any B E x m f at_ there C R fa fn fc _ _ wc hw.st hw.call (H.out.2.2.2.2.2.2.1.keep hw.fr) hkc hheld hpo)
   have Hb9:=Lib.hid hb9
   clear HSa HS HLt HW HBu Ka hbx z7 z8 hheld hcok hw hb9 hkc hpo HC Hput
   go_wp2_with (go_at_call 104;(refine Kp.out.mono ?_);rintro e w2 ⟨v,rfl,hk,hb⟩;have Hk:=Lib.hid hk;have Hb:=Lib.hid hb;clear hk hb)
   go_ret
   rw[Hx.out]
   exact⟨v,rfl,Hk.out,Hb9.out.trans (Hb.out.mono Hb9.out.size)⟩
end
section
open Go.RowKit Top
set_option linter.unusedVariables false
variable (Bl : Top.Below)
set_option maxHeartbeats 1000000 in
set_option maxRecDepth 100000 in
theorem acquire_any (hA:TakeSpec Bl) (B:Nat) (E:Env) (x:Live) (m:Mem) (f:Top.Found) (at_:Nat) (there:Bool) (c:Cell) (fa:Option Addr) (fn fc:Nat) (kv hv:Value) (w:World) (hg:Good E x) (hop:x.call.op=2) (hse0:0≤x.serial) (hse1:x.serial≤4611686018427387903) (hs:St w B E.A m) (hcl:CallAt w E x) (hf:CellsAt w (.slice fa fn fc) f.cells) (hk:KeyAt w kv c.key) (hh:HeldAt w hv c.held) (hput:PutOk f at_ there c):
   Calls Tryz.prog 102 #[P E.x,.agg (polA E.pol),.agg #[.int .i64 (f.word:Nat),.int .u64 (f.v:Nat),.slice fa fn fc],.int .i64 at_,.bool there,.agg (cellA c kv hv)] w (ORes w B E (acquireF Bl E.A.list E.A.room f at_ there c x m)):=by
 obtain⟨ka,kc,rfl⟩: ∃a c',kv= .slice a c.key.length c':=by obtain⟨_,_,a,c',e,_⟩:=hk;exact⟨a,c',e⟩
 obtain⟨ha,hc,rfl⟩: ∃a c',hv= .slice a c.held.length c':=by obtain⟨_,a,c',e,_⟩:=hh;exact⟨a,c',e⟩
 have W0:=Lib.hid (Was.start hs hcl)
 have HB0:=Lib.hid hs.below.2.2.2
 have x8:=hcl.c8;have lx:=hcl.lt
 have lx1:E.x<w.heap.size+1:=by omega
 have lx2:E.x<w.heap.size+1+1:=by omega
 have lx3:E.x<w.heap.size+1+1+1:=by omega
 have lx4:E.x<w.heap.size+1+1+1+1:=by omega
 have lx5:E.x<w.heap.size+1+1+1+1+1:=by omega
 have lx6:E.x<w.heap.size+1+1+1+1+1+1:=by omega
 have lx7:E.x<w.heap.size+1+1+1+1+1+1+1:=by omega
 by_cases h1:(c.held.length:Int)=E.pol.permits
 · have hx:acquireF Bl E.A.list E.A.room f at_ there c x m=leave (err 9) x m:=by
     unfold acquireF
     rw[hg.polOf]
     exact if_pos h1
   have Hx:=Lib.hid hx
   have HW:Hid (Was w B E x m (((((((w.alloc (.cells #[P E.x] 107)).alloc (.cells (polA E.pol) 60)).alloc (.cells #[.int .i64 (f.word:Nat),.int .u64 (f.v:Nat),.slice fa fn fc] 172)).alloc (.cells #[.int .i64 at_] 3)).alloc (.cells #[.bool there] 4)).alloc (.cells (cellA c (.slice ka c.key.length kc) (.slice ha c.held.length hc)) 100)).alloc (.cells res0 37))):=W0.out.later (below_allocs [_,_,_,_,_,_,_] w)
   have HL0:Hid (Bx (((((((w.alloc (.cells #[P E.x] 107)).alloc (.cells (polA E.pol) 60)).alloc (.cells #[.int .i64 (f.word:Nat),.int .u64 (f.v:Nat),.slice fa fn fc] 172)).alloc (.cells #[.int .i64 at_] 3)).alloc (.cells #[.bool there] 4)).alloc (.cells (cellA c (.slice ka c.key.length kc) (.slice ha c.held.length hc)) 100)).alloc (.cells res0 37)) (w.heap.size+6) 37 res0):=bx_allocs w [_,_,_,_,_,_,_] 6 rfl
   have Kt:=Lib.hid (leave_any B E x m (err 9) (((((((w.alloc (.cells #[P E.x] 107)).alloc (.cells (polA E.pol) 60)).alloc (.cells #[.int .i64 (f.word:Nat),.int .u64 (f.v:Nat),.slice fa fn fc] 172)).alloc (.cells #[.int .i64 at_] 3)).alloc (.cells #[.bool there] 4)).alloc (.cells (cellA c (.slice ka c.key.length kc) (.slice ha c.held.length hc)) 100)).alloc (.cells res0 37)) HW.out.st HW.out.call)
   clear hs hcl hf hk hh hput hx hg hop hse0 hse1
   go_enter Tryz.func102,Tryz.ntmps102
   go_wp2_with (go_at_call 136;(refine (Kt.out).mono ?_);rintro e w3 h;obtain⟨v,d,a,rfl,ha⟩:=Ans.of h;have hr3:=HL0.out.keep ha.fr rfl;obtain⟨r0,r1,r2,r3,r4,r5,r6⟩:=res_cells hr3;obtain⟨f0,f1,f2,f3,f4,f5,f6⟩:=res_free hr3;have Hr3:=Lib.hid hr3;have Ha:=Lib.hid ha;clear hr3 ha h)
   rw[Hx.out]
   exact bodyPost_ret (v:= .tuple #[v,.agg (resA d a)]) (by simp [results,Tryz.results102,go_sem,r0,r1,r2,r3,r4,r5,r6]) rfl ((Ha.out.pre HW.out.fr).store Hr3.out (Nat.le_add_right _ _) HB0.out).ores
 · have HW:Hid (Was w B E x m ((((((((w.alloc (.cells #[P E.x] 107)).alloc (.cells (polA E.pol) 60)).alloc (.cells #[.int .i64 (f.word:Nat),.int .u64 (f.v:Nat),.slice fa fn fc] 172)).alloc (.cells #[.int .i64 at_] 3)).alloc (.cells #[.bool there] 4)).alloc (.cells (cellA c (.slice ka c.key.length kc) (.slice ha c.held.length hc)) 100)).alloc (.cells res0 37)).alloc (.cells #[.func (.func 137) #[] #[P (w.heap.size+1),P (w.heap.size+5),P w.heap.size,P (w.heap.size+2),P (w.heap.size+3),P (w.heap.size+4)]] 111))):=W0.out.later (below_allocs [_,_,_,_,_,_,_,_] w)
   have HL0:Hid (Bx ((((((((w.alloc (.cells #[P E.x] 107)).alloc (.cells (polA E.pol) 60)).alloc (.cells #[.int .i64 (f.word:Nat),.int .u64 (f.v:Nat),.slice fa fn fc] 172)).alloc (.cells #[.int .i64 at_] 3)).alloc (.cells #[.bool there] 4)).alloc (.cells (cellA c (.slice ka c.key.length kc) (.slice ha c.held.length hc)) 100)).alloc (.cells res0 37)).alloc (.cells #[.func (.func 137) #[] #[P (w.heap.size+1),P (w.heap.size+5),P w.heap.size,P (w.heap.size+2),P (w.heap.size+3),P (w.heap.size+4)]] 111)) (w.heap.size+6) 37 res0):=bx_allocs w [_,_,_,_,_,_,_,_] 6 rfl
   have hb8:Below w.heap.size w ((((((((w.alloc (.cells #[P E.x] 107)).alloc (.cells (polA E.pol) 60)).alloc (.cells #[.int .i64 (f.word:Nat),.int .u64 (f.v:Nat),.slice fa fn fc] 172)).alloc (.cells #[.int .i64 at_] 3)).alloc (.cells #[.bool there] 4)).alloc (.cells (cellA c (.slice ka c.key.length kc) (.slice ha c.held.length hc)) 100)).alloc (.cells res0 37)).alloc (.cells #[.func (.func 137) #[] #[P (w.heap.size+1),P (w.heap.size+5),P w.heap.size,P (w.heap.size+2),P (w.heap.size+3),P (w.heap.size+4)]] 111)):=below_allocs [_,_,_,_,_,_,_,_] w
   have HT:Hid (TakeAt ((((((((w.alloc (.cells #[P E.x] 107)).alloc (.cells (polA E.pol) 60)).alloc (.cells #[.int .i64 (f.word:Nat),.int .u64 (f.v:Nat),.slice fa fn fc] 172)).alloc (.cells #[.int .i64 at_] 3)).alloc (.cells #[.bool there] 4)).alloc (.cells (cellA c (.slice ka c.key.length kc) (.slice ha c.held.length hc)) 100)).alloc (.cells res0 37)).alloc (.cells #[.func (.func 137) #[] #[P (w.heap.size+1),P (w.heap.size+5),P w.heap.size,P (w.heap.size+2),P (w.heap.size+3),P (w.heap.size+4)]] 111)) E (.func (.func 137) #[] #[P (w.heap.size+1),P (w.heap.size+5),P w.heap.size,P (w.heap.size+2),P (w.heap.size+3),P (w.heap.size+4)]) f at_ there c):=⟨w.heap.size+1,w.heap.size+5,_,_,w.heap.size,w.heap.size+2,_,w.heap.size+3,w.heap.size+4,rfl,bx_allocs w [_,_,_,_,_,_,_,_] 1 rfl,bx_allocs w [_,_,_,_,_,_,_,_] 5 rfl,hk.keep (fr0 hb8),hh.keep (fr0 hb8),bx_allocs w [_,_,_,_,_,_,_,_] 0 rfl,bx_allocs w [_,_,_,_,_,_,_,_] 2 rfl,hf.keep (fr0 hb8),bx_allocs w [_,_,_,_,_,_,_,_] 3 rfl,bx_allocs w [_,_,_,_,_,_,_,_] 4 rfl,hput⟩
   by_cases h2:0<x.serial
   · have hx:acquireF Bl E.A.list E.A.room f at_ there c x m=more (putK E.A.room f at_ there (takeF Bl (polOf E.A.list x) c x.serial).2 (takeF Bl (polOf E.A.list x) c x.serial).1 x) x m:=by
       unfold acquireF
       rw[if_neg (by rw[hg.polOf];exact h1),if_pos h2]
     have Hx:=Lib.hid hx
     obtain⟨tf,tps,hte,hef,kt⟩:=hA B E x m f at_ there c _ _ HT.out hg hop hse0 hse1 HW.out.st HW.out.call
     injection hte with e1 e2 e3
     injection e1 with e1
     subst e1 e3
     have Kt:=Lib.hid kt
     clear hs hcl hf hk hh hput hx hg hop hse0 hse1 kt hb8 hef
     go_enter Tryz.func102,Tryz.ntmps102
     go_wp2_with (first|(go_at_call 137;(refine (Kt.out).mono ?_);rintro e w2 ⟨v,rfl,hk,hb⟩;have hr2:=HL0.out.keep (fr0 hb) rfl;have hw2:=HW.out.later hb;have Hk:=Lib.hid hk;have Hr2:=Lib.hid hr2;have HW2:=Lib.hid hw2;clear hk hr2 hw2 hb)|(go_at_call 63;(refine (con_any _ _).mono ?_);rintro e w3 ⟨rfl,hb⟩;have hr3:=Hr2.out.keep (fr0 hb) rfl;have hw3:=HW2.out.later hb;have hk3:=Hk.out.keep (fr0 hb);obtain⟨r0,r1,r2,r3,r4,r5,r6⟩:=res_cells hr3;obtain⟨f0,f1,f2,f3,f4,f5,f6⟩:=res_free hr3;have Hr3:=Lib.hid hr3;have HW3:=Lib.hid hw3;have Hk3:=Lib.hid hk3;clear hr3 hw3 hk3 hb))
     rw[Hx.out]
     exact bodyPost_ret (v:= .tuple #[v,.agg (resA false (err 0))]) (by simp [results,Tryz.results102,go_sem,r0,r1,r2,r3,r4,r5,r6]) rfl ((Ans.more HW3.out Hk3.out).store Hr3.out (Nat.le_add_right _ _) HB0.out).ores
   · have hx:acquireF Bl E.A.list E.A.room f at_ there c x m=more (.wordLoad SERIAL 1 4611686018427387903 (.serial f at_ there c)) x m:=by
       unfold acquireF
       rw[if_neg (by rw[hg.polOf];exact h1),if_neg h2]
     have Hx:=Lib.hid hx
     have Km:Hid (Calls Tryz.prog 130 #[P E.x,.int .i64 33,.int .u64 1,.int .u64 4611686018427387903,.func (.func 139) #[] #[P w.heap.size],.func (.func 140) #[] #[P w.heap.size,P (w.heap.size+7)]] ((((((((w.alloc (.cells #[P E.x] 107)).alloc (.cells (polA E.pol) 60)).alloc (.cells #[.int .i64 (f.word:Nat),.int .u64 (f.v:Nat),.slice fa fn fc] 172)).alloc (.cells #[.int .i64 at_] 3)).alloc (.cells #[.bool there] 4)).alloc (.cells (cellA c (.slice ka c.key.length kc) (.slice ha c.held.length hc)) 100)).alloc (.cells res0 37)).alloc (.cells #[.func (.func 137) #[] #[P (w.heap.size+1),P (w.heap.size+5),P w.heap.size,P (w.heap.size+2),P (w.heap.size+3),P (w.heap.size+4)]] 111)) (KRes ((((((((w.alloc (.cells #[P E.x] 107)).alloc (.cells (polA E.pol) 60)).alloc (.cells #[.int .i64 (f.word:Nat),.int .u64 (f.v:Nat),.slice fa fn fc] 172)).alloc (.cells #[.int .i64 at_] 3)).alloc (.cells #[.bool there] 4)).alloc (.cells (cellA c (.slice ka c.key.length kc) (.slice ha c.held.length hc)) 100)).alloc (.cells res0 37)).alloc (.cells #[.func (.func 137) #[] #[P (w.heap.size+1),P (w.heap.size+5),P w.heap.size,P (w.heap.size+2),P (w.heap.size+3),P (w.heap.size+4)]] 111)) E (.wordLoad SERIAL 1 4611686018427387903 (.serial f at_ there c)))):=cmove_any E 33 1 4611686018427387903 (.serial f at_ there c) _ _ _ ⟨w.heap.size,rfl,bx_allocs w [_,_,_,_,_,_,_,_] 0 rfl⟩ ⟨w.heap.size,w.heap.size+7,_,rfl,bx_allocs w [_,_,_,_,_,_,_,_] 0 rfl,bx_allocs w [_,_,_,_,_,_,_,_] 7 rfl,HT.out⟩
     clear hs hcl hf hk hh hput hx hg hop hse0 hse1 hb8
     go_enter Tryz.func102,Tryz.ntmps102
     go_wp2_with (first|(go_at_call 130;(refine (Km.out).mono ?_);rintro e w2 ⟨v,rfl,hk,hb⟩;have hr2:=HL0.out.keep (fr0 hb) rfl;have hw2:=HW.out.later hb;have Hk:=Lib.hid hk;have Hr2:=Lib.hid hr2;have HW2:=Lib.hid hw2;clear hk hr2 hw2 hb)|(go_at_call 63;(refine (con_any _ _).mono ?_);rintro e w3 ⟨rfl,hb⟩;have hr3:=Hr2.out.keep (fr0 hb) rfl;have hw3:=HW2.out.later hb;have hk3:=Hk.out.keep (fr0 hb);obtain⟨r0,r1,r2,r3,r4,r5,r6⟩:=res_cells hr3;obtain⟨f0,f1,f2,f3,f4,f5,f6⟩:=res_free hr3;have Hr3:=Lib.hid hr3;have HW3:=Lib.hid hw3;have Hk3:=Lib.hid hk3;clear hr3 hw3 hk3 hb))
     rw[Hx.out]
     exact bodyPost_ret (v:= .tuple #[v,.agg (resA false (err 0))]) (by simp [results,Tryz.results102,go_sem,r0,r1,r2,r3,r4,r5,r6]) rfl ((Ans.more HW3.out Hk3.out).store Hr3.out (Nat.le_add_right _ _) HB0.out).ores
end
section
open Go.RowKit Top
set_option linter.unusedVariables false
variable (Bl : Top.Below)
theorem belTrans {w y W:World} (h:RowKit.Below w.heap.size w y) (k:RowKit.Below y.heap.size y W):RowKit.Below w.heap.size w W:=h.trans (k.mono h.size)
theorem KeyAt.alc {w:World} {v:Value} {L:List Nat} {o:Obj} (h:KeyAt w v L):KeyAt (w.alloc o) v L:=h.keep (fr0 ((RowKit.Below.refl _ _).alloc (Nat.le_refl _) o))
theorem KeyAt.dr {w:World} {v:Value} {L:List Nat} (h:KeyAt w v L):KeyAt w.drew v L:=h.keep (fr0 (RowKit.Below.refl _ _).drew)
theorem cmpB_eq : ∀ {a b:List Nat},cmpB a b=0→a=b
 |[],[],_=>rfl
 |[],_::_,h=>by simp [cmpB]at h
 |_::_,[],h=>by simp [cmpB]at h
 |a::la,b::lb,h=>by
   unfold cmpB at h
   split at h
   · cases h
   · split at h
     · cases h
     · have:a=b:=by omega
       rw[this,cmpB_eq h]
theorem findCell_ident {L:List Cell} {pol:Int} {key:List Nat} (hw:WfL L) (h0:0≤pol) (h1:pol<32):(findCell L pol key).pol=pol∧(findCell L pol key).key=key:=by
 unfold findCell
 split
 · rename_i h
   unfold findThere at h
   split at h
   · rename_i c hc
     have hi:=cmpB_eq (by simpa using h)
     have ok:=hw.ok c (List.mem_of_getElem? hc)
     have e:L.getD (findAt L pol key) default=c:=by rw[List.getD_eq_getElem?_getD,hc];rfl
     rw[e]
     unfold ident at hi
     injection hi with e1 e2
     have:=ok.pol0;have:=ok.pol1
     exact⟨by omega,e2⟩
   · cases h
 · exact⟨rfl,rfl⟩
theorem Good.polb {E:Env} {x:Live} (h:Good E x):0≤x.call.pol:=by obtain⟨p,hp,_⟩:=h.pol;omega
theorem KeyAt.s4 {w:World} {v:Value} {L:List Nat} {q:Nat} {a:Array Value} {v0 v1 v2 v3:Value} (hb:Bx w q 100 a) (h:KeyAt w v L):KeyAt ((((w.setCell ⟨q,0,none⟩ v0).setCell ⟨q,1,none⟩ v1).setCell ⟨q,2,none⟩ v2).setCell ⟨q,3,none⟩ v3) v L:=
 ⟨h.1,Row.setOther (Row.setOther (Row.setOther (Row.setOther h.2 hb (by decide) v0) (hb.setCell 0 v0) (by decide) v1) ((hb.setCell 0 v0).setCell 1 v1) (by decide) v2) (((hb.setCell 0 v0).setCell 1 v1).setCell 2 v2) (by decide) v3⟩
end
end Go.Proofs.YtemnhpdjoimjbaaGreatDoor
