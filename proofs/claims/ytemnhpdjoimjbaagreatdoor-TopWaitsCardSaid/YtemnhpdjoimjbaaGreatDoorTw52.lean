import Derived.Test.YtemnhpdjoimjbaaGreatDoorTw51
import Derived.Test.YtemnhpdjoimjbaaGreatDoorTw49
import Derived.Test.YtemnhpdjoimjbaaGreatDoorTw42
import Derived.Test.YtemnhpdjoimjbaaGreatDoorTw44
import Derived.Deep.CutBlock
import Derived.Lib.SlBytesConst
namespace Go.Proofs.YtemnhpdjoimjbaaGreatDoor
section
theorem rung_near {r:Nat} (h:4503599627370496<r): ∃u,4503599627370496*u≤V r∧V (r+1)=V r+u∧V r≤V (r-1)+u:=by
 obtain⟨E,k,rfl,hk,h'⟩:=rung_form r
 have hk2:4503599627370496≤k:=by omega
 have hV:V (E*4503599627370496+k)=k*2^E:=V_at (by omega) (Or.inr hk2)
 refine⟨2^E,?_,?_,?_⟩
 · rw[hV];exact Nat.mul_le_mul_right _ hk2
 · rw[Nat.add_assoc,V_at (by omega) (Or.inr (by omega)),hV,Nat.succ_mul]
 · by_cases hkk:k=4503599627370496
   · obtain⟨D,rfl⟩: ∃D,E=D+1:=⟨E-1,by omega⟩
     rw[hV,show(D+1)*4503599627370496+k-1=D*4503599627370496+9007199254740991 by omega,V_at (by omega) (Or.inr (by omega)),hkk,Nat.pow_succ]
     have:=Nat.two_pow_pos D
     omega
   · rw[hV,show E*4503599627370496+k-1=E*4503599627370496+(k-1)by omega,V_at (by omega) (Or.inr (by omega))]
     rw[← Nat.succ_mul,show(k-1).succ=k by omega]
     exact Nat.le_refl _
theorem near_error {p q r:Nat} (h:IsNear p q r) (hr:4503599627370496<r): ∃u,4503599627370496*u≤V r∧2*(V r*q)≤2*p+u*q∧2*p≤2*(V r*q)+u*q:=by
 obtain⟨u,h1,h2,h3⟩:=rung_near hr
 obtain⟨g1,-⟩:=h.1 (r-1) (by omega)
 have g2:=h.2.1
 refine⟨u,h1,?_,?_⟩
 · have e:V r*q≤(V (r-1)+u)*q:=Nat.mul_le_mul_right _ h3
   rw[Nat.add_mul]at e g1
   omega
 · rw[h2,Nat.add_mul,Nat.add_mul]at g2
   omega
theorem div_of {a b q:Nat} (h1:q*b≤a) (h2:a<(q+1)*b):a/b=q∧a%b=a-q*b:=by
 have hb:0<b:=by
   rcases Nat.eq_zero_or_pos b with h|h
   · subst h;simp at h2
   · exact h
 have h3:a/b=q:=Nat.div_eq_of_lt_le h1 h2
 refine⟨h3,?_⟩
 have:=Nat.div_add_mod a b
 rw[h3,Nat.mul_comm b q]at this
 omega
theorem whole_near {a b t:Nat} (h1:2*a<2*(t*b)+b) (h2:2*(t*b)<2*a+b):wholeN a b 2=t:=by
 by_cases h:t*b≤a
 · obtain⟨e1,e2⟩:=div_of (q:=t) h (by rw[Nat.succ_mul];omega)
   unfold wholeN upN
   rw[e1,e2,decide_eq_false (show ¬b<2*(a-t*b)by omega),decide_eq_false (show ¬2*(a-t*b)=b by omega)]
   rfl
 · obtain⟨s,rfl⟩: ∃s,t=s+1:=⟨t-1,by
     rcases Nat.eq_zero_or_pos t with h'|h'
     · rw[h']at h;simp at h
     · omega⟩
   have e:(s+1)*b=s*b+b:=Nat.succ_mul s b
   rw[e]at h h1 h2
   obtain⟨e1,e2⟩:=div_of (a:=a) (b:=b) (q:=s) (by omega) (by rw[e];omega)
   unfold wholeN upN
   rw[e1,e2,decide_eq_true (show b<2*(a-s*b)by omega)]
   rfl
theorem meets {t hz r:Nat} (h:RatNat t hz r) (ht:t<1125899906842624):tickN r hz 2=t:=by
 obtain⟨hn,h1,h2⟩:=h
 obtain⟨u,g1,g2,g3⟩:=near_error hn h1
 have hU:=pw_pos 1074
 unfold tickN
 generalize pw 1074=U at*
 have e1:4503599627370496*u*hz≤V r*hz:=Nat.mul_le_mul_right _ g1
 rw[Nat.mul_assoc]at e1
 have e2:t*U≤1125899906842623*U:=Nat.mul_le_mul_right _ (by omega)
 generalize u*hz=x at*
 generalize V r*hz=y at*
 exact whole_near (by omega) (by omega)
end
section
open Go.RowKit
set_option linter.unusedVariables false
theorem secs_ticks (W:Nat) (hz:Int) (h1:1≤W) (h2:W≤50) (g1:1≤hz) (g2:hz≤1000000000):
   ∃ x : Nat, (∀ v, Calls Tryz.prog 13 #[.int .i64 (W : Nat), .int .i64 hz] v fun e w' => e = .returned (.tuple #[.float .f64 x, .int .i64 0]) ∧ Below v.heap.size v w') ∧
     ∀v,Tab v→Calls Tryz.prog 14 #[.float .f64 x,.int .i64 hz,.int .i64 2] v fun e w'=>e= .returned (.tuple #[.int .i64 (W:Nat),.int .i64 0])∧Below v.heap.size v w':=by
 obtain⟨x,f,hs⟩:=secw_exists (W:Int) hz
 have k1:=fun v=>seconds_w hs v
 have hx:=(secw_lt hs).1
 have hA:argsT hz 2=true:=by
   unfold argsT
   exact decide_eq_true ⟨by omega,by omega,by decide,by decide⟩
 have k2:=fun v (h:Tab v)=>ticks_any x hz 2 v (by omega) h
 unfold TkRes at k2
 have hr:rg x=x:=rg_pos (by omega)
 have hsg: ¬(sgn x=true∧0<rg x):=by
   rw[sgn_pos (by omega)];simp
 have key:tickN x hz.toNat 2=W∧f=0:=by
   rcases hs with ⟨h,-⟩|⟨-,h3,_⟩|⟨-,h3,rfl,h4⟩
   · have:=secB_no h
     omega
   · omega
   · rw[show hz.natAbs=hz.toNat by omega,show(W:Int).natAbs=W by omega]at h4
     exact⟨meets h4 (by omega),rfl⟩
 obtain⟨e1,rfl⟩:=key
 obtain⟨e2,e3⟩:=tk_some (b:=x) hA (by omega) hsg (by rw[hr,show(2:Int).toNat=2 from rfl,e1];omega)
 rw[hr,show(2:Int).toNat=2 from rfl,e1]at e3
 simp only[e2,e3]at k2
 exact⟨x,k1,k2⟩
end
section
open Go.RowKit Top
set_option linter.unusedVariables false
theorem by_mark {W:World} {b:Nat} (h:W.heap[b]? =some (.cells #[.int .u8 97] 5 (1,2))):ByAt W (.slice (some ⟨b,0,none⟩) 1 1) [97]:=by
 refine⟨fun x hx=> ?_,_,_,rfl,by decide,by decide,fun _=>⟨b,0,rfl,fun j hj=> ?_⟩⟩
 · rw[List.mem_singleton.1 hx];decide
 · obtain rfl:j=0:=by simp at hj;omega
   unfold World.cell?
   simp [h]
theorem all_good {n:Int} (h0:0≤n) (h1:n≤4611686018427387903):CallGood tabL (allC n):=
 ⟨⟨(by decide : 1 ≤ 1), (by decide : 1 ≤ 6), fun _ => ⟨h0, h1⟩, (by decide : 1 ≤ 255), ⟨0, rfl, by decide⟩, fun _ _ => rfl⟩, fun b hb => by
   rw[List.mem_singleton.1 hb];decide,by show _≤n∧n≤_;omega⟩
theorem alone_all (B:Nat) (A:Adr) (s:Top.Sys) (q b:Nat) (cn:Int) (W:World) (r:Reply) (s1:Top.Sys) (eT:A.list=tabL) (eR:A.room=64) (hs:SysAt W B A s.m s.pd) (hok:SysOk tabL 64 s q) (hq:q+600<4611686018427387900) (hp:s.pd 0=none) (h0:0≤cn) (h1:cn≤4611686018427387903)
   (hk:W.heap[b]? =some (.cells #[.int .u8 97] 5 (1,2))) (hal:aloneS tabL 64 BlV 0 512 (startS s 0 (allC cn))=some (r,s1)):
   Calls Tryz.prog 11 #[P A.K,.int .i64 0,.agg #[.int .u8 1,.int .i64 0,.slice (some ⟨b,0,none⟩) 1 1,.int .i64 cn]] W fun e w'=>e= .returned (.tuple #[.agg (replyA r),.bool true])∧SysAt w' B A s1.m s1.pd∧Fz B W w':=by
 have T:=tab_ok (room:=64) (by decide) (by decide)
 refine(alone_any B A s q 0 (allC cn) (.slice (some ⟨b,0,none⟩) 1 1) W r s1 hs (by rw[eT,eR];exact T) (by rw[eT,eR];exact hok) hq (by decide) hp (by rw[eT];exact all_good h0 h1) (by_mark hk) (by rw[eT,eR];exact hal)).mono ?_
 rintro e w' ⟨he,hr⟩
 exact⟨he,hr.sys hs (by decide),hr.fz⟩
theorem Fz.mark {B:Nat} {w w':World} (h:Fz B w w') {b:Nat} (hk:w.heap[b]? =some (.cells #[.int .u8 97] 5 (1,2))):w'.heap[b]? =some (.cells #[.int .u8 97] 5 (1,2)):=by
 obtain⟨X,hf⟩:=h
 exact hf.quiet b _ _ _ hk (.inl rfl)
theorem Fz.boxed {B:Nat} {w w':World} (h:Fz B w w') {b:Nat} {t:TypeId} {a:Array Value} (hb:Bx w b t a) (ht:okT t a.size=true):Bx w' b t a:=by
 obtain⟨X,hf⟩:=h
 exact hb.keep hf ht
def WKeep (B:Nat) (w2:World) (bk cb rb:Nat) (cv rv:Array Value) (W:World):Prop:=
 W.heap[bk]? =some (.cells #[.int .u8 97] 5 (1,2))∧Bx W cb 31 cv∧Bx W rb 35 rv∧Fz B w2 W∧B≤W.heap.size
theorem WKeep.f {B:Nat} {w2:World} {bk cb rb:Nat} {cv rv:Array Value} {W:World} (h:WKeep B w2 bk cb rb cv rv W):Fz B w2 W:=h.2.2.2.1
theorem WKeep.m {B:Nat} {w2:World} {bk cb rb:Nat} {cv rv:Array Value} {W:World} (h:WKeep B w2 bk cb rb cv rv W):W.heap[bk]? =some (.cells #[.int .u8 97] 5 (1,2)):=h.1
theorem WKeep.below {B:Nat} {w2:World} {bk cb rb:Nat} {cv rv:Array Value} {W W':World} (h:WKeep B w2 bk cb rb cv rv W) (hb:Below W.heap.size W W'):WKeep B w2 bk cb rb cv rv W':=
 ⟨(hb.block _ (lt_of_block h.1)).trans h.1,h.2.1.below hb h.2.1.lt,h.2.2.1.below hb h.2.2.1.lt,h.2.2.2.1.below h.2.2.2.2 hb,Nat.le_trans h.2.2.2.2 hb.size⟩
theorem WKeep.fz {B:Nat} {w2:World} {bk cb rb:Nat} {cv rv:Array Value} {W W':World} (h:WKeep B w2 bk cb rb cv rv W) (hf:Fz B W W'):WKeep B w2 bk cb rb cv rv W':=
 ⟨hf.mark h.1,hf.boxed h.2.1 (by simp [okT]),hf.boxed h.2.2.1 (by simp [okT]),h.2.2.2.1.trans hf,Nat.le_trans h.2.2.2.2 hf.bel.size⟩
set_option maxHeartbeats 8000000 in
set_option maxRecDepth 100000 in
theorem waits_walk (v:Value) (L:List Pk) (n hz:Int) (hn:(Lit.int .i64 n).wf=true) (hh:(Lit.int .i64 hz).wf=true) (w:World) (h:PicksAt w v L) (hT:Tab w):
   Calls Tryz.prog 3 #[v,.int .i64 n,.int .i64 hz] w fun e w'=>e= .returned (.bool true)∧Below w.heap.size w w':=by
 have hn1:=i64_of_wf hn
 have hh1:=i64_of_wf hh
 obtain⟨hoks,la,lc,rfl,hl1,hl2,hl3⟩:=h
 have T:=tab_ok (room:=64) (by decide) (by decide)
 have Ht:=Lib.hid T;have HT:=Lib.hid hT
 have Hl:=Lib.hid hl3;have Hoks:=Lib.hid hoks;have Hn1:=Lib.hid hn1;have Hh1:=Lib.hid hh1
 have hll:L.length≤9223372036854775807:=by unfold maxLen at hl2;omega
 have Kn:Hid (∀W lv,PolsAt W lv tabL→Calls Tryz.prog 4 #[lv,.int .i64 64] W fun e w'=> ∃A:Adr,e= .returned (.tuple #[P A.K,.int .i64 0])∧A.list=tabL∧A.room=64∧SysAt w' W.heap.size A m0 (fun _=>none)∧Below W.heap.size W w'):=fun W lv hl=>new_sys lv 64 W hl (by decide) (by decide)
 clear hn hh hl1 hl2 hl3 hoks T hT hn1 hh1
 go_enter Tryz.func3,Tryz.ntmps3
 go_upto_region 5 with (first
   |(go_at_call 5;(with_reducible refine(table_any _).mono ?_);rintro e w1 ⟨lv,rfl,hp1,hb1⟩;have Hp1:=Lib.hid hp1;have Hb1:=Lib.hid hb1;clear hp1 hb1)
   |(go_at_call 4;(with_reducible refine(Kn.out _ _ Hp1.out).mono ?_);rintro e w2 ⟨A,rfl,hA1,hA2,hsys,hb2⟩;have HA:=Lib.hid (And.intro hA1 (And.intro hA2 hsys));have Hb2:=Lib.hid hb2;clear hA1 hA2 hsys hb2))
 generalize hB:w1.heap.size=B at*
 have HB:=Lib.hid hB
 have Hle:Hid (w.heap.size≤B):=by rw[← hB];exact Hb1.out.size
 clear hB
 go_loopw [41] (fun i wr=> ∃(k:Nat) (s:Top.Sys) (q:Nat),i= .int .i64 k∧k≤L.length∧SysAt wr B A s.m s.pd∧WtS (q+1) (40*q) s∧q≤200∧q≤k∧Fz B w2 wr) (fun i _=>L.length-(intOf i).toNat)
 case atStart=>exact⟨0,⟨m0,fun _=>none⟩,0,rfl,Nat.zero_le _,HA.out.2.2,wt0,by decide,Nat.le_refl _,Fz.refl _ _⟩
 case round=>
   obtain⟨k,s,q,rfl,hk,hsys,hok,hq1,hq2,hfz⟩:=hrel
   have Hsys:=Lib.hid hsys;have Hok:=Lib.hid hok;have Hfz:=Lib.hid hfz
   have Hq:=Lib.hid (And.intro hq1 hq2)
   clear hsys hok hfz hq1 hq2
   by_cases hA:k<L.length
   · obtain⟨b,off,rfl,hcl⟩:=Hl.out (by omega)
     obtain⟨p,hp⟩: ∃p,L[k]? =some p:=⟨_,List.getElem?_eq_getElem hA⟩
     obtain⟨pv,hby,y0,y1,y2,y3,y4,y5,y6⟩:=hcl k p hp
     have hpok:=Hoks.out p (List.mem_of_getElem? hp)
     have hww:Below w.heap.size w wr:=Hfz.out.later Hle.out (Hb1.out.trans (Hb2.out.mono Hle.out))
     have z0:=cell_later hww y0;have z1:=cell_later hww y1;have z2:=cell_later hww y2;have z3:=cell_later hww y3;have z4:=cell_later hww y4;have z5:=cell_later hww y5;have z6:=cell_later hww y6
     have hbyr:=hby.below hww
     obtain⟨qa,qc,rfl⟩: ∃a c',pv= .slice a p.c.key.length c':=by obtain⟨_,a,c',e,_⟩:=hby;exact⟨a,c',e⟩
     have hff:=fit_fits hpok hby.1
     have hBw:=Hsys.out.st.below.2.2.2
     have Kf:Hid (∀W,Below wr.heap.size wr W→Calls Tryz.prog 7 #[.agg #[.int .u8 (p.kind:Nat),.int .i64 p.who,.int .u8 (p.c.op:Nat),.int .i64 p.c.pol,.slice qa p.c.key.length qc,.int .i64 p.c.n,.int .i64 p.N]] W fun e w'=> ∃kv',e= .returned (.agg (pickA (fitP p) kv'))∧ByAt w' kv' (fitP p).c.key∧Below W.heap.size W w'):=fun W hb=>fit_any p _ W (hbyr.below hb) hpok
     have eT:tabL=A.list:=HA.out.1.symm
     have eR:64=A.room:=HA.out.2.1.symm
     have hok':SysOk A.list A.room s (q+1):=by rw[← eT,←eR];exact Hok.out.ok
     have hfit':PkFit A.list (fitP p):=by rw[← eT];exact hff.1
     have HT':TabOk A.list A.room:=by rw[← eT,←eR];exact Ht.out
     have hps:=Hok.out.play (by have:=Hq.out;omega) (by have:=Hq.out;omega) hff.1
     have Kp:Hid (∀W kv',Below wr.heap.size wr W→ByAt W kv' (fitP p).c.key→Calls Tryz.prog 6 #[P A.K,.agg (pickA (fitP p) kv')] W fun e w'=>(∃v,e= .returned v)∧SysAt w' B A (playS tabL 64 s (fitP p)).m (playS tabL 64 s (fitP p)).pd∧Fz B w2 w'):=fun W kv' hb hk=>by
       refine(play_any B A s (q+1) (fitP p) kv' W (Hsys.out.keep hb) HT' hok' (by have:=Hq.out;omega) hfit' hk).mono ?_
       rintro e w' ⟨h1,h2,h3⟩
       rw[← eT,←eR]at h2
       exact⟨h1,h2,(Hfz.out.below hBw hb).trans h3⟩
     have Hps:=Lib.hid hps
     clear hcl hp hby y0 y1 y2 y3 y4 y5 y6 hpok hww hbyr hff eT eR hok' hfit' HT' hps
     generalize playS tabL 64 s (fitP p)=s1 at*
     generalize hpk:pickA (fitP p)=PA at*
     clear hpk
     by_cases h300:k<200
     · have hd2:(k:Int)<200:=by omega
       go_upto_region 7 with (fail)
       refine wp_name (fun y=>Below wr.heap.size wr y∧Bx y wr.heap.size 33 #[.int .u8 (p.kind:Nat),.int .i64 p.who,.int .u8 (p.c.op:Nat),.int .i64 p.c.pol,.slice qa p.c.key.length qc,.int .i64 p.c.n,.int .i64 p.N]) ⟨below_allocs [_] wr,Bx.new wr _ _⟩ ?_
       rintro y ⟨hy,hbx⟩
       have x0:=hbx.cell 0;have x1:=hbx.cell 1;have x2:=hbx.cell 2;have x3:=hbx.cell 3;have x4:=hbx.cell 4;have x5:=hbx.cell 5;have x6:=hbx.cell 6
       have Hy:=Lib.hid hy
       clear hy hbx z0 z1 z2 z3 z4 z5 z6
       go_wp2_with (first
         |(go_at_call 7;(with_reducible refine(Kf.out _ Hy.out).mono ?_);rintro e w3 ⟨kv',rfl,hk3,hb3⟩;have Hk3:=Lib.hid hk3;have Hb3:=Lib.hid (below_then Hy.out hb3);clear hk3 hb3)
         |(go_at_call 6;(with_reducible refine(Kp.out _ _ Hb3.out Hk3.out).mono ?_);rintro e w4 ⟨⟨pv4,rfl⟩,hs4,hf4⟩;have Hs4:=Lib.hid (And.intro hs4 hf4);clear hs4 hf4))
       go_roundw
       case rel=>exact⟨k+1,s1,q+1,by go_num,by omega,Hs4.out.1,Hps.out.mono (Nat.le_refl _) (by omega),by have:=Hq.out;omega,by have:=Hq.out;omega,Hs4.out.2⟩
       case measure=>simp [intOf];omega
     · have hd2: ¬(k:Int)<200:=by omega
       have hya:Below wr.heap.size wr (wr.alloc (.cells #[.int .u8 (p.kind:Nat),.int .i64 p.who,.int .u8 (p.c.op:Nat),.int .i64 p.c.pol,.slice qa p.c.key.length qc,.int .i64 p.c.n,.int .i64 p.N] 33)):=below_allocs [_] wr
       have Hya:=Lib.hid (And.intro (Hsys.out.keep hya) (Hfz.out.below hBw hya))
       clear hya
       go_wp2_with fail
       go_roundw
       case rel=>exact⟨k+1,s,q,by go_num,by omega,Hya.out.1,Hok.out,Hq.out.1,by have:=Hq.out;omega,Hya.out.2⟩
       case measure=>simp [intOf];omega
   · obtain rfl:k=L.length:=by omega
     have hq200:=Hq.out.1
     have Hok0:=Lib.hid (Hok.out.mono (Nat.le_refl _) (by omega:(40*(q:Int))≤8000))
     have Hq1:=Lib.hid (by omega:q+1≤201)
     clear hq200 Hq Hok hk hA
     generalize hq1e:q+1=q1 at*
     clear hq1e
     go_upto_region 11 with (fail)
     go_loopw [53] (fun i wr=> ∃(j:Nat) (s:Top.Sys) (q:Nat),i= .int .i64 j∧j≤5∧SysAt wr B A s.m s.pd∧WtS q 8000 s∧q≤201+j*502∧(j≠0→s.pd 0=none)∧Fz B w2 wr) (fun i _=>5-(intOf i).toNat)
     case atStart=>exact⟨0,s,q1,rfl,by decide,Hsys.out,Hok0.out,Hq1.out,fun h=>absurd rfl h,Hfz.out⟩
     case round=>
       clear Hsys Hok0 Hq1 Hfz
       obtain⟨j,s,q,rfl,hj,hsys,hok,hq,hp0,hfz⟩:=hrel
       by_cases hA:j<5
       · have hfin:=hok.fin (who:=j) (by omega)
         have Hst:=Lib.hid (And.intro hsys (And.intro hok (And.intro hq (And.intro hp0 (And.intro hfz hfin)))))
         clear hsys hok hq hp0 hfz hfin hj
         go_upto_region 14 with (fail)
         go_loopw [12] (fun i wr=> ∃(k:Nat) (s:Top.Sys) (q:Nat),i= .int .i64 k∧SysAt wr B A s.m s.pd∧WtS q 8000 s∧q≤201+j*502+k∧(j≠0→s.pd 0=none)∧Fin j k s∧Fz B w2 wr) (fun i _=>600-(intOf i).toNat)
         case atStart=>exact⟨0,s,q,rfl,Hst.out.1,Hst.out.2.1,Hst.out.2.2.1,Hst.out.2.2.2.1,Hst.out.2.2.2.2.2,Hst.out.2.2.2.2.1⟩
         case round=>
           clear Hst
           obtain⟨k,s,q,rfl,hsys,hok,hq,hp0,hfin,hfz⟩:=hrel
           have hk:=hfin.1
           cases hpd:s.pd j with
           | none =>
             have Kp:Hid (Calls Tryz.prog 8 #[P A.K,.int .i64 j] wr fun e w'=>e= .returned (.bool false)∧wr=w'):=by
               have:=pending_sys B A s.m s.pd j wr hsys (by omega)
               rw[hpd]at this
               exact this
             have Hst:=Lib.hid (And.intro hsys (And.intro hok (And.intro hq (And.intro hp0 (And.intro hfz hpd)))))
             clear hsys hok hq hp0 hfz hfin hpd
             go_wp2_with (go_at_call 8;(with_reducible refine Kp.out.mono ?_);rintro e w3 ⟨rfl,rfl⟩)
             go_roundw
             case rel=>exact⟨j+1,s,q,by go_num,by omega,Hst.out.1,Hst.out.2.1,by have:=Hst.out.2.2.1;omega,fun _=>by
               by_cases hj0:j=0
               · have:=Hst.out.2.2.2.2.2;rw[hj0]at this;exact this
               · exact Hst.out.2.2.2.1 hj0,Hst.out.2.2.2.2.1⟩
             case measure=>simp [intOf];omega
           | some xk =>
             obtain⟨x,kk⟩:=xk
             have eT:tabL=A.list:=HA.out.1.symm
             have eR:64=A.room:=HA.out.2.1.symm
             have hps:(s.pd j).isSome=true:=by rw[hpd];rfl
             have hst:=hok.step (who:=j) (by omega) (by omega)
             have hfs:=hok.finstep (who:=j) (k:=k) (by omega) (by omega) hfin hps
             have Kp:Hid (Calls Tryz.prog 8 #[P A.K,.int .i64 j] wr fun e w'=>e= .returned (.bool true)∧wr=w'):=by
               have:=pending_sys B A s.m s.pd j wr hsys (by omega)
               rw[hpd]at this
               exact this
             have Ks:Hid (Calls Tryz.prog 9 #[P A.K,.int .i64 j] wr fun e w'=>(∃v,e= .returned v)∧SysAt w' B A (stepS tabL 64 BlV s j).1.m (stepS tabL 64 BlV s j).1.pd∧Fz B w2 w'):=by
               refine(core_step B A s q j x kk wr hsys (by rw[← eT,←eR];exact Ht.out) (by rw[← eT,←eR];exact hok.ok) (by omega) (by omega) hpd).mono ?_
               rintro e w' ⟨h1,h2⟩
               rw[← eT,←eR]at h2
               exact⟨⟨_,h1⟩,h2.sys hsys (by omega),hfz.trans h2.fz⟩
             have hk5:=hfs.2
             have hn0:j≠0→(stepS tabL 64 BlV s j).1.pd 0=none:=fun h=>by
               rw[hst.2.1 0 (fun e=>h e.symm)];exact hp0 h
             have Hst:=Lib.hid (And.intro hst.1 (And.intro hfs.1 (And.intro hq hn0)))
             clear hsys hok hq hp0 hfz hfin hpd hps hst hfs hn0 eT eR
             generalize (stepS tabL 64 BlV s j).1=s1 at*
             have hd2: ¬(512:Int)<k:=by omega
             go_wp2_with (first
               |(go_at_call 8;(with_reducible refine Kp.out.mono ?_);rintro e w3 ⟨rfl,rfl⟩)
               |(go_at_call 9;(with_reducible refine Ks.out.mono ?_);rintro e w4 ⟨⟨pv4,rfl⟩,hs4,hf4⟩;have Hs4:=Lib.hid (And.intro hs4 hf4);clear hs4 hf4))
             go_roundw
             case rel=>
               refine⟨_,_,_,_,_,_,_,_,_,_,_,_,?_,by rw[show decide ((j:Int)<5)=true from decide_eq_true (by omega)]⟩
               exact⟨k+1,s1,q+1,by go_num,Hs4.out.1,Hst.out.1,by have:=Hst.out.2.2.1;omega,Hst.out.2.2.2,Hst.out.2.1,Hs4.out.2⟩
             case measure=>simp [intOf];omega
       · obtain rfl:j=5:=by omega
         have Hst:=Lib.hid (And.intro hsys (And.intro hok (And.intro hq (And.intro (hp0 (by decide)) hfz))))
         clear hsys hok hq hp0 hfz hj hA
         have hcl:=clampI_tick n
         obtain⟨r,s1,pa1,pa2,pa3,pa4⟩:=waits_plain Hst.out.2.1.ok Hst.out.2.1.tat (by have:=Hst.out.2.2.1;omega) Hst.out.2.2.2.1 (by have:=Hst.out.2.1.clk;omega) hcl.1 hcl.2
         have Hpl:=Lib.hid (And.intro pa1 (And.intro pa2 (And.intro pa3 pa4)))
         have Hcl:=Lib.hid hcl
         clear pa1 pa2 pa3 pa4 hcl
         generalize hcn:clampI n=cn at*
         have Kc:Hid (∀W,Calls Tryz.prog 10 #[.int .i64 n] W fun e w'=>e= .returned (.int .i64 cn)∧Below W.heap.size W w'):=fun W=>by
           have:=rclamp_any n W Hn1.out.2
           rw[hcn]at this
           exact this
         clear hcn
         have hcv:=Lib.run_convert_bytes_const (P:=Tryz.prog) wr 29 5 #[.int .u8 97] 1 1 Tryz.underlying29 Tryz.underlying5
         go_upto_region 21 with (go_at_call 10;(with_reducible refine(Kc.out _).mono ?_);rintro e w3 ⟨rfl,hb3⟩;have Hb3:=Lib.hid hb3;clear hb3)
         refine wp_name (fun y=>Below wr.heap.size wr y∧y.heap[wr.heap.size]? =some (.cells #[.int .u8 97] 5 (1,2))∧Bx y w3.heap.size 31 #[.int .u8 1,.int .i64 0,.slice (some ⟨wr.heap.size,0,none⟩) 1 1,.int .i64 cn]) ⟨?_,?_,Bx.new w3 _ _⟩ ?_
         · exact((below_allocs [.cells #[.int .u8 97] 5 (1,2)] wr).trans (Hb3.out.mono (by simp))).alloc (by have:=Hb3.out.size;simp at this;omega) _
         · have h3:=Hb3.out.block wr.heap.size (by simp)
           have h4:w3.heap[wr.heap.size]? =some (.cells #[.int .u8 97] 5 (1,2)):=h3.trans (heap_alloc_new wr _)
           have hlt:=lt_of_block h4
           show(w3.heap.push _)[wr.heap.size]? =_
           rw[Array.getElem?_push_lt hlt,←Array.getElem?_eq_getElem hlt]
           exact h4
         rintro y ⟨hy,hmk,hbx⟩
         have x0:=hbx.cell 0;have x1:=hbx.cell 1;have x2:=hbx.cell 2;have x3:=hbx.cell 3
         have eT:=HA.out.1;have eR:=HA.out.2.1
         have hBw:=Hst.out.1.st.below.2.2.2
         have Ka:=Lib.hid (alone_all B A s q wr.heap.size cn y r s1 eT eR (Hst.out.1.keep hy) Hst.out.2.1.ok (by have:=Hst.out.2.2.1;omega) Hst.out.2.2.2.1 Hcl.out.1 Hcl.out.2 hmk Hpl.out.1)
         have Hy:=Lib.hid (And.intro hmk (And.intro hbx (Hst.out.2.2.2.2.below hBw hy)))
         clear hy hmk hbx eT eR hBw
         go_upto_region 22 with (go_at_call 11;(with_reducible refine Ka.out.mono ?_);rintro e w4 ⟨rfl,hs4,hf4⟩;have Hs4:=Lib.hid (And.intro hs4 (And.intro hf4 (And.intro (hf4.mark Hy.out.1) (And.intro (hf4.boxed Hy.out.2.1 rfl) (Hy.out.2.2.trans hf4)))));clear hs4 hf4)
         refine wp_name (fun u=>Below w4.heap.size w4 u∧Bx u w4.heap.size 35 #[.int .i64 r.e,.bool r.granted,.int .i64 r.left,.int .i64 r.wait,.int .i64 r.serial,.int .i64 r.now]) ⟨below_allocs [_] w4,Bx.new w4 _ _⟩ ?_
         rintro u ⟨hu,hbu⟩
         have hB4:=Hs4.out.1.st.below.2.2.2
         have hcb:=Hs4.out.2.2.2.1
         have lcb:w3.heap.size<w4.heap.size:=hcb.lt
         have lmk:wr.heap.size<w4.heap.size:=lt_of_block Hs4.out.2.2.1
         have HU:=Lib.hid (And.intro (Hs4.out.1.keep hu) (And.intro ((hu.block _ lmk).trans Hs4.out.2.2.1) (And.intro (hcb.below hu lcb) (And.intro hbu (Hs4.out.2.2.2.2.below hB4 hu)))))
         have hww: ∀W,Fz B w2 W→Below w.heap.size w W:=fun W hf=>hf.later Hle.out (Hb1.out.trans (Hb2.out.mono Hle.out))
         have Hww:=Lib.hid hww
         have Hpl2:=Lib.hid Hpl.out.2
         have r0:=hbu.cell 0;have r1:=hbu.cell 1;have r3:=hbu.cell 3
         have x0:=HU.out.2.2.1.cell 0;have x1:=HU.out.2.2.1.cell 1;have x2:=HU.out.2.2.1.cell 2;have x3:=HU.out.2.2.1.cell 3
         clear hu hbu hB4 hcb lcb lmk hww Ka Hy Kc hcv Hs4 Hb3 Hpl
         rcases Hpl2.out.2.2 with rfl|⟨he,hg⟩|⟨he,hg,hw⟩
         · clear Hpl2 Hst
           go_wp2_with fail
           go_ret
           exact⟨rfl,Hww.out _ HU.out.2.2.2.2⟩
         · clear Hpl2 Hst
           rw[he]at r0
           rw[hg]at r1
           go_wp2_with fail
           go_ret
           exact⟨rfl,Hww.out _ HU.out.2.2.2.2⟩
         · rw[he]at r0
           rw[hg]at r1
           rcases hw with ⟨hw,r2,s2,pb1,pb2⟩|⟨Wt,hw,hW1,hW50,r2,s2,r3',s3,pb1,pb2,pb3,pb4,pb5,pb6,pb7,pb8⟩
           · rw[hw]at r3
             have ok1:SysOk tabL 64 (tickS s1 1099511627776) (q+512):=Hpl2.out.1.tick (clampI_tick _).1 (clampI_tick _).2
             have hq:=Hst.out.2.2.1
             have Kt:=Lib.hid (tick_sys B A s1 1099511627776 u HU.out.1 (by decide) (by decide))
             have Ka2:Hid (∀W,SysAt W B A (tickS s1 1099511627776).m (tickS s1 1099511627776).pd→W.heap[wr.heap.size]? =some (.cells #[.int .u8 97] 5 (1,2))→_):=fun W h1 h2=>alone_all B A (tickS s1 1099511627776) (q+512) wr.heap.size cn W r2 s2 HA.out.1 HA.out.2.1 h1 ok1 (by omega) Hpl2.out.2.1 Hcl.out.1 Hcl.out.2 h2 pb1
             clear ok1 hq Hpl2 pb1 Hst
             generalize tickS s1 1099511627776=s1' at*
             go_upto_region 26 with (go_at_call 12;(with_reducible refine Kt.out.mono ?_);rintro e w5 ⟨rfl,hs5,hf5⟩;have H5:=Lib.hid (And.intro hs5 (And.intro (hf5.mark HU.out.2.1) (And.intro (hf5.boxed HU.out.2.2.1 rfl) (HU.out.2.2.2.2.trans hf5))));clear hs5 hf5)
             clear x0 x1 x2 x3 r0 r1 r3
             have x0:=H5.out.2.2.1.cell 0;have x1:=H5.out.2.2.1.cell 1;have x2:=H5.out.2.2.1.cell 2;have x3:=H5.out.2.2.1.cell 3
             go_wp2_with (go_at_call 11;(with_reducible refine(Ka2.out _ H5.out.1 H5.out.2.1).mono ?_);rintro e w6 ⟨rfl,hs6,hf6⟩;have H6:=Lib.hid (And.intro hs6 (H5.out.2.2.2.trans hf6));clear hs6 hf6)
             go_ret
             exact⟨rfl,Hww.out _ (H6.out.2.below H6.out.1.st.below.2.2.2 (below_allocs [_] w6))⟩
           · rw[hw]at r3
             have hne: ¬((Wt:Int)=4611686018427387903):=by omega
             obtain⟨cz,hcz⟩: ∃cz,clampI hz=cz:=⟨_,rfl⟩
             have hcz0:0≤cz∧cz≤4611686018427387903:=by rw[← hcz];exact clampI_tick hz
             have Kz:Hid (∀W,Calls Tryz.prog 10 #[.int .i64 hz] W fun e w'=>e= .returned (.int .i64 cz)∧Below W.heap.size W w'):=fun W=>by
               have:=rclamp_any hz W Hh1.out.2
               rw[hcz]at this
               exact this
             clear hcz
             go_upto_region 29 with (go_at_call 10;(with_reducible refine(Kz.out _).mono ?_);rintro e w5 ⟨rfl,hb5⟩;have Hb5:=Lib.hid hb5;clear hb5)
             obtain⟨hw5,hhw⟩: ∃hw5,max (cz%1000000000) 1=hw5:=⟨_,rfl⟩
             have hh1:1≤hw5∧hw5≤1000000000:=by rw[← hhw];omega
             rw[hhw]
             obtain⟨xf,kse,kti⟩:=secs_ticks Wt hw5 hW1 hW50 hh1.1 hh1.2
             have Kse:=Lib.hid kse;have Kti:=Lib.hid kti
             have hK0:WKeep B w2 wr.heap.size w3.heap.size w4.heap.size _ _ u:=⟨HU.out.2.1,HU.out.2.2.1,HU.out.2.2.2.1,HU.out.2.2.2.2,HU.out.1.st.below.2.2.2⟩
             have H5:=Lib.hid (And.intro (HU.out.1.keep Hb5.out) (hK0.below Hb5.out))
             have HTw:Hid (∀W,Fz B w2 W→Tab W):=fun W hf=>HT.out.later (Hww.out W hf)
             clear hhw hh1 kse kti hK0 x0 x1 x2 x3 r0 r1 r3 hcz0
             have r0:=H5.out.2.2.2.1.cell 0;have r1:=H5.out.2.2.2.1.cell 1;have r3:=H5.out.2.2.2.1.cell 3
             rw[hw]at r3
             go_upto_region 31 with (first
               |(go_at_call 13;(with_reducible refine(Kse.out _).mono ?_);rintro e w6 ⟨rfl,hb6⟩;have H6:=Lib.hid (And.intro (H5.out.1.keep hb6) (H5.out.2.below hb6));clear hb6)
               |(go_at_call 14;(with_reducible refine(Kti.out _ (HTw.out _ H6.out.2.f)).mono ?_);rintro e w7 ⟨rfl,hb7⟩;have H7:=Lib.hid (And.intro (H6.out.1.keep hb7) (H6.out.2.below hb7));clear hb7))
             clear r0 r1 r3
             have r3:=H7.out.2.2.2.1.cell 3
             rw[hw]at r3
             have hlt:(Wt:Int)<1125899906842624:=by omega
             have ok1:SysOk tabL 64 (tickS s1 ((Wt:Int)-1)) (q+512):=Hpl2.out.1.tick (clampI_tick _).1 (clampI_tick _).2
             have ok2:SysOk tabL 64 (tickS s2 1) (q+1024):=pb2.tick (clampI_tick _).1 (clampI_tick _).2
             have hq:=Hst.out.2.2.1
             have Kt1:=Lib.hid (tick_sys B A s1 ((Wt:Int)-1) w7 H7.out.1 (by omega) (by omega))
             have Kt2:Hid (∀W,SysAt W B A s2.m s2.pd→_):=fun W h1=>tick_sys B A s2 1 W h1 (by decide) (by decide)
             have Ka2:Hid (∀W,SysAt W B A (tickS s1 ((Wt:Int)-1)).m (tickS s1 ((Wt:Int)-1)).pd→W.heap[wr.heap.size]? =some (.cells #[.int .u8 97] 5 (1,2))→_):=fun W h1 h2=>alone_all B A (tickS s1 ((Wt:Int)-1)) (q+512) wr.heap.size cn W r2 s2 HA.out.1 HA.out.2.1 h1 ok1 (by omega) Hpl2.out.2.1 Hcl.out.1 Hcl.out.2 h2 pb1
             have Ka3:Hid (∀W,SysAt W B A (tickS s2 1).m (tickS s2 1).pd→W.heap[wr.heap.size]? =some (.cells #[.int .u8 97] 5 (1,2))→_):=fun W h1 h2=>alone_all B A (tickS s2 1) (q+1024) wr.heap.size cn W r3' s3 HA.out.1 HA.out.2.1 h1 ok2 (by omega) pb3 Hcl.out.1 Hcl.out.2 h2 pb6
             clear ok1 ok2 hq Hpl2 pb1 pb2 pb3 pb6 Hst Kse Kti Kz Hb5 H5 H6
             generalize tickS s1 ((Wt:Int)-1)=s1' at*
             generalize tickS s2 1=s2' at*
             go_upto_region 36 with (go_at_call 12;(with_reducible refine Kt1.out.mono ?_);rintro e w8 ⟨rfl,hs8,hf8⟩;have H8:=Lib.hid (And.intro hs8 (H7.out.2.fz hf8));clear hs8 hf8)
             clear r3
             have x0:=H8.out.2.2.1.cell 0;have x1:=H8.out.2.2.1.cell 1;have x2:=H8.out.2.2.1.cell 2;have x3:=H8.out.2.2.1.cell 3
             go_upto_region 37 with (go_at_call 11;(with_reducible refine(Ka2.out _ H8.out.1 H8.out.2.m).mono ?_);rintro e w9 ⟨rfl,hs9,hf9⟩;have H9:=Lib.hid (And.intro hs9 (H8.out.2.fz hf9));clear hs9 hf9)
             refine wp_name (fun u=>Below w9.heap.size w9 u∧Bx u w9.heap.size 35 #[.int .i64 r2.e,.bool false,.int .i64 r2.left,.int .i64 1,.int .i64 r2.serial,.int .i64 r2.now]) ⟨below_allocs [_] w9,Bx.new w9 _ _⟩ ?_
             rintro u2 ⟨hu,hbu⟩
             have H10:=Lib.hid (And.intro (H9.out.1.keep hu) (H9.out.2.below hu))
             clear x0 x1 x2 x3 hu
             have x0:=H10.out.2.2.1.cell 0;have x1:=H10.out.2.2.1.cell 1;have x2:=H10.out.2.2.1.cell 2;have x3:=H10.out.2.2.1.cell 3
             have e1:=hbu.cell 1
             have e3:=hbu.cell 3
             clear hbu
             go_upto_region 40 with (go_at_call 12;(with_reducible refine(Kt2.out _ H10.out.1).mono ?_);rintro e w11 ⟨rfl,hs11,hf11⟩;have H11:=Lib.hid (And.intro hs11 (H10.out.2.fz hf11));clear hs11 hf11)
             clear x0 x1 x2 x3 e1 e3
             have x0:=H11.out.2.2.1.cell 0;have x1:=H11.out.2.2.1.cell 1;have x2:=H11.out.2.2.1.cell 2;have x3:=H11.out.2.2.1.cell 3
             go_upto_region 41 with (go_at_call 11;(with_reducible refine(Ka3.out _ H11.out.1 H11.out.2.m).mono ?_);rintro e w12 ⟨rfl,hs12,hf12⟩;have H12:=Lib.hid (And.intro hs12 (H11.out.2.fz hf12));clear hs12 hf12)
             refine wp_name (fun u=>Below w12.heap.size w12 u∧Bx u w12.heap.size 35 #[.int .i64 r3'.e,.bool true,.int .i64 r3'.left,.int .i64 0,.int .i64 r3'.serial,.int .i64 r3'.now]) ⟨below_allocs [_] w12,Bx.new w12 _ _⟩ ?_
             rintro u3 ⟨hu,hbu⟩
             have e1:=hbu.cell 1
             have e3:=hbu.cell 3
             have H13:=Lib.hid (H12.out.2.below hu)
             clear hbu hu x0 x1 x2 x3
             go_wp2_with fail
             go_ret
             exact⟨rfl,Hww.out _ H13.out.f⟩
end
end Go.Proofs.YtemnhpdjoimjbaaGreatDoor
