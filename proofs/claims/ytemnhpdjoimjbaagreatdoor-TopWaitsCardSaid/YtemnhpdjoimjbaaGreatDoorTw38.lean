import Derived.Test.YtemnhpdjoimjbaaGreatDoorTw37
import Derived.Laws.EntriesVeiled
import Derived.Test.YtemnhpdjoimjbaaGreatDoorTw14
import Derived.Test.YtemnhpdjoimjbaaGreatDoorTw01
import Derived.Test.YtemnhpdjoimjbaaGreatDoorTw09
import Derived.Deep.QuietTactic
import Derived.WalkSmall
import Derived.Test.YtemnhpdjoimjbaaGreatDoorTw21
import Derived.Test.YtemnhpdjoimjbaaGreatDoorTw35
section
namespace Go.Proofs.YtemnhpdjoimjbaaGreatDoor
open Go.RowKit Top
set_option linter.unusedVariables false
theorem kont_fn {w:World} {E:Env} {v:Value} {k:Kont} (h:KontAt w E v k): ∃f ps,v= .func (.func f) #[] ps:=by
 cases k<;>first|(obtain ⟨_,e,_⟩:=h;exact⟨_,_,e⟩)|(obtain ⟨_,_,e,_⟩:=h;exact⟨_,_,e⟩)|(obtain ⟨_,_,_,e,_⟩:=h;exact⟨_,_,e⟩)|(obtain ⟨_,_,_,_,e,_⟩:=h;exact⟨_,_,e⟩)|(obtain ⟨_,_,_,_,_,e,_⟩:=h;exact⟨_,_,e⟩)|(obtain ⟨_,_,_,_,_,_,e,_⟩:=h;exact⟨_,_,e⟩)|(obtain ⟨_,_,_,_,_,_,_,e,_⟩:=h;exact⟨_,_,e⟩)|(obtain ⟨_,_,_,_,_,_,_,_,e,_⟩:=h;exact⟨_,_,e⟩)|(obtain ⟨_,_,_,_,_,_,_,_,_,e,_⟩:=h;exact⟨_,_,e⟩)|(obtain ⟨_,_,_,_,_,_,_,_,_,_,e,_⟩:=h;exact⟨_,_,e⟩)
theorem out_fn {w:World} {E:Env} {v:Value} {d:Bool} {a:Reply} {o:Kont ⊕ Reply} {k:Kont} (e:o= .inl k) (h:OutAt w E v d a o): ∃f ps,v= .func (.func f) #[] ps:=by
 subst e
 exact kont_fn h.1
theorem out_nil {w:World} {E:Env} {v:Value} {d:Bool} {a:Reply} {o:Kont ⊕ Reply} {r:Reply} (e:o= .inr r) (h:OutAt w E v d a o):v= .nilFunc:=by
 subst e
 exact h.1
theorem Out.store' {w w2:World} {B r:Nat} {X:List Nat} {E:Env} {o:Out} {v:Value} {d:Bool} {a:Reply} (hr:Bx w2 r 37 res0) (hnew:w.heap.size≤r) (hB:B≤w.heap.size) (ho:OutAt w2 E v d a o.1) (hc:CallAt w2 E o.2.1) (hs:St w2 B E.A o.2.2) (hf:Fr B X w w2):
   ∃W,W=(((((((w2.setCell ⟨r,0,none⟩ (.bool d)).setCell ⟨r,1,none⟩ (.int .i64 a.e)).setCell ⟨r,2,none⟩ (.bool a.granted)).setCell ⟨r,3,none⟩ (.int .i64 a.left)).setCell ⟨r,4,none⟩ (.int .i64 a.wait)).setCell ⟨r,5,none⟩ (.int .i64 a.serial)).setCell ⟨r,6,none⟩ (.int .i64 a.now))∧Bx W r 37 (resA d a)∧OutAt W E v d a o.1∧CallAt W E o.2.1∧St W B E.A o.2.2∧Fr B X w W:=by
 have b0:=hr.setCell 0 (.bool d)
 have b1:=b0.setCell 1 (.int .i64 a.e)
 have b2:=b1.setCell 2 (.bool a.granted)
 have b3:=b2.setCell 3 (.int .i64 a.left)
 have b4:=b3.setCell 4 (.int .i64 a.wait)
 have b5:=b4.setCell 5 (.int .i64 a.serial)
 have b6:=b5.setCell 6 (.int .i64 a.now)
 refine⟨_,rfl,b6,?_,((((((hc.setRes hr _).setRes b0 _).setRes b1 _).setRes b2 _).setRes b3 _).setRes b4 _).setRes b5 _,((((((hs.setRes hr _).setRes b0 _).setRes b1 _).setRes b2 _).setRes b3 _).setRes b4 _).setRes b5 _,?_⟩
 · rcases h:o.1 with k|r'
   · rw[h]at ho
     obtain⟨hk,rfl,rfl⟩:=ho
     exact⟨outKont hr hk,rfl,rfl⟩
   · rw[h]at ho
     obtain⟨e1,e2,e3⟩:=ho
     exact⟨e1,e2,e3⟩
 · have hb:B≤r:=Nat.le_trans hB hnew
   exact((((((hf.setNew (p:=⟨r,0,none⟩) hb hnew _).setNew (p:=⟨r,1,none⟩) hb hnew _).setNew (p:=⟨r,2,none⟩) hb hnew _).setNew (p:=⟨r,3,none⟩) hb hnew _).setNew (p:=⟨r,4,none⟩) hb hnew _).setNew (p:=⟨r,5,none⟩) hb hnew _).setNew (p:=⟨r,6,none⟩) hb hnew _
set_option maxHeartbeats 2000000 in
set_option maxRecDepth 100000 in
theorem calls_step (B:Nat) (E:Env) (who:Nat) (x:Live) (m:Mem) (k:Kont) (cl:Nat) (v:Value) (arr:Array Value) (w:World) (hw:E.who=who) (hw64:who<64) (T:TabOk E.A.list E.A.room) (hi:SInv E.A.list E.A.room m cl) (hl:LiveOk E.A.list x) (hk:KOk E.A.list E.A.room m x k) (he:EOk E x) (hc:m.count<4611686018427387900) (hB:B≤E.x) (hv:KontAt w E v k) (hs:St w B E.A m) (hcl:CallAt w E x) (hK:Bx w E.A.K 71 arr) (hKB:B≤E.A.K) (ha:arr[3+who]? =some v):
   Calls Tryz.prog 21 #[.pointer (some ⟨E.A.K,3,none⟩),.int .i64 who] w fun e w'=> ∃v' d a,e= .returned (.agg (resA d a))∧OutAt w' E v' d a (stepF BlV E.A.list E.A.room k x m).1∧CallAt w' E (stepF BlV E.A.list E.A.room k x m).2.1∧St w' B E.A (stepF BlV E.A.list E.A.room k x m).2.2∧Bx w' E.A.K 71 (arr.setIfInBounds (3+who) v')∧Fr B [E.x,E.A.K] w w':=by
 have Y0:=Lib.hid (Was.start hs hcl)
 have HK0:=Lib.hid hK
 have c0:w.cell? ⟨E.A.K,3+who,none⟩=some v:=by rw[hK.cell];exact ha
 have KS:Hid (∀W,Below w.heap.size w W→ ∃f ps,v= .func (.func f) #[] ps∧Enters f∧Calls Tryz.prog f ps W (ORes W B E (stepF BlV E.A.list E.A.room k x m))):=fun W hb=>
   step_any B E x m k cl v W T hi hl hk he hc hB (hv.keep (fr0 hb)) (hs.later hb) (hcl.keep (fr0 hb) (by simp))
 obtain⟨f,ps,rfl,hef,_⟩:=KS.out w (Below.refl _ _)
 have hef':=hef
 unfold Enters at hef
 have HS:Hid (∀W,Below w.heap.size w W→Calls Tryz.prog f ps W (ORes W B E (stepF BlV E.A.list E.A.room k x m))):=fun W hb=>by
   obtain⟨f',ps',e,_,h⟩:=KS.out W hb
   injection e with e1 _ e3
   injection e1 with e1
   subst e1 e3
   exact h
 generalize stepF BlV E.A.list E.A.room k x m=o at*
 have Ha0:=Lib.hid ha
 have hne:E.A.K≠E.x:=by
   obtain⟨_,hx,_⟩:=hcl
   exact hK.ne hx (by decide)
 have Hne:=Lib.hid (show E.A.K∉[E.x]by simpa using hne)
 clear KS T hi hl hk he hc hB hv hs hcl hK ha hef' hne
 have hcase:(∃k',o.1= .inl k')∨(∃r',o.1= .inr r'):=by
   cases h:o.1 with
   |inl k'=>exact .inl ⟨k',rfl⟩
   |inr r'=>exact .inr ⟨r',rfl⟩
 rcases hcase with ⟨k',hk'⟩|⟨r',hr'⟩
 · go_enter Tryz.func21,Tryz.ntmps21
   go_wp2_with fail
   refine wp_name (fun u=>Below w.heap.size w u∧Bx u w.heap.size 37 res0∧Bx u (w.heap.size+1) 37 res0) ⟨below_allocs [_,_] w,bx_allocs w [_,_] 0 rfl,bx_allocs w [_,_] 1 rfl⟩ ?_
   rintro y ⟨g0,g1,g2⟩
   have G0:=Lib.hid g0;have G1:=Lib.hid g1;have G2:=Lib.hid g2
   have d0:=cell_later g0 c0
   have d0':y.drew.cell? ⟨E.A.K,3+who,none⟩=some (.func (.func f) #[] ps):=d0
   have HKy:Hid (Bx y.drew E.A.K 71 arr):=HK0.out.below g0.drew HK0.out.lt
   clear c0 g0 g1 g2
   go_region_with (go_at_fn f;(refine (HS.out _ (G0.out.drew)).mono ?_);rintro e w2 h;obtain⟨v',d,a,rfl,ha⟩:=Ans.of h;obtain⟨q1,q2,rfl⟩:=out_fn hk' ha.out;have hk2:Bx w2 E.A.K 71 arr:=ha.fr.quiet _ _ _ _ HKy.out (.inr ⟨rfl,Hne.out⟩);have p1:w2.frozen? ⟨E.A.K,3+who,none⟩=false:=hk2.free _;have p2:w2.cell? ⟨E.A.K,3+who,none⟩=some (.func (.func f) #[] ps):=(hk2.cell _).trans Ha0.out;have hr3:Bx w2 (w.heap.size+1) 37 res0:=(show Bx y.drew (w.heap.size+1) 37 res0 from G2.out).keep ha.fr rfl;obtain⟨r0,r1,r2,r3,r4,r5,r6⟩:=res_cells hr3;obtain⟨f0,f1,f2,f3,f4,f5,f6⟩:=res_free hr3;have hkr:E.A.K≠w.heap.size+1:=hk2.ne hr3 (by decide);have Hk2:=Lib.hid hk2;have Hr3:=Lib.hid hr3;have Ha:=Lib.hid ha;clear ha h hk2 hr3)
   all_goals
     have hp:=Ha.out.st.setPend Hk2.out hKB (3+who) (by omega) (.func (.func q1) #[] q2)
     have hE:E.x∉[E.A.K]:=by have:=Hne.out;simpa using fun e=>this (by simp [e])
     have hfr:Fr B [E.x,E.A.K] w (w2.setCell ⟨E.A.K,3+who,none⟩ (.func (.func q1) #[] q2)):=((Y0.out.fr.mono (Nat.le_refl _) (by simp)).below Y0.out.st.below.2.2.2 G0.out.drew).trans ((Ha.out.fr.mono (Nat.le_refl _) (by simp)).trans (hp.2.mono (Nat.le_refl _) (by simp)))
     obtain⟨W,eW,g1,g2,g3,g4,g5⟩:=Out.store' (w:=w) (X:=[E.x,E.A.K]) (Hr3.out.sne (Ne.symm hkr)) (by omega) Y0.out.st.below.2.2.2 (Ha.out.out.keep hp.2) (Ha.out.call.keep hp.2 hE) hp.1 hfr
     rw[← eW]
     have hK4:Bx W E.A.K 71 (arr.setIfInBounds (3+who) (.func (.func q1) #[] q2)):=by
       rw[eW]
       exact(((((((Hk2.out.setCell (3+who) (.func (.func q1) #[] q2)).sne hkr).sne hkr).sne hkr).sne hkr).sne hkr).sne hkr).sne hkr
     have hr0:Bx W w.heap.size 37 res0:=by
       have h1:Bx w2 w.heap.size 37 res0:=(show Bx y.drew w.heap.size 37 res0 from G1.out).keep Ha.out.fr rfl
       have n1:w.heap.size≠E.A.K:=h1.ne Hk2.out (by decide)
       have n2:w.heap.size≠w.heap.size+1:=by omega
       rw[eW]
       exact(((((((h1.sne n1).sne n2).sne n2).sne n2).sne n2).sne n2).sne n2).sne n2
     refine then_name (fun u=>u=W) rfl ?_
     rintro u rfl
     obtain⟨r0,r1,r2,r3,r4,r5,r6⟩:=res_cells hr0
     obtain⟨f0,f1,f2,f3,f4,f5,f6⟩:=res_free hr0
     obtain⟨s0,s1,s2,s3,s4,s5,s6⟩:=(⟨g1.cell 0,g1.cell 1,g1.cell 2,g1.cell 3,g1.cell 4,g1.cell 5,g1.cell 6⟩:u.cell? ⟨w.heap.size+1,0,none⟩=some (.bool d)∧u.cell? ⟨w.heap.size+1,1,none⟩=some (.int .i64 a.e)∧u.cell? ⟨w.heap.size+1,2,none⟩=some (.bool a.granted)∧u.cell? ⟨w.heap.size+1,3,none⟩=some (.int .i64 a.left)∧u.cell? ⟨w.heap.size+1,4,none⟩=some (.int .i64 a.wait)∧u.cell? ⟨w.heap.size+1,5,none⟩=some (.int .i64 a.serial)∧u.cell? ⟨w.heap.size+1,6,none⟩=some (.int .i64 a.now))
     have HR0:=Lib.hid hr0;have HG:=Lib.hid (And.intro g2 (And.intro g3 (And.intro g4 g5)));have HK4:=Lib.hid hK4
     clear eW hr0 g1 g2 g3 g4 g5 hK4 hfr hp hE
     go_wp2_with fail
     have hkq:E.A.K≠w.heap.size:=HK4.out.ne HR0.out (by decide)
     obtain⟨W',eW',j1,j2,j3,j4,j5⟩:=Out.store' (w:=w) (X:=[E.x,E.A.K]) HR0.out (Nat.le_refl _) Y0.out.st.below.2.2.2 HG.out.1 HG.out.2.1 HG.out.2.2.1 HG.out.2.2.2
     have hK5:Bx W' E.A.K 71 (arr.setIfInBounds (3+who) (.func (.func q1) #[] q2)):=by
       rw[eW']
       exact((((((HK4.out.sne hkq).sne hkq).sne hkq).sne hkq).sne hkq).sne hkq).sne hkq
     rw[← eW']
     obtain⟨u0,u1,u2,u3,u4,u5,u6⟩:=(⟨j1.cell 0,j1.cell 1,j1.cell 2,j1.cell 3,j1.cell 4,j1.cell 5,j1.cell 6⟩:W'.cell? ⟨w.heap.size,0,none⟩=some (.bool d)∧W'.cell? ⟨w.heap.size,1,none⟩=some (.int .i64 a.e)∧W'.cell? ⟨w.heap.size,2,none⟩=some (.bool a.granted)∧W'.cell? ⟨w.heap.size,3,none⟩=some (.int .i64 a.left)∧W'.cell? ⟨w.heap.size,4,none⟩=some (.int .i64 a.wait)∧W'.cell? ⟨w.heap.size,5,none⟩=some (.int .i64 a.serial)∧W'.cell? ⟨w.heap.size,6,none⟩=some (.int .i64 a.now))
     exact bodyPost_ret (v:= .agg (resA d a)) (by simp [results,Tryz.results21,go_sem,u0,u1,u2,u3,u4,u5,u6]) rfl ⟨.func (.func q1) #[] q2,d,a,rfl,j2,j3,j4,hK5,j5⟩
 · go_enter Tryz.func21,Tryz.ntmps21
   go_wp2_with fail
   refine wp_name (fun u=>Below w.heap.size w u∧Bx u w.heap.size 37 res0∧Bx u (w.heap.size+1) 37 res0) ⟨below_allocs [_,_] w,bx_allocs w [_,_] 0 rfl,bx_allocs w [_,_] 1 rfl⟩ ?_
   rintro y ⟨g0,g1,g2⟩
   have G0:=Lib.hid g0;have G1:=Lib.hid g1;have G2:=Lib.hid g2
   have d0:=cell_later g0 c0
   have d0':y.drew.cell? ⟨E.A.K,3+who,none⟩=some (.func (.func f) #[] ps):=d0
   have HKy:Hid (Bx y.drew E.A.K 71 arr):=HK0.out.below g0.drew HK0.out.lt
   clear c0 g0 g1 g2
   go_region_with (go_at_fn f;(refine (HS.out _ (G0.out.drew)).mono ?_);rintro e w2 h;obtain⟨v',d,a,rfl,ha⟩:=Ans.of h;obtain rfl:=out_nil hr' ha.out;have hk2:Bx w2 E.A.K 71 arr:=ha.fr.quiet _ _ _ _ HKy.out (.inr ⟨rfl,Hne.out⟩);have p1:w2.frozen? ⟨E.A.K,3+who,none⟩=false:=hk2.free _;have p2:w2.cell? ⟨E.A.K,3+who,none⟩=some (.func (.func f) #[] ps):=(hk2.cell _).trans Ha0.out;have hr3:Bx w2 (w.heap.size+1) 37 res0:=(show Bx y.drew (w.heap.size+1) 37 res0 from G2.out).keep ha.fr rfl;obtain⟨r0,r1,r2,r3,r4,r5,r6⟩:=res_cells hr3;obtain⟨f0,f1,f2,f3,f4,f5,f6⟩:=res_free hr3;have hkr:E.A.K≠w.heap.size+1:=hk2.ne hr3 (by decide);have Hk2:=Lib.hid hk2;have Hr3:=Lib.hid hr3;have Ha:=Lib.hid ha;clear ha h hk2 hr3)
   all_goals
     have hp:=Ha.out.st.setPend Hk2.out hKB (3+who) (by omega) .nilFunc
     have hE:E.x∉[E.A.K]:=by have:=Hne.out;simpa using fun e=>this (by simp [e])
     have hfr:Fr B [E.x,E.A.K] w (w2.setCell ⟨E.A.K,3+who,none⟩ .nilFunc):=((Y0.out.fr.mono (Nat.le_refl _) (by simp)).below Y0.out.st.below.2.2.2 G0.out.drew).trans ((Ha.out.fr.mono (Nat.le_refl _) (by simp)).trans (hp.2.mono (Nat.le_refl _) (by simp)))
     obtain⟨W,eW,g1,g2,g3,g4,g5⟩:=Out.store' (w:=w) (X:=[E.x,E.A.K]) (Hr3.out.sne (Ne.symm hkr)) (by omega) Y0.out.st.below.2.2.2 (Ha.out.out.keep hp.2) (Ha.out.call.keep hp.2 hE) hp.1 hfr
     rw[← eW]
     have hK4:Bx W E.A.K 71 (arr.setIfInBounds (3+who) .nilFunc):=by
       rw[eW]
       exact(((((((Hk2.out.setCell (3+who) .nilFunc).sne hkr).sne hkr).sne hkr).sne hkr).sne hkr).sne hkr).sne hkr
     have hr0:Bx W w.heap.size 37 res0:=by
       have h1:Bx w2 w.heap.size 37 res0:=(show Bx y.drew w.heap.size 37 res0 from G1.out).keep Ha.out.fr rfl
       have n1:w.heap.size≠E.A.K:=h1.ne Hk2.out (by decide)
       have n2:w.heap.size≠w.heap.size+1:=by omega
       rw[eW]
       exact(((((((h1.sne n1).sne n2).sne n2).sne n2).sne n2).sne n2).sne n2).sne n2
     refine then_name (fun u=>u=W) rfl ?_
     rintro u rfl
     obtain⟨r0,r1,r2,r3,r4,r5,r6⟩:=res_cells hr0
     obtain⟨f0,f1,f2,f3,f4,f5,f6⟩:=res_free hr0
     obtain⟨s0,s1,s2,s3,s4,s5,s6⟩:=(⟨g1.cell 0,g1.cell 1,g1.cell 2,g1.cell 3,g1.cell 4,g1.cell 5,g1.cell 6⟩:u.cell? ⟨w.heap.size+1,0,none⟩=some (.bool d)∧u.cell? ⟨w.heap.size+1,1,none⟩=some (.int .i64 a.e)∧u.cell? ⟨w.heap.size+1,2,none⟩=some (.bool a.granted)∧u.cell? ⟨w.heap.size+1,3,none⟩=some (.int .i64 a.left)∧u.cell? ⟨w.heap.size+1,4,none⟩=some (.int .i64 a.wait)∧u.cell? ⟨w.heap.size+1,5,none⟩=some (.int .i64 a.serial)∧u.cell? ⟨w.heap.size+1,6,none⟩=some (.int .i64 a.now))
     have HR0:=Lib.hid hr0;have HG:=Lib.hid (And.intro g2 (And.intro g3 (And.intro g4 g5)));have HK4:=Lib.hid hK4
     clear eW hr0 g1 g2 g3 g4 g5 hK4 hfr hp hE
     go_wp2_with fail
     have hkq:E.A.K≠w.heap.size:=HK4.out.ne HR0.out (by decide)
     obtain⟨W',eW',j1,j2,j3,j4,j5⟩:=Out.store' (w:=w) (X:=[E.x,E.A.K]) HR0.out (Nat.le_refl _) Y0.out.st.below.2.2.2 HG.out.1 HG.out.2.1 HG.out.2.2.1 HG.out.2.2.2
     have hK5:Bx W' E.A.K 71 (arr.setIfInBounds (3+who) .nilFunc):=by
       rw[eW']
       exact((((((HK4.out.sne hkq).sne hkq).sne hkq).sne hkq).sne hkq).sne hkq).sne hkq
     rw[← eW']
     obtain⟨u0,u1,u2,u3,u4,u5,u6⟩:=(⟨j1.cell 0,j1.cell 1,j1.cell 2,j1.cell 3,j1.cell 4,j1.cell 5,j1.cell 6⟩:W'.cell? ⟨w.heap.size,0,none⟩=some (.bool d)∧W'.cell? ⟨w.heap.size,1,none⟩=some (.int .i64 a.e)∧W'.cell? ⟨w.heap.size,2,none⟩=some (.bool a.granted)∧W'.cell? ⟨w.heap.size,3,none⟩=some (.int .i64 a.left)∧W'.cell? ⟨w.heap.size,4,none⟩=some (.int .i64 a.wait)∧W'.cell? ⟨w.heap.size,5,none⟩=some (.int .i64 a.serial)∧W'.cell? ⟨w.heap.size,6,none⟩=some (.int .i64 a.now))
     exact bodyPost_ret (v:= .agg (resA d a)) (by simp [results,Tryz.results21,go_sem,u0,u1,u2,u3,u4,u5,u6]) rfl ⟨.nilFunc,d,a,rfl,j2,j3,j4,hK5,j5⟩
end Go.Proofs.YtemnhpdjoimjbaaGreatDoor
end
section
namespace Go.Proofs.YtemnhpdjoimjbaaGreatDoor
open Go.RowKit Top
set_option linter.unusedVariables false
def Mem.tick (m:Mem) (n:Int):Mem:={m with clock:=clampI (m.clock+n) }
theorem St.tick {w:World} {B:Nat} {A:Adr} {m:Mem} (h:St w B A m) (n:Int):Acc w B A (Mem.tick m n) (w.setCell ⟨A.mach,1,none⟩ (.int .i64 (clampI (m.clock+n)))):=by
 obtain⟨last,hm,hl⟩:=h.mach
 have hm':=hm
 unfold Bx at hm'
 have hf:Fr B [] w (w.setCell ⟨A.mach,1,none⟩ (.int .i64 (clampI (m.clock+n)))):=(Fr.refl B [] w).setCell (p:=⟨A.mach,1,none⟩) hm' h.below.1 rfl (fun ho=>by simp [ownT]at ho) _
 obtain⟨nn,xs,ho,hn,h1⟩:=hl
 obtain⟨hs,h2,h3,h4⟩:=h.holds
 have hsz:(w.setCell ⟨A.mach,1,none⟩ (.int .i64 (clampI (m.clock+n)))).heap.size=w.heap.size:=by simp [World.setCell]
 refine⟨⟨h.lanes.keep hf rfl,h.board.keep hf rfl,⟨last,hm.setCell 1 _,nn,xs,ownsRow_setCell_other ho (own_ne ho hm (by decide)) _,hn,h1⟩,h.words.sne (h.words.ne hm (by decide)),h.nwords,h.wordlt,⟨hs,h2,h3.sne (h3.ne hm (by decide)),fun i hi=> ?_⟩,h.nholds,⟨h.below.1,h.below.2.1,h.below.2.2.1,by rw[hsz];exact h.below.2.2.2⟩,clampI_tick _,h.count,h.core.keep hf (by simp)⟩,hf⟩
 obtain⟨v,h5,h6⟩:=h4 i hi
 exact⟨v,h5,h6.keep hf⟩
set_option maxHeartbeats 1000000 in
theorem mtick_any (B:Nat) (A:Adr) (m:Mem) (n:Int) (w:World) (hs:St w B A m) (h0:0≤n) (h1:n≤4611686018427387903):
   Calls Tryz.prog 24 #[P A.mach,.int .i64 n] w fun e w'=>e= .returned (.tuple #[.int .i64 (Mem.tick m n).clock,.int .i64 0])∧Acc w B A (Mem.tick m n) w':=by
 obtain⟨last,hm,hl⟩:=hs.mach
 have c1:w.cell? ⟨A.mach,1,none⟩=some (.int .i64 m.clock):=hm.cell 1
 have f1:w.frozen? ⟨A.mach,1,none⟩=false:=hm.free 1
 have hb:=tickB_mk h0 h1
 have ha:=tickB_mk hs.clock.1 hs.clock.2
 have Kf:=Lib.hid (form_any n w)
 rw[hb]at Kf
 have Ka:=Lib.hid (add_yes m.clock n w ha hb)
 have H:=Lib.hid (hs.tick n)
 obtain⟨t,ht⟩: ∃t,clampI (m.clock+n)=t:=⟨_,rfl⟩
 have e:(Mem.tick m n).clock=t:=ht
 rw[e]
 rw[ht]at Ka H
 clear hm hl hb ha hs h0 h1 ht e
 go_enter Tryz.func24,Tryz.ntmps24
 go_wp2_with (first|(go_at_call 42;(with_reducible refine Kf.out.mono ?_);rintro e w1 ⟨rfl,rfl⟩)|(go_at_call 43;(with_reducible refine Ka.out.mono ?_);rintro e w1 ⟨rfl,rfl⟩))
 exact bodyPost_ret (v:= .tuple #[.int .i64 t,.int .i64 0]) (by simp [results,Tryz.results24,go_sem]) rfl ⟨rfl,H.out⟩
set_option maxHeartbeats 1000000 in
theorem ctick_any (B:Nat) (A:Adr) (m:Mem) (n:Int) (w:World) (hs:St w B A m) (h0:0≤n) (h1:n≤4611686018427387903):
   Calls Tryz.prog 12 #[P A.K,.int .i64 n] w fun e w'=>e= .returned (.tuple #[.int .i64 (Mem.tick m n).clock,.int .i64 0])∧Acc w B A (Mem.tick m n) w':=by
 have c2:=hs.core.c2
 have cl:w.cell? ⟨A.lanes,0,none⟩=some (P A.board):=hs.lanes.cell 0
 have cb:w.cell? ⟨A.board,0,none⟩=some (P A.mach):=hs.board.cell 0
 have Kt:=Lib.hid (mtick_any B A m n w hs h0 h1)
 obtain⟨t,ht⟩: ∃t,(Mem.tick m n).clock=t:=⟨_,rfl⟩
 rw[ht]at Kt ⊢
 clear hs h0 h1 ht
 go_enter Tryz.func12,Tryz.ntmps12
 go_wp2_with (go_at_call 24;(with_reducible refine Kt.out.mono ?_);rintro e w1 ⟨rfl,ha⟩;have Ha:=Lib.hid ha;clear ha)
 exact bodyPost_ret (v:= .tuple #[.int .i64 t,.int .i64 0]) (by simp [results,Tryz.results12,go_sem]) rfl ⟨rfl,Ha.out⟩
end Go.Proofs.YtemnhpdjoimjbaaGreatDoor
end
section
namespace Go.Proofs.YtemnhpdjoimjbaaGreatDoor
open Go.RowKit Top
set_option linter.unusedVariables false
theorem is_any (who:Int) (w:World) (h0:0≤who) (h1:who<64):
   Calls Tryz.prog 20 #[.int .i64 who] w fun e w'=>e= .returned (.bool true)∧w=w':=by
 go_enter Tryz.func20,Tryz.ntmps20
 go_wp2
 go_ret
 exact⟨rfl,rfl⟩
theorem neq_func (f:Fn) (a ps:Array Value) (w:World):(binOp BinOp.neq 67 (.func f a ps) .nilFunc).run Tryz.prog w= .ok (.bool true) w:=by
 simp only[binOp,Op.equal]
 rw[show Op.maxDepth=9999+1 from rfl,Op.equalIn]
 simp [go_sem]
theorem neq_nil (w:World):(binOp BinOp.neq 67 .nilFunc .nilFunc).run Tryz.prog w= .ok (.bool false) w:=by
 simp only[binOp,Op.equal]
 rw[show Op.maxDepth=9999+1 from rfl,Op.equalIn]
 simp [go_sem]
def isOn :Value→Bool
 | .nilFunc=>false
 |_=>true
set_option maxHeartbeats 1000000 in
set_option maxRecDepth 100000 in
theorem pending_any (K:Nat) (who:Nat) (fv:Value) (w:World) (h1:who<64) (hc:w.cell? ⟨K,3+who,none⟩=some fv) (hf:fv= .nilFunc∨Func1 fv):
   Calls Tryz.prog 8 #[P K,.int .i64 who] w fun e w'=>e= .returned (.bool (isOn fv))∧w=w':=by
 have Ki:=Lib.hid (is_any who w (by omega) (by omega))
 have hw:(who:Int)<64:=by omega
 have e1:=neq_func
 have e2:=neq_nil
 clear h1
 rcases hf with rfl|⟨f,ps,rfl⟩
 all_goals
   go_enter Tryz.func8,Tryz.ntmps8
   go_wp2_with (go_at_call 20;(with_reducible refine Ki.out.mono ?_);rintro e w1 ⟨rfl,rfl⟩)
   go_ret
   exact⟨rfl,rfl⟩
end Go.Proofs.YtemnhpdjoimjbaaGreatDoor
end
section
namespace Go.Proofs.YtemnhpdjoimjbaaGreatDoor
open Go.RowKit Top
set_option linter.unusedVariables false
def IntsAt (w:World) (v:Value) (L:List Int):Prop:=
 ∃a c,v= .slice a L.length c∧L.length≤c∧c≤maxLen∧
   (0<L.length→ ∃b off,a=some ⟨b,off,none⟩∧ ∀j,j<L.length→w.cell? ⟨b,off+j,none⟩=some (.int .i64 (L.getD j 0)))
end Go.Proofs.YtemnhpdjoimjbaaGreatDoor
end
section
namespace Go.Proofs.YtemnhpdjoimjbaaGreatDoor
open Go.RowKit Top
set_option linter.unusedVariables false
theorem below_then {w W w2:World} (h:RowKit.Below w.heap.size w W) (k:RowKit.Below W.heap.size W w2):RowKit.Below w.heap.size w w2:=h.trans (k.mono h.size)
theorem CellsAt.parts {w:World} {v:Value} {L:List Cell} (h:CellsAt w v L): ∃xs:List CV,∃a c,xs.map CV.c=L∧v= .slice a xs.length c∧xs.length≤c∧c≤maxLen∧(0<xs.length→ ∃b off,a=some ⟨b,off,none⟩∧ ∀j u,(encs xs)[j]? =some u→w.cell? ⟨b,off+j,none⟩=some u)∧(∀x∈xs,x.ok w)∧WfL L:=by
 obtain⟨xs,h1,h2,h3,h4⟩:=h
 obtain⟨a,c,rfl⟩: ∃a c,v= .slice a xs.length c:=by obtain⟨_,a,c,e,_⟩:=h2;exact⟨a,c,e⟩
 obtain⟨_,h5,h6,h7⟩:=Row.cells h2
 exact⟨xs,a,c,h1,rfl,h5,h6,h7,h3,h4⟩
theorem CV.ok.slices {w:World} {x:CV} (h:x.ok w):(∃a n c,x.kv= .slice a n c)∧ ∃a n c,x.hv= .slice a n c:=by
 obtain⟨⟨_,_,a,c,e,_⟩,_,a',c',e',_⟩:=h
 exact⟨⟨a,_,c,e⟩,a',_,c',e'⟩
end Go.Proofs.YtemnhpdjoimjbaaGreatDoor
end
section
namespace Go.Proofs.YtemnhpdjoimjbaaGreatDoor.Top
set_option linter.unusedVariables false
structure Sys where
 m:Mem
 pd:Nat→Option (Live×Kont)
def setP (pd:Nat→Option (Live×Kont)) (i:Nat) (v:Option (Live×Kont)):Nat→Option (Live×Kont):=fun j=>if j=i then v else pd j
theorem setP_self (pd:Nat→Option (Live×Kont)) (i:Nat) (v:Option (Live×Kont)):setP pd i v i=v:=if_pos rfl
theorem setP_ne (pd:Nat→Option (Live×Kont)) {i j:Nat} (v:Option (Live×Kont)) (h:j≠i):setP pd i v j=pd j:=if_neg h
def claimP :Option (Live×Kont)→Nat
 |none=>0
 |some (x,k)=>claim x k
def tot (pd:Nat→Option (Live×Kont)):Nat→Nat
 |0=>0
 |n+1=>tot pd n+claimP (pd n)
theorem tot_same (pd:Nat→Option (Live×Kont)) (i:Nat) (v:Option (Live×Kont)): ∀n,n≤i→tot (setP pd i v) n=tot pd n
 |0,_=>rfl
 |n+1,h=>by
   show tot (setP pd i v) n+claimP (setP pd i v n)=tot pd n+claimP (pd n)
   rw[tot_same pd i v n (by omega),setP_ne pd v (by omega)]
theorem tot_set (pd:Nat→Option (Live×Kont)) (i:Nat) (v:Option (Live×Kont)): ∀n,i<n→tot (setP pd i v) n+claimP (pd i)=tot pd n+claimP v
 |0,h=>by omega
 |n+1,h=>by
   show tot (setP pd i v) n+claimP (setP pd i v n)+claimP (pd i)=tot pd n+claimP (pd n)+claimP v
   by_cases e:n=i
   · subst e
     rw[tot_same pd n v n (Nat.le_refl _),setP_self]
     omega
   · have:=tot_set pd i v n (by omega)
     rw[setP_ne pd v e]
     omega
def rest (pd:Nat→Option (Live×Kont)) (i:Nat):Nat:=tot (setP pd i none) 64
theorem tot_rest (pd:Nat→Option (Live×Kont)) {i:Nat} (h:i<64):tot pd 64=claimP (pd i)+rest pd i:=by
 have:=tot_set pd i none 64 h
 show _=_+tot (setP pd i none) 64
 have e:claimP none=0:=rfl
 omega
theorem tot_setP (pd:Nat→Option (Live×Kont)) {i:Nat} (h:i<64) (v:Option (Live×Kont)):tot (setP pd i v) 64=claimP v+rest pd i:=by
 have:=tot_set pd i v 64 h
 have:=tot_rest pd h
 omega
def liveOf (c:Call):Live:=⟨c,sumB (ident c.pol c.key),false,0⟩
def Mem.at_ (m:Mem) (t:Int):Mem:={m with clock:=t }
section
variable (list : List Pol) (room:Nat)
structure SysOk (s:Sys) (n:Nat):Prop where
 inv:SInv list room s.m (tot s.pd 64)
 live: ∀who x k,who<64→s.pd who=some (x,k)→LiveOk list x∧KOk list room s.m x k
 few:s.m.count≤n
def stepO (who:Nat) (s:Sys) (o:Out):Sys×(Bool×Reply):=
 match o.1 with
 | .inl k=>(⟨o.2.2,setP s.pd who (some (o.2.1,k))⟩,false,err 0)
 | .inr r=>(⟨o.2.2,setP s.pd who none⟩,true,r)
def stepS (B:Below) (s:Sys) (who:Nat):Sys×(Bool×Reply):=
 match s.pd who with
 |none=>(s,false,err 0)
 |some (x,k)=>stepO who s (stepF B list room k x s.m)
def startS (s:Sys) (who:Nat) (c:Call):Sys:=
 match s.pd who with
 |none=>⟨s.m,setP s.pd who (some (liveOf c,firstK c))⟩
 |some _=>s
structure CallIn (c:Call):Prop where
 op0:1≤c.op
 op1:c.op≤6
 pol:c.op≤4→ ∃p:Nat,c.pol=(p:Int)∧p<list.length
 klen:c.op≤4→c.key.length≤255
 kb: ∀b∈c.key,b<256
 n:c.op=1→0≤c.n∧c.n≤4611686018427387903
 n64: -9223372036854775808≤c.n∧c.n≤9223372036854775807
 kind1:c.op=1→(list.getD c.pol.toNat default).kind=1
 kind2:c.op=2∨c.op=3→(list.getD c.pol.toNat default).kind=2
def aloneS (B:Below) (who:Nat):Nat→Sys→Option (Reply×Sys)
 |0,_=>none
 |n+1,s=>if(stepS list room B s who).2.1 then some ((stepS list room B s who).2.2,(stepS list room B s who).1)else aloneS B who n (stepS list room B s who).1
end
variable {list : List Pol} {room:Nat}
theorem live_of {c:Call} (h:CallIn list c):LiveOk list (liveOf c):=
 ⟨h.op0,h.op1,h.pol,h.klen,h.kb,h.n,h.n64,Int.le_refl 0,by show(0:Int)≤_;decide,h.kind1,h.kind2,rfl,fun e=>by cases e⟩
theorem first_ok {c:Call} (h:CallIn list c) (m:Mem):KOk list room m (liveOf c) (firstK c)∧claim (liveOf c) (firstK c)=0:=by
 unfold firstK
 split
 · rename_i e;exact⟨e,rfl⟩
 · split
   · rename_i e;exact⟨e,rfl⟩
   · have:=h.op1
     exact⟨⟨by show c.op≤4;omega,rfl⟩,rfl⟩
theorem SysOk.mono {s:Sys} {n n':Nat} (h:SysOk list room s n) (hn:n≤n'):SysOk list room s n':=⟨h.inv,h.live,by have:=h.few;omega⟩
theorem SysOk.start {s:Sys} {n who:Nat} {c:Call} (h:SysOk list room s n) (hw:who<64) (hc:CallIn list c):SysOk list room (startS s who c) n:=by
 unfold startS
 cases e:s.pd who with
 |some v=>exact h
 |none=>
   have hf:=first_ok (room:=room) hc s.m
   refine⟨?_,fun who' x k hw' hk=> ?_,h.few⟩
   · show SInv list room s.m (tot (setP s.pd who _) 64)
     rw[tot_setP s.pd hw]
     have h1:=h.inv
     rw[tot_rest s.pd hw,e]at h1
     show SInv list room s.m (claim (liveOf c) (firstK c)+_)
     rw[hf.2]
     exact h1
   · by_cases e':who'=who
     · subst e'
       have hk':setP s.pd who' (some (liveOf c,firstK c)) who'=some (x,k):=hk
       rw[setP_self]at hk'
       cases hk'
       exact⟨live_of hc,hf.1⟩
     · have hk':setP s.pd who (some (liveOf c,firstK c)) who'=some (x,k):=hk
       rw[setP_ne s.pd _ e']at hk'
       exact h.live who' x k hw' hk'
theorem SysOk.out {B:Below} (hB:Sound B) (T:TabOk list room) {s:Sys} {n who:Nat} {x:Live} {k:Kont} (h:SysOk list room s n) (hw:who<64) (hp:s.pd who=some (x,k)) (hn:n<4611686018427387900):OOk list room (rest s.pd who) s.m x (stepF B list room k x s.m):=by
 have h1:=h.inv
 rw[tot_rest s.pd hw,hp]at h1
 have h2:=h.live who x k hw hp
 have:=h.few
 exact step_ok hB T h1 h2.1 h2.2 (by omega)
theorem SysOk.step {B:Below} (hB:Sound B) (T:TabOk list room) {s:Sys} {n who:Nat} (h:SysOk list room s n) (hw:who<64) (hn:n<4611686018427387900):SysOk list room (stepS list room B s who).1 (n+1):=by
 unfold stepS
 cases e:s.pd who with
 |none=>exact h.mono (by omega)
 |some v=>
   obtain⟨x,k⟩:=v
   have ho:=h.out hB T hw e hn
   dsimp only
   have hl: ∀who' x' k',who'<64→who'≠who→s.pd who'=some (x',k')→LiveOk list x'∧KOk list room (stepF B list room k x s.m).2.2 x' k':=fun who' x' k' hw' hne hp=>by
     have h1:=h.live who' x' k' hw' hp
     exact⟨h1.1,h1.2.later ho.later⟩
   have hc:=ho.count
   have hf:=h.few
   have hi:=ho.inv
   have hv:=ho.live
   have hk:=ho.kont
   unfold stepO
   generalize stepF B list room k x s.m=o at*
   obtain⟨o1,x1,m1⟩:=o
   cases o1 with
   |inl k1=>
     refine⟨?_,fun who' x' k' hw' hp=> ?_,by show m1.count≤_;dsimp only at hc;omega⟩
     · show SInv list room m1 (tot (setP s.pd who (some (x1,k1))) 64)
       rw[tot_setP s.pd hw]
       exact hi
     · by_cases e':who'=who
       · subst e'
         have hp':setP s.pd who' (some (x1,k1)) who'=some (x',k'):=hp
         rw[setP_self]at hp'
         cases hp'
         exact⟨hv,hk _ rfl⟩
       · have hp':setP s.pd who (some (x1,k1)) who'=some (x',k'):=hp
         rw[setP_ne s.pd _ e']at hp'
         exact hl who' x' k' hw' e' hp'
   |inr r=>
     refine⟨?_,fun who' x' k' hw' hp=> ?_,by show m1.count≤_;dsimp only at hc;omega⟩
     · show SInv list room m1 (tot (setP s.pd who none) 64)
       rw[tot_setP s.pd hw]
       exact hi
     · by_cases e':who'=who
       · subst e'
         have hp':setP s.pd who' none who'=some (x',k'):=hp
         rw[setP_self]at hp'
         cases hp'
       · have hp':setP s.pd who none who'=some (x',k'):=hp
         rw[setP_ne s.pd _ e']at hp'
         exact hl who' x' k' hw' e' hp'
theorem later_at (m:Mem) (t:Int):Later m (m.at_ t):=⟨Nat.le_refl _,fun _ _ _=>Nat.le_refl _,fun _ _ _ _=>rfl,fun _ _ _ _=>rfl⟩
theorem SysOk.tick {s:Sys} {n:Nat} (h:SysOk list room s n) {t:Int} (h0:0≤t) (h1:t≤4611686018427387903):SysOk list room ⟨s.m.at_ t,s.pd⟩ n:=by
 have hi:=h.inv
 have hd:=hi.dir
 exact⟨⟨⟨hd.nw,hd.nh,hd.d8,hd.old,hd.cur,hd.nxt,hd.small,hd.cnt0⟩,⟨hi.lies.wf,hi.lies.shard,hi.lies.perm⟩,hi.cnt,hi.cnt2,hi.ser,⟨h0,h1⟩⟩,fun who x k hw hp=>⟨(h.live who x k hw hp).1,(h.live who x k hw hp).2.later (later_at s.m t)⟩,h.few⟩
theorem alone_ends {B:Below} (hB:Sound B) (T:TabOk list room) {who:Nat} (hw:who<64): ∀(c n:Nat) (s:Sys) (x:Live) (k:Kont),SysOk list room s n→n+c<4611686018427387900→s.pd who=some (x,k)→cost s.m k<c→ ∃r s',aloneS list room B who c s=some (r,s')∧SysOk list room s' (n+c)∧s'.pd who=none∧(∀j,j≠who→s'.pd j=s.pd j)∧s'.m.clock=s.m.clock
 |0,_,_,_,_,_,_,_,h=>by omega
 |c+1,n,s,x,k,h,hn,hp,hc=>by
   have h1:=h.step hB T hw (by omega:n<4611686018427387900) (B:=B)
   have ho:=h.out hB T hw hp (by omega:n<4611686018427387900)
   have hi:=h.inv
   rw[tot_rest s.pd hw,hp]at hi
   have hl:=h.live who x k hw hp
   have hcost:=step_cost (B:=B) hi hl.1 hl.2
   have ecl:=ho.clock
   unfold aloneS
   have es:stepS list room B s who=stepO who s (stepF B list room k x s.m):=by unfold stepS;rw[hp]
   rw[es]at h1 ⊢
   unfold stepO at h1 ⊢
   generalize stepF B list room k x s.m=o at*
   obtain⟨o1,x1,m1⟩:=o
   cases o1 with
   |inl k1=>
     dsimp only at h1 ⊢
     rw[if_neg (by simp)]
     have hcost':cost m1 k1<cost s.m k:=hcost
     obtain⟨r,s',h2,h3,h4,h5,h6⟩:=alone_ends hB T hw c (n+1) ⟨m1,setP s.pd who (some (x1,k1))⟩ x1 k1 h1 (by omega) (setP_self _ _ _) (by show cost m1 k1<c;omega)
     exact⟨r,s',h2,h3.mono (by omega),h4,fun j hj=>(h5 j hj).trans (setP_ne _ _ hj),h6.trans ecl⟩
   |inr r=>
     dsimp only at h1 ⊢
     rw[if_pos rfl]
     exact⟨r,_,rfl,h1.mono (by omega),setP_self _ _ _,fun j hj=>setP_ne _ _ hj,ecl⟩
end Go.Proofs.YtemnhpdjoimjbaaGreatDoor.Top
end
