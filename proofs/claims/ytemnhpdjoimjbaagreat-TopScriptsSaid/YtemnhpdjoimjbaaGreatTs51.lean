import Derived.Test.YtemnhpdjoimjbaaGreatTs49
import Derived.Test.YtemnhpdjoimjbaaGreatTs50
namespace Go.Proofs.YtemnhpdjoimjbaaGreat
open Go.RowKit Top
set_option linter.unusedVariables false
def OpenS (W0 : World) (B : Nat) (A : Adr) (m : Mem) (pd : Nat → Option (Live × Kont)) (pb wb cb : Nat) (pv ca : Array Value) (cv : Value) (k : Nat) (dn : List Value) (l : List Top.Call) (w : World) : Prop :=
 ∃ arr lv o q ka kl kc n f, Sit w W0 B A m pd pb wb cb pv arr ca cv k dn ∧ Wk arr lv o q ka kl kc n f ∧ CallsAt W0 lv l
def MidS (W0 : World) (B : Nat) (A : Adr) (m : Mem) (pd : Nat → Option (Live × Kont)) (pb wb cb : Nat) (pv ca : Array Value) (cv : Value) (k : Nat) (dn : List Value) (l : List Top.Call) (c : Top.Call) (ka : Option Addr) (kl kc : Nat) (w : World) : Prop :=
 ∃ arr lv f, Sit w W0 B A m pd pb wb cb pv arr ca cv k dn ∧ Wk arr lv (c.op : Nat) c.pol ka kl kc c.n f ∧ CallsAt W0 lv l
set_option maxHeartbeats 4000000 in
set_option maxRecDepth 100000 in
theorem simstep_any (B : Nat) (A : Adr) (n : Nat) (p : Top.Play) (s1 : Top.Sys) (l1 : List Top.Call) (x1 : Live) (k1 : Kont) (w W0 : World) {pb wb cb cw : Nat} {ca : Array Value} (hp : PlayS w W0 B A pb wb cb cw ca p) (T : TabOk A.list A.room) (hok1 : SysOk A.list A.room s1 n) (hn : n < 4611686018427387000) (hoth : ∀ j, 0 < j → j < 64 → s1.pd j = none) (h1 : s1.pd 0 = some (x1, k1)) (hol : p.out.length ≤ 1000)
   (hopen : (p.s.pd 0 = some (x1, k1) ∧ s1 = p.s ∧ l1 = p.left) ∨ ∃ x, p.s.pd 0 = none ∧ p.left = x :: l1 ∧ s1 = startS p.s 0 x ∧ CallGood A.list x)
   (s2 : Top.Sys) (d : Bool) (a : Reply) (hst : stepS A.list A.room BlV s1 0 = (s2, d, a)) (p2 : Top.Play) (hp2 : p2 = ⟨s2, l1, if d then p.out ++ [a] else p.out⟩) :
   Calls Tryz.prog 33 #[P pb, .int .i64 0] w fun e w' => e = .returned (.bool true) ∧ PlayS w' W0 B A pb wb cb cw ca p2 := by
 obtain ⟨hcap, arr, lv, cv, dn, hs, ⟨o1, o2, o3, o4, o5, o6, o7, hwk⟩, hle, hdn⟩ := hp
 have Kp : Hid (∀ W, W = w → Calls Tryz.prog 34 #[P A.K, .int .i64 0] W fun e w' => e = .returned (.bool (p.s.pd 0).isSome) ∧ W = w') := by
   rintro W rfl
   exact pending_sys B A p.s.m p.s.pd 0 W hs.sys (by decide)
 have c0 : w.cell? ⟨pb, 0, none⟩ = some (P A.K) := hs.play.cell 0
 have c1 : w.cell? ⟨pb, 1, none⟩ = some (.slice (some ⟨wb, 0, none⟩) 1 cw) := hs.play.cell 1
 have hcap1 : 1 ≤ cw := hcap.1
 have HS := Lib.hid hs; have Hok1 := Lib.hid hok1; have Hle := Lib.hid hle; have Hwk := Lib.hid hwk; have Hdn := Lib.hid hdn; have Hopen := Lib.hid hopen; have Hoth := Lib.hid hoth; have H1 := Lib.hid h1; have Hcap := Lib.hid hcap; have Hol := Lib.hid hol; have HT := Lib.hid T
 clear hs hok1 hle hwk hdn hopen hoth h1 hcap hol T
 have hoff : d = true → ∀ j, j < 64 → s2.pd j = none := fun hd j hj => by
   have h0 : (stepS A.list A.room BlV s1 0).2.1 = true := by rw [hst]; exact hd
   have e1 : (stepS A.list A.room BlV s1 0).1 = s2 := by rw [hst]
   rw [← e1]
   by_cases e : j = 0
   · subst e
     exact stepS_off h0
   · rw [stepS_oth e]
     exact Hoth.out j (by omega) hj
 have Hcnt : Hid (s2.m.count ≤ 4611686018427387800 ∧ 0 ≤ s2.m.count) := by
   have hcnt : (stepS A.list A.room BlV s1 0).1.m.count = s1.m.count + 1 := stepS_count _ _ _ (by rw [H1.out]; rfl)
   rw [hst] at hcnt
   have hcs := Hok1.out.few
   have hc0 : 0 ≤ s1.m.count := by
     rcases Hopen.out with ⟨_, rfl, _⟩ | ⟨x, g1, _, rfl, _⟩
     · exact HS.out.sys.st.count
     · rw [startS_none x g1]; exact HS.out.sys.st.count
   show _ ∧ _
   dsimp only at hcnt
   omega
 have Kt : Hid (∀ W, SysAt W B A s1.m s1.pd → Calls Tryz.prog 21 #[P A.K, .int .i64 0] W fun e w' => e = .returned (.tuple #[.agg (resA d a), .int .i64 0]) ∧ SysAt w' B A s2.m s2.pd ∧ Fz B W w') := by
   intro W hW
   refine (core_step B A s1 n 0 x1 k1 W hW HT.out Hok1.out (by omega) (by decide) H1.out).mono ?_
   rw [hst]
   rintro e w' ⟨rfl, hr⟩
   exact ⟨rfl, hr.sys hW (by decide), hr.fz⟩
 have Hoff := Lib.hid hoff; have Hp2 := Lib.hid hp2
 clear hoff hp2 hst
 generalize hon : (p.s.pd 0).isSome = on at *
 have Hon := Lib.hid hon
 clear hon
 go_enter Tryz.func33, Tryz.ntmps33
 go_upto_if 20 with (go_at_call 34; (with_reducible refine (Kp.out _ rfl).mono ?_); rintro e w1 ⟨rfl, rfl⟩)
 go_cut [] (fun wx => OpenS W0 B A s1.m s1.pd pb wb cb (playV A.K (.slice (some ⟨wb, 0, none⟩) 1 cw) cv) ca cv p.out.length dn l1 wx)
 case first =>
   rcases Hopen.out with ⟨g1, rfl, rfl⟩ | ⟨x, g1, g2, rfl, hx⟩
   · have : on = true := by rw [← Hon.out, g1]; rfl
     subst this
     have hfin : OpenS W0 B A p.s.m p.s.pd pb wb cb (playV A.K (.slice (some ⟨wb, 0, none⟩) 1 cw) cv) ca cv p.out.length dn p.left w := ⟨arr, lv, _, _, _, _, _, _, _, HS.out, Hwk.out, Hle.out⟩
     have HF := Lib.hid hfin
     clear hfin g1
     go_wp2_with fail
     go_meet
     with_reducible exact HF.out
   · have : on = false := by rw [← Hon.out, g1]; rfl
     subst this
     have hle := Hle.out
     rw [g2] at hle
     obtain ⟨la, lc, rfl⟩ := hle.nil
     obtain ⟨qb, qo, kv, rfl, hn1, hn2, hn3, hby, e0, e1, e2, e3, htl⟩ := hle.tail
     obtain ⟨ka, kc, rfl⟩ : ∃ a c', kv = .slice a x.key.length c' := by obtain ⟨_, a, c', e, _⟩ := hby; exact ⟨a, c', e⟩
     have hW := HS.out.below
     have f0 := cell_later hW e0; have f1 := cell_later hW e1; have f2 := cell_later hW e2; have f3 := cell_later hW e3
     have d0 : w.cell? ⟨wb, 0, none⟩ = some (.slice (some ⟨qb, qo, none⟩) (l1.length + 1) lc) := by rw [← hn1, HS.out.work.cell]; exact Hwk.out.c0
     have d1 : w.cell? ⟨wb, 1, none⟩ = some (.int .u8 o1) := by rw [HS.out.work.cell]; exact Hwk.out.c1
     have d2 : w.cell? ⟨wb, 2, none⟩ = some (.int .i64 o2) := by rw [HS.out.work.cell]; exact Hwk.out.c2
     have d3 : w.cell? ⟨wb, 3, none⟩ = some (.slice o3 o4 o5) := by rw [HS.out.work.cell]; exact Hwk.out.c3
     have d4 : w.cell? ⟨wb, 4, none⟩ = some (.int .i64 o6) := by rw [HS.out.work.cell]; exact Hwk.out.c4
     have d5 : w.cell? ⟨wb, 5, none⟩ = some (.int .i64 o7) := by rw [HS.out.work.cell]; exact Hwk.out.c5
     have z0 := HS.out.work.free 0; have z1 := HS.out.work.free 1; have z2 := HS.out.work.free 2; have z3 := HS.out.work.free 3; have z4 := HS.out.work.free 4; have z5 := HS.out.work.free 5
     have hlt : wb < w.heap.size := HS.out.work.lt
     have hs1 : (1 : Int) ≤ (l1.length : Int) + 1 := by omega
     have hs2 : (0 : Int) ≤ (l1.length : Int) := by omega
     have hs3 : ¬ ((l1.length : Int) + 1 < 1) := by omega
     have hs4 : 1 ≤ l1.length + 1 := by omega
     have hs5 : l1.length + 1 ≤ lc := hn2
     have hs6 : ((l1.length : Int) + 1) ≤ (lc : Int) := by omega
     have Hmk : Hid (∀ sv : Value, CallsAt W0 sv l1 → MidS W0 B A p.s.m p.s.pd pb wb cb (playV A.K (.slice (some ⟨wb, 0, none⟩) 1 cw) cv) ca cv p.out.length dn l1 x ka x.key.length kc (((((w.setCell ⟨wb, 1, none⟩ (.int .u8 (x.op : Nat))).setCell ⟨wb, 2, none⟩ (.int .i64 x.pol)).setCell ⟨wb, 3, none⟩ (.slice ka x.key.length kc)).setCell ⟨wb, 4, none⟩ (.int .i64 x.n)).setCell ⟨wb, 0, none⟩ sv).drew) := fun sv h1 => by
       have s1 := HS.out.set 1 (.int .u8 (x.op : Nat))
       have s2 := s1.set 2 (.int .i64 x.pol)
       have s3 := s2.set 3 (.slice ka x.key.length kc)
       have s4 := s3.set 4 (.int .i64 x.n)
       have s5 := s4.set 0 sv
       exact ⟨_, sv, o7, s5.later (Below.refl _ _).drew, ((((Hwk.out.set1 _).set2 _).set3 _ _ _).set4 _).set0 sv, h1⟩
     have Hby := Lib.hid hby; have Htl := Lib.hid htl; have Hx := Lib.hid hx; have Hg1 := Lib.hid g1
     clear hby htl hx hle g1 g2 e0 e1 e2 e3 hW hn1
     go_upto_region 5 with fail
     go_cut [] (fun wx => MidS W0 B A p.s.m p.s.pd pb wb cb (playV A.K (.slice (some ⟨wb, 0, none⟩) 1 cw) cv) ca cv p.out.length dn l1 x ka x.key.length kc wx)
     case first =>
       by_cases hlc : lc = 1
       · subst hlc
         obtain rfl : l1 = [] := List.length_eq_zero_iff.1 (by omega)
         go_region_with fail
         all_goals
           go_wp2_with fail
           go_meet
           with_reducible refine Hmk.out _ ?_
           exact Htl.out (some ⟨qb, qo, none⟩) (fun e => absurd rfl e)
       · go_region_with fail
         all_goals
           go_wp2_with fail
           go_meet
           with_reducible refine Hmk.out _ ?_
           exact Htl.out (some ⟨qb, qo + 4, none⟩) (fun _ => rfl)
     case rest =>
       obtain ⟨arr1, lv1, b5, hs, hwk, hle⟩ := hcut
       have y3 : wc.cell? ⟨wb, 3, none⟩ = some (.slice ka x.key.length kc) := by rw [hs.work.cell]; exact hwk.c3
       have q3 := hs.work.free 3
       have hltc := hs.work.lt
       have HS1 := Lib.hid hs; have Hwk1 := Lib.hid hwk; have Hle1 := Lib.hid hle
       have Kb : Hid (∀ W, W = wc → Calls Tryz.prog 45 #[.slice ka x.key.length kc] W fun e w' => ∃ v', e = .returned v' ∧ KeyAt w' v' x.key ∧ Below W.heap.size W w') := by
         rintro W rfl
         exact bclone_by _ x.key W (Hby.out.below HS1.out.below) Hx.out.ok.klen
       clear hs hwk hle d0 d1 d2 d3 d4 d5 z0 z1 z2 z3 z4 z5 f0 f1 f2 f3 hs1 hs2 hs3 hs4 hs5 hs6 hlt c0 c1
       go_upto_region 7 with (go_at_call 45; (with_reducible refine (Kb.out _ rfl).mono ?_); rintro e w2 ⟨v2, rfl, hk2, hb2⟩; obtain ⟨ca2, cc2, rfl⟩ : ∃ a c', v2 = .slice a x.key.length c' := (by obtain ⟨_, _, a, c', e, _⟩ := hk2; exact ⟨a, c', e⟩); have u3 := cell_later hb2 y3; have uz := (hb2.frozen (p := ⟨wb, 3, none⟩) hltc).trans q3; have Hk2 := Lib.hid hk2; have Hb2 := Lib.hid hb2; clear hk2 hb2)
       refine wp_name (fun y => Sit y W0 B A p.s.m p.s.pd pb wb cb (playV A.K (.slice (some ⟨wb, 0, none⟩) 1 cw) cv) (arr1.setIfInBounds 3 (.slice ca2 x.key.length cc2)) ca cv p.out.length dn ∧ ByAt y (.slice ca2 x.key.length cc2) x.key) ⟨(HS1.out.later Hb2.out).set 3 _, (Hk2.out.stw (HS1.out.later Hb2.out).work).by⟩ ?_
       rintro y ⟨hsy, hky⟩
       have hwk2 := Hwk1.out.set3 ca2 x.key.length cc2
       have c0 : y.cell? ⟨pb, 0, none⟩ = some (P A.K) := hsy.play.cell 0
       have d1 : y.cell? ⟨wb, 1, none⟩ = some (.int .u8 (x.op : Nat)) := by rw [hsy.work.cell]; exact hwk2.c1
       have d2 : y.cell? ⟨wb, 2, none⟩ = some (.int .i64 x.pol) := by rw [hsy.work.cell]; exact hwk2.c2
       have d3 : y.cell? ⟨wb, 3, none⟩ = some (.slice ca2 x.key.length cc2) := by rw [hsy.work.cell]; exact hwk2.c3
       have d4 : y.cell? ⟨wb, 4, none⟩ = some (.int .i64 x.n) := by rw [hsy.work.cell]; exact hwk2.c4
       have HSY := Lib.hid hsy; have Hky := Lib.hid hky; have Hwk2 := Lib.hid hwk2
       have Ks : Hid (∀ W, W = y.drew → Calls Tryz.prog 22 #[P A.K, .int .i64 0, .agg #[.int .u8 (x.op : Nat), .int .i64 x.pol, .slice ca2 x.key.length cc2, .int .i64 x.n]] W fun e w' => e = .returned (.int .i64 0) ∧ SysAt w' B A (startS p.s 0 x).m (startS p.s 0 x).pd ∧ Fz B W w') := by
         rintro W rfl
         have hb := (Below.refl y.heap.size y).drew
         refine (start_any B A p.s.m p.s.pd 0 x _ y.drew (HSY.out.sys.keep hb) HT.out Hg1.out (by decide) Hx.out (Hky.out.below hb)).mono ?_
         rintro e w' ⟨rfl, k1, k2, _⟩
         rw [startS_none x Hg1.out]
         exact ⟨rfl, k1, ⟨_, k2⟩⟩
       clear hsy hky hwk2 y3 q3 u3 uz hltc
       go_upto_region 7 with fail
       go_still_tail 9, (by kernel_rfl)
       change wpList _ _ _ _ _ y.drew
       have Kst : Hid (∀ W, SysAt W B A (startS p.s 0 x).m (startS p.s 0 x).pd → Calls Tryz.prog 14 #[P A.K] W fun e w' => e = .returned (.int .i64 ((startS p.s 0 x).m.count - 1)) ∧ W = w') := fun W h => steps_any B A _ W h.st (by have := Hok1.out.few; omega)
       have hct0 : 0 ≤ (startS p.s 0 x).m.count := by rw [startS_none x Hg1.out]; exact HSY.out.sys.st.count
       have hct1 : (startS p.s 0 x).m.count ≤ 4611686018427387000 := by have := Hok1.out.few; omega
       have Hmk2 : Hid (∀ (w3 : World), Sit w3 W0 B A (startS p.s 0 x).m (startS p.s 0 x).pd pb wb cb (playV A.K (.slice (some ⟨wb, 0, none⟩) 1 cw) cv) (arr1.setIfInBounds 3 (.slice ca2 x.key.length cc2)) ca cv p.out.length dn → w3.cell? ⟨wb, 5, none⟩ = some (.int .i64 b5) ∧ ∀ f : Int, OpenS W0 B A (startS p.s 0 x).m (startS p.s 0 x).pd pb wb cb (playV A.K (.slice (some ⟨wb, 0, none⟩) 1 cw) cv) ca cv p.out.length dn l1 (w3.setCell ⟨wb, 5, none⟩ (.int .i64 f))) := fun w3 h => ⟨by rw [h.work.cell]; exact Hwk2.out.c5, fun f => ⟨_, _, _, _, _, _, _, _, f, h.set 5 (.int .i64 f), Hwk2.out.set5 f, Hle1.out⟩⟩
       generalize (startS p.s 0 x).m.count = ct at *
       go_wp2_with (first
         | (go_at_call 22; (with_reducible refine (Ks.out _ rfl).mono ?_); rintro e w3 ⟨rfl, hs3, hf3⟩; have HS3 := Lib.hid ((HSY.out.later (Below.refl _ _).drew).fz hs3 hf3); have x0 : w3.cell? ⟨pb, 0, none⟩ = some (P A.K) := HS3.out.play.cell 0; obtain ⟨x5, hop⟩ := Hmk2.out _ HS3.out; have Hop := Lib.hid hop; have x5f := HS3.out.work.free 5; have hlt3 := HS3.out.work.lt; clear hs3 hf3 hop)
         | (go_at_call 14; (with_reducible refine (Kst.out _ HS3.out.sys).mono ?_); rintro e w4 ⟨rfl, rfl⟩))
       go_meet
       with_reducible exact Hop.out _
 case rest =>
   obtain ⟨arr1, lv1, b1, b2, b3, b4, b5, b6, b7, hs, hwk, hle⟩ := hcut
   have c0 : wc.cell? ⟨pb, 0, none⟩ = some (P A.K) := hs.play.cell 0
   have HS1 := Lib.hid hs; have Hwk1 := Lib.hid hwk; have Hle1 := Lib.hid hle
   clear hs hwk hle c1
   go_upto_region 10 with (go_at_call 21; (with_reducible refine (Kt.out _ HS1.out.sys).mono ?_); rintro e w2 ⟨rfl, hs2, hf2⟩; have HS2 := Lib.hid (HS1.out.fz hs2 hf2); clear hs2 hf2)
   refine wp_name (fun v => Sit v W0 B A s2.m s2.pd pb wb cb (playV A.K (.slice (some ⟨wb, 0, none⟩) 1 cw) cv) arr1 ca cv p.out.length dn ∧ Bx v w2.heap.size 37 (resA d a)) ⟨HS2.out.later (below_allocs [_] w2), Bx.new w2 _ _⟩ ?_
   rintro v ⟨hsv, hbx⟩
   have r0 := hbx.cell 0
   have HSV := Lib.hid hsv; have Hbx := Lib.hid hbx
   clear hsv hbx c0
   cases d with
   | false =>
     go_wp2_with fail
     exact bodyPost_ret (v := .bool true) (by simp [results, Tryz.results33, go_sem]) rfl ⟨rfl, by rw [Hp2.out]; exact ⟨Hcap.out, arr1, lv1, cv, dn, HSV.out, ⟨_, _, _, _, _, _, _, Hwk1.out⟩, Hle1.out, Hdn.out⟩⟩
   | true =>
     obtain ⟨i0, hi, hz0, hz1, hz2⟩ := info_parts info_done
     have Kst : Hid (∀ W, SysAt W B A s2.m s2.pd → Calls Tryz.prog 14 #[P A.K] W fun e w' => e = .returned (.int .i64 (s2.m.count - 1)) ∧ W = w') := fun W h => steps_any B A _ W h.st (by have := Hcnt.out; omega)
     have HSa : Hid (∀ W : World, Below v.heap.size v W → W.cell? ⟨pb, 0, none⟩ = some (P A.K) ∧ W.cell? ⟨pb, 2, none⟩ = some cv ∧ W.cell? ⟨wb, 1, none⟩ = some (.int .u8 b1) ∧ W.cell? ⟨wb, 2, none⟩ = some (.int .i64 b2) ∧ W.cell? ⟨wb, 3, none⟩ = some (.slice b3 b4 b5) ∧ W.cell? ⟨wb, 4, none⟩ = some (.int .i64 b6) ∧ W.cell? ⟨wb, 5, none⟩ = some (.int .i64 b7) ∧ W.cell? ⟨w2.heap.size, 1, none⟩ = some (.int .i64 a.e) ∧ W.cell? ⟨w2.heap.size, 2, none⟩ = some (.bool a.granted) ∧ W.cell? ⟨w2.heap.size, 3, none⟩ = some (.int .i64 a.left) ∧ W.cell? ⟨w2.heap.size, 4, none⟩ = some (.int .i64 a.wait) ∧ W.cell? ⟨w2.heap.size, 5, none⟩ = some (.int .i64 a.serial) ∧ W.cell? ⟨w2.heap.size, 6, none⟩ = some (.int .i64 a.now)) := fun W hb => by
       have h := HSV.out.later hb
       have hx := Hbx.out.below hb Hbx.out.lt
       exact ⟨h.play.cell 0, h.play.cell 2, by rw [h.work.cell]; exact Hwk1.out.c1, by rw [h.work.cell]; exact Hwk1.out.c2, by rw [h.work.cell]; exact Hwk1.out.c3, by rw [h.work.cell]; exact Hwk1.out.c4, by rw [h.work.cell]; exact Hwk1.out.c5, hx.cell 1, hx.cell 2, hx.cell 3, hx.cell 4, hx.cell 5, hx.cell 6⟩
     have HSb : Hid (∀ (W w5 : World), Below v.heap.size v W → W.grownBy w5 cv.ownBlock → ((w5.cell? ⟨pb, 0, none⟩ = some (P A.K) ∧ w5.cell? ⟨pb, 2, none⟩ = some cv ∧ w5.cell? ⟨wb, 1, none⟩ = some (.int .u8 b1) ∧ w5.cell? ⟨wb, 2, none⟩ = some (.int .i64 b2) ∧ w5.cell? ⟨wb, 3, none⟩ = some (.slice b3 b4 b5) ∧ w5.cell? ⟨wb, 4, none⟩ = some (.int .i64 b6) ∧ w5.cell? ⟨wb, 5, none⟩ = some (.int .i64 b7) ∧ w5.cell? ⟨w2.heap.size, 1, none⟩ = some (.int .i64 a.e) ∧ w5.cell? ⟨w2.heap.size, 2, none⟩ = some (.bool a.granted) ∧ w5.cell? ⟨w2.heap.size, 3, none⟩ = some (.int .i64 a.left) ∧ w5.cell? ⟨w2.heap.size, 4, none⟩ = some (.int .i64 a.wait) ∧ w5.cell? ⟨w2.heap.size, 5, none⟩ = some (.int .i64 a.serial) ∧ w5.cell? ⟨w2.heap.size, 6, none⟩ = some (.int .i64 a.now)) ∧ w5.frozen? ⟨pb, 2, none⟩ = false)) := fun W w5 hb hg => by
       have h := HSV.out.later hb
       have ho := Only.grown h.row hg h.below.size
       have hx := ho.bx (Hbx.out.below hb Hbx.out.lt) (by decide)
       have hp := ho.bx h.play (by decide)
       have hw := ho.bx h.work (by decide)
       exact ⟨⟨hp.cell 0, hp.cell 2, by rw [hw.cell]; exact Hwk1.out.c1, by rw [hw.cell]; exact Hwk1.out.c2, by rw [hw.cell]; exact Hwk1.out.c3, by rw [hw.cell]; exact Hwk1.out.c4, by rw [hw.cell]; exact Hwk1.out.c5, hx.cell 1, hx.cell 2, hx.cell 3, hx.cell 4, hx.cell 5, hx.cell 6⟩, hp.free 2⟩
     have hpv : pb < v.heap.size := HSV.out.play.lt
     have HRow : Hid (∀ W, Below v.heap.size v W → W.ownsRow W0.heap.size 68 13 cv p.out.length dn ∧ W0.heap.size ≤ W.heap.size) := fun W hb => ⟨(HSV.out.later hb).row, (HSV.out.later hb).below.size⟩
     have Hfin : Hid (∀ (W w5 : World) (v' : Value), Below v.heap.size v W → W.grownBy w5 cv.ownBlock → w5.ownsRow W0.heap.size 68 13 v' (p.out.length + 1) (dn ++ [.int .i64 0, .int .u8 b1, .int .i64 b2, .slice b3 b4 b5, .int .i64 b6, .int .i64 b7, .int .i64 (s2.m.count - 1), .int .i64 a.e, .bool a.granted, .int .i64 a.left, .int .i64 a.wait, .int .i64 a.serial, .int .i64 a.now]) → PlayS (w5.setCell ⟨pb, 2, none⟩ v') W0 B A pb wb cb cw ca p2) := fun W w5 v' hb hg hr => by
       rw [Hp2.out]
       refine ⟨Hcap.out, arr1, lv1, v', dn ++ [.int .i64 0, .int .u8 b1, .int .i64 b2, .slice b3 b4 b5, .int .i64 b6, .int .i64 b7, .int .i64 (s2.m.count - 1), .int .i64 a.e, .bool a.granted, .int .i64 a.left, .int .i64 a.wait, .int .i64 a.serial, .int .i64 a.now], ?_, ⟨_, _, _, _, _, _, _, Hwk1.out⟩, Hle1.out, ?_⟩
       · have h := (HSV.out.later hb).done (Hoff.out rfl) hg hr 2
         have e : (p.out ++ [a]).length = p.out.length + 1 := by simp
         show Sit _ _ _ _ _ _ _ _ _ _ _ _ _ (p.out ++ [a]).length _
         rw [e]
         exact h
       · have hlen : dn.length = p.out.length * 13 := HSV.out.row.1
         refine ⟨fun i r hi j u hu => ?_, fun i hi => ?_⟩
         · have hi : (p.out ++ [a])[i]? = some r := hi
           rcases Nat.lt_or_ge i p.out.length with hlt | hge
           · rw [List.getElem?_append_left hlt] at hi
             have h1 := Hdn.out.1 i r hi j u hu
             have hj : i * 13 + 7 + j < dn.length := (List.getElem?_eq_some_iff.1 h1).1
             rw [List.getElem?_append_left hj]
             exact h1
           · have hlt := (List.getElem?_eq_some_iff.1 hi).1
             rw [List.length_append, List.length_singleton] at hlt
             obtain rfl : i = p.out.length := by omega
             rw [List.getElem?_append_right (Nat.le_refl _), Nat.sub_self] at hi
             have hi : some a = some r := hi
             injection hi with hi
             subst hi
             rw [List.getElem?_append_right (by omega), show p.out.length * 13 + 7 + j - dn.length = 7 + j by omega]
             match j, hu with
             | 0, hu => exact hu
             | 1, hu => exact hu
             | 2, hu => exact hu
             | 3, hu => exact hu
             | 4, hu => exact hu
             | 5, hu => exact hu
             | j + 6, hu => simp at hu
         · have hi : i < (p.out ++ [a]).length := hi
           rw [List.length_append, List.length_singleton] at hi
           rcases Nat.lt_or_ge i p.out.length with hlt | hge
           · obtain ⟨y0, y1, y2, y3, y4, y5, y6, y7, y8, h⟩ := Hdn.out.2 i hlt
             refine ⟨y0, y1, y2, y3, y4, y5, y6, y7, y8, fun j u hu => ?_⟩
             have h1 := h j u hu
             have hj : i * 13 + j < dn.length := (List.getElem?_eq_some_iff.1 h1).1
             rw [List.getElem?_append_left hj]
             exact h1
           · obtain rfl : i = p.out.length := by omega
             refine ⟨0, b1, b2, b3, b4, b5, b6, b7, s2.m.count - 1, fun j u hu => ?_⟩
             rw [List.getElem?_append_right (by omega), show p.out.length * 13 + j - dn.length = j by omega]
             match j, hu with
             | 0, hu => exact hu
             | 1, hu => exact hu
             | 2, hu => exact hu
             | 3, hu => exact hu
             | 4, hu => exact hu
             | 5, hu => exact hu
             | 6, hu => exact hu
             | j + 7, hu => simp at hu
     have hct : 0 ≤ s2.m.count := Hcnt.out.2
     have hct2 : s2.m.count ≤ 4611686018427387800 := Hcnt.out.1
     have Hpl := Lib.hid (Hol.out)
     generalize s2.m.count = ct at *
     go_upto_region 11 with fail
     refine wp_region_split 25 (S := fun W => W.cell? ⟨pb, 0, none⟩ = some (P A.K) ∧ W.cell? ⟨pb, 2, none⟩ = some cv ∧ W.cell? ⟨wb, 1, none⟩ = some (.int .u8 b1) ∧ W.cell? ⟨wb, 2, none⟩ = some (.int .i64 b2) ∧ W.cell? ⟨wb, 3, none⟩ = some (.slice b3 b4 b5) ∧ W.cell? ⟨wb, 4, none⟩ = some (.int .i64 b6) ∧ W.cell? ⟨wb, 5, none⟩ = some (.int .i64 b7) ∧ W.cell? ⟨w2.heap.size, 1, none⟩ = some (.int .i64 a.e) ∧ W.cell? ⟨w2.heap.size, 2, none⟩ = some (.bool a.granted) ∧ W.cell? ⟨w2.heap.size, 3, none⟩ = some (.int .i64 a.left) ∧ W.cell? ⟨w2.heap.size, 4, none⟩ = some (.int .i64 a.wait) ∧ W.cell? ⟨w2.heap.size, 5, none⟩ = some (.int .i64 a.serial) ∧ W.cell? ⟨w2.heap.size, 6, none⟩ = some (.int .i64 a.now)) (by kernel_rfl) (by kernel_rfl) ?_ (fun hHeld => ?_)
     · refine HSa.out _ ?_; (repeat (first | (with_reducible first | exact RowKit.Below.refl _ _ | assumption | refine RowKit.Below.drew ?_) | ((with_reducible refine belAlloc ?_ ?_); (first | simp <;> omega | omega))))
     simp only [List.take_succ_cons, List.take_zero, List.drop_succ_cons, List.drop_zero, List.length_cons, List.length_nil, Nat.zero_add, Nat.reduceAdd]
     refine heldTake (i := 0) (v := ?_) rfl (by kernel_rfl) (by kernel_rfl) (by kernel_rfl) (by rfl) ?_ (by assumption) ?_
     rotate_left
     · (intro W hSw; (try dsimp only at hSw); go_simp; (try with_reducible rfl))
     (try simp only [Act.put, List.setIfInBounds_toArray, List.set_cons_zero, List.set_cons_succ])
     refine heldTake (i := 1) (v := ?_) rfl (by kernel_rfl) (by kernel_rfl) (by kernel_rfl) (by rfl) ?_ (by assumption) ?_
     rotate_left
     · (intro W hSw; (try dsimp only at hSw); go_simp; (try with_reducible rfl))
     (try simp only [Act.put, List.setIfInBounds_toArray, List.set_cons_zero, List.set_cons_succ])
     refine heldTake (i := 2) (v := ?_) rfl (by kernel_rfl) (by kernel_rfl) (by kernel_rfl) (by rfl) ?_ (by assumption) ?_
     rotate_left
     · (intro W hSw; (try dsimp only at hSw); go_simp; (try with_reducible rfl))
     (try simp only [Act.put, List.setIfInBounds_toArray, List.set_cons_zero, List.set_cons_succ])
     refine heldTake (i := 3) (v := ?_) rfl (by kernel_rfl) (by kernel_rfl) (by kernel_rfl) (by rfl) ?_ (by assumption) ?_
     rotate_left
     · (intro W hSw; (try dsimp only at hSw); go_simp; (try with_reducible rfl))
     (try simp only [Act.put, List.setIfInBounds_toArray, List.set_cons_zero, List.set_cons_succ])
     refine heldTake (i := 4) (v := ?_) rfl (by kernel_rfl) (by kernel_rfl) (by kernel_rfl) (by rfl) ?_ (by assumption) ?_
     rotate_left
     · (intro W hSw; (try dsimp only at hSw); go_simp; (try with_reducible rfl))
     (try simp only [Act.put, List.setIfInBounds_toArray, List.set_cons_zero, List.set_cons_succ])
     refine heldTake (i := 5) (v := ?_) rfl (by kernel_rfl) (by kernel_rfl) (by kernel_rfl) (by rfl) ?_ (by assumption) ?_
     rotate_left
     · (intro W hSw; (try dsimp only at hSw); go_simp; (try with_reducible rfl))
     (try simp only [Act.put, List.setIfInBounds_toArray, List.set_cons_zero, List.set_cons_succ])
     refine heldTake (i := 6) (v := ?_) rfl (by kernel_rfl) (by kernel_rfl) (by kernel_rfl) (by rfl) ?_ (by assumption) ?_
     rotate_left
     · (intro W hSw; (try dsimp only at hSw); go_simp; (try with_reducible rfl))
     (try simp only [Act.put, List.setIfInBounds_toArray, List.set_cons_zero, List.set_cons_succ])
     refine heldTake (i := 7) (v := ?_) rfl (by kernel_rfl) (by kernel_rfl) (by kernel_rfl) (by rfl) ?_ (by assumption) ?_
     rotate_left
     · (intro W hSw; (try dsimp only at hSw); go_simp; (try with_reducible rfl))
     (try simp only [Act.put, List.setIfInBounds_toArray, List.set_cons_zero, List.set_cons_succ])
     refine heldTake (i := 8) (v := ?_) rfl (by kernel_rfl) (by kernel_rfl) (by kernel_rfl) (by rfl) ?_ (by assumption) ?_
     rotate_left
     · (intro W hSw; (try dsimp only at hSw); go_simp; (try with_reducible rfl))
     (try simp only [Act.put, List.setIfInBounds_toArray, List.set_cons_zero, List.set_cons_succ])
     refine heldTake (i := 9) (v := ?_) rfl (by kernel_rfl) (by kernel_rfl) (by kernel_rfl) (by rfl) ?_ (by assumption) ?_
     rotate_left
     · (intro W hSw; (try dsimp only at hSw); go_simp; (try with_reducible rfl))
     (try simp only [Act.put, List.setIfInBounds_toArray, List.set_cons_zero, List.set_cons_succ])
     refine heldTake (i := 10) (v := ?_) rfl (by kernel_rfl) (by kernel_rfl) (by kernel_rfl) (by rfl) ?_ (by assumption) ?_
     rotate_left
     · (intro W hSw; (try dsimp only at hSw); go_simp; (try with_reducible rfl))
     (try simp only [Act.put, List.setIfInBounds_toArray, List.set_cons_zero, List.set_cons_succ])
     refine heldTake (i := 11) (v := ?_) rfl (by kernel_rfl) (by kernel_rfl) (by kernel_rfl) (by rfl) ?_ (by assumption) ?_
     rotate_left
     · (intro W hSw; (try dsimp only at hSw); go_simp; (try with_reducible rfl))
     (try simp only [Act.put, List.setIfInBounds_toArray, List.set_cons_zero, List.set_cons_succ])
     refine heldTake (i := 12) (v := ?_) rfl (by kernel_rfl) (by kernel_rfl) (by kernel_rfl) (by rfl) ?_ (by assumption) ?_
     rotate_left
     · (intro W hSw; (try dsimp only at hSw); go_simp; (try with_reducible rfl))
     (try simp only [Act.put, List.setIfInBounds_toArray, List.set_cons_zero, List.set_cons_succ])
     refine heldTake (i := 13) (v := ?_) rfl (by kernel_rfl) (by kernel_rfl) (by kernel_rfl) (by rfl) ?_ (by assumption) ?_
     rotate_left
     · (intro W hSw; (try dsimp only at hSw); go_simp; (try with_reducible rfl))
     (try simp only [Act.put, List.setIfInBounds_toArray, List.set_cons_zero, List.set_cons_succ])
     refine heldTake (i := 14) (v := ?_) rfl (by kernel_rfl) (by kernel_rfl) (by kernel_rfl) (by rfl) ?_ (by assumption) ?_
     rotate_left
     · (intro W hSw; (try dsimp only at hSw); go_simp; (try with_reducible rfl))
     (try simp only [Act.put, List.setIfInBounds_toArray, List.set_cons_zero, List.set_cons_succ])
     refine heldTake (i := 15) (v := ?_) rfl (by kernel_rfl) (by kernel_rfl) (by kernel_rfl) (by rfl) ?_ (by assumption) ?_
     rotate_left
     · (intro W hSw; (try dsimp only at hSw); go_simp; (try with_reducible rfl))
     (try simp only [Act.put, List.setIfInBounds_toArray, List.set_cons_zero, List.set_cons_succ])
     refine heldTake (i := 16) (v := ?_) rfl (by kernel_rfl) (by kernel_rfl) (by kernel_rfl) (by rfl) ?_ (by assumption) ?_
     rotate_left
     · (intro W hSw; (try dsimp only at hSw); go_simp; (try with_reducible rfl))
     (try simp only [Act.put, List.setIfInBounds_toArray, List.set_cons_zero, List.set_cons_succ])
     refine heldTake (i := 17) (v := ?_) rfl (by kernel_rfl) (by kernel_rfl) (by kernel_rfl) (by rfl) ?_ (by assumption) ?_
     rotate_left
     · (intro W hSw; (try dsimp only at hSw); go_simp; (try with_reducible rfl))
     (try simp only [Act.put, List.setIfInBounds_toArray, List.set_cons_zero, List.set_cons_succ])
     refine heldTake (i := 18) (v := ?_) rfl (by kernel_rfl) (by kernel_rfl) (by kernel_rfl) (by rfl) ?_ (by assumption) ?_
     rotate_left
     · (intro W hSw; (try dsimp only at hSw); go_simp; (try with_reducible rfl))
     (try simp only [Act.put, List.setIfInBounds_toArray, List.set_cons_zero, List.set_cons_succ])
     refine heldTake (i := 20) (v := ?_) rfl (by kernel_rfl) (by kernel_rfl) (by kernel_rfl) (by rfl) ?_ (by assumption) ?_
     rotate_left
     · (intro W hSw; (try dsimp only at hSw); go_simp; (try with_reducible rfl))
     (try simp only [Act.put, List.setIfInBounds_toArray, List.set_cons_zero, List.set_cons_succ])
     refine heldTake (i := 21) (v := ?_) rfl (by kernel_rfl) (by kernel_rfl) (by kernel_rfl) (by rfl) ?_ (by assumption) ?_
     rotate_left
     · (intro W hSw; (try dsimp only at hSw); go_simp; (try with_reducible rfl))
     (try simp only [Act.put, List.setIfInBounds_toArray, List.set_cons_zero, List.set_cons_succ])
     refine heldStep (i := 19) rfl (by kernel_rfl) (fun K hK => ?_)
     go_simp
     go_at_call 14
     (with_reducible refine (Kst.out _ (HSV.out.sys.keep (by (repeat (first | (with_reducible first | exact RowKit.Below.refl _ _ | assumption | refine RowKit.Below.drew ?_) | ((with_reducible refine belAlloc ?_ ?_); (first | simp <;> omega | omega))))))).mono ?_)
     rintro e w6 ⟨rfl, rfl⟩
     go_wp2_with fail
     refine hK.out _ _ ?_ (fun hHeld => ?_)
     · (try dsimp only); refine HSa.out _ ?_; (repeat (first | (with_reducible first | exact RowKit.Below.refl _ _ | assumption | refine RowKit.Below.drew ?_) | ((with_reducible refine belAlloc ?_ ?_); (first | simp <;> omega | omega))))
     clear hK K
     (try simp only [Act.put, List.setIfInBounds_toArray, List.set_cons_zero, List.set_cons_succ])
     refine heldTake (i := 22) (v := ?_) rfl (by kernel_rfl) (by kernel_rfl) (by kernel_rfl) (by rfl) ?_ (by assumption) ?_
     rotate_left
     · (intro W hSw; (try dsimp only at hSw); go_simp; (try with_reducible rfl))
     (try simp only [Act.put, List.setIfInBounds_toArray, List.set_cons_zero, List.set_cons_succ])
     refine heldStep (i := 23) rfl (by kernel_rfl) (fun K hK => ?_)
     go_simp
     refine hK.out _ _ ?_ (fun hHeld => ?_)
     · (try dsimp only); refine HSa.out _ ?_; (repeat (first | (with_reducible first | exact RowKit.Below.refl _ _ | assumption | refine RowKit.Below.drew ?_) | ((with_reducible refine belAlloc ?_ ?_); (first | simp <;> omega | omega))))
     clear hK K
     (try simp only [Act.put, List.setIfInBounds_toArray, List.set_cons_zero, List.set_cons_succ])
     refine heldStep (i := 24) rfl (by kernel_rfl) (fun K hK => ?_)
     refine step_append_lies _ (by rfl) _ _ _ (by rfl) W0.heap.size 68 i0 (.agg #[.int .i64 0, .int .u8 0, .int .i64 0, .slice none 0 0, .int .i64 0, .int .i64 0, .int .i64 0, .int .i64 0, .bool false, .int .i64 0, .int .i64 0, .int .i64 0, .int .i64 0]) 13 120 Tryz.underlying61 hi hz0 hz1 hz2 rfl (by decide) cv p.out.length dn (by rfl) (HRow.out ((v.alloc (.cells #[.int .i64 0, .int .u8 b1, .int .i64 b2, .slice b3 b4 b5, .int .i64 b6, .int .i64 b7, .int .i64 (ct - 1), .int .i64 a.e, .bool a.granted, .int .i64 a.left, .int .i64 a.wait, .int .i64 a.serial, .int .i64 a.now] 68)).drew) (by (repeat (first | (with_reducible first | exact RowKit.Below.refl _ _ | assumption | refine RowKit.Below.drew ?_) | ((with_reducible refine belAlloc ?_ ?_); (first | simp <;> omega | omega)))))).1 ⟨v.heap.size, 0, none⟩ 1 1 [.int .i64 0, .int .u8 b1, .int .i64 b2, .slice b3 b4 b5, .int .i64 b6, .int .i64 b7, .int .i64 (ct - 1), .int .i64 a.e, .bool a.granted, .int .i64 a.left, .int .i64 a.wait, .int .i64 a.serial, .int .i64 a.now] (by rfl) rfl (World.news_of_block (w := ((v.alloc (.cells #[.int .i64 0, .int .u8 b1, .int .i64 b2, .slice b3 b4 b5, .int .i64 b6, .int .i64 b7, .int .i64 (ct - 1), .int .i64 a.e, .bool a.granted, .int .i64 a.left, .int .i64 a.wait, .int .i64 a.serial, .int .i64 a.now] 68)).drew)) (heap_alloc_new v _)) (by intro u hu; simp at hu; rcases hu with rfl | rfl | rfl | rfl | rfl | rfl | rfl | rfl | rfl | rfl | rfl | rfl | rfl <;> rfl) (by decide) (by have := Hpl.out; unfold maxLen; omega) (by have := Hpl.out; omega) (HRow.out ((v.alloc (.cells #[.int .i64 0, .int .u8 b1, .int .i64 b2, .slice b3 b4 b5, .int .i64 b6, .int .i64 b7, .int .i64 (ct - 1), .int .i64 a.e, .bool a.granted, .int .i64 a.left, .int .i64 a.wait, .int .i64 a.serial, .int .i64 a.now] 68)).drew) (by (repeat (first | (with_reducible first | exact RowKit.Below.refl _ _ | assumption | refine RowKit.Below.drew ?_) | ((with_reducible refine belAlloc ?_ ?_); (first | simp <;> omega | omega)))))).2 _ rfl ?_
     intro g cap w5 hown5 hgrow5 hat5 hlt5
     have hbW := below_of (y := v) hgrow5 (by (repeat (first | (with_reducible first | exact RowKit.Below.refl _ _ | assumption | refine RowKit.Below.drew ?_) | ((with_reducible refine belAlloc ?_ ?_); (first | simp <;> omega | omega)))))
     obtain ⟨hsk, hfz5⟩ := HSb.out _ _ hbW hgrow5
     have HE := Lib.hid (Hfin.out _ _ _ hbW hgrow5 hown5)
     clear hown5 hgrow5 hbW hat5 hlt5
     refine hK.out _ _ ?_ (fun hHeld => ?_)
     · (try dsimp only); with_reducible exact hsk
     clear hK K
     (try simp only [Act.put, List.setIfInBounds_toArray, List.set_cons_zero, List.set_cons_succ])
     refine heldDone (by kernel_rfl) ?_
     simp only [List.cons_append, List.nil_append]
     go_wp2_with fail
     exact bodyPost_ret (v := .bool true) (by simp [results, Tryz.results33, go_sem]) rfl ⟨rfl, HE.out⟩
end Go.Proofs.YtemnhpdjoimjbaaGreat
