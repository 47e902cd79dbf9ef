import Derived.Test.YtemnhpdjoimjbaaGreatTs38
import Derived.Laws.EntriesVeiled
import Derived.Test.YtemnhpdjoimjbaaGreatTs14
import Derived.Test.YtemnhpdjoimjbaaGreatTs01
import Derived.Test.YtemnhpdjoimjbaaGreatTs09
import Derived.Deep.QuietTactic
import Derived.WalkSmall
namespace Go.Proofs.YtemnhpdjoimjbaaGreat
section
open Go.RowKit Top
set_option linter.unusedVariables false
theorem kont_fn {w : World} {E : Env} {v : Value} {k : Kont} (h : KontAt w E v k) : ∃ f ps, v = .func (.func f) #[] ps := by
 cases k <;> first | (obtain ⟨_, e, _⟩ := h; exact ⟨_, _, e⟩) | (obtain ⟨_, _, e, _⟩ := h; exact ⟨_, _, e⟩) | (obtain ⟨_, _, _, e, _⟩ := h; exact ⟨_, _, e⟩) | (obtain ⟨_, _, _, _, e, _⟩ := h; exact ⟨_, _, e⟩) | (obtain ⟨_, _, _, _, _, e, _⟩ := h; exact ⟨_, _, e⟩) | (obtain ⟨_, _, _, _, _, _, e, _⟩ := h; exact ⟨_, _, e⟩) | (obtain ⟨_, _, _, _, _, _, _, e, _⟩ := h; exact ⟨_, _, e⟩) | (obtain ⟨_, _, _, _, _, _, _, _, e, _⟩ := h; exact ⟨_, _, e⟩) | (obtain ⟨_, _, _, _, _, _, _, _, _, e, _⟩ := h; exact ⟨_, _, e⟩) | (obtain ⟨_, _, _, _, _, _, _, _, _, _, e, _⟩ := h; exact ⟨_, _, e⟩)
theorem out_fn {w : World} {E : Env} {v : Value} {d : Bool} {a : Reply} {o : Kont ⊕ Reply} {k : Kont} (e : o = .inl k) (h : OutAt w E v d a o) : ∃ f ps, v = .func (.func f) #[] ps := by
 subst e
 exact kont_fn h.1
theorem out_nil {w : World} {E : Env} {v : Value} {d : Bool} {a : Reply} {o : Kont ⊕ Reply} {r : Reply} (e : o = .inr r) (h : OutAt w E v d a o) : v = .nilFunc := by
 subst e
 exact h.1
theorem Out.store' {w w2 : World} {B r : Nat} {X : List Nat} {E : Env} {o : Out} {v : Value} {d : Bool} {a : Reply} (hr : Bx w2 r 37 res0) (hnew : w.heap.size ≤ r) (hB : B ≤ w.heap.size) (ho : OutAt w2 E v d a o.1) (hc : CallAt w2 E o.2.1) (hs : St w2 B E.A o.2.2) (hf : Fr B X w w2) :
   ∃ W, W = (((((((w2.setCell ⟨r, 0, none⟩ (.bool d)).setCell ⟨r, 1, none⟩ (.int .i64 a.e)).setCell ⟨r, 2, none⟩ (.bool a.granted)).setCell ⟨r, 3, none⟩ (.int .i64 a.left)).setCell ⟨r, 4, none⟩ (.int .i64 a.wait)).setCell ⟨r, 5, none⟩ (.int .i64 a.serial)).setCell ⟨r, 6, none⟩ (.int .i64 a.now)) ∧ Bx W r 37 (resA d a) ∧ OutAt W E v d a o.1 ∧ CallAt W E o.2.1 ∧ St W B E.A o.2.2 ∧ Fr B X w W := by
 have b0 := hr.setCell 0 (.bool d)
 have b1 := b0.setCell 1 (.int .i64 a.e)
 have b2 := b1.setCell 2 (.bool a.granted)
 have b3 := b2.setCell 3 (.int .i64 a.left)
 have b4 := b3.setCell 4 (.int .i64 a.wait)
 have b5 := b4.setCell 5 (.int .i64 a.serial)
 have b6 := b5.setCell 6 (.int .i64 a.now)
 refine ⟨_, rfl, b6, ?_, ((((((hc.setRes hr _).setRes b0 _).setRes b1 _).setRes b2 _).setRes b3 _).setRes b4 _).setRes b5 _, ((((((hs.setRes hr _).setRes b0 _).setRes b1 _).setRes b2 _).setRes b3 _).setRes b4 _).setRes b5 _, ?_⟩
 · rcases h : o.1 with k | r'
   · rw [h] at ho
     obtain ⟨hk, rfl, rfl⟩ := ho
     exact ⟨outKont hr hk, rfl, rfl⟩
   · rw [h] at ho
     obtain ⟨e1, e2, e3⟩ := ho
     exact ⟨e1, e2, e3⟩
 · have hb : B ≤ r := Nat.le_trans hB hnew
   exact ((((((hf.setNew (p := ⟨r, 0, none⟩) hb hnew _).setNew (p := ⟨r, 1, none⟩) hb hnew _).setNew (p := ⟨r, 2, none⟩) hb hnew _).setNew (p := ⟨r, 3, none⟩) hb hnew _).setNew (p := ⟨r, 4, none⟩) hb hnew _).setNew (p := ⟨r, 5, none⟩) hb hnew _).setNew (p := ⟨r, 6, none⟩) hb hnew _
set_option maxHeartbeats 2000000 in
set_option maxRecDepth 100000 in
theorem calls_step (B : Nat) (E : Env) (who : Nat) (x : Live) (m : Mem) (k : Kont) (cl : Nat) (v : Value) (arr : Array Value) (w : World) (hw : E.who = who) (hw64 : who < 64) (T : TabOk E.A.list E.A.room) (hi : SInv E.A.list E.A.room m cl) (hl : LiveOk E.A.list x) (hk : KOk E.A.list E.A.room m x k) (he : EOk E x) (hc : m.count < 4611686018427387900) (hB : B ≤ E.x) (hv : KontAt w E v k) (hs : St w B E.A m) (hcl : CallAt w E x) (hK : Bx w E.A.K 87 arr) (hKB : B ≤ E.A.K) (ha : arr[3 + who]? = some v) :
   Calls Tryz.prog 43 #[.pointer (some ⟨E.A.K, 3, none⟩), .int .i64 who] w fun e w' => ∃ v' d a, e = .returned (.agg (resA d a)) ∧ OutAt w' E v' d a (stepF BlV E.A.list E.A.room k x m).1 ∧ CallAt w' E (stepF BlV E.A.list E.A.room k x m).2.1 ∧ St w' B E.A (stepF BlV E.A.list E.A.room k x m).2.2 ∧ Bx w' E.A.K 87 (arr.setIfInBounds (3 + who) v') ∧ Fr B [E.x, E.A.K] w w' := by
 have Y0 := Lib.hid (Was.start hs hcl)
 have HK0 := Lib.hid hK
 have c0 : w.cell? ⟨E.A.K, 3 + who, none⟩ = some v := by rw [hK.cell]; exact ha
 have KS : Hid (∀ W, Below w.heap.size w W → ∃ f ps, v = .func (.func f) #[] ps ∧ Enters f ∧ Calls Tryz.prog f ps W (ORes W B E (stepF BlV E.A.list E.A.room k x m))) := fun W hb =>
   step_any B E x m k cl v W T hi hl hk he hc hB (hv.keep (fr0 hb)) (hs.later hb) (hcl.keep (fr0 hb) (by simp))
 obtain ⟨f, ps, rfl, hef, _⟩ := KS.out w (Below.refl _ _)
 have hef' := hef
 unfold Enters at hef
 have HS : Hid (∀ W, Below w.heap.size w W → Calls Tryz.prog f ps W (ORes W B E (stepF BlV E.A.list E.A.room k x m))) := fun W hb => by
   obtain ⟨f', ps', e, _, h⟩ := KS.out W hb
   injection e with e1 _ e3
   injection e1 with e1
   subst e1 e3
   exact h
 generalize stepF BlV E.A.list E.A.room k x m = o at *
 have Ha0 := Lib.hid ha
 have hne : E.A.K ≠ E.x := by
   obtain ⟨_, hx, _⟩ := hcl
   exact hK.ne hx (by decide)
 have Hne := Lib.hid (show E.A.K ∉ [E.x] by simpa using hne)
 clear KS T hi hl hk he hc hB hv hs hcl hK ha hef' hne
 have hcase : (∃ k', o.1 = .inl k') ∨ (∃ r', o.1 = .inr r') := by
   cases h : o.1 with
   | inl k' => exact .inl ⟨k', rfl⟩
   | inr r' => exact .inr ⟨r', rfl⟩
 rcases hcase with ⟨k', hk'⟩ | ⟨r', hr'⟩
 · go_enter Tryz.func43, Tryz.ntmps43
   go_wp2_with fail
   refine wp_name (fun u => Below w.heap.size w u ∧ Bx u w.heap.size 37 res0 ∧ Bx u (w.heap.size + 1) 37 res0) ⟨below_allocs [_, _] w, bx_allocs w [_, _] 0 rfl, bx_allocs w [_, _] 1 rfl⟩ ?_
   rintro y ⟨g0, g1, g2⟩
   have G0 := Lib.hid g0; have G1 := Lib.hid g1; have G2 := Lib.hid g2
   have d0 := cell_later g0 c0
   have d0' : y.drew.cell? ⟨E.A.K, 3 + who, none⟩ = some (.func (.func f) #[] ps) := d0
   have HKy : Hid (Bx y.drew E.A.K 87 arr) := HK0.out.below g0.drew HK0.out.lt
   clear c0 g0 g1 g2
   go_region_with (go_at_fn f; (refine (HS.out _ (G0.out.drew)).mono ?_); rintro e w2 h; obtain ⟨v', d, a, rfl, ha⟩ := Ans.of h; obtain ⟨q1, q2, rfl⟩ := out_fn hk' ha.out; have hk2 : Bx w2 E.A.K 87 arr := ha.fr.quiet _ _ _ _ HKy.out (.inr ⟨rfl, Hne.out⟩); have p1 : w2.frozen? ⟨E.A.K, 3 + who, none⟩ = false := hk2.free _; have p2 : w2.cell? ⟨E.A.K, 3 + who, none⟩ = some (.func (.func f) #[] ps) := (hk2.cell _).trans Ha0.out; have hr3 : Bx w2 (w.heap.size + 1) 37 res0 := (show Bx y.drew (w.heap.size + 1) 37 res0 from G2.out).keep ha.fr rfl; obtain ⟨r0, r1, r2, r3, r4, r5, r6⟩ := res_cells hr3; obtain ⟨f0, f1, f2, f3, f4, f5, f6⟩ := res_free hr3; have hkr : E.A.K ≠ w.heap.size + 1 := hk2.ne hr3 (by decide); have Hk2 := Lib.hid hk2; have Hr3 := Lib.hid hr3; have Ha := Lib.hid ha; clear ha h hk2 hr3)
   all_goals
     have hp := Ha.out.st.setPend Hk2.out hKB (3 + who) (by omega) (.func (.func q1) #[] q2)
     have hE : E.x ∉ [E.A.K] := by have := Hne.out; simpa using fun e => this (by simp [e])
     have hfr : Fr B [E.x, E.A.K] w (w2.setCell ⟨E.A.K, 3 + who, none⟩ (.func (.func q1) #[] q2)) := ((Y0.out.fr.mono (Nat.le_refl _) (by simp)).below Y0.out.st.below.2.2.2 G0.out.drew).trans ((Ha.out.fr.mono (Nat.le_refl _) (by simp)).trans (hp.2.mono (Nat.le_refl _) (by simp)))
     obtain ⟨W, eW, g1, g2, g3, g4, g5⟩ := Out.store' (w := w) (X := [E.x, E.A.K]) (Hr3.out.sne (Ne.symm hkr)) (by omega) Y0.out.st.below.2.2.2 (Ha.out.out.keep hp.2) (Ha.out.call.keep hp.2 hE) hp.1 hfr
     rw [← eW]
     have hK4 : Bx W E.A.K 87 (arr.setIfInBounds (3 + who) (.func (.func q1) #[] q2)) := by
       rw [eW]
       exact (((((((Hk2.out.setCell (3 + who) (.func (.func q1) #[] q2)).sne hkr).sne hkr).sne hkr).sne hkr).sne hkr).sne hkr).sne hkr
     have hr0 : Bx W w.heap.size 37 res0 := by
       have h1 : Bx w2 w.heap.size 37 res0 := (show Bx y.drew w.heap.size 37 res0 from G1.out).keep Ha.out.fr rfl
       have n1 : w.heap.size ≠ E.A.K := h1.ne Hk2.out (by decide)
       have n2 : w.heap.size ≠ w.heap.size + 1 := by omega
       rw [eW]
       exact (((((((h1.sne n1).sne n2).sne n2).sne n2).sne n2).sne n2).sne n2).sne n2
     refine then_name (fun u => u = W) rfl ?_
     rintro u rfl
     obtain ⟨r0, r1, r2, r3, r4, r5, r6⟩ := res_cells hr0
     obtain ⟨f0, f1, f2, f3, f4, f5, f6⟩ := res_free hr0
     obtain ⟨s0, s1, s2, s3, s4, s5, s6⟩ := (⟨g1.cell 0, g1.cell 1, g1.cell 2, g1.cell 3, g1.cell 4, g1.cell 5, g1.cell 6⟩ : u.cell? ⟨w.heap.size + 1, 0, none⟩ = some (.bool d) ∧ u.cell? ⟨w.heap.size + 1, 1, none⟩ = some (.int .i64 a.e) ∧ u.cell? ⟨w.heap.size + 1, 2, none⟩ = some (.bool a.granted) ∧ u.cell? ⟨w.heap.size + 1, 3, none⟩ = some (.int .i64 a.left) ∧ u.cell? ⟨w.heap.size + 1, 4, none⟩ = some (.int .i64 a.wait) ∧ u.cell? ⟨w.heap.size + 1, 5, none⟩ = some (.int .i64 a.serial) ∧ u.cell? ⟨w.heap.size + 1, 6, none⟩ = some (.int .i64 a.now))
     have HR0 := Lib.hid hr0; have HG := Lib.hid (And.intro g2 (And.intro g3 (And.intro g4 g5))); have HK4 := Lib.hid hK4
     clear eW hr0 g1 g2 g3 g4 g5 hK4 hfr hp hE
     go_wp2_with fail
     have hkq : E.A.K ≠ w.heap.size := HK4.out.ne HR0.out (by decide)
     obtain ⟨W', eW', j1, j2, j3, j4, j5⟩ := Out.store' (w := w) (X := [E.x, E.A.K]) HR0.out (Nat.le_refl _) Y0.out.st.below.2.2.2 HG.out.1 HG.out.2.1 HG.out.2.2.1 HG.out.2.2.2
     have hK5 : Bx W' E.A.K 87 (arr.setIfInBounds (3 + who) (.func (.func q1) #[] q2)) := by
       rw [eW']
       exact ((((((HK4.out.sne hkq).sne hkq).sne hkq).sne hkq).sne hkq).sne hkq).sne hkq
     rw [← eW']
     obtain ⟨u0, u1, u2, u3, u4, u5, u6⟩ := (⟨j1.cell 0, j1.cell 1, j1.cell 2, j1.cell 3, j1.cell 4, j1.cell 5, j1.cell 6⟩ : W'.cell? ⟨w.heap.size, 0, none⟩ = some (.bool d) ∧ W'.cell? ⟨w.heap.size, 1, none⟩ = some (.int .i64 a.e) ∧ W'.cell? ⟨w.heap.size, 2, none⟩ = some (.bool a.granted) ∧ W'.cell? ⟨w.heap.size, 3, none⟩ = some (.int .i64 a.left) ∧ W'.cell? ⟨w.heap.size, 4, none⟩ = some (.int .i64 a.wait) ∧ W'.cell? ⟨w.heap.size, 5, none⟩ = some (.int .i64 a.serial) ∧ W'.cell? ⟨w.heap.size, 6, none⟩ = some (.int .i64 a.now))
     exact bodyPost_ret (v := .agg (resA d a)) (by simp [results, Tryz.results43, go_sem, u0, u1, u2, u3, u4, u5, u6]) rfl ⟨.func (.func q1) #[] q2, d, a, rfl, j2, j3, j4, hK5, j5⟩
 · go_enter Tryz.func43, Tryz.ntmps43
   go_wp2_with fail
   refine wp_name (fun u => Below w.heap.size w u ∧ Bx u w.heap.size 37 res0 ∧ Bx u (w.heap.size + 1) 37 res0) ⟨below_allocs [_, _] w, bx_allocs w [_, _] 0 rfl, bx_allocs w [_, _] 1 rfl⟩ ?_
   rintro y ⟨g0, g1, g2⟩
   have G0 := Lib.hid g0; have G1 := Lib.hid g1; have G2 := Lib.hid g2
   have d0 := cell_later g0 c0
   have d0' : y.drew.cell? ⟨E.A.K, 3 + who, none⟩ = some (.func (.func f) #[] ps) := d0
   have HKy : Hid (Bx y.drew E.A.K 87 arr) := HK0.out.below g0.drew HK0.out.lt
   clear c0 g0 g1 g2
   go_region_with (go_at_fn f; (refine (HS.out _ (G0.out.drew)).mono ?_); rintro e w2 h; obtain ⟨v', d, a, rfl, ha⟩ := Ans.of h; obtain rfl := out_nil hr' ha.out; have hk2 : Bx w2 E.A.K 87 arr := ha.fr.quiet _ _ _ _ HKy.out (.inr ⟨rfl, Hne.out⟩); have p1 : w2.frozen? ⟨E.A.K, 3 + who, none⟩ = false := hk2.free _; have p2 : w2.cell? ⟨E.A.K, 3 + who, none⟩ = some (.func (.func f) #[] ps) := (hk2.cell _).trans Ha0.out; have hr3 : Bx w2 (w.heap.size + 1) 37 res0 := (show Bx y.drew (w.heap.size + 1) 37 res0 from G2.out).keep ha.fr rfl; obtain ⟨r0, r1, r2, r3, r4, r5, r6⟩ := res_cells hr3; obtain ⟨f0, f1, f2, f3, f4, f5, f6⟩ := res_free hr3; have hkr : E.A.K ≠ w.heap.size + 1 := hk2.ne hr3 (by decide); have Hk2 := Lib.hid hk2; have Hr3 := Lib.hid hr3; have Ha := Lib.hid ha; clear ha h hk2 hr3)
   all_goals
     have hp := Ha.out.st.setPend Hk2.out hKB (3 + who) (by omega) .nilFunc
     have hE : E.x ∉ [E.A.K] := by have := Hne.out; simpa using fun e => this (by simp [e])
     have hfr : Fr B [E.x, E.A.K] w (w2.setCell ⟨E.A.K, 3 + who, none⟩ .nilFunc) := ((Y0.out.fr.mono (Nat.le_refl _) (by simp)).below Y0.out.st.below.2.2.2 G0.out.drew).trans ((Ha.out.fr.mono (Nat.le_refl _) (by simp)).trans (hp.2.mono (Nat.le_refl _) (by simp)))
     obtain ⟨W, eW, g1, g2, g3, g4, g5⟩ := Out.store' (w := w) (X := [E.x, E.A.K]) (Hr3.out.sne (Ne.symm hkr)) (by omega) Y0.out.st.below.2.2.2 (Ha.out.out.keep hp.2) (Ha.out.call.keep hp.2 hE) hp.1 hfr
     rw [← eW]
     have hK4 : Bx W E.A.K 87 (arr.setIfInBounds (3 + who) .nilFunc) := by
       rw [eW]
       exact (((((((Hk2.out.setCell (3 + who) .nilFunc).sne hkr).sne hkr).sne hkr).sne hkr).sne hkr).sne hkr).sne hkr
     have hr0 : Bx W w.heap.size 37 res0 := by
       have h1 : Bx w2 w.heap.size 37 res0 := (show Bx y.drew w.heap.size 37 res0 from G1.out).keep Ha.out.fr rfl
       have n1 : w.heap.size ≠ E.A.K := h1.ne Hk2.out (by decide)
       have n2 : w.heap.size ≠ w.heap.size + 1 := by omega
       rw [eW]
       exact (((((((h1.sne n1).sne n2).sne n2).sne n2).sne n2).sne n2).sne n2).sne n2
     refine then_name (fun u => u = W) rfl ?_
     rintro u rfl
     obtain ⟨r0, r1, r2, r3, r4, r5, r6⟩ := res_cells hr0
     obtain ⟨f0, f1, f2, f3, f4, f5, f6⟩ := res_free hr0
     obtain ⟨s0, s1, s2, s3, s4, s5, s6⟩ := (⟨g1.cell 0, g1.cell 1, g1.cell 2, g1.cell 3, g1.cell 4, g1.cell 5, g1.cell 6⟩ : u.cell? ⟨w.heap.size + 1, 0, none⟩ = some (.bool d) ∧ u.cell? ⟨w.heap.size + 1, 1, none⟩ = some (.int .i64 a.e) ∧ u.cell? ⟨w.heap.size + 1, 2, none⟩ = some (.bool a.granted) ∧ u.cell? ⟨w.heap.size + 1, 3, none⟩ = some (.int .i64 a.left) ∧ u.cell? ⟨w.heap.size + 1, 4, none⟩ = some (.int .i64 a.wait) ∧ u.cell? ⟨w.heap.size + 1, 5, none⟩ = some (.int .i64 a.serial) ∧ u.cell? ⟨w.heap.size + 1, 6, none⟩ = some (.int .i64 a.now))
     have HR0 := Lib.hid hr0; have HG := Lib.hid (And.intro g2 (And.intro g3 (And.intro g4 g5))); have HK4 := Lib.hid hK4
     clear eW hr0 g1 g2 g3 g4 g5 hK4 hfr hp hE
     go_wp2_with fail
     have hkq : E.A.K ≠ w.heap.size := HK4.out.ne HR0.out (by decide)
     obtain ⟨W', eW', j1, j2, j3, j4, j5⟩ := Out.store' (w := w) (X := [E.x, E.A.K]) HR0.out (Nat.le_refl _) Y0.out.st.below.2.2.2 HG.out.1 HG.out.2.1 HG.out.2.2.1 HG.out.2.2.2
     have hK5 : Bx W' E.A.K 87 (arr.setIfInBounds (3 + who) .nilFunc) := by
       rw [eW']
       exact ((((((HK4.out.sne hkq).sne hkq).sne hkq).sne hkq).sne hkq).sne hkq).sne hkq
     rw [← eW']
     obtain ⟨u0, u1, u2, u3, u4, u5, u6⟩ := (⟨j1.cell 0, j1.cell 1, j1.cell 2, j1.cell 3, j1.cell 4, j1.cell 5, j1.cell 6⟩ : W'.cell? ⟨w.heap.size, 0, none⟩ = some (.bool d) ∧ W'.cell? ⟨w.heap.size, 1, none⟩ = some (.int .i64 a.e) ∧ W'.cell? ⟨w.heap.size, 2, none⟩ = some (.bool a.granted) ∧ W'.cell? ⟨w.heap.size, 3, none⟩ = some (.int .i64 a.left) ∧ W'.cell? ⟨w.heap.size, 4, none⟩ = some (.int .i64 a.wait) ∧ W'.cell? ⟨w.heap.size, 5, none⟩ = some (.int .i64 a.serial) ∧ W'.cell? ⟨w.heap.size, 6, none⟩ = some (.int .i64 a.now))
     exact bodyPost_ret (v := .agg (resA d a)) (by simp [results, Tryz.results43, go_sem, u0, u1, u2, u3, u4, u5, u6]) rfl ⟨.nilFunc, d, a, rfl, j2, j3, j4, hK5, j5⟩
end
section
open Go.RowKit Top
set_option linter.unusedVariables false
set_option maxHeartbeats 1000000 in
theorem count_any (B : Nat) (A : Adr) (m : Mem) (w : World) (hs : St w B A m) (hc : m.word 32 < 9223372036854775808) :
   Calls Tryz.prog 16 #[P A.K] w fun e w' => e = .returned (.int .i64 (m.word 32 : Nat)) ∧ ∃ q, w' = w.drewN q := by
 have c2 := hs.core.c2
 have cl : w.cell? ⟨A.lanes, 0, none⟩ = some (P A.board) := hs.lanes.cell 0
 have hwz : wrap64 ((m.word 32 : Nat) : Int) = (m.word 32 : Nat) := by unfold wrap64; omega
 have Kl := Lib.hid (blook_any B A m 32 w hs (by decide))
 clear hs hc
 go_enter Tryz.func16, Tryz.ntmps16
 go_wp2_with (go_at_call 35; (refine Kl.out.mono ?_); rintro e w1 ⟨a, n, c, rfl, hh, q, rfl⟩; clear hh)
 go_ret
 exact ⟨congrArg (fun z => Ending.returned (Value.int .i64 z)) hwz, q, rfl⟩
set_option maxHeartbeats 1000000 in
theorem steps_any (B : Nat) (A : Adr) (m : Mem) (w : World) (hs : St w B A m) (hc : m.count < 4611686018427387904) :
   Calls Tryz.prog 14 #[P A.K] w fun e w' => e = .returned (.int .i64 (m.count - 1)) ∧ w = w' := by
 have c2 := hs.core.c2
 have cl : w.cell? ⟨A.lanes, 0, none⟩ = some (P A.board) := hs.lanes.cell 0
 have cb : w.cell? ⟨A.board, 0, none⟩ = some (P A.mach) := hs.board.cell 0
 have h0 := hs.count
 have hwz : wrap64 (m.count - 1) = m.count - 1 := by unfold wrap64; omega
 have Kl := Lib.hid (mcount_any B A m w hs)
 clear hs hc h0
 go_enter Tryz.func14, Tryz.ntmps14
 go_wp2_with (go_at_call 31; (refine Kl.out.mono ?_); rintro e w1 ⟨rfl, rfl⟩)
 go_ret
 exact ⟨congrArg (fun z => Ending.returned (Value.int .i64 z)) hwz, rfl⟩
end
section
open Go.RowKit Top
set_option linter.unusedVariables false
def Mem.tick (m : Mem) (n : Int) : Mem := { m with clock := clampI (m.clock + n) }
theorem St.tick {w : World} {B : Nat} {A : Adr} {m : Mem} (h : St w B A m) (n : Int) : Acc w B A (Mem.tick m n) (w.setCell ⟨A.mach, 1, none⟩ (.int .i64 (clampI (m.clock + n)))) := by
 obtain ⟨last, hm, hl⟩ := h.mach
 have hm' := hm
 unfold Bx at hm'
 have hf : Fr B [] w (w.setCell ⟨A.mach, 1, none⟩ (.int .i64 (clampI (m.clock + n)))) := (Fr.refl B [] w).setCell (p := ⟨A.mach, 1, none⟩) hm' h.below.1 rfl (fun ho => by simp [ownT] at ho) _
 obtain ⟨nn, xs, ho, hn, h1⟩ := hl
 obtain ⟨hs, h2, h3, h4⟩ := h.holds
 have hsz : (w.setCell ⟨A.mach, 1, none⟩ (.int .i64 (clampI (m.clock + n)))).heap.size = w.heap.size := by simp [World.setCell]
 refine ⟨⟨h.lanes.keep hf rfl, h.board.keep hf rfl, ⟨last, hm.setCell 1 _, nn, xs, ownsRow_setCell_other ho (own_ne ho hm (by decide)) _, hn, h1⟩, h.words.sne (h.words.ne hm (by decide)), h.nwords, h.wordlt, ⟨hs, h2, h3.sne (h3.ne hm (by decide)), fun i hi => ?_⟩, h.nholds, ⟨h.below.1, h.below.2.1, h.below.2.2.1, by rw [hsz]; exact h.below.2.2.2⟩, clampI_tick _, h.count, h.core.keep hf (by simp)⟩, hf⟩
 obtain ⟨v, h5, h6⟩ := h4 i hi
 exact ⟨v, h5, h6.keep hf⟩
set_option maxHeartbeats 1000000 in
theorem mtick_any (B : Nat) (A : Adr) (m : Mem) (n : Int) (w : World) (hs : St w B A m) (h0 : 0 ≤ n) (h1 : n ≤ 4611686018427387903) :
   Calls Tryz.prog 30 #[P A.mach, .int .i64 n] w fun e w' => e = .returned (.tuple #[.int .i64 (Mem.tick m n).clock, .int .i64 0]) ∧ Acc w B A (Mem.tick m n) w' := by
 obtain ⟨last, hm, hl⟩ := hs.mach
 have c1 : w.cell? ⟨A.mach, 1, none⟩ = some (.int .i64 m.clock) := hm.cell 1
 have f1 : w.frozen? ⟨A.mach, 1, none⟩ = false := hm.free 1
 have hb := tickB_mk h0 h1
 have ha := tickB_mk hs.clock.1 hs.clock.2
 have Kf := Lib.hid (form_any n w)
 rw [hb] at Kf
 have Ka := Lib.hid (add_yes m.clock n w ha hb)
 have H := Lib.hid (hs.tick n)
 obtain ⟨t, ht⟩ : ∃ t, clampI (m.clock + n) = t := ⟨_, rfl⟩
 have e : (Mem.tick m n).clock = t := ht
 rw [e]
 rw [ht] at Ka H
 clear hm hl hb ha hs h0 h1 ht e
 go_enter Tryz.func30, Tryz.ntmps30
 go_wp2_with (first | (go_at_call 55; (with_reducible refine Kf.out.mono ?_); rintro e w1 ⟨rfl, rfl⟩) | (go_at_call 56; (with_reducible refine Ka.out.mono ?_); rintro e w1 ⟨rfl, rfl⟩))
 exact bodyPost_ret (v := .tuple #[.int .i64 t, .int .i64 0]) (by simp [results, Tryz.results30, go_sem]) rfl ⟨rfl, H.out⟩
set_option maxHeartbeats 1000000 in
theorem ctick_any (B : Nat) (A : Adr) (m : Mem) (n : Int) (w : World) (hs : St w B A m) (h0 : 0 ≤ n) (h1 : n ≤ 4611686018427387903) :
   Calls Tryz.prog 13 #[P A.K, .int .i64 n] w fun e w' => e = .returned (.tuple #[.int .i64 (Mem.tick m n).clock, .int .i64 0]) ∧ Acc w B A (Mem.tick m n) w' := by
 have c2 := hs.core.c2
 have cl : w.cell? ⟨A.lanes, 0, none⟩ = some (P A.board) := hs.lanes.cell 0
 have cb : w.cell? ⟨A.board, 0, none⟩ = some (P A.mach) := hs.board.cell 0
 have Kt := Lib.hid (mtick_any B A m n w hs h0 h1)
 obtain ⟨t, ht⟩ : ∃ t, (Mem.tick m n).clock = t := ⟨_, rfl⟩
 rw [ht] at Kt ⊢
 clear hs h0 h1 ht
 go_enter Tryz.func13, Tryz.ntmps13
 go_wp2_with (go_at_call 30; (with_reducible refine Kt.out.mono ?_); rintro e w1 ⟨rfl, ha⟩; have Ha := Lib.hid ha; clear ha)
 exact bodyPost_ret (v := .tuple #[.int .i64 t, .int .i64 0]) (by simp [results, Tryz.results13, go_sem]) rfl ⟨rfl, Ha.out⟩
end
section
open Go.RowKit Top
set_option linter.unusedVariables false
theorem is_any (who : Int) (w : World) (h0 : 0 ≤ who) (h1 : who < 64) :
   Calls Tryz.prog 42 #[.int .i64 who] w fun e w' => e = .returned (.bool true) ∧ w = w' := by
 go_enter Tryz.func42, Tryz.ntmps42
 go_wp2
 go_ret
 exact ⟨rfl, rfl⟩
theorem neq_func (f : Fn) (a ps : Array Value) (w : World) : (binOp BinOp.neq 83 (.func f a ps) .nilFunc).run Tryz.prog w = .ok (.bool true) w := by
 simp only [binOp, Op.equal]
 rw [show Op.maxDepth = 9999 + 1 from rfl, Op.equalIn]
 simp [go_sem]
theorem neq_nil (w : World) : (binOp BinOp.neq 83 .nilFunc .nilFunc).run Tryz.prog w = .ok (.bool false) w := by
 simp only [binOp, Op.equal]
 rw [show Op.maxDepth = 9999 + 1 from rfl, Op.equalIn]
 simp [go_sem]
def isOn : Value → Bool
 | .nilFunc => false
 | _ => true
set_option maxHeartbeats 1000000 in
set_option maxRecDepth 100000 in
theorem pending_any (K : Nat) (who : Nat) (fv : Value) (w : World) (h1 : who < 64) (hc : w.cell? ⟨K, 3 + who, none⟩ = some fv) (hf : fv = .nilFunc ∨ Func1 fv) :
   Calls Tryz.prog 34 #[P K, .int .i64 who] w fun e w' => e = .returned (.bool (isOn fv)) ∧ w = w' := by
 have Ki := Lib.hid (is_any who w (by omega) (by omega))
 have hw : (who : Int) < 64 := by omega
 have e1 := neq_func
 have e2 := neq_nil
 clear h1
 rcases hf with rfl | ⟨f, ps, rfl⟩
 all_goals
   go_enter Tryz.func34, Tryz.ntmps34
   go_wp2_with (go_at_call 42; (with_reducible refine Ki.out.mono ?_); rintro e w1 ⟨rfl, rfl⟩)
   go_ret
   exact ⟨rfl, rfl⟩
end
section
open Go.RowKit Top
set_option linter.unusedVariables false
def IntsAt (w : World) (v : Value) (L : List Int) : Prop :=
 ∃ a c, v = .slice a L.length c ∧ L.length ≤ c ∧ c ≤ maxLen ∧
   (0 < L.length → ∃ b off, a = some ⟨b, off, none⟩ ∧ ∀ j, j < L.length → w.cell? ⟨b, off + j, none⟩ = some (.int .i64 (L.getD j 0)))
theorem HeldAt.ints {w : World} {v : Value} {L : List Int} (h : HeldAt w v L) : IntsAt w v L := by
 obtain ⟨a, c, rfl⟩ : ∃ a c, v = .slice a L.length c := by obtain ⟨_, a, c, e, _⟩ := h; exact ⟨a, c, e⟩
 obtain ⟨_, h1, h2, h3⟩ := Row.cells h
 refine ⟨a, c, rfl, h1, h2, fun hn => ?_⟩
 obtain ⟨b, off, e, h4⟩ := h3 hn
 refine ⟨b, off, e, fun j hj => h4 j _ ?_⟩
 rw [List.getElem?_map, List.getD_eq_getElem?_getD, List.getElem?_eq_getElem hj]
 rfl
set_option maxHeartbeats 1000000 in
theorem samebytes_any (va vb : Value) (a b : List Nat) (w : World) (ha : ByAt w va a) (hb : ByAt w vb b) :
   Calls Tryz.prog 28 #[va, vb] w fun e w' => e = .returned (.bool (decide (a = b))) ∧ Below w.heap.size w w' := by
 obtain ⟨a0, aa, ac, rfl, a1, a2, a3⟩ := ha
 obtain ⟨b0, ba, bc, rfl, b1, b2, b3⟩ := hb
 unfold maxLen at a2 b2
 generalize hR : decide (a = b) = R
 have HR := Lib.hid hR
 clear hR
 by_cases hn : a.length = b.length
 · have HA := Lib.hid a3; have HB := Lib.hid b3; have HL := Lib.hid hn
   rw [hn] at a1
   rw [hn]
   generalize hbl : b.length = ln at *
   have HLb := Lib.hid hbl
   clear a3 b3 hbl hn
   go_enter Tryz.func28, Tryz.ntmps28
   go_wp2
   go_loopw [13] (fun i wr => ∃ (k : Nat), i = .int .i64 k ∧ k ≤ ln ∧ Below w.heap.size w wr ∧ ∀ j, j < k → a.getD j 0 = b.getD j 0) (fun i _ => ln - (intOf i).toNat)
   case atStart => exact ⟨0, rfl, Nat.zero_le _, Below.refl _ _, fun j h => by omega⟩
   case round =>
     obtain ⟨k, rfl, hk, hbel, heq⟩ := hrel
     have Hbel := Lib.hid hbel; have Heq := Lib.hid heq
     clear hbel heq
     by_cases hA : k < ln
     · obtain ⟨p, po, rfl, pc⟩ := HA.out (by have := HL.out; omega)
       obtain ⟨q, qo, rfl, qc⟩ := HB.out (by have := HLb.out; omega)
       have x0 := cell_later Hbel.out (pc k (by have := HL.out; omega))
       have y0 := cell_later Hbel.out (qc k (by have := HLb.out; omega))
       clear pc qc
       by_cases hx : a.getD k 0 = b.getD k 0
       · have Hx : Hid (∀ j, j = k → a.getD j 0 = b.getD j 0) := fun j e => by subst e; exact hx
         rw [← hx] at y0
         clear hx
         generalize a.getD k 0 = u at *
         go_wp2
         go_region
         go_wp2
         go_roundw
         case rel => exact ⟨k + 1, by go_num, by omega, below_drewN Hbel.out _, fun j hj => by
           by_cases e : j = k
           · exact Hx.out j e
           · exact Heq.out j (by omega)⟩
         case measure => simp [intOf]; omega
       · have hres : R = false := by
           rw [← HR.out]
           exact decide_eq_false fun e => hx (by rw [e])
         have hne : ¬ (a.getD k 0 : Int) = (b.getD k 0 : Int) := by omega
         subst hres
         clear hx
         generalize a.getD k 0 = u at *
         generalize b.getD k 0 = v at *
         go_wp2
         go_region
         go_wp2
         go_ret
         exact ⟨rfl, below_drewN Hbel.out _⟩
     · obtain rfl : k = ln := by omega
       have hres : R = true := by
         rw [← HR.out]
         refine decide_eq_true (List.ext_getElem (by have := HL.out; have := HLb.out; omega) fun j h1 h2 => ?_)
         have := Heq.out j (by have := HL.out; omega)
         rwa [List.getD_eq_getElem?_getD, List.getD_eq_getElem?_getD, List.getElem?_eq_getElem h1, List.getElem?_eq_getElem h2] at this
       subst hres
       go_wp2
       go_ret
       exact ⟨rfl, Hbel.out⟩
 · have hne : ¬ (a.length : Int) = b.length := by omega
   have hres : R = false := by rw [← HR.out]; exact decide_eq_false fun e => hn (by rw [e])
   subst hres
   clear a3 b3 HR
   generalize a.length = la at *
   generalize b.length = lb at *
   clear hn
   go_enter Tryz.func28, Tryz.ntmps28
   go_wp2
   go_ret
   exact ⟨rfl, Below.refl _ _⟩
set_option maxHeartbeats 1000000 in
theorem sameints_any (va vb : Value) (a b : List Int) (w : World) (ha : IntsAt w va a) (hb : IntsAt w vb b) :
   Calls Tryz.prog 29 #[va, vb] w fun e w' => e = .returned (.bool (decide (a = b))) ∧ Below w.heap.size w w' := by
 obtain ⟨aa, ac, rfl, a1, a2, a3⟩ := ha
 obtain ⟨ba, bc, rfl, b1, b2, b3⟩ := hb
 unfold maxLen at a2 b2
 generalize hR : decide (a = b) = R
 have HR := Lib.hid hR
 clear hR
 by_cases hn : a.length = b.length
 · have HA := Lib.hid a3; have HB := Lib.hid b3; have HL := Lib.hid hn
   rw [hn] at a1
   rw [hn]
   generalize hbl : b.length = ln at *
   have HLb := Lib.hid hbl
   clear a3 b3 hbl hn
   go_enter Tryz.func29, Tryz.ntmps29
   go_wp2
   go_loopw [13] (fun i wr => ∃ (k : Nat), i = .int .i64 k ∧ k ≤ ln ∧ Below w.heap.size w wr ∧ ∀ j, j < k → a.getD j 0 = b.getD j 0) (fun i _ => ln - (intOf i).toNat)
   case atStart => exact ⟨0, rfl, Nat.zero_le _, Below.refl _ _, fun j h => by omega⟩
   case round =>
     obtain ⟨k, rfl, hk, hbel, heq⟩ := hrel
     have Hbel := Lib.hid hbel; have Heq := Lib.hid heq
     clear hbel heq
     by_cases hA : k < ln
     · obtain ⟨p, po, rfl, pc⟩ := HA.out (by have := HL.out; omega)
       obtain ⟨q, qo, rfl, qc⟩ := HB.out (by have := HLb.out; omega)
       have x0 := cell_later Hbel.out (pc k (by have := HL.out; omega))
       have y0 := cell_later Hbel.out (qc k (by have := HLb.out; omega))
       clear pc qc
       by_cases hx : a.getD k 0 = b.getD k 0
       · have Hx : Hid (∀ j, j = k → a.getD j 0 = b.getD j 0) := fun j e => by subst e; exact hx
         rw [← hx] at y0
         clear hx
         generalize a.getD k 0 = u at *
         go_wp2
         go_region
         go_wp2
         go_roundw
         case rel => exact ⟨k + 1, by go_num, by omega, below_drewN Hbel.out _, fun j hj => by
           by_cases e : j = k
           · exact Hx.out j e
           · exact Heq.out j (by omega)⟩
         case measure => simp [intOf]; omega
       · have hres : R = false := by
           rw [← HR.out]
           exact decide_eq_false fun e => hx (by rw [e])
         have hne : ¬ (a.getD k 0 : Int) = (b.getD k 0 : Int) := by omega
         subst hres
         clear hx
         generalize a.getD k 0 = u at *
         generalize b.getD k 0 = v at *
         go_wp2
         go_region
         go_wp2
         go_ret
         exact ⟨rfl, below_drewN Hbel.out _⟩
     · obtain rfl : k = ln := by omega
       have hres : R = true := by
         rw [← HR.out]
         refine decide_eq_true (List.ext_getElem (by have := HL.out; have := HLb.out; omega) fun j h1 h2 => ?_)
         have := Heq.out j (by have := HL.out; omega)
         rwa [List.getD_eq_getElem?_getD, List.getD_eq_getElem?_getD, List.getElem?_eq_getElem h1, List.getElem?_eq_getElem h2] at this
       subst hres
       go_wp2
       go_ret
       exact ⟨rfl, Hbel.out⟩
 · have hne : ¬ (a.length : Int) = b.length := by omega
   have hres : R = false := by rw [← HR.out]; exact decide_eq_false fun e => hn (by rw [e])
   subst hres
   clear a3 b3 HR
   generalize a.length = la at *
   generalize b.length = lb at *
   clear hn
   go_enter Tryz.func29, Tryz.ntmps29
   go_wp2
   go_ret
   exact ⟨rfl, Below.refl _ _⟩
end
end Go.Proofs.YtemnhpdjoimjbaaGreat
