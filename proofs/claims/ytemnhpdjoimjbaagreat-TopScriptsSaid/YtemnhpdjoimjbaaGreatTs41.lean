import Derived.Test.YtemnhpdjoimjbaaGreatTs40
import Derived.Test.YtemnhpdjoimjbaaGreatTs39
namespace Go.Proofs.YtemnhpdjoimjbaaGreat
section
open Go.RowKit Top
set_option linter.unusedVariables false
def Fz (B : Nat) (w w' : World) : Prop := ∃ X, Fr B X w w'
theorem Fz.refl (B : Nat) (w : World) : Fz B w w := ⟨[], Fr.refl _ _ _⟩
theorem Fz.trans {B : Nat} {a b c : World} (h : Fz B a b) (k : Fz B b c) : Fz B a c := by
 obtain ⟨X, h⟩ := h
 obtain ⟨Y, k⟩ := k
 exact ⟨X ++ Y, (h.mono (Nat.le_refl _) (fun x hx => List.mem_append_left _ hx)).trans (k.mono (Nat.le_refl _) (fun x hx => List.mem_append_right _ hx))⟩
theorem Fz.of_below {B : Nat} {w w' : World} (hB : B ≤ w.heap.size) (k : Below w.heap.size w w') : Fz B w w' := ⟨[], Fr.of_below hB k⟩
theorem Fz.below {B : Nat} {a w w' : World} (h : Fz B a w) (hB : B ≤ w.heap.size) (k : Below w.heap.size w w') : Fz B a w' := h.trans (Fz.of_below hB k)
theorem Fz.bel {B : Nat} {w w' : World} (h : Fz B w w') : Below B w w' := by
 obtain ⟨X, h⟩ := h
 exact ⟨h.os, h.tape, h.output, h.size, h.block⟩
theorem Bx.kz {B : Nat} {w w' : World} (h : Fz B w w') {b : Nat} {t : TypeId} {a : Array Value} (hb : Bx w b t a) (ht : okT t a.size = true) : Bx w' b t a := by
 obtain ⟨X, h⟩ := h
 exact hb.keep h ht
theorem bx_inj {w : World} {b : Nat} {t : TypeId} {a a' : Array Value} (h : Bx w b t a) (h' : Bx w b t a') : a = a' := by
 unfold Bx at h h'
 rw [h] at h'
 injection h' with h'
 injection h'
theorem pend_none {w : World} {B : Nat} {A : Adr} {who : Nat} {v : Value} (h : PendAt w B A who v none) : v = .nilFunc := h
theorem none_pend {w : World} {B : Nat} {A : Adr} {who : Nat} {v : Value} (h : v = .nilFunc) : PendAt w B A who v none := h
theorem PendAt.trans' {w : World} {B : Nat} {A : Adr} {who : Nat} {v : Value} {o o' : Option (Live × Kont)} (h : PendAt w B A who v o) (e : o = o') : PendAt w B A who v o' := e ▸ h
structure StepRes (w : World) (B : Nat) (A : Adr) (s : Top.Sys) (who : Nat) (r : Top.Sys × (Bool × Reply)) (w' : World) : Prop where
 st : St w' B A r.1.m
 core : ∃ arr v, Bx w A.K 87 arr ∧ Bx w' A.K 87 (arr.setIfInBounds (3 + who) v) ∧ PendAt w' B A who v (r.1.pd who)
 oth : ∀ j, j ≠ who → r.1.pd j = s.pd j
 fr : ∃ X, Fr B X w w' ∧ ∀ (j : Nat) (x : Live) (k : Kont) (xb : Nat) (pol : Pol), j ≠ who → s.pd j = some (x, k) → CallAt w ⟨A, (j : Int), xb, pol⟩ x → xb ∉ X
 res : (r.2.1 = false ∧ r.2.2 = err 0) ∨ (r.2.1 = true ∧ r.1.pd who = none)
theorem StepRes.fz {w : World} {B : Nat} {A : Adr} {s : Top.Sys} {who : Nat} {r : Top.Sys × (Bool × Reply)} {w' : World} (h : StepRes w B A s who r w') : Fz B w w' := by
 obtain ⟨X, h1, _⟩ := h.fr
 exact ⟨X, h1⟩
theorem StepRes.sys {w : World} {B : Nat} {A : Adr} {s : Top.Sys} {who : Nat} {r : Top.Sys × (Bool × Reply)} {w' : World} (h : StepRes w B A s who r w') (hs : SysAt w B A s.m s.pd) (hw : who < 64) : SysAt w' B A r.1.m r.1.pd := by
 obtain ⟨arr, v, k1, k2, k3⟩ := h.core
 obtain ⟨arr0, l1, l2, l3⟩ := hs.pend
 have ea : arr0 = arr := by
   exact bx_inj l1 k1
 subst ea
 obtain ⟨X, h1, h2⟩ := h.fr
 refine ⟨h.st, ⟨_, k2, by simpa using l2, fun j hj => ?_⟩, hs.kb⟩
 by_cases e : j = who
 · subst e
   exact ⟨v, Array.getElem?_setIfInBounds_self_of_lt (by omega), k3⟩
 · obtain ⟨u, h3, h4⟩ := l3 j hj
   refine ⟨u, by rw [Array.getElem?_setIfInBounds_ne (by omega)]; exact h3, ?_⟩
   rw [h.oth j e]
   exact h4.keep h1 fun x k xb pol ep hc => h2 j x k xb pol e ep hc
theorem StepRes.pre {w w1 w2 : World} {B : Nat} {A : Adr} {s : Top.Sys} {who : Nat} {r : Top.Sys × (Bool × Reply)} (hb : Below w.heap.size w w1) (hs : SysAt w B A s.m s.pd) (h : StepRes w1 B A s who r w2) : StepRes w B A s who r w2 := by
 obtain ⟨X, h1, h2⟩ := h.fr
 obtain ⟨arr, v, k1, k2, k3⟩ := h.core
 obtain ⟨arr0, l1, _⟩ := hs.pend
 have e := (l1.below hb l1.lt)
 have ea : arr0 = arr := by
   exact bx_inj e k1
 subst ea
 exact ⟨h.st, ⟨_, v, l1, k2, k3⟩, h.oth, ⟨X, (Fr.of_below hs.st.below.2.2.2 hb).trans h1, fun j x k xb pol h3 h4 h5 => h2 j x k xb pol h3 h4 (h5.keep (fr0 hb) (by simp))⟩, h.res⟩
theorem pendSet {w w2 : World} {r0 : Nat} (d : Bool) (a : Reply) (hr : Bx w2 r0 37 res0) : Bx (((((((w2.setCell ⟨r0, 0, none⟩ (.bool d)).setCell ⟨r0, 1, none⟩ (.int .i64 a.e)).setCell ⟨r0, 2, none⟩ (.bool a.granted)).setCell ⟨r0, 3, none⟩ (.int .i64 a.left)).setCell ⟨r0, 4, none⟩ (.int .i64 a.wait)).setCell ⟨r0, 5, none⟩ (.int .i64 a.serial)).setCell ⟨r0, 6, none⟩ (.int .i64 a.now)) r0 37 (resA d a) :=
 ((((((hr.setCell 0 _).setCell 1 _).setCell 2 _).setCell 3 _).setCell 4 _).setCell 5 _).setCell 6 _
def storeR (w : World) (r0 : Nat) (d : Bool) (a : Reply) : World := (((((((w.setCell ⟨r0, 0, none⟩ (.bool d)).setCell ⟨r0, 1, none⟩ (.int .i64 a.e)).setCell ⟨r0, 2, none⟩ (.bool a.granted)).setCell ⟨r0, 3, none⟩ (.int .i64 a.left)).setCell ⟨r0, 4, none⟩ (.int .i64 a.wait)).setCell ⟨r0, 5, none⟩ (.int .i64 a.serial)).setCell ⟨r0, 6, none⟩ (.int .i64 a.now))
theorem storeR_bx {w : World} {r0 : Nat} {d : Bool} {a : Reply} (hr : Bx w r0 37 res0) : Bx (storeR w r0 d a) r0 37 (resA d a) := pendSet (w := w) d a hr
theorem storeR_ne {w : World} {r0 : Nat} {d : Bool} {a : Reply} {b : Nat} {t : TypeId} {c : Array Value} (hn : b ≠ r0) (hb : Bx w b t c) : Bx (storeR w r0 d a) b t c := by
 unfold storeR
 exact ((((((hb.sne hn).sne hn).sne hn).sne hn).sne hn).sne hn).sne hn
theorem storeR_st {w : World} {r0 : Nat} {d : Bool} {a : Reply} {B : Nat} {A : Adr} {m : Mem} (hr : Bx w r0 37 res0) (hs : St w B A m) : St (storeR w r0 d a) B A m := by
 have b0 := hr.setCell 0 (.bool d)
 have b1 := b0.setCell 1 (.int .i64 a.e)
 have b2 := b1.setCell 2 (.bool a.granted)
 have b3 := b2.setCell 3 (.int .i64 a.left)
 have b4 := b3.setCell 4 (.int .i64 a.wait)
 have b5 := b4.setCell 5 (.int .i64 a.serial)
 unfold storeR
 exact ((((((hs.setRes hr _).setRes b0 _).setRes b1 _).setRes b2 _).setRes b3 _).setRes b4 _).setRes b5 _
theorem storeR_fr {w0 w : World} {r0 : Nat} {d : Bool} {a : Reply} {B : Nat} {X : List Nat} (hb : B ≤ r0) (hnew : w0.heap.size ≤ r0) (h : Fr B X w0 w) : Fr B X w0 (storeR w r0 d a) := by
 unfold storeR
 exact ((((((h.setNew (p := ⟨r0, 0, none⟩) hb hnew _).setNew (p := ⟨r0, 1, none⟩) hb hnew _).setNew (p := ⟨r0, 2, none⟩) hb hnew _).setNew (p := ⟨r0, 3, none⟩) hb hnew _).setNew (p := ⟨r0, 4, none⟩) hb hnew _).setNew (p := ⟨r0, 5, none⟩) hb hnew _).setNew (p := ⟨r0, 6, none⟩) hb hnew _
theorem storeR_zero {w : World} {r0 : Nat} (hr : Bx w r0 37 res0) : storeR w r0 false (err 0) = w := set7_same hr
theorem StepRes.store {w w2 : World} {B : Nat} {A : Adr} {s : Top.Sys} {who : Nat} {r : Top.Sys × (Bool × Reply)} {r0 : Nat} (hs : SysAt w B A s.m s.pd) (h : StepRes w B A s who r w2) (hr : Bx w2 r0 37 res0) (hnew : w.heap.size ≤ r0) :
   StepRes w B A s who r (storeR w2 r0 r.2.1 r.2.2) := by
 obtain ⟨s1, d, a⟩ := r
 have hb : B ≤ r0 := Nat.le_trans hs.st.below.2.2.2 hnew
 obtain ⟨X, h1, h2⟩ := h.fr
 obtain ⟨arr, v, k1, k2, k3⟩ := h.core
 have hne : A.K ≠ r0 := k2.ne hr (by decide)
 rcases h.res with ⟨hd, ha⟩ | ⟨hd, hpd⟩
 · have hd : d = false := hd
   have ha : a = err 0 := ha
   have e : storeR w2 r0 d a = w2 := by rw [hd, ha]; exact storeR_zero hr
   exact Eq.mpr (congrArg (fun W => StepRes w B A s who (s1, d, a) W) e) h
 · have hv : v = .nilFunc := pend_none (k3.trans' hpd)
   refine ⟨storeR_st hr h.st, ⟨arr, v, k1, storeR_ne hne k2, ?_⟩, h.oth, ⟨X, storeR_fr hb hnew h1, h2⟩, h.res⟩
   exact (none_pend hv).trans' hpd.symm
theorem calls_step_sys (B : Nat) (A : Adr) (s : Top.Sys) (n who : Nat) (x : Live) (k : Kont) (w : World) (hs : SysAt w B A s.m s.pd) (T : TabOk A.list A.room) (hok : SysOk A.list A.room s n) (hn : n < 4611686018427387900) (hw : who < 64) (hp : s.pd who = some (x, k)) :
   Calls Tryz.prog 43 #[.pointer (some ⟨A.K, 3, none⟩), .int .i64 who] w fun e w' => e = .returned (.agg (resA (stepS A.list A.room BlV s who).2.1 (stepS A.list A.room BlV s who).2.2)) ∧ StepRes w B A s who (stepS A.list A.room BlV s who) w' := by
 obtain ⟨arr, hK, hsz, hpd⟩ := hs.pend
 obtain ⟨v, hv, hpv⟩ := hpd who hw
 rw [hp] at hpv
 obtain ⟨xb, pol, p1, p2, p3, p4⟩ := hpv
 have hi := hok.inv
 rw [tot_rest s.pd hw, hp] at hi
 have hl := hok.live who x k hw hp
 have hf := hok.few
 have ho := hok.out sound_V T hw hp hn
 have es : stepS A.list A.room BlV s who = stepO who s (stepF BlV A.list A.room k x s.m) := by unfold stepS; rw [hp]
 rw [es]
 refine (calls_step B ⟨A, who, xb, pol⟩ who x s.m k _ v arr w rfl hw T hi hl.1 hl.2 p3 (by omega) p4 p1 hs.st p2 hK hs.kb hv).mono ?_
 rintro e w' ⟨v', d, a, rfl, q1, q2, q3, q4, q5⟩
 have hcall := ho.call
 generalize stepF BlV A.list A.room k x s.m = o at *
 obtain ⟨o1, x1, m1⟩ := o
 have hfr : ∃ X, Fr B X w w' ∧ ∀ (j : Nat) (x : Live) (k : Kont) (xb : Nat) (pol : Pol), j ≠ who → s.pd j = some (x, k) → CallAt w ⟨A, (j : Int), xb, pol⟩ x → xb ∉ X := by
   refine ⟨_, q5, fun j x' k' xb' pol' hne e hc => ?_⟩
   have h4 := call_ne hc p2 (by omega)
   obtain ⟨_, hx, _⟩ := hc
   have h5 := hx.ne hK (by decide)
   simp only [List.mem_cons, List.not_mem_nil, or_false, not_or]
   exact ⟨h4, h5⟩
 cases o1 with
 | inl k1 =>
   obtain ⟨r1, rfl, rfl⟩ := q1
   refine ⟨rfl, ⟨q3, ⟨arr, v', hK, q4, ?_⟩, fun j hj => setP_ne _ _ hj, hfr, .inl ⟨rfl, rfl⟩⟩⟩
   show PendAt w' B A who v' (setP s.pd who (some (x1, k1)) who)
   rw [setP_self]
   exact ⟨xb, pol, r1, q2, ⟨p3.who0, p3.who1, by intro h; have := p3.pol; dsimp only at hcall; rw [hcall] at h ⊢; exact this h⟩, p4⟩
 | inr r =>
   obtain ⟨rfl, rfl, rfl⟩ := q1
   refine ⟨rfl, ⟨q3, ⟨arr, _, hK, q4, ?_⟩, fun j hj => setP_ne _ _ hj, hfr, .inr ⟨rfl, setP_self _ _ _⟩⟩⟩
   show PendAt w' B A who _ (setP s.pd who none who)
   rw [setP_self]
   rfl
theorem pend_val {w : World} {B : Nat} {A : Adr} {who : Nat} {v : Value} {o : Option (Live × Kont)} (h : PendAt w B A who v o) : (v = .nilFunc ∨ Func1 v) ∧ isOn v = o.isSome := by
 cases o with
 | none =>
   have h : v = .nilFunc := h
   subst h
   exact ⟨.inl rfl, rfl⟩
 | some q =>
   obtain ⟨x, k⟩ := q
   obtain ⟨xb, pol, h1, _⟩ := h
   obtain ⟨f, ps, rfl⟩ := kont_fn h1
   exact ⟨.inr ⟨_, ps, rfl⟩, rfl⟩
theorem pending_sys (B : Nat) (A : Adr) (m : Mem) (pd : Nat → Option (Live × Kont)) (who : Nat) (w : World) (hs : SysAt w B A m pd) (hw : who < 64) :
   Calls Tryz.prog 34 #[P A.K, .int .i64 who] w fun e w' => e = .returned (.bool (pd who).isSome) ∧ w = w' := by
 obtain ⟨arr, hK, hsz, hpd⟩ := hs.pend
 obtain ⟨v, hv, hpv⟩ := hpd who hw
 have h := pend_val hpv
 rw [← h.2]
 exact pending_any A.K who v w hw (by rw [hK.cell]; exact hv) h.1
set_option maxHeartbeats 2000000 in
set_option maxRecDepth 100000 in
theorem core_step (B : Nat) (A : Adr) (s : Top.Sys) (n who : Nat) (x : Live) (k : Kont) (w : World) (hs : SysAt w B A s.m s.pd) (T : TabOk A.list A.room) (hok : SysOk A.list A.room s n) (hn : n < 4611686018427387900) (hw : who < 64) (hp : s.pd who = some (x, k)) :
   Calls Tryz.prog 21 #[P A.K, .int .i64 who] w fun e w' => e = .returned (.tuple #[.agg (resA (stepS A.list A.room BlV s who).2.1 (stepS A.list A.room BlV s who).2.2), .int .i64 0]) ∧ StepRes w B A s who (stepS A.list A.room BlV s who) w' := by
 have Kc : Hid (∀ W, Below w.heap.size w W → Calls Tryz.prog 43 #[.pointer (some ⟨A.K, 3, none⟩), .int .i64 who] W fun e w' => e = .returned (.agg (resA (stepS A.list A.room BlV s who).2.1 (stepS A.list A.room BlV s who).2.2)) ∧ StepRes W B A s who (stepS A.list A.room BlV s who) w') := fun W hb => calls_step_sys B A s n who x k W (hs.keep hb) T hok hn hw hp
 have Kp : Hid (∀ W, Below w.heap.size w W → Calls Tryz.prog 34 #[P A.K, .int .i64 who] W fun e w' => e = .returned (.bool true) ∧ W = w') := fun W hb => by
   have := pending_sys B A s.m s.pd who W (hs.keep hb) hw
   rwa [hp] at this
 have HS := Lib.hid hs
 have lK : A.K < w.heap.size := by obtain ⟨arr, hK, _⟩ := hs.pend; exact hK.lt
 clear hs hok T hp hn
 generalize stepS A.list A.room BlV s who = r at *
 obtain ⟨s1, d, a⟩ := r
 go_enter Tryz.func21, Tryz.ntmps21
 go_upto_region 1 with (fail)
 refine wp_name (fun u => Below w.heap.size w u ∧ Bx u w.heap.size 37 res0) ⟨below_allocs [_] w, bx_allocs w [_] 0 rfl⟩ ?_
 rintro u ⟨hb, hx⟩
 have Hb := Lib.hid hb; have Hx := Lib.hid hx
 clear hb hx
 go_wp2_with (first
   | (go_at_call 42; (with_reducible refine (is_any who u (by omega) (by omega)).mono ?_); rintro e w1 ⟨rfl, rfl⟩)
   | (go_at_call 34; (with_reducible refine (Kp.out _ Hb.out).mono ?_); rintro e w1 ⟨rfl, rfl⟩)
   | (go_at_call 43; (with_reducible refine (Kc.out _ Hb.out).mono ?_); rintro e w2 ⟨rfl, hr⟩; obtain ⟨X, hX, _⟩ := hr.fr; have hr0 := Hx.out.keep hX rfl; obtain ⟨r0, r1, r2, r3, r4, r5, r6⟩ := res_cells hr0; obtain ⟨f0, f1, f2, f3, f4, f5, f6⟩ := res_free hr0; have Hr := Lib.hid hr; have Hr0 := Lib.hid hr0; clear hr hX hr0))
 have hbx := storeR_bx (d := d) (a := a) Hr0.out
 obtain ⟨u0, u1, u2, u3, u4, u5, u6⟩ := (⟨hbx.cell 0, hbx.cell 1, hbx.cell 2, hbx.cell 3, hbx.cell 4, hbx.cell 5, hbx.cell 6⟩ : (storeR w2 w.heap.size d a).cell? ⟨w.heap.size, 0, none⟩ = some (.bool d) ∧ (storeR w2 w.heap.size d a).cell? ⟨w.heap.size, 1, none⟩ = some (.int .i64 a.e) ∧ (storeR w2 w.heap.size d a).cell? ⟨w.heap.size, 2, none⟩ = some (.bool a.granted) ∧ (storeR w2 w.heap.size d a).cell? ⟨w.heap.size, 3, none⟩ = some (.int .i64 a.left) ∧ (storeR w2 w.heap.size d a).cell? ⟨w.heap.size, 4, none⟩ = some (.int .i64 a.wait) ∧ (storeR w2 w.heap.size d a).cell? ⟨w.heap.size, 5, none⟩ = some (.int .i64 a.serial) ∧ (storeR w2 w.heap.size d a).cell? ⟨w.heap.size, 6, none⟩ = some (.int .i64 a.now))
 show bodyPost _ _ _ _ _ (storeR w2 w.heap.size d a)
 exact bodyPost_ret (v := .tuple #[.agg (resA d a), .int .i64 0]) (by simp [results, Tryz.results21, go_sem, u0, u1, u2, u3, u4, u5, u6]) rfl ⟨rfl, StepRes.store HS.out (StepRes.pre Hb.out HS.out Hr.out) Hr0.out (Nat.le_refl _)⟩
end
section
open Go.RowKit Top
set_option linter.unusedVariables false
theorem SysAt.acc {w w' : World} {B : Nat} {A : Adr} {m m' : Mem} {pd : Nat → Option (Live × Kont)} (h : SysAt w B A m pd) (k : Acc w B A m' w') : SysAt w' B A m' pd := by
 obtain ⟨arr, h1, h2, h3⟩ := h.pend
 refine ⟨k.1, ⟨arr, k.2.quiet _ _ _ _ h1 (.inr ⟨rfl, by simp⟩), h2, fun who hw => ?_⟩, h.kb⟩
 obtain ⟨v, h4, h5⟩ := h3 who hw
 exact ⟨v, h4, h5.keep k.2 (fun _ _ _ _ _ _ => by simp)⟩
def tickS (s : Top.Sys) (n : Int) : Top.Sys := ⟨s.m.at_ (clampI (s.m.clock + n)), s.pd⟩
theorem tick_sys (B : Nat) (A : Adr) (s : Top.Sys) (n : Int) (w : World) (hs : SysAt w B A s.m s.pd) (h0 : 0 ≤ n) (h1 : n ≤ 4611686018427387903) :
   Calls Tryz.prog 13 #[P A.K, .int .i64 n] w fun e w' => e = .returned (.tuple #[.int .i64 (tickS s n).m.clock, .int .i64 0]) ∧ SysAt w' B A (tickS s n).m (tickS s n).pd ∧ Fz B w w' := by
 refine (ctick_any B A s.m n w hs.st h0 h1).mono ?_
 rintro e w' ⟨rfl, ha⟩
 exact ⟨rfl, hs.acc ha, [], ha.2⟩
end
end Go.Proofs.YtemnhpdjoimjbaaGreat
