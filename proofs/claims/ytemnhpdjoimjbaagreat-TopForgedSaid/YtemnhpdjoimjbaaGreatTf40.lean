import Derived.Test.YtemnhpdjoimjbaaGreatTf39
section
namespace Go.Proofs.YtemnhpdjoimjbaaGreat
open Go.RowKit Top
set_option linter.unusedVariables false
theorem pol_at4 {w : World} {a : Option Addr} {n c : Nat} {L : List Pol} (h : PolsAt w (.slice a n c) L) (k : Nat) (hk : k < L.length) : ∃ b off, a = some ⟨b, off, none⟩ ∧ w.cell? ⟨b, off + k * 4, none⟩ = some (.int .u8 (L[k].kind : Nat)) ∧ w.cell? ⟨b, off + k * 4 + 1, none⟩ = some (.int .i64 L[k].T) ∧ w.cell? ⟨b, off + k * 4 + 2, none⟩ = some (.int .i64 L[k].tau) ∧ w.cell? ⟨b, off + k * 4 + 3, none⟩ = some (.int .i64 L[k].permits) := by
  obtain ⟨h1, h2, h3, h4⟩ := Row.cells h
  obtain ⟨b, off, h5, h6⟩ := h4 (by omega)
  refine ⟨b, off, h5, ?_, ?_, ?_, ?_⟩
  · have := h6 (4 * k + 0) _ (pol_get L k 0 hk (by decide)); rwa [show off + (4 * k + 0) = off + k * 4 by omega] at this
  · have := h6 (4 * k + 1) _ (pol_get L k 1 hk (by decide)); rwa [show off + (4 * k + 1) = off + k * 4 + 1 by omega] at this
  · have := h6 (4 * k + 2) _ (pol_get L k 2 hk (by decide)); rwa [show off + (4 * k + 2) = off + k * 4 + 2 by omega] at this
  · have := h6 (4 * k + 3) _ (pol_get L k 3 hk (by decide)); rwa [show off + (4 * k + 3) = off + k * 4 + 3 by omega] at this
set_option maxHeartbeats 1000000 in
/-- A policy in form. -/
theorem form_pol (kd : Nat) (T tau perm : Int) (w : World) (hp : PolGood ⟨kd, T, tau, perm⟩) :
    Calls Tryz.prog 59 #[.agg #[.int .u8 (kd : Nat), .int .i64 T, .int .i64 tau, .int .i64 perm]] w fun e w' => e = .returned (.bool true) ∧ Below w.heap.size w w' := by
  rcases hp with ⟨h1, h2, h3, h4, h5⟩ | ⟨h1, h2, h3⟩
  · dsimp only at h1 h2 h3 h4 h5
    subst h1
    have Kc := Lib.hid (fun W => rcheck_yes T tau W (by simp [limB, tickB]; omega))
    clear h2 h3 h4 h5
    unfold limV at Kc
    go_enter Tryz.func59, Tryz.ntmps59
    go_wp2_with (go_at_call 88; (with_reducible refine (Kc.out _).mono ?_); rintro e w2 ⟨rfl, hb⟩)
    exact bodyPost_ret (v := .bool true) (by simp [results, Tryz.results59, go_sem]) rfl ⟨rfl, (below_allocs [_] w).trans (hb.mono (by simp))⟩
  · dsimp only at h1 h2 h3
    subst h1
    go_enter Tryz.func59, Tryz.ntmps59
    go_wp2_with fail
    exact bodyPost_ret (v := .bool true) (by simp [results, Tryz.results59, go_sem]) rfl ⟨rfl, below_allocs [_] w⟩
set_option maxHeartbeats 1000000 in
/-- A table in form. -/
theorem policies_good (L : List Pol) (lv : Value) (w : World) (hl : PolsAt w lv L) (hn : L.length ≤ 32) (hg : ∀ p ∈ L, PolGood p) :
    Calls Tryz.prog 36 #[lv] w fun e w' => e = .returned (.int .i64 0) ∧ Below w.heap.size w w' := by
  obtain ⟨la, lc, rfl⟩ : ∃ a c', lv = .slice a L.length c' := by obtain ⟨_, a, c', e, _⟩ := hl; exact ⟨a, c', e⟩
  have Hl := Lib.hid (fun k hk => pol_at4 hl k hk)
  have Hg := Lib.hid hg
  clear hl hg
  go_enter Tryz.func36, Tryz.ntmps36
  go_wp2
  go_loopw [10] (fun i wr => ∃ k : Nat, i = .int .i64 k ∧ k ≤ L.length ∧ Below w.heap.size w wr) (fun i _ => L.length - (intOf i).toNat)
  case atStart => exact ⟨0, rfl, Nat.zero_le _, Below.refl _ _⟩
  case round =>
    obtain ⟨k, rfl, hk, hbel⟩ := hrel
    have Hbel := Lib.hid hbel
    clear hbel
    by_cases hA : k < L.length
    · obtain ⟨b, off, rfl, x0, x1, x2, x3⟩ := Hl.out k hA
      have y0 := cell_later Hbel.out x0; have y1 := cell_later Hbel.out x1; have y2 := cell_later Hbel.out x2; have y3 := cell_later Hbel.out x3
      have KF : Hid (∀ W, Calls Tryz.prog 59 #[.agg #[.int .u8 (L[k].kind : Nat), .int .i64 L[k].T, .int .i64 L[k].tau, .int .i64 L[k].permits]] W fun e w' => e = .returned (.bool true) ∧ Below W.heap.size W w') := fun W => form_pol _ _ _ _ W (Hg.out L[k] (List.getElem_mem hA))
      clear x0 x1 x2 x3
      generalize L[k].kind = kd at *
      generalize L[k].T = pT at *
      generalize L[k].tau = ptau at *
      generalize L[k].permits = pp at *
      have hw0 : w.heap.size ≤ wr.heap.size := Hbel.out.size
      go_wp2_with (go_at_call 59; (with_reducible refine (KF.out _).mono ?_); rintro e w2 ⟨rfl, hb2⟩; have Hb2 := Lib.hid hb2; clear hb2)
      go_roundw
      case rel => exact ⟨k + 1, by go_num, by omega, (Hbel.out.alloc hw0 _).trans (Hb2.out.mono (by simp; omega))⟩
      case measure => simp [intOf]; omega
    · obtain rfl : k = L.length := by omega
      go_wp2
      exact bodyPost_ret (v := .int .i64 0) (by simp [results, Tryz.results36, go_sem]) rfl ⟨rfl, Hbel.out⟩
/-- The kind of policy that a call wants. -/
def kindOf (op : Nat) : Nat := if op = 1 then 1 else if op = 2 ∨ op = 3 then 2 else 0
theorem kind_any (op : Nat) (w : World) :
    Calls Tryz.prog 63 #[.int .u8 op] w fun e w' => e = .returned (.int .u8 (kindOf op : Nat)) ∧ w = w' := by
  by_cases h1 : op = 1
  · subst h1
    go_enter Tryz.func63, Tryz.ntmps63
    go_wp2
    go_ret
    exact ⟨rfl, rfl⟩
  · by_cases h2 : op = 2
    · subst h2
      go_enter Tryz.func63, Tryz.ntmps63
      go_wp2
      go_ret
      exact ⟨rfl, rfl⟩
    · by_cases h3 : op = 3
      · subst h3
        go_enter Tryz.func63, Tryz.ntmps63
        go_wp2
        go_ret
        exact ⟨rfl, rfl⟩
      · have g1 : ¬ (op : Int) = 1 := by omega
        have g2 : ¬ (op : Int) = 2 := by omega
        have g3 : ¬ (op : Int) = 3 := by omega
        have e : kindOf op = 0 := by unfold kindOf; rw [if_neg h1, if_neg (by omega)]
        rw [e]
        clear e h1 h2 h3
        go_enter Tryz.func63, Tryz.ntmps63
        go_wp2
        go_ret
        exact ⟨rfl, rfl⟩
end Go.Proofs.YtemnhpdjoimjbaaGreat
end
section
namespace Go.Proofs.YtemnhpdjoimjbaaGreat
open Go.RowKit Top
set_option linter.unusedVariables false
/-- A call in form, on a table. -/
structure CallOk (L : List Pol) (c : Top.Call) : Prop where
  op0 : 1 ≤ c.op
  op1 : c.op ≤ 6
  n : c.op = 1 → 0 ≤ c.n ∧ c.n ≤ 4611686018427387903
  klen : c.key.length ≤ 255
  pol : ∃ p : Nat, c.pol = (p : Int) ∧ p < L.length
  kind : c.op ≤ 4 → kindOf c.op ≠ 0 → (L.getD c.pol.toNat default).kind = kindOf c.op
set_option maxHeartbeats 20000000 in
theorem check_good (L : List Pol) (lv : Value) (c : Top.Call) (kv : Value) (w : World) (hl : PolsAt w lv L) (hn : L.length ≤ 32) (hg : ∀ p ∈ L, PolGood p) (hc : CallOk L c) (hk : ∃ a cap, kv = .slice a c.key.length cap) :
    Calls Tryz.prog 44 #[lv, .agg #[.int .u8 (c.op : Nat), .int .i64 c.pol, kv, .int .i64 c.n]] w fun e w' => e = .returned (.int .i64 0) ∧ Below w.heap.size w w' := by
  obtain ⟨op, pol, key, n⟩ := c
  obtain ⟨h0, h1, h2, h3, ⟨p, h4, h5⟩, h6⟩ := hc
  dsimp only at h0 h1 h2 h3 h4 h5 h6 hk ⊢
  subst h4
  rw [Int.toNat_natCast] at h6
  obtain ⟨ka, kc, rfl⟩ := hk
  obtain ⟨la, lc, rfl⟩ : ∃ a c', lv = .slice a L.length c' := by obtain ⟨_, a, c', e, _⟩ := hl; exact ⟨a, c', e⟩
  have hkd : L.getD p default = L[p] := by rw [List.getD_eq_getElem?_getD, List.getElem?_eq_getElem h5]; rfl
  rw [hkd] at h6
  obtain ⟨b, off, rfl, x0, z1, z2, z3⟩ := pol_at4 hl p h5
  clear z1 z2 z3
  have KP : Hid (∀ W, Below w.heap.size w W → Calls Tryz.prog 36 #[.slice (some ⟨b, off, none⟩) L.length lc] W fun e w' => e = .returned (.int .i64 0) ∧ Below W.heap.size W w') := fun W hb => policies_good L _ W (hl.keep (fr0 hb)) hn hg
  have HX : Hid (∀ W, Below w.heap.size w W → W.cell? ⟨b, off + p * 4, none⟩ = some (.int .u8 (L[p].kind : Nat))) := fun W hb => cell_later hb x0
  have KF := Lib.hid (fun W => form_any n W)
  generalize hkk : L[p].kind = kd at *
  have hpl : p < L.length := h5
  clear hl hg hkd hkk h5
  generalize key.length = kn at *
  generalize hln : L.length = ln at *
  clear hln
  have d1 : decide ((p : Int) < 0) = false := decide_eq_false (by omega)
  have d2 : decide ((p : Int) ≥ (ln : Int)) = false := decide_eq_false (by omega)
  have d7 : decide (ln ≤ p) = false := decide_eq_false (by omega)
  have d3 : decide ((kn : Int) > 255) = false := decide_eq_false (by omega)
  have hop : op = 1 ∨ op = 2 ∨ op = 3 ∨ op = 4 ∨ op = 5 ∨ op = 6 := by omega
  clear x0 h0 h1
  rcases hop with rfl | rfl | rfl | rfl | rfl | rfl
  · show Calls _ _ #[.slice (some ⟨b, off, none⟩) ln lc, .agg #[.int .u8 1, .int .i64 p, .slice ka kn kc, .int .i64 n]] w _
    have Hb0 : Hid (Below w.heap.size w (w.alloc (.cells #[.int .u8 1, .int .i64 p, .slice ka kn kc, .int .i64 n] 31))) := below_allocs [_] w
    have Hbx : Hid (Bx (w.alloc (.cells #[.int .u8 1, .int .i64 p, .slice ka kn kc, .int .i64 n] 31)) w.heap.size 31 #[.int .u8 1, .int .i64 p, .slice ka kn kc, .int .i64 n]) := Bx.new _ _ _
    have ht : tickB n = true := by have := h2 rfl; simp [tickB]; omega
    rw [ht] at KF
    have Kk : Hid (∀ W, Calls Tryz.prog 63 #[.int .u8 1] W fun e w' => e = .returned (.int .u8 1) ∧ W = w') := fun W => kind_any 1 W
    have hz : kd = 1 := h6 (by omega) (by decide)
    subst hz
    clear h6 h2
    go_enter Tryz.func44, Tryz.ntmps44
    go_wp2_with (first
      | (go_at_call 55; (with_reducible refine (KF.out _).mono ?_); rintro e w2 ⟨rfl, rfl⟩)
      | (go_at_call 36; (with_reducible refine (KP.out _ Hb0.out).mono ?_); rintro e w2 ⟨rfl, hb2⟩; have hbx := Hbx.out.below hb2 Hbx.out.lt; have c0 := hbx.cell 0; have c1 := hbx.cell 1; have c2 := hbx.cell 2; have c3 := hbx.cell 3; have y0 := HX.out w2 (Hb0.out.trans (hb2.mono Hb0.out.size)); have Hb2 := Lib.hid (Hb0.out.trans (hb2.mono Hb0.out.size)); clear hb2 hbx))
    go_quiet ((go_at_call 63; with_reducible exact quiet_left (Kk.out _)))
    go_wp2_with fail
    exact bodyPost_ret (v := .int .i64 0) (by simp [results, Tryz.results44, go_sem]) rfl ⟨rfl, below_drewN Hb2.out _⟩
  · show Calls _ _ #[.slice (some ⟨b, off, none⟩) ln lc, .agg #[.int .u8 2, .int .i64 p, .slice ka kn kc, .int .i64 n]] w _
    have Hb0 : Hid (Below w.heap.size w (w.alloc (.cells #[.int .u8 2, .int .i64 p, .slice ka kn kc, .int .i64 n] 31))) := below_allocs [_] w
    have Hbx : Hid (Bx (w.alloc (.cells #[.int .u8 2, .int .i64 p, .slice ka kn kc, .int .i64 n] 31)) w.heap.size 31 #[.int .u8 2, .int .i64 p, .slice ka kn kc, .int .i64 n]) := Bx.new _ _ _
    have Kk : Hid (∀ W, Calls Tryz.prog 63 #[.int .u8 2] W fun e w' => e = .returned (.int .u8 2) ∧ W = w') := fun W => kind_any 2 W
    have hz : kd = 2 := h6 (by omega) (by decide)
    subst hz
    clear h6 h2
    go_enter Tryz.func44, Tryz.ntmps44
    go_wp2_with (first
      | (go_at_call 55; (with_reducible refine (KF.out _).mono ?_); rintro e w2 ⟨rfl, rfl⟩)
      | (go_at_call 36; (with_reducible refine (KP.out _ Hb0.out).mono ?_); rintro e w2 ⟨rfl, hb2⟩; have hbx := Hbx.out.below hb2 Hbx.out.lt; have c0 := hbx.cell 0; have c1 := hbx.cell 1; have c2 := hbx.cell 2; have c3 := hbx.cell 3; have y0 := HX.out w2 (Hb0.out.trans (hb2.mono Hb0.out.size)); have Hb2 := Lib.hid (Hb0.out.trans (hb2.mono Hb0.out.size)); clear hb2 hbx))
    go_quiet ((go_at_call 63; with_reducible exact quiet_left (Kk.out _)))
    go_wp2_with fail
    exact bodyPost_ret (v := .int .i64 0) (by simp [results, Tryz.results44, go_sem]) rfl ⟨rfl, below_drewN Hb2.out _⟩
  · show Calls _ _ #[.slice (some ⟨b, off, none⟩) ln lc, .agg #[.int .u8 3, .int .i64 p, .slice ka kn kc, .int .i64 n]] w _
    have Hb0 : Hid (Below w.heap.size w (w.alloc (.cells #[.int .u8 3, .int .i64 p, .slice ka kn kc, .int .i64 n] 31))) := below_allocs [_] w
    have Hbx : Hid (Bx (w.alloc (.cells #[.int .u8 3, .int .i64 p, .slice ka kn kc, .int .i64 n] 31)) w.heap.size 31 #[.int .u8 3, .int .i64 p, .slice ka kn kc, .int .i64 n]) := Bx.new _ _ _
    have Kk : Hid (∀ W, Calls Tryz.prog 63 #[.int .u8 3] W fun e w' => e = .returned (.int .u8 2) ∧ W = w') := fun W => kind_any 3 W
    have hz : kd = 2 := h6 (by omega) (by decide)
    subst hz
    clear h6 h2
    go_enter Tryz.func44, Tryz.ntmps44
    go_wp2_with (first
      | (go_at_call 55; (with_reducible refine (KF.out _).mono ?_); rintro e w2 ⟨rfl, rfl⟩)
      | (go_at_call 36; (with_reducible refine (KP.out _ Hb0.out).mono ?_); rintro e w2 ⟨rfl, hb2⟩; have hbx := Hbx.out.below hb2 Hbx.out.lt; have c0 := hbx.cell 0; have c1 := hbx.cell 1; have c2 := hbx.cell 2; have c3 := hbx.cell 3; have y0 := HX.out w2 (Hb0.out.trans (hb2.mono Hb0.out.size)); have Hb2 := Lib.hid (Hb0.out.trans (hb2.mono Hb0.out.size)); clear hb2 hbx))
    go_quiet ((go_at_call 63; with_reducible exact quiet_left (Kk.out _)))
    go_wp2_with fail
    exact bodyPost_ret (v := .int .i64 0) (by simp [results, Tryz.results44, go_sem]) rfl ⟨rfl, below_drewN Hb2.out _⟩
  · show Calls _ _ #[.slice (some ⟨b, off, none⟩) ln lc, .agg #[.int .u8 4, .int .i64 p, .slice ka kn kc, .int .i64 n]] w _
    have Hb0 : Hid (Below w.heap.size w (w.alloc (.cells #[.int .u8 4, .int .i64 p, .slice ka kn kc, .int .i64 n] 31))) := below_allocs [_] w
    have Hbx : Hid (Bx (w.alloc (.cells #[.int .u8 4, .int .i64 p, .slice ka kn kc, .int .i64 n] 31)) w.heap.size 31 #[.int .u8 4, .int .i64 p, .slice ka kn kc, .int .i64 n]) := Bx.new _ _ _
    have Kk : Hid (∀ W, Calls Tryz.prog 63 #[.int .u8 4] W fun e w' => e = .returned (.int .u8 0) ∧ W = w') := fun W => kind_any 4 W
    clear h6 h2
    go_enter Tryz.func44, Tryz.ntmps44
    go_wp2_with (first
      | (go_at_call 55; (with_reducible refine (KF.out _).mono ?_); rintro e w2 ⟨rfl, rfl⟩)
      | (go_at_call 36; (with_reducible refine (KP.out _ Hb0.out).mono ?_); rintro e w2 ⟨rfl, hb2⟩; have hbx := Hbx.out.below hb2 Hbx.out.lt; have c0 := hbx.cell 0; have c1 := hbx.cell 1; have c2 := hbx.cell 2; have c3 := hbx.cell 3; have y0 := HX.out w2 (Hb0.out.trans (hb2.mono Hb0.out.size)); have Hb2 := Lib.hid (Hb0.out.trans (hb2.mono Hb0.out.size)); clear hb2 hbx))
    go_quiet ((go_at_call 63; with_reducible exact quiet_left (Kk.out _)))
    go_wp2_with fail
    exact bodyPost_ret (v := .int .i64 0) (by simp [results, Tryz.results44, go_sem]) rfl ⟨rfl, below_drewN Hb2.out _⟩
  · show Calls _ _ #[.slice (some ⟨b, off, none⟩) ln lc, .agg #[.int .u8 5, .int .i64 p, .slice ka kn kc, .int .i64 n]] w _
    have Hb0 : Hid (Below w.heap.size w (w.alloc (.cells #[.int .u8 5, .int .i64 p, .slice ka kn kc, .int .i64 n] 31))) := below_allocs [_] w
    have Hbx : Hid (Bx (w.alloc (.cells #[.int .u8 5, .int .i64 p, .slice ka kn kc, .int .i64 n] 31)) w.heap.size 31 #[.int .u8 5, .int .i64 p, .slice ka kn kc, .int .i64 n]) := Bx.new _ _ _
    clear h6 h2
    go_enter Tryz.func44, Tryz.ntmps44
    go_wp2_with (first
      | (go_at_call 55; (with_reducible refine (KF.out _).mono ?_); rintro e w2 ⟨rfl, rfl⟩)
      | (go_at_call 36; (with_reducible refine (KP.out _ Hb0.out).mono ?_); rintro e w2 ⟨rfl, hb2⟩; have hbx := Hbx.out.below hb2 Hbx.out.lt; have c0 := hbx.cell 0; have c1 := hbx.cell 1; have c2 := hbx.cell 2; have c3 := hbx.cell 3; have y0 := HX.out w2 (Hb0.out.trans (hb2.mono Hb0.out.size)); have Hb2 := Lib.hid (Hb0.out.trans (hb2.mono Hb0.out.size)); clear hb2 hbx))
    go_quiet (fail)
    go_wp2_with fail
    exact bodyPost_ret (v := .int .i64 0) (by simp [results, Tryz.results44, go_sem]) rfl ⟨rfl, below_drewN Hb2.out _⟩
  · show Calls _ _ #[.slice (some ⟨b, off, none⟩) ln lc, .agg #[.int .u8 6, .int .i64 p, .slice ka kn kc, .int .i64 n]] w _
    have Hb0 : Hid (Below w.heap.size w (w.alloc (.cells #[.int .u8 6, .int .i64 p, .slice ka kn kc, .int .i64 n] 31))) := below_allocs [_] w
    have Hbx : Hid (Bx (w.alloc (.cells #[.int .u8 6, .int .i64 p, .slice ka kn kc, .int .i64 n] 31)) w.heap.size 31 #[.int .u8 6, .int .i64 p, .slice ka kn kc, .int .i64 n]) := Bx.new _ _ _
    clear h6 h2
    go_enter Tryz.func44, Tryz.ntmps44
    go_wp2_with (first
      | (go_at_call 55; (with_reducible refine (KF.out _).mono ?_); rintro e w2 ⟨rfl, rfl⟩)
      | (go_at_call 36; (with_reducible refine (KP.out _ Hb0.out).mono ?_); rintro e w2 ⟨rfl, hb2⟩; have hbx := Hbx.out.below hb2 Hbx.out.lt; have c0 := hbx.cell 0; have c1 := hbx.cell 1; have c2 := hbx.cell 2; have c3 := hbx.cell 3; have y0 := HX.out w2 (Hb0.out.trans (hb2.mono Hb0.out.size)); have Hb2 := Lib.hid (Hb0.out.trans (hb2.mono Hb0.out.size)); clear hb2 hbx))
    go_quiet (fail)
    go_wp2_with fail
    exact bodyPost_ret (v := .int .i64 0) (by simp [results, Tryz.results44, go_sem]) rfl ⟨rfl, below_drewN Hb2.out _⟩
end Go.Proofs.YtemnhpdjoimjbaaGreat
end
section
namespace Go.Proofs.YtemnhpdjoimjbaaGreat
open Go.RowKit Top
set_option linter.unusedVariables false
/-- A call's sum. -/
theorem csum_any (pol : Int) (kv : Value) (k : List Nat) (w : World) (h : KeyAt w kv k) (hk : k.length ≤ 255) (h0 : 0 ≤ pol) (h1 : pol < 32) :
    Calls Tryz.prog 46 #[.int .i64 pol, kv] w fun e w' => e = .returned (.int .u64 (sumB (ident pol k) : Nat)) ∧ Below w.heap.size w w' := by
  have Ki := Lib.hid (ident_any pol kv k w h hk h0 h1)
  obtain ⟨s, hs⟩ : ∃ s, sumB (ident pol k) = s := ⟨_, rfl⟩
  have Ks : Hid (∀ (v : Value) (W : World), ByAt W v (ident pol k) → Calls Tryz.prog 62 #[v] W fun e w' => e = .returned (.int .u64 (s : Nat)) ∧ W = w') := fun v W hv => by rw [← hs]; exact sum_any v _ W hv
  rw [hs]
  clear h hk h0 h1 hs
  go_enter Tryz.func46, Tryz.ntmps46
  go_wp2_with (first
    | (go_at_call 40; (with_reducible refine Ki.out.mono ?_); rintro e w1 ⟨a, c, rfl, hi, hb⟩; have Hi := Lib.hid hi; have Hb := Lib.hid hb; clear hi hb)
    | (go_at_call 62; (with_reducible refine (Ks.out _ _ Hi.out).mono ?_); rintro e w2 ⟨rfl, rfl⟩))
  exact bodyPost_ret (v := .int .u64 s) (by simp [results, Tryz.results46, go_sem]) rfl ⟨rfl, Hb.out⟩
theorem info_polT : (Tryz.prog.info? 77).map (fun i => (i.zero, i.size, i.bytes)) = some (some (.agg #[.int .u8 0, .int .i64 0, .int .i64 0, .int .i64 0]), 4, 32) := by kernel_rfl
theorem polEnc_length : ∀ (L : List Pol), (L.flatMap polEnc).length = L.length * 4
  | [] => rfl
  | p :: L => by rw [List.flatMap_cons, List.length_append, polEnc_length L]; simp [polEnc]; omega
/-- A table of one's own. -/
theorem pols_clone (lv : Value) (L : List Pol) (w : World) (h : PolsAt w lv L) (h0 : 0 < L.length) (hn : L.length ≤ 32) :
    Calls Tryz.prog 18 #[lv] w fun e w' => ∃ v', e = .returned v' ∧ PolsAt w' v' L ∧ (∃ a c, v' = .slice a L.length c) ∧ Below w.heap.size w w' := by
  obtain ⟨i0, hi, hz0, hz1, hz2⟩ := info_parts info_polT
  obtain ⟨a, c, rfl⟩ : ∃ a c, lv = .slice a L.length c := by obtain ⟨_, a, c, e, _⟩ := h; exact ⟨a, c, e⟩
  obtain ⟨_, hc1, hc2, hcells⟩ := Row.cells h
  obtain ⟨b, off, rfl, hcell⟩ := hcells h0
  refine (Tryz.slices_Clone_f18 i0 _ 4 32 hi hz0 hz1 hz2 rfl (by decide) Tryz.sizeOf77 b off L.length c (L.flatMap polEnc) w (polEnc_length L) (by unfold maxLen; omega) (by omega) hcell ?_).mono ?_
  · intro u hu
    obtain ⟨p, _, hu⟩ := List.mem_flatMap.1 hu
    simp [polEnc] at hu
    rcases hu with rfl | rfl | rfl | rfl <;> rfl
  · rintro e w' ⟨v', rfl, h2, _, h3⟩
    have hr := Row.own h2
    exact ⟨v', rfl, hr, by obtain ⟨_, a, c, e, _⟩ := hr; exact ⟨a, c, e⟩, h3⟩
def zeros34 : Array Value := Array.replicate 34 (.int .u64 0)
def nils34 : Array Value := Array.replicate 34 (.slice none 0 0)
set_option maxHeartbeats 1000000 in
theorem mnew_34 (w : World) :
    Calls Tryz.prog 60 #[.int .i64 34] w fun e w' => e = .returned (.tuple #[P (w.heap.size + 1), .int .i64 0]) ∧ Below w.heap.size w w' ∧ w'.heap.size = w.heap.size + 2 ∧ Bx w' w.heap.size 78 zeros34 ∧ Bx w' (w.heap.size + 1) 148 (machV w.heap.size 0 0 (.slice none 0 0)) := by
  have hmk : ∀ w, (Instr.makeSlice 135 (.int .i64 34) (.int .i64 34)).run Tryz.prog w = .ok (.slice (some ⟨w.heap.size, 0, none⟩) 34 34) (w.alloc (.cells zeros34 78)) := fun _ => by kernel_rfl
  go_enter Tryz.func60, Tryz.ntmps60
  go_wp2
  refine bodyPost_ret (v := .tuple #[P (w.heap.size + 1), .int .i64 0]) (by simp [results, Tryz.results60, go_sem]) rfl ?_
  exact ⟨rfl, below_allocs [.cells zeros34 78, .cells (machV w.heap.size 0 0 (.slice none 0 0)) 148] w, by simp, bx_allocs w [.cells zeros34 78, .cells (machV w.heap.size 0 0 (.slice none 0 0)) 148] 0 rfl, bx_allocs w [.cells zeros34 78, .cells (machV w.heap.size 0 0 (.slice none 0 0)) 148] 1 rfl⟩
set_option maxHeartbeats 1000000 in
theorem bnew_34 (w : World) :
    Calls Tryz.prog 37 #[.int .i64 34] w fun e w' => ∃ b, e = .returned (P b) ∧ Below w.heap.size w w' ∧ w'.heap.size = w.heap.size + 4 ∧ b = w.heap.size + 3 ∧ Bx w' w.heap.size 78 zeros34 ∧ Bx w' (w.heap.size + 1) 148 (machV w.heap.size 0 0 (.slice none 0 0)) ∧ Bx w' (w.heap.size + 2) 40 nils34 ∧ Bx w' (w.heap.size + 3) 102 #[P (w.heap.size + 1), .slice (some ⟨w.heap.size + 2, 0, none⟩) 34 34] := by
  have hmk : ∀ w, (Instr.makeSlice 93 (.int .i64 34) (.int .i64 34)).run Tryz.prog w = .ok (.slice (some ⟨w.heap.size, 0, none⟩) 34 34) (w.alloc (.cells nils34 40)) := fun _ => by kernel_rfl
  go_enter Tryz.func37, Tryz.ntmps37
  go_wp2_with (go_at_call 60; (with_reducible refine (mnew_34 _).mono ?_); rintro e w1 ⟨rfl, hb, hsz, h1, h2⟩; have Hb := Lib.hid hb; have Hs := Lib.hid hsz; have H1 := Lib.hid h1; have H2 := Lib.hid h2; clear hb hsz h1 h2)
  go_ret
  have hs := Hs.out
  have hb0 : Below w1.heap.size w1 (allocs w1 [.cells nils34 40, .cells #[P (w.heap.size + 1), .slice (some ⟨w1.heap.size, 0, none⟩) 34 34] 102]) := below_allocs _ _
  have g0 := bx_allocs w1 [.cells nils34 40, .cells #[P (w.heap.size + 1), .slice (some ⟨w1.heap.size, 0, none⟩) 34 34] 102] 0 rfl
  have g1 := bx_allocs w1 [.cells nils34 40, .cells #[P (w.heap.size + 1), .slice (some ⟨w1.heap.size, 0, none⟩) 34 34] 102] 1 rfl
  refine ⟨w.heap.size + 3, ?_, Hb.out.trans (hb0.mono Hb.out.size), ?_, rfl, H1.out.below hb0 H1.out.lt, H2.out.below hb0 H2.out.lt, ?_, ?_⟩
  · simp [hs]
  · simp [hs]
  · have e : w.heap.size + 2 = w1.heap.size := hs.symm
    rw [e]; exact g0
  · have e : w.heap.size + 2 = w1.heap.size := hs.symm
    have e3 : w.heap.size + 3 = w1.heap.size + 1 := by omega
    rw [e, e3]; exact g1
end Go.Proofs.YtemnhpdjoimjbaaGreat
end
section
namespace Go.Proofs.YtemnhpdjoimjbaaGreat
open Go.RowKit Top
set_option linter.unusedVariables false
def words1 : Array Value := zeros34.setIfInBounds 1 (.int .u64 1)
theorem last_nil (w : World) (B : Nat) : LastOk w B (.slice none 0 0) := ⟨0, [], World.ownsRow_nil _ _ _ _, by omega, by simp⟩
/-- The parts of a limiter behind its first access. -/
structure Raw (w : World) (B W M H : Nat) : Prop where
  words : Bx w W 78 words1
  mach : ∃ last, Bx w M 148 (machV W 0 1 last) ∧ LastOk w B last
  holds : Bx w H 40 nils34
set_option maxHeartbeats 1000000 in
set_option maxRecDepth 100000 in
theorem mswap0 (B M W : Nat) (w : World) (hm : Bx w M 148 (machV W 0 0 (.slice none 0 0))) (hw : Bx w W 78 zeros34) (hB : B ≤ w.heap.size) :
    Calls Tryz.prog 61 #[.pointer (some ⟨M, 0, none⟩), .int .i64 0, .int .i64 1, .int .u64 0, .int .u64 1] w fun e w' => e = .returned (.tuple #[.bool true, .int .i64 0]) ∧ Keeps (fun k => k = M ∨ k = W) w w' ∧ (∃ last, Bx w' M 148 (machV W 0 1 last) ∧ LastOk w' B last) ∧ Bx w' W 78 words1 := by
  have c0 : w.cell? ⟨M, 0, none⟩ = some (.slice (some ⟨W, 0, none⟩) 34 34) := hm.cell 0
  have cw : w.cell? ⟨W, 1, none⟩ = some (.int .u64 0) := hw.cell 1
  have fw : w.frozen? ⟨W, 1, none⟩ = false := hw.free 1
  have Ks := Lib.hid (size_any M (.slice none 0 0) (.slice none 0 0) W 34 34 0 0 w hm)
  have Kw := Lib.hid (worker_ok 0 1 34 w (by decide) (by decide) (by omega) (by omega))
  have hm1 : Bx (w.setCell ⟨W, 1, none⟩ (.int .u64 1)) M 148 (machV W 0 0 (.slice none 0 0)) := hm.sne (hm.ne hw (by decide))
  have hw1 : Bx (w.setCell ⟨W, 1, none⟩ (.int .u64 1)) W 78 words1 := hw.setCell 1 _
  have Kn := Lib.hid (fun a b c d => note_any B M W 0 0 (.slice none 0 0) 0 a b c d true (w.setCell ⟨W, 1, none⟩ (.int .u64 1)) hm1 (last_nil _ _) ⟨by decide, by decide⟩ (by simpa [World.setCell] using hB))
  have Hm := Lib.hid hm; have Hw := Lib.hid hw; have Hm1 := Lib.hid hm1; have Hw1 := Lib.hid hw1
  clear hm hw hm1 hw1 hB
  go_enter Tryz.func61, Tryz.ntmps61
  go_wp2_with (first | (go_at_call 87; (with_reducible refine Ks.out.mono ?_); rintro e w1 ⟨rfl, rfl⟩) | (go_at_call 86; (with_reducible refine Kw.out.mono ?_); rintro e w1 ⟨rfl, rfl⟩) | (go_at_call 89; (refine (Kn.out 2 1 _ _).mono ?_); rintro e w1 hr; obtain rfl := hr.1; have Hr := Lib.hid hr; clear hr))
  refine bodyPost_ret (v := .tuple #[.bool true, .int .i64 0]) (by simp [results, Tryz.results61, go_sem]) rfl ?_
  have hk := Hr.out.2.1
  refine ⟨rfl, ⟨hk.os, hk.tape, hk.output, by have := hk.size; simpa [World.setCell] using this, fun k hkl hs => ?_⟩, ?_, hk.bx (last_nil _ B) Hm1.out Hw1.out (by decide) (by decide)⟩
  · rw [hk.block k (by simpa [World.setCell] using hkl) (fun h => ?_), Below.heap_setCell _ _ _ _ (fun e => hs (.inr e))]
    rcases h with h | h
    · exact hs (.inl h)
    · simp [lastRow, Value.ownBlock] at h
  · obtain ⟨last, h1, h2⟩ := Hr.out.2.2
    exact ⟨last, h1, h2⟩
set_option maxHeartbeats 1000000 in
set_option maxRecDepth 100000 in
theorem bswap0 (B bd M W H : Nat) (w : World) (hb : Bx w bd 102 #[P M, .slice (some ⟨H, 0, none⟩) 34 34]) (hm : Bx w M 148 (machV W 0 0 (.slice none 0 0))) (hw : Bx w W 78 zeros34) (hh : Bx w H 40 nils34) (hB : B ≤ w.heap.size) :
    Calls Tryz.prog 38 #[P bd, .int .i64 0, .int .i64 1, .int .u64 0, .int .u64 1, .slice none 0 0] w fun e w' => e = .returned (.bool true) ∧ Keeps (fun k => k = M ∨ k = W ∨ k = H) w w' ∧ Raw w' B W M H := by
  have c0 : w.cell? ⟨bd, 0, none⟩ = some (P M) := hb.cell 0
  have Kl := Lib.hid (mswap0 B M W w hm hw hB)
  have Hb := Lib.hid hb; have Hh := Lib.hid hh; have Hm := Lib.hid hm; have Hw := Lib.hid hw
  clear hb hh hm hw hB
  go_enter Tryz.func38, Tryz.ntmps38
  go_wp2_with (go_at_call 61; (with_reducible refine Kl.out.mono ?_); rintro e w1 ⟨rfl, hk, hm1, hw1⟩; have b1 : Bx w1 bd 102 #[P M, .slice (some ⟨H, 0, none⟩) 34 34] := (hk.block bd Hb.out.lt (fun h => h.elim (Hb.out.ne Hm.out (by decide)) (Hb.out.ne Hw.out (by decide)))).trans Hb.out; have h1 : Bx w1 H 40 nils34 := (hk.block H Hh.out.lt (fun h => h.elim (Hh.out.ne Hm.out (by decide)) (Hh.out.ne Hw.out (by decide)))).trans Hh.out; have k1 := b1.cell 1; have f1 := h1.free 1; have z1 : w1.cell? ⟨H, 1, none⟩ = some (.slice none 0 0) := h1.cell 1; have Hk := Lib.hid hk; have Hm1 := Lib.hid hm1; have Hw1 := Lib.hid hw1; have Hh1 := Lib.hid h1; clear hk hm1 hw1 b1 h1)
  go_ret
  obtain ⟨last, hm1, hl1⟩ := Hm1.out
  have hh2 : Bx (w1.setCell ⟨H, 1, none⟩ (.slice none 0 0)) H 40 nils34 := Hh1.out.setCell 1 _
  have hm2 : Bx (w1.setCell ⟨H, 1, none⟩ (.slice none 0 0)) M 148 (machV W 0 1 last) := hm1.sne (hm1.ne Hh1.out (by decide))
  have hw2 : Bx (w1.setCell ⟨H, 1, none⟩ (.slice none 0 0)) W 78 words1 := Hw1.out.sne (Hw1.out.ne Hh1.out (by decide))
  have hk := Hk.out
  refine ⟨rfl, ⟨hk.os, hk.tape, hk.output, by have := hk.size; simpa [World.setCell] using this, fun k hkl hs => ?_⟩, hw2, ⟨last, hm2, ?_⟩, hh2⟩
  · rw [Below.heap_setCell _ _ _ _ (fun e => hs (.inr (.inr e)))]
    exact hk.block k hkl (fun h => hs (h.imp id .inl))
  · obtain ⟨nn, xs, ho, hn, h1⟩ := hl1
    exact ⟨nn, xs, ownsRow_setCell_other ho (own_ne ho Hh1.out (by decide)) _, hn, h1⟩
end Go.Proofs.YtemnhpdjoimjbaaGreat
end
