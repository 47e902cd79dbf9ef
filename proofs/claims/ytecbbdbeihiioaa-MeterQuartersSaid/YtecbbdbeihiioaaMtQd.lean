/- Contract of meter.Quantile at whatever list; lists that are too long. -/
import Derived.Test.YtecbbdbeihiioaaMtQc
namespace Go.Proofs.Ytecbbdbeihiioaa
open Go.RowKit
set_option linter.unusedVariables false

attribute [local go_sem] run_store_float'

set_option maxHeartbeats 2000000 in
theorem quant_long (v : Value) (L : List Nat) (q : Nat) (w : World) (h : FlAt w v L) (hl : 4096 < L.length) : Calls Try.prog 20 #[v, .float .f64 q] w (QuP w (fun y => y = 0) 2) := by
  obtain ⟨h0, a, c, rfl, hlc, hc, hr⟩ := h
  unfold maxLen at hc
  clear hr h0
  have H0 : Hid (nfW 0 = 0) := Lib.hid (by decide +kernel)
  have hll : (4096 : Int) < (L.length : Int) := by omega
  go_enter Try.func20, Try.ntmps20
  go_wp2
  go_ret2
  exact ⟨0, rfl, H0.out, by decide, Below.refl _ _⟩
set_option maxHeartbeats 2000000 in
theorem docq_long (v : Value) (L : List Nat) (q : Nat) (w : World) (h : FlAt w v L) (hl : 4096 < L.length) : Calls Try.prog 21 #[v, .float .f64 q] w (QuP w (fun y => y = 0) 2) := by
  obtain ⟨h0, a, c, rfl, hlc, hc, hr⟩ := h
  unfold maxLen at hc
  clear hr h0
  have H0 : Hid (nfW 0 = 0) := Lib.hid (by decide +kernel)
  have hll : (4096 : Int) < (L.length : Int) := by omega
  go_enter Try.func21, Try.ntmps21
  go_wp2
  go_ret2
  exact ⟨0, rfl, H0.out, by decide, Below.refl _ _⟩

set_option maxRecDepth 100000 in
set_option maxHeartbeats 8000000 in
theorem quant_core (v : Value) (L : List Nat) (q : Nat) (w : World) (lt gt : Bool) (Y : Nat → Prop) (e : Int) (h : FlAt w v L) (hl4 : L.length ≤ 4096) (hq : q < 18446744073709551616)
    (h1 : (FloatKind.f64.format.order q 0 == some .lt) = lt) (h2 : (FloatKind.f64.format.order q 4607182418800017408 == some .gt) = gt)
    (hcs : (badK q L L.length = true ∧ e = 4 ∧ Y 0) ∨ (badK q L L.length = false ∧ lt = true ∧ e = 5 ∧ Y 0) ∨ (badK q L L.length = false ∧ lt = false ∧ gt = true ∧ e = 5 ∧ Y 0) ∨ (badK q L L.length = false ∧ lt = false ∧ gt = false ∧ L.length = 0 ∧ e = 7 ∧ Y 0) ∨
      (badK q L L.length = false ∧ lt = false ∧ gt = false ∧ 0 < L.length ∧ e = 0 ∧ ∃ p ti f, QuAt q p ti f (L.length - 1) ∧ ∀ y, QuY L f ti y → Y y)) :
    Calls Try.prog 20 #[v, .float .f64 q] w (QuP w Y e) := by
  have hbk : badK q L L.length = (isN q || L.any isN) := by unfold badK; rw [List.take_length]
  rw [hbk] at hcs
  clear hbk
  have H0 : Hid (nfW 0 = 0) := Lib.hid (by decide +kernel)
  have Hfl := Lib.hid h
  have Kn : Hid (∀ u, Calls Try.prog 36 #[.float .f64 q] u fun e w' => e = .returned (.bool (isN q)) ∧ u = w') := Lib.hid (fun u => isnan_any q u hq)
  have Kc : Hid (∀ u, FlAt u v L → Calls Try.prog 40 #[v, .func (.func 36) #[] #[]] u fun e w' => e = .returned (.bool (L.any isN)) ∧ ∃ q, w' = u.drewN q) := Lib.hid (fun u hu => contains_any v L u hu)
  by_cases hgood : e = 0 ∧ (isN q || L.any isN) = false ∧ lt = false ∧ gt = false ∧ 0 < L.length ∧ ∃ p ti f, QuAt q p ti f (L.length - 1) ∧ ∀ y, QuY L f ti y → Y y
  · obtain ⟨rfl, hb, rfl, rfl, hl0, p, ti, f, hqa, hy⟩ := hgood
    rw [Bool.or_eq_false_iff] at hb
    have hle := hqa.le
    refine (quantile_good v L q (FI ((L.length : Int) - 1)) p ti (FI (ti : Int)) f w h hl0 hl4 hq (of_decide_eq_false hb.1) hb.2 h1 h2 rfl ?_ hqa.int (by omega) rfl hqa.sub).mono ?_
    · have := hqa.mul
      rwa [show ((L.length - 1 : Nat) : Int) = (L.length : Int) - 1 by omega] at this
    · rintro e w' ⟨L', c, rfl, hp, hs, hn, hc, hb⟩
      exact ⟨c, rfl, hy _ ⟨L', hp, hs, hn⟩, hc, hb⟩
  · have hcs' : ((isN q || L.any isN) = true ∧ e = 4 ∧ Y 0) ∨ ((isN q || L.any isN) = false ∧ lt = true ∧ e = 5 ∧ Y 0) ∨ ((isN q || L.any isN) = false ∧ lt = false ∧ gt = true ∧ e = 5 ∧ Y 0) ∨ ((isN q || L.any isN) = false ∧ lt = false ∧ gt = false ∧ L.length = 0 ∧ e = 7 ∧ Y 0) := by
      rcases hcs with h | h | h | h | ⟨a, b, c, d, e', p, ti, f, x⟩
      · exact Or.inl h
      · exact Or.inr (Or.inl h)
      · exact Or.inr (Or.inr (Or.inl h))
      · exact Or.inr (Or.inr (Or.inr h))
      · exact absurd ⟨e', a, b, c, d, p, ti, f, x⟩ hgood
    clear hcs hgood
    generalize isN q = nq at *
    generalize L.any isN = na at *
    obtain ⟨h0, a, c, rfl, hlc, hc, hr⟩ := h
    unfold maxLen at hc
    clear hr h0
    have hll : (L.length : Int) ≤ 4096 := by omega
    cases nq
    · cases na
      · rcases hcs' with ⟨h, -⟩ | ⟨-, rfl, rfl, hy⟩ | ⟨-, rfl, rfl, rfl, hy⟩ | ⟨-, rfl, rfl, hl0, rfl, hy⟩
        · cases h
        · have Hy := Lib.hid hy
          clear hy
          go_enter Try.func20, Try.ntmps20
          go_wp2_with (go_at_call 36; (with_reducible refine (Kn.out _).mono ?_); rintro e w' ⟨rfl, rfl⟩)
          refine (Kc.out _ Hfl.out).mono ?_
          rintro e w1 ⟨rfl, n1, rfl⟩
          go_wp2
          go_ret2
          exact ⟨0, rfl, by rw [H0.out]; exact Hy.out, by decide, below_drewN (Below.refl _ _) _⟩
        · have Hy := Lib.hid hy
          clear hy
          go_enter Try.func20, Try.ntmps20
          go_wp2_with (go_at_call 36; (with_reducible refine (Kn.out _).mono ?_); rintro e w' ⟨rfl, rfl⟩)
          refine (Kc.out _ Hfl.out).mono ?_
          rintro e w1 ⟨rfl, n1, rfl⟩
          go_wp2
          go_ret2
          exact ⟨0, rfl, by rw [H0.out]; exact Hy.out, by decide, below_drewN (Below.refl _ _) _⟩
        · have Hy := Lib.hid hy
          have hz : ((L.length : Int) == 0) = true := by rw [hl0]; rfl
          clear hy hl0
          go_enter Try.func20, Try.ntmps20
          go_wp2_with (go_at_call 36; (with_reducible refine (Kn.out _).mono ?_); rintro e w' ⟨rfl, rfl⟩)
          refine (Kc.out _ Hfl.out).mono ?_
          rintro e w1 ⟨rfl, n1, rfl⟩
          go_wp2
          go_ret2
          exact ⟨0, rfl, by rw [H0.out]; exact Hy.out, by decide, below_drewN (Below.refl _ _) _⟩
      · rcases hcs' with ⟨-, rfl, hy⟩ | ⟨h, -⟩ | ⟨h, -⟩ | ⟨h, -⟩
        · have Hy := Lib.hid hy
          clear hy
          go_enter Try.func20, Try.ntmps20
          go_wp2_with (go_at_call 36; (with_reducible refine (Kn.out _).mono ?_); rintro e w' ⟨rfl, rfl⟩)
          refine (Kc.out _ Hfl.out).mono ?_
          rintro e w1 ⟨rfl, n1, rfl⟩
          go_wp2
          go_ret2
          exact ⟨0, rfl, by rw [H0.out]; exact Hy.out, by decide, below_drewN (Below.refl _ _) _⟩
        all_goals cases h
    · rcases hcs' with ⟨-, rfl, hy⟩ | ⟨h, -⟩ | ⟨h, -⟩ | ⟨h, -⟩
      · have Hy := Lib.hid hy
        clear hy
        go_enter Try.func20, Try.ntmps20
        go_wp2_with (go_at_call 36; (with_reducible refine (Kn.out _).mono ?_); rintro e w' ⟨rfl, rfl⟩)
        go_ret2
        exact ⟨0, rfl, by rw [H0.out]; exact Hy.out, by decide, Below.refl _ _⟩
      all_goals cases h

/-- Quantile and DocQuantile answer alike. -/
theorem quant_both (L : List Nat) (q : Nat) (hq : q < 18446744073709551616) (hL : ∀ x ∈ L, x < 18446744073709551616) :
    ∃ (Y : Nat → Prop) (e : Int), (∀ a b, Y a → Y b → a = b) ∧ (∀ v w, FlAt w v L → Calls Try.prog 20 #[v, .float .f64 q] w (QuP w Y e)) ∧ (∀ v w, FlAt w v L → Calls Try.prog 21 #[v, .float .f64 q] w (QuP w Y e)) := by
  by_cases hl : 4096 < L.length
  · exact ⟨fun y => y = 0, 2, fun a b ha hb => ha.trans hb.symm, fun v w h => quant_long v L q w h hl, fun v w h => docq_long v L q w h hl⟩
  · have hl4 : L.length ≤ 4096 := by omega
    have go : ∀ (Y : Nat → Prop) (e : Int), (∀ a b, Y a → Y b → a = b) → _ → ∃ (Y : Nat → Prop) (e : Int), (∀ a b, Y a → Y b → a = b) ∧ (∀ v w, FlAt w v L → Calls Try.prog 20 #[v, .float .f64 q] w (QuP w Y e)) ∧ (∀ v w, FlAt w v L → Calls Try.prog 21 #[v, .float .f64 q] w (QuP w Y e)) := fun Y e hu hcs =>
      ⟨Y, e, hu, fun v w h => quant_core v L q w _ _ Y e h hl4 hq rfl rfl hcs, fun v w h => docq_core v L q w _ _ Y e h hl4 hq rfl rfl hcs⟩
    have zu : ∀ a b : Nat, a = 0 → b = 0 → a = b := fun a b ha hb => ha.trans hb.symm
    cases hb : badK q L L.length
    · cases h1 : (FloatKind.f64.format.order q 0 == some .lt)
      · cases h2 : (FloatKind.f64.format.order q 4607182418800017408 == some .gt)
        · by_cases hl0 : L.length = 0
          · exact go (fun y => y = 0) 7 zu (Or.inr (Or.inr (Or.inr (Or.inl ⟨hb, h1, h2, hl0, rfl, rfl⟩))))
          · have hqn : ¬ 9218868437227405312 < rg q := by
              intro h
              have : isN q = true := decide_eq_true h
              unfold badK at hb
              rw [this] at hb
              cases hb
            obtain ⟨p, ti, f, hqa⟩ := qu_at hq hqn h1 h2 (show L.length - 1 ≤ 4095 by omega)
            refine go (QuY L f ti) 0 ?_ (Or.inr (Or.inr (Or.inr (Or.inr ⟨hb, h1, h2, by omega, rfl, p, ti, f, hqa, fun y h => h⟩))))
            rintro a b ⟨A, pa, sa, rfl⟩ ⟨B, pb, sb, rfl⟩
            have hlA := pa.length_eq
            have hlB := pb.length_eq
            have hle := hqa.le
            refine quV_same (by omega) (fun x hx => hL x (pa.mem_iff.1 hx)) (fun x hx => hL x (pb.mem_iff.1 hx)) hqa.flt (sorted_same (pa.trans pb.symm) sa sb (by omega)) (fun hne => sorted_same (pa.trans pb.symm) sa sb (by omega))
        · exact go (fun y => y = 0) 5 zu (Or.inr (Or.inr (Or.inl ⟨hb, h1, h2, rfl, rfl⟩)))
      · exact go (fun y => y = 0) 5 zu (Or.inr (Or.inl ⟨hb, h1, rfl, rfl⟩))
    · exact go (fun y => y = 0) 4 zu (Or.inl ⟨hb, rfl, rfl⟩)
end Go.Proofs.Ytecbbdbeihiioaa
