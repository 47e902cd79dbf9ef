/- Contract of meter.Quantile, where it answers a number. -/
import Derived.Test.YtecbbdbeihiioaaMtJ
import Derived.Test.YtecbbdbeihiioaaMtI
import Derived.Deep.QuietTactic
import Derived.BigQuiet
namespace Go.Proofs.Ytecbbdbeihiioaa
open Go.RowKit
set_option linter.unusedVariables false

/-- A quantile's value of the sorted list L'. -/
def quV (L' : List Nat) (f i : Nat) : Nat :=
  if (FloatKind.f64.format.order f 0 == some .eq) = true ∨ i = L'.length - 1 ∨ rk (L'.getD i 0) = rk (L'.getD (i + 1) 0) then nfW (L'.getD i 0)
  else fA .add (L'.getD i 0) (fA .mul f (fA .sub (L'.getD (i + 1) 0) (L'.getD i 0)))
def Sorted (L' : List Nat) : Prop := ∀ i j, i < j → j < L'.length → rk (L'.getD i 0) ≤ rk (L'.getD j 0)
def QuRes (w : World) (L : List Nat) (f i : Nat) (e : Ending) (w' : World) : Prop :=
  ∃ (L' : List Nat) (c : Nat), e = .returned (.tuple #[.float .f64 c, .int .i64 0]) ∧ L'.Perm L ∧ Sorted L' ∧ nfW c = quV L' f i ∧ c < 18446744073709551616 ∧ Below w.heap.size w w'

set_option maxRecDepth 100000 in
set_option maxHeartbeats 8000000 in
theorem quantile_good (v : Value) (L : List Nat) (q fn p ti fi f : Nat) (w : World) (h : FlAt w v L) (h1 : 0 < L.length) (h2 : L.length ≤ 4096) (hq : q < 18446744073709551616) (hqn : ¬ 9218868437227405312 < rg q)
    (hnn : (L.any fun x => decide (9218868437227405312 < rg x)) = false) (hq0 : (FloatKind.f64.format.order q 0 == some .lt) = false) (hq1 : (FloatKind.f64.format.order q 4607182418800017408 == some .gt) = false)
    (hfn : floatOfInt .f64 ((L.length : Int) - 1) = fn) (hp : floatBits .mul .f64 q fn = some p) (ht : floatToIntVal .f64 p .i64 = some (ti : Int)) (hti : ti < L.length) (hfi : floatOfInt .f64 (ti : Int) = fi) (hf : floatBits .sub .f64 p fi = some f) :
    Calls Try.prog 20 #[v, .float .f64 q] w (QuRes w L f ti) := by
  have Kn := Lib.hid (fun u => isnan_any q u hq)
  rw [decide_eq_false hqn] at Kn
  have Kc := Lib.hid (fun u (hu : FlAt u v L) => contains_any v L u hu)
  rw [hnn] at Kc
  have Kl := Lib.hid (fun u (hu : FlAt u v L) => clone_any v L u hu h1 h2)
  have H := Lib.hid h
  have H0 := Lib.hid h.1
  obtain ⟨a, c, hv, hlc, hcm⟩ : ∃ a c, v = .slice a L.length c ∧ L.length ≤ c ∧ c ≤ maxLen := by
    obtain ⟨_, a, c, hv, hl, hc, _⟩ := h
    exact ⟨a, c, hv, hl, hc⟩
  subst hv
  unfold maxLen at hcm
  have hm := fun u => run_float_arith (P := Try.prog) u .mul 26 .f64 q fn p hp
  have hs := fun u => run_float_arith (P := Try.prog) u .sub 26 .f64 p fi f hf
  have hcv := fun u => run_convert_float_int (P := Try.prog) u 26 3 .f64 .i64 p (ti : Int) (by rw [Try.underlying26]; rfl) Try.underlying3 ht
  have g1 : (L.length : Int) ≤ 4096 := by omega
  have g2 : ((L.length : Int) == 0) = false := beq_eq_false_iff_ne.2 (by omega)
  have g3 : (ti : Int) ≤ (L.length : Int) - 1 := by omega
  have g4 : (1 : Int) ≤ (L.length : Int) := by omega
  have g5 : min (ti : Int) ((L.length : Int) - 1) = (ti : Int) := by omega
  clear h hp hf ht hnn hqn hq
  go_enter Try.func20, Try.ntmps20
  go_wp2_with (go_at_call 36; (with_reducible refine (Kn.out _).mono ?_); rintro e w' ⟨rfl, rfl⟩)
  refine (Kc.out _ H.out).mono ?_
  rintro e w1 ⟨rfl, n1, rfl⟩
  go_wp2_with fail
  have HD := Lib.hid (H.out.later (below_drewN (Below.refl _ _) n1))
  refine (Kl.out _ HD.out).mono ?_
  rintro e w2 ⟨v', rfl, ⟨g, cap, rfl, hg1, hg2, hcap, hcapm, hcell⟩, hb⟩
  have Hb2 := Lib.hid ((below_drewN (Below.refl w.heap.size w) n1).trans hb)
  have Ks := Lib.hid (sort_any L g cap w2 H0.out (by omega) hg2 hcell)
  have Hg1 : Hid (w.heap.size ≤ g) := Lib.hid hg1
  have hcap' : cap ≤ 9223372036854775807 := by unfold maxLen at hcapm; omega
  clear hb hcell hcapm hg1 Kl Kc HD
  go_wp2_with fail
  refine Ks.out.mono ?_
  rintro e w3 ⟨rfl, L', hperm, hsort, hcell, hbel⟩
  have Hb3 := Lib.hid (hbel w.heap.size w Hg1.out Hb2.out)
  have hlen : L'.length = L.length := hperm.length_eq
  have Hperm := Lib.hid hperm
  have Hsort : Hid (Sorted L') := Lib.hid (fun i j hij hj => hsort i j hij (by omega))
  have Hw' : Hid (∀ x ∈ L', x < 18446744073709551616) := Lib.hid (fun x hx => H0.out x (hperm.mem_iff.1 hx))
  have Hcell := Lib.hid hcell
  have hci := hcell ti hti
  have Hlen := Lib.hid hlen
  have hx0 := getD_lt Hw'.out ti
  have hx1 := getD_lt Hw'.out (ti + 1)
  have HX0 := Lib.hid hx0
  have HX1 := Lib.hid hx1
  have Ksm := Lib.hid (fun u => same_any (L'.getD ti 0) (L'.getD (ti + 1) 0) u hx0 hx1)
  have hq : Hid (∀ c, c < 18446744073709551616 → nfW c = quV L' f ti → ∀ k, QuRes w L f ti (.returned (.tuple #[.float .f64 c, .int .i64 0])) (w3.drewN k)) :=
    Lib.hid (fun c hc hn k => ⟨L', c, rfl, Hperm.out, Hsort.out, hn, hc, below_drewN Hb3.out k⟩)
  have hlo : Hid ((FloatKind.f64.format.order f 0 == some .eq) = true ∨ ti = L'.length - 1 ∨ rk (L'.getD ti 0) = rk (L'.getD (ti + 1) 0) → nfW (L'.getD ti 0) = quV L' f ti) :=
    Lib.hid (fun h => by unfold quV; rw [if_pos h])
  have hhi : Hid (¬ ((FloatKind.f64.format.order f 0 == some .eq) = true ∨ ti = L'.length - 1 ∨ rk (L'.getD ti 0) = rk (L'.getD (ti + 1) 0)) → quV L' f ti = fA .add (L'.getD ti 0) (fA .mul f (fA .sub (L'.getD (ti + 1) 0) (L'.getD ti 0)))) :=
    Lib.hid (fun h => by unfold quV; rw [if_neg h])
  clear hperm hsort hbel hcell Ks hx0 hx1
  by_cases c1 : (FloatKind.f64.format.order f 0 == some .eq) = true
  · have Hyes := Lib.hid (hlo.out (Or.inl c1))
    clear hlo hhi hlen Hcell
    generalize L'.getD ti 0 = x0 at *
    go_wp2
    go_ret2
    exact hq.out _ HX0.out Hyes.out 0
  · have c1' : (FloatKind.f64.format.order f 0 == some .eq) = false := by simpa using c1
    by_cases c2 : ti = L.length - 1
    · have Hyes := Lib.hid (hlo.out (Or.inr (Or.inl (by omega))))
      have c3 : ((ti : Int) == (L.length : Int) - 1) = true := beq_iff_eq.2 (by omega)
      clear hlo hhi hlen Hcell c1 c2
      generalize L'.getD ti 0 = x0 at *
      go_wp2
      go_ret2
      exact hq.out _ HX0.out Hyes.out 0
    · have c3 : ((ti : Int) == (L.length : Int) - 1) = false := beq_eq_false_iff_ne.2 (by omega)
      have hc1 := Hcell.out (ti + 1) (by omega)
      have c4 : (ti : Int) + 1 < (L.length : Int) := by omega
      cases hsm : (rk (L'.getD ti 0) == rk (L'.getD (ti + 1) 0))
      · have hne : ¬ rk (L'.getD ti 0) = rk (L'.getD (ti + 1) 0) := by simpa using hsm
        have Hno := Lib.hid (hhi.out (by rintro (h | h | h); exact c1 h; omega; exact hne h))
        rw [hsm] at Ksm
        clear hlo hhi hlen Hcell c1 c2 hsm hne
        generalize L'.getD ti 0 = x0 at *
        generalize L'.getD (ti + 1) 0 = x1 at *
        go_wp2_with (go_at_call 44; (with_reducible refine (Ksm.out _).mono ?_); rintro e w' ⟨rfl, rfl⟩)
        refine arith_upon op_sub ?_
        rintro d1 k1 hd1 hb1
        have Hd1 := Lib.hid hd1; have Hb1 := Lib.hid hb1; clear hd1 hb1
        go_wp2_with fail
        refine arith_upon op_mul ?_
        rintro d2 k2 hd2 hb2
        have Hd2 := Lib.hid hd2; have Hb2' := Lib.hid hb2; clear hd2 hb2
        go_wp2_with fail
        refine arith_upon op_add ?_
        rintro d3 k3 hd3 hb3
        have Hd3 := Lib.hid hd3; have Hb3' := Lib.hid hb3; clear hd3 hb3
        go_wp2
        go_ret2
        exact hq.out d3 Hb3'.out (by rw [Hno.out, Hd3.out, ← fA_right op_add Hb2'.out, Hd2.out, ← fA_right op_mul Hb1.out, Hd1.out]) _
      · have Hyes := Lib.hid (hlo.out (Or.inr (Or.inr (by simpa using hsm))))
        rw [hsm] at Ksm
        clear hlo hhi hlen Hcell c1 c2 hsm
        generalize L'.getD ti 0 = x0 at *
        generalize L'.getD (ti + 1) 0 = x1 at *
        go_wp2_with (go_at_call 44; (with_reducible refine (Ksm.out _).mono ?_); rintro e w' ⟨rfl, rfl⟩)
        go_ret2
        exact hq.out _ HX0.out Hyes.out 0
end Go.Proofs.Ytecbbdbeihiioaa
