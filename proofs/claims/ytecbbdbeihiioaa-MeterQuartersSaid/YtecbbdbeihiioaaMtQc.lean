/- Contract of spigotref08.DocQuantile. -/
import Derived.Test.YtecbbdbeihiioaaMtQb
import Derived.Test.YtecbbdbeihiioaaMtQp
import Derived.Deep.RegionWith
namespace Go.Proofs.Ytecbbdbeihiioaa
open Go.RowKit
set_option linter.unusedVariables false

attribute [local go_sem] run_store_float'

/-- A float of which Y holds, up to a NaN's bits, and an error. -/
def QuP (w : World) (Y : Nat → Prop) (f : Int) (e : Ending) (w' : World) : Prop := ∃ c, e = .returned (.tuple #[.float .f64 c, .int .i64 f]) ∧ Y (nfW c) ∧ c < 18446744073709551616 ∧ Below w.heap.size w w'
def isN (x : Nat) : Bool := decide (9218868437227405312 < rg x)
def badK (q : Nat) (L : List Nat) (k : Nat) : Bool := isN q || (L.take k).any isN
theorem badK_succ {q : Nat} {L : List Nat} {k : Nat} (h : k < L.length) : badK q L (k + 1) = (badK q L k || isN (L.getD k 0)) := by
  unfold badK
  rw [take_snocF h, List.any_append]
  simp [Bool.or_assoc]
/-- What the quantile of L is. -/
def QuY (L : List Nat) (f ti : Nat) (y : Nat) : Prop := ∃ L' : List Nat, L'.Perm L ∧ Sorted L' ∧ y = quV L' f ti

set_option maxRecDepth 100000 in
set_option maxHeartbeats 16000000 in
theorem docq_core (v : Value) (L : List Nat) (q : Nat) (w : World) (lt gt : Bool) (Y : Nat → Prop) (e : Int) (h : FlAt w v L) (hl4 : L.length ≤ 4096) (hq : q < 18446744073709551616)
    (h1 : (FloatKind.f64.format.order q 0 == some .lt) = lt) (h2 : (FloatKind.f64.format.order q 4607182418800017408 == some .gt) = gt)
    (hcs : (badK q L L.length = true ∧ e = 4 ∧ Y 0) ∨ (badK q L L.length = false ∧ lt = true ∧ e = 5 ∧ Y 0) ∨ (badK q L L.length = false ∧ lt = false ∧ gt = true ∧ e = 5 ∧ Y 0) ∨ (badK q L L.length = false ∧ lt = false ∧ gt = false ∧ L.length = 0 ∧ e = 7 ∧ Y 0) ∨
      (badK q L L.length = false ∧ lt = false ∧ gt = false ∧ 0 < L.length ∧ e = 0 ∧ ∃ p ti f, QuAt q p ti f (L.length - 1) ∧ ∀ y, QuY L f ti y → Y y)) :
    Calls Try.prog 21 #[v, .float .f64 q] w (QuP w Y e) := by
  have Hfl := Lib.hid h
  obtain ⟨h0, a, c, rfl, hl, hc, hr⟩ := h
  unfold maxLen at hc
  have Hr := Lib.hid hr
  have Hcs := Lib.hid hcs
  clear hr h0 hcs
  have Kn := Lib.hid (fun x v => nan_ref x v)
  have Ks := Lib.hid (fun v w h => sorted_any v L w h hl4)
  have hll : (L.length : Int) ≤ 4096 := by omega
  have H0 : Hid (nfW 0 = 0) := Lib.hid (by decide +kernel)
  have Kq := Lib.hid (fun v => Kn.out q v)
  obtain ⟨b0, hb0⟩ : ∃ b, b = badK q L 0 := ⟨_, rfl⟩
  have Kq' : Hid (∀ v, Calls Try.prog 37 #[.float .f64 q] v fun e w' => e = .returned (.bool b0) ∧ v = w') := Lib.hid (fun v => by
    have : b0 = decide (9218868437227405312 < rg q) := by rw [hb0]; unfold badK isN; simp
    rw [this]; exact Kq.out v)
  have HB0 := Lib.hid hb0
  clear hb0 Kq
  go_enter Try.func21, Try.ntmps21
  go_wp2_with (go_at_call 37; (with_reducible refine (Kq'.out _).mono ?_); rintro e w' ⟨rfl, rfl⟩)
  go_loopw [6, 8, 22] (fun v6 _ i wr => ∃ k : Nat, i = .int .i64 k ∧ k ≤ L.length ∧ v6 = .bool (badK q L k) ∧ Below w.heap.size w wr) (fun _ _ i _ => L.length - (intOf i).toNat)
  case atStart => exact ⟨0, rfl, Nat.zero_le _, by rw [HB0.out], Below.refl _ _⟩
  case round =>
    obtain ⟨k, rfl, hk, rfl, hbel⟩ := hrel
    have Hbel := Lib.hid hbel
    clear hbel HB0 Kq'
    by_cases hA : k < L.length
    · obtain ⟨b, off, rfl, hcell⟩ := Hr.out (by omega)
      have hc0 := cell_later Hbel.out (hcell k hA)
      have hlt := World.block_lt_of_cell? _ _ hc0
      clear hcell
      have Hsn := Lib.hid (badK_succ (q := q) hA)
      generalize L.getD k 0 = x at *
      have Kx := Lib.hid (fun v => (Kn.out x v))
      obtain ⟨n, hn⟩ : ∃ n, n = isN x := ⟨_, rfl⟩
      have Kx' : Hid (∀ v, Calls Try.prog 37 #[.float .f64 x] v fun e w' => e = .returned (.bool n) ∧ v = w') := Lib.hid (fun v => by rw [hn]; exact Kx.out v)
      rw [← hn] at Hsn
      clear hn Kx
      generalize badK q L k = B at *
      cases B
      all_goals
        go_wp2_with (go_at_call 37; (with_reducible refine (Kx'.out _).mono ?_); rintro e w' ⟨rfl, rfl⟩)
        go_roundw
        case rel => exact ⟨k + 1, by go_num, by omega, by rw [Hsn.out]; simp, Hbel.out⟩
        case measure => simp [intOf]; omega
    · obtain rfl : k = L.length := by omega
      generalize badK q L L.length = B at *
      rcases Hcs.out with ⟨rfl, rfl, hy⟩ | ⟨rfl, rfl, rfl, hy⟩ | ⟨rfl, rfl, rfl, rfl, hy⟩ | ⟨rfl, rfl, rfl, hl0, rfl, hy⟩ | ⟨rfl, rfl, rfl, hl0, rfl, p, ti, f, hqa, hy⟩
      · have Hy := Lib.hid hy
        clear hy Hcs
        go_wp2
        go_ret2
        exact ⟨0, rfl, by rw [H0.out]; exact Hy.out, by decide, Hbel.out⟩
      · have Hy := Lib.hid hy
        clear hy Hcs
        go_wp2
        go_ret2
        exact ⟨0, rfl, by rw [H0.out]; exact Hy.out, by decide, Hbel.out⟩
      · have Hy := Lib.hid hy
        clear hy Hcs
        go_wp2
        go_ret2
        exact ⟨0, rfl, by rw [H0.out]; exact Hy.out, by decide, Hbel.out⟩
      · have Hy := Lib.hid hy
        clear hy Hcs
        have hz : ((L.length : Int) == 0) = true := by rw [hl0]; rfl
        go_wp2
        go_ret2
        exact ⟨0, rfl, by rw [H0.out]; exact Hy.out, by decide, Hbel.out⟩
      · have Hy := Lib.hid hy
        have Hqa := Lib.hid hqa
        have hz : ((L.length : Int) == 0) = false := beq_eq_false_iff_ne.2 (by omega)
        clear hy Hcs hqa
        go_wp2_with fail
        refine (Ks.out _ _ (Hfl.out.later Hbel.out)).mono ?_
        rintro e w2 ⟨v', L', rfl, hown, hperm, hsort, hb2⟩
        have Hb2 := Lib.hid (Hbel.out.trans (hb2.mono Hbel.out.size))
        obtain ⟨n, hn⟩ : ∃ n, L.length = n + 1 := ⟨L.length - 1, by omega⟩
        have hln : L'.length = n + 1 := by rw [hperm.length_eq]; exact hn
        rw [show L.length - 1 = n by omega] at Hqa
        have hown' : w2.ownsRow wr.heap.size 26 1 v' (n + 1) (flatF L') := by
          have := hown
          unfold OwnF at this
          rwa [hln] at this
        obtain ⟨a', c', rfl, hnc, hcm, hr'⟩ := own_shapeF hown'
        obtain ⟨g, rfl, -, -, hg⟩ := hr' (by omega)
        have Hcell := Lib.hid (show ∀ j, j < n + 1 → w2.cell? ⟨g, j, none⟩ = some (.float .f64 (L'.getD j 0)) from fun j hj => (hown'.cellAt j (by omega)).trans (flatF_get L' j (by omega)))
        have Hln := Lib.hid hln
        have Hperm := Lib.hid hperm; have Hsort := Lib.hid hsort
        have Hw' : Hid (∀ x ∈ L', x < 18446744073709551616) := Lib.hid (fun x hx => Hfl.out.1 x (hperm.mem_iff.1 hx))
        unfold maxLen at hcm
        have hn4 : n ≤ 4095 := by omega
        clear hb2 hown hown' hr' hperm hsort hln Ks Kn
        have hx0 := getD_lt Hw'.out ti
        have hx1 := getD_lt Hw'.out (ti + 1)
        have HX0 := Lib.hid hx0
        have Ksm := Lib.hid (fun u => rsame_any (L'.getD ti 0) (L'.getD (ti + 1) 0) u)
        have Hfin : Hid (∀ c, c < 18446744073709551616 → nfW c = quV L' f ti → ∀ k, QuP w Y 0 (.returned (.tuple #[.float .f64 c, .int .i64 0])) (w2.drewN k)) :=
          Lib.hid (fun c hc hn k => ⟨c, rfl, Hy.out _ ⟨L', Hperm.out, Hsort.out, hn⟩, hc, below_drewN Hb2.out k⟩)
        have Hlo : Hid ((FloatKind.f64.format.order f 0 == some .eq) = true ∨ ti = L'.length - 1 ∨ rk (L'.getD ti 0) = rk (L'.getD (ti + 1) 0) → nfW (L'.getD ti 0) = quV L' f ti) :=
          Lib.hid (fun h => by unfold quV; rw [if_pos h])
        have Hhi : Hid (¬ ((FloatKind.f64.format.order f 0 == some .eq) = true ∨ ti = L'.length - 1 ∨ rk (L'.getD ti 0) = rk (L'.getD (ti + 1) 0)) → quV L' f ti = fA .add (L'.getD ti 0) (fA .mul f (fA .sub (L'.getD (ti + 1) 0) (L'.getD ti 0)))) :=
          Lib.hid (fun h => by unfold quV; rw [if_neg h])
        clear hx0 hx1
        obtain ⟨fn, hfn⟩ : ∃ fn, floatOfInt .f64 (n : Int) = fn := ⟨_, rfl⟩
        obtain ⟨fi, hfi⟩ : ∃ fi, floatOfInt .f64 (ti : Int) = fi := ⟨_, rfl⟩
        have hm := fun u => run_float_arith (P := Try.prog) u .mul 26 .f64 q fn p (by rw [← hfn]; exact Hqa.out.mul)
        have hs := fun u => run_float_arith (P := Try.prog) u .sub 26 .f64 p fi f (by rw [← hfi]; exact Hqa.out.sub)
        have hle := Hqa.out.le
        have Hcmp := Lib.hid Hqa.out.cmp
        go_wp2_with fail
        go_loop [12] (fun v12 => ∃ j : Nat, v12 = .int .i64 j ∧ j ≤ ti) (fun v12 => ti - (intOf v12).toNat)
        case atStart => exact ⟨0, rfl, Nat.zero_le _⟩
        case round =>
          obtain ⟨j, rfl, hj⟩ := hrel
          by_cases hjn : j < n
          · obtain ⟨fj, hfj⟩ : ∃ fj, floatOfInt .f64 ((j : Int) + 1) = fj := ⟨_, rfl⟩
            have hcc := Hcmp.out (j + 1) (by omega)
            rw [show FI ((j + 1 : Nat) : Int) = fj by rw [← hfj]; unfold FI; push_cast; rfl] at hcc
            rcases hcc with ⟨hle2, d1 | ⟨d1, d2⟩⟩ | ⟨hlt2, d1, d2⟩
            · go_wp2
              go_round
              case rel => exact ⟨j + 1, by go_num, by omega⟩
              case measure => simp [intOf]; omega
            · go_wp2
              go_round
              case rel => exact ⟨j + 1, by go_num, by omega⟩
              case measure => simp [intOf]; omega
            · obtain rfl : j = ti := by omega
              have hci := Hcell.out j (by omega)
              have hti1 : (j : Int) < (n : Int) + 1 := by omega
              by_cases c1 : (FloatKind.f64.format.order f 0 == some .eq) = true
              · have Hyes := Lib.hid (Hlo.out (Or.inl c1))
                clear Hlo Hhi Hcell Hqa
                generalize L'.getD j 0 = x0 at *
                go_wp2_with fail
                go_quiet (fail)
                all_goals
                  go_wp2
                  go_ret2
                  exact Hfin.out _ HX0.out Hyes.out _
              · have c1' : (FloatKind.f64.format.order f 0 == some .eq) = false := by simpa using c1
                by_cases c2 : j = n
                · have Hyes := Lib.hid (Hlo.out (Or.inr (Or.inl (by rw [Hln.out]; omega))))
                  have c3 : ((j : Int) == (n : Int)) = true := beq_iff_eq.2 (by omega)
                  clear Hlo Hhi Hcell c1 c2 Hqa
                  generalize L'.getD j 0 = x0 at *
                  go_wp2_with fail
                  go_quiet (fail)
                  all_goals
                    go_wp2
                    go_ret2
                    exact Hfin.out _ HX0.out Hyes.out _
                · have c3 : ((j : Int) == (n : Int)) = false := beq_eq_false_iff_ne.2 (by omega)
                  have hc1 := Hcell.out (j + 1) (by omega)
                  have c4 : (j : Int) + 1 < (n : Int) + 1 := by omega
                  cases hsm : (rk (L'.getD j 0) == rk (L'.getD (j + 1) 0))
                  · have hne : ¬ rk (L'.getD j 0) = rk (L'.getD (j + 1) 0) := by simpa using hsm
                    have Hno := Lib.hid (Hhi.out (by rintro (h | h | h); exact c1 h; rw [Hln.out] at h; omega; exact hne h))
                    rw [hsm] at Ksm
                    clear Hlo Hhi Hcell c1 c2 hsm hne Hqa
                    generalize L'.getD j 0 = x0 at *
                    generalize L'.getD (j + 1) 0 = x1 at *
                    go_wp2_with fail
                    go_quiet ((go_at_call 15; with_reducible exact quiet_left (Ksm.out _)))
                    all_goals
                      go_upto_region 24 with (fail)
                      have hw1 : IntKind.i64.wrap ((j : Int) + 1) = (j : Int) + 1 := by simp [IntKind.wrap, IntKind.bits, IntKind.signed]; omega
                      have hw2 : 0 ≤ (j : Int) + 1 := by omega
                      have hw3 : ((j : Int) + 1).toNat = j + 1 := by omega
                      go_region_with (refine arith_upon op_sub ?_; rintro d1 k1 hd1 hb1; have Hd1 := Lib.hid hd1; have Hb1 := Lib.hid hb1; clear hd1 hb1)
                      all_goals
                        clear hw1 hw2 hw3
                        go_wp2_with fail
                        refine arith_upon op_mul ?_
                        rintro d2 k2 hd2 hb2
                        have Hd2 := Lib.hid hd2; have Hb2' := Lib.hid hb2; clear hd2 hb2
                        go_wp2_with fail
                        refine arith_upon op_add ?_
                        rintro d3 k3 hd3 hb3
                        have Hd3 := Lib.hid hd3; have Hb3' := Lib.hid hb3; clear hd3 hb3
                        go_wp2
                        go_ret2
                        exact Hfin.out d3 Hb3'.out (by rw [Hno.out, Hd3.out, ← fA_right op_add Hb2'.out, Hd2.out, ← fA_right op_mul Hb1.out, Hd1.out]) _
                  · have Hyes := Lib.hid (Hlo.out (Or.inr (Or.inr (by simpa using hsm))))
                    rw [hsm] at Ksm
                    clear Hlo Hhi Hcell c1 c2 hsm Hqa
                    generalize L'.getD j 0 = x0 at *
                    generalize L'.getD (j + 1) 0 = x1 at *
                    go_wp2_with fail
                    go_quiet ((go_at_call 15; with_reducible exact quiet_left (Ksm.out _)))
                    all_goals
                      go_wp2
                      go_ret2
                      exact Hfin.out _ HX0.out Hyes.out _
          · obtain rfl : j = n := by omega
            obtain rfl : ti = j := by omega
            have hci := Hcell.out ti (by omega)
            have hti1 : (ti : Int) < (ti : Int) + 1 := by omega
            by_cases c1 : (FloatKind.f64.format.order f 0 == some .eq) = true
            · have Hyes := Lib.hid (Hlo.out (Or.inl c1))
              clear Hlo Hhi Hcell Hqa
              generalize L'.getD ti 0 = x0 at *
              go_wp2_with fail
              go_quiet (fail)
              all_goals
                go_wp2
                go_ret2
                exact Hfin.out _ HX0.out Hyes.out _
            · have c1' : (FloatKind.f64.format.order f 0 == some .eq) = false := by simpa using c1
              by_cases c2 : ti = ti
              · have Hyes := Lib.hid (Hlo.out (Or.inr (Or.inl (by rw [Hln.out]; omega))))
                have c3 : ((ti : Int) == (ti : Int)) = true := beq_iff_eq.2 (by omega)
                clear Hlo Hhi Hcell c1 c2 Hqa
                generalize L'.getD ti 0 = x0 at *
                go_wp2_with fail
                go_quiet (fail)
                all_goals
                  go_wp2
                  go_ret2
                  exact Hfin.out _ HX0.out Hyes.out _
              · exact absurd rfl c2
end Go.Proofs.Ytecbbdbeihiioaa
