/- Contract of spigotref08.Add. Printed by gen_radd.py. -/
import Derived.Test.YtecbbdbeihiioaaMtF
namespace Go.Proofs.Ytecbbdbeihiioaa
open Go.RowKit
set_option linter.unusedVariables false

attribute [local go_sem] run_store_float'

theorem rk_most (a b : Nat) : rk (mostW a b) = rk (mostR a b) := by
  have h1 := rk_ix a
  have h2 := rk_ix b
  unfold mostW mostR
  repeat' split
  all_goals omega
theorem mostR_lt {a b : Nat} (ha : a < 18446744073709551616) (hb : b < 18446744073709551616) : mostR a b < 18446744073709551616 := by
  unfold mostR
  repeat' split
  all_goals omega
theorem mtSim_Hi {N Bad : Int} {S L Lo Hi Hi' Me Sp : Nat} {m : Mt} (h : mtSim ⟨N, Bad, S, L, Lo, Hi, Me, Sp⟩ m) (hl : nfW Hi' = nfW Hi) : mtSim ⟨N, Bad, S, L, Lo, Hi', Me, Sp⟩ m :=
  ⟨h.1, h.2.1, h.2.2.1, h.2.2.2.1, h.2.2.2.2.1, hl.trans h.2.2.2.2.2.1, h.2.2.2.2.2.2.1, h.2.2.2.2.2.2.2⟩
theorem Ok_Hi {N Bad : Int} {S L Lo Hi Hi' Me Sp : Nat} (h : (⟨N, Bad, S, L, Lo, Hi, Me, Sp⟩ : Mt).Ok) (hl : Hi' < 18446744073709551616) : (⟨N, Bad, S, L, Lo, Hi', Me, Sp⟩ : Mt).Ok :=
  ⟨h.1, h.2.1, h.2.2.1, hl, h.2.2.2.2.1, h.2.2.2.2.2⟩

set_option maxRecDepth 100000 in
set_option maxHeartbeats 4000000 in
theorem radd_nan (m : Mt) (x : Nat) (w : World) (hx : x < 18446744073709551616) (hn : 9218868437227405312 < rg x) (hm : m.Ok) :
    Calls Try.prog 28 #[mtV m, .float .f64 x] w (MtRes w (addM m x)) := by
  have hA : addM m x = { m with Bad := wrap64 (m.Bad + 1) } := by unfold addM; rw [if_pos hn]
  rw [hA]
  have Kn := Lib.hid (fun v => nan_ref x v)
  rw [decide_eq_true hn] at Kn
  obtain ⟨N, Bad, S, L, Lo, Hi, Me, Sp⟩ := m
  have HM := Lib.hid hm
  clear hm hA hn hx
  unfold mtV
  go_enter Try.func28, Try.ntmps28
  go_wp2_with (go_at_call 37; (with_reducible refine (Kn.out _).mono ?_); rintro e w' ⟨rfl, rfl⟩)
  exact bodyPost_ret (v := .agg #[.int .i64 N, .int .i64 (wrap64 (Bad + 1)), .float .f64 S, .float .f64 L, .float .f64 Lo, .float .f64 Hi, .float .f64 Me, .float .f64 Sp]) (by simp [results, Try.results28, go_sem]) rfl ⟨⟨N, wrap64 (Bad + 1), S, L, Lo, Hi, Me, Sp⟩, rfl, mtSim.refl _, HM.out, by repeat (first | (with_reducible refine below_drewN ?_ _) | (with_reducible refine Below.setCell ?_ (by first | (simp; done) | (simp; omega)) _) | (with_reducible refine Below.alloc ?_ (by first | (simp; done) | (simp; omega)) _) | with_reducible exact Below.refl _ _)⟩

theorem lost_lossA {a b s l : Nat} (hs : nfW s = fA .add a b) (hf : rg s < 9218868437227405312) (hl : nfW l = lossS a b s) : nfW l = lossA a b ∧ finA a b = true := sum_end hs hf hl

set_option maxRecDepth 100000 in
set_option maxHeartbeats 8000000 in
theorem radd_num (m : Mt) (x : Nat) (w : World) (hx : x < 18446744073709551616) (hn : ¬ 9218868437227405312 < rg x) (hm : m.Ok) :
    Calls Try.prog 28 #[mtV m, .float .f64 x] w (MtRes w (addM m x)) := by
  have Kn := Lib.hid (fun v => nan_ref x v)
  rw [decide_eq_false hn] at Kn
  have Kf := Lib.hid (fun s v => finite_ref s v)
  have Ks := Lib.hid (fun s v => lost_ref m.S x s v hm.1 hx)
  have Kl := Lib.hid (fun v => rleast_any m.Lo x v)
  have Kh := Lib.hid (fun v => rmost_any m.Hi x v)
  have hmo : nfW (mostR m.Hi x) = nfW (mostW m.Hi x) := (nfW_rk (mostR_lt hm.2.2.2.1 hx) (mostW_lt hm.2.2.2.1 hx)).2 (rk_most _ _).symm
  have HmR := Lib.hid (mostR_lt hm.2.2.2.1 hx)
  have Hmo := Lib.hid hmo
  obtain ⟨N, Bad, S, L, Lo, Hi, Me, Sp⟩ := m
  have HM := Lib.hid hm
  have HX := Lib.hid hx
  have HA : Hid (addM ⟨N, Bad, S, L, Lo, Hi, Me, Sp⟩ x = ⟨wrap64 (N + 1), Bad, fA .add S x, if finA S x = true then fA .add L (lossA S x) else L, leastW Lo x, mostW Hi x, mtMe ⟨N, Bad, S, L, Lo, Hi, Me, Sp⟩ x, fA .add Sp (fA .mul (fA .sub x Me) (fA .sub x (mtMe ⟨N, Bad, S, L, Lo, Hi, Me, Sp⟩ x)))⟩) := Lib.hid (by unfold addM; rw [if_neg hn])
  have HMe : Hid (mtMe ⟨N, Bad, S, L, Lo, Hi, Me, Sp⟩ x = fA .add Me (fA .quo (fA .sub x Me) (floatOfInt .f64 (wrap64 (N + 1))))) := Lib.hid rfl
  clear hm hn hx hmo
  simp only at Ks Kl Kh Hmo HmR
  generalize addM ⟨N, Bad, S, L, Lo, Hi, Me, Sp⟩ x = R at *
  generalize mtMe ⟨N, Bad, S, L, Lo, Hi, Me, Sp⟩ x = M1 at *
  have Hend := Lib.hid (fun s l c2 c3 c4 c5 c6 c7 => @add_end N Bad S L Lo Hi Me Sp x M1 s l c2 c3 c4 c5 c6 c7 HM.out HX.out)
  unfold mtV
  go_enter Try.func28, Try.ntmps28
  go_wp2_with (go_at_call 37; (with_reducible refine (Kn.out _).mono ?_); rintro e w' ⟨rfl, rfl⟩)
  refine arith_upon op_add ?_
  rintro c0 n0 hc hb
  have Hc0 := Lib.hid hc; have Hb0 := Lib.hid hb; clear hc hb
  skip
  by_cases hf : rg c0 < 9218868437227405312
  · have Hf := Lib.hid hf
    have Kf0 := Lib.hid (fun v => Kf.out c0 v)
    rw [decide_eq_true hf] at Kf0
    clear hf
    go_wp2_with (go_at_call 52; (with_reducible refine (Kf0.out _).mono ?_); rintro e w' ⟨rfl, rfl⟩)
    go_region_with (first | (go_at_call 53; (with_reducible refine (Ks.out _ _).mono ?_); rintro e w1 ⟨l, n1, rfl, hl, bl, rfl⟩; obtain ⟨hl2, hF⟩ := lost_lossA Hc0.out Hf.out hl; have Hl := Lib.hid hl2; have Bl := Lib.hid bl; have HF := Lib.hid hF; clear hl bl hl2 hF) | (refine arith_upon op_add ?_; rintro c1 n2 hc hb; have hc' : nfW c1 = fA .add L (lossA S x) := (by rw [hc, ← fA_right op_add Bl.out, Hl.out]); have Hc1 := Lib.hid hc'; have Hb1 := Lib.hid hb; clear hc hb hc'))
    all_goals
      go_wp2_with (first | (go_at_call 54; (with_reducible refine (Kl.out _).mono ?_); rintro e w' ⟨rfl, rfl⟩) | (go_at_call 55; (with_reducible refine (Kh.out _).mono ?_); rintro e w' ⟨rfl, rfl⟩))
      refine arith_upon op_sub ?_
      rintro c2 n2 hc hb
      have Hc2 := Lib.hid hc; have Hb2 := Lib.hid hb; clear hc hb
      go_wp2_with fail
      refine arith_upon op_quo ?_
      rintro c3 n3 hc hb
      have Hc3 := Lib.hid hc; have Hb3 := Lib.hid hb; clear hc hb
      go_wp2_with fail
      refine arith_upon op_add ?_
      rintro c4 n4 hc hb
      have Hc4 := Lib.hid hc; have Hb4 := Lib.hid hb; clear hc hb
      go_wp2_with fail
      refine arith_upon op_sub ?_
      rintro c5 n5 hc hb
      have Hc5 := Lib.hid hc; have Hb5 := Lib.hid hb; clear hc hb
      go_wp2_with fail
      refine arith_upon op_mul ?_
      rintro c6 n6 hc hb
      have Hc6 := Lib.hid hc; have Hb6 := Lib.hid hb; clear hc hb
      go_wp2_with fail
      refine arith_upon op_add ?_
      rintro c7 n7 hc hb
      have Hc7 := Lib.hid hc; have Hb7 := Lib.hid hb; clear hc hb
      go_wp2_with fail
      exact bodyPost_ret (v := .agg #[.int .i64 (wrap64 (N + 1)), .int .i64 Bad, .float .f64 c0, .float .f64 c1, .float .f64 (leastW Lo x), .float .f64 (mostR Hi x), .float .f64 c4, .float .f64 c7]) (by simp [results, Try.results28, go_sem]) rfl ⟨⟨wrap64 (N + 1), Bad, c0, c1, leastW Lo x, mostR Hi x, c4, c7⟩, rfl, mtSim_Hi (by rw [HA.out, if_pos HF.out]; exact mtSim_L ((Hend.out c0 c1 c2 c3 c4 c5 c6 c7 Hc0.out HMe.out Hb2.out Hb3.out Hb4.out Hb5.out Hb6.out Hc2.out Hc3.out Hc4.out Hc5.out Hc6.out Hc7.out).1) (by rw [Hc1.out, fA_canon op_add])) Hmo.out, Ok_Hi (((Hend.out c0 c1 c2 c3 c4 c5 c6 c7 Hc0.out HMe.out Hb2.out Hb3.out Hb4.out Hb5.out Hb6.out Hc2.out Hc3.out Hc4.out Hc5.out Hc6.out Hc7.out)).2 Hb0.out Hb1.out Hb7.out) HmR.out, by repeat (first | (with_reducible refine below_drewN ?_ _) | (with_reducible refine Below.setCell ?_ (by first | (simp; done) | (simp; omega)) _) | (with_reducible refine Below.alloc ?_ (by first | (simp; done) | (simp; omega)) _) | with_reducible exact Below.refl _ _)⟩
  · have hF := (sum_big Hc0.out hf).2
    have HF := Lib.hid hF
    have Kf0 := Lib.hid (fun v => Kf.out c0 v)
    rw [decide_eq_false hf] at Kf0
    clear hf hF
    go_wp2_with (go_at_call 52; (with_reducible refine (Kf0.out _).mono ?_); rintro e w' ⟨rfl, rfl⟩)
    go_wp2_with (first | (go_at_call 54; (with_reducible refine (Kl.out _).mono ?_); rintro e w' ⟨rfl, rfl⟩) | (go_at_call 55; (with_reducible refine (Kh.out _).mono ?_); rintro e w' ⟨rfl, rfl⟩))
    refine arith_upon op_sub ?_
    rintro c2 n2 hc hb
    have Hc2 := Lib.hid hc; have Hb2 := Lib.hid hb; clear hc hb
    go_wp2_with fail
    refine arith_upon op_quo ?_
    rintro c3 n3 hc hb
    have Hc3 := Lib.hid hc; have Hb3 := Lib.hid hb; clear hc hb
    go_wp2_with fail
    refine arith_upon op_add ?_
    rintro c4 n4 hc hb
    have Hc4 := Lib.hid hc; have Hb4 := Lib.hid hb; clear hc hb
    go_wp2_with fail
    refine arith_upon op_sub ?_
    rintro c5 n5 hc hb
    have Hc5 := Lib.hid hc; have Hb5 := Lib.hid hb; clear hc hb
    go_wp2_with fail
    refine arith_upon op_mul ?_
    rintro c6 n6 hc hb
    have Hc6 := Lib.hid hc; have Hb6 := Lib.hid hb; clear hc hb
    go_wp2_with fail
    refine arith_upon op_add ?_
    rintro c7 n7 hc hb
    have Hc7 := Lib.hid hc; have Hb7 := Lib.hid hb; clear hc hb
    go_wp2_with fail
    exact bodyPost_ret (v := .agg #[.int .i64 (wrap64 (N + 1)), .int .i64 Bad, .float .f64 c0, .float .f64 L, .float .f64 (leastW Lo x), .float .f64 (mostR Hi x), .float .f64 c4, .float .f64 c7]) (by simp [results, Try.results28, go_sem]) rfl ⟨⟨wrap64 (N + 1), Bad, c0, L, leastW Lo x, mostR Hi x, c4, c7⟩, rfl, mtSim_Hi (by rw [HA.out, if_neg (by rw [HF.out]; decide)]; exact (Hend.out c0 L c2 c3 c4 c5 c6 c7 Hc0.out HMe.out Hb2.out Hb3.out Hb4.out Hb5.out Hb6.out Hc2.out Hc3.out Hc4.out Hc5.out Hc6.out Hc7.out).1) Hmo.out, Ok_Hi (((Hend.out c0 L c2 c3 c4 c5 c6 c7 Hc0.out HMe.out Hb2.out Hb3.out Hb4.out Hb5.out Hb6.out Hc2.out Hc3.out Hc4.out Hc5.out Hc6.out Hc7.out)).2 Hb0.out HM.out.2.1 Hb7.out) HmR.out, by repeat (first | (with_reducible refine below_drewN ?_ _) | (with_reducible refine Below.setCell ?_ (by first | (simp; done) | (simp; omega)) _) | (with_reducible refine Below.alloc ?_ (by first | (simp; done) | (simp; omega)) _) | with_reducible exact Below.refl _ _)⟩

theorem add_any (m : Mt) (x : Nat) (w : World) (hx : x < 18446744073709551616) (hm : m.Ok) : Calls Try.prog 27 #[mtV m, .float .f64 x] w (MtRes w (addM m x)) := by
  by_cases h : 9218868437227405312 < rg x
  · exact add_nan m x w hx h hm
  · exact add_num m x w hx h hm
theorem radd_any (m : Mt) (x : Nat) (w : World) (hx : x < 18446744073709551616) (hm : m.Ok) : Calls Try.prog 28 #[mtV m, .float .f64 x] w (MtRes w (addM m x)) := by
  by_cases h : 9218868437227405312 < rg x
  · exact radd_nan m x w hx h hm
  · exact radd_num m x w hx h hm
end Go.Proofs.Ytecbbdbeihiioaa
