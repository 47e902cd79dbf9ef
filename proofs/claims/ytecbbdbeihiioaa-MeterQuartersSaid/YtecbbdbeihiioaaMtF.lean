/- Contract of meter.Add. -/
import Derived.Test.YtecbbdbeihiioaaMtE
import Derived.BigRegion
import Derived.Deep.RegionWith
namespace Go.Proofs.Ytecbbdbeihiioaa
open Go.RowKit
set_option linter.unusedVariables false

attribute [local go_sem] run_store_float'

/-- With one number more. -/
def mtMe (m : Mt) (x : Nat) : Nat := fA .add m.Me (fA .quo (fA .sub x m.Me) (floatOfInt .f64 (wrap64 (m.N + 1))))
def addM (m : Mt) (x : Nat) : Mt :=
  if 9218868437227405312 < rg x then { m with Bad := wrap64 (m.Bad + 1) } else
  ⟨wrap64 (m.N + 1), m.Bad, fA .add m.S x, if finA m.S x = true then fA .add m.L (lossA m.S x) else m.L, leastW m.Lo x, mostW m.Hi x, mtMe m x, fA .add m.Sp (fA .mul (fA .sub x m.Me) (fA .sub x (mtMe m x)))⟩

set_option maxRecDepth 100000 in
set_option maxHeartbeats 4000000 in
theorem add_nan (m : Mt) (x : Nat) (w : World) (hx : x < 18446744073709551616) (hn : 9218868437227405312 < rg x) (hm : m.Ok) :
    Calls Try.prog 27 #[mtV m, .float .f64 x] w (MtRes w (addM m x)) := by
  have hA : addM m x = { m with Bad := wrap64 (m.Bad + 1) } := by unfold addM; rw [if_pos hn]
  rw [hA]
  have Kn := Lib.hid (fun v => isnan_any x v hx)
  rw [decide_eq_true hn] at Kn
  obtain ⟨N, Bad, S, L, Lo, Hi, Me, Sp⟩ := m
  have HM := Lib.hid hm
  clear hm hA hn hx
  unfold mtV
  go_enter Try.func27, Try.ntmps27
  go_wp2_with (go_at_call 36; (with_reducible refine (Kn.out _).mono ?_); rintro e w' ⟨rfl, rfl⟩)
  exact bodyPost_ret (v := .agg #[.int .i64 N, .int .i64 (wrap64 (Bad + 1)), .float .f64 S, .float .f64 L, .float .f64 Lo, .float .f64 Hi, .float .f64 Me, .float .f64 Sp]) (by simp [results, Try.results27, go_sem]) rfl ⟨⟨N, wrap64 (Bad + 1), S, L, Lo, Hi, Me, Sp⟩, rfl, mtSim.refl _, HM.out, by repeat (first | exact Below.refl _ _ | (refine Below.setCell ?_ (by first | (simp; done) | (simp; omega)) _) | (refine Below.alloc ?_ (by first | (simp; done) | (simp; omega)) _))⟩

theorem leastW_lt {a b : Nat} (ha : a < 18446744073709551616) (hb : b < 18446744073709551616) : leastW a b < 18446744073709551616 := by unfold leastW; split <;> omega
theorem mostW_lt {a b : Nat} (ha : a < 18446744073709551616) (hb : b < 18446744073709551616) : mostW a b < 18446744073709551616 := by unfold mostW; split <;> omega

/-- The results of a number's walk are what addM says. -/
theorem add_end {N Bad : Int} {S L Lo Hi Me Sp x M1 s l c2 c3 c4 c5 c6 c7 : Nat} (hm : (⟨N, Bad, S, L, Lo, Hi, Me, Sp⟩ : Mt).Ok) (hx : x < 18446744073709551616)
    (hs : nfW s = fA .add S x) (hM : M1 = fA .add Me (fA .quo (fA .sub x Me) (floatOfInt .f64 (wrap64 (N + 1)))))
    (b2 : c2 < 18446744073709551616) (b3 : c3 < 18446744073709551616) (b4 : c4 < 18446744073709551616) (b5 : c5 < 18446744073709551616) (b6 : c6 < 18446744073709551616)
    (h2 : nfW c2 = fA .sub x Me) (h3 : nfW c3 = fA .quo c2 (floatOfInt .f64 (wrap64 (N + 1)))) (h4 : nfW c4 = fA .add Me c3) (h5 : nfW c5 = fA .sub x c4) (h6 : nfW c6 = fA .mul c2 c5) (h7 : nfW c7 = fA .add Sp c6) :
    mtSim ⟨wrap64 (N + 1), Bad, s, l, leastW Lo x, mostW Hi x, c4, c7⟩ ⟨wrap64 (N + 1), Bad, fA .add S x, l, leastW Lo x, mostW Hi x, M1, fA .add Sp (fA .mul (fA .sub x Me) (fA .sub x M1))⟩ ∧
      (s < 18446744073709551616 → l < 18446744073709551616 → c7 < 18446744073709551616 → (⟨wrap64 (N + 1), Bad, s, l, leastW Lo x, mostW Hi x, c4, c7⟩ : Mt).Ok) := by
  obtain ⟨m1, m2, m3, m4, m5, m6⟩ := hm
  have e4 : nfW c4 = M1 := by rw [h4, ← fA_right op_add b3, h3, ← fA_left op_quo b2, h2, hM]
  refine ⟨⟨rfl, rfl, ?_, rfl, rfl, rfl, ?_, ?_⟩, fun bs bl b7 => ⟨bs, bl, leastW_lt m3 hx, mostW_lt m4 hx, b4, b7⟩⟩
  · show nfW s = nfW (fA .add S x)
    rw [hs, fA_canon op_add]
  · show nfW c4 = nfW M1
    rw [← e4, nfW_idem]
  · show nfW c7 = nfW (fA .add Sp (fA .mul (fA .sub x Me) (fA .sub x M1)))
    rw [fA_canon op_add, h7, ← fA_right op_add b6, h6, ← fA_left op_mul b2, ← fA_right (x := nfW c2) op_mul b5, h2, h5, ← fA_right (x := x) op_sub b4, e4]

theorem mtSim_L {N Bad : Int} {S L L' Lo Hi Me Sp : Nat} {m : Mt} (h : mtSim m ⟨N, Bad, S, L, Lo, Hi, Me, Sp⟩) (hl : nfW L = nfW L') : mtSim m ⟨N, Bad, S, L', Lo, Hi, Me, Sp⟩ :=
  ⟨h.1, h.2.1, h.2.2.1, h.2.2.2.1.trans hl, h.2.2.2.2.1, h.2.2.2.2.2.1, h.2.2.2.2.2.2.1, h.2.2.2.2.2.2.2⟩

set_option maxRecDepth 100000 in
set_option maxHeartbeats 8000000 in
theorem add_num (m : Mt) (x : Nat) (w : World) (hx : x < 18446744073709551616) (hn : ¬ 9218868437227405312 < rg x) (hm : m.Ok) :
    Calls Try.prog 27 #[mtV m, .float .f64 x] w (MtRes w (addM m x)) := by
  have Kn := Lib.hid (fun v => isnan_any x v hx)
  rw [decide_eq_false hn] at Kn
  have Ks := Lib.hid (fun v => sum_any m.S x v hm.1 hx)
  have Kl := Lib.hid (fun v => least_any m.Lo x v hm.2.2.1 hx)
  have Kh := Lib.hid (fun v => most_any m.Hi x v hm.2.2.2.1 hx)
  obtain ⟨N, Bad, S, L, Lo, Hi, Me, Sp⟩ := m
  have HM := Lib.hid hm
  have HX := Lib.hid hx
  have HA : Hid (addM ⟨N, Bad, S, L, Lo, Hi, Me, Sp⟩ x = ⟨wrap64 (N + 1), Bad, fA .add S x, if finA S x = true then fA .add L (lossA S x) else L, leastW Lo x, mostW Hi x, mtMe ⟨N, Bad, S, L, Lo, Hi, Me, Sp⟩ x, fA .add Sp (fA .mul (fA .sub x Me) (fA .sub x (mtMe ⟨N, Bad, S, L, Lo, Hi, Me, Sp⟩ x)))⟩) := Lib.hid (by unfold addM; rw [if_neg hn])
  have HMe : Hid (mtMe ⟨N, Bad, S, L, Lo, Hi, Me, Sp⟩ x = fA .add Me (fA .quo (fA .sub x Me) (floatOfInt .f64 (wrap64 (N + 1))))) := Lib.hid rfl
  clear hm hn hx
  simp only at Ks Kl Kh
  generalize addM ⟨N, Bad, S, L, Lo, Hi, Me, Sp⟩ x = R at *
  generalize mtMe ⟨N, Bad, S, L, Lo, Hi, Me, Sp⟩ x = M1 at *
  unfold mtV
  go_enter Try.func27, Try.ntmps27
  go_wp2_with (go_at_call 36; (with_reducible refine (Kn.out _).mono ?_); rintro e w' ⟨rfl, rfl⟩)
  with_reducible refine (Ks.out _).mono ?_
  rintro e w1 ⟨s, l, n1, rfl, hs, hl, bs, bl, rfl⟩
  have Hs := Lib.hid hs; have Hl := Lib.hid hl; have Bs := Lib.hid bs; have Bl := Lib.hid bl
  clear hs hl bs bl
  have Hend := Lib.hid (fun s l c2 c3 c4 c5 c6 c7 => @add_end N Bad S L Lo Hi Me Sp x M1 s l c2 c3 c4 c5 c6 c7 HM.out HX.out)
  have Hend := Lib.hid (fun s l c2 c3 c4 c5 c6 c7 => @add_end N Bad S L Lo Hi Me Sp x M1 s l c2 c3 c4 c5 c6 c7 HM.out HX.out)
  cases hF : finA S x
  · have HF := Lib.hid hF
    clear hF
    go_wp2_with fail
    go_region_with (first | (go_at_call 50; (with_reducible refine (Kl.out _).mono ?_); rintro e w' ⟨rfl, rfl⟩) | (go_at_call 51; (with_reducible refine (Kh.out _).mono ?_); rintro e w' ⟨rfl, rfl⟩))
    all_goals
      go_wp2_with fail
      refine arith_upon op_sub ?_
      rintro c2 n2 hc hb
      have Hc2 := Lib.hid hc; have Hb2 := Lib.hid hb; clear hc hb
      go_wp2_with fail
      refine arith_upon op_quo ?_
      rintro c3 n3 hc hb
      have Hc3 := Lib.hid hc; have Hb3 := Lib.hid hb; clear hc hb
      go_wp2_with fail
      refine arith_upon op_add ?_
      rintro c4 n4 hc hb
      have Hc4 := Lib.hid hc; have Hb4 := Lib.hid hb; clear hc hb
      go_wp2_with fail
      refine arith_upon op_sub ?_
      rintro c5 n5 hc hb
      have Hc5 := Lib.hid hc; have Hb5 := Lib.hid hb; clear hc hb
      go_wp2_with fail
      refine arith_upon op_mul ?_
      rintro c6 n6 hc hb
      have Hc6 := Lib.hid hc; have Hb6 := Lib.hid hb; clear hc hb
      go_wp2_with fail
      refine arith_upon op_add ?_
      rintro c7 n7 hc hb
      have Hc7 := Lib.hid hc; have Hb7 := Lib.hid hb; clear hc hb
      go_wp2_with fail
      exact bodyPost_ret (v := .agg #[.int .i64 (wrap64 (N + 1)), .int .i64 Bad, .float .f64 s, .float .f64 L, .float .f64 (leastW Lo x), .float .f64 (mostW Hi x), .float .f64 c4, .float .f64 c7]) (by simp [results, Try.results27, go_sem]) rfl ⟨⟨wrap64 (N + 1), Bad, s, L, leastW Lo x, mostW Hi x, c4, c7⟩, rfl, (by rw [HA.out, if_neg (by rw [HF.out]; decide)]; exact (Hend.out s L c2 c3 c4 c5 c6 c7 Hs.out HMe.out Hb2.out Hb3.out Hb4.out Hb5.out Hb6.out Hc2.out Hc3.out Hc4.out Hc5.out Hc6.out Hc7.out).1), ((Hend.out s L c2 c3 c4 c5 c6 c7 Hs.out HMe.out Hb2.out Hb3.out Hb4.out Hb5.out Hb6.out Hc2.out Hc3.out Hc4.out Hc5.out Hc6.out Hc7.out).2 Bs.out HM.out.2.1 Hb7.out), by repeat (first | (with_reducible refine below_drewN ?_ _) | (with_reducible refine Below.setCell ?_ (by first | (simp; done) | (simp; omega)) _) | (with_reducible refine Below.alloc ?_ (by first | (simp; done) | (simp; omega)) _) | with_reducible exact Below.refl _ _)⟩
  · have HF := Lib.hid hF
    clear hF
    go_wp2_with fail
    refine arith_upon op_add ?_
    rintro c1 n2 hc hb
    have hc' : nfW c1 = fA .add L (lossA S x) := by rw [hc, ← fA_right op_add Bl.out, Hl.out]
    have Hc1 := Lib.hid hc'; have Hb1 := Lib.hid hb; clear hc hb hc'
    go_wp2_with fail
    go_region_with (first | (go_at_call 50; (with_reducible refine (Kl.out _).mono ?_); rintro e w' ⟨rfl, rfl⟩) | (go_at_call 51; (with_reducible refine (Kh.out _).mono ?_); rintro e w' ⟨rfl, rfl⟩))
    all_goals
      go_wp2_with fail
      refine arith_upon op_sub ?_
      rintro c2 n2 hc hb
      have Hc2 := Lib.hid hc; have Hb2 := Lib.hid hb; clear hc hb
      go_wp2_with fail
      refine arith_upon op_quo ?_
      rintro c3 n3 hc hb
      have Hc3 := Lib.hid hc; have Hb3 := Lib.hid hb; clear hc hb
      go_wp2_with fail
      refine arith_upon op_add ?_
      rintro c4 n4 hc hb
      have Hc4 := Lib.hid hc; have Hb4 := Lib.hid hb; clear hc hb
      go_wp2_with fail
      refine arith_upon op_sub ?_
      rintro c5 n5 hc hb
      have Hc5 := Lib.hid hc; have Hb5 := Lib.hid hb; clear hc hb
      go_wp2_with fail
      refine arith_upon op_mul ?_
      rintro c6 n6 hc hb
      have Hc6 := Lib.hid hc; have Hb6 := Lib.hid hb; clear hc hb
      go_wp2_with fail
      refine arith_upon op_add ?_
      rintro c7 n7 hc hb
      have Hc7 := Lib.hid hc; have Hb7 := Lib.hid hb; clear hc hb
      go_wp2_with fail
      exact bodyPost_ret (v := .agg #[.int .i64 (wrap64 (N + 1)), .int .i64 Bad, .float .f64 s, .float .f64 c1, .float .f64 (leastW Lo x), .float .f64 (mostW Hi x), .float .f64 c4, .float .f64 c7]) (by simp [results, Try.results27, go_sem]) rfl ⟨⟨wrap64 (N + 1), Bad, s, c1, leastW Lo x, mostW Hi x, c4, c7⟩, rfl, (by rw [HA.out, if_pos HF.out]; exact mtSim_L ((Hend.out s c1 c2 c3 c4 c5 c6 c7 Hs.out HMe.out Hb2.out Hb3.out Hb4.out Hb5.out Hb6.out Hc2.out Hc3.out Hc4.out Hc5.out Hc6.out Hc7.out).1) (by rw [Hc1.out, fA_canon op_add])), ((Hend.out s c1 c2 c3 c4 c5 c6 c7 Hs.out HMe.out Hb2.out Hb3.out Hb4.out Hb5.out Hb6.out Hc2.out Hc3.out Hc4.out Hc5.out Hc6.out Hc7.out).2 Bs.out Hb1.out Hb7.out), by repeat (first | (with_reducible refine below_drewN ?_ _) | (with_reducible refine Below.setCell ?_ (by first | (simp; done) | (simp; omega)) _) | (with_reducible refine Below.alloc ?_ (by first | (simp; done) | (simp; omega)) _) | with_reducible exact Below.refl _ _)⟩
end Go.Proofs.Ytecbbdbeihiioaa
