/- Contract of spigotref04.DocOf. Printed by gen_docof.py. -/
import Derived.Test.YtbpldplbkmabmaaDoorRtI
namespace Go.Proofs.YtbpldplbkmabmaaDoor
open Go.RowKit
set_option linter.unusedVariables false

set_option maxRecDepth 100000 in
set_option maxHeartbeats 16000000 in
theorem docof_core (p b z : Nat) (T tau f : Int) (w : World) (hC : rtC p b z = 0) (hTe : rtLT p b z = T) (hTu : rtLS p b z = tau) (hf : (rtE p b z : Int) = f) (kp kb : Int) (mb : Bool)
    (k1 : ∀ v, Calls Tryd.prog 34 #[.float .f64 p] v fun e w' => e = .returned (.int .i64 kp) ∧ v = w')
    (k2 : ∀ v, Calls Tryd.prog 34 #[.float .f64 b] v fun e w' => e = .returned (.int .i64 kb) ∧ v = w')
    (m1 : ∀ v, Calls Tryd.prog 36 #[.float .f64 p] v fun e w' => e = .returned (.bool false) ∧ v = w')
    (m2 : ∀ v, Calls Tryd.prog 36 #[.float .f64 b] v fun e w' => e = .returned (.bool mb) ∧ v = w')
    (g1 : (kp == 4) = false) (g2 : (kb == 4) = false) (g3 : (kp == 3) = false) (g4 : (kp == 0) = false) (g5 : (kb == 3) = false) (g6 : kb = 0 ∨ (0 < kb ∧ mb = false)) :
    Calls Tryd.prog 18 #[rateV p b z] w (OfRes w T tau f) := by
  obtain ⟨a1, a2, p0, p1, p2, b1, b2⟩ := rtC_zero hC
  have K1 := Lib.hid k1
  have K2 := Lib.hid k2
  have M1 := Lib.hid m1
  have M2 := Lib.hid m2
  have N1 := Lib.hid (fun v => number_ref p v)
  have N2 := Lib.hid (fun v => number_ref b v)
  have hMp : numM (rg p) < 18446744073709551616 := by unfold numM; split <;> omega
  have hMb : numM (rg b) < 18446744073709551616 := by unfold numM; split <;> omega
  have Kwp := Lib.hid (fun v => word_any (numM (rg p)) v hMp)
  have Kwb := Lib.hid (fun v => word_any (numM (rg b)) v hMb)
  have Kwz := Lib.hid (fun v => word_any z v (by omega))
  have Ks1 := Lib.hid (fun u v h => shift_num u (rg p) v p1 h)
  have Ks2 := Lib.hid (fun u v h => shift_num u (rg b) v b1 h)
  have hzu : z < 18446744073709551616 := by omega
  have Hzu := Lib.hid hzu
  have Hbig := Lib.hid (fun h => rt_big (p := p) (b := b) (hz := z) hC h)
  have Hwide := Lib.hid (fun h h' => rt_wide (p := p) (b := b) (hz := z) hC h h')
  have Hsome := Lib.hid (fun h h' => rt_some (p := p) (b := b) (hz := z) hC h h')
  have Hfst := Lib.hid (fun a c (ho : OverNat (rg p) a c) => rt_first (z := z) p0 ho)
  have Hnxt := Lib.hid (fun a c t (ho : OverNat (rg b) a c) (ht : t = rtT p z) => rt_next ho ht)
  have HtT : Hid (rtT p z = max (rtU p z) 1) := Lib.hid rfl
  clear p0 p1 p2 b1 b2 hC k1 k2 m1 m2 hMp hMb hzu
  rw [hTe, hTu] at Hbig Hwide Hsome
  generalize rtU p z = U at *
  generalize rtS p b z = S at *
  generalize rtT p z = T0 at *
  generalize rtE p b z = f0 at *
  subst hf
  clear hTe hTu
  generalize numM (rg p) = mp at *
  generalize numE (rg p) = ep at *
  generalize numM (rg b) = mmb at *
  generalize numE (rg b) = eb at *
  unfold rateV OfRes limV at *
  have g6' := Lib.hid g6
  clear g6
  have g7 : (kb = 0) ∨ ¬ (kb = 0) := Decidable.em _
  rcases g7 with rfl | g7
  · clear g6'
    go_enter Tryd.func18, Tryd.ntmps18
    go_wp2_with fail
    go_quiet ((first | (go_at_call 34; with_reducible exact quiet_left (K1.out _)) | (go_at_call 34; with_reducible exact quiet_left (K2.out _))))
    go_wp2_with (first | (go_at_call 34; (with_reducible refine (K1.out _).mono ?_); rintro e w' ⟨rfl, rfl⟩) | (go_at_call 34; (with_reducible refine (K2.out _).mono ?_); rintro e w' ⟨rfl, rfl⟩) | (go_at_call 36; (with_reducible refine (M1.out _).mono ?_); rintro e w' ⟨rfl, rfl⟩) | (go_at_call 36; (with_reducible refine (M2.out _).mono ?_); rintro e w' ⟨rfl, rfl⟩) | (go_at_call 57; (with_reducible refine (N1.out _).mono ?_); rintro e w' ⟨rfl, rfl⟩))
    (with_reducible refine (Kwp.out _).mono ?_)
    rintro e w1 ⟨v1, rfl, hv, hb⟩
    have Hv1 := Lib.hid hv
    have Hb1 := Lib.hid hb
    clear hv hb K1 K2 M1 M2
    obtain ⟨hc, hf⟩ := bcell Hb1.out
    go_wp2_with fail
    (with_reducible refine (Ks1.out _ _ Hv1.out).mono ?_)
    rintro e w2 ⟨va, vc, a, c, rfl, hva, hvc, ho, hb⟩
    have Hva := Lib.hid hva; have Hvc := Lib.hid hvc; have Ho := Lib.hid ho
    have Hb2 := Lib.hid (Hb1.out.trans (hb.mono Hb1.out.size))
    obtain ⟨ha0, hw1⟩ := Hfst.out a c ho
    have Ha0 := Lib.hid ha0; have Hw1 := Lib.hid hw1
    clear hva hvc ho hb hc hf Hb1 Hv1 Hfst Ks1 ha0 hw1
    obtain ⟨hc, hf⟩ := bcell Hb2.out
    go_wp2_with fail
    (with_reducible refine (Kwz.out _).mono ?_)
    rintro e w3 ⟨v3, rfl, hv, hb⟩
    have Hv3 := Lib.hid hv; have Hva' := Lib.hid (Hva.out.later hb); have Hvc' := Lib.hid (Hvc.out.later hb)
    have Hb3 := Lib.hid (Hb2.out.trans (hb.mono Hb2.out.size))
    clear hv hb hc hf Hb2 Hva Hvc
    obtain ⟨hc, hf⟩ := bcell Hb3.out
    have Kt := Lib.hid (fun u u' v (h : IsN v u z) (h' : IsN v u' c) => rtimes_pw u u' z c v h h' (lt_pw (lt_big z 64 Hzu.out (by decide)) (by decide)) (le_pw Ho.out.2.2.2 (by decide)))
    go_wp2_with fail
    (with_reducible refine (Kt.out _ _ _ Hv3.out Hvc'.out).mono ?_)
    rintro e w4 ⟨v4, rfl, hv, hb⟩
    have Hv4 := Lib.hid hv; have Hva'' := Lib.hid (Hva'.out.later hb)
    have Hb4 := Lib.hid (Hb3.out.trans (hb.mono Hb3.out.size))
    clear hv hb hc hf Hb3 Hva' Hvc' Hv3 Kt
    obtain ⟨hc, hf⟩ := bcell Hb4.out
    have Kw := Lib.hid (fun u u' v (h : IsN v u (z * c)) (h' : IsN v u' a) => rwhole_any u u' _ _ 1 v h h' Ha0.out (mul_pw (lt_big z 64 Hzu.out (by decide)) Ho.out.2.2.2 (by decide)) (le_pw Ho.out.2.2.1 (by decide)) (by decide))
    rw [Hw1.out] at Kw
    go_wp2_with fail
    refine (Kw.out _ _ _ Hv4.out Hva''.out).mono ?_
    rintro e w5 ⟨v5, rfl, hv, hb⟩
    have Hv5 := Lib.hid hv
    have Hb5 := Lib.hid (Hb4.out.trans (hb.mono Hb4.out.size))
    clear hv hb hc hf Hb4 Hv4 Hva'' Kw Hw1 Ho Ha0
    obtain ⟨hc, hf⟩ := bcell Hb5.out
    have Kti := Lib.hid (fun u v (h : IsN v u U) => tick_ref u U v h)
    go_wp2_with fail
    (with_reducible refine (Kti.out _ _ Hv5.out).mono ?_)
    rintro e w6 ⟨x, rfl, hx, hb⟩
    have Hb6 := Lib.hid (Hb5.out.trans (hb.mono Hb5.out.size))
    clear hb hc hf Hb5 Hv5 Kti
    obtain ⟨hc, hf⟩ := bcell Hb6.out
    by_cases hm : U ≤ 4611686018427387903
    · have hxn := hx hm
      subst hxn
      rw [decide_eq_true hm]
      clear hx Hbig
      by_cases h0 : U = 0
      · have hT0 : T0 = 1 := by rw [HtT.out]; omega
        subst h0 hT0
        have Htb : Hid (1 < 18446744073709551616) := Lib.hid (by decide)
        have Kwt := Lib.hid (fun v => word_any 1 v (by decide))
        go_wp2_with (go_at_call 57; (with_reducible refine (N2.out _).mono ?_); rintro e w' ⟨rfl, rfl⟩)
        (with_reducible refine (Kwb.out _).mono ?_)
        rintro e w7 ⟨v7, rfl, hv, hb⟩
        have Hv7 := Lib.hid hv
        have Hb7 := Lib.hid (Hb6.out.trans (hb.mono Hb6.out.size))
        clear hv hb hc hf Hb6
        obtain ⟨hc, hf⟩ := bcell Hb7.out
        go_wp2_with fail
        (with_reducible refine (Ks2.out _ _ Hv7.out).mono ?_)
        rintro e w8 ⟨va, vc, a2, c2, rfl, hva, hvc, ho, hb⟩
        have Hva := Lib.hid hva; have Hvc := Lib.hid hvc; have Ho := Lib.hid ho
        have Hb8 := Lib.hid (Hb7.out.trans (hb.mono Hb7.out.size))
        have Hw2 := Lib.hid (Hnxt.out a2 c2 1 ho rfl)
        clear hva hvc ho hb hc hf Hb7 Hv7 Hnxt Ks2
        obtain ⟨hc, hf⟩ := bcell Hb8.out
        go_wp2_with fail
        refine (Kwt.out _).mono ?_
        rintro e w9 ⟨v9, rfl, hv, hb⟩
        have Hv9 := Lib.hid hv; have Hva' := Lib.hid (Hva.out.later hb); have Hvc' := Lib.hid (Hvc.out.later hb)
        have Hb9 := Lib.hid (Hb8.out.trans (hb.mono Hb8.out.size))
        clear hv hb hc hf Hb8 Hva Hvc
        obtain ⟨hc, hf⟩ := bcell Hb9.out
        have Kt := Lib.hid (fun u u' v (h : IsN v u 1) (h' : IsN v u' a2) => rtimes_pw u u' 1 a2 v h h' (lt_pw (lt_big 1 64 Htb.out (by decide)) (by decide)) (le_pw Ho.out.2.2.1 (by decide)))
        go_wp2_with fail
        refine (Kt.out _ _ _ Hv9.out Hva'.out).mono ?_
        rintro e w10 ⟨v10, rfl, hv, hb⟩
        have Hv10 := Lib.hid hv; have Hvc'' := Lib.hid (Hvc'.out.later hb)
        have Hb10 := Lib.hid (Hb9.out.trans (hb.mono Hb9.out.size))
        clear hv hb hc hf Hb9 Hva' Hvc' Hv9 Kt
        obtain ⟨hc, hf⟩ := bcell Hb10.out
        have Kw := Lib.hid (fun u u' v (h : IsN v u (1 * a2)) (h' : IsN v u' c2) => rwhole_any u u' _ _ 0 v h h' Ho.out.1 (mul_pw (lt_big 1 64 Htb.out (by decide)) Ho.out.2.2.1 (by decide)) (le_pw Ho.out.2.2.2 (by decide)) (by decide))
        rw [Hw2.out] at Kw
        go_wp2_with fail
        refine (Kw.out _ _ _ Hv10.out Hvc''.out).mono ?_
        rintro e w11 ⟨v11, rfl, hv, hb⟩
        have Hv11 := Lib.hid hv
        have Hb11 := Lib.hid (Hb10.out.trans (hb.mono Hb10.out.size))
        clear hv hb hc hf Hb10 Hv10 Hvc'' Kw Hw2 Ho
        obtain ⟨hc, hf⟩ := bcell Hb11.out
        have Kti := Lib.hid (fun u v (h : IsN v u S) => tick_ref u S v h)
        go_wp2_with fail
        refine (Kti.out _ _ Hv11.out).mono ?_
        rintro e w12 ⟨y, rfl, hy, hb⟩
        have Hb12 := Lib.hid (Hb11.out.trans (hb.mono Hb11.out.size))
        clear hb hc hf Hb11 Hv11 Kti
        obtain ⟨hc, hf⟩ := bcell Hb12.out
        have Hw := Lib.hid (two_past Hb12.out)
        by_cases hn : S ≤ 4611686018427387903
        · have hyn := hy hn
          subst hyn
          obtain ⟨e1, e2, e3⟩ := Hsome.out hm hn
          subst e1 e2 e3
          rw [decide_eq_true hn]
          clear hy hn hm Hwide Hsome
          go_wp2
          exact bodyPost_ret (v := .tuple #[.agg #[.int .i64 1, .int .i64 S], .int .i64 0]) (by simp [results, Tryd.results18, go_sem, hc]) rfl ⟨rfl, by repeat (first | exact Hw.out | exact Hw.out _ _ _ | (refine Below.setCell ?_ (by first | (simp; done) | (simp; omega)) _) | (refine Below.alloc ?_ (by first | (simp; done) | (simp; omega)) _))⟩
        · obtain ⟨e1, e2, e3⟩ := Hwide.out hm hn
          subst e1 e2 e3
          rw [decide_eq_false hn]
          clear hy hn hm Hwide Hsome
          go_wp2
          exact bodyPost_ret (v := .tuple #[.agg #[.int .i64 0, .int .i64 0], .int .i64 5]) (by simp [results, Tryd.results18, go_sem, hc]) rfl ⟨rfl, by repeat (first | exact Hw.out | exact Hw.out _ _ _ | (refine Below.setCell ?_ (by first | (simp; done) | (simp; omega)) _) | (refine Below.alloc ?_ (by first | (simp; done) | (simp; omega)) _))⟩
      · have hT0 : T0 = U := by rw [HtT.out]; omega
        have hU1 : (1 : Int) ≤ (U : Int) := by omega
        subst hT0
        have htb : T0 < 18446744073709551616 := by omega
        have Htb := Lib.hid htb
        have Kwt := Lib.hid (fun v => word_any T0 v htb)
        clear htb
        go_wp2_with (go_at_call 57; (with_reducible refine (N2.out _).mono ?_); rintro e w' ⟨rfl, rfl⟩)
        (with_reducible refine (Kwb.out _).mono ?_)
        rintro e w7 ⟨v7, rfl, hv, hb⟩
        have Hv7 := Lib.hid hv
        have Hb7 := Lib.hid (Hb6.out.trans (hb.mono Hb6.out.size))
        clear hv hb hc hf Hb6
        obtain ⟨hc, hf⟩ := bcell Hb7.out
        go_wp2_with fail
        (with_reducible refine (Ks2.out _ _ Hv7.out).mono ?_)
        rintro e w8 ⟨va, vc, a2, c2, rfl, hva, hvc, ho, hb⟩
        have Hva := Lib.hid hva; have Hvc := Lib.hid hvc; have Ho := Lib.hid ho
        have Hb8 := Lib.hid (Hb7.out.trans (hb.mono Hb7.out.size))
        have Hw2 := Lib.hid (Hnxt.out a2 c2 T0 ho rfl)
        clear hva hvc ho hb hc hf Hb7 Hv7 Hnxt Ks2
        obtain ⟨hc, hf⟩ := bcell Hb8.out
        go_wp2_with fail
        refine (Kwt.out _).mono ?_
        rintro e w9 ⟨v9, rfl, hv, hb⟩
        have Hv9 := Lib.hid hv; have Hva' := Lib.hid (Hva.out.later hb); have Hvc' := Lib.hid (Hvc.out.later hb)
        have Hb9 := Lib.hid (Hb8.out.trans (hb.mono Hb8.out.size))
        clear hv hb hc hf Hb8 Hva Hvc
        obtain ⟨hc, hf⟩ := bcell Hb9.out
        have Kt := Lib.hid (fun u u' v (h : IsN v u T0) (h' : IsN v u' a2) => rtimes_pw u u' T0 a2 v h h' (lt_pw (lt_big T0 64 Htb.out (by decide)) (by decide)) (le_pw Ho.out.2.2.1 (by decide)))
        go_wp2_with fail
        refine (Kt.out _ _ _ Hv9.out Hva'.out).mono ?_
        rintro e w10 ⟨v10, rfl, hv, hb⟩
        have Hv10 := Lib.hid hv; have Hvc'' := Lib.hid (Hvc'.out.later hb)
        have Hb10 := Lib.hid (Hb9.out.trans (hb.mono Hb9.out.size))
        clear hv hb hc hf Hb9 Hva' Hvc' Hv9 Kt
        obtain ⟨hc, hf⟩ := bcell Hb10.out
        have Kw := Lib.hid (fun u u' v (h : IsN v u (T0 * a2)) (h' : IsN v u' c2) => rwhole_any u u' _ _ 0 v h h' Ho.out.1 (mul_pw (lt_big T0 64 Htb.out (by decide)) Ho.out.2.2.1 (by decide)) (le_pw Ho.out.2.2.2 (by decide)) (by decide))
        rw [Hw2.out] at Kw
        go_wp2_with fail
        refine (Kw.out _ _ _ Hv10.out Hvc''.out).mono ?_
        rintro e w11 ⟨v11, rfl, hv, hb⟩
        have Hv11 := Lib.hid hv
        have Hb11 := Lib.hid (Hb10.out.trans (hb.mono Hb10.out.size))
        clear hv hb hc hf Hb10 Hv10 Hvc'' Kw Hw2 Ho
        obtain ⟨hc, hf⟩ := bcell Hb11.out
        have Kti := Lib.hid (fun u v (h : IsN v u S) => tick_ref u S v h)
        go_wp2_with fail
        refine (Kti.out _ _ Hv11.out).mono ?_
        rintro e w12 ⟨y, rfl, hy, hb⟩
        have Hb12 := Lib.hid (Hb11.out.trans (hb.mono Hb11.out.size))
        clear hb hc hf Hb11 Hv11 Kti
        obtain ⟨hc, hf⟩ := bcell Hb12.out
        have Hw := Lib.hid (two_past Hb12.out)
        by_cases hn : S ≤ 4611686018427387903
        · have hyn := hy hn
          subst hyn
          obtain ⟨e1, e2, e3⟩ := Hsome.out hm hn
          subst e1 e2 e3
          rw [decide_eq_true hn]
          clear hy hn hm Hwide Hsome
          go_wp2
          exact bodyPost_ret (v := .tuple #[.agg #[.int .i64 T0, .int .i64 S], .int .i64 0]) (by simp [results, Tryd.results18, go_sem, hc]) rfl ⟨rfl, by repeat (first | exact Hw.out | exact Hw.out _ _ _ | (refine Below.setCell ?_ (by first | (simp; done) | (simp; omega)) _) | (refine Below.alloc ?_ (by first | (simp; done) | (simp; omega)) _))⟩
        · obtain ⟨e1, e2, e3⟩ := Hwide.out hm hn
          subst e1 e2 e3
          rw [decide_eq_false hn]
          clear hy hn hm Hwide Hsome
          go_wp2
          exact bodyPost_ret (v := .tuple #[.agg #[.int .i64 0, .int .i64 0], .int .i64 5]) (by simp [results, Tryd.results18, go_sem, hc]) rfl ⟨rfl, by repeat (first | exact Hw.out | exact Hw.out _ _ _ | (refine Below.setCell ?_ (by first | (simp; done) | (simp; omega)) _) | (refine Below.alloc ?_ (by first | (simp; done) | (simp; omega)) _))⟩
    · obtain ⟨e1, e2, e3⟩ := Hbig.out hm
      subst e1 e2 e3
      rw [decide_eq_false hm]
      have Hw := Lib.hid (two_past Hb6.out)
      clear hx hm Hbig Hwide Hsome
      go_wp2
      exact bodyPost_ret (v := .tuple #[.agg #[.int .i64 0, .int .i64 0], .int .i64 5]) (by simp [results, Tryd.results18, go_sem, hc]) rfl ⟨rfl, by repeat (first | exact Hw.out | exact Hw.out _ _ _ | (refine Below.setCell ?_ (by first | (simp; done) | (simp; omega)) _) | (refine Below.alloc ?_ (by first | (simp; done) | (simp; omega)) _))⟩
  · have g6 := g6'.out
    have g8 : 0 < kb := by omega
    obtain rfl : mb = false := by rcases g6 with h | h; · exact absurd h g7
                                  · exact h.2
    clear g6 g7 g6'
    go_enter Tryd.func18, Tryd.ntmps18
    go_wp2_with fail
    go_quiet ((first | (go_at_call 34; with_reducible exact quiet_left (K1.out _)) | (go_at_call 34; with_reducible exact quiet_left (K2.out _))))
    go_wp2_with (first | (go_at_call 34; (with_reducible refine (K1.out _).mono ?_); rintro e w' ⟨rfl, rfl⟩) | (go_at_call 34; (with_reducible refine (K2.out _).mono ?_); rintro e w' ⟨rfl, rfl⟩) | (go_at_call 36; (with_reducible refine (M1.out _).mono ?_); rintro e w' ⟨rfl, rfl⟩) | (go_at_call 36; (with_reducible refine (M2.out _).mono ?_); rintro e w' ⟨rfl, rfl⟩) | (go_at_call 57; (with_reducible refine (N1.out _).mono ?_); rintro e w' ⟨rfl, rfl⟩))
    (with_reducible refine (Kwp.out _).mono ?_)
    rintro e w1 ⟨v1, rfl, hv, hb⟩
    have Hv1 := Lib.hid hv
    have Hb1 := Lib.hid hb
    clear hv hb K1 K2 M1 M2
    obtain ⟨hc, hf⟩ := bcell Hb1.out
    go_wp2_with fail
    (with_reducible refine (Ks1.out _ _ Hv1.out).mono ?_)
    rintro e w2 ⟨va, vc, a, c, rfl, hva, hvc, ho, hb⟩
    have Hva := Lib.hid hva; have Hvc := Lib.hid hvc; have Ho := Lib.hid ho
    have Hb2 := Lib.hid (Hb1.out.trans (hb.mono Hb1.out.size))
    obtain ⟨ha0, hw1⟩ := Hfst.out a c ho
    have Ha0 := Lib.hid ha0; have Hw1 := Lib.hid hw1
    clear hva hvc ho hb hc hf Hb1 Hv1 Hfst Ks1 ha0 hw1
    obtain ⟨hc, hf⟩ := bcell Hb2.out
    go_wp2_with fail
    (with_reducible refine (Kwz.out _).mono ?_)
    rintro e w3 ⟨v3, rfl, hv, hb⟩
    have Hv3 := Lib.hid hv; have Hva' := Lib.hid (Hva.out.later hb); have Hvc' := Lib.hid (Hvc.out.later hb)
    have Hb3 := Lib.hid (Hb2.out.trans (hb.mono Hb2.out.size))
    clear hv hb hc hf Hb2 Hva Hvc
    obtain ⟨hc, hf⟩ := bcell Hb3.out
    have Kt := Lib.hid (fun u u' v (h : IsN v u z) (h' : IsN v u' c) => rtimes_pw u u' z c v h h' (lt_pw (lt_big z 64 Hzu.out (by decide)) (by decide)) (le_pw Ho.out.2.2.2 (by decide)))
    go_wp2_with fail
    (with_reducible refine (Kt.out _ _ _ Hv3.out Hvc'.out).mono ?_)
    rintro e w4 ⟨v4, rfl, hv, hb⟩
    have Hv4 := Lib.hid hv; have Hva'' := Lib.hid (Hva'.out.later hb)
    have Hb4 := Lib.hid (Hb3.out.trans (hb.mono Hb3.out.size))
    clear hv hb hc hf Hb3 Hva' Hvc' Hv3 Kt
    obtain ⟨hc, hf⟩ := bcell Hb4.out
    have Kw := Lib.hid (fun u u' v (h : IsN v u (z * c)) (h' : IsN v u' a) => rwhole_any u u' _ _ 1 v h h' Ha0.out (mul_pw (lt_big z 64 Hzu.out (by decide)) Ho.out.2.2.2 (by decide)) (le_pw Ho.out.2.2.1 (by decide)) (by decide))
    rw [Hw1.out] at Kw
    go_wp2_with fail
    refine (Kw.out _ _ _ Hv4.out Hva''.out).mono ?_
    rintro e w5 ⟨v5, rfl, hv, hb⟩
    have Hv5 := Lib.hid hv
    have Hb5 := Lib.hid (Hb4.out.trans (hb.mono Hb4.out.size))
    clear hv hb hc hf Hb4 Hv4 Hva'' Kw Hw1 Ho Ha0
    obtain ⟨hc, hf⟩ := bcell Hb5.out
    have Kti := Lib.hid (fun u v (h : IsN v u U) => tick_ref u U v h)
    go_wp2_with fail
    (with_reducible refine (Kti.out _ _ Hv5.out).mono ?_)
    rintro e w6 ⟨x, rfl, hx, hb⟩
    have Hb6 := Lib.hid (Hb5.out.trans (hb.mono Hb5.out.size))
    clear hb hc hf Hb5 Hv5 Kti
    obtain ⟨hc, hf⟩ := bcell Hb6.out
    by_cases hm : U ≤ 4611686018427387903
    · have hxn := hx hm
      subst hxn
      rw [decide_eq_true hm]
      clear hx Hbig
      by_cases h0 : U = 0
      · have hT0 : T0 = 1 := by rw [HtT.out]; omega
        subst h0 hT0
        have Htb : Hid (1 < 18446744073709551616) := Lib.hid (by decide)
        have Kwt := Lib.hid (fun v => word_any 1 v (by decide))
        go_wp2_with (go_at_call 57; (with_reducible refine (N2.out _).mono ?_); rintro e w' ⟨rfl, rfl⟩)
        (with_reducible refine (Kwb.out _).mono ?_)
        rintro e w7 ⟨v7, rfl, hv, hb⟩
        have Hv7 := Lib.hid hv
        have Hb7 := Lib.hid (Hb6.out.trans (hb.mono Hb6.out.size))
        clear hv hb hc hf Hb6
        obtain ⟨hc, hf⟩ := bcell Hb7.out
        go_wp2_with fail
        (with_reducible refine (Ks2.out _ _ Hv7.out).mono ?_)
        rintro e w8 ⟨va, vc, a2, c2, rfl, hva, hvc, ho, hb⟩
        have Hva := Lib.hid hva; have Hvc := Lib.hid hvc; have Ho := Lib.hid ho
        have Hb8 := Lib.hid (Hb7.out.trans (hb.mono Hb7.out.size))
        have Hw2 := Lib.hid (Hnxt.out a2 c2 1 ho rfl)
        clear hva hvc ho hb hc hf Hb7 Hv7 Hnxt Ks2
        obtain ⟨hc, hf⟩ := bcell Hb8.out
        go_wp2_with fail
        refine (Kwt.out _).mono ?_
        rintro e w9 ⟨v9, rfl, hv, hb⟩
        have Hv9 := Lib.hid hv; have Hva' := Lib.hid (Hva.out.later hb); have Hvc' := Lib.hid (Hvc.out.later hb)
        have Hb9 := Lib.hid (Hb8.out.trans (hb.mono Hb8.out.size))
        clear hv hb hc hf Hb8 Hva Hvc
        obtain ⟨hc, hf⟩ := bcell Hb9.out
        have Kt := Lib.hid (fun u u' v (h : IsN v u 1) (h' : IsN v u' a2) => rtimes_pw u u' 1 a2 v h h' (lt_pw (lt_big 1 64 Htb.out (by decide)) (by decide)) (le_pw Ho.out.2.2.1 (by decide)))
        go_wp2_with fail
        refine (Kt.out _ _ _ Hv9.out Hva'.out).mono ?_
        rintro e w10 ⟨v10, rfl, hv, hb⟩
        have Hv10 := Lib.hid hv; have Hvc'' := Lib.hid (Hvc'.out.later hb)
        have Hb10 := Lib.hid (Hb9.out.trans (hb.mono Hb9.out.size))
        clear hv hb hc hf Hb9 Hva' Hvc' Hv9 Kt
        obtain ⟨hc, hf⟩ := bcell Hb10.out
        have Kw := Lib.hid (fun u u' v (h : IsN v u (1 * a2)) (h' : IsN v u' c2) => rwhole_any u u' _ _ 0 v h h' Ho.out.1 (mul_pw (lt_big 1 64 Htb.out (by decide)) Ho.out.2.2.1 (by decide)) (le_pw Ho.out.2.2.2 (by decide)) (by decide))
        rw [Hw2.out] at Kw
        go_wp2_with fail
        refine (Kw.out _ _ _ Hv10.out Hvc''.out).mono ?_
        rintro e w11 ⟨v11, rfl, hv, hb⟩
        have Hv11 := Lib.hid hv
        have Hb11 := Lib.hid (Hb10.out.trans (hb.mono Hb10.out.size))
        clear hv hb hc hf Hb10 Hv10 Hvc'' Kw Hw2 Ho
        obtain ⟨hc, hf⟩ := bcell Hb11.out
        have Kti := Lib.hid (fun u v (h : IsN v u S) => tick_ref u S v h)
        go_wp2_with fail
        refine (Kti.out _ _ Hv11.out).mono ?_
        rintro e w12 ⟨y, rfl, hy, hb⟩
        have Hb12 := Lib.hid (Hb11.out.trans (hb.mono Hb11.out.size))
        clear hb hc hf Hb11 Hv11 Kti
        obtain ⟨hc, hf⟩ := bcell Hb12.out
        have Hw := Lib.hid (two_past Hb12.out)
        by_cases hn : S ≤ 4611686018427387903
        · have hyn := hy hn
          subst hyn
          obtain ⟨e1, e2, e3⟩ := Hsome.out hm hn
          subst e1 e2 e3
          rw [decide_eq_true hn]
          clear hy hn hm Hwide Hsome
          go_wp2
          exact bodyPost_ret (v := .tuple #[.agg #[.int .i64 1, .int .i64 S], .int .i64 0]) (by simp [results, Tryd.results18, go_sem, hc]) rfl ⟨rfl, by repeat (first | exact Hw.out | exact Hw.out _ _ _ | (refine Below.setCell ?_ (by first | (simp; done) | (simp; omega)) _) | (refine Below.alloc ?_ (by first | (simp; done) | (simp; omega)) _))⟩
        · obtain ⟨e1, e2, e3⟩ := Hwide.out hm hn
          subst e1 e2 e3
          rw [decide_eq_false hn]
          clear hy hn hm Hwide Hsome
          go_wp2
          exact bodyPost_ret (v := .tuple #[.agg #[.int .i64 0, .int .i64 0], .int .i64 5]) (by simp [results, Tryd.results18, go_sem, hc]) rfl ⟨rfl, by repeat (first | exact Hw.out | exact Hw.out _ _ _ | (refine Below.setCell ?_ (by first | (simp; done) | (simp; omega)) _) | (refine Below.alloc ?_ (by first | (simp; done) | (simp; omega)) _))⟩
      · have hT0 : T0 = U := by rw [HtT.out]; omega
        have hU1 : (1 : Int) ≤ (U : Int) := by omega
        subst hT0
        have htb : T0 < 18446744073709551616 := by omega
        have Htb := Lib.hid htb
        have Kwt := Lib.hid (fun v => word_any T0 v htb)
        clear htb
        go_wp2_with (go_at_call 57; (with_reducible refine (N2.out _).mono ?_); rintro e w' ⟨rfl, rfl⟩)
        (with_reducible refine (Kwb.out _).mono ?_)
        rintro e w7 ⟨v7, rfl, hv, hb⟩
        have Hv7 := Lib.hid hv
        have Hb7 := Lib.hid (Hb6.out.trans (hb.mono Hb6.out.size))
        clear hv hb hc hf Hb6
        obtain ⟨hc, hf⟩ := bcell Hb7.out
        go_wp2_with fail
        (with_reducible refine (Ks2.out _ _ Hv7.out).mono ?_)
        rintro e w8 ⟨va, vc, a2, c2, rfl, hva, hvc, ho, hb⟩
        have Hva := Lib.hid hva; have Hvc := Lib.hid hvc; have Ho := Lib.hid ho
        have Hb8 := Lib.hid (Hb7.out.trans (hb.mono Hb7.out.size))
        have Hw2 := Lib.hid (Hnxt.out a2 c2 T0 ho rfl)
        clear hva hvc ho hb hc hf Hb7 Hv7 Hnxt Ks2
        obtain ⟨hc, hf⟩ := bcell Hb8.out
        go_wp2_with fail
        refine (Kwt.out _).mono ?_
        rintro e w9 ⟨v9, rfl, hv, hb⟩
        have Hv9 := Lib.hid hv; have Hva' := Lib.hid (Hva.out.later hb); have Hvc' := Lib.hid (Hvc.out.later hb)
        have Hb9 := Lib.hid (Hb8.out.trans (hb.mono Hb8.out.size))
        clear hv hb hc hf Hb8 Hva Hvc
        obtain ⟨hc, hf⟩ := bcell Hb9.out
        have Kt := Lib.hid (fun u u' v (h : IsN v u T0) (h' : IsN v u' a2) => rtimes_pw u u' T0 a2 v h h' (lt_pw (lt_big T0 64 Htb.out (by decide)) (by decide)) (le_pw Ho.out.2.2.1 (by decide)))
        go_wp2_with fail
        refine (Kt.out _ _ _ Hv9.out Hva'.out).mono ?_
        rintro e w10 ⟨v10, rfl, hv, hb⟩
        have Hv10 := Lib.hid hv; have Hvc'' := Lib.hid (Hvc'.out.later hb)
        have Hb10 := Lib.hid (Hb9.out.trans (hb.mono Hb9.out.size))
        clear hv hb hc hf Hb9 Hva' Hvc' Hv9 Kt
        obtain ⟨hc, hf⟩ := bcell Hb10.out
        have Kw := Lib.hid (fun u u' v (h : IsN v u (T0 * a2)) (h' : IsN v u' c2) => rwhole_any u u' _ _ 0 v h h' Ho.out.1 (mul_pw (lt_big T0 64 Htb.out (by decide)) Ho.out.2.2.1 (by decide)) (le_pw Ho.out.2.2.2 (by decide)) (by decide))
        rw [Hw2.out] at Kw
        go_wp2_with fail
        refine (Kw.out _ _ _ Hv10.out Hvc''.out).mono ?_
        rintro e w11 ⟨v11, rfl, hv, hb⟩
        have Hv11 := Lib.hid hv
        have Hb11 := Lib.hid (Hb10.out.trans (hb.mono Hb10.out.size))
        clear hv hb hc hf Hb10 Hv10 Hvc'' Kw Hw2 Ho
        obtain ⟨hc, hf⟩ := bcell Hb11.out
        have Kti := Lib.hid (fun u v (h : IsN v u S) => tick_ref u S v h)
        go_wp2_with fail
        refine (Kti.out _ _ Hv11.out).mono ?_
        rintro e w12 ⟨y, rfl, hy, hb⟩
        have Hb12 := Lib.hid (Hb11.out.trans (hb.mono Hb11.out.size))
        clear hb hc hf Hb11 Hv11 Kti
        obtain ⟨hc, hf⟩ := bcell Hb12.out
        have Hw := Lib.hid (two_past Hb12.out)
        by_cases hn : S ≤ 4611686018427387903
        · have hyn := hy hn
          subst hyn
          obtain ⟨e1, e2, e3⟩ := Hsome.out hm hn
          subst e1 e2 e3
          rw [decide_eq_true hn]
          clear hy hn hm Hwide Hsome
          go_wp2
          exact bodyPost_ret (v := .tuple #[.agg #[.int .i64 T0, .int .i64 S], .int .i64 0]) (by simp [results, Tryd.results18, go_sem, hc]) rfl ⟨rfl, by repeat (first | exact Hw.out | exact Hw.out _ _ _ | (refine Below.setCell ?_ (by first | (simp; done) | (simp; omega)) _) | (refine Below.alloc ?_ (by first | (simp; done) | (simp; omega)) _))⟩
        · obtain ⟨e1, e2, e3⟩ := Hwide.out hm hn
          subst e1 e2 e3
          rw [decide_eq_false hn]
          clear hy hn hm Hwide Hsome
          go_wp2
          exact bodyPost_ret (v := .tuple #[.agg #[.int .i64 0, .int .i64 0], .int .i64 5]) (by simp [results, Tryd.results18, go_sem, hc]) rfl ⟨rfl, by repeat (first | exact Hw.out | exact Hw.out _ _ _ | (refine Below.setCell ?_ (by first | (simp; done) | (simp; omega)) _) | (refine Below.alloc ?_ (by first | (simp; done) | (simp; omega)) _))⟩
    · obtain ⟨e1, e2, e3⟩ := Hbig.out hm
      subst e1 e2 e3
      rw [decide_eq_false hm]
      have Hw := Lib.hid (two_past Hb6.out)
      clear hx hm Hbig Hwide Hsome
      go_wp2
      exact bodyPost_ret (v := .tuple #[.agg #[.int .i64 0, .int .i64 0], .int .i64 5]) (by simp [results, Tryd.results18, go_sem, hc]) rfl ⟨rfl, by repeat (first | exact Hw.out | exact Hw.out _ _ _ | (refine Below.setCell ?_ (by first | (simp; done) | (simp; omega)) _) | (refine Below.alloc ?_ (by first | (simp; done) | (simp; omega)) _))⟩

/-- DocOf, of whatever rate. -/
theorem docof_any (p b : Nat) (hz : Int) (w : World) (hp : p < 18446744073709551616) (hb : b < 18446744073709551616) :
    Calls Tryd.prog 18 #[rateV p b hz] w (OfRes w (rtLT p b hz) (rtLS p b hz) (rtE p b hz)) := by
  have kp := kind_cases (rg p)
  have kb := kind_cases (rg b)
  by_cases h : rtC p b hz = 0
  · obtain ⟨a1, a2, p0, p1, p2, b1, b2⟩ := rtC_zero h
    obtain ⟨z, rfl⟩ := Int.eq_ofNat_of_zero_le (show 0 ≤ hz by omega)
    refine docof_core p b z _ _ _ w h rfl rfl rfl (kindN (rg p)) (kindN (rg b)) (sgn b) (fun v => kind_ref p v) (fun v => kind_ref b v) (fun v => by rw [← p2]; exact minus_ref p v) (fun v => minus_ref b v) (by simp; omega) (by simp; omega) (by simp; omega) (by simp; omega) (by simp; omega) ?_
    rcases Nat.eq_zero_or_pos (rg b) with h0 | h0
    · exact Or.inl (by omega)
    · refine Or.inr ⟨by omega, ?_⟩
      cases hs : sgn b
      · rfl
      · exact absurd ⟨hs, h0⟩ b2
  · obtain ⟨e1, e2, e3⟩ := rt_bad h
    rw [e1, e2, e3]
    refine docof_bad p b hz (kindN (rg p)) (kindN (rg b)) _ (sgn p) (sgn b) w (fun v => kind_ref p v) (fun v => kind_ref b v) (fun v => minus_ref p v) (fun v => minus_ref b v) ?_
    clear e1 e2 e3
    unfold rtC at *
    by_cases c1 : hz < 1
    · rw [if_pos (Or.inl c1)]; exact Or.inl ⟨c1, rfl⟩
    refine Or.inr ?_
    by_cases c2 : 1000000000 < hz
    · rw [if_pos (Or.inr c2)]; exact Or.inl ⟨by omega, c2, rfl⟩
    rw [if_neg (by omega)] at *
    refine Or.inr ⟨by omega, by omega, ?_⟩
    by_cases c3 : 9218868437227405312 < rg p
    · rw [if_pos (Or.inl c3)]; exact Or.inl ⟨by omega, rfl⟩
    by_cases c4 : 9218868437227405312 < rg b
    · rw [if_pos (Or.inr c4)]; exact Or.inr (Or.inl ⟨by simp; omega, by omega, rfl⟩)
    rw [if_neg (by omega)] at *
    refine Or.inr (Or.inr ⟨by simp; omega, by simp; omega, ?_⟩)
    by_cases c5 : 9218868437227405312 ≤ rg p ∨ sgn p = true ∨ rg p = 0 ∨ 9218868437227405312 ≤ rg b ∨ (sgn b = true ∧ 0 < rg b)
    · rw [if_pos c5]
      by_cases d1 : 9218868437227405312 ≤ rg p
      · exact Or.inl ⟨by omega, rfl⟩
      by_cases d2 : rg p = 0
      · exact Or.inr (Or.inl ⟨by omega, rfl⟩)
      refine Or.inr (Or.inr ⟨by simp; omega, by simp; omega, ?_⟩)
      cases hs : sgn p with
      | true => exact Or.inl ⟨rfl, rfl⟩
      | false =>
        refine Or.inr ?_
        by_cases d3 : 9218868437227405312 ≤ rg b
        · exact Or.inl ⟨rfl, by omega, rfl⟩
        · have d4 : sgn b = true ∧ 0 < rg b := by
            rcases c5 with h | h | h | h | h
            · exact absurd h d1
            · rw [hs] at h; cases h
            · exact absurd h d2
            · exact absurd h d3
            · exact h
          exact Or.inr ⟨rfl, by simp; omega, by omega, d4.1, rfl⟩
    · rw [if_neg c5] at h; exact absurd rfl h
end Go.Proofs.YtbpldplbkmabmaaDoor
