/- MeterQuarters' walk. -/
import Derived.Test.YtecbbdbeihiioaaMtQh
import Derived.Test.YtecbbdbeihiioaaMtZ
import Derived.BigRegion
namespace Go.Proofs.Ytecbbdbeihiioaa
open Go.RowKit
set_option linter.unusedVariables false

attribute [local go_sem] run_store_float'

theorem own_empty {w : World} {base : Nat} (h : base ≤ w.heap.size) : (w.alloc (.cells #[] 26)).ownsRow base 26 1 (.slice (some ⟨w.heap.size, 0, none⟩) 0 0) 0 (flatF []) := by
  refine ⟨rfl, Or.inr ⟨w.heap.size, 0, #[], rfl, h, ?_, Nat.le_refl _, by decide, rfl, rfl⟩⟩
  exact heap_alloc_new w _
theorem quy_same {M : List Nat} {f t a b : Nat} (hM : ∀ x ∈ M, Mid x) (ht : t < M.length) (hf : f < 18446744073709551616) (ha : QuY M f t a) (hb : QuY M f t b) : a = b := by
  obtain ⟨A, pA, sA, rfl⟩ := ha
  obtain ⟨B, pB, sB, rfl⟩ := hb
  have hlA := pA.length_eq
  have hlB := pB.length_eq
  exact quV_same (by omega) (fun x hx => (hM x (pA.mem_iff.1 hx)).1) (fun x hx => (hM x (pB.mem_iff.1 hx)).1) hf (sorted_same (pA.trans pB.symm) sA sB (by omega)) (fun hne => sorted_same (pA.trans pB.symm) sA sB (by omega))
theorem swap_perm {M : List Nat} {i j : Nat} (hi : i < M.length) (hj : j < M.length) : ((M.set i (M.getD j 0)).set j (M.getD i 0)).Perm M := by
  have e1 : M.getD i 0 = M[i] := by rw [List.getD_eq_getElem?_getD, List.getElem?_eq_getElem hi]; rfl
  have e2 : M.getD j 0 = M[j] := by rw [List.getD_eq_getElem?_getD, List.getElem?_eq_getElem hj]; rfl
  rw [e1, e2]
  exact List.set_set_perm hi hj
theorem flatF_set' (R : List Nat) (j x : Nat) : (flatF R).set j (.float .f64 x) = flatF (R.set j x) := by unfold flatF; rw [List.map_set]
/-- The turned list lies where the copy lay. -/
def TurnAt (w : World) (M : List Nat) (g cap : Nat) (u : World) : Prop := ∃ N : List Nat, N.Perm M ∧ FlAt u (.slice (some ⟨g, 0, none⟩) M.length cap) N ∧ Below w.heap.size w u
theorem TurnAt.drewN {w : World} {M : List Nat} {g cap : Nat} {u : World} (h : TurnAt w M g cap u) (n : Nat) : TurnAt w M g cap (u.drewN n) := by
  obtain ⟨N, h1, h2, h3⟩ := h
  exact ⟨N, h1, h2.later (below_drewN (Below.refl _ _) n), below_drewN h3 n⟩
theorem turn_of {w u : World} {M N : List Nat} {g cap : Nat} (hM : ∀ x ∈ M, x < 18446744073709551616) (hN : N.Perm M) (ho : u.ownsRow w.heap.size 26 1 (.slice (some ⟨g, 0, none⟩) M.length cap) M.length (flatF N)) (hb : Below w.heap.size w u) : TurnAt w M g cap u := by
  refine ⟨N, hN, ?_, hb⟩
  have hl := hN.length_eq
  have := fl_of_own (w := u) (base := w.heap.size) (v := .slice (some ⟨g, 0, none⟩) M.length cap) (L := N) (by show u.ownsRow _ _ _ _ N.length _; rw [hl]; exact ho) (fun x hx => hM x (hN.mem_iff.1 hx))
  exact this
theorem fl_store {w u : World} {M : List Nat} {g cap i j : Nat} (hM : ∀ x ∈ M, x < 18446744073709551616) (hi : i < M.length) (hj : j < M.length) (ho : u.ownsRow w.heap.size 26 1 (.slice (some ⟨g, 0, none⟩) M.length cap) M.length (flatF M)) (hb : Below w.heap.size w u) :
    TurnAt w M g cap ((u.setCell ⟨g, i, none⟩ (.float .f64 (M.getD j 0))).setCell ⟨g, j, none⟩ (.float .f64 (M.getD i 0))) := by
  have hg : w.heap.size ≤ g := (ho.lt g rfl).1
  have h1 := (ho.stored i (.float .f64 (M.getD j 0))).1
  have h2 := (h1.stored j (.float .f64 (M.getD i 0))).1
  rw [flatF_set', flatF_set'] at h2
  exact turn_of hM (swap_perm hi hj) h2 ((hb.setCell hg _).setCell hg _)
theorem fl_store1 {w u : World} {M : List Nat} {g cap i : Nat} (hM : ∀ x ∈ M, x < 18446744073709551616) (hi : i < M.length) (ho : u.ownsRow w.heap.size 26 1 (.slice (some ⟨g, 0, none⟩) M.length cap) M.length (flatF M)) (hb : Below w.heap.size w u) :
    TurnAt w M g cap (u.setCell ⟨g, i, none⟩ (.float .f64 (M.getD i 0))) := by
  have hg : w.heap.size ≤ g := (ho.lt g rfl).1
  have h1 := (ho.stored i (.float .f64 (M.getD i 0))).1
  rw [flatF_set'] at h1
  have e : M.set i (M.getD i 0) = M := by
    have e1 : M.getD i 0 = M[i] := by rw [List.getD_eq_getElem?_getD, List.getElem?_eq_getElem hi]; rfl
    rw [e1, List.set_getElem_self]
  rw [e] at h1
  exact turn_of hM (List.Perm.refl _) h1 (hb.setCell hg _)
theorem idx_facts (i : Int) (len : Nat) (h0 : 0 < len) : ∃ iu ii : Nat, IntKind.u64.wrap i = (iu : Int) ∧ iu < 18446744073709551616 ∧ ii < len ∧ (iu : Int) % (len : Int) = (ii : Int) := by
  have e : IntKind.u64.wrap i = i % 18446744073709551616 := by simp [IntKind.wrap, IntKind.bits, IntKind.signed]
  have h1 := Int.emod_nonneg i (show (18446744073709551616 : Int) ≠ 0 by decide)
  have h2 := Int.emod_lt_of_pos i (show (0 : Int) < 18446744073709551616 by decide)
  refine ⟨(i % 18446744073709551616).toNat, (i % 18446744073709551616).toNat % len, by rw [e]; omega, by omega, Nat.mod_lt _ h0, ?_⟩
  push_cast
  rfl
theorem quant_share {M : List Nat} (q : Nat) (hs : Share q) (hM : ∀ x ∈ M, Mid x) (hl : M.length ≤ 300) (h0 : 0 < M.length) :
    ∃ p ti f r, QuEx q p ti f r (M.length - 1) ∧ ∀ N : List Nat, N.Perm M → ∀ v w, FlAt w v N → Calls Try.prog 20 #[v, .float .f64 q] w (QuP w (QuY M f ti) 0) := by
  obtain ⟨hq, hn, h1, h2⟩ := hs
  obtain ⟨p, ti, f, r, hE⟩ := qu_ex hq hn h1 h2 (show M.length - 1 ≤ 4095 by omega)
  refine ⟨p, ti, f, r, hE, fun N hN v w h => ?_⟩
  have hNl := hN.length_eq
  refine quant_core v N q w _ _ _ 0 h (by omega) hq h1 h2 (Or.inr (Or.inr (Or.inr (Or.inr ⟨mid_bad (fun x hx => hM x (hN.mem_iff.1 hx)) hn, rfl, rfl, by omega, rfl, p, ti, f, by rw [hNl]; exact hE.at_, ?_⟩))))
  rintro y ⟨L', pL, sL, rfl⟩
  exact ⟨L', pL.trans hN, sL, rfl⟩

set_option maxRecDepth 100000 in
set_option maxHeartbeats 16000000 in
theorem quarters_core (v : Value) (L : List Nat) (pb qb : Nat) (i j : Int) (w : World) (h : U64At w v L) (hpb : pb < 18446744073709551616) (hqb : qb < 18446744073709551616) (hi0 : -9223372036854775808 ≤ i) (hi1 : i ≤ 9223372036854775807) (hj0 : -9223372036854775808 ≤ j) (hj1 : j ≤ 9223372036854775807)
    (kw : ∀ v, Calls Try.prog 11 #[] v fun e w' => e = .returned (.bool true) ∧ Below v.heap.size v w') :
    Calls Try.prog 6 #[v, .int .u64 (pb : Int), .int .u64 (qb : Int), .int .i64 i, .int .i64 j] w fun e w' => e = .returned (.bool true) ∧ Below w.heap.size w w' := by
  have Kw := Lib.hid kw
  clear kw
  have Kp := Lib.hid (fun v => of_any pb v)
  have Kq := Lib.hid (fun v => of_any qb v)
  have Kr := Lib.hid (fun b c v => rsame_any b c v)
  have Kabs := Lib.hid (fun x v (h : x < 18446744073709551616) => abs_any x v h)
  have H0 := h
  obtain ⟨-, a, c, rfl, hl, hc, -⟩ := h
  obtain ⟨n, hn⟩ : ∃ n, n = min L.length 300 := ⟨_, rfl⟩
  have hu := H0.take (show n ≤ L.length by omega)
  have hMl : (L.take n).length = n := by simp; omega
  have hm1 : min (L.length : Int) 300 = (n : Int) := by omega
  have hn300 : n ≤ 300 := by omega
  have hnc : (n : Int) ≤ (c : Int) := by omega
  have hn0 : (0 : Int) ≤ (n : Int) := by omega
  clear H0
  generalize L.take n = M at *
  unfold maxLen at hc
  have Hu := Lib.hid hu; have HMl := Lib.hid hMl
  have HMw := Lib.hid hu.1
  have Ka := Lib.hid (fun w h => all_any (.slice a n c) M w h (by omega))
  clear hu hMl hn
  obtain ⟨i0, hif, hzf0, hzf1, hzf2⟩ := info_fl_parts info_fl
  have Hi := Lib.hid hif; have Hz0 := Lib.hid hzf0; have Hz1 := Lib.hid hzf1; have Hz2 := Lib.hid hzf2
  clear hif hzf0 hzf1 hzf2
  go_enter Try.func6, Try.ntmps6
  go_wp2_with fail
  with_reducible refine (Kw.out _).mono ?_
  rintro e w1 ⟨rfl, hb⟩
  have Hb1 := Lib.hid hb
  clear hb
  go_wp2_with fail
  refine (Ka.out _ (Hu.out.later Hb1.out)).mono ?_
  rintro e w2 ⟨v2, rfl, hown, hb2⟩
  have Hb2 := Lib.hid (Hb1.out.trans (hb2.mono Hb1.out.size))
  have Hfl := Lib.hid (fl_of_own hown HMw.out)
  have hMl := HMl.out
  subst hMl
  have Hown := Lib.hid hown
  obtain ⟨a2, c2, rfl, hc2, hm2, hr2⟩ := own_shapeF hown
  have Hr2 := Lib.hid hr2
  have Hcell := Lib.hid (show ∀ k, k < M.length → ∃ g, a2 = some ⟨g, 0, none⟩ ∧ w2.cell? ⟨g, k, none⟩ = some (.float .f64 (M.getD k 0)) from fun k hk => by
    obtain ⟨g, rfl, -⟩ := hr2 (by omega)
    exact ⟨g, rfl, (hown.cellAt k (by omega)).trans (flatF_get M k hk)⟩)
  unfold maxLen at hm2
  clear hown hb2 hr2 Ka
  go_wp2_with fail
  go_loopw [13, 36] (fun _ i wr => ∃ k : Nat, i = .int .i64 k ∧ k ≤ M.length ∧ (∀ j, j < k → Mid (M.getD j 0)) ∧ Below w2.heap.size w2 wr) (fun _ i _ => M.length - (intOf i).toNat)
  case atStart => exact ⟨0, rfl, Nat.zero_le _, fun j hj => by omega, Below.refl _ _⟩
  case round =>
    obtain ⟨k, rfl, hk, hmid, hbel⟩ := hrel
    have Hbel := Lib.hid hbel; have Hmid := Lib.hid hmid
    clear hbel hmid
    by_cases hA : k < M.length
    · obtain ⟨g, rfl, hcell⟩ := Hcell.out k hA
      have hc0 := cell_later Hbel.out hcell
      have hlt := World.block_lt_of_cell? _ _ hc0
      have hxl := getD_lt HMw.out k
      have Hx := Lib.hid hxl
      have Hms : Hid (Mid (M.getD k 0) → ∀ j, j < k + 1 → Mid (M.getD j 0)) := Lib.hid (fun hm j hj => by
        by_cases h : j < k
        · exact Hmid.out j h
        · obtain rfl : j = k := by omega
          exact hm)
      have htest := mid_test (x := M.getD k 0)
      clear hcell hxl
      generalize M.getD k 0 = x at *
      have Kx := Lib.hid (fun v => Kabs.out x v Hx.out)
      by_cases hmx : rg x < 9110782046170513408
      · rw [decide_eq_true hmx] at htest
        have Hm := Lib.hid (Hms.out ⟨Hx.out, hmx⟩)
        clear hmx Hms
        generalize rg x = rx at *
        go_wp2_with (go_at_call 22; (with_reducible refine (Kx.out _).mono ?_); rintro e w' ⟨rfl, rfl⟩)
        go_roundw
        case rel => exact ⟨k + 1, by go_num, by omega, Hm.out, Hbel.out⟩
        case measure => simp [intOf]; omega
      · rw [decide_eq_false hmx] at htest
        have Hbz := Lib.hid (Hb2.out.trans (Hbel.out.mono Hb2.out.size))
        clear hmx Hms
        generalize rg x = rx at *
        go_wp2_with (go_at_call 22; (with_reducible refine (Kx.out _).mono ?_); rintro e w' ⟨rfl, rfl⟩)
        go_ret
        exact ⟨rfl, Hbz.out⟩
    · obtain rfl : k = M.length := by omega
      have HM : Hid (∀ x ∈ M, Mid x) := Lib.hid (fun x hx => by
        obtain ⟨j, hj, rfl⟩ := mem_getD hx
        exact Hmid.out j hj)
      have Hfl3 := Lib.hid (Hfl.out.later Hbel.out)
      have Hb3 := Lib.hid (Hb2.out.trans (Hbel.out.mono Hb2.out.size))
      have Kof := Lib.hid (fun v w h => mof_some v M w h (by omega))
      clear Hmid Hfl Hcell Hr2
      go_wp2_with fail
      refine (Kof.out _ _ Hfl3.out).mono ?_
      rintro e w3 ⟨m1, rfl, hs1, ho1, hb3⟩
      have HZ : Hid (MtCell (w3.alloc (mtObj m1 28)) w3.heap.size m1 ∧ FlAt (w3.alloc (mtObj m1 28)) (.slice a2 M.length c2) M ∧ Below w.heap.size w (w3.alloc (mtObj m1 28))) := Lib.hid ⟨mtCell_alloc w3 m1 _, (Hfl3.out.later hb3).later (below_all _ _), (Hb3.out.trans (hb3.mono Hb3.out.size)).alloc (Hb3.out.trans (hb3.mono Hb3.out.size)).size _⟩
      have Hs1 := Lib.hid hs1; have Ho1 := Lib.hid ho1
      clear hs1 ho1 hb3 Hfl3 Hb3 Kof
      unfold mtV
      go_upto_region 11 with (fail)
      refine wp_name (fun u => MtCell u w3.heap.size m1 ∧ FlAt u (.slice a2 M.length c2) M ∧ Below w.heap.size w u) HZ.out ?_
      clear HZ
      generalize w3.heap.size = U at *
      rintro Y hy
      have HY := Lib.hid hy
      clear hy Hbel Hb2 Hb1 Hu Hown
      -- WAYS
      have hq0 : ∃ Yq eq, ∀ v w, FlAt w v M → Calls Try.prog 20 #[v, .float .f64 qb] w (QuP w Yq eq) := by
        rcases quant_ways qb hqb HM.out (by omega) with ⟨e, -, k⟩ | ⟨-, -, _, ti, f, _, -, k⟩
        · exact ⟨_, e, k⟩
        · exact ⟨_, 0, k M (List.Perm.refl _)⟩
      rcases quant_ways pb hpb HM.out (show M.length ≤ 300 by omega) with ⟨ep, hep, kp⟩ | ⟨hpos, hps, pp, tp, fp, rp, Ep, kp⟩
      · obtain ⟨Yq, eq, kq⟩ := hq0
        have K1 := Lib.hid kp
        have K2 := Lib.hid kq
        have hne : (ep != 0) = true := by simp [hep]
        have hne' : (ep == 0) = false := beq_eq_false_iff_ne.2 hep
        clear kp kq hep
        go_wp2_with (first | (go_at_call 16; (with_reducible refine (Kp.out _).mono ?_); rintro e w' ⟨rfl, rfl⟩) | (go_at_call 16; (with_reducible refine (Kq.out _).mono ?_); rintro e w' ⟨rfl, rfl⟩))
        refine (K1.out _ _ HY.out.2.1).mono ?_
        rintro e w4 ⟨z1, rfl, hyz1, hlz1, hb4⟩
        have Hyz1 := Lib.hid hyz1; have Hlz1 := Lib.hid hlz1
        have HZ := Lib.hid (show (fun u => MtCell u U m1 ∧ FlAt u (.slice a2 M.length c2) M ∧ Below w.heap.size w u) w4 from ⟨HY.out.1.keep hb4, HY.out.2.1.later hb4, HY.out.2.2.trans (hb4.mono HY.out.2.2.size)⟩)
        clear hyz1 hlz1 hb4 HY
        go_upto_region 12 with (fail)
        refine wp_name (fun u => MtCell u U m1 ∧ FlAt u (.slice a2 M.length c2) M ∧ Below w.heap.size w u) HZ.out ?_
        clear HZ
        rintro Y hy
        have HY := Lib.hid hy
        clear hy
        go_wp2_with (first | (go_at_call 16; (with_reducible refine (Kp.out _).mono ?_); rintro e w' ⟨rfl, rfl⟩) | (go_at_call 16; (with_reducible refine (Kq.out _).mono ?_); rintro e w' ⟨rfl, rfl⟩))
        refine (K2.out _ _ HY.out.2.1).mono ?_
        rintro e w4 ⟨z2, rfl, hyz2, hlz2, hb4⟩
        have Hyz2 := Lib.hid hyz2; have Hlz2 := Lib.hid hlz2
        have HZ := Lib.hid (show (fun u => MtCell u U m1 ∧ FlAt u (.slice a2 M.length c2) M ∧ Below w.heap.size w u) w4 from ⟨HY.out.1.keep hb4, HY.out.2.1.later hb4, HY.out.2.2.trans (hb4.mono HY.out.2.2.size)⟩)
        clear hyz2 hlz2 hb4 HY
        go_upto_region 13 with (fail)
        refine wp_name (fun u => MtCell u U m1 ∧ FlAt u (.slice a2 M.length c2) M ∧ Below w.heap.size w u) HZ.out ?_
        clear HZ
        rintro Y hy
        have HY := Lib.hid hy
        clear hy
        go_wp2
        go_ret
        exact ⟨rfl, HY.out.2.2⟩
      · rcases quant_ways qb hqb HM.out (show M.length ≤ 300 by omega) with ⟨eq, heq, kq⟩ | ⟨-, hqs, pq, tq, fq, rq, Eq, kq⟩
        · have K1 := Lib.hid (kp M (List.Perm.refl _))
          have K2 := Lib.hid kq
          have hne : (eq != 0) = true := by simp [heq]
          have hne' : (eq == 0) = false := beq_eq_false_iff_ne.2 heq
          clear kp kq heq hq0
          go_wp2_with (first | (go_at_call 16; (with_reducible refine (Kp.out _).mono ?_); rintro e w' ⟨rfl, rfl⟩) | (go_at_call 16; (with_reducible refine (Kq.out _).mono ?_); rintro e w' ⟨rfl, rfl⟩))
          refine (K1.out _ _ HY.out.2.1).mono ?_
          rintro e w4 ⟨z1, rfl, hyz1, hlz1, hb4⟩
          have Hyz1 := Lib.hid hyz1; have Hlz1 := Lib.hid hlz1
          have HZ := Lib.hid (show (fun u => MtCell u U m1 ∧ FlAt u (.slice a2 M.length c2) M ∧ Below w.heap.size w u) w4 from ⟨HY.out.1.keep hb4, HY.out.2.1.later hb4, HY.out.2.2.trans (hb4.mono HY.out.2.2.size)⟩)
          clear hyz1 hlz1 hb4 HY
          go_upto_region 12 with (fail)
          refine wp_name (fun u => MtCell u U m1 ∧ FlAt u (.slice a2 M.length c2) M ∧ Below w.heap.size w u) HZ.out ?_
          clear HZ
          rintro Y hy
          have HY := Lib.hid hy
          clear hy
          go_wp2_with (first | (go_at_call 16; (with_reducible refine (Kp.out _).mono ?_); rintro e w' ⟨rfl, rfl⟩) | (go_at_call 16; (with_reducible refine (Kq.out _).mono ?_); rintro e w' ⟨rfl, rfl⟩))
          refine (K2.out _ _ HY.out.2.1).mono ?_
          rintro e w4 ⟨z2, rfl, hyz2, hlz2, hb4⟩
          have Hyz2 := Lib.hid hyz2; have Hlz2 := Lib.hid hlz2
          have HZ := Lib.hid (show (fun u => MtCell u U m1 ∧ FlAt u (.slice a2 M.length c2) M ∧ Below w.heap.size w u) w4 from ⟨HY.out.1.keep hb4, HY.out.2.1.later hb4, HY.out.2.2.trans (hb4.mono HY.out.2.2.size)⟩)
          clear hyz2 hlz2 hb4 HY
          go_upto_region 13 with (fail)
          refine wp_name (fun u => MtCell u U m1 ∧ FlAt u (.slice a2 M.length c2) M ∧ Below w.heap.size w u) HZ.out ?_
          clear HZ
          rintro Y hy
          have HY := Lib.hid hy
          clear hy
          go_wp2
          go_ret
          exact ⟨rfl, HY.out.2.2⟩
        · obtain ⟨p0, t0, f0, r0, E0, k0⟩ := quant_share 0 share_zero HM.out (show M.length ≤ 300 by omega) hpos
          obtain ⟨p1, t1, f1, r1, E1, k1⟩ := quant_share 4607182418800017408 share_one HM.out (show M.length ≤ 300 by omega) hpos
          have K1 := Lib.hid (kp M (List.Perm.refl _))
          have K2 := Lib.hid (kq M (List.Perm.refl _))
          have K3 := Lib.hid (k0 M (List.Perm.refl _))
          have K4 := Lib.hid (k1 M (List.Perm.refl _))
          have K5 := Lib.hid kp
          have Hfacts := Lib.hid (fun c1 c2 c3 c4 => @quarters_facts M (M.length - 1) m1 HM.out (by omega) (by omega) Hs1.out Ho1.out pb pp tp fp rp qb pq tq fq rq p0 t0 f0 r0 p1 t1 f1 r1 c1 c2 c3 c4 hqb hpb hqs hps Ep Eq E0 E1)
          have HU := Lib.hid (fun a b => @quy_same M fp tp a b HM.out (by have := Ep.at_.le; omega) Ep.at_.flt)
          clear kp kq k0 k1 hq0 Ep Eq E0 E1 hps hqs Hs1
          go_wp2_with (first | (go_at_call 16; (with_reducible refine (Kp.out _).mono ?_); rintro e w' ⟨rfl, rfl⟩) | (go_at_call 16; (with_reducible refine (Kq.out _).mono ?_); rintro e w' ⟨rfl, rfl⟩))
          refine (K1.out _ _ HY.out.2.1).mono ?_
          rintro e w4 ⟨z1, rfl, hyz1, hlz1, hb4⟩
          have Hyz1 := Lib.hid hyz1; have Hlz1 := Lib.hid hlz1
          have HZ := Lib.hid (show (fun u => MtCell u U m1 ∧ FlAt u (.slice a2 M.length c2) M ∧ Below w.heap.size w u) w4 from ⟨HY.out.1.keep hb4, HY.out.2.1.later hb4, HY.out.2.2.trans (hb4.mono HY.out.2.2.size)⟩)
          clear hyz1 hlz1 hb4 HY
          go_upto_region 12 with (fail)
          refine wp_name (fun u => MtCell u U m1 ∧ FlAt u (.slice a2 M.length c2) M ∧ Below w.heap.size w u) HZ.out ?_
          clear HZ
          rintro Y hy
          have HY := Lib.hid hy
          clear hy
          go_wp2_with (first | (go_at_call 16; (with_reducible refine (Kp.out _).mono ?_); rintro e w' ⟨rfl, rfl⟩) | (go_at_call 16; (with_reducible refine (Kq.out _).mono ?_); rintro e w' ⟨rfl, rfl⟩))
          refine (K2.out _ _ HY.out.2.1).mono ?_
          rintro e w4 ⟨z2, rfl, hyz2, hlz2, hb4⟩
          have Hyz2 := Lib.hid hyz2; have Hlz2 := Lib.hid hlz2
          have HZ := Lib.hid (show (fun u => MtCell u U m1 ∧ FlAt u (.slice a2 M.length c2) M ∧ Below w.heap.size w u) w4 from ⟨HY.out.1.keep hb4, HY.out.2.1.later hb4, HY.out.2.2.trans (hb4.mono HY.out.2.2.size)⟩)
          clear hyz2 hlz2 hb4 HY
          go_upto_region 13 with (fail)
          refine wp_name (fun u => MtCell u U m1 ∧ FlAt u (.slice a2 M.length c2) M ∧ Below w.heap.size w u) HZ.out ?_
          clear HZ
          rintro Y hy
          have HY := Lib.hid hy
          clear hy
          go_wp2_with fail
          refine (K3.out _ _ HY.out.2.1).mono ?_
          rintro e w4 ⟨z3, rfl, hyz3, hlz3, hb4⟩
          have Hyz3 := Lib.hid hyz3; have Hlz3 := Lib.hid hlz3
          have HZ := Lib.hid (show (fun u => MtCell u U m1 ∧ FlAt u (.slice a2 M.length c2) M ∧ Below w.heap.size w u) w4 from ⟨HY.out.1.keep hb4, HY.out.2.1.later hb4, HY.out.2.2.trans (hb4.mono HY.out.2.2.size)⟩)
          clear hyz3 hlz3 hb4 HY
          go_upto_region 16 with (fail)
          refine wp_name (fun u => MtCell u U m1 ∧ FlAt u (.slice a2 M.length c2) M ∧ Below w.heap.size w u) HZ.out ?_
          clear HZ
          rintro Y hy
          have HY := Lib.hid hy
          clear hy
          go_wp2_with fail
          refine (K4.out _ _ HY.out.2.1).mono ?_
          rintro e w4 ⟨z4, rfl, hyz4, hlz4, hb4⟩
          have Hyz4 := Lib.hid hyz4; have Hlz4 := Lib.hid hlz4
          have HZ := Lib.hid (show (fun u => MtCell u U m1 ∧ FlAt u (.slice a2 M.length c2) M ∧ Below w.heap.size w u) w4 from ⟨HY.out.1.keep hb4, HY.out.2.1.later hb4, HY.out.2.2.trans (hb4.mono HY.out.2.2.size)⟩)
          clear hyz4 hlz4 hb4 HY
          go_upto_region 17 with (fail)
          refine wp_name (fun u => MtCell u U m1 ∧ FlAt u (.slice a2 M.length c2) M ∧ Below w.heap.size w u) HZ.out ?_
          clear HZ
          rintro Y hy
          have HY := Lib.hid hy
          clear hy
          obtain ⟨s3, s4, o1, o2, o3⟩ := Hfacts.out z1 z2 z3 z4 Hlz1.out Hlz2.out Hlz3.out Hlz4.out Hyz1.out Hyz2.out Hyz3.out Hyz4.out
          have or1 : ((FloatKind.f64.format.order z1 m1.Lo == some .gt) || (FloatKind.f64.format.order z1 m1.Lo == some .eq)) = true := by rcases o1 with h | ⟨-, h⟩ <;> rw [h] <;> simp
          have or2 : ((FloatKind.f64.format.order z1 m1.Hi == some .lt) || (FloatKind.f64.format.order z1 m1.Hi == some .eq)) = true := by rcases o2 with h | ⟨-, h⟩ <;> rw [h] <;> simp
          have K7 := Lib.hid (fun v => Kr.out z3 m1.Lo v)
          have K8 := Lib.hid (fun v => Kr.out z4 m1.Hi v)
          rw [show (rk z3 == rk m1.Lo) = true from beq_iff_eq.2 s3] at K7
          rw [show (rk z4 == rk m1.Hi) = true from beq_iff_eq.2 s4] at K8
          have O3 := Lib.hid o3
          clear s3 s4 o1 o2 o3 Hfacts Hyz2 Hyz3 Hyz4 K1 K2 K3 K4
          obtain ⟨N1, B1, x2, x3, x4, x5, x6, x7⟩ := m1
          obtain ⟨⟨⟨a0, a1, a2', a3, a4, a5, a6, a7⟩, -⟩, -, -⟩ := HY.out
          simp only at a0 a1 a2' a3 a4 a5 a6 a7 or1 or2 K7 K8
          go_upto_region 19 with (first | (go_at_call 15; (with_reducible refine (K7.out _).mono ?_); rintro e w' ⟨rfl, rfl⟩) | (go_at_call 15; (with_reducible refine (K8.out _).mono ?_); rintro e w' ⟨rfl, rfl⟩))
          have HY2 := Lib.hid HY.out.2
          clear HY a0 a1 a2' a3 a4 a5 a6 a7 or1 or2 K7 K8
          obtain ⟨iu, ii, hwi, hiu, hii, hri⟩ := idx_facts i M.length hpos
          obtain ⟨ju, jj, hwj, hju, hjj, hrj⟩ := idx_facts j M.length hpos
          have hwl : IntKind.u64.wrap (M.length : Int) = (M.length : Int) := by simp [IntKind.wrap, IntKind.bits, IntKind.signed]; omega
          have hwi2 : IntKind.i64.wrap (ii : Int) = (ii : Int) := by simp [IntKind.wrap, IntKind.bits, IntKind.signed]; omega
          have hwj2 : IntKind.i64.wrap (jj : Int) = (jj : Int) := by simp [IntKind.wrap, IntKind.bits, IntKind.signed]; omega
          have hz0 : ((M.length : Int) == 0) = false := beq_eq_false_iff_ne.2 (by omega)
          have hz1 : ¬ (M.length : Int) = 0 := by omega
          have hz2 : ¬ M.length = 0 := by omega
          cases hB : ((FloatKind.f64.format.order pb qb == some .lt) || (FloatKind.f64.format.order pb qb == some .eq))
          all_goals
            first
              | (have or4 : ((FloatKind.f64.format.order z1 z2 == some .lt) || (FloatKind.f64.format.order z1 z2 == some .eq)) = true := by
                  have := O3.out (by rw [Bool.or_eq_true] at hB; exact hB)
                  rcases this with h | ⟨-, h⟩ <;> rw [h] <;> simp)
              | skip
            go_upto_region 21 with (first | (go_at_call 16; (with_reducible refine (Kp.out _).mono ?_); rintro e w' ⟨rfl, rfl⟩) | (go_at_call 16; (with_reducible refine (Kq.out _).mono ?_); rintro e w' ⟨rfl, rfl⟩))
            go_wp2_with fail
            go_quiet (fail)
            clear hwi hwj hwl hwi2 hwj2 hri hrj hz0 hz1 hz2 hiu hju
            have HW := Lib.hid (show FlAt (Y.drewN nq) (.slice a2 M.length c2) M ∧ Below w.heap.size w (Y.drewN nq) from ⟨HY2.out.1.later (below_drewN (Below.refl _ _) nq), below_drewN HY2.out.2 nq⟩)
            go_upto_region 22 with (fail)
            refine wp_name (fun u => FlAt u (.slice a2 M.length c2) M ∧ Below w.heap.size w u) HW.out ?_
            clear HW HY2
            rintro Y2 hy
            have HY2 := Lib.hid hy
            obtain ⟨⟨-, a3, c3, he3, -, -, hr3⟩, hbz⟩ := hy
            simp only [Value.slice.injEq] at he3
            obtain ⟨rfl, -, rfl⟩ := he3
            obtain ⟨bl, off, rfl, hcl⟩ := hr3 hpos
            have Hnews := Lib.hid (show ∀ (k : Nat) (u : Value), (flatF M)[k]? = some u → (Y2.alloc (.cells #[] 26)).cell? ((⟨bl, off, none⟩ : Addr).add k) = some u from fun k u hk => by
              have hkl : k < M.length := by
                refine Nat.lt_of_not_le fun hn => ?_
                rw [List.getElem?_eq_none (by rw [flatF_len]; exact hn)] at hk
                cases hk
              rw [flatF_get M k hkl] at hk
              cases hk
              have hadd : (⟨bl, off, none⟩ : Addr).add k = ⟨bl, off + k, none⟩ := by unfold Addr.add; split <;> simp_all
              rw [hadd]
              exact cell_later (below_all Y2 _) (hcl k hkl))
            have hsz : w.heap.size ≤ Y2.heap.size := hbz.size
            have Hbz := Lib.hid hbz
            have Hemp := Lib.hid (own_empty (w := Y2) hsz)
            clear hr3 hcl hbz
            go_wp2_with (at_builtin; refine wpList_append_lies _ rfl _ _ 24 rfl w.heap.size 26 i0 (.float .f64 0) 1 8 Try.underlying24 Hi.out Hz0.out Hz1.out Hz2.out rfl (by decide) _ 0 _ rfl Hemp.out ⟨bl, off, none⟩ M.length c2 (flatF M) rfl (by rw [flatF_len, Nat.mul_one]) Hnews.out ?_ hpos ?_ ?_ ?_ _ rfl ?_)
            · intro u hu; obtain ⟨x, -, rfl⟩ := List.mem_map.1 hu; rfl
            · unfold maxLen; omega
            · omega
            · first | omega | (simp; omega)
            intro g cap w5 hown5 hgrow5 hlies5 hlt5
            have ho5 : w5.ownsRow w.heap.size 26 1 (.slice (some ⟨g, 0, none⟩) M.length cap) M.length (flatF M) := hown5
            have Hb5 := Lib.hid ((Hbz.out.alloc hsz _).grown hgrow5 (by simp; omega) (fun k hk => Nat.le_trans hsz (Nat.le_of_eq (by simpa [Value.ownBlock] using hk))))
            have Ho5 := Lib.hid ho5
            have HS := Lib.hid (fl_store HMw.out hii hjj ho5 Hb5.out)
            have HS1 := Lib.hid (fl_store1 HMw.out hii ho5 Hb5.out)
            have hx0 := (ho5.cellAt ii (by omega)).trans (flatF_get M ii hii)
            have hx1 := (ho5.cellAt jj (by omega)).trans (flatF_get M jj hjj)
            have hf0 := ho5.frozenAt ii
            have hf1 := ho5.frozenAt jj
            have hi3 : (ii : Int) < (M.length : Int) := by omega
            have hj3 : (jj : Int) < (M.length : Int) := by omega
            have hi4 : (0 : Int) ≤ (ii : Int) := by omega
            have hj4 : (0 : Int) ≤ (jj : Int) := by omega
            clear hown5 hgrow5 hlies5 ho5 Hnews Hemp Hbz
            by_cases hij : ii = jj
            · subst hij
              generalize M.getD ii 0 = x0 at *
              go_wp2_with fail
              go_region
              all_goals
                go_upto_region 24 with (fail)
                refine wp_name (TurnAt w M g cap) (by first | exact HS1.out | exact HS1.out.drewN 1 | exact HS.out | exact HS.out.drewN 1) ?_
                clear HS HS1 hx0 hx1 hf0 hf1
                rintro Y3 ⟨N, hN, hfl, hb3⟩
                have Hfl := Lib.hid hfl; have Hb3 := Lib.hid hb3
                have K6 := Lib.hid (fun v w h => K5.out N hN v w h)
                clear hfl hb3 hN
                go_wp2_with (first | (go_at_call 16; (with_reducible refine (Kp.out _).mono ?_); rintro e w' ⟨rfl, rfl⟩) | (go_at_call 16; (with_reducible refine (Kq.out _).mono ?_); rintro e w' ⟨rfl, rfl⟩))
                refine (K6.out _ _ Hfl.out).mono ?_
                rintro e w6 ⟨z5, rfl, hy5, hl5, hb6⟩
                have Hb6 := Lib.hid (Hb3.out.trans (hb6.mono Hb3.out.size))
                have K9 := Lib.hid (fun v => Kr.out z5 z1 v)
                rw [show (rk z5 == rk z1) = true from beq_iff_eq.2 ((nfW_rk hl5 Hlz1.out).1 (HU.out _ _ hy5 Hyz1.out))] at K9
                clear hy5 hl5 hb6
                go_wp2_with (go_at_call 15; (with_reducible refine (K9.out _).mono ?_); rintro e w' ⟨rfl, rfl⟩)
                go_ret
                exact ⟨rfl, Hb6.out⟩
            · have hji : ¬ jj = ii := fun h => hij h.symm
              generalize M.getD ii 0 = x0 at *
              generalize M.getD jj 0 = x1 at *
              go_wp2_with fail
              go_region
              all_goals
                go_upto_region 24 with (fail)
                refine wp_name (TurnAt w M g cap) (by first | exact HS.out | exact HS.out.drewN 1) ?_
                clear HS HS1 hx0 hx1 hf0 hf1
                rintro Y3 ⟨N, hN, hfl, hb3⟩
                have Hfl := Lib.hid hfl; have Hb3 := Lib.hid hb3
                have K6 := Lib.hid (fun v w h => K5.out N hN v w h)
                clear hfl hb3 hN
                go_wp2_with (first | (go_at_call 16; (with_reducible refine (Kp.out _).mono ?_); rintro e w' ⟨rfl, rfl⟩) | (go_at_call 16; (with_reducible refine (Kq.out _).mono ?_); rintro e w' ⟨rfl, rfl⟩))
                refine (K6.out _ _ Hfl.out).mono ?_
                rintro e w6 ⟨z5, rfl, hy5, hl5, hb6⟩
                have Hb6 := Lib.hid (Hb3.out.trans (hb6.mono Hb3.out.size))
                have K9 := Lib.hid (fun v => Kr.out z5 z1 v)
                rw [show (rk z5 == rk z1) = true from beq_iff_eq.2 ((nfW_rk hl5 Hlz1.out).1 (HU.out _ _ hy5 Hyz1.out))] at K9
                clear hy5 hl5 hb6
                go_wp2_with (go_at_call 15; (with_reducible refine (K9.out _).mono ?_); rintro e w' ⟨rfl, rfl⟩)
                go_ret
                exact ⟨rfl, Hb6.out⟩
end Go.Proofs.Ytecbbdbeihiioaa
