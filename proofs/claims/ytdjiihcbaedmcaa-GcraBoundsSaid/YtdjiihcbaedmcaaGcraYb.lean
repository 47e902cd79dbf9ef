/- The walk of GcraBounds, of more than 200 asks. PRINTED by gen_bounds.py. -/
import Derived.Test.YtdjiihcbaedmcaaGcraY
namespace Go.Proofs.Ytdjiihcbaedmcaa
open Go.RowKit

set_option maxHeartbeats 4000000 in
set_option maxRecDepth 100000 in
theorem bounds_sB (T0 tau0 tat0 from0 to0 T tau tat fr to : Int) (v : Value) (L : List (Int × Int)) (w : World) (h : AskAt w v L) (hpos : 0 < L.length) (hbig : ∀ i, (L.getD i (0, 0)).1 ≤ 9223372036854775807 ∧ (L.getD i (0, 0)).2 ≤ 9223372036854775807) (hlen : 200 < L.length) (hsw : to < fr)
    (kc : ∀ w, Calls Try.prog 37 #[limV T0 tau0, .int .i64 tat0, .int .i64 from0, .int .i64 to0] w (fun e w' => e = .returned (.tuple #[limV T tau, .int .i64 tat, .int .i64 fr, .int .i64 to]) ∧ Below w.heap.size w w'))
    (hlim : limB T tau = true) (htat : tickB tat = true) (hfr : tickB fr = true) (hto : tickB to = true) :
    Calls Try.prog 16 #[limV T0 tau0, .int .i64 tat0, v, .int .i64 from0, .int .i64 to0] w fun e w' => e = .returned (.bool true) ∧ Below w.heap.size w w' := by
  obtain ⟨a, c, rfl, hl, hc, hr⟩ := h
  unfold maxLen at hc
  unfold limV at *
  have Kc := Lib.hid kc
  clear kc
  obtain ⟨i0, hi, hz0, hz1', hz2'⟩ := info_parts info_rask
  have Hi := Lib.hid hi; have Hz0 := Lib.hid hz0; have Hz1 := Lib.hid hz1'; have Hz2 := Lib.hid hz2'
  clear hi hz0 hz1' hz2'
  obtain ⟨bb, off, rfl, hcell⟩ := hr hpos
  have hltb : bb < w.heap.size := World.block_lt_of_cell? _ _ (hcell 0 hpos).1
  have Hcell := Lib.hid hcell
  have Hbig := Lib.hid hbig
  clear hbig
  have Hlim := Lib.hid hlim; have Htat := Lib.hid htat; have Hfr := Lib.hid hfr; have Hto := Lib.hid hto
  clear hr hcell hlim htat hfr hto
  go_enter Try.func16, Try.ntmps16
  go_wp2_with fail
  refine (awake5 _).mono ?_
  rintro e w1 ⟨rfl, hb⟩
  obtain ⟨hc1, hf1⟩ := bcell hb
  have hz1 : w.heap.size < w1.heap.size := by have := hb.size; simp at this; omega
  have Hb := Lib.hid (below_past hb)
  clear hb
  go_wp2_with fail
  refine (Kc.out _).mono ?_
  rintro e w2 ⟨rfl, hb2⟩
  obtain ⟨hc2, hf2⟩ := bcell hb2
  have hz2 : w1.heap.size ≤ w2.heap.size := hb2.size
  have Hb2 : Hid (Below w.heap.size w w2) := Hb.out.trans (hb2.mono (by omega))
  clear hb2
  have Hnews : Hid (∀ (W : World), Below w.heap.size w W → ∀ (j : Nat) (u : Value), (flatA (L.take 200))[j]? = some u → W.cell? ((⟨bb, off, none⟩ : Addr).add j) = some u) :=
    Lib.hid fun W hW => flatA_news (by omega) fun i hi => ⟨cell_later hW (Hcell.out i hi).1, cell_later hW (Hcell.out i hi).2⟩
  have hq0 : w2.cell? ⟨w.heap.size, 0, none⟩ = some (.int .i64 T0) := by rw [hc2 _ _ hz1, hc1 _ _ (by simp)]; simp [go_sem]
  have hq1 : w2.cell? ⟨w.heap.size, 1, none⟩ = some (.int .i64 tau0) := by rw [hc2 _ _ hz1, hc1 _ _ (by simp)]; simp [go_sem]
  obtain ⟨w3, hw3⟩ : ∃ w3 : World, w3 = (((w2.setCell { block := w.heap.size, off := 0 } (Value.int IntKind.i64 T)).setCell { block := w.heap.size, off := 1 } (Value.int IntKind.i64 tau)).alloc (Obj.cells #[] 79)) := ⟨_, rfl⟩
  have Hb3 : Hid (Below w.heap.size w w3) := by
    subst hw3
    exact Lib.hid (((Hb2.out.setCell (p := ⟨w.heap.size, 0, none⟩) (Nat.le_refl _) _).setCell (p := ⟨w.heap.size, 1, none⟩) (Nat.le_refl _) _).alloc (by simp; omega) _)
  have Hown3 : Hid (w3.ownsRow w2.heap.size 79 2 (.slice (some ⟨w2.heap.size, 0, none⟩) 0 0) 0 []) := by
    subst hw3
    exact Lib.hid (own_new (by decide) (by simp))
  have Hl3 : Hid (w3.cell? ⟨w.heap.size, 0, none⟩ = some (.int .i64 T) ∧ w3.cell? ⟨w.heap.size, 1, none⟩ = some (.int .i64 tau)) := by
    subst hw3
    refine Lib.hid ⟨?_, ?_⟩
    · rw [World.cell?_alloc_lt _ _ _ (by simp; omega), World.cell?_setCell_other _ _ _ _ (by simp)]
      exact World.cell?_setCell_same _ _ _ hq0
    · rw [World.cell?_alloc_lt _ _ _ (by simp; omega)]
      exact World.cell?_setCell_same _ _ _ ((World.cell?_setCell_other _ _ _ _ (by simp)).trans hq1)
  clear hq0 hq1
  subst hw3
  go_wp2_with (at_builtin; refine wpList_append_own _ rfl _ _ 67 rfl w2.heap.size 79 i0 (.agg #[.int .i64 0, .int .i64 0]) 2 16 Try.underlying67 Hi.out Hz0.out Hz1.out Hz2.out rfl (by decide) _ _ _ rfl Hown3.out ⟨bb, off, none⟩ 200 c (flatA (L.take 200)) rfl ?_ (Hnews.out _ Hb3.out) ?_ ?_ ?_ ?_ ?_)
  · rw [flatA_len, List.length_take]; omega
  · exact flatA_one _
  · unfold maxLen; omega
  · omega
  · simp
  · intro v4 w4 hown4 hgrow4 _
    obtain ⟨L1, hL1⟩ : ∃ L1, L1 = L.take 200 := ⟨_, rfl⟩
    have hlen1 : L1.length = 200 := by rw [hL1, List.length_take]; omega
    have Hown4 : Hid (w4.ownsRow w2.heap.size 79 2 v4 L1.length (flatA L1)) := Lib.hid (by rw [hlen1, hL1]; simpa using hown4)
    have Hb4 : Hid (Below w.heap.size w w4) := Lib.hid (Hb3.out.grown hgrow4 (by simp; omega) (fun q hq => by simp [Value.ownBlock] at hq; omega))
    have hl4a : w4.cell? ⟨w.heap.size, 0, none⟩ = some (.int .i64 T) := hgrow4.cell Hl3.out.1 (by simp [Value.ownBlock]; omega)
    have hl4b : w4.cell? ⟨w.heap.size, 1, none⟩ = some (.int .i64 tau) := hgrow4.cell Hl3.out.2 (by simp [Value.ownBlock]; omega)
    have Hbig1 : Hid (∀ i, i < L1.length → (L1.getD i (0, 0)).1 ≤ 9223372036854775807 ∧ (L1.getD i (0, 0)).2 ≤ 9223372036854775807) := Lib.hid fun i hi => by
      have e : L1.getD i (0, 0) = L.getD i (0, 0) := by
        rw [hL1, List.getD_eq_getElem?_getD, List.getD_eq_getElem?_getD, List.getElem?_take_of_lt (by omega)]
      rw [e]; exact Hbig.out i
    clear hown4 hgrow4 hL1 hc1 hf1 hc2 hf2
    obtain ⟨a4, c4, rfl, hn4, hm4, hr4⟩ := own_shape Hown4.out
    obtain ⟨g4, rfl, ho4⟩ := hr4 (by omega)
    have hg4 := Hown4.out.lt g4 rfl
    have Hrow4 := Lib.hid (row_of_own Hown4.out)
    have Hlen1 := Lib.hid hlen1
    have hl200 : L1.length ≤ 200 ∧ 0 < L1.length := by omega
    clear hr4 hlen1
    have Hst : Hid (BRel w T tau L1 g4 0 w4) := Lib.hid ⟨by simpa [mixL, clampL] using Hrow4.out, hl4a, hl4b, hg4.2, by omega, Hb4.out⟩
    go_wp2
    go_loopw [11, 12, 50] (fun last _ i wr => ∃ k : Nat, i = .int .i64 k ∧ k ≤ L1.length ∧ last = .int .i64 (lastL 0 (L1.take k)) ∧ BRel w T tau L1 g4 k wr) (fun _ _ i _ => L1.length - (intOf i).toNat)
    case atStart => exact ⟨0, rfl, Nat.zero_le _, rfl, Hst.out⟩
    case round =>
      obtain ⟨k, rfl, hk, rfl, hrow, hl0, hl1, hgz, hz5, hbel⟩ := hrel
      have Hrow := Lib.hid hrow; have Hbel := Lib.hid hbel
      clear hrow hbel Hst hl4a hl4b
      by_cases hA : k < L1.length
      · have hkm : k < (mixL k L1).length := by rw [mixL_len _ _ hk]; exact hA
        obtain ⟨hx0, hx1, hx2, hx3⟩ := Hrow.out.at hkm (mixL_at hA)
        have hbg := Hbig1.out k hA
        have Hnext : Hid (mixL (k + 1) L1 = (mixL k L1).set k (max (clampI (L1.getD k (0, 0)).1) (lastL 0 (L1.take k)), clampI (L1.getD k (0, 0)).2) ∧ lastL 0 (L1.take (k + 1)) = max (clampI (L1.getD k (0, 0)).1) (lastL 0 (L1.take k))) := Lib.hid ⟨mixL_next hA, by rw [take_snocA hA, lastL_snoc]⟩
        have hmk := mixL_at hA
        generalize hp : L1.getD k (0, 0) = p at *
        clear hp
        obtain ⟨x, y⟩ := p
        have Kx := Lib.hid (fun v => rclamp_any x v hbg.1)
        have Ky := Lib.hid (fun v => rclamp_any y v hbg.2)
        clear hbg
        go_wp2_with fail
        refine (Kx.out _).mono ?_
        rintro e w5 ⟨rfl, hb5⟩
        obtain ⟨hc5, hf5⟩ := bcell hb5
        have hz6 : wr.heap.size ≤ w5.heap.size := hb5.size
        have Hb5 := Lib.hid hb5
        clear hb5
        generalize clampI x = cx at *
        generalize clampI y = cy at *
        generalize lastL 0 (L1.take k) = la at *
        have Hrow5 := Lib.hid (Hrow.out.later Hb5.out (fun _ => hgz))
        go_wp2_with fail
        all_goals
          refine (Ky.out _).mono ?_
          rintro e w6 ⟨rfl, hb6⟩
          have Hrow6 : Hid (RowIs w6 g4 ((mixL k L1).set k (max cx la, y))) := Lib.hid (by
            have h1 := Hrow5.out.put1 hkm (max cx la)
            rw [hmk] at h1
            refine RowIs.later ?_ hb6 (fun _ => by simp; omega)
            first
              | (rw [show max cx la = cx by omega] at h1 ⊢; exact h1)
              | (rw [show max cx la = la by omega] at h1 ⊢; exact h1))
          have hkm6 : k < ((mixL k L1).set k (max cx la, y)).length := by rw [List.length_set]; exact hkm
          obtain ⟨hy0, hy1, hy2, hy3⟩ := Hrow6.out.at hkm6 (getD_set_same hkm)
          have hb6s := hb6.size
          have Hb6 := Lib.hid hb6
          clear hb6
          have Hnew : Hid (BRel w T tau L1 g4 (k + 1) (w6.setCell ⟨g4, k * 2 + 1, none⟩ (.int .i64 cy))) := Lib.hid (by
            have h2 := Hrow6.out.put2 hkm6 cy
            rw [getD_set_same hkm, List.set_set] at h2
            have hbel6 : Below w.heap.size w w6 := ((Hbel.out.trans (Hb5.out.mono (by omega))).setCell (p := ⟨g4, k * 2, none⟩) (by simp; omega) _).trans (Hb6.out.mono (by simp; omega))
            refine ⟨by rw [Hnext.out.1]; exact h2, ?_, ?_, by simp at hb6s ⊢; omega, by simp at hb6s ⊢; omega, hbel6.setCell (by simp; omega) _⟩
            · rw [World.cell?_setCell_other _ _ _ _ (by first | (simp; done) | (simp; omega))]
              exact cell_later Hb6.out ((World.cell?_setCell_other _ _ _ _ (by first | (simp; done) | (simp; omega))).trans (cell_later Hb5.out hl0))
            · rw [World.cell?_setCell_other _ _ _ _ (by first | (simp; done) | (simp; omega))]
              exact cell_later Hb6.out ((World.cell?_setCell_other _ _ _ _ (by first | (simp; done) | (simp; omega))).trans (cell_later Hb5.out hl1)))
          go_wp2_with fail
          go_roundw
          case rel => exact ⟨k + 1, by go_num, by omega, by rw [Hnext.out.2], Hnew.out⟩
          case measure => simp [intOf]; omega
      · obtain rfl : k = L1.length := by omega
        have hlen2 := clampL_len L1 0
        have hmix : mixL L1.length L1 = clampL 0 L1 := by simp [mixL]
        have Hrow7 : Hid (RowIs wr g4 (clampL 0 L1)) := Lib.hid (by rw [← hmix]; exact Hrow.out)
        have Hask7 : Hid (AskAt wr (.slice (some ⟨g4, 0, none⟩) L1.length c4) (clampL 0 L1)) := Lib.hid ⟨some ⟨g4, 0, none⟩, c4, by rw [hlen2], by omega, hm4, fun _ => ⟨g4, 0, rfl, fun i hi => by
          obtain ⟨h0, h1, -⟩ := Hrow7.out i hi
          rw [Nat.zero_add]
          exact ⟨h0, h1⟩⟩⟩
        clear hmix Hrow
        go_wp2_with fail
        refine (asks_any _ (clampL 0 L1) _ Hask7.out (by omega)).mono ?_
        rintro e w5 ⟨v5, rfl, hown5, hb5⟩
        have hz6 : wr.heap.size ≤ w5.heap.size := hb5.size
        have Hb7 : Hid (Below wr.heap.size wr w5) := Lib.hid hb5
        have Hbel7 : Hid (Below w.heap.size w w5) := Lib.hid (Hbel.out.trans (hb5.mono (by omega)))
        have hfull : (clampL 0 L1 ++ [((77, 78) : Int × Int)]).length = (clampL 0 L1).length + 1 := by simp
        have Hown5 := Lib.hid hown5
        obtain ⟨a5, c5, rfl, hn5, hm5, hr5⟩ := own_shape hown5
        obtain ⟨g5, rfl, ho5⟩ := hr5 (by omega)
        have Hask := Lib.hid (ask_of_own (M := [(77, 78)]) (by rw [hfull]; exact Hown5.out) hm5 (by rw [hfull]; exact hn5))
        have hlt5 := (hown5.lt g5 rfl).2
        have hl5a := cell_later hb5 hl0
        have hl5b := cell_later hb5 hl1
        have Hl5 := Lib.hid (And.intro hl5a hl5b)
        clear hown5 hb5 hr5
        have hok : okRun T tau tat (clampL 0 L1) = true := by
          unfold okRun
          rw [Hlim.out, Htat.out, clampL_ok L1 0 (by decide)]
          rfl
        have K1 := Lib.hid (fun u W (h : AskAt W u (clampL 0 L1)) => run_yes T tau tat u (clampL 0 L1) W h hok (by omega))
        unfold limV at K1
        have hi0 : (0 : Int) ≤ (L1.length : Int) := by omega
        have hi1 : (L1.length : Int) ≤ (c5 : Int) := by omega
        have Hask2 := Lib.hid (Hask.out.later (Below.refl _ _).drew)
        rw [hlen2] at Hask2
        clear hok
        go_wp2_with fail
        go_region_held3 (fun w' => w'.cell? ⟨w.heap.size, 0, none⟩ = some (.int .i64 T) ∧ w'.cell? ⟨w.heap.size, 1, none⟩ = some (.int .i64 tau)) (first | exact Hl5.out | exact Hl6.out) (first | (go_at_call 46; (with_reducible refine (K1.out _ _ (Hask2.out)).mono ?_); rintro e w6 ⟨v6, rfl, hown6, hb6⟩; have Hl6 := Lib.hid (And.intro (cell_later hb6 Hl5.out.1) (cell_later hb6 Hl5.out.2)); have Hown6 := Lib.hid hown6; have Hb6 := Lib.hid hb6; clear hown6 hb6))
        obtain ⟨a6, c6, rfl, hn6, hm6, hr6⟩ := own_shape Hown6.out
        obtain ⟨g6, rfl, ho6⟩ := hr6 (by omega)
        have hz7 : w5.heap.size ≤ w6.heap.size := Hb6.out.size
        have Hbel8 : Hid (Below w.heap.size w w6) := Lib.hid (Hbel7.out.trans ((Below.trans (Below.refl _ w5).drew Hb6.out).mono (show w.heap.size ≤ w5.heap.size by omega)))
        have hl6a := Hl6.out.1
        have hl6b := Hl6.out.2
        clear hr6 hl0 hl1 hl5a hl5b
        have hft := tickB_yes Hfr.out
        have htt := tickB_yes Hto.out
        have hspan : tickB (fr - to) = true := tickB_mk (by omega) (by omega)
        have hws : IntKind.i64.wrap (fr - to) = fr - to := by first | exact IntWalk.i64_in _ (by omega) | exact IntWalk.wrap64_in _ (by omega)
        have Kw := Lib.hid (fun v => within_yes T tau (fr - to) v Hlim.out hspan)
        have Ko := Lib.hid (fun v => once_of T tau _ _ v (fun v => within_yes T tau 0 v Hlim.out (by decide)))
        unfold limV at Kw Ko
        go_wp2_with fail
        refine (Kw.out _).mono ?_
        rintro e w7 ⟨rfl, hb7⟩
        have hz8 : w6.heap.size ≤ w7.heap.size := hb7.size
        have Hb8 := Lib.hid hb7
        have hl7a := cell_later hb7 hl6a
        have hl7b := cell_later hb7 hl6b
        clear hb7 hl6a hl6b
        go_wp2_with fail
        refine (Ko.out _).mono ?_
        rintro e w8 ⟨rfl, hb9⟩
        have hz9 : w7.heap.size ≤ w8.heap.size := hb9.size
        have Hbel9 : Hid (Below w.heap.size w w8) := Lib.hid (Hbel8.out.trans ((Hb8.out.trans (hb9.mono hz8)).mono (by omega)))
        have Hb9 : Hid (Below w6.heap.size w6 w8) := Lib.hid (Hb8.out.trans (hb9.mono hz8))
        clear hb9 hl7a hl7b
        have hall : (clampL 0 L1).all okA = true := clampL_ok L1 0 (by decide)
        have hpos2 := ok_pos hall
        have Hin := Lib.hid (fun k => bsum_in (a := to) (b := fr) (tat := tat) Hlim.out (by omega) hpos2 k)
        have Hfit := Lib.hid (fun (k : Nat) (hk : k < (clampL 0 L1).length) => fits (a := to) (b := fr) (tat := tat) Hlim.out (by omega) hpos2 hk)
        have Honce := Lib.hid (fun (t x y : Int) (hg : decG T tau t x y = true) (hy : 0 ≤ y) => grant_once Hlim.out hg hy)
        have Hbs := Lib.hid (fun (k : Nat) (hk : k < (clampL 0 L1).length) => bsum_next T tau to fr tat hk)
        have Hrt := Lib.hid (fun (k : Nat) (hk : k < (clampL 0 L1).length) => runTat_next T tau tat hk)
        have Hc6 : Hid (∀ k, k < L1.length → w8.cell? ⟨g6, k * 4, none⟩ = some (.bool (decG T tau (runTat T tau tat ((clampL 0 L1).take k)) ((clampL 0 L1).getD k (0, 0)).1 ((clampL 0 L1).getD k (0, 0)).2)) ∧ w8.cell? ⟨g6, k * 4 + 1, none⟩ = some (.int .i64 (decTat T tau (runTat T tau tat ((clampL 0 L1).take k)) ((clampL 0 L1).getD k (0, 0)).1 ((clampL 0 L1).getD k (0, 0)).2))) := Lib.hid fun k hk => by
          obtain ⟨q0, q1⟩ := runC_at T tau (clampL 0 L1) tat k (by omega)
          exact ⟨cell_later Hb9.out (own_cell Hown6.out ho6 q0), cell_later Hb9.out (own_cell Hown6.out ho6 q1)⟩
        have Hc4 : Hid (∀ k, k < L1.length → w8.cell? ⟨g4, k * 2, none⟩ = some (.int .i64 ((clampL 0 L1).getD k (0, 0)).1) ∧ w8.cell? ⟨g4, k * 2 + 1, none⟩ = some (.int .i64 ((clampL 0 L1).getD k (0, 0)).2)) := Lib.hid fun k hk => by
          obtain ⟨q0, q1, -⟩ := Hrow7.out k (by omega)
          have hl (a : Addr) (v : Value) (h : wr.cell? a = some v) : w8.cell? a = some v :=
            cell_later Hb9.out (cell_later Hb6.out (cell_later (Below.refl w5.heap.size w5).drew (cell_later Hb7.out h)))
          exact ⟨hl _ _ q0, hl _ _ q1⟩
        have Hpos := Lib.hid (fun (k : Nat) (hk : k < (clampL 0 L1).length) => ok_at hall hk)
        have hlm := limB_yes Hlim.out
        have htau := tickB_yes hlm.2.2
        have hmb : 0 ≤ (fr - to + tau) / T + 1 ∧ (fr - to + tau) / T + 1 ≤ 9223372036854775807 := by
          have h0 : 0 ≤ (fr - to + tau) / T := Int.ediv_nonneg (by omega) (by omega)
          have h1 : (fr - to + tau) / T ≤ fr - to + tau := Int.ediv_le_self _ (by omega)
          omega
        have hob : 0 ≤ tau / T + 1 ∧ tau / T + 1 ≤ 9223372036854775807 := by
          have h0 : 0 ≤ tau / T := Int.ediv_nonneg (by omega) (by omega)
          have h1 : tau / T ≤ tau := Int.ediv_le_self _ (by omega)
          omega
        clear hall hpos2 Hown6 Hrow7 ho6 Hb6 Hb7 Hb9 Hb8
        simp only [Int.zero_add] at Honce
        go_wp2
        generalize hmo : (fr - to + tau) / T + 1 = mo at *
        generalize hon : tau / T + 1 = on at *
        clear hmo hon
        go_loopw [20, 21, 127] (fun lf at' i wr => ∃ k : Nat, i = .int .i64 k ∧ k ≤ L1.length ∧ lf = .int .i64 (mo - bsum T tau to fr tat ((clampL 0 L1).take k)) ∧ at' = .int .i64 (runTat T tau tat ((clampL 0 L1).take k)) ∧ Below w8.heap.size w8 wr) (fun _ _ i _ => L1.length - (intOf i).toNat)
        case atStart => exact ⟨0, rfl, Nat.zero_le _, by simp [bsum], by simp [runTat], Below.refl _ _⟩
        case round =>
          obtain ⟨k, rfl, hk, rfl, rfl, hbelq⟩ := hrel
          have Hbelq := Lib.hid hbelq
          have hzq : w8.heap.size ≤ wr.heap.size := hbelq.size
          clear hbelq
          by_cases hA : k < L1.length
          · have hkM : k < (clampL 0 L1).length := by omega
            have hy0 := cell_later Hbelq.out (Hc6.out k hA).1
            have hy1 := cell_later Hbelq.out (Hc6.out k hA).2
            have hx0 := cell_later Hbelq.out (Hc4.out k hA).1
            have hx1 := cell_later Hbelq.out (Hc4.out k hA).2
            have hlt4 := World.block_lt_of_cell? _ _ hx0
            have hlt6 := World.block_lt_of_cell? _ _ hy0
            have hpk := Hpos.out k hkM
            have hin := Hin.out k
            have hfit := Lib.hid (Hfit.out k hkM)
            have hbs := Lib.hid (Hbs.out k hkM)
            have hrt := Lib.hid (Hrt.out k hkM)
            have hon := Lib.hid (Honce.out (runTat T tau tat ((clampL 0 L1).take k)) ((clampL 0 L1).getD k (0, 0)).1 ((clampL 0 L1).getD k (0, 0)).2)
            have Hkeep := Lib.hid (@deny_keeps T tau (runTat T tau tat ((clampL 0 L1).take k)) ((clampL 0 L1).getD k (0, 0)).1 ((clampL 0 L1).getD k (0, 0)).2)
            unfold bcost at hbs
            generalize (clampL 0 L1).getD k (0, 0) = p at *
            generalize runTat T tau tat ((clampL 0 L1).take k) = t at *
            generalize bsum T tau to fr tat ((clampL 0 L1).take k) = S at *
            obtain ⟨x, y⟩ := p
            simp only at hy0 hy1 hx0 hx1 hfit hbs hrt hon Hkeep
            simp only [okA, Bool.and_eq_true] at hpk
            have hpx := tickB_yes hpk.1
            have hpy := tickB_yes hpk.2
            clear hpk
            have hk0 : (0 : Int) ≤ (k : Int) := by omega
            have hk1 : (k : Int) < (L1.length : Int) := by omega
            cases hg : decG T tau t x y with
            | false =>
              have hkp := Hkeep.out hg
              rw [hg] at hy0
              rw [hkp] at hy1 hrt
              rw [hg, if_neg (by simp)] at hbs
              clear hkp Hkeep hfit hon hg
              go_wp2_with fail
              go_roundw
              case rel => exact ⟨k + 1, by go_num, by omega, by rw [hbs.out]; go_num, by rw [hrt.out], Hbelq.out.alloc Hbelq.out.size _⟩
              case measure => simp [intOf]; omega
            | true =>
              have hyo := hon.out hg (by omega)
              rw [hg] at hy0
              by_cases hwin : to ≤ x ∧ x ≤ fr
              · have hft := hfit.out hg hwin.1 hwin.2
                have hwin1 := hwin.1
                have hwin2 := hwin.2
                rw [if_pos ⟨hg, hwin⟩] at hbs
                clear hwin Hkeep hfit hon hg
                generalize decTat T tau t x y = d at *
                go_wp2_with fail
                go_roundw
                case rel => exact ⟨k + 1, by go_num, by omega, by rw [hbs.out]; go_num, by rw [hrt.out], Hbelq.out.alloc Hbelq.out.size _⟩
                case measure => simp [intOf]; omega
              · rw [if_neg (fun h => hwin h.2)] at hbs
                clear Hkeep hfit hon hg
                generalize decTat T tau t x y = d at *
                by_cases hlo : to ≤ x
                all_goals
                  have hhi : to ≤ x → fr < x := by omega
                  clear hwin
                  first | have hhi' := hhi (by assumption) | skip
                  clear hhi
                  go_wp2_with fail
                  go_roundw
                  case rel => exact ⟨k + 1, by go_num, by omega, by rw [hbs.out]; go_num, by rw [hrt.out], Hbelq.out.alloc Hbelq.out.size _⟩
                  case measure => simp [intOf]; omega
          · obtain rfl : k = L1.length := by omega
            go_wp2
            go_ret
            exact ⟨rfl, Hbel9.out.trans (Hbelq.out.mono (by omega))⟩

set_option maxHeartbeats 4000000 in
set_option maxRecDepth 100000 in
theorem bounds_nB (T0 tau0 tat0 from0 to0 T tau tat fr to : Int) (v : Value) (L : List (Int × Int)) (w : World) (h : AskAt w v L) (hpos : 0 < L.length) (hbig : ∀ i, (L.getD i (0, 0)).1 ≤ 9223372036854775807 ∧ (L.getD i (0, 0)).2 ≤ 9223372036854775807) (hlen : 200 < L.length) (hsw : fr ≤ to)
    (kc : ∀ w, Calls Try.prog 37 #[limV T0 tau0, .int .i64 tat0, .int .i64 from0, .int .i64 to0] w (fun e w' => e = .returned (.tuple #[limV T tau, .int .i64 tat, .int .i64 fr, .int .i64 to]) ∧ Below w.heap.size w w'))
    (hlim : limB T tau = true) (htat : tickB tat = true) (hfr : tickB fr = true) (hto : tickB to = true) :
    Calls Try.prog 16 #[limV T0 tau0, .int .i64 tat0, v, .int .i64 from0, .int .i64 to0] w fun e w' => e = .returned (.bool true) ∧ Below w.heap.size w w' := by
  obtain ⟨a, c, rfl, hl, hc, hr⟩ := h
  unfold maxLen at hc
  unfold limV at *
  have Kc := Lib.hid kc
  clear kc
  obtain ⟨i0, hi, hz0, hz1', hz2'⟩ := info_parts info_rask
  have Hi := Lib.hid hi; have Hz0 := Lib.hid hz0; have Hz1 := Lib.hid hz1'; have Hz2 := Lib.hid hz2'
  clear hi hz0 hz1' hz2'
  obtain ⟨bb, off, rfl, hcell⟩ := hr hpos
  have hltb : bb < w.heap.size := World.block_lt_of_cell? _ _ (hcell 0 hpos).1
  have Hcell := Lib.hid hcell
  have Hbig := Lib.hid hbig
  clear hbig
  have Hlim := Lib.hid hlim; have Htat := Lib.hid htat; have Hfr := Lib.hid hfr; have Hto := Lib.hid hto
  clear hr hcell hlim htat hfr hto
  go_enter Try.func16, Try.ntmps16
  go_wp2_with fail
  refine (awake5 _).mono ?_
  rintro e w1 ⟨rfl, hb⟩
  obtain ⟨hc1, hf1⟩ := bcell hb
  have hz1 : w.heap.size < w1.heap.size := by have := hb.size; simp at this; omega
  have Hb := Lib.hid (below_past hb)
  clear hb
  go_wp2_with fail
  refine (Kc.out _).mono ?_
  rintro e w2 ⟨rfl, hb2⟩
  obtain ⟨hc2, hf2⟩ := bcell hb2
  have hz2 : w1.heap.size ≤ w2.heap.size := hb2.size
  have Hb2 : Hid (Below w.heap.size w w2) := Hb.out.trans (hb2.mono (by omega))
  clear hb2
  have Hnews : Hid (∀ (W : World), Below w.heap.size w W → ∀ (j : Nat) (u : Value), (flatA (L.take 200))[j]? = some u → W.cell? ((⟨bb, off, none⟩ : Addr).add j) = some u) :=
    Lib.hid fun W hW => flatA_news (by omega) fun i hi => ⟨cell_later hW (Hcell.out i hi).1, cell_later hW (Hcell.out i hi).2⟩
  have hq0 : w2.cell? ⟨w.heap.size, 0, none⟩ = some (.int .i64 T0) := by rw [hc2 _ _ hz1, hc1 _ _ (by simp)]; simp [go_sem]
  have hq1 : w2.cell? ⟨w.heap.size, 1, none⟩ = some (.int .i64 tau0) := by rw [hc2 _ _ hz1, hc1 _ _ (by simp)]; simp [go_sem]
  obtain ⟨w3, hw3⟩ : ∃ w3 : World, w3 = (((w2.setCell { block := w.heap.size, off := 0 } (Value.int IntKind.i64 T)).setCell { block := w.heap.size, off := 1 } (Value.int IntKind.i64 tau)).alloc (Obj.cells #[] 79)) := ⟨_, rfl⟩
  have Hb3 : Hid (Below w.heap.size w w3) := by
    subst hw3
    exact Lib.hid (((Hb2.out.setCell (p := ⟨w.heap.size, 0, none⟩) (Nat.le_refl _) _).setCell (p := ⟨w.heap.size, 1, none⟩) (Nat.le_refl _) _).alloc (by simp; omega) _)
  have Hown3 : Hid (w3.ownsRow w2.heap.size 79 2 (.slice (some ⟨w2.heap.size, 0, none⟩) 0 0) 0 []) := by
    subst hw3
    exact Lib.hid (own_new (by decide) (by simp))
  have Hl3 : Hid (w3.cell? ⟨w.heap.size, 0, none⟩ = some (.int .i64 T) ∧ w3.cell? ⟨w.heap.size, 1, none⟩ = some (.int .i64 tau)) := by
    subst hw3
    refine Lib.hid ⟨?_, ?_⟩
    · rw [World.cell?_alloc_lt _ _ _ (by simp; omega), World.cell?_setCell_other _ _ _ _ (by simp)]
      exact World.cell?_setCell_same _ _ _ hq0
    · rw [World.cell?_alloc_lt _ _ _ (by simp; omega)]
      exact World.cell?_setCell_same _ _ _ ((World.cell?_setCell_other _ _ _ _ (by simp)).trans hq1)
  clear hq0 hq1
  subst hw3
  go_wp2_with (at_builtin; refine wpList_append_own _ rfl _ _ 67 rfl w2.heap.size 79 i0 (.agg #[.int .i64 0, .int .i64 0]) 2 16 Try.underlying67 Hi.out Hz0.out Hz1.out Hz2.out rfl (by decide) _ _ _ rfl Hown3.out ⟨bb, off, none⟩ 200 c (flatA (L.take 200)) rfl ?_ (Hnews.out _ Hb3.out) ?_ ?_ ?_ ?_ ?_)
  · rw [flatA_len, List.length_take]; omega
  · exact flatA_one _
  · unfold maxLen; omega
  · omega
  · simp
  · intro v4 w4 hown4 hgrow4 _
    obtain ⟨L1, hL1⟩ : ∃ L1, L1 = L.take 200 := ⟨_, rfl⟩
    have hlen1 : L1.length = 200 := by rw [hL1, List.length_take]; omega
    have Hown4 : Hid (w4.ownsRow w2.heap.size 79 2 v4 L1.length (flatA L1)) := Lib.hid (by rw [hlen1, hL1]; simpa using hown4)
    have Hb4 : Hid (Below w.heap.size w w4) := Lib.hid (Hb3.out.grown hgrow4 (by simp; omega) (fun q hq => by simp [Value.ownBlock] at hq; omega))
    have hl4a : w4.cell? ⟨w.heap.size, 0, none⟩ = some (.int .i64 T) := hgrow4.cell Hl3.out.1 (by simp [Value.ownBlock]; omega)
    have hl4b : w4.cell? ⟨w.heap.size, 1, none⟩ = some (.int .i64 tau) := hgrow4.cell Hl3.out.2 (by simp [Value.ownBlock]; omega)
    have Hbig1 : Hid (∀ i, i < L1.length → (L1.getD i (0, 0)).1 ≤ 9223372036854775807 ∧ (L1.getD i (0, 0)).2 ≤ 9223372036854775807) := Lib.hid fun i hi => by
      have e : L1.getD i (0, 0) = L.getD i (0, 0) := by
        rw [hL1, List.getD_eq_getElem?_getD, List.getD_eq_getElem?_getD, List.getElem?_take_of_lt (by omega)]
      rw [e]; exact Hbig.out i
    clear hown4 hgrow4 hL1 hc1 hf1 hc2 hf2
    obtain ⟨a4, c4, rfl, hn4, hm4, hr4⟩ := own_shape Hown4.out
    obtain ⟨g4, rfl, ho4⟩ := hr4 (by omega)
    have hg4 := Hown4.out.lt g4 rfl
    have Hrow4 := Lib.hid (row_of_own Hown4.out)
    have Hlen1 := Lib.hid hlen1
    have hl200 : L1.length ≤ 200 ∧ 0 < L1.length := by omega
    clear hr4 hlen1
    have Hst : Hid (BRel w T tau L1 g4 0 w4) := Lib.hid ⟨by simpa [mixL, clampL] using Hrow4.out, hl4a, hl4b, hg4.2, by omega, Hb4.out⟩
    go_wp2
    go_loopw [11, 12, 50] (fun last _ i wr => ∃ k : Nat, i = .int .i64 k ∧ k ≤ L1.length ∧ last = .int .i64 (lastL 0 (L1.take k)) ∧ BRel w T tau L1 g4 k wr) (fun _ _ i _ => L1.length - (intOf i).toNat)
    case atStart => exact ⟨0, rfl, Nat.zero_le _, rfl, Hst.out⟩
    case round =>
      obtain ⟨k, rfl, hk, rfl, hrow, hl0, hl1, hgz, hz5, hbel⟩ := hrel
      have Hrow := Lib.hid hrow; have Hbel := Lib.hid hbel
      clear hrow hbel Hst hl4a hl4b
      by_cases hA : k < L1.length
      · have hkm : k < (mixL k L1).length := by rw [mixL_len _ _ hk]; exact hA
        obtain ⟨hx0, hx1, hx2, hx3⟩ := Hrow.out.at hkm (mixL_at hA)
        have hbg := Hbig1.out k hA
        have Hnext : Hid (mixL (k + 1) L1 = (mixL k L1).set k (max (clampI (L1.getD k (0, 0)).1) (lastL 0 (L1.take k)), clampI (L1.getD k (0, 0)).2) ∧ lastL 0 (L1.take (k + 1)) = max (clampI (L1.getD k (0, 0)).1) (lastL 0 (L1.take k))) := Lib.hid ⟨mixL_next hA, by rw [take_snocA hA, lastL_snoc]⟩
        have hmk := mixL_at hA
        generalize hp : L1.getD k (0, 0) = p at *
        clear hp
        obtain ⟨x, y⟩ := p
        have Kx := Lib.hid (fun v => rclamp_any x v hbg.1)
        have Ky := Lib.hid (fun v => rclamp_any y v hbg.2)
        clear hbg
        go_wp2_with fail
        refine (Kx.out _).mono ?_
        rintro e w5 ⟨rfl, hb5⟩
        obtain ⟨hc5, hf5⟩ := bcell hb5
        have hz6 : wr.heap.size ≤ w5.heap.size := hb5.size
        have Hb5 := Lib.hid hb5
        clear hb5
        generalize clampI x = cx at *
        generalize clampI y = cy at *
        generalize lastL 0 (L1.take k) = la at *
        have Hrow5 := Lib.hid (Hrow.out.later Hb5.out (fun _ => hgz))
        go_wp2_with fail
        all_goals
          refine (Ky.out _).mono ?_
          rintro e w6 ⟨rfl, hb6⟩
          have Hrow6 : Hid (RowIs w6 g4 ((mixL k L1).set k (max cx la, y))) := Lib.hid (by
            have h1 := Hrow5.out.put1 hkm (max cx la)
            rw [hmk] at h1
            refine RowIs.later ?_ hb6 (fun _ => by simp; omega)
            first
              | (rw [show max cx la = cx by omega] at h1 ⊢; exact h1)
              | (rw [show max cx la = la by omega] at h1 ⊢; exact h1))
          have hkm6 : k < ((mixL k L1).set k (max cx la, y)).length := by rw [List.length_set]; exact hkm
          obtain ⟨hy0, hy1, hy2, hy3⟩ := Hrow6.out.at hkm6 (getD_set_same hkm)
          have hb6s := hb6.size
          have Hb6 := Lib.hid hb6
          clear hb6
          have Hnew : Hid (BRel w T tau L1 g4 (k + 1) (w6.setCell ⟨g4, k * 2 + 1, none⟩ (.int .i64 cy))) := Lib.hid (by
            have h2 := Hrow6.out.put2 hkm6 cy
            rw [getD_set_same hkm, List.set_set] at h2
            have hbel6 : Below w.heap.size w w6 := ((Hbel.out.trans (Hb5.out.mono (by omega))).setCell (p := ⟨g4, k * 2, none⟩) (by simp; omega) _).trans (Hb6.out.mono (by simp; omega))
            refine ⟨by rw [Hnext.out.1]; exact h2, ?_, ?_, by simp at hb6s ⊢; omega, by simp at hb6s ⊢; omega, hbel6.setCell (by simp; omega) _⟩
            · rw [World.cell?_setCell_other _ _ _ _ (by first | (simp; done) | (simp; omega))]
              exact cell_later Hb6.out ((World.cell?_setCell_other _ _ _ _ (by first | (simp; done) | (simp; omega))).trans (cell_later Hb5.out hl0))
            · rw [World.cell?_setCell_other _ _ _ _ (by first | (simp; done) | (simp; omega))]
              exact cell_later Hb6.out ((World.cell?_setCell_other _ _ _ _ (by first | (simp; done) | (simp; omega))).trans (cell_later Hb5.out hl1)))
          go_wp2_with fail
          go_roundw
          case rel => exact ⟨k + 1, by go_num, by omega, by rw [Hnext.out.2], Hnew.out⟩
          case measure => simp [intOf]; omega
      · obtain rfl : k = L1.length := by omega
        have hlen2 := clampL_len L1 0
        have hmix : mixL L1.length L1 = clampL 0 L1 := by simp [mixL]
        have Hrow7 : Hid (RowIs wr g4 (clampL 0 L1)) := Lib.hid (by rw [← hmix]; exact Hrow.out)
        have Hask7 : Hid (AskAt wr (.slice (some ⟨g4, 0, none⟩) L1.length c4) (clampL 0 L1)) := Lib.hid ⟨some ⟨g4, 0, none⟩, c4, by rw [hlen2], by omega, hm4, fun _ => ⟨g4, 0, rfl, fun i hi => by
          obtain ⟨h0, h1, -⟩ := Hrow7.out i hi
          rw [Nat.zero_add]
          exact ⟨h0, h1⟩⟩⟩
        clear hmix Hrow
        go_wp2_with fail
        refine (asks_any _ (clampL 0 L1) _ Hask7.out (by omega)).mono ?_
        rintro e w5 ⟨v5, rfl, hown5, hb5⟩
        have hz6 : wr.heap.size ≤ w5.heap.size := hb5.size
        have Hb7 : Hid (Below wr.heap.size wr w5) := Lib.hid hb5
        have Hbel7 : Hid (Below w.heap.size w w5) := Lib.hid (Hbel.out.trans (hb5.mono (by omega)))
        have hfull : (clampL 0 L1 ++ [((77, 78) : Int × Int)]).length = (clampL 0 L1).length + 1 := by simp
        have Hown5 := Lib.hid hown5
        obtain ⟨a5, c5, rfl, hn5, hm5, hr5⟩ := own_shape hown5
        obtain ⟨g5, rfl, ho5⟩ := hr5 (by omega)
        have Hask := Lib.hid (ask_of_own (M := [(77, 78)]) (by rw [hfull]; exact Hown5.out) hm5 (by rw [hfull]; exact hn5))
        have hlt5 := (hown5.lt g5 rfl).2
        have hl5a := cell_later hb5 hl0
        have hl5b := cell_later hb5 hl1
        have Hl5 := Lib.hid (And.intro hl5a hl5b)
        clear hown5 hb5 hr5
        have hok : okRun T tau tat (clampL 0 L1) = true := by
          unfold okRun
          rw [Hlim.out, Htat.out, clampL_ok L1 0 (by decide)]
          rfl
        have K1 := Lib.hid (fun u W (h : AskAt W u (clampL 0 L1)) => run_yes T tau tat u (clampL 0 L1) W h hok (by omega))
        unfold limV at K1
        have hi0 : (0 : Int) ≤ (L1.length : Int) := by omega
        have hi1 : (L1.length : Int) ≤ (c5 : Int) := by omega
        have Hask2 := Lib.hid (Hask.out.later (Below.refl _ _).drew)
        rw [hlen2] at Hask2
        clear hok
        go_wp2_with fail
        go_region_held3 (fun w' => w'.cell? ⟨w.heap.size, 0, none⟩ = some (.int .i64 T) ∧ w'.cell? ⟨w.heap.size, 1, none⟩ = some (.int .i64 tau)) (first | exact Hl5.out | exact Hl6.out) (first | (go_at_call 46; (with_reducible refine (K1.out _ _ (Hask2.out)).mono ?_); rintro e w6 ⟨v6, rfl, hown6, hb6⟩; have Hl6 := Lib.hid (And.intro (cell_later hb6 Hl5.out.1) (cell_later hb6 Hl5.out.2)); have Hown6 := Lib.hid hown6; have Hb6 := Lib.hid hb6; clear hown6 hb6))
        obtain ⟨a6, c6, rfl, hn6, hm6, hr6⟩ := own_shape Hown6.out
        obtain ⟨g6, rfl, ho6⟩ := hr6 (by omega)
        have hz7 : w5.heap.size ≤ w6.heap.size := Hb6.out.size
        have Hbel8 : Hid (Below w.heap.size w w6) := Lib.hid (Hbel7.out.trans ((Below.trans (Below.refl _ w5).drew Hb6.out).mono (show w.heap.size ≤ w5.heap.size by omega)))
        have hl6a := Hl6.out.1
        have hl6b := Hl6.out.2
        clear hr6 hl0 hl1 hl5a hl5b
        have hft := tickB_yes Hfr.out
        have htt := tickB_yes Hto.out
        have hspan : tickB (to - fr) = true := tickB_mk (by omega) (by omega)
        have hws : IntKind.i64.wrap (to - fr) = to - fr := by first | exact IntWalk.i64_in _ (by omega) | exact IntWalk.wrap64_in _ (by omega)
        have Kw := Lib.hid (fun v => within_yes T tau (to - fr) v Hlim.out hspan)
        have Ko := Lib.hid (fun v => once_of T tau _ _ v (fun v => within_yes T tau 0 v Hlim.out (by decide)))
        unfold limV at Kw Ko
        go_wp2_with fail
        refine (Kw.out _).mono ?_
        rintro e w7 ⟨rfl, hb7⟩
        have hz8 : w6.heap.size ≤ w7.heap.size := hb7.size
        have Hb8 := Lib.hid hb7
        have hl7a := cell_later hb7 hl6a
        have hl7b := cell_later hb7 hl6b
        clear hb7 hl6a hl6b
        go_wp2_with fail
        refine (Ko.out _).mono ?_
        rintro e w8 ⟨rfl, hb9⟩
        have hz9 : w7.heap.size ≤ w8.heap.size := hb9.size
        have Hbel9 : Hid (Below w.heap.size w w8) := Lib.hid (Hbel8.out.trans ((Hb8.out.trans (hb9.mono hz8)).mono (by omega)))
        have Hb9 : Hid (Below w6.heap.size w6 w8) := Lib.hid (Hb8.out.trans (hb9.mono hz8))
        clear hb9 hl7a hl7b
        have hall : (clampL 0 L1).all okA = true := clampL_ok L1 0 (by decide)
        have hpos2 := ok_pos hall
        have Hin := Lib.hid (fun k => bsum_in (a := fr) (b := to) (tat := tat) Hlim.out (by omega) hpos2 k)
        have Hfit := Lib.hid (fun (k : Nat) (hk : k < (clampL 0 L1).length) => fits (a := fr) (b := to) (tat := tat) Hlim.out (by omega) hpos2 hk)
        have Honce := Lib.hid (fun (t x y : Int) (hg : decG T tau t x y = true) (hy : 0 ≤ y) => grant_once Hlim.out hg hy)
        have Hbs := Lib.hid (fun (k : Nat) (hk : k < (clampL 0 L1).length) => bsum_next T tau fr to tat hk)
        have Hrt := Lib.hid (fun (k : Nat) (hk : k < (clampL 0 L1).length) => runTat_next T tau tat hk)
        have Hc6 : Hid (∀ k, k < L1.length → w8.cell? ⟨g6, k * 4, none⟩ = some (.bool (decG T tau (runTat T tau tat ((clampL 0 L1).take k)) ((clampL 0 L1).getD k (0, 0)).1 ((clampL 0 L1).getD k (0, 0)).2)) ∧ w8.cell? ⟨g6, k * 4 + 1, none⟩ = some (.int .i64 (decTat T tau (runTat T tau tat ((clampL 0 L1).take k)) ((clampL 0 L1).getD k (0, 0)).1 ((clampL 0 L1).getD k (0, 0)).2))) := Lib.hid fun k hk => by
          obtain ⟨q0, q1⟩ := runC_at T tau (clampL 0 L1) tat k (by omega)
          exact ⟨cell_later Hb9.out (own_cell Hown6.out ho6 q0), cell_later Hb9.out (own_cell Hown6.out ho6 q1)⟩
        have Hc4 : Hid (∀ k, k < L1.length → w8.cell? ⟨g4, k * 2, none⟩ = some (.int .i64 ((clampL 0 L1).getD k (0, 0)).1) ∧ w8.cell? ⟨g4, k * 2 + 1, none⟩ = some (.int .i64 ((clampL 0 L1).getD k (0, 0)).2)) := Lib.hid fun k hk => by
          obtain ⟨q0, q1, -⟩ := Hrow7.out k (by omega)
          have hl (a : Addr) (v : Value) (h : wr.cell? a = some v) : w8.cell? a = some v :=
            cell_later Hb9.out (cell_later Hb6.out (cell_later (Below.refl w5.heap.size w5).drew (cell_later Hb7.out h)))
          exact ⟨hl _ _ q0, hl _ _ q1⟩
        have Hpos := Lib.hid (fun (k : Nat) (hk : k < (clampL 0 L1).length) => ok_at hall hk)
        have hlm := limB_yes Hlim.out
        have htau := tickB_yes hlm.2.2
        have hmb : 0 ≤ (to - fr + tau) / T + 1 ∧ (to - fr + tau) / T + 1 ≤ 9223372036854775807 := by
          have h0 : 0 ≤ (to - fr + tau) / T := Int.ediv_nonneg (by omega) (by omega)
          have h1 : (to - fr + tau) / T ≤ to - fr + tau := Int.ediv_le_self _ (by omega)
          omega
        have hob : 0 ≤ tau / T + 1 ∧ tau / T + 1 ≤ 9223372036854775807 := by
          have h0 : 0 ≤ tau / T := Int.ediv_nonneg (by omega) (by omega)
          have h1 : tau / T ≤ tau := Int.ediv_le_self _ (by omega)
          omega
        clear hall hpos2 Hown6 Hrow7 ho6 Hb6 Hb7 Hb9 Hb8
        simp only [Int.zero_add] at Honce
        go_wp2
        generalize hmo : (to - fr + tau) / T + 1 = mo at *
        generalize hon : tau / T + 1 = on at *
        clear hmo hon
        go_loopw [20, 21, 127] (fun lf at' i wr => ∃ k : Nat, i = .int .i64 k ∧ k ≤ L1.length ∧ lf = .int .i64 (mo - bsum T tau fr to tat ((clampL 0 L1).take k)) ∧ at' = .int .i64 (runTat T tau tat ((clampL 0 L1).take k)) ∧ Below w8.heap.size w8 wr) (fun _ _ i _ => L1.length - (intOf i).toNat)
        case atStart => exact ⟨0, rfl, Nat.zero_le _, by simp [bsum], by simp [runTat], Below.refl _ _⟩
        case round =>
          obtain ⟨k, rfl, hk, rfl, rfl, hbelq⟩ := hrel
          have Hbelq := Lib.hid hbelq
          have hzq : w8.heap.size ≤ wr.heap.size := hbelq.size
          clear hbelq
          by_cases hA : k < L1.length
          · have hkM : k < (clampL 0 L1).length := by omega
            have hy0 := cell_later Hbelq.out (Hc6.out k hA).1
            have hy1 := cell_later Hbelq.out (Hc6.out k hA).2
            have hx0 := cell_later Hbelq.out (Hc4.out k hA).1
            have hx1 := cell_later Hbelq.out (Hc4.out k hA).2
            have hlt4 := World.block_lt_of_cell? _ _ hx0
            have hlt6 := World.block_lt_of_cell? _ _ hy0
            have hpk := Hpos.out k hkM
            have hin := Hin.out k
            have hfit := Lib.hid (Hfit.out k hkM)
            have hbs := Lib.hid (Hbs.out k hkM)
            have hrt := Lib.hid (Hrt.out k hkM)
            have hon := Lib.hid (Honce.out (runTat T tau tat ((clampL 0 L1).take k)) ((clampL 0 L1).getD k (0, 0)).1 ((clampL 0 L1).getD k (0, 0)).2)
            have Hkeep := Lib.hid (@deny_keeps T tau (runTat T tau tat ((clampL 0 L1).take k)) ((clampL 0 L1).getD k (0, 0)).1 ((clampL 0 L1).getD k (0, 0)).2)
            unfold bcost at hbs
            generalize (clampL 0 L1).getD k (0, 0) = p at *
            generalize runTat T tau tat ((clampL 0 L1).take k) = t at *
            generalize bsum T tau fr to tat ((clampL 0 L1).take k) = S at *
            obtain ⟨x, y⟩ := p
            simp only at hy0 hy1 hx0 hx1 hfit hbs hrt hon Hkeep
            simp only [okA, Bool.and_eq_true] at hpk
            have hpx := tickB_yes hpk.1
            have hpy := tickB_yes hpk.2
            clear hpk
            have hk0 : (0 : Int) ≤ (k : Int) := by omega
            have hk1 : (k : Int) < (L1.length : Int) := by omega
            cases hg : decG T tau t x y with
            | false =>
              have hkp := Hkeep.out hg
              rw [hg] at hy0
              rw [hkp] at hy1 hrt
              rw [hg, if_neg (by simp)] at hbs
              clear hkp Hkeep hfit hon hg
              go_wp2_with fail
              go_roundw
              case rel => exact ⟨k + 1, by go_num, by omega, by rw [hbs.out]; go_num, by rw [hrt.out], Hbelq.out.alloc Hbelq.out.size _⟩
              case measure => simp [intOf]; omega
            | true =>
              have hyo := hon.out hg (by omega)
              rw [hg] at hy0
              by_cases hwin : fr ≤ x ∧ x ≤ to
              · have hft := hfit.out hg hwin.1 hwin.2
                have hwin1 := hwin.1
                have hwin2 := hwin.2
                rw [if_pos ⟨hg, hwin⟩] at hbs
                clear hwin Hkeep hfit hon hg
                generalize decTat T tau t x y = d at *
                go_wp2_with fail
                go_roundw
                case rel => exact ⟨k + 1, by go_num, by omega, by rw [hbs.out]; go_num, by rw [hrt.out], Hbelq.out.alloc Hbelq.out.size _⟩
                case measure => simp [intOf]; omega
              · rw [if_neg (fun h => hwin h.2)] at hbs
                clear Hkeep hfit hon hg
                generalize decTat T tau t x y = d at *
                by_cases hlo : fr ≤ x
                all_goals
                  have hhi : fr ≤ x → to < x := by omega
                  clear hwin
                  first | have hhi' := hhi (by assumption) | skip
                  clear hhi
                  go_wp2_with fail
                  go_roundw
                  case rel => exact ⟨k + 1, by go_num, by omega, by rw [hbs.out]; go_num, by rw [hrt.out], Hbelq.out.alloc Hbelq.out.size _⟩
                  case measure => simp [intOf]; omega
          · obtain rfl : k = L1.length := by omega
            go_wp2
            go_ret
            exact ⟨rfl, Hbel9.out.trans (Hbelq.out.mono (by omega))⟩

end Go.Proofs.Ytdjiihcbaedmcaa
