/- MeterQuantiles' walk. -/
import Derived.Test.YtecbbdbeihiioaaMtQd
import Derived.Test.YtecbbdbeihiioaaMtU
import Derived.Deep.RegionHeld3
namespace Go.Proofs.Ytecbbdbeihiioaa
open Go.RowKit
set_option linter.unusedVariables false

attribute [local go_sem] run_store_float'

theorem row_two {w : World} {g : Nat} {L : List Nat} (h : FlRow w g (L ++ [4635118810238550016, 4635189178982727680])) : w.cell? ⟨g, L.length, none⟩ = some (.float .f64 4635118810238550016) ∧ w.cell? ⟨g, L.length + 1, none⟩ = some (.float .f64 4635189178982727680) := by
  have hx0 := h.2 L.length (by simp)
  have hx1 := h.2 (L.length + 1) (by simp)
  have e0 : (L ++ [4635118810238550016, 4635189178982727680]).getD L.length 0 = 4635118810238550016 := by simp [List.getD_eq_getElem?_getD]
  have e1 : (L ++ [4635118810238550016, 4635189178982727680]).getD (L.length + 1) 0 = 4635189178982727680 := by simp [List.getD_eq_getElem?_getD]
  rw [e0] at hx0
  rw [e1] at hx1
  exact ⟨hx0, hx1⟩

set_option maxRecDepth 100000 in
set_option maxHeartbeats 16000000 in
theorem quantiles_core (v : Value) (L : List Nat) (qb : Nat) (w : World) (Y : Nat → Prop) (f : Int) (h : U64At w v L) (hn : (L.length + 2) * 8 ≤ 140737488355328) (hu : ∀ a b, Y a → Y b → a = b)
    (kw : ∀ v, Calls Try.prog 11 #[] v fun e w' => e = .returned (.bool true) ∧ Below v.heap.size v w')
    (k1 : ∀ u w, FlAt w u L → Calls Try.prog 20 #[u, .float .f64 qb] w (QuP w Y f))
    (k2 : ∀ u w, FlAt w u L → Calls Try.prog 21 #[u, .float .f64 qb] w (QuP w Y f)) :
    Calls Try.prog 5 #[v, .int .u64 (qb : Int)] w fun e w' => e = .returned (.bool true) ∧ Below w.heap.size w w' := by
  have Kw := Lib.hid kw
  clear kw
  have Ka := Lib.hid (fun v w h => all_any v L w h hn)
  have Kv := Lib.hid h
  have H0 := Lib.hid h.1
  have K1 := Lib.hid k1; have K2 := Lib.hid k2
  have Hu := Lib.hid hu
  clear k1 k2 hu
  have Ko := Lib.hid (fun b v => of_any b v)
  have Kq := Lib.hid (fun v => of_any qb v)
  have Kr := Lib.hid (fun b c v => rsame_any b c v)
  have o1 : (FloatKind.f64.format.order 4635118810238550016 4635118810238550016 == some .eq) = true := by decide +kernel
  have o2 : (FloatKind.f64.format.order 4635189178982727680 4635189178982727680 == some .eq) = true := by decide +kernel
  have HO := Lib.hid (And.intro o1 o2)
  clear o1 o2
  obtain ⟨i0, hi, hz0, hz1, hz2⟩ := info_fl_parts info_fl
  have Hi := Lib.hid hi; have Hz0 := Lib.hid hz0; have Hz1 := Lib.hid hz1; have Hz2 := Lib.hid hz2
  clear hi hz0 hz1 hz2
  obtain ⟨-, a, c, rfl, hl, hc, -⟩ := h
  unfold maxLen at hc
  go_enter Try.func5, Try.ntmps5
  go_wp2_with fail
  with_reducible refine (Kw.out _).mono ?_
  rintro e w1 ⟨rfl, hb⟩
  have Hb1 := Lib.hid hb
  clear hb
  go_wp2_with fail
  refine (Ka.out _ _ (Kv.out.later Hb1.out)).mono ?_
  rintro e w2 ⟨v2, rfl, hown2, hb2⟩
  have Hb2 := Lib.hid (Hb1.out.trans (hb2.mono Hb1.out.size))
  have hsz2 := hb2.size
  have Hown2 := Lib.hid hown2
  have Hob := Lib.hid (fun g hg => (hown2.lt g hg).1)
  clear hown2 hb2
  go_wp2_with (at_builtin; refine wpList_append_own _ rfl _ _ 24 rfl w1.heap.size 26 i0 (.float .f64 0) 1 8 Try.underlying24 Hi.out Hz0.out Hz1.out Hz2.out rfl (by decide) _ _ _ rfl (Hown2.out.alloc _) ⟨w2.heap.size, 0, none⟩ 2 2 [.float .f64 4635118810238550016, .float .f64 4635189178982727680] rfl rfl two_new ?_ ?_ ?_ ?_ ?_)
  · intro u hu; simp at hu; rcases hu with rfl | rfl <;> rfl
  · unfold maxLen; omega
  · omega
  · simp; omega
  intro v3 w3 hown3 hgrow3 _
  have hlen : (L ++ [4635118810238550016, 4635189178982727680]).length = L.length + 2 := by simp
  have hown3' : OwnF w3 w1.heap.size v3 (L ++ [4635118810238550016, 4635189178982727680]) := by
    show w3.ownsRow _ _ _ _ (L ++ [4635118810238550016, 4635189178982727680]).length _
    rw [hlen, flatF_append]; exact hown3
  have Hb3 := Lib.hid ((Hb2.out.alloc Hb2.out.size _).grown hgrow3 (by have := Hb2.out.size; simp; omega) (fun g hg => Nat.le_trans Hb1.out.size (Hob.out g hg)))
  obtain ⟨g, cap, rfl, hcap, hcm, hg1, hrow, -⟩ := row_of_own hown3' (by rw [hlen]; omega)
  rw [hlen] at hcap
  have Hrow := Lib.hid hrow
  have Hfl := Lib.hid (fl_of_row (M := [4635118810238550016, 4635189178982727680]) hrow H0.out (by omega) hcm)
  rw [hlen]
  unfold maxLen at hcm
  clear hown3 hown3' hgrow3 hrow Hown2 Hob hg1
  have hi0 : (0 : Int) ≤ (L.length : Int) := by omega
  have hi1 : (L.length : Int) ≤ (cap : Int) := by omega
  have Hlen := Lib.hid hlen
  clear hlen
  have Hs3 := Lib.hid (row_two Hrow.out)
  have Hfld := Lib.hid (Hfl.out.later (Below.refl _ _).drew)
  have Hb3d := Lib.hid Hb3.out.drew
  have Hrowd := Lib.hid (Hrow.out.later (Below.refl _ _).drew)
  go_wp2_with fail
  go_region_held3 (fun w' => w'.cell? ⟨g, L.length, none⟩ = some (.float .f64 4635118810238550016) ∧ w'.cell? ⟨g, L.length + 1, none⟩ = some (.float .f64 4635189178982727680)) (first | exact Hs3.out | exact Hs4.out) (first | (go_at_call 16; (with_reducible refine (Kq.out _).mono ?_); rintro e w' ⟨rfl, rfl⟩) | (go_at_call 20; (refine (K1.out _ _ Hfld.out).mono ?_); rintro e w4 ⟨c1, rfl, hy1, hc1, hb4⟩; have Hb4 := Lib.hid (Hb3d.out.trans (hb4.mono Hb3d.out.size)); have Hrow4 := Lib.hid (Hrowd.out.later hb4); have Hs4 := Lib.hid (row_two Hrow4.out); have Hy1 := Lib.hid hy1; have Hc1 := Lib.hid hc1; clear hy1 hc1 hb4))
  all_goals
    clear Hrow Hfl Hfld Hrowd Hb3 Hb3d Hs3 Hs4
    go_wp2_with fail
    refine (Ka.out _ _ (Kv.out.later Hb4.out)).mono ?_
    rintro e w6 ⟨v6, rfl, hown6, hb6⟩
    have Hb6 := Lib.hid (Hb4.out.trans (hb6.mono Hb4.out.size))
    have Hrow6 := Lib.hid (Hrow4.out.later hb6)
    have Hfl6 := Lib.hid (fl_of_own hown6 H0.out)
    clear hown6 hb6
    go_wp2_with (go_at_call 16; (with_reducible refine (Kq.out _).mono ?_); rintro e w' ⟨rfl, rfl⟩)
    refine (K2.out _ _ Hfl6.out).mono ?_
    rintro e w7 ⟨c2, rfl, hy2, hc2, hb7⟩
    have Hb8 := Lib.hid (Hb6.out.trans (hb7.mono Hb6.out.size))
    have Hrow8 := Lib.hid (Hrow6.out.later hb7)
    have Krs := Lib.hid (fun v => Kr.out c1 c2 v)
    rw [show (rk c1 == rk c2) = true from beq_iff_eq.2 ((nfW_rk Hc1.out hc2).1 (Hu.out _ _ Hy1.out hy2))] at Krs
    clear hy2 hc2 hb7 Hfl6 Hrow6 Hrow4 Hy1 Hc1
    go_wp2_with fail
    go_loopw [10, 11, 38] (fun _ _ i wr => ∃ k : Nat, i = .int .i64 k ∧ k ≤ L.length ∧ Below w7.heap.size w7 wr) (fun _ _ i _ => L.length - (intOf i).toNat)
    case atStart => exact ⟨0, rfl, Nat.zero_le _, Below.refl _ _⟩
    case round =>
      obtain ⟨k, rfl, hk, hbel⟩ := hrel
      have Hbel := Lib.hid hbel
      clear hbel
      by_cases hA : k < L.length
      · obtain ⟨-, a', c', he, -, -, hr⟩ := Kv.out.later (Hb8.out.trans (Hbel.out.mono Hb8.out.size))
        simp only [Value.slice.injEq] at he
        obtain ⟨rfl, -, rfl⟩ := he
        obtain ⟨b, off, rfl, hcell⟩ := hr (by omega)
        have hx := hcell k hA
        have hy := (Hrow8.out.later Hbel.out).2 k (by rw [Hlen.out]; omega)
        rw [getD_left hA] at hy
        have hltx := World.block_lt_of_cell? _ _ hx
        have hlty := World.block_lt_of_cell? _ _ hy
        generalize L.getD k 0 = x at *
        clear hr hcell
        have Krx := Lib.hid (fun v => Kr.out x x v)
        rw [show (rk x == rk x) = true from beq_self_eq_true _] at Krx
        have hk0 : (0 : Int) ≤ (k : Int) := by omega
        have hk1 : (k : Int) < (L.length : Int) + 2 := by omega
        go_wp2_with fail
        go_quiet ((first | (go_at_call 16; with_reducible exact quiet_left (Ko.out _ _)) | (go_at_call 15; with_reducible exact quiet_left (Krx.out _))))
        all_goals
          go_wp2
          exact ⟨⟨k + 1, by go_num, by omega, below_drewN Hbel.out _⟩, by simp [intOf]; omega⟩
      · obtain rfl : k = L.length := by omega
        have hr9 := Hrow8.out.later Hbel.out
        have hx0 := hr9.2 L.length (by rw [Hlen.out]; omega)
        have hx1 := hr9.2 (L.length + 1) (by rw [Hlen.out]; omega)
        have e0 : (L ++ [4635118810238550016, 4635189178982727680]).getD L.length 0 = 4635118810238550016 := by simp [List.getD_eq_getElem?_getD]
        have e1 : (L ++ [4635118810238550016, 4635189178982727680]).getD (L.length + 1) 0 = 4635189178982727680 := by simp [List.getD_eq_getElem?_getD]
        rw [e0] at hx0
        rw [e1] at hx1
        have Hbz := Lib.hid (Hb8.out.trans (Hbel.out.mono Hb8.out.size))
        obtain ⟨o1, o2⟩ := HO.out
        have hk2 : (L.length : Int) < (L.length : Int) + 2 := by omega
        have hk3 : (L.length : Int) + 1 < (L.length : Int) + 2 := by omega
        have hk4 : (0 : Int) ≤ (L.length : Int) + 1 := by omega
        clear hr9 e0 e1
        go_wp2_with (go_at_call 15; (with_reducible refine (Krs.out _).mono ?_); rintro e w' ⟨rfl, rfl⟩)
        go_ret
        exact ⟨rfl, Hbz.out⟩
end Go.Proofs.Ytecbbdbeihiioaa
