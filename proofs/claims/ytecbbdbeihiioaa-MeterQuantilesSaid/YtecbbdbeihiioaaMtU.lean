/- MeterOfs' walk. -/
import Derived.Test.YtecbbdbeihiioaaMtT
import Derived.Deep.QuietTactic
import Derived.BigQuiet
namespace Go.Proofs.Ytecbbdbeihiioaa
open Go.RowKit
set_option linter.unusedVariables false

attribute [local go_sem] run_store_float'

set_option maxRecDepth 100000 in
set_option maxHeartbeats 16000000 in
theorem ofs_core (v : Value) (L : List Nat) (w : World) (M : Mt) (f : Int) (h : U64At w v L) (hn : (L.length + 2) * 8 ≤ 140737488355328)
    (kw : ∀ v, Calls Try.prog 11 #[] v fun e w' => e = .returned (.bool true) ∧ Below v.heap.size v w')
    (k1 : ∀ u w, FlAt w u L → Calls Try.prog 13 #[u] w (MtErr w M f))
    (k2 : ∀ u w, FlAt w u L → Calls Try.prog 14 #[u] w (MtErr w M f)) :
    Calls Try.prog 3 #[v] w fun e w' => e = .returned (.bool true) ∧ Below w.heap.size w w' := by
  have Kw := Lib.hid kw
  clear kw
  have Ka := Lib.hid (fun v w h => all_any v L w h hn)
  have Kv := Lib.hid h
  have H0 := Lib.hid h.1
  have K1 := Lib.hid k1; have K2 := Lib.hid k2
  clear k1 k2
  have Ko := Lib.hid (fun b v => of_any b v)
  have Kc := Lib.hid (fun a b v (ha : a.Ok) (hb : b.Ok) (h : mtSim a b) => same_mt a b v ha hb h)
  have Kr := Lib.hid (fun b v => rsame_any b b v)
  have o1 : (FloatKind.f64.format.order 4635118810238550016 4635118810238550016 == some .eq) = true := by decide +kernel
  have o2 : (FloatKind.f64.format.order 4635189178982727680 4635189178982727680 == some .eq) = true := by decide +kernel
  have HO := Lib.hid (And.intro o1 o2)
  clear o1 o2
  obtain ⟨i0, hi, hz0, hz1, hz2⟩ := info_fl_parts info_fl
  have Hi := Lib.hid hi; have Hz0 := Lib.hid hz0; have Hz1 := Lib.hid hz1; have Hz2 := Lib.hid hz2
  clear hi hz0 hz1 hz2
  obtain ⟨-, a, c, rfl, hl, hc, -⟩ := h
  unfold maxLen at hc
  go_enter Try.func3, Try.ntmps3
  go_wp2_with fail
  with_reducible refine (Kw.out _).mono ?_
  rintro e w1 ⟨rfl, hb⟩
  have Hb1 := Lib.hid hb
  clear hb
  go_wp2_with fail
  refine (Ka.out _ _ (Kv.out.later Hb1.out)).mono ?_
  rintro e w2 ⟨v2, rfl, hown2, hb2⟩
  have Hb2 := Lib.hid (Hb1.out.trans (hb2.mono Hb1.out.size))
  have hsz2 := hb2.size
  have Hown2 := Lib.hid hown2
  have Hob := Lib.hid (fun g hg => (hown2.lt g hg).1)
  clear hown2 hb2
  go_wp2_with (at_builtin; refine wpList_append_own _ rfl _ _ 24 rfl w1.heap.size 26 i0 (.float .f64 0) 1 8 Try.underlying24 Hi.out Hz0.out Hz1.out Hz2.out rfl (by decide) _ _ _ rfl (Hown2.out.alloc _) ⟨w2.heap.size, 0, none⟩ 2 2 [.float .f64 4635118810238550016, .float .f64 4635189178982727680] rfl rfl two_new ?_ ?_ ?_ ?_ ?_)
  · intro u hu; simp at hu; rcases hu with rfl | rfl <;> rfl
  · unfold maxLen; omega
  · omega
  · simp; omega
  intro v3 w3 hown3 hgrow3 _
  have hlen : (L ++ [4635118810238550016, 4635189178982727680]).length = L.length + 2 := by simp
  have hown3' : OwnF w3 w1.heap.size v3 (L ++ [4635118810238550016, 4635189178982727680]) := by
    show w3.ownsRow _ _ _ _ (L ++ [4635118810238550016, 4635189178982727680]).length _
    rw [hlen, flatF_append]; exact hown3
  have Hb3 := Lib.hid ((Hb2.out.alloc Hb2.out.size _).grown hgrow3 (by have := Hb2.out.size; simp; omega) (fun g hg => Nat.le_trans Hb1.out.size (Hob.out g hg)))
  obtain ⟨g, cap, rfl, hcap, hcm, hg1, hrow, -⟩ := row_of_own hown3' (by rw [hlen]; omega)
  rw [hlen] at hcap
  have Hrow := Lib.hid hrow
  have Hfl := Lib.hid (fl_of_row (M := [4635118810238550016, 4635189178982727680]) hrow H0.out (by omega) hcm)
  rw [hlen]
  unfold maxLen at hcm
  clear hown3 hown3' hgrow3 hrow Hown2 Hob hg1
  have hi0 : (0 : Int) ≤ (L.length : Int) := by omega
  have hi1 : (L.length : Int) ≤ (cap : Int) := by omega
  have Hlen := Lib.hid hlen
  clear hlen
  go_wp2_with fail
  refine (K1.out _ _ Hfl.out).mono ?_
  rintro e w4 ⟨m1, rfl, hs1, ho1, hb4⟩
  have Hb4 := Lib.hid (Hb3.out.trans (hb4.mono Hb3.out.size))
  have Hrow4 := Lib.hid (Hrow.out.later hb4)
  have Hs1 := Lib.hid hs1; have Ho1 := Lib.hid ho1
  have Hc1 := Lib.hid (mtCell_alloc w4 m1 28)
  have Hb4' := Lib.hid (Hb4.out.alloc Hb4.out.size (.cells #[.int .i64 m1.N, .int .i64 m1.Bad, .float .f64 m1.S, .float .f64 m1.L, .float .f64 m1.Lo, .float .f64 m1.Hi, .float .f64 m1.Me, .float .f64 m1.Sp] 28))
  have Hrow5 := Lib.hid (Hrow4.out.later ((Below.refl _ w4).alloc (Nat.le_refl _) (.cells #[.int .i64 m1.N, .int .i64 m1.Bad, .float .f64 m1.S, .float .f64 m1.L, .float .f64 m1.Lo, .float .f64 m1.Hi, .float .f64 m1.Me, .float .f64 m1.Sp] 28)))
  clear hs1 ho1 hb4 Hrow Hfl Hrow4
  unfold mtV
  go_wp2_with fail
  refine (Ka.out _ _ (Kv.out.later Hb4'.out)).mono ?_
  rintro e w6 ⟨v6, rfl, hown6, hb6⟩
  have Hb6 := Lib.hid (Hb4'.out.trans (hb6.mono Hb4'.out.size))
  have Hrow6 := Lib.hid (Hrow5.out.later hb6)
  have Hc6 := Lib.hid (Hc1.out.later (by simp) hb6)
  have Hsz6 := Lib.hid hb6.size
  have Hfl6 := Lib.hid (fl_of_own hown6 H0.out)
  clear hown6 hb6
  go_wp2_with fail
  refine (K2.out _ _ Hfl6.out).mono ?_
  rintro e w7 ⟨m2, rfl, hs2, ho2, hb7⟩
  have Hb7 := Lib.hid (Hb6.out.trans (hb7.mono Hb6.out.size))
  have hlt4 : w4.heap.size < w6.heap.size := by have := Hsz6.out; simp at this; omega
  have hb8 := hb7.alloc hb7.size (.cells #[.int .i64 m2.N, .int .i64 m2.Bad, .float .f64 m2.S, .float .f64 m2.L, .float .f64 m2.Lo, .float .f64 m2.Hi, .float .f64 m2.Me, .float .f64 m2.Sp] 32)
  have Hrow8 := Lib.hid (Hrow6.out.later hb8)
  have Hc8 := Lib.hid (Hc6.out.later hlt4 hb8)
  have Hd8 := Lib.hid (mtCell_alloc w7 m2 32)
  have Hb8 := Lib.hid (Hb7.out.alloc Hb7.out.size (.cells #[.int .i64 m2.N, .int .i64 m2.Bad, .float .f64 m2.S, .float .f64 m2.L, .float .f64 m2.Lo, .float .f64 m2.Hi, .float .f64 m2.Me, .float .f64 m2.Sp] 32))
  have hlt47 : w4.heap.size < w7.heap.size := by have := hb7.size; omega
  have Hsim := Lib.hid (Hs1.out.trans hs2.symm)
  have Ho2 := Lib.hid ho2
  clear hs2 ho2 hb7 hb8 hlt4 Hsz6 Hfl6 Hrow6 Hrow5 Hc6 Hc1
  unfold mtV
  go_wp2_with fail
  obtain ⟨W, hW⟩ : ∃ W, W = w7.alloc (.cells #[.int .i64 m2.N, .int .i64 m2.Bad, .float .f64 m2.S, .float .f64 m2.L, .float .f64 m2.Lo, .float .f64 m2.Hi, .float .f64 m2.Me, .float .f64 m2.Sp] 32) := ⟨_, rfl⟩
  have hWs : w7.heap.size < W.heap.size := by rw [hW]; simp
  rw [← hW] at Hb8 Hc8 Hd8 Hrow8 ⊢
  clear hW
  go_loopw [8, 9, 32] (fun _ _ i wr => ∃ k : Nat, i = .int .i64 k ∧ k ≤ L.length ∧ Below W.heap.size W wr) (fun _ _ i _ => L.length - (intOf i).toNat)
  case atStart => exact ⟨0, rfl, Nat.zero_le _, Below.refl _ _⟩
  case round =>
    obtain ⟨k, rfl, hk, hbel⟩ := hrel
    have Hbel := Lib.hid hbel
    clear hbel
    by_cases hA : k < L.length
    · obtain ⟨-, a', c', he, -, -, hr⟩ := Kv.out.later (Hb8.out.trans (Hbel.out.mono Hb8.out.size))
      simp only [Value.slice.injEq] at he
      obtain ⟨rfl, -, rfl⟩ := he
      obtain ⟨b, off, rfl, hcell⟩ := hr (by omega)
      have hx := hcell k hA
      have hy := (Hrow8.out.later Hbel.out).2 k (by rw [Hlen.out]; omega)
      rw [getD_left hA] at hy
      have hltx := World.block_lt_of_cell? _ _ hx
      have hlty := World.block_lt_of_cell? _ _ hy
      generalize L.getD k 0 = x at *
      clear hr hcell
      have Krx := Lib.hid (fun v => Kr.out x v)
      rw [show (rk x == rk x) = true from beq_self_eq_true _] at Krx
      have hk0 : (0 : Int) ≤ (k : Int) := by omega
      have hk1 : (k : Int) < (L.length : Int) + 2 := by omega
      go_wp2_with fail
      go_quiet ((first | (go_at_call 16; with_reducible exact quiet_left (Ko.out _ _)) | (go_at_call 15; with_reducible exact quiet_left (Krx.out _))))
      all_goals
        go_wp2
        exact ⟨⟨k + 1, by go_num, by omega, below_drewN Hbel.out _⟩, by simp [intOf]; omega⟩
    · obtain rfl : k = L.length := by omega
      obtain ⟨⟨a0, a1, a2, a3, a4, a5, a6, a7⟩, -⟩ := Hc8.out.later (by omega) Hbel.out
      obtain ⟨⟨b0, b1, b2, b3, b4, b5, b6, b7⟩, -⟩ := Hd8.out.later hWs Hbel.out
      have hr9 := Hrow8.out.later Hbel.out
      have hx0 := hr9.2 L.length (by rw [Hlen.out]; omega)
      have hx1 := hr9.2 (L.length + 1) (by rw [Hlen.out]; omega)
      have e0 : (L ++ [4635118810238550016, 4635189178982727680]).getD L.length 0 = 4635118810238550016 := by simp [List.getD_eq_getElem?_getD]
      have e1 : (L ++ [4635118810238550016, 4635189178982727680]).getD (L.length + 1) 0 = 4635189178982727680 := by simp [List.getD_eq_getElem?_getD]
      rw [e0] at hx0
      rw [e1] at hx1
      have Hx := Lib.hid (And.intro hx0 hx1)
      have Hbz := Lib.hid (Hb8.out.trans (Hbel.out.mono Hb8.out.size))
      clear hr9 hx0 hx1 e0 e1
      go_wp2_with fail
      refine (Kc.out m1 m2 _ Ho1.out Ho2.out Hsim.out).mono ?_
      rintro e w9 ⟨rfl, hb9⟩
      have hy0 := cell_later hb9 Hx.out.1
      have hy1 := cell_later hb9 Hx.out.2
      have Hb9 := Lib.hid (Hbz.out.trans (hb9.mono Hbz.out.size))
      obtain ⟨o1, o2⟩ := HO.out
      have hk2 : (L.length : Int) < (L.length : Int) + 2 := by omega
      have hk3 : (L.length : Int) + 1 < (L.length : Int) + 2 := by omega
      have hk4 : (0 : Int) ≤ (L.length : Int) + 1 := by omega
      clear hb9 a0 a1 a2 a3 a4 a5 a6 a7 b0 b1 b2 b3 b4 b5 b6 b7
      go_wp2
      go_ret
      exact ⟨rfl, Hb9.out⟩
end Go.Proofs.Ytecbbdbeihiioaa
