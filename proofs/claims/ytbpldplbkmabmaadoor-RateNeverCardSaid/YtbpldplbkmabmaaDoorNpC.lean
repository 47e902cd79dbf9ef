/- The contract of nat.Mul: the product with a word. -/
import Derived.Test.YtbpldplbkmabmaaDoorNpB
import Derived.Test.YtbpldplbkmabmaaDoorNatTi
namespace Go.Proofs.YtbpldplbkmabmaaDoor
open Go.RowKit

theorem two_digits (b : Nat) (hb : b < 18446744073709551616) : ∀ d ∈ [b % 4294967296, b / 4294967296], d < 4294967296 := by
  intro d hd
  simp at hd
  omega

set_option maxHeartbeats 4000000 in
set_option maxRecDepth 100000 in
theorem pmul_any (va : Value) (na b : Nat) (w : World) (ha : IsN w va na) (hsa : na < 2 ^ 100000) (hb : b < 18446744073709551616) :
    Calls Tryd.prog 56 #[va, .int .u64 b] w (NatRes w (b * na)) := by
  obtain ⟨la, ⟨aa, ca, rfl, hla, hca, hra⟩, hna, rfl⟩ := ha
  have hka := len_le hna hsa
  have Hda := Lib.hid hna.1
  clear hna hsa
  have Hra := Lib.hid hra
  clear hra
  obtain ⟨lm, hlm⟩ : ∃ lm : List Nat, lm = [b % 4294967296, b / 4294967296] := ⟨_, rfl⟩
  have Hdm : Hid (∀ d ∈ lm, d < 4294967296) := Lib.hid (by rw [hlm]; exact two_digits b hb)
  have Hlm2 : Hid (lm.length = 2) := Lib.hid (by rw [hlm]; rfl)
  have Hval : Hid (valL lm = b) := Lib.hid (by rw [hlm]; exact valL_two b)
  have Hlm0 : Hid (lm.getD 0 0 = b % 4294967296 ∧ lm.getD 1 0 = b / 4294967296) := Lib.hid (by rw [hlm]; exact ⟨rfl, rfl⟩)
  clear hlm
  have hbi : (b : Int) < 18446744073709551616 := by omega
  obtain ⟨i0, hi, hz0, hz1, hz2⟩ := info_parts info_u64
  have Hi := Lib.hid hi; have Hz0 := Lib.hid hz0; have Hz1 := Lib.hid hz1; have Hz2 := Lib.hid hz2
  clear hi hz0 hz1 hz2
  go_enter Tryd.func56, Tryd.ntmps56
  go_wp2_with (at_make; refine wpList_make_full _ rfl _ _ 76 rfl w.heap.size 22 i0 (.int .u64 0) 1 Tryd.underlying76 Hi.out Hz0.out Hz1.out .i64 .i64 _ _ (la.length + 2) rfl rfl (by simp) (by simp) (by rw [Hz2.out]; omega) (by unfold maxLen; omega) (Nat.le_refl _) ?_)
  intro w1 hown1 hgrow1
  have hlt1 := (hown1.lt w.heap.size rfl).2
  have hst : TimesOut w.heap.size w.heap.size w lm la 0 w1 := times_start (by rw [toList_madeCells_one] at hown1; rw [Hlm2.out, Nat.add_comm 2 la.length]; simpa using hown1) hgrow1
  have Hst := Lib.hid hst
  have hsz1 := hgrow1.size
  clear hown1 hgrow1 hst
  go_wp2
  obtain ⟨g2, hg2⟩ : ∃ g2 : Nat, g2 = w1.heap.size := ⟨_, rfl⟩
  have Hc2 : Hid ((w1.alloc (.cells #[.int .u64 ((b : Int) % 4294967296), .int .u64 ((b : Int) / 4294967296)] 22)).cell? ⟨g2, 0, none⟩ = some (.int .u64 (lm.getD 0 0 : Nat)) ∧ (w1.alloc (.cells #[.int .u64 ((b : Int) % 4294967296), .int .u64 ((b : Int) / 4294967296)] 22)).cell? ⟨g2, 1, none⟩ = some (.int .u64 (lm.getD 1 0 : Nat))) := Lib.hid (by
    subst hg2
    rw [Hlm0.out.1, Hlm0.out.2]
    exact ⟨by simp [go_sem], by simp [go_sem]⟩)
  have Hst2 : Hid (TimesOut w.heap.size w.heap.size w lm la 0 (w1.alloc (.cells #[.int .u64 ((b : Int) % 4294967296), .int .u64 ((b : Int) / 4294967296)] 22))) := Lib.hid (by
    obtain ⟨cs, h1, h2, h3, h4, h5, h6⟩ := Hst.out
    exact ⟨cs, h1, h2, h3, World.ownsRow.alloc h4 _, h5, h6.alloc hsz1 _⟩)
  clear Hlm0 Hst
  rw [← hg2]
  have hne2 : w.heap.size ≠ g2 := by omega
  have Hg2 := Lib.hid hg2
  clear hg2
  go_loopw [8, 9, 10, 11, 12, 25] (fun _ _ _ _ _ i wr => ∃ k : Nat, i = .int .i64 k ∧ k ≤ 2 ∧ TimesOut w.heap.size w.heap.size w lm la k wr ∧ wr.cell? ⟨g2, 0, none⟩ = some (.int .u64 (lm.getD 0 0 : Nat)) ∧ wr.cell? ⟨g2, 1, none⟩ = some (.int .u64 (lm.getD 1 0 : Nat))) (fun _ _ _ _ _ i _ => 2 - (intOf i).toNat)
  case atStart => exact ⟨0, rfl, Nat.zero_le _, Hst2.out, Hc2.out.1, Hc2.out.2⟩
  case round =>
    obtain ⟨k, rfl, hk, hout, hd0, hd1⟩ := hrel
    have Hout := Lib.hid hout
    have Hd := Lib.hid (And.intro hd0 hd1)
    clear hout hd0 hd1 Hst2 Hc2
    by_cases hA : k < 2
    · have hxd : wr.cell? ⟨g2, k, none⟩ = some (.int .u64 (lm.getD k 0 : Nat)) := by
        match k, hA with
        | 0, _ => exact Hd.out.1
        | 1, _ => exact Hd.out.2
      have hkm : k < lm.length := by rw [Hlm2.out]; exact hA
      have Hkm := Lib.hid hkm
      have hxb := Hdm.out _ (getD_mem hkm)
      have hlt2 := World.block_lt_of_cell? _ _ hxd
      have hik0 : (0 : Int) ≤ (k : Int) := by omega
      have hik1 : (k : Int) < 2 := by omega
      clear hkm
      obtain ⟨x, hx⟩ : ∃ x, x = lm.getD k 0 := ⟨_, rfl⟩
      rw [← hx] at hxd hxb
      have Hx := Lib.hid hx
      clear hx
      obtain ⟨wo, hwo⟩ : ∃ wo : World, wo = wr := ⟨_, rfl⟩
      subst hwo
      go_wp2
      go_loopw [10, 11, 32] (fun y _ j wr => ∃ m cy : Nat, j = .int .i64 m ∧ y = .int .u64 cy ∧ m ≤ la.length ∧ cy < 4294967296 ∧ TimesIn w.heap.size w.heap.size w lm la k m cy wr ∧ wr.cell? ⟨g2, 0, none⟩ = some (.int .u64 (lm.getD 0 0 : Nat)) ∧ wr.cell? ⟨g2, 1, none⟩ = some (.int .u64 (lm.getD 1 0 : Nat))) (fun _ _ j _ => la.length - (intOf j).toNat)
      case atStart => exact ⟨0, 0, rfl, rfl, Nat.zero_le _, by decide, times_in Hout.out, Hd.out.1, Hd.out.2⟩
      case round =>
        obtain ⟨m, cy, rfl, rfl, hm, hcy, ⟨cs, h1, h2, h3, h4, h5, h6⟩, hd0, hd1⟩ := hrel
        have Hd2 := Lib.hid (And.intro hd0 hd1)
        clear hd0 hd1 Hd Hout hxd
        have hle : k + la.length < la.length + 2 := by omega
        have hcl := Hlm2.out
        by_cases hB : m < la.length
        · obtain ⟨ba, oa, rfl, hcella⟩ := Hra.out (by omega)
          have hcA := cell_later h6 (hcella m hB)
          clear hcella
          have hyb := Hda.out _ (getD_mem hB)
          have hcC := h4.cell (q := k + m) (by omega)
          have hfC := h4.free (k + m)
          have hxc := h2 _ (getD_mem (l := cs) (k := k + m) (by omega))
          have Hstep := Lib.hid (fun n => times_step h1 h2 h3 h4 h5 h6 Hkm.out hB n)
          have hmul := digit_mul _ _ hxb hyb
          clear h1 h2 h3 h4 h5 h6 hcl
          rw [← Hx.out] at Hstep
          generalize la.getD m 0 = y at *
          generalize cs.getD (k + m) 0 = z at *
          generalize hp : x * y = p at *
          have hpi : (y : Int) * (x : Int) = (p : Int) := by rw [← hp, Int.mul_comm]; exact (Int.natCast_mul x y).symm
          clear hp
          rw [Nat.add_comm k m] at hcC hfC Hstep
          have e1 : IntKind.i64.wrap ((m : Int) + (k : Int)) = (m : Int) + (k : Int) := IntWalk.i64_in _ (by omega)
          have e2 : ((m : Int) + (k : Int)).toNat = m + k := by omega
          have e3 : (0 : Int) ≤ (m : Int) + (k : Int) := by omega
          have e4 : (m : Int) + (k : Int) < (la.length : Int) + 2 := by omega
          have hm0 : (0 : Int) ≤ (m : Int) := by omega
          have hm1 : (m : Int) < (la.length : Int) := by omega
          go_wp2
          go_quiet (fail)
          go_wp2
          go_roundw
          case rel =>
            refine ⟨m + 1, (cy + (p + z)) / 4294967296, by go_num, by go_num, by omega, by omega, ?_, ?_, ?_⟩
            · have h := Hstep.out nq
              rw [show (((cy + (p + z)) % 4294967296 : Nat) : Int) = ((cy : Int) + ((p : Int) + (z : Int))) % 4294967296 by omega] at h
              exact h
            · rw [World.cell?_setCell_other _ _ _ _ (by first | (simp; done) | (simp; omega)), World.cell?_drewN]; exact Hd2.out.1
            · rw [World.cell?_setCell_other _ _ _ _ (by first | (simp; done) | (simp; omega)), World.cell?_drewN]; exact Hd2.out.2
          case measure => simp [intOf]; omega
        · obtain rfl : m = la.length := by omega
          have hcC := h4.cell (q := k + la.length) (by omega)
          rw [h3 _ (Nat.le_refl _)] at hcC
          have hfC := h4.free (k + la.length)
          have Hcl := Lib.hid (times_close h1 h2 h3 h4 h5 h6 Hkm.out hcy)
          clear h1 h2 h3 h4 h5 h6 hcl
          rw [Nat.add_comm k la.length] at hcC hfC Hcl
          have e1 : IntKind.i64.wrap ((la.length : Int) + (k : Int)) = (la.length : Int) + (k : Int) := IntWalk.i64_in _ (by omega)
          have e2 : ((la.length : Int) + (k : Int)).toNat = la.length + k := by omega
          have e3 : (0 : Int) ≤ (la.length : Int) + (k : Int) := by omega
          have e4 : (la.length : Int) + (k : Int) < (la.length : Int) + 2 := by omega
          go_wp2
          go_roundw
          case rel =>
            refine ⟨k + 1, by go_num, by omega, Hcl.out, ?_, ?_⟩
            · rw [World.cell?_setCell_other _ _ _ _ (by first | (simp; done) | (simp; omega))]; exact Hd2.out.1
            · rw [World.cell?_setCell_other _ _ _ _ (by first | (simp; done) | (simp; omega))]; exact Hd2.out.2
          case measure => simp [intOf]; omega
    · obtain rfl : k = 2 := by omega
      obtain ⟨cs, h1, h2, h3, h4, h5, h6⟩ := Hout.out
      have hdig := h4.dig
      rw [h1, Hlm2.out, Nat.add_comm 2 la.length] at hdig
      rw [List.take_of_length_le (by rw [Hlm2.out]; exact Nat.le_refl _), Hval.out] at h5
      have H2 := Lib.hid h2; have H5 := Lib.hid h5; have H6 := Lib.hid h6; have Hdig := Lib.hid hdig
      have hsz := h6.size
      clear h1 h2 h3 h4 h5 h6 hdig Hout Hd
      go_wp2_with (go_at_call 86; (with_reducible refine (pnorm_N _ cs _ Hdig.out H2.out).mono ?_); rintro e w2 ⟨v, rfl, hv, hb2⟩)
      rw [H5.out] at hv
      have Hfin := Lib.hid (H6.out.trans (hb2.mono hsz))
      clear hb2
      go_wp2
      go_ret
      exact ⟨v, rfl, hv, Hfin.out⟩
end Go.Proofs.YtbpldplbkmabmaaDoor
