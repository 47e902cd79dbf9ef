/- The contract of spigotref01.Times: the product. -/
import Derived.Test.YtbpldplbkmabmaaDoorNatPl
import Derived.IntWalk
namespace Go.Proofs.YtbpldplbkmabmaaDoor
open Go.RowKit

theorem times_start {w w1 : World} {la lb : List Nat}
    (h : w1.ownsRow w.heap.size 22 1 (.slice (some ⟨w.heap.size, 0, none⟩) (la.length + lb.length) (la.length + lb.length)) (la.length + lb.length) (List.replicate (la.length + lb.length) (.int .u64 0)))
    (hg : w.grownBy w1 none) : TimesOut w.heap.size w.heap.size w la lb 0 w1 := by
  refine ⟨List.replicate (la.length + lb.length) 0, by simp, fun d hd => by rw [List.eq_of_mem_replicate hd]; decide, fun q _ => ?_, ?_, by simp [valL, valL_zeros], (Below.refl _ _).grown hg (Nat.le_refl _) (fun k hk => by simp at hk)⟩
  · rw [List.getD_eq_getElem?_getD, List.getElem?_replicate]; split <;> rfl
  · unfold OwnD
    rw [List.length_replicate, List.map_replicate]
    exact h

set_option maxHeartbeats 4000000 in
set_option maxRecDepth 100000 in
theorem times_any (va vb : Value) (na nb : Nat) (w : World) (ha : IsN w va na) (hb : IsN w vb nb) (hsa : na < 2 ^ 100000) (hsb : nb < 2 ^ 100000) :
    Calls Tryd.prog 62 #[va, vb] w (NatRes w (na * nb)) := by
  obtain ⟨la, ⟨aa, ca, rfl, hla, hca, hra⟩, hna, rfl⟩ := ha
  obtain ⟨lb, ⟨ab, cb, rfl, hlb, hcb, hrb⟩, hnb, rfl⟩ := hb
  have hka := len_le hna hsa
  have hkb := len_le hnb hsb
  have Hda := Lib.hid hna.1
  have Hdb := Lib.hid hnb.1
  clear hna hnb hsa hsb
  have Hra := Lib.hid hra
  have Hrb := Lib.hid hrb
  clear hra hrb
  obtain ⟨i0, hi, hz0, hz1, hz2⟩ := info_parts info_u64
  have Hi := Lib.hid hi; have Hz0 := Lib.hid hz0; have Hz1 := Lib.hid hz1; have Hz2 := Lib.hid hz2
  clear hi hz0 hz1 hz2
  go_enter Tryd.func62, Tryd.ntmps62
  go_wp2_with (at_make; refine wpList_make_full _ rfl _ _ 75 rfl w.heap.size 22 i0 (.int .u64 0) 1 Tryd.underlying75 Hi.out Hz0.out Hz1.out .i64 .i64 _ _ (la.length + lb.length) rfl rfl (by simp) (by simp) (by rw [Hz2.out]; omega) (by unfold maxLen; omega) (Nat.le_refl _) ?_)
  intro w1 hown1 hgrow1
  have hst : TimesOut w.heap.size w.heap.size w la lb 0 w1 := times_start (by rw [toList_madeCells_one] at hown1; exact hown1) hgrow1
  have Hst := Lib.hid hst
  clear hown1 hgrow1 hst
  go_wp2
  go_loopw [6, 7, 8, 17] (fun _ _ _ i wr => ∃ k : Nat, i = .int .i64 k ∧ k ≤ la.length ∧ TimesOut w.heap.size w.heap.size w la lb k wr) (fun _ _ _ i _ => la.length - (intOf i).toNat)
  case atStart => exact ⟨0, rfl, Nat.zero_le _, Hst.out⟩
  case round =>
    obtain ⟨k, rfl, hk, hout⟩ := hrel
    have Hout := Lib.hid hout
    clear hout Hst
    by_cases hA : k < la.length
    · have hle : k + lb.length < la.length + lb.length := by omega
      obtain ⟨wo, hwo⟩ : ∃ wo : World, wo = wr := ⟨_, rfl⟩
      subst hwo
      go_wp2
      go_loopw [7, 8, 22] (fun y _ j wr => ∃ m cy : Nat, j = .int .i64 m ∧ y = .int .u64 cy ∧ m ≤ lb.length ∧ cy < 4294967296 ∧ TimesIn w.heap.size w.heap.size w la lb k m cy wr) (fun _ _ j _ => lb.length - (intOf j).toNat)
      case atStart => exact ⟨0, 0, rfl, rfl, Nat.zero_le _, by decide, times_in Hout.out⟩
      case round =>
        obtain ⟨m, cy, rfl, rfl, hm, hcy, cs, h1, h2, h3, h4, h5, h6⟩ := hrel
        obtain ⟨ba, oa, rfl, hcella⟩ := Hra.out (by omega)
        have hcA := cell_later h6 (hcella k hA)
        have hxa := Hda.out _ (getD_mem hA)
        clear hcella Hout
        by_cases hB : m < lb.length
        · obtain ⟨bb, ob, rfl, hcellb⟩ := Hrb.out (by omega)
          have hcB := cell_later h6 (hcellb m hB)
          clear hcellb
          have hxb := Hdb.out _ (getD_mem hB)
          have hcC := h4.cell (q := k + m) (by omega)
          have hfC := h4.free (k + m)
          have hxc := h2 _ (getD_mem (l := cs) (k := k + m) (by omega))
          have Hstep := fun n => Lib.hid (times_step h1 h2 h3 h4 h5 h6 hA hB n)
          have hmul := digit_mul _ _ hxa hxb
          clear h1 h2 h3 h4 h5 h6
          generalize la.getD k 0 = x at *
          generalize lb.getD m 0 = y at *
          generalize cs.getD (k + m) 0 = z at *
          generalize hp : x * y = p at *
          have hpi : (x : Int) * (y : Int) = (p : Int) := by rw [← hp]; exact (Int.natCast_mul x y).symm
          clear hp
          have e1 : IntKind.i64.wrap ((k : Int) + (m : Int)) = (k : Int) + (m : Int) := IntWalk.i64_in _ (by omega)
          have e2 : ((k : Int) + (m : Int)).toNat = k + m := by omega
          have e3 : (0 : Int) ≤ (k : Int) + (m : Int) := by omega
          have e4 : (k : Int) + (m : Int) < (la.length : Int) + (lb.length : Int) := by omega
          go_wp2
          go_quiet (fail)
          go_wp2
          go_roundw
          case rel =>
            refine ⟨m + 1, (cy + (p + z)) / 4294967296, by go_num, by go_num, by omega, by omega, ?_⟩
            have h := (Hstep nq).out
            rw [show (((cy + (p + z)) % 4294967296 : Nat) : Int) = ((cy : Int) + ((p : Int) + (z : Int))) % 4294967296 by omega] at h
            exact h
          case measure => simp [intOf]; omega
        · obtain rfl : m = lb.length := by omega
          have hcC := h4.cell (q := k + lb.length) (by omega)
          rw [h3 _ (Nat.le_refl _)] at hcC
          have hfC := h4.free (k + lb.length)
          have Hcl := Lib.hid (times_close h1 h2 h3 h4 h5 h6 hA hcy)
          clear h1 h2 h3 h4 h5 h6
          have e1 : IntKind.i64.wrap ((k : Int) + (lb.length : Int)) = (k : Int) + (lb.length : Int) := IntWalk.i64_in _ (by omega)
          have e2 : ((k : Int) + (lb.length : Int)).toNat = k + lb.length := by omega
          have e3 : (0 : Int) ≤ (k : Int) + (lb.length : Int) := by omega
          have e4 : (k : Int) + (lb.length : Int) < (la.length : Int) + (lb.length : Int) := by omega
          go_wp2
          go_roundw
          case rel => exact ⟨k + 1, by go_num, by omega, Hcl.out⟩
          case measure => simp [intOf]; omega
    · obtain rfl : k = la.length := by omega
      obtain ⟨cs, h1, h2, h3, h4, h5, h6⟩ := Hout.out
      have hdig := h4.dig
      rw [h1] at hdig
      rw [List.take_length] at h5
      have H2 := Lib.hid h2; have H5 := Lib.hid h5; have H6 := Lib.hid h6; have Hdig := Lib.hid hdig
      have hsz := h6.size
      clear h1 h2 h3 h4 h5 h6 hdig Hout
      go_wp2_with (go_at_call 88; (with_reducible refine (norm_N _ cs _ Hdig.out H2.out).mono ?_); rintro e w2 ⟨v, rfl, hv, hb2⟩)
      rw [H5.out] at hv
      have Hfin := Lib.hid (H6.out.trans (hb2.mono hsz))
      clear hb2
      go_wp2
      go_ret
      exact ⟨v, rfl, hv, Hfin.out⟩
end Go.Proofs.YtbpldplbkmabmaaDoor
