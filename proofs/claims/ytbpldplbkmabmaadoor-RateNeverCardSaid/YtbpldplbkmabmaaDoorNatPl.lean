/- The contract of spigotref01.Plus: the sum. -/
import Derived.Test.YtbpldplbkmabmaaDoorNatA
import Derived.Test.YtbpldplbkmabmaaDoorNatN
namespace Go.Proofs.YtbpldplbkmabmaaDoor
open Go.RowKit

theorem info_u64 : (Tryd.prog.info? 22).map (fun i => (i.zero, i.size, i.bytes)) = some (some (.int .u64 0), 1, 8) := by kernel_rfl

theorem one_news {w : World} {x : Value} {t : TypeId} : ∀ (j : Nat) (u : Value), [x][j]? = some u → (w.alloc (.cells #[x] t)).cell? ((⟨w.heap.size, 0, none⟩ : Addr).add j) = some u := by
  intro j u hj
  match j, hj with
  | 0, hj => simp at hj; subst hj; simp [Addr.add]

set_option maxHeartbeats 1000000 in
set_option maxRecDepth 100000 in
theorem plus_any (va vb : Value) (na nb : Nat) (w : World) (ha : IsN w va na) (hb : IsN w vb nb) (hsa : na < 2 ^ 100000) (hsb : nb < 2 ^ 100000) :
    Calls Tryd.prog 92 #[va, vb] w (NatRes w (na + nb)) := by
  obtain ⟨la, ⟨aa, ca, rfl, hla, hca, hra⟩, hna, rfl⟩ := ha
  obtain ⟨lb, ⟨ab, cb, rfl, hlb, hcb, hrb⟩, hnb, rfl⟩ := hb
  have hka := len_le hna hsa
  have hkb := len_le hnb hsb
  have Hda := Lib.hid hna.1
  have Hdb := Lib.hid hnb.1
  clear hna hnb hsa hsb
  have Hra := Lib.hid hra
  have Hrb := Lib.hid hrb
  clear hra hrb
  obtain ⟨i0, hi, hz0, hz1, hz2⟩ := info_parts info_u64
  have Hi := Lib.hid hi; have Hz0 := Lib.hid hz0; have Hz1 := Lib.hid hz1; have Hz2 := Lib.hid hz2
  clear hi hz0 hz1 hz2
  go_enter Tryd.func92, Tryd.ntmps92
  go_wp2
  go_loopw [5, 6, 7] (fun c y i wr => ∃ k cy : Nat, i = .int .i64 k ∧ y = .int .u64 cy ∧ cy ≤ 1 ∧ k ≤ max la.length lb.length + 1 ∧ (k = max la.length lb.length + 1 → cy = 0) ∧ PlusRel w.heap.size w la lb k c cy wr)
    (fun _ _ i _ => max la.length lb.length + 2 - (intOf i).toNat)
  case atStart => exact ⟨0, 0, rfl, rfl, by omega, by omega, fun _ => rfl, [], rfl, by simp, World.ownsRow_nil _ _ _ _, by simp [valL], Below.refl _ _⟩
  case round =>
    obtain ⟨k, cy, rfl, rfl, hcy, hkm, hend, cs, hcl, hcd, hown, hcv, hbel⟩ := hrel
    have hsz := hbel.size
    have Hown := Lib.hid hown; have Hcd := Lib.hid hcd; have Hcv := Lib.hid hcv; have Hcl := Lib.hid hcl; have Hend := Lib.hid hend
    have Hob := Lib.hid (fun g hg => (hown.lt g hg).1)
    clear hown hcd hcv hcl hend
    by_cases hA : k < la.length
    · obtain ⟨ba, oa, rfl, hcella⟩ := Hra.out (by omega)
      have hcA := cell_later hbel (hcella k hA)
      clear hcella
      have hxa := Hda.out _ (getD_mem hA)
      by_cases hB : k < lb.length
      · obtain ⟨bb, ob, rfl, hcellb⟩ := Hrb.out (by omega)
        have hcB := cell_later hbel (hcellb k hB)
        clear hcellb
        have hxb := Hdb.out _ (getD_mem hB)
        have Hst := fun w1 c1 o h1 h2 => Lib.hid (plus_step (w1 := w1) (c1 := c1) (o := o) (s := ((cy : Int) + (la.getD k 0 : Nat) + (lb.getD k 0 : Nat)) % 4294967296) Hcl.out Hcd.out Hcv.out hbel hsz Hob.out h1 h2 (by omega))
        have Hbel := Lib.hid hbel
        clear hbel
        generalize la.getD k 0 = x at *
        generalize lb.getD k 0 = y at *
        go_wp2_with (at_builtin; refine wpList_append_own _ rfl _ _ 75 rfl w.heap.size 22 i0 (.int .u64 0) 1 8 Tryd.underlying75 Hi.out Hz0.out Hz1.out Hz2.out rfl (by decide) _ _ _ rfl (Hown.out.alloc _) ⟨wr.heap.size, 0, none⟩ 1 1 [.int .u64 (((cy : Int) + (x : Int) + (y : Int)) % 4294967296)] rfl rfl one_news ?_ ?_ ?_ ?_ ?_)
        · intro u hu; simp at hu; subst hu; rfl
        · rw [Hcl.out]; unfold maxLen; omega
        · rw [Hcl.out]; omega
        · simp; omega
        · intro c1 w1 hown1 hgrow1 _
          have Hst1 := Hst w1 c1 _ (by rw [Hcl.out] at hown1; exact hown1) hgrow1
          clear hown1 hgrow1 Hst
          go_wp2
          go_roundw
          case rel => exact ⟨k + 1, (cy + x + y) / 4294967296, by go_num, by go_num, by omega, by omega, by omega, Hst1.out⟩
          case measure => simp [intOf]; omega
      · have e1 : lb.getD k 0 = 0 := getD_past (by omega)
        have Hst := fun w1 c1 o h1 h2 => Lib.hid (plus_step (w1 := w1) (c1 := c1) (o := o) (s := ((cy : Int) + (la.getD k 0 : Nat)) % 4294967296) Hcl.out Hcd.out Hcv.out hbel hsz Hob.out h1 h2 (by omega))
        simp only [e1, Nat.add_zero] at Hst
        clear e1
        have Hbel := Lib.hid hbel
        clear hbel
        generalize la.getD k 0 = x at *
        go_wp2_with (at_builtin; refine wpList_append_own _ rfl _ _ 75 rfl w.heap.size 22 i0 (.int .u64 0) 1 8 Tryd.underlying75 Hi.out Hz0.out Hz1.out Hz2.out rfl (by decide) _ _ _ rfl (Hown.out.alloc _) ⟨wr.heap.size, 0, none⟩ 1 1 [.int .u64 (((cy : Int) + (x : Int)) % 4294967296)] rfl rfl one_news ?_ ?_ ?_ ?_ ?_)
        · intro u hu; simp at hu; subst hu; rfl
        · rw [Hcl.out]; unfold maxLen; omega
        · rw [Hcl.out]; omega
        · simp; omega
        · intro c1 w1 hown1 hgrow1 _
          have Hst1 := Hst w1 c1 _ (by rw [Hcl.out] at hown1; exact hown1) hgrow1
          clear hown1 hgrow1 Hst
          go_wp2
          go_roundw
          case rel => exact ⟨k + 1, (cy + x) / 4294967296, by go_num, by go_num, by omega, by omega, by omega, Hst1.out⟩
          case measure => simp [intOf]; omega
    · by_cases hB : k < lb.length
      · obtain ⟨bb, ob, rfl, hcellb⟩ := Hrb.out (by omega)
        have hcB := cell_later hbel (hcellb k hB)
        clear hcellb
        have hxb := Hdb.out _ (getD_mem hB)
        have e0 : la.getD k 0 = 0 := getD_past (by omega)
        have Hst := fun w1 c1 o h1 h2 => Lib.hid (plus_step (w1 := w1) (c1 := c1) (o := o) (s := ((cy : Int) + (lb.getD k 0 : Nat)) % 4294967296) Hcl.out Hcd.out Hcv.out hbel hsz Hob.out h1 h2 (by omega))
        simp only [e0, Nat.add_zero] at Hst
        clear e0
        have Hbel := Lib.hid hbel
        clear hbel
        generalize lb.getD k 0 = y at *
        go_wp2_with (at_builtin; refine wpList_append_own _ rfl _ _ 75 rfl w.heap.size 22 i0 (.int .u64 0) 1 8 Tryd.underlying75 Hi.out Hz0.out Hz1.out Hz2.out rfl (by decide) _ _ _ rfl (Hown.out.alloc _) ⟨wr.heap.size, 0, none⟩ 1 1 [.int .u64 (((cy : Int) + (y : Int)) % 4294967296)] rfl rfl one_news ?_ ?_ ?_ ?_ ?_)
        · intro u hu; simp at hu; subst hu; rfl
        · rw [Hcl.out]; unfold maxLen; omega
        · rw [Hcl.out]; omega
        · simp; omega
        · intro c1 w1 hown1 hgrow1 _
          have Hst1 := Hst w1 c1 _ (by rw [Hcl.out] at hown1; exact hown1) hgrow1
          clear hown1 hgrow1 Hst
          go_wp2
          go_roundw
          case rel => exact ⟨k + 1, (cy + y) / 4294967296, by go_num, by go_num, by omega, by omega, by omega, Hst1.out⟩
          case measure => simp [intOf]; omega
      · by_cases hc : 0 < cy
        · have hke : k ≠ max la.length lb.length + 1 := fun h => by have := Hend.out h; omega
          have e0 : la.getD k 0 = 0 := getD_past (by omega)
          have e1 : lb.getD k 0 = 0 := getD_past (by omega)
          have Hst := fun w1 c1 o h1 h2 => Lib.hid (plus_step (w1 := w1) (c1 := c1) (o := o) (s := ((cy : Int)) % 4294967296) Hcl.out Hcd.out Hcv.out hbel hsz Hob.out h1 h2 (by omega))
          simp only [e0, e1, Nat.add_zero] at Hst
          clear e0 e1
          have Hbel := Lib.hid hbel
          clear hbel
          go_wp2_with (at_builtin; refine wpList_append_own _ rfl _ _ 75 rfl w.heap.size 22 i0 (.int .u64 0) 1 8 Tryd.underlying75 Hi.out Hz0.out Hz1.out Hz2.out rfl (by decide) _ _ _ rfl (Hown.out.alloc _) ⟨wr.heap.size, 0, none⟩ 1 1 [.int .u64 (((cy : Int)) % 4294967296)] rfl rfl one_news ?_ ?_ ?_ ?_ ?_)
          · intro u hu; simp at hu; subst hu; rfl
          · rw [Hcl.out]; unfold maxLen; omega
          · rw [Hcl.out]; omega
          · simp; omega
          · intro c1 w1 hown1 hgrow1 _
            have Hst1 := Hst w1 c1 _ (by rw [Hcl.out] at hown1; exact hown1) hgrow1
            clear hown1 hgrow1 Hst
            go_wp2
            go_roundw
            case rel => exact ⟨k + 1, (cy) / 4294967296, by go_num, by go_num, by omega, by omega, by omega, Hst1.out⟩
            case measure => simp [intOf]; omega
        · have hc0 : cy = 0 := by omega
          subst hc0
          have hva := Hcv.out
          rw [List.take_of_length_le (by omega), List.take_of_length_le (by omega), Nat.mul_zero, Nat.add_zero] at hva
          have Hva := Lib.hid hva
          have Hbel := Lib.hid hbel
          clear hva hbel
          go_wp2_with (go_at_call 88; (with_reducible refine (norm_N _ cs _ (dig_of_own Hown.out) Hcd.out).mono ?_); rintro e w2 ⟨v, rfl, hv, hb2⟩)
          rw [Hva.out] at hv
          have Hfin := Lib.hid (Hbel.out.trans (hb2.mono hsz))
          clear hb2
          go_wp2
          go_ret
          exact ⟨v, rfl, hv, Hfin.out⟩

end Go.Proofs.YtbpldplbkmabmaaDoor
