/- Contracts of spigotref01's Compare and Size. -/
import Derived.Test.YtbpldplbkmabmaaDoorNatB
import Derived.Test.YtbpldplbkmabmaaDoorNatPl
import Derived.Deep.QuietTactic
import Derived.BigQuiet
namespace Go.Proofs.YtbpldplbkmabmaaDoor
open Go.RowKit

def CmpRes (w : World) (k : Int) (e : Ending) (w' : World) : Prop := e = .returned (.int .i64 k) ∧ ∃ n, w' = w.drewN n

set_option maxHeartbeats 1000000 in
set_option maxRecDepth 100000 in
theorem compare_any (va vb : Value) (na nb : Nat) (w : World) (ha : IsN w va na) (hb : IsN w vb nb) :
    Calls Tryd.prog 91 #[va, vb] w (CmpRes w (cmpI na nb)) := by
  obtain ⟨la, ⟨aa, ca, rfl, hla, hca, hra⟩, hna, rfl⟩ := ha
  obtain ⟨lb, ⟨ab, cb, rfl, hlb, hcb, hrb⟩, hnb, rfl⟩ := hb
  unfold maxLen at hca hcb
  have Hna := Lib.hid hna
  have Hnb := Lib.hid hnb
  have Hra := Lib.hid hra
  have Hrb := Lib.hid hrb
  clear hra hrb hna hnb
  by_cases h1 : la.length < lb.length
  · rw [cmpI_lt (len_lt Hna.out Hnb.out h1)]
    have hne : (((la.length : Nat) : Int) != ((lb.length : Nat) : Int)) = true := by rw [bne_iff_ne]; omega
    go_enter Tryd.func91, Tryd.ntmps91
    go_wp2
    go_ret
    exact ⟨rfl, 0, rfl⟩
  · by_cases h2 : lb.length < la.length
    · rw [cmpI_gt (len_lt Hnb.out Hna.out h2)]
      have hne : (((la.length : Nat) : Int) != ((lb.length : Nat) : Int)) = true := by rw [bne_iff_ne]; omega
      go_enter Tryd.func91, Tryd.ntmps91
      go_wp2
      go_ret
      exact ⟨rfl, 0, rfl⟩
    · have hl : la.length = lb.length := by omega
      have Hl := Lib.hid hl
      have hne : (((la.length : Nat) : Int) != ((lb.length : Nat) : Int)) = false := by rw [hl]; simp
      have hle1 : la.length ≤ lb.length := by omega
      clear hl h1 h2
      go_enter Tryd.func91, Tryd.ntmps91
      go_wp2
      clear hne
      go_loopw [5] (fun i w' => ∃ k : Nat, k ≤ la.length ∧ i = .int .i64 ((k : Int) - 1) ∧ la.drop k = lb.drop k ∧ ∃ nd, w' = w.drewN nd) (fun i _ => (intOf i + 1).toNat)
      case atStart => exact ⟨la.length, Nat.le_refl _, rfl, by rw [List.drop_length, Hl.out, List.drop_length], 0, rfl⟩
      case round =>
        obtain ⟨k, hk, rfl, hdrop, nd, rfl⟩ := hrel
        have Hdrop := Lib.hid hdrop
        clear hdrop
        cases k with
        | zero =>
          have he : valL la = valL lb := by have h := Hdrop.out; rw [List.drop_zero, List.drop_zero] at h; rw [h]
          have He := Lib.hid he
          clear he
          go_wp2
          go_ret
          exact ⟨by rw [He.out, cmpI_eq]; rfl, nd, rfl⟩
        | succ m =>
          obtain ⟨ba, oa, rfl, hcella⟩ := Hra.out (by omega)
          obtain ⟨bb, ob, rfl, hcellb⟩ := Hrb.out (by omega)
          have hcA := hcella m (by omega)
          have hcB := hcellb m (by omega)
          have hmb : m < lb.length := by omega
          have hi1 : (0 : Int) ≤ ((m + 1 : Nat) : Int) - 1 := by omega
          have hi2 : ((m + 1 : Nat) : Int) - 1 < (la.length : Int) := by omega
          have hi3 : ((m + 1 : Nat) : Int) - 1 < (lb.length : Int) := by omega
          have hi4 : (((m + 1 : Nat) : Int) - 1).toNat = m := by omega
          clear hcella hcellb
          have Hlt := Lib.hid (fun h => digit_lt Hna.out Hl.out (m := m) (by omega) Hdrop.out h)
          have Hgt := Lib.hid (fun h => digit_lt Hnb.out Hl.out.symm (m := m) (by omega) Hdrop.out.symm h)
          have Heq := Lib.hid (fun h => drop_eq_step (m := m) (by omega) (by omega) Hdrop.out h)
          clear Hdrop
          generalize la.getD m 0 = x at *
          generalize lb.getD m 0 = y at *
          by_cases hlt : x < y
          · have hlt' : (x : Int) < (y : Int) := by omega
            have Hr := Lib.hid (Hlt.out hlt)
            clear hlt Hlt Hgt Heq
            go_wp2
            go_quiet (fail)
            go_wp2
            go_ret
            exact ⟨by rw [cmpI_lt Hr.out]; rfl, _, World.drewN_drewN _ _ _⟩
          · have hlt' : ¬ (x : Int) < (y : Int) := by omega
            by_cases hgt : y < x
            · have hgt' : (y : Int) < (x : Int) := by omega
              have Hr := Lib.hid (Hgt.out hgt)
              clear hlt hgt Hlt Hgt Heq
              go_wp2
              go_quiet (fail)
              go_wp2
              go_quiet (fail)
              go_wp2
              go_ret
              exact ⟨by rw [cmpI_gt Hr.out]; rfl, _, by rw [World.drewN_drewN, World.drewN_drewN]⟩
            · have hxy : x = y := by omega
              have Hr := Lib.hid (Heq.out hxy)
              subst hxy
              clear hlt hgt Hlt Hgt Heq hlt'
              have hn : ¬ (x : Int) < (x : Int) := by omega
              go_wp2
              go_quiet (fail)
              go_wp2
              go_quiet (fail)
              go_wp2
              go_roundw
              case rel => exact ⟨m, by omega, by go_num, Hr.out, _, rfl⟩
              case measure => simp [intOf]

set_option maxHeartbeats 1000000 in
set_option maxRecDepth 100000 in
theorem size_any (v : Value) (n : Nat) (w : World) (h : IsN w v n) (hsn : n < 2 ^ 1000000) :
    Calls Tryd.prog 101 #[v] w (CmpRes w (bitLen n : Nat)) := by
  obtain ⟨l, ⟨a, c, rfl, hl, hc, hr⟩, hn, rfl⟩ := h
  have hk := len_le hn hsn
  clear hsn
  have Hr := Lib.hid hr
  clear hr
  by_cases h0 : l.length = 0
  · have e : bitLen (valL l) = 0 := by rw [List.length_eq_zero_iff.1 h0]; decide
    have He := Lib.hid e
    have hne : (((l.length : Nat) : Int) == 0) = true := by rw [h0]; rfl
    clear e h0 hn
    go_enter Tryd.func101, Tryd.ntmps101
    go_wp2
    go_ret
    exact ⟨by rw [He.out]; rfl, 0, rfl⟩
  · have Hs := Lib.hid (size_val hn (by omega))
    have hne : (((l.length : Nat) : Int) == 0) = false := beq_eq_false_iff_ne.2 (by omega)
    obtain ⟨b, off, rfl, hcell⟩ := Hr.out (by omega)
    have hcm := hcell (l.length - 1) (by omega)
    have hd := hn.1 _ (getD_mem (l := l) (k := l.length - 1) (by omega))
    obtain ⟨m, hm⟩ : ∃ m, l.length = m + 1 := ⟨l.length - 1, by omega⟩
    rw [hm] at hcm hd Hs hne
    rw [Nat.add_sub_cancel] at hcm hd Hs
    have hi1 : (0 : Int) ≤ ((m + 1 : Nat) : Int) - 1 := by omega
    have hi4 : (((m + 1 : Nat) : Int) - 1).toNat = m := by omega
    have hi2 : ((m + 1 : Nat) : Int) - 1 < ((m + 1 : Nat) : Int) := by omega
    have hm2 : m ≤ 100000 := by omega
    clear hcell hn Hr h0 hl hc
    generalize l.length = L at *
    subst hm
    generalize valL l = V at *
    generalize l.getD m 0 = x at *
    clear hk
    go_enter Tryd.func101, Tryd.ntmps101
    go_wp2
    go_loop [3, 4] (fun n y => ∃ k z : Nat, n = .int .i64 k ∧ y = .int .u64 z ∧ z < 4294967296 ∧ k + bitLen z = bitLen V ∧ bitLen V ≤ 32 * m + 32) (fun _ y => (intOf y).toNat)
    case atStart => exact ⟨32 * m, x, by go_num, rfl, hd, Hs.out.symm, by rw [Hs.out]; have := bitLen_lt (n := x) (m := 32) hd; omega⟩
    case round =>
      obtain ⟨k, z, rfl, rfl, hz, hkz, hkm⟩ := hrel
      have Hkz := Lib.hid hkz
      have hk1 : k ≤ 32 * m + 32 := by omega
      clear hkz
      by_cases h0 : 0 < z
      · have Hst := Lib.hid (bitLen_step h0)
        have h0' : (0 : Int) < (z : Int) := by omega
        go_wp2
        go_round
        case rel => exact ⟨k + 1, z / 2, by go_num, by go_num, by omega, by rw [← Hkz.out, Hst.out]; omega, hkm⟩
        case measure => simp [intOf]; omega
      · have hz0 : z = 0 := by omega
        subst hz0
        have He : Hid (bitLen V = k) := by rw [← Hkz.out]; show k + 0 = k; omega
        clear h0 Hkz
        go_wp2
        go_ret
        exact ⟨by rw [He.out]; rfl, 0, rfl⟩

end Go.Proofs.YtbpldplbkmabmaaDoor
