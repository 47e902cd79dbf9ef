/- Contracts of spigotref01's functions on lists of digits: Norm, Word, Fits, Held. -/
import Derived.Test.YtbpldplbkmabmaaDoorNatD
import Derived.Deep.QuietTactic
import Derived.BigQuiet
import Derived.Test.YtbpldplbkmabmaaDoorTickC
namespace Go.Proofs.YtbpldplbkmabmaaDoor
open Go.RowKit

def NormRes (w : World) (l : List Nat) (e : Ending) (w' : World) : Prop := ∃ v, e = .returned v ∧ Dig w' v (cutL l l.length) ∧ ∃ n, w' = w.drewN n

set_option maxHeartbeats 400000 in
theorem norm_any (v : Value) (l : List Nat) (w : World) (h : Dig w v l) :
    Calls Tryd.prog 88 #[v] w (NormRes w l) := by
  obtain ⟨a, c, rfl, hl, hc, hr⟩ := h
  unfold maxLen at hc
  have HL : Hid (∃ L, L = l.length) := ⟨_, rfl⟩
  have Hr := Lib.hid hr
  clear hr
  go_enter Tryd.func88, Tryd.ntmps88
  go_wp2
  go_loopw [3] (fun n w' => ∃ k : Nat, k ≤ l.length ∧ n = .int .i64 k ∧ cutL l k = cutL l l.length ∧ ∃ nd, w' = w.drewN nd) (fun n _ => (intOf n).toNat)
  case atStart => exact ⟨l.length, Nat.le_refl _, rfl, rfl, 0, rfl⟩
  case round =>
    obtain ⟨k, hk, rfl, hcut, nd, rfl⟩ := hrel
    have Hcut := Lib.hid hcut
    clear hcut
    cases k with
    | zero =>
      go_wp2
      go_ret
      refine ⟨_, rfl, ?_, nd, rfl⟩
      rw [← Hcut.out]
      exact ⟨a, c, rfl, Nat.zero_le _, by unfold maxLen; omega, fun h0 => absurd h0 (by simp [cutL])⟩
    | succ m =>
      obtain ⟨b, off, rfl, hcell⟩ := Hr.out (by omega)
      have hcm := hcell m (by omega)
      have Hcell := Lib.hid hcell
      clear hcell
      by_cases hd : l.getD m 0 = 0
      · have Hcut' : Hid (cutL l m = cutL l l.length) := (cutL_no hd).symm.trans Hcut.out
        rw [hd] at hcm
        clear hd Hcut
        go_wp2
        go_roundw
        case rel => exact ⟨m, by omega, by go_num, Hcut'.out, nd, rfl⟩
        case measure => simp [intOf]
      · have hd0 : ((l.getD m 0 : Nat) : Int) ≠ 0 := by omega
        have hd1 : (((l.getD m 0 : Nat) : Int) == 0) = false := beq_eq_false_iff_ne.2 hd0
        have Hcut' : Hid (l.take (m + 1) = cutL l l.length) := (cutL_yes hd).symm.trans Hcut.out
        generalize hg : l.getD m 0 = x at *
        have Hg := Lib.hid hg
        clear hg hd hd0 Hcut
        go_wp2
        go_ret
        refine ⟨.slice (some ⟨b, off, none⟩) (m + 1) c, rfl, ?_, nd, rfl⟩
        rw [← Hcut'.out]
        have hlen : (l.take (m + 1)).length = m + 1 := by rw [List.length_take]; omega
        refine ⟨_, c, by rw [hlen], by omega, by unfold maxLen; omega, fun _ => ⟨b, off, rfl, fun i hi => ?_⟩⟩
        simp at hi
        rw [World.cell?_drewN]
        rw [Hcell.out i (by omega)]
        simp [List.getD_eq_getElem?_getD, show i < m + 1 by omega]

theorem norm_N (v : Value) (l : List Nat) (w : World) (h : Dig w v l) (hd : ∀ d ∈ l, d < 4294967296) :
    Calls Tryd.prog 88 #[v] w (NatRes w (valL l)) := by
  refine (norm_any v l w h).mono fun e w' hr => ?_
  obtain ⟨v', rfl, hv, n, rfl⟩ := hr
  exact ⟨v', rfl, ⟨_, hv.later ((Below.refl _ _)), cutL_norm l hd, cutL_val l⟩, below_drewN (Below.refl _ _) n⟩

set_option maxHeartbeats 400000 in
theorem word_any (n : Nat) (w : World) (hn : n < 18446744073709551616) :
    Calls Tryd.prog 59 #[.int .u64 n] w (NatRes w n) := by
  have hb : (n : Int) < 18446744073709551616 := by omega
  go_enter Tryd.func59, Tryd.ntmps59
  go_wp2_with (go_at_call 88; with_reducible refine (norm_N _ [n % 4294967296, n / 4294967296] _ (dig_two _ _ _ _ _ (by omega) (by omega)) ?_).mono ?_)
  · intro d hd
    simp at hd
    omega
  · rintro e w' ⟨v, rfl, hv, hb⟩
    rw [valL_two] at hv
    have Hb := Lib.hid (below_past hb)
    clear hb
    go_wp2
    go_ret
    exact ⟨v, rfl, hv, Hb.out⟩

def FitsRes (w : World) (n : Nat) (e : Ending) (w' : World) : Prop := ∃ x : Nat, e = .returned (.tuple #[.int .u64 x, .bool (decide (n < 18446744073709551616))]) ∧ (n < 18446744073709551616 → x = n) ∧ x < 18446744073709551616 ∧ ∃ nd, w' = w.drewN nd

set_option maxHeartbeats 400000 in
theorem fits_any (v : Value) (n : Nat) (w : World) (h : IsN w v n) :
    Calls Tryd.prog 89 #[v] w (FitsRes w n) := by
  obtain ⟨l, ⟨a, c, rfl, hl, hc, hr⟩, hn, rfl⟩ := h
  unfold maxLen at hc
  have Hn := Lib.hid hn
  have Hr := Lib.hid hr
  clear hr hn
  go_enter Tryd.func89, Tryd.ntmps89
  go_wp2
  go_loopw [4, 5] (fun x i w' => ∃ (k y : Nat), k ≤ l.length ∧ i = .int .i64 ((k : Int) - 1) ∧ x = .int .u64 y ∧ y = valL (l.drop k) % 18446744073709551616 ∧ ∃ nd, w' = w.drewN nd) (fun _ i _ => (intOf i + 1).toNat)
  case atStart => exact ⟨l.length, 0, Nat.le_refl _, rfl, rfl, by simp [valL], 0, rfl⟩
  case round =>
    obtain ⟨k, y, hk, rfl, rfl, hy, nd, rfl⟩ := hrel
    have Hy := Lib.hid hy
    clear hy
    cases k with
    | zero =>
      go_wp2
      go_ret2
      have hlt := Hy.out
      rw [List.drop_zero] at hlt
      refine ⟨y, ?_, ?_, ?_, nd, rfl⟩
      · rw [show decide (((l.length : Nat) : Int) ≤ 2) = decide (valL l < 18446744073709551616) from fits_iff Hn.out]; rfl
      · intro h; rw [hlt, Nat.mod_eq_of_lt h]
      · rw [hlt]; exact Nat.mod_lt _ (by decide)
    | succ m =>
      obtain ⟨b, off, rfl, hcell⟩ := Hr.out (by omega)
      have hcm := hcell m (by omega)
      clear hcell
      have Hval : Hid ((y * 4294967296 + l.getD m 0) % 18446744073709551616 = valL (l.drop m) % 18446744073709551616) := by
        rw [Hy.out, drop_val (l := l) (k := m) (by omega)]
        exact mod_step _ _
      generalize hg : l.getD m 0 = d at *
      have Hg := Lib.hid hg
      clear hg
      go_wp2
      go_roundw
      case rel => exact ⟨m, (y * 4294967296 + d) % 18446744073709551616, by omega, rfl, by rw [wrap_two], Hval.out, nd, rfl⟩
      case measure => simp [intOf]

/-- A number, stopped at the greatest tick. -/
def heldN (n : Nat) : Nat := if n ≤ 4611686018427387903 then n else 4611686018427387903

def IntRes (w : World) (k : Int) (e : Ending) (w' : World) : Prop := e = .returned (.int .i64 k) ∧ Below w.heap.size w w'
def TwoRes (w : World) (k f : Int) (e : Ending) (w' : World) : Prop := e = .returned (.tuple #[.int .i64 k, .int .i64 f]) ∧ Below w.heap.size w w'
def ThreeRes (w : World) (a b f : Int) (e : Ending) (w' : World) : Prop := e = .returned (.tuple #[.int .i64 a, .int .i64 b, .int .i64 f]) ∧ Below w.heap.size w w'


theorem heldN_clamp (n : Nat) : ((heldN n : Nat) : Int) = clampI n := by
  unfold heldN clampI
  repeat' split
  all_goals omega


set_option maxHeartbeats 400000 in
theorem rform_any (t : Int) (w : World) :
    Calls Tryd.prog 45 #[.int .i64 t] w fun e w' => e = .returned (.bool (tickB t)) ∧ w = w' := by
  by_cases h0 : 0 ≤ t
  · by_cases h1 : t ≤ 4611686018427387903
    · have e : tickB t = true := tickB_mk h0 h1
      rw [e]
      go_enter Tryd.func45, Tryd.ntmps45
      go_wp2
      go_ret
      exact ⟨rfl, rfl⟩
    · have e : tickB t = false := by simp [tickB]; omega
      rw [e]
      go_enter Tryd.func45, Tryd.ntmps45
      go_wp2
      go_ret
      exact ⟨rfl, rfl⟩
  · have e : tickB t = false := by simp [tickB]; omega
    rw [e]
    have hd : decide (0 ≤ t) = false := by simpa using h0
    go_enter Tryd.func45, Tryd.ntmps45
    go_wp2
    go_ret
    exact ⟨rfl, rfl⟩
end Go.Proofs.YtbpldplbkmabmaaDoor
