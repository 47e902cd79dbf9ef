/- Contract of spigotref03.DocExact. -/
import Derived.Test.YtbpldplbkmabmaaDoorRlB
namespace Go.Proofs.YtbpldplbkmabmaaDoor
open Go.RowKit

def ExactSame (w : World) (s : Bool) (o : Nat) (e : Int) (f : Nat) (x : Ending) (w' : World) : Prop := x = .returned (.tuple #[.bool s, .int .u64 o, .int .i64 e, .int .i64 f]) ∧ w = w'

theorem docexact_bad (b : Nat) (w : World) (h : 9218868437227405312 ≤ rg b) :
    Calls Tryd.prog 31 #[.float .f64 b] w (ExactSame w false 0 0 (finE (rg b))) := by
  have K := Lib.hid (fun v => kind_ref b v)
  have hc := finE_kind (rg b)
  have hk : 3 ≤ kindN (rg b) := by
    unfold kindN
    rw [if_neg (by omega), if_neg (by omega), if_neg (by omega)]
    split <;> omega
  generalize kindN (rg b) = k at *
  generalize finE (rg b) = f at *
  rcases hc with ⟨rfl, rfl⟩ | ⟨rfl, rfl⟩ | ⟨hk2, rfl⟩
  · go_enter Tryd.func31, Tryd.ntmps31
    go_wp2_with (go_at_call 34; (with_reducible refine (K.out _).mono ?_); rintro e w' ⟨rfl, rfl⟩)
    exact bodyPost_ret (v := .tuple #[.bool false, .int .u64 0, .int .i64 0, .int .i64 4]) (by simp [results, Tryd.results31, go_sem]) rfl ⟨rfl, rfl⟩
  · go_enter Tryd.func31, Tryd.ntmps31
    go_wp2_with (go_at_call 34; (with_reducible refine (K.out _).mono ?_); rintro e w' ⟨rfl, rfl⟩)
    exact bodyPost_ret (v := .tuple #[.bool false, .int .u64 0, .int .i64 0, .int .i64 5]) (by simp [results, Tryd.results31, go_sem]) rfl ⟨rfl, rfl⟩
  · omega

theorem kind_small {r : Nat} (h : r < 9218868437227405312) : ((kindN r : Int) == 4) = false ∧ ((kindN r : Int) == 3) = false := by
  have hk : kindN r < 3 := by
    unfold kindN
    repeat' split
    all_goals omega
  exact ⟨by simp; omega, by simp; omega⟩

theorem docexact_zero (b : Nat) (w : World) (h : rg b = 0) :
    Calls Tryd.prog 31 #[.float .f64 b] w (ExactSame w (sgn b) 0 0 0) := by
  have K := Lib.hid (fun v => kind_ref b v)
  have Kn := Lib.hid (fun v => number_ref b v)
  have Km := Lib.hid (fun v => minus_ref b v)
  rw [h] at K Kn
  rw [show kindN 0 = 0 from rfl] at K
  rw [show numM 0 = 0 from rfl] at Kn
  generalize sgn b = s at *
  go_enter Tryd.func31, Tryd.ntmps31
  go_wp2_with (first | (go_at_call 34; (with_reducible refine (K.out _).mono ?_); rintro e w' ⟨rfl, rfl⟩) | (go_at_call 57; (with_reducible refine (Kn.out _).mono ?_); rintro e w' ⟨rfl, rfl⟩) | (go_at_call 36; (with_reducible refine (Km.out _).mono ?_); rintro e w' ⟨rfl, rfl⟩))
  exact bodyPost_ret (v := .tuple #[.bool s, .int .u64 0, .int .i64 0, .int .i64 0]) (by simp [results, Tryd.results31, go_sem]) rfl ⟨rfl, rfl⟩

theorem numM_pos {r : Nat} (h0 : 0 < r) : 0 < numM r ∧ numM r < 9007199254740992 := by
  unfold numM
  split <;> omega

set_option maxHeartbeats 2000000 in
theorem docexact_some (b o t : Nat) (w : World) (h0 : 0 < rg b) (h1 : rg b < 9218868437227405312) (ho : o % 2 = 1) (hV : o * 2 ^ t = V (rg b)) :
    Calls Tryd.prog 31 #[.float .f64 b] w (ExactSame w (sgn b) o ((t : Int) - 1074) 0) := by
  have K := Lib.hid (fun v => kind_ref b v)
  have Kn := Lib.hid (fun v => number_ref b v)
  have Km := Lib.hid (fun v => minus_ref b v)
  obtain ⟨hk4, hk3⟩ := kind_small h1
  obtain ⟨hm0, hm1⟩ := numM_pos h0
  have hn0 : ((numM (rg b) : Int) == 0) = false := by simp; omega
  have hnv := @num_val (rg b)
  have hEl : numE (rg b) ≤ 2046 := by unfold numE; omega
  have hE : rg b < 9218868437227405312 := h1
  rw [← hV] at hnv
  have Hnv := Lib.hid hnv
  have Ho := Lib.hid ho
  generalize numM (rg b) = M at *
  generalize numE (rg b) = E at *
  generalize kindN (rg b) = k at *
  generalize sgn b = s at *
  clear hV h0 h1 hE hnv ho
  go_enter Tryd.func31, Tryd.ntmps31
  go_wp2_with (first | (go_at_call 34; (with_reducible refine (K.out _).mono ?_); rintro e w' ⟨rfl, rfl⟩) | (go_at_call 57; (with_reducible refine (Kn.out _).mono ?_); rintro e w' ⟨rfl, rfl⟩))
  clear hk4 hk3 hn0
  go_loop [6, 7] (fun m e => ∃ y j : Nat, m = .int .u64 y ∧ e = .int .i64 ((j : Int) - 1074) ∧ 0 < y ∧ y < 9007199254740992 ∧ y * 2 ^ j = o * 2 ^ t ∧ j + y ≤ 9007199254740992 + 2046) (fun m _ => (intOf m).toNat)
  case atStart => exact ⟨M, E, rfl, rfl, hm0, hm1, Hnv.out, by omega⟩
  case round =>
    obtain ⟨y, j, rfl, rfl, hy0, hy1, hyj, hjy⟩ := hrel
    have Hyj := Lib.hid hyj
    clear hyj
    by_cases hodd : y % 2 = 0
    · have hd : ((y : Int) % 2 == 0) = true := by simp; omega
      have Hn : Hid (y / 2 * 2 ^ (j + 1) = o * 2 ^ t) := Lib.hid (by
        rw [← Hyj.out, Nat.pow_succ, Nat.mul_comm (2 ^ j) 2, ← Nat.mul_assoc, show y / 2 * 2 = y by omega])
      have hy2 : 0 < y / 2 := by omega
      have hy3 : y / 2 < y := by omega
      clear hodd Hyj
      go_wp2
      go_round
      case rel => exact ⟨y / 2, j + 1, by go_num, by go_num, hy2, by omega, Hn.out, by omega⟩
      case measure => simp [intOf]; omega
    · have hd : ((y : Int) % 2 == 0) = false := by simp; omega
      obtain ⟨e1, e2⟩ := odd_unique (show y % 2 = 1 by omega) Ho.out j t Hyj.out
      subst e1 e2
      clear hodd Hyj
      go_wp2_with (go_at_call 36; (with_reducible refine (Km.out _).mono ?_); rintro e w' ⟨rfl, rfl⟩)
      exact bodyPost_ret (v := .tuple #[.bool s, .int .u64 y, .int .i64 ((j : Int) - 1074), .int .i64 0]) (by simp [results, Tryd.results31, go_sem]) rfl ⟨rfl, rfl⟩
end Go.Proofs.YtbpldplbkmabmaaDoor
