/- Contracts of New, Total, and of spigotref08.Same and the law's of, same. -/
import Derived.Test.YtecbbdbeihiioaaMtC
import Derived.Deep.QuietTactic
import Derived.BigQuiet
namespace Go.Proofs.Ytecbbdbeihiioaa
open Go.RowKit
set_option linter.unusedVariables false

@[local go_sem] theorem run_store_float' {P : Program} {w : World} {a : Addr} {m : Mode} (k : FloatKind) (n : Nat) : (store a (.float k n) m).run P w = stored P w a (.float k n) m := run_store P w a _ m rfl

/-- A meter. -/
structure Mt where
  N : Int
  Bad : Int
  S : Nat
  L : Nat
  Lo : Nat
  Hi : Nat
  Me : Nat
  Sp : Nat
def mtV (m : Mt) : Value := .agg #[.int .i64 m.N, .int .i64 m.Bad, .float .f64 m.S, .float .f64 m.L, .float .f64 m.Lo, .float .f64 m.Hi, .float .f64 m.Me, .float .f64 m.Sp]
/-- Its words are words. -/
def Mt.Ok (m : Mt) : Prop := m.S < 18446744073709551616 ∧ m.L < 18446744073709551616 ∧ m.Lo < 18446744073709551616 ∧ m.Hi < 18446744073709551616 ∧ m.Me < 18446744073709551616 ∧ m.Sp < 18446744073709551616
/-- One, up to a NaN's bits. -/
def mtSim (m m' : Mt) : Prop := m.N = m'.N ∧ m.Bad = m'.Bad ∧ nfW m.S = nfW m'.S ∧ nfW m.L = nfW m'.L ∧ nfW m.Lo = nfW m'.Lo ∧ nfW m.Hi = nfW m'.Hi ∧ nfW m.Me = nfW m'.Me ∧ nfW m.Sp = nfW m'.Sp
theorem mtSim.symm {a b : Mt} (h : mtSim a b) : mtSim b a := ⟨h.1.symm, h.2.1.symm, h.2.2.1.symm, h.2.2.2.1.symm, h.2.2.2.2.1.symm, h.2.2.2.2.2.1.symm, h.2.2.2.2.2.2.1.symm, h.2.2.2.2.2.2.2.symm⟩
theorem mtSim.trans {a b c : Mt} (h : mtSim a b) (k : mtSim b c) : mtSim a c := ⟨h.1.trans k.1, h.2.1.trans k.2.1, h.2.2.1.trans k.2.2.1, h.2.2.2.1.trans k.2.2.2.1, h.2.2.2.2.1.trans k.2.2.2.2.1, h.2.2.2.2.2.1.trans k.2.2.2.2.2.1, h.2.2.2.2.2.2.1.trans k.2.2.2.2.2.2.1, h.2.2.2.2.2.2.2.trans k.2.2.2.2.2.2.2⟩
theorem mtSim.refl (a : Mt) : mtSim a a := ⟨rfl, rfl, rfl, rfl, rfl, rfl, rfl, rfl⟩

/-- Of no numbers. -/
def mt0 : Mt := ⟨0, 0, 9223372036854775808, 0, 9218868437227405312, 18442240474082181120, 0, 0⟩
def MtRes (w : World) (m : Mt) (e : Ending) (w' : World) : Prop := ∃ m', e = .returned (mtV m') ∧ mtSim m' m ∧ m'.Ok ∧ Below w.heap.size w w'

theorem infm_any (w : World) : Calls Try.prog 48 #[.int .i64 (-1)] w fun e w' => e = .returned (.float .f64 18442240474082181120) ∧ w = w' := by
  have h6 := ext_from 18442240474082181120 w
  rw [show (18442240474082181120 : Int).toNat = 18442240474082181120 from rfl] at h6
  go_enter Try.func48, Try.ntmps48
  go_wp2
  go_ret
  exact ⟨rfl, rfl⟩

theorem new_any (w : World) : Calls Try.prog 24 #[] w fun e w' => e = .returned (mtV mt0) ∧ Below w.heap.size w w' := by
  have Kc := Lib.hid (fun v => copysign_any 0 13830554455654793216 v (by decide) (by decide))
  rw [show mkW (sgn 13830554455654793216) (rg 0) = 9223372036854775808 by decide +kernel] at Kc
  have K1 := Lib.hid (fun v => inf1_any v)
  have K2 := Lib.hid (fun v => infm_any v)
  unfold mtV mt0
  go_enter Try.func24, Try.ntmps24
  go_wp2_with (first | (go_at_call 47; (with_reducible refine (Kc.out _).mono ?_); rintro e w' ⟨rfl, rfl⟩) | (go_at_call 48; (with_reducible refine (K1.out _).mono ?_); rintro e w' ⟨rfl, rfl⟩) | (go_at_call 48; (with_reducible refine (K2.out _).mono ?_); rintro e w' ⟨rfl, rfl⟩))
  exact bodyPost_ret (v := .agg #[.int .i64 0, .int .i64 0, .float .f64 9223372036854775808, .float .f64 0, .float .f64 9218868437227405312, .float .f64 18442240474082181120, .float .f64 0, .float .f64 0]) (by simp [results, Try.results24, go_sem]) rfl ⟨rfl, by repeat (first | exact Below.refl _ _ | (refine Below.setCell ?_ (by first | (simp; done) | (simp; omega)) _) | (refine Below.alloc ?_ (by first | (simp; done) | (simp; omega)) _))⟩

theorem new_ref (w : World) : Calls Try.prog 25 #[] w fun e w' => e = .returned (mtV mt0) ∧ Below w.heap.size w w' := by
  have Kc := Lib.hid (fun v => copysign_any 0 13830554455654793216 v (by decide) (by decide))
  rw [show mkW (sgn 13830554455654793216) (rg 0) = 9223372036854775808 by decide +kernel] at Kc
  have K1 := Lib.hid (fun v => inf1_any v)
  have K2 := Lib.hid (fun v => infm_any v)
  unfold mtV mt0
  go_enter Try.func25, Try.ntmps25
  go_wp2_with (first | (go_at_call 47; (with_reducible refine (Kc.out _).mono ?_); rintro e w' ⟨rfl, rfl⟩) | (go_at_call 48; (with_reducible refine (K1.out _).mono ?_); rintro e w' ⟨rfl, rfl⟩) | (go_at_call 48; (with_reducible refine (K2.out _).mono ?_); rintro e w' ⟨rfl, rfl⟩))
  exact bodyPost_ret (v := .agg #[.int .i64 0, .int .i64 0, .float .f64 9223372036854775808, .float .f64 0, .float .f64 9218868437227405312, .float .f64 18442240474082181120, .float .f64 0, .float .f64 0]) (by simp [results, Try.results25, go_sem]) rfl ⟨rfl, by repeat (first | exact Below.refl _ _ | (refine Below.setCell ?_ (by first | (simp; done) | (simp; omega)) _) | (refine Below.alloc ?_ (by first | (simp; done) | (simp; omega)) _))⟩

/-- The sum, with what was lost. -/
def totP (m : Mt) : Nat := if rg m.L = 0 then nfW m.S else fA .add m.S m.L
def TotRes (w : World) (y : Nat) (e : Ending) (w' : World) : Prop := ∃ c, e = .returned (.float .f64 c) ∧ nfW c = y ∧ c < 18446744073709551616 ∧ Below w.heap.size w w'

theorem order_zero (a : Nat) (ha : a < 18446744073709551616) : (FloatKind.f64.format.order a 0 == some .eq) = decide (rg a = 0) := by
  rw [ord_eq ha (by decide)]
  have o2 : okW 0 = true := by decide
  have k2 : keyW 0 = 0 := by decide
  rw [o2, k2]
  unfold okW keyW
  by_cases h : rg a = 0
  · rw [h]; cases sgn a <;> rfl
  · rw [decide_eq_false h]
    cases sgn a
    · simp; omega
    · simp; omega

set_option maxHeartbeats 1000000 in
theorem total_any (m : Mt) (w : World) (hm : m.Ok) :
    Calls Try.prog 29 #[mtV m] w (TotRes w (totP m)) := by
  obtain ⟨N, Bad, S, L, Lo, Hi, Me, Sp⟩ := m
  have HS := Lib.hid hm.1
  have Ht : Hid (totP ⟨N, Bad, S, L, Lo, Hi, Me, Sp⟩ = if rg L = 0 then nfW S else fA .add S L) := Lib.hid rfl
  generalize totP ⟨N, Bad, S, L, Lo, Hi, Me, Sp⟩ = T at *
  have ho := order_zero L hm.2.1
  clear hm
  unfold mtV
  by_cases h : rg L = 0
  · rw [decide_eq_true h] at ho
    have H := Lib.hid h
    clear h
    go_enter Try.func29, Try.ntmps29
    go_wp2
    go_ret
    exact ⟨_, rfl, by rw [Ht.out, if_pos H.out], HS.out, (Below.refl _ _).alloc (Nat.le_refl _) _⟩
  · rw [decide_eq_false h] at ho
    have H := Lib.hid h
    clear h
    go_enter Try.func29, Try.ntmps29
    go_wp2_with fail
    refine arith_upon op_add ?_
    rintro c n hc hb
    have Hc := Lib.hid hc; have Hb := Lib.hid hb; clear hc hb
    go_wp2
    go_ret
    exact ⟨_, rfl, by rw [Ht.out, if_neg H.out]; exact Hc.out, Hb.out, below_drewN ((Below.refl _ _).alloc (Nat.le_refl _) _) _⟩

set_option maxHeartbeats 1000000 in
theorem total_ref (m : Mt) (w : World) (hm : m.Ok) :
    Calls Try.prog 30 #[mtV m] w (TotRes w (totP m)) := by
  obtain ⟨N, Bad, S, L, Lo, Hi, Me, Sp⟩ := m
  have HS := Lib.hid hm.1
  have Ht : Hid (totP ⟨N, Bad, S, L, Lo, Hi, Me, Sp⟩ = if rg L = 0 then nfW S else fA .add S L) := Lib.hid rfl
  generalize totP ⟨N, Bad, S, L, Lo, Hi, Me, Sp⟩ = T at *
  have K := Lib.hid (fun v => kind_ref L v); have hk := kind_cases (rg L)
  clear hm
  unfold mtV
  by_cases h : rg L = 0
  · have hz : ((kindN (rg L) : Int) == 0) = true := (by simp; omega)
    clear hk; generalize kindN (rg L) = k at *
    have H := Lib.hid h
    clear h
    go_enter Try.func30, Try.ntmps30
    go_wp2_with (go_at_call 38; (with_reducible refine (K.out _).mono ?_); rintro e w' ⟨rfl, rfl⟩)
    go_ret
    exact ⟨_, rfl, by rw [Ht.out, if_pos H.out], HS.out, (Below.refl _ _).alloc (Nat.le_refl _) _⟩
  · have hz : ((kindN (rg L) : Int) == 0) = false := (by simp; omega)
    clear hk; generalize kindN (rg L) = k at *
    have H := Lib.hid h
    clear h
    go_enter Try.func30, Try.ntmps30
    go_wp2_with (go_at_call 38; (with_reducible refine (K.out _).mono ?_); rintro e w' ⟨rfl, rfl⟩)
    refine arith_upon op_add ?_
    rintro c n hc hb
    have Hc := Lib.hid hc; have Hb := Lib.hid hb; clear hc hb
    go_wp2
    go_ret
    exact ⟨_, rfl, by rw [Ht.out, if_neg H.out]; exact Hc.out, Hb.out, below_drewN ((Below.refl _ _).alloc (Nat.le_refl _) _) _⟩

theorem of_any (b : Nat) (w : World) : Calls Try.prog 16 #[.int .u64 b] w fun e w' => e = .returned (.float .f64 b) ∧ w = w' := by
  have h := ext_from_eq b b rfl w
  go_enter Try.func16, Try.ntmps16
  go_wp2
  go_ret
  exact ⟨rfl, rfl⟩
end Go.Proofs.Ytecbbdbeihiioaa
