/- Contracts of meter.Smooth and spigotref08.DocSmooth. -/
import Derived.Test.YtecbbdbeihiioaaMtA
namespace Go.Proofs.Ytecbbdbeihiioaa
open Go.RowKit
set_option linter.unusedVariables false

/-- The walk at an operation on floats. -/
theorem arith_upon {P : Program} {o : Oper} {a : Act} {next : Act → World → Prop} {Q : Exit → Act → World → Prop} {w : World} {op : BinOp} {t : TypeId} {x y : Nat} {f : Value → World → Result Next}
    (hop : op = .add ∨ op = .sub ∨ op = .mul ∨ op = .quo)
    (h : ∀ c k, nfW c = fA op x y → c < 18446744073709551616 → o.upon P a next Q ((Result.ok (.float .f64 c) (w.drewN k)).andThen f)) :
    o.upon P a next Q (((binOp op t (.float .f64 x) (.float .f64 y)).run P w).andThen f) := by
  obtain ⟨c, k, h1, h2, h3⟩ := arith_at P w op hop t x y
  rw [h1]
  exact h c k h2 h3

/-- A float and an error; the float up to a NaN's bits. -/
def FlRes (w : World) (y : Nat) (f : Int) (e : Ending) (w' : World) : Prop := ∃ c n, e = .returned (.tuple #[.float .f64 c, .int .i64 f]) ∧ nfW c = y ∧ c < 18446744073709551616 ∧ w' = w.drewN n

def smR (l x a : Nat) : Nat := fA .add l (fA .mul a (fA .sub x l))

theorem op_add : BinOp.add = .add ∨ BinOp.add = .sub ∨ BinOp.add = .mul ∨ BinOp.add = .quo := Or.inl rfl
theorem op_sub : BinOp.sub = .add ∨ BinOp.sub = .sub ∨ BinOp.sub = .mul ∨ BinOp.sub = .quo := Or.inr (Or.inl rfl)
theorem op_mul : BinOp.mul = .add ∨ BinOp.mul = .sub ∨ BinOp.mul = .mul ∨ BinOp.mul = .quo := Or.inr (Or.inr (Or.inl rfl))
theorem op_quo : BinOp.quo = .add ∨ BinOp.quo = .sub ∨ BinOp.quo = .mul ∨ BinOp.quo = .quo := Or.inr (Or.inr (Or.inr rfl))

/-- Results of operations on results. -/
theorem fA_rr {op : BinOp} {x y c d : Nat} (hop : op = .add ∨ op = .sub ∨ op = .mul ∨ op = .quo) (hx : x < 18446744073709551616) (hy : y < 18446744073709551616) (h1 : nfW x = c) (h2 : nfW y = d) : fA op x y = fA op c d := by
  rw [← h1, ← h2, fA_left hop hx, fA_right hop hy]

theorem sm_last {l x a c1 c2 c3 : Nat} (hl : l < 18446744073709551616) (ha : a < 18446744073709551616) (b1 : c1 < 18446744073709551616) (b2 : c2 < 18446744073709551616) (h1 : nfW c1 = fA .sub x l) (h2 : nfW c2 = fA .mul a c1) (h3 : nfW c3 = fA .add l c2) : nfW c3 = smR l x a := by
  unfold smR
  rw [h3, ← fA_right op_add b2, h2, ← fA_right op_mul b1, h1]

set_option maxHeartbeats 4000000 in
theorem smooth_core (l x a y : Nat) (f : Int) (na lt eq gt nx nl e1 : Bool) (w : World) (hl : l < 18446744073709551616) (hx : x < 18446744073709551616) (ha : a < 18446744073709551616)
    (k1 : ∀ v, Calls Try.prog 36 #[.float .f64 a] v fun e w' => e = .returned (.bool na) ∧ v = w')
    (k2 : ∀ v, Calls Try.prog 36 #[.float .f64 x] v fun e w' => e = .returned (.bool nx) ∧ v = w')
    (k3 : ∀ v, Calls Try.prog 36 #[.float .f64 l] v fun e w' => e = .returned (.bool nl) ∧ v = w')
    (h1 : (FloatKind.f64.format.order a 0 == some .lt) = lt) (h2 : (FloatKind.f64.format.order a 0 == some .eq) = eq) (h3 : (FloatKind.f64.format.order a 4607182418800017408 == some .gt) = gt) (h4 : (FloatKind.f64.format.order a 4607182418800017408 == some .eq) = e1)
    (h : (na = true ∧ y = 0 ∧ f = 4) ∨ (na = false ∧ lt = true ∧ y = 0 ∧ f = 5) ∨ (na = false ∧ lt = false ∧ eq = true ∧ y = 0 ∧ f = 5) ∨ (na = false ∧ lt = false ∧ eq = false ∧ gt = true ∧ y = 0 ∧ f = 5) ∨
      (na = false ∧ lt = false ∧ eq = false ∧ gt = false ∧ nx = true ∧ y = nfW l ∧ f = 0) ∨ (na = false ∧ lt = false ∧ eq = false ∧ gt = false ∧ nx = false ∧ nl = true ∧ y = nfW x ∧ f = 0) ∨
      (na = false ∧ lt = false ∧ eq = false ∧ gt = false ∧ nx = false ∧ nl = false ∧ e1 = true ∧ y = nfW x ∧ f = 0) ∨ (na = false ∧ lt = false ∧ eq = false ∧ gt = false ∧ nx = false ∧ nl = false ∧ e1 = false ∧ y = smR l x a ∧ f = 0)) :
    Calls Try.prog 18 #[.float .f64 l, .float .f64 x, .float .f64 a] w (FlRes w y f) := by
  have K1 := Lib.hid k1; have K2 := Lib.hid k2; have K3 := Lib.hid k3
  clear k1 k2 k3
  have H0 : Hid (nfW 0 = 0) := Lib.hid (by decide +kernel)
  have HL := Lib.hid hl; have HX := Lib.hid hx; have HA := Lib.hid ha
  clear hl hx ha
  rcases h with ⟨rfl, rfl, rfl⟩ | ⟨rfl, rfl, rfl, rfl⟩ | ⟨rfl, rfl, rfl, rfl, rfl⟩ | ⟨rfl, rfl, rfl, rfl, rfl, rfl⟩ | ⟨rfl, rfl, rfl, rfl, rfl, rfl, rfl⟩ | ⟨rfl, rfl, rfl, rfl, rfl, rfl, rfl, rfl⟩ | ⟨rfl, rfl, rfl, rfl, rfl, rfl, rfl, rfl, rfl⟩ | ⟨rfl, rfl, rfl, rfl, rfl, rfl, rfl, rfl, rfl⟩
  all_goals
    go_enter Try.func18, Try.ntmps18
    go_wp2_with (first | (go_at_call 36; (with_reducible refine (K1.out _).mono ?_); rintro e w' ⟨rfl, rfl⟩) | (go_at_call 36; (with_reducible refine (K2.out _).mono ?_); rintro e w' ⟨rfl, rfl⟩) | (go_at_call 36; (with_reducible refine (K3.out _).mono ?_); rintro e w' ⟨rfl, rfl⟩))
    first
      | (go_ret2; exact ⟨_, 0, rfl, H0.out, by decide, rfl⟩)
      | (go_ret2; exact ⟨_, 0, rfl, rfl, HL.out, rfl⟩)
      | (go_ret2; exact ⟨_, 0, rfl, rfl, HX.out, rfl⟩)
      | (refine arith_upon op_sub ?_
         rintro c1 n1 hc1 hb1
         have Hc1 := Lib.hid hc1; have Hb1 := Lib.hid hb1; clear hc1 hb1
         go_wp2_with fail
         refine arith_upon op_mul ?_
         rintro c2 n2 hc2 hb2
         have Hc2 := Lib.hid hc2; have Hb2 := Lib.hid hb2; clear hc2 hb2
         go_wp2_with fail
         refine arith_upon op_add ?_
         rintro c3 n3 hc3 hb3
         have Hc3 := Lib.hid hc3; have Hb3 := Lib.hid hb3; clear hc3 hb3
         go_wp2
         go_ret2
         exact ⟨_, _, rfl, sm_last HL.out HA.out Hb1.out Hb2.out Hc1.out Hc2.out Hc3.out, Hb3.out, rfl⟩)

theorem nan_ref (b : Nat) (w : World) :
    Calls Try.prog 37 #[.float .f64 b] w fun e w' => e = .returned (.bool (decide (9218868437227405312 < rg b))) ∧ w = w' := by
  have K := Lib.hid (fun v => kind_ref b v)
  have h4 := kind_is4 (rg b)
  generalize kindN (rg b) = k at *
  go_enter Try.func37, Try.ntmps37
  go_wp2_with (go_at_call 38; (with_reducible refine (K.out _).mono ?_); rintro e w' ⟨rfl, rfl⟩)
  go_ret
  exact ⟨rfl, rfl⟩

set_option maxHeartbeats 4000000 in
theorem docsmooth_core (l x a y : Nat) (f k : Int) (na z mi gt nx nl e1 : Bool) (w : World) (hl : l < 18446744073709551616) (hx : x < 18446744073709551616) (ha : a < 18446744073709551616)
    (k1 : ∀ v, Calls Try.prog 37 #[.float .f64 a] v fun e w' => e = .returned (.bool na) ∧ v = w')
    (k2 : ∀ v, Calls Try.prog 37 #[.float .f64 x] v fun e w' => e = .returned (.bool nx) ∧ v = w')
    (k3 : ∀ v, Calls Try.prog 37 #[.float .f64 l] v fun e w' => e = .returned (.bool nl) ∧ v = w')
    (k4 : ∀ v, Calls Try.prog 38 #[.float .f64 a] v fun e w' => e = .returned (.int .i64 k) ∧ v = w')
    (k5 : ∀ v, Calls Try.prog 39 #[.float .f64 a] v fun e w' => e = .returned (.bool mi) ∧ v = w')
    (h2 : (k == 0) = z) (h3 : (FloatKind.f64.format.order a 4607182418800017408 == some .gt) = gt) (h4 : (FloatKind.f64.format.order a 4607182418800017408 == some .eq) = e1)
    (h : (na = true ∧ y = 0 ∧ f = 4) ∨ (na = false ∧ z = true ∧ y = 0 ∧ f = 5) ∨ (na = false ∧ z = false ∧ mi = true ∧ y = 0 ∧ f = 5) ∨ (na = false ∧ z = false ∧ mi = false ∧ gt = true ∧ y = 0 ∧ f = 5) ∨
      (na = false ∧ z = false ∧ mi = false ∧ gt = false ∧ nx = true ∧ y = nfW l ∧ f = 0) ∨ (na = false ∧ z = false ∧ mi = false ∧ gt = false ∧ nx = false ∧ nl = true ∧ y = nfW x ∧ f = 0) ∨
      (na = false ∧ z = false ∧ mi = false ∧ gt = false ∧ nx = false ∧ nl = false ∧ e1 = true ∧ y = nfW x ∧ f = 0) ∨ (na = false ∧ z = false ∧ mi = false ∧ gt = false ∧ nx = false ∧ nl = false ∧ e1 = false ∧ y = smR l x a ∧ f = 0)) :
    Calls Try.prog 19 #[.float .f64 l, .float .f64 x, .float .f64 a] w (FlRes w y f) := by
  have K1 := Lib.hid k1; have K2 := Lib.hid k2; have K3 := Lib.hid k3; have K4 := Lib.hid k4; have K5 := Lib.hid k5
  clear k1 k2 k3 k4 k5
  have H0 : Hid (nfW 0 = 0) := Lib.hid (by decide +kernel)
  have HL := Lib.hid hl; have HX := Lib.hid hx; have HA := Lib.hid ha
  clear hl hx ha
  rcases h with ⟨rfl, rfl, rfl⟩ | ⟨rfl, rfl, rfl, rfl⟩ | ⟨rfl, rfl, rfl, rfl, rfl⟩ | ⟨rfl, rfl, rfl, rfl, rfl, rfl⟩ | ⟨rfl, rfl, rfl, rfl, rfl, rfl, rfl⟩ | ⟨rfl, rfl, rfl, rfl, rfl, rfl, rfl, rfl⟩ | ⟨rfl, rfl, rfl, rfl, rfl, rfl, rfl, rfl, rfl⟩ | ⟨rfl, rfl, rfl, rfl, rfl, rfl, rfl, rfl, rfl⟩
  all_goals
    go_enter Try.func19, Try.ntmps19
    go_wp2_with (first | (go_at_call 37; (with_reducible refine (K1.out _).mono ?_); rintro e w' ⟨rfl, rfl⟩) | (go_at_call 37; (with_reducible refine (K2.out _).mono ?_); rintro e w' ⟨rfl, rfl⟩) | (go_at_call 37; (with_reducible refine (K3.out _).mono ?_); rintro e w' ⟨rfl, rfl⟩) | (go_at_call 38; (with_reducible refine (K4.out _).mono ?_); rintro e w' ⟨rfl, rfl⟩) | (go_at_call 39; (with_reducible refine (K5.out _).mono ?_); rintro e w' ⟨rfl, rfl⟩))
    first
      | (go_ret2; exact ⟨_, 0, rfl, H0.out, by decide, rfl⟩)
      | (go_ret2; exact ⟨_, 0, rfl, rfl, HL.out, rfl⟩)
      | (go_ret2; exact ⟨_, 0, rfl, rfl, HX.out, rfl⟩)
      | (refine arith_upon op_sub ?_
         rintro c1 n1 hc1 hb1
         have Hc1 := Lib.hid hc1; have Hb1 := Lib.hid hb1; clear hc1 hb1
         go_wp2_with fail
         refine arith_upon op_mul ?_
         rintro c2 n2 hc2 hb2
         have Hc2 := Lib.hid hc2; have Hb2 := Lib.hid hb2; clear hc2 hb2
         go_wp2_with fail
         refine arith_upon op_add ?_
         rintro c3 n3 hc3 hb3
         have Hc3 := Lib.hid hc3; have Hb3 := Lib.hid hb3; clear hc3 hb3
         go_wp2
         go_ret2
         exact ⟨_, _, rfl, sm_last HL.out HA.out Hb1.out Hb2.out Hc1.out Hc2.out Hc3.out, Hb3.out, rfl⟩)

theorem below0 {a : Nat} (ha : a < 18446744073709551616) (hn : rg a ≤ 9218868437227405312) : (FloatKind.f64.format.order a 0 == some .lt) = (sgn a && !decide (rg a = 0)) ∧ (FloatKind.f64.format.order a 0 == some .eq) = decide (rg a = 0) := by
  have o1 : okW a = true := by unfold okW; exact decide_eq_true hn
  have o2 : okW 0 = true := by decide
  have k2 : keyW 0 = 0 := by decide
  refine ⟨?_, ?_⟩
  · rw [ord_lt ha (by decide), o1, o2, k2]
    unfold keyW
    by_cases h : rg a = 0
    · rw [h]; cases sgn a <;> rfl
    · rw [decide_eq_false h]
      cases sgn a
      · simp
      · simp; omega
  · rw [ord_eq ha (by decide), o1, o2, k2]
    unfold keyW
    cases sgn a
    · simp
    · simp

/-- Smooth and DocSmooth answer alike. -/
theorem smooth_both (l x a : Nat) (hl : l < 18446744073709551616) (hx : x < 18446744073709551616) (ha : a < 18446744073709551616) :
    ∃ y f, (∀ w, Calls Try.prog 18 #[.float .f64 l, .float .f64 x, .float .f64 a] w (FlRes w y f)) ∧ (∀ w, Calls Try.prog 19 #[.float .f64 l, .float .f64 x, .float .f64 a] w (FlRes w y f)) := by
  have P := fun y f w => smooth_core l x a y f _ _ _ _ _ _ _ w hl hx ha (fun v => isnan_any a v ha) (fun v => isnan_any x v hx) (fun v => isnan_any l v hl) rfl rfl rfl rfl
  have D := fun y f w => docsmooth_core l x a y f _ _ _ _ _ _ _ _ w hl hx ha (fun v => nan_ref a v) (fun v => nan_ref x v) (fun v => nan_ref l v) (fun v => kind_ref a v) (fun v => minus_ref a v) rfl rfl rfl
  have hk := kind_cases (rg a)
  have hz : ((kindN (rg a) : Int) == 0) = decide (rg a = 0) := by
    by_cases h : rg a = 0
    · rw [decide_eq_true h]; simp; omega
    · rw [decide_eq_false h]; simp; omega
  by_cases h0 : 9218868437227405312 < rg a
  · exact ⟨0, 4, fun w => P 0 4 w (Or.inl ⟨decide_eq_true h0, rfl, rfl⟩), fun w => D 0 4 w (Or.inl ⟨decide_eq_true h0, rfl, rfl⟩)⟩
  · obtain ⟨b1, b2⟩ := below0 ha (by omega)
    rw [b1, b2] at P
    rw [hz] at D
    rw [decide_eq_false h0] at P D
    generalize (FloatKind.f64.format.order a 4607182418800017408 == some .gt) = gt at *
    generalize (FloatKind.f64.format.order a 4607182418800017408 == some .eq) = e1 at *
    generalize decide (9218868437227405312 < rg x) = nx at *
    generalize decide (9218868437227405312 < rg l) = nl at *
    generalize decide (rg a = 0) = z at *
    generalize sgn a = s at *
    cases z
    · cases s
      · cases gt
        · cases nx
          · cases nl
            · cases e1
              · exact ⟨smR l x a, 0, fun w => P _ 0 w (by simp), fun w => D _ 0 w (by simp)⟩
              · exact ⟨nfW x, 0, fun w => P _ 0 w (by simp), fun w => D _ 0 w (by simp)⟩
            · exact ⟨nfW x, 0, fun w => P _ 0 w (by simp), fun w => D _ 0 w (by simp)⟩
          · exact ⟨nfW l, 0, fun w => P _ 0 w (by simp), fun w => D _ 0 w (by simp)⟩
        · exact ⟨0, 5, fun w => P _ 5 w (by simp), fun w => D _ 5 w (by simp)⟩
      · exact ⟨0, 5, fun w => P _ 5 w (by simp), fun w => D _ 5 w (by simp)⟩
    · exact ⟨0, 5, fun w => P _ 5 w (by simp), fun w => D _ 5 w (by simp)⟩
end Go.Proofs.Ytecbbdbeihiioaa
