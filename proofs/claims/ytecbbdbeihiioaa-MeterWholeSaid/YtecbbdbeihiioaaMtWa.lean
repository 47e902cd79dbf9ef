/- Plain law: a meter of whole numbers. No program's run in this text. -/
import Derived.Test.YtecbbdbeihiioaaMtFlM
import Derived.Test.YtecbbdbeihiioaaMtX
namespace Go.Proofs.Ytecbbdbeihiioaa
open Go.RowKit
set_option linter.unusedVariables false

def PINF : Nat := 9218868437227405312
def NINF : Nat := 18442240474082181120
def Small (n : Int) : Prop := -1048576 < n ∧ n < 1048576

/-- Sum, least, greatest. -/
def stT (s : Int × Int × Int) (n : Int) : Int × Int × Int := (s.1 + n, min s.2.1 n, max s.2.2 n)
def st0 : Int × Int × Int := (0, 1073741824, -1073741824)
def stL (l : List Int) : Int × Int × Int := l.foldl stT st0

/-- A meter of k whole numbers of these figures. -/
def WhRel (m : Mt) (k : Nat) (t : Int × Int × Int) : Prop :=
  m.N = k ∧ m.L = 0 ∧ ((k = 0 ∧ t = st0 ∧ m.S = NZ ∧ m.Lo = PINF ∧ m.Hi = NINF) ∨
    (0 < k ∧ m.S = FI t.1 ∧ m.Lo = FI t.2.1 ∧ m.Hi = FI t.2.2 ∧ t.1.natAbs ≤ k * 1048576 ∧ Small t.2.1 ∧ Small t.2.2))

theorem small_lt {n : Int} (h : Small n) : n.natAbs < 9007199254740992 := by unfold Small at h; omega
theorem absge_any (a b : Nat) : absge a b = true ∨ absge a b = false := by cases absge a b <;> simp

theorem loss_fi {a b : Int} (ha : a.natAbs ≤ 2097152000) (hb : b.natAbs ≤ 2097152000) : lossA (FI a) (FI b) = 0 := by
  have hs : fA .add (FI a) (FI b) = FI (a + b) := fi_add (by omega) (by omega) (by omega)
  unfold lossA
  split
  · unfold lossS
    rw [hs]
    split
    · rw [fi_sub (by omega) (by omega) (by omega), fi_add (by omega) (by omega) (by omega), show a - (a + b) + b = 0 by omega, fi_zero]
    · rw [fi_sub (by omega) (by omega) (by omega), fi_add (by omega) (by omega) (by omega), show b - (a + b) + a = 0 by omega, fi_zero]
  · rfl
theorem loss_nz {b : Int} (hb : b.natAbs ≤ 2097152000) : lossA NZ (FI b) = 0 := by
  have hs : fA .add NZ (FI b) = FI b := nz_add (by omega)
  unfold lossA
  split
  · unfold lossS
    rw [hs]
    split
    · rw [nz_sub (by omega)]
      split
      · rename_i h0
        subst h0
        rw [nz_add (by decide), fi_zero]
      · rw [fi_add (by omega) (by omega) (by omega), show -b + b = 0 by omega, fi_zero]
    · rw [fi_sub (by omega) (by omega) (by omega), Int.sub_self, add_nz (by decide), fi_zero]
  · rfl

theorem least_fi {a b : Int} (ha : Small a) (hb : Small b) : leastW (FI a) (FI b) = FI (min a b) := by
  unfold leastW
  have := rk_fi (small_lt ha) (small_lt hb)
  by_cases h : a ≤ b
  · rw [if_pos (this.2 h), show min a b = a by omega]
  · rw [if_neg (fun hh => h (this.1 hh)), show min a b = b by omega]
theorem most_fi {a b : Int} (ha : Small a) (hb : Small b) : mostW (FI a) (FI b) = FI (max a b) := by
  unfold mostW
  have := rk_fi (small_lt hb) (small_lt ha)
  have n1 := fi_nan (small_lt ha)
  have n2 := fi_nan (small_lt hb)
  by_cases h : b ≤ a
  · rw [if_neg (by intro hh; rcases hh.2 with h1 | h1; exact n1 h1; have := this.2 h; omega), show max a b = a by omega]
  · rw [if_pos ⟨by omega, Or.inr (by have := fun hh => h (this.1 hh); omega)⟩, show max a b = b by omega]
theorem rk_pinf : rk PINF = 9218868437227405312 := by decide
theorem rk_ninf : rk NINF = -9218868437227405313 := by decide
theorem rk_in {n : Int} (h : n.natAbs < 9007199254740992) : rk (FI n) < 9218868437227405312 ∧ -9218868437227405313 < rk (FI n) := by
  have h1 := fi_rg h
  unfold rk
  rw [if_neg (by omega)]
  split <;> omega
theorem least_pinf {b : Int} (hb : Small b) : leastW PINF (FI b) = FI b := by
  unfold leastW
  have := rk_in (small_lt hb)
  rw [rk_pinf, if_neg (by omega)]
theorem most_ninf {b : Int} (hb : Small b) : mostW NINF (FI b) = FI b := by
  unfold mostW
  have := rk_in (small_lt hb)
  have n2 := fi_nan (small_lt hb)
  rw [rk_ninf, if_pos ⟨by omega, Or.inr (by omega)⟩]

theorem fin_fi {a b : Int} (ha : a.natAbs ≤ 2097152000) (hb : b.natAbs ≤ 2097152000) : finA (FI a) (FI b) = true := by
  unfold finA
  rw [fi_add (by omega) (by omega) (by omega)]
  exact decide_eq_true (fi_rg (by omega))
theorem fin_nz {b : Int} (hb : b.natAbs ≤ 2097152000) : finA NZ (FI b) = true := by
  unfold finA
  rw [nz_add (by omega)]
  exact decide_eq_true (fi_rg (by omega))
theorem zero_zero : fA .add 0 0 = 0 := by
  have := fi_add (a := 0) (b := 0) (by decide) (by decide) (by decide)
  rwa [fi_zero, Int.add_zero, fi_zero] at this

theorem wh_step {m : Mt} {k : Nat} {t : Int × Int × Int} {n : Int} (h : WhRel m k t) (hn : Small n) (hk : k < 1500) : WhRel (addM m (FI n)) (k + 1) (stT t n) ∧ (addM m (FI n)).Bad = m.Bad := by
  obtain ⟨hN, hL, h⟩ := h
  have hn' := hn
  unfold Small at hn'
  have hnan := fi_nan (small_lt hn)
  refine ⟨?_, by rw [addM_bad, if_neg hnan]⟩
  have hw : wrap64 (m.N + 1) = ((k + 1 : Nat) : Int) := by rw [hN]; unfold wrap64; omega
  unfold addM
  rw [if_neg hnan]
  rcases h with ⟨rfl, rfl, hS, hLo, hHi⟩ | ⟨hk0, hS, hLo, hHi, hs, hl, hh⟩
  · refine ⟨hw, ?_, Or.inr ⟨by omega, ?_, ?_, ?_, ?_, ?_, ?_⟩⟩
    · show (if finA m.S (FI n) = true then fA .add m.L (lossA m.S (FI n)) else m.L) = 0
      rw [hS, hL, fin_nz (by omega), if_pos rfl, loss_nz (by omega), zero_zero]
    · show fA .add m.S (FI n) = FI (0 + n)
      rw [hS, nz_add (small_lt hn), Int.zero_add]
    · show leastW m.Lo (FI n) = FI (min 1073741824 n)
      rw [hLo, least_pinf hn, show min 1073741824 n = n by omega]
    · show mostW m.Hi (FI n) = FI (max (-1073741824) n)
      rw [hHi, most_ninf hn, show max (-1073741824) n = n by omega]
    · show (0 + n).natAbs ≤ _; omega
    · show Small (min 1073741824 n); rw [show min 1073741824 n = n by omega]; exact hn
    · show Small (max (-1073741824) n); rw [show max (-1073741824) n = n by omega]; exact hn
  · refine ⟨hw, ?_, Or.inr ⟨by omega, ?_, ?_, ?_, ?_, ?_, ?_⟩⟩
    · show (if finA m.S (FI n) = true then fA .add m.L (lossA m.S (FI n)) else m.L) = 0
      rw [hS, hL, fin_fi (by omega) (by omega), if_pos rfl, loss_fi (by omega) (by omega), zero_zero]
    · show fA .add m.S (FI n) = FI (t.1 + n)
      rw [hS, fi_add (by omega) (by omega) (by omega)]
    · show leastW m.Lo (FI n) = FI (min t.2.1 n)
      rw [hLo, least_fi hl hn]
    · show mostW m.Hi (FI n) = FI (max t.2.2 n)
      rw [hHi, most_fi hh hn]
    · show (t.1 + n).natAbs ≤ _; omega
    · show Small (min t.2.1 n); unfold Small at *; omega
    · show Small (max t.2.2 n); unfold Small at *; omega

theorem wh_fold : ∀ (l : List Int) (m : Mt) (k : Nat) (t : Int × Int × Int), WhRel m k t → (∀ n ∈ l, Small n) → k + l.length ≤ 1500 → WhRel ((l.map FI).foldl addM m) (k + l.length) (l.foldl stT t) ∧ ((l.map FI).foldl addM m).Bad = m.Bad
  | [], m, k, t, h, _, _ => ⟨h, rfl⟩
  | n :: l, m, k, t, h, hl, hk => by
    simp only [List.length_cons] at hk
    obtain ⟨h1, h2⟩ := wh_step h (hl n (by simp)) (by omega)
    obtain ⟨h3, h4⟩ := wh_fold l (addM m (FI n)) (k + 1) (stT t n) h1 (fun x hx => hl x (by simp [hx])) (by omega)
    simp only [List.map_cons, List.foldl_cons, List.length_cons]
    rw [show k + (l.length + 1) = k + 1 + l.length by omega]
    exact ⟨h3, h4.trans h2⟩
theorem wh_list {l : List Int} (hl : ∀ n ∈ l, Small n) (hk : l.length ≤ 1500) : WhRel (foldM (l.map FI)) l.length (stL l) ∧ (foldM (l.map FI)).Bad = 0 := by
  have := wh_fold l mt0 0 st0 ⟨rfl, rfl, Or.inl ⟨rfl, rfl, rfl, rfl, rfl⟩⟩ hl (by omega)
  rwa [Nat.zero_add] at this

/-- Two lists' figures together. -/
def stM (a b : Int × Int × Int) : Int × Int × Int := (a.1 + b.1, min a.2.1 b.2.1, max a.2.2 b.2.2)
theorem st_join : ∀ (l : List Int) (a b : Int × Int × Int), l.foldl stT (stM a b) = stM a (l.foldl stT b)
  | [], a, b => rfl
  | n :: l, a, b => by
    rw [List.foldl_cons, List.foldl_cons, ← st_join l a (stT b n)]
    congr 1
    unfold stT stM
    refine Prod.ext ?_ (Prod.ext ?_ ?_)
    · show a.1 + b.1 + n = a.1 + (b.1 + n); omega
    · show min (min a.2.1 b.2.1) n = min a.2.1 (min b.2.1 n); omega
    · show max (max a.2.2 b.2.2) n = max a.2.2 (max b.2.2 n); omega
theorem st_bounds : ∀ (l : List Int) (t : Int × Int × Int), t.2.1 ≤ 1073741824 → -1073741824 ≤ t.2.2 → (l.foldl stT t).2.1 ≤ 1073741824 ∧ -1073741824 ≤ (l.foldl stT t).2.2
  | [], t, h1, h2 => ⟨h1, h2⟩
  | n :: l, t, h1, h2 => st_bounds l (stT t n) (by show min t.2.1 n ≤ _; omega) (by show _ ≤ max t.2.2 n; omega)
theorem st_app (a b : List Int) : stL (a ++ b) = stM (stL a) (stL b) := by
  unfold stL
  rw [List.foldl_append]
  have h := st_bounds a st0 (by decide) (by decide)
  generalize a.foldl stT st0 = s at *
  have e : s = stM s st0 := by
    unfold stM st0
    refine Prod.ext ?_ (Prod.ext ?_ ?_)
    · show s.1 = s.1 + 0; omega
    · show s.2.1 = min s.2.1 1073741824; omega
    · show s.2.2 = max s.2.2 (-1073741824); omega
  conv => lhs; rw [e]
  exact st_join b s st0

theorem wh_lo0 {t : Int × Int × Int} (h : Small t.2.1 ∧ Small t.2.2) : stM t st0 = t ∧ stM st0 t = t := by
  obtain ⟨h1, h2⟩ := h
  unfold Small at *
  unfold stM st0
  refine ⟨Prod.ext ?_ (Prod.ext ?_ ?_), Prod.ext ?_ (Prod.ext ?_ ?_)⟩
  · show t.1 + 0 = t.1; omega
  · show min t.2.1 1073741824 = t.2.1; omega
  · show max t.2.2 (-1073741824) = t.2.2; omega
  · show 0 + t.1 = t.1; omega
  · show min 1073741824 t.2.1 = t.2.1; omega
  · show max (-1073741824) t.2.2 = t.2.2; omega

/-- The figures of two lists, merged. -/
theorem wh_merge {a b : Mt} {k l : Nat} {s t : Int × Int × Int} (ha : WhRel a k s) (hb : WhRel b l t) (hk : k ≤ 500) (hl : l ≤ 500) (hB : 0 ≤ a.Bad ∧ a.Bad ≤ 10) (hB2 : b.Bad = 0) :
    WhRel (mergeV a b) (k + l) (stM s t) ∧ (mergeV a b).Bad = a.Bad ∧ mergeE a b = 0 := by
  obtain ⟨hN, hL, ha⟩ := ha
  obtain ⟨hN', hL', hb⟩ := hb
  have c1 : cntB a.N b.N = true := by unfold cntB; rw [hN, hN']; simp; omega
  have c2 : cntB a.Bad b.Bad = true := by unfold cntB; rw [hB2]; simp; omega
  rcases ha with ⟨rfl, rfl, hS, hLo, hHi⟩ | ⟨hk0, hS, hLo, hHi, hs, hl1, hh1⟩
  · obtain ⟨e1, e2⟩ := mergeV_a c1 c2 (by rw [hN]; rfl)
    rw [e1, e2]
    refine ⟨⟨?_, hL', ?_⟩, ?_, rfl⟩
    · show a.N + b.N = _; rw [hN, hN']; push_cast; omega
    · rcases hb with ⟨rfl, rfl, hS', hLo', hHi'⟩ | ⟨hk0, hS', hLo', hHi', hs', hl', hh'⟩
      · exact Or.inl ⟨rfl, rfl, hS', hLo', hHi'⟩
      · refine Or.inr ⟨by omega, ?_⟩
        rw [(wh_lo0 ⟨hl', hh'⟩).2]
        exact ⟨hS', hLo', hHi', by rw [Nat.zero_add]; exact hs', hl', hh'⟩
    · show a.Bad + b.Bad = a.Bad; rw [hB2]; omega
  · rcases hb with ⟨rfl, rfl, hS', hLo', hHi'⟩ | ⟨hk0', hS', hLo', hHi', hs', hl', hh'⟩
    · obtain ⟨e1, e2⟩ := mergeV_b c1 c2 (by rw [hN]; omega) (by rw [hN']; rfl)
      rw [e1, e2]
      refine ⟨⟨?_, hL, Or.inr ⟨by omega, ?_⟩⟩, ?_, rfl⟩
      · show a.N + b.N = _; rw [hN, hN']; push_cast; omega
      · rw [(wh_lo0 ⟨hl1, hh1⟩).1]
        exact ⟨hS, hLo, hHi, by rw [Nat.add_zero]; exact hs, hl1, hh1⟩
      · show a.Bad + b.Bad = a.Bad; rw [hB2]; omega
    · obtain ⟨e1, e2⟩ := mergeV_c c1 c2 (by rw [hN]; omega) (by rw [hN']; omega)
      rw [e1, e2]
      refine ⟨⟨?_, ?_, Or.inr ⟨by omega, ?_, ?_, ?_, ?_, ?_, ?_⟩⟩, ?_, rfl⟩
      · show a.N + b.N = _; rw [hN, hN']; push_cast; omega
      · show fA .add (fA .add a.L b.L) (lossA a.S b.S) = 0
        rw [hL, hL', hS, hS', loss_fi (by omega) (by omega), zero_zero, zero_zero]
      · show fA .add a.S b.S = FI (s.1 + t.1)
        rw [hS, hS', fi_add (by omega) (by omega) (by omega)]
      · show leastW a.Lo b.Lo = FI (min s.2.1 t.2.1)
        rw [hLo, hLo', least_fi hl1 hl']
      · show mostW a.Hi b.Hi = FI (max s.2.2 t.2.2)
        rw [hHi, hHi', most_fi hh1 hh']
      · show (s.1 + t.1).natAbs ≤ _; omega
      · show Small (min s.2.1 t.2.1); unfold Small at *; omega
      · show Small (max s.2.2 t.2.2); unfold Small at *; omega
      · show a.Bad + b.Bad = a.Bad; rw [hB2]; omega

/-- A meter that is one with such a meter is one itself. -/
theorem wh_sim {m m' : Mt} {k : Nat} {t : Int × Int × Int} (h : WhRel m k t) (hs : mtSim m' m) (hk : k ≤ 1500) : WhRel m' k t ∧ m'.Bad = m.Bad := by
  obtain ⟨hN, hL, h⟩ := h
  obtain ⟨e1, e2, e3, e4, e5, e6, -, -⟩ := hs
  have word : ∀ {c x : Nat}, nfW c = nfW x → rg x ≤ 9218868437227405312 → c = x := by
    intro c x hcx hx
    rw [nfW_id hx] at hcx
    rcases nfW_cases c with ⟨h1, e⟩ | ⟨h1, e⟩
    · rw [e] at hcx; have := rg_QN; rw [hcx] at this; omega
    · rw [← hcx, e]
  refine ⟨⟨e1.trans hN, word (by rw [e4, hL]) (by decide +kernel), ?_⟩, e2⟩
  rcases h with ⟨rfl, rfl, hS, hLo, hHi⟩ | ⟨hk0, hS, hLo, hHi, hs, hl1, hh1⟩
  · exact Or.inl ⟨rfl, rfl, word (by rw [e3, hS]) (by decide +kernel), word (by rw [e5, hLo]) (by decide +kernel), word (by rw [e6, hHi]) (by decide +kernel)⟩
  · refine Or.inr ⟨hk0, word (by rw [e3, hS]) ?_, word (by rw [e5, hLo]) ?_, word (by rw [e6, hHi]) ?_, hs, hl1, hh1⟩
    · have := fi_rg (n := t.1) (by omega); omega
    · have := fi_rg (small_lt hl1); omega
    · have := fi_rg (small_lt hh1); omega
end Go.Proofs.Ytecbbdbeihiioaa
