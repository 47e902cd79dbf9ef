/- MeterMerges' walk. -/
import Derived.Test.YtecbbdbeihiioaaMtW
import Derived.Test.YtecbbdbeihiioaaMtO
namespace Go.Proofs.Ytecbbdbeihiioaa
open Go.RowKit
set_option linter.unusedVariables false

attribute [local go_sem] run_store_float'

theorem MtCell.lt {w : World} {B : Nat} {m : Mt} (h : MtCell w B m) : B < w.heap.size := by
  have := World.block_lt_of_cell? _ _ h.1.1
  simpa using this
theorem MtCell.keep {w w' : World} {B : Nat} {m : Mt} (h : MtCell w B m) (hb : Below w.heap.size w w') : MtCell w' B m := h.later h.lt hb
/-- Figures in a block. -/
def FgCell (w : World) (B : Nat) (m : Mt) : Prop :=
  w.cell? ⟨B, 0, none⟩ = some (.int .i64 m.N) ∧ w.cell? ⟨B, 1, none⟩ = some (.int .i64 m.Bad) ∧ w.cell? ⟨B, 2, none⟩ = some (.int .u64 (m.S : Int)) ∧ w.cell? ⟨B, 3, none⟩ = some (.int .u64 (m.L : Int)) ∧ w.cell? ⟨B, 4, none⟩ = some (.int .u64 (m.Lo : Int)) ∧ w.cell? ⟨B, 5, none⟩ = some (.int .u64 (m.Hi : Int)) ∧ w.cell? ⟨B, 6, none⟩ = some (.int .u64 (m.Me : Int)) ∧ w.cell? ⟨B, 7, none⟩ = some (.int .u64 (m.Sp : Int))
theorem FgCell.keep {w w' : World} {B : Nat} {m : Mt} (h : FgCell w B m) (hb : Below w.heap.size w w') : FgCell w' B m := by
  obtain ⟨h0, h1, h2, h3, h4, h5, h6, h7⟩ := h
  exact ⟨cell_later hb h0, cell_later hb h1, cell_later hb h2, cell_later hb h3, cell_later hb h4, cell_later hb h5, cell_later hb h6, cell_later hb h7⟩

abbrev mtObj (m : Mt) (t : TypeId) : Obj := .cells #[.int .i64 m.N, .int .i64 m.Bad, .float .f64 m.S, .float .f64 m.L, .float .f64 m.Lo, .float .f64 m.Hi, .float .f64 m.Me, .float .f64 m.Sp] t
theorem below_all (w : World) (o : Obj) : Below w.heap.size w (w.alloc o) := (Below.refl _ _).alloc (Nat.le_refl _) _
theorem cell_all2 (w : World) (m m' : Mt) (t t' : TypeId) : MtCell ((w.alloc (mtObj m t)).alloc (mtObj m' t')) w.heap.size m ∧ MtCell ((w.alloc (mtObj m t)).alloc (mtObj m' t')) (w.heap.size + 1) m' := by
  refine ⟨(mtCell_alloc w m t).keep (below_all _ _), ?_⟩
  have h := mtCell_alloc (w.alloc (mtObj m t)) m' t'
  rwa [show (w.alloc (mtObj m t)).heap.size = w.heap.size + 1 by simp] at h
theorem below_all2 {w0 w : World} (h : Below w0.heap.size w0 w) (o o' : Obj) : Below w0.heap.size w0 ((w.alloc o).alloc o') := by
  have := h.size
  exact (h.alloc h.size _).alloc (by simp; omega) _

def MgS (w0 : World) (G : Nat) (g : Mt) (P Q : Nat) (m : Mt) (u : World) : Prop := FgCell u G g ∧ MtCell u P m ∧ MtCell u Q m ∧ Below w0.heap.size w0 u
def MgT (w0 : World) (P Q R T : Nat) (m m' : Mt) (u : World) : Prop := MtCell u P m ∧ MtCell u Q m ∧ MtCell u R m' ∧ MtCell u T m' ∧ Below w0.heap.size w0 u
def MgU (w0 : World) (Q T U : Nat) (m m' r : Mt) (u : World) : Prop := MtCell u Q m ∧ MtCell u T m' ∧ MtCell u U r ∧ Below w0.heap.size w0 u
def MgV (w0 : World) (U V : Nat) (r r' : Mt) (u : World) : Prop := MtCell u U r ∧ MtCell u V r' ∧ Below w0.heap.size w0 u

set_option maxRecDepth 100000 in
set_option maxHeartbeats 16000000 in
theorem merges_core (N Bad N2 Bad2 : Int) (S L Lo Hi Me Sp S2 L2 Lo2 Hi2 Me2 Sp2 : Nat) (w : World) (MV : Mt) (ME : Int)
    (kw : ∀ v, Calls Try.prog 11 #[] v fun e w' => e = .returned (.bool true) ∧ Below v.heap.size v w')
    (k1 : ∀ v, Calls Try.prog 31 #[mtV ⟨N, Bad, S, L, Lo, Hi, Me, Sp⟩, mtV ⟨N2, Bad2, S2, L2, Lo2, Hi2, Me2, Sp2⟩] v (MtErr v MV ME))
    (k2 : ∀ v, Calls Try.prog 32 #[mtV ⟨N, Bad, S, L, Lo, Hi, Me, Sp⟩, mtV ⟨N2, Bad2, S2, L2, Lo2, Hi2, Me2, Sp2⟩] v (MtErr v MV ME)) :
    Calls Try.prog 9 #[figV ⟨N, Bad, S, L, Lo, Hi, Me, Sp⟩, figV ⟨N2, Bad2, S2, L2, Lo2, Hi2, Me2, Sp2⟩] w fun e w' => e = .returned (.bool true) ∧ Below w.heap.size w w' := by
  have Kw := Lib.hid kw
  have Km := Lib.hid (fun v => made_any N Bad S L Lo Hi Me Sp v)
  have Kn := Lib.hid (fun v => made_any N2 Bad2 S2 L2 Lo2 Hi2 Me2 Sp2 v)
  have Kc := Lib.hid (fun a b v (ha : a.Ok) (hb : b.Ok) (h : mtSim a b) => same_mt a b v ha hb h)
  unfold figV mtV at Km Kn
  unfold mtV at k1 k2
  have K1 := Lib.hid k1; have K2 := Lib.hid k2
  clear kw k1 k2
  unfold figV
  go_enter Try.func9, Try.ntmps9
  go_upto_region 1 with (fail)
  refine wp_name (fun u => FgCell u w.heap.size ⟨N, Bad, S, L, Lo, Hi, Me, Sp⟩ ∧ FgCell u (w.heap.size + 1) ⟨N2, Bad2, S2, L2, Lo2, Hi2, Me2, Sp2⟩ ∧ Below w.heap.size w u) ?_ ?_
  · refine ⟨?_, ?_, ((Below.refl _ _).alloc (Nat.le_refl _) _).alloc (by simp) _⟩
    all_goals
      unfold FgCell
      refine ⟨?_, ?_, ?_, ?_, ?_, ?_, ?_, ?_⟩ <;> simp [go_sem]
  intro X hx
  have HX := Lib.hid hx
  obtain ⟨⟨a0, a1, a2, a3, a4, a5, a6, a7⟩, -, -⟩ := hx
  simp only at a0 a1 a2 a3 a4 a5 a6 a7
  go_upto_region 2 with (go_at_call 26; (with_reducible refine (Km.out _).mono ?_); rintro e w1 ⟨rfl, hb⟩; have Hb1 := Lib.hid hb; clear hb)
  refine wp_name (MgS w (w.heap.size + 1) ⟨N2, Bad2, S2, L2, Lo2, Hi2, Me2, Sp2⟩ w1.heap.size (w1.heap.size + 1) ⟨N, Bad, S, L, Lo, Hi, Me, Sp⟩) ?_ ?_
  · obtain ⟨h1, h2⟩ := cell_all2 w1 ⟨N, Bad, S, L, Lo, Hi, Me, Sp⟩ ⟨N, Bad, S, L, Lo, Hi, Me, Sp⟩ 28 32
    exact ⟨((HX.out.2.1.keep Hb1.out).keep (below_all _ _)).keep (below_all _ _), h1, h2, below_all2 (HX.out.2.2.trans (Hb1.out.mono HX.out.2.2.size)) _ _⟩
  clear HX Hb1 a0 a1 a2 a3 a4 a5 a6 a7
  intro X hx
  have HX := Lib.hid hx
  obtain ⟨⟨a0, a1, a2, a3, a4, a5, a6, a7⟩, -, -, -⟩ := hx
  simp only at a0 a1 a2 a3 a4 a5 a6 a7
  generalize w1.heap.size = P at *
  go_upto_region 3 with (go_at_call 26; (with_reducible refine (Kn.out _).mono ?_); rintro e w2 ⟨rfl, hb⟩; have Hb2 := Lib.hid hb; clear hb)
  refine wp_name (MgT w P (P + 1) w2.heap.size (w2.heap.size + 1) ⟨N, Bad, S, L, Lo, Hi, Me, Sp⟩ ⟨N2, Bad2, S2, L2, Lo2, Hi2, Me2, Sp2⟩) ?_ ?_
  · obtain ⟨h1, h2⟩ := cell_all2 w2 ⟨N2, Bad2, S2, L2, Lo2, Hi2, Me2, Sp2⟩ ⟨N2, Bad2, S2, L2, Lo2, Hi2, Me2, Sp2⟩ 28 32
    exact ⟨((HX.out.2.1.keep Hb2.out).keep (below_all _ _)).keep (below_all _ _), ((HX.out.2.2.1.keep Hb2.out).keep (below_all _ _)).keep (below_all _ _), h1, h2, below_all2 (HX.out.2.2.2.trans (Hb2.out.mono HX.out.2.2.2.size)) _ _⟩
  clear HX Hb2 a0 a1 a2 a3 a4 a5 a6 a7
  intro X hx
  have HX := Lib.hid hx
  obtain ⟨⟨⟨a0, a1, a2, a3, a4, a5, a6, a7⟩, -⟩, -, ⟨⟨b0, b1, b2, b3, b4, b5, b6, b7⟩, -⟩, -, -⟩ := hx
  simp only at a0 a1 a2 a3 a4 a5 a6 a7 b0 b1 b2 b3 b4 b5 b6 b7
  generalize w2.heap.size = R at *
  go_upto_region 4 with (go_at_call 31; (with_reducible refine (K1.out _).mono ?_); rintro e w3 ⟨m3, rfl, hs3, ho3, hb⟩; have Hb3 := Lib.hid hb; have Hs3 := Lib.hid hs3; have Ho3 := Lib.hid ho3; clear hb hs3 ho3; unfold mtV)
  refine wp_name (MgU w (P + 1) (R + 1) w3.heap.size ⟨N, Bad, S, L, Lo, Hi, Me, Sp⟩ ⟨N2, Bad2, S2, L2, Lo2, Hi2, Me2, Sp2⟩ m3) ?_ ?_
  · have hb := HX.out.2.2.2.2.trans (Hb3.out.mono HX.out.2.2.2.2.size)
    exact ⟨(HX.out.2.1.keep Hb3.out).keep (below_all _ _), (HX.out.2.2.2.1.keep Hb3.out).keep (below_all _ _), mtCell_alloc w3 m3 _, hb.alloc hb.size _⟩
  clear HX Hb3 a0 a1 a2 a3 a4 a5 a6 a7 b0 b1 b2 b3 b4 b5 b6 b7
  intro X hx
  have HX := Lib.hid hx
  obtain ⟨⟨⟨a0, a1, a2, a3, a4, a5, a6, a7⟩, -⟩, ⟨⟨b0, b1, b2, b3, b4, b5, b6, b7⟩, -⟩, -, -⟩ := hx
  simp only at a0 a1 a2 a3 a4 a5 a6 a7 b0 b1 b2 b3 b4 b5 b6 b7
  generalize w3.heap.size = U at *
  go_upto_region 5 with (go_at_call 32; (with_reducible refine (K2.out _).mono ?_); rintro e w4 ⟨m4, rfl, hs4, ho4, hb⟩; have Hb4 := Lib.hid hb; have Hs4 := Lib.hid hs4; have Ho4 := Lib.hid ho4; clear hb hs4 ho4; unfold mtV)
  refine wp_name (MgV w U w4.heap.size m3 m4) ?_ ?_
  · have hb := HX.out.2.2.2.trans (Hb4.out.mono HX.out.2.2.2.size)
    exact ⟨(HX.out.2.2.1.keep Hb4.out).keep (below_all _ _), mtCell_alloc w4 m4 _, hb.alloc hb.size _⟩
  clear HX Hb4 a0 a1 a2 a3 a4 a5 a6 a7 b0 b1 b2 b3 b4 b5 b6 b7
  intro X hx
  have HX := Lib.hid hx
  clear hx
  generalize w4.heap.size = V at *
  go_wp2_with fail
  with_reducible refine (Kw.out _).mono ?_
  rintro e w5 ⟨rfl, hb⟩
  have HY : Hid (MgV w U V m3 m4 w5) := Lib.hid ⟨HX.out.1.keep hb, HX.out.2.1.keep hb, HX.out.2.2.trans (hb.mono HX.out.2.2.size)⟩
  clear HX hb
  obtain ⟨⟨⟨a0, a1, a2, a3, a4, a5, a6, a7⟩, -⟩, ⟨⟨b0, b1, b2, b3, b4, b5, b6, b7⟩, -⟩, -⟩ := HY.out
  go_wp2_with fail
  refine (Kc.out m3 m4 _ Ho3.out Ho4.out (Hs3.out.trans Hs4.out.symm)).mono ?_
  rintro e w6 ⟨rfl, hb⟩
  have Hb6 := Lib.hid (HY.out.2.2.trans (hb.mono HY.out.2.2.size))
  clear hb HY a0 a1 a2 a3 a4 a5 a6 a7 b0 b1 b2 b3 b4 b5 b6 b7
  go_wp2
  go_ret
  exact ⟨rfl, Hb6.out⟩

theorem merge_any (a b : Mt) (w : World) (ha : a.Ok) (hb : b.Ok) (h1 : -9223372036854775808 ≤ a.N ∧ a.N ≤ 9223372036854775807) (h2 : -9223372036854775808 ≤ a.Bad ∧ a.Bad ≤ 9223372036854775807) :
    Calls Try.prog 31 #[mtV a, mtV b] w (MtErr w (mergeV a b) (mergeE a b)) := by
  obtain ⟨N, Bad, S, L, Lo, Hi, Me, Sp⟩ := a
  obtain ⟨N2, Bad2, S2, L2, Lo2, Hi2, Me2, Sp2⟩ := b
  cases hc : (cntB N N2 && cntB Bad Bad2)
  · obtain ⟨e1, e2⟩ := mergeV_bad (a := ⟨N, Bad, S, L, Lo, Hi, Me, Sp⟩) (b := ⟨N2, Bad2, S2, L2, Lo2, Hi2, Me2, Sp2⟩) hc
    rw [e1, e2]
    exact merge_bad N Bad N2 Bad2 S L Lo Hi Me Sp S2 L2 Lo2 Hi2 Me2 Sp2 w h1 h2 hc
  · rw [Bool.and_eq_true] at hc
    by_cases h0 : N = 0
    · obtain ⟨e1, e2⟩ := mergeV_a (a := ⟨N, Bad, S, L, Lo, Hi, Me, Sp⟩) (b := ⟨N2, Bad2, S2, L2, Lo2, Hi2, Me2, Sp2⟩) hc.1 hc.2 h0
      rw [e1, e2]
      have := merge_none N Bad N2 Bad2 S L Lo Hi Me Sp S2 L2 Lo2 Hi2 Me2 Sp2 w hc.1 hc.2 (Or.inl h0) ha hb
      rwa [if_pos h0] at this
    · by_cases h0' : N2 = 0
      · obtain ⟨e1, e2⟩ := mergeV_b (a := ⟨N, Bad, S, L, Lo, Hi, Me, Sp⟩) (b := ⟨N2, Bad2, S2, L2, Lo2, Hi2, Me2, Sp2⟩) hc.1 hc.2 h0 h0'
        rw [e1, e2]
        have := merge_none N Bad N2 Bad2 S L Lo Hi Me Sp S2 L2 Lo2 Hi2 Me2 Sp2 w hc.1 hc.2 (Or.inr ⟨h0, h0'⟩) ha hb
        rwa [if_neg h0] at this
      · obtain ⟨e1, e2⟩ := mergeV_c (a := ⟨N, Bad, S, L, Lo, Hi, Me, Sp⟩) (b := ⟨N2, Bad2, S2, L2, Lo2, Hi2, Me2, Sp2⟩) hc.1 hc.2 h0 h0'
        rw [e1, e2]
        exact merge_both N Bad N2 Bad2 S L Lo Hi Me Sp S2 L2 Lo2 Hi2 Me2 Sp2 w hc.1 hc.2 h0 h0' ha hb
end Go.Proofs.Ytecbbdbeihiioaa
