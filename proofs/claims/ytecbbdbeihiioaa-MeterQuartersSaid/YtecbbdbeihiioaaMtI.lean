/- Contract of meter.Of. -/
import Derived.Test.YtecbbdbeihiioaaMtH
namespace Go.Proofs.Ytecbbdbeihiioaa
open Go.RowKit
set_option linter.unusedVariables false

attribute [local go_sem] run_store_float'

theorem bcell {W w1 : World} (hb : Below W.heap.size W w1) : (∀ b o, b < W.heap.size → w1.cell? ⟨b, o, none⟩ = W.cell? ⟨b, o, none⟩) ∧ (∀ b o, b < W.heap.size → w1.frozen? ⟨b, o, none⟩ = W.frozen? ⟨b, o, none⟩) :=
  ⟨fun b o h => hb.cell (p := ⟨b, o, none⟩) h, fun b o h => hb.frozen (p := ⟨b, o, none⟩) h⟩

/-- A meter in a block. -/
def MtCell (w : World) (B : Nat) (m : Mt) : Prop :=
  (w.cell? ⟨B, 0, none⟩ = some (.int .i64 m.N) ∧ w.cell? ⟨B, 1, none⟩ = some (.int .i64 m.Bad) ∧ w.cell? ⟨B, 2, none⟩ = some (.float .f64 m.S) ∧ w.cell? ⟨B, 3, none⟩ = some (.float .f64 m.L) ∧ w.cell? ⟨B, 4, none⟩ = some (.float .f64 m.Lo) ∧ w.cell? ⟨B, 5, none⟩ = some (.float .f64 m.Hi) ∧ w.cell? ⟨B, 6, none⟩ = some (.float .f64 m.Me) ∧ w.cell? ⟨B, 7, none⟩ = some (.float .f64 m.Sp)) ∧
  (w.frozen? ⟨B, 0, none⟩ = false ∧ w.frozen? ⟨B, 1, none⟩ = false ∧ w.frozen? ⟨B, 2, none⟩ = false ∧ w.frozen? ⟨B, 3, none⟩ = false ∧ w.frozen? ⟨B, 4, none⟩ = false ∧ w.frozen? ⟨B, 5, none⟩ = false ∧ w.frozen? ⟨B, 6, none⟩ = false ∧ w.frozen? ⟨B, 7, none⟩ = false)

theorem MtCell.later {w w' : World} {B : Nat} {m : Mt} (h : MtCell w B m) (hB : B < w.heap.size) (hb : Below w.heap.size w w') : MtCell w' B m := by
  obtain ⟨hc, hf⟩ := bcell hb
  obtain ⟨⟨a0, a1, a2, a3, a4, a5, a6, a7⟩, f0, f1, f2, f3, f4, f5, f6, f7⟩ := h
  exact ⟨⟨(hc _ _ hB).trans a0, (hc _ _ hB).trans a1, (hc _ _ hB).trans a2, (hc _ _ hB).trans a3, (hc _ _ hB).trans a4, (hc _ _ hB).trans a5, (hc _ _ hB).trans a6, (hc _ _ hB).trans a7⟩, (hf _ _ hB).trans f0, (hf _ _ hB).trans f1, (hf _ _ hB).trans f2, (hf _ _ hB).trans f3, (hf _ _ hB).trans f4, (hf _ _ hB).trans f5, (hf _ _ hB).trans f6, (hf _ _ hB).trans f7⟩

theorem mtCell_alloc (w : World) (m : Mt) (t : TypeId) : MtCell (w.alloc (.cells #[.int .i64 m.N, .int .i64 m.Bad, .float .f64 m.S, .float .f64 m.L, .float .f64 m.Lo, .float .f64 m.Hi, .float .f64 m.Me, .float .f64 m.Sp] t)) w.heap.size m := by
  unfold MtCell
  refine ⟨⟨?_, ?_, ?_, ?_, ?_, ?_, ?_, ?_⟩, ?_, ?_, ?_, ?_, ?_, ?_, ?_, ?_⟩ <;> simp [go_sem]

def MtErr (w : World) (m : Mt) (f : Int) (e : Ending) (w' : World) : Prop := ∃ m', e = .returned (.tuple #[mtV m', .int .i64 f]) ∧ mtSim m' m ∧ m'.Ok ∧ Below w.heap.size w w'

/-- The loop of Of: W0 is the world behind the result's own block. -/
def OfRel (W0 : World) (L : List Nat) (B : Nat) (k : Nat) (wr : World) : Prop := ∃ m, MtCell wr B m ∧ mtSim m (foldM (L.take k)) ∧ m.Ok ∧ B < wr.heap.size ∧ W0.heap.size ≤ B ∧ Below W0.heap.size W0 wr

set_option maxRecDepth 100000 in
set_option maxHeartbeats 8000000 in
theorem mof_some (v : Value) (L : List Nat) (w : World) (h : FlAt w v L) (hl : L.length ≤ 4096) :
    Calls Try.prog 13 #[v] w (MtErr w (foldM L) 0) := by
  obtain ⟨h0, a, c, rfl, hlc, hc, hr⟩ := h
  unfold maxLen at hc
  have Hr := Lib.hid hr
  have H0 := Lib.hid h0
  clear hr h0
  have Kn := Lib.hid (fun v => new_any v)
  have hll : (L.length : Int) ≤ 4096 := by omega
  unfold mtV mt0 at Kn
  go_enter Try.func13, Try.ntmps13
  go_wp2_with fail
  refine (Kn.out _).mono ?_
  rintro e w1 ⟨rfl, hb⟩
  have Hst : Hid (OfRel (w.alloc (.cells #[.int .i64 0, .int .i64 0, .float .f64 0, .float .f64 0, .float .f64 0, .float .f64 0, .float .f64 0, .float .f64 0] 28)) L w1.heap.size 0 (w1.alloc (.cells #[.int .i64 0, .int .i64 0, .float .f64 9223372036854775808, .float .f64 0, .float .f64 9218868437227405312, .float .f64 18442240474082181120, .float .f64 0, .float .f64 0] 28))) :=
    ⟨mt0, mtCell_alloc w1 mt0 _, mtSim.refl _, mt0_ok, by simp, hb.size, hb.alloc hb.size _⟩
  clear hb
  go_wp2_with fail
  go_loopw [6, 14] (fun _ i wr => ∃ k : Nat, i = .int .i64 k ∧ k ≤ L.length ∧ OfRel (w.alloc (.cells #[.int .i64 0, .int .i64 0, .float .f64 0, .float .f64 0, .float .f64 0, .float .f64 0, .float .f64 0, .float .f64 0] 28)) L w1.heap.size k wr) (fun _ i _ => L.length - (intOf i).toNat)
  case atStart => exact ⟨0, rfl, Nat.zero_le _, Hst.out⟩
  case round =>
    obtain ⟨k, rfl, hk, m, hcell, hsim, hok, hBl, hB0, hbel⟩ := hrel
    have HC := Lib.hid hcell; have Hsim := Lib.hid hsim; have Hok := Lib.hid hok; have HBl := Lib.hid hBl; have HB0 := Lib.hid hB0; have Hbel := Lib.hid hbel
    clear hcell hsim hok hBl hB0 hbel Hst
    by_cases hA : k < L.length
    · have hx : ∃ b off, a = some ⟨b, off, none⟩ ∧ wr.cell? ⟨b, off + k, none⟩ = some (.float .f64 (L.getD k 0)) := by
        obtain ⟨b, off, ha, hcell⟩ := Hr.out (by omega)
        exact ⟨b, off, ha, cell_later (below_past Hbel.out) (hcell k hA)⟩
      obtain ⟨b, off, rfl, hx0⟩ := hx
      have hxl := getD_lt H0.out k
      have Hstep := Lib.hid (foldM_take hA)
      have Hlow := Lib.hid (foldM_ok (L := L.take k) (fun x hx => H0.out x (List.mem_of_mem_take hx)))
      have Ka := Lib.hid (fun v => add_any m (L.getD k 0) v hxl Hok.out)
      have Hxl := Lib.hid hxl
      clear hxl
      generalize hq : L.getD k 0 = x at *
      clear hq
      obtain ⟨N, Bad, S, Lx, Lo, Hi, Me, Sp⟩ := m
      obtain ⟨⟨a0, a1, a2, a3, a4, a5, a6, a7⟩, f0, f1, f2, f3, f4, f5, f6, f7⟩ := HC.out
      simp only at a0 a1 a2 a3 a4 a5 a6 a7
      clear f0 f1 f2 f3 f4 f5 f6 f7
      go_wp2_with fail
      refine (Ka.out _).mono ?_
      rintro e w2 ⟨m2, rfl, hs2, ho2, hb2⟩
      have HC2 := Lib.hid (HC.out.later HBl.out hb2)
      have Hs2 := Lib.hid hs2; have Ho2 := Lib.hid ho2; have Hb2 := Lib.hid hb2
      clear hs2 ho2 hb2 a0 a1 a2 a3 a4 a5 a6 a7 hx0
      have Hnew : Hid (∀ wn, MtCell wn w1.heap.size m2 → Below (w.alloc (.cells #[.int .i64 0, .int .i64 0, .float .f64 0, .float .f64 0, .float .f64 0, .float .f64 0, .float .f64 0, .float .f64 0] 28)).heap.size (w.alloc (.cells #[.int .i64 0, .int .i64 0, .float .f64 0, .float .f64 0, .float .f64 0, .float .f64 0, .float .f64 0, .float .f64 0] 28)) wn → w1.heap.size < wn.heap.size → OfRel (w.alloc (.cells #[.int .i64 0, .int .i64 0, .float .f64 0, .float .f64 0, .float .f64 0, .float .f64 0, .float .f64 0, .float .f64 0] 28)) L w1.heap.size (k + 1) wn) :=
        Lib.hid (fun wn hc hb hl => ⟨m2, hc, by rw [Hstep.out]; exact Hs2.out.trans (addM_sim Hok.out Hlow.out Hxl.out Hsim.out), Ho2.out, hl, HB0.out, hb⟩)
      have Hb3 := Lib.hid (Hbel.out.trans (Hb2.out.mono Hbel.out.size))
      have HBl2 := Lib.hid (Nat.lt_of_lt_of_le HBl.out Hb2.out.size)
      obtain ⟨N2, Bad2, S2, Lx2, Lo2, Hi2, Me2, Sp2⟩ := m2
      obtain ⟨⟨a0, a1, a2, a3, a4, a5, a6, a7⟩, f0, f1, f2, f3, f4, f5, f6, f7⟩ := HC2.out
      simp only at a0 a1 a2 a3 a4 a5 a6 a7
      clear HC HC2 Hok Hsim Hlow Hstep Hs2 Ho2 Ka
      unfold mtV
      go_wp2
      go_roundw
      case rel =>
        refine ⟨k + 1, by go_num, by omega, Hnew.out _ ?_ ?_ ?_⟩
        · unfold MtCell
          refine ⟨⟨?_, ?_, ?_, ?_, ?_, ?_, ?_, ?_⟩, ?_, ?_, ?_, ?_, ?_, ?_, ?_, ?_⟩ <;> simp [go_sem, a0, a1, a2, a3, a4, a5, a6, a7, f0, f1, f2, f3, f4, f5, f6, f7]
        · repeat (first | (with_reducible refine Below.setCell ?_ HB0.out _) | with_reducible exact Hb3.out)
        · simpa using HBl2.out
      case measure => simp [intOf]; omega
    · obtain rfl : k = L.length := by omega
      have HR := Lib.hid ((mtCell_alloc w ⟨0, 0, 0, 0, 0, 0, 0, 0⟩ 28).later (by simp) Hbel.out)
      have hsim := Hsim.out
      rw [List.take_length] at hsim
      have Hsim' := Lib.hid hsim
      have Hbz := Lib.hid (below_past Hbel.out)
      clear hsim Hsim
      obtain ⟨N, Bad, S, Lx, Lo, Hi, Me, Sp⟩ := m
      obtain ⟨⟨a0, a1, a2, a3, a4, a5, a6, a7⟩, f0, f1, f2, f3, f4, f5, f6, f7⟩ := HC.out
      obtain ⟨⟨r0, r1, r2, r3, r4, r5, r6, r7⟩, g0, g1, g2, g3, g4, g5, g6, g7⟩ := HR.out
      simp only at a0 a1 a2 a3 a4 a5 a6 a7 r0 r1 r2 r3 r4 r5 r6 r7
      clear HC HR f0 f1 f2 f3 f4 f5 f6 f7 HB0 Hbel
      go_wp2
      exact bodyPost_ret (v := .tuple #[.agg #[.int .i64 N, .int .i64 Bad, .float .f64 S, .float .f64 Lx, .float .f64 Lo, .float .f64 Hi, .float .f64 Me, .float .f64 Sp], .int .i64 0]) (by simp [results, Try.results13, go_sem, r0, r1, r2, r3, r4, r5, r6, r7]) rfl ⟨⟨N, Bad, S, Lx, Lo, Hi, Me, Sp⟩, rfl, Hsim'.out, Hok.out, by repeat (first | (with_reducible refine Below.setCell ?_ (by first | (simp; done) | (simp; omega)) _) | with_reducible exact Hbz.out)⟩

set_option maxHeartbeats 1000000 in
theorem mof_long (v : Value) (L : List Nat) (w : World) (h : FlAt w v L) (hl : 4096 < L.length) :
    Calls Try.prog 13 #[v] w (MtErr w ⟨0, 0, 0, 0, 0, 0, 0, 0⟩ 2) := by
  obtain ⟨h0, a, c, rfl, hlc, hc, hr⟩ := h
  unfold maxLen at hc
  clear hr h0
  have hll : (4096 : Int) < (L.length : Int) := by omega
  go_enter Try.func13, Try.ntmps13
  go_wp2
  exact bodyPost_ret (v := .tuple #[.agg #[.int .i64 0, .int .i64 0, .float .f64 0, .float .f64 0, .float .f64 0, .float .f64 0, .float .f64 0, .float .f64 0], .int .i64 2]) (by simp [results, Try.results13, go_sem]) rfl ⟨⟨0, 0, 0, 0, 0, 0, 0, 0⟩, rfl, mtSim.refl _, (by unfold Mt.Ok; decide), by repeat (first | (with_reducible refine Below.setCell ?_ (by first | (simp; done) | (simp; omega)) _) | (with_reducible refine Below.alloc ?_ (by first | (simp; done) | (simp; omega)) _) | with_reducible exact Below.refl _ _)⟩

set_option maxRecDepth 100000 in
set_option maxHeartbeats 8000000 in
theorem docof_some (v : Value) (L : List Nat) (w : World) (h : FlAt w v L) (hl : L.length ≤ 4096) :
    Calls Try.prog 14 #[v] w (MtErr w (foldM L) 0) := by
  obtain ⟨h0, a, c, rfl, hlc, hc, hr⟩ := h
  unfold maxLen at hc
  have Hr := Lib.hid hr
  have H0 := Lib.hid h0
  clear hr h0
  have Kn := Lib.hid (fun v => new_ref v)
  have hll : (L.length : Int) ≤ 4096 := by omega
  unfold mtV mt0 at Kn
  go_enter Try.func14, Try.ntmps14
  go_wp2_with fail
  refine (Kn.out _).mono ?_
  rintro e w1 ⟨rfl, hb⟩
  have Hst : Hid (OfRel (w.alloc (.cells #[.int .i64 0, .int .i64 0, .float .f64 0, .float .f64 0, .float .f64 0, .float .f64 0, .float .f64 0, .float .f64 0] 32)) L w1.heap.size 0 (w1.alloc (.cells #[.int .i64 0, .int .i64 0, .float .f64 9223372036854775808, .float .f64 0, .float .f64 9218868437227405312, .float .f64 18442240474082181120, .float .f64 0, .float .f64 0] 32))) :=
    ⟨mt0, mtCell_alloc w1 mt0 _, mtSim.refl _, mt0_ok, by simp, hb.size, hb.alloc hb.size _⟩
  clear hb
  go_wp2_with fail
  go_loopw [6, 14] (fun _ i wr => ∃ k : Nat, i = .int .i64 k ∧ k ≤ L.length ∧ OfRel (w.alloc (.cells #[.int .i64 0, .int .i64 0, .float .f64 0, .float .f64 0, .float .f64 0, .float .f64 0, .float .f64 0, .float .f64 0] 32)) L w1.heap.size k wr) (fun _ i _ => L.length - (intOf i).toNat)
  case atStart => exact ⟨0, rfl, Nat.zero_le _, Hst.out⟩
  case round =>
    obtain ⟨k, rfl, hk, m, hcell, hsim, hok, hBl, hB0, hbel⟩ := hrel
    have HC := Lib.hid hcell; have Hsim := Lib.hid hsim; have Hok := Lib.hid hok; have HBl := Lib.hid hBl; have HB0 := Lib.hid hB0; have Hbel := Lib.hid hbel
    clear hcell hsim hok hBl hB0 hbel Hst
    by_cases hA : k < L.length
    · have hx : ∃ b off, a = some ⟨b, off, none⟩ ∧ wr.cell? ⟨b, off + k, none⟩ = some (.float .f64 (L.getD k 0)) := by
        obtain ⟨b, off, ha, hcell⟩ := Hr.out (by omega)
        exact ⟨b, off, ha, cell_later (below_past Hbel.out) (hcell k hA)⟩
      obtain ⟨b, off, rfl, hx0⟩ := hx
      have hxl := getD_lt H0.out k
      have Hstep := Lib.hid (foldM_take hA)
      have Hlow := Lib.hid (foldM_ok (L := L.take k) (fun x hx => H0.out x (List.mem_of_mem_take hx)))
      have Ka := Lib.hid (fun v => radd_any m (L.getD k 0) v hxl Hok.out)
      have Hxl := Lib.hid hxl
      clear hxl
      generalize hq : L.getD k 0 = x at *
      clear hq
      obtain ⟨N, Bad, S, Lx, Lo, Hi, Me, Sp⟩ := m
      obtain ⟨⟨a0, a1, a2, a3, a4, a5, a6, a7⟩, f0, f1, f2, f3, f4, f5, f6, f7⟩ := HC.out
      simp only at a0 a1 a2 a3 a4 a5 a6 a7
      clear f0 f1 f2 f3 f4 f5 f6 f7
      go_wp2_with fail
      refine (Ka.out _).mono ?_
      rintro e w2 ⟨m2, rfl, hs2, ho2, hb2⟩
      have HC2 := Lib.hid (HC.out.later HBl.out hb2)
      have Hs2 := Lib.hid hs2; have Ho2 := Lib.hid ho2; have Hb2 := Lib.hid hb2
      clear hs2 ho2 hb2 a0 a1 a2 a3 a4 a5 a6 a7 hx0
      have Hnew : Hid (∀ wn, MtCell wn w1.heap.size m2 → Below (w.alloc (.cells #[.int .i64 0, .int .i64 0, .float .f64 0, .float .f64 0, .float .f64 0, .float .f64 0, .float .f64 0, .float .f64 0] 32)).heap.size (w.alloc (.cells #[.int .i64 0, .int .i64 0, .float .f64 0, .float .f64 0, .float .f64 0, .float .f64 0, .float .f64 0, .float .f64 0] 32)) wn → w1.heap.size < wn.heap.size → OfRel (w.alloc (.cells #[.int .i64 0, .int .i64 0, .float .f64 0, .float .f64 0, .float .f64 0, .float .f64 0, .float .f64 0, .float .f64 0] 32)) L w1.heap.size (k + 1) wn) :=
        Lib.hid (fun wn hc hb hl => ⟨m2, hc, by rw [Hstep.out]; exact Hs2.out.trans (addM_sim Hok.out Hlow.out Hxl.out Hsim.out), Ho2.out, hl, HB0.out, hb⟩)
      have Hb3 := Lib.hid (Hbel.out.trans (Hb2.out.mono Hbel.out.size))
      have HBl2 := Lib.hid (Nat.lt_of_lt_of_le HBl.out Hb2.out.size)
      obtain ⟨N2, Bad2, S2, Lx2, Lo2, Hi2, Me2, Sp2⟩ := m2
      obtain ⟨⟨a0, a1, a2, a3, a4, a5, a6, a7⟩, f0, f1, f2, f3, f4, f5, f6, f7⟩ := HC2.out
      simp only at a0 a1 a2 a3 a4 a5 a6 a7
      clear HC HC2 Hok Hsim Hlow Hstep Hs2 Ho2 Ka
      unfold mtV
      go_wp2
      go_roundw
      case rel =>
        refine ⟨k + 1, by go_num, by omega, Hnew.out _ ?_ ?_ ?_⟩
        · unfold MtCell
          refine ⟨⟨?_, ?_, ?_, ?_, ?_, ?_, ?_, ?_⟩, ?_, ?_, ?_, ?_, ?_, ?_, ?_, ?_⟩ <;> simp [go_sem, a0, a1, a2, a3, a4, a5, a6, a7, f0, f1, f2, f3, f4, f5, f6, f7]
        · repeat (first | (with_reducible refine Below.setCell ?_ HB0.out _) | with_reducible exact Hb3.out)
        · simpa using HBl2.out
      case measure => simp [intOf]; omega
    · obtain rfl : k = L.length := by omega
      have HR := Lib.hid ((mtCell_alloc w ⟨0, 0, 0, 0, 0, 0, 0, 0⟩ 32).later (by simp) Hbel.out)
      have hsim := Hsim.out
      rw [List.take_length] at hsim
      have Hsim' := Lib.hid hsim
      have Hbz := Lib.hid (below_past Hbel.out)
      clear hsim Hsim
      obtain ⟨N, Bad, S, Lx, Lo, Hi, Me, Sp⟩ := m
      obtain ⟨⟨a0, a1, a2, a3, a4, a5, a6, a7⟩, f0, f1, f2, f3, f4, f5, f6, f7⟩ := HC.out
      obtain ⟨⟨r0, r1, r2, r3, r4, r5, r6, r7⟩, g0, g1, g2, g3, g4, g5, g6, g7⟩ := HR.out
      simp only at a0 a1 a2 a3 a4 a5 a6 a7 r0 r1 r2 r3 r4 r5 r6 r7
      clear HC HR f0 f1 f2 f3 f4 f5 f6 f7 HB0 Hbel
      go_wp2
      exact bodyPost_ret (v := .tuple #[.agg #[.int .i64 N, .int .i64 Bad, .float .f64 S, .float .f64 Lx, .float .f64 Lo, .float .f64 Hi, .float .f64 Me, .float .f64 Sp], .int .i64 0]) (by simp [results, Try.results14, go_sem, r0, r1, r2, r3, r4, r5, r6, r7]) rfl ⟨⟨N, Bad, S, Lx, Lo, Hi, Me, Sp⟩, rfl, Hsim'.out, Hok.out, by repeat (first | (with_reducible refine Below.setCell ?_ (by first | (simp; done) | (simp; omega)) _) | with_reducible exact Hbz.out)⟩

set_option maxHeartbeats 1000000 in
theorem docof_long (v : Value) (L : List Nat) (w : World) (h : FlAt w v L) (hl : 4096 < L.length) :
    Calls Try.prog 14 #[v] w (MtErr w ⟨0, 0, 0, 0, 0, 0, 0, 0⟩ 2) := by
  obtain ⟨h0, a, c, rfl, hlc, hc, hr⟩ := h
  unfold maxLen at hc
  clear hr h0
  have hll : (4096 : Int) < (L.length : Int) := by omega
  go_enter Try.func14, Try.ntmps14
  go_wp2
  exact bodyPost_ret (v := .tuple #[.agg #[.int .i64 0, .int .i64 0, .float .f64 0, .float .f64 0, .float .f64 0, .float .f64 0, .float .f64 0, .float .f64 0], .int .i64 2]) (by simp [results, Try.results14, go_sem]) rfl ⟨⟨0, 0, 0, 0, 0, 0, 0, 0⟩, rfl, mtSim.refl _, (by unfold Mt.Ok; decide), by repeat (first | (with_reducible refine Below.setCell ?_ (by first | (simp; done) | (simp; omega)) _) | (with_reducible refine Below.alloc ?_ (by first | (simp; done) | (simp; omega)) _) | with_reducible exact Below.refl _ _)⟩

end Go.Proofs.Ytecbbdbeihiioaa
