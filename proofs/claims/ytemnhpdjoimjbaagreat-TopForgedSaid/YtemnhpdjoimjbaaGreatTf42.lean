import Derived.Test.YtemnhpdjoimjbaaGreatTf41
import Derived.Test.YtemnhpdjoimjbaaGreatTf01
import Derived.Test.YtemnhpdjoimjbaaGreatTf10
import Derived.Deep.QuietTactic
import Derived.WalkSmall
import Derived.Test.YtemnhpdjoimjbaaGreatTf22
section
namespace Go.Proofs.YtemnhpdjoimjbaaGreat
open Go.RowKit Top
set_option linter.unusedVariables false
def Mem.tick (m : Mem) (n : Int) : Mem := { m with clock := clampI (m.clock + n) }
theorem St.tick {w : World} {B : Nat} {A : Adr} {m : Mem} (h : St w B A m) (n : Int) : Acc w B A (Mem.tick m n) (w.setCell ⟨A.mach, 1, none⟩ (.int .i64 (clampI (m.clock + n)))) := by
  obtain ⟨last, hm, hl⟩ := h.mach
  have hm' := hm
  unfold Bx at hm'
  have hf : Fr B [] w (w.setCell ⟨A.mach, 1, none⟩ (.int .i64 (clampI (m.clock + n)))) := (Fr.refl B [] w).setCell (p := ⟨A.mach, 1, none⟩) hm' h.below.1 rfl (fun ho => by simp [ownT] at ho) _
  obtain ⟨nn, xs, ho, hn, h1⟩ := hl
  obtain ⟨hs, h2, h3, h4⟩ := h.holds
  have hsz : (w.setCell ⟨A.mach, 1, none⟩ (.int .i64 (clampI (m.clock + n)))).heap.size = w.heap.size := by simp [World.setCell]
  refine ⟨⟨h.lanes.keep hf rfl, h.board.keep hf rfl, ⟨last, hm.setCell 1 _, nn, xs, ownsRow_setCell_other ho (own_ne ho hm (by decide)) _, hn, h1⟩, h.words.sne (h.words.ne hm (by decide)), h.nwords, h.wordlt, ⟨hs, h2, h3.sne (h3.ne hm (by decide)), fun i hi => ?_⟩, h.nholds, ⟨h.below.1, h.below.2.1, h.below.2.2.1, by rw [hsz]; exact h.below.2.2.2⟩, clampI_tick _, h.count, h.core.keep hf (by simp)⟩, hf⟩
  obtain ⟨v, h5, h6⟩ := h4 i hi
  exact ⟨v, h5, h6.keep hf⟩
set_option maxHeartbeats 1000000 in
theorem mtick_any (B : Nat) (A : Adr) (m : Mem) (n : Int) (w : World) (hs : St w B A m) (h0 : 0 ≤ n) (h1 : n ≤ 4611686018427387903) :
    Calls Tryz.prog 30 #[P A.mach, .int .i64 n] w fun e w' => e = .returned (.tuple #[.int .i64 (Mem.tick m n).clock, .int .i64 0]) ∧ Acc w B A (Mem.tick m n) w' := by
  obtain ⟨last, hm, hl⟩ := hs.mach
  have c1 : w.cell? ⟨A.mach, 1, none⟩ = some (.int .i64 m.clock) := hm.cell 1
  have f1 : w.frozen? ⟨A.mach, 1, none⟩ = false := hm.free 1
  have hb := tickB_mk h0 h1
  have ha := tickB_mk hs.clock.1 hs.clock.2
  have Kf := Lib.hid (form_any n w)
  rw [hb] at Kf
  have Ka := Lib.hid (add_yes m.clock n w ha hb)
  have H := Lib.hid (hs.tick n)
  obtain ⟨t, ht⟩ : ∃ t, clampI (m.clock + n) = t := ⟨_, rfl⟩
  have e : (Mem.tick m n).clock = t := ht
  rw [e]
  rw [ht] at Ka H
  clear hm hl hb ha hs h0 h1 ht e
  go_enter Tryz.func30, Tryz.ntmps30
  go_wp2_with (first | (go_at_call 55; (with_reducible refine Kf.out.mono ?_); rintro e w1 ⟨rfl, rfl⟩) | (go_at_call 56; (with_reducible refine Ka.out.mono ?_); rintro e w1 ⟨rfl, rfl⟩))
  exact bodyPost_ret (v := .tuple #[.int .i64 t, .int .i64 0]) (by simp [results, Tryz.results30, go_sem]) rfl ⟨rfl, H.out⟩
set_option maxHeartbeats 1000000 in
theorem ctick_any (B : Nat) (A : Adr) (m : Mem) (n : Int) (w : World) (hs : St w B A m) (h0 : 0 ≤ n) (h1 : n ≤ 4611686018427387903) :
    Calls Tryz.prog 13 #[P A.K, .int .i64 n] w fun e w' => e = .returned (.tuple #[.int .i64 (Mem.tick m n).clock, .int .i64 0]) ∧ Acc w B A (Mem.tick m n) w' := by
  have c2 := hs.core.c2
  have cl : w.cell? ⟨A.lanes, 0, none⟩ = some (P A.board) := hs.lanes.cell 0
  have cb : w.cell? ⟨A.board, 0, none⟩ = some (P A.mach) := hs.board.cell 0
  have Kt := Lib.hid (mtick_any B A m n w hs h0 h1)
  obtain ⟨t, ht⟩ : ∃ t, (Mem.tick m n).clock = t := ⟨_, rfl⟩
  rw [ht] at Kt ⊢
  clear hs h0 h1 ht
  go_enter Tryz.func13, Tryz.ntmps13
  go_wp2_with (go_at_call 30; (with_reducible refine Kt.out.mono ?_); rintro e w1 ⟨rfl, ha⟩; have Ha := Lib.hid ha; clear ha)
  exact bodyPost_ret (v := .tuple #[.int .i64 t, .int .i64 0]) (by simp [results, Tryz.results13, go_sem]) rfl ⟨rfl, Ha.out⟩
end Go.Proofs.YtemnhpdjoimjbaaGreat
end
section
namespace Go.Proofs.YtemnhpdjoimjbaaGreat
open Go.RowKit Top
set_option linter.unusedVariables false
theorem is_any (who : Int) (w : World) (h0 : 0 ≤ who) (h1 : who < 64) :
    Calls Tryz.prog 42 #[.int .i64 who] w fun e w' => e = .returned (.bool true) ∧ w = w' := by
  go_enter Tryz.func42, Tryz.ntmps42
  go_wp2
  go_ret
  exact ⟨rfl, rfl⟩
theorem neq_func (f : Fn) (a ps : Array Value) (w : World) : (binOp BinOp.neq 83 (.func f a ps) .nilFunc).run Tryz.prog w = .ok (.bool true) w := by
  simp only [binOp, Op.equal]
  rw [show Op.maxDepth = 9999 + 1 from rfl, Op.equalIn]
  simp [go_sem]
theorem neq_nil (w : World) : (binOp BinOp.neq 83 .nilFunc .nilFunc).run Tryz.prog w = .ok (.bool false) w := by
  simp only [binOp, Op.equal]
  rw [show Op.maxDepth = 9999 + 1 from rfl, Op.equalIn]
  simp [go_sem]
/-- A pending call's value, or none. -/
def isOn : Value → Bool
  | .nilFunc => false
  | _ => true
set_option maxHeartbeats 1000000 in
set_option maxRecDepth 100000 in
theorem pending_any (K : Nat) (who : Nat) (fv : Value) (w : World) (h1 : who < 64) (hc : w.cell? ⟨K, 3 + who, none⟩ = some fv) (hf : fv = .nilFunc ∨ Func1 fv) :
    Calls Tryz.prog 34 #[P K, .int .i64 who] w fun e w' => e = .returned (.bool (isOn fv)) ∧ w = w' := by
  have Ki := Lib.hid (is_any who w (by omega) (by omega))
  have hw : (who : Int) < 64 := by omega
  have e1 := neq_func
  have e2 := neq_nil
  clear h1
  rcases hf with rfl | ⟨f, ps, rfl⟩
  all_goals
    go_enter Tryz.func34, Tryz.ntmps34
    go_wp2_with (go_at_call 42; (with_reducible refine Ki.out.mono ?_); rintro e w1 ⟨rfl, rfl⟩)
    go_ret
    exact ⟨rfl, rfl⟩
end Go.Proofs.YtemnhpdjoimjbaaGreat
end
section
namespace Go.Proofs.YtemnhpdjoimjbaaGreat
open Go.RowKit Top
set_option linter.unusedVariables false
/-- A slice of whole numbers. -/
def IntsAt (w : World) (v : Value) (L : List Int) : Prop :=
  ∃ a c, v = .slice a L.length c ∧ L.length ≤ c ∧ c ≤ maxLen ∧
    (0 < L.length → ∃ b off, a = some ⟨b, off, none⟩ ∧ ∀ j, j < L.length → w.cell? ⟨b, off + j, none⟩ = some (.int .i64 (L.getD j 0)))
theorem HeldAt.ints {w : World} {v : Value} {L : List Int} (h : HeldAt w v L) : IntsAt w v L := by
  obtain ⟨a, c, rfl⟩ : ∃ a c, v = .slice a L.length c := by obtain ⟨_, a, c, e, _⟩ := h; exact ⟨a, c, e⟩
  obtain ⟨_, h1, h2, h3⟩ := Row.cells h
  refine ⟨a, c, rfl, h1, h2, fun hn => ?_⟩
  obtain ⟨b, off, e, h4⟩ := h3 hn
  refine ⟨b, off, e, fun j hj => h4 j _ ?_⟩
  rw [List.getElem?_map, List.getD_eq_getElem?_getD, List.getElem?_eq_getElem hj]
  rfl
set_option maxHeartbeats 1000000 in
theorem samebytes_any (va vb : Value) (a b : List Nat) (w : World) (ha : ByAt w va a) (hb : ByAt w vb b) :
    Calls Tryz.prog 28 #[va, vb] w fun e w' => e = .returned (.bool (decide (a = b))) ∧ Below w.heap.size w w' := by
  obtain ⟨a0, aa, ac, rfl, a1, a2, a3⟩ := ha
  obtain ⟨b0, ba, bc, rfl, b1, b2, b3⟩ := hb
  unfold maxLen at a2 b2
  generalize hR : decide (a = b) = R
  have HR := Lib.hid hR
  clear hR
  by_cases hn : a.length = b.length
  · have HA := Lib.hid a3; have HB := Lib.hid b3; have HL := Lib.hid hn
    rw [hn] at a1
    rw [hn]
    generalize hbl : b.length = ln at *
    have HLb := Lib.hid hbl
    clear a3 b3 hbl hn
    go_enter Tryz.func28, Tryz.ntmps28
    go_wp2
    go_loopw [13] (fun i wr => ∃ (k : Nat), i = .int .i64 k ∧ k ≤ ln ∧ Below w.heap.size w wr ∧ ∀ j, j < k → a.getD j 0 = b.getD j 0) (fun i _ => ln - (intOf i).toNat)
    case atStart => exact ⟨0, rfl, Nat.zero_le _, Below.refl _ _, fun j h => by omega⟩
    case round =>
      obtain ⟨k, rfl, hk, hbel, heq⟩ := hrel
      have Hbel := Lib.hid hbel; have Heq := Lib.hid heq
      clear hbel heq
      by_cases hA : k < ln
      · obtain ⟨p, po, rfl, pc⟩ := HA.out (by have := HL.out; omega)
        obtain ⟨q, qo, rfl, qc⟩ := HB.out (by have := HLb.out; omega)
        have x0 := cell_later Hbel.out (pc k (by have := HL.out; omega))
        have y0 := cell_later Hbel.out (qc k (by have := HLb.out; omega))
        clear pc qc
        by_cases hx : a.getD k 0 = b.getD k 0
        · have Hx : Hid (∀ j, j = k → a.getD j 0 = b.getD j 0) := fun j e => by subst e; exact hx
          rw [← hx] at y0
          clear hx
          generalize a.getD k 0 = u at *
          go_wp2
          go_region
          go_wp2
          go_roundw
          case rel => exact ⟨k + 1, by go_num, by omega, below_drewN Hbel.out _, fun j hj => by
            by_cases e : j = k
            · exact Hx.out j e
            · exact Heq.out j (by omega)⟩
          case measure => simp [intOf]; omega
        · have hres : R = false := by
            rw [← HR.out]
            exact decide_eq_false fun e => hx (by rw [e])
          have hne : ¬ (a.getD k 0 : Int) = (b.getD k 0 : Int) := by omega
          subst hres
          clear hx
          generalize a.getD k 0 = u at *
          generalize b.getD k 0 = v at *
          go_wp2
          go_region
          go_wp2
          go_ret
          exact ⟨rfl, below_drewN Hbel.out _⟩
      · obtain rfl : k = ln := by omega
        have hres : R = true := by
          rw [← HR.out]
          refine decide_eq_true (List.ext_getElem (by have := HL.out; have := HLb.out; omega) fun j h1 h2 => ?_)
          have := Heq.out j (by have := HL.out; omega)
          rwa [List.getD_eq_getElem?_getD, List.getD_eq_getElem?_getD, List.getElem?_eq_getElem h1, List.getElem?_eq_getElem h2] at this
        subst hres
        go_wp2
        go_ret
        exact ⟨rfl, Hbel.out⟩
  · have hne : ¬ (a.length : Int) = b.length := by omega
    have hres : R = false := by rw [← HR.out]; exact decide_eq_false fun e => hn (by rw [e])
    subst hres
    clear a3 b3 HR
    generalize a.length = la at *
    generalize b.length = lb at *
    clear hn
    go_enter Tryz.func28, Tryz.ntmps28
    go_wp2
    go_ret
    exact ⟨rfl, Below.refl _ _⟩
set_option maxHeartbeats 1000000 in
theorem sameints_any (va vb : Value) (a b : List Int) (w : World) (ha : IntsAt w va a) (hb : IntsAt w vb b) :
    Calls Tryz.prog 29 #[va, vb] w fun e w' => e = .returned (.bool (decide (a = b))) ∧ Below w.heap.size w w' := by
  obtain ⟨aa, ac, rfl, a1, a2, a3⟩ := ha
  obtain ⟨ba, bc, rfl, b1, b2, b3⟩ := hb
  unfold maxLen at a2 b2
  generalize hR : decide (a = b) = R
  have HR := Lib.hid hR
  clear hR
  by_cases hn : a.length = b.length
  · have HA := Lib.hid a3; have HB := Lib.hid b3; have HL := Lib.hid hn
    rw [hn] at a1
    rw [hn]
    generalize hbl : b.length = ln at *
    have HLb := Lib.hid hbl
    clear a3 b3 hbl hn
    go_enter Tryz.func29, Tryz.ntmps29
    go_wp2
    go_loopw [13] (fun i wr => ∃ (k : Nat), i = .int .i64 k ∧ k ≤ ln ∧ Below w.heap.size w wr ∧ ∀ j, j < k → a.getD j 0 = b.getD j 0) (fun i _ => ln - (intOf i).toNat)
    case atStart => exact ⟨0, rfl, Nat.zero_le _, Below.refl _ _, fun j h => by omega⟩
    case round =>
      obtain ⟨k, rfl, hk, hbel, heq⟩ := hrel
      have Hbel := Lib.hid hbel; have Heq := Lib.hid heq
      clear hbel heq
      by_cases hA : k < ln
      · obtain ⟨p, po, rfl, pc⟩ := HA.out (by have := HL.out; omega)
        obtain ⟨q, qo, rfl, qc⟩ := HB.out (by have := HLb.out; omega)
        have x0 := cell_later Hbel.out (pc k (by have := HL.out; omega))
        have y0 := cell_later Hbel.out (qc k (by have := HLb.out; omega))
        clear pc qc
        by_cases hx : a.getD k 0 = b.getD k 0
        · have Hx : Hid (∀ j, j = k → a.getD j 0 = b.getD j 0) := fun j e => by subst e; exact hx
          rw [← hx] at y0
          clear hx
          generalize a.getD k 0 = u at *
          go_wp2
          go_region
          go_wp2
          go_roundw
          case rel => exact ⟨k + 1, by go_num, by omega, below_drewN Hbel.out _, fun j hj => by
            by_cases e : j = k
            · exact Hx.out j e
            · exact Heq.out j (by omega)⟩
          case measure => simp [intOf]; omega
        · have hres : R = false := by
            rw [← HR.out]
            exact decide_eq_false fun e => hx (by rw [e])
          have hne : ¬ (a.getD k 0 : Int) = (b.getD k 0 : Int) := by omega
          subst hres
          clear hx
          generalize a.getD k 0 = u at *
          generalize b.getD k 0 = v at *
          go_wp2
          go_region
          go_wp2
          go_ret
          exact ⟨rfl, below_drewN Hbel.out _⟩
      · obtain rfl : k = ln := by omega
        have hres : R = true := by
          rw [← HR.out]
          refine decide_eq_true (List.ext_getElem (by have := HL.out; have := HLb.out; omega) fun j h1 h2 => ?_)
          have := Heq.out j (by have := HL.out; omega)
          rwa [List.getD_eq_getElem?_getD, List.getD_eq_getElem?_getD, List.getElem?_eq_getElem h1, List.getElem?_eq_getElem h2] at this
        subst hres
        go_wp2
        go_ret
        exact ⟨rfl, Hbel.out⟩
  · have hne : ¬ (a.length : Int) = b.length := by omega
    have hres : R = false := by rw [← HR.out]; exact decide_eq_false fun e => hn (by rw [e])
    subst hres
    clear a3 b3 HR
    generalize a.length = la at *
    generalize b.length = lb at *
    clear hn
    go_enter Tryz.func29, Tryz.ntmps29
    go_wp2
    go_ret
    exact ⟨rfl, Below.refl _ _⟩
end Go.Proofs.YtemnhpdjoimjbaaGreat
end
section
namespace Go.Proofs.YtemnhpdjoimjbaaGreat
open Go.RowKit Top
set_option linter.unusedVariables false
theorem below_then {w W w2 : World} (h : RowKit.Below w.heap.size w W) (k : RowKit.Below W.heap.size W w2) : RowKit.Below w.heap.size w w2 := h.trans (k.mono h.size)
theorem CellsAt.parts {w : World} {v : Value} {L : List Cell} (h : CellsAt w v L) : ∃ xs : List CV, ∃ a c, xs.map CV.c = L ∧ v = .slice a xs.length c ∧ xs.length ≤ c ∧ c ≤ maxLen ∧ (0 < xs.length → ∃ b off, a = some ⟨b, off, none⟩ ∧ ∀ j u, (encs xs)[j]? = some u → w.cell? ⟨b, off + j, none⟩ = some u) ∧ (∀ x ∈ xs, x.ok w) ∧ WfL L := by
  obtain ⟨xs, h1, h2, h3, h4⟩ := h
  obtain ⟨a, c, rfl⟩ : ∃ a c, v = .slice a xs.length c := by obtain ⟨_, a, c, e, _⟩ := h2; exact ⟨a, c, e⟩
  obtain ⟨_, h5, h6, h7⟩ := Row.cells h2
  exact ⟨xs, a, c, h1, rfl, h5, h6, h7, h3, h4⟩
theorem CV.ok.slices {w : World} {x : CV} (h : x.ok w) : (∃ a n c, x.kv = .slice a n c) ∧ ∃ a n c, x.hv = .slice a n c := by
  obtain ⟨⟨_, _, a, c, e, _⟩, _, a', c', e', _⟩ := h
  exact ⟨⟨a, _, c, e⟩, a', _, c', e'⟩
set_option maxHeartbeats 2000000 in
set_option maxRecDepth 100000 in
theorem find16_any (v : Value) (L : List Cell) (pol : Int) (kv : Value) (key : List Nat) (w : World) (h : CellsAt w v L) (hk : KeyAt w kv key) :
    Calls Tryz.prog 10 #[v, .int .i64 pol, kv] w fun e w' => ∃ r : Int, e = .returned (.int .i64 r) ∧ Below w.heap.size w w' ∧ ((r = -1 ∧ ∀ c ∈ L, ¬ (c.pol = pol ∧ c.key = key)) ∨ ∃ (i : Nat) (hi : i < L.length), r = i ∧ L[i].pol = pol ∧ L[i].key = key) := by
  obtain ⟨xs, a, c, rfl, rfl, h5, h6, h7, h8, h9⟩ := h.parts
  have hfew := h9.few
  rw [List.length_map] at hfew
  have Hc := Lib.hid h7; have Hok := Lib.hid h8; have Hk := Lib.hid hk
  clear h h7 h8 h9 hk
  obtain ⟨ka, kc, rfl⟩ : ∃ a c, kv = .slice a key.length c := by obtain ⟨_, _, a, c, e, _⟩ := Hk.out; exact ⟨a, c, e⟩
  go_enter Tryz.func10, Tryz.ntmps10
  go_wp2
  go_loopw [11] (fun i wr => ∃ k : Nat, i = .int .i64 k ∧ k ≤ xs.length ∧ (∀ j (h : j < k) (h' : j < xs.length), ¬ (xs[j].c.pol = pol ∧ xs[j].c.key = key)) ∧ Below w.heap.size w wr) (fun i _ => xs.length - (intOf i).toNat)
  case atStart => exact ⟨0, rfl, Nat.zero_le _, fun j h => absurd h (by omega), Below.refl _ _⟩
  case round =>
    obtain ⟨k, rfl, hkk, hno, hbel⟩ := hrel
    have Hbel := Lib.hid hbel; have Hno := Lib.hid hno
    clear hbel hno
    by_cases hA : k < xs.length
    · obtain ⟨b, off, rfl, hcl⟩ := Hc.out (by omega)
      obtain ⟨x0, x1, x2, x3⟩ := cell_at (fun j u hu => cell_later Hbel.out (hcl j u hu)) k hA
      have hok := Hok.out xs[k] (List.getElem_mem hA)
      obtain ⟨⟨qa, qn, qc, e1⟩, qa', qn', qc', e2⟩ := hok.slices
      have KS : Hid (∀ W, Below w.heap.size w W → Calls Tryz.prog 28 #[.slice qa qn qc, .slice ka key.length kc] W fun e w' => e = .returned (.bool (decide (xs[k].c.key = key))) ∧ Below W.heap.size W w') := fun W hb => by
        rw [← e1]
        exact samebytes_any _ _ _ _ W (hok.1.keep (fr0 hb)).by (Hk.out.keep (fr0 hb)).by
      rw [e1] at x1
      rw [e2] at x3
      have Hat : Hid (xs[k].c.pol = pol → decide (xs[k].c.key = key) = true → ∃ (i : Nat) (hi : i < (xs.map CV.c).length), ((k : Nat) : Int) = i ∧ (xs.map CV.c)[i].pol = pol ∧ (xs.map CV.c)[i].key = key) := fun h1 h2 => ⟨k, by simpa using hA, rfl, by simpa using h1, by simpa using h2⟩
      have Hnx : Hid (¬ (xs[k].c.pol = pol ∧ xs[k].c.key = key) → ∀ j (h : j < k + 1) (h' : j < xs.length), ¬ (xs[j].c.pol = pol ∧ xs[j].c.key = key)) := fun h j hj hj' => by
        by_cases e : j = k
        · subst e; exact h
        · exact Hno.out j (by omega) hj'
      clear hcl e1 e2 hok
      generalize xs[k].c = cc at *
      obtain ⟨cp, ck, ct, ch⟩ := cc
      dsimp only at *
      have hw0 : w.heap.size ≤ wr.heap.size := Hbel.out.size
      have hb1 : Below w.heap.size w (wr.alloc (.cells #[.int .i64 cp, .slice qa qn qc, .int .i64 ct, .slice qa' qn' qc'] 45)) := Hbel.out.alloc hw0 _
      have Hb1 := Lib.hid hb1
      clear hb1
      by_cases hp : cp = pol
      · have hd : decide (cp = pol) = true := decide_eq_true hp
        have hpp := hp
        subst hp
        generalize hans : decide (ck = key) = ans at *
        have Hans := Lib.hid hans
        clear hans
        cases ans with
        | true =>
          have Hr := Lib.hid (Hat.out rfl rfl)
          go_wp2_with (go_at_call 28; (with_reducible refine (KS.out _ Hb1.out).mono ?_); rintro e w2 ⟨rfl, hb2⟩; have Hb2 := Lib.hid (Hb1.out.trans (hb2.mono Hb1.out.size)); clear hb2)
          exact bodyPost_ret (v := .int .i64 k) (by simp [results, Tryz.results10, go_sem]) rfl ⟨k, rfl, Hb2.out, .inr Hr.out⟩
        | false =>
          have Hr := Lib.hid (Hnx.out (fun h => by have := Hans.out; simp [h.2] at this))
          go_wp2_with (go_at_call 28; (with_reducible refine (KS.out _ Hb1.out).mono ?_); rintro e w2 ⟨rfl, hb2⟩; have Hb2 := Lib.hid (Hb1.out.trans (hb2.mono Hb1.out.size)); clear hb2)
          go_roundw
          case rel => exact ⟨k + 1, by go_num, by omega, Hr.out, Hb2.out⟩
          case measure => simp [intOf]; omega
      · have hd : decide (cp = pol) = false := decide_eq_false hp
        have Hr := Lib.hid (Hnx.out (fun h => hp h.1))
        go_wp2_with fail
        go_roundw
        case rel => exact ⟨k + 1, by go_num, by omega, Hr.out, Hb1.out⟩
        case measure => simp [intOf]; omega
    · obtain rfl : k = xs.length := by omega
      have Hr : Hid (∀ c ∈ xs.map CV.c, ¬ (c.pol = pol ∧ c.key = key)) := fun c hc => by
        obtain ⟨x, hx, rfl⟩ := List.mem_map.1 hc
        obtain ⟨j, hj, rfl⟩ := List.getElem_of_mem hx
        exact Hno.out j hj hj
      go_wp2
      exact bodyPost_ret (v := .int .i64 (-1)) (by simp [results, Tryz.results10, go_sem]) rfl ⟨-1, rfl, Hbel.out, .inl ⟨rfl, Hr.out⟩⟩
set_option maxHeartbeats 2000000 in
set_option maxRecDepth 100000 in
/-- Two lists with the same cells. -/
theorem same16_any (va vb : Value) (L : List Cell) (w : World) (ha : CellsAt w va L) (hb : CellsAt w vb L) :
    Calls Tryz.prog 12 #[va, vb] w fun e w' => e = .returned (.bool true) ∧ Below w.heap.size w w' := by
  obtain ⟨xs, a, c, e1, rfl, h5, h6, h7, h8, h9⟩ := ha.parts
  obtain ⟨ys, a', c', e2, rfl, g5, g6, g7, g8, g9⟩ := hb.parts
  have hlen : ys.length = xs.length := by have := congrArg List.length (e2.trans e1.symm); simpa using this
  have hpt : ∀ (k : Nat) (x y : CV), xs[k]? = some x → ys[k]? = some y → y.c = x.c := fun k x y h h' => by
    have e : (ys.map CV.c)[k]? = (xs.map CV.c)[k]? := by rw [e1, e2]
    simpa [h, h'] using e
  have hfew := h9.few
  rw [← e1, List.length_map] at hfew
  have Hpt := Lib.hid hpt; have Hlen := Lib.hid hlen
  rw [hlen] at g5 g7 ⊢
  have Hc := Lib.hid h7; have Hok := Lib.hid h8; have Gc := Lib.hid g7; have Gok := Lib.hid g8
  clear h7 h8 h9 g7 g8 g9 ha hb hpt e1 e2 hlen
  generalize hln : xs.length = ln at *
  have Hln := Lib.hid hln
  clear hln
  go_enter Tryz.func12, Tryz.ntmps12
  go_wp2
  go_loopw [13] (fun i wr => ∃ k : Nat, i = .int .i64 k ∧ k ≤ ln ∧ Below w.heap.size w wr) (fun i _ => ln - (intOf i).toNat)
  case atStart => exact ⟨0, rfl, Nat.zero_le _, Below.refl _ _⟩
  case round =>
    obtain ⟨k, rfl, hkk, hbel⟩ := hrel
    have Hbel := Lib.hid hbel
    clear hbel
    by_cases hA : k < ln
    · have hx : k < xs.length := by have := Hln.out; omega
      have hy : k < ys.length := by have := Hln.out; have := Hlen.out; omega
      obtain ⟨b, off, rfl, hcl⟩ := Hc.out (by omega)
      obtain ⟨b', off', rfl, gcl⟩ := Gc.out (by omega)
      have hok := Hok.out xs[k] (List.getElem_mem hx)
      have gok := Gok.out ys[k] (List.getElem_mem hy)
      obtain ⟨⟨qa, qn, qc, e1⟩, qa', qn', qc', e2⟩ := hok.slices
      obtain ⟨⟨pa, pn, pc, e3⟩, pa', pn', pc', e4⟩ := gok.slices
      have he := Hpt.out k xs[k] ys[k] (List.getElem?_eq_getElem hx) (List.getElem?_eq_getElem hy)
      have KB : Hid (∀ W, Below w.heap.size w W → Calls Tryz.prog 28 #[.slice qa qn qc, .slice pa pn pc] W fun e w' => e = .returned (.bool true) ∧ Below W.heap.size W w') := fun W hb => by
        rw [← e1, ← e3]
        have := samebytes_any _ _ _ _ W (hok.1.keep (fr0 hb)).by (gok.1.keep (fr0 hb)).by
        rwa [he, decide_eq_true rfl] at this
      have KI : Hid (∀ W, Below w.heap.size w W → Calls Tryz.prog 29 #[.slice qa' qn' qc', .slice pa' pn' pc'] W fun e w' => e = .returned (.bool true) ∧ Below W.heap.size W w') := fun W hb => by
        rw [← e2, ← e4]
        have := sameints_any _ _ _ _ W (hok.2.keep (fr0 hb)).ints (gok.2.keep (fr0 hb)).ints
        rwa [he, decide_eq_true rfl] at this
      have HX : Hid (∀ W, Below w.heap.size w W → W.cell? ⟨b, off + k * 4, none⟩ = some (.int .i64 xs[k].c.pol) ∧ W.cell? ⟨b, off + k * 4 + 1, none⟩ = some (.slice qa qn qc) ∧ W.cell? ⟨b, off + k * 4 + 2, none⟩ = some (.int .i64 xs[k].c.tat) ∧ W.cell? ⟨b, off + k * 4 + 3, none⟩ = some (.slice qa' qn' qc') ∧ W.cell? ⟨b', off' + k * 4, none⟩ = some (.int .i64 xs[k].c.pol) ∧ W.cell? ⟨b', off' + k * 4 + 1, none⟩ = some (.slice pa pn pc) ∧ W.cell? ⟨b', off' + k * 4 + 2, none⟩ = some (.int .i64 xs[k].c.tat) ∧ W.cell? ⟨b', off' + k * 4 + 3, none⟩ = some (.slice pa' pn' pc')) := fun W hb => by
        obtain ⟨x0, x1, x2, x3⟩ := cell_at (fun j u hu => cell_later hb (hcl j u hu)) k hx
        obtain ⟨y0, y1, y2, y3⟩ := cell_at (fun j u hu => cell_later hb (gcl j u hu)) k hy
        rw [he] at y0 y2
        rw [e1] at x1
        rw [e2] at x3
        rw [e3] at y1
        rw [e4] at y3
        exact ⟨x0, x1, x2, x3, y0, y1, y2, y3⟩
      clear hcl gcl e1 e2 e3 e4 hok gok he
      have d1 : decide (xs[k].c.pol = xs[k].c.pol) = true := decide_eq_true rfl
      generalize xs[k].c.pol = cp at *
      generalize xs[k].c.tat = ct at *
      have hw0 : w.heap.size ≤ wr.heap.size := Hbel.out.size
      obtain ⟨x0, x1, x2, x3, y0, y1, y2, y3⟩ := HX.out wr Hbel.out
      have HS : Hid (∀ W, Below w.heap.size w W → W.cell? ⟨b, off + k * 4, none⟩ = some (.int .i64 cp) ∧ W.cell? ⟨b, off + k * 4 + 1, none⟩ = some (.slice qa qn qc) ∧ W.cell? ⟨b, off + k * 4 + 2, none⟩ = some (.int .i64 ct) ∧ W.cell? ⟨b, off + k * 4 + 3, none⟩ = some (.slice qa' qn' qc') ∧ W.cell? ⟨b', off' + k * 4, none⟩ = some (.int .i64 cp) ∧ W.cell? ⟨b', off' + k * 4 + 1, none⟩ = some (.slice pa pn pc) ∧ W.cell? ⟨b', off' + k * 4 + 2, none⟩ = some (.int .i64 ct) ∧ W.cell? ⟨b', off' + k * 4 + 3, none⟩ = some (.slice pa' pn' pc')) := HX.out
      have hz0 : Below w.heap.size w wr := Hbel.out
      go_wp2
      go_region_held3 (fun w' => w'.cell? ⟨b, off + k * 4, none⟩ = some (.int .i64 cp) ∧ w'.cell? ⟨b, off + k * 4 + 1, none⟩ = some (.slice qa qn qc) ∧ w'.cell? ⟨b, off + k * 4 + 2, none⟩ = some (.int .i64 ct) ∧ w'.cell? ⟨b, off + k * 4 + 3, none⟩ = some (.slice qa' qn' qc') ∧ w'.cell? ⟨b', off' + k * 4, none⟩ = some (.int .i64 cp) ∧ w'.cell? ⟨b', off' + k * 4 + 1, none⟩ = some (.slice pa pn pc) ∧ w'.cell? ⟨b', off' + k * 4 + 2, none⟩ = some (.int .i64 ct) ∧ w'.cell? ⟨b', off' + k * 4 + 3, none⟩ = some (.slice pa' pn' pc')) (first | (refine HS.out _ ?_; (repeat (first | with_reducible assumption | with_reducible refine RowKit.Below.drew ?_)); done)) (first
        | (go_at_call 28; (with_reducible refine (KB.out _ (by (repeat (first | with_reducible assumption | with_reducible refine RowKit.Below.drew ?_)))).mono ?_); rintro e w2 ⟨rfl, hb2⟩; have hz2 : Below w.heap.size w w2 := below_then (by (repeat (first | with_reducible assumption | with_reducible refine RowKit.Below.drew ?_))) hb2; clear hb2)
        | (go_at_call 29; (with_reducible refine (KI.out _ (by (repeat (first | with_reducible assumption | with_reducible refine RowKit.Below.drew ?_)))).mono ?_); rintro e w2 ⟨rfl, hb2⟩; have hz2 : Below w.heap.size w w2 := below_then (by (repeat (first | with_reducible assumption | with_reducible refine RowKit.Below.drew ?_))) hb2; clear hb2))
      all_goals
        go_wp2
        go_roundw
        case rel => exact ⟨k + 1, by go_num, by omega, by assumption⟩
        case measure => simp [intOf]; omega
    · obtain rfl : k = ln := by omega
      go_wp2
      exact bodyPost_ret (v := .bool true) (by simp [results, Tryz.results12, go_sem]) rfl ⟨rfl, Hbel.out⟩
end Go.Proofs.YtemnhpdjoimjbaaGreat
end
