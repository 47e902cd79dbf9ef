/- The walk of GcraBounds, of no asks. PRINTED by gen_bounds.py. -/
import Derived.Test.YtdjiihcbaedmcaaGcraY
namespace Go.Proofs.Ytdjiihcbaedmcaa
open Go.RowKit
set_option linter.unusedVariables false

/-- Nothing is appended. -/
theorem wpList_append_zero {P : Program} (w : World) {ops : Array Oper} {rest : List Oper} {o : Oper} {a : Act} {Q : Exit → Act → World → Prop} (hgd : o.guard = none) (s x : Operand) (t : TypeId)
    (ho : o.op = .call { callee := .builtin .append, args := #[s, x], argTypes := #[t, t] })
    (base : Nat) (e : TypeId) (i : TypeInfo) (z : Value) (size bytes : Nat) (ht : P.underlying t = some (.slice e)) (hi : P.info? e = some i) (hz : i.zero = some z)
    (hsize : i.size = size) (hby : i.bytes = bytes) (hzs : z.cells.size = size) (hsz : 0 < size)
    (v : Value) (hs : a.eval s = v) (hown : w.ownsRow base e size v 0 [])
    (A : Option Addr) (c : Nat) (hx : a.eval x = .slice A 0 c) (hbase : base ≤ w.heap.size)
    (h : ∀ v' w', w'.ownsRow base e size v' 0 [] → w.grownBy w' v.ownBlock → wpList P ops Q rest (a.put o.dst v') w') : wpList P ops Q (o :: rest) a w := by
  cases A with
  | none =>
    refine wpList_plain hgd fun K hK => ?_
    have hrun : (Builtin.append_ #[t, t] o.type #[v, .slice none 0 c]).run P w = .ok v w := by
      rcases hown.2 with ⟨rfl, _⟩ | ⟨g, cap, cur, rfl, _, _, hnc, _⟩
      · simp [Builtin.append_, run_underlying ht, sizeOf, typeInfo, hi, Builtin.lenOf, Builtin.firstCells]
      · simp [Builtin.append_, run_underlying ht, sizeOf, typeInfo, hi, Builtin.lenOf, Builtin.firstCells, hnc, storeCells]
    unfold Oper.wp
    simp [execOp, ho, resolve, invoke, builtin, hs, hx, hrun, Result.andThen]
    exact hK _ _ (h v w hown (World.grownBy.refl w _))
  | some ad =>
    exact wpList_append_own w hgd s x t ho base e i z size bytes ht hi hz hsize hby hzs hsz v 0 [] hs hown ad 0 c [] hx (by simp) (by simp) (by simp) (by unfold maxLen; omega) (by omega) hbase
      fun v' w' h2 h3 _ => h v' w' (by simpa using h2) h3

set_option maxHeartbeats 4000000 in
set_option maxRecDepth 100000 in
theorem bounds_sZ (T0 tau0 tat0 from0 to0 T tau tat fr to : Int) (w : World) (c : Nat) (AA : Option Addr) (hc : c ≤ maxLen) (hsw : to < fr)
    (kc : ∀ w, Calls Try.prog 37 #[limV T0 tau0, .int .i64 tat0, .int .i64 from0, .int .i64 to0] w (fun e w' => e = .returned (.tuple #[limV T tau, .int .i64 tat, .int .i64 fr, .int .i64 to]) ∧ Below w.heap.size w w'))
    (hlim : limB T tau = true) (htat : tickB tat = true) (hfr : tickB fr = true) (hto : tickB to = true) :
    Calls Try.prog 16 #[limV T0 tau0, .int .i64 tat0, .slice AA 0 c, .int .i64 from0, .int .i64 to0] w fun e w' => e = .returned (.bool true) ∧ Below w.heap.size w w' := by
  unfold maxLen at hc
  unfold limV at *
  have Kc := Lib.hid kc
  clear kc
  obtain ⟨i0, hi, hz0, hz1', hz2'⟩ := info_parts info_rask
  have Hi := Lib.hid hi; have Hz0 := Lib.hid hz0; have Hz1 := Lib.hid hz1'; have Hz2 := Lib.hid hz2'
  clear hi hz0 hz1' hz2'
  have Hlim := Lib.hid hlim; have Htat := Lib.hid htat; have Hfr := Lib.hid hfr; have Hto := Lib.hid hto
  clear hlim htat hfr hto
  go_enter Try.func16, Try.ntmps16
  go_wp2_with fail
  refine (awake5 _).mono ?_
  rintro e w1 ⟨rfl, hb⟩
  obtain ⟨hc1, hf1⟩ := bcell hb
  have hz1 : w.heap.size < w1.heap.size := by have := hb.size; simp at this; omega
  have Hb := Lib.hid (below_past hb)
  clear hb
  go_wp2_with fail
  refine (Kc.out _).mono ?_
  rintro e w2 ⟨rfl, hb2⟩
  obtain ⟨hc2, hf2⟩ := bcell hb2
  have hz2 : w1.heap.size ≤ w2.heap.size := hb2.size
  have Hb2 : Hid (Below w.heap.size w w2) := Hb.out.trans (hb2.mono (by omega))
  clear hb2
  have hq0 : w2.cell? ⟨w.heap.size, 0, none⟩ = some (.int .i64 T0) := by rw [hc2 _ _ hz1, hc1 _ _ (by simp)]; simp [go_sem]
  have hq1 : w2.cell? ⟨w.heap.size, 1, none⟩ = some (.int .i64 tau0) := by rw [hc2 _ _ hz1, hc1 _ _ (by simp)]; simp [go_sem]
  obtain ⟨w3, hw3⟩ : ∃ w3 : World, w3 = (((w2.setCell { block := w.heap.size, off := 0 } (Value.int IntKind.i64 T)).setCell { block := w.heap.size, off := 1 } (Value.int IntKind.i64 tau)).alloc (Obj.cells #[] 79)) := ⟨_, rfl⟩
  have Hb3 : Hid (Below w.heap.size w w3) := by
    subst hw3
    exact Lib.hid (((Hb2.out.setCell (p := ⟨w.heap.size, 0, none⟩) (Nat.le_refl _) _).setCell (p := ⟨w.heap.size, 1, none⟩) (Nat.le_refl _) _).alloc (by simp; omega) _)
  have Hown3 : Hid (w3.ownsRow w2.heap.size 79 2 (.slice (some ⟨w2.heap.size, 0, none⟩) 0 0) 0 []) := by
    subst hw3
    exact Lib.hid (own_new (by decide) (by simp))
  have Hl3 : Hid (w3.cell? ⟨w.heap.size, 0, none⟩ = some (.int .i64 T) ∧ w3.cell? ⟨w.heap.size, 1, none⟩ = some (.int .i64 tau)) := by
    subst hw3
    refine Lib.hid ⟨?_, ?_⟩
    · rw [World.cell?_alloc_lt _ _ _ (by simp; omega), World.cell?_setCell_other _ _ _ _ (by simp)]
      exact World.cell?_setCell_same _ _ _ hq0
    · rw [World.cell?_alloc_lt _ _ _ (by simp; omega)]
      exact World.cell?_setCell_same _ _ _ ((World.cell?_setCell_other _ _ _ _ (by simp)).trans hq1)
  clear hq0 hq1
  subst hw3
  go_wp2_with (at_builtin; refine wpList_append_zero _ rfl _ _ 67 rfl w2.heap.size 79 i0 (.agg #[.int .i64 0, .int .i64 0]) 2 16 Try.underlying67 Hi.out Hz0.out Hz1.out Hz2.out rfl (by decide) _ rfl Hown3.out AA c rfl ?_ ?_)
  · simp
  · intro v4 w4 hown4 hgrow4
    have Hb4 : Hid (Below w.heap.size w w4) := Lib.hid (Hb3.out.grown hgrow4 (by simp; omega) (fun q hq => by simp [Value.ownBlock] at hq; omega))
    have hl4a : w4.cell? ⟨w.heap.size, 0, none⟩ = some (.int .i64 T) := hgrow4.cell Hl3.out.1 (by simp [Value.ownBlock]; omega)
    have hl4b : w4.cell? ⟨w.heap.size, 1, none⟩ = some (.int .i64 tau) := hgrow4.cell Hl3.out.2 (by simp [Value.ownBlock]; omega)
    clear hgrow4 hc1 hf1 hc2 hf2
    obtain ⟨a4, c4, rfl, hn4, hm4, -⟩ := own_shape hown4
    have hz4 := Hb4.out.size
    have Hask7 : Hid (AskAt w4 (.slice a4 0 c4) []) := Lib.hid ⟨a4, c4, rfl, Nat.zero_le _, hm4, fun h => by cases h⟩
    have hlast : True := trivial
    have hz40 : w.heap.size < w4.heap.size := World.block_lt_of_cell? _ _ hl4a
    clear hown4
    go_wp2
    go_loopw [11, 12, 50] (fun last _ i wr => i = .int .i64 0 ∧ last = .int .i64 0 ∧ wr = w4) (fun _ _ _ _ => 0)
    case atStart => exact ⟨rfl, rfl, rfl⟩
    case round =>
      obtain ⟨rfl, rfl, rfl⟩ := hrel
      go_wp2_with fail
      refine (asks_any _ [] _ Hask7.out (by decide)).mono ?_
      rintro e w5 ⟨v5, rfl, hown5, hb5⟩
      simp only [List.nil_append, List.length_nil, Nat.zero_add] at hown5
      have hz6 := hb5.size
      have Hbel7 : Hid (Below w.heap.size w w5) := Lib.hid (Hb4.out.trans (hb5.mono (by omega)))
      obtain ⟨a5, c5, rfl, hn5, hm5, hr5⟩ := own_shape hown5
      obtain ⟨g5, rfl, ho5⟩ := hr5 (by omega)
      have hl5a := cell_later hb5 hl4a
      have hl5b := cell_later hb5 hl4b
      have Hl5 := Lib.hid (And.intro hl5a hl5b)
      have hlt5 := (hown5.lt g5 rfl).2
      clear hown5 hb5 hr5 hl4a hl4b
      have hok : okRun T tau tat [] = true := by
        unfold okRun
        rw [Hlim.out, Htat.out]
        rfl
      have K1 := Lib.hid (fun u W (h : AskAt W u []) => run_yes T tau tat u [] W h hok (by decide))
      unfold limV at K1
      have hi1 : (0 : Int) ≤ (c5 : Int) := by omega
      have Hask2 : Hid (AskAt w5.drew (.slice (some ⟨g5, 0, none⟩) 0 c5) []) := Lib.hid ⟨_, c5, rfl, Nat.zero_le _, hm5, fun h => by cases h⟩
      clear hok
      go_wp2_with fail
      go_region_held3 (fun w' => w'.cell? ⟨w.heap.size, 0, none⟩ = some (.int .i64 T) ∧ w'.cell? ⟨w.heap.size, 1, none⟩ = some (.int .i64 tau)) (first | exact Hl5.out | exact Hl6.out) (first | (go_at_call 46; (with_reducible refine (K1.out _ _ (Hask2.out)).mono ?_); rintro e w6 ⟨v6, rfl, hown6, hb6⟩; have Hl6 := Lib.hid (And.intro (cell_later hb6 Hl5.out.1) (cell_later hb6 Hl5.out.2)); have Hown6 := Lib.hid hown6; have Hb6 := Lib.hid hb6; clear hown6 hb6))
      have hown6 := Hown6.out
      simp only [List.length_nil] at hown6
      obtain ⟨a6, c6, rfl, hn6, hm6, -⟩ := own_shape hown6
      clear hown6
      have hz7 : w5.heap.size ≤ w6.heap.size := Hb6.out.size
      have Hbel8 : Hid (Below w.heap.size w w6) := Lib.hid (Hbel7.out.trans ((Below.trans (Below.refl _ w5).drew Hb6.out).mono (show w.heap.size ≤ w5.heap.size by omega)))
      have hl6a := Hl6.out.1
      have hl6b := Hl6.out.2
      clear hl5a hl5b
      have hft := tickB_yes Hfr.out
      have htt := tickB_yes Hto.out
      have hspan : tickB (fr - to) = true := tickB_mk (by omega) (by omega)
      have Kw := Lib.hid (fun v => within_yes T tau (fr - to) v Hlim.out hspan)
      have Ko := Lib.hid (fun v => once_of T tau _ _ v (fun v => within_yes T tau 0 v Hlim.out (by decide)))
      unfold limV at Kw Ko
      go_wp2_with fail
      refine (Kw.out _).mono ?_
      rintro e w7 ⟨rfl, hb7⟩
      have hz8 : w6.heap.size ≤ w7.heap.size := hb7.size
      have Hb8 := Lib.hid hb7
      have hl7a := cell_later hb7 hl6a
      have hl7b := cell_later hb7 hl6b
      clear hb7 hl6a hl6b
      go_wp2_with fail
      refine (Ko.out _).mono ?_
      rintro e w8 ⟨rfl, hb9⟩
      have hz9 : w7.heap.size ≤ w8.heap.size := hb9.size
      have Hbel9 : Hid (Below w.heap.size w w8) := Lib.hid (Hbel8.out.trans ((Hb8.out.trans (hb9.mono hz8)).mono (by omega)))
      clear hb9 hl7a hl7b
      go_wp2
      go_loopw [20, 21, 127] (fun _ _ i wr => i = .int .i64 0 ∧ wr = w8) (fun _ _ _ _ => 0)
      case atStart => exact ⟨rfl, rfl⟩
      case round =>
        obtain ⟨rfl, rfl⟩ := hrel
        go_wp2
        go_ret
        exact ⟨rfl, Hbel9.out⟩

set_option maxHeartbeats 4000000 in
set_option maxRecDepth 100000 in
theorem bounds_nZ (T0 tau0 tat0 from0 to0 T tau tat fr to : Int) (w : World) (c : Nat) (AA : Option Addr) (hc : c ≤ maxLen) (hsw : fr ≤ to)
    (kc : ∀ w, Calls Try.prog 37 #[limV T0 tau0, .int .i64 tat0, .int .i64 from0, .int .i64 to0] w (fun e w' => e = .returned (.tuple #[limV T tau, .int .i64 tat, .int .i64 fr, .int .i64 to]) ∧ Below w.heap.size w w'))
    (hlim : limB T tau = true) (htat : tickB tat = true) (hfr : tickB fr = true) (hto : tickB to = true) :
    Calls Try.prog 16 #[limV T0 tau0, .int .i64 tat0, .slice AA 0 c, .int .i64 from0, .int .i64 to0] w fun e w' => e = .returned (.bool true) ∧ Below w.heap.size w w' := by
  unfold maxLen at hc
  unfold limV at *
  have Kc := Lib.hid kc
  clear kc
  obtain ⟨i0, hi, hz0, hz1', hz2'⟩ := info_parts info_rask
  have Hi := Lib.hid hi; have Hz0 := Lib.hid hz0; have Hz1 := Lib.hid hz1'; have Hz2 := Lib.hid hz2'
  clear hi hz0 hz1' hz2'
  have Hlim := Lib.hid hlim; have Htat := Lib.hid htat; have Hfr := Lib.hid hfr; have Hto := Lib.hid hto
  clear hlim htat hfr hto
  go_enter Try.func16, Try.ntmps16
  go_wp2_with fail
  refine (awake5 _).mono ?_
  rintro e w1 ⟨rfl, hb⟩
  obtain ⟨hc1, hf1⟩ := bcell hb
  have hz1 : w.heap.size < w1.heap.size := by have := hb.size; simp at this; omega
  have Hb := Lib.hid (below_past hb)
  clear hb
  go_wp2_with fail
  refine (Kc.out _).mono ?_
  rintro e w2 ⟨rfl, hb2⟩
  obtain ⟨hc2, hf2⟩ := bcell hb2
  have hz2 : w1.heap.size ≤ w2.heap.size := hb2.size
  have Hb2 : Hid (Below w.heap.size w w2) := Hb.out.trans (hb2.mono (by omega))
  clear hb2
  have hq0 : w2.cell? ⟨w.heap.size, 0, none⟩ = some (.int .i64 T0) := by rw [hc2 _ _ hz1, hc1 _ _ (by simp)]; simp [go_sem]
  have hq1 : w2.cell? ⟨w.heap.size, 1, none⟩ = some (.int .i64 tau0) := by rw [hc2 _ _ hz1, hc1 _ _ (by simp)]; simp [go_sem]
  obtain ⟨w3, hw3⟩ : ∃ w3 : World, w3 = (((w2.setCell { block := w.heap.size, off := 0 } (Value.int IntKind.i64 T)).setCell { block := w.heap.size, off := 1 } (Value.int IntKind.i64 tau)).alloc (Obj.cells #[] 79)) := ⟨_, rfl⟩
  have Hb3 : Hid (Below w.heap.size w w3) := by
    subst hw3
    exact Lib.hid (((Hb2.out.setCell (p := ⟨w.heap.size, 0, none⟩) (Nat.le_refl _) _).setCell (p := ⟨w.heap.size, 1, none⟩) (Nat.le_refl _) _).alloc (by simp; omega) _)
  have Hown3 : Hid (w3.ownsRow w2.heap.size 79 2 (.slice (some ⟨w2.heap.size, 0, none⟩) 0 0) 0 []) := by
    subst hw3
    exact Lib.hid (own_new (by decide) (by simp))
  have Hl3 : Hid (w3.cell? ⟨w.heap.size, 0, none⟩ = some (.int .i64 T) ∧ w3.cell? ⟨w.heap.size, 1, none⟩ = some (.int .i64 tau)) := by
    subst hw3
    refine Lib.hid ⟨?_, ?_⟩
    · rw [World.cell?_alloc_lt _ _ _ (by simp; omega), World.cell?_setCell_other _ _ _ _ (by simp)]
      exact World.cell?_setCell_same _ _ _ hq0
    · rw [World.cell?_alloc_lt _ _ _ (by simp; omega)]
      exact World.cell?_setCell_same _ _ _ ((World.cell?_setCell_other _ _ _ _ (by simp)).trans hq1)
  clear hq0 hq1
  subst hw3
  go_wp2_with (at_builtin; refine wpList_append_zero _ rfl _ _ 67 rfl w2.heap.size 79 i0 (.agg #[.int .i64 0, .int .i64 0]) 2 16 Try.underlying67 Hi.out Hz0.out Hz1.out Hz2.out rfl (by decide) _ rfl Hown3.out AA c rfl ?_ ?_)
  · simp
  · intro v4 w4 hown4 hgrow4
    have Hb4 : Hid (Below w.heap.size w w4) := Lib.hid (Hb3.out.grown hgrow4 (by simp; omega) (fun q hq => by simp [Value.ownBlock] at hq; omega))
    have hl4a : w4.cell? ⟨w.heap.size, 0, none⟩ = some (.int .i64 T) := hgrow4.cell Hl3.out.1 (by simp [Value.ownBlock]; omega)
    have hl4b : w4.cell? ⟨w.heap.size, 1, none⟩ = some (.int .i64 tau) := hgrow4.cell Hl3.out.2 (by simp [Value.ownBlock]; omega)
    clear hgrow4 hc1 hf1 hc2 hf2
    obtain ⟨a4, c4, rfl, hn4, hm4, -⟩ := own_shape hown4
    have hz4 := Hb4.out.size
    have Hask7 : Hid (AskAt w4 (.slice a4 0 c4) []) := Lib.hid ⟨a4, c4, rfl, Nat.zero_le _, hm4, fun h => by cases h⟩
    have hlast : True := trivial
    have hz40 : w.heap.size < w4.heap.size := World.block_lt_of_cell? _ _ hl4a
    clear hown4
    go_wp2
    go_loopw [11, 12, 50] (fun last _ i wr => i = .int .i64 0 ∧ last = .int .i64 0 ∧ wr = w4) (fun _ _ _ _ => 0)
    case atStart => exact ⟨rfl, rfl, rfl⟩
    case round =>
      obtain ⟨rfl, rfl, rfl⟩ := hrel
      go_wp2_with fail
      refine (asks_any _ [] _ Hask7.out (by decide)).mono ?_
      rintro e w5 ⟨v5, rfl, hown5, hb5⟩
      simp only [List.nil_append, List.length_nil, Nat.zero_add] at hown5
      have hz6 := hb5.size
      have Hbel7 : Hid (Below w.heap.size w w5) := Lib.hid (Hb4.out.trans (hb5.mono (by omega)))
      obtain ⟨a5, c5, rfl, hn5, hm5, hr5⟩ := own_shape hown5
      obtain ⟨g5, rfl, ho5⟩ := hr5 (by omega)
      have hl5a := cell_later hb5 hl4a
      have hl5b := cell_later hb5 hl4b
      have Hl5 := Lib.hid (And.intro hl5a hl5b)
      have hlt5 := (hown5.lt g5 rfl).2
      clear hown5 hb5 hr5 hl4a hl4b
      have hok : okRun T tau tat [] = true := by
        unfold okRun
        rw [Hlim.out, Htat.out]
        rfl
      have K1 := Lib.hid (fun u W (h : AskAt W u []) => run_yes T tau tat u [] W h hok (by decide))
      unfold limV at K1
      have hi1 : (0 : Int) ≤ (c5 : Int) := by omega
      have Hask2 : Hid (AskAt w5.drew (.slice (some ⟨g5, 0, none⟩) 0 c5) []) := Lib.hid ⟨_, c5, rfl, Nat.zero_le _, hm5, fun h => by cases h⟩
      clear hok
      go_wp2_with fail
      go_region_held3 (fun w' => w'.cell? ⟨w.heap.size, 0, none⟩ = some (.int .i64 T) ∧ w'.cell? ⟨w.heap.size, 1, none⟩ = some (.int .i64 tau)) (first | exact Hl5.out | exact Hl6.out) (first | (go_at_call 46; (with_reducible refine (K1.out _ _ (Hask2.out)).mono ?_); rintro e w6 ⟨v6, rfl, hown6, hb6⟩; have Hl6 := Lib.hid (And.intro (cell_later hb6 Hl5.out.1) (cell_later hb6 Hl5.out.2)); have Hown6 := Lib.hid hown6; have Hb6 := Lib.hid hb6; clear hown6 hb6))
      have hown6 := Hown6.out
      simp only [List.length_nil] at hown6
      obtain ⟨a6, c6, rfl, hn6, hm6, -⟩ := own_shape hown6
      clear hown6
      have hz7 : w5.heap.size ≤ w6.heap.size := Hb6.out.size
      have Hbel8 : Hid (Below w.heap.size w w6) := Lib.hid (Hbel7.out.trans ((Below.trans (Below.refl _ w5).drew Hb6.out).mono (show w.heap.size ≤ w5.heap.size by omega)))
      have hl6a := Hl6.out.1
      have hl6b := Hl6.out.2
      clear hl5a hl5b
      have hft := tickB_yes Hfr.out
      have htt := tickB_yes Hto.out
      have hspan : tickB (to - fr) = true := tickB_mk (by omega) (by omega)
      have Kw := Lib.hid (fun v => within_yes T tau (to - fr) v Hlim.out hspan)
      have Ko := Lib.hid (fun v => once_of T tau _ _ v (fun v => within_yes T tau 0 v Hlim.out (by decide)))
      unfold limV at Kw Ko
      go_wp2_with fail
      refine (Kw.out _).mono ?_
      rintro e w7 ⟨rfl, hb7⟩
      have hz8 : w6.heap.size ≤ w7.heap.size := hb7.size
      have Hb8 := Lib.hid hb7
      have hl7a := cell_later hb7 hl6a
      have hl7b := cell_later hb7 hl6b
      clear hb7 hl6a hl6b
      go_wp2_with fail
      refine (Ko.out _).mono ?_
      rintro e w8 ⟨rfl, hb9⟩
      have hz9 : w7.heap.size ≤ w8.heap.size := hb9.size
      have Hbel9 : Hid (Below w.heap.size w w8) := Lib.hid (Hbel8.out.trans ((Hb8.out.trans (hb9.mono hz8)).mono (by omega)))
      clear hb9 hl7a hl7b
      go_wp2
      go_loopw [20, 21, 127] (fun _ _ i wr => i = .int .i64 0 ∧ wr = w8) (fun _ _ _ _ => 0)
      case atStart => exact ⟨rfl, rfl⟩
      case round =>
        obtain ⟨rfl, rfl⟩ := hrel
        go_wp2
        go_ret
        exact ⟨rfl, Hbel9.out⟩

end Go.Proofs.Ytdjiihcbaedmcaa
