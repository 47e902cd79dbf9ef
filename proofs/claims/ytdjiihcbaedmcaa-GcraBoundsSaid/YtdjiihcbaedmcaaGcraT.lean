/- The contract of the document's Run. -/
import Derived.Test.YtdjiihcbaedmcaaGcraS
import Derived.Test.YtdjiihcbaedmcaaGcraN
import Derived.Test.YtdjiihcbaedmcaaGcraI
namespace Go.Proofs.Ytdjiihcbaedmcaa
open Go.RowKit

/-- What the document's first loop keeps. -/
def DocRel (w : World) (T tau tat : Int) (L : List (Int × Int)) (k : Nat) (wr : World) : Prop :=
  (limB T tau && tickB tat && (L.take k).all okA) = true ∧ wr.cell? ⟨w.heap.size, 0, none⟩ = some (.int .i64 T) ∧ wr.cell? ⟨w.heap.size, 1, none⟩ = some (.int .i64 tau) ∧ w.heap.size < wr.heap.size ∧ Below w.heap.size w wr

def DocYes (w : World) (T tau tat : Int) (L : List (Int × Int)) (e : Ending) (w' : World) : Prop := ∃ v, e = .returned (.tuple #[v, .int .i64 0]) ∧ w'.ownsRow (w.heap.size + 1) 44 4 v L.length (runC T tau tat L) ∧ Below w.heap.size w w'

def DocMake (w : World) (T tau tat : Int) (L : List (Int × Int)) (k : Nat) (l : Value) (wr : World) : Prop :=
  wr.ownsRow (w.heap.size + 1) 44 4 l k (runC T tau tat (L.take k)) ∧ wr.cell? ⟨w.heap.size, 0, none⟩ = some (.int .i64 T) ∧ wr.cell? ⟨w.heap.size, 1, none⟩ = some (.int .i64 tau) ∧ w.heap.size < wr.heap.size ∧ Below w.heap.size w wr

theorem info_docans : (Try.prog.info? 44).map (fun i => (i.zero, i.size, i.bytes)) = some (some (.agg #[.bool false, .int .i64 0, .int .i64 0, .int .i64 0]), 4, 32) := by kernel_rfl

set_option maxHeartbeats 4000000 in
set_option maxRecDepth 100000 in
theorem doc_bad (T tau tat : Int) (v : Value) (L : List (Int × Int)) (w : World) (h : AskAt w v L) (hok : okRun T tau tat L = false) :
    Calls Try.prog 47 #[limV T tau, .int .i64 tat, v] w (RunNo w 1) := by
  obtain ⟨a, c, rfl, hl, hc, hr⟩ := h
  unfold maxLen at hc
  have Hr := Lib.hid hr
  clear hr
  have Hk1 := Lib.hid (fun x y v => right_any T tau tat x y v)
  have Hok := Lib.hid hok
  clear hok
  unfold limV at *
  go_enter Try.func47, Try.ntmps47
  go_wp2_with fail
  refine (Hk1.out 0 0 _).mono ?_
  rintro e w1 ⟨rfl, hb⟩
  have hz1 : w.heap.size < w1.heap.size := by have := hb.size; simp at this; omega
  have hr0 : Hid (rightB T tau tat 0 0 = (limB T tau && tickB tat)) := by
    refine Lib.hid ?_
    have h0 : tickB 0 = true := by decide
    simp [rightB, h0]
  have Hc0 := Lib.hid (cell_later hb (a := ⟨w.heap.size, 0, none⟩) (v := .int .i64 T) (by simp [go_sem]))
  have Hc1 := Lib.hid (cell_later hb (a := ⟨w.heap.size, 1, none⟩) (v := .int .i64 tau) (by simp [go_sem]))
  have Hb1 := Lib.hid (below_past hb)
  clear hb
  rw [hr0.out]
  cases hlt : limB T tau && tickB tat with
  | false =>
    go_wp2
    go_ret2
    exact ⟨rfl, Hb1.out⟩
  | true =>
    go_wp2
    have Hst : Hid (DocRel w T tau tat L 0 w1) := Lib.hid ⟨by simp [hlt], Hc0.out, Hc1.out, hz1, Hb1.out⟩
    go_loopw [9, 20] (fun _ i wr => ∃ k : Nat, i = .int .i64 k ∧ k ≤ L.length ∧ DocRel w T tau tat L k wr) (fun _ i _ => L.length - (intOf i).toNat)
    case atStart => exact ⟨0, rfl, Nat.zero_le _, Hst.out⟩
    case round =>
      obtain ⟨k, rfl, hk, hb, hc0, hc1, hz, hbel⟩ := hrel
      have Hb := Lib.hid hb; have Hbel := Lib.hid hbel
      clear hb hbel Hst Hc0 Hc1
      by_cases hA : k < L.length
      · obtain ⟨bb, off, rfl, hcell⟩ := Hr.out (by omega)
        have hx0 := cell_later Hbel.out (hcell k hA).1
        have hx1 := cell_later Hbel.out (hcell k hA).2
        have hltb := World.block_lt_of_cell? _ _ hx0
        clear hcell
        have Hst := Lib.hid (ok_take hA)
        have Hdone : Hid (okA (L.getD k (0, 0)) = false → okRun T tau tat L = false) := Lib.hid fun hh => by
          unfold okRun
          cases hall : L.all okA with
          | false => simp
          | true => rw [ok_at hall hA] at hh; cases hh
        generalize hp : L.getD k (0, 0) = p at *
        clear hp
        obtain ⟨x, y⟩ := p
        have Hrr : Hid (rightB T tau tat x y = okA (x, y)) := Lib.hid (by
          unfold rightB okA
          rw [hlt]
          simp)
        go_wp2_with fail
        refine (Hk1.out x y _).mono ?_
        rintro e w2 ⟨rfl, hb2⟩
        rw [Hrr.out]
        have hb3 := below_past hb2
        have hz2 : w.heap.size < w2.heap.size := Nat.lt_of_lt_of_le hz hb3.size
        cases hok1 : okA (x, y) with
        | false =>
          have Hbx := Lib.hid (Hbel.out.trans (hb3.mono Hbel.out.size))
          clear hb2 hb3
          go_wp2
          go_ret2
          exact ⟨rfl, Hbx.out⟩
        | true =>
          have Hnew : Hid (DocRel w T tau tat L (k + 1) w2) := by
            refine Lib.hid ⟨?_, cell_later hb3 hc0, cell_later hb3 hc1, hz2, Hbel.out.trans (hb3.mono Hbel.out.size)⟩
            rw [Hst.out, ← Bool.and_assoc, Hb.out, hok1]
            rfl
          clear hb2 hb3
          go_wp2
          go_roundw
          case rel => exact ⟨k + 1, by go_num, by omega, Hnew.out⟩
          case measure => simp [intOf]; omega
      · obtain rfl : k = L.length := by omega
        have hall := Hb.out
        rw [List.take_length] at hall
        exfalso
        have hh := Hok.out
        unfold okRun at hh
        rw [hall] at hh
        cases hh

set_option maxHeartbeats 4000000 in
set_option maxRecDepth 100000 in
theorem doc_long (T tau tat : Int) (v : Value) (L : List (Int × Int)) (w : World) (h : AskAt w v L) (hok : okRun T tau tat L = true) (hlen : 4096 < L.length) :
    Calls Try.prog 47 #[limV T tau, .int .i64 tat, v] w (RunNo w 2) := by
  obtain ⟨a, c, rfl, hl, hc, hr⟩ := h
  unfold maxLen at hc
  have Hr := Lib.hid hr
  clear hr
  have Hk1 := Lib.hid (fun x y v => right_any T tau tat x y v)
  have Hok := Lib.hid hok
  clear hok
  unfold limV at *
  go_enter Try.func47, Try.ntmps47
  go_wp2_with fail
  refine (Hk1.out 0 0 _).mono ?_
  rintro e w1 ⟨rfl, hb⟩
  have hz1 : w.heap.size < w1.heap.size := by have := hb.size; simp at this; omega
  have hr0 : Hid (rightB T tau tat 0 0 = (limB T tau && tickB tat)) := by
    refine Lib.hid ?_
    have h0 : tickB 0 = true := by decide
    simp [rightB, h0]
  have Hc0 := Lib.hid (cell_later hb (a := ⟨w.heap.size, 0, none⟩) (v := .int .i64 T) (by simp [go_sem]))
  have Hc1 := Lib.hid (cell_later hb (a := ⟨w.heap.size, 1, none⟩) (v := .int .i64 tau) (by simp [go_sem]))
  have Hb1 := Lib.hid (below_past hb)
  clear hb
  rw [hr0.out]
  cases hlt : limB T tau && tickB tat with
  | false =>
    exfalso
    have hh := Hok.out
    unfold okRun at hh
    rw [hlt] at hh
    cases hh
  | true =>
    go_wp2
    have Hst : Hid (DocRel w T tau tat L 0 w1) := Lib.hid ⟨by simp [hlt], Hc0.out, Hc1.out, hz1, Hb1.out⟩
    go_loopw [9, 20] (fun _ i wr => ∃ k : Nat, i = .int .i64 k ∧ k ≤ L.length ∧ DocRel w T tau tat L k wr) (fun _ i _ => L.length - (intOf i).toNat)
    case atStart => exact ⟨0, rfl, Nat.zero_le _, Hst.out⟩
    case round =>
      obtain ⟨k, rfl, hk, hb, hc0, hc1, hz, hbel⟩ := hrel
      have Hb := Lib.hid hb; have Hbel := Lib.hid hbel
      clear hb hbel Hst Hc0 Hc1
      by_cases hA : k < L.length
      · obtain ⟨bb, off, rfl, hcell⟩ := Hr.out (by omega)
        have hx0 := cell_later Hbel.out (hcell k hA).1
        have hx1 := cell_later Hbel.out (hcell k hA).2
        have hltb := World.block_lt_of_cell? _ _ hx0
        clear hcell
        have Hst := Lib.hid (ok_take hA)
        have Hdone : Hid (okA (L.getD k (0, 0)) = false → okRun T tau tat L = false) := Lib.hid fun hh => by
          unfold okRun
          cases hall : L.all okA with
          | false => simp
          | true => rw [ok_at hall hA] at hh; cases hh
        generalize hp : L.getD k (0, 0) = p at *
        clear hp
        obtain ⟨x, y⟩ := p
        have Hrr : Hid (rightB T tau tat x y = okA (x, y)) := Lib.hid (by
          unfold rightB okA
          rw [hlt]
          simp)
        go_wp2_with fail
        refine (Hk1.out x y _).mono ?_
        rintro e w2 ⟨rfl, hb2⟩
        rw [Hrr.out]
        have hb3 := below_past hb2
        have hz2 : w.heap.size < w2.heap.size := Nat.lt_of_lt_of_le hz hb3.size
        cases hok1 : okA (x, y) with
        | false =>
          have Hbx := Lib.hid (Hbel.out.trans (hb3.mono Hbel.out.size))
          clear hb2 hb3
          exfalso
          have hh := Hok.out
          rw [Hdone.out hok1] at hh
          cases hh
        | true =>
          have Hnew : Hid (DocRel w T tau tat L (k + 1) w2) := by
            refine Lib.hid ⟨?_, cell_later hb3 hc0, cell_later hb3 hc1, hz2, Hbel.out.trans (hb3.mono Hbel.out.size)⟩
            rw [Hst.out, ← Bool.and_assoc, Hb.out, hok1]
            rfl
          clear hb2 hb3
          go_wp2
          go_roundw
          case rel => exact ⟨k + 1, by go_num, by omega, Hnew.out⟩
          case measure => simp [intOf]; omega
      · obtain rfl : k = L.length := by omega
        have hall := Hb.out
        rw [List.take_length] at hall
        go_wp2
        go_ret2
        exact ⟨rfl, Hbel.out⟩

set_option maxHeartbeats 4000000 in
set_option maxRecDepth 100000 in
theorem doc_yes (T tau tat : Int) (v : Value) (L : List (Int × Int)) (w : World) (h : AskAt w v L) (hok : okRun T tau tat L = true) (hlen : L.length ≤ 4096) :
    Calls Try.prog 47 #[limV T tau, .int .i64 tat, v] w (DocYes w T tau tat L) := by
  obtain ⟨a, c, rfl, hl, hc, hr⟩ := h
  unfold maxLen at hc
  have Hr := Lib.hid hr
  clear hr
  have Hk1 := Lib.hid (fun x y v => right_any T tau tat x y v)
  have Hok := Lib.hid hok
  clear hok
  unfold limV at *
  go_enter Try.func47, Try.ntmps47
  go_wp2_with fail
  refine (Hk1.out 0 0 _).mono ?_
  rintro e w1 ⟨rfl, hb⟩
  have hz1 : w.heap.size < w1.heap.size := by have := hb.size; simp at this; omega
  have hr0 : Hid (rightB T tau tat 0 0 = (limB T tau && tickB tat)) := by
    refine Lib.hid ?_
    have h0 : tickB 0 = true := by decide
    simp [rightB, h0]
  have Hc0 := Lib.hid (cell_later hb (a := ⟨w.heap.size, 0, none⟩) (v := .int .i64 T) (by simp [go_sem]))
  have Hc1 := Lib.hid (cell_later hb (a := ⟨w.heap.size, 1, none⟩) (v := .int .i64 tau) (by simp [go_sem]))
  have Hb1 := Lib.hid (below_past hb)
  clear hb
  rw [hr0.out]
  cases hlt : limB T tau && tickB tat with
  | false =>
    exfalso
    have hh := Hok.out
    unfold okRun at hh
    rw [hlt] at hh
    cases hh
  | true =>
    go_wp2
    have Hst : Hid (DocRel w T tau tat L 0 w1) := Lib.hid ⟨by simp [hlt], Hc0.out, Hc1.out, hz1, Hb1.out⟩
    go_loopw [9, 20] (fun _ i wr => ∃ k : Nat, i = .int .i64 k ∧ k ≤ L.length ∧ DocRel w T tau tat L k wr) (fun _ i _ => L.length - (intOf i).toNat)
    case atStart => exact ⟨0, rfl, Nat.zero_le _, Hst.out⟩
    case round =>
      obtain ⟨k, rfl, hk, hb, hc0, hc1, hz, hbel⟩ := hrel
      have Hb := Lib.hid hb; have Hbel := Lib.hid hbel
      clear hb hbel Hst Hc0 Hc1
      by_cases hA : k < L.length
      · obtain ⟨bb, off, rfl, hcell⟩ := Hr.out (by omega)
        have hx0 := cell_later Hbel.out (hcell k hA).1
        have hx1 := cell_later Hbel.out (hcell k hA).2
        have hltb := World.block_lt_of_cell? _ _ hx0
        clear hcell
        have Hst := Lib.hid (ok_take hA)
        have Hdone : Hid (okA (L.getD k (0, 0)) = false → okRun T tau tat L = false) := Lib.hid fun hh => by
          unfold okRun
          cases hall : L.all okA with
          | false => simp
          | true => rw [ok_at hall hA] at hh; cases hh
        generalize hp : L.getD k (0, 0) = p at *
        clear hp
        obtain ⟨x, y⟩ := p
        have Hrr : Hid (rightB T tau tat x y = okA (x, y)) := Lib.hid (by
          unfold rightB okA
          rw [hlt]
          simp)
        go_wp2_with fail
        refine (Hk1.out x y _).mono ?_
        rintro e w2 ⟨rfl, hb2⟩
        rw [Hrr.out]
        have hb3 := below_past hb2
        have hz2 : w.heap.size < w2.heap.size := Nat.lt_of_lt_of_le hz hb3.size
        cases hok1 : okA (x, y) with
        | false =>
          have Hbx := Lib.hid (Hbel.out.trans (hb3.mono Hbel.out.size))
          clear hb2 hb3
          exfalso
          have hh := Hok.out
          rw [Hdone.out hok1] at hh
          cases hh
        | true =>
          have Hnew : Hid (DocRel w T tau tat L (k + 1) w2) := by
            refine Lib.hid ⟨?_, cell_later hb3 hc0, cell_later hb3 hc1, hz2, Hbel.out.trans (hb3.mono Hbel.out.size)⟩
            rw [Hst.out, ← Bool.and_assoc, Hb.out, hok1]
            rfl
          clear hb2 hb3
          go_wp2
          go_roundw
          case rel => exact ⟨k + 1, by go_num, by omega, Hnew.out⟩
          case measure => simp [intOf]; omega
      · obtain rfl : k = L.length := by omega
        have hall := Hb.out
        rw [List.take_length] at hall
        have hok := Hok.out
        unfold okRun at hok
        simp only [Bool.and_eq_true] at hok
        obtain ⟨⟨hlim, htat⟩, hall2⟩ := hok
        have Hdec := Lib.hid (fun t x y v ht hx hy => rdecide_any T tau t x y v hlim ht hx hy)
        have Hat := Lib.hid (fun k => @ok_at L hall2 k)
        have Htk := Lib.hid (fun k => runTat_tick hlim (L.take k) tat htat (ok_take_of hall2 k))
        obtain ⟨i0, hi, hz0, hz1', hz2⟩ := info_parts info_docans
        have Hi := Lib.hid hi; have Hz0 := Lib.hid hz0; have Hz1 := Lib.hid hz1'; have Hz2 := Lib.hid hz2
        clear hi hz0 hz1' hz2 hlim htat hall hall2 Hok Hk1 Hb
        unfold limV at *
        obtain ⟨wo, hwo⟩ : ∃ wo : World, wo = wr := ⟨_, rfl⟩
        subst hwo
        go_wp2
        go_loopw [1, 10, 12, 13, 38] (fun t l _ _ i wr => ∃ k : Nat, i = .int .i64 k ∧ k ≤ L.length ∧ t = .int .i64 (runTat T tau tat (L.take k)) ∧ DocMake w T tau tat L k l wr) (fun _ _ _ _ i _ => L.length - (intOf i).toNat)
        case atStart => exact ⟨0, rfl, Nat.zero_le _, by simp [runTat], World.ownsRow_nil _ _ _ _, hc0, hc1, hz, Hbel.out⟩
        case round =>
          clear hc0 hc1 hz Hbel hk Hb1 hlt hr0
          obtain ⟨k, rfl, hk, rfl, hown, hc0, hc1, hz, hbel⟩ := hrel
          have hsz := hbel.size
          have Hown := Lib.hid hown; have Hbel := Lib.hid hbel
          have Hob := Lib.hid (fun g hg => (hown.lt g hg).1)
          clear hown hbel
          by_cases hA : k < L.length
          · obtain ⟨bb, off, rfl, hcell⟩ := Hr.out (by omega)
            have hx0 := cell_later Hbel.out (hcell k hA).1
            have hx1 := cell_later Hbel.out (hcell k hA).2
            have hltb := World.block_lt_of_cell? _ _ hx0
            have hokk := Hat.out k hA
            have Hsn : Hid (runC T tau tat (L.take (k + 1)) = runC T tau tat (L.take k) ++ ansC T tau (runTat T tau tat (L.take k)) (L.getD k (0, 0)) ∧ runTat T tau tat (L.take (k + 1)) = decTat T tau (runTat T tau tat (L.take k)) (L.getD k (0, 0)).1 (L.getD k (0, 0)).2) := by
              rw [take_snocA hA]
              exact ⟨runC_snoc _ _ _ _ _, runTat_snoc _ _ _ _ _⟩
            have htk := Htk.out k
            clear hcell
            generalize hp : L.getD k (0, 0) = p at *
            clear hp
            obtain ⟨x, y⟩ := p
            simp only [okA, Bool.and_eq_true] at hokk
            have Hd := Lib.hid (fun v => Hdec.out (runTat T tau tat (L.take k)) x y v htk hokk.1 hokk.2)
            unfold ansC at Hsn
            simp only [] at Hsn
            clear htk hokk
            generalize runTat T tau tat (L.take k) = t at *
            generalize ht2 : runTat T tau tat (L.take (k + 1)) = t' at *
            have Ht2 := Lib.hid ht2
            clear ht2
            generalize decG T tau t x y = g at *
            generalize decTat T tau t x y = d1 at *
            generalize decWait T tau t x y = d2 at *
            generalize decLeft T tau t x y = d3 at *
            obtain ⟨Hsn1, rfl⟩ := Hsn.out
            have Hsn1' := Lib.hid Hsn1
            clear Hsn Hsn1
            go_wp2_with fail
            refine (Hd.out _).mono ?_
            rintro e w2 ⟨rfl, hb2⟩
            have hb3 := below_past hb2
            have hc0' := cell_later hb3 hc0
            have hc1' := cell_later hb3 hc1
            have hz2 : w.heap.size < w2.heap.size := Nat.lt_of_lt_of_le hz hb3.size
            have hsz2 : w.heap.size ≤ w2.heap.size := by omega
            have Hbel2 := Lib.hid (Hbel.out.trans (hb3.mono hsz))
            have Hown2 : Hid (w2.ownsRow (w.heap.size + 1) 44 4 _ k (runC T tau tat (L.take k))) := own_later Hown.out hb3
            clear hb2 hb3
            unfold ansV
            go_wp2_with (at_builtin; (refine wpList_append_own _ rfl _ _ 73 rfl (w.heap.size + 1) 44 i0 (.agg #[.bool false, .int .i64 0, .int .i64 0, .int .i64 0]) 4 32 Try.underlying73 Hi.out Hz0.out Hz1.out Hz2.out rfl (by decide) _ _ _ rfl ((Hown2.out.alloc _).alloc _) ⟨w2.heap.size + 1, 0, none⟩ 1 1 [.bool g, .int .i64 t', .int .i64 d2, .int .i64 d3] rfl rfl (four_newsA _ _ _ _ _ _) ?_ ?_ ?_ ?_ ?_))
            · first | exact ⟨rfl, rfl, rfl, rfl⟩ | (intro u hu; simp at hu; rcases hu with rfl | rfl | rfl | rfl <;> rfl)
            · unfold maxLen; omega
            · omega
            · first | omega | (simp; omega)
            · intro c1 w3 hown3 hgrow3 _
              have hcA : ∀ a v, w2.cell? a = some v → a.block < w.heap.size + 1 → w3.cell? a = some v := by
                intro a v hcv hlta
                refine hgrow3.cell (cell_later (Below.alloc_two w2 _ _) hcv) fun hq => ?_
                have := Hob.out a.block hq.symm
                omega
              have hb5 : Below w.heap.size w w3 := by
                refine ((Hbel2.out.trans ((Below.alloc_two w2 _ _).mono hsz2))).grown hgrow3 ?_ ?_
                · simp; omega
                · intro q hq
                  have := Hob.out q hq
                  omega
              have hz3 : w.heap.size < w3.heap.size := by
                have := hgrow3.size
                simp at this
                omega
              have hrel3 : DocMake w T tau tat L (k + 1) c1 w3 := by
                refine ⟨?_, hcA _ _ hc0' (by simp), hcA _ _ hc1' (by simp), hz3, hb5⟩
                rw [Hsn1'.out]
                exact hown3
              have Hrel3 := Lib.hid hrel3
              clear hrel3 hb5 hcA hown3 hgrow3
              go_wp2
              go_roundw
              case rel => exact ⟨k + 1, by go_num, hA, by rw [Ht2.out], Hrel3.out⟩
              case measure => simp [intOf]; omega
          · obtain rfl : k = L.length := by omega
            have hown := Hown.out
            rw [List.take_length] at hown
            have Hown2 := Lib.hid hown
            clear hown
            go_wp2
            go_ret2
            exact ⟨_, rfl, Hown2.out, Hbel.out⟩

end Go.Proofs.Ytdjiihcbaedmcaa
