/- Contracts of gcra.Decide, Left and Idle. -/
import Derived.Test.YtdjiihcbaedmcaaGcraJ
namespace Go.Proofs.Ytdjiihcbaedmcaa
open Go.RowKit

def AnsTwo (w : World) (g : Bool) (tat wait left f : Int) (e : Ending) (w' : World) : Prop := e = .returned (.tuple #[ansV g tat wait left, .int .i64 f]) ∧ Below w.heap.size w w'

theorem three_cells {w : World} {t : TypeId} {x y z : Int} : ∀ i, i < [x, y, z].length → (w.alloc (.cells #[.int .i64 x, .int .i64 y, .int .i64 z] t)).cell? ⟨w.heap.size, i, none⟩ = some (.int .i64 ([x, y, z].getD i 0)) := by
  intro i hi
  match i, hi with
  | 0, _ => simp [go_sem]
  | 1, _ => simp [go_sem]
  | 2, _ => simp [go_sem]
theorem two_cells {w : World} {t : TypeId} {x y : Int} : ∀ i, i < [x, y].length → (w.alloc (.cells #[.int .i64 x, .int .i64 y] t)).cell? ⟨w.heap.size, i, none⟩ = some (.int .i64 ([x, y].getD i 0)) := by
  intro i hi
  match i, hi with
  | 0, _ => simp [go_sem]
  | 1, _ => simp [go_sem]
theorem one_cells {w : World} {t : TypeId} {x : Int} : ∀ i, i < [x].length → (w.alloc (.cells #[.int .i64 x] t)).cell? ⟨w.heap.size, i, none⟩ = some (.int .i64 ([x].getD i 0)) := by
  intro i hi
  match i, hi with
  | 0, _ => simp [go_sem]

theorem size2 (w : World) (a b : Obj) : ((w.alloc a).alloc b).heap.size = w.heap.size + 2 := by simp

set_option maxHeartbeats 1000000 in
set_option maxRecDepth 100000 in
theorem gDecide_yes (T tau tat now n : Int) (w : World) (h : limB T tau = true) (ht : tickB tat = true) (hnow : tickB now = true) (hn : tickB n = true) :
    Calls Try.prog 33 #[limV T tau, .int .i64 tat, .int .i64 now, .int .i64 n] w (AnsTwo w (decG T tau tat now n) (decTat T tau tat now n) (decWait T tau tat now n) (decLeft T tau tat now n) 0) := by
  have Hd := Lib.hid (fun v => gdecide_any T tau tat now n v h ht hnow hn)
  have hall : ([tat, now, n].all tickB && limB T tau) = true := by simp [ht, hnow, hn, h]
  have Hk := Lib.hid (fun b v hc => gcheck_any T tau [tat, now, n] b 3 v (by simp) hc)
  rw [hall] at Hk
  clear hall h ht hnow hn
  generalize decG T tau tat now n = g at *
  generalize decTat T tau tat now n = d1 at *
  generalize decWait T tau tat now n = d2 at *
  generalize decLeft T tau tat now n = d3 at *
  unfold limV at *
  go_enter Try.func33, Try.ntmps33
  go_wp2_with fail
  have hsz := size2 w (.cells #[.int .i64 T, .int .i64 tau] 39) (.cells #[.bool false, .int .i64 0, .int .i64 0, .int .i64 0] 41)
  have h3 := @three_cells ((w.alloc (.cells #[.int .i64 T, .int .i64 tau] 39)).alloc (.cells #[.bool false, .int .i64 0, .int .i64 0, .int .i64 0] 41)) 2 tat now n
  rw [hsz] at h3
  clear hsz
  refine (Hk.out (w.heap.size + 2) _ h3).mono ?_
  clear h3
  rintro e w1 ⟨rfl, hb⟩
  obtain ⟨hc, hf⟩ := bcell hb
  have hz1 : w.heap.size + 1 < w1.heap.size := by have := hb.size; simp at this; omega
  have hz0 : w.heap.size < w1.heap.size := by omega
  have Hb := Lib.hid (below_past (below_past (below_past hb)))
  clear hb
  have hcode : codeI true = 0 := rfl
  go_wp2_with fail
  refine (Hd.out _).mono ?_
  rintro e w2 ⟨rfl, hb2⟩
  unfold ansV
  obtain ⟨hc2, hf2⟩ := bcell hb2
  have hz2 : w.heap.size + 1 < w2.heap.size := by have := hb2.size; omega
  have Hb2 := Lib.hid (Hb.out.trans (hb2.mono (by omega)))
  clear hb2 Hb
  go_wp2
  exact bodyPost_ret (v := .tuple #[ansV g d1 d2 d3, .int .i64 0]) (by simp [results, Try.results33, go_sem, ansV, hc2, hc, hz1]) rfl ⟨rfl, by repeat (first | exact Hb2.out | (refine Below.setCell ?_ (by first | (simp; done) | (simp; omega)) _))⟩

set_option maxHeartbeats 1000000 in
set_option maxRecDepth 100000 in
theorem gDecide_no (T tau tat now n : Int) (w : World) (hall : ([tat, now, n].all tickB && limB T tau) = false) :
    Calls Try.prog 33 #[limV T tau, .int .i64 tat, .int .i64 now, .int .i64 n] w (AnsTwo w false 0 0 0 1) := by
  have Hk := Lib.hid (fun b v hc => gcheck_any T tau [tat, now, n] b 3 v (by simp) hc)
  rw [hall] at Hk
  clear hall
  unfold limV at *
  go_enter Try.func33, Try.ntmps33
  go_wp2_with fail
  have hsz := size2 w (.cells #[.int .i64 T, .int .i64 tau] 39) (.cells #[.bool false, .int .i64 0, .int .i64 0, .int .i64 0] 41)
  have h3 := @three_cells ((w.alloc (.cells #[.int .i64 T, .int .i64 tau] 39)).alloc (.cells #[.bool false, .int .i64 0, .int .i64 0, .int .i64 0] 41)) 2 tat now n
  rw [hsz] at h3
  clear hsz
  refine (Hk.out (w.heap.size + 2) _ h3).mono ?_
  clear h3
  rintro e w1 ⟨rfl, hb⟩
  obtain ⟨hc, hf⟩ := bcell hb
  have hz1 : w.heap.size + 1 < w1.heap.size := by have := hb.size; simp at this; omega
  have hz0 : w.heap.size < w1.heap.size := by omega
  have Hb := Lib.hid (below_past (below_past (below_past hb)))
  clear hb
  have hcode : codeI false = 1 := rfl
  go_wp2
  exact bodyPost_ret (v := .tuple #[ansV false 0 0 0, .int .i64 1]) (by simp [results, Try.results33, go_sem, ansV, hc]) rfl ⟨rfl, by repeat (first | exact Hb.out | (refine Below.setCell ?_ (by first | (simp; done) | (simp; omega)) _))⟩

set_option maxHeartbeats 1000000 in
set_option maxRecDepth 100000 in
theorem gLeft_any (T tau tat now k : Int) (w : World) (b : Bool) (hall : ([tat, now].all tickB && limB T tau) = b) (hk : b = true → k = leftI T tau tat now) (hk0 : b = false → k = 0) :
    Calls Try.prog 41 #[limV T tau, .int .i64 tat, .int .i64 now] w (TwoRes w k (codeI b)) := by
  have Hk := Lib.hid (fun b v hc => gcheck_any T tau [tat, now] b 2 v (by simp) hc)
  have Hd : Hid (b = true → ∀ v, Calls Try.prog 61 #[limV T tau, .int .i64 tat, .int .i64 now] v (IntRes v k)) := fun hb v => by
    rw [hb] at hall
    simp only [List.all_cons, List.all_nil, Bool.and_true, Bool.and_eq_true] at hall
    rw [hk hb]
    exact gleft_any T tau tat now v hall.2 hall.1.1 hall.1.2
  rw [hall] at Hk
  have Hk0 := Lib.hid hk0
  clear hall hk hk0
  unfold limV at *
  go_enter Try.func41, Try.ntmps41
  go_wp2_with fail
  have h3 := @two_cells (w.alloc (.cells #[.int .i64 T, .int .i64 tau] 39)) 2 tat now
  rw [show (w.alloc (.cells #[.int .i64 T, .int .i64 tau] 39)).heap.size = w.heap.size + 1 by simp] at h3
  refine (Hk.out (w.heap.size + 1) _ h3).mono ?_
  clear h3 Hk
  rintro e w1 ⟨rfl, hb⟩
  obtain ⟨hc, hf⟩ := bcell hb
  have Hb := Lib.hid (below_past (below_past hb))
  clear hb
  cases b with
  | true =>
    have Hdd := Lib.hid (Hd.out rfl)
    have hcode : codeI true = 0 := rfl
    clear Hd Hk0
    go_wp2_with fail
    refine (Hdd.out _).mono ?_
    rintro e w2 ⟨rfl, hb2⟩
    have Hb2 := Lib.hid (Hb.out.trans (hb2.mono Hb.out.size))
    clear hb2 Hb hc hf
    go_wp2
    go_ret2
    exact ⟨rfl, Hb2.out⟩
  | false =>
    obtain rfl := Hk0.out rfl
    have hcode : codeI false = 1 := rfl
    clear Hd Hk0
    go_wp2
    go_ret2
    exact ⟨rfl, Hb.out⟩

def IdleRes (w : World) (b : Bool) (f : Int) (e : Ending) (w' : World) : Prop := e = .returned (.tuple #[.bool b, .int .i64 f]) ∧ w = w'

theorem idle_yes (tat now : Int) (w : World) (ht : tickB tat = true) (hnow : tickB now = true) :
    Calls Try.prog 39 #[.int .i64 tat, .int .i64 now] w (IdleRes w (decide (tat ≤ now)) 0) := by
  go_enter Try.func39, Try.ntmps39
  go_wp2_with (go_at_call 18; (with_reducible refine (form_any _ _).mono ?_); rintro e w' ⟨rfl, rfl⟩)
  go_ret2
  exact ⟨rfl, rfl⟩

theorem idle_no (tat now : Int) (w : World) (h : (tickB tat && tickB now) = false) :
    Calls Try.prog 39 #[.int .i64 tat, .int .i64 now] w (IdleRes w false 1) := by
  cases ht : tickB tat with
  | false =>
    clear h
    go_enter Try.func39, Try.ntmps39
    go_wp2_with (go_at_call 18; (with_reducible refine (form_any _ _).mono ?_); rintro e w' ⟨rfl, rfl⟩)
    go_ret2
    exact ⟨rfl, rfl⟩
  | true =>
    have hn : tickB now = false := by simpa [ht] using h
    clear h
    go_enter Try.func39, Try.ntmps39
    go_wp2_with (go_at_call 18; (with_reducible refine (form_any _ _).mono ?_); rintro e w' ⟨rfl, rfl⟩)
    go_ret2
    exact ⟨rfl, rfl⟩

end Go.Proofs.Ytdjiihcbaedmcaa
