/- Contracts of spigotref04.Check and spigotref05's right, DocDecide, DocLeft, DocIdle. -/
import Derived.Test.YtdjiihcbaedmcaaGcraI
import Derived.Test.YtdjiihcbaedmcaaGcraK
namespace Go.Proofs.Ytdjiihcbaedmcaa
open Go.RowKit

theorem rcheck4_any (T tau : Int) (w : World) :
    Calls Try.prog 72 #[limV T tau] w (IntRes w (codeI (limB T tau))) := by
  have Hl : Hid (limB T tau = (tickB T && decide (1 ≤ T) && tickB tau)) := rfl
  generalize limB T tau = L at *
  unfold limV
  by_cases h2 : 1 ≤ T
  · have h2d : decide (1 ≤ T) = true := decide_eq_true h2
    cases h1 : tickB T with
    | false =>
      have hL : L = false := by rw [Hl.out, h1]; rfl
      subst hL
      have hcode : codeI false = 1 := rfl
      clear Hl
      go_enter Try.func72, Try.ntmps72
      go_wp2_with (go_at_call 19; (with_reducible refine (rform_any _ _).mono ?_); rintro e w' ⟨rfl, rfl⟩)
      go_ret
      exact ⟨rfl, (Below.refl _ _).alloc (Nat.le_refl _) _⟩
    | true =>
      cases h3 : tickB tau with
      | false =>
        have hL : L = false := by rw [Hl.out, h3]; simp
        subst hL
        have hcode : codeI false = 1 := rfl
        clear Hl
        go_enter Try.func72, Try.ntmps72
        go_wp2_with (go_at_call 19; (with_reducible refine (rform_any _ _).mono ?_); rintro e w' ⟨rfl, rfl⟩)
        go_ret
        exact ⟨rfl, (Below.refl _ _).alloc (Nat.le_refl _) _⟩
      | true =>
        have hL : L = true := by rw [Hl.out, h1, h2d, h3]; rfl
        subst hL
        have hcode : codeI true = 0 := rfl
        clear Hl
        go_enter Try.func72, Try.ntmps72
        go_wp2_with (go_at_call 19; (with_reducible refine (rform_any _ _).mono ?_); rintro e w' ⟨rfl, rfl⟩)
        go_ret
        exact ⟨rfl, (Below.refl _ _).alloc (Nat.le_refl _) _⟩
  · have h3 : T < 1 := by omega
    have hL : L = false := by rw [Hl.out, decide_eq_false h2]; simp
    subst hL
    have hcode : codeI false = 1 := rfl
    clear Hl h2
    go_enter Try.func72, Try.ntmps72
    go_wp2_with (go_at_call 19; (with_reducible refine (rform_any _ _).mono ?_); rintro e w' ⟨rfl, rfl⟩)
    go_ret
    exact ⟨rfl, (Below.refl _ _).alloc (Nat.le_refl _) _⟩

/-- Are a limit and three ticks right? -/
def rightB (T tau tat now n : Int) : Bool := limB T tau && tickB tat && tickB now && tickB n

set_option maxHeartbeats 1000000 in
theorem right_any (T tau tat now n : Int) (w : World) :
    Calls Try.prog 58 #[limV T tau, .int .i64 tat, .int .i64 now, .int .i64 n] w (BoolRes w (rightB T tau tat now n)) := by
  have Hr : Hid (rightB T tau tat now n = (limB T tau && tickB tat && tickB now && tickB n)) := rfl
  have hk := fun v => rcheck4_any T tau v
  generalize rightB T tau tat now n = R at *
  generalize limB T tau = L at *
  unfold limV at *
  have hc1 : codeI false = 1 := rfl
  have hc0 : codeI true = 0 := rfl
  cases L with
  | false =>
    rw [hc1] at hk
    have Hk := Lib.hid hk
    clear hk hc1 hc0
    go_enter Try.func58, Try.ntmps58
    go_wp2_with (first | (go_at_call 72; (with_reducible refine (Hk.out _).mono ?_); rintro e w1 ⟨rfl, hb⟩; have Hb := Lib.hid (below_past hb); clear hb) | (go_at_call 19; (with_reducible refine (rform_any _ _).mono ?_); rintro e w' ⟨rfl, rfl⟩))
    go_ret
    exact ⟨ret_b (by rw [Hr.out]; rfl), Hb.out⟩
  | true =>
    rw [hc0] at hk
    have Hk := Lib.hid hk
    clear hk hc1 hc0
    cases h1 : tickB tat with
    | false =>
      go_enter Try.func58, Try.ntmps58
      go_wp2_with (first | (go_at_call 72; (with_reducible refine (Hk.out _).mono ?_); rintro e w1 ⟨rfl, hb⟩; have Hb := Lib.hid (below_past hb); clear hb) | (go_at_call 19; (with_reducible refine (rform_any _ _).mono ?_); rintro e w' ⟨rfl, rfl⟩))
      go_ret
      exact ⟨ret_b (by rw [Hr.out, h1]; rfl), Hb.out⟩
    | true =>
      cases h2 : tickB now with
      | false =>
        go_enter Try.func58, Try.ntmps58
        go_wp2_with (first | (go_at_call 72; (with_reducible refine (Hk.out _).mono ?_); rintro e w1 ⟨rfl, hb⟩; have Hb := Lib.hid (below_past hb); clear hb) | (go_at_call 19; (with_reducible refine (rform_any _ _).mono ?_); rintro e w' ⟨rfl, rfl⟩))
        go_ret
        exact ⟨ret_b (by rw [Hr.out, h1, h2]; rfl), Hb.out⟩
      | true =>
        cases h3 : tickB n with
        | false =>
          go_enter Try.func58, Try.ntmps58
          go_wp2_with (first | (go_at_call 72; (with_reducible refine (Hk.out _).mono ?_); rintro e w1 ⟨rfl, hb⟩; have Hb := Lib.hid (below_past hb); clear hb) | (go_at_call 19; (with_reducible refine (rform_any _ _).mono ?_); rintro e w' ⟨rfl, rfl⟩))
          go_ret
          exact ⟨ret_b (by rw [Hr.out, h1, h2, h3]; rfl), Hb.out⟩
        | true =>
          go_enter Try.func58, Try.ntmps58
          go_wp2_with (first | (go_at_call 72; (with_reducible refine (Hk.out _).mono ?_); rintro e w1 ⟨rfl, hb⟩; have Hb := Lib.hid (below_past hb); clear hb) | (go_at_call 19; (with_reducible refine (rform_any _ _).mono ?_); rintro e w' ⟨rfl, rfl⟩))
          go_ret
          exact ⟨ret_b (by rw [Hr.out, h1, h2, h3]; rfl), Hb.out⟩

set_option maxHeartbeats 1000000 in
set_option maxRecDepth 100000 in
theorem docdecide_yes (T tau tat now n : Int) (w : World) (hr : rightB T tau tat now n = true) :
    Calls Try.prog 34 #[limV T tau, .int .i64 tat, .int .i64 now, .int .i64 n] w (AnsTwo w (decG T tau tat now n) (decTat T tau tat now n) (decWait T tau tat now n) (decLeft T tau tat now n) 0) := by
  have hr2 := hr
  unfold rightB at hr2
  simp only [Bool.and_eq_true] at hr2
  obtain ⟨⟨⟨h, ht⟩, hnow⟩, hn⟩ := hr2
  have Hd := Lib.hid (fun v => rdecide_any T tau tat now n v h ht hnow hn)
  have hk := fun v => right_any T tau tat now n v
  rw [hr] at hk
  have Hk := Lib.hid hk
  clear hr h ht hnow hn hk
  generalize decG T tau tat now n = g at *
  generalize decTat T tau tat now n = d1 at *
  generalize decWait T tau tat now n = d2 at *
  generalize decLeft T tau tat now n = d3 at *
  unfold limV at *
  go_enter Try.func34, Try.ntmps34
  go_wp2_with fail
  refine (Hk.out _).mono ?_
  rintro e w1 ⟨rfl, hb⟩
  obtain ⟨hc, hf⟩ := bcell hb
  have hz1 : w.heap.size + 1 < w1.heap.size := by have := hb.size; simp at this; omega
  have hz0 : w.heap.size < w1.heap.size := by omega
  have Hb := Lib.hid (below_past (below_past hb))
  clear hb
  go_wp2_with fail
  refine (Hd.out _).mono ?_
  rintro e w2 ⟨rfl, hb2⟩
  unfold ansV
  obtain ⟨hc2, hf2⟩ := bcell hb2
  have hz2 : w.heap.size + 1 < w2.heap.size := by have := hb2.size; omega
  have Hb2 := Lib.hid (Hb.out.trans (hb2.mono (by omega)))
  clear hb2 Hb
  go_wp2
  exact bodyPost_ret (v := .tuple #[ansV g d1 d2 d3, .int .i64 0]) (by simp [results, Try.results34, go_sem, ansV, hc2, hc, hz1]) rfl ⟨rfl, by repeat (first | exact Hb2.out | (refine Below.setCell ?_ (by first | (simp; done) | (simp; omega)) _))⟩

set_option maxHeartbeats 1000000 in
set_option maxRecDepth 100000 in
theorem docdecide_no (T tau tat now n : Int) (w : World) (hr : rightB T tau tat now n = false) :
    Calls Try.prog 34 #[limV T tau, .int .i64 tat, .int .i64 now, .int .i64 n] w (AnsTwo w false 0 0 0 1) := by
  have hk := fun v => right_any T tau tat now n v
  rw [hr] at hk
  have Hk := Lib.hid hk
  clear hr hk
  unfold limV at *
  go_enter Try.func34, Try.ntmps34
  go_wp2_with fail
  refine (Hk.out _).mono ?_
  rintro e w1 ⟨rfl, hb⟩
  obtain ⟨hc, hf⟩ := bcell hb
  have hz1 : w.heap.size + 1 < w1.heap.size := by have := hb.size; simp at this; omega
  have Hb := Lib.hid (below_past (below_past hb))
  clear hb
  go_wp2
  exact bodyPost_ret (v := .tuple #[ansV false 0 0 0, .int .i64 1]) (by simp [results, Try.results34, go_sem, ansV, hc]) rfl ⟨rfl, by repeat (first | exact Hb.out | (refine Below.setCell ?_ (by first | (simp; done) | (simp; omega)) _))⟩

set_option maxHeartbeats 1000000 in
theorem docleft_any (T tau tat now k : Int) (w : World) (b : Bool) (hr : rightB T tau tat now 0 = b) (hk : b = true → k = leftI T tau tat now) (hk0 : b = false → k = 0) :
    Calls Try.prog 42 #[limV T tau, .int .i64 tat, .int .i64 now] w (TwoRes w k (codeI b)) := by
  have hkk := fun v => right_any T tau tat now 0 v
  rw [hr] at hkk
  have Hk := Lib.hid hkk
  have Hd : Hid (b = true → ∀ v, Calls Try.prog 62 #[limV T tau, .int .i64 tat, .int .i64 now] v (IntRes v k)) := fun hb v => by
    rw [hb] at hr
    unfold rightB at hr
    simp only [Bool.and_eq_true] at hr
    rw [hk hb]
    exact rleft_any T tau tat now v hr.1.1.1 hr.1.1.2 hr.1.2
  have Hk0 := Lib.hid hk0
  clear hr hk hk0 hkk
  unfold limV at *
  go_enter Try.func42, Try.ntmps42
  go_wp2_with fail
  refine (Hk.out _).mono ?_
  rintro e w1 ⟨rfl, hb⟩
  obtain ⟨hc, hf⟩ := bcell hb
  have Hb := Lib.hid (below_past hb)
  clear hb Hk
  cases b with
  | true =>
    have Hdd := Lib.hid (Hd.out rfl)
    have hcode : codeI true = 0 := rfl
    clear Hd Hk0
    go_wp2_with fail
    refine (Hdd.out _).mono ?_
    rintro e w2 ⟨rfl, hb2⟩
    have Hb2 := Lib.hid (Hb.out.trans (hb2.mono Hb.out.size))
    clear hb2 Hb hc hf
    go_wp2
    go_ret2
    exact ⟨rfl, Hb2.out⟩
  | false =>
    obtain rfl := Hk0.out rfl
    have hcode : codeI false = 1 := rfl
    clear Hd Hk0
    go_wp2
    go_ret2
    exact ⟨rfl, Hb.out⟩

theorem docidle_yes (tat now : Int) (w : World) (ht : tickB tat = true) (hnow : tickB now = true) :
    Calls Try.prog 43 #[.int .i64 tat, .int .i64 now] w (IdleRes w (decide (tat ≤ now)) 0) := by
  go_enter Try.func43, Try.ntmps43
  go_wp2_with (go_at_call 19; (with_reducible refine (rform_any _ _).mono ?_); rintro e w' ⟨rfl, rfl⟩)
  go_ret2
  exact ⟨rfl, rfl⟩

theorem docidle_no (tat now : Int) (w : World) (h : (tickB tat && tickB now) = false) :
    Calls Try.prog 43 #[.int .i64 tat, .int .i64 now] w (IdleRes w false 1) := by
  cases ht : tickB tat with
  | false =>
    clear h
    go_enter Try.func43, Try.ntmps43
    go_wp2_with (go_at_call 19; (with_reducible refine (rform_any _ _).mono ?_); rintro e w' ⟨rfl, rfl⟩)
    go_ret2
    exact ⟨rfl, rfl⟩
  | true =>
    have hn : tickB now = false := by simpa [ht] using h
    clear h
    go_enter Try.func43, Try.ntmps43
    go_wp2_with (go_at_call 19; (with_reducible refine (rform_any _ _).mono ?_); rintro e w' ⟨rfl, rfl⟩)
    go_ret2
    exact ⟨rfl, rfl⟩

end Go.Proofs.Ytdjiihcbaedmcaa
