/- The contract of gcra.Run. -/
import Derived.Test.YtdjiihcbaedmcaaGcraR
namespace Go.Proofs.Ytdjiihcbaedmcaa
open Go.RowKit

/-- Is an ask right? -/
def okA (p : Int × Int) : Bool := tickB p.1 && tickB p.2
/-- Are a limit, a tick and all asks right? -/
def okRun (T tau tat : Int) (L : List (Int × Int)) : Bool := limB T tau && tickB tat && L.all okA
/-- tat behind the asks. -/
def runTat (T tau tat : Int) (L : List (Int × Int)) : Int := L.foldl (fun t p => decTat T tau t p.1 p.2) tat
/-- An answer's cells. -/
def ansC (T tau tat : Int) (p : Int × Int) : List Value := [.bool (decG T tau tat p.1 p.2), .int .i64 (decTat T tau tat p.1 p.2), .int .i64 (decWait T tau tat p.1 p.2), .int .i64 (decLeft T tau tat p.1 p.2)]
/-- All answers' cells. -/
def runC (T tau : Int) : Int → List (Int × Int) → List Value
  | _, [] => []
  | tat, p :: L => ansC T tau tat p ++ runC T tau (decTat T tau tat p.1 p.2) L

theorem runTat_snoc (T tau tat : Int) (L : List (Int × Int)) (p : Int × Int) : runTat T tau tat (L ++ [p]) = decTat T tau (runTat T tau tat L) p.1 p.2 := by simp [runTat]

theorem runC_snoc (T tau : Int) (L : List (Int × Int)) (p : Int × Int) : ∀ tat, runC T tau tat (L ++ [p]) = runC T tau tat L ++ ansC T tau (runTat T tau tat L) p := by
  induction L with
  | nil => intro tat; simp [runC, runTat]
  | cons q L ih => intro tat; simp only [List.cons_append, runC, ih, runTat, List.foldl_cons, List.append_assoc]

theorem runTat_tick {T tau : Int} (h : limB T tau = true) (L : List (Int × Int)) : ∀ tat, tickB tat = true → L.all okA = true → tickB (runTat T tau tat L) = true := by
  induction L with
  | nil => intro tat ht _; exact ht
  | cons q L ih =>
    intro tat ht hL
    simp only [List.all_cons, Bool.and_eq_true] at hL
    have hq := hL.1
    simp only [okA, Bool.and_eq_true] at hq
    exact ih _ (dec_tick h ht hq.1 hq.2) hL.2

theorem ok_take {L : List (Int × Int)} {k : Nat} (h : k < L.length) : (L.take (k + 1)).all okA = ((L.take k).all okA && okA (L.getD k (0, 0))) := by
  rw [take_snocA h, List.all_append]
  simp

theorem ok_at {L : List (Int × Int)} (h : L.all okA = true) {k : Nat} (hk : k < L.length) : okA (L.getD k (0, 0)) = true := by
  rw [List.all_eq_true] at h
  apply h
  rw [List.getD_eq_getElem?_getD, List.getElem?_eq_getElem hk]
  exact List.getElem_mem hk

theorem ok_take_of {L : List (Int × Int)} (h : L.all okA = true) (k : Nat) : (L.take k).all okA = true := by
  rw [List.all_eq_true] at h ⊢
  exact fun x hx => h x (List.mem_of_mem_take hx)

theorem info_ans : (Try.prog.info? 41).map (fun i => (i.zero, i.size, i.bytes)) = some (some (.agg #[.bool false, .int .i64 0, .int .i64 0, .int .i64 0]), 4, 32) := by kernel_rfl

theorem four_news {w : World} {x y z u0 : Value} {t : TypeId} : ∀ (j : Nat) (u : Value), [x, y, z, u0][j]? = some u → (w.alloc (.cells #[x, y, z, u0] t)).cell? ((⟨w.heap.size, 0, none⟩ : Addr).add j) = some u := by
  intro j u hj
  match j, hj with
  | 0, hj => simp at hj; subst hj; simp [Addr.add]
  | 1, hj => simp at hj; subst hj; simp [Addr.add]
  | 2, hj => simp at hj; subst hj; simp [Addr.add]
  | 3, hj => simp at hj; subst hj; simp [Addr.add]

/-- What the loop that looks keeps. -/
def LookRel (w : World) (T tau tat : Int) (L : List (Int × Int)) (k : Nat) (b : Bool) (wr : World) : Prop :=
  b = (limB T tau && tickB tat && (L.take k).all okA) ∧ wr.cell? ⟨w.heap.size, 0, none⟩ = some (.int .i64 T) ∧ wr.cell? ⟨w.heap.size, 1, none⟩ = some (.int .i64 tau) ∧ w.heap.size < wr.heap.size ∧ Below w.heap.size w wr

def RunNo (w : World) (f : Int) (e : Ending) (w' : World) : Prop := e = .returned (.tuple #[.slice none 0 0, .int .i64 f]) ∧ Below w.heap.size w w'

def MakeRel (w : World) (T tau tat : Int) (L : List (Int × Int)) (k : Nat) (l : Value) (wr : World) : Prop :=
  wr.ownsRow (w.heap.size + 1) 41 4 l k (runC T tau tat (L.take k)) ∧ wr.cell? ⟨w.heap.size, 0, none⟩ = some (.int .i64 T) ∧ wr.cell? ⟨w.heap.size, 1, none⟩ = some (.int .i64 tau) ∧ w.heap.size < wr.heap.size ∧ Below w.heap.size w wr

def RunYes (w : World) (T tau tat : Int) (L : List (Int × Int)) (e : Ending) (w' : World) : Prop := ∃ v, e = .returned (.tuple #[v, .int .i64 0]) ∧ w'.ownsRow (w.heap.size + 1) 41 4 v L.length (runC T tau tat L) ∧ Below w.heap.size w w'

theorem four_newsA {w : World} (o : Obj) (x y z u0 : Value) (t : TypeId) : ∀ (j : Nat) (u : Value), [x, y, z, u0][j]? = some u → ((w.alloc o).alloc (.cells #[x, y, z, u0] t)).cell? ((⟨w.heap.size + 1, 0, none⟩ : Addr).add j) = some u := by
  intro j u hj
  have e : w.heap.size + 1 = (w.alloc o).heap.size := by simp
  rw [e]
  exact four_news j u hj

theorem Below.alloc_two (w : World) (o o' : Obj) : Below w.heap.size w ((w.alloc o).alloc o') := ((Below.refl w.heap.size w).alloc (Nat.le_refl _) o).alloc (by simp) o'

theorem own_later {w w' : World} {base : Nat} {e : TypeId} {size : Nat} {v : Value} {n : Nat} {xs : List Value} (h : w.ownsRow base e size v n xs) (hb : Below w.heap.size w w') : w'.ownsRow base e size v n xs := by
  have hlt := h.lt
  obtain ⟨h1, h2 | ⟨g, cap, cur, hv, hg, hh, hn, hm, hs, ht⟩⟩ := h
  · exact ⟨h1, Or.inl h2⟩
  · refine ⟨h1, Or.inr ⟨g, cap, cur, hv, hg, ?_, hn, hm, hs, ht⟩⟩
    rw [hb.block g (hlt g (by rw [hv]; rfl)).2]
    exact hh

set_option maxHeartbeats 4000000 in
set_option maxRecDepth 100000 in
theorem run_bad (T tau tat : Int) (v : Value) (L : List (Int × Int)) (w : World) (h : AskAt w v L) (hok : okRun T tau tat L = false) :
    Calls Try.prog 46 #[limV T tau, .int .i64 tat, v] w (RunNo w 1) := by
  obtain ⟨a, c, rfl, hl, hc, hr⟩ := h
  unfold maxLen at hc
  have Hr := Lib.hid hr
  clear hr
  have Hk1 := Lib.hid (fun b v hc => gcheck_any T tau [tat] b 1 v (by simp) hc)
  have Hk2 := Lib.hid (fun x y b v hc => gcheck_any T tau [x, y] b 2 v (by simp) hc)
  have Hok := Lib.hid hok
  have hcode0 : codeI true = 0 := rfl
  have hcode1 : codeI false = 1 := rfl
  clear hok
  have Hone : Hid (([tat].all tickB && limB T tau) = (limB T tau && tickB tat)) := by
    simp only [List.all_nil, List.all_cons, Bool.and_true]
    exact Bool.and_comm _ _
  unfold limV at *
  go_enter Try.func46, Try.ntmps46
  go_wp2_with fail
  have h3 := @one_cells (w.alloc (.cells #[.int .i64 T, .int .i64 tau] 39)) 2 tat
  rw [show (w.alloc (.cells #[.int .i64 T, .int .i64 tau] 39)).heap.size = w.heap.size + 1 by simp] at h3
  refine (Hk1.out (w.heap.size + 1) _ h3).mono ?_
  clear h3
  rintro e w1 ⟨rfl, hb⟩
  have hz1 : w.heap.size < w1.heap.size := by have := hb.size; simp at this; omega
  have Hst : Hid (LookRel w T tau tat L 0 (limB T tau && tickB tat) w1) :=
    ⟨by simp, cell_later hb (a := ⟨w.heap.size, 0, none⟩) (v := .int .i64 T) (by simp [go_sem]), cell_later hb (a := ⟨w.heap.size, 1, none⟩) (v := .int .i64 tau) (by simp [go_sem]), hz1, below_past (below_past hb)⟩
  clear hb
  rw [Hone.out]
  go_wp2
  go_loopw [8, 10, 21] (fun e _ i wr => ∃ (k : Nat) (b : Bool), i = .int .i64 k ∧ e = .int .i64 (codeI b) ∧ k ≤ L.length ∧ LookRel w T tau tat L k b wr) (fun _ _ i _ => L.length - (intOf i).toNat)
  case atStart => exact ⟨0, _, rfl, rfl, Nat.zero_le _, Hst.out⟩
  case round =>
    obtain ⟨k, b, rfl, rfl, hk, hb, hc0, hc1, hz, hbel⟩ := hrel
    have Hb := Lib.hid hb; have Hbel := Lib.hid hbel
    clear hb hbel Hst Hone
    by_cases hA : k < L.length
    · obtain ⟨bb, off, rfl, hcell⟩ := Hr.out (by omega)
      have hx0 := cell_later Hbel.out (hcell k hA).1
      have hx1 := cell_later Hbel.out (hcell k hA).2
      have hlt := World.block_lt_of_cell? _ _ hx0
      clear hcell
      have Hst := Lib.hid (ok_take hA)
      generalize hp : L.getD k (0, 0) = p at *
      clear hp
      obtain ⟨x, y⟩ := p
      cases b with
      | true =>
        go_wp2_with fail
        have h3 := @two_cells (wr.alloc (.cells #[.int .i64 x, .int .i64 y] 77)) 2 x y
        rw [show (wr.alloc (.cells #[.int .i64 x, .int .i64 y] 77)).heap.size = wr.heap.size + 1 by simp] at h3
        refine (Hk2.out x y (wr.heap.size + 1) _ h3).mono ?_
        clear h3
        rintro e w2 ⟨rfl, hb2⟩
        have Hnew : Hid (LookRel w T tau tat L (k + 1) (tickB x && tickB y && limB T tau) w2) := by
          have hh := Hb.out
          have hb3 := below_past (below_past hb2)
          refine ⟨?_, cell_later hb3 hc0, cell_later hb3 hc1, Nat.lt_of_lt_of_le hz hb3.size, Hbel.out.trans (hb3.mono Hbel.out.size)⟩
          rw [Hst.out, ← Bool.and_assoc, ← hh]
          symm at hh
          simp only [Bool.and_eq_true] at hh
          simp [okA, hh.1.1]
        clear hb2
        go_wp2
        go_roundw
        case rel => exact ⟨k + 1, _, by go_num, rfl, by omega, Hnew.out⟩
        case measure => simp [intOf]; omega
      | false =>
        go_wp2
        go_roundw
        case rel => exact ⟨k + 1, false, by go_num, rfl, by omega, by rw [Hst.out, ← Bool.and_assoc, ← Hb.out]; rfl, by simp [go_sem, hc0, hz], by simp [go_sem, hc1, hz], by simp; omega, Hbel.out.alloc Hbel.out.size _⟩
        case measure => simp [intOf]; omega
    · obtain rfl : k = L.length := by omega
      have hbf : b = false := by
        rw [Hb.out, List.take_length]
        exact Hok.out
      subst hbf
      go_wp2
      go_ret2
      exact ⟨rfl, Hbel.out⟩

set_option maxHeartbeats 4000000 in
set_option maxRecDepth 100000 in
theorem run_long (T tau tat : Int) (v : Value) (L : List (Int × Int)) (w : World) (h : AskAt w v L) (hok : okRun T tau tat L = true) (hlen : 4096 < L.length) :
    Calls Try.prog 46 #[limV T tau, .int .i64 tat, v] w (RunNo w 2) := by
  obtain ⟨a, c, rfl, hl, hc, hr⟩ := h
  unfold maxLen at hc
  have Hr := Lib.hid hr
  clear hr
  have Hk1 := Lib.hid (fun b v hc => gcheck_any T tau [tat] b 1 v (by simp) hc)
  have Hk2 := Lib.hid (fun x y b v hc => gcheck_any T tau [x, y] b 2 v (by simp) hc)
  have Hok := Lib.hid hok
  have hcode0 : codeI true = 0 := rfl
  have hcode1 : codeI false = 1 := rfl
  clear hok
  have Hone : Hid (([tat].all tickB && limB T tau) = (limB T tau && tickB tat)) := by
    simp only [List.all_nil, List.all_cons, Bool.and_true]
    exact Bool.and_comm _ _
  unfold limV at *
  go_enter Try.func46, Try.ntmps46
  go_wp2_with fail
  have h3 := @one_cells (w.alloc (.cells #[.int .i64 T, .int .i64 tau] 39)) 2 tat
  rw [show (w.alloc (.cells #[.int .i64 T, .int .i64 tau] 39)).heap.size = w.heap.size + 1 by simp] at h3
  refine (Hk1.out (w.heap.size + 1) _ h3).mono ?_
  clear h3
  rintro e w1 ⟨rfl, hb⟩
  have hz1 : w.heap.size < w1.heap.size := by have := hb.size; simp at this; omega
  have Hst : Hid (LookRel w T tau tat L 0 (limB T tau && tickB tat) w1) :=
    ⟨by simp, cell_later hb (a := ⟨w.heap.size, 0, none⟩) (v := .int .i64 T) (by simp [go_sem]), cell_later hb (a := ⟨w.heap.size, 1, none⟩) (v := .int .i64 tau) (by simp [go_sem]), hz1, below_past (below_past hb)⟩
  clear hb
  rw [Hone.out]
  go_wp2
  go_loopw [8, 10, 21] (fun e _ i wr => ∃ (k : Nat) (b : Bool), i = .int .i64 k ∧ e = .int .i64 (codeI b) ∧ k ≤ L.length ∧ LookRel w T tau tat L k b wr) (fun _ _ i _ => L.length - (intOf i).toNat)
  case atStart => exact ⟨0, _, rfl, rfl, Nat.zero_le _, Hst.out⟩
  case round =>
    obtain ⟨k, b, rfl, rfl, hk, hb, hc0, hc1, hz, hbel⟩ := hrel
    have Hb := Lib.hid hb; have Hbel := Lib.hid hbel
    clear hb hbel Hst Hone
    by_cases hA : k < L.length
    · obtain ⟨bb, off, rfl, hcell⟩ := Hr.out (by omega)
      have hx0 := cell_later Hbel.out (hcell k hA).1
      have hx1 := cell_later Hbel.out (hcell k hA).2
      have hlt := World.block_lt_of_cell? _ _ hx0
      clear hcell
      have Hst := Lib.hid (ok_take hA)
      generalize hp : L.getD k (0, 0) = p at *
      clear hp
      obtain ⟨x, y⟩ := p
      cases b with
      | true =>
        go_wp2_with fail
        have h3 := @two_cells (wr.alloc (.cells #[.int .i64 x, .int .i64 y] 77)) 2 x y
        rw [show (wr.alloc (.cells #[.int .i64 x, .int .i64 y] 77)).heap.size = wr.heap.size + 1 by simp] at h3
        refine (Hk2.out x y (wr.heap.size + 1) _ h3).mono ?_
        clear h3
        rintro e w2 ⟨rfl, hb2⟩
        have Hnew : Hid (LookRel w T tau tat L (k + 1) (tickB x && tickB y && limB T tau) w2) := by
          have hh := Hb.out
          have hb3 := below_past (below_past hb2)
          refine ⟨?_, cell_later hb3 hc0, cell_later hb3 hc1, Nat.lt_of_lt_of_le hz hb3.size, Hbel.out.trans (hb3.mono Hbel.out.size)⟩
          rw [Hst.out, ← Bool.and_assoc, ← hh]
          symm at hh
          simp only [Bool.and_eq_true] at hh
          simp [okA, hh.1.1]
        clear hb2
        go_wp2
        go_roundw
        case rel => exact ⟨k + 1, _, by go_num, rfl, by omega, Hnew.out⟩
        case measure => simp [intOf]; omega
      | false =>
        go_wp2
        go_roundw
        case rel => exact ⟨k + 1, false, by go_num, rfl, by omega, by rw [Hst.out, ← Bool.and_assoc, ← Hb.out]; rfl, by simp [go_sem, hc0, hz], by simp [go_sem, hc1, hz], by simp; omega, Hbel.out.alloc Hbel.out.size _⟩
        case measure => simp [intOf]; omega
    · obtain rfl : k = L.length := by omega
      have hbf : b = true := by
        rw [Hb.out, List.take_length]
        exact Hok.out
      subst hbf
      go_wp2
      go_ret2
      exact ⟨rfl, Hbel.out⟩

set_option maxHeartbeats 4000000 in
set_option maxRecDepth 100000 in
theorem run_yes (T tau tat : Int) (v : Value) (L : List (Int × Int)) (w : World) (h : AskAt w v L) (hok : okRun T tau tat L = true) (hlen : L.length ≤ 4096) :
    Calls Try.prog 46 #[limV T tau, .int .i64 tat, v] w (RunYes w T tau tat L) := by
  obtain ⟨a, c, rfl, hl, hc, hr⟩ := h
  unfold maxLen at hc
  have Hr := Lib.hid hr
  clear hr
  have Hk1 := Lib.hid (fun b v hc => gcheck_any T tau [tat] b 1 v (by simp) hc)
  have Hk2 := Lib.hid (fun x y b v hc => gcheck_any T tau [x, y] b 2 v (by simp) hc)
  have Hok := Lib.hid hok
  have hcode0 : codeI true = 0 := rfl
  have hcode1 : codeI false = 1 := rfl
  clear hok
  have Hone : Hid (([tat].all tickB && limB T tau) = (limB T tau && tickB tat)) := by
    simp only [List.all_nil, List.all_cons, Bool.and_true]
    exact Bool.and_comm _ _
  unfold limV at *
  go_enter Try.func46, Try.ntmps46
  go_wp2_with fail
  have h3 := @one_cells (w.alloc (.cells #[.int .i64 T, .int .i64 tau] 39)) 2 tat
  rw [show (w.alloc (.cells #[.int .i64 T, .int .i64 tau] 39)).heap.size = w.heap.size + 1 by simp] at h3
  refine (Hk1.out (w.heap.size + 1) _ h3).mono ?_
  clear h3
  rintro e w1 ⟨rfl, hb⟩
  have hz1 : w.heap.size < w1.heap.size := by have := hb.size; simp at this; omega
  have Hst : Hid (LookRel w T tau tat L 0 (limB T tau && tickB tat) w1) :=
    ⟨by simp, cell_later hb (a := ⟨w.heap.size, 0, none⟩) (v := .int .i64 T) (by simp [go_sem]), cell_later hb (a := ⟨w.heap.size, 1, none⟩) (v := .int .i64 tau) (by simp [go_sem]), hz1, below_past (below_past hb)⟩
  clear hb
  rw [Hone.out]
  go_wp2
  go_loopw [8, 10, 21] (fun e _ i wr => ∃ (k : Nat) (b : Bool), i = .int .i64 k ∧ e = .int .i64 (codeI b) ∧ k ≤ L.length ∧ LookRel w T tau tat L k b wr) (fun _ _ i _ => L.length - (intOf i).toNat)
  case atStart => exact ⟨0, _, rfl, rfl, Nat.zero_le _, Hst.out⟩
  case round =>
    obtain ⟨k, b, rfl, rfl, hk, hb, hc0, hc1, hz, hbel⟩ := hrel
    have Hb := Lib.hid hb; have Hbel := Lib.hid hbel
    clear hb hbel Hst Hone
    by_cases hA : k < L.length
    · obtain ⟨bb, off, rfl, hcell⟩ := Hr.out (by omega)
      have hx0 := cell_later Hbel.out (hcell k hA).1
      have hx1 := cell_later Hbel.out (hcell k hA).2
      have hlt := World.block_lt_of_cell? _ _ hx0
      clear hcell
      have Hst := Lib.hid (ok_take hA)
      generalize hp : L.getD k (0, 0) = p at *
      clear hp
      obtain ⟨x, y⟩ := p
      cases b with
      | true =>
        go_wp2_with fail
        have h3 := @two_cells (wr.alloc (.cells #[.int .i64 x, .int .i64 y] 77)) 2 x y
        rw [show (wr.alloc (.cells #[.int .i64 x, .int .i64 y] 77)).heap.size = wr.heap.size + 1 by simp] at h3
        refine (Hk2.out x y (wr.heap.size + 1) _ h3).mono ?_
        clear h3
        rintro e w2 ⟨rfl, hb2⟩
        have Hnew : Hid (LookRel w T tau tat L (k + 1) (tickB x && tickB y && limB T tau) w2) := by
          have hh := Hb.out
          have hb3 := below_past (below_past hb2)
          refine ⟨?_, cell_later hb3 hc0, cell_later hb3 hc1, Nat.lt_of_lt_of_le hz hb3.size, Hbel.out.trans (hb3.mono Hbel.out.size)⟩
          rw [Hst.out, ← Bool.and_assoc, ← hh]
          symm at hh
          simp only [Bool.and_eq_true] at hh
          simp [okA, hh.1.1]
        clear hb2
        go_wp2
        go_roundw
        case rel => exact ⟨k + 1, _, by go_num, rfl, by omega, Hnew.out⟩
        case measure => simp [intOf]; omega
      | false =>
        go_wp2
        go_roundw
        case rel => exact ⟨k + 1, false, by go_num, rfl, by omega, by rw [Hst.out, ← Bool.and_assoc, ← Hb.out]; rfl, by simp [go_sem, hc0, hz], by simp [go_sem, hc1, hz], by simp; omega, Hbel.out.alloc Hbel.out.size _⟩
        case measure => simp [intOf]; omega
    · obtain rfl : k = L.length := by omega
      have hbf : b = true := by
        rw [Hb.out, List.take_length]
        exact Hok.out
      subst hbf
      have hok := Hok.out
      unfold okRun at hok
      simp only [Bool.and_eq_true] at hok
      obtain ⟨⟨hlim, htat⟩, hall⟩ := hok
      have Hdec := Lib.hid (fun t x y v ht hx hy => gdecide_any T tau t x y v hlim ht hx hy)
      have Hat := Lib.hid (fun k => @ok_at L hall k)
      have Htk := Lib.hid (fun k => runTat_tick hlim (L.take k) tat htat (ok_take_of hall k))
      obtain ⟨i0, hi, hz0, hz1, hz2⟩ := info_parts info_ans
      have Hi := Lib.hid hi; have Hz0 := Lib.hid hz0; have Hz1 := Lib.hid hz1; have Hz2 := Lib.hid hz2
      clear hi hz0 hz1 hz2 hlim htat hall Hok Hk1 Hk2 Hb
      unfold limV at *
      obtain ⟨wo, hwo⟩ : ∃ wo : World, wo = wr := ⟨_, rfl⟩
      subst hwo
      go_wp2
      simp only [hcode0]
      go_loopw [1, 11, 13, 14, 47] (fun t l _ _ i wr => ∃ k : Nat, i = .int .i64 k ∧ k ≤ L.length ∧ t = .int .i64 (runTat T tau tat (L.take k)) ∧ MakeRel w T tau tat L k l wr) (fun _ _ _ _ i _ => L.length - (intOf i).toNat)
      case atStart => exact ⟨0, rfl, Nat.zero_le _, by simp [runTat], World.ownsRow_nil _ _ _ _, hc0, hc1, hz, Hbel.out⟩
      case round =>
        clear hc0 hc1 hz Hbel hk
        obtain ⟨k, rfl, hk, rfl, hown, hc0, hc1, hz, hbel⟩ := hrel
        have hsz := hbel.size
        have Hown := Lib.hid hown; have Hbel := Lib.hid hbel
        have Hob := Lib.hid (fun g hg => (hown.lt g hg).1)
        clear hown hbel
        by_cases hA : k < L.length
        · obtain ⟨bb, off, rfl, hcell⟩ := Hr.out (by omega)
          have hx0 := cell_later Hbel.out (hcell k hA).1
          have hx1 := cell_later Hbel.out (hcell k hA).2
          have hlt := World.block_lt_of_cell? _ _ hx0
          have hokk := Hat.out k hA
          have Hsn : Hid (runC T tau tat (L.take (k + 1)) = runC T tau tat (L.take k) ++ ansC T tau (runTat T tau tat (L.take k)) (L.getD k (0, 0)) ∧ runTat T tau tat (L.take (k + 1)) = decTat T tau (runTat T tau tat (L.take k)) (L.getD k (0, 0)).1 (L.getD k (0, 0)).2) := by
            rw [take_snocA hA]
            exact ⟨runC_snoc _ _ _ _ _, runTat_snoc _ _ _ _ _⟩
          have htk := Htk.out k
          clear hcell
          generalize hp : L.getD k (0, 0) = p at *
          clear hp
          obtain ⟨x, y⟩ := p
          simp only [okA, Bool.and_eq_true] at hokk
          have Hd := Lib.hid (fun v => Hdec.out (runTat T tau tat (L.take k)) x y v htk hokk.1 hokk.2)
          unfold ansC at Hsn
          simp only [] at Hsn
          clear htk hokk
          generalize runTat T tau tat (L.take k) = t at *
          generalize ht2 : runTat T tau tat (L.take (k + 1)) = t' at *
          have Ht2 := Lib.hid ht2
          clear ht2
          generalize decG T tau t x y = g at *
          generalize decTat T tau t x y = d1 at *
          generalize decWait T tau t x y = d2 at *
          generalize decLeft T tau t x y = d3 at *
          obtain ⟨Hsn1, rfl⟩ := Hsn.out
          have Hsn1' := Lib.hid Hsn1
          clear Hsn Hsn1
          go_wp2_with fail
          refine (Hd.out _).mono ?_
          rintro e w2 ⟨rfl, hb2⟩
          have hb3 := below_past hb2
          have hc0' := cell_later hb3 hc0
          have hc1' := cell_later hb3 hc1
          have hz2 : w.heap.size < w2.heap.size := Nat.lt_of_lt_of_le hz hb3.size
          have hsz2 : w.heap.size ≤ w2.heap.size := by omega
          have Hbel2 := Lib.hid (Hbel.out.trans (hb3.mono hsz))
          have Hown2 : Hid (w2.ownsRow (w.heap.size + 1) 41 4 _ k (runC T tau tat (L.take k))) := own_later Hown.out hb3
          clear hb2 hb3
          unfold ansV
          go_wp2_with (at_builtin; (refine wpList_append_own _ rfl _ _ 70 rfl (w.heap.size + 1) 41 i0 (.agg #[.bool false, .int .i64 0, .int .i64 0, .int .i64 0]) 4 32 Try.underlying70 Hi.out Hz0.out Hz1.out Hz2.out rfl (by decide) _ _ _ rfl ((Hown2.out.alloc _).alloc _) ⟨w2.heap.size + 1, 0, none⟩ 1 1 [.bool g, .int .i64 t', .int .i64 d2, .int .i64 d3] rfl rfl (four_newsA _ _ _ _ _ _) ?_ ?_ ?_ ?_ ?_))
          · first | exact ⟨rfl, rfl, rfl, rfl⟩ | (intro u hu; simp at hu; rcases hu with rfl | rfl | rfl | rfl <;> rfl)
          · unfold maxLen; omega
          · omega
          · first | omega | (simp; omega)
          · intro c1 w3 hown3 hgrow3 _
            have hcA : ∀ a v, w2.cell? a = some v → a.block < w.heap.size + 1 → w3.cell? a = some v := by
              intro a v hcv hlta
              refine hgrow3.cell (cell_later (Below.alloc_two w2 _ _) hcv) fun hq => ?_
              have := Hob.out a.block hq.symm
              omega
            have hb5 : Below w.heap.size w w3 := by
              refine ((Hbel2.out.trans ((Below.alloc_two w2 _ _).mono hsz2))).grown hgrow3 ?_ ?_
              · simp; omega
              · intro q hq
                have := Hob.out q hq
                omega
            have hz3 : w.heap.size < w3.heap.size := by
              have := hgrow3.size
              simp at this
              omega
            have hrel3 : MakeRel w T tau tat L (k + 1) c1 w3 := by
              refine ⟨?_, hcA _ _ hc0' (by simp), hcA _ _ hc1' (by simp), hz3, hb5⟩
              rw [Hsn1'.out]
              exact hown3
            have Hrel3 := Lib.hid hrel3
            clear hrel3 hb5 hcA hown3 hgrow3
            go_wp2
            go_roundw
            case rel => exact ⟨k + 1, by go_num, hA, by rw [Ht2.out], Hrel3.out⟩
            case measure => simp [intOf]; omega
        · obtain rfl : k = L.length := by omega
          have hown := Hown.out
          rw [List.take_length] at hown
          have Hown2 := Lib.hid hown
          clear hown
          go_wp2
          go_ret2
          exact ⟨_, rfl, Hown2.out, Hbel.out⟩

end Go.Proofs.Ytdjiihcbaedmcaa
