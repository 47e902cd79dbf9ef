/- Lists of words as arguments; contract of the law's all. -/
import Derived.Test.YtecbbdbeihiioaaMtI
import Derived.Laws.OwnMore
import Derived.Deep.AppendLies
import Derived.Laws.AppendOwn
namespace Go.Proofs.Ytecbbdbeihiioaa
open Go.RowKit
set_option linter.unusedVariables false

/-- A slice of words. -/
def U64At (w : World) (v : Value) (L : List Nat) : Prop :=
  (∀ x ∈ L, x < 18446744073709551616) ∧ ∃ a c, v = .slice a L.length c ∧ L.length ≤ c ∧ c ≤ maxLen ∧
    (0 < L.length → ∃ b off, a = some ⟨b, off, none⟩ ∧ ∀ j, j < L.length → w.cell? ⟨b, off + j, none⟩ = some (.int .u64 (L.getD j 0 : Nat)))
theorem U64At.later {w w' : World} {v : Value} {L : List Nat} (h : U64At w v L) (hb : Below w.heap.size w w') : U64At w' v L := by
  obtain ⟨h0, a, c, rfl, hl, hc, hr⟩ := h
  refine ⟨h0, a, c, rfl, hl, hc, fun hp => ?_⟩
  obtain ⟨b, off, rfl, hcell⟩ := hr hp
  exact ⟨b, off, rfl, fun j hj => cell_later hb (hcell j hj)⟩

/-- The cells of a list of floats. -/
def flatF (L : List Nat) : List Value := L.map fun x => .float .f64 x
theorem flatF_append (L M : List Nat) : flatF (L ++ M) = flatF L ++ flatF M := by simp [flatF]
theorem flatF_len (L : List Nat) : (flatF L).length = L.length := by simp [flatF]
theorem flatF_get (L : List Nat) (j : Nat) (hj : j < L.length) : (flatF L)[j]? = some (.float .f64 (L.getD j 0)) := by
  unfold flatF
  rw [List.getElem?_map, List.getD_eq_getElem?_getD, List.getElem?_eq_getElem hj]
  rfl
theorem take_snocF {L : List Nat} {k : Nat} (h : k < L.length) : L.take (k + 1) = L.take k ++ [L.getD k 0] := by
  rw [List.take_succ_eq_append_getElem h, List.getD_eq_getElem?_getD, List.getElem?_eq_getElem h]; rfl

/-- A row of the call's own that holds floats. -/
abbrev OwnF (w : World) (base : Nat) (v : Value) (L : List Nat) : Prop := w.ownsRow base 26 1 v L.length (flatF L)

theorem one_new {w : World} {x : Value} {t : TypeId} : ∀ (j : Nat) (u : Value), [x][j]? = some u → (w.alloc (.cells #[x] t)).cell? ((⟨w.heap.size, 0, none⟩ : Addr).add j) = some u := by
  intro j u hj
  match j, hj with
  | 0, hj => simp at hj; subst hj; simp [Addr.add]
theorem two_new {w : World} {x y : Value} {t : TypeId} : ∀ (j : Nat) (u : Value), [x, y][j]? = some u → (w.alloc (.cells #[x, y] t)).cell? ((⟨w.heap.size, 0, none⟩ : Addr).add j) = some u := by
  intro j u hj
  match j, hj with
  | 0, hj => simp at hj; subst hj; simp [Addr.add]
  | 1, hj => simp at hj; subst hj; simp [Addr.add]

theorem own_shapeF {w : World} {base : Nat} {t : TypeId} {size : Nat} {v : Value} {n : Nat} {xs : List Value} (h : w.ownsRow base t size v n xs) : ∃ a c, v = .slice a n c ∧ n ≤ c ∧ c ≤ maxLen ∧ (0 < n → ∃ g, a = some ⟨g, 0, none⟩ ∧ v.ownBlock = some g ∧ base ≤ g ∧ g < w.heap.size) := by
  have hlt := h.lt
  obtain ⟨-, ⟨rfl, rfl⟩ | ⟨g, cap, cur, rfl, hg, hh, hn, hm, hs, ht⟩⟩ := h
  · exact ⟨_, _, rfl, Nat.le_refl _, by unfold maxLen; omega, fun h => by omega⟩
  · exact ⟨_, _, rfl, hn, hm, fun _ => ⟨g, rfl, rfl, hlt g rfl⟩⟩

theorem fl_of_own {w : World} {base : Nat} {v : Value} {L : List Nat} (h : OwnF w base v L) (h0 : ∀ x ∈ L, x < 18446744073709551616) : FlAt w v L := by
  obtain ⟨a, c, rfl, hn, hm, hr⟩ := own_shapeF h
  refine ⟨h0, a, c, rfl, hn, hm, fun hp => ?_⟩
  obtain ⟨g, rfl, ho, -⟩ := hr hp
  refine ⟨g, 0, rfl, fun j hj => ?_⟩
  rw [Nat.zero_add]
  exact (h.cellAt j (by omega)).trans (flatF_get L j hj)

theorem own_cellF {w : World} {base : Nat} {t : TypeId} {size : Nat} {v : Value} {n : Nat} {xs : List Value} (h : w.ownsRow base t size v n xs) {g : Nat} (hg : v.ownBlock = some g) {j : Nat} {u : Value} (hu : xs[j]? = some u) : w.cell? ⟨g, j, none⟩ = some u := by
  have hadd : (⟨g, 0, none⟩ : Addr).add j = ⟨g, j, none⟩ := by unfold Addr.add; split <;> simp_all
  rw [← hadd]
  exact h.cells hg j u hu
theorem own_laterF {w w' : World} {base : Nat} {e : TypeId} {size : Nat} {v : Value} {n : Nat} {xs : List Value} (h : w.ownsRow base e size v n xs) (hb : Below w.heap.size w w') : w'.ownsRow base e size v n xs := by
  have hlt := h.lt
  obtain ⟨h1, h2 | ⟨g, cap, cur, hv, hg, hh, hn, hm, hs, ht⟩⟩ := h
  · exact ⟨h1, Or.inl h2⟩
  · refine ⟨h1, Or.inr ⟨g, cap, cur, hv, hg, ?_, hn, hm, hs, ht⟩⟩
    rw [hb.block g (hlt g (by rw [hv]; rfl)).2]
    exact hh

theorem info_fl : (Try.prog.info? 26).map (fun i => (i.zero, i.size, i.bytes)) = some (some (.float .f64 0), 1, 8) := by kernel_rfl
theorem info_fl_parts {P : Program} {t : TypeId} {z : Value} {s b : Nat} (h : (P.info? t).map (fun i => (i.zero, i.size, i.bytes)) = some (some z, s, b)) : ∃ i0, P.info? t = some i0 ∧ i0.zero = some z ∧ i0.size = s ∧ i0.bytes = b := by
  obtain ⟨i, hi, he⟩ := Option.map_eq_some_iff.1 h
  simp only [Prod.mk.injEq] at he
  exact ⟨i, hi, he.1, he.2.1, he.2.2⟩

def AllRes (w : World) (L : List Nat) (e : Ending) (w' : World) : Prop := ∃ v, e = .returned v ∧ OwnF w' w.heap.size v L ∧ Below w.heap.size w w'
def AllRel (w : World) (L : List Nat) (k : Nat) (c : Value) (wr : World) : Prop := wr.ownsRow w.heap.size 26 1 c k (flatF (L.take k)) ∧ Below w.heap.size w wr

set_option maxHeartbeats 2000000 in
set_option maxRecDepth 100000 in
theorem all_any (v : Value) (L : List Nat) (w : World) (h : U64At w v L) (hn : (L.length + 2) * 8 ≤ 140737488355328) :
    Calls Try.prog 12 #[v] w (AllRes w L) := by
  obtain ⟨h0, a, c, rfl, hl, hc, hr⟩ := h
  unfold maxLen at hc
  have Hr := Lib.hid hr
  clear hr h0
  have Ko := Lib.hid (fun b v => of_any b v)
  obtain ⟨i0, hi, hz0, hz1, hz2⟩ := info_fl_parts info_fl
  have Hi := Lib.hid hi; have Hz0 := Lib.hid hz0; have Hz1 := Lib.hid hz1; have Hz2 := Lib.hid hz2
  clear hi hz0 hz1 hz2
  go_enter Try.func12, Try.ntmps12
  go_wp2
  go_loopw [3, 5, 8] (fun c _ i wr => ∃ k : Nat, i = .int .i64 k ∧ k ≤ L.length ∧ AllRel w L k c wr) (fun _ _ i _ => L.length - (intOf i).toNat)
  case atStart => exact ⟨0, rfl, Nat.zero_le _, World.ownsRow_nil _ _ _ _, Below.refl _ _⟩
  case round =>
    obtain ⟨k, rfl, hk, hown, hbel⟩ := hrel
    have hsz := hbel.size
    have Hown := Lib.hid hown
    have Hob := Lib.hid (fun g hg => (hown.lt g hg).1)
    clear hown
    by_cases hA : k < L.length
    · obtain ⟨b, off, rfl, hcell⟩ := Hr.out (by omega)
      have hc0 := cell_later hbel (hcell k hA)
      have hlt := World.block_lt_of_cell? _ _ hc0
      clear hcell
      have Hbel := Lib.hid hbel
      clear hbel
      generalize hp : L.getD k 0 = x at *
      have Hp := Lib.hid hp
      clear hp
      have Hfl : Hid (flatF (L.take (k + 1)) = flatF (L.take k) ++ [.float .f64 x]) := by
        rw [take_snocF hA, flatF_append, Hp.out]; rfl
      go_wp2_with (first | (go_at_call 16; (with_reducible refine (Ko.out _ _).mono ?_); rintro e w' ⟨rfl, rfl⟩) | (at_builtin; refine wpList_append_own _ rfl _ _ 24 rfl w.heap.size 26 i0 (.float .f64 0) 1 8 Try.underlying24 Hi.out Hz0.out Hz1.out Hz2.out rfl (by decide) _ _ _ rfl (Hown.out.alloc _) ⟨wr.heap.size, 0, none⟩ 1 1 [.float .f64 x] rfl rfl one_new ?_ ?_ ?_ ?_ ?_))
      · first | rfl | (intro u hu; simp at hu; subst hu; rfl)
      · unfold maxLen; omega
      · omega
      · first | omega | (simp; omega)
      · intro c1 w1 hown1 hgrow1 _
        have Hst : Hid (AllRel w L (k + 1) c1 w1) := ⟨by rw [Hfl.out]; exact hown1, (Hbel.out.alloc hsz _).grown hgrow1 (by simp; omega) Hob.out⟩
        clear hown1 hgrow1
        go_wp2
        go_roundw
        case rel => exact ⟨k + 1, by go_num, by omega, Hst.out⟩
        case measure => simp [intOf]; omega
    · obtain rfl : k = L.length := by omega
      have Hbel := Lib.hid hbel
      clear hbel
      have Hst := Lib.hid (show wr.ownsRow w.heap.size 26 1 u3 L.length (flatF L) by have := Hown.out; rw [List.take_length] at this; exact this)
      go_wp2
      go_ret
      exact ⟨_, rfl, Hst.out, Hbel.out⟩

/-- A row of a known block that holds floats. -/
def FlRow (w : World) (g : Nat) (L : List Nat) : Prop := g < w.heap.size ∧ ∀ j, j < L.length → w.cell? ⟨g, j, none⟩ = some (.float .f64 (L.getD j 0))
theorem FlRow.later {w w' : World} {g : Nat} {L : List Nat} (h : FlRow w g L) (hb : Below w.heap.size w w') : FlRow w' g L :=
  ⟨Nat.lt_of_lt_of_le h.1 hb.size, fun j hj => cell_later hb (h.2 j hj)⟩
theorem row_of_own {w : World} {base : Nat} {v : Value} {L : List Nat} (h : OwnF w base v L) (hp : 0 < L.length) : ∃ g cap, v = .slice (some ⟨g, 0, none⟩) L.length cap ∧ L.length ≤ cap ∧ cap ≤ maxLen ∧ base ≤ g ∧ FlRow w g L ∧ v.ownBlock = some g := by
  obtain ⟨a, c, rfl, hn, hm, hr⟩ := own_shapeF h
  obtain ⟨g, rfl, ho, hb, hg⟩ := hr hp
  exact ⟨g, c, rfl, hn, hm, hb, ⟨hg, fun j hj => (h.cellAt j (by omega)).trans (flatF_get L j hj)⟩, ho⟩
theorem getD_left {L M : List Nat} {j : Nat} (h : j < L.length) : (L ++ M).getD j 0 = L.getD j 0 := by
  rw [List.getD_eq_getElem?_getD, List.getD_eq_getElem?_getD, List.getElem?_append_left h]
theorem fl_of_row {w : World} {g cap : Nat} {L M : List Nat} (h : FlRow w g (L ++ M)) (h0 : ∀ x ∈ L, x < 18446744073709551616) (hc : L.length ≤ cap) (hm : cap ≤ maxLen) : FlAt w (.slice (some ⟨g, 0, none⟩) L.length cap) L := by
  refine ⟨h0, _, _, rfl, hc, hm, fun hp => ⟨g, 0, rfl, fun j hj => ?_⟩⟩
  rw [Nat.zero_add, h.2 j (by simp; omega), getD_left hj]
end Go.Proofs.Ytecbbdbeihiioaa
