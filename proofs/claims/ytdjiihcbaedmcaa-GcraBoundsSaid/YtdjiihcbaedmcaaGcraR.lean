/- Contracts of layer 5's asks, gcra.Run and spigotref05.DocRun: slices of pairs. -/
import Derived.Test.YtdjiihcbaedmcaaGcraM
import Derived.Test.YtdjiihcbaedmcaaGcraN
namespace Go.Proofs.Ytdjiihcbaedmcaa
open Go.RowKit

/-- The cells of a list of asks. -/
def flatA (L : List (Int × Int)) : List Value := L.flatMap fun p => [.int .i64 p.1, .int .i64 p.2]

/-- A slice of asks in memory. -/
def AskAt (w : World) (v : Value) (L : List (Int × Int)) : Prop :=
  ∃ a c, v = .slice a L.length c ∧ L.length ≤ c ∧ c ≤ maxLen ∧ (0 < L.length → ∃ b off, a = some ⟨b, off, none⟩ ∧ ∀ i, i < L.length → w.cell? ⟨b, off + i * 2, none⟩ = some (.int .i64 (L.getD i (0, 0)).1) ∧ w.cell? ⟨b, off + i * 2 + 1, none⟩ = some (.int .i64 (L.getD i (0, 0)).2))

theorem AskAt.later {w w' : World} {v : Value} {L : List (Int × Int)} (h : AskAt w v L) (hb : Below w.heap.size w w') : AskAt w' v L := by
  obtain ⟨a, c, hv, hl, hc, hr⟩ := h
  refine ⟨a, c, hv, hl, hc, fun h0 => ?_⟩
  obtain ⟨b, off, ha, hcell⟩ := hr h0
  exact ⟨b, off, ha, fun i hi => ⟨cell_later hb (hcell i hi).1, cell_later hb (hcell i hi).2⟩⟩

theorem flatA_len (L : List (Int × Int)) : (flatA L).length = L.length * 2 := by
  induction L with
  | nil => rfl
  | cons p L ih => simp [flatA] at ih ⊢; omega

theorem flatA_append (L M : List (Int × Int)) : flatA (L ++ M) = flatA L ++ flatA M := by simp [flatA]

theorem info_ask : (Try.prog.info? 77).map (fun i => (i.zero, i.size, i.bytes)) = some (some (.agg #[.int .i64 0, .int .i64 0]), 2, 16) := by kernel_rfl

theorem two_news {w : World} {x y : Value} {t : TypeId} : ∀ (j : Nat) (u : Value), [x, y][j]? = some u → (w.alloc (.cells #[x, y] t)).cell? ((⟨w.heap.size, 0, none⟩ : Addr).add j) = some u := by
  intro j u hj
  match j, hj with
  | 0, hj => simp at hj; subst hj; simp [Addr.add]
  | 1, hj => simp at hj; subst hj; simp [Addr.add]

theorem two_newsA {w : World} (o : Obj) (x y : Value) (t : TypeId) : ∀ (j : Nat) (u : Value), [x, y][j]? = some u → ((w.alloc o).alloc (.cells #[x, y] t)).cell? ((⟨w.heap.size + 1, 0, none⟩ : Addr).add j) = some u := by
  intro j u hj
  have e : w.heap.size + 1 = (w.alloc o).heap.size := by simp
  rw [e]
  exact two_news j u hj

theorem take_snocA {L : List (Int × Int)} {k : Nat} (h : k < L.length) : L.take (k + 1) = L.take k ++ [L.getD k (0, 0)] := by
  rw [List.take_succ_eq_append_getElem h, List.getD_eq_getElem?_getD, List.getElem?_eq_getElem h]; rfl

def AsksRes (w : World) (L : List (Int × Int)) (e : Ending) (w' : World) : Prop := ∃ v, e = .returned v ∧ w'.ownsRow w.heap.size 77 2 v (L.length + 1) (flatA (L ++ [(77, 78)])) ∧ Below w.heap.size w w'

def AsksRel (w : World) (L : List (Int × Int)) (k : Nat) (c : Value) (wr : World) : Prop := wr.ownsRow w.heap.size 77 2 c k (flatA (L.take k)) ∧ Below w.heap.size w wr

set_option maxHeartbeats 2000000 in
set_option maxRecDepth 100000 in
theorem asks_any (v : Value) (L : List (Int × Int)) (w : World) (h : AskAt w v L) (hn : (L.length + 1) * 16 ≤ 140737488355328) :
    Calls Try.prog 45 #[v] w (AsksRes w L) := by
  obtain ⟨a, c, rfl, hl, hc, hr⟩ := h
  unfold maxLen at hc
  have Hr := Lib.hid hr
  clear hr
  obtain ⟨i0, hi, hz0, hz1, hz2⟩ := info_parts info_ask
  have Hi := Lib.hid hi; have Hz0 := Lib.hid hz0; have Hz1 := Lib.hid hz1; have Hz2 := Lib.hid hz2
  clear hi hz0 hz1 hz2
  go_enter Try.func45, Try.ntmps45
  go_wp2
  go_loopw [3, 5, 8] (fun c _ i wr => ∃ k : Nat, i = .int .i64 k ∧ k ≤ L.length ∧ AsksRel w L k c wr) (fun _ _ i _ => L.length - (intOf i).toNat)
  case atStart => exact ⟨0, rfl, Nat.zero_le _, World.ownsRow_nil _ _ _ _, Below.refl _ _⟩
  case round =>
    obtain ⟨k, rfl, hk, hown, hbel⟩ := hrel
    have hsz := hbel.size
    have Hown := Lib.hid hown
    have Hob := Lib.hid (fun g hg => (hown.lt g hg).1)
    clear hown
    by_cases hA : k < L.length
    · obtain ⟨b, off, rfl, hcell⟩ := Hr.out (by omega)
      have hc0 := cell_later hbel (hcell k hA).1
      have hc1 := cell_later hbel (hcell k hA).2
      have hlt := World.block_lt_of_cell? _ _ hc0
      clear hcell
      have Hbel := Lib.hid hbel
      clear hbel
      generalize hp : L.getD k (0, 0) = p at *
      have Hp := Lib.hid hp
      clear hp
      obtain ⟨x, y⟩ := p
      have Hfl : Hid (flatA (L.take (k + 1)) = flatA (L.take k) ++ [.int .i64 x, .int .i64 y]) := by
        rw [take_snocA hA, flatA_append, Hp.out]; rfl
      go_wp2_with (at_builtin; refine wpList_append_own _ rfl _ _ 68 rfl w.heap.size 77 i0 (.agg #[.int .i64 0, .int .i64 0]) 2 16 Try.underlying68 Hi.out Hz0.out Hz1.out Hz2.out rfl (by decide) _ _ _ rfl ((Hown.out.alloc _).alloc _) ⟨wr.heap.size + 1, 0, none⟩ 1 1 [.int .i64 x, .int .i64 y] rfl rfl (two_newsA _ _ _ _) ?_ ?_ ?_ ?_ ?_)
      · first | exact ⟨rfl, rfl⟩ | (intro u hu; simp at hu; rcases hu with rfl | rfl <;> rfl)
      · unfold maxLen; omega
      · omega
      · first | omega | (simp; omega)
      · intro c1 w1 hown1 hgrow1 _
        have Hst : Hid (AsksRel w L (k + 1) c1 w1) := ⟨by rw [Hfl.out]; exact hown1, ((Hbel.out.alloc hsz _).alloc (by simp; omega) _).grown hgrow1 (by simp; omega) Hob.out⟩
        clear hown1 hgrow1
        go_wp2
        go_roundw
        case rel => exact ⟨k + 1, by go_num, by omega, Hst.out⟩
        case measure => simp [intOf]; omega
    · obtain rfl : k = L.length := by omega
      have Hbel := Lib.hid hbel
      clear hbel
      have Hfl : Hid (flatA (L ++ [(77, 78)]) = flatA L ++ [.int .i64 77, .int .i64 78]) := by
        rw [flatA_append]; rfl
      go_wp2_with (at_builtin; refine wpList_append_own _ rfl _ _ 68 rfl w.heap.size 77 i0 (.agg #[.int .i64 0, .int .i64 0]) 2 16 Try.underlying68 Hi.out Hz0.out Hz1.out Hz2.out rfl (by decide) _ _ _ rfl (Hown.out.alloc _) ⟨wr.heap.size, 0, none⟩ 1 1 [.int .i64 77, .int .i64 78] rfl rfl two_news ?_ ?_ ?_ ?_ ?_)
      · first | exact ⟨rfl, rfl⟩ | (intro u hu; simp at hu; rcases hu with rfl | rfl <;> rfl)
      · unfold maxLen; omega
      · omega
      · simp; omega
      · intro c1 w1 hown1 hgrow1 _
        have Hst : Hid (w1.ownsRow w.heap.size 77 2 c1 (L.length + 1) (flatA (L ++ [(77, 78)])) ∧ Below w.heap.size w w1) := ⟨by rw [Hfl.out]; exact hown1, (Hbel.out.alloc hsz _).grown hgrow1 (by simp; omega) Hob.out⟩
        clear hown1 hgrow1
        go_wp2
        go_ret
        exact ⟨c1, rfl, Hst.out⟩

end Go.Proofs.Ytdjiihcbaedmcaa
