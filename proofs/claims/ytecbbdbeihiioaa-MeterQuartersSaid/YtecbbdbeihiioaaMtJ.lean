/- slices.ContainsFunc, Clone and SortFunc at lists of floats, by the shelf's contracts. -/
import Derived.Test.YtecbbdbeihiioaaShelf
import Derived.Test.YtecbbdbeihiioaaMtH
namespace Go.Proofs.Ytecbbdbeihiioaa
open Go.RowKit Go.Shelf Go.Lib Go.Sort
set_option linter.unusedVariables false

/-- The words. -/
abbrev W64 : Type := { x : Nat // x < 18446744073709551616 }
instance : Inhabited W64 := ⟨⟨0, by decide⟩⟩
def encW (x : W64) : Value := .float .f64 x.val
def toW (x : Nat) : W64 := if h : x < 18446744073709551616 then ⟨x, h⟩ else default
theorem toW_val {x : Nat} (h : x < 18446744073709551616) : (toW x).val = x := by unfold toW; rw [dif_pos h]
def listW (L : List Nat) : List W64 := L.map toW

theorem listW_get {L : List Nat} (h : ∀ x ∈ L, x < 18446744073709551616) {j : Nat} (hj : j < L.length) : encW (listW L)[j]! = .float .f64 (L.getD j 0) := by
  have h2 : (listW L)[j]! = toW (L.getD j 0) := by
    unfold listW
    rw [List.getElem!_eq_getElem?_getD, List.getElem?_map, List.getD_eq_getElem?_getD, List.getElem?_eq_getElem hj]
    rfl
  rw [h2]
  unfold encW
  rw [toW_val (getD_lt h j)]

theorem contains_any (v : Value) (L : List Nat) (w : World) (h : Go.Proofs.Ytecbbdbeihiioaa.FlAt w v L) :
    Calls Try.prog 40 #[v, .func (.func 36) #[] #[]] w fun e w' => e = .returned (.bool (L.any fun x => decide (9218868437227405312 < rg x))) ∧ ∃ q, w' = w.drewN q := by
  obtain ⟨h0, a, c, rfl, hl, hc, hr⟩ := h
  by_cases hn : L.length = 0
  · have : L = [] := List.length_eq_zero_iff.1 hn
    subst this
    exact (Try.slices_ContainsFunc_empty (α := W64) a c _ w).mono fun e w' ⟨he, hw⟩ => ⟨he, 0, hw⟩
  · obtain ⟨b, off, rfl, hcell⟩ := hr (by omega)
    have hlen : (listW L).length = L.length := by unfold listW; simp
    have hp : PredAt Try.prog 36 #[] encW (fun x => decide (9218868437227405312 < rg x.val)) w := by
      intro W x _
      exact (isnan_any x.val W x.property).mono fun e w' ⟨he, hw⟩ => ⟨he, 0, hw.symm⟩
    have hbig : L.length ≤ 9223372036854775807 := by unfold maxLen at hc; omega
    refine (Try.slices_ContainsFunc encW (fun x => decide (9218868437227405312 < rg x.val)) 36 #[] (enters_of Try.func36 (by kernel_rfl) rfl) b off L.length c (listW L) w hp (by omega) hbig ?_).mono ?_
    · intro j hj
      rw [listW_get h0 (by omega)]
      exact hcell j (by omega)
    · rintro e w' ⟨rfl, q, rfl⟩
      refine ⟨?_, q, rfl⟩
      have hany : ((listW L).take L.length).any (fun x => decide (9218868437227405312 < rg x.val)) = L.any fun x => decide (9218868437227405312 < rg x) := by
        rw [List.take_of_length_le (by omega)]
        unfold listW
        rw [List.any_map]
        refine Bool.eq_iff_iff.2 ?_
        simp only [List.any_eq_true, Function.comp_apply]
        constructor
        · rintro ⟨x, hx, h⟩; exact ⟨x, hx, by rw [toW_val (h0 x hx)] at h; exact h⟩
        · rintro ⟨x, hx, h⟩; exact ⟨x, hx, by rw [toW_val (h0 x hx)]; exact h⟩
      rw [hany]

/-- A row of one's own that holds a list of floats. -/
def OwnFl (w : World) (B : Nat) (v : Value) (L : List Nat) : Prop :=
  ∃ g cap, v = .slice (some ⟨g, 0, none⟩) L.length cap ∧ B ≤ g ∧ g < w.heap.size ∧ L.length ≤ cap ∧ cap ≤ maxLen ∧ ∀ j, j < L.length → w.cell? ⟨g, j, none⟩ = some (.float .f64 (L.getD j 0)) ∧ w.frozen? ⟨g, j, none⟩ = false

theorem info_f64 : (Try.prog.info? 26).map (fun i => (i.zero, i.size, i.bytes)) = some (some (.float .f64 0), 1, 8) := by kernel_rfl
theorem info_parts {P : Program} {t : TypeId} {z : Value} {s b : Nat} (h : (P.info? t).map (fun i => (i.zero, i.size, i.bytes)) = some (some z, s, b)) : ∃ i0, P.info? t = some i0 ∧ i0.zero = some z ∧ i0.size = s ∧ i0.bytes = b := by
  obtain ⟨i, hi, he⟩ := Option.map_eq_some_iff.1 h
  simp only [Prod.mk.injEq] at he
  exact ⟨i, hi, he.1, he.2.1, he.2.2⟩

theorem clone_any (v : Value) (L : List Nat) (w : World) (h : Go.Proofs.Ytecbbdbeihiioaa.FlAt w v L) (h1 : 0 < L.length) (h2 : L.length ≤ 4096) :
    Calls Try.prog 41 #[v] w fun e w' => ∃ v', e = .returned v' ∧ OwnFl w' w.heap.size v' L ∧ RowKit.Below w.heap.size w w' := by
  obtain ⟨h0, a, c, rfl, hl, hc, hr⟩ := h
  obtain ⟨b, off, rfl, hcell⟩ := hr h1
  have hlen : (L.map fun x => Value.float .f64 x).length = L.length * 1 := by simp
  have hmax : L.length ≤ maxLen := by omega
  obtain ⟨i0, hi, hz0, hz1, hz2⟩ := info_parts info_f64
  refine (Try.slices_Clone i0 (.float .f64 0) 1 8 hi hz0 hz1 hz2 rfl (by decide) Try.sizeOf26 b off L.length c (L.map fun x => Value.float .f64 x) w hlen hmax (by omega) ?_ ?_).mono ?_
  · intro j u hj
    rw [List.getElem?_map] at hj
    have hjl : j < L.length := by
      refine Nat.lt_of_not_le fun hn => ?_
      rw [List.getElem?_eq_none hn] at hj
      cases hj
    rw [List.getElem?_eq_getElem hjl] at hj
    cases hj
    have := hcell j hjl
    rw [List.getD_eq_getElem?_getD, List.getElem?_eq_getElem hjl] at this
    exact this
  · intro u hu
    obtain ⟨x, _, rfl⟩ := List.mem_map.1 hu
    rfl
  · rintro e w' ⟨v', rfl, hown, _, hb⟩
    refine ⟨v', rfl, ?_, hb⟩
    have hown' := hown
    obtain ⟨_, ⟨rfl, hz⟩ | ⟨g, cap, cur, rfl, hg, hgw, hcap, hcm, _, _⟩⟩ := hown
    · omega
    · refine ⟨g, cap, rfl, hg, ?_, hcap, hcm, fun j hj => ⟨?_, hown'.frozenAt j⟩⟩
      · exact (hown'.lt g rfl).2
      · rw [hown'.cellAt j (by omega), List.getElem?_map, List.getD_eq_getElem?_getD, List.getElem?_eq_getElem hj]
        rfl

theorem below_sort {B : Nat} {a w : World} (h : RowKit.Below B a w) (blk off n : Nat) (d : Array W64) (os : Array Obj) (hB : B ≤ blk) (hw : B ≤ w.heap.size) : RowKit.Below B a (sortWorld encW w blk off n d os) := by
  have hsz : (putRow encW (Sort.ahead w n) blk off d).heap.size = w.heap.size := by simp [putRow, mapBlock, Sort.ahead]
  refine h.trans ⟨rfl, rfl, rfl, ?_, fun k hk => ?_⟩
  · unfold sortWorld
    rw [size_grow]
    omega
  · unfold sortWorld
    rw [heap_grow_old _ _ (by omega)]
    show (w.heap.modify blk (onCells (putCells encW off d)))[k]? = _
    rw [Array.getElem?_modify, if_neg (by omega)]

/-- Real.Order as the sort's order. -/
def cfW (x y : W64) : Int := cmpZ (rk x.val) (rk y.val)
theorem ltW (x y : W64) : ltOf cfW x y = decide (rk x.val < rk y.val) := by
  unfold ltOf cfW
  rw [decide_eq_decide]
  exact cmpZ_lt
theorem swoW : SWO (ltOf cfW) where
  irrefl x := by rw [ltW]; simp
  trans x y z h1 h2 := by rw [ltW] at *; simp at *; omega
  ntrans x y z h1 h2 := by rw [ltW] at *; simp at *; omega

theorem sort_any (L : List Nat) (g cap : Nat) (w : World) (h0 : ∀ x ∈ L, x < 18446744073709551616) (hl : L.length < 4611686018427387904) (hg : g < w.heap.size) (hc : ∀ j, j < L.length → w.cell? ⟨g, j, none⟩ = some (.float .f64 (L.getD j 0)) ∧ w.frozen? ⟨g, j, none⟩ = false) :
    Calls Try.prog 42 #[.slice (some ⟨g, 0, none⟩) L.length cap, .func (.func 43) #[] #[]] w fun e w' => e = .returned (.tuple #[]) ∧
      ∃ L' : List Nat, L'.Perm L ∧ (∀ i j, i < j → j < L.length → rk (L'.getD i 0) ≤ rk (L'.getD j 0)) ∧ (∀ j, j < L.length → w'.cell? ⟨g, j, none⟩ = some (.float .f64 (L'.getD j 0))) ∧ (∀ B a, B ≤ g → RowKit.Below B a w → RowKit.Below B a w') := by
  have hsz : (listW L).toArray.size = L.length := by unfold listW; simp
  have hH : Holds encW w g 0 (listW L).toArray := by
    intro j hj
    rw [hsz] at hj
    rw [Nat.zero_add, List.getElem!_toArray, listW_get h0 hj]
    exact hc j hj
  have hcmp : CmpLays1 Try.prog 43 #[] encW cfW g 0 (listW L).toArray.size w := by
    intro m os dk _ x y
    exact (order_any x.val y.val _ x.property y.property).mono fun e w' ⟨he, hw⟩ => ⟨he, 0, #[], by rw [grow_empty]; exact hw.symm⟩
  have k := Try.slices_SortFunc encW (fun _ => rfl) cfW swoW 43 #[] g 0 cap (listW L).toArray w (enters_of Try.func43 (by kernel_rfl) rfl) hcmp hH hg (by omega)
  rw [hsz] at k
  refine k.mono ?_
  rintro e w' ⟨rfl, d', n, os, hp, hs, rfl⟩
  have hd : d'.size = L.length := by rw [hp.1, hsz]
  have hget : ∀ j, (d'.toList.map Subtype.val).getD j 0 = (d'[j]!).val := by
    intro j
    rw [List.getD_eq_getElem?_getD, List.getElem?_map, Array.getElem?_toList]
    by_cases hj : j < d'.size
    · rw [Array.getElem?_eq_getElem hj, getElem!_pos d' j hj]; rfl
    · rw [Array.getElem?_eq_none (by omega), getElem!_neg d' j hj]; rfl
  refine ⟨rfl, d'.toList.map Subtype.val, ?_, ?_, ?_, ?_⟩
  · have h3 := hp.2.2
    rw [← hsz] at h3
    have e1 : (d'.extract 0 (listW L).toArray.size).toList = d'.toList := by
      rw [Array.extract_eq_self_of_le (by omega)]
    have e2 : ((listW L).toArray.extract 0 (listW L).toArray.size).toList = listW L := by
      rw [Array.extract_eq_self_of_le (Nat.le_refl _)]
    rw [e1, e2] at h3
    have h4 := h3.map Subtype.val
    have e3 : (listW L).map Subtype.val = L := by
      unfold listW
      rw [List.map_map]
      refine (List.map_congr_left (fun x hx => ?_)).trans (List.map_id L)
      exact toW_val (h0 x hx)
    rw [e3] at h4
    exact h4
  · intro i j hij hj
    have h5 := hs i j (Nat.zero_le _) hij (by omega)
    rw [ltW] at h5
    rw [hget, hget]
    have := of_decide_eq_false h5
    omega
  · intro j hj
    have h6 := (holds_sortWorld encW w g 0 n (listW L).toArray d' os hg hH (by omega) j (by omega)).1
    rw [Nat.zero_add] at h6
    rw [h6, hget]
    rfl
  · intro B a hB hb
    exact below_sort hb g 0 n d' os hB (by omega)
end Go.Proofs.Ytecbbdbeihiioaa
