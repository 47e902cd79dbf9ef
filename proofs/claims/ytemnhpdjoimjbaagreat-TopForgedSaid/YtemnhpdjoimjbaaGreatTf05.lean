import Derived.Test.YtemnhpdjoimjbaaGreatTf04
namespace Go.Proofs.YtemnhpdjoimjbaaGreat.Top
set_option linter.unusedVariables false
theorem cmp_self : ∀ a : List Nat, cmpB a a = 0
  | [] => rfl
  | a :: as => by unfold cmpB; rw [if_neg (by omega), if_neg (by omega)]; exact cmp_self as
theorem cmp_eq : ∀ {a b : List Nat}, cmpB a b = 0 → a = b
  | [], [], _ => rfl
  | [], _ :: _, h => by simp [cmpB] at h
  | _ :: _, [], h => by simp [cmpB] at h
  | a :: as, b :: bs, h => by
    unfold cmpB at h
    split at h
    · simp at h
    split at h
    · simp at h
    rw [cmp_eq h, show a = b by omega]
theorem cmp_anti : ∀ a b : List Nat, cmpB a b = -cmpB b a
  | [], [] => rfl
  | [], _ :: _ => rfl
  | _ :: _, [] => rfl
  | a :: as, b :: bs => by
    unfold cmpB
    by_cases h : a < b
    · rw [if_pos h, if_neg (by omega), if_pos h]
    · by_cases h' : b < a
      · rw [if_neg h, if_pos h', if_pos h']; rfl
      · rw [if_neg h, if_neg h', if_neg h', if_neg h]; exact cmp_anti as bs
theorem cmp_three : ∀ a b : List Nat, cmpB a b = -1 ∨ cmpB a b = 0 ∨ cmpB a b = 1
  | [], [] => by simp [cmpB]
  | [], _ :: _ => by simp [cmpB]
  | _ :: _, [] => by simp [cmpB]
  | a :: as, b :: bs => by
    unfold cmpB
    split
    · exact .inl rfl
    split
    · exact .inr (.inr rfl)
    · exact cmp_three as bs
theorem cmp_trans : ∀ {a b c : List Nat}, cmpB a b < 0 → cmpB b c < 0 → cmpB a c < 0
  | [], [], c, h, _ => by simp [cmpB] at h
  | [], _ :: _, [], _, h => by simp [cmpB] at h
  | [], _ :: _, _ :: _, _, _ => by simp [cmpB]
  | _ :: _, [], _, h, _ => by simp [cmpB] at h
  | _ :: _, _ :: _, [], _, h => by simp [cmpB] at h
  | a :: as, b :: bs, c :: cs, h, h' => by
    unfold cmpB at h h' ⊢
    split at h
    · split at h'
      · rw [if_pos (by omega)]; decide
      · split at h'
        · simp at h'
        · rw [if_pos (by omega)]; decide
    · split at h
      · simp at h
      · split at h'
        · rw [if_pos (by omega)]; decide
        · split at h'
          · simp at h'
          · rw [if_neg (by omega), if_neg (by omega)]; exact cmp_trans h h'
theorem ident_eq {p q : Int} {k l : List Nat} (hp0 : 0 ≤ p) (hp : p < 32) (hq0 : 0 ≤ q) (hq : q < 32) (h : ident p k = ident q l) : p = q ∧ k = l := by
  unfold ident at h
  injection h with h1 h2
  refine ⟨?_, h2⟩
  omega
def cid (c : Cell) : List Nat := ident c.pol c.key
theorem find_lt : ∀ (L : List Cell) (id : List Nat) (c : Cell), c ∈ L.take (L.takeWhile fun c => cmpB (cid c) id < 0).length → cmpB (cid c) id < 0
  | [], id, c, hc => by simp at hc
  | a :: L, id, c, hc => by
    by_cases ha : cmpB (cid a) id < 0
    · simp only [List.takeWhile_cons, ha, decide_true, if_true, List.length_cons, List.take_succ_cons] at hc
      rcases List.mem_cons.1 hc with rfl | hc
      · exact ha
      · exact find_lt L id c hc
    · simp only [List.takeWhile_cons, ha, decide_false, Bool.false_eq_true, if_false, List.length_nil, List.take_zero] at hc
      simp at hc
theorem find_ge (L : List Cell) (id : List Nat) (h : L.Pairwise identLt) (c : Cell) (hc : c ∈ L.drop (L.takeWhile fun c => cmpB (cid c) id < 0).length) : ¬ cmpB (cid c) id < 0 := by
  induction L with
  | nil => simp at hc
  | cons a L ih =>
    rw [List.pairwise_cons] at h
    by_cases ha : cmpB (cid a) id < 0
    · simp only [List.takeWhile_cons, ha, decide_true, if_true, List.length_cons, List.drop_succ_cons] at hc
      exact ih h.2 hc
    · simp only [List.takeWhile_cons, ha, decide_false] at hc
      simp only [Bool.false_eq_true, if_false, List.length_nil, List.drop_zero] at hc
      rcases List.mem_cons.1 hc with rfl | hc
      · exact ha
      · intro hlt
        exact ha (cmp_trans (h.1 c hc) hlt)
theorem findAt_eq (L : List Cell) (pol : Int) (key : List Nat) : findAt L pol key = (L.takeWhile fun c => cmpB (cid c) (ident pol key) < 0).length := rfl
theorem findAt_le (L : List Cell) (pol : Int) (key : List Nat) : findAt L pol key ≤ L.length := by
  rw [findAt_eq]
  exact (List.takeWhile_prefix _).length_le
theorem there_get {L : List Cell} {pol : Int} {key : List Nat} (h : findThere L pol key = true) : ∃ c, L[findAt L pol key]? = some c ∧ cid c = ident pol key ∧ findCell L pol key = c ∧ c ∈ L := by
  unfold findThere at h
  split at h
  · rename_i c hc
    have hmem : c ∈ L := List.mem_of_getElem? hc
    refine ⟨c, hc, cmp_eq (a := ident c.pol c.key) (by simpa using h), ?_, hmem⟩
    unfold findCell
    rw [if_pos (by unfold findThere; rw [hc]; exact h), List.getD_eq_getElem?_getD, hc]
    rfl
  · cases h
theorem not_there {L : List Cell} (hw : WfL L) {pol : Int} {key : List Nat} (h : findThere L pol key = false) : findCell L pol key = ⟨pol, key, 0, []⟩ ∧ ∀ c ∈ L, cid c ≠ ident pol key := by
  refine ⟨by unfold findCell; rw [h]; rfl, fun c hc e => ?_⟩
  rw [← List.take_append_drop (findAt L pol key) L, List.mem_append] at hc
  rcases hc with hc | hc
  · have := find_lt L (ident pol key) c hc
    rw [e, cmp_self] at this
    omega
  · cases hd : L.drop (findAt L pol key) with
    | nil => rw [hd] at hc; cases hc
    | cons a T =>
      rw [hd] at hc
      have hget : L[findAt L pol key]? = some a := by rw [← List.head?_drop, hd]; rfl
      have hna : cmpB (cid a) (ident pol key) ≠ 0 := by
        intro e0
        unfold findThere at h
        rw [hget] at h
        have h' : (cmpB (cid a) (ident pol key) == 0) = false := h
        rw [e0] at h'
        simp at h'
      have hga : ¬ cmpB (cid a) (ident pol key) < 0 := find_ge L (ident pol key) hw.order a (by show a ∈ L.drop (findAt L pol key); rw [hd]; exact List.mem_cons_self ..)
      rcases List.mem_cons.1 hc with rfl | hc
      · rw [e, cmp_self] at hna; exact hna rfl
      · have hp : (a :: T).Pairwise identLt := by rw [← hd]; exact List.Pairwise.sublist (List.drop_sublist _ _) hw.order
        have := (List.pairwise_cons.1 hp).1 c hc
        have hlt : cmpB (cid a) (cid c) < 0 := this
        rw [e] at hlt
        exact hga hlt
/-- What is found of an identity. -/
theorem findCell_id {L : List Cell} (hw : WfL L) {pol : Int} {key : List Nat} (h0 : 0 ≤ pol) (h1 : pol < 32) : (findCell L pol key).pol = pol ∧ (findCell L pol key).key = key := by
  cases ht : findThere L pol key with
  | true =>
    obtain ⟨c, _, h2, h3, h4⟩ := there_get ht
    have ok := hw.ok c h4
    rw [h3]
    exact ident_eq ok.pol0 ok.pol1 h0 h1 h2
  | false => rw [(not_there hw ht).1]; exact ⟨rfl, rfl⟩
theorem findCell_ok {L : List Cell} (hw : WfL L) {pol : Int} {key : List Nat} (h0 : 0 ≤ pol) (h1 : pol < 32) (hk : key.length ≤ 255) (hb : ∀ b ∈ key, b < 256) : CellOk (findCell L pol key) := by
  cases ht : findThere L pol key with
  | true =>
    obtain ⟨c, _, h2, h3, h4⟩ := there_get ht
    rw [h3]
    exact hw.ok c h4
  | false =>
    rw [(not_there hw ht).1]
    exact ⟨h0, h1, hk, hb, Int.le_refl 0, (by decide : (0 : Int) ≤ 4611686018427387903), fun n hn => by simp at hn, List.Pairwise.nil, by simp⟩
/-- A cell that has an identity, in its place. -/
theorem withCell_ok {L : List Cell} (hw : WfL L) {c : Cell} (hc : CellOk c) (hfew : L.length < 1048576) : WfL (withCell L (findAt L c.pol c.key) (findThere L c.pol c.key) c) := by
  cases ht : findThere L c.pol c.key with
  | true =>
    obtain ⟨c', hg, h2, h3, h4⟩ := there_get ht
    unfold withCell
    rw [if_pos rfl]
    refine ⟨fun d hd => ?_, ?_, by simpa using hw.few⟩
    · rcases List.mem_or_eq_of_mem_set hd with h | h
      · exact hw.ok d h
      · rw [h]; exact hc
    · have ho := hw.order
      rw [List.pairwise_iff_getElem] at ho ⊢
      intro i j hi hj hij
      rw [List.length_set] at hi hj
      have hlt : findAt L c.pol c.key < L.length := (List.getElem?_eq_some_iff.1 hg).1
      have hgc : L[findAt L c.pol c.key] = c' := (List.getElem?_eq_some_iff.1 hg).2
      have key : ∀ k (hk : k < L.length), cid ((L.set (findAt L c.pol c.key) c)[k]'(by simpa using hk)) = cid L[k] := by
        intro k hk
        rw [List.getElem_set]
        split
        · rename_i e
          subst e
          rw [hgc, h2]
          rfl
        · rfl
      have := ho i j hi hj hij
      unfold identLt at this ⊢
      have e1 := key i hi
      have e2 := key j hj
      unfold cid at e1 e2
      rw [e1, e2]
      exact this
  | false =>
    have hn := (not_there hw ht).2
    unfold withCell
    rw [if_neg (by simp)]
    refine ⟨fun d hd => ?_, ?_, by simp [List.length_take, List.length_drop]; have := findAt_le L c.pol c.key; omega⟩
    · rw [List.append_assoc, List.mem_append, List.mem_append] at hd
      rcases hd with h | h | h
      · exact hw.ok d (List.mem_of_mem_take h)
      · rw [List.mem_singleton.1 h]; exact hc
      · exact hw.ok d (List.mem_of_mem_drop h)
    · have ho := hw.order
      rw [← List.take_append_drop (findAt L c.pol c.key) L, List.pairwise_append] at ho
      rw [List.append_assoc, List.pairwise_append]
      refine ⟨ho.1, ?_, ?_⟩
      · rw [List.singleton_append, List.pairwise_cons]
        refine ⟨fun d hd => ?_, ho.2.1⟩
        have h1 := find_ge L (ident c.pol c.key) hw.order d hd
        have h2 := hn d (List.mem_of_mem_drop hd)
        have h3 : cmpB (cid d) (ident c.pol c.key) ≠ 0 := fun e => h2 (cmp_eq e)
        show cmpB (cid c) (cid d) < 0
        have h4 := cmp_anti (cid c) (cid d)
        have h5 := cmp_three (cid d) (cid c)
        have e : ident c.pol c.key = cid c := rfl
        rw [e] at h1 h3
        omega
      · intro a ha b hb
        rw [List.singleton_append] at hb
        rcases List.mem_cons.1 hb with rfl | hb
        · exact find_lt L (ident _ _) a ha
        · exact ho.2.2 a ha b hb
theorem withCell_length {L : List Cell} {c : Cell} : (withCell L (findAt L c.pol c.key) (findThere L c.pol c.key) c).length = L.length + if findThere L c.pol c.key then 0 else 1 := by
  have := findAt_le L c.pol c.key
  unfold withCell
  split
  · simp
  · simp [List.length_take, List.length_drop]; omega
theorem mem_with {L : List Cell} {c : Cell} (hw : WfL L) (d : Cell) : d ∈ withCell L (findAt L c.pol c.key) (findThere L c.pol c.key) c ↔ (if cid d = cid c then d = c else d ∈ L) := by
  cases ht : findThere L c.pol c.key with
  | true =>
    obtain ⟨c', hg, h2, h3, h4⟩ := there_get ht
    have hlt : findAt L c.pol c.key < L.length := (List.getElem?_eq_some_iff.1 hg).1
    have hgc : L[findAt L c.pol c.key] = c' := (List.getElem?_eq_some_iff.1 hg).2
    unfold withCell
    rw [if_pos rfl]
    have uniq : ∀ d ∈ L, cid d = cid c → d = c' := by
      intro d hd e
      obtain ⟨i, hi, rfl⟩ := List.getElem_of_mem hd
      rcases Nat.lt_trichotomy i (findAt L c.pol c.key) with h | h | h
      · have := (List.pairwise_iff_getElem.1 hw.order) i _ hi hlt h
        have : cmpB (cid L[i]) (cid L[findAt L c.pol c.key]) < 0 := this
        rw [hgc, h2, e] at this
        have e : ident c.pol c.key = cid c := rfl
        rw [e, cmp_self] at this
        omega
      · subst h; exact hgc
      · have := (List.pairwise_iff_getElem.1 hw.order) _ i hlt hi h
        have : cmpB (cid L[findAt L c.pol c.key]) (cid L[i]) < 0 := this
        rw [hgc, h2, e] at this
        have e : ident c.pol c.key = cid c := rfl
        rw [e, cmp_self] at this
        omega
    constructor
    · intro hd
      rw [List.mem_iff_getElem] at hd
      obtain ⟨i, hi, rfl⟩ := hd
      rw [List.getElem_set]
      split
      · rw [if_pos rfl]
      · rename_i hne
        rw [List.length_set] at hi
        have hmem : L[i] ∈ L := List.getElem_mem hi
        split
        · rename_i e
          have h5 := uniq _ hmem e
          rcases Nat.lt_trichotomy i (findAt L c.pol c.key) with h | h | h
          · have := (List.pairwise_iff_getElem.1 hw.order) i _ hi hlt h
            have : cmpB (cid L[i]) (cid L[findAt L c.pol c.key]) < 0 := this
            rw [hgc, h5, cmp_self] at this
            omega
          · exact absurd h.symm hne
          · have := (List.pairwise_iff_getElem.1 hw.order) _ i hlt hi h
            have : cmpB (cid L[findAt L c.pol c.key]) (cid L[i]) < 0 := this
            rw [hgc, h5, cmp_self] at this
            omega
        · exact hmem
    · intro hd
      split at hd
      · subst hd
        exact List.mem_iff_getElem.2 ⟨findAt L d.pol d.key, by simpa using hlt, by simp⟩
      · rename_i hne
        obtain ⟨i, hi, rfl⟩ := List.getElem_of_mem hd
        refine List.mem_iff_getElem.2 ⟨i, by simpa using hi, ?_⟩
        rw [List.getElem_set_ne]
        intro e
        subst e
        rw [hgc] at hne
        exact hne h2
  | false =>
    have hn := (not_there hw ht).2
    unfold withCell
    rw [if_neg (by simp), List.append_assoc, List.mem_append, List.singleton_append, List.mem_cons]
    have hmem : d ∈ L ↔ d ∈ L.take (findAt L c.pol c.key) ∨ d ∈ L.drop (findAt L c.pol c.key) := by
      rw [← List.mem_append, List.take_append_drop]
    constructor
    · rintro (h | h | h)
      · have : ¬ cid d = cid c := hn d (hmem.2 (.inl h))
        rw [if_neg this]
        exact hmem.2 (.inl h)
      · rw [h, if_pos rfl]
      · have : ¬ cid d = cid c := hn d (hmem.2 (.inr h))
        rw [if_neg this]
        exact hmem.2 (.inr h)
    · intro h
      split at h
      · exact .inr (.inl h)
      · rcases hmem.1 h with h | h
        · exact .inl h
        · exact .inr (.inr h)
end Go.Proofs.YtemnhpdjoimjbaaGreat.Top
