import Derived.StillTail
import Derived.Deep.RegionHeld
namespace Go.Proofs.YtemnhpdjoimjbaaGreat
set_option linter.unusedVariables false
section
variable {P : Program} {pre tail : List Oper} {Q : Exit → Act → World → Prop}
def QT (P : Program) (pre tail : List Oper) (Q : Exit → Act → World → Prop) : Exit → Act → World → Prop
 | .normal, a, w => wpList P (pre ++ tail).toArray Q tail a w
 | .panic _, _, _ => False
 | e, a, w => Q e a w
def edgesB (pre : List Oper) : Bool :=
 (List.range pre.length).all fun i => match pre[i]? with
   | some o => (o.after.all fun e => !Region.binds .any e || decide (e.on < i)) && (match o.guard with | none => true | some (j, _) => decide (j < pre.length))
   | none => false
def splitB (pre tail : List Oper) : Bool :=
 edgesB pre && ((List.range pre.length).all fun i => Region.waitsFor .any (pre ++ tail).toArray pre.length i) && Region.chainB .any (pre ++ tail).toArray pre.length &&
   Region.seqB .any (pre ++ tail).toArray tail.length pre.length (Array.replicate pre.length true ++ Array.replicate tail.length false) && decide (0 < tail.length)
theorem edges_spec (h : edgesB pre = true) {i : Nat} {o : Oper} (hi : pre[i]? = some o) : (∀ e ∈ o.after, Region.binds .any e = true → e.on < i) ∧ ∀ j b, o.guard = some (j, b) → j < pre.length := by
 have hl : i < pre.length := (List.getElem?_eq_some_iff.1 hi).1
 have h1 := List.all_eq_true.1 h i (List.mem_range.2 hl)
 rw [hi] at h1
 simp only [Bool.and_eq_true] at h1
 refine ⟨fun e he hb => ?_, fun j b hg => ?_⟩
 · have := Array.all_eq_true'.1 h1.1 e he
   rw [hb] at this
   simpa using this
 · have h2 := h1.2
   rw [hg] at h2
   simpa using h2
theorem pre_get {i : Nat} (h : i < pre.length) : (pre ++ tail).toArray[i]? = pre.toArray[i]? := by
 simp [List.getElem?_append_left h]
theorem yielded_pre {j : Nat} (h : j < pre.length) (tmps : Array Value) : yielded (pre ++ tail).toArray tmps j = yielded pre.toArray tmps j := by
 unfold yielded
 rw [pre_get h]
theorem wanted_pre (h : edgesB pre = true) {i : Nat} {o : Oper} (hi : pre[i]? = some o) (tmps : Array Value) : Region.wanted o (yielded (pre ++ tail).toArray tmps) = Region.wanted o (yielded pre.toArray tmps) := by
 unfold Region.wanted
 cases hg : o.guard with
 | none => rfl
 | some g =>
   obtain ⟨j, b⟩ := g
   dsimp only
   rw [yielded_pre ((edges_spec h hi).2 j b hg)]
theorem lets_QT (h : LetsOut (QT P pre tail Q)) : LetsOut Q := h
theorem oper_QT {o : Oper} {a : Act} {w : World} {K : Act → World → Prop} (h : o.wp P a w K (QT P pre tail Q)) : o.wp P a w K Q := by
 unfold Oper.wp at *
 generalize (execOp a.eval o).run P w = r at *
 cases r with
 | ok n w' =>
   cases n <;> simp only [Oper.upon] at h ⊢ <;>
     first
       | exact h
       | exact Calls.mono h (fun e w'' he => by cases e <;> first | exact he | exact (he : False).elim)
 | halt x w' => cases x <;> simp only [Oper.upon] at h ⊢ <;> first | exact h | exact (h : False).elim
theorem getD_app {A B : Array Bool} {i : Nat} (d : Bool) (h : i < A.size) : (A ++ B).getD i d = A.getD i d := by
 simp [Array.getElem?_append_left h]
theorem getD_app2 {A : Array Bool} {g i : Nat} (h1 : A.size ≤ i) (h2 : i < A.size + g) (d : Bool) : (A ++ Array.replicate g false).getD i d = false := by
 rw [Array.getD_eq_getD_getElem?, Array.getElem?_append_right h1, Array.getElem?_replicate, if_pos (by omega)]
 rfl
theorem set_app {A B : Array Bool} {i : Nat} (h : i < A.size) : (A ++ B).setIfInBounds i true = A.setIfInBounds i true ++ B := by
 apply Array.ext_getElem?
 intro j
 rw [Array.getElem?_setIfInBounds]
 by_cases hj : j < A.size
 · rw [Array.getElem?_append_left (xs := A) hj, Array.getElem?_append_left (xs := A.setIfInBounds i true) (by simpa using hj), Array.getElem?_setIfInBounds]
   split
   · rw [if_pos (by simp; omega)]
   · rfl
 · rw [if_neg (by omega), Array.getElem?_append_right (by omega), Array.getElem?_append_right (by simp; omega)]
   simp
theorem all_true {A : Array Bool} (h : ∀ i, i < A.size → A.getD i true = true) : A = Array.replicate A.size true := by
 apply Array.ext_getElem?
 intro j
 rw [Array.getElem?_replicate]
 by_cases hj : j < A.size
 · rw [if_pos hj]
   have := h j hj
   rw [Array.getD_eq_getD_getElem?, Array.getElem?_eq_getElem hj] at this
   rw [Array.getElem?_eq_getElem hj]
   simpa using this
 · rw [if_neg hj, Array.getElem?_eq_none (by omega)]
theorem ready_some (h : edgesB pre = true) {listed : Array Bool} (hs : listed.size = pre.length) : ∀ (i : Nat), i < pre.length → listed.getD i true = false → ∃ j, j ∈ Region.ready .any pre.toArray listed := by
 intro i
 induction i using Nat.strongRecOn with
 | _ i ih =>
   intro hi hun
   obtain ⟨o, ho⟩ : ∃ o, pre[i]? = some o := ⟨_, List.getElem?_eq_getElem hi⟩
   by_cases hall : ∀ e ∈ o.after, Region.binds .any e = true → listed.getD e.on false = true
   · exact ⟨i, mem_ready.2 ⟨hun, o, by simpa using ho, hall⟩⟩
   · simp only [Classical.not_forall] at hall
     obtain ⟨e, he, hb, hl⟩ := hall
     have hlt := (edges_spec h ho).1 e he hb
     have hl' : listed.getD e.on false = false := by simpa using hl
     exact ih e.on hlt (by omega) (getD_in (by omega) hl')
theorem wpAny_fuel {ops : Array Oper} : ∀ (f : Nat) (listed : Array Bool) (a : Act) (w : World), wpAny P .any ops Q f listed a w → wpAny P .any ops Q (f + 1) listed a w
 | 0, listed, a, w, h => ⟨fun _ => h.2, fun i hi => (by rw [h.1] at hi; cases hi)⟩
 | f + 1, listed, a, w, h => ⟨h.1, fun i hi => wpOp_mono (fun a' w' h' => wpAny_fuel f _ a' w' h') (h.2 i hi)⟩
theorem wpAny_more {ops : Array Oper} {f : Nat} {listed : Array Bool} {a : Act} {w : World} (h : wpAny P .any ops Q f listed a w) : ∀ g, wpAny P .any ops Q (g + f) listed a w
 | 0 => by rw [Nat.zero_add]; exact h
 | g + 1 => by
   rw [show g + 1 + f = (g + f) + 1 by omega]
   exact wpAny_fuel _ _ _ _ (wpAny_more h g)
theorem split_tail (hB : splitB pre tail = true) {listed : Array Bool} (hs : listed.size = pre.length) (hr : Region.ready .any pre.toArray listed = []) {a : Act} {w : World} (h : wpList P (pre ++ tail).toArray Q tail a w) : wpAny P .any (pre ++ tail).toArray Q tail.length (listed ++ Array.replicate tail.length false) a w := by
 simp only [splitB, Bool.and_eq_true, decide_eq_true_eq] at hB
 obtain ⟨⟨⟨⟨hE, _⟩, _⟩, hq⟩, _⟩ := hB
 have hall : listed = Array.replicate pre.length true := by
   rw [← hs]
   refine all_true fun i hi => ?_
   cases hl : listed.getD i true with
   | true => rfl
   | false =>
     obtain ⟨j, hj⟩ := ready_some hE hs i (by omega) hl
     rw [hr] at hj
     cases hj
 rw [hall]
 exact wpAny_of_seq (md := .any) tail pre.length _ a w (fun j => by simp [List.getElem?_append_right]) hq h
theorem wpAny_split (hB : splitB pre tail = true) : ∀ (f : Nat) (listed : Array Bool) (a : Act) (w : World), listed.size = pre.length →
   wpAny P .any pre.toArray (QT P pre tail Q) f listed a w → wpAny P .any (pre ++ tail).toArray Q (f + tail.length) (listed ++ Array.replicate tail.length false) a w
 | 0, listed, a, w, hs, h => by
   rw [Nat.zero_add]
   exact split_tail hB hs h.1 h.2
 | f + 1, listed, a, w, hs, h => by
   by_cases hr : Region.ready .any pre.toArray listed = []
   · exact wpAny_more (split_tail hB hs hr (h.1 hr)) (f + 1)
   · have hB' := hB
     simp only [splitB, Bool.and_eq_true, decide_eq_true_eq] at hB'
     obtain ⟨⟨⟨⟨hE, hw⟩, hc⟩, _⟩, h0⟩ := hB'
     obtain ⟨i0, hi0⟩ := List.exists_mem_of_ne_nil _ hr
     obtain ⟨hu0, o0, ho0, _⟩ := mem_ready.1 hi0
     have hl0 : i0 < pre.length := by simpa using (Array.getElem?_eq_some_iff.1 ho0).1
     have hnot : ∀ t, pre.length ≤ t → t ∉ Region.ready .any (pre ++ tail).toArray (listed ++ Array.replicate tail.length false) := fun t ht hm => by
       obtain ⟨_, ot, hot, hall⟩ := mem_ready.1 hm
       have htl : t < (pre ++ tail).toArray.size := (Array.getElem?_eq_some_iff.1 hot).1
       have htl' : t < pre.length + tail.length := by simpa using htl
       by_cases htn : t = pre.length
       · subst htn
         have h1 := List.all_eq_true.1 hw i0 (List.mem_range.2 hl0)
         obtain ⟨oj, hoj, e, he, hb, hon⟩ := Region.waitsFor_spec h1
         have : oj = ot := Option.some.inj (hoj.symm.trans hot)
         subst this
         have h2 := hall e he hb
         rw [hon, getD_app _ (by omega), getD_both hu0] at h2
         cases h2
       · have h1 := List.all_eq_true.1 hc t (List.mem_range.2 htl)
         simp only [Bool.or_eq_true, decide_eq_true_eq] at h1
         rcases h1 with h1 | h1
         · omega
         · obtain ⟨o', ho', e, he, hb, hon⟩ := Region.waitsFor_spec h1
           have : o' = ot := Option.some.inj (ho'.symm.trans hot)
           subst this
           have h2 := hall e he hb
           rw [hon, getD_app2 (by omega) (by omega)] at h2
           cases h2
     rw [show f + 1 + tail.length = (f + tail.length) + 1 by omega]
     have key : ∀ i, i ∈ Region.ready .any (pre ++ tail).toArray (listed ++ Array.replicate tail.length false) → i < pre.length ∧ i ∈ Region.ready .any pre.toArray listed := fun i hi => by
       have hlt : i < pre.length := by
         rcases Nat.lt_or_ge i pre.length with h | h
         · exact h
         · exact absurd hi (hnot i h)
       obtain ⟨hu, o, ho, hall⟩ := mem_ready.1 hi
       rw [pre_get hlt] at ho
       rw [getD_app _ (by omega)] at hu
       refine ⟨hlt, mem_ready.2 ⟨hu, o, ho, fun e he hb => ?_⟩⟩
       have := hall e he hb
       have hlt2 := (edges_spec hE (by simpa using ho)).1 e he hb
       rwa [getD_app _ (by omega)] at this
     refine ⟨fun h1 => ?_, fun i hi => ?_⟩
     · exfalso
       have : i0 ∈ Region.ready .any (pre ++ tail).toArray (listed ++ Array.replicate tail.length false) := by
         obtain ⟨hu, o, ho, hall⟩ := mem_ready.1 hi0
         refine mem_ready.2 ⟨by rw [getD_app _ (by omega)]; exact hu, o, by rw [pre_get hl0]; exact ho, fun e he hb => ?_⟩
         have hlt2 := (edges_spec hE (by simpa using ho)).1 e he hb
         rw [getD_app _ (by omega)]
         exact hall e he hb
       rw [h1] at this
       cases this
     · obtain ⟨hlt, hi'⟩ := key i hi
       have h2 := h.2 i hi'
       obtain ⟨o, ho⟩ : ∃ o, pre[i]? = some o := ⟨_, List.getElem?_eq_getElem hlt⟩
       have hstep : wpOp P (pre ++ tail).toArray Q i (wpAny P .any pre.toArray (QT P pre tail Q) f (listed.setIfInBounds i true)) a w := by
         unfold wpOp at h2 ⊢
         rw [pre_get hlt]
         rw [show pre.toArray[i]? = some o by simpa using ho] at h2 ⊢
         dsimp only at h2 ⊢
         rw [wanted_pre hE ho]
         split
         · rename_i hwt
           rw [if_pos hwt] at h2
           exact h2.imp oper_QT fun h => ⟨h.1, lets_QT h.2⟩
         · rename_i hwt
           rw [if_neg hwt] at h2
           exact h2
       refine wpOp_mono (fun a' w' h' => ?_) hstep
       rw [set_app (by omega)]
       exact wpAny_split hB f _ a' w' (by simpa using hs) h'
theorem wp_region_split {id : Nat} {a : Act} {w : World} {S : World → Prop} (n : Nat) {l : List Oper} (hm : P.follows .mixedOrders = true) (hB : splitB (l.take n) (l.drop n) = true) (hS : S w.drew)
   (h : S w.drew → wpAnyH P .any (l.take n).toArray (QT P (l.take n) (l.drop n) Q) S (l.take n).length (Array.replicate (l.take n).length false) a w.drew) : (Code.region id l.toArray true).wp P Q a w := by
 refine wp_region_any hm ?_
 have h1 := wpAny_split (Q := Q) hB _ _ a _ (by simp) (wpAny_of_held _ _ _ _ (h hS))
 have e1 : (l.take n).length + (l.drop n).length = l.toArray.size := by simp; omega
 have e2 : Array.replicate (l.take n).length false ++ Array.replicate (l.drop n).length false = Array.replicate l.toArray.size false := by
   rw [Array.replicate_append_replicate, e1]
 rw [List.take_append_drop, e1, e2] at h1
 exact h1
theorem heldTake {S : World → Prop} {l : List Oper} {i : Nat} {o : Oper} {v : Value} {fuel : Nat} {listed : Array Bool} {a : Act} {w : World} {T : List Oper} (hi : l[i]? = some o) (hs : Region.noSelect l.toArray = true) (hf : Region.free .any l.toArray listed i = true)
   (hr : (Region.ready .any l.toArray listed).contains i = true) (hw : Region.wanted o (yielded l.toArray a.tmps) = true) (hy : ∀ w, S w → (execOp a.eval o).run P w = .ok (.value v) w) (hS : S w)
   (h : wpAnyH P .any l.toArray (QT P l T Q) S fuel (listed.setIfInBounds i true) (a.put o.dst v) w) : wpAnyH P .any l.toArray (QT P l T Q) S (fuel + 1) listed a w :=
 wpAnyH_take (by simpa using hi) hs hf hr (fun _ _ _ h => h) (Or.inl ⟨hw, hy⟩) hS h
theorem heldStep {S : World → Prop} {l : List Oper} {i : Nat} {o : Oper} {fuel : Nat} {listed : Array Bool} {a : Act} {w : World} {T : List Oper} (hi : l[i]? = some o) (hr : Region.ready .any l.toArray listed = [i])
   (h : ∀ K' : Act → World → Prop, Shut (∀ a w, S w → (S w → wpAnyH P .any l.toArray (QT P l T Q) S fuel (listed.setIfInBounds i true) a w) → K' a w) → if Region.wanted o (yielded l.toArray a.tmps) = true then Oper.wp P o a w K' (QT P l T Q) else K' (a.put o.dst undef) w) :
   wpAnyH P .any l.toArray (QT P l T Q) S (fuel + 1) listed a w :=
 wpAnyH_ready hr (by simp) (AllReadyH.cons (by simpa using hi) h AllReadyH.nil)
theorem heldDone {S : World → Prop} {l : List Oper} {fuel : Nat} {listed : Array Bool} {a : Act} {w : World} {T : List Oper} (hr : Region.ready .any l.toArray listed = []) (h : wpList P (l ++ T).toArray Q T a w) : wpAnyH P .any l.toArray (QT P l T Q) S fuel listed a w :=
 wpAnyH_done hr h _
end
end Go.Proofs.YtemnhpdjoimjbaaGreat
