import Derived.Test.YtemnhpdjoimjbaaGreatTs45
namespace Go.Proofs.YtemnhpdjoimjbaaGreat
section
open Go.RowKit Top Go.Sort
set_option linter.unusedVariables false
theorem grow_of_below {w w' : World} (hb : RowKit.Below w.heap.size w w') (hd : w.drawn ≤ w'.drawn) : ∃ q os, w' = grow (w.drewN q) os := by
 refine ⟨w'.drawn - w.drawn, w'.heap.extract w.heap.size w'.heap.size, ?_⟩
 have h1 : w'.heap = w.heap ++ w'.heap.extract w.heap.size w'.heap.size := by
   apply Array.ext_getElem?
   intro i
   by_cases hi : i < w.heap.size
   · rw [Array.getElem?_append_left hi]
     exact hb.block i hi
   · rw [Array.getElem?_append_right (by omega), Array.getElem?_extract]
     by_cases hj : i < w'.heap.size
     · rw [if_pos (by omega)]
       congr 1
       omega
     · rw [if_neg (by omega), Array.getElem?_eq_none (by omega)]
 have h2 : w.drawn + (w'.drawn - w.drawn) = w'.drawn := by omega
 have h3 := hb.os; have h4 := hb.tape; have h5 := hb.output
 cases w with
 | mk heap tape drawn os output =>
 cases w' with
 | mk heap' tape' drawn' os' output' =>
   dsimp only at h1 h2 h3 h4 h5
   subst h3 h4 h5
   simp only [World.drewN, grow]
   rw [h2]
   congr 1
abbrev GoodCV (w : World) := { x : CV // x.ok w ∧ CellOk x.c }
theorem held_nil (w : World) : HeldAt w (.slice none 0 0) [] := Row.nil w _ _ none 0 (by decide)
theorem key_nil (w : World) : KeyAt w (.slice none 0 0) [] := ⟨fun x h => (by cases h), Row.nil w _ _ none 0 (by decide)⟩
instance goodInh (w : World) : Inhabited (GoodCV w) := ⟨⟨⟨⟨0, [], 0, []⟩, .slice none 0 0, .slice none 0 0⟩, ⟨key_nil w, held_nil w⟩, ⟨by decide, by decide, by decide, fun b h => (by cases h), by decide, by decide, fun n h => (by cases h), List.Pairwise.nil, by decide⟩⟩⟩
def encG (w : World) (x : GoodCV w) : List Value := x.val.enc
def cfG (w : World) (x y : GoodCV w) : Int := cmpB (cid x.val.c) (cid y.val.c)
theorem swoG (w : World) : SWO (ltOf (cfG w)) where
 irrefl x := by unfold ltOf cfG; rw [cmp_self]; rfl
 trans x y z h1 h2 := by
   unfold ltOf cfG at *
   exact decide_eq_true (cmp_trans (of_decide_eq_true h1) (of_decide_eq_true h2))
 ntrans x y z h1 h2 := by
   unfold ltOf cfG at *
   have h1 := of_decide_eq_false h1
   have h2 := of_decide_eq_false h2
   refine decide_eq_false fun h => ?_
   have a := cmp_anti (cid x.val.c) (cid y.val.c)
   by_cases e : cmpB (cid y.val.c) (cid x.val.c) = 0
   · have := cmp_eq e
     rw [this] at h2
     exact h2 h
   · exact h2 (cmp_trans (show cmpB (cid y.val.c) (cid x.val.c) < 0 by omega) h)
theorem sort_grown {α : Type} [Inhabited α] (enc : α → List Value) (k : Nat) (w : World) (blk off n : Nat) (d : Array α) (os : Array Obj) : w.grownBy (sortWorldK enc k w blk off n d os) (some blk) := by
 have hsz : (putRowK enc k (Sort.ahead w n) blk off d).heap.size = w.heap.size := by simp [putRowK, putRow, mapBlock, Sort.ahead]
 refine ⟨rfl, rfl, rfl, ?_, fun q hq hne => ?_⟩
 · unfold sortWorldK
   rw [size_grow]
   omega
 · unfold sortWorldK
   rw [heap_grow_old _ _ (by omega)]
   show (w.heap.modify blk (onCells (putCells id off (flatK enc k d))))[q]? = _
   rw [Array.getElem?_modify, if_neg (fun e => hne (by rw [e]))]
theorem sort_block {α : Type} [Inhabited α] (enc : α → List Value) (k : Nat) (w : World) (blk off n : Nat) (d : Array α) (os : Array Obj) {cur : Array Value} {t : TypeId} (hb : Bx w blk t cur) : Bx (sortWorldK enc k w blk off n d os) blk t (putCells id off (flatK enc k d) cur) := by
 have hsz : (putRowK enc k (Sort.ahead w n) blk off d).heap.size = w.heap.size := by simp [putRowK, putRow, mapBlock, Sort.ahead]
 have hlt := hb.lt
 unfold Bx sortWorldK
 rw [heap_grow_old _ _ (by omega)]
 show (w.heap.modify blk (onCells (putCells id off (flatK enc k d))))[blk]? = _
 rw [Array.getElem?_modify, if_pos rfl]
 unfold Bx at hb
 rw [hb]
 rfl
theorem flat_encs (w : World) (D : Array (GoodCV w)) : (flatK (encG w) 4 D).toList = encs (D.toList.map Subtype.val) := by
 apply List.ext_getElem?
 intro j
 by_cases hj : j < D.size * 4
 · have hq : j / 4 < D.size := by omega
   have e := encs_get (D.toList.map Subtype.val) (j / 4) (j % 4) (by simpa using hq) (by omega)
   rw [show 4 * (j / 4) + j % 4 = j by omega] at e
   rw [e, Array.getElem?_toList, Array.getElem?_eq_getElem (by rw [size_flatK]; exact hj)]
   have h2 := get_flatK (encG w) 4 D j hj
   rw [getElem!_pos _ j (by rw [size_flatK]; exact hj)] at h2
   rw [h2, getElem!_pos D (j / 4) hq]
   have h3 : (D.toList.map Subtype.val)[j / 4]'(by simpa using hq) = D[j / 4].val := by simp
   rw [h3]
   have h4 : j % 4 < (encG w D[j / 4]).length := by show j % 4 < 4; omega
   rw [getElem!_pos (encG w D[j / 4]) (j % 4) h4]
   exact (List.getElem?_eq_getElem h4).symm
 · rw [Array.getElem?_toList, Array.getElem?_eq_none (by rw [size_flatK]; omega), List.getElem?_eq_none (by rw [encs_length, List.length_map, Array.length_toList]; omega)]
set_option maxHeartbeats 2000000 in
theorem sort_any (g cap : Nat) (ys : List CV) (w : World) (base : Nat) (h : OwnCells w base (.slice (some ⟨g, 0, none⟩) ys.length cap) ys) (hok : ∀ y ∈ ys, CellOk y.c) (hl : ys.length < 4611686018427387904) :
   Calls Tryz.prog 26 #[.slice (some ⟨g, 0, none⟩) ys.length cap, .func (.func 27) #[] #[]] w fun e w' => e = .returned (.tuple #[]) ∧
     ∃ ys' : List CV, ys'.Perm ys ∧ ys'.Pairwise (fun a b => ¬ cmpB (cid b.c) (cid a.c) < 0) ∧ OwnCells w' base (.slice (some ⟨g, 0, none⟩) ys'.length cap) ys' ∧ (∀ B, B ≤ g → B ≤ w.heap.size → Below B w w') := by
 obtain ⟨hown, hys⟩ := h
 obtain ⟨hlen, ⟨e, _⟩ | ⟨g', cap', cur, e, hbg, hc, h2, h3, h4, h5⟩⟩ := hown
 · cases e
 injection e with e1 e2 e3
 injection e1 with e1
 injection e1 with e1
 subst e1 e3
 obtain ⟨d, hd⟩ : ∃ d : List (GoodCV w), d.map Subtype.val = ys := by
   refine ⟨ys.attach.map fun y => ⟨y.val, hys y.val y.property, hok y.val y.property⟩, ?_⟩
   rw [List.map_map]
   exact List.attach_map_subtype_val ys
 have hdl : d.toArray.size = ys.length := by rw [← hd]; simp
 have hBx : Bx w g 45 cur := hc
 have hget : ∀ i, i < ys.length → (d.toArray[i]!).val = ys[i]! := by
   intro i hi
   have hi' : i < d.length := by rw [← hd, List.length_map] at hi; exact hi
   rw [List.getElem!_toArray, getElem!_pos d i hi', getElem!_pos ys i hi]
   have : ys[i] = (d.map Subtype.val)[i]'(by rw [List.length_map]; exact hi') := by simp only [hd]
   rw [this, List.getElem_map]
 have hfl : (flatK (encG w) 4 d.toArray).toList = encs ys := by rw [flat_encs, hd]
 have hH : HoldsK (encG w) 4 w g 0 d.toArray := by
   intro j hj
   rw [size_flatK, hdl] at hj
   refine ⟨?_, hBx.free _⟩
   rw [Nat.zero_add, hBx.cell]
   have e1 : (encs ys)[j]? = some (flatK (encG w) 4 d.toArray)[j]! := by
     rw [← hfl, Array.getElem?_toList, getElem!_pos _ j (by rw [size_flatK, hdl]; exact hj), Array.getElem?_eq_getElem]
   rw [← h5, List.getElem?_take_of_lt hj] at e1
   rw [← Array.getElem?_toList]
   exact e1
 have hcmp : CmpLays Tryz.prog 27 #[] (encG w) 4 (cfG w) g 0 d.toArray.size w := by
   intro m os dk _ x y
   have hg := sort_grown (encG w) 4 w g 0 m dk os
   have hr : ∀ q, some g = some q → ∃ c, w.heap[q]? = some (.cells c 45 (0, 0)) := fun q hq => by
     injection hq with hq
     subst hq
     exact ⟨cur, hc⟩
   have hx := x.property.1.grown hg hr
   have hy := y.property.1.grown hg hr
   obtain ⟨_, ha, hcc, hs1, _⟩ := id hx.2
   obtain ⟨_, ha', hcc', hs2, _⟩ := id hy.2
   refine (order_drawn x.val.c y.val.c x.val.kv x.val.hv y.val.kv y.val.hv (sortWorldK (encG w) 4 w g 0 m dk os) hx.1 hy.1 x.property.2 y.property.2 ⟨ha, _, hcc, hs1⟩ ⟨ha', _, hcc', hs2⟩).mono ?_
   rintro e w' ⟨he, hb, hdr⟩
   obtain ⟨q, os', hw⟩ := grow_of_below hb hdr
   exact ⟨he, q, os', hw⟩
 have k := Tryz.slices_SortFunc (α := GoodCV w) 4 Tryz.isAgg45 Tryz.sizeOf45 (encG w) (fun _ => rfl) (fun x => CV.one x.val w x.property.1) (cfG w) (swoG w) 27 #[] g 0 cap d.toArray w (enters_of Tryz.func27 (by kernel_rfl) rfl) hcmp hH hBx.lt (by omega)
 rw [hdl] at k
 refine k.mono ?_
 rintro e w' ⟨rfl, d', n, os, hp, hs, rfl⟩
 have hd' : d'.size = ys.length := by rw [hp.1, hdl]
 have hl' : (d'.toList.map Subtype.val).length = ys.length := by simp [hd']
 have hg := sort_grown (encG w) 4 w g 0 n d' os
 have hr : ∀ q, some g = some q → ∃ c, w.heap[q]? = some (.cells c 45 (0, 0)) := fun q hq => by
   injection hq with hq
   subst hq
   exact ⟨cur, hc⟩
 have hread : ∀ i (hi : i < d'.size), (d'.toList.map Subtype.val)[i]'(by simpa using hi) = d'[i]!.val := fun i hi => by
   rw [List.getElem_map, Array.getElem_toList, getElem!_pos d' i hi]
 refine ⟨rfl, d'.toList.map Subtype.val, ?_, ?_, ⟨⟨encs_length _, .inr ⟨g, cap, _, rfl, hbg, sort_block (encG w) 4 w g 0 n d' os hBx, by omega, h3, by rw [show (putCells id 0 (flatK (encG w) 4 d') cur).size = cur.size by simp [putCells]]; exact h4, ?_⟩⟩, fun y hy => ?_⟩, fun B hB hw => ?_⟩
 · have h6 := hp.2.2
   have e1 : (d'.extract 0 ys.length).toList = d'.toList := by rw [Array.extract_eq_self_of_le (by omega)]
   have e2 : (d.toArray.extract 0 ys.length).toList = d := by rw [Array.extract_eq_self_of_le (by omega)]
   rw [e1, e2] at h6
   have h7 := h6.map Subtype.val
   rwa [hd] at h7
 · rw [List.pairwise_iff_getElem]
   intro i j hi hj hij
   have hi' : i < d'.size := by simpa using hi
   have hj' : j < d'.size := by simpa using hj
   have h6 := hs i j (Nat.zero_le _) hij (by omega)
   rw [hread i hi', hread j hj']
   unfold ltOf cfG at h6
   exact of_decide_eq_false h6
 · rw [← flat_encs]
   apply List.ext_getElem?
   intro j
   have hfs : (flatK (encG w) 4 d').size = ys.length * 4 := by rw [size_flatK, hd']
   rw [List.getElem?_take]
   split
   · rename_i hj
     rw [hl'] at hj
     have hjc : j < cur.size := by rw [h4]; omega
     rw [Array.getElem?_toList, Array.getElem?_toList]
     unfold putCells
     rw [Array.getElem?_mapIdx, Array.getElem?_eq_getElem hjc, Option.map_some, if_pos ⟨Nat.zero_le _, by omega⟩, Nat.sub_zero, getElem!_pos _ j (by omega), Array.getElem?_eq_getElem (by omega)]
     rfl
   · rename_i hj
     rw [hl'] at hj
     rw [Array.getElem?_toList, Array.getElem?_eq_none (by omega)]
 · obtain ⟨x, hx, rfl⟩ := List.mem_map.1 hy
   exact x.property.1.grown hg hr
 · exact ((Below.refl B w).grown hg hw (fun q hq => by injection hq with hq; omega))
end
section
open Go.RowKit Top
set_option linter.unusedVariables false
set_option maxHeartbeats 2000000 in
set_option maxRecDepth 100000 in
theorem insert_nil (fv : Value) (w : World) : Calls Tryz.prog 73 #[.slice none 0 0, .int .i64 0, .int .i64 0, fv] w fun e w' => e = .returned (.tuple #[]) ∧ Below w.heap.size w w' := by
 go_enter Tryz.func73, Tryz.ntmps73
 go_wp2
 go_loopw [8] (fun i wr => i = .int .i64 1 ∧ Below w.heap.size w wr) (fun _ _ => 0)
 case atStart => exact ⟨rfl, Below.refl _ _⟩
 case round =>
   obtain ⟨rfl, hb⟩ := hrel
   go_wp2
   exact bodyPost_end (v := .tuple #[]) (by simp [results, Tryz.results73, go_sem]) rfl ⟨rfl, hb⟩
set_option maxHeartbeats 2000000 in
set_option maxRecDepth 100000 in
theorem pdq_nil (fv : Value) (w : World) : Calls Tryz.prog 52 #[.slice none 0 0, .int .i64 0, .int .i64 0, .int .i64 0, fv] w fun e w' => e = .returned (.tuple #[]) ∧ Below w.heap.size w w' := by
 go_enter Tryz.func52, Tryz.ntmps52
 go_wp2
 go_loopw [1, 2] (fun a b wr => a = .int .i64 0 ∧ b = .int .i64 0 ∧ wr = w) (fun _ _ _ => 0)
 case atStart => exact ⟨rfl, rfl, rfl⟩
 case round =>
   obtain ⟨rfl, rfl, rfl⟩ := hrel
   go_wp2_with (go_at_call 73; (refine (insert_nil _ _).mono ?_); rintro e w2 ⟨rfl, hb⟩; have Hb := Lib.hid hb; clear hb)
   exact bodyPost_ret (v := .tuple #[]) (by simp [results, Tryz.results52, go_sem]) rfl ⟨rfl, Hb.out⟩
set_option maxHeartbeats 2000000 in
theorem sort_nil (fv : Value) (w : World) : Calls Tryz.prog 26 #[.slice none 0 0, fv] w fun e w' => e = .returned (.tuple #[]) ∧ Below w.heap.size w w' := by
 have Kl : Hid (∀ W, Calls Tryz.prog 53 #[.int .u64 0] W fun e w' => e = .returned (.int .i64 0) ∧ W = w') := fun W => (Tryz.bits_Len 0 W (by decide) (by decide)).mono fun _ _ ⟨h1, h2⟩ => ⟨h1, h2.symm⟩
 go_enter Tryz.func26, Tryz.ntmps26
 go_wp2_with (first
   | (go_at_call 53; (with_reducible refine (Kl.out _).mono ?_); rintro e w2 ⟨rfl, rfl⟩)
   | (go_at_call 52; (refine (pdq_nil _ _).mono ?_); rintro e w2 ⟨rfl, hb⟩; have Hb := Lib.hid hb; clear hb))
 exact bodyPost_end (v := .tuple #[]) (by simp [results, Tryz.results26, go_sem]) rfl ⟨rfl, Hb.out⟩
end
section
open Go.RowKit Top
set_option linter.unusedVariables false
variable {list : List Pol}
theorem wf_ne {L : List Cell} (h : WfL L) : L.Pairwise fun a b => cid a ≠ cid b := h.order.imp fun {a b} hab e => by
 unfold identLt at hab
 unfold cid at e
 rw [e, cmp_self] at hab
 omega
theorem half_wf {m : Mem} (hL : Lies list m) {L : List Cell} (h : WfL L) (j : Nat) : WfL (halfF m L j) := by
 unfold halfF
 split
 · exact h.filter _
 · exact hL.wf _
theorem half_shard {m : Mem} (hL : Lies list m) (hl : lvlOf m ≤ 3) {L : List Cell} {j : Nat} (hj : j < 2 ^ (lvlOf m + 1)) : ∀ c ∈ halfF m L j, shardOf c (lvlOf m + 1) = j := by
 intro c hc
 unfold halfF at hc
 split at hc
 · unfold cut at hc
   simpa using (List.mem_filter.1 hc).2
 · have := hL.shard (lvlOf m + 1) j (by omega) c hc
   rwa [Nat.mod_eq_of_lt hj] at this
theorem shard_down {c : Cell} {l j : Nat} (h : shardOf c (l + 1) = j) : shardOf c l = j % 2 ^ l := by
 unfold shardOf at *
 rw [← h, two_succ, Nat.mul_comm 2, Nat.mod_mul_right_mod]
structure ShardOk (m : Mem) (i : Nat) : Prop where
 own : ∀ c ∈ (shardF m i).flatten, shardOf c (lvlOf m) = i
 ne : (shardF m i).flatten.Pairwise fun a b => cid a ≠ cid b
 has : ∀ c, shardOf c (lvlOf m) = i → (c ∈ (shardF m i).flatten ↔ Has m c)
theorem shard_sum (c : Cell) (l : Nat) : shardOf c l = idSum c % 2 ^ l := rfl
theorem shard_ok {m : Mem} (hL : Lies list m) (hD : Dir m) {i : Nat} (hi : i < 2 ^ lvlOf m) : ShardOk m i := by
 have h4 : lvlOf m ≤ 4 := by have := hD.d8; unfold lvlOf; omega
 by_cases hc : movOf m = false ∨ m.word (place (lvlOf m) i) < FRZ
 · have e : shardF m i = [m.hold (place (lvlOf m) i)] := if_pos hc
   have ef : (shardF m i).flatten = m.hold (place (lvlOf m) i) := by rw [e]; simp
   refine ⟨fun c h => ?_, ?_, fun c h => ?_⟩
   · rw [ef] at h
     have := hL.shard (lvlOf m) i h4 c h
     rwa [Nat.mod_eq_of_lt hi] at this
   · rw [ef]
     exact wf_ne (hL.wf _)
   · rw [ef]
     have ep : place (lvlOf m) (idSum c) = place (lvlOf m) i := by
       rw [← place_mod (lvlOf m) (idSum c), ← shard_sum, h]
     have hw : curWord m (idSum c) = place (lvlOf m) i := by
       unfold curWord
       rw [if_neg]
       · exact ep
       · rintro ⟨h1, h2⟩
         rcases hc with hc | hc
         · unfold movOf at hc
           exact of_decide_eq_false hc h1
         · have h2 : FRZ ≤ m.word (place (lvlOf m) (idSum c)) := h2
           rw [ep] at h2
           omega
     have hpl := place_lt (lvlOf m) i
     have hne := (hD.cur (place (lvlOf m) i) hpl.1 hpl.2).1
     unfold Has curHold
     rw [hw, if_neg (by omega)]
 · have hc1 : movOf m = true := by
     cases e : movOf m with
     | true => rfl
     | false => exact absurd (.inl e) hc
   have hc2 : FRZ ≤ m.word (place (lvlOf m) i) := by
     refine Classical.byContradiction fun h => hc (.inr (by omega))
   have ho : m.word 0 % 2 = 1 := by unfold movOf at hc1; exact of_decide_eq_true hc1
   have h3 : lvlOf m ≤ 3 := hD.lvl3 ho
   have h2 := two_succ (lvlOf m)
   have e : shardF m i = [halfF m (m.hold (place (lvlOf m) i)) i, halfF m (m.hold (place (lvlOf m) i)) (i + 2 ^ lvlOf m)] := if_neg hc
   have ef : (shardF m i).flatten = halfF m (m.hold (place (lvlOf m) i)) i ++ halfF m (m.hold (place (lvlOf m) i)) (i + 2 ^ lvlOf m) := by rw [e]; simp
   have hs1 := half_shard hL h3 (L := m.hold (place (lvlOf m) i)) (show i < 2 ^ (lvlOf m + 1) by omega)
   have hs2 := half_shard hL h3 (L := m.hold (place (lvlOf m) i)) (show i + 2 ^ lvlOf m < 2 ^ (lvlOf m + 1) by omega)
   have hp := two_pos (lvlOf m)
   refine ⟨fun c h => ?_, ?_, fun c h => ?_⟩
   · rw [ef, List.mem_append] at h
     rcases h with h | h
     · rw [shard_down (hs1 c h), Nat.mod_eq_of_lt hi]
     · rw [shard_down (hs2 c h), Nat.add_mod_right, Nat.mod_eq_of_lt hi]
   · rw [ef, List.pairwise_append]
     refine ⟨wf_ne (half_wf hL (hL.wf _) _), wf_ne (half_wf hL (hL.wf _) _), fun a ha b hb e => ?_⟩
     have h1 := hs1 a ha
     have h2 := hs2 b hb
     have : shardOf a (lvlOf m + 1) = shardOf b (lvlOf m + 1) := by unfold shardOf; unfold cid at e; rw [e]
     omega
   · have ep : place (lvlOf m) (idSum c) = place (lvlOf m) i := by
       rw [← place_mod (lvlOf m) (idSum c), ← shard_sum, h]
     obtain ⟨j, hj⟩ : ∃ j, shardOf c (lvlOf m + 1) = j := ⟨_, rfl⟩
     have hjlt : j < 2 ^ (lvlOf m + 1) := by rw [← hj]; exact Nat.mod_lt _ (two_pos _)
     have hjm := shard_down hj
     rw [h] at hjm
     have hcur : curHold m (idSum c) = halfF m (m.hold (place (lvlOf m) i)) j := by
       have ep2 : place (lvlOf m + 1) (idSum c) = place (lvlOf m + 1) j := by
         rw [← place_mod (lvlOf m + 1) (idSum c), ← shard_sum, hj]
       have hw : curWord m (idSum c) = place (lvlOf m + 1) j := by
         unfold curWord
         rw [if_pos]
         · exact ep2
         · refine ⟨ho, ?_⟩
           show FRZ ≤ m.word (place (lvlOf m) (idSum c))
           rw [ep]
           exact hc2
       unfold curHold halfF
       rw [hw]
       show (if m.word (place (lvlOf m + 1) j) = 0 then cut (m.hold (place (lvlOf m) (idSum c))) (lvlOf m + 1) (idSum c % 2 ^ (lvlOf m + 1)) else m.hold (place (lvlOf m + 1) j)) = _
       rw [ep, ← shard_sum, hj]
     have hjc : j = i ∨ j = i + 2 ^ lvlOf m := by
       by_cases hlt : j < 2 ^ lvlOf m
       · rw [Nat.mod_eq_of_lt hlt] at hjm
         exact .inl hjm.symm
       · have : j % 2 ^ lvlOf m = j - 2 ^ lvlOf m := by
           rw [Nat.mod_eq_sub_mod (by omega), Nat.mod_eq_of_lt (by omega)]
         exact .inr (by omega)
     unfold Has
     rw [hcur, ef, List.mem_append]
     rcases hjc with rfl | rfl
     · refine ⟨fun h' => ?_, .inl⟩
       rcases h' with h' | h'
       · exact h'
       · have := hs2 c h'
         omega
     · refine ⟨fun h' => ?_, .inr⟩
       rcases h' with h' | h'
       · have := hs1 c h'
         omega
       · exact h'
theorem shards_ok {m : Mem} (hL : Lies list m) (hD : Dir m) : ∀ k, k ≤ 2 ^ lvlOf m → (∀ c ∈ (shardsF m k).flatten, shardOf c (lvlOf m) < k) ∧ ((shardsF m k).flatten.Pairwise fun a b => cid a ≠ cid b) ∧ ∀ c, shardOf c (lvlOf m) < k → (c ∈ (shardsF m k).flatten ↔ Has m c)
 | 0, _ => ⟨fun c h => by simp [shardsF] at h, by simp [shardsF], fun c h => by omega⟩
 | k + 1, hk => by
   obtain ⟨h1, h2, h3⟩ := shards_ok hL hD k (by omega)
   have hs := shard_ok hL hD (show k < 2 ^ lvlOf m by omega)
   rw [shardsF_succ, List.flatten_append]
   refine ⟨fun c h => ?_, ?_, fun c h => ?_⟩
   · rcases List.mem_append.1 h with h | h
     · have := h1 c h; omega
     · have := hs.own c h; omega
   · rw [List.pairwise_append]
     refine ⟨h2, hs.ne, fun a ha b hb e => ?_⟩
     have g1 := h1 a ha
     have g2 := hs.own b hb
     have : shardOf a (lvlOf m) = shardOf b (lvlOf m) := by unfold shardOf; unfold cid at e; rw [e]
     omega
   · rw [List.mem_append]
     by_cases e : shardOf c (lvlOf m) = k
     · rw [← hs.has c e]
       refine ⟨fun h' => ?_, .inr⟩
       rcases h' with h' | h'
       · have := h1 c h'; omega
       · exact h'
     · rw [← h3 c (by omega)]
       refine ⟨fun h' => ?_, .inl⟩
       rcases h' with h' | h'
       · exact h'
       · exact absurd (hs.own c h') e
def allF (m : Mem) : List Cell := (shardsF m (2 ^ lvlOf m)).flatten
theorem all_has {m : Mem} (hL : Lies list m) (hD : Dir m) (c : Cell) : c ∈ allF m ↔ Has m c := (shards_ok hL hD _ (Nat.le_refl _)).2.2 c (Nat.mod_lt _ (two_pos _))
theorem all_ne {m : Mem} (hL : Lies list m) (hD : Dir m) : (allF m).Pairwise fun a b => cid a ≠ cid b := (shards_ok hL hD _ (Nat.le_refl _)).2.1
theorem all_cell {m : Mem} (hL : Lies list m) (hD : Dir m) {c : Cell} (h : c ∈ allF m) : CellOk c := (curHold_wf hL _).ok c ((all_has hL hD c).1 h)
end
section
open Go.RowKit Top
set_option linter.unusedVariables false
variable {list : List Pol}
theorem half_length {m : Mem} {L : List Cell} {j : Nat} (hj : j < 2 ^ (lvlOf m + 1)) {i : Nat} (hi : i < 2 ^ lvlOf m) (hL : L = m.hold (place (lvlOf m) i)) : (halfF m L j).length = kid m (lvlOf m) i j := by
 unfold halfF kid
 rw [place_self hj, hL, place_self hi]
 split <;> rfl
theorem shard_length {m : Mem} {i : Nat} (hi : i < 2 ^ lvlOf m) : (shardF m i).flatten.length = under m i := by
 have h2 := two_succ (lvlOf m)
 have hp : place (lvlOf m) i = 2 ^ lvlOf m + i := place_self hi
 by_cases hc : movOf m = false ∨ m.word (place (lvlOf m) i) < FRZ
 · have e : shardF m i = [m.hold (place (lvlOf m) i)] := if_pos hc
   have e2 : under m i = (m.hold (2 ^ lvlOf m + i)).length := by
     refine if_neg ?_
     rintro ⟨h1, h3⟩
     rcases hc with hc | hc
     · unfold movOf at hc
       exact of_decide_eq_false hc h1
     · rw [hp] at hc
       have h3 : FRZ ≤ m.word (2 ^ lvlOf m + i) := h3
       omega
   rw [e, e2, hp]
   simp
 · have hc1 : movOf m = true := by
     cases e : movOf m with
     | true => rfl
     | false => exact absurd (.inl e) hc
   have e : shardF m i = [halfF m (m.hold (place (lvlOf m) i)) i, halfF m (m.hold (place (lvlOf m) i)) (i + 2 ^ lvlOf m)] := if_neg hc
   have e2 : under m i = kid m (lvlOf m) i i + kid m (lvlOf m) i (i + 2 ^ lvlOf m) := by
     refine if_pos ⟨by unfold movOf at hc1; exact of_decide_eq_true hc1, ?_⟩
     show FRZ ≤ m.word (2 ^ lvlOf m + i)
     rw [← hp]
     exact Classical.byContradiction fun h => hc (.inr (by omega))
   rw [e, e2]
   simp only [List.flatten_cons, List.flatten_nil, List.append_nil, List.length_append]
   rw [half_length (by omega) hi rfl, half_length (by omega) hi rfl]
theorem shards_length {m : Mem} : ∀ k, k ≤ 2 ^ lvlOf m → (shardsF m k).flatten.length = sumN k (under m)
 | 0, _ => by simp [shardsF, sumN]
 | k + 1, h => by
   rw [shardsF_succ, List.flatten_append, List.length_append, shards_length k (by omega), shard_length (by omega)]
   rfl
theorem all_length (m : Mem) : (allF m).length = size m := shards_length _ (Nat.le_refl _)
theorem sorted_lt {L : List Cell} (h1 : L.Pairwise fun a b => ¬ cmpB (cid b) (cid a) < 0) (h2 : L.Pairwise fun a b => cid a ≠ cid b) : L.Pairwise identLt := by
 refine (h1.and h2).imp ?_
 rintro a b ⟨h3, h4⟩
 unfold identLt
 have := cmp_anti (cid a) (cid b)
 have h5 : cmpB (cid a) (cid b) ≠ 0 := fun e => h4 (cmp_eq e)
 show cmpB (cid a) (cid b) < 0
 omega
theorem append_nil_none (w : World) (c : Nat) : ∀ ty, (Builtin.append_ #[40, 40] ty #[.slice none 0 0, .slice none 0 c]).run Tryz.prog w = .ok (.slice none 0 0) w := by
 obtain ⟨i0, hi, hz0, hz1, hz2⟩ := info_parts info_cellT
 intro ty
 have hs := Src.ofNil (P := Tryz.prog) (size := 4) w Tryz.underlying40 c
 simp [Builtin.append_, run_underlying Tryz.underlying40, sizeOf, typeInfo, hi, hz1, hs.len, hs.cells]
end
end Go.Proofs.YtemnhpdjoimjbaaGreat
