import Derived.Test.YtemnhpdjoimjbaaGreatTs44
import Derived.Test.YtemnhpdjoimjbaaGreatTs22
import Derived.Test.YtemnhpdjoimjbaaGreatTs16
import Derived.Test.YtemnhpdjoimjbaaGreatTs40
section
namespace Go.Proofs.YtemnhpdjoimjbaaGreat
open Go.RowKit Top
set_option linter.unusedVariables false
def OwnCells (w : World) (base : Nat) (v : Value) (ys : List CV) : Prop := w.ownsRow base 45 4 v ys.length (encs ys) ∧ ∀ y ∈ ys, y.ok w
theorem OwnCells.later {w w' : World} {base : Nat} {v : Value} {ys : List CV} (h : OwnCells w base v ys) (hb : Below w.heap.size w w') : OwnCells w' base v ys := ⟨ownsRow_below h.1 hb, fun y hy => (h.2 y hy).keep (fr0 hb)⟩
theorem CV.ok.grown {w w' : World} {x : CV} {row : Option Nat} (h : x.ok w) (hg : w.grownBy w' row) (hr : ∀ g, row = some g → ∃ c, w.heap[g]? = some (.cells c 45 (0, 0))) : x.ok w' := ⟨h.1.grown hg hr (by decide), Row.grown h.2 hg hr (by decide)⟩
theorem OwnCells.nil (w : World) (base : Nat) : OwnCells w base (.slice none 0 0) [] := ⟨World.ownsRow_nil _ _ _ _, fun y h => (by cases h)⟩
theorem encs_snoc (ys : List CV) (y : CV) : encs (ys ++ [y]) = encs ys ++ y.enc := by rw [encs_append]; simp [encs]
theorem below_of {y W w5 : World} {row : Option Nat} (hg : W.grownBy w5 row) (hb : RowKit.Below y.heap.size y W) : RowKit.Below y.heap.size y W := hb
theorem copy_keep {y W w5 : World} {row : Option Nat} {b : Nat} {t : TypeId} {arr : Array Value} (hb : RowKit.Below y.heap.size y W) (hg : W.grownBy w5 row) (hn : row ≠ some b) (hx : Bx y b t arr) : Bx w5 b t arr :=
 (hg.block b (hx.below hb hx.lt).lt (fun e => hn e.symm)).trans (hx.below hb hx.lt)
set_option maxHeartbeats 4000000 in
set_option maxRecDepth 100000 in
theorem copy_any (v : Value) (L : List Cell) (w : World) (h : CellsAt w v L) :
   Calls Tryz.prog 25 #[v] w fun e w' => ∃ v' ys, e = .returned v' ∧ ys.map CV.c = L ∧ OwnCells w' w.heap.size v' ys ∧ Below w.heap.size w w' := by
 obtain ⟨i0, hi, hz0, hz1, hz2⟩ := info_parts info_cellT
 obtain ⟨xs, a, c, hL, rfl, h5, h6, h7, h8, h9⟩ := h.parts
 have hfew := h9.few
 rw [← hL, List.length_map] at hfew
 have hoks : ∀ x ∈ xs, CellOk x.c := fun x hx => h9.ok x.c (by rw [← hL]; exact List.mem_map_of_mem hx)
 have Hc := Lib.hid h7; have Hok := Lib.hid h8; have HL := Lib.hid hL; have Hoks := Lib.hid hoks
 clear h h7 h8 h9 hL hoks
 go_enter Tryz.func25, Tryz.ntmps25
 go_wp2
 go_loopw [3, 8] (fun ov i wr => ∃ (k : Nat) (ys : List CV), i = .int .i64 k ∧ k ≤ xs.length ∧ ys.map CV.c = (xs.take k).map CV.c ∧ OwnCells wr w.heap.size ov ys ∧ Below w.heap.size w wr) (fun _ i _ => xs.length - (intOf i).toNat)
 case atStart => exact ⟨0, [], rfl, Nat.zero_le _, rfl, OwnCells.nil _ _, Below.refl _ _⟩
 case round =>
   obtain ⟨k, ys, rfl, hk, hys, how, hbel⟩ := hrel
   have Hys := Lib.hid hys; have How := Lib.hid how; have Hbel := Lib.hid hbel
   have Hyl : Hid (ys.length ≤ 1048576) := by
     have h := congrArg List.length hys
     rw [List.length_map, List.length_map, List.length_take] at h
     show _ ≤ 1048576
     omega
   clear hys how hbel
   by_cases hA : k < xs.length
   · obtain ⟨b, off, rfl, hcl⟩ := Hc.out (by omega)
     obtain ⟨x0, x1, x2, x3⟩ := cell_at (fun j u hu => cell_later Hbel.out (hcl j u hu)) k hA
     have hok := Hok.out xs[k] (List.getElem_mem hA)
     have hcok := Hoks.out xs[k] (List.getElem_mem hA)
     have HX := Lib.hid (hok.keep (fr0 Hbel.out))
     have Hcok := Lib.hid hcok
     have Hsn : Hid ((xs.take (k + 1)).map CV.c = (xs.take k).map CV.c ++ [xs[k].c]) := by
       show _ = _
       rw [List.take_succ_eq_append_getElem hA, List.map_append]
       rfl
     clear hcl hok hcok
     generalize xs[k] = x at *
     obtain ⟨⟨pol, key, tat, held⟩, kv, hv⟩ := x
     obtain ⟨⟨_, _, ka, kc, e1, _⟩, _, ha, hc, e2, _⟩ := id HX.out
     dsimp only at e1 e2 x0 x1 x2 x3 Hsn Hcok
     subst e1 e2
     go_upto_region 5 with (fail)
     have hy0 := below_allocs [.cells #[.int .i64 pol, .slice ka key.length kc, .int .i64 tat, .slice ha held.length hc] 45] wr
     have hyb : Bx (wr.alloc (.cells #[.int .i64 pol, .slice ka key.length kc, .int .i64 tat, .slice ha held.length hc] 45)) wr.heap.size 45 #[.int .i64 pol, .slice ka key.length kc, .int .i64 tat, .slice ha held.length hc] := Bx.new wr _ _
     refine wp_name (fun y => Below wr.heap.size wr y ∧ Bx y wr.heap.size 45 #[.int .i64 pol, .slice ka key.length kc, .int .i64 tat, .slice ha held.length hc]) ⟨hy0, hyb⟩ ?_
     clear hy0 hyb x0 x1 x2 x3
     rintro y ⟨hy, hbx⟩
     have Hy := Lib.hid hy; have Hbx := Lib.hid hbx
     have HSa : Hid (∀ W : World, Below y.heap.size y W → W.cell? ⟨wr.heap.size, 0, none⟩ = some (.int .i64 pol) ∧ W.cell? ⟨wr.heap.size, 1, none⟩ = some (.slice ka key.length kc) ∧ W.cell? ⟨wr.heap.size, 2, none⟩ = some (.int .i64 tat) ∧ W.cell? ⟨wr.heap.size, 3, none⟩ = some (.slice ha held.length hc)) := fun W hb => by
       have h := Hbx.out.below hb Hbx.out.lt
       exact ⟨h.cell 0, h.cell 1, h.cell 2, h.cell 3⟩
     have Kb : Hid (∀ W, Below y.heap.size y W → Calls Tryz.prog 45 #[.slice ka key.length kc] W fun e w' => ∃ v', e = .returned v' ∧ KeyAt w' v' key ∧ Below W.heap.size W w') := fun W hb => bclone_any _ key W (HX.out.1.keep (fr0 (below_then Hy.out hb))) Hcok.out.len
     have Kh : Hid (∀ W, Below y.heap.size y W → Calls Tryz.prog 51 #[.slice ha held.length hc] W fun e w' => ∃ v', e = .returned v' ∧ HeldAt w' v' held ∧ Below W.heap.size W w') := fun W hb => (clone_held _ held W (HX.out.2.keep (fr0 (below_then Hy.out hb))) Hcok.out.few).mono fun _ _ ⟨v', h1, h2, h3⟩ => ⟨v', h1, Row.own h2, h3⟩
     have hyl : wr.heap.size < y.heap.size := hbx.lt
     have hnb : u3.ownBlock ≠ some wr.heap.size := fun e => by have := (How.out.1.lt _ e).2; omega
     have Hnb := Lib.hid hnb
     clear hy hbx hnb
     go_region_held3 (fun W => W.cell? ⟨wr.heap.size, 0, none⟩ = some (.int .i64 pol) ∧ W.cell? ⟨wr.heap.size, 1, none⟩ = some (.slice ka key.length kc) ∧ W.cell? ⟨wr.heap.size, 2, none⟩ = some (.int .i64 tat) ∧ W.cell? ⟨wr.heap.size, 3, none⟩ = some (.slice ha held.length hc)) (first | (refine HSa.out _ ?_; (repeat (first | (with_reducible first | exact RowKit.Below.refl _ _ | assumption | refine RowKit.Below.drew ?_) | ((with_reducible refine belAlloc ?_ ?_); (first | simp <;> omega | omega)))); done) | with_reducible exact hsk) (first
       | (go_at_call 45; (with_reducible refine (Kb.out _ (by (repeat (first | (with_reducible first | exact RowKit.Below.refl _ _ | assumption | refine RowKit.Below.drew ?_) | ((with_reducible refine belAlloc ?_ ?_); (first | simp <;> omega | omega)))))).mono ?_); rintro e w2 ⟨v2, rfl, hk2, hb2⟩; obtain ⟨qa, qc, rfl⟩ : ∃ a c', v2 = .slice a key.length c' := (by obtain ⟨_, _, a, c', e, _⟩ := hk2; exact ⟨a, c', e⟩); have hzb := below_then (w := y) (by (repeat (first | (with_reducible first | exact RowKit.Below.refl _ _ | assumption | refine RowKit.Below.drew ?_) | ((with_reducible refine belAlloc ?_ ?_); (first | simp <;> omega | omega))))) hb2; have hszb := hzb.size; have hsb2 := hb2.size; have Hk2 := Lib.hid hk2; clear hk2)
       | (go_at_call 51; (with_reducible refine (Kh.out _ (by (repeat (first | (with_reducible first | exact RowKit.Below.refl _ _ | assumption | refine RowKit.Below.drew ?_) | ((with_reducible refine belAlloc ?_ ?_); (first | simp <;> omega | omega)))))).mono ?_); rintro e w3 ⟨v3, rfl, hk3, hb3⟩; obtain ⟨pa, pc, rfl⟩ : ∃ a c', v3 = .slice a held.length c' := (by obtain ⟨_, a, c', e, _⟩ := hk3; exact ⟨a, c', e⟩); have hzh := below_then (w := y) (by (repeat (first | (with_reducible first | exact RowKit.Below.refl _ _ | assumption | refine RowKit.Below.drew ?_) | ((with_reducible refine belAlloc ?_ ?_); (first | simp <;> omega | omega))))) hb3; have hszh := hzh.size; have hsb3 := hb3.size; have Hk3 := Lib.hid hk3; clear hk3)
       | (refine step_append_lies _ (by rfl) _ _ _ (by rfl) w.heap.size 45 i0 (.agg #[.int .i64 0, .slice none 0 0, .int .i64 0, .slice none 0 0]) 4 64 Tryz.underlying40 hi hz0 hz1 hz2 rfl (by decide) u3 ys.length (encs ys) (by rfl) (ownsRow_below How.out.1 (below_then Hy.out (by (repeat (first | (with_reducible first | exact RowKit.Below.refl _ _ | assumption | refine RowKit.Below.drew ?_) | ((with_reducible refine belAlloc ?_ ?_); (first | simp <;> omega | omega))))))) ⟨_, 0, none⟩ 1 1 [.int .i64 pol, .slice qa key.length qc, .int .i64 tat, .slice pa held.length pc] (by rfl) rfl (World.news_of_block (heap_alloc_new _ _)) (by intro u hu; simp at hu; rcases hu with rfl | rfl | rfl | rfl <;> rfl) (by decide) (by have := Hyl.out; unfold maxLen; omega) (by have := Hyl.out; omega) (by have := Hbel.out.size; simp; omega) _ rfl ?_; intro g cap w5 hown5 hgrow5 hat5 hlt5; have hbW := below_of (y := y) hgrow5 (by (repeat (first | (with_reducible first | exact RowKit.Below.refl _ _ | assumption | refine RowKit.Below.drew ?_) | ((with_reducible refine belAlloc ?_ ?_); (first | simp <;> omega | omega))))); have hsk5 := copy_keep hbW hgrow5 Hnb.out Hbx.out; have hsk : w5.cell? ⟨wr.heap.size, 0, none⟩ = some (.int .i64 pol) ∧ w5.cell? ⟨wr.heap.size, 1, none⟩ = some (.slice ka key.length kc) ∧ w5.cell? ⟨wr.heap.size, 2, none⟩ = some (.int .i64 tat) ∧ w5.cell? ⟨wr.heap.size, 3, none⟩ = some (.slice ha held.length hc) := ⟨hsk5.cell 0, hsk5.cell 1, hsk5.cell 2, hsk5.cell 3⟩; have hkW := Hk2.out.keep (fr0 (below_of (y := w2) hgrow5 (by (repeat (first | (with_reducible first | exact RowKit.Below.refl _ _ | assumption | refine RowKit.Below.drew ?_) | ((with_reducible refine belAlloc ?_ ?_); (first | simp <;> omega | omega))))))); have hhW := Hk3.out.keep (fr0 (below_of (y := w3) hgrow5 (by (repeat (first | (with_reducible first | exact RowKit.Below.refl _ _ | assumption | refine RowKit.Below.drew ?_) | ((with_reducible refine belAlloc ?_ ?_); (first | simp <;> omega | omega))))))); have HE := Lib.hid (And.intro hown5 (And.intro hgrow5 (And.intro hbW (And.intro hkW hhW)))); clear hown5 hgrow5 hbW hsk5 hkW hhW hat5 hlt5))
     all_goals
       have hr := own_row (ownsRow_below How.out.1 (below_then Hy.out HE.out.2.2.1))
       have HF : Hid (OwnCells w5 w.heap.size (.slice (some ⟨g, 0, none⟩) (ys.length + 1) cap) (ys ++ [⟨⟨pol, key, tat, held⟩, .slice qa key.length qc, .slice pa held.length pc⟩])) := by
         refine ⟨by rw [encs_snoc, List.length_append]; exact HE.out.1, fun z hz => ?_⟩
         rcases List.mem_append.1 hz with hz | hz
         · exact ((How.out.2 z hz).keep (fr0 (below_then Hy.out HE.out.2.2.1))).grown HE.out.2.1 hr
         · simp at hz
           subst hz
           exact CV.ok.grown (x := ⟨⟨pol, key, tat, held⟩, .slice qa key.length qc, .slice pa held.length pc⟩) ⟨HE.out.2.2.2.1, HE.out.2.2.2.2⟩ HE.out.2.1 hr
       have HB5 : Hid (Below w.heap.size w w5) := (below_then Hbel.out (below_then Hy.out HE.out.2.2.1)).grown HE.out.2.1 (below_then Hbel.out (below_then Hy.out HE.out.2.2.1)).size (fun q hq => (How.out.1.lt q hq).1)
       clear hr hsk
       go_wp2
       go_roundw
       case rel => exact ⟨k + 1, ys ++ [⟨⟨pol, key, tat, held⟩, .slice qa key.length qc, .slice pa held.length pc⟩], by go_num, by omega, by rw [List.map_append, Hys.out, Hsn.out]; rfl, HF.out, HB5.out⟩
       case measure => simp [intOf]; omega
   · obtain rfl : k = xs.length := by omega
     have hr := Hys.out
     rw [List.take_length, HL.out] at hr
     have Hr := Lib.hid hr
     clear hr
     go_wp2
     exact bodyPost_ret (v := u3) (by simp [results, Tryz.results25, go_sem]) rfl ⟨_, ys, rfl, Hr.out, How.out, Hbel.out⟩
end Go.Proofs.YtemnhpdjoimjbaaGreat
end
section
namespace Go.Proofs.YtemnhpdjoimjbaaGreat
open Go.RowKit Top
set_option linter.unusedVariables false
theorem drawn_setCells : ∀ (vs : List Value) (w : World) (b o : Nat), (w.setCells b o vs).drawn = w.drawn
 | [], _, _, _ => rfl
 | v :: vs, w, b, o => by
   rw [World.setCells, drawn_setCells vs]
   rfl
theorem app_drawn (w : World) (base : Nat) (hbase : base ≤ w.heap.size) (v : Value) (xs : List Value) (n : Nat) (hown : w.ownsRow base 5 1 v n xs) (hv : ∃ b m c, v = .slice (some ⟨b, 0, none⟩) m c ∧ c ≤ 1000000) (ad : Addr) (m c : Nat) (news : List Value) (hl : news.length = m) (hnews : ∀ j u, news[j]? = some u → w.cell? (ad.add j) = some u) (h1 : ∀ u ∈ news, u.oneCell' = true) (hm : n + m ≤ 1000000) :
   ∃ v' w1, (∀ ty, (Builtin.append_ #[23, 23] ty #[v, .slice (some ad) m c]).run Tryz.prog w = .ok v' w1) ∧ w1.ownsRow base 5 1 v' (n + m) (xs ++ news) ∧ w.grownBy w1 v.ownBlock ∧ w.drawn ≤ w1.drawn := by
 obtain ⟨i0, hi, hz0, hz1, hz2⟩ := info_parts info_u8
 obtain ⟨v', w1, hr, ho, hg, _⟩ := run_append_own (P := Tryz.prog) w base 23 23 5 i0 (.int .u8 0) 1 1 Tryz.underlying23 hi hz0 hz1 hz2 rfl (by decide) v n xs hown ad m c news (by omega) hnews h1 (by unfold maxLen; omega) (by omega) hbase
 obtain ⟨b, m', c', rfl, hcap⟩ := hv
 have hs : Src Tryz.prog i0.size 23 (.slice (some ad) m c) m news w := by
   rw [hz1]
   exact Src.ofSlice w Tryz.underlying23 ad m c news (by omega) hnews h1
 rcases hown.2 with ⟨e, _⟩ | ⟨g, cap, cur, e, hb, hc, h2, h3, h4, h5⟩
 · cases e
 injection e with e1 e2 e3
 injection e1 with e1
 injection e1 with e1
 subst e1 e2 e3
 by_cases hroom : m' + m ≤ c'
 · have hk := fun ty => run_append_room_src w 23 23 ty 5 i0 Tryz.underlying23 hi b 0 m' c' (.slice (some ad) m c) m news hs hroom (by
     intro j hj
     have : w.cell? ⟨b, 0 + m' * i0.size + j, none⟩ = cur[0 + m' * i0.size + j]? := by simp [World.cell?, hc]
     rw [this, Array.getElem?_eq_getElem (by rw [hz1]; omega)]
     rfl) (by intro j hj; simp [World.frozen?, hc])
   have he := (hk 23).symm.trans hr
   injection he with he1 he2
   refine ⟨v', w1, fun ty => by rw [hk ty, he1, he2], ho, hg, ?_⟩
   rw [← he2]
   exact Nat.le_of_eq (drawn_setCells news w _ _).symm
 · have hk := fun ty => run_append_grow_src w 23 23 ty 5 i0 (.int .u8 0) Tryz.underlying23 hi hz0 (some ⟨b, 0, none⟩) m' c' xs (by
     rw [hz1]
     refine run_firstCells_some w.drew 1 m' ⟨b, 0, none⟩ m' c' xs (by have := hown.1; omega) (fun j u hu => ?_)
     have := hown.cells (g := b) rfl j u hu
     simpa using this) (.slice (some ad) m c) m news hs (by omega) (by omega) (by rw [hz2]; exact growslice_fits (by omega) (by omega))
   have he := (hk 23).symm.trans hr
   injection he with he1 he2
   refine ⟨v', w1, fun ty => by rw [hk ty, he1, he2], ho, hg, ?_⟩
   rw [← he2]
   exact Nat.le_succ _
set_option maxHeartbeats 1000000 in
set_option maxRecDepth 100000 in
theorem ident_drawn (pol : Int) (kv : Value) (k : List Nat) (w : World) (h : KeyAt w kv k) (hk : k.length ≤ 255) (h0 : 0 ≤ pol) (h1 : pol < 32) :
   Calls Tryz.prog 40 #[.int .i64 pol, kv] w fun e w' => ∃ a c, e = .returned (.tuple #[.slice a (k.length + 1) c, .int .i64 0]) ∧ ByAt w' (.slice a (k.length + 1) c) (ident pol k) ∧ Below w.heap.size w w' ∧ w.drawn ≤ w'.drawn := by
 obtain ⟨i0, hi, hz0, hz1, hz2⟩ := info_parts info_u8
 have hb := h.by
 obtain ⟨hkb, a, c, rfl, h2, h3, h4⟩ := hb
 have hw : IntKind.u8.wrap pol = pol := by rw [IntKind.wrap_u8]; omega
 have hp : pol = ((pol.toNat % 256 : Nat) : Int) := by omega
 have hz : ¬ pol < 0 := by omega
 have hz2' : ¬ (32 : Int) ≤ pol := by omega
 have hz3 : ¬ (255 : Int) < (k.length : Int) := by omega
 have Hc : Hid (∀ ad, a = some ad → ∀ j u, (k.map fun (x : Nat) => Value.int .u8 x)[j]? = some u → w.cell? (ad.add j) = some u) := by
   intro ad e j u hj
   have hjl : j < k.length := by simpa using (List.getElem?_eq_some_iff.1 hj).1
   obtain ⟨b, off, e2, h5⟩ := h4 (by omega)
   rw [e] at e2
   injection e2 with e2
   subst e2
   rw [Addr.add_lit, h5 j hjl]
   rw [List.getElem?_map, List.getElem?_eq_getElem hjl] at hj
   simp only [Option.map_some, Option.some.injEq] at hj
   rw [← hj, List.getD_eq_getElem?_getD, List.getElem?_eq_getElem hjl]
   rfl
 have Hn : Hid (a = none → k = []) := by
   rintro rfl
   cases k with
   | nil => rfl
   | cons x k => obtain ⟨b, off, e, _⟩ := h4 (by simp); cases e
 have Hkb := Lib.hid hkb; have Hp := Lib.hid hp
 have fin : ∀ v' w1, w1.ownsRow w.heap.size 5 1 v' (1 + k.length) ([.int .u8 pol] ++ k.map fun (x : Nat) => Value.int .u8 x) → ∃ a c, v' = .slice a (k.length + 1) c ∧ ByAt w1 (.slice a (k.length + 1) c) (ident pol k) := by
   intro v' w1 hown
   obtain ⟨a, c, rfl⟩ := own_slice hown
   rw [Nat.add_comm] at hown ⊢
   have hr := Row.own hown
   refine ⟨a, c, rfl, KeyAt.by ⟨?_, ?_⟩⟩
   · intro x hx
     unfold ident at hx
     rcases List.mem_cons.1 hx with rfl | hx
     · omega
     · exact Hkb.out x hx
   · have e : (ident pol k).map (fun (x : Nat) => Value.int .u8 x) = [.int .u8 pol] ++ k.map fun (x : Nat) => Value.int .u8 x := by
       unfold ident
       rw [List.map_cons, ← Hp.out]
       rfl
     rw [e]
     exact hr
 have hsz := lt_alloc w (.cells #[.int .u8 pol] 5)
 have hown0 : (w.alloc (.cells #[.int .u8 pol] 5)).ownsRow w.heap.size 5 1 (.slice (some ⟨w.heap.size, 0, none⟩) 1 1) 1 [.int .u8 pol] := ⟨rfl, .inr ⟨w.heap.size, 1, #[.int .u8 pol], rfl, Nat.le_refl _, heap_alloc_new w _, Nat.le_refl _, by decide, rfl, rfl⟩⟩
 have Hown0 := Lib.hid hown0
 clear h2 h3 h4 hkb hown0 hp h
 go_enter Tryz.func40, Tryz.ntmps40
 cases a with
 | none =>
   have hkn := Hn.out rfl
   subst hkn
   have hrun : ∀ ty, (Builtin.append_ #[23, 23] ty #[.slice (some ⟨w.heap.size, 0, none⟩) 1 1, .slice none 0 c]).run Tryz.prog (w.alloc (.cells #[.int .u8 pol] 5)) = .ok (.slice (some ⟨w.heap.size, 0, none⟩) 1 1) (w.alloc (.cells #[.int .u8 pol] 5)) := fun ty =>
     run_append_room_src (w.alloc (.cells #[.int .u8 pol] 5)) 23 23 ty 5 i0 Tryz.underlying23 hi w.heap.size 0 1 1 (.slice none 0 c) 0 [] (Src.ofNil _ Tryz.underlying23 c) (by decide) (by intro j hj; simp at hj) (by intro j hj; simp at hj)
   obtain ⟨a', c', e, hby⟩ := fin _ _ Hown0.out
   have Hby := Lib.hid hby; have He := Lib.hid e
   clear hby e fin
   go_wp2_with (at_builtin; refine Lib.wpList_append_run _ rfl _ _ _ _ rfl _ _ rfl rfl _ _ (hrun _) ?_)
   exact bodyPost_ret (v := .tuple #[.slice (some ⟨w.heap.size, 0, none⟩) 1 1, .int .i64 0]) (by simp [results, Tryz.results40, go_sem]) rfl ⟨a', c', by rw [He.out]; rfl, Hby.out, below_allocs [_] w, Nat.le_refl _⟩
 | some ad =>
   obtain ⟨v', w1, hrun, hown, hgrow, hdr⟩ := app_drawn (w.alloc (.cells #[.int .u8 pol] 5)) w.heap.size (by omega) (.slice (some ⟨w.heap.size, 0, none⟩) 1 1) [.int .u8 pol] 1 Hown0.out ⟨_, _, _, rfl, by decide⟩ ad k.length c (k.map fun (x : Nat) => Value.int .u8 x) (by simp) (fun j u hj => Lib.cell?_alloc_some _ (Hc.out ad rfl j u hj)) (by intro u hu; obtain ⟨x, _, rfl⟩ := List.mem_map.1 hu; rfl) (by omega)
   obtain ⟨a', c', rfl, hby⟩ := fin v' w1 hown
   have Hby := Lib.hid hby; have Hg := Lib.hid hgrow; have Hd := Lib.hid hdr
   clear hown hgrow hdr hby
   go_wp2_with (at_builtin; refine Lib.wpList_append_run _ rfl _ _ _ _ rfl _ _ rfl rfl _ _ (hrun _) ?_)
   exact bodyPost_ret (v := .tuple #[.slice a' (k.length + 1) c', .int .i64 0]) (by simp [results, Tryz.results40, go_sem]) rfl ⟨_, _, rfl, Hby.out, ((Below.refl _ w).alloc (Nat.le_refl _) _).grown Hg.out (by omega) (by intro q hq; have h : some w.heap.size = some q := hq; injection h with h; omega), Hd.out⟩
set_option maxHeartbeats 2000000 in
set_option maxRecDepth 100000 in
theorem order_drawn (c d : Cell) (kv hv ku hu : Value) (w : World) (hc : KeyAt w kv c.key) (hd : KeyAt w ku d.key) (okc : CellOk c) (okd : CellOk d) (hh : ∃ a n c, hv = .slice a n c) (hh' : ∃ a n c, hu = .slice a n c) :
   Calls Tryz.prog 27 #[.agg (cellA c kv hv), .agg (cellA d ku hu)] w fun e w' => e = .returned (.int .i64 (cmpB (cid c) (cid d))) ∧ Below w.heap.size w w' ∧ w.drawn ≤ w'.drawn := by
 obtain ⟨ka, kc, rfl⟩ : ∃ a c', kv = .slice a c.key.length c' := by obtain ⟨_, _, a, c', e, _⟩ := hc; exact ⟨a, c', e⟩
 obtain ⟨ka', kc', rfl⟩ : ∃ a c', ku = .slice a d.key.length c' := by obtain ⟨_, _, a, c', e, _⟩ := hd; exact ⟨a, c', e⟩
 obtain ⟨ha, hn, hcc, rfl⟩ := hh
 obtain ⟨ha', hn', hcc', rfl⟩ := hh'
 have Kc : Hid (∀ W : World, Below w.heap.size w W → Calls Tryz.prog 40 #[.int .i64 c.pol, .slice ka c.key.length kc] W fun e w' => ∃ a c', e = .returned (.tuple #[.slice a (c.key.length + 1) c', .int .i64 0]) ∧ ByAt w' (.slice a (c.key.length + 1) c') (ident c.pol c.key) ∧ Below W.heap.size W w' ∧ W.drawn ≤ w'.drawn) := fun W hb => ident_drawn c.pol _ c.key W (hc.keep (fr0 hb)) okc.len okc.pol0 okc.pol1
 have Kd : Hid (∀ W : World, Below w.heap.size w W → Calls Tryz.prog 40 #[.int .i64 d.pol, .slice ka' d.key.length kc'] W fun e w' => ∃ a c', e = .returned (.tuple #[.slice a (d.key.length + 1) c', .int .i64 0]) ∧ ByAt w' (.slice a (d.key.length + 1) c') (ident d.pol d.key) ∧ Below W.heap.size W w' ∧ W.drawn ≤ w'.drawn) := fun W hb => ident_drawn d.pol _ d.key W (hd.keep (fr0 hb)) okd.len okd.pol0 okd.pol1
 clear hc hd okc okd
 go_enter Tryz.func27, Tryz.ntmps27
 go_wp2_with fail
 refine calls_name (fun u => w.drawn ≤ u.drawn ∧ Below w.heap.size w u ∧ w.heap.size + 1 < u.heap.size ∧ Bx u (w.heap.size + 1) 45 (cellA d (.slice ka' d.key.length kc') (.slice ha' hn' hcc'))) ⟨Nat.le_refl _, below_allocs [_, _] w, by simp, bx_allocs w [_, _] 1 rfl⟩ ?_
 intro W0 h0
 have H0 := Lib.hid h0
 clear h0
 (refine (Kc.out W0 H0.out.2.1).mono ?_)
 rintro e w1 ⟨ia, ic, rfl, hi, hb1, hd1⟩
 have Hd1 := Lib.hid (Nat.le_trans H0.out.1 hd1)
 clear hd1
 have hbx := H0.out.2.2.2.below hb1 H0.out.2.2.2.lt
 have c0 := hbx.cell 0
 have c1 := hbx.cell 1
 have hs0 := H0.out.2.1.size
 have HB1 := Lib.hid (H0.out.2.1.trans (hb1.mono hs0)); have Hi := Lib.hid hi
 clear hi hb1 hbx
 go_wp2_with (first
   | (go_at_call 40; (refine (Kd.out _ HB1.out).mono ?_); rintro e w2 ⟨ja, jc, rfl, hj, hb2, hd2⟩; have Hd2 := Lib.hid (Nat.le_trans Hd1.out hd2); clear hd2; have Hj := Lib.hid hj; have Hb2 := Lib.hid hb2; clear hj hb2)
   | (go_at_call 54; (refine (horder_any _ _ _ _ w2 (Hi.out.below Hb2.out) Hj.out).mono ?_); rintro e w3 ⟨rfl, rfl⟩))
 exact bodyPost_ret (v := .int .i64 (cmpB (cid c) (cid d))) (by simp [results, Tryz.results27, go_sem, cid]) rfl ⟨rfl, HB1.out.trans (Hb2.out.mono HB1.out.size), Hd2.out⟩
end Go.Proofs.YtemnhpdjoimjbaaGreat
end
section
namespace Go.Proofs.YtemnhpdjoimjbaaGreat.Top
set_option linter.unusedVariables false
variable {list : List Pol} {room : Nat}
theorem curHold_wf {m : Mem} (hL : Lies list m) (sum : Nat) : WfL (curHold m sum) := by
 unfold curHold
 split
 · exact (hL.wf _).filter _
 · exact hL.wf _
def cellAt (m : Mem) (pol : Int) (key : List Nat) : Cell := findCell (curHold m (sumB (ident pol key))) pol key
def isAt (m : Mem) (pol : Int) (key : List Nat) : Bool := findThere (curHold m (sumB (ident pol key))) pol key
def giveAt (B : Below) (list : List Pol) (m : Mem) (x : Live) : Reply × Cell := giveF B (polOf list x) (cellAt m x.call.pol x.call.key) x.call.n
def RelK (B : Below) (list : List Pol) (m : Mem) (x : Live) : Kont → Prop
 | .put f at_ there c r => m.word f.word = f.v ∧ there = true ∧ (giveAt B list m x).1.e = 0 ∧ c = (giveAt B list m x).2 ∧ r = (giveAt B list m x).1
 | _ => True
structure RelO (B : Below) (list : List Pol) (m0 : Mem) (x0 : Live) (o : Out) : Prop where
 on : ∀ k, o.1 = .inl k → (∀ c, Has o.2.2 c ↔ Has m0 c) ∧ RelK B list o.2.2 o.2.1 k
 fin : ∀ r, o.1 = .inr r → r = (giveAt B list m0 x0).1 ∧ (((giveAt B list m0 x0).1.e ≠ 0 ∧ ∀ c, Has o.2.2 c ↔ Has m0 c) ∨ ((giveAt B list m0 x0).1.e = 0 ∧ ∀ d, Has o.2.2 d ↔ if cid d = cid (giveAt B list m0 x0).2 then d = (giveAt B list m0 x0).2 else Has m0 d))
theorem RelO.more {B : Below} {m0 m : Mem} {x0 x : Live} {k : Kont} (h1 : ∀ c, Has m c ↔ Has m0 c) (h2 : RelK B list m x k) : RelO B list m0 x0 (more k x m) :=
 ⟨fun k' e => by cases e; exact ⟨h1, h2⟩, fun r e => by cases e⟩
end Go.Proofs.YtemnhpdjoimjbaaGreat.Top
end
