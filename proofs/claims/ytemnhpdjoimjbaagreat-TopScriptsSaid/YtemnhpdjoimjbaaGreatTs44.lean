import Derived.Test.YtemnhpdjoimjbaaGreatTs43
namespace Go.Proofs.YtemnhpdjoimjbaaGreat
open Go.RowKit Top
set_option linter.unusedVariables false
theorem below_dN (w : World) (q : Nat) : Below w.heap.size w (w.drewN q) := below_drewN (Below.refl _ _) q
set_option maxHeartbeats 1000000 in
theorem level_any (B : Nat) (A : Adr) (m : Mem) (w : World) (hs : St w B A m) (h8 : m.word 0 ≤ 8) :
   Calls Tryz.prog 50 #[P A.lanes] w fun e w' => e = .returned (.tuple #[.int .i64 (m.word 0 / 2 : Nat), .bool (decide (m.word 0 % 2 = 1))]) ∧ ∃ q, w' = w.drewN q := by
 have cl : w.cell? ⟨A.lanes, 0, none⟩ = some (P A.board) := hs.lanes.cell 0
 have Kl := Lib.hid (blook_any B A m 0 w hs (by decide))
 obtain ⟨d, hd⟩ : ∃ d, m.word 0 = d := ⟨_, rfl⟩
 rw [hd] at h8 Kl ⊢
 have hw := half_word d (by omega)
 have e1 := hw.1; have e2 := hw.2
 have hwz : wrap64 ((d / 2 : Nat) : Int) = (d / 2 : Nat) := by unfold wrap64; omega
 have hb : ((((d % 2 : Nat) : Int)) == 1) = decide (d % 2 = 1) := by
   by_cases h : d % 2 = 1 <;> simp [h]; omega
 clear hs hd hw
 go_enter Tryz.func50, Tryz.ntmps50
 go_wp2_with (go_at_call 35; (refine Kl.out.mono ?_); rintro e w1 ⟨a, n, c, rfl, hh, q, rfl⟩; clear hh)
 have hb2 : ((d : Int) % 2 == 1) = decide (d % 2 = 1) := by rw [← hb]; congr 1
 exact bodyPost_ret (v := .tuple #[.int .i64 ((d : Int) / 2), .bool ((d : Int) % 2 == 1)]) (by simp [results, Tryz.results50, go_sem]) rfl ⟨by rw [hb2]; rfl, q, rfl⟩
def lvlOf (m : Mem) : Nat := m.word 0 / 2
def movOf (m : Mem) : Bool := decide (m.word 0 % 2 = 1)
def halfF (m : Mem) (holds : List Cell) (j : Nat) : List Cell := if m.word (place (lvlOf m + 1) j) = 0 then cut holds (lvlOf m + 1) j else m.hold (place (lvlOf m + 1) j)
def shardF (m : Mem) (i : Nat) : List (List Cell) :=
 if movOf m = false ∨ m.word (place (lvlOf m) i) < FRZ then [m.hold (place (lvlOf m) i)] else [halfF m (m.hold (place (lvlOf m) i)) i, halfF m (m.hold (place (lvlOf m) i)) (i + 2 ^ lvlOf m)]
def shardsF (m : Mem) (k : Nat) : List (List Cell) := (List.range k).flatMap (shardF m)
theorem shardsF_succ (m : Mem) (k : Nat) : shardsF m (k + 1) = shardsF m k ++ shardF m k := by
 unfold shardsF
 rw [List.range_succ, List.flatMap_append]
 simp
def ListsAt (w : World) (base : Nat) (v : Value) (LL : List (List Cell)) : Prop :=
 ∃ vs : List Value, w.ownsRow base 40 1 v LL.length vs ∧ ∀ (i : Nat) (x : Value) (L : List Cell), vs[i]? = some x → LL[i]? = some L → CellsAt w x L
theorem Row.grown {w w' : World} {t t' : TypeId} {size n : Nat} {v : Value} {xs : List Value} {row : Option Nat} (h : Row w t size n v xs) (hg : w.grownBy w' row) (hr : ∀ g, row = some g → ∃ c, w.heap[g]? = some (.cells c t' (0, 0))) (ht : t ≠ t') : Row w' t size n v xs := by
 obtain ⟨h1, a, c, h2, h3, h4, h5⟩ := h
 refine ⟨h1, a, c, h2, h3, h4, fun hn => ?_⟩
 obtain ⟨b, off, arr, h6, h7, h8⟩ := h5 hn
 refine ⟨b, off, arr, h6, (hg.block b h7.lt fun e => ?_).trans h7, h8⟩
 obtain ⟨c', hc⟩ := hr b e.symm
 exact (show Bx w b t arr from h7).ne (show Bx w b t' c' from hc) ht rfl
theorem own_row {w : World} {base : Nat} {e : TypeId} {size n : Nat} {v : Value} {xs : List Value} (h : w.ownsRow base e size v n xs) : ∀ g, v.ownBlock = some g → ∃ c, w.heap[g]? = some (.cells c e (0, 0)) := by
 intro g hg
 rcases h.2 with ⟨rfl, _⟩ | ⟨g', cap, cur, rfl, _, hc, _⟩
 · simp [Value.ownBlock] at hg
 · simp [Value.ownBlock] at hg
   subst hg
   exact ⟨cur, hc⟩
theorem KeyAt.grown {w w' : World} {t' : TypeId} {v : Value} {L : List Nat} {row : Option Nat} (h : KeyAt w v L) (hg : w.grownBy w' row) (hr : ∀ g, row = some g → ∃ c, w.heap[g]? = some (.cells c t' (0, 0))) (ht : 5 ≠ t') : KeyAt w' v L := ⟨h.1, Row.grown h.2 hg hr ht⟩
theorem CellsAt.grown {w w' : World} {v : Value} {L : List Cell} {row : Option Nat} (h : CellsAt w v L) (hg : w.grownBy w' row) (hr : ∀ g, row = some g → ∃ c, w.heap[g]? = some (.cells c 40 (0, 0))) : CellsAt w' v L := by
 obtain ⟨xs, h1, h2, h3, h4⟩ := h
 exact ⟨xs, h1, Row.grown h2 hg hr (by decide), fun x hx => ⟨(h3 x hx).1.grown hg hr (by decide), Row.grown (h3 x hx).2 hg hr (by decide)⟩, h4⟩
theorem ListsAt.later {w w' : World} {base : Nat} {v : Value} {LL : List (List Cell)} (h : ListsAt w base v LL) (hb : Below w.heap.size w w') : ListsAt w' base v LL := by
 obtain ⟨vs, h1, h2⟩ := h
 exact ⟨vs, ownsRow_below h1 hb, fun i x L hx hL => (h2 i x L hx hL).keep (fr0 hb)⟩
theorem ListsAt.snoc {w w' : World} {base : Nat} {v v' x : Value} {LL : List (List Cell)} {L : List Cell} {vs : List Value} (h2 : ∀ (i : Nat) (x : Value) (L : List Cell), vs[i]? = some x → LL[i]? = some L → CellsAt w x L) (hl : vs.length = LL.length) (hx : CellsAt w x L) (ho : w'.ownsRow base 40 1 v' (LL.length + 1) (vs ++ [x])) (hg : w.grownBy w' v.ownBlock) (hr : ∀ g, v.ownBlock = some g → ∃ c, w.heap[g]? = some (.cells c 40 (0, 0))) : ListsAt w' base v' (LL ++ [L]) := by
 refine ⟨vs ++ [x], by simpa using ho, fun i y M hy hM => ?_⟩
 by_cases hi : i < vs.length
 · rw [List.getElem?_append_left hi] at hy
   rw [List.getElem?_append_left (by omega)] at hM
   exact (h2 i y M hy hM).grown hg hr
 · rw [List.getElem?_append_right (by omega)] at hy hM
   rw [hl] at hy
   have e : i - LL.length = 0 := by
     refine Classical.byContradiction fun h => ?_
     rw [List.getElem?_eq_none (by simp; omega)] at hy
     cases hy
   rw [e] at hy hM
   simp at hy hM
   subst hy hM
   exact hx.grown hg hr
set_option maxHeartbeats 1000000 in
set_option maxRecDepth 100000 in
theorem blook_at (B : Nat) (A : Adr) (m : Mem) (i : Nat) (a : Option Addr) (n c : Nat) (w : World) (h : St w B A m) (hi : i < 34) (hh : w.cell? ⟨A.holds, i, none⟩ = some (.slice a n c)) :
   Calls Tryz.prog 35 #[P A.board, .int .i64 i] w fun e w' => e = .returned (.tuple #[.int .u64 (m.word i : Nat), .slice a n c]) ∧ ∃ q, w' = w.drewN q := by
 have c0 : w.cell? ⟨A.board, 0, none⟩ = some (.pointer (some ⟨A.mach, 0, none⟩)) := h.board.cell 0
 have Kl := Lib.hid (mword_any B A m i w h hi)
 have k1 : w.cell? ⟨A.board, 1, none⟩ = some (.slice (some ⟨A.holds, 0, none⟩) 34 34) := h.board.cell 1
 have hi' : (i : Int) < 34 := by omega
 clear h
 go_enter Tryz.func35, Tryz.ntmps35
 go_wp2_with (go_at_call 58; (with_reducible refine Kl.out.mono ?_); rintro e w1 ⟨rfl, rfl⟩)
 go_region
 go_wp2
 exact bodyPost_ret (v := .tuple #[.int .u64 (m.word i : Nat), .slice a n c]) (by simp [results, Tryz.results35, go_sem]) rfl ⟨rfl, 1, rfl⟩
theorem info_cellsT : (Tryz.prog.info? 40).map (fun i => (i.zero, i.size, i.bytes)) = some (some (.slice none 0 0), 1, 24) := by kernel_rfl
set_option maxHeartbeats 4000000 in
set_option maxRecDepth 100000 in
theorem all_any (B : Nat) (A : Adr) (m : Mem) (w : World) (hs : St w B A m) (hd : Dir m) :
   Calls Tryz.prog 24 #[P A.lanes] w fun e w' => ∃ v, e = .returned v ∧ ListsAt w' w.heap.size v (shardsF m (2 ^ lvlOf m)) ∧ Below w.heap.size w w' := by
 obtain ⟨i0, hi, hz0, hz1, hz2⟩ := info_parts info_cellsT
 have h8 := hd.d8
 have HS := Lib.hid hs
 have KL : Hid (Calls Tryz.prog 50 #[P A.lanes] w fun e w' => e = .returned (.tuple #[.int .i64 (lvlOf m : Nat), .bool (movOf m)]) ∧ ∃ q, w' = w.drewN q) := level_any B A m w hs h8
 have h4 : lvlOf m ≤ 4 := by unfold lvlOf; omega
 have hmv : movOf m = true → lvlOf m ≤ 3 := fun h => by unfold movOf at h; unfold lvlOf; have := of_decide_eq_true h; omega
 have Hmv := Lib.hid hmv
 have HSF : Hid (∀ i, shardF m i = if movOf m = false ∨ m.word (place (lvlOf m) i) < FRZ then [m.hold (place (lvlOf m) i)] else [halfF m (m.hold (place (lvlOf m) i)) i, halfF m (m.hold (place (lvlOf m) i)) (i + 2 ^ lvlOf m)]) := fun i => rfl
 have HHF : Hid (∀ L j, halfF m L j = if m.word (place (lvlOf m + 1) j) = 0 then cut L (lvlOf m + 1) j else m.hold (place (lvlOf m + 1) j)) := fun L j => rfl
 clear hs hd h8 hmv
 generalize hl : lvlOf m = lv at *
 generalize movOf m = mv at *
 clear hl
 go_enter Tryz.func24, Tryz.ntmps24
 go_upto_region 4 with (go_at_call 50; (refine KL.out.mono ?_); rintro e w1 ⟨rfl, q, rfl⟩)
 have hp2 : wrap64 (2 ^ lv) = ((2 ^ lv : Nat) : Int) := by
   have h : lv = 0 ∨ lv = 1 ∨ lv = 2 ∨ lv = 3 ∨ lv = 4 := by omega
   rcases h with rfl | rfl | rfl | rfl | rfl <;> simp [wrap64]
 have hN16 : 2 ^ lv ≤ 16 := two_le (show lv ≤ 4 from h4)
 have HN : Hid (∀ i, i < 2 ^ lv → place lv i < 34 ∧ place (lv + 1) i < 2 ^ (lv + 2)) := fun i hi => ⟨place34 h4, (place_lt _ _).2⟩
 rw [hp2]
 clear hp2
 generalize hNN : 2 ^ lv = N at *
 have HNN := Lib.hid hNN
 clear hNN
 go_loopw [3, 20] (fun ov iv wr => ∃ k : Nat, iv = .int .i64 k ∧ k ≤ N ∧ ListsAt wr w.heap.size ov (shardsF m k) ∧ (shardsF m k).length ≤ 2 * k ∧ Below w.heap.size w wr) (fun _ iv _ => N - (intOf iv).toNat)
 case atStart => exact ⟨0, rfl, Nat.zero_le _, ⟨[], World.ownsRow_nil _ _ _ _, fun i x L h => by simp at h⟩, Nat.le_refl _, below_dN w q⟩
 case round =>
   obtain ⟨k, rfl, hk, hls, hlen, hbel⟩ := hrel
   have Hls := Lib.hid hls; have Hlen := Lib.hid hlen; have Hbel := Lib.hid hbel
   clear hls hlen hbel
   by_cases hA : k < N
   · have hst := HS.out.later Hbel.out
     have hpl := (HN.out k hA).1
     obtain ⟨a, n, c, hh0, hck⟩ := hold_cell HS.out hpl
     have hh := cell_later Hbel.out hh0
     have Hck := Lib.hid hck
     have hu : IntKind.u64.wrap (k : Int) = (k : Int) := by rw [IntKind.wrap_u64]; omega
     have cl : wr.cell? ⟨A.lanes, 0, none⟩ = some (P A.board) := hst.lanes.cell 0
     have cl1 : wr.cell? ⟨A.lanes, 1, none⟩ = some (.func (.func 20) #[] #[]) := hst.lanes.cell 1
     have Kp : Hid (∀ q, Calls Tryz.prog 39 #[.int .i64 lv, .int .u64 k] (wr.drewN q) fun e w' => e = .returned (.int .i64 (place lv k : Nat)) ∧ ∃ r, w' = wr.drewN r) := fun q => (place_any lv k (wr.drewN q) (by omega)).mono fun _ _ ⟨he, hw⟩ => ⟨he, q, hw.symm⟩
     have Kq : Hid (∀ q, Calls Tryz.prog 35 #[P A.board, .int .i64 (place lv k : Nat)] (wr.drewN q) fun e w' => e = .returned (.tuple #[.int .u64 (m.word (place lv k) : Nat), .slice a n c]) ∧ ∃ r, w' = wr.drewN r) := fun q => (blook_at B A m (place lv k) a n c (wr.drewN q) (hst.later (below_dN wr q)) hpl hh).mono fun _ _ ⟨he, r, hw⟩ => ⟨he, q + r, by rw [hw]; simp [World.drewN, Nat.add_assoc]⟩
     have HST := Lib.hid hst
     have HSk := Lib.hid (HSF.out k)
     have HSu := Lib.hid (shardsF_succ m k)
     clear hst hh hh0 hck
     generalize hpk : place lv k = pk at *
     have Hpk := Lib.hid hpk
     clear hpk hpl
     go_upto_region 6 with (fail)
     go_quiet (first | (go_at_call 39; with_reducible exact (Kp.out _)) | (go_at_call 35; with_reducible exact (Kq.out _)))
     refine then_name (fun u => Below wr.heap.size wr u) (below_dN wr _) ?_
     intro y hy
     have hby := below_then Hbel.out hy
     have HLy := Lib.hid (Hls.out.later hy); have Hby := Lib.hid hby; have Hcy := Lib.hid (Hck.out.keep (fr0 hby)); have Hsy := Lib.hid (HST.out.later hy)
     have cl := Hsy.out.lanes.cell 0; have cl1 := Hsy.out.lanes.cell 1
     clear hy hby Kp Kq Hls HST hu
     have hcase : (mv = false ∨ m.word pk < FRZ) ∨ (mv = true ∧ FRZ ≤ m.word pk) := by
       cases mv
       · exact .inl (.inl rfl)
       · by_cases h : m.word pk < FRZ
         · exact .inl (.inr h)
         · exact .inr ⟨rfl, by omega⟩
     rcases hcase with hc1 | ⟨rfl, hc2⟩
     · have hsk : shardF m k = [m.hold pk] := by rw [HSk.out, if_pos hc1]
       have Hsk := Lib.hid hsk
       obtain ⟨vs, hown, hvs⟩ := HLy.out
       have hvl : vs.length = (shardsF m k).length := by have := hown.1; omega
       have Hown := Lib.hid hown; have Hvs := Lib.hid hvs; have Hvl := Lib.hid hvl
       clear hsk hown hvs hvl
       have hfz : mv = false ∨ (mv = true ∧ ((m.word pk : Nat) : Int) < 4611686018427387904) := by
         rcases hc1 with h | h
         · exact .inl h
         · cases mv
           · exact .inl rfl
           · exact .inr ⟨rfl, by unfold FRZ at h; omega⟩
       clear hc1
       rcases hfz with rfl | ⟨rfl, hfz⟩
       · go_wp2_with (at_builtin; refine wpList_append_own _ rfl _ _ 93 rfl w.heap.size 40 i0 (.slice none 0 0) 1 24 Tryz.underlying93 hi hz0 hz1 hz2 rfl (by decide) u3 (shardsF m k).length vs rfl (Hown.out.alloc _) ⟨y.heap.size, 0, none⟩ 1 1 [.slice a n c] rfl rfl (World.news_of_block (heap_alloc_new y _)) (by intro u hu; simp at hu; subst hu; rfl) (by have := Hlen.out; unfold maxLen; omega) (by have := Hlen.out; omega) (by have := lt_alloc y (.cells #[.slice a n c] 40); have := Hby.out.size; omega) ?_; intro v' w3 hown3 hgrow3 hnil3)
         have hya := below_allocs [.cells #[.slice a n c] 40] y
         refine ⟨⟨k + 1, by go_num, by omega, ?_, ?_, ?_⟩, by simp [intOf]; omega⟩
         · rw [HSu.out, Hsk.out]
           exact ListsAt.snoc (fun i x L hx hL => (Hvs.out i x L hx hL).keep (fr0 hya)) Hvl.out (Hcy.out.keep (fr0 hya)) hown3 hgrow3 (own_row (Hown.out.alloc _))
         · rw [HSu.out, Hsk.out, List.length_append, List.length_singleton]
           have := Hlen.out
           omega
         · exact (below_then Hby.out hya).grown hgrow3 (Nat.le_trans Hby.out.size hya.size) (fun g hg => (Hown.out.lt g hg).1)
       · go_wp2_with (at_builtin; refine wpList_append_own _ rfl _ _ 93 rfl w.heap.size 40 i0 (.slice none 0 0) 1 24 Tryz.underlying93 hi hz0 hz1 hz2 rfl (by decide) u3 (shardsF m k).length vs rfl (Hown.out.alloc _) ⟨y.heap.size, 0, none⟩ 1 1 [.slice a n c] rfl rfl (World.news_of_block (heap_alloc_new y _)) (by intro u hu; simp at hu; subst hu; rfl) (by have := Hlen.out; unfold maxLen; omega) (by have := Hlen.out; omega) (by have := lt_alloc y (.cells #[.slice a n c] 40); have := Hby.out.size; omega) ?_; intro v' w3 hown3 hgrow3 hnil3)
         have hya := below_allocs [.cells #[.slice a n c] 40] y
         refine ⟨⟨k + 1, by go_num, by omega, ?_, ?_, ?_⟩, by simp [intOf]; omega⟩
         · rw [HSu.out, Hsk.out]
           exact ListsAt.snoc (fun i x L hx hL => (Hvs.out i x L hx hL).keep (fr0 hya)) Hvl.out (Hcy.out.keep (fr0 hya)) hown3 hgrow3 (own_row (Hown.out.alloc _))
         · rw [HSu.out, Hsk.out, List.length_append, List.length_singleton]
           have := Hlen.out
           omega
         · exact (below_then Hby.out hya).grown hgrow3 (Nat.le_trans Hby.out.size hya.size) (fun g hg => (Hown.out.lt g hg).1)
     · have hfz : ¬ ((m.word pk : Nat) : Int) < 4611686018427387904 := by unfold FRZ at hc2; omega
       have hsk : shardF m k = [halfF m (m.hold pk) k, halfF m (m.hold pk) (k + N)] := by
         have := HNN.out
         rw [HSk.out, if_neg (by simp; exact hc2)]
       have Hsk := Lib.hid hsk
       have hkn : wrap64 ((k : Int) + (N : Int)) = ((k + N : Nat) : Int) := by unfold wrap64; omega
       have hl3 : lv ≤ 3 := Hmv.out rfl
       have hp2 : wrap64 (2 ^ lv) = ((N : Nat) : Int) := by
         rw [← HNN.out]
         have h : lv = 0 ∨ lv = 1 ∨ lv = 2 ∨ lv = 3 := by omega
         rcases h with rfl | rfl | rfl | rfl <;> simp [wrap64]
       clear hc2 hsk
       go_upto_region 10 with (fail)
       have hya := below_allocs [.cells #[.int .i64 k, .int .i64 ((k : Int) + N)] 3] y
       have hyb : Bx (y.alloc (.cells #[.int .i64 k, .int .i64 ((k : Int) + N)] 3)) y.heap.size 3 #[.int .i64 k, .int .i64 ((k : Int) + N)] := Bx.new y _ _
       have hbya := below_then Hby.out hya
       have Hls0 : Hid (ListsAt (y.alloc (.cells #[.int .i64 k, .int .i64 ((k : Int) + N)] 3)) w.heap.size u3 (shardsF m k ++ (shardF m k).take 0)) := by
         rw [List.take_zero, List.append_nil]
         exact HLy.out.later hya
       have H0 := Lib.hid (And.intro hbya hyb)
       have hlk : (shardF m k).length = 2 := by rw [Hsk.out]; rfl
       have Hlk := Lib.hid hlk
       have Hl3 := Lib.hid hl3
       have hef : ∀ (args : Array Value) (w : World), (callFunc 20 args).run Tryz.prog w = .ok (.enter 20 args) w := enters_of Tryz.func20 (by kernel_rfl) rfl
       clear hya hyb hbya hlk hl3 hkn hp2 hfz cl cl1
       go_loopw [3, 52] (fun ov jv wq => ∃ jj : Nat, jv = .int .i64 jj ∧ jj ≤ 2 ∧ ListsAt wq w.heap.size ov (shardsF m k ++ (shardF m k).take jj) ∧ Below w.heap.size w wq ∧ Bx wq y.heap.size 3 #[.int .i64 k, .int .i64 ((k : Int) + N)]) (fun _ jv _ => 2 - (intOf jv).toNat)
       case atStart => exact ⟨0, rfl, by decide, Hls0.out, H0.out.1, H0.out.2⟩
       case round =>
         obtain ⟨jj, rfl, hjj, hlq, hbq, hbxq⟩ := hrel
         have Hlq := Lib.hid hlq; have Hbq := Lib.hid hbq; have Hbxq := Lib.hid hbxq
         clear hlq hbq hbxq
         by_cases hJ : jj < 2
         · obtain ⟨j, hj, hjv, hsj⟩ : ∃ j : Nat, wr.cell? ⟨y.heap.size, jj, none⟩ = some (.int .i64 (j : Nat)) ∧ j < 32 ∧ (shardF m k).take (jj + 1) = (shardF m k).take jj ++ [halfF m (m.hold pk) j] := by
             have hjc : jj = 0 ∨ jj = 1 := by omega
             rcases hjc with rfl | rfl
             · exact ⟨k, Hbxq.out.cell 0, by omega, by rw [Hsk.out]; rfl⟩
             · refine ⟨k + N, ?_, by omega, by rw [Hsk.out]; rfl⟩
               rw [Int.natCast_add]
               exact Hbxq.out.cell 1
           have Htk := Lib.hid hsj
           have hst := HS.out.later Hbq.out
           have hpl : place (lv + 1) j < 34 := place34 (by have := Hl3.out; omega)
           obtain ⟨a2, n2, c2, hh0, hck2⟩ := hold_cell HS.out hpl
           have hh := cell_later Hbq.out hh0
           have Hck2 := Lib.hid hck2
           have hu : IntKind.u64.wrap (j : Int) = (j : Int) := by rw [IntKind.wrap_u64]; omega
           have hl1 : wrap64 ((lv : Int) + 1) = ((lv + 1 : Nat) : Int) := by have := Hl3.out; unfold wrap64; omega
           have cl : wr.cell? ⟨A.lanes, 0, none⟩ = some (P A.board) := hst.lanes.cell 0
           have cl1 : wr.cell? ⟨A.lanes, 1, none⟩ = some (.func (.func 20) #[] #[]) := hst.lanes.cell 1
           have Kp : Hid (∀ q, Calls Tryz.prog 39 #[.int .i64 ((lv : Int) + 1), .int .u64 j] (wr.drewN q) fun e w' => e = .returned (.int .i64 (place (lv + 1) j : Nat)) ∧ ∃ r, w' = wr.drewN r) := fun q => (place_any (lv + 1) j (wr.drewN q) (by have := Hl3.out; omega)).mono fun _ _ ⟨he, hw⟩ => ⟨he, q, hw.symm⟩
           have Kq : Hid (∀ q, Calls Tryz.prog 35 #[P A.board, .int .i64 (place (lv + 1) j : Nat)] (wr.drewN q) fun e w' => e = .returned (.tuple #[.int .u64 (m.word (place (lv + 1) j) : Nat), .slice a2 n2 c2]) ∧ ∃ r, w' = wr.drewN r) := fun q => (blook_at B A m (place (lv + 1) j) a2 n2 c2 (wr.drewN q) (hst.later (below_dN wr q)) hpl hh).mono fun _ _ ⟨he, r, hw⟩ => ⟨he, q + r, by rw [hw]; simp [World.drewN, Nat.add_assoc]⟩
           have Kc : Hid (∀ W, Below w.heap.size w W → Calls Tryz.prog 20 #[.slice a n c, .int .i64 ((lv : Int) + 1), .int .i64 j] W fun e w' => ∃ a n c, e = .returned (.slice a n c) ∧ CellsAt w' (.slice a n c) (cut (m.hold pk) (lv + 1) j) ∧ Below W.heap.size W w') := fun W hb => cut_any _ (m.hold pk) (lv + 1) j W (Hck.out.keep (fr0 hb)) (by have := Hl3.out; omega)
           have HHj := Lib.hid (HHF.out (m.hold pk) j)
           clear hst hh hh0 hck2 hpl hsj
           generalize hpk2 : place (lv + 1) j = pj at *
           have Hpj := Lib.hid hpk2
           clear hpk2
           go_upto_region 12 with (fail)
           go_quiet (first | (go_at_call 39; with_reducible exact (Kp.out _)) | (go_at_call 35; with_reducible exact (Kq.out _)))
           refine then_name (fun u => Below wr.heap.size wr u) (below_dN wr _) ?_
           intro z hz
           have hbz := below_then Hbq.out hz
           have Hlz := Lib.hid (Hlq.out.later hz); have Hbz := Lib.hid hbz; have Hcz := Lib.hid (Hck2.out.keep (fr0 hbz)); have hst := HS.out.later hbz; have Hbxz := Lib.hid (Hbxq.out.below hz Hbxq.out.lt)
           have cl := hst.lanes.cell 0; have cl1 := hst.lanes.cell 1
           have Hlen2 : Hid ((shardsF m k ++ (shardF m k).take jj).length ≤ 40) := by
             rw [List.length_append, List.length_take]
             have := Hlen.out
             have := Hlk.out
             show _ ≤ 40
             omega
           clear hz hbz Kp Kq hst hu
           by_cases h0 : m.word pj = 0
           · have hx : halfF m (m.hold pk) j = cut (m.hold pk) (lv + 1) j := by rw [HHj.out, if_pos h0]
             have Hx := Lib.hid hx
             rw [h0]
             clear h0 hx
             go_upto_region 15 with (go_at_call 20; (refine (Kc.out _ Hbz.out).mono ?_); rintro e w2 ⟨a3, n3, c3, rfl, hc3, hb3⟩; have hlz2 := Hlz.out.later hb3; have hbz2 := below_then Hbz.out hb3; have hbx2 := Hbxz.out.below hb3 Hbxz.out.lt; clear Hlz Hbz Hbxz; have Hlz := Lib.hid hlz2; have Hbz := Lib.hid hbz2; have Hbxz := Lib.hid hbx2; have Hc3 := Lib.hid hc3; clear hlz2 hbz2 hbx2 hc3 hb3)
             rw [← Hx.out] at Hc3
             obtain ⟨vs, hown, hvs⟩ := Hlz.out
             have hvl : vs.length = (shardsF m k ++ (shardF m k).take jj).length := by have := hown.1; rwa [Nat.mul_one] at this
             have Hown := Lib.hid hown; have Hvs := Lib.hid hvs; have Hvl := Lib.hid hvl
             clear hown hvs hvl
             go_wp2_with (at_builtin; refine wpList_append_own _ rfl _ _ 93 rfl w.heap.size 40 i0 (.slice none 0 0) 1 24 Tryz.underlying93 hi hz0 hz1 hz2 rfl (by decide) _ (shardsF m k ++ (shardF m k).take jj).length vs rfl (Hown.out.alloc _) ⟨w2.heap.size, 0, none⟩ 1 1 [.slice a3 n3 c3] rfl rfl (World.news_of_block (heap_alloc_new w2 _)) (by intro u hu; simp at hu; subst hu; rfl) (by have := Hlen2.out; unfold maxLen; omega) (by have := Hlen2.out; omega) (by have := lt_alloc w2 (.cells #[.slice a3 n3 c3] 40); have := Hbz.out.size; omega) ?_; intro v' w3 hown3 hgrow3 hnil3)
             have hza := below_allocs [.cells #[.slice a3 n3 c3] 40] w2
             refine ⟨⟨jj + 1, by go_num, by omega, ?_, ?_, ?_⟩, by simp [intOf]; omega⟩
             · rw [Htk.out]
               rw [← List.append_assoc]
               exact ListsAt.snoc (fun i x L hx hL => (Hvs.out i x L hx hL).keep (fr0 hza)) Hvl.out (Hc3.out.keep (fr0 hza)) hown3 hgrow3 (own_row (Hown.out.alloc _))
             · exact (below_then Hbz.out hza).grown hgrow3 (Nat.le_trans Hbz.out.size hza.size) (fun g hg => (Hown.out.lt g hg).1)
             · refine (hgrow3.block _ (Nat.lt_of_lt_of_le Hbxz.out.lt hza.size) fun e => ?_).trans (Hbxz.out.below hza Hbxz.out.lt)
               obtain ⟨c', hc'⟩ := own_row (Hown.out.alloc (.cells #[.slice a3 n3 c3] 40)) _ e.symm
               exact (Hbxz.out.below hza Hbxz.out.lt).ne (show Bx _ _ 40 c' from hc') (by decide) rfl
           · have hx : halfF m (m.hold pk) j = m.hold pj := by rw [HHj.out, if_neg h0]
             have h0' : ¬ ((m.word pj : Nat) : Int) = 0 := by omega
             have Hc3 := Hcz
             rw [← hx] at Hc3
             clear h0 hx
             obtain ⟨vs, hown, hvs⟩ := Hlz.out
             have hvl : vs.length = (shardsF m k ++ (shardF m k).take jj).length := by have := hown.1; rwa [Nat.mul_one] at this
             have Hown := Lib.hid hown; have Hvs := Lib.hid hvs; have Hvl := Lib.hid hvl
             clear hown hvs hvl
             go_wp2_with (at_builtin; refine wpList_append_own _ rfl _ _ 93 rfl w.heap.size 40 i0 (.slice none 0 0) 1 24 Tryz.underlying93 hi hz0 hz1 hz2 rfl (by decide) _ (shardsF m k ++ (shardF m k).take jj).length vs rfl (Hown.out.alloc _) ⟨z.heap.size, 0, none⟩ 1 1 [.slice a2 n2 c2] rfl rfl (World.news_of_block (heap_alloc_new z _)) (by intro u hu; simp at hu; subst hu; rfl) (by have := Hlen2.out; unfold maxLen; omega) (by have := Hlen2.out; omega) (by have := lt_alloc z (.cells #[.slice a2 n2 c2] 40); have := Hbz.out.size; omega) ?_; intro v' w3 hown3 hgrow3 hnil3)
             have hza := below_allocs [.cells #[.slice a2 n2 c2] 40] z
             refine ⟨⟨jj + 1, by go_num, by omega, ?_, ?_, ?_⟩, by simp [intOf]; omega⟩
             · rw [Htk.out]
               rw [← List.append_assoc]
               exact ListsAt.snoc (fun i x L hx hL => (Hvs.out i x L hx hL).keep (fr0 hza)) Hvl.out (Hc3.out.keep (fr0 hza)) hown3 hgrow3 (own_row (Hown.out.alloc _))
             · exact (below_then Hbz.out hza).grown hgrow3 (Nat.le_trans Hbz.out.size hza.size) (fun g hg => (Hown.out.lt g hg).1)
             · refine (hgrow3.block _ (Nat.lt_of_lt_of_le Hbxz.out.lt hza.size) fun e => ?_).trans (Hbxz.out.below hza Hbxz.out.lt)
               obtain ⟨c', hc'⟩ := own_row (Hown.out.alloc (.cells #[.slice a2 n2 c2] 40)) _ e.symm
               exact (Hbxz.out.below hza Hbxz.out.lt).ne (show Bx _ _ 40 c' from hc') (by decide) rfl
         · obtain rfl : jj = 2 := by omega
           have hl2 := Hlq.out
           have e : shardsF m k ++ (shardF m k).take 2 = shardsF m (k + 1) := by
             rw [HSu.out, List.take_of_length_le (by rw [Hlk.out]; omega)]
           rw [e] at hl2
           have Hl2 := Lib.hid hl2
           have hlen3 : (shardsF m (k + 1)).length ≤ 2 * (k + 1) := by
             rw [HSu.out, List.length_append, Hlk.out]
             have := Hlen.out
             omega
           have Hlen3 := Lib.hid hlen3
           clear hl2 e hlen3
           go_wp2
           go_roundw
           case rel => exact ⟨k + 1, by go_num, by omega, Hl2.out, Hlen3.out, Hbq.out⟩
           case measure => simp [intOf]; omega
   · obtain rfl : k = N := by omega
     have hl := Hls.out
     go_wp2
     refine bodyPost_ret (v := u3) (by simp [results, Tryz.results24, go_sem]) rfl ⟨_, rfl, ?_, Hbel.out⟩
     rw [HNN.out]
     exact hl
end Go.Proofs.YtemnhpdjoimjbaaGreat
