import Derived.Test.YtemnhpdjoimjbaaGreatTs33
namespace Go.Proofs.YtemnhpdjoimjbaaGreat
section
open Go.RowKit Top
set_option linter.unusedVariables false
variable (Bl : Top.Below)
set_option maxHeartbeats 1000000 in
set_option maxRecDepth 100000 in
theorem step_evictSwap (B : Nat) (E : Env) (x : Live) (m : Mem) (j shards : Nat) (gone : Int) (word u : Nat) (rest : List Cell) (n : Nat) (v : Value) (w : World) (hk : KontAt w E v (.evictSwap j shards gone word u rest n)) (hj : j < 65535) (hsh : shards < 65536) (hn : n ≤ 1048576) (hs : St w B E.A m) (hcl : CallAt w E x) (ok : E.Ok m) (hi : word < 34) (hu : u < 4611686018427387904) :
   ∃ fn ps, v = .func (.func fn) #[] ps ∧ Enters fn ∧ Calls Tryz.prog fn ps w (ORes w B E (stepF Bl E.A.list E.A.room (.evictSwap j shards gone word u rest n) x m)) := by
 obtain ⟨b0, b1, b2, b3, cv, b4, fv, b5, b6, rfl, h0, h1, h2, h3, hcv, h4, hfv, h5, h6⟩ := hk
 refine ⟨_, _, rfl, enters_of Tryz.func105 (by kernel_rfl) rfl, ?_⟩
 obtain ⟨va, vn, vc, rfl⟩ := hcv.slice
 have hwr : IntKind.u64.wrap ((u : Int) + 1) = (u : Int) + 1 := by rw [IntKind.wrap_u64]; omega
 obtain ⟨sw, m1, hsw⟩ : ∃ sw m1, m.swap word u (u + 1) rest = (sw, m1) := ⟨_, _, rfl⟩
 have Ks : Hid (∀ W, St W B E.A m → CellsAt W (.slice va vn vc) rest → Calls Tryz.prog 38 #[P E.A.board, .int .i64 E.who, .int .i64 word, .int .u64 u, .int .u64 ((u : Int) + 1), .slice va vn vc] W fun e w' => e = .returned (.bool sw) ∧ Acc W B E.A m1 w') := fun W h hv => by
   have k := bswap_any B E.A m E.who word u (u + 1) (.slice va vn vc) _ W h ok.who0 ok.who1 hi (by omega) hv ok.count
   rw [hsw] at k
   exact k
 have hff : Func1 fv := by obtain ⟨_, _, _, e, _⟩ := hfv; exact ⟨_, _, e⟩
 obtain ⟨ff, fps, rfl⟩ := hff
 have W0 := Lib.hid (Was.start hs hcl)
 have HB0 := Lib.hid hs.below.2.2.2
 have H := Lib.hid (And.intro h0 (And.intro h1 (And.intro h2 (And.intro h3 (And.intro h4 (And.intro h5 (And.intro h6 (And.intro hcv hfv))))))))
 have Hsw := Lib.hid hsw; have Hj := Lib.hid hj; have Hsh := Lib.hid hsh; have Hn := Lib.hid hn
 clear hs hcl ok h0 h1 h2 h3 h4 h5 h6 hcv hfv hi hu hsw hj hsh hn
 go_enter Tryz.func105, Tryz.ntmps105
 go_wp2_with fail
 refine wp_name (fun u => Was w B E x (m) u ∧ Bx u w.heap.size 37 res0) ⟨W0.out.later (below_allocs [_] w), bx_allocs w [_] 0 rfl⟩ ?_
 rintro y ⟨hw, hl0⟩
 have HW := Lib.hid hw
 have HL0 := Lib.hid hl0
 have HS : Hid (∀ (mm : Mem) (W : World), Was w B E x mm W → Fr B [] y W → W.cell? ⟨b0, 0, none⟩ = some (P E.x) ∧ W.cell? ⟨E.x, 4, none⟩ = some (P E.A.K) ∧ W.cell? ⟨E.A.K, 2, none⟩ = some (P E.A.lanes) ∧ W.cell? ⟨E.A.lanes, 0, none⟩ = some (P E.A.board) ∧ W.cell? ⟨E.x, 5, none⟩ = some (.int .i64 E.who) ∧ W.cell? ⟨b1, 0, none⟩ = some (.int .i64 (word : Nat)) ∧ W.cell? ⟨b2, 0, none⟩ = some (.int .u64 (u : Nat)) ∧ W.cell? ⟨b3, 0, none⟩ = some (.slice va vn vc)) := fun mm W hw hf => ⟨(H.out.1.keep hw.fr rfl).cell 0, hw.call.c4, hw.st.core.c2, hw.st.lanes.cell 0, hw.call.c5, (H.out.2.1.keep hw.fr rfl).cell 0, (H.out.2.2.1.keep hw.fr rfl).cell 0, (H.out.2.2.2.1.keep hw.fr rfl).cell 0⟩
 have HSa : Hid (∀ W : World, Below y.heap.size y W → W.cell? ⟨b0, 0, none⟩ = some (P E.x) ∧ W.cell? ⟨E.x, 4, none⟩ = some (P E.A.K) ∧ W.cell? ⟨E.A.K, 2, none⟩ = some (P E.A.lanes) ∧ W.cell? ⟨E.A.lanes, 0, none⟩ = some (P E.A.board) ∧ W.cell? ⟨E.x, 5, none⟩ = some (.int .i64 E.who) ∧ W.cell? ⟨b1, 0, none⟩ = some (.int .i64 (word : Nat)) ∧ W.cell? ⟨b2, 0, none⟩ = some (.int .u64 (u : Nat)) ∧ W.cell? ⟨b3, 0, none⟩ = some (.slice va vn vc)) := fun W hb => HS.out _ W (HW.out.later hb) (Fr.of_below HW.out.st.below.2.2.2 hb)
 have HLt : Hid (b0 < y.heap.size ∧ E.x < y.heap.size ∧ E.A.K < y.heap.size ∧ E.A.lanes < y.heap.size ∧ E.x < y.heap.size ∧ b1 < y.heap.size ∧ b2 < y.heap.size ∧ b3 < y.heap.size) := ⟨(H.out.1.keep HW.out.fr rfl).lt, HW.out.call.lt, HW.out.st.core.lt, HW.out.st.lanes.lt, HW.out.call.lt, (H.out.2.1.keep HW.out.fr rfl).lt, (H.out.2.2.1.keep HW.out.fr rfl).lt, (H.out.2.2.2.1.keep HW.out.fr rfl).lt⟩
 clear hw hl0
 go_region_held3 (fun w' => w'.cell? ⟨b0, 0, none⟩ = some (P E.x) ∧ w'.cell? ⟨E.x, 4, none⟩ = some (P E.A.K) ∧ w'.cell? ⟨E.A.K, 2, none⟩ = some (P E.A.lanes) ∧ w'.cell? ⟨E.A.lanes, 0, none⟩ = some (P E.A.board) ∧ w'.cell? ⟨E.x, 5, none⟩ = some (.int .i64 E.who) ∧ w'.cell? ⟨b1, 0, none⟩ = some (.int .i64 (word : Nat)) ∧ w'.cell? ⟨b2, 0, none⟩ = some (.int .u64 (u : Nat)) ∧ w'.cell? ⟨b3, 0, none⟩ = some (.slice va vn vc)) (first | (refine HSa.out _ ?_; (repeat (first | (with_reducible first | exact RowKit.Below.refl _ _ | assumption | refine RowKit.Below.drew ?_) | ((with_reducible first | refine belAlloc ?_ ?_ | refine belSet ?_ ?_); (first | simp <;> omega | omega)))); done) | (refine hSb _ ?_; (repeat (first | (with_reducible first | exact RowKit.Below.refl _ _ | assumption | refine RowKit.Below.drew ?_) | ((with_reducible first | refine belAlloc ?_ ?_ | refine belSet ?_ ?_); (first | simp <;> omega | omega)))); done)) ((first | (go_at_call 38; (refine (Ks.out _ (HW.out.later (by (repeat (first | (with_reducible first | exact RowKit.Below.refl _ _ | assumption | refine RowKit.Below.drew ?_) | ((with_reducible first | refine belAlloc ?_ ?_ | refine belSet ?_ ?_); (first | simp <;> omega | omega)))))).st (H.out.2.2.2.2.2.2.2.1.keep (HW.out.later (by (repeat (first | (with_reducible first | exact RowKit.Below.refl _ _ | assumption | refine RowKit.Below.drew ?_) | ((with_reducible first | refine belAlloc ?_ ?_ | refine belSet ?_ ?_); (first | simp <;> omega | omega)))))).fr)).mono ?_); rintro e w1 ⟨rfl, hacc⟩; have hbW := belOfA (u := y) hacc (by (repeat (first | (with_reducible first | exact RowKit.Below.refl _ _ | assumption | refine RowKit.Below.drew ?_) | ((with_reducible first | refine belAlloc ?_ ?_ | refine belSet ?_ ?_); (first | simp <;> omega | omega))))); have hw2 := (HW.out.later hbW).acc hacc; have hf := Fr.trans (Fr.of_below (X := []) HW.out.st.below.2.2.2 hbW) hacc.2; have hfW := hacc.2; have hs2 := HS.out _ w1 hw2 hf; have hSb : ∀ W : World, Below y.heap.size w1 W → W.cell? ⟨b0, 0, none⟩ = some (P E.x) ∧ W.cell? ⟨E.x, 4, none⟩ = some (P E.A.K) ∧ W.cell? ⟨E.A.K, 2, none⟩ = some (P E.A.lanes) ∧ W.cell? ⟨E.A.lanes, 0, none⟩ = some (P E.A.board) ∧ W.cell? ⟨E.x, 5, none⟩ = some (.int .i64 E.who) ∧ W.cell? ⟨b1, 0, none⟩ = some (.int .i64 (word : Nat)) ∧ W.cell? ⟨b2, 0, none⟩ = some (.int .u64 (u : Nat)) ∧ W.cell? ⟨b3, 0, none⟩ = some (.slice va vn vc) := fun W hb => ⟨cell_lt HLt.out.1 hb hs2.1, cell_lt HLt.out.2.1 hb hs2.2.1, cell_lt HLt.out.2.2.1 hb hs2.2.2.1, cell_lt HLt.out.2.2.2.1 hb hs2.2.2.2.1, cell_lt HLt.out.2.2.2.2.1 hb hs2.2.2.2.2.1, cell_lt HLt.out.2.2.2.2.2.1 hb hs2.2.2.2.2.2.1, cell_lt HLt.out.2.2.2.2.2.2.1 hb hs2.2.2.2.2.2.2.1, cell_lt HLt.out.2.2.2.2.2.2.2 hb hs2.2.2.2.2.2.2.2⟩; have hsk := hs2; have hsz := hf.size; have hl02 := HL0.out.keep hf rfl; have HW2 := Lib.hid hw2; have Hf := Lib.hid hf; have HLb0 := Lib.hid hl02; clear hw2 hf hfW hbW hs2 hacc hl02)))
 have hw := HW2.out
 have hl0 := HLb0.out
 clear HW2 HW HSa HS HLt hSb hsz Hf HLb0 HL0 Ks hwr
 have c0 := (H.out.1.keep hw.fr rfl).at0; have c4 := (H.out.2.2.2.2.1.keep hw.fr rfl).at0; have c5 := (H.out.2.2.2.2.2.1.keep hw.fr rfl).at0; have c6 := (H.out.2.2.2.2.2.2.1.keep hw.fr rfl).at0
 have hfv := H.out.2.2.2.2.2.2.2.2.keep hw.fr
 have hb4 := H.out.2.2.2.2.1.keep hw.fr rfl; have hb5 := H.out.2.2.2.2.2.1.keep hw.fr rfl; have hb6 := H.out.2.2.2.2.2.2.1.keep hw.fr rfl
 have HW := Lib.hid hw; have HL0 := Lib.hid hl0
 clear hw hl0
 cases sw with
 | false =>
   have hx : stepF Bl E.A.list E.A.room (.evictSwap j shards gone word u rest n) x m = further j shards gone x m1 := by
     show (if (m.swap word u (u + 1) rest).1 then _ else further j shards gone x (m.swap word u (u + 1) rest).2) = _
     rw [Hsw.out]
     rfl
   have Hx := Lib.hid hx
   obtain ⟨f, ps, hfe, hef, kt⟩ := further_any B E x m1 j shards gone _ w1 hfv HW.out.st HW.out.call Hj.out Hsh.out
   injection hfe with e1 e2 e3
   subst e1 e3
   unfold Enters at hef
   have Kt := Lib.hid kt
   clear hx kt hfv hb4 hb5 hb6
   go_wp2_with (go_at_fn f; (refine (Kt.out).mono ?_); rintro e w3 h; obtain ⟨v, d, a, rfl, ha⟩ := Ans.of h; have hr3 := HL0.out.keep ha.fr rfl; obtain ⟨r0, r1, r2, r3, r4, r5, r6⟩ := res_cells hr3; obtain ⟨f0, f1, f2, f3, f4, f5, f6⟩ := res_free hr3; have Hr3 := Lib.hid hr3; have Ha := Lib.hid ha; clear hr3 ha h)
   rw [Hx.out]
   exact bodyPost_ret (v := .tuple #[v, .agg (resA d a)]) (by simp [results, Tryz.results105, go_sem, r0, r1, r2, r3, r4, r5, r6]) rfl ((Ha.out.pre HW.out.fr).store Hr3.out (Nat.le_refl _) HB0.out).ores
 | true =>
   have hx : stepF Bl E.A.list E.A.room (.evictSwap j shards gone word u rest n) x m = more (backK n (.evict j shards (gone + n))) x m1 := by
     show (if (m.swap word u (u + 1) rest).1 then more (backK n (.evict j shards (gone + n))) x (m.swap word u (u + 1) rest).2 else _) = _
     rw [Hsw.out]
     rfl
   have Hx := Lib.hid hx
   have hnu : IntKind.u64.wrap (n : Int) = (n : Int) := by have := Hn.out; rw [IntKind.wrap_u64]; omega
   have Kt := Lib.hid (back_any E n (.evict j shards (gone + n)) (.func (.func 107) #[] #[P b4, P b5, P b6]) w1 ⟨gone, n, rfl, _, _, _, _, rfl, hb4, hfv, hb5, hb6⟩)
   clear hx hfv hb4 hb5 hb6
   go_wp2_with (first | (go_at_call 106; (refine (Kt.out).mono ?_); rintro e w2 ⟨v, rfl, hk, hb⟩; have hr2 := HL0.out.keep (fr0 hb) rfl; have hw2 := HW.out.later hb; have Hk := Lib.hid hk; have Hr2 := Lib.hid hr2; have HW2 := Lib.hid hw2; clear hk hr2 hw2 hb) | (go_at_call 68; (refine (con_any _ _).mono ?_); rintro e w3 ⟨rfl, hb⟩; have hr3 := Hr2.out.keep (fr0 hb) rfl; have hw3 := HW2.out.later hb; have hk3 := Hk.out.keep (fr0 hb); obtain ⟨r0, r1, r2, r3, r4, r5, r6⟩ := res_cells hr3; obtain ⟨f0, f1, f2, f3, f4, f5, f6⟩ := res_free hr3; have Hr3 := Lib.hid hr3; have HW3 := Lib.hid hw3; have Hk3 := Lib.hid hk3; clear hr3 hw3 hk3 hb))
   rw [Hx.out]
   exact bodyPost_ret (v := .tuple #[v, .agg (resA false (err 0))]) (by simp [results, Tryz.results105, go_sem, r0, r1, r2, r3, r4, r5, r6]) rfl ((Ans.more HW3.out Hk3.out).store Hr3.out (Nat.le_refl _) HB0.out).ores
set_option maxHeartbeats 1000000 in
set_option maxRecDepth 100000 in
theorem step_evictStart (B : Nat) (E : Env) (x : Live) (m : Mem) (v : Value) (w : World) (hk : KontAt w E v .evictStart) (hs : St w B E.A m) (hcl : CallAt w E x) (ok : E.Ok m) (h8 : m.word 0 ≤ 8) :
   ∃ fn ps, v = .func (.func fn) #[] ps ∧ Enters fn ∧ Calls Tryz.prog fn ps w (ORes w B E (stepF Bl E.A.list E.A.room .evictStart x m)) := by
 obtain ⟨b0, rfl, h0⟩ := hk
 refine ⟨_, _, rfl, enters_of Tryz.func66 (by kernel_rfl) rfl, ?_⟩
 have W0 := Lib.hid (Was.start hs hcl)
 have HB0 := Lib.hid hs.below.2.2.2
 have HW : Hid (Was w B E x m (w.alloc (.cells res0 37))) := W0.out.later (below_allocs [_] w)
 have HL0 : Hid (Bx (w.alloc (.cells res0 37)) w.heap.size 37 res0) := bx_allocs w [_] 0 rfl
 have H := Lib.hid h0
 have c0 := h0.at0; have l0 := h0.lt
 have Kl := Lib.hid (cload_any B E x m 0 (w.alloc (.cells res0 37)) HW.out.st HW.out.call ok (by decide))
 obtain ⟨d, hd⟩ : ∃ d, m.word 0 = d := ⟨_, rfl⟩
 rw [hd] at Kl h8
 obtain ⟨pw, hpw⟩ : ∃ pw, 2 ^ ((d + 1) / 2) = pw := ⟨_, rfl⟩
 have Hx : Hid (stepF Bl E.A.list E.A.room .evictStart x m = more (.find 0 (.evict 0 pw 0)) x m.touch) := by
   show more (.find 0 (.evict 0 (2 ^ ((m.word 0 + 1) / 2)) 0)) x m.touch = _
   rw [hd, hpw]
 have hd9 : d = 0 ∨ d = 1 ∨ d = 2 ∨ d = 3 ∨ d = 4 ∨ d = 5 ∨ d = 6 ∨ d = 7 ∨ d = 8 := by omega
 have Ke := Lib.hid (fun W h1 h2 => evict_any B E x m.touch 0 pw 0 W h1 h2 (by decide))
 clear h0 hs hcl ok h8 hd
 rcases hd9 with rfl | rfl | rfl | rfl | rfl | rfl | rfl | rfl | rfl
 all_goals
   simp at hpw
   subst hpw
   go_enter Tryz.func66, Tryz.ntmps66
   go_wp2_with (first | (go_at_call 67; (refine Kl.out.mono ?_); rintro e w1 ⟨rfl, hno⟩; have hw1 := HW.out.noted hno; have hr1 := HL0.out.keep (hno.acc HW.out.st).2 rfl; have k0 := (H.out.keep hw1.fr rfl).at0; have HW1 := Lib.hid hw1; have HR1 := Lib.hid hr1; clear hno hw1 hr1) | (go_at_call 69; (refine (Ke.out _ HW1.out.st HW1.out.call).mono ?_); rintro e w2 ⟨v, rfl, hk, hb⟩; have hr2 := HR1.out.keep (fr0 hb) rfl; have hw2 := HW1.out.later hb; have Hk := Lib.hid hk; have Hr2 := Lib.hid hr2; have HW2 := Lib.hid hw2; clear hk hr2 hw2 hb) | (go_at_call 68; (refine (con_any _ _).mono ?_); rintro e w3 ⟨rfl, hb⟩; have hr3 := Hr2.out.keep (fr0 hb) rfl; have hw3 := HW2.out.later hb; have hk3 := Hk.out.keep (fr0 hb); obtain ⟨r0, r1, r2, r3, r4, r5, r6⟩ := res_cells hr3; obtain ⟨f0, f1, f2, f3, f4, f5, f6⟩ := res_free hr3; have Hr3 := Lib.hid hr3; have HW3 := Lib.hid hw3; have Hk3 := Lib.hid hk3; clear hr3 hw3 hk3 hb))
   rw [Hx.out]
   exact bodyPost_ret (v := .tuple #[v, .agg (resA false (err 0))]) (by simp [results, Tryz.results66, go_sem, r0, r1, r2, r3, r4, r5, r6]) rfl ((Ans.more HW3.out Hk3.out).store Hr3.out (Nat.le_refl _) HB0.out).ores
end
section
open Go.RowKit Top
set_option linter.unusedVariables false
set_option maxHeartbeats 1000000 in
set_option maxRecDepth 100000 in
theorem first_any (B : Nat) (E : Env) (x : Live) (m : Mem) (w : World) (hs : St w B E.A m) (hcl : CallAt w E x) (hk : x.call.op ≤ 4 → ∃ p : Nat, x.call.pol = (p : Int) ∧ E.A.list[p]? = some E.pol) (hsum : x.sum = sumB (ident x.call.pol x.call.key)) (h6 : x.call.op ≤ 6) :
   Calls Tryz.prog 47 #[P E.x] w (KRes w E (firstK x.call)) := by
 have hb0 := below_allocs [.cells #[P E.x] 129] w
 have W0 := Lib.hid (Was.start hs hcl)
 have Y0 := Lib.hid (W0.out.later hb0)
 have Hb0 := Lib.hid hb0
 have x0 := hcl.c0; have lx := hcl.lt
 obtain ⟨op, hop⟩ : ∃ op, x.call.op = op := ⟨_, rfl⟩
 rw [hop] at x0 hk h6
 by_cases h1 : op = 6
 · subst h1
   have hx : firstK x.call = .split := by unfold firstK; rw [hop]; rfl
   have Hx := Lib.hid hx
   have Kf := Lib.hid (fun W => split_any E W)
   clear hs hcl hk hsum h6 hx hop hb0
   go_enter Tryz.func47, Tryz.ntmps47
   go_wp2_with fail
   refine wp_name (fun u => Was w B E x m u ∧ Below w.heap.size w u ∧ Bx u w.heap.size 129 #[P E.x]) ⟨Y0.out, Hb0.out, bx_allocs w [_] 0 rfl⟩ ?_
   rintro u ⟨hw, hbu0, hl0⟩
   have HBu := Lib.hid hbu0; clear hbu0
   have HW := Lib.hid hw
   have HL0 := Lib.hid hl0
   have HS : Hid (∀ (mm : Mem) (W : World), Was w B E x mm W → Fr B [] u W → W.cell? ⟨w.heap.size, 0, none⟩ = some (P E.x) ∧ W.cell? ⟨E.x, 4, none⟩ = some (P E.A.K) ∧ W.cell? ⟨E.A.K, 2, none⟩ = some (P E.A.lanes) ∧ W.cell? ⟨E.x, 5, none⟩ = some (.int .i64 E.who)) := fun mm W hw hf => ⟨(HL0.out.keep hf rfl).cell 0, hw.call.c4, hw.st.core.c2, hw.call.c5⟩
   have HSa : Hid (∀ W : World, Below u.heap.size u W → W.cell? ⟨w.heap.size, 0, none⟩ = some (P E.x) ∧ W.cell? ⟨E.x, 4, none⟩ = some (P E.A.K) ∧ W.cell? ⟨E.A.K, 2, none⟩ = some (P E.A.lanes) ∧ W.cell? ⟨E.x, 5, none⟩ = some (.int .i64 E.who)) := fun W hb => HS.out _ W (HW.out.later hb) (Fr.of_below HW.out.st.below.2.2.2 hb)
   have HLt : Hid (w.heap.size < u.heap.size ∧ E.x < u.heap.size ∧ E.A.K < u.heap.size ∧ E.x < u.heap.size) := ⟨HL0.out.lt, HW.out.call.lt, HW.out.st.core.lt, HW.out.call.lt⟩
   clear hw hl0
   go_region_held3 (fun w' => w'.cell? ⟨w.heap.size, 0, none⟩ = some (P E.x) ∧ w'.cell? ⟨E.x, 4, none⟩ = some (P E.A.K) ∧ w'.cell? ⟨E.A.K, 2, none⟩ = some (P E.A.lanes) ∧ w'.cell? ⟨E.x, 5, none⟩ = some (.int .i64 E.who)) (first | (refine HSa.out _ ?_; (repeat (first | (with_reducible first | exact RowKit.Below.refl _ _ | assumption | refine RowKit.Below.drew ?_) | ((with_reducible first | refine belAlloc ?_ ?_ | refine belSet ?_ ?_); (first | simp <;> omega | omega)))); done) | (refine hSb _ ?_; (repeat (first | (with_reducible first | exact RowKit.Below.refl _ _ | assumption | refine RowKit.Below.drew ?_) | ((with_reducible first | refine belAlloc ?_ ?_ | refine belSet ?_ ?_); (first | simp <;> omega | omega)))); done)) ((first | (go_at_call 64; (refine (Kf.out _).mono ?_); rintro e w2 ⟨v, rfl, hk, hb⟩; have hbW := belOfB (u := u) hb (by (repeat (first | (with_reducible first | exact RowKit.Below.refl _ _ | assumption | refine RowKit.Below.drew ?_) | ((with_reducible first | refine belAlloc ?_ ?_ | refine belSet ?_ ?_); (first | simp <;> omega | omega))))); have hbu := hbW.trans (hb.mono hbW.size); have hw2 := HW.out.later hbu; have hf : Fr B [] u w2 := Fr.of_below HW.out.st.below.2.2.2 hbu; have hfW : Fr B [] _ w2 := Fr.of_below (Nat.le_trans HW.out.st.below.2.2.2 hbW.size) hb; have Hk := Lib.hid hk; have HB2 := Lib.hid hbu; clear hk; have hs2 := HS.out _ w2 hw2 hf; have hSb : ∀ W : World, Below u.heap.size w2 W → W.cell? ⟨w.heap.size, 0, none⟩ = some (P E.x) ∧ W.cell? ⟨E.x, 4, none⟩ = some (P E.A.K) ∧ W.cell? ⟨E.A.K, 2, none⟩ = some (P E.A.lanes) ∧ W.cell? ⟨E.x, 5, none⟩ = some (.int .i64 E.who) := fun W hb => ⟨cell_lt HLt.out.1 hb hs2.1, cell_lt HLt.out.2.1 hb hs2.2.1, cell_lt HLt.out.2.2.1 hb hs2.2.2.1, cell_lt HLt.out.2.2.2 hb hs2.2.2.2⟩; have hsk := hs2; have hsz := hf.size; have hl02 := HL0.out.keep hf rfl; have HW2 := Lib.hid hw2; have Hf := Lib.hid hf; have HLb0 := Lib.hid hl02; clear hw2 hf hfW hbW hs2 hb hbu hl02)))
   all_goals
     go_wp2_with fail
     go_ret
     rw [Hx.out]
     exact ⟨v, rfl, Hk.out, HBu.out.trans (HB2.out.mono HBu.out.size)⟩
 · by_cases h2 : op = 5
   · subst h2
     have hx : firstK x.call = .evictStart := by unfold firstK; rw [hop]; rfl
     have Hx := Lib.hid hx
     clear hs hcl hk hsum h6 hx hop hb0 h1
     go_enter Tryz.func47, Tryz.ntmps47
     go_wp2_with fail
     go_ret
     rw [Hx.out]
     exact ⟨_, rfl, ⟨w.heap.size, rfl, bx_allocs w [_] 0 rfl⟩, Hb0.out⟩
   · obtain ⟨p, hp1, hp2⟩ := hk (by omega)
     have hx : firstK x.call = .find x.sum .call := by
       unfold firstK
       rw [hop, if_neg h1, if_neg h2, hsum]
     have Hx := Lib.hid hx
     have h1i : ¬ (op : Int) = 6 := by omega
     have h2i : ¬ (op : Int) = 5 := by omega
     have Kb : Hid (Calls Tryz.prog 70 #[P E.x] (w.alloc (.cells #[P E.x] 129)) (KRes (w.alloc (.cells #[P E.x] 129)) E (.find x.sum .call))) := begin_any B E x m p _ Y0.out.st Y0.out.call hp1 hp2
     clear hs hcl hk hsum h6 hx hop hb0 h1 h2 hp1 hp2
     go_enter Tryz.func47, Tryz.ntmps47
     go_wp2_with (go_at_call 70; (refine Kb.out.mono ?_); rintro e w2 ⟨v, rfl, hk, hb⟩; have Hk := Lib.hid hk; have HB2 := Lib.hid hb; clear hk hb)
     go_ret
     rw [Hx.out]
     exact ⟨v, rfl, Hk.out, Hb0.out.trans (HB2.out.mono Hb0.out.size)⟩
end
end Go.Proofs.YtemnhpdjoimjbaaGreat
