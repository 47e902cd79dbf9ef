import Derived.Test.YtemnhpdjoimjbaaGreatTs47
namespace Go.Proofs.YtemnhpdjoimjbaaGreat
section
open Go.RowKit Top
set_option linter.unusedVariables false
def CallsAt (w : World) (v : Value) (L : List Top.Call) : Prop :=
 ∃ a c, v = .slice a L.length c ∧ L.length ≤ c ∧ c ≤ maxLen ∧
   (0 < L.length → ∃ b off, a = some ⟨b, off, none⟩ ∧ ∀ j x, L[j]? = some x → ∃ kv, ByAt w kv x.key ∧ w.cell? ⟨b, off + j * 4, none⟩ = some (.int .u8 (x.op : Nat)) ∧ w.cell? ⟨b, off + j * 4 + 1, none⟩ = some (.int .i64 x.pol) ∧ w.cell? ⟨b, off + j * 4 + 2, none⟩ = some kv ∧ w.cell? ⟨b, off + j * 4 + 3, none⟩ = some (.int .i64 x.n))
def ScrAt (w : World) (v : Value) (L : List Top.Pick) : Prop :=
 ∃ a c, v = .slice a L.length c ∧ L.length ≤ c ∧ c ≤ maxLen ∧
   (0 < L.length → ∃ b off, a = some ⟨b, off, none⟩ ∧ ∀ j x, L[j]? = some x → w.cell? ⟨b, off + j * 2, none⟩ = some (.int .i64 x.who) ∧ w.cell? ⟨b, off + j * 2 + 1, none⟩ = some (.int .i64 x.ticks))
def WorkAt (w : World) (v : Value) (L : List Top.Call) : Prop :=
 ∃ b off c u, v = .slice (some ⟨b, off, none⟩) 1 c ∧ 1 ≤ c ∧ c ≤ maxLen ∧ w.cell? ⟨b, off, none⟩ = some u ∧ CallsAt w u L
theorem CallsAt.below {w w' : World} {v : Value} {L : List Top.Call} (h : CallsAt w v L) (hb : Below w.heap.size w w') : CallsAt w' v L := by
 obtain ⟨a, c, e, h1, h2, h3⟩ := h
 refine ⟨a, c, e, h1, h2, fun h0 => ?_⟩
 obtain ⟨b, off, e, h4⟩ := h3 h0
 refine ⟨b, off, e, fun j x hx => ?_⟩
 obtain ⟨kv, g0, g1, g2, g3, g4⟩ := h4 j x hx
 exact ⟨kv, g0.below hb, cell_later hb g1, cell_later hb g2, cell_later hb g3, cell_later hb g4⟩
theorem ScrAt.below {w w' : World} {v : Value} {L : List Top.Pick} (h : ScrAt w v L) (hb : Below w.heap.size w w') : ScrAt w' v L := by
 obtain ⟨a, c, e, h1, h2, h3⟩ := h
 refine ⟨a, c, e, h1, h2, fun h0 => ?_⟩
 obtain ⟨b, off, e, h4⟩ := h3 h0
 exact ⟨b, off, e, fun j x hx => ⟨cell_later hb (h4 j x hx).1, cell_later hb (h4 j x hx).2⟩⟩
theorem WorkAt.below {w w' : World} {v : Value} {L : List Top.Call} (h : WorkAt w v L) (hb : Below w.heap.size w w') : WorkAt w' v L := by
 obtain ⟨b, off, c, u, e, h1, h2, h3, h4⟩ := h
 exact ⟨b, off, c, u, e, h1, h2, cell_later hb h3, h4.below hb⟩
theorem worse_any (b : Bool) (f : Int) (x : Nat) (w : World) (h : b = false ∨ f = 0) (hx : w.cell? ⟨x, 0, none⟩ = some (.int .i64 0)) :
   Calls Tryz.prog 57 #[.bool b, .int .i64 f, .pointer (some ⟨x, 0, none⟩)] w fun e w' => e = .returned (.tuple #[]) ∧ w = w' := by
 go_enter Tryz.func57, Tryz.ntmps57
 rcases h with rfl | rfl
 · go_wp2
   exact bodyPost_end (v := .tuple #[]) (by simp [results, Tryz.results57, go_sem]) rfl ⟨rfl, rfl⟩
 · cases b
   all_goals
     go_wp2
     exact bodyPost_end (v := .tuple #[]) (by simp [results, Tryz.results57, go_sem]) rfl ⟨rfl, rfl⟩
set_option maxHeartbeats 4000000 in
set_option maxRecDepth 100000 in
theorem simcheck_any (pv wv kv : Value) (cs : List Top.Call) (ps : List Top.Pick) (w : World) (hl : PolsAt w pv tabL) (hw : WorkAt w wv cs) (hp : ScrAt w kv ps) (hcs : ∀ c ∈ cs, CallGood tabL c) (hn : cs.length ≤ 4096) (hm : ps.length ≤ 65536) (hps : ∀ x ∈ ps, (x.who = -1 ∨ x.who = 0) ∧ 0 ≤ x.ticks ∧ x.ticks ≤ 4611686018427387903) :
   Calls Tryz.prog 32 #[.agg #[pv, .int .i64 64, wv, kv, .bool false]] w fun e w' => e = .returned (.int .i64 0) ∧ Below w.heap.size w w' := by
 obtain ⟨wb, wo, wc0, cv, rfl, hw1, hw2, hw3, ca, cc, rfl, hc1, hc2, hc3⟩ := hw
 obtain ⟨pa, pc, rfl, hp1, hp2, hp3⟩ := hp
 have Hl := Lib.hid hl; have Hcs := Lib.hid hcs; have Hps := Lib.hid hps; have Hc3 := Lib.hid hc3; have Hp3 := Lib.hid hp3
 have Hw3 := Lib.hid hw3
 have T := tab_ok (room := 64) (by decide) (by decide)
 have Kn : Hid (∀ W, Below w.heap.size w W → Calls Tryz.prog 5 #[pv, .int .i64 64] W fun e w' => ∃ A : Adr, e = .returned (.tuple #[P A.K, .int .i64 0]) ∧ Below W.heap.size W w') := fun W hb => by
   refine (new_sys pv 64 W (Hl.out.keep (fr0 hb)) (by decide) (by decide)).mono ?_
   rintro e w' ⟨A, rfl, _, _, _, h⟩
   exact ⟨A, rfl, h⟩
 have Kp : Hid (∀ W, Below w.heap.size w W → Calls Tryz.prog 36 #[pv] W fun e w' => e = .returned (.int .i64 0) ∧ Below W.heap.size W w') := fun W hb => by
   exact policies_good tabL pv W (Hl.out.keep (fr0 hb)) (by decide) T.good
 have Kc : Hid (∀ W c kv', Below w.heap.size w W → c ∈ cs → (∃ a cap, kv' = .slice a c.key.length cap) → Calls Tryz.prog 44 #[pv, .agg #[.int .u8 (c.op : Nat), .int .i64 c.pol, kv', .int .i64 c.n]] W fun e w' => e = .returned (.int .i64 0) ∧ Below W.heap.size W w') := fun W c kv' hb hc hk =>
   check_good tabL pv c kv' W (Hl.out.keep (fr0 hb)) (by decide) T.good (Hcs.out c hc).ok hk
 clear hl hcs hps hc3 hp3 hw3 T
 go_enter Tryz.func32, Tryz.ntmps32
 go_upto_region 1 with fail
 refine wp_name (fun y => Below w.heap.size w y ∧ Bx y w.heap.size 54 #[pv, .int .i64 64, .slice (some ⟨wb, wo, none⟩) 1 wc0, .slice pa ps.length pc, .bool false]) ⟨below_allocs [_] w, Bx.new w _ _⟩ ?_
 rintro y0 ⟨hb0, hx0⟩
 have x0 := hx0.cell 0; have x1 := hx0.cell 1
 have Hb0 := Lib.hid hb0; have Hx0 := Lib.hid hx0
 clear hb0 hx0
 go_upto_region 2 with (go_at_call 5; (with_reducible refine (Kn.out _ Hb0.out).mono ?_); rintro e w1 ⟨A, rfl, hb1⟩; have Hb1 := Lib.hid hb1; clear hb1)
 refine wp_name (fun y => Below w1.heap.size w1 y ∧ Bx y w1.heap.size 25 #[.int .i64 0]) ⟨below_allocs [_] w1, Bx.new w1 _ _⟩ ?_
 rintro y ⟨hb2, hx2⟩
 have Hb := Lib.hid (below_then Hb0.out (below_then Hb1.out hb2))
 have hX := hx2.cell 0
 have hC := (Hx0.out.below (below_then Hb1.out hb2) Hx0.out.lt)
 have x0 := hC.cell 0; have x1 := hC.cell 1; have x2 := hC.cell 2; have x3 := hC.cell 3; have x4 := hC.cell 4
 have HC := Lib.hid (And.intro hC hx2)
 clear hb2 hx2 hC
 go_upto_region 5 with (go_at_call 36; (with_reducible refine (Kp.out _ Hb.out).mono ?_); rintro e w2 ⟨rfl, hb3⟩; have Hb3 := Lib.hid hb3; clear hb3)
 have z0 := cell_later Hb3.out x0; have z1 := cell_later Hb3.out x1; have z2 := cell_later Hb3.out x2; have z3 := cell_later Hb3.out x3; have z4 := cell_later Hb3.out x4; have zX := cell_later Hb3.out hX
 have Hb2 := Lib.hid (below_then Hb.out Hb3.out)
 clear hc1 hc2 hw1 hw2 hp1 hp2
 go_wp2_with fail
 go_loopw [6, 30] (fun cv iv wr => ((cv = .int .i64 0 ∧ iv = .int .i64 0) ∨ (cv = .int .i64 cs.length ∧ iv = .int .i64 1)) ∧ Below w2.heap.size w2 wr) (fun _ iv _ => 1 - (intOf iv).toNat)
 case atStart => exact ⟨.inl ⟨rfl, rfl⟩, Below.refl _ _⟩
 case round =>
   obtain ⟨hcase, hbr⟩ := hrel
   have Hbr := Lib.hid hbr
   have y0 := cell_later hbr z0; have y2 := cell_later hbr z2; have y3 := cell_later hbr z3; have yX := cell_later hbr zX
   clear hbr
   rcases hcase with ⟨rfl, rfl⟩ | ⟨rfl, rfl⟩
   · have yw := cell_later (below_then Hb2.out Hbr.out) Hw3.out
     go_wp2_with fail
     go_loopw [40] (fun iv wi => ∃ k : Nat, iv = .int .i64 k ∧ k ≤ cs.length ∧ Below w2.heap.size w2 wi) (fun iv _ => cs.length - (intOf iv).toNat)
     case atStart => exact ⟨0, rfl, Nat.zero_le _, Hbr.out⟩
     case round =>
       obtain ⟨k, rfl, hk, hbi⟩ := hrel
       have Hbi := Lib.hid hbi
       have v0 := cell_later hbi z0; have vX := cell_later hbi zX
       clear hbi y0 y2 y3 yX yw
       by_cases hA : k < cs.length
       · obtain ⟨b, off, rfl, hcl⟩ := Hc3.out (by omega)
         obtain ⟨c, hcc⟩ : ∃ c, cs[k]? = some c := ⟨_, List.getElem?_eq_getElem hA⟩
         obtain ⟨kv', hby, c0, c1, c2, c3⟩ := hcl k c hcc
         obtain ⟨qa, qc, rfl⟩ : ∃ a c', kv' = .slice a c.key.length c' := by obtain ⟨_, a, c', e, _⟩ := hby; exact ⟨a, c', e⟩
         have hmem := List.mem_of_getElem? hcc
         have hB2 := below_then Hb2.out Hbi.out
         have d0 := cell_later hB2 c0; have d1 := cell_later hB2 c1; have d2 := cell_later hB2 c2; have d3 := cell_later hB2 c3
         have Hmem := Lib.hid hmem
         clear hcl hcc hby c0 c1 c2 c3 hmem hB2
         go_upto_region 12 with fail
         refine wp_name (fun y => Below wr.heap.size wr y ∧ Bx y wr.heap.size 31 #[.int .u8 (c.op : Nat), .int .i64 c.pol, .slice qa c.key.length qc, .int .i64 c.n]) ⟨below_allocs [_] wr, Bx.new wr _ _⟩ ?_
         rintro y ⟨hby, hx⟩
         have g0 := hx.cell 0; have g1 := hx.cell 1; have g2 := hx.cell 2; have g3 := hx.cell 3
         have u0 := cell_later hby v0; have uX := cell_later hby vX
         have Hy := Lib.hid (below_then Hbi.out hby)
         clear hby hx d0 d1 d2 d3
         go_wp2_with (first
           | (go_at_call 44; (with_reducible refine (Kc.out _ c _ (below_then Hb2.out Hy.out) Hmem.out ⟨_, _, rfl⟩).mono ?_); rintro e w5 ⟨rfl, hb5⟩; have s0 := cell_later hb5 uX; have Hb5 := Lib.hid hb5; clear hb5)
           | (go_at_call 57; (refine (worse_any true 0 _ _ (.inr rfl) s0).mono ?_); rintro e w6 ⟨rfl, rfl⟩))
         go_roundw
         case rel => exact ⟨k + 1, by go_num, by omega, below_then Hy.out Hb5.out⟩
         case measure => simp [intOf]; omega
       · obtain rfl : k = cs.length := by omega
         go_wp2_with fail
         go_roundw
         case rel => exact ⟨.inr ⟨by go_num, by go_num⟩, Hbi.out⟩
         case measure => simp [intOf]
   · have hg : ¬ ((4096 : Int) < (cs.length : Int)) := by omega
     have hg2 : ¬ ((65536 : Int) < (ps.length : Int)) := by omega
     go_wp2_with (go_at_call 57; (refine (worse_any false 2 _ _ (.inl rfl) yX).mono ?_); rintro e w6 ⟨rfl, rfl⟩)
     clear y0 y2 y3 yX z2 z3
     go_loopw [72] (fun iv wi => ∃ k : Nat, iv = .int .i64 k ∧ k ≤ ps.length ∧ Below w2.heap.size w2 wi) (fun iv _ => ps.length - (intOf iv).toNat)
     case atStart => exact ⟨0, rfl, Nat.zero_le _, Hbr.out⟩
     case round =>
       obtain ⟨k, rfl, hk, hbi⟩ := hrel
       have Hbi := Lib.hid hbi
       have vX := cell_later hbi zX
       have v2 := cell_later (below_then Hb3.out hbi) x2
       clear hbi
       by_cases hA : k < ps.length
       · obtain ⟨b, off, rfl, hcl⟩ := Hp3.out (by omega)
         obtain ⟨x, hxx⟩ : ∃ x, ps[k]? = some x := ⟨_, List.getElem?_eq_getElem hA⟩
         obtain ⟨c0, c1⟩ := hcl k x hxx
         have hB2 := below_then Hb2.out Hbi.out
         have d0 := cell_later hB2 c0; have d1 := cell_later hB2 c1
         obtain ⟨hwho, ht0, ht1⟩ := Hps.out x (List.mem_of_getElem? hxx)
         obtain ⟨xw, xt⟩ := x
         dsimp only at d0 d1 hwho ht0 ht1
         clear hcl hxx c0 c1 hB2
         have hf : decide (0 ≤ xt) = true := decide_eq_true ht0
         have Kf : Hid (∀ W, Calls Tryz.prog 55 #[.int .i64 xt] W fun e w' => e = .returned (.bool true) ∧ W = w') := fun W => by
           have := form_any xt W
           rw [tickB_mk ht0 ht1] at this
           exact this
         clear ht0 ht1 hf
         rcases hwho with rfl | rfl
         · go_upto_region 19 with fail
           refine wp_name (fun y => Below wr.heap.size wr y ∧ Bx y wr.heap.size 60 #[.int .i64 (-1), .int .i64 xt]) ⟨below_allocs [_] wr, Bx.new wr _ _⟩ ?_
           rintro y ⟨hby, hx⟩
           have g0 := hx.cell 0; have g1 := hx.cell 1
           have u2 := cell_later hby v2; have uX := cell_later hby vX
           have Hy := Lib.hid (below_then Hbi.out hby)
           clear hby hx d0 d1
           go_wp2_with (first
             | (go_at_call 55; (with_reducible refine (Kf.out _).mono ?_); rintro e w5 ⟨rfl, rfl⟩)
             | (go_at_call 57; (refine (worse_any false 1 _ _ (.inl rfl) uX).mono ?_); rintro e w6 ⟨rfl, rfl⟩))
           go_roundw
           case rel => exact ⟨k + 1, by go_num, by omega, Hy.out⟩
           case measure => simp [intOf]; omega
         · go_upto_region 19 with fail
           refine wp_name (fun y => Below wr.heap.size wr y ∧ Bx y wr.heap.size 60 #[.int .i64 0, .int .i64 xt]) ⟨below_allocs [_] wr, Bx.new wr _ _⟩ ?_
           rintro y ⟨hby, hx⟩
           have g0 := hx.cell 0; have g1 := hx.cell 1
           have u2 := cell_later hby v2; have uX := cell_later hby vX
           have Hy := Lib.hid (below_then Hbi.out hby)
           clear hby hx d0 d1
           go_wp2_with (first
             | (go_at_call 55; (with_reducible refine (Kf.out _).mono ?_); rintro e w5 ⟨rfl, rfl⟩)
             | (go_at_call 57; (refine (worse_any false 1 _ _ (.inl rfl) uX).mono ?_); rintro e w6 ⟨rfl, rfl⟩))
           go_roundw
           case rel => exact ⟨k + 1, by go_num, by omega, Hy.out⟩
           case measure => simp [intOf]; omega
       · obtain rfl : k = ps.length := by omega
         go_wp2_with fail
         exact bodyPost_ret (v := .int .i64 0) (by simp [results, Tryz.results32, go_sem]) rfl ⟨rfl, below_then Hb2.out Hbi.out⟩
end
section
open Go.RowKit Top
set_option linter.unusedVariables false
theorem own_keep {B : Nat} {X : List Nat} {w w' : World} (h : Fr B X w w') {base : Nat} {e : TypeId} {size n : Nat} {v : Value} {xs : List Value} (hr : w.ownsRow base e size v n xs) (ht : ∀ k, okT e k = true) : w'.ownsRow base e size v n xs := by
 obtain ⟨h1, h2⟩ := hr
 refine ⟨h1, h2.imp id ?_⟩
 rintro ⟨g, cap, cur, rfl, g1, g2, g3, g4, g5, g6⟩
 exact ⟨g, cap, cur, rfl, g1, Bx.keep h g2 (ht _), g3, g4, g5, g6⟩
theorem ok_reply (k : Nat) : okT 35 k = true := by simp [okT]
theorem ok_call (k : Nat) : okT 31 k = true := by simp [okT]
theorem ok_pick (k : Nat) : okT 60 k = true := by simp [okT]
theorem ok_done (k : Nat) : okT 68 k = true := by simp [okT]
theorem ok_config (k : Nat) : okT 54 k = true := by simp [okT]
theorem ok_play (k : Nat) : okT 110 k = true := by simp [okT]
theorem ok_worker (k : Nat) : okT 112 k = true := by simp [okT]
theorem ok_calls (k : Nat) : okT 50 k = true := by simp [okT]
theorem own_cell {w : World} {base : Nat} {e : TypeId} {size n : Nat} {v : Value} {xs : List Value} (h : w.ownsRow base e size v n xs) (h0 : 0 < n) : ∃ g cap, v = .slice (some ⟨g, 0, none⟩) n cap ∧ base ≤ g ∧ n ≤ cap ∧ cap ≤ maxLen ∧ ∀ j u, xs[j]? = some u → w.cell? ⟨g, j, none⟩ = some u := by
 obtain ⟨h1, ⟨_, rfl⟩ | ⟨g, cap, cur, rfl, g1, g2, g3, g4, g5, g6⟩⟩ := h
 · omega
 · refine ⟨g, cap, rfl, g1, g3, g4, fun j u hu => ?_⟩
   rw [← g6, List.getElem?_take] at hu
   split at hu
   · rw [Array.getElem?_toList] at hu
     rw [show w.cell? ⟨g, j, none⟩ = cur[j]? from Bx.cell (b := g) (t := e) g2 j]
     exact hu
   · cases hu
end
section
open Go.RowKit Top
set_option linter.unusedVariables false
theorem Bx.stw {w : World} {b r0 i0 : Nat} {t : TypeId} {a c0 : Array Value} {u0 : Value} (h : Bx w b t a) (hr : Bx w r0 112 c0) (ht : t ≠ 112) : Bx (w.setCell ⟨r0, i0, none⟩ u0) b t a := Bx.sne (h.ne hr ht) h
theorem CellsAt.stw {w : World} {r0 i0 : Nat} {c0 : Array Value} {u0 v : Value} {L : List Cell} (h : CellsAt w v L) (hr : Bx w r0 112 c0) : CellsAt (w.setCell ⟨r0, i0, none⟩ u0) v L := h.alien hr (by decide) u0
theorem KeyAt.stw {w : World} {r0 i0 : Nat} {c0 : Array Value} {u0 v : Value} {L : List Nat} (h : KeyAt w v L) (hr : Bx w r0 112 c0) : KeyAt (w.setCell ⟨r0, i0, none⟩ u0) v L := h.sto hr (by decide) u0
theorem HeldAt.stw {w : World} {r0 i0 : Nat} {c0 : Array Value} {u0 v : Value} {L : List Int} (h : HeldAt w v L) (hr : Bx w r0 112 c0) : HeldAt (w.setCell ⟨r0, i0, none⟩ u0) v L := Row.sto h hr (by decide) u0
theorem FurtherAt.stw {w : World} {r0 i0 : Nat} {c0 : Array Value} {u0 : Value} {E : Env} {v : Value} (hr : Bx w r0 112 c0) {j s : Nat} : FurtherAt w E v j s → FurtherAt (w.setCell ⟨r0, i0, none⟩ u0) E v j s
 | ⟨b0, b1, b2, ev, g0, g1, g2⟩ => ⟨b0, b1, b2, ev, g0.stw hr (by decide), g1.stw hr (by decide), g2.stw hr (by decide)⟩
theorem ThenAt.stw {w : World} {r0 i0 : Nat} {c0 : Array Value} {u0 : Value} {E : Env} {v : Value} (hr : Bx w r0 112 c0) : ∀ {t : Then}, ThenAt w E v t → ThenAt (w.setCell ⟨r0, i0, none⟩ u0) E v t
 | .call, ⟨b0, b1, ev, g0, g1⟩ => ⟨b0, b1, ev, g0.stw hr (by decide), g1.stw hr (by decide)⟩
 | .evict j shards gone, ⟨b0, v0, b1, b2, ev, g0, k0, g1, g2⟩ => ⟨b0, v0, b1, b2, ev, g0.stw hr (by decide), k0.stw hr, g1.stw hr (by decide), g2.stw hr (by decide)⟩
theorem FThenAt.stw {w : World} {r0 i0 : Nat} {c0 : Array Value} {u0 : Value} {E : Env} {v : Value} (hr : Bx w r0 112 c0) : ∀ {t : FThen}, FThenAt w E v t → FThenAt (w.setCell ⟨r0, i0, none⟩ u0) E v t
 | .find level sum t, ⟨b0, b1, b2, b3, b4, v4, b5, ev, g0, g1, g2, g3, g4, k4, g5⟩ => ⟨b0, b1, b2, b3, b4, v4, b5, ev, g0.stw hr (by decide), g1.stw hr (by decide), g2.stw hr (by decide), g3.stw hr (by decide), g4.stw hr (by decide), k4.stw hr, g5.stw hr (by decide)⟩
 | .move level i, ⟨b0, b1, b2, b3, b4, b5, ev, g0, g1, g2, g3, g4, g5⟩ => ⟨b0, b1, b2, b3, b4, b5, ev, g0.stw hr (by decide), g1.stw hr (by decide), g2.stw hr (by decide), g3.stw hr (by decide), g4.stw hr (by decide), g5.stw hr (by decide)⟩
theorem HThenAt.stw {w : World} {r0 i0 : Nat} {c0 : Array Value} {u0 : Value} {E : Env} {v : Value} (hr : Bx w r0 112 c0) : ∀ {t : HThen}, HThenAt w E v t → HThenAt (w.setCell ⟨r0, i0, none⟩ u0) E v t
 | .find sum t, ⟨b0, b1, b2, b3, v3, b4, ev, g0, g1, g2, g3, k3, g4⟩ => ⟨b0, b1, b2, b3, v3, b4, ev, g0.stw hr (by decide), g1.stw hr (by decide), g2.stw hr (by decide), g3.stw hr (by decide), k3.stw hr, g4.stw hr (by decide)⟩
 | .one level i holds, ⟨b0, b1, b2, b3, b4, v4, b5, b6, ev, g0, g1, g2, g3, g4, k4, g5, g6⟩ => ⟨b0, b1, b2, b3, b4, v4, b5, b6, ev, g0.stw hr (by decide), g1.stw hr (by decide), g2.stw hr (by decide), g3.stw hr (by decide), g4.stw hr (by decide), k4.stw hr, g5.stw hr (by decide), g6.stw hr (by decide)⟩
 | .two level i, ⟨b0, b1, b2, b3, b4, b5, ev, g0, g1, g2, g3, g4, g5⟩ => ⟨b0, b1, b2, b3, b4, b5, ev, g0.stw hr (by decide), g1.stw hr (by decide), g2.stw hr (by decide), g3.stw hr (by decide), g4.stw hr (by decide), g5.stw hr (by decide)⟩
theorem PutAt.stw {w : World} {r0 i0 : Nat} {c0 : Array Value} {u0 : Value} {E : Env} {v : Value} (hr : Bx w r0 112 c0) {f : Top.Found} {at_ : Nat} {there : Bool} {c : Cell} {r : Reply} : PutAt w E v f at_ there c r → PutAt (w.setCell ⟨r0, i0, none⟩ u0) E v f at_ there c r
 | ⟨b0, b1, v1, b2, b3, b4, v4, h4, b5, ev, g0, g1, k1, g2, g3, g4, k4, l4, g5, ex⟩ => ⟨b0, b1, v1, b2, b3, b4, v4, h4, b5, ev, g0.stw hr (by decide), g1.stw hr (by decide), k1.stw hr, g2.stw hr (by decide), g3.stw hr (by decide), g4.stw hr (by decide), k4.stw hr, l4.stw hr, g5.stw hr (by decide), ex⟩
theorem TakeAt.stw {w : World} {r0 i0 : Nat} {c0 : Array Value} {u0 : Value} {E : Env} {v : Value} (hr : Bx w r0 112 c0) {f : Top.Found} {at_ : Nat} {there : Bool} {c : Cell} : TakeAt w E v f at_ there c → TakeAt (w.setCell ⟨r0, i0, none⟩ u0) E v f at_ there c
 | ⟨b0, b1, v1, h1, b2, b3, v3, b4, b5, ev, g0, g1, k1, l1, g2, g3, k3, g4, g5, ex⟩ => ⟨b0, b1, v1, h1, b2, b3, v3, b4, b5, ev, g0.stw hr (by decide), g1.stw hr (by decide), k1.stw hr, l1.stw hr, g2.stw hr (by decide), g3.stw hr (by decide), k3.stw hr, g4.stw hr (by decide), g5.stw hr (by decide), ex⟩
theorem BThenAt.stw {w : World} {r0 i0 : Nat} {c0 : Array Value} {u0 : Value} {E : Env} {v : Value} (hr : Bx w r0 112 c0) : ∀ {t : BThen}, BThenAt w E v t → BThenAt (w.setCell ⟨r0, i0, none⟩ u0) E v t
 | .done r, ⟨b0, ev, g0⟩ => ⟨b0, ev, g0.stw hr (by decide)⟩
 | .evict j shards gone, ⟨a0, n, e, b0, v0, b1, b2, ev, g0, k0, g1, g2⟩ => ⟨a0, n, e, b0, v0, b1, b2, ev, g0.stw hr (by decide), k0.stw hr, g1.stw hr (by decide), g2.stw hr (by decide)⟩
theorem WThenAt.stw {w : World} {r0 i0 : Nat} {c0 : Array Value} {u0 : Value} {E : Env} {v : Value} (hr : Bx w r0 112 c0) : ∀ {t : WThen}, WThenAt w E v t → WThenAt (w.setCell ⟨r0, i0, none⟩ u0) E v t
 | .back t, ⟨b0, v0, ev, g0, k0⟩ => ⟨b0, v0, ev, g0.stw hr (by decide), k0.stw hr⟩
 | .room f at_ there c r, ⟨b0, b1, v1, ev, g0, g1, k1⟩ => ⟨b0, b1, v1, ev, g0.stw hr (by decide), g1.stw hr (by decide), k1.stw hr⟩
 | .serial f at_ there c, ⟨b0, b1, v1, ev, g0, g1, k1⟩ => ⟨b0, b1, v1, ev, g0.stw hr (by decide), g1.stw hr (by decide), k1.stw hr⟩
theorem StopAt.stw {w : World} {r0 i0 : Nat} {c0 : Array Value} {u0 : Value} {E : Env} {v : Value} (hr : Bx w r0 112 c0) : ∀ {t : WThen}, StopAt w E v t → StopAt (w.setCell ⟨r0, i0, none⟩ u0) E v t
 | .back _, h => h
 | .room .., h => h
 | .serial .., ⟨b0, ev, g0⟩ => ⟨b0, ev, g0.stw hr (by decide)⟩
theorem KontAt.stw {w : World} {r0 i0 : Nat} {c0 : Array Value} {u0 : Value} {E : Env} {v : Value} (hr : Bx w r0 112 c0) : ∀ {t : Kont}, KontAt w E v t → KontAt (w.setCell ⟨r0, i0, none⟩ u0) E v t
 | .find sum t, ⟨b0, b1, b2, b3, v3, ev, g0, g1, g2, g3, k3⟩ => ⟨b0, b1, b2, b3, v3, ev, g0.stw hr (by decide), g1.stw hr (by decide), g2.stw hr (by decide), g3.stw hr (by decide), k3.stw hr⟩
 | .enter sum word t, ⟨b0, b1, b2, b3, b4, v4, ev, g0, g1, g2, g3, g4, k4⟩ => ⟨b0, b1, b2, b3, b4, v4, ev, g0.stw hr (by decide), g1.stw hr (by decide), g2.stw hr (by decide), g3.stw hr (by decide), g4.stw hr (by decide), k4.stw hr⟩
 | .freeze word t, ⟨b0, b1, b2, b3, v3, ev, g0, g1, g2, g3, k3⟩ => ⟨b0, b1, b2, b3, v3, ev, g0.stw hr (by decide), g1.stw hr (by decide), g2.stw hr (by decide), g3.stw hr (by decide), k3.stw hr⟩
 | .freezeSwap word u holds t, ⟨b0, b1, b2, b3, b4, v4, b5, v5, b6, ev, g0, g1, g2, g3, g4, k4, g5, k5, g6⟩ => ⟨b0, b1, b2, b3, b4, v4, b5, v5, b6, ev, g0.stw hr (by decide), g1.stw hr (by decide), g2.stw hr (by decide), g3.stw hr (by decide), g4.stw hr (by decide), k4.stw hr, g5.stw hr (by decide), k5.stw hr, g6.stw hr (by decide)⟩
 | .half level shard holds t, ⟨b0, b1, b2, b3, v3, b4, v4, b5, ev, g0, g1, g2, g3, k3, g4, k4, g5⟩ => ⟨b0, b1, b2, b3, v3, b4, v4, b5, ev, g0.stw hr (by decide), g1.stw hr (by decide), g2.stw hr (by decide), g3.stw hr (by decide), k3.stw hr, g4.stw hr (by decide), k4.stw hr, g5.stw hr (by decide)⟩
 | .halfSwap level shard holds h t, ⟨b0, b1, b2, b3, v3, b4, b5, v5, b6, v6, ev, g0, g1, g2, g3, k3, g4, g5, k5, g6, k6⟩ => ⟨b0, b1, b2, b3, v3, b4, b5, v5, b6, v6, ev, g0.stw hr (by decide), g1.stw hr (by decide), g2.stw hr (by decide), g3.stw hr (by decide), k3.stw hr, g4.stw hr (by decide), g5.stw hr (by decide), k5.stw hr, g6.stw hr (by decide), k6.stw hr⟩
 | .split, ⟨b0, b1, b2, ev, g0, g1, g2⟩ => ⟨b0, b1, b2, ev, g0.stw hr (by decide), g1.stw hr (by decide), g2.stw hr (by decide)⟩
 | .splitSwap d level, ⟨b0, b1, b2, b3, b4, b5, ev, g0, g1, g2, g3, g4, g5⟩ => ⟨b0, b1, b2, b3, b4, b5, ev, g0.stw hr (by decide), g1.stw hr (by decide), g2.stw hr (by decide), g3.stw hr (by decide), g4.stw hr (by decide), g5.stw hr (by decide)⟩
 | .moveEnd level, ⟨b0, b1, b2, b3, ev, g0, g1, g2, g3⟩ => ⟨b0, b1, b2, b3, ev, g0.stw hr (by decide), g1.stw hr (by decide), g2.stw hr (by decide), g3.stw hr (by decide)⟩
 | .wordLoad word by_ stop t, ⟨b0, b1, b2, b3, v3, b4, b5, v5, ev, g0, g1, g2, g3, k3, g4, g5, k5⟩ => ⟨b0, b1, b2, b3, v3, b4, b5, v5, ev, g0.stw hr (by decide), g1.stw hr (by decide), g2.stw hr (by decide), g3.stw hr (by decide), k3.stw hr, g4.stw hr (by decide), g5.stw hr (by decide), k5.stw hr⟩
 | .wordSwap word by_ stop u t, ⟨b0, b1, b2, b3, b4, b5, v5, b6, v6, ev, g0, g1, g2, g3, g4, g5, k5, g6, k6⟩ => ⟨b0, b1, b2, b3, b4, b5, v5, b6, v6, ev, g0.stw hr (by decide), g1.stw hr (by decide), g2.stw hr (by decide), g3.stw hr (by decide), g4.stw hr (by decide), g5.stw hr (by decide), k5.stw hr, g6.stw hr (by decide), k6.stw hr⟩
 | .put f at_ there c r, ⟨b0, b1, v1, b2, b3, b4, v4, h4, b5, ev, g0, g1, k1, g2, g3, g4, k4, l4, g5, ex⟩ => ⟨b0, b1, v1, b2, b3, b4, v4, h4, b5, ev, g0.stw hr (by decide), g1.stw hr (by decide), k1.stw hr, g2.stw hr (by decide), g3.stw hr (by decide), g4.stw hr (by decide), k4.stw hr, l4.stw hr, g5.stw hr (by decide), ex⟩
 | .allow f at_ there c, ⟨b0, b1, v1, h1, b2, b3, v3, b4, b5, ev, g0, g1, k1, l1, g2, g3, k3, g4, g5, ex⟩ => ⟨b0, b1, v1, h1, b2, b3, v3, b4, b5, ev, g0.stw hr (by decide), g1.stw hr (by decide), k1.stw hr, l1.stw hr, g2.stw hr (by decide), g3.stw hr (by decide), k3.stw hr, g4.stw hr (by decide), g5.stw hr (by decide), ex⟩
 | .peek c, ⟨b0, b1, v1, h1, b2, ev, g0, g1, k1, l1, g2, ex⟩ => ⟨b0, b1, v1, h1, b2, ev, g0.stw hr (by decide), g1.stw hr (by decide), k1.stw hr, l1.stw hr, g2.stw hr (by decide), ex⟩
 | .evictStart, ⟨b0, ev, g0⟩ => ⟨b0, ev, g0.stw hr (by decide)⟩
 | .evictClock j shards gone word u cs, ⟨b0, b1, v1, b2, v2, b3, b4, b5, ev, g0, g1, k1, g2, k2, g3, g4, g5⟩ => ⟨b0, b1, v1, b2, v2, b3, b4, b5, ev, g0.stw hr (by decide), g1.stw hr (by decide), k1.stw hr, g2.stw hr (by decide), k2.stw hr, g3.stw hr (by decide), g4.stw hr (by decide), g5.stw hr (by decide)⟩
 | .evictSwap j shards gone word u rest n, ⟨b0, b1, b2, b3, v3, b4, v4, b5, b6, ev, g0, g1, g2, g3, k3, g4, k4, g5, g6⟩ => ⟨b0, b1, b2, b3, v3, b4, v4, b5, b6, ev, g0.stw hr (by decide), g1.stw hr (by decide), g2.stw hr (by decide), g3.stw hr (by decide), k3.stw hr, g4.stw hr (by decide), k4.stw hr, g5.stw hr (by decide), g6.stw hr (by decide)⟩
theorem CallAt.stw {w : World} {r0 i0 : Nat} {c0 : Array Value} {u0 : Value} {E : Env} {x : Live} (h : CallAt w E x) (hr : Bx w r0 112 c0) : CallAt (w.setCell ⟨r0, i0, none⟩ u0) E x := by
 obtain ⟨key, h1, h2⟩ := h
 exact ⟨key, h1.stw hr (by decide), h2.stw hr⟩
theorem PendAt.stw {w : World} {B : Nat} {A : Adr} {who : Nat} {v : Value} {r0 i0 : Nat} {c0 : Array Value} {u0 : Value} (hr : Bx w r0 112 c0) : ∀ {o : Option (Live × Kont)}, PendAt w B A who v o → PendAt (w.setCell ⟨r0, i0, none⟩ u0) B A who v o
 | none, h => h
 | some (x, k), ⟨xb, pol, h1, h2, h3, h4⟩ => ⟨xb, pol, KontAt.stw hr h1, h2.stw hr, h3, h4⟩
theorem SysAt.stw {w : World} {B : Nat} {A : Adr} {m : Mem} {pd : Nat → Option (Live × Kont)} {r0 i0 : Nat} {c0 : Array Value} {u0 : Value} (h : SysAt w B A m pd) (hr : Bx w r0 112 c0) : SysAt (w.setCell ⟨r0, i0, none⟩ u0) B A m pd := by
 obtain ⟨h1, ⟨arr, h2, h3, h4⟩, h5⟩ := h
 refine ⟨h1.alien hr (by decide) u0, ⟨arr, h2.stw hr (by decide), h3, fun who hw => ?_⟩, h5⟩
 obtain ⟨v, g1, g2⟩ := h4 who hw
 exact ⟨v, g1, PendAt.stw hr g2⟩
end
end Go.Proofs.YtemnhpdjoimjbaaGreat
