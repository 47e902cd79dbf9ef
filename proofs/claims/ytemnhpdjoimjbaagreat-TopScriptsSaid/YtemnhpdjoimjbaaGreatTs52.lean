import Derived.Test.YtemnhpdjoimjbaaGreatTs51
namespace Go.Proofs.YtemnhpdjoimjbaaGreat
open Go.RowKit Top
set_option linter.unusedVariables false
theorem simstep_pick (B : Nat) (A : Adr) (n : Nat) (p : Top.Play) (cs : List Top.Call) (w W0 : World) {pb wb cb cw : Nat} {ca : Array Value} (hp : PlayS w W0 B A pb wb cb cw ca p) (T : TabOk A.list A.room) (hO : PlayOk BlV A.list A.room cs n p) (hcs : ∀ c ∈ cs, CallGood A.list c) (hn : n < 4611686018427387000) (hl : cs.length ≤ 1000) :
   Calls Tryz.prog 33 #[P pb, .int .i64 0] w fun e w' => (∃ b, e = .returned (.bool b)) ∧ PlayS w' W0 B A pb wb cb cw ca (simStep BlV A.list A.room p) := by
 rcases opens_or p with ⟨e1, e2⟩ | ⟨s1, l1, x1, k1, ho⟩
 · refine (simstep_off B A p w W0 hp e1 e2).mono ?_
   rintro e w' ⟨rfl, rfl⟩
   have : simStep BlV A.list A.room p = p := by unfold simStep; rw [e1, e2]
   rw [this]
   exact ⟨⟨_, rfl⟩, hp⟩
 · obtain ⟨h1, h2, h3, h4⟩ := hO.opens (fun c hc => (hcs c hc).in_) ho
   refine (simstep_any B A n p s1 l1 x1 k1 w W0 hp T h1 hn (fun j hj _ => h2 j hj) ho.pd (by omega) ?_ _ _ _ rfl _ ho.step).mono ?_
   · rcases ho with ⟨g1, g2, g3⟩ | ⟨c, g1, g2, g3, _, _⟩
     · exact .inl ⟨g1, g2, g3⟩
     · obtain ⟨k, hk⟩ := hO.left
       exact .inr ⟨c, g1, g2, g3, hcs c (List.mem_of_mem_drop (by rw [← hk, g2]; exact List.mem_cons_self ..))⟩
   · rintro e w' ⟨rfl, h⟩
     exact ⟨⟨_, rfl⟩, h⟩
def tkV (c t : Int) : Int := clampI (c + t)
theorem PlayS.tick {w w' W0 : World} {B : Nat} {A : Adr} {pb wb cb cw : Nat} {ca : Array Value} {p : Top.Play} {s' : Top.Sys} (h : PlayS w W0 B A pb wb cb cw ca p) (hs : SysAt w' B A s'.m s'.pd) (hf : Fz B w w') : PlayS w' W0 B A pb wb cb cw ca ⟨s', p.left, p.out⟩ := by
 obtain ⟨hc, arr, lv, cv, dn, h1, h2, h3, h4⟩ := h
 exact ⟨hc, arr, lv, cv, dn, h1.fz hs hf, h2, h3, h4⟩
theorem PlayS.later {w w' W0 : World} {B : Nat} {A : Adr} {pb wb cb cw : Nat} {ca : Array Value} {p : Top.Play} (h : PlayS w W0 B A pb wb cb cw ca p) (hb : Below w.heap.size w w') : PlayS w' W0 B A pb wb cb cw ca p := by
 obtain ⟨hc, arr, lv, cv, dn, h1, h2, h3, h4⟩ := h
 exact ⟨hc, arr, lv, cv, dn, h1.later hb, h2, h3, h4⟩
theorem play_all {list : List Pol} {room : Nat} (T : TabOk list room) {cs : List Top.Call} (hc : ∀ c ∈ cs, CallIn list c) : ∀ (l : List Top.Pick) (n : Nat) (p : Top.Play), PlayOk BlV list room cs n p → n + l.length < 4611686018427387900 → PlayOk BlV list room cs (n + l.length) (simRun BlV list room tkV l p)
 | [], n, p, h, _ => h
 | x :: l, n, p, h, hn => by
   have hn : n + (l.length + 1) < 4611686018427387900 := hn
   have h1 := h.pick sound_V T (tk := tkV) (fun a b => clampI_tick _) hc (by omega) x
   have := play_all T hc l (n + 1) _ h1 (by omega)
   rw [show n + 1 + l.length = n + (l.length + 1) by omega] at this
   exact this
theorem Sit.setp {w W0 : World} {B : Nat} {A : Adr} {m : Mem} {pd : Nat → Option (Live × Kont)} {pb wb cb : Nat} {pv arr ca : Array Value} {cv : Value} {k : Nat} {dn : List Value} (h : Sit w W0 B A m pd pb wb cb pv arr ca cv k dn) (hp : ∀ j, j < 64 → pd j = none) (i : Nat) (u : Value) : Sit (w.setCell ⟨pb, i, none⟩ u) W0 B A m pd pb wb cb (pv.setIfInBounds i u) arr ca cv k dn ∧ Ag w (w.setCell ⟨pb, i, none⟩ u) := by
 have ho := Only.set (i := i) h.play h.pb0 u
 exact ⟨⟨h.sys.ag hp (ho.ag (by decide)), h.play.setCell i u, ho.bx h.work (by decide), ho.bx h.conf (by decide), ho.bx h.rep (by decide), h.below.trans ho.bel, ho.own h.row (by decide), h.pb0, h.wb0, h.B0⟩, ho.ag (by decide)⟩
def storeG (w : World) (r : Nat) (a b c d e f : Value) : World := (((((w.setCell ⟨r, 0, none⟩ a).setCell ⟨r, 1, none⟩ b).setCell ⟨r, 2, none⟩ c).setCell ⟨r, 3, none⟩ d).setCell ⟨r, 4, none⟩ e).setCell ⟨r, 5, none⟩ f
theorem storeG_bx {w : World} {r : Nat} {t : TypeId} (h : Bx w r t repZ) (a b c d e f : Value) : Bx (storeG w r a b c d e f) r t #[a, b, c, d, e, f] := by
 unfold storeG
 exact (((((h.setCell 0 a).setCell 1 b).setCell 2 c).setCell 3 d).setCell 4 e).setCell 5 f
theorem storeG_only {w : World} {r base : Nat} {t : TypeId} (h : Bx w r t repZ) (hb : base ≤ r) (a b c d e f : Value) : Only t base w (storeG w r a b c d e f) := by
 unfold storeG
 have h1 := h.setCell 0 a
 have h2 := h1.setCell 1 b
 have h3 := h2.setCell 2 c
 have h4 := h3.setCell 3 d
 have h5 := h4.setCell 4 e
 exact (((((Only.set h hb a).trans (Only.set h1 hb b)).trans (Only.set h2 hb c)).trans (Only.set h3 hb d)).trans (Only.set h4 hb e)).trans (Only.set h5 hb f)
theorem tick_zero' {s : Top.Sys} (h0 : 0 ≤ s.m.clock) (h1 : s.m.clock ≤ 4611686018427387903) : tickS s 0 = s := by
 obtain ⟨⟨a, b, c, d⟩, pd⟩ := s
 show (⟨⟨a, b, clampI (c + 0), d⟩, pd⟩ : Top.Sys) = _
 rw [Int.add_zero, clampI_id h0 h1]
def RunPost (w : World) (s : Top.Sys) (out : List Reply) (e : Ending) (w' : World) : Prop :=
 ∃ cv dn ev L, e = .returned (.tuple #[.agg #[cv, ev, .int .i64 s.m.clock, .int .i64 (s.m.count - 1), .int .i64 (s.m.word 32 : Nat), .int .i64 0], .int .i64 0]) ∧ CellsAt w' ev L ∧ (∀ c, c ∈ L ↔ Has s.m c) ∧ w'.ownsRow w.heap.size 68 13 cv out.length dn ∧ DoneOk dn out ∧ Below w.heap.size w w'
set_option maxHeartbeats 8000000 in
set_option maxRecDepth 100000 in
theorem simrun_any (pv wv kv : Value) (cs : List Top.Call) (ps : List Top.Pick) (w : World) (hl : PolsAt w pv tabL) (hw : WorkAt w wv cs) (hp : ScrAt w kv ps) (hcs : ∀ c ∈ cs, CallGood tabL c) (hn : cs.length ≤ 1000) (hm : ps.length ≤ 65536) (hps : ∀ x ∈ ps, (x.who = -1 ∨ x.who = 0) ∧ 0 ≤ x.ticks ∧ x.ticks ≤ 4611686018427387903) (s : Top.Sys) (out : List Reply) (hrun : simRun BlV tabL 64 tkV ps ⟨⟨m0, fun _ => none⟩, cs, []⟩ = ⟨s, [], out⟩) (hpd : s.pd 0 = none) :
   Calls Tryz.prog 15 #[.agg #[pv, .int .i64 64, wv, kv, .bool false]] w (RunPost w s out) := by
 have Kc : Hid (∀ W, Below w.heap.size w W → Calls Tryz.prog 32 #[.agg #[pv, .int .i64 64, wv, kv, .bool false]] W fun e w' => e = .returned (.int .i64 0) ∧ Below W.heap.size W w') := fun W hb =>
   simcheck_any pv wv kv cs ps W (hl.keep (fr0 hb)) (hw.below hb) (hp.below hb) hcs (by omega) hm hps
 have Kn : Hid (∀ W, Below w.heap.size w W → Calls Tryz.prog 5 #[pv, .int .i64 64] W fun e w' => ∃ A : Adr, e = .returned (.tuple #[P A.K, .int .i64 0]) ∧ A.list = tabL ∧ A.room = 64 ∧ SysAt w' W.heap.size A m0 (fun _ => none) ∧ Below W.heap.size W w') := fun W hb => new_sys pv 64 W (hl.keep (fr0 hb)) (by decide) (by decide)
 obtain ⟨wb0, wo, wc0, cv0, rfl, hw1, hw2, hw3, hw4⟩ := hw
 obtain ⟨pa, pc, rfl, hp1, hp2, hp3⟩ := hp
 have T := tab_ok (room := 64) (by decide) (by decide)
 have Hcs := Lib.hid hcs; have Hps := Lib.hid hps; have Hw3 := Lib.hid hw3; have Hw4 := Lib.hid hw4; have Hp3 := Lib.hid hp3; have Hrun := Lib.hid hrun; have Hpd := Lib.hid hpd; have HT := Lib.hid T
 obtain ⟨ca0, cc0, rfl⟩ := hw4.nil
 clear hl hcs hps hw3 hw4 hp3 hrun hpd T
 go_enter Tryz.func15, Tryz.ntmps15
 go_upto_region 1 with fail
 refine wp_name (fun y => Below w.heap.size w y ∧ Bx y w.heap.size 54 #[pv, .int .i64 64, .slice (some ⟨wb0, wo, none⟩) 1 wc0, .slice pa ps.length pc, .bool false] ∧ Bx y (w.heap.size + 1) 63 repZ) ⟨below_allocs [_, _] w, bx_allocs w [_, _] 0 rfl, bx_allocs w [_, _] 1 rfl⟩ ?_
 rintro y0 ⟨hb0, hx0, hr0⟩
 have x0 := hx0.cell 0; have x1 := hx0.cell 1; have x2 := hx0.cell 2; have x3 := hx0.cell 3; have x4 := hx0.cell 4
 have Hb0 := Lib.hid hb0; have Hx0 := Lib.hid hx0; have Hr0 := Lib.hid hr0
 clear hb0 hx0 hr0
 go_upto_region 6 with (first
   | (go_at_call 32; (with_reducible refine (Kc.out _ Hb0.out).mono ?_); rintro e w1 ⟨rfl, hb1⟩; have z0 := cell_later hb1 x0; have z1 := cell_later hb1 x1; have Hb1 := Lib.hid (below_then Hb0.out hb1); have Hx1 := Lib.hid (Hx0.out.below hb1 Hx0.out.lt); have Hr1 := Lib.hid (Hr0.out.below hb1 Hr0.out.lt); clear hb1)
   | (go_at_call 5; (with_reducible refine (Kn.out _ Hb1.out).mono ?_); rintro e w2 ⟨A, rfl, hA1, hA2, hsys, hb2⟩; have HA := Lib.hid (And.intro hA1 (And.intro hA2 (And.intro hsys hb2))); clear hA1 hA2 hsys hb2))
 have hB1 := Hb1.out.size
 generalize hB : w1.heap.size = B at *
 have HB := Lib.hid hB
 clear hB x0 x1 x2 x3 x4 z0 z1
 refine wp_name (fun y => SysAt y B A m0 (fun _ => none) ∧ Bx y w2.heap.size 110 (playV A.K (.slice none 0 0) (.slice none 0 0)) ∧ Bx y w.heap.size 54 #[pv, .int .i64 64, .slice (some ⟨wb0, wo, none⟩) 1 wc0, .slice pa ps.length pc, .bool false] ∧ Bx y (w.heap.size + 1) 63 repZ ∧ Below w.heap.size w y ∧ w.heap.size ≤ B) ⟨HA.out.2.2.1.keep (below_allocs [_] w2), Bx.new w2 _ _, (Hx1.out.below HA.out.2.2.2 (by have := Hx1.out.lt; have := HB.out; omega)).alloc _, (Hr1.out.below HA.out.2.2.2 (by have := Hr1.out.lt; have := HB.out; omega)).alloc _, below_then (below_then Hb1.out (by rw [HB.out]; exact HA.out.2.2.2)) (below_allocs [_] w2), by omega⟩ ?_
 rintro y ⟨hs, hpl, hcf, hrp, hby, hwB⟩
 have HB2 : Hid (w.heap.size ≤ w2.heap.size) := by
   have := (below_then Hb1.out (show Below w1.heap.size w1 w2 by rw [HB.out]; exact HA.out.2.2.2)).size
   exact this
 have x2 := hcf.cell 2
 have HY := Lib.hid (And.intro hs (And.intro hpl (And.intro hcf (And.intro hrp hby)))); have HwB := Lib.hid hwB
 clear hs hpl hcf hrp hby hwB hB1
 generalize hpb : w2.heap.size = pb at *
 clear hpb
 go_wp2_with fail
 go_loopw [33] (fun iv wr => (iv = .int .i64 0 ∧ SysAt wr B A m0 (fun _ => none) ∧ Bx wr pb 110 (playV A.K (.slice none 0 0) (.slice none 0 0)) ∧ Bx wr w.heap.size 54 #[pv, .int .i64 64, .slice (some ⟨wb0, wo, none⟩) 1 wc0, .slice pa ps.length pc, .bool false] ∧ Bx wr (w.heap.size + 1) 63 repZ ∧ Below w.heap.size w wr) ∨ (iv = .int .i64 1 ∧ ∃ wb cw, PlayS wr w B A pb wb w.heap.size cw #[pv, .int .i64 64, .slice (some ⟨wb0, wo, none⟩) 1 wc0, .slice pa ps.length pc, .bool false] ⟨⟨m0, fun _ => none⟩, cs, []⟩)) (fun iv _ => 1 - (intOf iv).toNat)
 case atStart => exact .inl ⟨rfl, HY.out⟩
 case round =>
   rcases hrel with ⟨rfl, hs, hpl, hcf, hrp, hby⟩ | ⟨rfl, wb, cw, hps⟩
   · have yw := cell_later hby Hw3.out
     have p1 : wr.cell? ⟨pb, 1, none⟩ = some (.slice none 0 0) := hpl.cell 1
     have f1 := hpl.free 1
     have hplt := hpl.lt
     obtain ⟨i0, hi, hz0, hz1, hz2⟩ := info_parts info_worker
     have HI := Lib.hid (And.intro hs (And.intro hpl (And.intro hcf (And.intro hrp hby))))
     have hyr := hby.size
     clear hs hpl hcf hrp hby
     go_wp2_with (at_builtin; refine wpList_append_lies _ rfl _ _ 108 rfl w.heap.size 112 i0 (.agg #[.slice none 0 0, .int .u8 0, .int .i64 0, .slice none 0 0, .int .i64 0, .int .i64 0]) 6 80 Tryz.underlying108 hi hz0 hz1 hz2 rfl (by decide) (.slice none 0 0) 0 [] rfl (World.ownsRow_nil _ _ _ _) ⟨wr.heap.size, 0, none⟩ 1 1 [.slice ca0 cs.length cc0, .int .u8 0, .int .i64 0, .slice none 0 0, .int .i64 0, .int .i64 0] rfl rfl (World.news_of_block (heap_alloc_new _ _)) (by intro u hu; simp at hu; rcases hu with rfl | rfl | rfl | rfl | rfl | rfl <;> rfl) (by decide) (by unfold maxLen; omega) (by omega) (by simp; omega) (wr.heap.size + 1) (by simp) ?_; intro g cap w5 hown hgrow hat hlt; have ho5 := Only.grown (World.ownsRow_nil _ w.heap.size 112 6) hgrow (by simp; omega); have hp5 := ho5.bx (HI.out.2.1.alloc _) (by decide); have hf5 := hp5.cell 1; have hz5 := hp5.free 1; have HO := Lib.hid (And.intro ho5 (And.intro hp5 hown)); clear hown hgrow hat ho5 hp5)
     have HF : Hid (PlayS (w5.setCell ⟨pb, 1, none⟩ (.slice (some ⟨g, 0, none⟩) 1 cap)) w B A pb g w.heap.size cap #[pv, .int .i64 64, .slice (some ⟨wb0, wo, none⟩) 1 wc0, .slice pa ps.length pc, .bool false] ⟨⟨m0, fun _ => none⟩, cs, []⟩) := by
       obtain ⟨ho5, hp5, hown⟩ := HO.out
       obtain ⟨hs, hpl, hcf, hrp, hby⟩ := HI.out
       obtain ⟨g', cap', e, hg0, hc1, hc2, hcell⟩ := own_cell hown (by decide)
       have hgl : ∃ cur, Bx w5 g 112 cur := by
         rcases hown.2 with ⟨e, _⟩ | ⟨g2, cap2, cur, e, _, h2, _⟩
         · cases e
         · injection e with e1 e2 e3
           injection e1 with e1
           injection e1 with e1
           subst e1
           exact ⟨cur, h2⟩
       obtain ⟨cur, hcur⟩ := hgl
       injection e with e1 e2 e3
       injection e1 with e1
       injection e1 with e1
       subst e1 e3
       have ho6 := Only.set (i := 1) hp5 (base := w.heap.size) HB2.out (.slice (some ⟨g, 0, none⟩) 1 cap)
       have hw := hcur
       have hc : ∀ j u, ([.slice ca0 cs.length cc0, .int .u8 0, .int .i64 0, .slice none 0 0, .int .i64 0, .int .i64 0] : List Value)[j]? = some u → cur[j]? = some u := fun j u hu => by
         rw [← hcur.cell j]
         exact hcell j u hu
       have hsit : Sit (w5.setCell ⟨pb, 1, none⟩ (.slice (some ⟨g, 0, none⟩) 1 cap)) w B A m0 (fun _ => none) pb g w.heap.size (playV A.K (.slice (some ⟨g, 0, none⟩) 1 cap) (.slice none 0 0)) cur #[pv, .int .i64 64, .slice (some ⟨wb0, wo, none⟩) 1 wc0, .slice pa ps.length pc, .bool false] (.slice none 0 0) 0 [] := by
         refine ⟨((hs.keep (below_allocs [_] wr)).ag (fun _ _ => rfl) (ho5.ag (by decide))).ag (fun _ _ => rfl) (ho6.ag (by decide)), hp5.setCell 1 _, ho6.bx hcur (by decide), ho6.bx (ho5.bx (hcf.alloc _) (by decide)) (by decide), ho6.bx (ho5.bx (hrp.alloc _) (by decide)) (by decide), ((below_then hby (below_allocs [_] wr)).trans ho5.bel).trans ho6.bel, World.ownsRow_nil _ _ _ _, HB2.out, hg0, HwB.out⟩
       exact ⟨⟨hc1, hc2⟩, cur, .slice ca0 cs.length cc0, .slice none 0 0, [], hsit, ⟨0, 0, none, 0, 0, 0, 0, hc 0 _ rfl, hc 1 _ rfl, hc 2 _ rfl, hc 3 _ rfl, hc 4 _ rfl, hc 5 _ rfl⟩, Hw4.out, fun i r hi => by simp at hi, fun i hi => absurd hi (by simp)⟩
     go_roundw
     case rel => exact .inr ⟨rfl, _, _, HF.out⟩
     case measure => simp [intOf]
   · have HP := Lib.hid hps
     obtain ⟨_, arr, lv, cv, dn, hsit, _⟩ := id hps
     have k3 := hsit.conf.cell 3
     clear hsit hps
     have Hall : Hid (∀ k, k ≤ ps.length → PlayOk BlV A.list A.room cs (1 + k) (simRun BlV A.list A.room tkV (ps.take k) ⟨⟨m0, fun _ => none⟩, cs, []⟩)) := fun k hk => by
       have h0 : PlayOk BlV A.list A.room cs 1 ⟨⟨m0, fun _ => none⟩, cs, []⟩ := ⟨sys0 _ _, fun _ _ => rfl, ⟨0, rfl⟩, by simp⟩
       have hl : (ps.take k).length = k := by rw [List.length_take]; omega
       have := play_all (by rw [HA.out.1, HA.out.2.1]; exact HT.out) (fun c hc => by rw [HA.out.1]; exact (Hcs.out c hc).in_) (ps.take k) 1 _ h0 (by omega)
       rwa [hl] at this
     have eT := HA.out.1
     have eR := HA.out.2.1
     have HeT := Lib.hid (And.intro eT eR)
     clear eT eR
     go_wp2_with fail
     go_loopw [52] (fun iv wr => ∃ k : Nat, iv = .int .i64 k ∧ k ≤ ps.length ∧ PlayS wr w B A pb wb w.heap.size cw #[pv, .int .i64 64, .slice (some ⟨wb0, wo, none⟩) 1 wc0, .slice pa ps.length pc, .bool false] (simRun BlV A.list A.room tkV (ps.take k) ⟨⟨m0, fun _ => none⟩, cs, []⟩)) (fun iv _ => ps.length - (intOf iv).toNat)
     case atStart => exact ⟨0, rfl, Nat.zero_le _, HP.out⟩
     case round =>
       obtain ⟨k, rfl, hk, hp⟩ := hrel
       have Hp := Lib.hid hp
       have hO := Hall.out k hk
       have HO := Lib.hid hO
       clear hp hO
       by_cases hA : k < ps.length
       · obtain ⟨b, off, rfl, hcl⟩ := Hp3.out (by omega)
         obtain ⟨x, hxx⟩ : ∃ x, ps[k]? = some x := ⟨_, List.getElem?_eq_getElem hA⟩
         obtain ⟨c0, c1⟩ := hcl k x hxx
         have hwr : Below w.heap.size w wr := by obtain ⟨_, _, _, _, _, h, _⟩ := Hp.out; exact h.below
         have d0 := cell_later hwr c0; have d1 := cell_later hwr c1
         obtain ⟨hwho, ht0, ht1⟩ := Hps.out x (List.mem_of_getElem? hxx)
         have Hsn : Hid (simRun BlV A.list A.room tkV (ps.take (k + 1)) ⟨⟨m0, fun _ => none⟩, cs, []⟩ = simPick BlV A.list A.room tkV (simRun BlV A.list A.room tkV (ps.take k) ⟨⟨m0, fun _ => none⟩, cs, []⟩) x) := by
           show _ = _
           have : ps.take (k + 1) = ps.take k ++ [x] := by
             rw [List.take_succ_eq_append_getElem hA]
             have := List.getElem?_eq_getElem hA
             rw [hxx] at this
             injection this with this
             rw [this]
           rw [this, simRun_snoc]
         obtain ⟨xw, xt⟩ := x
         dsimp only at d0 d1 hwho ht0 ht1
         have Ht := Lib.hid (And.intro ht0 ht1)
         clear hcl hxx c0 c1 hwr ht0 ht1
         generalize simRun BlV A.list A.room tkV (ps.take k) ⟨⟨m0, fun _ => none⟩, cs, []⟩ = p at *
         rcases hwho with rfl | rfl
         · have Kt : Hid (∀ W, Below wr.heap.size wr W → Calls Tryz.prog 13 #[P A.K, .int .i64 xt] W fun e w' => (∃ v, e = .returned v) ∧ PlayS w' w B A pb wb w.heap.size cw #[pv, .int .i64 64, .slice (some ⟨wb0, wo, none⟩) 1 wc0, .slice (some ⟨b, off, none⟩) ps.length pc, .bool false] (simPick BlV A.list A.room tkV p ⟨-1, xt⟩)) := fun W hb => by
             have hpl := Hp.out.later hb
             have hsy : SysAt W B A p.s.m p.s.pd := by obtain ⟨_, _, _, _, _, h, _⟩ := hpl; exact h.sys
             refine (tick_sys B A p.s xt W hsy Ht.out.1 Ht.out.2).mono ?_
             rintro e w' ⟨rfl, hs', hf'⟩
             exact ⟨⟨_, rfl⟩, hpl.tick hs' hf'⟩
           go_upto_region 14 with fail
           refine wp_name (fun y => Below wr.heap.size wr y ∧ Bx y wr.heap.size 60 #[.int .i64 (-1), .int .i64 xt]) ⟨below_allocs [_] wr, Bx.new wr _ _⟩ ?_
           rintro y2 ⟨hy2, hx2⟩
           have g0 := hx2.cell 0; have g1 := hx2.cell 1
           have Hy2 := Lib.hid hy2
           clear hy2 hx2 d0 d1
           go_wp2_with (go_at_call 13; (with_reducible refine (Kt.out _ Hy2.out).mono ?_); rintro e w5 ⟨⟨tv, rfl⟩, hp5⟩; have Hp5 := Lib.hid hp5; clear hp5)
           go_roundw
           case rel => exact ⟨k + 1, by go_num, by omega, by rw [Hsn.out]; exact Hp5.out⟩
           case measure => simp [intOf]; omega
         · have Kt : Hid (∀ W, Below wr.heap.size wr W → Calls Tryz.prog 33 #[P pb, .int .i64 0] W fun e w' => (∃ b, e = .returned (.bool b)) ∧ PlayS w' w B A pb wb w.heap.size cw #[pv, .int .i64 64, .slice (some ⟨wb0, wo, none⟩) 1 wc0, .slice (some ⟨b, off, none⟩) ps.length pc, .bool false] (simPick BlV A.list A.room tkV p ⟨0, xt⟩)) := fun W hb => by
             exact simstep_pick B A (1 + k) p cs W w (Hp.out.later hb) (by rw [HeT.out.1, HeT.out.2]; exact HT.out) HO.out (by rw [HeT.out.1]; exact Hcs.out) (by omega) hn
           go_upto_region 14 with fail
           refine wp_name (fun y => Below wr.heap.size wr y ∧ Bx y wr.heap.size 60 #[.int .i64 0, .int .i64 xt]) ⟨below_allocs [_] wr, Bx.new wr _ _⟩ ?_
           rintro y2 ⟨hy2, hx2⟩
           have g0 := hx2.cell 0; have g1 := hx2.cell 1
           have Hy2 := Lib.hid hy2
           clear hy2 hx2 d0 d1
           go_wp2_with (go_at_call 33; (with_reducible refine (Kt.out _ Hy2.out).mono ?_); rintro e w5 ⟨⟨tv, rfl⟩, hp5⟩; have Hp5 := Lib.hid hp5; clear hp5)
           go_roundw
           case rel => exact ⟨k + 1, by go_num, by omega, by rw [Hsn.out]; exact Hp5.out⟩
           case measure => simp [intOf]; omega
       · obtain rfl : k = ps.length := by omega
         have hs := Hrun.out
         rw [← HeT.out.1, ← HeT.out.2] at hs
         have hp := Hp.out
         rw [List.take_length] at hp
         rw [hs] at hp
         have hO := HO.out
         rw [List.take_length, hs] at hO
         have hnone : ∀ j, j < 64 → s.pd j = none := fun j _ => by
           by_cases e : j = 0
           · subst e; exact Hpd.out
           · exact hO.oth j (by omega)
         obtain ⟨_, arr, lv, cv, dn, hsit, _, _, hdn⟩ := hp
         obtain ⟨va, vn, vc, rfl⟩ : ∃ a n c, cv = .slice a n c := by rcases hsit.row.2 with ⟨rfl, _⟩ | ⟨g, cap, cur, rfl, _⟩ <;> exact ⟨_, _, _, rfl⟩
         have q1 : wr.cell? ⟨pb, 1, none⟩ = some (.slice (some ⟨wb, 0, none⟩) 1 cw) := hsit.play.cell 1
         have q4 : wr.cell? ⟨w.heap.size, 4, none⟩ = some (.bool false) := hsit.conf.cell 4
         have HS := Lib.hid hsit; have Hdn := Lib.hid hdn; have Hnone := Lib.hid hnone; have HOk := Lib.hid hO.ok
         have Kp : Hid (∀ W, Below wr.heap.size wr W → Calls Tryz.prog 34 #[P A.K, .int .i64 0] W fun e w' => e = .returned (.bool false) ∧ W = w') := fun W hb => by
           have := pending_sys B A s.m s.pd 0 W (HS.out.sys.keep hb) (by decide)
           rwa [Hpd.out] at this
         clear hs hO hnone hsit hdn
         go_wp2_with fail
         go_loopw [73] (fun iv wi => (iv = .int .i64 0 ∨ iv = .int .i64 1) ∧ Below wr.heap.size wr wi) (fun iv _ => 1 - (intOf iv).toNat)
         case atStart => exact ⟨.inl rfl, Below.refl _ _⟩
         case round =>
           obtain ⟨hiv, hbi⟩ := hrel
           have Hbi := Lib.hid hbi
           have q4i := cell_later hbi q4
           clear hbi
           rcases hiv with rfl | rfl
           · go_wp2_with fail
             refine wp_loop_rounds 1 ?_
             rw [rounds_succ]
             go_wp2_with (go_at_call 34; (with_reducible refine (Kp.out _ Hbi.out).mono ?_); rintro e w1 ⟨rfl, rfl⟩)
             go_roundw
             case rel => exact ⟨.inr rfl, Hbi.out⟩
             case measure => simp [intOf]
           · have HSI := Lib.hid (HS.out.later Hbi.out)
             have hbnd : s.m.count < 4611686018427387904 := by have := HOk.out.few; omega
             have hc1 := HOk.out.inv.cnt
             have hc2 := HOk.out.inv.cnt2
             have Kce : Hid (∀ W, SysAt W B A s.m s.pd → Calls Tryz.prog 9 #[P A.K] W fun e w' => ∃ v L, e = .returned v ∧ CellsAt w' v L ∧ (∀ c, c ∈ L ↔ Has s.m c) ∧ Below W.heap.size W w') := fun W h => by
               have hr : A.room ≤ 4096 := by rw [HeT.out.2]; decide
               exact cells_any B A s.m W h.st HOk.out.inv.dir HOk.out.inv.lies (by omega)
             have Kst : Hid (∀ W, SysAt W B A s.m s.pd → Calls Tryz.prog 14 #[P A.K] W fun e w' => e = .returned (.int .i64 (s.m.count - 1)) ∧ W = w') := fun W h => steps_any B A _ W h.st hbnd
             have Kct : Hid (∀ W, SysAt W B A s.m s.pd → Calls Tryz.prog 16 #[P A.K] W fun e w' => e = .returned (.int .i64 (s.m.word 32 : Nat)) ∧ ∃ q, w' = W.drewN q) := fun W h => count_any B A _ W h.st (by have hr : A.room ≤ 4096 := (by rw [HeT.out.2]; decide); omega)
             have Ktk : Hid (∀ W, SysAt W B A s.m s.pd → Calls Tryz.prog 13 #[P A.K, .int .i64 0] W fun e w' => e = .returned (.tuple #[.int .i64 s.m.clock, .int .i64 0]) ∧ SysAt w' B A s.m s.pd ∧ Fz B W w') := fun W h => by
               refine (tick_sys B A s 0 W h (by decide) (by decide)).mono ?_
               rintro e w' ⟨rfl, hs, hf⟩
               rw [tick_zero' h.st.clock.1 h.st.clock.2] at hs ⊢
               exact ⟨rfl, hs, hf⟩
             clear hbnd hc1 hc2 q1 q4 q4i
             have j0 : wr.cell? ⟨pb, 0, none⟩ = some (P A.K) := HSI.out.play.cell 0
             go_upto_region 26 with (first
               | (go_at_call 9; (with_reducible refine (Kce.out _ HSI.out.sys).mono ?_); rintro e w5 ⟨ev, L, rfl, hc5, hm5, hb5⟩; obtain ⟨ea, en, ec, rfl⟩ := hc5.slice; have HS5 := Lib.hid (HSI.out.later hb5); have Hc5 := Lib.hid (And.intro hc5 hm5); clear hc5 hm5 hb5)
               | (go_at_call 14; (with_reducible refine (Kst.out _ HS5.out.sys).mono ?_); rintro e w6 ⟨rfl, rfl⟩)
               | (go_at_call 16; (with_reducible refine (Kct.out _ HS5.out.sys).mono ?_); rintro e w7 ⟨rfl, q, rfl⟩; have HS7 := Lib.hid (HS5.out.later (below_drewN (Below.refl _ _) q)); have k3 := HS7.out.play.cell 3; have k5 := HS7.out.play.cell 5; have k6 := HS7.out.play.cell 6; have k3f := HS7.out.play.free 3; have k5f := HS7.out.play.free 5; have k6f := HS7.out.play.free 6))
             refine wp_name (fun y => Sit y w B A s.m s.pd pb wb w.heap.size #[P A.K, .slice (some ⟨wb, 0, none⟩) 1 cw, .slice va vn vc, .slice ea en ec, .int .i64 0, .int .i64 (s.m.count - 1), .int .i64 (s.m.word 32 : Nat), .int .i64 0] arr #[pv, .int .i64 64, .slice (some ⟨wb0, wo, none⟩) 1 wc0, .slice pa ps.length pc, .bool false] (.slice va vn vc) out.length dn ∧ CellsAt y (.slice ea en ec) L) ?_ ?_
             · have a1 := HS7.out.setp Hnone.out 3 (.slice ea en ec)
               have a2 := a1.1.setp Hnone.out 5 (.int .i64 (s.m.count - 1))
               have a3 := a2.1.setp Hnone.out 6 (.int .i64 (s.m.word 32 : Nat))
               exact ⟨a3.1, (((Hc5.out.1.keep (fr0 (below_drewN (Below.refl _ _) q))).ag a1.2).ag a2.2).ag a3.2⟩
             rintro y3 ⟨hs3, hc3⟩
             have HS3 := Lib.hid hs3; have Hc3 := Lib.hid hc3
             clear hs3 hc3 k3 k5 k6 k3f k5f k6f j0
             go_upto_region 27 with (go_at_call 13; (with_reducible refine (Ktk.out _ HS3.out.sys).mono ?_); rintro e w8 ⟨rfl, hs8, hf8⟩; have HS8 := Lib.hid (HS3.out.fz hs8 hf8); have Hc8 := Lib.hid (Hc3.out.kz5 hf8); have k4 := HS8.out.play.cell 4; have k4f := HS8.out.play.free 4; clear hs8 hf8)
             refine wp_name (fun y => Sit y w B A s.m s.pd pb wb w.heap.size #[P A.K, .slice (some ⟨wb, 0, none⟩) 1 cw, .slice va vn vc, .slice ea en ec, .int .i64 s.m.clock, .int .i64 (s.m.count - 1), .int .i64 (s.m.word 32 : Nat), .int .i64 0] arr #[pv, .int .i64 64, .slice (some ⟨wb0, wo, none⟩) 1 wc0, .slice pa ps.length pc, .bool false] (.slice va vn vc) out.length dn ∧ CellsAt y (.slice ea en ec) L) ?_ ?_
             · have a1 := HS8.out.setp Hnone.out 4 (.int .i64 s.m.clock)
               exact ⟨a1.1, Hc8.out.ag a1.2⟩
             rintro y4 ⟨hs4, hc4⟩
             have g2 := hs4.play.cell 2; have g3 := hs4.play.cell 3; have g4 := hs4.play.cell 4; have g5 := hs4.play.cell 5; have g6 := hs4.play.cell 6; have g7 := hs4.play.cell 7
             have r0 := hs4.rep.cell 0; have r1 := hs4.rep.cell 1; have r2 := hs4.rep.cell 2; have r3 := hs4.rep.cell 3; have r4 := hs4.rep.cell 4; have r5 := hs4.rep.cell 5
             have f0 := hs4.rep.free 0; have f1 := hs4.rep.free 1; have f2 := hs4.rep.free 2; have f3 := hs4.rep.free 3; have f4 := hs4.rep.free 4; have f5 := hs4.rep.free 5
             have HS4 := Lib.hid hs4; have Hc4 := Lib.hid hc4
             clear hs4 hc4 k4 k4f
             go_wp2_with fail
             have hbx := storeG_bx HS4.out.rep (.slice va vn vc) (.slice ea en ec) (.int .i64 s.m.clock) (.int .i64 (s.m.count - 1)) (.int .i64 (s.m.word 32 : Nat)) (.int .i64 0)
             have ho := storeG_only HS4.out.rep (base := w.heap.size) (by omega) (.slice va vn vc) (.slice ea en ec) (.int .i64 s.m.clock) (.int .i64 (s.m.count - 1)) (.int .i64 (s.m.word 32 : Nat)) (.int .i64 0)
             show bodyPost _ _ _ _ _ (storeG y4 (w.heap.size + 1) (.slice va vn vc) (.slice ea en ec) (.int .i64 s.m.clock) (.int .i64 (s.m.count - 1)) (.int .i64 (s.m.word 32 : Nat)) (.int .i64 0))
             generalize storeG y4 (w.heap.size + 1) (.slice va vn vc) (.slice ea en ec) (.int .i64 s.m.clock) (.int .i64 (s.m.count - 1)) (.int .i64 (s.m.word 32 : Nat)) (.int .i64 0) = W at *
             have u0 := hbx.cell 0; have u1 := hbx.cell 1; have u2 := hbx.cell 2; have u3 := hbx.cell 3; have u4 := hbx.cell 4; have u5 := hbx.cell 5
             exact bodyPost_ret (v := .tuple #[.agg #[.slice va vn vc, .slice ea en ec, .int .i64 s.m.clock, .int .i64 (s.m.count - 1), .int .i64 (s.m.word 32 : Nat), .int .i64 0], .int .i64 0]) (by simp [results, Tryz.results15, go_sem, u0, u1, u2, u3, u4, u5]) rfl ⟨_, dn, _, L, rfl, Hc4.out.ag (ho.ag (by decide)), Hc5.out.2, ho.own HS4.out.row (by decide), Hdn.out, HS4.out.below.trans ho.bel⟩
end Go.Proofs.YtemnhpdjoimjbaaGreat
