import Derived.Test.YtemnhpdjoimjbaaGreatTf52
namespace Go.Proofs.YtemnhpdjoimjbaaGreat
open Go.RowKit Top
set_option linter.unusedVariables false
theorem ByAt.news {w : World} {ad : Addr} {n c : Nat} {L : List Nat} (h : ByAt w (.slice (some ad) n c) L) : ∀ j u, (L.map fun (x : Nat) => Value.int .u8 x)[j]? = some u → w.cell? (ad.add j) = some u := by
  intro j u hu
  have hj : j < L.length := by simpa using (List.getElem?_eq_some_iff.1 hu).1
  obtain ⟨_, a', c', e, _, _, h3⟩ := h
  injection e with e1 e2 e3
  obtain ⟨b, off, e, h4⟩ := h3 (by omega)
  rw [← e1] at e
  injection e with e
  subst e
  rw [Addr.add_lit, h4 j hj]
  rw [List.getElem?_map, List.getElem?_eq_getElem hj] at hu
  simp only [Option.map_some, Option.some.injEq] at hu
  rw [← hu, List.getD_eq_getElem?_getD, List.getElem?_eq_getElem hj]
  rfl
theorem neq_reply (w : World) : (binOp BinOp.neq 35 (.agg #[.int .i64 11, .bool false, .int .i64 0, .int .i64 0, .int .i64 0, .int .i64 0]) (.agg #[.int .i64 11, .bool false, .int .i64 0, .int .i64 0, .int .i64 0, .int .i64 0])).run Tryz.prog w = .ok (.bool false) w := by kernel_rfl
theorem eql_reply (w : World) : (binOp BinOp.eql 35 (.agg #[.int .i64 11, .bool false, .int .i64 0, .int .i64 0, .int .i64 0, .int .i64 0]) (.agg #[.int .i64 11, .bool false, .int .i64 0, .int .i64 0, .int .i64 0, .int .i64 0])).run Tryz.prog w = .ok (.bool true) w := by kernel_rfl
theorem CellsAt.kz5 {B : Nat} {w w' : World} {v : Value} {L : List Cell} (h : CellsAt w v L) (hf : Fz B w w') : CellsAt w' v L := by
  obtain ⟨X, hf⟩ := hf
  exact h.keep hf
theorem KeyAt.kz5 {B : Nat} {w w' : World} {v : Value} {L : List Nat} (h : KeyAt w v L) (hf : Fz B w w') : KeyAt w' v L := by
  obtain ⟨X, hf⟩ := hf
  exact h.keep hf
/-- A limiter as the laws make it. -/
theorem new_sys (lv : Value) (room : Nat) (w : World) (hl : PolsAt w lv tabL) (r0 : 1 ≤ room) (r1 : room ≤ 4096) :
    Calls Tryz.prog 5 #[lv, .int .i64 room] w fun e w' => ∃ A : Adr, e = .returned (.tuple #[P A.K, .int .i64 0]) ∧ A.list = tabL ∧ A.room = room ∧ SysAt w' w.heap.size A m0 (fun _ => none) ∧ Below w.heap.size w w' := by
  refine (core_new tabL lv room w hl (by decide) (by decide) (tab_ok r0 r1).good r0 r1).mono ?_
  rintro e w' ⟨K, lb, bd, M, W, H, lv', rfl, h1, h2, h3, h4, h5⟩
  exact ⟨⟨K, lb, bd, M, W, H, tabL, room⟩, rfl, rfl, rfl, sys_new h1 h2 h3 h4 h5.size, h5⟩
theorem Fz.later {B : Nat} {w w' : World} (h : Fz B w w') {n : Nat} (hn : n ≤ B) {a : World} (hb : Below n a w) : Below n a w' := hb.trans (h.bel.mono hn)
set_option maxHeartbeats 4000000 in
set_option maxRecDepth 100000 in
theorem forged_walk (cells : Int) (v : Value) (L : List Pk) (kv : Value) (key : List Nat) (serial : Int) (hc : (Lit.int .u8 cells).wf = true) (hs : (Lit.int .i64 serial).wf = true) (w : World) (h : PicksAt w v L) (hk : ByAt w kv key) :
    Calls Tryz.prog 3 #[.int .u8 cells, v, kv, .int .i64 serial] w fun e w' => e = .returned (.bool true) ∧ Below w.heap.size w w' := by
  obtain ⟨n, rfl, hn⟩ := u8_of_wf hc
  have hser := i64_of_wf hs
  obtain ⟨hoks, la, lc, rfl, hl1, hl2, hl3⟩ := h
  obtain ⟨ka, kc, rfl⟩ : ∃ a c', kv = .slice a key.length c' := by obtain ⟨_, a, c', e, _⟩ := hk; exact ⟨a, c', e⟩
  obtain ⟨room, hroom, r0, r1⟩ : ∃ room : Nat, (1 : Int) + (n : Int) % 6 = (room : Nat) ∧ 1 ≤ room ∧ room ≤ 4096 := ⟨1 + n % 6, by omega, by omega, by omega⟩
  have T := tab_ok r0 r1
  have Ht := Lib.hid T
  have Hl := Lib.hid hl3; have Hoks := Lib.hid hoks; have Hk := Lib.hid hk; have Hser := Lib.hid hser
  have hll : L.length ≤ 9223372036854775807 := by unfold maxLen at hl2; omega
  have Kn : Hid (∀ W lv, PolsAt W lv tabL → Calls Tryz.prog 5 #[lv, .int .i64 (1 + (n : Int) % 6)] W fun e w' => ∃ A : Adr, e = .returned (.tuple #[P A.K, .int .i64 0]) ∧ A.list = tabL ∧ A.room = room ∧ SysAt w' W.heap.size A m0 (fun _ => none) ∧ Below W.heap.size W w') := fun W lv hl => by
    rw [hroom]
    exact new_sys lv room W hl r0 r1
  clear hc hs hl1 hl2 hl3 hoks hk hser hroom T
  go_enter Tryz.func3, Tryz.ntmps3
  go_upto_region 5 with (first
    | (go_at_call 6; (with_reducible refine (table_any _).mono ?_); rintro e w1 ⟨lv, rfl, hp1, hb1⟩; have Hp1 := Lib.hid hp1; have Hb1 := Lib.hid hb1; clear hp1 hb1)
    | (go_at_call 5; (with_reducible refine (Kn.out _ _ Hp1.out).mono ?_); rintro e w2 ⟨A, rfl, hA1, hA2, hsys, hb2⟩; have HA := Lib.hid (And.intro hA1 (And.intro hA2 hsys)); have Hb2 := Lib.hid hb2; clear hA1 hA2 hsys hb2))
  generalize hB : w1.heap.size = B at *
  have HB := Lib.hid hB
  have Hle : Hid (w.heap.size ≤ B) := by rw [← hB]; exact Hb1.out.size
  clear hB
  go_loopw [38] (fun i wr => ∃ (k : Nat) (s : Top.Sys) (q : Nat), i = .int .i64 k ∧ k ≤ L.length ∧ SysAt wr B A s.m s.pd ∧ SysOk tabL room s q ∧ q ≤ 301 ∧ q ≤ k + 1 ∧ s.pd 9 = none ∧ Fz B w2 wr) (fun i _ => L.length - (intOf i).toNat)
  case atStart => exact ⟨0, ⟨m0, fun _ => none⟩, 1, rfl, Nat.zero_le _, HA.out.2.2, sys0 _ _, by decide, Nat.le_refl _, rfl, Fz.refl _ _⟩
  case round =>
    obtain ⟨k, s, q, rfl, hk, hsys, hok, hq1, hq2, hpd, hfz⟩ := hrel
    have Hsys := Lib.hid hsys; have Hok := Lib.hid hok; have Hpd := Lib.hid hpd; have Hfz := Lib.hid hfz
    have Hq := Lib.hid (And.intro hq1 hq2)
    clear hsys hok hpd hfz hq1 hq2
    by_cases hA : k < L.length
    · obtain ⟨b, off, rfl, hcl⟩ := Hl.out (by omega)
      obtain ⟨p, hp⟩ : ∃ p, L[k]? = some p := ⟨_, List.getElem?_eq_getElem hA⟩
      obtain ⟨pv, hby, y0, y1, y2, y3, y4, y5, y6⟩ := hcl k p hp
      have hpok := Hoks.out p (List.mem_of_getElem? hp)
      have hww : Below w.heap.size w wr := Hfz.out.later Hle.out (Hb1.out.trans (Hb2.out.mono Hle.out))
      have z0 := cell_later hww y0; have z1 := cell_later hww y1; have z2 := cell_later hww y2; have z3 := cell_later hww y3; have z4 := cell_later hww y4; have z5 := cell_later hww y5; have z6 := cell_later hww y6
      have hbyr := hby.below hww
      obtain ⟨qa, qc, rfl⟩ : ∃ a c', pv = .slice a p.c.key.length c' := by obtain ⟨_, a, c', e, _⟩ := hby; exact ⟨a, c', e⟩
      have hff := fit_fits hpok hby.1
      have hBw := Hsys.out.st.below.2.2.2
      have Kf : Hid (∀ W, Below wr.heap.size wr W → Calls Tryz.prog 8 #[.agg #[.int .u8 (p.kind : Nat), .int .i64 p.who, .int .u8 (p.c.op : Nat), .int .i64 p.c.pol, .slice qa p.c.key.length qc, .int .i64 p.c.n, .int .i64 p.N]] W fun e w' => ∃ kv', e = .returned (.agg (pickA (fitP p) kv')) ∧ ByAt w' kv' (fitP p).c.key ∧ Below W.heap.size W w') := fun W hb => fit_any p _ W (hbyr.below hb) hpok
      have HT := tab_ok r0 r1
      have eT : tabL = A.list := HA.out.1.symm
      have eR : room = A.room := HA.out.2.1.symm
      have hok' : SysOk A.list A.room s q := by rw [← eT, ← eR]; exact Hok.out
      have hfit' : PkFit A.list (fitP p) := by rw [← eT]; exact hff.1
      have HT' : TabOk A.list A.room := by rw [← eT, ← eR]; exact HT
      have hps := play_ok HT Hok.out (by have := Hq.out; omega) hff.1
      have hpd9 : (playS tabL room s (fitP p)).pd 9 = none := by
        rw [play_pd (by obtain ⟨j, hj, _⟩ := hff.1.who; have := hff.2; omega)]
        exact Hpd.out
      have Kp : Hid (∀ W kv', Below wr.heap.size wr W → ByAt W kv' (fitP p).c.key → Calls Tryz.prog 7 #[P A.K, .agg (pickA (fitP p) kv')] W fun e w' => (∃ v, e = .returned v) ∧ SysAt w' B A (playS tabL room s (fitP p)).m (playS tabL room s (fitP p)).pd ∧ Fz B w2 w') := fun W kv' hb hk => by
        refine (play_any B A s q (fitP p) kv' W (Hsys.out.keep hb) HT' hok' (by have := Hq.out; omega) hfit' hk).mono ?_
        rintro e w' ⟨h1, h2, h3⟩
        rw [← eT, ← eR] at h2
        exact ⟨h1, h2, (Hfz.out.below hBw hb).trans h3⟩
      have Hps := Lib.hid (And.intro hps hpd9)
      clear hcl hp hby y0 y1 y2 y3 y4 y5 y6 hpok hww hbyr hff HT eT eR hok' hfit' HT' hps hpd9
      generalize playS tabL room s (fitP p) = s1 at *
      generalize hpk : pickA (fitP p) = PA at *
      clear hpk
      by_cases h300 : k < 300
      · have hd : decide ((k : Int) < 300) = true := decide_eq_true (by omega)
        have hd2 : (k : Int) < 300 := by omega
        clear hd
        go_upto_region 7 with (fail)
        refine wp_name (fun y => Below wr.heap.size wr y ∧ Bx y wr.heap.size 33 #[.int .u8 (p.kind : Nat), .int .i64 p.who, .int .u8 (p.c.op : Nat), .int .i64 p.c.pol, .slice qa p.c.key.length qc, .int .i64 p.c.n, .int .i64 p.N]) ⟨below_allocs [_] wr, Bx.new wr _ _⟩ ?_
        rintro y ⟨hy, hbx⟩
        have x0 := hbx.cell 0; have x1 := hbx.cell 1; have x2 := hbx.cell 2; have x3 := hbx.cell 3; have x4 := hbx.cell 4; have x5 := hbx.cell 5; have x6 := hbx.cell 6
        have Hy := Lib.hid hy
        clear hy hbx z0 z1 z2 z3 z4 z5 z6
        go_wp2_with (first
          | (go_at_call 8; (with_reducible refine (Kf.out _ Hy.out).mono ?_); rintro e w3 ⟨kv', rfl, hk3, hb3⟩; have Hk3 := Lib.hid hk3; have Hb3 := Lib.hid (below_then Hy.out hb3); clear hk3 hb3)
          | (go_at_call 7; (with_reducible refine (Kp.out _ _ Hb3.out Hk3.out).mono ?_); rintro e w4 ⟨⟨pv4, rfl⟩, hs4, hf4⟩; have Hs4 := Lib.hid (And.intro hs4 hf4); clear hs4 hf4))
        go_roundw
        case rel => exact ⟨k + 1, s1, q + 1, by go_num, by omega, Hs4.out.1, Hps.out.1, by have := Hq.out; omega, by have := Hq.out; omega, Hps.out.2, Hs4.out.2⟩
        case measure => simp [intOf]; omega
      · have hd2 : ¬ (k : Int) < 300 := by omega
        have hya : Below wr.heap.size wr (wr.alloc (.cells #[.int .u8 (p.kind : Nat), .int .i64 p.who, .int .u8 (p.c.op : Nat), .int .i64 p.c.pol, .slice qa p.c.key.length qc, .int .i64 p.c.n, .int .i64 p.N] 33)) := below_allocs [_] wr
        have Hya := Lib.hid (And.intro (Hsys.out.keep hya) (Hfz.out.below hBw hya))
        clear hya
        go_wp2_with fail
        go_roundw
        case rel => exact ⟨k + 1, s, q, by go_num, by omega, Hya.out.1, Hok.out, Hq.out.1, by have := Hq.out; omega, Hpd.out, Hya.out.2⟩
        case measure => simp [intOf]; omega
    · obtain rfl : k = L.length := by omega
      have HT := tab_ok r0 r1
      go_upto_region 10 with (fail)
      go_cut [2] (fun v wx => KeyAt wx v (key.take 2) ∧ Below wr.heap.size wr wx)
      case first =>
        have hww : Below w.heap.size w wr := Hfz.out.later Hle.out (Hb1.out.trans (Hb2.out.mono Hle.out))
        have hbt := (Hk.out.below hww).take 2
        have hkr := (Hk.out.below hww).row
        obtain ⟨i0, hi, hz0, hz1, hz2⟩ := info_parts info_u8
        have hown0 : (wr.alloc (.cells #[] 5)).ownsRow wr.heap.size 5 1 (.slice (some ⟨wr.heap.size, 0, none⟩) 0 0) 0 [] := World.ownsRow_made wr #[] 0 (Nat.le_refl _) (by decide) rfl
        have hya := below_allocs [.cells #[] 5] wr
        have hkb : ∀ b ∈ key.take 2, b < 256 := hbt.1
        have hlen : (key.take 2).length = min key.length 2 := by rw [List.length_take, Nat.min_comm]
        have Hown0 := Lib.hid hown0; have Hya := Lib.hid hya; have Hkb := Lib.hid hkb; have Hlen := Lib.hid hlen; have Hbt := Lib.hid hbt
        have Hfin : Hid (∀ v' w1, w1.ownsRow wr.heap.size 5 1 v' (key.take 2).length ((key.take 2).map fun (x : Nat) => Value.int .u8 x) → (wr.alloc (.cells #[] 5)).grownBy w1 (some wr.heap.size) → KeyAt w1 v' (key.take 2) ∧ Below wr.heap.size wr w1) := fun v' w1 ho hg => ⟨⟨Hkb.out, Row.own ho⟩, Hya.out.grown hg Hya.out.size (fun q hq => by injection hq with hq; omega)⟩
        clear hww hown0 hya hkb hlen hbt
        generalize hln : key.length = ln at *
        have Hln := Lib.hid hln
        clear hln
        have g1 : ln ≤ kc := hkr.1
        cases ka with
        | none =>
          obtain rfl : ln = 0 := by
            refine Classical.byContradiction fun h => ?_
            obtain ⟨b, off, e⟩ := hkr.2.2 (by have := Hln.out; omega)
            cases e
          have hke : key = [] := List.eq_nil_of_length_eq_zero Hln.out
          have hrun : ∀ ty, (Builtin.append_ #[23, 23] ty #[.slice (some ⟨wr.heap.size, 0, none⟩) 0 0, .slice none 0 kc]).run Tryz.prog (wr.alloc (.cells #[] 5)) = .ok (.slice (some ⟨wr.heap.size, 0, none⟩) 0 0) (wr.alloc (.cells #[] 5)) := fun ty =>
            run_append_room_src (wr.alloc (.cells #[] 5)) 23 23 ty 5 i0 Tryz.underlying23 hi wr.heap.size 0 0 0 (.slice none 0 kc) 0 [] (Src.ofNil _ Tryz.underlying23 kc) (by decide) (by intro j hj; simp at hj) (by intro j hj; simp at hj)
          have Hke := Lib.hid hke
          clear hkr hke g1
          go_wp2_with (at_builtin; refine Lib.wpList_append_run _ rfl _ _ _ _ rfl _ _ rfl rfl _ _ (hrun _) ?_)
          go_meet
          exact Hfin.out _ _ (by rw [Hke.out]; exact Hown0.out) ⟨rfl, rfl, rfl, Nat.le_refl _, fun _ _ _ => rfl⟩
        | some ad =>
          have hm : (min (ln : Int) 2).toNat = (key.take 2).length := by rw [Hlen.out]; omega
          have hnews : ∀ j u, ((key.take 2).map fun (x : Nat) => Value.int .u8 x)[j]? = some u → (wr.alloc (.cells #[] 5)).cell? (ad.add j) = some u := fun j u hu => Lib.cell?_alloc_some _ (Hbt.out.news j u hu)
          have h1 : ∀ u ∈ (key.take 2).map fun (x : Nat) => Value.int .u8 x, u.oneCell' = true := by
            intro u hu
            obtain ⟨x, _, rfl⟩ := List.mem_map.1 hu
            rfl
          have hle2 : (key.take 2).length ≤ 2 := by rw [Hlen.out]; omega
          have Hm := Lib.hid hm; have Hnews := Lib.hid hnews; have H1 := Lib.hid h1; have Hle2 := Lib.hid hle2
          clear hkr hm hnews h1 hle2
          by_cases hl : ln ≤ 2
          · go_wp2_with (at_builtin; refine wpList_append_own _ rfl _ _ 23 rfl wr.heap.size 5 i0 (.int .u8 0) 1 1 Tryz.underlying23 hi hz0 hz1 hz2 rfl (by decide) (.slice (some ⟨wr.heap.size, 0, none⟩) 0 0) 0 [] rfl Hown0.out ad (min (ln : Int) 2).toNat kc ((key.take 2).map fun (x : Nat) => Value.int .u8 x) rfl (by rw [Hm.out]; simp) Hnews.out H1.out (by rw [Hm.out]; have := Hle2.out; unfold maxLen; omega) (by rw [Hm.out]; have := Hle2.out; omega) Hya.out.size ?_; intro v' w3 hown3 hgrow3 hnil3)
            go_meet
            rw [Hm.out, Nat.zero_add] at hown3
            exact Hfin.out _ _ hown3 hgrow3
          · have g2 : (2 : Int) ≤ kc := by omega
            go_wp2_with (at_builtin; refine wpList_append_own _ rfl _ _ 23 rfl wr.heap.size 5 i0 (.int .u8 0) 1 1 Tryz.underlying23 hi hz0 hz1 hz2 rfl (by decide) (.slice (some ⟨wr.heap.size, 0, none⟩) 0 0) 0 [] rfl Hown0.out ad (min (ln : Int) 2).toNat kc ((key.take 2).map fun (x : Nat) => Value.int .u8 x) rfl (by rw [Hm.out]; simp) Hnews.out H1.out (by rw [Hm.out]; have := Hle2.out; unfold maxLen; omega) (by rw [Hm.out]; have := Hle2.out; omega) Hya.out.size ?_; intro v' w3 hown3 hgrow3 hnil3)
            go_meet
            rw [Hm.out, Nat.zero_add] at hown3
            exact Hfin.out _ _ hown3 hgrow3
      case rest =>
        obtain ⟨hkc, hbc⟩ := hcut
        have hk2 : (key.take 2).length ≤ 255 := by rw [List.length_take]; omega
        have hkb := hkc.1
        have Hk2 := Lib.hid (And.intro hk2 hkb); have Hkc := Lib.hid hkc
        have Hsc := Lib.hid (Hsys.out.keep hbc)
        have Hfc := Lib.hid (Hfz.out.below Hsys.out.st.below.2.2.2 hbc)
        clear hkc hk2 hkb hbc
        generalize key.take 2 = K2 at *
        obtain ⟨qa, qc, rfl⟩ : ∃ a c', u2 = .slice a K2.length c' := by obtain ⟨_, _, a, c', e, _⟩ := Hkc.out; exact ⟨a, c', e⟩
        have Kce : Hid (∀ W (s' : Top.Sys) (q' : Nat), SysAt W B A s'.m s'.pd → SysOk tabL room s' q' → Calls Tryz.prog 9 #[P A.K] W fun e w' => ∃ v L, e = .returned v ∧ CellsAt w' v L ∧ (∀ c, c ∈ L ↔ Has s'.m c) ∧ Below W.heap.size W w') := fun W s' q' h1 h2 => by
          have hc1 := h2.inv.cnt
          have hc2 := h2.inv.cnt2
          exact cells_any B A s'.m W h1.st h2.inv.dir h2.inv.lies (by omega)
        have Kfi : Hid (∀ W v L, CellsAt W v L → KeyAt W (.slice qa K2.length qc) K2 → Calls Tryz.prog 10 #[v, .int .i64 1, .slice qa K2.length qc] W fun e w' => ∃ r : Int, e = .returned (.int .i64 r) ∧ Below W.heap.size W w' ∧ ((r = -1 ∧ ∀ c ∈ L, ¬ (c.pol = 1 ∧ c.key = K2)) ∨ ∃ (i : Nat) (hi : i < L.length), r = i ∧ L[i].pol = 1 ∧ L[i].key = K2)) := fun W v L h1 h2 => find16_any v L 1 _ K2 W h1 h2
        go_upto_if 63 with (first
          | (go_at_call 9; (with_reducible refine (Kce.out _ s q Hsc.out Hok.out).mono ?_); rintro e w5 ⟨v5, L5, rfl, hc5, hm5, hb5⟩; have Hc5 := Lib.hid hc5; have Hm5 := Lib.hid hm5; have Hb5 := Lib.hid hb5; clear hc5 hm5 hb5)
          | (go_at_call 10; (with_reducible refine (Kfi.out _ _ _ Hc5.out (Hkc.out.keep (fr0 Hb5.out))).mono ?_); rintro e w6 ⟨r6, rfl, hb6, hr6⟩; have Hr6 := Lib.hid hr6; have Hb6 := Lib.hid hb6; clear hb6 hr6))
        obtain ⟨hb, hhb⟩ : ∃ hb : Bool, (hb = true ↔ ∃ c ∈ L5, c.pol = 1 ∧ c.key = K2 ∧ serial ∈ c.held) := by
          by_cases h : ∃ c ∈ L5, c.pol = 1 ∧ c.key = K2 ∧ serial ∈ c.held
          · exact ⟨true, by simp [h]⟩
          · exact ⟨false, by simp [h]⟩
        have Hhb := Lib.hid hhb
        clear hhb
        go_cut [14] (fun v wx => v = .bool hb ∧ Below w6.heap.size w6 wx)
        case first =>
          have hc6 := Hc5.out.keep (fr0 Hb6.out)
          rcases Hr6.out with ⟨rfl, hno⟩ | ⟨i, hi, rfl, hi1, hi2⟩
          · have hf : hb = false := by
              cases hb with
              | false => rfl
              | true =>
                obtain ⟨c, h1, h2, h3, _⟩ := Hhb.out.1 rfl
                exact absurd ⟨h2, h3⟩ (hno c h1)
            subst hf
            clear hno hc6
            go_wp2_with fail
            go_meet
            exact ⟨rfl, Below.refl _ _⟩
          · obtain ⟨xs, xa, xc, hxs, rfl, _, _, hcl, hxo, hwf⟩ := hc6.parts
            have hix : i < xs.length := by rw [← hxs, List.length_map] at hi; exact hi
            obtain ⟨b, off, rfl, hcl2⟩ := hcl (by omega)
            obtain ⟨x0, x1, x2, x3⟩ := cell_at hcl2 i hix
            have hxi : xs[i].c = L5[i] := by simp only [← hxs, List.getElem_map]
            obtain ⟨ha, hc5, e2, hh1, hh2, hh3⟩ := (hxo xs[i] (List.getElem_mem hix)).2.ints
            rw [e2] at x3
            rw [hxi] at x3 hh1 hh3
            have hbd : hb = decide (serial ∈ L5[i].held) := by
              cases hb with
              | true =>
                obtain ⟨c, h1, h2, h3, h4⟩ := Hhb.out.1 rfl
                have : c = L5[i] := wf_one hwf h1 (List.getElem_mem hi) (by unfold cid; rw [h2, h3, hi1, hi2])
                rw [← this]
                exact (decide_eq_true h4).symm
              | false =>
                refine (decide_eq_false fun h4 => ?_).symm
                have := Hhb.out.2 ⟨L5[i], List.getElem_mem hi, hi1, hi2, h4⟩
                cases this
            have hil : xs.length ≤ 1048576 := by have := hwf.few; rw [← hxs, List.length_map] at this; exact this
            have hhl : L5[i].held.length ≤ 64 := (hwf.ok L5[i] (List.getElem_mem hi)).few
            have Hbd := Lib.hid hbd; have Hh3 := Lib.hid hh3
            clear hcl hcl2 hxi e2 hbd hh3 hxs hxo hwf x0 x1 x2 hi1 hi2 hc6
            generalize L5[i].held = HL at *
            generalize xs.length = xl at *
            clear hi
            go_wp2_with fail
            go_loopw [14, 70] (fun ov iv wr => ∃ k : Nat, iv = .int .i64 k ∧ k ≤ HL.length ∧ ov = .bool (decide (serial ∈ HL.take k)) ∧ Below w6.heap.size w6 wr) (fun _ iv _ => HL.length - (intOf iv).toNat)
            case atStart => exact ⟨0, rfl, Nat.zero_le _, by simp, Below.refl _ _⟩
            case round =>
              obtain ⟨k, rfl, hk, rfl, hbel⟩ := hrel
              have Hbel := Lib.hid hbel
              clear hbel
              by_cases hA : k < HL.length
              · obtain ⟨b', off', rfl, hcell⟩ := Hh3.out (by omega)
                have y0 := cell_later Hbel.out (hcell k hA)
                have hsn : decide (serial ∈ HL.take (k + 1)) = (decide (serial ∈ HL.take k) || decide (HL.getD k 0 = serial)) := by
                  rw [List.take_succ_eq_append_getElem hA, List.getD_eq_getElem?_getD, List.getElem?_eq_getElem hA, Option.getD_some]
                  have hiff : (serial ∈ HL.take k ++ [HL[k]]) ↔ (serial ∈ HL.take k ∨ HL[k] = serial) := by
                    rw [List.mem_append, List.mem_singleton]
                    exact or_congr Iff.rfl eq_comm
                  rw [decide_eq_decide.2 hiff, Bool.decide_or]
                have Hsn := Lib.hid hsn
                clear hcell hsn
                generalize HL.getD k 0 = e at *
                generalize decide (serial ∈ HL.take k) = acc at *
                cases acc with
                | true =>
                  go_wp2
                  go_roundw
                  case rel => exact ⟨k + 1, by go_num, by omega, by rw [Hsn.out]; rfl, Hbel.out⟩
                  case measure => simp [intOf]; omega
                | false =>
                  by_cases he : e = serial
                  · subst he
                    go_wp2
                    go_roundw
                    case rel => exact ⟨k + 1, by go_num, by omega, by rw [Hsn.out]; simp, Hbel.out⟩
                    case measure => simp [intOf]; omega
                  · go_wp2
                    go_roundw
                    case rel => exact ⟨k + 1, by go_num, by omega, by rw [Hsn.out]; simp [he], Hbel.out⟩
                    case measure => simp [intOf]; omega
              · obtain rfl : k = HL.length := by omega
                have hbd := Hbd.out
                have e : HL.take HL.length = HL := List.take_length
                rw [e, ← hbd]
                go_wp2
                go_meet
                exact ⟨rfl, Hbel.out⟩
        case rest =>
          obtain ⟨rfl, hbc⟩ := hcut
          have hb56 := below_then (below_then Hb5.out Hb6.out) hbc
          have hsc := Hsc.out.keep hb56
          have hkc := Hkc.out.keep (fr0 hb56)
          have hfc := Hfc.out.below Hsc.out.st.below.2.2.2 hb56
          have hL5 := Hc5.out.keep (fr0 (below_then Hb6.out hbc))
          have hww : Below w.heap.size w wc := hfc.later Hle.out (Hb1.out.trans (Hb2.out.mono Hle.out))
          have Hsy := Lib.hid (And.intro hsc (And.intro hkc (And.intro hfc (And.intro hL5 hww))))
          obtain ⟨r, s1, s2, pa1, pa2, pa3, pa4, pa5⟩ := forged_plain (tab_ok r0 r1) Hok.out (by have := Hq.out; omega) Hpd.out Hk2.out.1 Hk2.out.2 Hser.out
          have eT : tabL = A.list := HA.out.1.symm
          have eR : room = A.room := HA.out.2.1.symm
          have HT' : TabOk A.list A.room := by rw [← eT, ← eR]; exact tab_ok r0 r1
          have hgood : CallGood A.list (relC K2 serial) := by rw [← eT]; exact rel_good Hk2.out.1 Hk2.out.2 Hser.out
          have Ka1 : Hid (∀ W, SysAt W B A s.m s.pd → ByAt W (.slice qa K2.length qc) K2 → Calls Tryz.prog 11 #[P A.K, .int .i64 9, .agg #[.int .u8 3, .int .i64 1, .slice qa K2.length qc, .int .i64 serial]] W fun e w' => e = .returned (.tuple #[.agg (replyA r), .bool true]) ∧ SysAt w' B A s1.m s1.pd ∧ Fz B W w') := fun W h1 h2 => by
            refine (alone_any B A s q 9 (relC K2 serial) _ W r s1 h1 HT' (by rw [← eT, ← eR]; exact Hok.out) (by have := Hq.out; omega) (by decide) Hpd.out hgood h2 (by rw [← eT, ← eR]; exact pa1)).mono ?_
            rintro e w' ⟨he, hr⟩
            exact ⟨he, hr.sys h1 (by decide), hr.fz⟩
          have Ka2 : Hid (∀ W, SysAt W B A s1.m s1.pd → ByAt W (.slice qa K2.length qc) K2 → Calls Tryz.prog 11 #[P A.K, .int .i64 9, .agg #[.int .u8 3, .int .i64 1, .slice qa K2.length qc, .int .i64 serial]] W fun e w' => e = .returned (.tuple #[.agg (replyA (err 11)), .bool true]) ∧ Fz B W w') := fun W h1 h2 => by
            refine (alone_any B A s1 (q + 512) 9 (relC K2 serial) _ W (err 11) s2 h1 HT' (by rw [← eT, ← eR]; exact pa3) (by have := Hq.out; omega) (by decide) pa4 hgood h2 (by rw [← eT, ← eR]; exact pa2)).mono ?_
            rintro e w' ⟨he, hr⟩
            exact ⟨he, hr.fz⟩
          have hcase : (hb = true ∧ r.e = 0) ∨ (hb = false ∧ r = err 11 ∧ ∀ c, Has s1.m c ↔ Has s.m c) := by
            rcases pa5 with ⟨h1, c, h2, h3, h4, h5⟩ | ⟨h1, h2, h3⟩
            · exact .inl ⟨Hhb.out.2 ⟨c, (Hm5.out c).2 h2, h3, h4, h5⟩, h1⟩
            · refine .inr ⟨?_, h1, h2⟩
              cases hb with
              | false => rfl
              | true =>
                obtain ⟨c, g1, g2, g3, g4⟩ := Hhb.out.1 rfl
                exact absurd g4 (h3 c ((Hm5.out c).1 g1) g2 g3)
          have Hp3 := Lib.hid pa3
          have Hcase := Lib.hid hcase
          clear hbc hb56 hsc hkc hfc hL5 hww pa1 pa2 pa3 pa4 pa5 eT eR HT' hgood hcase
          go_upto_region 21 with (go_at_call 11; (with_reducible refine (Ka1.out _ Hsy.out.1 Hsy.out.2.1.by).mono ?_); rintro e w7 ⟨rfl, hs7, hf7⟩; have Hs7 := Lib.hid hs7; have Hf7 := Lib.hid hf7; clear hs7 hf7)
          refine wp_name (fun y => Below w7.heap.size w7 y ∧ Bx y w7.heap.size 35 (replyA r)) ⟨below_allocs [_] w7, Bx.new w7 _ _⟩ ?_
          rintro y ⟨hy, hbx⟩
          have Hy := Lib.hid (And.intro hy (And.intro (Hs7.out.keep hy) (Hf7.out.below Hs7.out.st.below.2.2.2 hy)))
          have Hbx := Lib.hid hbx
          clear hy hbx
          go_cut [113] (fun v wx => v = .bool false ∧ SysAt wx B A s1.m s1.pd ∧ Fz B wc wx)
          case first =>
            rcases Hcase.out with ⟨rfl, he⟩ | ⟨rfl, rfl, hsame⟩
            · have x0 : y.cell? ⟨w7.heap.size, 0, none⟩ = some (.int .i64 0) := by rw [← he]; exact Hbx.out.cell 0
              clear he
              go_wp2_with fail
              go_meet
              exact ⟨rfl, Hy.out.2.1, Hy.out.2.2⟩
            · have x0 : y.cell? ⟨w7.heap.size, 0, none⟩ = some (.int .i64 11) := Hbx.out.cell 0
              have x1 : y.cell? ⟨w7.heap.size, 1, none⟩ = some (.bool false) := Hbx.out.cell 1
              have x2 : y.cell? ⟨w7.heap.size, 2, none⟩ = some (.int .i64 0) := Hbx.out.cell 2
              have x3 : y.cell? ⟨w7.heap.size, 3, none⟩ = some (.int .i64 0) := Hbx.out.cell 3
              have x4 : y.cell? ⟨w7.heap.size, 4, none⟩ = some (.int .i64 0) := Hbx.out.cell 4
              have x5 : y.cell? ⟨w7.heap.size, 5, none⟩ = some (.int .i64 0) := Hbx.out.cell 5
              have eN := neq_reply
              have HL8 : Hid (∀ (L8 : List Cell) (W : World) (v8 : Value), CellsAt W v8 L8 → (∀ c, c ∈ L8 ↔ Has s1.m c) → CellsAt W v8 L5) := fun L8 W v8 h1 h2 => by
                have e : L8 = L5 := sorted_eq h1.wf.order Hc5.out.wf.order fun c => ((h2 c).trans (hsame c)).trans (Hm5.out c).symm
                rw [← e]
                exact h1
              clear hsame
              go_wp2_with (first
                | (go_at_call 9; (with_reducible refine (Kce.out _ s1 (q + 512) Hy.out.2.1 Hp3.out).mono ?_); rintro e w8 ⟨v8, L8, rfl, hc8, hm8, hb8⟩; have Hc8 := Lib.hid (HL8.out L8 _ _ hc8 hm8); have Hb8 := Lib.hid (And.intro hb8 (And.intro (Hy.out.2.1.keep hb8) (Hy.out.2.2.below Hy.out.2.1.st.below.2.2.2 hb8))); clear hc8 hm8 hb8)
                | (go_at_call 12; (refine (same16_any _ _ L5 _ Hc8.out (((Hsy.out.2.2.2.1).kz5 Hf7.out).keep (fr0 (below_then Hy.out.1 Hb8.out.1)))).mono ?_); rintro e w9 ⟨rfl, hb9⟩; have Hb9 := Lib.hid hb9; clear hb9))
              go_meet
              exact ⟨rfl, Hb8.out.2.1.keep Hb9.out, Hb8.out.2.2.below Hb8.out.2.1.st.below.2.2.2 Hb9.out⟩
          case rest =>
            obtain ⟨rfl, hs1, hf1⟩ := hcut
            have hk1 := (Hsy.out.2.1.kz5 hf1).by
            have hw1 := hf1.later Hle.out Hsy.out.2.2.2.2
            have Hs1 := Lib.hid (And.intro hs1 (And.intro hk1 hw1))
            clear hs1 hf1 hk1 hw1
            have eE := eql_reply
            go_upto_region 24 with (go_at_call 11; (with_reducible refine (Ka2.out _ Hs1.out.1 Hs1.out.2.1).mono ?_); rintro e wz ⟨rfl, hfz2⟩; have Hz := Lib.hid (hfz2.later Hle.out Hs1.out.2.2); clear hfz2)
            refine wp_name (fun y => Below w.heap.size w y ∧ Bx y wz.heap.size 35 (replyA (err 11))) ⟨Hz.out.trans ((below_allocs [_] wz).mono Hz.out.size), Bx.new wz _ _⟩ ?_
            rintro y2 ⟨hy, hbx⟩
            have Hy2 := Lib.hid hy
            have x0 : y2.cell? ⟨wz.heap.size, 0, none⟩ = some (.int .i64 11) := hbx.cell 0
            have x1 : y2.cell? ⟨wz.heap.size, 1, none⟩ = some (.bool false) := hbx.cell 1
            have x2 : y2.cell? ⟨wz.heap.size, 2, none⟩ = some (.int .i64 0) := hbx.cell 2
            have x3 : y2.cell? ⟨wz.heap.size, 3, none⟩ = some (.int .i64 0) := hbx.cell 3
            have x4 : y2.cell? ⟨wz.heap.size, 4, none⟩ = some (.int .i64 0) := hbx.cell 4
            have x5 : y2.cell? ⟨wz.heap.size, 5, none⟩ = some (.int .i64 0) := hbx.cell 5
            clear hy hbx
            go_wp2_with fail
            exact bodyPost_ret (v := .bool true) (by simp [results, Tryz.results3, go_sem]) rfl ⟨rfl, Hy2.out⟩
end Go.Proofs.YtemnhpdjoimjbaaGreat
