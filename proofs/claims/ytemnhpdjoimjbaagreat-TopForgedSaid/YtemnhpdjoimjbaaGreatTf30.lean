import Derived.Test.YtemnhpdjoimjbaaGreatTf29
import Derived.StillTailTactics
section
namespace Go.Proofs.YtemnhpdjoimjbaaGreat
open Go.RowKit Top
set_option linter.unusedVariables false
set_option maxHeartbeats 2000000 in
set_option maxRecDepth 100000 in
theorem allow_book (p : Pol) (c : Cell) (kv hv : Value) (now n : Int) (w : World) (hk : KeyAt w kv c.key) (hh : HeldAt w hv c.held) (ok : CellOk c) (hp : PolOk p) (hkind : p.kind = 1) (n0 : 0 ≤ now) (n1 : now ≤ 4611686018427387903) (k0 : 0 ≤ n) (k1 : n ≤ 4611686018427387903) :
    Calls Tryz.prog 141 #[.agg (polA p), .agg (cellA c kv hv), .int .i64 now, .int .i64 n] w fun e w' => e = .returned (.tuple #[.agg (replyA ⟨0, decG p.T p.tau c.tat now n, decLeft p.T p.tau c.tat now n, decWait p.T p.tau c.tat now n, 0, now⟩), .agg (cellA { c with tat := decTat p.T p.tau c.tat now n } kv hv)]) ∧ Below w.heap.size w w' := by
  obtain ⟨ka, kc, rfl⟩ : ∃ a c', kv = .slice a c.key.length c' := by obtain ⟨_, _, a, c', e, _⟩ := hk; exact ⟨a, c', e⟩
  obtain ⟨ha, hc, rfl⟩ : ∃ a c', hv = .slice a c.held.length c' := by obtain ⟨_, a, c', e, _⟩ := hh; exact ⟨a, c', e⟩
  have Kd : Hid (∀ W : World, Calls Tryz.prog 163 #[.agg #[.int .i64 p.T, .int .i64 p.tau], .int .i64 c.tat, .int .i64 now, .int .i64 n] W fun e w' => e = .returned (.tuple #[.agg #[.bool (decG p.T p.tau c.tat now n), .int .i64 (decTat p.T p.tau c.tat now n), .int .i64 (decWait p.T p.tau c.tat now n), .int .i64 (decLeft p.T p.tau c.tat now n)], .int .i64 0]) ∧ Below W.heap.size W w') := fun W => gDecide_yes p.T p.tau c.tat now n W (pol_limB hp hkind) (tickB_mk ok.tat0 ok.tat1) (tickB_mk n0 n1) (tickB_mk k0 k1)
  clear hk hh ok hp hkind n0 n1 k0 k1
  generalize decG p.T p.tau c.tat now n = dg at *
  generalize decTat p.T p.tau c.tat now n = dt at *
  generalize decWait p.T p.tau c.tat now n = dw at *
  generalize decLeft p.T p.tau c.tat now n = dl at *
  go_enter Tryz.func141, Tryz.ntmps141
  go_wp2_with fail
  refine calls_name (fun u => Below w.heap.size w u ∧ Bx u w.heap.size 77 #[.int .u8 (p.kind : Nat), .int .i64 p.T, .int .i64 p.tau, .int .i64 p.permits] ∧ Bx u (w.heap.size + 1) 45 #[.int .i64 c.pol, .slice ka c.key.length kc, .int .i64 c.tat, .slice ha c.held.length hc] ∧ Bx u (w.heap.size + 1 + 1) 35 #[.int .i64 0, .bool false, .int .i64 0, .int .i64 0, .int .i64 0, .int .i64 0] ∧ Bx u (w.heap.size + 1 + 1 + 1) 45 #[.int .i64 0, .slice none 0 0, .int .i64 0, .slice none 0 0]) ⟨below_allocs [_, _, _, _] w, bx_allocs w [_, _, _, _] 0 rfl, bx_allocs w [_, _, _, _] 1 rfl, bx_allocs w [_, _, _, _] 2 rfl, bx_allocs w [_, _, _, _] 3 rfl⟩ ?_
  rintro W0 ⟨hb0, hp0, hc0, hr0, hd0⟩
  (with_reducible refine (Kd.out W0).mono ?_)
  rintro e w1 ⟨rfl, hb1⟩
  have hp1 := hp0.below hb1 hp0.lt; have hc1 := hc0.below hb1 hc0.lt; have hr1 := hr0.below hb1 hr0.lt; have hd1 := hd0.below hb1 hd0.lt
  have hbw := hb0.trans (hb1.mono hb0.size)
  have hs1 : w.heap.size ≤ w1.heap.size := hbw.size
  have c0 := hc1.cell 0; have c1 := hc1.cell 1; have c2 := hc1.cell 2; have c3 := hc1.cell 3; have cf0 := hc1.free 0; have cf1 := hc1.free 1; have cf2 := hc1.free 2; have cf3 := hc1.free 3
  have hlt1 : w.heap.size + 1 < w1.heap.size := hc1.lt
  go_wp2_with fail
  refine wp_name (fun u => Below w.heap.size w u ∧ Bx u w.heap.size 77 #[.int .u8 (p.kind : Nat), .int .i64 p.T, .int .i64 p.tau, .int .i64 p.permits] ∧ Bx u (w.heap.size + 1) 45 #[.int .i64 c.pol, .slice ka c.key.length kc, .int .i64 dt, .slice ha c.held.length hc] ∧ Bx u (w.heap.size + 1 + 1) 35 #[.int .i64 0, .bool false, .int .i64 0, .int .i64 0, .int .i64 0, .int .i64 0] ∧ Bx u (w.heap.size + 1 + 1 + 1) 45 #[.int .i64 0, .slice none 0 0, .int .i64 0, .slice none 0 0] ∧ Bx u w1.heap.size 239 #[.bool dg, .int .i64 dt, .int .i64 dw, .int .i64 dl]) ⟨(hbw.setCell (p := ⟨w.heap.size + 1, 2, none⟩) (Nat.le_succ _) _).alloc (by simpa [World.setCell] using hs1) _, (hp1.setCell_ne ⟨w.heap.size + 1, 2, none⟩ _ (by show _ ≠ w.heap.size + 1; omega)).alloc _, (hc1.setCell 2 _).alloc _, (hr1.setCell_ne ⟨w.heap.size + 1, 2, none⟩ _ (by show _ ≠ w.heap.size + 1; omega)).alloc _, (hd1.setCell_ne ⟨w.heap.size + 1, 2, none⟩ _ (by show _ ≠ w.heap.size + 1; omega)).alloc _, Bx.newq _ _ (by simp [World.setCell])⟩ ?_
  clear c0 c1 c2 c3 cf0 cf1 cf2 cf3 hlt1
  rintro y ⟨hby, hpy, hcy, hry, hdy, hay⟩
  have p0 := hpy.cell 0; have p1 := hpy.cell 1; have p2 := hpy.cell 2; have p3 := hpy.cell 3; have c0 := hcy.cell 0; have c1 := hcy.cell 1; have c2 := hcy.cell 2; have c3 := hcy.cell 3; have r0 := hry.cell 0; have r1 := hry.cell 1; have r2 := hry.cell 2; have r3 := hry.cell 3; have r4 := hry.cell 4; have r5 := hry.cell 5; have rf0 := hry.free 0; have rf1 := hry.free 1; have rf2 := hry.free 2; have rf3 := hry.free 3; have rf4 := hry.free 4; have rf5 := hry.free 5; have d0 := hdy.cell 0; have d1 := hdy.cell 1; have d2 := hdy.cell 2; have d3 := hdy.cell 3; have df0 := hdy.free 0; have df1 := hdy.free 1; have df2 := hdy.free 2; have df3 := hdy.free 3; have a0 := hay.cell 0; have a1 := hay.cell 1; have a2 := hay.cell 2; have a3 := hay.cell 3
  have Hby := Lib.hid hby
  clear hby hpy hcy hry hdy hay hb0 hp0 hc0 hr0 hd0 hb1 hp1 hc1 hr1 hd1 hbw hs1
  go_region
  all_goals
    go_wp2_with fail
    refine bodyPost_ret (v := .tuple #[.agg (replyA ⟨0, dg, dl, dw, 0, now⟩), .agg (cellA { c with tat := dt } (.slice ka c.key.length kc) (.slice ha c.held.length hc))]) (by simp [results, Tryz.results141, go_sem, r0, r1, r2, r3, r4, r5, d0, d1, d2, d3]) rfl ⟨rfl, ?_⟩
    with_reducible exact (bel_two Hby.out (Nat.le_trans (Nat.le_succ _) (Nat.le_succ _)) (Nat.le_trans (Nat.le_succ _) (Nat.le_trans (Nat.le_succ _) (Nat.le_succ _))) _ _ _ _ _ _ _ _ _ _).drew
theorem bel_six {w0 w : World} {B b : Nat} (h : Below B w0 w) (hb : B ≤ b) (a0 a1 a2 a3 a4 a5 : Value) : Below B w0 ((((((w.setCell ⟨b, 0, none⟩ a0).setCell ⟨b, 1, none⟩ a1).setCell ⟨b, 2, none⟩ a2).setCell ⟨b, 3, none⟩ a3).setCell ⟨b, 4, none⟩ a4).setCell ⟨b, 5, none⟩ a5) :=
  (((((h.setCell (p := ⟨b, 0, none⟩) hb a0).setCell (p := ⟨b, 1, none⟩) hb a1).setCell (p := ⟨b, 2, none⟩) hb a2).setCell (p := ⟨b, 3, none⟩) hb a3).setCell (p := ⟨b, 4, none⟩) hb a4).setCell (p := ⟨b, 5, none⟩) hb a5
set_option maxHeartbeats 2000000 in
set_option maxRecDepth 100000 in
theorem peek_book (p : Pol) (c : Cell) (kv hv : Value) (now : Int) (w : World) (hk : KeyAt w kv c.key) (hh : HeldAt w hv c.held) (ok : CellOk c) (hp : PolOk p) (n0 : 0 ≤ now) (n1 : now ≤ 4611686018427387903) :
    Calls Tryz.prog 114 #[.agg (polA p), .agg (cellA c kv hv), .int .i64 now] w fun e w' => e = .returned (.agg (replyA (peekF BlV p c now))) ∧ Below w.heap.size w w' := by
  obtain ⟨ka, kc, rfl⟩ : ∃ a c', kv = .slice a c.key.length c' := by obtain ⟨_, _, a, c', e, _⟩ := hk; exact ⟨a, c', e⟩
  obtain ⟨ha, hc, rfl⟩ : ∃ a c', hv = .slice a c.held.length c' := by obtain ⟨_, a, c', e, _⟩ := hh; exact ⟨a, c', e⟩
  have hfew := ok.few
  by_cases hkind : p.kind = 2
  · have hF : peekF BlV p c now = ⟨0, false, p.permits - c.held.length, 0, 0, 0⟩ := by unfold peekF; rw [if_pos hkind]
    rw [hF]
    have hpm : 1 ≤ p.permits ∧ p.permits ≤ 64 := by rcases hp with h | h; omega; exact ⟨h.2.1, h.2.2⟩
    have hw64 : IntKind.i64.wrap (p.permits - (c.held.length : Int)) = p.permits - (c.held.length : Int) := by rw [IntKind.wrap_i64]; omega
    have hk2 : (p.kind : Int) = 2 := by omega
    clear hF hk hh ok hp hkind
    go_enter Tryz.func114, Tryz.ntmps114
    go_wp2_with fail
    exact bodyPost_ret (v := .agg (replyA ⟨0, false, p.permits - c.held.length, 0, 0, 0⟩)) (by simp [results, Tryz.results114, go_sem]) rfl ⟨rfl, below_allocs [_, _, _] w⟩
  · have hk1 : p.kind = 1 := by rcases hp with h | h; exact h.1; omega
    have hF : peekF BlV p c now = ⟨0, false, leftI p.T p.tau c.tat now, clampI (c.tat - now), 0, now⟩ := by unfold peekF; rw [if_neg hkind]; rfl
    rw [hF]
    have hl := pol_limB hp hk1
    have Kl : Hid (∀ W : World, Calls Tryz.prog 152 #[.agg #[.int .i64 p.T, .int .i64 p.tau], .int .i64 c.tat, .int .i64 now] W fun e w' => e = .returned (.tuple #[.int .i64 (leftI p.T p.tau c.tat now), .int .i64 0]) ∧ Below W.heap.size W w') := fun W => gLeft_any p.T p.tau c.tat now (leftI p.T p.tau c.tat now) W true (by simp [hl, tickB_mk ok.tat0 ok.tat1, tickB_mk n0 n1]) (fun _ => rfl) (fun h => by cases h)
    have Ks : Hid (∀ W : World, Calls Tryz.prog 153 #[.int .i64 c.tat, .int .i64 now] W fun e w' => e = .returned (.tuple #[.int .i64 (clampI (c.tat - now)), .int .i64 0]) ∧ W = w') := fun W => sub_yes c.tat now W (tickB_mk ok.tat0 ok.tat1) (tickB_mk n0 n1)
    have hk2 : ¬ (p.kind : Int) = 2 := by omega
    clear hF hk hh ok hp hkind hl hk1
    generalize leftI p.T p.tau c.tat now = li at *
    generalize clampI (c.tat - now) = si at *
    go_enter Tryz.func114, Tryz.ntmps114
    go_wp2_with fail
    refine calls_name (fun u => Below w.heap.size w u ∧ Bx u w.heap.size 77 #[.int .u8 (p.kind : Nat), .int .i64 p.T, .int .i64 p.tau, .int .i64 p.permits] ∧ Bx u (w.heap.size + 1) 45 #[.int .i64 c.pol, .slice ka c.key.length kc, .int .i64 c.tat, .slice ha c.held.length hc] ∧ Bx u (w.heap.size + 1 + 1) 35 #[.int .i64 0, .bool false, .int .i64 0, .int .i64 0, .int .i64 0, .int .i64 0]) ⟨below_allocs [_, _, _] w, bx_allocs w [_, _, _] 0 rfl, bx_allocs w [_, _, _] 1 rfl, bx_allocs w [_, _, _] 2 rfl⟩ ?_
    rintro W0 ⟨hb0, hp0, hc0, hr0⟩
    (with_reducible refine (Kl.out W0).mono ?_)
    rintro e w1 ⟨rfl, hb1⟩
    have hc1 := hc0.below hb1 hc0.lt; have hr1 := hr0.below hb1 hr0.lt
    have hbw := hb0.trans (hb1.mono hb0.size)
    have c0 := hc1.cell 0; have c1 := hc1.cell 1; have c2 := hc1.cell 2; have c3 := hc1.cell 3; have r0 := hr1.cell 0; have r1 := hr1.cell 1; have r2 := hr1.cell 2; have r3 := hr1.cell 3; have r4 := hr1.cell 4; have r5 := hr1.cell 5; have rf0 := hr1.free 0; have rf1 := hr1.free 1; have rf2 := hr1.free 2; have rf3 := hr1.free 3; have rf4 := hr1.free 4; have rf5 := hr1.free 5
    have Hbw := Lib.hid hbw
    clear hb0 hp0 hc0 hr0 hb1 hc1 hr1 hbw
    go_wp2_with (go_at_call 153; (with_reducible refine (Ks.out _).mono ?_); rintro e w2 ⟨rfl, rfl⟩)
    refine bodyPost_ret (v := .agg (replyA ⟨0, false, li, si, 0, now⟩)) (by simp [results, Tryz.results114, go_sem, r0, r1, r2, r3, r4, r5]) rfl ⟨rfl, ?_⟩
    with_reducible exact bel_six Hbw.out (Nat.le_trans (Nat.le_succ _) (Nat.le_succ _)) _ _ _ _ _ _
/-- The books, as the plain model has them. -/
theorem books_V : Books BlV where
  with_ := with_any
  peek := peek_book
  allow := fun p c kv hv now n w hk hh ok hp hkind n0 n1 k0 k1 => (allow_book p c kv hv now n w hk hh ok hp hkind n0 n1 k0 k1).mono fun e w' ⟨h1, h2⟩ => ⟨h1, by
    have ht := sound_V.tat p c.tat now n hp hkind ok.tat0 ok.tat1 n0 n1 k0 k1
    exact ⟨ok.pol0, ok.pol1, ok.len, ok.bytes, ht.1, ht.2, ok.held0, ok.rises, ok.few⟩, h2⟩
  acquire := fun p c kv hv serial w hk hh ok hp hkind _ _ => acquire_book p c kv hv serial w hk hh ok hp hkind
  release := fun p c kv hv serial w hk hh ok hp hkind _ _ => release_book p c kv hv serial w hk hh ok hp hkind
  find := find_book
end Go.Proofs.YtemnhpdjoimjbaaGreat
end
section
namespace Go.Proofs.YtemnhpdjoimjbaaGreat
open Go.RowKit Top
set_option linter.unusedVariables false
theorem pol_get : ∀ (L : List Pol) (i k : Nat) (h : i < L.length), k < 4 → (L.flatMap polEnc)[4 * i + k]? = (polEnc L[i])[k]?
  | [], i, k, h, _ => by simp at h
  | x :: L, 0, k, h, hk => by
    rw [List.flatMap_cons, Nat.mul_zero, Nat.zero_add, List.getElem?_append_left (by simpa [polEnc] using hk)]
    rfl
  | x :: L, i + 1, k, h, hk => by
    rw [List.flatMap_cons, List.getElem?_append_right (by simp [polEnc]; omega)]
    have e : 4 * (i + 1) + k - (polEnc x).length = 4 * i + k := by simp [polEnc]; omega
    rw [e, pol_get L i k (by simpa using h) hk]
    simp
theorem pol_at {w : World} {a : Option Addr} {n c : Nat} {L : List Pol} (h : PolsAt w (.slice a n c) L) (k : Nat) (hk : k < L.length) : n = L.length ∧ ∃ b off, a = some ⟨b, off, none⟩ ∧ w.cell? ⟨b, off + k * 4, none⟩ = some (.int .u8 (L[k].kind : Nat)) := by
  obtain ⟨h1, h2, h3, h4⟩ := Row.cells h
  obtain ⟨b, off, h5, h6⟩ := h4 (by omega)
  refine ⟨h1, b, off, h5, ?_⟩
  have := h6 (4 * k + 0) _ (pol_get L k 0 hk (by decide))
  rwa [show off + (4 * k + 0) = off + k * 4 by omega] at this
set_option maxHeartbeats 2000000 in
set_option maxRecDepth 100000 in
theorem idle_book (list : List Pol) (lv : Value) (c : Cell) (kv hv : Value) (now : Int) (w : World) (hl : PolsAt w lv list) (hk : ∃ a n c, kv = .slice a n c) (hh : HeldAt w hv c.held) (hf : c.held.length ≤ 64) (p0 : 0 ≤ c.pol) (p1 : c.pol < list.length) :
    Calls Tryz.prog 104 #[lv, .agg (cellA c kv hv), .int .i64 now] w fun e w' => e = .returned (.bool (idleF list c now)) ∧ Below w.heap.size w w' := by
  obtain ⟨ka, kn, kc, rfl⟩ := hk
  obtain ⟨ha, hc, rfl⟩ : ∃ a c', hv = .slice a c.held.length c' := by obtain ⟨_, a, c', e, _⟩ := hh; exact ⟨a, c', e⟩
  obtain ⟨la, lc, rfl⟩ : ∃ a c', lv = .slice a list.length c' := by obtain ⟨_, a, c', e, _⟩ := hl; exact ⟨a, c', e⟩
  obtain ⟨p, hp⟩ : ∃ p : Nat, c.pol = (p : Int) := ⟨c.pol.toNat, by omega⟩
  have hpl : p < list.length := by omega
  obtain ⟨_, b, off, rfl, hc0⟩ := pol_at hl p hpl
  have hbl : b < w.heap.size := World.block_lt_of_cell? _ _ hc0
  have hkd : list.getD c.pol.toNat default = list[p] := by rw [hp, Int.toNat_natCast, List.getD_eq_getElem?_getD, List.getElem?_eq_getElem hpl]; rfl
  have hI : idleF list c now = if list[p].kind = 2 then c.held.isEmpty else decide (c.tat ≤ now) := by unfold idleF; rw [hkd]
  rw [hI]
  obtain ⟨cp, ck, ct, ch⟩ := c
  dsimp only at hp hf
  subst hp
  clear hI hkd hl hh p0 p1
  generalize list[p].kind = kd at *
  by_cases hz : kd = 2
  · subst hz
    rw [if_pos rfl]
    go_enter Tryz.func104, Tryz.ntmps104
    go_wp2_with fail
    exact bodyPost_ret (v := .bool ch.isEmpty) (by cases ch <;> simp [results, Tryz.results104, go_sem] <;> omega) rfl ⟨rfl, below_allocs [_] w⟩
  · rw [if_neg hz]
    have hz' : ¬ (kd : Int) = 2 := by omega
    go_enter Tryz.func104, Tryz.ntmps104
    go_wp2_with fail
    exact bodyPost_ret (v := .bool (decide (ct ≤ now))) (by simp [results, Tryz.results104, go_sem]) rfl ⟨rfl, below_allocs [_] w⟩
set_option maxHeartbeats 2000000 in
set_option maxRecDepth 100000 in
theorem evict_ask (E : Env) (bx bn : Nat) (c : Cell) (kv hv lv : Value) (now : Int) (w : World) (hx : Bx w bx 129 #[P E.x]) (hcall : w.cell? ⟨E.x, 4, none⟩ = some (P E.A.K)) (hcore : w.cell? ⟨E.A.K, 0, none⟩ = some lv) (hl : PolsAt w lv E.A.list) (hn : Bx w bn 2 #[.int .i64 now]) (hk : ∃ a n c, kv = .slice a n c) (hh : HeldAt w hv c.held) (hf : c.held.length ≤ 64) (p0 : 0 ≤ c.pol) (p1 : c.pol < E.A.list.length) (hE : E.x < w.heap.size) (hK : E.A.K < w.heap.size) :
    Calls Tryz.prog 103 #[.agg (cellA c kv hv), P bx, P bn] w fun e w' => e = .returned (.bool (idleF E.A.list c now)) ∧ Below w.heap.size w w' := by
  obtain ⟨ka, kn, kc, rfl⟩ := hk
  obtain ⟨ha, hc, rfl⟩ : ∃ a c', hv = .slice a c.held.length c' := by obtain ⟨_, a, c', e, _⟩ := hh; exact ⟨a, c', e⟩
  obtain ⟨la, lc, rfl⟩ : ∃ a c', lv = .slice a E.A.list.length c' := by obtain ⟨_, a, c', e, _⟩ := hl; exact ⟨a, c', e⟩
  have x0 := hx.at0; have n0 := hn.at0
  have hbx := hx.lt; have hbn := hn.lt
  have Ki : Hid (∀ W : World, Below w.heap.size w W → Calls Tryz.prog 104 #[.slice la E.A.list.length lc, .agg (cellA c (.slice ka kn kc) (.slice ha c.held.length hc)), .int .i64 now] W fun e w' => e = .returned (.bool (idleF E.A.list c now)) ∧ Below W.heap.size W w') := fun W hb => idle_book E.A.list _ c _ _ now W (hl.keep (fr0 hb)) ⟨_, _, _, rfl⟩ (hh.keep (fr0 hb)) hf p0 p1
  clear hl hh hf p0 p1 hx hn
  generalize idleF E.A.list c now = ans at *
  go_enter Tryz.func103, Tryz.ntmps103
  go_wp2_with fail
  refine wp_name (fun u => Below w.heap.size w u ∧ Bx u w.heap.size 45 (cellA c (.slice ka kn kc) (.slice ha c.held.length hc)) ∧ u.cell? ⟨bx, 0, none⟩ = some (P E.x) ∧ u.cell? ⟨E.x, 4, none⟩ = some (P E.A.K) ∧ u.cell? ⟨E.A.K, 0, none⟩ = some (.slice la E.A.list.length lc) ∧ u.cell? ⟨bn, 0, none⟩ = some (.int .i64 now)) ⟨below_allocs [_] w, Bx.new _ _ _, cell_later (below_allocs [_] w) x0, cell_later (below_allocs [_] w) hcall, cell_later (below_allocs [_] w) hcore, cell_later (below_allocs [_] w) n0⟩ ?_
  rintro y ⟨hby, hcy, y0, y1, y2, y3⟩
  have c0 := hcy.cell 0; have c1 := hcy.cell 1; have c2 := hcy.cell 2; have c3 := hcy.cell 3
  have Hby := Lib.hid hby
  clear hby hcy x0 n0 hcall hcore
  go_still_tail 9, (by kernel_rfl)
  change wpList _ _ _ _ _ y.drew
  go_wp2_with (go_at_call 104; (with_reducible refine (Ki.out _ Hby.out.drew).mono ?_); rintro e w2 ⟨rfl, hb2⟩; have Hb2 := Lib.hid hb2; clear hb2)
  exact bodyPost_ret (v := .bool ans) (by simp [results, Tryz.results103, go_sem]) rfl ⟨rfl, Hby.out.drew.trans (Hb2.out.mono Hby.out.drew.size)⟩
end Go.Proofs.YtemnhpdjoimjbaaGreat
end
section
namespace Go.Proofs.YtemnhpdjoimjbaaGreat
open Go.RowKit Top
set_option linter.unusedVariables false
/-- The place of the first that is to go. -/
def firstGo (q : CV → Bool) (xs : List CV) : Nat := (xs.takeWhile fun x => !q x).length
theorem first_take {q : CV → Bool} : ∀ {xs : List CV} {k : Nat}, k ≤ xs.length → (∀ j (h : j < k) (h' : j < xs.length), q xs[j] = false) → k ≤ firstGo q xs
  | [], k, h, _ => by simp at h; omega
  | x :: xs, 0, _, _ => Nat.zero_le _
  | x :: xs, k + 1, h, hq => by
    have h0 := hq 0 (by omega) (by simp)
    have ih := first_take (q := q) (xs := xs) (k := k) (by simpa using h) (fun j hj hj' => by have := hq (j + 1) (by omega) (by simpa using hj'); simpa using this)
    unfold firstGo at ih ⊢
    rw [List.takeWhile_cons]
    simp only [List.getElem_cons_zero] at h0
    rw [h0]
    simpa using ih
theorem first_at {q : CV → Bool} : ∀ {xs : List CV} {k : Nat} (h : k < xs.length), (∀ j (h : j < k) (h' : j < xs.length), q xs[j] = false) → q xs[k] = true → firstGo q xs = k
  | [], k, h, _, _ => by simp at h
  | x :: xs, 0, _, _, hk => by
    simp only [List.getElem_cons_zero] at hk
    unfold firstGo
    rw [List.takeWhile_cons, hk]
    rfl
  | x :: xs, k + 1, h, hq, hk => by
    have h0 := hq 0 (by omega) (by simp)
    simp only [List.getElem_cons_zero] at h0
    have ih := first_at (q := q) (xs := xs) (k := k) (by simpa using h) (fun j hj hj' => by have := hq (j + 1) (by omega) (by simpa using hj'); simpa using this) (by simpa using hk)
    unfold firstGo at ih ⊢
    rw [List.takeWhile_cons, h0]
    simpa using ih
set_option maxHeartbeats 2000000 in
set_option maxRecDepth 100000 in
theorem index_any (xs : List CV) (q : CV → Bool) (fv : FuncId) (lb : Array Value) (base : Nat) (a : Option Addr) (c : Nat) (w : World) (hef : ∀ args w, (callFunc fv args).run Tryz.prog w = .ok (.enter fv args) w) (hc2 : xs.length ≤ 1048576) (hcell : ∀ W, Below w.heap.size w W → 0 < xs.length → ∃ b off, a = some ⟨b, off, none⟩ ∧ ∀ j u, (encs xs)[j]? = some u → W.cell? ⟨b, off + j, none⟩ = some u) (hcc : xs.length ≤ c)
    (hsl : ∀ x ∈ xs, (∃ a n c, x.kv = .slice a n c) ∧ ∃ a n c, x.hv = .slice a n c)
    (hq : ∀ x ∈ xs, ∀ W, Below base w W → Calls Tryz.prog fv (#[.agg (cellA x.c x.kv x.hv)] ++ lb) W fun e w' => e = .returned (.bool (q x)) ∧ Below W.heap.size W w') (hB : base ≤ w.heap.size) (r : Int) (hr : r = if firstGo q xs = xs.length then (-1 : Int) else ((firstGo q xs : Nat) : Int)) :
    Calls Tryz.prog 136 #[.slice a xs.length c, .func (.func fv) #[] lb] w fun e w' => e = .returned (.int .i64 r) ∧ Below w.heap.size w w' := by
  have Hr := Lib.hid hr
  clear hr
  have Hcell := Lib.hid hcell; have Hq := Lib.hid hq; have Hsl := Lib.hid hsl
  clear hcell hq hsl
  go_enter Tryz.func136, Tryz.ntmps136
  go_wp2
  go_loopw [5, 8] (fun _ i wr => ∃ k : Nat, i = .int .i64 k ∧ k ≤ xs.length ∧ (∀ j (h : j < k) (h' : j < xs.length), q xs[j] = false) ∧ Below w.heap.size w wr) (fun _ i _ => xs.length - (intOf i).toNat)
  case atStart => exact ⟨0, rfl, Nat.zero_le _, fun j h => absurd h (by omega), Below.refl _ _⟩
  case round =>
    obtain ⟨k, rfl, hk, hno, hbel⟩ := hrel
    have Hbel := Lib.hid hbel; have Hno := Lib.hid hno
    clear hbel hno
    by_cases hA : k < xs.length
    · obtain ⟨b, off, rfl, hcl⟩ := Hcell.out wr Hbel.out (by omega)
      obtain ⟨x0, x1, x2, x3⟩ := cell_at hcl k hA
      have KQ := Lib.hid (Hq.out xs[k] (List.getElem_mem hA))
      obtain ⟨⟨qa, qn, qc, e1⟩, qa', qn', qc', e2⟩ := Hsl.out xs[k] (List.getElem_mem hA)
      rw [e1] at x1
      rw [e2] at x3
      rw [e1, e2] at KQ
      have Hat := Lib.hid (fun h => first_at (q := q) hA Hno.out h)
      have Hnx : Hid (q xs[k] = false → ∀ j (h : j < k + 1) (h' : j < xs.length), q xs[j] = false) := fun h j hj hj' => by
        by_cases e : j = k
        · subst e; exact h
        · exact Hno.out j (by omega) hj'
      clear hcl e1 e2
      generalize q xs[k] = ans at *
      generalize xs[k].c = cc at *
      obtain ⟨pol, key, tat, held⟩ := cc
      cases ans with
      | true =>
        have hF := Hat.out rfl
        have hne : ¬ firstGo q xs = xs.length := by omega
        have Hres := Lib.hid (show r = (k : Nat) by rw [Hr.out, if_neg hne, hF])
        clear hF hne
        go_wp2_with (go_at_fn fv; (refine (KQ.out wr (Hbel.out.mono hB)).mono ?_); rintro e w2 ⟨rfl, hb2⟩; have Hb2 := Lib.hid hb2; clear hb2)
        exact bodyPost_ret (v := .int .i64 r) (by rw [Hres.out]; simp [results, Tryz.results136, go_sem]) rfl ⟨rfl, Hbel.out.trans (Hb2.out.mono Hbel.out.size)⟩
      | false =>
        go_wp2_with (go_at_fn fv; (refine (KQ.out wr (Hbel.out.mono hB)).mono ?_); rintro e w2 ⟨rfl, hb2⟩; have Hb2 := Lib.hid hb2; clear hb2)
        go_roundw
        case rel => exact ⟨k + 1, by go_num, by omega, Hnx.out trivial, Hbel.out.trans (Hb2.out.mono Hbel.out.size)⟩
        case measure => simp [intOf]; omega
    · obtain rfl : k = xs.length := by omega
      have hF : firstGo q xs = xs.length := Nat.le_antisymm (by unfold firstGo; exact (List.takeWhile_prefix _).length_le) (first_take (Nat.le_refl _) Hno.out)
      have Hres := Lib.hid (show r = -1 by rw [Hr.out, if_pos hF])
      clear hF
      go_wp2
      exact bodyPost_ret (v := .int .i64 r) (by rw [Hres.out]; simp [results, Tryz.results136, go_sem]) rfl ⟨rfl, Hbel.out⟩
end Go.Proofs.YtemnhpdjoimjbaaGreat
end
