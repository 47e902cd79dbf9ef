import Derived.Test.YtemnhpdjoimjbaaGreatTf40
import Derived.Laws.EntriesVeiled
import Derived.Test.YtemnhpdjoimjbaaGreatTf15
section
namespace Go.Proofs.YtemnhpdjoimjbaaGreat
open Go.RowKit Top
set_option linter.unusedVariables false
/-- The parts of a limiter, but its own block. -/
structure Parts (w : World) (B lb bd M W H : Nat) : Prop where
  raw : Raw w B W M H
  lanes : Bx w lb 105 #[P bd, .func (.func 20) #[] #[]]
  board : Bx w bd 102 #[P M, .slice (some ⟨H, 0, none⟩) 34 34]
  ge : B ≤ lb ∧ B ≤ bd ∧ B ≤ M ∧ B ≤ W ∧ B ≤ H
theorem Keeps.belowBase {S : Nat → Prop} {a w w' : World} {n : Nat} (h : Below n a w) (k : Keeps S w w') (hn : n ≤ w.heap.size) (hS : ∀ i, S i → n ≤ i) : Below n a w' :=
  ⟨k.os.trans h.os, k.tape.trans h.tape, k.output.trans h.output, Nat.le_trans h.size k.size, fun i hi => (k.block i (by omega) (fun hs => by have := hS i hs; omega)).trans (h.block i hi)⟩
set_option maxHeartbeats 1000000 in
set_option maxRecDepth 100000 in
theorem lnew_any (w : World) :
    Calls Tryz.prog 19 #[.int .i64 2, .slice none 0 0, .func (.func 20) #[] #[]] w fun e w' => ∃ lb bd M W H, e = .returned (P lb) ∧ Parts w' w.heap.size lb bd M W H ∧ Below w.heap.size w w' := by
  have Kp : Hid (∀ W, Calls Tryz.prog 39 #[.int .i64 0, .int .u64 0] W fun e w' => e = .returned (.int .i64 1) ∧ W = w') := fun W => place_any 0 0 W (by decide)
  go_enter Tryz.func19, Tryz.ntmps19
  go_wp2_with (go_at_call 37; (with_reducible refine (bnew_34 _).mono ?_); rintro e w1 ⟨bd, rfl, hb, hsz, hbd, h1, h2, h3, h4⟩; have Hb := Lib.hid hb; have Hs := Lib.hid (And.intro hsz hbd); have H1 := Lib.hid h1; have H2 := Lib.hid h2; have H3 := Lib.hid h3; have H4 := Lib.hid h4; clear hb h1 h2 h3 h4)
  refine wp_name (fun u => Below w.heap.size w u ∧ w.heap.size + 4 < u.heap.size ∧ Bx u w.heap.size 78 zeros34 ∧ Bx u (w.heap.size + 1) 148 (machV w.heap.size 0 0 (.slice none 0 0)) ∧ Bx u (w.heap.size + 2) 40 nils34 ∧ Bx u (w.heap.size + 3) 102 #[P (w.heap.size + 1), .slice (some ⟨w.heap.size + 2, 0, none⟩) 34 34] ∧ Bx u (w.heap.size + 4) 105 #[P (w.heap.size + 3), .func (.func 20) #[] #[]]) ⟨Hb.out.alloc Hb.out.size _, by simp [hsz], H1.out.alloc _, H2.out.alloc _, H3.out.alloc _, H4.out.alloc _, by have := Bx.new w1 105 #[P (w.heap.size + 3), .func (.func 20) #[] #[]]; rw [hsz] at this; exact this⟩ ?_
  rintro y ⟨g0, g1, g2, g3, g4, g5, g6⟩
  have G0 := Lib.hid g0
  have Hc : Hid (∀ W, Below y.heap.size y W → W.cell? ⟨w.heap.size + 4, 0, none⟩ = some (P (w.heap.size + 3))) := fun W hb => cell_later hb (g6.cell 0)
  have KS : Hid (∀ W, Below y.heap.size y W → Calls Tryz.prog 38 #[P (w.heap.size + 3), .int .i64 0, .int .i64 1, .int .u64 0, .int .u64 1, .slice none 0 0] W fun e w' => ∃ b, e = .returned (.bool b) ∧ Parts w' w.heap.size (w.heap.size + 4) (w.heap.size + 3) (w.heap.size + 1) w.heap.size (w.heap.size + 2) ∧ Below w.heap.size w w') := fun W hb => by
    have f2 := g2.below hb g2.lt; have f3 := g3.below hb g3.lt; have f4 := g4.below hb g4.lt; have f5 := g5.below hb g5.lt; have f6 := g6.below hb g6.lt
    have hW := g0.trans (hb.mono g0.size)
    refine (bswap0 w.heap.size _ _ _ _ W f5 f3 f2 f4 hW.size).mono ?_
    rintro e w' ⟨rfl, hk, hr⟩
    refine ⟨true, rfl, ⟨hr, (hk.block _ f6.lt ?_).trans f6, (hk.block _ f5.lt ?_).trans f5, by omega, by omega, by omega, by omega, by omega⟩, Keeps.belowBase hW hk hW.size ?_⟩
    · rintro (h | h | h) <;> omega
    · rintro (h | h | h) <;> omega
    · rintro i (h | h | h) <;> omega
  have hlt : w.heap.size + 4 < y.heap.size := g1
  have gc := g6.cell 0
  have gc' : y.drew.cell? ⟨w.heap.size + 4, 0, none⟩ = some (P (w.heap.size + 3)) := gc
  clear g0 g1 g2 g3 g4 g5 g6 hsz hbd Hs Hb H1 H2 H3 H4
  go_region_with (first | (go_at_call 39; (with_reducible refine (Kp.out _).mono ?_); rintro e w2 ⟨rfl, rfl⟩) | (go_at_call 38; (with_reducible refine (KS.out _ (Below.refl _ _).drew).mono ?_); rintro e w2 ⟨ans, rfl, hp, hb⟩; have Hp := Lib.hid hp; have Hb := Lib.hid hb; clear hp hb))
  all_goals
    go_wp2_with fail
    go_ret
    exact ⟨_, _, _, _, _, rfl, Hp.out, Hb.out⟩
end Go.Proofs.YtemnhpdjoimjbaaGreat
end
section
namespace Go.Proofs.YtemnhpdjoimjbaaGreat
open Go.RowKit Top
set_option linter.unusedVariables false
set_option maxHeartbeats 1000000 in
theorem book_new (L : List Pol) (lv : Value) (room : Nat) (w : World) (hl : PolsAt w lv L) (h0 : 0 < L.length) (hn : L.length ≤ 32) (hg : ∀ p ∈ L, PolGood p) (r0 : 1 ≤ room) (r1 : room ≤ 4096) :
    Calls Tryz.prog 17 #[lv, .int .i64 room] w fun e w' => ∃ v, e = .returned (.tuple #[v, .int .i64 0]) ∧ Below w.heap.size w w' := by
  have Kp := Lib.hid (policies_good L lv w hl hn hg)
  have Kc : Hid (∀ W, Below w.heap.size w W → Calls Tryz.prog 18 #[lv] W fun e w' => ∃ v', e = .returned v' ∧ PolsAt w' v' L ∧ (∃ a c, v' = .slice a L.length c) ∧ Below W.heap.size W w') := fun W hb => pols_clone lv L W (hl.keep (fr0 hb)) h0 hn
  obtain ⟨la, lc, rfl⟩ : ∃ a c', lv = .slice a L.length c' := by obtain ⟨_, a, c', e, _⟩ := hl; exact ⟨a, c', e⟩
  clear hl hg h0 hn
  generalize L.length = ln at *
  have d1 : ¬ ((room : Int) < 1) := by omega
  have d2 : ¬ ((room : Int) > 4096) := by omega
  go_enter Tryz.func17, Tryz.ntmps17
  go_wp2_with (first
    | (go_at_call 36; (with_reducible refine Kp.out.mono ?_); rintro e w1 ⟨rfl, hb⟩; have Hb := Lib.hid hb; clear hb)
    | (go_at_call 18; (with_reducible refine (Kc.out _ Hb.out).mono ?_); rintro e w2 ⟨v', rfl, hp, ⟨a2, c2, rfl⟩, hb2⟩; have Hb2 := Lib.hid (Hb.out.trans (hb2.mono Hb.out.size)); clear hp hb2))
  exact bodyPost_ret (v := .tuple #[P w2.heap.size, .int .i64 0]) (by simp [results, Tryz.results17, go_sem]) rfl ⟨_, rfl, Hb2.out.alloc Hb2.out.size _⟩
/-- A limiter's own block, new. -/
noncomputable def coreArr (lv : Value) (room lb : Nat) : Array Value := ((Tryz.zeroCells87.setIfInBounds 0 lv).setIfInBounds 1 (.int .u64 room)).setIfInBounds 2 (P lb)
def m0 : Mem := ⟨[0, 1, 0, 0, 0, 0, 0, 0, 0, 0, 0, 0, 0, 0, 0, 0, 0, 0, 0, 0, 0, 0, 0, 0, 0, 0, 0, 0, 0, 0, 0, 0, 0, 0], List.replicate 34 [], 0, 1⟩
set_option maxHeartbeats 2000000 in
set_option maxRecDepth 100000 in
theorem core_new (L : List Pol) (lv : Value) (room : Nat) (w : World) (hl : PolsAt w lv L) (h0 : 0 < L.length) (hn : L.length ≤ 32) (hg : ∀ p ∈ L, PolGood p) (r0 : 1 ≤ room) (r1 : room ≤ 4096) :
    Calls Tryz.prog 5 #[lv, .int .i64 room] w fun e w' => ∃ K lb bd M W H lv', e = .returned (.tuple #[P K, .int .i64 0]) ∧ Parts w' w.heap.size lb bd M W H ∧ Bx w' K 87 (coreArr lv' room lb) ∧ PolsAt w' lv' L ∧ w.heap.size ≤ K ∧ Below w.heap.size w w' := by
  have Kp := Lib.hid (book_new L lv room w hl h0 hn hg r0 r1)
  have Kc : Hid (∀ W, Below w.heap.size w W → Calls Tryz.prog 18 #[lv] W fun e w' => ∃ v', e = .returned v' ∧ PolsAt w' v' L ∧ (∃ a c, v' = .slice a L.length c) ∧ Below W.heap.size W w') := fun W hb => pols_clone lv L W (hl.keep (fr0 hb)) h0 hn
  obtain ⟨la, lc, rfl⟩ : ∃ a c', lv = .slice a L.length c' := by obtain ⟨_, a, c', e, _⟩ := hl; exact ⟨a, c', e⟩
  clear hl hg h0 hn
  generalize hln : L.length = ln at *
  have Hln := Lib.hid hln
  clear hln
  have hr64 : wrap64 (room : Int) = room := by unfold wrap64; omega
  go_enter Tryz.func5, Tryz.ntmps5
  go_wp2_with (first
    | (go_at_call 17; (with_reducible refine Kp.out.mono ?_); rintro e w1 ⟨v, rfl, hb⟩; have Hb := Lib.hid hb; clear hb)
    | (go_at_call 18; (with_reducible refine (Kc.out _ Hb.out).mono ?_); rintro e w2 ⟨v', rfl, hp, ⟨a2, c2, rfl⟩, hb2⟩; have Hp := Lib.hid hp; have Hb2 := Lib.hid (Hb.out.trans (hb2.mono Hb.out.size)); clear hp hb2)
    | (go_at_call 19; (with_reducible refine (lnew_any _).mono ?_); rintro e w3 ⟨lb, bd, M, W, H, rfl, hpa, hb3⟩; have Hpa := Lib.hid hpa; have Hb3 := Lib.hid hb3; clear hpa hb3))
  have hb23 : Below w.heap.size w w3 := Hb2.out.trans (Hb3.out.mono Hb2.out.size)
  have hp := Hpa.out
  have hz := Hb2.out.size
  have hc := Bx.new w3 87 (coreArr (.slice a2 ln c2) room lb)
  refine bodyPost_ret (v := .tuple #[P w3.heap.size, .int .i64 0]) (by simp [results, Tryz.results5, go_sem]) rfl ⟨w3.heap.size, lb, bd, M, W, H, .slice a2 ln c2, rfl, ⟨⟨hp.raw.words.alloc _, ?_, hp.raw.holds.alloc _⟩, hp.lanes.alloc _, hp.board.alloc _, by have := hp.ge; omega⟩, hc, ?_, hb23.size, hb23.alloc hb23.size _⟩
  · obtain ⟨last, h1, h2⟩ := hp.raw.mach
    obtain ⟨nn, xs, ho, h3, h4⟩ := h2
    exact ⟨last, h1.alloc _, nn, xs, (ownsRow_mono (by omega) ho).alloc _, h3, h4⟩
  · exact Hp.out.keep (fr0 (Hb3.out.alloc Hb3.out.size _))
end Go.Proofs.YtemnhpdjoimjbaaGreat
end
section
namespace Go.Proofs.YtemnhpdjoimjbaaGreat
open Go.RowKit Top
set_option linter.unusedVariables false
/-- A worker's pending call, or none. -/
def PendAt (w : World) (B : Nat) (A : Adr) (who : Nat) (v : Value) : Option (Live × Kont) → Prop
  | none => v = .nilFunc
  | some (x, k) => ∃ xb pol, KontAt w ⟨A, (who : Int), xb, pol⟩ v k ∧ CallAt w ⟨A, (who : Int), xb, pol⟩ x ∧ EOk ⟨A, (who : Int), xb, pol⟩ x ∧ B ≤ xb
/-- A limiter with its pending calls. -/
structure SysAt (w : World) (B : Nat) (A : Adr) (m : Mem) (pd : Nat → Option (Live × Kont)) : Prop where
  st : St w B A m
  pend : ∃ arr, Bx w A.K 87 arr ∧ arr.size = 67 ∧ ∀ who, who < 64 → ∃ v, arr[3 + who]? = some v ∧ PendAt w B A who v (pd who)
  kb : B ≤ A.K
theorem zero87 : Tryz.zeroCells87 = #[.slice none 0 0, .int .u64 0, .pointer none] ++ Array.replicate 64 .nilFunc := by kernel_rfl
theorem coreArr_size (lv : Value) (room lb : Nat) : (coreArr lv room lb).size = 67 := by unfold coreArr; rw [zero87]; simp
theorem coreArr_nil (lv : Value) (room lb : Nat) (i : Nat) (hi : i < 64) : (coreArr lv room lb)[3 + i]? = some .nilFunc := by
  unfold coreArr
  rw [zero87, Array.getElem?_setIfInBounds_ne (by omega), Array.getElem?_setIfInBounds_ne (by omega), Array.getElem?_setIfInBounds_ne (by omega), Array.getElem?_append_right (by simp)]
  simp [hi]
theorem words1_eq : words1 = (m0.words.map fun (x : Nat) => Value.int .u64 x).toArray := by rfl
theorem m0_lt (i : Nat) : m0.word i < 18446744073709551616 := by
  have h : ∀ x ∈ m0.words, x < 18446744073709551616 := by decide
  unfold Mem.word
  rw [List.getD_eq_getElem?_getD]
  cases e : m0.words[i]? with
  | none => simp
  | some x => exact h x (List.mem_of_getElem? e)
theorem m0_hold (i : Nat) : m0.hold i = [] := by
  have h : ∀ x ∈ m0.holds, x = [] := by decide
  unfold Mem.hold
  rw [List.getD_eq_getElem?_getD]
  cases e : m0.holds[i]? with
  | none => rfl
  | some x => exact h x (List.mem_of_getElem? e)
theorem sys_new {w : World} {B K lb bd M W H room : Nat} {lv : Value} {L : List Pol} (hp : Parts w B lb bd M W H) (hc : Bx w K 87 (coreArr lv room lb)) (hl : PolsAt w lv L) (hK : B ≤ K) (hB : B ≤ w.heap.size) : SysAt w B ⟨K, lb, bd, M, W, H, L, room⟩ m0 fun _ => none := by
  refine ⟨⟨hp.lanes, hp.board, hp.raw.mach, by rw [← words1_eq]; exact hp.raw.words, rfl, m0_lt, ⟨nils34, by simp [nils34], hp.raw.holds, fun i hi => ⟨.slice none 0 0, by simp [nils34, hi], ?_⟩⟩, rfl, ⟨hp.ge.2.2.1, hp.ge.2.2.2.1, hp.ge.2.2.2.2, hB⟩, by decide, by decide, ⟨_, lv, hc, coreArr_size _ _ _, ?_, ?_, ?_, hl⟩⟩, ⟨_, hc, coreArr_size _ _ _, fun who hw => ⟨_, coreArr_nil _ _ _ _ hw, rfl⟩⟩, hK⟩
  · rw [m0_hold]
    exact CellsAt.nil w
  · unfold coreArr; rw [zero87]; simp
  · unfold coreArr; rw [zero87]; simp
  · unfold coreArr; rw [zero87]; simp
end Go.Proofs.YtemnhpdjoimjbaaGreat
end
section
namespace Go.Proofs.YtemnhpdjoimjbaaGreat
open Go.RowKit Top
set_option linter.unusedVariables false
/-- Two workers' calls lie in two blocks. -/
theorem call_ne {w : World} {A : Adr} {who who' : Int} {xb xb' : Nat} {p p' : Pol} {x x' : Live} (h : CallAt w ⟨A, who, xb, p⟩ x) (h' : CallAt w ⟨A, who', xb', p'⟩ x') (hn : who ≠ who') : xb ≠ xb' := by
  rintro rfl
  obtain ⟨k1, h1, _⟩ := h
  obtain ⟨k2, h2, _⟩ := h'
  have e1 := h1.cell 5
  have e2 := h2.cell 5
  dsimp only at e1 e2
  rw [e1] at e2
  simp [callA] at e2
  exact hn e2
theorem PendAt.keep {w w' : World} {B B' : Nat} {X : List Nat} {A : Adr} {who : Nat} {v : Value} (hf : Fr B' X w w') : ∀ {o : Option (Live × Kont)}, (∀ x k xb pol, o = some (x, k) → CallAt w ⟨A, (who : Int), xb, pol⟩ x → xb ∉ X) → PendAt w B A who v o → PendAt w' B A who v o
  | none, _, h => h
  | some (x, k), hx, ⟨xb, pol, h1, h2, h3, h4⟩ => ⟨xb, pol, h1.keep hf, h2.keep hf (hx x k xb pol rfl h2), h3, h4⟩
theorem SysAt.keep {w w' : World} {B : Nat} {A : Adr} {m : Mem} {pd : Nat → Option (Live × Kont)} (h : SysAt w B A m pd) (k : Below w.heap.size w w') : SysAt w' B A m pd := by
  obtain ⟨arr, h1, h2, h3⟩ := h.pend
  refine ⟨h.st.later k, ⟨arr, h1.below k h1.lt, h2, fun who hw => ?_⟩, h.kb⟩
  obtain ⟨v, h4, h5⟩ := h3 who hw
  exact ⟨v, h4, h5.keep (fr0 k) (fun _ _ _ _ _ _ => by simp)⟩
/-- A store into a pending call's slot. -/
theorem St.setPend {w : World} {B : Nat} {A : Adr} {m : Mem} (h : St w B A m) {arr : Array Value} (hK : Bx w A.K 87 arr) (hB : B ≤ A.K) (i : Nat) (hi : 3 ≤ i) (v : Value) : St (w.setCell ⟨A.K, i, none⟩ v) B A m ∧ Fr B [A.K] w (w.setCell ⟨A.K, i, none⟩ v) := by
  have hf : Fr B [A.K] w (w.setCell ⟨A.K, i, none⟩ v) := (Fr.refl B [A.K] w).setCell (p := ⟨A.K, i, none⟩) hK hB rfl (fun _ => by simp) _
  obtain ⟨last, hm, hl⟩ := h.mach
  obtain ⟨nn, xs, ho, hn, h1⟩ := hl
  obtain ⟨hs, h2, h3, h4⟩ := h.holds
  obtain ⟨arr', lv, c1, c2, c3, c4, c5, c6⟩ := h.core
  have ea : arr' = arr := by
    unfold Bx at c1 hK
    rw [c1] at hK
    injection hK with hK
    injection hK
  subst ea
  refine ⟨⟨h.lanes.keep hf rfl, h.board.keep hf rfl, ⟨last, hm.sne (hm.ne hK (by decide)), nn, xs, ownsRow_setCell_other ho (own_ne ho hK (by decide)) _, hn, h1⟩, h.words.sne (h.words.ne hK (by decide)), h.nwords, h.wordlt, ⟨hs, h2, h3.sne (h3.ne hK (by decide)), fun j hj => ?_⟩, h.nholds, ⟨h.below.1, h.below.2.1, h.below.2.2.1, by have := h.below.2.2.2; simpa [World.setCell] using this⟩, h.clock, h.count, ⟨_, lv, hK.setCell i v, by simpa using c2, ?_, ?_, ?_, c6.keep hf⟩⟩, hf⟩
  · obtain ⟨u, h5, h6⟩ := h4 j hj
    exact ⟨u, h5, h6.keep hf⟩
  · rw [Array.getElem?_setIfInBounds_ne (by omega)]; exact c3
  · rw [Array.getElem?_setIfInBounds_ne (by omega)]; exact c4
  · rw [Array.getElem?_setIfInBounds_ne (by omega)]; exact c5
end Go.Proofs.YtemnhpdjoimjbaaGreat
end
section
namespace Go.Proofs.YtemnhpdjoimjbaaGreat
open Go.RowKit Top
set_option linter.unusedVariables false
theorem kont_fn {w : World} {E : Env} {v : Value} {k : Kont} (h : KontAt w E v k) : ∃ f ps, v = .func (.func f) #[] ps := by
  cases k <;> first | (obtain ⟨_, e, _⟩ := h; exact ⟨_, _, e⟩) | (obtain ⟨_, _, e, _⟩ := h; exact ⟨_, _, e⟩) | (obtain ⟨_, _, _, e, _⟩ := h; exact ⟨_, _, e⟩) | (obtain ⟨_, _, _, _, e, _⟩ := h; exact ⟨_, _, e⟩) | (obtain ⟨_, _, _, _, _, e, _⟩ := h; exact ⟨_, _, e⟩) | (obtain ⟨_, _, _, _, _, _, e, _⟩ := h; exact ⟨_, _, e⟩) | (obtain ⟨_, _, _, _, _, _, _, e, _⟩ := h; exact ⟨_, _, e⟩) | (obtain ⟨_, _, _, _, _, _, _, _, e, _⟩ := h; exact ⟨_, _, e⟩) | (obtain ⟨_, _, _, _, _, _, _, _, _, e, _⟩ := h; exact ⟨_, _, e⟩) | (obtain ⟨_, _, _, _, _, _, _, _, _, _, e, _⟩ := h; exact ⟨_, _, e⟩)
theorem out_fn {w : World} {E : Env} {v : Value} {d : Bool} {a : Reply} {o : Kont ⊕ Reply} {k : Kont} (e : o = .inl k) (h : OutAt w E v d a o) : ∃ f ps, v = .func (.func f) #[] ps := by
  subst e
  exact kont_fn h.1
theorem out_nil {w : World} {E : Env} {v : Value} {d : Bool} {a : Reply} {o : Kont ⊕ Reply} {r : Reply} (e : o = .inr r) (h : OutAt w E v d a o) : v = .nilFunc := by
  subst e
  exact h.1
/-- A step's result is stored into a block of its own. -/
theorem Out.store' {w w2 : World} {B r : Nat} {X : List Nat} {E : Env} {o : Out} {v : Value} {d : Bool} {a : Reply} (hr : Bx w2 r 37 res0) (hnew : w.heap.size ≤ r) (hB : B ≤ w.heap.size) (ho : OutAt w2 E v d a o.1) (hc : CallAt w2 E o.2.1) (hs : St w2 B E.A o.2.2) (hf : Fr B X w w2) :
    ∃ W, W = (((((((w2.setCell ⟨r, 0, none⟩ (.bool d)).setCell ⟨r, 1, none⟩ (.int .i64 a.e)).setCell ⟨r, 2, none⟩ (.bool a.granted)).setCell ⟨r, 3, none⟩ (.int .i64 a.left)).setCell ⟨r, 4, none⟩ (.int .i64 a.wait)).setCell ⟨r, 5, none⟩ (.int .i64 a.serial)).setCell ⟨r, 6, none⟩ (.int .i64 a.now)) ∧ Bx W r 37 (resA d a) ∧ OutAt W E v d a o.1 ∧ CallAt W E o.2.1 ∧ St W B E.A o.2.2 ∧ Fr B X w W := by
  have b0 := hr.setCell 0 (.bool d)
  have b1 := b0.setCell 1 (.int .i64 a.e)
  have b2 := b1.setCell 2 (.bool a.granted)
  have b3 := b2.setCell 3 (.int .i64 a.left)
  have b4 := b3.setCell 4 (.int .i64 a.wait)
  have b5 := b4.setCell 5 (.int .i64 a.serial)
  have b6 := b5.setCell 6 (.int .i64 a.now)
  refine ⟨_, rfl, b6, ?_, ((((((hc.setRes hr _).setRes b0 _).setRes b1 _).setRes b2 _).setRes b3 _).setRes b4 _).setRes b5 _, ((((((hs.setRes hr _).setRes b0 _).setRes b1 _).setRes b2 _).setRes b3 _).setRes b4 _).setRes b5 _, ?_⟩
  · rcases h : o.1 with k | r'
    · rw [h] at ho
      obtain ⟨hk, rfl, rfl⟩ := ho
      exact ⟨outKont hr hk, rfl, rfl⟩
    · rw [h] at ho
      obtain ⟨e1, e2, e3⟩ := ho
      exact ⟨e1, e2, e3⟩
  · have hb : B ≤ r := Nat.le_trans hB hnew
    exact ((((((hf.setNew (p := ⟨r, 0, none⟩) hb hnew _).setNew (p := ⟨r, 1, none⟩) hb hnew _).setNew (p := ⟨r, 2, none⟩) hb hnew _).setNew (p := ⟨r, 3, none⟩) hb hnew _).setNew (p := ⟨r, 4, none⟩) hb hnew _).setNew (p := ⟨r, 5, none⟩) hb hnew _).setNew (p := ⟨r, 6, none⟩) hb hnew _
set_option maxHeartbeats 2000000 in
set_option maxRecDepth 100000 in
theorem calls_step (B : Nat) (E : Env) (who : Nat) (x : Live) (m : Mem) (k : Kont) (cl : Nat) (v : Value) (arr : Array Value) (w : World) (hw : E.who = who) (hw64 : who < 64) (T : TabOk E.A.list E.A.room) (hi : SInv E.A.list E.A.room m cl) (hl : LiveOk E.A.list x) (hk : KOk E.A.list E.A.room m x k) (he : EOk E x) (hc : m.count < 4611686018427387900) (hB : B ≤ E.x) (hv : KontAt w E v k) (hs : St w B E.A m) (hcl : CallAt w E x) (hK : Bx w E.A.K 87 arr) (hKB : B ≤ E.A.K) (ha : arr[3 + who]? = some v) :
    Calls Tryz.prog 43 #[.pointer (some ⟨E.A.K, 3, none⟩), .int .i64 who] w fun e w' => ∃ v' d a, e = .returned (.agg (resA d a)) ∧ OutAt w' E v' d a (stepF BlV E.A.list E.A.room k x m).1 ∧ CallAt w' E (stepF BlV E.A.list E.A.room k x m).2.1 ∧ St w' B E.A (stepF BlV E.A.list E.A.room k x m).2.2 ∧ Bx w' E.A.K 87 (arr.setIfInBounds (3 + who) v') ∧ Fr B [E.x, E.A.K] w w' := by
  have Y0 := Lib.hid (Was.start hs hcl)
  have HK0 := Lib.hid hK
  have c0 : w.cell? ⟨E.A.K, 3 + who, none⟩ = some v := by rw [hK.cell]; exact ha
  have KS : Hid (∀ W, Below w.heap.size w W → ∃ f ps, v = .func (.func f) #[] ps ∧ Enters f ∧ Calls Tryz.prog f ps W (ORes W B E (stepF BlV E.A.list E.A.room k x m))) := fun W hb =>
    step_any B E x m k cl v W T hi hl hk he hc hB (hv.keep (fr0 hb)) (hs.later hb) (hcl.keep (fr0 hb) (by simp))
  obtain ⟨f, ps, rfl, hef, _⟩ := KS.out w (Below.refl _ _)
  have hef' := hef
  unfold Enters at hef
  have HS : Hid (∀ W, Below w.heap.size w W → Calls Tryz.prog f ps W (ORes W B E (stepF BlV E.A.list E.A.room k x m))) := fun W hb => by
    obtain ⟨f', ps', e, _, h⟩ := KS.out W hb
    injection e with e1 _ e3
    injection e1 with e1
    subst e1 e3
    exact h
  generalize stepF BlV E.A.list E.A.room k x m = o at *
  have Ha0 := Lib.hid ha
  have hne : E.A.K ≠ E.x := by
    obtain ⟨_, hx, _⟩ := hcl
    exact hK.ne hx (by decide)
  have Hne := Lib.hid (show E.A.K ∉ [E.x] by simpa using hne)
  clear KS T hi hl hk he hc hB hv hs hcl hK ha hef' hne
  have hcase : (∃ k', o.1 = .inl k') ∨ (∃ r', o.1 = .inr r') := by
    cases h : o.1 with
    | inl k' => exact .inl ⟨k', rfl⟩
    | inr r' => exact .inr ⟨r', rfl⟩
  rcases hcase with ⟨k', hk'⟩ | ⟨r', hr'⟩
  · go_enter Tryz.func43, Tryz.ntmps43
    go_wp2_with fail
    refine wp_name (fun u => Below w.heap.size w u ∧ Bx u w.heap.size 37 res0 ∧ Bx u (w.heap.size + 1) 37 res0) ⟨below_allocs [_, _] w, bx_allocs w [_, _] 0 rfl, bx_allocs w [_, _] 1 rfl⟩ ?_
    rintro y ⟨g0, g1, g2⟩
    have G0 := Lib.hid g0; have G1 := Lib.hid g1; have G2 := Lib.hid g2
    have d0 := cell_later g0 c0
    have d0' : y.drew.cell? ⟨E.A.K, 3 + who, none⟩ = some (.func (.func f) #[] ps) := d0
    have HKy : Hid (Bx y.drew E.A.K 87 arr) := HK0.out.below g0.drew HK0.out.lt
    clear c0 g0 g1 g2
    go_region_with (go_at_fn f; (refine (HS.out _ (G0.out.drew)).mono ?_); rintro e w2 h; obtain ⟨v', d, a, rfl, ha⟩ := Ans.of h; obtain ⟨q1, q2, rfl⟩ := out_fn hk' ha.out; have hk2 : Bx w2 E.A.K 87 arr := ha.fr.quiet _ _ _ _ HKy.out (.inr ⟨rfl, Hne.out⟩); have p1 : w2.frozen? ⟨E.A.K, 3 + who, none⟩ = false := hk2.free _; have p2 : w2.cell? ⟨E.A.K, 3 + who, none⟩ = some (.func (.func f) #[] ps) := (hk2.cell _).trans Ha0.out; have hr3 : Bx w2 (w.heap.size + 1) 37 res0 := (show Bx y.drew (w.heap.size + 1) 37 res0 from G2.out).keep ha.fr rfl; obtain ⟨r0, r1, r2, r3, r4, r5, r6⟩ := res_cells hr3; obtain ⟨f0, f1, f2, f3, f4, f5, f6⟩ := res_free hr3; have hkr : E.A.K ≠ w.heap.size + 1 := hk2.ne hr3 (by decide); have Hk2 := Lib.hid hk2; have Hr3 := Lib.hid hr3; have Ha := Lib.hid ha; clear ha h hk2 hr3)
    all_goals
      have hp := Ha.out.st.setPend Hk2.out hKB (3 + who) (by omega) (.func (.func q1) #[] q2)
      have hE : E.x ∉ [E.A.K] := by have := Hne.out; simpa using fun e => this (by simp [e])
      have hfr : Fr B [E.x, E.A.K] w (w2.setCell ⟨E.A.K, 3 + who, none⟩ (.func (.func q1) #[] q2)) := ((Y0.out.fr.mono (Nat.le_refl _) (by simp)).below Y0.out.st.below.2.2.2 G0.out.drew).trans ((Ha.out.fr.mono (Nat.le_refl _) (by simp)).trans (hp.2.mono (Nat.le_refl _) (by simp)))
      obtain ⟨W, eW, g1, g2, g3, g4, g5⟩ := Out.store' (w := w) (X := [E.x, E.A.K]) (Hr3.out.sne (Ne.symm hkr)) (by omega) Y0.out.st.below.2.2.2 (Ha.out.out.keep hp.2) (Ha.out.call.keep hp.2 hE) hp.1 hfr
      rw [← eW]
      have hK4 : Bx W E.A.K 87 (arr.setIfInBounds (3 + who) (.func (.func q1) #[] q2)) := by
        rw [eW]
        exact (((((((Hk2.out.setCell (3 + who) (.func (.func q1) #[] q2)).sne hkr).sne hkr).sne hkr).sne hkr).sne hkr).sne hkr).sne hkr
      have hr0 : Bx W w.heap.size 37 res0 := by
        have h1 : Bx w2 w.heap.size 37 res0 := (show Bx y.drew w.heap.size 37 res0 from G1.out).keep Ha.out.fr rfl
        have n1 : w.heap.size ≠ E.A.K := h1.ne Hk2.out (by decide)
        have n2 : w.heap.size ≠ w.heap.size + 1 := by omega
        rw [eW]
        exact (((((((h1.sne n1).sne n2).sne n2).sne n2).sne n2).sne n2).sne n2).sne n2
      refine then_name (fun u => u = W) rfl ?_
      rintro u rfl
      obtain ⟨r0, r1, r2, r3, r4, r5, r6⟩ := res_cells hr0
      obtain ⟨f0, f1, f2, f3, f4, f5, f6⟩ := res_free hr0
      obtain ⟨s0, s1, s2, s3, s4, s5, s6⟩ := (⟨g1.cell 0, g1.cell 1, g1.cell 2, g1.cell 3, g1.cell 4, g1.cell 5, g1.cell 6⟩ : u.cell? ⟨w.heap.size + 1, 0, none⟩ = some (.bool d) ∧ u.cell? ⟨w.heap.size + 1, 1, none⟩ = some (.int .i64 a.e) ∧ u.cell? ⟨w.heap.size + 1, 2, none⟩ = some (.bool a.granted) ∧ u.cell? ⟨w.heap.size + 1, 3, none⟩ = some (.int .i64 a.left) ∧ u.cell? ⟨w.heap.size + 1, 4, none⟩ = some (.int .i64 a.wait) ∧ u.cell? ⟨w.heap.size + 1, 5, none⟩ = some (.int .i64 a.serial) ∧ u.cell? ⟨w.heap.size + 1, 6, none⟩ = some (.int .i64 a.now))
      have HR0 := Lib.hid hr0; have HG := Lib.hid (And.intro g2 (And.intro g3 (And.intro g4 g5))); have HK4 := Lib.hid hK4
      clear eW hr0 g1 g2 g3 g4 g5 hK4 hfr hp hE
      go_wp2_with fail
      have hkq : E.A.K ≠ w.heap.size := HK4.out.ne HR0.out (by decide)
      obtain ⟨W', eW', j1, j2, j3, j4, j5⟩ := Out.store' (w := w) (X := [E.x, E.A.K]) HR0.out (Nat.le_refl _) Y0.out.st.below.2.2.2 HG.out.1 HG.out.2.1 HG.out.2.2.1 HG.out.2.2.2
      have hK5 : Bx W' E.A.K 87 (arr.setIfInBounds (3 + who) (.func (.func q1) #[] q2)) := by
        rw [eW']
        exact ((((((HK4.out.sne hkq).sne hkq).sne hkq).sne hkq).sne hkq).sne hkq).sne hkq
      rw [← eW']
      obtain ⟨u0, u1, u2, u3, u4, u5, u6⟩ := (⟨j1.cell 0, j1.cell 1, j1.cell 2, j1.cell 3, j1.cell 4, j1.cell 5, j1.cell 6⟩ : W'.cell? ⟨w.heap.size, 0, none⟩ = some (.bool d) ∧ W'.cell? ⟨w.heap.size, 1, none⟩ = some (.int .i64 a.e) ∧ W'.cell? ⟨w.heap.size, 2, none⟩ = some (.bool a.granted) ∧ W'.cell? ⟨w.heap.size, 3, none⟩ = some (.int .i64 a.left) ∧ W'.cell? ⟨w.heap.size, 4, none⟩ = some (.int .i64 a.wait) ∧ W'.cell? ⟨w.heap.size, 5, none⟩ = some (.int .i64 a.serial) ∧ W'.cell? ⟨w.heap.size, 6, none⟩ = some (.int .i64 a.now))
      exact bodyPost_ret (v := .agg (resA d a)) (by simp [results, Tryz.results43, go_sem, u0, u1, u2, u3, u4, u5, u6]) rfl ⟨.func (.func q1) #[] q2, d, a, rfl, j2, j3, j4, hK5, j5⟩
  · go_enter Tryz.func43, Tryz.ntmps43
    go_wp2_with fail
    refine wp_name (fun u => Below w.heap.size w u ∧ Bx u w.heap.size 37 res0 ∧ Bx u (w.heap.size + 1) 37 res0) ⟨below_allocs [_, _] w, bx_allocs w [_, _] 0 rfl, bx_allocs w [_, _] 1 rfl⟩ ?_
    rintro y ⟨g0, g1, g2⟩
    have G0 := Lib.hid g0; have G1 := Lib.hid g1; have G2 := Lib.hid g2
    have d0 := cell_later g0 c0
    have d0' : y.drew.cell? ⟨E.A.K, 3 + who, none⟩ = some (.func (.func f) #[] ps) := d0
    have HKy : Hid (Bx y.drew E.A.K 87 arr) := HK0.out.below g0.drew HK0.out.lt
    clear c0 g0 g1 g2
    go_region_with (go_at_fn f; (refine (HS.out _ (G0.out.drew)).mono ?_); rintro e w2 h; obtain ⟨v', d, a, rfl, ha⟩ := Ans.of h; obtain rfl := out_nil hr' ha.out; have hk2 : Bx w2 E.A.K 87 arr := ha.fr.quiet _ _ _ _ HKy.out (.inr ⟨rfl, Hne.out⟩); have p1 : w2.frozen? ⟨E.A.K, 3 + who, none⟩ = false := hk2.free _; have p2 : w2.cell? ⟨E.A.K, 3 + who, none⟩ = some (.func (.func f) #[] ps) := (hk2.cell _).trans Ha0.out; have hr3 : Bx w2 (w.heap.size + 1) 37 res0 := (show Bx y.drew (w.heap.size + 1) 37 res0 from G2.out).keep ha.fr rfl; obtain ⟨r0, r1, r2, r3, r4, r5, r6⟩ := res_cells hr3; obtain ⟨f0, f1, f2, f3, f4, f5, f6⟩ := res_free hr3; have hkr : E.A.K ≠ w.heap.size + 1 := hk2.ne hr3 (by decide); have Hk2 := Lib.hid hk2; have Hr3 := Lib.hid hr3; have Ha := Lib.hid ha; clear ha h hk2 hr3)
    all_goals
      have hp := Ha.out.st.setPend Hk2.out hKB (3 + who) (by omega) .nilFunc
      have hE : E.x ∉ [E.A.K] := by have := Hne.out; simpa using fun e => this (by simp [e])
      have hfr : Fr B [E.x, E.A.K] w (w2.setCell ⟨E.A.K, 3 + who, none⟩ .nilFunc) := ((Y0.out.fr.mono (Nat.le_refl _) (by simp)).below Y0.out.st.below.2.2.2 G0.out.drew).trans ((Ha.out.fr.mono (Nat.le_refl _) (by simp)).trans (hp.2.mono (Nat.le_refl _) (by simp)))
      obtain ⟨W, eW, g1, g2, g3, g4, g5⟩ := Out.store' (w := w) (X := [E.x, E.A.K]) (Hr3.out.sne (Ne.symm hkr)) (by omega) Y0.out.st.below.2.2.2 (Ha.out.out.keep hp.2) (Ha.out.call.keep hp.2 hE) hp.1 hfr
      rw [← eW]
      have hK4 : Bx W E.A.K 87 (arr.setIfInBounds (3 + who) .nilFunc) := by
        rw [eW]
        exact (((((((Hk2.out.setCell (3 + who) .nilFunc).sne hkr).sne hkr).sne hkr).sne hkr).sne hkr).sne hkr).sne hkr
      have hr0 : Bx W w.heap.size 37 res0 := by
        have h1 : Bx w2 w.heap.size 37 res0 := (show Bx y.drew w.heap.size 37 res0 from G1.out).keep Ha.out.fr rfl
        have n1 : w.heap.size ≠ E.A.K := h1.ne Hk2.out (by decide)
        have n2 : w.heap.size ≠ w.heap.size + 1 := by omega
        rw [eW]
        exact (((((((h1.sne n1).sne n2).sne n2).sne n2).sne n2).sne n2).sne n2).sne n2
      refine then_name (fun u => u = W) rfl ?_
      rintro u rfl
      obtain ⟨r0, r1, r2, r3, r4, r5, r6⟩ := res_cells hr0
      obtain ⟨f0, f1, f2, f3, f4, f5, f6⟩ := res_free hr0
      obtain ⟨s0, s1, s2, s3, s4, s5, s6⟩ := (⟨g1.cell 0, g1.cell 1, g1.cell 2, g1.cell 3, g1.cell 4, g1.cell 5, g1.cell 6⟩ : u.cell? ⟨w.heap.size + 1, 0, none⟩ = some (.bool d) ∧ u.cell? ⟨w.heap.size + 1, 1, none⟩ = some (.int .i64 a.e) ∧ u.cell? ⟨w.heap.size + 1, 2, none⟩ = some (.bool a.granted) ∧ u.cell? ⟨w.heap.size + 1, 3, none⟩ = some (.int .i64 a.left) ∧ u.cell? ⟨w.heap.size + 1, 4, none⟩ = some (.int .i64 a.wait) ∧ u.cell? ⟨w.heap.size + 1, 5, none⟩ = some (.int .i64 a.serial) ∧ u.cell? ⟨w.heap.size + 1, 6, none⟩ = some (.int .i64 a.now))
      have HR0 := Lib.hid hr0; have HG := Lib.hid (And.intro g2 (And.intro g3 (And.intro g4 g5))); have HK4 := Lib.hid hK4
      clear eW hr0 g1 g2 g3 g4 g5 hK4 hfr hp hE
      go_wp2_with fail
      have hkq : E.A.K ≠ w.heap.size := HK4.out.ne HR0.out (by decide)
      obtain ⟨W', eW', j1, j2, j3, j4, j5⟩ := Out.store' (w := w) (X := [E.x, E.A.K]) HR0.out (Nat.le_refl _) Y0.out.st.below.2.2.2 HG.out.1 HG.out.2.1 HG.out.2.2.1 HG.out.2.2.2
      have hK5 : Bx W' E.A.K 87 (arr.setIfInBounds (3 + who) .nilFunc) := by
        rw [eW']
        exact ((((((HK4.out.sne hkq).sne hkq).sne hkq).sne hkq).sne hkq).sne hkq).sne hkq
      rw [← eW']
      obtain ⟨u0, u1, u2, u3, u4, u5, u6⟩ := (⟨j1.cell 0, j1.cell 1, j1.cell 2, j1.cell 3, j1.cell 4, j1.cell 5, j1.cell 6⟩ : W'.cell? ⟨w.heap.size, 0, none⟩ = some (.bool d) ∧ W'.cell? ⟨w.heap.size, 1, none⟩ = some (.int .i64 a.e) ∧ W'.cell? ⟨w.heap.size, 2, none⟩ = some (.bool a.granted) ∧ W'.cell? ⟨w.heap.size, 3, none⟩ = some (.int .i64 a.left) ∧ W'.cell? ⟨w.heap.size, 4, none⟩ = some (.int .i64 a.wait) ∧ W'.cell? ⟨w.heap.size, 5, none⟩ = some (.int .i64 a.serial) ∧ W'.cell? ⟨w.heap.size, 6, none⟩ = some (.int .i64 a.now))
      exact bodyPost_ret (v := .agg (resA d a)) (by simp [results, Tryz.results43, go_sem, u0, u1, u2, u3, u4, u5, u6]) rfl ⟨.nilFunc, d, a, rfl, j2, j3, j4, hK5, j5⟩
end Go.Proofs.YtemnhpdjoimjbaaGreat
end
section
namespace Go.Proofs.YtemnhpdjoimjbaaGreat
open Go.RowKit Top
set_option linter.unusedVariables false
end Go.Proofs.YtemnhpdjoimjbaaGreat
end
