import Derived.Test.YtemnhpdjoimjbaaGreatTs48
import Derived.Test.YtemnhpdjoimjbaaGreatTs47
section
namespace Go.Proofs.YtemnhpdjoimjbaaGreat
open Go.RowKit Top
set_option linter.unusedVariables false
structure Ag (w w' : World) : Prop where
 size : w.heap.size ≤ w'.heap.size
 own : ∀ (b : Nat) (a : Array Value) (t : TypeId) (f : Nat × Nat), w.heap[b]? = some (.cells a t f) → alienT t = false → w'.heap[b]? = some (.cells a t f)
theorem Ag.refl (w : World) : Ag w w := ⟨Nat.le_refl _, fun _ _ _ _ h _ => h⟩
theorem Ag.trans {a b c : World} (h : Ag a b) (k : Ag b c) : Ag a c := ⟨Nat.le_trans h.size k.size, fun b a t f e ht => k.own b a t f (h.own b a t f e ht) ht⟩
theorem Ag.below {w w' : World} (h : Below w.heap.size w w') : Ag w w' := ⟨h.size, fun b a t f e _ => (h.block b (lt_of_block e)).trans e⟩
theorem Ag.set {w : World} {r i : Nat} {t : TypeId} {c : Array Value} (hr : Bx w r t c) (ht : alienT t = true) (u : Value) : Ag w (w.setCell ⟨r, i, none⟩ u) := by
 refine ⟨by simp [World.setCell], fun b a t' f e ht' => (Below.heap_setCell w ⟨r, i, none⟩ u b ?_).trans e⟩
 rintro rfl
 unfold Bx at hr
 rw [hr] at e
 injection e with e
 injection e with _ e _
 exact alien_ne ht ht' e.symm
theorem Ag.grown {w w' : World} {row : Option Nat} (hg : w.grownBy w' row) (h : ∀ g, row = some g → ∃ c t f, w.heap[g]? = some (.cells c t f) ∧ alienT t = true) : Ag w w' := by
 refine ⟨hg.size, fun b a t f e ht => (hg.block b (lt_of_block e) fun er => ?_).trans e⟩
 obtain ⟨c, t', f', e', ht'⟩ := h b er.symm
 rw [e] at e'
 injection e' with e'
 injection e' with _ e' _
 exact alien_ne ht' ht e'
theorem Bx.ag {w w' : World} {b : Nat} {t : TypeId} {a : Array Value} (h : Bx w b t a) (k : Ag w w') (ht : alienT t = false) : Bx w' b t a := k.own _ _ _ _ h ht
theorem Row.ag {w w' : World} {t : TypeId} {size n : Nat} {v : Value} {xs : List Value} (hr : Row w t size n v xs) (k : Ag w w') (ht : alienT t = false) : Row w' t size n v xs := by
 obtain ⟨h1, a, c, h2, h3, h4, h5⟩ := hr
 refine ⟨h1, a, c, h2, h3, h4, fun hn => ?_⟩
 obtain ⟨b, off, arr, h6, h7, h8⟩ := h5 hn
 exact ⟨b, off, arr, h6, h7.ag k ht, h8⟩
theorem CellsAt.ag {w w' : World} {v : Value} {L : List Cell} (h : CellsAt w v L) (k : Ag w w') : CellsAt w' v L := by
 obtain ⟨xs, h1, h2, h3, h4⟩ := h
 exact ⟨xs, h1, h2.ag k rfl, fun x hx => ⟨⟨(h3 x hx).1.1, (h3 x hx).1.2.ag k rfl⟩, Row.ag (h3 x hx).2 k rfl⟩, h4⟩
theorem own_ag {w w' : World} (k : Ag w w') {base : Nat} {e : TypeId} {size n : Nat} {v : Value} {xs : List Value} (hr : w.ownsRow base e size v n xs) (ht : alienT e = false) : w'.ownsRow base e size v n xs := by
 obtain ⟨h1, h2⟩ := hr
 refine ⟨h1, h2.imp id ?_⟩
 rintro ⟨g, cap, cur, rfl, g1, g2, g3, g4, g5, g6⟩
 exact ⟨g, cap, cur, rfl, g1, k.own _ _ _ _ g2 ht, g3, g4, g5, g6⟩
theorem St.ag {w w' : World} {B : Nat} {A : Adr} {m : Mem} (h : St w B A m) (k : Ag w w') : St w' B A m := by
 obtain ⟨last, hm, n, xs, ho, hn, h1⟩ := h.mach
 obtain ⟨hs, h2, h3, h4⟩ := h.holds
 obtain ⟨arr, lv, c1, c2, c3, c4, c5, c6⟩ := h.core
 refine ⟨h.lanes.ag k rfl, h.board.ag k rfl, ⟨last, hm.ag k rfl, n, xs, own_ag k ho rfl, hn, h1⟩, h.words.ag k rfl, h.nwords, h.wordlt, ⟨hs, h2, h3.ag k rfl, fun i hi => ?_⟩, h.nholds, ⟨h.below.1, h.below.2.1, h.below.2.2.1, Nat.le_trans h.below.2.2.2 k.size⟩, h.clock, h.count, ⟨arr, lv, c1.ag k rfl, c2, c3, c4, c5, Row.ag c6 k rfl⟩⟩
 obtain ⟨v, h5, h6⟩ := h4 i hi
 exact ⟨v, h5, h6.ag k⟩
theorem SysAt.ag {w w' : World} {B : Nat} {A : Adr} {m : Mem} {pd : Nat → Option (Live × Kont)} (h : SysAt w B A m pd) (hp : ∀ j, j < 64 → pd j = none) (k : Ag w w') : SysAt w' B A m pd := by
 obtain ⟨h1, ⟨arr, h2, h3, h4⟩, h5⟩ := h
 refine ⟨h1.ag k, ⟨arr, h2.ag k rfl, h3, fun who hw => ?_⟩, h5⟩
 obtain ⟨v, g1, g2⟩ := h4 who hw
 rw [hp who hw] at g2
 exact ⟨v, g1, (none_pend (pend_none g2)).trans' (hp who hw).symm⟩
theorem PolsAt.ag {w w' : World} {v : Value} {L : List Pol} (h : PolsAt w v L) (k : Ag w w') : PolsAt w' v L := Row.ag h k rfl
structure Only (t : TypeId) (base : Nat) (w w' : World) : Prop where
 bel : Below base w w'
 oth : ∀ (b : Nat) (a : Array Value) (t' : TypeId) (f : Nat × Nat), w.heap[b]? = some (.cells a t' f) → t' ≠ t → w'.heap[b]? = some (.cells a t' f)
theorem Only.ag {t : TypeId} {base : Nat} {w w' : World} (h : Only t base w w') (ht : alienT t = true) : Ag w w' :=
 ⟨h.bel.size, fun b a t' f e ht' => h.oth b a t' f e fun e' => alien_ne ht ht' e'⟩
theorem Only.bx {t : TypeId} {base : Nat} {w w' : World} (h : Only t base w w') {b : Nat} {t' : TypeId} {a : Array Value} (hb : Bx w b t' a) (ht : t' ≠ t) : Bx w' b t' a := h.oth _ _ _ _ hb ht
theorem Only.own {t : TypeId} {base : Nat} {w w' : World} (h : Only t base w w') {bs : Nat} {e : TypeId} {size n : Nat} {v : Value} {xs : List Value} (hr : w.ownsRow bs e size v n xs) (ht : e ≠ t) : w'.ownsRow bs e size v n xs := by
 obtain ⟨h1, h2⟩ := hr
 refine ⟨h1, h2.imp id ?_⟩
 rintro ⟨g, cap, cur, rfl, g1, g2, g3, g4, g5, g6⟩
 exact ⟨g, cap, cur, rfl, g1, h.oth _ _ _ _ g2 ht, g3, g4, g5, g6⟩
theorem Only.row {t : TypeId} {base : Nat} {w w' : World} (h : Only t base w w') {t' : TypeId} {size n : Nat} {v : Value} {xs : List Value} (hr : Row w t' size n v xs) (ht : t' ≠ t) : Row w' t' size n v xs := by
 obtain ⟨h1, a, c, h2, h3, h4, h5⟩ := hr
 refine ⟨h1, a, c, h2, h3, h4, fun hn => ?_⟩
 obtain ⟨b, off, arr, h6, h7, h8⟩ := h5 hn
 exact ⟨b, off, arr, h6, h.bx h7 ht, h8⟩
theorem Only.set {w : World} {base r i : Nat} {t : TypeId} {c : Array Value} (hr : Bx w r t c) (hb : base ≤ r) (u : Value) : Only t base w (w.setCell ⟨r, i, none⟩ u) := by
 refine ⟨(Below.refl _ _).setCell hb u, fun b a t' f e ht' => (Below.heap_setCell w ⟨r, i, none⟩ u b ?_).trans e⟩
 rintro rfl
 unfold Bx at hr
 rw [hr] at e
 injection e with e
 injection e with _ e _
 exact ht' e.symm
theorem Only.grown {w w' : World} {base : Nat} {e : TypeId} {size n : Nat} {v : Value} {xs : List Value} (hr : w.ownsRow base e size v n xs) (hg : w.grownBy w' v.ownBlock) (hb : base ≤ w.heap.size) : Only e base w w' := by
 refine ⟨(Below.refl base w).grown hg hb (fun q hq => (hr.lt q hq).1), fun b a t' f eb ht' => (hg.block b (lt_of_block eb) fun er => ?_).trans eb⟩
 rcases hr.2 with ⟨rfl, _⟩ | ⟨g', cap, cur, rfl, _, g2, _⟩
 · cases er
 · have er : b = g' := by simpa [Value.ownBlock] using er
   subst er
   rw [eb] at g2
   injection g2 with g2
   injection g2 with _ g2 _
   exact ht' g2
theorem Only.trans {t : TypeId} {base : Nat} {a b c : World} (h : Only t base a b) (k : Only t base b c) : Only t base a c := ⟨h.bel.trans k.bel, fun q x t' f e ht => k.oth q x t' f (h.oth q x t' f e ht) ht⟩
theorem Only.below {t : TypeId} {base : Nat} {w w' : World} (h : Below w.heap.size w w') (hb : base ≤ w.heap.size) : Only t base w w' := ⟨h.mono hb, fun b a t' f e _ => (h.block b (lt_of_block e)).trans e⟩
end Go.Proofs.YtemnhpdjoimjbaaGreat
end
section
namespace Go.Proofs.YtemnhpdjoimjbaaGreat
open Go.RowKit Top
set_option linter.unusedVariables false
theorem info_worker : (Tryz.prog.info? 112).map (fun i => (i.zero, i.size, i.bytes)) = some (some (.agg #[.slice none 0 0, .int .u8 0, .int .i64 0, .slice none 0 0, .int .i64 0, .int .i64 0]), 6, 80) := by kernel_rfl
theorem info_done : (Tryz.prog.info? 68).map (fun i => (i.zero, i.size, i.bytes)) = some (some (.agg #[.int .i64 0, .int .u8 0, .int .i64 0, .slice none 0 0, .int .i64 0, .int .i64 0, .int .i64 0, .int .i64 0, .bool false, .int .i64 0, .int .i64 0, .int .i64 0, .int .i64 0]), 13, 120) := by kernel_rfl
theorem info_reply : (Tryz.prog.info? 35).map (fun i => (i.zero, i.size, i.bytes)) = some (some (.agg rep0), 6, 48) := by kernel_rfl
theorem info_call : (Tryz.prog.info? 31).map (fun i => (i.zero, i.size, i.bytes)) = some (some (.agg #[.int .u8 0, .int .i64 0, .slice none 0 0, .int .i64 0]), 4, 48) := by kernel_rfl
theorem info_pick : (Tryz.prog.info? 60).map (fun i => (i.zero, i.size, i.bytes)) = some (some (.agg #[.int .i64 0, .int .i64 0]), 2, 16) := by kernel_rfl
def playV (K : Nat) (wv cv : Value) : Array Value := #[P K, wv, cv, .slice none 0 0, .int .i64 0, .int .i64 0, .int .i64 0, .int .i64 0]
def DoneOk (dn : List Value) (out : List Reply) : Prop := (∀ i r, out[i]? = some r → ∀ j u, (replyA r)[j]? = some u → dn[i * 13 + 7 + j]? = some u) ∧ ∀ i, i < out.length → ∃ (a o p : Int) (ka : Option Addr) (kl kc : Nat) (n f l : Int), ∀ (j : Nat) (u : Value), ([.int .i64 a, .int .u8 o, .int .i64 p, .slice ka kl kc, .int .i64 n, .int .i64 f, .int .i64 l] : List Value)[j]? = some u → dn[i * 13 + j]? = some u
theorem CallsAt.nil {w : World} {v : Value} {L : List Top.Call} (h : CallsAt w v L) : ∃ a c, v = .slice a L.length c := by
 obtain ⟨a, c, e, _⟩ := h
 exact ⟨a, c, e⟩
theorem CallsAt.tail {w : World} {a : Option Addr} {n c : Nat} {x : Top.Call} {L : List Top.Call} (h : CallsAt w (.slice a n c) (x :: L)) : ∃ b off kv, a = some ⟨b, off, none⟩ ∧ n = L.length + 1 ∧ n ≤ c ∧ c ≤ maxLen ∧ ByAt w kv x.key ∧ w.cell? ⟨b, off, none⟩ = some (.int .u8 (x.op : Nat)) ∧ w.cell? ⟨b, off + 1, none⟩ = some (.int .i64 x.pol) ∧ w.cell? ⟨b, off + 2, none⟩ = some kv ∧ w.cell? ⟨b, off + 3, none⟩ = some (.int .i64 x.n) ∧ ∀ a', (c ≠ 1 → a' = some ⟨b, off + 4, none⟩) → CallsAt w (.slice a' L.length (c - 1)) L := by
 obtain ⟨a', c', e, h1, h2, h3⟩ := h
 injection e with e1 e2 e3
 subst e1 e2 e3
 have h1 : L.length + 1 ≤ c := h1
 obtain ⟨b, off, rfl, h4⟩ := h3 (by simp)
 obtain ⟨kv, g0, g1, g2, g3, g4⟩ := h4 0 x rfl
 refine ⟨b, off, kv, rfl, rfl, h1, h2, g0, ?_, ?_, ?_, ?_, ?_⟩
 · simpa using g1
 · simpa using g2
 · simpa using g3
 · simpa using g4
 · intro a' ha'
   refine ⟨_, _, rfl, by omega, by omega, fun h0 => ⟨b, off + 4, ha' (by omega), fun j y hy => ?_⟩⟩
   obtain ⟨kv', k0, k1, k2, k3, k4⟩ := h4 (j + 1) y hy
   rw [show off + (j + 1) * 4 = off + 4 + j * 4 by omega] at k1 k2 k3 k4
   exact ⟨kv', k0, k1, k2, k3, k4⟩
abbrev repZ : Array Value := #[.slice none 0 0, .slice none 0 0, .int .i64 0, .int .i64 0, .int .i64 0, .int .i64 0]
theorem ok_report (k : Nat) : okT 63 k = true := by simp [okT]
structure Sit (w W0 : World) (B : Nat) (A : Adr) (m : Mem) (pd : Nat → Option (Live × Kont)) (pb wb cb : Nat) (pv arr ca : Array Value) (cv : Value) (k : Nat) (dn : List Value) : Prop where
 sys : SysAt w B A m pd
 play : Bx w pb 110 pv
 work : Bx w wb 112 arr
 conf : Bx w cb 54 ca
 rep : Bx w (cb + 1) 63 repZ
 below : Below W0.heap.size W0 w
 row : w.ownsRow W0.heap.size 68 13 cv k dn
 pb0 : W0.heap.size ≤ pb
 wb0 : W0.heap.size ≤ wb
 B0 : W0.heap.size ≤ B
section
variable {w w' W0 : World} {B : Nat} {A : Adr} {m m' : Mem} {pd pd' : Nat → Option (Live × Kont)} {pb wb cb : Nat} {pv arr ca : Array Value} {cv : Value} {k : Nat} {dn : List Value}
theorem Sit.later (h : Sit w W0 B A m pd pb wb cb pv arr ca cv k dn) (hb : Below w.heap.size w w') : Sit w' W0 B A m pd pb wb cb pv arr ca cv k dn :=
 ⟨h.sys.keep hb, h.play.below hb h.play.lt, h.work.below hb h.work.lt, h.conf.below hb h.conf.lt, h.rep.below hb h.rep.lt, below_then h.below hb, ownsRow_below h.row hb, h.pb0, h.wb0, h.B0⟩
theorem Sit.fz (h : Sit w W0 B A m pd pb wb cb pv arr ca cv k dn) (hs : SysAt w' B A m' pd') (hf : Fz B w w') : Sit w' W0 B A m' pd' pb wb cb pv arr ca cv k dn := by
 obtain ⟨X, hx⟩ := id hf
 exact ⟨hs, h.play.kz hf (ok_play _), h.work.kz hf (ok_worker _), h.conf.kz hf (ok_config _), h.rep.kz hf (ok_report _), hf.later h.B0 h.below, own_keep hx h.row ok_done, h.pb0, h.wb0, h.B0⟩
theorem Sit.set (h : Sit w W0 B A m pd pb wb cb pv arr ca cv k dn) (i : Nat) (u : Value) : Sit (w.setCell ⟨wb, i, none⟩ u) W0 B A m pd pb wb cb pv (arr.setIfInBounds i u) ca cv k dn := by
 refine ⟨h.sys.stw h.work, h.play.stw h.work (by decide), h.work.setCell i u, h.conf.stw h.work (by decide), h.rep.stw h.work (by decide), h.below.setCell h.wb0 u, ?_, h.pb0, h.wb0, h.B0⟩
 obtain ⟨h1, h2⟩ := h.row
 refine ⟨h1, h2.imp id ?_⟩
 rintro ⟨g, cap, cur, rfl, g1, g2, g3, g4, g5, g6⟩
 exact ⟨g, cap, cur, rfl, g1, Bx.stw g2 h.work (by decide), g3, g4, g5, g6⟩
theorem Sit.done {cv' : Value} {k' : Nat} {dn' : List Value} (h : Sit w W0 B A m pd pb wb cb pv arr ca cv k dn) (hp : ∀ j, j < 64 → pd j = none) (hg : w.grownBy w' cv.ownBlock) (hr : w'.ownsRow W0.heap.size 68 13 cv' k' dn') (i : Nat) : Sit (w'.setCell ⟨pb, i, none⟩ cv') W0 B A m pd pb wb cb (pv.setIfInBounds i cv') arr ca cv' k' dn' := by
 have ho := Only.grown h.row hg h.below.size
 have hpl := ho.bx h.play (by decide)
 have ho2 := Only.set (i := i) hpl h.pb0 cv'
 exact ⟨(h.sys.ag hp (ho.ag (by decide))).ag hp (ho2.ag (by decide)), hpl.setCell i _, ho2.bx (ho.bx h.work (by decide)) (by decide), ho2.bx (ho.bx h.conf (by decide)) (by decide), ho2.bx (ho.bx h.rep (by decide)) (by decide), (h.below.trans ho.bel).trans ho2.bel, ho2.own hr (by decide), h.pb0, h.wb0, h.B0⟩
end
structure Wk (arr : Array Value) (l : Value) (o p : Int) (ka : Option Addr) (kl kc : Nat) (n f : Int) : Prop where
 c0 : arr[0]? = some (l)
 c1 : arr[1]? = some (.int .u8 o)
 c2 : arr[2]? = some (.int .i64 p)
 c3 : arr[3]? = some (.slice ka kl kc)
 c4 : arr[4]? = some (.int .i64 n)
 c5 : arr[5]? = some (.int .i64 f)
theorem Wk.lt {arr : Array Value} {l : Value} {o p : Int} {ka : Option Addr} {kl kc : Nat} {n f : Int} (h : Wk arr l o p ka kl kc n f) : 5 < arr.size := by
 have := h.c5
 rcases Nat.lt_or_ge 5 arr.size with h | h
 · exact h
 · rw [Array.getElem?_eq_none h] at this; cases this
section
variable {arr : Array Value} {l : Value} {o p : Int} {ka : Option Addr} {kl kc : Nat} {n f : Int}
theorem Wk.set0 (h : Wk arr l o p ka kl kc n f) (u : Value) : Wk (arr.setIfInBounds 0 u) u o p ka kl kc n f := by
 have := h.lt
 exact ⟨Array.getElem?_setIfInBounds_self_of_lt (by omega), by rw [Array.getElem?_setIfInBounds_ne (by decide)]; exact h.c1, by rw [Array.getElem?_setIfInBounds_ne (by decide)]; exact h.c2, by rw [Array.getElem?_setIfInBounds_ne (by decide)]; exact h.c3, by rw [Array.getElem?_setIfInBounds_ne (by decide)]; exact h.c4, by rw [Array.getElem?_setIfInBounds_ne (by decide)]; exact h.c5⟩
theorem Wk.set1 (h : Wk arr l o p ka kl kc n f) (o' : Int) : Wk (arr.setIfInBounds 1 (.int .u8 o')) l o' p ka kl kc n f := by
 have := h.lt
 exact ⟨by rw [Array.getElem?_setIfInBounds_ne (by decide)]; exact h.c0, Array.getElem?_setIfInBounds_self_of_lt (by omega), by rw [Array.getElem?_setIfInBounds_ne (by decide)]; exact h.c2, by rw [Array.getElem?_setIfInBounds_ne (by decide)]; exact h.c3, by rw [Array.getElem?_setIfInBounds_ne (by decide)]; exact h.c4, by rw [Array.getElem?_setIfInBounds_ne (by decide)]; exact h.c5⟩
theorem Wk.set2 (h : Wk arr l o p ka kl kc n f) (p' : Int) : Wk (arr.setIfInBounds 2 (.int .i64 p')) l o p' ka kl kc n f := by
 have := h.lt
 exact ⟨by rw [Array.getElem?_setIfInBounds_ne (by decide)]; exact h.c0, by rw [Array.getElem?_setIfInBounds_ne (by decide)]; exact h.c1, Array.getElem?_setIfInBounds_self_of_lt (by omega), by rw [Array.getElem?_setIfInBounds_ne (by decide)]; exact h.c3, by rw [Array.getElem?_setIfInBounds_ne (by decide)]; exact h.c4, by rw [Array.getElem?_setIfInBounds_ne (by decide)]; exact h.c5⟩
theorem Wk.set3 (h : Wk arr l o p ka kl kc n f) (ka' : Option Addr) (kl' kc' : Nat) : Wk (arr.setIfInBounds 3 (.slice ka' kl' kc')) l o p ka' kl' kc' n f := by
 have := h.lt
 exact ⟨by rw [Array.getElem?_setIfInBounds_ne (by decide)]; exact h.c0, by rw [Array.getElem?_setIfInBounds_ne (by decide)]; exact h.c1, by rw [Array.getElem?_setIfInBounds_ne (by decide)]; exact h.c2, Array.getElem?_setIfInBounds_self_of_lt (by omega), by rw [Array.getElem?_setIfInBounds_ne (by decide)]; exact h.c4, by rw [Array.getElem?_setIfInBounds_ne (by decide)]; exact h.c5⟩
theorem Wk.set4 (h : Wk arr l o p ka kl kc n f) (n' : Int) : Wk (arr.setIfInBounds 4 (.int .i64 n')) l o p ka kl kc n' f := by
 have := h.lt
 exact ⟨by rw [Array.getElem?_setIfInBounds_ne (by decide)]; exact h.c0, by rw [Array.getElem?_setIfInBounds_ne (by decide)]; exact h.c1, by rw [Array.getElem?_setIfInBounds_ne (by decide)]; exact h.c2, by rw [Array.getElem?_setIfInBounds_ne (by decide)]; exact h.c3, Array.getElem?_setIfInBounds_self_of_lt (by omega), by rw [Array.getElem?_setIfInBounds_ne (by decide)]; exact h.c5⟩
theorem Wk.set5 (h : Wk arr l o p ka kl kc n f) (f' : Int) : Wk (arr.setIfInBounds 5 (.int .i64 f')) l o p ka kl kc n f' := by
 have := h.lt
 exact ⟨by rw [Array.getElem?_setIfInBounds_ne (by decide)]; exact h.c0, by rw [Array.getElem?_setIfInBounds_ne (by decide)]; exact h.c1, by rw [Array.getElem?_setIfInBounds_ne (by decide)]; exact h.c2, by rw [Array.getElem?_setIfInBounds_ne (by decide)]; exact h.c3, by rw [Array.getElem?_setIfInBounds_ne (by decide)]; exact h.c4, Array.getElem?_setIfInBounds_self_of_lt (by omega)⟩
end
structure PlayS (w W0 : World) (B : Nat) (A : Adr) (pb wb cb wc : Nat) (ca : Array Value) (p : Top.Play) : Prop where
 cap : 1 ≤ wc ∧ wc ≤ maxLen
 at_ : ∃ arr lv cv dn, Sit w W0 B A p.s.m p.s.pd pb wb cb (playV A.K (.slice (some ⟨wb, 0, none⟩) 1 wc) cv) arr ca cv p.out.length dn ∧ (∃ o q ka kl kc n f, Wk arr lv o q ka kl kc n f) ∧ CallsAt W0 lv p.left ∧ DoneOk dn p.out
set_option maxHeartbeats 4000000 in
set_option maxRecDepth 100000 in
theorem simstep_off (B : Nat) (A : Adr) (p : Top.Play) (w W0 : World) {pb wb cb wc : Nat} {ca : Array Value} (h : PlayS w W0 B A pb wb cb wc ca p) (h0 : p.s.pd 0 = none) (hl : p.left = []) :
   Calls Tryz.prog 33 #[P pb, .int .i64 0] w fun e w' => e = .returned (.bool false) ∧ w = w' := by
 obtain ⟨hcap, arr, lv, cv, dn, hs, ⟨o1, o2, o3, o4, o5, o6, o7, hwk⟩, hle, hdn⟩ := h
 have Kp : Hid (Calls Tryz.prog 34 #[P A.K, .int .i64 0] w fun e w' => e = .returned (.bool false) ∧ w = w') := by
   have := pending_sys B A p.s.m p.s.pd 0 w hs.sys (by decide)
   rwa [h0] at this
 obtain ⟨a, c, rfl⟩ := hle.nil
 have c0 : w.cell? ⟨pb, 0, none⟩ = some (P A.K) := hs.play.cell 0
 have c1 : w.cell? ⟨pb, 1, none⟩ = some (.slice (some ⟨wb, 0, none⟩) 1 wc) := hs.play.cell 1
 have d0 : w.cell? ⟨wb, 0, none⟩ = some (.slice a p.left.length c) := by rw [hs.work.cell]; exact hwk.c0
 rw [hl] at d0
 have d0 : w.cell? ⟨wb, 0, none⟩ = some (.slice a 0 c) := d0
 clear hs h0 hl hwk hle hdn hcap
 go_enter Tryz.func33, Tryz.ntmps33
 go_wp2_with (go_at_call 34; (with_reducible refine Kp.out.mono ?_); rintro e w1 ⟨rfl, rfl⟩)
 go_ret
 exact ⟨rfl, rfl⟩
end Go.Proofs.YtemnhpdjoimjbaaGreat
end
section
namespace Go.Proofs.YtemnhpdjoimjbaaGreat.Top
set_option linter.unusedVariables false
section
variable {B : Below} {list : List Pol} {room : Nat}
theorem stepS_oth {s : Sys} {who j : Nat} (h : j ≠ who) : (stepS list room B s who).1.pd j = s.pd j := by
 unfold stepS
 split
 · rfl
 · unfold stepO
   split <;> exact setP_ne _ _ h
theorem startS_oth {s : Sys} {who j : Nat} {c : Call} (h : j ≠ who) : (startS s who c).pd j = s.pd j := by
 unfold startS
 split
 · exact setP_ne _ _ h
 · rfl
theorem stepS_off {s : Sys} {who : Nat} (h : (stepS list room B s who).2.1 = true) : (stepS list room B s who).1.pd who = none := by
 unfold stepS at h ⊢
 split
 · rename_i e
   rw [e] at h
   cases h
 · rename_i x k e
   rw [e] at h
   dsimp only at h
   unfold stepO at h ⊢
   generalize stepF B list room k x s.m = o at *
   obtain ⟨o1, x1, m1⟩ := o
   cases o1 with
   | inl k1 => cases h
   | inr r => exact setP_self _ _ _
structure PlayOk (B : Below) (list : List Pol) (room : Nat) (cs : List Call) (n : Nat) (p : Play) : Prop where
 ok : SysOk list room p.s n
 oth : ∀ j, 0 < j → p.s.pd j = none
 left : ∃ k, p.left = cs.drop k
 len : p.out.length + p.left.length + (if (p.s.pd 0).isSome then 1 else 0) = cs.length
def Opens (p : Play) (s1 : Sys) (l1 : List Call) (x1 : Live) (k1 : Kont) : Prop :=
 (p.s.pd 0 = some (x1, k1) ∧ s1 = p.s ∧ l1 = p.left) ∨ ∃ c, p.s.pd 0 = none ∧ p.left = c :: l1 ∧ s1 = startS p.s 0 c ∧ x1 = liveOf c ∧ k1 = firstK c
theorem opens_or (p : Play) : (p.s.pd 0 = none ∧ p.left = []) ∨ ∃ s1 l1 x1 k1, Opens p s1 l1 x1 k1 := by
 cases e : p.s.pd 0 with
 | some v => exact .inr ⟨p.s, p.left, v.1, v.2, .inl ⟨e, rfl, rfl⟩⟩
 | none =>
   cases e2 : p.left with
   | nil => exact .inl ⟨rfl, rfl⟩
   | cons c l => exact .inr ⟨_, l, _, _, .inr ⟨c, e, e2, rfl, rfl, rfl⟩⟩
theorem Opens.pd {p : Play} {s1 : Sys} {l1 : List Call} {x1 : Live} {k1 : Kont} (h : Opens p s1 l1 x1 k1) : s1.pd 0 = some (x1, k1) := by
 rcases h with ⟨h, rfl, _⟩ | ⟨c, h, _, rfl, rfl, rfl⟩
 · exact h
 · rw [startS_none c h]
   exact setP_self p.s.pd 0 _
theorem Opens.step {p : Play} {s1 : Sys} {l1 : List Call} {x1 : Live} {k1 : Kont} (h : Opens p s1 l1 x1 k1) : simStep B list room p = ⟨(stepS list room B s1 0).1, l1, if (stepS list room B s1 0).2.1 then p.out ++ [(stepS list room B s1 0).2.2] else p.out⟩ := by
 have hp := h.pd
 have hon := simStep_on B list room l1 p.out (s := s1) (by rw [hp]; rfl)
 rw [← hon]
 rcases h with ⟨h, rfl, rfl⟩ | ⟨c, h, e, rfl, rfl, rfl⟩
 · rfl
 · rw [← simStep_start B list room c l1 p.out h, ← e]
theorem PlayOk.opens {cs : List Call} {n : Nat} {p : Play} (h : PlayOk B list room cs n p) (hc : ∀ c ∈ cs, CallIn list c) {s1 : Sys} {l1 : List Call} {x1 : Live} {k1 : Kont} (ho : Opens p s1 l1 x1 k1) :
   SysOk list room s1 n ∧ (∀ j, 0 < j → s1.pd j = none) ∧ (∃ k, l1 = cs.drop k) ∧ p.out.length + l1.length + 1 = cs.length := by
 have hl := h.len
 rcases ho with ⟨e, rfl, rfl⟩ | ⟨c, e, e2, rfl, rfl, rfl⟩
 · refine ⟨h.ok, h.oth, h.left, ?_⟩
   rw [e] at hl
   exact hl
 · rw [e, e2] at hl
   obtain ⟨k, hk⟩ := h.left
   have hmem : c ∈ cs := List.mem_of_mem_drop (by rw [← hk, e2]; exact List.mem_cons_self ..)
   refine ⟨h.ok.start (by decide) (hc c hmem), fun j hj => (startS_oth (by omega)).trans (h.oth j hj), ⟨k + 1, ?_⟩, by simp at hl; omega⟩
   rw [← List.drop_drop, ← hk, e2]
   rfl
theorem PlayOk.step (hB : Sound B) (T : TabOk list room) {cs : List Call} {n : Nat} {p : Play} (h : PlayOk B list room cs n p) (hc : ∀ c ∈ cs, CallIn list c) (hn : n < 4611686018427387900) : PlayOk B list room cs (n + 1) (simStep B list room p) := by
 rcases opens_or p with ⟨e1, e2⟩ | ⟨s1, l1, x1, k1, ho⟩
 · have : simStep B list room p = p := by unfold simStep; rw [e1, e2]
   rw [this]
   exact ⟨h.ok.mono (by omega), h.oth, h.left, h.len⟩
 · obtain ⟨h1, h2, h3, h4⟩ := h.opens hc ho
   have hp := ho.pd
   rw [ho.step]
   refine ⟨h1.step hB T (by decide) hn, fun j hj => (stepS_oth (by omega)).trans (h2 j hj), h3, ?_⟩
   dsimp only
   cases hd : (stepS list room B s1 0).2.1 with
   | true =>
     rw [stepS_off hd]
     simp only [if_true, List.length_append, List.length_singleton]
     simp
     omega
   | false =>
     have := stepS_on B list room (by rw [hp]; rfl) hd
     rw [this]
     simp
     omega
theorem PlayOk.tick {cs : List Call} {n : Nat} {p : Play} (h : PlayOk B list room cs n p) {t : Int} (h0 : 0 ≤ t) (h1 : t ≤ 4611686018427387903) : PlayOk B list room cs n ⟨addT p.s t, p.left, p.out⟩ := ⟨h.ok.tick h0 h1, h.oth, h.left, h.len⟩
theorem simRun_snoc (tk : Int → Int → Int) (l : List Pick) (x : Pick) (p : Play) : simRun B list room tk (l ++ [x]) p = simPick B list room tk (simRun B list room tk l p) x := by
 unfold simRun
 rw [List.foldl_append]
 rfl
theorem PlayOk.pick (hB : Sound B) (T : TabOk list room) {tk : Int → Int → Int} (htk : ∀ a b, 0 ≤ tk a b ∧ tk a b ≤ 4611686018427387903) {cs : List Call} {n : Nat} {p : Play} (h : PlayOk B list room cs n p) (hc : ∀ c ∈ cs, CallIn list c) (hn : n < 4611686018427387900) (x : Pick) : PlayOk B list room cs (n + 1) (simPick B list room tk p x) := by
 unfold simPick
 split
 · have := (h.tick (htk p.s.m.clock x.ticks).1 (htk p.s.m.clock x.ticks).2)
   exact ⟨this.ok.mono (by omega), this.oth, this.left, this.len⟩
 · exact h.step hB T hc hn
end
end Go.Proofs.YtemnhpdjoimjbaaGreat.Top
end
