import Derived.Test.YtemnhpdjoimjbaaGreatTf31
import Derived.Test.YtemnhpdjoimjbaaGreatTf37
namespace Go.Proofs.YtemnhpdjoimjbaaGreat
open Go.RowKit Top
set_option linter.unusedVariables false
theorem CoreAt.c0 {w : World} {A : Adr} (h : CoreAt w A) : ∃ lv, w.cell? ⟨A.K, 0, none⟩ = some lv ∧ PolsAt w lv A.list ∧ A.K < w.heap.size := by
  obtain ⟨arr, lv, h1, h2, h3, h4, h5, h6⟩ := h
  exact ⟨lv, (h1.cell 0).trans h3, h6, h1.lt⟩
set_option maxHeartbeats 4000000 in
set_option maxRecDepth 100000 in
theorem step_evictClock (B : Nat) (E : Env) (x : Live) (m : Mem) (j shards : Nat) (gone : Int) (word u : Nat) (cells : List Cell) (v : Value) (w : World) (hk : KontAt w E v (.evictClock j shards gone word u cells)) (hj : j < 65535) (hsh : shards < 65536) (hs : St w B E.A m) (hcl : CallAt w E x) (ok : E.Ok m) (hne : cells ≠ []) (hin : ∀ c ∈ cells, c.pol < E.A.list.length) :
    ∃ fn ps, v = .func (.func fn) #[] ps ∧ Enters fn ∧ Calls Tryz.prog fn ps w (ORes w B E (stepF BlV E.A.list E.A.room (.evictClock j shards gone word u cells) x m)) := by
  obtain ⟨b0, b1, cv, b2, fv, b3, b4, b5, rfl, h0, h1, hcv, h2, hfv, h3, h4, h5⟩ := hk
  refine ⟨_, _, rfl, enters_of Tryz.func99 (by kernel_rfl) rfl, ?_⟩
  have hwf := hcv.wf
  obtain ⟨xs, hxs, hr, hxo, _⟩ := hcv
  have hfew : xs.length ≤ 1048576 := by have := hwf.few; rw [← hxs, List.length_map] at this; exact this
  have hpos : 0 < xs.length := by
    cases xs with
    | nil => exact absurd hxs.symm hne
    | cons x xs => simp
  obtain ⟨ca, cc, rfl⟩ : ∃ a c, cv = .slice a xs.length c := by obtain ⟨_, a, c, e, _⟩ := hr; exact ⟨a, c, e⟩
  have hff : Func1 fv := by obtain ⟨_, _, _, e, _⟩ := hfv; exact ⟨_, _, e⟩
  obtain ⟨ff, fps, rfl⟩ := hff
  have hq : ∀ y ∈ xs, 0 ≤ y.c.pol ∧ y.c.pol < E.A.list.length ∧ y.c.held.length ≤ 64 := fun y hy => by
    have hm : y.c ∈ cells := by rw [← hxs]; exact List.mem_map_of_mem hy
    have okc := hwf.ok _ hm
    exact ⟨okc.pol0, hin _ hm, okc.few⟩
  have hmapF : (xs.filter fun y => !idleF E.A.list y.c m.clock).map CV.c = cells.filter fun c => !idleF E.A.list c m.clock := by
    rw [← hxs, List.filter_map]
    rfl
  obtain ⟨rest, hrest⟩ : ∃ rest, rest = cells.filter fun c => !idleF E.A.list c m.clock := ⟨_, rfl⟩
  have hwr : WfL rest := by rw [hrest]; exact hwf.filter _
  rw [← hrest] at hmapF
  have hlenR : (xs.filter fun y => !idleF E.A.list y.c m.clock).length = rest.length := by rw [← hmapF, List.length_map]
  have hlenX : xs.length = cells.length := by rw [← hxs, List.length_map]
  have hle : rest.length ≤ xs.length := by rw [hlenX, hrest]; exact List.length_filter_le _ _
  have hstep : stepF BlV E.A.list E.A.room (.evictClock j shards gone word u cells) x m = if xs.length - rest.length = 0 then further j shards gone x m.touch else more (.evictSwap j shards gone word u rest (xs.length - rest.length)) x m.touch := by
    rw [hlenX, hrest]
    rfl
  have Hstep := Lib.hid hstep
  have W0 := Lib.hid (Was.start hs hcl)
  have HB0 := Lib.hid hs.below.2.2.2
  have H := Lib.hid (And.intro h0 (And.intro h1 (And.intro h2 (And.intro h3 (And.intro h4 (And.intro h5 hfv))))))
  have Hr := Lib.hid hr; have Hxo := Lib.hid hxo; have Hq := Lib.hid hq; have Hj := Lib.hid hj; have Hsh := Lib.hid hsh; have Hok := Lib.hid ok
  have HF : Hid ((xs.filter fun y => !idleF E.A.list y.c m.clock).map CV.c = rest ∧ (xs.filter fun y => !idleF E.A.list y.c m.clock).length = rest.length ∧ WfL rest) := ⟨hmapF, hlenR, hwr⟩
  have hb0 := h0.lt; have hb1 := h1.lt; have hb2 := h2.lt; have hb3 := h3.lt
  have c0 := h0.at0
  clear hs hcl ok h0 h1 h2 h3 h4 h5 hfv hr hxo hq hj hsh hxs hmapF hlenR hlenX hrest hwr hstep hin hne hwf
  go_enter Tryz.func99, Tryz.ntmps99
  go_wp2_with fail
  refine calls_name (fun u => Was w B E x m u ∧ Bx u w.heap.size 37 res0) ⟨W0.out.later (below_allocs [_] w), bx_allocs w [_] 0 rfl⟩ ?_
  rintro y0 ⟨hw0, hl0⟩
  (refine (cnow_any B E x m y0 hw0.st hw0.call Hok.out).mono ?_)
  rintro e w1 ⟨rfl, hn⟩
  have hw1 := hw0.noted hn
  have hf1 := (hn.acc hw0.st).2
  have hl1 := hl0.keep hf1 rfl
  have c1 := (H.out.2.1.keep hw1.fr rfl).at0
  have hb1' := (H.out.2.1.keep hw1.fr rfl).lt
  have Hw1 := Lib.hid hw1; have Hl1 := Lib.hid hl1
  clear hw0 hl0 hn hw1 hf1 hl1 c0 hb0
  go_wp2_with fail
  refine calls_name (fun u => Was w B E x m.touch u ∧ Bx u w.heap.size 37 res0 ∧ Bx u w1.heap.size 2 #[.int .i64 m.clock]) ⟨Hw1.out.later (below_allocs [_] w1), Hl1.out.alloc _, Bx.new w1 _ _⟩ ?_
  rintro W2 ⟨hw2, hl2, hn2⟩
  have hr2 := Hr.out.keep hw2.fr (by simp [okT])
  (refine (clone_cells _ xs W2 hr2 (fun x hx => (Hxo.out x hx).keep hw2.fr) hfew).mono ?_)
  rintro e w3 ⟨v', rfl, hown, hb3'⟩
  obtain ⟨g, cap, rfl⟩ : ∃ g cap, v' = .slice (some ⟨g, 0, none⟩) xs.length cap := by
    rcases hown.2 with ⟨_, e⟩ | ⟨g, cap, cur, e, _⟩
    · omega
    · exact ⟨g, cap, e⟩
  have Kd : Hid (Calls Tryz.prog 101 #[.slice (some ⟨g, 0, none⟩) xs.length cap, .func (.func 103) #[] #[P b0, P w1.heap.size]] w3 fun e w' => ∃ a m' c, e = .returned (.slice a m' c) ∧ m' = (xs.filter fun y => !idleF E.A.list y.c m.clock).length ∧ Row w' 45 4 m' (.slice a m' c) (encs (xs.filter fun y => !idleF E.A.list y.c m.clock)) ∧ Below W2.heap.size w3 w') :=
    deletefunc_any xs (fun y => idleF E.A.list y.c m.clock) 103 #[P b0, P w1.heap.size] W2.heap.size g cap w3 (enters_of Tryz.func103 (by kernel_rfl) rfl) hfew hown
      (fun y hy => by
        obtain ⟨⟨_, _, a, c, e, _⟩, _, a', c', e', _⟩ := Hxo.out y hy
        exact ⟨⟨a, _, c, e⟩, ⟨a', _, c', e'⟩⟩)
      (fun y hy W hb => by
        have hbW : Below W2.heap.size W2 W := hb3'.trans hb
        have hW := hw2.later hbW
        obtain ⟨lv, hc0, hpl, hK⟩ := hW.st.core.c0
        obtain ⟨⟨_, _, a, c, e, _⟩, _⟩ := Hxo.out y hy
        obtain ⟨q1, q2, q3⟩ := Hq.out y hy
        exact evict_ask E b0 w1.heap.size y.c y.kv y.hv lv m.clock W (H.out.1.keep hW.fr rfl) hW.call.c4 hc0 hpl (hn2.below hbW hn2.lt) ⟨a, _, c, e⟩ ((Hxo.out y hy).2.keep hW.fr) q3 q1 q2 hW.call.lt hK) hb3'.size
  have Hb3 := Lib.hid hb3'; have Hw2 := Lib.hid hw2; have Hl2 := Lib.hid hl2
  clear hw2 hl2 hn2 hr2 hown hb3' c1 hb1'
  go_wp2_with fail
  (with_reducible refine Kd.out.mono ?_)
  rintro e w4 ⟨ra, m', rc, rfl, hm', hrow, hb4⟩
  have hb24 : Below W2.heap.size W2 w4 := Hb3.out.trans hb4
  have hw4 := Hw2.out.later hb24
  have hl4 := Hl2.out.below hb24 Hl2.out.lt
  rw [HF.out.2.1] at hm'
  subst hm'
  have hcr : CellsAt w4 (.slice ra rest.length rc) rest := ⟨_, HF.out.1, by rw [HF.out.2.1]; exact hrow, fun y hy => (Hxo.out y (List.mem_filter.1 hy).1).keep hw4.fr, HF.out.2.2⟩
  have c1 := (H.out.2.1.keep hw4.fr rfl).at0
  have c2 := (H.out.2.2.1.keep hw4.fr rfl).at0
  have c3 := (H.out.2.2.2.1.keep hw4.fr rfl).at0
  have q1 := (H.out.2.1.keep hw4.fr rfl).lt
  have q2 := (H.out.2.2.1.keep hw4.fr rfl).lt
  have q3 := (H.out.2.2.2.1.keep hw4.fr rfl).lt
  have hw64 : IntKind.i64.wrap ((xs.length : Int) - (rest.length : Int)) = ((xs.length - rest.length : Nat) : Int) := by rw [IntKind.wrap_i64]; omega
  have Hw4 := Lib.hid hw4; have Hl4 := Lib.hid hl4; have Hcr := Lib.hid hcr
  clear hb4 hrow hb24 hw4 hl4 hcr Kd HF Hb3 Hw2 Hl2 Hq Hxo Hr Hw1 Hl1 hb1 hb2 hb3 hle
  generalize hN : xs.length - rest.length = N at *
  by_cases hz : N = 0
  · subst hz
    have hw64' : IntKind.i64.wrap ((xs.length : Int) - (rest.length : Int)) = 0 := hw64
    have Hw5 := Lib.hid (Hw4.out.later (below_allocs [.cells #[.slice ra rest.length rc] 40, .cells #[.int .i64 0] 3] w4))
    have Hl5 := Lib.hid (Hl4.out.below (below_allocs [.cells #[.slice ra rest.length rc] 40, .cells #[.int .i64 0] 3] w4) Hl4.out.lt)
    obtain ⟨f, ps, hfe, hef, kt⟩ := further_any B E x m.touch j shards gone _ _ (H.out.2.2.2.2.2.2.keep Hw5.out.fr) Hw5.out.st Hw5.out.call Hj.out Hsh.out
    injection hfe with e1 e2 e3
    subst e1 e3
    unfold Enters at hef
    have Kt := Lib.hid kt
    clear kt hw64 hN
    go_wp2_with (go_at_fn f; (refine (Kt.out).mono ?_); rintro e w6 h; obtain ⟨v, d, a, rfl, ha⟩ := Ans.of h; have hr3 := Hl5.out.keep ha.fr rfl; obtain ⟨r0, r1, r2, r3, r4, r5, r6⟩ := res_cells hr3; obtain ⟨f0, f1, f2, f3, f4, f5, f6⟩ := res_free hr3; have Hr3 := Lib.hid hr3; have Ha := Lib.hid ha; clear hr3 ha h)
    rw [Hstep.out, if_pos trivial]
    exact bodyPost_ret (v := .tuple #[v, .agg (resA d a)]) (by simp [results, Tryz.results99, go_sem, r0, r1, r2, r3, r4, r5, r6]) rfl ((Ha.out.pre Hw5.out.fr).store Hr3.out (Nat.le_refl _) HB0.out).ores
  · have hzi : ¬ (N : Int) = 0 := by omega
    have Hw5 := Lib.hid (Hw4.out.later (below_allocs [.cells #[.slice ra rest.length rc] 40, .cells #[.int .i64 (N : Nat)] 3] w4))
    have Hl5 := Lib.hid (Hl4.out.below (below_allocs [.cells #[.slice ra rest.length rc] 40, .cells #[.int .i64 (N : Nat)] 3] w4) Hl4.out.lt)
    have Hk5 : Hid (KontAt (allocs w4 [.cells #[.slice ra rest.length rc] 40, .cells #[.int .i64 (N : Nat)] 3]) E (.func (.func 105) #[] #[P b0, P b4, P b5, P w4.heap.size, P b2, P b3, P (w4.heap.size + 1)]) (.evictSwap j shards gone word u rest N)) :=
      ⟨b0, b4, b5, w4.heap.size, .slice ra rest.length rc, b2, _, b3, w4.heap.size + 1, rfl, H.out.1.keep Hw5.out.fr rfl, H.out.2.2.2.2.1.keep Hw5.out.fr rfl, H.out.2.2.2.2.2.1.keep Hw5.out.fr rfl, bx_allocs w4 [_, _] 0 rfl, Hcr.out.keep (fr0 (below_allocs [_, _] w4)), H.out.2.2.1.keep Hw5.out.fr rfl, H.out.2.2.2.2.2.2.keep Hw5.out.fr, H.out.2.2.2.1.keep Hw5.out.fr rfl, bx_allocs w4 [_, _] 1 rfl⟩
    clear hN
    go_wp2_with (go_at_call 68; (refine (con_any _ _).mono ?_); rintro e w6 ⟨rfl, hb⟩; have hr3 := Hl5.out.keep (fr0 hb) rfl; have hw6 := Hw5.out.later hb; have hk6 := Hk5.out.keep (fr0 hb); obtain ⟨r0, r1, r2, r3, r4, r5, r6⟩ := res_cells hr3; obtain ⟨f0, f1, f2, f3, f4, f5, f6⟩ := res_free hr3; have Hr3 := Lib.hid hr3; have HW6 := Lib.hid hw6; have Hk6 := Lib.hid hk6; clear hr3 hw6 hk6 hb)
    rw [Hstep.out, if_neg (by omega)]
    exact bodyPost_ret (v := .tuple #[.func (.func 105) #[] #[P b0, P b4, P b5, P w4.heap.size, P b2, P b3, P (w4.heap.size + 1)], .agg (resA false (err 0))]) (by simp [results, Tryz.results99, go_sem, r0, r1, r2, r3, r4, r5, r6]) rfl ((Ans.more HW6.out Hk6.out).store Hr3.out (Nat.le_refl _) HB0.out).ores
end Go.Proofs.YtemnhpdjoimjbaaGreat
