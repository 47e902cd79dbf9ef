/- MeterAdds' walk. -/
import Derived.Test.YtecbbdbeihiioaaMtO
namespace Go.Proofs.Ytecbbdbeihiioaa
open Go.RowKit
set_option linter.unusedVariables false

attribute [local go_sem] run_store_float'

/-- New and New are one. -/
theorem news_same (w : World) : Calls Try.prog 17 #[mtV mt0, mtV mt0] w fun e w' => e = .returned (.bool true) ∧ Below w.heap.size w w' := same_mt mt0 mt0 w mt0_ok mt0_ok (mtSim.refl _)

set_option maxRecDepth 100000 in
set_option maxHeartbeats 16000000 in
theorem adds_core (N Bad : Int) (S L Lo Hi Me Sp x : Nat) (w : World) (hm : (⟨0, 0, S, L, Lo, Hi, Me, Sp⟩ : Mt).Ok) (hx : x < 18446744073709551616) (hN : ¬ N.tmod 9007199254740992 < 0) :
    Calls Try.prog 8 #[figV ⟨N, Bad, S, L, Lo, Hi, Me, Sp⟩, .int .u64 (x : Int)] w fun e w' => e = .returned (.bool true) ∧ Below w.heap.size w w' := by
  have Kw := Lib.hid (fun v => awake8 v)
  have Kn := Lib.hid (fun v => new_any v)
  have Kr := Lib.hid (fun v => new_ref v)
  have Ks := Lib.hid (fun v => news_same v)
  unfold mtV mt0 at Kn Kr Ks
  have Km := Lib.hid (fun a b v => made_any a b S L Lo Hi Me Sp v)
  unfold figV mtV at Km
  unfold figV
  go_enter Try.func8, Try.ntmps8
  go_wp2_with fail
  with_reducible refine (Kw.out _).mono ?_
  rintro e w1 ⟨rfl, hb⟩
  have Hb1 := Lib.hid (hb)
  clear hb
  go_wp2_with fail
  with_reducible refine (Kn.out _).mono ?_
  rintro e w2 ⟨rfl, hb⟩
  have Hb2 := Lib.hid (Hb1.out.trans (hb.mono Hb1.out.size))
  clear hb
  go_wp2_with fail
  with_reducible refine (Kr.out _).mono ?_
  rintro e w3 ⟨rfl, hb⟩
  have Hb3 := Lib.hid (Hb2.out.trans (hb.mono Hb2.out.size))
  clear hb
  go_wp2_with fail
  with_reducible refine (Ks.out _).mono ?_
  rintro e w4 ⟨rfl, hb⟩
  have Hb4 := Lib.hid (Hb3.out.trans (hb.mono Hb3.out.size))
  clear hb
  obtain ⟨hc, hf⟩ := bcell Hb4.out
  have c0 : w4.cell? ⟨w.heap.size, 0, none⟩ = some (.int .i64 N) := (hc w.heap.size 0 (by simp)).trans (by simp [go_sem])
  have c1 : w4.cell? ⟨w.heap.size, 1, none⟩ = some (.int .i64 Bad) := (hc w.heap.size 1 (by simp)).trans (by simp [go_sem])
  have c2 : w4.cell? ⟨w.heap.size, 2, none⟩ = some (.int .u64 (S : Int)) := (hc w.heap.size 2 (by simp)).trans (by simp [go_sem])
  have c3 : w4.cell? ⟨w.heap.size, 3, none⟩ = some (.int .u64 (L : Int)) := (hc w.heap.size 3 (by simp)).trans (by simp [go_sem])
  have c4 : w4.cell? ⟨w.heap.size, 4, none⟩ = some (.int .u64 (Lo : Int)) := (hc w.heap.size 4 (by simp)).trans (by simp [go_sem])
  have c5 : w4.cell? ⟨w.heap.size, 5, none⟩ = some (.int .u64 (Hi : Int)) := (hc w.heap.size 5 (by simp)).trans (by simp [go_sem])
  have c6 : w4.cell? ⟨w.heap.size, 6, none⟩ = some (.int .u64 (Me : Int)) := (hc w.heap.size 6 (by simp)).trans (by simp [go_sem])
  have c7 : w4.cell? ⟨w.heap.size, 7, none⟩ = some (.int .u64 (Sp : Int)) := (hc w.heap.size 7 (by simp)).trans (by simp [go_sem])
  have f0 : w4.frozen? ⟨w.heap.size, 0, none⟩ = false := (hf w.heap.size 0 (by simp)).trans (by simp [go_sem])
  have f1 : w4.frozen? ⟨w.heap.size, 1, none⟩ = false := (hf w.heap.size 1 (by simp)).trans (by simp [go_sem])
  clear hc hf
  -- behind the news
  -- behind the news
  have hN' := hN
  go_wp2_with fail
  generalize hn1 : N.tmod 9007199254740992 = N1 at *
  generalize hb1 : Bad.tmod 9007199254740992 = B1 at *
  have Hz := Lib.hid (hm : (⟨0, 0, S, L, Lo, Hi, Me, Sp⟩ : Mt).Ok)
  have Hm : Hid ((⟨N1, B1, S, L, Lo, Hi, Me, Sp⟩ : Mt).Ok) := Lib.hid hm
  have HX := Lib.hid hx
  clear hn1 hb1 hN hN' hm hx
  with_reducible refine (Km.out _ _ _).mono ?_
  rintro e w5 ⟨rfl, hb⟩
  have Hb5 := Lib.hid ((((below_past Hb4.out).setCell (p := ⟨w.heap.size, 0, none⟩) (Nat.le_refl _) _).setCell (p := ⟨w.heap.size, 1, none⟩) (Nat.le_refl _) _).trans (hb.mono (by simpa using (below_past Hb4.out).size)))
  clear hb c0 c1 c2 c3 c4 c5 c6 c7 f0 f1 Hb1 Hb2 Hb3 Hb4
  go_wp2_with fail
  obtain ⟨W, hW⟩ : ∃ W, W = (w5.alloc (.cells #[.int .i64 N1, .int .i64 B1, .float .f64 S, .float .f64 L, .float .f64 Lo, .float .f64 Hi, .float .f64 Me, .float .f64 Sp] 28)).alloc (.cells #[.int .i64 N1, .int .i64 B1, .float .f64 S, .float .f64 L, .float .f64 Lo, .float .f64 Hi, .float .f64 Me, .float .f64 Sp] 32) := ⟨_, rfl⟩
  rw [← hW]
  have hs0 : (fun w' => w'.cell? ⟨w5.heap.size, 0, none⟩ = some (.int .i64 N1) ∧ w'.cell? ⟨w5.heap.size, 1, none⟩ = some (.int .i64 B1) ∧ w'.cell? ⟨w5.heap.size, 2, none⟩ = some (.float .f64 S) ∧ w'.cell? ⟨w5.heap.size, 3, none⟩ = some (.float .f64 L) ∧ w'.cell? ⟨w5.heap.size, 4, none⟩ = some (.float .f64 Lo) ∧ w'.cell? ⟨w5.heap.size, 5, none⟩ = some (.float .f64 Hi) ∧ w'.cell? ⟨w5.heap.size, 6, none⟩ = some (.float .f64 Me) ∧ w'.cell? ⟨w5.heap.size, 7, none⟩ = some (.float .f64 Sp) ∧ w'.cell? ⟨w5.heap.size + 1, 0, none⟩ = some (.int .i64 N1) ∧ w'.cell? ⟨w5.heap.size + 1, 1, none⟩ = some (.int .i64 B1) ∧ w'.cell? ⟨w5.heap.size + 1, 2, none⟩ = some (.float .f64 S) ∧ w'.cell? ⟨w5.heap.size + 1, 3, none⟩ = some (.float .f64 L) ∧ w'.cell? ⟨w5.heap.size + 1, 4, none⟩ = some (.float .f64 Lo) ∧ w'.cell? ⟨w5.heap.size + 1, 5, none⟩ = some (.float .f64 Hi) ∧ w'.cell? ⟨w5.heap.size + 1, 6, none⟩ = some (.float .f64 Me) ∧ w'.cell? ⟨w5.heap.size + 1, 7, none⟩ = some (.float .f64 Sp) ∧ Below W.heap.size W w') W := by
    rw [hW]
    refine ⟨?_, ?_, ?_, ?_, ?_, ?_, ?_, ?_, ?_, ?_, ?_, ?_, ?_, ?_, ?_, ?_, Below.refl _ _⟩ <;> simp [go_sem]
  have hl : ∀ w1 w2, (fun w' => w'.cell? ⟨w5.heap.size, 0, none⟩ = some (.int .i64 N1) ∧ w'.cell? ⟨w5.heap.size, 1, none⟩ = some (.int .i64 B1) ∧ w'.cell? ⟨w5.heap.size, 2, none⟩ = some (.float .f64 S) ∧ w'.cell? ⟨w5.heap.size, 3, none⟩ = some (.float .f64 L) ∧ w'.cell? ⟨w5.heap.size, 4, none⟩ = some (.float .f64 Lo) ∧ w'.cell? ⟨w5.heap.size, 5, none⟩ = some (.float .f64 Hi) ∧ w'.cell? ⟨w5.heap.size, 6, none⟩ = some (.float .f64 Me) ∧ w'.cell? ⟨w5.heap.size, 7, none⟩ = some (.float .f64 Sp) ∧ w'.cell? ⟨w5.heap.size + 1, 0, none⟩ = some (.int .i64 N1) ∧ w'.cell? ⟨w5.heap.size + 1, 1, none⟩ = some (.int .i64 B1) ∧ w'.cell? ⟨w5.heap.size + 1, 2, none⟩ = some (.float .f64 S) ∧ w'.cell? ⟨w5.heap.size + 1, 3, none⟩ = some (.float .f64 L) ∧ w'.cell? ⟨w5.heap.size + 1, 4, none⟩ = some (.float .f64 Lo) ∧ w'.cell? ⟨w5.heap.size + 1, 5, none⟩ = some (.float .f64 Hi) ∧ w'.cell? ⟨w5.heap.size + 1, 6, none⟩ = some (.float .f64 Me) ∧ w'.cell? ⟨w5.heap.size + 1, 7, none⟩ = some (.float .f64 Sp) ∧ Below W.heap.size W w') w1 → Below w1.heap.size w1 w2 → (fun w' => w'.cell? ⟨w5.heap.size, 0, none⟩ = some (.int .i64 N1) ∧ w'.cell? ⟨w5.heap.size, 1, none⟩ = some (.int .i64 B1) ∧ w'.cell? ⟨w5.heap.size, 2, none⟩ = some (.float .f64 S) ∧ w'.cell? ⟨w5.heap.size, 3, none⟩ = some (.float .f64 L) ∧ w'.cell? ⟨w5.heap.size, 4, none⟩ = some (.float .f64 Lo) ∧ w'.cell? ⟨w5.heap.size, 5, none⟩ = some (.float .f64 Hi) ∧ w'.cell? ⟨w5.heap.size, 6, none⟩ = some (.float .f64 Me) ∧ w'.cell? ⟨w5.heap.size, 7, none⟩ = some (.float .f64 Sp) ∧ w'.cell? ⟨w5.heap.size + 1, 0, none⟩ = some (.int .i64 N1) ∧ w'.cell? ⟨w5.heap.size + 1, 1, none⟩ = some (.int .i64 B1) ∧ w'.cell? ⟨w5.heap.size + 1, 2, none⟩ = some (.float .f64 S) ∧ w'.cell? ⟨w5.heap.size + 1, 3, none⟩ = some (.float .f64 L) ∧ w'.cell? ⟨w5.heap.size + 1, 4, none⟩ = some (.float .f64 Lo) ∧ w'.cell? ⟨w5.heap.size + 1, 5, none⟩ = some (.float .f64 Hi) ∧ w'.cell? ⟨w5.heap.size + 1, 6, none⟩ = some (.float .f64 Me) ∧ w'.cell? ⟨w5.heap.size + 1, 7, none⟩ = some (.float .f64 Sp) ∧ Below W.heap.size W w') w2 := fun w1 w2 h hb => by
    obtain ⟨g0, g1, g2, g3, g4, g5, g6, g7, q0, q1, q2, q3, q4, q5, q6, q7, hB⟩ := h
    exact ⟨cell_later hb g0, cell_later hb g1, cell_later hb g2, cell_later hb g3, cell_later hb g4, cell_later hb g5, cell_later hb g6, cell_later hb g7, cell_later hb q0, cell_later hb q1, cell_later hb q2, cell_later hb q3, cell_later hb q4, cell_later hb q5, cell_later hb q6, cell_later hb q7, hB.trans (hb.mono hB.size)⟩
  have hbW : Below w.heap.size w W := by rw [hW]; exact (Hb5.out.alloc Hb5.out.size _).alloc (by have := Hb5.out.size; simp; omega) _
  have HbW := Lib.hid hbW
  have Hs0 := Lib.hid hs0
  have Hsd := Lib.hid (hl W W.drew hs0 (Below.refl _ _).drew)
  have Hl := Lib.hid hl
  clear hs0 hl hbW hW
  have Ko := Lib.hid (fun v => of_any x v)
  have Ka := Lib.hid (fun v => add_any ⟨N1, B1, S, L, Lo, Hi, Me, Sp⟩ x v HX.out Hm.out)
  have Kb := Lib.hid (fun v => radd_any ⟨N1, B1, S, L, Lo, Hi, Me, Sp⟩ x v HX.out Hm.out)
  have Kt := Lib.hid (fun v => total_any ⟨N1, B1, S, L, Lo, Hi, Me, Sp⟩ v Hm.out)
  have Ku := Lib.hid (fun v => total_ref ⟨N1, B1, S, L, Lo, Hi, Me, Sp⟩ v Hm.out)
  have Kc := Lib.hid (fun a b v (ha : a.Ok) (hb : b.Ok) (h : mtSim a b) => same_mt a b v ha hb h)
  generalize addM ⟨N1, B1, S, L, Lo, Hi, Me, Sp⟩ x = R at *
  generalize totP ⟨N1, B1, S, L, Lo, Hi, Me, Sp⟩ = T at *
  unfold mtV at Ka Kb Kt Ku
  go_region_held3 (fun w' => w'.cell? ⟨w5.heap.size, 0, none⟩ = some (.int .i64 N1) ∧ w'.cell? ⟨w5.heap.size, 1, none⟩ = some (.int .i64 B1) ∧ w'.cell? ⟨w5.heap.size, 2, none⟩ = some (.float .f64 S) ∧ w'.cell? ⟨w5.heap.size, 3, none⟩ = some (.float .f64 L) ∧ w'.cell? ⟨w5.heap.size, 4, none⟩ = some (.float .f64 Lo) ∧ w'.cell? ⟨w5.heap.size, 5, none⟩ = some (.float .f64 Hi) ∧ w'.cell? ⟨w5.heap.size, 6, none⟩ = some (.float .f64 Me) ∧ w'.cell? ⟨w5.heap.size, 7, none⟩ = some (.float .f64 Sp) ∧ w'.cell? ⟨w5.heap.size + 1, 0, none⟩ = some (.int .i64 N1) ∧ w'.cell? ⟨w5.heap.size + 1, 1, none⟩ = some (.int .i64 B1) ∧ w'.cell? ⟨w5.heap.size + 1, 2, none⟩ = some (.float .f64 S) ∧ w'.cell? ⟨w5.heap.size + 1, 3, none⟩ = some (.float .f64 L) ∧ w'.cell? ⟨w5.heap.size + 1, 4, none⟩ = some (.float .f64 Lo) ∧ w'.cell? ⟨w5.heap.size + 1, 5, none⟩ = some (.float .f64 Hi) ∧ w'.cell? ⟨w5.heap.size + 1, 6, none⟩ = some (.float .f64 Me) ∧ w'.cell? ⟨w5.heap.size + 1, 7, none⟩ = some (.float .f64 Sp) ∧ Below W.heap.size W w') (first | exact Hs0.out | exact Hsd.out | exact Hs1.out | exact Hs2.out | exact Hs3.out | exact Hs4.out | exact Hs5.out) (first | (go_at_call 16; (with_reducible refine (Ko.out _).mono ?_); rintro e w' ⟨rfl, rfl⟩) | (go_at_call 27; (with_reducible refine (Ka.out _).mono ?_); rintro e w6 ⟨m1, rfl, hs1, ho1, hb⟩; have Hs1 := Lib.hid (by first | exact Hl.out _ _ Hs0.out hb | exact Hl.out _ _ Hsd.out hb); have Hm1 := Lib.hid (And.intro hs1 ho1); clear hb hs1 ho1) | (go_at_call 28; (with_reducible refine (Kb.out _).mono ?_); rintro e w7 ⟨m2, rfl, hs1, ho1, hb⟩; have Hs2 := Lib.hid (Hl.out _ _ Hs1.out hb); have Hm2 := Lib.hid (And.intro hs1 ho1); clear hb hs1 ho1) | (go_at_call 17; (refine (Kc.out _ _ _ Hm1.out.2 Hm2.out.2 (Hm1.out.1.trans Hm2.out.1.symm)).mono ?_); rintro e w8 ⟨rfl, hb⟩; have Hs3 := Lib.hid (Hl.out _ _ Hs2.out hb); clear hb) | (go_at_call 29; (with_reducible refine (Kt.out _).mono ?_); rintro e w9 ⟨t1, rfl, hn1, hl1, hb⟩; have Hs4 := Lib.hid (Hl.out _ _ Hs3.out hb); have Ht1 := Lib.hid (And.intro hn1 hl1); clear hb hn1 hl1) | (go_at_call 30; (with_reducible refine (Ku.out _).mono ?_); rintro e w10 ⟨t2, rfl, hn1, hl1, hb⟩; have Hs5 := Lib.hid (Hl.out _ _ Hs4.out hb); have hsm := (beq_iff_eq.2 ((nfW_rk Ht1.out.2 hl1).1 (Ht1.out.1.trans hn1.symm)) : (rk t1 == rk t2) = true); have Ksm := Lib.hid (fun v => rsame_any t1 t2 v); rw [hsm] at Ksm; clear hb hn1 hl1 hsm) | (go_at_call 15; (with_reducible refine (Ksm.out _).mono ?_); rintro e w' ⟨rfl, rfl⟩))
  all_goals
    obtain ⟨-, -, -, -, -, -, -, -, -, -, -, -, -, -, -, -, hB⟩ := Hs5.out
    have HB := Lib.hid (HbW.out.trans (hB.mono HbW.out.size))
    clear hB
    go_wp2
    go_ret
    exact ⟨rfl, HB.out⟩

set_option maxRecDepth 100000 in
set_option maxHeartbeats 16000000 in
theorem adds_neg (N Bad : Int) (S L Lo Hi Me Sp x : Nat) (w : World) (hm : (⟨0, 0, S, L, Lo, Hi, Me, Sp⟩ : Mt).Ok) (hx : x < 18446744073709551616) (hN : N.tmod 9007199254740992 < 0) (hN2 : -9007199254740992 < N.tmod 9007199254740992) :
    Calls Try.prog 8 #[figV ⟨N, Bad, S, L, Lo, Hi, Me, Sp⟩, .int .u64 (x : Int)] w fun e w' => e = .returned (.bool true) ∧ Below w.heap.size w w' := by
  have Kw := Lib.hid (fun v => awake8 v)
  have Kn := Lib.hid (fun v => new_any v)
  have Kr := Lib.hid (fun v => new_ref v)
  have Ks := Lib.hid (fun v => news_same v)
  unfold mtV mt0 at Kn Kr Ks
  have Km := Lib.hid (fun a b v => made_any a b S L Lo Hi Me Sp v)
  unfold figV mtV at Km
  unfold figV
  go_enter Try.func8, Try.ntmps8
  go_wp2_with fail
  with_reducible refine (Kw.out _).mono ?_
  rintro e w1 ⟨rfl, hb⟩
  have Hb1 := Lib.hid (hb)
  clear hb
  go_wp2_with fail
  with_reducible refine (Kn.out _).mono ?_
  rintro e w2 ⟨rfl, hb⟩
  have Hb2 := Lib.hid (Hb1.out.trans (hb.mono Hb1.out.size))
  clear hb
  go_wp2_with fail
  with_reducible refine (Kr.out _).mono ?_
  rintro e w3 ⟨rfl, hb⟩
  have Hb3 := Lib.hid (Hb2.out.trans (hb.mono Hb2.out.size))
  clear hb
  go_wp2_with fail
  with_reducible refine (Ks.out _).mono ?_
  rintro e w4 ⟨rfl, hb⟩
  have Hb4 := Lib.hid (Hb3.out.trans (hb.mono Hb3.out.size))
  clear hb
  obtain ⟨hc, hf⟩ := bcell Hb4.out
  have c0 : w4.cell? ⟨w.heap.size, 0, none⟩ = some (.int .i64 N) := (hc w.heap.size 0 (by simp)).trans (by simp [go_sem])
  have c1 : w4.cell? ⟨w.heap.size, 1, none⟩ = some (.int .i64 Bad) := (hc w.heap.size 1 (by simp)).trans (by simp [go_sem])
  have c2 : w4.cell? ⟨w.heap.size, 2, none⟩ = some (.int .u64 (S : Int)) := (hc w.heap.size 2 (by simp)).trans (by simp [go_sem])
  have c3 : w4.cell? ⟨w.heap.size, 3, none⟩ = some (.int .u64 (L : Int)) := (hc w.heap.size 3 (by simp)).trans (by simp [go_sem])
  have c4 : w4.cell? ⟨w.heap.size, 4, none⟩ = some (.int .u64 (Lo : Int)) := (hc w.heap.size 4 (by simp)).trans (by simp [go_sem])
  have c5 : w4.cell? ⟨w.heap.size, 5, none⟩ = some (.int .u64 (Hi : Int)) := (hc w.heap.size 5 (by simp)).trans (by simp [go_sem])
  have c6 : w4.cell? ⟨w.heap.size, 6, none⟩ = some (.int .u64 (Me : Int)) := (hc w.heap.size 6 (by simp)).trans (by simp [go_sem])
  have c7 : w4.cell? ⟨w.heap.size, 7, none⟩ = some (.int .u64 (Sp : Int)) := (hc w.heap.size 7 (by simp)).trans (by simp [go_sem])
  have f0 : w4.frozen? ⟨w.heap.size, 0, none⟩ = false := (hf w.heap.size 0 (by simp)).trans (by simp [go_sem])
  have f1 : w4.frozen? ⟨w.heap.size, 1, none⟩ = false := (hf w.heap.size 1 (by simp)).trans (by simp [go_sem])
  clear hc hf
  -- behind the news
  -- behind the news
  have hN' := hN
  go_wp2_with fail
  generalize hn1 : N.tmod 9007199254740992 = N1 at *
  generalize hb1 : Bad.tmod 9007199254740992 = B1 at *
  have Hz := Lib.hid (hm : (⟨0, 0, S, L, Lo, Hi, Me, Sp⟩ : Mt).Ok)
  have Hm : Hid (∀ a b, (⟨a, b, S, L, Lo, Hi, Me, Sp⟩ : Mt).Ok) := Lib.hid (fun a b => hm)
  have HX := Lib.hid hx
  obtain ⟨N2, hn2⟩ : ∃ N2, N2 = -N1 := ⟨_, rfl⟩
  rw [← hn2]
  clear hn1 hn2 hb1 hN hN' hN2 hm hx
  with_reducible refine (Km.out _ _ _).mono ?_
  rintro e w5 ⟨rfl, hb⟩
  have Hb5 := Lib.hid (((((below_past Hb4.out).setCell (p := ⟨w.heap.size, 0, none⟩) (Nat.le_refl _) _).setCell (p := ⟨w.heap.size, 1, none⟩) (Nat.le_refl _) _).setCell (p := ⟨w.heap.size, 0, none⟩) (Nat.le_refl _) _).trans (hb.mono (by simpa using (below_past Hb4.out).size)))
  clear hb c0 c1 c2 c3 c4 c5 c6 c7 f0 f1 Hb1 Hb2 Hb3 Hb4
  go_wp2_with fail
  obtain ⟨W, hW⟩ : ∃ W, W = (w5.alloc (.cells #[.int .i64 N2, .int .i64 B1, .float .f64 S, .float .f64 L, .float .f64 Lo, .float .f64 Hi, .float .f64 Me, .float .f64 Sp] 28)).alloc (.cells #[.int .i64 N2, .int .i64 B1, .float .f64 S, .float .f64 L, .float .f64 Lo, .float .f64 Hi, .float .f64 Me, .float .f64 Sp] 32) := ⟨_, rfl⟩
  rw [← hW]
  have hs0 : (fun w' => w'.cell? ⟨w5.heap.size, 0, none⟩ = some (.int .i64 N2) ∧ w'.cell? ⟨w5.heap.size, 1, none⟩ = some (.int .i64 B1) ∧ w'.cell? ⟨w5.heap.size, 2, none⟩ = some (.float .f64 S) ∧ w'.cell? ⟨w5.heap.size, 3, none⟩ = some (.float .f64 L) ∧ w'.cell? ⟨w5.heap.size, 4, none⟩ = some (.float .f64 Lo) ∧ w'.cell? ⟨w5.heap.size, 5, none⟩ = some (.float .f64 Hi) ∧ w'.cell? ⟨w5.heap.size, 6, none⟩ = some (.float .f64 Me) ∧ w'.cell? ⟨w5.heap.size, 7, none⟩ = some (.float .f64 Sp) ∧ w'.cell? ⟨w5.heap.size + 1, 0, none⟩ = some (.int .i64 N2) ∧ w'.cell? ⟨w5.heap.size + 1, 1, none⟩ = some (.int .i64 B1) ∧ w'.cell? ⟨w5.heap.size + 1, 2, none⟩ = some (.float .f64 S) ∧ w'.cell? ⟨w5.heap.size + 1, 3, none⟩ = some (.float .f64 L) ∧ w'.cell? ⟨w5.heap.size + 1, 4, none⟩ = some (.float .f64 Lo) ∧ w'.cell? ⟨w5.heap.size + 1, 5, none⟩ = some (.float .f64 Hi) ∧ w'.cell? ⟨w5.heap.size + 1, 6, none⟩ = some (.float .f64 Me) ∧ w'.cell? ⟨w5.heap.size + 1, 7, none⟩ = some (.float .f64 Sp) ∧ Below W.heap.size W w') W := by
    rw [hW]
    refine ⟨?_, ?_, ?_, ?_, ?_, ?_, ?_, ?_, ?_, ?_, ?_, ?_, ?_, ?_, ?_, ?_, Below.refl _ _⟩ <;> simp [go_sem]
  have hl : ∀ w1 w2, (fun w' => w'.cell? ⟨w5.heap.size, 0, none⟩ = some (.int .i64 N2) ∧ w'.cell? ⟨w5.heap.size, 1, none⟩ = some (.int .i64 B1) ∧ w'.cell? ⟨w5.heap.size, 2, none⟩ = some (.float .f64 S) ∧ w'.cell? ⟨w5.heap.size, 3, none⟩ = some (.float .f64 L) ∧ w'.cell? ⟨w5.heap.size, 4, none⟩ = some (.float .f64 Lo) ∧ w'.cell? ⟨w5.heap.size, 5, none⟩ = some (.float .f64 Hi) ∧ w'.cell? ⟨w5.heap.size, 6, none⟩ = some (.float .f64 Me) ∧ w'.cell? ⟨w5.heap.size, 7, none⟩ = some (.float .f64 Sp) ∧ w'.cell? ⟨w5.heap.size + 1, 0, none⟩ = some (.int .i64 N2) ∧ w'.cell? ⟨w5.heap.size + 1, 1, none⟩ = some (.int .i64 B1) ∧ w'.cell? ⟨w5.heap.size + 1, 2, none⟩ = some (.float .f64 S) ∧ w'.cell? ⟨w5.heap.size + 1, 3, none⟩ = some (.float .f64 L) ∧ w'.cell? ⟨w5.heap.size + 1, 4, none⟩ = some (.float .f64 Lo) ∧ w'.cell? ⟨w5.heap.size + 1, 5, none⟩ = some (.float .f64 Hi) ∧ w'.cell? ⟨w5.heap.size + 1, 6, none⟩ = some (.float .f64 Me) ∧ w'.cell? ⟨w5.heap.size + 1, 7, none⟩ = some (.float .f64 Sp) ∧ Below W.heap.size W w') w1 → Below w1.heap.size w1 w2 → (fun w' => w'.cell? ⟨w5.heap.size, 0, none⟩ = some (.int .i64 N2) ∧ w'.cell? ⟨w5.heap.size, 1, none⟩ = some (.int .i64 B1) ∧ w'.cell? ⟨w5.heap.size, 2, none⟩ = some (.float .f64 S) ∧ w'.cell? ⟨w5.heap.size, 3, none⟩ = some (.float .f64 L) ∧ w'.cell? ⟨w5.heap.size, 4, none⟩ = some (.float .f64 Lo) ∧ w'.cell? ⟨w5.heap.size, 5, none⟩ = some (.float .f64 Hi) ∧ w'.cell? ⟨w5.heap.size, 6, none⟩ = some (.float .f64 Me) ∧ w'.cell? ⟨w5.heap.size, 7, none⟩ = some (.float .f64 Sp) ∧ w'.cell? ⟨w5.heap.size + 1, 0, none⟩ = some (.int .i64 N2) ∧ w'.cell? ⟨w5.heap.size + 1, 1, none⟩ = some (.int .i64 B1) ∧ w'.cell? ⟨w5.heap.size + 1, 2, none⟩ = some (.float .f64 S) ∧ w'.cell? ⟨w5.heap.size + 1, 3, none⟩ = some (.float .f64 L) ∧ w'.cell? ⟨w5.heap.size + 1, 4, none⟩ = some (.float .f64 Lo) ∧ w'.cell? ⟨w5.heap.size + 1, 5, none⟩ = some (.float .f64 Hi) ∧ w'.cell? ⟨w5.heap.size + 1, 6, none⟩ = some (.float .f64 Me) ∧ w'.cell? ⟨w5.heap.size + 1, 7, none⟩ = some (.float .f64 Sp) ∧ Below W.heap.size W w') w2 := fun w1 w2 h hb => by
    obtain ⟨g0, g1, g2, g3, g4, g5, g6, g7, q0, q1, q2, q3, q4, q5, q6, q7, hB⟩ := h
    exact ⟨cell_later hb g0, cell_later hb g1, cell_later hb g2, cell_later hb g3, cell_later hb g4, cell_later hb g5, cell_later hb g6, cell_later hb g7, cell_later hb q0, cell_later hb q1, cell_later hb q2, cell_later hb q3, cell_later hb q4, cell_later hb q5, cell_later hb q6, cell_later hb q7, hB.trans (hb.mono hB.size)⟩
  have hbW : Below w.heap.size w W := by rw [hW]; exact (Hb5.out.alloc Hb5.out.size _).alloc (by have := Hb5.out.size; simp; omega) _
  have HbW := Lib.hid hbW
  have Hs0 := Lib.hid hs0
  have Hsd := Lib.hid (hl W W.drew hs0 (Below.refl _ _).drew)
  have Hl := Lib.hid hl
  clear hs0 hl hbW hW
  have Ko := Lib.hid (fun v => of_any x v)
  have Ka := Lib.hid (fun v => add_any ⟨N2, B1, S, L, Lo, Hi, Me, Sp⟩ x v HX.out (Hm.out _ _))
  have Kb := Lib.hid (fun v => radd_any ⟨N2, B1, S, L, Lo, Hi, Me, Sp⟩ x v HX.out (Hm.out _ _))
  have Kt := Lib.hid (fun v => total_any ⟨N2, B1, S, L, Lo, Hi, Me, Sp⟩ v (Hm.out _ _))
  have Ku := Lib.hid (fun v => total_ref ⟨N2, B1, S, L, Lo, Hi, Me, Sp⟩ v (Hm.out _ _))
  have Kc := Lib.hid (fun a b v (ha : a.Ok) (hb : b.Ok) (h : mtSim a b) => same_mt a b v ha hb h)
  generalize addM ⟨N2, B1, S, L, Lo, Hi, Me, Sp⟩ x = R at *
  generalize totP ⟨N2, B1, S, L, Lo, Hi, Me, Sp⟩ = T at *
  unfold mtV at Ka Kb Kt Ku
  go_region_held3 (fun w' => w'.cell? ⟨w5.heap.size, 0, none⟩ = some (.int .i64 N2) ∧ w'.cell? ⟨w5.heap.size, 1, none⟩ = some (.int .i64 B1) ∧ w'.cell? ⟨w5.heap.size, 2, none⟩ = some (.float .f64 S) ∧ w'.cell? ⟨w5.heap.size, 3, none⟩ = some (.float .f64 L) ∧ w'.cell? ⟨w5.heap.size, 4, none⟩ = some (.float .f64 Lo) ∧ w'.cell? ⟨w5.heap.size, 5, none⟩ = some (.float .f64 Hi) ∧ w'.cell? ⟨w5.heap.size, 6, none⟩ = some (.float .f64 Me) ∧ w'.cell? ⟨w5.heap.size, 7, none⟩ = some (.float .f64 Sp) ∧ w'.cell? ⟨w5.heap.size + 1, 0, none⟩ = some (.int .i64 N2) ∧ w'.cell? ⟨w5.heap.size + 1, 1, none⟩ = some (.int .i64 B1) ∧ w'.cell? ⟨w5.heap.size + 1, 2, none⟩ = some (.float .f64 S) ∧ w'.cell? ⟨w5.heap.size + 1, 3, none⟩ = some (.float .f64 L) ∧ w'.cell? ⟨w5.heap.size + 1, 4, none⟩ = some (.float .f64 Lo) ∧ w'.cell? ⟨w5.heap.size + 1, 5, none⟩ = some (.float .f64 Hi) ∧ w'.cell? ⟨w5.heap.size + 1, 6, none⟩ = some (.float .f64 Me) ∧ w'.cell? ⟨w5.heap.size + 1, 7, none⟩ = some (.float .f64 Sp) ∧ Below W.heap.size W w') (first | exact Hs0.out | exact Hsd.out | exact Hs1.out | exact Hs2.out | exact Hs3.out | exact Hs4.out | exact Hs5.out) (first | (go_at_call 16; (with_reducible refine (Ko.out _).mono ?_); rintro e w' ⟨rfl, rfl⟩) | (go_at_call 27; (with_reducible refine (Ka.out _).mono ?_); rintro e w6 ⟨m1, rfl, hs1, ho1, hb⟩; have Hs1 := Lib.hid (by first | exact Hl.out _ _ Hs0.out hb | exact Hl.out _ _ Hsd.out hb); have Hm1 := Lib.hid (And.intro hs1 ho1); clear hb hs1 ho1) | (go_at_call 28; (with_reducible refine (Kb.out _).mono ?_); rintro e w7 ⟨m2, rfl, hs1, ho1, hb⟩; have Hs2 := Lib.hid (Hl.out _ _ Hs1.out hb); have Hm2 := Lib.hid (And.intro hs1 ho1); clear hb hs1 ho1) | (go_at_call 17; (refine (Kc.out _ _ _ Hm1.out.2 Hm2.out.2 (Hm1.out.1.trans Hm2.out.1.symm)).mono ?_); rintro e w8 ⟨rfl, hb⟩; have Hs3 := Lib.hid (Hl.out _ _ Hs2.out hb); clear hb) | (go_at_call 29; (with_reducible refine (Kt.out _).mono ?_); rintro e w9 ⟨t1, rfl, hn1, hl1, hb⟩; have Hs4 := Lib.hid (Hl.out _ _ Hs3.out hb); have Ht1 := Lib.hid (And.intro hn1 hl1); clear hb hn1 hl1) | (go_at_call 30; (with_reducible refine (Ku.out _).mono ?_); rintro e w10 ⟨t2, rfl, hn1, hl1, hb⟩; have Hs5 := Lib.hid (Hl.out _ _ Hs4.out hb); have hsm := (beq_iff_eq.2 ((nfW_rk Ht1.out.2 hl1).1 (Ht1.out.1.trans hn1.symm)) : (rk t1 == rk t2) = true); have Ksm := Lib.hid (fun v => rsame_any t1 t2 v); rw [hsm] at Ksm; clear hb hn1 hl1 hsm) | (go_at_call 15; (with_reducible refine (Ksm.out _).mono ?_); rintro e w' ⟨rfl, rfl⟩))
  all_goals
    obtain ⟨-, -, -, -, -, -, -, -, -, -, -, -, -, -, -, -, hB⟩ := Hs5.out
    have HB := Lib.hid (HbW.out.trans (hB.mono HbW.out.size))
    clear hB
    go_wp2
    go_ret
    exact ⟨rfl, HB.out⟩
end Go.Proofs.Ytecbbdbeihiioaa
