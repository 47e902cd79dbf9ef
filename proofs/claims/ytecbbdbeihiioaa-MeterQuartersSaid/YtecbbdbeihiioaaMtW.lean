/- Contract of spigotref08.DocMerge. Printed by gen_docmerge.py. -/
import Derived.Test.YtecbbdbeihiioaaMtS
namespace Go.Proofs.Ytecbbdbeihiioaa
open Go.RowKit
set_option linter.unusedVariables false

attribute [local go_sem] run_store_float'

/-- Four meters. -/
def Mt4 (w0 : World) (A B C E : Nat) (a b c e : Mt) (u : World) : Prop := Mt3 w0 A B C a b c u ∧ MtCell u E e
theorem Mt4.drewN {w0 u : World} {A B C E : Nat} {a b c e : Mt} (h : Mt4 w0 A B C E a b c e u) (n : Nat) : Mt4 w0 A B C E a b c e (u.drewN n) := ⟨h.1.drewN n, h.2.drewN n⟩
theorem Mt4.drew {w0 u : World} {A B C E : Nat} {a b c e : Mt} (h : Mt4 w0 A B C E a b c e u) : Mt4 w0 A B C E a b c e u.drew := ⟨h.1.drew, h.2.drew⟩
theorem Mt4.e0 {w0 u : World} {A B C E : Nat} {N Bad : Int} {S L Lo Hi Me Sp : Nat} {x : Int} {a b c : Mt} (hA : w0.heap.size ≤ E) (h1 : E ≠ A) (h2 : E ≠ B) (h3 : E ≠ C) (h : Mt4 w0 A B C E a b c ⟨N, Bad, S, L, Lo, Hi, Me, Sp⟩ u) : Mt4 w0 A B C E a b c ⟨x, Bad, S, L, Lo, Hi, Me, Sp⟩ (u.setCell ⟨E, 0, none⟩ (.int .i64 x)) :=
  ⟨⟨h.1.1.other h1, h.1.2.1.other h2, h.1.2.2.1.other h3, h.1.2.2.2.setCell hA _⟩, h.2.set0 x⟩
theorem Mt4.e1 {w0 u : World} {A B C E : Nat} {N Bad : Int} {S L Lo Hi Me Sp : Nat} {x : Int} {a b c : Mt} (hA : w0.heap.size ≤ E) (h1 : E ≠ A) (h2 : E ≠ B) (h3 : E ≠ C) (h : Mt4 w0 A B C E a b c ⟨N, Bad, S, L, Lo, Hi, Me, Sp⟩ u) : Mt4 w0 A B C E a b c ⟨N, x, S, L, Lo, Hi, Me, Sp⟩ (u.setCell ⟨E, 1, none⟩ (.int .i64 x)) :=
  ⟨⟨h.1.1.other h1, h.1.2.1.other h2, h.1.2.2.1.other h3, h.1.2.2.2.setCell hA _⟩, h.2.set1 x⟩
theorem Mt4.e2 {w0 u : World} {A B C E : Nat} {N Bad : Int} {S L Lo Hi Me Sp : Nat} {x : Nat} {a b c : Mt} (hA : w0.heap.size ≤ E) (h1 : E ≠ A) (h2 : E ≠ B) (h3 : E ≠ C) (h : Mt4 w0 A B C E a b c ⟨N, Bad, S, L, Lo, Hi, Me, Sp⟩ u) : Mt4 w0 A B C E a b c ⟨N, Bad, x, L, Lo, Hi, Me, Sp⟩ (u.setCell ⟨E, 2, none⟩ (.float .f64 x)) :=
  ⟨⟨h.1.1.other h1, h.1.2.1.other h2, h.1.2.2.1.other h3, h.1.2.2.2.setCell hA _⟩, h.2.set2 x⟩
theorem Mt4.e3 {w0 u : World} {A B C E : Nat} {N Bad : Int} {S L Lo Hi Me Sp : Nat} {x : Nat} {a b c : Mt} (hA : w0.heap.size ≤ E) (h1 : E ≠ A) (h2 : E ≠ B) (h3 : E ≠ C) (h : Mt4 w0 A B C E a b c ⟨N, Bad, S, L, Lo, Hi, Me, Sp⟩ u) : Mt4 w0 A B C E a b c ⟨N, Bad, S, x, Lo, Hi, Me, Sp⟩ (u.setCell ⟨E, 3, none⟩ (.float .f64 x)) :=
  ⟨⟨h.1.1.other h1, h.1.2.1.other h2, h.1.2.2.1.other h3, h.1.2.2.2.setCell hA _⟩, h.2.set3 x⟩
theorem Mt4.e4 {w0 u : World} {A B C E : Nat} {N Bad : Int} {S L Lo Hi Me Sp : Nat} {x : Nat} {a b c : Mt} (hA : w0.heap.size ≤ E) (h1 : E ≠ A) (h2 : E ≠ B) (h3 : E ≠ C) (h : Mt4 w0 A B C E a b c ⟨N, Bad, S, L, Lo, Hi, Me, Sp⟩ u) : Mt4 w0 A B C E a b c ⟨N, Bad, S, L, x, Hi, Me, Sp⟩ (u.setCell ⟨E, 4, none⟩ (.float .f64 x)) :=
  ⟨⟨h.1.1.other h1, h.1.2.1.other h2, h.1.2.2.1.other h3, h.1.2.2.2.setCell hA _⟩, h.2.set4 x⟩
theorem Mt4.e5 {w0 u : World} {A B C E : Nat} {N Bad : Int} {S L Lo Hi Me Sp : Nat} {x : Nat} {a b c : Mt} (hA : w0.heap.size ≤ E) (h1 : E ≠ A) (h2 : E ≠ B) (h3 : E ≠ C) (h : Mt4 w0 A B C E a b c ⟨N, Bad, S, L, Lo, Hi, Me, Sp⟩ u) : Mt4 w0 A B C E a b c ⟨N, Bad, S, L, Lo, x, Me, Sp⟩ (u.setCell ⟨E, 5, none⟩ (.float .f64 x)) :=
  ⟨⟨h.1.1.other h1, h.1.2.1.other h2, h.1.2.2.1.other h3, h.1.2.2.2.setCell hA _⟩, h.2.set5 x⟩
theorem Mt4.e6 {w0 u : World} {A B C E : Nat} {N Bad : Int} {S L Lo Hi Me Sp : Nat} {x : Nat} {a b c : Mt} (hA : w0.heap.size ≤ E) (h1 : E ≠ A) (h2 : E ≠ B) (h3 : E ≠ C) (h : Mt4 w0 A B C E a b c ⟨N, Bad, S, L, Lo, Hi, Me, Sp⟩ u) : Mt4 w0 A B C E a b c ⟨N, Bad, S, L, Lo, Hi, x, Sp⟩ (u.setCell ⟨E, 6, none⟩ (.float .f64 x)) :=
  ⟨⟨h.1.1.other h1, h.1.2.1.other h2, h.1.2.2.1.other h3, h.1.2.2.2.setCell hA _⟩, h.2.set6 x⟩
theorem Mt4.e7 {w0 u : World} {A B C E : Nat} {N Bad : Int} {S L Lo Hi Me Sp : Nat} {x : Nat} {a b c : Mt} (hA : w0.heap.size ≤ E) (h1 : E ≠ A) (h2 : E ≠ B) (h3 : E ≠ C) (h : Mt4 w0 A B C E a b c ⟨N, Bad, S, L, Lo, Hi, Me, Sp⟩ u) : Mt4 w0 A B C E a b c ⟨N, Bad, S, L, Lo, Hi, Me, x⟩ (u.setCell ⟨E, 7, none⟩ (.float .f64 x)) :=
  ⟨⟨h.1.1.other h1, h.1.2.1.other h2, h.1.2.2.1.other h3, h.1.2.2.2.setCell hA _⟩, h.2.set7 x⟩

theorem cnt_ways (a b : Int) : (cntB a b = true ∧ 0 ≤ a ∧ 0 ≤ b ∧ a ≤ 9007199254740992 ∧ b ≤ 9007199254740992 ∧ a + b ≤ 9007199254740992) ∨ (cntB a b = false ∧ a < 0) ∨ (cntB a b = false ∧ 0 ≤ a ∧ b < 0) ∨ (cntB a b = false ∧ 0 ≤ a ∧ 0 ≤ b ∧ 9007199254740992 < a) ∨
    (cntB a b = false ∧ 0 ≤ a ∧ 0 ≤ b ∧ a ≤ 9007199254740992 ∧ 9007199254740992 < b) ∨ (cntB a b = false ∧ 0 ≤ a ∧ 0 ≤ b ∧ a ≤ 9007199254740992 ∧ b ≤ 9007199254740992 ∧ 9007199254740992 < a + b) := by
  cases h : cntB a b
  · right
    unfold cntB at h
    have h' : ¬ (0 ≤ a ∧ 0 ≤ b ∧ a ≤ 9007199254740992 ∧ b ≤ 9007199254740992 - a) := by
      intro hh
      rw [decide_eq_true hh.1, decide_eq_true hh.2.1, decide_eq_true hh.2.2.1, decide_eq_true hh.2.2.2] at h
      cases h
    simp only [true_and]
    omega
  · left
    obtain ⟨h1, h2, h3⟩ := cnt_facts h
    exact ⟨rfl, h1, h2, by omega, by omega, h3⟩

theorem mergeV_bad {a b : Mt} (h : (cntB a.N b.N && cntB a.Bad b.Bad) = false) : mergeV a b = ⟨0, 0, 0, 0, 0, 0, 0, 0⟩ ∧ mergeE a b = 1 := by
  unfold mergeV mergeE
  rw [h]
  exact ⟨rfl, rfl⟩
theorem mergeV_a {a b : Mt} (h1 : cntB a.N b.N = true) (h2 : cntB a.Bad b.Bad = true) (h : a.N = 0) : mergeV a b = ⟨a.N + b.N, a.Bad + b.Bad, b.S, b.L, b.Lo, b.Hi, b.Me, b.Sp⟩ ∧ mergeE a b = 0 := by
  unfold mergeV mergeE
  rw [h1, h2, if_pos h]
  exact ⟨rfl, rfl⟩
theorem mergeV_b {a b : Mt} (h1 : cntB a.N b.N = true) (h2 : cntB a.Bad b.Bad = true) (h : a.N ≠ 0) (h' : b.N = 0) : mergeV a b = ⟨a.N + b.N, a.Bad + b.Bad, a.S, a.L, a.Lo, a.Hi, a.Me, a.Sp⟩ ∧ mergeE a b = 0 := by
  unfold mergeV mergeE
  rw [h1, h2, if_neg h, if_pos h']
  exact ⟨rfl, rfl⟩
theorem mergeV_c {a b : Mt} (h1 : cntB a.N b.N = true) (h2 : cntB a.Bad b.Bad = true) (h : a.N ≠ 0) (h' : b.N ≠ 0) : mergeV a b = mergeM a b ∧ mergeE a b = 0 := by
  unfold mergeV mergeE
  rw [h1, h2, if_neg h, if_neg h']
  exact ⟨rfl, rfl⟩

def DmRel (W : World) (N Bad N2 Bad2 : Int) (k : Nat) (wr : World) : Prop := (1 ≤ k → cntB N N2 = true) ∧ (2 ≤ k → cntB Bad Bad2 = true) ∧ Below W.heap.size W wr
def DmL (w0 : World) (A B C E : Nat) (a b c e : Mt) (S S2 : Nat) (v : Value) (wx : World) : Prop := ∃ l, v = .float .f64 l ∧ nfW l = lossA S S2 ∧ l < 18446744073709551616 ∧ Mt4 w0 A B C E a b c e wx

set_option maxRecDepth 100000 in
set_option maxHeartbeats 16000000 in
theorem docmerge_any (N Bad N2 Bad2 : Int) (S L Lo Hi Me Sp S2 L2 Lo2 Hi2 Me2 Sp2 : Nat) (w : World) (ok1 : (⟨N, Bad, S, L, Lo, Hi, Me, Sp⟩ : Mt).Ok) (ok2 : (⟨N2, Bad2, S2, L2, Lo2, Hi2, Me2, Sp2⟩ : Mt).Ok) :
    Calls Try.prog 32 #[mtV ⟨N, Bad, S, L, Lo, Hi, Me, Sp⟩, mtV ⟨N2, Bad2, S2, L2, Lo2, Hi2, Me2, Sp2⟩] w (MtErr w (mergeV ⟨N, Bad, S, L, Lo, Hi, Me, Sp⟩ ⟨N2, Bad2, S2, L2, Lo2, Hi2, Me2, Sp2⟩) (mergeE ⟨N, Bad, S, L, Lo, Hi, Me, Sp⟩ ⟨N2, Bad2, S2, L2, Lo2, Hi2, Me2, Sp2⟩)) := by
  have Ok1 := Lib.hid ok1; have Ok2 := Lib.hid ok2
  clear ok1 ok2
  have Kf := Lib.hid (fun s v => finite_ref s v)
  have Ks := Lib.hid (fun s v => lost_ref S S2 s v Ok1.out.1 Ok2.out.1)
  have Kl := Lib.hid (fun v => rleast_any Lo Lo2 v)
  have Kh := Lib.hid (fun v => rmost_any Hi Hi2 v)
  have HmR := Lib.hid (mostR_lt Ok1.out.2.2.2.1 Ok2.out.2.2.2.1)
  have Hmo : Hid (nfW (mostR Hi Hi2) = nfW (mostW Hi Hi2)) := Lib.hid ((nfW_rk HmR.out (mostW_lt Ok1.out.2.2.2.1 Ok2.out.2.2.2.1)).2 (rk_most _ _).symm)
  have HlR := Lib.hid (leastW_lt Ok1.out.2.2.1 Ok2.out.2.2.1)
  simp only at HmR HlR
  have HVbad : Hid ((cntB N N2 && cntB Bad Bad2) = false → mergeV ⟨N, Bad, S, L, Lo, Hi, Me, Sp⟩ ⟨N2, Bad2, S2, L2, Lo2, Hi2, Me2, Sp2⟩ = ⟨0, 0, 0, 0, 0, 0, 0, 0⟩ ∧ mergeE ⟨N, Bad, S, L, Lo, Hi, Me, Sp⟩ ⟨N2, Bad2, S2, L2, Lo2, Hi2, Me2, Sp2⟩ = 1) := Lib.hid (fun h => mergeV_bad h)
  have HVa : Hid (cntB N N2 = true → cntB Bad Bad2 = true → N = 0 → mergeV ⟨N, Bad, S, L, Lo, Hi, Me, Sp⟩ ⟨N2, Bad2, S2, L2, Lo2, Hi2, Me2, Sp2⟩ = ⟨N + N2, Bad + Bad2, S2, L2, Lo2, Hi2, Me2, Sp2⟩ ∧ mergeE ⟨N, Bad, S, L, Lo, Hi, Me, Sp⟩ ⟨N2, Bad2, S2, L2, Lo2, Hi2, Me2, Sp2⟩ = 0) := Lib.hid (fun h h' h0 => mergeV_a h h' h0)
  have HVb : Hid (cntB N N2 = true → cntB Bad Bad2 = true → N ≠ 0 → N2 = 0 → mergeV ⟨N, Bad, S, L, Lo, Hi, Me, Sp⟩ ⟨N2, Bad2, S2, L2, Lo2, Hi2, Me2, Sp2⟩ = ⟨N + N2, Bad + Bad2, S, L, Lo, Hi, Me, Sp⟩ ∧ mergeE ⟨N, Bad, S, L, Lo, Hi, Me, Sp⟩ ⟨N2, Bad2, S2, L2, Lo2, Hi2, Me2, Sp2⟩ = 0) := Lib.hid (fun h h' h0 h1 => mergeV_b h h' h0 h1)
  have HVc : Hid (cntB N N2 = true → cntB Bad Bad2 = true → N ≠ 0 → N2 ≠ 0 → mergeV ⟨N, Bad, S, L, Lo, Hi, Me, Sp⟩ ⟨N2, Bad2, S2, L2, Lo2, Hi2, Me2, Sp2⟩ = mergeM ⟨N, Bad, S, L, Lo, Hi, Me, Sp⟩ ⟨N2, Bad2, S2, L2, Lo2, Hi2, Me2, Sp2⟩ ∧ mergeE ⟨N, Bad, S, L, Lo, Hi, Me, Sp⟩ ⟨N2, Bad2, S2, L2, Lo2, Hi2, Me2, Sp2⟩ = 0) := Lib.hid (fun h h' h0 h1 => mergeV_c h h' h0 h1)
  generalize mergeV ⟨N, Bad, S, L, Lo, Hi, Me, Sp⟩ ⟨N2, Bad2, S2, L2, Lo2, Hi2, Me2, Sp2⟩ = MV at *
  generalize mergeE ⟨N, Bad, S, L, Lo, Hi, Me, Sp⟩ ⟨N2, Bad2, S2, L2, Lo2, Hi2, Me2, Sp2⟩ = ME at *
  unfold mtV
  go_enter Try.func32, Try.ntmps32
  go_wp2_with fail
  obtain ⟨W, hW⟩ : ∃ W, W = (((w.alloc (.cells #[.int .i64 N, .int .i64 Bad, .float .f64 S, .float .f64 L, .float .f64 Lo, .float .f64 Hi, .float .f64 Me, .float .f64 Sp] 32)).alloc (.cells #[.int .i64 N2, .int .i64 Bad2, .float .f64 S2, .float .f64 L2, .float .f64 Lo2, .float .f64 Hi2, .float .f64 Me2, .float .f64 Sp2] 32)).alloc (.cells #[.int .i64 0, .int .i64 0, .float .f64 0, .float .f64 0, .float .f64 0, .float .f64 0, .float .f64 0, .float .f64 0] 32)).alloc (.cells #[.int .i64 N, .int .i64 N2, .int .i64 Bad, .int .i64 Bad2] 84) := ⟨_, rfl⟩
  rw [← hW]
  have h3 : Mt3 w w.heap.size (w.heap.size + 1) (w.heap.size + 1 + 1) ⟨N, Bad, S, L, Lo, Hi, Me, Sp⟩ ⟨N2, Bad2, S2, L2, Lo2, Hi2, Me2, Sp2⟩ ⟨0, 0, 0, 0, 0, 0, 0, 0⟩ W := by
    rw [hW]
    refine ⟨?_, ?_, ?_, ((((Below.refl _ _).alloc (Nat.le_refl _) _).alloc (by simp) _).alloc (by simp; omega) _).alloc (by simp; omega) _⟩
    all_goals
      unfold MtCell
      refine ⟨⟨?_, ?_, ?_, ?_, ?_, ?_, ?_, ?_⟩, ?_, ?_, ?_, ?_, ?_, ?_, ?_, ?_⟩ <;> simp [go_sem]
  have hd : W.cell? ⟨w.heap.size + 1 + 1 + 1, 0, none⟩ = some (.int .i64 N) ∧ W.cell? ⟨w.heap.size + 1 + 1 + 1, 1, none⟩ = some (.int .i64 N2) ∧ W.cell? ⟨w.heap.size + 1 + 1 + 1, 2, none⟩ = some (.int .i64 Bad) ∧ W.cell? ⟨w.heap.size + 1 + 1 + 1, 3, none⟩ = some (.int .i64 Bad2) := by
    rw [hW]
    refine ⟨?_, ?_, ?_, ?_⟩ <;> simp [go_sem]
  have hsz : W.heap.size = w.heap.size + 4 := by rw [hW]; simp
  have Hd := Lib.hid hd; have H3 := Lib.hid h3; have Hsz := Lib.hid hsz
  clear hW hd h3 hsz
  go_loopw [7, 31] (fun _ i wr => ∃ k : Nat, i = .int .i64 k ∧ k ≤ 2 ∧ DmRel W N Bad N2 Bad2 k wr) (fun _ i _ => 2 - (intOf i).toNat)
  case atStart => exact ⟨0, rfl, by omega, fun h => by omega, fun h => by omega, Below.refl _ _⟩
  case round =>
    obtain ⟨k, rfl, hk, hr1, hr2, hbel⟩ := hrel
    have Hr1 := Lib.hid hr1; have Hr2 := Lib.hid hr2; have Hbel := Lib.hid hbel
    clear hr1 hr2 hbel
    have Hz3 : Hid (MtCell wr (w.heap.size + 1 + 1) ⟨0, 0, 0, 0, 0, 0, 0, 0⟩) := Lib.hid (H3.out.2.2.1.later (by have := Hsz.out; omega) Hbel.out)
    have Hbz : Hid (Below w.heap.size w wr) := Lib.hid (H3.out.2.2.2.trans (Hbel.out.mono H3.out.2.2.2.size))
    by_cases hA : k < 2
    · have hxy : ∃ x y, wr.cell? ⟨w.heap.size + 1 + 1 + 1, k * 2, none⟩ = some (.int .i64 x) ∧ wr.cell? ⟨w.heap.size + 1 + 1 + 1, k * 2 + 1, none⟩ = some (.int .i64 y) ∧ (k = 0 → x = N ∧ y = N2) ∧ (k = 1 → x = Bad ∧ y = Bad2) := by
        obtain ⟨d0, d1, d2, d3⟩ := Hd.out
        have hk' : k = 0 ∨ k = 1 := by omega
        rcases hk' with rfl | rfl
        · exact ⟨N, N2, cell_later Hbel.out d0, cell_later Hbel.out d1, fun _ => ⟨rfl, rfl⟩, fun h => by omega⟩
        · exact ⟨Bad, Bad2, cell_later Hbel.out d2, cell_later Hbel.out d3, fun h => by omega, fun _ => ⟨rfl, rfl⟩⟩
      obtain ⟨x, y, hx0, hx1, hxa, hxb⟩ := hxy
      have Hxa := Lib.hid hxa; have Hxb := Lib.hid hxb
      clear hxa hxb
      have hltx := World.block_lt_of_cell? _ _ hx0
      have hk0 : (0 : Int) ≤ (k : Int) := by omega
      have hk1 : (k : Int) < 2 := by omega
      rcases cnt_ways x y with ⟨hc, g1, g2, g3, g4, g5⟩ | hbad
      · have Hc := Lib.hid hc
        clear hc
        go_wp2
        go_roundw
        case rel =>
          refine ⟨k + 1, by go_num, by omega, fun _ => ?_, fun h => ?_, Hbel.out.alloc Hbel.out.size _⟩
          · by_cases h0 : k = 0
            · obtain ⟨rfl, rfl⟩ := Hxa.out h0; exact Hc.out
            · exact Hr1.out (by omega)
          · obtain ⟨rfl, rfl⟩ := Hxb.out (by omega); exact Hc.out
        case measure => simp [intOf]; omega
      · have hcf : cntB x y = false := by rcases hbad with h | h | h | h | h <;> exact h.1
        have hv : MV = ⟨0, 0, 0, 0, 0, 0, 0, 0⟩ ∧ ME = 1 := by
          refine HVbad.out ?_
          have hk' : k = 0 ∨ k = 1 := by omega
          rcases hk' with h0 | h0
          · obtain ⟨rfl, rfl⟩ := Hxa.out h0; rw [hcf]; rfl
          · obtain ⟨rfl, rfl⟩ := Hxb.out h0; rw [hcf, Bool.and_false]
        obtain ⟨rfl, rfl⟩ := hv
        obtain ⟨⟨r0, r1, r2, r3, r4, r5, r6, r7⟩, q0, q1, q2, q3, q4, q5, q6, q7⟩ := Hz3.out
        have hlt3 := World.block_lt_of_cell? _ _ r0
        simp only at r0 r1 r2 r3 r4 r5 r6 r7
        clear hcf
        -- BAD
        rcases hbad with ⟨-, g1⟩ | ⟨-, g1, g2⟩ | ⟨-, g1, g2, g3⟩ | ⟨-, g1, g2, g3, g4⟩ | ⟨-, g1, g2, g3, g4, g5⟩
        all_goals
          go_wp2
          exact bodyPost_ret (v := .tuple #[.agg #[.int .i64 0, .int .i64 0, .float .f64 0, .float .f64 0, .float .f64 0, .float .f64 0, .float .f64 0, .float .f64 0], .int .i64 1]) (by simp [results, Try.results32, go_sem, r0, r1, r2, r3, r4, r5, r6, r7, hlt3]) rfl ⟨⟨0, 0, 0, 0, 0, 0, 0, 0⟩, rfl, mtSim.refl _, (by unfold Mt.Ok; decide), by repeat (first | with_reducible exact Hbz.out | (with_reducible refine below_drewN ?_ _) | (with_reducible refine Below.setCell ?_ (by first | (simp; done) | (simp; omega)) _) | (with_reducible refine Below.alloc ?_ (by have := Hbz.out.size; simpa using this) _))⟩
    · obtain rfl : k = 2 := by omega
      have hc1 := Hr1.out (by omega)
      have hc2 := Hr2.out (by omega)
      obtain ⟨n1, n2, n3⟩ := cnt_facts hc1
      obtain ⟨m1, m2, m3⟩ := cnt_facts hc2
      have HC1 := Lib.hid hc1; have HC2 := Lib.hid hc2
      have Hx3 : Hid (Mt3 w w.heap.size (w.heap.size + 1) (w.heap.size + 1 + 1) ⟨N, Bad, S, L, Lo, Hi, Me, Sp⟩ ⟨N2, Bad2, S2, L2, Lo2, Hi2, Me2, Sp2⟩ ⟨0, 0, 0, 0, 0, 0, 0, 0⟩ wr) := Lib.hid ⟨H3.out.1.later (by have := Hsz.out; omega) Hbel.out, H3.out.2.1.later (by have := Hsz.out; omega) Hbel.out, Hz3.out, Hbz.out⟩
      have hE : w.heap.size + 4 ≤ wr.heap.size := by have := Hbel.out.size; have := Hsz.out; omega
      have Hlt := Lib.hid hE
      have HE := Lib.hid (show w.heap.size ≤ wr.heap.size by omega)
      have HE1 := Lib.hid (show wr.heap.size ≠ w.heap.size by omega)
      have HE2 := Lib.hid (show wr.heap.size ≠ w.heap.size + 1 by omega)
      have HE3 := Lib.hid (show wr.heap.size ≠ w.heap.size + 1 + 1 by omega)
      clear hc1 hc2 hE
      obtain ⟨⟨⟨a0, a1, a2, a3, a4, a5, a6, a7⟩, -⟩, ⟨⟨b0, b1, b2, b3, b4, b5, b6, b7⟩, -⟩, -, -⟩ := Hx3.out
      simp only at a0 a1 a2 a3 a4 a5 a6 a7 b0 b1 b2 b3 b4 b5 b6 b7
      obtain ⟨E, hE⟩ : ∃ E, E = wr.heap.size := ⟨_, rfl⟩
      go_upto_region 8 with (fail)
      refine wp_name (Mt4 w w.heap.size (w.heap.size + 1) (w.heap.size + 1 + 1) wr.heap.size ⟨N, Bad, S, L, Lo, Hi, Me, Sp⟩ ⟨N2, Bad2, S2, L2, Lo2, Hi2, Me2, Sp2⟩ ⟨0, 0, 0, 0, 0, 0, 0, 0⟩ ⟨N + N2, Bad + Bad2, 0, 0, 0, 0, 0, 0⟩) ?_ ?_
      · refine ⟨⟨Hx3.out.1.later (by have := Hlt.out; omega) ((Below.refl _ _).alloc (Nat.le_refl _) _), Hx3.out.2.1.later (by have := Hlt.out; omega) ((Below.refl _ _).alloc (Nat.le_refl _) _), Hx3.out.2.2.1.later (by have := Hlt.out; omega) ((Below.refl _ _).alloc (Nat.le_refl _) _), Hbz.out.alloc HE.out _⟩, ?_⟩
        exact mtCell_alloc wr ⟨N + N2, Bad + Bad2, 0, 0, 0, 0, 0, 0⟩ _
      clear a0 a1 a2 a3 a4 a5 a6 a7 b0 b1 b2 b3 b4 b5 b6 b7
      intro X hx
      -- the three ways

      have HX := Lib.hid hx
      clear hx
      have HN := Lib.hid (show N = 0 ∨ (N ≠ 0 ∧ N2 = 0) ∨ (N ≠ 0 ∧ N2 ≠ 0) by omega)
      rcases HN.out with h0 | ⟨h0, h0'⟩ | ⟨h0, h0'⟩

      · skip
        have hv := HVa.out HC1.out HC2.out h0
        obtain ⟨rfl, rfl⟩ := hv
        have hq0 : (N == 0) = true := beq_iff_eq.2 h0
        have HF : Hid (w.heap.size + 4 < X.heap.size) := Lib.hid (by have := World.block_lt_of_cell? _ _ HX.out.2.1.1; have := Hlt.out; simp at *; omega)
        have HY : Hid (Mt3 w X.heap.size wr.heap.size (w.heap.size + 1 + 1) ⟨N2, Bad2, S2, L2, Lo2, Hi2, Me2, Sp2⟩ ⟨N + N2, Bad + Bad2, 0, 0, 0, 0, 0, 0⟩ ⟨0, 0, 0, 0, 0, 0, 0, 0⟩ (X.alloc (.cells #[.int .i64 N2, .int .i64 Bad2, .float .f64 S2, .float .f64 L2, .float .f64 Lo2, .float .f64 Hi2, .float .f64 Me2, .float .f64 Sp2] 32))) := Lib.hid ⟨mtCell_alloc X ⟨N2, Bad2, S2, L2, Lo2, Hi2, Me2, Sp2⟩ _, HX.out.2.later (World.block_lt_of_cell? _ _ HX.out.2.1.1) ((Below.refl _ _).alloc (Nat.le_refl _) _), HX.out.1.2.2.1.later (by have := HF.out; omega) ((Below.refl _ _).alloc (Nat.le_refl _) _), HX.out.1.2.2.2.alloc HX.out.1.2.2.2.size _⟩
        have HF0 := Lib.hid (show w.heap.size ≤ X.heap.size by have := HF.out; omega)
        have HF1 := Lib.hid (show X.heap.size ≠ wr.heap.size by have := World.block_lt_of_cell? _ _ HX.out.2.1.1; simp at this; omega)
        have HF2 := Lib.hid (show X.heap.size ≠ w.heap.size + 1 + 1 by have := HF.out; omega)
        obtain ⟨⟨⟨⟨a0, a1, a2, a3, a4, a5, a6, a7⟩, -⟩, ⟨⟨b0, b1, b2, b3, b4, b5, b6, b7⟩, -⟩, -, -⟩, -⟩ := HX.out
        simp only at a0 a1 a2 a3 a4 a5 a6 a7 b0 b1 b2 b3 b4 b5 b6 b7
        have hlt0 : w.heap.size < X.heap.size := by have := HF.out; omega
        have hlt1 : w.heap.size + 1 < X.heap.size := by have := HF.out; omega
        clear h0
        go_upto_region 12 with (fail)
        refine wp_name (Mt3 w X.heap.size wr.heap.size (w.heap.size + 1 + 1) ⟨N2, Bad2, S2, L2, Lo2, Hi2, Me2, Sp2⟩ ⟨N + N2, Bad + Bad2, 0, 0, 0, 0, 0, 0⟩ ⟨0, 0, 0, 0, 0, 0, 0, 0⟩) ?_ ?_
        · repeat (first | with_reducible exact HY.out | with_reducible apply Mt3.drewN | with_reducible apply Mt3.drew | with_reducible apply Mt3.a0 HF0.out HF1.out HF2.out | with_reducible apply Mt3.a1 HF0.out HF1.out HF2.out | with_reducible apply Mt3.a2 HF0.out HF1.out HF2.out | with_reducible apply Mt3.a3 HF0.out HF1.out HF2.out | with_reducible apply Mt3.a4 HF0.out HF1.out HF2.out | with_reducible apply Mt3.a5 HF0.out HF1.out HF2.out | with_reducible apply Mt3.a6 HF0.out HF1.out HF2.out | with_reducible apply Mt3.a7 HF0.out HF1.out HF2.out)
        clear a0 a1 a2 a3 a4 a5 a6 a7 b0 b1 b2 b3 b4 b5 b6 b7 HY
        intro Y hy
        have HY := Lib.hid hy
        obtain ⟨⟨⟨a0, a1, a2, a3, a4, a5, a6, a7⟩, f0, f1, f2, f3, f4, f5, f6, f7⟩, ⟨⟨b0, b1, b2, b3, b4, b5, b6, b7⟩, -⟩, -, -⟩ := hy
        simp only at a0 a1 a2 a3 a4 a5 a6 a7 b0 b1 b2 b3 b4 b5 b6 b7
        go_cut [] (fun wx => Mt3 w X.heap.size wr.heap.size (w.heap.size + 1 + 1) ⟨N + N2, Bad + Bad2, S2, L2, Lo2, Hi2, Me2, Sp2⟩ ⟨N + N2, Bad + Bad2, 0, 0, 0, 0, 0, 0⟩ ⟨0, 0, 0, 0, 0, 0, 0, 0⟩ wx)
        case first =>
          go_region
          all_goals
            go_wp2_with fail
            go_meet
            repeat (first | with_reducible exact HY.out | with_reducible apply Mt3.drewN | with_reducible apply Mt3.drew | with_reducible apply Mt3.a0 HF0.out HF1.out HF2.out | with_reducible apply Mt3.a1 HF0.out HF1.out HF2.out | with_reducible apply Mt3.a2 HF0.out HF1.out HF2.out | with_reducible apply Mt3.a3 HF0.out HF1.out HF2.out | with_reducible apply Mt3.a4 HF0.out HF1.out HF2.out | with_reducible apply Mt3.a5 HF0.out HF1.out HF2.out | with_reducible apply Mt3.a6 HF0.out HF1.out HF2.out | with_reducible apply Mt3.a7 HF0.out HF1.out HF2.out)
        clear HY a0 a1 a2 a3 a4 a5 a6 a7 f0 f1 f2 f3 f4 f5 f6 f7 b0 b1 b2 b3 b4 b5 b6 b7
        case rest =>
          obtain ⟨⟨⟨a0, a1, a2, a3, a4, a5, a6, a7⟩, -⟩, -, ⟨⟨r0, r1, r2, r3, r4, r5, r6, r7⟩, g0, g1, g2, g3, g4, g5, g6, g7⟩, hby⟩ := hcut
          simp only at a0 a1 a2 a3 a4 a5 a6 a7 r0 r1 r2 r3 r4 r5 r6 r7
          have Hby := Lib.hid hby
          clear hby
          go_wp2
          exact bodyPost_ret (v := .tuple #[.agg #[.int .i64 (N + N2), .int .i64 (Bad + Bad2), .float .f64 S2, .float .f64 L2, .float .f64 Lo2, .float .f64 Hi2, .float .f64 Me2, .float .f64 Sp2], .int .i64 0]) (by simp [results, Try.results32, go_sem, r0, r1, r2, r3, r4, r5, r6, r7]) rfl ⟨⟨N + N2, Bad + Bad2, S2, L2, Lo2, Hi2, Me2, Sp2⟩, rfl, mtSim.refl _, Ok2.out, by repeat (first | with_reducible exact Hby.out | (with_reducible refine below_drewN ?_ _) | (with_reducible refine Below.setCell ?_ (by first | (simp; done) | (simp; omega)) _))⟩
      · skip
        have hv := HVb.out HC1.out HC2.out h0 h0'
        obtain ⟨rfl, rfl⟩ := hv
        have hq0 : (N == 0) = false := beq_eq_false_iff_ne.2 h0
        have hq1 : (N2 == 0) = true := beq_iff_eq.2 h0'
        have HF : Hid (w.heap.size + 4 < X.heap.size) := Lib.hid (by have := World.block_lt_of_cell? _ _ HX.out.2.1.1; have := Hlt.out; simp at *; omega)
        have HY : Hid (Mt3 w X.heap.size wr.heap.size (w.heap.size + 1 + 1) ⟨N, Bad, S, L, Lo, Hi, Me, Sp⟩ ⟨N + N2, Bad + Bad2, 0, 0, 0, 0, 0, 0⟩ ⟨0, 0, 0, 0, 0, 0, 0, 0⟩ (X.alloc (.cells #[.int .i64 N, .int .i64 Bad, .float .f64 S, .float .f64 L, .float .f64 Lo, .float .f64 Hi, .float .f64 Me, .float .f64 Sp] 32))) := Lib.hid ⟨mtCell_alloc X ⟨N, Bad, S, L, Lo, Hi, Me, Sp⟩ _, HX.out.2.later (World.block_lt_of_cell? _ _ HX.out.2.1.1) ((Below.refl _ _).alloc (Nat.le_refl _) _), HX.out.1.2.2.1.later (by have := HF.out; omega) ((Below.refl _ _).alloc (Nat.le_refl _) _), HX.out.1.2.2.2.alloc HX.out.1.2.2.2.size _⟩
        have HF0 := Lib.hid (show w.heap.size ≤ X.heap.size by have := HF.out; omega)
        have HF1 := Lib.hid (show X.heap.size ≠ wr.heap.size by have := World.block_lt_of_cell? _ _ HX.out.2.1.1; simp at this; omega)
        have HF2 := Lib.hid (show X.heap.size ≠ w.heap.size + 1 + 1 by have := HF.out; omega)
        obtain ⟨⟨⟨⟨a0, a1, a2, a3, a4, a5, a6, a7⟩, -⟩, ⟨⟨b0, b1, b2, b3, b4, b5, b6, b7⟩, -⟩, -, -⟩, -⟩ := HX.out
        simp only at a0 a1 a2 a3 a4 a5 a6 a7 b0 b1 b2 b3 b4 b5 b6 b7
        have hlt0 : w.heap.size < X.heap.size := by have := HF.out; omega
        have hlt1 : w.heap.size + 1 < X.heap.size := by have := HF.out; omega
        clear h0 h0'
        go_upto_region 12 with (fail)
        refine wp_name (Mt3 w X.heap.size wr.heap.size (w.heap.size + 1 + 1) ⟨N, Bad, S, L, Lo, Hi, Me, Sp⟩ ⟨N + N2, Bad + Bad2, 0, 0, 0, 0, 0, 0⟩ ⟨0, 0, 0, 0, 0, 0, 0, 0⟩) ?_ ?_
        · repeat (first | with_reducible exact HY.out | with_reducible apply Mt3.drewN | with_reducible apply Mt3.drew | with_reducible apply Mt3.a0 HF0.out HF1.out HF2.out | with_reducible apply Mt3.a1 HF0.out HF1.out HF2.out | with_reducible apply Mt3.a2 HF0.out HF1.out HF2.out | with_reducible apply Mt3.a3 HF0.out HF1.out HF2.out | with_reducible apply Mt3.a4 HF0.out HF1.out HF2.out | with_reducible apply Mt3.a5 HF0.out HF1.out HF2.out | with_reducible apply Mt3.a6 HF0.out HF1.out HF2.out | with_reducible apply Mt3.a7 HF0.out HF1.out HF2.out)
        clear a0 a1 a2 a3 a4 a5 a6 a7 b0 b1 b2 b3 b4 b5 b6 b7 HY
        intro Y hy
        have HY := Lib.hid hy
        obtain ⟨⟨⟨a0, a1, a2, a3, a4, a5, a6, a7⟩, f0, f1, f2, f3, f4, f5, f6, f7⟩, ⟨⟨b0, b1, b2, b3, b4, b5, b6, b7⟩, -⟩, -, -⟩ := hy
        simp only at a0 a1 a2 a3 a4 a5 a6 a7 b0 b1 b2 b3 b4 b5 b6 b7
        go_cut [] (fun wx => Mt3 w X.heap.size wr.heap.size (w.heap.size + 1 + 1) ⟨N + N2, Bad + Bad2, S, L, Lo, Hi, Me, Sp⟩ ⟨N + N2, Bad + Bad2, 0, 0, 0, 0, 0, 0⟩ ⟨0, 0, 0, 0, 0, 0, 0, 0⟩ wx)
        case first =>
          go_region
          all_goals
            go_wp2_with fail
            go_meet
            repeat (first | with_reducible exact HY.out | with_reducible apply Mt3.drewN | with_reducible apply Mt3.drew | with_reducible apply Mt3.a0 HF0.out HF1.out HF2.out | with_reducible apply Mt3.a1 HF0.out HF1.out HF2.out | with_reducible apply Mt3.a2 HF0.out HF1.out HF2.out | with_reducible apply Mt3.a3 HF0.out HF1.out HF2.out | with_reducible apply Mt3.a4 HF0.out HF1.out HF2.out | with_reducible apply Mt3.a5 HF0.out HF1.out HF2.out | with_reducible apply Mt3.a6 HF0.out HF1.out HF2.out | with_reducible apply Mt3.a7 HF0.out HF1.out HF2.out)
        clear HY a0 a1 a2 a3 a4 a5 a6 a7 f0 f1 f2 f3 f4 f5 f6 f7 b0 b1 b2 b3 b4 b5 b6 b7
        case rest =>
          obtain ⟨⟨⟨a0, a1, a2, a3, a4, a5, a6, a7⟩, -⟩, -, ⟨⟨r0, r1, r2, r3, r4, r5, r6, r7⟩, g0, g1, g2, g3, g4, g5, g6, g7⟩, hby⟩ := hcut
          simp only at a0 a1 a2 a3 a4 a5 a6 a7 r0 r1 r2 r3 r4 r5 r6 r7
          have Hby := Lib.hid hby
          clear hby
          go_wp2
          exact bodyPost_ret (v := .tuple #[.agg #[.int .i64 (N + N2), .int .i64 (Bad + Bad2), .float .f64 S, .float .f64 L, .float .f64 Lo, .float .f64 Hi, .float .f64 Me, .float .f64 Sp], .int .i64 0]) (by simp [results, Try.results32, go_sem, r0, r1, r2, r3, r4, r5, r6, r7]) rfl ⟨⟨N + N2, Bad + Bad2, S, L, Lo, Hi, Me, Sp⟩, rfl, mtSim.refl _, Ok1.out, by repeat (first | with_reducible exact Hby.out | (with_reducible refine below_drewN ?_ _) | (with_reducible refine Below.setCell ?_ (by first | (simp; done) | (simp; omega)) _))⟩
      · skip
        have hv := HVc.out HC1.out HC2.out h0 h0'
        obtain ⟨rfl, rfl⟩ := hv
        have hq0 : (N == 0) = false := beq_eq_false_iff_ne.2 h0
        have hq1 : (N2 == 0) = false := beq_eq_false_iff_ne.2 h0'
        clear h0 h0'
        have hx := HX.out
        clear HX
        have HX := Lib.hid hx
        obtain ⟨⟨⟨⟨a0, a1, a2, a3, a4, a5, a6, a7⟩, -⟩, ⟨⟨b0, b1, b2, b3, b4, b5, b6, b7⟩, -⟩, -, -⟩, ⟨e0, e1, e2, e3, e4, e5, e6, e7⟩, f0, f1, f2, f3, f4, f5, f6, f7⟩ := hx
        simp only at a0 a1 a2 a3 a4 a5 a6 a7 b0 b1 b2 b3 b4 b5 b6 b7 e0 e1 e2 e3 e4 e5 e6 e7
        go_wp2_with fail
        refine arith_upon op_add ?_
        rintro c0 k0 hc hb
        have Hc0 := Lib.hid hc; have Hb0 := Lib.hid hb; clear hc hb
        obtain ⟨G, hG⟩ : ∃ G, G = decide (rg c0 < 9218868437227405312) := ⟨_, rfl⟩
        have Kf0 := Lib.hid (fun v => Kf.out c0 v)
        rw [← hG] at Kf0
        have HG := Lib.hid hG
        clear hG
        go_upto_if 102 with (go_at_call 52; (with_reducible refine (Kf0.out _).mono ?_); rintro e w1 ⟨rfl, rfl⟩)
        refine wp_name (Mt4 w w.heap.size (w.heap.size + 1) (w.heap.size + 1 + 1) wr.heap.size ⟨N, Bad, S, L, Lo, Hi, Me, Sp⟩ ⟨N2, Bad2, S2, L2, Lo2, Hi2, Me2, Sp2⟩ ⟨0, 0, 0, 0, 0, 0, 0, 0⟩ ⟨N + N2, Bad + Bad2, c0, 0, 0, 0, 0, 0⟩) ?_ ?_
        · repeat (first | with_reducible exact HX.out | with_reducible apply Mt4.drewN | with_reducible apply Mt4.drew | with_reducible apply Mt4.e0 HE.out HE1.out HE2.out HE3.out | with_reducible apply Mt4.e1 HE.out HE1.out HE2.out HE3.out | with_reducible apply Mt4.e2 HE.out HE1.out HE2.out HE3.out | with_reducible apply Mt4.e3 HE.out HE1.out HE2.out HE3.out | with_reducible apply Mt4.e4 HE.out HE1.out HE2.out HE3.out | with_reducible apply Mt4.e5 HE.out HE1.out HE2.out HE3.out | with_reducible apply Mt4.e6 HE.out HE1.out HE2.out HE3.out | with_reducible apply Mt4.e7 HE.out HE1.out HE2.out HE3.out)
        clear HX a0 a1 a2 a3 a4 a5 a6 a7 b0 b1 b2 b3 b4 b5 b6 b7 e0 e1 e2 e3 e4 e5 e6 e7 f0 f1 f2 f3 f4 f5 f6 f7
        intro X hx
        have HX := Lib.hid hx
        obtain ⟨⟨⟨⟨a0, a1, a2, a3, a4, a5, a6, a7⟩, -⟩, ⟨⟨b0, b1, b2, b3, b4, b5, b6, b7⟩, -⟩, -, -⟩, ⟨e0, e1, e2, e3, e4, e5, e6, e7⟩, f0, f1, f2, f3, f4, f5, f6, f7⟩ := hx
        simp only at a0 a1 a2 a3 a4 a5 a6 a7 b0 b1 b2 b3 b4 b5 b6 b7 e0 e1 e2 e3 e4 e5 e6 e7
        have HD : Hid (∀ wx l, nfW l = lossA S S2 → l < 18446744073709551616 → Mt4 w w.heap.size (w.heap.size + 1) (w.heap.size + 1 + 1) wr.heap.size ⟨N, Bad, S, L, Lo, Hi, Me, Sp⟩ ⟨N2, Bad2, S2, L2, Lo2, Hi2, Me2, Sp2⟩ ⟨0, 0, 0, 0, 0, 0, 0, 0⟩ ⟨N + N2, Bad + Bad2, c0, 0, 0, 0, 0, 0⟩ wx → DmL w w.heap.size (w.heap.size + 1) (w.heap.size + 1 + 1) wr.heap.size ⟨N, Bad, S, L, Lo, Hi, Me, Sp⟩ ⟨N2, Bad2, S2, L2, Lo2, Hi2, Me2, Sp2⟩ ⟨0, 0, 0, 0, 0, 0, 0, 0⟩ ⟨N + N2, Bad + Bad2, c0, 0, 0, 0, 0, 0⟩ S S2 (.float .f64 l) wx) := Lib.hid (fun wx l h1 h2 h3 => ⟨l, rfl, h1, h2, h3⟩)
        go_cut [10] (fun s10 wx => DmL w w.heap.size (w.heap.size + 1) (w.heap.size + 1 + 1) wr.heap.size ⟨N, Bad, S, L, Lo, Hi, Me, Sp⟩ ⟨N2, Bad2, S2, L2, Lo2, Hi2, Me2, Sp2⟩ ⟨0, 0, 0, 0, 0, 0, 0, 0⟩ ⟨N + N2, Bad + Bad2, c0, 0, 0, 0, 0, 0⟩ S S2 s10 wx)
        case first =>
          cases G
          · have hf : ¬ rg c0 < 9218868437227405312 := of_decide_eq_false HG.out.symm
            have Hl := Lib.hid (sum_big Hc0.out hf).1
            clear hf
            go_wp2_with fail
            go_meet
            refine HD.out _ 0 Hl.out (by decide) ?_
            repeat (first | with_reducible exact HX.out | with_reducible apply Mt4.drewN | with_reducible apply Mt4.drew | with_reducible apply Mt4.e0 HE.out HE1.out HE2.out HE3.out | with_reducible apply Mt4.e1 HE.out HE1.out HE2.out HE3.out | with_reducible apply Mt4.e2 HE.out HE1.out HE2.out HE3.out | with_reducible apply Mt4.e3 HE.out HE1.out HE2.out HE3.out | with_reducible apply Mt4.e4 HE.out HE1.out HE2.out HE3.out | with_reducible apply Mt4.e5 HE.out HE1.out HE2.out HE3.out | with_reducible apply Mt4.e6 HE.out HE1.out HE2.out HE3.out | with_reducible apply Mt4.e7 HE.out HE1.out HE2.out HE3.out)
          · have hf : rg c0 < 9218868437227405312 := of_decide_eq_true HG.out.symm
            have Hf := Lib.hid hf
            clear hf
            go_wp2_with (go_at_call 53; (with_reducible refine (Ks.out _ _).mono ?_); rintro e w1 ⟨l, n1, rfl, hl, bl, rfl⟩; have Hl := Lib.hid (lost_lossA Hc0.out Hf.out hl).1; have Bl := Lib.hid bl; clear hl bl)
            go_meet
            refine HD.out _ l Hl.out Bl.out ?_
            repeat (first | with_reducible exact HX.out | with_reducible apply Mt4.drewN | with_reducible apply Mt4.drew | with_reducible apply Mt4.e0 HE.out HE1.out HE2.out HE3.out | with_reducible apply Mt4.e1 HE.out HE1.out HE2.out HE3.out | with_reducible apply Mt4.e2 HE.out HE1.out HE2.out HE3.out | with_reducible apply Mt4.e3 HE.out HE1.out HE2.out HE3.out | with_reducible apply Mt4.e4 HE.out HE1.out HE2.out HE3.out | with_reducible apply Mt4.e5 HE.out HE1.out HE2.out HE3.out | with_reducible apply Mt4.e6 HE.out HE1.out HE2.out HE3.out | with_reducible apply Mt4.e7 HE.out HE1.out HE2.out HE3.out)
        clear HX HD a0 a1 a2 a3 a4 a5 a6 a7 b0 b1 b2 b3 b4 b5 b6 b7 e0 e1 e2 e3 e4 e5 e6 e7 f0 f1 f2 f3 f4 f5 f6 f7
        case rest =>
          obtain ⟨l, rfl, hl, bl, hx⟩ := hcut
          have Hl := Lib.hid hl; have Bl := Lib.hid bl
          clear hl bl
          have HX := Lib.hid hx
          obtain ⟨⟨⟨⟨a0, a1, a2, a3, a4, a5, a6, a7⟩, -⟩, ⟨⟨b0, b1, b2, b3, b4, b5, b6, b7⟩, -⟩, -, -⟩, ⟨e0, e1, e2, e3, e4, e5, e6, e7⟩, f0, f1, f2, f3, f4, f5, f6, f7⟩ := hx
          simp only at a0 a1 a2 a3 a4 a5 a6 a7 b0 b1 b2 b3 b4 b5 b6 b7 e0 e1 e2 e3 e4 e5 e6 e7
          go_wp2_with fail
          refine arith_upon op_add ?_
          rintro c1 k1 hc hb
          have Hc1 := Lib.hid hc; have Hb1 := Lib.hid hb; clear hc hb
          go_wp2_with fail
          refine arith_upon op_add ?_
          rintro c2 k2 hc hb
          have Hc2 := Lib.hid hc; have Hb2 := Lib.hid hb; clear hc hb
          have Hc2' : Hid (nfW c2 = fA .add (fA .add L L2) (lossA S S2)) := Lib.hid (Hc2.out.trans (fA_rr op_add Hb1.out Bl.out Hc1.out Hl.out))
          go_upto_region 20 with (fail)
          refine wp_name (Mt4 w w.heap.size (w.heap.size + 1) (w.heap.size + 1 + 1) wr.heap.size ⟨N, Bad, S, L, Lo, Hi, Me, Sp⟩ ⟨N2, Bad2, S2, L2, Lo2, Hi2, Me2, Sp2⟩ ⟨0, 0, 0, 0, 0, 0, 0, 0⟩ ⟨N + N2, Bad + Bad2, c0, c2, 0, 0, 0, 0⟩) ?_ ?_
          · repeat (first | with_reducible exact HX.out | with_reducible apply Mt4.drewN | with_reducible apply Mt4.drew | with_reducible apply Mt4.e0 HE.out HE1.out HE2.out HE3.out | with_reducible apply Mt4.e1 HE.out HE1.out HE2.out HE3.out | with_reducible apply Mt4.e2 HE.out HE1.out HE2.out HE3.out | with_reducible apply Mt4.e3 HE.out HE1.out HE2.out HE3.out | with_reducible apply Mt4.e4 HE.out HE1.out HE2.out HE3.out | with_reducible apply Mt4.e5 HE.out HE1.out HE2.out HE3.out | with_reducible apply Mt4.e6 HE.out HE1.out HE2.out HE3.out | with_reducible apply Mt4.e7 HE.out HE1.out HE2.out HE3.out)
          clear HX a0 a1 a2 a3 a4 a5 a6 a7 b0 b1 b2 b3 b4 b5 b6 b7 e0 e1 e2 e3 e4 e5 e6 e7 f0 f1 f2 f3 f4 f5 f6 f7
          intro X hx
          have HX := Lib.hid hx
          obtain ⟨⟨⟨⟨a0, a1, a2, a3, a4, a5, a6, a7⟩, -⟩, ⟨⟨b0, b1, b2, b3, b4, b5, b6, b7⟩, -⟩, -, -⟩, ⟨e0, e1, e2, e3, e4, e5, e6, e7⟩, f0, f1, f2, f3, f4, f5, f6, f7⟩ := hx
          simp only at a0 a1 a2 a3 a4 a5 a6 a7 b0 b1 b2 b3 b4 b5 b6 b7 e0 e1 e2 e3 e4 e5 e6 e7
          go_upto_region 21 with (go_at_call 54; (with_reducible refine (Kl.out _).mono ?_); rintro e w' ⟨rfl, rfl⟩)
          refine wp_name (Mt4 w w.heap.size (w.heap.size + 1) (w.heap.size + 1 + 1) wr.heap.size ⟨N, Bad, S, L, Lo, Hi, Me, Sp⟩ ⟨N2, Bad2, S2, L2, Lo2, Hi2, Me2, Sp2⟩ ⟨0, 0, 0, 0, 0, 0, 0, 0⟩ ⟨N + N2, Bad + Bad2, c0, c2, leastW Lo Lo2, 0, 0, 0⟩) ?_ ?_
          · repeat (first | with_reducible exact HX.out | with_reducible apply Mt4.drewN | with_reducible apply Mt4.drew | with_reducible apply Mt4.e0 HE.out HE1.out HE2.out HE3.out | with_reducible apply Mt4.e1 HE.out HE1.out HE2.out HE3.out | with_reducible apply Mt4.e2 HE.out HE1.out HE2.out HE3.out | with_reducible apply Mt4.e3 HE.out HE1.out HE2.out HE3.out | with_reducible apply Mt4.e4 HE.out HE1.out HE2.out HE3.out | with_reducible apply Mt4.e5 HE.out HE1.out HE2.out HE3.out | with_reducible apply Mt4.e6 HE.out HE1.out HE2.out HE3.out | with_reducible apply Mt4.e7 HE.out HE1.out HE2.out HE3.out)
          clear HX a0 a1 a2 a3 a4 a5 a6 a7 b0 b1 b2 b3 b4 b5 b6 b7 e0 e1 e2 e3 e4 e5 e6 e7 f0 f1 f2 f3 f4 f5 f6 f7
          intro X hx
          have HX := Lib.hid hx
          obtain ⟨⟨⟨⟨a0, a1, a2, a3, a4, a5, a6, a7⟩, -⟩, ⟨⟨b0, b1, b2, b3, b4, b5, b6, b7⟩, -⟩, -, -⟩, ⟨e0, e1, e2, e3, e4, e5, e6, e7⟩, f0, f1, f2, f3, f4, f5, f6, f7⟩ := hx
          simp only at a0 a1 a2 a3 a4 a5 a6 a7 b0 b1 b2 b3 b4 b5 b6 b7 e0 e1 e2 e3 e4 e5 e6 e7
          go_upto_region 22 with (go_at_call 55; (with_reducible refine (Kh.out _).mono ?_); rintro e w' ⟨rfl, rfl⟩)
          refine wp_name (Mt4 w w.heap.size (w.heap.size + 1) (w.heap.size + 1 + 1) wr.heap.size ⟨N, Bad, S, L, Lo, Hi, Me, Sp⟩ ⟨N2, Bad2, S2, L2, Lo2, Hi2, Me2, Sp2⟩ ⟨0, 0, 0, 0, 0, 0, 0, 0⟩ ⟨N + N2, Bad + Bad2, c0, c2, leastW Lo Lo2, mostR Hi Hi2, 0, 0⟩) ?_ ?_
          · repeat (first | with_reducible exact HX.out | with_reducible apply Mt4.drewN | with_reducible apply Mt4.drew | with_reducible apply Mt4.e0 HE.out HE1.out HE2.out HE3.out | with_reducible apply Mt4.e1 HE.out HE1.out HE2.out HE3.out | with_reducible apply Mt4.e2 HE.out HE1.out HE2.out HE3.out | with_reducible apply Mt4.e3 HE.out HE1.out HE2.out HE3.out | with_reducible apply Mt4.e4 HE.out HE1.out HE2.out HE3.out | with_reducible apply Mt4.e5 HE.out HE1.out HE2.out HE3.out | with_reducible apply Mt4.e6 HE.out HE1.out HE2.out HE3.out | with_reducible apply Mt4.e7 HE.out HE1.out HE2.out HE3.out)
          clear HX a0 a1 a2 a3 a4 a5 a6 a7 b0 b1 b2 b3 b4 b5 b6 b7 e0 e1 e2 e3 e4 e5 e6 e7 f0 f1 f2 f3 f4 f5 f6 f7
          intro X hx
          have HX := Lib.hid hx
          obtain ⟨⟨⟨⟨a0, a1, a2, a3, a4, a5, a6, a7⟩, -⟩, ⟨⟨b0, b1, b2, b3, b4, b5, b6, b7⟩, -⟩, -, -⟩, ⟨e0, e1, e2, e3, e4, e5, e6, e7⟩, f0, f1, f2, f3, f4, f5, f6, f7⟩ := hx
          simp only at a0 a1 a2 a3 a4 a5 a6 a7 b0 b1 b2 b3 b4 b5 b6 b7 e0 e1 e2 e3 e4 e5 e6 e7
          go_quiet (fail)
          go_wp2_with fail
          refine arith_upon op_sub ?_
          rintro c3 k3 hc hb
          have Hc3 := Lib.hid hc; have Hb3 := Lib.hid hb; clear hc hb
          go_wp2_with fail
          refine arith_upon op_quo ?_
          rintro c4 k4 hc hb
          have Hc4 := Lib.hid hc; have Hb4 := Lib.hid hb; clear hc hb
          go_wp2_with fail
          refine arith_upon op_mul ?_
          rintro c5 k5 hc hb
          have Hc5 := Lib.hid hc; have Hb5 := Lib.hid hb; clear hc hb
          go_wp2_with fail
          refine arith_upon op_add ?_
          rintro c6 k6 hc hb
          have Hc6 := Lib.hid hc; have Hb6 := Lib.hid hb; clear hc hb
          go_upto_region 26 with (fail)
          refine wp_name (Mt4 w w.heap.size (w.heap.size + 1) (w.heap.size + 1 + 1) wr.heap.size ⟨N, Bad, S, L, Lo, Hi, Me, Sp⟩ ⟨N2, Bad2, S2, L2, Lo2, Hi2, Me2, Sp2⟩ ⟨0, 0, 0, 0, 0, 0, 0, 0⟩ ⟨N + N2, Bad + Bad2, c0, c2, leastW Lo Lo2, mostR Hi Hi2, c6, 0⟩) ?_ ?_
          · repeat (first | with_reducible exact HX.out | with_reducible apply Mt4.drewN | with_reducible apply Mt4.drew | with_reducible apply Mt4.e0 HE.out HE1.out HE2.out HE3.out | with_reducible apply Mt4.e1 HE.out HE1.out HE2.out HE3.out | with_reducible apply Mt4.e2 HE.out HE1.out HE2.out HE3.out | with_reducible apply Mt4.e3 HE.out HE1.out HE2.out HE3.out | with_reducible apply Mt4.e4 HE.out HE1.out HE2.out HE3.out | with_reducible apply Mt4.e5 HE.out HE1.out HE2.out HE3.out | with_reducible apply Mt4.e6 HE.out HE1.out HE2.out HE3.out | with_reducible apply Mt4.e7 HE.out HE1.out HE2.out HE3.out)
          clear HX a0 a1 a2 a3 a4 a5 a6 a7 b0 b1 b2 b3 b4 b5 b6 b7 e0 e1 e2 e3 e4 e5 e6 e7 f0 f1 f2 f3 f4 f5 f6 f7
          intro X hx
          have HX := Lib.hid hx
          obtain ⟨⟨⟨⟨a0, a1, a2, a3, a4, a5, a6, a7⟩, -⟩, ⟨⟨b0, b1, b2, b3, b4, b5, b6, b7⟩, -⟩, -, -⟩, ⟨e0, e1, e2, e3, e4, e5, e6, e7⟩, f0, f1, f2, f3, f4, f5, f6, f7⟩ := hx
          simp only at a0 a1 a2 a3 a4 a5 a6 a7 b0 b1 b2 b3 b4 b5 b6 b7 e0 e1 e2 e3 e4 e5 e6 e7
          go_wp2_with fail
          refine arith_upon op_mul ?_
          rintro c8 k8 hc hb
          have Hc8 := Lib.hid hc; have Hb8 := Lib.hid hb; clear hc hb
          go_wp2_with fail
          refine arith_upon op_mul ?_
          rintro c9 k9 hc hb
          have Hc9 := Lib.hid hc; have Hb9 := Lib.hid hb; clear hc hb
          go_wp2_with fail
          refine arith_upon op_quo ?_
          rintro c10 k10 hc hb
          have Hc10 := Lib.hid hc; have Hb10 := Lib.hid hb; clear hc hb
          go_wp2_with fail
          refine arith_upon op_add ?_
          rintro c7 k7 hc hb
          have Hc7 := Lib.hid hc; have Hb7 := Lib.hid hb; clear hc hb
          go_wp2_with fail
          refine arith_upon op_mul ?_
          rintro c11 k11 hc hb
          have Hc11 := Lib.hid hc; have Hb11 := Lib.hid hb; clear hc hb
          go_wp2_with fail
          refine arith_upon op_add ?_
          rintro c12 k12 hc hb
          have Hc12 := Lib.hid hc; have Hb12 := Lib.hid hb; clear hc hb
          go_upto_region 28 with (fail)
          refine wp_name (Mt4 w w.heap.size (w.heap.size + 1) (w.heap.size + 1 + 1) wr.heap.size ⟨N, Bad, S, L, Lo, Hi, Me, Sp⟩ ⟨N2, Bad2, S2, L2, Lo2, Hi2, Me2, Sp2⟩ ⟨0, 0, 0, 0, 0, 0, 0, 0⟩ ⟨N + N2, Bad + Bad2, c0, c2, leastW Lo Lo2, mostR Hi Hi2, c6, c12⟩) ?_ ?_
          · repeat (first | with_reducible exact HX.out | with_reducible apply Mt4.drewN | with_reducible apply Mt4.drew | with_reducible apply Mt4.e0 HE.out HE1.out HE2.out HE3.out | with_reducible apply Mt4.e1 HE.out HE1.out HE2.out HE3.out | with_reducible apply Mt4.e2 HE.out HE1.out HE2.out HE3.out | with_reducible apply Mt4.e3 HE.out HE1.out HE2.out HE3.out | with_reducible apply Mt4.e4 HE.out HE1.out HE2.out HE3.out | with_reducible apply Mt4.e5 HE.out HE1.out HE2.out HE3.out | with_reducible apply Mt4.e6 HE.out HE1.out HE2.out HE3.out | with_reducible apply Mt4.e7 HE.out HE1.out HE2.out HE3.out)
          clear HX a0 a1 a2 a3 a4 a5 a6 a7 b0 b1 b2 b3 b4 b5 b6 b7 e0 e1 e2 e3 e4 e5 e6 e7 f0 f1 f2 f3 f4 f5 f6 f7
          intro X hx
          have HX := Lib.hid hx
          obtain ⟨⟨⟨⟨a0, a1, a2, a3, a4, a5, a6, a7⟩, -⟩, ⟨⟨b0, b1, b2, b3, b4, b5, b6, b7⟩, -⟩, -, -⟩, ⟨e0, e1, e2, e3, e4, e5, e6, e7⟩, f0, f1, f2, f3, f4, f5, f6, f7⟩ := hx
          simp only at a0 a1 a2 a3 a4 a5 a6 a7 b0 b1 b2 b3 b4 b5 b6 b7 e0 e1 e2 e3 e4 e5 e6 e7
          obtain ⟨⟨-, -, ⟨⟨r0, r1, r2, r3, r4, r5, r6, r7⟩, g0, g1, g2, g3, g4, g5, g6, g7⟩, hbz⟩, -⟩ := HX.out
          have Hby := Lib.hid hbz
          clear hbz
          simp only at r0 r1 r2 r3 r4 r5 r6 r7
          go_wp2
          exact bodyPost_ret (v := .tuple #[.agg #[.int .i64 (N + N2), .int .i64 (Bad + Bad2), .float .f64 c0, .float .f64 c2, .float .f64 (leastW Lo Lo2), .float .f64 (mostR Hi Hi2), .float .f64 c6, .float .f64 c12], .int .i64 0]) (by simp [results, Try.results32, go_sem, r0, r1, r2, r3, r4, r5, r6, r7]) rfl ⟨⟨N + N2, Bad + Bad2, c0, c2, leastW Lo Lo2, mostR Hi Hi2, c6, c12⟩, rfl, mtSim_Hi (merge_end Hc0.out Hc2'.out Hb3.out Hb4.out Hb5.out Hb7.out Hb8.out Hb9.out Hb10.out Hb11.out Hc3.out Hc4.out Hc5.out Hc6.out Hc7.out Hc8.out Hc9.out Hc10.out Hc11.out Hc12.out) Hmo.out, ⟨Hb0.out, Hb2.out, HlR.out, HmR.out, Hb6.out, Hb12.out⟩, by repeat (first | with_reducible exact Hby.out | (with_reducible refine below_drewN ?_ _) | (with_reducible refine Below.setCell ?_ (by first | (simp; done) | (simp; omega)) _))⟩
end Go.Proofs.Ytecbbdbeihiioaa