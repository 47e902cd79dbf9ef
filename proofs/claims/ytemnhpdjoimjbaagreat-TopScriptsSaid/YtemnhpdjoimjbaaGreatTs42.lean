import Derived.Test.YtemnhpdjoimjbaaGreatTs41
import Derived.Test.YtemnhpdjoimjbaaGreatTs01
namespace Go.Proofs.YtemnhpdjoimjbaaGreat
section
open Go.RowKit Top
set_option linter.unusedVariables false
def fitOp (op : Nat) : Nat := if op < 1 ∨ 6 < op then 1 + op % 6 else op
def fitPol (op : Nat) (pol : Int) : Int := if op = 2 ∨ op = 3 ∨ (op = 4 ∧ pol.tmod 2 ≠ 0) then 1 else 0
def fitN (op : Nat) (n : Int) : Int := if op = 1 then clampI n else n
structure Pk where
 kind : Nat
 who : Int
 c : Top.Call
 N : Int
def fitC (c : Top.Call) : Top.Call := ⟨fitOp c.op, fitPol (fitOp c.op) c.pol, c.key.take 2, fitN (fitOp c.op) c.n⟩
def fitP (p : Pk) : Pk := ⟨p.kind % 3, p.who % 18446744073709551616 % 5, fitC p.c, p.N % 18446744073709551616 % 40⟩
def pickA (p : Pk) (kv : Value) : Array Value := #[.int .u8 (p.kind : Nat), .int .i64 p.who, .int .u8 (p.c.op : Nat), .int .i64 p.c.pol, kv, .int .i64 p.c.n, .int .i64 p.N]
structure PkOk (p : Pk) : Prop where
 kind : p.kind < 256
 who0 : -9223372036854775808 ≤ p.who
 who1 : p.who ≤ 9223372036854775807
 op : p.c.op < 256
 pol0 : -9223372036854775808 ≤ p.c.pol
 pol1 : p.c.pol ≤ 9223372036854775807
 n0 : -9223372036854775808 ≤ p.c.n
 n1 : p.c.n ≤ 9223372036854775807
 N0 : -9223372036854775808 ≤ p.N
 N1 : p.N ≤ 9223372036854775807
def FitW (w : World) (a : Array Value) (u : World) : Prop := Below w.heap.size w u ∧ Bx u w.heap.size 33 a ∧ Bx u (w.heap.size + 1) 33 #[.int .u8 0, .int .i64 0, .int .u8 0, .int .i64 0, .slice none 0 0, .int .i64 0, .int .i64 0]
theorem FitW.set {w u : World} {a : Array Value} (h : FitW w a u) (i : Nat) (v : Value) : FitW w (a.setIfInBounds i v) (u.setCell ⟨w.heap.size, i, none⟩ v) := ⟨h.1.setCell (Nat.le_refl _) _, h.2.1.setCell i v, h.2.2.setCell_ne _ _ (by simp)⟩
theorem FitW.cells {w u : World} {v0 v1 v2 v3 v4 v5 v6 : Value} (h : FitW w #[v0, v1, v2, v3, v4, v5, v6] u) : (u.cell? ⟨w.heap.size, 0, none⟩ = some v0 ∧ u.cell? ⟨w.heap.size, 1, none⟩ = some v1 ∧ u.cell? ⟨w.heap.size, 2, none⟩ = some v2 ∧ u.cell? ⟨w.heap.size, 3, none⟩ = some v3 ∧ u.cell? ⟨w.heap.size, 4, none⟩ = some v4 ∧ u.cell? ⟨w.heap.size, 5, none⟩ = some v5 ∧ u.cell? ⟨w.heap.size, 6, none⟩ = some v6) ∧ u.frozen? ⟨w.heap.size, 0, none⟩ = false ∧ u.frozen? ⟨w.heap.size, 1, none⟩ = false ∧ u.frozen? ⟨w.heap.size, 2, none⟩ = false ∧ u.frozen? ⟨w.heap.size, 3, none⟩ = false ∧ u.frozen? ⟨w.heap.size, 4, none⟩ = false ∧ u.frozen? ⟨w.heap.size, 5, none⟩ = false ∧ u.frozen? ⟨w.heap.size, 6, none⟩ = false :=
 ⟨⟨h.2.1.cell 0, h.2.1.cell 1, h.2.1.cell 2, h.2.1.cell 3, h.2.1.cell 4, h.2.1.cell 5, h.2.1.cell 6⟩, h.2.1.free 0, h.2.1.free 1, h.2.1.free 2, h.2.1.free 3, h.2.1.free 4, h.2.1.free 5, h.2.1.free 6⟩
def storeP (w : World) (r : Nat) (v0 v1 v2 v3 v4 v5 v6 : Value) : World := ((((((w.setCell ⟨r, 0, none⟩ v0).setCell ⟨r, 1, none⟩ v1).setCell ⟨r, 2, none⟩ v2).setCell ⟨r, 3, none⟩ v3).setCell ⟨r, 4, none⟩ v4).setCell ⟨r, 5, none⟩ v5).setCell ⟨r, 6, none⟩ v6
theorem storeP_bx {w : World} {r : Nat} {t : TypeId} {u0 u1 u2 u3 u4 u5 u6 v0 v1 v2 v3 v4 v5 v6 : Value} (h : Bx w r t #[u0, u1, u2, u3, u4, u5, u6]) : Bx (storeP w r v0 v1 v2 v3 v4 v5 v6) r t #[v0, v1, v2, v3, v4, v5, v6] := by
 have h1 : Bx (((w.setCell ⟨r, 0, none⟩ v0).setCell ⟨r, 1, none⟩ v1).setCell ⟨r, 2, none⟩ v2) r t #[v0, v1, v2, u3, u4, u5, u6] := ((h.setCell 0 v0).setCell 1 v1).setCell 2 v2
 have h2 : Bx (((((w.setCell ⟨r, 0, none⟩ v0).setCell ⟨r, 1, none⟩ v1).setCell ⟨r, 2, none⟩ v2).setCell ⟨r, 3, none⟩ v3).setCell ⟨r, 4, none⟩ v4) r t #[v0, v1, v2, v3, v4, u5, u6] := (h1.setCell 3 v3).setCell 4 v4
 exact (h2.setCell 5 v5).setCell 6 v6
theorem storeP_bel {B : Nat} {a w : World} {r : Nat} {v0 v1 v2 v3 v4 v5 v6 : Value} (hr : B ≤ r) (h : RowKit.Below B a w) : RowKit.Below B a (storeP w r v0 v1 v2 v3 v4 v5 v6) := belSet hr (belSet hr (belSet hr (belSet hr (belSet hr (belSet hr (belSet hr h))))))
theorem storeP_at {w Z : World} {a : Array Value} (v0 v1 v2 v3 v4 v5 v6 : Value) (h : FitW w a Z) : Below w.heap.size w (storeP Z (w.heap.size + 1) v0 v1 v2 v3 v4 v5 v6) ∧ (storeP Z (w.heap.size + 1) v0 v1 v2 v3 v4 v5 v6).cell? ⟨w.heap.size + 1, 0, none⟩ = some v0 ∧ (storeP Z (w.heap.size + 1) v0 v1 v2 v3 v4 v5 v6).cell? ⟨w.heap.size + 1, 1, none⟩ = some v1 ∧ (storeP Z (w.heap.size + 1) v0 v1 v2 v3 v4 v5 v6).cell? ⟨w.heap.size + 1, 2, none⟩ = some v2 ∧ (storeP Z (w.heap.size + 1) v0 v1 v2 v3 v4 v5 v6).cell? ⟨w.heap.size + 1, 3, none⟩ = some v3 ∧ (storeP Z (w.heap.size + 1) v0 v1 v2 v3 v4 v5 v6).cell? ⟨w.heap.size + 1, 4, none⟩ = some v4 ∧ (storeP Z (w.heap.size + 1) v0 v1 v2 v3 v4 v5 v6).cell? ⟨w.heap.size + 1, 5, none⟩ = some v5 ∧ (storeP Z (w.heap.size + 1) v0 v1 v2 v3 v4 v5 v6).cell? ⟨w.heap.size + 1, 6, none⟩ = some v6 := by
 have hz : Bx (storeP Z (w.heap.size + 1) v0 v1 v2 v3 v4 v5 v6) (w.heap.size + 1) 33 #[v0, v1, v2, v3, v4, v5, v6] := storeP_bx h.2.2
 exact ⟨storeP_bel (Nat.le_succ _) h.1, hz.cell 0, hz.cell 1, hz.cell 2, hz.cell 3, hz.cell 4, hz.cell 5, hz.cell 6⟩
theorem FitW.later {w u u' : World} {a : Array Value} (h : FitW w a u) (k : Below u.heap.size u u') : FitW w a u' := ⟨below_then h.1 k, h.2.1.below k h.2.1.lt, h.2.2.below k h.2.2.lt⟩
theorem FitW.outs {w u : World} {a : Array Value} (h : FitW w a u) : (u.cell? ⟨w.heap.size + 1, 0, none⟩ = some (.int .u8 0) ∧ u.cell? ⟨w.heap.size + 1, 1, none⟩ = some (.int .i64 0) ∧ u.cell? ⟨w.heap.size + 1, 2, none⟩ = some (.int .u8 0) ∧ u.cell? ⟨w.heap.size + 1, 3, none⟩ = some (.int .i64 0) ∧ u.cell? ⟨w.heap.size + 1, 4, none⟩ = some (.slice none 0 0) ∧ u.cell? ⟨w.heap.size + 1, 5, none⟩ = some (.int .i64 0) ∧ u.cell? ⟨w.heap.size + 1, 6, none⟩ = some (.int .i64 0)) ∧ u.frozen? ⟨w.heap.size + 1, 0, none⟩ = false ∧ u.frozen? ⟨w.heap.size + 1, 1, none⟩ = false ∧ u.frozen? ⟨w.heap.size + 1, 2, none⟩ = false ∧ u.frozen? ⟨w.heap.size + 1, 3, none⟩ = false ∧ u.frozen? ⟨w.heap.size + 1, 4, none⟩ = false ∧ u.frozen? ⟨w.heap.size + 1, 5, none⟩ = false ∧ u.frozen? ⟨w.heap.size + 1, 6, none⟩ = false :=
 ⟨⟨h.2.2.cell 0, h.2.2.cell 1, h.2.2.cell 2, h.2.2.cell 3, h.2.2.cell 4, h.2.2.cell 5, h.2.2.cell 6⟩, h.2.2.free 0, h.2.2.free 1, h.2.2.free 2, h.2.2.free 3, h.2.2.free 4, h.2.2.free 5, h.2.2.free 6⟩
theorem ByAt.take {w : World} {a : Option Addr} {c n : Nat} {L : List Nat} (h : ByAt w (.slice a n c) L) (k : Nat) : ByAt w (.slice a (min L.length k) c) (L.take k) := by
 obtain ⟨h0, a', c', e, h1, h2, h3⟩ := h
 injection e with e1 e2 e3
 subst e1 e2 e3
 refine ⟨fun x hx => h0 x (List.mem_of_mem_take hx), a, c, by rw [List.length_take, Nat.min_comm], by rw [List.length_take]; omega, h2, fun hn => ?_⟩
 obtain ⟨b, off, e, h4⟩ := h3 (by rw [List.length_take] at hn; omega)
 refine ⟨b, off, e, fun j hj => ?_⟩
 rw [List.length_take] at hj
 rw [h4 j (by omega), List.getD_eq_getElem?_getD, List.getD_eq_getElem?_getD, List.getElem?_take_of_lt (by omega)]
theorem ByAt.row {w : World} {a : Option Addr} {c n : Nat} {L : List Nat} (h : ByAt w (.slice a n c) L) : L.length ≤ c ∧ c ≤ maxLen ∧ (0 < L.length → ∃ b off, a = some ⟨b, off, none⟩) := by
 obtain ⟨_, a', c', e, h1, h2, h3⟩ := h
 injection e with e1 e2 e3
 subst e1 e2 e3
 exact ⟨h1, h2, fun hn => by obtain ⟨b, off, e, _⟩ := h3 hn; exact ⟨b, off, e⟩⟩
set_option maxHeartbeats 2000000 in
set_option maxRecDepth 100000 in
theorem fit_all (p : Pk) (kv : Value) (w : World) (hk : ByAt w kv p.c.key) (hp : PkOk p) :
   Calls Tryz.prog 8 #[.agg (pickA p kv)] w fun e w' => ∃ kv', e = .returned (.agg (pickA (fitP p) kv')) ∧ (∀ W, ByAt W kv p.c.key → ByAt W kv' (fitP p).c.key) ∧ Below w.heap.size w w' := by
 obtain ⟨kind, who, ⟨op, pol, key, n⟩, N⟩ := p
 obtain ⟨h1, h2, h3, h4, h5, h6, h7, h8, h9, h10⟩ := hp
 dsimp only at *
 obtain ⟨ka, kc, rfl⟩ : ∃ a c', kv = .slice a key.length c' := by obtain ⟨_, a, c', e, _⟩ := hk; exact ⟨a, c', e⟩
 have HK := Lib.hid hk
 have HP := Lib.hid (And.intro h1 (And.intro h2 (And.intro h3 (And.intro h4 (And.intro h5 (And.intro h6 (And.intro h7 (And.intro h8 (And.intro h9 h10)))))))))
 have e2 : (IntKind.u64.wrap who).tmod 5 = who % 18446744073709551616 % 5 := by rw [IntKind.wrap_u64, Int.tmod_eq_emod_of_nonneg (by omega)]
 have e3 : (IntKind.u64.wrap N).tmod 40 = N % 18446744073709551616 % 40 := by rw [IntKind.wrap_u64, Int.tmod_eq_emod_of_nonneg (by omega)]
 clear h1 h2 h3 h4 h5 h6 h7 h8 h9 h10 hk
 show Calls _ _ #[.agg #[.int .u8 (kind : Nat), .int .i64 who, .int .u8 (op : Nat), .int .i64 pol, .slice ka key.length kc, .int .i64 n, .int .i64 N]] w _
 go_enter Tryz.func8, Tryz.ntmps8
 go_upto_region 1 with (fail)
 refine wp_name (FitW w #[.int .u8 (kind : Nat), .int .i64 who, .int .u8 (op : Nat), .int .i64 pol, .slice ka key.length kc, .int .i64 n, .int .i64 N]) ⟨below_allocs [_, _] w, bx_allocs w [_, _] 0 rfl, bx_allocs w [_, _] 1 rfl⟩ ?_
 intro u hu
 have HU := Lib.hid hu
 obtain ⟨⟨a0, a1, a2, a3, a4, a5, a6⟩, f0, f1, f2, f3, f4, f5, f6⟩ := hu.cells
 clear hu
 go_upto_region 3 with (fail)
 refine wp_name (FitW w #[.int .u8 ((kind % 3 : Nat) : Int), .int .i64 (who % 18446744073709551616 % 5), .int .u8 (op : Nat), .int .i64 pol, .slice ka key.length kc, .int .i64 n, .int .i64 N]) ((HU.out.set 0 _).set 1 _) ?_
 clear HU a0 a1 a2 a3 a4 a5 a6 f0 f1 f2 f3 f4 f5 f6
 intro X hu
 have HU := Lib.hid hu
 obtain ⟨⟨a0, a1, a2, a3, a4, a5, a6⟩, f0, f1, f2, f3, f4, f5, f6⟩ := hu.cells
 clear hu
 go_cut [23] (fun v wx => v = .bool (decide (op < 1 ∨ 6 < op)) ∧ wx = X)
 case first =>
   by_cases ho : op = 0
   · subst ho
     go_wp2_with fail
     go_meet
     exact ⟨rfl, rfl⟩
   · by_cases ho2 : 6 < op
     · have hf : decide (op < 1 ∨ 6 < op) = true := decide_eq_true (.inr ho2)
       have g1 : ¬ (op : Int) < 1 := by omega
       have g2 : (6 : Int) < op := by omega
       clear ho ho2
       go_wp2_with fail
       go_meet
       exact ⟨by rw [hf], rfl⟩
     · have hf : decide (op < 1 ∨ 6 < op) = false := decide_eq_false (by omega)
       have g1 : ¬ (op : Int) < 1 := by omega
       have g2 : ¬ (6 : Int) < op := by omega
       clear ho ho2
       go_wp2_with fail
       go_meet
       exact ⟨by rw [hf], rfl⟩
 case rest =>
   obtain ⟨rfl, rfl⟩ := hcut
   have Hb : Hid (decide (op < 1 ∨ 6 < op) = true → fitOp op = 1 + op % 6) := fun h => if_pos (of_decide_eq_true h)
   have Hb2 : Hid (decide (op < 1 ∨ 6 < op) = false → fitOp op = op) := fun h => if_neg (of_decide_eq_false h)
   generalize decide (op < 1 ∨ 6 < op) = bb at *
   go_upto_if 23 with (fail)
   go_cut [] (fun wx => FitW w #[.int .u8 ((kind % 3 : Nat) : Int), .int .i64 (who % 18446744073709551616 % 5), .int .u8 (fitOp op : Nat), .int .i64 pol, .slice ka key.length kc, .int .i64 n, .int .i64 N] wx)
   case first =>
     cases bb
     · have hf := Hb2.out rfl
       go_wp2_with fail
       go_meet
       rw [hf]
       exact HU.out
     · have hf := Hb.out rfl
       have g3 : IntKind.u8.wrap (1 + (op : Int) % 6) = ((1 + op % 6 : Nat) : Int) := by rw [IntKind.wrap_u8]; omega
       go_wp2_with fail
       go_meet
       rw [hf]
       have h := HU.out.set 2 (.int .u8 ((1 + op % 6 : Nat) : Int))
       simp only [Int.natCast_add, Int.natCast_emod, Int.cast_ofNat_Int] at h ⊢
       exact h
   case rest =>
     have hu := hcut
     clear hcut Hb Hb2
     have HO : Hid (1 ≤ fitOp op ∧ fitOp op ≤ 6) := by unfold fitOp; split <;> constructor <;> omega
     clear HU a0 a1 a2 a3 a4 a5 a6 f0 f1 f2 f3 f4 f5 f6
     have HU := Lib.hid hu
     obtain ⟨⟨a0, a1, a2, a3, a4, a5, a6⟩, f0, f1, f2, f3, f4, f5, f6⟩ := hu.cells
     clear hu
     have HF : Hid (fitP ⟨kind, who, ⟨op, pol, key, n⟩, N⟩ = ⟨kind % 3, who % 18446744073709551616 % 5, ⟨fitOp op, fitPol (fitOp op) pol, key.take 2, fitN (fitOp op) n⟩, N % 18446744073709551616 % 40⟩) := rfl
     generalize fitOp op = o at *
     go_upto_region 7 with (fail)
     refine wp_name (FitW w #[.int .u8 ((kind % 3 : Nat) : Int), .int .i64 (who % 18446744073709551616 % 5), .int .u8 (o : Nat), .int .i64 0, .slice ka key.length kc, .int .i64 n, .int .i64 N]) (HU.out.set 3 _) ?_
     intro Y hu
     clear HU a0 a1 a2 a3 a4 a5 a6 f0 f1 f2 f3 f4 f5 f6
     have HU := Lib.hid hu
     obtain ⟨⟨a0, a1, a2, a3, a4, a5, a6⟩, f0, f1, f2, f3, f4, f5, f6⟩ := hu.cells
     clear hu
     go_cut [56] (fun v wx => v = .bool (decide (o = 2 ∨ o = 3 ∨ (o = 4 ∧ pol.tmod 2 ≠ 0))) ∧ wx = Y)
     case first =>
       have ho : o = 2 ∨ o = 3 ∨ o = 4 ∨ (o ≠ 2 ∧ o ≠ 3 ∧ o ≠ 4) := by omega
       rcases ho with rfl | rfl | rfl | ⟨q1, q2, q3⟩
       · go_wp2_with fail
         go_meet
         exact ⟨rfl, rfl⟩
       · go_wp2_with fail
         go_meet
         exact ⟨rfl, rfl⟩
       · go_wp2_with fail
         go_meet
         exact ⟨by simp only [bne]; by_cases hod : pol.tmod 2 = 0 <;> simp [hod], rfl⟩
       · have hf : decide (o = 2 ∨ o = 3 ∨ (o = 4 ∧ pol.tmod 2 ≠ 0)) = false := decide_eq_false (by omega)
         have g1 : ¬ (o : Int) = 2 := by omega
         have g2 : ¬ (o : Int) = 3 := by omega
         have g3 : ¬ (o : Int) = 4 := by omega
         clear q1 q2 q3
         go_wp2_with fail
         go_meet
         exact ⟨by rw [hf]; simp [g1, g2], rfl⟩
     case rest =>
       obtain ⟨rfl, rfl⟩ := hcut
       have Hb : Hid (decide (o = 2 ∨ o = 3 ∨ (o = 4 ∧ pol.tmod 2 ≠ 0)) = true → fitPol o pol = 1) := fun h => if_pos (of_decide_eq_true h)
       have Hb2 : Hid (decide (o = 2 ∨ o = 3 ∨ (o = 4 ∧ pol.tmod 2 ≠ 0)) = false → fitPol o pol = 0) := fun h => if_neg (of_decide_eq_false h)
       generalize decide (o = 2 ∨ o = 3 ∨ (o = 4 ∧ pol.tmod 2 ≠ 0)) = bb at *
       go_upto_if 56 with (fail)
       go_cut [] (fun wx => FitW w #[.int .u8 ((kind % 3 : Nat) : Int), .int .i64 (who % 18446744073709551616 % 5), .int .u8 (o : Nat), .int .i64 (fitPol o pol), .slice ka key.length kc, .int .i64 n, .int .i64 N] wx)
       case first =>
         cases bb
         · have hf := Hb2.out rfl
           go_wp2_with fail
           go_meet
           rw [hf]
           exact HU.out
         · have hf := Hb.out rfl
           go_wp2_with fail
           go_meet
           rw [hf]
           exact HU.out.set 3 _
       case rest =>
         have hu := hcut
         clear hcut Hb Hb2
         clear HU a0 a1 a2 a3 a4 a5 a6 f0 f1 f2 f3 f4 f5 f6
         have HU := Lib.hid hu
         obtain ⟨⟨a0, a1, a2, a3, a4, a5, a6⟩, f0, f1, f2, f3, f4, f5, f6⟩ := hu.cells
         clear hu
         generalize fitPol o pol = po at *
         go_upto_region 9 with (fail)
         go_cut [] (fun wx => FitW w #[.int .u8 ((kind % 3 : Nat) : Int), .int .i64 (who % 18446744073709551616 % 5), .int .u8 (o : Nat), .int .i64 po, .slice ka (min key.length 2) kc, .int .i64 n, .int .i64 N] wx)
         case first =>
           have hkc := HK.out.row
           generalize key.length = ln at *
           by_cases hl : ln ≤ 2
           · have hm : min ln 2 = ln := by omega
             have g1 : ln ≤ kc := hkc.1
             cases ka with
             | none =>
               obtain rfl : ln = 0 := by
                 refine Classical.byContradiction fun h => ?_
                 obtain ⟨b, off, e⟩ := hkc.2.2 (by omega)
                 cases e
               clear hkc hl
               go_wp2_with fail
               go_meet
               exact HU.out.set 4 _
             | some ad =>
               clear hkc
               go_wp2_with fail
               go_meet
               rw [hm, show (min (ln : Int) 2).toNat = ln by omega]
               exact HU.out.set 4 _
           · have hm : min ln 2 = 2 := by omega
             have g1 : ln ≤ kc := hkc.1
             obtain ⟨b, off, rfl⟩ := hkc.2.2 (by omega)
             have g2 : (2 : Int) ≤ kc := by omega
             clear hkc
             go_wp2_with fail
             go_meet
             rw [hm, show (min (ln : Int) 2).toNat = 2 by omega]
             exact HU.out.set 4 _
         case rest =>
           have hu := hcut
           clear hcut
           clear HU a0 a1 a2 a3 a4 a5 a6 f0 f1 f2 f3 f4 f5 f6
           have HU := Lib.hid hu
           obtain ⟨⟨a0, a1, a2, a3, a4, a5, a6⟩, f0, f1, f2, f3, f4, f5, f6⟩ := hu.cells
           clear hu
           have HKf : Hid (∀ W, ByAt W (.slice ka key.length kc) key → ByAt W (.slice ka (min key.length 2) kc) (key.take 2)) := fun W h => h.take 2
           generalize min key.length 2 = ln at *
           have hoo : o = 1 ∨ o ≠ 1 := by omega
           have hn := HP.out.2.2.2.2.2.2.2.1
           have hoo : o = 1 ∨ o ≠ 1 := by omega
           have hn := HP.out.2.2.2.2.2.2.2.1
           rcases hoo with rfl | ho
           · have hf : fitN 1 n = clampI n := rfl
             go_upto_region 13 with (go_at_call 23; (refine (rclamp_any n wc hn).mono ?_); rintro e w2 ⟨rfl, hb2⟩; have hu := HU.out.later hb2; clear HU a0 a1 a2 a3 a4 a5 a6 f0 f1 f2 f3 f4 f5 f6; have HU := Lib.hid hu; obtain ⟨⟨a0, a1, a2, a3, a4, a5, a6⟩, f0, f1, f2, f3, f4, f5, f6⟩ := hu.cells; clear hu hb2)
             refine wp_name (FitW w #[.int .u8 ((kind % 3 : Nat) : Int), .int .i64 (who % 18446744073709551616 % 5), .int .u8 (1 : Nat), .int .i64 po, .slice ka ln kc, .int .i64 (clampI n), .int .i64 (N % 18446744073709551616 % 40)]) ((HU.out.set 5 _).set 6 _) ?_
             clear HU a0 a1 a2 a3 a4 a5 a6 f0 f1 f2 f3 f4 f5 f6
             intro Z hu
             have HU := Lib.hid hu
             obtain ⟨⟨a0, a1, a2, a3, a4, a5, a6⟩, f0, f1, f2, f3, f4, f5, f6⟩ := hu.cells
             obtain ⟨⟨r0, r1, r2, r3, r4, r5, r6⟩, s0, s1, s2, s3, s4, s5, s6⟩ := hu.outs
             clear hu
             go_wp2_with fail
             have hz := storeP_at (.int .u8 ((kind : Int) % 3)) (.int .i64 (who % 18446744073709551616 % 5)) (.int .u8 (1 : Nat)) (.int .i64 po) (.slice ka ln kc) (.int .i64 (clampI n)) (.int .i64 (N % 18446744073709551616 % 40)) HU.out
             clear a0 a1 a2 a3 a4 a5 a6 f0 f1 f2 f3 f4 f5 f6 r0 r1 r2 r3 r4 r5 r6 s0 s1 s2 s3 s4 s5 s6
             show bodyPost _ _ _ _ _ (storeP Z (w.heap.size + 1) (.int .u8 ((kind : Int) % 3)) (.int .i64 (who % 18446744073709551616 % 5)) (.int .u8 (1 : Nat)) (.int .i64 po) (.slice ka ln kc) (.int .i64 (clampI n)) (.int .i64 (N % 18446744073709551616 % 40)))
             generalize storeP Z (w.heap.size + 1) (.int .u8 ((kind : Int) % 3)) (.int .i64 (who % 18446744073709551616 % 5)) (.int .u8 (1 : Nat)) (.int .i64 po) (.slice ka ln kc) (.int .i64 (clampI n)) (.int .i64 (N % 18446744073709551616 % 40)) = W at *
             obtain ⟨hbz, z0, z1, z2, z3, z4, z5, z6⟩ := hz
             exact bodyPost_ret (v := .agg #[.int .u8 ((kind : Int) % 3), .int .i64 (who % 18446744073709551616 % 5), .int .u8 (1 : Nat), .int .i64 po, .slice ka ln kc, .int .i64 (clampI n), .int .i64 (N % 18446744073709551616 % 40)]) (by simp [results, Tryz.results8, go_sem, z0, z1, z2, z3, z4, z5, z6]) rfl ⟨.slice ka ln kc, by rw [HF.out, hf]; simp [pickA], fun W hb => (by rw [HF.out]; exact HKf.out W hb), hbz⟩
           · have hf : fitN o n = n := if_neg ho
             have g1 : ¬ (o : Int) = 1 := by omega
             clear ho
             go_upto_region 13 with (fail)
             refine wp_name (FitW w #[.int .u8 ((kind % 3 : Nat) : Int), .int .i64 (who % 18446744073709551616 % 5), .int .u8 (o : Nat), .int .i64 po, .slice ka ln kc, .int .i64 n, .int .i64 (N % 18446744073709551616 % 40)]) (HU.out.set 6 _) ?_
             clear HU a0 a1 a2 a3 a4 a5 a6 f0 f1 f2 f3 f4 f5 f6
             intro Z hu
             have HU := Lib.hid hu
             obtain ⟨⟨a0, a1, a2, a3, a4, a5, a6⟩, f0, f1, f2, f3, f4, f5, f6⟩ := hu.cells
             obtain ⟨⟨r0, r1, r2, r3, r4, r5, r6⟩, s0, s1, s2, s3, s4, s5, s6⟩ := hu.outs
             clear hu
             go_wp2_with fail
             have hz := storeP_at (.int .u8 ((kind : Int) % 3)) (.int .i64 (who % 18446744073709551616 % 5)) (.int .u8 (o : Nat)) (.int .i64 po) (.slice ka ln kc) (.int .i64 n) (.int .i64 (N % 18446744073709551616 % 40)) HU.out
             clear a0 a1 a2 a3 a4 a5 a6 f0 f1 f2 f3 f4 f5 f6 r0 r1 r2 r3 r4 r5 r6 s0 s1 s2 s3 s4 s5 s6
             show bodyPost _ _ _ _ _ (storeP Z (w.heap.size + 1) (.int .u8 ((kind : Int) % 3)) (.int .i64 (who % 18446744073709551616 % 5)) (.int .u8 (o : Nat)) (.int .i64 po) (.slice ka ln kc) (.int .i64 n) (.int .i64 (N % 18446744073709551616 % 40)))
             generalize storeP Z (w.heap.size + 1) (.int .u8 ((kind : Int) % 3)) (.int .i64 (who % 18446744073709551616 % 5)) (.int .u8 (o : Nat)) (.int .i64 po) (.slice ka ln kc) (.int .i64 n) (.int .i64 (N % 18446744073709551616 % 40)) = W at *
             obtain ⟨hbz, z0, z1, z2, z3, z4, z5, z6⟩ := hz
             exact bodyPost_ret (v := .agg #[.int .u8 ((kind : Int) % 3), .int .i64 (who % 18446744073709551616 % 5), .int .u8 (o : Nat), .int .i64 po, .slice ka ln kc, .int .i64 n, .int .i64 (N % 18446744073709551616 % 40)]) (by simp [results, Tryz.results8, go_sem, z0, z1, z2, z3, z4, z5, z6]) rfl ⟨.slice ka ln kc, by rw [HF.out, hf]; simp [pickA], fun W hb => (by rw [HF.out]; exact HKf.out W hb), hbz⟩
end
section
open Go.RowKit Top
set_option linter.unusedVariables false
theorem StepRes.later {w w2 w3 : World} {B : Nat} {A : Adr} {s : Top.Sys} {who : Nat} {r : Top.Sys × (Bool × Reply)} (h : StepRes w B A s who r w2) (hb : Below w2.heap.size w2 w3) : StepRes w B A s who r w3 := by
 obtain ⟨X, h1, h2⟩ := h.fr
 obtain ⟨arr, v, k1, k2, k3⟩ := h.core
 exact ⟨h.st.later hb, ⟨arr, v, k1, k2.below hb k2.lt, k3.keep (fr0 hb) (fun _ _ _ _ _ _ => by simp)⟩, h.oth, ⟨X, h1.below h.st.below.2.2.2 hb, h2⟩, h.res⟩
def playS (list : List Pol) (room : Nat) (s : Top.Sys) (p : Pk) : Top.Sys := if p.kind = 0 then (stepS list room BlV s p.who.toNat).1 else if p.kind = 1 then startS s p.who.toNat p.c else tickS s p.N
structure PkFit (list : List Pol) (p : Pk) : Prop where
 kind : p.kind < 3
 who : ∃ j : Nat, p.who = j ∧ j < 64
 call : CallGood list p.c
 N0 : 0 ≤ p.N
 N1 : p.N ≤ 4611686018427387903
end
section
open Go.RowKit Top
set_option linter.unusedVariables false
def alienT (t : TypeId) : Bool := !(t == 5) && !(t == 2) && !(t == 78) && !(t == 45) && !(t == 40) && !(t == 87) && !(t == 148) && !(t == 185) && !(t == 105) && !(t == 102) && !(t == 77)
theorem alien_ne {t t' : TypeId} (h : alienT t' = true) (ht : alienT t = false) : t ≠ t' := by
 rintro rfl
 rw [h] at ht
 cases ht
theorem CellsAt.alien {w : World} {v : Value} {L : List Cell} (h : CellsAt w v L) {r i : Nat} {t : TypeId} {c : Array Value} (hr : Bx w r t c) (ht : alienT t = true) (u : Value) : CellsAt (w.setCell ⟨r, i, none⟩ u) v L := by
 obtain ⟨xs, h1, h2, h3, h4⟩ := h
 exact ⟨xs, h1, Row.sto h2 hr (alien_ne ht rfl) u, fun x hx => ⟨(h3 x hx).1.sto hr (alien_ne ht rfl) u, Row.sto (h3 x hx).2 hr (alien_ne ht rfl) u⟩, h4⟩
theorem CoreAt.alien {w : World} {A : Adr} (h : CoreAt w A) {r i : Nat} {t : TypeId} {c : Array Value} (hr : Bx w r t c) (ht : alienT t = true) (u : Value) : CoreAt (w.setCell ⟨r, i, none⟩ u) A := by
 obtain ⟨arr, lv, h1, h2, h3, h4, h5, h6⟩ := h
 exact ⟨arr, lv, h1.sne (h1.ne hr (alien_ne ht rfl)), h2, h3, h4, h5, Row.sto h6 hr (alien_ne ht rfl) u⟩
theorem St.alien {w : World} {B : Nat} {A : Adr} {m : Mem} (h : St w B A m) {r i : Nat} {t : TypeId} {c : Array Value} (hr : Bx w r t c) (ht : alienT t = true) (u : Value) : St (w.setCell ⟨r, i, none⟩ u) B A m := by
 obtain ⟨last, hm, n, xs, ho, hn, h1⟩ := h.mach
 obtain ⟨hs, h2, h3, h4⟩ := h.holds
 refine ⟨h.lanes.sne (h.lanes.ne hr (alien_ne ht rfl)), h.board.sne (h.board.ne hr (alien_ne ht rfl)), ⟨last, hm.sne (hm.ne hr (alien_ne ht rfl)), n, xs, ownsRow_setCell_other ho (own_ne ho hr (Ne.symm (alien_ne ht rfl))) _, hn, h1⟩, h.words.sne (h.words.ne hr (alien_ne ht rfl)), h.nwords, h.wordlt, ⟨hs, h2, h3.sne (h3.ne hr (alien_ne ht rfl)), fun i hi => ?_⟩, h.nholds, ⟨h.below.1, h.below.2.1, h.below.2.2.1, by simpa [World.setCell] using h.below.2.2.2⟩, h.clock, h.count, h.core.alien hr ht u⟩
 obtain ⟨v, h5, h6⟩ := h4 i hi
 exact ⟨v, h5, h6.alien hr ht u⟩
structure RunRes (w : World) (B : Nat) (A : Adr) (s : Top.Sys) (who : Nat) (s' : Top.Sys) (w' : World) : Prop where
 st : St w' B A s'.m
 core : ∃ arr v, Bx w A.K 87 arr ∧ Bx w' A.K 87 (arr.setIfInBounds (3 + who) v) ∧ PendAt w' B A who v (s'.pd who)
 oth : ∀ j, j ≠ who → s'.pd j = s.pd j
 fr : ∃ X, Fr B X w w' ∧ ∀ (j : Nat) (x : Live) (k : Kont) (xb : Nat) (pol : Pol), j ≠ who → s.pd j = some (x, k) → CallAt w ⟨A, (j : Int), xb, pol⟩ x → xb ∉ X
theorem StepRes.run {w : World} {B : Nat} {A : Adr} {s : Top.Sys} {who : Nat} {r : Top.Sys × (Bool × Reply)} {w' : World} (h : StepRes w B A s who r w') : RunRes w B A s who r.1 w' := ⟨h.st, h.core, h.oth, h.fr⟩
theorem RunRes.fz {w : World} {B : Nat} {A : Adr} {s : Top.Sys} {who : Nat} {s' : Top.Sys} {w' : World} (h : RunRes w B A s who s' w') : Fz B w w' := by
 obtain ⟨X, h1, _⟩ := h.fr
 exact ⟨X, h1⟩
theorem RunRes.sys {w : World} {B : Nat} {A : Adr} {s : Top.Sys} {who : Nat} {s' : Top.Sys} {w' : World} (h : RunRes w B A s who s' w') (hs : SysAt w B A s.m s.pd) (hw : who < 64) : SysAt w' B A s'.m s'.pd := by
 obtain ⟨arr, v, k1, k2, k3⟩ := h.core
 obtain ⟨arr0, l1, l2, l3⟩ := hs.pend
 obtain rfl := bx_inj l1 k1
 obtain ⟨X, h1, h2⟩ := h.fr
 refine ⟨h.st, ⟨_, k2, by simpa using l2, fun j hj => ?_⟩, hs.kb⟩
 by_cases e : j = who
 · subst e
   exact ⟨v, Array.getElem?_setIfInBounds_self_of_lt (by omega), k3⟩
 · obtain ⟨u, h3, h4⟩ := l3 j hj
   refine ⟨u, by rw [Array.getElem?_setIfInBounds_ne (by omega)]; exact h3, ?_⟩
   rw [h.oth j e]
   exact h4.keep h1 fun x k xb pol ep hc => h2 j x k xb pol e ep hc
theorem RunRes.later {w w2 w3 : World} {B : Nat} {A : Adr} {s : Top.Sys} {who : Nat} {s' : Top.Sys} (h : RunRes w B A s who s' w2) (hb : Below w2.heap.size w2 w3) : RunRes w B A s who s' w3 := by
 obtain ⟨X, h1, h2⟩ := h.fr
 obtain ⟨arr, v, k1, k2, k3⟩ := h.core
 exact ⟨h.st.later hb, ⟨arr, v, k1, k2.below hb k2.lt, k3.keep (fr0 hb) (fun _ _ _ _ _ _ => by simp)⟩, h.oth, ⟨X, h1.below h.st.below.2.2.2 hb, h2⟩⟩
theorem RunRes.pre {w w1 w2 : World} {B : Nat} {A : Adr} {s : Top.Sys} {who : Nat} {s' : Top.Sys} (hb : Below w.heap.size w w1) (hs : SysAt w B A s.m s.pd) (h : RunRes w1 B A s who s' w2) : RunRes w B A s who s' w2 := by
 obtain ⟨X, h1, h2⟩ := h.fr
 obtain ⟨arr, v, k1, k2, k3⟩ := h.core
 obtain ⟨arr0, l1, _⟩ := hs.pend
 obtain rfl := bx_inj (l1.below hb l1.lt) k1
 exact ⟨h.st, ⟨_, v, l1, k2, k3⟩, h.oth, ⟨X, (Fr.of_below hs.st.below.2.2.2 hb).trans h1, fun j x k xb pol h3 h4 h5 => h2 j x k xb pol h3 h4 (h5.keep (fr0 hb) (by simp))⟩⟩
theorem RunRes.trans {w w1 w2 : World} {B : Nat} {A : Adr} {s s1 s2 : Top.Sys} {who : Nat} (h : RunRes w B A s who s1 w1) (k : RunRes w1 B A s1 who s2 w2) : RunRes w B A s who s2 w2 := by
 obtain ⟨X, h1, h2⟩ := h.fr
 obtain ⟨Y, k1, k2⟩ := k.fr
 obtain ⟨arr, v, a1, a2, a3⟩ := h.core
 obtain ⟨arr', v', b1, b2, b3⟩ := k.core
 obtain rfl := bx_inj a2 b1
 refine ⟨k.st, ⟨arr, v', a1, by simpa using b2, b3⟩, fun j hj => (k.oth j hj).trans (h.oth j hj), ⟨X ++ Y, (h1.mono (Nat.le_refl _) (fun x hx => List.mem_append_left _ hx)).trans (k1.mono (Nat.le_refl _) (fun x hx => List.mem_append_right _ hx)), fun j x q xb pol h3 h4 h5 => ?_⟩⟩
 have n1 := h2 j x q xb pol h3 h4 h5
 have n2 := k2 j x q xb pol h3 ((h.oth j h3).trans h4) (h5.keep h1 n1)
 simp [n1, n2]
theorem RunRes.start {w w' : World} {B : Nat} {A : Adr} {s : Top.Sys} {who : Nat} {c : Top.Call} (hp : s.pd who = none) (hw : who < 64) (h : SysAt w' B A s.m (setP s.pd who (some (liveOf c, firstK c)))) (hs : SysAt w B A s.m s.pd) (hf : Fr B [A.K] w w') (hc : ∃ arr v, Bx w A.K 87 arr ∧ Bx w' A.K 87 (arr.setIfInBounds (3 + who) v)) : RunRes w B A s who (startS s who c) w' := by
 have e : startS s who c = ⟨s.m, setP s.pd who (some (liveOf c, firstK c))⟩ := by unfold startS; rw [hp]
 rw [e]
 obtain ⟨arr, v, k1, k2⟩ := hc
 obtain ⟨arr0, l1, l2, l3⟩ := h.pend
 obtain rfl := bx_inj k2 l1
 obtain ⟨u, l4, l5⟩ := l3 who hw
 have hsz : (3 + who) < arr.size := by simp at l2; omega
 rw [Array.getElem?_setIfInBounds_self_of_lt hsz] at l4
 injection l4 with l4
 subst l4
 refine ⟨h.st, ⟨arr, v, k1, k2, l5⟩, fun j hj => setP_ne _ _ hj, ⟨_, hf, fun j x k xb pol h1 h2 h3 => ?_⟩⟩
 obtain ⟨_, hx, _⟩ := h3
 simpa using hx.ne k1 (by decide)
theorem RunRes.alien {w w2 : World} {B : Nat} {A : Adr} {s : Top.Sys} {who : Nat} {s' : Top.Sys} (h : RunRes w B A s who s' w2) (hB : B ≤ w.heap.size) (hp : s'.pd who = none) {r i : Nat} {t : TypeId} {c : Array Value} (hr : Bx w2 r t c) (hnew : w.heap.size ≤ r) (ht : alienT t = true) (u : Value) : RunRes w B A s who s' (w2.setCell ⟨r, i, none⟩ u) := by
 obtain ⟨X, h1, h2⟩ := h.fr
 obtain ⟨arr, v, k1, k2, k3⟩ := h.core
 rw [hp] at k3
 exact ⟨h.st.alien hr ht u, ⟨arr, v, k1, k2.sne (k2.ne hr (alien_ne ht rfl)), (none_pend (pend_none k3)).trans' hp.symm⟩, h.oth, ⟨X, h1.setNew (p := ⟨r, i, none⟩) (Nat.le_trans hB hnew) hnew u, h2⟩⟩
def storeY (w : World) (r : Nat) (a : Reply) : World := (((((w.setCell ⟨r, 0, none⟩ (.int .i64 a.e)).setCell ⟨r, 1, none⟩ (.bool a.granted)).setCell ⟨r, 2, none⟩ (.int .i64 a.left)).setCell ⟨r, 3, none⟩ (.int .i64 a.wait)).setCell ⟨r, 4, none⟩ (.int .i64 a.serial)).setCell ⟨r, 5, none⟩ (.int .i64 a.now)
abbrev rep0 : Array Value := #[.int .i64 0, .bool false, .int .i64 0, .int .i64 0, .int .i64 0, .int .i64 0]
theorem storeY_bx {w : World} {r : Nat} {t : TypeId} {a : Reply} (h : Bx w r t rep0) : Bx (storeY w r a) r t (replyA a) := by
 unfold storeY
 exact h.set6
theorem RunRes.storeY {w w2 : World} {B : Nat} {A : Adr} {s : Top.Sys} {who : Nat} {s' : Top.Sys} {a : Reply} (h : RunRes w B A s who s' w2) (hB : B ≤ w.heap.size) (hp : s'.pd who = none) {r : Nat} {t : TypeId} (hr : Bx w2 r t rep0) (hnew : w.heap.size ≤ r) (ht : alienT t = true) : RunRes w B A s who s' (storeY w2 r a) := by
 have b0 := hr.setCell 0 (.int .i64 a.e)
 have b1 := b0.setCell 1 (.bool a.granted)
 have b2 := b1.setCell 2 (.int .i64 a.left)
 have b3 := b2.setCell 3 (.int .i64 a.wait)
 have b4 := b3.setCell 4 (.int .i64 a.serial)
 exact (((((h.alien hB hp hr hnew ht _).alien hB hp b0 hnew ht _).alien hB hp b1 hnew ht _).alien hB hp b2 hnew ht _).alien hB hp b3 hnew ht _).alien hB hp b4 hnew ht _
end
end Go.Proofs.YtemnhpdjoimjbaaGreat
