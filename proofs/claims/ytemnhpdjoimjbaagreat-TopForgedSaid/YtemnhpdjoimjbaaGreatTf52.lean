import Derived.Test.YtemnhpdjoimjbaaGreatTf51
import Derived.Test.YtemnhpdjoimjbaaGreatRows
import Derived.OpenShut
import Derived.Lib.SmallJoins
import Derived.Deep.Slices
import Derived.ChangeSame
namespace Go.Proofs.YtemnhpdjoimjbaaGreat
open Go.ChangeShapes Go.WideShapes Go.Deep Go.RowKit Go.Joins Top
set_option linter.unusedVariables false
/-- A script in memory. -/
def PicksAt (w : World) (v : Value) (L : List Pk) : Prop :=
  (∀ p ∈ L, PkOk p) ∧ ∃ a c, v = .slice a L.length c ∧ L.length ≤ c ∧ c ≤ maxLen ∧
    (0 < L.length → ∃ b off, a = some ⟨b, off, none⟩ ∧ ∀ j p, L[j]? = some p → ∃ kv, ByAt w kv p.c.key ∧ w.cell? ⟨b, off + j * 7, none⟩ = some (.int .u8 (p.kind : Nat)) ∧ w.cell? ⟨b, off + j * 7 + 1, none⟩ = some (.int .i64 p.who) ∧ w.cell? ⟨b, off + j * 7 + 2, none⟩ = some (.int .u8 (p.c.op : Nat)) ∧ w.cell? ⟨b, off + j * 7 + 3, none⟩ = some (.int .i64 p.c.pol) ∧ w.cell? ⟨b, off + j * 7 + 4, none⟩ = some kv ∧ w.cell? ⟨b, off + j * 7 + 5, none⟩ = some (.int .i64 p.c.n) ∧ w.cell? ⟨b, off + j * 7 + 6, none⟩ = some (.int .i64 p.N))
theorem i64_of_wf {x : Int} (h : (Lit.int .i64 x).wf = true) : -9223372036854775808 ≤ x ∧ x ≤ 9223372036854775807 := by
  have e1 : IntKind.i64.min = -9223372036854775808 := by decide
  have e2 : IntKind.i64.max = 9223372036854775807 := by decide
  simp only [Lit.wf, e1, e2, Bool.and_eq_true, decide_eq_true_eq] at h
  omega
theorem u8_of_wf {x : Int} (h : (Lit.int .u8 x).wf = true) : ∃ n : Nat, x = n ∧ n < 256 := by
  have e1 : IntKind.u8.min = 0 := by decide
  have e2 : IntKind.u8.max = 255 := by decide
  simp only [Lit.wf, e1, e2, Bool.and_eq_true, decide_eq_true_eq] at h
  exact ⟨x.toNat, by omega, by omega⟩
theorem nat_list {α : Type} {P : Nat → α → Prop} : ∀ n, (∀ i, i < n → ∃ x, P i x) → ∃ L : List α, L.length = n ∧ ∀ i, i < n → ∃ x, L[i]? = some x ∧ P i x
  | 0, _ => ⟨[], rfl, fun i hi => by omega⟩
  | n + 1, h => by
    obtain ⟨L, hl, hL⟩ := nat_list n (fun i hi => h i (by omega))
    obtain ⟨x, hx⟩ := h n (by omega)
    refine ⟨L ++ [x], by simp [hl], fun i hi => ?_⟩
    by_cases hin : i < n
    · rw [List.getElem?_append_left (by omega)]
      exact hL i hin
    · obtain rfl : i = n := by omega
      rw [List.getElem?_append_right (by omega)]
      exact ⟨x, by simp [hl], hx⟩
section
variable {H : Type} {enc : TypeId × Value → H} {W : World}
theorem key_trod {fuel : Nat} {cs : List Value} {x : DataW H × List MemPlace} (h : DataW.trod enc Tryz.prog W 0 (fun _ => true) true fuel 23 cs = some x) : ∃ v L, cs = [v] ∧ ByAt W v L := by
  rcases open_slice1 Tryz.underlying23 (by kernel_rfl) h with ⟨rfl, _⟩ | ⟨a, len, cap, m, q, V, D, Pl, rfl, _, hl, hm, hmm, _, hcell⟩
  · exact ⟨_, [], rfl, fun x h => (by cases h), none, 0, rfl, Nat.le_refl _, by decide, fun h => by cases h⟩
  · simp at hmm
    have hall : ∀ i, i < len → ∃ n : Nat, W.cell? (a.add i) = some (.int .u8 (n : Nat)) ∧ n < 256 := by
      intro i hi
      obtain ⟨hc0, ht0⟩ := hcell i (by omega)
      obtain ⟨x, f0, hd, w0⟩ := DataW.trod_int Tryz.underlying5 ht0
      simp at f0
      rw [f0] at hc0
      obtain ⟨n, rfl, hn⟩ := u8_of_wf w0
      exact ⟨n, hc0, hn⟩
    obtain ⟨L, rfl, hL⟩ := nat_list len hall
    refine ⟨_, L, rfl, fun x hx => ?_, a, cap, rfl, hl, hm, fun h0 => ?_⟩
    · obtain ⟨j, hj, rfl⟩ := List.getElem_of_mem hx
      obtain ⟨y, h1, h2, h3⟩ := hL j hj
      rw [List.getElem?_eq_getElem hj] at h1
      injection h1 with h1
      rw [h1]
      exact h3
    · obtain ⟨b, off, spot⟩ := a
      obtain ⟨y0, _, hc, _⟩ := hL 0 h0
      have hspot : spot = none := by simpa [Addr.add] using World.cell?_spot hc
      subst hspot
      have hadd : ∀ j, (⟨b, off, none⟩ : Addr).add j = ⟨b, off + j, none⟩ := by
        intro j; unfold Addr.add; split <;> simp_all
      refine ⟨b, off, rfl, fun j hj => ?_⟩
      obtain ⟨y, h1, h2, h3⟩ := hL j hj
      rw [hadd] at h2
      rw [h2, List.getD_eq_getElem?_getD, h1]
      rfl
theorem key_open {d : DataW H} {p : List MemPlace} {v : Value} (h : DataW.Trod enc Tryz.prog W 0 (fun _ => true) true 23 v d p) (hv : ∃ a n c, v = .slice a n c) : ∃ L, ByAt W v L := by
  obtain ⟨fuel, hf⟩ := h
  obtain ⟨a, n, c, rfl⟩ := hv
  obtain ⟨u, L, e, hL⟩ := key_trod hf
  have e : Value.slice a n c = u := by simpa [Value.cells] using e
  subst e
  exact ⟨L, hL⟩
set_option maxRecDepth 100000 in
theorem pick_trod {n : Nat} {cs : List Value} {x : DataW H × List MemPlace} (h : DataW.trod enc Tryz.prog W 0 (fun _ => true) true n 33 cs = some x) : ∃ (p : Pk) (kv : Value), cs = (pickA p kv).toList ∧ PkOk p ∧ ByAt W kv p.c.key := by
  obtain ⟨ys, n1, rfl, _, hlen, hyl, hf⟩ := DataW.trod_struct Tryz.underlying33 h
  have hc : Tryz.prog.cellsOf 33 = 7 := by kernel_rfl
  rw [hc] at hlen
  obtain ⟨c0, c1, c2, c3, c4, c5, c6, rfl⟩ : ∃ c0 c1 c2 c3 c4 c5 c6, cs = [c0, c1, c2, c3, c4, c5, c6] := by
    match cs, hlen with
    | [c0, c1, c2, c3, c4, c5, c6], _ => exact ⟨_, _, _, _, _, _, _, rfl⟩
  have k1 : Tryz.prog.cellsOf 5 = 1 := by kernel_rfl
  have k2 : Tryz.prog.cellsOf 3 = 1 := by kernel_rfl
  have k3 : Tryz.prog.cellsOf 31 = 4 := by kernel_rfl
  have k4 : Tryz.prog.cellsOf 2 = 1 := by kernel_rfl
  have k5 : Tryz.prog.cellsOf 23 = 1 := by kernel_rfl
  have t0 : DataW.trod enc Tryz.prog W 0 (fun _ => true) true n1 5 (([c0, c1, c2, c3, c4, c5, c6].drop 0).take (Tryz.prog.cellsOf 5)) = ys[0]? := hf 0 _ rfl
  have t1 : DataW.trod enc Tryz.prog W 0 (fun _ => true) true n1 3 (([c0, c1, c2, c3, c4, c5, c6].drop 1).take (Tryz.prog.cellsOf 3)) = ys[1]? := hf 1 _ rfl
  have t2 : DataW.trod enc Tryz.prog W 0 (fun _ => true) true n1 31 (([c0, c1, c2, c3, c4, c5, c6].drop 2).take (Tryz.prog.cellsOf 31)) = ys[2]? := hf 2 _ rfl
  have t3 : DataW.trod enc Tryz.prog W 0 (fun _ => true) true n1 2 (([c0, c1, c2, c3, c4, c5, c6].drop 6).take (Tryz.prog.cellsOf 2)) = ys[3]? := hf 3 _ rfl
  have hs : ∀ i, i < 4 → ∃ y, ys[i]? = some y := fun i hi => ⟨_, List.getElem?_eq_getElem (by rw [hyl]; exact hi)⟩
  obtain ⟨y0, e0⟩ := hs 0 (by decide)
  obtain ⟨y1, e1⟩ := hs 1 (by decide)
  obtain ⟨y2, e2⟩ := hs 2 (by decide)
  obtain ⟨y3, e3⟩ := hs 3 (by decide)
  rw [e0] at t0
  rw [e1] at t1
  rw [e2] at t2
  rw [e3] at t3
  rw [k1] at t0
  rw [k2] at t1
  rw [k3] at t2
  rw [k4] at t3
  simp only [List.drop_zero, List.drop_succ_cons, List.take_succ_cons, List.take_zero] at t0 t1 t2 t3
  obtain ⟨x0, f0, _, w0⟩ := DataW.trod_int Tryz.underlying5 t0
  obtain ⟨x1, f1, _, w1⟩ := DataW.trod_int Tryz.underlying3 t1
  obtain ⟨x3, f3, _, w3⟩ := DataW.trod_int Tryz.underlying2 t3
  obtain ⟨zs, n2, rfl, _, _, hzl, hg⟩ := DataW.trod_struct Tryz.underlying31 t2
  have s0 : DataW.trod enc Tryz.prog W 0 (fun _ => true) true n2 5 (([c2, c3, c4, c5].drop 0).take (Tryz.prog.cellsOf 5)) = zs[0]? := hg 0 _ rfl
  have s1 : DataW.trod enc Tryz.prog W 0 (fun _ => true) true n2 3 (([c2, c3, c4, c5].drop 1).take (Tryz.prog.cellsOf 3)) = zs[1]? := hg 1 _ rfl
  have s2 : DataW.trod enc Tryz.prog W 0 (fun _ => true) true n2 23 (([c2, c3, c4, c5].drop 2).take (Tryz.prog.cellsOf 23)) = zs[2]? := hg 2 _ rfl
  have s3 : DataW.trod enc Tryz.prog W 0 (fun _ => true) true n2 2 (([c2, c3, c4, c5].drop 3).take (Tryz.prog.cellsOf 2)) = zs[3]? := hg 3 _ rfl
  have hz : ∀ i, i < 4 → ∃ y, zs[i]? = some y := fun i hi => ⟨_, List.getElem?_eq_getElem (by rw [hzl]; exact hi)⟩
  obtain ⟨z0, g0⟩ := hz 0 (by decide)
  obtain ⟨z1, g1⟩ := hz 1 (by decide)
  obtain ⟨z2, g2⟩ := hz 2 (by decide)
  obtain ⟨z3, g3⟩ := hz 3 (by decide)
  rw [g0] at s0
  rw [g1] at s1
  rw [g2] at s2
  rw [g3] at s3
  rw [k1] at s0
  rw [k2] at s1
  rw [k5] at s2
  rw [k4] at s3
  simp only [List.drop_zero, List.drop_succ_cons, List.take_succ_cons, List.take_zero] at s0 s1 s2 s3
  obtain ⟨u0, h0, _, v0⟩ := DataW.trod_int Tryz.underlying5 s0
  obtain ⟨u1, h1, _, v1⟩ := DataW.trod_int Tryz.underlying3 s1
  obtain ⟨u3, h3, _, v3⟩ := DataW.trod_int Tryz.underlying2 s3
  obtain ⟨kv, key, h2, hk⟩ := key_trod s2
  simp only [List.cons.injEq, and_true] at f0 f1 f3 h0 h1 h2 h3
  subst f0 f1 f3 h0 h1 h2 h3
  obtain ⟨kd, rfl, hkd⟩ := u8_of_wf w0
  obtain ⟨op, rfl, hop⟩ := u8_of_wf v0
  have b1 := i64_of_wf w1
  have b3 := i64_of_wf w3
  have d1 := i64_of_wf v1
  have d3 := i64_of_wf v3
  exact ⟨⟨kd, x1, ⟨op, u1, key, u3⟩, x3⟩, _, rfl, ⟨hkd, b1.1, b1.2, hop, d1.1, d1.2, d3.1, d3.2, b3.1, b3.2⟩, hk⟩
theorem picks_open {d : DataW H} {p : List MemPlace} {v : Value} (h : DataW.Trod enc Tryz.prog W 0 (fun _ => true) true 22 v d p) (hv : ∃ a n c, v = .slice a n c) : ∃ L, PicksAt W v L := by
  obtain ⟨fuel, hf⟩ := h
  obtain ⟨a, n, c, rfl⟩ := hv
  have hc7 : Tryz.prog.cellsOf 33 = 7 := by kernel_rfl
  rcases open_slice Tryz.underlying22 hf with ⟨hcs, _⟩ | ⟨a', len, cap, m, q, D, Pl, hcs, _, hl, hm, hmm, _, hcell⟩
  · simp [Value.cells] at hcs
    obtain ⟨rfl, rfl, rfl⟩ := hcs
    exact ⟨[], fun x h => (by cases h), none, 0, rfl, Nat.le_refl _, by decide, fun h => by cases h⟩
  · simp [Value.cells] at hcs
    obtain ⟨rfl, rfl, rfl⟩ := hcs
    simp at hmm
    have hall : ∀ i, i < n → ∃ p : Pk, PkOk p ∧ ∃ kv, ByAt W kv p.c.key ∧ ∀ j u, (pickA p kv)[j]? = some u → W.cell? ((a'.add (i * 7)).add j) = some u := by
      intro i hi
      obtain ⟨cs', hcs', ht⟩ := hcell i (by omega)
      rw [hc7] at hcs'
      obtain ⟨pk, kv, rfl, hok, hk⟩ := pick_trod ht
      obtain ⟨_, _, hat⟩ := World.cells?_some hcs'
      refine ⟨pk, hok, kv, hk, fun j u hu => ?_⟩
      have hj : j < 7 := by
        have := (Array.getElem?_eq_some_iff.1 hu).1
        simpa [pickA] using this
      rw [hat j hj, Array.getElem?_toList]
      exact hu
    obtain ⟨L, rfl, hL⟩ := nat_list n (P := fun i p => PkOk p ∧ ∃ kv, ByAt W kv p.c.key ∧ ∀ j u, (pickA p kv)[j]? = some u → W.cell? ((a'.add (i * 7)).add j) = some u) hall
    refine ⟨L, fun x hx => ?_, a', c, rfl, hl, hm, fun h0 => ?_⟩
    · obtain ⟨j, hj, rfl⟩ := List.getElem_of_mem hx
      obtain ⟨y, h1, h2, _⟩ := hL j hj
      rw [List.getElem?_eq_getElem hj] at h1
      injection h1 with h1
      rw [h1]
      exact h2
    · obtain ⟨b, off, spot⟩ := a'
      obtain ⟨y0, _, _, kv0, _, hc⟩ := hL 0 h0
      have hc := hc 0 _ rfl
      have hspot : spot = none := by simpa [Addr.add] using World.cell?_spot hc
      subst hspot
      have hadd1 : ∀ o j, (⟨b, o, none⟩ : Addr).add j = ⟨b, o + j, none⟩ := by
        intro o j; unfold Addr.add; split <;> simp_all
      have hadd : ∀ j q, ((⟨b, off, none⟩ : Addr).add j).add q = ⟨b, off + j + q, none⟩ := fun j q => by rw [hadd1, hadd1]
      refine ⟨b, off, rfl, fun j p hp => ?_⟩
      have hj := (List.getElem?_eq_some_iff.1 hp).1
      obtain ⟨y, h1, _, kv, hk, h2⟩ := hL j hj
      rw [hp] at h1
      injection h1 with h1
      subst h1
      have g := fun q u hu => by have := h2 q u hu; rwa [hadd] at this
      exact ⟨kv, hk, g 0 _ rfl, g 1 _ rfl, g 2 _ rfl, g 3 _ rfl, g 4 _ rfl, g 5 _ rfl, g 6 _ rfl⟩
end
end Go.Proofs.YtemnhpdjoimjbaaGreat
