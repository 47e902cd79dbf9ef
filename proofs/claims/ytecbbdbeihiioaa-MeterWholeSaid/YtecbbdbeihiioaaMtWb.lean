/- MeterWhole's walk. -/
import Derived.Test.YtecbbdbeihiioaaMtWa
import Derived.Test.YtecbbdbeihiioaaMtZ
import Derived.Test.YtecbbdbeihiioaaMtL
import Derived.Deep.RegionHeld3
namespace Go.Proofs.Ytecbbdbeihiioaa
open Go.RowKit
set_option linter.unusedVariables false

attribute [local go_sem] run_store_float'

/-- Three rows of one's own, apart. -/
def Three (w : World) (va : Value) (A : List Nat) (vb : Value) (B : List Nat) (vc : Value) (C : List Nat) (wr : World) : Prop := OwnF wr w.heap.size va A ∧ OwnF wr w.heap.size vb B ∧ OwnF wr w.heap.size vc C ∧ Sep va vb ∧ Sep va vc ∧ Sep vb vc ∧ Below w.heap.size w wr
theorem Three.a {w wr w2 : World} {va vb vc : Value} {A B C : List Nat} {o : Obj} {x g cap n : Nat} {xs : List Value} (h : Three w va A vb B vc C wr) (hn : n = A.length) (ho : w2.ownsRow w.heap.size 26 1 (.slice (some ⟨g, 0, none⟩) (n + 1) cap) (n + 1) (xs ++ [.float .f64 x])) (hxs : xs = flatF A) (hg : (wr.alloc o).grownBy w2 va.ownBlock) (hl : va.ownBlock = some g ∨ g = wr.heap.size + 1) : Three w (.slice (some ⟨g, 0, none⟩) (n + 1) cap) (A ++ [x]) vb B vc C w2 := by
  subst hn hxs
  obtain ⟨h1, h2, h3, h4, h5, h6, h7⟩ := h
  refine ⟨?_, own_stay h2 h4 hg, own_stay h3 h5 hg, sep_stay h2 h4 hl, sep_stay h3 h5 hl, h6, (h7.alloc h7.size _).grown hg (by have := h7.size; simp; omega) (fun k hk => (h1.lt k hk).1)⟩
  show w2.ownsRow _ _ _ _ (A ++ [x]).length _
  rw [flatF_append, show (A ++ [x]).length = A.length + 1 by simp]
  exact ho
theorem Three.swap {w wr : World} {va vb vc : Value} {A B C : List Nat} (h : Three w va A vb B vc C wr) : Three w vb B va A vc C wr := ⟨h.2.1, h.1, h.2.2.1, h.2.2.2.1.symm, h.2.2.2.2.2.1, h.2.2.2.2.1, h.2.2.2.2.2.2⟩
theorem Three.turn {w wr : World} {va vb vc : Value} {A B C : List Nat} (h : Three w va A vb B vc C wr) : Three w vc C vb B va A wr := ⟨h.2.2.1, h.2.1, h.1, h.2.2.2.2.2.1.symm, h.2.2.2.2.1.symm, h.2.2.2.1.symm, h.2.2.2.2.2.2⟩

theorem i32_of_wf {x : Int} (h : (Lit.int .i32 x).wf = true) : -2147483648 ≤ x ∧ x ≤ 2147483647 := by
  have e1 : IntKind.i32.min = -2147483648 := by decide
  have e2 : IntKind.i32.max = 2147483647 := by decide
  simp only [Lit.wf, e1, e2, Bool.and_eq_true, decide_eq_true_eq] at h
  omega
/-- The whole numbers of two lists. -/
def whL (xs ys : List Int) : List Int := (xs ++ ys).map fun z => z.tmod 1048576
theorem whL_len (xs ys : List Int) : (whL xs ys).length = xs.length + ys.length := by simp [whL]
theorem whL_small (xs ys : List Int) : ∀ n ∈ whL xs ys, Small n := by
  intro n hn
  obtain ⟨z, -, rfl⟩ := List.mem_map.1 hn
  have h1 := Int.lt_tmod_of_pos z (show (0 : Int) < 1048576 by decide)
  have h2 := Int.tmod_lt_of_pos z (show (0 : Int) < 1048576 by decide)
  exact ⟨h1, h2⟩
theorem whL_left {xs ys : List Int} {k : Nat} (h : k < xs.length) : (whL xs ys).getD k 0 = (xs.getD k 0).tmod 1048576 := by
  unfold whL
  rw [List.getD_eq_getElem?_getD, List.getElem?_map, List.getElem?_append_left h, List.getD_eq_getElem?_getD, List.getElem?_eq_getElem h]
  rfl
theorem whL_right {xs ys : List Int} {k : Nat} (h1 : xs.length ≤ k) (h : k < xs.length + ys.length) : (whL xs ys).getD k 0 = (ys.getD (k - xs.length) 0).tmod 1048576 := by
  unfold whL
  have h2 : k - xs.length < ys.length := by omega
  rw [List.getD_eq_getElem?_getD, List.getElem?_map, List.getElem?_append_right h1, List.getD_eq_getElem?_getD, List.getElem?_eq_getElem h2]
  rfl
theorem take_snocI {L : List Int} {k : Nat} (h : k < L.length) : L.take (k + 1) = L.take k ++ [L.getD k 0] := by
  rw [List.take_succ_eq_append_getElem h, List.getD_eq_getElem?_getD, List.getElem?_eq_getElem h]; rfl

/-- The loop over both lists: C the numbers, p of them of the first list. -/
def WbRel (w : World) (p : Nat) (C : List Int) (k : Nat) (v7 v8 v9 s10 s11 s12 : Value) (wr : World) : Prop :=
  Three w v7 ((C.take (min k p)).map FI) v8 (((C.drop p).take (k - p)).map FI) v9 ((C.take k).map FI) wr ∧ s10 = .int .i64 (stL (C.take k)).1 ∧ s11 = .int .i64 (stL (C.take k)).2.1 ∧ s12 = .int .i64 (stL (C.take k)).2.2

theorem st_snoc (l : List Int) (n : Int) : stL (l ++ [n]) = stT (stL l) n := by unfold stL; rw [List.foldl_append]; rfl
theorem wb_step {w wr : World} {p k : Nat} {C : List Int} {n : Int} (hk : k < C.length) (hn : C.getD k 0 = n) : C.take (k + 1) = C.take k ++ [n] := by rw [take_snocI hk, hn]
theorem st_sum {l : List Int} (hl : ∀ n ∈ l, Small n) (hk : l.length ≤ 1500) : (stL l).1.natAbs ≤ l.length * 1048576 ∧ -1073741824 ≤ (stL l).2.1 ∧ (stL l).2.1 ≤ 1073741824 ∧ -1073741824 ≤ (stL l).2.2 ∧ (stL l).2.2 ≤ 1073741824 := by
  obtain ⟨⟨-, -, h⟩, -⟩ := wh_list hl hk
  rcases h with ⟨h0, h, -⟩ | ⟨h0, -, -, -, hs, h1, h2⟩
  · rw [h]; unfold st0; simp
  · unfold Small at *
    exact ⟨hs, by omega, by omega, by omega, by omega⟩

theorem total_wh (m : Mt) (w : World) (hm : m.Ok) (hL : m.L = 0) (hS : rg m.S ≤ 9218868437227405312) : Calls Try.prog 29 #[mtV m] w fun e w' => e = .returned (.float .f64 m.S) ∧ Below w.heap.size w w' := by
  refine (total_any m w hm).mono ?_
  rintro e w' ⟨c, rfl, hc, -, hb⟩
  have : totP m = m.S := by unfold totP; rw [hL, if_pos (by decide +kernel), nfW_id hS]
  rw [this] at hc
  rw [nf_word hc hS]
  exact ⟨rfl, hb⟩

theorem map_take_le (l : List Int) (n : Nat) : ((l.take n).map FI).length ≤ n := by rw [List.length_map]; exact List.length_take_le _ _
theorem wb_left {C : List Int} {p k : Nat} {n : Int} (h : k < p) (hk : k < C.length) (hn : C.getD k 0 = n) : (C.take (min (k + 1) p)).map FI = (C.take (min k p)).map FI ++ [FI n] ∧ ((C.drop p).take (k + 1 - p)).map FI = ((C.drop p).take (k - p)).map FI ∧ (C.take (k + 1)).map FI = (C.take k).map FI ++ [FI n] := by
  have e := take_snocI hk
  rw [hn] at e
  rw [show min (k + 1) p = k + 1 by omega, show min k p = k by omega, show k + 1 - p = 0 by omega, show k - p = 0 by omega, e]
  refine ⟨by simp, rfl, by simp⟩
theorem wb_right {C : List Int} {p k : Nat} {n : Int} (h : p ≤ k) (hk : k < C.length) (hn : C.getD k 0 = n) : (C.take (min (k + 1) p)).map FI = (C.take (min k p)).map FI ∧ ((C.drop p).take (k + 1 - p)).map FI = ((C.drop p).take (k - p)).map FI ++ [FI n] ∧ (C.take (k + 1)).map FI = (C.take k).map FI ++ [FI n] := by
  have e := take_snocI hk
  rw [hn] at e
  have hd : k - p < (C.drop p).length := by simp; omega
  have e2 := take_snocI hd
  have e3 : (C.drop p).getD (k - p) 0 = n := by
    rw [← hn, List.getD_eq_getElem?_getD, List.getElem?_drop, List.getD_eq_getElem?_getD, show p + (k - p) = k by omega]
  rw [e3] at e2
  rw [show min (k + 1) p = p by omega, show min k p = p by omega, show k + 1 - p = k - p + 1 by omega, e, e2]
  refine ⟨rfl, by simp, by simp⟩

set_option maxRecDepth 100000 in
set_option maxHeartbeats 16000000 in
theorem wholes_core (v u : Value) (L P : List Int) (bad : Int) (w : World) (h : IntsAt .i32 w v L) (hp : IntsAt .i32 w u P) (hb0 : 0 ≤ bad) (hb1 : bad ≤ 255)
    (kw : ∀ v, Calls Try.prog 11 #[] v fun e w' => e = .returned (.bool true) ∧ Below v.heap.size v w') :
    Calls Try.prog 10 #[v, u, .int .u8 bad] w fun e w' => e = .returned (.bool true) ∧ Below w.heap.size w w' := by
  have Kw := Lib.hid kw
  clear kw
  have Kn := Lib.hid (fun v => nan_fn v)
  have Kr := Lib.hid (fun v => new_ref v)
  have Kc := Lib.hid (fun a b v (ha : a.Ok) (hb : b.Ok) (h : mtSim a b) => same_mt a b v ha hb h)
  obtain ⟨i0, hi, hz0, hz1, hz2⟩ := info_fl_parts info_fl
  have Hi := Lib.hid hi; have Hz0 := Lib.hid hz0; have Hz1 := Lib.hid hz1; have Hz2 := Lib.hid hz2
  clear hi hz0 hz1 hz2
  have H0 := h; have P0 := hp
  obtain ⟨-, a, c, rfl, hl, hc, -⟩ := h
  obtain ⟨-, b, d, rfl, hl', hd, -⟩ := hp
  obtain ⟨n, hn⟩ : ∃ n, n = min L.length 500 := ⟨_, rfl⟩
  obtain ⟨n', hn'⟩ : ∃ n, n = min P.length 500 := ⟨_, rfl⟩
  have hu := H0.take (show n ≤ L.length by omega)
  have hq := P0.take (show n' ≤ P.length by omega)
  have hMl : (L.take n).length = n := by simp; omega
  have hQl : (P.take n').length = n' := by simp; omega
  have hm1 : min (L.length : Int) 500 = (n : Int) := by omega
  have hm2 : min (P.length : Int) 500 = (n' : Int) := by omega
  have hn500 : n ≤ 500 := by omega
  have hnc : (n : Int) ≤ (c : Int) := by omega
  have hnd : (n' : Int) ≤ (d : Int) := by omega
  have hn0 : (0 : Int) ≤ (n : Int) := by omega
  have hn0' : (0 : Int) ≤ (n' : Int) := by omega
  have hnn' : n' ≤ 500 := by omega
  clear H0 P0
  generalize L.take n = M at *
  generalize P.take n' = Q at *
  unfold maxLen at hc hd
  have Hu := Lib.hid hu; have Hq := Lib.hid hq; have HMl := Lib.hid hMl; have HQl := Lib.hid hQl
  clear hu hq hMl hQl hn hn'
  go_enter Try.func10, Try.ntmps10
  go_wp2_with fail
  with_reducible refine (Kw.out _).mono ?_
  rintro e w1 ⟨rfl, hb⟩
  have Hb1 := Lib.hid hb
  clear hb
  go_wp2_with fail
  go_quiet (fail)
  have Hw1 := Lib.hid (below_drewN Hb1.out nq)
  have Huw := Lib.hid (Hu.out.later Hw1.out)
  have Hqw := Lib.hid (Hq.out.later Hw1.out)
  go_upto_region 4 with (fail)
  refine wp_name (fun x => IntsAt .i32 x (.slice a n c) M ∧ IntsAt .i32 x (.slice b n' d) Q ∧ Below w.heap.size w x) ⟨Huw.out, Hqw.out, Hw1.out⟩ ?_
  clear Hu Hq Hb1 Hw1 Huw Hqw
  rintro X ⟨hu, hq, hx⟩
  have Hu := Lib.hid hu; have Hq := Lib.hid hq; have HX := Lib.hid hx
  clear hu hq hx
  have hMl := HMl.out
  have hQl := HQl.out
  subst hMl hQl
  have HCl := Lib.hid (whL_len M Q)
  have HCs := Lib.hid (whL_small M Q)
  have HCa := Lib.hid (fun k => @whL_left M Q k)
  have HCb := Lib.hid (fun k => @whL_right M Q k)
  generalize whL M Q = C at *
  go_wp2_with fail
  go_loopw [7, 8, 9, 10, 11, 12, 13, 14, 40] (fun v7 v8 v9 s10 s11 s12 _ _ i wr => ∃ k : Nat, i = .int .i64 k ∧ k ≤ M.length + Q.length ∧ WbRel X M.length C k v7 v8 v9 s10 s11 s12 wr) (fun _ _ _ _ _ _ _ _ i _ => M.length + Q.length - (intOf i).toNat)
  case atStart =>
    refine ⟨0, rfl, Nat.zero_le _, ⟨?_, ?_, ?_, sep_nil _, sep_nil _, sep_nil _, Below.refl _ _⟩, by simp [stL, st0], by simp [stL, st0], by simp [stL, st0]⟩
    · have : (C.take (min 0 M.length)).map FI = [] := by simp
      rw [this]; exact World.ownsRow_nil _ _ _ _
    · have : ((C.drop M.length).take (0 - M.length)).map FI = [] := by simp
      rw [this]; exact World.ownsRow_nil _ _ _ _
    · have : (C.take 0).map FI = [] := by simp
      rw [this]; exact World.ownsRow_nil _ _ _ _
  case round =>
    obtain ⟨k, rfl, hk, hthree, rfl, rfl, rfl⟩ := hrel
    have Hth := Lib.hid hthree
    clear hthree
    have hsz := Hth.out.2.2.2.2.2.2.size
    have hst := st_sum (l := C.take k) (fun n hn => HCs.out n (List.mem_of_mem_take hn)) (by simp; omega)
    have hkl : (C.take k).length ≤ k := by simp; omega
    by_cases hA : k < M.length + Q.length
    · have hkC : k < C.length := by rw [HCl.out]; exact hA
      have hsm : Small (C.getD k 0) := HCs.out _ (by rw [List.getD_eq_getElem?_getD, List.getElem?_eq_getElem hkC]; exact List.getElem_mem hkC)
      have Hsn := Lib.hid (take_snocI hkC)
      have Hstn := Lib.hid (st_snoc (C.take k) (C.getD k 0))
      obtain ⟨hs1, hs2, hs3, hs4, hs5⟩ := hst
      have hs1' : -2097152000 ≤ (stL (C.take k)).1 ∧ (stL (C.take k)).1 ≤ 2097152000 := by omega
      obtain ⟨hs1a, hs1b⟩ := hs1'
      clear hs1 hkl
      generalize stL (C.take k) = T at *
      obtain ⟨s, lo, hi⟩ := T
      simp only at hs2 hs3 hs4 hs5 hs1a hs1b
      by_cases hB : k < M.length
      · have hcn := HCa.out k hB
        obtain ⟨ba, off, rfl, hc0⟩ := Hu.out.cell hB Hth.out.2.2.2.2.2.2
        have hlt := World.block_lt_of_cell? _ _ hc0
        have hpm : M.getD k 0 ∈ M := by rw [List.getD_eq_getElem?_getD, List.getElem?_eq_getElem hB]; exact List.getElem_mem hB
        obtain ⟨hz1, hz2⟩ := i32_of_wf (Hu.out.1 _ hpm)
        obtain ⟨hw1, hw2, hw3⟩ := wb_left hB hkC rfl
        have Hw1 := Lib.hid hw1; have Hw2 := Lib.hid hw2; have Hw3 := Lib.hid hw3
        clear hw1 hw2 hw3 hpm
        generalize M.getD k 0 = z at *
        have hla : ((C.take (min k M.length)).map FI).length ≤ 1500 := Nat.le_trans (map_take_le _ _) (by omega)
        have hlb : (((C.drop M.length).take (k - M.length)).map FI).length ≤ 1500 := Nat.le_trans (map_take_le _ _) (by omega)
        have hld : ((C.take k).map FI).length ≤ 1500 := Nat.le_trans (map_take_le _ _) (by omega)
        generalize (C.take (min k M.length)).map FI = AA at *
        generalize ((C.drop M.length).take (k - M.length)).map FI = BB at *
        generalize (C.take k).map FI = DD at *
        generalize C.getD k 0 = nn at *
        have hzn : z.tmod 1048576 = nn := hcn.symm
        clear hcn
        obtain ⟨hn1, hn2⟩ := hsm
        obtain ⟨lo', hlo⟩ : ∃ x, min lo nn = x := ⟨_, rfl⟩
        obtain ⟨hi', hhi⟩ : ∃ x, max hi nn = x := ⟨_, rfl⟩
        have Hlh := Lib.hid (And.intro hlo hhi)
        obtain ⟨qa, hqa⟩ : ∃ q, q = (AA).length := ⟨_, rfl⟩
        have HownA := Lib.hid (show wr.ownsRow X.heap.size 26 1 u7 qa (flatF (AA)) by rw [hqa]; exact Hth.out.1)
        have Hlqa := Lib.hid hqa
        have bqa : qa ≤ 1500 := by rw [hqa]; exact hla
        clear hqa
        go_wp2_with ((at_builtin; refine wpList_append_lies _ rfl _ _ 24 rfl X.heap.size 26 i0 (.float .f64 0) 1 8 Try.underlying24 Hi.out Hz0.out Hz1.out Hz2.out rfl (by decide) _ qa _ rfl (HownA.out.alloc _) ⟨wr.heap.size, 0, none⟩ 1 1 [.float .f64 (floatOfInt .f64 nn)] rfl rfl one_new ?_ (by decide) ?_ ?_ ?_ _ rfl ?_))
        · first | rfl | (intro u hu; simp at hu; subst hu; rfl)
        · unfold maxLen; omega
        · omega
        · first | omega | (simp; omega)
        intro g cap w2 ho hg hl _
        have HT2 : Hid (Three X (.slice (some ⟨g, 0, none⟩) (qa + 1) cap) (AA ++ [FI nn]) u8 (BB) u9 (DD) w2) := Lib.hid (Hth.out.a Hlqa.out ho rfl hg hl)
        clear ho hg hl HownA hc0 hlt
        have hsz2 := HT2.out.2.2.2.2.2.2.size
        obtain ⟨qd, hqd⟩ : ∃ q, q = (DD).length := ⟨_, rfl⟩
        have HownD := Lib.hid (show w2.ownsRow X.heap.size 26 1 u9 qd (flatF (DD)) by rw [hqd]; exact HT2.out.2.2.1)
        have Hlqd := Lib.hid hqd
        have bqd : qd ≤ 1500 := by rw [hqd]; exact hld
        clear hqd
        go_wp2_with ((at_builtin; refine wpList_append_lies _ rfl _ _ 24 rfl X.heap.size 26 i0 (.float .f64 0) 1 8 Try.underlying24 Hi.out Hz0.out Hz1.out Hz2.out rfl (by decide) _ qd _ rfl (HownD.out.alloc _) ⟨w2.heap.size, 0, none⟩ 1 1 [.float .f64 (floatOfInt .f64 nn)] rfl rfl one_new ?_ (by decide) ?_ ?_ ?_ _ rfl ?_))
        · first | rfl | (intro u hu; simp at hu; subst hu; rfl)
        · unfold maxLen; omega
        · omega
        · first | omega | (simp; omega)
        intro g' cap' w3 ho hg hl _
        have HT3 : Hid (WbRel X M.length C (k + 1) (.slice (some ⟨g, 0, none⟩) (qa + 1) cap) u8 (.slice (some ⟨g', 0, none⟩) (qd + 1) cap') (.int .i64 (s + nn)) (.int .i64 lo') (.int .i64 hi') w3) := by
          refine Lib.hid ⟨?_, ?_, ?_, ?_⟩
          · rw [Hw1.out, Hw2.out, Hw3.out]
            exact (HT2.out.turn.a Hlqd.out ho rfl hg hl).turn
          · rw [Hsn.out, Hstn.out]; rfl
          · rw [Hsn.out, Hstn.out, ← Hlh.out.1]; rfl
          · rw [Hsn.out, Hstn.out, ← Hlh.out.2]; rfl
        clear ho hg hl HownD HT2 hsz2
        go_wp2
        go_roundw
        case rel => exact ⟨k + 1, by go_num, by omega, HT3.out⟩
        case measure => simp [intOf]; omega
      · obtain ⟨j, hj⟩ : ∃ j, j = k - M.length := ⟨_, rfl⟩
        have hjq : j < Q.length := by omega
        have hcn := HCb.out k (by omega) hA
        rw [← hj] at hcn
        obtain ⟨bb, off, rfl, hc0⟩ := Hq.out.cell hjq Hth.out.2.2.2.2.2.2
        have hlt := World.block_lt_of_cell? _ _ hc0
        have hpm : Q.getD j 0 ∈ Q := by rw [List.getD_eq_getElem?_getD, List.getElem?_eq_getElem hjq]; exact List.getElem_mem hjq
        obtain ⟨hz1, hz2⟩ := i32_of_wf (Hq.out.1 _ hpm)
        obtain ⟨hw1, hw2, hw3⟩ := wb_right (p := M.length) (by omega) hkC rfl
        have Hw1 := Lib.hid hw1; have Hw2 := Lib.hid hw2; have Hw3 := Lib.hid hw3
        clear hw1 hw2 hw3 hpm
        have hkj : (k : Int) - (M.length : Int) = (j : Int) := by omega
        clear hj
        generalize Q.getD j 0 = z at *
        have hla : ((C.take (min k M.length)).map FI).length ≤ 1500 := Nat.le_trans (map_take_le _ _) (by omega)
        have hlb : (((C.drop M.length).take (k - M.length)).map FI).length ≤ 1500 := Nat.le_trans (map_take_le _ _) (by omega)
        have hld : ((C.take k).map FI).length ≤ 1500 := Nat.le_trans (map_take_le _ _) (by omega)
        generalize (C.take (min k M.length)).map FI = AA at *
        generalize ((C.drop M.length).take (k - M.length)).map FI = BB at *
        generalize (C.take k).map FI = DD at *
        generalize C.getD k 0 = nn at *
        have hzn : z.tmod 1048576 = nn := hcn.symm
        clear hcn
        obtain ⟨hn1, hn2⟩ := hsm
        obtain ⟨lo', hlo⟩ : ∃ x, min lo nn = x := ⟨_, rfl⟩
        obtain ⟨hi', hhi⟩ : ∃ x, max hi nn = x := ⟨_, rfl⟩
        have Hlh := Lib.hid (And.intro hlo hhi)
        obtain ⟨qa, hqa⟩ : ∃ q, q = (BB).length := ⟨_, rfl⟩
        have HownA := Lib.hid (show wr.ownsRow X.heap.size 26 1 u8 qa (flatF (BB)) by rw [hqa]; exact Hth.out.2.1)
        have Hlqa := Lib.hid hqa
        have bqa : qa ≤ 1500 := by rw [hqa]; exact hlb
        clear hqa
        go_wp2_with ((at_builtin; refine wpList_append_lies _ rfl _ _ 24 rfl X.heap.size 26 i0 (.float .f64 0) 1 8 Try.underlying24 Hi.out Hz0.out Hz1.out Hz2.out rfl (by decide) _ qa _ rfl (HownA.out.alloc _) ⟨wr.heap.size, 0, none⟩ 1 1 [.float .f64 (floatOfInt .f64 nn)] rfl rfl one_new ?_ (by decide) ?_ ?_ ?_ _ rfl ?_))
        · first | rfl | (intro u hu; simp at hu; subst hu; rfl)
        · unfold maxLen; omega
        · omega
        · first | omega | (simp; omega)
        intro g cap w2 ho hg hl _
        have HT2 : Hid (Three X u7 (AA) (.slice (some ⟨g, 0, none⟩) (qa + 1) cap) (BB ++ [FI nn]) u9 (DD) w2) := Lib.hid (Hth.out.swap.a Hlqa.out ho rfl hg hl).swap
        clear ho hg hl HownA hc0 hlt
        have hsz2 := HT2.out.2.2.2.2.2.2.size
        obtain ⟨qd, hqd⟩ : ∃ q, q = (DD).length := ⟨_, rfl⟩
        have HownD := Lib.hid (show w2.ownsRow X.heap.size 26 1 u9 qd (flatF (DD)) by rw [hqd]; exact HT2.out.2.2.1)
        have Hlqd := Lib.hid hqd
        have bqd : qd ≤ 1500 := by rw [hqd]; exact hld
        clear hqd
        go_wp2_with ((at_builtin; refine wpList_append_lies _ rfl _ _ 24 rfl X.heap.size 26 i0 (.float .f64 0) 1 8 Try.underlying24 Hi.out Hz0.out Hz1.out Hz2.out rfl (by decide) _ qd _ rfl (HownD.out.alloc _) ⟨w2.heap.size, 0, none⟩ 1 1 [.float .f64 (floatOfInt .f64 nn)] rfl rfl one_new ?_ (by decide) ?_ ?_ ?_ _ rfl ?_))
        · first | rfl | (intro u hu; simp at hu; subst hu; rfl)
        · unfold maxLen; omega
        · omega
        · first | omega | (simp; omega)
        intro g' cap' w3 ho hg hl _
        have HT3 : Hid (WbRel X M.length C (k + 1) u7 (.slice (some ⟨g, 0, none⟩) (qa + 1) cap) (.slice (some ⟨g', 0, none⟩) (qd + 1) cap') (.int .i64 (s + nn)) (.int .i64 lo') (.int .i64 hi') w3) := by
          refine Lib.hid ⟨?_, ?_, ?_, ?_⟩
          · rw [Hw1.out, Hw2.out, Hw3.out]
            exact (HT2.out.turn.a Hlqd.out ho rfl hg hl).turn
          · rw [Hsn.out, Hstn.out]; rfl
          · rw [Hsn.out, Hstn.out, ← Hlh.out.1]; rfl
          · rw [Hsn.out, Hstn.out, ← Hlh.out.2]; rfl
        clear ho hg hl HownD HT2 hsz2
        go_wp2
        go_roundw
        case rel => exact ⟨k + 1, by go_num, by omega, HT3.out⟩
        case measure => simp [intOf]; omega
    · obtain rfl : k = M.length + Q.length := by omega
      have hCl := HCl.out
      have e1 : C.take (M.length + Q.length) = C := by rw [← hCl]; exact List.take_length
      have e2 : min (M.length + Q.length) M.length = M.length := by omega
      have e3 : (C.drop M.length).take (M.length + Q.length - M.length) = C.drop M.length := List.take_of_length_le (by simp; omega)
      rw [e1, e2, e3] at Hth
      rw [e1] at hst ⊢
      have hsA : ∀ n ∈ C.take M.length, Small n := fun n hn => HCs.out n (List.mem_of_mem_take hn)
      have hsB : ∀ n ∈ C.drop M.length, Small n := fun n hn => HCs.out n (List.mem_of_mem_drop hn)
      have hlA : (C.take M.length).length = M.length := by simp; omega
      have hlB : (C.drop M.length).length = Q.length := by simp; omega
      have hstC : stL C = stM (stL (C.take M.length)) (stL (C.drop M.length)) := by rw [← st_app, List.take_append_drop]
      have HsA := Lib.hid hsA; have HsB := Lib.hid hsB; have HlA := Lib.hid hlA; have HlB := Lib.hid hlB; have HstC := Lib.hid hstC
      have HlC := Lib.hid hCl
      clear e1 e2 e3 hsA hsB hlA hlB hstC hkl hCl HCa HCb Hu Hq hst
      generalize C.take M.length = A0 at *
      generalize C.drop M.length = B0 at *
      obtain ⟨m, hm⟩ : ∃ m : Nat, bad % 3 = (m : Int) := ⟨(bad % 3).toNat, by omega⟩
      have hm3 : m ≤ 2 := by omega
      have hKm : C.length ≤ 1000 := by have := HlC.out; omega
      go_wp2_with fail
      rw [hm, show ((M.length + Q.length : Nat) : Int) = (M.length : Int) + (Q.length : Int) by omega]
      have Hm := Lib.hid hm
      clear hm
      go_loopw [7, 89] (fun v7 j wy => ∃ r : Nat, j = .int .u8 r ∧ r ≤ m ∧ Three X v7 (A0.map FI ++ List.replicate r NANW) u8 (B0.map FI) u9 (C.map FI) wy) (fun _ j _ => m - (intOf j).toNat)
      case atStart => exact ⟨0, rfl, Nat.zero_le _, by simpa using Hth.out⟩
      case round =>
        obtain ⟨r, rfl, hr, ht3⟩ := hrel
        have HT3 := Lib.hid ht3
        clear ht3 Hth
        have hsz := HT3.out.2.2.2.2.2.2.size
        by_cases hC : r < m
        · obtain ⟨q, hq⟩ : ∃ q, q = (A0.map FI ++ List.replicate r NANW).length := ⟨_, rfl⟩
          have Hown := Lib.hid (show wr.ownsRow X.heap.size 26 1 u7 q (flatF (A0.map FI ++ List.replicate r NANW)) by rw [hq]; exact HT3.out.1)
          have Hlq := Lib.hid hq
          have hq9 : q ≤ 905 := by have := HlA.out; rw [hq]; simp; omega
          clear hq
          go_wp2_with (first | (go_at_call 23; (with_reducible refine (Kn.out _).mono ?_); rintro e w' ⟨rfl, rfl⟩) | (at_builtin; refine wpList_append_lies _ rfl _ _ 24 rfl X.heap.size 26 i0 (.float .f64 0) 1 8 Try.underlying24 Hi.out Hz0.out Hz1.out Hz2.out rfl (by decide) _ q _ rfl (Hown.out.alloc _) ⟨wr.heap.size, 0, none⟩ 1 1 [.float .f64 9221120237041090561] rfl rfl one_new ?_ (by decide) ?_ ?_ ?_ _ rfl ?_))
          · first | rfl | (intro u hu; simp at hu; subst hu; rfl)
          · unfold maxLen; omega
          · omega
          · first | omega | (simp; omega)
          intro g cap w3 ho hg hl3 _
          have HT4 : Hid (Three X (.slice (some ⟨g, 0, none⟩) (q + 1) cap) (A0.map FI ++ List.replicate (r + 1) NANW) u8 (B0.map FI) u9 (C.map FI) w3) := Lib.hid (by rw [List.replicate_succ', ← List.append_assoc]; exact HT3.out.a Hlq.out ho rfl hg hl3)
          clear ho hg hl3 HT3 Hown
          go_wp2
          go_roundw
          case rel => exact ⟨r + 1, by go_num, by omega, HT4.out⟩
          case measure => simp [intOf]; omega
        · obtain rfl : r = m := by omega
          obtain ⟨K, hK⟩ : ∃ K, K = C.length := ⟨_, rfl⟩
          have HK := Lib.hid hK
          have hK1 : K ≤ 1000 := by omega
          have f7 := fl_of_own HT3.out.1 (by intro x hx; rcases List.mem_append.1 hx with h | h; obtain ⟨z, hz, rfl⟩ := List.mem_map.1 h; exact fi_lt (small_lt (HsA.out z hz)); rw [List.eq_of_mem_replicate h]; decide)
          have f8 := fl_of_own HT3.out.2.1 (by intro x hx; obtain ⟨z, hz, rfl⟩ := List.mem_map.1 hx; exact fi_lt (small_lt (HsB.out z hz)))
          have f9 := fl_of_own HT3.out.2.2.1 (by intro x hx; obtain ⟨z, hz, rfl⟩ := List.mem_map.1 hx; exact fi_lt (small_lt (HCs.out z hz)))
          have h9 : wr.ownsRow X.heap.size 26 1 u9 K (flatF (C.map FI)) := by
            have := HT3.out.2.2.1
            unfold OwnF at this
            rwa [List.length_map, ← hK] at this
          have hx9 : FlAt wr u7 (A0.map FI ++ List.replicate r NANW) ∧ FlAt wr u8 (B0.map FI) ∧ FlAt wr u9 (C.map FI) ∧ Below w.heap.size w wr := ⟨f7, f8, f9, HX.out.trans (HT3.out.2.2.2.2.2.2.mono HX.out.size)⟩
          obtain ⟨a9, c9, rfl, _, hc9, -⟩ := own_shapeF h9
          have Hx9 := Lib.hid hx9
          have hlen7 : (A0.map FI ++ List.replicate r NANW).length ≤ 4096 := by have := HlA.out; simp; omega
          have hlen8 : (B0.map FI).length ≤ 4096 := by have := HlB.out; simp; omega
          have hlen9 : (C.map FI).length ≤ 4096 := by simp; omega
          have K7 := Lib.hid (fun v w h => mof_some v _ w h hlen7)
          have K8 := Lib.hid (fun v w h => mof_some v _ w h hlen8)
          have K9 := Lib.hid (fun v w h => mof_some v _ w h hlen9)
          unfold maxLen at hc9
          obtain ⟨wA, bA⟩ := wh_list HsA.out (by have := HlA.out; omega)
          obtain ⟨wB, bB⟩ := wh_list HsB.out (by have := HlB.out; omega)
          obtain ⟨wC, bC⟩ := wh_list HCs.out (by omega)
          have hfA : foldM (A0.map FI ++ List.replicate r NANW) = setBad (foldM (A0.map FI)) (r : Int) := by
            unfold foldM
            rw [List.foldl_append]
            have e : (A0.map FI).foldl addM mt0 = setBad ((A0.map FI).foldl addM mt0) 0 := by
              have : ((A0.map FI).foldl addM mt0).Bad = 0 := bA
              unfold setBad
              rw [← this]
            rw [e, fold_reps _ _ _ (by decide) (by omega), Int.zero_add]
            rfl
          have WA : Hid (WhRel (foldM (A0.map FI ++ List.replicate r NANW)) M.length (stL A0) ∧ (foldM (A0.map FI ++ List.replicate r NANW)).Bad = (r : Int)) := Lib.hid (by
            rw [hfA]
            have := wA
            rw [HlA.out] at this
            exact ⟨this, rfl⟩)
          have WB : Hid (WhRel (foldM (B0.map FI)) Q.length (stL B0) ∧ (foldM (B0.map FI)).Bad = 0) := Lib.hid ⟨by have := wB; rw [HlB.out] at this; exact this, bB⟩
          have WC : Hid (WhRel (foldM (C.map FI)) K (stL C) ∧ (foldM (C.map FI)).Bad = 0) := Lib.hid ⟨by rw [hK]; exact wC, bC⟩
          have HD0 : Hid (K = 0 → foldM (C.map FI) = mt0) := Lib.hid (fun h => by have : C = [] := List.length_eq_zero_iff.1 (by omega); rw [this]; rfl)
          clear hx9 f7 f8 f9 h9 hK wA wB wC bA bB bC hfA hlen7 hlen8 hlen9 HT3 HX hsz
          generalize A0.map FI ++ List.replicate r NANW = AL at *
          generalize B0.map FI = BL at *
          generalize C.map FI = DL at *
          go_upto_region 22 with (fail)
          refine wp_name (fun u => FlAt u u7 AL ∧ FlAt u u8 BL ∧ FlAt u (.slice a9 K c9) DL ∧ Below w.heap.size w u) Hx9.out ?_
          clear Hx9
          rintro Y hy
          have HY := Lib.hid hy
          clear hy
          go_wp2_with fail
          refine (K7.out _ _ HY.out.1).mono ?_
          rintro e w3 ⟨m1, rfl, hs1, ho1, hb3⟩
          have HZ : Hid (MtCell (w3.alloc (mtObj m1 28)) w3.heap.size m1 ∧ FlAt (w3.alloc (mtObj m1 28)) u8 BL ∧ FlAt (w3.alloc (mtObj m1 28)) (.slice a9 K c9) DL ∧ Below w.heap.size w (w3.alloc (mtObj m1 28))) := Lib.hid ⟨mtCell_alloc w3 m1 _, (HY.out.2.1.later hb3).later (below_all _ _), (HY.out.2.2.1.later hb3).later (below_all _ _), (HY.out.2.2.2.trans (hb3.mono HY.out.2.2.2.size)).alloc (HY.out.2.2.2.trans (hb3.mono HY.out.2.2.2.size)).size _⟩
          have Ho1 := Lib.hid ho1
          have Wm1 := Lib.hid (wh_sim WA.out.1 hs1 (by omega))
          have B1 := Lib.hid (hs1.2.1.trans WA.out.2)
          clear hs1 ho1 hb3 HY K7 WA
          unfold mtV
          go_upto_region 23 with (fail)
          refine wp_name (fun u => MtCell u w3.heap.size m1 ∧ FlAt u u8 BL ∧ FlAt u (.slice a9 K c9) DL ∧ Below w.heap.size w u) HZ.out ?_
          clear HZ
          generalize w3.heap.size = U1 at *
          rintro Y hy
          have HY := Lib.hid hy
          clear hy
          go_wp2_with fail
          refine (K8.out _ _ HY.out.2.1).mono ?_
          rintro e w4 ⟨m2, rfl, hs2, ho2, hb4⟩
          have HZ : Hid (MtCell (w4.alloc (mtObj m2 28)) U1 m1 ∧ MtCell (w4.alloc (mtObj m2 28)) w4.heap.size m2 ∧ FlAt (w4.alloc (mtObj m2 28)) (.slice a9 K c9) DL ∧ Below w.heap.size w (w4.alloc (mtObj m2 28))) := Lib.hid ⟨(HY.out.1.keep hb4).keep (below_all _ _), mtCell_alloc w4 m2 _, (HY.out.2.2.1.later hb4).later (below_all _ _), (HY.out.2.2.2.trans (hb4.mono HY.out.2.2.2.size)).alloc (HY.out.2.2.2.trans (hb4.mono HY.out.2.2.2.size)).size _⟩
          have Ho2 := Lib.hid ho2
          have Wm2 := Lib.hid (wh_sim WB.out.1 hs2 (by omega))
          have B2 := Lib.hid (hs2.2.1.trans WB.out.2)
          clear hs2 ho2 hb4 HY K8 WB
          unfold mtV
          go_upto_region 24 with (fail)
          refine wp_name (fun u => MtCell u U1 m1 ∧ MtCell u w4.heap.size m2 ∧ FlAt u (.slice a9 K c9) DL ∧ Below w.heap.size w u) HZ.out ?_
          clear HZ
          generalize w4.heap.size = U2 at *
          rintro Y hy
          have HY := Lib.hid hy
          clear hy
          go_wp2_with fail
          refine (K9.out _ _ HY.out.2.2.1).mono ?_
          rintro e w5 ⟨m3, rfl, hs3, ho3, hb5⟩
          have HZ : Hid (MtCell (w5.alloc (mtObj m3 28)) U1 m1 ∧ MtCell (w5.alloc (mtObj m3 28)) U2 m2 ∧ MtCell (w5.alloc (mtObj m3 28)) w5.heap.size m3 ∧ Below w.heap.size w (w5.alloc (mtObj m3 28))) := Lib.hid ⟨(HY.out.1.keep hb5).keep (below_all _ _), (HY.out.2.1.keep hb5).keep (below_all _ _), mtCell_alloc w5 m3 _, (HY.out.2.2.2.trans (hb5.mono HY.out.2.2.2.size)).alloc (HY.out.2.2.2.trans (hb5.mono HY.out.2.2.2.size)).size _⟩
          have Ho3 := Lib.hid ho3
          have Hs3 := Lib.hid hs3
          have Wm3 := Lib.hid (wh_sim WC.out.1 hs3 (by omega))
          have B3 := Lib.hid (hs3.2.1.trans WC.out.2)
          clear hs3 ho3 hb5 HY K9
          unfold mtV
          go_upto_region 25 with (fail)
          refine wp_name (fun u => MtCell u U1 m1 ∧ MtCell u U2 m2 ∧ MtCell u w5.heap.size m3 ∧ Below w.heap.size w u) HZ.out ?_
          clear HZ
          generalize w5.heap.size = U3 at *
          rintro Y hy
          have HY := Lib.hid hy
          obtain ⟨⟨⟨a0, a1, a2, a3, a4, a5, a6, a7⟩, -⟩, ⟨⟨b0, b1, b2, b3, b4, b5, b6, b7⟩, -⟩, -, -⟩ := hy
          obtain ⟨wm, bm, em⟩ := wh_merge Wm1.out.1 Wm2.out.1 hn500 hnn' ⟨by rw [B1.out]; omega, by rw [B1.out]; omega⟩ B2.out
          have km : ∀ v, Calls Try.prog 31 #[mtV m1, mtV m2] v (MtErr v (mergeV m1 m2) 0) := fun v => by
            have := merge_any m1 m2 v Ho1.out Ho2.out ⟨by rw [Wm1.out.1.1]; omega, by rw [Wm1.out.1.1]; omega⟩ ⟨by rw [B1.out]; omega, by rw [B1.out]; omega⟩
            rwa [em] at this
          have Km := Lib.hid km
          unfold mtV at Km
          have Wm := Lib.hid wm
          have Bm := Lib.hid (bm.trans B1.out)
          clear km wm bm em
          go_wp2_with fail
          refine (Km.out _).mono ?_
          rintro e w6 ⟨m4, rfl, hs4, ho4, hb6⟩
          have HZ : Hid (MtCell (w6.alloc (mtObj m4 28)) U3 m3 ∧ MtCell (w6.alloc (mtObj m4 28)) w6.heap.size m4 ∧ Below w.heap.size w (w6.alloc (mtObj m4 28))) := Lib.hid ⟨(HY.out.2.2.1.keep hb6).keep (below_all _ _), mtCell_alloc w6 m4 _, (HY.out.2.2.2.trans (hb6.mono HY.out.2.2.2.size)).alloc (HY.out.2.2.2.trans (hb6.mono HY.out.2.2.2.size)).size _⟩
          have Ho4 := Lib.hid ho4
          have Wm4 := Lib.hid (wh_sim Wm.out hs4 (by omega))
          have B4 := Lib.hid (hs4.2.1.trans Bm.out)
          clear hs4 ho4 hb6 HY Km Wm Bm a0 a1 a2 a3 a4 a5 a6 a7 b0 b1 b2 b3 b4 b5 b6 b7
          unfold mtV
          go_upto_region 26 with (fail)
          refine wp_name (fun u => MtCell u U3 m3 ∧ MtCell u w6.heap.size m4 ∧ Below w.heap.size w u) HZ.out ?_
          clear HZ
          generalize w6.heap.size = U4 at *
          rintro Y hy
          have HY := Lib.hid hy
          clear hy
          have hN4 : m4.N = (K : Int) := by rw [Wm4.out.1.1, HK.out, HlC.out]
          have hN3 : m3.N = (K : Int) := Wm3.out.1.1
          have hB3 := B3.out
          have hB4 := B4.out
          obtain ⟨N3, Bd3, x2, x3, x4, x5, x6, x7⟩ := m3
          obtain ⟨N4, Bd4, y2, y3, y4, y5, y6, y7⟩ := m4
          simp only at hN4 hN3 hB3 hB4
          subst hN4 hN3 hB3 hB4
          obtain ⟨⟨⟨a0, a1, a2, a3, a4, a5, a6, a7⟩, -⟩, ⟨⟨b0, b1, b2, b3, b4, b5, b6, b7⟩, -⟩, -⟩ := HY.out
          simp only at a0 a1 a2 a3 a4 a5 a6 a7 b0 b1 b2 b3 b4 b5 b6 b7
          -- END
          have hm := Hm.out
          have hz1 : ((r : Int) != bad % 3) = false := by rw [hm]; simp
          have hz2 : ((r : Int) == bad % 3) = true := by rw [hm]; simp
          by_cases hK0 : K = 0
          · have hs3 := Hs3.out
            rw [HD0.out hK0] at hs3
            have w3c := Wm3.out.1.2.2
            have w4c := Wm4.out.1.2.2
            have hy2 : y2 = 9223372036854775808 := by
              rcases w4c with ⟨-, -, h, -⟩ | ⟨h, -⟩
              · exact h
              · have := HlC.out; have := HK.out; omega
            have hy3 : y3 = 0 := Wm4.out.1.2.1
            subst hy2 hy3
            have K3s := Lib.hid (fun v => Kc.out _ mt0 v Ho3.out mt0_ok hs3)
            have K4t := Lib.hid (fun v => total_wh ⟨(K : Int), (r : Int), 9223372036854775808, 0, y4, y5, y6, y7⟩ v Ho4.out rfl (show rg 9223372036854775808 ≤ 9218868437227405312 by decide +kernel))
            unfold mtV mt0 at K3s
            unfold mtV mt0 at Kr
            unfold mtV at K4t
            have o1 : (FloatKind.f64.format.order 9223372036854775808 0 == some .eq) = true := by decide +kernel
            have hkz : ((K : Int) == 0) = true := by rw [hK0]; rfl
            clear hs3 w3c w4c hK0
            go_upto_region 29 with (fail)
            have hs0 : (fun w' => w'.cell? ⟨U3, 0, none⟩ = some (.int .i64 (K : Int)) ∧ w'.cell? ⟨U3, 1, none⟩ = some (.int .i64 0) ∧ w'.cell? ⟨U3, 2, none⟩ = some (.float .f64 x2) ∧ w'.cell? ⟨U3, 3, none⟩ = some (.float .f64 x3) ∧ w'.cell? ⟨U3, 4, none⟩ = some (.float .f64 x4) ∧ w'.cell? ⟨U3, 5, none⟩ = some (.float .f64 x5) ∧ w'.cell? ⟨U3, 6, none⟩ = some (.float .f64 x6) ∧ w'.cell? ⟨U3, 7, none⟩ = some (.float .f64 x7) ∧ w'.cell? ⟨U4, 0, none⟩ = some (.int .i64 (K : Int)) ∧ w'.cell? ⟨U4, 1, none⟩ = some (.int .i64 (r : Int)) ∧ w'.cell? ⟨U4, 2, none⟩ = some (.float .f64 9223372036854775808) ∧ w'.cell? ⟨U4, 3, none⟩ = some (.float .f64 0) ∧ w'.cell? ⟨U4, 4, none⟩ = some (.float .f64 y4) ∧ w'.cell? ⟨U4, 5, none⟩ = some (.float .f64 y5) ∧ w'.cell? ⟨U4, 6, none⟩ = some (.float .f64 y6) ∧ w'.cell? ⟨U4, 7, none⟩ = some (.float .f64 y7) ∧ Below w.heap.size w w') Y := ⟨a0, a1, a2, a3, a4, a5, a6, a7, b0, b1, b2, b3, b4, b5, b6, b7, HY.out.2.2⟩
            have hl : ∀ w1 w2, (fun w' => w'.cell? ⟨U3, 0, none⟩ = some (.int .i64 (K : Int)) ∧ w'.cell? ⟨U3, 1, none⟩ = some (.int .i64 0) ∧ w'.cell? ⟨U3, 2, none⟩ = some (.float .f64 x2) ∧ w'.cell? ⟨U3, 3, none⟩ = some (.float .f64 x3) ∧ w'.cell? ⟨U3, 4, none⟩ = some (.float .f64 x4) ∧ w'.cell? ⟨U3, 5, none⟩ = some (.float .f64 x5) ∧ w'.cell? ⟨U3, 6, none⟩ = some (.float .f64 x6) ∧ w'.cell? ⟨U3, 7, none⟩ = some (.float .f64 x7) ∧ w'.cell? ⟨U4, 0, none⟩ = some (.int .i64 (K : Int)) ∧ w'.cell? ⟨U4, 1, none⟩ = some (.int .i64 (r : Int)) ∧ w'.cell? ⟨U4, 2, none⟩ = some (.float .f64 9223372036854775808) ∧ w'.cell? ⟨U4, 3, none⟩ = some (.float .f64 0) ∧ w'.cell? ⟨U4, 4, none⟩ = some (.float .f64 y4) ∧ w'.cell? ⟨U4, 5, none⟩ = some (.float .f64 y5) ∧ w'.cell? ⟨U4, 6, none⟩ = some (.float .f64 y6) ∧ w'.cell? ⟨U4, 7, none⟩ = some (.float .f64 y7) ∧ Below w.heap.size w w') w1 → Below w1.heap.size w1 w2 → (fun w' => w'.cell? ⟨U3, 0, none⟩ = some (.int .i64 (K : Int)) ∧ w'.cell? ⟨U3, 1, none⟩ = some (.int .i64 0) ∧ w'.cell? ⟨U3, 2, none⟩ = some (.float .f64 x2) ∧ w'.cell? ⟨U3, 3, none⟩ = some (.float .f64 x3) ∧ w'.cell? ⟨U3, 4, none⟩ = some (.float .f64 x4) ∧ w'.cell? ⟨U3, 5, none⟩ = some (.float .f64 x5) ∧ w'.cell? ⟨U3, 6, none⟩ = some (.float .f64 x6) ∧ w'.cell? ⟨U3, 7, none⟩ = some (.float .f64 x7) ∧ w'.cell? ⟨U4, 0, none⟩ = some (.int .i64 (K : Int)) ∧ w'.cell? ⟨U4, 1, none⟩ = some (.int .i64 (r : Int)) ∧ w'.cell? ⟨U4, 2, none⟩ = some (.float .f64 9223372036854775808) ∧ w'.cell? ⟨U4, 3, none⟩ = some (.float .f64 0) ∧ w'.cell? ⟨U4, 4, none⟩ = some (.float .f64 y4) ∧ w'.cell? ⟨U4, 5, none⟩ = some (.float .f64 y5) ∧ w'.cell? ⟨U4, 6, none⟩ = some (.float .f64 y6) ∧ w'.cell? ⟨U4, 7, none⟩ = some (.float .f64 y7) ∧ Below w.heap.size w w') w2 := fun w1 w2 h hb => by
              obtain ⟨g0, g1, g2, g3, g4, g5, g6, g7, q0, q1, q2, q3, q4, q5, q6, q7, hB⟩ := h
              exact ⟨cell_later hb g0, cell_later hb g1, cell_later hb g2, cell_later hb g3, cell_later hb g4, cell_later hb g5, cell_later hb g6, cell_later hb g7, cell_later hb q0, cell_later hb q1, cell_later hb q2, cell_later hb q3, cell_later hb q4, cell_later hb q5, cell_later hb q6, cell_later hb q7, hB.trans (hb.mono hB.size)⟩
            have Hs0 := Lib.hid hs0
            have Hsd := Lib.hid (hl Y Y.drew hs0 (Below.refl _ _).drew)
            have Hl := Lib.hid hl
            clear hs0 hl a0 a1 a2 a3 a4 a5 a6 a7 b0 b1 b2 b3 b4 b5 b6 b7
            go_region_held3 (fun w' => w'.cell? ⟨U3, 0, none⟩ = some (.int .i64 (K : Int)) ∧ w'.cell? ⟨U3, 1, none⟩ = some (.int .i64 0) ∧ w'.cell? ⟨U3, 2, none⟩ = some (.float .f64 x2) ∧ w'.cell? ⟨U3, 3, none⟩ = some (.float .f64 x3) ∧ w'.cell? ⟨U3, 4, none⟩ = some (.float .f64 x4) ∧ w'.cell? ⟨U3, 5, none⟩ = some (.float .f64 x5) ∧ w'.cell? ⟨U3, 6, none⟩ = some (.float .f64 x6) ∧ w'.cell? ⟨U3, 7, none⟩ = some (.float .f64 x7) ∧ w'.cell? ⟨U4, 0, none⟩ = some (.int .i64 (K : Int)) ∧ w'.cell? ⟨U4, 1, none⟩ = some (.int .i64 (r : Int)) ∧ w'.cell? ⟨U4, 2, none⟩ = some (.float .f64 9223372036854775808) ∧ w'.cell? ⟨U4, 3, none⟩ = some (.float .f64 0) ∧ w'.cell? ⟨U4, 4, none⟩ = some (.float .f64 y4) ∧ w'.cell? ⟨U4, 5, none⟩ = some (.float .f64 y5) ∧ w'.cell? ⟨U4, 6, none⟩ = some (.float .f64 y6) ∧ w'.cell? ⟨U4, 7, none⟩ = some (.float .f64 y7) ∧ Below w.heap.size w w') (first | exact Hs0.out | exact Hsd.out | exact Hs1.out | exact Hs2.out | exact Hs3.out) (first | (go_at_call 25; (with_reducible refine (Kr.out _).mono ?_); rintro e w7 ⟨rfl, hb⟩; have Hs1 := Lib.hid (Hl.out _ _ Hsd.out hb); clear hb) | (go_at_call 17; (with_reducible refine (K3s.out _).mono ?_); rintro e w8 ⟨rfl, hb⟩; have Hs2 := Lib.hid (Hl.out _ _ Hs1.out hb); clear hb) | (go_at_call 29; (with_reducible refine (K4t.out _).mono ?_); rintro e w9 ⟨rfl, hb⟩; have Hs3 := Lib.hid (Hl.out _ _ Hs2.out hb); clear hb))
            all_goals
              obtain ⟨-, -, -, -, -, -, -, -, -, -, -, -, -, -, -, -, hB⟩ := Hs3.out
              have HB := Lib.hid hB
              clear hB
              go_wp2
              go_ret
              exact ⟨rfl, HB.out⟩
          · have w3c := Wm3.out.1.2.2
            have w4c := Wm4.out.1.2.2
            rcases w3c with ⟨h, -⟩ | ⟨-, hx2, hx4, hx5, -, hlo, hhi⟩
            · exact absurd h hK0
            rcases w4c with ⟨h, -⟩ | ⟨-, hy2, hy4, hy5, hs4, hlo4, hhi4⟩
            · exact absurd (HK.out.trans (HlC.out.trans h)) hK0
            have hx3 : x3 = 0 := Wm3.out.1.2.1
            have hy3 : y3 = 0 := Wm4.out.1.2.1
            rw [← HstC.out] at hy2 hy4 hy5 hs4
            have hss : (stL C).1.natAbs < 9007199254740992 := by omega
            have r1 := fi_rg hss
            have r2 := fi_rg (small_lt hlo)
            have r3 := fi_rg (small_lt hhi)
            have l1 := fi_lt hss
            have l2 := fi_lt (small_lt hlo)
            have l3 := fi_lt (small_lt hhi)
            have hkz : ((K : Int) == 0) = false := beq_eq_false_iff_ne.2 (by omega)
            simp only at hx2 hx4 hx5 hy2 hy4 hy5
            clear HstC Wm3 Wm4 WC hlo hhi hlo4 hhi4 hs4 hss hK0
            generalize (stL C).1 = s at *
            generalize (stL C).2.1 = lo at *
            generalize (stL C).2.2 = hi at *
            obtain ⟨fs, hfs⟩ : ∃ fs, floatOfInt .f64 s = fs := ⟨_, rfl⟩
            obtain ⟨fl, hfl⟩ : ∃ fl, floatOfInt .f64 lo = fl := ⟨_, rfl⟩
            obtain ⟨fh, hfh⟩ : ∃ fh, floatOfInt .f64 hi = fh := ⟨_, rfl⟩
            have ef : FI s = fs := hfs
            have el : FI lo = fl := hfl
            have eh : FI hi = fh := hfh
            rw [ef] at hx2 hy2 r1 l1
            rw [el] at hx4 hy4 r2 l2
            rw [eh] at hx5 hy5 r3 l3
            subst hx2 hx3 hx4 hx5 hy2 hy3 hy4 hy5
            have o1 : (FloatKind.f64.format.order y2 y2 == some .eq) = true := by rw [ford_self _ l1]; exact decide_eq_true (by omega)
            have o2 : (FloatKind.f64.format.order y4 y4 == some .eq) = true := by rw [ford_self _ l2]; exact decide_eq_true (by omega)
            have o3 : (FloatKind.f64.format.order y5 y5 == some .eq) = true := by rw [ford_self _ l3]; exact decide_eq_true (by omega)
            have K3t := Lib.hid (fun v => total_wh ⟨(K : Int), 0, y2, 0, y4, y5, x6, x7⟩ v Ho3.out rfl (by show rg y2 ≤ _; omega))
            have K4t := Lib.hid (fun v => total_wh ⟨(K : Int), (r : Int), y2, 0, y4, y5, y6, y7⟩ v Ho4.out rfl (by show rg y2 ≤ _; omega))
            unfold mtV at K3t K4t
            clear r1 r2 r3 l1 l2 l3 ef el eh
            go_wp2_with fail
            with_reducible refine (K3t.out _).mono ?_
            rintro e w7 ⟨rfl, hb⟩
            have HW : Hid (MtCell w7 U3 ⟨(K : Int), 0, y2, 0, y4, y5, x6, x7⟩ ∧ MtCell w7 U4 ⟨(K : Int), (r : Int), y2, 0, y4, y5, y6, y7⟩ ∧ Below w.heap.size w w7) := Lib.hid ⟨HY.out.1.keep hb, HY.out.2.1.keep hb, HY.out.2.2.trans (hb.mono HY.out.2.2.size)⟩
            clear hb a0 a1 a2 a3 a4 a5 a6 a7 b0 b1 b2 b3 b4 b5 b6 b7 HY
            obtain ⟨⟨⟨a0, a1, a2, a3, a4, a5, a6, a7⟩, -⟩, ⟨⟨b0, b1, b2, b3, b4, b5, b6, b7⟩, -⟩, -⟩ := HW.out
            simp only at a0 a1 a2 a3 a4 a5 a6 a7 b0 b1 b2 b3 b4 b5 b6 b7
            go_wp2_with fail
            with_reducible refine (K4t.out _).mono ?_
            rintro e w8 ⟨rfl, hb⟩
            have HY : Hid (MtCell w8 U3 ⟨(K : Int), 0, y2, 0, y4, y5, x6, x7⟩ ∧ MtCell w8 U4 ⟨(K : Int), (r : Int), y2, 0, y4, y5, y6, y7⟩ ∧ Below w.heap.size w w8) := Lib.hid ⟨HW.out.1.keep hb, HW.out.2.1.keep hb, HW.out.2.2.trans (hb.mono HW.out.2.2.size)⟩
            clear hb a0 a1 a2 a3 a4 a5 a6 a7 b0 b1 b2 b3 b4 b5 b6 b7 HW
            obtain ⟨⟨⟨a0, a1, a2, a3, a4, a5, a6, a7⟩, -⟩, ⟨⟨b0, b1, b2, b3, b4, b5, b6, b7⟩, -⟩, -⟩ := HY.out
            simp only at a0 a1 a2 a3 a4 a5 a6 a7 b0 b1 b2 b3 b4 b5 b6 b7
            go_wp2
            go_ret
            exact ⟨rfl, HY.out.2.2⟩
end Go.Proofs.Ytecbbdbeihiioaa
