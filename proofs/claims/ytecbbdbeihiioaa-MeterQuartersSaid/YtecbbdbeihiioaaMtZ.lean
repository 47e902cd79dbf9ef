/- MeterBad's walk. -/
import Derived.Test.YtecbbdbeihiioaaMtY
import Derived.Test.YtecbbdbeihiioaaMtX
namespace Go.Proofs.Ytecbbdbeihiioaa
open Go.RowKit
set_option linter.unusedVariables false

attribute [local go_sem] run_store_float'

theorem nan_fn (w : World) : Calls Try.prog 23 #[] w fun e w' => e = .returned (.float .f64 9221120237041090561) ∧ w = w' := by
  have h6 := ext_from 9221120237041090561 w
  rw [show (9221120237041090561 : Int).toNat = 9221120237041090561 from rfl] at h6
  go_enter Try.func23, Try.ntmps23
  go_wp2
  go_ret
  exact ⟨rfl, rfl⟩

theorem U64At.take {w : World} {a : Option Addr} {c n : Nat} {L : List Nat} (h : U64At w (.slice a L.length c) L) (hn : n ≤ L.length) : U64At w (.slice a n c) (L.take n) := by
  obtain ⟨h0, a', c', he, hl, hc, hr⟩ := h
  simp only [Value.slice.injEq] at he
  obtain ⟨rfl, -, rfl⟩ := he
  have e : (L.take n).length = n := by simp; omega
  refine ⟨fun x hx => h0 x (List.mem_of_mem_take hx), a, c, by rw [e], by omega, hc, fun hp => ?_⟩
  obtain ⟨b, off, rfl, hcell⟩ := hr (by omega)
  refine ⟨b, off, rfl, fun j hj => ?_⟩
  rw [hcell j (by omega), List.getD_eq_getElem?_getD, List.getD_eq_getElem?_getD, List.getElem?_take_of_lt (by omega)]
theorem IntsAt.take {k : IntKind} {w : World} {a : Option Addr} {c n : Nat} {L : List Int} (h : IntsAt k w (.slice a L.length c) L) (hn : n ≤ L.length) : IntsAt k w (.slice a n c) (L.take n) := by
  obtain ⟨h0, a', c', he, hl, hc, hr⟩ := h
  simp only [Value.slice.injEq] at he
  obtain ⟨rfl, -, rfl⟩ := he
  have e : (L.take n).length = n := by simp; omega
  refine ⟨fun x hx => h0 x (List.mem_of_mem_take hx), a, c, by rw [e], by omega, hc, fun hp => ?_⟩
  obtain ⟨b, off, rfl, hcell⟩ := hr (by omega)
  refine ⟨b, off, rfl, fun j hj => ?_⟩
  rw [hcell j (by omega), List.getD_eq_getElem?_getD, List.getD_eq_getElem?_getD, List.getElem?_take_of_lt (by omega)]
theorem U64At.cell {w w' : World} {a : Option Addr} {n c k : Nat} {L : List Nat} (h : U64At w (.slice a n c) L) (hk : k < L.length) (hb : Below w.heap.size w w') : ∃ b off, a = some ⟨b, off, none⟩ ∧ w'.cell? ⟨b, off + k, none⟩ = some (.int .u64 (L.getD k 0 : Nat)) := by
  obtain ⟨-, a', c', he, -, -, hr⟩ := h
  simp only [Value.slice.injEq] at he
  obtain ⟨rfl, -, rfl⟩ := he
  obtain ⟨b, off, rfl, hcell⟩ := hr (by omega)
  exact ⟨b, off, rfl, cell_later hb (hcell k hk)⟩
theorem IntsAt.cell {q : IntKind} {w w' : World} {a : Option Addr} {n c k : Nat} {L : List Int} (h : IntsAt q w (.slice a n c) L) (hk : k < L.length) (hb : Below w.heap.size w w') : ∃ b off, a = some ⟨b, off, none⟩ ∧ w'.cell? ⟨b, off + k, none⟩ = some (.int q (L.getD k 0)) := by
  obtain ⟨-, a', c', he, -, -, hr⟩ := h
  simp only [Value.slice.injEq] at he
  obtain ⟨rfl, -, rfl⟩ := he
  obtain ⟨b, off, rfl, hcell⟩ := hr (by omega)
  exact ⟨b, off, rfl, cell_later hb (hcell k hk)⟩
theorem u8_of_wf {x : Int} (h : (Lit.int .u8 x).wf = true) : 0 ≤ x ∧ x ≤ 255 := by
  have e1 : IntKind.u8.min = 0 := by decide
  have e2 : IntKind.u8.max = 255 := by decide
  simp only [Lit.wf, e1, e2, Bool.and_eq_true, decide_eq_true_eq] at h
  omega

/-- Two rows of one's own, apart. -/
def Two (w : World) (va : Value) (A : List Nat) (vb : Value) (B : List Nat) (wr : World) : Prop := OwnF wr w.heap.size va A ∧ OwnF wr w.heap.size vb B ∧ Sep va vb ∧ Below w.heap.size w wr
theorem Two.left {w wr w2 : World} {va vb : Value} {A B : List Nat} {o : Obj} {x g cap n : Nat} {xs : List Value} (h : Two w va A vb B wr) (hn : n = A.length) (ho : w2.ownsRow w.heap.size 26 1 (.slice (some ⟨g, 0, none⟩) (n + 1) cap) (n + 1) (xs ++ [.float .f64 x])) (hxs : xs = flatF A) (hg : (wr.alloc o).grownBy w2 va.ownBlock) (hl : va.ownBlock = some g ∨ g = wr.heap.size + 1) : Two w (.slice (some ⟨g, 0, none⟩) (n + 1) cap) (A ++ [x]) vb B w2 := by
  subst hn hxs
  refine ⟨?_, own_stay h.2.1 h.2.2.1 hg, sep_stay h.2.1 h.2.2.1 hl, (h.2.2.2.alloc h.2.2.2.size _).grown hg (by have := h.2.2.2.size; simp; omega) (fun k hk => (h.1.lt k hk).1)⟩
  show w2.ownsRow _ _ _ _ (A ++ [x]).length _
  rw [flatF_append, show (A ++ [x]).length = A.length + 1 by simp]
  exact ho
theorem Two.right {w wr w2 : World} {va vb : Value} {A B : List Nat} {o : Obj} {x g cap n : Nat} {xs : List Value} (h : Two w va A vb B wr) (hn : n = B.length) (ho : w2.ownsRow w.heap.size 26 1 (.slice (some ⟨g, 0, none⟩) (n + 1) cap) (n + 1) (xs ++ [.float .f64 x])) (hxs : xs = flatF B) (hg : (wr.alloc o).grownBy w2 vb.ownBlock) (hl : vb.ownBlock = some g ∨ g = wr.heap.size + 1) : Two w va A (.slice (some ⟨g, 0, none⟩) (n + 1) cap) (B ++ [x]) w2 := by
  have h' : Two w vb B va A wr := ⟨h.2.1, h.1, h.2.2.1.symm, h.2.2.2⟩
  have := h'.left hn ho hxs hg hl
  exact ⟨this.2.1, this.1, this.2.2.1.symm, this.2.2.2⟩

def BdRel (w : World) (M : List Nat) (Q : List Int) (k : Nat) (v5 v6 : Value) (wr : World) : Prop := Two w v5 (M.take k) v6 (moreL M Q k) wr

set_option maxRecDepth 100000 in
set_option maxHeartbeats 16000000 in
theorem bads_core (v u : Value) (L : List Nat) (P : List Int) (w : World) (h : U64At w v L) (hp : IntsAt .u8 w u P)
    (kw : ∀ v, Calls Try.prog 11 #[] v fun e w' => e = .returned (.bool true) ∧ Below v.heap.size v w') :
    Calls Try.prog 7 #[v, u] w fun e w' => e = .returned (.bool true) ∧ Below w.heap.size w w' := by
  have Kw := Lib.hid kw
  clear kw
  have Ko := Lib.hid (fun b v => of_any b v)
  have Kn := Lib.hid (fun v => nan_fn v)
  have Kc := Lib.hid (fun a b v (ha : a.Ok) (hb : b.Ok) (h : mtSim a b) => same_mt a b v ha hb h)
  obtain ⟨i0, hi, hz0, hz1, hz2⟩ := info_fl_parts info_fl
  have Hi := Lib.hid hi; have Hz0 := Lib.hid hz0; have Hz1 := Lib.hid hz1; have Hz2 := Lib.hid hz2
  clear hi hz0 hz1 hz2
  have H0 := h; have P0 := hp
  obtain ⟨-, a, c, rfl, hl, hc, -⟩ := h
  obtain ⟨-, b, d, rfl, hl', hd, -⟩ := hp
  obtain ⟨n, hn⟩ : ∃ n, n = min L.length 300 := ⟨_, rfl⟩
  obtain ⟨n', hn'⟩ : ∃ n, n = min P.length 300 := ⟨_, rfl⟩
  have hu := H0.take (show n ≤ L.length by omega)
  have hq := P0.take (show n' ≤ P.length by omega)
  have hMl : (L.take n).length = n := by simp; omega
  have hQl : (P.take n').length = n' := by simp; omega
  have hm1 : min (L.length : Int) 300 = (n : Int) := by omega
  have hm2 : min (P.length : Int) 300 = (n' : Int) := by omega
  have hn300 : n ≤ 300 := by omega
  have hnc : (n : Int) ≤ (c : Int) := by omega
  have hnd : (n' : Int) ≤ (d : Int) := by omega
  have hn0 : (0 : Int) ≤ (n : Int) := by omega
  have hn0' : (0 : Int) ≤ (n' : Int) := by omega
  have hnn' : n' ≤ 300 := by omega
  clear H0 P0
  generalize L.take n = M at *
  generalize P.take n' = Q at *
  unfold maxLen at hc hd
  have Hu := Lib.hid hu; have Hq := Lib.hid hq; have HMl := Lib.hid hMl; have HQl := Lib.hid hQl
  have H0 := Lib.hid hu.1
  clear hu hq hMl hQl hn hn'
  go_enter Try.func7, Try.ntmps7
  go_wp2_with fail
  with_reducible refine (Kw.out _).mono ?_
  rintro e w1 ⟨rfl, hb⟩
  have Hb1 := Lib.hid hb
  clear hb
  go_wp2_with fail
  go_quiet (fail)
  have Hw1 := Lib.hid (below_drewN Hb1.out nq)
  have Huw := Lib.hid (Hu.out.later Hw1.out)
  have Hqw := Lib.hid (Hq.out.later Hw1.out)
  go_upto_region 4 with (fail)
  refine wp_name (fun x => U64At x (.slice a n c) M ∧ IntsAt .u8 x (.slice b n' d) Q ∧ Below w.heap.size w x) ⟨Huw.out, Hqw.out, Hw1.out⟩ ?_
  clear Hu Hq Hb1 Hw1 Huw Hqw
  rintro X ⟨hu, hq, hx⟩
  have Hu := Lib.hid hu; have Hq := Lib.hid hq; have HX := Lib.hid hx
  clear hu hq hx
  have hMl := HMl.out
  have hQl := HQl.out
  subst hMl hQl
  go_wp2_with fail
  go_loopw [5, 6, 7, 8, 28, 47] (fun v5 v6 _ _ i _ wr => ∃ k : Nat, i = .int .i64 k ∧ k ≤ M.length ∧ BdRel X M Q k v5 v6 wr) (fun _ _ _ _ i _ _ => M.length - (intOf i).toNat)
  case atStart => exact ⟨0, rfl, Nat.zero_le _, World.ownsRow_nil _ _ _ _, World.ownsRow_nil _ _ _ _, sep_nil _, Below.refl _ _⟩
  case round =>
    obtain ⟨k, rfl, hk, htwo⟩ := hrel
    have Htwo := Lib.hid htwo
    clear htwo
    have hsz := Htwo.out.2.2.2.size
    have Hml := Lib.hid (moreL_len M Q k)
    have Hkl := Lib.hid (show (M.take k).length = k by simp; omega)
    by_cases hA : k < M.length
    · obtain ⟨ba, off, rfl, hc0⟩ := Hu.out.cell hA Htwo.out.2.2.2
      have hlt := World.block_lt_of_cell? _ _ hc0
      have Hsn := Lib.hid (take_snocF hA)
      have Hmo : Hid (moreL M Q (k + 1) = moreL M Q k ++ List.replicate (nansAt Q k) NANW ++ [M.getD k 0]) := Lib.hid rfl
      generalize hxq : M.getD k 0 = x at *
      clear hxq
      go_wp2_with (first | (go_at_call 16; (with_reducible refine (Ko.out _ _).mono ?_); rintro e w' ⟨rfl, rfl⟩) | (at_builtin; refine wpList_append_lies _ rfl _ _ 24 rfl X.heap.size 26 i0 (.float .f64 0) 1 8 Try.underlying24 Hi.out Hz0.out Hz1.out Hz2.out rfl (by decide) _ _ _ rfl (Htwo.out.1.alloc _) ⟨wr.heap.size, 0, none⟩ 1 1 [.float .f64 x] rfl rfl one_new ?_ (by decide) ?_ ?_ ?_ _ rfl ?_))
      · intro u hu; simp at hu; subst hu; rfl
      · have := Hkl.out; unfold maxLen; omega
      · have := Hkl.out; omega
      · simp; omega
      intro g cap w2 hown hgrow hlies _
      have hk1 := Hkl.out
      have HT2 : Hid (Two X (.slice (some ⟨g, 0, none⟩) (k + 1) cap) (M.take (k + 1)) u6 (moreL M Q k) w2) := Lib.hid (by rw [Hsn.out]; exact Htwo.out.left hk1.symm hown rfl hgrow hlies)
      clear hown hgrow hlies hk1 hc0 hlt Htwo hsz
      by_cases hB : k < Q.length
      · obtain ⟨bb, off2, rfl, hc1⟩ := Hq.out.cell hB HT2.out.2.2.2
        have hlt1 := World.block_lt_of_cell? _ _ hc1
        have hpm : Q.getD k 0 ∈ Q := by rw [List.getD_eq_getElem?_getD, List.getElem?_eq_getElem hB]; exact List.getElem_mem hB
        have hp8 := u8_of_wf (Hq.out.1 _ hpm)
        have hns : nansAt Q k = (Q.getD k 0 % 3).toNat := by unfold nansAt; rw [if_pos hB]
        generalize Q.getD k 0 = p at *
        obtain ⟨hp0, hp1⟩ := hp8
        obtain ⟨m, hm⟩ : ∃ m : Nat, p % 3 = (m : Int) := ⟨(p % 3).toNat, by omega⟩
        have hm3 : m ≤ 2 := by omega
        have Hns : Hid (nansAt Q k = m) := Lib.hid (by rw [hns, hm]; rfl)
        clear hpm hns
        go_wp2_with fail
        go_loopw [6, 47] (fun v6 j wy => ∃ r : Nat, j = .int .u8 r ∧ r ≤ m ∧ Two X (.slice (some ⟨g, 0, none⟩) (k + 1) cap) (M.take (k + 1)) v6 (moreL M Q k ++ List.replicate r NANW) wy) (fun _ j _ => m - (intOf j).toNat)
        case atStart => exact ⟨0, rfl, Nat.zero_le _, by simpa using HT2.out⟩
        case round =>
          obtain ⟨r, rfl, hr, ht3⟩ := hrel
          have HT3 := Lib.hid ht3
          clear ht3 hc1 hlt1 HT2
          have hsz := HT3.out.2.2.2.size
          by_cases hC : r < m
          · skip
            obtain ⟨q, hq⟩ : ∃ q, q = (moreL M Q k ++ List.replicate r NANW).length := ⟨_, rfl⟩
            have Hown6 := Lib.hid (show wr.ownsRow X.heap.size 26 1 u6 q (flatF (moreL M Q k ++ List.replicate r NANW)) by rw [hq]; exact HT3.out.2.1)
            have Hlq := Lib.hid hq
            have hq9 : q ≤ 905 := by have := Hml.out; rw [hq]; simp; omega
            clear hq
            go_wp2_with (first | (go_at_call 23; (with_reducible refine (Kn.out _).mono ?_); rintro e w' ⟨rfl, rfl⟩) | (at_builtin; refine wpList_append_lies _ rfl _ _ 24 rfl X.heap.size 26 i0 (.float .f64 0) 1 8 Try.underlying24 Hi.out Hz0.out Hz1.out Hz2.out rfl (by decide) _ q _ rfl (Hown6.out.alloc _) ⟨wr.heap.size, 0, none⟩ 1 1 [.float .f64 9221120237041090561] rfl rfl one_new ?_ (by decide) ?_ ?_ ?_ _ rfl ?_))
            · intro u hu; simp at hu; subst hu; rfl
            · unfold maxLen; omega
            · omega
            · simp; omega
            intro g' cap' w3 ho hg hl3 _
            have HT4 : Hid (Two X (.slice (some ⟨g, 0, none⟩) (k + 1) cap) (M.take (k + 1)) (.slice (some ⟨g', 0, none⟩) (q + 1) cap') (moreL M Q k ++ List.replicate (r + 1) NANW) w3) := Lib.hid (by rw [List.replicate_succ', ← List.append_assoc]; exact HT3.out.right Hlq.out ho rfl hg hl3)
            clear ho hg hl3 HT3 Hown6
            go_wp2
            go_roundw
            case rel => exact ⟨r + 1, by go_num, by omega, HT4.out⟩
            case measure => simp [intOf]; omega
          · obtain rfl : r = m := by omega
            obtain ⟨q, hq⟩ : ∃ q, q = (moreL M Q k ++ List.replicate r NANW).length := ⟨_, rfl⟩
            have Hown6 := Lib.hid (show wr.ownsRow X.heap.size 26 1 u6 q (flatF (moreL M Q k ++ List.replicate r NANW)) by rw [hq]; exact HT3.out.2.1)
            have Hlq := Lib.hid hq
            have hq9 : q ≤ 905 := by have := Hml.out; rw [hq]; simp; omega
            clear hq
            go_wp2_with (first | (go_at_call 16; (with_reducible refine (Ko.out _ _).mono ?_); rintro e w' ⟨rfl, rfl⟩) | (at_builtin; refine wpList_append_lies _ rfl _ _ 24 rfl X.heap.size 26 i0 (.float .f64 0) 1 8 Try.underlying24 Hi.out Hz0.out Hz1.out Hz2.out rfl (by decide) _ q _ rfl (Hown6.out.alloc _) ⟨wr.heap.size, 0, none⟩ 1 1 [.float .f64 x] rfl rfl one_new ?_ (by decide) ?_ ?_ ?_ _ rfl ?_))
            · intro u hu; simp at hu; subst hu; rfl
            · unfold maxLen; omega
            · omega
            · simp; omega
            intro g' cap' w3 ho hg hl3 _
            have HT4 : Hid (BdRel X M Q (k + 1) (.slice (some ⟨g, 0, none⟩) (k + 1) cap) (.slice (some ⟨g', 0, none⟩) (q + 1) cap') w3) := Lib.hid (by unfold BdRel; rw [Hmo.out, Hns.out]; exact HT3.out.right Hlq.out ho rfl hg hl3)
            clear ho hg hl3 HT3 Hown6
            go_wp2
            go_roundw
            case rel => exact ⟨k + 1, by go_num, by omega, HT4.out⟩
            case measure => simp [intOf]; omega
      · have hns : nansAt Q k = 0 := by unfold nansAt; rw [if_neg hB]
        have Hns := Lib.hid hns
        clear hns
        have hsz := HT2.out.2.2.2.size
        obtain ⟨q, hq⟩ : ∃ q, q = (moreL M Q k).length := ⟨_, rfl⟩
        have Hown6 := Lib.hid (show w2.ownsRow X.heap.size 26 1 u6 q (flatF (moreL M Q k)) by rw [hq]; exact HT2.out.2.1)
        have Hlq := Lib.hid hq
        have hq9 : q ≤ 905 := by have := Hml.out; omega
        clear hq
        go_wp2_with (first | (go_at_call 16; (with_reducible refine (Ko.out _ _).mono ?_); rintro e w' ⟨rfl, rfl⟩) | (at_builtin; refine wpList_append_lies _ rfl _ _ 24 rfl X.heap.size 26 i0 (.float .f64 0) 1 8 Try.underlying24 Hi.out Hz0.out Hz1.out Hz2.out rfl (by decide) _ q _ rfl (Hown6.out.alloc _) ⟨w2.heap.size, 0, none⟩ 1 1 [.float .f64 x] rfl rfl one_new ?_ (by decide) ?_ ?_ ?_ _ rfl ?_))
        · intro u hu; simp at hu; subst hu; rfl
        · unfold maxLen; omega
        · omega
        · simp; omega
        intro g' cap' w3 ho hg hl3 _
        have HT4 : Hid (BdRel X M Q (k + 1) (.slice (some ⟨g, 0, none⟩) (k + 1) cap) (.slice (some ⟨g', 0, none⟩) (q + 1) cap') w3) := Lib.hid (by unfold BdRel; rw [Hmo.out, Hns.out, List.replicate_zero, List.append_nil]; exact HT2.out.right Hlq.out ho rfl hg hl3)
        clear ho hg hl3 HT2 Hown6
        go_wp2
        go_roundw
        case rel => exact ⟨k + 1, by go_num, by omega, HT4.out⟩
        case measure => simp [intOf]; omega
    · obtain rfl : k = M.length := by omega
      obtain ⟨b0, b1, hfold⟩ := more_fold M Q M.length (Nat.le_refl _) hn300
      rw [List.take_length] at b0 b1 hfold
      have h5 := Htwo.out.1
      rw [List.take_length] at h5
      have Hf5 := Lib.hid (fl_of_own h5 H0.out)
      have Hf6 := Lib.hid (fl_of_own Htwo.out.2.1 (moreL_words H0.out Q M.length))
      obtain ⟨a5, c5, rfl, _, hc5, -⟩ := own_shapeF h5
      obtain ⟨a6, c6, rfl, _, hc6, -⟩ := own_shapeF Htwo.out.2.1
      obtain ⟨hml1, hml2⟩ := Hml.out
      have Hbel := Lib.hid (HX.out.trans (Htwo.out.2.2.2.mono HX.out.size))
      clear Hml Htwo h5 Hu Hq HX
      generalize moreL M Q M.length = R at *
      have Ks := Lib.hid (fun v w h => mof_some v M w h (by omega))
      have Kt := Lib.hid (fun v w h => mof_some v R w h (by omega))
      have HB0 := Lib.hid b0; have HB1 := Lib.hid b1; have Hfold := Lib.hid hfold
      clear b0 b1 hfold
      unfold maxLen at hc5 hc6
      go_wp2_with fail
      refine (Ks.out _ _ Hf5.out).mono ?_
      rintro e w3 ⟨m1, rfl, hs1, ho1, hb3⟩
      have Hb3 := Lib.hid (Hbel.out.trans (hb3.mono Hbel.out.size))
      have Hf7 := Lib.hid ((Hf6.out.later hb3).later (below_all w3 (mtObj m1 28)))
      have Hs1 := Lib.hid hs1; have Ho1 := Lib.hid ho1
      clear hs1 ho1 hb3 Hf5 Hf6
      unfold mtV
      go_upto_region 18 with (fail)
      refine wp_name (fun u => MtCell u w3.heap.size m1 ∧ FlAt u (.slice a6 R.length c6) R ∧ Below w.heap.size w u) ⟨mtCell_alloc w3 m1 _, Hf7.out, Hb3.out.alloc Hb3.out.size _⟩ ?_
      rintro Y ⟨hy1, hy2, hy3⟩
      have Hy1 := Lib.hid hy1; have Hy2 := Lib.hid hy2; have Hy3 := Lib.hid hy3
      clear hy1 hy2 hy3 Hf7 Hb3 Hbel
      generalize w3.heap.size = U at *
      go_wp2_with fail
      refine (Kt.out _ _ Hy2.out).mono ?_
      rintro e w4 ⟨m2, rfl, hs2, ho2, hb4⟩
      have HV : Hid (MgV w U w4.heap.size m1 m2 (w4.alloc (mtObj m2 28))) := Lib.hid ⟨(Hy1.out.keep hb4).keep (below_all _ _), mtCell_alloc w4 m2 _, (Hy3.out.trans (hb4.mono Hy3.out.size)).alloc (Hy3.out.trans (hb4.mono Hy3.out.size)).size _⟩
      have Hne := Lib.hid (show w4.heap.size ≠ U by have := (Hy1.out.keep hb4).lt; omega)
      have Hge := Lib.hid (show w.heap.size ≤ w4.heap.size by have := (Hy3.out.trans (hb4.mono Hy3.out.size)).size; omega)
      have Hs2 := Lib.hid hs2; have Ho2 := Lib.hid ho2
      have hd1 : m2.Bad = m1.Bad + ((R.length : Int) - M.length) := by
        have e1 := Hs1.out.2.1
        have e2 := hs2.2.1
        rw [e2, Hfold.out, e1]
        rfl
      have hd2 : 0 ≤ m1.Bad := by rw [Hs1.out.2.1]; exact HB0.out
      have hd3 : m1.Bad ≤ M.length := by rw [Hs1.out.2.1]; exact HB1.out
      clear hs2 ho2 hb4 Hy1 Hy2 Hy3
      unfold mtV
      obtain ⟨D, hD⟩ : ∃ D, D = (R.length : Int) - M.length := ⟨_, rfl⟩
      rw [← hD] at hd1 ⊢
      have hD0 : 0 ≤ D := by omega
      have hD1 : D ≤ 600 := by omega
      have hd3' : m1.Bad ≤ 300 := by omega
      have Hsim : Hid (mtSim { m2 with Bad := m1.Bad } m1) := Lib.hid ((by
        have e := Hs2.out
        rw [Hfold.out] at e
        have e1 := Hs1.out
        exact ⟨e.1.trans e1.1.symm, rfl, e.2.2.1.trans e1.2.2.1.symm, e.2.2.2.1.trans e1.2.2.2.1.symm, e.2.2.2.2.1.trans e1.2.2.2.2.1.symm, e.2.2.2.2.2.1.trans e1.2.2.2.2.2.1.symm, e.2.2.2.2.2.2.1.trans e1.2.2.2.2.2.2.1.symm, e.2.2.2.2.2.2.2.trans e1.2.2.2.2.2.2.2.symm⟩))
      clear hD hd3 Hfold Hs1 Hs2 HB0 HB1
      obtain ⟨N1, B1, x2, x3, x4, x5, x6, x7⟩ := m1
      obtain ⟨N2, B2, y2, y3, y4, y5, y6, y7⟩ := m2
      simp only at hd1 hd2 hd3' Hsim
      subst hd1
      go_upto_region 19 with (fail)
      refine wp_name _ HV.out ?_
      intro Z hz
      have HZ := Lib.hid hz
      obtain ⟨⟨⟨a0, a1, a2, a3, a4, a5', a6', a7⟩, -⟩, ⟨⟨b0, b1, b2, b3, b4, b5, b6, b7⟩, f0, f1, f2, f3, f4, f5, f6, f7⟩, -⟩ := hz
      simp only at a0 a1 a2 a3 a4 a5' a6' a7 b0 b1 b2 b3 b4 b5 b6 b7
      clear HV
      generalize w4.heap.size = V at *
      go_upto_region 22 with (fail)
      refine wp_name (MgV w U V ⟨N1, B1, x2, x3, x4, x5, x6, x7⟩ ⟨N2, B1, y2, y3, y4, y5, y6, y7⟩) ⟨HZ.out.1.other Hne.out, HZ.out.2.1.set1 B1, HZ.out.2.2.setCell Hge.out _⟩ ?_
      clear HZ a0 a1 a2 a3 a4 a5' a6' a7 b0 b1 b2 b3 b4 b5 b6 b7 f0 f1 f2 f3 f4 f5 f6 f7
      intro Z hz
      have HZ := Lib.hid hz
      obtain ⟨⟨⟨a0, a1, a2, a3, a4, a5', a6', a7⟩, -⟩, ⟨⟨b0, b1, b2, b3, b4, b5, b6, b7⟩, -⟩, -⟩ := hz
      simp only at a0 a1 a2 a3 a4 a5' a6' a7 b0 b1 b2 b3 b4 b5 b6 b7
      go_wp2_with fail
      refine (Kc.out ⟨N2, B1, y2, y3, y4, y5, y6, y7⟩ ⟨N1, B1, x2, x3, x4, x5, x6, x7⟩ _ Ho2.out Ho1.out Hsim.out).mono ?_
      rintro e w9 ⟨rfl, hb9⟩
      have Hb9 := Lib.hid (HZ.out.2.2.trans (hb9.mono HZ.out.2.2.size))
      clear HZ hb9 a0 a1 a2 a3 a4 a5' a6' a7 b0 b1 b2 b3 b4 b5 b6 b7
      go_wp2
      go_ret
      exact ⟨rfl, Hb9.out⟩
end Go.Proofs.Ytecbbdbeihiioaa
