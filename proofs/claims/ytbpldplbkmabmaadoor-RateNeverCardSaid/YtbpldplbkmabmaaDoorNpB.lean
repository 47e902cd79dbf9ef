/- Contracts of package nat: sub, Left. -/
import Derived.Test.YtbpldplbkmabmaaDoorNpA
import Derived.Test.YtbpldplbkmabmaaDoorNatM
namespace Go.Proofs.YtbpldplbkmabmaaDoor
open Go.RowKit

/-- 'make([]uint64, q, c)', both variables. -/
theorem wpList_make_part {P : Program} (w : World) {ops : Array Oper} {rest : List Oper} {o : Oper} {a : Act} {Q : Exit → Act → World → Prop}
    (hg : o.guard = none) (l c : Operand) (t : TypeId) (hop : o.op = Op.makeSlice t l c)
    (base : Nat) (e : TypeId) (i : TypeInfo) (h1 : P.underlying t = some (.slice e)) (h2 : P.info? e = some i) (h3 : i.zero = some (.int .u64 0)) (h4 : i.size = 1)
    (kl kc : IntKind) (L C : Int) (q m : Nat) (hl : a.eval l = .int kl L) (hc : a.eval c = .int kc C) (hL : L = (q : Int)) (hC : C = (m : Int)) (hqm : q ≤ m) (b2 : i.bytes * m ≤ 281474976710656) (b3 : m ≤ maxLen) (b4 : base ≤ w.heap.size)
    (hK : ∀ w', w'.ownsRow base e 1 (.slice (some ⟨w.heap.size, 0, none⟩) q m) q ((List.replicate q 0).map dgt) → w.grownBy w' none → wpList P ops Q rest (a.put o.dst (.slice (some ⟨w.heap.size, 0, none⟩) q m)) w') :
    wpList P ops Q (o :: rest) a w := by
  refine wpList_plain hg fun K hK' => ?_
  have h63' : (m : Int) ≤ 9223372036854775807 := by
    have h := b3
    simp [maxLen] at h
    omega
  have hb' : (i.bytes : Int) * (m : Int) ≤ 281474976710656 := by
    have h : ((i.bytes * m : Nat) : Int) ≤ 281474976710656 := by omega
    rwa [Int.natCast_mul] at h
  have hr := run_make (P := P) w t e i (.int .u64 0) h1 h2 h3 kl kc q m (by omega) (by omega) hb' h63'
  simp only [Int.toNat_natCast] at hr
  subst hL
  subst hC
  unfold Oper.wp
  simp only [execOp, hop, hl, hc]
  simp [hr, Result.andThen]
  refine hK' _ _ (hK _ ?_ (World.grownBy_alloc w _ none))
  refine ⟨by simp, Or.inr ⟨w.heap.size, m, madeCells #[Value.int IntKind.u64 0] (m * i.size), rfl, b4, ?_, hqm, b3, ?_, ?_⟩⟩
  · show (w.heap.push _)[w.heap.size]? = _
    simp [Value.cells]
  · rw [h4]; simp [size_madeCells]
  · rw [h4, toList_madeCells_one]
    simp [List.take_replicate, dgt, Nat.min_eq_left hqm]

set_option maxHeartbeats 2000000 in
set_option maxRecDepth 100000 in
theorem psub_any (va vb : Value) (na nb : Nat) (w : World) (ha : IsN w va na) (hb : IsN w vb nb) (hle : nb ≤ na) (hsa : na < 2 ^ 1000000) :
    Calls Tryd.prog 97 #[va, vb] w (NatRes w (na - nb)) := by
  obtain ⟨la, ⟨aa, ca, rfl, hla, hca, hra⟩, hna, rfl⟩ := ha
  obtain ⟨lb, ⟨ab, cb, rfl, hlb, hcb, hrb⟩, hnb, rfl⟩ := hb
  have hka := len_le hna hsa
  have hlen : lb.length ≤ la.length := Nat.le_of_not_lt fun h => by have := len_lt hna hnb h; omega
  have Hle := Lib.hid hle
  have Hda := Lib.hid hna.1
  have Hdb := Lib.hid hnb.1
  clear hna hnb hsa hle
  have Hra := Lib.hid hra
  have Hrb := Lib.hid hrb
  clear hra hrb
  obtain ⟨i0, hi, hz0, hz1, hz2⟩ := info_parts info_u64
  have Hi := Lib.hid hi; have Hz0 := Lib.hid hz0; have Hz1 := Lib.hid hz1; have Hz2 := Lib.hid hz2
  clear hi hz0 hz1 hz2
  go_enter Tryd.func97, Tryd.ntmps97
  go_wp2_with (at_make; refine wpList_make_full _ rfl _ _ 76 rfl w.heap.size 22 i0 (.int .u64 0) 1 Tryd.underlying76 Hi.out Hz0.out Hz1.out .i64 .i64 _ _ la.length rfl rfl (by simp) (by simp) (by rw [Hz2.out]; omega) (by unfold maxLen; omega) (Nat.le_refl _) ?_)
  intro w1 hown1 hgrow1
  have Hst : Hid (MinusRel w.heap.size w.heap.size w la lb 0 0 w1) :=
    ⟨List.replicate la.length 0, by simp, zeros_digits _, fun q _ => zeros_get _ _, made_row hown1, by simp [valL, valL_zeros], (Below.refl _ _).grown hgrow1 (Nat.le_refl _) (fun k hk => by simp at hk)⟩
  clear hown1 hgrow1
  go_wp2
  go_loopw [6, 7, 8, 14] (fun y _ _ i wr => ∃ k bw : Nat, i = .int .i64 k ∧ y = .int .u64 bw ∧ bw ≤ 1 ∧ k ≤ la.length ∧ MinusRel w.heap.size w.heap.size w la lb k bw wr) (fun _ _ _ i _ => la.length - (intOf i).toNat)
  case atStart => exact ⟨0, 0, rfl, rfl, by omega, by omega, Hst.out⟩
  case round =>
    obtain ⟨k, bw, rfl, rfl, hbw, hk, cs, h1, h2, h3, h4, h5, h6⟩ := hrel
    clear Hst
    by_cases hA : k < la.length
    · obtain ⟨ba, oa, rfl, hcella⟩ := Hra.out (by omega)
      have hcA := cell_later h6 (hcella k hA)
      clear hcella
      have hxa := Hda.out _ (getD_mem hA)
      have hfC := h4.free k
      have hcC := h4.cell (q := k) (by omega)
      by_cases hB : k < lb.length
      · obtain ⟨bb, ob, rfl, hcellb⟩ := Hrb.out (by omega)
        have hcB := cell_later h6 (hcellb k hB)
        clear hcellb
        have hxb := Hdb.out _ (getD_mem hB)
        have Hstep := Lib.hid (minus_step h1 h2 h3 h4 h5 h6 hA hbw hxa hxb)
        clear h1 h2 h3 h4 h5 h6
        generalize la.getD k 0 = x at *
        generalize lb.getD k 0 = y at *
        go_wp2
        go_roundw
        case rel =>
          have h := Hstep.out
          rw [show (((x + 4294967296 - bw - y) % 4294967296 : Nat) : Int) = ((x : Int) + 4294967296 - (bw : Int) - (y : Int)) % 4294967296 by omega] at h
          exact ⟨k + 1, 1 - (x + 4294967296 - bw - y) / 4294967296, by go_num, congrArg (Value.int .u64) (by omega), by omega, by omega, h⟩
        case measure => simp [intOf]; omega
      · have e1 : lb.getD k 0 = 0 := getD_past (by omega)
        have hstep := minus_step h1 h2 h3 h4 h5 h6 hA hbw hxa (by rw [e1]; decide)
        rw [e1, Nat.sub_zero] at hstep
        have Hstep := Lib.hid hstep
        clear h1 h2 h3 h4 h5 h6 e1 hstep
        generalize la.getD k 0 = x at *
        go_wp2
        go_roundw
        case rel =>
          have h := Hstep.out
          rw [show (((x + 4294967296 - bw) % 4294967296 : Nat) : Int) = ((x : Int) + 4294967296 - (bw : Int)) % 4294967296 by omega] at h
          exact ⟨k + 1, 1 - (x + 4294967296 - bw) / 4294967296, by go_num, congrArg (Value.int .u64) (by omega), by omega, by omega, h⟩
        case measure => simp [intOf]; omega
    · obtain rfl : k = la.length := by omega
      have hdig := h4.dig
      rw [h1] at hdig
      have H5 := Lib.hid (minus_end h1 h2 hlen h5 Hle.out)
      have H2 := Lib.hid h2; have H6 := Lib.hid h6; have Hdig := Lib.hid hdig
      have hsz := h6.size
      clear h1 h2 h3 h4 h5 h6 hdig
      go_wp2_with (go_at_call 86; (with_reducible refine (pnorm_N _ cs _ Hdig.out H2.out).mono ?_); rintro e w2 ⟨v, rfl, hv, hb2⟩)
      rw [H5.out] at hv
      have Hfin := Lib.hid (H6.out.trans (hb2.mono hsz))
      clear hb2
      go_wp2
      go_ret
      exact ⟨v, rfl, hv, Hfin.out⟩

set_option maxHeartbeats 2000000 in
set_option maxRecDepth 100000 in
theorem pleft_any (va : Value) (na n : Nat) (w : World) (ha : IsN w va na) (hsa : na < 2 ^ 1000000) (hn : n ≤ 1000000) :
    Calls Tryd.prog 79 #[va, .int .i64 n] w (NatRes w (na * 2 ^ n)) := by
  obtain ⟨la, ⟨aa, ca, rfl, hla, hca, hra⟩, hna, rfl⟩ := ha
  have hka := len_le hna hsa
  have Hda := Lib.hid hna.1
  clear hna hsa
  have Hra := Lib.hid hra
  clear hra
  obtain ⟨i0, hi, hz0, hz1, hz2⟩ := info_parts info_u64
  have Hi := Lib.hid hi; have Hz0 := Lib.hid hz0; have Hz1 := Lib.hid hz1; have Hz2 := Lib.hid hz2
  clear hi hz0 hz1 hz2
  obtain ⟨q, s, hq, hs⟩ : ∃ q s : Nat, n = 32 * q + s ∧ s < 32 := ⟨n / 32, n % 32, by omega, by omega⟩
  have Hq := Lib.hid hq
  have hq1 : q ≤ 31250 := by omega
  have hq2 : ((n : Int) / 32) = (q : Int) := by omega
  have hq3 : ((n : Int) % 32) = (s : Int) := by omega
  clear hq
  go_enter Tryd.func79, Tryd.ntmps79
  go_wp2_with (at_make; refine wpList_make_part _ rfl _ _ 76 rfl w.heap.size 22 i0 Tryd.underlying76 Hi.out Hz0.out Hz1.out .i64 .i64 _ _ q (q + la.length + 1) rfl rfl (by simp) (by simp) (by omega) (by rw [Hz2.out]; omega) (by unfold maxLen; omega) (Nat.le_refl _) ?_)
  intro w1 hown1 hgrow1
  have Hst : Hid (LeftRel w.heap.size w la q s 0 (.slice (some ⟨w.heap.size, 0, none⟩) q (q + la.length + 1)) 0 w1) := by
    have ho := hown1
    refine ⟨List.replicate q 0, by simp, zeros_digits _, ?_, by simp [valL, valL_zeros], (Below.refl _ _).grown hgrow1 (Nat.le_refl _) (fun k hk => by simp at hk)⟩
    rw [List.length_replicate, List.map_replicate]
    exact ho
  clear hown1 hgrow1
  go_wp2
  go_loopw [5, 6, 8, 20] (fun c y _ i wr => ∃ k cy : Nat, i = .int .i64 k ∧ y = .int .u64 cy ∧ cy < 2 ^ s ∧ k ≤ la.length ∧ LeftRel w.heap.size w la q s k c cy wr) (fun _ _ _ i _ => la.length - (intOf i).toNat)
  case atStart => exact ⟨0, 0, rfl, rfl, Nat.pow_pos (by decide), Nat.zero_le _, Hst.out⟩
  case round =>
    obtain ⟨k, cy, rfl, rfl, hcy, hk, cs, hcl, hcd, hown, hcv, hbel⟩ := hrel
    have hsz := hbel.size
    have Hown := Lib.hid hown; have Hcd := Lib.hid hcd; have Hcv := Lib.hid hcv; have Hcl := Lib.hid hcl
    have Hob := Lib.hid (fun g hg => (hown.lt g hg).1)
    clear hown hcd hcv hcl Hst
    by_cases hA : k < la.length
    · obtain ⟨ba, oa, rfl, hcella⟩ := Hra.out (by omega)
      have hcA := cell_later hbel (hcella k hA)
      clear hcella
      have hxa := Hda.out _ (getD_mem hA)
      have Hst := fun w1 c1 o h1 h2 => Lib.hid (left_step (w1 := w1) (c1 := c1) (o := o) (x := (((la.getD k 0 * 2 ^ s + cy) % 4294967296 : Nat) : Int)) Hcl.out Hcd.out Hcv.out hbel hsz Hob.out h1 h2 rfl)
      have Hcar := Lib.hid (carry_lt (p := 2 ^ s) hxa hcy)
      have Hbel := Lib.hid hbel
      clear hbel
      generalize la.getD k 0 = x at *
      have hp31 : 2 ^ s ≤ 2147483648 := Nat.pow_le_pow_right (n := 2) (by decide) (show s ≤ 31 by omega)
      have hzb : x * 2 ^ s ≤ 4294967295 * 2147483648 := Nat.mul_le_mul (by omega) hp31
      have hzi : (x : Int) * 2 ^ s = ((x * 2 ^ s : Nat) : Int) := by rw [Int.natCast_mul, Int.natCast_pow]; rfl
      have hc32 : cy < 4294967296 := by omega
      generalize x * 2 ^ s = z at *
      have Hcy := Lib.hid hcy
      clear hp31 hcy
      go_wp2_with (at_builtin; refine wpList_append_own _ rfl _ _ 76 rfl w.heap.size 22 i0 (.int .u64 0) 1 8 Tryd.underlying76 Hi.out Hz0.out Hz1.out Hz2.out rfl (by decide) _ _ _ rfl (Hown.out.alloc _) ⟨wr.heap.size, 0, none⟩ 1 1 [.int .u64 (((z : Int) + (cy : Int)) % 4294967296)] rfl rfl one_news ?_ ?_ ?_ ?_ ?_)
      · intro u hu; simp at hu; subst hu; rfl
      · rw [Hcl.out]; unfold maxLen; omega
      · rw [Hcl.out]; omega
      · simp; omega
      · intro c1 w1 hown1 hgrow1 _
        have Hst1 := Hst w1 c1 _ (by rw [Hcl.out] at hown1; rw [show (((z + cy) % 4294967296 : Nat) : Int) = ((z : Int) + (cy : Int)) % 4294967296 by omega]; exact hown1) hgrow1
        clear hown1 hgrow1 Hst
        go_wp2
        go_roundw
        case rel => exact ⟨k + 1, (z + cy) / 4294967296, by go_num, by go_num, Hcar.out, by omega, Hst1.out⟩
        case measure => simp [intOf]; omega
    · have Hv := Lib.hid (left_end Hcl.out (Nat.le_of_not_lt hA) n Hq.out Hcv.out)
      have hc32 : cy < 4294967296 := Nat.lt_of_lt_of_le hcy (Nat.pow_le_pow_right (n := 2) (by decide) (show s ≤ 32 by omega))
      have Hdig := Lib.hid (digits_snoc Hcd.out hc32)
      have Hbel := Lib.hid hbel
      clear hcy hbel
      go_wp2_with (first | (at_builtin; refine wpList_append_own _ rfl _ _ 76 rfl w.heap.size 22 i0 (.int .u64 0) 1 8 Tryd.underlying76 Hi.out Hz0.out Hz1.out Hz2.out rfl (by decide) _ _ _ rfl (Hown.out.alloc _) ⟨wr.heap.size, 0, none⟩ 1 1 [.int .u64 (cy : Int)] rfl rfl one_news ?_ ?_ ?_ ?_ ?_))
      · intro u hu; simp at hu; subst hu; rfl
      · rw [Hcl.out]; unfold maxLen; omega
      · rw [Hcl.out]; omega
      · simp; omega
      · intro c1 w1 hown1 hgrow1 _
        have Hdg := Lib.hid (dig_of_own (own_snoc hown1 rfl cy rfl))
        have hb1 := (Hbel.out.alloc hsz _).grown hgrow1 (by simp; omega) Hob.out
        have Hb1 := Lib.hid hb1
        clear hb1 hown1 hgrow1
        go_wp2_with (go_at_call 86; (with_reducible refine (pnorm_N _ _ _ Hdg.out Hdig.out).mono ?_); rintro e w2 ⟨v, rfl, hv, hb2⟩)
        rw [Hv.out] at hv
        have Hfin := Lib.hid (Hb1.out.trans (hb2.mono Hb1.out.size))
        clear hb2
        go_wp2
        go_ret
        exact ⟨v, rfl, hv, Hfin.out⟩

end Go.Proofs.YtbpldplbkmabmaaDoor
