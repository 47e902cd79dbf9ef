/- Contract of spigotref08.sorted. -/
import Derived.Test.YtecbbdbeihiioaaMtQa
import Derived.Test.YtecbbdbeihiioaaMtZ
import Derived.BigRegion
import Derived.Deep.DeepCutAuto
namespace Go.Proofs.Ytecbbdbeihiioaa
open Go.RowKit
set_option linter.unusedVariables false

attribute [local go_sem] run_store_float'

def SortRes (w : World) (L : List Nat) (e : Ending) (w' : World) : Prop := ∃ v L', e = .returned v ∧ OwnF w' w.heap.size v L' ∧ L'.Perm L ∧ Sorted L' ∧ Below w.heap.size w w'
def SoRel (w : World) (L : List Nat) (k : Nat) (v : Value) (wr : World) : Prop := ∃ R : List Nat, OwnF wr w.heap.size v R ∧ R.Perm (L.take k) ∧ Sorted R ∧ Below w.heap.size w wr
def SpRel (w : World) (R1 : List Nat) (g q cap j : Nat) (wr : World) : Prop := ∃ R : List Nat, R.length = q + 1 ∧ wr.ownsRow w.heap.size 26 1 (.slice (some ⟨g, 0, none⟩) (q + 1) cap) (q + 1) (flatF R) ∧ R.Perm R1 ∧ Ins R j ∧ Below w.heap.size w wr

theorem SoRel.drewN {w : World} {L : List Nat} {k : Nat} {v : Value} {wr : World} (h : SoRel w L k v wr) (n : Nat) : SoRel w L k v (wr.drewN n) := by
  obtain ⟨R, h1, h2, h3, h4⟩ := h
  exact ⟨R, h1, h2, h3, below_drewN h4 n⟩
theorem SpRel.drewN {w : World} {R1 : List Nat} {g q cap j : Nat} {wr : World} (h : SpRel w R1 g q cap j wr) (n : Nat) : SpRel w R1 g q cap j (wr.drewN n) := by
  obtain ⟨R, h1, h2, h3, h4, h5⟩ := h
  exact ⟨R, h1, h2, h3, h4, below_drewN h5 n⟩
theorem flatF_set (R : List Nat) (j x : Nat) : (flatF R).set j (.float .f64 x) = flatF (R.set j x) := by unfold flatF; rw [List.map_set]

theorem sp_swap {w wr : World} {R R1 : List Nat} {g q cap i : Nat} (hl : R.length = q + 1) (ho : wr.ownsRow w.heap.size 26 1 (.slice (some ⟨g, 0, none⟩) (q + 1) cap) (q + 1) (flatF R)) (hp : R.Perm R1) (hi : Ins R (i + 1)) (hj : i + 1 < q + 1) (hc : rk (R.getD (i + 1) 0) < rk (R.getD i 0)) (hb : Below w.heap.size w wr) :
    SpRel w R1 g q cap i ((wr.setCell ⟨g, i, none⟩ (.float .f64 (R.getD (i + 1) 0))).setCell ⟨g, i + 1, none⟩ (.float .f64 (R.getD i 0))) := by
  have hg : w.heap.size ≤ g := (ho.lt g rfl).1
  have h1 := (ho.stored i (.float .f64 (R.getD (i + 1) 0))).1
  have h2 := (h1.stored (i + 1) (.float .f64 (R.getD i 0))).1
  rw [flatF_set, flatF_set] at h2
  have e : (R.set i (R.getD (i + 1) 0)).set (i + 1) (R.getD i 0) = swapL R (i + 1) := rfl
  rw [e] at h2
  exact ⟨swapL R (i + 1), by rw [swapL_len, hl], h2, (swapL_perm (by omega)).trans hp, ins_step hi (by omega) (by omega) hc, (hb.setCell hg _).setCell hg _⟩

set_option maxRecDepth 100000 in
set_option maxHeartbeats 16000000 in
theorem sorted_any (v : Value) (L : List Nat) (w : World) (h : FlAt w v L) (hl4 : L.length ≤ 4096) :
    Calls Try.prog 45 #[v] w (SortRes w L) := by
  obtain ⟨h0, a, c, rfl, hl, hc, hr⟩ := h
  unfold maxLen at hc
  have Hr := Lib.hid hr
  clear hr h0
  have Ko := Lib.hid (fun x y v => rorder_any x y v)
  obtain ⟨i0, hi, hz0, hz1, hz2⟩ := info_fl_parts info_fl
  have Hi := Lib.hid hi; have Hz0 := Lib.hid hz0; have Hz1 := Lib.hid hz1; have Hz2 := Lib.hid hz2
  clear hi hz0 hz1 hz2
  go_enter Try.func45, Try.ntmps45
  go_wp2
  go_loopw [3, 5, 6, 9] (fun v3 _ _ i wr => ∃ k : Nat, i = .int .i64 k ∧ k ≤ L.length ∧ SoRel w L k v3 wr) (fun _ _ _ i _ => L.length - (intOf i).toNat)
  case atStart => exact ⟨0, rfl, Nat.zero_le _, [], World.ownsRow_nil _ _ _ _, List.Perm.refl _, fun i j hij hj => by simp at hj, Below.refl _ _⟩
  case round =>
    obtain ⟨k, rfl, hk, R, hown, hperm, hsort, hbel⟩ := hrel
    have hsz := hbel.size
    have Hown := Lib.hid hown; have Hperm := Lib.hid hperm; have Hsort := Lib.hid hsort; have Hbel := Lib.hid hbel
    have Hob := Lib.hid (fun g hg => (hown.lt g hg).1)
    clear hown hperm hsort hbel
    by_cases hA : k < L.length
    · obtain ⟨b, off, rfl, hcell⟩ := Hr.out (by omega)
      have hc0 := cell_later Hbel.out (hcell k hA)
      have hlt := World.block_lt_of_cell? _ _ hc0
      clear hcell
      have Hsn := Lib.hid (take_snocF hA)
      generalize L.getD k 0 = x at *
      obtain ⟨q, hq⟩ : ∃ q, q = R.length := ⟨_, rfl⟩
      have Hown6 := Lib.hid (show wr.ownsRow w.heap.size 26 1 u3 q (flatF R) by rw [hq]; exact Hown.out)
      have hqk : q = k := by rw [hq, Hperm.out.length_eq]; simp; omega
      have Hlq := Lib.hid hq
      clear hq
      subst hqk
      go_wp2_with (at_builtin; refine wpList_append_lies _ rfl _ _ 24 rfl w.heap.size 26 i0 (.float .f64 0) 1 8 Try.underlying24 Hi.out Hz0.out Hz1.out Hz2.out rfl (by decide) _ q _ rfl (Hown6.out.alloc _) ⟨wr.heap.size, 0, none⟩ 1 1 [.float .f64 x] rfl rfl one_new ?_ (by decide) ?_ ?_ ?_ _ rfl ?_)
      · first | rfl | (intro u hu; simp at hu; subst hu; rfl)
      · unfold maxLen; omega
      · omega
      · first | omega | (simp; omega)
      intro g cap w2 ho hg hlies _
      have Hst : Hid (SpRel w (R ++ [x]) g q cap q w2) := Lib.hid ⟨R ++ [x], by rw [Hlq.out]; simp, by rw [flatF_append]; exact ho, List.Perm.refl _, by rw [Hlq.out]; exact ins_start Hsort.out x, (Hbel.out.alloc hsz _).grown hg (by simp; omega) Hob.out⟩
      have Hpl : Hid ((R ++ [x]).Perm (L.take (q + 1))) := Lib.hid (by rw [Hsn.out]; exact Hperm.out.append_right _)
      clear ho hg hlies hc0 hlt Hown6 Hown Hob Hsort Hperm Hbel hsz
      go_wp2_with fail
      go_loopw [6] (fun i wy => ∃ j : Nat, i = .int .i64 j ∧ j ≤ q ∧ SpRel w (R ++ [x]) g q cap j wy) (fun i _ => (intOf i).toNat)
      case atStart => exact ⟨q, by first | rfl | go_num, Nat.le_refl _, Hst.out⟩
      case round =>
        obtain ⟨j, rfl, hj, R', hlen, hown', hperm', hins, hbel'⟩ := hrel
        have Hlen := Lib.hid hlen; have Hown' := Lib.hid hown'; have Hperm' := Lib.hid hperm'; have Hins := Lib.hid hins; have Hbel' := Lib.hid hbel'
        clear hlen hown' hperm' hins hbel' Hst
        by_cases hj0 : j = 0
        · subst hj0
          have Hend : Hid (SoRel w L (q + 1) (.slice (some ⟨g, 0, none⟩) (q + 1) cap) wr) := Lib.hid ⟨R', by show wr.ownsRow _ _ _ _ R'.length _; rw [Hlen.out]; exact Hown'.out, Hperm'.out.trans Hpl.out, ins_end Hins.out (by rw [Hlen.out]; omega) (Or.inl rfl), Hbel'.out⟩
          go_wp2_with fail
          go_quiet (fail)
          all_goals
            go_wp2
            go_roundw
            case rel => exact ⟨q + 1, by go_num, by omega, Hend.out.drewN _⟩
            case measure => simp [intOf]; omega
        · obtain ⟨i, rfl⟩ : ∃ i, j = i + 1 := ⟨j - 1, by omega⟩
          have hx0 := (Hown'.out.cellAt i (by omega)).trans (flatF_get R' i (by rw [Hlen.out]; omega))
          have hx1 := (Hown'.out.cellAt (i + 1) (by omega)).trans (flatF_get R' (i + 1) (by rw [Hlen.out]; omega))
          have hf0 := Hown'.out.frozenAt i
          have hf1 := Hown'.out.frozenAt (i + 1)
          have hltg := World.block_lt_of_cell? _ _ hx0
          have hi0 : (0 : Int) ≤ (i : Int) := by omega
          have hi1 : (i : Int) + 1 < (q : Int) + 1 := by omega
          have hi2 : (i : Int) < (q : Int) + 1 := by omega
          clear hj0
          have Ko' := Lib.hid (fun v => Ko.out (R'.getD i 0) (R'.getD (i + 1) 0) v)
          obtain ⟨z, hz⟩ : ∃ z, z = cmpZ (rk (R'.getD i 0)) (rk (R'.getD (i + 1) 0)) := ⟨_, rfl⟩
          rw [← hz] at Ko'
          have hgt := (cmpZ_gt (a := rk (R'.getD i 0)) (b := rk (R'.getD (i + 1) 0)))
          rw [← hz] at hgt
          have Hgt := Lib.hid hgt
          clear hz hgt
          by_cases hzp : 0 < z
          · have Hc := Lib.hid (Hgt.out.1 hzp)
            have HS := Lib.hid (fun n => (show SpRel w (R ++ [x]) g q cap i (((wr.drewN n).setCell ⟨g, i, none⟩ (.float .f64 (R'.getD (i + 1) 0))).setCell ⟨g, i + 1, none⟩ (.float .f64 (R'.getD i 0))) from sp_swap Hlen.out Hown'.out Hperm'.out Hins.out (by omega) Hc.out (below_drewN Hbel'.out n)))
            clear Hgt
            generalize R'.getD i 0 = x0 at *
            generalize R'.getD (i + 1) 0 = x1 at *
            go_wp2_with fail
            go_quiet ((go_at_call 63; with_reducible exact quiet_left (Ko'.out _)))
            all_goals
              go_wp2_with fail
              have hy0 : (wr.drewN nq).cell? ⟨g, i, none⟩ = some (.float .f64 x0) := hx0
              have hy1 : (wr.drewN nq).cell? ⟨g, i + 1, none⟩ = some (.float .f64 x1) := hx1
              have hg0 : (wr.drewN nq).frozen? ⟨g, i, none⟩ = false := hf0
              have hg1 : (wr.drewN nq).frozen? ⟨g, i + 1, none⟩ = false := hf1
              have HSY := Lib.hid (HS.out nq)
              clear hx0 hx1 hf0 hf1 HS
              generalize wr.drewN nq = Y at *
              go_region
              all_goals
                clear hy0 hy1 hg0 hg1
                go_wp2
                go_roundw
                case rel => exact ⟨i, by go_num, by omega, by first | exact HSY.out | exact HSY.out.drewN 1⟩
                case measure => first | (simp [intOf]; done) | (simp [intOf]; omega)
          · have Hc := Lib.hid (show rk (R'.getD i 0) ≤ rk (R'.getD (i + 1) 0) from Int.not_lt.1 (fun h => hzp (Hgt.out.2 h)))
            have Hend : Hid (SoRel w L (q + 1) (.slice (some ⟨g, 0, none⟩) (q + 1) cap) wr) := Lib.hid ⟨R', by show wr.ownsRow _ _ _ _ R'.length _; rw [Hlen.out]; exact Hown'.out, Hperm'.out.trans Hpl.out, ins_end Hins.out (by rw [Hlen.out]; omega) (Or.inr Hc.out), Hbel'.out⟩
            clear Hgt Hc
            generalize R'.getD i 0 = x0 at *
            generalize R'.getD (i + 1) 0 = x1 at *
            go_wp2_with fail
            go_quiet ((go_at_call 63; with_reducible exact quiet_left (Ko'.out _)))
            all_goals
              go_wp2
              go_roundw
              case rel => exact ⟨q + 1, by go_num, by omega, Hend.out.drewN _⟩
              case measure => simp [intOf]; omega
    · obtain rfl : k = L.length := by omega
      have hp := Hperm.out
      rw [List.take_length] at hp
      have Hp := Lib.hid hp
      clear hp
      go_wp2
      go_ret
      exact ⟨u3, R, rfl, Hown.out, Hp.out, Hsort.out, Hbel.out⟩
end Go.Proofs.Ytecbbdbeihiioaa
