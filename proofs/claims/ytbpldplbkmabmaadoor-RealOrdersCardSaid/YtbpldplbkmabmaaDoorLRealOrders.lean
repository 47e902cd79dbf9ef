/- RealOrders: for every input the law returns true, and its arguments read afterwards as they read before. Condition: math/bits.deBruijn64tab holds what its own initialiser lays (the card ties it). -/
import Derived.Test.YtbpldplbkmabmaaDoorRows
import Derived.Test.YtbpldplbkmabmaaDoorCards
import Derived.Test.YtbpldplbkmabmaaDoorTie
import Derived.WalkKit
import Derived.ProofKit
import Derived.OpenShut
import Derived.Lib.SmallJoins
import Derived.LaidMore
import Derived.Lib.LaidTab
import Derived.Stop.Joined
import Derived.SevenTiedAt
import Derived.Below
import Derived.ChangeOld
import Derived.Test.YtbpldplbkmabmaaDoorRlJ
namespace Go.Proofs.YtbpldplbkmabmaaDoor.realOrders
open Go.ChangeShapes Go.WideShapes Go.ChangeAt Go.RowKit Go.Joins
set_option linter.unusedVariables false

theorem own : ownKnob Tryd.prog.godebug = none := by kernel_rfl

def laid1 : List (String × DataW Unit) := [("math/bits.deBruijn64tab", Rows.laid_math_bits_deBruijn64tab)]

theorem gTab : Tryd.prog.globalNamed "math/bits.deBruijn64tab" = some 1 := by kernel_rfl
theorem tTab : (Tryd.prog.globals[1]?).map (·.type) = some 115 := by kernel_rfl
theorem cellsE : Tryd.prog.cellsOf 5 = 1 := by kernel_rfl
theorem cellsT : Tryd.prog.cellsOf 115 = 64 := by kernel_rfl

theorem door_met (os : Os) (args : Array Value) : laidMetH Tryd.prog laid1 ((World.doorLaid Tryd.prog 400 os).forCall (fun _ _ => 0) ⟨#[], args, []⟩).memory :=
  laidMetH_of_parts3 (fuel := 8) (laidMet_of_run' 8 (by kernel_rfl) (by kernel_rfl)) (by kernel_rfl) (by kernel_rfl)

theorem of_laid {W : World} (h : laidMetH Tryd.prog laid1 W) : Tab W := by
  rw [MakeChecks.laidMetH_plain _ _ _ (by kernel_rfl)] at h
  have hT := Lib.tabIs_of_head (k := .u8) (zs := Lib.deBruijn64tab.map fun z : Nat => (z : Int)) gTab tTab Tryd.underlying115 Tryd.underlying5 cellsE cellsT h
  intro j hj
  have hc := hT.cell gTab j (by simpa using hj)
  rw [hc]
  congr 2
  rw [List.getD_eq_getElem?_getD, List.getD_eq_getElem?_getD, List.getElem?_map]
  rw [List.getElem?_eq_getElem hj]
  rfl

theorem rk_most (x y : Nat) : rk (mostW x y) = rk (mostR x y) := by
  have hx := rk_ix x
  have hy := rk_ix y
  unfold mostW mostR
  repeat' split
  all_goals omega

theorem cases13 (a b c : Int) : (cmpZ a b = -1 ∧ cmpZ b c = -1 ∧ cmpZ a c = -1 ∧ cmpZ b a = 1 ∧ (a == b) = false) ∨ (cmpZ a b = -1 ∧ cmpZ b c = 0 ∧ cmpZ a c = -1 ∧ cmpZ b a = 1 ∧ (a == b) = false) ∨
    (∃ r, cmpZ a b = -1 ∧ cmpZ b c = 1 ∧ cmpZ a c = r ∧ cmpZ b a = 1 ∧ (a == b) = false) ∨ (cmpZ a b = 0 ∧ cmpZ b c = -1 ∧ cmpZ a c = -1 ∧ cmpZ b a = 0 ∧ (a == b) = true) ∨
    (cmpZ a b = 0 ∧ cmpZ b c = 0 ∧ cmpZ a c = 0 ∧ cmpZ b a = 0 ∧ (a == b) = true) ∨ (cmpZ a b = 0 ∧ cmpZ b c = 1 ∧ cmpZ a c = 1 ∧ cmpZ b a = 0 ∧ (a == b) = true) ∨
    (∃ q r, cmpZ a b = 1 ∧ cmpZ b c = q ∧ cmpZ a c = r ∧ cmpZ b a = -1 ∧ (a == b) = false) := by
  unfold cmpZ
  rcases Int.lt_trichotomy a b with h1 | h1 | h1
  · have e : (a == b) = false := by simp; omega
    rw [e, if_pos h1, if_neg (show ¬ b < a by omega), if_pos h1]
    rcases Int.lt_trichotomy b c with h2 | h2 | h2
    · exact Or.inl ⟨rfl, if_pos h2, if_pos (by omega), rfl, rfl⟩
    · exact Or.inr (Or.inl ⟨rfl, by rw [if_neg (by omega), if_neg (by omega)], if_pos (by omega), rfl, rfl⟩)
    · exact Or.inr (Or.inr (Or.inl ⟨_, rfl, by rw [if_neg (by omega), if_pos h2], rfl, rfl, rfl⟩))
  · subst h1
    rw [if_neg (show ¬ a < a by omega), if_neg (show ¬ a < a by omega)]
    rcases Int.lt_trichotomy a c with h2 | h2 | h2
    · exact Or.inr (Or.inr (Or.inr (Or.inl ⟨rfl, if_pos h2, if_pos h2, rfl, by simp⟩)))
    · exact Or.inr (Or.inr (Or.inr (Or.inr (Or.inl ⟨rfl, by rw [if_neg (by omega), if_neg (by omega)], by rw [if_neg (by omega), if_neg (by omega)], rfl, by simp⟩))))
    · exact Or.inr (Or.inr (Or.inr (Or.inr (Or.inr (Or.inl ⟨rfl, by rw [if_neg (by omega), if_pos h2], by rw [if_neg (by omega), if_pos h2], rfl, by simp⟩)))))
  · have e : (a == b) = false := by simp; omega
    rw [e, if_neg (show ¬ a < b by omega), if_pos h1, if_pos h1]
    exact Or.inr (Or.inr (Or.inr (Or.inr (Or.inr (Or.inr ⟨_, _, rfl, rfl, rfl, rfl, rfl⟩)))))

set_option maxHeartbeats 8000000 in
set_option maxRecDepth 100000 in
theorem core (x y z : Nat) (p q r m : Int) (s : Bool) (w : World) (hT : Tab w)
    (kxy : ∀ v, Calls Tryd.prog 46 #[.float .f64 x, .float .f64 y] v fun e w' => e = .returned (.int .i64 p) ∧ v = w')
    (kyz : ∀ v, Calls Tryd.prog 46 #[.float .f64 y, .float .f64 z] v fun e w' => e = .returned (.int .i64 q) ∧ v = w')
    (kxz : ∀ v, Calls Tryd.prog 46 #[.float .f64 x, .float .f64 z] v fun e w' => e = .returned (.int .i64 r) ∧ v = w')
    (kyx : ∀ v, Calls Tryd.prog 46 #[.float .f64 y, .float .f64 x] v fun e w' => e = .returned (.int .i64 m) ∧ v = w')
    (kr : ∀ v, Calls Tryd.prog 47 #[.float .f64 x, .float .f64 y] v fun e w' => e = .returned (.int .i64 p) ∧ v = w')
    (ks : ∀ v, Calls Tryd.prog 44 #[.float .f64 x, .float .f64 y] v fun e w' => e = .returned (.bool s) ∧ v = w')
    (kt : ∀ v, Calls Tryd.prog 28 #[.float .f64 x, .float .f64 y] v fun e w' => e = .returned (.bool s) ∧ v = w')
    (l a b : Nat)
    (kl : ∀ v, Calls Tryd.prog 48 #[.float .f64 x, .float .f64 y] v fun e w' => e = .returned (.float .f64 l) ∧ v = w')
    (km : ∀ v, Calls Tryd.prog 49 #[.float .f64 x, .float .f64 y] v fun e w' => e = .returned (.float .f64 l) ∧ v = w')
    (kn : ∀ v, Calls Tryd.prog 50 #[.float .f64 x, .float .f64 y] v fun e w' => e = .returned (.float .f64 a) ∧ v = w')
    (ko : ∀ v, Calls Tryd.prog 51 #[.float .f64 x, .float .f64 y] v fun e w' => e = .returned (.float .f64 b) ∧ v = w')
    (kll : ∀ v, Calls Tryd.prog 28 #[.float .f64 l, .float .f64 l] v fun e w' => e = .returned (.bool true) ∧ v = w')
    (kab : ∀ v, Calls Tryd.prog 28 #[.float .f64 a, .float .f64 b] v fun e w' => e = .returned (.bool true) ∧ v = w')
    (h : (p = -1 ∧ q = -1 ∧ r = -1 ∧ m = 1 ∧ s = false) ∨ (p = -1 ∧ q = 0 ∧ r = -1 ∧ m = 1 ∧ s = false) ∨ (p = -1 ∧ q = 1 ∧ m = 1 ∧ s = false) ∨ (p = 0 ∧ q = -1 ∧ r = -1 ∧ m = 0 ∧ s = true) ∨ (p = 0 ∧ q = 0 ∧ r = 0 ∧ m = 0 ∧ s = true) ∨ (p = 0 ∧ q = 1 ∧ r = 1 ∧ m = 0 ∧ s = true) ∨ (p = 1 ∧ m = -1 ∧ s = false)) :
    Calls Tryd.prog 15 #[.int .u64 x, .int .u64 y, .int .u64 z] w fun e w' => e = .returned (.bool true) ∧ Below w.heap.size w w' := by
  have HT := Lib.hid hT
  have Ka := Lib.hid (fun v h => awake3 v h)
  have Kxy := Lib.hid kxy; have Kyz := Lib.hid kyz; have Kxz := Lib.hid kxz; have Kyx := Lib.hid kyx; have Kr := Lib.hid kr; have Ks := Lib.hid ks; have Kt := Lib.hid kt
  have Kl := Lib.hid kl; have Km := Lib.hid km; have Kn := Lib.hid kn; have Ko := Lib.hid ko; have Kll := Lib.hid kll; have Kab := Lib.hid kab
  clear kxy kyz kxz kyx kr ks kt kl km kn ko kll kab hT
  rcases h with ⟨rfl, rfl, rfl, rfl, rfl⟩ | ⟨rfl, rfl, rfl, rfl, rfl⟩ | ⟨rfl, rfl, rfl, rfl⟩ | ⟨rfl, rfl, rfl, rfl, rfl⟩ | ⟨rfl, rfl, rfl, rfl, rfl⟩ | ⟨rfl, rfl, rfl, rfl, rfl⟩ | ⟨rfl, rfl, rfl⟩
  all_goals
    go_enter Tryd.func15, Tryd.ntmps15
    go_wp2_with (first | (go_at_call 29; (with_reducible refine (of3_any _ _).mono ?_); rintro e1 w' ⟨rfl, rfl⟩) | (go_at_call 46; (first | (with_reducible refine (Kxy.out _).mono ?_) | (with_reducible refine (Kyz.out _).mono ?_) | (with_reducible refine (Kxz.out _).mono ?_)); rintro e1 w' ⟨rfl, rfl⟩))
    with_reducible refine (Ka.out _ HT.out).mono ?_
    rintro e1 w3 ⟨rfl, hb3⟩
    have Hb3 := Lib.hid hb3
    clear hb3
    go_wp2_with (first | (go_at_call 46; (with_reducible refine (Kyx.out _).mono ?_); rintro e1 w' ⟨rfl, rfl⟩) | (go_at_call 47; (with_reducible refine (Kr.out _).mono ?_); rintro e1 w' ⟨rfl, rfl⟩) | (go_at_call 44; (with_reducible refine (Ks.out _).mono ?_); rintro e1 w' ⟨rfl, rfl⟩) | (go_at_call 28; (first | (with_reducible refine (Kt.out _).mono ?_) | (with_reducible refine (Kll.out _).mono ?_) | (with_reducible refine (Kab.out _).mono ?_)); rintro e1 w' ⟨rfl, rfl⟩) | (go_at_call 48; (with_reducible refine (Kl.out _).mono ?_); rintro e1 w' ⟨rfl, rfl⟩) | (go_at_call 49; (with_reducible refine (Km.out _).mono ?_); rintro e1 w' ⟨rfl, rfl⟩) | (go_at_call 50; (with_reducible refine (Kn.out _).mono ?_); rintro e1 w' ⟨rfl, rfl⟩) | (go_at_call 51; (with_reducible refine (Ko.out _).mono ?_); rintro e1 w' ⟨rfl, rfl⟩))
    go_ret
    exact ⟨rfl, Hb3.out⟩

theorem walk (x y z : Int) (hx : (Lit.int .u64 x).wf = true) (hy : (Lit.int .u64 y).wf = true) (hz : (Lit.int .u64 z).wf = true) (w : World) (hT : Tab w) :
    Calls Tryd.prog 15 #[.int .u64 x, .int .u64 y, .int .u64 z] w fun e w' => e = .returned (.bool true) ∧ Below w.heap.size w w' := by
  obtain ⟨a, rfl, ha⟩ := u64_nat hx
  obtain ⟨b, rfl, hb⟩ := u64_nat hy
  obtain ⟨c, rfl, hc⟩ := u64_nat hz
  have hll := fun v => rsame_any (leastW a b) (leastW a b) v
  have hab := fun v => rsame_any (mostW a b) (mostR a b) v
  rw [show (rk (leastW a b) == rk (leastW a b)) = true by simp] at hll
  rw [show (rk (mostW a b) == rk (mostR a b)) = true by rw [rk_most]; simp] at hab
  refine core a b c _ _ _ _ _ w hT (fun v => order_any a b v ha hb) (fun v => order_any b c v hb hc) (fun v => order_any a c v ha hc) (fun v => order_any b a v hb ha) (fun v => rorder_any a b v) (fun v => same_any a b v ha hb) (fun v => rsame_any a b v) _ _ _ (fun v => least_any a b v ha hb) (fun v => rleast_any a b v) (fun v => most_any a b v ha hb) (fun v => rmost_any a b v) hll hab ?_
  rcases cases13 (rk a) (rk b) (rk c) with h | h | ⟨r, h1, h2, h3, h4, h5⟩ | h | h | h | ⟨q, r, h1, h2, h3, h4, h5⟩
  · exact Or.inl h
  · exact Or.inr (Or.inl h)
  · exact Or.inr (Or.inr (Or.inl ⟨h1, h2, h4, h5⟩))
  · exact Or.inr (Or.inr (Or.inr (Or.inl h)))
  · exact Or.inr (Or.inr (Or.inr (Or.inr (Or.inl h))))
  · exact Or.inr (Or.inr (Or.inr (Or.inr (Or.inr (Or.inl h)))))
  · exact Or.inr (Or.inr (Or.inr (Or.inr (Or.inr (Or.inr ⟨h1, h4, h5⟩)))))

set_option maxRecDepth 100000 in
theorem lifted (os : Os) (started : os.Started) (H : Type) (enc : TypeId × Value → H) :
    ReturnsInHanded {} Tryd.checked os 15 .any (fun w args => (Rows.realOrdersSpec.pre enc Tryd.prog Tryd.f15 [] false w args ∧ laidMetH Tryd.prog laid1 w) ∧ sizedMet enc Tryd.prog Tryd.f15 (OpenSpec.ofChange Rows.realOrdersSpec) false w args)
      (Rows.realOrdersSpec.post enc Tryd.prog Tryd.f15 false true false false) := by
  refine returnsInHanded_of_change_and (C := Tryd.checked) (X := fun w _ => laidMetH Tryd.prog laid1 w) (fun _ _ _ hh h => h.of_heap hh) own started (by kernel_rfl) Tryd.func15
    (ChangeSpec.witness_shaped (enc := enc) (C := Tryd.checked) (os := os) (X := fun w _ => laidMetH Tryd.prog laid1 w) false (World.doorLaid Tryd.prog 400 os) #[.int .u64 0, .int .u64 0, .int .u64 0] 8 rfl (World.shaped_of_RefB (by kernel_rfl) (by kernel_rfl)) (by kernel_rfl) (by kernel_rfl) (by kernel_rfl) (door_met os _)) ?_
  intro W base args ds gs before hval0 hW _ _ hL _
  have hval : ∀ (j : Nat) t v, Tryd.f15.params[j]? = some t → args[j]? = some v → Value.okWide Tryd.prog W .any base t v := hval0
  have hW' := hW
  obtain ⟨p, q, hA0, hV, rfl, hfz, hnd⟩ := hW
  have hA : DataW.TrodAll enc Tryd.prog W 0 (fun _ => true) true Tryd.f15.params.toList args.toList ds p := hA0
  rw [Tryd.params15] at hA hval
  obtain ⟨v0, vs0, d0, ds0, p0, q0, hargs, rfl, rfl, h0, r0⟩ := trodAll_cons hA
  obtain ⟨v1, vs1, d1, ds1, p1, q1, rfl, rfl, rfl, h1, r1⟩ := trodAll_cons r0
  obtain ⟨v2, vs2, d2, ds2, p2, q2, rfl, rfl, rfl, h2, r2⟩ := trodAll_cons r1
  obtain ⟨rfl, rfl, rfl⟩ := trodAll_nil r2
  obtain rfl : args = #[v0, v1, v2] := by cases args; simp_all
  obtain ⟨rfl, rfl⟩ := trodVars_none hV
  obtain ⟨a0, rfl, rfl, rfl, w0⟩ := open_int Tryd.underlying22 (hval 0 22 v0 rfl rfl) h0
  obtain ⟨a1, rfl, rfl, rfl, w1⟩ := open_int Tryd.underlying22 (hval 1 22 v1 rfl rfl) h1
  obtain ⟨a2, rfl, rfl, rfl, w2⟩ := open_int Tryd.underlying22 (hval 2 22 v2 rfl rfl) h2
  have hTab := of_laid hL
  clear hA0 hval0
  refine (walk a0 a1 a2 w0 w1 w2 W hTab).mono fun e W' ⟨he, hg⟩ => ?_
  subst he
  exact ⟨_, rfl, _, _, _, [], _, [], hW', trodAll_mk1 (shut_bool Tryd.underlying4 _), (trodAll_cons_mk (shut_int Tryd.underlying22 w0) (trodAll_cons_mk (shut_int Tryd.underlying22 w1) (trodAll_cons_mk (shut_int Tryd.underlying22 w2) trodAll_mk0))), rfl, hg.frame _, fun h => by cases h⟩

theorem over : Rows.realOrdersRow.holds Tryd.pinned (OpenSpec.ofChange Rows.realOrdersSpec) :=
  OpenClaim.holds_of_wide 15 Tryd.f15 rfl rfl rfl rfl rfl rfl rfl ⟨rfl, rfl, rfl, rfl, rfl⟩ rfl rfl rfl rfl rfl (by kernel_rfl) Tryd.func15 (by kernel_rfl)
    (of_decide_eq_true (by kernel_rfl)) (by unfold Func.isWrapper; first | (rw [if_pos (by decide +kernel)]; kernel_rfl) | (rw [if_neg (by decide +kernel)]; exact ⟨rfl, rfl⟩))
    (fun os started H enc _ => lifted os started H enc)

theorem proved : Rows.RealOrdersCardSaid :=
  Claim7.holds_tied_plain_at .later [] [.data] true (true, "85d269bd228afe2ef34ed2e288f7f1f4278f0a5f8bd47cb8147d3cef28d2a950") false
    over (fun _ h => by cases h) (by kernel_rfl) (fun _ h => by cases h) realOrders_row_tie rfl ⟨rfl, rfl⟩ (by kernel_rfl) rfl
    (fun f fn hf hfn => by
      obtain rfl : f = 15 := Option.some.inj ((show Tryd.prog.funcNamed "spigot/spigotlaw03.RealOrders" = some 15 by kernel_rfl).symm.trans hf) |>.symm
      obtain rfl : fn = Tryd.f15 := (Option.some.inj (Tryd.func15.symm.trans hfn)).symm
      exact ⟨by kernel_rfl, fun j t ht => by
        rw [Tryd.params15] at ht
        have hm : t ∈ [22, 22, 22] := by simpa using Array.mem_of_getElem? ht
        have hall : ([22, 22, 22].all fun u => !Tryd.prog.wantsStandIn u) = true := by kernel_rfl
        exact (show Tryd.prog.wantsStandIn t = false by simpa using List.all_eq_true.1 hall t hm)⟩)
    (by kernel_rfl)
#print axioms proved
end Go.Proofs.YtbpldplbkmabmaaDoor.realOrders
