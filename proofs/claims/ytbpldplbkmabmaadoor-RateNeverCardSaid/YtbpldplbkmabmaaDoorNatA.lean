/- Lemmas on a row of digits that a call owns: appended to, read back. No program's run in this text. -/
import Derived.Test.YtbpldplbkmabmaaDoorNatD
namespace Go.Proofs.YtbpldplbkmabmaaDoor
open Go.RowKit

/-- A digit as a value. -/
def dgt (d : Nat) : Value := .int .u64 (d : Int)

theorem getD_past {l : List Nat} {k : Nat} (h : ¬ k < l.length) : l.getD k 0 = 0 := by
  rw [List.getD_eq_getElem?_getD, List.getElem?_eq_none (by omega)]; rfl

theorem take_val (l : List Nat) (k : Nat) : valL (l.take (k + 1)) = valL (l.take k) + 4294967296 ^ k * l.getD k 0 := by
  by_cases h : k < l.length
  · rw [take_snoc h, valL_append]
    simp only [valL, List.length_take]
    rw [show min k l.length = k by omega]
    simp
  · rw [List.take_of_length_le (by omega), List.take_of_length_le (by omega), List.getD_eq_getElem?_getD, List.getElem?_eq_none (by omega)]
    simp

/-- A row that the call owns, as a slice of digits. -/
theorem dig_of_own {w : World} {B : Nat} {e : TypeId} {v : Value} {l : List Nat} (h : w.ownsRow B e 1 v l.length (l.map dgt)) : Dig w v l := by
  have h' := h
  obtain ⟨_, ⟨rfl, h0⟩ | ⟨g, cap, cur, rfl, _, _, hn, hm, _, _⟩⟩ := h
  · exact ⟨none, 0, by rw [h0], by omega, by decide, fun hp => by omega⟩
  · refine ⟨_, cap, rfl, hn, hm, fun _ => ⟨g, 0, rfl, fun i hi => ?_⟩⟩
    rw [Nat.zero_add, h'.cellAt i (by omega)]
    simp [List.getElem?_map, List.getElem?_eq_getElem hi, dgt]

theorem own_snoc {w : World} {B : Nat} {e : TypeId} {v : Value} {l : List Nat} {k : Nat} {s : Int} (h : w.ownsRow B e 1 v (k + 1) (l.map dgt ++ [.int .u64 s])) (hk : l.length = k) (d : Nat) (hs : s = (d : Int)) :
    w.ownsRow B e 1 v (l ++ [d]).length ((l ++ [d]).map dgt) := by
  subst hs hk
  simpa [dgt] using h

/-- What the loop of a sum keeps. -/
def PlusRel (B : Nat) (w : World) (la lb : List Nat) (k : Nat) (c : Value) (cy : Nat) (wr : World) : Prop :=
  ∃ cs : List Nat, cs.length = k ∧ (∀ d ∈ cs, d < 4294967296) ∧ wr.ownsRow B 22 1 c cs.length (cs.map dgt) ∧
    valL cs + 4294967296 ^ k * cy = valL (la.take k) + valL (lb.take k) ∧ Below B w wr

theorem plus_step {B : Nat} {w wr w1 : World} {la lb cs : List Nat} {k cy : Nat} {c c1 : Value} {s : Int}
    (hl : cs.length = k) (hd : ∀ d ∈ cs, d < 4294967296) (hv : valL cs + 4294967296 ^ k * cy = valL (la.take k) + valL (lb.take k)) (hb : Below B w wr) (hB : B ≤ wr.heap.size)
    (hc : ∀ g, c.ownBlock = some g → B ≤ g)
    (o : Obj) (hown : w1.ownsRow B 22 1 c1 (k + 1) (cs.map dgt ++ [.int .u64 s])) (hg : (wr.alloc o).grownBy w1 c.ownBlock)
    (hs : s = (((cy + la.getD k 0 + lb.getD k 0) % 4294967296 : Nat) : Int)) :
    PlusRel B w la lb (k + 1) c1 ((cy + la.getD k 0 + lb.getD k 0) / 4294967296) w1 := by
  refine ⟨cs ++ [(cy + la.getD k 0 + lb.getD k 0) % 4294967296], by simp [hl], ?_, own_snoc hown hl _ hs, ?_, ?_⟩
  · intro d h
    rcases List.mem_append.1 h with h | h
    · exact hd d h
    · simp at h; rw [h]; exact Nat.mod_lt _ (by decide)
  · rw [valL_append, take_val, take_val, hl, Nat.pow_succ]
    simp only [valL]
    generalize hx : la.getD k 0 = x
    generalize hy : lb.getD k 0 = y
    generalize 4294967296 ^ k = p at *
    have e := Nat.div_add_mod (cy + x + y) 4294967296
    have e2 : p * (cy + x + y) = p * cy + p * x + p * y := by rw [Nat.mul_add, Nat.mul_add]
    rw [Nat.mul_assoc p 4294967296 _, Nat.mul_zero, Nat.add_zero, Nat.add_assoc, ← Nat.mul_add, Nat.add_comm ((cy + x + y) % 4294967296), e, e2]
    omega
  · exact (hb.alloc hB o).grown hg (by simp; omega) hc

theorem len_le {l : List Nat} {m : Nat} (h : NormL l) (hv : valL l < 2 ^ m) : l.length ≤ m / 32 + 1 := by
  by_cases h0 : 0 < l.length
  · have h1 := norm_ge h h0
    have h2 : (4294967296 : Nat) ^ (l.length - 1) < 2 ^ m := Nat.lt_of_le_of_lt h1 hv
    rw [show (4294967296 : Nat) = 2 ^ 32 from rfl, ← Nat.pow_mul] at h2
    have h3 := (Nat.pow_lt_pow_iff_right (by decide : 1 < 2)).1 h2
    omega
  · omega

theorem getD_set_ne {l : List Nat} {p q d : Nat} (h : q ≠ p) : (l.set p d).getD q 0 = l.getD q 0 := by
  rw [List.getD_eq_getElem?_getD, List.getD_eq_getElem?_getD, List.getElem?_set_ne (by omega)]

theorem set_val (l : List Nat) : ∀ (p d : Nat), p < l.length → valL (l.set p d) + 4294967296 ^ p * l.getD p 0 = valL l + 4294967296 ^ p * d := by
  induction l with
  | nil => intro p d h; simp at h
  | cons x l ih =>
    intro p d h
    cases p with
    | zero => simp [valL]; omega
    | succ p =>
      have := ih p d (by simpa using h)
      simp only [List.set_cons_succ, valL, List.getD_cons_succ, Nat.pow_succ]
      rw [Nat.mul_comm (4294967296 ^ p) 4294967296, Nat.mul_assoc, Nat.mul_assoc]
      omega

theorem set_digits {l : List Nat} {p d : Nat} (h : ∀ x ∈ l, x < 4294967296) (hd : d < 4294967296) : ∀ x ∈ l.set p d, x < 4294967296 := by
  intro x hx
  rcases List.mem_or_eq_of_mem_set hx with hx | rfl
  · exact h x hx
  · exact hd

theorem digit_mul (x y : Nat) (hx : x < 4294967296) (hy : y < 4294967296) : x * y ≤ 18446744065119617025 := Nat.mul_le_mul (by omega : x ≤ 4294967295) (by omega : y ≤ 4294967295)

theorem valL_zeros (n : Nat) : valL (List.replicate n 0) = 0 := by
  induction n with
  | zero => rfl
  | succ n ih => simp [List.replicate_succ, valL, ih]

/-- A row of n digits that the call owns. -/
def OwnD (wr : World) (B g : Nat) (cs : List Nat) : Prop := wr.ownsRow B 22 1 (.slice (some ⟨g, 0, none⟩) cs.length cs.length) cs.length (cs.map dgt)

theorem OwnD.cell {wr : World} {B g : Nat} {cs : List Nat} (h : OwnD wr B g cs) {q : Nat} (hq : q < cs.length) : wr.cell? ⟨g, q, none⟩ = some (.int .u64 (cs.getD q 0 : Nat)) := by
  rw [World.ownsRow.cellAt h q (by omega)]
  simp [List.getElem?_map, List.getElem?_eq_getElem hq, dgt]

theorem OwnD.free {wr : World} {B g : Nat} {cs : List Nat} (h : OwnD wr B g cs) (q : Nat) : wr.frozen? ⟨g, q, none⟩ = false := World.ownsRow.frozenAt h q

theorem OwnD.le {wr : World} {B g : Nat} {cs : List Nat} (h : OwnD wr B g cs) : B ≤ g := (World.ownsRow.lt h g rfl).1

theorem OwnD.stored {wr : World} {B g : Nat} {cs : List Nat} (h : OwnD wr B g cs) (q d : Nat) : OwnD (wr.setCell ⟨g, q, none⟩ (.int .u64 (d : Nat))) B g (cs.set q d) := by
  have := (World.ownsRow.stored h q (.int .u64 (d : Nat))).1
  unfold OwnD
  rw [List.length_set, List.map_set]
  exact this

theorem OwnD.drewN {wr : World} {B g : Nat} {cs : List Nat} (h : OwnD wr B g cs) (n : Nat) : OwnD (wr.drewN n) B g cs := h

theorem OwnD.dig {wr : World} {B g : Nat} {cs : List Nat} (h : OwnD wr B g cs) : Dig wr (.slice (some ⟨g, 0, none⟩) cs.length cs.length) cs := dig_of_own h

/-- What the inner loop of a product keeps. -/
def TimesIn (B g : Nat) (w : World) (la lb : List Nat) (i j cy : Nat) (wr : World) : Prop :=
  ∃ cs : List Nat, cs.length = la.length + lb.length ∧ (∀ d ∈ cs, d < 4294967296) ∧ (∀ q, i + lb.length ≤ q → cs.getD q 0 = 0) ∧ OwnD wr B g cs ∧
    valL cs + 4294967296 ^ (i + j) * cy = valL (la.take i) * valL lb + 4294967296 ^ i * (la.getD i 0 * valL (lb.take j)) ∧ Below B w wr

def TimesOut (B g : Nat) (w : World) (la lb : List Nat) (i : Nat) (wr : World) : Prop :=
  ∃ cs : List Nat, cs.length = la.length + lb.length ∧ (∀ d ∈ cs, d < 4294967296) ∧ (∀ q, i + lb.length ≤ q → cs.getD q 0 = 0) ∧ OwnD wr B g cs ∧
    valL cs = valL (la.take i) * valL lb ∧ Below B w wr

theorem times_in {B g : Nat} {w wr : World} {la lb : List Nat} {i : Nat} (h : TimesOut B g w la lb i wr) : TimesIn B g w la lb i 0 0 wr := by
  obtain ⟨cs, h1, h2, h3, h4, h5, h6⟩ := h
  exact ⟨cs, h1, h2, h3, h4, by simp [h5, valL], h6⟩

theorem times_step {B g : Nat} {w wr : World} {la lb cs : List Nat} {i j cy : Nat}
    (h1 : cs.length = la.length + lb.length) (h2 : ∀ d ∈ cs, d < 4294967296) (h3 : ∀ q, i + lb.length ≤ q → cs.getD q 0 = 0) (h4 : OwnD wr B g cs)
    (h5 : valL cs + 4294967296 ^ (i + j) * cy = valL (la.take i) * valL lb + 4294967296 ^ i * (la.getD i 0 * valL (lb.take j))) (h6 : Below B w wr)
    (hi : i < la.length) (hj : j < lb.length) (n : Nat) :
    TimesIn B g w la lb i (j + 1) ((cy + (la.getD i 0 * lb.getD j 0 + cs.getD (i + j) 0)) / 4294967296)
      ((wr.drewN n).setCell ⟨g, i + j, none⟩ (.int .u64 (((cy + (la.getD i 0 * lb.getD j 0 + cs.getD (i + j) 0)) % 4294967296 : Nat) : Int))) := by
  refine ⟨cs.set (i + j) ((cy + (la.getD i 0 * lb.getD j 0 + cs.getD (i + j) 0)) % 4294967296), by simp [h1], set_digits h2 (Nat.mod_lt _ (by decide)), ?_, (h4.drewN n).stored _ _, ?_, ?_⟩
  · intro q hq
    rw [getD_set_ne (by omega)]
    exact h3 q hq
  · have e := set_val cs (i + j) ((cy + (la.getD i 0 * lb.getD j 0 + cs.getD (i + j) 0)) % 4294967296) (by omega)
    rw [take_val lb j]
    generalize cs.getD (i + j) 0 = z at *
    generalize la.getD i 0 = x at *
    generalize lb.getD j 0 = y at *
    generalize hr : valL (cs.set (i + j) ((cy + (x * y + z)) % 4294967296)) = r at *
    generalize valL cs = vc at *
    generalize valL (la.take i) * valL lb = m at *
    have e3 : 4294967296 ^ i * (x * (valL (lb.take j) + 4294967296 ^ j * y)) = 4294967296 ^ i * (x * valL (lb.take j)) + 4294967296 ^ (i + j) * (x * y) := by
      rw [Nat.mul_add, Nat.mul_add, Nat.pow_add]
      congr 1
      rw [Nat.mul_left_comm x, Nat.mul_assoc]
    rw [e3]
    generalize 4294967296 ^ i * (x * valL (lb.take j)) = t at *
    rw [← Nat.add_assoc i j 1, Nat.pow_succ]
    generalize 4294967296 ^ (i + j) = p at *
    have e2 := Nat.div_add_mod (cy + (x * y + z)) 4294967296
    have e4 : p * (cy + (x * y + z)) = p * cy + (p * (x * y) + p * z) := by rw [Nat.mul_add, Nat.mul_add]
    have e5 : p * (4294967296 * ((cy + (x * y + z)) / 4294967296) + (cy + (x * y + z)) % 4294967296) = p * 4294967296 * ((cy + (x * y + z)) / 4294967296) + p * ((cy + (x * y + z)) % 4294967296) := by
      rw [Nat.mul_add, Nat.mul_assoc]
    rw [e2] at e5
    omega
  · exact (below_drewN h6 n).setCell (by exact h4.le) _

theorem times_close {B g : Nat} {w wr : World} {la lb cs : List Nat} {i cy : Nat}
    (h1 : cs.length = la.length + lb.length) (h2 : ∀ d ∈ cs, d < 4294967296) (h3 : ∀ q, i + lb.length ≤ q → cs.getD q 0 = 0) (h4 : OwnD wr B g cs)
    (h5 : valL cs + 4294967296 ^ (i + lb.length) * cy = valL (la.take i) * valL lb + 4294967296 ^ i * (la.getD i 0 * valL (lb.take lb.length))) (h6 : Below B w wr)
    (hi : i < la.length) (hcy : cy < 4294967296) :
    TimesOut B g w la lb (i + 1) (wr.setCell ⟨g, i + lb.length, none⟩ (.int .u64 (cy : Nat))) := by
  refine ⟨cs.set (i + lb.length) cy, by simp [h1], set_digits h2 hcy, ?_, h4.stored _ _, ?_, ?_⟩
  · intro q hq
    rw [getD_set_ne (by omega)]
    exact h3 q (by omega)
  · have e := set_val cs (i + lb.length) cy (by omega)
    rw [h3 _ (Nat.le_refl _)] at e
    rw [List.take_length] at h5
    rw [take_val la i, Nat.add_mul, Nat.mul_assoc]
    omega
  · exact h6.setCell (by exact h4.le) _

end Go.Proofs.YtbpldplbkmabmaaDoor
