/-
  NARROWER THAN 'FOR EVERY INPUT', by the rows' own cells (each row's printed sentence says how): RateOfs: laid · RateBursts: laid · RateSpans: laid · RateLimits: laid · RateNever: laid · RealKinds: laid · RealTicks: laid · RealRatios: laid · RealBetween: laid · RealExact: laid · RealTurns: laid · RealMeets: laid · RealOrders: laid.
  DERIVED. THE GIVEN ROWS OF THIS SEAT. 13 by the template 'for every input the law returns true; each argument reads behind the call as it read before'; 0 by the template 'total and deterministic' (their statements: YtbpldplbkmabmaaDoorTotals.lean).
  GIVEN WITH THE SEED: the statements are not yours to turn. If you find one false, say at which input.
  Laid BY PROGRAM, IN A SANDBOX (cutbox-rows.mjs): the forced cells as the released guide's own fill.sh prints them over the translation 4d006d1b578e19a0… (all of the seat's roots in one cut). By AI agents, Wed Nov 11 2026. No macro, syntax, notation, axiom, sorry.
-/
import Derived.Test.YtbpldplbkmabmaaDoorChecked
import GoSem.Claim
import GoSem.ClaimJoined
import GoSem.ClaimMapViews
import Derived.JoinedTies
import Derived.KernelRfl
namespace Go.Proofs.YtbpldplbkmabmaaDoor
/- THE CELL 'sum', in the pinned program and in every row, IS THE sha256 OF THE DUMP (.gsa) THAT YtbpldplbkmabmaaDoorProg.lean LOADS. Nothing in Lean hashes anything: it is a label: what it is worth is what the hold of that sum in a sandbox is worth. -/
noncomputable def Tryd.pinned : Pinned := { name := "ytbpldplbkmabmaadoor", sum := "4d006d1b578e19a0a13016b5de6cdd835bbbfb0fb0cfef88693637ff420ac38e", checked := Tryd.checked }
namespace Rows
def none {H : Type} : Left H := { results := [], args := [] }

/- WHAT THE LISTED PACKAGE-LEVEL VARIABLES READ AS WHEN THE CALL BEGINS. Each datum BY PROGRAM (the guide's laid-datum.mjs) off the statement by which the dump's own 'gosem.cut.vars' lays the variable. In a bare row this is a premise. The card (YtbpldplbkmabmaaDoorCards.lean) ties it to the program's text. -/
def laid_math_bits_deBruijn64tab {H : Type} : DataW H := .agg [.lit (.int .u8 0), .lit (.int .u8 1), .lit (.int .u8 56), .lit (.int .u8 2), .lit (.int .u8 57), .lit (.int .u8 49), .lit (.int .u8 28), .lit (.int .u8 3), .lit (.int .u8 61), .lit (.int .u8 58), .lit (.int .u8 42), .lit (.int .u8 50), .lit (.int .u8 38), .lit (.int .u8 29), .lit (.int .u8 17), .lit (.int .u8 4), .lit (.int .u8 62), .lit (.int .u8 47), .lit (.int .u8 59), .lit (.int .u8 36), .lit (.int .u8 45), .lit (.int .u8 43), .lit (.int .u8 51), .lit (.int .u8 22), .lit (.int .u8 53), .lit (.int .u8 39), .lit (.int .u8 33), .lit (.int .u8 30), .lit (.int .u8 24), .lit (.int .u8 18), .lit (.int .u8 12), .lit (.int .u8 5), .lit (.int .u8 63), .lit (.int .u8 55), .lit (.int .u8 48), .lit (.int .u8 27), .lit (.int .u8 60), .lit (.int .u8 41), .lit (.int .u8 37), .lit (.int .u8 16), .lit (.int .u8 46), .lit (.int .u8 35), .lit (.int .u8 44), .lit (.int .u8 21), .lit (.int .u8 52), .lit (.int .u8 32), .lit (.int .u8 23), .lit (.int .u8 11), .lit (.int .u8 54), .lit (.int .u8 26), .lit (.int .u8 40), .lit (.int .u8 15), .lit (.int .u8 34), .lit (.int .u8 20), .lit (.int .u8 31), .lit (.int .u8 10), .lit (.int .u8 25), .lit (.int .u8 14), .lit (.int .u8 19), .lit (.int .u8 9), .lit (.int .u8 13), .lit (.int .u8 8), .lit (.int .u8 7), .lit (.int .u8 6)]

/-- 'spigotlaw04.RateOfs': WHATEVER THE INPUT: true; the input reads as it did. -/
def rateOfsSpec : ChangeSpec := { name := "rateOfs", fn := fun _ => fun
  | [d1, d2, d3] => { results := [.lit (.bool true)], args := [d1, d2, d3] }
  | _ => none }
def rateOfsRow : OpenClaim := { program := "ytbpldplbkmabmaadoor", sum := "4d006d1b578e19a0a13016b5de6cdd835bbbfb0fb0cfef88693637ff420ac38e", func := "spigot/spigotlaw04.RateOfs", spec := "rateOfs", inPlace := ["math.Float64frombits", "math.Float64bits"], named := ["math/bits.deBruijn64tab"], apart := false, laid := [("math/bits.deBruijn64tab", laid_math_bits_deBruijn64tab)] }
def RateOfsSaid : Prop := rateOfsRow.holds Tryd.pinned (OpenSpec.ofChange rateOfsSpec)

/-- ITS FALSE NEIGHBOUR: 'it returns false'. Refute it at one input. -/
def rateOfsWrong : ChangeSpec := { name := "rateOfs", fn := fun _ => fun
  | [d1, d2, d3] => { results := [.lit (.bool false)], args := [d1, d2, d3] }
  | _ => none }
def RateOfsWrongFalsely : Prop := rateOfsRow.holds Tryd.pinned (OpenSpec.ofChange rateOfsWrong)

/-- 'spigotlaw04.RateBursts': WHATEVER THE INPUT: true; the input reads as it did. -/
def rateBurstsSpec : ChangeSpec := { name := "rateBursts", fn := fun _ => fun
  | [d1, d2, d3] => { results := [.lit (.bool true)], args := [d1, d2, d3] }
  | _ => none }
def rateBurstsRow : OpenClaim := { program := "ytbpldplbkmabmaadoor", sum := "4d006d1b578e19a0a13016b5de6cdd835bbbfb0fb0cfef88693637ff420ac38e", func := "spigot/spigotlaw04.RateBursts", spec := "rateBursts", inPlace := ["math.Float64bits", "math.Float64frombits"], named := ["math/bits.deBruijn64tab"], apart := false, laid := [("math/bits.deBruijn64tab", laid_math_bits_deBruijn64tab)] }
def RateBurstsSaid : Prop := rateBurstsRow.holds Tryd.pinned (OpenSpec.ofChange rateBurstsSpec)

/-- ITS FALSE NEIGHBOUR: 'it returns false'. Refute it at one input. -/
def rateBurstsWrong : ChangeSpec := { name := "rateBursts", fn := fun _ => fun
  | [d1, d2, d3] => { results := [.lit (.bool false)], args := [d1, d2, d3] }
  | _ => none }
def RateBurstsWrongFalsely : Prop := rateBurstsRow.holds Tryd.pinned (OpenSpec.ofChange rateBurstsWrong)

/-- 'spigotlaw04.RateSpans': WHATEVER THE INPUT: true; the input reads as it did. -/
def rateSpansSpec : ChangeSpec := { name := "rateSpans", fn := fun _ => fun
  | [d1, d2] => { results := [.lit (.bool true)], args := [d1, d2] }
  | _ => none }
def rateSpansRow : OpenClaim := { program := "ytbpldplbkmabmaadoor", sum := "4d006d1b578e19a0a13016b5de6cdd835bbbfb0fb0cfef88693637ff420ac38e", func := "spigot/spigotlaw04.RateSpans", spec := "rateSpans", inPlace := ["math.Float64bits", "math.Float64frombits"], named := ["math/bits.deBruijn64tab"], apart := false, laid := [("math/bits.deBruijn64tab", laid_math_bits_deBruijn64tab)] }
def RateSpansSaid : Prop := rateSpansRow.holds Tryd.pinned (OpenSpec.ofChange rateSpansSpec)

/-- ITS FALSE NEIGHBOUR: 'it returns false'. Refute it at one input. -/
def rateSpansWrong : ChangeSpec := { name := "rateSpans", fn := fun _ => fun
  | [d1, d2] => { results := [.lit (.bool false)], args := [d1, d2] }
  | _ => none }
def RateSpansWrongFalsely : Prop := rateSpansRow.holds Tryd.pinned (OpenSpec.ofChange rateSpansWrong)

/-- 'spigotlaw04.RateLimits': WHATEVER THE INPUT: true; the input reads as it did. -/
def rateLimitsSpec : ChangeSpec := { name := "rateLimits", fn := fun _ => fun
  | [d1, d2, d3] => { results := [.lit (.bool true)], args := [d1, d2, d3] }
  | _ => none }
def rateLimitsRow : OpenClaim := { program := "ytbpldplbkmabmaadoor", sum := "4d006d1b578e19a0a13016b5de6cdd835bbbfb0fb0cfef88693637ff420ac38e", func := "spigot/spigotlaw04.RateLimits", spec := "rateLimits", inPlace := ["math.Float64bits", "math.Float64frombits"], named := ["math/bits.deBruijn64tab"], apart := false, laid := [("math/bits.deBruijn64tab", laid_math_bits_deBruijn64tab)] }
def RateLimitsSaid : Prop := rateLimitsRow.holds Tryd.pinned (OpenSpec.ofChange rateLimitsSpec)

/-- ITS FALSE NEIGHBOUR: 'it returns false'. Refute it at one input. -/
def rateLimitsWrong : ChangeSpec := { name := "rateLimits", fn := fun _ => fun
  | [d1, d2, d3] => { results := [.lit (.bool false)], args := [d1, d2, d3] }
  | _ => none }
def RateLimitsWrongFalsely : Prop := rateLimitsRow.holds Tryd.pinned (OpenSpec.ofChange rateLimitsWrong)

/-- 'spigotlaw04.RateNever': WHATEVER THE INPUT: true; the input reads as it did. -/
def rateNeverSpec : ChangeSpec := { name := "rateNever", fn := fun _ => fun
  | [d1, d2] => { results := [.lit (.bool true)], args := [d1, d2] }
  | _ => none }
def rateNeverRow : OpenClaim := { program := "ytbpldplbkmabmaadoor", sum := "4d006d1b578e19a0a13016b5de6cdd835bbbfb0fb0cfef88693637ff420ac38e", func := "spigot/spigotlaw04.RateNever", spec := "rateNever", inPlace := ["math.Float64bits", "math.Float64frombits"], named := ["math/bits.deBruijn64tab"], apart := false, laid := [("math/bits.deBruijn64tab", laid_math_bits_deBruijn64tab)] }
def RateNeverSaid : Prop := rateNeverRow.holds Tryd.pinned (OpenSpec.ofChange rateNeverSpec)

/-- ITS FALSE NEIGHBOUR: 'it returns false'. Refute it at one input. -/
def rateNeverWrong : ChangeSpec := { name := "rateNever", fn := fun _ => fun
  | [d1, d2] => { results := [.lit (.bool false)], args := [d1, d2] }
  | _ => none }
def RateNeverWrongFalsely : Prop := rateNeverRow.holds Tryd.pinned (OpenSpec.ofChange rateNeverWrong)

/-- 'spigotlaw03.RealKinds': WHATEVER THE INPUT: true; the input reads as it did. -/
def realKindsSpec : ChangeSpec := { name := "realKinds", fn := fun _ => fun
  | [d] => { results := [.lit (.bool true)], args := [d] }
  | _ => none }
def realKindsRow : OpenClaim := { program := "ytbpldplbkmabmaadoor", sum := "4d006d1b578e19a0a13016b5de6cdd835bbbfb0fb0cfef88693637ff420ac38e", func := "spigot/spigotlaw03.RealKinds", spec := "realKinds", inPlace := ["math.Float64frombits", "math.Float64bits"], named := ["math/bits.deBruijn64tab"], apart := false, laid := [("math/bits.deBruijn64tab", laid_math_bits_deBruijn64tab)] }
def RealKindsSaid : Prop := realKindsRow.holds Tryd.pinned (OpenSpec.ofChange realKindsSpec)

/-- ITS FALSE NEIGHBOUR: 'it returns false'. Refute it at one input. -/
def realKindsWrong : ChangeSpec := { name := "realKinds", fn := fun _ => fun
  | [d] => { results := [.lit (.bool false)], args := [d] }
  | _ => none }
def RealKindsWrongFalsely : Prop := realKindsRow.holds Tryd.pinned (OpenSpec.ofChange realKindsWrong)

/-- 'spigotlaw03.RealTicks': WHATEVER THE INPUT: true; the input reads as it did. -/
def realTicksSpec : ChangeSpec := { name := "realTicks", fn := fun _ => fun
  | [d1, d2, d3] => { results := [.lit (.bool true)], args := [d1, d2, d3] }
  | _ => none }
def realTicksRow : OpenClaim := { program := "ytbpldplbkmabmaadoor", sum := "4d006d1b578e19a0a13016b5de6cdd835bbbfb0fb0cfef88693637ff420ac38e", func := "spigot/spigotlaw03.RealTicks", spec := "realTicks", inPlace := ["math.Float64frombits", "math.Float64bits"], named := ["math/bits.deBruijn64tab"], apart := false, laid := [("math/bits.deBruijn64tab", laid_math_bits_deBruijn64tab)] }
def RealTicksSaid : Prop := realTicksRow.holds Tryd.pinned (OpenSpec.ofChange realTicksSpec)

/-- ITS FALSE NEIGHBOUR: 'it returns false'. Refute it at one input. -/
def realTicksWrong : ChangeSpec := { name := "realTicks", fn := fun _ => fun
  | [d1, d2, d3] => { results := [.lit (.bool false)], args := [d1, d2, d3] }
  | _ => none }
def RealTicksWrongFalsely : Prop := realTicksRow.holds Tryd.pinned (OpenSpec.ofChange realTicksWrong)

/-- 'spigotlaw03.RealRatios': WHATEVER THE INPUT: true; the input reads as it did. -/
def realRatiosSpec : ChangeSpec := { name := "realRatios", fn := fun _ => fun
  | [d1, d2] => { results := [.lit (.bool true)], args := [d1, d2] }
  | _ => none }
def realRatiosRow : OpenClaim := { program := "ytbpldplbkmabmaadoor", sum := "4d006d1b578e19a0a13016b5de6cdd835bbbfb0fb0cfef88693637ff420ac38e", func := "spigot/spigotlaw03.RealRatios", spec := "realRatios", inPlace := ["math.Float64bits", "math.Float64frombits"], named := ["math/bits.deBruijn64tab"], apart := false, laid := [("math/bits.deBruijn64tab", laid_math_bits_deBruijn64tab)] }
def RealRatiosSaid : Prop := realRatiosRow.holds Tryd.pinned (OpenSpec.ofChange realRatiosSpec)

/-- ITS FALSE NEIGHBOUR: 'it returns false'. Refute it at one input. -/
def realRatiosWrong : ChangeSpec := { name := "realRatios", fn := fun _ => fun
  | [d1, d2] => { results := [.lit (.bool false)], args := [d1, d2] }
  | _ => none }
def RealRatiosWrongFalsely : Prop := realRatiosRow.holds Tryd.pinned (OpenSpec.ofChange realRatiosWrong)

/-- 'spigotlaw03.RealBetween': WHATEVER THE INPUT: true; the input reads as it did. -/
def realBetweenSpec : ChangeSpec := { name := "realBetween", fn := fun _ => fun
  | [d1, d2, d3] => { results := [.lit (.bool true)], args := [d1, d2, d3] }
  | _ => none }
def realBetweenRow : OpenClaim := { program := "ytbpldplbkmabmaadoor", sum := "4d006d1b578e19a0a13016b5de6cdd835bbbfb0fb0cfef88693637ff420ac38e", func := "spigot/spigotlaw03.RealBetween", spec := "realBetween", inPlace := ["math.Float64bits", "math.Float64frombits"], named := ["math/bits.deBruijn64tab"], apart := false, laid := [("math/bits.deBruijn64tab", laid_math_bits_deBruijn64tab)] }
def RealBetweenSaid : Prop := realBetweenRow.holds Tryd.pinned (OpenSpec.ofChange realBetweenSpec)

/-- ITS FALSE NEIGHBOUR: 'it returns false'. Refute it at one input. -/
def realBetweenWrong : ChangeSpec := { name := "realBetween", fn := fun _ => fun
  | [d1, d2, d3] => { results := [.lit (.bool false)], args := [d1, d2, d3] }
  | _ => none }
def RealBetweenWrongFalsely : Prop := realBetweenRow.holds Tryd.pinned (OpenSpec.ofChange realBetweenWrong)

/-- 'spigotlaw03.RealExact': WHATEVER THE INPUT: true; the input reads as it did. -/
def realExactSpec : ChangeSpec := { name := "realExact", fn := fun _ => fun
  | [d1, d2] => { results := [.lit (.bool true)], args := [d1, d2] }
  | _ => none }
def realExactRow : OpenClaim := { program := "ytbpldplbkmabmaadoor", sum := "4d006d1b578e19a0a13016b5de6cdd835bbbfb0fb0cfef88693637ff420ac38e", func := "spigot/spigotlaw03.RealExact", spec := "realExact", inPlace := ["math.Float64bits", "math.Float64frombits"], named := ["math/bits.deBruijn64tab"], apart := false, laid := [("math/bits.deBruijn64tab", laid_math_bits_deBruijn64tab)] }
def RealExactSaid : Prop := realExactRow.holds Tryd.pinned (OpenSpec.ofChange realExactSpec)

/-- ITS FALSE NEIGHBOUR: 'it returns false'. Refute it at one input. -/
def realExactWrong : ChangeSpec := { name := "realExact", fn := fun _ => fun
  | [d1, d2] => { results := [.lit (.bool false)], args := [d1, d2] }
  | _ => none }
def RealExactWrongFalsely : Prop := realExactRow.holds Tryd.pinned (OpenSpec.ofChange realExactWrong)

/-- 'spigotlaw03.RealTurns': WHATEVER THE INPUT: true; the input reads as it did. -/
def realTurnsSpec : ChangeSpec := { name := "realTurns", fn := fun _ => fun
  | [d1, d2] => { results := [.lit (.bool true)], args := [d1, d2] }
  | _ => none }
def realTurnsRow : OpenClaim := { program := "ytbpldplbkmabmaadoor", sum := "4d006d1b578e19a0a13016b5de6cdd835bbbfb0fb0cfef88693637ff420ac38e", func := "spigot/spigotlaw03.RealTurns", spec := "realTurns", inPlace := ["math.Float64bits", "math.Float64frombits"], named := ["math/bits.deBruijn64tab"], apart := false, laid := [("math/bits.deBruijn64tab", laid_math_bits_deBruijn64tab)] }
def RealTurnsSaid : Prop := realTurnsRow.holds Tryd.pinned (OpenSpec.ofChange realTurnsSpec)

/-- ITS FALSE NEIGHBOUR: 'it returns false'. Refute it at one input. -/
def realTurnsWrong : ChangeSpec := { name := "realTurns", fn := fun _ => fun
  | [d1, d2] => { results := [.lit (.bool false)], args := [d1, d2] }
  | _ => none }
def RealTurnsWrongFalsely : Prop := realTurnsRow.holds Tryd.pinned (OpenSpec.ofChange realTurnsWrong)

/-- 'spigotlaw03.RealMeets': WHATEVER THE INPUT: true; the input reads as it did. -/
def realMeetsSpec : ChangeSpec := { name := "realMeets", fn := fun _ => fun
  | [d1, d2] => { results := [.lit (.bool true)], args := [d1, d2] }
  | _ => none }
def realMeetsRow : OpenClaim := { program := "ytbpldplbkmabmaadoor", sum := "4d006d1b578e19a0a13016b5de6cdd835bbbfb0fb0cfef88693637ff420ac38e", func := "spigot/spigotlaw03.RealMeets", spec := "realMeets", inPlace := ["math.Float64bits", "math.Float64frombits"], named := ["math/bits.deBruijn64tab"], apart := false, laid := [("math/bits.deBruijn64tab", laid_math_bits_deBruijn64tab)] }
def RealMeetsSaid : Prop := realMeetsRow.holds Tryd.pinned (OpenSpec.ofChange realMeetsSpec)

/-- ITS FALSE NEIGHBOUR: 'it returns false'. Refute it at one input. -/
def realMeetsWrong : ChangeSpec := { name := "realMeets", fn := fun _ => fun
  | [d1, d2] => { results := [.lit (.bool false)], args := [d1, d2] }
  | _ => none }
def RealMeetsWrongFalsely : Prop := realMeetsRow.holds Tryd.pinned (OpenSpec.ofChange realMeetsWrong)

/-- 'spigotlaw03.RealOrders': WHATEVER THE INPUT: true; the input reads as it did. -/
def realOrdersSpec : ChangeSpec := { name := "realOrders", fn := fun _ => fun
  | [d1, d2, d3] => { results := [.lit (.bool true)], args := [d1, d2, d3] }
  | _ => none }
def realOrdersRow : OpenClaim := { program := "ytbpldplbkmabmaadoor", sum := "4d006d1b578e19a0a13016b5de6cdd835bbbfb0fb0cfef88693637ff420ac38e", func := "spigot/spigotlaw03.RealOrders", spec := "realOrders", inPlace := ["math.Float64frombits", "math.Float64bits"], named := ["math/bits.deBruijn64tab"], apart := false, laid := [("math/bits.deBruijn64tab", laid_math_bits_deBruijn64tab)] }
def RealOrdersSaid : Prop := realOrdersRow.holds Tryd.pinned (OpenSpec.ofChange realOrdersSpec)

/-- ITS FALSE NEIGHBOUR: 'it returns false'. Refute it at one input. -/
def realOrdersWrong : ChangeSpec := { name := "realOrders", fn := fun _ => fun
  | [d1, d2, d3] => { results := [.lit (.bool false)], args := [d1, d2, d3] }
  | _ => none }
def RealOrdersWrongFalsely : Prop := realOrdersRow.holds Tryd.pinned (OpenSpec.ofChange realOrdersWrong)

/- THE SECOND FORM. 'bulk': how many values and letters a reading holds, each counted each time it is reached (what is shared counts as often as it is met; a slice's spare places count too). A statement '..UptoSaid' is the law's where the arguments, and the package variables that the reading takes, are together of bulk at most 1048576: NARROWER than '..Said'. Prove '..Said' where nothing that the law and all that it calls make is longer than what came in: it says more and counts as full. Else prove '..UptoSaid'. A law counts once. -/
mutual
def uptoBulk {H : Type} : DataW H → Nat
  | .lit (.string bytes) => bytes.length + 1
  | .lit _ => 1
  | .nil => 1
  | .ptr d => uptoBulk d + 1
  | .slice elems spare => uptoBulkAll elems + uptoBulkAll spare + 1
  | .agg parts => uptoBulkAll parts + 1
  | .iface _ d => uptoBulk d + 1
  | .map entries => uptoBulkEntries entries + 1
  | .held _ => 1
def uptoBulkAll {H : Type} : List (DataW H) → Nat
  | [] => 0
  | d :: r => uptoBulk d + uptoBulkAll r
def uptoBulkEntries {H : Type} : List (Lit × DataW H) → Nat
  | [] => 0
  | x :: r => uptoBulkEntry x + uptoBulkEntries r
def uptoBulkEntry {H : Type} : Lit × DataW H → Nat
  | (.string bytes, d) => bytes.length + uptoBulk d + 1
  | (_, d) => uptoBulk d + 1
 end
def uptoSmall : (H : Type) → List (DataW H) → Bool := fun _ ds => decide (uptoBulkAll ds ≤ 1048576)
def OpenSpec.upto (s : _root_.Go.ChangeSpec) : _root_.Go.OpenSpec := { _root_.Go.OpenSpec.ofChange s with cond := some uptoSmall }

/-- 'spigotlaw04.RateOfs', WHERE WHAT IT READS IS OF BULK AT MOST 1048576: true; the input reads as it did. -/
def rateOfsUptoRow : OpenClaim := { program := "ytbpldplbkmabmaadoor", sum := "4d006d1b578e19a0a13016b5de6cdd835bbbfb0fb0cfef88693637ff420ac38e", func := "spigot/spigotlaw04.RateOfs", spec := "rateOfs", inPlace := ["math.Float64frombits", "math.Float64bits"], named := ["math/bits.deBruijn64tab"], apart := false, laid := [("math/bits.deBruijn64tab", laid_math_bits_deBruijn64tab)], narrowed := true }
def RateOfsUptoSaid : Prop := rateOfsUptoRow.holds Tryd.pinned (OpenSpec.upto rateOfsSpec)

/-- 'spigotlaw04.RateBursts', WHERE WHAT IT READS IS OF BULK AT MOST 1048576: true; the input reads as it did. -/
def rateBurstsUptoRow : OpenClaim := { program := "ytbpldplbkmabmaadoor", sum := "4d006d1b578e19a0a13016b5de6cdd835bbbfb0fb0cfef88693637ff420ac38e", func := "spigot/spigotlaw04.RateBursts", spec := "rateBursts", inPlace := ["math.Float64bits", "math.Float64frombits"], named := ["math/bits.deBruijn64tab"], apart := false, laid := [("math/bits.deBruijn64tab", laid_math_bits_deBruijn64tab)], narrowed := true }
def RateBurstsUptoSaid : Prop := rateBurstsUptoRow.holds Tryd.pinned (OpenSpec.upto rateBurstsSpec)

/-- 'spigotlaw04.RateSpans', WHERE WHAT IT READS IS OF BULK AT MOST 1048576: true; the input reads as it did. -/
def rateSpansUptoRow : OpenClaim := { program := "ytbpldplbkmabmaadoor", sum := "4d006d1b578e19a0a13016b5de6cdd835bbbfb0fb0cfef88693637ff420ac38e", func := "spigot/spigotlaw04.RateSpans", spec := "rateSpans", inPlace := ["math.Float64bits", "math.Float64frombits"], named := ["math/bits.deBruijn64tab"], apart := false, laid := [("math/bits.deBruijn64tab", laid_math_bits_deBruijn64tab)], narrowed := true }
def RateSpansUptoSaid : Prop := rateSpansUptoRow.holds Tryd.pinned (OpenSpec.upto rateSpansSpec)

/-- 'spigotlaw04.RateLimits', WHERE WHAT IT READS IS OF BULK AT MOST 1048576: true; the input reads as it did. -/
def rateLimitsUptoRow : OpenClaim := { program := "ytbpldplbkmabmaadoor", sum := "4d006d1b578e19a0a13016b5de6cdd835bbbfb0fb0cfef88693637ff420ac38e", func := "spigot/spigotlaw04.RateLimits", spec := "rateLimits", inPlace := ["math.Float64bits", "math.Float64frombits"], named := ["math/bits.deBruijn64tab"], apart := false, laid := [("math/bits.deBruijn64tab", laid_math_bits_deBruijn64tab)], narrowed := true }
def RateLimitsUptoSaid : Prop := rateLimitsUptoRow.holds Tryd.pinned (OpenSpec.upto rateLimitsSpec)

/-- 'spigotlaw04.RateNever', WHERE WHAT IT READS IS OF BULK AT MOST 1048576: true; the input reads as it did. -/
def rateNeverUptoRow : OpenClaim := { program := "ytbpldplbkmabmaadoor", sum := "4d006d1b578e19a0a13016b5de6cdd835bbbfb0fb0cfef88693637ff420ac38e", func := "spigot/spigotlaw04.RateNever", spec := "rateNever", inPlace := ["math.Float64bits", "math.Float64frombits"], named := ["math/bits.deBruijn64tab"], apart := false, laid := [("math/bits.deBruijn64tab", laid_math_bits_deBruijn64tab)], narrowed := true }
def RateNeverUptoSaid : Prop := rateNeverUptoRow.holds Tryd.pinned (OpenSpec.upto rateNeverSpec)

/-- 'spigotlaw03.RealKinds', WHERE WHAT IT READS IS OF BULK AT MOST 1048576: true; the input reads as it did. -/
def realKindsUptoRow : OpenClaim := { program := "ytbpldplbkmabmaadoor", sum := "4d006d1b578e19a0a13016b5de6cdd835bbbfb0fb0cfef88693637ff420ac38e", func := "spigot/spigotlaw03.RealKinds", spec := "realKinds", inPlace := ["math.Float64frombits", "math.Float64bits"], named := ["math/bits.deBruijn64tab"], apart := false, laid := [("math/bits.deBruijn64tab", laid_math_bits_deBruijn64tab)], narrowed := true }
def RealKindsUptoSaid : Prop := realKindsUptoRow.holds Tryd.pinned (OpenSpec.upto realKindsSpec)

/-- 'spigotlaw03.RealTicks', WHERE WHAT IT READS IS OF BULK AT MOST 1048576: true; the input reads as it did. -/
def realTicksUptoRow : OpenClaim := { program := "ytbpldplbkmabmaadoor", sum := "4d006d1b578e19a0a13016b5de6cdd835bbbfb0fb0cfef88693637ff420ac38e", func := "spigot/spigotlaw03.RealTicks", spec := "realTicks", inPlace := ["math.Float64frombits", "math.Float64bits"], named := ["math/bits.deBruijn64tab"], apart := false, laid := [("math/bits.deBruijn64tab", laid_math_bits_deBruijn64tab)], narrowed := true }
def RealTicksUptoSaid : Prop := realTicksUptoRow.holds Tryd.pinned (OpenSpec.upto realTicksSpec)

/-- 'spigotlaw03.RealRatios', WHERE WHAT IT READS IS OF BULK AT MOST 1048576: true; the input reads as it did. -/
def realRatiosUptoRow : OpenClaim := { program := "ytbpldplbkmabmaadoor", sum := "4d006d1b578e19a0a13016b5de6cdd835bbbfb0fb0cfef88693637ff420ac38e", func := "spigot/spigotlaw03.RealRatios", spec := "realRatios", inPlace := ["math.Float64bits", "math.Float64frombits"], named := ["math/bits.deBruijn64tab"], apart := false, laid := [("math/bits.deBruijn64tab", laid_math_bits_deBruijn64tab)], narrowed := true }
def RealRatiosUptoSaid : Prop := realRatiosUptoRow.holds Tryd.pinned (OpenSpec.upto realRatiosSpec)

/-- 'spigotlaw03.RealBetween', WHERE WHAT IT READS IS OF BULK AT MOST 1048576: true; the input reads as it did. -/
def realBetweenUptoRow : OpenClaim := { program := "ytbpldplbkmabmaadoor", sum := "4d006d1b578e19a0a13016b5de6cdd835bbbfb0fb0cfef88693637ff420ac38e", func := "spigot/spigotlaw03.RealBetween", spec := "realBetween", inPlace := ["math.Float64bits", "math.Float64frombits"], named := ["math/bits.deBruijn64tab"], apart := false, laid := [("math/bits.deBruijn64tab", laid_math_bits_deBruijn64tab)], narrowed := true }
def RealBetweenUptoSaid : Prop := realBetweenUptoRow.holds Tryd.pinned (OpenSpec.upto realBetweenSpec)

/-- 'spigotlaw03.RealExact', WHERE WHAT IT READS IS OF BULK AT MOST 1048576: true; the input reads as it did. -/
def realExactUptoRow : OpenClaim := { program := "ytbpldplbkmabmaadoor", sum := "4d006d1b578e19a0a13016b5de6cdd835bbbfb0fb0cfef88693637ff420ac38e", func := "spigot/spigotlaw03.RealExact", spec := "realExact", inPlace := ["math.Float64bits", "math.Float64frombits"], named := ["math/bits.deBruijn64tab"], apart := false, laid := [("math/bits.deBruijn64tab", laid_math_bits_deBruijn64tab)], narrowed := true }
def RealExactUptoSaid : Prop := realExactUptoRow.holds Tryd.pinned (OpenSpec.upto realExactSpec)

/-- 'spigotlaw03.RealTurns', WHERE WHAT IT READS IS OF BULK AT MOST 1048576: true; the input reads as it did. -/
def realTurnsUptoRow : OpenClaim := { program := "ytbpldplbkmabmaadoor", sum := "4d006d1b578e19a0a13016b5de6cdd835bbbfb0fb0cfef88693637ff420ac38e", func := "spigot/spigotlaw03.RealTurns", spec := "realTurns", inPlace := ["math.Float64bits", "math.Float64frombits"], named := ["math/bits.deBruijn64tab"], apart := false, laid := [("math/bits.deBruijn64tab", laid_math_bits_deBruijn64tab)], narrowed := true }
def RealTurnsUptoSaid : Prop := realTurnsUptoRow.holds Tryd.pinned (OpenSpec.upto realTurnsSpec)

/-- 'spigotlaw03.RealMeets', WHERE WHAT IT READS IS OF BULK AT MOST 1048576: true; the input reads as it did. -/
def realMeetsUptoRow : OpenClaim := { program := "ytbpldplbkmabmaadoor", sum := "4d006d1b578e19a0a13016b5de6cdd835bbbfb0fb0cfef88693637ff420ac38e", func := "spigot/spigotlaw03.RealMeets", spec := "realMeets", inPlace := ["math.Float64bits", "math.Float64frombits"], named := ["math/bits.deBruijn64tab"], apart := false, laid := [("math/bits.deBruijn64tab", laid_math_bits_deBruijn64tab)], narrowed := true }
def RealMeetsUptoSaid : Prop := realMeetsUptoRow.holds Tryd.pinned (OpenSpec.upto realMeetsSpec)

/-- 'spigotlaw03.RealOrders', WHERE WHAT IT READS IS OF BULK AT MOST 1048576: true; the input reads as it did. -/
def realOrdersUptoRow : OpenClaim := { program := "ytbpldplbkmabmaadoor", sum := "4d006d1b578e19a0a13016b5de6cdd835bbbfb0fb0cfef88693637ff420ac38e", func := "spigot/spigotlaw03.RealOrders", spec := "realOrders", inPlace := ["math.Float64frombits", "math.Float64bits"], named := ["math/bits.deBruijn64tab"], apart := false, laid := [("math/bits.deBruijn64tab", laid_math_bits_deBruijn64tab)], narrowed := true }
def RealOrdersUptoSaid : Prop := realOrdersUptoRow.holds Tryd.pinned (OpenSpec.upto realOrdersSpec)

end Rows
end Go.Proofs.YtbpldplbkmabmaaDoor
