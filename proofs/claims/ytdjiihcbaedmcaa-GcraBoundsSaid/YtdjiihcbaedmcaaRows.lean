/-
  No cell of these rows narrows 'for every input' (looked for: loops, veiled, ifaces, maps, wideKeys, modest, calm, conditions, laid).
  DERIVED. THE GIVEN ROWS OF THIS SEAT. 14 by the template 'for every input the law returns true; each argument reads behind the call as it read before'; 0 by the template 'total and deterministic' (their statements: YtdjiihcbaedmcaaTotals.lean).
  GIVEN WITH THE SEED: the statements are not yours to turn. If you find one false, say at which input.
  Laid BY PROGRAM, IN A SANDBOX (cutbox-rows.mjs): the forced cells as the released guide's own fill.sh prints them over the translation 859d886e2f7019f5… (all of the seat's roots in one cut). By AI agents, Wed Nov 11 2026. No macro, syntax, notation, axiom, sorry.
-/
import Derived.Test.YtdjiihcbaedmcaaChecked
import GoSem.Claim
import GoSem.ClaimJoined
import GoSem.ClaimMapViews
import Derived.JoinedTies
import Derived.KernelRfl
namespace Go.Proofs.Ytdjiihcbaedmcaa
/- THE CELL 'sum', in the pinned program and in every row, IS THE sha256 OF THE DUMP (.gsa) THAT YtdjiihcbaedmcaaProg.lean LOADS. Nothing in Lean hashes anything: it is a label: what it is worth is what the hold of that sum in a sandbox is worth. -/
noncomputable def Try.pinned : Pinned := { name := "ytdjiihcbaedmcaa", sum := "859d886e2f7019f59da30baf02208f399d31abefdfd83372f6c33607f99e912b", checked := Try.checked }
namespace Rows
def none {H : Type} : Left H := { results := [], args := [] }

/-- 'spigotlaw01.TickClamps': WHATEVER THE INPUT: true; the input reads as it did. -/
def tickClampsSpec : ChangeSpec := { name := "tickClamps", fn := fun _ => fun
  | [d] => { results := [.lit (.bool true)], args := [d] }
  | _ => none }
def tickClampsRow : OpenClaim := { program := "ytdjiihcbaedmcaa", sum := "859d886e2f7019f59da30baf02208f399d31abefdfd83372f6c33607f99e912b", func := "spigot/spigotlaw01.TickClamps", spec := "tickClamps", apart := false }
def TickClampsSaid : Prop := tickClampsRow.holds Try.pinned (OpenSpec.ofChange tickClampsSpec)

/-- ITS FALSE NEIGHBOUR: 'it returns false'. Refute it at one input. -/
def tickClampsWrong : ChangeSpec := { name := "tickClamps", fn := fun _ => fun
  | [d] => { results := [.lit (.bool false)], args := [d] }
  | _ => none }
def TickClampsWrongFalsely : Prop := tickClampsRow.holds Try.pinned (OpenSpec.ofChange tickClampsWrong)

/-- 'spigotlaw01.TickSums': WHATEVER THE INPUT: true; the input reads as it did. -/
def tickSumsSpec : ChangeSpec := { name := "tickSums", fn := fun _ => fun
  | [d1, d2] => { results := [.lit (.bool true)], args := [d1, d2] }
  | _ => none }
def tickSumsRow : OpenClaim := { program := "ytdjiihcbaedmcaa", sum := "859d886e2f7019f59da30baf02208f399d31abefdfd83372f6c33607f99e912b", func := "spigot/spigotlaw01.TickSums", spec := "tickSums", apart := false }
def TickSumsSaid : Prop := tickSumsRow.holds Try.pinned (OpenSpec.ofChange tickSumsSpec)

/-- ITS FALSE NEIGHBOUR: 'it returns false'. Refute it at one input. -/
def tickSumsWrong : ChangeSpec := { name := "tickSums", fn := fun _ => fun
  | [d1, d2] => { results := [.lit (.bool false)], args := [d1, d2] }
  | _ => none }
def TickSumsWrongFalsely : Prop := tickSumsRow.holds Try.pinned (OpenSpec.ofChange tickSumsWrong)

/-- 'spigotlaw01.TickLaws': WHATEVER THE INPUT: true; the input reads as it did. -/
def tickLawsSpec : ChangeSpec := { name := "tickLaws", fn := fun _ => fun
  | [d1, d2, d3] => { results := [.lit (.bool true)], args := [d1, d2, d3] }
  | _ => none }
def tickLawsRow : OpenClaim := { program := "ytdjiihcbaedmcaa", sum := "859d886e2f7019f59da30baf02208f399d31abefdfd83372f6c33607f99e912b", func := "spigot/spigotlaw01.TickLaws", spec := "tickLaws", apart := false }
def TickLawsSaid : Prop := tickLawsRow.holds Try.pinned (OpenSpec.ofChange tickLawsSpec)

/-- ITS FALSE NEIGHBOUR: 'it returns false'. Refute it at one input. -/
def tickLawsWrong : ChangeSpec := { name := "tickLaws", fn := fun _ => fun
  | [d1, d2, d3] => { results := [.lit (.bool false)], args := [d1, d2, d3] }
  | _ => none }
def TickLawsWrongFalsely : Prop := tickLawsRow.holds Try.pinned (OpenSpec.ofChange tickLawsWrong)

/-- 'spigotlaw01.TickRises': WHATEVER THE INPUT: true; the input reads as it did. -/
def tickRisesSpec : ChangeSpec := { name := "tickRises", fn := fun _ => fun
  | [d1, d2, d3] => { results := [.lit (.bool true)], args := [d1, d2, d3] }
  | _ => none }
def tickRisesRow : OpenClaim := { program := "ytdjiihcbaedmcaa", sum := "859d886e2f7019f59da30baf02208f399d31abefdfd83372f6c33607f99e912b", func := "spigot/spigotlaw01.TickRises", spec := "tickRises", apart := false }
def TickRisesSaid : Prop := tickRisesRow.holds Try.pinned (OpenSpec.ofChange tickRisesSpec)

/-- ITS FALSE NEIGHBOUR: 'it returns false'. Refute it at one input. -/
def tickRisesWrong : ChangeSpec := { name := "tickRises", fn := fun _ => fun
  | [d1, d2, d3] => { results := [.lit (.bool false)], args := [d1, d2, d3] }
  | _ => none }
def TickRisesWrongFalsely : Prop := tickRisesRow.holds Try.pinned (OpenSpec.ofChange tickRisesWrong)

/-- 'spigotlaw01.TickQuotients': WHATEVER THE INPUT: true; the input reads as it did. -/
def tickQuotientsSpec : ChangeSpec := { name := "tickQuotients", fn := fun _ => fun
  | [d1, d2] => { results := [.lit (.bool true)], args := [d1, d2] }
  | _ => none }
def tickQuotientsRow : OpenClaim := { program := "ytdjiihcbaedmcaa", sum := "859d886e2f7019f59da30baf02208f399d31abefdfd83372f6c33607f99e912b", func := "spigot/spigotlaw01.TickQuotients", spec := "tickQuotients", apart := false }
def TickQuotientsSaid : Prop := tickQuotientsRow.holds Try.pinned (OpenSpec.ofChange tickQuotientsSpec)

/-- ITS FALSE NEIGHBOUR: 'it returns false'. Refute it at one input. -/
def tickQuotientsWrong : ChangeSpec := { name := "tickQuotients", fn := fun _ => fun
  | [d1, d2] => { results := [.lit (.bool false)], args := [d1, d2] }
  | _ => none }
def TickQuotientsWrongFalsely : Prop := tickQuotientsRow.holds Try.pinned (OpenSpec.ofChange tickQuotientsWrong)

/-- 'spigotlaw01.TickDivides': WHATEVER THE INPUT: true; the input reads as it did. -/
def tickDividesSpec : ChangeSpec := { name := "tickDivides", fn := fun _ => fun
  | [d1, d2] => { results := [.lit (.bool true)], args := [d1, d2] }
  | _ => none }
def tickDividesRow : OpenClaim := { program := "ytdjiihcbaedmcaa", sum := "859d886e2f7019f59da30baf02208f399d31abefdfd83372f6c33607f99e912b", func := "spigot/spigotlaw01.TickDivides", spec := "tickDivides", apart := false }
def TickDividesSaid : Prop := tickDividesRow.holds Try.pinned (OpenSpec.ofChange tickDividesSpec)

/-- ITS FALSE NEIGHBOUR: 'it returns false'. Refute it at one input. -/
def tickDividesWrong : ChangeSpec := { name := "tickDivides", fn := fun _ => fun
  | [d1, d2] => { results := [.lit (.bool false)], args := [d1, d2] }
  | _ => none }
def TickDividesWrongFalsely : Prop := tickDividesRow.holds Try.pinned (OpenSpec.ofChange tickDividesWrong)

/-- 'spigotlaw05.GcraDecides': WHATEVER THE INPUT: true; the input reads as it did. -/
def gcraDecidesSpec : ChangeSpec := { name := "gcraDecides", fn := fun _ => fun
  | [d1, d2, d3, d4] => { results := [.lit (.bool true)], args := [d1, d2, d3, d4] }
  | _ => none }
def gcraDecidesRow : OpenClaim := { program := "ytdjiihcbaedmcaa", sum := "859d886e2f7019f59da30baf02208f399d31abefdfd83372f6c33607f99e912b", func := "spigot/spigotlaw05.GcraDecides", spec := "gcraDecides", apart := false }
def GcraDecidesSaid : Prop := gcraDecidesRow.holds Try.pinned (OpenSpec.ofChange gcraDecidesSpec)

/-- ITS FALSE NEIGHBOUR: 'it returns false'. Refute it at one input. -/
def gcraDecidesWrong : ChangeSpec := { name := "gcraDecides", fn := fun _ => fun
  | [d1, d2, d3, d4] => { results := [.lit (.bool false)], args := [d1, d2, d3, d4] }
  | _ => none }
def GcraDecidesWrongFalsely : Prop := gcraDecidesRow.holds Try.pinned (OpenSpec.ofChange gcraDecidesWrong)

/-- 'spigotlaw05.GcraWaits': WHATEVER THE INPUT: true; the input reads as it did. -/
def gcraWaitsSpec : ChangeSpec := { name := "gcraWaits", fn := fun _ => fun
  | [d1, d2, d3, d4] => { results := [.lit (.bool true)], args := [d1, d2, d3, d4] }
  | _ => none }
def gcraWaitsRow : OpenClaim := { program := "ytdjiihcbaedmcaa", sum := "859d886e2f7019f59da30baf02208f399d31abefdfd83372f6c33607f99e912b", func := "spigot/spigotlaw05.GcraWaits", spec := "gcraWaits", apart := false }
def GcraWaitsSaid : Prop := gcraWaitsRow.holds Try.pinned (OpenSpec.ofChange gcraWaitsSpec)

/-- ITS FALSE NEIGHBOUR: 'it returns false'. Refute it at one input. -/
def gcraWaitsWrong : ChangeSpec := { name := "gcraWaits", fn := fun _ => fun
  | [d1, d2, d3, d4] => { results := [.lit (.bool false)], args := [d1, d2, d3, d4] }
  | _ => none }
def GcraWaitsWrongFalsely : Prop := gcraWaitsRow.holds Try.pinned (OpenSpec.ofChange gcraWaitsWrong)

/-- 'spigotlaw05.GcraParts': WHATEVER THE INPUT: true; the input reads as it did. -/
def gcraPartsSpec : ChangeSpec := { name := "gcraParts", fn := fun _ => fun
  | [d1, d2, d3, d4, d5] => { results := [.lit (.bool true)], args := [d1, d2, d3, d4, d5] }
  | _ => none }
def gcraPartsRow : OpenClaim := { program := "ytdjiihcbaedmcaa", sum := "859d886e2f7019f59da30baf02208f399d31abefdfd83372f6c33607f99e912b", func := "spigot/spigotlaw05.GcraParts", spec := "gcraParts", apart := false }
def GcraPartsSaid : Prop := gcraPartsRow.holds Try.pinned (OpenSpec.ofChange gcraPartsSpec)

/-- ITS FALSE NEIGHBOUR: 'it returns false'. Refute it at one input. -/
def gcraPartsWrong : ChangeSpec := { name := "gcraParts", fn := fun _ => fun
  | [d1, d2, d3, d4, d5] => { results := [.lit (.bool false)], args := [d1, d2, d3, d4, d5] }
  | _ => none }
def GcraPartsWrongFalsely : Prop := gcraPartsRow.holds Try.pinned (OpenSpec.ofChange gcraPartsWrong)

/-- 'spigotlaw05.GcraIdle': WHATEVER THE INPUT: true; the input reads as it did. -/
def gcraIdleSpec : ChangeSpec := { name := "gcraIdle", fn := fun _ => fun
  | [d1, d2, d3, d4, d5] => { results := [.lit (.bool true)], args := [d1, d2, d3, d4, d5] }
  | _ => none }
def gcraIdleRow : OpenClaim := { program := "ytdjiihcbaedmcaa", sum := "859d886e2f7019f59da30baf02208f399d31abefdfd83372f6c33607f99e912b", func := "spigot/spigotlaw05.GcraIdle", spec := "gcraIdle", apart := false }
def GcraIdleSaid : Prop := gcraIdleRow.holds Try.pinned (OpenSpec.ofChange gcraIdleSpec)

/-- ITS FALSE NEIGHBOUR: 'it returns false'. Refute it at one input. -/
def gcraIdleWrong : ChangeSpec := { name := "gcraIdle", fn := fun _ => fun
  | [d1, d2, d3, d4, d5] => { results := [.lit (.bool false)], args := [d1, d2, d3, d4, d5] }
  | _ => none }
def GcraIdleWrongFalsely : Prop := gcraIdleRow.holds Try.pinned (OpenSpec.ofChange gcraIdleWrong)

/-- 'spigotlaw05.GcraLefts': WHATEVER THE INPUT: true; the input reads as it did. -/
def gcraLeftsSpec : ChangeSpec := { name := "gcraLefts", fn := fun _ => fun
  | [d1, d2, d3] => { results := [.lit (.bool true)], args := [d1, d2, d3] }
  | _ => none }
def gcraLeftsRow : OpenClaim := { program := "ytdjiihcbaedmcaa", sum := "859d886e2f7019f59da30baf02208f399d31abefdfd83372f6c33607f99e912b", func := "spigot/spigotlaw05.GcraLefts", spec := "gcraLefts", apart := false }
def GcraLeftsSaid : Prop := gcraLeftsRow.holds Try.pinned (OpenSpec.ofChange gcraLeftsSpec)

/-- ITS FALSE NEIGHBOUR: 'it returns false'. Refute it at one input. -/
def gcraLeftsWrong : ChangeSpec := { name := "gcraLefts", fn := fun _ => fun
  | [d1, d2, d3] => { results := [.lit (.bool false)], args := [d1, d2, d3] }
  | _ => none }
def GcraLeftsWrongFalsely : Prop := gcraLeftsRow.holds Try.pinned (OpenSpec.ofChange gcraLeftsWrong)

/-- 'spigotlaw05.GcraOnce': WHATEVER THE INPUT: true; the input reads as it did. -/
def gcraOnceSpec : ChangeSpec := { name := "gcraOnce", fn := fun _ => fun
  | [d1, d2] => { results := [.lit (.bool true)], args := [d1, d2] }
  | _ => none }
def gcraOnceRow : OpenClaim := { program := "ytdjiihcbaedmcaa", sum := "859d886e2f7019f59da30baf02208f399d31abefdfd83372f6c33607f99e912b", func := "spigot/spigotlaw05.GcraOnce", spec := "gcraOnce", apart := false }
def GcraOnceSaid : Prop := gcraOnceRow.holds Try.pinned (OpenSpec.ofChange gcraOnceSpec)

/-- ITS FALSE NEIGHBOUR: 'it returns false'. Refute it at one input. -/
def gcraOnceWrong : ChangeSpec := { name := "gcraOnce", fn := fun _ => fun
  | [d1, d2] => { results := [.lit (.bool false)], args := [d1, d2] }
  | _ => none }
def GcraOnceWrongFalsely : Prop := gcraOnceRow.holds Try.pinned (OpenSpec.ofChange gcraOnceWrong)

/-- 'spigotlaw05.GcraRuns': WHATEVER THE INPUT: true; the input reads as it did. -/
def gcraRunsSpec : ChangeSpec := { name := "gcraRuns", fn := fun _ => fun
  | [d1, d2, d3] => { results := [.lit (.bool true)], args := [d1, d2, d3] }
  | _ => none }
def gcraRunsRow : OpenClaim := { program := "ytdjiihcbaedmcaa", sum := "859d886e2f7019f59da30baf02208f399d31abefdfd83372f6c33607f99e912b", func := "spigot/spigotlaw05.GcraRuns", spec := "gcraRuns", apart := false }
def GcraRunsSaid : Prop := gcraRunsRow.holds Try.pinned (OpenSpec.ofChange gcraRunsSpec)

/-- ITS FALSE NEIGHBOUR: 'it returns false'. Refute it at one input. -/
def gcraRunsWrong : ChangeSpec := { name := "gcraRuns", fn := fun _ => fun
  | [d1, d2, d3] => { results := [.lit (.bool false)], args := [d1, d2, d3] }
  | _ => none }
def GcraRunsWrongFalsely : Prop := gcraRunsRow.holds Try.pinned (OpenSpec.ofChange gcraRunsWrong)

/-- 'spigotlaw05.GcraBounds': WHATEVER THE INPUT: true; the input reads as it did. -/
def gcraBoundsSpec : ChangeSpec := { name := "gcraBounds", fn := fun _ => fun
  | [d1, d2, d3, d4, d5] => { results := [.lit (.bool true)], args := [d1, d2, d3, d4, d5] }
  | _ => none }
def gcraBoundsRow : OpenClaim := { program := "ytdjiihcbaedmcaa", sum := "859d886e2f7019f59da30baf02208f399d31abefdfd83372f6c33607f99e912b", func := "spigot/spigotlaw05.GcraBounds", spec := "gcraBounds", apart := false }
def GcraBoundsSaid : Prop := gcraBoundsRow.holds Try.pinned (OpenSpec.ofChange gcraBoundsSpec)

/-- ITS FALSE NEIGHBOUR: 'it returns false'. Refute it at one input. -/
def gcraBoundsWrong : ChangeSpec := { name := "gcraBounds", fn := fun _ => fun
  | [d1, d2, d3, d4, d5] => { results := [.lit (.bool false)], args := [d1, d2, d3, d4, d5] }
  | _ => none }
def GcraBoundsWrongFalsely : Prop := gcraBoundsRow.holds Try.pinned (OpenSpec.ofChange gcraBoundsWrong)

/- THE SECOND FORM. 'bulk': how many values and letters a reading holds, each counted each time it is reached (what is shared counts as often as it is met; a slice's spare places count too). A statement '..UptoSaid' is the law's where the arguments, and the package variables that the reading takes, are together of bulk at most 1048576: NARROWER than '..Said'. Prove '..Said' where nothing that the law and all that it calls make is longer than what came in: it says more and counts as full. Else prove '..UptoSaid'. A law counts once. -/
mutual
def uptoBulk {H : Type} : DataW H → Nat
  | .lit (.string bytes) => bytes.length + 1
  | .lit _ => 1
  | .nil => 1
  | .ptr d => uptoBulk d + 1
  | .slice elems spare => uptoBulkAll elems + uptoBulkAll spare + 1
  | .agg parts => uptoBulkAll parts + 1
  | .iface _ d => uptoBulk d + 1
  | .map entries => uptoBulkEntries entries + 1
  | .held _ => 1
def uptoBulkAll {H : Type} : List (DataW H) → Nat
  | [] => 0
  | d :: r => uptoBulk d + uptoBulkAll r
def uptoBulkEntries {H : Type} : List (Lit × DataW H) → Nat
  | [] => 0
  | x :: r => uptoBulkEntry x + uptoBulkEntries r
def uptoBulkEntry {H : Type} : Lit × DataW H → Nat
  | (.string bytes, d) => bytes.length + uptoBulk d + 1
  | (_, d) => uptoBulk d + 1
 end
def uptoSmall : (H : Type) → List (DataW H) → Bool := fun _ ds => decide (uptoBulkAll ds ≤ 1048576)
def OpenSpec.upto (s : _root_.Go.ChangeSpec) : _root_.Go.OpenSpec := { _root_.Go.OpenSpec.ofChange s with cond := some uptoSmall }

/-- 'spigotlaw01.TickClamps', WHERE WHAT IT READS IS OF BULK AT MOST 1048576: true; the input reads as it did. -/
def tickClampsUptoRow : OpenClaim := { program := "ytdjiihcbaedmcaa", sum := "859d886e2f7019f59da30baf02208f399d31abefdfd83372f6c33607f99e912b", func := "spigot/spigotlaw01.TickClamps", spec := "tickClamps", apart := false, narrowed := true }
def TickClampsUptoSaid : Prop := tickClampsUptoRow.holds Try.pinned (OpenSpec.upto tickClampsSpec)

/-- 'spigotlaw01.TickSums', WHERE WHAT IT READS IS OF BULK AT MOST 1048576: true; the input reads as it did. -/
def tickSumsUptoRow : OpenClaim := { program := "ytdjiihcbaedmcaa", sum := "859d886e2f7019f59da30baf02208f399d31abefdfd83372f6c33607f99e912b", func := "spigot/spigotlaw01.TickSums", spec := "tickSums", apart := false, narrowed := true }
def TickSumsUptoSaid : Prop := tickSumsUptoRow.holds Try.pinned (OpenSpec.upto tickSumsSpec)

/-- 'spigotlaw01.TickLaws', WHERE WHAT IT READS IS OF BULK AT MOST 1048576: true; the input reads as it did. -/
def tickLawsUptoRow : OpenClaim := { program := "ytdjiihcbaedmcaa", sum := "859d886e2f7019f59da30baf02208f399d31abefdfd83372f6c33607f99e912b", func := "spigot/spigotlaw01.TickLaws", spec := "tickLaws", apart := false, narrowed := true }
def TickLawsUptoSaid : Prop := tickLawsUptoRow.holds Try.pinned (OpenSpec.upto tickLawsSpec)

/-- 'spigotlaw01.TickRises', WHERE WHAT IT READS IS OF BULK AT MOST 1048576: true; the input reads as it did. -/
def tickRisesUptoRow : OpenClaim := { program := "ytdjiihcbaedmcaa", sum := "859d886e2f7019f59da30baf02208f399d31abefdfd83372f6c33607f99e912b", func := "spigot/spigotlaw01.TickRises", spec := "tickRises", apart := false, narrowed := true }
def TickRisesUptoSaid : Prop := tickRisesUptoRow.holds Try.pinned (OpenSpec.upto tickRisesSpec)

/-- 'spigotlaw01.TickQuotients', WHERE WHAT IT READS IS OF BULK AT MOST 1048576: true; the input reads as it did. -/
def tickQuotientsUptoRow : OpenClaim := { program := "ytdjiihcbaedmcaa", sum := "859d886e2f7019f59da30baf02208f399d31abefdfd83372f6c33607f99e912b", func := "spigot/spigotlaw01.TickQuotients", spec := "tickQuotients", apart := false, narrowed := true }
def TickQuotientsUptoSaid : Prop := tickQuotientsUptoRow.holds Try.pinned (OpenSpec.upto tickQuotientsSpec)

/-- 'spigotlaw01.TickDivides', WHERE WHAT IT READS IS OF BULK AT MOST 1048576: true; the input reads as it did. -/
def tickDividesUptoRow : OpenClaim := { program := "ytdjiihcbaedmcaa", sum := "859d886e2f7019f59da30baf02208f399d31abefdfd83372f6c33607f99e912b", func := "spigot/spigotlaw01.TickDivides", spec := "tickDivides", apart := false, narrowed := true }
def TickDividesUptoSaid : Prop := tickDividesUptoRow.holds Try.pinned (OpenSpec.upto tickDividesSpec)

/-- 'spigotlaw05.GcraDecides', WHERE WHAT IT READS IS OF BULK AT MOST 1048576: true; the input reads as it did. -/
def gcraDecidesUptoRow : OpenClaim := { program := "ytdjiihcbaedmcaa", sum := "859d886e2f7019f59da30baf02208f399d31abefdfd83372f6c33607f99e912b", func := "spigot/spigotlaw05.GcraDecides", spec := "gcraDecides", apart := false, narrowed := true }
def GcraDecidesUptoSaid : Prop := gcraDecidesUptoRow.holds Try.pinned (OpenSpec.upto gcraDecidesSpec)

/-- 'spigotlaw05.GcraWaits', WHERE WHAT IT READS IS OF BULK AT MOST 1048576: true; the input reads as it did. -/
def gcraWaitsUptoRow : OpenClaim := { program := "ytdjiihcbaedmcaa", sum := "859d886e2f7019f59da30baf02208f399d31abefdfd83372f6c33607f99e912b", func := "spigot/spigotlaw05.GcraWaits", spec := "gcraWaits", apart := false, narrowed := true }
def GcraWaitsUptoSaid : Prop := gcraWaitsUptoRow.holds Try.pinned (OpenSpec.upto gcraWaitsSpec)

/-- 'spigotlaw05.GcraParts', WHERE WHAT IT READS IS OF BULK AT MOST 1048576: true; the input reads as it did. -/
def gcraPartsUptoRow : OpenClaim := { program := "ytdjiihcbaedmcaa", sum := "859d886e2f7019f59da30baf02208f399d31abefdfd83372f6c33607f99e912b", func := "spigot/spigotlaw05.GcraParts", spec := "gcraParts", apart := false, narrowed := true }
def GcraPartsUptoSaid : Prop := gcraPartsUptoRow.holds Try.pinned (OpenSpec.upto gcraPartsSpec)

/-- 'spigotlaw05.GcraIdle', WHERE WHAT IT READS IS OF BULK AT MOST 1048576: true; the input reads as it did. -/
def gcraIdleUptoRow : OpenClaim := { program := "ytdjiihcbaedmcaa", sum := "859d886e2f7019f59da30baf02208f399d31abefdfd83372f6c33607f99e912b", func := "spigot/spigotlaw05.GcraIdle", spec := "gcraIdle", apart := false, narrowed := true }
def GcraIdleUptoSaid : Prop := gcraIdleUptoRow.holds Try.pinned (OpenSpec.upto gcraIdleSpec)

/-- 'spigotlaw05.GcraLefts', WHERE WHAT IT READS IS OF BULK AT MOST 1048576: true; the input reads as it did. -/
def gcraLeftsUptoRow : OpenClaim := { program := "ytdjiihcbaedmcaa", sum := "859d886e2f7019f59da30baf02208f399d31abefdfd83372f6c33607f99e912b", func := "spigot/spigotlaw05.GcraLefts", spec := "gcraLefts", apart := false, narrowed := true }
def GcraLeftsUptoSaid : Prop := gcraLeftsUptoRow.holds Try.pinned (OpenSpec.upto gcraLeftsSpec)

/-- 'spigotlaw05.GcraOnce', WHERE WHAT IT READS IS OF BULK AT MOST 1048576: true; the input reads as it did. -/
def gcraOnceUptoRow : OpenClaim := { program := "ytdjiihcbaedmcaa", sum := "859d886e2f7019f59da30baf02208f399d31abefdfd83372f6c33607f99e912b", func := "spigot/spigotlaw05.GcraOnce", spec := "gcraOnce", apart := false, narrowed := true }
def GcraOnceUptoSaid : Prop := gcraOnceUptoRow.holds Try.pinned (OpenSpec.upto gcraOnceSpec)

/-- 'spigotlaw05.GcraRuns', WHERE WHAT IT READS IS OF BULK AT MOST 1048576: true; the input reads as it did. -/
def gcraRunsUptoRow : OpenClaim := { program := "ytdjiihcbaedmcaa", sum := "859d886e2f7019f59da30baf02208f399d31abefdfd83372f6c33607f99e912b", func := "spigot/spigotlaw05.GcraRuns", spec := "gcraRuns", apart := false, narrowed := true }
def GcraRunsUptoSaid : Prop := gcraRunsUptoRow.holds Try.pinned (OpenSpec.upto gcraRunsSpec)

/-- 'spigotlaw05.GcraBounds', WHERE WHAT IT READS IS OF BULK AT MOST 1048576: true; the input reads as it did. -/
def gcraBoundsUptoRow : OpenClaim := { program := "ytdjiihcbaedmcaa", sum := "859d886e2f7019f59da30baf02208f399d31abefdfd83372f6c33607f99e912b", func := "spigot/spigotlaw05.GcraBounds", spec := "gcraBounds", apart := false, narrowed := true }
def GcraBoundsUptoSaid : Prop := gcraBoundsUptoRow.holds Try.pinned (OpenSpec.upto gcraBoundsSpec)

end Rows
end Go.Proofs.Ytdjiihcbaedmcaa
