/-
  DERIVED. GIVEN WITH THE SEED: THE CARDS: each row of YtbpldplbkmabmaaDoorRows.lean that lists a variable, with what it lists TIED to the program's text (the seventh form; the later family's looks); each row that meets fmt, with fmt's text TOLD by the authors' own Lean function (tested against real Go, not proved from fmt's source: count such statements apart). THE CARD IS WHAT COUNTS. Prove the row's statement (the work); the ties are given (YtbpldplbkmabmaaDoorTie.lean); close each card by the builder's one call (the guide's Derived/Test/ToyasCard.lean, 'card_holds'). Laid BY PROGRAM, IN A SANDBOX (cutbox-door.mjs). By AI agents, Wed Nov 11 2026. No macro, syntax, notation, axiom, sorry.
-/
import Derived.Test.YtbpldplbkmabmaaDoorRows
import GoSem.ClaimSeven
namespace Go.Proofs.YtbpldplbkmabmaaDoor
namespace Rows

/-- THE TIED CARD OF 'spigotlaw04.RateOfs'. -/
def rateOfsCard : Claim7 := { stood := { row := rateOfsRow, standIns := [], harness := (true, "85d269bd228afe2ef34ed2e288f7f1f4278f0a5f8bd47cb8147d3cef28d2a950"), looks := false }, kinds := [], alts := [], laidByText := true, laidKinds := [.data], laidTests := true, laidLooks := .later }
def RateOfsCardSaid : Prop := Claim7.holds Tryd.pinned (.plain (OpenSpec.ofChange rateOfsSpec)) rateOfsCard

/-- THE TIED CARD OF 'spigotlaw04.RateBursts'. -/
def rateBurstsCard : Claim7 := { stood := { row := rateBurstsRow, standIns := [], harness := (true, "85d269bd228afe2ef34ed2e288f7f1f4278f0a5f8bd47cb8147d3cef28d2a950"), looks := false }, kinds := [], alts := [], laidByText := true, laidKinds := [.data], laidTests := true, laidLooks := .later }
def RateBurstsCardSaid : Prop := Claim7.holds Tryd.pinned (.plain (OpenSpec.ofChange rateBurstsSpec)) rateBurstsCard

/-- THE TIED CARD OF 'spigotlaw04.RateSpans'. -/
def rateSpansCard : Claim7 := { stood := { row := rateSpansRow, standIns := [], harness := (true, "85d269bd228afe2ef34ed2e288f7f1f4278f0a5f8bd47cb8147d3cef28d2a950"), looks := false }, kinds := [], alts := [], laidByText := true, laidKinds := [.data], laidTests := true, laidLooks := .later }
def RateSpansCardSaid : Prop := Claim7.holds Tryd.pinned (.plain (OpenSpec.ofChange rateSpansSpec)) rateSpansCard

/-- THE TIED CARD OF 'spigotlaw04.RateLimits'. -/
def rateLimitsCard : Claim7 := { stood := { row := rateLimitsRow, standIns := [], harness := (true, "85d269bd228afe2ef34ed2e288f7f1f4278f0a5f8bd47cb8147d3cef28d2a950"), looks := false }, kinds := [], alts := [], laidByText := true, laidKinds := [.data], laidTests := true, laidLooks := .later }
def RateLimitsCardSaid : Prop := Claim7.holds Tryd.pinned (.plain (OpenSpec.ofChange rateLimitsSpec)) rateLimitsCard

/-- THE TIED CARD OF 'spigotlaw04.RateNever'. -/
def rateNeverCard : Claim7 := { stood := { row := rateNeverRow, standIns := [], harness := (true, "85d269bd228afe2ef34ed2e288f7f1f4278f0a5f8bd47cb8147d3cef28d2a950"), looks := false }, kinds := [], alts := [], laidByText := true, laidKinds := [.data], laidTests := true, laidLooks := .later }
def RateNeverCardSaid : Prop := Claim7.holds Tryd.pinned (.plain (OpenSpec.ofChange rateNeverSpec)) rateNeverCard

/-- THE TIED CARD OF 'spigotlaw03.RealKinds'. -/
def realKindsCard : Claim7 := { stood := { row := realKindsRow, standIns := [], harness := (true, "85d269bd228afe2ef34ed2e288f7f1f4278f0a5f8bd47cb8147d3cef28d2a950"), looks := false }, kinds := [], alts := [], laidByText := true, laidKinds := [.data], laidTests := true, laidLooks := .later }
def RealKindsCardSaid : Prop := Claim7.holds Tryd.pinned (.plain (OpenSpec.ofChange realKindsSpec)) realKindsCard

/-- THE TIED CARD OF 'spigotlaw03.RealTicks'. -/
def realTicksCard : Claim7 := { stood := { row := realTicksRow, standIns := [], harness := (true, "85d269bd228afe2ef34ed2e288f7f1f4278f0a5f8bd47cb8147d3cef28d2a950"), looks := false }, kinds := [], alts := [], laidByText := true, laidKinds := [.data], laidTests := true, laidLooks := .later }
def RealTicksCardSaid : Prop := Claim7.holds Tryd.pinned (.plain (OpenSpec.ofChange realTicksSpec)) realTicksCard

/-- THE TIED CARD OF 'spigotlaw03.RealRatios'. -/
def realRatiosCard : Claim7 := { stood := { row := realRatiosRow, standIns := [], harness := (true, "85d269bd228afe2ef34ed2e288f7f1f4278f0a5f8bd47cb8147d3cef28d2a950"), looks := false }, kinds := [], alts := [], laidByText := true, laidKinds := [.data], laidTests := true, laidLooks := .later }
def RealRatiosCardSaid : Prop := Claim7.holds Tryd.pinned (.plain (OpenSpec.ofChange realRatiosSpec)) realRatiosCard

/-- THE TIED CARD OF 'spigotlaw03.RealBetween'. -/
def realBetweenCard : Claim7 := { stood := { row := realBetweenRow, standIns := [], harness := (true, "85d269bd228afe2ef34ed2e288f7f1f4278f0a5f8bd47cb8147d3cef28d2a950"), looks := false }, kinds := [], alts := [], laidByText := true, laidKinds := [.data], laidTests := true, laidLooks := .later }
def RealBetweenCardSaid : Prop := Claim7.holds Tryd.pinned (.plain (OpenSpec.ofChange realBetweenSpec)) realBetweenCard

/-- THE TIED CARD OF 'spigotlaw03.RealExact'. -/
def realExactCard : Claim7 := { stood := { row := realExactRow, standIns := [], harness := (true, "85d269bd228afe2ef34ed2e288f7f1f4278f0a5f8bd47cb8147d3cef28d2a950"), looks := false }, kinds := [], alts := [], laidByText := true, laidKinds := [.data], laidTests := true, laidLooks := .later }
def RealExactCardSaid : Prop := Claim7.holds Tryd.pinned (.plain (OpenSpec.ofChange realExactSpec)) realExactCard

/-- THE TIED CARD OF 'spigotlaw03.RealTurns'. -/
def realTurnsCard : Claim7 := { stood := { row := realTurnsRow, standIns := [], harness := (true, "85d269bd228afe2ef34ed2e288f7f1f4278f0a5f8bd47cb8147d3cef28d2a950"), looks := false }, kinds := [], alts := [], laidByText := true, laidKinds := [.data], laidTests := true, laidLooks := .later }
def RealTurnsCardSaid : Prop := Claim7.holds Tryd.pinned (.plain (OpenSpec.ofChange realTurnsSpec)) realTurnsCard

/-- THE TIED CARD OF 'spigotlaw03.RealMeets'. -/
def realMeetsCard : Claim7 := { stood := { row := realMeetsRow, standIns := [], harness := (true, "85d269bd228afe2ef34ed2e288f7f1f4278f0a5f8bd47cb8147d3cef28d2a950"), looks := false }, kinds := [], alts := [], laidByText := true, laidKinds := [.data], laidTests := true, laidLooks := .later }
def RealMeetsCardSaid : Prop := Claim7.holds Tryd.pinned (.plain (OpenSpec.ofChange realMeetsSpec)) realMeetsCard

/-- THE TIED CARD OF 'spigotlaw03.RealOrders'. -/
def realOrdersCard : Claim7 := { stood := { row := realOrdersRow, standIns := [], harness := (true, "85d269bd228afe2ef34ed2e288f7f1f4278f0a5f8bd47cb8147d3cef28d2a950"), looks := false }, kinds := [], alts := [], laidByText := true, laidKinds := [.data], laidTests := true, laidLooks := .later }
def RealOrdersCardSaid : Prop := Claim7.holds Tryd.pinned (.plain (OpenSpec.ofChange realOrdersSpec)) realOrdersCard

/-- THE SECOND FORM's CARD OF 'spigotlaw04.RateOfs'. -/
def rateOfsUptoCard : Claim7 := { stood := { row := rateOfsUptoRow, standIns := [], harness := (true, "85d269bd228afe2ef34ed2e288f7f1f4278f0a5f8bd47cb8147d3cef28d2a950"), looks := false }, kinds := [], alts := [], laidByText := true, laidKinds := [.data], laidTests := true, laidLooks := .later }
def RateOfsUptoCardSaid : Prop := Claim7.holds Tryd.pinned (.plain (OpenSpec.upto rateOfsSpec)) rateOfsUptoCard

/-- THE SECOND FORM's CARD OF 'spigotlaw04.RateBursts'. -/
def rateBurstsUptoCard : Claim7 := { stood := { row := rateBurstsUptoRow, standIns := [], harness := (true, "85d269bd228afe2ef34ed2e288f7f1f4278f0a5f8bd47cb8147d3cef28d2a950"), looks := false }, kinds := [], alts := [], laidByText := true, laidKinds := [.data], laidTests := true, laidLooks := .later }
def RateBurstsUptoCardSaid : Prop := Claim7.holds Tryd.pinned (.plain (OpenSpec.upto rateBurstsSpec)) rateBurstsUptoCard

/-- THE SECOND FORM's CARD OF 'spigotlaw04.RateSpans'. -/
def rateSpansUptoCard : Claim7 := { stood := { row := rateSpansUptoRow, standIns := [], harness := (true, "85d269bd228afe2ef34ed2e288f7f1f4278f0a5f8bd47cb8147d3cef28d2a950"), looks := false }, kinds := [], alts := [], laidByText := true, laidKinds := [.data], laidTests := true, laidLooks := .later }
def RateSpansUptoCardSaid : Prop := Claim7.holds Tryd.pinned (.plain (OpenSpec.upto rateSpansSpec)) rateSpansUptoCard

/-- THE SECOND FORM's CARD OF 'spigotlaw04.RateLimits'. -/
def rateLimitsUptoCard : Claim7 := { stood := { row := rateLimitsUptoRow, standIns := [], harness := (true, "85d269bd228afe2ef34ed2e288f7f1f4278f0a5f8bd47cb8147d3cef28d2a950"), looks := false }, kinds := [], alts := [], laidByText := true, laidKinds := [.data], laidTests := true, laidLooks := .later }
def RateLimitsUptoCardSaid : Prop := Claim7.holds Tryd.pinned (.plain (OpenSpec.upto rateLimitsSpec)) rateLimitsUptoCard

/-- THE SECOND FORM's CARD OF 'spigotlaw04.RateNever'. -/
def rateNeverUptoCard : Claim7 := { stood := { row := rateNeverUptoRow, standIns := [], harness := (true, "85d269bd228afe2ef34ed2e288f7f1f4278f0a5f8bd47cb8147d3cef28d2a950"), looks := false }, kinds := [], alts := [], laidByText := true, laidKinds := [.data], laidTests := true, laidLooks := .later }
def RateNeverUptoCardSaid : Prop := Claim7.holds Tryd.pinned (.plain (OpenSpec.upto rateNeverSpec)) rateNeverUptoCard

/-- THE SECOND FORM's CARD OF 'spigotlaw03.RealKinds'. -/
def realKindsUptoCard : Claim7 := { stood := { row := realKindsUptoRow, standIns := [], harness := (true, "85d269bd228afe2ef34ed2e288f7f1f4278f0a5f8bd47cb8147d3cef28d2a950"), looks := false }, kinds := [], alts := [], laidByText := true, laidKinds := [.data], laidTests := true, laidLooks := .later }
def RealKindsUptoCardSaid : Prop := Claim7.holds Tryd.pinned (.plain (OpenSpec.upto realKindsSpec)) realKindsUptoCard

/-- THE SECOND FORM's CARD OF 'spigotlaw03.RealTicks'. -/
def realTicksUptoCard : Claim7 := { stood := { row := realTicksUptoRow, standIns := [], harness := (true, "85d269bd228afe2ef34ed2e288f7f1f4278f0a5f8bd47cb8147d3cef28d2a950"), looks := false }, kinds := [], alts := [], laidByText := true, laidKinds := [.data], laidTests := true, laidLooks := .later }
def RealTicksUptoCardSaid : Prop := Claim7.holds Tryd.pinned (.plain (OpenSpec.upto realTicksSpec)) realTicksUptoCard

/-- THE SECOND FORM's CARD OF 'spigotlaw03.RealRatios'. -/
def realRatiosUptoCard : Claim7 := { stood := { row := realRatiosUptoRow, standIns := [], harness := (true, "85d269bd228afe2ef34ed2e288f7f1f4278f0a5f8bd47cb8147d3cef28d2a950"), looks := false }, kinds := [], alts := [], laidByText := true, laidKinds := [.data], laidTests := true, laidLooks := .later }
def RealRatiosUptoCardSaid : Prop := Claim7.holds Tryd.pinned (.plain (OpenSpec.upto realRatiosSpec)) realRatiosUptoCard

/-- THE SECOND FORM's CARD OF 'spigotlaw03.RealBetween'. -/
def realBetweenUptoCard : Claim7 := { stood := { row := realBetweenUptoRow, standIns := [], harness := (true, "85d269bd228afe2ef34ed2e288f7f1f4278f0a5f8bd47cb8147d3cef28d2a950"), looks := false }, kinds := [], alts := [], laidByText := true, laidKinds := [.data], laidTests := true, laidLooks := .later }
def RealBetweenUptoCardSaid : Prop := Claim7.holds Tryd.pinned (.plain (OpenSpec.upto realBetweenSpec)) realBetweenUptoCard

/-- THE SECOND FORM's CARD OF 'spigotlaw03.RealExact'. -/
def realExactUptoCard : Claim7 := { stood := { row := realExactUptoRow, standIns := [], harness := (true, "85d269bd228afe2ef34ed2e288f7f1f4278f0a5f8bd47cb8147d3cef28d2a950"), looks := false }, kinds := [], alts := [], laidByText := true, laidKinds := [.data], laidTests := true, laidLooks := .later }
def RealExactUptoCardSaid : Prop := Claim7.holds Tryd.pinned (.plain (OpenSpec.upto realExactSpec)) realExactUptoCard

/-- THE SECOND FORM's CARD OF 'spigotlaw03.RealTurns'. -/
def realTurnsUptoCard : Claim7 := { stood := { row := realTurnsUptoRow, standIns := [], harness := (true, "85d269bd228afe2ef34ed2e288f7f1f4278f0a5f8bd47cb8147d3cef28d2a950"), looks := false }, kinds := [], alts := [], laidByText := true, laidKinds := [.data], laidTests := true, laidLooks := .later }
def RealTurnsUptoCardSaid : Prop := Claim7.holds Tryd.pinned (.plain (OpenSpec.upto realTurnsSpec)) realTurnsUptoCard

/-- THE SECOND FORM's CARD OF 'spigotlaw03.RealMeets'. -/
def realMeetsUptoCard : Claim7 := { stood := { row := realMeetsUptoRow, standIns := [], harness := (true, "85d269bd228afe2ef34ed2e288f7f1f4278f0a5f8bd47cb8147d3cef28d2a950"), looks := false }, kinds := [], alts := [], laidByText := true, laidKinds := [.data], laidTests := true, laidLooks := .later }
def RealMeetsUptoCardSaid : Prop := Claim7.holds Tryd.pinned (.plain (OpenSpec.upto realMeetsSpec)) realMeetsUptoCard

/-- THE SECOND FORM's CARD OF 'spigotlaw03.RealOrders'. -/
def realOrdersUptoCard : Claim7 := { stood := { row := realOrdersUptoRow, standIns := [], harness := (true, "85d269bd228afe2ef34ed2e288f7f1f4278f0a5f8bd47cb8147d3cef28d2a950"), looks := false }, kinds := [], alts := [], laidByText := true, laidKinds := [.data], laidTests := true, laidLooks := .later }
def RealOrdersUptoCardSaid : Prop := Claim7.holds Tryd.pinned (.plain (OpenSpec.upto realOrdersSpec)) realOrdersUptoCard
end Rows
end Go.Proofs.YtbpldplbkmabmaaDoor
