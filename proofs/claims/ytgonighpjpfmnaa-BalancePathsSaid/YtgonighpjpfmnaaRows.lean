/-
  No cell of these rows narrows 'for every input' (looked for: loops, veiled, ifaces, maps, wideKeys, modest, calm, conditions, laid).
  DERIVED. THE GIVEN ROWS OF THIS SEAT. 27 by the template 'for every input the law returns true; each argument reads behind the call as it read before'; 0 by the template 'total and deterministic' (their statements: YtgonighpjpfmnaaTotals.lean).
  GIVEN WITH THE SEED: the statements are not yours to turn. If you find one false, say at which input.
  Laid BY PROGRAM, IN A SANDBOX (cutbox-rows.mjs): the forced cells as the released guide's own fill.sh prints them over the translation 22a2b1720736ed50… (all of the seat's roots in one cut). By AI agents, Wed Nov 11 2026. No macro, syntax, notation, axiom, sorry.
-/
import Derived.Test.YtgonighpjpfmnaaChecked
import GoSem.Claim
import GoSem.ClaimJoined
import GoSem.ClaimMapViews
import Derived.JoinedTies
import Derived.KernelRfl
namespace Go.Proofs.Ytgonighpjpfmnaa
/- THE CELL 'sum', in the pinned program and in every row, IS THE sha256 OF THE DUMP (.gsa) THAT YtgonighpjpfmnaaProg.lean LOADS. Nothing in Lean hashes anything: it is a label: what it is worth is what the hold of that sum in a sandbox is worth. -/
noncomputable def Try.pinned : Pinned := { name := "ytgonighpjpfmnaa", sum := "22a2b1720736ed50df8419f4e58a2e1efa22474bec0510bdaafccb32451d7e8f", checked := Try.checked }
namespace Rows
def none {H : Type} : Left H := { results := [], args := [] }

/-- 'flagstonelaw39.ScorePredicts': WHATEVER THE INPUT: true; the input reads as it did. -/
def scorePredictsSpec : ChangeSpec := { name := "scorePredicts", fn := fun _ => fun
  | [d1, d2, d3, d4, d5] => { results := [.lit (.bool true)], args := [d1, d2, d3, d4, d5] }
  | _ => none }
def scorePredictsRow : OpenClaim := { program := "ytgonighpjpfmnaa", sum := "22a2b1720736ed50df8419f4e58a2e1efa22474bec0510bdaafccb32451d7e8f", func := "flagstone/flagstonelaw39.ScorePredicts", spec := "scorePredicts", apart := false }
def ScorePredictsSaid : Prop := scorePredictsRow.holds Try.pinned (OpenSpec.ofChange scorePredictsSpec)

/-- ITS FALSE NEIGHBOUR: 'it returns false'. Refute it at one input. -/
def scorePredictsWrong : ChangeSpec := { name := "scorePredicts", fn := fun _ => fun
  | [d1, d2, d3, d4, d5] => { results := [.lit (.bool false)], args := [d1, d2, d3, d4, d5] }
  | _ => none }
def ScorePredictsWrongFalsely : Prop := scorePredictsRow.holds Try.pinned (OpenSpec.ofChange scorePredictsWrong)

/-- 'flagstonelaw39.ScorePredictsAny': WHATEVER THE INPUT: true; the input reads as it did. -/
def scorePredictsAnySpec : ChangeSpec := { name := "scorePredictsAny", fn := fun _ => fun
  | [d1, d2, d3, d4] => { results := [.lit (.bool true)], args := [d1, d2, d3, d4] }
  | _ => none }
def scorePredictsAnyRow : OpenClaim := { program := "ytgonighpjpfmnaa", sum := "22a2b1720736ed50df8419f4e58a2e1efa22474bec0510bdaafccb32451d7e8f", func := "flagstone/flagstonelaw39.ScorePredictsAny", spec := "scorePredictsAny", apart := false }
def ScorePredictsAnySaid : Prop := scorePredictsAnyRow.holds Try.pinned (OpenSpec.ofChange scorePredictsAnySpec)

/-- ITS FALSE NEIGHBOUR: 'it returns false'. Refute it at one input. -/
def scorePredictsAnyWrong : ChangeSpec := { name := "scorePredictsAny", fn := fun _ => fun
  | [d1, d2, d3, d4] => { results := [.lit (.bool false)], args := [d1, d2, d3, d4] }
  | _ => none }
def ScorePredictsAnyWrongFalsely : Prop := scorePredictsAnyRow.holds Try.pinned (OpenSpec.ofChange scorePredictsAnyWrong)

/-- 'flagstonelaw39.ScoreValid': WHATEVER THE INPUT: true; the input reads as it did. -/
def scoreValidSpec : ChangeSpec := { name := "scoreValid", fn := fun _ => fun
  | [d1, d2, d3, d4] => { results := [.lit (.bool true)], args := [d1, d2, d3, d4] }
  | _ => none }
def scoreValidRow : OpenClaim := { program := "ytgonighpjpfmnaa", sum := "22a2b1720736ed50df8419f4e58a2e1efa22474bec0510bdaafccb32451d7e8f", func := "flagstone/flagstonelaw39.ScoreValid", spec := "scoreValid", apart := false }
def ScoreValidSaid : Prop := scoreValidRow.holds Try.pinned (OpenSpec.ofChange scoreValidSpec)

/-- ITS FALSE NEIGHBOUR: 'it returns false'. Refute it at one input. -/
def scoreValidWrong : ChangeSpec := { name := "scoreValid", fn := fun _ => fun
  | [d1, d2, d3, d4] => { results := [.lit (.bool false)], args := [d1, d2, d3, d4] }
  | _ => none }
def ScoreValidWrongFalsely : Prop := scoreValidRow.holds Try.pinned (OpenSpec.ofChange scoreValidWrong)

/-- 'flagstonelaw39.ScoreTells': WHATEVER THE INPUT: true; the input reads as it did. -/
def scoreTellsSpec : ChangeSpec := { name := "scoreTells", fn := fun _ => fun
  | [d1, d2, d3, d4, d5, d6, d7] => { results := [.lit (.bool true)], args := [d1, d2, d3, d4, d5, d6, d7] }
  | _ => none }
def scoreTellsRow : OpenClaim := { program := "ytgonighpjpfmnaa", sum := "22a2b1720736ed50df8419f4e58a2e1efa22474bec0510bdaafccb32451d7e8f", func := "flagstone/flagstonelaw39.ScoreTells", spec := "scoreTells", apart := false }
def ScoreTellsSaid : Prop := scoreTellsRow.holds Try.pinned (OpenSpec.ofChange scoreTellsSpec)

/-- ITS FALSE NEIGHBOUR: 'it returns false'. Refute it at one input. -/
def scoreTellsWrong : ChangeSpec := { name := "scoreTells", fn := fun _ => fun
  | [d1, d2, d3, d4, d5, d6, d7] => { results := [.lit (.bool false)], args := [d1, d2, d3, d4, d5, d6, d7] }
  | _ => none }
def ScoreTellsWrongFalsely : Prop := scoreTellsRow.holds Try.pinned (OpenSpec.ofChange scoreTellsWrong)

/-- 'flagstonelaw39.ScoreUnbiased': WHATEVER THE INPUT: true; the input reads as it did. -/
def scoreUnbiasedSpec : ChangeSpec := { name := "scoreUnbiased", fn := fun _ => fun
  | [d1, d2, d3, d4, d5, d6] => { results := [.lit (.bool true)], args := [d1, d2, d3, d4, d5, d6] }
  | _ => none }
def scoreUnbiasedRow : OpenClaim := { program := "ytgonighpjpfmnaa", sum := "22a2b1720736ed50df8419f4e58a2e1efa22474bec0510bdaafccb32451d7e8f", func := "flagstone/flagstonelaw39.ScoreUnbiased", spec := "scoreUnbiased", apart := false }
def ScoreUnbiasedSaid : Prop := scoreUnbiasedRow.holds Try.pinned (OpenSpec.ofChange scoreUnbiasedSpec)

/-- ITS FALSE NEIGHBOUR: 'it returns false'. Refute it at one input. -/
def scoreUnbiasedWrong : ChangeSpec := { name := "scoreUnbiased", fn := fun _ => fun
  | [d1, d2, d3, d4, d5, d6] => { results := [.lit (.bool false)], args := [d1, d2, d3, d4, d5, d6] }
  | _ => none }
def ScoreUnbiasedWrongFalsely : Prop := scoreUnbiasedRow.holds Try.pinned (OpenSpec.ofChange scoreUnbiasedWrong)

/-- 'flagstonelaw39.ScoreLists': WHATEVER THE INPUT: true; the input reads as it did. -/
def scoreListsSpec : ChangeSpec := { name := "scoreLists", fn := fun _ => fun
  | [d1, d2, d3, d4, d5, d6, d7] => { results := [.lit (.bool true)], args := [d1, d2, d3, d4, d5, d6, d7] }
  | _ => none }
def scoreListsRow : OpenClaim := { program := "ytgonighpjpfmnaa", sum := "22a2b1720736ed50df8419f4e58a2e1efa22474bec0510bdaafccb32451d7e8f", func := "flagstone/flagstonelaw39.ScoreLists", spec := "scoreLists", apart := false }
def ScoreListsSaid : Prop := scoreListsRow.holds Try.pinned (OpenSpec.ofChange scoreListsSpec)

/-- ITS FALSE NEIGHBOUR: 'it returns false'. Refute it at one input. -/
def scoreListsWrong : ChangeSpec := { name := "scoreLists", fn := fun _ => fun
  | [d1, d2, d3, d4, d5, d6, d7] => { results := [.lit (.bool false)], args := [d1, d2, d3, d4, d5, d6, d7] }
  | _ => none }
def ScoreListsWrongFalsely : Prop := scoreListsRow.holds Try.pinned (OpenSpec.ofChange scoreListsWrong)

/-- 'flagstonelaw39.ScorePast': WHATEVER THE INPUT: true; the input reads as it did. -/
def scorePastSpec : ChangeSpec := { name := "scorePast", fn := fun _ => fun
  | [d1, d2, d3, d4, d5, d6, d7, d8] => { results := [.lit (.bool true)], args := [d1, d2, d3, d4, d5, d6, d7, d8] }
  | _ => none }
def scorePastRow : OpenClaim := { program := "ytgonighpjpfmnaa", sum := "22a2b1720736ed50df8419f4e58a2e1efa22474bec0510bdaafccb32451d7e8f", func := "flagstone/flagstonelaw39.ScorePast", spec := "scorePast", apart := false }
def ScorePastSaid : Prop := scorePastRow.holds Try.pinned (OpenSpec.ofChange scorePastSpec)

/-- ITS FALSE NEIGHBOUR: 'it returns false'. Refute it at one input. -/
def scorePastWrong : ChangeSpec := { name := "scorePast", fn := fun _ => fun
  | [d1, d2, d3, d4, d5, d6, d7, d8] => { results := [.lit (.bool false)], args := [d1, d2, d3, d4, d5, d6, d7, d8] }
  | _ => none }
def ScorePastWrongFalsely : Prop := scorePastRow.holds Try.pinned (OpenSpec.ofChange scorePastWrong)

/-- 'flagstonelaw39.ScoreSums': WHATEVER THE INPUT: true; the input reads as it did. -/
def scoreSumsSpec : ChangeSpec := { name := "scoreSums", fn := fun _ => fun
  | [d1, d2, d3] => { results := [.lit (.bool true)], args := [d1, d2, d3] }
  | _ => none }
def scoreSumsRow : OpenClaim := { program := "ytgonighpjpfmnaa", sum := "22a2b1720736ed50df8419f4e58a2e1efa22474bec0510bdaafccb32451d7e8f", func := "flagstone/flagstonelaw39.ScoreSums", spec := "scoreSums", apart := false }
def ScoreSumsSaid : Prop := scoreSumsRow.holds Try.pinned (OpenSpec.ofChange scoreSumsSpec)

/-- ITS FALSE NEIGHBOUR: 'it returns false'. Refute it at one input. -/
def scoreSumsWrong : ChangeSpec := { name := "scoreSums", fn := fun _ => fun
  | [d1, d2, d3] => { results := [.lit (.bool false)], args := [d1, d2, d3] }
  | _ => none }
def ScoreSumsWrongFalsely : Prop := scoreSumsRow.holds Try.pinned (OpenSpec.ofChange scoreSumsWrong)

/-- 'flagstonelaw40.WealthGrows': WHATEVER THE INPUT: true; the input reads as it did. -/
def wealthGrowsSpec : ChangeSpec := { name := "wealthGrows", fn := fun _ => fun
  | [d1, d2, d3, d4, d5, d6] => { results := [.lit (.bool true)], args := [d1, d2, d3, d4, d5, d6] }
  | _ => none }
def wealthGrowsRow : OpenClaim := { program := "ytgonighpjpfmnaa", sum := "22a2b1720736ed50df8419f4e58a2e1efa22474bec0510bdaafccb32451d7e8f", func := "flagstone/flagstonelaw40.WealthGrows", spec := "wealthGrows", named := ["math/bits.divideError", "math/bits.overflowError"], apart := false }
def WealthGrowsSaid : Prop := wealthGrowsRow.holds Try.pinned (OpenSpec.ofChange wealthGrowsSpec)

/-- ITS FALSE NEIGHBOUR: 'it returns false'. Refute it at one input. -/
def wealthGrowsWrong : ChangeSpec := { name := "wealthGrows", fn := fun _ => fun
  | [d1, d2, d3, d4, d5, d6] => { results := [.lit (.bool false)], args := [d1, d2, d3, d4, d5, d6] }
  | _ => none }
def WealthGrowsWrongFalsely : Prop := wealthGrowsRow.holds Try.pinned (OpenSpec.ofChange wealthGrowsWrong)

/-- 'flagstonelaw40.WealthFactors': WHATEVER THE INPUT: true; the input reads as it did. -/
def wealthFactorsSpec : ChangeSpec := { name := "wealthFactors", fn := fun _ => fun
  | [d1, d2, d3, d4, d5, d6] => { results := [.lit (.bool true)], args := [d1, d2, d3, d4, d5, d6] }
  | _ => none }
def wealthFactorsRow : OpenClaim := { program := "ytgonighpjpfmnaa", sum := "22a2b1720736ed50df8419f4e58a2e1efa22474bec0510bdaafccb32451d7e8f", func := "flagstone/flagstonelaw40.WealthFactors", spec := "wealthFactors", named := ["math/bits.divideError", "math/bits.overflowError"], apart := false }
def WealthFactorsSaid : Prop := wealthFactorsRow.holds Try.pinned (OpenSpec.ofChange wealthFactorsSpec)

/-- ITS FALSE NEIGHBOUR: 'it returns false'. Refute it at one input. -/
def wealthFactorsWrong : ChangeSpec := { name := "wealthFactors", fn := fun _ => fun
  | [d1, d2, d3, d4, d5, d6] => { results := [.lit (.bool false)], args := [d1, d2, d3, d4, d5, d6] }
  | _ => none }
def WealthFactorsWrongFalsely : Prop := wealthFactorsRow.holds Try.pinned (OpenSpec.ofChange wealthFactorsWrong)

/-- 'flagstonelaw40.WealthFair': WHATEVER THE INPUT: true; the input reads as it did. -/
def wealthFairSpec : ChangeSpec := { name := "wealthFair", fn := fun _ => fun
  | [d1, d2, d3, d4, d5, d6, d7] => { results := [.lit (.bool true)], args := [d1, d2, d3, d4, d5, d6, d7] }
  | _ => none }
def wealthFairRow : OpenClaim := { program := "ytgonighpjpfmnaa", sum := "22a2b1720736ed50df8419f4e58a2e1efa22474bec0510bdaafccb32451d7e8f", func := "flagstone/flagstonelaw40.WealthFair", spec := "wealthFair", named := ["math/bits.divideError", "math/bits.overflowError"], apart := false }
def WealthFairSaid : Prop := wealthFairRow.holds Try.pinned (OpenSpec.ofChange wealthFairSpec)

/-- ITS FALSE NEIGHBOUR: 'it returns false'. Refute it at one input. -/
def wealthFairWrong : ChangeSpec := { name := "wealthFair", fn := fun _ => fun
  | [d1, d2, d3, d4, d5, d6, d7] => { results := [.lit (.bool false)], args := [d1, d2, d3, d4, d5, d6, d7] }
  | _ => none }
def WealthFairWrongFalsely : Prop := wealthFairRow.holds Try.pinned (OpenSpec.ofChange wealthFairWrong)

/-- 'flagstonelaw42.BalanceSteps': WHATEVER THE INPUT: true; the input reads as it did. -/
def balanceStepsSpec : ChangeSpec := { name := "balanceSteps", fn := fun _ => fun
  | [d1, d2, d3, d4, d5, d6, d7] => { results := [.lit (.bool true)], args := [d1, d2, d3, d4, d5, d6, d7] }
  | _ => none }
def balanceStepsRow : OpenClaim := { program := "ytgonighpjpfmnaa", sum := "22a2b1720736ed50df8419f4e58a2e1efa22474bec0510bdaafccb32451d7e8f", func := "flagstone/flagstonelaw42.BalanceSteps", spec := "balanceSteps", named := ["math/bits.divideError", "math/bits.overflowError"], apart := false }
def BalanceStepsSaid : Prop := balanceStepsRow.holds Try.pinned (OpenSpec.ofChange balanceStepsSpec)

/-- ITS FALSE NEIGHBOUR: 'it returns false'. Refute it at one input. -/
def balanceStepsWrong : ChangeSpec := { name := "balanceSteps", fn := fun _ => fun
  | [d1, d2, d3, d4, d5, d6, d7] => { results := [.lit (.bool false)], args := [d1, d2, d3, d4, d5, d6, d7] }
  | _ => none }
def BalanceStepsWrongFalsely : Prop := balanceStepsRow.holds Try.pinned (OpenSpec.ofChange balanceStepsWrong)

/-- 'flagstonelaw42.BalanceFair': WHATEVER THE INPUT: true; the input reads as it did. -/
def balanceFairSpec : ChangeSpec := { name := "balanceFair", fn := fun _ => fun
  | [d1, d2, d3, d4] => { results := [.lit (.bool true)], args := [d1, d2, d3, d4] }
  | _ => none }
def balanceFairRow : OpenClaim := { program := "ytgonighpjpfmnaa", sum := "22a2b1720736ed50df8419f4e58a2e1efa22474bec0510bdaafccb32451d7e8f", func := "flagstone/flagstonelaw42.BalanceFair", spec := "balanceFair", named := ["math/bits.divideError", "math/bits.overflowError"], apart := false }
def BalanceFairSaid : Prop := balanceFairRow.holds Try.pinned (OpenSpec.ofChange balanceFairSpec)

/-- ITS FALSE NEIGHBOUR: 'it returns false'. Refute it at one input. -/
def balanceFairWrong : ChangeSpec := { name := "balanceFair", fn := fun _ => fun
  | [d1, d2, d3, d4] => { results := [.lit (.bool false)], args := [d1, d2, d3, d4] }
  | _ => none }
def BalanceFairWrongFalsely : Prop := balanceFairRow.holds Try.pinned (OpenSpec.ofChange balanceFairWrong)

/-- 'flagstonelaw42.BalanceLevel': WHATEVER THE INPUT: true; the input reads as it did. -/
def balanceLevelSpec : ChangeSpec := { name := "balanceLevel", fn := fun _ => fun
  | [d1, d2, d3, d4, d5] => { results := [.lit (.bool true)], args := [d1, d2, d3, d4, d5] }
  | _ => none }
def balanceLevelRow : OpenClaim := { program := "ytgonighpjpfmnaa", sum := "22a2b1720736ed50df8419f4e58a2e1efa22474bec0510bdaafccb32451d7e8f", func := "flagstone/flagstonelaw42.BalanceLevel", spec := "balanceLevel", recurses := true, named := ["math/bits.divideError", "math/bits.overflowError"], apart := false }
def BalanceLevelSaid : Prop := balanceLevelRow.holds Try.pinned (OpenSpec.ofChange balanceLevelSpec)

/-- ITS FALSE NEIGHBOUR: 'it returns false'. Refute it at one input. -/
def balanceLevelWrong : ChangeSpec := { name := "balanceLevel", fn := fun _ => fun
  | [d1, d2, d3, d4, d5] => { results := [.lit (.bool false)], args := [d1, d2, d3, d4, d5] }
  | _ => none }
def BalanceLevelWrongFalsely : Prop := balanceLevelRow.holds Try.pinned (OpenSpec.ofChange balanceLevelWrong)

/-- 'flagstonelaw40.WealthThresholds': WHATEVER THE INPUT: true; the input reads as it did. -/
def wealthThresholdsSpec : ChangeSpec := { name := "wealthThresholds", fn := fun _ => fun
  | [d1, d2, d3, d4, d5, d6] => { results := [.lit (.bool true)], args := [d1, d2, d3, d4, d5, d6] }
  | _ => none }
def wealthThresholdsRow : OpenClaim := { program := "ytgonighpjpfmnaa", sum := "22a2b1720736ed50df8419f4e58a2e1efa22474bec0510bdaafccb32451d7e8f", func := "flagstone/flagstonelaw40.WealthThresholds", spec := "wealthThresholds", named := ["math/bits.divideError", "math/bits.overflowError"], apart := false }
def WealthThresholdsSaid : Prop := wealthThresholdsRow.holds Try.pinned (OpenSpec.ofChange wealthThresholdsSpec)

/-- ITS FALSE NEIGHBOUR: 'it returns false'. Refute it at one input. -/
def wealthThresholdsWrong : ChangeSpec := { name := "wealthThresholds", fn := fun _ => fun
  | [d1, d2, d3, d4, d5, d6] => { results := [.lit (.bool false)], args := [d1, d2, d3, d4, d5, d6] }
  | _ => none }
def WealthThresholdsWrongFalsely : Prop := wealthThresholdsRow.holds Try.pinned (OpenSpec.ofChange wealthThresholdsWrong)

/-- 'flagstonelaw40.WealthPaths': WHATEVER THE INPUT: true; the input reads as it did. -/
def wealthPathsSpec : ChangeSpec := { name := "wealthPaths", fn := fun _ => fun
  | [d1, d2, d3, d4, d5] => { results := [.lit (.bool true)], args := [d1, d2, d3, d4, d5] }
  | _ => none }
def wealthPathsRow : OpenClaim := { program := "ytgonighpjpfmnaa", sum := "22a2b1720736ed50df8419f4e58a2e1efa22474bec0510bdaafccb32451d7e8f", func := "flagstone/flagstonelaw40.WealthPaths", spec := "wealthPaths", named := ["math/bits.divideError", "math/bits.overflowError"], apart := false }
def WealthPathsSaid : Prop := wealthPathsRow.holds Try.pinned (OpenSpec.ofChange wealthPathsSpec)

/-- ITS FALSE NEIGHBOUR: 'it returns false'. Refute it at one input. -/
def wealthPathsWrong : ChangeSpec := { name := "wealthPaths", fn := fun _ => fun
  | [d1, d2, d3, d4, d5] => { results := [.lit (.bool false)], args := [d1, d2, d3, d4, d5] }
  | _ => none }
def WealthPathsWrongFalsely : Prop := wealthPathsRow.holds Try.pinned (OpenSpec.ofChange wealthPathsWrong)

/-- 'flagstonelaw40.WealthMonotone': WHATEVER THE INPUT: true; the input reads as it did. -/
def wealthMonotoneSpec : ChangeSpec := { name := "wealthMonotone", fn := fun _ => fun
  | [d1, d2, d3] => { results := [.lit (.bool true)], args := [d1, d2, d3] }
  | _ => none }
def wealthMonotoneRow : OpenClaim := { program := "ytgonighpjpfmnaa", sum := "22a2b1720736ed50df8419f4e58a2e1efa22474bec0510bdaafccb32451d7e8f", func := "flagstone/flagstonelaw40.WealthMonotone", spec := "wealthMonotone", named := ["math/bits.divideError", "math/bits.overflowError"], apart := false }
def WealthMonotoneSaid : Prop := wealthMonotoneRow.holds Try.pinned (OpenSpec.ofChange wealthMonotoneSpec)

/-- ITS FALSE NEIGHBOUR: 'it returns false'. Refute it at one input. -/
def wealthMonotoneWrong : ChangeSpec := { name := "wealthMonotone", fn := fun _ => fun
  | [d1, d2, d3] => { results := [.lit (.bool false)], args := [d1, d2, d3] }
  | _ => none }
def WealthMonotoneWrongFalsely : Prop := wealthMonotoneRow.holds Try.pinned (OpenSpec.ofChange wealthMonotoneWrong)

/-- 'flagstonelaw42.BalancePaths': WHATEVER THE INPUT: true; the input reads as it did. -/
def balancePathsSpec : ChangeSpec := { name := "balancePaths", fn := fun _ => fun
  | [d1, d2, d3, d4, d5, d6, d7, d8] => { results := [.lit (.bool true)], args := [d1, d2, d3, d4, d5, d6, d7, d8] }
  | _ => none }
def balancePathsRow : OpenClaim := { program := "ytgonighpjpfmnaa", sum := "22a2b1720736ed50df8419f4e58a2e1efa22474bec0510bdaafccb32451d7e8f", func := "flagstone/flagstonelaw42.BalancePaths", spec := "balancePaths", unfollowed := true, recurses := true, named := ["math/bits.divideError", "math/bits.overflowError"], apart := false }
def BalancePathsSaid : Prop := balancePathsRow.holds Try.pinned (OpenSpec.ofChange balancePathsSpec)

/-- ITS FALSE NEIGHBOUR: 'it returns false'. Refute it at one input. -/
def balancePathsWrong : ChangeSpec := { name := "balancePaths", fn := fun _ => fun
  | [d1, d2, d3, d4, d5, d6, d7, d8] => { results := [.lit (.bool false)], args := [d1, d2, d3, d4, d5, d6, d7, d8] }
  | _ => none }
def BalancePathsWrongFalsely : Prop := balancePathsRow.holds Try.pinned (OpenSpec.ofChange balancePathsWrong)

/-- 'flagstonelaw42.BalanceFinds': WHATEVER THE INPUT: true; the input reads as it did. -/
def balanceFindsSpec : ChangeSpec := { name := "balanceFinds", fn := fun _ => fun
  | [d1, d2] => { results := [.lit (.bool true)], args := [d1, d2] }
  | _ => none }
def balanceFindsRow : OpenClaim := { program := "ytgonighpjpfmnaa", sum := "22a2b1720736ed50df8419f4e58a2e1efa22474bec0510bdaafccb32451d7e8f", func := "flagstone/flagstonelaw42.BalanceFinds", spec := "balanceFinds", unfollowed := true, recurses := true, named := ["math/bits.divideError", "math/bits.overflowError"], apart := false }
def BalanceFindsSaid : Prop := balanceFindsRow.holds Try.pinned (OpenSpec.ofChange balanceFindsSpec)

/-- ITS FALSE NEIGHBOUR: 'it returns false'. Refute it at one input. -/
def balanceFindsWrong : ChangeSpec := { name := "balanceFinds", fn := fun _ => fun
  | [d1, d2] => { results := [.lit (.bool false)], args := [d1, d2] }
  | _ => none }
def BalanceFindsWrongFalsely : Prop := balanceFindsRow.holds Try.pinned (OpenSpec.ofChange balanceFindsWrong)

/-- 'flagstonelaw41.SequenceTells': WHATEVER THE INPUT: true; the input reads as it did. -/
def sequenceTellsSpec : ChangeSpec := { name := "sequenceTells", fn := fun _ => fun
  | [d1, d2, d3] => { results := [.lit (.bool true)], args := [d1, d2, d3] }
  | _ => none }
def sequenceTellsRow : OpenClaim := { program := "ytgonighpjpfmnaa", sum := "22a2b1720736ed50df8419f4e58a2e1efa22474bec0510bdaafccb32451d7e8f", func := "flagstone/flagstonelaw41.SequenceTells", spec := "sequenceTells", unfollowed := true, recurses := true, named := ["math/bits.divideError", "math/bits.overflowError"], apart := false }
def SequenceTellsSaid : Prop := sequenceTellsRow.holds Try.pinned (OpenSpec.ofChange sequenceTellsSpec)

/-- ITS FALSE NEIGHBOUR: 'it returns false'. Refute it at one input. -/
def sequenceTellsWrong : ChangeSpec := { name := "sequenceTells", fn := fun _ => fun
  | [d1, d2, d3] => { results := [.lit (.bool false)], args := [d1, d2, d3] }
  | _ => none }
def SequenceTellsWrongFalsely : Prop := sequenceTellsRow.holds Try.pinned (OpenSpec.ofChange sequenceTellsWrong)

/-- 'flagstonelaw41.SequenceExcludes': WHATEVER THE INPUT: true; the input reads as it did. -/
def sequenceExcludesSpec : ChangeSpec := { name := "sequenceExcludes", fn := fun _ => fun
  | [d1, d2, d3] => { results := [.lit (.bool true)], args := [d1, d2, d3] }
  | _ => none }
def sequenceExcludesRow : OpenClaim := { program := "ytgonighpjpfmnaa", sum := "22a2b1720736ed50df8419f4e58a2e1efa22474bec0510bdaafccb32451d7e8f", func := "flagstone/flagstonelaw41.SequenceExcludes", spec := "sequenceExcludes", unfollowed := true, recurses := true, named := ["math/bits.divideError", "math/bits.overflowError"], apart := false }
def SequenceExcludesSaid : Prop := sequenceExcludesRow.holds Try.pinned (OpenSpec.ofChange sequenceExcludesSpec)

/-- ITS FALSE NEIGHBOUR: 'it returns false'. Refute it at one input. -/
def sequenceExcludesWrong : ChangeSpec := { name := "sequenceExcludes", fn := fun _ => fun
  | [d1, d2, d3] => { results := [.lit (.bool false)], args := [d1, d2, d3] }
  | _ => none }
def SequenceExcludesWrongFalsely : Prop := sequenceExcludesRow.holds Try.pinned (OpenSpec.ofChange sequenceExcludesWrong)

/-- 'flagstonelaw41.SequenceMirrors': WHATEVER THE INPUT: true; the input reads as it did. -/
def sequenceMirrorsSpec : ChangeSpec := { name := "sequenceMirrors", fn := fun _ => fun
  | [d1, d2] => { results := [.lit (.bool true)], args := [d1, d2] }
  | _ => none }
def sequenceMirrorsRow : OpenClaim := { program := "ytgonighpjpfmnaa", sum := "22a2b1720736ed50df8419f4e58a2e1efa22474bec0510bdaafccb32451d7e8f", func := "flagstone/flagstonelaw41.SequenceMirrors", spec := "sequenceMirrors", unfollowed := true, recurses := true, named := ["math/bits.divideError", "math/bits.overflowError"], apart := false }
def SequenceMirrorsSaid : Prop := sequenceMirrorsRow.holds Try.pinned (OpenSpec.ofChange sequenceMirrorsSpec)

/-- ITS FALSE NEIGHBOUR: 'it returns false'. Refute it at one input. -/
def sequenceMirrorsWrong : ChangeSpec := { name := "sequenceMirrors", fn := fun _ => fun
  | [d1, d2] => { results := [.lit (.bool false)], args := [d1, d2] }
  | _ => none }
def SequenceMirrorsWrongFalsely : Prop := sequenceMirrorsRow.holds Try.pinned (OpenSpec.ofChange sequenceMirrorsWrong)

/-- 'flagstonelaw41.SequenceTruth': WHATEVER THE INPUT: true; the input reads as it did. -/
def sequenceTruthSpec : ChangeSpec := { name := "sequenceTruth", fn := fun _ => fun
  | [d1, d2, d3] => { results := [.lit (.bool true)], args := [d1, d2, d3] }
  | _ => none }
def sequenceTruthRow : OpenClaim := { program := "ytgonighpjpfmnaa", sum := "22a2b1720736ed50df8419f4e58a2e1efa22474bec0510bdaafccb32451d7e8f", func := "flagstone/flagstonelaw41.SequenceTruth", spec := "sequenceTruth", unfollowed := true, recurses := true, named := ["math/bits.divideError", "math/bits.overflowError"], apart := false }
def SequenceTruthSaid : Prop := sequenceTruthRow.holds Try.pinned (OpenSpec.ofChange sequenceTruthSpec)

/-- ITS FALSE NEIGHBOUR: 'it returns false'. Refute it at one input. -/
def sequenceTruthWrong : ChangeSpec := { name := "sequenceTruth", fn := fun _ => fun
  | [d1, d2, d3] => { results := [.lit (.bool false)], args := [d1, d2, d3] }
  | _ => none }
def SequenceTruthWrongFalsely : Prop := sequenceTruthRow.holds Try.pinned (OpenSpec.ofChange sequenceTruthWrong)

/-- 'flagstonelaw41.SequenceNarrows': WHATEVER THE INPUT: true; the input reads as it did. -/
def sequenceNarrowsSpec : ChangeSpec := { name := "sequenceNarrows", fn := fun _ => fun
  | [d1, d2, d3] => { results := [.lit (.bool true)], args := [d1, d2, d3] }
  | _ => none }
def sequenceNarrowsRow : OpenClaim := { program := "ytgonighpjpfmnaa", sum := "22a2b1720736ed50df8419f4e58a2e1efa22474bec0510bdaafccb32451d7e8f", func := "flagstone/flagstonelaw41.SequenceNarrows", spec := "sequenceNarrows", unfollowed := true, recurses := true, named := ["math/bits.divideError", "math/bits.overflowError"], apart := false }
def SequenceNarrowsSaid : Prop := sequenceNarrowsRow.holds Try.pinned (OpenSpec.ofChange sequenceNarrowsSpec)

/-- ITS FALSE NEIGHBOUR: 'it returns false'. Refute it at one input. -/
def sequenceNarrowsWrong : ChangeSpec := { name := "sequenceNarrows", fn := fun _ => fun
  | [d1, d2, d3] => { results := [.lit (.bool false)], args := [d1, d2, d3] }
  | _ => none }
def SequenceNarrowsWrongFalsely : Prop := sequenceNarrowsRow.holds Try.pinned (OpenSpec.ofChange sequenceNarrowsWrong)

/-- 'flagstonelaw40.WealthSubjects': WHATEVER THE INPUT: true; the input reads as it did. -/
def wealthSubjectsSpec : ChangeSpec := { name := "wealthSubjects", fn := fun _ => fun
  | [d1, d2, d3, d4, d5, d6, d7, d8] => { results := [.lit (.bool true)], args := [d1, d2, d3, d4, d5, d6, d7, d8] }
  | _ => none }
def wealthSubjectsRow : OpenClaim := { program := "ytgonighpjpfmnaa", sum := "22a2b1720736ed50df8419f4e58a2e1efa22474bec0510bdaafccb32451d7e8f", func := "flagstone/flagstonelaw40.WealthSubjects", spec := "wealthSubjects", named := ["math/bits.divideError", "math/bits.overflowError"], apart := false }
def WealthSubjectsSaid : Prop := wealthSubjectsRow.holds Try.pinned (OpenSpec.ofChange wealthSubjectsSpec)

/-- ITS FALSE NEIGHBOUR: 'it returns false'. Refute it at one input. -/
def wealthSubjectsWrong : ChangeSpec := { name := "wealthSubjects", fn := fun _ => fun
  | [d1, d2, d3, d4, d5, d6, d7, d8] => { results := [.lit (.bool false)], args := [d1, d2, d3, d4, d5, d6, d7, d8] }
  | _ => none }
def WealthSubjectsWrongFalsely : Prop := wealthSubjectsRow.holds Try.pinned (OpenSpec.ofChange wealthSubjectsWrong)

/-- 'flagstonelaw41.SequenceOf': WHATEVER THE INPUT: true; the input reads as it did. -/
def sequenceOfSpec : ChangeSpec := { name := "sequenceOf", fn := fun _ => fun
  | [d1, d2, d3, d4] => { results := [.lit (.bool true)], args := [d1, d2, d3, d4] }
  | _ => none }
def sequenceOfRow : OpenClaim := { program := "ytgonighpjpfmnaa", sum := "22a2b1720736ed50df8419f4e58a2e1efa22474bec0510bdaafccb32451d7e8f", func := "flagstone/flagstonelaw41.SequenceOf", spec := "sequenceOf", unfollowed := true, recurses := true, named := ["math/bits.divideError", "math/bits.overflowError"], apart := false }
def SequenceOfSaid : Prop := sequenceOfRow.holds Try.pinned (OpenSpec.ofChange sequenceOfSpec)

/-- ITS FALSE NEIGHBOUR: 'it returns false'. Refute it at one input. -/
def sequenceOfWrong : ChangeSpec := { name := "sequenceOf", fn := fun _ => fun
  | [d1, d2, d3, d4] => { results := [.lit (.bool false)], args := [d1, d2, d3, d4] }
  | _ => none }
def SequenceOfWrongFalsely : Prop := sequenceOfRow.holds Try.pinned (OpenSpec.ofChange sequenceOfWrong)

/-- 'flagstonelaw41.SequenceLevel': WHATEVER THE INPUT: true; the input reads as it did. -/
def sequenceLevelSpec : ChangeSpec := { name := "sequenceLevel", fn := fun _ => fun
  | [d1, d2, d3, d4, d5, d6, d7] => { results := [.lit (.bool true)], args := [d1, d2, d3, d4, d5, d6, d7] }
  | _ => none }
def sequenceLevelRow : OpenClaim := { program := "ytgonighpjpfmnaa", sum := "22a2b1720736ed50df8419f4e58a2e1efa22474bec0510bdaafccb32451d7e8f", func := "flagstone/flagstonelaw41.SequenceLevel", spec := "sequenceLevel", unfollowed := true, recurses := true, named := ["math/bits.divideError", "math/bits.overflowError"], apart := false }
def SequenceLevelSaid : Prop := sequenceLevelRow.holds Try.pinned (OpenSpec.ofChange sequenceLevelSpec)

/-- ITS FALSE NEIGHBOUR: 'it returns false'. Refute it at one input. -/
def sequenceLevelWrong : ChangeSpec := { name := "sequenceLevel", fn := fun _ => fun
  | [d1, d2, d3, d4, d5, d6, d7] => { results := [.lit (.bool false)], args := [d1, d2, d3, d4, d5, d6, d7] }
  | _ => none }
def SequenceLevelWrongFalsely : Prop := sequenceLevelRow.holds Try.pinned (OpenSpec.ofChange sequenceLevelWrong)

/- THE SECOND FORM. 'bulk': how many values and letters a reading holds, each counted each time it is reached (what is shared counts as often as it is met; a slice's spare places count too). A statement '..UptoSaid' is the law's where the arguments, and the package variables that the reading takes, are together of bulk at most 1048576: NARROWER than '..Said'. Prove '..Said' where nothing that the law and all that it calls make is longer than what came in: it says more and counts as full. Else prove '..UptoSaid'. A law counts once. -/
mutual
def uptoBulk {H : Type} : DataW H → Nat
  | .lit (.string bytes) => bytes.length + 1
  | .lit _ => 1
  | .nil => 1
  | .ptr d => uptoBulk d + 1
  | .slice elems spare => uptoBulkAll elems + uptoBulkAll spare + 1
  | .agg parts => uptoBulkAll parts + 1
  | .iface _ d => uptoBulk d + 1
  | .map entries => uptoBulkEntries entries + 1
  | .held _ => 1
def uptoBulkAll {H : Type} : List (DataW H) → Nat
  | [] => 0
  | d :: r => uptoBulk d + uptoBulkAll r
def uptoBulkEntries {H : Type} : List (Lit × DataW H) → Nat
  | [] => 0
  | x :: r => uptoBulkEntry x + uptoBulkEntries r
def uptoBulkEntry {H : Type} : Lit × DataW H → Nat
  | (.string bytes, d) => bytes.length + uptoBulk d + 1
  | (_, d) => uptoBulk d + 1
 end
def uptoSmall : (H : Type) → List (DataW H) → Bool := fun _ ds => decide (uptoBulkAll ds ≤ 1048576)
def OpenSpec.upto (s : _root_.Go.ChangeSpec) : _root_.Go.OpenSpec := { _root_.Go.OpenSpec.ofChange s with cond := some uptoSmall }

/-- 'flagstonelaw39.ScorePredicts', WHERE WHAT IT READS IS OF BULK AT MOST 1048576: true; the input reads as it did. -/
def scorePredictsUptoRow : OpenClaim := { program := "ytgonighpjpfmnaa", sum := "22a2b1720736ed50df8419f4e58a2e1efa22474bec0510bdaafccb32451d7e8f", func := "flagstone/flagstonelaw39.ScorePredicts", spec := "scorePredicts", apart := false, narrowed := true }
def ScorePredictsUptoSaid : Prop := scorePredictsUptoRow.holds Try.pinned (OpenSpec.upto scorePredictsSpec)

/-- 'flagstonelaw39.ScorePredictsAny', WHERE WHAT IT READS IS OF BULK AT MOST 1048576: true; the input reads as it did. -/
def scorePredictsAnyUptoRow : OpenClaim := { program := "ytgonighpjpfmnaa", sum := "22a2b1720736ed50df8419f4e58a2e1efa22474bec0510bdaafccb32451d7e8f", func := "flagstone/flagstonelaw39.ScorePredictsAny", spec := "scorePredictsAny", apart := false, narrowed := true }
def ScorePredictsAnyUptoSaid : Prop := scorePredictsAnyUptoRow.holds Try.pinned (OpenSpec.upto scorePredictsAnySpec)

/-- 'flagstonelaw39.ScoreValid', WHERE WHAT IT READS IS OF BULK AT MOST 1048576: true; the input reads as it did. -/
def scoreValidUptoRow : OpenClaim := { program := "ytgonighpjpfmnaa", sum := "22a2b1720736ed50df8419f4e58a2e1efa22474bec0510bdaafccb32451d7e8f", func := "flagstone/flagstonelaw39.ScoreValid", spec := "scoreValid", apart := false, narrowed := true }
def ScoreValidUptoSaid : Prop := scoreValidUptoRow.holds Try.pinned (OpenSpec.upto scoreValidSpec)

/-- 'flagstonelaw39.ScoreTells', WHERE WHAT IT READS IS OF BULK AT MOST 1048576: true; the input reads as it did. -/
def scoreTellsUptoRow : OpenClaim := { program := "ytgonighpjpfmnaa", sum := "22a2b1720736ed50df8419f4e58a2e1efa22474bec0510bdaafccb32451d7e8f", func := "flagstone/flagstonelaw39.ScoreTells", spec := "scoreTells", apart := false, narrowed := true }
def ScoreTellsUptoSaid : Prop := scoreTellsUptoRow.holds Try.pinned (OpenSpec.upto scoreTellsSpec)

/-- 'flagstonelaw39.ScoreUnbiased', WHERE WHAT IT READS IS OF BULK AT MOST 1048576: true; the input reads as it did. -/
def scoreUnbiasedUptoRow : OpenClaim := { program := "ytgonighpjpfmnaa", sum := "22a2b1720736ed50df8419f4e58a2e1efa22474bec0510bdaafccb32451d7e8f", func := "flagstone/flagstonelaw39.ScoreUnbiased", spec := "scoreUnbiased", apart := false, narrowed := true }
def ScoreUnbiasedUptoSaid : Prop := scoreUnbiasedUptoRow.holds Try.pinned (OpenSpec.upto scoreUnbiasedSpec)

/-- 'flagstonelaw39.ScoreLists', WHERE WHAT IT READS IS OF BULK AT MOST 1048576: true; the input reads as it did. -/
def scoreListsUptoRow : OpenClaim := { program := "ytgonighpjpfmnaa", sum := "22a2b1720736ed50df8419f4e58a2e1efa22474bec0510bdaafccb32451d7e8f", func := "flagstone/flagstonelaw39.ScoreLists", spec := "scoreLists", apart := false, narrowed := true }
def ScoreListsUptoSaid : Prop := scoreListsUptoRow.holds Try.pinned (OpenSpec.upto scoreListsSpec)

/-- 'flagstonelaw39.ScorePast', WHERE WHAT IT READS IS OF BULK AT MOST 1048576: true; the input reads as it did. -/
def scorePastUptoRow : OpenClaim := { program := "ytgonighpjpfmnaa", sum := "22a2b1720736ed50df8419f4e58a2e1efa22474bec0510bdaafccb32451d7e8f", func := "flagstone/flagstonelaw39.ScorePast", spec := "scorePast", apart := false, narrowed := true }
def ScorePastUptoSaid : Prop := scorePastUptoRow.holds Try.pinned (OpenSpec.upto scorePastSpec)

/-- 'flagstonelaw39.ScoreSums', WHERE WHAT IT READS IS OF BULK AT MOST 1048576: true; the input reads as it did. -/
def scoreSumsUptoRow : OpenClaim := { program := "ytgonighpjpfmnaa", sum := "22a2b1720736ed50df8419f4e58a2e1efa22474bec0510bdaafccb32451d7e8f", func := "flagstone/flagstonelaw39.ScoreSums", spec := "scoreSums", apart := false, narrowed := true }
def ScoreSumsUptoSaid : Prop := scoreSumsUptoRow.holds Try.pinned (OpenSpec.upto scoreSumsSpec)

/-- 'flagstonelaw40.WealthGrows', WHERE WHAT IT READS IS OF BULK AT MOST 1048576: true; the input reads as it did. -/
def wealthGrowsUptoRow : OpenClaim := { program := "ytgonighpjpfmnaa", sum := "22a2b1720736ed50df8419f4e58a2e1efa22474bec0510bdaafccb32451d7e8f", func := "flagstone/flagstonelaw40.WealthGrows", spec := "wealthGrows", named := ["math/bits.divideError", "math/bits.overflowError"], apart := false, narrowed := true }
def WealthGrowsUptoSaid : Prop := wealthGrowsUptoRow.holds Try.pinned (OpenSpec.upto wealthGrowsSpec)

/-- 'flagstonelaw40.WealthFactors', WHERE WHAT IT READS IS OF BULK AT MOST 1048576: true; the input reads as it did. -/
def wealthFactorsUptoRow : OpenClaim := { program := "ytgonighpjpfmnaa", sum := "22a2b1720736ed50df8419f4e58a2e1efa22474bec0510bdaafccb32451d7e8f", func := "flagstone/flagstonelaw40.WealthFactors", spec := "wealthFactors", named := ["math/bits.divideError", "math/bits.overflowError"], apart := false, narrowed := true }
def WealthFactorsUptoSaid : Prop := wealthFactorsUptoRow.holds Try.pinned (OpenSpec.upto wealthFactorsSpec)

/-- 'flagstonelaw40.WealthFair', WHERE WHAT IT READS IS OF BULK AT MOST 1048576: true; the input reads as it did. -/
def wealthFairUptoRow : OpenClaim := { program := "ytgonighpjpfmnaa", sum := "22a2b1720736ed50df8419f4e58a2e1efa22474bec0510bdaafccb32451d7e8f", func := "flagstone/flagstonelaw40.WealthFair", spec := "wealthFair", named := ["math/bits.divideError", "math/bits.overflowError"], apart := false, narrowed := true }
def WealthFairUptoSaid : Prop := wealthFairUptoRow.holds Try.pinned (OpenSpec.upto wealthFairSpec)

/-- 'flagstonelaw42.BalanceSteps', WHERE WHAT IT READS IS OF BULK AT MOST 1048576: true; the input reads as it did. -/
def balanceStepsUptoRow : OpenClaim := { program := "ytgonighpjpfmnaa", sum := "22a2b1720736ed50df8419f4e58a2e1efa22474bec0510bdaafccb32451d7e8f", func := "flagstone/flagstonelaw42.BalanceSteps", spec := "balanceSteps", named := ["math/bits.divideError", "math/bits.overflowError"], apart := false, narrowed := true }
def BalanceStepsUptoSaid : Prop := balanceStepsUptoRow.holds Try.pinned (OpenSpec.upto balanceStepsSpec)

/-- 'flagstonelaw42.BalanceFair', WHERE WHAT IT READS IS OF BULK AT MOST 1048576: true; the input reads as it did. -/
def balanceFairUptoRow : OpenClaim := { program := "ytgonighpjpfmnaa", sum := "22a2b1720736ed50df8419f4e58a2e1efa22474bec0510bdaafccb32451d7e8f", func := "flagstone/flagstonelaw42.BalanceFair", spec := "balanceFair", named := ["math/bits.divideError", "math/bits.overflowError"], apart := false, narrowed := true }
def BalanceFairUptoSaid : Prop := balanceFairUptoRow.holds Try.pinned (OpenSpec.upto balanceFairSpec)

/-- 'flagstonelaw42.BalanceLevel', WHERE WHAT IT READS IS OF BULK AT MOST 1048576: true; the input reads as it did. -/
def balanceLevelUptoRow : OpenClaim := { program := "ytgonighpjpfmnaa", sum := "22a2b1720736ed50df8419f4e58a2e1efa22474bec0510bdaafccb32451d7e8f", func := "flagstone/flagstonelaw42.BalanceLevel", spec := "balanceLevel", recurses := true, named := ["math/bits.divideError", "math/bits.overflowError"], apart := false, narrowed := true }
def BalanceLevelUptoSaid : Prop := balanceLevelUptoRow.holds Try.pinned (OpenSpec.upto balanceLevelSpec)

/-- 'flagstonelaw40.WealthThresholds', WHERE WHAT IT READS IS OF BULK AT MOST 1048576: true; the input reads as it did. -/
def wealthThresholdsUptoRow : OpenClaim := { program := "ytgonighpjpfmnaa", sum := "22a2b1720736ed50df8419f4e58a2e1efa22474bec0510bdaafccb32451d7e8f", func := "flagstone/flagstonelaw40.WealthThresholds", spec := "wealthThresholds", named := ["math/bits.divideError", "math/bits.overflowError"], apart := false, narrowed := true }
def WealthThresholdsUptoSaid : Prop := wealthThresholdsUptoRow.holds Try.pinned (OpenSpec.upto wealthThresholdsSpec)

/-- 'flagstonelaw40.WealthPaths', WHERE WHAT IT READS IS OF BULK AT MOST 1048576: true; the input reads as it did. -/
def wealthPathsUptoRow : OpenClaim := { program := "ytgonighpjpfmnaa", sum := "22a2b1720736ed50df8419f4e58a2e1efa22474bec0510bdaafccb32451d7e8f", func := "flagstone/flagstonelaw40.WealthPaths", spec := "wealthPaths", named := ["math/bits.divideError", "math/bits.overflowError"], apart := false, narrowed := true }
def WealthPathsUptoSaid : Prop := wealthPathsUptoRow.holds Try.pinned (OpenSpec.upto wealthPathsSpec)

/-- 'flagstonelaw40.WealthMonotone', WHERE WHAT IT READS IS OF BULK AT MOST 1048576: true; the input reads as it did. -/
def wealthMonotoneUptoRow : OpenClaim := { program := "ytgonighpjpfmnaa", sum := "22a2b1720736ed50df8419f4e58a2e1efa22474bec0510bdaafccb32451d7e8f", func := "flagstone/flagstonelaw40.WealthMonotone", spec := "wealthMonotone", named := ["math/bits.divideError", "math/bits.overflowError"], apart := false, narrowed := true }
def WealthMonotoneUptoSaid : Prop := wealthMonotoneUptoRow.holds Try.pinned (OpenSpec.upto wealthMonotoneSpec)

/-- 'flagstonelaw42.BalancePaths', WHERE WHAT IT READS IS OF BULK AT MOST 1048576: true; the input reads as it did. -/
def balancePathsUptoRow : OpenClaim := { program := "ytgonighpjpfmnaa", sum := "22a2b1720736ed50df8419f4e58a2e1efa22474bec0510bdaafccb32451d7e8f", func := "flagstone/flagstonelaw42.BalancePaths", spec := "balancePaths", unfollowed := true, recurses := true, named := ["math/bits.divideError", "math/bits.overflowError"], apart := false, narrowed := true }
def BalancePathsUptoSaid : Prop := balancePathsUptoRow.holds Try.pinned (OpenSpec.upto balancePathsSpec)

/-- 'flagstonelaw42.BalanceFinds', WHERE WHAT IT READS IS OF BULK AT MOST 1048576: true; the input reads as it did. -/
def balanceFindsUptoRow : OpenClaim := { program := "ytgonighpjpfmnaa", sum := "22a2b1720736ed50df8419f4e58a2e1efa22474bec0510bdaafccb32451d7e8f", func := "flagstone/flagstonelaw42.BalanceFinds", spec := "balanceFinds", unfollowed := true, recurses := true, named := ["math/bits.divideError", "math/bits.overflowError"], apart := false, narrowed := true }
def BalanceFindsUptoSaid : Prop := balanceFindsUptoRow.holds Try.pinned (OpenSpec.upto balanceFindsSpec)

/-- 'flagstonelaw41.SequenceTells', WHERE WHAT IT READS IS OF BULK AT MOST 1048576: true; the input reads as it did. -/
def sequenceTellsUptoRow : OpenClaim := { program := "ytgonighpjpfmnaa", sum := "22a2b1720736ed50df8419f4e58a2e1efa22474bec0510bdaafccb32451d7e8f", func := "flagstone/flagstonelaw41.SequenceTells", spec := "sequenceTells", unfollowed := true, recurses := true, named := ["math/bits.divideError", "math/bits.overflowError"], apart := false, narrowed := true }
def SequenceTellsUptoSaid : Prop := sequenceTellsUptoRow.holds Try.pinned (OpenSpec.upto sequenceTellsSpec)

/-- 'flagstonelaw41.SequenceExcludes', WHERE WHAT IT READS IS OF BULK AT MOST 1048576: true; the input reads as it did. -/
def sequenceExcludesUptoRow : OpenClaim := { program := "ytgonighpjpfmnaa", sum := "22a2b1720736ed50df8419f4e58a2e1efa22474bec0510bdaafccb32451d7e8f", func := "flagstone/flagstonelaw41.SequenceExcludes", spec := "sequenceExcludes", unfollowed := true, recurses := true, named := ["math/bits.divideError", "math/bits.overflowError"], apart := false, narrowed := true }
def SequenceExcludesUptoSaid : Prop := sequenceExcludesUptoRow.holds Try.pinned (OpenSpec.upto sequenceExcludesSpec)

/-- 'flagstonelaw41.SequenceMirrors', WHERE WHAT IT READS IS OF BULK AT MOST 1048576: true; the input reads as it did. -/
def sequenceMirrorsUptoRow : OpenClaim := { program := "ytgonighpjpfmnaa", sum := "22a2b1720736ed50df8419f4e58a2e1efa22474bec0510bdaafccb32451d7e8f", func := "flagstone/flagstonelaw41.SequenceMirrors", spec := "sequenceMirrors", unfollowed := true, recurses := true, named := ["math/bits.divideError", "math/bits.overflowError"], apart := false, narrowed := true }
def SequenceMirrorsUptoSaid : Prop := sequenceMirrorsUptoRow.holds Try.pinned (OpenSpec.upto sequenceMirrorsSpec)

/-- 'flagstonelaw41.SequenceTruth', WHERE WHAT IT READS IS OF BULK AT MOST 1048576: true; the input reads as it did. -/
def sequenceTruthUptoRow : OpenClaim := { program := "ytgonighpjpfmnaa", sum := "22a2b1720736ed50df8419f4e58a2e1efa22474bec0510bdaafccb32451d7e8f", func := "flagstone/flagstonelaw41.SequenceTruth", spec := "sequenceTruth", unfollowed := true, recurses := true, named := ["math/bits.divideError", "math/bits.overflowError"], apart := false, narrowed := true }
def SequenceTruthUptoSaid : Prop := sequenceTruthUptoRow.holds Try.pinned (OpenSpec.upto sequenceTruthSpec)

/-- 'flagstonelaw41.SequenceNarrows', WHERE WHAT IT READS IS OF BULK AT MOST 1048576: true; the input reads as it did. -/
def sequenceNarrowsUptoRow : OpenClaim := { program := "ytgonighpjpfmnaa", sum := "22a2b1720736ed50df8419f4e58a2e1efa22474bec0510bdaafccb32451d7e8f", func := "flagstone/flagstonelaw41.SequenceNarrows", spec := "sequenceNarrows", unfollowed := true, recurses := true, named := ["math/bits.divideError", "math/bits.overflowError"], apart := false, narrowed := true }
def SequenceNarrowsUptoSaid : Prop := sequenceNarrowsUptoRow.holds Try.pinned (OpenSpec.upto sequenceNarrowsSpec)

/-- 'flagstonelaw40.WealthSubjects', WHERE WHAT IT READS IS OF BULK AT MOST 1048576: true; the input reads as it did. -/
def wealthSubjectsUptoRow : OpenClaim := { program := "ytgonighpjpfmnaa", sum := "22a2b1720736ed50df8419f4e58a2e1efa22474bec0510bdaafccb32451d7e8f", func := "flagstone/flagstonelaw40.WealthSubjects", spec := "wealthSubjects", named := ["math/bits.divideError", "math/bits.overflowError"], apart := false, narrowed := true }
def WealthSubjectsUptoSaid : Prop := wealthSubjectsUptoRow.holds Try.pinned (OpenSpec.upto wealthSubjectsSpec)

/-- 'flagstonelaw41.SequenceOf', WHERE WHAT IT READS IS OF BULK AT MOST 1048576: true; the input reads as it did. -/
def sequenceOfUptoRow : OpenClaim := { program := "ytgonighpjpfmnaa", sum := "22a2b1720736ed50df8419f4e58a2e1efa22474bec0510bdaafccb32451d7e8f", func := "flagstone/flagstonelaw41.SequenceOf", spec := "sequenceOf", unfollowed := true, recurses := true, named := ["math/bits.divideError", "math/bits.overflowError"], apart := false, narrowed := true }
def SequenceOfUptoSaid : Prop := sequenceOfUptoRow.holds Try.pinned (OpenSpec.upto sequenceOfSpec)

/-- 'flagstonelaw41.SequenceLevel', WHERE WHAT IT READS IS OF BULK AT MOST 1048576: true; the input reads as it did. -/
def sequenceLevelUptoRow : OpenClaim := { program := "ytgonighpjpfmnaa", sum := "22a2b1720736ed50df8419f4e58a2e1efa22474bec0510bdaafccb32451d7e8f", func := "flagstone/flagstonelaw41.SequenceLevel", spec := "sequenceLevel", unfollowed := true, recurses := true, named := ["math/bits.divideError", "math/bits.overflowError"], apart := false, narrowed := true }
def SequenceLevelUptoSaid : Prop := sequenceLevelUptoRow.holds Try.pinned (OpenSpec.upto sequenceLevelSpec)

end Rows
end Go.Proofs.Ytgonighpjpfmnaa
