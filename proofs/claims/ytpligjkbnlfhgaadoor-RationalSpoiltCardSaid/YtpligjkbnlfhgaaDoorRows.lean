/-
  NARROWER THAN 'FOR EVERY INPUT', by the rows' own cells (each row's printed sentence says how): RationalScales: laid · RationalForms: laid · RationalSpoilt: laid · RationalDigits: laid · RationalField: laid · RationalOrder: laid · RationalTells: laid · EstimateShifts: laid · EstimateArms: laid · EstimateCovariances: laid · EstimateLimits: laid · EstimateReduces: laid · IntervalFractions: laid · IntervalEncloses: laid.
  DERIVED. THE GIVEN ROWS OF THIS SEAT. 14 by the template 'for every input the law returns true; each argument reads behind the call as it read before'; 0 by the template 'total and deterministic' (their statements: YtpligjkbnlfhgaaDoorTotals.lean).
  GIVEN WITH THE SEED: the statements are not yours to turn. If you find one false, say at which input.
  Laid BY PROGRAM, IN A SANDBOX (cutbox-rows.mjs): the forced cells as the released guide's own fill.sh prints them over the translation 3d784ba0f38c24b5… (all of the seat's roots in one cut). By AI agents, Wed Nov 11 2026. No macro, syntax, notation, axiom, sorry.
-/
import Derived.Test.YtpligjkbnlfhgaaDoorChecked
import GoSem.PinnedTables
import GoSem.Claim
import GoSem.ClaimJoined
import GoSem.ClaimMapViews
import Derived.JoinedTies
import Derived.KernelRfl
namespace Go.Proofs.YtpligjkbnlfhgaaDoor
/- THE CELL 'sum', in the pinned program and in every row, IS THE sha256 OF THE DUMP (.gsa) THAT YtpligjkbnlfhgaaDoorProg.lean LOADS. Nothing in Lean hashes anything: it is a label: what it is worth is what the hold of that sum in a sandbox is worth. -/
noncomputable def Tryd.pinned : Pinned := { name := "ytpligjkbnlfhgaadoor", sum := "3d784ba0f38c24b5baad06c0599cc84f7ac986fdf322681414ded1aedd2e103b", checked := Tryd.checked }
namespace Rows
def none {H : Type} : Left H := { results := [], args := [] }

/- WHAT THE LISTED PACKAGE-LEVEL VARIABLES READ AS WHEN THE CALL BEGINS. Each datum BY PROGRAM (the guide's laid-datum.mjs) off the statement by which the dump's own 'gosem.cut.vars' lays the variable. In a bare row this is a premise. The card (YtpligjkbnlfhgaaDoorCards.lean) ties it to the program's text. -/
def laid_unicode_utf8_acceptRanges {H : Type} : DataW H := .agg [.agg [.lit (.int .u8 128), .lit (.int .u8 191)], .agg [.lit (.int .u8 160), .lit (.int .u8 191)], .agg [.lit (.int .u8 128), .lit (.int .u8 159)], .agg [.lit (.int .u8 144), .lit (.int .u8 191)], .agg [.lit (.int .u8 128), .lit (.int .u8 143)], .agg [.lit (.int .u8 0), .lit (.int .u8 0)], .agg [.lit (.int .u8 0), .lit (.int .u8 0)], .agg [.lit (.int .u8 0), .lit (.int .u8 0)], .agg [.lit (.int .u8 0), .lit (.int .u8 0)], .agg [.lit (.int .u8 0), .lit (.int .u8 0)], .agg [.lit (.int .u8 0), .lit (.int .u8 0)], .agg [.lit (.int .u8 0), .lit (.int .u8 0)], .agg [.lit (.int .u8 0), .lit (.int .u8 0)], .agg [.lit (.int .u8 0), .lit (.int .u8 0)], .agg [.lit (.int .u8 0), .lit (.int .u8 0)], .agg [.lit (.int .u8 0), .lit (.int .u8 0)]]
/-- One of Go's own tables, pinned by name: the form's constant. -/
def laid_unicode_utf8_first : DataW Unit := Go.Pinned.utf8First

/-- 'flagstonelaw36.RationalScales': WHATEVER THE INPUT: true; the input reads as it did. -/
def rationalScalesSpec : ChangeSpec := { name := "rationalScales", fn := fun _ => fun
  | [d1, d2, d3, d4, d5] => { results := [.lit (.bool true)], args := [d1, d2, d3, d4, d5] }
  | _ => none }
def rationalScalesRow : OpenClaim := { program := "ytpligjkbnlfhgaadoor", sum := "3d784ba0f38c24b5baad06c0599cc84f7ac986fdf322681414ded1aedd2e103b", func := "flagstone/flagstonelaw36.RationalScales", spec := "rationalScales", inPlace := ["internal/bytealg.IndexByteString", "internal/bytealg.IndexString"], unfollowed := true, recurses := true, named := ["unicode/utf8.first", "unicode/utf8.acceptRanges", "internal/bytealg.MaxLen"], apart := false, laid := [("unicode/utf8.acceptRanges", laid_unicode_utf8_acceptRanges), ("unicode/utf8.first", laid_unicode_utf8_first)] }
def RationalScalesSaid : Prop := rationalScalesRow.holds Tryd.pinned (OpenSpec.ofChange rationalScalesSpec)

/-- ITS FALSE NEIGHBOUR: 'it returns false'. Refute it at one input. -/
def rationalScalesWrong : ChangeSpec := { name := "rationalScales", fn := fun _ => fun
  | [d1, d2, d3, d4, d5] => { results := [.lit (.bool false)], args := [d1, d2, d3, d4, d5] }
  | _ => none }
def RationalScalesWrongFalsely : Prop := rationalScalesRow.holds Tryd.pinned (OpenSpec.ofChange rationalScalesWrong)

/-- 'flagstonelaw36.RationalForms': WHATEVER THE INPUT: true; the input reads as it did. -/
def rationalFormsSpec : ChangeSpec := { name := "rationalForms", fn := fun _ => fun
  | [d1, d2, d3, d4, d5] => { results := [.lit (.bool true)], args := [d1, d2, d3, d4, d5] }
  | _ => none }
def rationalFormsRow : OpenClaim := { program := "ytpligjkbnlfhgaadoor", sum := "3d784ba0f38c24b5baad06c0599cc84f7ac986fdf322681414ded1aedd2e103b", func := "flagstone/flagstonelaw36.RationalForms", spec := "rationalForms", inPlace := ["internal/bytealg.IndexByteString", "internal/bytealg.IndexString"], unfollowed := true, recurses := true, named := ["unicode/utf8.first", "unicode/utf8.acceptRanges", "internal/bytealg.MaxLen"], apart := false, laid := [("unicode/utf8.acceptRanges", laid_unicode_utf8_acceptRanges), ("unicode/utf8.first", laid_unicode_utf8_first)] }
def RationalFormsSaid : Prop := rationalFormsRow.holds Tryd.pinned (OpenSpec.ofChange rationalFormsSpec)

/-- ITS FALSE NEIGHBOUR: 'it returns false'. Refute it at one input. -/
def rationalFormsWrong : ChangeSpec := { name := "rationalForms", fn := fun _ => fun
  | [d1, d2, d3, d4, d5] => { results := [.lit (.bool false)], args := [d1, d2, d3, d4, d5] }
  | _ => none }
def RationalFormsWrongFalsely : Prop := rationalFormsRow.holds Tryd.pinned (OpenSpec.ofChange rationalFormsWrong)

/-- 'flagstonelaw36.RationalSpoilt': WHATEVER THE INPUT: true; the input reads as it did. -/
def rationalSpoiltSpec : ChangeSpec := { name := "rationalSpoilt", fn := fun _ => fun
  | [d1, d2, d3, d4, d5] => { results := [.lit (.bool true)], args := [d1, d2, d3, d4, d5] }
  | _ => none }
def rationalSpoiltRow : OpenClaim := { program := "ytpligjkbnlfhgaadoor", sum := "3d784ba0f38c24b5baad06c0599cc84f7ac986fdf322681414ded1aedd2e103b", func := "flagstone/flagstonelaw36.RationalSpoilt", spec := "rationalSpoilt", inPlace := ["internal/bytealg.IndexByteString", "internal/bytealg.IndexString"], unfollowed := true, recurses := true, named := ["unicode/utf8.first", "unicode/utf8.acceptRanges", "internal/bytealg.MaxLen"], apart := false, laid := [("unicode/utf8.acceptRanges", laid_unicode_utf8_acceptRanges), ("unicode/utf8.first", laid_unicode_utf8_first)] }
def RationalSpoiltSaid : Prop := rationalSpoiltRow.holds Tryd.pinned (OpenSpec.ofChange rationalSpoiltSpec)

/-- ITS FALSE NEIGHBOUR: 'it returns false'. Refute it at one input. -/
def rationalSpoiltWrong : ChangeSpec := { name := "rationalSpoilt", fn := fun _ => fun
  | [d1, d2, d3, d4, d5] => { results := [.lit (.bool false)], args := [d1, d2, d3, d4, d5] }
  | _ => none }
def RationalSpoiltWrongFalsely : Prop := rationalSpoiltRow.holds Tryd.pinned (OpenSpec.ofChange rationalSpoiltWrong)

/-- 'flagstonelaw36.RationalDigits': WHATEVER THE INPUT: true; the input reads as it did. -/
def rationalDigitsSpec : ChangeSpec := { name := "rationalDigits", fn := fun _ => fun
  | [d1, d2, d3] => { results := [.lit (.bool true)], args := [d1, d2, d3] }
  | _ => none }
def rationalDigitsRow : OpenClaim := { program := "ytpligjkbnlfhgaadoor", sum := "3d784ba0f38c24b5baad06c0599cc84f7ac986fdf322681414ded1aedd2e103b", func := "flagstone/flagstonelaw36.RationalDigits", spec := "rationalDigits", inPlace := ["internal/bytealg.IndexByteString", "internal/bytealg.IndexString"], unfollowed := true, recurses := true, named := ["unicode/utf8.first", "unicode/utf8.acceptRanges", "internal/bytealg.MaxLen"], apart := false, laid := [("unicode/utf8.acceptRanges", laid_unicode_utf8_acceptRanges), ("unicode/utf8.first", laid_unicode_utf8_first)] }
def RationalDigitsSaid : Prop := rationalDigitsRow.holds Tryd.pinned (OpenSpec.ofChange rationalDigitsSpec)

/-- ITS FALSE NEIGHBOUR: 'it returns false'. Refute it at one input. -/
def rationalDigitsWrong : ChangeSpec := { name := "rationalDigits", fn := fun _ => fun
  | [d1, d2, d3] => { results := [.lit (.bool false)], args := [d1, d2, d3] }
  | _ => none }
def RationalDigitsWrongFalsely : Prop := rationalDigitsRow.holds Tryd.pinned (OpenSpec.ofChange rationalDigitsWrong)

/-- 'flagstonelaw36.RationalField': WHATEVER THE INPUT: true; the input reads as it did. -/
def rationalFieldSpec : ChangeSpec := { name := "rationalField", fn := fun _ => fun
  | [d1, d2, d3, d4, d5, d6] => { results := [.lit (.bool true)], args := [d1, d2, d3, d4, d5, d6] }
  | _ => none }
def rationalFieldRow : OpenClaim := { program := "ytpligjkbnlfhgaadoor", sum := "3d784ba0f38c24b5baad06c0599cc84f7ac986fdf322681414ded1aedd2e103b", func := "flagstone/flagstonelaw36.RationalField", spec := "rationalField", inPlace := ["internal/bytealg.IndexByteString", "internal/bytealg.IndexString"], unfollowed := true, recurses := true, named := ["unicode/utf8.first", "unicode/utf8.acceptRanges", "internal/bytealg.MaxLen"], apart := false, laid := [("unicode/utf8.acceptRanges", laid_unicode_utf8_acceptRanges), ("unicode/utf8.first", laid_unicode_utf8_first)] }
def RationalFieldSaid : Prop := rationalFieldRow.holds Tryd.pinned (OpenSpec.ofChange rationalFieldSpec)

/-- ITS FALSE NEIGHBOUR: 'it returns false'. Refute it at one input. -/
def rationalFieldWrong : ChangeSpec := { name := "rationalField", fn := fun _ => fun
  | [d1, d2, d3, d4, d5, d6] => { results := [.lit (.bool false)], args := [d1, d2, d3, d4, d5, d6] }
  | _ => none }
def RationalFieldWrongFalsely : Prop := rationalFieldRow.holds Tryd.pinned (OpenSpec.ofChange rationalFieldWrong)

/-- 'flagstonelaw36.RationalOrder': WHATEVER THE INPUT: true; the input reads as it did. -/
def rationalOrderSpec : ChangeSpec := { name := "rationalOrder", fn := fun _ => fun
  | [d1, d2, d3, d4, d5, d6] => { results := [.lit (.bool true)], args := [d1, d2, d3, d4, d5, d6] }
  | _ => none }
def rationalOrderRow : OpenClaim := { program := "ytpligjkbnlfhgaadoor", sum := "3d784ba0f38c24b5baad06c0599cc84f7ac986fdf322681414ded1aedd2e103b", func := "flagstone/flagstonelaw36.RationalOrder", spec := "rationalOrder", inPlace := ["internal/bytealg.IndexByteString", "internal/bytealg.IndexString"], unfollowed := true, recurses := true, named := ["unicode/utf8.first", "unicode/utf8.acceptRanges", "internal/bytealg.MaxLen"], apart := false, laid := [("unicode/utf8.acceptRanges", laid_unicode_utf8_acceptRanges), ("unicode/utf8.first", laid_unicode_utf8_first)] }
def RationalOrderSaid : Prop := rationalOrderRow.holds Tryd.pinned (OpenSpec.ofChange rationalOrderSpec)

/-- ITS FALSE NEIGHBOUR: 'it returns false'. Refute it at one input. -/
def rationalOrderWrong : ChangeSpec := { name := "rationalOrder", fn := fun _ => fun
  | [d1, d2, d3, d4, d5, d6] => { results := [.lit (.bool false)], args := [d1, d2, d3, d4, d5, d6] }
  | _ => none }
def RationalOrderWrongFalsely : Prop := rationalOrderRow.holds Tryd.pinned (OpenSpec.ofChange rationalOrderWrong)

/-- 'flagstonelaw36.RationalTells': WHATEVER THE INPUT: true; the input reads as it did. -/
def rationalTellsSpec : ChangeSpec := { name := "rationalTells", fn := fun _ => fun
  | [d1, d2, d3, d4, d5, d6] => { results := [.lit (.bool true)], args := [d1, d2, d3, d4, d5, d6] }
  | _ => none }
def rationalTellsRow : OpenClaim := { program := "ytpligjkbnlfhgaadoor", sum := "3d784ba0f38c24b5baad06c0599cc84f7ac986fdf322681414ded1aedd2e103b", func := "flagstone/flagstonelaw36.RationalTells", spec := "rationalTells", inPlace := ["internal/bytealg.IndexByteString", "internal/bytealg.IndexString"], unfollowed := true, recurses := true, named := ["unicode/utf8.first", "unicode/utf8.acceptRanges", "internal/bytealg.MaxLen"], apart := false, laid := [("unicode/utf8.acceptRanges", laid_unicode_utf8_acceptRanges), ("unicode/utf8.first", laid_unicode_utf8_first)] }
def RationalTellsSaid : Prop := rationalTellsRow.holds Tryd.pinned (OpenSpec.ofChange rationalTellsSpec)

/-- ITS FALSE NEIGHBOUR: 'it returns false'. Refute it at one input. -/
def rationalTellsWrong : ChangeSpec := { name := "rationalTells", fn := fun _ => fun
  | [d1, d2, d3, d4, d5, d6] => { results := [.lit (.bool false)], args := [d1, d2, d3, d4, d5, d6] }
  | _ => none }
def RationalTellsWrongFalsely : Prop := rationalTellsRow.holds Tryd.pinned (OpenSpec.ofChange rationalTellsWrong)

/-- 'flagstonelaw38.EstimateShifts': WHATEVER THE INPUT: true; the input reads as it did. -/
def estimateShiftsSpec : ChangeSpec := { name := "estimateShifts", fn := fun _ => fun
  | [d1, d2, d3] => { results := [.lit (.bool true)], args := [d1, d2, d3] }
  | _ => none }
def estimateShiftsRow : OpenClaim := { program := "ytpligjkbnlfhgaadoor", sum := "3d784ba0f38c24b5baad06c0599cc84f7ac986fdf322681414ded1aedd2e103b", func := "flagstone/flagstonelaw38.EstimateShifts", spec := "estimateShifts", inPlace := ["internal/bytealg.IndexByteString", "internal/bytealg.IndexString"], unfollowed := true, recurses := true, named := ["unicode/utf8.first", "unicode/utf8.acceptRanges", "internal/bytealg.MaxLen"], apart := false, laid := [("unicode/utf8.acceptRanges", laid_unicode_utf8_acceptRanges), ("unicode/utf8.first", laid_unicode_utf8_first)] }
def EstimateShiftsSaid : Prop := estimateShiftsRow.holds Tryd.pinned (OpenSpec.ofChange estimateShiftsSpec)

/-- ITS FALSE NEIGHBOUR: 'it returns false'. Refute it at one input. -/
def estimateShiftsWrong : ChangeSpec := { name := "estimateShifts", fn := fun _ => fun
  | [d1, d2, d3] => { results := [.lit (.bool false)], args := [d1, d2, d3] }
  | _ => none }
def EstimateShiftsWrongFalsely : Prop := estimateShiftsRow.holds Tryd.pinned (OpenSpec.ofChange estimateShiftsWrong)

/-- 'flagstonelaw38.EstimateArms': WHATEVER THE INPUT: true; the input reads as it did. -/
def estimateArmsSpec : ChangeSpec := { name := "estimateArms", fn := fun _ => fun
  | [d1, d2] => { results := [.lit (.bool true)], args := [d1, d2] }
  | _ => none }
def estimateArmsRow : OpenClaim := { program := "ytpligjkbnlfhgaadoor", sum := "3d784ba0f38c24b5baad06c0599cc84f7ac986fdf322681414ded1aedd2e103b", func := "flagstone/flagstonelaw38.EstimateArms", spec := "estimateArms", inPlace := ["internal/bytealg.IndexByteString", "internal/bytealg.IndexString"], unfollowed := true, recurses := true, named := ["unicode/utf8.first", "unicode/utf8.acceptRanges", "internal/bytealg.MaxLen"], apart := false, laid := [("unicode/utf8.acceptRanges", laid_unicode_utf8_acceptRanges), ("unicode/utf8.first", laid_unicode_utf8_first)] }
def EstimateArmsSaid : Prop := estimateArmsRow.holds Tryd.pinned (OpenSpec.ofChange estimateArmsSpec)

/-- ITS FALSE NEIGHBOUR: 'it returns false'. Refute it at one input. -/
def estimateArmsWrong : ChangeSpec := { name := "estimateArms", fn := fun _ => fun
  | [d1, d2] => { results := [.lit (.bool false)], args := [d1, d2] }
  | _ => none }
def EstimateArmsWrongFalsely : Prop := estimateArmsRow.holds Tryd.pinned (OpenSpec.ofChange estimateArmsWrong)

/-- 'flagstonelaw38.EstimateCovariances': WHATEVER THE INPUT: true; the input reads as it did. -/
def estimateCovariancesSpec : ChangeSpec := { name := "estimateCovariances", fn := fun _ => fun
  | [d1, d2] => { results := [.lit (.bool true)], args := [d1, d2] }
  | _ => none }
def estimateCovariancesRow : OpenClaim := { program := "ytpligjkbnlfhgaadoor", sum := "3d784ba0f38c24b5baad06c0599cc84f7ac986fdf322681414ded1aedd2e103b", func := "flagstone/flagstonelaw38.EstimateCovariances", spec := "estimateCovariances", inPlace := ["internal/bytealg.IndexByteString", "internal/bytealg.IndexString"], unfollowed := true, recurses := true, named := ["unicode/utf8.first", "unicode/utf8.acceptRanges", "internal/bytealg.MaxLen"], apart := false, laid := [("unicode/utf8.acceptRanges", laid_unicode_utf8_acceptRanges), ("unicode/utf8.first", laid_unicode_utf8_first)] }
def EstimateCovariancesSaid : Prop := estimateCovariancesRow.holds Tryd.pinned (OpenSpec.ofChange estimateCovariancesSpec)

/-- ITS FALSE NEIGHBOUR: 'it returns false'. Refute it at one input. -/
def estimateCovariancesWrong : ChangeSpec := { name := "estimateCovariances", fn := fun _ => fun
  | [d1, d2] => { results := [.lit (.bool false)], args := [d1, d2] }
  | _ => none }
def EstimateCovariancesWrongFalsely : Prop := estimateCovariancesRow.holds Tryd.pinned (OpenSpec.ofChange estimateCovariancesWrong)

/-- 'flagstonelaw38.EstimateLimits': WHATEVER THE INPUT: true; the input reads as it did. -/
def estimateLimitsSpec : ChangeSpec := { name := "estimateLimits", fn := fun _ => fun
  | [d1, d2] => { results := [.lit (.bool true)], args := [d1, d2] }
  | _ => none }
def estimateLimitsRow : OpenClaim := { program := "ytpligjkbnlfhgaadoor", sum := "3d784ba0f38c24b5baad06c0599cc84f7ac986fdf322681414ded1aedd2e103b", func := "flagstone/flagstonelaw38.EstimateLimits", spec := "estimateLimits", inPlace := ["internal/bytealg.IndexByteString", "internal/bytealg.IndexString"], unfollowed := true, recurses := true, named := ["unicode/utf8.first", "unicode/utf8.acceptRanges", "internal/bytealg.MaxLen"], apart := false, laid := [("unicode/utf8.acceptRanges", laid_unicode_utf8_acceptRanges), ("unicode/utf8.first", laid_unicode_utf8_first)] }
def EstimateLimitsSaid : Prop := estimateLimitsRow.holds Tryd.pinned (OpenSpec.ofChange estimateLimitsSpec)

/-- ITS FALSE NEIGHBOUR: 'it returns false'. Refute it at one input. -/
def estimateLimitsWrong : ChangeSpec := { name := "estimateLimits", fn := fun _ => fun
  | [d1, d2] => { results := [.lit (.bool false)], args := [d1, d2] }
  | _ => none }
def EstimateLimitsWrongFalsely : Prop := estimateLimitsRow.holds Tryd.pinned (OpenSpec.ofChange estimateLimitsWrong)

/-- 'flagstonelaw38.EstimateReduces': WHATEVER THE INPUT: true; the input reads as it did. -/
def estimateReducesSpec : ChangeSpec := { name := "estimateReduces", fn := fun _ => fun
  | [d1, d2, d3, d4] => { results := [.lit (.bool true)], args := [d1, d2, d3, d4] }
  | _ => none }
def estimateReducesRow : OpenClaim := { program := "ytpligjkbnlfhgaadoor", sum := "3d784ba0f38c24b5baad06c0599cc84f7ac986fdf322681414ded1aedd2e103b", func := "flagstone/flagstonelaw38.EstimateReduces", spec := "estimateReduces", inPlace := ["internal/bytealg.IndexByteString", "internal/bytealg.IndexString"], unfollowed := true, recurses := true, named := ["unicode/utf8.first", "unicode/utf8.acceptRanges", "internal/bytealg.MaxLen"], apart := false, laid := [("unicode/utf8.acceptRanges", laid_unicode_utf8_acceptRanges), ("unicode/utf8.first", laid_unicode_utf8_first)] }
def EstimateReducesSaid : Prop := estimateReducesRow.holds Tryd.pinned (OpenSpec.ofChange estimateReducesSpec)

/-- ITS FALSE NEIGHBOUR: 'it returns false'. Refute it at one input. -/
def estimateReducesWrong : ChangeSpec := { name := "estimateReduces", fn := fun _ => fun
  | [d1, d2, d3, d4] => { results := [.lit (.bool false)], args := [d1, d2, d3, d4] }
  | _ => none }
def EstimateReducesWrongFalsely : Prop := estimateReducesRow.holds Tryd.pinned (OpenSpec.ofChange estimateReducesWrong)

/-- 'flagstonelaw37.IntervalFractions': WHATEVER THE INPUT: true; the input reads as it did. -/
def intervalFractionsSpec : ChangeSpec := { name := "intervalFractions", fn := fun _ => fun
  | [d1, d2, d3, d4, d5, d6] => { results := [.lit (.bool true)], args := [d1, d2, d3, d4, d5, d6] }
  | _ => none }
def intervalFractionsRow : OpenClaim := { program := "ytpligjkbnlfhgaadoor", sum := "3d784ba0f38c24b5baad06c0599cc84f7ac986fdf322681414ded1aedd2e103b", func := "flagstone/flagstonelaw37.IntervalFractions", spec := "intervalFractions", inPlace := ["internal/bytealg.IndexByteString", "internal/bytealg.IndexString"], unfollowed := true, recurses := true, named := ["unicode/utf8.first", "unicode/utf8.acceptRanges", "internal/bytealg.MaxLen"], apart := false, laid := [("unicode/utf8.acceptRanges", laid_unicode_utf8_acceptRanges), ("unicode/utf8.first", laid_unicode_utf8_first)] }
def IntervalFractionsSaid : Prop := intervalFractionsRow.holds Tryd.pinned (OpenSpec.ofChange intervalFractionsSpec)

/-- ITS FALSE NEIGHBOUR: 'it returns false'. Refute it at one input. -/
def intervalFractionsWrong : ChangeSpec := { name := "intervalFractions", fn := fun _ => fun
  | [d1, d2, d3, d4, d5, d6] => { results := [.lit (.bool false)], args := [d1, d2, d3, d4, d5, d6] }
  | _ => none }
def IntervalFractionsWrongFalsely : Prop := intervalFractionsRow.holds Tryd.pinned (OpenSpec.ofChange intervalFractionsWrong)

/-- 'flagstonelaw37.IntervalEncloses': WHATEVER THE INPUT: true; the input reads as it did. -/
def intervalEnclosesSpec : ChangeSpec := { name := "intervalEncloses", fn := fun _ => fun
  | [d1, d2, d3, d4, d5, d6, d7, d8] => { results := [.lit (.bool true)], args := [d1, d2, d3, d4, d5, d6, d7, d8] }
  | _ => none }
def intervalEnclosesRow : OpenClaim := { program := "ytpligjkbnlfhgaadoor", sum := "3d784ba0f38c24b5baad06c0599cc84f7ac986fdf322681414ded1aedd2e103b", func := "flagstone/flagstonelaw37.IntervalEncloses", spec := "intervalEncloses", inPlace := ["internal/bytealg.IndexByteString", "internal/bytealg.IndexString"], unfollowed := true, recurses := true, named := ["unicode/utf8.first", "unicode/utf8.acceptRanges", "math/bits.divideError", "math/bits.overflowError", "internal/bytealg.MaxLen"], apart := false, laid := [("unicode/utf8.acceptRanges", laid_unicode_utf8_acceptRanges), ("unicode/utf8.first", laid_unicode_utf8_first)] }
def IntervalEnclosesSaid : Prop := intervalEnclosesRow.holds Tryd.pinned (OpenSpec.ofChange intervalEnclosesSpec)

/-- ITS FALSE NEIGHBOUR: 'it returns false'. Refute it at one input. -/
def intervalEnclosesWrong : ChangeSpec := { name := "intervalEncloses", fn := fun _ => fun
  | [d1, d2, d3, d4, d5, d6, d7, d8] => { results := [.lit (.bool false)], args := [d1, d2, d3, d4, d5, d6, d7, d8] }
  | _ => none }
def IntervalEnclosesWrongFalsely : Prop := intervalEnclosesRow.holds Tryd.pinned (OpenSpec.ofChange intervalEnclosesWrong)

/- THE SECOND FORM. 'bulk': how many values and letters a reading holds, each counted each time it is reached (what is shared counts as often as it is met; a slice's spare places count too). A statement '..UptoSaid' is the law's where the arguments, and the package variables that the reading takes, are together of bulk at most 1048576: NARROWER than '..Said'. Prove '..Said' where nothing that the law and all that it calls make is longer than what came in: it says more and counts as full. Else prove '..UptoSaid'. A law counts once. -/
mutual
def uptoBulk {H : Type} : DataW H → Nat
  | .lit (.string bytes) => bytes.length + 1
  | .lit _ => 1
  | .nil => 1
  | .ptr d => uptoBulk d + 1
  | .slice elems spare => uptoBulkAll elems + uptoBulkAll spare + 1
  | .agg parts => uptoBulkAll parts + 1
  | .iface _ d => uptoBulk d + 1
  | .map entries => uptoBulkEntries entries + 1
  | .held _ => 1
def uptoBulkAll {H : Type} : List (DataW H) → Nat
  | [] => 0
  | d :: r => uptoBulk d + uptoBulkAll r
def uptoBulkEntries {H : Type} : List (Lit × DataW H) → Nat
  | [] => 0
  | x :: r => uptoBulkEntry x + uptoBulkEntries r
def uptoBulkEntry {H : Type} : Lit × DataW H → Nat
  | (.string bytes, d) => bytes.length + uptoBulk d + 1
  | (_, d) => uptoBulk d + 1
 end
def uptoSmall : (H : Type) → List (DataW H) → Bool := fun _ ds => decide (uptoBulkAll ds ≤ 1048576)
def OpenSpec.upto (s : _root_.Go.ChangeSpec) : _root_.Go.OpenSpec := { _root_.Go.OpenSpec.ofChange s with cond := some uptoSmall }

/-- 'flagstonelaw36.RationalScales', WHERE WHAT IT READS IS OF BULK AT MOST 1048576: true; the input reads as it did. -/
def rationalScalesUptoRow : OpenClaim := { program := "ytpligjkbnlfhgaadoor", sum := "3d784ba0f38c24b5baad06c0599cc84f7ac986fdf322681414ded1aedd2e103b", func := "flagstone/flagstonelaw36.RationalScales", spec := "rationalScales", inPlace := ["internal/bytealg.IndexByteString", "internal/bytealg.IndexString"], unfollowed := true, recurses := true, named := ["unicode/utf8.first", "unicode/utf8.acceptRanges", "internal/bytealg.MaxLen"], apart := false, laid := [("unicode/utf8.acceptRanges", laid_unicode_utf8_acceptRanges), ("unicode/utf8.first", laid_unicode_utf8_first)], narrowed := true }
def RationalScalesUptoSaid : Prop := rationalScalesUptoRow.holds Tryd.pinned (OpenSpec.upto rationalScalesSpec)

/-- 'flagstonelaw36.RationalForms', WHERE WHAT IT READS IS OF BULK AT MOST 1048576: true; the input reads as it did. -/
def rationalFormsUptoRow : OpenClaim := { program := "ytpligjkbnlfhgaadoor", sum := "3d784ba0f38c24b5baad06c0599cc84f7ac986fdf322681414ded1aedd2e103b", func := "flagstone/flagstonelaw36.RationalForms", spec := "rationalForms", inPlace := ["internal/bytealg.IndexByteString", "internal/bytealg.IndexString"], unfollowed := true, recurses := true, named := ["unicode/utf8.first", "unicode/utf8.acceptRanges", "internal/bytealg.MaxLen"], apart := false, laid := [("unicode/utf8.acceptRanges", laid_unicode_utf8_acceptRanges), ("unicode/utf8.first", laid_unicode_utf8_first)], narrowed := true }
def RationalFormsUptoSaid : Prop := rationalFormsUptoRow.holds Tryd.pinned (OpenSpec.upto rationalFormsSpec)

/-- 'flagstonelaw36.RationalSpoilt', WHERE WHAT IT READS IS OF BULK AT MOST 1048576: true; the input reads as it did. -/
def rationalSpoiltUptoRow : OpenClaim := { program := "ytpligjkbnlfhgaadoor", sum := "3d784ba0f38c24b5baad06c0599cc84f7ac986fdf322681414ded1aedd2e103b", func := "flagstone/flagstonelaw36.RationalSpoilt", spec := "rationalSpoilt", inPlace := ["internal/bytealg.IndexByteString", "internal/bytealg.IndexString"], unfollowed := true, recurses := true, named := ["unicode/utf8.first", "unicode/utf8.acceptRanges", "internal/bytealg.MaxLen"], apart := false, laid := [("unicode/utf8.acceptRanges", laid_unicode_utf8_acceptRanges), ("unicode/utf8.first", laid_unicode_utf8_first)], narrowed := true }
def RationalSpoiltUptoSaid : Prop := rationalSpoiltUptoRow.holds Tryd.pinned (OpenSpec.upto rationalSpoiltSpec)

/-- 'flagstonelaw36.RationalDigits', WHERE WHAT IT READS IS OF BULK AT MOST 1048576: true; the input reads as it did. -/
def rationalDigitsUptoRow : OpenClaim := { program := "ytpligjkbnlfhgaadoor", sum := "3d784ba0f38c24b5baad06c0599cc84f7ac986fdf322681414ded1aedd2e103b", func := "flagstone/flagstonelaw36.RationalDigits", spec := "rationalDigits", inPlace := ["internal/bytealg.IndexByteString", "internal/bytealg.IndexString"], unfollowed := true, recurses := true, named := ["unicode/utf8.first", "unicode/utf8.acceptRanges", "internal/bytealg.MaxLen"], apart := false, laid := [("unicode/utf8.acceptRanges", laid_unicode_utf8_acceptRanges), ("unicode/utf8.first", laid_unicode_utf8_first)], narrowed := true }
def RationalDigitsUptoSaid : Prop := rationalDigitsUptoRow.holds Tryd.pinned (OpenSpec.upto rationalDigitsSpec)

/-- 'flagstonelaw36.RationalField', WHERE WHAT IT READS IS OF BULK AT MOST 1048576: true; the input reads as it did. -/
def rationalFieldUptoRow : OpenClaim := { program := "ytpligjkbnlfhgaadoor", sum := "3d784ba0f38c24b5baad06c0599cc84f7ac986fdf322681414ded1aedd2e103b", func := "flagstone/flagstonelaw36.RationalField", spec := "rationalField", inPlace := ["internal/bytealg.IndexByteString", "internal/bytealg.IndexString"], unfollowed := true, recurses := true, named := ["unicode/utf8.first", "unicode/utf8.acceptRanges", "internal/bytealg.MaxLen"], apart := false, laid := [("unicode/utf8.acceptRanges", laid_unicode_utf8_acceptRanges), ("unicode/utf8.first", laid_unicode_utf8_first)], narrowed := true }
def RationalFieldUptoSaid : Prop := rationalFieldUptoRow.holds Tryd.pinned (OpenSpec.upto rationalFieldSpec)

/-- 'flagstonelaw36.RationalOrder', WHERE WHAT IT READS IS OF BULK AT MOST 1048576: true; the input reads as it did. -/
def rationalOrderUptoRow : OpenClaim := { program := "ytpligjkbnlfhgaadoor", sum := "3d784ba0f38c24b5baad06c0599cc84f7ac986fdf322681414ded1aedd2e103b", func := "flagstone/flagstonelaw36.RationalOrder", spec := "rationalOrder", inPlace := ["internal/bytealg.IndexByteString", "internal/bytealg.IndexString"], unfollowed := true, recurses := true, named := ["unicode/utf8.first", "unicode/utf8.acceptRanges", "internal/bytealg.MaxLen"], apart := false, laid := [("unicode/utf8.acceptRanges", laid_unicode_utf8_acceptRanges), ("unicode/utf8.first", laid_unicode_utf8_first)], narrowed := true }
def RationalOrderUptoSaid : Prop := rationalOrderUptoRow.holds Tryd.pinned (OpenSpec.upto rationalOrderSpec)

/-- 'flagstonelaw36.RationalTells', WHERE WHAT IT READS IS OF BULK AT MOST 1048576: true; the input reads as it did. -/
def rationalTellsUptoRow : OpenClaim := { program := "ytpligjkbnlfhgaadoor", sum := "3d784ba0f38c24b5baad06c0599cc84f7ac986fdf322681414ded1aedd2e103b", func := "flagstone/flagstonelaw36.RationalTells", spec := "rationalTells", inPlace := ["internal/bytealg.IndexByteString", "internal/bytealg.IndexString"], unfollowed := true, recurses := true, named := ["unicode/utf8.first", "unicode/utf8.acceptRanges", "internal/bytealg.MaxLen"], apart := false, laid := [("unicode/utf8.acceptRanges", laid_unicode_utf8_acceptRanges), ("unicode/utf8.first", laid_unicode_utf8_first)], narrowed := true }
def RationalTellsUptoSaid : Prop := rationalTellsUptoRow.holds Tryd.pinned (OpenSpec.upto rationalTellsSpec)

/-- 'flagstonelaw38.EstimateShifts', WHERE WHAT IT READS IS OF BULK AT MOST 1048576: true; the input reads as it did. -/
def estimateShiftsUptoRow : OpenClaim := { program := "ytpligjkbnlfhgaadoor", sum := "3d784ba0f38c24b5baad06c0599cc84f7ac986fdf322681414ded1aedd2e103b", func := "flagstone/flagstonelaw38.EstimateShifts", spec := "estimateShifts", inPlace := ["internal/bytealg.IndexByteString", "internal/bytealg.IndexString"], unfollowed := true, recurses := true, named := ["unicode/utf8.first", "unicode/utf8.acceptRanges", "internal/bytealg.MaxLen"], apart := false, laid := [("unicode/utf8.acceptRanges", laid_unicode_utf8_acceptRanges), ("unicode/utf8.first", laid_unicode_utf8_first)], narrowed := true }
def EstimateShiftsUptoSaid : Prop := estimateShiftsUptoRow.holds Tryd.pinned (OpenSpec.upto estimateShiftsSpec)

/-- 'flagstonelaw38.EstimateArms', WHERE WHAT IT READS IS OF BULK AT MOST 1048576: true; the input reads as it did. -/
def estimateArmsUptoRow : OpenClaim := { program := "ytpligjkbnlfhgaadoor", sum := "3d784ba0f38c24b5baad06c0599cc84f7ac986fdf322681414ded1aedd2e103b", func := "flagstone/flagstonelaw38.EstimateArms", spec := "estimateArms", inPlace := ["internal/bytealg.IndexByteString", "internal/bytealg.IndexString"], unfollowed := true, recurses := true, named := ["unicode/utf8.first", "unicode/utf8.acceptRanges", "internal/bytealg.MaxLen"], apart := false, laid := [("unicode/utf8.acceptRanges", laid_unicode_utf8_acceptRanges), ("unicode/utf8.first", laid_unicode_utf8_first)], narrowed := true }
def EstimateArmsUptoSaid : Prop := estimateArmsUptoRow.holds Tryd.pinned (OpenSpec.upto estimateArmsSpec)

/-- 'flagstonelaw38.EstimateCovariances', WHERE WHAT IT READS IS OF BULK AT MOST 1048576: true; the input reads as it did. -/
def estimateCovariancesUptoRow : OpenClaim := { program := "ytpligjkbnlfhgaadoor", sum := "3d784ba0f38c24b5baad06c0599cc84f7ac986fdf322681414ded1aedd2e103b", func := "flagstone/flagstonelaw38.EstimateCovariances", spec := "estimateCovariances", inPlace := ["internal/bytealg.IndexByteString", "internal/bytealg.IndexString"], unfollowed := true, recurses := true, named := ["unicode/utf8.first", "unicode/utf8.acceptRanges", "internal/bytealg.MaxLen"], apart := false, laid := [("unicode/utf8.acceptRanges", laid_unicode_utf8_acceptRanges), ("unicode/utf8.first", laid_unicode_utf8_first)], narrowed := true }
def EstimateCovariancesUptoSaid : Prop := estimateCovariancesUptoRow.holds Tryd.pinned (OpenSpec.upto estimateCovariancesSpec)

/-- 'flagstonelaw38.EstimateLimits', WHERE WHAT IT READS IS OF BULK AT MOST 1048576: true; the input reads as it did. -/
def estimateLimitsUptoRow : OpenClaim := { program := "ytpligjkbnlfhgaadoor", sum := "3d784ba0f38c24b5baad06c0599cc84f7ac986fdf322681414ded1aedd2e103b", func := "flagstone/flagstonelaw38.EstimateLimits", spec := "estimateLimits", inPlace := ["internal/bytealg.IndexByteString", "internal/bytealg.IndexString"], unfollowed := true, recurses := true, named := ["unicode/utf8.first", "unicode/utf8.acceptRanges", "internal/bytealg.MaxLen"], apart := false, laid := [("unicode/utf8.acceptRanges", laid_unicode_utf8_acceptRanges), ("unicode/utf8.first", laid_unicode_utf8_first)], narrowed := true }
def EstimateLimitsUptoSaid : Prop := estimateLimitsUptoRow.holds Tryd.pinned (OpenSpec.upto estimateLimitsSpec)

/-- 'flagstonelaw38.EstimateReduces', WHERE WHAT IT READS IS OF BULK AT MOST 1048576: true; the input reads as it did. -/
def estimateReducesUptoRow : OpenClaim := { program := "ytpligjkbnlfhgaadoor", sum := "3d784ba0f38c24b5baad06c0599cc84f7ac986fdf322681414ded1aedd2e103b", func := "flagstone/flagstonelaw38.EstimateReduces", spec := "estimateReduces", inPlace := ["internal/bytealg.IndexByteString", "internal/bytealg.IndexString"], unfollowed := true, recurses := true, named := ["unicode/utf8.first", "unicode/utf8.acceptRanges", "internal/bytealg.MaxLen"], apart := false, laid := [("unicode/utf8.acceptRanges", laid_unicode_utf8_acceptRanges), ("unicode/utf8.first", laid_unicode_utf8_first)], narrowed := true }
def EstimateReducesUptoSaid : Prop := estimateReducesUptoRow.holds Tryd.pinned (OpenSpec.upto estimateReducesSpec)

/-- 'flagstonelaw37.IntervalFractions', WHERE WHAT IT READS IS OF BULK AT MOST 1048576: true; the input reads as it did. -/
def intervalFractionsUptoRow : OpenClaim := { program := "ytpligjkbnlfhgaadoor", sum := "3d784ba0f38c24b5baad06c0599cc84f7ac986fdf322681414ded1aedd2e103b", func := "flagstone/flagstonelaw37.IntervalFractions", spec := "intervalFractions", inPlace := ["internal/bytealg.IndexByteString", "internal/bytealg.IndexString"], unfollowed := true, recurses := true, named := ["unicode/utf8.first", "unicode/utf8.acceptRanges", "internal/bytealg.MaxLen"], apart := false, laid := [("unicode/utf8.acceptRanges", laid_unicode_utf8_acceptRanges), ("unicode/utf8.first", laid_unicode_utf8_first)], narrowed := true }
def IntervalFractionsUptoSaid : Prop := intervalFractionsUptoRow.holds Tryd.pinned (OpenSpec.upto intervalFractionsSpec)

/-- 'flagstonelaw37.IntervalEncloses', WHERE WHAT IT READS IS OF BULK AT MOST 1048576: true; the input reads as it did. -/
def intervalEnclosesUptoRow : OpenClaim := { program := "ytpligjkbnlfhgaadoor", sum := "3d784ba0f38c24b5baad06c0599cc84f7ac986fdf322681414ded1aedd2e103b", func := "flagstone/flagstonelaw37.IntervalEncloses", spec := "intervalEncloses", inPlace := ["internal/bytealg.IndexByteString", "internal/bytealg.IndexString"], unfollowed := true, recurses := true, named := ["unicode/utf8.first", "unicode/utf8.acceptRanges", "math/bits.divideError", "math/bits.overflowError", "internal/bytealg.MaxLen"], apart := false, laid := [("unicode/utf8.acceptRanges", laid_unicode_utf8_acceptRanges), ("unicode/utf8.first", laid_unicode_utf8_first)], narrowed := true }
def IntervalEnclosesUptoSaid : Prop := intervalEnclosesUptoRow.holds Tryd.pinned (OpenSpec.upto intervalEnclosesSpec)

end Rows
end Go.Proofs.YtpligjkbnlfhgaaDoor
