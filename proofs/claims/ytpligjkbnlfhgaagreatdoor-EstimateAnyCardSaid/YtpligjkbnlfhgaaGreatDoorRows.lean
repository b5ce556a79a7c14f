/-
  NARROWER THAN 'FOR EVERY INPUT', by the rows' own cells (each row's printed sentence says how): EstimateBands: laid · EstimateAny: laid · EstimateTells: laid.
  DERIVED. THE GIVEN ROWS OF THIS SEAT. 3 by the template 'for every input the law returns true; each argument reads behind the call as it read before'; 0 by the template 'total and deterministic' (their statements: YtpligjkbnlfhgaaGreatDoorTotals.lean).
  GIVEN WITH THE SEED: the statements are not yours to turn. If you find one false, say at which input.
  Laid BY PROGRAM, IN A SANDBOX (cutbox-rows.mjs): the forced cells as the released guide's own fill.sh prints them over the translation 779a01f237f5f54c… (all of the seat's roots in one cut). By AI agents, Wed Nov 11 2026. No macro, syntax, notation, axiom, sorry.
-/
import Derived.Test.YtpligjkbnlfhgaaGreatDoorChecked
import GoSem.PinnedTables
import GoSem.Claim
import GoSem.ClaimJoined
import GoSem.ClaimMapViews
import Derived.JoinedTies
import Derived.KernelRfl
namespace Go.Proofs.YtpligjkbnlfhgaaGreatDoor
/- THE CELL 'sum', in the pinned program and in every row, IS THE sha256 OF THE DUMP (.gsa) THAT YtpligjkbnlfhgaaGreatDoorProg.lean LOADS. Nothing in Lean hashes anything: it is a label: what it is worth is what the hold of that sum in a sandbox is worth. -/
noncomputable def Tryz.pinned : Pinned := { name := "ytpligjkbnlfhgaagreatdoor", sum := "779a01f237f5f54c60a8feffef40499c45e63ef4e205ab5c2d5846cd5ad64a62", checked := Tryz.checked }
namespace Rows
def none {H : Type} : Left H := { results := [], args := [] }

/- WHAT THE LISTED PACKAGE-LEVEL VARIABLES READ AS WHEN THE CALL BEGINS. Each datum BY PROGRAM (the guide's laid-datum.mjs) off the statement by which the dump's own 'gosem.cut.vars' lays the variable. In a bare row this is a premise. The card (YtpligjkbnlfhgaaGreatDoorCards.lean) ties it to the program's text. -/
def laid_unicode_utf8_acceptRanges {H : Type} : DataW H := .agg [.agg [.lit (.int .u8 128), .lit (.int .u8 191)], .agg [.lit (.int .u8 160), .lit (.int .u8 191)], .agg [.lit (.int .u8 128), .lit (.int .u8 159)], .agg [.lit (.int .u8 144), .lit (.int .u8 191)], .agg [.lit (.int .u8 128), .lit (.int .u8 143)], .agg [.lit (.int .u8 0), .lit (.int .u8 0)], .agg [.lit (.int .u8 0), .lit (.int .u8 0)], .agg [.lit (.int .u8 0), .lit (.int .u8 0)], .agg [.lit (.int .u8 0), .lit (.int .u8 0)], .agg [.lit (.int .u8 0), .lit (.int .u8 0)], .agg [.lit (.int .u8 0), .lit (.int .u8 0)], .agg [.lit (.int .u8 0), .lit (.int .u8 0)], .agg [.lit (.int .u8 0), .lit (.int .u8 0)], .agg [.lit (.int .u8 0), .lit (.int .u8 0)], .agg [.lit (.int .u8 0), .lit (.int .u8 0)], .agg [.lit (.int .u8 0), .lit (.int .u8 0)]]
/-- One of Go's own tables, pinned by name: the form's constant. -/
def laid_unicode_utf8_first : DataW Unit := Go.Pinned.utf8First

/-- 'flagstonelaw38.EstimateBands': WHATEVER THE INPUT: true; the input reads as it did. -/
def estimateBandsSpec : ChangeSpec := { name := "estimateBands", fn := fun _ => fun
  | [d1, d2, d3, d4, d5] => { results := [.lit (.bool true)], args := [d1, d2, d3, d4, d5] }
  | _ => none }
def estimateBandsRow : OpenClaim := { program := "ytpligjkbnlfhgaagreatdoor", sum := "779a01f237f5f54c60a8feffef40499c45e63ef4e205ab5c2d5846cd5ad64a62", func := "flagstone/flagstonelaw38.EstimateBands", spec := "estimateBands", inPlace := ["internal/bytealg.IndexByteString", "internal/bytealg.IndexString"], unfollowed := true, recurses := true, named := ["unicode/utf8.first", "unicode/utf8.acceptRanges", "internal/bytealg.MaxLen"], apart := false, laid := [("unicode/utf8.acceptRanges", laid_unicode_utf8_acceptRanges), ("unicode/utf8.first", laid_unicode_utf8_first)] }
def EstimateBandsSaid : Prop := estimateBandsRow.holds Tryz.pinned (OpenSpec.ofChange estimateBandsSpec)

/-- ITS FALSE NEIGHBOUR: 'it returns false'. Refute it at one input. -/
def estimateBandsWrong : ChangeSpec := { name := "estimateBands", fn := fun _ => fun
  | [d1, d2, d3, d4, d5] => { results := [.lit (.bool false)], args := [d1, d2, d3, d4, d5] }
  | _ => none }
def EstimateBandsWrongFalsely : Prop := estimateBandsRow.holds Tryz.pinned (OpenSpec.ofChange estimateBandsWrong)

/-- 'flagstonelaw38.EstimateAny': WHATEVER THE INPUT: true; the input reads as it did. -/
def estimateAnySpec : ChangeSpec := { name := "estimateAny", fn := fun _ => fun
  | [d1, d2, d3, d4, d5] => { results := [.lit (.bool true)], args := [d1, d2, d3, d4, d5] }
  | _ => none }
def estimateAnyRow : OpenClaim := { program := "ytpligjkbnlfhgaagreatdoor", sum := "779a01f237f5f54c60a8feffef40499c45e63ef4e205ab5c2d5846cd5ad64a62", func := "flagstone/flagstonelaw38.EstimateAny", spec := "estimateAny", inPlace := ["internal/bytealg.IndexByteString", "internal/bytealg.IndexString"], unfollowed := true, recurses := true, named := ["unicode/utf8.first", "unicode/utf8.acceptRanges", "internal/bytealg.MaxLen"], apart := false, laid := [("unicode/utf8.acceptRanges", laid_unicode_utf8_acceptRanges), ("unicode/utf8.first", laid_unicode_utf8_first)] }
def EstimateAnySaid : Prop := estimateAnyRow.holds Tryz.pinned (OpenSpec.ofChange estimateAnySpec)

/-- ITS FALSE NEIGHBOUR: 'it returns false'. Refute it at one input. -/
def estimateAnyWrong : ChangeSpec := { name := "estimateAny", fn := fun _ => fun
  | [d1, d2, d3, d4, d5] => { results := [.lit (.bool false)], args := [d1, d2, d3, d4, d5] }
  | _ => none }
def EstimateAnyWrongFalsely : Prop := estimateAnyRow.holds Tryz.pinned (OpenSpec.ofChange estimateAnyWrong)

/-- 'flagstonelaw38.EstimateTells': WHATEVER THE INPUT: true; the input reads as it did. -/
def estimateTellsSpec : ChangeSpec := { name := "estimateTells", fn := fun _ => fun
  | [d1, d2, d3, d4] => { results := [.lit (.bool true)], args := [d1, d2, d3, d4] }
  | _ => none }
def estimateTellsRow : OpenClaim := { program := "ytpligjkbnlfhgaagreatdoor", sum := "779a01f237f5f54c60a8feffef40499c45e63ef4e205ab5c2d5846cd5ad64a62", func := "flagstone/flagstonelaw38.EstimateTells", spec := "estimateTells", inPlace := ["internal/bytealg.IndexByteString", "internal/bytealg.IndexString"], unfollowed := true, recurses := true, named := ["unicode/utf8.first", "unicode/utf8.acceptRanges", "internal/bytealg.MaxLen"], apart := false, laid := [("unicode/utf8.acceptRanges", laid_unicode_utf8_acceptRanges), ("unicode/utf8.first", laid_unicode_utf8_first)] }
def EstimateTellsSaid : Prop := estimateTellsRow.holds Tryz.pinned (OpenSpec.ofChange estimateTellsSpec)

/-- ITS FALSE NEIGHBOUR: 'it returns false'. Refute it at one input. -/
def estimateTellsWrong : ChangeSpec := { name := "estimateTells", fn := fun _ => fun
  | [d1, d2, d3, d4] => { results := [.lit (.bool false)], args := [d1, d2, d3, d4] }
  | _ => none }
def EstimateTellsWrongFalsely : Prop := estimateTellsRow.holds Tryz.pinned (OpenSpec.ofChange estimateTellsWrong)

/- THE SECOND FORM. 'bulk': how many values and letters a reading holds, each counted each time it is reached (what is shared counts as often as it is met; a slice's spare places count too). A statement '..UptoSaid' is the law's where the arguments, and the package variables that the reading takes, are together of bulk at most 1048576: NARROWER than '..Said'. Prove '..Said' where nothing that the law and all that it calls make is longer than what came in: it says more and counts as full. Else prove '..UptoSaid'. A law counts once. -/
mutual
def uptoBulk {H : Type} : DataW H → Nat
  | .lit (.string bytes) => bytes.length + 1
  | .lit _ => 1
  | .nil => 1
  | .ptr d => uptoBulk d + 1
  | .slice elems spare => uptoBulkAll elems + uptoBulkAll spare + 1
  | .agg parts => uptoBulkAll parts + 1
  | .iface _ d => uptoBulk d + 1
  | .map entries => uptoBulkEntries entries + 1
  | .held _ => 1
def uptoBulkAll {H : Type} : List (DataW H) → Nat
  | [] => 0
  | d :: r => uptoBulk d + uptoBulkAll r
def uptoBulkEntries {H : Type} : List (Lit × DataW H) → Nat
  | [] => 0
  | x :: r => uptoBulkEntry x + uptoBulkEntries r
def uptoBulkEntry {H : Type} : Lit × DataW H → Nat
  | (.string bytes, d) => bytes.length + uptoBulk d + 1
  | (_, d) => uptoBulk d + 1
 end
def uptoSmall : (H : Type) → List (DataW H) → Bool := fun _ ds => decide (uptoBulkAll ds ≤ 1048576)
def OpenSpec.upto (s : _root_.Go.ChangeSpec) : _root_.Go.OpenSpec := { _root_.Go.OpenSpec.ofChange s with cond := some uptoSmall }

/-- 'flagstonelaw38.EstimateBands', WHERE WHAT IT READS IS OF BULK AT MOST 1048576: true; the input reads as it did. -/
def estimateBandsUptoRow : OpenClaim := { program := "ytpligjkbnlfhgaagreatdoor", sum := "779a01f237f5f54c60a8feffef40499c45e63ef4e205ab5c2d5846cd5ad64a62", func := "flagstone/flagstonelaw38.EstimateBands", spec := "estimateBands", inPlace := ["internal/bytealg.IndexByteString", "internal/bytealg.IndexString"], unfollowed := true, recurses := true, named := ["unicode/utf8.first", "unicode/utf8.acceptRanges", "internal/bytealg.MaxLen"], apart := false, laid := [("unicode/utf8.acceptRanges", laid_unicode_utf8_acceptRanges), ("unicode/utf8.first", laid_unicode_utf8_first)], narrowed := true }
def EstimateBandsUptoSaid : Prop := estimateBandsUptoRow.holds Tryz.pinned (OpenSpec.upto estimateBandsSpec)

/-- 'flagstonelaw38.EstimateAny', WHERE WHAT IT READS IS OF BULK AT MOST 1048576: true; the input reads as it did. -/
def estimateAnyUptoRow : OpenClaim := { program := "ytpligjkbnlfhgaagreatdoor", sum := "779a01f237f5f54c60a8feffef40499c45e63ef4e205ab5c2d5846cd5ad64a62", func := "flagstone/flagstonelaw38.EstimateAny", spec := "estimateAny", inPlace := ["internal/bytealg.IndexByteString", "internal/bytealg.IndexString"], unfollowed := true, recurses := true, named := ["unicode/utf8.first", "unicode/utf8.acceptRanges", "internal/bytealg.MaxLen"], apart := false, laid := [("unicode/utf8.acceptRanges", laid_unicode_utf8_acceptRanges), ("unicode/utf8.first", laid_unicode_utf8_first)], narrowed := true }
def EstimateAnyUptoSaid : Prop := estimateAnyUptoRow.holds Tryz.pinned (OpenSpec.upto estimateAnySpec)

/-- 'flagstonelaw38.EstimateTells', WHERE WHAT IT READS IS OF BULK AT MOST 1048576: true; the input reads as it did. -/
def estimateTellsUptoRow : OpenClaim := { program := "ytpligjkbnlfhgaagreatdoor", sum := "779a01f237f5f54c60a8feffef40499c45e63ef4e205ab5c2d5846cd5ad64a62", func := "flagstone/flagstonelaw38.EstimateTells", spec := "estimateTells", inPlace := ["internal/bytealg.IndexByteString", "internal/bytealg.IndexString"], unfollowed := true, recurses := true, named := ["unicode/utf8.first", "unicode/utf8.acceptRanges", "internal/bytealg.MaxLen"], apart := false, laid := [("unicode/utf8.acceptRanges", laid_unicode_utf8_acceptRanges), ("unicode/utf8.first", laid_unicode_utf8_first)], narrowed := true }
def EstimateTellsUptoSaid : Prop := estimateTellsUptoRow.holds Tryz.pinned (OpenSpec.upto estimateTellsSpec)

end Rows
end Go.Proofs.YtpligjkbnlfhgaaGreatDoor
