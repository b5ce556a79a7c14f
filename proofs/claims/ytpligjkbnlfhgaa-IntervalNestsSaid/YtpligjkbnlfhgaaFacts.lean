/- Facts of the whole cut that every law of this seat asks: what stands at its head. No statement is proved here. -/
import Derived.Test.YtpligjkbnlfhgaaRows
import Derived.ProofKit
namespace Go.Proofs.Ytpligjkbnlfhgaa

set_option maxRecDepth 100000 in
def headSigns : List Char := [
  Char.ofNat 104, Char.ofNat 97, Char.ofNat 114, Char.ofNat 110, Char.ofNat 101, Char.ofNat 115, Char.ofNat 115, Char.ofNat 32, Char.ofNat 100, Char.ofNat 52, Char.ofNat 48, Char.ofNat 50, Char.ofNat 56, Char.ofNat 102, Char.ofNat 56, Char.ofNat 101,
  Char.ofNat 99, Char.ofNat 54, Char.ofNat 48, Char.ofNat 57, Char.ofNat 100, Char.ofNat 97, Char.ofNat 56, Char.ofNat 50, Char.ofNat 53, Char.ofNat 101, Char.ofNat 51, Char.ofNat 99, Char.ofNat 53, Char.ofNat 54, Char.ofNat 53, Char.ofNat 52,
  Char.ofNat 97, Char.ofNat 55, Char.ofNat 99, Char.ofNat 102, Char.ofNat 52, Char.ofNat 97, Char.ofNat 51, Char.ofNat 48, Char.ofNat 50, Char.ofNat 98, Char.ofNat 51, Char.ofNat 52, Char.ofNat 97, Char.ofNat 101, Char.ofNat 48, Char.ofNat 51,
  Char.ofNat 48, Char.ofNat 101, Char.ofNat 101, Char.ofNat 49, Char.ofNat 51, Char.ofNat 97, Char.ofNat 57, Char.ofNat 53, Char.ofNat 56, Char.ofNat 48, Char.ofNat 56, Char.ofNat 97, Char.ofNat 99, Char.ofNat 98, Char.ofNat 56, Char.ofNat 56,
  Char.ofNat 48, Char.ofNat 55, Char.ofNat 99, Char.ofNat 51, Char.ofNat 102, Char.ofNat 99, Char.ofNat 56, Char.ofNat 99, Char.ofNat 32, Char.ofNat 99, Char.ofNat 117, Char.ofNat 116, Char.ofNat 32, Char.ofNat 97, Char.ofNat 116, Char.ofNat 32,
  Char.ofNat 102, Char.ofNat 108, Char.ofNat 97, Char.ofNat 103, Char.ofNat 115, Char.ofNat 116, Char.ofNat 111, Char.ofNat 110, Char.ofNat 101, Char.ofNat 47, Char.ofNat 102, Char.ofNat 108, Char.ofNat 97, Char.ofNat 103, Char.ofNat 115, Char.ofNat 116,
  Char.ofNat 111, Char.ofNat 110, Char.ofNat 101, Char.ofNat 108, Char.ofNat 97, Char.ofNat 119, Char.ofNat 51, Char.ofNat 55, Char.ofNat 46, Char.ofNat 73, Char.ofNat 110, Char.ofNat 116, Char.ofNat 101, Char.ofNat 114, Char.ofNat 118, Char.ofNat 97,
  Char.ofNat 108, Char.ofNat 84, Char.ofNat 101, Char.ofNat 108, Char.ofNat 108, Char.ofNat 115, Char.ofNat 32, Char.ofNat 102, Char.ofNat 108, Char.ofNat 97, Char.ofNat 103, Char.ofNat 115, Char.ofNat 116, Char.ofNat 111, Char.ofNat 110, Char.ofNat 101,
  Char.ofNat 47, Char.ofNat 102, Char.ofNat 108, Char.ofNat 97, Char.ofNat 103, Char.ofNat 115, Char.ofNat 116, Char.ofNat 111, Char.ofNat 110, Char.ofNat 101, Char.ofNat 108, Char.ofNat 97, Char.ofNat 119, Char.ofNat 51, Char.ofNat 55, Char.ofNat 46,
  Char.ofNat 73, Char.ofNat 110, Char.ofNat 116, Char.ofNat 101, Char.ofNat 114, Char.ofNat 118, Char.ofNat 97, Char.ofNat 108, Char.ofNat 78, Char.ofNat 101, Char.ofNat 115, Char.ofNat 116, Char.ofNat 115]

set_option maxRecDepth 100000 in
theorem head_is : Try.checked.prog.initOrder = String.ofList headSigns := by kernel_rfl
theorem head_list : Try.checked.prog.initOrder.toList = headSigns := by rw [head_is, String.toList_ofList]
set_option maxRecDepth 100000 in
def headWords : List (List Char) := [
  [Char.ofNat 104, Char.ofNat 97, Char.ofNat 114, Char.ofNat 110, Char.ofNat 101, Char.ofNat 115, Char.ofNat 115],
  [Char.ofNat 100, Char.ofNat 52, Char.ofNat 48, Char.ofNat 50, Char.ofNat 56, Char.ofNat 102, Char.ofNat 56, Char.ofNat 101, Char.ofNat 99, Char.ofNat 54, Char.ofNat 48, Char.ofNat 57, Char.ofNat 100, Char.ofNat 97, Char.ofNat 56, Char.ofNat 50, Char.ofNat 53, Char.ofNat 101, Char.ofNat 51, Char.ofNat 99, Char.ofNat 53, Char.ofNat 54, Char.ofNat 53, Char.ofNat 52, Char.ofNat 97, Char.ofNat 55, Char.ofNat 99, Char.ofNat 102, Char.ofNat 52, Char.ofNat 97, Char.ofNat 51, Char.ofNat 48, Char.ofNat 50, Char.ofNat 98, Char.ofNat 51, Char.ofNat 52, Char.ofNat 97, Char.ofNat 101, Char.ofNat 48, Char.ofNat 51, Char.ofNat 48, Char.ofNat 101, Char.ofNat 101, Char.ofNat 49, Char.ofNat 51, Char.ofNat 97, Char.ofNat 57, Char.ofNat 53, Char.ofNat 56, Char.ofNat 48, Char.ofNat 56, Char.ofNat 97, Char.ofNat 99, Char.ofNat 98, Char.ofNat 56, Char.ofNat 56, Char.ofNat 48, Char.ofNat 55, Char.ofNat 99, Char.ofNat 51, Char.ofNat 102, Char.ofNat 99, Char.ofNat 56, Char.ofNat 99],
  [Char.ofNat 99, Char.ofNat 117, Char.ofNat 116],
  [Char.ofNat 97, Char.ofNat 116],
  [Char.ofNat 102, Char.ofNat 108, Char.ofNat 97, Char.ofNat 103, Char.ofNat 115, Char.ofNat 116, Char.ofNat 111, Char.ofNat 110, Char.ofNat 101, Char.ofNat 47, Char.ofNat 102, Char.ofNat 108, Char.ofNat 97, Char.ofNat 103, Char.ofNat 115, Char.ofNat 116, Char.ofNat 111, Char.ofNat 110, Char.ofNat 101, Char.ofNat 108, Char.ofNat 97, Char.ofNat 119, Char.ofNat 51, Char.ofNat 55, Char.ofNat 46, Char.ofNat 73, Char.ofNat 110, Char.ofNat 116, Char.ofNat 101, Char.ofNat 114, Char.ofNat 118, Char.ofNat 97, Char.ofNat 108, Char.ofNat 84, Char.ofNat 101, Char.ofNat 108, Char.ofNat 108, Char.ofNat 115],
  [Char.ofNat 102, Char.ofNat 108, Char.ofNat 97, Char.ofNat 103, Char.ofNat 115, Char.ofNat 116, Char.ofNat 111, Char.ofNat 110, Char.ofNat 101, Char.ofNat 47, Char.ofNat 102, Char.ofNat 108, Char.ofNat 97, Char.ofNat 103, Char.ofNat 115, Char.ofNat 116, Char.ofNat 111, Char.ofNat 110, Char.ofNat 101, Char.ofNat 108, Char.ofNat 97, Char.ofNat 119, Char.ofNat 51, Char.ofNat 55, Char.ofNat 46, Char.ofNat 73, Char.ofNat 110, Char.ofNat 116, Char.ofNat 101, Char.ofNat 114, Char.ofNat 118, Char.ofNat 97, Char.ofNat 108, Char.ofNat 78, Char.ofNat 101, Char.ofNat 115, Char.ofNat 116, Char.ofNat 115]]
set_option maxRecDepth 100000 in
theorem words_is : wordsSigns headSigns = headWords := by kernel_rfl
theorem make_of {P : Program} (h : P.initOrder.toList = headSigns) : P.make = some .cut := by
  unfold Program.make Program.headLifts
  rw [h, words_is]
  kernel_rfl
theorem lifted_of {P : Program} (h : P.initOrder.toList = headSigns) : P.liftsFinal = false := by
  unfold Program.liftsFinal Program.headLifts
  rw [h, words_is]
  kernel_rfl
theorem enter_of {P : Program} (h : P.initOrder.toList = headSigns) (h1 : P.laysLater = false) (h2 : P.bearsReflect = false) (h3 : P.doorRows = []) : P.mayEnter = true := by
  unfold Program.mayEnter Program.doorFits
  rw [h, words_is, h1, h2, h3]
  kernel_rfl
theorem fact_later : Try.checked.prog.laysLater = false := by kernel_rfl
theorem fact_reflect : Try.checked.prog.bearsReflect = false := by kernel_rfl
theorem fact_door : Try.checked.prog.doorRows = [] := by kernel_rfl
theorem fact_make : Try.checked.prog.make = some .cut := make_of head_list
theorem fact_lifted : Try.checked.prog.liftsFinal = false := lifted_of head_list
theorem fact_enter : Try.checked.prog.mayEnter = true := enter_of head_list fact_later fact_reflect fact_door
theorem fact_laid : laidOutB Try.checked.prog = true := by kernel_rfl
theorem fact_maps : mapsRowed Try.checked.prog = true := by kernel_rfl
theorem fact_stops : (Try.checked.prog.stops == []) = true := by kernel_rfl
theorem fact_knobs : (Try.checked.prog.stopKnobs == []) = true := by kernel_rfl
theorem fact_heard : Try.checked.prog.stopsHeard = true := by kernel_rfl
end Go.Proofs.Ytpligjkbnlfhgaa
