/- Facts of the whole cut that every law of this seat asks: what stands at its head. No statement is proved here. -/
import Derived.Test.YtpligjkbnlfhgaaGreatDoorRows
import Derived.ProofKit
namespace Go.Proofs.YtpligjkbnlfhgaaGreatDoor

set_option maxRecDepth 100000 in
def headSigns : List Char := [
  Char.ofNat 104, Char.ofNat 97, Char.ofNat 114, Char.ofNat 110, Char.ofNat 101, Char.ofNat 115, Char.ofNat 115, Char.ofNat 32, Char.ofNat 99, Char.ofNat 99, Char.ofNat 102, Char.ofNat 49, Char.ofNat 100, Char.ofNat 102, Char.ofNat 48, Char.ofNat 100,
  Char.ofNat 97, Char.ofNat 102, Char.ofNat 55, Char.ofNat 48, Char.ofNat 51, Char.ofNat 55, Char.ofNat 56, Char.ofNat 53, Char.ofNat 54, Char.ofNat 99, Char.ofNat 98, Char.ofNat 51, Char.ofNat 48, Char.ofNat 49, Char.ofNat 56, Char.ofNat 52,
  Char.ofNat 99, Char.ofNat 97, Char.ofNat 48, Char.ofNat 54, Char.ofNat 56, Char.ofNat 102, Char.ofNat 48, Char.ofNat 100, Char.ofNat 52, Char.ofNat 52, Char.ofNat 55, Char.ofNat 53, Char.ofNat 57, Char.ofNat 100, Char.ofNat 57, Char.ofNat 102,
  Char.ofNat 48, Char.ofNat 53, Char.ofNat 53, Char.ofNat 102, Char.ofNat 51, Char.ofNat 57, Char.ofNat 51, Char.ofNat 102, Char.ofNat 97, Char.ofNat 48, Char.ofNat 99, Char.ofNat 56, Char.ofNat 53, Char.ofNat 102, Char.ofNat 48, Char.ofNat 52,
  Char.ofNat 55, Char.ofNat 101, Char.ofNat 48, Char.ofNat 56, Char.ofNat 101, Char.ofNat 53, Char.ofNat 101, Char.ofNat 101, Char.ofNat 32, Char.ofNat 99, Char.ofNat 117, Char.ofNat 116, Char.ofNat 32, Char.ofNat 97, Char.ofNat 116, Char.ofNat 32,
  Char.ofNat 102, Char.ofNat 108, Char.ofNat 97, Char.ofNat 103, Char.ofNat 115, Char.ofNat 116, Char.ofNat 111, Char.ofNat 110, Char.ofNat 101, Char.ofNat 47, Char.ofNat 102, Char.ofNat 108, Char.ofNat 97, Char.ofNat 103, Char.ofNat 115, Char.ofNat 116,
  Char.ofNat 111, Char.ofNat 110, Char.ofNat 101, Char.ofNat 108, Char.ofNat 97, Char.ofNat 119, Char.ofNat 51, Char.ofNat 56, Char.ofNat 46, Char.ofNat 69, Char.ofNat 115, Char.ofNat 116, Char.ofNat 105, Char.ofNat 109, Char.ofNat 97, Char.ofNat 116,
  Char.ofNat 101, Char.ofNat 66, Char.ofNat 97, Char.ofNat 110, Char.ofNat 100, Char.ofNat 115, Char.ofNat 32, Char.ofNat 102, Char.ofNat 108, Char.ofNat 97, Char.ofNat 103, Char.ofNat 115, Char.ofNat 116, Char.ofNat 111, Char.ofNat 110, Char.ofNat 101,
  Char.ofNat 47, Char.ofNat 102, Char.ofNat 108, Char.ofNat 97, Char.ofNat 103, Char.ofNat 115, Char.ofNat 116, Char.ofNat 111, Char.ofNat 110, Char.ofNat 101, Char.ofNat 108, Char.ofNat 97, Char.ofNat 119, Char.ofNat 51, Char.ofNat 56, Char.ofNat 46,
  Char.ofNat 69, Char.ofNat 115, Char.ofNat 116, Char.ofNat 105, Char.ofNat 109, Char.ofNat 97, Char.ofNat 116, Char.ofNat 101, Char.ofNat 65, Char.ofNat 110, Char.ofNat 121, Char.ofNat 32, Char.ofNat 102, Char.ofNat 108, Char.ofNat 97, Char.ofNat 103,
  Char.ofNat 115, Char.ofNat 116, Char.ofNat 111, Char.ofNat 110, Char.ofNat 101, Char.ofNat 47, Char.ofNat 102, Char.ofNat 108, Char.ofNat 97, Char.ofNat 103, Char.ofNat 115, Char.ofNat 116, Char.ofNat 111, Char.ofNat 110, Char.ofNat 101, Char.ofNat 108,
  Char.ofNat 97, Char.ofNat 119, Char.ofNat 51, Char.ofNat 56, Char.ofNat 46, Char.ofNat 69, Char.ofNat 115, Char.ofNat 116, Char.ofNat 105, Char.ofNat 109, Char.ofNat 97, Char.ofNat 116, Char.ofNat 101, Char.ofNat 84, Char.ofNat 101, Char.ofNat 108,
  Char.ofNat 108, Char.ofNat 115]

set_option maxRecDepth 100000 in
theorem head_is : Tryz.checked.prog.initOrder = String.ofList headSigns := by kernel_rfl
theorem head_list : Tryz.checked.prog.initOrder.toList = headSigns := by rw [head_is, String.toList_ofList]
set_option maxRecDepth 100000 in
def headWords : List (List Char) := [
  [Char.ofNat 104, Char.ofNat 97, Char.ofNat 114, Char.ofNat 110, Char.ofNat 101, Char.ofNat 115, Char.ofNat 115],
  [Char.ofNat 99, Char.ofNat 99, Char.ofNat 102, Char.ofNat 49, Char.ofNat 100, Char.ofNat 102, Char.ofNat 48, Char.ofNat 100, Char.ofNat 97, Char.ofNat 102, Char.ofNat 55, Char.ofNat 48, Char.ofNat 51, Char.ofNat 55, Char.ofNat 56, Char.ofNat 53, Char.ofNat 54, Char.ofNat 99, Char.ofNat 98, Char.ofNat 51, Char.ofNat 48, Char.ofNat 49, Char.ofNat 56, Char.ofNat 52, Char.ofNat 99, Char.ofNat 97, Char.ofNat 48, Char.ofNat 54, Char.ofNat 56, Char.ofNat 102, Char.ofNat 48, Char.ofNat 100, Char.ofNat 52, Char.ofNat 52, Char.ofNat 55, Char.ofNat 53, Char.ofNat 57, Char.ofNat 100, Char.ofNat 57, Char.ofNat 102, Char.ofNat 48, Char.ofNat 53, Char.ofNat 53, Char.ofNat 102, Char.ofNat 51, Char.ofNat 57, Char.ofNat 51, Char.ofNat 102, Char.ofNat 97, Char.ofNat 48, Char.ofNat 99, Char.ofNat 56, Char.ofNat 53, Char.ofNat 102, Char.ofNat 48, Char.ofNat 52, Char.ofNat 55, Char.ofNat 101, Char.ofNat 48, Char.ofNat 56, Char.ofNat 101, Char.ofNat 53, Char.ofNat 101, Char.ofNat 101],
  [Char.ofNat 99, Char.ofNat 117, Char.ofNat 116],
  [Char.ofNat 97, Char.ofNat 116],
  [Char.ofNat 102, Char.ofNat 108, Char.ofNat 97, Char.ofNat 103, Char.ofNat 115, Char.ofNat 116, Char.ofNat 111, Char.ofNat 110, Char.ofNat 101, Char.ofNat 47, Char.ofNat 102, Char.ofNat 108, Char.ofNat 97, Char.ofNat 103, Char.ofNat 115, Char.ofNat 116, Char.ofNat 111, Char.ofNat 110, Char.ofNat 101, Char.ofNat 108, Char.ofNat 97, Char.ofNat 119, Char.ofNat 51, Char.ofNat 56, Char.ofNat 46, Char.ofNat 69, Char.ofNat 115, Char.ofNat 116, Char.ofNat 105, Char.ofNat 109, Char.ofNat 97, Char.ofNat 116, Char.ofNat 101, Char.ofNat 66, Char.ofNat 97, Char.ofNat 110, Char.ofNat 100, Char.ofNat 115],
  [Char.ofNat 102, Char.ofNat 108, Char.ofNat 97, Char.ofNat 103, Char.ofNat 115, Char.ofNat 116, Char.ofNat 111, Char.ofNat 110, Char.ofNat 101, Char.ofNat 47, Char.ofNat 102, Char.ofNat 108, Char.ofNat 97, Char.ofNat 103, Char.ofNat 115, Char.ofNat 116, Char.ofNat 111, Char.ofNat 110, Char.ofNat 101, Char.ofNat 108, Char.ofNat 97, Char.ofNat 119, Char.ofNat 51, Char.ofNat 56, Char.ofNat 46, Char.ofNat 69, Char.ofNat 115, Char.ofNat 116, Char.ofNat 105, Char.ofNat 109, Char.ofNat 97, Char.ofNat 116, Char.ofNat 101, Char.ofNat 65, Char.ofNat 110, Char.ofNat 121],
  [Char.ofNat 102, Char.ofNat 108, Char.ofNat 97, Char.ofNat 103, Char.ofNat 115, Char.ofNat 116, Char.ofNat 111, Char.ofNat 110, Char.ofNat 101, Char.ofNat 47, Char.ofNat 102, Char.ofNat 108, Char.ofNat 97, Char.ofNat 103, Char.ofNat 115, Char.ofNat 116, Char.ofNat 111, Char.ofNat 110, Char.ofNat 101, Char.ofNat 108, Char.ofNat 97, Char.ofNat 119, Char.ofNat 51, Char.ofNat 56, Char.ofNat 46, Char.ofNat 69, Char.ofNat 115, Char.ofNat 116, Char.ofNat 105, Char.ofNat 109, Char.ofNat 97, Char.ofNat 116, Char.ofNat 101, Char.ofNat 84, Char.ofNat 101, Char.ofNat 108, Char.ofNat 108, Char.ofNat 115]]
set_option maxRecDepth 100000 in
theorem words_is : wordsSigns headSigns = headWords := by kernel_rfl
theorem make_of {P : Program} (h : P.initOrder.toList = headSigns) : P.make = some .cut := by
  unfold Program.make Program.headLifts
  rw [h, words_is]
  kernel_rfl
theorem lifted_of {P : Program} (h : P.initOrder.toList = headSigns) : P.liftsFinal = false := by
  unfold Program.liftsFinal Program.headLifts
  rw [h, words_is]
  kernel_rfl
set_option maxRecDepth 100000 in
def doorList : List (List UInt8) := [
  [41, 111, 111, 116, 32, 115, 101, 108, 105, 102, 32, 116, 115, 101, 116, 32, 44, 49, 49, 32, 107, 111, 111, 108, 40, 32, 100, 114, 111, 119, 115, 114, 97, 118, 116, 117, 99, 32, 119, 111, 114, 32, 115, 39, 116, 115, 101, 102, 105, 110, 97, 109, 32, 101, 104, 116, 32, 101, 101, 115, 32, 59, 101, 110, 111, 108, 97, 32, 115, 114, 101, 115, 105, 108, 97, 105, 116, 105, 110, 105, 32, 115, 100, 108, 111, 104, 32, 115, 114, 97, 118, 46, 116, 117, 99, 46, 109, 101, 115, 111, 103, 32, 58, 114, 111, 111, 100, 32, 115, 39, 114, 97, 118],
  [41, 49, 49, 32, 107, 111, 111, 108, 40, 32, 116, 111, 111, 114, 32, 115, 39, 121, 114, 111, 116, 105, 115, 111, 112, 101, 114, 32, 101, 104, 116, 32, 115, 97, 32, 100, 101, 109, 97, 110, 32, 114, 101, 108, 108, 97, 99, 32, 101, 104, 116, 32, 116, 97, 104, 116, 32, 114, 101, 100, 108, 111, 102, 32, 101, 104, 116, 32, 114, 101, 118, 111, 32, 116, 110, 101, 119, 32, 115, 114, 97, 118, 46, 116, 117, 99, 46, 109, 101, 115, 111, 103, 32, 102, 111, 32, 107, 111, 111, 108, 32, 101, 104, 116, 32, 58, 114, 111, 111, 100, 32, 115, 39, 114, 97, 118],
  [41, 49, 49, 32, 107, 111, 111, 108, 40, 32, 97, 116, 97, 100, 32, 110, 105, 97, 108, 112, 32, 44, 114, 101, 115, 105, 108, 97, 105, 116, 105, 110, 105, 32, 110, 119, 111, 32, 115, 116, 105, 32, 121, 98, 32, 100, 105, 97, 108, 32, 115, 105, 32, 115, 101, 103, 110, 97, 82, 116, 112, 101, 99, 99, 97, 46, 56, 102, 116, 117, 47, 101, 100, 111, 99, 105, 110, 117, 32, 58, 114, 111, 111, 100, 32, 115, 39, 114, 97, 118],
  [41, 49, 32, 100, 101, 110, 110, 105, 112, 40, 32, 101, 110, 111, 108, 97, 32, 116, 120, 101, 116, 32, 115, 116, 105, 32, 121, 98, 32, 100, 105, 97, 108, 32, 115, 105, 32, 116, 115, 114, 105, 102, 46, 56, 102, 116, 117, 47, 101, 100, 111, 99, 105, 110, 117, 32, 58, 114, 111, 111, 100, 32, 115, 39, 114, 97, 118]]
theorem enter_of {P : Program} (h : P.initOrder.toList = headSigns) (h1 : P.laysLater = false) (h2 : P.bearsReflect = false) (h3 : P.doorRows = doorList) : P.mayEnter = true := by
  unfold Program.mayEnter Program.doorFits
  rw [h, words_is, h1, h2, h3]
  kernel_rfl
theorem main_of {P : Program} (h : P.initOrder.toList = headSigns) : P.mainIs = some (true, "ccf1df0daf7037856cb30184ca068f0d44759d9f055f393fa0c85f047e08e5ee".toList) := by
  unfold Program.mainIs
  rw [h, words_is]
  kernel_rfl
theorem fact_later : Tryz.checked.prog.laysLater = false := by kernel_rfl
theorem fact_reflect : Tryz.checked.prog.bearsReflect = false := by kernel_rfl
theorem fact_door : Tryz.checked.prog.doorRows = doorList := by kernel_rfl
theorem fact_main : Tryz.checked.prog.mainIs = some (true, "ccf1df0daf7037856cb30184ca068f0d44759d9f055f393fa0c85f047e08e5ee".toList) := main_of head_list
theorem fact_make : Tryz.checked.prog.make = some .cut := make_of head_list
theorem fact_lifted : Tryz.checked.prog.liftsFinal = false := lifted_of head_list
theorem fact_enter : Tryz.checked.prog.mayEnter = true := enter_of head_list fact_later fact_reflect fact_door
theorem fact_laid : laidOutB Tryz.checked.prog = true := by kernel_rfl
theorem fact_maps : mapsRowed Tryz.checked.prog = true := by kernel_rfl
theorem fact_stops : (Tryz.checked.prog.stops == []) = true := by kernel_rfl
theorem fact_knobs : (Tryz.checked.prog.stopKnobs == []) = true := by kernel_rfl
theorem fact_heard : Tryz.checked.prog.stopsHeard = true := by kernel_rfl
end Go.Proofs.YtpligjkbnlfhgaaGreatDoor
