/- The contract of flagstoneref39.Of. -/
import Derived.Test.YtgonighpjpfmnaaScoreOf2
namespace Go.Proofs.Ytgonighpjpfmnaa
open Go.RowKit

theorem vldWI_false {c t : Int} (h : vldWI c t = false) : c < 1 ∨ 10000 < c ∨ t < 1 ∨ 10000 < t := by
  simp only [vldWI, Bool.and_eq_false_iff, decide_eq_false_iff_not] at h
  omega

set_option maxRecDepth 100000 in
set_option maxHeartbeats 4000000 in
theorem of39_bad1 (A : Option Addr) (n cp : Nat) (f : Nat → Smp) (k v c t cap : Int) (adj : Bool) (w : World) (hn : n ≤ 1048576)
    (hR : RowsAt w w.heap.size 10 A n fun i => (f i).cells)
    (hbad : k < 0 ∨ n ≤ k ∨ vldWI c t = false ∨ cap < 1 ∨ 1048576 < cap ∨ (f k.toNat).arm < 1 ∨ 2 < (f k.toNat).arm) :
    Calls Try.prog 39 #[.slice A n cp, .int .i64 k, .agg #[.int .i64 v, .int .i64 c, .int .i64 t], .int .i64 cap, .bool adj] w (OfPost none w) := by
  by_cases h1 : k < 0
  · clear hbad
    go_enter Try.func39, Try.ntmps39
    go_wp2_with fail
    go_quiet (fail)
    go_wp2_with fail
    exact bodyPost_ret (v := .tuple #[scoreV none, .bool false]) (by simp [results, Try.results39, go_sem, scoreV]) rfl ⟨rfl, by repeat (first | exact Below.refl _ _ | refine Below.alloc ?_ (by simp <;> omega) _ | refine Below.setCell ?_ (by simp <;> omega) _ | refine below_drewN ?_ _)⟩
  by_cases h2 : (n : Int) ≤ k
  · clear hbad
    go_enter Try.func39, Try.ntmps39
    go_wp2_with fail
    go_quiet (fail)
    go_wp2_with fail
    exact bodyPost_ret (v := .tuple #[scoreV none, .bool false]) (by simp [results, Try.results39, go_sem, scoreV]) rfl ⟨rfl, by repeat (first | exact Below.refl _ _ | refine Below.alloc ?_ (by simp <;> omega) _ | refine Below.setCell ?_ (by simp <;> omega) _ | refine below_drewN ?_ _)⟩
  obtain ⟨k, rfl⟩ := Int.eq_ofNat_of_zero_le (show 0 ≤ k by omega)
  obtain ⟨b, off, rfl, hb, hcell⟩ := hR (by omega)
  have h4 := hcell k (by omega) 4 _ rfl
  clear hcell hR
  rw [Int.toNat_natCast] at hbad
  by_cases h3 : (f k).arm < 1
  · clear hbad
    go_enter Try.func39, Try.ntmps39
    go_wp2_with fail
    go_quiet (fail)
    go_wp2_with fail
    exact bodyPost_ret (v := .tuple #[scoreV none, .bool false]) (by simp [results, Try.results39, go_sem, scoreV]) rfl ⟨rfl, by repeat (first | exact Below.refl _ _ | refine Below.alloc ?_ (by simp <;> omega) _ | refine Below.setCell ?_ (by simp <;> omega) _ | refine below_drewN ?_ _)⟩
  by_cases h5 : 2 < (f k).arm
  · clear hbad
    go_enter Try.func39, Try.ntmps39
    go_wp2_with fail
    go_quiet (fail)
    go_wp2_with fail
    exact bodyPost_ret (v := .tuple #[scoreV none, .bool false]) (by simp [results, Try.results39, go_sem, scoreV]) rfl ⟨rfl, by repeat (first | exact Below.refl _ _ | refine Below.alloc ?_ (by simp <;> omega) _ | refine Below.setCell ?_ (by simp <;> omega) _ | refine below_drewN ?_ _)⟩
  by_cases h6 : c < 1
  · clear hbad
    go_enter Try.func39, Try.ntmps39
    go_wp2_with fail
    go_quiet (fail)
    go_wp2_with fail
    exact bodyPost_ret (v := .tuple #[scoreV none, .bool false]) (by simp [results, Try.results39, go_sem, scoreV]) rfl ⟨rfl, by repeat (first | exact Below.refl _ _ | refine Below.alloc ?_ (by simp <;> omega) _ | refine Below.setCell ?_ (by simp <;> omega) _ | refine below_drewN ?_ _)⟩
  by_cases h7 : 10000 < c
  · clear hbad
    go_enter Try.func39, Try.ntmps39
    go_wp2_with fail
    go_quiet (fail)
    go_wp2_with fail
    exact bodyPost_ret (v := .tuple #[scoreV none, .bool false]) (by simp [results, Try.results39, go_sem, scoreV]) rfl ⟨rfl, by repeat (first | exact Below.refl _ _ | refine Below.alloc ?_ (by simp <;> omega) _ | refine Below.setCell ?_ (by simp <;> omega) _ | refine below_drewN ?_ _)⟩
  by_cases h8 : t < 1
  · clear hbad
    go_enter Try.func39, Try.ntmps39
    go_wp2_with fail
    go_quiet (fail)
    go_wp2_with fail
    exact bodyPost_ret (v := .tuple #[scoreV none, .bool false]) (by simp [results, Try.results39, go_sem, scoreV]) rfl ⟨rfl, by repeat (first | exact Below.refl _ _ | refine Below.alloc ?_ (by simp <;> omega) _ | refine Below.setCell ?_ (by simp <;> omega) _ | refine below_drewN ?_ _)⟩
  by_cases h9 : 10000 < t
  · clear hbad
    go_enter Try.func39, Try.ntmps39
    go_wp2_with fail
    go_quiet (fail)
    go_wp2_with fail
    exact bodyPost_ret (v := .tuple #[scoreV none, .bool false]) (by simp [results, Try.results39, go_sem, scoreV]) rfl ⟨rfl, by repeat (first | exact Below.refl _ _ | refine Below.alloc ?_ (by simp <;> omega) _ | refine Below.setCell ?_ (by simp <;> omega) _ | refine below_drewN ?_ _)⟩
  by_cases h10 : cap < 1
  · clear hbad
    go_enter Try.func39, Try.ntmps39
    go_wp2_with fail
    go_quiet (fail)
    go_wp2_with fail
    exact bodyPost_ret (v := .tuple #[scoreV none, .bool false]) (by simp [results, Try.results39, go_sem, scoreV]) rfl ⟨rfl, by repeat (first | exact Below.refl _ _ | refine Below.alloc ?_ (by simp <;> omega) _ | refine Below.setCell ?_ (by simp <;> omega) _ | refine below_drewN ?_ _)⟩
  by_cases h11 : 1048576 < cap
  · clear hbad
    go_enter Try.func39, Try.ntmps39
    go_wp2_with fail
    go_quiet (fail)
    go_wp2_with fail
    exact bodyPost_ret (v := .tuple #[scoreV none, .bool false]) (by simp [results, Try.results39, go_sem, scoreV]) rfl ⟨rfl, by repeat (first | exact Below.refl _ _ | refine Below.alloc ?_ (by simp <;> omega) _ | refine Below.setCell ?_ (by simp <;> omega) _ | refine below_drewN ?_ _)⟩
  exfalso
  have hvf : vldWI c t = false → False := fun h => by have := vldWI_false h; omega
  rcases hbad with h | h | h | h | h | h | h <;> first | omega | exact hvf h
end Go.Proofs.Ytgonighpjpfmnaa
