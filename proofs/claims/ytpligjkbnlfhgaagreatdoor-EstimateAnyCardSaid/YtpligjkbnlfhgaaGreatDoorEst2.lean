/- Lists of the laws of chapter 38, and the reference's operations on texts. No statement is proved here. -/
import Derived.Test.YtpligjkbnlfhgaaGreatDoorEstW
import Derived.Test.YtpligjkbnlfhgaaGreatDoorEstB
import Derived.Test.YtpligjkbnlfhgaaGreatDoorLst
namespace Go.Proofs.YtpligjkbnlfhgaaGreatDoor
open Go.RowKit

theorem own_ints {w : World} {B n c : Nat} {A : Option Addr} {l : List Int} {F : Nat → Int} (h : Own intC 3 1 w B (.slice A n c) l) (hF : ∀ i, i < l.length → l.getD i 0 = F i) : n = l.length ∧ IntsV w A n c F := by
  have hlen : (l.flatMap intC).length = l.length * 1 := flat_len intC 1 intC_len l
  rcases h.2 with ⟨hv, h0⟩ | ⟨g, cap, cur, hv, _, hg, hle, hcm, hsz, htk⟩
  · injection hv with h1 h2 h3
    subst h2 h3
    exact ⟨h0.symm, fun h => absurd h (by omega), by omega, by unfold maxLen; omega⟩
  · injection hv with h1 h2 h3
    subst h1 h2 h3
    refine ⟨rfl, fun hn => ⟨g, 0, rfl, lt_of_blk hg, fun i hi => ?_⟩, hle, hcm⟩
    have hx := flat_get intC 1 intC_len l i 0 (l.getD i 0) (by rw [List.getElem?_eq_getElem hi, List.getD_eq_getElem?_getD, List.getElem?_eq_getElem hi]; rfl) (by decide)
    rw [cell_of_block hg (0 + i), Nat.zero_add]
    rw [← htk, List.getElem?_take] at hx
    rw [hF i hi] at hx
    split at hx
    · simpa [intC] using hx
    · cases hx

theorem refAdd {A B C D : ByteArray} {x y : Rat} (h : Tx A B x) (g : Tx C D y) {X Y : ByteArray} (t : Tx X Y (x + y)) (w : World) :
    Calls Tryz.prog 36 #[.agg #[.string A, .string B], .agg #[.string C, .string D]] w fun e w' => e = .returned (.tuple #[.agg #[.string X, .string Y], .bool true]) ∧ Below w.heap.size w w' := by
  refine (bin_tx (z := x + y) h g rfl t.1 (add28 A B C D w h.lens.1 h.lens.2 g.lens.1 g.lens.2)).mono ?_
  rintro e w' ⟨A', B', rfl, hT, hb⟩
  obtain ⟨rfl, rfl⟩ := t.inj hT
  exact ⟨rfl, hb⟩
/-- What numbers makes of an element. -/
def tabN (s : Int) : Int := if s = 1 then 5 else if s = 2 then 100 else 5000
def numN (s x : Int) : Int := (if 0 < s % 4 then x.tmod (tabN (s % 4)) else x).tmod 1048577
theorem numN_bd (s x : Int) : -1048576 ≤ numN s x ∧ numN s x ≤ 1048576 := by
  unfold numN
  generalize (if 0 < s % 4 then x.tmod (tabN (s % 4)) else x) = y
  have h1 := Int.tmod_lt_of_pos y (b := 1048577) (by decide)
  have h2 := Int.lt_tmod_of_pos y (b := 1048577) (by decide)
  omega
end Go.Proofs.YtpligjkbnlfhgaaGreatDoor
