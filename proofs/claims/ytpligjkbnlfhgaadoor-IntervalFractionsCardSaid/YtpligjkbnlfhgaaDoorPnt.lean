/- A fraction in an interval. No statement is proved here. -/
import Derived.Test.YtpligjkbnlfhgaaDoorEnc0
namespace Go.Proofs.YtpligjkbnlfhgaaDoor
open Go.RowKit

theorem of22q (a : Int) (w : World) (h : -9223372036854775808 ≤ a ∧ a ≤ 9223372036854775807) :
    Calls Tryd.prog 22 #[.int .i64 a, .int .i64 4294967296] w fun e w' => ∃ A B, e = .returned (.tuple #[.agg #[.string A, .string B], .bool true]) ∧ Tx A B (qI a) ∧ Below w.heap.size w w' := by
  refine (of22 a 4294967296 w h.1 h.2 (by decide) (by decide)).mono ?_
  rintro e w' ⟨rfl, hb⟩
  rw [ofT_q]
  obtain ⟨A, B, h1, h2⟩ := txV_tx (qI_fits h)
  exact ⟨A, B, by rw [h1], h2, hb⟩

theorem pnt_bd {W n : Int} (h0 : 0 ≤ W) (h1 : W ≤ 4611686018427387904) (hn : 0 ≤ n ∧ n ≤ 255) :
    0 ≤ W / 255 * n ∧ W / 255 * n ≤ 4611686018427387904 ∧ 0 ≤ W % 255 * n ∧ W % 255 * n ≤ 65025 ∧ 0 ≤ W % 255 * n / 255 ∧ W / 255 * n + W % 255 * n / 255 ≤ W := by
  have a1 : 0 ≤ W / 255 := by omega
  have a2 : 0 ≤ W % 255 ∧ W % 255 < 255 := by omega
  have b1 : W / 255 * n ≤ W / 255 * 255 := Int.mul_le_mul_of_nonneg_left hn.2 a1
  have b0 := Int.mul_nonneg a1 hn.1
  have c1 : W % 255 * n ≤ W % 255 * 255 := Int.mul_le_mul_of_nonneg_left hn.2 a2.1
  have c0 := Int.mul_nonneg a2.1 hn.1
  omega

/-- A point of an interval. -/
def ptI (a b n : Int) : Int := a + (b - a) / 255 * n + (b - a) % 255 * n / 255
theorem pt_in {a b n : Int} (hi : inI a b = true) (hn : 0 ≤ n ∧ n ≤ 255) : a ≤ ptI a b n ∧ ptI a b n ≤ b := by
  have h := inI_iff.1 hi
  have p := pnt_bd (W := b - a) (by omega) (by omega) hn
  unfold ptI; omega
def Point (a b n : Int) (w : World) (e : Ending) (w' : World) : Prop := ∃ N D, e = .returned (.agg #[.string N, .string D]) ∧ Tx N D (qI (ptI a b n)) ∧ Below w.heap.size w w'

set_option maxRecDepth 100000 in
set_option maxHeartbeats 4000000 in
theorem point53 (a b n : Int) (w : World) (hi : inI a b = true) (hn : 0 ≤ n ∧ n ≤ 255) :
    Calls Tryd.prog 53 #[.agg #[.int .i64 a, .int .i64 b], .int .u8 n] w (Point a b n w) := by
  obtain ⟨h1, h2, h3⟩ := inI_iff.1 hi
  obtain ⟨hn0, hn1⟩ := hn
  obtain ⟨hbW, g0, g1⟩ := allocs2' w #[.int .i64 a, .int .i64 b] #[.string ⟨#[]⟩, .string ⟨#[]⟩] 69 23
  have k0 := cells2i g0
  obtain ⟨W, hW⟩ : ∃ W, b - a = W := ⟨_, rfl⟩
  have hW0 : 0 ≤ W := by omega
  have hW1 : W ≤ 4611686018427387904 := by omega
  obtain ⟨p1, p2, p3, p4, p5, p6⟩ := pnt_bd hW0 hW1 ⟨hn0, hn1⟩
  have q0 : 0 ≤ W / 255 := by omega
  have q1 : 0 ≤ W % 255 := by omega
  have q2 : W % 255 ≤ 254 := by omega
  have e1 : b - a = W := hW
  have HK : a + W / 255 * n + W % 255 * n / 255 = ptI a b n := by rw [← hW]; rfl
  have HK' := Lib.hid HK
  have c1 : -9223372036854775808 ≤ a + W / 255 * n := by omega
  have c2 : a + W / 255 * n ≤ 9223372036854775807 := by omega
  have c3 : -9223372036854775808 ≤ a + W / 255 * n + W % 255 * n / 255 := by omega
  have c4 : a + W / 255 * n + W % 255 * n / 255 ≤ 9223372036854775807 := by omega
  have hbig : -9223372036854775808 ≤ a + W / 255 * n + W % 255 * n / 255 ∧ a + W / 255 * n + W % 255 * n / 255 ≤ 9223372036854775807 := ⟨c3, c4⟩
  have HB := Lib.hid hbig
  clear HK hbig hW
  go_enter Tryd.func53, Tryd.ntmps53
  go_wp2_with fail
  generalize (w.alloc (.cells #[.int .i64 a, .int .i64 b] 69)).alloc (.cells #[.string ⟨#[]⟩, .string ⟨#[]⟩] 23) = WW at *
  refine (of22q _ WW HB.out).mono ?_
  rintro e w1 ⟨A, B, rfl, T1, hb1⟩
  have hst := below_trans' hb1 hb1.size ((Below.refl w1.heap.size w1).alloc (Nat.le_refl _) (.cells #[.string A, .string B] 23))
  have G0 := blk_below hst g1
  have G1 := heap_alloc_new w1 (.cells #[.string A, .string B] 23)
  have y0 := cells2 G1
  have z0 := free_of_block G0
  have z1 := cells2 G0
  have hB := below_trans' hbW hbW.size hst
  go_wp2_with fail
  obtain ⟨t0, t1⟩ := ret2 (A := A) (B := B) G0
  have hbe := below_sets2 hB (show w.heap.size ≤ w.heap.size + 1 by omega) (.string A) (.string B)
  exact bodyPost_ret (v := .agg #[.string A, .string B]) (by simp [results, Tryd.results53, go_sem, t0, t1]) rfl ⟨A, B, rfl, by rw [← HK'.out]; exact T1, hbe⟩
theorem point_det {a b n : Int} (hi : inI a b = true) (hn : 0 ≤ n ∧ n ≤ 255) : ∃ N D, Tx N D (qI (ptI a b n)) ∧ ∀ w, Calls Tryd.prog 53 #[.agg #[.int .i64 a, .int .i64 b], .int .u8 n] w fun e w' => e = .returned (.agg #[.string N, .string D]) ∧ Below w.heap.size w w' := by
  have h := inI_iff.1 hi
  have k := pt_in hi hn
  obtain ⟨N, D, _, hT⟩ := txV_tx (qI_fits (a := ptI a b n) ⟨by omega, by omega⟩)
  refine ⟨N, D, hT, fun w => (point53 a b n w hi hn).mono ?_⟩
  rintro e w' ⟨N', D', rfl, hT', hb⟩
  obtain ⟨rfl, rfl⟩ := hT.inj hT'
  exact ⟨rfl, hb⟩
end Go.Proofs.YtpligjkbnlfhgaaDoor
