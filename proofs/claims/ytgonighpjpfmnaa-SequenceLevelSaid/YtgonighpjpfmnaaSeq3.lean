/- Lower and Upper of package sequence, and the reference's: the same searches. -/
import Derived.Test.YtgonighpjpfmnaaSeq2
namespace Go.Proofs.Ytgonighpjpfmnaa
open Go.RowKit Go.Maps

/-- Whether an effect is excluded by n scores. -/
def exR (f : Nat → Scr) (up : Bool) (thr : Int) (n : Nat) (e : Int) : Bool := decide (0 < firstN (fun i => (pathR f e up n).getD i 0) thr n)

theorem numX_le (f : Nat → Scr) (up : Bool) (thr : Int) (n : Nat) (e : Int) (hn : n ≤ 1048576) : decide (numX f up thr n e ≤ n) = exR f up thr n e := by
  have := firstN_le (f := fun i => (pathR f e up n).getD i 0) (t := thr) n
  unfold numX exR
  rw [decide_eq_decide]
  split <;> omega

set_option maxRecDepth 100000 in
set_option maxHeartbeats 1000000 in
theorem side94 (A : Option Addr) (n c : Nat) (level : Int) (up : Bool) (w : World) (N : Int → Int) :
    Calls Try.prog 94 #[.slice A n c, .int .i64 level, .bool up] w fun en w' => ∃ b, en = .returned (.agg #[.slice A n c, .int .i64 (thrI level 2), .bool up, .map (some b)]) ∧ w.heap.size ≤ b ∧ KnownOk w' b 0 N ∧ Below w.heap.size w w' := by
  have hmm := @run_makeMap Try.prog
  go_enter Try.func94, Try.ntmps94
  go_wp2_with fail
  refine (thr56 level 2 _).mono ?_
  rintro e w1 ⟨rfl, m, rfl⟩
  go_wp2_with fail
  have gS : ((((((w.alloc (.cells #[.slice none 0 0, .int .i64 0, .bool false, .map none] 132)).drewN m).setCell ⟨w.heap.size, 0, none⟩ (.slice A n c)).setCell ⟨w.heap.size, 1, none⟩ (.int .i64 (thrI level 2))).setCell ⟨w.heap.size, 2, none⟩ (.bool up)).setCell ⟨w.heap.size, 3, none⟩ (.map (some (w.heap.size + 1)))).heap[w.heap.size]? = some (.cells #[.slice A n c, .int .i64 (thrI level 2), .bool up, .map (some (w.heap.size + 1))] 132 (0, 0)) :=
    block_set (block_set (block_set (block_set (w := (w.alloc (.cells #[.slice none 0 0, .int .i64 0, .bool false, .map none] 132)).drewN m) (heap_alloc_new w (.cells #[.slice none 0 0, .int .i64 0, .bool false, .map none] 132)) 0 _) 1 _) 2 _) 3 _
  have bS : Below w.heap.size w ((((((w.alloc (.cells #[.slice none 0 0, .int .i64 0, .bool false, .map none] 132)).drewN m).setCell ⟨w.heap.size, 0, none⟩ (.slice A n c)).setCell ⟨w.heap.size, 1, none⟩ (.int .i64 (thrI level 2))).setCell ⟨w.heap.size, 2, none⟩ (.bool up)).setCell ⟨w.heap.size, 3, none⟩ (.map (some (w.heap.size + 1)))) := ((((below_drewN ((Below.refl _ _).alloc (Nat.le_refl _) _) m).setCell (Nat.le_refl _) _).setCell (Nat.le_refl _) _).setCell (Nat.le_refl _) _).setCell (Nat.le_refl _) _
  have sS : ((((((w.alloc (.cells #[.slice none 0 0, .int .i64 0, .bool false, .map none] 132)).drewN m).setCell ⟨w.heap.size, 0, none⟩ (.slice A n c)).setCell ⟨w.heap.size, 1, none⟩ (.int .i64 (thrI level 2))).setCell ⟨w.heap.size, 2, none⟩ (.bool up)).setCell ⟨w.heap.size, 3, none⟩ (.map (some (w.heap.size + 1)))).heap.size = w.heap.size + 1 := by simp
  generalize ((((((w.alloc (.cells #[.slice none 0 0, .int .i64 0, .bool false, .map none] 132)).drewN m).setCell ⟨w.heap.size, 0, none⟩ (.slice A n c)).setCell ⟨w.heap.size, 1, none⟩ (.int .i64 (thrI level 2))).setCell ⟨w.heap.size, 2, none⟩ (.bool up)).setCell ⟨w.heap.size, 3, none⟩ (.map (some (w.heap.size + 1)))) = S at *
  have hk := KnownOk.made S N
  rw [sS] at hk
  have hb2 := bS.alloc bS.size (.map #[] 0)
  rw [← (show Below S.heap.size S (S.alloc (.map #[] 0)) from (Below.refl _ _).alloc (Nat.le_refl _) _).block _ (by omega)] at gS
  have y0 := cell_of_block gS 0
  have y1 := cell_of_block gS 1
  have y2 := cell_of_block gS 2
  have y3 := cell_of_block gS 3
  simp only [List.getElem?_toArray, List.getElem?_cons_zero, List.getElem?_cons_succ] at y0 y1 y2 y3
  exact bodyPost_ret (v := .agg #[.slice A n c, .int .i64 (thrI level 2), .bool up, .map (some (w.heap.size + 1))]) (by simp [results, Try.results94, go_sem, y0, y1, y2, y3]) rfl ⟨w.heap.size + 1, rfl, by omega, hk, hb2⟩

theorem excl96 (A : Option Addr) (n c : Nat) (f : Nat → Scr) (e level : Int) (up : Bool) (w : World) (hn : n ≤ 1048576) (hR : RowsAt w w.heap.size 3 A n fun i => (f i).cells)
    (hf : ∀ k, k < n → -9223372036854775808 ≤ (f k).unit ∧ (f k).rng ≤ 9223372036854775807) :
    Calls Try.prog 96 #[.slice A n c, .int .i64 e, .int .i64 level, .bool up] w fun en w' => en = .returned (.bool (exR f up (thrI level 2) n e)) ∧ Below w.heap.size w w' := by
  obtain ⟨r, hr⟩ : ∃ r, firstN (fun i => (pathR f e up n).getD i 0) (thrI level 2) n = r := ⟨_, rfl⟩
  have hx : exR f up (thrI level 2) n e = decide (0 < r) := by rw [exR, hr]
  have HX := Lib.hid hx
  have HR := Lib.hid hr
  clear hx hr
  go_enter Try.func96, Try.ntmps96
  go_wp2_with fail
  refine (path61 A n c f e up w hn hR hf).mono ?_
  rintro en w1 ⟨v, rfl, ho, hb⟩
  obtain ⟨A2, c2, rfl, hc2, hr2⟩ := path_shape ho
  clear ho
  go_wp2_with fail
  refine (thr57 level 2 w1).mono ?_
  rintro en _ ⟨rfl, m, rfl⟩
  go_wp2_with fail
  refine (first59 A2 n c2 (fun i => (pathR f e up n).getD i 0) (thrI level 2) (w1.drewN m) hn (hr2.below (below_drewN (Below.refl _ _) m) (Nat.le_refl _))).mono ?_
  rintro en _ ⟨rfl, rfl⟩
  rw [HR.out]
  go_wp2_with fail
  go_ret
  exact ⟨by rw [HX.out]; simp, below_drewN hb m⟩

/-- The least effect not excluded from below (up), the greatest not excluded from above. -/
def lowR (f : Nat → Scr) (level : Int) (n : Nat) : Int := endI (numX f true (thrI level 2) n) true n
def highR (f : Nat → Scr) (level : Int) (n : Nat) : Int := endI (numX f false (thrI level 2) n) false n

theorem lower68 (A : Option Addr) (n c : Nat) (f : Nat → Scr) (level : Int) (w : World) (hn : n ≤ 1048576) (hR : RowsAt w w.heap.size 3 A n fun i => (f i).cells)
    (hf : ∀ k, k < n → -9223372036854775808 ≤ (f k).unit ∧ (f k).rng ≤ 9223372036854775807) :
    Calls Try.prog 68 #[.slice A n c, .int .i64 level] w fun en w' => en = .returned (.int .i64 (lowR f level n)) ∧ Below w.heap.size w w' := by
  go_enter Try.func68, Try.ntmps68
  go_wp2_with fail
  refine (side94 A n c level true w (numX f true (thrI level 2) n)).mono ?_
  rintro en w1 ⟨b, rfl, hb, hK, hbw⟩
  go_wp2_with fail
  refine (end95 A n c f (thrI level 2) true b 0 n w.heap.size w1 hn (by omega) (hR.below hbw (Nat.le_refl _)) hf hb hK).mono ?_
  rintro en w2 ⟨rfl, -, hg⟩
  go_wp2_with fail
  go_ret
  exact ⟨rfl, hbw.trans (below_of_grown hg hb hbw.size)⟩

theorem upper70 (A : Option Addr) (n c : Nat) (f : Nat → Scr) (level : Int) (w : World) (hn : n ≤ 1048576) (hR : RowsAt w w.heap.size 3 A n fun i => (f i).cells)
    (hf : ∀ k, k < n → -9223372036854775808 ≤ (f k).unit ∧ (f k).rng ≤ 9223372036854775807) :
    Calls Try.prog 70 #[.slice A n c, .int .i64 level] w fun en w' => en = .returned (.int .i64 (highR f level n)) ∧ Below w.heap.size w w' := by
  go_enter Try.func70, Try.ntmps70
  go_wp2_with fail
  refine (side94 A n c level false w (numX f false (thrI level 2) n)).mono ?_
  rintro en w1 ⟨b, rfl, hb, hK, hbw⟩
  go_wp2_with fail
  refine (end95 A n c f (thrI level 2) false b 0 n w.heap.size w1 hn (by omega) (hR.below hbw (Nat.le_refl _)) hf hb hK).mono ?_
  rintro en w2 ⟨rfl, -, hg⟩
  go_wp2_with fail
  go_ret
  exact ⟨rfl, hbw.trans (below_of_grown hg hb hbw.size)⟩

set_option maxRecDepth 100000 in
set_option maxHeartbeats 1000000 in
theorem lower69 (A : Option Addr) (n c : Nat) (f : Nat → Scr) (level : Int) (w : World) (hn : n ≤ 1048576) (hR : RowsAt w w.heap.size 3 A n fun i => (f i).cells)
    (hf : ∀ k, k < n → -9223372036854775808 ≤ (f k).unit ∧ (f k).rng ≤ 9223372036854775807) :
    Calls Try.prog 69 #[.slice A n c, .int .i64 level] w fun en w' => en = .returned (.int .i64 (lowR f level n)) ∧ Below w.heap.size w w' := by
  obtain ⟨R, hR0⟩ : ∃ R, searchN (fun h => decide (numX f true (thrI level 2) n (h - 1000) ≤ n)) 2002 0 2001 = R := ⟨_, rfl⟩
  have hres : lowR f level n = R - 1000 := by
    rw [← hR0]
    unfold lowR endI
    simp
  have HR0 := Lib.hid hR0
  have HRES := Lib.hid hres
  have HF := Lib.hid hf
  clear hR0 hres hf
  go_enter Try.func69, Try.ntmps69
  go_wp2_with fail
  go_loopg [5, 6] 2001 (fun m s t wr => ∃ (lo hi : Int) (fuel : Nat), -1000 ≤ lo ∧ lo ≤ hi ∧ hi ≤ 1001 ∧ m = (hi - lo).toNat ∧ s = .int .i64 lo ∧ t = .int .i64 hi ∧ hi - lo < fuel ∧ searchN (fun h => decide (numX f true (thrI level 2) n (h - 1000) ≤ n)) fuel (lo + 1000) (hi + 1000) = R ∧ Below w.heap.size w wr)
  case atStart => exact ⟨-1000, 1001, 2002, by omega, by omega, by omega, by omega, rfl, rfl, by omega, HR0.out, Below.refl _ _⟩
  case round =>
    obtain ⟨lo, hi, fuel, h1, h2, h3, hm, rfl, rfl, hfu, hs, hb⟩ := hrel
    have HM := Lib.hid hm
    have HS := Lib.hid hs
    clear hm hs
    cases fuel with
    | zero => omega
    | succ fuel =>
      by_cases hlt : lo < hi
      · have hs := HS.out
        rw [searchN, if_pos (by omega)] at hs
        obtain ⟨m, hmm⟩ : ∃ m, lo + (hi - lo) / 2 = m := ⟨_, rfl⟩
        have hmb : lo ≤ m ∧ m ≤ hi ∧ m < hi := by omega
        try dsimp only at hs
        rw [show (lo + 1000 + (hi + 1000)) / 2 = m + 1000 by omega, show m + 1000 - 1000 = m by omega, numX_le f true (thrI level 2) n m hn] at hs
        have hex := excl96 A n c f m level true wr hn ((hR.below hb (Nat.le_refl _)).more hb.size) HF.out
        generalize exR f true (thrI level 2) n m = d at *
        have HX := Lib.hid hex
        have HS2 := Lib.hid hs
        clear hex hs
        go_wp2_with fail
        refine HX.out.mono ?_
        rintro en w2 ⟨rfl, hb2⟩
        have hb := below_trans' hb hb.size hb2
        clear hb2
        cases d with
        | true =>
          have hs := HS2.out
          rw [if_pos rfl] at hs
          have HS3 := Lib.hid hs
          clear hs
          go_wp2_with fail
          go_roundg (hi - (m + 1)).toNat
          case measure => have := HM.out; omega
          case rel => exact ⟨m + 1, hi, fuel, by omega, by omega, by omega, rfl, by go_num, rfl, by omega, by rw [show m + 1 + 1000 = m + 1000 + 1 by omega]; exact HS3.out, hb⟩
        | false =>
          have hs := HS2.out
          rw [if_neg (by decide)] at hs
          have HS3 := Lib.hid hs
          clear hs
          go_wp2_with fail
          go_roundg (m - lo).toNat
          case measure => have := HM.out; omega
          case rel => exact ⟨lo, m, fuel, by omega, by omega, by omega, rfl, rfl, rfl, by omega, HS3.out, hb⟩
      · obtain rfl : lo = hi := by omega
        have hs := HS.out
        rw [searchN, if_neg (by omega)] at hs
        have HS3 := Lib.hid hs
        clear hs
        go_wp2_with fail
        go_ret
        exact ⟨by rw [HRES.out, ← HS3.out]; simp, hb⟩

set_option maxRecDepth 100000 in
set_option maxHeartbeats 1000000 in
theorem upper71 (A : Option Addr) (n c : Nat) (f : Nat → Scr) (level : Int) (w : World) (hn : n ≤ 1048576) (hR : RowsAt w w.heap.size 3 A n fun i => (f i).cells)
    (hf : ∀ k, k < n → -9223372036854775808 ≤ (f k).unit ∧ (f k).rng ≤ 9223372036854775807) :
    Calls Try.prog 71 #[.slice A n c, .int .i64 level] w fun en w' => en = .returned (.int .i64 (highR f level n)) ∧ Below w.heap.size w w' := by
  obtain ⟨R, hR0⟩ : ∃ R, searchN (fun h => decide (numX f false (thrI level 2) n (-(h - 1000)) ≤ n)) 2002 0 2001 = R := ⟨_, rfl⟩
  have hres : highR f level n = -(R - 1000) := by
    rw [← hR0]
    unfold highR endI
    simp
  have HR0 := Lib.hid hR0
  have HRES := Lib.hid hres
  have HF := Lib.hid hf
  clear hR0 hres hf
  go_enter Try.func71, Try.ntmps71
  go_wp2_with fail
  go_loopg [5, 6] 2001 (fun m s t wr => ∃ (lo hi : Int) (fuel : Nat), -1001 ≤ lo ∧ lo ≤ hi ∧ hi ≤ 1000 ∧ m = (hi - lo).toNat ∧ s = .int .i64 lo ∧ t = .int .i64 hi ∧ hi - lo < fuel ∧ searchN (fun h => decide (numX f false (thrI level 2) n (-(h - 1000)) ≤ n)) fuel (1000 - hi) (1000 - lo) = R ∧ Below w.heap.size w wr)
  case atStart => exact ⟨-1001, 1000, 2002, by omega, by omega, by omega, by omega, rfl, rfl, by omega, HR0.out, Below.refl _ _⟩
  case round =>
    obtain ⟨lo, hi, fuel, h1, h2, h3, hm, rfl, rfl, hfu, hs, hb⟩ := hrel
    have HM := Lib.hid hm
    have HS := Lib.hid hs
    clear hm hs
    cases fuel with
    | zero => omega
    | succ fuel =>
      by_cases hlt : lo < hi
      · have hs := HS.out
        rw [searchN, if_pos (by omega)] at hs
        obtain ⟨m, hmm⟩ : ∃ m, lo + (hi - lo + 1) / 2 = m := ⟨_, rfl⟩
        have hmb : lo ≤ m ∧ m ≤ hi ∧ lo < m := by omega
        try dsimp only at hs
        rw [show (1000 - hi + (1000 - lo)) / 2 = 1000 - m by omega, show -(1000 - m - 1000) = m by omega, numX_le f false (thrI level 2) n m hn] at hs
        have hex := excl96 A n c f m level false wr hn ((hR.below hb (Nat.le_refl _)).more hb.size) HF.out
        generalize exR f false (thrI level 2) n m = d at *
        have HX := Lib.hid hex
        have HS2 := Lib.hid hs
        clear hex hs
        go_wp2_with fail
        refine HX.out.mono ?_
        rintro en w2 ⟨rfl, hb2⟩
        have hb := below_trans' hb hb.size hb2
        clear hb2
        cases d with
        | true =>
          have hs := HS2.out
          rw [if_pos rfl] at hs
          have HS3 := Lib.hid hs
          clear hs
          go_wp2_with fail
          go_roundg (m - 1 - lo).toNat
          case measure => have := HM.out; omega
          case rel => exact ⟨lo, m - 1, fuel, by omega, by omega, by omega, rfl, rfl, by go_num, by omega, by rw [show 1000 - (m - 1) = 1000 - m + 1 by omega]; exact HS3.out, hb⟩
        | false =>
          have hs := HS2.out
          rw [if_neg (by decide)] at hs
          have HS3 := Lib.hid hs
          clear hs
          go_wp2_with fail
          go_roundg (hi - m).toNat
          case measure => have := HM.out; omega
          case rel => exact ⟨m, hi, fuel, by omega, by omega, by omega, rfl, rfl, rfl, by omega, HS3.out, hb⟩
      · obtain rfl : lo = hi := by omega
        have hs := HS.out
        rw [searchN, if_neg (by omega)] at hs
        have HS3 := Lib.hid hs
        clear hs
        go_wp2_with fail
        go_ret
        exact ⟨by rw [HRES.out, ← HS3.out]; simp; omega, hb⟩

end Go.Proofs.Ytgonighpjpfmnaa
