/- Contracts of the two functions Predict (score, flagstoneref39). -/
import Derived.Test.YtgonighpjpfmnaaScore1
namespace Go.Proofs.Ytgonighpjpfmnaa
open Go.RowKit

def selB (s : Bool) (f : Nat → Smp) (k : Nat) (arm : Int) (j : Nat) : Bool := (f j).arm == arm && (!s || clsI (f j).before == clsI (f k).before)
def cntS (s : Bool) (f : Nat → Smp) (k : Nat) (arm : Int) : Nat → Int
  | 0 => 0
  | j+1 => cntS s f k arm j + if selB s f k arm j then 1 else 0
def totS (s : Bool) (f : Nat → Smp) (k : Nat) (arm : Int) : Nat → Int
  | 0 => 0
  | j+1 => totS s f k arm j + if selB s f k arm j then (f j).value else 0

theorem cntS_bd (s f k arm) (j : Nat) : 0 ≤ cntS s f k arm j ∧ cntS s f k arm j ≤ j := by
  induction j with
  | zero => simp [cntS]
  | succ j ih => simp only [cntS]; split <;> omega


theorem totS_bd (V : Int) (hV : 0 ≤ V) (s f k arm) (j n : Nat) (hj : j ≤ n) (hv : ∀ i, i < n → -V ≤ (f i).value ∧ (f i).value ≤ V) : -(V * j) ≤ totS s f k arm j ∧ totS s f k arm j ≤ V * j := by
  induction j with
  | zero => simp [totS]
  | succ j ih =>
    have h1 := ih (by omega)
    have h2 := hv j (by omega)
    have e : V * ((j + 1 : Nat) : Int) = V * j + V := by rw [Int.natCast_succ, Int.mul_add, Int.mul_one]
    simp only [totS, e]
    split <;> omega

def InSmp (f : Nat → Smp) (n : Nat) : Prop := ∀ i, i < n → (-1099511627776 ≤ (f i).value ∧ (f i).value ≤ 1099511627776) ∧ (-9223372036854775808 ≤ (f i).before ∧ (f i).before ≤ 9223372036854775807)


theorem cntS_hit {s f k arm j} (h : selB s f k arm j = true) : cntS s f k arm (j + 1) = cntS s f k arm j + 1 := by simp [cntS, h]
theorem totS_hit {s f k arm j} (h : selB s f k arm j = true) : totS s f k arm (j + 1) = totS s f k arm j + (f j).value := by simp [totS, h]
theorem cntS_miss {s f k arm j} (h : selB s f k arm j = false) : cntS s f k arm (j + 1) = cntS s f k arm j := by simp [cntS, h]
theorem totS_miss {s f k arm j} (h : selB s f k arm j = false) : totS s f k arm (j + 1) = totS s f k arm j := by simp [totS, h]

def predI (f : Nat → Smp) (k : Nat) (arm cap : Int) : Int :=
  if 0 < cntS true f k arm k then totS true f k arm k / cntS true f k arm k
  else if 0 < cntS false f k arm k then totS false f k arm k / cntS false f k arm k else cap / 2


set_option maxRecDepth 100000 in
theorem idx113 (r : Nat) (s : Bool) (h : r = 0 ∧ s = true ∨ r = 1 ∧ s = false) (w : World) : (Instr.index 113 (.agg #[.bool true, .bool false]) (.int .i64 r)).run Try.prog w = .ok (.bool s) w := by
  rcases h with ⟨rfl, rfl⟩ | ⟨rfl, rfl⟩
  · kernel_rfl
  · kernel_rfl

set_option maxHeartbeats 1000000 in
theorem predict34_in (A : Option Addr) (n c : Nat) (f : Nat → Smp) (k arm cap : Int) (w : World) (hn : n ≤ 1048576) (hnc : n ≤ c)
    (hR : RowsAt w w.heap.size 10 A n fun i => (f i).cells) (hin : InSmp f n) (hk : 0 ≤ k) (hk' : k < n)
    (hcap : -4611686018427387904 < cap) (hcap' : cap < 4611686018427387904) :
    Calls Try.prog 34 #[.slice A n c, .int .i64 k, .int .i64 arm, .int .i64 cap] w fun e w' => e = .returned (.int .i64 (predI f k.toNat arm cap)) ∧ Below w.heap.size w w' := by
  obtain ⟨k, rfl⟩ := Int.eq_ofNat_of_zero_le hk
  obtain ⟨b, off, rfl, hb, hcell⟩ := hR (by omega)
  have h8 := hcell k (by omega) 8 _ rfl
  have hkb := hin k (by omega)
  have hc0 : (decide ((k : Int) < 0)) = false := by simp
  rw [Int.toNat_natCast]
  go_enter Try.func34, Try.ntmps34
  go_wp2_with (go_at_call 32; refine (class32 _ _ ?_ ?_).mono ?_ ; omega; omega; rintro e w' ⟨rfl, rfl⟩)
  clear h8 hkb
  go_loopw [31] (fun i wr => ∃ r : Nat, r ≤ 2 ∧ i = .int .i64 r ∧ Below w.heap.size w wr ∧ (1 ≤ r → cntS true f k arm k ≤ 0) ∧ (2 ≤ r → cntS false f k arm k ≤ 0)) (fun i _ => 2 - (intOf i).toNat)
  case atStart => exact ⟨0, by omega, rfl, Below.refl _ _, fun h => absurd h (by omega), fun h => absurd h (by omega)⟩
  case round =>
    obtain ⟨r, hr, rfl, hbl, h1, h2⟩ := hrel
    by_cases hr2 : r < 2
    · obtain ⟨s, hs, hsr⟩ : ∃ s : Bool, (r = 0 ∧ s = true ∨ r = 1 ∧ s = false) ∧ (0 < cntS s f k arm k → predI f k arm cap = totS s f k arm k / cntS s f k arm k) := by
        by_cases h0 : r = 0
        · exact ⟨true, .inl ⟨h0, rfl⟩, fun h => by simp [predI, h]⟩
        · exact ⟨false, .inr ⟨by omega, rfl⟩, fun h => by have := h1 (by omega); unfold predI; rw [if_neg (by omega), if_pos h]⟩
      have hd2 : decide ((r : Int) < 2) = true := by simp; omega
      have HS := Lib.hid hs
      have Hsr := Lib.hid hsr
      have H1 := Lib.hid h1
      have H2 := Lib.hid h2
      have hx := idx113 r s hs
      clear hs hsr h1 h2
      go_wp2_with fail
      obtain ⟨wo, rfl⟩ : ∃ wo : World, wo = wr := ⟨_, rfl⟩
      go_loopw [38, 12, 13] (fun i cn sm wx => ∃ j : Nat, j ≤ k ∧ i = .int .i64 j ∧ cn = .int .i64 (cntS s f k arm j) ∧ sm = .int .i64 (totS s f k arm j) ∧ Below w.heap.size w wx) (fun i _ _ _ => k - (intOf i).toNat)
      case atStart => exact ⟨0, by omega, rfl, rfl, rfl, hbl⟩
      case round =>
        clear hbl
        obtain ⟨j, hj, rfl, rfl, rfl, hbl⟩ := hrel
        have hcb := fun s => cntS_bd s f k arm j
        have hcb1 := hcb true
        have hcb0 := hcb false
        have htb1 := totS_bd 1099511627776 (by omega) true f k arm j n (by omega) (fun i hi => (hin i hi).1)
        have htb0 := totS_bd 1099511627776 (by omega) false f k arm j n (by omega) (fun i hi => (hin i hi).1)
        clear hcb
        by_cases hjk : j < k
        · have g : ∀ q u, (f j).cells[q]? = some u → wr.cell? ⟨b, off + j * 10 + q, none⟩ = some u := fun q u hu => (hbl.cell (by exact hb)).trans (hcell j (by omega) q u hu)
          have g0 := g 0 _ rfl
          have g1 := g 1 _ rfl
          have g2 := g 2 _ rfl
          have g3 := g 3 _ rfl
          have g4 := g 4 _ rfl
          have g5 := g 5 _ rfl
          have g6 := g 6 _ rfl
          have g7 := g 7 _ rfl
          have g8 := g 8 _ rfl
          have g9 := g 9 _ rfl
          clear g
          simp only [Nat.add_zero] at g0
          have hjb := hin j (by omega)
          cases s
          all_goals
            cases ha : ((f j).arm == arm)
            all_goals
              cases hcl : (clsI (f j).before == clsI (f k).before)
              all_goals
                go_wp2_with (go_at_call 32; refine (class32 _ _ ?_ ?_).mono ?_ ; omega; omega; rintro e w' ⟨rfl, rfl⟩)
                try (go_quiet (fail); go_wp2_with fail)
                go_roundw
                case measure => simp [intOf]; omega
                case rel =>
                  try ((repeat apply Exists.intro); refine ⟨?_, rfl⟩)
                  exact ⟨j + 1, by omega, by go_num, by simp [cntS, selB, ha, hcl], by simp [totS, selB, ha, hcl], by first | exact hbl.alloc hbl.size _ | exact below_drewN (hbl.alloc hbl.size _) _⟩
        · obtain rfl : j = k := by omega
          have HR := fun h => Hsr.out h
          by_cases hpos : 0 < cntS s f j arm j
          · have HR := Lib.hid (HR hpos)
            go_wp2_with (go_at_call 81; refine (floor81 _ _ _ ?_ ?_ ?_ ?_).mono ?_ ; (first | omega | (cases s <;> omega)); (first | omega | (cases s <;> omega)); (first | omega | (cases s <;> omega)); (first | omega | (cases s <;> omega)); rintro e w' ⟨rfl, rfl⟩)
            go_ret
            exact ⟨by rw [HR.out]; rfl, hbl⟩
          · go_wp2_with fail
            go_roundw
            case measure => simp [intOf]; omega
            case rel =>
              try ((repeat apply Exists.intro); refine ⟨?_, rfl⟩)
              exact ⟨r + 1, by omega, by go_num, hbl, fun h => by rcases HS.out with ⟨rfl, rfl⟩ | ⟨rfl, rfl⟩; omega; exact H1.out (by omega), fun h => by rcases HS.out with ⟨rfl, rfl⟩ | ⟨rfl, rfl⟩; omega; omega⟩
    · obtain rfl : r = 2 := by omega
      have hfin : predI f k arm cap = cap / 2 := by
        have a := h1 (by omega)
        have b := h2 (by omega)
        unfold predI
        rw [if_neg (by omega), if_neg (by omega)]
      have hfin := Lib.hid hfin
      clear h1 h2
      go_wp2_with (go_at_call 81; refine (floor81 _ _ _ ?_ ?_ ?_ ?_).mono ?_ ; omega; omega; omega; omega; rintro e w' ⟨rfl, rfl⟩)
      go_ret
      exact ⟨by rw [hfin.out]; rfl, hbl⟩

/-- What Predict returns, for any index. -/
def predT (f : Nat → Smp) (n : Nat) (k arm cap : Int) : Int := if 0 ≤ k ∧ k < n then predI f k.toNat arm cap else 0

theorem predict34_out (A : Option Addr) (n c : Nat) (k arm cap : Int) (w : World) (_hn : n ≤ 1048576) (hk : ¬ (0 ≤ k ∧ k < n)) :
    Calls Try.prog 34 #[.slice A n c, .int .i64 k, .int .i64 arm, .int .i64 cap] w fun e w' => e = .returned (.int .i64 0) ∧ Below w.heap.size w w' := by
  by_cases h : 0 ≤ k
  · have h2 : (n : Int) ≤ k := by omega
    clear hk
    go_enter Try.func34, Try.ntmps34
    go_wp2_with fail
    go_ret
    exact ⟨rfl, Below.refl _ _⟩
  · have h2 : k < 0 := by omega
    clear hk h
    go_enter Try.func34, Try.ntmps34
    go_wp2_with fail
    go_ret
    exact ⟨rfl, Below.refl _ _⟩

theorem predict34 (A : Option Addr) (n c : Nat) (f : Nat → Smp) (k arm cap : Int) (w : World) (hn : n ≤ 1048576) (hnc : n ≤ c)
    (hR : RowsAt w w.heap.size 10 A n fun i => (f i).cells) (hin : InSmp f n)
    (hcap : -4611686018427387904 < cap) (hcap' : cap < 4611686018427387904) :
    Calls Try.prog 34 #[.slice A n c, .int .i64 k, .int .i64 arm, .int .i64 cap] w fun e w' => e = .returned (.int .i64 (predT f n k arm cap)) ∧ Below w.heap.size w w' := by
  unfold predT
  split
  · exact predict34_in A n c f k arm cap w hn hnc hR hin (by omega) (by omega) hcap hcap'
  · exact predict34_out A n c k arm cap w hn (by omega)

theorem predict35_out (A : Option Addr) (n c : Nat) (k arm cap : Int) (w : World) (_hn : n ≤ 1048576) (hk : ¬ (0 ≤ k ∧ k < n)) :
    Calls Try.prog 35 #[.slice A n c, .int .i64 k, .int .i64 arm, .int .i64 cap] w fun e w' => e = .returned (.int .i64 0) ∧ Below w.heap.size w w' := by
  by_cases h : 0 ≤ k
  · have h2 : (n : Int) ≤ k := by omega
    clear hk
    go_enter Try.func35, Try.ntmps35
    go_wp2_with fail
    go_ret
    exact ⟨rfl, Below.refl _ _⟩
  · have h2 : k < 0 := by omega
    clear hk h
    go_enter Try.func35, Try.ntmps35
    go_wp2_with fail
    go_ret
    exact ⟨rfl, Below.refl _ _⟩

set_option maxHeartbeats 1000000 in
theorem predict35_in (A : Option Addr) (n c : Nat) (f : Nat → Smp) (k arm cap : Int) (w : World) (hn : n ≤ 1048576) (_hnc : n ≤ c)
    (hR : RowsAt w w.heap.size 10 A n fun i => (f i).cells) (hin : InSmp f n) (hk : 0 ≤ k) (hk' : k < n)
    (hcap : -4611686018427387904 < cap) (hcap' : cap < 4611686018427387904) :
    Calls Try.prog 35 #[.slice A n c, .int .i64 k, .int .i64 arm, .int .i64 cap] w fun e w' => e = .returned (.int .i64 (predI f k.toNat arm cap)) ∧ Below w.heap.size w w' := by
  obtain ⟨k, rfl⟩ := Int.eq_ofNat_of_zero_le hk
  obtain ⟨b, off, rfl, hb, hcell⟩ := hR (by omega)
  rw [Int.toNat_natCast]
  have hc0 : decide ((k : Int) < 0) = false := by simp
  go_enter Try.func35, Try.ntmps35
  go_wp2_with fail
  go_loopg [13, 9, 10, 11, 12] k (fun m i s1 n1 s2 n2 wr => ∃ j : Nat, j ≤ k ∧ m = k - j ∧ i = .int .i64 j ∧ n1 = .int .i64 (cntS false f k arm j) ∧ s1 = .int .i64 (totS false f k arm j) ∧ n2 = .int .i64 (cntS true f k arm j) ∧ s2 = .int .i64 (totS true f k arm j) ∧ Below w.heap.size w wr)
  case atStart => exact ⟨0, by omega, by omega, rfl, rfl, rfl, rfl, rfl, Below.refl _ _⟩
  case round =>
    obtain ⟨j, hj, hm, rfl, rfl, rfl, rfl, rfl, hbl⟩ := hrel
    have HM := Lib.hid hm
    clear hm
    have hcb1 := cntS_bd true f k arm j
    have hcb0 := cntS_bd false f k arm j
    have htb1 := totS_bd 1099511627776 (by omega) true f k arm j n (by omega) (fun i hi => (hin i hi).1)
    have htb0 := totS_bd 1099511627776 (by omega) false f k arm j n (by omega) (fun i hi => (hin i hi).1)
    by_cases hjk : j < k
    · have g : ∀ q u, (f j).cells[q]? = some u → wr.cell? ⟨b, off + j * 10 + q, none⟩ = some u := fun q u hu => (hbl.cell (by exact hb)).trans (hcell j (by omega) q u hu)
      have g' : ∀ q u, (f k).cells[q]? = some u → wr.cell? ⟨b, off + k * 10 + q, none⟩ = some u := fun q u hu => (hbl.cell (by exact hb)).trans (hcell k (by omega) q u hu)
      have g4 := g 4 _ rfl
      have g6 := g 6 _ rfl
      have g8 := g 8 _ rfl
      have h8 := g' 8 _ rfl
      clear g g'
      have hjb := hin j (by omega)
      have hkb := hin k (by omega)
      cases ha : ((f j).arm == arm)
      · have hn : ((f j).arm != arm) = true := by simp [bne, ha]
        go_wp2_with fail
        go_roundg (k - (j + 1))
        case measure => have := HM.out; omega
        case rel => exact ⟨j + 1, by omega, by omega, by go_num, by simp [cntS, selB, ha], by simp [totS, selB, ha], by simp [cntS, selB, ha], by simp [totS, selB, ha], hbl⟩
      · have hn : ((f j).arm != arm) = false := by simp [bne, ha]
        cases hcl : (clsI (f j).before == clsI (f k).before)
        all_goals
          go_wp2_with fail
          go_quiet ((go_at_call 33; exact quiet_left (class33 _ _ (by omega) (by omega))))
          go_wp2_with fail
          go_roundg (k - (j + 1))
          case measure => have := HM.out; omega
          case rel => exact ⟨j + 1, by omega, by omega, by go_num, by simp [cntS, selB, ha, hcl], by simp [totS, selB, ha, hcl], by simp [cntS, selB, ha, hcl], by simp [totS, selB, ha, hcl], below_drewN hbl _⟩
    · obtain rfl : j = k := by omega
      by_cases h1 : 0 < cntS true f j arm j
      · have HR : predI f j arm cap = totS true f j arm j / cntS true f j arm j := by simp [predI, h1]
        have HR := Lib.hid HR
        go_wp2_with (go_at_call 82; refine (floor82 _ _ _ ?_ ?_ ?_ ?_).mono ?_ ; omega; omega; omega; omega; rintro e w' ⟨rfl, rfl⟩)
        go_ret
        exact ⟨by rw [HR.out]; rfl, hbl⟩
      · by_cases h2 : 0 < cntS false f j arm j
        · have HR : predI f j arm cap = totS false f j arm j / cntS false f j arm j := by unfold predI; rw [if_neg h1, if_pos h2]
          have HR := Lib.hid HR
          go_wp2_with (go_at_call 82; refine (floor82 _ _ _ ?_ ?_ ?_ ?_).mono ?_ ; omega; omega; omega; omega; rintro e w' ⟨rfl, rfl⟩)
          go_ret
          exact ⟨by rw [HR.out]; rfl, hbl⟩
        · have HR : predI f j arm cap = cap / 2 := by unfold predI; rw [if_neg h1, if_neg h2]
          have HR := Lib.hid HR
          go_wp2_with (go_at_call 82; refine (floor82 _ _ _ ?_ ?_ ?_ ?_).mono ?_ ; omega; omega; omega; omega; rintro e w' ⟨rfl, rfl⟩)
          go_ret
          exact ⟨by rw [HR.out]; rfl, hbl⟩

theorem predict35 (A : Option Addr) (n c : Nat) (f : Nat → Smp) (k arm cap : Int) (w : World) (hn : n ≤ 1048576) (hnc : n ≤ c)
    (hR : RowsAt w w.heap.size 10 A n fun i => (f i).cells) (hin : InSmp f n)
    (hcap : -4611686018427387904 < cap) (hcap' : cap < 4611686018427387904) :
    Calls Try.prog 35 #[.slice A n c, .int .i64 k, .int .i64 arm, .int .i64 cap] w fun e w' => e = .returned (.int .i64 (predT f n k arm cap)) ∧ Below w.heap.size w w' := by
  unfold predT
  split
  · exact predict35_in A n c f k arm cap w hn hnc hR hin (by omega) (by omega) hcap hcap'
  · exact predict35_out A n c k arm cap w hn (by omega)

end Go.Proofs.Ytgonighpjpfmnaa
