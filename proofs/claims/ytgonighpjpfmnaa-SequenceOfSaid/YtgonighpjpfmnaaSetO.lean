/- The intervals of sequence.Of of the program and of the reference are the same; Settles of both. No statement is proved here. -/
import Derived.Test.YtgonighpjpfmnaaSeq3
import Derived.Lib.Hide
namespace Go.Proofs.Ytgonighpjpfmnaa
open Go.RowKit

theorem firstN_congr0 {F F' : Nat → Int} {t : Int} : ∀ m, (∀ i, i < m → F i = F' i) → firstN F t m = firstN F' t m
  | 0, _ => rfl
  | m + 1, h => by rw [firstN, firstN, firstN_congr0 m (fun i hi => h i (by omega)), h m (by omega)]
theorem firstN_pre {F : Nat → Int} {t : Int} {m : Nat} : ∀ (d : Nat), (firstN F t m ≠ 0 → firstN F t (m + d) = firstN F t m) ∧ (firstN F t m = 0 → firstN F t (m + d) = 0 ∨ m < firstN F t (m + d))
  | 0 => ⟨fun _ => rfl, fun h => .inl h⟩
  | d + 1 => by
    obtain ⟨h1, h2⟩ := firstN_pre (F := F) (t := t) (m := m) d
    rw [show m + (d + 1) = (m + d) + 1 from rfl, firstN]
    constructor
    · intro h
      rw [h1 h, if_neg h]
    · intro h
      by_cases h0 : firstN F t (m + d) = 0
      · rw [if_pos h0]
        split
        · exact .inr (by omega)
        · exact .inl rfl
      · rw [if_neg h0]
        rcases h2 h with h3 | h3
        · exact absurd h3 h0
        · exact .inr h3
theorem pathR_get0 {f : Nat → Scr} {e : Int} {up : Bool} {n i : Nat} (h : i < n) : (pathR f e up n).getD i 0 = meanAt f e up (i + 1) := by simp [pathR, h]
theorem numX_pre (f : Nat → Scr) (up : Bool) (thr : Int) {n k : Nat} (hk : k + 1 ≤ n) (hn : n ≤ 1048576) (e : Int) : decide (numX f up thr n e ≤ (k : Int) + 1) = decide (numX f up thr (k + 1) e ≤ (k : Int) + 1) := by
  obtain ⟨d, rfl⟩ : ∃ d, n = k + 1 + d := ⟨n - (k + 1), by omega⟩
  have e1 : firstN (fun i => (pathR f e up (k + 1 + d)).getD i 0) thr (k + 1) = firstN (fun i => (pathR f e up (k + 1)).getD i 0) thr (k + 1) := firstN_congr0 _ (fun i hi => by rw [pathR_get0 (by omega), pathR_get0 hi])
  have hp := firstN_pre (F := fun i => (pathR f e up (k + 1 + d)).getD i 0) (t := thr) (m := k + 1) d
  have hle := firstN_le (f := fun i => (pathR f e up (k + 1)).getD i 0) (t := thr) (k + 1)
  rw [e1] at hp
  unfold numX
  rw [decide_eq_decide]
  generalize firstN (fun i => (pathR f e up (k + 1 + d)).getD i 0) thr (k + 1 + d) = A at *
  generalize firstN (fun i => (pathR f e up (k + 1)).getD i 0) thr (k + 1) = B at *
  by_cases hB : B = 0
  · rw [if_pos hB]
    rcases hp.2 hB with hA | hA
    · rw [if_pos hA]
    · rw [if_neg (by omega)]
      omega
  · rw [if_neg hB, hp.1 hB, if_neg hB]
theorem endI_low (f : Nat → Scr) (level : Int) {n k : Nat} (hk : k + 1 ≤ n) (hn : n ≤ 1048576) : endI (numX f true (thrI level 2) n) true ((k : Int) + 1) = lowR f level (k + 1) := by
  have h : (fun h : Int => decide (numX f true (thrI level 2) n (h - 1000) ≤ (k : Int) + 1)) = fun h => decide (numX f true (thrI level 2) (k + 1) (h - 1000) ≤ ((k + 1 : Nat) : Int)) := funext fun h => by rw [numX_pre f true _ hk hn]; rfl
  unfold lowR endI
  rw [if_pos rfl, if_pos rfl, h]
theorem endI_high (f : Nat → Scr) (level : Int) {n k : Nat} (hk : k + 1 ≤ n) (hn : n ≤ 1048576) : endI (numX f false (thrI level 2) n) false ((k : Int) + 1) = highR f level (k + 1) := by
  have h : (fun h : Int => decide (numX f false (thrI level 2) n (-(h - 1000)) ≤ (k : Int) + 1)) = fun h => decide (numX f false (thrI level 2) (k + 1) (-(h - 1000)) ≤ ((k + 1 : Nat) : Int)) := funext fun h => by rw [numX_pre f false _ hk hn]; rfl
  unfold highR endI
  rw [if_neg (by decide), if_neg (by decide), h]
theorem lows_same (f : Nat → Scr) (level : Int) {n : Nat} (hn : n ≤ 1048576) : ((List.range n).map fun k : Nat => endI (numX f true (thrI level 2) n) true ((k : Int) + 1)) = (List.range n).map fun k : Nat => lowR f level (k + 1) :=
  List.map_congr_left fun k hk => endI_low f level (by have := List.mem_range.1 hk; omega) hn
theorem highs_same (f : Nat → Scr) (level : Int) {n : Nat} (hn : n ≤ 1048576) : ((List.range n).map fun k : Nat => endI (numX f false (thrI level 2) n) false ((k : Int) + 1)) = (List.range n).map fun k : Nat => highR f level (k + 1) :=
  List.map_congr_left fun k hk => endI_high f level (by have := List.mem_range.1 hk; omega) hn

/-- The number of the first intervals, from the k-th on, that exclude an effect; 0: none. -/
def setI (L H : Nat → Int) (nl nh : Nat) (e : Int) : Nat → Nat → Int
  | 0, _ => 0
  | d + 1, k => if (k < nl ∧ e < L k) ∨ (k < nh ∧ H k < e) then (k : Int) + 1 else setI L H nl nh e d (k + 1)

set_option maxRecDepth 100000 in
set_option maxHeartbeats 4000000 in
theorem settles74 (A B : Option Addr) (nl nh ca cb : Nat) (L H : Nat → Int) (e : Int) (w : World) (hnl : nl ≤ 1048576) (hnh : nh ≤ 1048576) (_hca : nl ≤ ca) (_hcb : nh ≤ cb)
    (hL : RowsAt w w.heap.size 1 A nl fun i => [.int .i64 (L i)]) (hH : RowsAt w w.heap.size 1 B nh fun i => [.int .i64 (H i)]) :
    Calls Try.prog 74 #[.agg #[.slice A nl ca, .slice B nh cb], .int .i64 e] w fun en w' => en = .returned (.int .i64 (setI L H nl nh e (max nl nh) 0)) ∧ Below w.heap.size w w' := by
  have hbe : Below w.heap.size w (w.alloc (.cells #[.slice A nl ca, .slice B nh cb] 95)) := (Below.refl _ _).alloc (Nat.le_refl _) _
  have hRA := (hL.below hbe (Nat.le_refl _)).more hbe.size
  have hRB := (hH.below hbe (Nat.le_refl _)).more hbe.size
  have g0 := heap_alloc_new w (.cells #[.slice A nl ca, .slice B nh cb] 95)
  have y0 := cell_of_block g0 0
  have y1 := cell_of_block g0 1
  simp only [List.getElem?_toArray, List.getElem?_cons_zero, List.getElem?_cons_succ] at y0 y1
  obtain ⟨S, hS⟩ : ∃ S, setI L H nl nh e (max nl nh) 0 = S := ⟨_, rfl⟩
  rw [hS]
  go_enter Try.func74, Try.ntmps74
  go_wp2_with fail
  clear hL hH g0
  generalize w.alloc (.cells #[.slice A nl ca, .slice B nh cb] 95) = W at *
  have HBE := Lib.hid hbe
  clear hbe
  go_loopg [5, 13] (max nl nh) (fun m s5 s13 wr => ∃ k : Nat, k ≤ max nl nh ∧ m = max nl nh - k ∧ s13 = .int .i64 k ∧ setI L H nl nh e (max nl nh - k) k = S ∧ W = wr)
  case atStart => exact ⟨0, by omega, by omega, rfl, hS, rfl⟩
  case round =>
    obtain ⟨k, hk, hm, rfl, hs, rfl⟩ := hrel
    have HM := Lib.hid hm
    have HS := Lib.hid hs
    clear hm hs
    by_cases hk2 : k < max nl nh
    · have hk3 : (k : Int) < max (nl : Int) nh := by omega
      by_cases k1 : k < nl
      · have k1I : (k : Int) < nl := by omega
        obtain ⟨bA, oA, rfl, -, hcA⟩ := hRA (by omega)
        have yA := hcA k k1 0 _ rfl
        simp only [Nat.add_zero, Nat.mul_one] at yA
        obtain ⟨x, hx⟩ : ∃ x, L k = x := ⟨_, rfl⟩
        rw [hx] at yA
        have Hx := Lib.hid hx
        clear hcA hx
        by_cases e1 : e < x
        · have hd : setI L H nl nh e ((max nl nh - (k + 1)) + 1) k = (k : Int) + 1 := by unfold setI; exact if_pos (.inl ⟨k1, by rw [Hx.out]; exact e1⟩)
          rw [show (max nl nh - (k + 1)) + 1 = max nl nh - k by omega] at hd
          have HD := Lib.hid hd
          clear hd
          (try clear hRA)
          (try clear hRB)
          (try clear k1)
          (try clear k2)
          go_wp2_with fail
          go_ret
          exact ⟨congrArg (fun z => Ending.returned (Value.int .i64 z)) (HD.out.symm.trans HS.out), HBE.out⟩
        · by_cases k2 : k < nh
          · have k2I : (k : Int) < nh := by omega
            obtain ⟨bB, oB, rfl, -, hcB⟩ := hRB (by omega)
            have yB := hcB k k2 0 _ rfl
            simp only [Nat.add_zero, Nat.mul_one] at yB
            obtain ⟨y, hy⟩ : ∃ x, H k = x := ⟨_, rfl⟩
            rw [hy] at yB
            have Hy := Lib.hid hy
            clear hcB hy
            by_cases e2 : y < e
            · have hd : setI L H nl nh e ((max nl nh - (k + 1)) + 1) k = (k : Int) + 1 := by unfold setI; exact if_pos (.inr ⟨k2, by rw [Hy.out]; exact e2⟩)
              rw [show (max nl nh - (k + 1)) + 1 = max nl nh - k by omega] at hd
              have HD := Lib.hid hd
              clear hd
              (try clear hRA)
              (try clear hRB)
              (try clear k1)
              (try clear k2)
              go_wp2_with fail
              go_ret
              exact ⟨congrArg (fun z => Ending.returned (Value.int .i64 z)) (HD.out.symm.trans HS.out), HBE.out⟩
            · have hd : setI L H nl nh e ((max nl nh - (k + 1)) + 1) k = setI L H nl nh e (max nl nh - (k + 1)) (k + 1) := by
                rw [setI]
                refine if_neg (fun hh => ?_)
                rcases hh with hh | hh
                · first | exact k1 hh.1 | (have := hh.2; rw [Hx.out] at this; exact e1 this)
                · first | exact k2 hh.1 | (have := hh.2; rw [Hy.out] at this; exact e2 this)
              rw [show (max nl nh - (k + 1)) + 1 = max nl nh - k by omega] at hd
              have HD := Lib.hid (hd.symm.trans HS.out)
              clear hd
              (try clear hRA)
              (try clear hRB)
              (try clear k1)
              (try clear k2)
              (try have e1I := decide_eq_false e1)
              (try have e2I := decide_eq_false e2)
              go_wp2_with fail
              go_roundg (max nl nh - (k + 1))
              case measure => have := HM.out; omega
              case rel => exact ⟨k + 1, by omega, rfl, by go_num, HD.out, rfl⟩
          · have k2I : ¬ (k : Int) < nh := by omega
            have hd : setI L H nl nh e ((max nl nh - (k + 1)) + 1) k = setI L H nl nh e (max nl nh - (k + 1)) (k + 1) := by
              rw [setI]
              refine if_neg (fun hh => ?_)
              rcases hh with hh | hh
              · first | exact k1 hh.1 | (have := hh.2; rw [Hx.out] at this; exact e1 this)
              · first | exact k2 hh.1 | (have := hh.2; rw [Hy.out] at this; exact e2 this)
            rw [show (max nl nh - (k + 1)) + 1 = max nl nh - k by omega] at hd
            have HD := Lib.hid (hd.symm.trans HS.out)
            clear hd
            (try clear hRA)
            (try clear hRB)
            (try clear k1)
            (try clear k2)
            (try have e1I := decide_eq_false e1)
            (try have e2I := decide_eq_false e2)
            go_wp2_with fail
            go_roundg (max nl nh - (k + 1))
            case measure => have := HM.out; omega
            case rel => exact ⟨k + 1, by omega, rfl, by go_num, HD.out, rfl⟩
      · have k1I : ¬ (k : Int) < nl := by omega
        by_cases k2 : k < nh
        · have k2I : (k : Int) < nh := by omega
          obtain ⟨bB, oB, rfl, -, hcB⟩ := hRB (by omega)
          have yB := hcB k k2 0 _ rfl
          simp only [Nat.add_zero, Nat.mul_one] at yB
          obtain ⟨y, hy⟩ : ∃ x, H k = x := ⟨_, rfl⟩
          rw [hy] at yB
          have Hy := Lib.hid hy
          clear hcB hy
          by_cases e2 : y < e
          · have hd : setI L H nl nh e ((max nl nh - (k + 1)) + 1) k = (k : Int) + 1 := by unfold setI; exact if_pos (.inr ⟨k2, by rw [Hy.out]; exact e2⟩)
            rw [show (max nl nh - (k + 1)) + 1 = max nl nh - k by omega] at hd
            have HD := Lib.hid hd
            clear hd
            (try clear hRA)
            (try clear hRB)
            (try clear k1)
            (try clear k2)
            go_wp2_with fail
            go_ret
            exact ⟨congrArg (fun z => Ending.returned (Value.int .i64 z)) (HD.out.symm.trans HS.out), HBE.out⟩
          · have hd : setI L H nl nh e ((max nl nh - (k + 1)) + 1) k = setI L H nl nh e (max nl nh - (k + 1)) (k + 1) := by
              rw [setI]
              refine if_neg (fun hh => ?_)
              rcases hh with hh | hh
              · first | exact k1 hh.1 | (have := hh.2; rw [Hx.out] at this; exact e1 this)
              · first | exact k2 hh.1 | (have := hh.2; rw [Hy.out] at this; exact e2 this)
            rw [show (max nl nh - (k + 1)) + 1 = max nl nh - k by omega] at hd
            have HD := Lib.hid (hd.symm.trans HS.out)
            clear hd
            (try clear hRA)
            (try clear hRB)
            (try clear k1)
            (try clear k2)
            (try have e1I := decide_eq_false e1)
            (try have e2I := decide_eq_false e2)
            go_wp2_with fail
            go_roundg (max nl nh - (k + 1))
            case measure => have := HM.out; omega
            case rel => exact ⟨k + 1, by omega, rfl, by go_num, HD.out, rfl⟩
        · omega
    · obtain rfl : k = max nl nh := by omega
      have hd : setI L H nl nh e (max nl nh - max nl nh) (max nl nh) = 0 := by rw [Nat.sub_self]; rfl
      have HD := Lib.hid (hd.symm.trans HS.out)
      clear hd
      have n1 : ¬ ((max nl nh : Nat) : Int) < nl := by omega
      have n2 : ¬ ((max nl nh : Nat) : Int) < nh := by omega
      have n3 : ¬ ((max nl nh : Nat) : Int) < max (nl : Int) nh := by omega
      clear hRA hRB
      generalize ((max nl nh : Nat) : Int) = KK at *
      go_wp2_with fail
      go_ret
      exact ⟨congrArg (fun z => Ending.returned (Value.int .i64 z)) HD.out, HBE.out⟩

set_option maxRecDepth 100000 in
set_option maxHeartbeats 4000000 in
theorem settles75 (A B : Option Addr) (nl nh ca cb : Nat) (L H : Nat → Int) (e : Int) (w : World) (hnl : nl ≤ 1048576) (hnh : nh ≤ 1048576) (_hca : nl ≤ ca) (_hcb : nh ≤ cb)
    (hL : RowsAt w w.heap.size 1 A nl fun i => [.int .i64 (L i)]) (hH : RowsAt w w.heap.size 1 B nh fun i => [.int .i64 (H i)]) :
    Calls Try.prog 75 #[.agg #[.slice A nl ca, .slice B nh cb], .int .i64 e] w fun en w' => en = .returned (.int .i64 (setI L H nl nh e (max nl nh) 0)) ∧ Below w.heap.size w w' := by
  have hbe : Below w.heap.size w (w.alloc (.cells #[.slice A nl ca, .slice B nh cb] 95)) := (Below.refl _ _).alloc (Nat.le_refl _) _
  have hRA := (hL.below hbe (Nat.le_refl _)).more hbe.size
  have hRB := (hH.below hbe (Nat.le_refl _)).more hbe.size
  have g0 := heap_alloc_new w (.cells #[.slice A nl ca, .slice B nh cb] 95)
  have y0 := cell_of_block g0 0
  have y1 := cell_of_block g0 1
  simp only [List.getElem?_toArray, List.getElem?_cons_zero, List.getElem?_cons_succ] at y0 y1
  obtain ⟨S, hS⟩ : ∃ S, setI L H nl nh e (max nl nh) 0 = S := ⟨_, rfl⟩
  rw [hS]
  go_enter Try.func75, Try.ntmps75
  go_wp2_with fail
  clear hL hH g0
  generalize w.alloc (.cells #[.slice A nl ca, .slice B nh cb] 95) = W at *
  have HBE := Lib.hid hbe
  clear hbe
  go_loopg [5] (max nl nh) (fun m s5 wr => ∃ k : Nat, k ≤ max nl nh ∧ m = max nl nh - k ∧ s5 = .int .i64 k ∧ setI L H nl nh e (max nl nh - k) k = S ∧ W = wr)
  case atStart => exact ⟨0, by omega, by omega, rfl, hS, rfl⟩
  case round =>
    obtain ⟨k, hk, hm, rfl, hs, rfl⟩ := hrel
    have HM := Lib.hid hm
    have HS := Lib.hid hs
    clear hm hs
    by_cases hk2 : k < max nl nh
    · have hk3 : k < nl ∨ k < nh := by omega
      by_cases k1 : k < nl
      · have k1I : (k : Int) < nl := by omega
        obtain ⟨bA, oA, rfl, -, hcA⟩ := hRA (by omega)
        have yA := hcA k k1 0 _ rfl
        simp only [Nat.add_zero, Nat.mul_one] at yA
        obtain ⟨x, hx⟩ : ∃ x, L k = x := ⟨_, rfl⟩
        rw [hx] at yA
        have Hx := Lib.hid hx
        clear hcA hx
        by_cases e1 : e < x
        · have hd : setI L H nl nh e ((max nl nh - (k + 1)) + 1) k = (k : Int) + 1 := by unfold setI; exact if_pos (.inl ⟨k1, by rw [Hx.out]; exact e1⟩)
          rw [show (max nl nh - (k + 1)) + 1 = max nl nh - k by omega] at hd
          have HD := Lib.hid hd
          clear hd
          (try clear hRA)
          (try clear hRB)
          (try clear k1)
          (try clear k2)
          go_wp2_with fail
          go_ret
          exact ⟨congrArg (fun z => Ending.returned (Value.int .i64 z)) (HD.out.symm.trans HS.out), HBE.out⟩
        · by_cases k2 : k < nh
          · have k2I : (k : Int) < nh := by omega
            obtain ⟨bB, oB, rfl, -, hcB⟩ := hRB (by omega)
            have yB := hcB k k2 0 _ rfl
            simp only [Nat.add_zero, Nat.mul_one] at yB
            obtain ⟨y, hy⟩ : ∃ x, H k = x := ⟨_, rfl⟩
            rw [hy] at yB
            have Hy := Lib.hid hy
            clear hcB hy
            by_cases e2 : y < e
            · have hd : setI L H nl nh e ((max nl nh - (k + 1)) + 1) k = (k : Int) + 1 := by unfold setI; exact if_pos (.inr ⟨k2, by rw [Hy.out]; exact e2⟩)
              rw [show (max nl nh - (k + 1)) + 1 = max nl nh - k by omega] at hd
              have HD := Lib.hid hd
              clear hd
              (try clear hRA)
              (try clear hRB)
              (try clear k1)
              (try clear k2)
              go_wp2_with fail
              go_ret
              exact ⟨congrArg (fun z => Ending.returned (Value.int .i64 z)) (HD.out.symm.trans HS.out), HBE.out⟩
            · have hd : setI L H nl nh e ((max nl nh - (k + 1)) + 1) k = setI L H nl nh e (max nl nh - (k + 1)) (k + 1) := by
                rw [setI]
                refine if_neg (fun hh => ?_)
                rcases hh with hh | hh
                · first | exact k1 hh.1 | (have := hh.2; rw [Hx.out] at this; exact e1 this)
                · first | exact k2 hh.1 | (have := hh.2; rw [Hy.out] at this; exact e2 this)
              rw [show (max nl nh - (k + 1)) + 1 = max nl nh - k by omega] at hd
              have HD := Lib.hid (hd.symm.trans HS.out)
              clear hd
              (try clear hRA)
              (try clear hRB)
              (try clear k1)
              (try clear k2)
              (try have e1I := decide_eq_false e1)
              (try have e2I := decide_eq_false e2)
              go_wp2_with fail
              go_roundg (max nl nh - (k + 1))
              case measure => have := HM.out; omega
              case rel => exact ⟨k + 1, by omega, rfl, by go_num, HD.out, rfl⟩
          · have k2I : ¬ (k : Int) < nh := by omega
            have hd : setI L H nl nh e ((max nl nh - (k + 1)) + 1) k = setI L H nl nh e (max nl nh - (k + 1)) (k + 1) := by
              rw [setI]
              refine if_neg (fun hh => ?_)
              rcases hh with hh | hh
              · first | exact k1 hh.1 | (have := hh.2; rw [Hx.out] at this; exact e1 this)
              · first | exact k2 hh.1 | (have := hh.2; rw [Hy.out] at this; exact e2 this)
            rw [show (max nl nh - (k + 1)) + 1 = max nl nh - k by omega] at hd
            have HD := Lib.hid (hd.symm.trans HS.out)
            clear hd
            (try clear hRA)
            (try clear hRB)
            (try clear k1)
            (try clear k2)
            (try have e1I := decide_eq_false e1)
            (try have e2I := decide_eq_false e2)
            go_wp2_with fail
            go_roundg (max nl nh - (k + 1))
            case measure => have := HM.out; omega
            case rel => exact ⟨k + 1, by omega, rfl, by go_num, HD.out, rfl⟩
      · have k1I : ¬ (k : Int) < nl := by omega
        by_cases k2 : k < nh
        · have k2I : (k : Int) < nh := by omega
          obtain ⟨bB, oB, rfl, -, hcB⟩ := hRB (by omega)
          have yB := hcB k k2 0 _ rfl
          simp only [Nat.add_zero, Nat.mul_one] at yB
          obtain ⟨y, hy⟩ : ∃ x, H k = x := ⟨_, rfl⟩
          rw [hy] at yB
          have Hy := Lib.hid hy
          clear hcB hy
          by_cases e2 : y < e
          · have hd : setI L H nl nh e ((max nl nh - (k + 1)) + 1) k = (k : Int) + 1 := by unfold setI; exact if_pos (.inr ⟨k2, by rw [Hy.out]; exact e2⟩)
            rw [show (max nl nh - (k + 1)) + 1 = max nl nh - k by omega] at hd
            have HD := Lib.hid hd
            clear hd
            (try clear hRA)
            (try clear hRB)
            (try clear k1)
            (try clear k2)
            go_wp2_with fail
            go_ret
            exact ⟨congrArg (fun z => Ending.returned (Value.int .i64 z)) (HD.out.symm.trans HS.out), HBE.out⟩
          · have hd : setI L H nl nh e ((max nl nh - (k + 1)) + 1) k = setI L H nl nh e (max nl nh - (k + 1)) (k + 1) := by
              rw [setI]
              refine if_neg (fun hh => ?_)
              rcases hh with hh | hh
              · first | exact k1 hh.1 | (have := hh.2; rw [Hx.out] at this; exact e1 this)
              · first | exact k2 hh.1 | (have := hh.2; rw [Hy.out] at this; exact e2 this)
            rw [show (max nl nh - (k + 1)) + 1 = max nl nh - k by omega] at hd
            have HD := Lib.hid (hd.symm.trans HS.out)
            clear hd
            (try clear hRA)
            (try clear hRB)
            (try clear k1)
            (try clear k2)
            (try have e1I := decide_eq_false e1)
            (try have e2I := decide_eq_false e2)
            go_wp2_with fail
            go_roundg (max nl nh - (k + 1))
            case measure => have := HM.out; omega
            case rel => exact ⟨k + 1, by omega, rfl, by go_num, HD.out, rfl⟩
        · omega
    · obtain rfl : k = max nl nh := by omega
      have hd : setI L H nl nh e (max nl nh - max nl nh) (max nl nh) = 0 := by rw [Nat.sub_self]; rfl
      have HD := Lib.hid (hd.symm.trans HS.out)
      clear hd
      have n1 : ¬ ((max nl nh : Nat) : Int) < nl := by omega
      have n2 : ¬ ((max nl nh : Nat) : Int) < nh := by omega
      have n3 : ¬ ((max nl nh : Nat) : Int) < max (nl : Int) nh := by omega
      clear hRA hRB
      generalize ((max nl nh : Nat) : Int) = KK at *
      go_wp2_with fail
      go_ret
      exact ⟨congrArg (fun z => Ending.returned (Value.int .i64 z)) HD.out, HBE.out⟩
end Go.Proofs.Ytgonighpjpfmnaa
