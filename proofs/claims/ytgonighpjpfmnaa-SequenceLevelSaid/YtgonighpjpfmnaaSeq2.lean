/- sort.Search over the closure; side.end. -/
import Derived.Test.YtgonighpjpfmnaaSeq1
namespace Go.Proofs.Ytgonighpjpfmnaa
open Go.RowKit Go.Maps

/-- Binary search for the first index in i .. j at which p is false (p: the closure's negation). -/
def searchN (p : Int → Bool) : Nat → Int → Int → Int
  | 0, i, _ => i
  | fuel + 1, i, j => if i < j then (if p ((i + j) / 2) = true then searchN p fuel ((i + j) / 2 + 1) j else searchN p fuel i ((i + j) / 2)) else i

theorem searchN_bd (p : Int → Bool) : ∀ (fuel : Nat) (i j : Int), i ≤ j → i ≤ searchN p fuel i j ∧ searchN p fuel i j ≤ j
  | 0, i, j, h => by simp [searchN, h]
  | fuel + 1, i, j, h => by
    rw [searchN]
    split
    · split
      · have := searchN_bd p fuel ((i + j) / 2 + 1) j (by omega); omega
      · have := searchN_bd p fuel i ((i + j) / 2) (by omega); omega
    · omega

set_option maxRecDepth 100000 in
set_option maxHeartbeats 2000000 in
theorem search101 (A : Option Addr) (n c : Nat) (f : Nat → Scr) (thr : Int) (up : Bool) (b cnt gs gg gn : Nat) (sign k : Int) (eF : Int → Int) (B : Nat) (w : World) (hn : n ≤ 1048576) (hc : cnt ≤ 100000000)
    (hse : ∀ h, 0 ≤ h → h ≤ 2001 → IntKind.i64.wrap (sign * (h - 1000)) = eF h ∧ -1001 ≤ eF h ∧ eF h ≤ 1001)
    (hR : RowsAt w B 3 A n fun i => (f i).cells) (hf : ∀ k, k < n → -9223372036854775808 ≤ (f k).unit ∧ (f k).rng ≤ 9223372036854775807) (hB : B ≤ b) (hBw : B ≤ w.heap.size) (hK : KnownOk w b cnt (numX f up thr n))
    (h1 : w.heap[gs]? = some (.cells #[.slice A n c, .int .i64 thr, .bool up, .map (some b)] 132 (0, 0))) (h2 : w.heap[gg]? = some (.cells #[.int .i64 sign] 3 (0, 0))) (h3 : w.heap[gn]? = some (.cells #[.int .i64 k] 3 (0, 0))) (n1 : gs ≠ b) (n2 : gg ≠ b) (n3 : gn ≠ b) :
    Calls Try.prog 101 #[.int .i64 2001, .func (.func 102) #[] #[.pointer (some ⟨gs, 0, none⟩), .pointer (some ⟨gg, 0, none⟩), .pointer (some ⟨gn, 0, none⟩)]] w fun en w' => en = .returned (.int .i64 (searchN (fun h => decide (numX f up thr n (eF h) ≤ k)) 2002 0 2001)) ∧ KnownOk w' b (cnt + 2001) (numX f up thr n) ∧ w.grownBy w' (some b) := by
  obtain ⟨R, hRe⟩ : ∃ R, searchN (fun h => decide (numX f up thr n (eF h) ≤ k)) 2002 0 2001 = R := ⟨_, rfl⟩
  rw [hRe]
  have HRe := Lib.hid hRe
  have HSE := Lib.hid hse
  have HF := Lib.hid hf
  clear hRe hse hf
  have H1 := Lib.hid h1
  have H2 := Lib.hid h2
  have H3 := Lib.hid h3
  clear h1 h2 h3
  go_enter Try.func101, Try.ntmps101
  go_wp2_with fail
  go_loopg [5, 6] 2001 (fun m s t wr => ∃ (i j : Int) (fuel : Nat), 0 ≤ i ∧ i ≤ j ∧ j ≤ 2001 ∧ m = (j - i).toNat ∧ s = .int .i64 i ∧ t = .int .i64 j ∧ j - i < fuel ∧ searchN (fun h => decide (numX f up thr n (eF h) ≤ k)) fuel i j = R ∧ KnownOk wr b (cnt + 2001 - (j - i).toNat) (numX f up thr n) ∧ w.grownBy wr (some b))
  case atStart => exact ⟨0, 2001, 2002, by omega, by omega, by omega, by omega, rfl, rfl, by omega, HRe.out, by simpa using hK, only_refl _ _⟩
  case round =>
    obtain ⟨i, j, fuel, hi, hij, hj, hm, rfl, rfl, hfu, hs, hKr, hg⟩ := hrel
    have HM := Lib.hid hm
    have HS := Lib.hid hs
    clear hm hs
    cases fuel with
    | zero => omega
    | succ fuel =>
      by_cases hlt : i < j
      · have hs := HS.out
        rw [searchN, if_pos hlt] at hs
        obtain ⟨h, hh⟩ : ∃ h, (i + j) / 2 = h := ⟨_, rfl⟩
        have hhb : i ≤ h ∧ h < j := by omega
        rw [hh] at hs
        obtain ⟨q1, q2⟩ := HSE.out h (by omega) (by omega)
        have hbg := below_of_grown hg hB hBw
        have hcl := closure102 A n c f thr up b (cnt + 2001 - (j - i).toNat) gs gg gn sign h (eF h) k B wr hn (by omega) q2 (by omega) q1 (hR.below hbg (Nat.le_refl _)) HF.out hB hKr
          (by rw [hg.block _ (lt_of_blk H1.out) (by simp; exact n1)]; exact H1.out) (by rw [hg.block _ (lt_of_blk H2.out) (by simp; exact n2)]; exact H2.out) (by rw [hg.block _ (lt_of_blk H3.out) (by simp; exact n3)]; exact H3.out)
        generalize hd : decide (numX f up thr n (eF h) ≤ k) = d at *
        have HCL := Lib.hid hcl
        have HS2 := Lib.hid hs
        clear hcl hs hd q1
        go_wp2_with fail
        refine HCL.out.mono ?_
        rintro en w2 ⟨rfl, hK2, hg2⟩
        have hgg := hg.trans hg2
        clear hKr hg hg2 hbg
        cases d with
        | true =>
          have hs := HS2.out
          rw [if_pos rfl] at hs
          have HS3 := Lib.hid hs
          clear hs
          go_wp2_with fail
          go_roundg (j - (h + 1)).toNat
          case measure => have := HM.out; omega
          case rel => exact ⟨h + 1, j, fuel, by omega, by omega, by omega, rfl, by go_num, rfl, by omega, HS3.out, hK2.mono (by omega), hgg⟩
        | false =>
          have hs := HS2.out
          rw [if_neg (by decide)] at hs
          have HS3 := Lib.hid hs
          clear hs
          go_wp2_with fail
          go_roundg (h - i).toNat
          case measure => have := HM.out; omega
          case rel => exact ⟨i, h, fuel, by omega, by omega, by omega, rfl, rfl, rfl, by omega, HS3.out, hK2.mono (by omega), hgg⟩
      · have hs := HS.out
        rw [searchN, if_neg hlt] at hs
        subst hs
        go_wp2_with fail
        go_ret
        exact ⟨rfl, hKr.mono (by omega), hg⟩

/-- The first effect, as seen from a side, that is not excluded by the first k scores. -/
def endI (N : Int → Int) (up : Bool) (k : Int) : Int :=
  if up = true then searchN (fun h => decide (N (h - 1000) ≤ k)) 2002 0 2001 - 1000 else -(searchN (fun h => decide (N (-(h - 1000)) ≤ k)) 2002 0 2001 - 1000)

set_option maxRecDepth 100000 in
set_option maxHeartbeats 2000000 in
theorem end95 (A : Option Addr) (n c : Nat) (f : Nat → Scr) (thr : Int) (up : Bool) (b cnt : Nat) (k : Int) (B : Nat) (w : World) (hn : n ≤ 1048576) (hc : cnt ≤ 100000000)
    (hR : RowsAt w B 3 A n fun i => (f i).cells) (hf : ∀ k, k < n → -9223372036854775808 ≤ (f k).unit ∧ (f k).rng ≤ 9223372036854775807) (hB : B ≤ b) (hK : KnownOk w b cnt (numX f up thr n)) :
    Calls Try.prog 95 #[.agg #[.slice A n c, .int .i64 thr, .bool up, .map (some b)], .int .i64 k] w fun en w' => en = .returned (.int .i64 (endI (numX f up thr n) up k)) ∧ KnownOk w' b (cnt + 2001) (numX f up thr n) ∧ w.grownBy w' (some b) := by
  have hbl := hK.lt
  cases up with
  | true =>
    have hb3 : Below w.heap.size w (((w.alloc (.cells #[.slice A n c, .int .i64 thr, .bool true, .map (some b)] 132)).alloc (.cells #[.int .i64 k] 3)).alloc (.cells #[.int .i64 1] 3)) := (((Below.refl _ _).alloc (Nat.le_refl _) _).alloc (by simp) _).alloc (by simp; omega) _
    have g1 : (((w.alloc (.cells #[.slice A n c, .int .i64 thr, .bool true, .map (some b)] 132)).alloc (.cells #[.int .i64 k] 3)).alloc (.cells #[.int .i64 1] 3)).heap[w.heap.size]? = some (.cells #[.slice A n c, .int .i64 thr, .bool true, .map (some b)] 132 (0, 0)) := by
      rw [Below.heap_alloc _ _ _ (by simp; omega), Below.heap_alloc _ _ _ (by simp)]; exact heap_alloc_new w _
    have g2 : (((w.alloc (.cells #[.slice A n c, .int .i64 thr, .bool true, .map (some b)] 132)).alloc (.cells #[.int .i64 k] 3)).alloc (.cells #[.int .i64 1] 3)).heap[w.heap.size + 1]? = some (.cells #[.int .i64 k] 3 (0, 0)) := by
      rw [Below.heap_alloc _ _ _ (by simp)]
      have h := heap_alloc_new (w.alloc (.cells #[.slice A n c, .int .i64 thr, .bool true, .map (some b)] 132)) (.cells #[.int .i64 k] 3)
      rw [show (w.alloc (.cells #[.slice A n c, .int .i64 thr, .bool true, .map (some b)] 132)).heap.size = w.heap.size + 1 by simp] at h
      exact h
    have g3 : (((w.alloc (.cells #[.slice A n c, .int .i64 thr, .bool true, .map (some b)] 132)).alloc (.cells #[.int .i64 k] 3)).alloc (.cells #[.int .i64 1] 3)).heap[w.heap.size + 1 + 1]? = some (.cells #[.int .i64 1] 3 (0, 0)) := by
      have h := heap_alloc_new ((w.alloc (.cells #[.slice A n c, .int .i64 thr, .bool true, .map (some b)] 132)).alloc (.cells #[.int .i64 k] 3)) (.cells #[.int .i64 1] 3)
      rw [show ((w.alloc (.cells #[.slice A n c, .int .i64 thr, .bool true, .map (some b)] 132)).alloc (.cells #[.int .i64 k] 3)).heap.size = w.heap.size + 1 + 1 by simp] at h
      exact h
    have hse := search101 A n c f thr true b cnt w.heap.size (w.heap.size + 1 + 1) (w.heap.size + 1) 1 k (fun h => h - 1000) B (((w.alloc (.cells #[.slice A n c, .int .i64 thr, .bool true, .map (some b)] 132)).alloc (.cells #[.int .i64 k] 3)).alloc (.cells #[.int .i64 1] 3)) hn hc (fun h h1 h2 => by
        have e : IntKind.i64.wrap (1 * (h - 1000)) = 1 * (h - 1000) := IntWalk.i64_in _ (by omega)
        rw [e]
        refine ⟨?_, ?_, ?_⟩ <;> (try dsimp only) <;> omega) (hR.below (hb3.mono (by omega)) (Nat.le_refl _)) hf hB (by have := hb3.size; omega) (hK.below hb3) g1 g3 g2 (by omega) (by omega) (by omega)
    have hres := searchN_bd (fun h => decide (numX f true thr n ((fun h => h - 1000) h) ≤ k)) 2002 0 2001 (by omega)
    have hend : endI (numX f true thr n) true k = 1 * (searchN (fun h => decide (numX f true thr n ((fun h => h - 1000) h) ≤ k)) 2002 0 2001 - 1000) := by
      unfold endI
      simp
    generalize searchN (fun h => decide (numX f true thr n ((fun h => h - 1000) h) ≤ k)) 2002 0 2001 = R at *
    have HE := Lib.hid hend
    have HS := Lib.hid hse
    clear hend hse
    go_enter Try.func95, Try.ntmps95
    go_wp2_with fail
    generalize (((w.alloc (.cells #[.slice A n c, .int .i64 thr, .bool true, .map (some b)] 132)).alloc (.cells #[.int .i64 k] 3)).alloc (.cells #[.int .i64 1] 3)) = w3 at *
    refine HS.out.mono ?_
    rintro en w4 ⟨rfl, hK4, hg4⟩
    have g3' : w4.heap[w.heap.size + 1 + 1]? = _ := (hg4.block _ (lt_of_blk g3) (by simp; omega)).trans g3
    have y0 := cell_of_block g3' 0
    simp only [List.getElem?_toArray, List.getElem?_cons_zero] at y0
    clear HS g1 g2 g3 g3'
    go_wp2_with fail
    go_ret
    refine ⟨by rw [HE.out]; simp, hK4, (grown_of_below hb3).trans hg4⟩
  | false =>
    have hb3 : Below w.heap.size w (((w.alloc (.cells #[.slice A n c, .int .i64 thr, .bool false, .map (some b)] 132)).alloc (.cells #[.int .i64 k] 3)).alloc (.cells #[.int .i64 (-1)] 3)) := (((Below.refl _ _).alloc (Nat.le_refl _) _).alloc (by simp) _).alloc (by simp; omega) _
    have g1 : (((w.alloc (.cells #[.slice A n c, .int .i64 thr, .bool false, .map (some b)] 132)).alloc (.cells #[.int .i64 k] 3)).alloc (.cells #[.int .i64 (-1)] 3)).heap[w.heap.size]? = some (.cells #[.slice A n c, .int .i64 thr, .bool false, .map (some b)] 132 (0, 0)) := by
      rw [Below.heap_alloc _ _ _ (by simp; omega), Below.heap_alloc _ _ _ (by simp)]; exact heap_alloc_new w _
    have g2 : (((w.alloc (.cells #[.slice A n c, .int .i64 thr, .bool false, .map (some b)] 132)).alloc (.cells #[.int .i64 k] 3)).alloc (.cells #[.int .i64 (-1)] 3)).heap[w.heap.size + 1]? = some (.cells #[.int .i64 k] 3 (0, 0)) := by
      rw [Below.heap_alloc _ _ _ (by simp)]
      have h := heap_alloc_new (w.alloc (.cells #[.slice A n c, .int .i64 thr, .bool false, .map (some b)] 132)) (.cells #[.int .i64 k] 3)
      rw [show (w.alloc (.cells #[.slice A n c, .int .i64 thr, .bool false, .map (some b)] 132)).heap.size = w.heap.size + 1 by simp] at h
      exact h
    have g3 : (((w.alloc (.cells #[.slice A n c, .int .i64 thr, .bool false, .map (some b)] 132)).alloc (.cells #[.int .i64 k] 3)).alloc (.cells #[.int .i64 (-1)] 3)).heap[w.heap.size + 1 + 1]? = some (.cells #[.int .i64 (-1)] 3 (0, 0)) := by
      have h := heap_alloc_new ((w.alloc (.cells #[.slice A n c, .int .i64 thr, .bool false, .map (some b)] 132)).alloc (.cells #[.int .i64 k] 3)) (.cells #[.int .i64 (-1)] 3)
      rw [show ((w.alloc (.cells #[.slice A n c, .int .i64 thr, .bool false, .map (some b)] 132)).alloc (.cells #[.int .i64 k] 3)).heap.size = w.heap.size + 1 + 1 by simp] at h
      exact h
    have hse := search101 A n c f thr false b cnt w.heap.size (w.heap.size + 1 + 1) (w.heap.size + 1) (-1) k (fun h => -(h - 1000)) B (((w.alloc (.cells #[.slice A n c, .int .i64 thr, .bool false, .map (some b)] 132)).alloc (.cells #[.int .i64 k] 3)).alloc (.cells #[.int .i64 (-1)] 3)) hn hc (fun h h1 h2 => by
        have e : IntKind.i64.wrap ((-1) * (h - 1000)) = (-1) * (h - 1000) := IntWalk.i64_in _ (by omega)
        rw [e]
        refine ⟨?_, ?_, ?_⟩ <;> (try dsimp only) <;> omega) (hR.below (hb3.mono (by omega)) (Nat.le_refl _)) hf hB (by have := hb3.size; omega) (hK.below hb3) g1 g3 g2 (by omega) (by omega) (by omega)
    have hres := searchN_bd (fun h => decide (numX f false thr n ((fun h => -(h - 1000)) h) ≤ k)) 2002 0 2001 (by omega)
    have hend : endI (numX f false thr n) false k = (-1) * (searchN (fun h => decide (numX f false thr n ((fun h => -(h - 1000)) h) ≤ k)) 2002 0 2001 - 1000) := by
      unfold endI
      simp
    generalize searchN (fun h => decide (numX f false thr n ((fun h => -(h - 1000)) h) ≤ k)) 2002 0 2001 = R at *
    have HE := Lib.hid hend
    have HS := Lib.hid hse
    clear hend hse
    go_enter Try.func95, Try.ntmps95
    go_wp2_with fail
    generalize (((w.alloc (.cells #[.slice A n c, .int .i64 thr, .bool false, .map (some b)] 132)).alloc (.cells #[.int .i64 k] 3)).alloc (.cells #[.int .i64 (-1)] 3)) = w3 at *
    refine HS.out.mono ?_
    rintro en w4 ⟨rfl, hK4, hg4⟩
    have g3' : w4.heap[w.heap.size + 1 + 1]? = _ := (hg4.block _ (lt_of_blk g3) (by simp; omega)).trans g3
    have y0 := cell_of_block g3' 0
    simp only [List.getElem?_toArray, List.getElem?_cons_zero] at y0
    clear HS g1 g2 g3 g3'
    go_wp2_with fail
    go_ret
    refine ⟨by rw [HE.out]; simp, hK4, (grown_of_below hb3).trans hg4⟩
end Go.Proofs.Ytgonighpjpfmnaa
