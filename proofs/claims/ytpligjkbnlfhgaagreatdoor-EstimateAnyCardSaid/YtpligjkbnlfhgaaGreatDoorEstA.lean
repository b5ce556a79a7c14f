/- Estimates: lists of numbers in memory, fits, total, the methods of calc where nothing is bad, Mean, Covariance, Of. No statement is proved here. -/
import Derived.Test.YtpligjkbnlfhgaaGreatDoorDigM
import Derived.Test.YtpligjkbnlfhgaaGreatDoorEst1
import Derived.Deep.LoopGhost
import Derived.LoopN
import Derived.Lib.Hide
import Derived.Test.YtpligjkbnlfhgaaGreatDoorLw
namespace Go.Proofs.YtpligjkbnlfhgaaGreatDoor
open Go.RowKit

/-- Numbers behind a slice's address. -/
def RdI (w : World) (A : Option Addr) (n : Nat) (f : Nat → Int) : Prop :=
  0 < n → ∃ b off, A = some ⟨b, off, none⟩ ∧ b < w.heap.size ∧ ∀ i, i < n → w.cell? ⟨b, off + i, none⟩ = some (.int .i64 (f i))
theorem RdI.kept {w w' : World} {A : Option Addr} {n : Nat} {f : Nat → Int} (h : RdI w A n f) (hs : w.heap.size ≤ w'.heap.size) (hk : ∀ k, k < w.heap.size → w'.heap[k]? = w.heap[k]?) : RdI w' A n f := fun hn => by
  obtain ⟨b, off, hA, hb, hc⟩ := h hn
  refine ⟨b, off, hA, by omega, fun i hi => ?_⟩
  rw [← hc i hi]
  simp only [World.cell?, hk b hb]
theorem RdI.below {w w' : World} {A : Option Addr} {n : Nat} {f : Nat → Int} (h : RdI w A n f) (hb : Below w.heap.size w w') : RdI w' A n f := h.kept hb.size fun k hk => hb.block k hk
theorem RdI.le {w : World} {A : Option Addr} {n m : Nat} {f : Nat → Int} (h : RdI w A n f) (hm : m ≤ n) : RdI w A m f := fun h0 => by
  obtain ⟨b, off, hA, hb, hc⟩ := h (by omega)
  exact ⟨b, off, hA, hb, fun i hi => hc i (by omega)⟩
theorem RdI.zero {w : World} {A : Option Addr} {f : Nat → Int} : RdI w A 0 f := fun h => absurd h (by omega)

set_option maxRecDepth 100000 in
set_option maxHeartbeats 2000000 in
theorem total88 (A : Option Addr) (n c : Nat) (f : Nat → Int) (w : World) (hr : RdI w A n f) (hf : Fit f n) :
    Calls Tryz.prog 56 #[.slice A n c] w fun e w' => e = .returned (.int .i64 (sumF f n)) ∧ w = w' := by
  have hn5 := hf.1
  have hfi := Lib.hid hf
  clear hf
  go_enter Tryz.func56, Tryz.ntmps56
  go_wp2_with fail
  go_loopg [3, 5, 8] n (fun r s _ i wr => ∃ k : Nat, k ≤ n ∧ r = n - k ∧ i = .int .i64 k ∧ s = .int .i64 (sumF f k) ∧ w = wr)
  case atStart => exact ⟨0, by omega, by omega, rfl, rfl, rfl⟩
  case round =>
    obtain ⟨k, hk, hr', rfl, rfl, rfl⟩ := hrel
    have HR := Lib.hid hr'
    clear hr'
    have hs := sum_fit (f := f) (n := k) ⟨by omega, fun i hi => hfi.out.2 i (by omega)⟩
    by_cases hkn : k < n
    · have hknI : (k : Int) < n := by omega
      obtain ⟨b, off, rfl, hb, hcell⟩ := hr (by omega)
      have hx := hcell k hkn
      have hfk := hfi.out.2 k hkn
      have hsu : Hid (sumF f (k + 1) = sumF f k + f k) := Lib.hid rfl
      clear hcell
      go_wp2_with fail
      go_roundg (n - (k + 1))
      case measure => have := HR.out; omega
      case rel => exact ⟨k + 1, by omega, rfl, by go_num, by rw [hsu.out], rfl⟩
    · have hkn' : k = n := by omega
      have HK := Lib.hid hkn'
      clear hkn'
      go_wp2_with fail
      go_ret
      exact ⟨by rw [HK.out]; rfl, rfl⟩

/-- Lists of lists. -/
def okL (f : Nat → Int) (n : Nat) : Bool := decide (∀ i, i < n → -1048576 ≤ f i ∧ f i ≤ 1048576)
theorem okL_iff {f : Nat → Int} {n : Nat} : okL f n = true ↔ ∀ i, i < n → -1048576 ≤ f i ∧ f i ≤ 1048576 := by unfold okL; exact decide_eq_true_iff
/-- The slices in a row of memory. -/
def RdL (w : World) (A : Option Addr) (m : Nat) (As : Nat → Option Addr) (ns cs : Nat → Nat) (fs : Nat → Nat → Int) : Prop :=
  ∃ b off, A = some ⟨b, off, none⟩ ∧ b < w.heap.size ∧ ∀ j, j < m → w.cell? ⟨b, off + j, none⟩ = some (.slice (As j) (ns j) (cs j)) ∧ RdI w (As j) (ns j) (fs j) ∧ ns j ≤ cs j ∧ cs j ≤ maxLen
def fitsB (least m : Nat) (ns : Nat → Nat) (fs : Nat → Nat → Int) : Bool := decide (∀ j, j < m → ns j = ns 0 ∧ least ≤ ns j ∧ ns j ≤ 512 ∧ okL (fs j) (ns j) = true)

set_option maxRecDepth 100000 in
set_option maxHeartbeats 8000000 in
theorem fits85 (least m c : Nat) (A : Option Addr) (As : Nat → Option Addr) (ns cs : Nat → Nat) (fs : Nat → Nat → Int) (w : World) (hm0 : 0 < m) (hm : m ≤ 2) (hl : least ≤ 2) (hr : RdL w A m As ns cs fs) :
    Calls Tryz.prog 54 #[.int .i64 least, .slice A m c] w fun e w' => e = .returned (.bool (fitsB least m ns fs)) ∧ w = w' := by
  obtain ⟨F, hF⟩ : ∃ F, fitsB least m ns fs = F := ⟨_, rfl⟩
  rw [hF]
  have hF' : decide (∀ j, j < m → ns j = ns 0 ∧ least ≤ ns j ∧ ns j ≤ 512 ∧ okL (fs j) (ns j) = true) = F := hF
  have HF := Lib.hid hF'
  obtain ⟨b, off, rfl, hb, hcell⟩ := hr
  have HC := Lib.hid hcell
  have h00 := (hcell 0 hm0).1
  rw [Nat.add_zero] at h00
  have hn0 := (hcell 0 hm0).2.2
  unfold maxLen at hn0
  clear hcell hF hF'
  go_enter Tryz.func54, Tryz.ntmps54
  go_wp2_with fail
  go_loopg [6, 8, 11, 33, 34, 35] m (fun r _ _ i _ _ _ wr => ∃ k : Nat, k ≤ m ∧ r = m - k ∧ i = .int .i64 k ∧ Hid (∀ j, j < k → ns j = ns 0 ∧ least ≤ ns j ∧ ns j ≤ 512 ∧ okL (fs j) (ns j) = true) ∧ w = wr)
  case atStart => exact ⟨0, by omega, by omega, rfl, Lib.hid (fun j h => absurd h (by omega)), rfl⟩
  case round =>
    obtain ⟨k, hk, hr', rfl, hdone, rfl⟩ := hrel
    have HR := Lib.hid hr'
    clear hr'
    by_cases hkm : k < m
    · have hkI : (k : Int) < m := by omega
      obtain ⟨x1, x2, x3, x4⟩ := HC.out k hkm
      unfold maxLen at x4
      obtain ⟨nk, hnk⟩ : ∃ z, ns k = z := ⟨_, rfl⟩
      obtain ⟨n0, hn0'⟩ : ∃ z, ns 0 = z := ⟨_, rfl⟩
      have HNK := Lib.hid hnk
      have HN0 := Lib.hid hn0'
      rw [hnk] at x1 x2 x3
      rw [hn0'] at h00 hn0
      have HX := Lib.hid x2
      clear hnk hn0' x2
      have bad : (nk ≠ n0 ∨ nk < least ∨ 512 < nk ∨ okL (fs k) nk = false) → F = false := fun h => by
        rw [← HF.out]
        refine decide_eq_false fun hall => ?_
        have := hall k hkm
        rw [HNK.out, HN0.out] at this
        rcases h with h | h | h | h
        · exact h this.1
        · omega
        · omega
        · rw [h] at this; exact absurd this.2.2.2 (by decide)
      have HB := Lib.hid bad
      clear bad
      have endF : ∀ h : F = false, Ending.returned (.bool false) = .returned (.bool F) := fun h => by rw [h]
      by_cases h1 : nk = n0
      · subst h1
        by_cases h2 : nk < least
        · have h2I : (nk : Int) < (least : Int) := by omega
          have hF0 := HB.out (.inr (.inl h2))
          have HE := Lib.hid (endF hF0)
          clear hF0 endF
          go_wp2_with fail
          go_ret
          exact ⟨HE.out, rfl⟩
        · have h2I : ¬ (nk : Int) < (least : Int) := by omega
          by_cases h3 : 512 < nk
          · have hF0 := HB.out (.inr (.inr (.inl h3)))
            have HE := Lib.hid (endF hF0)
            clear hF0 endF
            go_wp2_with fail
            go_ret
            exact ⟨HE.out, rfl⟩
          · have h3B : decide ((512 : Int) < (nk : Int)) = false := decide_eq_false (by omega)
            rcases Nat.eq_zero_or_pos nk with h0 | h0
            · subst h0
              have hall : okL (fs k) 0 = true := okL_iff.2 fun i hi => absurd hi (by omega)
              have HALL := Lib.hid hall
              clear hall endF
              go_wp2_with fail
              refine wp_loop_rounds 1 ?_
              rw [rounds_succ]
              go_wp2_with fail
              go_roundg (m - (k + 1))
              case measure => have := HR.out; omega
              case rel =>
                refine ⟨k + 1, by omega, rfl, by go_num, Lib.hid (fun j hj => ?_), rfl⟩
                by_cases e : j = k
                · rw [e, HNK.out, HN0.out]; exact ⟨rfl, by omega, by omega, HALL.out⟩
                · exact hdone.out j (by omega)
            · obtain ⟨b', off', hA', hb', hcell'⟩ := HX.out h0
              have HXC := Lib.hid hcell'
              rw [hA'] at x1
              clear hcell'
              go_wp2_with fail
              go_loopg [8, 35] nk (fun r _ i wr => ∃ j : Nat, j ≤ nk ∧ r = nk - j ∧ i = .int .i64 j ∧ Hid (∀ i, i < j → -1048576 ≤ fs k i ∧ fs k i ≤ 1048576) ∧ w = wr)
              case atStart => exact ⟨0, by omega, by omega, rfl, Lib.hid (fun j h => absurd h (by omega)), rfl⟩
              case round =>
                obtain ⟨j, hj, hrj, rfl, hgood, rfl⟩ := hrel
                have HRj := Lib.hid hrj
                clear hrj
                by_cases hjn : j < nk
                · have hjI : (j : Int) < nk := by omega
                  have hx := HXC.out j hjn
                  obtain ⟨v, hv⟩ : ∃ v, fs k j = v := ⟨_, rfl⟩
                  rw [hv] at hx
                  have HV := Lib.hid hv
                  clear hv
                  have okF : (v < -1048576 ∨ 1048576 < v) → F = false := fun h => HB.out (.inr (.inr (.inr (by
                    cases ho : okL (fs k) nk with
                    | false => rfl
                    | true => have := okL_iff.1 ho j hjn; rw [HV.out] at this; omega))))
                  by_cases hv1 : v < -1048576
                  · have HE := Lib.hid (endF (okF (.inl hv1)))
                    clear okF endF
                    go_wp2_with fail
                    go_ret
                    exact ⟨HE.out, rfl⟩
                  · by_cases hv2 : 1048576 < v
                    · have HE := Lib.hid (endF (okF (.inr hv2)))
                      clear okF endF
                      go_wp2_with fail
                      go_ret
                      exact ⟨HE.out, rfl⟩
                    · clear okF
                      go_wp2_with fail
                      go_roundg (nk - (j + 1))
                      case measure => have := HRj.out; omega
                      case rel =>
                        refine ⟨j + 1, by omega, rfl, by go_num, Lib.hid (fun i hi => ?_), rfl⟩
                        by_cases e : i = j
                        · rw [e, HV.out]; omega
                        · exact hgood.out i (by omega)
                · have hall : okL (fs k) nk = true := okL_iff.2 fun i hi => hgood.out i (by omega)
                  have HALL := Lib.hid hall
                  clear hall endF
                  go_wp2_with fail
                  go_roundg (m - (k + 1))
                  case measure => have := HR.out; omega
                  case rel =>
                    refine ⟨k + 1, by omega, rfl, by go_num, Lib.hid (fun j hj => ?_), rfl⟩
                    by_cases e : j = k
                    · rw [e, HNK.out, HN0.out]; exact ⟨rfl, by omega, by omega, HALL.out⟩
                    · exact hdone.out j (by omega)
      · have hF0 := HB.out (.inl h1)
        have h1I : ¬ (nk : Int) = (n0 : Int) := by omega
        have HE := Lib.hid (endF hF0)
        clear hF0 endF
        go_wp2_with fail
        go_ret
        exact ⟨HE.out, rfl⟩
    · have hkm' : k = m := by omega
      have hF1 : F = true := by
        rw [← HF.out]
        exact decide_eq_true fun j hj => hdone.out j (by omega)
      clear hkm'
      go_wp2_with fail
      go_ret
      exact ⟨by rw [hF1]; rfl, rfl⟩

set_option maxRecDepth 100000 in
set_option maxHeartbeats 2000000 in
theorem try131 (p : Option Addr) (A B : ByteArray) (w : World) :
    Calls Tryz.prog 70 #[.pointer p, .agg #[.string A, .string B], .bool true] w fun e w' => e = .returned (.agg #[.string A, .string B]) ∧ Below w.heap.size w w' := by
  obtain ⟨hbW, g0, g1⟩ := allocs2' w #[.string A, .string B] #[.string ⟨#[]⟩, .string ⟨#[]⟩] 26 26
  have k0 := cells2 g0
  have k1 := cells2 g1
  have f1 := free_of_block g1
  have hbe := (allocs2' w #[.string A, .string B] #[.string A, .string B] 26 26).1
  clear hbW g0 g1
  go_enter Tryz.func70, Tryz.ntmps70
  go_wp2_with fail
  exact bodyPost_ret (v := .agg #[.string A, .string B]) (by simp [results, Tryz.results70, go_sem]) rfl ⟨rfl, hbe⟩

/-- A call that gives this fraction and makes memory. -/
def Gives (f : FuncId) (args : Array Value) (A B : ByteArray) : Prop := ∀ w, Calls Tryz.prog f args w fun e w' => e = .returned (.agg #[.string A, .string B]) ∧ Below w.heap.size w w'

set_option maxRecDepth 100000 in
set_option maxHeartbeats 2000000 in
theorem of87 (p : Option Addr) (a b : Int) (A B : ByteArray) (h : ∀ w, Calls Tryz.prog 55 #[.int .i64 a, .int .i64 b] w fun e w' => e = .returned (.tuple #[.agg #[.string A, .string B], .bool true]) ∧ Below w.heap.size w w') :
    Gives 60 #[.pointer p, .int .i64 a, .int .i64 b] A B := fun w => by
  have g0 := heap_alloc_new w (.cells #[.string ⟨#[]⟩, .string ⟨#[]⟩] 26)
  have hbW : Below w.heap.size w (w.alloc (.cells #[.string ⟨#[]⟩, .string ⟨#[]⟩] 26)) := (Below.refl _ _).alloc (Nat.le_refl _) _
  have H := Lib.hid h
  clear h
  go_enter Tryz.func60, Tryz.ntmps60
  go_wp2_with fail
  generalize w.alloc (.cells #[.string ⟨#[]⟩, .string ⟨#[]⟩] 26) = W at *
  refine (H.out W).mono ?_
  rintro e w1 ⟨rfl, hb⟩
  go_wp2_with fail
  refine (try131 _ A B _).mono ?_
  rintro e w2 ⟨rfl, hb2⟩
  have hst := below_trans' hb hb.size hb2
  have G := blk_below hst g0
  have z0 := free_of_block G
  have z1 := cells2 G
  have hB := below_trans' hbW hbW.size hst
  obtain ⟨y0, y1⟩ := ret2 (A := A) (B := B) G
  have hbe := below_sets2 hB (Nat.le_refl _) (.string A) (.string B)
  go_wp2_with fail
  exact bodyPost_ret (v := .agg #[.string A, .string B]) (by simp [results, Tryz.results60, go_sem, y0, y1]) rfl ⟨rfl, hbe⟩

set_option maxRecDepth 100000 in
set_option maxHeartbeats 2000000 in
theorem add98 (p : Option Addr) (A1 B1 A2 B2 A B : ByteArray) (h : ∀ w, Calls Tryz.prog 72 #[.agg #[.string A1, .string B1], .agg #[.string A2, .string B2]] w fun e w' => e = .returned (.tuple #[.agg #[.string A, .string B], .bool true]) ∧ Below w.heap.size w w') :
    Gives 34 #[.pointer p, .agg #[.string A1, .string B1], .agg #[.string A2, .string B2]] A B := fun w => by
  obtain ⟨hbW, g0, g1, g2⟩ := allocs3 w #[.string A1, .string B1] #[.string A2, .string B2] #[.string ⟨#[]⟩, .string ⟨#[]⟩] 26 26 26
  have k0 := cells2 g0
  have k1 := cells2 g1
  have H := Lib.hid h
  clear h
  go_enter Tryz.func34, Tryz.ntmps34
  go_wp2_with fail
  generalize ((w.alloc (.cells #[.string A1, .string B1] 26)).alloc (.cells #[.string A2, .string B2] 26)).alloc (.cells #[.string ⟨#[]⟩, .string ⟨#[]⟩] 26) = W at *
  refine (H.out W).mono ?_
  rintro e w1 ⟨rfl, hb⟩
  go_wp2_with fail
  refine (try131 _ A B _).mono ?_
  rintro e w2 ⟨rfl, hb2⟩
  have hst := below_trans' hb hb.size hb2
  have G := blk_below hst g2
  have z0 := free_of_block G
  have z1 := cells2 G
  have hB := below_trans' hbW hbW.size hst
  obtain ⟨y0, y1⟩ := ret2 (A := A) (B := B) G
  have hbe := below_sets2 hB (show w.heap.size ≤ w.heap.size + 1 + 1 by omega) (.string A) (.string B)
  clear k0 k1
  go_wp2_with fail
  exact bodyPost_ret (v := .agg #[.string A, .string B]) (by simp [results, Tryz.results34, go_sem, y0, y1]) rfl ⟨rfl, hbe⟩

set_option maxRecDepth 100000 in
set_option maxHeartbeats 2000000 in
theorem sub96 (p : Option Addr) (A1 B1 A2 B2 A B : ByteArray) (h : ∀ w, Calls Tryz.prog 71 #[.agg #[.string A1, .string B1], .agg #[.string A2, .string B2]] w fun e w' => e = .returned (.tuple #[.agg #[.string A, .string B], .bool true]) ∧ Below w.heap.size w w') :
    Gives 33 #[.pointer p, .agg #[.string A1, .string B1], .agg #[.string A2, .string B2]] A B := fun w => by
  obtain ⟨hbW, g0, g1, g2⟩ := allocs3 w #[.string A1, .string B1] #[.string A2, .string B2] #[.string ⟨#[]⟩, .string ⟨#[]⟩] 26 26 26
  have k0 := cells2 g0
  have k1 := cells2 g1
  have H := Lib.hid h
  clear h
  go_enter Tryz.func33, Tryz.ntmps33
  go_wp2_with fail
  generalize ((w.alloc (.cells #[.string A1, .string B1] 26)).alloc (.cells #[.string A2, .string B2] 26)).alloc (.cells #[.string ⟨#[]⟩, .string ⟨#[]⟩] 26) = W at *
  refine (H.out W).mono ?_
  rintro e w1 ⟨rfl, hb⟩
  go_wp2_with fail
  refine (try131 _ A B _).mono ?_
  rintro e w2 ⟨rfl, hb2⟩
  have hst := below_trans' hb hb.size hb2
  have G := blk_below hst g2
  have z0 := free_of_block G
  have z1 := cells2 G
  have hB := below_trans' hbW hbW.size hst
  obtain ⟨y0, y1⟩ := ret2 (A := A) (B := B) G
  have hbe := below_sets2 hB (show w.heap.size ≤ w.heap.size + 1 + 1 by omega) (.string A) (.string B)
  clear k0 k1
  go_wp2_with fail
  exact bodyPost_ret (v := .agg #[.string A, .string B]) (by simp [results, Tryz.results33, go_sem, y0, y1]) rfl ⟨rfl, hbe⟩

set_option maxRecDepth 100000 in
set_option maxHeartbeats 2000000 in
theorem mul97 (p : Option Addr) (A1 B1 A2 B2 A B : ByteArray) (h : ∀ w, Calls Tryz.prog 98 #[.agg #[.string A1, .string B1], .agg #[.string A2, .string B2]] w fun e w' => e = .returned (.tuple #[.agg #[.string A, .string B], .bool true]) ∧ Below w.heap.size w w') :
    Gives 61 #[.pointer p, .agg #[.string A1, .string B1], .agg #[.string A2, .string B2]] A B := fun w => by
  obtain ⟨hbW, g0, g1, g2⟩ := allocs3 w #[.string A1, .string B1] #[.string A2, .string B2] #[.string ⟨#[]⟩, .string ⟨#[]⟩] 26 26 26
  have k0 := cells2 g0
  have k1 := cells2 g1
  have H := Lib.hid h
  clear h
  go_enter Tryz.func61, Tryz.ntmps61
  go_wp2_with fail
  generalize ((w.alloc (.cells #[.string A1, .string B1] 26)).alloc (.cells #[.string A2, .string B2] 26)).alloc (.cells #[.string ⟨#[]⟩, .string ⟨#[]⟩] 26) = W at *
  refine (H.out W).mono ?_
  rintro e w1 ⟨rfl, hb⟩
  go_wp2_with fail
  refine (try131 _ A B _).mono ?_
  rintro e w2 ⟨rfl, hb2⟩
  have hst := below_trans' hb hb.size hb2
  have G := blk_below hst g2
  have z0 := free_of_block G
  have z1 := cells2 G
  have hB := below_trans' hbW hbW.size hst
  obtain ⟨y0, y1⟩ := ret2 (A := A) (B := B) G
  have hbe := below_sets2 hB (show w.heap.size ≤ w.heap.size + 1 + 1 by omega) (.string A) (.string B)
  clear k0 k1
  go_wp2_with fail
  exact bodyPost_ret (v := .agg #[.string A, .string B]) (by simp [results, Tryz.results61, go_sem, y0, y1]) rfl ⟨rfl, hbe⟩

set_option maxRecDepth 100000 in
set_option maxHeartbeats 2000000 in
theorem div89 (p : Option Addr) (A1 B1 A2 B2 A B : ByteArray) (h : ∀ w, Calls Tryz.prog 99 #[.agg #[.string A1, .string B1], .agg #[.string A2, .string B2]] w fun e w' => e = .returned (.tuple #[.agg #[.string A, .string B], .bool true]) ∧ Below w.heap.size w w') :
    Gives 62 #[.pointer p, .agg #[.string A1, .string B1], .agg #[.string A2, .string B2]] A B := fun w => by
  obtain ⟨hbW, g0, g1, g2⟩ := allocs3 w #[.string A1, .string B1] #[.string A2, .string B2] #[.string ⟨#[]⟩, .string ⟨#[]⟩] 26 26 26
  have k0 := cells2 g0
  have k1 := cells2 g1
  have H := Lib.hid h
  clear h
  go_enter Tryz.func62, Tryz.ntmps62
  go_wp2_with fail
  generalize ((w.alloc (.cells #[.string A1, .string B1] 26)).alloc (.cells #[.string A2, .string B2] 26)).alloc (.cells #[.string ⟨#[]⟩, .string ⟨#[]⟩] 26) = W at *
  refine (H.out W).mono ?_
  rintro e w1 ⟨rfl, hb⟩
  go_wp2_with fail
  refine (try131 _ A B _).mono ?_
  rintro e w2 ⟨rfl, hb2⟩
  have hst := below_trans' hb hb.size hb2
  have G := blk_below hst g2
  have z0 := free_of_block G
  have z1 := cells2 G
  have hB := below_trans' hbW hbW.size hst
  obtain ⟨y0, y1⟩ := ret2 (A := A) (B := B) G
  have hbe := below_sets2 hB (show w.heap.size ≤ w.heap.size + 1 + 1 by omega) (.string A) (.string B)
  clear k0 k1
  go_wp2_with fail
  exact bodyPost_ret (v := .agg #[.string A, .string B]) (by simp [results, Tryz.results62, go_sem, y0, y1]) rfl ⟨rfl, hbe⟩

/-! ### In numbers -/
theorem of_C {a b : Int} (hb : b ≠ 0) (ha1 : -9223372036854775808 ≤ a) (ha2 : a ≤ 9223372036854775807) (hb1 : -9223372036854775808 ≤ b) (hb2 : b ≤ 9223372036854775807) (hf : fitsR (frQ a b)) :
    ∃ A B, Tx A B (frQ a b) ∧ ∀ p, Gives 60 #[.pointer p, .int .i64 a, .int .i64 b] A B := by
  obtain ⟨A, B, h1, h2⟩ := txV_tx hf
  refine ⟨A, B, h2, fun p => of87 p a b A B fun w => ?_⟩
  refine (of21 a b w ha1 ha2 hb1 hb2).mono ?_
  rintro e w' ⟨rfl, hb⟩
  have e : ofT a b = wrR (frQ a b) := by
    rcases Int.lt_or_gt_of_ne ‹b ≠ 0› with h | h
    · exact ofT_fr_neg h
    · exact ofT_fr h
  rw [e]
  exact ⟨by rw [h1], hb⟩
theorem of_V (p : Option Addr) {a b : Int} {z : Rat} {A B : ByteArray} (hT : Tx A B z) (hz : frQ a b = z) (hb : b ≠ 0) (ha1 : -9223372036854775808 ≤ a) (ha2 : a ≤ 9223372036854775807) (hb1 : -9223372036854775808 ≤ b) (hb2 : b ≤ 9223372036854775807) :
    Gives 60 #[.pointer p, .int .i64 a, .int .i64 b] A B := by
  subst hz
  obtain ⟨A', B', h1, h2⟩ := of_C hb ha1 ha2 hb1 hb2 hT.1
  obtain ⟨rfl, rfl⟩ := hT.inj h1
  exact h2 p
theorem bin_det {f : FuncId} {A B C D : ByteArray} {z : Rat} (hf : fitsR z) (h : ∀ w, Calls Tryz.prog f #[.agg #[.string A, .string B], .agg #[.string C, .string D]] w fun e w' => ∃ A' B', e = .returned (.tuple #[.agg #[.string A', .string B'], .bool true]) ∧ Tx A' B' z ∧ Below w.heap.size w w') :
    ∃ A' B', Tx A' B' z ∧ ∀ w, Calls Tryz.prog f #[.agg #[.string A, .string B], .agg #[.string C, .string D]] w fun e w' => e = .returned (.tuple #[.agg #[.string A', .string B'], .bool true]) ∧ Below w.heap.size w w' := by
  obtain ⟨A', B', _, hT⟩ := txV_tx hf
  refine ⟨A', B', hT, fun w => (h w).mono ?_⟩
  rintro e w' ⟨A2, B2, rfl, hT2, hb⟩
  obtain ⟨rfl, rfl⟩ := hT.inj hT2
  exact ⟨rfl, hb⟩
theorem add_C {A1 B1 A2 B2 : ByteArray} {x y : Rat} (h : Tx A1 B1 x) (g : Tx A2 B2 y) (hf : fitsR (x + y)) : ∃ A B, Tx A B (x + y) ∧ ∀ p, Gives 34 #[.pointer p, .agg #[.string A1, .string B1], .agg #[.string A2, .string B2]] A B := by
  obtain ⟨A, B, hT, hC⟩ := bin_det hf fun w => addX w h g hf
  exact ⟨A, B, hT, fun p => add98 p _ _ _ _ A B hC⟩
theorem sub_C {A1 B1 A2 B2 : ByteArray} {x y : Rat} (h : Tx A1 B1 x) (g : Tx A2 B2 y) (hf : fitsR (x - y)) : ∃ A B, Tx A B (x - y) ∧ ∀ p, Gives 33 #[.pointer p, .agg #[.string A1, .string B1], .agg #[.string A2, .string B2]] A B := by
  obtain ⟨A, B, hT, hC⟩ := bin_det hf fun w => subX w h g hf
  exact ⟨A, B, hT, fun p => sub96 p _ _ _ _ A B hC⟩
theorem mul_C {A1 B1 A2 B2 : ByteArray} {x y : Rat} (h : Tx A1 B1 x) (g : Tx A2 B2 y) (hf : fitsR (x * y)) : ∃ A B, Tx A B (x * y) ∧ ∀ p, Gives 61 #[.pointer p, .agg #[.string A1, .string B1], .agg #[.string A2, .string B2]] A B := by
  obtain ⟨A, B, hT, hC⟩ := bin_det hf fun w => mulX w h g hf
  exact ⟨A, B, hT, fun p => mul97 p _ _ _ _ A B hC⟩
theorem divX {A B C D : ByteArray} {x y : Rat} (w : World) (h : Tx A B x) (g : Tx C D y) (hy : y ≠ 0) (hf : fitsR (x / y)) :
    Calls Tryz.prog 99 #[.agg #[.string A, .string B], .agg #[.string C, .string D]] w fun e w' => ∃ A' B', e = .returned (.tuple #[.agg #[.string A', .string B'], .bool true]) ∧ Tx A' B' (x / y) ∧ Below w.heap.size w w' :=
  bin_tx (F := fun x y => if y = 0 then none else some (x / y)) h g (if_neg hy) hf (div30 A B C D w h.lens.1 h.lens.2 g.lens.1 g.lens.2)
theorem div_C {A1 B1 A2 B2 : ByteArray} {x y : Rat} (h : Tx A1 B1 x) (g : Tx A2 B2 y) (hy : y ≠ 0) (hf : fitsR (x / y)) : ∃ A B, Tx A B (x / y) ∧ ∀ p, Gives 62 #[.pointer p, .agg #[.string A1, .string B1], .agg #[.string A2, .string B2]] A B := by
  obtain ⟨A, B, hT, hC⟩ := bin_det hf fun w => divX w h g hy hf
  exact ⟨A, B, hT, fun p => div89 p _ _ _ _ A B hC⟩

set_option maxRecDepth 100000 in
set_option maxHeartbeats 4000000 in
theorem cov90 (p : Option Addr) (A B : Option Addr) (n ca cb : Nat) (f g : Nat → Int) (X Y : ByteArray) (w : World) (hf : Fit f n) (hg : Fit g n) (h2 : 2 ≤ n) (hT : Tx X Y (covQ f g n)) (r1 : RdI w A n f) (r2 : RdI w B n g) :
    Calls Tryz.prog 59 #[.pointer p, .slice A n ca, .slice B n cb] w fun e w' => e = .returned (.agg #[.string X, .string Y]) ∧ Below w.heap.size w w' := by
  have g0 := heap_alloc_new w (.cells #[.string ⟨#[]⟩, .string ⟨#[]⟩] 26)
  have hbW : Below w.heap.size w (w.alloc (.cells #[.string ⟨#[]⟩, .string ⟨#[]⟩] 26)) := (Below.refl _ _).alloc (Nat.le_refl _) _
  have hn5 := hf.1
  have q1 := r1.below hbW
  have q2 := r2.below hbW
  have HF := Lib.hid hf
  have HG := Lib.hid hg
  clear hf hg r1 r2
  go_enter Tryz.func59, Tryz.ntmps59
  go_wp2_with fail
  generalize w.alloc (.cells #[.string ⟨#[]⟩, .string ⟨#[]⟩] 26) = W at *
  obtain ⟨b1, o1, rfl, hb1, hc1⟩ := q1 (by omega)
  obtain ⟨b2, o2, rfl, hb2, hc2⟩ := q2 (by omega)
  have H1 := Lib.hid hc1
  have H2 := Lib.hid hc2
  have Q1 := Lib.hid q1
  have Q2 := Lib.hid q2
  clear hc1 hc2 q1 q2
  go_loopg [8, 9, 10, 15] n (fun r s _ _ i wr => ∃ k : Nat, k ≤ n ∧ r = n - k ∧ i = .int .i64 k ∧ s = .int .i64 (dotF f g k) ∧ W = wr)
  case atStart => exact ⟨0, by omega, by omega, rfl, rfl, rfl⟩
  case round =>
    obtain ⟨k, hk, hr', rfl, rfl, rfl⟩ := hrel
    have HR := Lib.hid hr'
    clear hr'
    have hs := dot_fit (f := f) (g := g) (n := k) ⟨by omega, fun i hi => HF.out.2 i (by omega)⟩ ⟨by omega, fun i hi => HG.out.2 i (by omega)⟩
    by_cases hkn : k < n
    · have hknI : (k : Int) < n := by omega
      have hx := H1.out k hkn
      have hy := H2.out k hkn
      have hm := mulI_bd (a := 1048576) (b := 1048576) (by decide) (HF.out.2 k hkn) (HG.out.2 k hkn)
      have hsu : Hid (dotF f g (k + 1) = dotF f g k + f k * g k) := Lib.hid rfl
      go_wp2_with fail
      go_roundg (n - (k + 1))
      case measure => have := HR.out; omega
      case rel => exact ⟨k + 1, by omega, rfl, by go_num, by rw [hsu.out], rfl⟩
    · have hkn' : k = n := by omega
      subst hkn'
      have hcf := cov_fit HF.out HG.out
      obtain ⟨n1, n2⟩ := nn_fit hn5 h2
      obtain ⟨e1, e2, e3, e4, e5, e6⟩ := hcf
      have e1' := e1
      have e2' := e2
      unfold covI at e1 e2
      have hS1 := sum_fit HF.out
      have hS2 := sum_fit HG.out
      go_wp2_with fail
      refine (total88 _ k ca f _ Q1.out HF.out).mono ?_
      rintro e w' ⟨rfl, rfl⟩
      go_wp2_with fail
      refine (total88 _ k cb g _ Q2.out HG.out).mono ?_
      rintro e w' ⟨rfl, rfl⟩
      go_wp2_with fail
      refine (of_V p hT rfl (by omega) (by omega) (by omega) (by omega) (by omega) _).mono ?_
      rintro e w2 ⟨rfl, hb⟩
      have G := blk_below hb g0
      have z0 := free_of_block G
      have z1 := cells2 G
      have hB := below_trans' hbW hbW.size hb
      obtain ⟨y0, y1⟩ := ret2 (A := X) (B := Y) G
      have hbe := below_sets2 hB (Nat.le_refl _) (.string X) (.string Y)
      go_wp2_with fail
      exact bodyPost_ret (v := .agg #[.string X, .string Y]) (by simp [results, Tryz.results59, go_sem, y0, y1]) rfl ⟨rfl, hbe⟩

theorem fits_one {l n : Nat} {f : Nat → Int} : fitsB l 1 (fun _ => n) (fun _ => f) = true ↔ l ≤ n ∧ Fit f n := by
  unfold fitsB Fit
  rw [decide_eq_true_iff]
  constructor
  · intro h
    have := h 0 (by omega)
    exact ⟨this.2.1, this.2.2.1, okL_iff.1 this.2.2.2⟩
  · intro h j _
    exact ⟨rfl, h.1, h.2.1, okL_iff.2 h.2.2⟩
theorem fits_two {l n m : Nat} {f g : Nat → Int} : fitsB l 2 (fun j => if j = 0 then n else m) (fun j => if j = 0 then f else g) = true ↔ m = n ∧ l ≤ n ∧ Fit f n ∧ Fit g n := by
  unfold fitsB Fit
  rw [decide_eq_true_iff]
  constructor
  · intro h
    have h0 := h 0 (by omega)
    have h1 := h 1 (by omega)
    simp only [if_pos, Nat.one_ne_zero, if_false] at h0 h1
    obtain ⟨e, h2, h3, h4⟩ := h1
    subst e
    exact ⟨rfl, h0.2.1, ⟨h0.2.2.1, okL_iff.1 h0.2.2.2⟩, h3, okL_iff.1 h4⟩
  · rintro ⟨rfl, h2, h3, h4⟩ j hj
    rcases Nat.eq_zero_or_pos j with rfl | hp
    · simp only [if_pos]; exact ⟨trivial, h2, h3.1, okL_iff.2 h3.2⟩
    · have e : ¬ j = 0 := by omega
      simp only [e, if_false, if_pos]; exact ⟨trivial, h2, h4.1, okL_iff.2 h4.2⟩

/-- One list, two lists behind a new row. -/
theorem rdl_one {w : World} {g n c : Nat} {A : Option Addr} {f : Nat → Int} {t : TypeId} (h : w.heap[g]? = some (.cells #[.slice A n c] t (0, 0))) (hr : RdI w A n f) (hc : n ≤ c) (hcm : c ≤ maxLen) :
    RdL w (some ⟨g, 0, none⟩) 1 (fun _ => A) (fun _ => n) (fun _ => c) (fun _ => f) :=
  ⟨g, 0, rfl, lt_of_blk h, fun j hj => ⟨by rw [show j = 0 by omega]; exact cell_of_block h 0, hr, hc, hcm⟩⟩
theorem rdl_two {w : World} {g n m c d : Nat} {A B : Option Addr} {f k : Nat → Int} {t : TypeId} (h : w.heap[g]? = some (.cells #[.slice A n c, .slice B m d] t (0, 0))) (hr : RdI w A n f) (hr2 : RdI w B m k) (hc : n ≤ c) (hcm : c ≤ maxLen) (hd : m ≤ d) (hdm : d ≤ maxLen) :
    RdL w (some ⟨g, 0, none⟩) 2 (fun j => if j = 0 then A else B) (fun j => if j = 0 then n else m) (fun j => if j = 0 then c else d) (fun j => if j = 0 then f else k) := by
  refine ⟨g, 0, rfl, lt_of_blk h, fun j hj => ?_⟩
  rcases Nat.eq_zero_or_pos j with rfl | hp
  · simp only [if_pos]; exact ⟨cell_of_block h 0, hr, hc, hcm⟩
  · have e : j = 1 := by omega
    subst e
    simp only [Nat.one_ne_zero, if_false]; exact ⟨cell_of_block h 1, hr2, hd, hdm⟩

/-- A list of numbers, as a value. -/
structure IntsV (w : World) (A : Option Addr) (n c : Nat) (f : Nat → Int) : Prop where
  rd : RdI w A n f
  le : n ≤ c
  max : c ≤ maxLen
theorem IntsV.below {w w' : World} {A : Option Addr} {n c : Nat} {f : Nat → Int} (h : IntsV w A n c f) (hb : Below w.heap.size w w') : IntsV w' A n c f := ⟨h.rd.below hb, h.le, h.max⟩

set_option maxRecDepth 100000 in
set_option maxHeartbeats 4000000 in
theorem mean44 (A : Option Addr) (n c : Nat) (f : Nat → Int) (X Y : ByteArray) (w : World) (hl : IntsV w A n c f) (hf : Fit f n) (h1 : 1 ≤ n) (hT : Tx X Y (meanQ f n)) :
    Calls Tryz.prog 15 #[.slice A n c] w fun e w' => e = .returned (.tuple #[.agg #[.string X, .string Y], .bool true]) ∧ Below w.heap.size w w' := by
  obtain ⟨hbW, g0, g1⟩ := allocs2' w #[.string ⟨#[]⟩, .string ⟨#[]⟩] #[.slice A n c] 26 31
  have hl1 := hl.below hbW
  have hfit := fits_one.2 ⟨h1, hf⟩
  have hC := fits85 1 1 1 _ _ _ _ _ _ (by decide) (by decide) (by decide) (rdl_one g1 hl1.rd hl1.le hl1.max)
  rw [hfit] at hC
  have hn5 := hf.1
  have hs := sum_fit hf
  have HF := Lib.hid hf
  have HC := Lib.hid hC
  have hof := fun w => of21 (sumF f n) n w (by omega) (by omega) (by omega) (by omega)
  rw [ofT_fr (by omega)] at hof
  have hof' : ∀ w, Calls Tryz.prog 55 #[.int .i64 (sumF f n), .int .i64 n] w fun e w' => e = .returned (.tuple #[.agg #[.string X, .string Y], .bool true]) ∧ Below w.heap.size w w' := fun w => by
    obtain ⟨X', Y', e1, e2⟩ := txV_tx (x := frQ (sumF f n) n) hT.1
    obtain ⟨rfl, rfl⟩ := hT.inj e2
    rw [← e1]; exact hof w
  have HO := Lib.hid hof'
  clear hf hC hof hof' hfit
  go_enter Tryz.func15, Tryz.ntmps15
  go_wp2_with fail
  generalize (w.alloc (.cells #[.string ⟨#[]⟩, .string ⟨#[]⟩] 26)).alloc (.cells #[.slice A n c] 31) = W at *
  refine HC.out.mono ?_
  rintro e w' ⟨rfl, rfl⟩
  go_wp2_with fail
  refine (total88 _ n c f _ hl1.rd HF.out).mono ?_
  rintro e w' ⟨rfl, rfl⟩
  go_wp2_with fail
  refine (HO.out _).mono ?_
  rintro e w2 ⟨rfl, hb⟩
  have G := blk_below hb g0
  have z0 := free_of_block G
  have z1 := cells2 G
  have hB := below_trans' hbW hbW.size hb
  obtain ⟨y0, y1⟩ := ret2 (A := X) (B := Y) G
  have hbe := below_sets2 hB (Nat.le_refl _) (.string X) (.string Y)
  go_wp2_with fail
  exact bodyPost_ret (v := .tuple #[.agg #[.string X, .string Y], .bool true]) (by simp [results, Tryz.results15, go_sem, y0, y1]) rfl ⟨rfl, hbe⟩

/-! ### The ends: result, estimate -/
theorem cell1 {w : World} {g : Nat} {v : Value} {t : TypeId} (h : w.heap[g]? = some (.cells #[v] t (0, 0))) : w.cell? ⟨g, 0, none⟩ = some v := cell_of_block h 0
set_option maxRecDepth 100000 in
set_option maxHeartbeats 2000000 in
theorem result95 (g : Nat) (A B : ByteArray) (w : World) (hg : w.heap[g]? = some (.cells #[.bool false] 64 (0, 0))) :
    Calls Tryz.prog 58 #[.pointer (some ⟨g, 0, none⟩), .agg #[.string A, .string B]] w fun e w' => e = .returned (.tuple #[.agg #[.string A, .string B], .bool true]) ∧ Below w.heap.size w w' := by
  obtain ⟨hbW, g0, g1⟩ := allocs2' w #[.string A, .string B] #[.string ⟨#[]⟩, .string ⟨#[]⟩] 26 26
  have k0 := cells2 g0
  have k1 := cells2 g1
  have f1 := free_of_block g1
  have kg := cell1 (blk_below hbW hg)
  have hbe := (allocs2' w #[.string A, .string B] #[.string A, .string B] 26 26).1
  clear hbW g0 g1
  go_enter Tryz.func58, Tryz.ntmps58
  go_wp2_with fail
  exact bodyPost_ret (v := .tuple #[.agg #[.string A, .string B], .bool true]) (by simp [results, Tryz.results58, go_sem]) rfl ⟨rfl, hbe⟩

theorem cells5 {w : World} {g : Nat} {a b c d e : Value} {t : TypeId} (h : w.heap[g]? = some (.cells #[a, b, c, d, e] t (0, 0))) :
    w.cell? ⟨g, 0, none⟩ = some a ∧ w.cell? ⟨g, 1, none⟩ = some b ∧ w.cell? ⟨g, 2, none⟩ = some c ∧ w.cell? ⟨g, 3, none⟩ = some d ∧ w.cell? ⟨g, 4, none⟩ = some e :=
  ⟨cell_of_block h 0, cell_of_block h 1, cell_of_block h 2, cell_of_block h 3, cell_of_block h 4⟩
theorem set5 {w : World} {g : Nat} {a b c d e : Value} {t : TypeId} (h : w.heap[g]? = some (.cells #[a, b, c, d, e] t (0, 0))) (a' b' c' d' e' : Value) :
    (((((w.setCell ⟨g, 0, none⟩ a').setCell ⟨g, 1, none⟩ b').setCell ⟨g, 2, none⟩ c').setCell ⟨g, 3, none⟩ d').setCell ⟨g, 4, none⟩ e').heap[g]? = some (.cells #[a', b', c', d', e'] t (0, 0)) :=
  block_set (block_set (block_set (block_set (block_set h 0 a') 1 b') 2 c') 3 d') 4 e'
theorem below_sets5 {n z : Nat} {w wv : World} (h : Below n w wv) (hz : n ≤ z) (a b c d e : Value) : Below n w (((((wv.setCell ⟨z, 0, none⟩ a).setCell ⟨z, 1, none⟩ b).setCell ⟨z, 2, none⟩ c).setCell ⟨z, 3, none⟩ d).setCell ⟨z, 4, none⟩ e) :=
  ((((h.setCell hz _).setCell hz _).setCell hz _).setCell hz _).setCell hz _
abbrev estV (n : Int) (A B C D : ByteArray) : Value := .agg #[.int .i64 n, .string A, .string B, .string C, .string D]
set_option maxRecDepth 100000 in
set_option maxHeartbeats 2000000 in
theorem estimate86 (g : Nat) (n : Int) (A B C D : ByteArray) (w : World) (hg : w.heap[g]? = some (.cells #[.bool false] 64 (0, 0))) :
    Calls Tryz.prog 32 #[.pointer (some ⟨g, 0, none⟩), .int .i64 n, .agg #[.string A, .string B], .agg #[.string C, .string D]] w fun e w' => e = .returned (.tuple #[estV n A B C D, .bool true]) ∧ Below w.heap.size w w' := by
  obtain ⟨hbW, g0, g1, g2⟩ := allocs3 w #[.string A, .string B] #[.string C, .string D] #[.int .i64 0, .string ⟨#[]⟩, .string ⟨#[]⟩, .string ⟨#[]⟩, .string ⟨#[]⟩] 26 26 28
  have k0 := cells2 g0
  have k1 := cells2 g1
  have k2 := cells5 g2
  have f2 := free_of_block g2
  have kg := cell1 (blk_below hbW hg)
  have hbe := (allocs3 w #[.string A, .string B] #[.string C, .string D] #[.int .i64 n, .string A, .string B, .string C, .string D] 26 26 28).1
  clear hbW g0 g1 g2
  go_enter Tryz.func32, Tryz.ntmps32
  go_wp2_with fail
  exact bodyPost_ret (v := .tuple #[.agg #[.int .i64 n, .string A, .string B, .string C, .string D], .bool true]) (by simp [results, Tryz.results32, go_sem]) rfl ⟨rfl, hbe⟩

set_option maxRecDepth 100000 in
set_option maxHeartbeats 4000000 in
theorem covariance43 (A B : Option Addr) (n ca cb : Nat) (f g : Nat → Int) (X Y : ByteArray) (w : World) (hl : IntsV w A n ca f) (hm : IntsV w B n cb g) (hf : Fit f n) (hg : Fit g n) (h2 : 2 ≤ n) (hT : Tx X Y (covQ f g n)) :
    Calls Tryz.prog 17 #[.slice A n ca, .slice B n cb] w fun e w' => e = .returned (.tuple #[.agg #[.string X, .string Y], .bool true]) ∧ Below w.heap.size w w' := by
  obtain ⟨hbW, g0, g1, g2⟩ := allocs3 w #[.string ⟨#[]⟩, .string ⟨#[]⟩] #[.slice A n ca, .slice B n cb] #[.bool false] 26 31 64
  have hal : Below ((w.alloc (.cells #[.string ⟨#[]⟩, .string ⟨#[]⟩] 26)).alloc (.cells #[.slice A n ca, .slice B n cb] 31)).heap.size ((w.alloc (.cells #[.string ⟨#[]⟩, .string ⟨#[]⟩] 26)).alloc (.cells #[.slice A n ca, .slice B n cb] 31)) (((w.alloc (.cells #[.string ⟨#[]⟩, .string ⟨#[]⟩] 26)).alloc (.cells #[.slice A n ca, .slice B n cb] 31)).alloc (.cells #[.bool false] 64)) := (Below.refl _ _).alloc (Nat.le_refl _) _
  obtain ⟨hbV, -, v1⟩ := allocs2' w #[.string ⟨#[]⟩, .string ⟨#[]⟩] #[.slice A n ca, .slice B n cb] 26 31
  have hl1 := hl.below hbV
  have hm1 := hm.below hbV
  have hC := fits85 2 2 2 _ _ _ _ _ _ (by decide) (by decide) (by decide) (rdl_two v1 hl1.rd hm1.rd hl1.le hl1.max hm1.le hm1.max)
  rw [fits_two.2 ⟨rfl, h2, hf, hg⟩] at hC
  have HC := Lib.hid hC
  have hl2 := (hl.below hbW).rd
  have hm2 := (hm.below hbW).rd
  clear hC hl hm hl1 hm1 v1 hbV hal g1
  go_enter Tryz.func17, Tryz.ntmps17
  go_wp2_with fail
  refine HC.out.mono ?_
  rintro e w' ⟨rfl, rfl⟩
  go_wp2_with fail
  generalize ((w.alloc (.cells #[.string ⟨#[]⟩, .string ⟨#[]⟩] 26)).alloc (.cells #[.slice A n ca, .slice B n cb] 31)).alloc (.cells #[.bool false] 64) = W at *
  refine (cov90 _ A B n ca cb f g X Y W hf hg h2 hT hl2 hm2).mono ?_
  rintro e w1 ⟨rfl, hb⟩
  go_wp2_with fail
  refine (result95 _ X Y w1 (blk_below hb g2)).mono ?_
  rintro e w2 ⟨rfl, hb2⟩
  have hst := below_trans' hb hb.size hb2
  have G := blk_below hst g0
  have z0 := free_of_block G
  have z1 := cells2 G
  have hB := below_trans' hbW hbW.size hst
  obtain ⟨y0, y1⟩ := ret2 (A := X) (B := Y) G
  have hbe := below_sets2 hB (Nat.le_refl _) (.string X) (.string Y)
  go_wp2_with fail
  exact bodyPost_ret (v := .tuple #[.agg #[.string X, .string Y], .bool true]) (by simp [results, Tryz.results17, go_sem, y0, y1]) rfl ⟨rfl, hbe⟩

set_option maxRecDepth 100000 in
set_option maxHeartbeats 4000000 in
theorem of36 (A : Option Addr) (n c : Nat) (f : Nat → Int) (X Y U V : ByteArray) (w : World) (hl : IntsV w A n c f) (hf : Fit f n) (h2 : 2 ≤ n) (hT : Tx X Y (meanQ f n)) (hU : Tx U V (varQ f n)) :
    Calls Tryz.prog 24 #[.slice A n c] w fun e w' => e = .returned (.tuple #[estV n X Y U V, .bool true]) ∧ Below w.heap.size w w' := by
  obtain ⟨hbW, g0, g1, g2⟩ := allocs3 w #[.int .i64 0, .string ⟨#[]⟩, .string ⟨#[]⟩, .string ⟨#[]⟩, .string ⟨#[]⟩] #[.slice A n c] #[.bool false] 28 31 64
  obtain ⟨hbV, -, v1⟩ := allocs2' w #[.int .i64 0, .string ⟨#[]⟩, .string ⟨#[]⟩, .string ⟨#[]⟩, .string ⟨#[]⟩] #[.slice A n c] 28 31
  have hl1 := hl.below hbV
  have hC := fits85 2 1 1 _ _ _ _ _ _ (by decide) (by decide) (by decide) (rdl_one v1 hl1.rd hl1.le hl1.max)
  rw [fits_one.2 ⟨h2, hf⟩] at hC
  have HC := Lib.hid hC
  have hl2 := (hl.below hbW).rd
  have hn5 := hf.1
  have hs := sum_fit hf
  have HF := Lib.hid hf
  obtain ⟨C1, D1, -, T1⟩ := txV_tx ((cov_E2 hf hf h2).fits (by decide) (by decide))
  obtain ⟨C2, D2, -, T2⟩ := txV_tx ((n_E2 hn5).fits (by decide) (by decide))
  have hne := fr_ne (a := (n : Int)) (b := 1) (by omega) (by decide)
  obtain ⟨U', V', hU', hd⟩ := div_C T1 T2 hne hU.1
  obtain ⟨rfl, rfl⟩ := hU.inj hU'
  have HD := Lib.hid hd
  clear hC hl hl1 v1 hbV g1 hd hf hne hU'
  go_enter Tryz.func24, Tryz.ntmps24
  go_wp2_with fail
  refine HC.out.mono ?_
  rintro e w' ⟨rfl, rfl⟩
  go_wp2_with fail
  generalize ((w.alloc (.cells #[.int .i64 0, .string ⟨#[]⟩, .string ⟨#[]⟩, .string ⟨#[]⟩, .string ⟨#[]⟩] 28)).alloc (.cells #[.slice A n c] 31)).alloc (.cells #[.bool false] 64) = W at *
  refine (total88 _ n c f _ hl2 HF.out).mono ?_
  rintro e w' ⟨rfl, rfl⟩
  go_wp2_with fail
  refine (of_V _ hT rfl (by omega) (by omega) (by omega) (by omega) (by omega) _).mono ?_
  rintro e w1 ⟨rfl, b1⟩
  go_wp2_with fail
  refine (cov90 _ A A n c c f f C1 D1 w1 HF.out HF.out h2 T1 (hl2.below b1) (hl2.below b1)).mono ?_
  rintro e w2 ⟨rfl, b2⟩
  replace b2 := below_trans' b1 b1.size b2
  go_wp2_with fail
  refine (of_V _ T2 rfl (by omega) (by omega) (by omega) (by omega) (by omega) _).mono ?_
  rintro e w3 ⟨rfl, b3⟩
  replace b3 := below_trans' b2 b2.size b3
  go_wp2_with fail
  refine (HD.out _ _).mono ?_
  rintro e w4 ⟨rfl, b4⟩
  replace b4 := below_trans' b3 b3.size b4
  go_wp2_with fail
  refine (estimate86 _ n X Y U V w4 (blk_below b4 g2)).mono ?_
  rintro e w5 ⟨rfl, b5⟩
  replace b5 := below_trans' b4 b4.size b5
  have G := blk_below b5 g0
  have z0 := free_of_block G
  have z1 := cells5 G
  have hB := below_trans' hbW hbW.size b5
  obtain ⟨y0, y1, y2, y3, y4⟩ := cells5 (set5 G (.int .i64 n) (.string X) (.string Y) (.string U) (.string V))
  have hbe := below_sets5 hB (Nat.le_refl _) (.int .i64 n) (.string X) (.string Y) (.string U) (.string V)
  clear b1 b2 b3 b4 b5
  go_wp2_with fail
  exact bodyPost_ret (v := .tuple #[estV n X Y U V, .bool true]) (by simp [results, Tryz.results24, go_sem, y0, y1, y2, y3, y4]) rfl ⟨rfl, hbe⟩
end Go.Proofs.YtpligjkbnlfhgaaGreatDoor
