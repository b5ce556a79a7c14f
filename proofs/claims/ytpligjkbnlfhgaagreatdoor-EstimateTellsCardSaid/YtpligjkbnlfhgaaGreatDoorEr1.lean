/- The reference of chapter 38: fits, sum, num, mean. No statement is proved here. -/
import Derived.Test.YtpligjkbnlfhgaaGreatDoorEstR
import Derived.Test.YtpligjkbnlfhgaaGreatDoorEstT
import Derived.Test.YtpligjkbnlfhgaaGreatDoorLate2
import Derived.Test.YtpligjkbnlfhgaaGreatDoorEr0
namespace Go.Proofs.YtpligjkbnlfhgaaGreatDoor
open Go.RowKit

theorem rs_of {a b : Nat} {x : Rat} (h : E2 a b x) (ha : a ≤ 399) (hb : b ≤ 399) : RS 400 x := RS.of_le (h.mono ha hb) (by decide)
theorem ratP_fr {a b : Int} (hb : b ≠ 0) : ratP (decide (a < 0) != decide (b < 0)) a.natAbs b.natAbs = frQ a b := by
  rcases Int.lt_or_gt_of_ne hb with hb | hb
  · rw [show decide (b < 0) = true from decide_eq_true hb]
    have h := ratP_neg (decide (a < 0)) a.natAbs b.natAbs
    rw [Bool.bne_true, ← h, ← ratP_mkRat, Rat.mkRat_eq_div]
    unfold frQ
    have h' : ((b.natAbs : Nat) : Rat) = -(b : Rat) := by
      have h : ((b.natAbs : Int)) = -b := by omega
      rw [← Rat.intCast_natCast, h, Rat.intCast_neg]
    rw [h']
    have hb0 : (b : Rat) ≠ 0 := cast_ne (by omega)
    grind
  · rw [show decide (b < 0) = false from decide_eq_false (by omega), Bool.bne_false, ← ratP_mkRat, Rat.mkRat_eq_div]
    unfold frQ
    rw [show ((b.natAbs : Nat) : Rat) = (b : Rat) by
      have h : ((b.natAbs : Int)) = b := by omega
      rw [← Rat.intCast_natCast, h]]
theorem make_fr (a b : Int) (w : World) (h1 : -9223372036854775808 ≤ a) (h2 : a ≤ 9223372036854775807) (h3 : -9223372036854775808 ≤ b) (h4 : b ≤ 9223372036854775807) (hb0 : b ≠ 0) :
    Calls Tryz.prog 53 #[.int .i64 a, .int .i64 b] w fun e w' => ∃ f, e = .returned f ∧ FrR w' f (frQ a b) ∧ Below w.heap.size w w' := by
  have := make69 a b w h1 h2 h3 h4 hb0
  rw [ratP_fr hb0] at this
  exact this

set_option maxRecDepth 100000 in
set_option maxHeartbeats 4000000 in
theorem fits25 (A : Option Addr) (n c : Nat) (f : Nat → Int) (o : Bool) (w : World) (hl : IntsV w A n c f) (ho : o = true ↔ Fit f n) :
    Calls Tryz.prog 25 #[.slice A n c] w fun e w' => e = .returned (.bool o) ∧ w = w' := by
  have hcm := hl.max
  have hle := hl.le
  unfold maxLen at hcm
  have HO := Lib.hid ho
  clear ho
  by_cases h5 : (512 : Int) < (n : Int)
  · have hof : o = false := by
      cases o with
      | false => rfl
      | true => have := (HO.out.1 rfl).1; omega
    subst hof
    go_enter Tryz.func25, Tryz.ntmps25
    go_wp2_with fail
    go_ret
    exact ⟨rfl, rfl⟩
  · go_enter Tryz.func25, Tryz.ntmps25
    go_wp2_with fail
    go_loopg [3] (n + 1) (fun r i wr => ∃ k : Nat, k ≤ n ∧ r = n + 1 - k ∧ i = .int .i64 k ∧ Hid (∀ j, j < k → -1048576 ≤ f j ∧ f j ≤ 1048576) ∧ w = wr)
    case atStart => exact ⟨0, by omega, rfl, rfl, Lib.hid (fun j h => absurd h (by omega)), rfl⟩
    case round =>
      obtain ⟨k, hk, hr, rfl, hgood, rfl⟩ := hrel
      have HR := Lib.hid hr
      clear hr
      by_cases hkn : k < n
      · have hkI : (k : Int) < n := by omega
        obtain ⟨b, off, rfl, hb, hcell⟩ := hl.rd (by omega)
        have hx := hcell k hkn
        obtain ⟨v, hv⟩ : ∃ v, f k = v := ⟨_, rfl⟩
        rw [hv] at hx
        have HV := Lib.hid hv
        have bad : (v < -1048576 ∨ 1048576 < v) → o = false := fun h => by
          cases o with
          | false => rfl
          | true => have := (HO.out.1 rfl).2 k hkn; rw [HV.out] at this; omega
        have HB := Lib.hid bad
        clear hv bad hl hcell
        by_cases hv1 : v < -1048576
        · have := HB.out (.inl hv1)
          subst this
          go_wp2_with fail
          go_ret
          exact ⟨rfl, rfl⟩
        · by_cases hv2 : 1048576 < v
          · have := HB.out (.inr hv2)
            subst this
            go_wp2_with fail
            go_ret
            exact ⟨rfl, rfl⟩
          · go_wp2_with fail
            go_roundg (n + 1 - (k + 1))
            case measure => have := HR.out; omega
            case rel =>
              refine ⟨k + 1, by omega, rfl, by go_num, Lib.hid (fun j hj => ?_), rfl⟩
              by_cases e : j = k
              · rw [e, HV.out]; omega
              · exact hgood.out j (by omega)
      · have hkI : ¬ (k : Int) < n := by omega
        have hkn' : k = n := by omega
        have hot : o = true := HO.out.2 ⟨by omega, fun i hi => hgood.out i (by omega)⟩
        subst hot
        clear hkn'
        go_wp2_with fail
        go_ret
        exact ⟨rfl, rfl⟩

set_option maxRecDepth 100000 in
set_option maxHeartbeats 2000000 in
theorem sum63 (A : Option Addr) (n c : Nat) (f : Nat → Int) (w : World) (hr : RdI w A n f) (hf : Fit f n) :
    Calls Tryz.prog 63 #[.slice A n c] w fun e w' => e = .returned (.int .i64 (sumF f n)) ∧ w = w' := by
  have hn5 := hf.1
  have hfi := Lib.hid hf
  clear hf
  go_enter Tryz.func63, Tryz.ntmps63
  go_wp2_with fail
  go_loopg [3, 4] (n + 1) (fun r s i wr => ∃ k : Nat, k ≤ n ∧ r = n + 1 - k ∧ i = .int .i64 k ∧ s = .int .i64 (sumF f k) ∧ w = wr)
  case atStart => exact ⟨0, by omega, rfl, rfl, rfl, rfl⟩
  case round =>
    obtain ⟨k, hk, hr', rfl, rfl, rfl⟩ := hrel
    have HR := Lib.hid hr'
    clear hr'
    have hs := sum_fit (f := f) (n := k) ⟨by omega, fun i hi => hfi.out.2 i (by omega)⟩
    by_cases hkn : k < n
    · have hknI : (k : Int) < n := by omega
      obtain ⟨b, off, rfl, hb, hcell⟩ := hr (by omega)
      have hx := hcell k hkn
      have hfk := hfi.out.2 k hkn
      have hsu : Hid (sumF f (k + 1) = sumF f k + f k) := Lib.hid rfl
      clear hcell
      go_wp2_with fail
      go_roundg (n + 1 - (k + 1))
      case measure => have := HR.out; omega
      case rel => exact ⟨k + 1, by omega, rfl, by go_num, by rw [hsu.out], rfl⟩
    · have hkn' : k = n := by omega
      have hkI : ¬ (k : Int) < n := by omega
      have HK := Lib.hid hkn'
      clear hkn'
      go_wp2_with fail
      go_ret
      exact ⟨by rw [HK.out]; rfl, rfl⟩

set_option maxRecDepth 100000 in
set_option maxHeartbeats 2000000 in
theorem num30 (a : Int) (w : World) (h1 : -9223372036854775808 ≤ a) (h2 : a ≤ 9223372036854775807) :
    Calls Tryz.prog 30 #[.int .i64 a] w fun e w' => ∃ f, e = .returned f ∧ FrR w' f (frQ a 1) ∧ Below w.heap.size w w' := by
  have HM := Lib.hid (fun w => make_fr a 1 w h1 h2 (by decide) (by decide) (by decide))
  have g0 := heap_alloc_new w (.cells #[.bool false, .slice none 0 0, .slice none 0 0] 57)
  have hbW : Below w.heap.size w (w.alloc (.cells #[.bool false, .slice none 0 0, .slice none 0 0] 57)) := (Below.refl _ _).alloc (Nat.le_refl _) _
  go_enter Tryz.func30, Tryz.ntmps30
  go_wp2_with fail
  generalize w.alloc (.cells #[.bool false, .slice none 0 0, .slice none 0 0] 57) = W at *
  refine (HM.out W).mono ?_
  rintro e w1 ⟨f, rfl, hf, hb⟩
  obtain ⟨A1, e1, k1, A2, e2, k2, rfl, f1, f2, -⟩ := hf.shape
  obtain ⟨sg, hsg⟩ : ∃ c, decide ((frQ a 1).num < 0) = c := ⟨_, rfl⟩
  rw [hsg]
  have G := blk_below hb g0
  have n2 := cells3 G
  have n3 := free_of_block G
  obtain ⟨t0, q1, q2⟩ := ret3g (b := sg) G f1 f2
  obtain ⟨u0, u1, u2⟩ := cells3 t0
  have hbe := below_set3 (below_trans' hbW hbW.size hb) (Nat.le_refl _) (.bool sg) (.slice A1 e1 k1) (.slice A2 e2 k2)
  have HSG := Lib.hid hsg
  clear hsg hf hb hbW g0 t0
  go_wp2_with fail
  exact bodyPost_ret (v := .agg #[.bool sg, .slice A1 e1 k1, .slice A2 e2 k2]) (by simp [results, Tryz.results30, go_sem, u0, u1, u2]) rfl ⟨_, rfl, ⟨_, _, by rw [HSG.out], q1, q2⟩, hbe⟩

set_option maxRecDepth 100000 in
set_option maxHeartbeats 2000000 in
theorem mean27 (A : Option Addr) (n c : Nat) (f : Nat → Int) (w : World) (hl : IntsV w A n c f) (hf : Fit f n) (hn : 1 ≤ n) :
    Calls Tryz.prog 27 #[.slice A n c] w fun e w' => ∃ v, e = .returned v ∧ FrR w' v (meanQ f n) ∧ Below w.heap.size w w' := by
  have hs := sum_fit hf
  have hn5 := hf.1
  have HM := Lib.hid (fun w => make_fr (sumF f n) n w (by omega) (by omega) (by omega) (by omega) (by omega))
  have g0 := heap_alloc_new w (.cells #[.bool false, .slice none 0 0, .slice none 0 0] 57)
  have hbW : Below w.heap.size w (w.alloc (.cells #[.bool false, .slice none 0 0, .slice none 0 0] 57)) := (Below.refl _ _).alloc (Nat.le_refl _) _
  have hr := (hl.below hbW).rd
  have HF := Lib.hid hf
  clear hl hf
  go_enter Tryz.func27, Tryz.ntmps27
  go_wp2_with fail
  generalize w.alloc (.cells #[.bool false, .slice none 0 0, .slice none 0 0] 57) = W at *
  refine (sum63 A n c f W hr HF.out).mono ?_
  rintro e w0 ⟨rfl, rfl⟩
  go_wp2_with fail
  refine (HM.out W).mono ?_
  rintro e w1 ⟨v, rfl, hv, hb⟩
  have hv' : FrR w1 v (meanQ f n) := hv
  obtain ⟨A1, e1, k1, A2, e2, k2, rfl, f1, f2, -⟩ := hv'.shape
  obtain ⟨sg, hsg⟩ : ∃ c, decide ((meanQ f n).num < 0) = c := ⟨_, rfl⟩
  rw [hsg]
  have G := blk_below hb g0
  have n2 := cells3 G
  have n3 := free_of_block G
  obtain ⟨t0, q1, q2⟩ := ret3g (b := sg) G f1 f2
  obtain ⟨u0, u1, u2⟩ := cells3 t0
  have hbe := below_set3 (below_trans' hbW hbW.size hb) (Nat.le_refl _) (.bool sg) (.slice A1 e1 k1) (.slice A2 e2 k2)
  have HSG := Lib.hid hsg
  clear hsg hv hv' hb hbW g0 t0 hr
  go_wp2_with fail
  exact bodyPost_ret (v := .agg #[.bool sg, .slice A1 e1 k1, .slice A2 e2 k2]) (by simp [results, Tryz.results27, go_sem, u0, u1, u2]) rfl ⟨_, rfl, ⟨_, _, by rw [HSG.out], q1, q2⟩, hbe⟩
end Go.Proofs.YtpligjkbnlfhgaaGreatDoor
