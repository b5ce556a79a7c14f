/- The contract of flagstoneref39.Of: in range. -/
import Derived.Test.YtgonighpjpfmnaaScoreOf3
namespace Go.Proofs.Ytgonighpjpfmnaa
open Go.RowKit

/-- What flagstoneref39.Of keeps in memory while it runs: the zero result. -/
structure OR (w wr : World) : Prop where
  low : Below w.heap.size w wr
  res : wr.heap[w.heap.size + 1]? = some (.cells #[.int .i64 0, .int .i64 0, .int .i64 0] 37 (0, 0))
theorem OR.go {w wr w' : World} (h : OR w wr) (hb : Below wr.heap.size wr w') : OR w w' := ⟨below_trans h.low hb, by rw [hb.block _ (lt_of_blk h.res)]; exact h.res⟩
theorem OR.alloc {w wr : World} (h : OR w wr) (o : Obj) : OR w (wr.alloc o) := h.go ((Below.refl _ _).alloc (Nat.le_refl _) _)
theorem OR.drewN {w wr : World} (h : OR w wr) (n : Nat) : OR w (wr.drewN n) := h.go (below_drewN (Below.refl _ _) n)
theorem OR.start (w : World) (o : Obj) : OR w ((w.alloc o).alloc (.cells #[.int .i64 0, .int .i64 0, .int .i64 0] 37)) := by
  refine ⟨((Below.refl _ _).alloc (Nat.le_refl _) _).alloc (by simp) _, ?_⟩
  have := heap_alloc_new (w.alloc o) (.cells #[.int .i64 0, .int .i64 0, .int .i64 0] 37)
  simpa using this
theorem OR.facts {w wr : World} (h : OR w wr) : (wr.cell? ⟨w.heap.size + 1, 0, none⟩ = some (.int .i64 0) ∧ wr.cell? ⟨w.heap.size + 1, 1, none⟩ = some (.int .i64 0) ∧ wr.cell? ⟨w.heap.size + 1, 2, none⟩ = some (.int .i64 0)) ∧ (∀ i, wr.frozen? ⟨w.heap.size + 1, i, none⟩ = false) ∧ w.heap.size + 2 ≤ wr.heap.size :=
  ⟨⟨cell_of_block h.res 0, cell_of_block h.res 1, cell_of_block h.res 2⟩, fun i => free_of_block h.res i, by have := lt_of_blk h.res; omega⟩

theorem of_wraps39 {c t cap p1 p2 : Int} (hv : 1 ≤ c ∧ c ≤ 10000 ∧ 1 ≤ t ∧ t ≤ 10000) (h1 : 1 ≤ cap) (h2 : cap ≤ 1048576) (hp1 : 0 ≤ p1 ∧ p1 ≤ cap) (hp2 : 0 ≤ p2 ∧ p2 ≤ cap) :
    IntKind.i64.wrap (c * t) = c * t ∧ IntKind.i64.wrap (c + t) = c + t ∧ IntKind.i64.wrap (2 * c) = 2 * c ∧ IntKind.i64.wrap (2 * c * t) = 2 * c * t ∧ IntKind.i64.wrap (2 * c * t + (c + t) * max c t) = 2 * c * t + (c + t) * max c t ∧
    IntKind.i64.wrap (cap * (2 * c * t + (c + t) * max c t)) = cap * (2 * c * t + (c + t) * max c t) := by
  have W := of_wraps hv h1 h2 hp1 hp2
  obtain ⟨a, _, _, _, b, _, d, e, _, _⟩ := W
  rw [← Int.mul_assoc] at b d e
  exact ⟨IntWalk.i64_in _ (by omega), IntWalk.i64_in _ (by omega), IntWalk.i64_in _ (by omega), b, d, e⟩

set_option maxRecDepth 100000 in
set_option maxHeartbeats 2000000 in
theorem of39_main (A : Option Addr) (n cp : Nat) (f : Nat → Smp) (k : Nat) (v c t cap : Int) (adj : Bool) (w : World) (hn : n ≤ 1048576) (hnc : n ≤ cp)
    (hR : RowsAt w w.heap.size 10 A n fun i => (f i).cells) (hin : InSmp f n) (hk : k < n) (hv : vldWI c t = true) (h1 : 1 ≤ cap) (h2 : cap ≤ 1048576) (ha : (f k).arm = 1 ∨ (f k).arm = 2) :
    Calls Try.prog 39 #[.slice A n cp, .int .i64 k, .agg #[.int .i64 v, .int .i64 c, .int .i64 t], .int .i64 cap, .bool adj] w (OfPost (ofR f n k c t cap adj) w) := by
  have hRw := hR
  obtain ⟨b, off, rfl, hb, hcell⟩ := hR (by omega)
  have hvv : 1 ≤ c ∧ c ≤ 10000 ∧ 1 ≤ t ∧ t ≤ 10000 := by simpa [vldWI, and_assoc] using hv
  have hof : okV f cap (k + 1) = false → ofR f n k c t cap adj = none := fun h => by simp [ofR, h]
  have hof := Lib.hid hof
  have k4 := hcell k (by omega) 4 _ rfl
  have k0 : decide ((k : Int) < 0) = false := by simp
  have k1 : decide (n ≤ k) = false := by simpa using hk
  have k2 : decide ((f k).arm < 1) = false := by simp; omega
  have k3 : decide (2 < (f k).arm) = false := by simp; omega
  have k5 : decide (c < 1) = false := by simp; omega
  have k6 : decide (10000 < c) = false := by simp; omega
  have k7 : decide (t < 1) = false := by simp; omega
  have k8 : decide (10000 < t) = false := by simp; omega
  have k9 : decide (cap < 1) = false := by simpa using h1
  have k10 : decide (1048576 < cap) = false := by simpa using h2
  have hO := OR.start w (.cells #[.int .i64 v, .int .i64 c, .int .i64 t] 42)
  go_enter Try.func39, Try.ntmps39
  go_wp2_with fail
  go_quiet (fail)
  have hO := hO.drewN nq
  go_wp2_with fail
  clear k0 k1 k2 k3 k5 k6 k7 k8 k9 k10 k4
  generalize World.drewN _ nq = w1 at hO ⊢
  go_loopg [14] (k + 1) (fun m i wr => ∃ j : Nat, j ≤ k + 1 ∧ m = k + 1 - j ∧ i = .int .i64 j ∧ okV f cap j = true ∧ OR w wr)
  case atStart => exact ⟨0, by omega, by omega, rfl, rfl, hO⟩
  case round =>
    clear hO
    obtain ⟨j, hj, hm, rfl, hok, hO⟩ := hrel
    have HM := Lib.hid hm
    have HK := Lib.hid hok
    clear hm hok
    obtain ⟨⟨r0, r1, r2⟩, rf, hz⟩ := hO.facts
    by_cases hjk : j < k + 1
    · have g6 : wr.cell? ⟨b, off + j * 10 + 6, none⟩ = some (.int .i64 (f j).value) := (hO.low.cell (by exact hb)).trans (hcell j (by omega) 6 _ rfl)
      cases ha : decide ((f j).value < 0)
      · cases hb2 : decide (cap < (f j).value)
        · have hok' : okV f cap (j + 1) = true := by simp only [decide_eq_false_iff_not] at ha hb2; simp only [okV, HK.out]; simp; omega
          have HK' := Lib.hid hok'
          clear hok'
          go_wp2_with fail
          go_roundg (k + 1 - (j + 1))
          case measure => have := HM.out; omega
          case rel => exact ⟨j + 1, by omega, rfl, by go_num, HK'.out, hO⟩
        · have hbad : ofR f n k c t cap adj = none := hof.out (by
            cases h : okV f cap (k + 1)
            · rfl
            · have := okV_at h (show j < k + 1 by omega); simp only [decide_eq_true_eq] at hb2; omega)
          have HB := Lib.hid hbad
          clear hbad
          go_wp2_with fail
          exact bodyPost_ret (v := .tuple #[scoreV none, .bool false]) (by simp [results, Try.results39, go_sem, scoreV, r0, r1, r2]) rfl ⟨by rw [HB.out]; rfl, by repeat (first | exact hO.low | refine Below.setCell ?_ (by simp <;> omega) _)⟩
      · have hbad : ofR f n k c t cap adj = none := hof.out (by
          cases h : okV f cap (k + 1)
          · rfl
          · have := okV_at h (show j < k + 1 by omega); simp only [decide_eq_true_eq] at ha; omega)
        have HB := Lib.hid hbad
        clear hbad
        go_wp2_with fail
        exact bodyPost_ret (v := .tuple #[scoreV none, .bool false]) (by simp [results, Try.results39, go_sem, scoreV, r0, r1, r2]) rfl ⟨by rw [HB.out]; rfl, by repeat (first | exact hO.low | refine Below.setCell ?_ (by simp <;> omega) _)⟩
    · obtain rfl : j = k + 1 := by omega
      have hy := okV_at HK.out (show k < k + 1 by omega)
      have hp : ∀ arm, 0 ≤ predT f n k arm cap ∧ predT f n k arm cap ≤ cap := fun arm => by
        have := predI_bd f cap k arm (by omega) (okV_mono (k + 1) (by omega) HK.out)
        simpa [predT, hk] using this
      have hRr := hRw.below hO.low (Nat.le_refl _)
      have hp1 : 0 ≤ (if adj then predT f n k 1 cap else 0) ∧ (if adj then predT f n k 1 cap else 0) ≤ cap := by
        have := hp 1; cases adj
        · simp; omega
        · simpa using this
      have hp2 : 0 ≤ (if adj then predT f n k 2 cap else 0) ∧ (if adj then predT f n k 2 cap else 0) ≤ cap := by
        have := hp 2; cases adj
        · simp; omega
        · simpa using this
      obtain ⟨p1, hp1e⟩ : ∃ p, p = (if adj then predT f n k 1 cap else 0) := ⟨_, rfl⟩
      obtain ⟨p2, hp2e⟩ : ∃ p, p = (if adj then predT f n k 2 cap else 0) := ⟨_, rfl⟩
      rw [← hp1e] at hp1
      rw [← hp2e] at hp2
      have Hp1 := Lib.hid hp1e
      have Hp2 := Lib.hid hp2e
      clear hp1e hp2e
      go_upto_if 95 with fail
      go_cut [15, 16] (fun s15 s16 wx => s15 = .int .i64 p1 ∧ s16 = .int .i64 p2 ∧ OR w wx)
      case first =>
        cases adj
        · go_wp2_with fail
          go_meet
          case rel => exact ⟨by rw [Hp1.out]; rfl, by rw [Hp2.out]; rfl, hO⟩
        · go_wp2_with fail
          refine (predict35 _ n cp f k 1 cap _ hn hnc (hRr.more hO.low.size) hin (by omega) (by omega)).mono ?_
          rintro e w2 ⟨rfl, hb2⟩
          have hO2 := hO.go hb2
          go_wp2_with fail
          refine (predict35 _ n cp f k 2 cap _ hn hnc ((hRr.more hO.low.size).below hb2 (Nat.le_refl _) |>.more hb2.size) hin (by omega) (by omega)).mono ?_
          rintro e w3 ⟨rfl, hb3⟩
          go_wp2_with fail
          go_meet
          case rel => exact ⟨by rw [Hp1.out]; rfl, by rw [Hp2.out]; rfl, hO2.go hb3⟩
      case rest =>
        obtain ⟨rfl, rfl, hO3⟩ := hcut
        clear hO hp hRr
        obtain ⟨wb, ww1, ww2, ww3, ww4, ww5, ww6, ww7, ww8, ww9⟩ := of_wraps hvv h1 h2 hp1 hp2
        obtain ⟨x1, x2, x3, x4, x5, x6⟩ := of_wraps39 hvv h1 h2 hp1 hp2
        obtain ⟨v1, v2, v3, v4, v5, v6⟩ := arm_wraps hvv h1 h2 hp1 hp2 hy
        obtain ⟨u1, u2, u3, u4⟩ := arm_wraps2 hvv h1 h2 hp1 hp2 hy
        clear ww4 ww6 ww7
        have gk : ∀ q u, (f k).cells[q]? = some u → wc.cell? ⟨b, off + k * 10 + q, none⟩ = some u := fun q u hu => (hO3.low.cell (by exact hb)).trans (hcell k (by omega) q u hu)
        have g4 := gk 4 _ rfl
        have g6 := gk 6 _ rfl
        clear gk
        obtain ⟨⟨r0, r1, r2⟩, rf, hz⟩ := hO3.facts
        have hbz : b < wc.heap.size := by omega
        have hzz : w.heap.size + 1 < wc.heap.size := by omega
        have hofk : ofR f n k c t cap adj = if (f k).arm = 1 then some (c * t * (p2 - p1) - (c + t) * t * ((f k).value - p1), c * t * cap, cap * (2 * c * t + (c + t) * max c t)) else if (f k).arm = 2 then some (c * t * (p2 - p1) + (c + t) * c * ((f k).value - p2), c * t * cap, cap * (2 * c * t + (c + t) * max c t)) else none := by
          have e1 := Hp1.out
          have e2 := Hp2.out
          simp only [ofR, Int.toNat_natCast]
          rw [if_pos ⟨by omega, by omega, hv, h1, h2, HK.out⟩, e1, e2, Int.mul_assoc 2 c t]
        have Hof := Lib.hid hofk
        clear hofk hof
        rcases ha with ha | ha
        · have HA := Lib.hid ha
          have ha2 : ((f k).arm == 2) = false := by simp [ha]
          clear ha
          go_wp2_with fail
          exact bodyPost_ret (v := .tuple #[.agg #[.int .i64 (c * t * (p2 - p1) - (c + t) * t * ((f k).value - p1)), .int .i64 (c * t * cap), .int .i64 (cap * (2 * c * t + (c + t) * max c t))], .bool true]) (by simp [results, Try.results39, go_sem, r0, r1, r2, hzz]) rfl ⟨by rw [Hof.out, if_pos HA.out]; rfl, by repeat (first | exact hO3.low | refine Below.setCell ?_ (by simp <;> omega) _ | refine Below.alloc ?_ (by simp <;> omega) _)⟩
        · have HA := Lib.hid ha
          have ha2 : ((f k).arm == 2) = true := by simp [ha]
          clear ha
          go_wp2_with fail
          exact bodyPost_ret (v := .tuple #[.agg #[.int .i64 (c * t * (p2 - p1) + (c + t) * c * ((f k).value - p2)), .int .i64 (c * t * cap), .int .i64 (cap * (2 * c * t + (c + t) * max c t))], .bool true]) (by simp [results, Try.results39, go_sem, r0, r1, r2, hzz]) rfl ⟨by rw [Hof.out, if_neg (by rw [HA.out]; decide), if_pos HA.out]; rfl, by repeat (first | exact hO3.low | refine Below.setCell ?_ (by simp <;> omega) _ | refine Below.alloc ?_ (by simp <;> omega) _)⟩

theorem of39 (A : Option Addr) (n cp : Nat) (f : Nat → Smp) (k v c t cap : Int) (adj : Bool) (w : World) (hn : n ≤ 1048576) (hnc : n ≤ cp)
    (hR : RowsAt w w.heap.size 10 A n fun i => (f i).cells) (hin : InSmp f n) :
    Calls Try.prog 39 #[.slice A n cp, .int .i64 k, .agg #[.int .i64 v, .int .i64 c, .int .i64 t], .int .i64 cap, .bool adj] w (OfPost (ofR f n k c t cap adj) w) := by
  by_cases h : 0 ≤ k ∧ k < n ∧ vldWI c t = true ∧ 1 ≤ cap ∧ cap ≤ 1048576
  · obtain ⟨h0, h1, h2, h3, h4⟩ := h
    obtain ⟨k, rfl⟩ := Int.eq_ofNat_of_zero_le h0
    by_cases ha : (f k).arm = 1 ∨ (f k).arm = 2
    · exact of39_main A n cp f k v c t cap adj w hn hnc hR hin (by omega) h2 h3 h4 ha
    · have e : ofR f n k c t cap adj = none := by
        unfold ofR
        split
        · rw [Int.toNat_natCast]
          simp only
          rw [if_neg (fun h => ha (.inl h)), if_neg (fun h => ha (.inr h))]
        · rfl
      rw [e]
      exact of39_bad1 A n cp f k v c t cap adj w hn hR (by rw [Int.toNat_natCast]; omega)
  · rw [ofR_bad h]
    refine of39_bad1 A n cp f k v c t cap adj w hn hR ?_
    by_cases a : k < 0
    · exact .inl a
    by_cases b : (n : Int) ≤ k
    · exact .inr (.inl b)
    cases hv : vldWI c t
    · exact .inr (.inr (.inl rfl))
    · by_cases d : cap < 1
      · exact .inr (.inr (.inr (.inl d)))
      · exact .inr (.inr (.inr (.inr (.inl (Decidable.byContradiction fun e => h ⟨by omega, by omega, hv, by omega, by omega⟩)))))
end Go.Proofs.Ytgonighpjpfmnaa
