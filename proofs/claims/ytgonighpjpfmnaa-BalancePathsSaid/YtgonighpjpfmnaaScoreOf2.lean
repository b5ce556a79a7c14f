/- The contract of score.Of. -/
import Derived.Test.YtgonighpjpfmnaaScoreOf
import Derived.Test.YtgonighpjpfmnaaLate
namespace Go.Proofs.Ytgonighpjpfmnaa
open Go.RowKit

theorem product84' (c t : Int) (w : World) (hc : 1 ≤ c) (hc' : c ≤ 10000) (ht : 1 ≤ t) (ht' : t ≤ 10000) : Calls Try.prog 84 #[.agg #[.int .i64 c, .int .i64 t]] w fun e w' => e = .returned (.int .i64 (c * t)) ∧ w' = w.alloc (.cells #[.int .i64 c, .int .i64 t] 115) := by
  have h1 : 1 ≤ c * t := by have := Int.mul_le_mul hc ht (by omega) (by omega); omega
  have h2 : c * t ≤ 100000000 := by have := Int.mul_le_mul hc' ht' (by omega) (by omega); omega
  go_enter Try.func84, Try.ntmps84
  go_wp2
  go_ret
  exact ⟨rfl, rfl⟩

theorem sum85' (c t : Int) (w : World) (hc : 1 ≤ c) (hc' : c ≤ 10000) (ht : 1 ≤ t) (ht' : t ≤ 10000) : Calls Try.prog 85 #[.agg #[.int .i64 c, .int .i64 t]] w fun e w' => e = .returned (.int .i64 (c + t)) ∧ w' = w.alloc (.cells #[.int .i64 c, .int .i64 t] 115) := by
  go_enter Try.func85, Try.ntmps85
  go_wp2
  go_ret
  exact ⟨rfl, rfl⟩

/-- The sums of Of do not wrap. -/
theorem of_wraps {c t cap p1 p2 : Int} (hv : 1 ≤ c ∧ c ≤ 10000 ∧ 1 ≤ t ∧ t ≤ 10000) (h1 : 1 ≤ cap) (h2 : cap ≤ 1048576) (hp1 : 0 ≤ p1 ∧ p1 ≤ cap) (hp2 : 0 ≤ p2 ∧ p2 ≤ cap) :
    (1 ≤ c * t ∧ c * t ≤ 100000000) ∧ IntKind.i64.wrap (p2 - p1) = p2 - p1 ∧ IntKind.i64.wrap (c * t * (p2 - p1)) = c * t * (p2 - p1) ∧ IntKind.i64.wrap (c * t * cap) = c * t * cap ∧ IntKind.i64.wrap (2 * (c * t)) = 2 * (c * t) ∧
    IntKind.i64.wrap ((c + t) * max c t) = (c + t) * max c t ∧ IntKind.i64.wrap (2 * (c * t) + (c + t) * max c t) = 2 * (c * t) + (c + t) * max c t ∧
    IntKind.i64.wrap (cap * (2 * (c * t) + (c + t) * max c t)) = cap * (2 * (c * t) + (c + t) * max c t) ∧ -104857600000000 ≤ c * t * (p2 - p1) ∧ c * t * (p2 - p1) ≤ 104857600000000 := by
  have a1 := Int.mul_le_mul hv.1 hv.2.2.1 (by omega) (by omega)
  have a2 := Int.mul_le_mul hv.2.1 hv.2.2.2 (by omega) (by omega)
  have a3 := mul_bd (a := c * t) (b := p2 - p1) (A := 100000000) (B := 1048576) (by omega) (by omega) (by omega) (by omega)
  have a4 := mul_bd (a := c * t) (b := cap) (A := 100000000) (B := 1048576) (by omega) (by omega) (by omega) (by omega)
  have a5 := mul_bd (a := c + t) (b := max c t) (A := 20000) (B := 10000) (by omega) (by omega) (by omega) (by omega)
  have a6 := mul_bd (a := cap) (b := 2 * (c * t) + (c + t) * max c t) (A := 1048576) (B := 400000000) (by omega) (by omega) (by omega) (by omega)
  refine ⟨by omega, IntWalk.i64_in _ (by omega), IntWalk.i64_in _ (by omega), IntWalk.i64_in _ (by omega), IntWalk.i64_in _ (by omega), IntWalk.i64_in _ (by omega), IntWalk.i64_in _ (by omega), IntWalk.i64_in _ (by omega), by omega, by omega⟩

theorem arm_wraps {c t cap p1 p2 y : Int} (hv : 1 ≤ c ∧ c ≤ 10000 ∧ 1 ≤ t ∧ t ≤ 10000) (_h1 : 1 ≤ cap) (h2 : cap ≤ 1048576) (hp1 : 0 ≤ p1 ∧ p1 ≤ cap) (hp2 : 0 ≤ p2 ∧ p2 ≤ cap) (hy : 0 ≤ y ∧ y ≤ cap) :
    IntKind.i64.wrap ((c + t) * t) = (c + t) * t ∧ IntKind.i64.wrap (y - p1) = y - p1 ∧ IntKind.i64.wrap ((c + t) * t * (y - p1)) = (c + t) * t * (y - p1) ∧ IntKind.i64.wrap (c * t * (p2 - p1) - (c + t) * t * (y - p1)) = c * t * (p2 - p1) - (c + t) * t * (y - p1) ∧
    -209715200000000 ≤ (c + t) * t * (y - p1) ∧ (c + t) * t * (y - p1) ≤ 209715200000000 := by
  have a1 := mul_bd (a := c) (b := t) (A := 10000) (B := 10000) (by omega) (by omega) (by omega) (by omega)
  have a2 := mul_bd (a := c * t) (b := p2 - p1) (A := 100000000) (B := 1048576) (by omega) (by omega) (by omega) (by omega)
  have a3 := mul_bd (a := c + t) (b := t) (A := 20000) (B := 10000) (by omega) (by omega) (by omega) (by omega)
  have a4 := mul_bd (a := (c + t) * t) (b := y - p1) (A := 200000000) (B := 1048576) (by omega) (by omega) (by omega) (by omega)
  exact ⟨IntWalk.i64_in _ (by omega), IntWalk.i64_in _ (by omega), IntWalk.i64_in _ (by omega), IntWalk.i64_in _ (by omega), by omega, by omega⟩
theorem arm_wraps2 {c t cap p1 p2 y : Int} (hv : 1 ≤ c ∧ c ≤ 10000 ∧ 1 ≤ t ∧ t ≤ 10000) (_h1 : 1 ≤ cap) (h2 : cap ≤ 1048576) (hp1 : 0 ≤ p1 ∧ p1 ≤ cap) (hp2 : 0 ≤ p2 ∧ p2 ≤ cap) (hy : 0 ≤ y ∧ y ≤ cap) :
    IntKind.i64.wrap ((c + t) * c) = (c + t) * c ∧ IntKind.i64.wrap (y - p2) = y - p2 ∧ IntKind.i64.wrap ((c + t) * c * (y - p2)) = (c + t) * c * (y - p2) ∧ IntKind.i64.wrap (c * t * (p2 - p1) + (c + t) * c * (y - p2)) = c * t * (p2 - p1) + (c + t) * c * (y - p2) := by
  have a1 := mul_bd (a := c) (b := t) (A := 10000) (B := 10000) (by omega) (by omega) (by omega) (by omega)
  have a2 := mul_bd (a := c * t) (b := p2 - p1) (A := 100000000) (B := 1048576) (by omega) (by omega) (by omega) (by omega)
  have a3 := mul_bd (a := c + t) (b := c) (A := 20000) (B := 10000) (by omega) (by omega) (by omega) (by omega)
  have a4 := mul_bd (a := (c + t) * c) (b := y - p2) (A := 200000000) (B := 1048576) (by omega) (by omega) (by omega) (by omega)
  exact ⟨IntWalk.i64_in _ (by omega), IntWalk.i64_in _ (by omega), IntWalk.i64_in _ (by omega), IntWalk.i64_in _ (by omega)⟩

theorem OS.all {w : World} {c t : Int} {x : World} (h : OS w c t x) : OS w c t x ∧ w.heap.size + 3 ≤ x.heap.size ∧ x.cell? ⟨w.heap.size + 1 + 1, 0, none⟩ = some (.int .i64 c) ∧ x.cell? ⟨w.heap.size + 1 + 1, 1, none⟩ = some (.int .i64 t) := ⟨h, h.sz, h.c0, h.c1⟩

set_option maxRecDepth 100000 in
set_option maxHeartbeats 2000000 in
theorem of38_main (A : Option Addr) (n cp : Nat) (f : Nat → Smp) (k : Nat) (v c t cap : Int) (adj : Bool) (w : World) (hn : n ≤ 1048576) (hnc : n ≤ cp)
    (hR : RowsAt w w.heap.size 10 A n fun i => (f i).cells) (hin : InSmp f n) (hk : k < n) (hv : vldWI c t = true) (h1 : 1 ≤ cap) (h2 : cap ≤ 1048576) :
    Calls Try.prog 38 #[.slice A n cp, .int .i64 k, .agg #[.int .i64 v, .int .i64 c, .int .i64 t], .int .i64 cap, .bool adj] w (OfPost (ofR f n k c t cap adj) w) := by
  have hRw := hR
  obtain ⟨b, off, rfl, hb, hcell⟩ := hR (by omega)
  have hvv : 1 ≤ c ∧ c ≤ 10000 ∧ 1 ≤ t ∧ t ≤ 10000 := by simpa [vldWI, and_assoc] using hv
  have hk0 : decide ((k : Int) < 0) = false := by simp
  have hk1 : decide (n ≤ k) = false := by simpa using hk
  have hk2 : decide (cap < 1) = false := by simpa using h1
  have hk3 : decide (1048576 < cap) = false := by simpa using h2
  have hof : okV f cap (k + 1) = false → ofR f n k c t cap adj = none := fun h => by simp [ofR, h]
  have hof := Lib.hid hof
  go_enter Try.func38, Try.ntmps38
  go_wp2_with (go_at_call 83; refine (valid83 _ _ _).mono ?_; rintro e w1 ⟨rfl, hb⟩; have hO := (OS.start _ _ _ _).go hb; clear hb)
  clear hk0 hk1 hk2 hk3
  go_loopg [51] (k + 1) (fun m i wr => ∃ j : Nat, j ≤ k + 1 ∧ m = k + 1 - j ∧ i = .int .i64 j ∧ okV f cap j = true ∧ OS w c t wr)
  case atStart => exact ⟨0, by omega, by omega, rfl, rfl, hO⟩
  case round =>
    clear hO
    obtain ⟨j, hj, hm, rfl, hok, hO⟩ := hrel
    have HM := Lib.hid hm
    have HK := Lib.hid hok
    clear hm hok
    have hF := hO.facts
    by_cases hjk : j < k + 1
    · have hO1 := hO.alloc (.cells #[.string (f j).id, .string (f j).client, .int .i64 (f j).seq, .int .i64 (f j).time, .int .i64 (f j).arm, .int .i64 (f j).version, .int .i64 (f j).value, .int .i64 (f j).below, .int .i64 (f j).before, .bool (f j).mixed] 34)
      obtain ⟨⟨r0, r1, r2⟩, rf, q0, q1, hz⟩ := hO1.facts
      have g : ∀ q u, (f j).cells[q]? = some u → wr.cell? ⟨b, off + j * 10 + q, none⟩ = some u := fun q u hu => (hO.low.cell (by exact hb)).trans (hcell j (by omega) q u hu)
      have g0 := g 0 _ rfl
      have g1 := g 1 _ rfl
      have g2 := g 2 _ rfl
      have g3 := g 3 _ rfl
      have g4 := g 4 _ rfl
      have g5 := g 5 _ rfl
      have g6 := g 6 _ rfl
      have g7 := g 7 _ rfl
      have g8 := g 8 _ rfl
      have g9 := g 9 _ rfl
      clear g
      simp only [Nat.add_zero] at g0
      cases ha : decide ((f j).value < 0)
      · cases hb2 : decide (cap < (f j).value)
        · have hok' : okV f cap (j + 1) = true := by simp only [decide_eq_false_iff_not] at ha hb2; simp only [okV, HK.out]; simp; omega
          have HK' := Lib.hid hok'
          clear hok'
          go_wp2_with fail
          go_roundg (k + 1 - (j + 1))
          case measure => have := HM.out; omega
          case rel => exact ⟨j + 1, by omega, rfl, by go_num, HK'.out, hO.alloc _⟩
        · have hbad : ofR f n k c t cap adj = none := hof.out (by
            cases h : okV f cap (k + 1)
            · rfl
            · have := okV_at h (show j < k + 1 by omega); simp only [decide_eq_true_eq] at hb2; omega)
          have HB := Lib.hid hbad
          clear hbad
          go_wp2_with fail
          exact bodyPost_ret (v := .tuple #[scoreV none, .bool false]) (by simp [results, Try.results38, go_sem, scoreV, r0, r1, r2]) rfl ⟨by rw [HB.out]; rfl, by repeat (first | exact hO1.low | refine Below.setCell ?_ (by simp <;> omega) _)⟩
      · have hbad : ofR f n k c t cap adj = none := hof.out (by
          cases h : okV f cap (k + 1)
          · rfl
          · have := okV_at h (show j < k + 1 by omega); simp only [decide_eq_true_eq] at ha; omega)
        have HB := Lib.hid hbad
        clear hbad
        go_wp2_with fail
        exact bodyPost_ret (v := .tuple #[scoreV none, .bool false]) (by simp [results, Try.results38, go_sem, scoreV, r0, r1, r2]) rfl ⟨by rw [HB.out]; rfl, by repeat (first | exact hO1.low | refine Below.setCell ?_ (by simp <;> omega) _)⟩
    · obtain rfl : j = k + 1 := by omega
      have hkv := okV_at HK.out (show k < k + 1 by omega)
      have hp : ∀ arm, 0 ≤ predT f n k arm cap ∧ predT f n k arm cap ≤ cap := fun arm => by
        have := predI_bd f cap k arm (by omega) (okV_mono (k + 1) (by omega) HK.out)
        simpa [predT, hk] using this
      have hRr := hRw.below hO.low (Nat.le_refl _)
      have hp1 : 0 ≤ (if adj then predT f n k 1 cap else 0) ∧ (if adj then predT f n k 1 cap else 0) ≤ cap := by
        have := hp 1; cases adj
        · simp; omega
        · simpa using this
      have hp2 : 0 ≤ (if adj then predT f n k 2 cap else 0) ∧ (if adj then predT f n k 2 cap else 0) ≤ cap := by
        have := hp 2; cases adj
        · simp; omega
        · simpa using this
      obtain ⟨p1, hp1e⟩ : ∃ p, p = (if adj then predT f n k 1 cap else 0) := ⟨_, rfl⟩
      obtain ⟨p2, hp2e⟩ : ∃ p, p = (if adj then predT f n k 2 cap else 0) := ⟨_, rfl⟩
      rw [← hp1e] at hp1
      rw [← hp2e] at hp2
      have Hp1 := Lib.hid hp1e
      have Hp2 := Lib.hid hp2e
      clear hp1e hp2e
      go_upto_if 66 with fail
      go_cut [15, 16] (fun s15 s16 wx => s15 = .int .i64 p1 ∧ s16 = .int .i64 p2 ∧ OS w c t wx)
      case first =>
        cases adj
        · go_wp2_with fail
          go_meet
          case rel => exact ⟨by rw [Hp1.out]; rfl, by rw [Hp2.out]; rfl, hO⟩
        · go_wp2_with fail
          refine (predict34 _ n cp f k 1 cap _ hn hnc (hRr.more hO.low.size) hin (by omega) (by omega)).mono ?_
          rintro e w2 ⟨rfl, hb2⟩
          have hO2 := hO.go hb2
          go_wp2_with fail
          refine (predict34 _ n cp f k 2 cap _ hn hnc ((hRr.more hO.low.size).below hb2 (Nat.le_refl _) |>.more hb2.size) hin (by omega) (by omega)).mono ?_
          rintro e w3 ⟨rfl, hb3⟩
          go_wp2_with fail
          go_meet
          case rel => exact ⟨by rw [Hp1.out]; rfl, by rw [Hp2.out]; rfl, hO2.go hb3⟩
      case rest =>
        obtain ⟨rfl, rfl, hO3⟩ := hcut
        clear hO hp hRr
        have W := of_wraps hvv h1 h2 hp1 hp2
        obtain ⟨wb, ww1, ww2, ww3, ww4, ww5, ww6, ww7, ww8, ww9⟩ := W
        go_upto_region 13 with fail
        go_cut [17] (fun s17 wx => ∃ g, s17 = .pointer (some ⟨g, 0, none⟩) ∧ w.heap.size + 3 ≤ g ∧ wx.heap[g]? = some (.cells #[.int .i64 (c * t * (p2 - p1)), .int .i64 (c * t * cap), .int .i64 (cap * (2 * (c * t) + (c + t) * max c t))] 37 (0, 0)) ∧ OS w c t wx)
        case first =>
          have q0 : ∀ x : Beh LeW wc.drew, x.w.cell? ⟨w.heap.size + 1 + 1, 0, none⟩ = some (.int .i64 c) := fun x => (hO3.drew.go x.h).c0
          have q1 : ∀ x : Beh LeW wc.drew, x.w.cell? ⟨w.heap.size + 1 + 1, 1, none⟩ = some (.int .i64 t) := fun x => (hO3.drew.go x.h).c1
          refine wp_region_late (R := LeW) 26 143 [(1, [], none), (7, [], none), (12, [], none), (15, [], none), (25, [], some (fresh (w.heap.size + 3) #[.int .i64 0, .int .i64 0, .int .i64 0] 37))] (by kernel_rfl) (by kernel_rfl) (by kernel_rfl) rfl LeW.refl (fun _ _ _ => LeW.trans) ?_
          simp only [Late, List.take_succ_cons, List.drop_succ_cons, List.take_zero, List.drop_zero, Nat.reduceSub, Nat.reduceAdd, Nat.sub_zero]
          repeat (go_big_quiet_step (fail))
          refine wpQuiet_nil ?_
          refine late_call Try.func84 (by kernel_rfl) (by kernel_rfl) (fun x => (product84 c t x.w (by omega) (by omega) (by omega) (by omega))) rfl (by simp only [Act.put, List.setIfInBounds_toArray, List.set_cons_succ, List.set_cons_zero]; rfl) ?_
          repeat (go_big_quiet_step (fail))
          refine wpQuiet_nil ?_
          refine late_call Try.func84 (by kernel_rfl) (by kernel_rfl) (fun x => (product84 c t x.w (by omega) (by omega) (by omega) (by omega))) rfl (by simp only [Act.put, List.setIfInBounds_toArray, List.set_cons_succ, List.set_cons_zero]; rfl) ?_
          repeat (go_big_quiet_step (fail))
          refine wpQuiet_nil ?_
          refine late_call Try.func84 (by kernel_rfl) (by kernel_rfl) (fun x => (product84 c t x.w (by omega) (by omega) (by omega) (by omega))) rfl (by simp only [Act.put, List.setIfInBounds_toArray, List.set_cons_succ, List.set_cons_zero]; rfl) ?_
          repeat (go_big_quiet_step (fail))
          refine wpQuiet_nil ?_
          refine late_call Try.func85 (by kernel_rfl) (by kernel_rfl) (fun x => (sum85 c t x.w (by omega) (by omega) (by omega) (by omega))) rfl (by simp only [Act.put, List.setIfInBounds_toArray, List.set_cons_succ, List.set_cons_zero]; rfl) ?_
          repeat (go_big_quiet_step (fail))
          refine wpQuiet_nil ?_
          refine late_alloc (fun _ _ => by kernel_rfl) (fun x => (hO3.drew.go x.h).sz) (by simp only [Act.put, List.setIfInBounds_toArray, List.set_cons_succ, List.set_cons_zero]; rfl) ?_
          refine wpQuiet_nil ?_
          intro x
          simp only [List.nil_append, allGens, Option.getD_some]
          rintro v ⟨g, rfl, hg, hblk⟩
          have hO4 := hO3.drew.go x.h
          simp only [Act.put, List.setIfInBounds_toArray, List.set_cons_succ, List.set_cons_zero]
          have z0 := cell_of_block hblk 0
          have z1 := cell_of_block hblk 1
          have z2 := cell_of_block hblk 2
          have z3 := free_of_block hblk
          simp only [List.getElem?_toArray, List.getElem?_cons_zero, List.getElem?_cons_succ] at z0 z1 z2
          generalize x.w = w4 at *
          go_wp2_with fail
          go_meet
          case rel => exact ⟨g, rfl, hg, block_set (block_set (block_set hblk 0 _) 1 _) 2 _, ((hO4.set hg _).set hg _).set hg _⟩
        case rest =>
          obtain ⟨g, rfl, hg, hblk, hO4⟩ := hcut
          have gk : ∀ q u, (f k).cells[q]? = some u → wc.cell? ⟨b, off + k * 10 + q, none⟩ = some u := fun q u hu => (hO4.low.cell (by exact hb)).trans (hcell k (by omega) q u hu)
          have g4 := gk 4 _ rfl
          have g6 := gk 6 _ rfl
          clear gk
          obtain ⟨⟨r0, r1, r2⟩, rf, _, _, hz⟩ := hO4.facts
          have hy := okV_at HK.out (show k < k + 1 by omega)
          have W1 := arm_wraps hvv h1 h2 hp1 hp2 hy
          have W2 := arm_wraps2 hvv h1 h2 hp1 hp2 hy
          obtain ⟨v1, v2, v3, v4, v5, v6⟩ := W1
          obtain ⟨u1, u2, u3, u4⟩ := W2
          have hofk : ofR f n k c t cap adj = if (f k).arm = 1 then some (c * t * (p2 - p1) - (c + t) * t * ((f k).value - p1), c * t * cap, cap * (2 * (c * t) + (c + t) * max c t)) else if (f k).arm = 2 then some (c * t * (p2 - p1) + (c + t) * c * ((f k).value - p2), c * t * cap, cap * (2 * (c * t) + (c + t) * max c t)) else none := by
            have e1 := Hp1.out
            have e2 := Hp2.out
            simp only [ofR, Int.toNat_natCast]
            rw [if_pos ⟨by omega, by omega, hv, h1, h2, HK.out⟩, e1, e2]
          have Hof := Lib.hid hofk
          clear hofk hof
          cases ha1 : ((f k).arm == 1)
          · cases ha2 : ((f k).arm == 2)
            · go_wp2_with fail
              exact bodyPost_ret (v := .tuple #[scoreV none, .bool false]) (by simp [results, Try.results38, go_sem, scoreV, r0, r1, r2]) rfl ⟨by rw [Hof.out, if_neg (by simpa using ha1), if_neg (by simpa using ha2)]; rfl, by repeat (first | exact hO4.low | refine Below.setCell ?_ (by simp <;> omega) _)⟩
            · go_wp2_with fail
              have q0 : ∀ x : Beh LeW wc.drew, x.w.cell? ⟨w.heap.size + 1 + 1, 0, none⟩ = some (.int .i64 c) := fun x => (hO4.drew.go x.h).c0
              have q1 : ∀ x : Beh LeW wc.drew, x.w.cell? ⟨w.heap.size + 1 + 1, 1, none⟩ = some (.int .i64 t) := fun x => (hO4.drew.go x.h).c1
              have zz : ∀ x : Beh LeW wc.drew, x.w.heap[g]? = some (.cells #[.int .i64 (c * t * (p2 - p1)), .int .i64 (c * t * cap), .int .i64 (cap * (2 * (c * t) + (c + t) * max c t))] 37 (0, 0)) := fun x => by rw [x.h.block g (lt_of_blk (w := wc) hblk)]; exact hblk
              have z0 : ∀ x : Beh LeW wc.drew, x.w.cell? ⟨g, 0, none⟩ = some (.int .i64 (c * t * (p2 - p1))) := fun x => cell_of_block (zz x) 0
              have z1 : ∀ x : Beh LeW wc.drew, x.w.cell? ⟨g, 1, none⟩ = some (.int .i64 (c * t * cap)) := fun x => cell_of_block (zz x) 1
              have z2 : ∀ x : Beh LeW wc.drew, x.w.cell? ⟨g, 2, none⟩ = some (.int .i64 (cap * (2 * (c * t) + (c + t) * max c t))) := fun x => cell_of_block (zz x) 2
              have z3 : ∀ x : Beh LeW wc.drew, x.w.frozen? ⟨g, 0, none⟩ = false := fun x => free_of_block (zz x) 0
              refine wp_region_late (R := LeW) 13 143 [(3, [], none)] (by kernel_rfl) (by kernel_rfl) (by kernel_rfl) rfl LeW.refl (fun _ _ _ => LeW.trans) ?_
              simp only [Late, List.take_succ_cons, List.drop_succ_cons, List.take_zero, List.drop_zero, Nat.sub_zero]
              repeat (go_big_quiet_step (fail))
              refine wpQuiet_nil ?_
              refine late_call Try.func85 (by kernel_rfl) (by kernel_rfl) (fun x => (sum85 c t x.w (by omega) (by omega) (by omega) (by omega))) rfl (by simp only [Act.put, List.setIfInBounds_toArray, List.set_cons_succ, List.set_cons_zero]; rfl) ?_
              repeat (go_big_quiet_step (fail))
              refine wpQuiet_nil ?_
              intro x
              simp only [allGens]
              have hO5 := (hO4.drew.go x.h)
              obtain ⟨⟨r0, r1, r2⟩, rf, _, _, hz⟩ := hO5.facts
              have y0 := z0 x
              have y1 := z1 x
              have y2 := z2 x
              have y3 := z3 x
              have zzx := zz x
              clear q0 q1 z0 z1 z2 z3 zz
              generalize x.w = w4 at *
              have hs0 := hO5.set (p := ⟨g, 0, none⟩) hg (.int .i64 (c * t * (p2 - p1) + (c + t) * c * ((f k).value - p2)))
              obtain ⟨⟨s0, s1, s2⟩, sf, _, _, hsz⟩ := hs0.facts
              have hb := block_set zzx 0 (.int .i64 (c * t * (p2 - p1) + (c + t) * c * ((f k).value - p2)))
              have v0 := cell_of_block hb 0
              have v1 := cell_of_block hb 1
              have v2 := cell_of_block hb 2
              go_wp2_with fail
              exact bodyPost_ret (v := .tuple #[.agg #[.int .i64 (c * t * (p2 - p1) + (c + t) * c * ((f k).value - p2)), .int .i64 (c * t * cap), .int .i64 (cap * (2 * (c * t) + (c + t) * max c t))], .bool true]) (by simp [results, Try.results38, go_sem, s0, s1, s2]) rfl ⟨by rw [Hof.out, if_neg (by simpa using ha1), if_pos (by simpa using ha2)]; rfl, by repeat (first | exact hs0.low | refine Below.setCell ?_ (by simp <;> omega) _)⟩
          · go_wp2_with fail
            have q0 : ∀ x : Beh LeW wc.drew, x.w.cell? ⟨w.heap.size + 1 + 1, 0, none⟩ = some (.int .i64 c) := fun x => (hO4.drew.go x.h).c0
            have q1 : ∀ x : Beh LeW wc.drew, x.w.cell? ⟨w.heap.size + 1 + 1, 1, none⟩ = some (.int .i64 t) := fun x => (hO4.drew.go x.h).c1
            have zz : ∀ x : Beh LeW wc.drew, x.w.heap[g]? = some (.cells #[.int .i64 (c * t * (p2 - p1)), .int .i64 (c * t * cap), .int .i64 (cap * (2 * (c * t) + (c + t) * max c t))] 37 (0, 0)) := fun x => by rw [x.h.block g (lt_of_blk (w := wc) hblk)]; exact hblk
            have z0 : ∀ x : Beh LeW wc.drew, x.w.cell? ⟨g, 0, none⟩ = some (.int .i64 (c * t * (p2 - p1))) := fun x => cell_of_block (zz x) 0
            have z1 : ∀ x : Beh LeW wc.drew, x.w.cell? ⟨g, 1, none⟩ = some (.int .i64 (c * t * cap)) := fun x => cell_of_block (zz x) 1
            have z2 : ∀ x : Beh LeW wc.drew, x.w.cell? ⟨g, 2, none⟩ = some (.int .i64 (cap * (2 * (c * t) + (c + t) * max c t))) := fun x => cell_of_block (zz x) 2
            have z3 : ∀ x : Beh LeW wc.drew, x.w.frozen? ⟨g, 0, none⟩ = false := fun x => free_of_block (zz x) 0
            refine wp_region_late (R := LeW) 13 143 [(3, [], none)] (by kernel_rfl) (by kernel_rfl) (by kernel_rfl) rfl LeW.refl (fun _ _ _ => LeW.trans) ?_
            simp only [Late, List.take_succ_cons, List.drop_succ_cons, List.take_zero, List.drop_zero, Nat.sub_zero]
            repeat (go_big_quiet_step (fail))
            refine wpQuiet_nil ?_
            refine late_call Try.func85 (by kernel_rfl) (by kernel_rfl) (fun x => (sum85 c t x.w (by omega) (by omega) (by omega) (by omega))) rfl (by simp only [Act.put, List.setIfInBounds_toArray, List.set_cons_succ, List.set_cons_zero]; rfl) ?_
            repeat (go_big_quiet_step (fail))
            refine wpQuiet_nil ?_
            intro x
            simp only [allGens]
            have hO5 := (hO4.drew.go x.h)
            obtain ⟨⟨r0, r1, r2⟩, rf, _, _, hz⟩ := hO5.facts
            have y0 := z0 x
            have y1 := z1 x
            have y2 := z2 x
            have y3 := z3 x
            have zzx := zz x
            clear q0 q1 z0 z1 z2 z3 zz
            generalize x.w = w4 at *
            have hs0 := hO5.set (p := ⟨g, 0, none⟩) hg (.int .i64 (c * t * (p2 - p1) - (c + t) * t * ((f k).value - p1)))
            obtain ⟨⟨s0, s1, s2⟩, sf, _, _, hsz⟩ := hs0.facts
            have hb := block_set zzx 0 (.int .i64 (c * t * (p2 - p1) - (c + t) * t * ((f k).value - p1)))
            have v0 := cell_of_block hb 0
            have v1 := cell_of_block hb 1
            have v2 := cell_of_block hb 2
            go_wp2_with fail
            exact bodyPost_ret (v := .tuple #[.agg #[.int .i64 (c * t * (p2 - p1) - (c + t) * t * ((f k).value - p1)), .int .i64 (c * t * cap), .int .i64 (cap * (2 * (c * t) + (c + t) * max c t))], .bool true]) (by simp [results, Try.results38, go_sem, s0, s1, s2]) rfl ⟨by rw [Hof.out, if_pos (by simpa using ha1)]; rfl, by repeat (first | exact hs0.low | refine Below.setCell ?_ (by simp <;> omega) _)⟩
theorem ofR_bad {f : Nat → Smp} {n : Nat} {k c t cap : Int} {adj : Bool} (h : ¬(0 ≤ k ∧ k < n ∧ vldWI c t = true ∧ 1 ≤ cap ∧ cap ≤ 1048576)) : ofR f n k c t cap adj = none := by
  unfold ofR
  exact if_neg fun hh => h ⟨hh.1, hh.2.1, hh.2.2.1, hh.2.2.2.1, hh.2.2.2.2.1⟩

theorem of38 (A : Option Addr) (n cp : Nat) (f : Nat → Smp) (k v c t cap : Int) (adj : Bool) (w : World) (hn : n ≤ 1048576) (hnc : n ≤ cp)
    (hR : RowsAt w w.heap.size 10 A n fun i => (f i).cells) (hin : InSmp f n) :
    Calls Try.prog 38 #[.slice A n cp, .int .i64 k, .agg #[.int .i64 v, .int .i64 c, .int .i64 t], .int .i64 cap, .bool adj] w (OfPost (ofR f n k c t cap adj) w) := by
  by_cases h : 0 ≤ k ∧ k < n ∧ vldWI c t = true ∧ 1 ≤ cap ∧ cap ≤ 1048576
  · obtain ⟨h0, h1, h2, h3, h4⟩ := h
    obtain ⟨k, rfl⟩ := Int.eq_ofNat_of_zero_le h0
    exact of38_main A n cp f k v c t cap adj w hn hnc hR hin (by omega) h2 h3 h4
  · rw [ofR_bad h]
    refine of38_bad1 A n cp k v c t cap adj w hn ?_
    by_cases a : k < 0
    · exact .inl a
    by_cases b : (n : Int) ≤ k
    · exact .inr (.inl b)
    cases hv : vldWI c t
    · exact .inr (.inr (.inl rfl))
    · refine .inr (.inr (.inr ?_))
      by_cases d : cap < 1
      · exact .inl d
      · refine .inr (Decidable.byContradiction fun e => h ⟨by omega, by omega, hv, by omega, by omega⟩)
end Go.Proofs.Ytgonighpjpfmnaa
