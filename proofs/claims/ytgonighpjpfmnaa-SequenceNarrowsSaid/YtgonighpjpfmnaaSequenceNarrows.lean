/- The walk of flagstonelaw41.SequenceNarrows. -/
import Derived.Test.YtgonighpjpfmnaaOf72
import Derived.Test.YtgonighpjpfmnaaSeqLaw
namespace Go.Proofs.Ytgonighpjpfmnaa
open Go.RowKit Go.Maps

theorem searchN_mono {p p' : Int → Bool} (h : ∀ x, p x = true → p' x = true) : ∀ (fuel : Nat) (i j : Int), i ≤ j → searchN p fuel i j ≤ searchN p' fuel i j
  | 0, i, j, _ => Int.le_refl _
  | fuel + 1, i, j, hij => by
    rw [searchN, searchN]
    by_cases hlt : i < j
    · rw [if_pos hlt, if_pos hlt]
      cases h1 : p ((i + j) / 2) with
      | true =>
        rw [h _ h1, if_pos rfl, if_pos rfl]
        exact searchN_mono h fuel _ _ (by omega)
      | false =>
        rw [if_neg (by decide)]
        cases h2 : p' ((i + j) / 2) with
        | true =>
          rw [if_pos rfl]
          have b1 := searchN_bd p fuel i ((i + j) / 2) (by omega)
          have b2 := searchN_bd p' fuel ((i + j) / 2 + 1) j (by omega)
          omega
        | false =>
          rw [if_neg (by decide)]
          exact searchN_mono h fuel _ _ (by omega)
    · rw [if_neg hlt, if_neg hlt]; exact Int.le_refl _

theorem endI_mono {N N' : Int → Int} {k k' : Int} (hN : ∀ e, N' e ≤ N e) (hk : k ≤ k') : endI N true k ≤ endI N' true k' ∧ endI N' false k' ≤ endI N false k := by
  have h1 := searchN_mono (p := fun h => decide (N (h - 1000) ≤ k)) (p' := fun h => decide (N' (h - 1000) ≤ k')) (fun x hx => by
    simp only [decide_eq_true_eq] at hx ⊢
    have := hN (x - 1000)
    omega) 2002 0 2001 (by omega)
  have h2 := searchN_mono (p := fun h => decide (N (-(h - 1000)) ≤ k)) (p' := fun h => decide (N' (-(h - 1000)) ≤ k')) (fun x hx => by
    simp only [decide_eq_true_eq] at hx ⊢
    have := hN (-(x - 1000))
    omega) 2002 0 2001 (by omega)
  unfold endI
  simp only [if_true, Bool.false_eq_true, if_false]
  omega

theorem firstN_thr {f : Nat → Int} {t t' : Int} (ht : t ≤ t') : ∀ n, firstN f t' n ≠ 0 → firstN f t n ≠ 0 ∧ firstN f t n ≤ firstN f t' n
  | 0, h => absurd rfl h
  | n + 1, h => by
    have hle := firstN_le (f := f) (t := t) n
    have e1 : firstN f t (n + 1) = if firstN f t n = 0 then (if t ≤ f n then n + 1 else 0) else firstN f t n := rfl
    have e2 : firstN f t' (n + 1) = if firstN f t' n = 0 then (if t' ≤ f n then n + 1 else 0) else firstN f t' n := rfl
    rw [e2] at h
    rw [e1, e2]
    by_cases h0 : firstN f t' n = 0
    · rw [if_pos h0] at h ⊢
      by_cases h1 : t' ≤ f n
      · rw [if_pos h1]
        by_cases h2 : firstN f t n = 0
        · rw [if_pos h2, if_pos (by omega)]; omega
        · rw [if_neg h2]; omega
      · rw [if_neg h1] at h; exact absurd rfl h
    · obtain ⟨i1, i2⟩ := firstN_thr ht n h0
      rw [if_neg i1, if_neg h0]
      exact ⟨i1, i2⟩

theorem numX_thr (f : Nat → Scr) (up : Bool) {t t' : Int} (n : Nat) (hn : n ≤ 1048576) (ht : t ≤ t') (e : Int) : numX f up t n e ≤ numX f up t' n e := by
  have h1 := firstN_le (f := fun i => (pathR f e up n).getD i 0) (t := t) n
  have h2 := firstN_thr (f := fun i => (pathR f e up n).getD i 0) ht n
  unfold numX
  by_cases h3 : firstN (fun i => (pathR f e up n).getD i 0) t' n = 0
  · rw [if_pos h3]
    split <;> omega
  · obtain ⟨i1, i2⟩ := h2 h3
    rw [if_neg i1, if_neg h3]
    omega

theorem thrI_anti {x y : Int} (h1 : 1 ≤ x) (h2 : x ≤ y) (h3 : y ≤ 999) : thrI y 2 ≤ thrI x 2 := by
  unfold thrI
  rw [if_neg (by omega), if_neg (by omega)]
  have e1 := Int.mul_ediv_add_emod (2 * 1000 * 4294967296 + x - 1) x
  have e2 := Int.emod_lt_of_pos (2 * 1000 * 4294967296 + x - 1) (show 0 < x by omega)
  have hq : 0 ≤ (2 * 1000 * 4294967296 + x - 1) / x := Int.ediv_nonneg (by omega) (by omega)
  generalize (2 * 1000 * 4294967296 + x - 1) / x = q at *
  have e3 : x * q ≤ y * q := Int.mul_le_mul_of_nonneg_right h2 hq
  refine Int.le_of_lt_add_one (Int.ediv_lt_of_lt_mul (by omega) ?_)
  rw [Int.add_mul, Int.mul_comm q y]
  omega

/-- The interval's ends behind each number of scores. -/
def lowsR (f : Nat → Scr) (level : Int) (n : Nat) (k : Nat) : Int := endI (numX f true (thrI level 2) n) true ((k : Int) + 1)
def highsR (f : Nat → Scr) (level : Int) (n : Nat) (k : Nat) : Int := endI (numX f false (thrI level 2) n) false ((k : Int) + 1)

theorem narrows (f : Nat → Scr) {x y : Int} (n : Nat) (hn : n ≤ 1048576) (h1 : 1 ≤ x) (h2 : x ≤ y) (h3 : y ≤ 999) (k : Nat) :
    lowsR f x n k ≤ lowsR f x n (k + 1) ∧ highsR f x n (k + 1) ≤ highsR f x n k ∧ lowsR f x n k ≤ lowsR f y n k ∧ highsR f y n k ≤ highsR f x n k := by
  have ht := thrI_anti h1 h2 h3
  refine ⟨(endI_mono (fun _ => Int.le_refl _) (by omega)).1, (endI_mono (fun _ => Int.le_refl _) (by omega)).2, (endI_mono (fun e => numX_thr f true n hn ht e) (Int.le_refl _)).1, (endI_mono (fun e => numX_thr f false n hn ht e) (Int.le_refl _)).2⟩


theorem own_list {w : World} {B : Nat} {v : Value} {n : Nat} {F : Nat → Int} (h : Own intC 3 1 w B v ((List.range n).map F)) : ∃ A cap, v = .slice A n cap ∧ n ≤ cap ∧ RowsAt w w.heap.size 1 A n (fun i => [.int .i64 (F i)]) := by
  obtain ⟨A, cap, rfl, hc⟩ := Own.shape h
  have hr := Own.rows (c := intC) intC_len 0 h
  rw [List.length_map, List.length_range] at hc hr ⊢
  refine ⟨A, cap, rfl, hc, fun hn => ?_⟩
  obtain ⟨b, off, hA, hb, hcell⟩ := hr hn
  refine ⟨b, off, hA, hb, fun i hi j u hu => hcell i hi j u ?_⟩
  show (intC (((List.range n).map F).getD i 0))[j]? = some u
  rw [List.getD_eq_getElem?_getD, List.getElem?_map, List.getElem?_range hi]
  exact hu

set_option maxRecDepth 100000 in
set_option maxHeartbeats 6000000 in
theorem sequenceNarrows26 (a0 : Option Addr) (len0 cap0 : Nat) (z0 : List Int) (a1 a2 : Int) (w : World) (w0 : IsRow .u8 w a0 len0 cap0 z0) (w1 : (Lit.int .u16 a1).wf = true) (w2 : (Lit.int .u16 a2).wf = true) :
    Calls Try.prog 26 #[.slice a0 len0 cap0, .int .u16 a1, .int .u16 a2] w fun e w' => e = .returned (.bool true) ∧ Below w.heap.size w w' := by
  have b1 := bounds_u16 w1
  have b2 := bounds_u16 w2
  have hB := w0.bytes
  clear w0 w1 w2
  by_cases hlen : 40 < len0
  · go_enter Try.func26, Try.ntmps26
    go_wp2_with (go_at_call 67; refine (awake67 _).mono ?_; rintro e w' ⟨rfl, hb⟩)
    go_ret
    exact ⟨rfl, hb⟩
  · obtain ⟨p, hp⟩ : ∃ n, 1 + min a1 a2 % 999 = n := ⟨_, rfl⟩
    obtain ⟨q, hq⟩ : ∃ n, 1 + max a1 a2 % 999 = n := ⟨_, rfl⟩
    have hpb : 1 ≤ p ∧ p ≤ 999 := by omega
    have hqb : 1 ≤ q ∧ q ≤ 999 := by omega
    obtain ⟨x, hx⟩ : ∃ x, min p q = x := ⟨_, rfl⟩
    obtain ⟨y, hy⟩ : ∃ y, max p q = y := ⟨_, rfl⟩
    have hxb : 1 ≤ x ∧ x ≤ y ∧ y ≤ 999 := by omega
    go_enter Try.func26, Try.ntmps26
    go_wp2_with fail
    refine (awake67 w).mono ?_
    rintro e w1 ⟨rfl, hb1⟩
    go_wp2_with fail
    refine (scores49 a0 len0 cap0 w1 (by omega) ((hB.kept hb1 (Nat.le_refl _)).more' hb1.size)).mono ?_
    rintro e w2 ⟨v, l, rfl, hl, hs, hown, hb2⟩
    obtain ⟨A, cp, rfl, hcp⟩ := Own.shape hown
    have hR := Own.rows (c := Scr.cells) (fun _ => rfl) default hown
    have hRb := small_bd hs
    have hb := below_trans' hb1 hb1.size hb2
    obtain ⟨n, hn⟩ : ∃ n, l.length = n := ⟨_, rfl⟩
    obtain ⟨f, hf⟩ : ∃ f : Nat → Scr, (fun i => l.getD i default) = f := ⟨_, rfl⟩
    replace hR : RowsAt w2 w2.heap.size 3 A n fun i => (f i).cells := by rw [← hf, ← hn]; exact hR
    replace hRb : ∀ k, k < n → -9223372036854775808 ≤ (f k).unit ∧ (f k).rng ≤ 9223372036854775807 := by rw [← hf, ← hn]; exact hRb
    rw [hn] at hl hcp ⊢
    clear hown hs hB hb1 hb2 hf hn
    have HRb := Lib.hid hRb
    clear hRb
    go_upto_if 34 with fail
    go_cut [8, 9] (fun s8 s9 wx => s8 = .int .i64 x ∧ s9 = .int .i64 y ∧ wx = w2)
    case first =>
      by_cases h1 : q < p
      · go_wp2_with fail
        go_meet
        case rel => exact ⟨by rw [← hx, show min p q = q by omega], by rw [← hy, show max p q = p by omega], rfl⟩
      · go_wp2_with fail
        go_meet
        case rel => exact ⟨by rw [← hx, show min p q = p by omega], by rw [← hy, show max p q = q by omega], rfl⟩
    case rest =>
      obtain ⟨rfl, rfl, rfl⟩ := hcut
      clear hp hq hx hy hpb hqb
      have o1 := fun w' => of72 A n cp f x w' (by omega)
      have o2 := fun w' => of72 A n cp f y w' (by omega)
      have hnar := fun k => narrows f (x := x) (y := y) n (by omega) hxb.1 hxb.2.1 hxb.2.2 k
      obtain ⟨Lx, eLx⟩ : ∃ L, lowsR f x n = L := ⟨_, rfl⟩
      obtain ⟨Hx, eHx⟩ : ∃ L, highsR f x n = L := ⟨_, rfl⟩
      obtain ⟨Ly, eLy⟩ : ∃ L, lowsR f y n = L := ⟨_, rfl⟩
      obtain ⟨Hy, eHy⟩ : ∃ L, highsR f y n = L := ⟨_, rfl⟩
      rw [eLx, eHx, eLy, eHy] at hnar
      change ∀ w', _ → _ → Calls Try.prog 72 _ w' (fun en w2 => ∃ vl vh, en = .returned (.agg #[vl, vh]) ∧ Own intC 3 1 w2 w'.heap.size vl ((List.range n).map (lowsR f x n)) ∧ Own intC 3 1 w2 w'.heap.size vh ((List.range n).map (highsR f x n)) ∧ Below w'.heap.size w' w2) at o1
      change ∀ w', _ → _ → Calls Try.prog 72 _ w' (fun en w2 => ∃ vl vh, en = .returned (.agg #[vl, vh]) ∧ Own intC 3 1 w2 w'.heap.size vl ((List.range n).map (lowsR f y n)) ∧ Own intC 3 1 w2 w'.heap.size vh ((List.range n).map (highsR f y n)) ∧ Below w'.heap.size w' w2) at o2
      rw [eLx, eHx] at o1
      rw [eLy, eHy] at o2
      have O1 := Lib.hid o1
      have O2 := Lib.hid o2
      have HN := Lib.hid hnar
      clear o1 o2 hnar eLx eHx eLy eHy
      go_wp2_with fail
      refine (O1.out _ hR HRb.out).mono ?_
      rintro e w3 ⟨vl, vh, rfl, hol, hoh, hb3⟩
      replace hb := below_trans' hb hb.size hb3
      replace hR := (hR.below hb3 (Nat.le_refl _)).more hb3.size
      go_wp2_with fail
      refine (O2.out _ hR HRb.out).mono ?_
      rintro e w4 ⟨ul, uh, rfl, hul, huh, hb4⟩
      replace hb := below_trans' hb hb.size hb4
      replace hol := Own.below hol hb4
      replace hoh := Own.below hoh hb4
      obtain ⟨A1, c1, rfl, k1, s1⟩ := own_list hol
      obtain ⟨A2, c2, rfl, k2, s2⟩ := own_list hoh
      obtain ⟨A3, c3, rfl, k3, s3⟩ := own_list hul
      obtain ⟨A4, c4, rfl, k4, s4⟩ := own_list huh
      clear hol hoh hul huh hb3 hb4 hR O1 O2 HRb
      go_wp2_with fail
      have hbz : Below w4.heap.size w4 ((w4.alloc (.cells #[.slice A1 n c1, .slice A2 n c2] 95)).alloc (.cells #[.slice A3 n c3, .slice A4 n c4] 95)) := ((Below.refl _ _).alloc (Nat.le_refl _) _).alloc (by simp) _
      have g0 : ((w4.alloc (.cells #[.slice A1 n c1, .slice A2 n c2] 95)).alloc (.cells #[.slice A3 n c3, .slice A4 n c4] 95)).heap[w4.heap.size]? = some (.cells #[.slice A1 n c1, .slice A2 n c2] 95 (0, 0)) := by
        rw [Below.heap_alloc _ _ _ (by simp)]; exact heap_alloc_new w4 _
      have g1 : ((w4.alloc (.cells #[.slice A1 n c1, .slice A2 n c2] 95)).alloc (.cells #[.slice A3 n c3, .slice A4 n c4] 95)).heap[w4.heap.size + 1]? = some (.cells #[.slice A3 n c3, .slice A4 n c4] 95 (0, 0)) := by
        have h := heap_alloc_new (w4.alloc (.cells #[.slice A1 n c1, .slice A2 n c2] 95)) (.cells #[.slice A3 n c3, .slice A4 n c4] 95)
        rw [show (w4.alloc (.cells #[.slice A1 n c1, .slice A2 n c2] 95)).heap.size = w4.heap.size + 1 by simp] at h
        exact h
      replace s1 := (s1.below hbz (Nat.le_refl _)).more hbz.size
      replace s2 := (s2.below hbz (Nat.le_refl _)).more hbz.size
      replace s3 := (s3.below hbz (Nat.le_refl _)).more hbz.size
      replace s4 := (s4.below hbz (Nat.le_refl _)).more hbz.size
      replace hb := below_trans' hb hb.size hbz
      generalize ((w4.alloc (.cells #[.slice A1 n c1, .slice A2 n c2] 95)).alloc (.cells #[.slice A3 n c3, .slice A4 n c4] 95)) = w5 at *
      generalize hG1 : w4.heap.size + 1 = G1 at *
      generalize hG0 : w4.heap.size = G0 at *
      clear hG1 hG0 hbz
      go_loopg [12] n (fun m i wr => ∃ k : Nat, k ≤ n ∧ m = n - k ∧ i = .int .i64 k ∧ Below w5.heap.size w5 wr)
      case atStart => exact ⟨0, by omega, by omega, rfl, Below.refl _ _⟩
      case round =>
        obtain ⟨k, hk, hm, rfl, hbr⟩ := hrel
        have HM := Lib.hid hm
        clear hm
        by_cases hkn : k < n
        · have y0 := cell_of_block ((hbr.block _ (lt_of_blk g0)).trans g0) 0
          have y1 := cell_of_block ((hbr.block _ (lt_of_blk g0)).trans g0) 1
          have y2 := cell_of_block ((hbr.block _ (lt_of_blk g1)).trans g1) 0
          have y3 := cell_of_block ((hbr.block _ (lt_of_blk g1)).trans g1) 1
          simp only [List.getElem?_toArray, List.getElem?_cons_zero, List.getElem?_cons_succ] at y0 y1 y2 y3
          obtain ⟨e1, o1, rfl, _, t1⟩ := (s1.below hbr (Nat.le_refl _)) (by omega)
          obtain ⟨e2, o2, rfl, _, t2⟩ := (s2.below hbr (Nat.le_refl _)) (by omega)
          obtain ⟨e3, o3, rfl, _, t3⟩ := (s3.below hbr (Nat.le_refl _)) (by omega)
          obtain ⟨e4, o4, rfl, _, t4⟩ := (s4.below hbr (Nat.le_refl _)) (by omega)
          have v1 := t1 k hkn 0 _ rfl
          have v2 := t2 k hkn 0 _ rfl
          have v3 := t3 k hkn 0 _ rfl
          have v4 := t4 k hkn 0 _ rfl
          simp only [Nat.add_zero, Nat.mul_one] at v1 v2 v3 v4
          obtain ⟨-, -, n1, n2⟩ := HN.out k
          have n3 : ¬ Ly k < Lx k := by omega
          have n4 : ¬ Hx k < Hy k := by omega
          by_cases hk0 : k = 0
          · have hd : decide ((0 : Int) < k) = false := by simp; omega
            have hd' : decide (0 < k) = false := by simp; omega
            have HK0 := Lib.hid hk0
            clear t1 t2 t3 t4 s1 s2 s3 s4 g0 g1 hk0
            generalize Lx k = X at *
            generalize Hx k = Y at *
            generalize Ly k = U at *
            generalize Hy k = V at *
            have d3 : decide (U < X) = false := by simp; omega
            have d4 : decide (Y < V) = false := by simp; omega
            go_wp2_with fail
            go_big_quiet (fail)
            go_wp2_with fail
            go_roundg (n - (k + 1))
            case measure => have := HM.out; omega
            case rel => exact ⟨k + 1, by omega, rfl, by go_num, below_drewN hbr _⟩
          · have hd : decide ((0 : Int) < k) = true := by simp; omega
            have hd' : decide (0 < k) = true := by simp; omega
            have hd3 : 0 < k := by omega
            have hj : ((k : Int) - 1).toNat < n := by omega
            have u1 := t1 _ hj 0 _ rfl
            have u2 := t2 _ hj 0 _ rfl
            simp only [Nat.add_zero, Nat.mul_one] at u1 u2
            have hnar := HN.out ((k : Int) - 1).toNat
            rw [show ((k : Int) - 1).toNat + 1 = k by omega] at hnar
            obtain ⟨n5, n6, -, -⟩ := hnar
            generalize Lx ((k : Int) - 1).toNat = X0 at *
            generalize Hx ((k : Int) - 1).toNat = Y0 at *
            clear t1 t2 t3 t4 s1 s2 s3 s4 g0 g1
            generalize Lx k = X at *
            generalize Hx k = Y at *
            generalize Ly k = U at *
            generalize Hy k = V at *
            have n7 : ¬ X < X0 := by omega
            have n8 : ¬ Y0 < Y := by omega
            have hw2 : (0 : Int) ≤ (k : Int) - 1 := by omega
            have hw3 : (1 : Int) ≤ (k : Int) := by omega
            have hw4 : (k : Int) - 1 < n := by omega
            have hw1 : IntKind.i64.wrap ((k : Int) - 1) = (k : Int) - 1 := IntWalk.i64_in _ (by omega)
            have d3 : decide (U < X) = false := by simp; omega
            have d4 : decide (Y < V) = false := by simp; omega
            have d5 : decide (X < X0) = false := by simp; omega
            have d6 : decide (Y0 < Y) = false := by simp; omega
            have u1' := u1
            have u2' := u2
            rw [show ((k : Int) - 1).toNat = k - 1 by omega] at u1' u2'
            go_wp2_with fail
            go_big_quiet (fail)
            go_wp2_with fail
            go_roundg (n - (k + 1))
            case measure => have := HM.out; omega
            case rel => exact ⟨k + 1, by omega, rfl, by go_num, below_drewN hbr _⟩
        · obtain rfl : k = n := by omega
          go_wp2_with fail
          go_ret
          exact ⟨rfl, below_trans' hb hb.size hbr⟩
end Go.Proofs.Ytgonighpjpfmnaa
