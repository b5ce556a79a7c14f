/- The reference's fractions: lowest terms, operations, texts. No statement is proved here. -/
import Derived.Test.YtpligjkbnlfhgaaGreatDoorStrD
import Derived.Test.YtpligjkbnlfhgaaGreatDoorFrA
import Derived.Test.YtpligjkbnlfhgaaGreatDoorPl
import Derived.Test.YtpligjkbnlfhgaaGreatDoorFrB
import Derived.Test.YtpligjkbnlfhgaaGreatDoorFrE
import Derived.BigRegion
namespace Go.Proofs.YtpligjkbnlfhgaaGreatDoor
open Go.RowKit

/-- A value that reads as a fraction in lowest terms, the reference's. -/
def FrR (w : World) (f : Value) (x : Rat) : Prop := ∃ vn vd, f = .agg #[.bool (decide (x.num < 0)), vn, vd] ∧ NatV 4294967296 w vn x.num.natAbs ∧ NatV 4294967296 w vd x.den
theorem FrR.below {w w' : World} {f : Value} {x : Rat} (h : FrR w f x) (hb : Below w.heap.size w w') : FrR w' f x := by
  obtain ⟨vn, vd, hf, h1, h2⟩ := h
  exact ⟨vn, vd, hf, h1.below hb, h2.below hb⟩
/-- The size of a fraction. -/
structure RS (K : Nat) (x : Rat) : Prop where
  num : Sm K x.num.natAbs
  den : Sm K x.den
theorem RS.mono {k m : Nat} {x : Rat} (h : RS k x) (hk : k ≤ m) : RS m x := ⟨h.num.mono hk, h.den.mono hk⟩
theorem RS.bd {k : Nat} {x : Rat} {n d : Nat} (h : bdR n d x) (hn : Sm k n) (hd : Sm k d) : RS k x := ⟨hn.le h.num, hd.le h.den⟩
theorem RS.to {k : Nat} {x : Rat} (h : RS k x) : bdR (2 ^ k) (2 ^ k) x := ⟨Nat.le_of_lt h.num, Nat.le_of_lt h.den⟩

theorem ret3g {B : Nat} {wv : World} {z n d : Nat} {t : TypeId} {b b0 : Bool} {A1 A2 A3 A4 : Option Addr} {e1 c1 e2 c2 e3 c3 e4 c4 : Nat}
    (hg : wv.heap[z]? = some (.cells #[.bool b0, .slice A1 e1 c1, .slice A2 e2 c2] t (0, 0))) (h1 : NatV B wv (.slice A3 e3 c3) n) (h2 : NatV B wv (.slice A4 e4 c4) d) :
    (((wv.setCell ⟨z, 0, none⟩ (.bool b)).setCell ⟨z, 1, none⟩ (.slice A3 e3 c3)).setCell ⟨z, 2, none⟩ (.slice A4 e4 c4)).heap[z]? = some (.cells #[.bool b, .slice A3 e3 c3, .slice A4 e4 c4] t (0, 0)) ∧
    NatV B (((wv.setCell ⟨z, 0, none⟩ (.bool b)).setCell ⟨z, 1, none⟩ (.slice A3 e3 c3)).setCell ⟨z, 2, none⟩ (.slice A4 e4 c4)) (.slice A3 e3 c3) n ∧
    NatV B (((wv.setCell ⟨z, 0, none⟩ (.bool b)).setCell ⟨z, 1, none⟩ (.slice A3 e3 c3)).setCell ⟨z, 2, none⟩ (.slice A4 e4 c4)) (.slice A4 e4 c4) d := by
  obtain ⟨t0, t1, t2⟩ := sets3 hg (.bool b) (.slice A3 e3 c3) (.slice A4 e4 c4)
  exact ⟨t0, h1.but hg no_dig3 (Nat.le_of_eq t2.symm) (fun k _ hk => t1 k hk), h2.but hg no_dig3 (Nat.le_of_eq t2.symm) (fun k _ hk => t1 k hk)⟩
theorem below_set3 {n z : Nat} {w wv : World} (h : Below n w wv) (hz : n ≤ z) (a b c : Value) : Below n w (((wv.setCell ⟨z, 0, none⟩ a).setCell ⟨z, 1, none⟩ b).setCell ⟨z, 2, none⟩ c) :=
  ((h.setCell (p := ⟨z, 0, none⟩) hz _).setCell (p := ⟨z, 1, none⟩) hz _).setCell (p := ⟨z, 2, none⟩) hz _
theorem allocs2' (w : World) (a b : Array Value) (t u : TypeId) : Below w.heap.size w ((w.alloc (.cells a t)).alloc (.cells b u)) ∧ ((w.alloc (.cells a t)).alloc (.cells b u)).heap[w.heap.size]? = some (.cells a t (0, 0)) ∧ ((w.alloc (.cells a t)).alloc (.cells b u)).heap[w.heap.size + 1]? = some (.cells b u (0, 0)) := by
  refine ⟨((Below.refl _ _).alloc (Nat.le_refl _) _).alloc (by simp) _, ?_, ?_⟩
  · rw [Below.heap_alloc _ _ _ (by simp)]; exact heap_alloc_new w _
  · have h := heap_alloc_new (w.alloc (.cells a t)) (.cells b u)
    rwa [show (w.alloc (.cells a t)).heap.size = w.heap.size + 1 by simp] at h

set_option maxRecDepth 100000 in
set_option maxHeartbeats 4000000 in
theorem lowest118 (K : Nat) (s : Bool) (v1 v2 : Value) (n d : Nat) (w : World) (hK : K ≤ 500000) (s1 : Sm K n) (s2 : Sm K d) (hd : d ≠ 0) (h1 : NatV 4294967296 w v1 n) (h2 : NatV 4294967296 w v2 d) :
    Calls Tryz.prog 68 #[.bool s, v1, v2] w fun e w' => ∃ f, e = .returned f ∧ FrR w' f (ratP s n d) ∧ Below w.heap.size w w' := by
  obtain ⟨A1, m, c1, rfl, hc1, hm1, hz⟩ := h1.shape (by omega)
  unfold maxLen at hm1
  obtain ⟨e1, e2, e3⟩ := ratP_num (neg := s) (n := n) hd
  obtain ⟨R, hR⟩ : ∃ R, ratP s n d = R := ⟨_, rfl⟩
  rw [hR] at e1 e2 e3 ⊢
  clear hR
  by_cases h0 : m = 0
  · have hn : n = 0 := hz.1 h0
    subst h0
    subst hn
    have f1 : R.num.natAbs = 0 := by rw [e1]; simp
    have f2 : R.den = 1 := by rw [e2]; simp; exact Nat.div_self (Nat.pos_of_ne_zero hd)
    have f3 : decide (R.num < 0) = false := by rw [e3]; simp
    have F1 := Lib.hid f1
    have F2 := Lib.hid f2
    have F3 := Lib.hid f3
    obtain ⟨hbe, g0, g1⟩ := allocs2' w #[.bool false, .slice none 0 0, .slice (some ⟨w.heap.size + 1, 0, none⟩) 1 1] #[.int .u32 1] 57 121
    have hv1 := natU_one (x := 1) g1 (by decide) (by decide)
    clear e1 e2 e3 f1 f2 f3 hz hc1 hm1 h1 g0 g1
    go_enter Tryz.func68, Tryz.ntmps68
    go_wp2_with fail
    exact bodyPost_ret (v := .agg #[.bool false, .slice none 0 0, .slice (some ⟨w.heap.size + 1, 0, none⟩) 1 1]) (by simp [results, Tryz.results68, go_sem]) rfl ⟨_, rfl, ⟨_, _, by rw [F3.out], by rw [F1.out]; exact NatV.nil, by rw [F2.out]; exact hv1⟩, hbe⟩
  · have hn : n ≠ 0 := fun h => h0 (hz.2 h)
    have f3 : decide (R.num < 0) = s := by rw [e3]; simp [hn]
    have hG0 : Nat.gcd n d ≠ 0 := by have := Nat.gcd_pos_of_pos_right n (Nat.pos_of_ne_zero hd); omega
    have s3 : Sm K (Nat.gcd n d) := Nat.lt_of_le_of_lt (Nat.le_of_dvd (Nat.pos_of_ne_zero hd) (Nat.gcd_dvd_right n d)) s2
    have E1 := Lib.hid e1
    have E2 := Lib.hid e2
    have F3 := Lib.hid f3
    have d0 : ((m : Int) == 0) = false := by rw [beq_eq_false_iff_ne]; omega
    have g0 := heap_alloc_new w (.cells #[.bool false, .slice none 0 0, .slice none 0 0] 57)
    have hbW : Below w.heap.size w (w.alloc (.cells #[.bool false, .slice none 0 0, .slice none 0 0] 57)) := (Below.refl _ _).alloc (Nat.le_refl _) _
    clear e1 e2 e3 f3 hz h0
    go_enter Tryz.func68, Tryz.ntmps68
    go_wp2_with fail
    generalize w.alloc (.cells #[.bool false, .slice none 0 0, .slice none 0 0] 57) = W at *
    have hW0 : w.heap.size < W.heap.size := lt_of_blk g0
    have k1 := h1.below hbW
    have k2 := h2.below hbW
    refine (divisor138 K _ _ n d W hK s1 s2 k1 k2).mono ?_
    rintro e w1 ⟨v3, rfl, hv3, hb1⟩
    obtain ⟨G, hG⟩ : ∃ G, Nat.gcd n d = G := ⟨_, rfl⟩
    rw [hG] at hv3 s3 hG0 E1 E2
    clear hG d0
    go_wp2_with fail
    refine (divide120 K _ _ n G w1 hK s1 s3 hG0 (k1.below hb1) hv3).mono ?_
    rintro e w2 ⟨vq, vr, rfl, hq, -, hb2⟩
    have hB2 := below_trans' hb1 hb1.size hb2
    go_wp2_with fail
    refine (divide120 K _ _ d G w2 hK s2 s3 hG0 (k2.below hB2) (hv3.below hb2)).mono ?_
    rintro e w3 ⟨vq2, vr2, rfl, hq2, -, hb3⟩
    have hq' := hq.below hb3
    obtain ⟨Aa, na, ca, rfl, -⟩ := hq'.shape (by omega)
    obtain ⟨Ab, nb, cb, rfl, -⟩ := hq2.shape (by omega)
    have hB3 := below_trans' hB2 hB2.size hb3
    have ge := blk_below hB3 g0
    have ce := cells3 ge
    have fe := free_of_block ge
    obtain ⟨t0, t1, t2⟩ := ret3g (b := s) ge hq' hq2
    have hbe := below_set3 (z := w.heap.size) (below_trans' hbW hbW.size hB3) (Nat.le_refl _) (.bool s) (.slice Aa na ca) (.slice Ab nb cb)
    obtain ⟨u0, u1, u2⟩ := cells3 t0
    clear t0 ge hB3 hB2 hb1 hb2 hb3 hq hq' hq2 hv3 k1 k2
    go_wp2_with fail
    exact bodyPost_ret (v := .agg #[.bool s, .slice Aa na ca, .slice Ab nb cb]) (by simp [results, Tryz.results68, go_sem, u0, u1, u2]) rfl ⟨_, rfl, ⟨_, _, by rw [F3.out], by rw [E1.out]; exact t1, by rw [E2.out]; exact t2⟩, hbe⟩

theorem size125 (x : Int) (w : World) (h1 : -9223372036854775808 ≤ x) (h2 : x ≤ 9223372036854775807) :
    Calls Tryz.prog 93 #[.int .i64 x] w fun e w' => ∃ v, e = .returned v ∧ NatV 4294967296 w' v x.natAbs ∧ Below w.heap.size w w' := by
  have hnat := natural122 x.natAbs w (by omega)
  by_cases h : x < 0
  · have e1 : IntKind.u64.wrap (-IntKind.u64.wrap x) = (x.natAbs : Int) := by rw [IntKind.wrap_u64, IntKind.wrap_u64]; omega
    go_enter Tryz.func93, Tryz.ntmps93
    go_wp2_with fail
    refine hnat.mono ?_
    rintro e w1 ⟨v, rfl, hv, hb⟩
    go_wp2_with fail
    go_ret
    exact ⟨_, rfl, hv, hb⟩
  · have e1 : (x.natAbs : Int) = x := by omega
    rw [e1] at hnat
    clear e1
    go_enter Tryz.func93, Tryz.ntmps93
    go_wp2_with fail
    refine hnat.mono ?_
    rintro e w1 ⟨v, rfl, hv, hb⟩
    go_wp2_with fail
    go_ret
    exact ⟨_, rfl, hv, hb⟩

theorem FrR.shape {w : World} {f : Value} {x : Rat} (h : FrR w f x) : ∃ A1 n1 c1 A2 n2 c2, f = .agg #[.bool (decide (x.num < 0)), .slice A1 n1 c1, .slice A2 n2 c2] ∧ NatV 4294967296 w (.slice A1 n1 c1) x.num.natAbs ∧ NatV 4294967296 w (.slice A2 n2 c2) x.den ∧ (n1 = 0 ↔ x.num.natAbs = 0) ∧ n1 ≤ maxLen := by
  obtain ⟨vn, vd, hf, h1, h2⟩ := h
  obtain ⟨A1, n1, c1, rfl, hc, hm, hz⟩ := h1.shape (by omega)
  obtain ⟨A2, n2, c2, rfl, -⟩ := h2.shape (by omega)
  exact ⟨A1, n1, c1, A2, n2, c2, hf, h1, h2, hz, Nat.le_trans hc hm⟩

set_option maxRecDepth 100000 in
set_option maxHeartbeats 4000000 in
theorem make69 (a b : Int) (w : World) (h1 : -9223372036854775808 ≤ a) (h2 : a ≤ 9223372036854775807) (h3 : -9223372036854775808 ≤ b) (h4 : b ≤ 9223372036854775807) (hb0 : b ≠ 0) :
    Calls Tryz.prog 53 #[.int .i64 a, .int .i64 b] w fun e w' => ∃ f, e = .returned f ∧ FrR w' f (ratP (decide (a < 0) != decide (b < 0)) a.natAbs b.natAbs) ∧ Below w.heap.size w w' := by
  obtain ⟨sn, hsn⟩ : ∃ c, decide (a < 0) = c := ⟨_, rfl⟩
  obtain ⟨sd, hsd⟩ : ∃ c, decide (b < 0) = c := ⟨_, rfl⟩
  rw [hsn, hsd]
  obtain ⟨R, hR⟩ : ∃ R, ratP (sn != sd) a.natAbs b.natAbs = R := ⟨_, rfl⟩
  rw [hR]
  have HR := Lib.hid hR
  have sm : ∀ x : Int, -9223372036854775808 ≤ x → x ≤ 9223372036854775807 → Sm 70 x.natAbs := fun x a b => by
    unfold Sm
    exact Nat.lt_of_le_of_lt (show x.natAbs ≤ 9223372036854775808 by omega) (by decide)
  have SM := Lib.hid sm
  have hbn : b.natAbs ≠ 0 := by omega
  have g0 := heap_alloc_new w (.cells #[.bool false, .slice none 0 0, .slice none 0 0] 57)
  have hbW : Below w.heap.size w (w.alloc (.cells #[.bool false, .slice none 0 0, .slice none 0 0] 57)) := (Below.refl _ _).alloc (Nat.le_refl _) _
  clear hR sm hb0
  go_enter Tryz.func53, Tryz.ntmps53
  go_wp2_with fail
  generalize w.alloc (.cells #[.bool false, .slice none 0 0, .slice none 0 0] 57) = W at *
  have hW0 : w.heap.size < W.heap.size := lt_of_blk g0
  refine (size125 a W h1 h2).mono ?_
  rintro e w1 ⟨v1, rfl, hv1, hb1⟩
  go_wp2_with fail
  refine (size125 b w1 h3 h4).mono ?_
  rintro e w2 ⟨v2, rfl, hv2, hb2⟩
  have hB2 := below_trans' hb1 hb1.size hb2
  go_wp2_with fail
  refine (lowest118 70 (!sn == sd) _ _ a.natAbs b.natAbs w2 (by omega) (SM.out _ h1 h2) (SM.out _ h3 h4) hbn (hv1.below hb2) hv2).mono ?_
  rintro e w3 ⟨f, rfl, hf, hb3⟩
  have hf' : FrR w3 f R := by rw [← HR.out]; cases sn <;> cases sd <;> exact hf
  obtain ⟨A1, n1, c1, A2, n2, c2, rfl, p1, p2, -⟩ := hf'.shape
  have hB3 := below_trans' hB2 hB2.size hb3
  have ge := blk_below hB3 g0
  obtain ⟨sg, hsg⟩ : ∃ c, decide (R.num < 0) = c := ⟨_, rfl⟩
  rw [hsg]
  have HSG := Lib.hid hsg
  have ce := cells3 ge
  have fe := free_of_block ge
  obtain ⟨t0, t1, t2⟩ := ret3g (b := sg) ge p1 p2
  have hbe := below_set3 (z := w.heap.size) (below_trans' hbW hbW.size hB3) (Nat.le_refl _) (.bool sg) (.slice A1 n1 c1) (.slice A2 n2 c2)
  obtain ⟨u0, u1, u2⟩ := cells3 t0
  clear t0 ge hB3 hB2 hb1 hb2 hb3 hv1 hv2 hf hf' p1 p2 hsg hsn hsd
  go_wp2_with fail
  exact bodyPost_ret (v := .agg #[.bool sg, .slice A1 n1 c1, .slice A2 n2 c2]) (by simp [results, Tryz.results53, go_sem, u0, u1, u2]) rfl ⟨_, rfl, ⟨_, _, by rw [HSG.out], t1, t2⟩, hbe⟩

set_option maxRecDepth 100000 in
theorem zero82 (f : Value) (x : Rat) (w : World) (h : FrR w f x) :
    Calls Tryz.prog 67 #[f] w fun e w' => e = .returned (.bool (decide (x = 0))) ∧ Below w.heap.size w w' := by
  obtain ⟨A1, n1, c1, A2, n2, c2, rfl, p1, p2, hz, hl⟩ := h.shape
  unfold maxLen at hl
  generalize decide (x.num < 0) = s at *
  have hx : x = 0 ↔ n1 = 0 := by
    rw [hz, Int.natAbs_eq_zero]
    exact Rat.num_eq_zero.symm
  have hd : decide (x = 0) = ((n1 : Int) == 0) := by
    rw [Bool.eq_iff_iff, decide_eq_true_eq, hx, beq_iff_eq]; omega
  rw [hd]
  have hbW : Below w.heap.size w (w.alloc (.cells #[.bool s, .slice A1 n1 c1, .slice A2 n2 c2] 57)) := (Below.refl _ _).alloc (Nat.le_refl _) _
  clear hd hx hz p1 p2 h
  go_enter Tryz.func67, Tryz.ntmps67
  go_wp2_with fail
  go_ret
  exact ⟨rfl, hbW⟩

theorem neg_sign (x : Rat) : decide ((-x).num < 0) = (!decide (x.num < 0) && decide (x.num.natAbs ≠ 0)) := by
  rw [Rat.neg_num, Bool.eq_iff_iff]
  simp only [decide_eq_true_eq, Bool.and_eq_true, Bool.not_eq_true', decide_eq_false_iff_not]
  omega

set_option maxRecDepth 100000 in
set_option maxHeartbeats 4000000 in
theorem neg130 (f : Value) (x : Rat) (w : World) (h : FrR w f x) :
    Calls Tryz.prog 100 #[f] w fun e w' => ∃ v, e = .returned v ∧ FrR w' v (-x) ∧ Below w.heap.size w w' := by
  obtain ⟨A1, n1, c1, A2, n2, c2, rfl, p1, p2, hz, hl⟩ := h.shape
  unfold maxLen at hl
  have hs := neg_sign x
  have hn : (-x).num.natAbs = x.num.natAbs := by rw [Rat.neg_num, Int.natAbs_neg]
  have hd : (-x).den = x.den := Rat.neg_den x
  rw [show decide (x.num.natAbs ≠ 0) = decide (0 < n1) by rw [decide_eq_decide]; omega] at hs
  rw [← hn] at p1
  rw [← hd] at p2
  generalize decide (x.num < 0) = s at *
  have HS := Lib.hid hs
  clear hs hn hd hz h
  have key : ∀ b : Bool, (!s && decide (0 < n1)) = b → Calls Tryz.prog 100 #[.agg #[.bool s, .slice A1 n1 c1, .slice A2 n2 c2]] w fun e w' => ∃ v, e = .returned v ∧ FrR w' v (-x) ∧ Below w.heap.size w w' := by
    intro b hb
    obtain ⟨hbe, g0, g1⟩ := allocs2' w #[.bool b, .slice A1 n1 c1, .slice A2 n2 c2] #[.bool b, .slice A1 n1 c1, .slice A2 n2 c2] 57 57
    have fin : FrR _ (.agg #[.bool b, .slice A1 n1 c1, .slice A2 n2 c2]) (-x) := ⟨_, _, by rw [HS.out, hb], p1.below hbe, p2.below hbe⟩
    have HF := Lib.hid fin
    have HBE := Lib.hid hbe
    clear fin hbe HS p1 p2 g0 g1
    cases s with
    | true =>
      have hb' : b = false := hb.symm
      subst hb'
      clear hb
      go_enter Tryz.func100, Tryz.ntmps100
      go_wp2_with fail
      exact bodyPost_ret (v := .agg #[.bool false, .slice A1 n1 c1, .slice A2 n2 c2]) (by simp [results, Tryz.results100, go_sem]) rfl ⟨_, rfl, HF.out, HBE.out⟩
    | false =>
      have hb' : decide (0 < n1) = b := hb
      clear hb
      cases b with
      | true =>
        go_enter Tryz.func100, Tryz.ntmps100
        go_wp2_with fail
        exact bodyPost_ret (v := .agg #[.bool true, .slice A1 n1 c1, .slice A2 n2 c2]) (by simp [results, Tryz.results100, go_sem]) rfl ⟨_, rfl, HF.out, HBE.out⟩
      | false =>
        go_enter Tryz.func100, Tryz.ntmps100
        go_wp2_with fail
        exact bodyPost_ret (v := .agg #[.bool false, .slice A1 n1 c1, .slice A2 n2 c2]) (by simp [results, Tryz.results100, go_sem]) rfl ⟨_, rfl, HF.out, HBE.out⟩
  exact key _ rfl

theorem mul_parts (x y : Rat) : ratP (decide (x.num < 0) != decide (y.num < 0)) (x.num.natAbs * y.num.natAbs) (x.den * y.den) = x * y := by
  rw [← ratP_mul, ratP_self, ratP_self]
theorem div_parts (x y : Rat) (hy : y ≠ 0) : ratP (decide (x.num < 0) != decide (y.num < 0)) (x.num.natAbs * y.den) (x.den * y.num.natAbs) = x / y := by
  have h0 : y.num.natAbs ≠ 0 := fun h => hy (Rat.num_eq_zero.1 (Int.natAbs_eq_zero.1 h))
  rw [← ratP_div h0 y.den_nz, ratP_self, ratP_self]
theorem bne_not {a b : Bool} : (!a == b) = (a != b) := rfl
theorem num_ne {y : Rat} (hy : y ≠ 0) : y.num.natAbs ≠ 0 := fun h => hy (Rat.num_eq_zero.1 (Int.natAbs_eq_zero.1 h))
/-- Three blocks: two fractions and a place for a third. -/
def Three (W : World) (G : Nat) (s1 : Bool) (p q : Value) (s2 : Bool) (p' q' : Value) : Prop :=
  W.heap[G]? = some (.cells #[.bool s1, p, q] 57 (0, 0)) ∧ W.heap[G + 1]? = some (.cells #[.bool s2, p', q'] 57 (0, 0)) ∧ W.heap[G + 1 + 1]? = some (.cells #[.bool false, .slice none 0 0, .slice none 0 0] 57 (0, 0))

set_option maxRecDepth 100000 in
set_option maxHeartbeats 4000000 in
theorem times68 (K : Nat) (f g : Value) (x y : Rat) (w : World) (hK : K ≤ 200000) (a1 : RS K x) (a2 : RS K y) (h1 : FrR w f x) (h2 : FrR w g y) :
    Calls Tryz.prog 52 #[f, g] w fun e w' => ∃ v, e = .returned v ∧ FrR w' v (x * y) ∧ Below w.heap.size w w' := by
  obtain ⟨P1, l1, c1, P2, l2, c2, rfl, hp, hq, -⟩ := h1.shape
  obtain ⟨P3, l3, c3, P4, l4, c4, rfl, hp', hq', -⟩ := h2.shape
  have hxy := mul_parts x y
  have hd0 : x.den * y.den ≠ 0 := Nat.mul_ne_zero x.den_nz y.den_nz
  obtain ⟨b1, b2⟩ := a1
  obtain ⟨b3, b4⟩ := a2
  generalize x * y = R at *
  generalize decide (x.num < 0) = s1 at *
  generalize decide (y.num < 0) = s2 at *
  generalize x.num.natAbs = n1 at *
  generalize x.den = d1 at *
  generalize y.num.natAbs = n2 at *
  generalize y.den = d2 at *
  have HXY := Lib.hid hxy
  obtain ⟨hbW, g0, g1, g2⟩ := allocs3 w #[.bool s1, .slice P1 l1 c1, .slice P2 l2 c2] #[.bool s2, .slice P3 l3 c3, .slice P4 l4 c4] #[.bool false, .slice none 0 0, .slice none 0 0] 57 57 57
  clear hxy h1 h2
  go_enter Tryz.func52, Tryz.ntmps52
  go_wp2_with fail
  generalize ((w.alloc (.cells #[.bool s1, .slice P1 l1 c1, .slice P2 l2 c2] 57)).alloc (.cells #[.bool s2, .slice P3 l3 c3, .slice P4 l4 c4] 57)).alloc (.cells #[.bool false, .slice none 0 0, .slice none 0 0] 57) = W at *
  have hsz : w.heap.size + 1 + 1 < W.heap.size := lt_of_blk g2
  have hbd : Below W.heap.size W W.drew := (Below.refl _ _).drew
  have hpW := (hp.below hbW).below hbd
  have hqW := (hq.below hbW).below hbd
  have hpW' := (hp'.below hbW).below hbd
  have hqW' := (hq'.below hbW).below hbd
  have k0 := cells3 (blk_below hbd g0)
  have k1 := cells3 (blk_below hbd g1)
  clear hp hq hp' hq'
  go_region_held3 (fun w' => (w'.cell? ⟨w.heap.size, 0, none⟩ = some (.bool s1) ∧ w'.cell? ⟨w.heap.size, 1, none⟩ = some (.slice P1 l1 c1) ∧ w'.cell? ⟨w.heap.size, 2, none⟩ = some (.slice P2 l2 c2)) ∧ (w'.cell? ⟨w.heap.size + 1, 0, none⟩ = some (.bool s2) ∧ w'.cell? ⟨w.heap.size + 1, 1, none⟩ = some (.slice P3 l3 c3) ∧ w'.cell? ⟨w.heap.size + 1, 2, none⟩ = some (.slice P4 l4 c4)))
    (first | with_reducible exact ⟨n0, n1'⟩ | with_reducible exact ⟨m0, m1⟩ | with_reducible exact ⟨l0, l1'⟩ | with_reducible exact ⟨k0, k1⟩ | with_reducible exact ⟨c3set (c3set (c3set n0 (by omega)) (by omega)) (by omega), c3set (c3set (c3set n1' (by omega)) (by omega)) (by omega)⟩)
    (first
      | (go_at_call 69; with_reducible refine (times124 K _ _ n1 n2 _ (by omega) b1 b3 hpW hpW').mono ?_; rintro e w1 ⟨va, rfl, hva, hb1⟩; have hB1 := below_trans' hbd (Nat.le_refl _) hb1; have l0 := cells3 (blk_below hB1 g0); have l1' := cells3 (blk_below hB1 g1))
      | (go_at_call 69; with_reducible refine (times124 K _ _ d1 d2 _ (by omega) b2 b4 (hqW.below hb1) (hqW'.below hb1)).mono ?_; rintro e w2 ⟨vb, rfl, hvb, hb2⟩; have hB2 := below_trans' hB1 hB1.size hb2; have m0 := cells3 (blk_below hB2 g0); have m1 := cells3 (blk_below hB2 g1))
      | (go_at_call 68; with_reducible refine (lowest118 (K + K) _ _ _ (n1 * n2) (d1 * d2) _ (by omega) (b1.mul b3) (b2.mul b4) hd0 (hva.below hb2) hvb).mono ?_; rintro e w3 ⟨f, rfl, hf, hb3⟩; rw [bne_not, HXY.out] at hf; obtain ⟨A1, e1, k1', A2, e2, k2', rfl, f1, f2, -⟩ := hf.shape; have hB3 := below_trans' hB2 hB2.size hb3; have n0 := cells3 (blk_below hB3 g0); have n1' := cells3 (blk_below hB3 g1); have n2' := cells3 (blk_below hB3 g2); have n3' := free_of_block (blk_below hB3 g2)))
  all_goals
    obtain ⟨t0, q1, q2⟩ := ret3g (b := decide (R.num < 0)) (blk_below hB3 g2) f1 f2
    have hbe := below_set3 (z := w.heap.size + 1 + 1) (below_trans' hbW hbW.size hB3) (by omega) (.bool (decide (R.num < 0))) (.slice A1 e1 k1') (.slice A2 e2 k2')
    obtain ⟨u0, u1, u2⟩ := cells3 t0
    clear n0 n1' n2' n3' m0 m1 l0 l1' k0 k1 t0
    generalize ((w3.setCell ⟨w.heap.size + 1 + 1, 0, none⟩ (.bool (decide (R.num < 0)))).setCell ⟨w.heap.size + 1 + 1, 1, none⟩ (.slice A1 e1 k1')).setCell ⟨w.heap.size + 1 + 1, 2, none⟩ (.slice A2 e2 k2') = w5 at *
    obtain ⟨sg, hsg⟩ : ∃ c, decide (R.num < 0) = c := ⟨_, rfl⟩
    rw [hsg] at u0
    have HSG := Lib.hid hsg
    clear hsg
    go_wp2_with fail
    exact bodyPost_ret (v := .agg #[.bool sg, .slice A1 e1 k1', .slice A2 e2 k2']) (by simp [results, Tryz.results52, go_sem, u0, u1, u2]) rfl ⟨_, rfl, ⟨_, _, by rw [HSG.out], q1, q2⟩, hbe⟩

set_option maxRecDepth 100000 in
set_option maxHeartbeats 4000000 in
theorem over83 (K : Nat) (f g : Value) (x y : Rat) (w : World) (hK : K ≤ 200000) (hy : y ≠ 0) (a1 : RS K x) (a2 : RS K y) (h1 : FrR w f x) (h2 : FrR w g y) :
    Calls Tryz.prog 28 #[f, g] w fun e w' => ∃ v, e = .returned v ∧ FrR w' v (x / y) ∧ Below w.heap.size w w' := by
  obtain ⟨P1, l1, c1, P2, l2, c2, rfl, hp, hq, -⟩ := h1.shape
  obtain ⟨P3, l3, c3, P4, l4, c4, rfl, hp', hq', -⟩ := h2.shape
  have hxy := div_parts x y hy
  have hd0 : x.den * y.num.natAbs ≠ 0 := Nat.mul_ne_zero x.den_nz (num_ne hy)
  obtain ⟨b1, b2⟩ := a1
  obtain ⟨b3, b4⟩ := a2
  generalize x / y = R at *
  generalize decide (x.num < 0) = s1 at *
  generalize decide (y.num < 0) = s2 at *
  generalize x.num.natAbs = n1 at *
  generalize x.den = d1 at *
  generalize y.num.natAbs = n2 at *
  generalize y.den = d2 at *
  have HXY := Lib.hid hxy
  obtain ⟨hbW, g0, g1, g2⟩ := allocs3 w #[.bool s1, .slice P1 l1 c1, .slice P2 l2 c2] #[.bool s2, .slice P3 l3 c3, .slice P4 l4 c4] #[.bool false, .slice none 0 0, .slice none 0 0] 57 57 57
  clear hxy h1 h2
  go_enter Tryz.func28, Tryz.ntmps28
  go_wp2_with fail
  generalize ((w.alloc (.cells #[.bool s1, .slice P1 l1 c1, .slice P2 l2 c2] 57)).alloc (.cells #[.bool s2, .slice P3 l3 c3, .slice P4 l4 c4] 57)).alloc (.cells #[.bool false, .slice none 0 0, .slice none 0 0] 57) = W at *
  have hsz : w.heap.size + 1 + 1 < W.heap.size := lt_of_blk g2
  have hbd : Below W.heap.size W W.drew := (Below.refl _ _).drew
  have hpW := (hp.below hbW).below hbd
  have hqW := (hq.below hbW).below hbd
  have hpW' := (hp'.below hbW).below hbd
  have hqW' := (hq'.below hbW).below hbd
  have k0 := cells3 (blk_below hbd g0)
  have k1 := cells3 (blk_below hbd g1)
  clear hp hq hp' hq'
  go_region_held3 (fun w' => (w'.cell? ⟨w.heap.size, 0, none⟩ = some (.bool s1) ∧ w'.cell? ⟨w.heap.size, 1, none⟩ = some (.slice P1 l1 c1) ∧ w'.cell? ⟨w.heap.size, 2, none⟩ = some (.slice P2 l2 c2)) ∧ (w'.cell? ⟨w.heap.size + 1, 0, none⟩ = some (.bool s2) ∧ w'.cell? ⟨w.heap.size + 1, 1, none⟩ = some (.slice P3 l3 c3) ∧ w'.cell? ⟨w.heap.size + 1, 2, none⟩ = some (.slice P4 l4 c4)))
    (first | with_reducible exact ⟨n0, n1'⟩ | with_reducible exact ⟨m0, m1⟩ | with_reducible exact ⟨l0, l1'⟩ | with_reducible exact ⟨k0, k1⟩ | with_reducible exact ⟨c3set (c3set (c3set n0 (by omega)) (by omega)) (by omega), c3set (c3set (c3set n1' (by omega)) (by omega)) (by omega)⟩)
    (first
      | (go_at_call 69; with_reducible refine (times124 K _ _ n1 d2 _ (by omega) b1 b4 hpW hqW').mono ?_; rintro e w1 ⟨va, rfl, hva, hb1⟩; have hB1 := below_trans' hbd (Nat.le_refl _) hb1; have l0 := cells3 (blk_below hB1 g0); have l1' := cells3 (blk_below hB1 g1))
      | (go_at_call 69; with_reducible refine (times124 K _ _ d1 n2 _ (by omega) b2 b3 (hqW.below hb1) (hpW'.below hb1)).mono ?_; rintro e w2 ⟨vb, rfl, hvb, hb2⟩; have hB2 := below_trans' hB1 hB1.size hb2; have m0 := cells3 (blk_below hB2 g0); have m1 := cells3 (blk_below hB2 g1))
      | (go_at_call 68; with_reducible refine (lowest118 (K + K) _ _ _ (n1 * d2) (d1 * n2) _ (by omega) (b1.mul b4) (b2.mul b3) hd0 (hva.below hb2) hvb).mono ?_; rintro e w3 ⟨f, rfl, hf, hb3⟩; rw [bne_not, HXY.out] at hf; obtain ⟨A1, e1, k1', A2, e2, k2', rfl, f1, f2, -⟩ := hf.shape; have hB3 := below_trans' hB2 hB2.size hb3; have n0 := cells3 (blk_below hB3 g0); have n1' := cells3 (blk_below hB3 g1); have n2' := cells3 (blk_below hB3 g2); have n3' := free_of_block (blk_below hB3 g2)))
  all_goals
    obtain ⟨t0, q1, q2⟩ := ret3g (b := decide (R.num < 0)) (blk_below hB3 g2) f1 f2
    have hbe := below_set3 (z := w.heap.size + 1 + 1) (below_trans' hbW hbW.size hB3) (by omega) (.bool (decide (R.num < 0))) (.slice A1 e1 k1') (.slice A2 e2 k2')
    obtain ⟨u0, u1, u2⟩ := cells3 t0
    clear n0 n1' n2' n3' m0 m1 l0 l1' k0 k1 t0
    generalize ((w3.setCell ⟨w.heap.size + 1 + 1, 0, none⟩ (.bool (decide (R.num < 0)))).setCell ⟨w.heap.size + 1 + 1, 1, none⟩ (.slice A1 e1 k1')).setCell ⟨w.heap.size + 1 + 1, 2, none⟩ (.slice A2 e2 k2') = w5 at *
    obtain ⟨sg, hsg⟩ : ∃ c, decide (R.num < 0) = c := ⟨_, rfl⟩
    rw [hsg] at u0
    have HSG := Lib.hid hsg
    clear hsg
    go_wp2_with fail
    exact bodyPost_ret (v := .agg #[.bool sg, .slice A1 e1 k1', .slice A2 e2 k2']) (by simp [results, Tryz.results28, go_sem, u0, u1, u2]) rfl ⟨_, rfl, ⟨_, _, by rw [HSG.out], q1, q2⟩, hbe⟩

theorem plus_parts (x y : Rat) : ratP (sumS (decide (x.num < 0)) x.num.natAbs x.den (decide (y.num < 0)) y.num.natAbs y.den).1 (sumS (decide (x.num < 0)) x.num.natAbs x.den (decide (y.num < 0)) y.num.natAbs y.den).2 (x.den * y.den) = x + y := by
  rw [sum_val x.den_nz y.den_nz, ratP_self, ratP_self]
theorem sumS_same {s1 s2 : Bool} {n1 d1 n2 d2 : Nat} (h : s1 = s2) : sumS s1 n1 d1 s2 n2 d2 = (s1, n1 * d2 + n2 * d1) := if_pos h
theorem sumS_ge {s1 s2 : Bool} {n1 d1 n2 d2 : Nat} (h : s1 ≠ s2) (h2 : n2 * d1 ≤ n1 * d2) : sumS s1 n1 d1 s2 n2 d2 = (s1, n1 * d2 - n2 * d1) := by unfold sumS; rw [if_neg h, if_pos h2]
theorem sumS_lt {s1 s2 : Bool} {n1 d1 n2 d2 : Nat} (h : s1 ≠ s2) (h2 : n1 * d2 < n2 * d1) : sumS s1 n1 d1 s2 n2 d2 = (s2, n2 * d1 - n1 * d2) := by unfold sumS; rw [if_neg h, if_neg (by omega)]

set_option maxRecDepth 100000 in
set_option maxHeartbeats 8000000 in
theorem plus78 (K : Nat) (f g : Value) (x y : Rat) (w : World) (hK : K ≤ 100000) (a1 : RS K x) (a2 : RS K y) (h1 : FrR w f x) (h2 : FrR w g y) :
    Calls Tryz.prog 65 #[f, g] w fun e w' => ∃ v, e = .returned v ∧ FrR w' v (x + y) ∧ Below w.heap.size w w' := by
  obtain ⟨P1, l1, c1, P2, l2, c2, rfl, hp, hq, -⟩ := h1.shape
  obtain ⟨P3, l3, c3, P4, l4, c4, rfl, hp', hq', -⟩ := h2.shape
  have hxy := plus_parts x y
  have hd0 : x.den * y.den ≠ 0 := Nat.mul_ne_zero x.den_nz y.den_nz
  obtain ⟨b1, b2⟩ := a1
  obtain ⟨b3, b4⟩ := a2
  generalize x + y = R at *
  generalize decide (x.num < 0) = s1 at *
  generalize decide (y.num < 0) = s2 at *
  generalize x.num.natAbs = n1 at *
  generalize x.den = d1 at *
  generalize y.num.natAbs = n2 at *
  generalize y.den = d2 at *
  have HXY := Lib.hid hxy
  obtain ⟨hbW, g0, g1, g2⟩ := allocs3 w #[.bool s1, .slice P1 l1 c1, .slice P2 l2 c2] #[.bool s2, .slice P3 l3 c3, .slice P4 l4 c4] #[.bool false, .slice none 0 0, .slice none 0 0] 57 57 57
  clear hxy h1 h2
  have hszd : Sm (K + K + 1) (d1 * d2) := (b2.mul b4).mono (by omega)
  have hsza : Sm (K + K) (n1 * d2) := b1.mul b4
  have hszb : Sm (K + K) (n2 * d1) := b3.mul b2
  go_enter Tryz.func65, Tryz.ntmps65
  go_wp2_with fail
  generalize ((w.alloc (.cells #[.bool s1, .slice P1 l1 c1, .slice P2 l2 c2] 57)).alloc (.cells #[.bool s2, .slice P3 l3 c3, .slice P4 l4 c4] 57)).alloc (.cells #[.bool false, .slice none 0 0, .slice none 0 0] 57) = W at *
  have hsz : w.heap.size + 1 + 1 < W.heap.size := lt_of_blk g2
  have hbd : Below W.heap.size W W.drew := (Below.refl _ _).drew
  have hpW := (hp.below hbW).below hbd
  have hqW := (hq.below hbW).below hbd
  have hpW' := (hp'.below hbW).below hbd
  have hqW' := (hq'.below hbW).below hbd
  have k0 := cells3 (blk_below hbd g0)
  have k1 := cells3 (blk_below hbd g1)
  clear hp hq hp' hq'
  go_region_held3 (fun w' => (w'.cell? ⟨w.heap.size, 0, none⟩ = some (.bool s1) ∧ w'.cell? ⟨w.heap.size, 1, none⟩ = some (.slice P1 l1 c1) ∧ w'.cell? ⟨w.heap.size, 2, none⟩ = some (.slice P2 l2 c2)) ∧ (w'.cell? ⟨w.heap.size + 1, 0, none⟩ = some (.bool s2) ∧ w'.cell? ⟨w.heap.size + 1, 1, none⟩ = some (.slice P3 l3 c3) ∧ w'.cell? ⟨w.heap.size + 1, 2, none⟩ = some (.slice P4 l4 c4)))
    (first | with_reducible exact ⟨m0, m1⟩ | with_reducible exact ⟨l0, l1'⟩ | with_reducible exact ⟨k0, k1⟩)
    (first
      | (go_at_call 69; with_reducible refine (times124 K _ _ n1 d2 _ (by omega) b1 b4 hpW hqW').mono ?_; rintro e w1 ⟨va, rfl, hva, hb1⟩; have hB1 := below_trans' hbd (Nat.le_refl _) hb1; have l0 := cells3 (blk_below hB1 g0); have l1' := cells3 (blk_below hB1 g1))
      | (go_at_call 69; with_reducible refine (times124 K _ _ n2 d1 _ (by omega) b3 b2 (hpW'.below hb1) (hqW.below hb1)).mono ?_; rintro e w2 ⟨vb, rfl, hvb, hb2⟩; have hB2 := below_trans' hB1 hB1.size hb2; have m0 := cells3 (blk_below hB2 g0); have m1 := cells3 (blk_below hB2 g1)))
  have hva2 := hva.below hb2
  have hq2 := (hqW.below hb1).below hb2
  have hq2' := (hqW'.below hb1).below hb2
  clear l0 l1' k0 k1 hva hpW hqW hpW' hqW' hB1 hb1 hb2
  go_wp2_with fail
  refine (times124 K _ _ d1 d2 w2 (by omega) b2 b4 hq2 hq2').mono ?_
  rintro e w3 ⟨vd, rfl, hvd, hb3⟩
  have hB3 := below_trans' hB2 hB2.size hb3
  have hva3 := hva2.below hb3
  have hvb3 := hvb.below hb3
  have n0 := cells3 (blk_below hB3 g0)
  have n1' := cells3 (blk_below hB3 g1)
  clear m0 m1 hva2 hvb hq2 hq2' hB2 hb3
  by_cases hs : s1 = s2
  · have ds : (s1 == s2) = true := by simp [hs]
    have hS : ratP s1 (n1 * d2 + n2 * d1) (d1 * d2) = R := by have := HXY.out; rw [sumS_same hs] at this; exact this
    have HS := Lib.hid hS
    have hsz5 : Sm (K + K + 1) (n1 * d2 + n2 * d1) := (hsza.add hszb).mono (by omega)
    clear hs hS
    go_wp2_with fail
    have hbd4 : Below w3.heap.size w3 w3.drew := (Below.refl _ _).drew
    have hB4d := below_trans' hB3 hB3.size hbd4
    have k4 := cells3 (blk_below hB4d g0)
    have k4a := k4.1
    have xa := hva3.below hbd4
    have xb := hvb3.below hbd4
    have xd := hvd.below hbd4
    go_region_held3 (fun w' => w'.cell? ⟨w.heap.size, 0, none⟩ = some (.bool s1))
      (first | with_reducible exact z4.1 | with_reducible exact y4.1 | with_reducible exact k4a | with_reducible exact k4.1 | with_reducible exact (c3set (c3set (c3set z4 (by omega)) (by omega)) (by omega)).1)
      (first
        | (go_at_call 90; with_reducible refine (plus121 (K + K) _ _ (n1 * d2) (n2 * d1) _ (by omega) hsza hszb xa xb).mono ?_; rintro e w4 ⟨vn, rfl, hvn, hb4⟩; have hB4 := below_trans' hB4d hB4d.size hb4; have y4 := cells3 (blk_below hB4 g0))
        | (go_at_call 68; with_reducible refine (lowest118 (K + K + 1) _ _ _ _ _ _ (by omega) hsz5 hszd hd0 hvn (xd.below hb4)).mono ?_; rintro e w5 ⟨f, rfl, hf, hb5⟩; rw [HS.out] at hf; obtain ⟨A1, e1, k1', A2, e2, k2', rfl, f1, f2, -⟩ := hf.shape; have hB5 := below_trans' hB4 hB4.size hb5; have z4 := cells3 (blk_below hB5 g0); have z5 := cells3 (blk_below hB5 g2); have z6 := free_of_block (blk_below hB5 g2)))
    all_goals
      obtain ⟨t0, q1, q2⟩ := ret3g (b := decide (R.num < 0)) (blk_below hB5 g2) f1 f2
      have hbe := below_set3 (z := w.heap.size + 1 + 1) (below_trans' hbW hbW.size hB5) (by omega) (.bool (decide (R.num < 0))) (.slice A1 e1 k1') (.slice A2 e2 k2')
      obtain ⟨u0, u1, u2⟩ := cells3 t0
      clear t0
      generalize ((w5.setCell ⟨w.heap.size + 1 + 1, 0, none⟩ (.bool (decide (R.num < 0)))).setCell ⟨w.heap.size + 1 + 1, 1, none⟩ (.slice A1 e1 k1')).setCell ⟨w.heap.size + 1 + 1, 2, none⟩ (.slice A2 e2 k2') = w9 at *
      obtain ⟨sg, hsg⟩ : ∃ c, decide (R.num < 0) = c := ⟨_, rfl⟩
      rw [hsg] at u0
      have HSG := Lib.hid hsg
      clear hsg
      go_wp2_with fail
      exact bodyPost_ret (v := .agg #[.bool sg, .slice A1 e1 k1', .slice A2 e2 k2']) (by simp [results, Tryz.results65, go_sem, u0, u1, u2]) rfl ⟨_, rfl, ⟨_, _, by rw [HSG.out], q1, q2⟩, hbe⟩
  · have ds : (s1 == s2) = false := by simp [hs]
    have hcmp := compare119 4294967296 (by omega) _ _ (n1 * d2) (n2 * d1) w3 hva3 hvb3
    obtain ⟨qc, hqc⟩ : ∃ qc : Int, cmpI (n1 * d2) (n2 * d1) = qc := ⟨_, rfl⟩
    rw [hqc] at hcmp
    by_cases hle : n2 * d1 ≤ n1 * d2
    · have hS : ratP s1 (n1 * d2 - n2 * d1) (d1 * d2) = R := by have := HXY.out; rw [sumS_ge hs hle] at this; exact this
      have dq : decide (0 ≤ qc) = true := by have := cmpI_ge hle; rw [hqc] at this; simpa using this
      have HLE := Lib.hid hle
      clear hle
      have HS := Lib.hid hS
      have hsz5 : Sm (K + K + 1) (n1 * d2 - n2 * d1) := (hsza.le (Nat.sub_le _ _)).mono (by omega)
      clear hs hS hqc
      go_wp2_with fail
      refine hcmp.mono ?_
      rintro e _ ⟨rfl, kk, rfl⟩
      have hbk : Below w3.heap.size w3 (w3.drewN (kk + 1)) := below_drewN (Below.refl _ _) (kk + 1)
      replace hva3 := hva3.below hbk
      replace hvb3 := hvb3.below hbk
      replace hvd := hvd.below hbk
      replace hB3 := below_trans' hB3 hB3.size hbk
      clear hbk hcmp n0 n1'
      have n0 := cells3 (blk_below hB3 g0)
      have n1' := cells3 (blk_below hB3 g1)
      go_wp2_with fail
      have hbd4 : Below (w3.drewN (kk + 1)).heap.size (w3.drewN (kk + 1)) (w3.drewN (kk + 1)) := Below.refl _ _
      have hB4d := below_trans' hB3 hB3.size hbd4
      have k4 := cells3 (blk_below hB4d g0)
      have k4a : (w3.drewN kk).drew.cell? ⟨w.heap.size, 0, none⟩ = some (.bool s1) := k4.1
      have xa := hva3.below hbd4
      have xb := hvb3.below hbd4
      have xd := hvd.below hbd4
      go_region_held3 (fun w' => w'.cell? ⟨w.heap.size, 0, none⟩ = some (.bool s1))
        (first | with_reducible exact z4.1 | with_reducible exact y4.1 | with_reducible exact k4a | with_reducible exact k4.1 | with_reducible exact (c3set (c3set (c3set z4 (by omega)) (by omega)) (by omega)).1)
        (first
          | (go_at_call 101; have q9 := minus129 (K + K) _ _ (n1 * d2) (n2 * d1) _ (by omega) hsza HLE.out xa xb; (with_reducible refine q9.mono ?_); rintro e w4 ⟨vn, rfl, ⟨hvn, -⟩, hb4⟩; have hB4 := below_trans' hB4d hB4d.size hb4; have y4 := cells3 (blk_below hB4 g0))
          | (go_at_call 68; with_reducible refine (lowest118 (K + K + 1) _ _ _ _ _ _ (by omega) hsz5 hszd hd0 hvn (xd.below hb4)).mono ?_; rintro e w5 ⟨f, rfl, hf, hb5⟩; rw [HS.out] at hf; obtain ⟨A1, e1, k1', A2, e2, k2', rfl, f1, f2, -⟩ := hf.shape; have hB5 := below_trans' hB4 hB4.size hb5; have z4 := cells3 (blk_below hB5 g0); have z5 := cells3 (blk_below hB5 g2); have z6 := free_of_block (blk_below hB5 g2)))
      all_goals
        obtain ⟨t0, q1, q2⟩ := ret3g (b := decide (R.num < 0)) (blk_below hB5 g2) f1 f2
        have hbe := below_set3 (z := w.heap.size + 1 + 1) (below_trans' hbW hbW.size hB5) (by omega) (.bool (decide (R.num < 0))) (.slice A1 e1 k1') (.slice A2 e2 k2')
        obtain ⟨u0, u1, u2⟩ := cells3 t0
        clear t0
        generalize ((w5.setCell ⟨w.heap.size + 1 + 1, 0, none⟩ (.bool (decide (R.num < 0)))).setCell ⟨w.heap.size + 1 + 1, 1, none⟩ (.slice A1 e1 k1')).setCell ⟨w.heap.size + 1 + 1, 2, none⟩ (.slice A2 e2 k2') = w9 at *
        obtain ⟨sg, hsg⟩ : ∃ c, decide (R.num < 0) = c := ⟨_, rfl⟩
        rw [hsg] at u0
        have HSG := Lib.hid hsg
        clear hsg
        go_wp2_with fail
        exact bodyPost_ret (v := .agg #[.bool sg, .slice A1 e1 k1', .slice A2 e2 k2']) (by simp [results, Tryz.results65, go_sem, u0, u1, u2]) rfl ⟨_, rfl, ⟨_, _, by rw [HSG.out], q1, q2⟩, hbe⟩
    · have hle' : n1 * d2 ≤ n2 * d1 := by omega
      have hS : ratP s2 (n2 * d1 - n1 * d2) (d1 * d2) = R := by have := HXY.out; rw [sumS_lt hs (by omega)] at this; exact this
      have dq : decide (0 ≤ qc) = false := by have := cmpI_lt (show n1 * d2 < n2 * d1 by omega); rw [hqc] at this; subst this; rfl
      have HLE := Lib.hid hle'
      clear hle hle'
      have HS := Lib.hid hS
      have hsz5 : Sm (K + K + 1) (n2 * d1 - n1 * d2) := (hszb.le (Nat.sub_le _ _)).mono (by omega)
      clear hs hS hqc
      go_wp2_with fail
      refine hcmp.mono ?_
      rintro e _ ⟨rfl, kk, rfl⟩
      have hbk : Below w3.heap.size w3 (w3.drewN (kk + 1)) := below_drewN (Below.refl _ _) (kk + 1)
      replace hva3 := hva3.below hbk
      replace hvb3 := hvb3.below hbk
      replace hvd := hvd.below hbk
      replace hB3 := below_trans' hB3 hB3.size hbk
      clear hbk hcmp n0 n1'
      have n0 := cells3 (blk_below hB3 g0)
      have n1' := cells3 (blk_below hB3 g1)
      go_wp2_with fail
      have hbd4 : Below (w3.drewN (kk + 1)).heap.size (w3.drewN (kk + 1)) (w3.drewN (kk + 1)) := Below.refl _ _
      have hB4d := below_trans' hB3 hB3.size hbd4
      have k4 := cells3 (blk_below hB4d g1)
      have k4a : (w3.drewN kk).drew.cell? ⟨w.heap.size + 1, 0, none⟩ = some (.bool s2) := k4.1
      have xa := hva3.below hbd4
      have xb := hvb3.below hbd4
      have xd := hvd.below hbd4
      go_region_held3 (fun w' => w'.cell? ⟨w.heap.size + 1, 0, none⟩ = some (.bool s2))
        (first | with_reducible exact z4.1 | with_reducible exact y4.1 | with_reducible exact k4a | with_reducible exact k4.1 | with_reducible exact (c3set (c3set (c3set z4 (by omega)) (by omega)) (by omega)).1)
        (first
          | (go_at_call 101; have q9 := minus129 (K + K) _ _ (n2 * d1) (n1 * d2) _ (by omega) hszb HLE.out xb xa; (with_reducible refine q9.mono ?_); rintro e w4 ⟨vn, rfl, ⟨hvn, -⟩, hb4⟩; have hB4 := below_trans' hB4d hB4d.size hb4; have y4 := cells3 (blk_below hB4 g1))
          | (go_at_call 68; with_reducible refine (lowest118 (K + K + 1) _ _ _ _ _ _ (by omega) hsz5 hszd hd0 hvn (xd.below hb4)).mono ?_; rintro e w5 ⟨f, rfl, hf, hb5⟩; rw [HS.out] at hf; obtain ⟨A1, e1, k1', A2, e2, k2', rfl, f1, f2, -⟩ := hf.shape; have hB5 := below_trans' hB4 hB4.size hb5; have z4 := cells3 (blk_below hB5 g1); have z5 := cells3 (blk_below hB5 g2); have z6 := free_of_block (blk_below hB5 g2)))
      all_goals
        obtain ⟨t0, q1, q2⟩ := ret3g (b := decide (R.num < 0)) (blk_below hB5 g2) f1 f2
        have hbe := below_set3 (z := w.heap.size + 1 + 1) (below_trans' hbW hbW.size hB5) (by omega) (.bool (decide (R.num < 0))) (.slice A1 e1 k1') (.slice A2 e2 k2')
        obtain ⟨u0, u1, u2⟩ := cells3 t0
        clear t0
        generalize ((w5.setCell ⟨w.heap.size + 1 + 1, 0, none⟩ (.bool (decide (R.num < 0)))).setCell ⟨w.heap.size + 1 + 1, 1, none⟩ (.slice A1 e1 k1')).setCell ⟨w.heap.size + 1 + 1, 2, none⟩ (.slice A2 e2 k2') = w9 at *
        obtain ⟨sg, hsg⟩ : ∃ c, decide (R.num < 0) = c := ⟨_, rfl⟩
        rw [hsg] at u0
        have HSG := Lib.hid hsg
        clear hsg
        go_wp2_with fail
        exact bodyPost_ret (v := .agg #[.bool sg, .slice A1 e1 k1', .slice A2 e2 k2']) (by simp [results, Tryz.results65, go_sem, u0, u1, u2]) rfl ⟨_, rfl, ⟨_, _, by rw [HSG.out], q1, q2⟩, hbe⟩

theorem RS.neg {K : Nat} {x : Rat} (h : RS K x) : RS K (-x) := ⟨by rw [Rat.neg_num, Int.natAbs_neg]; exact h.num, by rw [Rat.neg_den]; exact h.den⟩

set_option maxRecDepth 100000 in
set_option maxHeartbeats 8000000 in
theorem minus81 (K : Nat) (f g : Value) (x y : Rat) (w : World) (hK : K ≤ 100000) (a1 : RS K x) (a2 : RS K y) (h1 : FrR w f x) (h2 : FrR w g y) :
    Calls Tryz.prog 64 #[f, g] w fun e w' => ∃ v, e = .returned v ∧ FrR w' v (x - y) ∧ Below w.heap.size w w' := by
  rw [Rat.sub_eq_add_neg]
  have h1' := h1
  have h2' := h2
  obtain ⟨P1, l1, c1, P2, l2, c2, rfl, -⟩ := h1.shape
  obtain ⟨P3, l3, c3, P4, l4, c4, rfl, -⟩ := h2.shape
  have a2' := a2.neg
  obtain ⟨R, hR⟩ : ∃ R, x + -y = R := ⟨_, rfl⟩
  rw [hR]
  have HR := Lib.hid hR
  generalize decide (x.num < 0) = s1 at *
  generalize decide (y.num < 0) = s2 at *
  obtain ⟨hbW, g0, g1, g2⟩ := allocs3 w #[.bool s1, .slice P1 l1 c1, .slice P2 l2 c2] #[.bool s2, .slice P3 l3 c3, .slice P4 l4 c4] #[.bool false, .slice none 0 0, .slice none 0 0] 57 57 57
  clear hR h1 h2
  go_enter Tryz.func64, Tryz.ntmps64
  go_wp2_with fail
  generalize ((w.alloc (.cells #[.bool s1, .slice P1 l1 c1, .slice P2 l2 c2] 57)).alloc (.cells #[.bool s2, .slice P3 l3 c3, .slice P4 l4 c4] 57)).alloc (.cells #[.bool false, .slice none 0 0, .slice none 0 0] 57) = W at *
  have hsz : w.heap.size + 1 + 1 < W.heap.size := lt_of_blk g2
  have hbd : Below W.heap.size W W.drew := (Below.refl _ _).drew
  have hx := (h1'.below hbW).below hbd
  have hy := (h2'.below hbW).below hbd
  have k0 := cells3 (blk_below hbd g0)
  have k1 := cells3 (blk_below hbd g1)
  clear h1' h2'
  go_region_held3 (fun w' => (w'.cell? ⟨w.heap.size, 0, none⟩ = some (.bool s1) ∧ w'.cell? ⟨w.heap.size, 1, none⟩ = some (.slice P1 l1 c1) ∧ w'.cell? ⟨w.heap.size, 2, none⟩ = some (.slice P2 l2 c2)) ∧ (w'.cell? ⟨w.heap.size + 1, 0, none⟩ = some (.bool s2) ∧ w'.cell? ⟨w.heap.size + 1, 1, none⟩ = some (.slice P3 l3 c3) ∧ w'.cell? ⟨w.heap.size + 1, 2, none⟩ = some (.slice P4 l4 c4)))
    (first | with_reducible exact ⟨m0, m1⟩ | with_reducible exact ⟨l0, l1'⟩ | with_reducible exact ⟨k0, k1⟩ | with_reducible exact ⟨c3set (c3set (c3set m0 (by omega)) (by omega)) (by omega), c3set (c3set (c3set m1 (by omega)) (by omega)) (by omega)⟩)
    (first
      | (go_at_call 100; with_reducible refine (neg130 _ y _ hy).mono ?_; rintro e w1 ⟨va, rfl, hva, hb1⟩; have hB1 := below_trans' hbd (Nat.le_refl _) hb1; have l0 := cells3 (blk_below hB1 g0); have l1' := cells3 (blk_below hB1 g1))
      | (go_at_call 65; with_reducible refine (plus78 K _ _ x (-y) _ hK a1 a2' (hx.below hb1) hva).mono ?_; rintro e w3 ⟨f, rfl, hf, hb3⟩; rw [HR.out] at hf; obtain ⟨A1, e1, k1', A2, e2, k2', rfl, f1, f2, -⟩ := hf.shape; have hB3 := below_trans' hB1 hB1.size hb3; have m0 := cells3 (blk_below hB3 g0); have m1 := cells3 (blk_below hB3 g1); have n2' := cells3 (blk_below hB3 g2); have n3' := free_of_block (blk_below hB3 g2)))
  all_goals
    obtain ⟨t0, q1, q2⟩ := ret3g (b := decide (R.num < 0)) (blk_below hB3 g2) f1 f2
    have hbe := below_set3 (z := w.heap.size + 1 + 1) (below_trans' hbW hbW.size hB3) (by omega) (.bool (decide (R.num < 0))) (.slice A1 e1 k1') (.slice A2 e2 k2')
    obtain ⟨u0, u1, u2⟩ := cells3 t0
    clear t0
    generalize ((w3.setCell ⟨w.heap.size + 1 + 1, 0, none⟩ (.bool (decide (R.num < 0)))).setCell ⟨w.heap.size + 1 + 1, 1, none⟩ (.slice A1 e1 k1')).setCell ⟨w.heap.size + 1 + 1, 2, none⟩ (.slice A2 e2 k2') = w9 at *
    obtain ⟨sg, hsg⟩ : ∃ c, decide (R.num < 0) = c := ⟨_, rfl⟩
    rw [hsg] at u0
    have HSG := Lib.hid hsg
    clear hsg
    go_wp2_with fail
    exact bodyPost_ret (v := .agg #[.bool sg, .slice A1 e1 k1', .slice A2 e2 k2']) (by simp [results, Tryz.results64, go_sem, u0, u1, u2]) rfl ⟨_, rfl, ⟨_, _, by rw [HSG.out], q1, q2⟩, hbe⟩

def ReadR (N D : ByteArray) (w : World) (e : Ending) (w' : World) : Prop := ∃ b A1 n1 c1 A2 n2 c2, e = .returned (.tuple #[.agg #[.bool b, .slice A1 n1 c1, .slice A2 n2 c2], .bool (rdR (N.data.toList, D.data.toList)).isSome]) ∧
  (∀ x, rdR (N.data.toList, D.data.toList) = some x → FrR w' (.agg #[.bool b, .slice A1 n1 c1, .slice A2 n2 c2]) x) ∧ Below w.heap.size w w'
theorem readR_bad {N D : ByteArray} {w w' : World} (h : formB N.data.toList D.data.toList = false) (hb : Below w.heap.size w w') : ReadR N D w (.returned (.tuple #[.agg #[.bool false, .slice none 0 0, .slice none 0 0], .bool false])) w' := by
  have hf := (rd_form (N := N.data.toList) (D := D.data.toList)).1
  rw [h] at hf
  refine ⟨false, none, 0, 0, none, 0, 0, by rw [hf], fun x hx => ?_, hb⟩
  rw [hx] at hf
  cases hf

theorem gcd_den {s : Bool} {n d : Nat} (hd : d ≠ 0) : (cmpI (ratP s n d).den d == 0) = (Nat.gcd d n == 1) := by
  obtain ⟨_, e2, _⟩ := ratP_num (neg := s) (n := n) hd
  rw [e2, Nat.gcd_comm]
  have hp : 0 < Nat.gcd d n := Nat.gcd_pos_of_pos_left _ (Nat.pos_of_ne_zero hd)
  by_cases h : Nat.gcd d n = 1
  · rw [h, Nat.div_one, cmpI_eq rfl]; rfl
  · have : d / Nat.gcd d n < d := Nat.div_lt_self (Nat.pos_of_ne_zero hd) (by omega)
    rw [cmpI_lt this, beq_eq_false_iff_ne.2 h]; rfl

theorem neg_head {N : ByteArray} (h : 0 < N.size) : negL N.data.toList = ((N[0].toNat : Int) == 45) := by
  unfold negL
  rw [List.head?_eq_getElem?, byte_at N 0 h, Bool.eq_iff_iff, beq_iff_eq, beq_iff_eq, Option.some.injEq]
  constructor
  · intro h; rw [h]; rfl
  · intro h; exact UInt8.toNat_inj.1 (by have e : (45 : UInt8).toNat = 45 := rfl
                                         omega)

theorem tail_extract (N : ByteArray) : (N.extract 1 N.size).data.toList = N.data.toList.tail := by
  rw [ByteArray.data_extract, Array.toList_extract, ← size_list, List.extract_eq_take_drop, List.drop_one]
  exact List.take_of_length_le (by rw [List.length_tail]; omega)

set_option maxRecDepth 100000 in
set_option maxHeartbeats 8000000 in
theorem read66 (N D : ByteArray) (w : World) (hN : N.size ≤ maxLen) (hD : D.size ≤ maxLen) :
    Calls Tryz.prog 50 #[.agg #[.string N, .string D]] w (ReadR N D w) := by
  obtain ⟨S, hS⟩ : ∃ S : ByteArray, S = if negL N.data.toList = true then N.extract 1 N.size else N := ⟨_, rfl⟩
  have hSl : S.data.toList = absL N.data.toList := by
    unfold absL
    rw [hS]
    split
    · exact tail_extract N
    · rfl
  have hSz : S.size ≤ maxLen := by
    rw [← size_list, hSl]
    refine Nat.le_trans ?_ hN
    rw [← size_list]
    unfold absL
    split
    · rw [List.length_tail]; omega
    · exact Nat.le_refl _
  have hdS := digits116 S
  have hdD := digits116 D
  have ezS : (S.toList == [48]) = (absL N.data.toList == [48]) := by rw [ByteArray.toList_eq, hSl]
  have ezD : (D.toList == [48]) = (D.data.toList == [48]) := by rw [ByteArray.toList_eq]
  obtain ⟨hbW, g0, g1⟩ := allocs2' w #[.string N, .string D] #[.bool false, .slice none 0 0, .slice none 0 0] 26 57
  have hfor : formB N.data.toList D.data.toList = (digB (absL N.data.toList) && (digB D.data.toList && (!(negL N.data.toList && (absL N.data.toList == [48])) && (!(D.data.toList == [48]) && Nat.gcd (decV D.data.toList) (decV (absL N.data.toList)) == 1)))) := rfl
  have hrd := rd_form (N := N.data.toList) (D := D.data.toList)
  have HRD := Lib.hid hrd
  have HSL := Lib.hid hSl
  rw [hSl] at hdS
  have hneg : negL N.data.toList = false ∨ negL N.data.toList = true := by cases negL N.data.toList <;> simp
  have hng0 : N.size = 0 → negL N.data.toList = false := fun h => by
    have : N.data.toList = [] := List.length_eq_zero_iff.1 (by rw [size_list]; exact h)
    rw [this]; rfl
  have hngp := neg_head (N := N)
  have HS := Lib.hid hS
  generalize hLN : absL N.data.toList = LN at *
  generalize hng : negL N.data.toList = ng at *
  generalize hzS : (LN == [48]) = zS at *
  generalize hzD : (D.data.toList == [48]) = zD at *
  generalize hc1 : digB LN = c1 at *
  generalize hc2 : digB D.data.toList = c2 at *
  have HF := Lib.hid hfor
  have HLN := Lib.hid hLN
  have HNG := Lib.hid hng
  have HC1 := Lib.hid hc1
  have HC2 := Lib.hid hc2
  have HZD := Lib.hid hzD
  have HNG0 := Lib.hid hng0
  have HNGP := Lib.hid hngp
  clear hfor hLN hng hzS hzD hc1 hc2 hSl hrd hng0 hngp hS hneg
  have hNb := hN
  unfold maxLen at hNb
  by_cases h0 : N.size = 0
  · have hng := HNG0.out h0
    subst hng
    obtain rfl : S = N := by have := HS.out; simpa using this
    have hc : c1 = false := by rw [← HC1.out, ← HSL.out]; exact digB_len (.inl (by rw [size_list]; exact h0))
    subst hc
    have d1 : ¬ 0 < S.size := by omega
    clear h0
    go_enter Tryz.func50, Tryz.ntmps50
    go_wp2_with fail
    with_reducible refine (hdS _ hSz).mono ?_
    rintro e _ ⟨rfl, rfl⟩
    go_wp2_with fail
    exact bodyPost_ret (v := .tuple #[.agg #[.bool false, .slice none 0 0, .slice none 0 0], .bool false]) (by simp [results, Tryz.results50, go_sem]) rfl (readR_bad (by rw [HF.out]; rfl) hbW)
  · have hp : 0 < N.size := by omega
    have d1 : decide ((0 : Int) < (N.size : Int)) = true := by simp; omega
    have d2 := HNGP.out hp
    clear h0
    cases ng with
    | true =>
      have hSe : N.extract 1 N.size = S := by have := HS.out; rw [this]; rfl
      have d3 : ((N[0].toNat : Int) == 45) = true := d2.symm
      clear d2
      go_enter Tryz.func50, Tryz.ntmps50
      go_wp2_with fail
      with_reducible refine (hdS _ hSz).mono ?_
      rintro e _ ⟨rfl, rfl⟩
      cases c1 with
      | false =>
        go_wp2_with fail
        exact bodyPost_ret (v := .tuple #[.agg #[.bool false, .slice none 0 0, .slice none 0 0], .bool false]) (by simp [results, Tryz.results50, go_sem]) rfl (readR_bad (by rw [HF.out]; rfl) hbW)
      | true =>
        go_wp2_with fail
        with_reducible refine (hdD _ hD).mono ?_
        rintro e _ ⟨rfl, rfl⟩
        cases c2 with
        | false =>
          go_wp2_with fail
          exact bodyPost_ret (v := .tuple #[.agg #[.bool false, .slice none 0 0, .slice none 0 0], .bool false]) (by simp [results, Tryz.results50, go_sem]) rfl (readR_bad (by rw [HF.out]; rfl) hbW)
        | true =>
          cases zD with
          | true =>
            go_wp2_with fail
            exact bodyPost_ret (v := .tuple #[.agg #[.bool false, .slice none 0 0, .slice none 0 0], .bool false]) (by simp [results, Tryz.results50, go_sem]) rfl (readR_bad (by rw [HF.out]; cases zS <;> rfl) hbW)
          | false =>
            cases zS with
            | true =>
              go_wp2_with fail
              exact bodyPost_ret (v := .tuple #[.agg #[.bool false, .slice none 0 0, .slice none 0 0], .bool false]) (by simp [results, Tryz.results50, go_sem]) rfl (readR_bad (by rw [HF.out]; rfl) hbW)
            | false =>
              go_wp2_with fail
              generalize (w.alloc (.cells #[.string N, .string D] 26)).alloc (.cells #[.bool false, .slice none 0 0, .slice none 0 0] 57) = W at *
              have hw1 : w.heap.size + 1 < W.heap.size := lt_of_blk g1
              have hSd : ∀ b ∈ S.data.toList, 48 ≤ b.toNat ∧ b.toNat ≤ 57 := by rw [HSL.out]; exact (digB_iff.1 HC1.out).1.dig
              have hDd : ∀ b ∈ D.data.toList, 48 ≤ b.toNat ∧ b.toNat ≤ 57 := (digB_iff.1 HC2.out).1.dig
              have hSs : S.size ≤ 100000 := by rw [← size_list, HSL.out]; have := (digB_iff.1 HC1.out).2; omega
              have hDs : D.size ≤ 100000 := by rw [← size_list]; have := (digB_iff.1 HC2.out).2; omega
              have hsS : Sm KD (decV S.data.toList) := by rw [HSL.out]; exact sm_dec HC1.out
              have hsD : Sm KD (decV D.data.toList) := sm_dec HC2.out
              have hD0 : decV D.data.toList ≠ 0 := fun h => by
                have h1 := (digB_iff.1 HC2.out).1.zero.1 h
                have h2 := HZD.out
                rw [h1] at h2
                cases h2
              have hVS : decV S.data.toList = decV (absL N.data.toList) := by rw [HLN.out, HSL.out]
              generalize hnS : decV S.data.toList = nS at *
              generalize hnD : decV D.data.toList = nD at *
              have HVS := Lib.hid hVS
              have HNS := Lib.hid hnS
              have HND := Lib.hid hnD
              have HSd := Lib.hid hSd
              have HDd := Lib.hid hDd
              have HD0 := Lib.hid hD0
              have hbd : Below W.heap.size W W.drew := (Below.refl _ _).drew
              have dc1 : W.drew.cell? ⟨w.heap.size, 1, none⟩ = some (.string D) := cell_of_block g0 1
              clear hVS hnS hnD hSd hDd hD0
              go_region_held3 (fun w' => w'.cell? ⟨w.heap.size, 1, none⟩ = some (.string D))
                (first | with_reducible exact dc1 | with_reducible exact ld | with_reducible exact md)
                (first
                  | (go_at_call 87; (with_reducible refine (parse117 S _ hSs HSd.out).mono ?_); rintro e w1 ⟨v1, rfl, hv1, hb1⟩; have hB1 := below_trans' hbd (Nat.le_refl _) hb1; have ld : w1.cell? ⟨w.heap.size, 1, none⟩ = some (.string D) := cell_of_block (blk_below hB1 g0) 1)
                  | (go_at_call 87; (with_reducible refine (parse117 D _ hDs HDd.out).mono ?_); rintro e w2 ⟨v2, rfl, hv2, hb2⟩; have hB2 := below_trans' hB1 hB1.size hb2; have md : w2.cell? ⟨w.heap.size, 1, none⟩ = some (.string D) := cell_of_block (blk_below hB2 g0) 1))
              all_goals
                rw [HNS.out] at hv1
                rw [HND.out] at hv2
                clear ld md dc1
                go_wp2_with fail
                (have q9 := lowest118 KD true _ _ nS nD w2 (by decide) hsS hsD HD0.out (hv1.below hb2) hv2; (with_reducible refine q9.mono ?_))
                rintro e w3 ⟨f, rfl, hf, hb3⟩
                have hB3 := below_trans' hB2 hB2.size hb3
                have hv2' := hv2.below hb3
                have hgd := gcd_den (s := true) (n := nS) HD0.out
                obtain ⟨R, hR⟩ : ∃ R, ratP true nS nD = R := ⟨_, rfl⟩
                rw [hR] at hf hgd
                have HR := Lib.hid hR
                obtain ⟨A1, e1, k1', A2, e2, k2', rfl, f1, f2, -⟩ := hf.shape
                obtain ⟨sg, hsg⟩ : ∃ c, decide (R.num < 0) = c := ⟨_, rfl⟩
                rw [hsg] at hf ⊢
                have hba : Below w3.heap.size w3 (w3.alloc (.cells #[.bool sg, .slice A1 e1 k1', .slice A2 e2 k2'] 57)) := (Below.refl _ _).alloc (Nat.le_refl _) _
                have hB4 := below_trans' hB3 hB3.size hba
                have ge := heap_alloc_new w3 (.cells #[.bool sg, .slice A1 e1 k1', .slice A2 e2 k2'] 57)
                have ce := cells3 ge
                have hcmp := compare119 4294967296 (by omega) _ _ R.den nD _ (f2.below hba) (hv2'.below hba)
                obtain ⟨qc, hqc⟩ : ∃ qc : Int, cmpI R.den nD = qc := ⟨_, rfl⟩
                rw [hqc] at hcmp hgd
                have hform : formB N.data.toList D.data.toList = (qc == 0) := by rw [hgd, HF.out, ← HLN.out, ← HVS.out]; rfl
                have HFO := Lib.hid hform
                have hzz := hf.below hba
                have HSG := Lib.hid hsg
                obtain ⟨hsome, hval⟩ := HRD.out
                rw [hform] at hsome
                have hval2 : (qc == 0) = true → rdR (N.data.toList, D.data.toList) = some R := fun h => by
                  have := (hval (by rw [HFO.out]; exact h)).1
                  rw [this, ← HR.out, HVS.out, HLN.out]
                have HV2 := Lib.hid hval2
                have HSO := Lib.hid hsome
                clear hR hsg hqc hgd hform hsome hval hval2 hf f1 f2
                go_wp2_with fail
                with_reducible refine hcmp.mono ?_
                rintro e _ ⟨rfl, kk, rfl⟩
                have hbk : Below (w3.alloc (.cells #[.bool sg, .slice A1 e1 k1', .slice A2 e2 k2'] 57)).heap.size (w3.alloc (.cells #[.bool sg, .slice A1 e1 k1', .slice A2 e2 k2'] 57)) ((w3.alloc (.cells #[.bool sg, .slice A1 e1 k1', .slice A2 e2 k2'] 57)).drewN kk) := below_drewN (Below.refl _ _) kk
                have hB5 := below_trans' hB4 hB4.size hbk
                have gz := blk_below hB5 g1
                have gf := blk_below hbk ge
                have cf := cells3 gf
                have cz := cells3 gz
                have fz := free_of_block gz
                have hzz2 := hzz.below hbk
                clear hcmp ce hbk hB4 hB3 hB2 hB1
                generalize (w3.alloc (.cells #[.bool sg, .slice A1 e1 k1', .slice A2 e2 k2'] 57)).drewN kk = w4 at *
                cases hq : (qc == 0) with
                | true =>
                  have q1 : (!(qc == 0)) = false := by rw [hq]; rfl
                  have q2 : (qc != 0) = false := by rw [bne, hq]; rfl
                  obtain ⟨hzn, hzd⟩ : NatV 4294967296 w4 (.slice A1 e1 k1') R.num.natAbs ∧ NatV 4294967296 w4 (.slice A2 e2 k2') R.den := by
                    obtain ⟨vn, vd, hh, z1, z2⟩ := hzz2
                    simp only [Value.agg.injEq, Array.mk.injEq, List.cons.injEq] at hh
                    obtain ⟨-, rfl, rfl, -⟩ := hh
                    exact ⟨z1, z2⟩
                  obtain ⟨t0, r1, r2⟩ := ret3g (b := sg) gz hzn hzd
                  obtain ⟨u0, u1, u2⟩ := cells3 t0
                  have hbe := below_set3 (z := w.heap.size + 1) (below_trans' hbW hbW.size hB5) (by omega) (.bool sg) (.slice A1 e1 k1') (.slice A2 e2 k2')
                  have hend : ReadR N D w (.returned (.tuple #[.agg #[.bool sg, .slice A1 e1 k1', .slice A2 e2 k2'], .bool true])) _ := ⟨_, _, _, _, _, _, _, by rw [HSO.out, hq], fun x hx => by
                    rw [HV2.out hq] at hx
                    injection hx with hx
                    subst hx
                    exact ⟨_, _, by rw [HSG.out], r1, r2⟩, hbe⟩
                  have HEND := Lib.hid hend
                  clear t0 r1 r2 hbe hend hzz2 hzn hzd gz gf
                  go_wp2_with fail
                  exact bodyPost_ret (v := .tuple #[.agg #[.bool sg, .slice A1 e1 k1', .slice A2 e2 k2'], .bool true]) (by simp [results, Tryz.results50, go_sem, u0, u1, u2]) rfl HEND.out
                | false =>
                  have q1 : (!(qc == 0)) = true := by rw [hq]; rfl
                  have q2 : (qc != 0) = true := by rw [bne, hq]; rfl
                  obtain ⟨t0, -, -⟩ := ret3g (b := false) gz (NatV.nil (B := 4294967296)) (NatV.nil (B := 4294967296))
                  obtain ⟨u0, u1, u2⟩ := cells3 t0
                  have hbe := below_set3 (z := w.heap.size + 1) (below_trans' hbW hbW.size hB5) (by omega) (.bool false) (.slice none 0 0) (.slice none 0 0)
                  have hend : ReadR N D w (.returned (.tuple #[.agg #[.bool false, .slice none 0 0, .slice none 0 0], .bool false])) _ := readR_bad (by rw [HFO.out, hq]) hbe
                  have HEND := Lib.hid hend
                  clear t0 hbe hend hzz2 gz gf
                  go_wp2_with fail
                  exact bodyPost_ret (v := .tuple #[.agg #[.bool false, .slice none 0 0, .slice none 0 0], .bool false]) (by simp [results, Tryz.results50, go_sem, u0, u1, u2]) rfl HEND.out
    | false =>
      obtain rfl : S = N := by have := HS.out; simpa using this
      have d3 : ((S[0].toNat : Int) == 45) = false := d2.symm
      clear d2
      go_enter Tryz.func50, Tryz.ntmps50
      go_wp2_with fail
      with_reducible refine (hdS _ hSz).mono ?_
      rintro e _ ⟨rfl, rfl⟩
      cases c1 with
      | false =>
        go_wp2_with fail
        exact bodyPost_ret (v := .tuple #[.agg #[.bool false, .slice none 0 0, .slice none 0 0], .bool false]) (by simp [results, Tryz.results50, go_sem]) rfl (readR_bad (by rw [HF.out]; rfl) hbW)
      | true =>
        go_wp2_with fail
        with_reducible refine (hdD _ hD).mono ?_
        rintro e _ ⟨rfl, rfl⟩
        cases c2 with
        | false =>
          go_wp2_with fail
          exact bodyPost_ret (v := .tuple #[.agg #[.bool false, .slice none 0 0, .slice none 0 0], .bool false]) (by simp [results, Tryz.results50, go_sem]) rfl (readR_bad (by rw [HF.out]; rfl) hbW)
        | true =>
          cases zD with
          | true =>
            go_wp2_with fail
            exact bodyPost_ret (v := .tuple #[.agg #[.bool false, .slice none 0 0, .slice none 0 0], .bool false]) (by simp [results, Tryz.results50, go_sem]) rfl (readR_bad (by rw [HF.out]; cases zS <;> rfl) hbW)
          | false =>
            cases zS
            all_goals
              go_wp2_with fail
              generalize (w.alloc (.cells #[.string S, .string D] 26)).alloc (.cells #[.bool false, .slice none 0 0, .slice none 0 0] 57) = W at *
              have hw1 : w.heap.size + 1 < W.heap.size := lt_of_blk g1
              have hSd : ∀ b ∈ S.data.toList, 48 ≤ b.toNat ∧ b.toNat ≤ 57 := by rw [HSL.out]; exact (digB_iff.1 HC1.out).1.dig
              have hDd : ∀ b ∈ D.data.toList, 48 ≤ b.toNat ∧ b.toNat ≤ 57 := (digB_iff.1 HC2.out).1.dig
              have hSs : S.size ≤ 100000 := by rw [← size_list, HSL.out]; have := (digB_iff.1 HC1.out).2; omega
              have hDs : D.size ≤ 100000 := by rw [← size_list]; have := (digB_iff.1 HC2.out).2; omega
              have hsS : Sm KD (decV S.data.toList) := by rw [HSL.out]; exact sm_dec HC1.out
              have hsD : Sm KD (decV D.data.toList) := sm_dec HC2.out
              have hD0 : decV D.data.toList ≠ 0 := fun h => by
                have h1 := (digB_iff.1 HC2.out).1.zero.1 h
                have h2 := HZD.out
                rw [h1] at h2
                cases h2
              have hVS : decV S.data.toList = decV (absL S.data.toList) := by rw [HLN.out, HSL.out]
              generalize hnS : decV S.data.toList = nS at *
              generalize hnD : decV D.data.toList = nD at *
              have HVS := Lib.hid hVS
              have HNS := Lib.hid hnS
              have HND := Lib.hid hnD
              have HSd := Lib.hid hSd
              have HDd := Lib.hid hDd
              have HD0 := Lib.hid hD0
              have hbd : Below W.heap.size W W.drew := (Below.refl _ _).drew
              have dc1 : W.drew.cell? ⟨w.heap.size, 1, none⟩ = some (.string D) := cell_of_block g0 1
              clear hVS hnS hnD hSd hDd hD0
              go_region_held3 (fun w' => w'.cell? ⟨w.heap.size, 1, none⟩ = some (.string D))
                (first | with_reducible exact dc1 | with_reducible exact ld | with_reducible exact md)
                (first
                  | (go_at_call 87; (with_reducible refine (parse117 S _ hSs HSd.out).mono ?_); rintro e w1 ⟨v1, rfl, hv1, hb1⟩; have hB1 := below_trans' hbd (Nat.le_refl _) hb1; have ld : w1.cell? ⟨w.heap.size, 1, none⟩ = some (.string D) := cell_of_block (blk_below hB1 g0) 1)
                  | (go_at_call 87; (with_reducible refine (parse117 D _ hDs HDd.out).mono ?_); rintro e w2 ⟨v2, rfl, hv2, hb2⟩; have hB2 := below_trans' hB1 hB1.size hb2; have md : w2.cell? ⟨w.heap.size, 1, none⟩ = some (.string D) := cell_of_block (blk_below hB2 g0) 1))
              all_goals
                rw [HNS.out] at hv1
                rw [HND.out] at hv2
                clear ld md dc1
                go_wp2_with fail
                (have q9 := lowest118 KD false _ _ nS nD w2 (by decide) hsS hsD HD0.out (hv1.below hb2) hv2; (with_reducible refine q9.mono ?_))
                rintro e w3 ⟨f, rfl, hf, hb3⟩
                have hB3 := below_trans' hB2 hB2.size hb3
                have hv2' := hv2.below hb3
                have hgd := gcd_den (s := false) (n := nS) HD0.out
                obtain ⟨R, hR⟩ : ∃ R, ratP false nS nD = R := ⟨_, rfl⟩
                rw [hR] at hf hgd
                have HR := Lib.hid hR
                obtain ⟨A1, e1, k1', A2, e2, k2', rfl, f1, f2, -⟩ := hf.shape
                obtain ⟨sg, hsg⟩ : ∃ c, decide (R.num < 0) = c := ⟨_, rfl⟩
                rw [hsg] at hf ⊢
                have hba : Below w3.heap.size w3 (w3.alloc (.cells #[.bool sg, .slice A1 e1 k1', .slice A2 e2 k2'] 57)) := (Below.refl _ _).alloc (Nat.le_refl _) _
                have hB4 := below_trans' hB3 hB3.size hba
                have ge := heap_alloc_new w3 (.cells #[.bool sg, .slice A1 e1 k1', .slice A2 e2 k2'] 57)
                have ce := cells3 ge
                have hcmp := compare119 4294967296 (by omega) _ _ R.den nD _ (f2.below hba) (hv2'.below hba)
                obtain ⟨qc, hqc⟩ : ∃ qc : Int, cmpI R.den nD = qc := ⟨_, rfl⟩
                rw [hqc] at hcmp hgd
                have hform : formB S.data.toList D.data.toList = (qc == 0) := by rw [hgd, HF.out, ← HLN.out, ← HVS.out]; rfl
                have HFO := Lib.hid hform
                have hzz := hf.below hba
                have HSG := Lib.hid hsg
                obtain ⟨hsome, hval⟩ := HRD.out
                rw [hform] at hsome
                have hval2 : (qc == 0) = true → rdR (S.data.toList, D.data.toList) = some R := fun h => by
                  have := (hval (by rw [HFO.out]; exact h)).1
                  rw [this, ← HR.out, HVS.out, HLN.out]
                have HV2 := Lib.hid hval2
                have HSO := Lib.hid hsome
                clear hR hsg hqc hgd hform hsome hval hval2 hf f1 f2
                go_wp2_with fail
                with_reducible refine hcmp.mono ?_
                rintro e _ ⟨rfl, kk, rfl⟩
                have hbk : Below (w3.alloc (.cells #[.bool sg, .slice A1 e1 k1', .slice A2 e2 k2'] 57)).heap.size (w3.alloc (.cells #[.bool sg, .slice A1 e1 k1', .slice A2 e2 k2'] 57)) ((w3.alloc (.cells #[.bool sg, .slice A1 e1 k1', .slice A2 e2 k2'] 57)).drewN kk) := below_drewN (Below.refl _ _) kk
                have hB5 := below_trans' hB4 hB4.size hbk
                have gz := blk_below hB5 g1
                have gf := blk_below hbk ge
                have cf := cells3 gf
                have cz := cells3 gz
                have fz := free_of_block gz
                have hzz2 := hzz.below hbk
                clear hcmp ce hbk hB4 hB3 hB2 hB1
                generalize (w3.alloc (.cells #[.bool sg, .slice A1 e1 k1', .slice A2 e2 k2'] 57)).drewN kk = w4 at *
                cases hq : (qc == 0) with
                | true =>
                  have q1 : (!(qc == 0)) = false := by rw [hq]; rfl
                  have q2 : (qc != 0) = false := by rw [bne, hq]; rfl
                  obtain ⟨hzn, hzd⟩ : NatV 4294967296 w4 (.slice A1 e1 k1') R.num.natAbs ∧ NatV 4294967296 w4 (.slice A2 e2 k2') R.den := by
                    obtain ⟨vn, vd, hh, z1, z2⟩ := hzz2
                    simp only [Value.agg.injEq, Array.mk.injEq, List.cons.injEq] at hh
                    obtain ⟨-, rfl, rfl, -⟩ := hh
                    exact ⟨z1, z2⟩
                  obtain ⟨t0, r1, r2⟩ := ret3g (b := sg) gz hzn hzd
                  obtain ⟨u0, u1, u2⟩ := cells3 t0
                  have hbe := below_set3 (z := w.heap.size + 1) (below_trans' hbW hbW.size hB5) (by omega) (.bool sg) (.slice A1 e1 k1') (.slice A2 e2 k2')
                  have hend : ReadR S D w (.returned (.tuple #[.agg #[.bool sg, .slice A1 e1 k1', .slice A2 e2 k2'], .bool true])) _ := ⟨_, _, _, _, _, _, _, by rw [HSO.out, hq], fun x hx => by
                    rw [HV2.out hq] at hx
                    injection hx with hx
                    subst hx
                    exact ⟨_, _, by rw [HSG.out], r1, r2⟩, hbe⟩
                  have HEND := Lib.hid hend
                  clear t0 r1 r2 hbe hend hzz2 hzn hzd gz gf
                  go_wp2_with fail
                  exact bodyPost_ret (v := .tuple #[.agg #[.bool sg, .slice A1 e1 k1', .slice A2 e2 k2'], .bool true]) (by simp [results, Tryz.results50, go_sem, u0, u1, u2]) rfl HEND.out
                | false =>
                  have q1 : (!(qc == 0)) = true := by rw [hq]; rfl
                  have q2 : (qc != 0) = true := by rw [bne, hq]; rfl
                  obtain ⟨t0, -, -⟩ := ret3g (b := false) gz (NatV.nil (B := 4294967296)) (NatV.nil (B := 4294967296))
                  obtain ⟨u0, u1, u2⟩ := cells3 t0
                  have hbe := below_set3 (z := w.heap.size + 1) (below_trans' hbW hbW.size hB5) (by omega) (.bool false) (.slice none 0 0) (.slice none 0 0)
                  have hend : ReadR S D w (.returned (.tuple #[.agg #[.bool false, .slice none 0 0, .slice none 0 0], .bool false])) _ := readR_bad (by rw [HFO.out, hq]) hbe
                  have HEND := Lib.hid hend
                  clear t0 hbe hend hzz2 gz gf
                  go_wp2_with fail
                  exact bodyPost_ret (v := .tuple #[.agg #[.bool false, .slice none 0 0, .slice none 0 0], .bool false]) (by simp [results, Tryz.results50, go_sem, u0, u1, u2]) rfl HEND.out

theorem wr_rat (x : Rat) : wrR x = if 400 < (decT x.num.natAbs).length ∨ 400 < (decT x.den).length then none else some (signT (decide (x.num < 0)) (decT x.num.natAbs), decT x.den) := by
  have l1 := decT_len x.num.natAbs (k := 400) (by decide)
  have l2 := decT_len x.den (k := 400) (by decide)
  have hf : fitsR x ↔ ¬ (400 < (decT x.num.natAbs).length ∨ 400 < (decT x.den).length) := by
    unfold fitsR
    rw [← l1, ← l2]
    omega
  unfold wrR
  by_cases h : fitsR x
  · rw [if_pos h, if_neg (hf.1 h)]; rfl
  · rw [if_neg h, if_pos (Classical.not_not.1 fun h' => h (hf.2 h'))]
theorem c12set {w : World} {g k j : Nat} {y z u : Value} (h : w.cell? ⟨g, 1, none⟩ = some y ∧ w.cell? ⟨g, 2, none⟩ = some z) (hne : g ≠ k) : (w.setCell ⟨k, j, none⟩ u).cell? ⟨g, 1, none⟩ = some y ∧ (w.setCell ⟨k, j, none⟩ u).cell? ⟨g, 2, none⟩ = some z := by
  have e := Below.heap_setCell w ⟨k, j, none⟩ u g hne
  simp only [World.cell?, e]
  exact h

set_option maxRecDepth 100000 in
set_option maxHeartbeats 8000000 in
theorem write72 (K : Nat) (f : Value) (x : Rat) (w : World) (hK : K ≤ 100000) (hK3 : 30 ≤ K) (a : RS K x) (h : FrR w f x) :
    Calls Tryz.prog 57 #[f] w fun e w' => e = .returned (txV (wrR x)) ∧ Below w.heap.size w w' := by
  obtain ⟨A1, e1, c1, A2, e2, c2, rfl, hp, hq, -⟩ := h.shape
  obtain ⟨a1, a2⟩ := a
  rw [wr_rat]
  generalize decide (x.num < 0) = s at *
  generalize x.num.natAbs = n1 at *
  generalize x.den = d1 at *
  obtain ⟨A, hA⟩ : ∃ A : ByteArray, (⟨(decT n1).toArray⟩ : ByteArray) = A := ⟨_, rfl⟩
  obtain ⟨B, hB⟩ : ∃ B : ByteArray, (⟨(decT d1).toArray⟩ : ByteArray) = B := ⟨_, rfl⟩
  have hAl : A.size = (decT n1).length := by rw [← hA]; simp [ByteArray.size]
  have hBl : B.size = (decT d1).length := by rw [← hB]; simp [ByteArray.size]
  have HA := Lib.hid hA
  have HB := Lib.hid hB
  have HAL := Lib.hid hAl
  have HBL := Lib.hid hBl
  obtain ⟨R, hR⟩ : ∃ R : Option Txt, (if 400 < (decT n1).length ∨ 400 < (decT d1).length then none else some (signT s (decT n1), decT d1)) = R := ⟨_, rfl⟩
  rw [hR]
  have HR := Lib.hid hR
  have hshow1 := fun w h => show127 K (.slice A1 e1 c1) n1 w hK hK3 a1 h
  have hshow2 := fun w h => show127 K (.slice A2 e2 c2) d1 w hK hK3 a2 h
  rw [hA] at hshow1
  rw [hB] at hshow2
  have HSH1 := Lib.hid hshow1
  have HSH2 := Lib.hid hshow2
  obtain ⟨hbW, g0, g1⟩ := allocs2' w #[.bool s, .slice A1 e1 c1, .slice A2 e2 c2] #[.string ⟨#[]⟩, .string ⟨#[]⟩] 57 26
  clear hA hB hAl hBl hR h hshow1 hshow2
  go_enter Tryz.func57, Tryz.ntmps57
  go_upto_region 1 with fail
  generalize (w.alloc (.cells #[.bool s, .slice A1 e1 c1, .slice A2 e2 c2] 57)).alloc (.cells #[.string ⟨#[]⟩, .string ⟨#[]⟩] 26) = W at *
  have hw1 : w.heap.size + 1 < W.heap.size := lt_of_blk g1
  have hlt0 : w.heap.size < W.heap.size := by omega
  have hbd : Below W.heap.size W W.drew := (Below.refl _ _).drew
  have hbda : Below W.heap.size W (W.alloc (.cells #[.string ⟨#[]⟩, .string ⟨#[]⟩] 26)).drew := ((Below.refl _ _).alloc (Nat.le_refl _) _).drew
  have hnew : (W.alloc (.cells #[.string ⟨#[]⟩, .string ⟨#[]⟩] 26)).drew.heap[W.heap.size]? = some (.cells #[.string ⟨#[]⟩, .string ⟨#[]⟩] 26 (0, 0)) := heap_alloc_new W _
  have hpW := hp.below hbW
  have hqW := hq.below hbW
  have k1 := (cells3 (blk_below hbd g0)).2
  have k2 := (cells3 (blk_below hbda g0)).2
  have p1 := hpW.below hbd
  have p2 := hpW.below hbda
  clear hp hq
  go_cut [4] (fun s4 wx => TxBlk W A B s4 wx)
  case first =>
    go_region_held3 (fun w' => w'.cell? ⟨w.heap.size, 1, none⟩ = some (.slice A1 e1 c1) ∧ w'.cell? ⟨w.heap.size, 2, none⟩ = some (.slice A2 e2 c2))
      (first | with_reducible exact k1 | with_reducible exact k2 | with_reducible exact l1 | with_reducible exact l2 | with_reducible exact m1 | with_reducible exact m2 | with_reducible exact c12set (c12set m1 (by omega)) (by omega) | with_reducible exact (cells3 (blk_below (hB2.alloc hB2.size _) g0)).2)
      (first
        | (go_at_call 97; (first | with_reducible refine (HSH1.out _ p1).mono ?_ | with_reducible refine (HSH1.out _ p2).mono ?_); rintro e w1 ⟨rfl, hb1⟩; (first | (have hB1 := below_trans' hbd (Nat.le_refl _) hb1) | (have hB1 := below_trans' hbda hbda.size hb1)); have h1s := hB1.size; have l1 := (cells3 (blk_below hB1 g0)).2; have l2 := (cells3 (blk_below (hB1.alloc hB1.size (.cells #[.string ⟨#[]⟩, .string ⟨#[]⟩] 26)) g0)).2)
        | (go_at_call 97; (first | with_reducible refine (HSH2.out _ (hqW.below hB1)).mono ?_ | with_reducible refine (HSH2.out _ (hqW.below (hB1.alloc hB1.size (.cells #[.string ⟨#[]⟩, .string ⟨#[]⟩] 26)))).mono ?_); rintro e w2 ⟨rfl, hb2⟩; (first | (have hB2 := below_trans' hB1 hB1.size hb2) | (have hB2 := below_trans' (hB1.alloc hB1.size (.cells #[.string ⟨#[]⟩, .string ⟨#[]⟩] 26)) (hB1.alloc hB1.size (.cells #[.string ⟨#[]⟩, .string ⟨#[]⟩] 26)).size hb2)); have m1 := (cells3 (blk_below hB2 g0)).2; have m2 := (cells3 (blk_below (hB2.alloc hB2.size (.cells #[.string ⟨#[]⟩, .string ⟨#[]⟩] 26)) g0)).2; (first | (have n3 := blk_below hb2 (blk_below hb1 hnew); have n0 := cells2 n3; have nf := free_of_block n3) | (have n3 := blk_below hb2 (heap_alloc_new w1 (.cells #[.string ⟨#[]⟩, .string ⟨#[]⟩] 26)); have n0 := cells2 n3; have nf := free_of_block n3) | skip)))
    all_goals
      go_wp2_with fail
      go_meet
      case rel => first | exact TxBlk.new hB2 | exact TxBlk.set hB2 n3 (by first | exact Nat.le_refl _ | exact hB1.size)
  case rest =>
    obtain ⟨g, rfl, hgW, g9, hB9⟩ := hcut
    clear hbd hbda hnew k1 k2 p1 p2 HSH1 HSH2 hpW hqW
    have gf := blk_below hB9 g0
    have gr := blk_below hB9 g1
    have k9 := cells2 g9
    have kf := cells3 gf
    have kr := cells2 gr
    have fr := free_of_block gr
    have f9 := free_of_block g9
    by_cases hA4 : (400 : Int) < (A.size : Int)
    · have hR0 : R = none := by rw [← HR.out, if_pos (.inl (by rw [← HAL.out]; omega))]
      subst hR0
      go_wp2_with fail
      obtain ⟨y0, y1⟩ := ret2 (A := ⟨#[]⟩) (B := ⟨#[]⟩) gr
      have hbe := below_sets2 (below_trans' hbW hbW.size hB9) (show w.heap.size ≤ w.heap.size + 1 by omega) (.string ⟨#[]⟩) (.string ⟨#[]⟩)
      generalize ((wc.setCell ⟨w.heap.size + 1, 0, none⟩ (.string ⟨#[]⟩)).setCell ⟨w.heap.size + 1, 1, none⟩ (.string ⟨#[]⟩)) = W3 at y0 y1 hbe ⊢
      exact bodyPost_ret (v := .tuple #[.agg #[.string ⟨#[]⟩, .string ⟨#[]⟩], .bool false]) (by simp [results, Tryz.results57, go_sem, y0, y1]) rfl ⟨rfl, hbe⟩
    · by_cases hB4 : (400 : Int) < (B.size : Int)
      · have hR0 : R = none := by rw [← HR.out, if_pos (.inr (by rw [← HBL.out]; omega))]
        subst hR0
        go_wp2_with fail
        obtain ⟨y0, y1⟩ := ret2 (A := ⟨#[]⟩) (B := ⟨#[]⟩) gr
        have hbe := below_sets2 (below_trans' hbW hbW.size hB9) (show w.heap.size ≤ w.heap.size + 1 by omega) (.string ⟨#[]⟩) (.string ⟨#[]⟩)
        generalize ((wc.setCell ⟨w.heap.size + 1, 0, none⟩ (.string ⟨#[]⟩)).setCell ⟨w.heap.size + 1, 1, none⟩ (.string ⟨#[]⟩)) = W3 at y0 y1 hbe ⊢
        exact bodyPost_ret (v := .tuple #[.agg #[.string ⟨#[]⟩, .string ⟨#[]⟩], .bool false]) (by simp [results, Tryz.results57, go_sem, y0, y1]) rfl ⟨rfl, hbe⟩
      · have hR0 : some (signT s (decT n1), decT d1) = R := by rw [← HR.out, if_neg (by rw [← HBL.out, ← HAL.out]; omega)]
        have HR0 := Lib.hid hR0
        have hA3 : 1 + A.size ≤ maxLen := by unfold maxLen; omega
        clear HR hR0
        cases s with
        | false =>
          go_wp2_with fail
          obtain ⟨y0, y1⟩ := ret2 (A := A) (B := B) gr
          have hbe := below_sets2 (below_trans' hbW hbW.size hB9) (show w.heap.size ≤ w.heap.size + 1 by omega) (.string A) (.string B)
          generalize ((wc.setCell ⟨w.heap.size + 1, 0, none⟩ (.string A)).setCell ⟨w.heap.size + 1, 1, none⟩ (.string B)) = W3 at y0 y1 hbe ⊢
          exact bodyPost_ret (v := .tuple #[.agg #[.string A, .string B], .bool true]) (by simp [results, Tryz.results57, go_sem, y0, y1]) rfl ⟨by rw [← HR0.out, ← HA.out, ← HB.out]; rfl, hbe⟩
        | true =>
          go_wp2_with fail
          have gr2 : (wc.setCell ⟨g, 0, none⟩ (.string ((⟨#[45]⟩ : ByteArray) ++ A))).heap[w.heap.size + 1]? = some (.cells #[.string ⟨#[]⟩, .string ⟨#[]⟩] 26 (0, 0)) := by rw [Below.heap_setCell wc ⟨g, 0, none⟩ _ (w.heap.size + 1) (by show w.heap.size + 1 ≠ g; omega)]; exact gr
          have hB10 := hB9.setCell (p := ⟨g, 0, none⟩) hgW (.string ((⟨#[45]⟩ : ByteArray) ++ A))
          obtain ⟨y0, y1⟩ := ret2 (A := ((⟨#[45]⟩ : ByteArray) ++ A)) (B := B) gr2
          have hbe := below_sets2 (below_trans' hbW hbW.size hB10) (show w.heap.size ≤ w.heap.size + 1 by omega) (.string ((⟨#[45]⟩ : ByteArray) ++ A)) (.string B)
          generalize (((wc.setCell ⟨g, 0, none⟩ (.string ((⟨#[45]⟩ : ByteArray) ++ A))).setCell ⟨w.heap.size + 1, 0, none⟩ (.string ((⟨#[45]⟩ : ByteArray) ++ A))).setCell ⟨w.heap.size + 1, 1, none⟩ (.string B)) = W3 at y0 y1 hbe ⊢
          exact bodyPost_ret (v := .tuple #[.agg #[.string ((⟨#[45]⟩ : ByteArray) ++ A), .string B], .bool true]) (by simp [results, Tryz.results57, go_sem, y0, y1]) rfl ⟨by rw [← HR0.out, ← HA.out, ← HB.out, minus_app]; rfl, hbe⟩

theorem rd_RS {N D : List UInt8} {x : Rat} (h : rdR (N, D) = some x) : RS KD x := by
  obtain ⟨⟨h1, h2⟩, -⟩ := rdR_some.1 h
  have h4 : ∀ n : Nat, n < 10 ^ (8 * 50) → Sm KD n := fun n h => by
    unfold Sm
    rw [KD_eq]
    exact Nat.lt_of_lt_of_le h (pow10_le 50)
  have e : (400 : Nat) = 8 * 50 := rfl
  rw [e] at h1 h2
  exact ⟨h4 _ h1, h4 _ h2⟩

set_option maxRecDepth 100000 in
set_option maxHeartbeats 4000000 in
theorem of22 (num den : Int) (w : World) (h1 : -9223372036854775808 ≤ num) (h2 : num ≤ 9223372036854775807) (h3 : -9223372036854775808 ≤ den) (h4 : den ≤ 9223372036854775807) :
    Calls Tryz.prog 31 #[.int .i64 num, .int .i64 den] w fun e w' => e = .returned (txV (ofT num den)) ∧ Below w.heap.size w w' := by
  obtain ⟨R, hR⟩ : ∃ R, ofT num den = R := ⟨_, rfl⟩
  rw [hR]
  have HR := Lib.hid hR
  clear hR
  have g0 := heap_alloc_new w (.cells #[.string ⟨#[]⟩, .string ⟨#[]⟩] 26)
  have hbW : Below w.heap.size w (w.alloc (.cells #[.string ⟨#[]⟩, .string ⟨#[]⟩] 26)) := (Below.refl _ _).alloc (Nat.le_refl _) _
  by_cases hd : den = 0
  · subst hd
    have hR0 : R = none := by rw [← HR.out]; rfl
    subst hR0
    go_enter Tryz.func31, Tryz.ntmps31
    go_wp2_with fail
    exact bodyPost_ret (v := .tuple #[.agg #[.string ⟨#[]⟩, .string ⟨#[]⟩], .bool false]) (by simp [results, Tryz.results31, go_sem]) rfl ⟨rfl, hbW⟩
  · have hR0 : wrR (ratP (decide (num < 0) != decide (den < 0)) num.natAbs den.natAbs) = R := by rw [← HR.out]; unfold ofT; rw [if_neg hd]
    have HR0 := Lib.hid hR0
    have hdn : den.natAbs ≠ 0 := by omega
    have hsz : RS 70 (ratP (decide (num < 0) != decide (den < 0)) num.natAbs den.natAbs) := by
      have sm : ∀ x : Int, -9223372036854775808 ≤ x → x ≤ 9223372036854775807 → Sm 70 x.natAbs := fun x a b => by
        unfold Sm
        exact Nat.lt_of_le_of_lt (show x.natAbs ≤ 9223372036854775808 by omega) (by decide)
      exact RS.bd (bd_ratP hdn) (sm _ h1 h2) (sm _ h3 h4)
    have hdI : (den == 0) = false := by rw [beq_eq_false_iff_ne]; exact hd
    obtain ⟨x, hx⟩ : ∃ x, ratP (decide (num < 0) != decide (den < 0)) num.natAbs den.natAbs = x := ⟨_, rfl⟩
    rw [hx] at hsz HR0
    have HX := Lib.hid hx
    clear hR0 hx
    go_enter Tryz.func31, Tryz.ntmps31
    go_wp2_with fail
    generalize w.alloc (.cells #[.string ⟨#[]⟩, .string ⟨#[]⟩] 26) = W at *
    have hWs : w.heap.size < W.heap.size := lt_of_blk g0
    refine (make69 num den W h1 h2 h3 h4 hd).mono ?_
    rintro e w1 ⟨f, rfl, hf, hb1⟩
    rw [HX.out] at hf
    go_wp2_with fail
    refine (write72 70 _ x w1 (by decide) (by decide) hsz hf).mono ?_
    rintro e w3 ⟨rfl, hb3⟩
    rw [HR0.out]
    have hB3 := below_trans' hb1 hb1.size hb3
    have g3 := blk_below hB3 g0
    have k3 := cells2 g3
    have f3 := free_of_block g3
    clear hb1 hb3 hf
    obtain ⟨A, B, ok, hAB, -⟩ : ∃ A B ok, txV R = .tuple #[.agg #[.string A, .string B], .bool ok] ∧ True := by
      cases R with
      | none => exact ⟨_, _, _, rfl, trivial⟩
      | some r => exact ⟨_, _, _, rfl, trivial⟩
    rw [hAB]
    go_wp2_with fail
    obtain ⟨y0, y1⟩ := ret2 (A := A) (B := B) g3
    have hbe := below_sets2 (below_trans' hbW hbW.size hB3) (Nat.le_refl _) (.string A) (.string B)
    generalize ((w3.setCell ⟨w.heap.size, 0, none⟩ (.string A)).setCell ⟨w.heap.size, 1, none⟩ (.string B)) = W3 at y0 y1 hbe ⊢
    exact bodyPost_ret (v := .tuple #[.agg #[.string A, .string B], .bool ok]) (by simp [results, Tryz.results31, go_sem, y0, y1]) rfl ⟨by rw [hAB], hbe⟩

theorem FrR.but {w w' : World} {f : Value} {x : Rat} {G : Nat} {cs : Array Value} {t : TypeId} (h : FrR w f x) (hg : w.heap[G]? = some (.cells cs t (0, 0))) (hn : ∀ (k z : Nat), cs[k]? ≠ some (u32V z)) (hs : w.heap.size ≤ w'.heap.size)
    (hk : ∀ k, k < w.heap.size → k ≠ G → w'.heap[k]? = w.heap[k]?) : FrR w' f x := by
  obtain ⟨vn, vd, hf, h1, h2⟩ := h
  exact ⟨vn, vd, hf, h1.but hg hn hs hk, h2.but hg hn hs hk⟩
/-- Both answers of a reader. -/
def BothR (t1 t2 : Txt) (w : World) (e : Ending) (w' : World) : Prop := ∃ b1 A1 n1 c1 A2 n2 c2 b2 A3 n3 c3 A4 n4 c4, e = .returned (.tuple #[.agg #[.bool b1, .slice A1 n1 c1, .slice A2 n2 c2], .agg #[.bool b2, .slice A3 n3 c3, .slice A4 n4 c4], .bool ((rdR t1).isSome && (rdR t2).isSome)]) ∧
  (∀ x, rdR t1 = some x → FrR w' (.agg #[.bool b1, .slice A1 n1 c1, .slice A2 n2 c2]) x) ∧ (∀ x, rdR t2 = some x → FrR w' (.agg #[.bool b2, .slice A3 n3 c3, .slice A4 n4 c4]) x) ∧ Below w.heap.size w w'
theorem blk4 (w : World) (a b c d : Array Value) (t u s r : TypeId) : Below w.heap.size w ((((w.alloc (.cells a t)).alloc (.cells b u)).alloc (.cells c s)).alloc (.cells d r)) ∧ ((((w.alloc (.cells a t)).alloc (.cells b u)).alloc (.cells c s)).alloc (.cells d r)).heap[w.heap.size]? = some (.cells a t (0, 0)) ∧
    ((((w.alloc (.cells a t)).alloc (.cells b u)).alloc (.cells c s)).alloc (.cells d r)).heap[w.heap.size + 1]? = some (.cells b u (0, 0)) ∧ ((((w.alloc (.cells a t)).alloc (.cells b u)).alloc (.cells c s)).alloc (.cells d r)).heap[w.heap.size + 1 + 1]? = some (.cells c s (0, 0)) ∧
    ((((w.alloc (.cells a t)).alloc (.cells b u)).alloc (.cells c s)).alloc (.cells d r)).heap[w.heap.size + 1 + 1 + 1]? = some (.cells d r (0, 0)) := by
  obtain ⟨h, g0, g1, g2⟩ := allocs3 w a b c t u s
  refine ⟨h.alloc h.size _, ?_, ?_, ?_, ?_⟩
  · rw [Below.heap_alloc _ _ _ (lt_of_blk g0)]; exact g0
  · rw [Below.heap_alloc _ _ _ (lt_of_blk g1)]; exact g1
  · rw [Below.heap_alloc _ _ _ (lt_of_blk g2)]; exact g2
  · have h := heap_alloc_new (((w.alloc (.cells a t)).alloc (.cells b u)).alloc (.cells c s)) (.cells d r)
    rwa [show (((w.alloc (.cells a t)).alloc (.cells b u)).alloc (.cells c s)).heap.size = w.heap.size + 1 + 1 + 1 by simp] at h

set_option maxRecDepth 100000 in
set_option maxHeartbeats 4000000 in
theorem both75 (N1 D1 N2 D2 : ByteArray) (w : World) (hN1 : N1.size ≤ maxLen) (hD1 : D1.size ≤ maxLen) (hN2 : N2.size ≤ maxLen) (hD2 : D2.size ≤ maxLen) :
    Calls Tryz.prog 73 #[.agg #[.string N1, .string D1], .agg #[.string N2, .string D2]] w (BothR (N1.data.toList, D1.data.toList) (N2.data.toList, D2.data.toList) w) := by
  obtain ⟨hbW, g0, g1, g2, g3⟩ := blk4 w #[.string N1, .string D1] #[.string N2, .string D2] #[.bool false, .slice none 0 0, .slice none 0 0] #[.bool false, .slice none 0 0, .slice none 0 0] 26 26 57 57
  have k0 := cells2 g0
  go_enter Tryz.func73, Tryz.ntmps73
  go_wp2_with fail
  generalize (((w.alloc (.cells #[.string N1, .string D1] 26)).alloc (.cells #[.string N2, .string D2] 26)).alloc (.cells #[.bool false, .slice none 0 0, .slice none 0 0] 57)).alloc (.cells #[.bool false, .slice none 0 0, .slice none 0 0] 57) = W at *
  have hW3 : w.heap.size + 1 + 1 + 1 < W.heap.size := lt_of_blk g3
  refine (read66 N1 D1 W hN1 hD1).mono ?_
  rintro e w1 ⟨b1, A1, n1, c1, A2, n2, c2, rfl, hx1, hb1⟩
  obtain ⟨o1, ho1⟩ : ∃ o, (rdR (N1.data.toList, D1.data.toList)).isSome = o := ⟨_, rfl⟩
  rw [ho1]
  have HO1 := Lib.hid ho1
  have hba : Below w1.heap.size w1 (w1.alloc (.cells #[.bool b1, .slice A1 n1 c1, .slice A2 n2 c2] 57)) := (Below.refl _ _).alloc (Nat.le_refl _) _
  have h5 := heap_alloc_new w1 (.cells #[.bool b1, .slice A1 n1 c1, .slice A2 n2 c2] 57)
  have hB1 := below_trans' hb1 hb1.size hba
  have k1 := cells2 (blk_below hB1 g1)
  have HX1 := Lib.hid hx1
  clear k0 ho1 hx1
  go_wp2_with fail
  refine (read66 N2 D2 _ hN2 hD2).mono ?_
  rintro e w2 ⟨b2, A3, n3, c3, A4, n4, c4, rfl, hx2, hb2⟩
  obtain ⟨o2, ho2⟩ : ∃ o, (rdR (N2.data.toList, D2.data.toList)).isSome = o := ⟨_, rfl⟩
  rw [ho2]
  have HO2 := Lib.hid ho2
  have h5' := blk_below hb2 h5
  have hba2 : Below w2.heap.size w2 (w2.alloc (.cells #[.bool b2, .slice A3 n3 c3, .slice A4 n4 c4] 57)) := (Below.refl _ _).alloc (Nat.le_refl _) _
  have h6 := heap_alloc_new w2 (.cells #[.bool b2, .slice A3 n3 c3, .slice A4 n4 c4] 57)
  have h5'' := blk_below hba2 h5'
  have hB2 := below_trans' (below_trans' hB1 hB1.size hb2) (below_trans' hB1 hB1.size hb2).size hba2
  have HX2 := Lib.hid hx2
  have hlt1 := hb1.size
  have hlt2 : w1.heap.size < w2.heap.size := lt_of_blk h5'
  have hbd1 : Below w1.heap.size w1 w2 := below_trans' hba hba.size hb2
  have hx1' : ∀ x, rdR (N1.data.toList, D1.data.toList) = some x → FrR (w2.alloc (.cells #[.bool b2, .slice A3 n3 c3, .slice A4 n4 c4] 57)) (.agg #[.bool b1, .slice A1 n1 c1, .slice A2 n2 c2]) x := fun x hx => ((HX1.out x hx).below hbd1).below hba2
  have hx2' : ∀ x, rdR (N2.data.toList, D2.data.toList) = some x → FrR (w2.alloc (.cells #[.bool b2, .slice A3 n3 c3, .slice A4 n4 c4] 57)) (.agg #[.bool b2, .slice A3 n3 c3, .slice A4 n4 c4]) x := fun x hx => (HX2.out x hx).below hba2
  have HX1' := Lib.hid hx1'
  have HX2' := Lib.hid hx2'
  have k5 := cells3 h5''
  have k6 := cells3 h6
  have G2 := blk_below hB2 g2
  have G3 := blk_below hB2 g3
  have z2 := cells3 G2
  have z3 := cells3 G3
  have y2 := free_of_block G2
  have y3 := free_of_block G3
  clear k1 ho2 hx2 hx1' hx2' HX1 HX2
  go_upto_region 3 with fail
  generalize w2.alloc (.cells #[.bool b2, .slice A3 n3 c3, .slice A4 n4 c4] 57) = w8 at *
  obtain ⟨t0, t1, t2⟩ := sets3 G2 (.bool b1) (.slice A1 n1 c1) (.slice A2 n2 c2)
  have g3n := (t1 (w.heap.size + 1 + 1 + 1) (by omega)).trans G3
  obtain ⟨r0, r1, r2⟩ := sets3 g3n (.bool b2) (.slice A3 n3 c3) (.slice A4 n4 c4)
  have t0' := (r1 (w.heap.size + 1 + 1) (by omega)).trans t0
  have hbe := below_set3 (z := w.heap.size + 1 + 1 + 1) (below_set3 (z := w.heap.size + 1 + 1) (below_trans' hbW hbW.size hB2) (by omega) (.bool b1) (.slice A1 n1 c1) (.slice A2 n2 c2)) (by omega) (.bool b2) (.slice A3 n3 c3) (.slice A4 n4 c4)
  have e1 : ∀ x, rdR (N1.data.toList, D1.data.toList) = some x → FrR _ (.agg #[.bool b1, .slice A1 n1 c1, .slice A2 n2 c2]) x := fun x hx => ((HX1'.out x hx).but G2 no_dig3 (Nat.le_of_eq t2.symm) (fun k _ hk => t1 k hk)).but g3n no_dig3 (Nat.le_of_eq r2.symm) (fun k _ hk => r1 k hk)
  have e2 : ∀ x, rdR (N2.data.toList, D2.data.toList) = some x → FrR _ (.agg #[.bool b2, .slice A3 n3 c3, .slice A4 n4 c4]) x := fun x hx => ((HX2'.out x hx).but G2 no_dig3 (Nat.le_of_eq t2.symm) (fun k _ hk => t1 k hk)).but g3n no_dig3 (Nat.le_of_eq r2.symm) (fun k _ hk => r1 k hk)
  obtain ⟨w9, hw9⟩ : ∃ w9 : World, ((((((w8.setCell ⟨w.heap.size + 1 + 1, 0, none⟩ (.bool b1)).setCell ⟨w.heap.size + 1 + 1, 1, none⟩ (.slice A1 n1 c1)).setCell ⟨w.heap.size + 1 + 1, 2, none⟩ (.slice A2 n2 c2)).setCell ⟨w.heap.size + 1 + 1 + 1, 0, none⟩ (.bool b2)).setCell ⟨w.heap.size + 1 + 1 + 1, 1, none⟩ (.slice A3 n3 c3)).setCell ⟨w.heap.size + 1 + 1 + 1, 2, none⟩ (.slice A4 n4 c4)) = w9 := ⟨_, rfl⟩
  rw [hw9] at e1 e2 hbe r0 t0'
  have HW9 := Lib.hid hw9
  have hbd : Below w9.heap.size w9 w9.drew := (Below.refl _ _).drew
  have E1 := Lib.hid (fun x hx => (e1 x hx).below hbd)
  have E2 := Lib.hid (fun x hx => (e2 x hx).below hbd)
  have hbe' := Below.drew hbe
  have hu := cells3 (blk_below hbd t0')
  have hv := cells3 (blk_below hbd r0)
  have HU := Lib.hid hu
  have HV := Lib.hid hv
  clear t0 t1 t2 g3n r0 r1 r2 t0' e1 e2 HX1' HX2' hu hv hbe hw9
  have ne1 : ¬ w1.heap.size = w.heap.size + 1 + 1 := by omega
  have ne2 : ¬ w1.heap.size = w.heap.size + 1 + 1 + 1 := by omega
  have ne3 : ¬ w2.heap.size = w.heap.size + 1 + 1 := by omega
  have ne4 : ¬ w2.heap.size = w.heap.size + 1 + 1 + 1 := by omega
  have ne5 : ¬ w.heap.size + 1 + 1 + 1 = w.heap.size + 1 + 1 := by omega
  cases o1 with
  | false =>
    go_region
    rw [HW9.out]
    obtain ⟨u0, u1, u2⟩ := HU.out
    obtain ⟨v0, v1, v2⟩ := HV.out
    go_wp2_with fail
    exact bodyPost_ret (v := .tuple #[.agg #[.bool b1, .slice A1 n1 c1, .slice A2 n2 c2], .agg #[.bool b2, .slice A3 n3 c3, .slice A4 n4 c4], .bool false]) (by simp [results, Tryz.results73, go_sem, u0, u1, u2, v0, v1, v2]) rfl ⟨_, _, _, _, _, _, _, _, _, _, _, _, _, _, by rw [HO1.out, HO2.out]; rfl, E1.out, E2.out, hbe'⟩
  | true =>
    go_region
    rw [HW9.out]
    obtain ⟨u0, u1, u2⟩ := HU.out
    obtain ⟨v0, v1, v2⟩ := HV.out
    go_wp2_with fail
    exact bodyPost_ret (v := .tuple #[.agg #[.bool b1, .slice A1 n1 c1, .slice A2 n2 c2], .agg #[.bool b2, .slice A3 n3 c3, .slice A4 n4 c4], .bool o2]) (by simp [results, Tryz.results73, go_sem, u0, u1, u2, v0, v1, v2]) rfl ⟨_, _, _, _, _, _, _, _, _, _, _, _, _, _, by rw [HO1.out, HO2.out]; rfl, E1.out, E2.out, hbe'⟩

theorem two_pow_mul (k : Nat) : 2 ^ k * 2 ^ k = 2 ^ (k + k) := (Nat.pow_add 2 k k).symm
theorem RS.of_le {k m : Nat} {x : Rat} (h : bdR (2 ^ k) (2 ^ k) x) (hm : k < m) : RS m x :=
  ⟨Nat.lt_of_le_of_lt h.num (Nat.pow_lt_pow_right (by omega) hm), Nat.lt_of_le_of_lt h.den (Nat.pow_lt_pow_right (by omega) hm)⟩
theorem RS.add {k : Nat} {x y : Rat} (h : RS k x) (g : RS k y) : RS (k + k + 2) (x + y) := by
  refine RS.of_le (k := k + k + 1) ((h.to.add g.to).mono ?_ ?_) (by omega)
  · rw [two_pow_mul, Nat.pow_succ]; omega
  · rw [two_pow_mul]; exact Nat.pow_le_pow_right (by omega) (by omega)
theorem RS.sub {k : Nat} {x y : Rat} (h : RS k x) (g : RS k y) : RS (k + k + 2) (x - y) := by rw [Rat.sub_eq_add_neg]; exact h.add g.neg
theorem RS.mul {k : Nat} {x y : Rat} (h : RS k x) (g : RS k y) : RS (k + k + 2) (x * y) := by
  refine RS.of_le (k := k + k) ((h.to.mul g.to).mono ?_ ?_) (by omega)
  · rw [two_pow_mul]; exact Nat.le_refl _
  · rw [two_pow_mul]; exact Nat.le_refl _
theorem RS.div {k : Nat} {x y : Rat} (h : RS k x) (g : RS k y) (hy : y ≠ 0) : RS (k + k + 2) (x / y) := by
  refine RS.of_le (k := k + k) ((h.to.div g.to hy).mono ?_ ?_) (by omega)
  · rw [two_pow_mul]; exact Nat.le_refl _
  · rw [two_pow_mul]; exact Nat.le_refl _
theorem op2_none {F : Rat → Rat → Option Rat} {a b : Txt} (h : ((rdR a).isSome && (rdR b).isSome) = false) : op2 F a b = none := by
  unfold op2
  cases e1 : rdR a with
  | none => rfl
  | some x => cases e2 : rdR b with
    | none => rfl
    | some y => rw [e1, e2] at h; cases h
theorem op2_some {F : Rat → Rat → Option Rat} {a b : Txt} {x y : Rat} (hx : rdR a = some x) (hy : rdR b = some y) : op2 F a b = (F x y).bind wrR := by
  unfold op2; rw [hx, hy]
theorem both_some {a b : Txt} (h : ((rdR a).isSome && (rdR b).isSome) = true) : ∃ x y, rdR a = some x ∧ rdR b = some y := by
  cases e1 : rdR a with
  | none => rw [e1] at h; cases h
  | some x => cases e2 : rdR b with
    | none => rw [e1, e2] at h; cases h
    | some y => exact ⟨x, y, rfl, rfl⟩

set_option maxRecDepth 100000 in
set_option maxHeartbeats 4000000 in
theorem add28 (N1 D1 N2 D2 : ByteArray) (w : World) (hN1 : N1.size ≤ maxLen) (hD1 : D1.size ≤ maxLen) (hN2 : N2.size ≤ maxLen) (hD2 : D2.size ≤ maxLen) :
    Calls Tryz.prog 36 #[.agg #[.string N1, .string D1], .agg #[.string N2, .string D2]] w fun e w' => e = .returned (txV (addT (N1.data.toList, D1.data.toList) (N2.data.toList, D2.data.toList))) ∧ Below w.heap.size w w' := by
  obtain ⟨R, hR⟩ : ∃ R, addT (N1.data.toList, D1.data.toList) (N2.data.toList, D2.data.toList) = R := ⟨_, rfl⟩
  rw [hR]
  have HR := Lib.hid hR
  obtain ⟨hbW, g0, g1, g2⟩ := allocs3 w #[.string N1, .string D1] #[.string N2, .string D2] #[.string ⟨#[]⟩, .string ⟨#[]⟩] 26 26 26
  have k0 := cells2 g0
  have k1 := cells2 g1
  clear hR
  go_enter Tryz.func36, Tryz.ntmps36
  go_wp2_with fail
  generalize ((w.alloc (.cells #[.string N1, .string D1] 26)).alloc (.cells #[.string N2, .string D2] 26)).alloc (.cells #[.string ⟨#[]⟩, .string ⟨#[]⟩] 26) = W at *
  have hW2 : w.heap.size + 1 + 1 < W.heap.size := lt_of_blk g2
  refine (both75 N1 D1 N2 D2 W hN1 hD1 hN2 hD2).mono ?_
  rintro e w1 ⟨b1, A1, n1, c1, A2, n2, c2, b2, A3, n3, c3, A4, n4, c4, rfl, hx1, hx2, hb1⟩
  obtain ⟨o, ho⟩ : ∃ o, ((rdR (N1.data.toList, D1.data.toList)).isSome && (rdR (N2.data.toList, D2.data.toList)).isSome) = o := ⟨_, rfl⟩
  rw [ho]
  have HO := Lib.hid ho
  obtain ⟨hba, q0, q1⟩ := allocs2' w1 #[.bool b1, .slice A1 n1 c1, .slice A2 n2 c2] #[.bool b2, .slice A3 n3 c3, .slice A4 n4 c4] 57 57
  have hB1 := below_trans' hb1 hb1.size hba
  have HX1 := Lib.hid hx1
  have HX2 := Lib.hid hx2
  have G2 := blk_below hB1 g2
  have z2 := cells2 G2
  have y2 := free_of_block G2
  have v0 := cells3 q0
  have v1 := cells3 q1
  clear k0 k1 ho hx1 hx2
  cases o with
  | false =>
    have hR0 : R = none := by rw [← HR.out]; exact op2_none HO.out
    subst hR0
    obtain ⟨y0, y1⟩ := ret2 (A := ⟨#[]⟩) (B := ⟨#[]⟩) G2
    have hbe := below_sets2 (below_trans' hbW hbW.size hB1) (show w.heap.size ≤ w.heap.size + 1 + 1 by omega) (.string ⟨#[]⟩) (.string ⟨#[]⟩)
    go_wp2_with fail
    generalize (((w1.alloc (.cells #[.bool b1, .slice A1 n1 c1, .slice A2 n2 c2] 57)).alloc (.cells #[.bool b2, .slice A3 n3 c3, .slice A4 n4 c4] 57)).setCell ⟨w.heap.size + 1 + 1, 0, none⟩ (.string ⟨#[]⟩)).setCell ⟨w.heap.size + 1 + 1, 1, none⟩ (.string ⟨#[]⟩) = W3 at y0 y1 hbe ⊢
    exact bodyPost_ret (v := .tuple #[.agg #[.string ⟨#[]⟩, .string ⟨#[]⟩], .bool false]) (by simp [results, Tryz.results36, go_sem, y0, y1]) rfl ⟨rfl, hbe⟩
  | true =>
    obtain ⟨x, y, hx, hy⟩ := both_some HO.out
    have fx := (HX1.out x hx).below hba
    have fy := (HX2.out y hy).below hba
    have rx := rd_RS hx
    have ry := rd_RS hy
    have hop := op2_some (F := fun x y => some (x + y)) hx hy
    rw [Option.bind_some] at hop
    have hRv : wrR (x + y) = R := by rw [← HR.out]; unfold addT; rw [hop]
    clear hop
    have HRV := Lib.hid hRv
    clear hRv
    go_wp2_with fail
    refine (plus78 KD _ _ x y _ (by decide) rx ry fx fy).mono ?_
    rintro e w2 ⟨f, rfl, hf, hb2⟩
    go_wp2_with fail
    refine (write72 (KD + KD + 2) _ _ w2 (by decide) (by decide) (rx.add ry) hf).mono ?_
    rintro e w3 ⟨rfl, hb3⟩
    rw [HRV.out]
    have hB3 := below_trans' (below_trans' hB1 hB1.size hb2) (below_trans' hB1 hB1.size hb2).size hb3
    have g3 := blk_below hB3 g2
    have k3 := cells2 g3
    have f3 := free_of_block g3
    clear hb2 hb3 hf fx fy z2 y2 v0 v1
    obtain ⟨A, B, ok, hAB, -⟩ : ∃ A B ok, txV R = .tuple #[.agg #[.string A, .string B], .bool ok] ∧ True := by
      cases R with
      | none => exact ⟨_, _, _, rfl, trivial⟩
      | some r => exact ⟨_, _, _, rfl, trivial⟩
    rw [hAB]
    go_wp2_with fail
    obtain ⟨y0, y1⟩ := ret2 (A := A) (B := B) g3
    have hbe := below_sets2 (below_trans' hbW hbW.size hB3) (show w.heap.size ≤ w.heap.size + 1 + 1 by omega) (.string A) (.string B)
    generalize ((w3.setCell ⟨w.heap.size + 1 + 1, 0, none⟩ (.string A)).setCell ⟨w.heap.size + 1 + 1, 1, none⟩ (.string B)) = W3 at y0 y1 hbe ⊢
    exact bodyPost_ret (v := .tuple #[.agg #[.string A, .string B], .bool ok]) (by simp [results, Tryz.results36, go_sem, y0, y1]) rfl ⟨by rw [hAB], hbe⟩

set_option maxRecDepth 100000 in
set_option maxHeartbeats 4000000 in
theorem sub32 (N1 D1 N2 D2 : ByteArray) (w : World) (hN1 : N1.size ≤ maxLen) (hD1 : D1.size ≤ maxLen) (hN2 : N2.size ≤ maxLen) (hD2 : D2.size ≤ maxLen) :
    Calls Tryz.prog 35 #[.agg #[.string N1, .string D1], .agg #[.string N2, .string D2]] w fun e w' => e = .returned (txV (subT (N1.data.toList, D1.data.toList) (N2.data.toList, D2.data.toList))) ∧ Below w.heap.size w w' := by
  obtain ⟨R, hR⟩ : ∃ R, subT (N1.data.toList, D1.data.toList) (N2.data.toList, D2.data.toList) = R := ⟨_, rfl⟩
  rw [hR]
  have HR := Lib.hid hR
  obtain ⟨hbW, g0, g1, g2⟩ := allocs3 w #[.string N1, .string D1] #[.string N2, .string D2] #[.string ⟨#[]⟩, .string ⟨#[]⟩] 26 26 26
  have k0 := cells2 g0
  have k1 := cells2 g1
  clear hR
  go_enter Tryz.func35, Tryz.ntmps35
  go_wp2_with fail
  generalize ((w.alloc (.cells #[.string N1, .string D1] 26)).alloc (.cells #[.string N2, .string D2] 26)).alloc (.cells #[.string ⟨#[]⟩, .string ⟨#[]⟩] 26) = W at *
  have hW2 : w.heap.size + 1 + 1 < W.heap.size := lt_of_blk g2
  refine (both75 N1 D1 N2 D2 W hN1 hD1 hN2 hD2).mono ?_
  rintro e w1 ⟨b1, A1, n1, c1, A2, n2, c2, b2, A3, n3, c3, A4, n4, c4, rfl, hx1, hx2, hb1⟩
  obtain ⟨o, ho⟩ : ∃ o, ((rdR (N1.data.toList, D1.data.toList)).isSome && (rdR (N2.data.toList, D2.data.toList)).isSome) = o := ⟨_, rfl⟩
  rw [ho]
  have HO := Lib.hid ho
  obtain ⟨hba, q0, q1⟩ := allocs2' w1 #[.bool b1, .slice A1 n1 c1, .slice A2 n2 c2] #[.bool b2, .slice A3 n3 c3, .slice A4 n4 c4] 57 57
  have hB1 := below_trans' hb1 hb1.size hba
  have HX1 := Lib.hid hx1
  have HX2 := Lib.hid hx2
  have G2 := blk_below hB1 g2
  have z2 := cells2 G2
  have y2 := free_of_block G2
  have v0 := cells3 q0
  have v1 := cells3 q1
  clear k0 k1 ho hx1 hx2
  cases o with
  | false =>
    have hR0 : R = none := by rw [← HR.out]; exact op2_none HO.out
    subst hR0
    obtain ⟨y0, y1⟩ := ret2 (A := ⟨#[]⟩) (B := ⟨#[]⟩) G2
    have hbe := below_sets2 (below_trans' hbW hbW.size hB1) (show w.heap.size ≤ w.heap.size + 1 + 1 by omega) (.string ⟨#[]⟩) (.string ⟨#[]⟩)
    go_wp2_with fail
    generalize (((w1.alloc (.cells #[.bool b1, .slice A1 n1 c1, .slice A2 n2 c2] 57)).alloc (.cells #[.bool b2, .slice A3 n3 c3, .slice A4 n4 c4] 57)).setCell ⟨w.heap.size + 1 + 1, 0, none⟩ (.string ⟨#[]⟩)).setCell ⟨w.heap.size + 1 + 1, 1, none⟩ (.string ⟨#[]⟩) = W3 at y0 y1 hbe ⊢
    exact bodyPost_ret (v := .tuple #[.agg #[.string ⟨#[]⟩, .string ⟨#[]⟩], .bool false]) (by simp [results, Tryz.results35, go_sem, y0, y1]) rfl ⟨rfl, hbe⟩
  | true =>
    obtain ⟨x, y, hx, hy⟩ := both_some HO.out
    have fx := (HX1.out x hx).below hba
    have fy := (HX2.out y hy).below hba
    have rx := rd_RS hx
    have ry := rd_RS hy
    have hop := op2_some (F := fun x y => some (x - y)) hx hy
    rw [Option.bind_some] at hop
    have hRv : wrR (x - y) = R := by rw [← HR.out]; unfold subT; rw [hop]
    clear hop
    have HRV := Lib.hid hRv
    clear hRv
    go_wp2_with fail
    refine (minus81 KD _ _ x y _ (by decide) rx ry fx fy).mono ?_
    rintro e w2 ⟨f, rfl, hf, hb2⟩
    go_wp2_with fail
    refine (write72 (KD + KD + 2) _ _ w2 (by decide) (by decide) (rx.sub ry) hf).mono ?_
    rintro e w3 ⟨rfl, hb3⟩
    rw [HRV.out]
    have hB3 := below_trans' (below_trans' hB1 hB1.size hb2) (below_trans' hB1 hB1.size hb2).size hb3
    have g3 := blk_below hB3 g2
    have k3 := cells2 g3
    have f3 := free_of_block g3
    clear hb2 hb3 hf fx fy z2 y2 v0 v1
    obtain ⟨A, B, ok, hAB, -⟩ : ∃ A B ok, txV R = .tuple #[.agg #[.string A, .string B], .bool ok] ∧ True := by
      cases R with
      | none => exact ⟨_, _, _, rfl, trivial⟩
      | some r => exact ⟨_, _, _, rfl, trivial⟩
    rw [hAB]
    go_wp2_with fail
    obtain ⟨y0, y1⟩ := ret2 (A := A) (B := B) g3
    have hbe := below_sets2 (below_trans' hbW hbW.size hB3) (show w.heap.size ≤ w.heap.size + 1 + 1 by omega) (.string A) (.string B)
    generalize ((w3.setCell ⟨w.heap.size + 1 + 1, 0, none⟩ (.string A)).setCell ⟨w.heap.size + 1 + 1, 1, none⟩ (.string B)) = W3 at y0 y1 hbe ⊢
    exact bodyPost_ret (v := .tuple #[.agg #[.string A, .string B], .bool ok]) (by simp [results, Tryz.results35, go_sem, y0, y1]) rfl ⟨by rw [hAB], hbe⟩

theorem cmp_none {a b : Txt} (h : ((rdR a).isSome && (rdR b).isSome) = false) : cmpT a b = 0 := by
  unfold cmpT
  cases e1 : rdR a with
  | none => rfl
  | some x => cases e2 : rdR b with
    | none => rfl
    | some y => rw [e1, e2] at h; cases h
end Go.Proofs.YtpligjkbnlfhgaaGreatDoor
