/- The walk of flagstonelaw39.ScoreSums. -/
import Derived.Test.YtgonighpjpfmnaaOfBoth
import Derived.Test.YtgonighpjpfmnaaScorePredicts
namespace Go.Proofs.Ytgonighpjpfmnaa
open Go.RowKit

theorem Wt.len (x : Wt) : x.cells.length = 3 := rfl
theorem BytesAt.more' {w : World} {B B' : Nat} {A : Option Addr} {n : Nat} (h : BytesAt w B A n) (hB : B ≤ B') : BytesAt w B' A n := by
  obtain ⟨z, hz, hR⟩ := h
  exact ⟨z, hz, hR.more hB⟩

theorem allR_map {f : Nat → Smp} {n : Nat} {g : Nat → Wt} {m : Nat} {cap : Int} {adj : Bool} {sc : Nat → Scr} (h : ∀ k, k < n → scoreAt f n g m cap adj k = [sc k]) : ∀ k, k ≤ n → allR f n g m cap adj k = (List.range k).map sc
  | 0, _ => rfl
  | k + 1, hk => by rw [allR, allR_map h k (by omega), h k (by omega), List.range_succ, List.map_append]; rfl

theorem made_okV {l : List Smp} {cap : Int} (h : ∀ s ∈ l, Smp.made cap s) : ∀ k, k ≤ l.length → okV (fun i => l.getD i default) cap k = true
  | 0, _ => rfl
  | k + 1, hk => by
    have hm := h (l.getD k default) (by rw [List.getD_eq_getElem?_getD, List.getElem?_eq_getElem (by omega)]; simp)
    obtain ⟨_, _, h1, h2, _, _⟩ := hm
    simp only [okV, made_okV h k (by omega), Bool.true_and, Bool.and_eq_true, decide_eq_true_eq]
    exact ⟨h1, h2⟩

/-- The score of a made sample without predictions. -/
def plainSc (c t cap : Int) (s : Smp) : Scr := ⟨if s.arm = 1 then -((c + t) * t * s.value) else (c + t) * c * s.value, c * t * cap, cap * (2 * (c * t) + (c + t) * max c t)⟩

theorem made_score {l : List Smp} {cap c t : Int} {g : Nat → Wt} {m : Nat} (h : ∀ s ∈ l, Smp.made cap s) (hc : 1 ≤ c ∧ c ≤ 10000) (ht : 1 ≤ t ∧ t ≤ 10000) (hcap : 1 ≤ cap ∧ cap ≤ 1048576)
    (hg : ∀ v : Int, v = 1 ∨ v = 2 → ∃ x, findW g v m = some x ∧ x.con = c ∧ x.tre = t) (k : Nat) (hk : k < l.length) :
    scoreAt (fun i => l.getD i default) l.length g m cap false k = [plainSc c t cap (l.getD k default)] := by
  have hm := h (l.getD k default) (by rw [List.getD_eq_getElem?_getD, List.getElem?_eq_getElem hk]; simp)
  obtain ⟨ha, hv, _, _, _, _⟩ := hm
  obtain ⟨x, hx, rfl, rfl⟩ := hg _ hv
  unfold scoreAt
  rw [hx]
  simp only [ofR]
  rw [if_pos ⟨by omega, by omega, by simp [vldWI]; omega, hcap.1, hcap.2, by simpa using made_okV h (k + 1) hk⟩]
  simp only [Int.toNat_natCast, Bool.false_eq_true, if_false, Int.sub_self, Int.mul_zero, Int.sub_zero, Int.zero_sub, Int.zero_add]
  rcases ha with ha | ha
  · rw [if_pos ha]; simp only [scrOf, plainSc]; rw [if_pos ha]
  · rw [if_neg (by rw [ha]; decide), if_pos ha]; simp only [scrOf, plainSc]; rw [if_neg (by rw [ha]; decide)]

theorem mul3_bd {a b c A B C : Int} (h1 : 0 ≤ a) (h2 : a ≤ A) (h3 : 0 ≤ b) (h4 : b ≤ B) (h5 : 0 ≤ c) (h6 : c ≤ C) : 0 ≤ a * b * c ∧ a * b * c ≤ A * B * C :=
  ⟨Int.mul_nonneg (Int.mul_nonneg h1 h3) h5, Int.mul_le_mul (Int.mul_le_mul h2 h4 h3 (by omega)) h6 h5 (Int.mul_nonneg (by omega) (by omega))⟩

set_option maxRecDepth 100000 in
set_option maxHeartbeats 2000000 in
theorem scoreSums10 (a0 : Option Addr) (len0 cap0 : Nat) (z0 : List Int) (a1 a2 : Int) (w : World) (w0 : IsRow .u8 w a0 len0 cap0 z0) (w1 : (Lit.int .u8 a1).wf = true) (w2 : (Lit.int .u8 a2).wf = true) :
    Calls Try.prog 10 #[.slice a0 len0 cap0, .int .u8 a1, .int .u8 a2] w fun e w' => e = .returned (.bool true) ∧ Below w.heap.size w w' := by
  have b1 := bounds_u8 w1
  have b2 := bounds_u8 w2
  have hB := w0.bytes
  clear w0 w1 w2
  by_cases hlen : 200 < len0
  · go_enter Try.func10, Try.ntmps10
    go_wp2_with (go_at_call 30; refine (awake30 _).mono ?_; rintro e w' ⟨rfl, hb⟩)
    go_ret
    exact ⟨rfl, hb⟩
  · go_enter Try.func10, Try.ntmps10
    go_wp2_with fail
    refine (awake30 _).mono ?_
    rintro e w1 ⟨rfl, hb1⟩
    go_wp2_with fail
    refine (samples31 a0 len0 cap0 100 w1 (by omega) (by omega) (by omega) ((hB.kept hb1 (Nat.le_refl _)).more' hb1.size)).mono ?_
    rintro e w2 ⟨v, l, rfl, hl, hgood, hown, hb2⟩
    obtain ⟨A, cp, rfl, hcp⟩ := Own.shape hown
    have hR := OwnSmp.rows hown
    have hin := Smp.made_in (by omega) hgood
    have hb := below_trans hb1 hb2
    clear hown hb1 hb2 hB
    obtain ⟨c, hc⟩ : ∃ c, c = 1 + a1 % 50 := ⟨_, rfl⟩
    obtain ⟨t, ht⟩ : ∃ t, t = 1 + a2 % 50 := ⟨_, rfl⟩
    have hcb : 1 ≤ c ∧ c ≤ 50 := by omega
    have htb : 1 ≤ t ∧ t ≤ 50 := by omega
    go_wp2_with fail
    rw [← hc, ← ht]
    clear hc ht
    change Calls _ _ _ (w2.alloc (.cells (([⟨1, c, t⟩, ⟨2, c, t⟩] : List Wt).flatMap Wt.cells).toArray 42)) _
    have hf : ∀ v : Int, v = 1 ∨ v = 2 → ∃ x, findW (fun i => ([⟨1, c, t⟩, ⟨2, c, t⟩] : List Wt).getD i default) v 2 = some x ∧ x.con = c ∧ x.tre = t := fun v hv => by
      rcases hv with rfl | rfl
      · exact ⟨⟨1, c, t⟩, by simp [findW], rfl, rfl⟩
      · exact ⟨⟨2, c, t⟩, by simp [findW], rfl, rfl⟩
    have gw := heap_alloc_new w2 (.cells (([⟨1, c, t⟩, ⟨2, c, t⟩] : List Wt).flatMap Wt.cells).toArray 42)
    have hb3 := hb.alloc hb.size (.cells (([⟨1, c, t⟩, ⟨2, c, t⟩] : List Wt).flatMap Wt.cells).toArray 42)
    have hb23 : Below w2.heap.size w2 (w2.alloc (.cells (([⟨1, c, t⟩, ⟨2, c, t⟩] : List Wt).flatMap Wt.cells).toArray 42)) := (Below.refl _ _).alloc (Nat.le_refl _) _
    have hW3 := rows_of_flat Wt.len default gw
    generalize w2.alloc (.cells (([⟨1, c, t⟩, ⟨2, c, t⟩] : List Wt).flatMap Wt.cells).toArray 42) = w3 at *
    have hR3 := (hR.below hb23 (Nat.le_refl _)).more hb23.size
    refine (all42 A l.length cp (fun i => l.getD i default) _ 2 2 (fun i => ([⟨1, c, t⟩, ⟨2, c, t⟩] : List Wt).getD i default) 100 false w3 (by omega) hcp (by omega) hR3 hin hW3).mono ?_
    rintro e w4 ⟨v, rfl, hown4, hb4⟩
    rw [allR_map (fun k hk => made_score hgood (by omega) (by omega) (by omega) hf k hk) l.length (Nat.le_refl _)] at hown4
    obtain ⟨A4, cp4, hv4, hcp4⟩ := Own.shape hown4
    rw [List.length_map, List.length_range] at hv4 hcp4
    subst hv4
    have hrow4 := Own.rows (c := Scr.cells) (fun _ => rfl) ⟨0, 0, 0⟩ hown4
    rw [List.length_map, List.length_range] at hrow4
    have hR4 := (hR3.below hb4 (Nat.le_refl _))
    have hbb := below_trans hb3 hb4
    have hsc : ∀ k, k < l.length → ((List.range l.length).map fun k => plainSc c t 100 (l.getD k default)).getD k ⟨0, 0, 0⟩ = plainSc c t 100 (l.getD k default) := fun k hk => by
      rw [List.getD_eq_getElem?_getD, List.getElem?_map, List.getElem?_range hk]; rfl
    have hval : ∀ k, k < l.length → ((l.getD k default).arm = 1 ∨ (l.getD k default).arm = 2) ∧ 0 ≤ (l.getD k default).value ∧ (l.getD k default).value ≤ 100 := fun k hk => by
      have hm := hgood (l.getD k default) (by rw [List.getD_eq_getElem?_getD, List.getElem?_eq_getElem hk]; simp)
      exact ⟨hm.1, hm.2.2.1, hm.2.2.2.1⟩
    have hsc := Lib.hid hsc
    have hval := Lib.hid hval
    clear hb3 hb4 hb23 hR hR3 hW3 gw hown4 hf hb hgood
    go_wp2_with fail
    go_loopg [14, 12, 13] l.length (fun m i s1 s2 wr => ∃ (k : Nat) (S : Int), k ≤ l.length ∧ m = l.length - k ∧ i = .int .i64 k ∧ s1 = .int .i64 S ∧ s2 = .int .i64 S ∧ -(500000 * k) ≤ S ∧ S ≤ 500000 * k ∧ wr = w4)
    case atStart => exact ⟨0, 0, by omega, by omega, rfl, rfl, rfl, by omega, by omega, rfl⟩
    case round =>
      obtain ⟨k, S, hk, hm, rfl, rfl, rfl, hS1, hS2, rfl⟩ := hrel
      have HM := Lib.hid hm
      clear hm
      by_cases hkl : k < l.length
      · obtain ⟨harm, hv0, hv1⟩ := hval.out k hkl
        have es := hsc.out k hkl
        obtain ⟨b, off, rfl, _, hc4⟩ := hrow4 (by omega)
        have x0 := hc4 k hkl 0 _ rfl
        have x1 := hc4 k hkl 1 _ rfl
        rw [es] at x0 x1
        obtain ⟨b', off', rfl, _, hcs⟩ := hR4 (by omega)
        have s4 := hcs k hkl 4 _ rfl
        have s6 := hcs k hkl 6 _ rfl
        clear es hc4 hcs hrow4 hR4
        simp only [Nat.add_zero] at x0
        generalize l.getD k default = q at *
        have p1 := mul3_bd (a := c + t) (b := t) (c := q.value) (A := 100) (B := 50) (C := 100) (by omega) (by omega) (by omega) (by omega) hv0 hv1
        have p2 := mul3_bd (a := c + t) (b := c) (c := q.value) (A := 100) (B := 50) (C := 100) (by omega) (by omega) (by omega) (by omega) hv0 hv1
        have p3 := mul3_bd (a := c) (b := t) (c := 100) (A := 50) (B := 50) (C := 100) (by omega) (by omega) (by omega) (by omega) (by omega) (by omega)
        have p4 := mul_bd (a := c) (b := t) (A := 50) (B := 50) (by omega) (by omega) (by omega) (by omega)
        have p5 := mul_bd (a := c + t) (b := t) (A := 100) (B := 50) (by omega) (by omega) (by omega) (by omega)
        have p6 := mul_bd (a := c + t) (b := c) (A := 100) (B := 50) (by omega) (by omega) (by omega) (by omega)
        have g1 : IntKind.i64.wrap (c * t) = c * t := IntWalk.i64_in _ (by omega)
        have g2 : IntKind.i64.wrap (c * t * 100) = c * t * 100 := IntWalk.i64_in _ (by omega)
        have g3 : IntKind.i64.wrap ((c + t) * t) = (c + t) * t := IntWalk.i64_in _ (by omega)
        have g4 : IntKind.i64.wrap ((c + t) * c) = (c + t) * c := IntWalk.i64_in _ (by omega)
        have g5 : IntKind.i64.wrap ((c + t) * t * q.value) = (c + t) * t * q.value := IntWalk.i64_in _ (by omega)
        have g6 : IntKind.i64.wrap ((c + t) * c * q.value) = (c + t) * c * q.value := IntWalk.i64_in _ (by omega)
        rcases harm with ha | ha
        · have e0 : (plainSc c t 100 q).num = -((c + t) * t * q.value) := by simp [plainSc, ha]
          have e1 : (plainSc c t 100 q).unit = c * t * 100 := rfl
          rw [e0] at x0
          rw [e1] at x1
          have ha2 : (q.arm == 2) = false := by simp [ha]
          clear e0 e1 ha
          go_wp2_with fail
          go_roundg (l.length - (k + 1))
          case measure => have := HM.out; omega
          case rel => exact ⟨k + 1, S - (c + t) * t * q.value, by omega, rfl, by go_num, by first | rfl | (congr 1; omega), by first | rfl | (congr 1; omega), by omega, by omega, rfl⟩
        · have e0 : (plainSc c t 100 q).num = (c + t) * c * q.value := by simp [plainSc, ha]
          have e1 : (plainSc c t 100 q).unit = c * t * 100 := rfl
          rw [e0] at x0
          rw [e1] at x1
          have ha2 : (q.arm == 2) = true := by simp [ha]
          clear e0 e1 ha
          go_wp2_with fail
          go_roundg (l.length - (k + 1))
          case measure => have := HM.out; omega
          case rel => exact ⟨k + 1, S + (c + t) * c * q.value, by omega, rfl, by go_num, rfl, rfl, by omega, by omega, rfl⟩
      · go_wp2_with fail
        go_ret
        exact ⟨rfl, hbb⟩
end Go.Proofs.Ytgonighpjpfmnaa
