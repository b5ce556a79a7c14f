/- The walk of flagstonelaw41.SequenceOf. -/
import Derived.Test.YtgonighpjpfmnaaSetO
import Derived.Test.YtgonighpjpfmnaaOf73
import Derived.Test.YtgonighpjpfmnaaAwake41
import Derived.Test.YtgonighpjpfmnaaLaw39a
import Derived.Deep.RegionHeld3
namespace Go.Proofs.Ytgonighpjpfmnaa
open Go.RowKit

theorem own_list0 {w : World} {B : Nat} {v : Value} {n : Nat} {F : Nat → Int} (h : Own intC 3 1 w B v ((List.range n).map F)) : ∃ A cap, v = .slice A n cap ∧ n ≤ cap ∧ RowsAt w w.heap.size 1 A n (fun i => [.int .i64 (F i)]) := by
  obtain ⟨A, cap, rfl, hc⟩ := Own.shape h
  have hr := Own.rows (c := intC) intC_len 0 h
  rw [List.length_map, List.length_range] at hc hr ⊢
  refine ⟨A, cap, rfl, hc, fun hn => ?_⟩
  obtain ⟨b, off, hA, hb, hcell⟩ := hr hn
  refine ⟨b, off, hA, hb, fun i hi j u hu => hcell i hi j u ?_⟩
  show (intC (((List.range n).map F).getD i 0))[j]? = some u
  rw [List.getD_eq_getElem?_getD, List.getElem?_map, List.getElem?_range hi]
  exact hu
theorem cells2q {w : World} {g : Nat} {x y : Value} {t : TypeId} (h : w.heap[g]? = some (.cells #[x, y] t (0, 0))) : w.cell? ⟨g, 0, none⟩ = some x ∧ w.cell? ⟨g, 1, none⟩ = some y := ⟨cell_of_block h 0, cell_of_block h 1⟩

set_option maxRecDepth 100000 in
set_option maxHeartbeats 8000000 in
theorem sequenceOf28 (a0 : Option Addr) (len0 cap0 : Nat) (z0 : List Int) (a1 a2 : Int) (a3 : Option Addr) (len3 cap3 : Nat) (z3 : List Int) (b3 : Option Addr) (ln3 cp3 : Nat) (y3 : List Int) (w : World) (w0 : IsRow .u8 w a0 len0 cap0 z0) (w1 : (Lit.int .u16 a1).wf = true) (w2 : (Lit.int .i16 a2).wf = true) (w3 : IsRow .i64 w a3 len3 cap3 z3) (u3 : IsRow .i64 w b3 ln3 cp3 y3) :
    Calls Try.prog 28 #[.slice a0 len0 cap0, .int .u16 a1, .int .i16 a2, .agg #[.slice a3 len3 cap3, .slice b3 ln3 cp3]] w fun e w' => e = .returned (.bool true) ∧ Below w.heap.size w w' := by
  have b1 := bounds_u16 w1
  have b2 := bounds_i16 w2
  have hB := w0.bytes
  obtain ⟨r3, -, m3, -⟩ := w3.rows
  obtain ⟨s3, -, n3, -⟩ := u3.rows
  obtain ⟨lv, hlv⟩ : ∃ n, 1 + a1 % 999 = n := ⟨_, rfl⟩
  have hb : Below w.heap.size w (w.alloc (.cells #[.slice a3 len3 cap3, .slice b3 ln3 cp3] 95)) := (Below.refl _ _).alloc (Nat.le_refl _) _
  have gr := heap_alloc_new w (.cells #[.slice a3 len3 cap3, .slice b3 ln3 cp3] 95)
  clear w0 w1 w2 w3 u3
  go_enter Try.func28, Try.ntmps28
  go_upto_region 1 with fail
  generalize w.alloc (.cells #[.slice a3 len3 cap3, .slice b3 ln3 cp3] 95) = v0 at *
  go_wp2_with fail
  refine (awake67 v0).mono ?_
  rintro e u0 ⟨rfl, hq⟩
  replace gr := blk_kept hq gr
  replace hb := below_trans' hb hb.size hq
  obtain ⟨y0, y1⟩ := cells2q gr
  clear hq
  by_cases p0 : 30 < len0
  · have p0I : (30 : Int) < len0 := by omega
    go_wp2_with fail
    go_ret
    exact ⟨rfl, hb⟩
  by_cases p1 : 40 < len3
  · have p0I : ¬ (30 : Int) < len0 := by omega
    have p1I : (40 : Int) < len3 := by omega
    go_wp2_with fail
    go_ret
    exact ⟨rfl, hb⟩
  by_cases p2 : 40 < ln3
  · have p0I : ¬ (30 : Int) < len0 := by omega
    have p1I : ¬ (40 : Int) < len3 := by omega
    have p2I : (40 : Int) < ln3 := by omega
    go_wp2_with fail
    go_ret
    exact ⟨rfl, hb⟩
  have p0I : ¬ (30 : Int) < len0 := by omega
  have p1I : ¬ (40 : Int) < len3 := by omega
  have p2I : ¬ (40 : Int) < ln3 := by omega
  go_wp2_with fail
  clear y0 y1 p0I p1I p2I
  refine (scores49 a0 len0 cap0 u0 (by omega) ((hB.kept hb (Nat.le_refl _)).more' hb.size)).mono ?_
  rintro e w2 ⟨v, l, rfl, hl, hs, hown, hb2⟩
  obtain ⟨A, cp, rfl, hcp⟩ := Own.shape hown
  have hR := Own.rows (c := Scr.cells) (fun _ => rfl) default hown
  have hRb := small_bd hs
  replace gr := blk_kept hb2 gr
  replace hb := below_trans' hb hb.size hb2
  obtain ⟨n, hn⟩ : ∃ n, l.length = n := ⟨_, rfl⟩
  obtain ⟨f, hf⟩ : ∃ f : Nat → Scr, (fun i => l.getD i default) = f := ⟨_, rfl⟩
  replace hR : RowsAt w2 w2.heap.size 3 A n fun i => (f i).cells := by rw [← hf, ← hn]; exact hR
  replace hRb : ∀ k, k < n → -9223372036854775808 ≤ (f k).unit ∧ (f k).rng ≤ 9223372036854775807 := by rw [← hf, ← hn]; exact hRb
  rw [hn] at hl hcp ⊢
  clear hown hs hB hb2 hf hn
  have HRb := Lib.hid hRb
  clear hRb
  have o1 := fun w' => of72 A n cp f lv w' (by omega)
  have o2 := fun w' => of73 A n cp f lv w' (by omega) hcp
  rw [lows_same f lv (by omega), highs_same f lv (by omega)] at o1
  obtain ⟨L, eL⟩ : ∃ L : Nat → Int, (fun k : Nat => lowR f lv (k + 1)) = L := ⟨_, rfl⟩
  obtain ⟨H, eH⟩ : ∃ L : Nat → Int, (fun k : Nat => highR f lv (k + 1)) = L := ⟨_, rfl⟩
  rw [eL, eH] at o1 o2
  have O1 := Lib.hid o1
  have O2 := Lib.hid o2
  clear o1 o2 eL eH
  go_wp2_with fail
  refine (O1.out _ hR HRb.out).mono ?_
  rintro e x3 ⟨vl, vh, rfl, hol, hoh, hb3⟩
  replace gr := blk_kept hb3 gr
  replace hb := below_trans' hb hb.size hb3
  replace hR := (hR.below hb3 (Nat.le_refl _)).more hb3.size
  go_wp2_with fail
  refine (O2.out _ hR HRb.out).mono ?_
  rintro e w4 ⟨ul, uh, rfl, hul, huh, hb4⟩
  replace gr := blk_kept hb4 gr
  replace hb := below_trans' hb hb.size hb4
  replace hol := Own.below hol hb4
  replace hoh := Own.below hoh hb4
  obtain ⟨A1, c1, rfl, k1, s1⟩ := own_list0 hol
  obtain ⟨A2, c2, rfl, k2, s2⟩ := own_list0 hoh
  obtain ⟨A3, c3, rfl, k3, t1⟩ := own_list0 hul
  obtain ⟨A4, c4, rfl, k4, t2⟩ := own_list0 huh
  clear hol hoh hul huh hb3 hb4 hR O1 O2 HRb
  go_upto_region 7 with fail
  have hbz : Below w4.heap.size w4 ((w4.alloc (.cells #[.slice A1 n c1, .slice A2 n c2] 95)).alloc (.cells #[.slice A3 n c3, .slice A4 n c4] 95)) := ((Below.refl _ _).alloc (Nat.le_refl _) _).alloc (by simp) _
  have g0 : ((w4.alloc (.cells #[.slice A1 n c1, .slice A2 n c2] 95)).alloc (.cells #[.slice A3 n c3, .slice A4 n c4] 95)).heap[w4.heap.size]? = some (.cells #[.slice A1 n c1, .slice A2 n c2] 95 (0, 0)) := by
    rw [Below.heap_alloc _ _ _ (by simp)]; exact heap_alloc_new w4 _
  have g1 : ((w4.alloc (.cells #[.slice A1 n c1, .slice A2 n c2] 95)).alloc (.cells #[.slice A3 n c3, .slice A4 n c4] 95)).heap[w4.heap.size + 1]? = some (.cells #[.slice A3 n c3, .slice A4 n c4] 95 (0, 0)) := by
    have h := heap_alloc_new (w4.alloc (.cells #[.slice A1 n c1, .slice A2 n c2] 95)) (.cells #[.slice A3 n c3, .slice A4 n c4] 95)
    rw [show (w4.alloc (.cells #[.slice A1 n c1, .slice A2 n c2] 95)).heap.size = w4.heap.size + 1 by simp] at h
    exact h
  replace gr := blk_kept hbz gr
  replace s1 := (s1.below hbz (Nat.le_refl _)).more hbz.size
  replace s2 := (s2.below hbz (Nat.le_refl _)).more hbz.size
  replace t1 := (t1.below hbz (Nat.le_refl _)).more hbz.size
  replace t2 := (t2.below hbz (Nat.le_refl _)).more hbz.size
  replace hb := below_trans' hb hb.size hbz
  have R3 := (r3.below hb (Nat.le_refl _)).more hb.size
  have R4 := (s3.below hb (Nat.le_refl _)).more hb.size
  generalize ((w4.alloc (.cells #[.slice A1 n c1, .slice A2 n c2] 95)).alloc (.cells #[.slice A3 n c3, .slice A4 n c4] 95)) = w5 at *
  generalize hG1 : w4.heap.size + 1 = G1 at *
  generalize hG0 : w4.heap.size = G0 at *
  clear hG1 hG0 hbz r3 s3
  have hbd : Below w5.heap.size w5 w5.drew := (Below.refl _ _).drew
  have ROW : ∀ w', Below w5.heap.size w5 w' → RowsAt w' w'.heap.size 1 A1 n (fun i => [.int .i64 (L i)]) ∧ RowsAt w' w'.heap.size 1 A2 n (fun i => [.int .i64 (H i)]) ∧ RowsAt w' w'.heap.size 1 A3 n (fun i => [.int .i64 (L i)]) ∧ RowsAt w' w'.heap.size 1 A4 n (fun i => [.int .i64 (H i)]) ∧ RowsAt w' w'.heap.size 1 a3 len3 (fun i => [.int .i64 (z3.getD i 0)]) ∧ RowsAt w' w'.heap.size 1 b3 ln3 (fun i => [.int .i64 (y3.getD i 0)]) := fun w' h =>
    ⟨(s1.below h (Nat.le_refl _)).more h.size, (s2.below h (Nat.le_refl _)).more h.size, (t1.below h (Nat.le_refl _)).more h.size, (t2.below h (Nat.le_refl _)).more h.size, (R3.below h (Nat.le_refl _)).more h.size, (R4.below h (Nat.le_refl _)).more h.size⟩
  have CEL : ∀ w', Below w5.heap.size w5 w' → ((w'.cell? ⟨G0, 0, none⟩ = some (.slice A1 n c1) ∧ w'.cell? ⟨G0, 1, none⟩ = some (.slice A2 n c2)) ∧ (w'.cell? ⟨G1, 0, none⟩ = some (.slice A3 n c3) ∧ w'.cell? ⟨G1, 1, none⟩ = some (.slice A4 n c4))) ∧ (w'.cell? ⟨w.heap.size, 0, none⟩ = some (.slice a3 len3 cap3) ∧ w'.cell? ⟨w.heap.size, 1, none⟩ = some (.slice b3 ln3 cp3)) := fun w' h => ⟨⟨cells2q (blk_kept h g0), cells2q (blk_kept h g1)⟩, cells2q (blk_kept h gr)⟩
  have k0 := CEL _ hbd
  have RW' := Lib.hid ROW
  have CE := Lib.hid CEL
  clear ROW CEL s1 s2 t1 t2 R3 R4 g0 g1 gr
  go_region_held3 (fun w' => ((w'.cell? ⟨G0, 0, none⟩ = some (.slice A1 n c1) ∧ w'.cell? ⟨G0, 1, none⟩ = some (.slice A2 n c2)) ∧ (w'.cell? ⟨G1, 0, none⟩ = some (.slice A3 n c3) ∧ w'.cell? ⟨G1, 1, none⟩ = some (.slice A4 n c4))) ∧ (w'.cell? ⟨w.heap.size, 0, none⟩ = some (.slice a3 len3 cap3) ∧ w'.cell? ⟨w.heap.size, 1, none⟩ = some (.slice b3 ln3 cp3)))
    (first | with_reducible exact x6 | with_reducible exact x5 | with_reducible exact x4 | with_reducible exact x3 | with_reducible exact x2 | with_reducible exact x1 | with_reducible exact k0)
    (first
      | (go_at_call 54; with_reducible refine (same54 A1 A3 n c1 c3 L _ (by omega) (RW'.out _ hbd).1 (RW'.out _ hbd).2.2.1).mono ?_; rintro e v1 ⟨rfl, q1⟩; have h1 := below_trans' hbd hbd.size q1; have x1 := CE.out _ h1)
      | (go_at_call 54; with_reducible refine (same54 A2 A4 n c2 c4 H _ (by omega) (RW'.out _ h1).2.1 (RW'.out _ h1).2.2.2.1).mono ?_; rintro e v2 ⟨rfl, q2⟩; have h2 := below_trans' h1 h1.size q2; have x2 := CE.out _ h2)
      | (go_at_call 74; with_reducible refine (settles74 A1 A2 n n c1 c2 L H _ _ (by omega) (by omega) k1 k2 (RW'.out _ h2).1 (RW'.out _ h2).2.1).mono ?_; rintro e v3 ⟨rfl, q3⟩; have h3 := below_trans' h2 h2.size q3; have x3 := CE.out _ h3)
      | (go_at_call 75; with_reducible refine (settles75 A3 A4 n n c3 c4 L H _ _ (by omega) (by omega) k3 k4 (RW'.out _ h3).2.2.1 (RW'.out _ h3).2.2.2.1).mono ?_; rintro e v4 ⟨rfl, q4⟩; have h4 := below_trans' h3 h3.size q4; have x4 := CE.out _ h4)
      | (go_at_call 74; with_reducible refine (settles74 a3 b3 len3 ln3 cap3 cp3 (fun i => z3.getD i 0) (fun i => y3.getD i 0) _ _ (by omega) (by omega) m3 n3 (RW'.out _ h4).2.2.2.2.1 (RW'.out _ h4).2.2.2.2.2).mono ?_; rintro e v5 ⟨rfl, q5⟩; have h5 := below_trans' h4 h4.size q5; have x5 := CE.out _ h5)
      | (go_at_call 75; with_reducible refine (settles75 a3 b3 len3 ln3 cap3 cp3 (fun i => z3.getD i 0) (fun i => y3.getD i 0) _ _ (by omega) (by omega) m3 n3 (RW'.out _ h5).2.2.2.2.1 (RW'.out _ h5).2.2.2.2.2).mono ?_; rintro e v6 ⟨rfl, q6⟩; have h6 := below_trans' h5 h5.size q6; have x6 := CE.out _ h6))
  go_wp2_with fail
  go_ret
  exact ⟨rfl, below_trans' hb hb.size h6⟩
end Go.Proofs.Ytgonighpjpfmnaa
