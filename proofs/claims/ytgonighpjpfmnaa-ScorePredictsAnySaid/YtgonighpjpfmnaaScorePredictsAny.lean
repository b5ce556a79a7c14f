/- The walk of flagstonelaw39.ScorePredictsAny. -/
import Derived.Test.YtgonighpjpfmnaaScoreSums
namespace Go.Proofs.Ytgonighpjpfmnaa
open Go.RowKit

def kSmp : List CK := [.str, .str, .int .i64, .int .i64, .int .i64, .int .i64, .int .i64, .int .i64, .int .i64, .bool]
theorem kSmp_of {cs : List Value} (h : CellsOk kSmp cs) : ∃ s : Smp, cs = s.cells ∧ (-9223372036854775808 ≤ s.value ∧ s.value ≤ 9223372036854775807) ∧ (-9223372036854775808 ≤ s.before ∧ s.before ≤ 9223372036854775807) := by
  unfold kSmp at h
  rcases cs with _ | ⟨v0, _ | ⟨v1, _ | ⟨v2, _ | ⟨v3, _ | ⟨v4, _ | ⟨v5, _ | ⟨v6, _ | ⟨v7, _ | ⟨v8, _ | ⟨v9, _ | ⟨v10, l⟩⟩⟩⟩⟩⟩⟩⟩⟩⟩⟩ <;> simp only [CellsOk, and_false] at h
  obtain ⟨⟨x0, rfl, _⟩, ⟨x1, rfl, _⟩, ⟨x2, rfl, _⟩, ⟨x3, rfl, _⟩, ⟨x4, rfl, _⟩, ⟨x5, rfl, _⟩, ⟨x6, rfl, h6⟩, ⟨x7, rfl, _⟩, ⟨x8, rfl, h8⟩, ⟨x9, rfl⟩, _⟩ := h
  exact ⟨⟨x0, x1, x2, x3, x4, x5, x6, x7, x8, x9⟩, rfl, bounds_i64 h6, bounds_i64 h8⟩

theorem kSmp_rows {w : World} {a : Option Addr} {len cap : Nat} (h : IsRows kSmp w a len cap) : ∃ F : Nat → Smp, RowsAt w w.heap.size 10 a len (fun i => (F i).cells) ∧ (∀ i, i < len → (-9223372036854775808 ≤ (F i).value ∧ (F i).value ≤ 9223372036854775807) ∧ (-9223372036854775808 ≤ (F i).before ∧ (F i).before ≤ 9223372036854775807)) := by
  obtain ⟨h1, _, f, hf, hR⟩ := h
  have hex : ∀ i, ∃ s : Smp, i < cap → f i = s.cells ∧ (-9223372036854775808 ≤ s.value ∧ s.value ≤ 9223372036854775807) ∧ (-9223372036854775808 ≤ s.before ∧ s.before ≤ 9223372036854775807) := fun i => by
    by_cases hi : i < cap
    · obtain ⟨s, hs⟩ := kSmp_of (hf i hi)
      exact ⟨s, fun _ => hs⟩
    · exact ⟨default, fun h => absurd h hi⟩
  refine ⟨fun i => (hex i).choose, fun hn => ?_, fun i hi => ((hex i).choose_spec (by omega)).2⟩
  obtain ⟨b, off, hA, hb, hc⟩ := hR (by omega)
  refine ⟨b, off, hA, hb, fun i hi j u hu => ?_⟩
  exact hc i (by omega) j u (by rw [((hex i).choose_spec (by omega)).1]; exact hu)

def anyS (F : Nat → Smp) (arm : Int) (i : Nat) : Smp := { F i with value := (F i).value.tmod 1099511627777, arm := 1 + (i * arm) % 3 }

set_option maxRecDepth 100000 in
set_option maxHeartbeats 2000000 in
theorem scorePredictsAny4 (a0 : Option Addr) (len0 cap0 : Nat) (a1 a2 a3 : Int) (w : World) (w0 : IsRows kSmp w a0 len0 cap0) (w1 : (Lit.int .u8 a1).wf = true) (w2 : (Lit.int .u8 a2).wf = true) (w3 : (Lit.int .u16 a3).wf = true) :
    Calls Try.prog 4 #[.slice a0 len0 cap0, .int .u8 a1, .int .u8 a2, .int .u16 a3] w fun e w' => e = .returned (.bool true) ∧ Below w.heap.size w w' := by
  have b1 := bounds_u8 w1
  have b2 := bounds_u8 w2
  have b3 := bounds_u16 w3
  obtain ⟨F, hR, hF⟩ := kSmp_rows w0
  obtain ⟨i0, hi, hz0, hz1, hz2⟩ := info_parts info34
  have hm : len0 ≤ 9223372036854775807 := by have := w0.1; have := w0.2.1; unfold maxLen at this; omega
  clear w0 w1 w2 w3
  by_cases hlen : 60 < len0
  · go_enter Try.func4, Try.ntmps4
    go_wp2_with (go_at_call 30; refine (awake30 _).mono ?_; rintro e w' ⟨rfl, hb⟩)
    go_ret
    exact ⟨rfl, hb⟩
  · go_enter Try.func4, Try.ntmps4
    go_wp2_with fail
    refine (awake30 _).mono ?_
    rintro e w1 ⟨rfl, hb1⟩
    go_wp2_with fail
    go_loopg [10, 9] len0 (fun m i v wr => ∃ k : Nat, k ≤ len0 ∧ m = len0 - k ∧ i = .int .i64 k ∧ OwnSmp wr w.heap.size v ((List.range k).map (anyS F a2)) ∧ Below w.heap.size w wr)
    case atStart => exact ⟨0, by omega, by omega, rfl, Own.nil _ _ _ _ _, hb1⟩
    case round =>
      clear hb1
      obtain ⟨k, hk, hmm, rfl, hown, hb⟩ := hrel
      have HM := Lib.hid hmm
      clear hmm
      obtain ⟨L, hL⟩ : ∃ L, L = (List.range k).map (anyS F a2) := ⟨_, rfl⟩
      have hLl : L.length = k := by rw [hL]; simp
      rw [← hL] at hown
      have HL := Lib.hid hL
      have HLl := Lib.hid hLl
      clear hL
      obtain ⟨Av, cpv, rfl, hcap⟩ := Own.shape hown
      rw [hLl] at hown hcap ⊢
      clear hLl
      by_cases hlt : k < len0
      · obtain ⟨b, off, rfl, hbk, hcell⟩ := hR.below hb (Nat.le_refl _) (by omega)
        have g0 := hcell k hlt 0 _ rfl
        have g1 := hcell k hlt 1 _ rfl
        have g2 := hcell k hlt 2 _ rfl
        have g3 := hcell k hlt 3 _ rfl
        have g4 := hcell k hlt 4 _ rfl
        have g5 := hcell k hlt 5 _ rfl
        have g6 := hcell k hlt 6 _ rfl
        have g7 := hcell k hlt 7 _ rfl
        have g8 := hcell k hlt 8 _ rfl
        have g9 := hcell k hlt 9 _ rfl
        have hFk := hF k hlt
        clear hcell
        simp only [Nat.add_zero] at g0
        have hprod : 0 ≤ (k : Int) * a2 ∧ (k : Int) * a2 ≤ 60 * 255 := ⟨Int.mul_nonneg (by omega) (by omega), Int.mul_le_mul (by omega) (by omega) (by omega) (by omega)⟩
        have hw1 : IntKind.i64.wrap ((k : Int) * a2) = k * a2 := IntWalk.i64_in _ (by omega)
        have hownk : wr.ownsRow w.heap.size 34 10 (.slice Av k cpv) k (L.flatMap Smp.cells) := by
          have h := hown
          unfold OwnSmp Own at h
          rw [HLl.out] at h
          exact h
        have hown1 := World.ownsRow.alloc hownk (.cells #[.string (F k).id, .string (F k).client, .int .i64 (F k).seq, .int .i64 (F k).time, .int .i64 (1 + k * a2 % 3), .int .i64 (F k).version, .int .i64 ((F k).value.tmod 1099511627777), .int .i64 (F k).below, .int .i64 (F k).before, .bool (F k).mixed] 34)
        have hb5 := hb.alloc hb.size (.cells #[.string (F k).id, .string (F k).client, .int .i64 (F k).seq, .int .i64 (F k).time, .int .i64 (1 + k * a2 % 3), .int .i64 (F k).version, .int .i64 ((F k).value.tmod 1099511627777), .int .i64 (F k).below, .int .i64 (F k).before, .bool (F k).mixed] 34)
        have hz5 : w.heap.size ≤ wr.heap.size := hb.size
        go_wp2_with (at_builtin; refine wpList_append_lies _ (by rfl) (.tmp 40) (.tmp 42) 25 (by rfl) w.heap.size 34 i0 _ 10 96 Try.underlying25 hi hz0 hz1 hz2 rfl (by omega) _ _ _ (by rfl) (World.ownsRow.alloc hown1 _) ⟨wr.heap.size + 1, 0, none⟩ 1 1 [.string (F k).id, .string (F k).client, .int .i64 (F k).seq, .int .i64 (F k).time, .int .i64 (1 + k * a2 % 3), .int .i64 (F k).version, .int .i64 ((F k).value.tmod 1099511627777), .int .i64 (F k).below, .int .i64 (F k).before, .bool (F k).mixed] (by rfl) (by rfl) (World.news_of_block (by have := heap_alloc_new (wr.alloc (.cells #[.string (F k).id, .string (F k).client, .int .i64 (F k).seq, .int .i64 (F k).time, .int .i64 (1 + k * a2 % 3), .int .i64 (F k).version, .int .i64 ((F k).value.tmod 1099511627777), .int .i64 (F k).below, .int .i64 (F k).before, .bool (F k).mixed] 34)) (.cells #[.string (F k).id, .string (F k).client, .int .i64 (F k).seq, .int .i64 (F k).time, .int .i64 (1 + k * a2 % 3), .int .i64 (F k).version, .int .i64 ((F k).value.tmod 1099511627777), .int .i64 (F k).below, .int .i64 (F k).before, .bool (F k).mixed] 34); simpa using this)) (by simp [Value.oneCell']) (by omega) (by unfold maxLen; omega) (by omega) (by simp; omega) (wr.heap.size + 2) (by simp) ?_; intro g' cap' w4 hown4 hgrow hat hlt4)
        have hb6 : Below w.heap.size w w4 := (hb5.alloc hb5.size _).grown hgrow (by simp; omega) (fun q hq => (World.ownsRow.lt hown q hq).1)
        have ho4 : OwnSmp w4 w.heap.size (.slice (some ⟨g', 0, none⟩) (k + 1) cap') ((List.range (k + 1)).map (anyS F a2)) := by
          rw [List.range_succ, List.map_append, ← HL.out]
          have h := Own.snoc (c := Smp.cells) (l := L) (s := anyS F a2 k) (by rw [HLl.out]; exact hown4)
          exact h
        clear hown hownk hown1 hown4 hgrow hat hb5
        go_roundg (len0 - (k + 1))
        case measure => have := HM.out; omega
        case rel => exact ⟨k + 1, by omega, rfl, by go_num, ho4, hb6⟩
      · obtain rfl : k = len0 := by omega
        have hown' : OwnSmp wr w.heap.size (.slice Av L.length cpv) L := by rw [HLl.out]; exact hown
        have hR' := OwnSmp.rows hown'
        rw [HLl.out] at hR'
        have hin : InSmp (fun i => L.getD i default) k := fun i hi => by
          have hF' := hF i hi
          have e : L.getD i default = anyS F a2 i := by rw [HL.out, List.getD_eq_getElem?_getD, List.getElem?_map, List.getElem?_range hi]; rfl
          dsimp only
          rw [e]
          have h1 := Int.tmod_lt_of_pos (F i).value (show (0 : Int) < 1099511627777 by omega)
          have h2 : -1099511627777 < (F i).value.tmod 1099511627777 := by
            have := Int.lt_tmod_of_pos (F i).value (show (0 : Int) < 1099511627777 by omega); omega
          simp only [anyS]
          omega
        have hmod : 0 ≤ a1 % (k + 1) := Int.emod_nonneg _ (by omega)
        clear hown hown' hF hR
        go_wp2_with fail
        refine (predict34 Av k cpv _ _ _ a3 wr (by omega) hcap hR' hin (by omega) (by omega)).mono ?_
        rintro e w3 ⟨rfl, hb3⟩
        have hR' := (hR'.below hb3 (Nat.le_refl _)).more hb3.size
        have hb := below_trans hb hb3
        clear hb3
        go_wp2_with fail
        refine (predict35 Av k cpv _ _ _ a3 w3 (by omega) hcap hR' hin (by omega) (by omega)).mono ?_
        rintro e w4 ⟨rfl, hb4⟩
        have hb := below_trans hb hb4
        go_wp2_with fail
        go_ret
        exact ⟨rfl, hb⟩
end Go.Proofs.Ytgonighpjpfmnaa
