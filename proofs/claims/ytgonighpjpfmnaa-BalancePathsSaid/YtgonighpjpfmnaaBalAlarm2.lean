/- The alarm of the reference; made exposures. -/
import Derived.Test.YtgonighpjpfmnaaBalPath2
import Derived.Test.YtgonighpjpfmnaaBalAlarm
namespace Go.Proofs.Ytgonighpjpfmnaa
open Go.RowKit


set_option maxHeartbeats 1000000 in
theorem alarm66 (A : Option Addr) (n cp : Nat) (f : Nat → Ev) (A' : Option Addr) (m cp' : Nat) (g : Nat → Wt) (level : Int) (w : World) (hn : n ≤ 1048576) (hm : m ≤ 1048576) (hR : RowsAt w w.heap.size 6 A n fun i => (f i).cells) (hW : RowsAt w w.heap.size 3 A' m fun i => (g i).cells) :
    Calls Try.prog 66 #[.slice A n cp, .slice A' m cp', .int .i64 level] w fun en w' => en = .returned (.int .i64 (bAl g m f n level)) ∧ Below w.heap.size w w' := by
  have h64 := path64 A n cp f A' m cp' g w hn hm hR hW
  have hlen : (bpathR g m f n).length ≤ n := (runB_bd g m f n).2
  unfold bAl
  generalize bpathR g m f n = P at *
  have H64 := Lib.hid h64
  clear h64 hR hW
  go_enter Try.func66, Try.ntmps66
  go_wp2_with fail
  refine H64.out.mono ?_
  rintro en w1 ⟨v, rfl, hown, hb⟩
  obtain ⟨A2, c2, rfl, hc2⟩ := Own.shape hown
  have hr := Own.rows (c := intC) intC_len 0 hown
  clear hown
  go_wp2_with fail
  refine (thr57 level 1 w1).mono ?_
  rintro en _ ⟨rfl, q, rfl⟩
  go_wp2_with fail
  refine (first59 A2 P.length c2 (fun i => P.getD i 0) (thrI level 1) (w1.drewN q) (by omega) (hr.below (below_drewN (Below.refl _ _) q) (Nat.le_refl _))).mono ?_
  rintro en _ ⟨rfl, rfl⟩
  go_wp2_with fail
  go_ret
  exact ⟨rfl, below_drewN hb q⟩

def ExPost (w : World) (e : Ending) (w' : World) : Prop := ∃ v l, e = .returned v ∧ l.length ≤ 100 ∧ (∀ s ∈ l, 1 ≤ Ev.ver s ∧ Ev.ver s ≤ 3) ∧ Own Ev.cells 32 6 w' w.heap.size v l ∧ Below w.heap.size w w'

set_option maxRecDepth 100000 in
set_option maxHeartbeats 2000000 in
theorem exposures62 (A : Option Addr) (n c : Nat) (w : World) (hn : n ≤ 4611686018427387904) (hL : BytesAt w w.heap.size A n) :
    Calls Try.prog 62 #[.slice A n c] w (ExPost w) := by
  obtain ⟨i0, hi, hz0, hz1, hz2⟩ := info_parts info32
  obtain ⟨g, hg⟩ : ∃ g, g = w.heap.size := ⟨_, rfl⟩
  have hb0 : Below g w (w.alloc (.cells #[.slice A n c, .int .i64 0] 110)) := by rw [hg]; exact (Below.refl _ _).alloc (Nat.le_refl _) _
  have Hg := Lib.hid hg
  have hS0 : Src w g A n c (w.alloc (.cells #[.slice A n c, .int .i64 0] 110)) := ⟨⟨0, Nat.zero_le _, by rw [hg]; exact heap_alloc_new w _⟩, by have := Hg.out; subst this; exact hL.kept hb0 (Nat.le_refl _), hb0⟩
  go_enter Try.func62, Try.ntmps62
  go_wp2_with fail
  rw [← hg]
  clear hg hb0
  go_loopg [4] 100 (fun m v wr => ∃ l : List Ev, m = 100 - l.length ∧ l.length ≤ 100 ∧ (∀ s ∈ l, 1 ≤ s.ver ∧ s.ver ≤ 3) ∧ Own Ev.cells 32 6 wr (g + 1) v l ∧ Src w g A n c wr)
  case atStart => exact ⟨[], rfl, by simp, by simp, Own.nil _ _ _ _ _, hS0⟩
  case round =>
    clear hS0
    obtain ⟨l, hm, hl, hgood, hown, hS⟩ := hrel
    have fin : ∀ w' v, Own Ev.cells 32 6 w' (g + 1) v l → Src w g A n c w' → ExPost w (.returned v) w' := fun w' v ho hs => by
      have hg := Hg.out; subst hg
      exact ⟨v, l, rfl, hl, hgood, Own.mono ho (by omega), hs.2.2⟩
    obtain ⟨A', cp, rfl, hcap⟩ := Own.shape hown
    have HM := Lib.hid hm
    clear hm
    go_wp2_with fail
    refine (more77 g A n c _ hn hS.1).mono ?_
    rintro e w' ⟨⟨b, rfl⟩, nq, rfl⟩
    cases b
    · go_wp2_with fail
      go_ret
      exact fin _ _ (Own.below hown (below_drewN (Below.refl _ _) nq)) (hS.drewN nq)
    · by_cases hlt : l.length < 100
      · have hlt' : decide (l.length < 100) = true := by simpa using hlt
        have hS1 := hS.drewN nq
        have ho1 : Own Ev.cells 32 6 _ (g + 1) _ l := Own.below hown (below_drewN (Below.refl _ _) nq)
        clear hown hS
        generalize wr.drewN nq = w1 at *
        go_wp2_with fail
        refine (next79 g A n c _ _ (by omega) (by omega) hn hS1.1 hS1.2.1).mono ?_
        intro e w2 hp
        have hS2 := hS1.next hp
        have ho2 : Own Ev.cells 32 6 w2 (g + 1) _ l := Own.only ho1 hp.2.2 (by omega)
        obtain ⟨⟨v1, rfl, hv1, hv1'⟩, _, _⟩ := hp
        clear ho1 hS1
        go_wp2_with fail
        refine (next79 g A n c _ _ (by omega) (by omega) hn hS2.1 hS2.2.1).mono ?_
        intro e w3 hp
        have hS3 := hS2.next hp
        have ho3 : Own Ev.cells 32 6 w3 (g + 1) _ l := Own.only ho2 hp.2.2 (by omega)
        obtain ⟨⟨v2, rfl, hv2, hv2'⟩, _, _⟩ := hp
        clear ho2 hS2
        have hgl := hS3.1.lt
        go_wp2_with (at_builtin; refine wpList_append_lies _ (by rfl) (.tmp 15) (.tmp 30) 82 (by rfl) (g + 1) 32 i0 _ 6 64 Try.underlying82 hi hz0 hz1 hz2 rfl (by omega) _ _ _ (by rfl) (World.ownsRow.alloc ho3 _) ⟨w3.heap.size, 0, none⟩ 1 1 [.string ⟨#[97, 110, 110]⟩, .string ⟨#[119, 101, 98]⟩, .int .i64 (l.length + 1), .int .i64 l.length, .int .i64 (1 + v1 / 6), .int .i64 (1 + v2 / 4)] (by rfl) (by rfl) (World.news_of_block (heap_alloc_new w3 (.cells #[.string ⟨#[97, 110, 110]⟩, .string ⟨#[119, 101, 98]⟩, .int .i64 (l.length + 1), .int .i64 l.length, .int .i64 (1 + v1 / 6), .int .i64 (1 + v2 / 4)] 32))) (by simp [Value.oneCell']) (by omega) (by unfold maxLen; omega) (by omega) (by simp; omega) (w3.heap.size + 1) (by simp) ?_; intro g' cap' w4 hown4 hgrow hat hlt4)
        have hS4 : Src w g A n c w4 := (hS3.below ((Below.refl _ _).alloc (Nat.le_refl _) _)).other hgrow (fun k hk => by have := World.ownsRow.lt ho3 k hk; omega)
        go_roundg (100 - (l.length + 1))
        case measure => have := HM.out; omega
        case rel =>
          have ho4 : Own Ev.cells 32 6 w4 (g + 1) _ (l ++ [⟨⟨#[97, 110, 110]⟩, ⟨#[119, 101, 98]⟩, l.length + 1, l.length, 1 + v1 / 6, 1 + v2 / 4⟩]) := Own.snoc hown4
          refine ⟨_, by simp, by simp; omega, ?_, ho4, hS4⟩
          intro s hs
          rw [List.mem_append] at hs
          rcases hs with hs | hs
          · exact hgood s hs
          · simp only [List.mem_singleton] at hs
            subst hs
            dsimp only
            omega
      · have hlt' : decide (l.length < 100) = false := by simpa using hlt
        go_wp2_with fail
        go_ret
        exact fin _ _ (Own.below hown (below_drewN (Below.refl _ _) nq)) (hS.drewN nq)
end Go.Proofs.Ytgonighpjpfmnaa
