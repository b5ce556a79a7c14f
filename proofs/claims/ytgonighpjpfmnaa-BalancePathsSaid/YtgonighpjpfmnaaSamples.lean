/- The contract of flagstonedata.Samples. -/
import Derived.Test.YtgonighpjpfmnaaLists
import Derived.Test.YtgonighpjpfmnaaScore1
namespace Go.Proofs.Ytgonighpjpfmnaa
open Go.RowKit

instance : Inhabited Smp := ⟨⟨⟨#[]⟩, ⟨#[]⟩, 0, 0, 0, 0, 0, 0, 0, false⟩⟩
def OwnSmp := Own Smp.cells 34 10
theorem Smp.len (s : Smp) : s.cells.length = 10 := rfl
/-- A made sample: an arm, a version, a value up to the cap. -/
def Smp.made (cap : Int) (s : Smp) : Prop := (s.arm = 1 ∨ s.arm = 2) ∧ (s.version = 1 ∨ s.version = 2) ∧ 0 ≤ s.value ∧ s.value ≤ cap ∧ 0 ≤ s.before ∧ s.before ≤ 4

theorem info34 : (Try.prog.info? 34).map (fun i => (i.zero, i.size, i.bytes)) = some (some (.agg #[.string ⟨#[]⟩, .string ⟨#[]⟩, .int .i64 0, .int .i64 0, .int .i64 0, .int .i64 0, .int .i64 0, .int .i64 0, .int .i64 0, .bool false]), 10, 96) := by kernel_rfl

def SamplesPost (cap : Int) (w : World) (e : Ending) (w' : World) : Prop := ∃ v l, e = .returned v ∧ l.length ≤ 40 ∧ (∀ s ∈ l, Smp.made cap s) ∧ OwnSmp w' w.heap.size v l ∧ Below w.heap.size w w'

/-- What stays while the last statement of a round runs: the Source, the list, the exposure in block x. -/
structure SI (w0 : World) (g : Nat) (A : Option Addr) (n c : Nat) (v : Value) (l : List Smp) (x : Nat) (xs : Array Value) (w : World) : Prop where
  src : Src w0 g A n c w
  own : OwnSmp w (g + 1) v l
  blk : w.heap[x]? = some (.cells xs 32 (0, 0))
  gx : g < x
  far : v.ownBlock ≠ some x

theorem SI.drew {w0 : World} {g : Nat} {A : Option Addr} {n c : Nat} {v : Value} {l : List Smp} {x : Nat} {xs : Array Value} {w : World} (h : SI w0 g A n c v l x xs w) : SI w0 g A n c v l x xs w.drew :=
  ⟨h.src.drewN 1, Own.below h.own (below_drewN (Below.refl _ _) 1), h.blk, h.gx, h.far⟩
theorem SI.next {w0 : World} {g : Nat} {A : Option Addr} {n c : Nat} {v : Value} {l : List Smp} {x : Nat} {xs : Array Value} {w w' : World} {m : Int} {e : Ending} (h : SI w0 g A n c v l x xs w) (hp : NextPost w g A n c m e w') : SI w0 g A n c v l x xs w' :=
  ⟨h.src.next hp, Own.only h.own hp.2.2 (by omega), by rw [hp.2.2.block x (Array.getElem?_eq_some_iff.1 h.blk).1 (fun he => by injection he with he; have := h.gx; omega)]; exact h.blk, h.gx, h.far⟩
theorem SI.below {w0 : World} {g : Nat} {A : Option Addr} {n c : Nat} {v : Value} {l : List Smp} {x : Nat} {xs : Array Value} {w w' : World} (h : SI w0 g A n c v l x xs w) (hb : Below w.heap.size w w') : SI w0 g A n c v l x xs w' :=
  ⟨h.src.below hb, Own.below h.own hb, by rw [hb.block x (Array.getElem?_eq_some_iff.1 h.blk).1]; exact h.blk, h.gx, h.far⟩
theorem SI.alloc {w0 : World} {g : Nat} {A : Option Addr} {n c : Nat} {v : Value} {l : List Smp} {x : Nat} {xs : Array Value} {w : World} (h : SI w0 g A n c v l x xs w) (o : Obj) : SI w0 g A n c v l x xs (w.alloc o) := h.below ((Below.refl _ _).alloc (Nat.le_refl _) _)
theorem SI.next_calls {w0 : World} {g : Nat} {A : Option Addr} {n c : Nat} {v : Value} {l : List Smp} {x : Nat} {xs : Array Value} {w : World} {m : Int} (h : SI w0 g A n c v l x xs w) (hm : 1 ≤ m) (hm2 : m ≤ 256) (hn : n ≤ 4611686018427387904) :
    Calls Try.prog 79 #[.pointer (some ⟨g, 0, none⟩), .int .i64 m] w fun e w' => (∃ v, e = .returned (.int .i64 v) ∧ 0 ≤ v ∧ v < m) ∧ SI w0 g A n c v l x xs w' :=
  (next79 g A n c m w hm hm2 hn h.src.1 h.src.2.1).mono fun _ _ hp => ⟨hp.1, h.next hp⟩

set_option maxRecDepth 100000 in
set_option maxHeartbeats 2000000 in
theorem samples31 (A : Option Addr) (n c : Nat) (cap : Int) (w : World) (hn : n ≤ 4611686018427387904) (hc0 : 0 ≤ cap) (hc1 : cap ≤ 65535) (hL : BytesAt w w.heap.size A n) :
    Calls Try.prog 31 #[.slice A n c, .int .i64 cap] w (SamplesPost cap w) := by
  obtain ⟨i0, hi, hz0, hz1, hz2⟩ := info_parts info34
  obtain ⟨g, hg⟩ : ∃ g, g = w.heap.size := ⟨_, rfl⟩
  have hb0 : Below g w (w.alloc (.cells #[.slice A n c, .int .i64 0] 110)) := by rw [hg]; exact (Below.refl _ _).alloc (Nat.le_refl _) _
  have Hg := Lib.hid hg
  have hS0 : Src w g A n c (w.alloc (.cells #[.slice A n c, .int .i64 0] 110)) := ⟨⟨0, Nat.zero_le _, by rw [hg]; exact heap_alloc_new w _⟩, by have := Hg.out; subst this; exact hL.kept hb0 (Nat.le_refl _), hb0⟩
  go_enter Try.func31, Try.ntmps31
  go_wp2_with fail
  rw [← hg]
  clear hg hb0
  go_loopg [6] 40 (fun m v wr => ∃ l : List Smp, m = 40 - l.length ∧ l.length ≤ 40 ∧ (∀ s ∈ l, Smp.made cap s) ∧ OwnSmp wr (g + 1) v l ∧ Src w g A n c wr)
  case atStart => exact ⟨[], rfl, by simp, by simp, Own.nil _ _ _ _ _, hS0⟩
  case round =>
    clear hS0
    obtain ⟨l, hm, hl, hgood, hown, hS⟩ := hrel
    have fin : ∀ w' v, OwnSmp w' (g + 1) v l → Src w g A n c w' → SamplesPost cap w (.returned v) w' := fun w' v ho hs => by
      have hg := Hg.out; subst hg
      exact ⟨v, l, rfl, hl, hgood, Own.mono ho (by omega), hs.2.2⟩
    obtain ⟨A', cp, rfl, hcap⟩ := Own.shape hown
    have HM := Lib.hid hm
    clear hm
    go_wp2_with fail
    refine (more77 g A n c _ hn hS.1).mono ?_
    rintro e w' ⟨⟨b, rfl⟩, nq, rfl⟩
    cases b
    · go_wp2_with fail
      go_ret
      exact fin _ _ (Own.below hown (below_drewN (Below.refl _ _) nq)) (hS.drewN nq)
    · by_cases hlt : l.length < 40
      · have hlt' : decide (l.length < 40) = true := by simpa using hlt
        go_wp2_with fail
        refine (id78 _ _ (by omega)).mono ?_
        rintro e w1 ⟨⟨s, rfl⟩, hb1⟩
        have hS1 := (hS.drewN nq).below hb1
        have ho1 : OwnSmp w1 (g + 1) _ l := Own.below (Own.below hown (below_drewN (Below.refl _ _) nq)) hb1
        clear hown hS hb1
        go_wp2_with fail
        refine (next79 g A n c _ _ (by omega) (by omega) hn hS1.1 hS1.2.1).mono ?_
        intro e w2 hp
        have hS2 := hS1.next hp
        have ho2 : OwnSmp w2 (g + 1) _ l := Own.only ho1 hp.2.2 (by omega)
        obtain ⟨⟨v1, rfl, hv1, hv1'⟩, _, _⟩ := hp
        clear ho1 hS1
        go_wp2_with fail
        refine (next79 g A n c _ _ (by omega) (by omega) hn hS2.1 hS2.2.1).mono ?_
        intro e w3 hp
        have hS3 := hS2.next hp
        have ho3 : OwnSmp w3 (g + 1) _ l := Own.only ho2 hp.2.2 (by omega)
        obtain ⟨⟨v2, rfl, hv2, hv2'⟩, _, _⟩ := hp
        clear ho2 hS2
        have hx : SI w g A n c (.slice A' l.length cp) l w3.heap.size #[.string s, .string ⟨#[97, 112, 112]⟩, .int .i64 (l.length + 1), .int .i64 l.length, .int .i64 (1 + v1), .int .i64 (1 + v2)] (w3.alloc (.cells #[.string s, .string ⟨#[97, 112, 112]⟩, .int .i64 (l.length + 1), .int .i64 l.length, .int .i64 (1 + v1), .int .i64 (1 + v2)] 32)) :=
          ⟨hS3.below ((Below.refl _ _).alloc (Nat.le_refl _) _), Own.below ho3 ((Below.refl _ _).alloc (Nat.le_refl _) _), heap_alloc_new w3 _, hS3.1.lt, fun he => by have := World.ownsRow.lt ho3 _ he; omega⟩
        obtain ⟨x, hxe⟩ : ∃ x, x = w3.heap.size := ⟨_, rfl⟩
        rw [← hxe] at hx
        clear ho3 hS3
        go_wp2_with fail
        rw [← hxe]
        clear hxe
        generalize w3.alloc (.cells #[.string s, .string ⟨#[97, 112, 112]⟩, .int .i64 (l.length + 1), .int .i64 l.length, .int .i64 (1 + v1), .int .i64 (1 + v2)] 32) = wx at hx ⊢
        have hwr : IntKind.i64.wrap (cap + 1) = cap + 1 := IntWalk.i64_in _ (by omega)
        have hne : ¬ cap + 1 = 0 := by omega
        have hne2 : ¬ cap = -1 := by omega
        go_region_held3 (fun w' => w'.cell? ⟨x, 0, none⟩ = some (.string s) ∧ w'.cell? ⟨x, 1, none⟩ = some (.string ⟨#[97, 112, 112]⟩) ∧ w'.cell? ⟨x, 2, none⟩ = some (.int .i64 (l.length + 1)) ∧ w'.cell? ⟨x, 3, none⟩ = some (.int .i64 l.length) ∧ w'.cell? ⟨x, 4, none⟩ = some (.int .i64 (1 + v1)) ∧ w'.cell? ⟨x, 5, none⟩ = some (.int .i64 (1 + v2)))
          (first
            | exact ⟨cell_of_block hx4 0, cell_of_block hx4 1, cell_of_block hx4 2, cell_of_block hx4 3, cell_of_block hx4 4, cell_of_block hx4 5⟩
            | exact ⟨cell_of_block (hx'.alloc _).blk 0, cell_of_block (hx'.alloc _).blk 1, cell_of_block (hx'.alloc _).blk 2, cell_of_block (hx'.alloc _).blk 3, cell_of_block (hx'.alloc _).blk 4, cell_of_block (hx'.alloc _).blk 5⟩
            | exact ⟨cell_of_block hx'.blk 0, cell_of_block hx'.blk 1, cell_of_block hx'.blk 2, cell_of_block hx'.blk 3, cell_of_block hx'.blk 4, cell_of_block hx'.blk 5⟩
            | exact ⟨cell_of_block hx.drew.blk 0, cell_of_block hx.drew.blk 1, cell_of_block hx.drew.blk 2, cell_of_block hx.drew.blk 3, cell_of_block hx.drew.blk 4, cell_of_block hx.drew.blk 5⟩)
          (first
            | (go_at_call_of 79 (Value.int IntKind.i64 256); refine (SI.next_calls (x := x) (l := l) (w0 := w) (v := .slice A' l.length cp) (xs := #[.string s, .string ⟨#[97, 112, 112]⟩, .int .i64 (l.length + 1), .int .i64 l.length, .int .i64 (1 + v1), .int .i64 (1 + v2)]) (A := A) (n := n) (c := c) ?_ (by omega) (by omega) hn).mono ?_; (first | exact hx' | exact hx.drew); rintro e w' ⟨⟨va, rfl, hva, hva'⟩, hx'⟩)
            | (go_at_call_of 79 (Value.int IntKind.i64 9); refine (SI.next_calls (x := x) (l := l) (w0 := w) (v := .slice A' l.length cp) (xs := #[.string s, .string ⟨#[97, 112, 112]⟩, .int .i64 (l.length + 1), .int .i64 l.length, .int .i64 (1 + v1), .int .i64 (1 + v2)]) (A := A) (n := n) (c := c) ?_ (by omega) (by omega) hn).mono ?_; (first | exact hx' | exact hx.drew); rintro e w' ⟨⟨vb, rfl, hvb, hvb'⟩, hx'⟩)
            | (go_at_call_of 79 (Value.int IntKind.i64 5); refine (SI.next_calls (x := x) (l := l) (w0 := w) (v := .slice A' l.length cp) (xs := #[.string s, .string ⟨#[97, 112, 112]⟩, .int .i64 (l.length + 1), .int .i64 l.length, .int .i64 (1 + v1), .int .i64 (1 + v2)]) (A := A) (n := n) (c := c) ?_ (by omega) (by omega) hn).mono ?_; (first | exact hx' | exact hx.drew); rintro e w' ⟨⟨vc, rfl, hvc, hvc'⟩, hx'⟩)
            | (refine step_append_lies _ (by rfl) (.tmp 33) (.tmp 45) 25 (by rfl) (g + 1) 34 i0 _ 10 96 Try.underlying25 hi hz0 hz1 hz2 rfl (by omega) _ _ _ (by rfl) (World.ownsRow.alloc hx'.own _) ⟨w'.heap.size, 0, none⟩ 1 1 _ (by rfl) (by rfl) (World.news_of_block (heap_alloc_new w' _)) (by simp [Value.oneCell']) (by omega) (by unfold maxLen; omega) (by omega) (by have := hx'.src.1.lt; simp; omega) (w'.heap.size + 1) (by simp) ?_; intro g' cap' w4 hown4 hgrow hat hlt4; have hx4 : w4.heap[x]? = some (.cells #[.string s, .string ⟨#[97, 112, 112]⟩, .int .i64 (l.length + 1), .int .i64 l.length, .int .i64 (1 + v1), .int .i64 (1 + v2)] 32 (0, 0)) := (hgrow.block x (Nat.lt_succ_of_lt (Array.getElem?_eq_some_iff.1 hx'.blk).1 |> fun h => by simpa using h) (fun he => hx'.far he.symm)).trans (hx'.alloc _).blk; have hS4 : Src w g A n c w4 := (hx'.alloc _).src.other hgrow (fun k hk => by have := World.ownsRow.lt hx'.own k hk; omega)))
        go_wp2_with fail
        go_roundg (40 - (l.length + 1))
        case measure => have := HM.out; omega
        case rel =>
          have ho4 : OwnSmp w4 (g + 1) _ (l ++ [⟨s, ⟨#[97, 112, 112]⟩, l.length + 1, l.length, 1 + v1, 1 + v2, va.tmod (cap + 1), vb, vc, false⟩]) := Own.snoc hown4
          refine ⟨_, by simp, by simp; omega, ?_, ho4, hS4⟩
          intro s hs
          rw [List.mem_append] at hs
          rcases hs with hs | hs
          · exact hgood s hs
          · simp only [List.mem_singleton] at hs
            subst hs
            refine ⟨by dsimp only; omega, by dsimp only; omega, Int.tmod_nonneg _ hva, ?_, by dsimp only; omega, by dsimp only; omega⟩
            have := Int.tmod_lt_of_pos va (show 0 < cap + 1 by omega)
            dsimp only
            omega
      · have hlt' : decide (l.length < 40) = false := by simpa using hlt
        go_wp2_with fail
        go_ret
        exact fin _ _ (Own.below hown (below_drewN (Below.refl _ _) nq)) (hS.drewN nq)
end Go.Proofs.Ytgonighpjpfmnaa
