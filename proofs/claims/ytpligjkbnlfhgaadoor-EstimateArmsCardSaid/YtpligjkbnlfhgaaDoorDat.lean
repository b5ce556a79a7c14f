/- Made samples: the source of numbers, the ids, Samples. No statement is proved here. -/
import Derived.Test.YtpligjkbnlfhgaaDoorEstimateCovariances
import Derived.Test.YtpligjkbnlfhgaaDoorRow
import Derived.Deep.RegionHeld3
namespace Go.Proofs.YtpligjkbnlfhgaaDoor
open Go.RowKit

/-- A sample, as its ten cells. -/
structure Smp where
  id : ByteArray
  client : ByteArray
  seq : Int
  time : Int
  arm : Int
  version : Int
  value : Int
  below : Int
  before : Int
  mixed : Bool

def Smp.cells (s : Smp) : List Value := [.string s.id, .string s.client, .int .i64 s.seq, .int .i64 s.time, .int .i64 s.arm, .int .i64 s.version, .int .i64 s.value, .int .i64 s.below, .int .i64 s.before, .bool s.mixed]


/-- Bytes behind a slice's address. -/
def BytesAt (w : World) (B : Nat) (A : Option Addr) (n : Nat) : Prop := ∃ z : Nat → Int, (∀ i, i < n → 0 ≤ z i ∧ z i ≤ 255) ∧ RowsAt w B 1 A n (fun i => [.int .u8 (z i)])

/-- Block g is a Source: the slice and the place. -/
def SrcAt (w : World) (g : Nat) (A : Option Addr) (n c : Nat) : Prop := ∃ k : Nat, k ≤ n ∧ w.heap[g]? = some (.cells #[.slice A n c, .int .i64 k] 119 (0, 0))

theorem only_drew {a w : World} {row : Option Nat} (h : a.grownBy w row) : a.grownBy w.drew row := ⟨h.os, h.tape, h.output, h.size, h.block⟩
theorem more77 (g : Nat) (A : Option Addr) (n c : Nat) (w : World) (_hn : n ≤ 9223372036854775807) (hg : SrcAt w g A n c) :
    Calls Tryd.prog 91 #[.pointer (some ⟨g, 0, none⟩)] w fun e w' => (∃ b, e = .returned (.bool b)) ∧ ∃ m, w' = w.drewN m := by
  obtain ⟨k, hk, hg⟩ := hg
  have c0 := cell_of_block hg 0
  have c1 := cell_of_block hg 1
  simp only [List.getElem?_toArray, List.getElem?_cons_zero, List.getElem?_cons_succ] at c0 c1
  clear hg
  go_enter Tryd.func91, Tryd.ntmps91
  go_wp2_with fail
  go_quiet (fail)
  go_wp2_with fail
  go_ret
  exact ⟨⟨_, rfl⟩, ⟨_, rfl⟩⟩

def NextPost (w : World) (g : Nat) (A : Option Addr) (n c : Nat) (m : Int) (e : Ending) (w' : World) : Prop := (∃ v, e = .returned (.int .i64 v) ∧ 0 ≤ v ∧ v < m) ∧ SrcAt w' g A n c ∧ w.grownBy w' (some g)

theorem next79 (g : Nat) (A : Option Addr) (n c : Nat) (m : Int) (w : World) (hm : 1 ≤ m) (hm2 : m ≤ 256) (hn : n ≤ 9223372036854775807) (hg : SrcAt w g A n c) (hL : BytesAt w g A n) :
    Calls Tryd.prog 93 #[.pointer (some ⟨g, 0, none⟩), .int .i64 m] w (NextPost w g A n c m) := by
  obtain ⟨k, hk, hg⟩ := hg
  have c0 := cell_of_block hg 0
  have c1 := cell_of_block hg 1
  simp only [List.getElem?_toArray, List.getElem?_cons_zero, List.getElem?_cons_succ] at c0 c1
  have f1 := free_of_block hg 1
  have Hg := Lib.hid hg
  clear hg
  by_cases hkn : k < n
  · obtain ⟨z, hz, hR⟩ := hL
    obtain ⟨b, off, rfl, hb, hc⟩ := hR (by omega)
    have hzk := hz k hkn
    have hck := hc k hkn 0 _ rfl
    simp only [Nat.mul_one, Nat.add_zero] at hck
    clear hz hc hR
    go_enter Tryd.func93, Tryd.ntmps93
    go_wp2_with fail
    go_quiet (fail)
    go_wp2_with fail
    go_quiet (fail)
    go_wp2_with fail
    go_ret
    refine ⟨⟨z k % m, rfl, Int.emod_nonneg _ (by omega), Int.emod_lt_of_pos _ (by omega)⟩, ⟨k + 1, by omega, ?_⟩, only_drewN (only_setCell (only_drewN (only_refl _ _) _) (.inl rfl) _) _⟩
    exact block_set Hg.out 1 _
  · go_enter Tryd.func93, Tryd.ntmps93
    go_wp2_with fail
    go_quiet (fail)
    go_wp2_with fail
    go_ret
    exact ⟨⟨0, rfl, by omega, by omega⟩, ⟨k, hk, Hg.out⟩, only_drewN (only_refl _ _) _⟩

theorem ids97 (w : World) : Calls Tryd.prog 132 #[] w fun e w' => (∃ a, e = .returned a) ∧ Below w.heap.size w w' := by
  go_enter Tryd.func132, Tryd.ntmps132
  go_wp2
  go_ret
  exact ⟨⟨_, rfl⟩, (Below.refl _ _).alloc (Nat.le_refl _) _⟩

set_option maxHeartbeats 1000000 in
theorem id78 (n : Nat) (w : World) (hn : n ≤ 1000) : Calls Tryd.prog 92 #[.int .i64 n] w fun e w' => (∃ s, e = .returned (.string s)) ∧ Below w.heap.size w w' := by
  have h6 : (n : Int) % 6 = 0 ∨ (n : Int) % 6 = 1 ∨ (n : Int) % 6 = 2 ∨ (n : Int) % 6 = 3 ∨ (n : Int) % 6 = 4 ∨ (n : Int) % 6 = 5 := by omega
  rcases h6 with h | h | h | h | h | h
  all_goals
    go_enter Tryd.func92, Tryd.ntmps92
    go_wp2
    go_ret
    exact ⟨⟨_, rfl⟩, ((Below.refl _ _).alloc (Nat.le_refl _) _).alloc (by simp) _⟩
theorem SrcAt.below {w w' : World} {g : Nat} {A : Option Addr} {n c : Nat} (h : SrcAt w g A n c) (hb : Below w.heap.size w w') : SrcAt w' g A n c := by
  obtain ⟨k, hk, hg⟩ := h
  exact ⟨k, hk, by rw [hb.block g (Array.getElem?_eq_some_iff.1 hg).1]; exact hg⟩

theorem SrcAt.other {w w' : World} {g : Nat} {A : Option Addr} {n c : Nat} {row : Option Nat} (h : SrcAt w g A n c) (hb : w.grownBy w' row) (hne : some g ≠ row) : SrcAt w' g A n c := by
  obtain ⟨k, hk, hg⟩ := h
  exact ⟨k, hk, by rw [hb.block g (Array.getElem?_eq_some_iff.1 hg).1 hne]; exact hg⟩
theorem SrcAt.lt {w : World} {g : Nat} {A : Option Addr} {n c : Nat} (h : SrcAt w g A n c) : g < w.heap.size := by
  obtain ⟨k, hk, hg⟩ := h
  exact (Array.getElem?_eq_some_iff.1 hg).1

theorem BytesAt.kept {w w' : World} {B B' : Nat} {A : Option Addr} {n : Nat} (h : BytesAt w B A n) (hb : Below B' w w') (hB : B ≤ B') : BytesAt w' B A n := by
  obtain ⟨z, hz, hR⟩ := h
  exact ⟨z, hz, hR.below hb hB⟩

theorem BytesAt.only {w w' : World} {g : Nat} {A : Option Addr} {n : Nat} (h : BytesAt w g A n) (hb : w.grownBy w' (some g)) (hg : g ≤ w.heap.size) : BytesAt w' g A n := by
  obtain ⟨z, hz, hR⟩ := h
  exact ⟨z, hz, hR.kept fun k hk => hb.block k (by omega) (fun he => by injection he with he; omega)⟩

/-- While data are made: the Source in block g, the bytes below it, and nothing else below it has turned. -/
def Src (w0 : World) (g : Nat) (A : Option Addr) (n c : Nat) (w : World) : Prop := SrcAt w g A n c ∧ BytesAt w g A n ∧ Below g w0 w
theorem Src.drewN {w0 : World} {g : Nat} {A : Option Addr} {n c : Nat} {w : World} (h : Src w0 g A n c w) (k : Nat) : Src w0 g A n c (w.drewN k) := ⟨h.1, h.2.1, below_drewN h.2.2 k⟩
theorem Src.next {w0 : World} {g : Nat} {A : Option Addr} {n c : Nat} {w w' : World} {m : Int} {e : Ending} (h : Src w0 g A n c w) (hp : NextPost w g A n c m e w') : Src w0 g A n c w' :=
  ⟨hp.2.1, h.2.1.only hp.2.2 (Nat.le_of_lt h.1.lt), h.2.2.grown hp.2.2 (Nat.le_of_lt h.1.lt) (fun k hk => by injection hk with hk; omega)⟩
theorem Src.below {w0 : World} {g : Nat} {A : Option Addr} {n c : Nat} {w w' : World} (h : Src w0 g A n c w) (hb : Below w.heap.size w w') : Src w0 g A n c w' :=
  ⟨h.1.below hb, h.2.1.kept hb (Nat.le_of_lt h.1.lt), h.2.2.trans (hb.mono (Nat.le_of_lt h.1.lt))⟩
theorem Src.other {w0 : World} {g : Nat} {A : Option Addr} {n c : Nat} {w w' : World} {row : Option Nat} (h : Src w0 g A n c w) (hb : w.grownBy w' row) (hr : ∀ k, row = some k → g < k) : Src w0 g A n c w' := by
  refine ⟨h.1.other hb (fun he => by have := hr g he.symm; omega), ?_, h.2.2.grown hb (Nat.le_of_lt h.1.lt) (fun k hk => Nat.le_of_lt (hr k hk))⟩
  obtain ⟨z, hz, hR⟩ := h.2.1
  exact ⟨z, hz, hR.kept fun k hk => hb.block k (by have := h.1.lt; omega) (fun he => by have := hr k he.symm; omega)⟩

instance : Inhabited Smp := ⟨⟨⟨#[]⟩, ⟨#[]⟩, 0, 0, 0, 0, 0, 0, 0, false⟩⟩
def OwnSmp := Own Smp.cells 125 10
theorem Smp.len (s : Smp) : s.cells.length = 10 := rfl
/-- A made sample: an arm, a version, a value up to the cap. -/
def Smp.made (cap : Int) (s : Smp) : Prop := (s.arm = 1 ∨ s.arm = 2) ∧ (s.version = 1 ∨ s.version = 2) ∧ 0 ≤ s.value ∧ s.value ≤ cap ∧ 0 ≤ s.before ∧ s.before ≤ 4

theorem info34 : (Tryd.prog.info? 125).map (fun i => (i.zero, i.size, i.bytes)) = some (some (.agg #[.string ⟨#[]⟩, .string ⟨#[]⟩, .int .i64 0, .int .i64 0, .int .i64 0, .int .i64 0, .int .i64 0, .int .i64 0, .int .i64 0, .bool false]), 10, 96) := by kernel_rfl

def SamplesPost (cap : Int) (w : World) (e : Ending) (w' : World) : Prop := ∃ v l, e = .returned v ∧ l.length ≤ 40 ∧ (∀ s ∈ l, Smp.made cap s) ∧ OwnSmp w' w.heap.size v l ∧ Below w.heap.size w w'

/-- What stays while the last statement of a round runs: the Source, the list, the exposure in block x. -/
structure SI (w0 : World) (g : Nat) (A : Option Addr) (n c : Nat) (v : Value) (l : List Smp) (x : Nat) (xs : Array Value) (w : World) : Prop where
  src : Src w0 g A n c w
  own : OwnSmp w (g + 1) v l
  blk : w.heap[x]? = some (.cells xs 123 (0, 0))
  gx : g < x
  far : v.ownBlock ≠ some x

theorem SI.drew {w0 : World} {g : Nat} {A : Option Addr} {n c : Nat} {v : Value} {l : List Smp} {x : Nat} {xs : Array Value} {w : World} (h : SI w0 g A n c v l x xs w) : SI w0 g A n c v l x xs w.drew :=
  ⟨h.src.drewN 1, Own.below h.own (below_drewN (Below.refl _ _) 1), h.blk, h.gx, h.far⟩
theorem SI.next {w0 : World} {g : Nat} {A : Option Addr} {n c : Nat} {v : Value} {l : List Smp} {x : Nat} {xs : Array Value} {w w' : World} {m : Int} {e : Ending} (h : SI w0 g A n c v l x xs w) (hp : NextPost w g A n c m e w') : SI w0 g A n c v l x xs w' :=
  ⟨h.src.next hp, Own.only h.own hp.2.2 (by omega), by rw [hp.2.2.block x (Array.getElem?_eq_some_iff.1 h.blk).1 (fun he => by injection he with he; have := h.gx; omega)]; exact h.blk, h.gx, h.far⟩
theorem SI.below {w0 : World} {g : Nat} {A : Option Addr} {n c : Nat} {v : Value} {l : List Smp} {x : Nat} {xs : Array Value} {w w' : World} (h : SI w0 g A n c v l x xs w) (hb : Below w.heap.size w w') : SI w0 g A n c v l x xs w' :=
  ⟨h.src.below hb, Own.below h.own hb, by rw [hb.block x (Array.getElem?_eq_some_iff.1 h.blk).1]; exact h.blk, h.gx, h.far⟩
theorem SI.alloc {w0 : World} {g : Nat} {A : Option Addr} {n c : Nat} {v : Value} {l : List Smp} {x : Nat} {xs : Array Value} {w : World} (h : SI w0 g A n c v l x xs w) (o : Obj) : SI w0 g A n c v l x xs (w.alloc o) := h.below ((Below.refl _ _).alloc (Nat.le_refl _) _)
theorem SI.next_calls {w0 : World} {g : Nat} {A : Option Addr} {n c : Nat} {v : Value} {l : List Smp} {x : Nat} {xs : Array Value} {w : World} {m : Int} (h : SI w0 g A n c v l x xs w) (hm : 1 ≤ m) (hm2 : m ≤ 256) (hn : n ≤ 9223372036854775807) :
    Calls Tryd.prog 93 #[.pointer (some ⟨g, 0, none⟩), .int .i64 m] w fun e w' => (∃ v, e = .returned (.int .i64 v) ∧ 0 ≤ v ∧ v < m) ∧ SI w0 g A n c v l x xs w' :=
  (next79 g A n c m w hm hm2 hn h.src.1 h.src.2.1).mono fun _ _ hp => ⟨hp.1, h.next hp⟩

set_option maxRecDepth 100000 in
set_option maxHeartbeats 2000000 in
theorem samples31 (A : Option Addr) (n c : Nat) (cap : Int) (w : World) (hn : n ≤ 9223372036854775807) (hc0 : 0 ≤ cap) (hc1 : cap ≤ 65535) (hL : BytesAt w w.heap.size A n) :
    Calls Tryd.prog 38 #[.slice A n c, .int .i64 cap] w (SamplesPost cap w) := by
  obtain ⟨i0, hi, hz0, hz1, hz2⟩ := info_parts info34
  obtain ⟨g, hg⟩ : ∃ g, g = w.heap.size := ⟨_, rfl⟩
  have hb0 : Below g w (w.alloc (.cells #[.slice A n c, .int .i64 0] 119)) := by rw [hg]; exact (Below.refl _ _).alloc (Nat.le_refl _) _
  have Hg := Lib.hid hg
  have hS0 : Src w g A n c (w.alloc (.cells #[.slice A n c, .int .i64 0] 119)) := ⟨⟨0, Nat.zero_le _, by rw [hg]; exact heap_alloc_new w _⟩, by have := Hg.out; subst this; exact hL.kept hb0 (Nat.le_refl _), hb0⟩
  go_enter Tryd.func38, Tryd.ntmps38
  go_wp2_with fail
  rw [← hg]
  clear hg hb0
  go_loopg [6] 40 (fun m v wr => ∃ l : List Smp, m = 40 - l.length ∧ l.length ≤ 40 ∧ (∀ s ∈ l, Smp.made cap s) ∧ OwnSmp wr (g + 1) v l ∧ Src w g A n c wr)
  case atStart => exact ⟨[], rfl, by simp, by simp, Own.nil _ _ _ _ _, hS0⟩
  case round =>
    clear hS0
    obtain ⟨l, hm, hl, hgood, hown, hS⟩ := hrel
    have fin : ∀ w' v, OwnSmp w' (g + 1) v l → Src w g A n c w' → SamplesPost cap w (.returned v) w' := fun w' v ho hs => by
      have hg := Hg.out; subst hg
      exact ⟨v, l, rfl, hl, hgood, Own.mono ho (by omega), hs.2.2⟩
    obtain ⟨A', cp, rfl, hcap⟩ := Own.shape hown
    have HM := Lib.hid hm
    clear hm
    go_wp2_with fail
    refine (more77 g A n c _ hn hS.1).mono ?_
    rintro e w' ⟨⟨b, rfl⟩, nq, rfl⟩
    cases b
    · go_wp2_with fail
      go_ret
      exact fin _ _ (Own.below hown (below_drewN (Below.refl _ _) nq)) (hS.drewN nq)
    · by_cases hlt : l.length < 40
      · have hlt' : decide (l.length < 40) = true := by simpa using hlt
        go_wp2_with fail
        refine (id78 _ _ (by omega)).mono ?_
        rintro e w1 ⟨⟨s, rfl⟩, hb1⟩
        have hS1 := (hS.drewN nq).below hb1
        have ho1 : OwnSmp w1 (g + 1) _ l := Own.below (Own.below hown (below_drewN (Below.refl _ _) nq)) hb1
        clear hown hS hb1
        go_wp2_with fail
        refine (next79 g A n c _ _ (by omega) (by omega) hn hS1.1 hS1.2.1).mono ?_
        intro e w2 hp
        have hS2 := hS1.next hp
        have ho2 : OwnSmp w2 (g + 1) _ l := Own.only ho1 hp.2.2 (by omega)
        obtain ⟨⟨v1, rfl, hv1, hv1'⟩, _, _⟩ := hp
        clear ho1 hS1
        go_wp2_with fail
        refine (next79 g A n c _ _ (by omega) (by omega) hn hS2.1 hS2.2.1).mono ?_
        intro e w3 hp
        have hS3 := hS2.next hp
        have ho3 : OwnSmp w3 (g + 1) _ l := Own.only ho2 hp.2.2 (by omega)
        obtain ⟨⟨v2, rfl, hv2, hv2'⟩, _, _⟩ := hp
        clear ho2 hS2
        have hx : SI w g A n c (.slice A' l.length cp) l w3.heap.size #[.string s, .string ⟨#[97, 112, 112]⟩, .int .i64 (l.length + 1), .int .i64 l.length, .int .i64 (1 + v1), .int .i64 (1 + v2)] (w3.alloc (.cells #[.string s, .string ⟨#[97, 112, 112]⟩, .int .i64 (l.length + 1), .int .i64 l.length, .int .i64 (1 + v1), .int .i64 (1 + v2)] 123)) :=
          ⟨hS3.below ((Below.refl _ _).alloc (Nat.le_refl _) _), Own.below ho3 ((Below.refl _ _).alloc (Nat.le_refl _) _), heap_alloc_new w3 _, hS3.1.lt, fun he => by have := World.ownsRow.lt ho3 _ he; omega⟩
        obtain ⟨x, hxe⟩ : ∃ x, x = w3.heap.size := ⟨_, rfl⟩
        rw [← hxe] at hx
        clear ho3 hS3
        go_wp2_with fail
        rw [← hxe]
        clear hxe
        generalize w3.alloc (.cells #[.string s, .string ⟨#[97, 112, 112]⟩, .int .i64 (l.length + 1), .int .i64 l.length, .int .i64 (1 + v1), .int .i64 (1 + v2)] 123) = wx at hx ⊢
        have hwr : IntKind.i64.wrap (cap + 1) = cap + 1 := IntWalk.i64_in _ (by omega)
        have hne : ¬ cap + 1 = 0 := by omega
        have hne2 : ¬ cap = -1 := by omega
        go_region_held3 (fun w' => w'.cell? ⟨x, 0, none⟩ = some (.string s) ∧ w'.cell? ⟨x, 1, none⟩ = some (.string ⟨#[97, 112, 112]⟩) ∧ w'.cell? ⟨x, 2, none⟩ = some (.int .i64 (l.length + 1)) ∧ w'.cell? ⟨x, 3, none⟩ = some (.int .i64 l.length) ∧ w'.cell? ⟨x, 4, none⟩ = some (.int .i64 (1 + v1)) ∧ w'.cell? ⟨x, 5, none⟩ = some (.int .i64 (1 + v2)))
          (first
            | exact ⟨cell_of_block hx4 0, cell_of_block hx4 1, cell_of_block hx4 2, cell_of_block hx4 3, cell_of_block hx4 4, cell_of_block hx4 5⟩
            | exact ⟨cell_of_block (hx'.alloc _).blk 0, cell_of_block (hx'.alloc _).blk 1, cell_of_block (hx'.alloc _).blk 2, cell_of_block (hx'.alloc _).blk 3, cell_of_block (hx'.alloc _).blk 4, cell_of_block (hx'.alloc _).blk 5⟩
            | exact ⟨cell_of_block hx'.blk 0, cell_of_block hx'.blk 1, cell_of_block hx'.blk 2, cell_of_block hx'.blk 3, cell_of_block hx'.blk 4, cell_of_block hx'.blk 5⟩
            | exact ⟨cell_of_block hx.drew.blk 0, cell_of_block hx.drew.blk 1, cell_of_block hx.drew.blk 2, cell_of_block hx.drew.blk 3, cell_of_block hx.drew.blk 4, cell_of_block hx.drew.blk 5⟩)
          (first
            | (go_at_call_of 93 (Value.int IntKind.i64 256); refine (SI.next_calls (x := x) (l := l) (w0 := w) (v := .slice A' l.length cp) (xs := #[.string s, .string ⟨#[97, 112, 112]⟩, .int .i64 (l.length + 1), .int .i64 l.length, .int .i64 (1 + v1), .int .i64 (1 + v2)]) (A := A) (n := n) (c := c) ?_ (by omega) (by omega) hn).mono ?_; (first | exact hx' | exact hx.drew); rintro e w' ⟨⟨va, rfl, hva, hva'⟩, hx'⟩)
            | (go_at_call_of 93 (Value.int IntKind.i64 9); refine (SI.next_calls (x := x) (l := l) (w0 := w) (v := .slice A' l.length cp) (xs := #[.string s, .string ⟨#[97, 112, 112]⟩, .int .i64 (l.length + 1), .int .i64 l.length, .int .i64 (1 + v1), .int .i64 (1 + v2)]) (A := A) (n := n) (c := c) ?_ (by omega) (by omega) hn).mono ?_; (first | exact hx' | exact hx.drew); rintro e w' ⟨⟨vb, rfl, hvb, hvb'⟩, hx'⟩)
            | (go_at_call_of 93 (Value.int IntKind.i64 5); refine (SI.next_calls (x := x) (l := l) (w0 := w) (v := .slice A' l.length cp) (xs := #[.string s, .string ⟨#[97, 112, 112]⟩, .int .i64 (l.length + 1), .int .i64 l.length, .int .i64 (1 + v1), .int .i64 (1 + v2)]) (A := A) (n := n) (c := c) ?_ (by omega) (by omega) hn).mono ?_; (first | exact hx' | exact hx.drew); rintro e w' ⟨⟨vc, rfl, hvc, hvc'⟩, hx'⟩)
            | (refine step_append_lies _ (by rfl) (.tmp 33) (.tmp 45) 52 (by rfl) (g + 1) 125 i0 _ 10 96 Tryd.underlying52 hi hz0 hz1 hz2 rfl (by omega) _ _ _ (by rfl) (World.ownsRow.alloc hx'.own _) ⟨w'.heap.size, 0, none⟩ 1 1 _ (by rfl) (by rfl) (World.news_of_block (heap_alloc_new w' _)) (by simp [Value.oneCell']) (by omega) (by unfold maxLen; omega) (by omega) (by have := hx'.src.1.lt; simp; omega) (w'.heap.size + 1) (by simp) ?_; intro g' cap' w4 hown4 hgrow hat hlt4; have hx4 : w4.heap[x]? = some (.cells #[.string s, .string ⟨#[97, 112, 112]⟩, .int .i64 (l.length + 1), .int .i64 l.length, .int .i64 (1 + v1), .int .i64 (1 + v2)] 123 (0, 0)) := (hgrow.block x (Nat.lt_succ_of_lt (Array.getElem?_eq_some_iff.1 hx'.blk).1 |> fun h => by simpa using h) (fun he => hx'.far he.symm)).trans (hx'.alloc _).blk; have hS4 : Src w g A n c w4 := (hx'.alloc _).src.other hgrow (fun k hk => by have := World.ownsRow.lt hx'.own k hk; omega)))
        go_wp2_with fail
        go_roundg (40 - (l.length + 1))
        case measure => have := HM.out; omega
        case rel =>
          have ho4 : OwnSmp w4 (g + 1) _ (l ++ [⟨s, ⟨#[97, 112, 112]⟩, l.length + 1, l.length, 1 + v1, 1 + v2, va.tmod (cap + 1), vb, vc, false⟩]) := Own.snoc hown4
          refine ⟨_, by simp, by simp; omega, ?_, ho4, hS4⟩
          intro s hs
          rw [List.mem_append] at hs
          rcases hs with hs | hs
          · exact hgood s hs
          · simp only [List.mem_singleton] at hs
            subst hs
            refine ⟨by dsimp only; omega, by dsimp only; omega, Int.tmod_nonneg _ hva, ?_, by dsimp only; omega, by dsimp only; omega⟩
            have := Int.tmod_lt_of_pos va (show 0 < cap + 1 by omega)
            dsimp only
            omega
      · have hlt' : decide (l.length < 40) = false := by simpa using hlt
        go_wp2_with fail
        go_ret
        exact fin _ _ (Own.below hown (below_drewN (Below.refl _ _) nq)) (hS.drewN nq)
end Go.Proofs.YtpligjkbnlfhgaaDoor
