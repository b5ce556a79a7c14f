/- Long numbers: the program's sums. -/
import Derived.Test.YtpligjkbnlfhgaaDoorNatC
import Derived.OwnWalk
namespace Go.Proofs.YtpligjkbnlfhgaaDoor
open Go.RowKit

/-- A digit as an Int letter. -/
theorem letter (x : Nat) : ∃ X : Int, X = (x : Int) := ⟨_, rfl⟩
theorem below_of_grown {a b c : World} {H : Nat} {row : Option Nat} (h : Below H a b) (hs : H ≤ b.heap.size) (hg : b.grownBy c row) (hr : ∀ q, row = some q → H ≤ q) : Below H a c := h.grown hg hs hr

set_option maxRecDepth 100000 in
set_option maxHeartbeats 2000000 in
theorem addNat_ge (A1 A2 : Option Addr) (n m c1 c2 : Nat) (f g : Nat → Nat) (w : World) (hn : n ≤ 1048576) (hm : m ≤ 1048576) (h1 : RdD w A1 n f) (h2 : RdD w A2 m g) (hd1 : ∀ i, i < n → f i < 1000000000) (hd2 : ∀ i, i < m → g i < 1000000000) (hle : m ≤ n) :
    Calls Tryd.prog 63 #[.slice A1 n c1, .slice A2 m c2] w fun e w' => ∃ v, e = .returned v ∧ NatV 1000000000 w' v (nv 1000000000 f n + nv 1000000000 g m) ∧ Below w.heap.size w w' := by
  obtain ⟨i0, hi, hz0, hz1, hz2⟩ := info_parts infoU
  have HD1 := Lib.hid hd1
  have HD2 := Lib.hid hd2
  clear hd1 hd2
  have dlt : decide (n < m) = false := by simp; omega
  go_enter Tryd.func63, Tryd.ntmps63
  go_wp2_with (at_make; refine wpList_make_own _ rfl _ _ 80 rfl w.heap.size 90 i0 (.int .u32 0) 1 Tryd.underlying80 hi hz0 hz1 .i64 .i64 _ (n + 1) rfl rfl (by first | rfl | omega) (by rw [hz2]; omega) (by unfold maxLen; omega) (Nat.le_refl _) ?_; intro w0 hown0 hgrow0)
  have hb0 : Below w.heap.size w w0 := (Below.refl _ _).grown hgrow0 (Nat.le_refl _) (fun q hq => by cases hq)
  have ho0 : OwnD 90 w0 w.heap.size (.slice (some ⟨w.heap.size, 0, none⟩) 0 (n + 1)) [] := hown0
  clear hown0 hgrow0 dlt
  go_wp2_with fail
  go_loopg [22, 5, 6, 7, 8] n (fun r i v cc _ _ wr => ∃ (k c : Nat) (C : Int) (L : List Nat), k ≤ n ∧ r = n - k ∧ i = .int .i64 k ∧ cc = .int .u32 C ∧ C = c ∧ L.length = k ∧ OwnD 90 wr w.heap.size v L ∧ AddI 1000000000 f (ext g m) (dl L) k c ∧ Below w.heap.size w wr)
  case atStart => exact ⟨0, 0, 0, [], Nat.zero_le _, rfl, rfl, rfl, rfl, rfl, ho0, AddI.zero, hb0⟩
  case round =>
    clear ho0 hb0
    obtain ⟨k, c, C, L, hk, hr, rfl, rfl, hC, hL, hown, hI, hb⟩ := hrel
    have hc1 := hI.c1
    have hCb : 0 ≤ C ∧ C ≤ 1 := by omega
    have HR := Lib.hid hr
    have HC := Lib.hid hC
    have HL := Lib.hid hL
    clear hr hC
    have hLk : L.length ≤ 1048576 := by omega
    have hHw : w.heap.size ≤ wr.heap.size := hb.size
    clear hL
    obtain ⟨A, cap, rfl, hcap, _⟩ := hown.shape
    by_cases hkn : k < n
    · have hx := HD1.out k
      have hy := HD2.out k
      obtain ⟨b1, o1, rfl, hb1, hcell1⟩ := h1 (by omega)
      have x0 := hcell1 k (by omega)
      replace x0 : wr.cell? ⟨b1, o1 + k, none⟩ = some (u32V (f k)) := by rw [← x0]; exact hb.cell (p := ⟨b1, o1 + k, none⟩) hb1
      have hxb : f k < 1000000000 := by first | exact hx (by omega) | exact hy (by omega)
      obtain ⟨F, hF⟩ := letter (f k)
      have hFb : 0 ≤ F ∧ F < 1000000000 := by omega
      unfold u32V at x0
      rw [← hF] at x0
      have HF := Lib.hid hF
      have hlt : b1 < wr.heap.size := by omega
      clear hcell1 hx hy hF
      by_cases hkm : k < m
      · obtain ⟨b2, o2, rfl, hb2, hcell2⟩ := h2 (by omega)
        have y0 := hcell2 k (by omega)
        replace y0 : wr.cell? ⟨b2, o2 + k, none⟩ = some (u32V (g k)) := by rw [← y0]; exact hb.cell (p := ⟨b2, o2 + k, none⟩) hb2
        have hyb : g k < 1000000000 := by first | exact HD1.out k (by omega) | exact HD2.out k (by omega)
        have heg : ext g m k = g k := ext_lt hkm
        obtain ⟨G, hG⟩ := letter (g k)
        have hGb : 0 ≤ G ∧ G < 1000000000 := by omega
        unfold u32V at y0
        rw [← hG] at y0
        have hI2 := hI.step (by omega) hxb (by rw [heg]; exact hyb)
        rw [heg] at hI2
        have hlt2 : b2 < wr.heap.size := by omega
        have ed : (F + C + G) % 1000000000 = ((f k + g k + c) % 1000000000 : Nat) ∧ (F + C + G) / 1000000000 = ((f k + g k + c) / 1000000000 : Nat) := by have := HF.out; have := HC.out; omega
        have HE := Lib.hid ed
        clear hcell2 hG heg h1 h2 ed hxb hyb hI
        go_wp2_with (at_builtin; refine wpList_append_lies _ (by rfl) (.tmp 42) (.tmp 45) 80 (by rfl) w.heap.size 90 i0 _ 1 4 Tryd.underlying80 hi hz0 hz1 hz2 rfl (by omega) _ _ _ (by rfl) (World.ownsRow.alloc hown _) ⟨wr.heap.size, 0, none⟩ 1 1 [.int .u32 ((F + C + G) % 1000000000)] (by rfl) (by rfl) (World.news_of_block (heap_alloc_new wr _)) (by simp [Value.oneCell']) (by omega) (by unfold maxLen; omega) (by omega) (by simp; omega) (wr.heap.size + 1) (by simp) ?_; intro g' cap' w6 hown6 hgrow hat hlt6)
        rw [HE.out.1] at hown6
        have ho := OwnD.snoc (E := 90) hown6
        have hb6 : Below w.heap.size w w6 := (hb.alloc hb.size _).grown hgrow (by simp; omega) (fun q hq => (World.ownsRow.lt hown q hq).1)
        clear hown6 hgrow hat hown
        go_wp2_with fail
        go_roundg (n - (k + 1))
        case measure => have := HR.out; omega
        case rel => exact ⟨k + 1, _, _, L ++ [(f k + g k + c) % 1000000000], by omega, rfl, by go_num, rfl, HE.out.2, by simp [HL.out], by simpa using ho, by rw [dl_snoc, HL.out]; exact hI2, hb6⟩
      · have heg : ext g m k = 0 := ext_ge (by omega)
        have hI2 := hI.step (by omega) hxb (by rw [heg]; omega)
        rw [heg] at hI2
        have ed : (F + C) % 1000000000 = ((f k + 0 + c) % 1000000000 : Nat) ∧ (F + C) / 1000000000 = ((f k + 0 + c) / 1000000000 : Nat) := by have := HF.out; have := HC.out; omega
        have HE := Lib.hid ed
        clear heg h1 h2 ed hxb hI
        go_wp2_with (at_builtin; refine wpList_append_lies _ (by rfl) (.tmp 42) (.tmp 45) 80 (by rfl) w.heap.size 90 i0 _ 1 4 Tryd.underlying80 hi hz0 hz1 hz2 rfl (by omega) _ _ _ (by rfl) (World.ownsRow.alloc hown _) ⟨wr.heap.size, 0, none⟩ 1 1 [.int .u32 ((F + C) % 1000000000)] (by rfl) (by rfl) (World.news_of_block (heap_alloc_new wr _)) (by simp [Value.oneCell']) (by omega) (by unfold maxLen; omega) (by omega) (by simp; omega) (wr.heap.size + 1) (by simp) ?_; intro g' cap' w6 hown6 hgrow hat hlt6)
        rw [HE.out.1] at hown6
        have ho := OwnD.snoc (E := 90) hown6
        have hb6 : Below w.heap.size w w6 := (hb.alloc hb.size _).grown hgrow (by simp; omega) (fun q hq => (World.ownsRow.lt hown q hq).1)
        clear hown6 hgrow hat hown
        go_wp2_with fail
        go_roundg (n - (k + 1))
        case measure => have := HR.out; omega
        case rel => exact ⟨k + 1, _, _, L ++ [(f k + 0 + c) % 1000000000], by omega, rfl, by go_num, rfl, HE.out.2, by simp [HL.out], by simpa using ho, by rw [dl_snoc, HL.out]; exact hI2, hb6⟩
    · obtain rfl : k = n := by omega
      have hlast := hI.last (by omega)
      rw [nv_ext hle] at hlast
      have HLA := Lib.hid hlast
      clear hlast hI h1 h2
      go_wp2_with (at_builtin; refine wpList_append_lies _ (by rfl) (.tmp 48) (.tmp 50) 80 (by rfl) w.heap.size 90 i0 _ 1 4 Tryd.underlying80 hi hz0 hz1 hz2 rfl (by omega) _ _ _ (by rfl) (World.ownsRow.alloc hown _) ⟨wr.heap.size, 0, none⟩ 1 1 [.int .u32 C] (by rfl) (by rfl) (World.news_of_block (heap_alloc_new wr _)) (by simp [Value.oneCell']) (by omega) (by unfold maxLen; omega) (by omega) (by simp; omega) (wr.heap.size + 1) (by simp) ?_; intro g' cap' w6 hown6 hgrow hat hlt6)
      rw [HC.out] at hown6
      have ho := OwnD.snoc (E := 90) hown6
      have hb6 : Below w.heap.size w w6 := (hb.alloc hb.size _).grown hgrow (by simp; omega) (fun q hq => (World.ownsRow.lt hown q hq).1)
      clear hown6 hgrow hat hown
      obtain ⟨A', cap2, hsh, hcp, hcm⟩ := ho.shape
      injection hsh with _ _ hsh
      subst hsh
      have hrd := ho.rd.2
      rw [dl_snoc, HL.out, show (L ++ [c]).length = k + 1 by simp [HL.out]] at hrd
      have hcp' : k + 1 ≤ cap' := by have := HL.out; simp at hcp; omega
      rw [HL.out]
      refine (trim115 1000000000 (some ⟨g', 0, none⟩) (k + 1) cap' _ w6 hcp' hcm hrd HLA.out.2).mono ?_
      rintro e w7 ⟨v, rfl, hv, rfl⟩
      rw [HLA.out.1] at hv
      go_wp2_with fail
      go_ret
      exact ⟨_, rfl, hv, hb6⟩

set_option maxRecDepth 100000 in
set_option maxHeartbeats 2000000 in
theorem addNat_lt (A1 A2 : Option Addr) (n m c1 c2 : Nat) (f g : Nat → Nat) (w : World) (hn : n ≤ 1048576) (hm : m ≤ 1048576) (h1 : RdD w A1 n f) (h2 : RdD w A2 m g) (hd1 : ∀ i, i < n → f i < 1000000000) (hd2 : ∀ i, i < m → g i < 1000000000) (hle : n < m) :
    Calls Tryd.prog 63 #[.slice A1 n c1, .slice A2 m c2] w fun e w' => ∃ v, e = .returned v ∧ NatV 1000000000 w' v (nv 1000000000 g m + nv 1000000000 f n) ∧ Below w.heap.size w w' := by
  obtain ⟨i0, hi, hz0, hz1, hz2⟩ := info_parts infoU
  have HD1 := Lib.hid hd1
  have HD2 := Lib.hid hd2
  clear hd1 hd2
  have dlt : decide (n < m) = true := by simp; omega
  go_enter Tryd.func63, Tryd.ntmps63
  go_wp2_with (at_make; refine wpList_make_own _ rfl _ _ 80 rfl w.heap.size 90 i0 (.int .u32 0) 1 Tryd.underlying80 hi hz0 hz1 .i64 .i64 _ (m + 1) rfl rfl (by first | rfl | omega) (by rw [hz2]; omega) (by unfold maxLen; omega) (Nat.le_refl _) ?_; intro w0 hown0 hgrow0)
  have hb0 : Below w.heap.size w w0 := (Below.refl _ _).grown hgrow0 (Nat.le_refl _) (fun q hq => by cases hq)
  have ho0 : OwnD 90 w0 w.heap.size (.slice (some ⟨w.heap.size, 0, none⟩) 0 (m + 1)) [] := hown0
  clear hown0 hgrow0 dlt
  go_wp2_with fail
  go_loopg [22, 5, 6, 7, 8] m (fun r i v cc _ _ wr => ∃ (k c : Nat) (C : Int) (L : List Nat), k ≤ m ∧ r = m - k ∧ i = .int .i64 k ∧ cc = .int .u32 C ∧ C = c ∧ L.length = k ∧ OwnD 90 wr w.heap.size v L ∧ AddI 1000000000 g (ext f n) (dl L) k c ∧ Below w.heap.size w wr)
  case atStart => exact ⟨0, 0, 0, [], Nat.zero_le _, rfl, rfl, rfl, rfl, rfl, ho0, AddI.zero, hb0⟩
  case round =>
    clear ho0 hb0
    obtain ⟨k, c, C, L, hk, hr, rfl, rfl, hC, hL, hown, hI, hb⟩ := hrel
    have hc1 := hI.c1
    have hCb : 0 ≤ C ∧ C ≤ 1 := by omega
    have HR := Lib.hid hr
    have HC := Lib.hid hC
    have HL := Lib.hid hL
    clear hr hC
    have hLk : L.length ≤ 1048576 := by omega
    have hHw : w.heap.size ≤ wr.heap.size := hb.size
    clear hL
    obtain ⟨A, cap, rfl, hcap, _⟩ := hown.shape
    by_cases hkn : k < m
    · have hx := HD1.out k
      have hy := HD2.out k
      obtain ⟨b1, o1, rfl, hb1, hcell1⟩ := h2 (by omega)
      have x0 := hcell1 k (by omega)
      replace x0 : wr.cell? ⟨b1, o1 + k, none⟩ = some (u32V (g k)) := by rw [← x0]; exact hb.cell (p := ⟨b1, o1 + k, none⟩) hb1
      have hxb : g k < 1000000000 := by first | exact hx (by omega) | exact hy (by omega)
      obtain ⟨F, hF⟩ := letter (g k)
      have hFb : 0 ≤ F ∧ F < 1000000000 := by omega
      unfold u32V at x0
      rw [← hF] at x0
      have HF := Lib.hid hF
      have hlt : b1 < wr.heap.size := by omega
      clear hcell1 hx hy hF
      by_cases hkm : k < n
      · obtain ⟨b2, o2, rfl, hb2, hcell2⟩ := h1 (by omega)
        have y0 := hcell2 k (by omega)
        replace y0 : wr.cell? ⟨b2, o2 + k, none⟩ = some (u32V (f k)) := by rw [← y0]; exact hb.cell (p := ⟨b2, o2 + k, none⟩) hb2
        have hyb : f k < 1000000000 := by first | exact HD1.out k (by omega) | exact HD2.out k (by omega)
        have heg : ext f n k = f k := ext_lt hkm
        obtain ⟨G, hG⟩ := letter (f k)
        have hGb : 0 ≤ G ∧ G < 1000000000 := by omega
        unfold u32V at y0
        rw [← hG] at y0
        have hI2 := hI.step (by omega) hxb (by rw [heg]; exact hyb)
        rw [heg] at hI2
        have hlt2 : b2 < wr.heap.size := by omega
        have ed : (F + C + G) % 1000000000 = ((g k + f k + c) % 1000000000 : Nat) ∧ (F + C + G) / 1000000000 = ((g k + f k + c) / 1000000000 : Nat) := by have := HF.out; have := HC.out; omega
        have HE := Lib.hid ed
        clear hcell2 hG heg h1 h2 ed hxb hyb hI
        go_wp2_with (at_builtin; refine wpList_append_lies _ (by rfl) (.tmp 42) (.tmp 45) 80 (by rfl) w.heap.size 90 i0 _ 1 4 Tryd.underlying80 hi hz0 hz1 hz2 rfl (by omega) _ _ _ (by rfl) (World.ownsRow.alloc hown _) ⟨wr.heap.size, 0, none⟩ 1 1 [.int .u32 ((F + C + G) % 1000000000)] (by rfl) (by rfl) (World.news_of_block (heap_alloc_new wr _)) (by simp [Value.oneCell']) (by omega) (by unfold maxLen; omega) (by omega) (by simp; omega) (wr.heap.size + 1) (by simp) ?_; intro g' cap' w6 hown6 hgrow hat hlt6)
        rw [HE.out.1] at hown6
        have ho := OwnD.snoc (E := 90) hown6
        have hb6 : Below w.heap.size w w6 := (hb.alloc hb.size _).grown hgrow (by simp; omega) (fun q hq => (World.ownsRow.lt hown q hq).1)
        clear hown6 hgrow hat hown
        go_wp2_with fail
        go_roundg (m - (k + 1))
        case measure => have := HR.out; omega
        case rel => exact ⟨k + 1, _, _, L ++ [(g k + f k + c) % 1000000000], by omega, rfl, by go_num, rfl, HE.out.2, by simp [HL.out], by simpa using ho, by rw [dl_snoc, HL.out]; exact hI2, hb6⟩
      · have heg : ext f n k = 0 := ext_ge (by omega)
        have hI2 := hI.step (by omega) hxb (by rw [heg]; omega)
        rw [heg] at hI2
        have ed : (F + C) % 1000000000 = ((g k + 0 + c) % 1000000000 : Nat) ∧ (F + C) / 1000000000 = ((g k + 0 + c) / 1000000000 : Nat) := by have := HF.out; have := HC.out; omega
        have HE := Lib.hid ed
        clear heg h1 h2 ed hxb hI
        go_wp2_with (at_builtin; refine wpList_append_lies _ (by rfl) (.tmp 42) (.tmp 45) 80 (by rfl) w.heap.size 90 i0 _ 1 4 Tryd.underlying80 hi hz0 hz1 hz2 rfl (by omega) _ _ _ (by rfl) (World.ownsRow.alloc hown _) ⟨wr.heap.size, 0, none⟩ 1 1 [.int .u32 ((F + C) % 1000000000)] (by rfl) (by rfl) (World.news_of_block (heap_alloc_new wr _)) (by simp [Value.oneCell']) (by omega) (by unfold maxLen; omega) (by omega) (by simp; omega) (wr.heap.size + 1) (by simp) ?_; intro g' cap' w6 hown6 hgrow hat hlt6)
        rw [HE.out.1] at hown6
        have ho := OwnD.snoc (E := 90) hown6
        have hb6 : Below w.heap.size w w6 := (hb.alloc hb.size _).grown hgrow (by simp; omega) (fun q hq => (World.ownsRow.lt hown q hq).1)
        clear hown6 hgrow hat hown
        go_wp2_with fail
        go_roundg (m - (k + 1))
        case measure => have := HR.out; omega
        case rel => exact ⟨k + 1, _, _, L ++ [(g k + 0 + c) % 1000000000], by omega, rfl, by go_num, rfl, HE.out.2, by simp [HL.out], by simpa using ho, by rw [dl_snoc, HL.out]; exact hI2, hb6⟩
    · obtain rfl : k = m := by omega
      have hlast := hI.last (by omega)
      rw [nv_ext (Nat.le_of_lt hle)] at hlast
      have HLA := Lib.hid hlast
      clear hlast hI h1 h2
      go_wp2_with (at_builtin; refine wpList_append_lies _ (by rfl) (.tmp 48) (.tmp 50) 80 (by rfl) w.heap.size 90 i0 _ 1 4 Tryd.underlying80 hi hz0 hz1 hz2 rfl (by omega) _ _ _ (by rfl) (World.ownsRow.alloc hown _) ⟨wr.heap.size, 0, none⟩ 1 1 [.int .u32 C] (by rfl) (by rfl) (World.news_of_block (heap_alloc_new wr _)) (by simp [Value.oneCell']) (by omega) (by unfold maxLen; omega) (by omega) (by simp; omega) (wr.heap.size + 1) (by simp) ?_; intro g' cap' w6 hown6 hgrow hat hlt6)
      rw [HC.out] at hown6
      have ho := OwnD.snoc (E := 90) hown6
      have hb6 : Below w.heap.size w w6 := (hb.alloc hb.size _).grown hgrow (by simp; omega) (fun q hq => (World.ownsRow.lt hown q hq).1)
      clear hown6 hgrow hat hown
      obtain ⟨A', cap2, hsh, hcp, hcm⟩ := ho.shape
      injection hsh with _ _ hsh
      subst hsh
      have hrd := ho.rd.2
      rw [dl_snoc, HL.out, show (L ++ [c]).length = k + 1 by simp [HL.out]] at hrd
      have hcp' : k + 1 ≤ cap' := by have := HL.out; simp at hcp; omega
      rw [HL.out]
      refine (trim115 1000000000 (some ⟨g', 0, none⟩) (k + 1) cap' _ w6 hcp' hcm hrd HLA.out.2).mono ?_
      rintro e w7 ⟨v, rfl, hv, rfl⟩
      rw [HLA.out.1] at hv
      go_wp2_with fail
      go_ret
      exact ⟨_, rfl, hv, hb6⟩

theorem addNat63 (K : Nat) (v1 v2 : Value) (a b : Nat) (w : World) (hK : K ≤ 1048576) (s1 : Sm K a) (s2 : Sm K b) (h1 : NatV 1000000000 w v1 a) (h2 : NatV 1000000000 w v2 b) :
    Calls Tryd.prog 63 #[v1, v2] w fun e w' => ∃ v, e = .returned v ∧ NatV 1000000000 w' v (a + b) ∧ Below w.heap.size w w' := by
  obtain ⟨A1, n, c1, f, rfl, hc1, hm1, hr1, hd1, rfl⟩ := h1
  obtain ⟨A2, m, c2, g, rfl, hc2, hm2, hr2, hd2, rfl⟩ := h2
  have l1 := s1.len (by omega) hd1
  have l2 := s2.len (by omega) hd2
  by_cases h : n < m
  · have := addNat_lt A1 A2 n m c1 c2 f g w (by omega) (by omega) hr1 hr2 hd1.1 hd2.1 h
    rwa [Nat.add_comm] at this
  · exact addNat_ge A1 A2 n m c1 c2 f g w (by omega) (by omega) hr1 hr2 hd1.1 hd2.1 (by omega)
end Go.Proofs.YtpligjkbnlfhgaaDoor
