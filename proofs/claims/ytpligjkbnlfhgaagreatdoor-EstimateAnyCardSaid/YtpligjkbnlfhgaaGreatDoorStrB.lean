/- The decimal text of a long number, the program's. -/
import Derived.Test.YtpligjkbnlfhgaaGreatDoorNat1
import Derived.Test.YtpligjkbnlfhgaaGreatDoorPl
import Derived.Laws.IdiomStrings
namespace Go.Proofs.YtpligjkbnlfhgaaGreatDoor
open Go.RowKit

abbrev u8V (b : UInt8) : Value := .int .u8 (b.toNat : Int)
/-- Bytes of the call's own. -/
def OwnB (w : World) (B : Nat) (v : Value) (Z : List UInt8) : Prop := w.ownsRow B 5 1 v Z.length (Z.map u8V)
theorem infoB : (Tryz.prog.info? 5).map (fun i => (i.zero, i.size, i.bytes)) = some (some (.int .u8 0), 1, 1) := by kernel_rfl
section
variable {w w' : World} {B : Nat} {v : Value} {Z : List UInt8}
theorem OwnB.cell {g n cap : Nat} (h : OwnB w B (.slice (some ⟨g, 0, none⟩) n cap) Z) (k : Nat) (hk : k < Z.length) : w.cell? ⟨g, k, none⟩ = some (u8V Z[k]) ∧ w.frozen? ⟨g, k, none⟩ = false ∧ B ≤ g ∧ g < w.heap.size := by
  rcases h.2 with ⟨_, h0⟩ | ⟨g', cap', cur, hv, hB, hg, hn, hm, hs, ht⟩
  · omega
  · injection hv with hA _ _
    injection hA with hA
    injection hA with hA
    subst hA
    have e : (Z.map u8V)[k]? = some (u8V Z[k]) := by rw [List.getElem?_map, List.getElem?_eq_getElem hk]; rfl
    rw [← ht, List.getElem?_take_of_lt (by omega), Array.getElem?_toList] at e
    exact ⟨by rw [cell_of_block hg]; exact e, free_of_block hg k, hB, lt_of_blk hg⟩
theorem OwnB.set {g n cap : Nat} (h : OwnB w B (.slice (some ⟨g, 0, none⟩) n cap) Z) (k : Nat) (x : UInt8) : OwnB (w.setCell ⟨g, k, none⟩ (u8V x)) B (.slice (some ⟨g, 0, none⟩) n cap) (Z.set k x) := by
  have hn : n = Z.length := by
    rcases h.2 with ⟨hv, _⟩ | ⟨g', cap', cur, hv, _⟩
    · cases hv
    · injection hv
  subst hn
  obtain ⟨h1, _⟩ := World.ownsRow.stored h k (u8V x)
  unfold OwnB
  rw [List.length_set, List.map_set]
  exact h1
theorem OwnB.made {n : Nat} (h : w.ownsRow B 5 1 v n (madeCells #[.int .u8 0] (n * 1)).toList) : OwnB w B v (List.replicate n 0) := by
  unfold OwnB
  rw [List.length_replicate, List.map_replicate]
  have e : (madeCells #[.int .u8 0] (n * 1)).toList = List.replicate n (u8V 0) := by
    apply List.ext_getElem
    · simp [madeCells]
    · intro i h1 h2
      simp only [madeCells, u8V, List.getElem_replicate, Array.getElem_toList, Array.getElem_map, List.size_toArray, List.length_singleton, Nat.mod_one]
      rfl
  rwa [e] at h
end

set_option maxRecDepth 100000 in
set_option maxHeartbeats 4000000 in
theorem string126 (K : Nat) (v1 : Value) (a : Nat) (w : World) (hK : K ≤ 100000) (s1 : Sm K a) (h1 : NatV 1000000000 w v1 a) :
    Calls Tryz.prog 124 #[v1] w fun e w' => e = .returned (.string ⟨(decT a).toArray⟩) ∧ Below w.heap.size w w' := by
  obtain ⟨A1, n, c1, f, rfl, hc1, hm1, hr1, hd1, rfl⟩ := h1
  have l1 := s1.len (by omega) hd1
  have hn : n ≤ 100000 := by omega
  by_cases h0 : n = 0
  · subst h0
    go_enter Tryz.func124, Tryz.ntmps124
    go_wp2_with fail
    go_ret
    exact ⟨by rw [show decT (nv 1000000000 f 0) = [48] by unfold decT; rfl]; rfl, Below.refl _ _⟩
  · have hne : nv 1000000000 f n ≠ 0 := fun h => h0 ((hd1.zero (by omega)).1 h)
    have HNE := Lib.hid hne
    have HD1 := Lib.hid hd1.1
    have d0 : ((n : Int) == 0) = false := by rw [beq_eq_false_iff_ne]; omega
    obtain ⟨i0, hi, hz0, hz1, hz2⟩ := info_parts infoB
    obtain ⟨N, hN⟩ : ∃ N, 9 * n = N := ⟨_, rfl⟩
    have eN : 9 * (n : Int) = (N : Int) := by omega
    have hNb : N ≤ 900000 := by omega
    have HN := Lib.hid hN
    clear hd1 s1 hm1 hne h0 hN
    go_enter Tryz.func124, Tryz.ntmps124
    go_wp2_with (at_make; refine wpList_make_full _ rfl _ _ 142 rfl w.heap.size 5 i0 (.int .u8 0) 1 Tryz.underlying142 hi hz0 hz1 .i64 .i64 _ _ N rfl rfl (by first | rfl | omega) (by first | rfl | omega) (by rw [hz2]; omega) (by unfold maxLen; omega) (Nat.le_refl _) ?_; intro w0 hown0 hgrow0)
    have hb0 : Below w.heap.size w w0 := (Below.refl _ _).grown hgrow0 (Nat.le_refl _) (fun q hq => by cases hq)
    have ho0 : OwnB w0 w.heap.size (.slice (some ⟨w.heap.size, 0, none⟩) N N) (List.replicate N 0) := OwnB.made hown0
    clear hown0 hgrow0
    go_wp2_with fail
    go_loopg [16, 4, 5, 6] n (fun r ii _ _ _ wr => ∃ (i : Nat) (Z : List UInt8), i ≤ n ∧ r = n - i ∧ ii = .int .i64 i ∧ Z.length = N ∧ OwnB wr w.heap.size (.slice (some ⟨w.heap.size, 0, none⟩) N N) Z ∧ (∀ p, p < 9 * i → Z[N - 1 - p]? = some (UInt8.ofNat (48 + dp f p))) ∧ Below w.heap.size w wr)
    case atStart => exact ⟨0, List.replicate N 0, Nat.zero_le _, rfl, rfl, by simp, ho0, fun p hp => by omega, hb0⟩
    case round =>
      clear ho0 hb0
      obtain ⟨i, Z, hi', hr, rfl, hL, hown, hZ, hb⟩ := hrel
      have HR := Lib.hid hr
      have HL := Lib.hid hL
      have HZ := Lib.hid hZ
      clear hr hL hZ
      have hHw : w.heap.size ≤ wr.heap.size := hb.size
      by_cases hin : i < n
      · obtain ⟨b1, o1, rfl, hb1, hcell1⟩ := hr1 (by omega)
        have x0 := hcell1 i (by omega)
        replace x0 : wr.cell? ⟨b1, o1 + i, none⟩ = some (u32V (f i)) := by rw [← x0]; exact hb.cell (p := ⟨b1, o1 + i, none⟩) hb1
        have hxb0 : f i < 1000000000 := HD1.out i hin
        obtain ⟨X, hX⟩ := letter (f i)
        have hXb : 0 ≤ X ∧ X ≤ 999999999 := by omega
        unfold u32V at x0
        rw [← hX] at x0
        have HX := Lib.hid hX
        have hlt : b1 < wr.heap.size := by omega
        clear hcell1 hX hr1
        go_wp2_with fail
        have hb' := hb
        have hown' := hown
        obtain ⟨wo, hwo⟩ : ∃ wo : World, wo = wr := ⟨_, rfl⟩
        rw [← hwo] at hb' hown' ⊢
        clear hown hb x0 hlt hwo hHw
        go_loopg [21, 5, 6] 9 (fun r kk dd _ wr => ∃ (k : Nat) (Y : Int) (Z' : List UInt8), k ≤ 9 ∧ r = 9 - k ∧ kk = .int .i64 k ∧ dd = .int .u32 Y ∧ Y = ((f i / 10 ^ k : Nat) : Int) ∧ 0 ≤ Y ∧ Y ≤ 999999999 ∧ Z'.length = N ∧ OwnB wr w.heap.size (.slice (some ⟨w.heap.size, 0, none⟩) N N) Z' ∧ (∀ p, p < 9 * i + k → Z'[N - 1 - p]? = some (UInt8.ofNat (48 + dp f p))) ∧ Below w.heap.size w wr)
        case atStart => exact ⟨0, X, Z, by omega, rfl, rfl, rfl, by rw [Nat.pow_zero, Nat.div_one]; exact HX.out, hXb.1, hXb.2, HL.out, hown', fun p hp => HZ.out p (by omega), hb'⟩
        case round =>
          clear hown' hb'
          obtain ⟨k, Y, Z', hk, hr, rfl, rfl, hY, hY0, hY1, hL', hown, hZ', hb⟩ := hrel
          have HRi := Lib.hid hr
          have HYe := Lib.hid hY
          have HLi := Lib.hid hL'
          have HZi := Lib.hid hZ'
          clear hr hY hL' hZ'
          have hHw : w.heap.size ≤ wr.heap.size := hb.size
          by_cases hk9 : k < 9
          · have hpos : 9 * i + k < N := by have := HN.out; omega
            obtain ⟨P, hP⟩ : ∃ P, N - 1 - (9 * i + k) = P := ⟨_, rfl⟩
            have hPN : P < N := by omega
            have eP : (N : Int) - 1 - 9 * (i : Int) - (k : Int) = (P : Int) := by omega
            obtain ⟨z0, z1, _, hlt0⟩ := hown.cell P (by rw [HLi.out]; exact hPN)
            unfold u8V at z0
            obtain ⟨z, hz⟩ : ∃ z, (Z'[P]'(by rw [HLi.out]; exact hPN)).toNat = z := ⟨_, rfl⟩
            rw [hz] at z0
            have hdp : dp f (9 * i + k) = f i / 10 ^ k % 10 := by unfold dp; rw [show (9 * i + k) / 9 = i by omega, show (9 * i + k) % 9 = k by omega]
            have hdg := ofNat_dig (dp_lt f (9 * i + k))
            have hval : 48 + Y % 10 = (((UInt8.ofNat (48 + dp f (9 * i + k))).toNat : Nat) : Int) := by
              rw [hdg, hdp, HYe.out]
              generalize f i / 10 ^ k = y
              omega
            have hset := hown.set P (UInt8.ofNat (48 + dp f (9 * i + k)))
            unfold u8V at hset
            rw [← hval] at hset
            have hZ2 : ∀ p, p < 9 * i + (k + 1) → (Z'.set P (UInt8.ofNat (48 + dp f (9 * i + k))))[N - 1 - p]? = some (UInt8.ofNat (48 + dp f p)) := fun p hp => by
              by_cases e : p = 9 * i + k
              · subst e
                rw [hP, List.getElem?_set_self (by rw [HLi.out]; exact hPN)]
              · rw [List.getElem?_set_ne (by omega)]
                exact HZi.out p (by omega)
            have hdiv : Y / 10 = ((f i / 10 ^ (k + 1) : Nat) : Int) := by
              rw [Nat.pow_succ, ← Nat.div_div_eq_div_mul, HYe.out]
              generalize f i / 10 ^ k = y
              omega
            have HS := Lib.hid hset
            have HZ2 := Lib.hid hZ2
            have HDI := Lib.hid hdiv
            clear hz hdp hdg hval hset hZ2 hdiv hP
            go_wp2_with fail
            go_roundg (9 - (k + 1))
            case measure => have := HRi.out; omega
            case rel => exact ⟨k + 1, Y / 10, Z'.set P (UInt8.ofNat (48 + dp f (9 * i + k))), by omega, rfl, by go_num, rfl, HDI.out, by omega, by omega, by rw [List.length_set]; exact HLi.out, HS.out, HZ2.out, hb.setCell (Nat.le_refl _) _⟩
          · obtain rfl : k = 9 := by omega
            go_wp2_with fail
            go_roundg (n - (i + 1))
            case measure => have := HR.out; omega
            case rel => exact ⟨i + 1, Z', by omega, rfl, by go_num, HLi.out, hown, fun p hp => HZi.out p (by omega), hb⟩
      · obtain rfl : i = n := by omega
        have hNn := HN.out
        obtain ⟨t1, t2⟩ := dp_text (f := f) (n := i) (Z := Z) HD1.out (by rw [HL.out, hNn]) (fun p hp => by have := HZ.out p hp; rwa [← hNn] at this)
        have ht := dropZeros t1 (by rw [t2]; exact HNE.out)
        rw [t2] at ht
        have hconv : (convert 142 9 (.slice (some ⟨w.heap.size, 0, none⟩) Z.length N)).run Tryz.prog wr = .ok (.string ⟨Z.toArray⟩) wr :=
          run_convert_bytes_back wr 142 9 5 ⟨w.heap.size, 0, none⟩ N Z Tryz.underlying142 Tryz.underlying5 Tryz.underlying9 (fun j hj => by rw [Go.WideShapes.add_plain, Nat.zero_add]; exact (hown.cell j hj).1)
        rw [HL.out] at hconv
        have HT := Lib.hid ht
        clear hNn t1 t2 ht hr1
        go_wp2_with fail
        refine (Tryz.strings_TrimLeft_one ⟨Z.toArray⟩ 48 (by decide) wr).mono ?_
        rintro e w3 ⟨rfl, hw⟩
        cases hw
        go_wp2_with fail
        go_ret
        exact ⟨by rw [← HT.out]; rfl, hb⟩
end Go.Proofs.YtpligjkbnlfhgaaGreatDoor
