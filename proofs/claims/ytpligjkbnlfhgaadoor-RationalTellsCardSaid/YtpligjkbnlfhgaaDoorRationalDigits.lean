/- The walk of RationalDigits. -/
import Derived.Test.YtpligjkbnlfhgaaDoorLw
namespace Go.Proofs.YtpligjkbnlfhgaaDoor
open Go.RowKit

theorem u8_bd {a : Int} (h : (Lit.int .u8 a).wf = true) : 0 ≤ a ∧ a ≤ 255 := by
  simpa [Lit.wf, IntKind.min, IntKind.max, IntKind.signed, IntKind.bits] using h
/-- Digits without zeros. -/
def Ones (L : List UInt8) : Prop := (∀ b ∈ L, 49 ≤ b.toNat ∧ b.toNat ≤ 57) ∧ L ≠ []
theorem Ones.digB {L : List UInt8} (h : Ones L) : digB L = decide (L.length ≤ 400) := by
  rw [Bool.eq_iff_iff, digB_iff, decide_eq_true_eq]
  refine ⟨fun h => h.2, fun hl => ⟨⟨fun b hb => ?_, h.2, fun hh => ?_⟩, hl⟩⟩
  · have := h.1 b hb; omega
  · have := h.1 48 (List.mem_of_mem_head? hh)
    have e : (48 : UInt8).toNat = 48 := rfl
    omega
theorem Ones.neg {L : List UInt8} (h : Ones L) : negL L = false ∧ absL L = L := by
  have h1 : negL L = false := by
    unfold negL
    rw [beq_eq_false_iff_ne]
    intro hh
    have := h.1 45 (List.mem_of_mem_head? hh)
    have e : (45 : UInt8).toNat = 45 := rfl
    omega
  exact ⟨h1, by unfold absL; rw [h1]; rfl⟩
theorem Ones.ne48 {L : List UInt8} (h : Ones L) : L ≠ [48] := fun e => by
  have := h.1 48 (by rw [e]; exact List.mem_singleton.2 rfl)
  have e : (48 : UInt8).toNat = 48 := rfl
  omega
theorem one_dec : decV [49] = 1 := by decide
theorem one_dig : digB [49] = true := by decide
theorem one_abs : negL [49] = false ∧ absL [49] = [49] ∧ negL [45, 49] = true ∧ absL [45, 49] = [49] := by decide
theorem cons_abs (L : List UInt8) : negL (45 :: L) = true ∧ absL (45 :: L) = L := by
  have h : negL (45 :: L) = true := by simp [negL]
  exact ⟨h, by unfold absL; rw [h]; rfl⟩
theorem form_num {L : List UInt8} (h : Ones L) : formB L [49] = decide (L.length ≤ 400) ∧ formB (45 :: L) [49] = decide (L.length ≤ 400) ∧ formB [49] L = decide (L.length ≤ 400) ∧ formB [45, 49] L = decide (L.length ≤ 400) := by
  obtain ⟨n1, n2⟩ := h.neg
  obtain ⟨o1, o2, o3, o4⟩ := one_abs
  obtain ⟨p1, p2⟩ := cons_abs L
  have hd := h.digB
  have hne := h.ne48
  have h49 : ([49] : List UInt8) ≠ [48] := by decide
  refine ⟨?_, ?_, ?_, ?_⟩
  · rw [Bool.eq_iff_iff, formB_iff, n1, n2, hd, one_dig, one_dec]
    exact ⟨fun h => h.1, fun h => ⟨h, rfl, fun h => (by cases h.1), h49, Nat.gcd_one_left _⟩⟩
  · rw [Bool.eq_iff_iff, formB_iff, p1, p2, hd, one_dig, one_dec]
    exact ⟨fun h => h.1, fun h => ⟨h, rfl, fun h => hne h.2, h49, Nat.gcd_one_left _⟩⟩
  · rw [Bool.eq_iff_iff, formB_iff, o1, o2, hd, one_dig, one_dec]
    exact ⟨fun h => h.2.1, fun h => ⟨rfl, h, fun h => (by cases h.1), hne, Nat.gcd_one_right _⟩⟩
  · rw [Bool.eq_iff_iff, formB_iff, o3, o4, hd, one_dig, one_dec]
    exact ⟨fun h => h.2.1, fun h => ⟨rfl, h, fun h => h49 h.2, hne, Nat.gcd_one_right _⟩⟩
theorem txV_any (R : Option Txt) : ∃ A B ok, txV R = .tuple #[.agg #[.string A, .string B], .bool ok] := by
  cases R with
  | none => exact ⟨_, _, _, rfl⟩
  | some r => exact ⟨_, _, _, rfl⟩

/-- What the last statement needs of its four calls. -/
structure DigC (N D M E : ByteArray) (c : Bool) (A B : ByteArray) (o : Bool) (A' B' : ByteArray) (o' : Bool) : Prop where
  v1 : ∀ w, Calls Tryd.prog 23 #[.agg #[.string N, .string D]] w fun e w' => e = .returned (.bool c) ∧ Below w.heap.size w w'
  v2 : ∀ w, Calls Tryd.prog 23 #[.agg #[.string M, .string E]] w fun e w' => e = .returned (.bool c) ∧ Below w.heap.size w w'
  m1 : ∀ w, Calls Tryd.prog 25 #[.agg #[.string N, .string D], .agg #[.string ⟨#[49, 48]⟩, .string ⟨#[49]⟩]] w fun e w' => e = .returned (.tuple #[.agg #[.string A, .string B], .bool o]) ∧ Below w.heap.size w w'
  m2 : ∀ w, Calls Tryd.prog 26 #[.agg #[.string N, .string D], .agg #[.string ⟨#[49, 48]⟩, .string ⟨#[49]⟩]] w fun e w' => e = .returned (.tuple #[.agg #[.string A, .string B], .bool o]) ∧ Below w.heap.size w w'
  s1 : ∀ w, Calls Tryd.prog 27 #[.agg #[.string N, .string D], .agg #[.string N, .string D]] w fun e w' => e = .returned (.tuple #[.agg #[.string A', .string B'], .bool o']) ∧ Below w.heap.size w w'
  s2 : ∀ w, Calls Tryd.prog 28 #[.agg #[.string N, .string D], .agg #[.string N, .string D]] w fun e w' => e = .returned (.tuple #[.agg #[.string A', .string B'], .bool o']) ∧ Below w.heap.size w w'
theorem digC {N D M E : ByteArray} {c : Bool} (hN : N.size ≤ maxLen) (hD : D.size ≤ maxLen) (hM : M.size ≤ maxLen) (hE : E.size ≤ maxLen) (h1 : formB N.data.toList D.data.toList = c) (h2 : formB M.data.toList E.data.toList = c) : ∃ A B o A' B' o', DigC N D M E c A B o A' B' o' := by
  have z1 : (⟨#[49, 48]⟩ : ByteArray).size ≤ maxLen := by unfold maxLen; decide
  have z2 : (⟨#[49]⟩ : ByteArray).size ≤ maxLen := by unfold maxLen; decide
  obtain ⟨A, B, o, hm⟩ := txV_any (mulT (N.data.toList, D.data.toList) ((⟨#[49, 48]⟩ : ByteArray).data.toList, (⟨#[49]⟩ : ByteArray).data.toList))
  obtain ⟨A', B', o', hs⟩ := txV_any (addT (N.data.toList, D.data.toList) (N.data.toList, D.data.toList))
  refine ⟨A, B, o, A', B', o', fun w => ?_, fun w => ?_, fun w => ?_, fun w => ?_, fun w => ?_, fun w => ?_⟩
  · have := valid23 N D w hN hD; rwa [h1] at this
  · have := valid23 M E w hM hE; rwa [h2] at this
  · have := mul25 N D ⟨#[49, 48]⟩ ⟨#[49]⟩ w hN hD z1 z2; rwa [hm] at this
  · have := mul26 N D ⟨#[49, 48]⟩ ⟨#[49]⟩ w hN hD z1 z2; rwa [hm] at this
  · have := add27 N D N D w hN hD hN hD; rwa [hs] at this
  · have := add28 N D N D w hN hD hN hD; rwa [hs] at this

set_option maxRecDepth 100000 in
set_option maxHeartbeats 8000000 in
theorem rationalDigits6 (a0 a1 : Int) (a2 : Bool) (w : World) (w0 : (Lit.int .u8 a0).wf = true) (w1 : (Lit.int .u8 a1).wf = true) :
    Calls Tryd.prog 6 #[.int .u8 a0, .int .u8 a1, .bool a2] w fun e w' => e = .returned (.bool true) ∧ Below w.heap.size w w' := by
  obtain ⟨p0, p1⟩ := u8_bd w0
  obtain ⟨p2, p3⟩ := u8_bd w1
  obtain ⟨n, hn⟩ : ∃ n : Nat, (398 + a0 % 5).toNat = n := ⟨_, rfl⟩
  have hE : 398 + a0 % 5 = (n : Int) := by omega
  have hnb : 398 ≤ n ∧ n ≤ 402 := by omega
  obtain ⟨b, hb⟩ : ∃ b : UInt8, b.toNat = (49 + a1 % 9).toNat := ⟨UInt8.ofNat (49 + a1 % 9).toNat, by rw [UInt8.toNat_ofNat']; omega⟩
  have hbv : 49 + a1 % 9 = ((b.toNat : Nat) : Int) := by omega
  have hbb : 49 ≤ b.toNat ∧ b.toNat ≤ 57 := by omega
  clear w0 w1 hn
  go_enter Tryd.func6, Tryd.ntmps6
  go_wp2_with fail
  refine (awake17 _).mono ?_
  rintro e v0 ⟨rfl, hb0⟩
  have hconv : (convert 36 9 (.slice (some ⟨v0.heap.size, 0, none⟩) 1 1)).run Tryd.prog (v0.alloc (.cells #[.int .u8 (49 + a1 % 9)] 5)) = .ok (.string ⟨#[b]⟩) (v0.alloc (.cells #[.int .u8 (49 + a1 % 9)] 5)) :=
    run_convert_bytes_back (v0.alloc (.cells #[.int .u8 (49 + a1 % 9)] 5)) 36 9 5 ⟨v0.heap.size, 0, none⟩ 1 [b] Tryd.underlying36 Tryd.underlying5 Tryd.underlying9 (fun j hj => by
      obtain rfl : j = 0 := by simpa using hj
      rw [Go.WideShapes.add_plain, Nat.zero_add, cell_of_block (heap_alloc_new v0 _), hbv]; rfl)
  have hB := below_trans' hb0 hb0.size ((Below.refl v0.heap.size v0).alloc (Nat.le_refl _) (.cells #[.int .u8 (49 + a1 % 9)] 5))
  have HBB := Lib.hid hbb
  clear hbv hbb hb hb0
  go_wp2_with fail
  generalize v0.alloc (.cells #[.int .u8 (49 + a1 % 9)] 5) = v1 at *
  clear hconv
  go_loopg [8] (n - 1) (fun r sv wr => ∃ S : ByteArray, r = n - S.size ∧ sv = .string S ∧ S.size ≤ n ∧ Ones S.data.toList ∧ Below w.heap.size w wr)
  case atStart => exact ⟨⟨#[b]⟩, rfl, rfl, by show 1 ≤ n; omega, ⟨fun c hc => by obtain rfl := List.mem_singleton.1 hc; exact HBB.out, by simp⟩, hB⟩
  case round =>
    obtain ⟨S, hr, rfl, hSn, hO, hbw⟩ := hrel
    have HR := Lib.hid hr
    have HO := Lib.hid hO
    clear hr hO hB
    by_cases hlt : S.size < n
    · have hsz : S.size + 1 ≤ maxLen := by unfold maxLen; omega
      have hO2 : Ones (S ++ (⟨#[49]⟩ : ByteArray)).data.toList := by
        rw [ByteArray.data_append, Array.toList_append]
        refine ⟨fun c hc => ?_, by simp⟩
        rcases List.mem_append.1 hc with h | h
        · exact HO.out.1 c h
        · obtain rfl := List.mem_singleton.1 h
          exact ⟨by decide, by decide⟩
      have hS2 : (S ++ (⟨#[49]⟩ : ByteArray)).size = S.size + 1 := by rw [ByteArray.size_append]; rfl
      have HO2 := Lib.hid hO2
      have HS2 := Lib.hid hS2
      clear hO2 hS2
      go_wp2_with fail
      go_roundg (n - (S.size + 1))
      case measure => have := HR.out; omega
      case rel => exact ⟨S ++ ⟨#[49]⟩, by rw [HS2.out], rfl, by rw [HS2.out]; omega, HO2.out, hbw⟩
    · have hSe : S.size = n := by omega
      have hSb : 398 ≤ S.size ∧ S.size ≤ 402 := by omega
      have hl : S.data.toList.length = S.size := size_list S
      obtain ⟨q1, q2, q3, q4⟩ := form_num HO.out
      rw [hl] at q1 q2 q3 q4
      have hlm : S.size ≤ maxLen := by unfold maxLen; omega
      have hl1 : (⟨#[49]⟩ : ByteArray).size ≤ maxLen := by unfold maxLen; decide
      have hl2 : ((⟨#[45]⟩ : ByteArray) ++ S).size ≤ maxLen := by rw [ByteArray.size_append]; unfold maxLen; show 1 + S.size ≤ _; omega
      have hl3 : (⟨#[45, 49]⟩ : ByteArray).size ≤ maxLen := by unfold maxLen; decide
      have hl4 : 1 + S.size ≤ maxLen := by unfold maxLen; omega
      have q5 : formB ((⟨#[45]⟩ : ByteArray) ++ S).data.toList [49] = decide (S.size ≤ 400) := by rw [← q2, ByteArray.data_append]; simp
      obtain ⟨c, hc⟩ : ∃ c, decide (S.size ≤ 400) = c := ⟨_, rfl⟩
      rw [hc] at q1 q3 q4 q5
      have hc2 : decide ((n : Int) ≤ 400) = c := by rw [← hc, ← hSe]; rw [decide_eq_decide]; omega
      cases a2 with
      | false =>
        obtain ⟨A, B, o, A', B', o', hC⟩ := digC hlm hl1 hl2 hl1 q1 q5
        obtain ⟨c1, c2, c3, c4, c5, c6⟩ := hC
        have C1 := Lib.hid c1
        have C2 := Lib.hid c2
        have C3 := Lib.hid c3
        have C4 := Lib.hid c4
        have C5 := Lib.hid c5
        have C6 := Lib.hid c6
        obtain ⟨hal, g1, g2⟩ := allocs2' wr #[.string S, .string ⟨#[49]⟩] #[.string ((⟨#[45]⟩ : ByteArray) ++ S), .string ⟨#[49]⟩] 23 23
        have hB1 := below_trans' hbw hbw.size hal
        clear c1 c2 c3 c4 c5 c6 hc hSe hSb hl q1 q2 q3 q4 q5 hlm hl1 hl2 hl3
        go_wp2_with fail
        refine (C3.out _).mono ?_
        rintro e u1 ⟨rfl, hb⟩
        have hst := below_trans' hb hb.size ((Below.refl u1.heap.size u1).alloc (Nat.le_refl _) (.cells #[.string A, .string B] 23))
        have G1 := blk_below hst g1
        have G2 := blk_below hst g2
        have G3 := heap_alloc_new u1 (.cells #[.string A, .string B] 23)
        replace hB1 := below_trans' hB1 hB1.size hst
        have k1 := cells2 G1
        clear hst hb g1 g2
        go_wp2_with fail
        refine (C4.out _).mono ?_
        rintro e u2 ⟨rfl, hb⟩
        have hst := below_trans' hb hb.size ((Below.refl u2.heap.size u2).alloc (Nat.le_refl _) (.cells #[.string A, .string B] 23))
        replace G1 := blk_below hst G1
        replace G2 := blk_below hst G2
        replace G3 := blk_below hst G3
        have G4 := heap_alloc_new u2 (.cells #[.string A, .string B] 23)
        replace hB1 := below_trans' hB1 hB1.size hst
        clear hst hb k1
        have k1 := cells2 G1
        go_wp2_with fail
        refine (C5.out _).mono ?_
        rintro e u3 ⟨rfl, hb⟩
        have hst := below_trans' hb hb.size ((Below.refl u3.heap.size u3).alloc (Nat.le_refl _) (.cells #[.string A', .string B'] 23))
        replace G1 := blk_below hst G1
        replace G2 := blk_below hst G2
        replace G3 := blk_below hst G3
        replace G4 := blk_below hst G4
        have G5 := heap_alloc_new u3 (.cells #[.string A', .string B'] 23)
        replace hB1 := below_trans' hB1 hB1.size hst
        clear hst hb k1
        have k1 := cells2 G1
        go_wp2_with fail
        refine (C6.out _).mono ?_
        rintro e u4 ⟨rfl, hb⟩
        have hst := below_trans' hb hb.size ((Below.refl u4.heap.size u4).alloc (Nat.le_refl _) (.cells #[.string A', .string B'] 23))
        replace G1 := blk_below hst G1
        replace G2 := blk_below hst G2
        replace G3 := blk_below hst G3
        replace G4 := blk_below hst G4
        replace G5 := blk_below hst G5
        have G6 := heap_alloc_new u4 (.cells #[.string A', .string B'] 23)
        replace hB1 := below_trans' hB1 hB1.size hst
        clear hst hb k1
        have k1 := cells2 G1
        go_wp2_with fail
        refine (C1.out _).mono ?_
        rintro e u5 ⟨rfl, hb5⟩
        have K2 := cells2 (blk_below hb5 G2)
        have hB5 := below_trans' hB1 hB1.size hb5
        clear k1
        cases c
        all_goals
          go_wp2_with fail
          refine (C2.out _).mono ?_
          rintro e u6 ⟨rfl, hb6⟩
          have hb56 := below_trans' hb5 hb5.size hb6
          have j3 := cells2 (blk_below hb56 G3)
          have j4 := cells2 (blk_below hb56 G4)
          have j5 := cells2 (blk_below hb56 G5)
          have j6 := cells2 (blk_below hb56 G6)
          have hB6 := below_trans' hB5 hB5.size hb6
          go_wp2_with fail
          go_ret
          exact ⟨rfl, hB6⟩
      | true =>
        obtain ⟨A, B, o, A', B', o', hC⟩ := digC hl1 hlm hl3 hlm q3 q4
        obtain ⟨c1, c2, c3, c4, c5, c6⟩ := hC
        have C1 := Lib.hid c1
        have C2 := Lib.hid c2
        have C3 := Lib.hid c3
        have C4 := Lib.hid c4
        have C5 := Lib.hid c5
        have C6 := Lib.hid c6
        obtain ⟨hal, g1, g2⟩ := allocs2' wr #[.string ⟨#[49]⟩, .string S] #[.string (⟨#[45, 49]⟩), .string S] 23 23
        have hB1 := below_trans' hbw hbw.size hal
        clear c1 c2 c3 c4 c5 c6 hc hSe hSb hl q1 q2 q3 q4 q5 hlm hl1 hl2 hl3
        go_wp2_with fail
        refine (C3.out _).mono ?_
        rintro e u1 ⟨rfl, hb⟩
        have hst := below_trans' hb hb.size ((Below.refl u1.heap.size u1).alloc (Nat.le_refl _) (.cells #[.string A, .string B] 23))
        have G1 := blk_below hst g1
        have G2 := blk_below hst g2
        have G3 := heap_alloc_new u1 (.cells #[.string A, .string B] 23)
        replace hB1 := below_trans' hB1 hB1.size hst
        have k1 := cells2 G1
        clear hst hb g1 g2
        go_wp2_with fail
        refine (C4.out _).mono ?_
        rintro e u2 ⟨rfl, hb⟩
        have hst := below_trans' hb hb.size ((Below.refl u2.heap.size u2).alloc (Nat.le_refl _) (.cells #[.string A, .string B] 23))
        replace G1 := blk_below hst G1
        replace G2 := blk_below hst G2
        replace G3 := blk_below hst G3
        have G4 := heap_alloc_new u2 (.cells #[.string A, .string B] 23)
        replace hB1 := below_trans' hB1 hB1.size hst
        clear hst hb k1
        have k1 := cells2 G1
        go_wp2_with fail
        refine (C5.out _).mono ?_
        rintro e u3 ⟨rfl, hb⟩
        have hst := below_trans' hb hb.size ((Below.refl u3.heap.size u3).alloc (Nat.le_refl _) (.cells #[.string A', .string B'] 23))
        replace G1 := blk_below hst G1
        replace G2 := blk_below hst G2
        replace G3 := blk_below hst G3
        replace G4 := blk_below hst G4
        have G5 := heap_alloc_new u3 (.cells #[.string A', .string B'] 23)
        replace hB1 := below_trans' hB1 hB1.size hst
        clear hst hb k1
        have k1 := cells2 G1
        go_wp2_with fail
        refine (C6.out _).mono ?_
        rintro e u4 ⟨rfl, hb⟩
        have hst := below_trans' hb hb.size ((Below.refl u4.heap.size u4).alloc (Nat.le_refl _) (.cells #[.string A', .string B'] 23))
        replace G1 := blk_below hst G1
        replace G2 := blk_below hst G2
        replace G3 := blk_below hst G3
        replace G4 := blk_below hst G4
        replace G5 := blk_below hst G5
        have G6 := heap_alloc_new u4 (.cells #[.string A', .string B'] 23)
        replace hB1 := below_trans' hB1 hB1.size hst
        clear hst hb k1
        have k1 := cells2 G1
        go_wp2_with fail
        refine (C1.out _).mono ?_
        rintro e u5 ⟨rfl, hb5⟩
        have K2 := cells2 (blk_below hb5 G2)
        have hB5 := below_trans' hB1 hB1.size hb5
        clear k1
        cases c
        all_goals
          go_wp2_with fail
          refine (C2.out _).mono ?_
          rintro e u6 ⟨rfl, hb6⟩
          have hb56 := below_trans' hb5 hb5.size hb6
          have j3 := cells2 (blk_below hb56 G3)
          have j4 := cells2 (blk_below hb56 G4)
          have j5 := cells2 (blk_below hb56 G5)
          have j6 := cells2 (blk_below hb56 G6)
          have hB6 := below_trans' hB5 hB5.size hb6
          go_wp2_with fail
          go_ret
          exact ⟨rfl, hB6⟩
end Go.Proofs.YtpligjkbnlfhgaaDoor
