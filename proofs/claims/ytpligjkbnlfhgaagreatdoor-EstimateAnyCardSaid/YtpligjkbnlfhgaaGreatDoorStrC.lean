/- Numbers read from decimal texts, the program's. -/
import Derived.Test.YtpligjkbnlfhgaaGreatDoorNat1
import Derived.Test.YtpligjkbnlfhgaaGreatDoorStrA
namespace Go.Proofs.YtpligjkbnlfhgaaGreatDoor
open Go.RowKit

set_option maxRecDepth 100000 in
set_option maxHeartbeats 4000000 in
theorem parse109 (s : ByteArray) (w : World) (hs : s.size ≤ 100000) (hd : ∀ b ∈ s.data.toList, 48 ≤ b.toNat ∧ b.toNat ≤ 57) :
    Calls Tryz.prog 129 #[.string s] w fun e w' => ∃ v, e = .returned v ∧ NatV 1000000000 w' v (decV s.data.toList) ∧ Below w.heap.size w w' := by
  obtain ⟨i0, hi, hz0, hz1, hz2⟩ := info_parts infoU
  have hdg : ∀ j, j < s.size → dgt s.data.toList j < 10 ∧ ∀ (h : j < s.size), s[j].toNat = 48 + dgt s.data.toList j := fun j hj => by
    have e := byte_at s j hj
    have h1 := hd s[j] (List.mem_of_getElem? e)
    unfold dgt
    rw [List.getD_eq_getElem?_getD, e]
    simp only [Option.getD_some]
    exact ⟨by omega, fun _ => by omega⟩
  have hV : decV s.data.toList = preV (dgt s.data.toList) s.size := by unfold decV; rw [size_list]
  rw [hV]
  generalize dgt s.data.toList = D at *
  have HDG := Lib.hid hdg
  clear hd hV hdg
  have hnb : s.size ≤ 9223372036854775807 := by omega
  go_enter Tryz.func129, Tryz.ntmps129
  go_wp2_with fail
  go_loopg [4, 3, 5, 6] (s.size + 9) (fun r ee va _ _ wr => ∃ (k : Nat) (E : Int) (L : List Nat), r = s.size + 9 - 9 * k ∧ 9 * k ≤ s.size + 8 ∧ ee = .int .i64 E ∧ E = (s.size : Int) - 9 * k ∧ L.length = k ∧ OwnD 121 wr w.heap.size va L ∧ (∀ j, j < k → dl L j = chunk D s.size j) ∧ Below w.heap.size w wr)
  case atStart => exact ⟨0, (s.size : Int), [], by omega, by omega, rfl, by omega, rfl, OwnD.nil, fun j hj => by omega, Below.refl _ _⟩
  case round =>
    obtain ⟨k, E, L, hr, hk, rfl, hE, hL, hown, hch, hb⟩ := hrel
    have HR := Lib.hid hr
    have HE := Lib.hid hE
    have HL := Lib.hid hL
    have HC := Lib.hid hch
    have hEb : -9 ≤ E ∧ E ≤ 100000 := by omega
    have hLk : L.length ≤ 100000 := by omega
    have hHw : w.heap.size ≤ wr.heap.size := hb.size
    clear hr hE hL hch
    by_cases hgo : 0 < E
    · obtain ⟨st, hst⟩ : ∃ st, s.size - 9 * (k + 1) = st := ⟨_, rfl⟩
      have hmx : max 0 (E - 9) = (st : Int) := by have := HE.out; omega
      obtain ⟨cnt, hcnt⟩ : ∃ cnt, s.size - 9 * k - st = cnt := ⟨_, rfl⟩
      have hcb : cnt ≤ 9 ∧ (st : Int) + cnt = E := by have := HE.out; omega
      have hchk : chunk D s.size k = preV (fun i => D (st + i)) cnt := by unfold chunk; rw [hst, hcnt]
      have hstb : st + cnt ≤ s.size := by omega
      have HCH := Lib.hid hchk
      have hgoE : 9 * k < s.size := by have := HE.out; omega
      have HGO := Lib.hid hgoE
      clear hst hcnt hchk hgoE
      obtain ⟨wo, hwo⟩ : ∃ wo : World, wo = wr := ⟨_, rfl⟩
      go_wp2_with fail
      have hb' := hb
      have hown' := hown
      rw [← hwo] at hb' hown' ⊢
      clear hown hb hwo hHw
      go_loopg [6, 5] 9 (fun r ii dd wr => ∃ (j : Nat) (Y : Int), j ≤ cnt ∧ r = 9 - j ∧ ii = .int .i64 ((st : Int) + j) ∧ dd = .int .u32 Y ∧ Y = ((preV (fun i => D (st + i)) j : Nat) : Int) ∧ wr = wo)
      case atStart => exact ⟨0, 0, by omega, rfl, by go_num, rfl, rfl, rfl⟩
      case round =>
        obtain ⟨j, Y, hj, hr, rfl, rfl, hY, rfl⟩ := hrel
        have HRi := Lib.hid hr
        have HY := Lib.hid hY
        have hlt := preV_lt (d := fun i => D (st + i)) (n := j) fun i hi' => ((HDG.out (st + i) (by omega)).1)
        clear hr hY
        by_cases hjc : j < cnt
        · obtain ⟨p, hp⟩ : ∃ p, st + j = p := ⟨_, rfl⟩
          have hpl : p < s.size := by omega
          have ep : (st : Int) + (j : Int) = (p : Int) := by omega
          have hYb : 0 ≤ Y ∧ Y ≤ 99999999 := by
            have h8 : 10 ^ j ≤ 10 ^ 8 := Nat.pow_le_pow_right (by omega) (by omega)
            have := HY.out
            omega
          obtain ⟨hd1, hd2⟩ := HDG.out p hpl
          have hd2' := hd2 hpl
          have hcmp : (p : Int) < E := by omega
          have dcmp : decide ((p : Int) < E) = true := by rw [decide_eq_true_eq]; exact hcmp
          obtain ⟨C, hC⟩ : ∃ C : Int, ((s[p].toNat : Nat) : Int) = C := ⟨_, rfl⟩
          have hCb : 48 ≤ C ∧ C ≤ 57 := by omega
          have hnext : Y * 10 + (C - 48) = ((preV (fun i => D (st + i)) (j + 1) : Nat) : Int) := by
            have e : preV (fun i => D (st + i)) (j + 1) = preV (fun i => D (st + i)) j * 10 + D p := by rw [preV, hp]
            rw [e]
            have := HY.out
            omega
          have HNX := Lib.hid hnext
          clear hnext hd2 hd2' hlt hp hcmp
          rw [ep]
          go_wp2_with fail
          go_roundg (9 - (j + 1))
          case measure => have := HRi.out; omega
          case rel => exact ⟨j + 1, Y * 10 + (C - 48), by omega, rfl, by go_num, rfl, HNX.out, rfl⟩
        · obtain rfl : j = cnt := by omega
          have dcmp : decide ((st : Int) + (j : Int) < E) = false := by rw [decide_eq_false_iff_not]; omega
          have hYc : Y = ((chunk D s.size k : Nat) : Int) := by rw [HCH.out]; exact HY.out
          have hcl := chunk_lt (d := D) (n := s.size) (k := k) fun i hi' => (HDG.out i hi').1
          have hYb : 0 ≤ Y ∧ Y < 1000000000 := by omega
          obtain ⟨A, cap, rfl, hcap, _⟩ := hown'.shape
          have hHw : w.heap.size ≤ wr.heap.size := hb'.size
          have HYC := Lib.hid hYc
          clear hYc hcl hlt
          go_wp2_with (at_builtin; refine wpList_append_lies _ (by rfl) (.tmp 29) (.tmp 31) 112 (by rfl) w.heap.size 121 i0 _ 1 4 Tryz.underlying112 hi hz0 hz1 hz2 rfl (by omega) _ _ _ (by rfl) (World.ownsRow.alloc hown' _) ⟨wr.heap.size, 0, none⟩ 1 1 [.int .u32 Y] (by rfl) (by rfl) (World.news_of_block (heap_alloc_new wr _)) (by simp [Value.oneCell']) (by omega) (by unfold maxLen; omega) (by omega) (by simp; omega) (wr.heap.size + 1) (by simp) ?_; intro g' cap' w6 hown6 hgrow hat hlt6)
          rw [HYC.out] at hown6
          have ho := OwnD.snoc (E := 121) hown6
          have hb6 : Below w.heap.size w w6 := (hb'.alloc hb'.size _).grown hgrow (by simp; omega) (fun q hq => (World.ownsRow.lt hown' q hq).1)
          clear hown6 hgrow hat hown'
          go_wp2_with fail
          go_roundg (s.size + 9 - 9 * (k + 1))
          case measure => have := HR.out; have := HGO.out; omega
          case rel => exact ⟨k + 1, E - 9, L ++ [chunk D s.size k], rfl, by have := HGO.out; omega, rfl, by have := HE.out; omega, by simp [HL.out], by simpa using ho, fun i hi' => by
            rw [dl_snoc, HL.out]
            by_cases e : i = k
            · subst e; rw [updN_same]
            · rw [updN_other _ e]; exact HC.out i (by omega), hb6⟩
    · have hk8 : k = (s.size + 8) / 9 := by have := HE.out; omega
      have hval : nv 1000000000 (dl L) k = preV D s.size := by
        rw [nv_congr (g := chunk D s.size) fun i hi' => HC.out i hi', hk8, chunk_all]
      have hlt : ∀ i, i < k → dl L i < 1000000000 := fun i hi' => by rw [HC.out i hi']; exact chunk_lt fun i hi' => (HDG.out i hi').1
      obtain ⟨A, cap, rfl, hcap, hcm⟩ := hown.shape
      have hrd := hown.rd.2
      rw [HL.out] at hrd hcap ⊢
      have HV := Lib.hid hval
      clear hk8 hval
      go_wp2_with fail
      refine (trim115 1000000000 A k cap _ wr hcap hcm hrd hlt).mono ?_
      rintro e w7 ⟨v, rfl, hv, rfl⟩
      rw [HV.out] at hv
      go_wp2_with fail
      go_ret
      exact ⟨_, rfl, hv, hb⟩
end Go.Proofs.YtpligjkbnlfhgaaGreatDoor
