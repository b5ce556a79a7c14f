/- Texts of digits, both texts. -/
import Derived.Test.YtpligjkbnlfhgaaGreatDoorBase
import Derived.Test.YtpligjkbnlfhgaaGreatDoorPl
namespace Go.Proofs.YtpligjkbnlfhgaaGreatDoor
open Go.RowKit

theorem size_list (s : ByteArray) : s.data.toList.length = s.size := by rw [Array.length_toList]; rfl
theorem byte_at (s : ByteArray) (k : Nat) (h : k < s.size) : s.data.toList[k]? = some s[k] := by
  rw [List.getElem?_eq_getElem (by rw [size_list]; exact h)]
  simp [ByteArray.getElem_eq_getElem_data]
theorem digB_len {L : List UInt8} (h : L.length = 0 ∨ 400 < L.length) : digB L = false := by
  rw [Bool.eq_false_iff]
  intro hd
  obtain ⟨h1, h2⟩ := digB_iff.1 hd
  have := h1.pos
  omega
theorem digB_zero {L : List UInt8} (h : L[0]? = some 48) (h1 : 1 < L.length) : digB L = false := by
  rw [Bool.eq_false_iff]
  intro hd
  obtain ⟨h2, _⟩ := digB_iff.1 hd
  have := h2.lead (by rw [List.head?_eq_getElem?]; exact h)
  omega
theorem digB_bad {L : List UInt8} {k : Nat} {c : UInt8} (h : L[k]? = some c) (h1 : c.toNat < 48 ∨ 57 < c.toNat) : digB L = false := by
  rw [Bool.eq_false_iff]
  intro hd
  obtain ⟨h2, _⟩ := digB_iff.1 hd
  have := h2.dig c (List.mem_of_getElem? h)
  omega
theorem digB_good {L : List UInt8} (h0 : 0 < L.length) (h4 : L.length ≤ 400) (hz : ¬ (L[0]? = some 48 ∧ 1 < L.length)) (hd : ∀ (k : Nat) (c : UInt8), L[k]? = some c → 48 ≤ c.toNat ∧ c.toNat ≤ 57) : digB L = true := by
  refine digB_iff.2 ⟨⟨fun b hb => ?_, fun h => by subst h; simp at h0, fun h => ?_⟩, h4⟩
  · obtain ⟨k, hk, rfl⟩ := List.mem_iff_getElem.1 hb
    exact hd k _ (List.getElem?_eq_getElem hk)
  · rw [List.head?_eq_getElem?] at h
    refine Decidable.byContradiction fun hc => hz ⟨h, by omega⟩

set_option maxRecDepth 100000 in
set_option maxHeartbeats 1000000 in
theorem digits108 (s : ByteArray) (w : World) (hs : s.size ≤ maxLen) :
    Calls Tryz.prog 128 #[.string s] w fun e w' => e = .returned (.bool (digB s.data.toList)) ∧ w = w' := by
  unfold maxLen at hs
  have hsz := size_list s
  by_cases h0 : s.size = 0
  · have e := Lib.hid (digB_len (L := s.data.toList) (.inl (by omega)))
    have d1 : decide ((s.size : Int) < 1) = true := by rw [decide_eq_true_eq]; omega
    have d2 : ((s.size : Int) == 0) = true := by rw [beq_iff_eq]; omega
    clear hsz h0
    go_enter Tryz.func128, Tryz.ntmps128
    go_wp2_with fail
    go_ret
    exact ⟨by rw [e.out]; rfl, rfl⟩
  · by_cases h4 : 400 < s.size
    · have e := Lib.hid (digB_len (L := s.data.toList) (.inr (by omega)))
      have d1 : decide ((s.size : Int) < 1) = false := by rw [decide_eq_false_iff_not]; omega
      have d3 : ((s.size : Int) == 0) = false := by rw [beq_eq_false_iff_ne]; omega
      have d2 : decide (400 < (s.size : Int)) = true := by rw [decide_eq_true_eq]; omega
      clear hsz h0 h4
      go_enter Tryz.func128, Tryz.ntmps128
      go_wp2_with fail
      go_ret
      exact ⟨by rw [e.out]; rfl, rfl⟩
    · have hp : 0 < s.size := by omega
      have d1 : decide ((s.size : Int) < 1) = false := by rw [decide_eq_false_iff_not]; omega
      have d3 : ((s.size : Int) == 0) = false := by rw [beq_eq_false_iff_ne]; omega
      have d2 : decide (400 < (s.size : Int)) = false := by rw [decide_eq_false_iff_not]; omega
      have hb0 := byte_at s 0 hp
      by_cases hz : s[0].toNat = 48 ∧ 1 < s.size
      · have e48 : s[0] = 48 := UInt8.toNat_inj.1 (by rw [hz.1]; rfl)
        have e := Lib.hid (digB_zero (L := s.data.toList) (by rw [hb0, e48]) (by omega))
        have d4 : ((s[0].toNat : Int) == 48) = true := by rw [hz.1]; rfl
        have d5 : decide (1 < (s.size : Int)) = true := by have := hz.2; rw [decide_eq_true_eq]; omega
        clear hsz h0 h4 e48 hb0 hz
        go_enter Tryz.func128, Tryz.ntmps128
        go_wp2_with fail
        go_ret
        exact ⟨by rw [e.out]; rfl, rfl⟩
      · have HB0 := Lib.hid hb0
        have HSZ := Lib.hid hsz
        have HZ := Lib.hid hz
        have d45 : (((s[0].toNat : Int) == 48) && decide (1 < (s.size : Int))) = false := by
          rw [Bool.and_eq_false_iff]
          by_cases h : s[0].toNat = 48
          · exact .inr (by have : ¬ 1 < s.size := fun h' => hz ⟨h, h'⟩; rw [decide_eq_false_iff_not]; omega)
          · exact .inl (by rw [beq_eq_false_iff_ne]; omega)
        have key : ∀ (b1 b2 : Bool), ((s[0].toNat : Int) == 48) = b1 → decide (1 < (s.size : Int)) = b2 → Calls Tryz.prog 128 #[.string s] w fun e w' => e = .returned (.bool (digB s.data.toList)) ∧ w = w' := by
          intro b1 b2 t1 t2
          rw [t1, t2] at d45
          clear hb0 hsz hz
          have T1 := t1
          cases b1 <;> cases b2
          case true.true => cases d45
          all_goals
            clear d45
            go_enter Tryz.func128, Tryz.ntmps128
            go_wp2_with fail
            go_loopg [24, 3] s.size (fun r ii _ wr => ∃ k : Nat, k ≤ s.size ∧ r = s.size - k ∧ ii = .int .i64 k ∧ (∀ j c, j < k → s.data.toList[j]? = some c → 48 ≤ c.toNat ∧ c.toNat ≤ 57) ∧ w = wr)
            case atStart => exact ⟨0, Nat.zero_le _, rfl, rfl, fun j c hj => by omega, rfl⟩
            case round =>
              obtain ⟨k, hk, hr, rfl, hd, rfl⟩ := hrel
              have HR := Lib.hid hr
              have HD := Lib.hid hd
              clear hr hd t1 t2 T1 d1 d2 d3
              by_cases hkn : k < s.size
              · have HBK := Lib.hid (byte_at s k hkn)
                by_cases hlo : s[k].toNat < 48
                · have e := Lib.hid (digB_bad HBK.out (.inl hlo))
                  have q1 : decide ((s[k].toNat : Int) < 48) = true := by rw [decide_eq_true_eq]; omega
                  clear hlo
                  go_wp2_with fail
                  go_ret
                  exact ⟨by rw [e.out]; rfl, rfl⟩
                · by_cases hhi : 57 < s[k].toNat
                  · have e := Lib.hid (digB_bad HBK.out (.inr hhi))
                    have q1 : decide ((s[k].toNat : Int) < 48) = false := by rw [decide_eq_false_iff_not]; omega
                    have q2 : decide (57 < (s[k].toNat : Int)) = true := by rw [decide_eq_true_eq]; omega
                    clear hlo hhi
                    go_wp2_with fail
                    go_ret
                    exact ⟨by rw [e.out]; rfl, rfl⟩
                  · have q1 : decide ((s[k].toNat : Int) < 48) = false := by rw [decide_eq_false_iff_not]; omega
                    have q2 : decide (57 < (s[k].toNat : Int)) = false := by rw [decide_eq_false_iff_not]; omega
                    have hd2 : ∀ j c, j < k + 1 → s.data.toList[j]? = some c → 48 ≤ c.toNat ∧ c.toNat ≤ 57 := fun j c hj hc => by
                      by_cases ej : j = k
                      · subst ej
                        rw [HBK.out] at hc
                        injection hc with hc
                        subst hc
                        omega
                      · exact HD.out j c (by omega) hc
                    have HD2 := Lib.hid hd2
                    clear hlo hhi hd2
                    go_wp2_with fail
                    go_roundg (s.size - (k + 1))
                    case measure => have := HR.out; omega
                    case rel => exact ⟨k + 1, by omega, rfl, by go_num, HD2.out, rfl⟩
              · have e := Lib.hid (digB_good (L := s.data.toList) (by rw [HSZ.out]; omega) (by rw [HSZ.out]; omega) (by rw [HB0.out, HSZ.out]; intro ⟨h1, h2⟩; injection h1 with h1; exact HZ.out ⟨by rw [h1]; rfl, h2⟩) (fun j c hc => HD.out j c (by have := (List.getElem?_eq_some_iff.1 hc).1; rw [HSZ.out] at this; omega) hc))
                go_wp2_with fail
                go_ret
                exact ⟨by rw [e.out]; rfl, rfl⟩
        exact key _ _ rfl rfl

set_option maxRecDepth 100000 in
set_option maxHeartbeats 1000000 in
theorem digits116 (s : ByteArray) (w : World) (hs : s.size ≤ maxLen) :
    Calls Tryz.prog 86 #[.string s] w fun e w' => e = .returned (.bool (digB s.data.toList)) ∧ w = w' := by
  unfold maxLen at hs
  have hsz := size_list s
  by_cases h0 : s.size = 0
  · have e := Lib.hid (digB_len (L := s.data.toList) (.inl (by omega)))
    have d1 : decide ((s.size : Int) < 1) = true := by rw [decide_eq_true_eq]; omega
    have d2 : ((s.size : Int) == 0) = true := by rw [beq_iff_eq]; omega
    clear hsz h0
    go_enter Tryz.func86, Tryz.ntmps86
    go_wp2_with fail
    go_ret
    exact ⟨by rw [e.out]; rfl, rfl⟩
  · by_cases h4 : 400 < s.size
    · have e := Lib.hid (digB_len (L := s.data.toList) (.inr (by omega)))
      have d1 : decide ((s.size : Int) < 1) = false := by rw [decide_eq_false_iff_not]; omega
      have d3 : ((s.size : Int) == 0) = false := by rw [beq_eq_false_iff_ne]; omega
      have d2 : decide (400 < (s.size : Int)) = true := by rw [decide_eq_true_eq]; omega
      clear hsz h0 h4
      go_enter Tryz.func86, Tryz.ntmps86
      go_wp2_with fail
      go_ret
      exact ⟨by rw [e.out]; rfl, rfl⟩
    · have hp : 0 < s.size := by omega
      have d1 : decide ((s.size : Int) < 1) = false := by rw [decide_eq_false_iff_not]; omega
      have d3 : ((s.size : Int) == 0) = false := by rw [beq_eq_false_iff_ne]; omega
      have d2 : decide (400 < (s.size : Int)) = false := by rw [decide_eq_false_iff_not]; omega
      have hb0 := byte_at s 0 hp
      by_cases hz : s[0].toNat = 48 ∧ 1 < s.size
      · have e48 : s[0] = 48 := UInt8.toNat_inj.1 (by rw [hz.1]; rfl)
        have e := Lib.hid (digB_zero (L := s.data.toList) (by rw [hb0, e48]) (by omega))
        have d4 : ((s[0].toNat : Int) == 48) = true := by rw [hz.1]; rfl
        have d5 : decide (1 < (s.size : Int)) = true := by have := hz.2; rw [decide_eq_true_eq]; omega
        clear hsz h0 h4 e48 hb0 hz
        go_enter Tryz.func86, Tryz.ntmps86
        go_wp2_with fail
        go_ret
        exact ⟨by rw [e.out]; rfl, rfl⟩
      · have HB0 := Lib.hid hb0
        have HSZ := Lib.hid hsz
        have HZ := Lib.hid hz
        have d45 : (((s[0].toNat : Int) == 48) && decide (1 < (s.size : Int))) = false := by
          rw [Bool.and_eq_false_iff]
          by_cases h : s[0].toNat = 48
          · exact .inr (by have : ¬ 1 < s.size := fun h' => hz ⟨h, h'⟩; rw [decide_eq_false_iff_not]; omega)
          · exact .inl (by rw [beq_eq_false_iff_ne]; omega)
        have key : ∀ (b1 b2 : Bool), ((s[0].toNat : Int) == 48) = b1 → decide (1 < (s.size : Int)) = b2 → Calls Tryz.prog 86 #[.string s] w fun e w' => e = .returned (.bool (digB s.data.toList)) ∧ w = w' := by
          intro b1 b2 t1 t2
          rw [t1, t2] at d45
          clear hb0 hsz hz
          have T1 := t1
          cases b1 <;> cases b2
          case true.true => cases d45
          all_goals
            clear d45
            go_enter Tryz.func86, Tryz.ntmps86
            go_wp2_with fail
            go_loopg [3] s.size (fun r ii wr => ∃ k : Nat, k ≤ s.size ∧ r = s.size - k ∧ ii = .int .i64 k ∧ (∀ j c, j < k → s.data.toList[j]? = some c → 48 ≤ c.toNat ∧ c.toNat ≤ 57) ∧ w = wr)
            case atStart => exact ⟨0, Nat.zero_le _, rfl, rfl, fun j c hj => by omega, rfl⟩
            case round =>
              obtain ⟨k, hk, hr, rfl, hd, rfl⟩ := hrel
              have HR := Lib.hid hr
              have HD := Lib.hid hd
              clear hr hd t1 t2 T1 d1 d2 d3
              by_cases hkn : k < s.size
              · have HBK := Lib.hid (byte_at s k hkn)
                by_cases hlo : s[k].toNat < 48
                · have e := Lib.hid (digB_bad HBK.out (.inl hlo))
                  have q1 : decide ((s[k].toNat : Int) < 48) = true := by rw [decide_eq_true_eq]; omega
                  clear hlo
                  go_wp2_with fail
                  go_ret
                  exact ⟨by rw [e.out]; rfl, rfl⟩
                · by_cases hhi : 57 < s[k].toNat
                  · have e := Lib.hid (digB_bad HBK.out (.inr hhi))
                    have q1 : decide ((s[k].toNat : Int) < 48) = false := by rw [decide_eq_false_iff_not]; omega
                    have q2 : decide (57 < (s[k].toNat : Int)) = true := by rw [decide_eq_true_eq]; omega
                    clear hlo hhi
                    go_wp2_with fail
                    go_ret
                    exact ⟨by rw [e.out]; rfl, rfl⟩
                  · have q1 : decide ((s[k].toNat : Int) < 48) = false := by rw [decide_eq_false_iff_not]; omega
                    have q2 : decide (57 < (s[k].toNat : Int)) = false := by rw [decide_eq_false_iff_not]; omega
                    have hd2 : ∀ j c, j < k + 1 → s.data.toList[j]? = some c → 48 ≤ c.toNat ∧ c.toNat ≤ 57 := fun j c hj hc => by
                      by_cases ej : j = k
                      · subst ej
                        rw [HBK.out] at hc
                        injection hc with hc
                        subst hc
                        omega
                      · exact HD.out j c (by omega) hc
                    have HD2 := Lib.hid hd2
                    clear hlo hhi hd2
                    go_wp2_with fail
                    go_roundg (s.size - (k + 1))
                    case measure => have := HR.out; omega
                    case rel => exact ⟨k + 1, by omega, rfl, by go_num, HD2.out, rfl⟩
              · have e := Lib.hid (digB_good (L := s.data.toList) (by rw [HSZ.out]; omega) (by rw [HSZ.out]; omega) (by rw [HB0.out, HSZ.out]; intro ⟨h1, h2⟩; injection h1 with h1; exact HZ.out ⟨by rw [h1]; rfl, h2⟩) (fun j c hc => HD.out j c (by have := (List.getElem?_eq_some_iff.1 hc).1; rw [HSZ.out] at this; omega) hc))
                go_wp2_with fail
                go_ret
                exact ⟨by rw [e.out]; rfl, rfl⟩
        exact key _ _ rfl rfl
end Go.Proofs.YtpligjkbnlfhgaaGreatDoor
