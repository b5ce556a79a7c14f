/- Reading a fraction, the program's. -/
import Derived.Test.YtpligjkbnlfhgaaGreatDoorFrC
import Derived.Test.YtpligjkbnlfhgaaGreatDoorStrA
import Derived.Deep.RegionWith
namespace Go.Proofs.YtpligjkbnlfhgaaGreatDoor
open Go.RowKit

theorem cut_neg (L : List UInt8) : Lib.hasPrefix L [45] = negL L := by
  cases L with
  | nil => rfl
  | cons a t =>
    unfold Lib.hasPrefix negL
    simp only [List.isPrefixOf, Bool.and_true, List.head?_cons]
    rw [Bool.eq_iff_iff]
    simp only [beq_iff_eq, Option.some.injEq]
    exact eq_comm
theorem cut_abs (L : List UInt8) : Lib.trimPrefix L [45] = absL L := by
  unfold Lib.trimPrefix absL
  rw [cut_neg]
  cases h : negL L <;> simp
theorem bytes_list (L : List UInt8) : (⟨L.toArray⟩ : ByteArray).data.toList = L := rfl
theorem pow10_le (k : Nat) : 10 ^ (8 * k) ≤ 2 ^ (28 * k) := by
  rw [Nat.pow_mul, Nat.pow_mul]; exact Nat.pow_le_pow_left (by decide) k
/-- The size of numbers in texts. -/
def KD : Nat := 1400
theorem KD_eq : KD = 28 * 50 := rfl
theorem sm_dec {L : List UInt8} (h : digB L = true) : Sm KD (decV L) := by
  obtain ⟨h1, h2⟩ := digB_iff.1 h
  unfold Sm
  rw [KD_eq]
  exact Nat.lt_of_lt_of_le ((h1.len_le (k := 8 * 50) (by decide)).1 h2) (pow10_le 50)
theorem allocs2 (w : World) (a b : Array Value) (t u : TypeId) : Below w.heap.size w ((w.alloc (.cells a t)).alloc (.cells b u)) ∧ ((w.alloc (.cells a t)).alloc (.cells b u)).heap[w.heap.size]? = some (.cells a t (0, 0)) ∧ ((w.alloc (.cells a t)).alloc (.cells b u)).heap[w.heap.size + 1]? = some (.cells b u (0, 0)) := by
  refine ⟨((Below.refl _ _).alloc (Nat.le_refl _) _).alloc (by simp) _, ?_, ?_⟩
  · rw [Below.heap_alloc _ _ _ (by simp)]; exact heap_alloc_new w _
  · have h := heap_alloc_new (w.alloc (.cells a t)) (.cells b u)
    rwa [show (w.alloc (.cells a t)).heap.size = w.heap.size + 1 by simp] at h
def ReadPost (N D : ByteArray) (w : World) (e : Ending) (w' : World) : Prop := ∃ f, e = .returned (.tuple #[f, .bool (formB N.data.toList D.data.toList)]) ∧ (∃ s n d, FrP w' f s n d ∧ (formB N.data.toList D.data.toList = true → s = negL N.data.toList ∧ n = decV (absL N.data.toList) ∧ d = decV D.data.toList)) ∧ Below w.heap.size w w'
theorem read_bad {N D : ByteArray} {w w' : World} (h : formB N.data.toList D.data.toList = false) (hb : Below w.heap.size w w') : ReadPost N D w (.returned (.tuple #[.agg #[.bool false, .slice none 0 0, .slice none 0 0], .bool false])) w' :=
  ⟨_, by rw [h], ⟨false, 0, 0, ⟨_, _, rfl, NatV.nil, NatV.nil⟩, fun h' => by rw [h] at h'; cases h'⟩, hb⟩

theorem natV_lit1 {w : World} {g : Nat} {t : TypeId} (h : w.heap[g]? = some (.cells #[.int .u32 1] t (0, 0))) : NatV 1000000000 w (.slice (some ⟨g, 0, none⟩) 1 1) 1 := natV_one (x := 1) h (by decide) (by decide)
theorem natV_lit1_new (w : World) (t : TypeId) : NatV 1000000000 (w.alloc (.cells #[.int .u32 1] t)) (.slice (some ⟨w.heap.size, 0, none⟩) 1 1) 1 := natV_lit1 (heap_alloc_new w _)

/-- A fraction in a block of its own. -/
def FrBlk (W : World) (b : Bool) (n d : Nat) (s6 : Value) (wx : World) : Prop := ∃ (g : Nat) (A3 : Option Addr) (e3 c3 : Nat) (A4 : Option Addr) (e4 c4 : Nat), s6 = .pointer (some ⟨g, 0, none⟩) ∧ W.heap.size ≤ g ∧ wx.heap[g]? = some (.cells #[.bool b, .slice A3 e3 c3, .slice A4 e4 c4] 116 (0, 0)) ∧
  NatV 1000000000 wx (.slice A3 e3 c3) n ∧ NatV 1000000000 wx (.slice A4 e4 c4) d ∧ Below W.heap.size W wx
theorem FrBlk.new {W w2 : World} {b : Bool} {n d : Nat} {A3 A4 : Option Addr} {e3 c3 e4 c4 : Nat} (hB : Below W.heap.size W w2) (h1 : NatV 1000000000 w2 (.slice A3 e3 c3) n) (h2 : NatV 1000000000 w2 (.slice A4 e4 c4) d) :
    FrBlk W b n d (.pointer (some ⟨w2.heap.size, 0, none⟩)) (w2.alloc (.cells #[.bool b, .slice A3 e3 c3, .slice A4 e4 c4] 116)) :=
  have hba : Below w2.heap.size w2 (w2.alloc (.cells #[.bool b, .slice A3 e3 c3, .slice A4 e4 c4] 116)) := (Below.refl _ _).alloc (Nat.le_refl _) _
  ⟨_, _, _, _, _, _, _, rfl, hB.size, heap_alloc_new w2 _, h1.below hba, h2.below hba, hB.alloc hB.size _⟩
theorem FrBlk.set {W w2 : World} {b : Bool} {n d g : Nat} {A3 A4 : Option Addr} {e3 c3 e4 c4 : Nat} (hB : Below W.heap.size W w2) (h1 : NatV 1000000000 w2 (.slice A3 e3 c3) n) (h2 : NatV 1000000000 w2 (.slice A4 e4 c4) d)
    (hg : w2.heap[g]? = some (.cells #[.bool false, .slice none 0 0, .slice none 0 0] 116 (0, 0))) (hgW : W.heap.size ≤ g) :
    FrBlk W b n d (.pointer (some ⟨g, 0, none⟩)) (((w2.setCell ⟨g, 0, none⟩ (.bool b)).setCell ⟨g, 1, none⟩ (.slice A3 e3 c3)).setCell ⟨g, 2, none⟩ (.slice A4 e4 c4)) := by
  obtain ⟨t0, t1, t2⟩ := sets3 hg (.bool b) (.slice A3 e3 c3) (.slice A4 e4 c4)
  have q1 := h1.but hg no_dig3 (Nat.le_of_eq t2.symm) (fun k _ hk => t1 k hk)
  have q2 := h2.but hg no_dig3 (Nat.le_of_eq t2.symm) (fun k _ hk => t1 k hk)
  exact ⟨_, _, _, _, _, _, _, rfl, hgW, t0, q1, q2, ((hB.setCell (p := ⟨g, 0, none⟩) hgW _).setCell (p := ⟨g, 1, none⟩) hgW _).setCell (p := ⟨g, 2, none⟩) hgW _⟩

/-- The answer's block. -/
theorem ret3 {wv : World} {z n d : Nat} {b : Bool} {A3 A4 : Option Addr} {e3 c3 e4 c4 : Nat}
    (hg : wv.heap[z]? = some (.cells #[.bool false, .slice none 0 0, .slice none 0 0] 116 (0, 0))) (h1 : NatV 1000000000 wv (.slice A3 e3 c3) n) (h2 : NatV 1000000000 wv (.slice A4 e4 c4) d) :
    (((wv.setCell ⟨z, 0, none⟩ (.bool b)).setCell ⟨z, 1, none⟩ (.slice A3 e3 c3)).setCell ⟨z, 2, none⟩ (.slice A4 e4 c4)).heap[z]? = some (.cells #[.bool b, .slice A3 e3 c3, .slice A4 e4 c4] 116 (0, 0)) ∧
    FrP (((wv.setCell ⟨z, 0, none⟩ (.bool b)).setCell ⟨z, 1, none⟩ (.slice A3 e3 c3)).setCell ⟨z, 2, none⟩ (.slice A4 e4 c4)) (.agg #[.bool b, .slice A3 e3 c3, .slice A4 e4 c4]) b n d := by
  obtain ⟨t0, t1, t2⟩ := sets3 hg (.bool b) (.slice A3 e3 c3) (.slice A4 e4 c4)
  have q1 := h1.but hg no_dig3 (Nat.le_of_eq t2.symm) (fun k _ hk => t1 k hk)
  have q2 := h2.but hg no_dig3 (Nat.le_of_eq t2.symm) (fun k _ hk => t1 k hk)
  exact ⟨t0, ⟨_, _, rfl, q1, q2⟩⟩
theorem below_sets3 {n z : Nat} {w wv : World} (h : Below n w wv) (hz : n ≤ z) (a b c : Value) : Below n w (((wv.setCell ⟨z, 0, none⟩ a).setCell ⟨z, 1, none⟩ b).setCell ⟨z, 2, none⟩ c) :=
  ((h.setCell (p := ⟨z, 0, none⟩) hz _).setCell (p := ⟨z, 1, none⟩) hz _).setCell (p := ⟨z, 2, none⟩) hz _

set_option maxRecDepth 100000 in
set_option maxHeartbeats 8000000 in
theorem read59 (N D : ByteArray) (w : World) (hN : N.size ≤ maxLen) (hD : D.size ≤ maxLen) :
    Calls Tryz.prog 102 #[.agg #[.string N, .string D]] w (ReadPost N D w) := by
  have hcut := fun w => Tryz.strings_CutPrefix N ⟨#[45]⟩ w
  have e1 : Lib.trimPrefix N.data.toList (⟨#[45]⟩ : ByteArray).data.toList = absL N.data.toList := cut_abs _
  have e2 : Lib.hasPrefix N.data.toList (⟨#[45]⟩ : ByteArray).data.toList = negL N.data.toList := cut_neg _
  simp only [e1, e2] at hcut
  obtain ⟨S, hS⟩ : ∃ S : ByteArray, (⟨(absL N.data.toList).toArray⟩ : ByteArray) = S := ⟨_, rfl⟩
  have hSl : S.data.toList = absL N.data.toList := by rw [← hS]
  have hSz : S.size ≤ maxLen := by
    rw [← size_list, hSl]
    refine Nat.le_trans ?_ hN
    rw [← size_list]
    unfold absL
    split
    · rw [List.length_tail]; omega
    · exact Nat.le_refl _
  simp only [hS] at hcut
  have HCUT := Lib.hid hcut
  clear hcut hS e1 e2
  have hdS := digits108 S
  have hdD := digits108 D
  have ezS : (S.toList == [48]) = (absL N.data.toList == [48]) := by rw [ByteArray.toList_eq, hSl]
  have ezD : (D.toList == [48]) = (D.data.toList == [48]) := by rw [ByteArray.toList_eq]
  obtain ⟨hbW, g0, g1⟩ := allocs2 w #[.string N, .string D] #[.bool false, .slice none 0 0, .slice none 0 0] 26 116
  obtain ⟨u0, u1, u2⟩ := cells3 g1
  have hform := formB_iff (N := N.data.toList) (D := D.data.toList)
  have hfor : formB N.data.toList D.data.toList = (digB (absL N.data.toList) && (digB D.data.toList && (!(negL N.data.toList && (absL N.data.toList == [48])) && (!(D.data.toList == [48]) && Nat.gcd (decV D.data.toList) (decV (absL N.data.toList)) == 1)))) := rfl
  have HSL := Lib.hid hSl
  rw [hSl] at hdS
  generalize hLN : absL N.data.toList = LN at *
  generalize hng : negL N.data.toList = ng at *
  generalize hzS : (LN == [48]) = zS at *
  generalize hzD : (D.data.toList == [48]) = zD at *
  generalize hc1 : digB LN = c1 at *
  generalize hc2 : digB D.data.toList = c2 at *
  have HF := Lib.hid hfor
  have HLN := Lib.hid hLN
  have HNG := Lib.hid hng
  have HC1 := Lib.hid hc1
  have HC2 := Lib.hid hc2
  clear hfor hLN hng hzS hzD hc1 hc2 hform hSl
  go_enter Tryz.func102, Tryz.ntmps102
  go_wp2_with fail
  refine (HCUT.out _).mono ?_
  rintro e _ ⟨rfl, hw⟩
  cases hw
  go_wp2_with fail
  refine (hdS _ hSz).mono ?_
  rintro e _ ⟨rfl, rfl⟩
  cases c1 with
  | false =>
    go_wp2_with fail
    exact bodyPost_ret (v := .tuple #[.agg #[.bool false, .slice none 0 0, .slice none 0 0], .bool false]) (by simp [results, Tryz.results102, go_sem]) rfl (read_bad (by rw [HF.out]; rfl) hbW)
  | true =>
    go_wp2_with fail
    refine (hdD _ hD).mono ?_
    rintro e _ ⟨rfl, rfl⟩
    cases c2 with
    | false =>
      go_wp2_with fail
      exact bodyPost_ret (v := .tuple #[.agg #[.bool false, .slice none 0 0, .slice none 0 0], .bool false]) (by simp [results, Tryz.results102, go_sem]) rfl (read_bad (by rw [HF.out]; rfl) hbW)
    | true =>
      cases zD with
      | true =>
        cases ng <;> cases zS
        all_goals
          go_wp2_with fail
          exact bodyPost_ret (v := .tuple #[.agg #[.bool false, .slice none 0 0, .slice none 0 0], .bool false]) (by simp [results, Tryz.results102, go_sem]) rfl (read_bad (by rw [HF.out]; rfl) hbW)
      | false =>
        by_cases hbad : ng = true ∧ zS = true
        · obtain ⟨rfl, rfl⟩ := hbad
          go_wp2_with fail
          exact bodyPost_ret (v := .tuple #[.agg #[.bool false, .slice none 0 0, .slice none 0 0], .bool false]) (by simp [results, Tryz.results102, go_sem]) rfl (read_bad (by rw [HF.out]; rfl) hbW)
        · have hgz : (!(ng && zS)) = true := by cases ng <;> cases zS <;> simp_all
          have HGZ := Lib.hid hgz
          have key : ∀ (b1 b2 : Bool), ng = b1 → zS = b2 → True := fun _ _ _ _ => trivial
          cases ng <;> cases zS
          case true.true => exact absurd ⟨rfl, rfl⟩ hbad
          all_goals
            clear hbad hgz key
            go_wp2_with fail
            generalize (w.alloc (.cells #[.string N, .string D] 26)).alloc (.cells #[.bool false, .slice none 0 0, .slice none 0 0] 116) = W at *
            have hw1 : w.heap.size + 1 < W.heap.size := lt_of_blk g1
            have hlt0 : w.heap.size < W.heap.size := by omega
            have dc0 : W.cell? ⟨w.heap.size, 1, none⟩ = some (.string D) := cell_of_block g0 1
            have hSd : ∀ b ∈ S.data.toList, 48 ≤ b.toNat ∧ b.toNat ≤ 57 := by rw [HSL.out]; exact (digB_iff.1 HC1.out).1.dig
            have hDd : ∀ b ∈ D.data.toList, 48 ≤ b.toNat ∧ b.toNat ≤ 57 := (digB_iff.1 HC2.out).1.dig
            have hSs : S.size ≤ 100000 := by rw [← size_list, HSL.out]; have := (digB_iff.1 HC1.out).2; omega
            have hDs : D.size ≤ 100000 := by rw [← size_list]; have := (digB_iff.1 HC2.out).2; omega
            have HSd := Lib.hid hSd
            have HDd := Lib.hid hDd
            have hbd : Below W.heap.size W W.drew := (Below.refl _ _).drew
            have hbda : Below W.heap.size W (W.alloc (.cells #[.bool false, .slice none 0 0, .slice none 0 0] 116)).drew := ((Below.refl _ _).alloc (Nat.le_refl _) _).drew
            have hnew : (W.alloc (.cells #[.bool false, .slice none 0 0, .slice none 0 0] 116)).drew.heap[W.heap.size]? = some (.cells #[.bool false, .slice none 0 0, .slice none 0 0] 116 (0, 0)) := heap_alloc_new W _
            have dc1 : W.drew.cell? ⟨w.heap.size, 1, none⟩ = some (.string D) := dc0
            have dc2 : (W.alloc (.cells #[.bool false, .slice none 0 0, .slice none 0 0] 116)).drew.cell? ⟨w.heap.size, 1, none⟩ = some (.string D) := (hbda.cell (p := ⟨w.heap.size, 1, none⟩) hlt0).trans dc0
            clear hSd hDd u0 u1 u2
            go_upto_region 4 with fail
            go_cut [6] (fun s6 wx => FrBlk W (negL N.data.toList) (decV S.data.toList) (decV D.data.toList) s6 wx)
            case first =>
              go_region_held3 (fun w' => w'.cell? ⟨w.heap.size, 1, none⟩ = some (.string D))
                (first | with_reducible exact dc1 | with_reducible exact dc2 | with_reducible exact ld | with_reducible exact md | with_reducible exact ((hB1.alloc hB1.size _).cell (p := ⟨w.heap.size, 1, none⟩) hlt0).trans dc0 | with_reducible exact ((hB2.alloc hB2.size _).cell (p := ⟨w.heap.size, 1, none⟩) hlt0).trans dc0 | with_reducible exact ((((hB2.setCell (p := ⟨_, 0, none⟩) (by first | exact Nat.le_refl _ | exact hB1.size) _).setCell (p := ⟨_, 1, none⟩) (by first | exact Nat.le_refl _ | exact hB1.size) _).setCell (p := ⟨_, 2, none⟩) (by first | exact Nat.le_refl _ | exact hB1.size) _).cell (p := ⟨w.heap.size, 1, none⟩) hlt0).trans dc0)
                (first
                  | (go_at_call 129; with_reducible refine (parse109 S _ hSs HSd.out).mono ?_; rintro e w1 ⟨v1, rfl, hv1, hb1⟩; obtain ⟨A1, e1, c1, rfl, -⟩ := NatV.shape (by omega) hv1; have hB1 : Below W.heap.size W w1 := (by first | exact below_trans' hbd (Nat.le_refl _) hb1 | exact below_trans' hbda hbda.size hb1); have ld := (hB1.cell (p := ⟨w.heap.size, 1, none⟩) hlt0).trans dc0)
                  | (go_at_call 129; with_reducible refine (parse109 D _ hDs HDd.out).mono ?_; rintro e w2 ⟨v2, rfl, hv2, hb2⟩; obtain ⟨A2, e2, c2, rfl, -⟩ := NatV.shape (by omega) hv2; have hB2 : Below W.heap.size W w2 := (by first | exact below_trans' hB1 hB1.size hb2 | exact below_trans' (hB1.alloc hB1.size _) (hB1.alloc hB1.size _).size hb2); have md := (hB2.cell (p := ⟨w.heap.size, 1, none⟩) hlt0).trans dc0; (first | (have n3 := blk_below hb2 (blk_below hb1 hnew); have n0 := cells3 n3; have nf := free_of_block n3) | (have n3 := blk_below hb2 (heap_alloc_new w1 (.cells #[.bool false, .slice none 0 0, .slice none 0 0] 116)); have n0 := cells3 n3; have nf := free_of_block n3) | skip)))
              all_goals
                have hv12 : NatV 1000000000 w2 (.slice A1 e1 c1) (decV S.data.toList) := by first | exact hv1.below hb2 | exact (hv1.below ((Below.refl _ _).alloc (Nat.le_refl _) _)).below hb2
                go_wp2_with fail
                go_meet
                case rel => rw [HNG.out]; first | exact FrBlk.new hB2 hv12 hv2 | exact FrBlk.set hB2 hv12 hv2 n3 (by first | exact Nat.le_refl _ | exact hB1.size)
            case rest =>
              obtain ⟨g, A3, e3, c3, A4, e4, c4, rfl, hgW, hgb, hvn, hvd, hB⟩ := hcut
              clear hbd hbda hnew dc1 dc2
              generalize hbb : negL N.data.toList = bb at *
              have HBB := Lib.hid hbb
              have hsS : Sm KD (decV S.data.toList) := by rw [HSL.out]; exact sm_dec HC1.out
              have hsD : Sm KD (decV D.data.toList) := sm_dec HC2.out
              have hK : KD ≤ 200000 := by decide
              have hK3 : 30 ≤ KD := by decide
              obtain ⟨G, hG⟩ : ∃ G, Nat.gcd (decV S.data.toList) (decV D.data.toList) = G := ⟨_, rfl⟩
              have HG := Lib.hid hG
              obtain ⟨qc, hqc⟩ : ∃ qc : Int, cmpI G 1 = qc := ⟨_, rfl⟩
              have hform : (qc == 0) = formB N.data.toList D.data.toList := by
                rw [HF.out]
                have e : (qc == 0) = (G == 1) := by
                  rw [← hqc]
                  rcases Nat.lt_trichotomy G 1 with h | h | h
                  · rw [cmpI_lt h, beq_eq_false_iff_ne.2 (show G ≠ 1 by omega)]; rfl
                  · rw [cmpI_eq h, h]; rfl
                  · rw [cmpI_gt h, beq_eq_false_iff_ne.2 (show G ≠ 1 by omega)]; rfl
                rw [e, ← hG, HSL.out, Nat.gcd_comm]; rfl
              have HFO := Lib.hid hform
              have HQC := Lib.hid hqc
              have hxd : Below wc.heap.size wc wc.drew := (Below.refl _ _).drew
              have hxa : Below wc.heap.size wc (wc.alloc (.cells #[.int .u32 1] 121)).drew := ((Below.refl _ _).alloc (Nat.le_refl _) _).drew
              have hon : (wc.alloc (.cells #[.int .u32 1] 121)).drew.heap[wc.heap.size]? = some (.cells #[.int .u32 1] 121 (0, 0)) := heap_alloc_new wc _
              have k0 := cells3 (blk_below hxd hgb)
              have ka := cells3 (blk_below hxa hgb)
              have hvd1 := hvd.below hxd
              have hvd2 := hvd.below hxa
              have hvn1 := hvn.below hxd
              have hvn2 := hvn.below hxa
              have hgne : g ≠ w.heap.size + 1 := by omega
              clear hbb hG hqc hform
              go_wp2_with fail
              go_region_held3 (fun w' => w'.cell? ⟨g, 0, none⟩ = some (.bool bb) ∧ w'.cell? ⟨g, 1, none⟩ = some (.slice A3 e3 c3) ∧ w'.cell? ⟨g, 2, none⟩ = some (.slice A4 e4 c4))
                (first | with_reducible exact k0 | with_reducible exact ka | with_reducible exact k1 | with_reducible exact k1a | with_reducible exact k2 | with_reducible exact k2a | with_reducible exact c3set (c3set (c3set k2 hgne) hgne) hgne | with_reducible exact c3set (c3set (c3set k2a hgne) hgne) hgne)
                (first
                  | (go_at_call 123; (first | with_reducible refine (gcd110 KD _ _ (decV D.data.toList) (decV S.data.toList) _ hK hK3 hsD hsS hvd1 hvn1).mono ?_ | with_reducible refine (gcd110 KD _ _ (decV D.data.toList) (decV S.data.toList) _ hK hK3 hsD hsS hvd2 hvn2).mono ?_); rintro e w5 ⟨v5, rfl, hv5, hb5⟩; obtain ⟨A5, e5, c5, rfl, -⟩ := NatV.shape (by omega) hv5; rw [HG.out] at hv5; (first | (have hC1 := below_trans' hxd (Nat.le_refl _) hb5; have k1 := cells3 (blk_below hC1 hgb)) | (have hC1 := below_trans' hxa hxa.size hb5; have k1 := cells3 (blk_below hC1 hgb))); have k1a := cells3 (blk_below (hC1.alloc hC1.size (.cells #[.int .u32 1] 121)) hgb))
                  | (go_at_call 112; (first | with_reducible refine (cmpNat64 1000000000 (by omega) _ _ G 1 _ hv5 (natV_lit1 (blk_below hb5 hon))).mono ?_ | with_reducible refine (cmpNat64 1000000000 (by omega) _ _ G 1 _ (hv5.below ((Below.refl _ _).alloc (Nat.le_refl _) _)) (natV_lit1_new w5 121)).mono ?_); rintro e _ ⟨rfl, kk, rfl⟩; rw [HQC.out]; have hC2 := below_drewN hC1 kk; have hC2a := below_drewN (hC1.alloc hC1.size (.cells #[.int .u32 1] 121)) kk; have k2 := cells3 (blk_below hC2 hgb); have k2a := cells3 (blk_below hC2a hgb); have m2 := cells3 (blk_below (below_trans' hB hB.size hC2) g1); have m2a := cells3 (blk_below (below_trans' hB hB.size hC2a) g1); have f2 := free_of_block (blk_below (below_trans' hB hB.size hC2) g1); have f2a := free_of_block (blk_below (below_trans' hB hB.size hC2a) g1)))
              all_goals
                first
                | (have gz := blk_below (below_trans' hB hB.size hC2a) g1
                   obtain ⟨t0, hfr⟩ := ret3 (b := bb) gz (hvn.below hC2a) (hvd.below hC2a)
                   obtain ⟨y0, y1, y2⟩ := cells3 t0
                   have hbe := below_sets3 (z := w.heap.size + 1) (below_trans' (below_trans' hbW hbW.size hB) (below_trans' hbW hbW.size hB).size hC2a) (by omega) (.bool bb) (.slice A3 e3 c3) (.slice A4 e4 c4)
                   generalize (((((w5.alloc (.cells #[.int .u32 1] 121)).drewN kk).setCell ⟨w.heap.size + 1, 0, none⟩ (.bool bb)).setCell ⟨w.heap.size + 1, 1, none⟩ (.slice A3 e3 c3)).setCell ⟨w.heap.size + 1, 2, none⟩ (.slice A4 e4 c4)) = W3 at t0 hfr y0 y1 y2 hbe ⊢
                   clear  hC1 k0 ka k1 k1a k2 k2a m2 m2a f2 f2a hon hgb hxd hxa
                   go_wp2_with fail
                   exact bodyPost_ret (v := .tuple #[.agg #[.bool bb, .slice A3 e3 c3, .slice A4 e4 c4], .bool (qc == 0)]) (by simp [results, Tryz.results102, go_sem, y0, y1, y2]) rfl ⟨_, by rw [HFO.out], ⟨bb, _, _, hfr, fun _ => ⟨HBB.out.symm, by rw [HSL.out, HLN.out], rfl⟩⟩, hbe⟩)
                | (have gz := blk_below (below_trans' hB hB.size hC2) g1
                   obtain ⟨t0, hfr⟩ := ret3 (b := bb) gz (hvn.below hC2) (hvd.below hC2)
                   obtain ⟨y0, y1, y2⟩ := cells3 t0
                   have hbe := below_sets3 (z := w.heap.size + 1) (below_trans' (below_trans' hbW hbW.size hB) (below_trans' hbW hbW.size hB).size hC2) (by omega) (.bool bb) (.slice A3 e3 c3) (.slice A4 e4 c4)
                   generalize ((((w5.drewN kk).setCell ⟨w.heap.size + 1, 0, none⟩ (.bool bb)).setCell ⟨w.heap.size + 1, 1, none⟩ (.slice A3 e3 c3)).setCell ⟨w.heap.size + 1, 2, none⟩ (.slice A4 e4 c4)) = W3 at t0 hfr y0 y1 y2 hbe ⊢
                   clear  hC1 k0 ka k1 k1a k2 k2a m2 m2a f2 f2a hon hgb hxd hxa
                   go_wp2_with fail
                   exact bodyPost_ret (v := .tuple #[.agg #[.bool bb, .slice A3 e3 c3, .slice A4 e4 c4], .bool (qc == 0)]) (by simp [results, Tryz.results102, go_sem, y0, y1, y2]) rfl ⟨_, by rw [HFO.out], ⟨bb, _, _, hfr, fun _ => ⟨HBB.out.symm, by rw [HSL.out, HLN.out], rfl⟩⟩, hbe⟩)
end Go.Proofs.YtpligjkbnlfhgaaGreatDoor
