/- Regions that draw their order and hold operations whose values must be apart from each other (two appends that may each write in place, or each make a new block). No statement is proved here. -/
import Derived.Test.YtgonighpjpfmnaaLate4
namespace Go.Proofs.Ytgonighpjpfmnaa
open Go.RowKit

section
variable {P : Program} {ops : Array Oper} {R : World → World → Prop} {Φ : Nat → Value → World → Prop} {w0 : World} {a0 : Act} {N : Nat}

theorem tUpon_mono {φ ψ : Value → World → Prop} {w : World} (h : ∀ v w', φ v w' → ψ v w') : ∀ {r : Result Next}, tUpon P R w φ r → tUpon P R w ψ r
  | .ok (.value _) _, ht => ⟨ht.1, h _ _ ht.2⟩
  | .ok .skip _, ht => ⟨ht.1, h _ _ ht.2⟩
  | .ok (.enter _ _) _, ht => Calls.mono ht fun _ _ ⟨v, he, h1, h2⟩ => ⟨v, he, h1, h _ _ h2⟩
  | .halt _ _, ht => ht.elim

theorem tOp_mono {o : Oper} {a : Act} {w : World} {φ ψ : Value → World → Prop} (h : ∀ v w', φ v w' → ψ v w') (ht : tOp P ops R o a w φ) : tOp P ops R o a w ψ := by
  unfold tOp at *
  split at ht
  · rename_i hw; rw [if_pos hw]; exact tUpon_mono h ht
  · rename_i hw; rw [if_neg hw]; exact h _ _ ht

/-- The value is of its kind, and apart from each value that a sibling may have left before. -/
def strong (S : List Nat) (Ψ : Value → Value → Prop) (Φ : Nat → Value → World → Prop) (i : Nat) (w : World) : Value → World → Prop := fun v w' => Φ i v w' ∧ ∀ j ∈ S, j ≠ i → ∀ u, Φ j u w → Ψ v u

theorem wpAny_pair {S : List Nat} {Ψ : Value → Value → Prop} (hSy : ∀ v u, Ψ v u → Ψ u v) {Q : Exit → Act → World → Prop} (hr : ∀ w, R w w) (htr : ∀ a b c, R a b → R b c → R a c) (hmono : ∀ i v w w', i < N → R w w' → Φ i v w → Φ i v w')
    {Lo : List Nat} (hsc : N = ops.size ∨ sinkL ops N Lo = true ∧ Region.chainB .any ops N = true) (hN : N ≤ ops.size) (hback : ∀ (i : Nat) (o : Oper), ops[i]? = some o → ∀ e ∈ o.after, Region.binds .any e = true → e.on < i)
    (hSL : ∀ i ∈ S, Lo.contains i = false)
    (hpair : ∀ i o, i ∈ S → i < N → ops[i]? = some o → ∀ a w, TPre ops R Φ w0 a0 N (depsOf N o) a w → tOp P ops R o a w (strong S Ψ Φ i w))
    (hloose : ∀ i, Lo.contains i = true → i < N ∧ (∀ (j : Nat) (o : Oper) cs b, ops[j]? = some o → o.op ≠ .select cs b) ∧ (∀ c (a : Act) (d : Tmp) v w, Q (.panic c) (a.put (some d) v) w → Q (.panic c) a w) ∧
      (∀ oi j oj, ops[i]? = some oi → ops[j]? = some oj → j ≠ i → (∀ e ∈ oi.after, Region.binds .any e = true → e.on ≠ j) → (∀ e ∈ oj.after, Region.binds .any e = true → e.on ≠ i) → oi.apart ops oj = true) ∧
      ∀ o, ops[i]? = some o → ∀ a w, TPre ops R Φ w0 a0 N (depsOf N o) a w → ∃ v, Yields P ops o v a ∧ Φ i v w)
    (hdst : ∀ i, i < N → ∃ d, (ops[i]?).bind (·.dst) = some d ∧ d < a0.tmps.size ∧ ∀ j, j < N → j ≠ i → (ops[j]?).bind (·.dst) ≠ some d)
    (hseq : Region.seqB .any ops (ops.size - N) N ((List.range ops.size).map fun i => decide (i < N)).toArray = true)
    (hstep : ∀ i o, i < N → ops[i]? = some o → ∀ a w, TPre ops R Φ w0 a0 N (depsOf N o) a w → tOp P ops R o a w (Φ i))
    (hend : ∀ w, R w0 w → TEnd Φ (fun a w => (∀ i ∈ S, ∀ j ∈ S, i < N → j < N → i ≠ j → Ψ (sv ops i a) (sv ops j a)) → wpList P ops Q (ops.toList.drop N) a w) w (ops.toList.take N) 0 a0) :
    ∀ (m : Nat) (listed : Array Bool) (a : Act) (w : World), cntT N listed = m → HeadInv .any ops N listed → TInv ops R Φ w0 a0 N listed a w → (∀ i ∈ S, ∀ j ∈ S, i < N → j < N → i ≠ j → listed.getD i false = true → listed.getD j false = true → Ψ (sv ops i a) (sv ops j a)) → wpAny P .any ops Q (m + (ops.size - N)) listed a w := by
  intro m
  induction m with
  | zero =>
    intro listed a w hm inv ti tp
    have hall : ∀ i, i < N → listed.getD i true = true := fun i hi => by
      cases h : listed.getD i true with
      | true => rfl
      | false =>
        have : i ∈ (List.range N).filter fun j => !listed.getD j true := by rw [List.mem_filter]; exact ⟨List.mem_range.2 hi, by rw [h]; rfl⟩
        have := List.length_pos_of_mem this
        unfold cntT at hm
        omega
    have hl : listed = ((List.range ops.size).map fun i => decide (i < N)).toArray := by
      apply Array.ext (by simp [inv.size])
      intro i h1 h2
      have hi : i < ops.size := by rw [← inv.size]; exact h1
      have e : listed.getD i true = listed[i] := by simp [Array.getD, h1]
      simp only [List.getElem_toArray, List.getElem_map, List.getElem_range]
      by_cases hiN : i < N
      · rw [← e, hall i hiN]; simp [hiN]
      · rw [← e, inv.tail i (by omega) hi]; simp [hiN]
    have hdone : ∀ j, j < N → Φ j (sv ops j a) w := fun j hj => ti.done j hj (by
      cases h : listed.getD j false with
      | true => rfl
      | false => have := hall j hj; rw [getD_in (by rw [inv.size]; omega) h] at this; cases this)
    have htk : ∀ j, j < (ops.toList.take N).length → (ops.toList.take N)[j]? = ops[0 + j]? := fun j hj => by
      rw [List.length_take] at hj
      rw [List.getElem?_take, if_pos (by omega)]; simp
    have hK := tEnd_putsL (ops := ops) (a := a) _ 0 a0 (fun j _ hj => hdone j (by rw [List.length_take] at hj; omega)) (hend w ti.world)
    have ea : putsL ops a (ops.toList.take N) 0 a0 = a := by
      have h1 := putsL_size (ops := ops) (a := a) (ops.toList.take N) 0 a0
      have h2 : (putsL ops a (ops.toList.take N) 0 a0).tmps = a.tmps := by
        apply Array.ext (by rw [h1.1, ti.size])
        intro s h3 h4
        have h5 : (putsL ops a (ops.toList.take N) 0 a0).tmps.getD s undef = a.tmps.getD s undef := by
          by_cases hh : ∃ j, j < N ∧ (ops[j]?).bind (·.dst) = some s
          · obtain ⟨j, hj, hd⟩ := hh
            obtain ⟨o, ho, hd'⟩ : ∃ o, ops[j]? = some o ∧ o.dst = some s := by
              cases ho : ops[j]? with
              | none => rw [ho] at hd; cases hd
              | some o => rw [ho] at hd; exact ⟨o, rfl, hd⟩
            have hlen : j < (ops.toList.take N).length := by rw [List.length_take]; simp; omega
            exact putsL_hit _ 0 a0 htk (by rw [← h1.1]; exact h3) ⟨j, o, hlen, by rw [htk j hlen, Nat.zero_add]; exact ho, hd'⟩
          · refine putsL_keep _ 0 a0 htk (ti.outside s fun j hj hd => hh ⟨j, hj, hd⟩).symm
        simpa [Array.getD, h3, h4] using h5
      have h3 := h1.2.trans ti.defers.symm
      cases ha : putsL ops a (ops.toList.take N) 0 a0
      cases a
      rw [ha] at h2 h3
      simp only at h2 h3
      rw [h2, h3]
    rw [ea] at hK
    have hlall : ∀ j, j < N → listed.getD j false = true := fun j hj => by
      cases h : listed.getD j false with
      | true => rfl
      | false => have := hall j hj; rw [getD_in (by rw [inv.size]; omega) h] at this; cases this
    replace hK := hK fun i hi j hj hiN hjN hne => tp i hi j hj hiN hjN hne (hlall i hiN) (hlall j hjN)
    rw [Nat.zero_add]
    have := wpAny_of_seq (md := .any) (Q' := Q) (ops.toList.drop N) N listed a w (fun j => by simp [List.getElem?_drop]) (by rw [hl]; simpa using hseq) hK
    simpa using this
  | succ m ih =>
    intro listed a w hm inv ti tp
    have hex : ∃ i, i < N ∧ listed.getD i true = false := by
      have : 0 < ((List.range N).filter fun j => !listed.getD j true).length := by unfold cntT at hm; omega
      obtain ⟨i, hi⟩ := List.exists_mem_of_length_pos this
      rw [List.mem_filter, List.mem_range] at hi
      exact ⟨i, hi.1, by simpa using hi.2⟩
    obtain ⟨i0, hi0, hun0⟩ := hex
    rw [show m + 1 + (ops.size - N) = (m + (ops.size - N)) + 1 by omega]
    have hpre : ∀ (i : Nat) (o : Oper), ops[i]? = some o → (∀ e ∈ o.after, Region.binds .any e = true → listed.getD e.on false = true) → TPre ops R Φ w0 a0 N (depsOf N o) a w := fun i o ho hwait => ⟨ti.world, ti.size, ti.outside, fun j hj => by
      simp only [depsOf, List.mem_map, List.mem_filter, Bool.and_eq_true, decide_eq_true_eq] at hj
      obtain ⟨e, ⟨he, hb, hlt⟩, rfl⟩ := hj
      exact ti.done _ hlt (hwait e (by simpa using he) hb)⟩
    have hupd : ∀ (i : Nat) (o : Oper) v w', i < N → ops[i]? = some o → R w w' → Φ i v w' → TInv ops R Φ w0 a0 N (listed.setIfInBounds i true) (a.put o.dst v) w' := fun i o v w' hiN ho hR hφ => by
      refine ⟨htr _ _ _ ti.world hR, by rw [put_defers]; exact ti.defers, by rw [put_size]; exact ti.size, fun s hs' => ?_, fun j hj hlj => ?_⟩
      · cases hd : o.dst with
        | none => exact ti.outside s hs'
        | some d =>
          rw [put_getD, if_neg (fun hh => hs' i hiN (by rw [ho]; simp [hd, hh.1]))]
          exact ti.outside s hs'
      · by_cases hji : j = i
        · subst hji
          obtain ⟨d, hd, hlt, _⟩ := hdst j hj
          have hd' : o.dst = some d := by rw [ho] at hd; exact hd
          rw [sv_at ho hd', hd', put_getD, if_pos ⟨rfl, by rw [ti.size]; exact hlt⟩]
          exact hφ
        · rw [getD_set_ne false (Ne.symm hji)] at hlj
          have h := hmono j _ _ _ hj hR (ti.done j hj hlj)
          have : sv ops j (a.put o.dst v) = sv ops j a := by
            unfold sv
            cases hdj : (ops[j]?).bind (·.dst) with
            | none => rfl
            | some dj =>
              cases hd : o.dst with
              | none => rfl
              | some d =>
                obtain ⟨d', hd', _, hne⟩ := hdst i hiN
                have e : d' = d := by rw [ho] at hd'; have := hd'.symm.trans (show (some o).bind (·.dst) = some d from hd); exact Option.some.inj this
                simp only
                rw [put_getD, if_neg (fun hh => hne j hj hji (by rw [hdj, e, hh.1]))]
          rw [this]; exact h
    have hsv : ∀ (i : Nat) (o : Oper) v, i < N → ops[i]? = some o → (∀ j, j < N → j ≠ i → sv ops j (a.put o.dst v) = sv ops j a) ∧ sv ops i (a.put o.dst v) = v := fun i o v hiN ho => by
      obtain ⟨d', hd', hlt, hne⟩ := hdst i hiN
      have hod : o.dst = some d' := by rw [ho] at hd'; exact hd'
      refine ⟨fun j hj hji => ?_, ?_⟩
      · unfold sv
        cases hdj : (ops[j]?).bind (·.dst) with
        | none => rfl
        | some dj =>
          simp only [hod]
          rw [put_getD, if_neg (fun hh => hne j hj hji (by rw [hdj, hh.1]))]
      · rw [sv_at ho hod, hod, put_getD, if_pos ⟨rfl, by rw [ti.size]; exact hlt⟩]
    have hupdp : ∀ (i : Nat) (o : Oper) v, i < N → ops[i]? = some o → (i ∈ S → ∀ j ∈ S, j < N → j ≠ i → listed.getD j false = true → Ψ v (sv ops j a)) →
        ∀ p ∈ S, ∀ q ∈ S, p < N → q < N → p ≠ q → (listed.setIfInBounds i true).getD p false = true → (listed.setIfInBounds i true).getD q false = true → Ψ (sv ops p (a.put o.dst v)) (sv ops q (a.put o.dst v)) := fun i o v hiN ho hv p hp q hq hpN hqN hpq hlp hlq => by
      obtain ⟨k1, k2⟩ := hsv i o v hiN ho
      by_cases hpi : p = i
      · subst hpi
        rw [getD_set_ne false hpq] at hlq
        rw [k2, k1 q hqN (Ne.symm hpq)]
        exact hv hp q hq hqN (Ne.symm hpq) hlq
      · rw [getD_set_ne false (Ne.symm hpi)] at hlp
        by_cases hqi : q = i
        · subst hqi
          rw [k2, k1 p hpN hpi]
          exact hSy _ _ (hv hq p hp hpN hpi hlp)
        · rw [getD_set_ne false (Ne.symm hqi)] at hlq
          rw [k1 p hpN hpi, k1 q hqN hqi]
          exact tp p hp q hq hpN hqN hpq hlp hlq
    have hcnt : ∀ i, i < N → listed.getD i true = false → cntT N (listed.setIfInBounds i true) = m := fun i hiN hun => by
      have := cntT_set hiN (by rw [inv.size]; omega) hun; omega
    by_cases hlo : ∃ i, Lo.contains i = true ∧ i ∈ Region.ready .any ops listed
    · obtain ⟨i, hiL, hi⟩ := hlo
      obtain ⟨hun, o, ho, hwait⟩ := mem_ready.1 hi
      obtain ⟨hiN, hsel, hQ, hfree, hyl⟩ := hloose i hiL
      obtain ⟨v, hy, hφ⟩ := hyl o ho a w (hpre i o ho hwait)
      obtain ⟨d, hd, _⟩ := hdst i hiN
      have hd' : o.dst = some d := by rw [ho] at hd; exact hd
      exact wpAny_first ho hsel (fun c a w h => hQ c a d v w (by rw [hd'] at h; exact h)) _ listed a w (fun j oj hj hne hunj hno => hfree o j oj ho hj hne (fun e he hb hon => by
          have h1 := hwait e he hb
          rw [hon, getD_both hunj] at h1
          cases h1) hno) hi hy
        (ih _ _ _ (hcnt i hiN hun) (inv.set hi hiN) (hupd i o v w hiN ho (hr w) hφ) (hupdp i o v hiN ho fun hS => by rw [hSL i hS] at hiL; cases hiL))
    refine ⟨fun h0 => ?_, fun i hi => ?_⟩
    · obtain ⟨j, _, hj⟩ := first_open inv.size hN hback i0 hi0 hun0
      rw [h0] at hj; cases hj
    · have hiN : i < N := by
        rcases Nat.lt_or_ge i N with h | h
        · exact h
        · have hisz := (Array.getElem?_eq_some_iff.1 (mem_ready.1 hi).2.choose_spec.1).1
          rcases hsc with he | ⟨hs, hc⟩
          · omega
          · rcases Nat.lt_or_ge N ops.size with hN' | hN'
            · obtain ⟨j, hjl, hj⟩ := first_open inv.size hN hback i0 hi0 hun0
              have hjL : Lo.contains j = false := by
                cases hc : Lo.contains j with
                | false => rfl
                | true => exact absurd ⟨j, hc, hj⟩ hlo
              exact absurd hi (tail_waitsL hs hc hN' inv _ j rfl (by omega) hjL (mem_ready.1 hj).1 i h)
            · omega
      obtain ⟨hun, o, ho, hwait⟩ := mem_ready.1 hi
      by_cases hS : i ∈ S
      · exact wpOp_of_tOp hr ho (hpair i o hS hiN ho a w (hpre i o ho hwait)) fun v w' hR hφ => ih _ _ _ (hcnt i hiN hun) (inv.set hi hiN) (hupd i o v w' hiN ho hR hφ.1) (hupdp i o v hiN ho fun _ j hj hjN hji hlj => hφ.2 j hj hji _ (ti.done j hjN hlj))
      · exact wpOp_of_tOp hr ho (hstep i o hiN ho a w (hpre i o ho hwait)) fun v w' hR hφ => ih _ _ _ (hcnt i hiN hun) (inv.set hi hiN) (hupd i o v w' hiN ho hR hφ) (hupdp i o v hiN ho fun h => absurd h hS)

theorem wp_region_typedP {id : Nat} (S : List Nat) (Ψ : Value → Value → Prop) (hSy : ∀ v u, Ψ v u → Ψ u v) {Q : Exit → Act → World → Prop} {w : World} {l : List Oper} (N m : Nat) (Lo : List Nat) (Φs : List (Value → World → Prop)) (hm : P.follows .mixedOrders = true) (hB : Region.typB l.toArray N m Lo = true)
    (hLB : looseM l.toArray N Lo = true) (hQ : Lo ≠ [] → ∀ c (a : Act) (d : Tmp) v w, Q (.panic c) (a.put (some d) v) w → Q (.panic c) a w) (hdet : ∀ i, Lo.contains i = true → ∃ c, phi Φs i = det c) (hsize : a0.tmps.size = m)
    (hr : ∀ w, R w w) (htr : ∀ a b c, R a b → R b c → R a c) (hmono : ∀ i v w w', i < N → R w w' → phi Φs i v w → phi Φs i v w')
    (hsteps : ∀ i o, i < N → l[i]? = some o → ∀ a w', TPre l.toArray R (phi Φs) w.drew a0 N (depsOf N o) a w' → tOp P l.toArray R o a w' (phi Φs i))
    (hSL : ∀ i ∈ S, Lo.contains i = false)
    (hpair : ∀ i o, i ∈ S → i < N → l[i]? = some o → ∀ a w', TPre l.toArray R (phi Φs) w.drew a0 N (depsOf N o) a w' → tOp P l.toArray R o a w' (strong S Ψ (phi Φs) i w'))
    (hend : ∀ w', R w.drew w' → TEnd (phi Φs) (fun a w' => (∀ i ∈ S, ∀ j ∈ S, i < N → j < N → i ≠ j → Ψ (sv l.toArray i a) (sv l.toArray j a)) → wpList P l.toArray Q (l.drop N) a w') w' (l.take N) 0 a0) : (Code.region id l.toArray true).wp P Q a0 w := by
  simp only [Region.typB, Bool.and_eq_true, Bool.or_eq_true, decide_eq_true_eq] at hB
  obtain ⟨⟨⟨⟨hsc, hN⟩, hback⟩, hdst⟩, hseq⟩ := hB
  have hN' : N ≤ l.length := by simpa using hN
  have inv0 : HeadInv .any l.toArray N (Array.replicate l.toArray.size false) :=
    ⟨by simp, fun j oj _ hl => (by rw [getD_replicate_false] at hl; cases hl), fun t _ ht => getD_in (by simpa using ht) (getD_replicate_false _ _)⟩
  refine wp_region_any hm ?_
  have hcnt : cntT N (Array.replicate l.toArray.size false) = N := by
    unfold cntT
    rw [List.filter_eq_self.2, List.length_range]
    intro i hi
    rw [List.mem_range] at hi
    rw [getD_in (by simp; omega) (getD_replicate_false _ _)]; rfl
  have hback' : ∀ (i : Nat) (o : Oper), l.toArray[i]? = some o → ∀ e ∈ o.after, Region.binds .any e = true → e.on < i := fun i o ho e he hb => by
    have hi : i < l.toArray.size := (Array.getElem?_eq_some_iff.1 ho).1
    have h1 := List.all_eq_true.1 hback i (List.mem_range.2 hi)
    simp only [ho] at h1
    have h2 := Array.all_eq_true_iff_forall_mem.1 h1 e he
    rw [hb] at h2
    simpa using h2
  simp only [looseM, Bool.and_eq_true, List.all_eq_true, decide_eq_true_eq] at hLB
  have := wpAny_pair (S := S) (Ψ := Ψ) hSy (P := P) (ops := l.toArray) (R := R) (Φ := phi Φs) (w0 := w.drew) (a0 := a0) (N := N) (Q := Q) (Lo := Lo) hr htr hmono hsc hN hback' hSL (fun i o hS hi ho a w' hp => hpair i o hS hi (by simpa using ho) a w' hp)
    (fun i hiL => by
      have hiL' : i ∈ Lo := by simpa using hiL
      obtain ⟨h1, h2⟩ := hLB.2 i hiL'
      refine ⟨h1, Region.noSelect_spec hLB.1, hQ (fun e => by rw [e] at hiL'; cases hiL'), fun oi j oj hi hj hne hdep hno => ?_, fun o ho a w hp => ?_⟩
      · simp only [hi, Bool.and_eq_true, List.all_eq_true, Bool.or_eq_true, beq_iff_eq] at h2
        have h3 := h2.2 j (List.mem_range.2 (Array.getElem?_eq_some_iff.1 hj).1)
        rcases h3 with (h3 | h3) | h3
        · exact absurd h3 hne
        · obtain ⟨e, he, hb⟩ := Array.any_eq_true'.1 h3
          simp only [Bool.and_eq_true, beq_iff_eq] at hb
          exact absurd hb.2 (hdep e he hb.1)
        · simp only [hj, Bool.or_eq_true] at h3
          rcases h3 with h3 | h3
          · obtain ⟨e, he, hb⟩ := Array.any_eq_true'.1 h3
            simp only [Bool.and_eq_true, beq_iff_eq] at hb
            exact absurd hb.2 (hno e he hb.1)
          · exact h3
      · simp only [ho, Bool.and_eq_true] at h2
        obtain ⟨c, hc⟩ := hdet i hiL
        have ht := hsteps i o h1 (by simpa using ho) a w hp
        rw [hc] at ht ⊢
        cases hop : o.op with
        | extract x n =>
          rw [hop] at h2
          obtain ⟨v, hy, w', hv⟩ := extract_yields (R := R) hop (by simpa using h2.1) ht
          exact ⟨v, hy, hv⟩
        | move x =>
          rw [hop] at h2
          obtain ⟨v, hy, w', hv⟩ := move_yields (R := R) hop (by simpa using h2.1) ht
          exact ⟨v, hy, hv⟩
        | _ => rw [hop] at h2; simp at h2)
    (fun i hi => by
      have h1 := List.all_eq_true.1 hdst i (List.mem_range.2 hi)
      cases hd : (l.toArray[i]?).bind (·.dst) with
      | none => simp only [hd] at h1; cases h1
      | some d =>
        simp only [hd, Bool.and_eq_true, decide_eq_true_eq] at h1
        refine ⟨d, rfl, by rw [hsize]; exact h1.1, fun j hj hji => ?_⟩
        have h2 := List.all_eq_true.1 h1.2 j (List.mem_range.2 hj)
        simp only [Bool.or_eq_true, decide_eq_true_eq] at h2
        exact h2.resolve_left hji)
    hseq
    (fun i o hi ho a w' hp => hsteps i o hi (by simpa using ho) a w' hp)
    (by simpa using hend) N _ a0 w.drew hcnt inv0
    ⟨hr _, rfl, rfl, fun _ _ => rfl, fun j _ hj => by rw [getD_replicate_false] at hj; cases hj⟩
    (fun _ _ _ _ _ _ _ hl _ => by rw [getD_replicate_false] at hl; cases hl)
  rwa [show N + (l.toArray.size - N) = l.toArray.size by omega] at this

end

section
variable {P : Program} {ops : Array Oper} {R : World → World → Prop} {w0 : World} {a0 : Act} {N : Nat}

/-- As LateAt, for an operation with siblings: sib tells the others' kinds. -/
def PairAt (P : Program) (ops : Array Oper) (R : World → World → Prop) (w0 : World) (o : Oper) (ds : List Tmp) (φ : Pred) (sib : List Pred) (Ψ : Value → Value → Prop) (pre : List (Tmp × Pred)) (a : Act) (next : List (Tmp × Pred) → Act → Prop) : Prop :=
  (∀ v w w', R w w' → φ v w → φ v w') ∧ (∀ x : Beh R w0, withGens ds (fun A w => tOp P ops R o A w (fun v w' => φ v w' ∧ ∀ ψ ∈ sib, ∀ u, ψ u w → Ψ v u)) pre a x.w) ∧ next (pre ++ [(o.dst.getD 0, φ)]) (a.put o.dst undef)

/-- As Late; an operation of the plan with siblings (a list that is not empty) is shown apart from them. -/
def LateP (P : Program) (ops : Array Oper) (R : World → World → Prop) (w0 : World) (Ψ : Value → Value → Prop) (Fin : List (Tmp × Pred) → Act → Prop) : List (Nat × List Tmp × Option Pred × List Pred) → Nat → List Oper → List (Tmp × Pred) → Act → Prop
  | [], _, l, pre, a => wpQuiet P ops (fun w => ∃ x : Beh R w0, w = x.w) (fun a' => Fin pre a') l a
  | (k, ds, s, sib) :: plan, i, l, pre, a => wpQuiet P ops (fun w => ∃ x : Beh R w0, w = x.w) (fun a' => match l.drop (k - i) with
      | [] => False
      | o :: l' => match s, sib with
        | some φ, ψ :: sib' => PairAt P ops R w0 o ds φ (ψ :: sib') Ψ pre a' (fun pre' a'' => LateP P ops R w0 Ψ Fin plan (k + 1) l' pre' a'')
        | s, _ => LateAt P ops R w0 o ds s pre a' (fun pre' a'' => LateP P ops R w0 Ψ Fin plan (k + 1) l' pre' a'')) (l.take (k - i)) a

/-- What is shown of operation k with siblings. -/
def PStep (P : Program) (ops : Array Oper) (R : World → World → Prop) (w0 : World) (a0 : Act) (N : Nat) (ps : List Pred) (k : Nat) (sib : List Pred) (Ψ : Value → Value → Prop) : Prop :=
  ∀ o, ops[k]? = some o → ∀ a w, TPre ops R (phi (ps.take k)) w0 a0 N (depsOf N o) a w → tOp P ops R o a w (fun v w' => phi ps k v w' ∧ ∀ ψ ∈ sib, ∀ u, ψ u w → Ψ v u)

section
variable {gen : Nat → Bool} {Ψ : Value → Value → Prop} (hsel : ∀ (j : Nat) (o : Oper) cs b, ops[j]? = some o → o.op ≠ .select cs b)
  (hdst : ∀ i, i < N → ∃ d, dstOf ops i = some d ∧ d < a0.tmps.size ∧ ∀ j, j < N → j ≠ i → dstOf ops j ≠ some d)
  (hlook : ∀ i o, i < N → ops[i]? = some o → ∀ s ∈ o.looksAt ops, (∀ j, j < N → dstOf ops j ≠ some s) ∨ ∃ j ∈ depsOf N o, j < i ∧ dstOf ops j = some s)
include hsel hdst hlook

def flat4 (plan : List (Nat × List Tmp × Option Pred × List Pred)) : List (Nat × List Tmp × Option Pred) := plan.map fun p => (p.1, p.2.1, p.2.2.1)

omit hsel hdst hlook in
theorem withGens_mono {ds : List Tmp} {G H : Act → World → Prop} (h : ∀ A w, G A w → H A w) : ∀ (pre : List (Tmp × Pred)) (a : Act) (w : World), withGens ds G pre a w → withGens ds H pre a w
  | [], _, _, hg => h _ _ hg
  | (d, φ) :: pre, a, w, hg => by
    simp only [withGens] at hg ⊢
    split at hg
    · rename_i hc; rw [if_pos hc]; exact fun v hv => withGens_mono h pre _ w (hg v hv)
    · rename_i hc; rw [if_neg hc]; exact withGens_mono h pre _ w hg

theorem pair_steps (hr : ∀ w, R w w) (htr : ∀ a b c, R a b → R b c → R a c) {Fin : List (Tmp × Pred) → Act → Prop} : ∀ (plan : List (Nat × List Tmp × Option Pred × List Pred)) (i : Nat) (l : List Oper) (ps : List Pred) (pre : List (Tmp × Pred)) (a : Act),
    i + l.length = N → Sorted N i (flat4 plan) → (∀ j, j < l.length → l[j]? = ops[i + j]?) →
    (∀ j o, i ≤ j → j < N → ops[j]? = some o → okAt ops N gen o j (planAt (flat4 plan) j)) →
    LJ ops a0 N gen i ps pre a → LateP P ops R w0 Ψ Fin plan i l pre a →
    ∃ t pre' a', t.length = l.length ∧ LJ ops a0 N gen N (ps ++ t) pre' a' ∧ Fin pre' a' ∧ (∀ k, i ≤ k → k < N → LStep P ops R w0 a0 N (ps ++ t) k) ∧ ∀ k ds φ sib, (k, ds, some φ, sib) ∈ plan → sib ≠ [] → phi (ps ++ t) k = φ ∧ PStep P ops R w0 a0 N (ps ++ t) k sib Ψ
  | [], i, l, ps, pre, a, hN, _, hl, hok, hJ, h => by
    obtain ⟨t, a', ht, hJ', hF, hall⟩ := quiet_steps hsel hdst hlook hr htr l i ps pre a (by omega) hl (fun j o h1 h2 ho => hok j o h1 (by omega) ho) hJ h
    rw [hN] at hJ' hall
    exact ⟨t, pre, a', ht, hJ', hF, hall, fun _ _ _ _ h => by cases h⟩
  | (k, ds, s, sib) :: plan, i, l, ps, pre, a, hN, hS, hl, hok, hJ, h => by
    obtain ⟨hik, hkN, hS'⟩ := hS
    have hlen : (l.take (k - i)).length = k - i := by rw [List.length_take]; omega
    have hnone : ∀ j, j < k → planAt (flat4 ((k, ds, s, sib) :: plan)) j = none := fun j hj => by
      have := hS'.least j (by omega)
      unfold planAt flat4 at *
      rw [List.map_cons, List.find?_cons_of_neg (by simp; omega)]
      exact this
    obtain ⟨t, a', ht, hJ', hQ, hall⟩ := quiet_steps hsel hdst hlook hr htr (l.take (k - i)) i ps pre a (by omega) (fun j hj => by rw [List.getElem?_take, if_pos (by omega)]; exact hl j (by omega))
      (fun j o h1 h2 ho => by have := hok j o h1 (by omega) ho; rw [hnone j (by omega)] at this; exact this) hJ h
    rw [hlen, show i + (k - i) = k by omega] at hJ' hall
    cases hd : l.drop (k - i) with
    | nil => rw [hd] at hQ; exact hQ.elim
    | cons o l' =>
      rw [hd] at hQ
      simp only at hQ
      have hll : (o :: l').length = l.length - (k - i) := by rw [← hd, List.length_drop]
      simp only [List.length_cons] at hll
      have hld : ∀ j, j < l'.length + 1 → (o :: l')[j]? = ops[k + j]? := fun j hj => by
        rw [← hd, List.getElem?_drop, hl (k - i + j) (by omega), show i + (k - i + j) = k + j by omega]
      have ho : ops[k]? = some o := by simpa using (hld 0 (by omega)).symm
      have hok' := hok k o hik hkN ho
      have hat : planAt (flat4 ((k, ds, s, sib) :: plan)) k = some (ds, s.isSome) := by unfold planAt flat4; rw [List.map_cons, List.find?_cons_of_pos (by simp)]; rfl
      rw [hat] at hok'
      obtain ⟨hgk, hds1, hds2⟩ := hok'
      -- the triple, carried to whatever frame comes up
      have carry : ∀ (φ : World → Pred) (hall' : ∀ x : Beh R w0, withGens ds (fun A w => tOp P ops R o A w (φ w)) pre a' x.w) (a1 : Act) (w1 : World), TPre ops R (phi (ps ++ t)) w0 a0 N (depsOf N o) a1 w1 → tOp P ops R o a1 w1 (φ w1) := fun φ hall' a1 w1 hp => by
        have h1 := withGens_apply (ds := ds) a1 w1 pre a' (fun p hp1 hp2 => ?_) (hall' ⟨w1, hp.world⟩)
        · have hag := hJ'.agree hdst hlook hkN ho (fun _ _ => rfl) hp ds hds2
          refine tOp_congr (hsel k o · · ho) ?_ hag h1
          rw [(putG_keep a1 _ a').1, hJ'.size, hp.size]
        · obtain ⟨j, hj, hgj, hdj, e⟩ := hJ'.pre p hp1
          rw [e]
          rcases hlook k o hkN ho p.1 (hds1 p.1 (by simpa using hp2)) with hout | ⟨j', hj', hji', hd'⟩
          · exact absurd hdj (hout j (by omega))
          · obtain ⟨d, hd1, _, hne⟩ := hdst j (by omega)
            have ed : d = p.1 := by rw [hdj] at hd1; injection hd1 with e; exact e.symm
            have ejj : j' = j := Decidable.byContradiction fun hh => hne j' (by omega) hh (by rw [hd', ed])
            subst ejj
            have h3 := hp.done j' hj'
            unfold sv at h3
            unfold dstOf at hdj
            rw [hdj] at h3
            exact h3
      have hSl : l'.length = N - (k + 1) := by omega
      have hok2 : ∀ j o, k + 1 ≤ j → j < N → ops[j]? = some o → okAt ops N gen o j (planAt (flat4 plan) j) := fun j o' h1 h2 ho' => by
        have := hok j o' (by omega) h2 ho'
        unfold planAt flat4 at *
        rwa [List.map_cons, List.find?_cons_of_neg (by simp; omega)] at this
      have hl2 : ∀ j, j < l'.length → l'[j]? = ops[k + 1 + j]? := fun j hj => by have := hld (j + 1) (by omega); simpa [Nat.add_assoc, Nat.add_comm 1 j] using this
      have fin : ∀ (φ : Pred) (pre2 : List (Tmp × Pred)) (a2 : Act), (∀ v w w', R w w' → φ v w → φ v w') → (∀ x : Beh R w0, withGens ds (fun A w => tOp P ops R o A w φ) pre a' x.w) →
          (∀ φ', s = some φ' → sib ≠ [] → φ = φ' ∧ ∀ x : Beh R w0, withGens ds (fun A w => tOp P ops R o A w (fun v w' => φ v w' ∧ ∀ ψ ∈ sib, ∀ u, ψ u w → Ψ v u)) pre a' x.w) →
          LJ ops a0 N gen (k + 1) (ps ++ t ++ [φ]) pre2 a2 → LateP P ops R w0 Ψ Fin plan (k + 1) l' pre2 a2 →
          ∃ t pre' a', t.length = l.length ∧ LJ ops a0 N gen N (ps ++ t) pre' a' ∧ Fin pre' a' ∧ (∀ k, i ≤ k → k < N → LStep P ops R w0 a0 N (ps ++ t) k) ∧ ∀ k' ds' φ sib', (k', ds', some φ, sib') ∈ (k, ds, s, sib) :: plan → sib' ≠ [] → phi (ps ++ t) k' = φ ∧ PStep P ops R w0 a0 N (ps ++ t) k' sib' Ψ := fun φ pre2 a2 hm htri hstr hJ2 hL => by
        obtain ⟨t2, pre', a3, ht2, hJ3, hF, hall3, hP3⟩ := pair_steps hr htr plan (k + 1) l' _ pre2 a2 (by omega) hS' hl2 hok2 hJ2 hL
        have e : ps ++ t ++ [φ] ++ t2 = ps ++ (t ++ φ :: t2) := by simp
        have hlt : (ps ++ t).length = k := hJ'.len
        rw [e] at hJ3 hall3 hP3
        have hpi : phi (ps ++ (t ++ φ :: t2)) k = φ := by
          rw [← List.append_assoc]
          unfold phi
          rw [List.getD_eq_getElem?_getD, List.getElem?_append_right (by rw [hlt]; exact Nat.le_refl _), hlt]
          simp
        have htk : (ps ++ (t ++ φ :: t2)).take k = ps ++ t := by rw [← List.append_assoc]; exact List.take_left' hlt
        refine ⟨t ++ φ :: t2, pre', a3, by simp [ht, ht2, hlen]; omega, hJ3, hF, fun q h1 h2 => ?_, fun k' ds' φ2 sib' hmem hne => ?_⟩
        · rcases Nat.lt_trichotomy q k with hq | hq | hq
          · have := (hall q h1 hq).grow (t := φ :: t2) (by rw [hlt]; exact hq)
            rwa [List.append_assoc] at this
          · subst hq
            refine ⟨by rw [hpi]; exact hm, fun o' ho' a1 w1 hp => ?_⟩
            obtain rfl : o = o' := Option.some.inj (ho.symm.trans ho')
            rw [hpi]
            rw [htk] at hp
            exact carry (fun _ => φ) htri a1 w1 hp
          · exact hall3 q (by omega) h2
        · rcases List.mem_cons.1 hmem with e1 | hmem
          · injection e1 with e1 e2; injection e2 with e2 e3; injection e3 with e3 e4
            subst e1 e2 e4
            obtain ⟨rfl, hst⟩ := hstr φ2 e3.symm hne
            refine ⟨hpi, fun o' ho' a1 w1 hp => ?_⟩
            obtain rfl : o = o' := Option.some.inj (ho.symm.trans ho')
            rw [hpi]
            rw [htk] at hp
            exact carry (fun w v w' => φ v w' ∧ ∀ ψ ∈ sib', ∀ u, ψ u w → Ψ v u) hst a1 w1 hp
          · exact hP3 k' ds' φ2 sib' hmem hne
      cases s with
      | none =>
        obtain ⟨c, htri, hL⟩ := hQ
        exact fin _ _ _ (det_mono c) htri (fun _ h => by cases h) (hJ'.snoc_det hkN hgk ho c hdst) hL
      | some φ =>
        cases sib with
        | nil =>
          obtain ⟨hm, htri, hL⟩ := hQ
          exact fin _ _ _ hm htri (fun _ _ h => absurd rfl h) (hJ'.snoc_gen hkN hgk ho φ undef hdst) hL
        | cons ψ sib' =>
          obtain ⟨hm, htri, hL⟩ := hQ
          refine fin _ _ _ hm (fun x => withGens_mono (fun A w h => tOp_mono (fun _ _ h => h.1) h) pre a' x.w (htri x)) (fun φ' h _ => ?_) (hJ'.snoc_gen hkN hgk ho φ undef hdst) hL
          injection h with h
          exact ⟨h, htri⟩

end

theorem wp_region_pair {id : Nat} (Ψ : Value → Value → Prop) {Q : Exit → Act → World → Prop} {w : World} {l : List Oper} (N m : Nat) (Lo : List Nat) (plan : List (Nat × List Tmp × Option Pred × List Pred)) (S : List Nat) (D : List Tmp) (hm : P.follows .mixedOrders = true) (hB : Region.typB l.toArray N m Lo = true)
    (hB2 : Late.okB l.toArray N (planB (flat4 plan)) = true) (hLB : (looseM l.toArray N Lo && Lo.all fun i => !Late.genB (planB (flat4 plan)) i) = true) (hQ : Lo ≠ [] → ∀ c (a : Act) (d : Tmp) v w, Q (.panic c) (a.put (some d) v) w → Q (.panic c) a w) (hsize : a0.tmps.size = m) (hr : ∀ w, R w w) (htr : ∀ a b c, R a b → R b c → R a c)
    (hSy : ∀ v u, Ψ v u → Ψ u v) (hS : S.map (dstOf l.toArray) = D.map some ∧ S.Pairwise (· ≠ ·) ∧ (∀ i ∈ S, i < N ∧ Lo.contains i = false)) (hsib : ∀ i ∈ S, ∃ ds φ sib, (i, ds, some φ, sib) ∈ plan ∧ sib ≠ [] ∧ ∀ j ∈ S, j ≠ i → ∃ ds' φ' sib', (j, ds', some φ', sib') ∈ plan ∧ sib' ≠ [] ∧ φ' ∈ sib)
    (h : LateP P l.toArray R w.drew Ψ (fun pre a => ∀ x : Beh R w.drew, allGens (fun A w' => (D.Pairwise fun d e => Ψ (A.tmps.getD d undef) (A.tmps.getD e undef)) → wpList P l.toArray Q (l.drop N) A w') pre a x.w) plan 0 (l.take N) [] a0) : (Code.region id l.toArray true).wp P Q a0 w := by
  have hB0 := hB
  simp only [Region.typB, Bool.and_eq_true, Bool.or_eq_true, decide_eq_true_eq] at hB
  obtain ⟨⟨⟨⟨_, hN⟩, hback⟩, hdst0⟩, _⟩ := hB
  have hN' : N ≤ l.length := by simpa using hN
  have hdst : ∀ i, i < N → ∃ d, dstOf l.toArray i = some d ∧ d < a0.tmps.size ∧ ∀ j, j < N → j ≠ i → dstOf l.toArray j ≠ some d := fun i hi => by
    have h1 := List.all_eq_true.1 hdst0 i (List.mem_range.2 hi)
    unfold dstOf
    cases hd : (l.toArray[i]?).bind (·.dst) with
    | none => simp only [hd] at h1; cases h1
    | some d =>
      simp only [hd, Bool.and_eq_true, decide_eq_true_eq] at h1
      refine ⟨d, rfl, by rw [hsize]; exact h1.1, fun j hj hji => ?_⟩
      have h2 := List.all_eq_true.1 h1.2 j (List.mem_range.2 hj)
      simp only [Bool.or_eq_true, decide_eq_true_eq] at h2
      exact h2.resolve_left hji
  have hB2' := hB2
  simp only [Late.okB, Bool.and_eq_true] at hB2'
  have hsel := Region.noSelect_spec hB2'.1.1
  have hlook : ∀ i o, i < N → l.toArray[i]? = some o → ∀ s ∈ o.looksAt l.toArray, (∀ j, j < N → dstOf l.toArray j ≠ some s) ∨ ∃ j ∈ depsOf N o, j < i ∧ dstOf l.toArray j = some s := fun i o hi ho s hs => by
    rcases (okAt_of_B hB2 i o hi ho).2 s hs with h1 | ⟨k, hk, hd⟩
    · exact .inl (outB_spec h1)
    · refine .inr ⟨k, hk, ?_, hd⟩
      simp only [depsOf, List.mem_map, List.mem_filter] at hk
      obtain ⟨e, ⟨he, hb⟩, rfl⟩ := hk
      have h1 := List.all_eq_true.1 hback i (List.mem_range.2 (by simp; omega))
      simp only [ho] at h1
      have h2 := Array.all_eq_true_iff_forall_mem.1 h1 e (by simpa using he)
      simp only [Bool.and_eq_true] at hb
      rw [hb.1] at h2
      simpa using h2
  have hl0 : ∀ j, j < (l.take N).length → (l.take N)[j]? = l.toArray[0 + j]? := fun j hj => by rw [List.length_take] at hj; rw [List.getElem?_take, if_pos (by omega)]; simp
  have hlen : (l.take N).length = N := by rw [List.length_take]; omega
  obtain ⟨ps, pre', a', hps, hJ, hF, hall, hPP⟩ := pair_steps (gen := Late.genB (planB (flat4 plan))) hsel hdst hlook hr htr plan 0 (l.take N) [] [] a0 (by omega) (sorted_of_B (flat4 plan) 0 hB2'.1.2) hl0 (fun j o _ hj ho => (okAt_of_B hB2 j o hj ho).1)
    ⟨rfl, rfl, rfl, fun _ _ => rfl, fun j hj => by omega, fun j _ hj => by omega, fun p hp => by simp at hp⟩ h
  simp only [List.nil_append] at hJ hall hPP
  rw [Bool.and_eq_true] at hLB
  have hdetL : ∀ i, Lo.contains i = true → ∃ c, phi ps i = det c := fun i hi => by
    have hi' : i ∈ Lo := by simpa using hi
    have h1 := List.all_eq_true.1 hLB.2 i hi'
    have h2 : i < N := by
      have h3 := hLB.1
      simp only [looseM, Bool.and_eq_true, List.all_eq_true, decide_eq_true_eq] at h3
      exact (h3.2 i hi').1
    obtain ⟨c, hc, _⟩ := hJ.det i h2 (by simpa using h1)
    exact ⟨c, hc⟩
  have htake : ∀ (i : Nat) (o : Oper), i < N → l[i]? = some o → ∀ a w', TPre l.toArray R (phi ps) w.drew a0 N (depsOf N o) a w' → TPre l.toArray R (phi (ps.take i)) w.drew a0 N (depsOf N o) a w' := fun i o hi ho a w' hp => by
    refine ⟨hp.world, hp.size, hp.outside, fun j hj => ?_⟩
    have hlt : j < i := by
      simp only [depsOf, List.mem_map, List.mem_filter] at hj
      obtain ⟨e, ⟨he, hb⟩, rfl⟩ := hj
      have h1 := List.all_eq_true.1 hback i (List.mem_range.2 (by simp; omega))
      simp only [List.getElem?_toArray, ho] at h1
      have h2 := Array.all_eq_true_iff_forall_mem.1 h1 e (by simpa using he)
      simp only [Bool.and_eq_true] at hb
      rw [hb.1] at h2
      simpa using h2
    have h1 := hp.done j hj
    have e : phi ps j = phi (ps.take i) j := by
      have := phi_append (ps.take i) (ps.drop i) j (by rw [List.length_take, hJ.len]; omega)
      rwa [List.take_append_drop] at this
    rwa [e] at h1
  refine wp_region_typedP S Ψ hSy N m Lo ps hm hB0 hLB.1 hQ hdetL hsize hr htr (fun i v w w' hi hR hp => (hall i (by omega) hi).1 v w w' hR hp) (fun i o hi ho a w' hp => (hall i (by omega) hi).2 o (by simpa using ho) a w' (htake i o hi ho a w' hp)) (fun i hi => (hS.2.2 i hi).2)
    (fun i o hiS hi ho a w' hp => ?_) (fun w' hw' => ?_)
  · obtain ⟨ds, φ, sib, hm1, hne, hoth⟩ := hsib i hiS
    obtain ⟨e1, hst⟩ := hPP i ds φ sib hm1 hne
    refine tOp_mono (φ := fun v w2 => phi ps i v w2 ∧ ∀ ψ ∈ sib, ∀ u, ψ u w' → Ψ v u) (fun v w2 h => ?_) (hst o (by simpa using ho) a w' (htake i o hi ho a w' hp))
    refine ⟨h.1, fun j hj hji u hu => ?_⟩
    obtain ⟨ds', φ', sib', hm2, hne2, hin⟩ := hoth j hj hji
    obtain ⟨e2, _⟩ := hPP j ds' φ' sib' hm2 hne2
    rw [e2] at hu
    exact h.2 φ' hin u hu
  · refine tEnd_intro hdst (fun F hF1 hF2 hF3 hF4 hpairs => ?_) (l.take N) 0 a0 hl0 (by omega) rfl rfl (fun _ _ => rfl) (fun j _ hj => by omega)
    have h1 := allGens_apply F w' pre' a' (fun p hp => by
      obtain ⟨j, hj, _, hd, e⟩ := hJ.pre p hp
      rw [e]; exact hF4 j _ hj hd) (hF ⟨w', hw'⟩)
    have ea : putG F pre' a' = F := by
      have h2 := putG_keep F pre' a'
      have h3 : (putG F pre' a').tmps = F.tmps := by
        apply Array.ext (by rw [h2.1, hJ.size, hF1])
        intro s h4 h5
        have h6 : (putG F pre' a').tmps.getD s undef = F.tmps.getD s undef := by
          by_cases hnot : (∃ p ∈ pre', p.1 = s) ∧ s < a'.tmps.size
          · rw [putG_at, if_pos hnot]
          · rw [putG_at, if_neg hnot]
            by_cases hh : ∃ j, j < N ∧ dstOf l.toArray j = some s
            · obtain ⟨j, hj, hd⟩ := hh
              cases hg : Late.genB (planB (flat4 plan)) j with
              | true => exact absurd ⟨⟨_, hJ.gens j s hj hg hd, rfl⟩, by rw [← h2.1]; exact h4⟩ hnot
              | false =>
                obtain ⟨c, h7, h8⟩ := hJ.det j hj hg
                have h9 := hF4 j s hj hd
                rw [h7] at h9
                rw [h8 s hd]
                exact h9.symm
            · have hout : ∀ j, j < N → dstOf l.toArray j ≠ some s := fun j hj hd => hh ⟨j, hj, hd⟩
              rw [hJ.out s hout, hF3 s hout]
        simpa [Array.getD, h4, h5] using h6
      have h4 := h2.2.trans (hJ.defers.trans hF2.symm)
      cases hx : putG F pre' a'
      cases F
      rw [hx] at h3 h4
      simp only at h3 h4
      rw [h3, h4]
    rw [ea] at h1
    refine h1 ?_
    have hsv : ∀ (S : List Nat) (D : List Tmp), S.map (dstOf l.toArray) = D.map some → (∀ i ∈ S, i < N) → S.Pairwise (· ≠ ·) → (∀ i ∈ S, ∀ j ∈ S, i < N → j < N → i ≠ j → Ψ (sv l.toArray i F) (sv l.toArray j F)) → D.Pairwise fun d e => Ψ (F.tmps.getD d undef) (F.tmps.getD e undef) := by
      intro S
      induction S with
      | nil => intro D hD _ _ _; cases D with
        | nil => exact List.Pairwise.nil
        | cons d D => simp at hD
      | cons i S ih =>
        intro D hD hlt hpw hps
        cases D with
        | nil => simp at hD
        | cons d D =>
          simp only [List.map_cons, List.cons.injEq] at hD
          rw [List.pairwise_cons] at hpw ⊢
          refine ⟨fun e he => ?_, ih D hD.2 (fun j hj => hlt j (by simp [hj])) hpw.2 fun p hp q hq => hps p (by simp [hp]) q (by simp [hq])⟩
          have : some e ∈ S.map (dstOf l.toArray) := by rw [hD.2]; exact List.mem_map.2 ⟨e, he, rfl⟩
          obtain ⟨j, hj, hde⟩ := List.mem_map.1 this
          have h2 := hps i (by simp) j (by simp [hj]) (hlt i (by simp)) (hlt j (by simp [hj])) (hpw.1 j hj)
          have h3 := hD.1
          unfold sv at h2
          unfold dstOf at hde h3
          rw [hde, h3] at h2
          exact h2
    exact hsv S D hS.1 (fun i hi => (hS.2.2 i hi).1) hS.2.1 hpairs

end


theorem setL_get : ∀ (vs : List Value) (o : Nat) (cur : Array Value), o + vs.length ≤ cur.size → ∀ i, i < vs.length → (setL cur o vs)[o + i]? = vs[i]?
  | [], _, _, _, i, hi => by simp at hi
  | v :: r, o, cur, h, i, hi => by
    simp only [List.length_cons] at h hi
    cases i with
    | zero =>
      have h1 := setL_take (m := o + 1) r (o + 1) (cur.setIfInBounds o v) (Nat.le_refl _)
      have h2 : ((setL (cur.setIfInBounds o v) (o + 1) r).toList.take (o + 1))[o]? = some v := by
        rw [h1, List.getElem?_take, if_pos (by omega), Array.getElem?_toList, Array.getElem?_setIfInBounds]
        simp; omega
      rw [List.getElem?_take, if_pos (by omega), Array.getElem?_toList] at h2
      simp only [setL, Nat.add_zero, h2, List.getElem?_cons_zero]
    | succ i =>
      rw [setL, show o + (i + 1) = o + 1 + i by omega, setL_get r (o + 1) _ (by simp; omega) i (by omega)]
      rfl
theorem setL_idem (vs : List Value) (o : Nat) (cur : Array Value) (h : o + vs.length ≤ cur.size) : setL (setL cur o vs) o vs = setL cur o vs :=
  setL_same _ _ _ fun i hi => setL_get vs o cur h i hi

/-- New blocks, and of each write (block, first cell, cells) nothing or all. -/
structure RW (Ws : List (Nat × Nat × List Value)) (w w' : World) : Prop where
  os : w'.os = w.os
  tape : w'.tape = w.tape
  output : w'.output = w.output
  size : w.heap.size ≤ w'.heap.size
  block : ∀ k, k < w.heap.size → w'.heap[k]? = w.heap[k]? ∨ ∃ o cs cur t, (k, o, cs) ∈ Ws ∧ w.heap[k]? = some (.cells cur t (0, 0)) ∧ o + cs.length ≤ cur.size ∧ w'.heap[k]? = some (.cells (setL cur o cs) t (0, 0))

theorem RW.refl (Ws : List (Nat × Nat × List Value)) (w : World) : RW Ws w w := ⟨rfl, rfl, rfl, Nat.le_refl _, fun _ _ => .inl rfl⟩
theorem RW.of_le {Ws : List (Nat × Nat × List Value)} {w w' : World} (h : LeW w w') : RW Ws w w' := ⟨h.os, h.tape, h.output, h.size, fun k hk => .inl (h.block k hk)⟩
theorem RW.trans {Ws : List (Nat × Nat × List Value)} (hW : ∀ k o cs o' cs', (k, o, cs) ∈ Ws → (k, o', cs') ∈ Ws → o = o' ∧ cs = cs') {a b c : World} (h : RW Ws a b) (k : RW Ws b c) : RW Ws a c := by
  refine ⟨k.os.trans h.os, k.tape.trans h.tape, k.output.trans h.output, Nat.le_trans h.size k.size, fun i hi => ?_⟩
  rcases h.block i hi with h1 | ⟨o, cs, cur, t, hm, h1, h2, h3⟩
  · rcases k.block i (Nat.lt_of_lt_of_le hi h.size) with h4 | ⟨o, cs, cur, t, hm, h4, h5, h6⟩
    · exact .inl (h4.trans h1)
    · exact .inr ⟨o, cs, cur, t, hm, h1.symm.trans h4, h5, h6⟩
  · rcases k.block i (Nat.lt_of_lt_of_le hi h.size) with h4 | ⟨o', cs', cur', t', hm', h4, h5, h6⟩
    · exact .inr ⟨o, cs, cur, t, hm, h1, h2, h4.trans h3⟩
    · obtain ⟨rfl, rfl⟩ := hW _ _ _ _ _ hm hm'
      rw [h3] at h4
      injection h4 with h4
      injection h4 with h4 h7
      subst h4 h7
      rw [setL_idem _ _ _ h2] at h6
      exact .inr ⟨o, cs, cur, t, hm, h1, h2, h6⟩
theorem RW.below {Ws : List (Nat × Nat × List Value)} {w w' : World} {B : Nat} (h : RW Ws w w') (hB : B ≤ w.heap.size) (hW : ∀ k o cs, (k, o, cs) ∈ Ws → B ≤ k) : Below B w w' :=
  ⟨h.os, h.tape, h.output, h.size, fun k hk => (h.block k (by omega)).resolve_right fun ⟨_, _, _, _, hm, _⟩ => by have := hW _ _ _ hm; omega⟩
theorem RW.same {Ws : List (Nat × Nat × List Value)} {w w' : World} {k : Nat} (h : RW Ws w w') (hk : k < w.heap.size) (hW : ∀ o cs, (k, o, cs) ∉ Ws) : w'.heap[k]? = w.heap[k]? :=
  (h.block k hk).resolve_right fun ⟨_, _, _, _, hm, _⟩ => hW _ _ hm

theorem freshS_rw {Ws : List (Nat × Nat × List Value)} {S : Nat} {cs : Array Value} {e n : Nat} (hW : ∀ k o cs, (k, o, cs) ∈ Ws → k < S) : ∀ v w w', RW Ws w w' → freshS S cs e n v w → freshS S cs e n v w' := fun v w w' hR ⟨g, h1, h2, h3⟩ =>
  ⟨g, h1, h2, by rw [hR.same (Array.getElem?_eq_some_iff.1 h3).1 (fun o cs hm => by have := hW _ _ _ hm; omega)]; exact h3⟩
theorem fresh_rw {Ws : List (Nat × Nat × List Value)} {S : Nat} {cs : Array Value} {T : TypeId} (hW : ∀ k o cs, (k, o, cs) ∈ Ws → k < S) : ∀ v w w', RW Ws w w' → fresh S cs T v w → fresh S cs T v w' := fun v w w' hR ⟨g, h1, h2, h3⟩ =>
  ⟨g, h1, h2, by rw [hR.same (Array.getElem?_eq_some_iff.1 h3).1 (fun o cs hm => by have := hW _ _ _ hm; omega)]; exact h3⟩

/-- A list that the writes leave: they lie behind it, or are its own cells. -/
def Fits {α : Type} (c : α → List Value) (size : Nat) (Ws : List (Nat × Nat × List Value)) (v : Value) (L : List α) : Prop :=
  ∀ k o cs, (k, o, cs) ∈ Ws → v.ownBlock = some k → L.length * size ≤ o ∨ o + cs.length ≤ L.length * size ∧ ∀ i, i < cs.length → (L.flatMap c)[o + i]? = cs[i]?

theorem own_rw {α : Type} {c : α → List Value} {e size : Nat} {Ws : List (Nat × Nat × List Value)} {w w' : World} {B : Nat} {v : Value} {L : List α} (h : Own c e size w B v L) (hR : RW Ws w w') (hF : Fits c size Ws v L) : Own c e size w' B v L := by
  refine ⟨h.1, ?_⟩
  rcases h.2 with ⟨hv, h0⟩ | ⟨g, cap, cur, rfl, hB, hg, h1, h2, h3, h4⟩
  · exact .inl ⟨hv, h0⟩
  · rcases hR.block g (Array.getElem?_eq_some_iff.1 hg).1 with h5 | ⟨o, cs, cur', t, hm, h5, h6, h7⟩
    · exact .inr ⟨g, cap, cur, rfl, hB, h5.trans hg, h1, h2, h3, h4⟩
    · rw [hg] at h5
      injection h5 with h5
      injection h5 with h5 h8
      subst h5 h8
      refine .inr ⟨g, cap, _, rfl, hB, h7, h1, h2, by rw [setL_size]; exact h3, ?_⟩
      rcases hF g o cs hm rfl with h9 | ⟨h9, h10⟩
      · rw [setL_take _ _ _ h9]; exact h4
      · have e1 : setL cur o cs = cur := setL_same _ _ _ fun i hi => by
          rw [← h10 i hi, ← h4, List.getElem?_take, if_pos (by omega), Array.getElem?_toList]
        rw [e1]; exact h4

theorem Own.lt {α : Type} {c : α → List Value} {e size : Nat} {w : World} {B : Nat} {v : Value} {L : List α} (h : Own c e size w B v L) {g : Nat} (hg : v.ownBlock = some g) : g < w.heap.size ∧ B ≤ g :=
  (World.ownsRow.lt h g hg).symm

/-- What an append of one element writes, if it writes in place. -/
def wrOf {α : Type} (c : α → List Value) (size : Nat) (v : Value) (L : List α) (x : α) : List (Nat × Nat × List Value) := match v.ownBlock with
  | some g => [(g, L.length * size, c x)]
  | none => []

theorem mem_wrOf {α : Type} {c : α → List Value} {size : Nat} {v : Value} {L : List α} {x : α} {k o : Nat} {cs : List Value} (h : (k, o, cs) ∈ wrOf c size v L x) : v.ownBlock = some k ∧ o = L.length * size ∧ cs = c x := by
  unfold wrOf at h
  split at h
  · rename_i g hg
    rw [List.mem_singleton] at h
    injection h with h1 h2
    injection h2 with h2 h3
    exact ⟨by rw [h1]; exact hg, h2, h3⟩
  · cases h
theorem fits_own {α : Type} {c : α → List Value} {size : Nat} {v : Value} {L : List α} {x : α} {u : Value} : Fits c size (wrOf c size v L x) u L := fun k o cs hm _ => .inl (by rw [(mem_wrOf hm).2.1]; exact Nat.le_refl _)
theorem fits_snoc {α : Type} {c : α → List Value} {size : Nat} (hc : ∀ a, (c a).length = size) {v : Value} {L : List α} {x : α} {u : Value} : Fits c size (wrOf c size v L x) u (L ++ [x]) := fun k o cs hm _ => by
  obtain ⟨_, rfl, rfl⟩ := mem_wrOf hm
  refine .inr ⟨by rw [hc]; simp [Nat.add_mul], fun i hi => ?_⟩
  rw [List.flatMap_append, List.getElem?_append_right (by rw [flat_len c size hc]; omega), flat_len c size hc, List.flatMap_singleton, Nat.add_sub_cancel_left]
theorem fits_other {α β : Type} {c : α → List Value} {c' : β → List Value} {size size' : Nat} {v u : Value} {L : List α} {x : α} {M : List β} (h : ∀ g, v.ownBlock = some g → u.ownBlock ≠ some g) : Fits c' size' (wrOf c size v L x) u M := fun k _ _ hm hu => absurd hu (h k (mem_wrOf hm).1)
theorem fits_append {α : Type} {c : α → List Value} {size : Nat} {Ws Ws' : List (Nat × Nat × List Value)} {v : Value} {L : List α} (h : Fits c size Ws v L) (h' : Fits c size Ws' v L) : Fits c size (Ws ++ Ws') v L := fun k o cs hm hv => by
  rcases List.mem_append.1 hm with hm | hm
  · exact h k o cs hm hv
  · exact h' k o cs hm hv

set_option maxHeartbeats 600000 in
/-- An append of one element, in place or not. -/
theorem append_rw {α : Type} (c : α → List Value) (size bytes e t : Nat) (z : Value) (i0 : TypeInfo) (hc : ∀ a, (c a).length = size) (h1c : ∀ a, ∀ u ∈ c a, u.oneCell' = true) (ht : Try.prog.underlying t = some (.slice e)) (hi : Try.prog.info? e = some i0) (hz0 : i0.zero = some z) (hz1 : i0.size = size) (hz2 : i0.bytes = bytes) (hzs : z.cells.size = size) (hsz : 0 < size)
    {Ws : List (Nat × Nat × List Value)} {w : World} {B : Nat} {v : Value} {L : List α} {x : α} {g2 : Nat} (hown : Own c e size w B v L) (hW : ∀ p ∈ wrOf c size v L x, p ∈ Ws) (h2 : w.heap[g2]? = some (.cells (c x).toArray e (0, 0))) (hL : L.length ≤ 1048576) (hb : bytes ≤ 1000) (hB : B ≤ w.heap.size) :
    ∃ v' w', (Builtin.append_ #[t, t] t #[v, .slice (some ⟨g2, 0, none⟩) 1 1]).run Try.prog w = .ok v' w' ∧ RW Ws w w' ∧ Own c e size w' B v' (L ++ [x]) ∧ (v'.ownBlock = v.ownBlock ∨ v'.ownBlock = some w.heap.size) ∧ v'.ownBlock ≠ none := by
  have hnews : ∀ j u, (c x)[j]? = some u → w.cell? ((⟨g2, 0, none⟩ : Addr).add j) = some u := fun j u hu => by
    rw [Go.WideShapes.add_plain, Nat.zero_add, cell_of_block h2, List.getElem?_toArray]
    exact hu
  have hx : (c x).length = 1 * size := by rw [hc]; omega
  have hbig : (L.length + 1) * bytes ≤ 140737488355328 := by
    have h1 : (L.length + 1) * bytes ≤ 1048577 * 1000 := Nat.mul_le_mul (by omega) hb
    omega
  obtain ⟨v', w', hr, h3, h4, h5, h6⟩ := run_append_own_at (P := Try.prog) w B t t e i0 z size bytes ht hi hz0 hz1 hz2 hzs hsz v L.length (L.flatMap c) hown ⟨g2, 0, none⟩ 1 1 (c x) hx hnews (h1c x) (by unfold maxLen; omega) hbig hB
  have hsn : Own c e size w' B v' (L ++ [x]) := Own.snoc h3
  have hnn : v'.ownBlock ≠ none := fun hn => by
    rcases h3.2 with ⟨_, h0⟩ | ⟨g', cap', cur, hv', _⟩
    · omega
    · rw [hv'] at hn; cases hn
  refine ⟨v', w', hr, ?_, hsn, h6, hnn⟩
  rcases hown.2 with ⟨hv, h0⟩ | ⟨g, cap, cur, rfl, hBg, hcur, hn1, hn2, hszc, htk⟩
  · subst hv
    exact RW.of_le ⟨h4.os, h4.tape, h4.output, h4.size, fun k hk => h4.block k hk (by simp [Value.ownBlock])⟩
  · by_cases hroom : L.length + 1 ≤ cap
    · have hsrc := Src.ofSlice (P := Try.prog) w (size := i0.size) ht ⟨g2, 0, none⟩ 1 1 (c x) (by rw [hz1]; exact hx) hnews (h1c x)
      have hle : L.length * size + (c x).length ≤ cur.size := by
        rw [hszc, hc]
        have : (L.length + 1) * size ≤ cap * size := Nat.mul_le_mul_right _ hroom
        rw [Nat.add_mul] at this
        omega
      have hrm := run_append_room_src (P := Try.prog) w t t t e i0 ht hi g 0 L.length cap (.slice (some ⟨g2, 0, none⟩) 1 1) 1 (c x) hsrc hroom (fun j hj => by
          rw [hz1, Nat.zero_add, cell_of_block hcur, Array.getElem?_eq_getElem (by omega)]; rfl) (fun j _ => free_of_block hcur _)
      rw [hz1, Nat.zero_add, hr] at hrm
      injection hrm with hv hw
      subst hw
      have hself := setCells_self (c x) (L.length * size) w cur hcur
      have hbel := setCells_below (S := 0) (Nat.zero_le g) (c x) (L.length * size) w w (Below.refl _ _)
      refine ⟨hbel.os, hbel.tape, hbel.output, hbel.size, fun k hk => ?_⟩
      by_cases hkg : k = g
      · subst hkg
        exact .inr ⟨L.length * size, c x, cur, e, hW _ (by simp [wrOf, Value.ownBlock]), hcur, hle, hself⟩
      · exact .inl (setCells_other hkg _ _ _)
    · obtain ⟨v'', w'', hr2, _, hg3⟩ := run_append_arg_grows (P := Try.prog) w t t e i0 z size bytes ht hi hz0 hz1 hz2 hzs hsz ⟨g, 0, none⟩ L.length cap (L.flatMap c) (by rw [flat_len c size hc]) (fun j u hu => by
          rw [Go.WideShapes.add_plain, Nat.zero_add, cell_of_block hcur]
          rw [← htk, List.getElem?_take] at hu
          split at hu
          · simpa using hu
          · cases hu) ⟨g2, 0, none⟩ 1 1 (c x) hx hnews (by omega) (by unfold maxLen; omega) hbig
      rw [hr] at hr2
      injection hr2 with _ hw
      subst hw
      exact RW.of_le (below_of_grownBy hg3)


section
variable {P : Program} {ops : Array Oper} {R : World → World → Prop} {w0 : World}

theorem withGens_one {d : Tmp} {ψ : Pred} {G : Act → World → Prop} {w : World} : ∀ {pre0 : List (Tmp × Pred)} {a : Act}, (∀ p ∈ pre0, p.1 ≠ d) → (∀ v, ψ v w → G (a.put (some d) v) w) → withGens [d] G (pre0 ++ [(d, ψ)]) a w
  | [], a, _, h => by
    rw [List.nil_append, withGens, if_pos (by simp)]
    exact h
  | (e, χ) :: pre0, a, hp, h => by
    rw [List.cons_append, withGens, if_neg (by have := hp (e, χ) (by simp); simpa using this)]
    exact withGens_one (fun p hm => hp p (by simp [hm])) h

/-- An append with siblings, of what came up last. -/
theorem pair_app {dst : Option Tmp} {d : Tmp} {o1 : Operand} {ats : Array TypeId} {type : TypeId} {pos : String} {after : Array Edge} {a a' : Act} {next : List (Tmp × Pred) → Act → Prop} {ψ φ : Pred} {sib : List Pred} {Ψ : Value → Value → Prop} {c1 : Value} (pre0 : List (Tmp × Pred))
    (hpre : ∀ p ∈ pre0, p.1 ≠ d) (hm : ∀ v w w', R w w' → φ v w → φ v w') (he : ∀ v, (#[o1, .tmp d] : Array Operand).toList.map (a.put (some d) v).eval = [c1, v])
    (hrun : ∀ (x : Beh R w0) v, ψ v x.w → ∃ v' w', (Builtin.append_ ats type #[c1, v]).run P x.w = .ok v' w' ∧ R x.w w' ∧ φ v' w' ∧ ∀ ψ ∈ sib, ∀ u, ψ u x.w → Ψ v' u)
    (hp : a.put dst undef = a') (hn : next (pre0 ++ [(d, ψ)] ++ [(dst.getD 0, φ)]) a') : PairAt P ops R w0 ⟨dst, .call ⟨.builtin .append, #[o1, .tmp d], ats⟩, type, pos, after, none⟩ [d] φ sib Ψ (pre0 ++ [(d, ψ)]) a next := by
  refine ⟨hm, fun x => withGens_one hpre fun v hv => ?_, by rw [hp]; exact hn⟩
  exact tOp_append (R := R) (φ := fun v w' => φ v w' ∧ ∀ ψ ∈ sib, ∀ u, ψ u x.w → Ψ v u) (vals := #[c1, v]) (he v) (hrun x v hv)

theorem sib2 {i j : Nat} {ds ds' : List Tmp} {φ φ' : Pred} {plan : List (Nat × List Tmp × Option Pred × List Pred)} (h1 : (i, ds, some φ, [φ']) ∈ plan) (h2 : (j, ds', some φ', [φ]) ∈ plan) :
    ∀ k ∈ [i, j], ∃ ds φ sib, (k, ds, some φ, sib) ∈ plan ∧ sib ≠ [] ∧ ∀ q ∈ [i, j], q ≠ k → ∃ ds' φ' sib', (q, ds', some φ', sib') ∈ plan ∧ sib' ≠ [] ∧ φ' ∈ sib := by
  intro k hk
  simp only [List.mem_cons, List.not_mem_nil, or_false] at hk
  rcases hk with rfl | rfl
  · refine ⟨_, _, _, h1, by simp, fun q hq hne => ?_⟩
    simp only [List.mem_cons, List.not_mem_nil, or_false] at hq
    rcases hq with rfl | rfl
    · exact absurd rfl hne
    · exact ⟨_, _, _, h2, by simp, by simp⟩
  · refine ⟨_, _, _, h2, by simp, fun q hq hne => ?_⟩
    simp only [List.mem_cons, List.not_mem_nil, or_false] at hq
    rcases hq with rfl | rfl
    · exact ⟨_, _, _, h1, by simp, by simp⟩
    · exact absurd rfl hne
end

/-- Slices of numbers, and the number that is appended to each. -/
abbrev NRow := Value × List Int × Int
def wsOf (rows : List NRow) : List (Nat × Nat × List Value) := rows.flatMap fun r => wrOf intC 1 r.1 r.2.1 r.2.2
def apartV (v u : Value) : Prop := ∀ g, v.ownBlock = some g → u.ownBlock ≠ some g

structure Rows0 (w0 : World) (B : Nat) (rows : List NRow) : Prop where
  own : ∀ r ∈ rows, Own intC 3 1 w0 B r.1 r.2.1
  apart : ∀ r ∈ rows, ∀ s ∈ rows, r = s ∨ apartV r.1 s.1
  base : B ≤ w0.heap.size

theorem mem_wsOf {rows : List NRow} {k o : Nat} {cs : List Value} (h : (k, o, cs) ∈ wsOf rows) : ∃ r ∈ rows, r.1.ownBlock = some k ∧ o = r.2.1.length * 1 ∧ cs = intC r.2.2 := by
  obtain ⟨r, hr, h⟩ := List.mem_flatMap.1 h
  exact ⟨r, hr, mem_wrOf h⟩
theorem Rows0.uniq {w0 : World} {B : Nat} {rows : List NRow} (h : Rows0 w0 B rows) : ∀ k o cs o' cs', (k, o, cs) ∈ wsOf rows → (k, o', cs') ∈ wsOf rows → o = o' ∧ cs = cs' := fun k o cs o' cs' h1 h2 => by
  obtain ⟨r, hr, h3, rfl, rfl⟩ := mem_wsOf h1
  obtain ⟨s, hs, h4, rfl, rfl⟩ := mem_wsOf h2
  rcases h.apart r hr s hs with rfl | ha
  · exact ⟨rfl, rfl⟩
  · exact absurd h4 (ha k h3)
theorem Rows0.lt {w0 : World} {B : Nat} {rows : List NRow} (h : Rows0 w0 B rows) : ∀ k o cs, (k, o, cs) ∈ wsOf rows → k < w0.heap.size := fun k o cs h1 => by
  obtain ⟨r, hr, h3, _⟩ := mem_wsOf h1
  exact (Own.lt (h.own r hr) h3).1
theorem Rows0.ge {w0 : World} {B : Nat} {rows : List NRow} (h : Rows0 w0 B rows) : ∀ k o cs, (k, o, cs) ∈ wsOf rows → B ≤ k := fun k o cs h1 => by
  obtain ⟨r, hr, h3, _⟩ := mem_wsOf h1
  exact (Own.lt (h.own r hr) h3).2
theorem Rows0.trans {w0 : World} {B : Nat} {rows : List NRow} (h : Rows0 w0 B rows) : ∀ a b c, RW (wsOf rows) a b → RW (wsOf rows) b c → RW (wsOf rows) a c := fun _ _ _ => RW.trans h.uniq

/-- What an append leaves. -/
def PA (B S : Nat) (r : NRow) : Pred := fun v w => Own intC 3 1 w B v (r.2.1 ++ [r.2.2]) ∧ v.ownBlock ≠ none ∧ (v.ownBlock = r.1.ownBlock ∨ ∃ h, v.ownBlock = some h ∧ S ≤ h)

theorem fits_rows {w0 : World} {B : Nat} {rows : List NRow} (h : Rows0 w0 B rows) {r : NRow} (hr : r ∈ rows) {v : Value} (hv : v.ownBlock = r.1.ownBlock ∨ ∃ h, v.ownBlock = some h ∧ w0.heap.size ≤ h) {L : List Int} (hL : L = r.2.1 ∨ L = r.2.1 ++ [r.2.2]) : Fits intC 1 (wsOf rows) v L := fun k o cs hm hk => by
  obtain ⟨s, hs, h4, rfl, rfl⟩ := mem_wsOf hm
  have hkl := (Own.lt (h.own s hs) h4).1
  have hrk : r.1.ownBlock = some k := by
    rcases hv with hv | ⟨q, hv, hq⟩
    · rw [← hv]; exact hk
    · rw [hk] at hv; injection hv with hv; omega
  obtain rfl : r = s := by
    rcases h.apart r hr s hs with e | ha
    · exact e
    · exact absurd h4 (ha k hrk)
  rcases hL with rfl | rfl
  · exact .inl (Nat.le_refl _)
  · refine .inr ⟨by simp [intC], fun i hi => ?_⟩
    have hi0 : i = 0 := by simp [intC] at hi; exact hi
    subst hi0
    rw [List.flatMap_append, List.getElem?_append_right (by rw [flat_len intC 1 intC_len]; omega), flat_len intC 1 intC_len]
    simp [intC]

theorem PA_mono {w0 : World} {B : Nat} {rows : List NRow} (h : Rows0 w0 B rows) {r : NRow} (hr : r ∈ rows) : ∀ v w w', RW (wsOf rows) w w' → PA B w0.heap.size r v w → PA B w0.heap.size r v w' := fun _ _ _ hR ⟨p1, p2, p3⟩ =>
  ⟨own_rw p1 hR (fits_rows h hr p3 (.inr rfl)), p2, p3⟩

theorem info3n : (Try.prog.info? 3).map (fun i => (i.zero, i.size, i.bytes)) = some (some (.int .i64 0), 1, 8) := by kernel_rfl

theorem PA_run {w0 : World} {B : Nat} {rows : List NRow} (h : Rows0 w0 B rows) {r : NRow} (hr : r ∈ rows) (hL : r.2.1.length ≤ 1048576) (z : Beh (RW (wsOf rows)) w0) (u : Value) (hu : freshS w0.heap.size #[.int .i64 r.2.2] 3 1 u z.w) :
    ∃ v' w', (Builtin.append_ #[44, 44] 44 #[r.1, u]).run Try.prog z.w = .ok v' w' ∧ RW (wsOf rows) z.w w' ∧ PA B w0.heap.size r v' w' ∧ ∀ s ∈ rows, apartV r.1 s.1 → ∀ u, PA B w0.heap.size s u z.w → v'.ownBlock ≠ u.ownBlock := by
  obtain ⟨i0, hi, hz0, hz1, hz2⟩ := info_parts info3n
  obtain ⟨g, rfl, _, hg⟩ := hu
  have hsz := z.h.size
  have ho := own_rw (h.own r hr) z.h (fits_rows h hr (.inl rfl) (.inl rfl))
  obtain ⟨v', w', h1, h2, h3, h4, h5⟩ := append_rw intC 1 8 3 44 (.int .i64 0) i0 intC_len (fun a u hu => by simp only [intC, List.mem_singleton] at hu; subst hu; rfl) Try.underlying44 hi hz0 hz1 hz2 rfl (by omega) (Ws := wsOf rows) (x := r.2.2) ho (fun p hp => List.mem_flatMap.2 ⟨r, hr, hp⟩) hg hL (by omega) (Nat.le_trans h.base hsz)
  refine ⟨v', w', h1, h2, ⟨h3, h5, ?_⟩, fun s hs ha u ⟨q1, q2, q3⟩ he => ?_⟩
  · rcases h4 with h4 | h4
    · exact .inl h4
    · exact .inr ⟨_, h4, hsz⟩
  · cases hub : u.ownBlock with
    | none => exact q2 hub
    | some k =>
      have hkl := (Own.lt q1 hub).1
      rw [hub] at he q3
      rcases h4 with h4 | h4
      · rw [he] at h4
        rcases q3 with q3 | ⟨j, q3, q4⟩
        · exact ha k h4.symm q3.symm
        · injection q3 with q3
          have := (Own.lt (h.own r hr) h4.symm).1
          omega
      · rw [he] at h4
        injection h4 with h4
        omega
end Go.Proofs.Ytgonighpjpfmnaa
