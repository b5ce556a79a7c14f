/- A region that draws its order: moves, too, may come up beside the tail. No statement is proved here. -/
import Derived.Test.YtgonighpjpfmnaaLate2
namespace Go.Proofs.Ytgonighpjpfmnaa
open Go.RowKit

section
variable {P : Program} {ops : Array Oper} {R : World → World → Prop} {Φ : Nat → Value → World → Prop} {w0 : World} {a0 : Act} {N : Nat}

/-- A loose operation: an extract or a move that is apart from whatever does not wait for it. -/
def looseM (ops : Array Oper) (N : Nat) (Lo : List Nat) : Bool :=
  Region.noSelect ops && Lo.all fun i => decide (i < N) && match ops[i]? with
    | some o => (match o.op with | .extract _ _ => o.guard.isNone | .move _ => o.guard.isNone | _ => false) && (List.range ops.size).all fun j => j == i || o.after.any (fun e => Region.binds .any e && e.on == j) || (match ops[j]? with
      | some oj => oj.after.any (fun e => Region.binds .any e && e.on == i) || o.apart ops oj
      | none => true)
    | none => false

theorem move_yields {P : Program} {ops : Array Oper} {R : World → World → Prop} {o : Oper} {x : Operand} {a : Act} {w : World} {φ : Value → World → Prop} (ho : o.op = .move x) (hg : o.guard = none) (h : tOp P ops R o a w φ) :
    ∃ v, Yields P ops o v a ∧ ∃ w', φ v w' := by
  have hw : Region.wanted o (yielded ops a.tmps) = true := by simp [Region.wanted, hg]
  unfold tOp at h
  rw [if_pos hw] at h
  have hrun : ∀ w, (execOp a.eval o).run P w = .ok (.value (a.eval x)) w := fun w => by
    obtain ⟨dst, op, type, pos, after, guard⟩ := o
    simp only at ho
    subst ho
    rfl
  rw [hrun] at h
  exact ⟨_, .inl ⟨hw, hrun⟩, w, h.2⟩

theorem wp_region_typedM {id : Nat} {Q : Exit → Act → World → Prop} {w : World} {l : List Oper} (N m : Nat) (Lo : List Nat) (Φs : List (Value → World → Prop)) (hm : P.follows .mixedOrders = true) (hB : Region.typB l.toArray N m Lo = true)
    (hLB : looseM l.toArray N Lo = true) (hQ : Lo ≠ [] → ∀ c (a : Act) (d : Tmp) v w, Q (.panic c) (a.put (some d) v) w → Q (.panic c) a w) (hdet : ∀ i, Lo.contains i = true → ∃ c, phi Φs i = det c) (hsize : a0.tmps.size = m)
    (hr : ∀ w, R w w) (htr : ∀ a b c, R a b → R b c → R a c) (hmono : ∀ i v w w', i < N → R w w' → phi Φs i v w → phi Φs i v w')
    (hsteps : ∀ i o, i < N → l[i]? = some o → ∀ a w', TPre l.toArray R (phi Φs) w.drew a0 N (depsOf N o) a w' → tOp P l.toArray R o a w' (phi Φs i))
    (hend : ∀ w', R w.drew w' → TEnd (phi Φs) (fun a w' => wpList P l.toArray Q (l.drop N) a w') w' (l.take N) 0 a0) : (Code.region id l.toArray true).wp P Q a0 w := by
  simp only [Region.typB, Bool.and_eq_true, Bool.or_eq_true, decide_eq_true_eq] at hB
  obtain ⟨⟨⟨⟨hsc, hN⟩, hback⟩, hdst⟩, hseq⟩ := hB
  have hN' : N ≤ l.length := by simpa using hN
  have inv0 : HeadInv .any l.toArray N (Array.replicate l.toArray.size false) :=
    ⟨by simp, fun j oj _ hl => (by rw [getD_replicate_false] at hl; cases hl), fun t _ ht => getD_in (by simpa using ht) (getD_replicate_false _ _)⟩
  refine wp_region_any hm ?_
  have hcnt : cntT N (Array.replicate l.toArray.size false) = N := by
    unfold cntT
    rw [List.filter_eq_self.2, List.length_range]
    intro i hi
    rw [List.mem_range] at hi
    rw [getD_in (by simp; omega) (getD_replicate_false _ _)]; rfl
  have hback' : ∀ (i : Nat) (o : Oper), l.toArray[i]? = some o → ∀ e ∈ o.after, Region.binds .any e = true → e.on < i := fun i o ho e he hb => by
    have hi : i < l.toArray.size := (Array.getElem?_eq_some_iff.1 ho).1
    have h1 := List.all_eq_true.1 hback i (List.mem_range.2 hi)
    simp only [ho] at h1
    have h2 := Array.all_eq_true_iff_forall_mem.1 h1 e he
    rw [hb] at h2
    simpa using h2
  simp only [looseM, Bool.and_eq_true, List.all_eq_true, decide_eq_true_eq] at hLB
  have := wpAny_typed (P := P) (ops := l.toArray) (R := R) (Φ := phi Φs) (w0 := w.drew) (a0 := a0) (N := N) (Q := Q) (Lo := Lo) hr htr hmono hsc hN hback'
    (fun i hiL => by
      have hiL' : i ∈ Lo := by simpa using hiL
      obtain ⟨h1, h2⟩ := hLB.2 i hiL'
      refine ⟨h1, Region.noSelect_spec hLB.1, hQ (fun e => by rw [e] at hiL'; cases hiL'), fun oi j oj hi hj hne hdep hno => ?_, fun o ho a w hp => ?_⟩
      · simp only [hi, Bool.and_eq_true, List.all_eq_true, Bool.or_eq_true, beq_iff_eq] at h2
        have h3 := h2.2 j (List.mem_range.2 (Array.getElem?_eq_some_iff.1 hj).1)
        rcases h3 with (h3 | h3) | h3
        · exact absurd h3 hne
        · obtain ⟨e, he, hb⟩ := Array.any_eq_true'.1 h3
          simp only [Bool.and_eq_true, beq_iff_eq] at hb
          exact absurd hb.2 (hdep e he hb.1)
        · simp only [hj, Bool.or_eq_true] at h3
          rcases h3 with h3 | h3
          · obtain ⟨e, he, hb⟩ := Array.any_eq_true'.1 h3
            simp only [Bool.and_eq_true, beq_iff_eq] at hb
            exact absurd hb.2 (hno e he hb.1)
          · exact h3
      · simp only [ho, Bool.and_eq_true] at h2
        obtain ⟨c, hc⟩ := hdet i hiL
        have ht := hsteps i o h1 (by simpa using ho) a w hp
        rw [hc] at ht ⊢
        cases hop : o.op with
        | extract x n =>
          rw [hop] at h2
          obtain ⟨v, hy, w', hv⟩ := extract_yields (R := R) hop (by simpa using h2.1) ht
          exact ⟨v, hy, hv⟩
        | move x =>
          rw [hop] at h2
          obtain ⟨v, hy, w', hv⟩ := move_yields (R := R) hop (by simpa using h2.1) ht
          exact ⟨v, hy, hv⟩
        | _ => rw [hop] at h2; simp at h2)
    (fun i hi => by
      have h1 := List.all_eq_true.1 hdst i (List.mem_range.2 hi)
      cases hd : (l.toArray[i]?).bind (·.dst) with
      | none => simp only [hd] at h1; cases h1
      | some d =>
        simp only [hd, Bool.and_eq_true, decide_eq_true_eq] at h1
        refine ⟨d, rfl, by rw [hsize]; exact h1.1, fun j hj hji => ?_⟩
        have h2 := List.all_eq_true.1 h1.2 j (List.mem_range.2 hj)
        simp only [Bool.or_eq_true, decide_eq_true_eq] at h2
        exact h2.resolve_left hji)
    hseq
    (fun i o hi ho a w' hp => hsteps i o hi (by simpa using ho) a w' hp)
    (by simpa using hend) N _ a0 w.drew hcnt inv0
    ⟨hr _, rfl, rfl, fun _ _ => rfl, fun j _ hj => by rw [getD_replicate_false] at hj; cases hj⟩
  rwa [show N + (l.toArray.size - N) = l.toArray.size by omega] at this

end

section
variable {P : Program} {ops : Array Oper} {R : World → World → Prop} {w0 : World} {a0 : Act} {N : Nat}
theorem wp_region_looseM {id : Nat} {Q : Exit → Act → World → Prop} {w : World} {l : List Oper} (N m : Nat) (Lo : List Nat) (plan : List (Nat × List Tmp × Option Pred)) (hm : P.follows .mixedOrders = true) (hB : Region.typB l.toArray N m Lo = true)
    (hB2 : Late.okB l.toArray N (planB plan) = true) (hLB : (looseM l.toArray N Lo && Lo.all fun i => !Late.genB (planB plan) i) = true) (hQ : Lo ≠ [] → ∀ c (a : Act) (d : Tmp) v w, Q (.panic c) (a.put (some d) v) w → Q (.panic c) a w) (hsize : a0.tmps.size = m) (hr : ∀ w, R w w) (htr : ∀ a b c, R a b → R b c → R a c)
    (h : Late P l.toArray R w.drew (fun pre a => ∀ x : Beh R w.drew, allGens (fun A w' => wpList P l.toArray Q (l.drop N) A w') pre a x.w) plan 0 (l.take N) [] a0) : (Code.region id l.toArray true).wp P Q a0 w := by
  have hB0 := hB
  simp only [Region.typB, Bool.and_eq_true, Bool.or_eq_true, decide_eq_true_eq] at hB
  obtain ⟨⟨⟨⟨_, hN⟩, hback⟩, hdst0⟩, _⟩ := hB
  have hN' : N ≤ l.length := by simpa using hN
  have hdst : ∀ i, i < N → ∃ d, dstOf l.toArray i = some d ∧ d < a0.tmps.size ∧ ∀ j, j < N → j ≠ i → dstOf l.toArray j ≠ some d := fun i hi => by
    have h1 := List.all_eq_true.1 hdst0 i (List.mem_range.2 hi)
    unfold dstOf
    cases hd : (l.toArray[i]?).bind (·.dst) with
    | none => simp only [hd] at h1; cases h1
    | some d =>
      simp only [hd, Bool.and_eq_true, decide_eq_true_eq] at h1
      refine ⟨d, rfl, by rw [hsize]; exact h1.1, fun j hj hji => ?_⟩
      have h2 := List.all_eq_true.1 h1.2 j (List.mem_range.2 hj)
      simp only [Bool.or_eq_true, decide_eq_true_eq] at h2
      exact h2.resolve_left hji
  have hB2' := hB2
  simp only [Late.okB, Bool.and_eq_true] at hB2'
  have hsel := Region.noSelect_spec hB2'.1.1
  have hlook : ∀ i o, i < N → l.toArray[i]? = some o → ∀ s ∈ o.looksAt l.toArray, (∀ j, j < N → dstOf l.toArray j ≠ some s) ∨ ∃ j ∈ depsOf N o, j < i ∧ dstOf l.toArray j = some s := fun i o hi ho s hs => by
    rcases (okAt_of_B hB2 i o hi ho).2 s hs with h1 | ⟨k, hk, hd⟩
    · exact .inl (outB_spec h1)
    · refine .inr ⟨k, hk, ?_, hd⟩
      simp only [depsOf, List.mem_map, List.mem_filter] at hk
      obtain ⟨e, ⟨he, hb⟩, rfl⟩ := hk
      have h1 := List.all_eq_true.1 hback i (List.mem_range.2 (by simp; omega))
      simp only [ho] at h1
      have h2 := Array.all_eq_true_iff_forall_mem.1 h1 e (by simpa using he)
      simp only [Bool.and_eq_true] at hb
      rw [hb.1] at h2
      simpa using h2
  have hl0 : ∀ j, j < (l.take N).length → (l.take N)[j]? = l.toArray[0 + j]? := fun j hj => by rw [List.length_take] at hj; rw [List.getElem?_take, if_pos (by omega)]; simp
  have hlen : (l.take N).length = N := by rw [List.length_take]; omega
  obtain ⟨ps, pre', a', hps, hJ, hF, hall⟩ := late_steps (gen := Late.genB (planB plan)) hsel hdst hlook hr htr plan 0 (l.take N) [] [] a0 (by omega) (sorted_of_B plan 0 hB2'.1.2) hl0 (fun j o _ hj ho => (okAt_of_B hB2 j o hj ho).1)
    ⟨rfl, rfl, rfl, fun _ _ => rfl, fun j hj => by omega, fun j _ hj => by omega, fun p hp => by simp at hp⟩ h
  simp only [List.nil_append] at hJ hall
  rw [Bool.and_eq_true] at hLB
  have hdetL : ∀ i, Lo.contains i = true → ∃ c, phi ps i = det c := fun i hi => by
    have hi' : i ∈ Lo := by simpa using hi
    have h1 := List.all_eq_true.1 hLB.2 i hi'
    have h2 : i < N := by
      have h3 := hLB.1
      simp only [looseM, Bool.and_eq_true, List.all_eq_true, decide_eq_true_eq] at h3
      exact (h3.2 i hi').1
    obtain ⟨c, hc, _⟩ := hJ.det i h2 (by simpa using h1)
    exact ⟨c, hc⟩
  refine wp_region_typedM N m Lo ps hm hB0 hLB.1 hQ hdetL hsize hr htr (fun i v w w' hi hR hp => (hall i (by omega) hi).1 v w w' hR hp) (fun i o hi ho a w' hp => ?_) (fun w' hw' => ?_)
  · refine (hall i (by omega) hi).2 o (by simpa using ho) a w' ⟨hp.world, hp.size, hp.outside, fun j hj => ?_⟩
    have hlt : j < i := by
      simp only [depsOf, List.mem_map, List.mem_filter] at hj
      obtain ⟨e, ⟨he, hb⟩, rfl⟩ := hj
      have h1 := List.all_eq_true.1 hback i (List.mem_range.2 (by simp; omega))
      simp only [List.getElem?_toArray, ho] at h1
      have h2 := Array.all_eq_true_iff_forall_mem.1 h1 e (by simpa using he)
      simp only [Bool.and_eq_true] at hb
      rw [hb.1] at h2
      simpa using h2
    have h1 := hp.done j hj
    have e : phi ps j = phi (ps.take i) j := by
      have := phi_append (ps.take i) (ps.drop i) j (by rw [List.length_take, hJ.len]; omega)
      rwa [List.take_append_drop] at this
    rwa [e] at h1
  · refine tEnd_intro hdst (fun F hF1 hF2 hF3 hF4 => ?_) (l.take N) 0 a0 hl0 (by omega) rfl rfl (fun _ _ => rfl) (fun j _ hj => by omega)
    have h1 := allGens_apply F w' pre' a' (fun p hp => by
      obtain ⟨j, hj, _, hd, e⟩ := hJ.pre p hp
      rw [e]; exact hF4 j _ hj hd) (hF ⟨w', hw'⟩)
    have ea : putG F pre' a' = F := by
      have h2 := putG_keep F pre' a'
      have h3 : (putG F pre' a').tmps = F.tmps := by
        apply Array.ext (by rw [h2.1, hJ.size, hF1])
        intro s h4 h5
        have h6 : (putG F pre' a').tmps.getD s undef = F.tmps.getD s undef := by
          by_cases hnot : (∃ p ∈ pre', p.1 = s) ∧ s < a'.tmps.size
          · rw [putG_at, if_pos hnot]
          · rw [putG_at, if_neg hnot]
            by_cases hh : ∃ j, j < N ∧ dstOf l.toArray j = some s
            · obtain ⟨j, hj, hd⟩ := hh
              cases hg : Late.genB (planB plan) j with
              | true => exact absurd ⟨⟨_, hJ.gens j s hj hg hd, rfl⟩, by rw [← h2.1]; exact h4⟩ hnot
              | false =>
                obtain ⟨c, h7, h8⟩ := hJ.det j hj hg
                have h9 := hF4 j s hj hd
                rw [h7] at h9
                rw [h8 s hd]
                exact h9.symm
            · have hout : ∀ j, j < N → dstOf l.toArray j ≠ some s := fun j hj hd => hh ⟨j, hj, hd⟩
              rw [hJ.out s hout, hF3 s hout]
        simpa [Array.getD, h4, h5] using h6
      have h4 := h2.2.trans (hJ.defers.trans hF2.symm)
      cases hx : putG F pre' a'
      cases F
      rw [hx] at h3 h4
      simp only at h3 h4
      rw [h3, h4]
    rw [ea] at h1
    exact h1

end
end Go.Proofs.Ytgonighpjpfmnaa
