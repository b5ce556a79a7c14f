/- sequence.Of; worlds in which a map of the call's own turns beside appends. -/
import Derived.Test.YtgonighpjpfmnaaSeq3
import Derived.Test.YtgonighpjpfmnaaPair
import Derived.IntWalk
namespace Go.Proofs.Ytgonighpjpfmnaa
open Go.RowKit Go.Maps

theorem KnownOk.same {w w' : World} {b n : Nat} {N : Int → Int} (h : KnownOk w b n N) (he : w'.heap[b]? = w.heap[b]?) : KnownOk w' b n N := by
  obtain ⟨D, ⟨es, clock, hb, r⟩, h2⟩ := h
  exact ⟨D, ⟨es, clock, he.trans hb, r⟩, h2⟩

/-- New blocks, writes, and a map in block b of which N stays right. -/
structure RM (b : Nat) (N : Int → Int) (Ws : List (Nat × Nat × List Value)) (w w' : World) : Prop where
  os : w'.os = w.os
  tape : w'.tape = w.tape
  output : w'.output = w.output
  size : w.heap.size ≤ w'.heap.size
  block : ∀ k, k < w.heap.size → k ≠ b → w'.heap[k]? = w.heap[k]? ∨ ∃ o cs cur t, (k, o, cs) ∈ Ws ∧ w.heap[k]? = some (.cells cur t (0, 0)) ∧ o + cs.length ≤ cur.size ∧ w'.heap[k]? = some (.cells (setL cur o cs) t (0, 0))
  known : KnownOk w b 2003 N → KnownOk w' b 2003 N

theorem RM.refl (b : Nat) (N : Int → Int) (Ws : List (Nat × Nat × List Value)) (w : World) : RM b N Ws w w := ⟨rfl, rfl, rfl, Nat.le_refl _, fun _ _ _ => .inl rfl, id⟩
theorem RM.of_le {b : Nat} {N : Int → Int} {Ws : List (Nat × Nat × List Value)} {w w' : World} (h : LeW w w') : RM b N Ws w w' := ⟨h.os, h.tape, h.output, h.size, fun k hk _ => .inl (h.block k hk), fun hK => hK.below h⟩
theorem RM.of_rw {b : Nat} {N : Int → Int} {Ws : List (Nat × Nat × List Value)} {w w' : World} (h : RW Ws w w') (hb : ∀ o cs, (b, o, cs) ∉ Ws) : RM b N Ws w w' := ⟨h.os, h.tape, h.output, h.size, fun k hk _ => h.block k hk, fun hK => hK.same (h.same hK.lt hb)⟩
theorem RM.of_grown {b : Nat} {N : Int → Int} {Ws : List (Nat × Nat × List Value)} {w w' : World} (h : w.grownBy w' (some b)) (hK : KnownOk w' b 2003 N) : RM b N Ws w w' := ⟨h.os, h.tape, h.output, h.size, fun k hk hne => .inl (h.block k hk (by simp; exact hne)), fun _ => hK⟩
theorem RM.trans {b : Nat} {N : Int → Int} {Ws : List (Nat × Nat × List Value)} (hW : ∀ k o cs o' cs', (k, o, cs) ∈ Ws → (k, o', cs') ∈ Ws → o = o' ∧ cs = cs') {x y z : World} (h : RM b N Ws x y) (k : RM b N Ws y z) : RM b N Ws x z := by
  refine ⟨k.os.trans h.os, k.tape.trans h.tape, k.output.trans h.output, Nat.le_trans h.size k.size, fun i hi hne => ?_, fun hK => k.known (h.known hK)⟩
  rcases h.block i hi hne with h1 | ⟨o, cs, cur, t, hm, h1, h2, h3⟩
  · rcases k.block i (Nat.lt_of_lt_of_le hi h.size) hne with h4 | ⟨o, cs, cur, t, hm, h4, h5, h6⟩
    · exact .inl (h4.trans h1)
    · exact .inr ⟨o, cs, cur, t, hm, h1.symm.trans h4, h5, h6⟩
  · rcases k.block i (Nat.lt_of_lt_of_le hi h.size) hne with h4 | ⟨o', cs', cur', t', hm', h4, h5, h6⟩
    · exact .inr ⟨o, cs, cur, t, hm, h1, h2, h4.trans h3⟩
    · obtain ⟨rfl, rfl⟩ := hW _ _ _ _ _ hm hm'
      rw [h3] at h4
      injection h4 with h4
      injection h4 with h4 h7
      subst h4 h7
      rw [setL_idem _ _ _ h2] at h6
      exact .inr ⟨o, cs, cur, t, hm, h1, h2, h6⟩
theorem RM.below {b : Nat} {N : Int → Int} {Ws : List (Nat × Nat × List Value)} {w w' : World} {B : Nat} (h : RM b N Ws w w') (hB : B ≤ w.heap.size) (hb : B ≤ b) (hW : ∀ k o cs, (k, o, cs) ∈ Ws → B ≤ k) : Below B w w' :=
  ⟨h.os, h.tape, h.output, h.size, fun k hk => (h.block k (by omega) (by omega)).resolve_right fun ⟨_, _, _, _, hm, _⟩ => by have := hW _ _ _ hm; omega⟩
theorem RM.same {b : Nat} {N : Int → Int} {Ws : List (Nat × Nat × List Value)} {w w' : World} {k : Nat} (h : RM b N Ws w w') (hk : k < w.heap.size) (hb : k ≠ b) (hW : ∀ o cs, (k, o, cs) ∉ Ws) : w'.heap[k]? = w.heap[k]? :=
  (h.block k hk hb).resolve_right fun ⟨_, _, _, _, hm, _⟩ => hW _ _ hm

theorem freshS_rm {b : Nat} {N : Int → Int} {Ws : List (Nat × Nat × List Value)} {S : Nat} {cs : Array Value} {e n : Nat} (hb : b < S) (hW : ∀ k o cs, (k, o, cs) ∈ Ws → k < S) : ∀ v w w', RM b N Ws w w' → freshS S cs e n v w → freshS S cs e n v w' := fun v w w' hR ⟨g, h1, h2, h3⟩ =>
  ⟨g, h1, h2, by rw [hR.same (Array.getElem?_eq_some_iff.1 h3).1 (by omega) (fun o cs hm => by have := hW _ _ _ hm; omega)]; exact h3⟩

theorem own_rm {α : Type} {c : α → List Value} {e size : Nat} {b : Nat} {N : Int → Int} {Ws : List (Nat × Nat × List Value)} {w w' : World} {B : Nat} {v : Value} {L : List α} (h : Own c e size w B v L) (hR : RM b N Ws w w') (hb : v.ownBlock ≠ some b) (hF : Fits c size Ws v L) : Own c e size w' B v L := by
  refine ⟨h.1, ?_⟩
  rcases h.2 with ⟨hv, h0⟩ | ⟨g, cap, cur, rfl, hB, hg, h1, h2, h3, h4⟩
  · exact .inl ⟨hv, h0⟩
  · rcases hR.block g (Array.getElem?_eq_some_iff.1 hg).1 (fun e => hb (by rw [e]; rfl)) with h5 | ⟨o, cs, cur', t, hm, h5, h6, h7⟩
    · exact .inr ⟨g, cap, cur, rfl, hB, h5.trans hg, h1, h2, h3, h4⟩
    · rw [hg] at h5
      injection h5 with h5
      injection h5 with h5 h8
      subst h5 h8
      refine .inr ⟨g, cap, _, rfl, hB, h7, h1, h2, by rw [setL_size]; exact h3, ?_⟩
      rcases hF g o cs hm rfl with h9 | ⟨h9, h10⟩
      · rw [setL_take _ _ _ h9]; exact h4
      · have e1 : setL cur o cs = cur := setL_same _ _ _ fun i hi => by
          rw [← h10 i hi, ← h4, List.getElem?_take, if_pos (by omega), Array.getElem?_toList]
        rw [e1]; exact h4

theorem PA_own_ne {S : Nat} {r : NRow} {b : Nat} {v : Value} (h : v.ownBlock = r.1.ownBlock ∨ ∃ h, v.ownBlock = some h ∧ S ≤ h) (hb : b < S) (hr : r.1.ownBlock ≠ some b) : v.ownBlock ≠ some b := by
  rcases h with h | ⟨k, h, hk⟩
  · rw [h]; exact hr
  · rw [h]; intro e; injection e with e; omega

theorem PA_mono_rm {w0 : World} {B : Nat} {rows : List NRow} {b : Nat} {N : Int → Int} (h : Rows0 w0 B rows) {r : NRow} (hr : r ∈ rows) (hb : b < w0.heap.size) (hrb : r.1.ownBlock ≠ some b) : ∀ v w w', RM b N (wsOf rows) w w' → PA B w0.heap.size r v w → PA B w0.heap.size r v w' := fun _ _ _ hR ⟨p1, p2, p3⟩ =>
  ⟨own_rm p1 hR (PA_own_ne p3 hb hrb) (fits_rows h hr p3 (.inr rfl)), p2, p3⟩

theorem PA_run_rm {w0 : World} {B : Nat} {rows : List NRow} {b : Nat} {N : Int → Int} (h : Rows0 w0 B rows) {r : NRow} (hr : r ∈ rows) (hL : r.2.1.length ≤ 1048576) (hrb : ∀ s ∈ rows, s.1.ownBlock ≠ some b) (z : Beh (RM b N (wsOf rows)) w0) (u : Value) (hu : freshS w0.heap.size #[.int .i64 r.2.2] 3 1 u z.w) :
    ∃ v' w', (Builtin.append_ #[44, 44] 44 #[r.1, u]).run Try.prog z.w = .ok v' w' ∧ RM b N (wsOf rows) z.w w' ∧ PA B w0.heap.size r v' w' := by
  obtain ⟨i0, hi, hz0, hz1, hz2⟩ := info_parts info3n
  obtain ⟨g, rfl, _, hg⟩ := hu
  have hsz := z.h.size
  have ho := own_rm (h.own r hr) z.h (hrb r hr) (fits_rows h hr (.inl rfl) (.inl rfl))
  obtain ⟨v', w', h1, h2, h3, h4, h5⟩ := append_rw intC 1 8 3 44 (.int .i64 0) i0 intC_len (fun a u hu => by simp only [intC, List.mem_singleton] at hu; subst hu; rfl) Try.underlying44 hi hz0 hz1 hz2 rfl (by omega) (Ws := wsOf rows) (x := r.2.2) ho (fun p hp => List.mem_flatMap.2 ⟨r, hr, hp⟩) hg hL (by omega) (Nat.le_trans h.base hsz)
  refine ⟨v', w', h1, RM.of_rw h2 (fun o cs hm => ?_), h3, h5, ?_⟩
  · obtain ⟨s, hs, h6, _⟩ := mem_wsOf hm
    exact hrb s hs h6
  · rcases h4 with h4 | h4
    · exact .inl h4
    · exact .inr ⟨_, h4, hsz⟩

section
variable {P : Program} {ops : Array Oper} {R : World → World → Prop} {w0 : World}
/-- An append of what came up last. -/
theorem late_appl {dst : Option Tmp} {d : Tmp} {o1 : Operand} {ats : Array TypeId} {type : TypeId} {pos : String} {after : Array Edge} {a a' : Act} {next : List (Tmp × Pred) → Act → Prop} {ψ φ : Pred} {c1 : Value} (pre0 : List (Tmp × Pred))
    (hpre : ∀ p ∈ pre0, p.1 ≠ d) (hm : ∀ v w w', R w w' → φ v w → φ v w') (he : ∀ v, (#[o1, .tmp d] : Array Operand).toList.map (a.put (some d) v).eval = [c1, v])
    (hrun : ∀ (x : Beh R w0) v, ψ v x.w → ∃ v' w', (Builtin.append_ ats type #[c1, v]).run P x.w = .ok v' w' ∧ R x.w w' ∧ φ v' w')
    (hp : a.put dst undef = a') (hn : next (pre0 ++ [(d, ψ)] ++ [(dst.getD 0, φ)]) a') : LateAt P ops R w0 ⟨dst, .call ⟨.builtin .append, #[o1, .tmp d], ats⟩, type, pos, after, none⟩ [d] (some φ) (pre0 ++ [(d, ψ)]) a next := by
  refine ⟨hm, fun x => withGens_one hpre fun v hv => ?_, by rw [hp]; exact hn⟩
  exact tOp_append (R := R) (φ := φ) (vals := #[c1, v]) (he v) (hrun x v hv)
end



theorem own_new {w : World} {B : Nat} : Own intC 3 1 w B (.slice none 0 0) [] := Own.nil _ _ _ _ _

set_option maxRecDepth 100000 in
set_option maxHeartbeats 4000000 in
theorem of72 (A : Option Addr) (n c : Nat) (f : Nat → Scr) (level : Int) (w : World) (hn : n ≤ 100) (hR : RowsAt w w.heap.size 3 A n fun i => (f i).cells)
    (hf : ∀ k, k < n → -9223372036854775808 ≤ (f k).unit ∧ (f k).rng ≤ 9223372036854775807) :
    Calls Try.prog 72 #[.slice A n c, .int .i64 level] w fun en w' => ∃ vl vh, en = .returned (.agg #[vl, vh]) ∧
      Own intC 3 1 w' w.heap.size vl ((List.range n).map fun k : Nat => endI (numX f true (thrI level 2) n) true ((k : Int) + 1)) ∧
      Own intC 3 1 w' w.heap.size vh ((List.range n).map fun k : Nat => endI (numX f false (thrI level 2) n) false ((k : Int) + 1)) ∧ Below w.heap.size w w' := by
  have hs1 := fun w' => side94 A n c level true w' (numX f true (thrI level 2) n)
  have hs2 := fun w' => side94 A n c level false w' (numX f false (thrI level 2) n)
  have he1 := fun b cnt k w' h1 h2 h3 => end95 A n c f (thrI level 2) true b cnt k w.heap.size w' (by omega) h1 h2 hf h3
  have he2 := fun b cnt k w' h1 h2 h3 => end95 A n c f (thrI level 2) false b cnt k w.heap.size w' (by omega) h1 h2 hf h3
  generalize numX f true (thrI level 2) n = N1 at *
  generalize numX f false (thrI level 2) n = N2 at *
  generalize thrI level 2 = thr at *
  obtain ⟨L1, hL1⟩ : ∃ L : Nat → Int, (fun k : Nat => endI N1 true ((k : Int) + 1)) = L := ⟨_, rfl⟩
  obtain ⟨L2, hL2⟩ : ∃ L : Nat → Int, (fun k : Nat => endI N2 false ((k : Int) + 1)) = L := ⟨_, rfl⟩
  rw [hL1, hL2]
  replace he1 := fun b cnt (k : Nat) w' h1 h2 h3 h4 => (he1 b cnt ((k : Int) + 1) w' h1 h2 h3 h4).mono (R' := fun en w2 => en = .returned (.int .i64 (L1 k)) ∧ KnownOk w2 b (cnt + 2001) N1 ∧ w'.grownBy w2 (some b)) fun e w2 h => by rw [← hL1]; exact h
  replace he2 := fun b cnt (k : Nat) w' h1 h2 h3 h4 => (he2 b cnt ((k : Int) + 1) w' h1 h2 h3 h4).mono (R' := fun en w2 => en = .returned (.int .i64 (L2 k)) ∧ KnownOk w2 b (cnt + 2001) N2 ∧ w'.grownBy w2 (some b)) fun e w2 h => by rw [← hL2]; exact h
  have HS1 := Lib.hid hs1
  have HS2 := Lib.hid hs2
  have HE1 := Lib.hid he1
  have HE2 := Lib.hid he2
  clear hs1 hs2 he1 he2 hf hL1 hL2
  obtain ⟨i0, hi, hz0, hz1, hz2⟩ := info_parts info3n
  go_enter Try.func72, Try.ntmps72
  go_wp2_with fail
  refine (HS1.out _).mono ?_
  rintro en w1 ⟨b1, rfl, hb1, hK1, hw1⟩
  go_wp2_with fail
  refine (HS2.out _).mono ?_
  rintro en w2 ⟨b2, rfl, hb2, hK2, hw2⟩
  go_wp2_with fail
  have hk1 := hK1.lt
  have hk2 := hK2.lt
  have hbz : Below w2.heap.size w2 (((w2.alloc (.cells #[.slice A n c, .int .i64 thr, .bool true, .map (some b1)] 132)).alloc (.cells #[.slice A n c, .int .i64 thr, .bool false, .map (some b2)] 132)).alloc (.cells #[.slice none 0 0, .slice none 0 0] 95)) := (((Below.refl _ _).alloc (Nat.le_refl _) _).alloc (by simp) _).alloc (by simp; omega) _
  have g5 : (((w2.alloc (.cells #[.slice A n c, .int .i64 thr, .bool true, .map (some b1)] 132)).alloc (.cells #[.slice A n c, .int .i64 thr, .bool false, .map (some b2)] 132)).alloc (.cells #[.slice none 0 0, .slice none 0 0] 95)).heap[w2.heap.size]? = some (.cells #[.slice A n c, .int .i64 thr, .bool true, .map (some b1)] 132 (0, 0)) := by
    rw [Below.heap_alloc _ _ _ (by simp; omega), Below.heap_alloc _ _ _ (by simp)]; exact heap_alloc_new w2 _
  have g6 : (((w2.alloc (.cells #[.slice A n c, .int .i64 thr, .bool true, .map (some b1)] 132)).alloc (.cells #[.slice A n c, .int .i64 thr, .bool false, .map (some b2)] 132)).alloc (.cells #[.slice none 0 0, .slice none 0 0] 95)).heap[w2.heap.size + 1]? = some (.cells #[.slice A n c, .int .i64 thr, .bool false, .map (some b2)] 132 (0, 0)) := by
    rw [Below.heap_alloc _ _ _ (by simp)]
    have h := heap_alloc_new (w2.alloc (.cells #[.slice A n c, .int .i64 thr, .bool true, .map (some b1)] 132)) (.cells #[.slice A n c, .int .i64 thr, .bool false, .map (some b2)] 132)
    rw [show (w2.alloc (.cells #[.slice A n c, .int .i64 thr, .bool true, .map (some b1)] 132)).heap.size = w2.heap.size + 1 by simp] at h
    exact h
  have g7 : (((w2.alloc (.cells #[.slice A n c, .int .i64 thr, .bool true, .map (some b1)] 132)).alloc (.cells #[.slice A n c, .int .i64 thr, .bool false, .map (some b2)] 132)).alloc (.cells #[.slice none 0 0, .slice none 0 0] 95)).heap[w2.heap.size + 1 + 1]? = some (.cells #[.slice none 0 0, .slice none 0 0] 95 (0, 0)) := by
    have h := heap_alloc_new ((w2.alloc (.cells #[.slice A n c, .int .i64 thr, .bool true, .map (some b1)] 132)).alloc (.cells #[.slice A n c, .int .i64 thr, .bool false, .map (some b2)] 132)) (.cells #[.slice none 0 0, .slice none 0 0] 95)
    rw [show ((w2.alloc (.cells #[.slice A n c, .int .i64 thr, .bool true, .map (some b1)] 132)).alloc (.cells #[.slice A n c, .int .i64 thr, .bool false, .map (some b2)] 132)).heap.size = w2.heap.size + 1 + 1 by simp] at h
    exact h
  have hsz : (((w2.alloc (.cells #[.slice A n c, .int .i64 thr, .bool true, .map (some b1)] 132)).alloc (.cells #[.slice A n c, .int .i64 thr, .bool false, .map (some b2)] 132)).alloc (.cells #[.slice none 0 0, .slice none 0 0] 95)).heap.size = w2.heap.size + 3 := by simp
  have hb0 : Below w.heap.size w (w.alloc (.cells #[.slice none 0 0, .slice none 0 0] 95)) := (Below.refl _ _).alloc (Nat.le_refl _) _
  have g4 : (w.alloc (.cells #[.slice none 0 0, .slice none 0 0] 95)).heap[w.heap.size]? = some (.cells #[.slice none 0 0, .slice none 0 0] 95 (0, 0)) := heap_alloc_new w _
  have z0 : (w.alloc (.cells #[.slice none 0 0, .slice none 0 0] 95)).heap.size = w.heap.size + 1 := by simp
  generalize (w.alloc (.cells #[.slice none 0 0, .slice none 0 0] 95)) = w0 at *
  generalize (((w2.alloc (.cells #[.slice A n c, .int .i64 thr, .bool true, .map (some b1)] 132)).alloc (.cells #[.slice A n c, .int .i64 thr, .bool false, .map (some b2)] 132)).alloc (.cells #[.slice none 0 0, .slice none 0 0] 95)) = w3 at *
  have hw02 := below_trans' hw1 hw1.size hw2
  have hw03 := below_trans' hw02 hw02.size hbz
  replace g4 := (hw03.block _ (by omega)).trans g4
  have hbw := below_trans' hb0 hb0.size hw03
  replace hK1 := (hK1.below hw2).below hbz
  replace hK2 := hK2.below hbz
  have s1 := hw1.size
  have s2 := hw2.size
  generalize hg5 : w2.heap.size = G5 at *
  generalize hg6 : G5 + 1 = G6 at *
  generalize hg7 : G6 + 1 = G7 at *
  obtain ⟨G4, hg4⟩ : ∃ G, w.heap.size = G := ⟨_, rfl⟩
  rw [hg4] at g4 ⊢
  have q1 : G4 < b1 := by omega
  have q2 : b1 < b2 := by omega
  have q3 : b2 < G5 := by omega
  have q4 : G7 < w3.heap.size := by omega
  have q5 : w.heap.size = G4 := hg4
  clear hw1 hw2 hw02 hw03 hbz hb0 z0 s1 s2 hb1 hb2 hk1 hk2 hsz hg5 hg4
  have Q5 := Lib.hid q5
  have Q6 := Lib.hid hg6
  have Q7 := Lib.hid hg7
  have hq1 : w.heap.size ≤ b1 := by omega
  have hq2 : w.heap.size ≤ b2 := by omega
  have hbs : w.heap.size ≤ w3.heap.size := hbw.size
  clear q5 hg6 hg7
  go_loopg [17] n (fun m i wr => ∃ (k cl ch : Nat) (Al Ah : Option Addr), k ≤ n ∧ m = n - k ∧ i = .int .i64 k ∧ Own intC 3 1 wr w3.heap.size (.slice Al k cl) ((List.range k).map L1) ∧ Own intC 3 1 wr w3.heap.size (.slice Ah k ch) ((List.range k).map L2) ∧ apartV (.slice Al k cl) (.slice Ah k ch) ∧
    wr.heap[G7]? = some (.cells #[.slice Al k cl, .slice Ah k ch] 95 (0, 0)) ∧ wr.heap[G4]? = some (.cells #[.slice none 0 0, .slice none 0 0] 95 (0, 0)) ∧ wr.heap[G5]? = some (.cells #[.slice A n c, .int .i64 thr, .bool true, .map (some b1)] 132 (0, 0)) ∧ wr.heap[G6]? = some (.cells #[.slice A n c, .int .i64 thr, .bool false, .map (some b2)] 132 (0, 0)) ∧
    KnownOk wr b1 2003 N1 ∧ KnownOk wr b2 2003 N2 ∧ Below w.heap.size w wr ∧ w3.heap.size ≤ wr.heap.size)
  case atStart => exact ⟨0, 0, 0, none, none, by omega, by omega, rfl, own_new, own_new, (fun _ h => by cases h), g7, g4, g5, g6, hK1.cap, hK2.cap, hbw, Nat.le_refl _⟩
  case round =>
    obtain ⟨k, cl, ch, Al, Ah, hk, hm, rfl, hol, hoh, hap, h7, h4, h5, h6, hk1, hk2, hb, hs⟩ := hrel
    have HM := Lib.hid hm
    clear hm hbw g4 g5 g6 g7 hK1 hK2
    by_cases hkn : k < n
    · have nb1 : b1 < w3.heap.size := by have := Q6.out; have := Q7.out; omega
      have nb2 : b2 < w3.heap.size := by have := Q6.out; have := Q7.out; omega
      have n7b1 : G7 ≠ b1 := by have := Q6.out; have := Q7.out; omega
      have n7b2 : G7 ≠ b2 := by have := Q6.out; have := Q7.out; omega
      have nG5b1 : G5 ≠ b1 := by omega
      have nG5b2 : G5 ≠ b2 := by omega
      have nG6b1 : G6 ≠ b1 := by have := Q6.out; omega
      have nG6b2 : G6 ≠ b2 := by have := Q6.out; omega
      have n4b1 : G4 ≠ b1 := by omega
      have n4b2 : G4 ≠ b2 := by omega
      have nbb : b1 ≠ b2 := by omega
      have mG5 : G5 < w3.heap.size := by have := Q6.out; have := Q7.out; omega
      have mG6 : G6 < w3.heap.size := by have := Q7.out; omega
      have q6 : G4 < w3.heap.size := by omega
      have hw7 : w.heap.size ≤ G7 := by have := Q5.out; have := Q6.out; have := Q7.out; omega
      have d5 : G5 ≠ G7 := by have := Q6.out; have := Q7.out; omega
      have d6 : G6 ≠ G7 := by have := Q7.out; omega
      have d4 : G4 ≠ G7 := by have := Q6.out; have := Q7.out; omega
      have hrows : Rows0 wr.drew w3.heap.size [(.slice Al k cl, (List.range k).map L1, L1 k)] := ⟨fun r hr => by
          rw [List.mem_singleton] at hr; subst hr
          exact Own.below hol ((Below.refl _ _).drew), fun r hr s hs => by
          rw [List.mem_singleton] at hr hs; subst hr hs
          exact .inl rfl, hs⟩
      have hnb : ∀ s ∈ [((Value.slice Al k cl, (List.range k).map L1, L1 k) : NRow)], s.1.ownBlock ≠ some b1 := fun s hs' h => by
        rw [List.mem_singleton] at hs'; subst hs'
        have := (Own.lt hol h).2; omega
      have hnb2 : ∀ o cs, (b2, o, cs) ∉ wsOf [(.slice Al k cl, (List.range k).map L1, L1 k)] := fun o cs hm => by have := hrows.ge _ _ _ hm; omega
      have hmp := PA_mono_rm (N := N1) hrows (r := (.slice Al k cl, (List.range k).map L1, L1 k)) (by simp) (Nat.lt_of_lt_of_le nb1 hs) (hnb _ (by simp))
      have hrp := PA_run_rm (N := N1) hrows (r := (.slice Al k cl, (List.range k).map L1, L1 k)) (by simp) (by simp; omega) hnb
      have htr := fun x y z => RM.trans (b := b1) (N := N1) (x := x) (y := y) (z := z) hrows.uniq
      have hlt' := hrows.lt
      have hge' := hrows.ge
      have hS : ∀ z : Beh (RM b1 N1 (wsOf [(.slice Al k cl, (List.range k).map L1, L1 k)])) wr.drew, wr.drew.heap.size ≤ z.w.heap.size := fun z => z.h.size
      have hkz : ∀ z : Beh (RM b1 N1 (wsOf [(.slice Al k cl, (List.range k).map L1, L1 k)])) wr.drew, KnownOk z.w b1 2003 N1 := fun z => z.h.known (hk1.same rfl)
      have hzw : ∀ z : Beh (RM b1 N1 (wsOf [(.slice Al k cl, (List.range k).map L1, L1 k)])) wr.drew, Below w.heap.size w z.w := fun z => hb.drew.trans (z.h.below hb.size hq1 fun i o cs hm => Nat.le_trans hbs (hge' i o cs hm))
      have hold : ∀ z : Beh (RM b1 N1 (wsOf [(.slice Al k cl, (List.range k).map L1, L1 k)])) wr.drew, ∀ g, g < w3.heap.size → g ≠ b1 → z.w.heap[g]? = wr.heap[g]? := fun z g hg hgb => z.h.same (Nat.lt_of_lt_of_le hg hs) hgb fun o cs hm => by have := hge' g o cs hm; omega
      have hoth : ∀ z : Beh (RM b1 N1 (wsOf [(.slice Al k cl, (List.range k).map L1, L1 k)])) wr.drew, Own intC 3 1 z.w w3.heap.size (.slice Ah k ch) ((List.range k).map L2) := fun z => own_rm (Own.below hoh ((Below.refl _ _).drew)) z.h (fun h => by have := (Own.lt hoh h).2; omega) (fun q o cs hm hq' => by
        obtain ⟨r, hr, h1, _⟩ := mem_wsOf hm
        rw [List.mem_singleton] at hr; subst hr
        exact absurd hq' (hap q h1))
      have z7 : ∀ z : Beh (RM b1 N1 (wsOf [(.slice Al k cl, (List.range k).map L1, L1 k)])) wr.drew, z.w.heap[G7]? = some (.cells #[.slice Al k cl, .slice Ah k ch] 95 (0, 0)) := fun z => (hold z G7 q4 n7b1).trans h7
      have z5 : ∀ z : Beh (RM b1 N1 (wsOf [(.slice Al k cl, (List.range k).map L1, L1 k)])) wr.drew, z.w.heap[G5]? = some (.cells #[.slice A n c, .int .i64 thr, .bool true, .map (some b1)] 132 (0, 0)) := fun z => (hold z G5 mG5 nG5b1).trans h5
      have y0 : ∀ z : Beh (RM b1 N1 (wsOf [(.slice Al k cl, (List.range k).map L1, L1 k)])) wr.drew, z.w.cell? ⟨G7, 0, none⟩ = some (.slice Al k cl) := fun z => cell_of_block (z7 z) 0
      have y1 : ∀ z : Beh (RM b1 N1 (wsOf [(.slice Al k cl, (List.range k).map L1, L1 k)])) wr.drew, z.w.cell? ⟨G5, 0, none⟩ = some (.slice A n c) := fun z => cell_of_block (z5 z) 0
      have y2 : ∀ z : Beh (RM b1 N1 (wsOf [(.slice Al k cl, (List.range k).map L1, L1 k)])) wr.drew, z.w.cell? ⟨G5, 1, none⟩ = some (.int .i64 thr) := fun z => cell_of_block (z5 z) 1
      have y3 : ∀ z : Beh (RM b1 N1 (wsOf [(.slice Al k cl, (List.range k).map L1, L1 k)])) wr.drew, z.w.cell? ⟨G5, 2, none⟩ = some (.bool true) := fun z => cell_of_block (z5 z) 2
      have y4 : ∀ z : Beh (RM b1 N1 (wsOf [(.slice Al k cl, (List.range k).map L1, L1 k)])) wr.drew, z.w.cell? ⟨G5, 3, none⟩ = some (.map (some b1)) := fun z => cell_of_block (z5 z) 3
      have nbS : b1 < wr.drew.heap.size := Nat.lt_of_lt_of_le nb1 hs
      have hSW : w3.heap.size ≤ wr.drew.heap.size := hs
      have hoa : ∀ g, (Value.slice Ah k ch).ownBlock = some g → g < wr.drew.heap.size := fun g h => (Own.lt hoh h).1
      generalize hSe : wr.drew.heap.size = S at *
      go_wp2_with fail
      refine wp_region_loose (R := RM b1 N1 (wsOf [(.slice Al k cl, (List.range k).map L1, L1 k)])) 8 40 [] [(5, [], none), (6, [], some (freshS S #[.int .i64 (L1 k)] 3 1)), (7, [26], some (PA w3.heap.size S (.slice Al k cl, (List.range k).map L1, L1 k)))] (by kernel_rfl) (by kernel_rfl) (by kernel_rfl) (by kernel_rfl) (fun h => absurd rfl h) rfl (RM.refl _ _ _) htr ?_
      simp only [Late, List.take_succ_cons, List.drop_succ_cons, List.take_zero, List.drop_zero, Nat.reduceSub, Nat.reduceAdd, Nat.sub_zero]
      repeat (go_big_quiet_step (rfl))
      refine wpQuiet_nil ?_
      refine late_call (c := .int .i64 (L1 k)) Try.func95 (by kernel_rfl) (by kernel_rfl) (fun z => (HE1.out b1 2003 k z.w (by omega) (hR.below (hzw z) (Nat.le_refl _)) hq1 (hkz z)).mono fun e w' ⟨he, hK, hg⟩ => ⟨he, RM.of_grown hg hK.cap⟩) rfl (by simp only [Act.put, List.setIfInBounds_toArray, List.set_cons_succ, List.set_cons_zero]; rfl) ?_
      refine wpQuiet_nil ?_
      refine late_buildR (fun w => by kernel_rfl) (fun z => RM.of_le ((Below.refl _ _).alloc (Nat.le_refl _) _)) (freshS_rm nbS hlt') hS (by simp only [Act.put, List.setIfInBounds_toArray, List.set_cons_succ, List.set_cons_zero]; rfl) ?_
      refine wpQuiet_nil ?_
      refine late_appl [] (by simp) hmp (fun _ => rfl) hrp (by simp only [Act.put, List.setIfInBounds_toArray, List.set_cons_succ, List.set_cons_zero]; rfl) ?_
      refine wpQuiet_nil ?_
      intro z
      simp only [List.nil_append, List.cons_append, allGens, Option.getD_some]
      rintro v26 _ v27 p27
      simp only [Act.put, List.setIfInBounds_toArray, List.set_cons_succ, List.set_cons_zero]
      obtain ⟨o27, -, w27⟩ := p27
      have e27 : ((List.range k).map L1 ++ [L1 k]).length = k + 1 := by simp
      obtain ⟨A27, c27, rfl, -⟩ := Own.shape o27
      rw [e27] at o27 w27 ⊢
      have hap2 : apartV (.slice A27 (k + 1) c27) (.slice Ah k ch) := fun g h1 h2 => by
        rcases w27 with h3 | ⟨q, h3, h4⟩
        · rw [h1] at h3
          exact hap g h3.symm h2
        · rw [h1] at h3
          injection h3 with h3
          have := hoa g h2
          omega
      have ho2 := hoth z
      have hkb1 := hkz z
      have hkb2 := hk2.same (hold z b2 nb2 (Ne.symm nbb))
      have k7 := z7 z
      have k5 := z5 z
      have k6 := (hold z G6 mG6 nG6b1).trans h6
      have k4 := (hold z G4 q6 n4b1).trans h4
      have hb2 := hzw z
      have hs2 : w3.heap.size ≤ z.w.heap.size := Nat.le_trans hSW (hS z)
      clear z7 z5 y0 y1 y2 y3 y4 hold hoth hkz hzw hS hrp hmp htr hlt' hge' hrows hnb hnb2 hoa w27 e27 nbS hSe hSW
      clear hb hs hk1 hk2 h4 h5 h6 h7 hol hoh hap
      generalize z.w = W0 at *
      have y0 := cell_of_block k7 0
      have f0 := free_of_block k7 0
      simp only [List.getElem?_toArray, List.getElem?_cons_zero] at y0
      have hset : W0.grownBy (W0.setCell ⟨G7, 0, none⟩ (.slice A27 (k + 1) c27)) (some G7) := only_setCell (only_refl _ _) (.inl rfl) _
      have j7 : (W0.setCell ⟨G7, 0, none⟩ (.slice A27 (k + 1) c27)).heap[G7]? = some (.cells #[.slice A27 (k + 1) c27, .slice Ah k ch] 95 (0, 0)) := block_set k7 0 _
      have j5 := (hset.block G5 (lt_of_blk k5) (by simp; omega)).trans k5
      have j6 := (hset.block G6 (lt_of_blk k6) (by simp; omega)).trans k6
      have j4 := (hset.block G4 (lt_of_blk k4) (by simp; omega)).trans k4
      have jk1 := hkb1.other hset (Ne.symm n7b1)
      have jk2 := hkb2.other hset (Ne.symm n7b2)
      have jo := Own.only o27 hset q4
      have jo2 := Own.only ho2 hset q4
      have jb : Below w.heap.size w (W0.setCell ⟨G7, 0, none⟩ (.slice A27 (k + 1) c27)) := hb2.setCell hw7 _
      have js : w3.heap.size ≤ (W0.setCell ⟨G7, 0, none⟩ (.slice A27 (k + 1) c27)).heap.size := Nat.le_trans hs2 hset.size
      clear k7 k5 k6 k4 hkb1 hkb2 o27 ho2 hb2 hs2 hset
      go_wp2_with fail
      generalize W0.setCell ⟨G7, 0, none⟩ (.slice A27 (k + 1) c27) = V0 at *
      clear y0 f0
      have h7 := j7
      have h4 := j4
      have h5 := j5
      have h6 := j6
      have hk1 := jk1
      have hk2 := jk2
      have hb := jb
      have hs := js
      have hol := jo
      have hoh := jo2
      have hap := hap2
      clear j7 j4 j5 j6 jk1 jk2 jb js jo jo2 hap2
      have hrows : Rows0 V0.drew w3.heap.size [(.slice Ah k ch, (List.range k).map L2, L2 k)] := ⟨fun r hr => by
          rw [List.mem_singleton] at hr; subst hr
          exact Own.below hoh ((Below.refl _ _).drew), fun r hr s hs => by
          rw [List.mem_singleton] at hr hs; subst hr hs
          exact .inl rfl, hs⟩
      have hnb : ∀ s ∈ [((Value.slice Ah k ch, (List.range k).map L2, L2 k) : NRow)], s.1.ownBlock ≠ some b2 := fun s hs' h => by
        rw [List.mem_singleton] at hs'; subst hs'
        have := (Own.lt hoh h).2; omega
      have hnb2 : ∀ o cs, (b1, o, cs) ∉ wsOf [(.slice Ah k ch, (List.range k).map L2, L2 k)] := fun o cs hm => by have := hrows.ge _ _ _ hm; omega
      have hmp := PA_mono_rm (N := N2) hrows (r := (.slice Ah k ch, (List.range k).map L2, L2 k)) (by simp) (Nat.lt_of_lt_of_le nb2 hs) (hnb _ (by simp))
      have hrp := PA_run_rm (N := N2) hrows (r := (.slice Ah k ch, (List.range k).map L2, L2 k)) (by simp) (by simp; omega) hnb
      have htr := fun x y z => RM.trans (b := b2) (N := N2) (x := x) (y := y) (z := z) hrows.uniq
      have hlt' := hrows.lt
      have hge' := hrows.ge
      have hS : ∀ z : Beh (RM b2 N2 (wsOf [(.slice Ah k ch, (List.range k).map L2, L2 k)])) V0.drew, V0.drew.heap.size ≤ z.w.heap.size := fun z => z.h.size
      have hkz : ∀ z : Beh (RM b2 N2 (wsOf [(.slice Ah k ch, (List.range k).map L2, L2 k)])) V0.drew, KnownOk z.w b2 2003 N2 := fun z => z.h.known (hk2.same rfl)
      have hzw : ∀ z : Beh (RM b2 N2 (wsOf [(.slice Ah k ch, (List.range k).map L2, L2 k)])) V0.drew, Below w.heap.size w z.w := fun z => hb.drew.trans (z.h.below hb.size hq2 fun i o cs hm => Nat.le_trans hbs (hge' i o cs hm))
      have hold : ∀ z : Beh (RM b2 N2 (wsOf [(.slice Ah k ch, (List.range k).map L2, L2 k)])) V0.drew, ∀ g, g < w3.heap.size → g ≠ b2 → z.w.heap[g]? = V0.heap[g]? := fun z g hg hgb => z.h.same (Nat.lt_of_lt_of_le hg hs) hgb fun o cs hm => by have := hge' g o cs hm; omega
      have hoth : ∀ z : Beh (RM b2 N2 (wsOf [(.slice Ah k ch, (List.range k).map L2, L2 k)])) V0.drew, Own intC 3 1 z.w w3.heap.size (.slice A27 (k + 1) c27) ((List.range k).map L1 ++ [L1 k]) := fun z => own_rm (Own.below hol ((Below.refl _ _).drew)) z.h (fun h => by have := (Own.lt hol h).2; omega) (fun q o cs hm hq' => by
        obtain ⟨r, hr, h1, _⟩ := mem_wsOf hm
        rw [List.mem_singleton] at hr; subst hr
        exact absurd h1 (hap q hq'))
      have z7 : ∀ z : Beh (RM b2 N2 (wsOf [(.slice Ah k ch, (List.range k).map L2, L2 k)])) V0.drew, z.w.heap[G7]? = some (.cells #[.slice A27 (k + 1) c27, .slice Ah k ch] 95 (0, 0)) := fun z => (hold z G7 q4 n7b2).trans h7
      have z5 : ∀ z : Beh (RM b2 N2 (wsOf [(.slice Ah k ch, (List.range k).map L2, L2 k)])) V0.drew, z.w.heap[G6]? = some (.cells #[.slice A n c, .int .i64 thr, .bool false, .map (some b2)] 132 (0, 0)) := fun z => (hold z G6 mG6 nG6b2).trans h6
      have y0 : ∀ z : Beh (RM b2 N2 (wsOf [(.slice Ah k ch, (List.range k).map L2, L2 k)])) V0.drew, z.w.cell? ⟨G7, 1, none⟩ = some (.slice Ah k ch) := fun z => cell_of_block (z7 z) 1
      have y1 : ∀ z : Beh (RM b2 N2 (wsOf [(.slice Ah k ch, (List.range k).map L2, L2 k)])) V0.drew, z.w.cell? ⟨G6, 0, none⟩ = some (.slice A n c) := fun z => cell_of_block (z5 z) 0
      have y2 : ∀ z : Beh (RM b2 N2 (wsOf [(.slice Ah k ch, (List.range k).map L2, L2 k)])) V0.drew, z.w.cell? ⟨G6, 1, none⟩ = some (.int .i64 thr) := fun z => cell_of_block (z5 z) 1
      have y3 : ∀ z : Beh (RM b2 N2 (wsOf [(.slice Ah k ch, (List.range k).map L2, L2 k)])) V0.drew, z.w.cell? ⟨G6, 2, none⟩ = some (.bool false) := fun z => cell_of_block (z5 z) 2
      have y4 : ∀ z : Beh (RM b2 N2 (wsOf [(.slice Ah k ch, (List.range k).map L2, L2 k)])) V0.drew, z.w.cell? ⟨G6, 3, none⟩ = some (.map (some b2)) := fun z => cell_of_block (z5 z) 3
      have nbS : b2 < V0.drew.heap.size := Nat.lt_of_lt_of_le nb2 hs
      have hSW : w3.heap.size ≤ V0.drew.heap.size := hs
      have hoa : ∀ g, (Value.slice A27 (k + 1) c27).ownBlock = some g → g < V0.drew.heap.size := fun g h => (Own.lt hol h).1
      generalize hSe : V0.drew.heap.size = S at *
      go_wp2_with fail
      refine wp_region_loose (R := RM b2 N2 (wsOf [(.slice Ah k ch, (List.range k).map L2, L2 k)])) 8 40 [] [(5, [], none), (6, [], some (freshS S #[.int .i64 (L2 k)] 3 1)), (7, [35], some (PA w3.heap.size S (.slice Ah k ch, (List.range k).map L2, L2 k)))] (by kernel_rfl) (by kernel_rfl) (by kernel_rfl) (by kernel_rfl) (fun h => absurd rfl h) rfl (RM.refl _ _ _) htr ?_
      simp only [Late, List.take_succ_cons, List.drop_succ_cons, List.take_zero, List.drop_zero, Nat.reduceSub, Nat.reduceAdd, Nat.sub_zero]
      repeat (go_big_quiet_step (rfl))
      refine wpQuiet_nil ?_
      refine late_call (c := .int .i64 (L2 k)) Try.func95 (by kernel_rfl) (by kernel_rfl) (fun z => (HE2.out b2 2003 k z.w (by omega) (hR.below (hzw z) (Nat.le_refl _)) hq2 (hkz z)).mono fun e w' ⟨he, hK, hg⟩ => ⟨he, RM.of_grown hg hK.cap⟩) rfl (by simp only [Act.put, List.setIfInBounds_toArray, List.set_cons_succ, List.set_cons_zero]; rfl) ?_
      refine wpQuiet_nil ?_
      refine late_buildR (fun w => by kernel_rfl) (fun z => RM.of_le ((Below.refl _ _).alloc (Nat.le_refl _) _)) (freshS_rm nbS hlt') hS (by simp only [Act.put, List.setIfInBounds_toArray, List.set_cons_succ, List.set_cons_zero]; rfl) ?_
      refine wpQuiet_nil ?_
      refine late_appl [] (by simp) hmp (fun _ => rfl) hrp (by simp only [Act.put, List.setIfInBounds_toArray, List.set_cons_succ, List.set_cons_zero]; rfl) ?_
      refine wpQuiet_nil ?_
      intro z
      simp only [List.nil_append, List.cons_append, allGens, Option.getD_some]
      rintro v35 _ v36 p36
      simp only [Act.put, List.setIfInBounds_toArray, List.set_cons_succ, List.set_cons_zero]
      obtain ⟨o36, -, w36⟩ := p36
      have e36 : ((List.range k).map L2 ++ [L2 k]).length = k + 1 := by simp
      obtain ⟨A36, c36, rfl, -⟩ := Own.shape o36
      rw [e36] at o36 w36 ⊢
      have hap2 : apartV (.slice A36 (k + 1) c36) (.slice A27 (k + 1) c27) := fun g h1 h2 => by
        rcases w36 with h3 | ⟨q, h3, h4⟩
        · rw [h1] at h3
          exact hap g h2 h3.symm
        · rw [h1] at h3
          injection h3 with h3
          have := hoa g h2
          omega
      have ho2 := hoth z
      have hkb2 := hkz z
      have hkb1 := hk1.same (hold z b1 nb1 (nbb))
      have k7 := z7 z
      have k5 := z5 z
      have k6 := (hold z G5 mG5 nG5b2).trans h5
      have k4 := (hold z G4 q6 n4b2).trans h4
      have hb2 := hzw z
      have hs2 : w3.heap.size ≤ z.w.heap.size := Nat.le_trans hSW (hS z)
      clear z7 z5 y0 y1 y2 y3 y4 hold hoth hkz hzw hS hrp hmp htr hlt' hge' hrows hnb hnb2 hoa w36 e36 nbS hSe hSW
      clear hb hs hk2 hk1 h4 h5 h6 h7 hoh hol hap
      generalize z.w = W1 at *
      have y0 := cell_of_block k7 1
      have f0 := free_of_block k7 1
      simp only [List.getElem?_toArray, List.getElem?_cons_zero, List.getElem?_cons_succ] at y0
      have hset : W1.grownBy (W1.setCell ⟨G7, 1, none⟩ (.slice A36 (k + 1) c36)) (some G7) := only_setCell (only_refl _ _) (.inl rfl) _
      have j7 : (W1.setCell ⟨G7, 1, none⟩ (.slice A36 (k + 1) c36)).heap[G7]? = some (.cells #[.slice A27 (k + 1) c27, .slice A36 (k + 1) c36] 95 (0, 0)) := block_set k7 1 _
      have j5 := (hset.block G6 (lt_of_blk k5) (by simp; omega)).trans k5
      have j6 := (hset.block G5 (lt_of_blk k6) (by simp; omega)).trans k6
      have j4 := (hset.block G4 (lt_of_blk k4) (by simp; omega)).trans k4
      have jk1 := hkb1.other hset (Ne.symm n7b1)
      have jk2 := hkb2.other hset (Ne.symm n7b2)
      have jo := Own.only o36 hset q4
      have jo2 := Own.only ho2 hset q4
      have jb : Below w.heap.size w (W1.setCell ⟨G7, 1, none⟩ (.slice A36 (k + 1) c36)) := hb2.setCell hw7 _
      have js : w3.heap.size ≤ (W1.setCell ⟨G7, 1, none⟩ (.slice A36 (k + 1) c36)).heap.size := Nat.le_trans hs2 hset.size
      clear k7 k5 k6 k4 hkb1 hkb2 o36 ho2 hb2 hs2 hset
      go_wp2_with fail
      generalize W1.setCell ⟨G7, 1, none⟩ (.slice A36 (k + 1) c36) = V1 at *
      clear y0 f0
      go_roundg (n - (k + 1))
      case measure => have := HM.out; omega
      case rel => exact ⟨k + 1, c27, c36, A27, A36, by omega, rfl, by go_num, by rw [List.range_succ, List.map_append]; exact jo2, by rw [List.range_succ, List.map_append]; exact jo, (fun g h1 h2 => hap2 g h2 h1), j7, j4, j6, j5, jk1, jk2, jb, js⟩
    · obtain rfl : k = n := by omega
      have y0 := cell_of_block h7 0
      have y1 := cell_of_block h7 1
      have x0 := cell_of_block h4 0
      have x1 := cell_of_block h4 1
      have e0 := free_of_block h4 0
      have e1 := free_of_block h4 1
      simp only [List.getElem?_toArray, List.getElem?_cons_zero, List.getElem?_cons_succ] at y0 y1 x0 x1
      have hset : wr.grownBy ((wr.setCell ⟨G4, 0, none⟩ (.slice Al k cl)).setCell ⟨G4, 1, none⟩ (.slice Ah k ch)) (some G4) := only_setCell (p := ⟨G4, 1, none⟩) (only_setCell (p := ⟨G4, 0, none⟩) (only_refl _ _) (.inl rfl) _) (.inl rfl) _
      have hbw4 : w.heap.size ≤ G4 := Nat.le_of_eq Q5.out
      have q6 : G4 < w3.heap.size := by have := Q6.out; have := Q7.out; omega
      have g4' : ((wr.setCell ⟨G4, 0, none⟩ (.slice Al k cl)).setCell ⟨G4, 1, none⟩ (.slice Ah k ch)).heap[G4]? = some (.cells #[.slice Al k cl, .slice Ah k ch] 95 (0, 0)) := block_set (block_set h4 0 _) 1 _
      have t0 := cell_of_block g4' 0
      have t1 := cell_of_block g4' 1
      simp only [List.getElem?_toArray, List.getElem?_cons_zero, List.getElem?_cons_succ] at t0 t1
      have hfin : Below w.heap.size w ((wr.setCell ⟨G4, 0, none⟩ (.slice Al k cl)).setCell ⟨G4, 1, none⟩ (.slice Ah k ch)) := (hb.setCell hbw4 _).setCell hbw4 _
      have r1 := Own.mono (Own.only hol hset q6) hbs
      have r2 := Own.mono (Own.only hoh hset q6) hbs
      clear hset g4' h7 h4 h5 h6
      go_wp2_with fail
      exact bodyPost_ret (v := .agg #[.slice Al k cl, .slice Ah k ch]) (by simp [results, Try.results72, go_sem, t0, t1]) rfl ⟨_, _, rfl, r1, r2, hfin⟩
end Go.Proofs.Ytgonighpjpfmnaa
