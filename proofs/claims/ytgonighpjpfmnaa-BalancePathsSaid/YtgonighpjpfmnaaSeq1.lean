/- sequence.side.excluded: the number of the first scores that exclude an effect, kept in a map. -/
import Derived.Test.YtgonighpjpfmnaaWealthPaths
import Derived.Maps.OwnSet
import Derived.Maps.OwnOps
namespace Go.Proofs.Ytgonighpjpfmnaa
open Go.RowKit Go.Maps

/-- After how many of n scores an effect is excluded, never: the greatest int. -/
def numX (f : Nat → Scr) (up : Bool) (thr : Int) (n : Nat) (e : Int) : Int :=
  if firstN (fun i => (pathR f e up n).getD i 0) thr n = 0 then 9223372036854775807 else firstN (fun i => (pathR f e up n).getD i 0) thr n

theorem firstN_le {f : Nat → Int} {t : Int} : ∀ n, firstN f t n ≤ n
  | 0 => Nat.le_refl _
  | n + 1 => by
    have := firstN_le (f := f) (t := t) n
    rw [firstN]
    split
    · split <;> omega
    · omega

theorem numX_bd (f : Nat → Scr) (up : Bool) (thr : Int) (n : Nat) (e : Int) (hn : n ≤ 1048576) : 1 ≤ numX f up thr n e ∧ numX f up thr n e ≤ 9223372036854775807 := by
  have := firstN_le (f := fun i => (pathR f e up n).getD i 0) (t := thr) n
  unfold numX
  split <;> omega

theorem law3 : Keyed Try.prog 3 := int_keyed Try.underlying3
theorem zero3 (w : World) : (zeroValue 3).run Try.prog w = .ok (.int .i64 0) w := by kernel_rfl

theorem nodup_bd : ∀ (n : Nat) (l : List Nat), l.Nodup → (∀ x ∈ l, x < n) → l.length ≤ n
  | 0, l, _, h => by
    cases l with
    | nil => simp
    | cons x l => have := h x (by simp); omega
  | n + 1, l, hn, h => by
    have h1 := nodup_bd n (l.erase n) (hn.erase n) fun x hx => by
      have h2 := h x (List.mem_of_mem_erase hx)
      have h3 : x ≠ n := fun e => by subst e; exact (List.Nodup.not_mem_erase hn) hx
      omega
    have h4 := List.length_erase (a := n) (l := l)
    split at h4 <;> omega

/-- A map of few effects. -/
def Few (D : DataW Unit) : Prop := ∃ es, D = .map es ∧ es.Pairwise (fun p q => p.1 ≠ q.1) ∧ ∀ p ∈ es, ∃ e : Int, p.1 = .int .i64 e ∧ -1001 ≤ e ∧ e ≤ 1001

theorem Few.put {D : DataW Unit} (h : Few D) {e : Int} (he : -1001 ≤ e ∧ e ≤ 1001) (d : DataW Unit) : Few (D.put (.int .i64 e) d) := by
  obtain ⟨es, rfl, hp, hk⟩ := h
  obtain ⟨es', h1, h2⟩ := Tidy.put (D := .map es) (k := .int .i64 e) ⟨es, rfl, hp⟩ trivial d
  refine ⟨es', h1, h2, fun p hp' => ?_⟩
  have h3 : DataW.insert (.int .i64 e, d) (es.filter fun p => !p.1.sameKey (.int .i64 e)) = es' := by
    have h4 : DataW.map (DataW.insert (.int .i64 e, d) (es.filter fun p => !p.1.sameKey (.int .i64 e))) = .map es' := h1
    injection h4
  rw [← h3] at hp'
  replace hp' := List.mem_cons.1 ((WideShapes.insert_perm _ _).mem_iff.1 hp')
  rcases hp' with rfl | hp'
  · exact ⟨e, rfl, he⟩
  · exact hk p (List.mem_filter.1 hp').1

/-- What is known is right. -/
def KnownOk (w : World) (b n : Nat) (N : Int → Int) : Prop :=
  ∃ D : DataW Unit, w.ownsMap Try.prog 3 (plainElem Try.prog 3) b n D ∧ Few D ∧ ∀ e : Int, Maps.has D (.int .i64 e) = true → D.atKey (.int .i64 e) (.lit (.int .i64 0)) = .lit (.int .i64 (N e))

/-- So few effects. -/
theorem KnownOk.cap {w : World} {b n : Nat} {N : Int → Int} (h : KnownOk w b n N) : KnownOk w b 2003 N := by
  obtain ⟨D, ⟨es, clock, hb, F, _, hD⟩, ht, hk⟩ := h
  refine ⟨D, ⟨es, clock, hb, F, ?_, hD⟩, ht, hk⟩
  obtain ⟨l, hl, hp, hkey⟩ := ht
  have e1 : es.size = l.length := by
    rw [hl] at hD
    injection hD with hD
    rw [hD, length_sorted]; simp
  rw [e1]
  let idx : Lit × DataW Unit → Nat := fun p => match p.1 with
    | .int _ e => (e + 1001).toNat
    | _ => 0
  have h2 := nodup_bd 2003 (l.map idx) (by
    rw [List.Nodup, List.pairwise_map]
    refine List.Pairwise.imp_of_mem (fun {p q} hp1 hq1 hne he => hne ?_) hp
    obtain ⟨e, h1, h2, h3⟩ := hkey p hp1
    obtain ⟨e', h1', h2', h3'⟩ := hkey q hq1
    simp only [idx, h1, h1'] at he
    rw [h1, h1', show e = e' by omega]) (fun x hx => by
    obtain ⟨p, hp1, rfl⟩ := List.mem_map.1 hx
    obtain ⟨e, h1, h2, h3⟩ := hkey p hp1
    simp only [idx, h1]
    omega)
  rwa [List.length_map] at h2

theorem KnownOk.mono {w : World} {b n n' : Nat} {N : Int → Int} (h : KnownOk w b n N) (hn : n ≤ n') : KnownOk w b n' N := by
  obtain ⟨D, h1, h2⟩ := h
  exact ⟨D, h1.mono hn, h2⟩
theorem KnownOk.below {w w' : World} {b n : Nat} {N : Int → Int} (h : KnownOk w b n N) (hb : Below w.heap.size w w') : KnownOk w' b n N := by
  obtain ⟨D, h1, h2⟩ := h
  exact ⟨D, h1.kept (row := none) ⟨hb.os, hb.tape, hb.output, hb.size, fun k hk _ => hb.block k hk⟩ (by simp), h2⟩
theorem KnownOk.lt {w : World} {b n : Nat} {N : Int → Int} (h : KnownOk w b n N) : b < w.heap.size := by
  obtain ⟨D, h1, _⟩ := h
  exact h1.lt
theorem KnownOk.made (w : World) (N : Int → Int) : KnownOk (w.alloc (.map #[] 0)) w.heap.size 0 N :=
  ⟨.map [], World.ownsMap_made _ _ _ _, ⟨[], rfl, List.Pairwise.nil, by simp⟩, fun e h => by simp [Maps.has] at h⟩
theorem KnownOk.other {w w' : World} {b n g : Nat} {N : Int → Int} (h : KnownOk w b n N) (hg : w.grownBy w' (some g)) (hne : b ≠ g) : KnownOk w' b n N := by
  obtain ⟨D, h1, h2⟩ := h
  exact ⟨D, h1.kept hg (by simp; exact hne), h2⟩

theorem grown_of_below {w w' : World} {row : Option Nat} (h : Below w.heap.size w w') : w.grownBy w' row := ⟨h.os, h.tape, h.output, h.size, fun k hk _ => h.block k hk⟩
theorem below_of_grown {w w' : World} {b B : Nat} (h : w.grownBy w' (some b)) (hB : B ≤ b) (hb : B ≤ w.heap.size) : Below B w w' := (Below.refl B w).grown h hb (fun q hq => by injection hq with hq; omega)

set_option maxRecDepth 100000 in
set_option maxHeartbeats 2000000 in
theorem excluded103 (A : Option Addr) (n c : Nat) (f : Nat → Scr) (thr : Int) (up : Bool) (b cnt : Nat) (e k : Int) (B : Nat) (w : World) (hn : n ≤ 1048576) (hc : cnt ≤ 1000000000) (he : -1001 ≤ e ∧ e ≤ 1001)
    (hR : RowsAt w B 3 A n fun i => (f i).cells) (hf : ∀ k, k < n → -9223372036854775808 ≤ (f k).unit ∧ (f k).rng ≤ 9223372036854775807) (hB : B ≤ b) (hK : KnownOk w b cnt (numX f up thr n)) :
    Calls Try.prog 103 #[.agg #[.slice A n c, .int .i64 thr, .bool up, .map (some b)], .int .i64 e, .int .i64 k] w fun en w' => en = .returned (.bool (decide (numX f up thr n e ≤ k))) ∧ KnownOk w' b (cnt + 1) (numX f up thr n) ∧ w.grownBy w' (some b) := by
  have hbl := hK.lt
  obtain ⟨D, hown, htd, hD⟩ := hK
  have hkey : keyOf Try.prog 3 (.int .i64 e) = some (.int .i64 e) := keyOf_int_mk Try.underlying3 (WalkArith.wf_i64 (by omega))
  have hb0 : Below w.heap.size w (w.alloc (.cells #[.slice A n c, .int .i64 thr, .bool up, .map (some b)] 132)) := (Below.refl _ _).alloc (Nat.le_refl _) _
  have hown1 : (w.alloc (.cells #[.slice A n c, .int .i64 thr, .bool up, .map (some b)] 132)).ownsMap Try.prog 3 (plainElem Try.prog 3) b cnt D := hown.alloc _
  have hnb := numX_bd f up thr n e hn
  have HD := Lib.hid hD
  clear hD hown
  cases hh : Maps.has D (.int .i64 e) with
  | true =>
    have hDe := Lib.hid (HD.out e hh)
    go_enter Try.func103, Try.ntmps103
    go_wp2_with (at_lookup; refine wpList_lookup_own_ok_int _ rfl _ _ 130 rfl 3 3 .i64 law3 Try.underlying130 Try.underlying3 (zero3 _) b cnt D rfl hown1 _ _ rfl hkey ?_; intro z hat hwc)
    have hz : z = numX f up thr n e := by
      have h := hat.symm.trans hDe.out
      injection h with h
      injection h
    subst hz
    go_ret
    exact ⟨rfl, ⟨D, hown1.mono (by omega), htd, HD.out⟩, grown_of_below hb0⟩
  | false =>
    go_enter Try.func103, Try.ntmps103
    go_wp2_with (at_lookup; refine wpList_lookup_own_ok_int _ rfl _ _ 130 rfl 3 3 .i64 law3 Try.underlying130 Try.underlying3 (zero3 _) b cnt D rfl hown1 _ _ rfl hkey ?_; intro z hat hwc)
    have hg := heap_alloc_new w (.cells #[.slice A n c, .int .i64 thr, .bool up, .map (some b)] 132)
    have hBw : B ≤ w.heap.size := by omega
    generalize w.alloc (.cells #[.slice A n c, .int .i64 thr, .bool up, .map (some b)] 132) = w1 at *
    have hx : ∀ x : Beh LeW w1.drew, Below w1.heap.size w1 x.w := fun x => Below.trans (Below.refl _ w1).drew x.h
    have zz : ∀ x : Beh LeW w1.drew, x.w.heap[w.heap.size]? = some (.cells #[.slice A n c, .int .i64 thr, .bool up, .map (some b)] 132 (0, 0)) := fun x => by rw [(hx x).block _ (lt_of_blk hg)]; exact hg
    have q0 : ∀ x : Beh LeW w1.drew, x.w.cell? ⟨w.heap.size, 0, none⟩ = some (.slice A n c) := fun x => cell_of_block (zz x) 0
    have q1 : ∀ x : Beh LeW w1.drew, x.w.cell? ⟨w.heap.size, 1, none⟩ = some (.int .i64 thr) := fun x => cell_of_block (zz x) 1
    have q2 : ∀ x : Beh LeW w1.drew, x.w.cell? ⟨w.heap.size, 2, none⟩ = some (.bool up) := fun x => cell_of_block (zz x) 2
    have hRx : ∀ x : Beh LeW w1.drew, RowsAt x.w x.w.heap.size 3 A n (fun i => (f i).cells) := fun x => by
      have h1 : Below w.heap.size w x.w := below_trans' hb0 hb0.size (hx x)
      exact (hR.below (h1.mono hBw) (Nat.le_refl _)).more (Nat.le_trans hBw h1.size)
    refine wp_region_late (R := LeW) 8 36 [(5, [], some (listAt intC 1 0 (pathR f e up n)))] (by kernel_rfl) (by kernel_rfl) (by kernel_rfl) rfl LeW.refl (fun _ _ _ => LeW.trans) ?_
    simp only [Late, List.take_succ_cons, List.drop_succ_cons, List.take_zero, List.drop_zero, Nat.sub_zero]
    repeat (go_big_quiet_step (fail))
    refine wpQuiet_nil ?_
    refine late_gen Try.func60 (by kernel_rfl) (by kernel_rfl) (listAt_mono _ _ _ _) (fun x => (path60 A n c f e up x.w hn (hRx x) hf).mono fun en w' ⟨v, he, ho, hb⟩ => ⟨v, he, hb, listAt_of_own intC_len 0 ho⟩) rfl (by simp only [Act.put, List.setIfInBounds_toArray, List.set_cons_succ, List.set_cons_zero]; rfl) ?_
    repeat (go_big_quiet_step (fail))
    refine wpQuiet_nil ?_
    intro x
    simp only [List.nil_append, allGens, Option.getD_some]
    rintro v ⟨A2, cp2, rfl, hcp2, hr2⟩
    rw [pathR_len] at hr2 ⊢
    simp only [Act.put, List.setIfInBounds_toArray, List.set_cons_succ, List.set_cons_zero]
    have hb2 := below_trans' hb0 hb0.size (hx x)
    have hown2 := hown1.kept (w' := x.w) (row := none) ⟨(hx x).os, (hx x).tape, (hx x).output, (hx x).size, fun k hk _ => (hx x).block k hk⟩ (by simp)
    have hgx := zz x
    clear q0 q1 q2 zz hRx hx hown1 hg hb0
    generalize x.w = w2 at *
    have hF := first58 A2 n cp2 (fun i => (pathR f e up n).getD i 0) thr w2 hn hr2
    have hnum : numX f up thr n e = if firstN (fun i => (pathR f e up n).getD i 0) thr n = 0 then 9223372036854775807 else (firstN (fun i => (pathR f e up n).getD i 0) thr n : Int) := rfl
    have hfl := firstN_le (f := fun i => (pathR f e up n).getD i 0) (t := thr) n
    generalize firstN (fun i => (pathR f e up n).getD i 0) thr n = r at *
    have HN := Lib.hid hnum
    clear hnum hr2
    have HF := Lib.hid hF
    clear hF
    have q3 := cell_of_block hgx 3
    simp only [List.getElem?_toArray, List.getElem?_cons_zero, List.getElem?_cons_succ] at q3
    go_wp2_with fail
    refine HF.out.mono ?_
    rintro en _ ⟨rfl, rfl⟩
    by_cases h0 : r = 0
    · subst h0
      have hN : numX f up thr n e = 9223372036854775807 := by rw [HN.out, if_pos rfl]
      have HNN := Lib.hid hN
      clear hN
      go_wp2_with (at_mapUpdate; refine wpList_mapUpdate_own _ rfl _ _ _ 130 rfl 3 3 law3 Try.underlying130 _ b cnt D rfl hown2 (by unfold maxLen; omega) _ _ _ rfl rfl hkey _ [] (plainElem_int Try.underlying3 (WalkArith.wf_i64 (by omega))) ?_; intro w3 hown3 hgrow3)
      go_ret
      refine ⟨by rw [HNN.out]; rfl, ⟨_, hown3, htd.put he _, fun e' he' => ?_⟩, (grown_of_below hb2).trans hgrow3⟩
      by_cases hee : e' = e
      · subst hee
        rw [atKey_put_same (k := Lit.int .i64 e') hown2.isMap trivial, HNN.out]
      · have hne : (Lit.int .i64 e') ≠ (Lit.int .i64 e) := fun h => hee (by injection h)
        rw [has_put_other hne] at he'
        rw [atKey_put_other hne]
        exact HD.out e' he'
    · have hN : numX f up thr n e = r := by rw [HN.out, if_neg h0]
      have hr0 : ((r : Int) == 0) = false := by simp; omega
      have HNN := Lib.hid hN
      clear hN
      go_wp2_with (at_mapUpdate; refine wpList_mapUpdate_own _ rfl _ _ _ 130 rfl 3 3 law3 Try.underlying130 _ b cnt D rfl hown2 (by unfold maxLen; omega) _ _ _ rfl rfl hkey _ [] (plainElem_int Try.underlying3 (WalkArith.wf_i64 (by omega))) ?_; intro w3 hown3 hgrow3)
      go_ret
      refine ⟨by rw [HNN.out]; rfl, ⟨_, hown3, htd.put he _, fun e' he' => ?_⟩, (grown_of_below hb2).trans hgrow3⟩
      by_cases hee : e' = e
      · subst hee
        rw [atKey_put_same (k := Lit.int .i64 e') hown2.isMap trivial, HNN.out]
      · have hne : (Lit.int .i64 e') ≠ (Lit.int .i64 e) := fun h => hee (by injection h)
        rw [has_put_other hne] at he'
        rw [atKey_put_other hne]
        exact HD.out e' he'
theorem closure102 (A : Option Addr) (n c : Nat) (f : Nat → Scr) (thr : Int) (up : Bool) (b cnt gs gg gk : Nat) (sign i e k : Int) (B : Nat) (w : World) (hn : n ≤ 1048576) (hc : cnt ≤ 1000000000) (he : -1001 ≤ e ∧ e ≤ 1001) (hi : 0 ≤ i ∧ i ≤ 1000000)
    (hse : IntKind.i64.wrap (sign * (i - 1000)) = e) (hR : RowsAt w B 3 A n fun i => (f i).cells) (hf : ∀ k, k < n → -9223372036854775808 ≤ (f k).unit ∧ (f k).rng ≤ 9223372036854775807) (hB : B ≤ b) (hK : KnownOk w b cnt (numX f up thr n))
    (h1 : w.heap[gs]? = some (.cells #[.slice A n c, .int .i64 thr, .bool up, .map (some b)] 132 (0, 0))) (h2 : w.heap[gg]? = some (.cells #[.int .i64 sign] 3 (0, 0))) (h3 : w.heap[gk]? = some (.cells #[.int .i64 k] 3 (0, 0))) :
    Calls Try.prog 102 #[.int .i64 i, .pointer (some ⟨gs, 0, none⟩), .pointer (some ⟨gg, 0, none⟩), .pointer (some ⟨gk, 0, none⟩)] w fun en w' => en = .returned (.bool (!decide (numX f up thr n e ≤ k))) ∧ KnownOk w' b (cnt + 1) (numX f up thr n) ∧ w.grownBy w' (some b) := by
  have x0 := cell_of_block h1 0
  have x1 := cell_of_block h1 1
  have x2 := cell_of_block h1 2
  have x3 := cell_of_block h1 3
  have y0 := cell_of_block h2 0
  have z0 := cell_of_block h3 0
  simp only [List.getElem?_toArray, List.getElem?_cons_zero, List.getElem?_cons_succ] at x0 x1 x2 x3 y0 z0
  go_enter Try.func102, Try.ntmps102
  go_wp2_with fail
  refine (excluded103 A n c f thr up b cnt e k B w hn hc he hR hf hB hK).mono ?_
  rintro en w1 ⟨rfl, hk1, hg1⟩
  generalize hr : decide (numX f up thr n e ≤ k) = r at *
  have Hr := Lib.hid hr
  clear hr
  go_wp2_with fail
  go_ret
  exact ⟨by rw [Hr.out]; rfl, hk1, hg1⟩
end Go.Proofs.Ytgonighpjpfmnaa
