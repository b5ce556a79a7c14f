/- The alarms of balance; made exposures. -/
import Derived.Test.YtgonighpjpfmnaaBalPath
import Derived.Test.YtgonighpjpfmnaaThresh
namespace Go.Proofs.Ytgonighpjpfmnaa
open Go.RowKit

def bAl (g : Nat → Wt) (m : Nat) (f : Nat → Ev) (n : Nat) (level : Int) : Nat := firstN (fun i => (bpathR g m f n).getD i 0) (thrI level 1) (bpathR g m f n).length

set_option maxHeartbeats 1000000 in
theorem alarm65 (A : Option Addr) (n cp : Nat) (f : Nat → Ev) (A' : Option Addr) (m cp' : Nat) (g : Nat → Wt) (level : Int) (w : World) (hn : n ≤ 1048576) (hm : m ≤ 1048576) (hR : RowsAt w w.heap.size 6 A n fun i => (f i).cells) (hW : RowsAt w w.heap.size 3 A' m fun i => (g i).cells)
    (hf : ∀ i, i < n → -9223372036854775808 ≤ (f i).ver ∧ (f i).ver ≤ 9223372036854775807) :
    Calls Try.prog 65 #[.slice A n cp, .slice A' m cp', .int .i64 level] w fun en w' => en = .returned (.int .i64 (bAl g m f n level)) ∧ Below w.heap.size w w' := by
  have h63 := path63 A n cp f A' m cp' g w hn hm hR hW hf
  have hlen : (bpathR g m f n).length ≤ n := (runB_bd g m f n).2
  unfold bAl
  generalize bpathR g m f n = P at *
  have H63 := Lib.hid h63
  clear h63 hR hW hf
  go_enter Try.func65, Try.ntmps65
  go_wp2_with fail
  refine H63.out.mono ?_
  rintro en w1 ⟨v, rfl, hown, hb⟩
  obtain ⟨A2, c2, rfl, hc2⟩ := Own.shape hown
  have hr := Own.rows (c := intC) intC_len 0 hown
  clear hown
  go_wp2_with fail
  refine (thr56 level 1 w1).mono ?_
  rintro en _ ⟨rfl, q, rfl⟩
  go_wp2_with fail
  refine (first58 A2 P.length c2 (fun i => P.getD i 0) (thrI level 1) (w1.drewN q) (by omega) (hr.below (below_drewN (Below.refl _ _) q) (Nat.le_refl _))).mono ?_
  rintro en _ ⟨rfl, rfl⟩
  go_wp2_with fail
  go_ret
  exact ⟨rfl, below_drewN hb q⟩

theorem info32 : (Try.prog.info? 32).map (fun i => (i.zero, i.size, i.bytes)) = some (some (.agg #[.string ⟨#[]⟩, .string ⟨#[]⟩, .int .i64 0, .int .i64 0, .int .i64 0, .int .i64 0]), 6, 64) := by kernel_rfl
end Go.Proofs.Ytgonighpjpfmnaa
