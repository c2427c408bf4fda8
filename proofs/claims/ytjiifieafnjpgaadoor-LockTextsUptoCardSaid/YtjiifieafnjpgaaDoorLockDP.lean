/- The document's Print; the laws of May and of two texts. -/
import Derived.Test.YtjiifieafnjpgaaDoorLockK
import Derived.Test.YtjiifieafnjpgaaDoorLockF5
import Derived.Test.YtjiifieafnjpgaaDoorLockF6
namespace Go.Proofs.YtjiifieafnjpgaaDoor
open Go.RowKit
set_option linter.unusedSimpArgs false
set_option linter.unusedVariables false
open Lock
set_option maxHeartbeats 4000000 in
set_option maxRecDepth 100000 in
theorem rPrint_any (w : World) (v : Value) (g : G) (hg : NodesAt w w.heap.size v g) (hz : ∀ x ∈ g, NdSize x) (hn : g.length ≤ 4611686018427387904) :
    Calls Tryd.prog 7 #[.agg #[v]] w fun e w' => e = .returned (gPrintRes g) ∧ Below w.heap.size w w' := by
  have HMAY : Hid (∀ W, Below w.heap.size w W → Calls Tryd.prog 9 #[.agg #[v]] W fun e w' => e = .returned (.bool (may g)) ∧ Below W.heap.size W w') := Lib.hid (fun W hW => rMay_any W v g ((hg.below hW (Nat.le_refl _)).mono hW.size) hz hn)
  have HTX : Hid (may g = true → ∀ W, Below w.heap.size w W → Calls Tryd.prog 17 #[.agg #[v]] W fun e w' => e = .returned (.string (bs (text g))) ∧ Below W.heap.size W w') := Lib.hid (fun hm W hW => rtext_any W v g ((hg.below hW (Nat.le_refl _)).mono hW.size) hm)
  obtain ⟨a, cap, rfl⟩ := hg.form
  obtain ⟨N, hN⟩ : ∃ N, N = g.length := ⟨_, rfl⟩
  rw [← hN] at HMAY HTX ⊢
  clear hg hz hn hN
  cases hmay : may g
  · have HF : Hid (gPrintRes g = .tuple #[.string ByteArray.empty, .int .i64 33]) := Lib.hid (by unfold gPrintRes; rw [hmay]; rfl)
    rw [hmay] at HMAY
    clear hmay
    go_enter Tryd.func7, Tryd.ntmps7
    go_wp2_with fail
    refine (HMAY.out _ (by go_grown)).mono ?_
    rintro e w1 ⟨rfl, hb1⟩
    go_wp2
    go_returns
    exact ⟨by rw [HF.out]; rfl, Below.trans (by go_grown) (hb1.mono (by simp))⟩
  · have HF : Hid (gPrintRes g = .tuple #[sv (text g), .int .i64 0]) := Lib.hid (by unfold gPrintRes; rw [if_pos hmay])
    have HT2 := Lib.hid (HTX.out hmay)
    rw [hmay] at HMAY
    clear hmay
    go_enter Tryd.func7, Tryd.ntmps7
    go_wp2_with fail
    refine (HMAY.out _ (by go_grown)).mono ?_
    rintro e w1 ⟨rfl, hb1⟩
    have c1 : w1.cell? ⟨w.heap.size, 0, none⟩ = some (.slice a N cap) := by rw [hb1.cell (p := ⟨w.heap.size, 0, none⟩) (by simp)]; exact World.cell?_alloc_at _ _ _ _ rfl
    have hb1' : Below w.heap.size w w1 := Below.trans (by go_grown) (hb1.mono (by simp))
    clear hb1
    go_wp2_with fail
    refine (HT2.out _ hb1').mono ?_
    rintro e w2 ⟨rfl, hb2⟩
    go_wp2
    go_returns
    exact ⟨by rw [HF.out]; rfl, hb1'.trans (hb2.mono hb1'.size)⟩
end Go.Proofs.YtjiifieafnjpgaaDoor
