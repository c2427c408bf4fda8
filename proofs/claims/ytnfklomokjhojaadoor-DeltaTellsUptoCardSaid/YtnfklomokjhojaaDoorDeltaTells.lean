/- DeltaTells' walk. -/
import Derived.Test.YtnfklomokjhojaaDoorRefDeeds2
import Derived.Test.YtnfklomokjhojaaDoorDeltaBackP
namespace Go.Proofs.YtnfklomokjhojaaDoor
open Go.RowKit Go.Maps
set_option linter.unusedSimpArgs false
set_option linter.unusedVariables false
theorem Dds.mono {w : World} {B B' : Nat} {v : Value} {ds : List Disk.Dd} (h : Dds w B v ds) (hB : B ≤ B') : Dds w B' v ds := by
  obtain ⟨a, cap, rfl, hc⟩ := h.is
  refine ⟨a, cap, rfl, fun i d hd => ?_⟩
  obtain ⟨bk, o, ha, hb', h1⟩ := hc i d hd
  exact ⟨bk, o, ha, by omega, h1⟩
set_option maxHeartbeats 4000000 in
set_option maxRecDepth 100000 in
theorem delta_tells_law {w : World} {v1 v2 : Value} {before after : List Disk.Fl} (h1 : Files w w.heap.size v1 before) (h2 : Files w w.heap.size v2 after) (hE : Env w) (hn1 : before.length ≤ 1048576) (hsz1 : ∀ f ∈ before, f.path.length ≤ 1048576 ∧ f.data.length ≤ 1048576) (hn2 : after.length ≤ 1048576) (hsz2 : ∀ f ∈ after, f.path.length ≤ 1048576 ∧ f.data.length ≤ 1048576) :
    Calls Tryd.prog 3 #[v1, v2] w fun e w' => e = .returned (.bool true) ∧ Below w.heap.size w w' := by
  have HD1 := Lib.hid (delta_any h1 h2 (Nat.le_refl _) hE hn1 hsz1 hn2 hsz2)
  have HD2 := Lib.hid (fun (W : World) (hb : Below w.heap.size w W) => rdeeds_any (h1.below hb (Nat.le_refl _)) (h2.below hb (Nat.le_refl _)) hb.size hn1 hsz1 hn2 hsz2)
  have HE := Lib.hid (fun (W : World) (hb : Below w.heap.size w W) => lives_any W (hE.below hb (Nat.le_refl _)))
  obtain ⟨a1, c1, rfl⟩ := h1.form
  obtain ⟨a2, c2, rfl⟩ := h2.form
  have hlen : (Disk.deedsRes before after).1.length ≤ 4194304 := by
    rcases Disk.res_cases before after with hbad | ⟨a, b, hla, hlb, _, _, hres⟩
    · rw [hbad]; simp
    · rw [hres]
      have := Disk.delta_length hla hlb
      show (Disk.delta a b).length ≤ _
      omega
  obtain ⟨N1, hN1⟩ : ∃ N, N = before.length := ⟨_, rfl⟩
  obtain ⟨N2, hN2⟩ : ∃ N, N = after.length := ⟨_, rfl⟩
  rw [← hN1] at HD1 HD2 hn1 ⊢
  rw [← hN2] at HD1 HD2 hn2 ⊢
  clear h1 h2 hsz1 hsz2 hE hN1 hN2
  obtain ⟨ds, hds⟩ : ∃ ds, ds = (Disk.deedsRes before after).1 := ⟨_, rfl⟩
  obtain ⟨en, hen⟩ : ∃ ds, ds = (Disk.deedsRes before after).2 := ⟨_, rfl⟩
  have HP : Hid (∀ W e W', DeltaPost before after W e W' → ∃ v, e = .returned (.tuple #[v, .int .i64 en]) ∧ DRow W' W.heap.size v ds ∧ Below W.heap.size W W') := Lib.hid (fun W e W' h => by rw [hds, hen]; exact h)
  rw [← hds] at hlen
  have HDL : Hid (ds.length ≤ 4398046511104) := Lib.hid (by omega)
  clear hds hen hlen
  go_enter Tryd.func3, Tryd.ntmps3
  go_wp2_with fail
  refine HD1.out.mono ?_
  intro e w2 hp
  obtain ⟨v2, rfl, hd2, hb2⟩ := HP.out _ e w2 hp
  have HDD2 := Lib.hid hd2.dds
  have HB2 := Lib.hid hb2
  clear hp hd2 hb2
  go_wp2_with fail
  refine (HD2.out _ HB2.out).mono ?_
  intro e w3 hp
  obtain ⟨v3, rfl, hd3, hb3⟩ := HP.out _ e w3 hp
  have HB3 := Lib.hid (HB2.out.trans (hb3.mono HB2.out.size))
  have HC := Lib.hid (deeds_any (HDD2.out.below hb3 (Nat.le_refl _) |>.mono hb3.size) hd3.dds HDL.out)
  clear hp hd3 hb3
  go_wp2_with fail
  refine HC.out.mono ?_
  rintro e w4 ⟨rfl, m, rfl⟩
  have HB4 := Lib.hid (bdrew HB3.out m)
  obtain ⟨w4, hw4⟩ : ∃ x, x = w3.drewN m := ⟨_, rfl⟩
  rw [← hw4] at HB4 ⊢
  clear hw4
  go_wp2_with fail
  refine (HE.out _ HB4.out).mono ?_
  rintro e w5 ⟨rfl, hb5⟩
  have HB5 := Lib.hid (HB4.out.trans (hb5.mono HB4.out.size))
  go_wp2
  go_returns
  exact ⟨rfl, HB5.out⟩
end Go.Proofs.YtnfklomokjhojaaDoor
