/- The laws' fixed text: the walk. -/
import Derived.Test.YtjiifieafnjpgaaDoorLockW7
import Derived.Test.YtjiifieafnjpgaaDoorLockW5
namespace Go.Proofs.YtjiifieafnjpgaaDoor
open Go.RowKit
set_option linter.unusedSimpArgs false
set_option linter.unusedVariables false
open Lock
namespace Lock
theorem may_sizes {g : G} (h : may g = true) : ∀ x ∈ g, NdSize x := fun x hx => by
  obtain ⟨k, hk⟩ := List.mem_iff_getElem?.1 hx
  have hf := may_form h
  have hn := nodes_at g 0 hf.2.2 k x hk
  obtain ⟨h1, h2, h3⟩ := node_parts hn
  have c2 : x.ctx.length ≤ 128 := by
    have h := h2
    unfold pins at h
    rw [Bool.and_eq_true] at h
    simpa using names_few h.1
  have c3 : x.edges.length ≤ 128 := by
    have h := h3
    unfold edges at h
    rw [Bool.and_eq_true] at h
    simpa using names_few h.1
  have c1 : x.name.length ≤ 16 := by
    unfold named at h1
    split at h1
    · simp only [Bool.and_eq_true, decide_eq_true_eq] at h1
      rw [h1.1]; decide
    · rw [Bool.and_eq_true] at h1
      exact name_short h1.1
  refine ⟨by omega, by omega, by omega, fun p hp => ?_, fun e he => ?_⟩
  · have := name_short (pin_in h2 p hp).1; omega
  · have := name_short (edge_in h3 e he).1; omega
theorem parse_sizes (T : List UInt8) : ∀ x ∈ (parse T).2, NdSize x := by
  rcases parse_or T with ⟨g, h, _, e⟩ | e
  · rw [e]; exact may_sizes h
  · rw [e]; intro x hx; simp at hx
theorem parse_few (T : List UInt8) : (parse T).2.length ≤ 128 := by
  rcases parse_or T with ⟨g, h, _, e⟩ | e
  · rw [e]; exact (may_form h).2.1
  · rw [e]; simp
/-- The fixed text and its graph. -/
def kT : ByteArray := ⟨#[108, 111, 99, 107, 10, 114, 111, 111, 116, 10, 116, 111, 32, 97, 32, 49, 10, 110, 111, 100, 101, 32, 97, 32, 49, 46, 48, 46, 48, 10, 119, 105, 116, 104, 32, 98, 32, 50, 46, 48, 46, 48, 10, 116, 111, 32, 97, 32, 49, 10]⟩
def kN : Nd := ⟨[97], ⟨1, 0, 0⟩, [⟨[98], ⟨2, 0, 0⟩⟩], [⟨[97], 1⟩]⟩
def kG : G := [⟨[], v0, [], [⟨[97], 1⟩]⟩, kN]
theorem kMay : may kG = true := by kernel_rfl
theorem kText : text kG = kT.data.toList := by kernel_rfl
theorem kParse : parse kT.data.toList = (0, kG) := by rw [← kText]; exact parse_text kMay
end Lock
set_option maxHeartbeats 4000000 in
set_option maxRecDepth 100000 in
theorem known_any (w : World) (hE : Env w) : Calls Tryd.prog 10 #[] w fun e w' => e = .returned (.bool true) ∧ Below w.heap.size w w' := by
  have HP := Lib.hid (gparse_any kT (by decide) w hE)
  have HE := Lib.hid hE
  clear hE
  go_enter Tryd.func10, Tryd.ntmps10
  go_wp2_with fail
  refine HP.out.mono ?_
  rintro e w1 ⟨v, rfl, hown, hb1⟩
  rw [kParse] at hown ⊢
  have hat := hown.at
  obtain ⟨bk, o, cap, rfl, hcap, hbk, hn⟩ := hat.at (by decide)
  obtain ⟨cv, ev, hp, he, e0, e1, e2, e3, e4, e5⟩ := hn 1 kN rfl
  obtain ⟨pb, po, pc, rfl, hpc, hpb, hpp⟩ := RowZ.some hp (by decide)
  have p0 := hpp 0 _ rfl 0 _ rfl
  have HAT := Lib.hid hat
  have HPR : Hid (∀ W, Below w1.heap.size w1 W → Calls Tryd.prog 6 #[.agg #[.slice (some ⟨bk, o, none⟩) kG.length cap]] W fun e w' => e = .returned (.tuple #[.string kT, .int .i64 0]) ∧ Below W.heap.size W w') := Lib.hid (fun W hW => by
    have h := Print_any W _ kG ((hat.below hW (Nat.le_refl _)).mono hW.size) (may_sizes kMay) (by decide) (HE.out.to (hb1.trans (hW.mono hb1.size)))
    unfold gPrintRes at h
    rw [if_pos kMay, kText] at h
    exact h)
  have HMY : Hid (∀ W, Below w1.heap.size w1 W → Calls Tryd.prog 8 #[.agg #[.slice (some ⟨bk, o, none⟩) kG.length cap]] W fun e w' => e = .returned (.bool true) ∧ Below W.heap.size W w') := Lib.hid (fun W hW => by
    have h := May_any W _ kG ((hat.below hW (Nat.le_refl _)).mono hW.size) (may_sizes kMay) (by decide)
    rw [kMay] at h
    exact h)
  have HB1 := Lib.hid hb1
  have HC : Hid (w1.cell? ⟨bk, o + 1 * 6 + 4, none⟩ = some (.slice (some ⟨pb, po, none⟩) (kN.ctx.map pinCells).length pc) ∧ w1.cell? ⟨pb, po + 0 * 4 + 0, none⟩ = some (sv [98])) := Lib.hid ⟨e4, p0⟩
  clear hat hown hn hp he e0 e1 e2 e3 e4 e5 hpp p0 hb1
  have l1 : ((kG.length : Nat) : Int) = 2 := rfl
  have hlen : kG.length = 2 := rfl
  rw [hlen] at hcap HPR HMY ⊢
  go_wp2_with fail
  refine (HPR.out _ (by go_grown)).mono ?_
  rintro e w2 ⟨rfl, hb2⟩
  have hw1 : Below w1.heap.size w1 (w1.alloc (.cells #[.slice (some ⟨bk, o, none⟩) 2 cap] 24)) := (Below.refl _ w1).alloc (Nat.le_refl _) _
  have hbb : Below w1.heap.size w1 w2 := hw1.trans (hb2.mono hw1.size)
  have c1 : w2.cell? ⟨w1.heap.size, 0, none⟩ = some (.slice (some ⟨bk, o, none⟩) 2 cap) := by rw [hb2.cell (p := ⟨w1.heap.size, 0, none⟩) (by simp)]; exact World.cell?_alloc_at _ _ _ _ rfl
  have c2 : w2.cell? ⟨bk, o + 6 + 4, none⟩ = some (.slice (some ⟨pb, po, none⟩) 1 pc) := by rw [hbb.cell (p := ⟨bk, o + 6 + 4, none⟩) hbk]; exact HC.out.1
  have c3 : w2.cell? ⟨pb, po, none⟩ = some (.string (bs [98])) := by rw [hbb.cell (p := ⟨pb, po, none⟩) hpb]; exact HC.out.2
  have hkl : kT.toList = [108, 111, 99, 107, 10, 114, 111, 111, 116, 10, 116, 111, 32, 97, 32, 49, 10, 110, 111, 100, 101, 32, 97, 32, 49, 46, 48, 46, 48, 10, 119, 105, 116, 104, 32, 98, 32, 50, 46, 48, 46, 48, 10, 116, 111, 32, 97, 32, 49, 10] := by rw [ByteArray.toList_eq]; rfl
  have hpl : (bs [98]).toList = [98] := bs_toList _
  have HBB := Lib.hid hbb
  clear hb2 hw1 hbb hpc
  go_wp2_with fail
  refine (HMY.out _ HBB.out).mono ?_
  rintro e w4 ⟨rfl, hb4⟩
  go_wp2
  go_returns
  exact ⟨rfl, HB1.out.trans ((HBB.out.trans (hb4.mono HBB.out.size)).mono HB1.out.size)⟩
end Go.Proofs.YtjiifieafnjpgaaDoor
