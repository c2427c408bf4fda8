/- LockAgain: what is read is written as that text; whoever writes into one that was read changes no other. -/
import Derived.Test.YtjiifieafnjpgaaDoorLockK
import Derived.Test.YtjiifieafnjpgaaDoorLockA
namespace Go.Proofs.YtjiifieafnjpgaaDoor
open Go.RowKit
set_option linter.unusedSimpArgs false
set_option linter.unusedVariables false
open Lock
/-- What stays while the nodes are written over. -/
structure AInv (W : World) (gb : Nat) (v : Value) (ls : List (Nat × Nat)) (wr : World) : Prop where
  shape : Shape wr W.heap.size v ls
  cell : wr.heap[gb]? = some (.cells #[v] 24 (0, 0))
  below : Below W.heap.size W wr
theorem AInv.name {W wr : World} {gb g cap : Nat} {ls : List (Nat × Nat)} (h : AInv W gb (.slice (some ⟨g, 0, none⟩) ls.length cap) ls wr) (h0 : 0 < ls.length) (i : Nat) (u : Value) : AInv W gb (.slice (some ⟨g, 0, none⟩) ls.length cap) ls (wr.setCell ⟨g, i * 6, none⟩ u) := by
  obtain ⟨xs, h1, _⟩ := h.shape.is
  have hb := (h1.lt g rfl).1
  refine ⟨h.shape.name i u, ?_, h.below.setCell (p := ⟨g, i * 6, none⟩) hb _⟩
  rw [Below.heap_setCell _ _ _ _ (fun e => ?_)]
  · exact h.cell
  · rcases own_not h1 h.cell (by decide) with h' | h'
    · simp [Value.ownBlock] at h'
    · exact h' (by rw [show gb = g from e]; rfl)
theorem AInv.inner {W wr : World} {gb : Nat} {v : Value} {ls : List (Nat × Nat)} (h : AInv W gb v ls wr) {e : TypeId} {z n : Nat} {b cap : Nat} (ho : OwnAny wr W.heap.size e z (.slice (some ⟨b, 0, none⟩) n cap) n) (he : e ≠ 38) (hg : 24 ≠ e) (j : Nat) (u : Value) : AInv W gb v ls (wr.setCell ⟨b, j, none⟩ u) := by
  obtain ⟨ys, h1⟩ := ho
  have hb := (h1.lt b rfl).1
  refine ⟨h.shape.inner ⟨ys, h1⟩ he j u, ?_, h.below.setCell (p := ⟨b, j, none⟩) hb _⟩
  rw [Below.heap_setCell _ _ _ _ (fun e => ?_)]
  · exact h.cell
  · rcases own_not h1 h.cell hg with h' | h'
    · simp [Value.ownBlock] at h'
    · exact h' (by rw [show gb = b from e]; rfl)
theorem lt_of_heap {w : World} {k : Nat} {o : Obj} (h : w.heap[k]? = some o) : k < w.heap.size := heap_lt h
set_option maxHeartbeats 8000000 in
set_option maxRecDepth 100000 in
theorem lock_again (s : ByteArray) (hs : s.size ≤ 1048576) (W : World) (hE : Env W) :
    Calls Tryd.prog 4 #[.string s] W fun e W' => e = .returned (.bool true) ∧ Below W.heap.size W W' := by
  have HPA := Lib.hid (fun w hw => gparse_any s (by omega) w (hE.to hw))
  have HK := Lib.hid (fun w hw => known_any w (hE.to hw))
  have HE := Lib.hid (fun w (hw : Below W.heap.size W w) => hE.to hw)
  clear hE
  rcases parse_or s.data.toList with ⟨g, hm, ht, hp⟩ | hp
  case inr =>
    obtain ⟨c, hc, hne⟩ : ∃ c : Int, Lock.parse s.data.toList = (c, []) ∧ ¬ c = 0 := by
      refine ⟨_, hp, ?_⟩
      split <;> decide
    rw [hc] at hp
    have hq : (c == 0) = false := beq_eq_false_iff_ne.2 hne
    clear hp
    go_enter Tryd.func4, Tryd.ntmps4
    go_wp2_with fail
    refine (HPA.out _ (by go_grown)).mono ?_
    rintro e w1 ⟨v, rfl, ho, hb1⟩
    rw [hc] at ho ⊢
    rcases ho with ⟨_, rfl⟩ | ⟨_, pre, _, _, _, _, e, _⟩
    rotate_left
    · exact absurd (congrArg List.length e) (by simp)
    have hb1' : Below W.heap.size W (w1.alloc (.cells #[.slice none 0 0] 24)) := hb1.alloc hb1.size _
    clear hc
    go_wp2_with fail
    refine (HK.out _ hb1').mono ?_
    rintro e w2 ⟨rfl, hb2⟩
    have c2 : w2.cell? ⟨w1.heap.size, 0, none⟩ = some (.slice none 0 0) := by rw [hb2.cell (p := ⟨w1.heap.size, 0, none⟩) (by simp)]; exact World.cell?_alloc_at _ _ _ _ rfl
    have hb2' := hb1'.trans (hb2.mono hb1'.size)
    go_wp2
    go_returns
    exact ⟨rfl, hb2'⟩
  case inl =>
    have hzs := may_sizes hm
    have hml := (may_form hm).1
    have hmh := (may_form hm).2.1
    have HP2 : Hid (∀ w v, Below W.heap.size W w → NodesAt w w.heap.size v g → Calls Tryd.prog 6 #[.agg #[v]] w fun e w' => e = .returned (.tuple #[.string s, .int .i64 0]) ∧ Below w.heap.size w w') := Lib.hid (fun w v hw hat => by
      have h := Print_any w v g hat hzs (by omega) (HE.out w hw)
      unfold gPrintRes at h
      rw [if_pos hm, ht] at h
      unfold sv at h
      rw [bs_of] at h
      exact h)
    have HPA2 : Hid (∀ w, Below W.heap.size W w → Calls Tryd.prog 11 #[.string s] w fun e w' => ∃ b0 gg cp, e = .returned (.tuple #[.agg #[.slice (some ⟨gg, 0, none⟩) (sizes g).length cp], .int .i64 0]) ∧ w.heap.size ≤ b0 ∧ NodesAt w' w'.heap.size (.slice (some ⟨gg, 0, none⟩) (sizes g).length cp) g ∧ Shape w' w.heap.size (.slice (some ⟨gg, 0, none⟩) (sizes g).length cp) (sizes g) ∧ Below w.heap.size w w') := Lib.hid (fun w hw => by
      refine (HPA.out w hw).mono ?_
      rintro e w' ⟨v, rfl, ho, hb⟩
      rw [hp] at ho ⊢
      have hsh := ho.shape
      have hat := ho.at
      obtain ⟨gg, cp, rfl, _, _⟩ := hsh.form (by show 0 < (sizes g).length; unfold sizes; rw [List.length_map]; omega)
      exact ⟨_, gg, cp, rfl, Nat.le_refl _, hat, hsh, hb⟩)
    obtain ⟨ls, hls⟩ : ∃ ls, ls = sizes g := ⟨_, rfl⟩
    obtain ⟨n, hn⟩ : ∃ n, n = ls.length := ⟨_, rfl⟩
    have hln : ls.length = g.length := by rw [hls]; unfold sizes; rw [List.length_map]
    have hn1 : 1 ≤ n := by omega
    have hn2 : n ≤ 128 := by omega
    have HSZ : Hid (∀ (i nc ne : Nat), ls[i]? = some (nc, ne) → nc ≤ 4611686018427387904 ∧ ne ≤ 4611686018427387904) := Lib.hid (fun i nc ne hi => by
      rw [hls] at hi
      unfold sizes at hi
      rw [List.getElem?_map] at hi
      cases hx : g[i]? with
      | none => rw [hx] at hi; simp at hi
      | some x =>
        rw [hx] at hi
        simp only [Option.map_some, Option.some.injEq, Prod.mk.injEq] at hi
        obtain ⟨rfl, rfl⟩ := hi
        have := hzs x (List.mem_of_getElem? hx)
        exact ⟨this.2.1, this.2.2.1⟩)
    rw [← hls, ← hn] at HPA2
    have HN := Lib.hid hn
    clear hp ht hzs hml hmh hls hn hln HPA
    go_enter Tryd.func4, Tryd.ntmps4
    go_wp2_with fail
    refine (HPA2.out _ (by go_grown)).mono ?_
    rintro e w1 ⟨_, gg, cp, rfl, _, hat, hsh, hb1⟩
    obtain ⟨wa, hwa⟩ : ∃ y, y = w1.alloc (.cells #[.slice (some ⟨gg, 0, none⟩) n cp] 24) := ⟨_, rfl⟩
    have HWA := Lib.hid hwa
    have hba1 : Below w1.heap.size w1 wa := by rw [hwa]; exact (Below.refl _ w1).alloc (Nat.le_refl _) _
    have hba := hb1.trans (hba1.mono hb1.size)
    have hca : wa.heap[w1.heap.size]? = some (.cells #[.slice (some ⟨gg, 0, none⟩) n cp] 24 (0, 0)) := by rw [hwa]; exact heap_alloc_new w1 _
    clear hwa
    go_wp2_with fail
    rw [← HWA.out]
    refine (HK.out _ hba).mono ?_
    rintro e w2 ⟨rfl, hb2⟩
    have hb2a : Below w1.heap.size w1 w2 := hba1.trans (hb2.mono hba1.size)
    have hb2' := hb1.trans (hb2a.mono hb1.size)
    have hc2 := heap_below hb2 (heap_lt hca) hca
    have c2 : w2.cell? ⟨w1.heap.size, 0, none⟩ = some (.slice (some ⟨gg, 0, none⟩) n cp) := by rw [Go.Lib.cell_of_heap hc2]; rfl
    have HPR2 := Lib.hid (HP2.out w2 _ hb2' ((hat.below hb2a (Nat.le_refl _)).mono hb2a.size))
    have HSH2 := Lib.hid (hsh.below hb2a)
    have HB2 := Lib.hid hb2'
    have HC2 := Lib.hid hc2
    clear hat hsh hb1 hba1 hba hca hb2 hb2a hb2' hc2
    go_wp2_with fail
    refine HPR2.out.mono ?_
    rintro e w3 ⟨rfl, hb3⟩
    have HI3 : Hid (AInv W w1.heap.size (.slice (some ⟨gg, 0, none⟩) n cp) ls w3) := Lib.hid ⟨HSH2.out.below hb3, heap_below hb3 (heap_lt HC2.out) HC2.out, HB2.out.trans (hb3.mono HB2.out.size)⟩
    clear hb3 c2
    go_wp2
    go_loopw [7] (fun p wr => ∃ i : Nat, p = .int .i64 i ∧ i ≤ n ∧ AInv W w1.heap.size (.slice (some ⟨gg, 0, none⟩) n cp) ls wr) (fun p _ => n - (intOf p).toNat)
    case atStart => exact ⟨0, rfl, by omega, HI3.out⟩
    case round =>
      obtain ⟨i, rfl, hi, hinv⟩ := hrel
      obtain ⟨wo, rfl⟩ : ∃ x, x = wr := ⟨wr, rfl⟩
      have HI := Lib.hid hinv
      clear hinv
      have c3 : wo.cell? ⟨w1.heap.size, 0, none⟩ = some (.slice (some ⟨gg, 0, none⟩) n cp) := by rw [Go.Lib.cell_of_heap HI.out.cell]; rfl
      by_cases hin : i < n
      · obtain ⟨⟨nc, ne⟩, hl⟩ : ∃ u, ls[i]? = some u := ⟨_, List.getElem?_eq_getElem (by have := HN.out; omega)⟩
        have HL := Lib.hid hl
        have hnc := (HSZ.out i nc ne hl).1
        have hne := (HSZ.out i nc ne hl).2
        have hsh := HI.out.shape
        have HNODE : Hid (∀ wr, AInv W w1.heap.size (.slice (some ⟨gg, 0, none⟩) n cp) ls wr → ∃ cv ev u, wr.cell? ⟨gg, i * 6, none⟩ = some u ∧ wr.frozen? ⟨gg, i * 6, none⟩ = false ∧ wr.cell? ⟨gg, i * 6 + 4, none⟩ = some cv ∧ wr.cell? ⟨gg, i * 6 + 5, none⟩ = some ev ∧ OwnAny wr W.heap.size 42 4 cv nc ∧ OwnAny wr W.heap.size 40 2 ev ne) := Lib.hid (fun wr h => by
          have h' := h.shape
          rw [HN.out] at h'
          exact h'.node HL.out)
        have HNAME : Hid (∀ wr u, AInv W w1.heap.size (.slice (some ⟨gg, 0, none⟩) n cp) ls wr → AInv W w1.heap.size (.slice (some ⟨gg, 0, none⟩) n cp) ls (wr.setCell ⟨gg, i * 6, none⟩ u)) := Lib.hid (fun wr u h => by
          rw [HN.out] at h ⊢
          exact h.name (by have := HN.out; omega) i u)
        obtain ⟨cv, ev, u0, f0, z0, f4, f5, hop, hoe⟩ := HNODE.out wo HI.out
        clear hsh hl f4 f5 hop hoe
        have HI2 := Lib.hid (HNAME.out wo (.string (bs [63])) HI.out)
        have c4 : (wo.setCell ⟨gg, i * 6, none⟩ (.string (bs [63]))).cell? ⟨w1.heap.size, 0, none⟩ = some (.slice (some ⟨gg, 0, none⟩) n cp) := by rw [Go.Lib.cell_of_heap HI2.out.cell]; rfl
        go_wp2
        go_loopw [8] (fun p wr => ∃ k : Nat, p = .int .i64 k ∧ k ≤ ne ∧ AInv W w1.heap.size (.slice (some ⟨gg, 0, none⟩) n cp) ls wr) (fun p _ => ne - (intOf p).toNat)
        case atStart => exact ⟨0, rfl, by omega, HI2.out⟩
        case round =>
          obtain ⟨k, rfl, hk, hinv⟩ := hrel
          obtain ⟨wk, rfl⟩ : ∃ x, x = wr := ⟨wr, rfl⟩
          obtain ⟨cv, ev, u0, f0, z0, f4, f5, hop, hoe⟩ := HNODE.out wk hinv
          have HI3 := Lib.hid hinv
          have HO := Lib.hid hoe
          obtain ⟨ea, ec, rfl, hform⟩ := hoe.form
          have HFM := Lib.hid hform
          have c3 : wk.cell? ⟨w1.heap.size, 0, none⟩ = some (.slice (some ⟨gg, 0, none⟩) n cp) := by rw [Go.Lib.cell_of_heap HI3.out.cell]; rfl
          clear hop hoe hinv hform f0 z0 f4
          by_cases hkn : k < ne
          · obtain ⟨eb, rfl, hb1, hb2, hc⟩ := HFM.out k hkn
            have z5 := (hc (k * 2 + 1)).1
            obtain ⟨u5, f6⟩ := (hc (k * 2 + 1)).2 (by omega)
            have HI4 := Lib.hid (HI3.out.inner HO.out (by decide) (by decide) (k * 2 + 1) (.int .i64 (-1)))
            clear hc hb1 hb2
            go_wp2
            go_roundw
            case rel => exact ⟨k + 1, by go_num, by omega, HI4.out⟩
            case measure => simp [intOf]; omega
          · have HI4 := Lib.hid HI3.out
            go_wp2
            go_loopw [9] (fun p wr => ∃ k : Nat, p = .int .i64 k ∧ k ≤ nc ∧ AInv W w1.heap.size (.slice (some ⟨gg, 0, none⟩) n cp) ls wr) (fun p _ => nc - (intOf p).toNat)
            case atStart => exact ⟨0, rfl, by omega, HI4.out⟩
            case round =>
              obtain ⟨k, rfl, hk, hinv⟩ := hrel
              obtain ⟨wl, rfl⟩ : ∃ x, x = wr := ⟨wr, rfl⟩
              obtain ⟨cv, ev, u0, f0, z0, f4, f5, hop, hoe⟩ := HNODE.out wl hinv
              have HI3 := Lib.hid hinv
              have HO := Lib.hid hop
              obtain ⟨ea, ec, rfl, hform⟩ := hop.form
              have HFM := Lib.hid hform
              have c3 : wl.cell? ⟨w1.heap.size, 0, none⟩ = some (.slice (some ⟨gg, 0, none⟩) n cp) := by rw [Go.Lib.cell_of_heap HI3.out.cell]; rfl
              clear hop hoe hinv hform f0 z0 f5
              by_cases hkn : k < nc
              · obtain ⟨eb, rfl, hb1, hb2, hc⟩ := HFM.out k hkn
                have z5 := (hc (k * 4 )).1
                obtain ⟨u5, f6⟩ := (hc (k * 4 )).2 (by omega)
                have HI4 := Lib.hid (HI3.out.inner HO.out (by decide) (by decide) (k * 4 ) (.string (bs [63])))
                clear hc hb1 hb2
                go_wp2
                go_roundw
                case rel => exact ⟨k + 1, by go_num, by omega, HI4.out⟩
                case measure => simp [intOf]; omega
              · have HI4 := Lib.hid HI3.out
                go_wp2
                go_roundw
                case rel => exact ⟨i + 1, by go_num, by omega, HI4.out⟩
                case measure => simp [intOf]; omega
      · have hin2 : i = n := by omega
        have HB4 := Lib.hid HI.out.below
        have c4 := c3
        go_wp2_with fail
        refine (HPA2.out _ HB4.out).mono ?_
        rintro e w4 ⟨_, gh, ch, rfl, _, hat, _, hb4⟩
        obtain ⟨wb, hwb⟩ : ∃ y, y = w4.alloc (.cells #[.slice (some ⟨gh, 0, none⟩) n ch] 24) := ⟨_, rfl⟩
        have HWB := Lib.hid hwb
        have hbb : Below w4.heap.size w4 wb := by rw [hwb]; exact (Below.refl _ w4).alloc (Nat.le_refl _) _
        have hb4' := HB4.out.trans (hb4.mono HB4.out.size)
        have hb5' := hb4'.trans (hbb.mono hb4'.size)
        have HPR := Lib.hid (HP2.out wb _ hb5' ((hat.below hbb (Nat.le_refl _)).mono hbb.size))
        have HB5 := Lib.hid hb5'
        clear hwb hat hb4 hb4' hb5' hbb c3 c4
        go_wp2_with fail
        rw [← HWB.out]
        refine HPR.out.mono ?_
        rintro e w6 ⟨rfl, hb6⟩
        go_wp2
        go_returns
        exact ⟨rfl, HB5.out.trans (hb6.mono HB5.out.size)⟩
end Go.Proofs.YtjiifieafnjpgaaDoor
