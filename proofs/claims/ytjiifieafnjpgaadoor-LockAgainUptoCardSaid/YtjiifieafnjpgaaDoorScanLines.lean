/- The walk of Lines of the program. -/
import Derived.Test.YtjiifieafnjpgaaDoorChecked
import Derived.Test.YtjiifieafnjpgaaDoorScope
import Derived.Test.YtjiifieafnjpgaaDoorMem
import Derived.Test.YtjiifieafnjpgaaDoorScanP
import Derived.Handy
import Derived.WalkMore
import Derived.WalkLawsBesides
import Derived.WalkSpells
import Derived.Outline
import Derived.Lib.Hide
namespace Go.Proofs.YtjiifieafnjpgaaDoor
open Go.RowKit
set_option linter.unusedSimpArgs false
set_option linter.unusedVariables false
theorem infoStr : (Tryd.prog.info? 9).map (fun i => (i.zero, i.size, i.bytes)) = some (some (.string ByteArray.empty), 1, 16) := by kernel_rfl
theorem infoStrs : (Tryd.prog.info? 63).map (fun i => (i.zero, i.size, i.bytes)) = some (some (.slice none 0 0), 1, 24) := by kernel_rfl
/-- Lines of words in memory of the call's own, at the types of this program. -/
abbrev LinesAt (w : World) (base Bw : Nat) (v : Value) (hs : List (Nat × Nat)) (ls : List (List (List UInt8))) : Prop := Lines 9 63 w base Bw v hs ls
/-- The memory of a run of Lines: the lines done, the words of this line. -/
structure Hold (w0 w : World) (v vw : Value) (done : List (List (List UInt8))) (ws : List (List UInt8)) : Prop where
  below : Below w0.heap.size w0 w
  lines : ∃ Bw hs, w0.heap.size ≤ Bw ∧ Bw ≤ w.heap.size ∧ LinesAt w w0.heap.size Bw v hs done ∧ w.ownsRow Bw 9 1 vw ws.length (ws.map sv)
def L0 (s : ByteArray) (most : Int) (w0 : World) (a : Act) (w : World) : Prop := ∃ (k : Nat) (v : Value) (n : Nat) (a0 : Option Addr) (c0 : Nat) (done : List (List (List UInt8))), (Scan.St s.data.toList k done [] [] ∧ v = .slice a0 n c0 ∧ n = done.length ∧ n ≤ k ∧ (∃ hs, LinesAt w w0.heap.size w.heap.size v hs done) ∧ Below w0.heap.size w0 w) ∧ ∃ u2 u3 u4 u5 u6 u8 u9 u11 u12 u13 u14 u15 u16 u17 u18 u19 u20 u21 u22 u23 u24 u25 u26 u27 u28 u29 u30 u31 u32 u33 u34 u35 u36 u37 u38 u39 u40 u41 u42 u43 u44 u45 u46 u47 u48 u49 u50 u51 u52 u53 u54 u55 u56 u57 u58 u59 u60 u61 u62 u63 : Value, a = { tmps := #[.string s, .int .i64 most, u2, u3, u4, u5, u6, v, u8, u9, .int .i64 k, u11, u12, u13, u14, u15, u16, u17, u18, u19, u20, u21, u22, u23, u24, u25, u26, u27, u28, u29, u30, u31, u32, u33, u34, u35, u36, u37, u38, u39, u40, u41, u42, u43, u44, u45, u46, u47, u48, u49, u50, u51, u52, u53, u54, u55, u56, u57, u58, u59, u60, u61, u62, u63], defers := [] }
def L1 (s : ByteArray) (most : Int) (w0 : World) (a : Act) (w : World) : Prop := ∃ (k : Nat) (v vw : Value) (n : Nat) (a0 : Option Addr) (c0 : Nat) (done : List (List (List UInt8))) (ws : List (List UInt8)), (Scan.St s.data.toList k done ws [] ∧ v = .slice a0 n c0 ∧ n = done.length ∧ n ≤ k ∧ ws.length ≤ k ∧ (Scan.unlines done).length < s.data.toList.length ∧ Hold w0 w v vw done ws) ∧ ∃ u2 u3 u4 u5 u6 u9 u11 u12 u13 u14 u15 u16 u17 u18 u19 u20 u21 u22 u23 u24 u25 u26 u27 u28 u29 u30 u31 u32 u33 u34 u35 u36 u37 u38 u39 u40 u41 u42 u43 u44 u45 u46 u47 u48 u49 u50 u51 u52 u53 u54 u55 u56 u57 u58 u59 u60 u61 u62 u63 : Value, a = { tmps := #[.string s, .int .i64 most, u2, u3, u4, u5, u6, v, vw, u9, .int .i64 k, u11, u12, u13, u14, u15, u16, u17, u18, u19, u20, u21, u22, u23, u24, u25, u26, u27, u28, u29, u30, u31, u32, u33, u34, u35, u36, u37, u38, u39, u40, u41, u42, u43, u44, u45, u46, u47, u48, u49, u50, u51, u52, u53, u54, u55, u56, u57, u58, u59, u60, u61, u62, u63], defers := [] }
def L3 (s : ByteArray) (most : Int) (w0 : World) (a : Act) (w : World) : Prop := ∃ (k f : Nat) (v vw : Value) (n : Nat) (a0 : Option Addr) (c0 : Nat) (done : List (List (List UInt8))) (ws : List (List UInt8)) (p : List UInt8), (Scan.St s.data.toList k done ws p ∧ f + p.length = k ∧ v = .slice a0 n c0 ∧ n = done.length ∧ n ≤ k ∧ ws.length ≤ k ∧ (Scan.unlines done).length < s.data.toList.length ∧ Hold w0 w v vw done ws) ∧ ∃ u2 u3 u4 u5 u6 u11 u12 u13 u14 u15 u16 u17 u18 u19 u20 u21 u22 u23 u24 u25 u26 u27 u28 u29 u30 u31 u32 u33 u34 u35 u36 u37 u38 u39 u40 u41 u42 u43 u44 u45 u46 u47 u48 u49 u50 u51 u52 u53 u54 u55 u56 u57 u58 u59 u60 u61 u62 u63 : Value, a = { tmps := #[.string s, .int .i64 most, u2, u3, u4, u5, u6, v, vw, .int .i64 f, .int .i64 k, u11, u12, u13, u14, u15, u16, u17, u18, u19, u20, u21, u22, u23, u24, u25, u26, u27, u28, u29, u30, u31, u32, u33, u34, u35, u36, u37, u38, u39, u40, u41, u42, u43, u44, u45, u46, u47, u48, u49, u50, u51, u52, u53, u54, u55, u56, u57, u58, u59, u60, u61, u62, u63], defers := [] }
def L2 (s : ByteArray) (most : Int) (w0 : World) (a : Act) (w : World) : Prop := ∃ (v : Value) (n : Nat) (a0 : Option Addr) (c0 : Nat), (Scan.spec s.data.toList = .inl (n + 1) ∧ v = .slice a0 n c0 ∧ n ≤ s.size ∧ Below w0.heap.size w0 w) ∧ ∃ u2 u3 u4 u5 u6 u8 u9 u10 u11 u12 u13 u14 u15 u16 u17 u18 u19 u20 u21 u22 u23 u24 u25 u26 u27 u28 u29 u30 u31 u32 u33 u34 u35 u36 u37 u38 u39 u40 u41 u42 u43 u44 u45 u46 u47 u48 u49 u50 u51 u52 u53 u54 u55 u56 u57 u58 u59 u60 u61 u62 u63 : Value, a = { tmps := #[.string s, .int .i64 most, u2, u3, u4, u5, u6, v, u8, u9, u10, u11, u12, u13, u14, u15, u16, u17, u18, u19, u20, u21, u22, u23, u24, u25, u26, u27, u28, u29, u30, u31, u32, u33, u34, u35, u36, u37, u38, u39, u40, u41, u42, u43, u44, u45, u46, u47, u48, u49, u50, u51, u52, u53, u54, u55, u56, u57, u58, u59, u60, u61, u62, u63], defers := [] }
/-- Every pass from a label goes on in the text, or to the wrong end. -/
def mu (s : ByteArray) (l : Nat) (a : Act) (_ : World) : Nat := match l with
  | 2 => 0
  | _ => 2 * (s.size - (intOf (a.tmps.getD 10 undef)).toNat) + 1
/-- What Lines answers, and what it leaves in memory. -/
def LinesPost (s : ByteArray) (w0 : World) (e : Ending) (w : World) : Prop := Below w0.heap.size w0 w ∧
  match Scan.spec s.data.toList with
  | .inr ls => ∃ v hs, e = .returned (.tuple #[v, .int .i64 0, .int .i64 0]) ∧ LinesAt w w0.heap.size w.heap.size v hs ls
  | .inl n => e = .returned (.tuple #[.slice none 0 0, .int .i64 22, .int .i64 n])
theorem LinesPost.bad {s : ByteArray} {w0 w : World} {n : Nat} (h : Scan.spec s.data.toList = .inl n) (hb : Below w0.heap.size w0 w) : LinesPost s w0 (.returned (.tuple #[.slice none 0 0, .int .i64 22, .int .i64 n])) w := by
  unfold LinesPost; rw [h]; exact ⟨hb, rfl⟩
theorem LinesPost.good {s : ByteArray} {w0 w : World} {v : Value} {hs : List (Nat × Nat)} {ls : List (List (List UInt8))} (h : Scan.spec s.data.toList = .inr ls) (hb : Below w0.heap.size w0 w) (hl : LinesAt w w0.heap.size w.heap.size v hs ls) : LinesPost s w0 (.returned (.tuple #[v, .int .i64 0, .int .i64 0])) w := by
  unfold LinesPost; rw [h]; exact ⟨hb, v, hs, rfl, hl⟩
set_option maxHeartbeats 4000000 in
set_option maxRecDepth 100000 in
theorem lines_any (s : ByteArray) (most : Int) (hs : s.size ≤ 4398046511104) (hm : (s.size : Int) ≤ most) (w : World) :
    Calls Tryd.prog 25 #[.string s, .int .i64 most] w (LinesPost s w) := by
  obtain ⟨i0, hi, hz0, hz1, hz2⟩ := info_parts infoStr
  obtain ⟨i1, hi1, hy0, hy1, hy2⟩ := info_parts infoStrs
  go_enter Tryd.func25, Tryd.ntmps25
  go_wp2
  refine wp_scope_4 rfl rfl rfl rfl (L0 s most w) (L1 s most w) (L2 s most w) (L3 s most w) (mu s) ?_ ?_ ?_ ?_ ?_
  · -- wrong
    intro m a wr h hmu
    obtain ⟨v, n, a0, c0, ⟨hspec, rfl, hn, hB⟩, u2, u3, u4, u5, u6, u8, u9, u10, u11, u12, u13, u14, u15, u16, u17, u18, u19, u20, u21, u22, u23, u24, u25, u26, u27, u28, u29, u30, u31, u32, u33, u34, u35, u36, u37, u38, u39, u40, u41, u42, u43, u44, u45, u46, u47, u48, u49, u50, u51, u52, u53, u54, u55, u56, u57, u58, u59, u60, u61, u62, u63, rfl⟩ := h
    clear hmu
    go_wp2
    go_returns
    exact LinesPost.bad hspec hB
  · -- letter
    intro wrong m a wr h hmu
    have HW := Lib.hid wrong
    clear wrong
    obtain ⟨k, f, v, vw, n, a0, c0, done, ws, p, ⟨hst, hf, rfl, hn, hnk, hwk, hul, hhold⟩, u2, u3, u4, u5, u6, u11, u12, u13, u14, u15, u16, u17, u18, u19, u20, u21, u22, u23, u24, u25, u26, u27, u28, u29, u30, u31, u32, u33, u34, u35, u36, u37, u38, u39, u40, u41, u42, u43, u44, u45, u46, u47, u48, u49, u50, u51, u52, u53, u54, u55, u56, u57, u58, u59, u60, u61, u62, u63, rfl⟩ := h
    have hks : k ≤ s.size := by simpa using hst.le
    obtain ⟨hB, Bw, hds, hBw0, hBw1, hlines, hownw⟩ := hhold
    have hmu' : 2 * (s.size - k) + 1 ≤ m := by simpa [mu, intOf] using hmu
    clear hmu
    have HST := Lib.hid hst
    have HLI := Lib.hid hlines
    have HOW := Lib.hid hownw
    have HNN := Lib.hid hn
    have hsl : s.data.toList.length = s.size := by simp
    have HSL := Lib.hid hsl
    have hbig : s.size ≤ 9223372036854775807 := by omega
    clear hst hlines hownw hn hsl
    by_cases hk : k = s.size
    · subst hk
      have hspec := HST.out.endBad HSL.out.symm hul
      have hkk : (((s.size : Nat) : Int) == ((s.size : Nat) : Int)) = true := by simp
      clear hul
      have HSP := Lib.hid hspec
      clear hspec hf
      go_wp2
      go_step3
      exact ⟨⟨_, n, _, _, ⟨by rw [HSP.out, HNN.out], rfl, by omega, hB⟩, _, _, _, _, _, _, _, _, _, _, _, _, _, _, _, _, _, _, _, _, _, _, _, _, _, _, _, _, _, _, _, _, _, _, _, _, _, _, _, _, _, _, _, _, _, _, _, _, _, _, _, _, _, _, _, _, _, _, _, _, _, rfl⟩, by simp [mu]; omega⟩
    · have hlt : k < s.size := by omega
      have hkk : (((k : Nat) : Int) == ((s.size : Nat) : Int)) = false := by rw [beq_eq_false_iff_ne]; omega
      have HC : Hid (s.data.toList[k]? = some s[k]) := Lib.hid (by rw [List.getElem?_eq_getElem (by simpa using hlt)]; rfl)
      have hF := Lib.hid hf
      clear hk
      by_cases hl : 33 ≤ (s[k].toNat : Int) ∧ (s[k].toNat : Int) ≤ 126
      · have hlet : Scan.letter s[k] = true := Scan.letter_iff.2 (by omega)
        have HX := Lib.hid (HST.out.more HC.out hlet)
        obtain ⟨hl1, hl2⟩ := hl
        clear hlet hf
        go_wp2
        go_step3
        exact ⟨⟨k + 1, f, _, _, n, _, _, done, ws, p ++ [s[k]], ⟨HX.out, by have := hF.out; simp; omega, rfl, HNN.out, by omega, by omega, hul, hB, Bw, hds, hBw0, hBw1, HLI.out, HOW.out⟩, _, _, _, _, _, _, _, _, _, _, _, _, _, _, _, _, _, _, _, _, _, _, _, _, _, _, _, _, _, _, _, _, _, _, _, _, _, _, _, _, _, _, _, _, _, _, _, _, _, _, _, _, _, _, _, _, _, _, by go_num⟩, by simp [mu, intOf]; omega⟩
      · have hnl : Scan.letter s[k] = false := by
          cases e : Scan.letter s[k]
          · rfl
          · exact absurd (Scan.letter_iff.1 e) (by omega)
        have HNL := Lib.hid hnl
        clear hnl
        have hif : (decide (32 < (s[k].toNat : Int)) && decide ((s[k].toNat : Int) < 127)) = false := by
          rw [Bool.and_eq_false_iff]; simp; omega
        by_cases hp : p = []
        · subst hp
          have HSP := Lib.hid (HST.out.bad HC.out HNL.out (Or.inl rfl))
          have hfk : (((k : Nat) : Int) == ((f : Nat) : Int)) = true := by rw [beq_iff_eq]; simp at hf; omega
          clear hf
          by_cases hl1 : 32 < (s[k].toNat : Int)
          · have hl2 : ¬ (s[k].toNat : Int) < 127 := by omega
            clear hl hif
            go_wp2
            go_step3
            exact ⟨⟨_, n, _, _, ⟨by rw [HSP.out, HNN.out], rfl, by omega, hB⟩, _, _, _, _, _, _, _, _, _, _, _, _, _, _, _, _, _, _, _, _, _, _, _, _, _, _, _, _, _, _, _, _, _, _, _, _, _, _, _, _, _, _, _, _, _, _, _, _, _, _, _, _, _, _, _, _, _, _, _, _, _, rfl⟩, by simp [mu]; omega⟩
          · clear hl hif
            go_wp2
            go_step3
            exact ⟨⟨_, n, _, _, ⟨by rw [HSP.out, HNN.out], rfl, by omega, hB⟩, _, _, _, _, _, _, _, _, _, _, _, _, _, _, _, _, _, _, _, _, _, _, _, _, _, _, _, _, _, _, _, _, _, _, _, _, _, _, _, _, _, _, _, _, _, _, _, _, _, _, _, _, _, _, _, _, _, _, _, _, _, rfl⟩, by simp [mu]; omega⟩
        · have hpl : 0 < p.length := List.length_pos_iff.2 hp
          have hfk : (((k : Nat) : Int) == ((f : Nat) : Int)) = false := by rw [beq_eq_false_iff_ne]; omega
          have hfk' : f ≤ k := by omega
          have hks' : k ≤ s.size := by omega
          have hword : Value.string (s.extract f k) = sv p := by
            have := HST.out.word
            have e : k - p.length = f := by omega
            rw [e] at this
            unfold sv bs
            congr 1
            apply ByteArray.ext
            apply Array.toList_inj.1
            have e2 : p.length = k - f := by omega
            rw [e2] at this
            rw [← this]
            simp [List.extract]
          have HWO := Lib.hid hword
          clear hf hword
          by_cases h32 : (s[k].toNat : Int) = 32
          · have h32' : (((s[k].toNat : Nat) : Int) == 32) = true := by simpa using h32
            have hl1 : ¬ 32 < (s[k].toNat : Int) := by omega
            have H32 : Hid (s[k] = 32) := Lib.hid (UInt8.toNat_inj.1 (by show s[k].toNat = 32; omega))
            clear h32 hl hif
            go_wp2_with (at_builtin; refine wpList_append_own _ rfl _ _ 63 rfl Bw 9 i0 (.string ByteArray.empty) 1 16 Tryd.underlying63 hi hz0 hz1 hz2 rfl (by decide) _ _ _ rfl (HOW.out.alloc _) ⟨wr.heap.size, 0, none⟩ 1 1 [.string (s.extract f k)] rfl rfl (cell_one_new _ _ _) (fun x hx => by simp at hx; subst hx; rfl) (by unfold maxLen; omega) (by omega) (by simp; omega) ?_; intro v1 w1 hown1 hgrow1 hnil1)
            go_step3
            have hB1 : Below w.heap.size w w1 := Below.grown (hB.alloc hB.size _) hgrow1 (by have := hB.size; simp; omega) (fun g hg => by have := (HOW.out.lt g hg).1; omega)
            have hs1 := hgrow1.size
            exact ⟨⟨k + 1, _, _, n, _, _, done, ws ++ [p], ⟨HST.out.space (by rw [HC.out, H32.out]) hp, rfl, HNN.out, by omega, by simp; omega, hul, hB1, Bw, hds, hBw0, by simp at hs1; omega, (HLI.out.alloc _).kept hgrow1 (fun g hg => (HOW.out.lt g hg).1), by rw [HWO.out] at hown1; simpa using hown1⟩, _, _, _, _, _, _, _, _, _, _, _, _, _, _, _, _, _, _, _, _, _, _, _, _, _, _, _, _, _, _, _, _, _, _, _, _, _, _, _, _, _, _, _, _, _, _, _, _, _, _, _, _, _, _, _, _, _, _, _, by go_num⟩, by simp [mu, intOf]; omega⟩
          · have h32' : (((s[k].toNat : Nat) : Int) == 32) = false := by simpa using h32
            have hnl2 : ¬ (32 < (s[k].toNat : Int) ∧ (s[k].toNat : Int) < 127) := by omega
            by_cases h10 : (s[k].toNat : Int) = 10
            · have h10' : (((s[k].toNat : Nat) : Int) == 10) = true := by simpa using h10
              have hl1 : ¬ 32 < (s[k].toNat : Int) := by omega
              have H10 : Hid (s[k] = 10) := Lib.hid (UInt8.toNat_inj.1 (by show s[k].toNat = 10; omega))
              clear h32 h10 hl hif hnl2
              go_wp2_with (first
                | (at_builtin; refine wpList_append_own _ rfl _ _ 63 rfl Bw 9 i0 (.string ByteArray.empty) 1 16 Tryd.underlying63 hi hz0 hz1 hz2 rfl (by decide) _ _ _ rfl (HOW.out.alloc _) ⟨wr.heap.size, 0, none⟩ 1 1 [.string (s.extract f k)] rfl rfl (cell_one_new _ _ _) (fun x hx => by simp at hx; subst hx; rfl) (by unfold maxLen; omega) (by omega) (by simp; omega) ?_; intro v1 w1 hown1 hgrow1 hnil1; obtain ⟨g1, cap1, rfl, hg1, hg2⟩ := own_some hown1 (by omega); have HL1 := Lib.hid ((HLI.out.alloc (.cells #[.string (s.extract f k)] 9)).kept hgrow1 (fun g hg => (HOW.out.lt g hg).1)); have HO1 := Lib.hid hown1; have HG1 := Lib.hid hgrow1; have hB1 : Below w.heap.size w w1 := Below.grown (hB.alloc hB.size _) hgrow1 (by have := hB.size; simp; omega) (fun g hg => by have := (HOW.out.lt g hg).1; omega); have hsz1 := hB1.size; have HR1 := HL1.out.row; rw [← HNN.out] at HR1; have HR2 := Lib.hid HR1; clear hown1 hgrow1 hnil1 HR1)
                | (at_builtin; refine wpList_append_own _ rfl _ _ 60 rfl w.heap.size 63 i1 (.slice none 0 0) 1 24 Tryd.underlying60 hi1 hy0 hy1 hy2 rfl (by decide) _ _ _ rfl (HR2.out.alloc _) ⟨w1.heap.size, 0, none⟩ 1 1 [.slice (some ⟨g1, 0, none⟩) (ws.length + 1) cap1] rfl rfl (cell_one_new _ _ _) (fun x hx => by simp at hx; subst hx; rfl) (by unfold maxLen; omega) (by omega) (by simp; omega) ?_; intro v2 w2 hown2 hgrow2 hnil2))
              go_step3
              have hl0 : (ws ++ [p]).length = ws.length + 1 := by simp
              have hro : w1.ownsRow Bw 9 1 (rv (g1, cap1) (ws ++ [p]).length) (ws ++ [p]).length ((ws ++ [p]).map sv) := by
                have := HO1.out
                rw [HWO.out] at this
                rw [hl0, List.map_append]
                exact this
              have hv2 : w2.ownsRow w.heap.size 63 1 v2 (done.length + 1) (List.zipWith (fun h (l : List (List UInt8)) => rv h l.length) hds done ++ [rv (g1, cap1) (ws ++ [p]).length]) := by
                have := hown2
                rw [HNN.out] at this
                rw [hl0]
                exact this
              have HS := Lines.snoc (by decide) HL1.out hro hBw0 (World.grownBy_alloc _ _ _) hv2 hgrow2
              have hB2 : Below w.heap.size w w2 := Below.grown (hB1.alloc hsz1 _) hgrow2 (by simp; omega) (fun g hg => (HR2.out.lt g hg).1)
              obtain ⟨g2, cap2, rfl, _, _⟩ := own_some hown2 (by omega)
              exact ⟨⟨k + 1, _, n + 1, _, _, done ++ [ws ++ [p]], ⟨HST.out.newline (by rw [HC.out, H10.out]) hp, rfl, by rw [HNN.out]; simp, by omega, ⟨_, HS⟩, hB2⟩, _, _, _, _, _, _, _, _, _, _, _, _, _, _, _, _, _, _, _, _, _, _, _, _, _, _, _, _, _, _, _, _, _, _, _, _, _, _, _, _, _, _, _, _, _, _, _, _, _, _, _, _, _, _, _, _, _, _, _, _, by go_num⟩, by simp [mu, intOf]; omega⟩
            · have h10' : (((s[k].toNat : Nat) : Int) == 10) = false := by simpa using h10
              have HSP := Lib.hid (HST.out.bad HC.out HNL.out (Or.inr ⟨fun e => h32 (by rw [e]; rfl), fun e => h10 (by rw [e]; rfl)⟩))
              by_cases hl1 : 32 < (s[k].toNat : Int)
              · have hl2 : ¬ (s[k].toNat : Int) < 127 := by omega
                clear h32 h10 hl hif hnl2
                go_wp2_with (at_builtin; refine wpList_append_own _ rfl _ _ 63 rfl Bw 9 i0 (.string ByteArray.empty) 1 16 Tryd.underlying63 hi hz0 hz1 hz2 rfl (by decide) _ _ _ rfl (HOW.out.alloc _) ⟨wr.heap.size, 0, none⟩ 1 1 [.string (s.extract f k)] rfl rfl (cell_one_new _ _ _) (fun x hx => by simp at hx; subst hx; rfl) (by unfold maxLen; omega) (by omega) (by simp; omega) ?_; intro v1 w1 hown1 hgrow1 hnil1)
                go_step3
                have hB1 : Below w.heap.size w w1 := Below.grown (hB.alloc hB.size _) hgrow1 (by have := hB.size; simp; omega) (fun g hg => by have := (HOW.out.lt g hg).1; omega)
                rename_i K hK; refine hK _ _ (HW.out m _ _ ?_ ?_)
                · exact ⟨_, n, _, _, ⟨by rw [HSP.out, HNN.out], rfl, by omega, hB1⟩, _, _, _, _, _, _, _, _, _, _, _, _, _, _, _, _, _, _, _, _, _, _, _, _, _, _, _, _, _, _, _, _, _, _, _, _, _, _, _, _, _, _, _, _, _, _, _, _, _, _, _, _, _, _, _, _, _, _, _, _, _, rfl⟩
                · simp [mu]
              · clear h32 h10 hl hif hnl2
                go_wp2_with (at_builtin; refine wpList_append_own _ rfl _ _ 63 rfl Bw 9 i0 (.string ByteArray.empty) 1 16 Tryd.underlying63 hi hz0 hz1 hz2 rfl (by decide) _ _ _ rfl (HOW.out.alloc _) ⟨wr.heap.size, 0, none⟩ 1 1 [.string (s.extract f k)] rfl rfl (cell_one_new _ _ _) (fun x hx => by simp at hx; subst hx; rfl) (by unfold maxLen; omega) (by omega) (by simp; omega) ?_; intro v1 w1 hown1 hgrow1 hnil1)
                go_step3
                have hB1 : Below w.heap.size w w1 := Below.grown (hB.alloc hB.size _) hgrow1 (by have := hB.size; simp; omega) (fun g hg => by have := (HOW.out.lt g hg).1; omega)
                rename_i K hK; refine hK _ _ (HW.out m _ _ ?_ ?_)
                · exact ⟨_, n, _, _, ⟨by rw [HSP.out, HNN.out], rfl, by omega, hB1⟩, _, _, _, _, _, _, _, _, _, _, _, _, _, _, _, _, _, _, _, _, _, _, _, _, _, _, _, _, _, _, _, _, _, _, _, _, _, _, _, _, _, _, _, _, _, _, _, _, _, _, _, _, _, _, _, _, _, _, _, _, _, rfl⟩
                · simp [mu]
  · -- word
    intro letter m a wr h hmu
    have HW := Lib.hid letter
    clear letter
    obtain ⟨k, v, vw, n, a0, c0, done, ws, ⟨hst, rfl, hn, hnk, hwk, hul, hhold⟩, u2, u3, u4, u5, u6, u9, u11, u12, u13, u14, u15, u16, u17, u18, u19, u20, u21, u22, u23, u24, u25, u26, u27, u28, u29, u30, u31, u32, u33, u34, u35, u36, u37, u38, u39, u40, u41, u42, u43, u44, u45, u46, u47, u48, u49, u50, u51, u52, u53, u54, u55, u56, u57, u58, u59, u60, u61, u62, u63, rfl⟩ := h
    have hmu' : 2 * (s.size - k) + 1 ≤ m := by simpa [mu, intOf] using hmu
    clear hmu
    have H := Lib.hid (And.intro hst (And.intro hn hhold))
    clear hst hn hhold
    go_wp2
    go_step3
    rename_i K hK; refine hK _ _ (HW.out m _ _ ?_ ?_)
    · exact ⟨k, k, _, _, n, _, _, done, ws, [], ⟨H.out.1, by simp, rfl, H.out.2.1, hnk, hwk, hul, H.out.2.2⟩, _, _, _, _, _, _, _, _, _, _, _, _, _, _, _, _, _, _, _, _, _, _, _, _, _, _, _, _, _, _, _, _, _, _, _, _, _, _, _, _, _, _, _, _, _, _, _, _, _, _, _, _, _, _, _, _, _, _, rfl⟩
    · simpa [mu, intOf] using hmu'
  · -- line
    intro word m a wr h hmu
    have HW := Lib.hid word
    clear word
    obtain ⟨k, v, n, a0, c0, done, ⟨hst, rfl, hn, hnk, hlin, hB⟩, u2, u3, u4, u5, u6, u8, u9, u11, u12, u13, u14, u15, u16, u17, u18, u19, u20, u21, u22, u23, u24, u25, u26, u27, u28, u29, u30, u31, u32, u33, u34, u35, u36, u37, u38, u39, u40, u41, u42, u43, u44, u45, u46, u47, u48, u49, u50, u51, u52, u53, u54, u55, u56, u57, u58, u59, u60, u61, u62, u63, rfl⟩ := h
    have hmu' : 2 * (s.size - k) + 1 ≤ m := by simpa [mu, intOf] using hmu
    clear hmu
    have hks : k ≤ s.size := by simpa using hst.le
    obtain ⟨hds, hlin⟩ := hlin
    have H := Lib.hid (And.intro hst (And.intro hn hlin))
    have hsl : Hid (s.data.toList.length = s.size) := Lib.hid (by simp)
    clear hst hn hlin
    have hbig : s.size ≤ 9223372036854775807 := by omega
    by_cases hk : k = s.size
    · subst hk
      have hkk : (((s.size : Nat) : Int) == ((s.size : Nat) : Int)) = true := by simp
      go_wp2
      go_returns
      exact LinesPost.good (H.out.1.done hsl.out.symm) hB H.out.2.2
    · have hkk : (((k : Nat) : Int) == ((s.size : Nat) : Int)) = false := by rw [beq_eq_false_iff_ne]; omega
      have hul : (Scan.unlines done).length < s.data.toList.length := by
        have e := congrArg List.length H.out.1.eq
        rw [hsl.out]
        simp only [List.length_take, hsl.out, List.length_append, Scan.flat, List.map_nil, List.flatten_nil, List.length_nil] at e
        omega
      go_wp2
      go_step3
      rename_i K hK; refine hK _ _ (HW.out m _ _ ?_ ?_)
      · exact ⟨k, _, _, n, _, _, done, [], ⟨H.out.1, rfl, H.out.2.1, hnk, by simp, hul, hB, wr.heap.size, hds, hB.size, Nat.le_refl _, H.out.2.2, World.ownsRow_nil _ _ _ _⟩, _, _, _, _, _, _, _, _, _, _, _, _, _, _, _, _, _, _, _, _, _, _, _, _, _, _, _, _, _, _, _, _, _, _, _, _, _, _, _, _, _, _, _, _, _, _, _, _, _, _, _, _, _, _, _, _, _, _, _, rfl⟩
      · simpa [mu, intOf] using hmu'
  · -- ahead of the first line
    intro line
    have HW := Lib.hid line
    clear line
    refine ⟨2 * s.size + 1, ?_⟩
    go_wp2
    go_step3
    rename_i K hK; refine hK _ _ (HW.out (2 * s.size + 1) _ _ ?_ ?_)
    · exact ⟨0, _, 0, _, _, [], ⟨Scan.St.start _, rfl, rfl, Nat.le_refl _, ⟨[], Lines.nil _ _ _ _ _⟩, Below.refl _ _⟩, _, _, _, _, _, _, _, _, _, _, _, _, _, _, _, _, _, _, _, _, _, _, _, _, _, _, _, _, _, _, _, _, _, _, _, _, _, _, _, _, _, _, _, _, _, _, _, _, _, _, _, _, _, _, _, _, _, _, _, _, rfl⟩
    · simp [mu, intOf]
end Go.Proofs.YtjiifieafnjpgaaDoor
