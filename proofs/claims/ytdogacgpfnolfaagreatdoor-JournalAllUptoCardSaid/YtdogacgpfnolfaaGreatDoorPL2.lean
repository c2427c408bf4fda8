/- Plans: what their texts and their checks answer (part 2). -/
import Derived.Test.YtdogacgpfnolfaaGreatDoorPL1
namespace Go
/-- As Q; by a goto to label l: J l; -/
def Exit.jumps (J : Nat → Act → World → Prop) (Q : Exit → Act → World → Prop) : Exit → Act → World → Prop
  | .goto l, a, w => J l a w
  | e, a, w => Q e a w
section
variable {P : Program} {a : Act} {w : World} {Q : Exit → Act → World → Prop}
@[go_sem] theorem Exit.jumps_goto (J : Nat → Act → World → Prop) (l : Nat) : Exit.jumps J Q (.goto l) a w = J l a w := rfl
@[go_sem] theorem Exit.jumps_ret (J : Nat → Act → World → Prop) : Exit.jumps J Q .ret a w = Q .ret a w := rfl
@[go_sem] theorem Exit.jumps_normal (J : Nat → Act → World → Prop) : Exit.jumps J Q .normal a w = Q .normal a w := rfl
@[go_sem] theorem Exit.jumps_exit (J : Nat → Act → World → Prop) (id : Nat) : Exit.jumps J Q (.exit id) a w = Q (.exit id) a w := rfl
theorem wp_scope_labels {c : Code} (rest : Nat → Code) (J : Nat → Act → World → Prop) (μ : Nat → Act → World → Nat) (hf : ∀ l a w, J l a w → findLabel c l = some (rest l))
    (first : c.wp P (Exit.jumps J Q) a w)
    (pass : ∀ l a w, J l a w → (rest l).wp P (Exit.jumps (fun l' a' w' => J l' a' w' ∧ μ l' a' w' < μ l a w) Q) a w) : (Code.scope c).wp P Q a w := by
  intro b k cs
  have hg : ∀ l a w, J l a w → gotoIn l (.inScope c :: k) = some (.code (rest l) :: .inScope c :: k) := fun l a w h => by simp [gotoIn, hf l a w h]
  have key : ∀ n l a w, μ l a w = n → J l a w → ∃ e a' w', Q e a' w' ∧ Arrives P (lone (b.at a (.code (rest l) :: .inScope c :: k)) cs w) b k cs e a' w' := by
    intro n
    induction n using Nat.strongRecOn with
    | _ n ih =>
      intro l a w hn hJ
      obtain ⟨e, a₁, w₁, hq, harr⟩ := pass l a w hJ b (.inScope c :: k) cs
      cases e with
      | normal => exact ⟨.normal, a₁, w₁, hq, Steps.trans harr (.one step_inScope)⟩
      | exit id => exact ⟨.exit id, a₁, w₁, hq, fun k' hk => harr k' (by simp [exitTo, hk])⟩
      | goto l' =>
        obtain ⟨hJ', hlt⟩ := hq
        obtain ⟨e₂, a₂, w₂, hq₂, harr₂⟩ := ih _ (by omega) l' a₁ w₁ rfl hJ'
        exact ⟨e₂, a₂, w₂, hq₂, .of_steps (harr _ (hg l' a₁ w₁ hJ')) harr₂⟩
      | ret => exact ⟨_, a₁, w₁, hq, harr⟩
      | panic ch => exact ⟨_, a₁, w₁, hq, harr⟩
      | outgrown => exact ⟨_, a₁, w₁, hq, harr⟩
  obtain ⟨e, a₁, w₁, hq, harr⟩ := first b (.inScope c :: k) cs
  cases e with
  | normal => exact ⟨.normal, a₁, w₁, hq, .head step_scope (Steps.trans harr (.one step_inScope))⟩
  | exit id => exact ⟨.exit id, a₁, w₁, hq, fun k' hk => .head step_scope (harr k' (by simp [exitTo, hk]))⟩
  | goto l' =>
    obtain ⟨e₂, a₂, w₂, hq₂, harr₂⟩ := key _ l' a₁ w₁ rfl hq
    exact ⟨e₂, a₂, w₂, hq₂, .of_steps (.head step_scope (harr _ (hg l' a₁ w₁ hq))) harr₂⟩
  | ret => exact ⟨_, a₁, w₁, hq, .of_steps (.one step_scope) harr⟩
  | panic ch => exact ⟨_, a₁, w₁, hq, .of_steps (.one step_scope) harr⟩
  | outgrown => exact ⟨_, a₁, w₁, hq, .of_steps (.one step_scope) harr⟩
/-- What the labels 0 to 3 hold, and that the measure is less than m. -/
def jumps4 (J0 J1 J2 J3 : Act → World → Prop) (μ : Nat → Act → World → Nat) (m : Nat) (l : Nat) (a : Act) (w : World) : Prop :=
  (match l with | 0 => J0 a w | 1 => J1 a w | 2 => J2 a w | 3 => J3 a w | _ => False) ∧ μ l a w < m
theorem wp_skip_seq {X : Code} (h : X.wp P Q a w) : (Code.skip.seq X).wp P Q a w := by
  refine wp_seq (wp_skip ?_)
  exact h
/-- The same for the labels 0 to 3, which stand one behind the other: 0, 1, 3: what is shown of a later one serves the earlier ones. -/
theorem wp_scope_4 {c r0 r1 r2 r3 : Code} (h0 : findLabel c 0 = some (Code.skip.seq r0)) (h1 : findLabel c 1 = some (Code.skip.seq r1)) (h2 : findLabel c 2 = some (Code.skip.seq r2)) (h3 : findLabel c 3 = some (Code.skip.seq r3))
    (J0 J1 J2 J3 : Act → World → Prop) (μ : Nat → Act → World → Nat)
    (pass2 : ∀ m a w, J2 a w → μ 2 a w ≤ m → r2.wp P (Exit.jumps (jumps4 J0 J1 J2 J3 μ m) Q) a w)
    (pass3 : (∀ m a w, J2 a w → μ 2 a w ≤ m → r2.wp P (Exit.jumps (jumps4 J0 J1 J2 J3 μ m) Q) a w) → ∀ m a w, J3 a w → μ 3 a w ≤ m → r3.wp P (Exit.jumps (jumps4 J0 J1 J2 J3 μ m) Q) a w)
    (pass1 : (∀ m a w, J3 a w → μ 3 a w ≤ m → r3.wp P (Exit.jumps (jumps4 J0 J1 J2 J3 μ m) Q) a w) → ∀ m a w, J1 a w → μ 1 a w ≤ m → r1.wp P (Exit.jumps (jumps4 J0 J1 J2 J3 μ m) Q) a w)
    (pass0 : (∀ m a w, J1 a w → μ 1 a w ≤ m → r1.wp P (Exit.jumps (jumps4 J0 J1 J2 J3 μ m) Q) a w) → ∀ m a w, J0 a w → μ 0 a w ≤ m → r0.wp P (Exit.jumps (jumps4 J0 J1 J2 J3 μ m) Q) a w)
    (first : (∀ m a w, J0 a w → μ 0 a w ≤ m → r0.wp P (Exit.jumps (jumps4 J0 J1 J2 J3 μ m) Q) a w) → ∃ m, c.wp P (Exit.jumps (jumps4 J0 J1 J2 J3 μ m) Q) a w) : (Code.scope c).wp P Q a w := by
  have k3 := pass3 pass2
  have k1 := pass1 k3
  have k0 := pass0 k1
  obtain ⟨m0, hfirst⟩ := first k0
  refine wp_scope_labels (fun l => match l with | 0 => Code.skip.seq r0 | 1 => Code.skip.seq r1 | 2 => Code.skip.seq r2 | 3 => Code.skip.seq r3 | _ => .skip) (fun l a w => match l with | 0 => J0 a w | 1 => J1 a w | 2 => J2 a w | 3 => J3 a w | _ => False) μ ?_ ?_ ?_
  · intro l a w h
    match l, h with
    | 0, _ => exact h0
    | 1, _ => exact h1
    | 2, _ => exact h2
    | 3, _ => exact h3
  · refine Code.wp_mono (fun e a w h => ?_) hfirst
    cases e with
    | goto l => exact h.1
    | normal => exact h
    | exit id => exact h
    | ret => exact h
    | panic ch => exact h
    | outgrown => exact h
  · intro l a w h
    match l, h with
    | 0, h => exact wp_skip_seq (k0 _ a w h (Nat.le_refl _))
    | 1, h => exact wp_skip_seq (k1 _ a w h (Nat.le_refl _))
    | 2, h => exact wp_skip_seq (pass2 _ a w h (Nat.le_refl _))
    | 3, h => exact wp_skip_seq (k3 _ a w h (Nat.le_refl _))
end
end Go

namespace Go.Proofs.YtdogacgpfnolfaaGreatDoor.PL
open Go.RowKit
set_option linter.unusedSimpArgs false
set_option linter.unusedVariables false
theorem infoStr : (Tryz.prog.info? 9).map (fun i => (i.zero, i.size, i.bytes)) = some (some (.string ByteArray.empty), 1, 16) := by kernel_rfl
theorem infoStrs : (Tryz.prog.info? 65).map (fun i => (i.zero, i.size, i.bytes)) = some (some (.slice none 0 0), 1, 24) := by kernel_rfl
/-- Lines of words in memory of the call's own, at the types of this program. -/
abbrev LinesAt (w : World) (base Bw : Nat) (v : Value) (hs : List (Nat × Nat)) (ls : List (List (List UInt8))) : Prop := Lines 9 65 w base Bw v hs ls
/-- The memory of a run of Lines: the lines done, the words of this line. -/
structure Hold (w0 w : World) (v vw : Value) (done : List (List (List UInt8))) (ws : List (List UInt8)) : Prop where
  below : Below w0.heap.size w0 w
  lines : ∃ Bw hs, w0.heap.size ≤ Bw ∧ Bw ≤ w.heap.size ∧ LinesAt w w0.heap.size Bw v hs done ∧ w.ownsRow Bw 9 1 vw ws.length (ws.map sv)
def L0 (s : ByteArray) (most : Int) (w0 : World) (a : Act) (w : World) : Prop := ∃ (k : Nat) (v : Value) (n : Nat) (a0 : Option Addr) (c0 : Nat) (done : List (List (List UInt8))), (Scan.St s.data.toList k done [] [] ∧ v = .slice a0 n c0 ∧ n = done.length ∧ n ≤ k ∧ (∃ hs, LinesAt w w0.heap.size w.heap.size v hs done) ∧ Below w0.heap.size w0 w) ∧ ∃ u2 u3 u4 u5 u6 u8 u9 u11 u12 u13 u14 u15 u16 u17 u18 u19 u20 u21 u22 u23 u24 u25 u26 u27 u28 u29 u30 u31 u32 u33 u34 u35 u36 u37 u38 u39 u40 u41 u42 u43 u44 u45 u46 u47 u48 u49 u50 u51 u52 u53 u54 u55 u56 u57 u58 u59 u60 u61 u62 u63 : Value, a = { tmps := #[.string s, .int .i64 most, u2, u3, u4, u5, u6, v, u8, u9, .int .i64 k, u11, u12, u13, u14, u15, u16, u17, u18, u19, u20, u21, u22, u23, u24, u25, u26, u27, u28, u29, u30, u31, u32, u33, u34, u35, u36, u37, u38, u39, u40, u41, u42, u43, u44, u45, u46, u47, u48, u49, u50, u51, u52, u53, u54, u55, u56, u57, u58, u59, u60, u61, u62, u63], defers := [] }
def L1 (s : ByteArray) (most : Int) (w0 : World) (a : Act) (w : World) : Prop := ∃ (k : Nat) (v vw : Value) (n : Nat) (a0 : Option Addr) (c0 : Nat) (done : List (List (List UInt8))) (ws : List (List UInt8)), (Scan.St s.data.toList k done ws [] ∧ v = .slice a0 n c0 ∧ n = done.length ∧ n ≤ k ∧ ws.length ≤ k ∧ (Scan.unlines done).length < s.data.toList.length ∧ Hold w0 w v vw done ws) ∧ ∃ u2 u3 u4 u5 u6 u9 u11 u12 u13 u14 u15 u16 u17 u18 u19 u20 u21 u22 u23 u24 u25 u26 u27 u28 u29 u30 u31 u32 u33 u34 u35 u36 u37 u38 u39 u40 u41 u42 u43 u44 u45 u46 u47 u48 u49 u50 u51 u52 u53 u54 u55 u56 u57 u58 u59 u60 u61 u62 u63 : Value, a = { tmps := #[.string s, .int .i64 most, u2, u3, u4, u5, u6, v, vw, u9, .int .i64 k, u11, u12, u13, u14, u15, u16, u17, u18, u19, u20, u21, u22, u23, u24, u25, u26, u27, u28, u29, u30, u31, u32, u33, u34, u35, u36, u37, u38, u39, u40, u41, u42, u43, u44, u45, u46, u47, u48, u49, u50, u51, u52, u53, u54, u55, u56, u57, u58, u59, u60, u61, u62, u63], defers := [] }
def L3 (s : ByteArray) (most : Int) (w0 : World) (a : Act) (w : World) : Prop := ∃ (k f : Nat) (v vw : Value) (n : Nat) (a0 : Option Addr) (c0 : Nat) (done : List (List (List UInt8))) (ws : List (List UInt8)) (p : List UInt8), (Scan.St s.data.toList k done ws p ∧ f + p.length = k ∧ v = .slice a0 n c0 ∧ n = done.length ∧ n ≤ k ∧ ws.length ≤ k ∧ (Scan.unlines done).length < s.data.toList.length ∧ Hold w0 w v vw done ws) ∧ ∃ u2 u3 u4 u5 u6 u11 u12 u13 u14 u15 u16 u17 u18 u19 u20 u21 u22 u23 u24 u25 u26 u27 u28 u29 u30 u31 u32 u33 u34 u35 u36 u37 u38 u39 u40 u41 u42 u43 u44 u45 u46 u47 u48 u49 u50 u51 u52 u53 u54 u55 u56 u57 u58 u59 u60 u61 u62 u63 : Value, a = { tmps := #[.string s, .int .i64 most, u2, u3, u4, u5, u6, v, vw, .int .i64 f, .int .i64 k, u11, u12, u13, u14, u15, u16, u17, u18, u19, u20, u21, u22, u23, u24, u25, u26, u27, u28, u29, u30, u31, u32, u33, u34, u35, u36, u37, u38, u39, u40, u41, u42, u43, u44, u45, u46, u47, u48, u49, u50, u51, u52, u53, u54, u55, u56, u57, u58, u59, u60, u61, u62, u63], defers := [] }
def L2 (s : ByteArray) (most : Int) (w0 : World) (a : Act) (w : World) : Prop := ∃ (v : Value) (n : Nat) (a0 : Option Addr) (c0 : Nat), (Scan.spec s.data.toList = .inl (n + 1) ∧ v = .slice a0 n c0 ∧ n ≤ s.size ∧ Below w0.heap.size w0 w) ∧ ∃ u2 u3 u4 u5 u6 u8 u9 u10 u11 u12 u13 u14 u15 u16 u17 u18 u19 u20 u21 u22 u23 u24 u25 u26 u27 u28 u29 u30 u31 u32 u33 u34 u35 u36 u37 u38 u39 u40 u41 u42 u43 u44 u45 u46 u47 u48 u49 u50 u51 u52 u53 u54 u55 u56 u57 u58 u59 u60 u61 u62 u63 : Value, a = { tmps := #[.string s, .int .i64 most, u2, u3, u4, u5, u6, v, u8, u9, u10, u11, u12, u13, u14, u15, u16, u17, u18, u19, u20, u21, u22, u23, u24, u25, u26, u27, u28, u29, u30, u31, u32, u33, u34, u35, u36, u37, u38, u39, u40, u41, u42, u43, u44, u45, u46, u47, u48, u49, u50, u51, u52, u53, u54, u55, u56, u57, u58, u59, u60, u61, u62, u63], defers := [] }
/-- Every pass from a label goes on in the text, or to the wrong end. -/
def mu (s : ByteArray) (l : Nat) (a : Act) (_ : World) : Nat := match l with
  | 2 => 0
  | _ => 2 * (s.size - (intOf (a.tmps.getD 10 undef)).toNat) + 1
/-- What Lines answers, and what it leaves in memory. -/
def LinesPost (s : ByteArray) (w0 : World) (e : Ending) (w : World) : Prop := Below w0.heap.size w0 w ∧
  match Scan.spec s.data.toList with
  | .inr ls => ∃ v hs, e = .returned (.tuple #[v, .int .i64 0, .int .i64 0]) ∧ LinesAt w w0.heap.size w.heap.size v hs ls
  | .inl n => e = .returned (.tuple #[.slice none 0 0, .int .i64 22, .int .i64 n])
theorem LinesPost.bad {s : ByteArray} {w0 w : World} {n : Nat} (h : Scan.spec s.data.toList = .inl n) (hb : Below w0.heap.size w0 w) : LinesPost s w0 (.returned (.tuple #[.slice none 0 0, .int .i64 22, .int .i64 n])) w := by
  unfold LinesPost; rw [h]; exact ⟨hb, rfl⟩
theorem LinesPost.good {s : ByteArray} {w0 w : World} {v : Value} {hs : List (Nat × Nat)} {ls : List (List (List UInt8))} (h : Scan.spec s.data.toList = .inr ls) (hb : Below w0.heap.size w0 w) (hl : LinesAt w w0.heap.size w.heap.size v hs ls) : LinesPost s w0 (.returned (.tuple #[v, .int .i64 0, .int .i64 0])) w := by
  unfold LinesPost; rw [h]; exact ⟨hb, v, hs, rfl, hl⟩
set_option maxHeartbeats 4000000 in
set_option maxRecDepth 100000 in
theorem lines_any (s : ByteArray) (most : Int) (hs : s.size ≤ 4398046511104) (hm : (s.size : Int) ≤ most) (w : World) :
    Calls Tryz.prog 59 #[.string s, .int .i64 most] w (LinesPost s w) := by
  obtain ⟨i0, hi, hz0, hz1, hz2⟩ := info_parts infoStr
  obtain ⟨i1, hi1, hy0, hy1, hy2⟩ := info_parts infoStrs
  go_enter Tryz.func59, Tryz.ntmps59
  go_wp2
  refine wp_scope_4 rfl rfl rfl rfl (L0 s most w) (L1 s most w) (L2 s most w) (L3 s most w) (mu s) ?_ ?_ ?_ ?_ ?_
  · -- wrong
    intro m a wr h hmu
    obtain ⟨v, n, a0, c0, ⟨hspec, rfl, hn, hB⟩, u2, u3, u4, u5, u6, u8, u9, u10, u11, u12, u13, u14, u15, u16, u17, u18, u19, u20, u21, u22, u23, u24, u25, u26, u27, u28, u29, u30, u31, u32, u33, u34, u35, u36, u37, u38, u39, u40, u41, u42, u43, u44, u45, u46, u47, u48, u49, u50, u51, u52, u53, u54, u55, u56, u57, u58, u59, u60, u61, u62, u63, rfl⟩ := h
    clear hmu
    go_wp2
    go_returns
    exact LinesPost.bad hspec hB
  · -- letter
    intro wrong m a wr h hmu
    have HW := Lib.hid wrong
    clear wrong
    obtain ⟨k, f, v, vw, n, a0, c0, done, ws, p, ⟨hst, hf, rfl, hn, hnk, hwk, hul, hhold⟩, u2, u3, u4, u5, u6, u11, u12, u13, u14, u15, u16, u17, u18, u19, u20, u21, u22, u23, u24, u25, u26, u27, u28, u29, u30, u31, u32, u33, u34, u35, u36, u37, u38, u39, u40, u41, u42, u43, u44, u45, u46, u47, u48, u49, u50, u51, u52, u53, u54, u55, u56, u57, u58, u59, u60, u61, u62, u63, rfl⟩ := h
    have hks : k ≤ s.size := by simpa using hst.le
    obtain ⟨hB, Bw, hds, hBw0, hBw1, hlines, hownw⟩ := hhold
    have hmu' : 2 * (s.size - k) + 1 ≤ m := by simpa [mu, intOf] using hmu
    clear hmu
    have HST := Lib.hid hst
    have HLI := Lib.hid hlines
    have HOW := Lib.hid hownw
    have HNN := Lib.hid hn
    have hsl : s.data.toList.length = s.size := by simp
    have HSL := Lib.hid hsl
    have hbig : s.size ≤ 9223372036854775807 := by omega
    clear hst hlines hownw hn hsl
    by_cases hk : k = s.size
    · subst hk
      have hspec := HST.out.endBad HSL.out.symm hul
      have hkk : (((s.size : Nat) : Int) == ((s.size : Nat) : Int)) = true := by simp
      clear hul
      have HSP := Lib.hid hspec
      clear hspec hf
      go_wp2
      go_step3
      exact ⟨⟨_, n, _, _, ⟨by rw [HSP.out, HNN.out], rfl, by omega, hB⟩, _, _, _, _, _, _, _, _, _, _, _, _, _, _, _, _, _, _, _, _, _, _, _, _, _, _, _, _, _, _, _, _, _, _, _, _, _, _, _, _, _, _, _, _, _, _, _, _, _, _, _, _, _, _, _, _, _, _, _, _, _, rfl⟩, by simp [mu]; omega⟩
    · have hlt : k < s.size := by omega
      have hkk : (((k : Nat) : Int) == ((s.size : Nat) : Int)) = false := by rw [beq_eq_false_iff_ne]; omega
      have HC : Hid (s.data.toList[k]? = some s[k]) := Lib.hid (by rw [List.getElem?_eq_getElem (by simpa using hlt)]; rfl)
      have hF := Lib.hid hf
      clear hk
      by_cases hl : 33 ≤ (s[k].toNat : Int) ∧ (s[k].toNat : Int) ≤ 126
      · have hlet : Scan.letter s[k] = true := Scan.letter_iff.2 (by omega)
        have HX := Lib.hid (HST.out.more HC.out hlet)
        obtain ⟨hl1, hl2⟩ := hl
        clear hlet hf
        go_wp2
        go_step3
        exact ⟨⟨k + 1, f, _, _, n, _, _, done, ws, p ++ [s[k]], ⟨HX.out, by have := hF.out; simp; omega, rfl, HNN.out, by omega, by omega, hul, hB, Bw, hds, hBw0, hBw1, HLI.out, HOW.out⟩, _, _, _, _, _, _, _, _, _, _, _, _, _, _, _, _, _, _, _, _, _, _, _, _, _, _, _, _, _, _, _, _, _, _, _, _, _, _, _, _, _, _, _, _, _, _, _, _, _, _, _, _, _, _, _, _, _, _, by go_num⟩, by simp [mu, intOf]; omega⟩
      · have hnl : Scan.letter s[k] = false := by
          cases e : Scan.letter s[k]
          · rfl
          · exact absurd (Scan.letter_iff.1 e) (by omega)
        have HNL := Lib.hid hnl
        clear hnl
        have hif : (decide (32 < (s[k].toNat : Int)) && decide ((s[k].toNat : Int) < 127)) = false := by
          rw [Bool.and_eq_false_iff]; simp; omega
        by_cases hp : p = []
        · subst hp
          have HSP := Lib.hid (HST.out.bad HC.out HNL.out (Or.inl rfl))
          have hfk : (((k : Nat) : Int) == ((f : Nat) : Int)) = true := by rw [beq_iff_eq]; simp at hf; omega
          clear hf
          by_cases hl1 : 32 < (s[k].toNat : Int)
          · have hl2 : ¬ (s[k].toNat : Int) < 127 := by omega
            clear hl hif
            go_wp2
            go_step3
            exact ⟨⟨_, n, _, _, ⟨by rw [HSP.out, HNN.out], rfl, by omega, hB⟩, _, _, _, _, _, _, _, _, _, _, _, _, _, _, _, _, _, _, _, _, _, _, _, _, _, _, _, _, _, _, _, _, _, _, _, _, _, _, _, _, _, _, _, _, _, _, _, _, _, _, _, _, _, _, _, _, _, _, _, _, _, rfl⟩, by simp [mu]; omega⟩
          · clear hl hif
            go_wp2
            go_step3
            exact ⟨⟨_, n, _, _, ⟨by rw [HSP.out, HNN.out], rfl, by omega, hB⟩, _, _, _, _, _, _, _, _, _, _, _, _, _, _, _, _, _, _, _, _, _, _, _, _, _, _, _, _, _, _, _, _, _, _, _, _, _, _, _, _, _, _, _, _, _, _, _, _, _, _, _, _, _, _, _, _, _, _, _, _, _, rfl⟩, by simp [mu]; omega⟩
        · have hpl : 0 < p.length := List.length_pos_iff.2 hp
          have hfk : (((k : Nat) : Int) == ((f : Nat) : Int)) = false := by rw [beq_eq_false_iff_ne]; omega
          have hfk' : f ≤ k := by omega
          have hks' : k ≤ s.size := by omega
          have hword : Value.string (s.extract f k) = sv p := by
            have := HST.out.word
            have e : k - p.length = f := by omega
            rw [e] at this
            unfold sv bs
            congr 1
            apply ByteArray.ext
            apply Array.toList_inj.1
            have e2 : p.length = k - f := by omega
            rw [e2] at this
            rw [← this]
            simp [List.extract]
          have HWO := Lib.hid hword
          clear hf hword
          by_cases h32 : (s[k].toNat : Int) = 32
          · have h32' : (((s[k].toNat : Nat) : Int) == 32) = true := by simpa using h32
            have hl1 : ¬ 32 < (s[k].toNat : Int) := by omega
            have H32 : Hid (s[k] = 32) := Lib.hid (UInt8.toNat_inj.1 (by show s[k].toNat = 32; omega))
            clear h32 hl hif
            go_wp2_with (at_builtin; refine wpList_append_own _ rfl _ _ 65 rfl Bw 9 i0 (.string ByteArray.empty) 1 16 Tryz.underlying65 hi hz0 hz1 hz2 rfl (by decide) _ _ _ rfl (HOW.out.alloc _) ⟨wr.heap.size, 0, none⟩ 1 1 [.string (s.extract f k)] rfl rfl (cell_one_new _ _ _) (fun x hx => by simp at hx; subst hx; rfl) (by unfold maxLen; omega) (by omega) (by simp; omega) ?_; intro v1 w1 hown1 hgrow1 hnil1)
            go_step3
            have hB1 : Below w.heap.size w w1 := Below.grown (hB.alloc hB.size _) hgrow1 (by have := hB.size; simp; omega) (fun g hg => by have := (HOW.out.lt g hg).1; omega)
            have hs1 := hgrow1.size
            exact ⟨⟨k + 1, _, _, n, _, _, done, ws ++ [p], ⟨HST.out.space (by rw [HC.out, H32.out]) hp, rfl, HNN.out, by omega, by simp; omega, hul, hB1, Bw, hds, hBw0, by simp at hs1; omega, (HLI.out.alloc _).kept hgrow1 (fun g hg => (HOW.out.lt g hg).1), by rw [HWO.out] at hown1; simpa using hown1⟩, _, _, _, _, _, _, _, _, _, _, _, _, _, _, _, _, _, _, _, _, _, _, _, _, _, _, _, _, _, _, _, _, _, _, _, _, _, _, _, _, _, _, _, _, _, _, _, _, _, _, _, _, _, _, _, _, _, _, _, by go_num⟩, by simp [mu, intOf]; omega⟩
          · have h32' : (((s[k].toNat : Nat) : Int) == 32) = false := by simpa using h32
            have hnl2 : ¬ (32 < (s[k].toNat : Int) ∧ (s[k].toNat : Int) < 127) := by omega
            by_cases h10 : (s[k].toNat : Int) = 10
            · have h10' : (((s[k].toNat : Nat) : Int) == 10) = true := by simpa using h10
              have hl1 : ¬ 32 < (s[k].toNat : Int) := by omega
              have H10 : Hid (s[k] = 10) := Lib.hid (UInt8.toNat_inj.1 (by show s[k].toNat = 10; omega))
              clear h32 h10 hl hif hnl2
              go_wp2_with (first
                | (at_builtin; refine wpList_append_own _ rfl _ _ 65 rfl Bw 9 i0 (.string ByteArray.empty) 1 16 Tryz.underlying65 hi hz0 hz1 hz2 rfl (by decide) _ _ _ rfl (HOW.out.alloc _) ⟨wr.heap.size, 0, none⟩ 1 1 [.string (s.extract f k)] rfl rfl (cell_one_new _ _ _) (fun x hx => by simp at hx; subst hx; rfl) (by unfold maxLen; omega) (by omega) (by simp; omega) ?_; intro v1 w1 hown1 hgrow1 hnil1; obtain ⟨g1, cap1, rfl, hg1, hg2⟩ := own_some hown1 (by omega); have HL1 := Lib.hid ((HLI.out.alloc (.cells #[.string (s.extract f k)] 9)).kept hgrow1 (fun g hg => (HOW.out.lt g hg).1)); have HO1 := Lib.hid hown1; have HG1 := Lib.hid hgrow1; have hB1 : Below w.heap.size w w1 := Below.grown (hB.alloc hB.size _) hgrow1 (by have := hB.size; simp; omega) (fun g hg => by have := (HOW.out.lt g hg).1; omega); have hsz1 := hB1.size; have HR1 := HL1.out.row; rw [← HNN.out] at HR1; have HR2 := Lib.hid HR1; clear hown1 hgrow1 hnil1 HR1)
                | (at_builtin; refine wpList_append_own _ rfl _ _ 102 rfl w.heap.size 65 i1 (.slice none 0 0) 1 24 Tryz.underlying102 hi1 hy0 hy1 hy2 rfl (by decide) _ _ _ rfl (HR2.out.alloc _) ⟨w1.heap.size, 0, none⟩ 1 1 [.slice (some ⟨g1, 0, none⟩) (ws.length + 1) cap1] rfl rfl (cell_one_new _ _ _) (fun x hx => by simp at hx; subst hx; rfl) (by unfold maxLen; omega) (by omega) (by simp; omega) ?_; intro v2 w2 hown2 hgrow2 hnil2))
              go_step3
              have hl0 : (ws ++ [p]).length = ws.length + 1 := by simp
              have hro : w1.ownsRow Bw 9 1 (rv (g1, cap1) (ws ++ [p]).length) (ws ++ [p]).length ((ws ++ [p]).map sv) := by
                have := HO1.out
                rw [HWO.out] at this
                rw [hl0, List.map_append]
                exact this
              have hv2 : w2.ownsRow w.heap.size 65 1 v2 (done.length + 1) (List.zipWith (fun h (l : List (List UInt8)) => rv h l.length) hds done ++ [rv (g1, cap1) (ws ++ [p]).length]) := by
                have := hown2
                rw [HNN.out] at this
                rw [hl0]
                exact this
              have HS := Lines.snoc (by decide) HL1.out hro hBw0 (World.grownBy_alloc _ _ _) hv2 hgrow2
              have hB2 : Below w.heap.size w w2 := Below.grown (hB1.alloc hsz1 _) hgrow2 (by simp; omega) (fun g hg => (HR2.out.lt g hg).1)
              obtain ⟨g2, cap2, rfl, _, _⟩ := own_some hown2 (by omega)
              exact ⟨⟨k + 1, _, n + 1, _, _, done ++ [ws ++ [p]], ⟨HST.out.newline (by rw [HC.out, H10.out]) hp, rfl, by rw [HNN.out]; simp, by omega, ⟨_, HS⟩, hB2⟩, _, _, _, _, _, _, _, _, _, _, _, _, _, _, _, _, _, _, _, _, _, _, _, _, _, _, _, _, _, _, _, _, _, _, _, _, _, _, _, _, _, _, _, _, _, _, _, _, _, _, _, _, _, _, _, _, _, _, _, _, by go_num⟩, by simp [mu, intOf]; omega⟩
            · have h10' : (((s[k].toNat : Nat) : Int) == 10) = false := by simpa using h10
              have HSP := Lib.hid (HST.out.bad HC.out HNL.out (Or.inr ⟨fun e => h32 (by rw [e]; rfl), fun e => h10 (by rw [e]; rfl)⟩))
              by_cases hl1 : 32 < (s[k].toNat : Int)
              · have hl2 : ¬ (s[k].toNat : Int) < 127 := by omega
                clear h32 h10 hl hif hnl2
                go_wp2_with (at_builtin; refine wpList_append_own _ rfl _ _ 65 rfl Bw 9 i0 (.string ByteArray.empty) 1 16 Tryz.underlying65 hi hz0 hz1 hz2 rfl (by decide) _ _ _ rfl (HOW.out.alloc _) ⟨wr.heap.size, 0, none⟩ 1 1 [.string (s.extract f k)] rfl rfl (cell_one_new _ _ _) (fun x hx => by simp at hx; subst hx; rfl) (by unfold maxLen; omega) (by omega) (by simp; omega) ?_; intro v1 w1 hown1 hgrow1 hnil1)
                go_step3
                have hB1 : Below w.heap.size w w1 := Below.grown (hB.alloc hB.size _) hgrow1 (by have := hB.size; simp; omega) (fun g hg => by have := (HOW.out.lt g hg).1; omega)
                rename_i K hK; refine hK _ _ (HW.out m _ _ ?_ ?_)
                · exact ⟨_, n, _, _, ⟨by rw [HSP.out, HNN.out], rfl, by omega, hB1⟩, _, _, _, _, _, _, _, _, _, _, _, _, _, _, _, _, _, _, _, _, _, _, _, _, _, _, _, _, _, _, _, _, _, _, _, _, _, _, _, _, _, _, _, _, _, _, _, _, _, _, _, _, _, _, _, _, _, _, _, _, _, rfl⟩
                · simp [mu]
              · clear h32 h10 hl hif hnl2
                go_wp2_with (at_builtin; refine wpList_append_own _ rfl _ _ 65 rfl Bw 9 i0 (.string ByteArray.empty) 1 16 Tryz.underlying65 hi hz0 hz1 hz2 rfl (by decide) _ _ _ rfl (HOW.out.alloc _) ⟨wr.heap.size, 0, none⟩ 1 1 [.string (s.extract f k)] rfl rfl (cell_one_new _ _ _) (fun x hx => by simp at hx; subst hx; rfl) (by unfold maxLen; omega) (by omega) (by simp; omega) ?_; intro v1 w1 hown1 hgrow1 hnil1)
                go_step3
                have hB1 : Below w.heap.size w w1 := Below.grown (hB.alloc hB.size _) hgrow1 (by have := hB.size; simp; omega) (fun g hg => by have := (HOW.out.lt g hg).1; omega)
                rename_i K hK; refine hK _ _ (HW.out m _ _ ?_ ?_)
                · exact ⟨_, n, _, _, ⟨by rw [HSP.out, HNN.out], rfl, by omega, hB1⟩, _, _, _, _, _, _, _, _, _, _, _, _, _, _, _, _, _, _, _, _, _, _, _, _, _, _, _, _, _, _, _, _, _, _, _, _, _, _, _, _, _, _, _, _, _, _, _, _, _, _, _, _, _, _, _, _, _, _, _, _, _, rfl⟩
                · simp [mu]
  · -- word
    intro letter m a wr h hmu
    have HW := Lib.hid letter
    clear letter
    obtain ⟨k, v, vw, n, a0, c0, done, ws, ⟨hst, rfl, hn, hnk, hwk, hul, hhold⟩, u2, u3, u4, u5, u6, u9, u11, u12, u13, u14, u15, u16, u17, u18, u19, u20, u21, u22, u23, u24, u25, u26, u27, u28, u29, u30, u31, u32, u33, u34, u35, u36, u37, u38, u39, u40, u41, u42, u43, u44, u45, u46, u47, u48, u49, u50, u51, u52, u53, u54, u55, u56, u57, u58, u59, u60, u61, u62, u63, rfl⟩ := h
    have hmu' : 2 * (s.size - k) + 1 ≤ m := by simpa [mu, intOf] using hmu
    clear hmu
    have H := Lib.hid (And.intro hst (And.intro hn hhold))
    clear hst hn hhold
    go_wp2
    go_step3
    rename_i K hK; refine hK _ _ (HW.out m _ _ ?_ ?_)
    · exact ⟨k, k, _, _, n, _, _, done, ws, [], ⟨H.out.1, by simp, rfl, H.out.2.1, hnk, hwk, hul, H.out.2.2⟩, _, _, _, _, _, _, _, _, _, _, _, _, _, _, _, _, _, _, _, _, _, _, _, _, _, _, _, _, _, _, _, _, _, _, _, _, _, _, _, _, _, _, _, _, _, _, _, _, _, _, _, _, _, _, _, _, _, _, rfl⟩
    · simpa [mu, intOf] using hmu'
  · -- line
    intro word m a wr h hmu
    have HW := Lib.hid word
    clear word
    obtain ⟨k, v, n, a0, c0, done, ⟨hst, rfl, hn, hnk, hlin, hB⟩, u2, u3, u4, u5, u6, u8, u9, u11, u12, u13, u14, u15, u16, u17, u18, u19, u20, u21, u22, u23, u24, u25, u26, u27, u28, u29, u30, u31, u32, u33, u34, u35, u36, u37, u38, u39, u40, u41, u42, u43, u44, u45, u46, u47, u48, u49, u50, u51, u52, u53, u54, u55, u56, u57, u58, u59, u60, u61, u62, u63, rfl⟩ := h
    have hmu' : 2 * (s.size - k) + 1 ≤ m := by simpa [mu, intOf] using hmu
    clear hmu
    have hks : k ≤ s.size := by simpa using hst.le
    obtain ⟨hds, hlin⟩ := hlin
    have H := Lib.hid (And.intro hst (And.intro hn hlin))
    have hsl : Hid (s.data.toList.length = s.size) := Lib.hid (by simp)
    clear hst hn hlin
    have hbig : s.size ≤ 9223372036854775807 := by omega
    by_cases hk : k = s.size
    · subst hk
      have hkk : (((s.size : Nat) : Int) == ((s.size : Nat) : Int)) = true := by simp
      go_wp2
      go_returns
      exact LinesPost.good (H.out.1.done hsl.out.symm) hB H.out.2.2
    · have hkk : (((k : Nat) : Int) == ((s.size : Nat) : Int)) = false := by rw [beq_eq_false_iff_ne]; omega
      have hul : (Scan.unlines done).length < s.data.toList.length := by
        have e := congrArg List.length H.out.1.eq
        rw [hsl.out]
        simp only [List.length_take, hsl.out, List.length_append, Scan.flat, List.map_nil, List.flatten_nil, List.length_nil] at e
        omega
      go_wp2
      go_step3
      rename_i K hK; refine hK _ _ (HW.out m _ _ ?_ ?_)
      · exact ⟨k, _, _, n, _, _, done, [], ⟨H.out.1, rfl, H.out.2.1, hnk, by simp, hul, hB, wr.heap.size, hds, hB.size, Nat.le_refl _, H.out.2.2, World.ownsRow_nil _ _ _ _⟩, _, _, _, _, _, _, _, _, _, _, _, _, _, _, _, _, _, _, _, _, _, _, _, _, _, _, _, _, _, _, _, _, _, _, _, _, _, _, _, _, _, _, _, _, _, _, _, _, _, _, _, _, _, _, _, _, _, _, _, rfl⟩
      · simpa [mu, intOf] using hmu'
  · -- ahead of the first line
    intro line
    have HW := Lib.hid line
    clear line
    refine ⟨2 * s.size + 1, ?_⟩
    go_wp2
    go_step3
    rename_i K hK; refine hK _ _ (HW.out (2 * s.size + 1) _ _ ?_ ?_)
    · exact ⟨0, _, 0, _, _, [], ⟨Scan.St.start _, rfl, rfl, Nat.le_refl _, ⟨[], Lines.nil _ _ _ _ _⟩, Below.refl _ _⟩, _, _, _, _, _, _, _, _, _, _, _, _, _, _, _, _, _, _, _, _, _, _, _, _, _, _, _, _, _, _, _, _, _, _, _, _, _, _, _, _, _, _, _, _, _, _, _, _, _, _, _, _, _, _, _, _, _, _, _, _, rfl⟩
    · simp [mu, intOf]
end Go.Proofs.YtdogacgpfnolfaaGreatDoor.PL

namespace Go.Proofs.YtdogacgpfnolfaaGreatDoor.PL
open Go.RowKit
set_option linter.unusedSimpArgs false
set_option linter.unusedVariables false
theorem Below.grow {w w' : World} (h : Below w.heap.size w w') : w.grownBy w' none := ⟨h.os, h.tape, h.output, h.size, fun k hk _ => h.block k hk⟩
namespace Scan
open Cut
end Scan
end Go.Proofs.YtdogacgpfnolfaaGreatDoor.PL

namespace Go.Proofs.YtdogacgpfnolfaaGreatDoor.PL
open Go.RowKit
set_option linter.unusedSimpArgs false
set_option linter.unusedVariables false
abbrev PD := DataW Unit
/-- The map holds what is noted. -/
def Notes (D : PD) (s : List UInt8 → Int) : Prop := Maps.IsMap D ∧ ∀ p, D.atKey (.string p) (.lit (.int .i64 0)) = .lit (.int .i64 (s p))
theorem notes_put {D : PD} {s : List UInt8 → Int} (h : Notes D s) (p : List UInt8) (v : Int) : Notes (D.put (.string p) (.lit (.int .i64 v))) (Plan.upd s p v) := by
  refine ⟨h.1.put _ _, fun q => ?_⟩
  by_cases hq : q = p
  · subst hq
    rw [Maps.atKey_put_same h.1 (by simp [WideAt.IsKeyLit])]
    simp [Plan.upd]
  · rw [Maps.atKey_put_other (by simpa using hq)]
    simp [Plan.upd, hq, h.2 q]
theorem bcell {W w1 : World} (hb : Below W.heap.size W w1) : (∀ b o, b < W.heap.size → w1.cell? ⟨b, o, none⟩ = W.cell? ⟨b, o, none⟩) ∧ (∀ b o, b < W.heap.size → w1.frozen? ⟨b, o, none⟩ = W.frozen? ⟨b, o, none⟩) :=
  ⟨fun b o h => hb.cell (p := ⟨b, o, none⟩) h, fun b o h => hb.frozen (p := ⟨b, o, none⟩) h⟩
theorem chk_cons {ds : List Plan.D} {k : Nat} {d : Plan.D} {least : Int} {s : List UInt8 → Int} (hd : ds[k]? = some d) :
    Plan.chk least s (ds.drop k) = (Plan.okD least d && (Plan.fits (s d.path) d.kind && Plan.chk d.kind (Plan.upd s d.path (Plan.note (s d.path) d.kind)) (ds.drop (k + 1)))) := by
  have h := List.getElem?_eq_some_iff.1 hd
  rw [List.drop_eq_getElem_cons h.1, h.2]
  rfl
set_option maxHeartbeats 4000000 in
set_option maxRecDepth 100000 in
theorem check_any {w : World} {B : Nat} {v : Value} {ds : List Plan.D} (h : Deeds w B v ds) (hB : B ≤ w.heap.size) (hn : ds.length ≤ 4398046511104) (hsz : ∀ d ∈ ds, d.path.length ≤ 4398046511104 ∧ d.data.length ≤ 4398046511104) :
    Calls Tryz.prog 47 #[v] w fun e w' => e = .returned (.int .i64 (Plan.code ds)) ∧ Below w.heap.size w w' := by
  have hmm := @run_makeMap Tryz.prog
  obtain ⟨a1, c1, rfl⟩ := h.form
  obtain ⟨N, hN⟩ : ∃ N, N = ds.length := ⟨_, rfl⟩
  have HH := Lib.hid h
  have HSZ := Lib.hid hsz
  rw [← hN] at hn ⊢
  have HN := Lib.hid hN
  clear h hsz hN
  go_enter Tryz.func47, Tryz.ntmps47
  go_wp2
  go_loopw [4, 11] (fun p q wr => ∃ (k : Nat) (least : Int) (s : List UInt8 → Int) (D : PD), p = .int .i64 least ∧ q = .int .i64 k ∧ k ≤ N ∧ 1 ≤ least ∧ Plan.ok ds = Plan.chk least s (ds.drop k) ∧ Notes D s ∧ wr.ownsMap Tryz.prog 9 (plainElem Tryz.prog 3) w.heap.size k D ∧ Below w.heap.size w wr) (fun _ q _ => N - (intOf q).toNat)
  case atStart => exact ⟨0, 1, fun _ => 0, .map [], rfl, rfl, by omega, by omega, by rw [List.drop_zero]; rfl, ⟨Maps.isMap_empty, fun p => rfl⟩, World.ownsMap_made _ _ _ _, (Below.refl _ w).alloc (Nat.le_refl _) _⟩
  case round =>
    obtain ⟨k, least, s, D, rfl, rfl, hk, hl1, hchk, hnot, hown, hBr⟩ := hrel
    have HCHK := Lib.hid hchk
    have HNOT := Lib.hid hnot
    have HOWN := Lib.hid hown
    clear hchk hnot hown
    by_cases hkN : k < N
    · obtain ⟨d, hd⟩ : ∃ d, ds[k]? = some d := ⟨_, List.getElem?_eq_getElem (by have := HN.out; omega)⟩
      have hdd := HSZ.out d (List.mem_of_getElem? hd)
      obtain ⟨bk, o, cap, hve, hbB, hbc⟩ := HH.out.at (by have := HN.out; omega)
      injection hve with ha1 _ hc1
      subst ha1; subst hc1
      obtain ⟨e1, e2, e3⟩ := hbc k d hd
      rw [← hBr.cell (p := ⟨bk, o + k * 3, none⟩) (by show bk < _; omega)] at e1
      rw [← hBr.cell (p := ⟨bk, o + k * 3 + 1, none⟩) (by show bk < _; omega)] at e2
      rw [← hBr.cell (p := ⟨bk, o + k * 3 + 2, none⟩) (by show bk < _; omega)] at e3
      have hcons := chk_cons (least := least) (s := s) hd
      rw [← HCHK.out] at hcons
      have hpsz : (bs d.path).size ≤ 9223372036854775807 := by show d.path.toArray.size ≤ _; simp; omega
      have fail_ : Plan.okD least d = false → Plan.code ds = 44 := fun h => Plan.code_no (by rw [hcons, h]; rfl)
      have HFAIL := Lib.hid fail_
      have HCONS := Lib.hid hcons
      have HD := Lib.hid hd
      have HDD := Lib.hid hdd
      have HPSZ := Lib.hid hpsz
      have hbz := hBr.size
      clear hbc fail_ hcons hd hdd hpsz
      by_cases b1 : d.kind < least
      · have HF := Lib.hid (HFAIL.out (by unfold Plan.okD; rw [decide_eq_false (by omega)]; rfl))
        go_wp2_with fail
        go_returns
        exact ⟨by rw [HF.out]; rfl, hBr.alloc hBr.size _⟩
      by_cases b2 : 4 < d.kind
      · have HF := Lib.hid (HFAIL.out (by unfold Plan.okD; rw [decide_eq_false (p := d.kind ≤ 4) (by omega)]; simp))
        go_wp2_with fail
        go_returns
        exact ⟨by rw [HF.out]; rfl, hBr.alloc hBr.size _⟩
      have b4 : ((d.kind == 4) = true ∧ (d.kind != 4) = false ∧ d.kind = 4) ∨ ((d.kind == 4) = false ∧ ((bs d.data).toList == ([] : List UInt8)) = false ∧ d.kind ≠ 4 ∧ d.data.isEmpty = false) ∨ ((d.kind == 4) = false ∧ ((bs d.data).toList == ([] : List UInt8)) = true ∧ (d.kind != 4) = true ∧ d.kind ≠ 4 ∧ d.data.isEmpty = true) := by
        rw [sv_eq_empty']
        by_cases hk4 : d.kind = 4
        · exact Or.inl ⟨by rw [beq_iff_eq]; exact hk4, by simp [hk4], hk4⟩
        · cases hde : d.data.isEmpty
          · exact Or.inr (Or.inl ⟨by rw [beq_eq_false_iff_ne]; exact hk4, rfl, hk4, rfl⟩)
          · exact Or.inr (Or.inr ⟨by rw [beq_eq_false_iff_ne]; exact hk4, rfl, by simp [hk4], hk4, rfl⟩)
      have b5 : ((d.kind == 4) = false ∧ ((bs d.data).toList == ([] : List UInt8)) = false ∧ d.kind ≠ 4 ∧ d.data.isEmpty = false) ∨ (decide (d.kind = 4) || d.data.isEmpty) = true := by
        rcases b4 with ⟨_, _, h⟩ | h | ⟨_, _, _, _, h⟩
        · exact Or.inr (by simp [h])
        · exact Or.inl h
        · exact Or.inr (by simp [h])
      rcases b5 with ⟨q4, q5, hk4, hde⟩ | hgood
      · have HF := Lib.hid (HFAIL.out (by unfold Plan.okD; rw [decide_eq_false hk4, hde]; simp))
        clear hde b4
        go_wp2_with fail
        go_returns
        exact ⟨by rw [HF.out]; rfl, hBr.alloc hBr.size _⟩
      have hok3 : Plan.okD least d = (Plan.pathOk d.path && Plan.free d.path) := by
        unfold Plan.okD
        rw [decide_eq_true (by omega), decide_eq_true (p := d.kind ≤ 4) (by omega), hgood]
        rfl
      have HOK3 := Lib.hid hok3
      have HFREE : Hid (Plan.free d.path = (!((bs d.path).toList == [47, 106, 111, 117, 114, 110, 97, 108]) && !Go.Lib.hasPrefix d.path [47, 106, 111, 117, 114, 110, 97, 108, 47])) := Lib.hid (by
        rw [str_eq_lit]; rfl)
      have hkey : keyOf Tryz.prog 9 (.string (bs d.path)) = some (.string d.path) := by
        have hm : (bs d.path).size ≤ maxLen := by have := HPSZ.out; unfold maxLen; omega
        simp [keyOf, mapKey, Tryz.underlying9, bs]
        exact hm
      have hwf : (Lit.int .i64 d.kind).wf = true := by
        simp only [Lit.wf, IntKind.min, IntKind.max, IntKind.signed, IntKind.bits, Bool.and_eq_true, decide_eq_true_eq, if_true]
        omega
      have hwm : (Lit.int .i64 (-1)).wf = true := by decide
      have HKEY := Lib.hid hkey
      have HWF := Lib.hid hwf
      have HWM := Lib.hid hwm
      have hpre : ∀ w, Calls Tryz.prog 66 #[.string (bs d.path), .string ⟨#[47, 106, 111, 117, 114, 110, 97, 108, 47]⟩] w fun e w' => e = .returned (.bool (Go.Lib.hasPrefix d.path [47, 106, 111, 117, 114, 110, 97, 108, 47])) ∧ w' = w := fun w => Tryz.strings_HasPrefix (bs d.path) ⟨#[47, 106, 111, 117, 114, 110, 97, 108, 47]⟩ w
      have HPRE := Lib.hid hpre
      clear hok3 hkey hwf hwm hpre
      rcases b4 with ⟨q4, qn4, hk4⟩ | ⟨q4, q5, hk4, hde⟩ | ⟨q4, q5, qn4, hk4, hde⟩
      rotate_left 1
      · exfalso
        rw [decide_eq_false hk4, hde] at hgood
        exact absurd hgood (by simp)
      all_goals
        have HK4 := Lib.hid hk4
        clear hgood hk4
        cases hpo : Plan.pathOk d.path
        · have HF := Lib.hid (HFAIL.out (by rw [HOK3.out, hpo]; rfl))
          go_wp2_with fail
          refine (path_any (bs d.path) HPSZ.out _).mono ?_
          rintro e w2 ⟨rfl, hb2⟩
          rw [bs_list, hpo]
          go_wp2_with fail
          go_returns
          exact ⟨by rw [HF.out]; rfl, by refine hBr.trans (Below.trans ?_ (hb2.mono ?_)) <;> go_grown⟩
        · cases hj : ((bs d.path).toList == [47, 106, 111, 117, 114, 110, 97, 108])
          rotate_left 1
          · have HF := Lib.hid (HFAIL.out (by rw [HOK3.out, hpo, HFREE.out, hj]; rfl))
            go_wp2_with fail
            refine (path_any (bs d.path) HPSZ.out _).mono ?_
            rintro e w2 ⟨rfl, hb2⟩
            rw [bs_list, hpo]
            obtain ⟨hc2, hf2⟩ := bcell hb2
            have hzz : wr.heap.size < w2.heap.size := by have := hb2.size; simp at this; omega
            go_wp2_with fail
            go_returns
            exact ⟨by rw [HF.out]; rfl, by refine hBr.trans (Below.trans ?_ (hb2.mono ?_)) <;> go_grown⟩
          cases hpp : Go.Lib.hasPrefix d.path [47, 106, 111, 117, 114, 110, 97, 108, 47]
          rotate_left 1
          · have HF := Lib.hid (HFAIL.out (by rw [HOK3.out, hpo, HFREE.out, hj, hpp]; rfl))
            go_wp2_with fail
            refine (path_any (bs d.path) HPSZ.out _).mono ?_
            rintro e w2 ⟨rfl, hb2⟩
            rw [bs_list, hpo]
            obtain ⟨hc2, hf2⟩ := bcell hb2
            have hzz : wr.heap.size < w2.heap.size := by have := hb2.size; simp at this; omega
            have hz0 : w.heap.size ≤ w2.heap.size := by omega
            have HB2 : Hid (Below w.heap.size w w2) := Lib.hid (by refine hBr.trans (Below.trans ?_ (hb2.mono ?_)) <;> go_grown)
            have HOWN2 := Lib.hid ((HOWN.out.kept (World.grownBy_alloc wr (.cells (dcells d) 39) none) (by simp)).kept (Below.grow hb2) (by simp))
            go_wp2_with fail
            refine (HPRE.out _).mono ?_
            rintro e w3 ⟨rfl, rfl⟩
            rw [hpp]
            go_wp2_with fail
            go_returns
            exact ⟨by rw [HF.out]; rfl, HB2.out⟩
          have HOKD : Hid (Plan.okD least d = true) := Lib.hid (by rw [HOK3.out, hpo, HFREE.out, hj, hpp]; rfl)
          obtain ⟨sp, hsp⟩ : ∃ x, x = s d.path := ⟨_, rfl⟩
          have HSP := Lib.hid hsp
          have hcase : sp = 0 ∨ (sp = 1 ∧ d.kind = 3) ∨ (sp = 2 ∧ d.kind = 4) ∨ (sp = 1 ∧ d.kind ≠ 3) ∨ (sp = 2 ∧ d.kind ≠ 4) ∨ (sp ≠ 0 ∧ sp ≠ 1 ∧ sp ≠ 2) := by omega
          clear hsp
          rcases hcase with rfl | ⟨rfl, h3⟩ | ⟨rfl, h4⟩ | ⟨rfl, h3⟩ | ⟨rfl, h4⟩ | ⟨h0, h1, h2⟩
          · have HCH : Hid (Plan.ok ds = Plan.chk d.kind (Plan.upd s d.path d.kind) (ds.drop (k + 1))) := Lib.hid (by
              rw [HCONS.out, HOKD.out, ← HSP.out]; simp [Plan.fits, Plan.note])
            go_wp2_with fail
            refine (path_any (bs d.path) HPSZ.out _).mono ?_
            rintro e w2 ⟨rfl, hb2⟩
            rw [bs_list, hpo]
            obtain ⟨hc2, hf2⟩ := bcell hb2
            have hzz : wr.heap.size < w2.heap.size := by have := hb2.size; simp at this; omega
            have hz0 : w.heap.size ≤ w2.heap.size := by omega
            have HB2 : Hid (Below w.heap.size w w2) := Lib.hid (by refine hBr.trans (Below.trans ?_ (hb2.mono ?_)) <;> go_grown)
            have HOWN2 := Lib.hid ((HOWN.out.kept (World.grownBy_alloc wr (.cells (dcells d) 39) none) (by simp)).kept (Below.grow hb2) (by simp))
            go_wp2_with fail
            refine (HPRE.out _).mono ?_
            rintro e w3 ⟨rfl, rfl⟩
            rw [hpp]
            go_wp2_with (first | (at_lookup; refine wpList_lookup_own_int _ rfl _ _ 119 rfl 9 3 .i64 (Maps.string_keyed Tryz.underlying9) Tryz.underlying119 Tryz.underlying3 (Tryz.zeroValue3 _) w.heap.size k D rfl HOWN2.out _ (.string d.path) rfl HKEY.out ?_; intro c hat hwc; obtain rfl : c = 0 := (by have h1 := (HNOT.out.2 d.path).symm.trans hat; simp only [DataW.lit.injEq, Lit.int.injEq, true_and] at h1; rw [← h1]; exact HSP.out.symm)) | (at_mapUpdate; refine wpList_mapUpdate_own _ rfl _ _ _ 119 rfl 9 3 (Maps.string_keyed Tryz.underlying9) Tryz.underlying119 (plainElem Tryz.prog 3) w.heap.size k D rfl HOWN2.out (by unfold maxLen; omega) _ _ (.string d.path) rfl rfl HKEY.out (.lit (.int .i64 d.kind)) [] (plainElem_int Tryz.underlying3 HWF.out) ?_; intro w5 hown5 hgrow5))
            go_roundw
            case rel => exact ⟨k + 1, d.kind, Plan.upd s d.path d.kind, D.put (.string d.path) (.lit (.int .i64 d.kind)), rfl, by go_num, by omega, by omega, HCH.out, notes_put HNOT.out _ _, hown5, HB2.out.grown hgrow5 hz0 (fun g e => by cases e; exact Nat.le_refl _)⟩
            case measure => simp [intOf]; omega
          · have HCH : Hid (Plan.ok ds = Plan.chk d.kind (Plan.upd s d.path (-1)) (ds.drop (k + 1))) := Lib.hid (by
              rw [HCONS.out, HOKD.out, ← HSP.out]; simp [Plan.fits, Plan.note, h3])
            have q3 : (d.kind == 3) = true := by rw [beq_iff_eq]; exact h3
            have H3 := Lib.hid h3
            clear h3
            go_wp2_with fail
            refine (path_any (bs d.path) HPSZ.out _).mono ?_
            rintro e w2 ⟨rfl, hb2⟩
            rw [bs_list, hpo]
            obtain ⟨hc2, hf2⟩ := bcell hb2
            have hzz : wr.heap.size < w2.heap.size := by have := hb2.size; simp at this; omega
            have hz0 : w.heap.size ≤ w2.heap.size := by omega
            have HB2 : Hid (Below w.heap.size w w2) := Lib.hid (by refine hBr.trans (Below.trans ?_ (hb2.mono ?_)) <;> go_grown)
            have HOWN2 := Lib.hid ((HOWN.out.kept (World.grownBy_alloc wr (.cells (dcells d) 39) none) (by simp)).kept (Below.grow hb2) (by simp))
            go_wp2_with fail
            refine (HPRE.out _).mono ?_
            rintro e w3 ⟨rfl, rfl⟩
            rw [hpp]
            go_wp2_with (first | (at_lookup; refine wpList_lookup_own_int _ rfl _ _ 119 rfl 9 3 .i64 (Maps.string_keyed Tryz.underlying9) Tryz.underlying119 Tryz.underlying3 (Tryz.zeroValue3 _) w.heap.size k D rfl HOWN2.out _ (.string d.path) rfl HKEY.out ?_; intro c hat hwc; obtain rfl : c = 1 := (by have h1 := (HNOT.out.2 d.path).symm.trans hat; simp only [DataW.lit.injEq, Lit.int.injEq, true_and] at h1; rw [← h1]; exact HSP.out.symm)) | (at_mapUpdate; refine wpList_mapUpdate_own _ rfl _ _ _ 119 rfl 9 3 (Maps.string_keyed Tryz.underlying9) Tryz.underlying119 (plainElem Tryz.prog 3) w.heap.size k D rfl HOWN2.out (by unfold maxLen; omega) _ _ (.string d.path) rfl rfl HKEY.out (.lit (.int .i64 (-1))) [] (plainElem_int Tryz.underlying3 HWM.out) ?_; intro w5 hown5 hgrow5))
            go_roundw
            case rel => exact ⟨k + 1, d.kind, Plan.upd s d.path (-1), D.put (.string d.path) (.lit (.int .i64 (-1))), rfl, by go_num, by omega, by omega, HCH.out, notes_put HNOT.out _ _, hown5, HB2.out.grown hgrow5 hz0 (fun g e => by cases e; exact Nat.le_refl _)⟩
            case measure => simp [intOf]; omega
          · try exact absurd h4 HK4.out
            all_goals
              have HCH : Hid (Plan.ok ds = Plan.chk d.kind (Plan.upd s d.path (-1)) (ds.drop (k + 1))) := Lib.hid (by
                rw [HCONS.out, HOKD.out, ← HSP.out]; simp [Plan.fits, Plan.note, h4])
              have q44 : (d.kind == 4) = true := by rw [beq_iff_eq]; exact h4
              have H4 := Lib.hid h4
              clear h4
              go_wp2_with fail
              refine (path_any (bs d.path) HPSZ.out _).mono ?_
              rintro e w2 ⟨rfl, hb2⟩
              rw [bs_list, hpo]
              obtain ⟨hc2, hf2⟩ := bcell hb2
              have hzz : wr.heap.size < w2.heap.size := by have := hb2.size; simp at this; omega
              have hz0 : w.heap.size ≤ w2.heap.size := by omega
              have HB2 : Hid (Below w.heap.size w w2) := Lib.hid (by refine hBr.trans (Below.trans ?_ (hb2.mono ?_)) <;> go_grown)
              have HOWN2 := Lib.hid ((HOWN.out.kept (World.grownBy_alloc wr (.cells (dcells d) 39) none) (by simp)).kept (Below.grow hb2) (by simp))
              go_wp2_with fail
              refine (HPRE.out _).mono ?_
              rintro e w3 ⟨rfl, rfl⟩
              rw [hpp]
              go_wp2_with (first | (at_lookup; refine wpList_lookup_own_int _ rfl _ _ 119 rfl 9 3 .i64 (Maps.string_keyed Tryz.underlying9) Tryz.underlying119 Tryz.underlying3 (Tryz.zeroValue3 _) w.heap.size k D rfl HOWN2.out _ (.string d.path) rfl HKEY.out ?_; intro c hat hwc; obtain rfl : c = 2 := (by have h1 := (HNOT.out.2 d.path).symm.trans hat; simp only [DataW.lit.injEq, Lit.int.injEq, true_and] at h1; rw [← h1]; exact HSP.out.symm)) | (at_mapUpdate; refine wpList_mapUpdate_own _ rfl _ _ _ 119 rfl 9 3 (Maps.string_keyed Tryz.underlying9) Tryz.underlying119 (plainElem Tryz.prog 3) w.heap.size k D rfl HOWN2.out (by unfold maxLen; omega) _ _ (.string d.path) rfl rfl HKEY.out (.lit (.int .i64 (-1))) [] (plainElem_int Tryz.underlying3 HWM.out) ?_; intro w5 hown5 hgrow5))
              go_roundw
              case rel => exact ⟨k + 1, d.kind, Plan.upd s d.path (-1), D.put (.string d.path) (.lit (.int .i64 (-1))), rfl, by go_num, by omega, by omega, HCH.out, notes_put HNOT.out _ _, hown5, HB2.out.grown hgrow5 hz0 (fun g e => by cases e; exact Nat.le_refl _)⟩
              case measure => simp [intOf]; omega
          · have HF : Hid (Plan.code ds = 44) := Lib.hid (Plan.code_no (by rw [HCONS.out, HOKD.out, ← HSP.out]; simp [Plan.fits, h3]))
            have q3 : (d.kind == 3) = false := by rw [beq_eq_false_iff_ne]; exact h3
            have H3 := Lib.hid h3
            clear h3
            go_wp2_with fail
            refine (path_any (bs d.path) HPSZ.out _).mono ?_
            rintro e w2 ⟨rfl, hb2⟩
            rw [bs_list, hpo]
            obtain ⟨hc2, hf2⟩ := bcell hb2
            have hzz : wr.heap.size < w2.heap.size := by have := hb2.size; simp at this; omega
            have hz0 : w.heap.size ≤ w2.heap.size := by omega
            have HB2 : Hid (Below w.heap.size w w2) := Lib.hid (by refine hBr.trans (Below.trans ?_ (hb2.mono ?_)) <;> go_grown)
            have HOWN2 := Lib.hid ((HOWN.out.kept (World.grownBy_alloc wr (.cells (dcells d) 39) none) (by simp)).kept (Below.grow hb2) (by simp))
            go_wp2_with fail
            refine (HPRE.out _).mono ?_
            rintro e w3 ⟨rfl, rfl⟩
            rw [hpp]
            go_wp2_with (first | (at_lookup; refine wpList_lookup_own_int _ rfl _ _ 119 rfl 9 3 .i64 (Maps.string_keyed Tryz.underlying9) Tryz.underlying119 Tryz.underlying3 (Tryz.zeroValue3 _) w.heap.size k D rfl HOWN2.out _ (.string d.path) rfl HKEY.out ?_; intro c hat hwc; obtain rfl : c = 1 := (by have h1 := (HNOT.out.2 d.path).symm.trans hat; simp only [DataW.lit.injEq, Lit.int.injEq, true_and] at h1; rw [← h1]; exact HSP.out.symm)))
            go_returns
            exact ⟨by rw [HF.out]; rfl, HB2.out⟩
          · try exact absurd HK4.out h4
            all_goals
              have HF : Hid (Plan.code ds = 44) := Lib.hid (Plan.code_no (by rw [HCONS.out, HOKD.out, ← HSP.out]; simp [Plan.fits, h4]))
              have q44 : (d.kind == 4) = false := by rw [beq_eq_false_iff_ne]; exact h4
              have H4 := Lib.hid h4
              clear h4
              go_wp2_with fail
              refine (path_any (bs d.path) HPSZ.out _).mono ?_
              rintro e w2 ⟨rfl, hb2⟩
              rw [bs_list, hpo]
              obtain ⟨hc2, hf2⟩ := bcell hb2
              have hzz : wr.heap.size < w2.heap.size := by have := hb2.size; simp at this; omega
              have hz0 : w.heap.size ≤ w2.heap.size := by omega
              have HB2 : Hid (Below w.heap.size w w2) := Lib.hid (by refine hBr.trans (Below.trans ?_ (hb2.mono ?_)) <;> go_grown)
              have HOWN2 := Lib.hid ((HOWN.out.kept (World.grownBy_alloc wr (.cells (dcells d) 39) none) (by simp)).kept (Below.grow hb2) (by simp))
              go_wp2_with fail
              refine (HPRE.out _).mono ?_
              rintro e w3 ⟨rfl, rfl⟩
              rw [hpp]
              go_wp2_with (first | (at_lookup; refine wpList_lookup_own_int _ rfl _ _ 119 rfl 9 3 .i64 (Maps.string_keyed Tryz.underlying9) Tryz.underlying119 Tryz.underlying3 (Tryz.zeroValue3 _) w.heap.size k D rfl HOWN2.out _ (.string d.path) rfl HKEY.out ?_; intro c hat hwc; obtain rfl : c = 2 := (by have h1 := (HNOT.out.2 d.path).symm.trans hat; simp only [DataW.lit.injEq, Lit.int.injEq, true_and] at h1; rw [← h1]; exact HSP.out.symm)))
              go_returns
              exact ⟨by rw [HF.out]; rfl, HB2.out⟩
          · have HF : Hid (Plan.code ds = 44) := Lib.hid (Plan.code_no (by rw [HCONS.out, HOKD.out, ← HSP.out]; simp [Plan.fits, h0, h1, h2]))
            have q0 : (sp == 0) = false := by rw [beq_eq_false_iff_ne]; exact h0
            have q1 : (sp == 1) = false := by rw [beq_eq_false_iff_ne]; exact h1
            have q2 : (sp == 2) = false := by rw [beq_eq_false_iff_ne]; exact h2
            go_wp2_with fail
            refine (path_any (bs d.path) HPSZ.out _).mono ?_
            rintro e w2 ⟨rfl, hb2⟩
            rw [bs_list, hpo]
            obtain ⟨hc2, hf2⟩ := bcell hb2
            have hzz : wr.heap.size < w2.heap.size := by have := hb2.size; simp at this; omega
            have hz0 : w.heap.size ≤ w2.heap.size := by omega
            have HB2 : Hid (Below w.heap.size w w2) := Lib.hid (by refine hBr.trans (Below.trans ?_ (hb2.mono ?_)) <;> go_grown)
            have HOWN2 := Lib.hid ((HOWN.out.kept (World.grownBy_alloc wr (.cells (dcells d) 39) none) (by simp)).kept (Below.grow hb2) (by simp))
            go_wp2_with fail
            refine (HPRE.out _).mono ?_
            rintro e w3 ⟨rfl, rfl⟩
            rw [hpp]
            go_wp2_with (first | (at_lookup; refine wpList_lookup_own_int _ rfl _ _ 119 rfl 9 3 .i64 (Maps.string_keyed Tryz.underlying9) Tryz.underlying119 Tryz.underlying3 (Tryz.zeroValue3 _) w.heap.size k D rfl HOWN2.out _ (.string d.path) rfl HKEY.out ?_; intro c hat hwc; obtain rfl : c = sp := (by have h1 := (HNOT.out.2 d.path).symm.trans hat; simp only [DataW.lit.injEq, Lit.int.injEq, true_and] at h1; rw [← h1]; exact HSP.out.symm)))
            go_returns
            exact ⟨by rw [HF.out]; rfl, HB2.out⟩
    · have hnil : ds.drop k = [] := List.drop_eq_nil_iff.2 (by have := HN.out; omega)
      have HOK : Hid (Plan.code ds = 0) := Lib.hid (Plan.code_yes (by rw [HCHK.out, hnil]; rfl))
      clear hnil
      go_wp2
      go_returns
      exact ⟨by rw [HOK.out]; rfl, hBr⟩
end Go.Proofs.YtdogacgpfnolfaaGreatDoor.PL
