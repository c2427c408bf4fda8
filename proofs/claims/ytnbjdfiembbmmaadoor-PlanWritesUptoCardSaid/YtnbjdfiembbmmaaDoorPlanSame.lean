/- Are two lists of deeds the same? -/
import Derived.Test.YtnbjdfiembbmmaaDoorPlanP
import Derived.Test.YtnbjdfiembbmmaaDoorScanA
import Derived.Laws.StructEq
import Derived.Handy
import Derived.WalkMore
import Derived.WalkLawsBesides
import Derived.WalkSpells
import Derived.Outline
import Derived.Lib.Hide
import Derived.BigQuiet
namespace Go.Proofs.YtnbjdfiembbmmaaDoor
open Go.RowKit
set_option linter.unusedSimpArgs false
set_option linter.unusedVariables false
theorem deedStruct : Tryd.prog.underlying 54 = some (.struct (Tryd.prog.fieldsOf 54)) := by kernel_rfl
theorem deedFields : (Tryd.prog.fieldsOf 54).toList.map (fun f => (f.name, f.type, f.offset)) = [("Kind", 3, 0), ("Path", 9, 1), ("Data", 9, 2)] := by kernel_rfl
/-- Are two deeds the same? -/
def sameD (x y : Plan.D) : Bool := decide (x = y)
@[go_sem high] theorem deedGuard (w : World) (x y : Operand) (xs ys : Array Value) : (eqGuard .neq 54 x y (.agg xs) (.agg ys)).run Tryd.prog w = .ok () w :=
  run_eqGuard_agg w .neq 54 x y xs ys (by kernel_rfl)
theorem bs_inj {a b : List UInt8} (h : bs a = bs b) : a = b := by
  have := congrArg (fun s : ByteArray => s.data.toList) h
  exact this
theorem deedEqual (w : World) (x y : Plan.D) : (Op.equalIn 10000 54 (.agg #[.int .i64 x.kind, .string (bs x.path), .string (bs x.data)]) (.agg #[.int .i64 y.kind, .string (bs y.path), .string (bs y.data)])).run Tryd.prog w = .ok (sameD x y) w := by
  have hs := deedFields
  have e : ∀ w (a b : Int), (Op.equalIn 9999 3 (.int .i64 a) (.int .i64 b)).run Tryd.prog w = .ok (a == b) w := fun w a b => run_equalIn_int w 9998 3 _ _ a b Tryd.underlying3
  have f : ∀ w (a b : List UInt8), (Op.equalIn 9999 9 (.string (bs a)) (.string (bs b))).run Tryd.prog w = .ok (decide (a = b)) w := fun w a b => by
    have := run_equalIn_string (P := Tryd.prog) w 9998 9 (bs a) (bs b) Tryd.underlying9
    rw [sv_inj] at this
    exact this
  rw [run_equalIn_agg w 9999 54 _ _ deedStruct (by kernel_rfl)]
  generalize (Tryd.prog.fieldsOf 54).toList = fs at hs
  obtain ⟨xk, xp, xd⟩ := x
  obtain ⟨yk, yp, yd⟩ := y
  rcases fs with _ | ⟨f1, _ | ⟨g, _ | ⟨h, _ | ⟨k, l⟩⟩⟩⟩
  case cons.cons.cons.nil =>
    simp only [List.map_cons, List.map_nil, List.cons.injEq, Prod.mk.injEq, and_true] at hs
    obtain ⟨⟨n1, t1, o1⟩, ⟨n2, t2, o2⟩, ⟨n3, t3, o3⟩⟩ := hs
    by_cases ha : xk = yk <;> by_cases hb : xp = yp <;> by_cases hc : xd = yd <;>
      simp [Op.eqFields, n1, t1, o1, n2, t2, o2, n3, t3, o3, go_sem, sameD, ha, hb, hc, e, f]
  all_goals simp at hs
/-- 'v != u' of two deeds. -/
@[go_sem high] theorem deedNeq (w : World) (x y : Plan.D) : (binOp .neq 54 (.agg #[.int .i64 x.kind, .string (bs x.path), .string (bs x.data)]) (.agg #[.int .i64 y.kind, .string (bs y.path), .string (bs y.data)])).run Tryd.prog w = .ok (.bool (!sameD x y)) w := by
  rw [run_neq_struct, deedEqual]
  rfl
set_option maxHeartbeats 1000000 in
set_option maxRecDepth 100000 in
theorem sameD_any {w : World} {B : Nat} {v1 v2 : Value} {la lb : List Plan.D} (h1 : Deeds w B v1 la) (h2 : Deeds w B v2 lb) (hs1 : la.length ≤ 9223372036854775807) (hs2 : lb.length ≤ 9223372036854775807) :
    Calls Tryd.prog 18 #[v1, v2] w fun e w' => e = .returned (.bool (decide (la = lb))) ∧ ∃ m, w' = w.drewN m := by
  by_cases hl : la.length = lb.length
  · have hlen : (((la.length : Nat) : Int) == ((lb.length : Nat) : Int)) = true := by simp [hl]
    rcases Nat.eq_zero_or_pos la.length with h0 | hp
    · have ha : la = [] := List.length_eq_zero_iff.1 h0
      have hb : lb = [] := List.length_eq_zero_iff.1 (by omega)
      subst ha hb
      obtain ⟨a1, c1, rfl⟩ := h1.form
      obtain ⟨a2, c2, rfl⟩ := h2.form
      clear hlen hl
      go_enter Tryd.func18, Tryd.ntmps18
      go_wp2
      refine wp_loop_rounds 1 ?_
      rw [rounds_succ]
      go_wp2
      go_returns
      exact ⟨by simp, 0, rfl⟩
    · obtain ⟨b1, o1, c1, rfl, hB1, hc1⟩ := h1.at hp
      obtain ⟨b2, o2, c2, rfl, hB2, hc2⟩ := h2.at (by omega)
      have HC1 := Lib.hid hc1
      have HC2 := Lib.hid hc2
      have HL := Lib.hid hl
      clear hc1 hc2 h1 h2 hl
      go_enter Tryd.func18, Tryd.ntmps18
      go_wp2
      go_loopw [5] (fun p wr => ∃ k : Nat, p = .int .i64 k ∧ k ≤ la.length ∧ la.take k = lb.take k ∧ ∃ m, wr = w.drewN m) (fun p _ => la.length - (intOf p).toNat)
      case atStart => exact ⟨0, rfl, by omega, rfl, 0, rfl⟩
      case round =>
        obtain ⟨k, rfl, hk, htk, m, rfl⟩ := hrel
        have HT := Lib.hid htk
        clear htk
        by_cases hkl : k < la.length
        · obtain ⟨x, hx⟩ : ∃ x, la[k]? = some x := ⟨_, List.getElem?_eq_getElem hkl⟩
          obtain ⟨y, hy⟩ : ∃ y, lb[k]? = some y := ⟨_, List.getElem?_eq_getElem (by have := HL.out; omega)⟩
          obtain ⟨e1, e2, e3⟩ := HC1.out k x hx
          obtain ⟨f1, f2, f3⟩ := HC2.out k y hy
          have HX := Lib.hid (And.intro hx hy)
          have hkb : k < lb.length := by have := HL.out; omega
          clear hx hy
          by_cases hxy : x = y
          · have hq : sameD x y = true := by simp [sameD, hxy]
            have HXY := Lib.hid hxy
            clear hxy
            go_wp2
            go_quiet (fail)
            go_wp2
            go_roundw
            case rel => exact ⟨k + 1, by go_num, by omega, take_next HT.out HX.out.1 HX.out.2 HXY.out, m + nq, by first | rfl | rw [World.drewN_drewN]⟩
            case measure => simp [intOf]; omega
          · have hq : sameD x y = false := by simp [sameD, hxy]
            have hne : decide (la = lb) = false := by simp [take_ne_of HX.out.1 HX.out.2 hxy]
            have HN := Lib.hid hne
            clear hne
            go_wp2
            go_quiet (fail)
            go_wp2
            go_returns
            exact ⟨by rw [HN.out]; rfl, m + nq, by first | rfl | rw [World.drewN_drewN]⟩
        · have hne : decide (la = lb) = true := by simp [take_eq_of HL.out HT.out (by omega)]
          have HN := Lib.hid hne
          clear hne
          go_wp2
          go_returns
          exact ⟨by rw [HN.out]; rfl, m, rfl⟩
  · have hlen : (((la.length : Nat) : Int) == ((lb.length : Nat) : Int)) = false := by rw [beq_eq_false_iff_ne]; omega
    obtain ⟨a1, c1, rfl⟩ := h1.form
    obtain ⟨a2, c2, rfl⟩ := h2.form
    have hne : decide (la = lb) = false := by
      simp only [decide_eq_false_iff_not]; rintro rfl; exact hl rfl
    have HN := Lib.hid hne
    clear hne h1 h2 hl
    go_enter Tryd.func18, Tryd.ntmps18
    go_wp2
    go_returns
    exact ⟨by rw [HN.out]; rfl, 0, rfl⟩
end Go.Proofs.YtnbjdfiembbmmaaDoor
