/- Rows of raw writes, and lists compared. -/
import Derived.Test.YtdogacgpfnolfaaGreatDoorDiskK
import Derived.BigQuiet
import Derived.Deep.QuietTactic
namespace Go.Proofs.YtdogacgpfnolfaaGreatDoor
open Go.RowKit
set_option linter.unusedSimpArgs false
set_option linter.unusedVariables false
/-- The slice v has the raw writes ds, in blocks below B. -/
structure Rws (w : World) (B : Nat) (v : Value) (ds : List Disk.Rw) : Prop where
  is : ∃ a cap, v = .slice a ds.length cap ∧ ∀ (i : Nat) d, ds[i]? = some d → ∃ bk o, a = some ⟨bk, o, none⟩ ∧ bk < B ∧
    w.cell? ⟨bk, o + i * 3, none⟩ = some (.int .i64 d.kind) ∧ w.cell? ⟨bk, o + i * 3 + 1, none⟩ = some (.string (bs d.path)) ∧ w.cell? ⟨bk, o + i * 3 + 2, none⟩ = some (.string (bs d.to))
theorem Rws.form {w : World} {B : Nat} {v : Value} {ds : List Disk.Rw} (h : Rws w B v ds) : ∃ a cap, v = .slice a ds.length cap := by
  obtain ⟨a, cap, rfl, _⟩ := h.is
  exact ⟨a, cap, rfl⟩
theorem Rws.at {w : World} {B : Nat} {v : Value} {ds : List Disk.Rw} (h : Rws w B v ds) (hn : 0 < ds.length) : ∃ bk o cap, v = .slice (some ⟨bk, o, none⟩) ds.length cap ∧ bk < B ∧ ∀ (i : Nat) d, ds[i]? = some d →
    w.cell? ⟨bk, o + i * 3, none⟩ = some (.int .i64 d.kind) ∧ w.cell? ⟨bk, o + i * 3 + 1, none⟩ = some (.string (bs d.path)) ∧ w.cell? ⟨bk, o + i * 3 + 2, none⟩ = some (.string (bs d.to)) := by
  obtain ⟨a, cap, rfl, hc⟩ := h.is
  obtain ⟨bk, o, ha, hB, _⟩ := hc 0 ds[0] (List.getElem?_eq_getElem hn)
  subst ha
  refine ⟨bk, o, cap, rfl, hB, fun i d hd => ?_⟩
  obtain ⟨bk', o', ha', _, h1, h2, h3⟩ := hc i d hd
  cases ha'
  exact ⟨h1, h2, h3⟩
theorem Rws.below {w w' : World} {n B : Nat} {v : Value} {ds : List Disk.Rw} (h : Rws w B v ds) (hb : Below n w w') (hB : B ≤ n) : Rws w' B v ds := by
  obtain ⟨a, cap, rfl, hc⟩ := h.is
  refine ⟨a, cap, rfl, fun i d hd => ?_⟩
  obtain ⟨bk, o, ha, hb', h1, h2, h3⟩ := hc i d hd
  refine ⟨bk, o, ha, hb', ?_, ?_, ?_⟩
  · rw [hb.cell (p := ⟨bk, o + i * 3, none⟩) (by show bk < n; omega)]; exact h1
  · rw [hb.cell (p := ⟨bk, o + i * 3 + 1, none⟩) (by show bk < n; omega)]; exact h2
  · rw [hb.cell (p := ⟨bk, o + i * 3 + 2, none⟩) (by show bk < n; omega)]; exact h3
theorem rwCells_at : ∀ (ds : List Disk.Rw) (i : Nat) (d : Disk.Rw), ds[i]? = some d → (ds.flatMap rwCells)[i * 3]? = some (.int .i64 d.kind) ∧ (ds.flatMap rwCells)[i * 3 + 1]? = some (.string (bs d.path)) ∧ (ds.flatMap rwCells)[i * 3 + 2]? = some (.string (bs d.to))
  | [], i, d, h => by simp at h
  | x :: r, 0, d, h => by simp at h; subst h; exact ⟨rfl, rfl, rfl⟩
  | x :: r, i + 1, d, h => by
    have ih := rwCells_at r i d (by simpa using h)
    have e : ∀ j, ((x :: r).flatMap rwCells)[j + 3]? = (r.flatMap rwCells)[j]? := fun j => rfl
    rw [show (i + 1) * 3 = i * 3 + 3 by omega, show i * 3 + 3 + 1 = (i * 3 + 1) + 3 by omega, show i * 3 + 3 + 2 = (i * 3 + 2) + 3 by omega, e, e, e]
    exact ih
theorem RwRow.rws {w : World} {base : Nat} {v : Value} {ds : List Disk.Rw} (h : RwRow w base v ds) : Rws w w.heap.size v ds := by
  rcases h.2 with ⟨rfl, h0⟩ | ⟨g, cap, cur, rfl, hb, hg, hnc, _⟩
  · have : ds = [] := List.length_eq_zero_iff.1 h0
    subst this
    exact ⟨none, 0, rfl, fun i d h => by simp at h⟩
  · have hgs : g < w.heap.size := (Array.getElem?_eq_some_iff.1 hg).1
    refine ⟨some ⟨g, 0, none⟩, cap, rfl, fun i d hd => ⟨g, 0, rfl, hgs, ?_⟩⟩
    have hi := (List.getElem?_eq_some_iff.1 hd).1
    obtain ⟨h1, h2, h3⟩ := rwCells_at ds i d hd
    simp only [Nat.zero_add]
    exact ⟨by rw [World.ownsRow.cellAt h _ (by omega)]; exact h1, by rw [World.ownsRow.cellAt h _ (by omega)]; exact h2, by rw [World.ownsRow.cellAt h _ (by omega)]; exact h3⟩
theorem Rws.mono {w : World} {B B' : Nat} {v : Value} {ds : List Disk.Rw} (h : Rws w B v ds) (hB : B ≤ B') : Rws w B' v ds := by
  obtain ⟨a, cap, rfl, hc⟩ := h.is
  refine ⟨a, cap, rfl, fun i d hd => ?_⟩
  obtain ⟨bk, o, ha, hb', h1⟩ := hc i d hd
  exact ⟨bk, o, ha, by omega, h1⟩
theorem rawStruct : Tryz.prog.underlying 37 = some (.struct (Tryz.prog.fieldsOf 37)) := by kernel_rfl
theorem rawFields : (Tryz.prog.fieldsOf 37).toList.map (fun f => (f.name, f.type, f.offset)) = [("Kind", 3, 0), ("Path", 9, 1), ("To", 9, 2)] := by kernel_rfl
def sameR (x y : Disk.Rw) : Bool := decide (x = y)
@[go_sem high] theorem rawGuard1 (w : World) (x y : Operand) (xs ys : Array Value) : (eqGuard .eql 37 x y (.agg xs) (.agg ys)).run Tryz.prog w = .ok () w :=
  run_eqGuard_agg w .eql 37 x y xs ys (by kernel_rfl)
@[go_sem high] theorem rawGuard2 (w : World) (x y : Operand) (xs ys : Array Value) : (eqGuard .neq 37 x y (.agg xs) (.agg ys)).run Tryz.prog w = .ok () w :=
  run_eqGuard_agg w .neq 37 x y xs ys (by kernel_rfl)
theorem rawEqual (w : World) (x y : Disk.Rw) : (Op.equalIn 10000 37 (.agg #[.int .i64 x.kind, .string (bs x.path), .string (bs x.to)]) (.agg #[.int .i64 y.kind, .string (bs y.path), .string (bs y.to)])).run Tryz.prog w = .ok (sameR x y) w := by
  have hs := rawFields
  rw [run_equalIn_agg w 9999 37 _ _ rawStruct (by kernel_rfl)]
  generalize (Tryz.prog.fieldsOf 37).toList = fs at hs
  obtain ⟨xk, xp, xd⟩ := x
  obtain ⟨yk, yp, yd⟩ := y
  rcases fs with _ | ⟨f1, _ | ⟨g, _ | ⟨h, _ | ⟨k, l⟩⟩⟩⟩
  case cons.cons.cons.nil =>
    simp only [List.map_cons, List.map_nil, List.cons.injEq, Prod.mk.injEq, and_true] at hs
    obtain ⟨⟨n1, t1, o1⟩, ⟨n2, t2, o2⟩, ⟨n3, t3, o3⟩⟩ := hs
    by_cases ha : xk = yk <;> by_cases hb : xp = yp <;> by_cases hc : xd = yd <;>
      simp [Op.eqFields, n1, t1, o1, n2, t2, o2, n3, t3, o3, go_sem, sameR, ha, hb, hc, eqInt, eqStr]
  all_goals simp at hs
@[go_sem high] theorem rawEql (w : World) (x y : Disk.Rw) : (binOp .eql 37 (.agg #[.int .i64 x.kind, .string (bs x.path), .string (bs x.to)]) (.agg #[.int .i64 y.kind, .string (bs y.path), .string (bs y.to)])).run Tryz.prog w = .ok (.bool (sameR x y)) w := by
  rw [run_eql_struct, rawEqual]
  rfl
@[go_sem high] theorem rawNeq (w : World) (x y : Disk.Rw) : (binOp .neq 37 (.agg #[.int .i64 x.kind, .string (bs x.path), .string (bs x.to)]) (.agg #[.int .i64 y.kind, .string (bs y.path), .string (bs y.to)])).run Tryz.prog w = .ok (.bool (!sameR x y)) w := by
  rw [run_neq_struct, rawEqual]
  rfl
set_option maxHeartbeats 2000000 in
set_option maxRecDepth 100000 in
/-- The two lists of files are the same. -/
theorem files_any {w : World} {B : Nat} {v1 v2 : Value} {ds : List Disk.Fl} (h1 : Files w B v1 ds) (h2 : Files w B v2 ds) (hn : ds.length ≤ 4398046511104) :
    Calls Tryz.prog 16 #[v1, v2] w fun e w' => e = .returned (.bool true) ∧ ∃ m, w' = w.drewN m := by
  obtain ⟨a1, c1, rfl⟩ := h1.form
  obtain ⟨a2, c2, rfl⟩ := h2.form
  obtain ⟨N, hN⟩ : ∃ N, N = ds.length := ⟨_, rfl⟩
  have H1 := Lib.hid h1
  have H2 := Lib.hid h2
  rw [← hN] at hn ⊢
  have HN := Lib.hid hN
  clear h1 h2 hN
  go_enter Tryz.func16, Tryz.ntmps16
  go_wp2
  go_loopw [5] (fun q wr => ∃ i m : Nat, q = .int .i64 i ∧ i ≤ N ∧ wr = w.drewN m) (fun q _ => N - (intOf q).toNat)
  case atStart => exact ⟨0, 0, rfl, by omega, rfl⟩
  case round =>
    obtain ⟨i, m, rfl, hi, rfl⟩ := hrel
    by_cases hiN : i < N
    · obtain ⟨d, hd⟩ : ∃ d, ds[i]? = some d := ⟨_, List.getElem?_eq_getElem (by have := HN.out; omega)⟩
      obtain ⟨b1, o1, cap1, hv1, hb1, hc1⟩ := H1.out.at (by have := HN.out; omega)
      obtain ⟨b2, o2, cap2, hv2, hb2, hc2⟩ := H2.out.at (by have := HN.out; omega)
      rw [← HN.out] at hv1 hv2
      cases hv1
      cases hv2
      obtain ⟨x1, x2, x3⟩ := hc1 i d hd
      obtain ⟨y1, y2, y3⟩ := hc2 i d hd
      have hiI : (i : Int) < (N : Int) := by omega
      have hdn := fun w => fileNeq w d d
      have hsd : sameF d d = true := by unfold sameF; simp
      rw [hsd] at hdn
      clear hc1 hc2 hd hsd
      go_wp2
      go_big_quiet (fail)
      go_wp2
      go_roundw
      case rel => exact ⟨i + 1, _, by go_num, by omega, rfl⟩
      case measure => simp [intOf]; omega
    · go_wp2
      go_returns
      exact ⟨rfl, _, rfl⟩
end Go.Proofs.YtdogacgpfnolfaaGreatDoor
