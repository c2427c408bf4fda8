/- The walk of Parse of the program, way by way: which piece is read, which is not. -/
import Derived.Test.YthbepoeohjddnaaDoorEnv
import Derived.Test.YthbepoeohjddnaaDoorCuts
import Derived.Test.YthbepoeohjddnaaDoorVersWalks2
namespace Go.Proofs.YthbepoeohjddnaaDoor
open Go.RowKit
set_option linter.unusedSimpArgs false
set_option linter.unusedVariables false
/-- s cut at its dots. -/
def pieces (s : ByteArray) : List ByteArray := Go.Lib.splitB ⟨#[46]⟩ 0 (Go.Lib.countB s ⟨#[46]⟩) s
theorem pieces_length (s : ByteArray) : (pieces s).length = Go.Lib.countB s ⟨#[46]⟩ + 1 := Go.Lib.splitB_all ⟨#[46]⟩ (by decide) 0 _ s rfl
set_option maxHeartbeats 4000000 in
set_option maxRecDepth 100000 in
theorem parse_b (s p0 p1 p2 : ByteArray) (hs : s.size ≤ 1048576) (hp : pieces s = [p0, p1, p2]) (hp0 : p0.size ≤ s.size) (hp1 : p1.size ≤ s.size) (hp2 : p2.size ≤ s.size) (h0 : ∀ v, Go.Lib.atoiAll p0.data.toList ≠ .ok v) (w : World) (hE : Env w) :
    Calls Tryd.prog 23 #[.string s] w fun e w' => e = .returned (.tuple #[.agg #[.int .i64 0, .int .i64 0, .int .i64 0], .bool false]) ∧ Below w.heap.size w w' := by
  have hn : Go.Lib.countB s ⟨#[46]⟩ = 2 := by have := pieces_length s; rw [hp] at this; simp at this; omega
  have HN := Lib.hid hn
  have HP : Hid (Go.Lib.splitB ⟨#[46]⟩ 0 (Go.Lib.countB s ⟨#[46]⟩) s = [p0, p1, p2]) := hp
  have HE := Lib.hid hE
  clear hn hp hE
  have H0 := Lib.hid h0
  clear h0
  go_enter Tryd.func23, Tryd.ntmps23
  go_wp2_with fail
  refine (Split_any s 46 (by omega) _ (HE.out.to (by go_grown))).mono ?_
  rintro e w0 ⟨rfl, rfl⟩
  rw [HP.out, HN.out]
  go_wp2_with fail
  refine wp_loop_rounds 4 ?_
  rw [rounds_succ]
  go_wp2_with fail
  refine (Atoi_bad p0 (by omega) H0.out _ (HE.out.to (by go_grown))).mono ?_
  rintro e w1 ⟨v, p, rfl, hb1⟩
  have B1 : Below w.heap.size w w1 := by refine Below.trans ?_ (hb1.mono ?_) <;> go_grown
  obtain ⟨hc1, hf1⟩ := bcell hb1
  have hz10 : w.heap.size < w1.heap.size := by have := hb1.size; (try simp at this); omega
  have hz11 : w.heap.size + 1 < w1.heap.size := by have := hb1.size; (try simp at this); omega
  have hz12 : w.heap.size + 2 < w1.heap.size := by have := hb1.size; (try simp at this); omega
  clear hb1
  have q0 : w1.cell? ⟨w.heap.size, 0, none⟩ = some (.int .i64 0) := by go_cell
  have f0 : w1.frozen? ⟨w.heap.size, 0, none⟩ = false := by go_cell
  have q1 : w1.cell? ⟨w.heap.size, 1, none⟩ = some (.int .i64 0) := by go_cell
  have f1 : w1.frozen? ⟨w.heap.size, 1, none⟩ = false := by go_cell
  have q2 : w1.cell? ⟨w.heap.size, 2, none⟩ = some (.int .i64 0) := by go_cell
  have f2 : w1.frozen? ⟨w.heap.size, 2, none⟩ = false := by go_cell
  go_wp2_with fail
  refine bodyPost_ret (v := .tuple #[.agg #[.int .i64 0, .int .i64 0, .int .i64 0], .bool false]) ?_ rfl ⟨rfl, by go_grown⟩
  simp [results, Tryd.results23, go_sem, q0, q1, q2, f0, f1, f2]
set_option maxHeartbeats 4000000 in
set_option maxRecDepth 100000 in
theorem parse_m (s p0 p1 p2 : ByteArray) (hs : s.size ≤ 1048576) (hp : pieces s = [p0, p1, p2]) (hp0 : p0.size ≤ s.size) (hp1 : p1.size ≤ s.size) (hp2 : p2.size ≤ s.size) (x0 : Int) (h0 : Go.Lib.atoiAll p0.data.toList = .ok x0) (e0 : ((itext x0).toList == p0.toList) = false) (w : World) (hE : Env w) :
    Calls Tryd.prog 23 #[.string s] w fun e w' => e = .returned (.tuple #[.agg #[.int .i64 0, .int .i64 0, .int .i64 0], .bool false]) ∧ Below w.heap.size w w' := by
  have hn : Go.Lib.countB s ⟨#[46]⟩ = 2 := by have := pieces_length s; rw [hp] at this; simp at this; omega
  have HN := Lib.hid hn
  have HP : Hid (Go.Lib.splitB ⟨#[46]⟩ 0 (Go.Lib.countB s ⟨#[46]⟩) s = [p0, p1, p2]) := hp
  have HE := Lib.hid hE
  clear hn hp hE
  have H0 := Lib.hid h0
  have r0 := Num.atoi_range h0
  clear h0
  go_enter Tryd.func23, Tryd.ntmps23
  go_wp2_with fail
  refine (Split_any s 46 (by omega) _ (HE.out.to (by go_grown))).mono ?_
  rintro e w0 ⟨rfl, rfl⟩
  rw [HP.out, HN.out]
  go_wp2_with fail
  refine wp_loop_rounds 4 ?_
  rw [rounds_succ]
  go_wp2_with fail
  refine (Atoi_ok p0 (by omega) x0 H0.out _).mono ?_
  rintro e w1 ⟨rfl, hb1⟩
  have B1 : Below w.heap.size w w1 := by refine Below.trans ?_ (hb1.mono ?_) <;> go_grown
  obtain ⟨hc1, hf1⟩ := bcell hb1
  have hz10 : w.heap.size < w1.heap.size := by have := hb1.size; (try simp at this); omega
  have hz11 : w.heap.size + 1 < w1.heap.size := by have := hb1.size; (try simp at this); omega
  have hz12 : w.heap.size + 2 < w1.heap.size := by have := hb1.size; (try simp at this); omega
  clear hb1
  go_wp2_with fail
  refine (Itoa_any x0 r0 _ (HE.out.to (by go_grown))).mono ?_
  rintro e w2 ⟨rfl, hb2⟩
  have B2 : Below w.heap.size w w2 := by refine Below.trans ?_ (hb2.mono ?_) <;> go_grown
  clear B1
  obtain ⟨hc2, hf2⟩ := bcell hb2
  have hz20 : w.heap.size < w2.heap.size := by have := hb2.size; (try simp at this); omega
  have hz21 : w.heap.size + 1 < w2.heap.size := by have := hb2.size; (try simp at this); omega
  have hz22 : w.heap.size + 2 < w2.heap.size := by have := hb2.size; (try simp at this); omega
  clear hb2
  have q0 : w2.cell? ⟨w.heap.size, 0, none⟩ = some (.int .i64 0) := by go_cell
  have f0 : w2.frozen? ⟨w.heap.size, 0, none⟩ = false := by go_cell
  have q1 : w2.cell? ⟨w.heap.size, 1, none⟩ = some (.int .i64 0) := by go_cell
  have f1 : w2.frozen? ⟨w.heap.size, 1, none⟩ = false := by go_cell
  have q2 : w2.cell? ⟨w.heap.size, 2, none⟩ = some (.int .i64 0) := by go_cell
  have f2 : w2.frozen? ⟨w.heap.size, 2, none⟩ = false := by go_cell
  go_wp2_with fail
  refine bodyPost_ret (v := .tuple #[.agg #[.int .i64 0, .int .i64 0, .int .i64 0], .bool false]) ?_ rfl ⟨rfl, by go_grown⟩
  simp [results, Tryd.results23, go_sem, q0, q1, q2, f0, f1, f2]
set_option maxHeartbeats 4000000 in
set_option maxRecDepth 100000 in
theorem parse_kb (s p0 p1 p2 : ByteArray) (hs : s.size ≤ 1048576) (hp : pieces s = [p0, p1, p2]) (hp0 : p0.size ≤ s.size) (hp1 : p1.size ≤ s.size) (hp2 : p2.size ≤ s.size) (x0 : Int) (h0 : Go.Lib.atoiAll p0.data.toList = .ok x0) (e0 : ((itext x0).toList == p0.toList) = true) (h1 : ∀ v, Go.Lib.atoiAll p1.data.toList ≠ .ok v) (w : World) (hE : Env w) :
    Calls Tryd.prog 23 #[.string s] w fun e w' => e = .returned (.tuple #[.agg #[.int .i64 0, .int .i64 0, .int .i64 0], .bool false]) ∧ Below w.heap.size w w' := by
  have hn : Go.Lib.countB s ⟨#[46]⟩ = 2 := by have := pieces_length s; rw [hp] at this; simp at this; omega
  have HN := Lib.hid hn
  have HP : Hid (Go.Lib.splitB ⟨#[46]⟩ 0 (Go.Lib.countB s ⟨#[46]⟩) s = [p0, p1, p2]) := hp
  have HE := Lib.hid hE
  clear hn hp hE
  have H0 := Lib.hid h0
  have r0 := Num.atoi_range h0
  clear h0
  have H1 := Lib.hid h1
  clear h1
  go_enter Tryd.func23, Tryd.ntmps23
  go_wp2_with fail
  refine (Split_any s 46 (by omega) _ (HE.out.to (by go_grown))).mono ?_
  rintro e w0 ⟨rfl, rfl⟩
  rw [HP.out, HN.out]
  go_wp2_with fail
  refine wp_loop_rounds 4 ?_
  rw [rounds_succ]
  go_wp2_with fail
  refine (Atoi_ok p0 (by omega) x0 H0.out _).mono ?_
  rintro e w1 ⟨rfl, hb1⟩
  have B1 : Below w.heap.size w w1 := by refine Below.trans ?_ (hb1.mono ?_) <;> go_grown
  obtain ⟨hc1, hf1⟩ := bcell hb1
  have hz10 : w.heap.size < w1.heap.size := by have := hb1.size; (try simp at this); omega
  have hz11 : w.heap.size + 1 < w1.heap.size := by have := hb1.size; (try simp at this); omega
  have hz12 : w.heap.size + 2 < w1.heap.size := by have := hb1.size; (try simp at this); omega
  clear hb1
  go_wp2_with fail
  refine (Itoa_any x0 r0 _ (HE.out.to (by go_grown))).mono ?_
  rintro e w2 ⟨rfl, hb2⟩
  have B2 : Below w.heap.size w w2 := by refine Below.trans ?_ (hb2.mono ?_) <;> go_grown
  clear B1
  obtain ⟨hc2, hf2⟩ := bcell hb2
  have hz20 : w.heap.size < w2.heap.size := by have := hb2.size; (try simp at this); omega
  have hz21 : w.heap.size + 1 < w2.heap.size := by have := hb2.size; (try simp at this); omega
  have hz22 : w.heap.size + 2 < w2.heap.size := by have := hb2.size; (try simp at this); omega
  clear hb2
  go_wp2_with fail
  rw [rounds_succ]
  go_wp2_with fail
  refine (Atoi_bad p1 (by omega) H1.out _ (HE.out.to (by go_grown))).mono ?_
  rintro e w3 ⟨v, p, rfl, hb3⟩
  have B3 : Below w.heap.size w w3 := by refine Below.trans ?_ (hb3.mono ?_) <;> go_grown
  clear B2
  obtain ⟨hc3, hf3⟩ := bcell hb3
  have hz30 : w.heap.size < w3.heap.size := by have := hb3.size; (try simp at this); omega
  have hz31 : w.heap.size + 1 < w3.heap.size := by have := hb3.size; (try simp at this); omega
  have hz32 : w.heap.size + 2 < w3.heap.size := by have := hb3.size; (try simp at this); omega
  clear hb3
  have q0 : w3.cell? ⟨w.heap.size, 0, none⟩ = some (.int .i64 0) := by go_cell
  have f0 : w3.frozen? ⟨w.heap.size, 0, none⟩ = false := by go_cell
  have q1 : w3.cell? ⟨w.heap.size, 1, none⟩ = some (.int .i64 0) := by go_cell
  have f1 : w3.frozen? ⟨w.heap.size, 1, none⟩ = false := by go_cell
  have q2 : w3.cell? ⟨w.heap.size, 2, none⟩ = some (.int .i64 0) := by go_cell
  have f2 : w3.frozen? ⟨w.heap.size, 2, none⟩ = false := by go_cell
  go_wp2_with fail
  refine bodyPost_ret (v := .tuple #[.agg #[.int .i64 0, .int .i64 0, .int .i64 0], .bool false]) ?_ rfl ⟨rfl, by go_grown⟩
  simp [results, Tryd.results23, go_sem, q0, q1, q2, f0, f1, f2]
set_option maxHeartbeats 4000000 in
set_option maxRecDepth 100000 in
theorem parse_km (s p0 p1 p2 : ByteArray) (hs : s.size ≤ 1048576) (hp : pieces s = [p0, p1, p2]) (hp0 : p0.size ≤ s.size) (hp1 : p1.size ≤ s.size) (hp2 : p2.size ≤ s.size) (x0 : Int) (h0 : Go.Lib.atoiAll p0.data.toList = .ok x0) (e0 : ((itext x0).toList == p0.toList) = true) (x1 : Int) (h1 : Go.Lib.atoiAll p1.data.toList = .ok x1) (e1 : ((itext x1).toList == p1.toList) = false) (w : World) (hE : Env w) :
    Calls Tryd.prog 23 #[.string s] w fun e w' => e = .returned (.tuple #[.agg #[.int .i64 0, .int .i64 0, .int .i64 0], .bool false]) ∧ Below w.heap.size w w' := by
  have hn : Go.Lib.countB s ⟨#[46]⟩ = 2 := by have := pieces_length s; rw [hp] at this; simp at this; omega
  have HN := Lib.hid hn
  have HP : Hid (Go.Lib.splitB ⟨#[46]⟩ 0 (Go.Lib.countB s ⟨#[46]⟩) s = [p0, p1, p2]) := hp
  have HE := Lib.hid hE
  clear hn hp hE
  have H0 := Lib.hid h0
  have r0 := Num.atoi_range h0
  clear h0
  have H1 := Lib.hid h1
  have r1 := Num.atoi_range h1
  clear h1
  go_enter Tryd.func23, Tryd.ntmps23
  go_wp2_with fail
  refine (Split_any s 46 (by omega) _ (HE.out.to (by go_grown))).mono ?_
  rintro e w0 ⟨rfl, rfl⟩
  rw [HP.out, HN.out]
  go_wp2_with fail
  refine wp_loop_rounds 4 ?_
  rw [rounds_succ]
  go_wp2_with fail
  refine (Atoi_ok p0 (by omega) x0 H0.out _).mono ?_
  rintro e w1 ⟨rfl, hb1⟩
  have B1 : Below w.heap.size w w1 := by refine Below.trans ?_ (hb1.mono ?_) <;> go_grown
  obtain ⟨hc1, hf1⟩ := bcell hb1
  have hz10 : w.heap.size < w1.heap.size := by have := hb1.size; (try simp at this); omega
  have hz11 : w.heap.size + 1 < w1.heap.size := by have := hb1.size; (try simp at this); omega
  have hz12 : w.heap.size + 2 < w1.heap.size := by have := hb1.size; (try simp at this); omega
  clear hb1
  go_wp2_with fail
  refine (Itoa_any x0 r0 _ (HE.out.to (by go_grown))).mono ?_
  rintro e w2 ⟨rfl, hb2⟩
  have B2 : Below w.heap.size w w2 := by refine Below.trans ?_ (hb2.mono ?_) <;> go_grown
  clear B1
  obtain ⟨hc2, hf2⟩ := bcell hb2
  have hz20 : w.heap.size < w2.heap.size := by have := hb2.size; (try simp at this); omega
  have hz21 : w.heap.size + 1 < w2.heap.size := by have := hb2.size; (try simp at this); omega
  have hz22 : w.heap.size + 2 < w2.heap.size := by have := hb2.size; (try simp at this); omega
  clear hb2
  go_wp2_with fail
  rw [rounds_succ]
  go_wp2_with fail
  refine (Atoi_ok p1 (by omega) x1 H1.out _).mono ?_
  rintro e w3 ⟨rfl, hb3⟩
  have B3 : Below w.heap.size w w3 := by refine Below.trans ?_ (hb3.mono ?_) <;> go_grown
  clear B2
  obtain ⟨hc3, hf3⟩ := bcell hb3
  have hz30 : w.heap.size < w3.heap.size := by have := hb3.size; (try simp at this); omega
  have hz31 : w.heap.size + 1 < w3.heap.size := by have := hb3.size; (try simp at this); omega
  have hz32 : w.heap.size + 2 < w3.heap.size := by have := hb3.size; (try simp at this); omega
  clear hb3
  go_wp2_with fail
  refine (Itoa_any x1 r1 _ (HE.out.to (by go_grown))).mono ?_
  rintro e w4 ⟨rfl, hb4⟩
  have B4 : Below w.heap.size w w4 := by refine Below.trans ?_ (hb4.mono ?_) <;> go_grown
  clear B3
  obtain ⟨hc4, hf4⟩ := bcell hb4
  have hz40 : w.heap.size < w4.heap.size := by have := hb4.size; (try simp at this); omega
  have hz41 : w.heap.size + 1 < w4.heap.size := by have := hb4.size; (try simp at this); omega
  have hz42 : w.heap.size + 2 < w4.heap.size := by have := hb4.size; (try simp at this); omega
  clear hb4
  have q0 : w4.cell? ⟨w.heap.size, 0, none⟩ = some (.int .i64 0) := by go_cell
  have f0 : w4.frozen? ⟨w.heap.size, 0, none⟩ = false := by go_cell
  have q1 : w4.cell? ⟨w.heap.size, 1, none⟩ = some (.int .i64 0) := by go_cell
  have f1 : w4.frozen? ⟨w.heap.size, 1, none⟩ = false := by go_cell
  have q2 : w4.cell? ⟨w.heap.size, 2, none⟩ = some (.int .i64 0) := by go_cell
  have f2 : w4.frozen? ⟨w.heap.size, 2, none⟩ = false := by go_cell
  go_wp2_with fail
  refine bodyPost_ret (v := .tuple #[.agg #[.int .i64 0, .int .i64 0, .int .i64 0], .bool false]) ?_ rfl ⟨rfl, by go_grown⟩
  simp [results, Tryd.results23, go_sem, q0, q1, q2, f0, f1, f2]
set_option maxHeartbeats 4000000 in
set_option maxRecDepth 100000 in
theorem parse_kkb (s p0 p1 p2 : ByteArray) (hs : s.size ≤ 1048576) (hp : pieces s = [p0, p1, p2]) (hp0 : p0.size ≤ s.size) (hp1 : p1.size ≤ s.size) (hp2 : p2.size ≤ s.size) (x0 : Int) (h0 : Go.Lib.atoiAll p0.data.toList = .ok x0) (e0 : ((itext x0).toList == p0.toList) = true) (x1 : Int) (h1 : Go.Lib.atoiAll p1.data.toList = .ok x1) (e1 : ((itext x1).toList == p1.toList) = true) (h2 : ∀ v, Go.Lib.atoiAll p2.data.toList ≠ .ok v) (w : World) (hE : Env w) :
    Calls Tryd.prog 23 #[.string s] w fun e w' => e = .returned (.tuple #[.agg #[.int .i64 0, .int .i64 0, .int .i64 0], .bool false]) ∧ Below w.heap.size w w' := by
  have hn : Go.Lib.countB s ⟨#[46]⟩ = 2 := by have := pieces_length s; rw [hp] at this; simp at this; omega
  have HN := Lib.hid hn
  have HP : Hid (Go.Lib.splitB ⟨#[46]⟩ 0 (Go.Lib.countB s ⟨#[46]⟩) s = [p0, p1, p2]) := hp
  have HE := Lib.hid hE
  clear hn hp hE
  have H0 := Lib.hid h0
  have r0 := Num.atoi_range h0
  clear h0
  have H1 := Lib.hid h1
  have r1 := Num.atoi_range h1
  clear h1
  have H2 := Lib.hid h2
  clear h2
  go_enter Tryd.func23, Tryd.ntmps23
  go_wp2_with fail
  refine (Split_any s 46 (by omega) _ (HE.out.to (by go_grown))).mono ?_
  rintro e w0 ⟨rfl, rfl⟩
  rw [HP.out, HN.out]
  go_wp2_with fail
  refine wp_loop_rounds 4 ?_
  rw [rounds_succ]
  go_wp2_with fail
  refine (Atoi_ok p0 (by omega) x0 H0.out _).mono ?_
  rintro e w1 ⟨rfl, hb1⟩
  have B1 : Below w.heap.size w w1 := by refine Below.trans ?_ (hb1.mono ?_) <;> go_grown
  obtain ⟨hc1, hf1⟩ := bcell hb1
  have hz10 : w.heap.size < w1.heap.size := by have := hb1.size; (try simp at this); omega
  have hz11 : w.heap.size + 1 < w1.heap.size := by have := hb1.size; (try simp at this); omega
  have hz12 : w.heap.size + 2 < w1.heap.size := by have := hb1.size; (try simp at this); omega
  clear hb1
  go_wp2_with fail
  refine (Itoa_any x0 r0 _ (HE.out.to (by go_grown))).mono ?_
  rintro e w2 ⟨rfl, hb2⟩
  have B2 : Below w.heap.size w w2 := by refine Below.trans ?_ (hb2.mono ?_) <;> go_grown
  clear B1
  obtain ⟨hc2, hf2⟩ := bcell hb2
  have hz20 : w.heap.size < w2.heap.size := by have := hb2.size; (try simp at this); omega
  have hz21 : w.heap.size + 1 < w2.heap.size := by have := hb2.size; (try simp at this); omega
  have hz22 : w.heap.size + 2 < w2.heap.size := by have := hb2.size; (try simp at this); omega
  clear hb2
  go_wp2_with fail
  rw [rounds_succ]
  go_wp2_with fail
  refine (Atoi_ok p1 (by omega) x1 H1.out _).mono ?_
  rintro e w3 ⟨rfl, hb3⟩
  have B3 : Below w.heap.size w w3 := by refine Below.trans ?_ (hb3.mono ?_) <;> go_grown
  clear B2
  obtain ⟨hc3, hf3⟩ := bcell hb3
  have hz30 : w.heap.size < w3.heap.size := by have := hb3.size; (try simp at this); omega
  have hz31 : w.heap.size + 1 < w3.heap.size := by have := hb3.size; (try simp at this); omega
  have hz32 : w.heap.size + 2 < w3.heap.size := by have := hb3.size; (try simp at this); omega
  clear hb3
  go_wp2_with fail
  refine (Itoa_any x1 r1 _ (HE.out.to (by go_grown))).mono ?_
  rintro e w4 ⟨rfl, hb4⟩
  have B4 : Below w.heap.size w w4 := by refine Below.trans ?_ (hb4.mono ?_) <;> go_grown
  clear B3
  obtain ⟨hc4, hf4⟩ := bcell hb4
  have hz40 : w.heap.size < w4.heap.size := by have := hb4.size; (try simp at this); omega
  have hz41 : w.heap.size + 1 < w4.heap.size := by have := hb4.size; (try simp at this); omega
  have hz42 : w.heap.size + 2 < w4.heap.size := by have := hb4.size; (try simp at this); omega
  clear hb4
  go_wp2_with fail
  rw [rounds_succ]
  go_wp2_with fail
  refine (Atoi_bad p2 (by omega) H2.out _ (HE.out.to (by go_grown))).mono ?_
  rintro e w5 ⟨v, p, rfl, hb5⟩
  have B5 : Below w.heap.size w w5 := by refine Below.trans ?_ (hb5.mono ?_) <;> go_grown
  clear B4
  obtain ⟨hc5, hf5⟩ := bcell hb5
  have hz50 : w.heap.size < w5.heap.size := by have := hb5.size; (try simp at this); omega
  have hz51 : w.heap.size + 1 < w5.heap.size := by have := hb5.size; (try simp at this); omega
  have hz52 : w.heap.size + 2 < w5.heap.size := by have := hb5.size; (try simp at this); omega
  clear hb5
  have q0 : w5.cell? ⟨w.heap.size, 0, none⟩ = some (.int .i64 0) := by go_cell
  have f0 : w5.frozen? ⟨w.heap.size, 0, none⟩ = false := by go_cell
  have q1 : w5.cell? ⟨w.heap.size, 1, none⟩ = some (.int .i64 0) := by go_cell
  have f1 : w5.frozen? ⟨w.heap.size, 1, none⟩ = false := by go_cell
  have q2 : w5.cell? ⟨w.heap.size, 2, none⟩ = some (.int .i64 0) := by go_cell
  have f2 : w5.frozen? ⟨w.heap.size, 2, none⟩ = false := by go_cell
  go_wp2_with fail
  refine bodyPost_ret (v := .tuple #[.agg #[.int .i64 0, .int .i64 0, .int .i64 0], .bool false]) ?_ rfl ⟨rfl, by go_grown⟩
  simp [results, Tryd.results23, go_sem, q0, q1, q2, f0, f1, f2]
set_option maxHeartbeats 4000000 in
set_option maxRecDepth 100000 in
theorem parse_kkm (s p0 p1 p2 : ByteArray) (hs : s.size ≤ 1048576) (hp : pieces s = [p0, p1, p2]) (hp0 : p0.size ≤ s.size) (hp1 : p1.size ≤ s.size) (hp2 : p2.size ≤ s.size) (x0 : Int) (h0 : Go.Lib.atoiAll p0.data.toList = .ok x0) (e0 : ((itext x0).toList == p0.toList) = true) (x1 : Int) (h1 : Go.Lib.atoiAll p1.data.toList = .ok x1) (e1 : ((itext x1).toList == p1.toList) = true) (x2 : Int) (h2 : Go.Lib.atoiAll p2.data.toList = .ok x2) (e2 : ((itext x2).toList == p2.toList) = false) (w : World) (hE : Env w) :
    Calls Tryd.prog 23 #[.string s] w fun e w' => e = .returned (.tuple #[.agg #[.int .i64 0, .int .i64 0, .int .i64 0], .bool false]) ∧ Below w.heap.size w w' := by
  have hn : Go.Lib.countB s ⟨#[46]⟩ = 2 := by have := pieces_length s; rw [hp] at this; simp at this; omega
  have HN := Lib.hid hn
  have HP : Hid (Go.Lib.splitB ⟨#[46]⟩ 0 (Go.Lib.countB s ⟨#[46]⟩) s = [p0, p1, p2]) := hp
  have HE := Lib.hid hE
  clear hn hp hE
  have H0 := Lib.hid h0
  have r0 := Num.atoi_range h0
  clear h0
  have H1 := Lib.hid h1
  have r1 := Num.atoi_range h1
  clear h1
  have H2 := Lib.hid h2
  have r2 := Num.atoi_range h2
  clear h2
  go_enter Tryd.func23, Tryd.ntmps23
  go_wp2_with fail
  refine (Split_any s 46 (by omega) _ (HE.out.to (by go_grown))).mono ?_
  rintro e w0 ⟨rfl, rfl⟩
  rw [HP.out, HN.out]
  go_wp2_with fail
  refine wp_loop_rounds 4 ?_
  rw [rounds_succ]
  go_wp2_with fail
  refine (Atoi_ok p0 (by omega) x0 H0.out _).mono ?_
  rintro e w1 ⟨rfl, hb1⟩
  have B1 : Below w.heap.size w w1 := by refine Below.trans ?_ (hb1.mono ?_) <;> go_grown
  obtain ⟨hc1, hf1⟩ := bcell hb1
  have hz10 : w.heap.size < w1.heap.size := by have := hb1.size; (try simp at this); omega
  have hz11 : w.heap.size + 1 < w1.heap.size := by have := hb1.size; (try simp at this); omega
  have hz12 : w.heap.size + 2 < w1.heap.size := by have := hb1.size; (try simp at this); omega
  clear hb1
  go_wp2_with fail
  refine (Itoa_any x0 r0 _ (HE.out.to (by go_grown))).mono ?_
  rintro e w2 ⟨rfl, hb2⟩
  have B2 : Below w.heap.size w w2 := by refine Below.trans ?_ (hb2.mono ?_) <;> go_grown
  clear B1
  obtain ⟨hc2, hf2⟩ := bcell hb2
  have hz20 : w.heap.size < w2.heap.size := by have := hb2.size; (try simp at this); omega
  have hz21 : w.heap.size + 1 < w2.heap.size := by have := hb2.size; (try simp at this); omega
  have hz22 : w.heap.size + 2 < w2.heap.size := by have := hb2.size; (try simp at this); omega
  clear hb2
  go_wp2_with fail
  rw [rounds_succ]
  go_wp2_with fail
  refine (Atoi_ok p1 (by omega) x1 H1.out _).mono ?_
  rintro e w3 ⟨rfl, hb3⟩
  have B3 : Below w.heap.size w w3 := by refine Below.trans ?_ (hb3.mono ?_) <;> go_grown
  clear B2
  obtain ⟨hc3, hf3⟩ := bcell hb3
  have hz30 : w.heap.size < w3.heap.size := by have := hb3.size; (try simp at this); omega
  have hz31 : w.heap.size + 1 < w3.heap.size := by have := hb3.size; (try simp at this); omega
  have hz32 : w.heap.size + 2 < w3.heap.size := by have := hb3.size; (try simp at this); omega
  clear hb3
  go_wp2_with fail
  refine (Itoa_any x1 r1 _ (HE.out.to (by go_grown))).mono ?_
  rintro e w4 ⟨rfl, hb4⟩
  have B4 : Below w.heap.size w w4 := by refine Below.trans ?_ (hb4.mono ?_) <;> go_grown
  clear B3
  obtain ⟨hc4, hf4⟩ := bcell hb4
  have hz40 : w.heap.size < w4.heap.size := by have := hb4.size; (try simp at this); omega
  have hz41 : w.heap.size + 1 < w4.heap.size := by have := hb4.size; (try simp at this); omega
  have hz42 : w.heap.size + 2 < w4.heap.size := by have := hb4.size; (try simp at this); omega
  clear hb4
  go_wp2_with fail
  rw [rounds_succ]
  go_wp2_with fail
  refine (Atoi_ok p2 (by omega) x2 H2.out _).mono ?_
  rintro e w5 ⟨rfl, hb5⟩
  have B5 : Below w.heap.size w w5 := by refine Below.trans ?_ (hb5.mono ?_) <;> go_grown
  clear B4
  obtain ⟨hc5, hf5⟩ := bcell hb5
  have hz50 : w.heap.size < w5.heap.size := by have := hb5.size; (try simp at this); omega
  have hz51 : w.heap.size + 1 < w5.heap.size := by have := hb5.size; (try simp at this); omega
  have hz52 : w.heap.size + 2 < w5.heap.size := by have := hb5.size; (try simp at this); omega
  clear hb5
  go_wp2_with fail
  refine (Itoa_any x2 r2 _ (HE.out.to (by go_grown))).mono ?_
  rintro e w6 ⟨rfl, hb6⟩
  have B6 : Below w.heap.size w w6 := by refine Below.trans ?_ (hb6.mono ?_) <;> go_grown
  clear B5
  obtain ⟨hc6, hf6⟩ := bcell hb6
  have hz60 : w.heap.size < w6.heap.size := by have := hb6.size; (try simp at this); omega
  have hz61 : w.heap.size + 1 < w6.heap.size := by have := hb6.size; (try simp at this); omega
  have hz62 : w.heap.size + 2 < w6.heap.size := by have := hb6.size; (try simp at this); omega
  clear hb6
  have q0 : w6.cell? ⟨w.heap.size, 0, none⟩ = some (.int .i64 0) := by go_cell
  have f0 : w6.frozen? ⟨w.heap.size, 0, none⟩ = false := by go_cell
  have q1 : w6.cell? ⟨w.heap.size, 1, none⟩ = some (.int .i64 0) := by go_cell
  have f1 : w6.frozen? ⟨w.heap.size, 1, none⟩ = false := by go_cell
  have q2 : w6.cell? ⟨w.heap.size, 2, none⟩ = some (.int .i64 0) := by go_cell
  have f2 : w6.frozen? ⟨w.heap.size, 2, none⟩ = false := by go_cell
  go_wp2_with fail
  refine bodyPost_ret (v := .tuple #[.agg #[.int .i64 0, .int .i64 0, .int .i64 0], .bool false]) ?_ rfl ⟨rfl, by go_grown⟩
  simp [results, Tryd.results23, go_sem, q0, q1, q2, f0, f1, f2]
set_option maxHeartbeats 4000000 in
set_option maxRecDepth 100000 in
theorem parse_no (s p0 p1 p2 : ByteArray) (hs : s.size ≤ 1048576) (hp : pieces s = [p0, p1, p2]) (hp0 : p0.size ≤ s.size) (hp1 : p1.size ≤ s.size) (hp2 : p2.size ≤ s.size) (x0 : Int) (h0 : Go.Lib.atoiAll p0.data.toList = .ok x0) (e0 : ((itext x0).toList == p0.toList) = true) (x1 : Int) (h1 : Go.Lib.atoiAll p1.data.toList = .ok x1) (e1 : ((itext x1).toList == p1.toList) = true) (x2 : Int) (h2 : Go.Lib.atoiAll p2.data.toList = .ok x2) (e2 : ((itext x2).toList == p2.toList) = true) (hmay : V.may x0 x1 x2 = false) (w : World) (hE : Env w) :
    Calls Tryd.prog 23 #[.string s] w fun e w' => e = .returned (.tuple #[.agg #[.int .i64 0, .int .i64 0, .int .i64 0], .bool false]) ∧ Below w.heap.size w w' := by
  have hn : Go.Lib.countB s ⟨#[46]⟩ = 2 := by have := pieces_length s; rw [hp] at this; simp at this; omega
  have HN := Lib.hid hn
  have HP : Hid (Go.Lib.splitB ⟨#[46]⟩ 0 (Go.Lib.countB s ⟨#[46]⟩) s = [p0, p1, p2]) := hp
  have HE := Lib.hid hE
  clear hn hp hE
  have H0 := Lib.hid h0
  have r0 := Num.atoi_range h0
  clear h0
  have H1 := Lib.hid h1
  have r1 := Num.atoi_range h1
  clear h1
  have H2 := Lib.hid h2
  have r2 := Num.atoi_range h2
  clear h2
  have HM := Lib.hid hmay
  clear hmay
  go_enter Tryd.func23, Tryd.ntmps23
  go_wp2_with fail
  refine (Split_any s 46 (by omega) _ (HE.out.to (by go_grown))).mono ?_
  rintro e w0 ⟨rfl, rfl⟩
  rw [HP.out, HN.out]
  go_wp2_with fail
  refine wp_loop_rounds 4 ?_
  rw [rounds_succ]
  go_wp2_with fail
  refine (Atoi_ok p0 (by omega) x0 H0.out _).mono ?_
  rintro e w1 ⟨rfl, hb1⟩
  have B1 : Below w.heap.size w w1 := by refine Below.trans ?_ (hb1.mono ?_) <;> go_grown
  obtain ⟨hc1, hf1⟩ := bcell hb1
  have hz10 : w.heap.size < w1.heap.size := by have := hb1.size; (try simp at this); omega
  have hz11 : w.heap.size + 1 < w1.heap.size := by have := hb1.size; (try simp at this); omega
  have hz12 : w.heap.size + 2 < w1.heap.size := by have := hb1.size; (try simp at this); omega
  clear hb1
  go_wp2_with fail
  refine (Itoa_any x0 r0 _ (HE.out.to (by go_grown))).mono ?_
  rintro e w2 ⟨rfl, hb2⟩
  have B2 : Below w.heap.size w w2 := by refine Below.trans ?_ (hb2.mono ?_) <;> go_grown
  clear B1
  obtain ⟨hc2, hf2⟩ := bcell hb2
  have hz20 : w.heap.size < w2.heap.size := by have := hb2.size; (try simp at this); omega
  have hz21 : w.heap.size + 1 < w2.heap.size := by have := hb2.size; (try simp at this); omega
  have hz22 : w.heap.size + 2 < w2.heap.size := by have := hb2.size; (try simp at this); omega
  clear hb2
  go_wp2_with fail
  rw [rounds_succ]
  go_wp2_with fail
  refine (Atoi_ok p1 (by omega) x1 H1.out _).mono ?_
  rintro e w3 ⟨rfl, hb3⟩
  have B3 : Below w.heap.size w w3 := by refine Below.trans ?_ (hb3.mono ?_) <;> go_grown
  clear B2
  obtain ⟨hc3, hf3⟩ := bcell hb3
  have hz30 : w.heap.size < w3.heap.size := by have := hb3.size; (try simp at this); omega
  have hz31 : w.heap.size + 1 < w3.heap.size := by have := hb3.size; (try simp at this); omega
  have hz32 : w.heap.size + 2 < w3.heap.size := by have := hb3.size; (try simp at this); omega
  clear hb3
  go_wp2_with fail
  refine (Itoa_any x1 r1 _ (HE.out.to (by go_grown))).mono ?_
  rintro e w4 ⟨rfl, hb4⟩
  have B4 : Below w.heap.size w w4 := by refine Below.trans ?_ (hb4.mono ?_) <;> go_grown
  clear B3
  obtain ⟨hc4, hf4⟩ := bcell hb4
  have hz40 : w.heap.size < w4.heap.size := by have := hb4.size; (try simp at this); omega
  have hz41 : w.heap.size + 1 < w4.heap.size := by have := hb4.size; (try simp at this); omega
  have hz42 : w.heap.size + 2 < w4.heap.size := by have := hb4.size; (try simp at this); omega
  clear hb4
  go_wp2_with fail
  rw [rounds_succ]
  go_wp2_with fail
  refine (Atoi_ok p2 (by omega) x2 H2.out _).mono ?_
  rintro e w5 ⟨rfl, hb5⟩
  have B5 : Below w.heap.size w w5 := by refine Below.trans ?_ (hb5.mono ?_) <;> go_grown
  clear B4
  obtain ⟨hc5, hf5⟩ := bcell hb5
  have hz50 : w.heap.size < w5.heap.size := by have := hb5.size; (try simp at this); omega
  have hz51 : w.heap.size + 1 < w5.heap.size := by have := hb5.size; (try simp at this); omega
  have hz52 : w.heap.size + 2 < w5.heap.size := by have := hb5.size; (try simp at this); omega
  clear hb5
  go_wp2_with fail
  refine (Itoa_any x2 r2 _ (HE.out.to (by go_grown))).mono ?_
  rintro e w6 ⟨rfl, hb6⟩
  have B6 : Below w.heap.size w w6 := by refine Below.trans ?_ (hb6.mono ?_) <;> go_grown
  clear B5
  obtain ⟨hc6, hf6⟩ := bcell hb6
  have hz60 : w.heap.size < w6.heap.size := by have := hb6.size; (try simp at this); omega
  have hz61 : w.heap.size + 1 < w6.heap.size := by have := hb6.size; (try simp at this); omega
  have hz62 : w.heap.size + 2 < w6.heap.size := by have := hb6.size; (try simp at this); omega
  clear hb6
  go_wp2_with fail
  rw [rounds_succ]
  go_wp2_with fail
  refine (may_any _ _ _ _).mono ?_
  rintro e w7 ⟨rfl, hb7⟩
  rw [HM.out]
  have B7 : Below w.heap.size w w7 := by refine Below.trans ?_ (hb7.mono ?_) <;> go_grown
  clear B6
  obtain ⟨hc7, hf7⟩ := bcell hb7
  have hz70 : w.heap.size < w7.heap.size := by have := hb7.size; (try simp at this); omega
  have hz71 : w.heap.size + 1 < w7.heap.size := by have := hb7.size; (try simp at this); omega
  have hz72 : w.heap.size + 2 < w7.heap.size := by have := hb7.size; (try simp at this); omega
  have hz73 : w6.heap.size < w7.heap.size := by have := hb7.size; (try simp at this); omega
  clear hb7
  have q0 : w7.cell? ⟨w.heap.size, 0, none⟩ = some (.int .i64 0) := by go_cell
  have f0 : w7.frozen? ⟨w.heap.size, 0, none⟩ = false := by go_cell
  have q1 : w7.cell? ⟨w.heap.size, 1, none⟩ = some (.int .i64 0) := by go_cell
  have f1 : w7.frozen? ⟨w.heap.size, 1, none⟩ = false := by go_cell
  have q2 : w7.cell? ⟨w.heap.size, 2, none⟩ = some (.int .i64 0) := by go_cell
  have f2 : w7.frozen? ⟨w.heap.size, 2, none⟩ = false := by go_cell
  go_wp2_with fail
  refine bodyPost_ret (v := .tuple #[.agg #[.int .i64 0, .int .i64 0, .int .i64 0], .bool false]) ?_ rfl ⟨rfl, by go_grown⟩
  simp [results, Tryd.results23, go_sem, q0, q1, q2, f0, f1, f2]
set_option maxHeartbeats 4000000 in
set_option maxRecDepth 100000 in
theorem parse_yes (s p0 p1 p2 : ByteArray) (hs : s.size ≤ 1048576) (hp : pieces s = [p0, p1, p2]) (hp0 : p0.size ≤ s.size) (hp1 : p1.size ≤ s.size) (hp2 : p2.size ≤ s.size) (x0 : Int) (h0 : Go.Lib.atoiAll p0.data.toList = .ok x0) (e0 : ((itext x0).toList == p0.toList) = true) (x1 : Int) (h1 : Go.Lib.atoiAll p1.data.toList = .ok x1) (e1 : ((itext x1).toList == p1.toList) = true) (x2 : Int) (h2 : Go.Lib.atoiAll p2.data.toList = .ok x2) (e2 : ((itext x2).toList == p2.toList) = true) (hmay : V.may x0 x1 x2 = true) (w : World) (hE : Env w) :
    Calls Tryd.prog 23 #[.string s] w fun e w' => e = .returned (.tuple #[.agg #[.int .i64 x0, .int .i64 x1, .int .i64 x2], .bool true]) ∧ Below w.heap.size w w' := by
  have hn : Go.Lib.countB s ⟨#[46]⟩ = 2 := by have := pieces_length s; rw [hp] at this; simp at this; omega
  have HN := Lib.hid hn
  have HP : Hid (Go.Lib.splitB ⟨#[46]⟩ 0 (Go.Lib.countB s ⟨#[46]⟩) s = [p0, p1, p2]) := hp
  have HE := Lib.hid hE
  clear hn hp hE
  have H0 := Lib.hid h0
  have r0 := Num.atoi_range h0
  clear h0
  have H1 := Lib.hid h1
  have r1 := Num.atoi_range h1
  clear h1
  have H2 := Lib.hid h2
  have r2 := Num.atoi_range h2
  clear h2
  have HM := Lib.hid hmay
  clear hmay
  go_enter Tryd.func23, Tryd.ntmps23
  go_wp2_with fail
  refine (Split_any s 46 (by omega) _ (HE.out.to (by go_grown))).mono ?_
  rintro e w0 ⟨rfl, rfl⟩
  rw [HP.out, HN.out]
  go_wp2_with fail
  refine wp_loop_rounds 4 ?_
  rw [rounds_succ]
  go_wp2_with fail
  refine (Atoi_ok p0 (by omega) x0 H0.out _).mono ?_
  rintro e w1 ⟨rfl, hb1⟩
  have B1 : Below w.heap.size w w1 := by refine Below.trans ?_ (hb1.mono ?_) <;> go_grown
  obtain ⟨hc1, hf1⟩ := bcell hb1
  have hz10 : w.heap.size < w1.heap.size := by have := hb1.size; (try simp at this); omega
  have hz11 : w.heap.size + 1 < w1.heap.size := by have := hb1.size; (try simp at this); omega
  have hz12 : w.heap.size + 2 < w1.heap.size := by have := hb1.size; (try simp at this); omega
  clear hb1
  go_wp2_with fail
  refine (Itoa_any x0 r0 _ (HE.out.to (by go_grown))).mono ?_
  rintro e w2 ⟨rfl, hb2⟩
  have B2 : Below w.heap.size w w2 := by refine Below.trans ?_ (hb2.mono ?_) <;> go_grown
  clear B1
  obtain ⟨hc2, hf2⟩ := bcell hb2
  have hz20 : w.heap.size < w2.heap.size := by have := hb2.size; (try simp at this); omega
  have hz21 : w.heap.size + 1 < w2.heap.size := by have := hb2.size; (try simp at this); omega
  have hz22 : w.heap.size + 2 < w2.heap.size := by have := hb2.size; (try simp at this); omega
  clear hb2
  go_wp2_with fail
  rw [rounds_succ]
  go_wp2_with fail
  refine (Atoi_ok p1 (by omega) x1 H1.out _).mono ?_
  rintro e w3 ⟨rfl, hb3⟩
  have B3 : Below w.heap.size w w3 := by refine Below.trans ?_ (hb3.mono ?_) <;> go_grown
  clear B2
  obtain ⟨hc3, hf3⟩ := bcell hb3
  have hz30 : w.heap.size < w3.heap.size := by have := hb3.size; (try simp at this); omega
  have hz31 : w.heap.size + 1 < w3.heap.size := by have := hb3.size; (try simp at this); omega
  have hz32 : w.heap.size + 2 < w3.heap.size := by have := hb3.size; (try simp at this); omega
  clear hb3
  go_wp2_with fail
  refine (Itoa_any x1 r1 _ (HE.out.to (by go_grown))).mono ?_
  rintro e w4 ⟨rfl, hb4⟩
  have B4 : Below w.heap.size w w4 := by refine Below.trans ?_ (hb4.mono ?_) <;> go_grown
  clear B3
  obtain ⟨hc4, hf4⟩ := bcell hb4
  have hz40 : w.heap.size < w4.heap.size := by have := hb4.size; (try simp at this); omega
  have hz41 : w.heap.size + 1 < w4.heap.size := by have := hb4.size; (try simp at this); omega
  have hz42 : w.heap.size + 2 < w4.heap.size := by have := hb4.size; (try simp at this); omega
  clear hb4
  go_wp2_with fail
  rw [rounds_succ]
  go_wp2_with fail
  refine (Atoi_ok p2 (by omega) x2 H2.out _).mono ?_
  rintro e w5 ⟨rfl, hb5⟩
  have B5 : Below w.heap.size w w5 := by refine Below.trans ?_ (hb5.mono ?_) <;> go_grown
  clear B4
  obtain ⟨hc5, hf5⟩ := bcell hb5
  have hz50 : w.heap.size < w5.heap.size := by have := hb5.size; (try simp at this); omega
  have hz51 : w.heap.size + 1 < w5.heap.size := by have := hb5.size; (try simp at this); omega
  have hz52 : w.heap.size + 2 < w5.heap.size := by have := hb5.size; (try simp at this); omega
  clear hb5
  go_wp2_with fail
  refine (Itoa_any x2 r2 _ (HE.out.to (by go_grown))).mono ?_
  rintro e w6 ⟨rfl, hb6⟩
  have B6 : Below w.heap.size w w6 := by refine Below.trans ?_ (hb6.mono ?_) <;> go_grown
  clear B5
  obtain ⟨hc6, hf6⟩ := bcell hb6
  have hz60 : w.heap.size < w6.heap.size := by have := hb6.size; (try simp at this); omega
  have hz61 : w.heap.size + 1 < w6.heap.size := by have := hb6.size; (try simp at this); omega
  have hz62 : w.heap.size + 2 < w6.heap.size := by have := hb6.size; (try simp at this); omega
  clear hb6
  go_wp2_with fail
  rw [rounds_succ]
  go_wp2_with fail
  refine (may_any _ _ _ _).mono ?_
  rintro e w7 ⟨rfl, hb7⟩
  rw [HM.out]
  have B7 : Below w.heap.size w w7 := by refine Below.trans ?_ (hb7.mono ?_) <;> go_grown
  clear B6
  obtain ⟨hc7, hf7⟩ := bcell hb7
  have hz70 : w.heap.size < w7.heap.size := by have := hb7.size; (try simp at this); omega
  have hz71 : w.heap.size + 1 < w7.heap.size := by have := hb7.size; (try simp at this); omega
  have hz72 : w.heap.size + 2 < w7.heap.size := by have := hb7.size; (try simp at this); omega
  have hz73 : w6.heap.size < w7.heap.size := by have := hb7.size; (try simp at this); omega
  clear hb7
  have q0 : w7.cell? ⟨w.heap.size, 0, none⟩ = some (.int .i64 0) := by go_cell
  have f0 : w7.frozen? ⟨w.heap.size, 0, none⟩ = false := by go_cell
  have q1 : w7.cell? ⟨w.heap.size, 1, none⟩ = some (.int .i64 0) := by go_cell
  have f1 : w7.frozen? ⟨w.heap.size, 1, none⟩ = false := by go_cell
  have q2 : w7.cell? ⟨w.heap.size, 2, none⟩ = some (.int .i64 0) := by go_cell
  have f2 : w7.frozen? ⟨w.heap.size, 2, none⟩ = false := by go_cell
  go_wp2_with fail
  refine bodyPost_ret (v := .tuple #[.agg #[.int .i64 x0, .int .i64 x1, .int .i64 x2], .bool true]) ?_ rfl ⟨rfl, by go_grown⟩
  simp [results, Tryd.results23, go_sem, q0, q1, q2, f0, f1, f2]
end Go.Proofs.YthbepoeohjddnaaDoor
