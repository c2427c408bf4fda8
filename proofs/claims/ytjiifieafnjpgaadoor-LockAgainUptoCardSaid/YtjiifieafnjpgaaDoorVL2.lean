/- Plans: what their texts and their checks answer (part 2). -/
import Derived.Test.YtjiifieafnjpgaaDoorVL1
namespace Go.Proofs.YtjiifieafnjpgaaDoor.VL
open Go.RowKit
set_option linter.unusedSimpArgs false
set_option linter.unusedVariables false
/-- s cut at its dots. -/
def pieces (s : ByteArray) : List ByteArray := Go.Lib.splitB ⟨#[46]⟩ 0 (Go.Lib.countB s ⟨#[46]⟩) s
theorem pieces_length (s : ByteArray) : (pieces s).length = Go.Lib.countB s ⟨#[46]⟩ + 1 := Go.Lib.splitB_all ⟨#[46]⟩ (by decide) 0 _ s rfl
set_option maxHeartbeats 4000000 in
set_option maxRecDepth 100000 in
theorem parse_b (s p0 p1 p2 : ByteArray) (hs : s.size ≤ 1048576) (hp : pieces s = [p0, p1, p2]) (hp0 : p0.size ≤ s.size) (hp1 : p1.size ≤ s.size) (hp2 : p2.size ≤ s.size) (h0 : ∀ v, Go.Lib.atoiAll p0.data.toList ≠ .ok v) (w : World) (hE : Env w) :
    Calls Tryd.prog 26 #[.string s] w fun e w' => e = .returned (.tuple #[.agg #[.int .i64 0, .int .i64 0, .int .i64 0], .bool false]) ∧ Below w.heap.size w w' := by
  have hn : Go.Lib.countB s ⟨#[46]⟩ = 2 := by have := pieces_length s; rw [hp] at this; simp at this; omega
  have HN := Lib.hid hn
  have HP : Hid (Go.Lib.splitB ⟨#[46]⟩ 0 (Go.Lib.countB s ⟨#[46]⟩) s = [p0, p1, p2]) := hp
  have HE := Lib.hid hE
  clear hn hp hE
  have H0 := Lib.hid h0
  clear h0
  go_enter Tryd.func26, Tryd.ntmps26
  go_wp2_with fail
  refine (Split_any s 46 (by omega) _ (HE.out.to (by go_grown))).mono ?_
  rintro e w0 ⟨rfl, rfl⟩
  rw [HP.out, HN.out]
  go_wp2_with fail
  refine wp_loop_rounds 4 ?_
  rw [rounds_succ]
  go_wp2_with fail
  refine (Atoi_bad p0 (by omega) H0.out _ (HE.out.to (by go_grown))).mono ?_
  rintro e w1 ⟨v, p, rfl, hb1⟩
  have B1 : Below w.heap.size w w1 := by refine Below.trans ?_ (hb1.mono ?_) <;> go_grown
  obtain ⟨hc1, hf1⟩ := bcell hb1
  have hz10 : w.heap.size < w1.heap.size := by have := hb1.size; (try simp at this); omega
  have hz11 : w.heap.size + 1 < w1.heap.size := by have := hb1.size; (try simp at this); omega
  have hz12 : w.heap.size + 2 < w1.heap.size := by have := hb1.size; (try simp at this); omega
  clear hb1
  have q0 : w1.cell? ⟨w.heap.size, 0, none⟩ = some (.int .i64 0) := by go_cell
  have f0 : w1.frozen? ⟨w.heap.size, 0, none⟩ = false := by go_cell
  have q1 : w1.cell? ⟨w.heap.size, 1, none⟩ = some (.int .i64 0) := by go_cell
  have f1 : w1.frozen? ⟨w.heap.size, 1, none⟩ = false := by go_cell
  have q2 : w1.cell? ⟨w.heap.size, 2, none⟩ = some (.int .i64 0) := by go_cell
  have f2 : w1.frozen? ⟨w.heap.size, 2, none⟩ = false := by go_cell
  go_wp2_with fail
  refine bodyPost_ret (v := .tuple #[.agg #[.int .i64 0, .int .i64 0, .int .i64 0], .bool false]) ?_ rfl ⟨rfl, by go_grown⟩
  simp [results, Tryd.results26, go_sem, q0, q1, q2, f0, f1, f2]
set_option maxHeartbeats 4000000 in
set_option maxRecDepth 100000 in
theorem parse_m (s p0 p1 p2 : ByteArray) (hs : s.size ≤ 1048576) (hp : pieces s = [p0, p1, p2]) (hp0 : p0.size ≤ s.size) (hp1 : p1.size ≤ s.size) (hp2 : p2.size ≤ s.size) (x0 : Int) (h0 : Go.Lib.atoiAll p0.data.toList = .ok x0) (e0 : ((itext x0).toList == p0.toList) = false) (w : World) (hE : Env w) :
    Calls Tryd.prog 26 #[.string s] w fun e w' => e = .returned (.tuple #[.agg #[.int .i64 0, .int .i64 0, .int .i64 0], .bool false]) ∧ Below w.heap.size w w' := by
  have hn : Go.Lib.countB s ⟨#[46]⟩ = 2 := by have := pieces_length s; rw [hp] at this; simp at this; omega
  have HN := Lib.hid hn
  have HP : Hid (Go.Lib.splitB ⟨#[46]⟩ 0 (Go.Lib.countB s ⟨#[46]⟩) s = [p0, p1, p2]) := hp
  have HE := Lib.hid hE
  clear hn hp hE
  have H0 := Lib.hid h0
  have r0 := Num.atoi_range h0
  clear h0
  go_enter Tryd.func26, Tryd.ntmps26
  go_wp2_with fail
  refine (Split_any s 46 (by omega) _ (HE.out.to (by go_grown))).mono ?_
  rintro e w0 ⟨rfl, rfl⟩
  rw [HP.out, HN.out]
  go_wp2_with fail
  refine wp_loop_rounds 4 ?_
  rw [rounds_succ]
  go_wp2_with fail
  refine (Atoi_ok p0 (by omega) x0 H0.out _).mono ?_
  rintro e w1 ⟨rfl, hb1⟩
  have B1 : Below w.heap.size w w1 := by refine Below.trans ?_ (hb1.mono ?_) <;> go_grown
  obtain ⟨hc1, hf1⟩ := bcell hb1
  have hz10 : w.heap.size < w1.heap.size := by have := hb1.size; (try simp at this); omega
  have hz11 : w.heap.size + 1 < w1.heap.size := by have := hb1.size; (try simp at this); omega
  have hz12 : w.heap.size + 2 < w1.heap.size := by have := hb1.size; (try simp at this); omega
  clear hb1
  go_wp2_with fail
  refine (Itoa_any x0 r0 _ (HE.out.to (by go_grown))).mono ?_
  rintro e w2 ⟨rfl, hb2⟩
  have B2 : Below w.heap.size w w2 := by refine Below.trans ?_ (hb2.mono ?_) <;> go_grown
  clear B1
  obtain ⟨hc2, hf2⟩ := bcell hb2
  have hz20 : w.heap.size < w2.heap.size := by have := hb2.size; (try simp at this); omega
  have hz21 : w.heap.size + 1 < w2.heap.size := by have := hb2.size; (try simp at this); omega
  have hz22 : w.heap.size + 2 < w2.heap.size := by have := hb2.size; (try simp at this); omega
  clear hb2
  have q0 : w2.cell? ⟨w.heap.size, 0, none⟩ = some (.int .i64 0) := by go_cell
  have f0 : w2.frozen? ⟨w.heap.size, 0, none⟩ = false := by go_cell
  have q1 : w2.cell? ⟨w.heap.size, 1, none⟩ = some (.int .i64 0) := by go_cell
  have f1 : w2.frozen? ⟨w.heap.size, 1, none⟩ = false := by go_cell
  have q2 : w2.cell? ⟨w.heap.size, 2, none⟩ = some (.int .i64 0) := by go_cell
  have f2 : w2.frozen? ⟨w.heap.size, 2, none⟩ = false := by go_cell
  go_wp2_with fail
  refine bodyPost_ret (v := .tuple #[.agg #[.int .i64 0, .int .i64 0, .int .i64 0], .bool false]) ?_ rfl ⟨rfl, by go_grown⟩
  simp [results, Tryd.results26, go_sem, q0, q1, q2, f0, f1, f2]
set_option maxHeartbeats 4000000 in
set_option maxRecDepth 100000 in
theorem parse_kb (s p0 p1 p2 : ByteArray) (hs : s.size ≤ 1048576) (hp : pieces s = [p0, p1, p2]) (hp0 : p0.size ≤ s.size) (hp1 : p1.size ≤ s.size) (hp2 : p2.size ≤ s.size) (x0 : Int) (h0 : Go.Lib.atoiAll p0.data.toList = .ok x0) (e0 : ((itext x0).toList == p0.toList) = true) (h1 : ∀ v, Go.Lib.atoiAll p1.data.toList ≠ .ok v) (w : World) (hE : Env w) :
    Calls Tryd.prog 26 #[.string s] w fun e w' => e = .returned (.tuple #[.agg #[.int .i64 0, .int .i64 0, .int .i64 0], .bool false]) ∧ Below w.heap.size w w' := by
  have hn : Go.Lib.countB s ⟨#[46]⟩ = 2 := by have := pieces_length s; rw [hp] at this; simp at this; omega
  have HN := Lib.hid hn
  have HP : Hid (Go.Lib.splitB ⟨#[46]⟩ 0 (Go.Lib.countB s ⟨#[46]⟩) s = [p0, p1, p2]) := hp
  have HE := Lib.hid hE
  clear hn hp hE
  have H0 := Lib.hid h0
  have r0 := Num.atoi_range h0
  clear h0
  have H1 := Lib.hid h1
  clear h1
  go_enter Tryd.func26, Tryd.ntmps26
  go_wp2_with fail
  refine (Split_any s 46 (by omega) _ (HE.out.to (by go_grown))).mono ?_
  rintro e w0 ⟨rfl, rfl⟩
  rw [HP.out, HN.out]
  go_wp2_with fail
  refine wp_loop_rounds 4 ?_
  rw [rounds_succ]
  go_wp2_with fail
  refine (Atoi_ok p0 (by omega) x0 H0.out _).mono ?_
  rintro e w1 ⟨rfl, hb1⟩
  have B1 : Below w.heap.size w w1 := by refine Below.trans ?_ (hb1.mono ?_) <;> go_grown
  obtain ⟨hc1, hf1⟩ := bcell hb1
  have hz10 : w.heap.size < w1.heap.size := by have := hb1.size; (try simp at this); omega
  have hz11 : w.heap.size + 1 < w1.heap.size := by have := hb1.size; (try simp at this); omega
  have hz12 : w.heap.size + 2 < w1.heap.size := by have := hb1.size; (try simp at this); omega
  clear hb1
  go_wp2_with fail
  refine (Itoa_any x0 r0 _ (HE.out.to (by go_grown))).mono ?_
  rintro e w2 ⟨rfl, hb2⟩
  have B2 : Below w.heap.size w w2 := by refine Below.trans ?_ (hb2.mono ?_) <;> go_grown
  clear B1
  obtain ⟨hc2, hf2⟩ := bcell hb2
  have hz20 : w.heap.size < w2.heap.size := by have := hb2.size; (try simp at this); omega
  have hz21 : w.heap.size + 1 < w2.heap.size := by have := hb2.size; (try simp at this); omega
  have hz22 : w.heap.size + 2 < w2.heap.size := by have := hb2.size; (try simp at this); omega
  clear hb2
  go_wp2_with fail
  rw [rounds_succ]
  go_wp2_with fail
  refine (Atoi_bad p1 (by omega) H1.out _ (HE.out.to (by go_grown))).mono ?_
  rintro e w3 ⟨v, p, rfl, hb3⟩
  have B3 : Below w.heap.size w w3 := by refine Below.trans ?_ (hb3.mono ?_) <;> go_grown
  clear B2
  obtain ⟨hc3, hf3⟩ := bcell hb3
  have hz30 : w.heap.size < w3.heap.size := by have := hb3.size; (try simp at this); omega
  have hz31 : w.heap.size + 1 < w3.heap.size := by have := hb3.size; (try simp at this); omega
  have hz32 : w.heap.size + 2 < w3.heap.size := by have := hb3.size; (try simp at this); omega
  clear hb3
  have q0 : w3.cell? ⟨w.heap.size, 0, none⟩ = some (.int .i64 0) := by go_cell
  have f0 : w3.frozen? ⟨w.heap.size, 0, none⟩ = false := by go_cell
  have q1 : w3.cell? ⟨w.heap.size, 1, none⟩ = some (.int .i64 0) := by go_cell
  have f1 : w3.frozen? ⟨w.heap.size, 1, none⟩ = false := by go_cell
  have q2 : w3.cell? ⟨w.heap.size, 2, none⟩ = some (.int .i64 0) := by go_cell
  have f2 : w3.frozen? ⟨w.heap.size, 2, none⟩ = false := by go_cell
  go_wp2_with fail
  refine bodyPost_ret (v := .tuple #[.agg #[.int .i64 0, .int .i64 0, .int .i64 0], .bool false]) ?_ rfl ⟨rfl, by go_grown⟩
  simp [results, Tryd.results26, go_sem, q0, q1, q2, f0, f1, f2]
set_option maxHeartbeats 4000000 in
set_option maxRecDepth 100000 in
theorem parse_km (s p0 p1 p2 : ByteArray) (hs : s.size ≤ 1048576) (hp : pieces s = [p0, p1, p2]) (hp0 : p0.size ≤ s.size) (hp1 : p1.size ≤ s.size) (hp2 : p2.size ≤ s.size) (x0 : Int) (h0 : Go.Lib.atoiAll p0.data.toList = .ok x0) (e0 : ((itext x0).toList == p0.toList) = true) (x1 : Int) (h1 : Go.Lib.atoiAll p1.data.toList = .ok x1) (e1 : ((itext x1).toList == p1.toList) = false) (w : World) (hE : Env w) :
    Calls Tryd.prog 26 #[.string s] w fun e w' => e = .returned (.tuple #[.agg #[.int .i64 0, .int .i64 0, .int .i64 0], .bool false]) ∧ Below w.heap.size w w' := by
  have hn : Go.Lib.countB s ⟨#[46]⟩ = 2 := by have := pieces_length s; rw [hp] at this; simp at this; omega
  have HN := Lib.hid hn
  have HP : Hid (Go.Lib.splitB ⟨#[46]⟩ 0 (Go.Lib.countB s ⟨#[46]⟩) s = [p0, p1, p2]) := hp
  have HE := Lib.hid hE
  clear hn hp hE
  have H0 := Lib.hid h0
  have r0 := Num.atoi_range h0
  clear h0
  have H1 := Lib.hid h1
  have r1 := Num.atoi_range h1
  clear h1
  go_enter Tryd.func26, Tryd.ntmps26
  go_wp2_with fail
  refine (Split_any s 46 (by omega) _ (HE.out.to (by go_grown))).mono ?_
  rintro e w0 ⟨rfl, rfl⟩
  rw [HP.out, HN.out]
  go_wp2_with fail
  refine wp_loop_rounds 4 ?_
  rw [rounds_succ]
  go_wp2_with fail
  refine (Atoi_ok p0 (by omega) x0 H0.out _).mono ?_
  rintro e w1 ⟨rfl, hb1⟩
  have B1 : Below w.heap.size w w1 := by refine Below.trans ?_ (hb1.mono ?_) <;> go_grown
  obtain ⟨hc1, hf1⟩ := bcell hb1
  have hz10 : w.heap.size < w1.heap.size := by have := hb1.size; (try simp at this); omega
  have hz11 : w.heap.size + 1 < w1.heap.size := by have := hb1.size; (try simp at this); omega
  have hz12 : w.heap.size + 2 < w1.heap.size := by have := hb1.size; (try simp at this); omega
  clear hb1
  go_wp2_with fail
  refine (Itoa_any x0 r0 _ (HE.out.to (by go_grown))).mono ?_
  rintro e w2 ⟨rfl, hb2⟩
  have B2 : Below w.heap.size w w2 := by refine Below.trans ?_ (hb2.mono ?_) <;> go_grown
  clear B1
  obtain ⟨hc2, hf2⟩ := bcell hb2
  have hz20 : w.heap.size < w2.heap.size := by have := hb2.size; (try simp at this); omega
  have hz21 : w.heap.size + 1 < w2.heap.size := by have := hb2.size; (try simp at this); omega
  have hz22 : w.heap.size + 2 < w2.heap.size := by have := hb2.size; (try simp at this); omega
  clear hb2
  go_wp2_with fail
  rw [rounds_succ]
  go_wp2_with fail
  refine (Atoi_ok p1 (by omega) x1 H1.out _).mono ?_
  rintro e w3 ⟨rfl, hb3⟩
  have B3 : Below w.heap.size w w3 := by refine Below.trans ?_ (hb3.mono ?_) <;> go_grown
  clear B2
  obtain ⟨hc3, hf3⟩ := bcell hb3
  have hz30 : w.heap.size < w3.heap.size := by have := hb3.size; (try simp at this); omega
  have hz31 : w.heap.size + 1 < w3.heap.size := by have := hb3.size; (try simp at this); omega
  have hz32 : w.heap.size + 2 < w3.heap.size := by have := hb3.size; (try simp at this); omega
  clear hb3
  go_wp2_with fail
  refine (Itoa_any x1 r1 _ (HE.out.to (by go_grown))).mono ?_
  rintro e w4 ⟨rfl, hb4⟩
  have B4 : Below w.heap.size w w4 := by refine Below.trans ?_ (hb4.mono ?_) <;> go_grown
  clear B3
  obtain ⟨hc4, hf4⟩ := bcell hb4
  have hz40 : w.heap.size < w4.heap.size := by have := hb4.size; (try simp at this); omega
  have hz41 : w.heap.size + 1 < w4.heap.size := by have := hb4.size; (try simp at this); omega
  have hz42 : w.heap.size + 2 < w4.heap.size := by have := hb4.size; (try simp at this); omega
  clear hb4
  have q0 : w4.cell? ⟨w.heap.size, 0, none⟩ = some (.int .i64 0) := by go_cell
  have f0 : w4.frozen? ⟨w.heap.size, 0, none⟩ = false := by go_cell
  have q1 : w4.cell? ⟨w.heap.size, 1, none⟩ = some (.int .i64 0) := by go_cell
  have f1 : w4.frozen? ⟨w.heap.size, 1, none⟩ = false := by go_cell
  have q2 : w4.cell? ⟨w.heap.size, 2, none⟩ = some (.int .i64 0) := by go_cell
  have f2 : w4.frozen? ⟨w.heap.size, 2, none⟩ = false := by go_cell
  go_wp2_with fail
  refine bodyPost_ret (v := .tuple #[.agg #[.int .i64 0, .int .i64 0, .int .i64 0], .bool false]) ?_ rfl ⟨rfl, by go_grown⟩
  simp [results, Tryd.results26, go_sem, q0, q1, q2, f0, f1, f2]
set_option maxHeartbeats 4000000 in
set_option maxRecDepth 100000 in
theorem parse_kkb (s p0 p1 p2 : ByteArray) (hs : s.size ≤ 1048576) (hp : pieces s = [p0, p1, p2]) (hp0 : p0.size ≤ s.size) (hp1 : p1.size ≤ s.size) (hp2 : p2.size ≤ s.size) (x0 : Int) (h0 : Go.Lib.atoiAll p0.data.toList = .ok x0) (e0 : ((itext x0).toList == p0.toList) = true) (x1 : Int) (h1 : Go.Lib.atoiAll p1.data.toList = .ok x1) (e1 : ((itext x1).toList == p1.toList) = true) (h2 : ∀ v, Go.Lib.atoiAll p2.data.toList ≠ .ok v) (w : World) (hE : Env w) :
    Calls Tryd.prog 26 #[.string s] w fun e w' => e = .returned (.tuple #[.agg #[.int .i64 0, .int .i64 0, .int .i64 0], .bool false]) ∧ Below w.heap.size w w' := by
  have hn : Go.Lib.countB s ⟨#[46]⟩ = 2 := by have := pieces_length s; rw [hp] at this; simp at this; omega
  have HN := Lib.hid hn
  have HP : Hid (Go.Lib.splitB ⟨#[46]⟩ 0 (Go.Lib.countB s ⟨#[46]⟩) s = [p0, p1, p2]) := hp
  have HE := Lib.hid hE
  clear hn hp hE
  have H0 := Lib.hid h0
  have r0 := Num.atoi_range h0
  clear h0
  have H1 := Lib.hid h1
  have r1 := Num.atoi_range h1
  clear h1
  have H2 := Lib.hid h2
  clear h2
  go_enter Tryd.func26, Tryd.ntmps26
  go_wp2_with fail
  refine (Split_any s 46 (by omega) _ (HE.out.to (by go_grown))).mono ?_
  rintro e w0 ⟨rfl, rfl⟩
  rw [HP.out, HN.out]
  go_wp2_with fail
  refine wp_loop_rounds 4 ?_
  rw [rounds_succ]
  go_wp2_with fail
  refine (Atoi_ok p0 (by omega) x0 H0.out _).mono ?_
  rintro e w1 ⟨rfl, hb1⟩
  have B1 : Below w.heap.size w w1 := by refine Below.trans ?_ (hb1.mono ?_) <;> go_grown
  obtain ⟨hc1, hf1⟩ := bcell hb1
  have hz10 : w.heap.size < w1.heap.size := by have := hb1.size; (try simp at this); omega
  have hz11 : w.heap.size + 1 < w1.heap.size := by have := hb1.size; (try simp at this); omega
  have hz12 : w.heap.size + 2 < w1.heap.size := by have := hb1.size; (try simp at this); omega
  clear hb1
  go_wp2_with fail
  refine (Itoa_any x0 r0 _ (HE.out.to (by go_grown))).mono ?_
  rintro e w2 ⟨rfl, hb2⟩
  have B2 : Below w.heap.size w w2 := by refine Below.trans ?_ (hb2.mono ?_) <;> go_grown
  clear B1
  obtain ⟨hc2, hf2⟩ := bcell hb2
  have hz20 : w.heap.size < w2.heap.size := by have := hb2.size; (try simp at this); omega
  have hz21 : w.heap.size + 1 < w2.heap.size := by have := hb2.size; (try simp at this); omega
  have hz22 : w.heap.size + 2 < w2.heap.size := by have := hb2.size; (try simp at this); omega
  clear hb2
  go_wp2_with fail
  rw [rounds_succ]
  go_wp2_with fail
  refine (Atoi_ok p1 (by omega) x1 H1.out _).mono ?_
  rintro e w3 ⟨rfl, hb3⟩
  have B3 : Below w.heap.size w w3 := by refine Below.trans ?_ (hb3.mono ?_) <;> go_grown
  clear B2
  obtain ⟨hc3, hf3⟩ := bcell hb3
  have hz30 : w.heap.size < w3.heap.size := by have := hb3.size; (try simp at this); omega
  have hz31 : w.heap.size + 1 < w3.heap.size := by have := hb3.size; (try simp at this); omega
  have hz32 : w.heap.size + 2 < w3.heap.size := by have := hb3.size; (try simp at this); omega
  clear hb3
  go_wp2_with fail
  refine (Itoa_any x1 r1 _ (HE.out.to (by go_grown))).mono ?_
  rintro e w4 ⟨rfl, hb4⟩
  have B4 : Below w.heap.size w w4 := by refine Below.trans ?_ (hb4.mono ?_) <;> go_grown
  clear B3
  obtain ⟨hc4, hf4⟩ := bcell hb4
  have hz40 : w.heap.size < w4.heap.size := by have := hb4.size; (try simp at this); omega
  have hz41 : w.heap.size + 1 < w4.heap.size := by have := hb4.size; (try simp at this); omega
  have hz42 : w.heap.size + 2 < w4.heap.size := by have := hb4.size; (try simp at this); omega
  clear hb4
  go_wp2_with fail
  rw [rounds_succ]
  go_wp2_with fail
  refine (Atoi_bad p2 (by omega) H2.out _ (HE.out.to (by go_grown))).mono ?_
  rintro e w5 ⟨v, p, rfl, hb5⟩
  have B5 : Below w.heap.size w w5 := by refine Below.trans ?_ (hb5.mono ?_) <;> go_grown
  clear B4
  obtain ⟨hc5, hf5⟩ := bcell hb5
  have hz50 : w.heap.size < w5.heap.size := by have := hb5.size; (try simp at this); omega
  have hz51 : w.heap.size + 1 < w5.heap.size := by have := hb5.size; (try simp at this); omega
  have hz52 : w.heap.size + 2 < w5.heap.size := by have := hb5.size; (try simp at this); omega
  clear hb5
  have q0 : w5.cell? ⟨w.heap.size, 0, none⟩ = some (.int .i64 0) := by go_cell
  have f0 : w5.frozen? ⟨w.heap.size, 0, none⟩ = false := by go_cell
  have q1 : w5.cell? ⟨w.heap.size, 1, none⟩ = some (.int .i64 0) := by go_cell
  have f1 : w5.frozen? ⟨w.heap.size, 1, none⟩ = false := by go_cell
  have q2 : w5.cell? ⟨w.heap.size, 2, none⟩ = some (.int .i64 0) := by go_cell
  have f2 : w5.frozen? ⟨w.heap.size, 2, none⟩ = false := by go_cell
  go_wp2_with fail
  refine bodyPost_ret (v := .tuple #[.agg #[.int .i64 0, .int .i64 0, .int .i64 0], .bool false]) ?_ rfl ⟨rfl, by go_grown⟩
  simp [results, Tryd.results26, go_sem, q0, q1, q2, f0, f1, f2]
set_option maxHeartbeats 4000000 in
set_option maxRecDepth 100000 in
theorem parse_kkm (s p0 p1 p2 : ByteArray) (hs : s.size ≤ 1048576) (hp : pieces s = [p0, p1, p2]) (hp0 : p0.size ≤ s.size) (hp1 : p1.size ≤ s.size) (hp2 : p2.size ≤ s.size) (x0 : Int) (h0 : Go.Lib.atoiAll p0.data.toList = .ok x0) (e0 : ((itext x0).toList == p0.toList) = true) (x1 : Int) (h1 : Go.Lib.atoiAll p1.data.toList = .ok x1) (e1 : ((itext x1).toList == p1.toList) = true) (x2 : Int) (h2 : Go.Lib.atoiAll p2.data.toList = .ok x2) (e2 : ((itext x2).toList == p2.toList) = false) (w : World) (hE : Env w) :
    Calls Tryd.prog 26 #[.string s] w fun e w' => e = .returned (.tuple #[.agg #[.int .i64 0, .int .i64 0, .int .i64 0], .bool false]) ∧ Below w.heap.size w w' := by
  have hn : Go.Lib.countB s ⟨#[46]⟩ = 2 := by have := pieces_length s; rw [hp] at this; simp at this; omega
  have HN := Lib.hid hn
  have HP : Hid (Go.Lib.splitB ⟨#[46]⟩ 0 (Go.Lib.countB s ⟨#[46]⟩) s = [p0, p1, p2]) := hp
  have HE := Lib.hid hE
  clear hn hp hE
  have H0 := Lib.hid h0
  have r0 := Num.atoi_range h0
  clear h0
  have H1 := Lib.hid h1
  have r1 := Num.atoi_range h1
  clear h1
  have H2 := Lib.hid h2
  have r2 := Num.atoi_range h2
  clear h2
  go_enter Tryd.func26, Tryd.ntmps26
  go_wp2_with fail
  refine (Split_any s 46 (by omega) _ (HE.out.to (by go_grown))).mono ?_
  rintro e w0 ⟨rfl, rfl⟩
  rw [HP.out, HN.out]
  go_wp2_with fail
  refine wp_loop_rounds 4 ?_
  rw [rounds_succ]
  go_wp2_with fail
  refine (Atoi_ok p0 (by omega) x0 H0.out _).mono ?_
  rintro e w1 ⟨rfl, hb1⟩
  have B1 : Below w.heap.size w w1 := by refine Below.trans ?_ (hb1.mono ?_) <;> go_grown
  obtain ⟨hc1, hf1⟩ := bcell hb1
  have hz10 : w.heap.size < w1.heap.size := by have := hb1.size; (try simp at this); omega
  have hz11 : w.heap.size + 1 < w1.heap.size := by have := hb1.size; (try simp at this); omega
  have hz12 : w.heap.size + 2 < w1.heap.size := by have := hb1.size; (try simp at this); omega
  clear hb1
  go_wp2_with fail
  refine (Itoa_any x0 r0 _ (HE.out.to (by go_grown))).mono ?_
  rintro e w2 ⟨rfl, hb2⟩
  have B2 : Below w.heap.size w w2 := by refine Below.trans ?_ (hb2.mono ?_) <;> go_grown
  clear B1
  obtain ⟨hc2, hf2⟩ := bcell hb2
  have hz20 : w.heap.size < w2.heap.size := by have := hb2.size; (try simp at this); omega
  have hz21 : w.heap.size + 1 < w2.heap.size := by have := hb2.size; (try simp at this); omega
  have hz22 : w.heap.size + 2 < w2.heap.size := by have := hb2.size; (try simp at this); omega
  clear hb2
  go_wp2_with fail
  rw [rounds_succ]
  go_wp2_with fail
  refine (Atoi_ok p1 (by omega) x1 H1.out _).mono ?_
  rintro e w3 ⟨rfl, hb3⟩
  have B3 : Below w.heap.size w w3 := by refine Below.trans ?_ (hb3.mono ?_) <;> go_grown
  clear B2
  obtain ⟨hc3, hf3⟩ := bcell hb3
  have hz30 : w.heap.size < w3.heap.size := by have := hb3.size; (try simp at this); omega
  have hz31 : w.heap.size + 1 < w3.heap.size := by have := hb3.size; (try simp at this); omega
  have hz32 : w.heap.size + 2 < w3.heap.size := by have := hb3.size; (try simp at this); omega
  clear hb3
  go_wp2_with fail
  refine (Itoa_any x1 r1 _ (HE.out.to (by go_grown))).mono ?_
  rintro e w4 ⟨rfl, hb4⟩
  have B4 : Below w.heap.size w w4 := by refine Below.trans ?_ (hb4.mono ?_) <;> go_grown
  clear B3
  obtain ⟨hc4, hf4⟩ := bcell hb4
  have hz40 : w.heap.size < w4.heap.size := by have := hb4.size; (try simp at this); omega
  have hz41 : w.heap.size + 1 < w4.heap.size := by have := hb4.size; (try simp at this); omega
  have hz42 : w.heap.size + 2 < w4.heap.size := by have := hb4.size; (try simp at this); omega
  clear hb4
  go_wp2_with fail
  rw [rounds_succ]
  go_wp2_with fail
  refine (Atoi_ok p2 (by omega) x2 H2.out _).mono ?_
  rintro e w5 ⟨rfl, hb5⟩
  have B5 : Below w.heap.size w w5 := by refine Below.trans ?_ (hb5.mono ?_) <;> go_grown
  clear B4
  obtain ⟨hc5, hf5⟩ := bcell hb5
  have hz50 : w.heap.size < w5.heap.size := by have := hb5.size; (try simp at this); omega
  have hz51 : w.heap.size + 1 < w5.heap.size := by have := hb5.size; (try simp at this); omega
  have hz52 : w.heap.size + 2 < w5.heap.size := by have := hb5.size; (try simp at this); omega
  clear hb5
  go_wp2_with fail
  refine (Itoa_any x2 r2 _ (HE.out.to (by go_grown))).mono ?_
  rintro e w6 ⟨rfl, hb6⟩
  have B6 : Below w.heap.size w w6 := by refine Below.trans ?_ (hb6.mono ?_) <;> go_grown
  clear B5
  obtain ⟨hc6, hf6⟩ := bcell hb6
  have hz60 : w.heap.size < w6.heap.size := by have := hb6.size; (try simp at this); omega
  have hz61 : w.heap.size + 1 < w6.heap.size := by have := hb6.size; (try simp at this); omega
  have hz62 : w.heap.size + 2 < w6.heap.size := by have := hb6.size; (try simp at this); omega
  clear hb6
  have q0 : w6.cell? ⟨w.heap.size, 0, none⟩ = some (.int .i64 0) := by go_cell
  have f0 : w6.frozen? ⟨w.heap.size, 0, none⟩ = false := by go_cell
  have q1 : w6.cell? ⟨w.heap.size, 1, none⟩ = some (.int .i64 0) := by go_cell
  have f1 : w6.frozen? ⟨w.heap.size, 1, none⟩ = false := by go_cell
  have q2 : w6.cell? ⟨w.heap.size, 2, none⟩ = some (.int .i64 0) := by go_cell
  have f2 : w6.frozen? ⟨w.heap.size, 2, none⟩ = false := by go_cell
  go_wp2_with fail
  refine bodyPost_ret (v := .tuple #[.agg #[.int .i64 0, .int .i64 0, .int .i64 0], .bool false]) ?_ rfl ⟨rfl, by go_grown⟩
  simp [results, Tryd.results26, go_sem, q0, q1, q2, f0, f1, f2]
set_option maxHeartbeats 4000000 in
set_option maxRecDepth 100000 in
theorem parse_no (s p0 p1 p2 : ByteArray) (hs : s.size ≤ 1048576) (hp : pieces s = [p0, p1, p2]) (hp0 : p0.size ≤ s.size) (hp1 : p1.size ≤ s.size) (hp2 : p2.size ≤ s.size) (x0 : Int) (h0 : Go.Lib.atoiAll p0.data.toList = .ok x0) (e0 : ((itext x0).toList == p0.toList) = true) (x1 : Int) (h1 : Go.Lib.atoiAll p1.data.toList = .ok x1) (e1 : ((itext x1).toList == p1.toList) = true) (x2 : Int) (h2 : Go.Lib.atoiAll p2.data.toList = .ok x2) (e2 : ((itext x2).toList == p2.toList) = true) (hmay : V.may x0 x1 x2 = false) (w : World) (hE : Env w) :
    Calls Tryd.prog 26 #[.string s] w fun e w' => e = .returned (.tuple #[.agg #[.int .i64 0, .int .i64 0, .int .i64 0], .bool false]) ∧ Below w.heap.size w w' := by
  have hn : Go.Lib.countB s ⟨#[46]⟩ = 2 := by have := pieces_length s; rw [hp] at this; simp at this; omega
  have HN := Lib.hid hn
  have HP : Hid (Go.Lib.splitB ⟨#[46]⟩ 0 (Go.Lib.countB s ⟨#[46]⟩) s = [p0, p1, p2]) := hp
  have HE := Lib.hid hE
  clear hn hp hE
  have H0 := Lib.hid h0
  have r0 := Num.atoi_range h0
  clear h0
  have H1 := Lib.hid h1
  have r1 := Num.atoi_range h1
  clear h1
  have H2 := Lib.hid h2
  have r2 := Num.atoi_range h2
  clear h2
  have HM := Lib.hid hmay
  clear hmay
  go_enter Tryd.func26, Tryd.ntmps26
  go_wp2_with fail
  refine (Split_any s 46 (by omega) _ (HE.out.to (by go_grown))).mono ?_
  rintro e w0 ⟨rfl, rfl⟩
  rw [HP.out, HN.out]
  go_wp2_with fail
  refine wp_loop_rounds 4 ?_
  rw [rounds_succ]
  go_wp2_with fail
  refine (Atoi_ok p0 (by omega) x0 H0.out _).mono ?_
  rintro e w1 ⟨rfl, hb1⟩
  have B1 : Below w.heap.size w w1 := by refine Below.trans ?_ (hb1.mono ?_) <;> go_grown
  obtain ⟨hc1, hf1⟩ := bcell hb1
  have hz10 : w.heap.size < w1.heap.size := by have := hb1.size; (try simp at this); omega
  have hz11 : w.heap.size + 1 < w1.heap.size := by have := hb1.size; (try simp at this); omega
  have hz12 : w.heap.size + 2 < w1.heap.size := by have := hb1.size; (try simp at this); omega
  clear hb1
  go_wp2_with fail
  refine (Itoa_any x0 r0 _ (HE.out.to (by go_grown))).mono ?_
  rintro e w2 ⟨rfl, hb2⟩
  have B2 : Below w.heap.size w w2 := by refine Below.trans ?_ (hb2.mono ?_) <;> go_grown
  clear B1
  obtain ⟨hc2, hf2⟩ := bcell hb2
  have hz20 : w.heap.size < w2.heap.size := by have := hb2.size; (try simp at this); omega
  have hz21 : w.heap.size + 1 < w2.heap.size := by have := hb2.size; (try simp at this); omega
  have hz22 : w.heap.size + 2 < w2.heap.size := by have := hb2.size; (try simp at this); omega
  clear hb2
  go_wp2_with fail
  rw [rounds_succ]
  go_wp2_with fail
  refine (Atoi_ok p1 (by omega) x1 H1.out _).mono ?_
  rintro e w3 ⟨rfl, hb3⟩
  have B3 : Below w.heap.size w w3 := by refine Below.trans ?_ (hb3.mono ?_) <;> go_grown
  clear B2
  obtain ⟨hc3, hf3⟩ := bcell hb3
  have hz30 : w.heap.size < w3.heap.size := by have := hb3.size; (try simp at this); omega
  have hz31 : w.heap.size + 1 < w3.heap.size := by have := hb3.size; (try simp at this); omega
  have hz32 : w.heap.size + 2 < w3.heap.size := by have := hb3.size; (try simp at this); omega
  clear hb3
  go_wp2_with fail
  refine (Itoa_any x1 r1 _ (HE.out.to (by go_grown))).mono ?_
  rintro e w4 ⟨rfl, hb4⟩
  have B4 : Below w.heap.size w w4 := by refine Below.trans ?_ (hb4.mono ?_) <;> go_grown
  clear B3
  obtain ⟨hc4, hf4⟩ := bcell hb4
  have hz40 : w.heap.size < w4.heap.size := by have := hb4.size; (try simp at this); omega
  have hz41 : w.heap.size + 1 < w4.heap.size := by have := hb4.size; (try simp at this); omega
  have hz42 : w.heap.size + 2 < w4.heap.size := by have := hb4.size; (try simp at this); omega
  clear hb4
  go_wp2_with fail
  rw [rounds_succ]
  go_wp2_with fail
  refine (Atoi_ok p2 (by omega) x2 H2.out _).mono ?_
  rintro e w5 ⟨rfl, hb5⟩
  have B5 : Below w.heap.size w w5 := by refine Below.trans ?_ (hb5.mono ?_) <;> go_grown
  clear B4
  obtain ⟨hc5, hf5⟩ := bcell hb5
  have hz50 : w.heap.size < w5.heap.size := by have := hb5.size; (try simp at this); omega
  have hz51 : w.heap.size + 1 < w5.heap.size := by have := hb5.size; (try simp at this); omega
  have hz52 : w.heap.size + 2 < w5.heap.size := by have := hb5.size; (try simp at this); omega
  clear hb5
  go_wp2_with fail
  refine (Itoa_any x2 r2 _ (HE.out.to (by go_grown))).mono ?_
  rintro e w6 ⟨rfl, hb6⟩
  have B6 : Below w.heap.size w w6 := by refine Below.trans ?_ (hb6.mono ?_) <;> go_grown
  clear B5
  obtain ⟨hc6, hf6⟩ := bcell hb6
  have hz60 : w.heap.size < w6.heap.size := by have := hb6.size; (try simp at this); omega
  have hz61 : w.heap.size + 1 < w6.heap.size := by have := hb6.size; (try simp at this); omega
  have hz62 : w.heap.size + 2 < w6.heap.size := by have := hb6.size; (try simp at this); omega
  clear hb6
  go_wp2_with fail
  rw [rounds_succ]
  go_wp2_with fail
  refine (may_any _ _ _ _).mono ?_
  rintro e w7 ⟨rfl, hb7⟩
  rw [HM.out]
  have B7 : Below w.heap.size w w7 := by refine Below.trans ?_ (hb7.mono ?_) <;> go_grown
  clear B6
  obtain ⟨hc7, hf7⟩ := bcell hb7
  have hz70 : w.heap.size < w7.heap.size := by have := hb7.size; (try simp at this); omega
  have hz71 : w.heap.size + 1 < w7.heap.size := by have := hb7.size; (try simp at this); omega
  have hz72 : w.heap.size + 2 < w7.heap.size := by have := hb7.size; (try simp at this); omega
  have hz73 : w6.heap.size < w7.heap.size := by have := hb7.size; (try simp at this); omega
  clear hb7
  have q0 : w7.cell? ⟨w.heap.size, 0, none⟩ = some (.int .i64 0) := by go_cell
  have f0 : w7.frozen? ⟨w.heap.size, 0, none⟩ = false := by go_cell
  have q1 : w7.cell? ⟨w.heap.size, 1, none⟩ = some (.int .i64 0) := by go_cell
  have f1 : w7.frozen? ⟨w.heap.size, 1, none⟩ = false := by go_cell
  have q2 : w7.cell? ⟨w.heap.size, 2, none⟩ = some (.int .i64 0) := by go_cell
  have f2 : w7.frozen? ⟨w.heap.size, 2, none⟩ = false := by go_cell
  go_wp2_with fail
  refine bodyPost_ret (v := .tuple #[.agg #[.int .i64 0, .int .i64 0, .int .i64 0], .bool false]) ?_ rfl ⟨rfl, by go_grown⟩
  simp [results, Tryd.results26, go_sem, q0, q1, q2, f0, f1, f2]
set_option maxHeartbeats 4000000 in
set_option maxRecDepth 100000 in
theorem parse_yes (s p0 p1 p2 : ByteArray) (hs : s.size ≤ 1048576) (hp : pieces s = [p0, p1, p2]) (hp0 : p0.size ≤ s.size) (hp1 : p1.size ≤ s.size) (hp2 : p2.size ≤ s.size) (x0 : Int) (h0 : Go.Lib.atoiAll p0.data.toList = .ok x0) (e0 : ((itext x0).toList == p0.toList) = true) (x1 : Int) (h1 : Go.Lib.atoiAll p1.data.toList = .ok x1) (e1 : ((itext x1).toList == p1.toList) = true) (x2 : Int) (h2 : Go.Lib.atoiAll p2.data.toList = .ok x2) (e2 : ((itext x2).toList == p2.toList) = true) (hmay : V.may x0 x1 x2 = true) (w : World) (hE : Env w) :
    Calls Tryd.prog 26 #[.string s] w fun e w' => e = .returned (.tuple #[.agg #[.int .i64 x0, .int .i64 x1, .int .i64 x2], .bool true]) ∧ Below w.heap.size w w' := by
  have hn : Go.Lib.countB s ⟨#[46]⟩ = 2 := by have := pieces_length s; rw [hp] at this; simp at this; omega
  have HN := Lib.hid hn
  have HP : Hid (Go.Lib.splitB ⟨#[46]⟩ 0 (Go.Lib.countB s ⟨#[46]⟩) s = [p0, p1, p2]) := hp
  have HE := Lib.hid hE
  clear hn hp hE
  have H0 := Lib.hid h0
  have r0 := Num.atoi_range h0
  clear h0
  have H1 := Lib.hid h1
  have r1 := Num.atoi_range h1
  clear h1
  have H2 := Lib.hid h2
  have r2 := Num.atoi_range h2
  clear h2
  have HM := Lib.hid hmay
  clear hmay
  go_enter Tryd.func26, Tryd.ntmps26
  go_wp2_with fail
  refine (Split_any s 46 (by omega) _ (HE.out.to (by go_grown))).mono ?_
  rintro e w0 ⟨rfl, rfl⟩
  rw [HP.out, HN.out]
  go_wp2_with fail
  refine wp_loop_rounds 4 ?_
  rw [rounds_succ]
  go_wp2_with fail
  refine (Atoi_ok p0 (by omega) x0 H0.out _).mono ?_
  rintro e w1 ⟨rfl, hb1⟩
  have B1 : Below w.heap.size w w1 := by refine Below.trans ?_ (hb1.mono ?_) <;> go_grown
  obtain ⟨hc1, hf1⟩ := bcell hb1
  have hz10 : w.heap.size < w1.heap.size := by have := hb1.size; (try simp at this); omega
  have hz11 : w.heap.size + 1 < w1.heap.size := by have := hb1.size; (try simp at this); omega
  have hz12 : w.heap.size + 2 < w1.heap.size := by have := hb1.size; (try simp at this); omega
  clear hb1
  go_wp2_with fail
  refine (Itoa_any x0 r0 _ (HE.out.to (by go_grown))).mono ?_
  rintro e w2 ⟨rfl, hb2⟩
  have B2 : Below w.heap.size w w2 := by refine Below.trans ?_ (hb2.mono ?_) <;> go_grown
  clear B1
  obtain ⟨hc2, hf2⟩ := bcell hb2
  have hz20 : w.heap.size < w2.heap.size := by have := hb2.size; (try simp at this); omega
  have hz21 : w.heap.size + 1 < w2.heap.size := by have := hb2.size; (try simp at this); omega
  have hz22 : w.heap.size + 2 < w2.heap.size := by have := hb2.size; (try simp at this); omega
  clear hb2
  go_wp2_with fail
  rw [rounds_succ]
  go_wp2_with fail
  refine (Atoi_ok p1 (by omega) x1 H1.out _).mono ?_
  rintro e w3 ⟨rfl, hb3⟩
  have B3 : Below w.heap.size w w3 := by refine Below.trans ?_ (hb3.mono ?_) <;> go_grown
  clear B2
  obtain ⟨hc3, hf3⟩ := bcell hb3
  have hz30 : w.heap.size < w3.heap.size := by have := hb3.size; (try simp at this); omega
  have hz31 : w.heap.size + 1 < w3.heap.size := by have := hb3.size; (try simp at this); omega
  have hz32 : w.heap.size + 2 < w3.heap.size := by have := hb3.size; (try simp at this); omega
  clear hb3
  go_wp2_with fail
  refine (Itoa_any x1 r1 _ (HE.out.to (by go_grown))).mono ?_
  rintro e w4 ⟨rfl, hb4⟩
  have B4 : Below w.heap.size w w4 := by refine Below.trans ?_ (hb4.mono ?_) <;> go_grown
  clear B3
  obtain ⟨hc4, hf4⟩ := bcell hb4
  have hz40 : w.heap.size < w4.heap.size := by have := hb4.size; (try simp at this); omega
  have hz41 : w.heap.size + 1 < w4.heap.size := by have := hb4.size; (try simp at this); omega
  have hz42 : w.heap.size + 2 < w4.heap.size := by have := hb4.size; (try simp at this); omega
  clear hb4
  go_wp2_with fail
  rw [rounds_succ]
  go_wp2_with fail
  refine (Atoi_ok p2 (by omega) x2 H2.out _).mono ?_
  rintro e w5 ⟨rfl, hb5⟩
  have B5 : Below w.heap.size w w5 := by refine Below.trans ?_ (hb5.mono ?_) <;> go_grown
  clear B4
  obtain ⟨hc5, hf5⟩ := bcell hb5
  have hz50 : w.heap.size < w5.heap.size := by have := hb5.size; (try simp at this); omega
  have hz51 : w.heap.size + 1 < w5.heap.size := by have := hb5.size; (try simp at this); omega
  have hz52 : w.heap.size + 2 < w5.heap.size := by have := hb5.size; (try simp at this); omega
  clear hb5
  go_wp2_with fail
  refine (Itoa_any x2 r2 _ (HE.out.to (by go_grown))).mono ?_
  rintro e w6 ⟨rfl, hb6⟩
  have B6 : Below w.heap.size w w6 := by refine Below.trans ?_ (hb6.mono ?_) <;> go_grown
  clear B5
  obtain ⟨hc6, hf6⟩ := bcell hb6
  have hz60 : w.heap.size < w6.heap.size := by have := hb6.size; (try simp at this); omega
  have hz61 : w.heap.size + 1 < w6.heap.size := by have := hb6.size; (try simp at this); omega
  have hz62 : w.heap.size + 2 < w6.heap.size := by have := hb6.size; (try simp at this); omega
  clear hb6
  go_wp2_with fail
  rw [rounds_succ]
  go_wp2_with fail
  refine (may_any _ _ _ _).mono ?_
  rintro e w7 ⟨rfl, hb7⟩
  rw [HM.out]
  have B7 : Below w.heap.size w w7 := by refine Below.trans ?_ (hb7.mono ?_) <;> go_grown
  clear B6
  obtain ⟨hc7, hf7⟩ := bcell hb7
  have hz70 : w.heap.size < w7.heap.size := by have := hb7.size; (try simp at this); omega
  have hz71 : w.heap.size + 1 < w7.heap.size := by have := hb7.size; (try simp at this); omega
  have hz72 : w.heap.size + 2 < w7.heap.size := by have := hb7.size; (try simp at this); omega
  have hz73 : w6.heap.size < w7.heap.size := by have := hb7.size; (try simp at this); omega
  clear hb7
  have q0 : w7.cell? ⟨w.heap.size, 0, none⟩ = some (.int .i64 0) := by go_cell
  have f0 : w7.frozen? ⟨w.heap.size, 0, none⟩ = false := by go_cell
  have q1 : w7.cell? ⟨w.heap.size, 1, none⟩ = some (.int .i64 0) := by go_cell
  have f1 : w7.frozen? ⟨w.heap.size, 1, none⟩ = false := by go_cell
  have q2 : w7.cell? ⟨w.heap.size, 2, none⟩ = some (.int .i64 0) := by go_cell
  have f2 : w7.frozen? ⟨w.heap.size, 2, none⟩ = false := by go_cell
  go_wp2_with fail
  refine bodyPost_ret (v := .tuple #[.agg #[.int .i64 x0, .int .i64 x1, .int .i64 x2], .bool true]) ?_ rfl ⟨rfl, by go_grown⟩
  simp [results, Tryd.results26, go_sem, q0, q1, q2, f0, f1, f2]
end Go.Proofs.YtjiifieafnjpgaaDoor.VL

namespace Go.Proofs.YtjiifieafnjpgaaDoor.VL
open Go.RowKit
set_option linter.unusedSimpArgs false
set_option linter.unusedVariables false
/-- Is a text a version's? -/
def V.IsVer (l : List UInt8) : Prop := ∃ a b c : Int, V.may a b c = true ∧ l = V.text a b c
theorem piece_lists (s : ByteArray) : (pieces s).map (·.data.toList) = Cut.cuts 46 s.data.toList := Cut.splitB_cuts 46 s
theorem piece_size {s p : ByteArray} (h : p ∈ pieces s) : p.size ≤ s.size := by
  have := Cut.cuts_le 46 s.data.toList p.data.toList (by rw [← piece_lists]; exact List.mem_map.2 ⟨p, h, rfl⟩)
  simpa using this
theorem glued {s p0 p1 p2 : ByteArray} (h : pieces s = [p0, p1, p2]) : s.data.toList = p0.data.toList ++ 46 :: (p1.data.toList ++ 46 :: p2.data.toList) := by
  have := Cut.glue_cuts 46 s.data.toList
  rw [← piece_lists, h] at this
  simpa [Cut.glue] using this.symm
theorem dec_no_dot (u : Nat) : (46 : UInt8) ∉ Go.Lib.decDigits u := fun h => by
  have := (Num.dec_digit u 46 h).1
  exact absurd this (by decide)
theorem cuts_text (a b c : Int) : Cut.cuts 46 (V.text a b c) = [Go.Lib.decDigits a.toNat, Go.Lib.decDigits b.toNat, Go.Lib.decDigits c.toNat] := by
  unfold V.text
  rw [Cut.cuts_append (dec_no_dot _), Cut.cuts_append (dec_no_dot _), Cut.cuts_one (dec_no_dot _)]
theorem isVer_of {s p0 p1 p2 : ByteArray} {x0 x1 x2 : Int} (h : pieces s = [p0, p1, p2]) (e0 : ((itext x0).toList == p0.toList) = true) (e1 : ((itext x1).toList == p1.toList) = true) (e2 : ((itext x2).toList == p2.toList) = true)
    (hm : V.may x0 x1 x2 = true) : s.data.toList = V.text x0 x1 x2 := by
  have hb := V.may_iff.1 hm
  rw [itext_list, ByteArray.toList_eq, beq_iff_eq, Num.itoa_nat (by omega)] at e0 e1 e2
  rw [glued h, ← e0, ← e1, ← e2]
  rfl
set_option maxHeartbeats 1000000 in
theorem parse_len (s : ByteArray) (hs : s.size ≤ 1048576) (hn : ¬ Go.Lib.countB s ⟨#[46]⟩ = 2) (w : World) (hE : Env w) :
    Calls Tryd.prog 26 #[.string s] w fun e w' => e = .returned (.tuple #[.agg #[.int .i64 0, .int .i64 0, .int .i64 0], .bool false]) ∧ Below w.heap.size w w' := by
  have hne : ((((Go.Lib.countB s ⟨#[46]⟩ + 1 : Nat) : Int)) == 3) = false := by rw [beq_eq_false_iff_ne]; omega
  have hle : Go.Lib.countB s ⟨#[46]⟩ ≤ s.size := Go.Lib.countB_le _ (by decide) s.size s (Nat.le_refl _)
  obtain ⟨n, hn'⟩ : ∃ n, Go.Lib.countB s ⟨#[46]⟩ = n := ⟨_, rfl⟩
  rw [hn'] at hne hle
  have HE := Lib.hid hE
  have HN := Lib.hid hn'
  have hn3 : ¬ n = 2 := by rw [← hn']; exact hn
  clear hE hn hn' hne
  go_enter Tryd.func26, Tryd.ntmps26
  go_wp2_with fail
  refine (Split_any s 46 (by omega) _ (HE.out.to (by go_grown))).mono ?_
  rintro e w0 ⟨rfl, rfl⟩
  rw [HN.out]
  go_wp2_with fail
  refine bodyPost_ret (v := .tuple #[.agg #[.int .i64 0, .int .i64 0, .int .i64 0], .bool false]) ?_ rfl ⟨rfl, by go_grown⟩
  simp [results, Tryd.results26, go_sem]
theorem parse_no_any (s : ByteArray) (hs : s.size ≤ 1048576) (h : ¬ V.IsVer s.data.toList) (w : World) (hE : Env w) :
    Calls Tryd.prog 26 #[.string s] w fun e w' => e = .returned (.tuple #[.agg #[.int .i64 0, .int .i64 0, .int .i64 0], .bool false]) ∧ Below w.heap.size w w' := by
  by_cases hn : Go.Lib.countB s ⟨#[46]⟩ = 2
  · have hl := pieces_length s
    rw [hn] at hl
    rcases hp : pieces s with _ | ⟨p0, _ | ⟨p1, _ | ⟨p2, _ | ⟨p3, r⟩⟩⟩⟩
    case cons.cons.cons.nil =>
      have s0 : p0.size ≤ s.size := piece_size (by rw [hp]; simp)
      have s1 : p1.size ≤ s.size := piece_size (by rw [hp]; simp)
      have s2 : p2.size ≤ s.size := piece_size (by rw [hp]; simp)
      by_cases h0 : ∃ x0, Go.Lib.atoiAll p0.data.toList = .ok x0
      · obtain ⟨x0, h0⟩ := h0
        cases e0 : ((itext x0).toList == p0.toList)
        · exact parse_m s p0 p1 p2 hs hp s0 s1 s2 x0 h0 e0 w hE
        by_cases h1 : ∃ x1, Go.Lib.atoiAll p1.data.toList = .ok x1
        · obtain ⟨x1, h1⟩ := h1
          cases e1 : ((itext x1).toList == p1.toList)
          · exact parse_km s p0 p1 p2 hs hp s0 s1 s2 x0 h0 e0 x1 h1 e1 w hE
          by_cases h2 : ∃ x2, Go.Lib.atoiAll p2.data.toList = .ok x2
          · obtain ⟨x2, h2⟩ := h2
            cases e2 : ((itext x2).toList == p2.toList)
            · exact parse_kkm s p0 p1 p2 hs hp s0 s1 s2 x0 h0 e0 x1 h1 e1 x2 h2 e2 w hE
            cases hm : V.may x0 x1 x2
            · exact parse_no s p0 p1 p2 hs hp s0 s1 s2 x0 h0 e0 x1 h1 e1 x2 h2 e2 hm w hE
            · exact absurd ⟨x0, x1, x2, hm, isVer_of hp e0 e1 e2 hm⟩ h
          · exact parse_kkb s p0 p1 p2 hs hp s0 s1 s2 x0 h0 e0 x1 h1 e1 (fun v hv => h2 ⟨v, hv⟩) w hE
        · exact parse_kb s p0 p1 p2 hs hp s0 s1 s2 x0 h0 e0 (fun v hv => h1 ⟨v, hv⟩) w hE
      · exact parse_b s p0 p1 p2 hs hp s0 s1 s2 (fun v hv => h0 ⟨v, hv⟩) w hE
    all_goals (rw [hp] at hl; simp at hl)
  · exact parse_len s hs hn w hE
theorem piece_of {p : ByteArray} {n : Int} (h : 0 ≤ n ∧ n ≤ 999) (e : p.data.toList = Go.Lib.decDigits n.toNat) : Go.Lib.atoiAll p.data.toList = .ok n ∧ ((itext n).toList == p.toList) = true := by
  refine ⟨?_, ?_⟩
  · rw [e, Num.atoi_dec (by omega)]; congr 1; omega
  · rw [itext_list, ByteArray.toList_eq, beq_iff_eq, Num.itoa_nat (by omega), e]
theorem parse_yes_any (s : ByteArray) (a b c : Int) (hm : V.may a b c = true) (e : s.data.toList = V.text a b c) (w : World) (hE : Env w) :
    Calls Tryd.prog 26 #[.string s] w fun e w' => e = .returned (.tuple #[.agg #[.int .i64 a, .int .i64 b, .int .i64 c], .bool true]) ∧ Below w.heap.size w w' := by
  have hb := V.may_iff.1 hm
  have hs : s.size ≤ 1048576 := by
    have h1 := (V.dec_short (u := a.toNat) (by omega)).1
    have h2 := (V.dec_short (u := b.toNat) (by omega)).1
    have h3 := (V.dec_short (u := c.toNat) (by omega)).1
    have h4 : s.size = s.data.toList.length := by simp
    rw [h4, e]
    simp only [V.text, List.length_append, List.length_cons]
    omega
  have hl := piece_lists s
  rw [e, cuts_text] at hl
  rcases hp : pieces s with _ | ⟨p0, _ | ⟨p1, _ | ⟨p2, _ | ⟨p3, r⟩⟩⟩⟩
  case cons.cons.cons.nil =>
    rw [hp] at hl
    simp only [List.map_cons, List.map_nil, List.cons.injEq, and_true] at hl
    obtain ⟨l0, l1, l2⟩ := hl
    obtain ⟨a0, b0⟩ := piece_of hb.1 l0
    obtain ⟨a1, b1⟩ := piece_of hb.2.1 l1
    obtain ⟨a2, b2⟩ := piece_of hb.2.2 l2
    exact parse_yes s p0 p1 p2 hs hp (piece_size (by rw [hp]; simp)) (piece_size (by rw [hp]; simp)) (piece_size (by rw [hp]; simp)) a a0 b0 b a1 b1 c a2 b2 hm w hE
  all_goals (rw [hp] at hl; simp at hl)
end Go.Proofs.YtjiifieafnjpgaaDoor.VL

namespace Go.Proofs.YtjiifieafnjpgaaDoor.VL
open Go.RowKit
set_option linter.unusedSimpArgs false
set_option linter.unusedVariables false
/-- What Parse of the document answers. -/
def V.rno : Value := .tuple #[.agg #[.int .i64 0, .int .i64 0, .int .i64 0], .bool false]
def V.rans (l : List UInt8) : Value :=
  match V.run [0] l with
  | some [a, b, c] => if ((V.str a b c).toList == l) = true then .tuple #[.agg #[.int .i64 a, .int .i64 b, .int .i64 c], .bool true] else V.rno
  | _ => V.rno
end Go.Proofs.YtjiifieafnjpgaaDoor.VL
