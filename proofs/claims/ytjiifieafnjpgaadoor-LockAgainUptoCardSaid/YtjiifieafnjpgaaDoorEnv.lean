/- What the library's variables hold when the call begins, and that it stays so: the table of powers of ten, the two errors of strconv, bytealg's MaxLen. -/
import Derived.Test.YtjiifieafnjpgaaDoorChecked
import Derived.Test.YtjiifieafnjpgaaDoorShelf
import Derived.Handy
import Derived.WalkSmall
import Derived.Lib.LaidTab
import Derived.Lib.LaidU8
import Derived.Test.YtjiifieafnjpgaaDoorNum
namespace Go.Proofs.YtjiifieafnjpgaaDoor
open Go.RowKit
theorem size_of_var {P : Program} {w : World} {n : String} {g : Nat} {cs : Array Value} (hg : P.globalNamed n = some g) (h : w.var? P n = some cs) : g < w.heap.size := by
  unfold World.var? at h
  rw [hg] at h
  simp only [Option.bind_some] at h
  refine Decidable.byContradiction fun hh => ?_
  rw [Array.getElem?_eq_none (by omega)] at h
  exact absurd h (by simp)
theorem size_of_cell {w : World} {b o : Nat} {v : Value} (h : w.cell? ⟨b, o, none⟩ = some v) : b < w.heap.size := by
  refine Decidable.byContradiction fun hh => ?_
  unfold World.cell? at h
  rw [Array.getElem?_eq_none (by simpa using hh)] at h
  exact absurd h (by simp)
/-- The variable holds an interface value that is not nil. -/
def ErrVar (n : String) (w : World) : Prop := ∃ (tp : TypeId) (p : Value), w.var? Tryd.prog n = some #[.iface tp p]
theorem ErrVar.below {n : String} {g : Nat} {B : Nat} {w w' : World} (hg : Tryd.prog.globalNamed n = some g) (h : ErrVar n w) (hb : Below B w w') (hB : w.heap.size ≤ B) : ErrVar n w' := by
  obtain ⟨tp, p, h⟩ := h
  exact ⟨tp, p, var?_below hb hg (Nat.lt_of_lt_of_le (size_of_var hg h) hB) h⟩
theorem gSyn : Tryd.prog.globalNamed "strconv.ErrSyntax" = some 1 := by kernel_rfl
theorem gRan : Tryd.prog.globalNamed "strconv.ErrRange" = some 2 := by kernel_rfl
theorem gPow : Tryd.prog.globalNamed "internal/strconv.uint64pow10" = some 0 := by kernel_rfl
theorem gMax : Tryd.prog.globalNamed "internal/bytealg.MaxLen" = some 5 := by kernel_rfl
/-- What a call of strconv and strings finds. -/
structure Env (w : World) : Prop where
  pow : Go.Lib.TabIs Tryd.prog w "internal/strconv.uint64pow10" .u64 Go.Lib.pow10Tab
  syn : ErrVar "strconv.ErrSyntax" w
  ran : ErrVar "strconv.ErrRange" w
  most : ∃ m : Int, w.cell? ⟨5, 0, none⟩ = some (.int .i64 m)
theorem Env.below {B : Nat} {w w' : World} (h : Env w) (hb : Below B w w') (hB : w.heap.size ≤ B) : Env w' := by
  obtain ⟨m, hm⟩ := h.most
  exact ⟨var?_below hb gPow (Nat.lt_of_lt_of_le (size_of_var gPow h.pow) hB) h.pow, h.syn.below gSyn hb hB, h.ran.below gRan hb hB, m,
    by rw [hb.cell (p := ⟨5, 0, none⟩) (Nat.lt_of_lt_of_le (size_of_cell hm) hB)]; exact hm⟩
theorem Env.to {w w' : World} (h : Env w) (hb : Below w.heap.size w w') : Env w' := h.below hb (Nat.le_refl _)
theorem below_grow {w : World} (k : Nat) (os : Array Obj) : Below w.heap.size w (Go.Sort.grow (w.drewN k) os) := by
  refine ⟨rfl, rfl, rfl, by simp [Go.Sort.grow], fun i hi => ?_⟩
  show (w.heap ++ os)[i]? = w.heap[i]?
  exact Array.getElem?_append_left hi
/-- An int's text. -/
def itext (n : Int) : ByteArray := ⟨(Go.Lib.itoa n).toArray⟩
theorem itext_list (n : Int) : (itext n).toList = Go.Lib.itoa n := by rw [ByteArray.toList_eq]; rfl
theorem Itoa_any (n : Int) (h : -9223372036854775808 ≤ n ∧ n ≤ 9223372036854775807) (w : World) (hE : Env w) :
    Calls Tryd.prog 15 #[.int .i64 n] w fun e w' => e = .returned (.string (itext n)) ∧ Below w.heap.size w w' :=
  (Tryd.strconv_Itoa n h.1 h.2 w hE.pow).mono fun _ _ ⟨he, k, os, hw⟩ => ⟨he, by rw [hw]; exact below_grow k os⟩
theorem Atoi_ok (s : ByteArray) (hs : s.size ≤ 281474976710656) (v : Int) (h : Go.Lib.atoiAll s.data.toList = .ok v) (w : World) :
    Calls Tryd.prog 40 #[.string s] w fun e w' => e = .returned (.tuple #[.int .i64 v, .nilIface]) ∧ Below w.heap.size w w' :=
  (Tryd.strconv_Atoi_ok s (by omega) v h w).mono fun _ _ ⟨he, hw⟩ => ⟨he, by
    rcases hw with rfl | ⟨t, rfl⟩
    · exact Below.refl _ _
    · exact Go.Lib.bytesWorld_below _ _ _⟩
/-- An int, and an error that is not nil. -/
def Failed (w : World) (e : Ending) (w' : World) : Prop := ∃ (v : Int) (p : Value), e = .returned (.tuple #[.int .i64 v, .iface 103 p]) ∧ Below w.heap.size w w'
theorem Atoi_bad (s : ByteArray) (hs : s.size ≤ 281474976710656) (h : ∀ v, Go.Lib.atoiAll s.data.toList ≠ .ok v) (w : World) (hE : Env w) :
    Calls Tryd.prog 40 #[.string s] w (Failed w) := by
  rcases hc : Go.Lib.atoiAll s.data.toList with v | _ | _
  · exact absurd hc (h v)
  · obtain ⟨tp, p, hv⟩ := hE.syn
    exact (Any.strconv_Atoi_syntax_var Tryd.laysC172 s hs hc tp p w hv).mono fun _ _ ⟨N, he, _, _, hb⟩ => ⟨_, _, he, hb⟩
  · obtain ⟨tp, p, hv⟩ := hE.ran
    exact (Any.strconv_Atoi_range_var Tryd.laysC172 s hs hc tp p w hv).mono fun _ _ ⟨N, he, _, _, hb⟩ => ⟨_, _, he, hb⟩
end Go.Proofs.YtjiifieafnjpgaaDoor
