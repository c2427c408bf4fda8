/- PlanBack's walk: what is read is written as that text. -/
import Derived.Test.YtnbjdfiembbmmaaDoorPlanKnown
namespace Go.Proofs.YtnbjdfiembbmmaaDoor
open Go.RowKit
set_option linter.unusedSimpArgs false
set_option linter.unusedVariables false
namespace Plan
theorem line_sizes (d : D) (h : d.kind = 4 ∨ d.data = []) : 1 ≤ (line d).length ∧ d.path.length ≤ (line d).length ∧ d.data.length ≤ (line d).length := by
  unfold line
  simp only [List.length_append, List.length_cons, List.length_nil]
  refine ⟨by omega, by omega, ?_⟩
  rcases h with h | h
  · rw [if_pos h]
    unfold hexOf
    split
    · rename_i e; rw [e]; simp
    · simp only [List.length_append, hexs_length, List.length_cons, List.length_nil]; omega
  · rw [h]; simp
theorem lines_sizes : ∀ {ds : List D}, (∀ d ∈ ds, d.kind = 4 ∨ d.data = []) → ds.length ≤ (lines ds).length ∧ ∀ d ∈ ds, d.path.length ≤ (lines ds).length ∧ d.data.length ≤ (lines ds).length
  | [], _ => ⟨by simp, fun d hd => by simp at hd⟩
  | x :: r, h => by
    have ih := lines_sizes (ds := r) fun d hd => h d (List.mem_cons_of_mem _ hd)
    have hx := line_sizes x (h x List.mem_cons_self)
    have e : (lines (x :: r)).length = (line x).length + (lines r).length := by
      show (line x ++ lines r).length = _
      rw [List.length_append]
    refine ⟨by rw [e, List.length_cons]; omega, fun d hd => ?_⟩
    rw [e]
    rcases List.mem_cons.1 hd with rfl | hd
    · omega
    · have := ih.2 d hd; omega
theorem text_sizes {ds : List D} (h : ok ds = true) : ds.length ≤ (text ds).length ∧ ∀ d ∈ ds, d.path.length ≤ (text ds).length ∧ d.data.length ≤ (text ds).length := by
  have h1 := lines_sizes fun d hd => (ok_all h d hd).2.2.1
  have e : (text ds).length = 5 + (lines ds).length := by
    show ([112, 108, 97, 110, 10] ++ lines ds).length = _
    rw [List.length_append]; rfl
  refine ⟨by omega, fun d hd => ?_⟩
  have := h1.2 d hd
  omega
end Plan
set_option maxHeartbeats 1000000 in
set_option maxRecDepth 100000 in
theorem planBack (hPA : ParseAll) (s : ByteArray) (hs : s.size ≤ 1048576) (w : World) :
    Calls Tryd.prog 5 #[.string s] w fun e w' => e = .returned (.bool true) ∧ Below w.heap.size w w' := by
  have HPA := Lib.hid hPA
  have HKN := Lib.hid (planKnown hPA)
  clear hPA
  rcases Plan.parse_code s.data.toList with h0 | ⟨h0, h1⟩
  · obtain ⟨ds, hds⟩ : ∃ ds, ds = (Plan.parse s.data.toList).2 := ⟨_, rfl⟩
    have hP : Plan.parse s.data.toList = (0, ds) := by rw [hds, ← h0]
    have HP := Lib.hid hP
    obtain ⟨htx, hok⟩ := Plan.text_parse hP
    have hz := Plan.text_sizes hok
    rw [htx, bal_length] at hz
    have HSZ : Hid (∀ d ∈ ds, d.path.length ≤ 1048576 ∧ d.data.length ≤ 1048576) := Lib.hid (fun d hd => by have := hz.2 d hd; omega)
    have hn : ds.length ≤ 1048576 := by omega
    have HPR : Hid (printRes ds = .tuple #[.string s, .int .i64 0]) := Lib.hid (by unfold printRes; rw [if_pos hok, htx]; rfl)
    have HC := Lib.hid (Plan.code_yes hok)
    clear hz hok htx hP h0 hds
    go_enter Tryd.func5, Tryd.ntmps5
    go_wp2_with fail
    refine (HPA.out s (by omega) _).mono ?_
    rintro e w1 ⟨v, rfl, hd1, hb1⟩
    rw [HP.out] at hd1 ⊢
    obtain ⟨a1, c1, rfl⟩ := hd1.form
    have HD1 := Lib.hid hd1
    clear hd1
    go_wp2_with fail
    refine (HKN.out _).mono ?_
    rintro e w2 ⟨rfl, hb2⟩
    have HD2 := Lib.hid (HD1.out.below hb2 (Nat.le_refl _))
    go_wp2_with fail
    refine (print_any HD2.out hb2.size hn HSZ.out).mono ?_
    rintro e w3 ⟨rfl, hb3⟩
    rw [HPR.out]
    have HD3 := Lib.hid (HD2.out.below hb3 hb2.size)
    have hq : (s.toList == s.toList) = true := by simp
    have hz1 := hb1.size
    have hz2 := hb2.size
    have hz3 := hb3.size
    go_wp2_with fail
    refine (check_any HD3.out (by omega) (by omega) (fun d hd => by have := HSZ.out d hd; omega)).mono ?_
    rintro e w4 ⟨rfl, hb4⟩
    rw [HC.out]
    go_wp2
    go_returns
    exact ⟨rfl, ((hb1.trans (hb2.mono hz1)).trans (hb3.mono (by omega))).trans (hb4.mono (by omega))⟩
  · obtain ⟨c, hc⟩ : ∃ c, c = (Plan.parse s.data.toList).1 := ⟨_, rfl⟩
    have HP : Hid (Plan.parse s.data.toList = (c, [])) := Lib.hid (by rw [hc, ← h1])
    have hne : (c != 0) = true := by rw [bne_iff_ne]; rw [hc]; exact h0
    clear h0 h1 hc
    go_enter Tryd.func5, Tryd.ntmps5
    go_wp2_with fail
    refine (HPA.out s (by omega) _).mono ?_
    rintro e w1 ⟨v, rfl, hd1, hb1⟩
    rw [HP.out] at hd1 ⊢
    obtain ⟨a1, c1, rfl⟩ := hd1.form
    clear hd1
    go_wp2_with fail
    refine (HKN.out _).mono ?_
    rintro e w2 ⟨rfl, hb2⟩
    go_wp2
    go_returns
    exact ⟨rfl, hb1.trans (hb2.mono hb1.size)⟩
end Go.Proofs.YtnbjdfiembbmmaaDoor
