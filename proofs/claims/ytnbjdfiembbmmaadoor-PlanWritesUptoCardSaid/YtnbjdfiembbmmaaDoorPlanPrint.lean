/- plan.Print: the walk. -/
import Derived.Test.YtnbjdfiembbmmaaDoorPlanCheck
import Derived.Test.YtnbjdfiembbmmaaDoorPlanHex
import Derived.Test.YtnbjdfiembbmmaaDoorScanR
import Derived.Deep.RegionWith
namespace Go.Proofs.YtnbjdfiembbmmaaDoor
open Go.RowKit
set_option linter.unusedSimpArgs false
set_option linter.unusedVariables false
namespace Plan
def wUnlink : List UInt8 := [117, 110, 108, 105, 110, 107]
def wRmdir : List UInt8 := [114, 109, 100, 105, 114]
def wMkdir : List UInt8 := [109, 107, 100, 105, 114]
def wPut : List UInt8 := [112, 117, 116]
/-- A kind's word. -/
def word (k : Int) : List UInt8 := if k = 1 then wUnlink else if k = 2 then wRmdir else if k = 3 then wMkdir else wPut
def line (d : D) : List UInt8 := word d.kind ++ [32] ++ d.path ++ (if d.kind = 4 then [32] ++ hexOf d.data else []) ++ [10]
def lines (ds : List D) : List UInt8 := ds.flatMap line
/-- A plan's text. -/
def text (ds : List D) : List UInt8 := [112, 108, 97, 110, 10] ++ lines ds
theorem chk_all : ∀ (ds : List D) (least : Int) (s : List UInt8 → Int), chk least s ds = true → ∀ d ∈ ds, least ≤ d.kind ∧ d.kind ≤ 4 ∧ (d.kind = 4 ∨ d.data = []) ∧ pathOk d.path = true ∧ free d.path = true
  | [], _, _, _, d, hd => by simp at hd
  | x :: r, least, s, h, d, hd => by
    simp only [chk, okD, Bool.and_eq_true, Bool.or_eq_true, decide_eq_true_eq, List.isEmpty_iff] at h
    obtain ⟨⟨h1, h2, h3, h4, h5⟩, _, h6⟩ := h
    rcases List.mem_cons.1 hd with rfl | hd
    · exact ⟨h1, h2, h3, h4, h5⟩
    · obtain ⟨g1, g2⟩ := chk_all r x.kind _ h6 d hd
      exact ⟨by omega, g2⟩
theorem ok_all {ds : List D} (h : ok ds = true) : ∀ d ∈ ds, 1 ≤ d.kind ∧ d.kind ≤ 4 ∧ (d.kind = 4 ∨ d.data = []) ∧ pathOk d.path = true ∧ free d.path = true := chk_all ds 1 _ h
theorem hexOf_le (l : List UInt8) : (hexOf l).length ≤ 2 * l.length + 1 := by
  unfold hexOf
  split
  · simp
  · rw [hexs_length]; omega
theorem word_le (k : Int) : (word k).length ≤ 6 := by
  unfold word
  split <;> (try split) <;> (try split) <;> simp [wUnlink, wRmdir, wMkdir, wPut]
theorem line_le {d : D} (h1 : d.path.length ≤ 1048576) (h2 : d.data.length ≤ 1048576) : (line d).length ≤ 3145738 := by
  have := hexOf_le d.data
  have := word_le d.kind
  unfold line
  simp only [List.length_append, List.length_cons, List.length_nil]
  split
  · simp only [List.length_append, List.length_cons, List.length_nil]; omega
  · simp only [List.length_nil]; omega
theorem lines_le {ds : List D} (h : ∀ d ∈ ds, d.path.length ≤ 1048576 ∧ d.data.length ≤ 1048576) : (lines ds).length ≤ 3145738 * ds.length := by
  induction ds with
  | nil => simp [lines]
  | cons d r ih =>
    have h1 := line_le (h d List.mem_cons_self).1 (h d List.mem_cons_self).2
    have h2 := ih fun x hx => h x (List.mem_cons_of_mem _ hx)
    show (line d ++ lines r).length ≤ _
    rw [List.length_append, List.length_cons]
    omega
theorem text_next {ds : List D} {k : Nat} {d : D} (h : ds[k]? = some d) : text (ds.take (k + 1)) = text (ds.take k) ++ line d := by
  rw [List.take_add_one, h]
  simp [text, lines]
theorem text_le {ds : List D} (h : ∀ d ∈ ds, d.path.length ≤ 1048576 ∧ d.data.length ≤ 1048576) (hn : ds.length ≤ 1048576) (k : Nat) : (text (ds.take k)).length ≤ 3298545369093 := by
  have h1 := lines_le (ds := ds.take k) fun d hd => h d (List.mem_of_mem_take hd)
  have h2 : (ds.take k).length ≤ 1048576 := by rw [List.length_take]; omega
  show ([112, 108, 97, 110, 10] ++ lines (ds.take k)).length ≤ _
  rw [List.length_append]
  simp only [List.length_cons, List.length_nil]
  omega
end Plan
/-- What Print answers. -/
def printRes (ds : List Plan.D) : Value := if Plan.ok ds = true then .tuple #[.string (bs (Plan.text ds)), .int .i64 0] else .tuple #[.string ByteArray.empty, .int .i64 44]
def wordCells : Array Value := #[.string ⟨#[]⟩, .string ⟨#[117, 110, 108, 105, 110, 107]⟩, .string ⟨#[114, 109, 100, 105, 114]⟩, .string ⟨#[109, 107, 100, 105, 114]⟩, .string ⟨#[112, 117, 116]⟩]
set_option maxHeartbeats 400000 in
theorem words_all (w : World) : Calls Tryd.prog 31 #[] w fun e w' => e = .returned (.slice (some ⟨w.heap.size, 0, none⟩) 5 5) ∧ w' = w.alloc (.cells #[.string ⟨#[]⟩, .string ⟨#[117, 110, 108, 105, 110, 107]⟩, .string ⟨#[114, 109, 100, 105, 114]⟩, .string ⟨#[109, 107, 100, 105, 114]⟩, .string ⟨#[112, 117, 116]⟩] 9) := by
  go_enter Tryd.func31, Tryd.ntmps31
  go_wp2
  go_returns
  exact ⟨rfl, rfl⟩
theorem others_cell {b : Nat} {W w4 wo : World} {cs : Array Value} {t : TypeId} (ho : OthersLie b W w4) (hb : Below (wo.heap.size + 1) (wo.alloc (.cells cs t)) W) (hne : wo.heap.size ≠ b) (ht : t ≠ 5) : w4.heap[wo.heap.size]? = some (.cells cs t (0, 0)) := by
  have h : W.heap[wo.heap.size]? = some (.cells cs t (0, 0)) := (hb.block _ (by omega)).trans (World.alloc_heap_new wo _)
  rw [ho _ _ _ _ hne h ht, h]
theorem word_cell (k : Int) (h : k.toNat < 5) (h1 : 1 ≤ k) (h4 : k ≤ 4) : ([.string ⟨#[]⟩, .string ⟨#[117, 110, 108, 105, 110, 107]⟩, .string ⟨#[114, 109, 100, 105, 114]⟩, .string ⟨#[109, 107, 100, 105, 114]⟩, .string ⟨#[112, 117, 116]⟩] : List Value)[k.toNat]'(by simpa using h) = .string (bs (Plan.word k)) := by
  have hk14 : k = 1 ∨ k = 2 ∨ k = 3 ∨ k = 4 := by omega
  rcases hk14 with rfl | rfl | rfl | rfl <;> rfl
set_option maxHeartbeats 3145738 in
set_option maxRecDepth 100000 in
theorem print_any {w : World} {B : Nat} {v : Value} {ds : List Plan.D} (h : Deeds w B v ds) (hB : B ≤ w.heap.size) (hn : ds.length ≤ 1048576) (hsz : ∀ d ∈ ds, d.path.length ≤ 1048576 ∧ d.data.length ≤ 1048576) :
    Calls Tryd.prog 12 #[v] w fun e w' => e = .returned (printRes ds) ∧ Below w.heap.size w w' := by
  have HCK := Lib.hid (check_any h hB (by omega) (fun d hd => by have := hsz d hd; omega))
  cases hok : Plan.ok ds
  · have HF : Hid (printRes ds = .tuple #[.string ByteArray.empty, .int .i64 44]) := Lib.hid (by unfold printRes; rw [hok]; rfl)
    have hc := Plan.code_no hok
    clear hok
    go_enter Tryd.func12, Tryd.ntmps12
    go_wp2_with fail
    refine HCK.out.mono ?_
    rintro e w1 ⟨rfl, hb1⟩
    rw [hc]
    go_wp2_with fail
    go_returns
    exact ⟨by rw [HF.out]; rfl, hb1⟩
  have HF : Hid (printRes ds = .tuple #[.string (bs (Plan.text ds)), .int .i64 0]) := Lib.hid (by unfold printRes; rw [if_pos hok])
  have hc := Plan.code_yes hok
  have HALL := Lib.hid (Plan.ok_all hok)
  obtain ⟨a1, c1, rfl⟩ := h.form
  obtain ⟨N, hN⟩ : ∃ N, N = ds.length := ⟨_, rfl⟩
  have HH := Lib.hid h
  have HSZ := Lib.hid hsz
  have HTL := Lib.hid (Plan.text_le hsz hn)
  rw [← hN] at hn HCK ⊢
  have HN := Lib.hid hN
  clear h hsz hN hok
  go_enter Tryd.func12, Tryd.ntmps12
  go_wp2_with fail
  refine HCK.out.mono ?_
  rintro e w1 ⟨rfl, hb1⟩
  rw [hc]
  have HB0 := Lib.hid (Go.Lib.fresh_isBuilder 48 5 w1)
  have hz1 := hb1.size
  go_wp2_with fail
  refine (WriteString_any w1.heap.size w1.heap.size [] ⟨#[112, 108, 97, 110, 10]⟩ _ HB0.out (by decide) (by simp)).mono ?_
  rintro e w2 ⟨rfl, hbd2, hb2⟩
  have HBD2 := Lib.hid hbd2
  have HB2 : Hid (Below w1.heap.size w1 w2) := Lib.hid (((Below.refl _ w1).alloc (Nat.le_refl _) _).trans hb2)
  clear hbd2 HB0
  go_wp2_with fail
  go_loopw [16] (fun p wr => ∃ k : Nat, p = .int .i64 k ∧ k ≤ N ∧ Build w1.heap.size w1.heap.size (Go.Lib.byteCells (Plan.text (ds.take k))) wr ∧ Below w1.heap.size w1 wr) (fun p _ => N - (intOf p).toNat)
  case atStart => exact ⟨0, rfl, by omega, HBD2.out, HB2.out⟩
  case round =>
    obtain ⟨k, rfl, hk, hbd, hBr⟩ := hrel
    obtain ⟨wo, rfl⟩ : ∃ x, x = wr := ⟨wr, rfl⟩
    have HBD := Lib.hid hbd
    clear hbd
    have hzo := hBr.size
    have hzlt : w1.heap.size < wo.heap.size := by rcases HBD.out with h | h <;> exact h.lt
    by_cases hkN : k < N
    · obtain ⟨d, hd⟩ : ∃ d, ds[k]? = some d := ⟨_, List.getElem?_eq_getElem (by have := HN.out; omega)⟩
      have hdd := HSZ.out d (List.mem_of_getElem? hd)
      have hdk := HALL.out d (List.mem_of_getElem? hd)
      obtain ⟨bk, o, cap, hve, hbB, hbc⟩ := HH.out.at (by have := HN.out; omega)
      injection hve with ha1 _ hc1
      subst ha1; subst hc1
      obtain ⟨e1, e2, e3⟩ := hbc k d hd
      have hbw : Below w.heap.size w wo := hb1.trans (hBr.mono hz1)
      rw [← hbw.cell (p := ⟨bk, o + k * 3, none⟩) (by show bk < _; omega)] at e1
      rw [← hbw.cell (p := ⟨bk, o + k * 3 + 1, none⟩) (by show bk < _; omega)] at e2
      rw [← hbw.cell (p := ⟨bk, o + k * 3 + 2, none⟩) (by show bk < _; omega)] at e3
      have HD := Lib.hid hd
      have HDD := Lib.hid hdd
      have HDK := Lib.hid hdk
      have hki : (0 : Int) ≤ d.kind ∧ d.kind < 5 := by omega
      have hkn : d.kind.toNat < 5 := by omega
      have hk1 : 1 ≤ d.kind := by omega
      have hk4 : d.kind ≤ 4 := by omega
      clear hbc hd hdd hdk hbw
      obtain ⟨dp, hdp⟩ : ∃ x, x = d.path := ⟨_, rfl⟩
      obtain ⟨dt, hdt⟩ : ∃ x, x = d.data := ⟨_, rfl⟩
      obtain ⟨dk, hdk⟩ : ∃ x, x = d.kind := ⟨_, rfl⟩
      rw [← hdk] at e1 hki hkn hk1 hk4
      have hcw := word_cell dk hkn hk1 hk4
      rw [← hdp] at e2
      rw [← hdt] at e3
      have hdpl : dp.length ≤ 1048576 := by rw [hdp]; exact HDD.out.1
      have hdtl : dt.length ≤ 1048576 := by rw [hdt]; exact HDD.out.2
      obtain ⟨wd, hwd⟩ : ∃ x, x = Plan.word dk := ⟨_, rfl⟩
      rw [← hwd] at hcw
      have hwl : wd.length ≤ 6 := by rw [hwd]; exact Plan.word_le _
      obtain ⟨t1, ht1⟩ : ∃ t, t = wd ++ [32] := ⟨_, rfl⟩
      obtain ⟨t2, ht2⟩ : ∃ t, t = t1 ++ dp := ⟨_, rfl⟩
      have s1 : ∀ w, (Op.stringOp .add (bs wd) (⟨#[32]⟩)).run Tryd.prog w = .ok (.string (bs t1)) w := fun w => by rw [ht1]; exact bs_add wd [32] (by simp; omega) w
      have ht2l : t2.length ≤ 1048600 := by rw [ht2, ht1]; simp; omega
      have s2 : ∀ w, (Op.stringOp .add (bs t1) (bs dp)).run Tryd.prog w = .ok (.string (bs t2)) w := fun w => by rw [ht2]; exact bs_add _ _ (by rw [ht1]; simp; omega) w
      have HT2 : Hid (t2 = Plan.word d.kind ++ [32] ++ d.path) := Lib.hid (by rw [ht2, ht1, hwd, hdk, hdp])
      have HDP := Lib.hid hdp
      have HDT := Lib.hid hdt
      have HDKK := Lib.hid hdk
      clear hdp hdt hdk ht1 ht2 hwd
      go_wp2_with fail
      go_region_with (first | (go_at_call 31; refine (words_all _).mono ?_; rintro e w3 ⟨rfl, rfl⟩) | (go_at_call 30; refine (WriteString_kept w1.heap.size w1.heap.size _ _ _ (build_below HBD.out (by go_grown)) (by rw [Go.Lib.byteCells_length, bs_size]; have := HTL.out k; omega) (by simp; omega)).mono ?_; rintro e w4 ⟨rfl, ⟨hbd4, hb4⟩, ho4⟩; have hx4 := others_cell (cs := #[.int .i64 dk, .string (bs dp), .string (bs dt)]) (t := 54) (wo := wo) ho4 (by go_grown) (by omega) (by decide); have c40 : w4.cell? ⟨wo.heap.size, 0, none⟩ = some (.int .i64 dk) := (by rw [Go.Lib.cell_of_heap hx4]; rfl); have c42 : w4.cell? ⟨wo.heap.size, 2, none⟩ = some (.string (bs dt)) := (by rw [Go.Lib.cell_of_heap hx4]; rfl); clear hx4; have HBD4 := Lib.hid hbd4; clear hbd4 ho4; have hz4 : w1.heap.size ≤ w4.heap.size := (by have := hb4.size; simp at this; omega)))
      all_goals
        have HB4 : Hid (Below w1.heap.size w1 w4) := Lib.hid (by refine hBr.trans (Below.trans ?_ hb4) <;> go_grown)
        cases hq4 : (dk == 4)
        · have hk4n : ¬ d.kind = 4 := by rw [← HDKK.out]; intro e; rw [e] at hq4; exact absurd hq4 (by decide)
          have HNX : Hid (Go.Lib.byteCells (Plan.text (ds.take k)) ++ Go.Lib.strCells (bs t2) ++ Go.Lib.strCells ⟨#[10]⟩ = Go.Lib.byteCells (Plan.text (ds.take (k + 1)))) := Lib.hid (by
            rw [Plan.text_next HD.out, HT2.out]
            unfold Plan.line
            rw [if_neg hk4n]
            simp [Go.Lib.byteCells, Go.Lib.strCells, bs])
          clear hk4n
          go_wp2_with fail
          refine (WriteString_any w1.heap.size w1.heap.size _ ⟨#[10]⟩ _ HBD4.out (by rw [List.length_append, Go.Lib.byteCells_length, Go.Lib.strCells_length, bs_size]; have := HTL.out k; have e : ByteArray.size ⟨#[10]⟩ = 1 := rfl; omega) hz4).mono ?_
          rintro e w5 ⟨rfl, hbd5, hb5⟩
          have HBD5 := Lib.hid hbd5
          clear hbd5
          go_wp2_with fail
          go_roundw
          case rel => exact ⟨k + 1, by go_num, by omega, by rw [← HNX.out]; exact HBD5.out, HB4.out.trans hb5⟩
          case measure => simp [intOf]; omega
        · have hk4y : d.kind = 4 := by rw [← HDKK.out]; exact of_decide_eq_true (by simpa using hq4)
          obtain ⟨hx, hhx⟩ : ∃ x, x = Plan.hexOf dt := ⟨_, rfl⟩
          have hhl : hx.length ≤ 2097153 := by rw [hhx]; have := Plan.hexOf_le dt; omega
          obtain ⟨t3, ht3⟩ : ∃ x, x = [32] ++ hx := ⟨_, rfl⟩
          have s3 : ∀ w, (Op.stringOp .add (⟨#[32]⟩) (bs hx)).run Tryd.prog w = .ok (.string (bs t3)) w := fun w => by rw [ht3]; exact bs_add [32] _ (by simp; omega) w
          have ht3l : t3.length ≤ 2097154 := by rw [ht3]; simp; omega
          have HNX : Hid (Go.Lib.byteCells (Plan.text (ds.take k)) ++ Go.Lib.strCells (bs t2) ++ Go.Lib.strCells (bs t3) ++ Go.Lib.strCells ⟨#[10]⟩ = Go.Lib.byteCells (Plan.text (ds.take (k + 1)))) := Lib.hid (by
            rw [Plan.text_next HD.out, HT2.out, ht3, hhx, HDT.out]
            unfold Plan.line
            rw [if_pos hk4y]
            simp [Go.Lib.byteCells, Go.Lib.strCells, bs])
          have hhex : ∀ w, Calls Tryd.prog 32 #[.string (bs dt)] w fun e w' => e = .returned (.string (bs hx)) ∧ Below w.heap.size w w' := fun w => by
            have := hex_any (bs dt) (by rw [bs_size]; exact hdtl) w
            rw [bs_list, ← hhx] at this
            exact this
          have HHEX := Lib.hid hhex
          clear hk4y hhex hhx ht3
          go_wp2_with fail
          refine (HHEX.out _).mono ?_
          rintro e w5 ⟨rfl, hb5⟩
          have HBD5 := Lib.hid (build_below HBD4.out hb5)
          have hz5 : w1.heap.size ≤ w5.heap.size := by have := hb5.size; omega
          go_wp2_with fail
          refine (WriteString_any w1.heap.size w1.heap.size _ (bs t3) _ HBD5.out (by rw [List.length_append, Go.Lib.byteCells_length, Go.Lib.strCells_length, bs_size, bs_size]; have := HTL.out k; omega) hz5).mono ?_
          rintro e w6 ⟨rfl, hbd6, hb6⟩
          have HBD6 := Lib.hid hbd6
          have hz6 : w1.heap.size ≤ w6.heap.size := by have := hb6.size; omega
          clear hbd6
          go_wp2_with fail
          refine (WriteString_any w1.heap.size w1.heap.size _ ⟨#[10]⟩ _ HBD6.out (by rw [List.length_append, List.length_append, Go.Lib.byteCells_length, Go.Lib.strCells_length, Go.Lib.strCells_length, bs_size, bs_size]; have := HTL.out k; have e : ByteArray.size ⟨#[10]⟩ = 1 := rfl; omega) hz6).mono ?_
          rintro e w7 ⟨rfl, hbd7, hb7⟩
          have HBD7 := Lib.hid hbd7
          clear hbd7
          go_wp2_with fail
          go_roundw
          case rel => exact ⟨k + 1, by go_num, by omega, by rw [← HNX.out]; exact HBD7.out, ((HB4.out.trans (hb5.mono hz4)).trans hb6).trans hb7⟩
          case measure => simp [intOf]; omega
    · have hfull : ds.take k = ds := List.take_of_length_le (by have := HN.out; omega)
      have hbd2 := HBD.out
      rw [hfull] at hbd2
      have HBD2 := Lib.hid hbd2
      clear hbd2 hfull
      go_wp2_with fail
      refine (Tryd.Builder_String_any w1.heap.size w1.heap.size (Plan.text ds) _ HBD2.out hzo).mono ?_
      rintro e w5 ⟨rfl, hb5⟩
      go_wp2
      go_returns
      exact ⟨by rw [HF.out]; rfl, hb1.trans ((hBr.trans hb5).mono hz1)⟩
end Go.Proofs.YtnbjdfiembbmmaaDoor
