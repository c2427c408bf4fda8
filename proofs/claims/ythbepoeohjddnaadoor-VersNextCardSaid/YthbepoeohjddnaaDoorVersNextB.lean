/- The walk of the statement VersNext: the first version. -/
import Derived.Test.YthbepoeohjddnaaDoorVersNextA
namespace Go.Proofs.YthbepoeohjddnaaDoor
open Go.RowKit
set_option linter.unusedSimpArgs false
set_option linter.unusedVariables false
set_option maxHeartbeats 4000000 in
set_option maxRecDepth 100000 in
theorem next_z_g (a b c x y z u v s : Int) (w : World) (ht : Pow10 w) (h1 : V.may a b c = true) (h2 : V.may x y z = true) (h3 : V.may u v s = true) (hn : V.rank a b c < 999999999) (hp : V.rank a b c = 0) (hab : 0 < V.cmp a b c x y z) :
    Calls Tryd.prog 6 #[.agg #[.int .i64 a, .int .i64 b, .int .i64 c], .agg #[.int .i64 x, .int .i64 y, .int .i64 z], .agg #[.int .i64 u, .int .i64 v, .int .i64 s]] w fun e w' => e = .returned (.bool true) ∧ Below w.heap.size w w' := by
  have hr := V.rank_bd h1
  have hr2 := V.rank_bd h2
  have hba := V.cmp_neg a b c x y z
  have g1 := @V.cmp_gt x y z a b c h2 h1
  have l1 := @V.rank_lt x y z a b c h2 h1
  have okn : V.atOk (V.nx a b c) = true := V.atOk_iff.2 (by rw [V.nx_yes h1]; omega)
  have g2 := @V.rank_lt x y z (V.atA (V.nx a b c)) (V.atB (V.nx a b c)) (V.atC (V.nx a b c)) h2 (V.may_at okn)
  rw [V.rank_at okn, V.nx_yes h1] at g2
  have okp : V.atOk (V.pv a b c) = false := V.atOk_neg (by rw [V.pv_yes h1]; omega)
  have e2 : decide (0 ≤ V.cmp x y z (V.atA (V.nx a b c)) (V.atB (V.nx a b c)) (V.atC (V.nx a b c))) = decide (0 < V.cmp x y z a b c) := by rw [decide_eq_decide]; rw [V.nx_yes h1]; omega
  have e3 : ¬ V.cmp x y z a b c < 0 := by omega
  have es := V.str_same h1 h2
  clear hba g1 l1 hr hr2 g2
  obtain ⟨k1, EK1⟩ : ∃ q, V.cmp x y z a b c = q := ⟨_, rfl⟩
  obtain ⟨k2, EK2⟩ : ∃ q, V.cmp x y z (V.atA (V.nx a b c)) (V.atB (V.nx a b c)) (V.atC (V.nx a b c)) = q := ⟨_, rfl⟩
  obtain ⟨k4, EK4⟩ : ∃ q, V.cmp a b c x y z = q := ⟨_, rfl⟩
  rw [EK1] at e2 e3
  have HK1 := Lib.hid EK1
  rw [EK2] at e2
  have HK2 := Lib.hid EK2
  rw [EK4] at hab
  have HK4 := Lib.hid EK4
  clear EK1 EK2 EK4
  have H1 := Lib.hid h1
  have H2 := Lib.hid h2
  have H3 := Lib.hid h3
  have HN := Lib.hid okn
  have HP := Lib.hid okp
  have HT := Lib.hid ht
  clear h1 h2 h3 okn okp hn hp ht
  go_enter Tryd.func6, Tryd.ntmps6
  go_wp2_with fail
  refine (known_true _).mono ?_
  rintro e w1 ⟨rfl, hb1⟩
  have B1 : Below w.heap.size w w1 := by refine Below.trans ?_ (hb1.mono ?_) <;> go_grown
  obtain ⟨hc1, hf1⟩ := bcell hb1
  have hz10 : w.heap.size < w1.heap.size := by have := hb1.size; (try simp at this); omega
  have hz11 : w.heap.size + 1 < w1.heap.size := by have := hb1.size; (try simp at this); omega
  have hz12 : w.heap.size + 2 < w1.heap.size := by have := hb1.size; (try simp at this); omega
  clear hb1
  go_wp2_with fail
  refine (rmay_any _ _ _ _).mono ?_
  rintro e w2 ⟨rfl, hb2⟩
  rw [H1.out]
  have B2 : Below w.heap.size w w2 := by refine Below.trans ?_ (hb2.mono ?_) <;> go_grown
  clear B1
  obtain ⟨hc2, hf2⟩ := bcell hb2
  have hz20 : w.heap.size < w2.heap.size := by have := hb2.size; (try simp at this); omega
  have hz21 : w.heap.size + 1 < w2.heap.size := by have := hb2.size; (try simp at this); omega
  have hz22 : w.heap.size + 2 < w2.heap.size := by have := hb2.size; (try simp at this); omega
  clear hb2
  go_wp2_with fail
  refine (rmay_any _ _ _ _).mono ?_
  rintro e w3 ⟨rfl, hb3⟩
  rw [H2.out]
  have B3 : Below w.heap.size w w3 := by refine Below.trans ?_ (hb3.mono ?_) <;> go_grown
  clear B2
  obtain ⟨hc3, hf3⟩ := bcell hb3
  have hz30 : w.heap.size < w3.heap.size := by have := hb3.size; (try simp at this); omega
  have hz31 : w.heap.size + 1 < w3.heap.size := by have := hb3.size; (try simp at this); omega
  have hz32 : w.heap.size + 2 < w3.heap.size := by have := hb3.size; (try simp at this); omega
  clear hb3
  go_wp2_with fail
  refine (rmay_any _ _ _ _).mono ?_
  rintro e w4 ⟨rfl, hb4⟩
  rw [H3.out]
  have B4 : Below w.heap.size w w4 := by refine Below.trans ?_ (hb4.mono ?_) <;> go_grown
  clear B3
  obtain ⟨hc4, hf4⟩ := bcell hb4
  have hz40 : w.heap.size < w4.heap.size := by have := hb4.size; (try simp at this); omega
  have hz41 : w.heap.size + 1 < w4.heap.size := by have := hb4.size; (try simp at this); omega
  have hz42 : w.heap.size + 2 < w4.heap.size := by have := hb4.size; (try simp at this); omega
  clear hb4
  go_wp2_with fail
  refine (next_any _ _ _ _).mono ?_
  rintro e w5 ⟨rfl, hb5⟩
  rw [HN.out]
  have B5 : Below w.heap.size w w5 := by refine Below.trans ?_ (hb5.mono ?_) <;> go_grown
  clear B4
  obtain ⟨hc5, hf5⟩ := bcell hb5
  have hz50 : w.heap.size < w5.heap.size := by have := hb5.size; (try simp at this); omega
  have hz51 : w.heap.size + 1 < w5.heap.size := by have := hb5.size; (try simp at this); omega
  have hz52 : w.heap.size + 2 < w5.heap.size := by have := hb5.size; (try simp at this); omega
  clear hb5
  have y50 : w.heap.size < w5.heap.size + 1 := by omega
  have y51 : w.heap.size + 1 < w5.heap.size + 1 := by omega
  go_wp2_with fail
  refine (prev_any _ _ _ _).mono ?_
  rintro e w6 ⟨rfl, hb6⟩
  rw [HP.out]
  have B6 : Below w.heap.size w w6 := by refine Below.trans ?_ (hb6.mono ?_) <;> go_grown
  clear B5
  obtain ⟨hc6, hf6⟩ := bcell hb6
  have hz60 : w.heap.size < w6.heap.size := by have := hb6.size; (try simp at this); omega
  have hz61 : w.heap.size + 1 < w6.heap.size := by have := hb6.size; (try simp at this); omega
  have hz62 : w.heap.size + 2 < w6.heap.size := by have := hb6.size; (try simp at this); omega
  have hz63 : w5.heap.size < w6.heap.size := by have := hb6.size; (try simp at this); omega
  clear hb6
  have y60 : w.heap.size < w6.heap.size + 1 := by omega
  have y61 : w.heap.size + 1 < w6.heap.size + 1 := by omega
  go_wp2_with fail
  refine (compare_any _ _ _ _ _ _ _).mono ?_
  rintro e w7 ⟨rfl, hb7⟩
  rw [HK1.out]
  have B7 : Below w.heap.size w w7 := by refine Below.trans ?_ (hb7.mono ?_) <;> go_grown
  clear B6
  obtain ⟨hc7, hf7⟩ := bcell hb7
  have hz70 : w.heap.size < w7.heap.size := by have := hb7.size; (try simp at this); omega
  have hz71 : w.heap.size + 1 < w7.heap.size := by have := hb7.size; (try simp at this); omega
  have hz72 : w.heap.size + 2 < w7.heap.size := by have := hb7.size; (try simp at this); omega
  have hz73 : w5.heap.size < w7.heap.size := by have := hb7.size; (try simp at this); omega
  have hz74 : w6.heap.size < w7.heap.size := by have := hb7.size; (try simp at this); omega
  clear hb7
  go_wp2_with fail
  refine (compare_any _ _ _ _ _ _ _).mono ?_
  rintro e w8 ⟨rfl, hb8⟩
  rw [HK1.out]
  have B8 : Below w.heap.size w w8 := by refine Below.trans ?_ (hb8.mono ?_) <;> go_grown
  clear B7
  obtain ⟨hc8, hf8⟩ := bcell hb8
  have hz80 : w.heap.size < w8.heap.size := by have := hb8.size; (try simp at this); omega
  have hz81 : w.heap.size + 1 < w8.heap.size := by have := hb8.size; (try simp at this); omega
  have hz82 : w.heap.size + 2 < w8.heap.size := by have := hb8.size; (try simp at this); omega
  have hz83 : w5.heap.size < w8.heap.size := by have := hb8.size; (try simp at this); omega
  have hz84 : w6.heap.size < w8.heap.size := by have := hb8.size; (try simp at this); omega
  clear hb8
  go_wp2_with fail
  refine (compare_any _ _ _ _ _ _ _).mono ?_
  rintro e w9 ⟨rfl, hb9⟩
  rw [HK2.out]
  have B9 : Below w.heap.size w w9 := by refine Below.trans ?_ (hb9.mono ?_) <;> go_grown
  clear B8
  obtain ⟨hc9, hf9⟩ := bcell hb9
  have hz90 : w.heap.size < w9.heap.size := by have := hb9.size; (try simp at this); omega
  have hz91 : w.heap.size + 1 < w9.heap.size := by have := hb9.size; (try simp at this); omega
  have hz92 : w.heap.size + 2 < w9.heap.size := by have := hb9.size; (try simp at this); omega
  have hz93 : w5.heap.size < w9.heap.size := by have := hb9.size; (try simp at this); omega
  have hz94 : w6.heap.size < w9.heap.size := by have := hb9.size; (try simp at this); omega
  clear hb9
  go_wp2_with fail
  refine (compare_any _ _ _ _ _ _ _).mono ?_
  rintro e w10 ⟨rfl, hb10⟩
  rw [HK4.out]
  have B10 : Below w.heap.size w w10 := by refine Below.trans ?_ (hb10.mono ?_) <;> go_grown
  clear B9
  obtain ⟨hc10, hf10⟩ := bcell hb10
  have hz100 : w.heap.size < w10.heap.size := by have := hb10.size; (try simp at this); omega
  have hz101 : w.heap.size + 1 < w10.heap.size := by have := hb10.size; (try simp at this); omega
  have hz102 : w.heap.size + 2 < w10.heap.size := by have := hb10.size; (try simp at this); omega
  have hz103 : w5.heap.size < w10.heap.size := by have := hb10.size; (try simp at this); omega
  have hz104 : w6.heap.size < w10.heap.size := by have := hb10.size; (try simp at this); omega
  clear hb10
  have d00 : w10.cell? ⟨w.heap.size, 0, none⟩ = some (.int .i64 a) := by go_cell
  have d01 : w10.cell? ⟨w.heap.size, 1, none⟩ = some (.int .i64 b) := by go_cell
  have d02 : w10.cell? ⟨w.heap.size, 2, none⟩ = some (.int .i64 c) := by go_cell
  have d10 : w10.cell? ⟨w.heap.size + 1, 0, none⟩ = some (.int .i64 x) := by go_cell
  have d11 : w10.cell? ⟨w.heap.size + 1, 1, none⟩ = some (.int .i64 y) := by go_cell
  have d12 : w10.cell? ⟨w.heap.size + 1, 2, none⟩ = some (.int .i64 z) := by go_cell
  have hzl : w.heap.size + 1 < w10.heap.size := hz101
  go_wp2_with fail
  clear hc1 hf1 hc2 hf2 hc3 hf3 hc4 hf4 hc5 hf5 hc6 hf6 hc7 hf7 hc8 hf8 hc9 hf9 hc10 hf10
  change Code.wp _ (Code.region _ _ _) _ _ _
  go_region_held3 (fun w' => w'.cell? ⟨w.heap.size, 0, none⟩ = some (.int .i64 a) ∧ w'.cell? ⟨w.heap.size, 1, none⟩ = some (.int .i64 b) ∧ w'.cell? ⟨w.heap.size, 2, none⟩ = some (.int .i64 c) ∧ w'.cell? ⟨w.heap.size + 1, 0, none⟩ = some (.int .i64 x) ∧ w'.cell? ⟨w.heap.size + 1, 1, none⟩ = some (.int .i64 y) ∧ w'.cell? ⟨w.heap.size + 1, 2, none⟩ = some (.int .i64 z) ∧ w.heap.size + 1 < w'.heap.size ∧ Below w.heap.size w w')
    (first | (exact two_keep (by assumption) (by assumption)) | (refine ⟨by simpa using d00, by simpa using d01, by simpa using d02, by simpa using d10, by simpa using d11, by simpa using d12, by simpa using hzl, ?_⟩; exact Below.drew (by assumption)))
    (first | (go_at_call 22; refine (print_any _ _ _ _ (HT.out.below (And.right (And.right (And.right (And.right (And.right (And.right (And.right ‹_ ∧ _›))))))) (Nat.le_refl _))).mono ?_; rintro e w2 ⟨rfl, hb⟩))
  rename_i hH
  obtain ⟨_, _, _, _, _, _, _, hB⟩ := hH
  go_wp2
  go_returns
  exact ⟨rfl, hB⟩
set_option maxHeartbeats 4000000 in
set_option maxRecDepth 100000 in
theorem next_z_lg (a b c x y z u v s : Int) (w : World) (ht : Pow10 w) (h1 : V.may a b c = true) (h2 : V.may x y z = true) (h3 : V.may u v s = true) (hn : V.rank a b c < 999999999) (hp : V.rank a b c = 0) (hab : V.cmp a b c x y z ≤ 0) (hbc : 0 < V.cmp x y z u v s) :
    Calls Tryd.prog 6 #[.agg #[.int .i64 a, .int .i64 b, .int .i64 c], .agg #[.int .i64 x, .int .i64 y, .int .i64 z], .agg #[.int .i64 u, .int .i64 v, .int .i64 s]] w fun e w' => e = .returned (.bool true) ∧ Below w.heap.size w w' := by
  have hr := V.rank_bd h1
  have hr2 := V.rank_bd h2
  have hba := V.cmp_neg a b c x y z
  have g1 := @V.cmp_gt x y z a b c h2 h1
  have l1 := @V.rank_lt x y z a b c h2 h1
  have okn : V.atOk (V.nx a b c) = true := V.atOk_iff.2 (by rw [V.nx_yes h1]; omega)
  have g2 := @V.rank_lt x y z (V.atA (V.nx a b c)) (V.atB (V.nx a b c)) (V.atC (V.nx a b c)) h2 (V.may_at okn)
  rw [V.rank_at okn, V.nx_yes h1] at g2
  have okp : V.atOk (V.pv a b c) = false := V.atOk_neg (by rw [V.pv_yes h1]; omega)
  have e2 : decide (0 ≤ V.cmp x y z (V.atA (V.nx a b c)) (V.atB (V.nx a b c)) (V.atC (V.nx a b c))) = decide (0 < V.cmp x y z a b c) := by rw [decide_eq_decide]; rw [V.nx_yes h1]; omega
  have e3 : ¬ V.cmp x y z a b c < 0 := by omega
  have es := V.str_same h1 h2
  clear hba g1 l1 hr hr2 g2
  obtain ⟨k1, EK1⟩ : ∃ q, V.cmp x y z a b c = q := ⟨_, rfl⟩
  obtain ⟨k2, EK2⟩ : ∃ q, V.cmp x y z (V.atA (V.nx a b c)) (V.atB (V.nx a b c)) (V.atC (V.nx a b c)) = q := ⟨_, rfl⟩
  obtain ⟨k4, EK4⟩ : ∃ q, V.cmp a b c x y z = q := ⟨_, rfl⟩
  obtain ⟨k5, EK5⟩ : ∃ q, V.cmp x y z u v s = q := ⟨_, rfl⟩
  rw [EK1] at e2 e3
  have HK1 := Lib.hid EK1
  rw [EK2] at e2
  have HK2 := Lib.hid EK2
  rw [EK4] at hab
  have HK4 := Lib.hid EK4
  rw [EK5] at hbc
  have HK5 := Lib.hid EK5
  clear EK1 EK2 EK4 EK5
  have H1 := Lib.hid h1
  have H2 := Lib.hid h2
  have H3 := Lib.hid h3
  have HN := Lib.hid okn
  have HP := Lib.hid okp
  have HT := Lib.hid ht
  clear h1 h2 h3 okn okp hn hp ht
  go_enter Tryd.func6, Tryd.ntmps6
  go_wp2_with fail
  refine (known_true _).mono ?_
  rintro e w1 ⟨rfl, hb1⟩
  have B1 : Below w.heap.size w w1 := by refine Below.trans ?_ (hb1.mono ?_) <;> go_grown
  obtain ⟨hc1, hf1⟩ := bcell hb1
  have hz10 : w.heap.size < w1.heap.size := by have := hb1.size; (try simp at this); omega
  have hz11 : w.heap.size + 1 < w1.heap.size := by have := hb1.size; (try simp at this); omega
  have hz12 : w.heap.size + 2 < w1.heap.size := by have := hb1.size; (try simp at this); omega
  clear hb1
  go_wp2_with fail
  refine (rmay_any _ _ _ _).mono ?_
  rintro e w2 ⟨rfl, hb2⟩
  rw [H1.out]
  have B2 : Below w.heap.size w w2 := by refine Below.trans ?_ (hb2.mono ?_) <;> go_grown
  clear B1
  obtain ⟨hc2, hf2⟩ := bcell hb2
  have hz20 : w.heap.size < w2.heap.size := by have := hb2.size; (try simp at this); omega
  have hz21 : w.heap.size + 1 < w2.heap.size := by have := hb2.size; (try simp at this); omega
  have hz22 : w.heap.size + 2 < w2.heap.size := by have := hb2.size; (try simp at this); omega
  clear hb2
  go_wp2_with fail
  refine (rmay_any _ _ _ _).mono ?_
  rintro e w3 ⟨rfl, hb3⟩
  rw [H2.out]
  have B3 : Below w.heap.size w w3 := by refine Below.trans ?_ (hb3.mono ?_) <;> go_grown
  clear B2
  obtain ⟨hc3, hf3⟩ := bcell hb3
  have hz30 : w.heap.size < w3.heap.size := by have := hb3.size; (try simp at this); omega
  have hz31 : w.heap.size + 1 < w3.heap.size := by have := hb3.size; (try simp at this); omega
  have hz32 : w.heap.size + 2 < w3.heap.size := by have := hb3.size; (try simp at this); omega
  clear hb3
  go_wp2_with fail
  refine (rmay_any _ _ _ _).mono ?_
  rintro e w4 ⟨rfl, hb4⟩
  rw [H3.out]
  have B4 : Below w.heap.size w w4 := by refine Below.trans ?_ (hb4.mono ?_) <;> go_grown
  clear B3
  obtain ⟨hc4, hf4⟩ := bcell hb4
  have hz40 : w.heap.size < w4.heap.size := by have := hb4.size; (try simp at this); omega
  have hz41 : w.heap.size + 1 < w4.heap.size := by have := hb4.size; (try simp at this); omega
  have hz42 : w.heap.size + 2 < w4.heap.size := by have := hb4.size; (try simp at this); omega
  clear hb4
  go_wp2_with fail
  refine (next_any _ _ _ _).mono ?_
  rintro e w5 ⟨rfl, hb5⟩
  rw [HN.out]
  have B5 : Below w.heap.size w w5 := by refine Below.trans ?_ (hb5.mono ?_) <;> go_grown
  clear B4
  obtain ⟨hc5, hf5⟩ := bcell hb5
  have hz50 : w.heap.size < w5.heap.size := by have := hb5.size; (try simp at this); omega
  have hz51 : w.heap.size + 1 < w5.heap.size := by have := hb5.size; (try simp at this); omega
  have hz52 : w.heap.size + 2 < w5.heap.size := by have := hb5.size; (try simp at this); omega
  clear hb5
  have y50 : w.heap.size < w5.heap.size + 1 := by omega
  have y51 : w.heap.size + 1 < w5.heap.size + 1 := by omega
  go_wp2_with fail
  refine (prev_any _ _ _ _).mono ?_
  rintro e w6 ⟨rfl, hb6⟩
  rw [HP.out]
  have B6 : Below w.heap.size w w6 := by refine Below.trans ?_ (hb6.mono ?_) <;> go_grown
  clear B5
  obtain ⟨hc6, hf6⟩ := bcell hb6
  have hz60 : w.heap.size < w6.heap.size := by have := hb6.size; (try simp at this); omega
  have hz61 : w.heap.size + 1 < w6.heap.size := by have := hb6.size; (try simp at this); omega
  have hz62 : w.heap.size + 2 < w6.heap.size := by have := hb6.size; (try simp at this); omega
  have hz63 : w5.heap.size < w6.heap.size := by have := hb6.size; (try simp at this); omega
  clear hb6
  have y60 : w.heap.size < w6.heap.size + 1 := by omega
  have y61 : w.heap.size + 1 < w6.heap.size + 1 := by omega
  go_wp2_with fail
  refine (compare_any _ _ _ _ _ _ _).mono ?_
  rintro e w7 ⟨rfl, hb7⟩
  rw [HK1.out]
  have B7 : Below w.heap.size w w7 := by refine Below.trans ?_ (hb7.mono ?_) <;> go_grown
  clear B6
  obtain ⟨hc7, hf7⟩ := bcell hb7
  have hz70 : w.heap.size < w7.heap.size := by have := hb7.size; (try simp at this); omega
  have hz71 : w.heap.size + 1 < w7.heap.size := by have := hb7.size; (try simp at this); omega
  have hz72 : w.heap.size + 2 < w7.heap.size := by have := hb7.size; (try simp at this); omega
  have hz73 : w5.heap.size < w7.heap.size := by have := hb7.size; (try simp at this); omega
  have hz74 : w6.heap.size < w7.heap.size := by have := hb7.size; (try simp at this); omega
  clear hb7
  go_wp2_with fail
  refine (compare_any _ _ _ _ _ _ _).mono ?_
  rintro e w8 ⟨rfl, hb8⟩
  rw [HK1.out]
  have B8 : Below w.heap.size w w8 := by refine Below.trans ?_ (hb8.mono ?_) <;> go_grown
  clear B7
  obtain ⟨hc8, hf8⟩ := bcell hb8
  have hz80 : w.heap.size < w8.heap.size := by have := hb8.size; (try simp at this); omega
  have hz81 : w.heap.size + 1 < w8.heap.size := by have := hb8.size; (try simp at this); omega
  have hz82 : w.heap.size + 2 < w8.heap.size := by have := hb8.size; (try simp at this); omega
  have hz83 : w5.heap.size < w8.heap.size := by have := hb8.size; (try simp at this); omega
  have hz84 : w6.heap.size < w8.heap.size := by have := hb8.size; (try simp at this); omega
  clear hb8
  go_wp2_with fail
  refine (compare_any _ _ _ _ _ _ _).mono ?_
  rintro e w9 ⟨rfl, hb9⟩
  rw [HK2.out]
  have B9 : Below w.heap.size w w9 := by refine Below.trans ?_ (hb9.mono ?_) <;> go_grown
  clear B8
  obtain ⟨hc9, hf9⟩ := bcell hb9
  have hz90 : w.heap.size < w9.heap.size := by have := hb9.size; (try simp at this); omega
  have hz91 : w.heap.size + 1 < w9.heap.size := by have := hb9.size; (try simp at this); omega
  have hz92 : w.heap.size + 2 < w9.heap.size := by have := hb9.size; (try simp at this); omega
  have hz93 : w5.heap.size < w9.heap.size := by have := hb9.size; (try simp at this); omega
  have hz94 : w6.heap.size < w9.heap.size := by have := hb9.size; (try simp at this); omega
  clear hb9
  go_wp2_with fail
  refine (compare_any _ _ _ _ _ _ _).mono ?_
  rintro e w10 ⟨rfl, hb10⟩
  rw [HK4.out]
  have B10 : Below w.heap.size w w10 := by refine Below.trans ?_ (hb10.mono ?_) <;> go_grown
  clear B9
  obtain ⟨hc10, hf10⟩ := bcell hb10
  have hz100 : w.heap.size < w10.heap.size := by have := hb10.size; (try simp at this); omega
  have hz101 : w.heap.size + 1 < w10.heap.size := by have := hb10.size; (try simp at this); omega
  have hz102 : w.heap.size + 2 < w10.heap.size := by have := hb10.size; (try simp at this); omega
  have hz103 : w5.heap.size < w10.heap.size := by have := hb10.size; (try simp at this); omega
  have hz104 : w6.heap.size < w10.heap.size := by have := hb10.size; (try simp at this); omega
  clear hb10
  go_wp2_with fail
  refine (compare_any _ _ _ _ _ _ _).mono ?_
  rintro e w11 ⟨rfl, hb11⟩
  rw [HK5.out]
  have B11 : Below w.heap.size w w11 := by refine Below.trans ?_ (hb11.mono ?_) <;> go_grown
  clear B10
  obtain ⟨hc11, hf11⟩ := bcell hb11
  have hz110 : w.heap.size < w11.heap.size := by have := hb11.size; (try simp at this); omega
  have hz111 : w.heap.size + 1 < w11.heap.size := by have := hb11.size; (try simp at this); omega
  have hz112 : w.heap.size + 2 < w11.heap.size := by have := hb11.size; (try simp at this); omega
  have hz113 : w5.heap.size < w11.heap.size := by have := hb11.size; (try simp at this); omega
  have hz114 : w6.heap.size < w11.heap.size := by have := hb11.size; (try simp at this); omega
  clear hb11
  have d00 : w11.cell? ⟨w.heap.size, 0, none⟩ = some (.int .i64 a) := by go_cell
  have d01 : w11.cell? ⟨w.heap.size, 1, none⟩ = some (.int .i64 b) := by go_cell
  have d02 : w11.cell? ⟨w.heap.size, 2, none⟩ = some (.int .i64 c) := by go_cell
  have d10 : w11.cell? ⟨w.heap.size + 1, 0, none⟩ = some (.int .i64 x) := by go_cell
  have d11 : w11.cell? ⟨w.heap.size + 1, 1, none⟩ = some (.int .i64 y) := by go_cell
  have d12 : w11.cell? ⟨w.heap.size + 1, 2, none⟩ = some (.int .i64 z) := by go_cell
  have hzl : w.heap.size + 1 < w11.heap.size := hz111
  go_wp2_with fail
  clear hc1 hf1 hc2 hf2 hc3 hf3 hc4 hf4 hc5 hf5 hc6 hf6 hc7 hf7 hc8 hf8 hc9 hf9 hc10 hf10 hc11 hf11
  change Code.wp _ (Code.region _ _ _) _ _ _
  go_region_held3 (fun w' => w'.cell? ⟨w.heap.size, 0, none⟩ = some (.int .i64 a) ∧ w'.cell? ⟨w.heap.size, 1, none⟩ = some (.int .i64 b) ∧ w'.cell? ⟨w.heap.size, 2, none⟩ = some (.int .i64 c) ∧ w'.cell? ⟨w.heap.size + 1, 0, none⟩ = some (.int .i64 x) ∧ w'.cell? ⟨w.heap.size + 1, 1, none⟩ = some (.int .i64 y) ∧ w'.cell? ⟨w.heap.size + 1, 2, none⟩ = some (.int .i64 z) ∧ w.heap.size + 1 < w'.heap.size ∧ Below w.heap.size w w')
    (first | (exact two_keep (by assumption) (by assumption)) | (refine ⟨by simpa using d00, by simpa using d01, by simpa using d02, by simpa using d10, by simpa using d11, by simpa using d12, by simpa using hzl, ?_⟩; exact Below.drew (by assumption)))
    (first | (go_at_call 22; refine (print_any _ _ _ _ (HT.out.below (And.right (And.right (And.right (And.right (And.right (And.right (And.right ‹_ ∧ _›))))))) (Nat.le_refl _))).mono ?_; rintro e w2 ⟨rfl, hb⟩))
  rename_i hH
  obtain ⟨_, _, _, _, _, _, _, hB⟩ := hH
  go_wp2
  go_returns
  exact ⟨rfl, hB⟩
set_option maxHeartbeats 4000000 in
set_option maxRecDepth 100000 in
theorem next_z_ll (a b c x y z u v s : Int) (w : World) (ht : Pow10 w) (h1 : V.may a b c = true) (h2 : V.may x y z = true) (h3 : V.may u v s = true) (hn : V.rank a b c < 999999999) (hp : V.rank a b c = 0) (hab : V.cmp a b c x y z ≤ 0) (hbc : V.cmp x y z u v s ≤ 0) :
    Calls Tryd.prog 6 #[.agg #[.int .i64 a, .int .i64 b, .int .i64 c], .agg #[.int .i64 x, .int .i64 y, .int .i64 z], .agg #[.int .i64 u, .int .i64 v, .int .i64 s]] w fun e w' => e = .returned (.bool true) ∧ Below w.heap.size w w' := by
  have hr := V.rank_bd h1
  have hr2 := V.rank_bd h2
  have hba := V.cmp_neg a b c x y z
  have g1 := @V.cmp_gt x y z a b c h2 h1
  have l1 := @V.rank_lt x y z a b c h2 h1
  have okn : V.atOk (V.nx a b c) = true := V.atOk_iff.2 (by rw [V.nx_yes h1]; omega)
  have g2 := @V.rank_lt x y z (V.atA (V.nx a b c)) (V.atB (V.nx a b c)) (V.atC (V.nx a b c)) h2 (V.may_at okn)
  rw [V.rank_at okn, V.nx_yes h1] at g2
  have okp : V.atOk (V.pv a b c) = false := V.atOk_neg (by rw [V.pv_yes h1]; omega)
  have e2 : decide (0 ≤ V.cmp x y z (V.atA (V.nx a b c)) (V.atB (V.nx a b c)) (V.atC (V.nx a b c))) = decide (0 < V.cmp x y z a b c) := by rw [decide_eq_decide]; rw [V.nx_yes h1]; omega
  have e3 : ¬ V.cmp x y z a b c < 0 := by omega
  have e4 : ¬ 0 < V.cmp a b c u v s := by
    have q1 := @V.cmp_gt a b c x y z h1 h2
    have q2 := @V.cmp_gt x y z u v s h2 h3
    have q3 := @V.cmp_gt a b c u v s h1 h3
    omega
  have es := V.str_same h1 h2
  clear hba g1 l1 hr hr2 g2
  obtain ⟨k1, EK1⟩ : ∃ q, V.cmp x y z a b c = q := ⟨_, rfl⟩
  obtain ⟨k2, EK2⟩ : ∃ q, V.cmp x y z (V.atA (V.nx a b c)) (V.atB (V.nx a b c)) (V.atC (V.nx a b c)) = q := ⟨_, rfl⟩
  obtain ⟨k4, EK4⟩ : ∃ q, V.cmp a b c x y z = q := ⟨_, rfl⟩
  obtain ⟨k5, EK5⟩ : ∃ q, V.cmp x y z u v s = q := ⟨_, rfl⟩
  obtain ⟨k6, EK6⟩ : ∃ q, V.cmp a b c u v s = q := ⟨_, rfl⟩
  rw [EK1] at e2 e3
  have HK1 := Lib.hid EK1
  rw [EK2] at e2
  have HK2 := Lib.hid EK2
  rw [EK4] at hab
  have HK4 := Lib.hid EK4
  rw [EK5] at hbc
  have HK5 := Lib.hid EK5
  rw [EK6] at e4
  have HK6 := Lib.hid EK6
  clear EK1 EK2 EK4 EK5 EK6
  have H1 := Lib.hid h1
  have H2 := Lib.hid h2
  have H3 := Lib.hid h3
  have HN := Lib.hid okn
  have HP := Lib.hid okp
  have HT := Lib.hid ht
  clear h1 h2 h3 okn okp hn hp ht
  go_enter Tryd.func6, Tryd.ntmps6
  go_wp2_with fail
  refine (known_true _).mono ?_
  rintro e w1 ⟨rfl, hb1⟩
  have B1 : Below w.heap.size w w1 := by refine Below.trans ?_ (hb1.mono ?_) <;> go_grown
  obtain ⟨hc1, hf1⟩ := bcell hb1
  have hz10 : w.heap.size < w1.heap.size := by have := hb1.size; (try simp at this); omega
  have hz11 : w.heap.size + 1 < w1.heap.size := by have := hb1.size; (try simp at this); omega
  have hz12 : w.heap.size + 2 < w1.heap.size := by have := hb1.size; (try simp at this); omega
  clear hb1
  go_wp2_with fail
  refine (rmay_any _ _ _ _).mono ?_
  rintro e w2 ⟨rfl, hb2⟩
  rw [H1.out]
  have B2 : Below w.heap.size w w2 := by refine Below.trans ?_ (hb2.mono ?_) <;> go_grown
  clear B1
  obtain ⟨hc2, hf2⟩ := bcell hb2
  have hz20 : w.heap.size < w2.heap.size := by have := hb2.size; (try simp at this); omega
  have hz21 : w.heap.size + 1 < w2.heap.size := by have := hb2.size; (try simp at this); omega
  have hz22 : w.heap.size + 2 < w2.heap.size := by have := hb2.size; (try simp at this); omega
  clear hb2
  go_wp2_with fail
  refine (rmay_any _ _ _ _).mono ?_
  rintro e w3 ⟨rfl, hb3⟩
  rw [H2.out]
  have B3 : Below w.heap.size w w3 := by refine Below.trans ?_ (hb3.mono ?_) <;> go_grown
  clear B2
  obtain ⟨hc3, hf3⟩ := bcell hb3
  have hz30 : w.heap.size < w3.heap.size := by have := hb3.size; (try simp at this); omega
  have hz31 : w.heap.size + 1 < w3.heap.size := by have := hb3.size; (try simp at this); omega
  have hz32 : w.heap.size + 2 < w3.heap.size := by have := hb3.size; (try simp at this); omega
  clear hb3
  go_wp2_with fail
  refine (rmay_any _ _ _ _).mono ?_
  rintro e w4 ⟨rfl, hb4⟩
  rw [H3.out]
  have B4 : Below w.heap.size w w4 := by refine Below.trans ?_ (hb4.mono ?_) <;> go_grown
  clear B3
  obtain ⟨hc4, hf4⟩ := bcell hb4
  have hz40 : w.heap.size < w4.heap.size := by have := hb4.size; (try simp at this); omega
  have hz41 : w.heap.size + 1 < w4.heap.size := by have := hb4.size; (try simp at this); omega
  have hz42 : w.heap.size + 2 < w4.heap.size := by have := hb4.size; (try simp at this); omega
  clear hb4
  go_wp2_with fail
  refine (next_any _ _ _ _).mono ?_
  rintro e w5 ⟨rfl, hb5⟩
  rw [HN.out]
  have B5 : Below w.heap.size w w5 := by refine Below.trans ?_ (hb5.mono ?_) <;> go_grown
  clear B4
  obtain ⟨hc5, hf5⟩ := bcell hb5
  have hz50 : w.heap.size < w5.heap.size := by have := hb5.size; (try simp at this); omega
  have hz51 : w.heap.size + 1 < w5.heap.size := by have := hb5.size; (try simp at this); omega
  have hz52 : w.heap.size + 2 < w5.heap.size := by have := hb5.size; (try simp at this); omega
  clear hb5
  have y50 : w.heap.size < w5.heap.size + 1 := by omega
  have y51 : w.heap.size + 1 < w5.heap.size + 1 := by omega
  go_wp2_with fail
  refine (prev_any _ _ _ _).mono ?_
  rintro e w6 ⟨rfl, hb6⟩
  rw [HP.out]
  have B6 : Below w.heap.size w w6 := by refine Below.trans ?_ (hb6.mono ?_) <;> go_grown
  clear B5
  obtain ⟨hc6, hf6⟩ := bcell hb6
  have hz60 : w.heap.size < w6.heap.size := by have := hb6.size; (try simp at this); omega
  have hz61 : w.heap.size + 1 < w6.heap.size := by have := hb6.size; (try simp at this); omega
  have hz62 : w.heap.size + 2 < w6.heap.size := by have := hb6.size; (try simp at this); omega
  have hz63 : w5.heap.size < w6.heap.size := by have := hb6.size; (try simp at this); omega
  clear hb6
  have y60 : w.heap.size < w6.heap.size + 1 := by omega
  have y61 : w.heap.size + 1 < w6.heap.size + 1 := by omega
  go_wp2_with fail
  refine (compare_any _ _ _ _ _ _ _).mono ?_
  rintro e w7 ⟨rfl, hb7⟩
  rw [HK1.out]
  have B7 : Below w.heap.size w w7 := by refine Below.trans ?_ (hb7.mono ?_) <;> go_grown
  clear B6
  obtain ⟨hc7, hf7⟩ := bcell hb7
  have hz70 : w.heap.size < w7.heap.size := by have := hb7.size; (try simp at this); omega
  have hz71 : w.heap.size + 1 < w7.heap.size := by have := hb7.size; (try simp at this); omega
  have hz72 : w.heap.size + 2 < w7.heap.size := by have := hb7.size; (try simp at this); omega
  have hz73 : w5.heap.size < w7.heap.size := by have := hb7.size; (try simp at this); omega
  have hz74 : w6.heap.size < w7.heap.size := by have := hb7.size; (try simp at this); omega
  clear hb7
  go_wp2_with fail
  refine (compare_any _ _ _ _ _ _ _).mono ?_
  rintro e w8 ⟨rfl, hb8⟩
  rw [HK1.out]
  have B8 : Below w.heap.size w w8 := by refine Below.trans ?_ (hb8.mono ?_) <;> go_grown
  clear B7
  obtain ⟨hc8, hf8⟩ := bcell hb8
  have hz80 : w.heap.size < w8.heap.size := by have := hb8.size; (try simp at this); omega
  have hz81 : w.heap.size + 1 < w8.heap.size := by have := hb8.size; (try simp at this); omega
  have hz82 : w.heap.size + 2 < w8.heap.size := by have := hb8.size; (try simp at this); omega
  have hz83 : w5.heap.size < w8.heap.size := by have := hb8.size; (try simp at this); omega
  have hz84 : w6.heap.size < w8.heap.size := by have := hb8.size; (try simp at this); omega
  clear hb8
  go_wp2_with fail
  refine (compare_any _ _ _ _ _ _ _).mono ?_
  rintro e w9 ⟨rfl, hb9⟩
  rw [HK2.out]
  have B9 : Below w.heap.size w w9 := by refine Below.trans ?_ (hb9.mono ?_) <;> go_grown
  clear B8
  obtain ⟨hc9, hf9⟩ := bcell hb9
  have hz90 : w.heap.size < w9.heap.size := by have := hb9.size; (try simp at this); omega
  have hz91 : w.heap.size + 1 < w9.heap.size := by have := hb9.size; (try simp at this); omega
  have hz92 : w.heap.size + 2 < w9.heap.size := by have := hb9.size; (try simp at this); omega
  have hz93 : w5.heap.size < w9.heap.size := by have := hb9.size; (try simp at this); omega
  have hz94 : w6.heap.size < w9.heap.size := by have := hb9.size; (try simp at this); omega
  clear hb9
  go_wp2_with fail
  refine (compare_any _ _ _ _ _ _ _).mono ?_
  rintro e w10 ⟨rfl, hb10⟩
  rw [HK4.out]
  have B10 : Below w.heap.size w w10 := by refine Below.trans ?_ (hb10.mono ?_) <;> go_grown
  clear B9
  obtain ⟨hc10, hf10⟩ := bcell hb10
  have hz100 : w.heap.size < w10.heap.size := by have := hb10.size; (try simp at this); omega
  have hz101 : w.heap.size + 1 < w10.heap.size := by have := hb10.size; (try simp at this); omega
  have hz102 : w.heap.size + 2 < w10.heap.size := by have := hb10.size; (try simp at this); omega
  have hz103 : w5.heap.size < w10.heap.size := by have := hb10.size; (try simp at this); omega
  have hz104 : w6.heap.size < w10.heap.size := by have := hb10.size; (try simp at this); omega
  clear hb10
  go_wp2_with fail
  refine (compare_any _ _ _ _ _ _ _).mono ?_
  rintro e w11 ⟨rfl, hb11⟩
  rw [HK5.out]
  have B11 : Below w.heap.size w w11 := by refine Below.trans ?_ (hb11.mono ?_) <;> go_grown
  clear B10
  obtain ⟨hc11, hf11⟩ := bcell hb11
  have hz110 : w.heap.size < w11.heap.size := by have := hb11.size; (try simp at this); omega
  have hz111 : w.heap.size + 1 < w11.heap.size := by have := hb11.size; (try simp at this); omega
  have hz112 : w.heap.size + 2 < w11.heap.size := by have := hb11.size; (try simp at this); omega
  have hz113 : w5.heap.size < w11.heap.size := by have := hb11.size; (try simp at this); omega
  have hz114 : w6.heap.size < w11.heap.size := by have := hb11.size; (try simp at this); omega
  clear hb11
  go_wp2_with fail
  refine (compare_any _ _ _ _ _ _ _).mono ?_
  rintro e w12 ⟨rfl, hb12⟩
  rw [HK6.out]
  have B12 : Below w.heap.size w w12 := by refine Below.trans ?_ (hb12.mono ?_) <;> go_grown
  clear B11
  obtain ⟨hc12, hf12⟩ := bcell hb12
  have hz120 : w.heap.size < w12.heap.size := by have := hb12.size; (try simp at this); omega
  have hz121 : w.heap.size + 1 < w12.heap.size := by have := hb12.size; (try simp at this); omega
  have hz122 : w.heap.size + 2 < w12.heap.size := by have := hb12.size; (try simp at this); omega
  have hz123 : w5.heap.size < w12.heap.size := by have := hb12.size; (try simp at this); omega
  have hz124 : w6.heap.size < w12.heap.size := by have := hb12.size; (try simp at this); omega
  clear hb12
  have d00 : w12.cell? ⟨w.heap.size, 0, none⟩ = some (.int .i64 a) := by go_cell
  have d01 : w12.cell? ⟨w.heap.size, 1, none⟩ = some (.int .i64 b) := by go_cell
  have d02 : w12.cell? ⟨w.heap.size, 2, none⟩ = some (.int .i64 c) := by go_cell
  have d10 : w12.cell? ⟨w.heap.size + 1, 0, none⟩ = some (.int .i64 x) := by go_cell
  have d11 : w12.cell? ⟨w.heap.size + 1, 1, none⟩ = some (.int .i64 y) := by go_cell
  have d12 : w12.cell? ⟨w.heap.size + 1, 2, none⟩ = some (.int .i64 z) := by go_cell
  have hzl : w.heap.size + 1 < w12.heap.size := hz121
  go_wp2_with fail
  clear hc1 hf1 hc2 hf2 hc3 hf3 hc4 hf4 hc5 hf5 hc6 hf6 hc7 hf7 hc8 hf8 hc9 hf9 hc10 hf10 hc11 hf11 hc12 hf12
  change Code.wp _ (Code.region _ _ _) _ _ _
  go_region_held3 (fun w' => w'.cell? ⟨w.heap.size, 0, none⟩ = some (.int .i64 a) ∧ w'.cell? ⟨w.heap.size, 1, none⟩ = some (.int .i64 b) ∧ w'.cell? ⟨w.heap.size, 2, none⟩ = some (.int .i64 c) ∧ w'.cell? ⟨w.heap.size + 1, 0, none⟩ = some (.int .i64 x) ∧ w'.cell? ⟨w.heap.size + 1, 1, none⟩ = some (.int .i64 y) ∧ w'.cell? ⟨w.heap.size + 1, 2, none⟩ = some (.int .i64 z) ∧ w.heap.size + 1 < w'.heap.size ∧ Below w.heap.size w w')
    (first | (exact two_keep (by assumption) (by assumption)) | (refine ⟨by simpa using d00, by simpa using d01, by simpa using d02, by simpa using d10, by simpa using d11, by simpa using d12, by simpa using hzl, ?_⟩; exact Below.drew (by assumption)))
    (first | (go_at_call 22; refine (print_any _ _ _ _ (HT.out.below (And.right (And.right (And.right (And.right (And.right (And.right (And.right ‹_ ∧ _›))))))) (Nat.le_refl _))).mono ?_; rintro e w2 ⟨rfl, hb⟩))
  rename_i hH
  obtain ⟨_, _, _, _, _, _, _, hB⟩ := hH
  go_wp2
  go_returns
  exact ⟨rfl, hB⟩
end Go.Proofs.YthbepoeohjddnaaDoor
