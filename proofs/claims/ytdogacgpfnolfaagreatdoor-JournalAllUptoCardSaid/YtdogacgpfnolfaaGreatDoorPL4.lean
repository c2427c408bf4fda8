/- Plans: what their texts and their checks answer (part 4). -/
import Derived.Test.YtdogacgpfnolfaaGreatDoorPL3
namespace Go.Proofs.YtdogacgpfnolfaaGreatDoor.PL
open Go.RowKit
set_option linter.unusedSimpArgs false
set_option linter.unusedVariables false
namespace Plan
def kindOf (w : List UInt8) : Int := if w = [] then 0 else if w = wUnlink then 1 else if w = wRmdir then 2 else if w = wMkdir then 3 else if w = wPut then 4 else -1
def parseLine : List (List UInt8) → Option D
  | [w, p] => if kindOf w = 4 then none else some ⟨kindOf w, p, []⟩
  | [w, p, x] => if kindOf w = 4 then (dataOf x).map fun y => ⟨4, p, y⟩ else none
  | _ => none
def parseAll : List (List (List UInt8)) → Option (List D)
  | [] => some []
  | l :: r => match parseLine l, parseAll r with
    | some d, some ds => some (d :: ds)
    | _, _ => none
def planW : List UInt8 := [112, 108, 97, 110]
/-- What Parse answers. -/
def parse (T : List UInt8) : Int × List D := match Scan.spec T with
  | .inl _ => (22, [])
  | .inr [] => (44, [])
  | .inr (h :: r) => if h = [planW] then match parseAll r with
      | some ds => if ok ds then (0, ds) else (44, [])
      | none => (44, []) else (44, [])
theorem parseAll_append : ∀ (a b : List (List (List UInt8))), parseAll (a ++ b) = (parseAll a).bind fun x => (parseAll b).map (x ++ ·)
  | [], b => by cases h : parseAll b <;> simp [parseAll, h]
  | l :: r, b => by
    have ih := parseAll_append r b
    simp only [List.cons_append, parseAll, ih]
    cases parseLine l with
    | none => rfl
    | some d =>
      cases parseAll r with
      | none => rfl
      | some x => cases parseAll b <;> simp
theorem parseAll_next {r : List (List (List UInt8))} {k : Nat} {l : List (List UInt8)} {out : List D} {d : D} (h : parseAll (r.take k) = some out) (hl : r[k]? = some l) (hd : parseLine l = some d) : parseAll (r.take (k + 1)) = some (out ++ [d]) := by
  rw [List.take_add_one, hl, parseAll_append, h]
  simp [parseAll, hd]
theorem parseAll_bad {r : List (List (List UInt8))} {k : Nat} {l : List (List UInt8)} (hl : r[k]? = some l) (hd : parseLine l = none) : parseAll r = none := by
  have h := List.getElem?_eq_some_iff.1 hl
  have e : r = r.take k ++ (l :: r.drop (k + 1)) := by
    have e1 : r = r.take k ++ r.drop k := (List.take_append_drop k r).symm
    rw [List.drop_eq_getElem_cons h.1, h.2] at e1
    exact e1
  rw [e, parseAll_append]
  cases parseAll (r.take k) with
  | none => rfl
  | some x => simp [parseAll, hd]
theorem unhex_le : ∀ (l y : List UInt8), unhex l = some y → y.length ≤ l.length
  | [], y, h => by simp [unhex] at h; subst h; simp
  | [_], y, h => by simp [unhex] at h
  | a :: b :: r, y, h => by
    simp only [unhex] at h
    cases hv : val a with
    | none => rw [hv] at h; exact absurd h (by simp)
    | some u =>
      cases hw : val b with
      | none => rw [hv, hw] at h; exact absurd h (by simp)
      | some v =>
        rw [hv, hw] at h
        cases hr : unhex r with
        | none => rw [hr] at h; exact absurd h (by simp)
        | some z =>
          rw [hr] at h
          simp at h
          subst h
          have := unhex_le r z hr
          simp
          omega
theorem dataOf_le {l y : List UInt8} (h : dataOf l = some y) : y.length ≤ l.length := by
  unfold dataOf at h
  split at h
  · simp at h; subst h; simp
  · exact unhex_le _ _ h
theorem kind_words (x : ByteArray) : Go.Lib.idxOfS [ByteArray.empty, bs wUnlink, bs wRmdir, bs wMkdir, bs wPut] x = kindOf x.data.toList := by
  have key : ∀ l : List UInt8, (bs l = x) = (x.data.toList = l) := fun l => by
    apply propext
    constructor
    · rintro rfl; rfl
    · rintro rfl; exact bs_of x
  have key0 : (ByteArray.empty = x) = (x.data.toList = []) := key []
  unfold Go.Lib.idxOfS kindOf
  simp only [Go.Lib.idxFromS, key0, key]
  by_cases h0 : x.data.toList = []
  · simp [h0]
  by_cases h1 : x.data.toList = wUnlink
  · simp [h1, wUnlink]
  by_cases h2 : x.data.toList = wRmdir
  · simp [h2, wUnlink, wRmdir]
  by_cases h3 : x.data.toList = wMkdir
  · simp [h3, wUnlink, wRmdir, wMkdir]
  by_cases h4 : x.data.toList = wPut
  · simp [h4, wUnlink, wRmdir, wMkdir, wPut]
  · simp [h0, h1, h2, h3, h4]
end Plan
end Go.Proofs.YtdogacgpfnolfaaGreatDoor.PL

namespace Go.Proofs.YtdogacgpfnolfaaGreatDoor.PL
open Go.RowKit
set_option linter.unusedSimpArgs false
set_option linter.unusedVariables false
theorem infoDeed : (Tryz.prog.info? 39).map (fun i => (i.zero, i.size, i.bytes)) = some (some (.agg #[.int .i64 0, .string ByteArray.empty, .string ByteArray.empty]), 3, 40) := by kernel_rfl
def deedCells (ds : List Plan.D) : List Value := ds.flatMap fun d => (dcells d).toList
theorem deedCells_at : ∀ (ds : List Plan.D) (i : Nat) (d : Plan.D), ds[i]? = some d → (deedCells ds)[i * 3]? = some (.int .i64 d.kind) ∧ (deedCells ds)[i * 3 + 1]? = some (.string (bs d.path)) ∧ (deedCells ds)[i * 3 + 2]? = some (.string (bs d.data))
  | [], i, d, h => by simp at h
  | x :: r, 0, d, h => by simp at h; subst h; exact ⟨rfl, rfl, rfl⟩
  | x :: r, i + 1, d, h => by
    have ih := deedCells_at r i d (by simpa using h)
    have e : ∀ j, (deedCells (x :: r))[j + 3]? = (deedCells r)[j]? := fun j => rfl
    rw [show (i + 1) * 3 = i * 3 + 3 by omega, show i * 3 + 3 + 1 = (i * 3 + 1) + 3 by omega, show i * 3 + 3 + 2 = (i * 3 + 2) + 3 by omega, e, e, e]
    exact ih
theorem Deeds.of_own {w : World} {base : Nat} {e : TypeId} {v : Value} {ds : List Plan.D} (h : w.ownsRow base e 3 v ds.length (deedCells ds)) : Deeds w w.heap.size v ds := by
  rcases h.2 with ⟨rfl, h0⟩ | ⟨g, cap, cur, rfl, hb, hg, hnc, _⟩
  · have : ds = [] := List.length_eq_zero_iff.1 h0
    subst this
    exact Deeds.nil _ _
  · have hgs : g < w.heap.size := (Array.getElem?_eq_some_iff.1 hg).1
    refine ⟨some ⟨g, 0, none⟩, cap, rfl, fun i d hd => ⟨g, 0, rfl, hgs, ?_⟩⟩
    have hi := (List.getElem?_eq_some_iff.1 hd).1
    obtain ⟨h1, h2, h3⟩ := deedCells_at ds i d hd
    simp only [Nat.zero_add]
    exact ⟨by rw [h.cellAt _ (by omega)]; exact h1, by rw [h.cellAt _ (by omega)]; exact h2, by rw [h.cellAt _ (by omega)]; exact h3⟩
/-- slices.Index among the kinds' words. -/
theorem IndexKind (b c : Nat) (x : ByteArray) (w : World) (h : ∀ (j : Nat) u, ([.string ⟨#[]⟩, .string ⟨#[117, 110, 108, 105, 110, 107]⟩, .string ⟨#[114, 109, 100, 105, 114]⟩, .string ⟨#[109, 107, 100, 105, 114]⟩, .string ⟨#[112, 117, 116]⟩] : List Value)[j]? = some u → w.cell? ⟨b, j, none⟩ = some u) :
    Calls Tryz.prog 61 #[.slice (some ⟨b, 0, none⟩) 5 c, .string x] w fun e w' => e = .returned (.int .i64 (Plan.kindOf x.data.toList)) ∧ w' = w := by
  have := Tryz.slices_Index_string b 0 5 c [ByteArray.empty, bs Plan.wUnlink, bs Plan.wRmdir, bs Plan.wMkdir, bs Plan.wPut] x w (by simp) (by omega) (fun j hj => by
    have hj5 : j < 5 := by simpa using hj
    rw [Nat.zero_add]
    apply h
    match j, hj5 with
    | 0, _ => rfl
    | 1, _ => rfl
    | 2, _ => rfl
    | 3, _ => rfl
    | 4, _ => rfl)
  rw [show ([ByteArray.empty, bs Plan.wUnlink, bs Plan.wRmdir, bs Plan.wMkdir, bs Plan.wPut]).take 5 = [ByteArray.empty, bs Plan.wUnlink, bs Plan.wRmdir, bs Plan.wMkdir, bs Plan.wPut] from rfl, Plan.kind_words] at this
  exact this
/-- slices.Equal with the first line. -/
theorem EqualPlan {w : World} {B : Nat} {v : Value} {l : List (List UInt8)} (h : Row w B v (l.map sv)) (hp : 0 < l.length) (hl : l.length ≤ 9223372036854775807) (b2 : Nat) (hc : w.cell? ⟨b2, 0, none⟩ = some (.string ⟨#[112, 108, 97, 110]⟩)) :
    Calls Tryz.prog 60 #[v, .slice (some ⟨b2, 0, none⟩) 1 1] w fun e w' => e = .returned (.bool (decide (l = [Plan.planW]))) ∧ ∃ q, w' = w.drewN q := by
  obtain ⟨bk, o, cap, rfl, _, _, hcell⟩ := h.at (by simpa using hp)
  rw [List.length_map]
  by_cases h1 : l.length = 1
  · obtain ⟨x, rfl⟩ := List.length_eq_one_iff.1 h1
    have := Tryz.slices_Equal_string bk o 1 cap b2 0 1 1 [bs x] [bs Plan.planW] w (by simp) (by simp) (by omega) (by omega) (fun j hj => by
      have : j = 0 := by simpa using hj
      subst this
      exact hcell 0 (sv x) rfl) (fun j hj => by
      have : j = 0 := by simpa using hj
      subst this
      exact hc)
    refine this.mono fun e w' ⟨he, hq⟩ => ⟨?_, hq⟩
    rw [he]
    congr 2
    by_cases hx : x = Plan.planW
    · subst hx; simp
    · have : ¬ bs x = bs Plan.planW := fun e => hx (by
        have := congrArg (fun s : ByteArray => s.data.toList) e
        exact this)
      simp [hx, this]
  · have := Tryz.slices_Equal_string_lens (some ⟨bk, o, none⟩) (some ⟨b2, 0, none⟩) l.length cap 1 1 w h1
    refine this.mono fun e w' ⟨he, hw⟩ => ⟨?_, 0, by rw [hw]; rfl⟩
    rw [he, decide_eq_false (fun e => h1 (by rw [e]; rfl))]
end Go.Proofs.YtdogacgpfnolfaaGreatDoor.PL

namespace Go.Proofs.YtdogacgpfnolfaaGreatDoor.PL
open Go.RowKit
set_option linter.unusedSimpArgs false
set_option linter.unusedVariables false
/-- What Parse answers, and what it leaves in memory. -/
def ParsePost (T : List UInt8) (w : World) (e : Ending) (w' : World) : Prop :=
  ∃ v, e = .returned (.tuple #[v, .int .i64 (Plan.parse T).1]) ∧ Deeds w' w'.heap.size v (Plan.parse T).2 ∧ Below w.heap.size w w' ∧ ∀ g, v.ownBlock = some g → w.heap.size ≤ g
theorem ParsePost.bad {T : List UInt8} {c : Int} {w w' : World} (h : Plan.parse T = (c, [])) (hb : Below w.heap.size w w') : ParsePost T w (.returned (.tuple #[.slice none 0 0, .int .i64 c])) w' := by
  unfold ParsePost
  rw [h]
  exact ⟨_, rfl, Deeds.nil _ _, hb, fun g hg => by simp [Value.ownBlock] at hg⟩
theorem ParsePost.good {T : List UInt8} {ds : List Plan.D} {v : Value} {w w' : World} (h : Plan.parse T = (0, ds)) (hd : Deeds w' w'.heap.size v ds) (hb : Below w.heap.size w w') (hg : ∀ g, v.ownBlock = some g → w.heap.size ≤ g) : ParsePost T w (.returned (.tuple #[v, .int .i64 0])) w' := by
  unfold ParsePost
  rw [h]
  exact ⟨_, rfl, hd, hb, hg⟩
end Go.Proofs.YtdogacgpfnolfaaGreatDoor.PL

namespace Go.Proofs.YtdogacgpfnolfaaGreatDoor.PL
open Go.RowKit
set_option linter.unusedSimpArgs false
set_option linter.unusedVariables false
theorem new_cells (w : World) (cs : List Value) (t : TypeId) : ∀ (j : Nat) u, cs[j]? = some u → (w.alloc (.cells cs.toArray t)).cell? ((⟨w.heap.size, 0, none⟩ : Addr).add j) = some u := by
  intro j u hu
  have e : (⟨w.heap.size, 0, none⟩ : Addr).add j = ⟨w.heap.size, j, none⟩ := by
    unfold Addr.add
    split
    · next h => rw [h]
    · simp
  rw [e, World.cell?_alloc_new]
  simpa using hu
theorem new_cells2 (w : World) (n : Nat) (hn : w.heap.size = n) (cs : List Value) (t : TypeId) : ∀ (j : Nat) u, cs[j]? = some u → (w.alloc (.cells cs.toArray t)).cell? ((⟨n, 0, none⟩ : Addr).add j) = some u := by
  subst hn
  exact new_cells w cs t
theorem own_not {w : World} {base : Nat} {e : TypeId} {z n c bd : Nat} {a : Option Addr} {xs : List Value} (h : w.ownsRow base e z (.slice a n c) n xs) (hb : w.heap.size ≤ bd) : (Value.slice a n c).ownBlock = none ∨ (Value.slice a n c).ownBlock ≠ some bd := by
  cases ho : (Value.slice a n c).ownBlock with
  | none => exact Or.inl rfl
  | some g => exact Or.inr (fun e => by cases e; have := (h.lt _ ho).2; omega)
theorem words_cell {W : World} {t : TypeId} {j : Nat} {u : Value} (hu : ([.string ⟨#[]⟩, .string ⟨#[117, 110, 108, 105, 110, 107]⟩, .string ⟨#[114, 109, 100, 105, 114]⟩, .string ⟨#[109, 107, 100, 105, 114]⟩, .string ⟨#[112, 117, 116]⟩] : List Value)[j]? = some u) :
    (W.alloc (.cells #[.string ⟨#[]⟩, .string ⟨#[117, 110, 108, 105, 110, 107]⟩, .string ⟨#[114, 109, 100, 105, 114]⟩, .string ⟨#[109, 107, 100, 105, 114]⟩, .string ⟨#[112, 117, 116]⟩] t)).cell? ⟨W.heap.size, j, none⟩ = some u := by
  rw [World.cell?_alloc_new]
  simpa using hu
set_option maxHeartbeats 4000000 in
set_option maxRecDepth 100000 in
theorem parse_few (s : ByteArray) (hs : s.size ≤ 3500000000000) (w : World) (hno : ∀ r, Scan.spec s.data.toList ≠ .inr ([Plan.planW] :: r)) :
    Calls Tryz.prog 30 #[.string s] w (ParsePost s.data.toList w) := by
  obtain ⟨i0, hi, hz0, hz1, hz2⟩ := info_parts infoDeed
  cases hsp : Scan.spec s.data.toList with
  | inl n =>
    have HA := Lib.hid (ans_bad (s := s) (most := s.size) (by omega) hsp)
    have HP : Hid (Plan.parse s.data.toList = (22, [])) := Lib.hid (by unfold Plan.parse; rw [hsp])
    clear hsp hno
    go_enter Tryz.func30, Tryz.ntmps30
    go_wp2_with fail
    refine (lines_ans s _ (by omega) _).mono ?_
    rintro e w1 ⟨va, hsa, rfl, hla, hb1⟩
    rw [HA.out] at hla ⊢
    clear hla
    go_wp2_with fail
    go_returns
    exact ParsePost.bad HP.out hb1
  | inr ls =>
    have HA := Lib.hid (ans_ok (s := s) (most := s.size) (by omega) hsp)
    have hz := Scan.ans_sizes s s.size
    rw [HA.out] at hz
    have HZ := Lib.hid hz.2
    have hlen : ls.length ≤ 3500000000001 := by have : ls.length ≤ s.size + 1 := hz.1; omega
    clear hz
    cases ls with
    | nil =>
      have HP : Hid (Plan.parse s.data.toList = (44, [])) := Lib.hid (by unfold Plan.parse; rw [hsp])
      clear hsp hno
      go_enter Tryz.func30, Tryz.ntmps30
      go_wp2_with fail
      refine (lines_ans s _ (by omega) _).mono ?_
      rintro e w1 ⟨va, hsa, rfl, hla, hb1⟩
      rw [HA.out] at hla ⊢
      obtain ⟨a0, c0, rfl⟩ := own_form hla.row
      clear hla
      go_wp2_with fail
      go_returns
      exact ParsePost.bad HP.out hb1
    | cons h r =>
      obtain ⟨N, hN⟩ : ∃ N, N = (h :: r).length := ⟨_, rfl⟩
      have hNr : N = r.length + 1 := by rw [hN]; rfl
      rw [← hN] at hlen
      have HH0 := Lib.hid (HZ.out h List.mem_cons_self)
      have hplan : ¬ h = [Plan.planW] := fun e => hno r (by rw [hsp, e])
      have HPL := Lib.hid (show decide (h = [Plan.planW]) = false by simp [hplan])
      have HP : Hid (Plan.parse s.data.toList = (44, [])) := Lib.hid (by unfold Plan.parse; rw [hsp]; simp only [if_neg hplan])
      have HN := Lib.hid hN
      clear hsp hno hN hplan
      go_enter Tryz.func30, Tryz.ntmps30
      go_wp2_with fail
      refine (lines_ans s _ (by omega) _).mono ?_
      rintro e w1 ⟨va, hsa, rfl, hla, hb1⟩
      rw [HA.out] at hla ⊢
      have hvs := Lines.grid_rows hla
      have hrow := hla.row
      rw [← HN.out] at hrow
      obtain ⟨g, cap, rfl, hg1, hg2⟩ := own_some hrow (by omega)
      obtain ⟨vs, hvsd⟩ : ∃ vs, vs = List.zipWith (fun h (l : List (List UInt8)) => rv h l.length) hsa (h :: r) := ⟨_, rfl⟩
      rw [← hvsd] at hvs hrow
      obtain ⟨u0, hu0⟩ : ∃ u, vs[0]? = some u := ⟨_, List.getElem?_eq_getElem (by have := hvs.1; simp at this; omega)⟩
      have e0 : w1.cell? ⟨g, 0, none⟩ = some u0 := by rw [hrow.cellAt 0 (by omega)]; exact hu0
      have HR0 := Lib.hid (hvs.2 0 u0 h hu0 rfl)
      have hN1 : 1 ≤ N := by omega
      have hNz : ((N : Int) == 0) = false := by rw [beq_eq_false_iff_ne]; omega
      clear hu0 hla hvs hrow hvsd
      go_wp2_with fail
      refine (EqualPlan (w := w1.alloc (.cells #[.string ⟨#[112, 108, 97, 110]⟩] 9)) (HR0.out.alloc (Nat.le_refl _) _) HH0.out.2 (by have := HH0.out.1; omega) w1.heap.size (by simp)).mono ?_
      rintro e w2 ⟨rfl, q2, rfl⟩
      rw [HPL.out]
      go_wp2_with fail
      go_returns
      exact ParsePost.bad HP.out (hb1.trans (Below.drewN (((Below.refl _ w1).alloc (Nat.le_refl _) _).mono hb1.size) q2))
end Go.Proofs.YtdogacgpfnolfaaGreatDoor.PL

namespace Go.Proofs.YtdogacgpfnolfaaGreatDoor.PL
open Go.RowKit
set_option linter.unusedSimpArgs false
set_option linter.unusedVariables false
set_option maxHeartbeats 12000000 in
set_option maxRecDepth 100000 in
theorem parse_any (s : ByteArray) (hs : s.size ≤ 3500000000000) (w : World) :
    Calls Tryz.prog 30 #[.string s] w (ParsePost s.data.toList w) := by
  by_cases hno : ∀ r, Scan.spec s.data.toList ≠ .inr ([Plan.planW] :: r)
  · exact parse_few s hs w hno
  obtain ⟨h, r, hsp, hplan⟩ : ∃ h r, Scan.spec s.data.toList = .inr (h :: r) ∧ h = [Plan.planW] := by
    simp only [ne_eq, Classical.not_forall, Classical.not_not] at hno
    obtain ⟨r, hr⟩ := hno
    exact ⟨_, r, hr, rfl⟩
  clear hno
  obtain ⟨ls, hls⟩ : ∃ ls, ls = h :: r := ⟨_, rfl⟩
  rw [← hls] at hsp
  obtain ⟨i0, hi, hz0, hz1, hz2⟩ := info_parts infoDeed
  have HA := Lib.hid (ans_ok (s := s) (most := s.size) (by omega) hsp)
  have hz := Scan.ans_sizes s s.size
  rw [HA.out] at hz
  have HZ := Lib.hid hz.2
  have hlen : ls.length ≤ 3500000000001 := by have : ls.length ≤ s.size + 1 := hz.1; omega
  clear hz
  subst hls
  obtain ⟨N, hN⟩ : ∃ N, N = (h :: r).length := ⟨_, rfl⟩
  have hNr : N = r.length + 1 := by rw [hN]; rfl
  rw [← hN] at hlen
  have HH0 := Lib.hid (HZ.out h List.mem_cons_self)
  have HPL := Lib.hid (show decide (h = [Plan.planW]) = true by simp [hplan])
  have HPAR : Hid (Plan.parse s.data.toList = match Plan.parseAll r with | some ds => if Plan.ok ds then (0, ds) else (44, []) | none => (44, [])) := Lib.hid (by
    unfold Plan.parse; rw [hsp]; simp only [hplan, if_true]; try rfl)
  have HN := Lib.hid hN
  have HNR := Lib.hid hNr
  have HWL : Hid (∀ l : List (List UInt8), (∃ k : Nat, r[k]? = some l) → ∀ p ∈ l, p.length ≤ 3500000000000) := Lib.hid (fun l ⟨k, hl⟩ p hp => by
    have h1 := (Scan.spec_form hsp).1
    have h2 := Scan.unlines_line (ls := h :: r) (k := k + 1) (l := l) (by simpa using hl)
    have h3 := (Scan.glue_words l).2 p hp
    have h4 := congrArg List.length h1
    rw [bal_length] at h4
    omega)
  clear hsp hN hNr hplan
  go_enter Tryz.func30, Tryz.ntmps30
  go_wp2_with fail
  refine (lines_ans s _ (by omega) _).mono ?_
  rintro e w1 ⟨va, hsa, rfl, hla, hb1⟩
  rw [HA.out] at hla ⊢
  have hvs := Lines.grid_rows hla
  have hrow := hla.row
  rw [← HN.out] at hrow
  obtain ⟨g, cap, rfl, hg1, hg2⟩ := own_some hrow (by have := HNR.out; omega)
  have hcap : N ≤ cap := by
    rcases hrow.2 with ⟨h', _⟩ | ⟨g', cap', cur, h', _, _, hnc, _⟩
    · simp at h'
    · injection h' with _ _ hc; omega
  obtain ⟨vs, hvsd⟩ : ∃ vs, vs = List.zipWith (fun h (l : List (List UInt8)) => rv h l.length) hsa (h :: r) := ⟨_, rfl⟩
  rw [← hvsd] at hvs hrow
  have HVS := Lib.hid hvs
  have HROW := Lib.hid hrow
  have HCELL : Hid (∀ j u, vs[j]? = some u → w1.cell? ⟨g, j, none⟩ = some u) := Lib.hid (fun j u hu => by
    have hj := (List.getElem?_eq_some_iff.1 hu).1
    rw [hrow.cellAt j (by have := hrow.1; omega)]; exact hu)
  clear hla hvs hrow hvsd
  obtain ⟨u0, hu0⟩ : ∃ u, vs[0]? = some u := ⟨_, List.getElem?_eq_getElem (by have := HVS.out.1; simp at this; omega)⟩
  have e0 := HCELL.out 0 u0 hu0
  have hr0 := HVS.out.2 0 u0 h hu0 rfl
  have HR0 := Lib.hid hr0
  have hN1 : 1 ≤ N := by have := HNR.out; omega
  have hNz : ((N : Int) == 0) = false := by rw [beq_eq_false_iff_ne]; omega
  clear hu0 hr0
  go_wp2_with fail
  refine (EqualPlan (w := w1.alloc (.cells #[.string ⟨#[112, 108, 97, 110]⟩] 9)) (HR0.out.alloc (Nat.le_refl _) _) HH0.out.2 (by have := HH0.out.1; omega) w1.heap.size (by simp)).mono ?_
  rintro e w2 ⟨rfl, q2, rfl⟩
  rw [HPL.out]
  have HB2 : Hid (Below w1.heap.size w1 ((w1.alloc (.cells #[.string ⟨#[112, 108, 97, 110]⟩] 9)).drewN q2)) := Lib.hid (Below.drewN ((Below.refl _ w1).alloc (Nat.le_refl _) _) q2)
  have hN2 : ((N - 1 : Nat) : Int) = (N : Int) - 1 := by omega
  by_cases hone : N = 1
  · have hr0 : r = [] := List.length_eq_zero_iff.1 (by have := HNR.out; omega)
    have HP : Hid (Plan.parse s.data.toList = (0, [])) := Lib.hid (by rw [HPAR.out, hr0]; rfl)
    have HCK := Lib.hid (fun w => @check_any w w.heap.size (.slice none 0 0) [] (Deeds.nil _ _) (Nat.le_refl _) (by simp) (fun d hd => by simp at hd))
    have hcode : Plan.code [] = 0 := rfl
    subst hone
    clear hr0 hN1 hNz hN2
    go_wp2_with fail
    all_goals
      refine wp_loop_rounds 1 ?_
      rw [rounds_succ]
      go_wp2_with fail
      refine (HCK.out _).mono ?_
      rintro e w3 ⟨rfl, hb3⟩
      rw [hcode]
      go_wp2_with fail
      go_returns
      exact ParsePost.good HP.out (Deeds.nil _ _) (hb1.trans ((HB2.out.trans (hb3.mono HB2.out.size)).mono hb1.size)) (fun g hg => by simp [Value.ownBlock] at hg)
  have hc1 : ¬ cap = 1 := by omega
  go_wp2_with fail
  go_loopw [7, 39] (fun p q wr => ∃ (vl : Value) (k : Nat) (out : List Plan.D), p = vl ∧ q = .int .i64 k ∧ k ≤ N - 1 ∧ Plan.parseAll (r.take k) = some out ∧ out.length = k ∧ (∀ d ∈ out, d.path.length ≤ 3500000000000 ∧ d.data.length ≤ 3500000000000) ∧ wr.ownsRow w1.heap.size 39 3 vl k (deedCells out) ∧ Below w1.heap.size w1 wr) (fun _ q _ => (N - 1) - (intOf q).toNat)
  case atStart => exact ⟨_, 0, [], rfl, rfl, by omega, rfl, rfl, fun d hd => by simp at hd, World.ownsRow_nil _ _ _ _, HB2.out⟩
  case round =>
    obtain ⟨vl, k, out, rfl, rfl, hk, hpar, hol, hsz, hown, hBr⟩ := hrel
    obtain ⟨wo, rfl⟩ : ∃ x, x = wr := ⟨wr, rfl⟩
    have HPK := Lib.hid hpar
    have HOL := Lib.hid hol
    have HSZ := Lib.hid hsz
    have HOWN := Lib.hid hown
    obtain ⟨al, cl, rfl⟩ := own_form hown
    clear hpar hol hsz hown
    by_cases hkN : k < N - 1
    · obtain ⟨l, hl⟩ : ∃ l, r[k]? = some l := ⟨_, List.getElem?_eq_getElem (by have := HNR.out; omega)⟩
      obtain ⟨u, hu⟩ : ∃ u, vs[k + 1]? = some u := ⟨_, List.getElem?_eq_getElem (by have := HVS.out.1; have := HNR.out; simp at *; omega)⟩
      have hru := HVS.out.2 (k + 1) u l hu (by simpa using hl)
      have hlz := HZ.out l (List.mem_cons_of_mem _ (List.mem_of_getElem? hl))
      have e1 : wo.cell? ⟨g, 1 + k, none⟩ = some u := by
        rw [hBr.cell (p := ⟨g, 1 + k, none⟩) (by show g < _; omega), Nat.add_comm]; exact HCELL.out (k + 1) u hu
      obtain ⟨b2, o2, c2, hue, hcc2, hb2, hcc⟩ := hru.at (by simpa using hlz.2)
      rw [List.length_map] at hue
      subst hue
      have hcw : ∀ j x, l[j]? = some x → wo.cell? ⟨b2, o2 + j, none⟩ = some (.string (bs x)) := fun j x hx => by
        rw [hBr.cell (p := ⟨b2, o2 + j, none⟩) (by show b2 < _; omega)]
        exact hcc j (sv x) (by rw [List.getElem?_map, hx]; rfl)
      have HCW := Lib.hid hcw
      have HL := Lib.hid hl
      have hll : l.length ≤ 3500000000001 := by omega
      have hlp : 0 < l.length := hlz.2
      obtain ⟨w0, hw0⟩ : ∃ x, l[0]? = some x := ⟨_, List.getElem?_eq_getElem hlp⟩
      have e2 : wo.cell? ⟨b2, o2, none⟩ = some (.string (bs w0)) := by have := hcw 0 w0 hw0; simpa using this
      have HW0 := Lib.hid hw0
      have hNN : ((k : Int) < (N : Int) - 1) := by omega
      have hl0 : (0 : Int) < (l.length : Int) := by omega
      have hl1 : 1 ≤ l.length := hlp
      have hzw := hBr.size
      have hb2w : b2 < wo.heap.size := by omega
      have hgw : g < wo.heap.size := by omega
      have hl2 : l ≠ [] := by intro e; rw [e] at hlp; simp at hlp
      clear hcc hcw hl hu hru hlz hw0
      obtain ⟨kd, hkd⟩ : ∃ x, x = Plan.kindOf w0 := ⟨_, rfl⟩
      have hIK : ∀ (b c : Nat) (w : World), (∀ (j : Nat) u, ([.string ⟨#[]⟩, .string ⟨#[117, 110, 108, 105, 110, 107]⟩, .string ⟨#[114, 109, 100, 105, 114]⟩, .string ⟨#[109, 107, 100, 105, 114]⟩, .string ⟨#[112, 117, 116]⟩] : List Value)[j]? = some u → w.cell? ⟨b, j, none⟩ = some u) →
          Calls Tryz.prog 61 #[.slice (some ⟨b, 0, none⟩) 5 c, .string (bs w0)] w fun e w' => e = .returned (.int .i64 kd) ∧ w' = w := fun b c w h => by
        rw [hkd]; exact IndexKind b c (bs w0) w h
      have HIK := Lib.hid hIK
      have HKD := Lib.hid hkd
      clear hIK hkd
      go_wp2_with fail
      rename_i K hK
      have HKK := Lib.hid hK
      clear hK
      have REST : ∀ (bd : Nat) (x43 : Value) (W : World), W.cell? ⟨bd, 0, none⟩ = some (.int .i64 kd) → W.cell? ⟨bd, 1, none⟩ = some (.string ⟨#[]⟩) → W.cell? ⟨bd, 2, none⟩ = some (.string ⟨#[]⟩) → (∀ j, W.frozen? ⟨bd, j, none⟩ = false) → wo.heap.size ≤ bd → bd < W.heap.size → Below wo.heap.size wo W → K { tmps := #[.string s, undef, u2, u3, .slice (some ⟨g, 0, none⟩) N cap, .int .i64 0, .int .i64 0, .slice al k cl, undef, .slice (some ⟨b2, o2, none⟩) l.length c2, .pointer (some ⟨bd, 0, none⟩), u11, u12, u13, .tuple #[.slice (some ⟨g, 0, none⟩) N cap, .int .i64 0, .int .i64 0], .string s, .string s, .int .i64 s.size, .tuple #[.slice (some ⟨g, 0, none⟩) N cap, .int .i64 0, .int .i64 0], .slice (some ⟨g, 0, none⟩) N cap, .int .i64 0, .int .i64 0, .int .i64 0, .bool false, undef, .slice (some ⟨g, 0, none⟩) N cap, .int .i64 N, .bool false, .bool false, .slice (some ⟨g, 0, none⟩) N cap, .pointer (some ⟨g, 0, none⟩), u0, .slice (some ⟨w1.heap.size, 0, none⟩) 1 1, .bool true, .bool false, .bool false, .slice (some ⟨g, 0, none⟩) N cap, .slice (some ⟨g, 1, none⟩) (N - 1) (cap - 1), .int .i64 ((N : Int) - 1), .int .i64 k, .bool true, .pointer (some ⟨g, 1 + k, none⟩), .slice (some ⟨b2, o2, none⟩) l.length c2, x43, .slice (some ⟨b2, o2, none⟩) l.length c2, .pointer (some ⟨b2, o2, none⟩), .string (bs w0), .int .i64 kd, .agg #[.int .i64 kd, .string ⟨#[]⟩, .string ⟨#[]⟩], u49, u50, u51, u52, u53, u54, u55, u56, u57, u58, u59, u60, u61, u62, u63, u64, u65, u66, u67, u68, u69, u70, u71, u72, u73, u74, u75, u76, u77, undef, undef, undef, undef], defers := [] } W := by
        intro bd x43 W d0 d1 d2 df hbd hbW hbwo
        have hB2 : Below w1.heap.size w1 W := hBr.trans (hbwo.mono hzw)
        have HOW := Lib.hid (HOWN.out.kept (Below.grow hbwo) (by cases al <;> simp [Value.ownBlock]))
        have hcwW : ∀ j x, l[j]? = some x → W.cell? ⟨b2, o2 + j, none⟩ = some (.string (bs x)) := fun j x hx => by
          rw [hbwo.cell (p := ⟨b2, o2 + j, none⟩) (by show b2 < _; omega)]; exact HCW.out j x hx
        have df1 := df 1
        have df2 := df 2
        have hbz2 := hB2.size
        refine HKK.out _ _ ?_
        have bad : Plan.parseLine l = none → Plan.parse s.data.toList = (44, []) := fun h => by
          rw [HPAR.out, Plan.parseAll_bad HL.out h]
        have HBAD := Lib.hid bad
        have HHB2 := Lib.hid (hb1.trans (hB2.mono hb1.size))
        clear bad df
        by_cases hk4 : kd = 4
        · have q4 : (kd == 4) = true := by rw [beq_iff_eq]; exact hk4
          have HK4 := Lib.hid hk4
          clear hk4
          by_cases hl3 : l.length = 3
          · obtain ⟨p, hp⟩ : ∃ p, l[1]? = some p := ⟨_, List.getElem?_eq_getElem (by omega)⟩
            obtain ⟨x, hx⟩ : ∃ x, l[2]? = some x := ⟨_, List.getElem?_eq_getElem (by omega)⟩
            have hlform : l = [w0, p, x] := by
              have h0 := HW0.out
              match l, hl3, h0, hp, hx with
              | [a, b, c], _, h0, hp, hx => simp at h0 hp hx; rw [h0, hp, hx]
            have g1 := hcwW 1 p hp
            have g2 := hcwW 2 x hx
            have hpl : Plan.parseLine l = (Plan.dataOf x).map fun y => ⟨4, p, y⟩ := by
              rw [hlform]; simp only [Plan.parseLine]; rw [if_pos (by rw [← HKD.out]; exact HK4.out)]
            have hpx : p.length ≤ 3500000000000 ∧ x.length ≤ 3500000000000 := ⟨HWL.out l ⟨k, HL.out⟩ p (by rw [hlform]; simp), HWL.out l ⟨k, HL.out⟩ x (by rw [hlform]; simp)⟩
            have hl3' : (((l.length : Nat) : Int) == 3) = true := by rw [beq_iff_eq]; omega
            have hlt1 : (1 : Int) < (l.length : Int) := by omega
            have hlt2 : (2 : Int) < (l.length : Int) := by omega
            have hdat : ∀ w, Calls Tryz.prog 62 #[.string (bs x)] w fun e w' => e = .returned (dataRes x) ∧ Below w.heap.size w w' := fun w => data_any (bs x) (by rw [bs_size]; omega) w
            have HDAT := Lib.hid hdat
            clear hcwW hlform hp hx hdat
            cases hdx : Plan.dataOf x with
            | none =>
              have HP := Lib.hid (HBAD.out (by rw [hpl, hdx]; rfl))
              have hdr : dataRes x = .tuple #[.string ByteArray.empty, .bool false] := by unfold dataRes; rw [hdx]
              clear hdx hpl
              go_wp2_with fail
              refine (HDAT.out _).mono ?_
              rintro e w5 ⟨rfl, hb5⟩
              rw [hdr]
              go_wp2_with fail
              go_returns
              have hbS : Below w.heap.size w (W.setCell ⟨bd, 1, none⟩ (.string (bs p))) := HHB2.out.setCell (p := ⟨bd, 1, none⟩) (by show w.heap.size ≤ bd; have := hb1.size; omega) _
              exact ParsePost.bad HP.out (hbS.trans (hb5.mono hbS.size))
            | some y =>
              have hdr : dataRes x = .tuple #[.string (bs y), .bool true] := by unfold dataRes; rw [hdx]
              have HNEXT : Hid (Plan.parseAll (r.take (k + 1)) = some (out ++ [⟨kd, p, y⟩])) := Lib.hid (Plan.parseAll_next HPK.out HL.out (by rw [hpl, hdx, HK4.out]; rfl))
              have HSZ2 : Hid (∀ d ∈ out ++ [(⟨kd, p, y⟩ : Plan.D)], d.path.length ≤ 3500000000000 ∧ d.data.length ≤ 3500000000000) := Lib.hid (fun d hd => by
                rcases List.mem_append.1 hd with hd | hd
                · exact HSZ.out d hd
                · simp at hd; subst hd; exact ⟨hpx.1, Nat.le_trans (Plan.dataOf_le hdx) hpx.2⟩)
              clear hdx hpl
              go_wp2_with fail
              refine (HDAT.out _).mono ?_
              rintro e w5 ⟨rfl, hb5⟩
              rw [hdr]
              obtain ⟨hc5, hf5⟩ := bcell hb5
              have hbW2 : bd < (W.setCell ⟨bd, 1, none⟩ (.string (bs p))).heap.size := by simpa using hbW
              have hz5 : W.heap.size ≤ w5.heap.size := by have := hb5.size; simpa using this
              have k0 : w5.cell? ⟨bd, 0, none⟩ = some (.int .i64 kd) := by rw [hc5 _ _ hbW2, World.cell?_setCell_other _ _ _ _ (by simp)]; exact d0
              have k1 : w5.cell? ⟨bd, 1, none⟩ = some (.string (bs p)) := by rw [hc5 _ _ hbW2]; exact World.cell?_setCell_same' _ _ _ (by rw [d1]; rfl)
              have k2 : w5.cell? ⟨bd, 2, none⟩ = some (.string ⟨#[]⟩) := by rw [hc5 _ _ hbW2, World.cell?_setCell_other _ _ _ _ (by simp)]; exact d2
              have kf2 : w5.frozen? ⟨bd, 2, none⟩ = false := by rw [hf5 _ _ hbW2, World.frozen?_setCell]; exact df2
              have HB3 : Hid (Below w1.heap.size w1 (w5.setCell ⟨bd, 2, none⟩ (.string (bs y)))) := Lib.hid (((hB2.setCell (p := ⟨bd, 1, none⟩) (by show w1.heap.size ≤ bd; omega) _).trans (hb5.mono (by simp; omega))).setCell (p := ⟨bd, 2, none⟩) (by show w1.heap.size ≤ bd; omega) _)
              have HOW3 := Lib.hid (((HOW.out.kept (setCell_grown W ⟨bd, 1, none⟩ (.string (bs p))) (own_not HOWN.out hbd)).kept (Below.grow hb5) (by cases al <;> simp [Value.ownBlock])).kept (setCell_grown w5 ⟨bd, 2, none⟩ (.string (bs y))) (own_not HOWN.out hbd))
              clear hc5 hf5
              go_wp2_with (at_builtin; refine wpList_append_own _ rfl _ _ 23 rfl w1.heap.size 39 i0 (.agg #[.int .i64 0, .string ByteArray.empty, .string ByteArray.empty]) 3 40 Tryz.underlying23 hi hz0 hz1 hz2 rfl (by decide) _ _ _ rfl (HOW3.out.alloc _) ⟨w5.heap.size, 0, none⟩ 1 1 [.int .i64 kd, .string (bs p), .string (bs y)] rfl rfl (new_cells2 _ _ (by simp) _ _) (fun x hx => by simp at hx; rcases hx with rfl | rfl | rfl <;> rfl) (by unfold maxLen; omega) (by omega) (by simp; omega) ?_; intro v4 w4 hown4 hgrow4 hnil4)
              obtain ⟨a4, c4, rfl⟩ := own_form hown4
              have hb4 : Below w1.heap.size w1 w4 := Below.grown (HB3.out.alloc (by simp; omega) _) hgrow4 (by simp; omega) (fun g hg => (HOW3.out.lt g hg).1)
              go_roundw
              case rel => exact ⟨_, k + 1, out ++ [⟨kd, p, y⟩], rfl, by go_num, by omega, HNEXT.out, by simp [HOL.out], HSZ2.out, by
                have h5 := hown4
                rw [show deedCells (out ++ [⟨kd, p, y⟩]) = deedCells out ++ [.int .i64 kd, .string (bs p), .string (bs y)] by simp [deedCells, dcells]]
                exact h5, hb4⟩
              case measure => simp [intOf]; omega
          · have HP := Lib.hid (HBAD.out (by
              cases hpp : Plan.parseLine l with
              | none => rfl
              | some d =>
                exfalso
                have h0 := HW0.out
                match l, hl3, h0, hpp with
                | [], _, _, hpp => simp [Plan.parseLine] at hpp
                | [a], _, _, hpp => simp [Plan.parseLine] at hpp
                | [a, b], _, h0, hpp =>
                  simp at h0; subst h0
                  simp only [Plan.parseLine] at hpp
                  rw [if_pos (by rw [← HKD.out]; exact HK4.out)] at hpp
                  exact absurd hpp (by simp)
                | [a, b, c], hl3, _, _ => exact hl3 rfl
                | a :: b :: c :: d :: r, _, _, hpp => simp [Plan.parseLine] at hpp))
            have hl3' : (((l.length : Nat) : Int) == 3) = false := by rw [beq_eq_false_iff_ne]; omega
            clear hcwW
            go_wp2_with fail
            go_returns
            exact ParsePost.bad HP.out HHB2.out
        · have q4 : (kd == 4) = false := by rw [beq_eq_false_iff_ne]; exact hk4
          have HK4 := Lib.hid hk4
          clear hk4
          by_cases hl2 : l.length = 2
          · obtain ⟨p, hp⟩ : ∃ p, l[1]? = some p := ⟨_, List.getElem?_eq_getElem (by omega)⟩
            obtain ⟨y, hy⟩ : ∃ y : List UInt8, y = [] := ⟨_, rfl⟩
            have hlform : l = [w0, p] := by
              have h0 := HW0.out
              match l, hl2, h0, hp with
              | [a, b], _, h0, hp => simp at h0 hp; rw [h0, hp]
            have g1 := hcwW 1 p hp
            have hpl : Plan.parseLine l = some ⟨kd, p, y⟩ := by
              rw [hlform, hy]; simp only [Plan.parseLine]; rw [← HKD.out, if_neg HK4.out]
            have hpx : p.length ≤ 3500000000000 := HWL.out l ⟨k, HL.out⟩ p (by rw [hlform]; simp)
            have HNEXT : Hid (Plan.parseAll (r.take (k + 1)) = some (out ++ [⟨kd, p, y⟩])) := Lib.hid (Plan.parseAll_next HPK.out HL.out hpl)
            have HSZ2 : Hid (∀ d ∈ out ++ [(⟨kd, p, y⟩ : Plan.D)], d.path.length ≤ 3500000000000 ∧ d.data.length ≤ 3500000000000) := Lib.hid (fun d hd => by
              rcases List.mem_append.1 hd with hd | hd
              · exact HSZ.out d hd
              · simp at hd; subst hd; exact ⟨hpx, by rw [hy]; simp⟩)
            have hye : (⟨#[]⟩ : ByteArray) = bs y := by rw [hy]; rfl
            rw [hye] at d1 d2
            have hl3' : (((l.length : Nat) : Int) == 2) = true := by rw [beq_iff_eq]; omega
            have hlt1 : (1 : Int) < (l.length : Int) := by omega
            have HB3 : Hid (Below w1.heap.size w1 (W.setCell ⟨bd, 1, none⟩ (.string (bs p)))) := Lib.hid (hB2.setCell (p := ⟨bd, 1, none⟩) (by show w1.heap.size ≤ bd; omega) _)
            have HOW3 := Lib.hid (HOW.out.kept (setCell_grown W ⟨bd, 1, none⟩ (.string (bs p))) (own_not HOWN.out hbd))
            clear hcwW hlform hp hy hpl hye
            go_wp2_with (at_builtin; refine wpList_append_own _ rfl _ _ 23 rfl w1.heap.size 39 i0 (.agg #[.int .i64 0, .string ByteArray.empty, .string ByteArray.empty]) 3 40 Tryz.underlying23 hi hz0 hz1 hz2 rfl (by decide) _ _ _ rfl (HOW3.out.alloc _) ⟨W.heap.size, 0, none⟩ 1 1 [.int .i64 kd, .string (bs p), .string (bs y)] rfl rfl (new_cells2 _ _ (by simp) _ _) (fun x hx => by simp at hx; rcases hx with rfl | rfl | rfl <;> rfl) (by unfold maxLen; omega) (by omega) (by simp; omega) ?_; intro v4 w4 hown4 hgrow4 hnil4)
            obtain ⟨a4, c4, rfl⟩ := own_form hown4
            have hb4 : Below w1.heap.size w1 w4 := Below.grown (HB3.out.alloc (by simp; omega) _) hgrow4 (by simp; omega) (fun g hg => (HOW3.out.lt g hg).1)
            go_roundw
            case rel => exact ⟨_, k + 1, out ++ [⟨kd, p, y⟩], rfl, by go_num, by omega, HNEXT.out, by simp [HOL.out], HSZ2.out, by
              have h5 := hown4
              rw [show deedCells (out ++ [⟨kd, p, y⟩]) = deedCells out ++ [.int .i64 kd, .string (bs p), .string (bs y)] by simp [deedCells, dcells]]
              exact h5, hb4⟩
            case measure => simp [intOf]; omega
          · have HP := Lib.hid (HBAD.out (by
              cases hpp : Plan.parseLine l with
              | none => rfl
              | some d =>
                exfalso
                have h0 := HW0.out
                match l, hl2, h0, hpp with
                | [], _, _, hpp => simp [Plan.parseLine] at hpp
                | [a], _, _, hpp => simp [Plan.parseLine] at hpp
                | [a, b], hl2, _, _ => exact hl2 rfl
                | [a, b, c], _, h0, hpp =>
                  simp at h0; subst h0
                  simp only [Plan.parseLine] at hpp
                  rw [if_neg (by rw [← HKD.out]; exact HK4.out)] at hpp
                  exact absurd hpp (by simp)
                | a :: b :: c :: d :: r, _, _, hpp => simp [Plan.parseLine] at hpp))
            have hl3' : (((l.length : Nat) : Int) == 2) = false := by rw [beq_eq_false_iff_ne]; omega
            clear hcwW
            go_wp2_with fail
            go_returns
            exact ParsePost.bad HP.out HHB2.out
      go_region_with (first | (go_at_call 50; refine (words_all _).mono ?_; rintro e w3 ⟨rfl, rfl⟩) | (go_at_call 61; refine (HIK.out _ 5 _ (by intro j u hu; first | exact words_cell hu | exact words_cell (W := wo) hu | (have hw := words_cell (W := wo) (t := 9) hu; simpa using hw) | (have hw := words_cell (W := wo.alloc (.cells #[.int .i64 0, .string ByteArray.empty, .string ByteArray.empty] 39)) (t := 9) hu; simpa using hw))).mono ?_; rintro e w4 ⟨rfl, rfl⟩))
      all_goals
        refine REST _ _ _ ?_ ?_ ?_ ?_ ?_ ?_ ?_
        · simp
        · simp
        · simp
        · intro j; simp
        · simp
        · simp <;> omega
        · go_grown
    · have hkN2 : k = N - 1 := by omega
      have hfull : r.take k = r := List.take_of_length_le (by have := HNR.out; omega)
      have hpar2 := HPK.out
      rw [hfull] at hpar2
      have hlo : out.length = k := HOL.out
      have HDS : Hid (Deeds wo wo.heap.size (.slice al k cl) out) := Lib.hid (by
        have := HOWN.out
        rw [← hlo] at this ⊢
        exact Deeds.of_own this)
      have HLT : Hid (∀ g, (Value.slice al k cl).ownBlock = some g → w1.heap.size ≤ g) := Lib.hid (fun g hg => (World.ownsRow.lt HOWN.out g hg).1)
      have HCK := Lib.hid (check_any (v := .slice al k cl) HDS.out (Nat.le_refl _) (by rw [hlo]; omega) (fun d hd => by have := HSZ.out d hd; omega))
      have hex : ¬ ((k : Int) < (N : Int) - 1) := by omega
      cases hok : Plan.ok out
      · have HP : Hid (Plan.parse s.data.toList = (44, [])) := Lib.hid (by rw [HPAR.out, hpar2]; simp [hok])
        have hcode := Plan.code_no hok
        clear hok hpar2 hfull hlo hkN2
        go_wp2_with fail
        refine HCK.out.mono ?_
        rintro e w3 ⟨rfl, hb3⟩
        rw [hcode]
        go_wp2_with fail
        go_returns
        exact ParsePost.bad HP.out (hb1.trans ((hBr.trans (hb3.mono hBr.size)).mono hb1.size))
      · have HP : Hid (Plan.parse s.data.toList = (0, out)) := Lib.hid (by rw [HPAR.out, hpar2]; simp [hok])
        have hcode := Plan.code_yes hok
        clear hok hpar2 hfull hlo hkN2
        go_wp2_with fail
        refine HCK.out.mono ?_
        rintro e w3 ⟨rfl, hb3⟩
        rw [hcode]
        have HDS3 := Lib.hid ((HDS.out.below hb3 (Nat.le_refl _)).mono hb3.size)
        go_wp2_with fail
        go_returns
        exact ParsePost.good HP.out HDS3.out (hb1.trans ((hBr.trans (hb3.mono hBr.size)).mono hb1.size)) (fun g hg => Nat.le_trans hb1.size (HLT.out g hg))
end Go.Proofs.YtdogacgpfnolfaaGreatDoor.PL

namespace Go.Proofs.YtdogacgpfnolfaaGreatDoor.PL
set_option linter.unusedSimpArgs false
set_option linter.unusedVariables false
namespace Plan
/-- What stands noted behind deeds. -/
def run (least : Int) (s : List UInt8 → Int) : List D → Int × (List UInt8 → Int)
  | [] => (least, s)
  | d :: r => run d.kind (upd s d.path (note (s d.path) d.kind)) r
theorem chk_append : ∀ (a b : List D) (least : Int) (s : List UInt8 → Int), chk least s (a ++ b) = (chk least s a && chk (run least s a).1 (run least s a).2 b)
  | [], b, least, s => by simp [chk, run]
  | d :: r, b, least, s => by
    have ih := chk_append r b d.kind (upd s d.path (note (s d.path) d.kind))
    simp only [List.cons_append, chk, run, ih, Bool.and_assoc]
theorem run_append : ∀ (a b : List D) (least : Int) (s : List UInt8 → Int), run least s (a ++ b) = run (run least s a).1 (run least s a).2 b
  | [], b, least, s => rfl
  | d :: r, b, least, s => run_append r b _ _
/-- The deeds ahead that have a path. -/
def met (pre : List D) (q : List UInt8) : List D := pre.filter fun x => decide (x.path = q)
/-- What is noted at a path, by looking back. -/
def st (pre : List D) (q : List UInt8) : Int := match met pre q with
  | [] => 0
  | [x] => x.kind
  | _ => -1
def lastKind (pre : List D) : Int := match pre.getLast? with
  | none => 1
  | some x => x.kind
theorem met_snoc (pre : List D) (d : D) (q : List UInt8) : met (pre ++ [d]) q = if d.path = q then met pre q ++ [d] else met pre q := by
  unfold met
  rw [List.filter_append]
  by_cases h : d.path = q
  · simp [h]
  · simp [h]
theorem run_state (pre : List D) (hk : ∀ d ∈ pre, 1 ≤ d.kind) : (run 1 (fun _ => 0) pre).1 = lastKind pre ∧ ∀ q, (run 1 (fun _ => 0) pre).2 q = st pre q := by
  obtain ⟨n, hn⟩ : ∃ n, pre.length = n := ⟨_, rfl⟩
  induction n generalizing pre with
  | zero =>
    obtain rfl := List.length_eq_zero_iff.1 hn
    exact ⟨rfl, fun q => rfl⟩
  | succ n ih =>
    rcases List.eq_nil_or_concat pre with rfl | ⟨pre, d, rfl⟩
    · simp at hn
    rw [List.concat_eq_append] at hk hn ⊢
    obtain ⟨h1, h2⟩ := ih pre (fun x hx => hk x (List.mem_append_left _ hx)) (by simpa using hn)
    rw [run_append]
    refine ⟨by simp [run, lastKind], fun q => ?_⟩
    show upd _ d.path (note _ d.kind) q = _
    have hd := hk d (List.mem_append_right _ (List.mem_singleton.2 rfl))
    unfold upd st
    rw [met_snoc, h2 d.path]
    by_cases hq : q = d.path
    · subst hq
      rw [if_pos rfl, if_pos rfl]
      unfold st note
      cases hm : met pre d.path with
      | nil => simp
      | cons x r =>
        have hx : 1 ≤ x.kind := hk x (List.mem_append_left _ ((List.mem_filter.1 (show x ∈ List.filter _ _ by unfold met at hm; rw [hm]; exact List.mem_cons_self)).1))
        cases r with
        | nil => simp; omega
        | cons y r => simp
    · rw [if_neg hq, if_neg (fun e => hq e.symm), h2 q]
      rfl
def pairB (a b : Int) : Bool := (a == 1 && b == 3) || (a == 2 && b == 4)
/-- May a deed be behind others, by looking back? -/
def stepOk (pre : List D) (d : D) : Bool := okD (lastKind pre) d && (decide ((met pre d.path).length ≤ 1) && (met pre d.path).all fun x => pairB x.kind d.kind)
theorem fits_met {pre : List D} {d : D} (hk : ∀ x ∈ pre, 1 ≤ x.kind) : fits (st pre d.path) d.kind = (decide ((met pre d.path).length ≤ 1) && (met pre d.path).all fun x => pairB x.kind d.kind) := by
  unfold st
  cases hm : met pre d.path with
  | nil => rfl
  | cons x r =>
    have hx : 1 ≤ x.kind := hk x ((List.mem_filter.1 (show x ∈ List.filter _ _ by unfold met at hm; rw [hm]; exact List.mem_cons_self)).1)
    cases r with
    | nil =>
      simp only [fits, pairB, List.length_cons, List.length_nil, List.all_cons, List.all_nil, Bool.and_true]
      rw [decide_eq_false (show ¬ x.kind = 0 by omega)]
      by_cases h1 : x.kind = 1 <;> by_cases h2 : x.kind = 2 <;> by_cases h3 : d.kind = 3 <;> by_cases h4 : d.kind = 4 <;> simp [h1, h2, h3, h4]
    | cons y r => simp [fits]
/-- One deed further. -/
theorem ok_step {pre : List D} {d : D} (h : ok pre = true) : ok (pre ++ [d]) = stepOk pre d := by
  have hk : ∀ x ∈ pre, 1 ≤ x.kind := fun x hx => (ok_all h x hx).1
  obtain ⟨h1, h2⟩ := run_state pre hk
  unfold ok at h ⊢
  rw [chk_append, h, Bool.true_and]
  simp only [chk, Bool.and_true]
  rw [h1, h2, fits_met hk]
  rfl
theorem ok_ahead {a b : List D} (h : ok (a ++ b) = true) : ok a = true := by
  unfold ok at h ⊢
  rw [chk_append] at h
  simp only [Bool.and_eq_true] at h
  exact h.1
end Plan
end Go.Proofs.YtdogacgpfnolfaaGreatDoor.PL

namespace Go.Proofs.YtdogacgpfnolfaaGreatDoor.PL
set_option linter.unusedSimpArgs false
set_option linter.unusedVariables false
namespace Plan
/-- A deed's words. -/
def wordsOf (d : D) : List (List UInt8) := if d.kind = 4 then [word d.kind, d.path, hexOf d.data] else [word d.kind, d.path]
theorem unline_words (d : D) : Scan.unline (wordsOf d) = line d := by
  unfold wordsOf line Scan.unline
  split <;> simp [Cut.glue]
theorem text_lines (ds : List D) : text ds = Scan.unlines ([planW] :: ds.map wordsOf) := by
  have : Scan.unlines (ds.map wordsOf) = lines ds := by
    induction ds with
    | nil => rfl
    | cons d r ih =>
      show Scan.unline (wordsOf d) ++ Scan.unlines (r.map wordsOf) = line d ++ lines r
      rw [unline_words, ih]
  show _ = Scan.unline [planW] ++ Scan.unlines (ds.map wordsOf)
  rw [this]
  rfl
theorem letter_P {c : UInt8} (h : letterP c = true ∨ c = 47) : Scan.letter c = true := by
  have h1 := u8_all (p := fun c => !(letterP c || c == 47) || Scan.letter c) (by decide +kernel) c
  rcases h with h | h
  · simp [h] at h1; exact h1
  · subst h; decide
theorem glue_letters {f : UInt8 → Bool} (h47 : f 47 = true) : ∀ (ps : List (List UInt8)), (∀ p ∈ ps, p.all f = true) → (Cut.glue 47 ps).all f = true
  | [], _ => rfl
  | [p], h => h p List.mem_cons_self
  | p :: q :: r, h => by
    show (p ++ 47 :: Cut.glue 47 (q :: r)).all f = true
    rw [List.all_append, List.all_cons, h p List.mem_cons_self, h47, glue_letters h47 (q :: r) fun x hx => h x (List.mem_cons_of_mem _ hx)]
    rfl
/-- A path is a word. -/
theorem path_word {p : List UInt8} (h : pathOk p = true) : Scan.isW p = true := by
  cases p with
  | nil => exact absurd h (by simp [pathOk])
  | cons c r =>
    simp only [pathOk, Bool.and_eq_true, decide_eq_true_eq, List.all_eq_true] at h
    obtain ⟨rfl, _, h2⟩ := h
    have hr : r.all Scan.letter = true := by
      rw [← Cut.glue_cuts 47 r]
      refine glue_letters (by decide) _ fun q hq => ?_
      have := h2 q hq
      simp only [partOk, Bool.and_eq_true, List.all_eq_true] at this
      exact List.all_eq_true.2 fun x hx => letter_P (Or.inl (this.2.2.2.2 x hx))
    unfold Scan.isW
    rw [List.all_cons, hr]
    rfl
theorem dig_letter (n : Nat) (h : n < 16) : Scan.letter (dig n) = true := by
  have : ∀ n : Fin 16, Scan.letter (dig n.val) = true := by decide
  exact this ⟨n, h⟩
theorem hexs_letters (l : List UInt8) : (hexs l).all Scan.letter = true := by
  induction l with
  | nil => rfl
  | cons c l ih =>
    have h := c.toNat_lt
    show (dig (c.toNat / 16) :: dig (c.toNat % 16) :: hexs l).all Scan.letter = true
    rw [List.all_cons, List.all_cons, dig_letter _ (by omega), dig_letter _ (by omega), ih]
    rfl
theorem hexOf_word (l : List UInt8) : Scan.isW (hexOf l) = true := by
  unfold hexOf
  split
  · decide
  · unfold Scan.isW
    rw [hexs_letters]
    cases l with
    | nil => contradiction
    | cons c l => rfl
theorem kind_word {k : Int} (h1 : 1 ≤ k) (h4 : k ≤ 4) : kindOf (word k) = k ∧ Scan.isW (word k) = true := by
  have hk14 : k = 1 ∨ k = 2 ∨ k = 3 ∨ k = 4 := by omega
  rcases hk14 with rfl | rfl | rfl | rfl <;> decide
theorem words_good {ds : List D} (h : ∀ d ∈ ds, 1 ≤ d.kind ∧ d.kind ≤ 4 ∧ (d.kind = 4 ∨ d.data = []) ∧ pathOk d.path = true ∧ free d.path = true) : Scan.GoodL (ds.map wordsOf) := by
  intro ws hws
  obtain ⟨d, hd, rfl⟩ := List.mem_map.1 hws
  obtain ⟨h1, h2, _, h3, _⟩ := h d hd
  have hw := (kind_word h1 h2).2
  have hp := path_word h3
  have hx := hexOf_word d.data
  unfold wordsOf
  split
  · exact ⟨by simp, fun p hp' => by
      simp at hp'
      rcases hp' with rfl | rfl | rfl
      · exact hw
      · exact hp
      · exact hx⟩
  · exact ⟨by simp, fun p hp' => by
      simp at hp'
      rcases hp' with rfl | rfl
      · exact hw
      · exact hp⟩
theorem lines_good {ds : List D} (h : ∀ d ∈ ds, 1 ≤ d.kind ∧ d.kind ≤ 4 ∧ (d.kind = 4 ∨ d.data = []) ∧ pathOk d.path = true ∧ free d.path = true) : Scan.GoodL ([planW] :: ds.map wordsOf) := by
  intro ws hws
  rcases List.mem_cons.1 hws with rfl | hws
  · exact ⟨by simp, fun p hp => by simp at hp; subst hp; decide⟩
  · exact words_good h ws hws
theorem parse_words {d : D} (h1 : 1 ≤ d.kind) (h2 : d.kind ≤ 4) (h3 : d.kind = 4 ∨ d.data = []) : parseLine (wordsOf d) = some d := by
  obtain ⟨k, p, x⟩ := d
  have hw := (kind_word h1 h2).1
  unfold wordsOf
  by_cases hk : k = 4
  · subst hk
    simp only [if_true]
    show (if kindOf (word 4) = 4 then (dataOf (hexOf x)).map (fun y => (⟨4, p, y⟩ : D)) else none) = _
    rw [show kindOf (word 4) = 4 from hw, if_pos rfl, data_hex]
    rfl
  · rw [if_neg hk]
    have hx : x = [] := h3.resolve_left hk
    subst hx
    show (if kindOf (word k) = 4 then none else some (⟨kindOf (word k), p, []⟩ : D)) = _
    rw [show kindOf (word k) = k from hw, if_neg hk]
theorem parseAll_words : ∀ {ds : List D}, (∀ d ∈ ds, 1 ≤ d.kind ∧ d.kind ≤ 4 ∧ (d.kind = 4 ∨ d.data = []) ∧ pathOk d.path = true ∧ free d.path = true) → parseAll (ds.map wordsOf) = some ds
  | [], _ => rfl
  | d :: r, h => by
    obtain ⟨h1, h2, h3, _⟩ := h d List.mem_cons_self
    have ih := parseAll_words fun x hx => h x (List.mem_cons_of_mem _ hx)
    simp only [List.map_cons, parseAll, parse_words h1 h2 h3, ih]
/-- What is written is read. -/
theorem parse_text {ds : List D} (h : ok ds = true) : parse (text ds) = (0, ds) := by
  have hall := ok_all h
  unfold parse
  rw [text_lines, show Scan.spec (Scan.unlines ([planW] :: ds.map wordsOf)) = .inr ([planW] :: ds.map wordsOf) by
    have := Scan.spec_append (lines_good hall) []
    rw [List.append_nil] at this
    rw [this]
    show Sum.inr _ = _
    rw [List.append_nil]]
  simp only [if_true, parseAll_words hall, h]
theorem val_inj {c : UInt8} {x : Nat} (h : val c = some x) : c = dig x := by
  have h1 := u8_all (p := fun c => match val c with | some x => c == dig x | none => true) (by decide +kernel) c
  simp only [h] at h1
  exact beq_iff_eq.1 h1
theorem hexs_unhex : ∀ (l y : List UInt8), unhex l = some y → hexs y = l
  | [], y, h => by simp [unhex] at h; subst h; rfl
  | [_], y, h => by simp [unhex] at h
  | a :: b :: r, y, h => by
    simp only [unhex] at h
    cases hv : val a with
    | none => rw [hv] at h; exact absurd h (by simp)
    | some u =>
      cases hw : val b with
      | none => rw [hv, hw] at h; exact absurd h (by simp)
      | some v =>
        rw [hv, hw] at h
        cases hr : unhex r with
        | none => rw [hr] at h; exact absurd h (by simp)
        | some z =>
          rw [hr] at h
          simp only [Option.map_some, Option.some.injEq] at h
          subst h
          have ih := hexs_unhex r z hr
          have hu := val_lt hv
          have hv' := val_lt hw
          have e : (UInt8.ofNat (16 * u + v)).toNat = 16 * u + v := Num.ofNat_toNat (by omega)
          show dig ((UInt8.ofNat (16 * u + v)).toNat / 16) :: dig ((UInt8.ofNat (16 * u + v)).toNat % 16) :: hexs z = _
          rw [e, ih, show (16 * u + v) / 16 = u by omega, show (16 * u + v) % 16 = v by omega, ← val_inj hv, ← val_inj hw]
theorem hex_data {l y : List UInt8} (hl : l ≠ []) (h : dataOf l = some y) : hexOf y = l := by
  unfold dataOf at h
  split at h
  · simp at h; subst h; rename_i e; rw [e]; rfl
  · have e := hexs_unhex _ _ h
    unfold hexOf
    split
    · rename_i hy; subst hy; exact absurd e.symm hl
    · exact e
theorem word_kind {w : List UInt8} {k : Int} (hk : kindOf w = k) (h1 : 1 ≤ k) : word k = w := by
  unfold kindOf at hk
  split at hk
  · omega
  split at hk
  · subst hk; rename_i e; rw [e]; rfl
  split at hk
  · subst hk; rename_i e; rw [e]; rfl
  split at hk
  · subst hk; rename_i e; rw [e]; rfl
  split at hk
  · subst hk; rename_i e; rw [e]; rfl
  · omega
theorem words_parse {l : List (List UInt8)} {d : D} (h : parseLine l = some d) (hg : ∀ p ∈ l, Scan.isW p = true) (h1 : 1 ≤ d.kind) : wordsOf d = l := by
  match l, h, hg with
  | [], h, _ => simp [parseLine] at h
  | [_], h, _ => simp [parseLine] at h
  | [w, p], h, _ =>
    simp only [parseLine] at h
    split at h
    · exact absurd h (by simp)
    · rename_i hk
      simp only [Option.some.injEq] at h
      subst h
      unfold wordsOf
      rw [if_neg hk]
      show [word (kindOf w), p] = _
      rw [word_kind rfl h1]
  | [w, p, x], h, hg =>
    simp only [parseLine] at h
    split at h
    · rename_i hk
      cases hx : dataOf x with
      | none => rw [hx] at h; exact absurd h (by simp)
      | some y =>
        rw [hx] at h
        simp at h
        subst h
        unfold wordsOf
        show [word 4, p, hexOf y] = _
        rw [hex_data (Scan.isW_ne (hg x (by simp))) hx, word_kind hk (by omega)]
    · exact absurd h (by simp)
  | a :: b :: c :: d :: r, h, _ => simp [parseLine] at h
theorem words_all_parse : ∀ {r : List (List (List UInt8))} {ds : List D}, parseAll r = some ds → Scan.GoodL r → (∀ d ∈ ds, 1 ≤ d.kind) → ds.map wordsOf = r
  | [], ds, h, _, _ => by simp [parseAll] at h; subst h; rfl
  | l :: r, ds, h, hg, hd => by
    simp only [parseAll] at h
    cases hl : parseLine l with
    | none => rw [hl] at h; exact absurd h (by simp)
    | some d =>
      cases hr : parseAll r with
      | none => rw [hl, hr] at h; exact absurd h (by simp)
      | some x =>
        rw [hl, hr] at h
        simp at h
        subst h
        rw [List.map_cons, words_parse hl (hg l List.mem_cons_self).2 (hd d List.mem_cons_self), words_all_parse hr (fun y hy => hg y (List.mem_cons_of_mem _ hy)) fun y hy => hd y (List.mem_cons_of_mem _ hy)]
/-- What is read is written. -/
theorem text_parse {T : List UInt8} {ds : List D} (h : parse T = (0, ds)) : text ds = T ∧ ok ds = true := by
  unfold parse at h
  cases hs : Scan.spec T with
  | inl n => rw [hs] at h; simp at h
  | inr ls =>
    rw [hs] at h
    cases ls with
    | nil => simp at h
    | cons x r =>
      simp only at h
      split at h
      · rename_i hx
        subst hx
        cases hp : parseAll r with
        | none => rw [hp] at h; simp at h
        | some y =>
          rw [hp] at h
          simp only at h
          split at h
          · rename_i hok
            simp at h
            subst h
            obtain ⟨h1, h2⟩ := Scan.spec_form hs
            refine ⟨?_, hok⟩
            rw [text_lines, words_all_parse hp (fun z hz => h2 z (List.mem_cons_of_mem _ hz)) fun d hd => (ok_all hok d hd).1]
            exact h1.symm
          · simp at h
      · simp at h
end Plan
end Go.Proofs.YtdogacgpfnolfaaGreatDoor.PL

namespace Go.Proofs.YtdogacgpfnolfaaGreatDoor.PL
open Go.RowKit
set_option linter.unusedSimpArgs false
set_option linter.unusedVariables false
theorem deedStruct : Tryz.prog.underlying 39 = some (.struct (Tryz.prog.fieldsOf 39)) := by kernel_rfl
theorem deedFields : (Tryz.prog.fieldsOf 39).toList.map (fun f => (f.name, f.type, f.offset)) = [("Kind", 3, 0), ("Path", 9, 1), ("Data", 9, 2)] := by kernel_rfl
/-- Are two deeds the same? -/
def sameD (x y : Plan.D) : Bool := decide (x = y)
@[go_sem high] theorem deedGuard (w : World) (x y : Operand) (xs ys : Array Value) : (eqGuard .neq 39 x y (.agg xs) (.agg ys)).run Tryz.prog w = .ok () w :=
  run_eqGuard_agg w .neq 39 x y xs ys (by kernel_rfl)
theorem deedEqual (w : World) (x y : Plan.D) : (Op.equalIn 10000 39 (.agg #[.int .i64 x.kind, .string (bs x.path), .string (bs x.data)]) (.agg #[.int .i64 y.kind, .string (bs y.path), .string (bs y.data)])).run Tryz.prog w = .ok (sameD x y) w := by
  have hs := deedFields
  have e : ∀ w (a b : Int), (Op.equalIn 9999 3 (.int .i64 a) (.int .i64 b)).run Tryz.prog w = .ok (a == b) w := fun w a b => run_equalIn_int w 9998 3 _ _ a b Tryz.underlying3
  have f : ∀ w (a b : List UInt8), (Op.equalIn 9999 9 (.string (bs a)) (.string (bs b))).run Tryz.prog w = .ok (decide (a = b)) w := fun w a b => by
    have := run_equalIn_string (P := Tryz.prog) w 9998 9 (bs a) (bs b) Tryz.underlying9
    rw [sv_inj] at this
    exact this
  rw [run_equalIn_agg w 9999 39 _ _ deedStruct (by kernel_rfl)]
  generalize (Tryz.prog.fieldsOf 39).toList = fs at hs
  obtain ⟨xk, xp, xd⟩ := x
  obtain ⟨yk, yp, yd⟩ := y
  rcases fs with _ | ⟨f1, _ | ⟨g, _ | ⟨h, _ | ⟨k, l⟩⟩⟩⟩
  case cons.cons.cons.nil =>
    simp only [List.map_cons, List.map_nil, List.cons.injEq, Prod.mk.injEq, and_true] at hs
    obtain ⟨⟨n1, t1, o1⟩, ⟨n2, t2, o2⟩, ⟨n3, t3, o3⟩⟩ := hs
    by_cases ha : xk = yk <;> by_cases hb : xp = yp <;> by_cases hc : xd = yd <;>
      simp [Op.eqFields, n1, t1, o1, n2, t2, o2, n3, t3, o3, go_sem, sameD, ha, hb, hc, e, f]
  all_goals simp at hs
/-- 'v != u' of two deeds. -/
@[go_sem high] theorem deedNeq (w : World) (x y : Plan.D) : (binOp .neq 39 (.agg #[.int .i64 x.kind, .string (bs x.path), .string (bs x.data)]) (.agg #[.int .i64 y.kind, .string (bs y.path), .string (bs y.data)])).run Tryz.prog w = .ok (.bool (!sameD x y)) w := by
  rw [run_neq_struct, deedEqual]
  rfl
end Go.Proofs.YtdogacgpfnolfaaGreatDoor.PL

namespace Go.Proofs.YtdogacgpfnolfaaGreatDoor.PL
open Go.RowKit
set_option linter.unusedSimpArgs false
set_option linter.unusedVariables false
theorem Deeds.drewN {w : World} {B : Nat} {v : Value} {ds : List Plan.D} (h : Deeds w B v ds) (q : Nat) : Deeds (w.drewN q) B v ds := ⟨h.is⟩
end Go.Proofs.YtdogacgpfnolfaaGreatDoor.PL

namespace Go.Proofs.YtdogacgpfnolfaaGreatDoor.PL
open Go.RowKit
set_option linter.unusedSimpArgs false
set_option linter.unusedVariables false
namespace Plan
theorem line_sizes (d : D) (h : d.kind = 4 ∨ d.data = []) : 1 ≤ (line d).length ∧ d.path.length ≤ (line d).length ∧ d.data.length ≤ (line d).length := by
  unfold line
  simp only [List.length_append, List.length_cons, List.length_nil]
  refine ⟨by omega, by omega, ?_⟩
  rcases h with h | h
  · rw [if_pos h]
    unfold hexOf
    split
    · rename_i e; rw [e]; simp
    · simp only [List.length_append, hexs_length, List.length_cons, List.length_nil]; omega
  · rw [h]; simp
theorem lines_sizes : ∀ {ds : List D}, (∀ d ∈ ds, d.kind = 4 ∨ d.data = []) → ds.length ≤ (lines ds).length ∧ ∀ d ∈ ds, d.path.length ≤ (lines ds).length ∧ d.data.length ≤ (lines ds).length
  | [], _ => ⟨by simp, fun d hd => by simp at hd⟩
  | x :: r, h => by
    have ih := lines_sizes (ds := r) fun d hd => h d (List.mem_cons_of_mem _ hd)
    have hx := line_sizes x (h x List.mem_cons_self)
    have e : (lines (x :: r)).length = (line x).length + (lines r).length := by
      show (line x ++ lines r).length = _
      rw [List.length_append]
    refine ⟨by rw [e, List.length_cons]; omega, fun d hd => ?_⟩
    rw [e]
    rcases List.mem_cons.1 hd with rfl | hd
    · omega
    · have := ih.2 d hd; omega
theorem text_sizes {ds : List D} (h : ok ds = true) : ds.length ≤ (text ds).length ∧ ∀ d ∈ ds, d.path.length ≤ (text ds).length ∧ d.data.length ≤ (text ds).length := by
  have h1 := lines_sizes fun d hd => (ok_all h d hd).2.2.1
  have e : (text ds).length = 5 + (lines ds).length := by
    show ([112, 108, 97, 110, 10] ++ lines ds).length = _
    rw [List.length_append]; rfl
  refine ⟨by omega, fun d hd => ?_⟩
  have := h1.2 d hd
  omega
end Plan
end Go.Proofs.YtdogacgpfnolfaaGreatDoor.PL
