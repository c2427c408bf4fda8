/- Do names rise? The program's walks. -/
import Derived.Test.YtjiifieafnjpgaaDoorLkP
import Derived.Test.YtjiifieafnjpgaaDoorLkM
import Derived.Test.YtjiifieafnjpgaaDoorScanM
import Derived.Handy
import Derived.WalkMore
import Derived.WalkLawsBesides
import Derived.WalkSpells
import Derived.Outline
import Derived.Lib.Hide
import Derived.BigQuiet
import Derived.Test.YtjiifieafnjpgaaDoorVL
namespace Go.Proofs.YtjiifieafnjpgaaDoor
open Go.RowKit
set_option linter.unusedSimpArgs false
set_option linter.unusedVariables false
namespace Lock
/-- The j-th text. -/
def nth (ns : List (List UInt8)) (j : Nat) : List UInt8 := ns.getD j []
/-- Is the j-th name one, and behind the one ahead of it? -/
def goodAt (ns : List (List UInt8)) (j : Nat) : Bool := Scan.nameOk (nth ns j) && (decide (j = 0) || bytesBefore (nth ns (j - 1)) (nth ns j))
theorem rise_iff : ∀ (ns : List (List UInt8)), rise ns = true ↔ ∀ j, 0 < j → j < ns.length → bytesBefore (nth ns (j - 1)) (nth ns j) = true
  | [] => ⟨fun _ j _ h => absurd h (by simp), fun _ => rfl⟩
  | [a] => ⟨fun _ j h0 h => absurd h (by simp; omega), fun _ => rfl⟩
  | a :: b :: r => by
    unfold rise
    rw [Bool.and_eq_true, rise_iff (b :: r)]
    constructor
    · rintro ⟨h1, h2⟩ j h0 hj
      rcases Nat.lt_or_ge 1 j with h | h
      · have := h2 (j - 1) (by omega) (by simp only [List.length_cons] at hj ⊢; omega)
        obtain ⟨k, rfl⟩ : ∃ k, j = k + 2 := ⟨j - 2, by omega⟩
        simpa [nth] using this
      · have : j = 1 := by omega
        subst this
        simpa [nth] using h1
    · intro h
      refine ⟨by simpa [nth] using h 1 (by omega) (by simp), fun j h0 hj => ?_⟩
      have := h (j + 1) (by omega) (by simp only [List.length_cons] at hj ⊢; omega)
      obtain ⟨k, rfl⟩ : ∃ k, j = k + 1 := ⟨j - 1, by omega⟩
      simpa [nth] using this
theorem getD_at {ns : List (List UInt8)} {j : Nat} (h : j < ns.length) : nth ns j = ns[j] := by simp [nth, List.getD, h]
theorem namesOk_yes {ns : List (List UInt8)} (h : ∀ j, j < ns.length → goodAt ns j = true) : namesOk ns = decide (ns.length ≤ 128) := by
  have h1 : ns.all Scan.nameOk = true := List.all_eq_true.2 fun x hx => by
    obtain ⟨j, hj, rfl⟩ := List.mem_iff_getElem.1 hx
    have := h j hj
    unfold goodAt at this
    rw [Bool.and_eq_true] at this
    rw [getD_at hj] at this
    exact this.1
  have h2 : rise ns = true := (rise_iff ns).2 fun j h0 hj => by
    have := h j hj
    unfold goodAt at this
    rw [Bool.and_eq_true, decide_eq_false (by omega), Bool.false_or] at this
    exact this.2
  unfold namesOk
  rw [h1, h2, Bool.true_and, Bool.true_and]
theorem namesOk_no {ns : List (List UInt8)} {j : Nat} (hj : j < ns.length) (h : goodAt ns j = false) : namesOk ns = false := by
  refine Bool.eq_false_iff.2 fun k => ?_
  unfold namesOk at k
  simp only [Bool.and_eq_true] at k
  have h1 := List.all_eq_true.1 k.1 _ (List.getElem_mem hj)
  have h2 := (rise_iff ns).1 k.2.1
  unfold goodAt at h
  rw [getD_at hj, h1, Bool.true_and, Bool.or_eq_false_iff] at h
  have h0 : 0 < j := by have := of_decide_eq_false h.1; omega
  have := h2 j h0 hj
  rw [getD_at hj] at this
  rw [this] at h
  exact absurd h.2 (by simp)
end Lock
open Lock
theorem bless : ∀ (a b : List UInt8), Op.bytesLess a b = bytesBefore a b
  | [], [] => rfl
  | [], _ :: _ => rfl
  | _ :: _, [] => rfl
  | a :: r, b :: s => by
    rw [Op.bytesLess, bytesBefore, bless r s]
set_option maxHeartbeats 1000000 in
set_option maxRecDepth 100000 in
theorem clo1_any (w : World) (q bk o i len cap : Nat) (s : ByteArray) (hc : w.cell? ⟨q, 4, none⟩ = some (.slice (some ⟨bk, o, none⟩) len cap)) (hi : i < len) (hl : len ≤ 4611686018427387904)
    (hs : w.cell? ⟨bk, o + i * 4, none⟩ = some (.string s)) :
    Calls Tryd.prog 35 #[.int .i64 i, .pointer (some ⟨q, 0, none⟩)] w fun e w' => e = .returned (.string s) ∧ w' = w := by
  go_enter Tryd.func35, Tryd.ntmps35
  go_wp2
  go_returns
  exact ⟨rfl, rfl⟩
set_option maxHeartbeats 1000000 in
set_option maxRecDepth 100000 in
theorem clo2_any (w : World) (q bk o i len cap : Nat) (s : ByteArray) (hc : w.cell? ⟨q, 5, none⟩ = some (.slice (some ⟨bk, o, none⟩) len cap)) (hi : i < len) (hl : len ≤ 4611686018427387904)
    (hs : w.cell? ⟨bk, o + i * 2, none⟩ = some (.string s)) :
    Calls Tryd.prog 36 #[.int .i64 i, .pointer (some ⟨q, 0, none⟩)] w fun e w' => e = .returned (.string s) ∧ w' = w := by
  go_enter Tryd.func36, Tryd.ntmps36
  go_wp2
  go_returns
  exact ⟨rfl, rfl⟩
set_option maxHeartbeats 2000000 in
set_option maxRecDepth 100000 in
theorem rises1_any (w : World) (q : Nat) (ns : List (List UInt8)) (hl : ns.length ≤ 4611686018427387904) (hz : ∀ x ∈ ns, x.length ≤ 9223372036854775807)
    (hclo : ∀ j, j < ns.length → ∀ w', Below w.heap.size w w' → Calls Tryd.prog 35 #[.int .i64 j, .pointer (some ⟨q, 0, none⟩)] w' fun e w'' => e = .returned (.string (bs (nth ns j))) ∧ w'' = w') :
    Calls Tryd.prog 34 #[.int .i64 ns.length, .func (.func 35) #[] #[.pointer (some ⟨q, 0, none⟩)]] w fun e w' => e = .returned (.bool (namesOk ns)) ∧ Below w.heap.size w w' := by
  have HCLO := Lib.hid hclo
  have HZ := Lib.hid hz
  clear hz hclo
  go_enter Tryd.func34, Tryd.ntmps34
  go_wp2
  go_loopw [7] (fun p wr => ∃ k : Nat, p = .int .i64 k ∧ k ≤ ns.length ∧ (∀ j, j < k → goodAt ns j = true) ∧ Below w.heap.size w wr) (fun p _ => ns.length - (intOf p).toNat)
  case atStart => exact ⟨0, rfl, by omega, fun j hj => absurd hj (by omega), Below.refl _ _⟩
  case round =>
    obtain ⟨k, rfl, hk, hg, hb⟩ := hrel
    have HG := Lib.hid hg
    clear hg
    have hzr := hb.size
    by_cases hkl : k < ns.length
    · have hlt : (k : Int) < (ns.length : Int) := by omega
      have HK := Lib.hid (HCLO.out k hkl)
      have HNM : Hid (∀ w', Calls Tryd.prog 18 #[.string (bs (nth ns k))] w' fun e w'' => e = .returned (.bool (Scan.nameOk (nth ns k))) ∧ Below w'.heap.size w' w'') := Lib.hid (fun w' => name_any _ (by
        rw [getD_at hkl]
        exact HZ.out _ (List.getElem_mem hkl)) w')
      cases hok : Scan.nameOk (nth ns k)
      · rw [hok] at HNM
        have HNO : Hid (namesOk ns = false) := Lib.hid (namesOk_no hkl (by unfold goodAt; rw [hok]; rfl))
        go_wp2_with fail
        refine (HK.out _ hb).mono ?_
        rintro e w2 ⟨rfl, rfl⟩
        go_wp2_with fail
        refine (HNM.out _).mono ?_
        rintro e w2 ⟨rfl, hb2⟩
        go_wp2
        go_returns
        exact ⟨by rw [HNO.out]; rfl, hb.trans (hb2.mono hzr)⟩
      · rw [hok] at HNM
        rcases Nat.eq_zero_or_pos k with h0 | h0
        · subst h0
          have HNX : Hid (∀ j, j < 0 + 1 → goodAt ns j = true) := Lib.hid (fun j hj => by
            have : j = 0 := by omega
            subst this
            unfold goodAt; rw [hok]; rfl)
          clear hok
          go_wp2_with fail
          refine (HK.out _ hb).mono ?_
          rintro e w2 ⟨rfl, rfl⟩
          go_wp2_with fail
          refine (HNM.out _).mono ?_
          rintro e w2 ⟨rfl, hb2⟩
          go_wp2
          exact ⟨⟨0 + 1, by simp, by omega, HNX.out, hb.trans (hb2.mono hzr)⟩, by simp [intOf]; omega⟩
        · have HP := Lib.hid (HCLO.out (k - 1) (by omega))
          rw [show ((k - 1 : Nat) : Int) = (k : Int) - 1 by omega] at HP
          go_wp2_with fail
          refine (HK.out _ hb).mono ?_
          rintro e w2 ⟨rfl, rfl⟩
          go_wp2_with fail
          refine (HNM.out _).mono ?_
          rintro e w2 ⟨rfl, hb2⟩
          have hb3 := hb.trans (hb2.mono hzr)
          go_wp2_with fail
          refine (HP.out _ hb3).mono ?_
          rintro e w3 ⟨rfl, rfl⟩
          go_wp2_with fail
          refine (HK.out _ hb3).mono ?_
          rintro e w4 ⟨rfl, rfl⟩
          cases hbf : bytesBefore (nth ns (k - 1)) (nth ns k)
          · have HNO : Hid (namesOk ns = false) := Lib.hid (namesOk_no hkl (by unfold goodAt; rw [hok, hbf, decide_eq_false (by omega)]; rfl))
            have hq1 : Op.bytesLess (bs (nth ns (k - 1))).toList (bs (nth ns k)).toList = false := by rw [bs_toList, bs_toList, bless]; exact hbf
            clear hbf hok
            go_wp2
            go_returns
            exact ⟨by rw [HNO.out]; rfl, hb3⟩
          · have HNX : Hid (∀ j, j < k + 1 → goodAt ns j = true) := Lib.hid (fun j hj => by
              rcases Nat.lt_or_ge j k with h | h
              · exact HG.out j h
              · have : j = k := by omega
                subst this
                unfold goodAt; rw [hok, hbf]; simp)
            have hq1 : Op.bytesLess (bs (nth ns (k - 1))).toList (bs (nth ns k)).toList = true := by rw [bs_toList, bs_toList, bless]; exact hbf
            clear hbf hok
            go_wp2
            exact ⟨⟨k + 1, by simp, by omega, HNX.out, hb3⟩, by simp [intOf]; omega⟩
    · have hlt : (k : Int) = (ns.length : Int) := by omega
      have HF : Hid (namesOk ns = decide (ns.length ≤ 128)) := Lib.hid (namesOk_yes fun j hj => HG.out j (by omega))
      clear HCLO
      go_wp2
      go_returns
      exact ⟨by rw [HF.out]; simp; omega, hb⟩
set_option maxHeartbeats 2000000 in
set_option maxRecDepth 100000 in
theorem rises2_any (w : World) (q : Nat) (ns : List (List UInt8)) (hl : ns.length ≤ 4611686018427387904) (hz : ∀ x ∈ ns, x.length ≤ 9223372036854775807)
    (hclo : ∀ j, j < ns.length → ∀ w', Below w.heap.size w w' → Calls Tryd.prog 36 #[.int .i64 j, .pointer (some ⟨q, 0, none⟩)] w' fun e w'' => e = .returned (.string (bs (nth ns j))) ∧ w'' = w') :
    Calls Tryd.prog 34 #[.int .i64 ns.length, .func (.func 36) #[] #[.pointer (some ⟨q, 0, none⟩)]] w fun e w' => e = .returned (.bool (namesOk ns)) ∧ Below w.heap.size w w' := by
  have HCLO := Lib.hid hclo
  have HZ := Lib.hid hz
  clear hz hclo
  go_enter Tryd.func34, Tryd.ntmps34
  go_wp2
  go_loopw [7] (fun p wr => ∃ k : Nat, p = .int .i64 k ∧ k ≤ ns.length ∧ (∀ j, j < k → goodAt ns j = true) ∧ Below w.heap.size w wr) (fun p _ => ns.length - (intOf p).toNat)
  case atStart => exact ⟨0, rfl, by omega, fun j hj => absurd hj (by omega), Below.refl _ _⟩
  case round =>
    obtain ⟨k, rfl, hk, hg, hb⟩ := hrel
    have HG := Lib.hid hg
    clear hg
    have hzr := hb.size
    by_cases hkl : k < ns.length
    · have hlt : (k : Int) < (ns.length : Int) := by omega
      have HK := Lib.hid (HCLO.out k hkl)
      have HNM : Hid (∀ w', Calls Tryd.prog 18 #[.string (bs (nth ns k))] w' fun e w'' => e = .returned (.bool (Scan.nameOk (nth ns k))) ∧ Below w'.heap.size w' w'') := Lib.hid (fun w' => name_any _ (by
        rw [getD_at hkl]
        exact HZ.out _ (List.getElem_mem hkl)) w')
      cases hok : Scan.nameOk (nth ns k)
      · rw [hok] at HNM
        have HNO : Hid (namesOk ns = false) := Lib.hid (namesOk_no hkl (by unfold goodAt; rw [hok]; rfl))
        go_wp2_with fail
        refine (HK.out _ hb).mono ?_
        rintro e w2 ⟨rfl, rfl⟩
        go_wp2_with fail
        refine (HNM.out _).mono ?_
        rintro e w2 ⟨rfl, hb2⟩
        go_wp2
        go_returns
        exact ⟨by rw [HNO.out]; rfl, hb.trans (hb2.mono hzr)⟩
      · rw [hok] at HNM
        rcases Nat.eq_zero_or_pos k with h0 | h0
        · subst h0
          have HNX : Hid (∀ j, j < 0 + 1 → goodAt ns j = true) := Lib.hid (fun j hj => by
            have : j = 0 := by omega
            subst this
            unfold goodAt; rw [hok]; rfl)
          clear hok
          go_wp2_with fail
          refine (HK.out _ hb).mono ?_
          rintro e w2 ⟨rfl, rfl⟩
          go_wp2_with fail
          refine (HNM.out _).mono ?_
          rintro e w2 ⟨rfl, hb2⟩
          go_wp2
          exact ⟨⟨0 + 1, by simp, by omega, HNX.out, hb.trans (hb2.mono hzr)⟩, by simp [intOf]; omega⟩
        · have HP := Lib.hid (HCLO.out (k - 1) (by omega))
          rw [show ((k - 1 : Nat) : Int) = (k : Int) - 1 by omega] at HP
          go_wp2_with fail
          refine (HK.out _ hb).mono ?_
          rintro e w2 ⟨rfl, rfl⟩
          go_wp2_with fail
          refine (HNM.out _).mono ?_
          rintro e w2 ⟨rfl, hb2⟩
          have hb3 := hb.trans (hb2.mono hzr)
          go_wp2_with fail
          refine (HP.out _ hb3).mono ?_
          rintro e w3 ⟨rfl, rfl⟩
          go_wp2_with fail
          refine (HK.out _ hb3).mono ?_
          rintro e w4 ⟨rfl, rfl⟩
          cases hbf : bytesBefore (nth ns (k - 1)) (nth ns k)
          · have HNO : Hid (namesOk ns = false) := Lib.hid (namesOk_no hkl (by unfold goodAt; rw [hok, hbf, decide_eq_false (by omega)]; rfl))
            have hq1 : Op.bytesLess (bs (nth ns (k - 1))).toList (bs (nth ns k)).toList = false := by rw [bs_toList, bs_toList, bless]; exact hbf
            clear hbf hok
            go_wp2
            go_returns
            exact ⟨by rw [HNO.out]; rfl, hb3⟩
          · have HNX : Hid (∀ j, j < k + 1 → goodAt ns j = true) := Lib.hid (fun j hj => by
              rcases Nat.lt_or_ge j k with h | h
              · exact HG.out j h
              · have : j = k := by omega
                subst this
                unfold goodAt; rw [hok, hbf]; simp)
            have hq1 : Op.bytesLess (bs (nth ns (k - 1))).toList (bs (nth ns k)).toList = true := by rw [bs_toList, bs_toList, bless]; exact hbf
            clear hbf hok
            go_wp2
            exact ⟨⟨k + 1, by simp, by omega, HNX.out, hb3⟩, by simp [intOf]; omega⟩
    · have hlt : (k : Int) = (ns.length : Int) := by omega
      have HF : Hid (namesOk ns = decide (ns.length ≤ 128)) := Lib.hid (namesOk_yes fun j hj => HG.out j (by omega))
      clear HCLO
      go_wp2
      go_returns
      exact ⟨by rw [HF.out]; simp; omega, hb⟩
end Go.Proofs.YtjiifieafnjpgaaDoor

namespace Go.Proofs.YtjiifieafnjpgaaDoor
open Go.RowKit
set_option linter.unusedSimpArgs false
set_option linter.unusedVariables false
open Lock
/-- A node as a value. -/
def ndVal (x : Nd) (cv ev : Value) : Value := .agg #[sv x.name, .int .i64 x.v.a, .int .i64 x.v.b, .int .i64 x.v.c, cv, ev]
/-- The closures' contracts, of rows that can be read. -/
theorem pins_clo {w : World} {B q : Nat} {cv : Value} {ps : List Pn} (h : PinsAt w B cv ps) (hB : B ≤ w.heap.size) (hq : q < w.heap.size) (hc : w.cell? ⟨q, 4, none⟩ = some cv) (hl : ps.length ≤ 4611686018427387904) :
    ∀ j, j < (ps.map (·.name)).length → ∀ w', Below w.heap.size w w' → Calls Tryd.prog 35 #[.int .i64 j, .pointer (some ⟨q, 0, none⟩)] w' fun e w'' => e = .returned (.string (bs (nth (ps.map (·.name)) j))) ∧ w'' = w' := fun j hj w' hb => by
  rw [List.length_map] at hj
  obtain ⟨bk, o, cap, rfl, hlc, hk, hu⟩ := h.some (by rw [List.length_map]; omega)
  rw [List.length_map] at hc
  refine clo1_any w' q bk o j ps.length cap _ (by rw [hb.cell (p := ⟨q, 4, none⟩) hq]; exact hc) hj hl ?_
  rw [hb.cell (p := ⟨bk, o + j * 4, none⟩) (Nat.lt_of_lt_of_le hk hB)]
  have hp : (ps.map pinCells)[j]? = some (pinCells ps[j]) := by rw [List.getElem?_map, List.getElem?_eq_getElem hj]; rfl
  have := hu j _ hp 0 _ rfl
  rw [show nth (ps.map (·.name)) j = ps[j].name by rw [getD_at (by simpa using hj)]; simp]
  exact this
theorem edges_clo {w : World} {B q : Nat} {ev : Value} {es : List Eg} (h : EdgesAt w B ev es) (hB : B ≤ w.heap.size) (hq : q < w.heap.size) (hc : w.cell? ⟨q, 5, none⟩ = some ev) (hl : es.length ≤ 4611686018427387904) :
    ∀ j, j < (es.map (·.label)).length → ∀ w', Below w.heap.size w w' → Calls Tryd.prog 36 #[.int .i64 j, .pointer (some ⟨q, 0, none⟩)] w' fun e w'' => e = .returned (.string (bs (nth (es.map (·.label)) j))) ∧ w'' = w' := fun j hj w' hb => by
  rw [List.length_map] at hj
  obtain ⟨bk, o, cap, rfl, hlc, hk, hu⟩ := h.some (by rw [List.length_map]; omega)
  rw [List.length_map] at hc
  refine clo2_any w' q bk o j es.length cap _ (by rw [hb.cell (p := ⟨q, 5, none⟩) hq]; exact hc) hj hl ?_
  rw [hb.cell (p := ⟨bk, o + j * 2, none⟩) (Nat.lt_of_lt_of_le hk hB)]
  have hp : (es.map edgeCells)[j]? = some (edgeCells es[j]) := by rw [List.getElem?_map, List.getElem?_eq_getElem hj]; rfl
  have := hu j _ hp 0 _ rfl
  rw [show nth (es.map (·.label)) j = es[j].label by rw [getD_at (by simpa using hj)]; simp]
  exact this
end Go.Proofs.YtjiifieafnjpgaaDoor

namespace Go.Proofs.YtjiifieafnjpgaaDoor
open Go.RowKit
set_option linter.unusedSimpArgs false
set_option linter.unusedVariables false
open Lock
set_option maxHeartbeats 2000000 in
set_option maxRecDepth 100000 in
theorem node_any (w : World) (x : Nd) (cv ev : Value) (many : Nat) (hm : many ≤ 4611686018427387904) (hc : PinsAt w w.heap.size cv x.ctx) (he : EdgesAt w w.heap.size ev x.edges)
    (hcl : x.ctx.length ≤ 4611686018427387904) (hel : x.edges.length ≤ 4611686018427387904) (hcz : ∀ p ∈ x.ctx, p.name.length ≤ 9223372036854775807) (hez : ∀ p ∈ x.edges, p.label.length ≤ 9223372036854775807) :
    Calls Tryd.prog 20 #[ndVal x cv ev, .int .i64 many] w fun e w' => e = .returned (.bool (pins x.ctx && edges many x.edges)) ∧ Below w.heap.size w w' := by
  unfold ndVal
  obtain ⟨ca, cc, hcv⟩ := hc.form
  obtain ⟨ea, ec, hev⟩ := he.form
  rw [List.length_map] at hcv hev
  obtain ⟨cells, hcells⟩ : ∃ c : Array Value, c = #[sv x.name, .int .i64 x.v.a, .int .i64 x.v.b, .int .i64 x.v.c, cv, ev] := ⟨_, rfl⟩
  have HC := Lib.hid hc
  have HE := Lib.hid he
  clear hc he
  subst hcv hev
  go_enter Tryd.func20, Tryd.ntmps20
  go_wp2_with fail
  obtain ⟨w1, hw1⟩ : ∃ y, y = w.alloc (Obj.cells #[sv x.name, .int .i64 x.v.a, .int .i64 x.v.b, .int .i64 x.v.c, .slice ca x.ctx.length cc, .slice ea x.edges.length ec] 38) := ⟨_, rfl⟩
  rw [← hw1]
  have hb1 : Below w.heap.size w w1 := by rw [hw1]; exact (Below.refl _ _).alloc (Nat.le_refl _) _
  have hz1 : w1.heap.size = w.heap.size + 1 := by rw [hw1]; exact Array.size_push ..
  have c4 : w1.cell? ⟨w.heap.size, 4, none⟩ = some (.slice ca x.ctx.length cc) := by rw [hw1]; exact World.cell?_alloc_at _ _ _ _ rfl
  have c5 : w1.cell? ⟨w.heap.size, 5, none⟩ = some (.slice ea x.edges.length ec) := by rw [hw1]; exact World.cell?_alloc_at _ _ _ _ rfl
  have HR1 : Hid (Calls Tryd.prog 34 #[.int .i64 x.ctx.length, .func (.func 35) #[] #[.pointer (some ⟨w.heap.size, 0, none⟩)]] w1 fun e w' => e = .returned (.bool (namesOk (x.ctx.map (·.name)))) ∧ Below w1.heap.size w1 w') := Lib.hid (by
    have := rises1_any w1 w.heap.size (x.ctx.map (·.name)) (by rw [List.length_map]; exact hcl) (fun y hy => by
      obtain ⟨p, hp, rfl⟩ := List.mem_map.1 hy
      exact hcz p hp) (pins_clo (RowZ.below HC.out hb1 (Nat.le_refl _)) (by omega) (by omega) c4 hcl)
    rwa [List.length_map] at this)
  have HR2 : Hid (∀ w2, Below w1.heap.size w1 w2 → Calls Tryd.prog 34 #[.int .i64 x.edges.length, .func (.func 36) #[] #[.pointer (some ⟨w.heap.size, 0, none⟩)]] w2 fun e w' => e = .returned (.bool (namesOk (x.edges.map (·.label)))) ∧ Below w2.heap.size w2 w') := Lib.hid (fun w2 hb2 => by
    have hz2 := hb2.size
    have := rises2_any w2 w.heap.size (x.edges.map (·.label)) (by rw [List.length_map]; exact hel) (fun y hy => by
      obtain ⟨p, hp, rfl⟩ := List.mem_map.1 hy
      exact hez p hp) (edges_clo (RowZ.below (RowZ.below HE.out hb1 (Nat.le_refl _)) hb2 (by omega)) (by omega) (by omega) (by rw [hb2.cell (p := ⟨w.heap.size, 5, none⟩) (by show w.heap.size < _; omega)]; exact c5) hel)
    rwa [List.length_map] at this)
  refine HR1.out.mono ?_
  rintro e w2 ⟨rfl, hb2⟩
  have hz2 := hb2.size
  cases hn1 : namesOk (x.ctx.map (·.name))
  · have HNO : Hid (pins x.ctx = false) := Lib.hid (by unfold pins; rw [hn1]; rfl)
    go_wp2
    go_returns
    exact ⟨by rw [HNO.out]; rfl, hb1.trans (hb2.mono (by omega))⟩
  · have c5' : w2.cell? ⟨w.heap.size, 5, none⟩ = some (.slice ea x.edges.length ec) := by rw [hb2.cell (p := ⟨w.heap.size, 5, none⟩) (by show w.heap.size < _; omega)]; exact c5
    have c4' : w2.cell? ⟨w.heap.size, 4, none⟩ = some (.slice ca x.ctx.length cc) := by rw [hb2.cell (p := ⟨w.heap.size, 4, none⟩) (by show w.heap.size < _; omega)]; exact c4
    go_wp2_with fail
    refine (HR2.out _ hb2).mono ?_
    rintro e w3 ⟨rfl, hb3⟩
    have hz3 := hb3.size
    have hb13 := hb2.trans (hb3.mono hz2)
    have hbw := hb1.trans (hb13.mono (by omega))
    have d4 : w3.cell? ⟨w.heap.size, 4, none⟩ = some (.slice ca x.ctx.length cc) := by rw [hb3.cell (p := ⟨w.heap.size, 4, none⟩) (by show w.heap.size < _; omega)]; exact c4'
    have d5 : w3.cell? ⟨w.heap.size, 5, none⟩ = some (.slice ea x.edges.length ec) := by rw [hb3.cell (p := ⟨w.heap.size, 5, none⟩) (by show w.heap.size < _; omega)]; exact c5'
    cases hn2 : namesOk (x.edges.map (·.label))
    · have HNO : Hid (edges many x.edges = false) := Lib.hid (by unfold edges; rw [hn2]; rfl)
      go_wp2
      go_returns
      exact ⟨by rw [HNO.out, Bool.and_false]; rfl, hbw⟩
    · go_wp2
      go_loopw [26] (fun p wr => ∃ k : Nat, p = .int .i64 k ∧ k ≤ x.ctx.length ∧ (∀ j (h : j < x.ctx.length), j < k → x.ctx[j].v.may = true) ∧ Below w3.heap.size w3 wr) (fun p _ => x.ctx.length - (intOf p).toNat)
      case atStart => exact ⟨0, rfl, by omega, fun j h hj => absurd hj (by omega), Below.refl _ _⟩
      case round =>
        obtain ⟨k, rfl, hk, hg, hb⟩ := hrel
        have HG := Lib.hid hg
        clear hg
        have hzr := hb.size
        have hbwr := hbw.trans (hb.mono (by omega))
        by_cases hkl : k < x.ctx.length
        · have hlt : (k : Int) < (x.ctx.length : Int) := by omega
          obtain ⟨bk, o, cap, hve, hlc, hkB, hu⟩ := HC.out.some (by rw [List.length_map]; omega)
          rw [List.length_map] at hve
          cases hve
          have hp : (x.ctx.map pinCells)[k]? = some (pinCells x.ctx[k]) := by rw [List.getElem?_map, List.getElem?_eq_getElem hkl]; rfl
          obtain ⟨y, hy⟩ : ∃ y, y = x.ctx[k] := ⟨_, rfl⟩
          rw [← hy] at hp
          have e0 := hu k _ hp 0 _ rfl
          have e1 := hu k _ hp 1 _ rfl
          have e2 := hu k _ hp 2 _ rfl
          have e3 := hu k _ hp 3 _ rfl
          rw [← hbwr.cell (p := ⟨bk, o + k * 4 + 0, none⟩) (by show bk < _; omega)] at e0
          rw [← hbwr.cell (p := ⟨bk, o + k * 4 + 1, none⟩) (by show bk < _; omega)] at e1
          rw [← hbwr.cell (p := ⟨bk, o + k * 4 + 2, none⟩) (by show bk < _; omega)] at e2
          rw [← hbwr.cell (p := ⟨bk, o + k * 4 + 3, none⟩) (by show bk < _; omega)] at e3
          rw [Nat.add_zero] at e0
          have HY := Lib.hid hy
          clear hu hp hy
          unfold sv at e0
          have HM : Hid (∀ w', Calls Tryd.prog 19 #[.agg #[.int .i64 y.v.a, .int .i64 y.v.b, .int .i64 y.v.c]] w' fun e w'' => e = .returned (.bool y.v.may) ∧ Below w'.heap.size w' w'') := Lib.hid (fun w' => VL.may_any _ _ _ w')
          go_wp2_with fail
          refine (HM.out _).mono ?_
          rintro e w5 ⟨rfl, hb5⟩
          have hb35 : Below w3.heap.size w3 w5 := (hb.alloc hzr _).trans (hb5.mono (by rw [World.size_alloc]; omega))
          clear hb5
          cases hmay : y.v.may
          · have HNO : Hid (pins x.ctx = false) := Lib.hid (by
              refine Bool.eq_false_iff.2 fun hp => ?_
              have := (pin_in hp x.ctx[k] (List.getElem_mem hkl)).2
              rw [← HY.out, hmay] at this
              exact absurd this (by simp))
            go_wp2
            go_returns
            exact ⟨by rw [HNO.out]; rfl, hbw.trans (hb35.mono (by omega))⟩
          · have HNX : Hid (∀ j (h : j < x.ctx.length), j < k + 1 → x.ctx[j].v.may = true) := Lib.hid (fun j h hj => by
              rcases Nat.lt_or_ge j k with h' | h'
              · exact HG.out j h h'
              · have : j = k := by omega
                subst this
                rw [← HY.out]; exact hmay)
            go_wp2
            exact ⟨⟨k + 1, by simp, by omega, HNX.out, hb35⟩, by simp [intOf]; omega⟩
        · have hlt : (k : Int) = (x.ctx.length : Int) := by omega
          have HP : Hid (pins x.ctx = true) := Lib.hid (by
            unfold pins
            rw [hn1, Bool.true_and]
            refine List.all_eq_true.2 fun p hp => ?_
            obtain ⟨j, hj, rfl⟩ := List.mem_iff_getElem.1 hp
            exact HG.out j hj (by omega))
          have f5 : wr.cell? ⟨w.heap.size, 5, none⟩ = some (.slice ea x.edges.length ec) := by rw [hb.cell (p := ⟨w.heap.size, 5, none⟩) (by show w.heap.size < _; omega)]; exact d5
          clear hlt
          go_wp2
          go_loopw [38] (fun p we => ∃ i : Nat, p = .int .i64 i ∧ i ≤ x.edges.length ∧ (∀ j (h : j < x.edges.length), j < i → 1 ≤ x.edges[j].dst ∧ x.edges[j].dst < many) ∧ Below wr.heap.size wr we) (fun p _ => x.edges.length - (intOf p).toNat)
          case atStart => exact ⟨0, rfl, by omega, fun j h hj => absurd hj (by omega), Below.refl _ _⟩
          case round =>
            obtain ⟨i, rfl, hi, hg2, hb6⟩ := hrel
            have HG2 := Lib.hid hg2
            clear hg2
            have hze := hb6.size
            have hbwe := hbwr.trans (hb6.mono (by omega))
            by_cases hil : i < x.edges.length
            · have hlt2 : (i : Int) < (x.edges.length : Int) := by omega
              obtain ⟨bk, o, cap, hve, hlc, hkB, hu⟩ := HE.out.some (by rw [List.length_map]; omega)
              rw [List.length_map] at hve
              cases hve
              have hp : (x.edges.map edgeCells)[i]? = some (edgeCells x.edges[i]) := by rw [List.getElem?_map, List.getElem?_eq_getElem hil]; rfl
              obtain ⟨y, hy⟩ : ∃ y, y = x.edges[i] := ⟨_, rfl⟩
              rw [← hy] at hp
              have e0 := hu i _ hp 0 _ rfl
              have e1 := hu i _ hp 1 _ rfl
              rw [← hbwe.cell (p := ⟨bk, o + i * 2 + 0, none⟩) (by show bk < _; omega)] at e0
              rw [← hbwe.cell (p := ⟨bk, o + i * 2 + 1, none⟩) (by show bk < _; omega)] at e1
              rw [Nat.add_zero] at e0
              have HY := Lib.hid hy
              clear hu hp hy
              unfold sv at e0
              obtain ⟨d, hd⟩ : ∃ d, d = y.dst := ⟨_, rfl⟩
              rw [← hd] at e1
              have HD := Lib.hid hd
              clear hd
              by_cases hgood : 1 ≤ d ∧ d < many
              · have hg1 : ¬ d < 1 := by omega
                have hg2 : ¬ (many : Int) ≤ d := by omega
                have HNX : Hid (∀ j (h : j < x.edges.length), j < i + 1 → 1 ≤ x.edges[j].dst ∧ x.edges[j].dst < many) := Lib.hid (fun j h hj => by
                  rcases Nat.lt_or_ge j i with h' | h'
                  · exact HG2.out j h h'
                  · have : j = i := by omega
                    subst this
                    rw [← HY.out, ← HD.out]; exact hgood)
                clear hgood
                go_wp2
                exact ⟨⟨i + 1, by simp, by omega, HNX.out, by first | exact hb6.alloc hze _ | go_grown⟩, by simp [intOf]; omega⟩
              · have HNO : Hid (edges many x.edges = false) := Lib.hid (by
                  refine Bool.eq_false_iff.2 fun hp => ?_
                  have := (edge_in hp x.edges[i] (List.getElem_mem hil)).2
                  rw [← HY.out, ← HD.out] at this
                  exact hgood this)
                have hor : d < 1 ∨ (many : Int) ≤ d := by omega
                clear hgood
                rcases hor with h1 | h1
                · go_wp2
                  go_returns
                  exact ⟨by rw [HNO.out, Bool.and_false]; rfl, hbwe.alloc (by omega) _⟩
                · by_cases h0 : d < 1
                  · go_wp2
                    go_returns
                    exact ⟨by rw [HNO.out, Bool.and_false]; rfl, hbwe.alloc (by omega) _⟩
                  · go_wp2
                    go_returns
                    exact ⟨by rw [HNO.out, Bool.and_false]; rfl, hbwe.alloc (by omega) _⟩
            · have hlt2 : (i : Int) = (x.edges.length : Int) := by omega
              have HE2 : Hid (edges many x.edges = true) := Lib.hid (by
                unfold edges
                rw [hn2, Bool.true_and]
                refine List.all_eq_true.2 fun p hp => ?_
                obtain ⟨j, hj, rfl⟩ := List.mem_iff_getElem.1 hp
                have := HG2.out j hj (by omega)
                simp only [Bool.and_eq_true, decide_eq_true_eq]
                exact this)
              go_wp2
              go_returns
              exact ⟨by rw [HP.out, HE2.out]; rfl, hbwe⟩
end Go.Proofs.YtjiifieafnjpgaaDoor
