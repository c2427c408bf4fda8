/- The document's deeds: the walk. -/
import Derived.Test.YtnfklomokjhojaaDoorRefDeeds1
import Derived.Deep.AppendLies
import Derived.Deep.RegionHeld3
namespace Go.Proofs.YtnfklomokjhojaaDoor
open Go.RowKit
set_option linter.unusedSimpArgs false
set_option linter.unusedVariables false
theorem own_heap {w W : World} {b : Nat} {e : TypeId} {z : Nat} {v : Value} {n : Nat} {xs : List Value} (h : w.ownsRow b e z v n xs) (hh : W.heap = w.heap) : W.ownsRow b e z v n xs := by
  unfold World.ownsRow at h ⊢
  rw [hh]
  exact h
theorem below_heap {B : Nat} {a w W : World} (h : Below B a w) (hh : W.heap = w.heap) (h1 : W.os = w.os) (h2 : W.tape = w.tape) (h3 : W.output = w.output) : Below B a W :=
  ⟨h1.trans h.os, h2.trans h.tape, h3.trans h.output, by rw [hh]; exact h.size, fun k hk => by rw [hh]; exact h.block k hk⟩
theorem app_deed31 {ops : Array Oper} {o : Oper} {a : Act} {K : Act → World → Prop} {Q : Exit → Act → World → Prop} {E : Prop} {T : TypeId} (hgd : o.guard = none) (s x : Operand)
    (ho : o.op = .call { callee := .builtin .append, args := #[s, x], argTypes := #[T, T] }) (ht : Tryd.prog.underlying T = some (.slice 33)) {i0 : TypeInfo} (hi : Tryd.prog.info? 33 = some i0)
    (hz0 : i0.zero = some (.agg #[.int .i64 0, .string ByteArray.empty, .string ByteArray.empty])) (hz1 : i0.size = 3) (hz2 : i0.bytes = 40) {wo wB W : World} {nB M cv : Nat} {av : Option Addr} {xs : List Value} {n4 : Int} {p q : ByteArray}
    (hs : a.eval s = .slice av M cv) (hx : a.eval x = .slice (some ⟨wo.heap.size, 0, none⟩) 1 1) (hW : W.heap = (wo.alloc (.cells #[.int .i64 n4, .string p, .string q] 33)).heap) (hos : W.os = wo.os) (htp : W.tape = wo.tape) (hout : W.output = wo.output)
    (hrow : wo.ownsRow nB 33 3 (.slice av M cv) M xs) (hB : Below nB wB wo) (hn : nB ≤ wB.heap.size) (hM : M ≤ 8388608)
    (h : ∀ g cap w8, w8.ownsRow nB 33 3 (.slice (some ⟨g, 0, none⟩) (M + 1) cap) (M + 1) (xs ++ [.int .i64 n4, .string p, .string q]) → Below nB wB w8 → K (a.put o.dst (.slice (some ⟨g, 0, none⟩) (M + 1) cap)) w8) :
    if Region.wanted o (yielded ops a.tmps) = true then Oper.wp Tryd.prog o a W K Q else E := by
  have hsz := hB.size
  have hWs : W.heap.size = wo.heap.size + 1 := by rw [hW]; simp
  have hBW : Below nB wB W := below_heap (hB.alloc (by omega) (.cells #[.int .i64 n4, .string p, .string q] 33)) hW hos htp hout
  have hrW : W.ownsRow nB 33 3 (.slice av M cv) M xs := own_heap (World.ownsRow.alloc hrow (.cells #[.int .i64 n4, .string p, .string q] 33)) hW
  have hnew : W.heap[wo.heap.size]? = some (.cells #[.int .i64 n4, .string p, .string q] 33) := by rw [hW]; exact heap_alloc_new wo _
  refine step_append_lies W hgd s x T ho nB 33 i0 (.agg #[.int .i64 0, .string ByteArray.empty, .string ByteArray.empty]) 3 40 ht hi hz0 hz1 hz2 rfl (by decide) (.slice av M cv) M xs hs hrW ⟨wo.heap.size, 0, none⟩ 1 1 [.int .i64 n4, .string p, .string q] hx rfl (World.news_of_block hnew) (fun u hu => ?_) (by decide) (by unfold maxLen; omega) (by omega) (by omega) W.heap.size rfl ?_
  · simp at hu
    rcases hu with rfl | rfl | rfl <;> rfl
  · intro g cap w8 hown hgrow _ _
    exact h g cap w8 hown (hBW.grown hgrow (by omega) (fun g hg => (World.ownsRow.lt hrow g hg).1))
namespace Disk
theorem pick_le (c : List UInt8 × T → Nat) (k : Nat) (f : List UInt8 × T → Dd) (l : M) : (pick c k f l).length ≤ l.length := by
  unfold pick
  rw [List.length_map]
  exact List.length_filter_le _ _
theorem pick_append (c : List UInt8 × T → Nat) (k : Nat) (f : List UInt8 × T → Dd) (l m : M) : pick c k f (l ++ m) = pick c k f l ++ pick c k f m := by unfold pick; simp
theorem pick_one (c : List UInt8 × T → Nat) (k : Nat) (f : List UInt8 × T → Dd) (x : List UInt8 × T) : pick c k f [x] = if c x == k then [f x] else [] := by
  unfold pick
  rw [List.filter_cons]
  cases c x == k <;> rfl
theorem pick_up (c : List UInt8 × T → Nat) (k : Nat) (f : List UInt8 × T → Dd) {l : M} {j : Nat} {x : List UInt8 × T} (h : l[j]? = some x) : pick c k f (l.take j) ++ (if c x == k then [f x] else []) = pick c k f (l.take (j + 1)) := by
  rw [List.take_add_one, h, pick_append, ← pick_one c k f x]
  rfl
theorem pick_down (c : List UInt8 × T → Nat) (k : Nat) (f : List UInt8 × T → Dd) {l : M} {j : Nat} {x : List UInt8 × T} (h : l[j]? = some x) : (pick c k f (l.drop (j + 1))).reverse ++ (if c x == k then [f x] else []) = (pick c k f (l.drop j)).reverse := by
  have hh := List.getElem?_eq_some_iff.1 h
  rw [List.drop_eq_getElem_cons hh.1, hh.2]
  have e : pick c k f (x :: l.drop (j + 1)) = (if c x == k then [f x] else []) ++ pick c k f (l.drop (j + 1)) := by
    rw [← pick_one, ← pick_append]; rfl
  rw [e, List.reverse_append]
  congr 1
  split <;> rfl
theorem cls_unl (b : M) (p : List UInt8) (d : Bool) (t : List UInt8) : (cls b (p, ⟨d, t⟩) == 1) = (!d && ((atRes (SM.look b p)).1 != 1)) := by
  unfold cls atRes
  dsimp only
  cases SM.look b p with
  | none => cases d <;> rfl
  | some y => obtain ⟨yd, yt⟩ := y; cases d <;> cases yd <;> rfl
theorem cls_rmd (b : M) (p : List UInt8) (d : Bool) (t : List UInt8) : (cls b (p, ⟨d, t⟩) == 2) = (d && ((atRes (SM.look b p)).1 != 2)) := by
  unfold cls atRes
  dsimp only
  cases SM.look b p with
  | none => cases d <;> rfl
  | some y => obtain ⟨yd, yt⟩ := y; cases d <;> cases yd <;> rfl
theorem cls_mkd {a : M} (ha : ∀ x ∈ a, x.2.dir = true → x.2.data = []) {p : List UInt8} {d : Bool} {t : List UInt8} (hb : d = true → t = []) : (cls2 a (p, ⟨d, t⟩) == 3) = (d && ((atRes (SM.look a p)).1 != 2)) := by
  unfold cls2 atRes
  dsimp only
  cases hl : SM.look a p with
  | none => cases d <;> rfl
  | some y =>
    obtain ⟨yd, yt⟩ := y
    have h := ha _ (SM.look_some hl)
    dsimp only at h ⊢
    cases d
    · simp only [Bool.false_and]; split <;> rfl
    · rw [hb rfl]
      cases yd
      · rw [if_neg (by simp)]; rfl
      · rw [h rfl, if_pos rfl]; rfl
theorem cls_putd (a : M) (p : List UInt8) (d : Bool) (t : List UInt8) : (cls2 a (p, ⟨d, t⟩) == 4) = (!d && (((atRes (SM.look a p)).1 != 1) || !decide ((atRes (SM.look a p)).2 = t))) := by
  unfold cls2 atRes
  dsimp only
  cases SM.look a p with
  | none => cases d <;> rfl
  | some y =>
    obtain ⟨yd, yt⟩ := y
    dsimp only
    cases d
    · cases yd
      · by_cases h : yt = t
        · rw [h]; simp
        · rw [if_neg (by simp [h])]; simp [h]
      · rw [if_neg (by simp)]; rfl
    · simp only [Bool.not_true, Bool.false_and]; split <;> rfl
theorem load_dirs {fs : List Fl} {l : M} (h : load fs = some l) : ∀ x ∈ l, x.2.dir = true → x.2.data = [] := fun x hx hd => by
  have hri := load_rises h
  have hlk := SM.look_mem hri hx
  unfold load at h
  cases hf : fill [] fs with
  | none => rw [hf] at h; exact absurd h (by simp)
  | some m =>
    rw [hf] at h
    dsimp only at h
    split at h
    · cases h
      rcases (fill_look hf).1 _ _ hlk with h | ⟨f, hf', e1, e2⟩
      · exact absurd h (by simp [SM.look_nil])
      · have := (fill_ok hf f hf').2
        rw [← e2] at hd ⊢
        exact this hd
    · exact absurd h (by simp)
end Disk
set_option maxHeartbeats 16000000 in
set_option maxRecDepth 100000 in
theorem rdeeds_any {w : World} {B : Nat} {v1 v2 : Value} {before after : List Disk.Fl} (h1 : Files w B v1 before) (h2 : Files w B v2 after) (hB : B ≤ w.heap.size) (hn1 : before.length ≤ 1048576) (hsz1 : ∀ f ∈ before, f.path.length ≤ 1048576 ∧ f.data.length ≤ 1048576) (hn2 : after.length ≤ 1048576) (hsz2 : ∀ f ∈ after, f.path.length ≤ 1048576 ∧ f.data.length ≤ 1048576) :
    Calls Tryd.prog 9 #[v1, v2] w (DeltaPost before after w) := by
  obtain ⟨i0, hi, hz0, hz1, hz2⟩ := info_parts infoDd
  have HL1 := Lib.hid (rload_any h1 hB (by omega) (fun f hf => by have := hsz1 f hf; omega))
  have HL2 := Lib.hid (fun (W : World) (hb : Below w.heap.size w W) => rload_any (h2.below hb hB) (Nat.le_trans hB hb.size) (by omega) (fun f hf => by have := hsz2 f hf; omega))
  have HC1 := Lib.hid (fun (W : World) (hb : Below w.heap.size w W) => clear_any (h1.below hb hB) (by omega) (fun f hf => by have := hsz1 f hf; omega))
  have HC2 := Lib.hid (fun (W : World) (hb : Below w.heap.size w W) => clear_any (h2.below hb hB) (by omega) (fun f hf => by have := hsz2 f hf; omega))
  obtain ⟨a1, c1, rfl⟩ := h1.form
  obtain ⟨a2, c2, rfl⟩ := h2.form
  obtain ⟨N1, hN1⟩ : ∃ N, N = before.length := ⟨_, rfl⟩
  obtain ⟨N2, hN2⟩ : ∃ N, N = after.length := ⟨_, rfl⟩
  have HNN := Lib.hid (And.intro hN1 hN2)
  rw [← hN1] at HL1 HC1 hn1 ⊢
  rw [← hN2] at HL2 HC2 hn2 ⊢
  clear h1 h2 hsz1 hsz2 hN1 hN2
  obtain ⟨one, hone⟩ : ∃ x, x = !before.any fun f => Disk.ours f.path := ⟨_, rfl⟩
  obtain ⟨two, htwo⟩ : ∃ x, x = !after.any fun f => Disk.ours f.path := ⟨_, rfl⟩
  rw [← hone] at HC1
  rw [← htwo] at HC2
  have HP1 : Hid (∀ W e W', RLoadPost before W e W' → ∃ p is, e = .returned (.tuple #[p, .bool is]) ∧ Below W.heap.size W W' ∧ (is = false ∧ Disk.read before = none ∨ is = true ∧ ∃ l rd lv, Disk.load before = some l ∧ p = .pointer (some ⟨rd, 0, none⟩) ∧ RefIn W' W.heap.size rd l lv (.slice none 0 0) (-1) ∧ l.length ≤ before.length)) := Lib.hid (fun W e W' h => by
    unfold RLoadPost at h
    obtain ⟨h, hb⟩ := h
    cases hr : Disk.load before with
    | none => rw [hr] at h; exact ⟨_, _, h, hb, Or.inl ⟨rfl, by unfold Disk.read; rw [hr]⟩⟩
    | some l => rw [hr] at h; obtain ⟨rd, lv, h, h3, h4⟩ := h; exact ⟨_, _, h, hb, Or.inr ⟨rfl, l, rd, lv, rfl, rfl, h3, h4⟩⟩)
  have HP2 : Hid (∀ W e W', RLoadPost after W e W' → ∃ p is, e = .returned (.tuple #[p, .bool is]) ∧ Below W.heap.size W W' ∧ (is = false ∧ Disk.read after = none ∨ is = true ∧ ∃ l rd lv, Disk.load after = some l ∧ p = .pointer (some ⟨rd, 0, none⟩) ∧ RefIn W' W.heap.size rd l lv (.slice none 0 0) (-1) ∧ l.length ≤ after.length)) := Lib.hid (fun W e W' h => by
    unfold RLoadPost at h
    obtain ⟨h, hb⟩ := h
    cases hr : Disk.load after with
    | none => rw [hr] at h; exact ⟨_, _, h, hb, Or.inl ⟨rfl, by unfold Disk.read; rw [hr]⟩⟩
    | some l => rw [hr] at h; obtain ⟨rd, lv, h, h3, h4⟩ := h; exact ⟨_, _, h, hb, Or.inr ⟨rfl, l, rd, lv, rfl, rfl, h3, h4⟩⟩)
  have HR1 : Hid (∀ l, Disk.load before = some l → Disk.read before = if one then some l else none) := Lib.hid (fun l h => by unfold Disk.read; rw [h, hone]; dsimp only; cases before.any fun f => Disk.ours f.path <;> rfl)
  have HR2 : Hid (∀ l, Disk.load after = some l → Disk.read after = if two then some l else none) := Lib.hid (fun l h => by unfold Disk.read; rw [h, htwo]; dsimp only; cases after.any fun f => Disk.ours f.path <;> rfl)
  have HRES : Hid (∀ a b, Disk.read before = some a → Disk.read after = some b → Disk.deedsRes before after = (Disk.delta a b, 0)) := Lib.hid (fun a b h1 h2 => by unfold Disk.deedsRes; rw [h1, h2])
  have HNO : Hid (Disk.read before = none ∨ Disk.read after = none → Disk.deedsRes before after = ([], 1)) := Lib.hid (fun h => by
    unfold Disk.deedsRes
    rcases h with h | h
    · rw [h]
    · rw [h]; cases Disk.read before <;> rfl)
  clear hone htwo
  go_enter Tryd.func9, Tryd.ntmps9
  go_wp2_with fail
  refine HL1.out.mono ?_
  intro e w1 hp
  obtain ⟨p1, is, rfl, hb1, hla⟩ := HP1.out _ e w1 hp
  clear hp
  have HLA := Lib.hid hla
  clear hla
  go_wp2_with fail
  refine (HL2.out _ hb1).mono ?_
  intro e w2 hp
  obtain ⟨p2, are, rfl, hb2, hlb⟩ := HP2.out _ e w2 hp
  clear hp
  have HLB := Lib.hid hlb
  have hb12 := hb1.trans (hb2.mono hb1.size)
  have HB2 := Lib.hid hb2
  clear hlb
  go_wp2_with fail
  refine (HC1.out _ hb12).mono ?_
  rintro e w3 ⟨rfl, rfl⟩
  go_wp2_with fail
  refine (HC2.out _ hb12).mono ?_
  rintro e w4 ⟨rfl, rfl⟩
  have BAD : Hid (Disk.read before = none ∨ Disk.read after = none → DeltaPost before after w (.returned (.tuple #[.slice none 0 0, .int .i64 1])) w4) := Lib.hid (fun h => DeltaPost.bad (HNO.out h) hb12)
  have CS : (is = false ∨ are = false ∨ one = false ∨ two = false) ∨ (is = true ∧ are = true ∧ one = true ∧ two = true) := by
    cases is <;> cases are <;> cases one <;> cases two <;> simp
  rcases CS with hc | ⟨rfl, rfl, rfl, rfl⟩
  · have HF := Lib.hid (BAD.out (by
      rcases HLA.out with ⟨_, h⟩ | ⟨e1, l, rd, lv, hl, _⟩
      · exact Or.inl h
      rcases HLB.out with ⟨_, h⟩ | ⟨e2, l2, rd2, lv2, hl2, _⟩
      · exact Or.inr h
      rcases hc with h | h | h | h
      · rw [e1] at h; exact absurd h (by simp)
      · rw [e2] at h; exact absurd h (by simp)
      · exact Or.inl (by rw [HR1.out _ hl, h]; rfl)
      · exact Or.inr (by rw [HR2.out _ hl2, h]; rfl)))
    clear hc
    cases is
    · go_wp2
      go_returns
      exact HF.out
    cases are
    · go_wp2
      go_returns
      exact HF.out
    cases one
    · go_wp2
      go_returns
      exact HF.out
    cases two
    · go_wp2
      go_returns
      exact HF.out
    · exfalso
      have := HF.out
      rcases HLA.out with ⟨h, _⟩ | ⟨e1, l, rd, lv, hl, _⟩
      · exact absurd h (by simp)
      rcases HLB.out with ⟨h, _⟩ | ⟨e2, l2, rd2, lv2, hl2, _⟩
      · exact absurd h (by simp)
      unfold DeltaPost at this
      rw [HRES.out _ _ (HR1.out _ hl) (HR2.out _ hl2)] at this
      obtain ⟨v, h, _⟩ := this
      simp at h
  · obtain ⟨a, ra, lva, hla, rfl, hra, hna⟩ : ∃ l rd lv, Disk.load before = some l ∧ p1 = .pointer (some ⟨rd, 0, none⟩) ∧ RefIn w1 w.heap.size rd l lv (.slice none 0 0) (-1) ∧ l.length ≤ before.length := by
      rcases HLA.out with ⟨h, _⟩ | ⟨_, h⟩
      · exact absurd h (by simp)
      · exact h
    obtain ⟨b, rb, lvb, hlb, rfl, hrb, hnb⟩ : ∃ l rd lv, Disk.load after = some l ∧ p2 = .pointer (some ⟨rd, 0, none⟩) ∧ RefIn w4 w1.heap.size rd l lv (.slice none 0 0) (-1) ∧ l.length ≤ after.length := by
      rcases HLB.out with ⟨h, _⟩ | ⟨_, h⟩
      · exact absurd h (by simp)
      · exact h
    obtain ⟨wB, rfl⟩ : ∃ x, x = w4 := ⟨w4, rfl⟩
    have hra2 := hra.sized HB2.out
    obtain ⟨nB, hnB⟩ : ∃ n, n = wB.heap.size := ⟨_, rfl⟩
    have hral : ra < nB := by rw [hnB]; exact hra2.rdl
    have hrbl : rb < nB := by rw [hnB]; exact hrb.rdl
    have HFA : Hid (Files wB nB lva (fls a)) := Lib.hid (by rw [hnB]; exact hra2.row.files)
    have HFB : Hid (Files wB nB lvb (fls b)) := Lib.hid (by rw [hnB]; exact hrb.row.files)
    have ca0 := hra2.c0
    have cb0 := hrb.c0
    have HRA := Lib.hid hra2.rises
    have HRB := Lib.hid hrb.rises
    have HDA := Lib.hid (Disk.load_dirs hla)
    have HDB := Lib.hid (Disk.load_dirs hlb)
    obtain ⟨aa, ca, rfl⟩ := own_form hra2.row
    obtain ⟨ab, cb, rfl⟩ := own_form hrb.row
    obtain ⟨Na, hNa⟩ : ∃ n, n = a.length := ⟨_, rfl⟩
    obtain ⟨Nb, hNb⟩ : ∃ n, n = b.length := ⟨_, rfl⟩
    rw [fls_length, ← hNa] at ca0
    rw [fls_length, ← hNb] at cb0
    have hNal : Na ≤ 1048576 := by have := HNN.out; omega
    have hNbl : Nb ≤ 1048576 := by have := HNN.out; omega
    have HLNA := Lib.hid hNa
    have HLNB := Lib.hid hNb
    have hsB : nB ≤ wB.heap.size := by omega
    have RD : Hid (∀ W v X, DRow W nB v X → Below nB wB W → X = Disk.delta a b → DeltaPost before after w (.returned (.tuple #[v, .int .i64 0])) W) := Lib.hid (fun W v X h1 h2 h3 => by
      unfold DeltaPost
      rw [HRES.out _ _ (HR1.out _ hla) (HR2.out _ hlb), ← h3]
      have hs := hb12.size
      exact ⟨v, rfl, DRow.mono h1 (by rw [hnB]; exact hs), hb12.trans (h2.mono (by rw [hnB]; exact hs))⟩)
    have HNB := Lib.hid hnB
    obtain ⟨D0, hD0⟩ : ∃ D : List Disk.Dd, D = [] := ⟨_, rfl⟩
    have HD0 : Hid (DRow wB nB (.slice none 0 0) D0) := Lib.hid (by rw [hD0]; exact World.ownsRow_nil _ _ _ _)
    have HE0 := Lib.hid hD0
    have HDL0 : Hid (D0.length ≤ 0 * 1048576) := Lib.hid (by rw [hD0]; simp)
    have HB0 : Hid (Below nB wB wB) := Lib.hid (Below.refl _ _)
    have wa : IntKind.i64.wrap ((Na : Int) - 1) = (Na : Int) - 1 := IntWalk.i64_in _ (by omega)
    clear hla hlb hra hrb hra2 hna hnb hNa hNb hnB hD0 hb1 hb2 hb12
    go_wp2
    try clear hge pa pb hzr hMl
    go_loopw [12, 13] (fun q p wr => ∃ (j : Nat) (X : List Disk.Dd) (vv : Value), vv = q ∧ p = .int .i64 ((j : Int) - 1) ∧ j ≤ Na ∧ X = D0 ++ ((Disk.pick (Disk.cls b) 1 Disk.unl (a.drop j)).reverse) ∧ DRow wr nB vv X ∧ Below nB wB wr) (fun _ p _ => (intOf p + 1).toNat)
    case atStart => exact ⟨Na, D0, _, rfl, rfl, by omega, by have := HLNA.out; rw [List.drop_of_length_le (by omega)]; simp [Disk.pick], HD0.out, HB0.out⟩
    case round =>
      rename_i ihL1
      obtain ⟨j, X, v, rfl, rfl, hj, hX, hrow, hBr⟩ := hrel
      obtain ⟨wo, rfl⟩ : ∃ x, x = wr := ⟨wr, rfl⟩
      have hzr := hBr.size
      have hXl : X.length ≤ D0.length + a.length := by
        rw [hX, List.length_append]
        have := Disk.pick_le (Disk.cls b) 1 Disk.unl (a.drop j)
        simp only [List.length_reverse, List.length_drop, List.length_take] at this ⊢
        omega
      have HX := Lib.hid hX
      obtain ⟨av, cv, rfl⟩ := own_form hrow
      obtain ⟨M, hM⟩ : ∃ M, M = X.length := ⟨_, rfl⟩
      have HROW : Hid (World.ownsRow wo nB 33 3 (.slice av M cv) M (X.flatMap ddCells)) := Lib.hid (by rw [hM]; exact hrow)
      have hMl : M ≤ 8388608 := by
        have h1 := HLNA.out
        have h2 := HDL0.out
        rw [hM]
        omega
      rw [← hM]
      have HM := Lib.hid hM
      have HBR := Lib.hid hBr
      clear hX hrow hXl hM hBr
      have pa := HBR.out.cell (p := ⟨ra, 0, none⟩) (by show ra < nB; omega)
      have pb := HBR.out.cell (p := ⟨rb, 0, none⟩) (by show rb < nB; omega)
      rw [ca0] at pa
      rw [cb0] at pb
      by_cases hjN : 0 < j
      · obtain ⟨i, rfl⟩ : ∃ i, j = i + 1 := ⟨j - 1, by omega⟩
        have ej : (((i + 1 : Nat) : Int) - 1) = (i : Int) := by omega
        rw [ej]
        clear ej
        have hge : (0 : Int) ≤ (i : Int) := by omega
        have wj : IntKind.i64.wrap ((i : Int) - 1) = (i : Int) - 1 := IntWalk.i64_in _ (by omega)
        obtain ⟨f, hf⟩ : ∃ f, (fls a)[i]? = some f := ⟨_, List.getElem?_eq_getElem (by have := HLNA.out; rw [fls_length]; omega)⟩
        obtain ⟨bk, o, cap, hve, hbB, hbc⟩ := HFA.out.at (by have := HLNA.out; rw [fls_length]; omega)
        rw [fls_length, ← HLNA.out] at hve
        cases hve
        obtain ⟨e1, e2, e3⟩ := hbc i f hf
        rw [← HBR.out.cell (p := ⟨bk, o + i * 3, none⟩) (by show bk < nB; omega)] at e1
        rw [← HBR.out.cell (p := ⟨bk, o + i * 3 + 1, none⟩) (by show bk < nB; omega)] at e2
        rw [← HBR.out.cell (p := ⟨bk, o + i * 3 + 2, none⟩) (by show bk < nB; omega)] at e3
        have HL := Lib.hid (fls_at hf)
        obtain ⟨xp, xd, xt⟩ := f
        dsimp only at e1 e2 e3 HL
        have hidx : (i : Int) < (Na : Int) := by omega
        have hidN : i < Na := by omega
        obtain ⟨rk, hrk⟩ : ∃ k, k = (atRes (SM.look b xp)).1 := ⟨_, rfl⟩
        obtain ⟨rs, hrs⟩ : ∃ k, k = (atRes (SM.look b xp)).2 := ⟨_, rfl⟩
        have HAT : Hid (∀ W, Below nB wB W → Calls Tryd.prog 35 #[.slice ab Nb cb, .string (bs xp)] W fun e w' => e = .returned (.tuple #[.int .i64 rk, .string (bs rs)]) ∧ ∃ m, w' = W.drewN m) := Lib.hid (fun W hW => by
          have := at_any (HFB.out.below hW (Nat.le_refl _)) HRB.out (by have := HLNB.out; omega) (bs xp)
          rw [bs_list, ← hrk, ← hrs, fls_length, ← HLNB.out] at this
          exact this)
        have HSN : Hid (∀ s, (if (Disk.cls b) (xp, ⟨xd, xt⟩) == 1 then [Disk.unl (xp, ⟨xd, xt⟩)] else []) = s → X ++ s = D0 ++ ((Disk.pick (Disk.cls b) 1 Disk.unl (a.drop i)).reverse)) := Lib.hid (fun s hs => by
          rw [HX.out, ← hs, List.append_assoc]
          exact congrArg (D0 ++ ·) (Disk.pick_down _ _ _ HL.out))
        have HCL : Hid (((Disk.cls b) (xp, ⟨xd, xt⟩) == 1) = (!xd && (rk != 1))) := Lib.hid (by rw [hrk]; exact Disk.cls_unl b xp xd xt)
        clear hf hbc hrk hrs
        cases xd
        · by_cases hk : rk = 1
          · have hk1 : (rk != 1) = false := by rw [bne_eq_false_iff_eq]; exact hk
            have HS := Lib.hid (HSN.out [] (by rw [HCL.out, hk1]; rfl))
            clear hk
            go_wp2
            go_big_quiet ((go_at_call 35; exact Calls.quiet_of (HAT.out _ (bdrew HBR.out _))))
            go_wp2
            go_roundw
            case rel => exact ⟨i, X, _, rfl, rfl, by omega, by have := HS.out; rw [List.append_nil] at this; exact this, by have h := HROW.out; rw [HM.out] at h ⊢; exact own_drewN h _, bdrew HBR.out _⟩
            case measure => first | (simp [intOf]; done) | (simp [intOf]; omega)
          · have hk1 : (rk != 1) = true := by rw [bne_iff_ne]; exact hk
            have HS := Lib.hid (HSN.out [⟨1, xp, []⟩] (by rw [HCL.out, hk1]; rfl))
            clear hk
            go_wp2
            go_big_quiet ((go_at_call 35; exact Calls.quiet_of (HAT.out _ (bdrew HBR.out _))))
            go_wp2_with (first | (at_builtin; refine wpList_append_own_at _ rfl _ _ 23 rfl nB 33 i0 (.agg #[.int .i64 0, .string ByteArray.empty, .string ByteArray.empty]) 3 40 Tryd.underlying23 hi hz0 hz1 hz2 rfl (by decide) _ _ _ rfl (World.ownsRow.alloc (own_drewN HROW.out _) _) ⟨wo.heap.size, 0, none⟩ 1 1 [.int .i64 1, .string (bs xp), .string ByteArray.empty] rfl rfl (new_cells2 _ _ (by first | rfl | simp) _ _) (fun x hx => by simp at hx; rcases hx with rfl | rfl | rfl <;> rfl) (by unfold maxLen; omega) (by omega) (by simp; omega) ?_; intro v8 w8 hown8 hgrow8 _ hloc8))
            have HB8 := Lib.hid (((bdrew HBR.out _).alloc (by simp; omega) _).grown hgrow8 (by simp; omega) (fun g hg => (World.ownsRow.lt HROW.out g hg).1))
            have HO8 : Hid (DRow w8 nB v8 (X ++ [⟨1, xp, []⟩])) := Lib.hid (DRow.snoc hown8 HM.out.symm)
            obtain ⟨a8, c8, rfl⟩ := own_form hown8
            clear hown8 hgrow8 hloc8
            go_roundw
            case rel => exact ⟨i, _, _, rfl, rfl, by omega, HS.out, HO8.out, HB8.out⟩
            case measure => first | (simp [intOf]; done) | (simp [intOf]; omega)
        · have HS := Lib.hid (HSN.out [] (by rw [HCL.out]; rfl))
          go_wp2
          go_big_quiet ((go_at_call 35; exact Calls.quiet_of (HAT.out _ (bdrew HBR.out _))))
          go_wp2
          go_roundw
          case rel => exact ⟨i, X, _, rfl, rfl, by omega, by have := HS.out; rw [List.append_nil] at this; exact this, by have h := HROW.out; rw [HM.out] at h ⊢; exact own_drewN h _, bdrew HBR.out _⟩
          case measure => first | (simp [intOf]; done) | (simp [intOf]; omega)
      · obtain rfl : j = 0 := by omega
        have HEND : Hid (X = D0 ++ (Disk.pick (Disk.cls b) 1 Disk.unl a).reverse) := Lib.hid (by
          rw [HX.out, List.drop_zero])
        have hge : ¬ (0 : Int) ≤ ((0 : Nat) : Int) - 1 := by omega
        have hDL : X.length ≤ D0.length + a.length := by
          rw [HEND.out, List.length_append]
          have := Disk.pick_le (Disk.cls b) 1 Disk.unl a
          try simp only [List.length_reverse] at this ⊢
          omega
        have HDL1 : Hid (X.length ≤ 1 * 1048576) := Lib.hid (by
          have := HDL0.out
          have := HLNA.out
          omega)
        have HD1 : Hid (DRow wo nB (.slice av M cv) X) := Lib.hid (by have := HROW.out; rw [HM.out] at this ⊢; exact this)
        have HB1 := HBR
        have HE1 := HEND
        obtain ⟨D1, hD1⟩ : ∃ D, D = X := ⟨_, rfl⟩
        rw [← hD1] at HD1 HE1 HDL1
        clear hDL HX HEND HROW HBR hD1 HM
        go_wp2
        try clear hge pa pb hzr hMl
        try clear ihL1
        go_loopw [12, 16] (fun q p wr => ∃ (j : Nat) (X : List Disk.Dd) (vv : Value), vv = q ∧ p = .int .i64 ((j : Int) - 1) ∧ j ≤ Na ∧ X = D1 ++ ((Disk.pick (Disk.cls b) 2 Disk.rmd (a.drop j)).reverse) ∧ DRow wr nB vv X ∧ Below nB wB wr) (fun _ p _ => (intOf p + 1).toNat)
        case atStart => exact ⟨Na, D1, _, rfl, rfl, by omega, by have := HLNA.out; rw [List.drop_of_length_le (by omega)]; simp [Disk.pick], HD1.out, HB1.out⟩
        case round =>
          rename_i ihL2
          obtain ⟨j, X, v, rfl, rfl, hj, hX, hrow, hBr⟩ := hrel
          obtain ⟨wo, rfl⟩ : ∃ x, x = wr := ⟨wr, rfl⟩
          have hzr := hBr.size
          have hXl : X.length ≤ D1.length + a.length := by
            rw [hX, List.length_append]
            have := Disk.pick_le (Disk.cls b) 2 Disk.rmd (a.drop j)
            simp only [List.length_reverse, List.length_drop, List.length_take] at this ⊢
            omega
          have HX := Lib.hid hX
          obtain ⟨av, cv, rfl⟩ := own_form hrow
          obtain ⟨M, hM⟩ : ∃ M, M = X.length := ⟨_, rfl⟩
          have HROW : Hid (World.ownsRow wo nB 33 3 (.slice av M cv) M (X.flatMap ddCells)) := Lib.hid (by rw [hM]; exact hrow)
          have hMl : M ≤ 8388608 := by
            have h1 := HLNA.out
            have h2 := HDL1.out
            rw [hM]
            omega
          rw [← hM]
          have HM := Lib.hid hM
          have HBR := Lib.hid hBr
          clear hX hrow hXl hM hBr
          have pa := HBR.out.cell (p := ⟨ra, 0, none⟩) (by show ra < nB; omega)
          have pb := HBR.out.cell (p := ⟨rb, 0, none⟩) (by show rb < nB; omega)
          rw [ca0] at pa
          rw [cb0] at pb
          by_cases hjN : 0 < j
          · obtain ⟨i, rfl⟩ : ∃ i, j = i + 1 := ⟨j - 1, by omega⟩
            have ej : (((i + 1 : Nat) : Int) - 1) = (i : Int) := by omega
            rw [ej]
            clear ej
            have hge : (0 : Int) ≤ (i : Int) := by omega
            have wj : IntKind.i64.wrap ((i : Int) - 1) = (i : Int) - 1 := IntWalk.i64_in _ (by omega)
            obtain ⟨f, hf⟩ : ∃ f, (fls a)[i]? = some f := ⟨_, List.getElem?_eq_getElem (by have := HLNA.out; rw [fls_length]; omega)⟩
            obtain ⟨bk, o, cap, hve, hbB, hbc⟩ := HFA.out.at (by have := HLNA.out; rw [fls_length]; omega)
            rw [fls_length, ← HLNA.out] at hve
            cases hve
            obtain ⟨e1, e2, e3⟩ := hbc i f hf
            rw [← HBR.out.cell (p := ⟨bk, o + i * 3, none⟩) (by show bk < nB; omega)] at e1
            rw [← HBR.out.cell (p := ⟨bk, o + i * 3 + 1, none⟩) (by show bk < nB; omega)] at e2
            rw [← HBR.out.cell (p := ⟨bk, o + i * 3 + 2, none⟩) (by show bk < nB; omega)] at e3
            have HL := Lib.hid (fls_at hf)
            obtain ⟨xp, xd, xt⟩ := f
            dsimp only at e1 e2 e3 HL
            have hidx : (i : Int) < (Na : Int) := by omega
            have hidN : i < Na := by omega
            obtain ⟨rk, hrk⟩ : ∃ k, k = (atRes (SM.look b xp)).1 := ⟨_, rfl⟩
            obtain ⟨rs, hrs⟩ : ∃ k, k = (atRes (SM.look b xp)).2 := ⟨_, rfl⟩
            have HAT : Hid (∀ W, Below nB wB W → Calls Tryd.prog 35 #[.slice ab Nb cb, .string (bs xp)] W fun e w' => e = .returned (.tuple #[.int .i64 rk, .string (bs rs)]) ∧ ∃ m, w' = W.drewN m) := Lib.hid (fun W hW => by
              have := at_any (HFB.out.below hW (Nat.le_refl _)) HRB.out (by have := HLNB.out; omega) (bs xp)
              rw [bs_list, ← hrk, ← hrs, fls_length, ← HLNB.out] at this
              exact this)
            have HSN : Hid (∀ s, (if (Disk.cls b) (xp, ⟨xd, xt⟩) == 2 then [Disk.rmd (xp, ⟨xd, xt⟩)] else []) = s → X ++ s = D1 ++ ((Disk.pick (Disk.cls b) 2 Disk.rmd (a.drop i)).reverse)) := Lib.hid (fun s hs => by
              rw [HX.out, ← hs, List.append_assoc]
              exact congrArg (D1 ++ ·) (Disk.pick_down _ _ _ HL.out))
            have HCL : Hid (((Disk.cls b) (xp, ⟨xd, xt⟩) == 2) = (xd && (rk != 2))) := Lib.hid (by rw [hrk]; exact Disk.cls_rmd b xp xd xt)
            clear hf hbc hrk hrs
            cases xd
            · have HS := Lib.hid (HSN.out [] (by rw [HCL.out]; rfl))
              go_wp2
              go_big_quiet ((go_at_call 35; exact Calls.quiet_of (HAT.out _ (bdrew HBR.out _))))
              go_wp2
              go_roundw
              case rel => exact ⟨i, X, _, rfl, rfl, by omega, by have := HS.out; rw [List.append_nil] at this; exact this, by have h := HROW.out; rw [HM.out] at h ⊢; exact own_drewN h _, bdrew HBR.out _⟩
              case measure => first | (simp [intOf]; done) | (simp [intOf]; omega)
            · by_cases hk : rk = 2
              · have hk1 : (rk != 2) = false := by rw [bne_eq_false_iff_eq]; exact hk
                have HS := Lib.hid (HSN.out [] (by rw [HCL.out, hk1]; rfl))
                clear hk
                go_wp2
                go_big_quiet ((go_at_call 35; exact Calls.quiet_of (HAT.out _ (bdrew HBR.out _))))
                go_wp2
                go_roundw
                case rel => exact ⟨i, X, _, rfl, rfl, by omega, by have := HS.out; rw [List.append_nil] at this; exact this, by have h := HROW.out; rw [HM.out] at h ⊢; exact own_drewN h _, bdrew HBR.out _⟩
                case measure => first | (simp [intOf]; done) | (simp [intOf]; omega)
              · have hk1 : (rk != 2) = true := by rw [bne_iff_ne]; exact hk
                have HS := Lib.hid (HSN.out [⟨2, xp, []⟩] (by rw [HCL.out, hk1]; rfl))
                clear hk
                go_wp2
                go_big_quiet ((go_at_call 35; exact Calls.quiet_of (HAT.out _ (bdrew HBR.out _))))
                go_wp2_with (first | (at_builtin; refine wpList_append_own_at _ rfl _ _ 23 rfl nB 33 i0 (.agg #[.int .i64 0, .string ByteArray.empty, .string ByteArray.empty]) 3 40 Tryd.underlying23 hi hz0 hz1 hz2 rfl (by decide) _ _ _ rfl (World.ownsRow.alloc (own_drewN HROW.out _) _) ⟨wo.heap.size, 0, none⟩ 1 1 [.int .i64 2, .string (bs xp), .string ByteArray.empty] rfl rfl (new_cells2 _ _ (by first | rfl | simp) _ _) (fun x hx => by simp at hx; rcases hx with rfl | rfl | rfl <;> rfl) (by unfold maxLen; omega) (by omega) (by simp; omega) ?_; intro v8 w8 hown8 hgrow8 _ hloc8))
                have HB8 := Lib.hid (((bdrew HBR.out _).alloc (by simp; omega) _).grown hgrow8 (by simp; omega) (fun g hg => (World.ownsRow.lt HROW.out g hg).1))
                have HO8 : Hid (DRow w8 nB v8 (X ++ [⟨2, xp, []⟩])) := Lib.hid (DRow.snoc hown8 HM.out.symm)
                obtain ⟨a8, c8, rfl⟩ := own_form hown8
                clear hown8 hgrow8 hloc8
                go_roundw
                case rel => exact ⟨i, _, _, rfl, rfl, by omega, HS.out, HO8.out, HB8.out⟩
                case measure => first | (simp [intOf]; done) | (simp [intOf]; omega)
          · obtain rfl : j = 0 := by omega
            have HEND : Hid (X = D1 ++ (Disk.pick (Disk.cls b) 2 Disk.rmd a).reverse) := Lib.hid (by
              rw [HX.out, List.drop_zero])
            have hge : ¬ (0 : Int) ≤ ((0 : Nat) : Int) - 1 := by omega
            have hDL : X.length ≤ D1.length + a.length := by
              rw [HEND.out, List.length_append]
              have := Disk.pick_le (Disk.cls b) 2 Disk.rmd a
              try simp only [List.length_reverse] at this ⊢
              omega
            have HDL2 : Hid (X.length ≤ 2 * 1048576) := Lib.hid (by
              have := HDL1.out
              have := HLNA.out
              omega)
            have HD2 : Hid (DRow wo nB (.slice av M cv) X) := Lib.hid (by have := HROW.out; rw [HM.out] at this ⊢; exact this)
            have HB2 := HBR
            have HE2 := HEND
            obtain ⟨D2, hD2⟩ : ∃ D, D = X := ⟨_, rfl⟩
            rw [← hD2] at HD2 HE2 HDL2
            clear hDL HX HEND HROW HBR hD2 HM
            go_wp2
            try clear hge pa pb hzr hMl
            try clear ihL2
            go_loopw [12, 19] (fun q p wr => ∃ (j : Nat) (X : List Disk.Dd) (vv : Value), vv = q ∧ p = .int .i64 j ∧ j ≤ Nb ∧ X = D2 ++ (Disk.pick (Disk.cls2 a) 3 Disk.mkd (b.take j)) ∧ DRow wr nB vv X ∧ Below nB wB wr) (fun _ p _ => Nb - (intOf p).toNat)
            case atStart => exact ⟨0, D2, _, rfl, rfl, by omega, by simp [Disk.pick], HD2.out, HB2.out⟩
            case round =>
              rename_i ihL3
              obtain ⟨j, X, v, rfl, rfl, hj, hX, hrow, hBr⟩ := hrel
              obtain ⟨wo, rfl⟩ : ∃ x, x = wr := ⟨wr, rfl⟩
              have hzr := hBr.size
              have hXl : X.length ≤ D2.length + b.length := by
                rw [hX, List.length_append]
                have := Disk.pick_le (Disk.cls2 a) 3 Disk.mkd (b.take j)
                simp only [List.length_reverse, List.length_drop, List.length_take] at this ⊢
                omega
              have HX := Lib.hid hX
              obtain ⟨av, cv, rfl⟩ := own_form hrow
              obtain ⟨M, hM⟩ : ∃ M, M = X.length := ⟨_, rfl⟩
              have HROW : Hid (World.ownsRow wo nB 33 3 (.slice av M cv) M (X.flatMap ddCells)) := Lib.hid (by rw [hM]; exact hrow)
              have hMl : M ≤ 8388608 := by
                have h1 := HLNB.out
                have h2 := HDL2.out
                rw [hM]
                omega
              rw [← hM]
              have HM := Lib.hid hM
              have HBR := Lib.hid hBr
              clear hX hrow hXl hM hBr
              have pa := HBR.out.cell (p := ⟨ra, 0, none⟩) (by show ra < nB; omega)
              have pb := HBR.out.cell (p := ⟨rb, 0, none⟩) (by show rb < nB; omega)
              rw [ca0] at pa
              rw [cb0] at pb
              by_cases hjN : j < Nb
              · have hge : (j : Int) < (Nb : Int) := by omega
                obtain ⟨f, hf⟩ : ∃ f, (fls b)[j]? = some f := ⟨_, List.getElem?_eq_getElem (by have := HLNB.out; rw [fls_length]; omega)⟩
                obtain ⟨bk, o, cap, hve, hbB, hbc⟩ := HFB.out.at (by have := HLNB.out; rw [fls_length]; omega)
                rw [fls_length, ← HLNB.out] at hve
                cases hve
                obtain ⟨e1, e2, e3⟩ := hbc j f hf
                rw [← HBR.out.cell (p := ⟨bk, o + j * 3, none⟩) (by show bk < nB; omega)] at e1
                rw [← HBR.out.cell (p := ⟨bk, o + j * 3 + 1, none⟩) (by show bk < nB; omega)] at e2
                rw [← HBR.out.cell (p := ⟨bk, o + j * 3 + 2, none⟩) (by show bk < nB; omega)] at e3
                have HL := Lib.hid (fls_at hf)
                obtain ⟨xp, xd, xt⟩ := f
                dsimp only at e1 e2 e3 HL
                have hidx : (j : Int) < (Nb : Int) := by omega
                have hidN : j < Nb := by omega
                obtain ⟨rk, hrk⟩ : ∃ k, k = (atRes (SM.look a xp)).1 := ⟨_, rfl⟩
                obtain ⟨rs, hrs⟩ : ∃ k, k = (atRes (SM.look a xp)).2 := ⟨_, rfl⟩
                have HAT : Hid (∀ W, Below nB wB W → Calls Tryd.prog 35 #[.slice aa Na ca, .string (bs xp)] W fun e w' => e = .returned (.tuple #[.int .i64 rk, .string (bs rs)]) ∧ ∃ m, w' = W.drewN m) := Lib.hid (fun W hW => by
                  have := at_any (HFA.out.below hW (Nat.le_refl _)) HRA.out (by have := HLNA.out; omega) (bs xp)
                  rw [bs_list, ← hrk, ← hrs, fls_length, ← HLNA.out] at this
                  exact this)
                have HSN : Hid (∀ s, (if (Disk.cls2 a) (xp, ⟨xd, xt⟩) == 3 then [Disk.mkd (xp, ⟨xd, xt⟩)] else []) = s → X ++ s = D2 ++ (Disk.pick (Disk.cls2 a) 3 Disk.mkd (b.take (j + 1)))) := Lib.hid (fun s hs => by
                  rw [HX.out, ← hs, List.append_assoc]
                  exact congrArg (D2 ++ ·) (Disk.pick_up _ _ _ HL.out))
                have HCL : Hid (((Disk.cls2 a) (xp, ⟨xd, xt⟩) == 3) = (xd && (rk != 2))) := Lib.hid (by rw [hrk]; exact Disk.cls_mkd HDA.out (HDB.out _ (List.mem_of_getElem? HL.out)))
                clear hf hbc hrk hrs
                cases xd
                · have HS := Lib.hid (HSN.out [] (by rw [HCL.out]; rfl))
                  go_wp2
                  go_big_quiet ((go_at_call 35; exact Calls.quiet_of (HAT.out _ (bdrew HBR.out _))))
                  go_wp2
                  go_roundw
                  case rel => exact ⟨j + 1, X, _, rfl, by go_num, by omega, by have := HS.out; rw [List.append_nil] at this; exact this, by have h := HROW.out; rw [HM.out] at h ⊢; exact own_drewN h _, bdrew HBR.out _⟩
                  case measure => first | (simp [intOf]; done) | (simp [intOf]; omega)
                · by_cases hk : rk = 2
                  · have hk1 : (rk != 2) = false := by rw [bne_eq_false_iff_eq]; exact hk
                    have HS := Lib.hid (HSN.out [] (by rw [HCL.out, hk1]; rfl))
                    clear hk
                    go_wp2
                    go_big_quiet ((go_at_call 35; exact Calls.quiet_of (HAT.out _ (bdrew HBR.out _))))
                    go_wp2
                    go_roundw
                    case rel => exact ⟨j + 1, X, _, rfl, by go_num, by omega, by have := HS.out; rw [List.append_nil] at this; exact this, by have h := HROW.out; rw [HM.out] at h ⊢; exact own_drewN h _, bdrew HBR.out _⟩
                    case measure => first | (simp [intOf]; done) | (simp [intOf]; omega)
                  · have hk1 : (rk != 2) = true := by rw [bne_iff_ne]; exact hk
                    have HS := Lib.hid (HSN.out [⟨3, xp, []⟩] (by rw [HCL.out, hk1]; rfl))
                    clear hk
                    go_wp2
                    go_big_quiet ((go_at_call 35; exact Calls.quiet_of (HAT.out _ (bdrew HBR.out _))))
                    go_wp2_with (first | (at_builtin; refine wpList_append_own_at _ rfl _ _ 23 rfl nB 33 i0 (.agg #[.int .i64 0, .string ByteArray.empty, .string ByteArray.empty]) 3 40 Tryd.underlying23 hi hz0 hz1 hz2 rfl (by decide) _ _ _ rfl (World.ownsRow.alloc (own_drewN HROW.out _) _) ⟨wo.heap.size, 0, none⟩ 1 1 [.int .i64 3, .string (bs xp), .string ByteArray.empty] rfl rfl (new_cells2 _ _ (by first | rfl | simp) _ _) (fun x hx => by simp at hx; rcases hx with rfl | rfl | rfl <;> rfl) (by unfold maxLen; omega) (by omega) (by simp; omega) ?_; intro v8 w8 hown8 hgrow8 _ hloc8))
                    have HB8 := Lib.hid (((bdrew HBR.out _).alloc (by simp; omega) _).grown hgrow8 (by simp; omega) (fun g hg => (World.ownsRow.lt HROW.out g hg).1))
                    have HO8 : Hid (DRow w8 nB v8 (X ++ [⟨3, xp, []⟩])) := Lib.hid (DRow.snoc hown8 HM.out.symm)
                    obtain ⟨a8, c8, rfl⟩ := own_form hown8
                    clear hown8 hgrow8 hloc8
                    go_roundw
                    case rel => exact ⟨j + 1, _, _, rfl, by go_num, by omega, HS.out, HO8.out, HB8.out⟩
                    case measure => first | (simp [intOf]; done) | (simp [intOf]; omega)
              · obtain rfl : Nb = j := by omega
                have HEND : Hid (X = D2 ++ Disk.pick (Disk.cls2 a) 3 Disk.mkd b) := Lib.hid (by
                  rw [HX.out, List.take_of_length_le (by have := HLNB.out; omega)])
                have hge : ¬ ((Nb : Int) < (Nb : Int)) := by omega
                have hDL : X.length ≤ D2.length + b.length := by
                  rw [HEND.out, List.length_append]
                  have := Disk.pick_le (Disk.cls2 a) 3 Disk.mkd b
                  try simp only [List.length_reverse] at this ⊢
                  omega
                have HDL3 : Hid (X.length ≤ 3 * 1048576) := Lib.hid (by
                  have := HDL2.out
                  have := HLNB.out
                  omega)
                have HD3 : Hid (DRow wo nB (.slice av M cv) X) := Lib.hid (by have := HROW.out; rw [HM.out] at this ⊢; exact this)
                have HB3 := HBR
                have HE3 := HEND
                obtain ⟨D3, hD3⟩ : ∃ D, D = X := ⟨_, rfl⟩
                rw [← hD3] at HD3 HE3 HDL3
                clear hDL HX HEND HROW HBR hD3 HM
                go_wp2
                try clear hge pa pb hzr hMl
                try clear ihL3
                go_loopw [12, 22] (fun q p wr => ∃ (j : Nat) (X : List Disk.Dd) (vv : Value), vv = q ∧ p = .int .i64 j ∧ j ≤ Nb ∧ X = D3 ++ (Disk.pick (Disk.cls2 a) 4 Disk.putd (b.take j)) ∧ DRow wr nB vv X ∧ Below nB wB wr) (fun _ p _ => Nb - (intOf p).toNat)
                case atStart => exact ⟨0, D3, _, rfl, rfl, by omega, by simp [Disk.pick], HD3.out, HB3.out⟩
                case round =>
                  rename_i ihL4
                  obtain ⟨j, X, v, rfl, rfl, hj, hX, hrow, hBr⟩ := hrel
                  obtain ⟨wo, rfl⟩ : ∃ x, x = wr := ⟨wr, rfl⟩
                  have hzr := hBr.size
                  have hXl : X.length ≤ D3.length + b.length := by
                    rw [hX, List.length_append]
                    have := Disk.pick_le (Disk.cls2 a) 4 Disk.putd (b.take j)
                    simp only [List.length_reverse, List.length_drop, List.length_take] at this ⊢
                    omega
                  have HX := Lib.hid hX
                  obtain ⟨av, cv, rfl⟩ := own_form hrow
                  obtain ⟨M, hM⟩ : ∃ M, M = X.length := ⟨_, rfl⟩
                  have HROW : Hid (World.ownsRow wo nB 33 3 (.slice av M cv) M (X.flatMap ddCells)) := Lib.hid (by rw [hM]; exact hrow)
                  have hMl : M ≤ 8388608 := by
                    have h1 := HLNB.out
                    have h2 := HDL3.out
                    rw [hM]
                    omega
                  rw [← hM]
                  have HM := Lib.hid hM
                  have HBR := Lib.hid hBr
                  clear hX hrow hXl hM hBr
                  have pa := HBR.out.cell (p := ⟨ra, 0, none⟩) (by show ra < nB; omega)
                  have pb := HBR.out.cell (p := ⟨rb, 0, none⟩) (by show rb < nB; omega)
                  rw [ca0] at pa
                  rw [cb0] at pb
                  by_cases hjN : j < Nb
                  · have hge : (j : Int) < (Nb : Int) := by omega
                    obtain ⟨f, hf⟩ : ∃ f, (fls b)[j]? = some f := ⟨_, List.getElem?_eq_getElem (by have := HLNB.out; rw [fls_length]; omega)⟩
                    obtain ⟨bk, o, cap, hve, hbB, hbc⟩ := HFB.out.at (by have := HLNB.out; rw [fls_length]; omega)
                    rw [fls_length, ← HLNB.out] at hve
                    cases hve
                    obtain ⟨e1, e2, e3⟩ := hbc j f hf
                    rw [← HBR.out.cell (p := ⟨bk, o + j * 3, none⟩) (by show bk < nB; omega)] at e1
                    rw [← HBR.out.cell (p := ⟨bk, o + j * 3 + 1, none⟩) (by show bk < nB; omega)] at e2
                    rw [← HBR.out.cell (p := ⟨bk, o + j * 3 + 2, none⟩) (by show bk < nB; omega)] at e3
                    have HL := Lib.hid (fls_at hf)
                    obtain ⟨xp, xd, xt⟩ := f
                    dsimp only at e1 e2 e3 HL
                    have hidx : (j : Int) < (Nb : Int) := by omega
                    have hidN : j < Nb := by omega
                    obtain ⟨rk, hrk⟩ : ∃ k, k = (atRes (SM.look a xp)).1 := ⟨_, rfl⟩
                    obtain ⟨rs, hrs⟩ : ∃ k, k = (atRes (SM.look a xp)).2 := ⟨_, rfl⟩
                    have HAT : Hid (∀ W, Below nB wB W → Calls Tryd.prog 35 #[.slice aa Na ca, .string (bs xp)] W fun e w' => e = .returned (.tuple #[.int .i64 rk, .string (bs rs)]) ∧ ∃ m, w' = W.drewN m) := Lib.hid (fun W hW => by
                      have := at_any (HFA.out.below hW (Nat.le_refl _)) HRA.out (by have := HLNA.out; omega) (bs xp)
                      rw [bs_list, ← hrk, ← hrs, fls_length, ← HLNA.out] at this
                      exact this)
                    have HSN : Hid (∀ s, (if (Disk.cls2 a) (xp, ⟨xd, xt⟩) == 4 then [Disk.putd (xp, ⟨xd, xt⟩)] else []) = s → X ++ s = D3 ++ (Disk.pick (Disk.cls2 a) 4 Disk.putd (b.take (j + 1)))) := Lib.hid (fun s hs => by
                      rw [HX.out, ← hs, List.append_assoc]
                      exact congrArg (D3 ++ ·) (Disk.pick_up _ _ _ HL.out))
                    have HCL : Hid (((Disk.cls2 a) (xp, ⟨xd, xt⟩) == 4) = (!xd && ((rk != 1) || !decide (rs = xt)))) := Lib.hid (by rw [hrk, hrs]; exact Disk.cls_putd a xp xd xt)
                    clear hf hbc hrk hrs
                    cases xd
                    · have hq := sv_inj (a := rs) (b := xt)
                      by_cases hk : rk = 1
                      · have hk1 : (rk != 1) = false := by rw [bne_eq_false_iff_eq]; exact hk
                        by_cases hs : rs = xt
                        · rw [decide_eq_true hs] at hq
                          have HS := Lib.hid (HSN.out [] (by rw [HCL.out, hk1, decide_eq_true hs]; rfl))
                          clear hk hs
                          go_wp2
                          go_big_quiet ((go_at_call 35; exact Calls.quiet_of (HAT.out _ (bdrew HBR.out _))))
                          go_wp2
                          go_roundw
                          case rel => exact ⟨j + 1, X, _, rfl, by go_num, by omega, by have := HS.out; rw [List.append_nil] at this; exact this, by have h := HROW.out; rw [HM.out] at h ⊢; exact own_drewN h _, bdrew HBR.out _⟩
                          case measure => first | (simp [intOf]; done) | (simp [intOf]; omega)
                        · rw [decide_eq_false hs] at hq
                          have HS := Lib.hid (HSN.out [⟨4, xp, xt⟩] (by rw [HCL.out, hk1, decide_eq_false hs]; rfl))
                          clear hk hs
                          go_wp2
                          go_big_quiet ((go_at_call 35; exact Calls.quiet_of (HAT.out _ (bdrew HBR.out _))))
                          clear RD HD0 HE0 HDL0 HB0 HD1 HE1 HDL1 HB1 HD2 HE2 HDL2 HB2 HD3 HE3 HDL3 HB3 HRA HRB HDA HDB HFA HFB HRES HNO HR1 HR2 HP1 HP2 HL1 HL2 HC1 HC2 BAD HLA HLB HNN HLNA HLNB HNB wa ca0 pa HAT HSN HCL HL
                          go_wp2
                          rename_i k7 x2 o2 v2 cc2 m2 hj2 hjn2 q3 k6 A3 k5 x1 o1 v1 cc1 m1 hj1 hjn1 q2 k4 A2 k3 x0 o0 v0 cc0 m0 hj0 hjn0 q1 k2 A1 k1 q k A
                          clear A3 A2 A1
                          clear hjn2 hjn1 hjn0 hj2 hj1 hj0 e2 hq hk1
                          have HA := Lib.hid A
                          have HIH := Lib.hid ihL4
                          clear A ihL4
                          have KA : Hid (∀ (W : World) (ob : Obj), W.heap = wo.heap → (W.alloc ob).cell? ⟨rb, 0, none⟩ = some (.slice (some ⟨bk, o, none⟩) Nb cb) ∧ (W.alloc ob).cell? ⟨bk, o + j * 3, none⟩ = some (.string (bs xp)) ∧ (W.alloc ob).cell? ⟨bk, o + j * 3 + 2, none⟩ = some (.string (bs xt))) := Lib.hid (fun W ob hW => by
                            have hc : ∀ b k, b < nB → (W.alloc ob).cell? ⟨b, k, none⟩ = wo.cell? ⟨b, k, none⟩ := fun b k h => by
                              rw [World.cell?_alloc_lt _ _ _ (by show b < W.heap.size; rw [hW]; omega)]
                              unfold World.cell?
                              dsimp only
                              rw [hW]
                            rw [hc _ _ hrbl, hc _ _ hbB, hc _ _ hbB]
                            exact ⟨pb, e1, e3⟩)
                          have HF : Hid (∀ W, Below nB wB W → W.cell? ⟨rb, 0, none⟩ = some (.slice (some ⟨bk, o, none⟩) Nb cb) ∧ W.cell? ⟨bk, o + j * 3, none⟩ = some (.string (bs xp)) ∧ W.cell? ⟨bk, o + j * 3 + 2, none⟩ = some (.string (bs xt))) := Lib.hid (fun W hW => by
                            have hc : ∀ b k, b < nB → W.cell? ⟨b, k, none⟩ = wo.cell? ⟨b, k, none⟩ := fun b k h => (hW.cell (p := ⟨b, k, none⟩) h).trans (HBR.out.cell (p := ⟨b, k, none⟩) h).symm
                            rw [hc _ _ hrbl, hc _ _ hbB, hc _ _ hbB]
                            exact ⟨pb, e1, e3⟩)
                          clear cb0 hzr
                          go_region_held3 (fun w' => w'.cell? ⟨rb, 0, none⟩ = some (.slice (some ⟨bk, o, none⟩) Nb cb) ∧ w'.cell? ⟨bk, o + j * 3, none⟩ = some (.string (bs xp)) ∧ w'.cell? ⟨bk, o + j * 3 + 2, none⟩ = some (.string (bs xt))) (first | exact ⟨pb, e1, e3⟩ | exact KA.out _ _ rfl | exact hF8) (first
                            | (refine app_deed31 (T := 23) rfl (.tmp 253) (.tmp 271) rfl Tryd.underlying23 hi hz0 hz1 hz2 rfl rfl rfl rfl rfl rfl HROW.out HBR.out hsB hMl ?_; intro gg cap8 w8 hown8 hb8; have hF8 := HF.out _ hb8))
                          all_goals
                            have ihL4 := HIH.out
                            have A := HA.out
                            go_wp2
                            go_roundw
                            case rel => exact ⟨j + 1, _, _, rfl, by go_num, by omega, HS.out, DRow.snoc (d := ⟨4, xp, xt⟩) hown8 HM.out.symm, hb8⟩
                            case measure => first | (simp [intOf]; done) | (simp [intOf]; omega)
                      · have hk1 : (rk != 1) = true := by rw [bne_iff_ne]; exact hk
                        have HS := Lib.hid (HSN.out [⟨4, xp, xt⟩] (by rw [HCL.out, hk1]; rfl))
                        clear hk
                        go_wp2
                        go_big_quiet ((go_at_call 35; exact Calls.quiet_of (HAT.out _ (bdrew HBR.out _))))
                        clear RD HD0 HE0 HDL0 HB0 HD1 HE1 HDL1 HB1 HD2 HE2 HDL2 HB2 HD3 HE3 HDL3 HB3 HRA HRB HDA HDB HFA HFB HRES HNO HR1 HR2 HP1 HP2 HL1 HL2 HC1 HC2 BAD HLA HLB HNN HLNA HLNB HNB wa ca0 pa HAT HSN HCL HL
                        go_wp2
                        rename_i k7 x2 o2 v2 cc2 m2 hj2 hjn2 q3 k6 A3 k5 x1 o1 v1 cc1 m1 hj1 hjn1 q2 k4 A2 k3 x0 o0 v0 cc0 m0 hj0 hjn0 q1 k2 A1 k1 q k A
                        clear A3 A2 A1
                        clear hjn2 hjn1 hjn0 hj2 hj1 hj0 e2 hq hk1
                        have HA := Lib.hid A
                        have HIH := Lib.hid ihL4
                        clear A ihL4
                        have KA : Hid (∀ (W : World) (ob : Obj), W.heap = wo.heap → (W.alloc ob).cell? ⟨rb, 0, none⟩ = some (.slice (some ⟨bk, o, none⟩) Nb cb) ∧ (W.alloc ob).cell? ⟨bk, o + j * 3, none⟩ = some (.string (bs xp)) ∧ (W.alloc ob).cell? ⟨bk, o + j * 3 + 2, none⟩ = some (.string (bs xt))) := Lib.hid (fun W ob hW => by
                          have hc : ∀ b k, b < nB → (W.alloc ob).cell? ⟨b, k, none⟩ = wo.cell? ⟨b, k, none⟩ := fun b k h => by
                            rw [World.cell?_alloc_lt _ _ _ (by show b < W.heap.size; rw [hW]; omega)]
                            unfold World.cell?
                            dsimp only
                            rw [hW]
                          rw [hc _ _ hrbl, hc _ _ hbB, hc _ _ hbB]
                          exact ⟨pb, e1, e3⟩)
                        have HF : Hid (∀ W, Below nB wB W → W.cell? ⟨rb, 0, none⟩ = some (.slice (some ⟨bk, o, none⟩) Nb cb) ∧ W.cell? ⟨bk, o + j * 3, none⟩ = some (.string (bs xp)) ∧ W.cell? ⟨bk, o + j * 3 + 2, none⟩ = some (.string (bs xt))) := Lib.hid (fun W hW => by
                          have hc : ∀ b k, b < nB → W.cell? ⟨b, k, none⟩ = wo.cell? ⟨b, k, none⟩ := fun b k h => (hW.cell (p := ⟨b, k, none⟩) h).trans (HBR.out.cell (p := ⟨b, k, none⟩) h).symm
                          rw [hc _ _ hrbl, hc _ _ hbB, hc _ _ hbB]
                          exact ⟨pb, e1, e3⟩)
                        clear cb0 hzr
                        go_region_held3 (fun w' => w'.cell? ⟨rb, 0, none⟩ = some (.slice (some ⟨bk, o, none⟩) Nb cb) ∧ w'.cell? ⟨bk, o + j * 3, none⟩ = some (.string (bs xp)) ∧ w'.cell? ⟨bk, o + j * 3 + 2, none⟩ = some (.string (bs xt))) (first | exact ⟨pb, e1, e3⟩ | exact KA.out _ _ rfl | exact hF8) (first
                          | (refine app_deed31 (T := 23) rfl (.tmp 253) (.tmp 271) rfl Tryd.underlying23 hi hz0 hz1 hz2 rfl rfl rfl rfl rfl rfl HROW.out HBR.out hsB hMl ?_; intro gg cap8 w8 hown8 hb8; have hF8 := HF.out _ hb8))
                        all_goals
                          have ihL4 := HIH.out
                          have A := HA.out
                          go_wp2
                          go_roundw
                          case rel => exact ⟨j + 1, _, _, rfl, by go_num, by omega, HS.out, DRow.snoc (d := ⟨4, xp, xt⟩) hown8 HM.out.symm, hb8⟩
                          case measure => first | (simp [intOf]; done) | (simp [intOf]; omega)
                    · have HS := Lib.hid (HSN.out [] (by rw [HCL.out]; rfl))
                      go_wp2
                      go_big_quiet ((go_at_call 35; exact Calls.quiet_of (HAT.out _ (bdrew HBR.out _))))
                      go_wp2
                      go_roundw
                      case rel => exact ⟨j + 1, X, _, rfl, by go_num, by omega, by have := HS.out; rw [List.append_nil] at this; exact this, by have h := HROW.out; rw [HM.out] at h ⊢; exact own_drewN h _, bdrew HBR.out _⟩
                      case measure => first | (simp [intOf]; done) | (simp [intOf]; omega)
                  · obtain rfl : Nb = j := by omega
                    have HEND : Hid (X = D3 ++ Disk.pick (Disk.cls2 a) 4 Disk.putd b) := Lib.hid (by
                      rw [HX.out, List.take_of_length_le (by have := HLNB.out; omega)])
                    have hge : ¬ ((Nb : Int) < (Nb : Int)) := by omega
                    have hDL : X.length ≤ D3.length + b.length := by
                      rw [HEND.out, List.length_append]
                      have := Disk.pick_le (Disk.cls2 a) 4 Disk.putd b
                      try simp only [List.length_reverse] at this ⊢
                      omega
                    have HDL4 : Hid (X.length ≤ 4 * 1048576) := Lib.hid (by
                      have := HDL3.out
                      have := HLNB.out
                      omega)
                    have HD4 : Hid (DRow wo nB (.slice av M cv) X) := Lib.hid (by have := HROW.out; rw [HM.out] at this ⊢; exact this)
                    have HB4 := HBR
                    have HE4 := HEND
                    obtain ⟨D4, hD4⟩ : ∃ D, D = X := ⟨_, rfl⟩
                    rw [← hD4] at HD4 HE4 HDL4
                    clear hDL HX HEND HROW HBR hD4 HM
                    go_wp2
                    go_returns
                    exact RD.out _ _ _ HD4.out HB4.out (by rw [HE4.out, HE3.out, HE2.out, HE1.out, HE0.out, List.nil_append, List.append_assoc, List.append_assoc]; rfl)




end Go.Proofs.YtnfklomokjhojaaDoor
