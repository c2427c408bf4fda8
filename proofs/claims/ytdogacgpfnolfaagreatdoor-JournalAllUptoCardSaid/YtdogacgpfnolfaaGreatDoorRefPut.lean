/- The document's disk: something is put at a path: the plain law and the walk. -/
import Derived.Test.YtdogacgpfnolfaaGreatDoorRefW2
import Derived.Test.YtdogacgpfnolfaaGreatDoorEq
import Derived.Test.YtdogacgpfnolfaaGreatDoorDkG
namespace Go.Proofs.YtdogacgpfnolfaaGreatDoor
open Go.RowKit
set_option linter.unusedSimpArgs false
set_option linter.unusedVariables false
namespace SM
variable {α : Type}
/-- One step of the document's put. -/
def putStep (p : List UInt8) (t : α) (s : Bool × List (List UInt8 × α)) (x : List UInt8 × α) : Bool × List (List UInt8 × α) :=
  if !bytesBefore x.1 p && !s.1 then (true, if x.1 = p then s.2 ++ [(p, t)] else s.2 ++ [(p, t)] ++ [x]) else (s.1, if x.1 = p then s.2 else s.2 ++ [x])
def putFin (p : List UInt8) (t : α) (s : Bool × List (List UInt8 × α)) : List (List UInt8 × α) := if s.1 then s.2 else s.2 ++ [(p, t)]
theorem del_cons (x : List UInt8 × α) (r : List (List UInt8 × α)) (p : List UInt8) : del (x :: r) p = if x.1 = p then del r p else x :: del r p := by
  unfold del
  rw [List.filter_cons]
  by_cases h : x.1 = p <;> simp [h]
theorem del_none {l : List (List UInt8 × α)} {p : List UInt8} (h : ∀ x ∈ l, x.1 ≠ p) : del l p = l := by
  unfold del
  rw [List.filter_eq_self]
  intro x hx
  simp [h x hx]
theorem put_done (p : List UInt8) (t : α) : ∀ (l acc : List (List UInt8 × α)), l.foldl (putStep p t) (true, acc) = (true, acc ++ del l p)
  | [], acc => by simp [del]
  | x :: r, acc => by
    rw [List.foldl_cons, del_cons]
    have e : putStep p t (true, acc) x = (true, if x.1 = p then acc else acc ++ [x]) := by unfold putStep; simp
    rw [e, put_done p t r]
    by_cases h : x.1 = p
    · rw [if_pos h, if_pos h]
    · rw [if_neg h, if_neg h]; simp
theorem put_go (p : List UInt8) (t : α) : ∀ (l acc : List (List UInt8 × α)), Rises l → putFin p t (l.foldl (putStep p t) (false, acc)) = acc ++ put l p t
  | [], acc, _ => by simp [putFin, put]
  | x :: r, acc, h => by
    have h1 := List.pairwise_cons.1 h
    rw [List.foldl_cons, put]
    cases hb : bytesBefore x.1 p
    · have hd : del r p = r := del_none fun y hy e => by
        have := h1.1 y hy
        rw [e] at this
        rw [this] at hb
        exact absurd hb (by simp)
      have e : putStep p t (false, acc) x = (true, if x.1 = p then acc ++ [(p, t)] else acc ++ [(p, t)] ++ [x]) := by unfold putStep; simp [hb]
      rw [e, put_done, hd]
      unfold putFin
      rw [if_pos rfl]
      by_cases hx : x.1 = p
      · subst hx
        rw [if_pos rfl, if_neg (by rw [WideAt.bytes_irrefl]; simp), if_pos rfl]; simp
      · rw [if_neg hx]
        rcases WideAt.bytes_total x.1 p hx with hh | hh
        · rw [hh] at hb; exact absurd hb (by simp)
        · rw [if_pos hh]; simp
    · have hx : x.1 ≠ p := before_ne hb
      have e : putStep p t (false, acc) x = (false, acc ++ [x]) := by unfold putStep; simp [hb, hx]
      rw [e, put_go p t r _ h1.2, if_neg (by rw [before_asymm hb]; simp), if_neg hx]
      simp
theorem put_law {l : List (List UInt8 × α)} (h : Rises l) (p : List UInt8) (t : α) (gone : Bool) : putFin p t (l.foldl (putStep p t) (gone, [])) = if gone then del l p else put l p t := by
  cases gone
  · rw [put_go p t l [] h]; rfl
  · rw [put_done]; rfl
end SM
theorem bless : ∀ (a b : List UInt8), Op.bytesLess a b = bytesBefore a b
  | [], [] => rfl
  | [], _ :: _ => rfl
  | _ :: _, [] => rfl
  | a :: r, b :: s => by
    rw [Op.bytesLess, bytesBefore, bless r s]
def flCells (d : Disk.Fl) : List Value := [.string (bs d.path), .bool d.dir, .string (bs d.data)]
theorem infoFl : (Tryz.prog.info? 70).map (fun i => (i.zero, i.size, i.bytes)) = some (some (.agg #[.string ByteArray.empty, .bool false, .string ByteArray.empty]), 3, 40) := by kernel_rfl
/-- A row of files of the call's own. -/
abbrev FRow (w : World) (base : Nat) (v : Value) (ds : List Disk.Fl) : Prop := w.ownsRow base 70 3 v ds.length (ds.flatMap flCells)
theorem flCells_at : ∀ (ds : List Disk.Fl) (i : Nat) (d : Disk.Fl), ds[i]? = some d → (ds.flatMap flCells)[i * 3]? = some (.string (bs d.path)) ∧ (ds.flatMap flCells)[i * 3 + 1]? = some (.bool d.dir) ∧ (ds.flatMap flCells)[i * 3 + 2]? = some (.string (bs d.data))
  | [], i, d, h => by simp at h
  | x :: r, 0, d, h => by simp at h; subst h; exact ⟨rfl, rfl, rfl⟩
  | x :: r, i + 1, d, h => by
    have ih := flCells_at r i d (by simpa using h)
    have e : ∀ j, ((x :: r).flatMap flCells)[j + 3]? = (r.flatMap flCells)[j]? := fun j => rfl
    rw [show (i + 1) * 3 = i * 3 + 3 by omega, show i * 3 + 3 + 1 = (i * 3 + 1) + 3 by omega, show i * 3 + 3 + 2 = (i * 3 + 2) + 3 by omega, e, e, e]
    exact ih
theorem FRow.files {w : World} {base : Nat} {v : Value} {ds : List Disk.Fl} (h : FRow w base v ds) : Files w w.heap.size v ds := by
  rcases h.2 with ⟨rfl, h0⟩ | ⟨g, cap, cur, rfl, hb, hg, hnc, _⟩
  · have : ds = [] := List.length_eq_zero_iff.1 h0
    subst this
    exact Files.nil _ _
  · have hgs : g < w.heap.size := (Array.getElem?_eq_some_iff.1 hg).1
    refine ⟨some ⟨g, 0, none⟩, cap, rfl, fun i d hd => ⟨g, 0, rfl, hgs, ?_⟩⟩
    have hi := (List.getElem?_eq_some_iff.1 hd).1
    obtain ⟨h1, h2, h3⟩ := flCells_at ds i d hd
    simp only [Nat.zero_add]
    exact ⟨by rw [World.ownsRow.cellAt h _ (by omega)]; exact h1, by rw [World.ownsRow.cellAt h _ (by omega)]; exact h2, by rw [World.ownsRow.cellAt h _ (by omega)]; exact h3⟩
theorem bdrew {B : Nat} {a w : World} (h : Below B a w) (q : Nat) : Below B a (w.drewN q) := ⟨h.os, h.tape, h.output, h.size, h.block⟩
theorem own_drewN {w : World} {b : Nat} {e : TypeId} {z : Nat} {v : Value} {n : Nat} {xs : List Value} (h : w.ownsRow b e z v n xs) (q : Nat) : (w.drewN q).ownsRow b e z v n xs := h
theorem FRow.drewN {w : World} {base : Nat} {v : Value} {ds : List Disk.Fl} (h : FRow w base v ds) (q : Nat) : FRow (w.drewN q) base v ds := h
theorem FRow.snoc {w : World} {base n : Nat} {v : Value} {ds : List Disk.Fl} {d : Disk.Fl} (h : w.ownsRow base 70 3 v (n + 1) (ds.flatMap flCells ++ flCells d)) (hn : ds.length = n) : FRow w base v (ds ++ [d]) := by
  show w.ownsRow base 70 3 v (ds ++ [d]).length ((ds ++ [d]).flatMap flCells)
  rw [List.length_append, hn, List.flatMap_append]
  simpa using h
theorem fls_snoc (l : Disk.M) (p : List UInt8) (t : Disk.T) : fls (l ++ [(p, t)]) = fls l ++ [⟨p, t.dir, t.data⟩] := by unfold fls; simp
theorem fsnoc1 {w : World} {base M : Nat} {v : Value} {X : Disk.M} {fp ft : List UInt8} {fd : Bool} {t : Disk.T} (h : w.ownsRow base 70 3 v (M + 1) ((fls X).flatMap flCells ++ [.string (bs fp), .bool fd, .string (bs ft)])) (hM : M = (fls X).length) (ht : t = ⟨fd, ft⟩) : FRow w base v (fls (X ++ [(fp, t)])) := by
  subst ht
  rw [fls_snoc]
  exact FRow.snoc (d := ⟨fp, fd, ft⟩) h hM.symm
theorem fsnoc2 {w : World} {base M : Nat} {v : Value} {X : Disk.M} {fp ft xp xt : List UInt8} {fd xd : Bool} {t : Disk.T} (h : w.ownsRow base 70 3 v (M + 1 + 1) ((fls X).flatMap flCells ++ [.string (bs fp), .bool fd, .string (bs ft)] ++ [.string (bs xp), .bool xd, .string (bs xt)])) (hM : M = (fls X).length) (ht : t = ⟨fd, ft⟩) : FRow w base v (fls (X ++ [(fp, t)] ++ [(xp, ⟨xd, xt⟩)])) := by
  subst ht
  refine fsnoc1 (M := M + 1) ?_ (by rw [fls_snoc]; simp [hM]) rfl
  rw [fls_snoc, List.flatMap_append]
  exact h
theorem setCell_grows (w : World) (a : Addr) (u : Value) : w.grownBy (w.setCell a u) (some a.block) :=
  ⟨rfl, rfl, rfl, by simp [World.setCell], fun k hk hne => Below.heap_setCell w a u k (fun e => hne (by rw [e]))⟩
/-- The document's disk: its block, its row, its raw writes' slice, how many are left. -/
structure RefIn (w : World) (base rd : Nat) (l : Disk.M) (lv rv : Value) (left : Int) : Prop where
  c0 : w.cell? ⟨rd, 0, none⟩ = some lv
  c1 : w.cell? ⟨rd, 1, none⟩ = some rv
  c2 : w.cell? ⟨rd, 2, none⟩ = some (.int .i64 left)
  fr : ∀ j, w.frozen? ⟨rd, j, none⟩ = false
  row : FRow w base lv (fls l)
  ne : lv.ownBlock ≠ some rd
  rises : SM.Rises l
  rdb : base ≤ rd
theorem RefIn.rdl {w : World} {base rd : Nat} {l : Disk.M} {lv rv : Value} {left : Int} (h : RefIn w base rd l lv rv left) : rd < w.heap.size := size_of_cell h.c0
theorem RefIn.sized {w w' : World} {base rd : Nat} {l : Disk.M} {lv rv : Value} {left : Int} (h : RefIn w base rd l lv rv left) (hb : Below w.heap.size w w') : RefIn w' base rd l lv rv left := by
  have h1 := h.rdl
  refine ⟨by rw [hb.cell (p := ⟨rd, 0, none⟩) h1]; exact h.c0, by rw [hb.cell (p := ⟨rd, 1, none⟩) h1]; exact h.c1, by rw [hb.cell (p := ⟨rd, 2, none⟩) h1]; exact h.c2, fun j => by rw [hb.frozen (p := ⟨rd, j, none⟩) h1]; exact h.fr j, ?_, h.ne, h.rises, h.rdb⟩
  refine h.row.kept (row := none) ⟨hb.os, hb.tape, hb.output, hb.size, fun k hk _ => hb.block k hk⟩ ?_
  cases lv.ownBlock <;> simp
/-- The list has been written. -/
theorem RefIn.stored {w wr : World} {base rd : Nat} {l X : Disk.M} {lv rv v : Value} {left : Int} (h : RefIn w base rd l lv rv left) (hb : Below w.heap.size w wr) (hv : FRow wr (w.heap.size + 1) v (fls X)) (hX : SM.Rises X) :
    RefIn (wr.setCell ⟨rd, 0, none⟩ v) base rd X v rv left ∧ w.grownBy (wr.setCell ⟨rd, 0, none⟩ v) (some rd) ∧ ∀ g, v.ownBlock = some g → w.heap.size ≤ g := by
  have h1 := h.rdl
  have h2 := h.sized hb
  have hvn : v.ownBlock ≠ some rd := fun e => by have := (World.ownsRow.lt hv rd e).1; omega
  have hg := setCell_grows wr ⟨rd, 0, none⟩ v
  refine ⟨⟨World.cell?_setCell_same' _ _ _ (by rw [h2.c0]; rfl), ?_, ?_, fun j => by rw [World.frozen?_setCell]; exact h2.fr j, ?_, hvn, hX, h.rdb⟩, ?_, fun g e => by have := (World.ownsRow.lt hv g e).1; omega⟩
  · rw [World.cell?_setCell_other _ _ _ _ (by simp)]; exact h2.c1
  · rw [World.cell?_setCell_other _ _ _ _ (by simp)]; exact h2.c2
  · have := h.rdb
    refine (own_mono hv (by omega)).kept hg ?_
    cases hv' : v.ownBlock with
    | none => exact Or.inl rfl
    | some g => exact Or.inr (fun e => hvn (by rw [hv']; exact e))
  · exact ⟨hb.os, hb.tape, hb.output, by simpa using hb.size, fun k hk hne => by
      rw [Below.heap_setCell _ _ _ _ (fun e => hne (by rw [e]))]
      exact hb.block k hk⟩
set_option maxHeartbeats 8000000 in
set_option maxRecDepth 100000 in
theorem put_any {w : World} {base rd : Nat} {l : Disk.M} {lv rv : Value} {left : Int} (h : RefIn w base rd l lv rv left) (f : Disk.Fl) (gone : Bool) (hn : l.length ≤ 1099511627776) :
    Calls Tryz.prog 41 #[.pointer (some ⟨rd, 0, none⟩), .agg #[.string (bs f.path), .bool f.dir, .string (bs f.data)], .bool gone] w fun e w' => e = .returned (.tuple #[]) ∧
      (∃ lv', RefIn w' base rd (if gone then SM.del l f.path else SM.put l f.path f.t) lv' rv left ∧ ∀ g, lv'.ownBlock = some g → w.heap.size ≤ g) ∧ w.grownBy w' (some rd) := by
  obtain ⟨i0, hi, hz0, hz1, hz2⟩ := info_parts infoFl
  have h0 := h.c0
  have hfr := h.fr 0
  have hrdl := h.rdl
  have HFI := Lib.hid h.row.files
  obtain ⟨a1, cp1, rfl⟩ := own_form h.row
  have H := Lib.hid h
  clear h
  obtain ⟨N, hN⟩ : ∃ N, N = (fls l).length := ⟨_, rfl⟩
  have hNn : N ≤ 1099511627776 := by rw [hN, fls_length]; exact hn
  rw [← hN] at h0
  have HN := Lib.hid hN
  clear hN
  have HLAW := Lib.hid (SM.put_law H.out.rises f.path f.t gone)
  have HRI : Hid (SM.Rises (if gone then SM.del l f.path else SM.put l f.path f.t)) := Lib.hid (by cases gone; exact SM.rises_put H.out.rises _ _; exact SM.rises_del H.out.rises _)
  obtain ⟨R, hR⟩ : ∃ R, R = if gone then SM.del l f.path else SM.put l f.path f.t := ⟨_, rfl⟩
  rw [← hR] at HLAW HRI ⊢
  clear hR
  obtain ⟨fp, fd, ft⟩ := f
  have HFT : Hid (Disk.Fl.t ⟨fp, fd, ft⟩ = ⟨fd, ft⟩) := Lib.hid rfl
  obtain ⟨t, ht⟩ : ∃ t, t = Disk.Fl.t ⟨fp, fd, ft⟩ := ⟨_, rfl⟩
  rw [← ht] at HLAW HFT
  dsimp only at HLAW ⊢
  clear ht
  obtain ⟨W0, hW0⟩ : ∃ x, x = w.alloc (.cells #[.string (bs fp), .bool fd, .string (bs ft)] 70) := ⟨_, rfl⟩
  have hs0 : w.heap.size + 1 ≤ W0.heap.size := by rw [hW0]; simp
  have g1 : W0.cell? ⟨w.heap.size, 0, none⟩ = some (.string (bs fp)) := by rw [hW0]; simp
  have g2 : W0.cell? ⟨w.heap.size, 1, none⟩ = some (.bool fd) := by rw [hW0]; simp
  have g3 : W0.cell? ⟨w.heap.size, 2, none⟩ = some (.string (bs ft)) := by rw [hW0]; simp
  have hB0 : Below w.heap.size w W0 := by rw [hW0]; exact (Below.refl _ _).alloc (Nat.le_refl _) _
  have d0 : W0.cell? ⟨rd, 0, none⟩ = some (.slice a1 N cp1) := by rw [hB0.cell (p := ⟨rd, 0, none⟩) hrdl]; exact h0
  have df : W0.frozen? ⟨rd, 0, none⟩ = false := by rw [hB0.frozen (p := ⟨rd, 0, none⟩) hrdl]; exact hfr
  have HB0 := Lib.hid hB0
  clear hB0 h0 hfr
  go_enter Tryz.func41, Tryz.ntmps41
  go_wp2
  rw [← hW0]
  clear hW0
  go_loopw [6, 7, 8] (fun v d q wr => ∃ (i : Nat) (dn : Bool) (X : Disk.M) (vv : Value), vv = v ∧ d = .bool dn ∧ q = .int .i64 i ∧ i ≤ N ∧ X.length ≤ 2 * i ∧ (l.take i).foldl (SM.putStep fp t) (gone, []) = (dn, X) ∧ FRow wr (w.heap.size + 1) vv (fls X) ∧ Below (w.heap.size + 1) W0 wr) (fun _ _ q _ => N - (intOf q).toNat)
  case atStart => exact ⟨0, gone, [], _, rfl, rfl, rfl, by omega, by simp, rfl, World.ownsRow_nil _ _ _ _, Below.refl _ _⟩
  case round =>
    obtain ⟨i, dn, X, v, rfl, rfl, rfl, hi', hXl, hfold, hX, hBr⟩ := hrel
    obtain ⟨wo, rfl⟩ : ∃ x, x = wr := ⟨wr, rfl⟩
    have hzr := hBr.size
    have k1 := hBr.cell (p := ⟨w.heap.size, 0, none⟩) (by show w.heap.size < w.heap.size + 1; omega)
    have k2 := hBr.cell (p := ⟨w.heap.size, 1, none⟩) (by show w.heap.size < w.heap.size + 1; omega)
    have k3 := hBr.cell (p := ⟨w.heap.size, 2, none⟩) (by show w.heap.size < w.heap.size + 1; omega)
    have kd := hBr.cell (p := ⟨rd, 0, none⟩) (by show rd < w.heap.size + 1; omega)
    have kf := hBr.frozen (p := ⟨rd, 0, none⟩) (by show rd < w.heap.size + 1; omega)
    rw [g1] at k1
    rw [g2] at k2
    rw [g3] at k3
    rw [d0] at kd
    rw [df] at kf
    have HFOLD := Lib.hid hfold
    have HX : Hid (World.ownsRow wo (w.heap.size + 1) 70 3 v (fls X).length ((fls X).flatMap flCells)) := Lib.hid hX
    have HXF := Lib.hid (fls_length X)
    obtain ⟨av, cv, rfl⟩ := own_form hX
    obtain ⟨M, hM⟩ : ∃ M, M = (fls X).length := ⟨_, rfl⟩
    have hMl : M ≤ 2 * i := by rw [hM, HXF.out]; exact hXl
    rw [← hM] at HX ⊢
    have HM := Lib.hid hM
    have HBR := Lib.hid hBr
    clear hfold hX hXl hM hBr
    by_cases hiN : i < N
    · obtain ⟨f, hf⟩ : ∃ f, (fls l)[i]? = some f := ⟨_, List.getElem?_eq_getElem (by have := HN.out; omega)⟩
      obtain ⟨bk, o, cap, hve, hbB, hbc⟩ := HFI.out.at (by have := HN.out; omega)
      rw [← HN.out] at hve
      cases hve
      obtain ⟨e1, e2, e3⟩ := hbc i f hf
      have HBW := Lib.hid (HB0.out.trans (HBR.out.mono (by omega)))
      rw [← HBW.out.cell (p := ⟨bk, o + i * 3, none⟩) (by show bk < _; omega)] at e1
      rw [← HBW.out.cell (p := ⟨bk, o + i * 3 + 1, none⟩) (by show bk < _; omega)] at e2
      rw [← HBW.out.cell (p := ⟨bk, o + i * 3 + 2, none⟩) (by show bk < _; omega)] at e3
      have HL := Lib.hid (fls_at hf)
      obtain ⟨xp, xd, xt⟩ := f
      dsimp only at e1 e2 e3 HL
      have HSTEP : Hid (∀ s, SM.putStep fp t (dn, X) (xp, ⟨xd, xt⟩) = s → (l.take (i + 1)).foldl (SM.putStep fp t) (gone, []) = s) := Lib.hid (fun s hs => by
        rw [List.take_add_one, HL.out, List.foldl_append, HFOLD.out]
        exact hs)
      have hlt : (i : Int) < (N : Int) := by omega
      have q1 : Op.bytesLess (bs xp).toList (bs fp).toList = bytesBefore xp fp := by rw [bs_toList, bs_toList]; exact bless _ _
      have q2 := sv_inj (a := xp) (b := fp)
      have HXC : Hid (∀ (W : World), Below (w.heap.size + 1) W0 W → W.cell? ⟨w.heap.size, 0, none⟩ = some (.string (bs fp)) ∧ W.cell? ⟨rd, 0, none⟩ = some (.slice (some ⟨bk, o, none⟩) N cp1) ∧ W.cell? ⟨bk, o + i * 3, none⟩ = some (.string (bs xp)) ∧ W.cell? ⟨bk, o + i * 3 + 1, none⟩ = some (.bool xd) ∧ W.cell? ⟨bk, o + i * 3 + 2, none⟩ = some (.string (bs xt))) := Lib.hid (fun W hW => by
        have hWo : ∀ b j, b < w.heap.size + 1 → W.cell? ⟨b, j, none⟩ = wo.cell? ⟨b, j, none⟩ := fun b j hb => (hW.cell (p := ⟨b, j, none⟩) hb).trans (HBR.out.cell (p := ⟨b, j, none⟩) hb).symm
        rw [hWo _ _ (by omega), hWo _ _ (by omega), hWo _ _ (by omega), hWo _ _ (by omega), hWo _ _ (by omega)]
        exact ⟨k1, kd, e1, e2, e3⟩)
      clear hf hbc
      by_cases hA : bytesBefore xp fp = false ∧ dn = false
      · obtain ⟨hA1, rfl⟩ := hA
        rw [hA1] at q1
        have HS0 : Hid (SM.putStep fp t (false, X) (xp, ⟨xd, xt⟩) = (true, if xp = fp then X ++ [(fp, t)] else X ++ [(fp, t)] ++ [(xp, ⟨xd, xt⟩)])) := Lib.hid (by unfold SM.putStep; dsimp only; rw [hA1]; rfl)
        clear hA1
        go_wp2
        go_big_quiet (fail)
        go_wp2_with (first | (at_builtin; refine wpList_append_own_at _ rfl _ _ 22 rfl (w.heap.size + 1) 70 i0 (.agg #[.string ByteArray.empty, .bool false, .string ByteArray.empty]) 3 40 Tryz.underlying22 hi hz0 hz1 hz2 rfl (by decide) _ _ _ rfl (World.ownsRow.alloc (own_drewN HX.out _) _) ⟨wo.heap.size, 0, none⟩ 1 1 [.string (bs fp), .bool fd, .string (bs ft)] rfl rfl (new_cells2 _ _ (by first | rfl | simp) _ _) (fun x hx => by simp at hx; rcases hx with rfl | rfl | rfl <;> rfl) (by unfold maxLen; omega) (by omega) (by simp; omega) ?_; intro v7 w7 hown7 hgrow7 _ hloc7))
        have HB7 := Lib.hid (((bdrew HBR.out _).alloc (by simp; omega) _).grown hgrow7 (by simp; omega) (fun g hg => (World.ownsRow.lt HX.out g hg).1))
        have hz7 := HB7.out.size
        have HO7 := Lib.hid hown7
        obtain ⟨a7, c7, rfl⟩ := own_form hown7
        obtain ⟨m1, m2, m3, m4, m5⟩ := HXC.out w7 HB7.out
        clear hown7 hgrow7 hloc7 k1 k2 k3 kd kf e1 e2 e3
        by_cases hE : xp = fp
        · have HSN := Lib.hid (HSTEP.out _ (HS0.out.trans (by rw [if_pos hE])))
          rw [decide_eq_true hE] at q2
          clear hE
          go_wp2
          go_big_quiet (fail)
          go_wp2
          go_roundw
          case rel => exact ⟨i + 1, true, _, _, rfl, rfl, by go_num, by omega, by have := HM.out; have := HXF.out; simp; omega, HSN.out, own_drewN (fsnoc1 HO7.out HM.out HFT.out) _, bdrew HB7.out _⟩
          case measure => simp [intOf]; omega
        · have HSN := Lib.hid (HSTEP.out _ (HS0.out.trans (by rw [if_neg hE])))
          rw [decide_eq_false hE] at q2
          clear hE
          go_wp2
          go_big_quiet (fail)
          go_wp2_with (first | (at_builtin; refine wpList_append_own_at _ rfl _ _ 22 rfl (w.heap.size + 1) 70 i0 (.agg #[.string ByteArray.empty, .bool false, .string ByteArray.empty]) 3 40 Tryz.underlying22 hi hz0 hz1 hz2 rfl (by decide) _ _ _ rfl (World.ownsRow.alloc (own_drewN HO7.out _) _) ⟨w7.heap.size, 0, none⟩ 1 1 [.string (bs xp), .bool xd, .string (bs xt)] rfl rfl (new_cells2 _ _ (by first | rfl | simp) _ _) (fun x hx => by simp at hx; rcases hx with rfl | rfl | rfl <;> rfl) (by unfold maxLen; omega) (by omega) (by simp; omega) ?_; intro v8 w8 hown8 hgrow8 _ hloc8))
          have HB8 := Lib.hid (((bdrew HB7.out _).alloc (by simp; omega) _).grown hgrow8 (by simp; omega) (fun g hg => (World.ownsRow.lt HO7.out g hg).1))
          have HO8 := Lib.hid hown8
          obtain ⟨a8, c8, rfl⟩ := own_form hown8
          clear hown8 hgrow8 hloc8
          go_roundw
          case rel => exact ⟨i + 1, true, _, _, rfl, rfl, by go_num, by omega, by have := HM.out; have := HXF.out; simp; omega, HSN.out, fsnoc2 HO8.out HM.out HFT.out, HB8.out⟩
          case measure => simp [intOf]; omega
      · have HS0 : Hid (SM.putStep fp t (dn, X) (xp, ⟨xd, xt⟩) = (dn, if xp = fp then X else X ++ [(xp, ⟨xd, xt⟩)])) := Lib.hid (by
          unfold SM.putStep; dsimp only
          cases hb : bytesBefore xp fp <;> cases dn <;> first | rfl | exact absurd ⟨hb, rfl⟩ hA)
        have hC : bytesBefore xp fp = true ∨ (bytesBefore xp fp = false ∧ dn = true) := by
          cases hb : bytesBefore xp fp
          · cases dn
            · exact absurd ⟨hb, rfl⟩ hA
            · exact Or.inr ⟨rfl, rfl⟩
          · exact Or.inl rfl
        clear hA
        rcases hC with hC | ⟨hC, rfl⟩
        all_goals
          rw [hC] at q1
          clear hC
          go_wp2
          go_big_quiet (fail)
          by_cases hE : xp = fp
          · have HSN := Lib.hid (HSTEP.out _ (HS0.out.trans (by rw [if_pos hE])))
            rw [decide_eq_true hE] at q2
            clear hE
            go_wp2
            go_big_quiet (fail)
            go_wp2
            go_roundw
            case rel => exact ⟨i + 1, _, _, _, rfl, rfl, by go_num, by omega, by have := HM.out; have := HXF.out; omega, HSN.out, (by have := HX.out; rw [HM.out] at this ⊢; exact this), bdrew HBR.out _⟩
            case measure => simp [intOf]; omega
          · have HSN := Lib.hid (HSTEP.out _ (HS0.out.trans (by rw [if_neg hE])))
            rw [decide_eq_false hE] at q2
            clear hE
            go_wp2
            go_big_quiet (fail)
            go_wp2_with (first | (at_builtin; refine wpList_append_own_at _ rfl _ _ 22 rfl (w.heap.size + 1) 70 i0 (.agg #[.string ByteArray.empty, .bool false, .string ByteArray.empty]) 3 40 Tryz.underlying22 hi hz0 hz1 hz2 rfl (by decide) _ _ _ rfl (World.ownsRow.alloc (own_drewN HX.out _) _) ⟨wo.heap.size, 0, none⟩ 1 1 [.string (bs xp), .bool xd, .string (bs xt)] rfl rfl (new_cells2 _ _ (by first | rfl | simp) _ _) (fun x hx => by simp at hx; rcases hx with rfl | rfl | rfl <;> rfl) (by unfold maxLen; omega) (by omega) (by simp; omega) ?_; intro v8 w8 hown8 hgrow8 _ hloc8))
            have HB8 := Lib.hid (((bdrew HBR.out _).alloc (by simp; omega) _).grown hgrow8 (by simp; omega) (fun g hg => (World.ownsRow.lt HX.out g hg).1))
            have HO8 := Lib.hid hown8
            obtain ⟨a8, c8, rfl⟩ := own_form hown8
            clear hown8 hgrow8 hloc8
            go_roundw
            case rel => exact ⟨i + 1, _, _, _, rfl, rfl, by go_num, by omega, by have := HM.out; have := HXF.out; simp; omega, HSN.out, fsnoc1 HO8.out HM.out rfl, HB8.out⟩
            case measure => simp [intOf]; omega
    · have hex : ¬ ((i : Int) < (N : Int)) := by omega
      have HFU : Hid (l.take i = l) := Lib.hid (List.take_of_length_le (by have := HN.out; rw [fls_length] at this; omega))
      have HFIN : Hid (SM.putFin fp t (dn, X) = R) := Lib.hid (by
        rw [← HLAW.out, ← HFOLD.out, HFU.out])
      have HBW := Lib.hid (HB0.out.trans (HBR.out.mono (by omega)))
      cases dn
      · go_wp2_with (first | (at_builtin; refine wpList_append_own_at _ rfl _ _ 22 rfl (w.heap.size + 1) 70 i0 (.agg #[.string ByteArray.empty, .bool false, .string ByteArray.empty]) 3 40 Tryz.underlying22 hi hz0 hz1 hz2 rfl (by decide) _ _ _ rfl (World.ownsRow.alloc HX.out _) ⟨wo.heap.size, 0, none⟩ 1 1 [.string (bs fp), .bool fd, .string (bs ft)] rfl rfl (new_cells2 _ _ (by first | rfl | simp) _ _) (fun x hx => by simp at hx; rcases hx with rfl | rfl | rfl <;> rfl) (by unfold maxLen; omega) (by omega) (by simp; omega) ?_; intro v7 w7 hown7 hgrow7 _ hloc7; have HB7 := Lib.hid ((HBR.out.alloc (by omega) _).grown hgrow7 (by simp; omega) (fun g hg => (World.ownsRow.lt HX.out g hg).1)); have HO7 := Lib.hid hown7; obtain ⟨a7, c7, rfl⟩ := own_form hown7; have kd7 := (HB7.out.cell (p := ⟨rd, 0, none⟩) (by show rd < w.heap.size + 1; omega)); have kf7 := (HB7.out.frozen (p := ⟨rd, 0, none⟩) (by show rd < w.heap.size + 1; omega)); rw [d0] at kd7; rw [df] at kf7; have HS := Lib.hid (H.out.stored (HB0.out.trans (HB7.out.mono (by omega))) (fsnoc1 HO7.out HM.out HFT.out) (by have := HFIN.out; unfold SM.putFin at this; rw [if_neg (by simp)] at this; dsimp only at this; rw [this]; exact HRI.out)); clear hown7 hgrow7 hloc7))
        go_returns
        exact ⟨rfl, ⟨_, by have := HFIN.out; unfold SM.putFin at this; dsimp only at this; simp only [if_true, if_false, Bool.false_eq_true] at this; rw [← this]; exact HS.out.1, HS.out.2.2⟩, HS.out.2.1⟩
      · have HS := Lib.hid (H.out.stored HBW.out (X := X) (v := .slice av M cv) (by have := HX.out; rw [HM.out] at this ⊢; exact this) (by have := HFIN.out; unfold SM.putFin at this; rw [if_pos rfl] at this; dsimp only at this; rw [this]; exact HRI.out))
        go_wp2
        go_returns
        exact ⟨rfl, ⟨_, by have := HFIN.out; unfold SM.putFin at this; dsimp only at this; simp only [if_true, if_false, Bool.false_eq_true] at this; rw [← this]; exact HS.out.1, HS.out.2.2⟩, HS.out.2.1⟩
end Go.Proofs.YtdogacgpfnolfaaGreatDoor
