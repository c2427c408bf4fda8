/- Two of the program's disks: what the laws on them share. -/
import Derived.Test.YtnfklomokjhojaaGreatDoorZLaws
import Derived.Test.YtnfklomokjhojaaGreatDoorHung
namespace Go.Proofs.YtnfklomokjhojaaGreatDoor
open Go.RowKit Go.Maps
set_option linter.unusedSimpArgs false
set_option linter.unusedVariables false
theorem Two.left {w : World} {B : Nat} {Z : Nat → Prop} {sa sb n : Nat} {a b : Disk.S} (h : Two w B Z sa sb n a b) : w.cell? ⟨sa, 2, none⟩ = some (.int .i64 a.left) := by
  obtain ⟨OA, OB, h1, h2, h3, h4⟩ := h
  exact h1.form
theorem Two.rawsLe {w : World} {B : Nat} {Z : Nat → Prop} {sa sb n : Nat} {a b : Disk.S} (h : Two w B Z sa sb n a b) : a.raws.length ≤ n := by
  obtain ⟨OA, OB, ⟨bm, m, rv, hm, h1⟩, h2, h3, h4⟩ := h
  exact hm.2.1
theorem Two.raws {w : World} {B : Nat} {Z : Nat → Prop} {sa sb n : Nat} {a b : Disk.S} (h : Two w B Z sa sb n a b) (hn : n ≤ 1099511627776) :
    Calls Tryz.prog 14 #[.pointer (some ⟨sa, 0, none⟩)] w fun e w' => ∃ v, e = .returned v ∧ RwRow w' w.heap.size v a.raws ∧ Below w.heap.size w w' := by
  obtain ⟨OA, OB, ⟨bm, m, rv, hm, h1⟩, h2, h3, h4⟩ := h
  exact told_raws h1 (by have := hm.2.1; omega)
theorem Two.all {w : World} {B : Nat} {Z : Nat → Prop} {sa sb n : Nat} {a b : Disk.S} (h : Two w B Z sa sb n a b) (hn : a.l.length ≤ 1099511627776) :
    Calls Tryz.prog 18 #[.pointer (some ⟨sa, 0, none⟩)] w fun e w' => ∃ v, e = .returned v ∧ FRow w' w.heap.size v (fls a.l) ∧ Below w.heap.size w w' := by
  obtain ⟨OA, OB, ⟨bm, m, rv, hm, h1⟩, h2, h3, h4⟩ := h
  exact all_any h1.d.c0 h1.d.things hn
theorem ask_len (s : Disk.S) (k : Int) (x : Disk.Dq) : (s.asked k x).2.l.length ≤ s.l.length + 1 := by
  have hd : ∀ (c : Int × Disk.M) (r : Disk.Rw), c.2.length ≤ s.l.length + 1 → (s.ask c r).2.l.length ≤ s.l.length + 1 := fun c r hc => by
    unfold Disk.S.ask
    split
    · exact Nat.le_succ _
    · split
      · exact hc
      · exact Nat.le_succ _
  have h1 := fun p (t : Disk.T) => SM.length_put_le s.l p t
  have h2 := fun p => SM.length_del_le s.l p
  unfold Disk.S.asked
  refine hd _ _ ?_
  unfold Disk.coreOf
  split
  · unfold Disk.mkdirC
    repeat' split
    all_goals first | exact Nat.le_succ _ | exact h1 _ _
  split
  · unfold Disk.writeC
    repeat' split
    all_goals first | exact Nat.le_succ _ | exact h1 _ _
  split
  · unfold Disk.renameC
    repeat' split
    all_goals first | exact Nat.le_succ _ | (refine Nat.le_trans (SM.length_put_le _ _ _) ?_; have := h2 x.path; omega)
  · unfold Disk.removeC
    repeat' split
    all_goals first | exact Nat.le_succ _ | (exact Nat.le_trans (h2 _) (Nat.le_succ _))
theorem Two.kind {w : World} {B : Nat} {Z : Nat → Prop} {sa sb n : Nat} {a b : Disk.S} (h : Two w B Z sa sb n a b) (p : List UInt8) (hp : p.length ≤ 4398046511104) :
    Calls Tryz.prog 25 #[.pointer (some ⟨sa, 0, none⟩), .string (bs p)] w fun e w' => e = .returned (.int .i64 (Disk.kind a.l p)) ∧ Below w.heap.size w w' := by
  obtain ⟨OA, OB, ⟨bm, m, rv, hm, h1⟩, h2, h3, h4⟩ := h
  have := kind_any h1.d.c0 h1.d.things (bs p) (bs_small hp)
  rw [bs_list] at this
  exact this
theorem Two.read {w : World} {B : Nat} {Z : Nat → Prop} {sa sb n : Nat} {a b : Disk.S} (h : Two w B Z sa sb n a b) (hE : Env w) (p : List UInt8) (hp : p.length ≤ 4398046511104) :
    Calls Tryz.prog 30 #[.pointer (some ⟨sa, 0, none⟩), .string (bs p)] w fun e w' => e = .returned (.tuple #[.string (bs (Disk.readR a.l p).1), .int .i64 (Disk.readR a.l p).2]) ∧ Below w.heap.size w w' := by
  obtain ⟨OA, OB, ⟨bm, m, rv, hm, h1⟩, h2, h3, h4⟩ := h
  exact read_disk h1.d.c0 h1.d.things hE p hp
/-- What an act leaves of two. -/
structure TwoNow (w w' : World) (B : Nat) (Z : Nat → Prop) (sa sb n : Nat) (a b : Disk.S) : Prop where
  two : Two w' B Z sa sb n a b
  below : Below B w w'
  keep : ∀ k, Z k → w'.heap[k]? = w.heap[k]?
theorem Two.actT {P : Program} {f : FuncId} {args : Array Value} {Q : Ending → Prop} {w : World} {B : Nat} {Z : Nat → Prop} {sa sb n n' : Nat} {a b a' : Disk.S} (h : Two w B Z sa sb n a b) (hn : n ≤ n')
    (hc : ∀ O, Dsk w B O sa n a → Calls P f args w fun e w' => Q e ∧ DskNow w w' B O sa n' a') : Calls P f args w fun e w' => Q e ∧ TwoNow w w' B Z sa sb n' a' b :=
  (h.act hn hc).mono fun e w' h => ⟨h.1, h.2.1, h.2.2.1, h.2.2.2⟩
theorem TwoNow.swap {w w' : World} {B : Nat} {Z : Nat → Prop} {sa sb n : Nat} {a b : Disk.S} (h : TwoNow w w' B Z sa sb n a b) : TwoNow w w' B Z sb sa n b a := ⟨h.two.swap, h.below, h.keep⟩
theorem TwoNow.then {w w1 w' : World} {B : Nat} {Z : Nat → Prop} {sa sb n n' : Nat} {a b a' b' : Disk.S} (h1 : TwoNow w w1 B Z sa sb n a b) (h2 : TwoNow w1 w' B Z sa sb n' a' b') : TwoNow w w' B Z sa sb n' a' b' :=
  ⟨h2.two, h1.below.trans h2.below, fun k hk => (h2.keep k hk).trans (h1.keep k hk)⟩
theorem Two.free {w : World} {B : Nat} {Z : Nat → Prop} {sa sb n : Nat} {a b : Disk.S} (h : Two w B Z sa sb n a b) : Two w B (fun _ => False) sa sb n a b := by
  obtain ⟨OA, OB, h1, h2, h3, h4⟩ := h
  exact ⟨OA, OB, h1, h2, h3, fun k hk => hk.elim⟩
/-- The disk of both, and one that was loaded behind it. -/
theorem Duo.beside {w w' : World} {B : Nat} {Z : Nat → Prop} {sd rd sc n : Nat} {a b c : Disk.S} {OC : Nat → Prop} (h : Duo w B Z sd rd n a b) (hb : Below w.heap.size w w') (h2 : Dsk w' B OC sc n c) (hO : ∀ k, OC k → w.heap.size ≤ k) : Two w' B (fun _ => False) sc sd n c a := by
  obtain ⟨OA, OB, h1, _⟩ := h
  exact (Two.made h1 hb h2 hO).swap
theorem Duo.kind {w : World} {B : Nat} {Z : Nat → Prop} {sd rd n : Nat} {a b : Disk.S} (h : Duo w B Z sd rd n a b) (p : List UInt8) (hp : p.length ≤ 4398046511104) :
    Calls Tryz.prog 25 #[.pointer (some ⟨sd, 0, none⟩), .string (bs p)] w fun e w' => e = .returned (.int .i64 (Disk.kind a.l p)) ∧ Below w.heap.size w w' := by
  obtain ⟨OA, OB, ⟨bm, m, rv, hm, h1⟩, h2, h3, h4⟩ := h
  have := kind_any h1.d.c0 h1.d.things (bs p) (bs_small hp)
  rw [bs_list] at this
  exact this
/-- What a disk tells is loaded again. -/
theorem load_told {w : World} {B : Nat} {v : Value} {l : Disk.M} (h : Files w B v (fls l)) (hB : B ≤ w.heap.size) (hE : Env w) (hH : Disk.Hung l) (hn : l.length ≤ 1099511627776) :
    Calls Tryz.prog 23 #[v] w fun e w' => ∃ sd bm n, e = .returned (.tuple #[.pointer (some ⟨sd, 0, none⟩), .int .i64 0]) ∧ DiskIn w' w.heap.size sd bm n l (.slice none 0 0) (-1) ∧ n ≤ l.length ∧ Below w.heap.size w w' := by
  have hl := fls_length l
  refine (load_any h hB hE (by omega) (fun f hf => ?_)).mono fun e w' hp => ?_
  · obtain ⟨x, hx, rfl⟩ := List.mem_map.1 hf
    have := Disk.pathOk_length (hH.ok x.1 x.2 (SM.look_mem hH.rises hx))
    show x.1.length ≤ _
    omega
  · unfold LoadPost at hp
    rw [Disk.load_fls hH] at hp
    obtain ⟨⟨sd, bm, n, h1, h2, h3⟩, h4⟩ := hp
    exact ⟨sd, bm, n, h1, h2, by omega, h4⟩
end Go.Proofs.YtnfklomokjhojaaGreatDoor
