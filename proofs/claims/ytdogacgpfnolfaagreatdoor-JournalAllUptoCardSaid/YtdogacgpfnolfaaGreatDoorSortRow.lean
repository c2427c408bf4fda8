/- A row of structs of the call's own, sorted by the library: no program stands here. -/
import Derived.Shelf.SlSortCmp.WholeK
import Derived.Shelf.SlSortCmp.NoneTotal
import Derived.Shelf.SlicesQ.Reverse
import Derived.Laws.OwnMore
import Derived.Lib.Bytealg
import Derived.Test.YtdogacgpfnolfaaGreatDoorSMap
namespace Go.Proofs.YtdogacgpfnolfaaGreatDoor
open Go.RowKit Go.Sort
set_option linter.unusedSimpArgs false
set_option linter.unusedVariables false
theorem flatMap_get {α : Type} [Inhabited α] {enc : α → List Value} {k : Nat} (hk : ∀ x, (enc x).length = k) (k0 : 0 < k) : ∀ (ds : List α) (t : Nat), t < ds.length * k → (ds.flatMap enc)[t]? = (enc ds[t / k]!)[t % k]?
  | [], t, h => by simp at h
  | x :: r, t, h => by
    rw [List.flatMap_cons, List.getElem?_append, hk]
    by_cases ht : t < k
    · rw [if_pos ht, Nat.div_eq_of_lt ht, Nat.mod_eq_of_lt ht]
      rfl
    · rw [if_neg ht]
      have h1 : t - k < r.length * k := by rw [List.length_cons, Nat.add_mul, Nat.one_mul] at h; omega
      rw [flatMap_get hk k0 r (t - k) h1]
      obtain ⟨u, rfl⟩ : ∃ u, t = u + k := ⟨t - k, by omega⟩
      rw [Nat.add_sub_cancel, Nat.add_div_right _ k0, Nat.add_mod_right]
      rfl
theorem flatMap_length {α : Type} {enc : α → List Value} {k : Nat} (hk : ∀ x, (enc x).length = k) : ∀ (ds : List α), (ds.flatMap enc).length = ds.length * k
  | [] => by simp
  | x :: r => by rw [List.flatMap_cons, List.length_append, hk, flatMap_length hk r, List.length_cons, Nat.add_mul, Nat.one_mul]; omega
theorem flatK_list {α : Type} [Inhabited α] {enc : α → List Value} {k : Nat} (hk : ∀ x, (enc x).length = k) (ds : List α) : (flatK enc k ds.toArray).toList = ds.flatMap enc := by
  rcases Nat.eq_zero_or_pos k with k0 | k0
  · subst k0
    have h1 : (flatK enc 0 ds.toArray).toList.length = 0 := by simp
    have h2 : (ds.flatMap enc).length = 0 := by rw [flatMap_length hk]; simp
    rw [List.length_eq_zero_iff.1 h1, List.length_eq_zero_iff.1 h2]
  · apply List.ext_getElem?
    intro t
    by_cases ht : t < ds.length * k
    · rw [flatMap_get hk k0 ds t ht, Array.getElem?_toList]
      have hs : t < (flatK enc k ds.toArray).size := by simpa using ht
      have hg := get_flatK enc k ds.toArray t (by simpa using ht)
      rw [getElem!_pos (flatK enc k ds.toArray) t hs] at hg
      rw [Array.getElem?_eq_getElem hs, hg]
      have hm : t % k < (enc ds[t / k]!).length := by rw [hk]; exact Nat.mod_lt _ k0
      have e : ds.toArray[t / k]! = ds[t / k]! := by simp
      rw [e, List.getElem?_eq_getElem hm, getElem!_pos (enc ds[t / k]!) (t % k) hm]
    · rw [List.getElem?_eq_none (by simp; omega), List.getElem?_eq_none (by rw [flatMap_length hk]; omega)]
theorem heap_sortedK {w : World} {g n : Nat} {os : Array Obj} {cur : Array Value} {e : TypeId} {fr : Nat × Nat} (F : Array Value) (hb : w.heap[g]? = some (.cells cur e fr)) :
    (grow (putRow (id : Value → Value) (Sort.ahead w n) g 0 F) os).heap[g]? = some (.cells (putCells id 0 F cur) e fr) := by
  have hg : g < w.heap.size := (Array.getElem?_eq_some_iff.1 hb).1
  rw [heap_grow_old _ _ (by simpa using hg)]
  simp [putRow, mapBlock, Sort.ahead, Array.getElem?_modify, hb, onCells]
theorem grownBy_sortedK {w : World} {g n : Nat} {os : Array Obj} (F : Array Value) : w.grownBy (grow (putRow id (Sort.ahead w n) g 0 F) os) (some g) := by
  refine ⟨rfl, rfl, rfl, by simp, fun k hk hne => ?_⟩
  rw [heap_grow_old _ _ (by simpa using hk)]
  have : g ≠ k := fun e => hne (by rw [e])
  simp [putRow, mapBlock, Sort.ahead, Array.getElem?_modify, this]
theorem take_putCellsK (cur F : Array Value) (h : F.size ≤ cur.size) : (putCells id 0 F cur).toList.take F.size = F.toList := by
  apply List.ext_getElem?
  intro j
  by_cases hj : j < F.size
  · rw [List.getElem?_take_of_lt hj, Array.getElem?_toList]
    simp [putCells, hj, show j < cur.size by omega]
  · rw [List.getElem?_take_eq_none (by omega), List.getElem?_eq_none (by simp; omega)]
/-- A row of structs of the call's own, and what a sort leaves of it. -/
theorem own_sortK {α : Type} [Inhabited α] {enc : α → List Value} {k : Nat} (hk : ∀ x, (enc x).length = k) {w : World} {base : Nat} {e : TypeId} {v : Value} {ds : List α} (h : w.ownsRow base e k v ds.length (ds.flatMap enc)) (hn : 0 < ds.length) :
    ∃ g cap, v = .slice (some ⟨g, 0, none⟩) ds.length cap ∧ g < w.heap.size ∧ base ≤ g ∧ HoldsK enc k w g 0 ds.toArray ∧
      ∀ (d' : List α), d'.length = ds.length → ∀ n os, (sortWorldK enc k w g 0 n d'.toArray os).ownsRow base e k v d'.length (d'.flatMap enc) ∧ w.grownBy (sortWorldK enc k w g 0 n d'.toArray os) (some g) := by
  have h0 := h.1
  have hh := h
  rcases h.2 with ⟨rfl, h1⟩ | ⟨g, cap, cur, rfl, hbase, hb, h1, h2, h3, h4⟩
  · omega
  · refine ⟨g, cap, rfl, (Array.getElem?_eq_some_iff.1 hb).1, hbase, ?_, fun d' hd n os => ⟨?_, grownBy_sortedK _⟩⟩
    · intro j hj
      have hj' : j < ds.length * k := by simpa using hj
      refine ⟨?_, by simp [World.frozen?, hb]⟩
      have hc := hh.cellAt j hj'
      rw [Nat.zero_add, hc, ← flatK_list hk, Array.getElem?_toList, Array.getElem?_eq_getElem hj, getElem!_pos (flatK enc k ds.toArray) j hj]
      rfl
    · refine ⟨by rw [flatMap_length hk], .inr ⟨g, cap, _, by rw [hd], hbase, heap_sortedK _ hb, by omega, h2, by simp [putCells, h3], ?_⟩⟩
      have hF : (flatK enc k d'.toArray).size = d'.length * k := by simp
      rw [← flatK_list hk, ← hF]
      exact take_putCellsK _ _ (by rw [hF, h3, hd]; exact Nat.mul_le_mul_right _ h1)
/-- Two lists that rise by their keys and hold the same are one. -/
theorem rise_unique {α : Type} (f : α → List UInt8) {a b : List α} (ha : a.Pairwise fun x y => bytesBefore (f x) (f y) = true) (hb : b.Pairwise fun x y => bytesBefore (f x) (f y) = true) (hp : a.Perm b) : a = b := by
  have hra : SM.Rises (a.map fun x => (f x, x)) := by
    unfold SM.Rises
    rw [List.pairwise_map]
    exact ha
  have hrb : SM.Rises (b.map fun x => (f x, x)) := by
    unfold SM.Rises
    rw [List.pairwise_map]
    exact hb
  have key : ∀ {a b : List α}, SM.Rises (a.map fun x => (f x, x)) → SM.Rises (b.map fun x => (f x, x)) → a.Perm b → ∀ p t, SM.look (a.map fun x => (f x, x)) p = some t → SM.look (b.map fun x => (f x, x)) p = some t := by
    intro a b h1 h2 hp p t ht
    have hm := SM.look_some ht
    obtain ⟨x, hx, e⟩ := List.mem_map.1 hm
    have hm2 : (p, t) ∈ b.map fun x => (f x, x) := List.mem_map.2 ⟨x, hp.mem_iff.1 hx, e⟩
    exact SM.look_mem h2 hm2
  have h := SM.ext hra hrb fun p => by
    cases h1 : SM.look (a.map fun x => (f x, x)) p with
    | some t => exact (key hra hrb hp p t h1).symm
    | none =>
      cases h2 : SM.look (b.map fun x => (f x, x)) p with
      | none => rfl
      | some t => rw [key hrb hra hp.symm p t h2] at h1; exact absurd h1 (by simp)
  have h2 := congrArg (List.map Prod.snd) h
  rw [List.map_map, List.map_map] at h2
  rw [show (Prod.snd ∘ fun x : α => (f x, x)) = id from rfl, List.map_id, List.map_id] at h2
  exact h2
/-- What a sort by keys leaves is the list that rises. -/
theorem sort_unique {α : Type} [Inhabited α] (f : α → List UInt8) {ds S : List α} {d' : Array α} (hp : PermIn 0 ds.length ds.toArray d') (hs : SortedIn (fun x y => bytesBefore (f x) (f y)) 0 ds.length d') (hS : S.Pairwise fun x y => bytesBefore (f x) (f y) = true) (hpS : ds.Perm S) : d' = S.toArray := by
  obtain ⟨h1, _, h3⟩ := hp
  have hsz : d'.size = ds.length := by rw [h1]; simp
  have hperm : d'.toList.Perm S := by
    have : (d'.extract 0 ds.length).toList = d'.toList := by rw [← hsz]; simp
    rw [this] at h3
    have h4 : (ds.toArray.extract 0 ds.length).toList = ds := by simp
    rw [h4] at h3
    exact h3.trans hpS
  have hne : d'.toList.Pairwise fun x y => f x ≠ f y := by
    have := hS.imp (S := fun x y => f x ≠ f y) fun h => SM.before_ne h
    exact (hperm.pairwise_iff (fun h => Ne.symm h)).2 this
  have hord : d'.toList.Pairwise fun x y => bytesBefore (f x) (f y) = true := by
    rw [List.pairwise_iff_getElem] at hne ⊢
    intro i j hi hj hij
    have hi' : i < d'.size := by simpa using hi
    have hj' : j < d'.size := by simpa using hj
    have := hs i j (Nat.zero_le _) hij (by omega)
    rw [getElem!_pos d' j hj', getElem!_pos d' i hi'] at this
    have hn := hne i j hi hj hij
    simp only [Array.getElem_toList] at hn ⊢
    rcases WideAt.bytes_total _ _ hn with h | h
    · exact h
    · have h' : (fun x y => bytesBefore (f x) (f y)) d'[j] d'[i] = true := h
      rw [h'] at this; exact absurd this (by simp)
  have := rise_unique f hord hS hperm
  rw [← this]
theorem compare_before : ∀ (a b : List UInt8), decide (Go.Lib.compareBytes a b < 0) = bytesBefore a b
  | [], [] => by simp [Go.Lib.compareBytes, bytesBefore]
  | [], _ :: _ => by simp [Go.Lib.compareBytes, bytesBefore]
  | _ :: _, [] => by simp [Go.Lib.compareBytes, bytesBefore]
  | a :: r, b :: s => by
    have ih := compare_before r s
    unfold Go.Lib.compareBytes bytesBefore
    by_cases h1 : a < b
    · simp [h1]
    · by_cases h2 : b < a
      · have hne : a ≠ b := fun e => by subst e; exact h1 h2
        simp [h1, h2, hne]
      · have e : a = b := UInt8.le_antisymm (UInt8.not_lt.1 h2) (UInt8.not_lt.1 h1)
        subst e
        simp [ih]
theorem swo_before {α : Type} (f : α → List UInt8) : SWO (fun x y : α => bytesBefore (f x) (f y)) where
  irrefl x := WideAt.bytes_irrefl _
  trans x y z h1 h2 := WideShapes.bytes_trans _ _ _ h1 h2
  ntrans x y z h1 h2 := by
    cases h : bytesBefore (f x) (f z)
    · rfl
    · by_cases e1 : f x = f y
      · rw [e1, h2] at h; exact absurd h (by simp)
      · rcases WideAt.bytes_total _ _ e1 with hh | hh
        · rw [hh] at h1; exact absurd h1 (by simp)
        · have := WideShapes.bytes_trans _ _ _ hh h
          rw [this] at h2; exact absurd h2 (by simp)
end Go.Proofs.YtdogacgpfnolfaaGreatDoor
