/- A map by strings that the call owns, in plain words: a list of pairs that rises by its keys. No program stands here. -/
import Derived.Maps.RangeWalk
import Derived.Maps.OwnSet
import Derived.Maps.OwnOps
import Derived.Maps.Ext
import Derived.WideShapes
import Derived.StringKeys
import Derived.Deep.Draws
import Derived.Test.YtdogacgpfnolfaaGreatDoorMem
namespace Go.Proofs.YtdogacgpfnolfaaGreatDoor
open Go.RowKit Go.Maps
set_option linter.unusedSimpArgs false
set_option linter.unusedVariables false
namespace SM
variable {α : Type}
/-- What stands at a key. -/
def look (l : List (List UInt8 × α)) (p : List UInt8) : Option α := (l.find? fun x => x.1 == p).map (·.2)
def put : List (List UInt8 × α) → List UInt8 → α → List (List UInt8 × α)
  | [], p, t => [(p, t)]
  | x :: r, p, t => if bytesBefore p x.1 then (p, t) :: x :: r else if x.1 = p then (p, t) :: r else x :: put r p t
def del (l : List (List UInt8 × α)) (p : List UInt8) : List (List UInt8 × α) := l.filter fun x => !(x.1 == p)
def Rises (l : List (List UInt8 × α)) : Prop := l.Pairwise fun x y => bytesBefore x.1 y.1 = true
theorem before_ne {a b : List UInt8} (h : bytesBefore a b = true) : a ≠ b := fun e => by rw [e, WideAt.bytes_irrefl] at h; exact absurd h (by simp)
theorem before_asymm {a b : List UInt8} (h : bytesBefore a b = true) : bytesBefore b a = false := by
  cases h2 : bytesBefore b a
  · rfl
  · have := WideShapes.bytes_trans _ _ _ h h2; rw [WideAt.bytes_irrefl] at this; exact absurd this (by simp)
theorem look_nil (p : List UInt8) : look ([] : List (List UInt8 × α)) p = none := rfl
theorem look_cons (x : List UInt8 × α) (r : List (List UInt8 × α)) (p : List UInt8) : look (x :: r) p = if x.1 = p then some x.2 else look r p := by
  unfold look
  rw [List.find?_cons]
  by_cases h : x.1 = p
  · simp [h]
  · rw [beq_eq_false_iff_ne.2 h, if_neg h]
theorem look_put : ∀ (l : List (List UInt8 × α)) (p : List UInt8) (t : α) (q : List UInt8), look (put l p t) q = if q = p then some t else look l q
  | [], p, t, q => by
    rw [put, look_cons, look_nil]
    by_cases h : q = p
    · simp [h]
    · rw [if_neg (fun e => h e.symm), if_neg h]
  | x :: r, p, t, q => by
    have ih := look_put r p t q
    rw [put]
    split
    · rw [look_cons]
      by_cases h : q = p
      · simp [h]
      · rw [if_neg (fun e => h e.symm), if_neg h]
    · split
      · rename_i _ hx
        rw [look_cons, look_cons]
        by_cases h : q = p
        · simp [h]
        · rw [if_neg (fun e => h e.symm), if_neg h, if_neg (fun e => h (by rw [← e, hx]))]
      · rename_i _ hx
        rw [look_cons, ih, look_cons]
        by_cases h : x.1 = q
        · rw [if_pos h, if_pos h, if_neg (fun e => hx (by rw [h, e]))]
        · rw [if_neg h, if_neg h]
theorem look_del (l : List (List UInt8 × α)) (p q : List UInt8) : look (del l p) q = if q = p then none else look l q := by
  induction l with
  | nil => simp [del, look]
  | cons x r ih =>
    unfold del at ih ⊢
    rw [List.filter_cons]
    by_cases h : x.1 = p
    · rw [if_neg (by simp [h]), ih, look_cons]
      by_cases hq : q = p
      · simp [hq]
      · rw [if_neg hq, if_neg hq, if_neg (fun e => hq (by rw [← e, h]))]
    · rw [if_pos (by simp [h]), look_cons, ih, look_cons]
      by_cases hq : x.1 = q
      · rw [if_pos hq, if_pos hq, if_neg (fun e => h (by rw [hq, e]))]
      · rw [if_neg hq, if_neg hq]
theorem mem_put : ∀ (l : List (List UInt8 × α)) (p : List UInt8) (t : α) (y : List UInt8 × α), y ∈ put l p t → y = (p, t) ∨ y ∈ l
  | [], p, t, y, h => by simp [put] at h; exact Or.inl h
  | x :: r, p, t, y, h => by
    rw [put] at h
    split at h
    · rcases List.mem_cons.1 h with h | h
      · exact Or.inl h
      · exact Or.inr h
    · split at h
      · rcases List.mem_cons.1 h with h | h
        · exact Or.inl h
        · exact Or.inr (List.mem_cons_of_mem _ h)
      · rcases List.mem_cons.1 h with h | h
        · exact Or.inr (h ▸ List.mem_cons_self)
        · rcases mem_put r p t y h with h | h
          · exact Or.inl h
          · exact Or.inr (List.mem_cons_of_mem _ h)
theorem rises_nil : Rises ([] : List (List UInt8 × α)) := List.Pairwise.nil
theorem rises_put : ∀ {l : List (List UInt8 × α)}, Rises l → ∀ (p : List UInt8) (t : α), Rises (put l p t)
  | [], _, p, t => by rw [put]; exact List.pairwise_singleton _ _
  | x :: r, h, p, t => by
    have h1 := List.pairwise_cons.1 h
    rw [put]
    split
    · rename_i hb
      refine List.pairwise_cons.2 ⟨fun y hy => ?_, h⟩
      rcases List.mem_cons.1 hy with rfl | hy
      · exact hb
      · exact WideShapes.bytes_trans _ _ _ hb (h1.1 y hy)
    · split
      · rename_i _ hx
        subst hx
        exact List.pairwise_cons.2 ⟨h1.1, h1.2⟩
      · rename_i hb hx
        refine List.pairwise_cons.2 ⟨fun y hy => ?_, rises_put h1.2 p t⟩
        rcases mem_put r p t y hy with rfl | hy
        · rcases WideAt.bytes_total x.1 p hx with hh | hh
          · exact hh
          · exact absurd hh (by simpa using hb)
        · exact h1.1 y hy
theorem rises_del {l : List (List UInt8 × α)} (h : Rises l) (p : List UInt8) : Rises (del l p) := List.Pairwise.filter _ h
theorem look_some {l : List (List UInt8 × α)} {p : List UInt8} {t : α} (h : look l p = some t) : (p, t) ∈ l := by
  unfold look at h
  cases hf : l.find? (fun x => x.1 == p) with
  | none => rw [hf] at h; simp at h
  | some x =>
    rw [hf] at h
    simp at h
    have h1 := List.mem_of_find?_eq_some hf
    have h2 := List.find?_some hf
    simp at h2
    obtain ⟨a, b⟩ := x
    simp at h h2
    subst h h2
    exact h1
theorem look_mem : ∀ {l : List (List UInt8 × α)}, Rises l → ∀ {x : List UInt8 × α}, x ∈ l → look l x.1 = some x.2
  | [], _, x, hx => by simp at hx
  | y :: r, h, x, hx => by
    have h1 := List.pairwise_cons.1 h
    rw [look_cons]
    rcases List.mem_cons.1 hx with rfl | hx
    · simp
    · rw [if_neg (before_ne (h1.1 x hx))]
      exact look_mem h1.2 hx
/-- Two that have the same at each key are one. -/
theorem ext : ∀ {a b : List (List UInt8 × α)}, Rises a → Rises b → (∀ p, look a p = look b p) → a = b
  | [], [], _, _, _ => rfl
  | [], y :: s, _, _, h => by have := h y.1; rw [look_nil, look_cons] at this; simp at this
  | x :: r, [], _, _, h => by have := h x.1; rw [look_nil, look_cons] at this; simp at this
  | x :: r, y :: s, ha, hb, h => by
    have h1 := List.pairwise_cons.1 ha
    have h2 := List.pairwise_cons.1 hb
    have hxy : x.1 = y.1 := by
      refine Decidable.byContradiction fun hne => ?_
      rcases WideAt.bytes_total x.1 y.1 hne with hh | hh
      · have e := h x.1
        rw [look_cons, if_pos rfl, look_cons, if_neg (fun e => hne e.symm)] at e
        have := look_some e.symm
        have := h2.1 _ this
        rw [before_asymm hh] at this
        exact absurd this (by simp)
      · have e := h y.1
        rw [look_cons, if_neg hne, look_cons, if_pos rfl] at e
        have := look_some e
        have := h1.1 _ this
        rw [before_asymm hh] at this
        exact absurd this (by simp)
    have hv : x.2 = y.2 := by
      have e := h x.1
      rw [look_cons, if_pos rfl, look_cons, if_pos hxy.symm] at e
      exact Option.some.inj e
    have hx : x = y := by
      obtain ⟨a, b⟩ := x
      obtain ⟨c, d⟩ := y
      simp at hxy hv
      rw [hxy, hv]
    subst hx
    congr 1
    refine ext h1.2 h2.2 fun p => ?_
    by_cases hp : x.1 = p
    · subst hp
      have e1 : look r x.1 = none := by
        cases hh : look r x.1 with
        | none => rfl
        | some t => exact absurd rfl (before_ne (h1.1 (x.1, t) (look_some hh)))
      have e2 : look s x.1 = none := by
        cases hh : look s x.1 with
        | none => rfl
        | some t => exact absurd rfl (before_ne (h2.1 (x.1, t) (look_some hh)))
      rw [e1, e2]
    · have e := h p
      rw [look_cons, look_cons, if_neg hp, if_neg hp] at e
      exact e
theorem length_put_le : ∀ (l : List (List UInt8 × α)) (p : List UInt8) (t : α), (put l p t).length ≤ l.length + 1
  | [], p, t => by simp [put]
  | x :: r, p, t => by
    have := length_put_le r p t
    rw [put]
    split
    · simp
    · split
      · simp
      · simp; omega
end SM
/-- What lies in a map's places. -/
structure El (α : Type) where
  val : α → Value
  dat : α → DataW Unit
  R : Value → Option (DataW Unit × List MemPlace)
  read : ∀ x, R (val x) = some (dat x, [])
  inv : ∀ v x ps, R v = some (dat x, ps) → v = val x
  all : ∀ v y, R v = some y → ∃ c, v = val c
namespace SM
variable {α : Type}
def enc (E : El α) (l : List (List UInt8 × α)) : DataW Unit := .map (l.map fun x => (.string x.1, E.dat x.2))
theorem enc_has (E : El α) (l : List (List UInt8 × α)) (p : List UInt8) : Maps.has (enc E l) (.string p) = (look l p).isSome := by
  unfold enc
  rw [Maps.has_eq]
  induction l with
  | nil => rfl
  | cons x r ih =>
    rw [List.map_cons, List.any_cons, ih, look_cons]
    show ((x.1 == p) || _) = _
    by_cases h : x.1 = p
    · simp [h]
    · simp [h]
theorem enc_has_not (E : El α) (l : List (List UInt8 × α)) (k : Lit) (hk : ∀ p, k ≠ .string p) : Maps.has (enc E l) k = false := by
  unfold enc
  rw [Maps.has_eq]
  induction l with
  | nil => rfl
  | cons x r ih =>
    rw [List.map_cons, List.any_cons, ih, Bool.or_false]
    cases k with
    | string p => exact absurd rfl (hk p)
    | _ => rfl
theorem enc_at (E : El α) (l : List (List UInt8 × α)) (p : List UInt8) (z : DataW Unit) : (enc E l).atKey (.string p) z = match look l p with | some x => E.dat x | none => z := by
  unfold enc DataW.atKey
  simp only
  induction l with
  | nil => rfl
  | cons x r ih =>
    rw [List.map_cons, List.find?_cons, look_cons]
    have e : (Lit.string x.1).sameKey (.string p) = (x.1 == p) := rfl
    simp only [e]
    by_cases h : x.1 = p
    · rw [beq_iff_eq.2 h, if_pos h]
    · rw [beq_eq_false_iff_ne.2 h, if_neg h]
      exact ih
theorem enc_canon (E : El α) {l : List (List UInt8 × α)} (h : Rises l) : Maps.Canon (enc E l) := by
  refine ⟨_, rfl, ?_, fun p hp => ?_⟩
  · rw [List.pairwise_map]
    exact h.imp fun h => h
  · obtain ⟨x, _, rfl⟩ := List.mem_map.1 hp
    trivial
end SM
/-- Block b is a map that holds the pairs l. -/
structure SMap (P : Program) (k : TypeId) {α : Type} (E : El α) (w : World) (b n : Nat) (l : List (List UInt8 × α)) : Prop where
  own : w.ownsMap P k E.R b n (SM.enc E l)
  rises : SM.Rises l
theorem keyOf_string_inv {P : Program} {k : TypeId} (hk : P.underlying k = some .string) {key : Value} {kl : Lit} (h : keyOf P k key = some kl) : ∃ s : ByteArray, key = .string s ∧ kl = .string s.data.toList ∧ s.size ≤ maxLen := by
  rw [keyOf_string hk] at h
  unfold mapKey at h
  rw [hk] at h
  cases key with
  | string s =>
    simp at h
    exact ⟨s, rfl, h.2.symm, h.1⟩
  | _ => simp at h
section
variable {P : Program} {k : TypeId} {α : Type} {E : El α} {w : World} {b n : Nat} {l : List (List UInt8 × α)}
theorem SMap.made (w : World) : SMap P k E (w.alloc (.map #[] 0)) w.heap.size 0 [] := ⟨World.ownsMap_made _ _ _ _, SM.rises_nil⟩
theorem SMap.kept {w' : World} {row : Option Nat} (h : SMap P k E w b n l) (hg : w.grownBy w' row) (hne : some b ≠ row) : SMap P k E w' b n l := ⟨h.own.kept hg hne, h.rises⟩
theorem SMap.alloc (h : SMap P k E w b n l) (o : Obj) : SMap P k E (w.alloc o) b n l := ⟨h.own.alloc o, h.rises⟩
theorem SMap.drewN (h : SMap P k E w b n l) (q : Nat) : SMap P k E (w.drewN q) b n l := ⟨h.own, h.rises⟩
theorem SMap.lt (h : SMap P k E w b n l) : b < w.heap.size := h.own.lt
theorem SMap.mono (h : SMap P k E w b n l) {n' : Nat} (hn : n ≤ n') : SMap P k E w b n' l := ⟨h.own.mono hn, h.rises⟩
theorem SMap.below {w' : World} {B : Nat} (h : SMap P k E w b n l) (hb : Below B w w') (hB : b < B) : SMap P k E w' b n l := by
  obtain ⟨⟨es, clock, h1, h2⟩, h3⟩ := h
  exact ⟨⟨es, clock, (hb.block b hB).trans h1, h2⟩, h3⟩
theorem enc_put_of {D : DataW Unit} {p : List UInt8} {t : α} (hr : SM.Rises l) (hD : D = (SM.enc E l).put (.string p) (E.dat t)) (hc : Maps.Canon D) : D = SM.enc E (SM.put l p t) := by
  have hm : Maps.IsMap (SM.enc E l) := ⟨_, rfl⟩
  refine Maps.ext hc (SM.enc_canon E (SM.rises_put hr p t)) (fun q => ?_) (fun q z _ => ?_)
  · rw [hD]
    by_cases hq : q = .string p
    · subst hq
      rw [Maps.has_put_same hm (show WideAt.IsKeyLit (.string p) from trivial), SM.enc_has, SM.look_put]
      simp
    · rw [Maps.has_put_other hq]
      cases q with
      | string q =>
        rw [SM.enc_has, SM.enc_has, SM.look_put, if_neg (fun e => hq (by rw [e]))]
      | _ => rw [SM.enc_has_not _ _ _ (by intro p; simp), SM.enc_has_not _ _ _ (by intro p; simp)]
  · rw [hD]
    by_cases hq : q = .string p
    · subst hq
      rw [Maps.atKey_put_same hm (show WideAt.IsKeyLit (.string p) from trivial), SM.enc_at, SM.look_put]
      simp
    · rw [Maps.atKey_put_other hq]
      cases q with
      | string q =>
        rw [SM.enc_at, SM.enc_at, SM.look_put, if_neg (fun e => hq (by rw [e]))]
      | _ =>
        rename_i hh
        rw [hD, Maps.has_put_other hq, SM.enc_has_not _ _ _ (by intro p; simp)] at hh
        exact absurd hh (by simp)
theorem enc_del_of {D : DataW Unit} {p : List UInt8} (hr : SM.Rises l) (hD : D = (SM.enc E l).del (.string p)) (hc : Maps.Canon D) : D = SM.enc E (SM.del l p) := by
  refine Maps.ext hc (SM.enc_canon E (SM.rises_del hr p)) (fun q => ?_) (fun q z _ => ?_)
  · rw [hD]
    by_cases hq : q = .string p
    · subst hq
      rw [Maps.has_del_same, SM.enc_has, SM.look_del]
      simp
    · rw [Maps.has_del_other hq]
      cases q with
      | string q =>
        rw [SM.enc_has, SM.enc_has, SM.look_del, if_neg (fun e => hq (by rw [e]))]
      | _ => rw [SM.enc_has_not _ _ _ (by intro p; simp), SM.enc_has_not _ _ _ (by intro p; simp)]
  · rw [hD]
    by_cases hq : q = .string p
    · subst hq
      rw [Maps.atKey_del_same, SM.enc_at, SM.look_del]
      simp
    · rw [Maps.atKey_del_other hq]
      cases q with
      | string q =>
        rw [SM.enc_at, SM.enc_at, SM.look_del, if_neg (fun e => hq (by rw [e]))]
      | _ =>
        rename_i hh
        rw [hD, Maps.has_del_other hq, SM.enc_has_not _ _ _ (by intro p; simp)] at hh
        exact absurd hh (by simp)
end
section
variable {P : Program} {k : TypeId} {α : Type} {w : World} {b n : Nat} {l : List (List UInt8 × α)} {ops : Array Oper} {rest : List Oper} {o : Oper} {a : Act} {Q : Exit → Act → World → Prop}
/-- .. as an equation, for a region that draws. -/
theorem SMap.run_ok {E : El α} (h : SMap P k E w b n l) {t e : TypeId} (hk : P.underlying k = some .string) (ht : P.underlying t = some (.map k e)) (z0 : α) (hz : ∀ w, (zeroValue e).run P w = .ok (E.val z0) w) (s : ByteArray) (hs : s.size ≤ maxLen)
    (v : Value) (hv : E.val ((SM.look l s.data.toList).getD z0) = v) (f : Bool) (hf : (SM.look l s.data.toList).isSome = f) :
    (Instr.lookup t (.map (some b)) (.string s) true).run P w = .ok (.tuple #[v, .bool f]) w := by
  obtain ⟨u, ps, hrun, hu⟩ := h.own.look_ok (string_keyed hk) ht (hz w) (E.read z0) (WideMaps.keyOf_string_mk hk hs)
  have hu2 : u = v := by
    rw [← hv]
    refine E.inv u _ ps ?_
    rw [hu, SM.enc_at]
    cases SM.look l s.data.toList <;> rfl
  rw [hrun, hu2, SM.enc_has, hf]
theorem SMap.of_heap {E : El α} {w' : World} (h : SMap P k E w b n l) (he : w'.heap[b]? = w.heap[b]?) : SMap P k E w' b n l := by
  obtain ⟨⟨es, clock, h1, h2⟩, h3⟩ := h
  exact ⟨⟨es, clock, he.trans h1, h2⟩, h3⟩
/-- 'v, ok := m[k]'. -/
theorem wpList_look_ok (E : El α) (hg : o.guard = none) (m x : Operand) (t : TypeId) (hop : o.op = Op.lookup t m x true) (e : TypeId) (hk : P.underlying k = some .string) (ht : P.underlying t = some (.map k e))
    (z0 : α) (hz : (zeroValue e).run P w = .ok (E.val z0) w) (hm : a.eval m = .map (some b)) (h : SMap P k E w b n l) (s : ByteArray) (hs : s.size ≤ maxLen) (hx : a.eval x = .string s)
    (v : Value) (hv : E.val ((SM.look l s.data.toList).getD z0) = v) (f : Bool) (hf : (SM.look l s.data.toList).isSome = f)
    (hK : wpList P ops Q rest (a.put o.dst (.tuple #[v, .bool f])) w) : wpList P ops Q (o :: rest) a w := by
  refine wpList_lookup_own_ok w hg m x t hop k e (string_keyed hk) ht E.R hz (E.dat z0) [] (E.read z0) b n _ hm h.own (.string s) (.string s.data.toList) hx (Go.WideMaps.keyOf_string_mk hk hs) fun u ps hu => ?_
  have hu2 : u = v := by
    rw [← hv]
    refine E.inv u _ ps ?_
    rw [hu, SM.enc_at]
    cases SM.look l s.data.toList <;> rfl
  rw [hu2, SM.enc_has, hf]
  exact hK
/-- 'm[k]'. -/
theorem wpList_look (E : El α) (hg : o.guard = none) (m x : Operand) (t : TypeId) (hop : o.op = Op.lookup t m x false) (e : TypeId) (hk : P.underlying k = some .string) (ht : P.underlying t = some (.map k e))
    (z0 : α) (hz : (zeroValue e).run P w = .ok (E.val z0) w) (hm : a.eval m = .map (some b)) (h : SMap P k E w b n l) (s : ByteArray) (hs : s.size ≤ maxLen) (hx : a.eval x = .string s)
    (v : Value) (hv : E.val ((SM.look l s.data.toList).getD z0) = v)
    (hK : wpList P ops Q rest (a.put o.dst v) w) : wpList P ops Q (o :: rest) a w := by
  refine wpList_plain hg fun K' hK' => ?_
  obtain ⟨u, ps, hrun, hu⟩ := h.own.lookup (string_keyed hk) ht hz (E.read z0) (Go.WideMaps.keyOf_string_mk hk hs)
  have hu2 : u = v := by
    rw [← hv]
    refine E.inv u _ ps ?_
    rw [hu, SM.enc_at]
    cases SM.look l s.data.toList <;> rfl
  unfold Oper.wp
  simp [execOp, hop, hm, hx, hrun, Result.andThen]
  rw [hu2]
  exact hK' _ _ hK
/-- 'm[k] = v'. -/
theorem wpList_put (E : El α) (hg : o.guard = none) (m x v : Operand) (t : TypeId) (hop : o.op = Op.mapUpdate t m x v) (e : TypeId) (hk : P.underlying k = some .string) (ht : P.underlying t = some (.map k e))
    (hm : a.eval m = .map (some b)) (h : SMap P k E w b n l) (hn : n < maxLen) (s : ByteArray) (hs : s.size ≤ maxLen) (hx : a.eval x = .string s) (c : α) (val : Value) (hval : val = E.val c) (hv : a.eval v = val)
    (hK : ∀ w', SMap P k E w' b (n + 1) (SM.put l s.data.toList c) → w.grownBy w' (some b) → wpList P ops Q rest (a.put o.dst undef) w') : wpList P ops Q (o :: rest) a w := by
  refine wpList_mapUpdate_own w hg m x v t hop k e (string_keyed hk) ht E.R b n _ hm h.own hn (.string s) val (.string s.data.toList) hx hv (Go.WideMaps.keyOf_string_mk hk hs) (E.dat c) [] (by rw [hval]; exact E.read c) fun w' h1 h2 => hK w' ?_ h2
  have hc := h1.canon (string_keyed hk)
  refine ⟨?_, SM.rises_put h.rises _ _⟩
  rw [← enc_put_of h.rises rfl hc]
  exact h1
/-- 'delete(m, k)'. -/
theorem wpList_del (E : El α) (hg : o.guard = none) (m x : Operand) (t : TypeId) (hop : o.op = Op.call { callee := Callee.builtin Builtin.delete, args := #[m, x], argTypes := #[t, k] }) (e : TypeId) (hk : P.underlying k = some .string) (ht : P.underlying t = some (.map k e))
    (hm : a.eval m = .map (some b)) (h : SMap P k E w b n l) (s : ByteArray) (hs : s.size ≤ maxLen) (hx : a.eval x = .string s)
    (hK : ∀ w', SMap P k E w' b n (SM.del l s.data.toList) → w.grownBy w' (some b) → wpList P ops Q rest (a.put o.dst (.tuple #[])) w') : wpList P ops Q (o :: rest) a w := by
  refine wpList_delete_own w hg m x t k hop e (string_keyed hk) ht E.R b n _ hm h.own (.string s) (.string s.data.toList) hx (Go.WideMaps.keyOf_string_mk hk hs) fun w' h1 h2 => hK w' ?_ h2.grown
  have hc := h1.canon (string_keyed hk)
  refine ⟨?_, SM.rises_del h.rises _⟩
  rw [← enc_del_of h.rises rfl hc]
  exact h1
end
/-- 'for k, v := range m' under way: left: what is still to come. -/
structure SRange (P : Program) (k : TypeId) {α : Type} (E : El α) (w : World) (b r n : Nat) (l : List (List UInt8 × α)) (left : List UInt8 → Bool) (cnt : Nat) : Prop where
  rng : ∃ L, w.ranges P k E.R b r n (SM.enc E l) L cnt ∧ ∀ p, L (.string p) = left p
  rises : SM.Rises l
section
variable {P : Program} {k : TypeId} {α : Type} {E : El α} {w : World} {b r n : Nat} {l : List (List UInt8 × α)} {left : List UInt8 → Bool} {cnt : Nat}
theorem SRange.owns (h : SRange P k E w b r n l left cnt) : SMap P k E w b n l := by
  obtain ⟨⟨L, h1, _⟩, h2⟩ := h
  exact ⟨h1.owns, h2⟩
theorem SRange.left_eq (h : SRange P k E w b r n l left cnt) : w.rangeLeft b r = cnt := by
  obtain ⟨⟨L, h1, _⟩, _⟩ := h
  exact h1.left_eq
theorem SRange.lt (h : SRange P k E w b r n l left cnt) : r < w.heap.size := by
  obtain ⟨⟨L, h1, _⟩, _⟩ := h
  exact h1.lt
theorem SRange.kept {w' : World} {row : Option Nat} (h : SRange P k E w b r n l left cnt) (hg : w.grownBy w' row) (hb : some b ≠ row) (hr : some r ≠ row) : SRange P k E w' b r n l left cnt := by
  obtain ⟨⟨L, h1, h2⟩, h3⟩ := h
  exact ⟨⟨L, h1.kept hg hb hr, h2⟩, h3⟩
theorem SRange.alloc (h : SRange P k E w b r n l left cnt) (o : Obj) : SRange P k E (w.alloc o) b r n l left cnt := by
  obtain ⟨⟨L, h1, h2⟩, h3⟩ := h
  exact ⟨⟨L, h1.alloc o, h2⟩, h3⟩
theorem SRange.below {w' : World} {B : Nat} (h : SRange P k E w b r n l left cnt) (hb : Below B w w') (hB : b < B) (hR : r < B) : SRange P k E w' b r n l left cnt := by
  obtain ⟨⟨L, ⟨es, clock, since, seen, c0, h1, h2, h3, h4, h5, h6⟩, h7⟩, h8⟩ := h
  exact ⟨⟨L, ⟨es, clock, since, seen, c0, (hb.block b hB).trans h1, h2, h3, h4, (hb.block r hR).trans h5, h6⟩, h7⟩, h8⟩
end
section
variable {P : Program} {k : TypeId} {α : Type} {w : World} {b r n : Nat} {l : List (List UInt8 × α)} {left : List UInt8 → Bool} {cnt : Nat} {ops : Array Oper} {rest : List Oper} {o : Oper} {a : Act} {Q : Exit → Act → World → Prop}
/-- 'range m'. -/
theorem wpList_range (E : El α) (hg : o.guard = none) (m : Operand) (t : TypeId) (hop : o.op = Op.range t m) (e : TypeId) (hk : P.underlying k = some .string) (ht : P.underlying t = some (.map k e))
    (hm : a.eval m = .map (some b)) (h : SMap P k E w b n l)
    (hK : ∀ w' cnt, SRange P k E w' b w.heap.size n l (fun p => (SM.look l p).isSome) cnt → w.grownBy w' none → w'.heap.size = w.heap.size + 1 → wpList P ops Q rest (a.put o.dst (.pointer (some ⟨w.heap.size, 0, none⟩))) w') :
    wpList P ops Q (o :: rest) a w :=
  wpList_range_own w hg m t hop k e (string_keyed hk) ht E.R b n _ hm h.own fun w' h1 h2 h3 => hK w' _ ⟨⟨_, h1, fun p => SM.enc_has E l p⟩, h.rises⟩ h2 h3
/-- The step. -/
theorem wpList_next (E : El α) (hg : o.guard = none) (it : Operand) (hop : o.op = Op.next it false) (hk : P.underlying k = some .string) (mk : α → Value) (hmk : ∀ c, E.val c = mk c)
    (hit : a.eval it = .pointer (some ⟨r, 0, none⟩)) (h : SRange P k E w b r n l left cnt)
    (hDone : (∀ p, left p = false) → wpList P ops Q rest (a.put o.dst (.tuple #[.bool false])) w)
    (hMore : ∀ (s : ByteArray) (c : α) (w' : World) (cnt' : Nat), left s.data.toList = true → SM.look l s.data.toList = some c → s.size ≤ maxLen → SRange P k E w' b r n l (fun q => left q && !(q == s.data.toList)) cnt' → cnt' < cnt →
      w.grownBy w' (some r) → w'.heap.size = w.heap.size → (Instr.entry (.pointer (some ⟨r, 0, none⟩))).run P w' = .ok (.tuple #[.string s, mk c]) w' → wpList P ops Q rest (a.put o.dst (.tuple #[.bool true, .string s, mk c])) w') :
    wpList P ops Q (o :: rest) a w := by
  obtain ⟨⟨L, h1, h2⟩, h3⟩ := h
  refine wpList_next_ranges w hg it hop k (string_keyed hk) E.R Value.string mk (fun key kl hkey => ?_) (fun v y hv => ?_) b r n _ L cnt hit h1 (fun h0 hl => hDone fun p => by rw [← h2, hl]) (fun x c kl y w' cnt' hkey hlk hv hat hrg hlt hgr hsz hen => ?_)
  · obtain ⟨s, rfl, _⟩ := keyOf_string_inv hk hkey
    exact ⟨s, rfl⟩
  · obtain ⟨c, rfl⟩ := E.all v y hv
    exact ⟨c, hmk c⟩
  · obtain ⟨s, hs, rfl, hsz'⟩ := keyOf_string_inv hk hkey
    injection hs with hs
    subst hs
    have hhas := Maps.has_true_of_atKey hat
    rw [SM.enc_has] at hhas
    obtain ⟨c0, hc0⟩ := Option.isSome_iff_exists.1 hhas
    have hy := hat (E.dat c0)
    rw [SM.enc_at, hc0] at hy
    simp only at hy
    have hcc : mk c = E.val c0 := E.inv _ _ y.2 (by rw [hv, hy])
    rw [hcc, hmk c0] at hen ⊢
    exact hMore x c0 w' cnt' (by rw [← h2]; exact hlk) hc0 hsz' ⟨⟨_, hrg, fun q => by
      show (L (.string q) && !(Lit.string q).sameKey (.string x.data.toList)) = _
      rw [h2]; rfl⟩, h3⟩ hlt hgr hsz hen
end
end Go.Proofs.YtdogacgpfnolfaaGreatDoor
