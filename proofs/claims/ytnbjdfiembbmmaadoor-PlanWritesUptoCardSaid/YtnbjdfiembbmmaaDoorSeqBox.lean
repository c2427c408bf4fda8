/- A range over a function that keeps its state in a box of its own: the law that a caller takes. No program stands here. -/
import Derived.RangeFuncOwn
import Derived.RangeFuncCalls
import Derived.RangeFuncLeaves
import Derived.Below
namespace Go
open Go.RowKit
set_option linter.unusedVariables false
/-- How a round's body may be left: on, the iterator's boxes as they were; or by a return. -/
def boxPost (bl : List Nat) (I : List ByteArray → World → Prop) (Ix : List ByteArray → World → Prop) (pre : List ByteArray) (W : World) : Exit → Act → World → Prop
  | .normal, _, W' => KeepsOthers W W' ∧ (∀ b ∈ bl, W'.heap[b]? = W.heap[b]?) ∧ I pre W'
  | .ret, _, W' => KeepsOthers W W' ∧ Ix pre W'
  | _, _, _ => False
variable {F : Fence} {n : Nat} {P : Program}
theorem wpIn_rangeFunc_box {g : Operand} {p : Tmp} {assign body : Code} {Q : Exit → Act → World → Prop} {a : Act} {w : World}
    (hro : F.round = none) (h1 : 1 ≤ n) {gf : Nat} {lb : Array Value} (hg : a.eval g = .func (.func gf) #[] lb) (hFg : F.fn gf) (eg : ∀ args w, (callFunc gf args).run P w = .ok (.enter gf args) w)
    (bs : Nat) (hbs : bs < w.heap.size) (bl : List Nat) (hbl : ∀ b ∈ bl, b < w.heap.size) (xs : List ByteArray)
    (hseq : ∀ (l : Nat) (J Jx : List ByteArray → World → Prop) (W : World), (∀ b ∈ bl, W.heap[b]? = w.heap[b]?) → (∀ pre W1 u, J pre W1 → J pre (W1.setCell ⟨bs, 0, none⟩ u)) →
      (∀ pre x W1, J pre W1 → pre ++ [x] <+: xs → YieldAt F (n - 1 - 1) P l #[.string x] W1 fun e W' => (e = .returned (.bool true) ∧ J (pre ++ [x]) W' ∧ ∀ b ∈ bl, W'.heap[b]? = W1.heap[b]?) ∨ (e = .returned (.bool false) ∧ Jx (pre ++ [x]) W')) →
      J [] W → CallsIn F (n - 1) P gf (#[.func (.yield l) #[] #[]] ++ lb) W fun e W' => (∃ v, e = .returned v) ∧ (J xs W' ∨ ∃ pre, pre <+: xs ∧ Jx pre W'))
    (I Ix : List ByteArray → World → Prop) (hIa : ∀ pre W o, I pre W → I pre (W.alloc o)) (hIp : ∀ pre W l o, I pre W → w.heap.size ≤ l → I pre (W.putObj l o)) (hIs : ∀ pre W u, I pre W → I pre (W.setCell ⟨bs, 0, none⟩ u))
    (hXp : ∀ pre W l o, Ix pre W → w.heap.size ≤ l → Ix pre (W.putObj l o)) (h0 : I [] w) (a₁ : ByteArray → Act)
    (hassign : ∀ (l : Nat) (x : ByteArray) (W : World) (K : Act → World → Prop), K (a₁ x) W →
      assign.wpIn (F.inRound l) (n - 1 - 1) P (Exit.then K (fun _ _ _ => False)) { tmps := a.tmps.setIfInBounds p (.string x), defers := [] } W)
    (hbody : ∀ (l : Nat) (pre : List ByteArray) (x : ByteArray) (W : World), I pre W → pre ++ [x] <+: xs → body.wpIn (F.inRound l) (n - 1 - 1) P (boxPost bl I Ix (pre ++ [x]) W) (a₁ x) W)
    (hdone : ∀ (D : Nat) (W : World), w.heap.size ≤ D → I xs W → W.heap[D]? = some (.deferred (some [])) → Q .normal { a with defers := { target := .collected D, args := #[] } :: a.defers } W)
    (hstop : ∀ (D : Nat) (pre : List ByteArray) (W : World), w.heap.size ≤ D → pre <+: xs → Ix pre W → W.heap[D]? = some (.deferred (some [])) → Code.ret.wpIn F n P Q { a with defers := { target := .collected D, args := #[] } :: a.defers } W) :
    (Code.rangeFunc g #[p] assign body).wpIn F n P Q a w := by
  refine wpIn_rangeFunc fun fn hfn => ?_
  rw [hro]
  obtain ⟨rec, hrec⟩ : ∃ rec : LoopState → Option Code → Loop, rec = fun st pe => { state := st, pending := pe, fn, tmps := a.tmps, params := #[p], assign, body, defers := w.heap.size } := ⟨_, rfl⟩
  have hw1 : ∀ o o' : Obj, ((w.alloc o).alloc o').heap[w.heap.size + 1]? = some o' := fun o o' => by
    have := World.alloc_heap_new (w.alloc o) o'
    rwa [World.size_alloc] at this
  have hw0 : ∀ o o' : Obj, ((w.alloc o).alloc o').heap[w.heap.size]? = some o := fun o o' => (Below.heap_alloc _ _ _ (by simp)).trans (World.alloc_heap_new w o)
  have hrun := run_enterLoop_outer (P := P) (w := w) fn a.tmps #[p] assign body
  obtain ⟨W1, hW1⟩ : ∃ W1, W1 = (w.alloc (.deferred (some []))).alloc (.loop (rec .ready none)) := ⟨_, rfl⟩
  have hrun1 : (Instr.enterLoop fn a.tmps #[p] assign body none).run P w = .ok (w.heap.size + 1, [{ target := .collected w.heap.size, args := #[] }]) W1 := by rw [hrun, hW1, hrec]
  refine ⟨w.heap.size + 1, [{ target := .collected w.heap.size, args := #[] }], W1, { target := .fn (.func gf) lb, args := #[.func (.yield (w.heap.size + 1)) #[] #[]] }, W1, gf,
    #[.func (.yield (w.heap.size + 1)) #[] #[]] ++ lb, W1, hrun1, ?_, ?_, ?_, fun _ => h1, ?_⟩
  · simp only [resolve, hg]
    simp [go_sem]
  · intro f' hf'
    simp [Target.leads] at hf'
    subst hf'
    exact hFg
  · simp [invoke, go_sem, eg]
  · refine (hseq (w.heap.size + 1)
      (fun pre W => I pre W ∧ W.heap[w.heap.size + 1]? = some (.loop (rec .ready none)) ∧ W.heap[w.heap.size]? = some (.deferred (some [])))
      (fun pre W => Ix pre W ∧ W.heap[w.heap.size + 1]? = some (.loop (rec .done (some .ret))) ∧ W.heap[w.heap.size]? = some (.deferred (some [])))
      W1 ?_ ?_ ?_ ⟨by rw [hW1]; exact hIa _ _ _ (hIa _ _ _ h0), by rw [hW1]; exact hw1 _ _, by rw [hW1]; exact hw0 _ _⟩).mono ?_
    · intro b hb
      rw [hW1]
      have := hbl b hb
      exact (Below.heap_alloc _ _ _ (by simp; omega)).trans (Below.heap_alloc _ _ _ this)
    · rintro pre W2 u ⟨hi, hl, hk⟩
      exact ⟨hIs _ _ _ hi, (Below.heap_setCell _ _ _ _ (by show w.heap.size + 1 ≠ bs; omega)).trans hl, (Below.heap_setCell _ _ _ _ (by show w.heap.size ≠ bs; omega)).trans hk⟩
    · rintro pre x W ⟨hi, hl, hk⟩ hpre
      have hlt : w.heap.size + 1 < W.heap.size := (Array.getElem?_eq_some_iff.1 hl).1
      have hy := run_yield (P := P) (args := #[.string x]) hl (by rw [hrec]; rfl)
      rw [hrec] at hy
      have hfold : ((#[p].zip #[Value.string x]).foldl (fun tmps (x : Tmp × Value) => match x with | (t, a) => tmps.setIfInBounds t a) a.tmps) = a.tmps.setIfInBounds p (.string x) := by simp
      simp only [hfold] at hy
      refine ⟨fn, a.tmps.setIfInBounds p (.string x), assign, body, hy, roundIn_of_wpIn hfn (hassign _ x W _ ⟨_, run_beginRound hl (by rw [hrec]), ?_⟩)⟩
      have hl2 : (W.putObj (w.heap.size + 1) (.loop { rec .ready none with state := .busy })).heap[w.heap.size + 1]? = some (.loop { rec .ready none with state := .busy }) := World.putObj_heap_same hlt
      have hk2 : (W.putObj (w.heap.size + 1) (.loop { rec .ready none with state := .busy })).heap[w.heap.size]? = some (.deferred (some [])) := (World.putObj_heap_other (by omega)).trans hk
      refine wpIn_mono (hbody _ pre x _ (hIp _ _ _ _ hi (by omega)) hpre) ?_
      rintro e a3 W3 hp
      cases e with
      | normal =>
        obtain ⟨hk3, hkp3, hi3⟩ := hp
        have hl3 := hk3.same _ _ hl2 rfl
        have hr := run_endRound (P := P) none hl3
        rw [hrec] at hr hl3
        refine ⟨_, _, hr, .inl ⟨rfl, ⟨hIp _ _ _ _ hi3 (by omega), ?_, ?_⟩, fun b hb => ?_⟩⟩
        · rw [hrec]; exact World.putObj_heap_same (Array.getElem?_eq_some_iff.1 hl3).1
        · exact (World.putObj_heap_other (by omega)).trans (hk3.same _ _ hk2 rfl)
        · have := hbl b hb
          exact ((World.putObj_heap_other (by omega)).trans (hkp3 b hb)).trans (World.putObj_heap_other (by omega))
      | ret =>
        obtain ⟨hk3, hi3⟩ := hp
        have hl3 := hk3.same _ _ hl2 rfl
        have hr := run_endRound (P := P) (some .ret) hl3
        rw [hrec] at hr hl3
        refine ⟨_, _, hr, .inr ⟨rfl, hXp _ _ _ _ hi3 (by omega), ?_, ?_⟩⟩
        · rw [hrec]; exact World.putObj_heap_same (Array.getElem?_eq_some_iff.1 hl3).1
        · exact (World.putObj_heap_other (by omega)).trans (hk3.same _ _ hk2 rfl)
      | exit id => exact hp.elim
      | goto t => exact hp.elim
      | panic ch => exact hp.elim
      | outgrown => exact hp.elim
    · rintro e W2 ⟨⟨v, rfl⟩, ⟨hi, hl, hk⟩ | ⟨pre, hp, hi, hl, hk⟩⟩
      · have hr := run_endLoop (P := P) hl (by rw [hrec]; simp)
        rw [hrec] at hr
        exact ⟨none, _, hr, hdone _ _ (Nat.le_refl _) (hIp _ _ _ _ hi (by omega)) ((World.putObj_heap_other (by omega)).trans hk)⟩
      · have hr := run_endLoop (P := P) hl (by rw [hrec]; simp)
        rw [hrec] at hr
        exact ⟨some .ret, _, hr, hstop _ pre _ (Nat.le_refl _) hp (hXp _ _ _ _ hi (by omega)) ((World.putObj_heap_other (by omega)).trans hk)⟩
end Go
