/- A scope in which the run jumps back to several labels: what holds at each, and a measure that every pass lowers. -/
import Derived.Scope
import Derived.ScopeJumps
namespace Go
/-- As Q; by a goto to label l: J l; -/
def Exit.jumps (J : Nat → Act → World → Prop) (Q : Exit → Act → World → Prop) : Exit → Act → World → Prop
  | .goto l, a, w => J l a w
  | e, a, w => Q e a w
section
variable {P : Program} {a : Act} {w : World} {Q : Exit → Act → World → Prop}
@[go_sem] theorem Exit.jumps_goto (J : Nat → Act → World → Prop) (l : Nat) : Exit.jumps J Q (.goto l) a w = J l a w := rfl
@[go_sem] theorem Exit.jumps_ret (J : Nat → Act → World → Prop) : Exit.jumps J Q .ret a w = Q .ret a w := rfl
@[go_sem] theorem Exit.jumps_normal (J : Nat → Act → World → Prop) : Exit.jumps J Q .normal a w = Q .normal a w := rfl
@[go_sem] theorem Exit.jumps_exit (J : Nat → Act → World → Prop) (id : Nat) : Exit.jumps J Q (.exit id) a w = Q (.exit id) a w := rfl
theorem wp_scope_labels {c : Code} (rest : Nat → Code) (J : Nat → Act → World → Prop) (μ : Nat → Act → World → Nat) (hf : ∀ l a w, J l a w → findLabel c l = some (rest l))
    (first : c.wp P (Exit.jumps J Q) a w)
    (pass : ∀ l a w, J l a w → (rest l).wp P (Exit.jumps (fun l' a' w' => J l' a' w' ∧ μ l' a' w' < μ l a w) Q) a w) : (Code.scope c).wp P Q a w := by
  intro b k cs
  have hg : ∀ l a w, J l a w → gotoIn l (.inScope c :: k) = some (.code (rest l) :: .inScope c :: k) := fun l a w h => by simp [gotoIn, hf l a w h]
  have key : ∀ n l a w, μ l a w = n → J l a w → ∃ e a' w', Q e a' w' ∧ Arrives P (lone (b.at a (.code (rest l) :: .inScope c :: k)) cs w) b k cs e a' w' := by
    intro n
    induction n using Nat.strongRecOn with
    | _ n ih =>
      intro l a w hn hJ
      obtain ⟨e, a₁, w₁, hq, harr⟩ := pass l a w hJ b (.inScope c :: k) cs
      cases e with
      | normal => exact ⟨.normal, a₁, w₁, hq, Steps.trans harr (.one step_inScope)⟩
      | exit id => exact ⟨.exit id, a₁, w₁, hq, fun k' hk => harr k' (by simp [exitTo, hk])⟩
      | goto l' =>
        obtain ⟨hJ', hlt⟩ := hq
        obtain ⟨e₂, a₂, w₂, hq₂, harr₂⟩ := ih _ (by omega) l' a₁ w₁ rfl hJ'
        exact ⟨e₂, a₂, w₂, hq₂, .of_steps (harr _ (hg l' a₁ w₁ hJ')) harr₂⟩
      | ret => exact ⟨_, a₁, w₁, hq, harr⟩
      | panic ch => exact ⟨_, a₁, w₁, hq, harr⟩
      | outgrown => exact ⟨_, a₁, w₁, hq, harr⟩
  obtain ⟨e, a₁, w₁, hq, harr⟩ := first b (.inScope c :: k) cs
  cases e with
  | normal => exact ⟨.normal, a₁, w₁, hq, .head step_scope (Steps.trans harr (.one step_inScope))⟩
  | exit id => exact ⟨.exit id, a₁, w₁, hq, fun k' hk => .head step_scope (harr k' (by simp [exitTo, hk]))⟩
  | goto l' =>
    obtain ⟨e₂, a₂, w₂, hq₂, harr₂⟩ := key _ l' a₁ w₁ rfl hq
    exact ⟨e₂, a₂, w₂, hq₂, .of_steps (.head step_scope (harr _ (hg l' a₁ w₁ hq))) harr₂⟩
  | ret => exact ⟨_, a₁, w₁, hq, .of_steps (.one step_scope) harr⟩
  | panic ch => exact ⟨_, a₁, w₁, hq, .of_steps (.one step_scope) harr⟩
  | outgrown => exact ⟨_, a₁, w₁, hq, .of_steps (.one step_scope) harr⟩
/-- What the labels 0 to 3 hold, and that the measure is less than m. -/
def jumps4 (J0 J1 J2 J3 : Act → World → Prop) (μ : Nat → Act → World → Nat) (m : Nat) (l : Nat) (a : Act) (w : World) : Prop :=
  (match l with | 0 => J0 a w | 1 => J1 a w | 2 => J2 a w | 3 => J3 a w | _ => False) ∧ μ l a w < m
theorem wp_skip_seq {X : Code} (h : X.wp P Q a w) : (Code.skip.seq X).wp P Q a w := by
  refine wp_seq (wp_skip ?_)
  exact h
/-- The same for the labels 0 to 3, which stand one behind the other: 0, 1, 3: what is shown of a later one serves the earlier ones. -/
theorem wp_scope_4 {c r0 r1 r2 r3 : Code} (h0 : findLabel c 0 = some (Code.skip.seq r0)) (h1 : findLabel c 1 = some (Code.skip.seq r1)) (h2 : findLabel c 2 = some (Code.skip.seq r2)) (h3 : findLabel c 3 = some (Code.skip.seq r3))
    (J0 J1 J2 J3 : Act → World → Prop) (μ : Nat → Act → World → Nat)
    (pass2 : ∀ m a w, J2 a w → μ 2 a w ≤ m → r2.wp P (Exit.jumps (jumps4 J0 J1 J2 J3 μ m) Q) a w)
    (pass3 : (∀ m a w, J2 a w → μ 2 a w ≤ m → r2.wp P (Exit.jumps (jumps4 J0 J1 J2 J3 μ m) Q) a w) → ∀ m a w, J3 a w → μ 3 a w ≤ m → r3.wp P (Exit.jumps (jumps4 J0 J1 J2 J3 μ m) Q) a w)
    (pass1 : (∀ m a w, J3 a w → μ 3 a w ≤ m → r3.wp P (Exit.jumps (jumps4 J0 J1 J2 J3 μ m) Q) a w) → ∀ m a w, J1 a w → μ 1 a w ≤ m → r1.wp P (Exit.jumps (jumps4 J0 J1 J2 J3 μ m) Q) a w)
    (pass0 : (∀ m a w, J1 a w → μ 1 a w ≤ m → r1.wp P (Exit.jumps (jumps4 J0 J1 J2 J3 μ m) Q) a w) → ∀ m a w, J0 a w → μ 0 a w ≤ m → r0.wp P (Exit.jumps (jumps4 J0 J1 J2 J3 μ m) Q) a w)
    (first : (∀ m a w, J0 a w → μ 0 a w ≤ m → r0.wp P (Exit.jumps (jumps4 J0 J1 J2 J3 μ m) Q) a w) → ∃ m, c.wp P (Exit.jumps (jumps4 J0 J1 J2 J3 μ m) Q) a w) : (Code.scope c).wp P Q a w := by
  have k3 := pass3 pass2
  have k1 := pass1 k3
  have k0 := pass0 k1
  obtain ⟨m0, hfirst⟩ := first k0
  refine wp_scope_labels (fun l => match l with | 0 => Code.skip.seq r0 | 1 => Code.skip.seq r1 | 2 => Code.skip.seq r2 | 3 => Code.skip.seq r3 | _ => .skip) (fun l a w => match l with | 0 => J0 a w | 1 => J1 a w | 2 => J2 a w | 3 => J3 a w | _ => False) μ ?_ ?_ ?_
  · intro l a w h
    match l, h with
    | 0, _ => exact h0
    | 1, _ => exact h1
    | 2, _ => exact h2
    | 3, _ => exact h3
  · refine Code.wp_mono (fun e a w h => ?_) hfirst
    cases e with
    | goto l => exact h.1
    | normal => exact h
    | exit id => exact h
    | ret => exact h
    | panic ch => exact h
    | outgrown => exact h
  · intro l a w h
    match l, h with
    | 0, h => exact wp_skip_seq (k0 _ a w h (Nat.le_refl _))
    | 1, h => exact wp_skip_seq (k1 _ a w h (Nat.le_refl _))
    | 2, h => exact wp_skip_seq (pass2 _ a w h (Nat.le_refl _))
    | 3, h => exact wp_skip_seq (k3 _ a w h (Nat.le_refl _))
end
end Go
