/- A scope in which the run jumps back to one label: two laws by which a walk takes the label as a loop's head. No conditions. -/
import Derived.ScopeJumps
import Derived.Deep.LoopGhost
namespace Go.Proofs.YtheillkpgmpnlaaH
open Go
/-- The marks of a region's operations, in short. -/
abbrev T_ : Bool := true
abbrev F_ : Bool := false

/-- As Q; by a goto to label l: K; by another goto: no way out. -/
def jumpg (l : Nat) (K : Act → World → Prop) (Q : Exit → Act → World → Prop) : Exit → Act → World → Prop
  | .goto l', a, w => l' = l ∧ K a w
  | e, a, w => Q e a w
section
variable {P : Program} {Q : Exit → Act → World → Prop} {a : Act} {w : World} {K : Act → World → Prop} {l : Nat}
theorem jumpg_normal : jumpg l K Q .normal a w = Q .normal a w := rfl
theorem jumpg_exit (id : Nat) : jumpg l K Q (.exit id) a w = Q (.exit id) a w := rfl
theorem jumpg_ret : jumpg l K Q .ret a w = Q .ret a w := rfl
theorem jumpg_panic (ch : List PanicEntry) : jumpg l K Q (.panic ch) a w = Q (.panic ch) a w := rfl
theorem jumpg_outgrown : jumpg l K Q .outgrown a w = Q .outgrown a w := rfl
theorem jumpg_goto : jumpg l K Q (.goto l) a w = K a w := by simp [jumpg]

/-- From the label on the run comes out as Q says. -/
def Passes (P : Program) (c rest : Code) (Q : Exit → Act → World → Prop) (a : Act) (w : World) : Prop :=
  ∀ (b : Frame) (k : List Item) (cs : List Frame), ∃ e a' w', Q e a' w' ∧ Arrives P (lone (b.at a (.code rest :: .inScope c :: k)) cs w) b k cs e a' w'

theorem pass_of {c rest : Code} (hf : findLabel c l = some rest) (hw : rest.wp P (jumpg l (Passes P c rest Q) Q) a w) : Passes P c rest Q a w := by
  intro b k cs
  have hg : gotoIn l (.inScope c :: k) = some (.code rest :: .inScope c :: k) := by simp [gotoIn, hf]
  obtain ⟨e, a₁, w₁, hq, harr⟩ := hw b (.inScope c :: k) cs
  cases e with
  | normal => exact ⟨.normal, a₁, w₁, hq, Steps.trans harr (.one step_inScope)⟩
  | exit id => exact ⟨.exit id, a₁, w₁, hq, fun k' hk => harr k' (by simp [exitTo, hk])⟩
  | goto l' =>
    obtain ⟨rfl, hJ'⟩ := hq
    obtain ⟨e₂, a₂, w₂, hq₂, harr₂⟩ := hJ' b k cs
    exact ⟨e₂, a₂, w₂, hq₂, .of_steps (harr _ hg) harr₂⟩
  | ret => exact ⟨_, a₁, w₁, hq, harr⟩
  | panic ch => exact ⟨_, a₁, w₁, hq, harr⟩
  | outgrown => exact ⟨_, a₁, w₁, hq, harr⟩

theorem lab_enter {c rest : Code} (l : Nat) (hf : findLabel c l = some rest) (first : c.wp P (jumpg l (Passes P c rest Q) Q) a w) : (Code.scope c).wp P Q a w := by
  intro b k cs
  have hg : gotoIn l (.inScope c :: k) = some (.code rest :: .inScope c :: k) := by simp [gotoIn, hf]
  obtain ⟨e, a₁, w₁, hq, harr⟩ := first b (.inScope c :: k) cs
  cases e with
  | normal => exact ⟨.normal, a₁, w₁, hq, .head step_scope (Steps.trans harr (.one step_inScope))⟩
  | exit id => exact ⟨.exit id, a₁, w₁, hq, fun k' hk => .head step_scope (harr k' (by simp [exitTo, hk]))⟩
  | goto l' =>
    obtain ⟨rfl, hJ'⟩ := hq
    obtain ⟨e₂, a₂, w₂, hq₂, harr₂⟩ := hJ' b k cs
    exact ⟨e₂, a₂, w₂, hq₂, .of_steps (.head step_scope (harr _ hg)) harr₂⟩
  | ret => exact ⟨_, a₁, w₁, hq, .of_steps (.one step_scope) harr⟩
  | panic ch => exact ⟨_, a₁, w₁, hq, .of_steps (.one step_scope) harr⟩
  | outgrown => exact ⟨_, a₁, w₁, hq, .of_steps (.one step_scope) harr⟩

theorem jumpg_mono {K K' : Act → World → Prop} (h : ∀ a w, K a w → K' a w) (e : Exit) (a : Act) (w : World) (hq : jumpg l K Q e a w) : jumpg l K' Q e a w := by
  cases e with
  | goto l' => exact ⟨hq.1, h _ _ hq.2⟩
  | _ => exact hq

theorem skip_seq {R : Code} (h : R.wp P Q a w) : (Code.skip.seq R).wp P Q a w := wp_seq (wp_skip h)

/-- The label as a loop's head: an invariant that bears a number, which every jump back lowers. -/
theorem lab_ghost {c R : Code} (hf : findLabel c l = some (Code.skip.seq R)) (I : Nat → Act → World → Prop) (n₀ : Nat) (h₀ : I n₀ a w)
    (round : ∀ n a w, I n a w → ∀ (J : Nat → Act → World → Prop) (K : Act → World → Prop), (∀ k a' w', I k a' w' → J k a' w') → (∀ a' w', Handed J n a' w' → K a' w') → R.wp P (jumpg l K Q) a w) :
    R.wp P (jumpg l (Passes P c (Code.skip.seq R) Q) Q) a w := by
  have key : ∀ n a w, I n a w → R.wp P (jumpg l (Passes P c (Code.skip.seq R) Q) Q) a w := by
    intro n
    induction n using Nat.strongRecOn with
    | _ n ih =>
      intro a w hI
      refine wp_mono (round n a w hI I (fun a' w' => Passes P c (Code.skip.seq R) Q a' w') (fun _ _ _ q => q) ?_) (fun e a w q => q)
      rintro a' w' ⟨n', hlt, hI'⟩
      exact pass_of hf (skip_seq (ih n' hlt a' w' hI'))
  exact key n₀ a w h₀
/-- As lab_ghost, the invariant told over the frame in which the label was first come to. -/
theorem lab_ghost_at {c R : Code} (hf : findLabel c l = some (Code.skip.seq R)) (I : Act → Nat → Act → World → Prop) (n₀ : Nat) (h₀ : I a n₀ a w)
    (round : ∀ n a' w, I a n a' w → ∀ (J : Nat → Act → World → Prop) (K : Act → World → Prop), (∀ k a' w', I a k a' w' → J k a' w') → (∀ a' w', Handed J n a' w' → K a' w') → R.wp P (jumpg l K Q) a' w) :
    R.wp P (jumpg l (Passes P c (Code.skip.seq R) Q) Q) a w := lab_ghost hf (I a) n₀ h₀ round
end
end Go.Proofs.YtheillkpgmpnlaaH
