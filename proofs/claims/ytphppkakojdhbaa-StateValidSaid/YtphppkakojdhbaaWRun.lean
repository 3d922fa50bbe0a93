/- Plain functions: predicate transformers, and the laws by which the interpreter's code is one of them. -/
import Derived.Test.YtphppkakojdhbaaWAttr
set_option linter.unusedSimpArgs false
set_option linter.unusedVariables false
namespace Go.Aiv
open W
section
variable {σ ρ α : Type} {step : σ → W (σ ⊕ ρ)}

/-- A loop by what it answers from each state, and by how far it is from its end. -/
theorem run_by (R : σ → ρ) (μ : σ → Nat) (J : σ → Prop) (h : ∀ s, J s → step s = .pure (.inr (R s)) ∨ ∃ s', step s = .pure (.inl s') ∧ J s' ∧ μ s' < μ s ∧ R s = R s') :
    ∀ s, J s → run step s = .pure (R s) := by
  have key : ∀ n s, μ s ≤ n → J s → run step s = .pure (R s) := by
    intro n
    induction n with
    | zero =>
      intro s hn hJ
      rw [run_eq]
      rcases h s hJ with h1 | ⟨s', _, _, hm, _⟩
      · rw [h1]; rfl
      · omega
    | succ n ih =>
      intro s hn hJ
      rw [run_eq]
      rcases h s hJ with h1 | ⟨s', h1, hJ', hm, hR⟩
      · rw [h1]; rfl
      · rw [h1, hR]
        exact ih s' (by omega) hJ'
  exact fun s hJ => key (μ s) s (Nat.le_refl _) hJ

/-- A loop that ends. -/
theorem run_ex (μ : σ → Nat) (J : σ → Prop) (h : ∀ s, J s → (∃ r, step s = .pure (.inr r)) ∨ ∃ s', step s = .pure (.inl s') ∧ J s' ∧ μ s' < μ s) :
    ∀ s, J s → ∃ r, run step s = .pure r := by
  have key : ∀ n s, μ s ≤ n → J s → ∃ r, run step s = .pure r := by
    intro n
    induction n with
    | zero =>
      intro s hn hJ
      rw [run_eq]
      rcases h s hJ with ⟨r, h1⟩ | ⟨s', _, _, hm⟩
      · exact ⟨r, by rw [h1]; rfl⟩
      · omega
    | succ n ih =>
      intro s hn hJ
      rw [run_eq]
      rcases h s hJ with ⟨r, h1⟩ | ⟨s', h1, hJ', hm⟩
      · exact ⟨r, by rw [h1]; rfl⟩
      · obtain ⟨r, hr⟩ := ih s' (by omega) hJ'
        exact ⟨r, by rw [h1]; exact hr⟩
  exact fun s hJ => key (μ s) s (Nat.le_refl _) hJ

theorem run_out {s : σ} {r : ρ} (h : step s = .pure (.inr r)) : run step s = .pure r := by rw [run_eq, h]; rfl
theorem run_on {s s' : σ} (h : step s = .pure (.inl s')) : run step s = run step s' := by rw [run_eq, h]; rfl

/-- Places counted up to the end. -/
theorem run_up {step : Int → W (Int ⊕ ρ)} {n : Nat} (R : Nat → ρ) (h : ∀ i, i < n → step (i : Int) = .pure (.inr (R i)) ∨ step (i : Int) = .pure (.inl ((i + 1 : Nat) : Int)) ∧ R i = R (i + 1))
    (h0 : step (n : Int) = .pure (.inr (R n))) : ∀ i, i ≤ n → run step (i : Int) = .pure (R i) := by
  have key : ∀ k i, i + k = n → run step (i : Int) = .pure (R i) := by
    intro k
    induction k with
    | zero => intro i hi; obtain rfl : i = n := by omega
              exact run_out h0
    | succ k ih =>
      intro i hi
      rcases h i (by omega) with h1 | ⟨h1, h2⟩
      · exact run_out h1
      · rw [run_on h1, h2]; exact ih (i + 1) (by omega)
  exact fun i hi => key (n - i) i (by omega)

theorem idx_at {xs : List α} {i : Nat} {x : α} {k : α → W ρ} (h : xs[i]? = some x) : idx xs (i : Int) k = k x := by
  unfold idx at'
  rw [need_pos (by omega), Int.toNat_natCast, h]; rfl
theorem idx_get {xs : List α} {i : Nat} {k : α → W ρ} (h : i < xs.length) : idx xs (i : Int) k = k xs[i] := idx_at (List.getElem?_eq_getElem h)
theorem idx_out {xs : List α} {i : Int} {k : α → W ρ} (h : ¬ (0 ≤ i ∧ i < xs.length)) : idx xs i k = .fail := by
  unfold idx at'
  refine eq_of fun Q => ⟨fun h' => ?_, fun h' => h'.elim⟩
  obtain ⟨h1, h2⟩ := h'
  rw [List.getElem?_eq_none (by omega)] at h2
  exact h2
theorem at_at {xs : List α} {i : Nat} {x : α} {k : α → W ρ} (h : xs[i]? = some x) : at' xs i k = k x := by
  unfold at'; rw [h]; rfl
theorem w64_nat {n : Nat} (h : n ≤ 9223372036854775807) : w64 (n : Int) = n := w64_id (by omega) (by omega)
theorem w64_succ {n : Nat} (h : n < 9223372036854775807) : w64 ((n : Int) + 1) = ((n + 1 : Nat) : Int) := by rw [w64_id (by omega) (by omega)]; rfl
theorem w64_pred {n : Nat} (h : n < 9223372036854775807) : w64 (((n + 1 : Nat) : Int) - 1) = (n : Int) := by rw [w64_id (by omega) (by omega)]; omega
theorem cond_dec {p : Prop} [Decidable p] {x y : W ρ} : cond (decide p) x y = if p then x else y := by by_cases h : p <;> simp [h]
theorem cond_yes {c : Bool} {x y : W ρ} (h : c = true) : cond c x y = x := by rw [h]; rfl
theorem cond_no {c : Bool} {x y : W ρ} (h : c = false) : cond c x y = y := by rw [h]; rfl
theorem cond_pure {c : Bool} {a b : ρ} : cond c (.pure a) (.pure b) = (.pure (cond c a b) : W ρ) := by cases c <;> rfl
end
end Go.Aiv

