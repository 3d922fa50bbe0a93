/- Plain functions: predicate transformers, and the laws by which the interpreter's code is one of them. -/
import Derived.Test.YtphppkakojdhbaaA2
import Derived.Test.YtphppkakojdhbaaWRun
set_option linter.unusedSimpArgs false
set_option linter.unusedVariables false
namespace Go.Aiv
section
variable {P : Program} {n : Nat} {t : TypeId} {ds : List D}
theorem conf_int {k : IntKind} (hu : P.underlying t = some (.int k)) (h : conf P (n + 1) t ds) : ∃ i, ds = [.int k i] ∧ (Lit.int k i).wf = true := by
  simp only [conf, hu] at h; exact h
theorem conf_bool (hu : P.underlying t = some .bool) (h : conf P (n + 1) t ds) : ∃ b, ds = [.bool b] := by
  simp only [conf, hu] at h; exact h
theorem conf_str (hu : P.underlying t = some .string) (h : conf P (n + 1) t ds) : ∃ s, ds = [.str s] ∧ s.length ≤ maxLen := by
  simp only [conf, hu] at h; exact h
theorem conf_struct {fs : Array Field} (hu : P.underlying t = some (.struct fs)) (h : conf P (n + 1) t ds) : confFs (conf P n) fs.toList ds := by
  simp only [conf, hu] at h; exact h
theorem rows_of {α : Type} {f : α → List D} {p : α → Prop} : ∀ {es : Row}, (∀ e ∈ es, ∃ x, e = f x ∧ p x) → ∃ xs : List α, es = xs.map f ∧ ∀ x ∈ xs, p x
  | [], _ => ⟨[], rfl, fun _ h => by cases h⟩
  | e :: r, h => by
    obtain ⟨x, rfl, hx⟩ := h e (by simp)
    obtain ⟨xs, rfl, hxs⟩ := rows_of (es := r) fun e he => h e (by simp [he])
    refine ⟨x :: xs, rfl, fun y hy => ?_⟩
    rcases List.mem_cons.1 hy with rfl | hy
    · exact hx
    · exact hxs y hy
theorem conf_slice {α : Type} {e : TypeId} {f : α → List D} {p : α → Prop} (hu : P.underlying t = some (.slice e)) (he : ∀ ds, conf P n e ds → ∃ x, ds = f x ∧ p x) (h : conf P (n + 1) t ds) :
    ∃ xs : List α, ds = [.vec (xs.map f)] ∧ xs.length ≤ maxLen ∧ ∀ x ∈ xs, p x := by
  simp only [conf, hu] at h
  obtain ⟨es, rfl, hl, hx⟩ := h
  obtain ⟨xs, rfl, hp⟩ := rows_of fun e h' => he e (hx e h')
  exact ⟨xs, rfl, by simpa using hl, hp⟩
theorem dwV_struct {H : Type} {d : DataW H} {fs : Array Field} (hu : P.underlying t = some (.struct fs)) : dwV P t d = .agg (ofData (dwD d)) := by
  unfold dwV; rw [hu]
theorem dwV_slice {H : Type} {d : DataW H} {e : TypeId} {x : D} (hu : P.underlying t = some (.slice e)) (h : dwD d = [x]) : dwV P t d = .c (.d x) := by
  unfold dwV; rw [hu, h]
theorem dwV_int {H : Type} {d : DataW H} {k : IntKind} {x : D} (hu : P.underlying t = some (.int k)) (h : dwD d = [x]) : dwV P t d = .c (.d x) := by
  unfold dwV; rw [hu, h]
theorem dwV_bool {H : Type} {d : DataW H} {x : D} (hu : P.underlying t = some .bool) (h : dwD d = [x]) : dwV P t d = .c (.d x) := by
  unfold dwV; rw [hu, h]
theorem dwV_str {H : Type} {d : DataW H} {x : D} (hu : P.underlying t = some .string) (h : dwD d = [x]) : dwV P t d = .c (.d x) := by
  unfold dwV; rw [hu, h]
end

/-! The program of the interpreter, and the model's. -/
theorem lookN_mem {α : Type} {i : Nat} {a : α} : ∀ {l : List (Nat × α)}, lookN i l = some a → (i, a) ∈ l
  | (j, b) :: r, h => by
    unfold lookN at h
    by_cases e : j = i
    · rw [if_pos e] at h; cases h; subst e; simp
    · rw [if_neg e] at h; simp [lookN_mem h]
def CodeAt (P : Program) (F : List (Nat × Nat)) (SP : SProg) (p : Nat × Nat) : Prop := ∀ sf, SP.fn p.2 = some sf → ∃ fn K, P.funcs[p.1]? = some fn ∧ K.fnOf = F ∧ compF P K fn = some sf
theorem codeAt_of {P : Program} {F : List (Nat × Nat)} {SP : SProg} {i g : Nat} {K : Cfg} {sf : SFunc} (h : (P.funcs[i]?).bind (compF P K) = some sf) (hK : K.fnOf = F) (hf : SP.fn g = some sf) : CodeAt P F SP (i, g) := by
  intro sf' h'
  cases hf.symm.trans h'
  cases hfn : P.funcs[i]? with
  | none => rw [hfn] at h; cases h
  | some fn => rw [hfn] at h; exact ⟨fn, K, rfl, hK, h⟩
theorem codeAt_none {P : Program} {F : List (Nat × Nat)} {SP : SProg} {i g : Nat} (hf : SP.fn g = none) : CodeAt P F SP (i, g) := by
  intro sf h; rw [show SP.fn g = none from hf] at h; cases h
def entersB (P : Program) (p : Nat × Nat) : Bool := match P.funcs[p.1]? with | some fn => !(fn.name == "runtime.NumGoroutine") && !fn.body.isNone | none => false
theorem progOk_of {P : Program} {F : List (Nat × Nat)} {SP : SProg} (hm : P.follows .mixedOrders = true) (he : F.all (entersB P) = true) (hc : ∀ p ∈ F, CodeAt P F SP p) (ho : ∀ f vs out, SP.orc f vs out = none) : ProgOk P F SP where
  mixed := hm
  enters := fun f' f h => by
    have := List.all_eq_true.1 he _ (lookN_mem h)
    unfold entersB at this
    dsimp only at this
    split at this
    · rename_i fn hfn
      simp only [Bool.and_eq_true, Bool.not_eq_true'] at this
      exact ⟨fn, hfn, this.1, this.2⟩
    · cases this
  code := fun f' f sf h hs => hc _ (lookN_mem h) sf hs
  orc := fun f' f vs out r args w ρ _ _ h => by rw [ho] at h; cases h

theorem wp_of {w : W Ret} {v : AV} (h : w = .pure ⟨v, [], []⟩) : w.wp fun r => r.res = v := by rw [h]; rfl
end Go.Aiv

