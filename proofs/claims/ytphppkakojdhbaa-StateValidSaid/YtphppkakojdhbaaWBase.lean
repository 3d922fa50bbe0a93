/- Plain functions: predicate transformers, and the laws by which the interpreter's code is one of them. -/
import Derived.Test.YtphppkakojdhbaaA2
set_option linter.unusedSimpArgs false
set_option linter.unusedVariables false
namespace Go.Aiv

/-- What must hold for every outcome to be good. -/
structure W (α : Type) where
  wp : (α → Prop) → Prop
  mono : ∀ (p q : α → Prop), (∀ a, p a → q a) → wp p → wp q

namespace W
variable {α β γ σ ρ : Type}

theorem eq_of {x y : W α} (h : ∀ Q, x.wp Q ↔ y.wp Q) : x = y := by
  cases x; cases y
  congr
  funext Q
  exact propext (h Q)

def pure (a : α) : W α := ⟨fun Q => Q a, fun _ _ h hp => h a hp⟩
def bind (m : W α) (k : α → W β) : W β := ⟨fun Q => m.wp fun a => (k a).wp Q, fun p q h hp => m.mono _ _ (fun a ha => (k a).mono p q h ha) hp⟩
def fail : W α := ⟨fun _ => False, fun _ _ _ h => h⟩
def need (c : Prop) (x : W α) : W α := ⟨fun Q => c ∧ x.wp Q, fun p q h hp => ⟨hp.1, x.mono p q h hp.2⟩⟩
def any (n : Nat) (k : Nat → W α) : W α := ⟨fun Q => 0 < n ∧ ∀ i, i < n → (k i).wp Q, fun p q h hp => ⟨hp.1, fun i hi => (k i).mono p q h (hp.2 i hi)⟩⟩
def amb (x y : W α) : W α := ⟨fun Q => x.wp Q ∧ y.wp Q, fun p q h hp => ⟨x.mono p q h hp.1, y.mono p q h hp.2⟩⟩
def ofO : Option α → (α → W β) → W β
  | some a, k => k a
  | none, _ => fail
/-- The element at a place. -/
def at' (es : List α) (i : Nat) (k : α → W β) : W β := ofO es[i]? k
/-- The element at an index. -/
def idx (es : List α) (n : Int) (k : α → W β) : W β := need (0 ≤ n) (at' es n.toNat k)
/-- An element, whichever, and the others. -/
def pick (l : List α) (k : α → List α → W β) : W β := any l.length fun i => at' l i fun a => k a (l.eraseIdx i)

/-- Rounds. -/
def run (step : σ → W (σ ⊕ ρ)) (s : σ) : W ρ :=
  ⟨fun Q => ∀ P : σ → Prop, (∀ s, (step s).wp (Sum.elim P Q) → P s) → P s,
   fun p q h hp P hP => hp P fun s hs => hP s ((step s).mono _ _ (fun r hr => by cases r with | inl a => exact hr | inr b => exact h b hr) hs)⟩

theorem pure_bind {a : α} {k : α → W β} : (pure a).bind k = k a := rfl
theorem bind_pure {m : W α} : m.bind pure = m := rfl
theorem bind_assoc {m : W α} {k : α → W β} {l : β → W γ} : (m.bind k).bind l = m.bind fun a => (k a).bind l := rfl
theorem fail_bind {k : α → W β} : (fail : W α).bind k = fail := rfl
theorem need_bind {c : Prop} {x : W α} {k : α → W β} : (need c x).bind k = need c (x.bind k) := rfl
theorem any_bind {n : Nat} {x : Nat → W α} {k : α → W β} : (any n x).bind k = any n fun i => (x i).bind k := rfl
theorem amb_bind {x y : W α} {k : α → W β} : (amb x y).bind k = amb (x.bind k) (y.bind k) := rfl
theorem ofO_bind {o : Option α} {x : α → W β} {k : β → W γ} : (ofO o x).bind k = ofO o fun a => (x a).bind k := by cases o <;> rfl
theorem at_bind {es : List α} {i : Nat} {x : α → W β} {k : β → W γ} : (at' es i x).bind k = at' es i fun a => (x a).bind k := ofO_bind
theorem idx_bind {es : List α} {i : Int} {x : α → W β} {k : β → W γ} : (idx es i x).bind k = idx es i fun a => (x a).bind k := by
  unfold idx; rw [need_bind, at_bind]
theorem pick_bind {l : List α} {x : α → List α → W β} {k : β → W γ} : (pick l x).bind k = pick l fun a r => (x a r).bind k := by
  unfold pick; rw [any_bind]; congr; funext i; rw [at_bind]
theorem cond_bind {c : Bool} {x y : W α} {k : α → W β} : (cond c x y).bind k = cond c (x.bind k) (y.bind k) := by cases c <;> rfl
theorem need_true {x : W α} : need True x = x := eq_of fun _ => ⟨fun h => h.2, fun h => ⟨trivial, h⟩⟩
theorem need_false {x : W α} : need False x = fail := eq_of fun _ => ⟨fun h => h.1, fun h => h.elim⟩
theorem need_pos {c : Prop} {x : W α} (h : c) : need c x = x := eq_of fun _ => ⟨fun h => h.2, fun h' => ⟨h, h'⟩⟩
theorem need_need {c d : Prop} {x : W α} : need c (need d x) = need (c ∧ d) x := eq_of fun _ => ⟨fun h => ⟨⟨h.1, h.2.1⟩, h.2.2⟩, fun h => ⟨h.1.1, h.1.2, h.2⟩⟩
theorem ofO_some {a : α} {k : α → W β} : ofO (some a) k = k a := rfl
theorem ofO_none {k : α → W β} : ofO none k = fail := rfl
theorem ofO_map {o : Option α} {f : α → β} {k : β → W γ} : ofO (o.map f) k = ofO o fun a => k (f a) := by cases o <;> rfl
theorem ofO_ite {c : Prop} [Decidable c] {o : Option α} {k : α → W β} : ofO (if c then o else none) k = need c (ofO o k) := by
  by_cases h : c
  · rw [if_pos h, need_pos h]
  · rw [if_neg h]; exact eq_of fun _ => ⟨fun h' => h'.elim, fun h' => h h'.1⟩
theorem ofO_ite' {c : Prop} [Decidable c] {o : Option α} {k : α → W β} : ofO (if c then none else o) k = need (¬ c) (ofO o k) := by
  by_cases h : c
  · rw [if_pos h]; exact eq_of fun _ => ⟨fun h' => h'.elim, fun h' => h'.1 h⟩
  · rw [if_neg h, need_pos h]
theorem at_map {es : List α} {f : α → β} {i : Nat} {k : β → W γ} : at' (es.map f) i k = at' es i fun a => k (f a) := by
  unfold at'; rw [List.getElem?_map, ofO_map]
theorem idx_map {es : List α} {f : α → β} {i : Int} {k : β → W γ} : idx (es.map f) i k = idx es i fun a => k (f a) := by
  unfold idx; rw [at_map]
theorem amb_self {x : W α} : amb x x = x := eq_of fun _ => ⟨fun h => h.1, fun h => ⟨h, h⟩⟩

theorem any_congr {n : Nat} {x y : Nat → W α} (h : ∀ i, i < n → x i = y i) : any n x = any n y :=
  eq_of fun Q => ⟨fun h' => ⟨h'.1, fun i hi => h i hi ▸ h'.2 i hi⟩, fun h' => ⟨h'.1, fun i hi => (h i hi).symm ▸ h'.2 i hi⟩⟩
theorem any_one {x : Nat → W α} : any 1 x = x 0 := by
  refine eq_of fun Q => ⟨fun h => h.2 0 (by omega), fun h => ⟨by omega, fun i hi => ?_⟩⟩
  obtain rfl : i = 0 := by omega
  exact h
theorem any_two {x : Nat → W α} : any 2 x = amb (x 0) (x 1) := eq_of fun Q => ⟨fun h => ⟨h.2 0 (by omega), h.2 1 (by omega)⟩, fun h => ⟨by omega, fun i hi => by
  match i, hi with
  | 0, _ => exact h.1
  | 1, _ => exact h.2⟩⟩

theorem run_eq {step : σ → W (σ ⊕ ρ)} {s : σ} : run step s = (step s).bind (Sum.elim (run step) pure) := by
  refine eq_of fun Q => ⟨fun h => ?_, fun h P hP => ?_⟩
  · refine h (fun s => ((step s).bind (Sum.elim (run step) pure)).wp Q) fun s hs => ?_
    refine (step s).mono _ _ (fun r hr => ?_) hs
    cases r with
    | inl a =>
      intro P hP
      exact hP a ((step a).mono _ _ (fun r hr => by cases r with | inl b => exact hr P hP | inr b => exact hr) hr)
    | inr b => exact hr
  · exact hP s ((step s).mono _ _ (fun r hr => by cases r with | inl a => exact hr P hP | inr b => exact hr) h)

theorem run_ind {step : σ → W (σ ⊕ ρ)} {s : σ} {Q : ρ → Prop} (P : σ → Prop) (hP : ∀ s, (step s).wp (Sum.elim P Q) → P s) (h : (run step s).wp Q) : P s := h P hP

theorem run_bind {step : σ → W (σ ⊕ ρ)} {s : σ} {k : ρ → W β} :
    (run step s).bind k = run (fun s => (step s).bind (Sum.elim (fun s' => pure (.inl s')) (fun r => (k r).bind fun b => pure (.inr b)))) s := by
  refine eq_of fun Q => ⟨fun h P hP => ?_, fun h P hP => ?_⟩
  · exact h P fun s hs => hP s ((step s).mono _ _ (fun r hr => by cases r <;> exact hr) hs)
  · exact h P fun s hs => hP s ((step s).mono _ _ (fun r hr => by cases r <;> exact hr) hs)
end W

/-! Less room: fewer answers. -/
namespace M
variable {α β : Type}
def Le : M α → M α → Prop
  | .fail, _ => True
  | .ret a, .ret b => a = b
  | .ask n k, .ask n' k' => n = n' ∧ ∀ i, Le (k i) (k' i)
  | _, _ => False

theorem Le.refl : ∀ m : M α, m.Le m
  | .fail => trivial
  | .ret _ => rfl
  | .ask _ k => ⟨rfl, fun i => Le.refl (k i)⟩
theorem Le.of_eq {m m' : M α} (h : m = m') : m.Le m' := h ▸ Le.refl m
theorem Le.trans : ∀ {a b c : M α}, a.Le b → b.Le c → a.Le c
  | .fail, _, _, _, _ => trivial
  | .ret _, .ret _, .ret _, h, h' => by simp only [Le] at *; exact h.trans h'
  | .ask _ _, .ask _ _, .ask _ _, h, h' => ⟨h.1.trans h'.1, fun i => (h.2 i).trans (h'.2 i)⟩
  | .ret _, .fail, _, h, _ => h.elim
  | .ret _, .ask _ _, _, h, _ => h.elim
  | .ret _, .ret _, .fail, _, h => h.elim
  | .ret _, .ret _, .ask _ _, _, h => h.elim
  | .ask _ _, .fail, _, h, _ => h.elim
  | .ask _ _, .ret _, _, h, _ => h.elim
  | .ask _ _, .ask _ _, .fail, _, h => h.elim
  | .ask _ _, .ask _ _, .ret _, _, h => h.elim
theorem Le.all : ∀ {a b : M α}, a.Le b → ∀ {Q : α → Prop}, a.All Q → b.All Q
  | .fail, _, _, _, h => h.elim
  | .ret _, .ret _, h, _, h' => by simp only [Le] at h; subst h; exact h'
  | .ask _ _, .ask _ _, h, _, h' => by
    obtain ⟨rfl, h⟩ := h
    exact ⟨h'.1, fun i hi => (h i).all (h'.2 i hi)⟩
  | .ret _, .fail, h, _, _ => h.elim
  | .ret _, .ask _ _, h, _, _ => h.elim
  | .ask _ _, .fail, h, _, _ => h.elim
  | .ask _ _, .ret _, h, _, _ => h.elim
theorem Le.bind : ∀ {a b : M α} {f g : α → M β}, a.Le b → (∀ x, (f x).Le (g x)) → (a.bind f).Le (b.bind g)
  | .fail, _, _, _, _, _ => trivial
  | .ret _, .ret _, _, _, h, h' => by simp only [Le] at h; subst h; exact h' _
  | .ask _ _, .ask _ _, _, _, h, h' => ⟨h.1, fun i => (h.2 i).bind h'⟩
  | .ret _, .fail, _, _, h, _ => h.elim
  | .ret _, .ask _ _, _, _, h, _ => h.elim
  | .ask _ _, .fail, _, _, h, _ => h.elim
  | .ask _ _, .ret _, _, _, h, _ => h.elim
theorem All.of_bind {Q : β → Prop} {f : α → M β} : ∀ {m : M α}, (m.All fun a => (f a).All Q) → (m.bind f).All Q
  | .ret _, h => h
  | .fail, h => h
  | .ask _ _, h => ⟨h.1, fun i hi => All.of_bind (h.2 i hi)⟩
/-- One room for all outcomes. -/
theorem All.room {R : α → Nat → Prop} (hR : ∀ a n n', n ≤ n' → R a n → R a n') : ∀ {m : M α}, (m.All fun a => ∃ n, R a n) → ∃ n, m.All fun a => R a n
  | .ret _, ⟨n, h⟩ => ⟨n, h⟩
  | .fail, h => h.elim
  | .ask c k, h => by
    have h' : ∀ j, j ≤ c → ∃ n, ∀ i, i < j → (k i).All fun a => R a n := by
      intro j
      induction j with
      | zero => exact fun _ => ⟨0, fun i hi => by omega⟩
      | succ j ih =>
        intro hj
        obtain ⟨n, hn⟩ := ih (by omega)
        obtain ⟨n', hn'⟩ := All.room hR (h.2 j (by omega))
        refine ⟨max n n', fun i hi => ?_⟩
        by_cases hij : i = j
        · subst hij; exact hn'.mono fun a => hR a _ _ (by omega)
        · exact (hn i (by omega)).mono fun a => hR a _ _ (by omega)
    obtain ⟨n, hn⟩ := h' c (Nat.le_refl _)
    exact ⟨n, h.1, hn⟩
end M

/-- More room, more answers. -/
def Up {α : Type} (m : Nat → M α) : Prop := ∀ n, (m n).Le (m (n + 1))

section
variable {α β γ : Type}
theorem Up.le {m : Nat → M α} (h : Up m) : ∀ {n n' : Nat}, n ≤ n' → (m n).Le (m n') := by
  intro n n' hn
  induction n' with
  | zero => obtain rfl : n = 0 := by omega
            exact M.Le.refl _
  | succ k ih =>
    by_cases hk : n = k + 1
    · subst hk; exact M.Le.refl _
    · exact (ih (by omega)).trans (h k)
theorem Up.const (m : M α) : Up fun _ => m := fun _ => M.Le.refl _
theorem Up.bind {m : Nat → M α} {k : Nat → α → M β} (h : Up m) (hk : ∀ a, Up fun n => k n a) : Up fun n => (m n).bind (k n) :=
  fun n => (h n).bind fun a => hk a n

def lim (m : Nat → M α) : W α := ⟨fun Q => ∃ n, (m n).All Q, fun _ _ h ⟨n, hn⟩ => ⟨n, hn.mono h⟩⟩

theorem lim_bind {m : Nat → M α} {k : Nat → α → M β} (h : Up m) (hk : ∀ a, Up fun n => k n a) :
    lim (fun n => (m n).bind (k n)) = (lim m).bind fun a => lim fun n => k n a := by
  refine W.eq_of fun Q => ⟨fun ⟨n, hn⟩ => ⟨n, (M.all_bind hn).mono fun a ha => ⟨n, ha⟩⟩, fun ⟨n, hn⟩ => ?_⟩
  obtain ⟨n', hn'⟩ := M.All.room (R := fun a j => (k j a).All Q) (fun a i j hij => ((hk a).le hij).all) hn
  refine ⟨max n n', M.All.of_bind ?_⟩
  exact ((h.le (by omega)).all hn').mono fun a ha => ((hk a).le (by omega)).all ha

def ofM : M α → W α
  | .ret a => .pure a
  | .fail => .fail
  | .ask n k => .any n fun i => ofM (k i)

theorem ofM_wp {Q : α → Prop} : ∀ {m : M α}, (ofM m).wp Q ↔ m.All Q
  | .ret _ => Iff.rfl
  | .fail => Iff.rfl
  | .ask n k => ⟨fun h => ⟨h.1, fun i hi => ofM_wp.1 (h.2 i hi)⟩, fun h => ⟨h.1, fun i hi => ofM_wp.2 (h.2 i hi)⟩⟩

theorem lim_const (m : M α) : lim (fun _ => m) = ofM m := W.eq_of fun Q => ⟨fun ⟨_, h⟩ => ofM_wp.2 h, fun h => ⟨0, ofM_wp.1 h⟩⟩
theorem lim_ask {c : Nat} {k : Nat → Nat → M α} (h : ∀ i, Up fun n => k n i) : lim (fun n => .ask c (k n)) = W.any c fun i => lim fun n => k n i := by
  refine W.eq_of fun Q => ⟨fun ⟨n, hn⟩ => ⟨hn.1, fun i hi => ⟨n, hn.2 i hi⟩⟩, fun ⟨hc, hk⟩ => ?_⟩
  obtain ⟨n, hn⟩ := M.All.room (m := .ask c .ret) (R := fun i n => i < c → (k n i).All Q) (fun i n n' hn hR hi => ((h i).le hn).all (hR hi)) ⟨hc, fun i hi => (let ⟨n, hn⟩ := hk i hi; ⟨n, fun _ => hn⟩)⟩
  exact ⟨n, hc, fun i hi => hn.2 i hi hi⟩
theorem lim_ite {c : Prop} [Decidable c] {a b : Nat → M α} : lim (fun n => if c then a n else b n) = if c then lim a else lim b := by
  by_cases h : c
  · simp only [if_pos h]
  · simp only [if_neg h]
end

/-! The interpreter has more answers where it has more room. -/
section
variable {c c' : Nat → List V → List O → M Ret}
def CLe (c c' : Nat → List V → List O → M Ret) : Prop := ∀ f vs out, (c f vs out).Le (c' f vs out)

theorem callRef_le (h : CLe c c') (s : St) (dst : Option Nat) (f : Nat) (args : List V) : (callRef c s dst f args).Le (callRef c' s dst f args) :=
  M.Le.bind (h _ _ _) fun _ => M.Le.refl _

theorem doCall_le (h : CLe c c') (s : St) (dst : Option Nat) (lend : Bool) (f : Nat) (args : List V) : (doCall c s dst lend f args).Le (doCall c' s dst lend f args) := by
  cases lend with
  | true =>
    simp only [doCall, if_true]
    cases mapO (lendV s) args with
    | some vs => exact M.Le.bind (h _ _ _) fun _ => M.Le.refl _
    | none => exact callRef_le h _ _ _ _
  | false =>
    simp only [doCall, Bool.false_eq_true, if_false]
    cases mapO (asDataV (args.foldl frzV s)) args with
    | some vs => exact M.Le.bind (h _ _ _) fun _ => M.Le.refl _
    | none => exact callRef_le h _ _ _ _

theorem aop_le (h : CLe c c') (s : St) (dst : Option Nat) (op : SOp) : (aop c s dst op).Le (aop c' s dst op) := by
  cases op with
  | call lend f args =>
    simp only [aop]
    cases mapO (opdV s) args with
    | some vs => exact doCall_le h _ _ _ _ _
    | none => exact M.Le.refl _
  | callv fv args =>
    simp only [aop]
    split
    · exact doCall_le h _ _ _ _ _
    · exact M.Le.refl _
  | _ => exact M.Le.refl _

theorem runG_le {step step' : St → M St} (h : ∀ s, (step s).Le (step' s)) (o : SOper) (s : St) : (runG step o s).Le (runG step' o s) := by
  unfold runG
  split
  · exact h s
  · split
    · exact M.Le.refl _
    · split
      · exact h s
      · exact M.Le.refl _
    · exact M.Le.refl _

theorem runOps_le (h : CLe c c') : ∀ (ops : List SOper) (s : St), (runOps c ops s).Le (runOps c' ops s)
  | [], _ => M.Le.refl _
  | o :: r, s => M.Le.bind (runG_le (fun s => aop_le h s _ _) o s) fun s => runOps_le h r s

theorem runD_le (h : CLe c c') (k : DK) (o : SOper) (s : St) : (runD c k o s).Le (runD c' k o s) := by
  refine runG_le (fun s => ?_) o s
  cases k with
  | quiet => exact M.Le.refl _
  | pure => exact M.Le.refl _
  | mild =>
    dsimp only
    split
    · exact aop_le h _ _ _
    · exact M.Le.refl _
  | heavy => exact aop_le h _ _ _

theorem runTree_le (h : CLe c c') : ∀ (t : DTree) (s : St), (runTree c t s).Le (runTree c' t s)
  | .done, _ => M.Le.refl _
  | .step k o t, s => M.Le.bind (runD_le h k o s) fun s => runTree_le h t s
  | .fork a b, s => ⟨rfl, fun i => by
      by_cases hi : i = 0
      · simp only [if_pos hi]; exact runTree_le h a s
      · simp only [if_neg hi]; exact runTree_le h b s⟩

theorem iterM_le {b b' : St → M (Ex × St)} (h : ∀ s, (b s).Le (b' s)) (nrm : St → St) : ∀ {n n' : Nat}, n ≤ n' → ∀ s, (iterM b nrm n s).Le (iterM b' nrm n' s)
  | 0, _, _, _ => trivial
  | n + 1, 0, hn, _ => by omega
  | n + 1, n' + 1, hn, s => M.Le.bind (h _) fun r => by
      cases r.1 with
      | normal => exact iterM_le h nrm (by omega) _
      | exit _ => exact M.Le.refl _
      | ret => exact M.Le.refl _

theorem aexec_le (h : CLe c c') {n n' : Nat} (hn : n ≤ n') : ∀ (x : SCode) (s : St), (aexec c n x s).Le (aexec c' n' x s)
  | .skip, _ => M.Le.refl _
  | .reg ops ks, s => M.Le.bind (runOps_le h ops s) fun _ => M.Le.refl _
  | .draw t ks, s => M.Le.bind (runTree_le h t s) fun _ => M.Le.refl _
  | .seq a b, s => M.Le.bind (aexec_le h hn a s) fun r => by
      cases r.1 with
      | normal => exact aexec_le h hn b _
      | exit _ => exact M.Le.refl _
      | ret => exact M.Le.refl _
  | .cond x a b, s => by
      simp only [aexec]
      split
      · exact aexec_le h hn a s
      · exact aexec_le h hn b s
      · exact M.Le.refl _
  | .block id b, s => M.Le.bind (aexec_le h hn b s) fun _ => M.Le.refl _
  | .loop lv g b, s => iterM_le (fun s => aexec_le h hn b s) _ hn s
  | .exit _, _ => M.Le.refl _
  | .ret, _ => M.Le.refl _

variable {P : SProg}
theorem arun_le : ∀ n : Nat, CLe (arun P n) (arun P (n + 1))
  | 0 => fun _ _ _ => trivial
  | n + 1 => fun f vs out => by
      rw [arun, arun]
      cases P.fn f with
      | none => exact M.Le.refl _
      | some sf =>
        dsimp only
        split
        · exact M.Le.bind (aexec_le (arun_le n) (by omega) _ _) fun _ => M.Le.refl _
        · exact M.Le.refl _
end

section
variable (P : SProg)
theorem up_run (f : Nat) (vs : List V) (out : List O) : Up fun n => arun P n f vs out := fun n => arun_le n f vs out
theorem up_aop (s : St) (dst : Option Nat) (op : SOp) : Up fun n => aop (arun P n) s dst op := fun n => aop_le (arun_le n) s dst op
theorem up_ops (ops : List SOper) (s : St) : Up fun n => runOps (arun P n) ops s := fun n => runOps_le (arun_le n) ops s
theorem up_tree (t : DTree) (s : St) : Up fun n => runTree (arun P n) t s := fun n => runTree_le (arun_le n) t s
theorem up_exec (x : SCode) (s : St) : Up fun n => aexec (arun P n) n x s := fun n => aexec_le (arun_le n) (by omega) x s

/-- What a function answers. -/
def WR (f : Nat) (vs : List V) (out : List O) : W Ret := lim fun n => arun P n f vs out
/-- Code, and what is behind it. -/
def XK {ρ : Type} (x : SCode) (s : St) (K : Ex × St → W ρ) : W ρ := (lim fun n => aexec (arun P n) n x s).bind K
def OK {ρ : Type} (ops : List SOper) (s : St) (K : St → W ρ) : W ρ := (lim fun n => runOps (arun P n) ops s).bind K
def TK {ρ : Type} (t : DTree) (s : St) (K : St → W ρ) : W ρ := (lim fun n => runTree (arun P n) t s).bind K
def AK {ρ : Type} (s : St) (dst : Option Nat) (op : SOp) (K : St → W ρ) : W ρ := (lim fun n => aop (arun P n) s dst op).bind K
end
end Go.Aiv

