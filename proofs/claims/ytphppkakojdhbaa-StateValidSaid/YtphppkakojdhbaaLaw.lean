/- The law StateValid, over plain functions. -/
import Derived.Test.YtphppkakojdhbaaWRun
import Derived.Test.YtphppkakojdhbaaF1
set_option linter.unusedSimpArgs false
set_option linter.unusedVariables false
namespace Go.Aiv
open W

def fine (n : Nat) : Prop := n ≤ 9223372036854775807

/-! Small functions. -/
def isIdB (x : Int) : Bool := decide (1048576 < x) && decide (x < 34603008) && (x.tmod 1048576 != 0)
theorem f17_is (x : Int) : f17 x = .pure (isIdB x) := by
  unfold f17 isIdB
  cases h1 : decide (1048576 < x) <;> cases h2 : decide (x < 34603008) <;> rfl

theorem and64_mask (x : Int) (h0 : 0 ≤ x) (h1 : x ≤ 9223372036854775807) : and64 x 1048575 = x % 1048576 := by
  obtain ⟨n, rfl⟩ := Int.eq_ofNat_of_zero_le h0
  have e1 : (BitVec.ofInt 64 (n : Int)).toNat = n := by
    simp [BitVec.toNat_ofInt]; omega
  have e2 : (BitVec.ofInt 64 1048575).toNat = 2 ^ 20 - 1 := by decide
  unfold and64
  rw [BitVec.toNat_and, e1, e2, Nat.and_two_pow_sub_one_eq_mod]
  have h3 : n % 2 ^ 20 < 2 ^ 20 := Nat.mod_lt _ (by decide)
  have : IntKind.i64.wrap ((n % 2 ^ 20 : Nat) : Int) = ((n % 2 ^ 20 : Nat) : Int) := w64_nat (by omega)
  rw [this]
  omega

theorem f36_is (x : Int) : f36 x = .pure (decide (1 ≤ x.fdiv 1048576) && decide (x.fdiv 1048576 ≤ 32)) := by
  unfold f36
  cases h1 : decide (1 ≤ x.fdiv 1048576) <;> rfl
theorem f13_is (x : Int) : f13 x = .pure (isIdB x) := by
  unfold f13
  rw [f36_is, pure_bind, cond_pure]
  congr 1
  have hd := Int.fdiv_eq_ediv_of_nonneg x (show (0 : Int) ≤ 1048576 by decide)
  rw [hd]
  unfold isIdB
  rw [Bool.eq_iff_iff]
  cases hc : (decide (1 ≤ x / 1048576) && decide (x / 1048576 ≤ 32)) with
  | false =>
    simp only [cond_false, Bool.false_eq_true, false_iff, Bool.and_eq_true, decide_eq_true_eq, bne_iff_ne, ne_eq, not_and]
    simp only [Bool.and_eq_false_iff, decide_eq_false_iff_not] at hc
    intro h; omega
  | true =>
    simp only [Bool.and_eq_true, decide_eq_true_eq] at hc
    simp only [cond_true, bne_iff_ne, ne_eq, Bool.and_eq_true, decide_eq_true_eq]
    rw [and64_mask x (by omega) (by omega)]
    have : x.tmod 1048576 = x % 1048576 := Int.tmod_eq_emod_of_nonneg (by omega)
    rw [this]
    constructor
    · intro h; exact ⟨⟨by omega, by omega⟩, h⟩
    · exact fun h => h.2

def isFieldB (x : Int) : Bool := decide (1 ≤ x) && decide (x ≤ 4) || decide (8 ≤ x) && decide (x < 48)
theorem f18_is (x : Int) : f18 x = .pure (isFieldB x) := by
  unfold f18 isFieldB
  cases h1 : decide (1 ≤ x) <;> cases h2 : decide (x ≤ 4) <;> cases h3 : decide (8 ≤ x) <;> rfl
theorem f14_is (x : Int) : f14 x = .pure (isFieldB x) := by
  unfold f14
  have key : isFieldB x = (x == 1 || x == 2 || x == 3 || x == 4 || decide (8 ≤ x) && decide (x < 48)) := by
    unfold isFieldB
    rw [Bool.eq_iff_iff]
    simp only [Bool.and_eq_true, Bool.or_eq_true, decide_eq_true_eq, beq_iff_eq]
    omega
  rw [key]
  cases x == 1 <;> cases x == 2 <;> cases x == 3 <;> cases x == 4 <;> cases decide (8 ≤ x) <;> rfl

def aheadB (i f j g : Int) : Bool := decide (i < j) || i == j && decide (f < g)
theorem f19_is (i f j g : Int) : f19 i f j g = .pure (aheadB i f j g) := by
  unfold f19 aheadB
  cases h1 : decide (i < j) <;> cases h2 : i == j <;> rfl
theorem f49_is (x : Int) : f49 x = .pure false := by unfold f49; simp
def cmpI (x y : Int) : Int := if x < y then -1 else if y < x then 1 else 0
theorem f38_is (x y : Int) : f38 x y = .pure (cmpI x y) := by
  unfold f38 cmpI
  simp only [f49_is, pure_bind, cond_false, cond_dec]
  by_cases h : x < y
  · simp only [if_pos h]
  · simp only [if_neg h]
    by_cases h : y < x
    · simp only [if_pos h]
    · simp only [if_neg h]
def orI (a b : Int) : Int := if a = 0 then b else a
theorem f37_is (a b : Int) : f37 [a, b] = .pure (orI a b) := by
  have h2 : f37_s1 [a, b] 2 2 = .pure (.inr 0) := rfl
  have h1 : f37_s1 [a, b] 2 1 = if b = 0 then .pure (.inl 2) else .pure (.inr b) := by
    unfold f37_s1
    rw [cond_yes (by decide), show (1 : Int) = ((1 : Nat) : Int) from rfl, idx_at (x := b) rfl]
    by_cases h : b = 0
    · subst h; rfl
    · rw [if_neg h, cond_yes (by simpa using h)]
  have h0 : f37_s1 [a, b] 2 0 = if a = 0 then .pure (.inl 1) else .pure (.inr a) := by
    unfold f37_s1
    rw [cond_yes (by decide), show (0 : Int) = ((0 : Nat) : Int) from rfl, idx_at (x := a) rfl]
    by_cases h : a = 0
    · subst h; rfl
    · rw [if_neg (by simpa using h), cond_yes (by simpa using h)]
  unfold f37 orI
  show run (fun z => f37_s1 [a, b] 2 z) 0 = _
  by_cases ha : a = 0
  · rw [if_pos ha] at h0 ⊢
    rw [run_on (step := fun z => f37_s1 [a, b] 2 z) h0]
    by_cases hb : b = 0
    · rw [if_pos hb] at h1
      rw [run_on (step := fun z => f37_s1 [a, b] 2 z) h1, run_out (step := fun z => f37_s1 [a, b] 2 z) h2, hb]
    · rw [if_neg hb] at h1
      rw [run_out (step := fun z => f37_s1 [a, b] 2 z) h1]
  · rw [if_neg ha] at h0 ⊢
    rw [run_out (step := fun z => f37_s1 [a, b] 2 z) h0]
def cmpS (i f j g : Int) : Int := orI (cmpI i j) (cmpI f g)
theorem f15_is (i f j g : Int) : f15 i f j g = .pure (cmpS i f j g) := by
  unfold f15 cmpS
  simp only [f38_is, f37_is, pure_bind]
theorem cmp_ahead (i f j g : Int) : decide (0 ≤ cmpS i f j g) = !aheadB i f j g := by
  unfold cmpS orI cmpI aheadB
  rcases Int.lt_trichotomy i j with h | h | h
  · have h1 : ¬ j < i := by omega
    simp [h]
  · subst h
    rcases Int.lt_trichotomy f g with h | h | h
    · simp [h]
    · subst h; simp
    · have h1 : ¬ f < g := by omega
      simp [h, h1]
  · have h1 : ¬ i < j := by omega
    have h2 : (i == j) = false := by simp; omega
    simp [h, h1, h2]

/-! The two loops are one. -/
theorem s2_eq (i : Int) (p : List Alt) : f4_s2 p i (p.length : Int) = f5_s2 i p := by
  funext z
  unfold f4_s2 f5_s2
  simp only [f13_is, f17_is, pure_bind]
  by_cases h : 0 ≤ z ∧ z < p.length
  · obtain ⟨n, rfl⟩ := Int.eq_ofNat_of_zero_le h.1
    have hn : n < p.length := by omega
    simp only [idx_get hn]
  · rw [idx_out h, idx_out h]
theorem s3_eq (xs : List Slot) : f4_s3 xs (xs.length : Int) = f5_s3 xs := by
  funext z
  unfold f4_s3 f5_s3
  simp only [f13_is, f17_is, f14_is, f18_is, f16, f15_is, f19_is, cmp_ahead, pure_bind, s2_eq]
  by_cases h : 0 ≤ z ∧ z < xs.length
  · obtain ⟨n, rfl⟩ := Int.eq_ofNat_of_zero_le h.1
    have hn : n < xs.length := by omega
    simp only [idx_get hn]
    by_cases h' : 0 ≤ w64 ((n : Int) - 1) ∧ w64 ((n : Int) - 1) < xs.length
    · obtain ⟨m, hm⟩ := Int.eq_ofNat_of_zero_le h'.1
      have hn : m < xs.length := by omega
      simp only [hm, idx_get hn]
    · simp only [idx_out h']
  · rw [idx_out h, idx_out h]
theorem valid_eq (xs : List Slot) : f4 xs = f5 xs := by
  unfold f4 f5; rw [s3_eq]

/-! They end. -/
def Short (xs : List Slot) : Prop := fine xs.length ∧ ∀ x ∈ xs, fine x.alts.length
theorem s2_ex (i : Nat) (hi : i < 9223372036854775807) (p : List Alt) (hp : fine p.length) : ∀ k : Nat, k ≤ p.length → run (f5_s2 i p) (k : Int) = .pure (.inr false) ∨ run (f5_s2 i p) (k : Int) = .pure (.inl ((i + 1 : Nat) : Int)) := by
  have key : ∀ d k : Nat, k + d = p.length → run (f5_s2 i p) (k : Int) = .pure (.inr false) ∨ run (f5_s2 i p) (k : Int) = .pure (.inl ((i + 1 : Nat) : Int)) := by
    intro d
    induction d with
    | zero =>
      intro k hk
      right
      refine run_out ?_
      unfold f5_s2
      rw [cond_no (by simp; omega), w64_succ hi]
    | succ d ih =>
      intro k hk
      have hl : k < p.length := by omega
      have step : f5_s2 i p (k : Int) = .pure (.inr (.inr false)) ∨ f5_s2 i p (k : Int) = .pure (.inl ((k + 1 : Nat) : Int)) := by
        unfold f5_s2
        rw [cond_yes (by simp; omega)]
        simp only [idx_get hl, f17_is, pure_bind, w64_succ (Nat.lt_of_lt_of_le hl hp)]
        cases isIdB p[k].stamp with
        | false => exact .inl rfl
        | true =>
          simp only [Bool.not_true, cond_false]
          cases k with
          | zero => exact .inr rfl
          | succ j =>
            rw [cond_yes (by simp), w64_pred (Nat.lt_trans (Nat.lt_succ_self j) (Nat.lt_of_lt_of_le hl hp))]
            have hj : j < p.length := by omega
            simp only [idx_get hj]
            cases decide (p[j + 1].stamp ≤ p[j].stamp) with
            | true => exact .inl rfl
            | false => exact .inr rfl
      rcases step with h | h
      · exact .inl (run_out h)
      · rw [run_on h]; exact ih (k + 1) (by omega)
  exact fun k hk => key (p.length - k) k (by omega)

theorem valid_ex (xs : List Slot) (h : Short xs) : ∃ b, f5 xs = .pure b := by
  have key : ∀ d k : Nat, k + d = xs.length → ∃ b, run (f5_s3 xs) (k : Int) = .pure b := by
    intro d
    induction d with
    | zero =>
      intro k hk
      refine ⟨true, run_out ?_⟩
      unfold f5_s3
      rw [cond_no (by simp; omega)]
    | succ d ih =>
      intro k hk
      have hl : k < xs.length := by omega
      have hf : fine xs[k].alts.length := h.2 _ (List.getElem_mem hl)
      have step : f5_s3 xs (k : Int) = .pure (.inr false) ∨ f5_s3 xs (k : Int) = .pure (.inl ((k + 1 : Nat) : Int)) := by
        unfold f5_s3
        rw [cond_yes (by simp; omega)]
        simp only [idx_get hl, f17_is, f18_is, f19_is, pure_bind]
        have inner := s2_ex k (Nat.lt_of_lt_of_le hl h.1) xs[k].alts hf 0 (Nat.zero_le _)
        have hin : run (fun z => f5_s2 (k : Int) xs[k].alts z) 0 = .pure (.inr false) ∨ run (fun z => f5_s2 (k : Int) xs[k].alts z) 0 = .pure (.inl ((k + 1 : Nat) : Int)) := inner
        cases isIdB xs[k].id with
        | false => exact .inl rfl
        | true => cases isFieldB xs[k].field with
          | false => exact .inl rfl
          | true =>
            simp only [Bool.not_true, cond_false]
            cases ((xs[k].alts.length : Int) == 0) with
            | true => exact .inl rfl
            | false =>
              simp only [cond_false]
              cases k with
              | zero => exact hin
              | succ j =>
                rw [cond_yes (by simp), w64_pred (Nat.lt_trans (Nat.lt_succ_self j) (Nat.lt_of_lt_of_le hl h.1))]
                have hj : j < xs.length := by omega
                simp only [idx_get hj]
                cases aheadB xs[j].id xs[j].field xs[j + 1].id xs[j + 1].field with
                | false => exact .inl rfl
                | true => exact hin
      rcases step with h | h
      · exact ⟨false, run_out h⟩
      · rw [run_on h]; exact ih (k + 1) (by omega)
  exact key xs.length 0 (by omega)

theorem small_ex (xs : List Slot) (h : fine xs.length) : ∃ b, f3 xs = .pure b := by
  have key : ∀ d k : Nat, k + d = xs.length → ∀ n : Int, ∃ b, run (fun z => f3_s1 xs z) ((k : Int), n) = .pure b := by
    intro d
    induction d with
    | zero =>
      intro k hk n
      refine ⟨decide (n ≤ 200), run_out ?_⟩
      unfold f3_s1
      rw [cond_no (by simp; omega)]
    | succ d ih =>
      intro k hk n
      have hl : k < xs.length := by omega
      by_cases hn : n ≤ 200
      · obtain ⟨b, hb⟩ := ih (k + 1) (by omega) (w64 (n + (xs[k].alts.length : Int)))
        refine ⟨b, ?_⟩
        rw [← hb]
        refine run_on ?_
        unfold f3_s1
        rw [cond_yes (by simp; omega), cond_yes (by simpa using hn)]
        simp only [idx_get hl, w64_succ (Nat.lt_of_lt_of_le hl h)]
      · refine ⟨decide (n ≤ 200), run_out ?_⟩
        unfold f3_s1
        rw [cond_yes (by simp; omega), cond_no (by simpa using hn)]
  exact key xs.length 0 (by omega) xs.length

theorem law_short (xs : List Slot) (h : Short xs) : f0 xs = .pure true := by
  unfold f0
  obtain ⟨b, hb⟩ := small_ex xs h.1
  obtain ⟨c, hc⟩ := valid_ex xs h
  rw [hb, valid_eq, hc]
  simp only [pure_bind, f6]
  cases b with
  | false => rfl
  | true => cases c <;> rfl
theorem law_StateValid (xs : List Slot) (h : xs.length ≤ maxLen ∧ ∀ x ∈ xs, Slot.wf x) : f0 xs = .pure true :=
  law_short xs ⟨h.1, fun x hx => (h.2 x hx).2.2.1⟩
end Go.Aiv

