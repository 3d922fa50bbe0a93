/- Plain functions: predicate transformers, and the laws by which the interpreter's code is one of them. -/
import Derived.Test.YtphppkakojdhbaaWOps
set_option linter.unusedSimpArgs false
set_option linter.unusedVariables false
namespace Go.Aiv
open W

abbrev Str := List UInt8
def encI (n : Int) : List D := [.int .i64 n]
def encK (k : IntKind) (n : Int) : List D := [.int k n]
def encS (b : Str) : List D := [.str b]
def encB (b : Bool) : List D := [.bool b]
def encL {α : Type} (f : α → List D) (l : List α) : List D := [.vec (l.map f)]

/-- A loop at its head. -/
def LN (P : SProg) {ρ : Type} (b : SCode) (lv : List Nat) (g : List (Nat × Option Nat × Nat)) (s : St) (K : Ex × St → W ρ) : W ρ := run (fun s => XK P b s (endW (norm lv g) K)) s
theorem XK_loopN {P : SProg} {ρ : Type} {s : St} {K : Ex × St → W ρ} {b : SCode} {lv : List Nat} {g : List (Nat × Option Nat × Nat)} : XK P (.loop lv g b) s K = LN P b lv g (norm lv g s) K := XK_loop
theorem LN_run {P : SProg} {ρ σ : Type} {K : Ex × St → W ρ} {b : SCode} {lv : List Nat} {g : List (Nat × Option Nat × Nat)} {S : σ → St} {step : σ → W (σ ⊕ ρ)} {x : σ}
    (h : ∀ x, XK P b (S x) (endW (norm lv g) K) = (step x).bind (Sum.elim (fun y => .pure (.inl (S y))) (fun r => .pure (.inr r)))) : LN P b lv g (S x) K = run step x := by
  unfold LN
  refine W.eq_of fun Q => ⟨fun h' => ?_, fun h' => ?_⟩
  · refine run_ind (fun t => ∀ y, t = S y → (run step y).wp Q) ?_ h' x rfl
    rintro t ht y rfl
    rw [run_eq]
    rw [h] at ht
    refine (step y).mono _ _ (fun r hr => ?_) ht
    cases r with
    | inl z => exact hr z rfl
    | inr z => exact hr
  · refine run_ind (fun y => (run (fun s => XK P b s (endW (norm lv g) K)) (S y)).wp Q) ?_ h'
    intro y hy
    rw [run_eq]
    show (XK P b (S y) (endW (norm lv g) K)).wp _
    rw [h]
    refine (step y).mono _ _ (fun r hr => ?_) hy
    cases r <;> exact hr

/-! Rows that are encoded lists stay such. -/
section
variable {α β : Type} {f : α → β} {xs ys : List α}
theorem fold_cat : xs.map f ++ ys.map f = (xs ++ ys).map f := List.map_append.symm
theorem fold_take {n : Nat} : (xs.map f).take n = (xs.take n).map f := List.map_take.symm
theorem fold_drop {n : Nat} : (xs.map f).drop n = (xs.drop n).map f := List.map_drop.symm
theorem take_all {n : Nat} (h : xs.length ≤ n) : xs.take n = xs := List.take_of_length_le h
end
theorem fold_I {xs : List Int} {n : Int} : xs.map encI ++ [[.int .i64 n]] = (xs ++ [n]).map encI := by simp [encI]
theorem fold_K {k : IntKind} {xs : List Int} {n : Int} : xs.map (encK k) ++ [[.int k n]] = (xs ++ [n]).map (encK k) := by simp [encK]
theorem fold_S {xs : List Str} {n : Str} : xs.map encS ++ [[.str n]] = (xs ++ [n]).map encS := by simp [encS]
theorem fold_L {α : Type} {f : α → List D} {xs : List (List α)} {l : List α} : xs.map (encL f) ++ [[.vec (l.map f)]] = (xs ++ [l]).map (encL f) := by simp [encL]
theorem fold_L0 {α : Type} {f : α → List D} {xs : List (List α)} : xs.map (encL f) ++ [[.vec []]] = (xs ++ [[]]).map (encL f) := by simp [encL]
theorem set_I {xs : List Int} {n : Int} {i : Nat} : (xs.map encI).set i [.int .i64 n] = (xs.set i n).map encI := by simp [encI, List.map_set]
theorem rep_I {n : Nat} {a : Int} : List.replicate n [D.int .i64 a] = (List.replicate n a).map encI := by simp [encI]
theorem rep_L {n : Nat} : List.replicate n [D.vec []] = (List.replicate n ([] : List Int)).map (encL encI) := by simp [encL]
theorem okSz_of {α : Type} {f : α → List D} {n : Nat} (h : ∀ x, (f x).length = n) {xs : List α} : okSz n (xs.map f) = true := by
  simp [okSz, h]
theorem ok_I {xs : List Int} : okSz 1 (xs.map encI) = true := okSz_of (f := encI) (fun _ => rfl)
theorem ok_K {k : IntKind} {xs : List Int} : okSz 1 (xs.map (encK k)) = true := okSz_of (f := encK k) (fun _ => rfl)
theorem ok_S {xs : List Str} : okSz 1 (xs.map encS) = true := okSz_of (f := encS) (fun _ => rfl)
theorem ok_B {xs : List Bool} : okSz 1 (xs.map encB) = true := okSz_of (f := encB) (fun _ => rfl)
theorem ok_L {α : Type} {f : α → List D} {xs : List (List α)} : okSz 1 (xs.map (encL f)) = true := okSz_of (f := encL f) (fun _ => rfl)
theorem ok_nil {n : Nat} : okSz n [] = true := rfl
theorem ok_cons {n : Nat} {e : List D} {r : Row} : okSz n (e :: r) = (e.length == n && okSz n r) := rfl

/-! Maps. -/
def dvI (n : Int) : DV := .c (.int .i64 n)
def dvB (b : Bool) : DV := .c (.bool b)
def dvS (b : Str) : DV := .c (.str b)
def dvL {α : Type} (f : α → List D) (l : List α) : DV := .c (.vec (l.map f))
def dvR {α : Type} (f : α → List D) (x : α) : DV := .agg (f x)
def kvI {ν : Type} (g : ν → DV) (p : Int × ν) : DV × DV := (.c (.int .i64 p.1), g p.2)
def kvS {ν : Type} (g : ν → DV) (p : Str × ν) : DV × DV := (.c (.str p.1), g p.2)
section
variable {κ ν : Type} [BEq κ]
def mget (k : κ) : List (κ × ν) → Option ν
  | [] => none
  | (k', v) :: r => if k == k' then some v else mget k r
def mset (k : κ) (v : ν) : List (κ × ν) → List (κ × ν)
  | [] => [(k, v)]
  | (k', v') :: r => if k == k' then (k, v) :: r else (k', v') :: mset k v r
def mdel (k : κ) : List (κ × ν) → List (κ × ν)
  | [] => []
  | (k', v') :: r => if k == k' then r else (k', v') :: mdel k r
end
section
variable {ν : Type} {g : ν → DV}
theorem find_I {x : Int} : ∀ {m : List (Int × ν)}, findKV (.int .i64) (.c (.int .i64 x)) (m.map (kvI g)) = some ((mget x m).map g)
  | [] => rfl
  | (k, v) :: r => by
    simp only [List.map_cons, kvI, findKV, eqKey, if_true, mget]
    cases h : x == k with
    | true => simp
    | false => simp [find_I]
theorem find_S {x : Str} : ∀ {m : List (Str × ν)}, findKV .str (.c (.str x)) (m.map (kvS g)) = some ((mget x m).map g)
  | [] => rfl
  | (k, v) :: r => by
    simp only [List.map_cons, kvS, findKV, eqKey, mget]
    cases h : x == k with
    | true => simp
    | false => simp [find_S]
theorem upd_I {x : Int} {v : ν} : ∀ {m : List (Int × ν)}, updKV (.int .i64) (.c (.int .i64 x)) (g v) (m.map (kvI g)) = some ((mset x v m).map (kvI g))
  | [] => rfl
  | (k, v) :: r => by
    simp only [List.map_cons, kvI, updKV, eqKey, if_true, mset]
    cases h : x == k with
    | true => simp [kvI]
    | false => simp [upd_I, kvI]
theorem upd_S {x : Str} {v : ν} : ∀ {m : List (Str × ν)}, updKV .str (.c (.str x)) (g v) (m.map (kvS g)) = some ((mset x v m).map (kvS g))
  | [] => rfl
  | (k, v) :: r => by
    simp only [List.map_cons, kvS, updKV, eqKey, mset]
    cases h : x == k with
    | true => simp [kvS]
    | false => simp [upd_S, kvS]
theorem del_I {x : Int} : ∀ {m : List (Int × ν)}, delKV (.int .i64) (.c (.int .i64 x)) (m.map (kvI g)) = some ((mdel x m).map (kvI g))
  | [] => rfl
  | (k, v) :: r => by
    simp only [List.map_cons, kvI, delKV, eqKey, if_true, mdel]
    cases h : x == k with
    | true => simp
    | false => simp [del_I, kvI]
end
theorem upd_II {x v : Int} {m : List (Int × Int)} : updKV (.int .i64) (.c (.int .i64 x)) (.c (.int .i64 v)) (m.map (kvI dvI)) = some ((mset x v m).map (kvI dvI)) := upd_I (g := dvI)
theorem upd_IB {x : Int} {v : Bool} {m : List (Int × Bool)} : updKV (.int .i64) (.c (.int .i64 x)) (.c (.bool v)) (m.map (kvI dvB)) = some ((mset x v m).map (kvI dvB)) := upd_I (g := dvB)
theorem upd_IL {x : Int} {v : List Int} {m : List (Int × List Int)} : updKV (.int .i64) (.c (.int .i64 x)) (.c (.vec (v.map encI))) (m.map (kvI (dvL encI))) = some ((mset x v m).map (kvI (dvL encI))) := upd_I (g := dvL encI)
theorem upd_SI {x : Str} {v : Int} {m : List (Str × Int)} : updKV .str (.c (.str x)) (.c (.int .i64 v)) (m.map (kvS dvI)) = some ((mset x v m).map (kvS dvI)) := upd_S (g := dvI)
theorem upd_SB {x : Str} {v : Bool} {m : List (Str × Bool)} : updKV .str (.c (.str x)) (.c (.bool v)) (m.map (kvS dvB)) = some ((mset x v m).map (kvS dvB)) := upd_S (g := dvB)

theorem idx_cons {β ρ : Type} {e : β} {r : List β} {i : Int} {k : β → W ρ} : idx (e :: r) i k = if i = 0 then k e else idx r (i - 1) k := by
  by_cases h : i = 0
  · subst h
    rw [if_pos rfl]; unfold idx at'
    exact need_pos (Int.le_refl 0)
  · rw [if_neg h]; unfold idx at'
    by_cases h0 : 0 ≤ i
    · have h1 : 0 ≤ i - 1 := by omega
      rw [need_pos h0, need_pos h1]
      have : i.toNat = (i - 1).toNat + 1 := by omega
      rw [this, List.getElem?_cons_succ]
    · refine eq_of fun Q => ⟨fun h' => (h0 h'.1).elim, fun h' => (h0 (by have := h'.1; omega)).elim⟩
theorem idx_nil {β ρ : Type} {i : Int} {k : β → W ρ} : idx [] i k = .fail := eq_of fun Q => ⟨fun h => h.2, fun h => h.elim⟩

theorem takeN_00 {α : Type} {l : List α} : takeN 0 0 l = some [] := by simp [takeN]
theorem takeN_0s {α : Type} {n : Nat} {a : α} {l : List α} : takeN 0 (n + 1) (a :: l) = (takeN 0 n l).map (a :: ·) := by
  unfold takeN
  by_cases h : n ≤ l.length
  · have : n + 1 ≤ (a :: l).length := by simp; omega
    simp [h]
  · have : ¬ n + 1 ≤ (a :: l).length := by simp; omega
    simp [h]
theorem takeN_ss {α : Type} {n off : Nat} {a : α} {l : List α} : takeN (off + 1) n (a :: l) = takeN off n l := by
  unfold takeN
  have : off + 1 + n ≤ (a :: l).length ↔ off + n ≤ l.length := by simp only [List.length_cons]; omega
  simp only [this, List.drop_succ_cons]

/-! Numbers. -/
theorem w64_id {n : Int} (h : -9223372036854775808 ≤ n) (h' : n ≤ 9223372036854775807) : w64 n = n := by
  simp only [w64, IntKind.wrap, IntKind.bits, IntKind.signed, Bool.true_and, ge_iff_le, decide_eq_true_eq]
  omega
theorem bits64 : IntKind.bits .i64 = 64 := rfl
/-- A computation in full. -/
theorem WR_of {P : SProg} {f n : Nat} {vs : List V} {out : List O} {r : Ret} (h : arun P n f vs out = .ret r) : WR P f vs out = .pure r := by
  refine W.eq_of fun Q => ⟨fun ⟨m, hm⟩ => ?_, fun hQ => ⟨n, by show (arun P n f vs out).All Q; rw [h]; exact hQ⟩⟩
  have h1 := ((up_run P f vs out).le (Nat.le_max_left m n)).all hm
  have h2 : (arun P n f vs out).All (· = r) := by rw [h]; rfl
  have h3 := ((up_run P f vs out).le (Nat.le_max_right m n)).all h2
  have key : ∀ {m : M Ret}, m.All Q → m.All (· = r) → Q r := by
    intro m
    induction m with
    | ret a => rintro hQ rfl; exact hQ
    | fail => exact fun h => h.elim
    | ask c k ih => exact fun h h' => ih 0 (h.2 0 h.1) (h'.2 0 h.1)
  exact key h1 h3

/-- The empty part of a slice, without room. -/
theorem sliceV_0 {s : St} {sz : Nat} {c : C} {n : Nat} (h : s.lenOf c = some n) : sliceV s sz c none (some (.con (.c (.d (.int .i64 0))))) (some (.con (.c (.d (.int .i64 0))))) = some .nils := by
  unfold sliceV
  rw [h]
  rfl
theorem slice0_v {s : St} {sz : Nat} {es : Row} : sliceV s sz (.d (.vec es)) none (some (.con (.c (.d (.int .i64 0))))) (some (.con (.c (.d (.int .i64 0))))) = some .nils := sliceV_0 (n := es.length) rfl
theorem slice0_n {s : St} {sz : Nat} : sliceV s sz .nils none (some (.con (.c (.d (.int .i64 0))))) (some (.con (.c (.d (.int .i64 0))))) = some .nils := sliceV_0 (n := 0) rfl
end Go.Aiv

