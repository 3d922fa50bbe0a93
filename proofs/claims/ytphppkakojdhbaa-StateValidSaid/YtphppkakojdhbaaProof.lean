/- StateValid: for every input the law returns true, and each argument reads afterwards as it read before. No further condition. -/
import Derived.Test.YtphppkakojdhbaaRows
import Derived.Test.YtphppkakojdhbaaChk
import Derived.Test.YtphppkakojdhbaaLaw
import Derived.WalkKit
import Derived.ProofKit
import Derived.OpenShut
import Derived.JoinedCond
set_option linter.unusedSimpArgs false
set_option linter.unusedVariables false
namespace Go.Aiv
open Go.Proofs
set_option maxRecDepth 100000 in
theorem conf_Alt {n : Nat} {ds : List D} (h : conf Try.prog (n + 1 + 1 + 1) 42 ds) : ∃ x : Alt, ds = x.enc ∧ x.wf := by
  have hs := conf_struct Try.underlying42 h
  obtain ⟨_, _, rfl, hs0, _, _, rfl, hs1, rfl⟩ := hs
  obtain ⟨y0, rfl, wy0⟩ := conf_int Try.underlying3 hs0
  have hs1s := conf_struct Try.underlying40 hs1
  obtain ⟨_, _, rfl, hs1s0, _, _, rfl, hs1s1, _, _, rfl, hs1s2, _, _, rfl, hs1s3, rfl⟩ := hs1s
  obtain ⟨y1, rfl, wy1⟩ := conf_int Try.underlying3 hs1s0
  obtain ⟨y2, rfl⟩ := conf_bool Try.underlying4 hs1s1
  obtain ⟨y3, rfl, wy3⟩ := conf_str Try.underlying9 hs1s2
  obtain ⟨y4, rfl, wy4⟩ := conf_int Try.underlying3 hs1s3
  exact ⟨⟨y0, y1, y2, y3, y4⟩, rfl, ⟨wy0, wy1, trivial, wy3, wy4⟩⟩
set_option maxRecDepth 100000 in
theorem conf_Slot {n : Nat} {ds : List D} (h : conf Try.prog (n + 1 + 1 + 1 + 1 + 1) 38 ds) : ∃ x : Slot, ds = x.enc ∧ x.wf := by
  have hs := conf_struct Try.underlying38 h
  obtain ⟨_, _, rfl, hs0, _, _, rfl, hs1, _, _, rfl, hs2, rfl⟩ := hs
  obtain ⟨y0, rfl, wy0⟩ := conf_int Try.underlying3 hs0
  obtain ⟨y1, rfl, wy1⟩ := conf_int Try.underlying3 hs1
  obtain ⟨y2, rfl, wy2⟩ := conf_slice Try.underlying36 (p := Alt.wf) (fun _ h => conf_Alt h) hs2
  exact ⟨⟨y0, y1, y2⟩, rfl, ⟨wy0, wy1, wy2⟩⟩
end Go.Aiv
namespace Go.Proofs.Ytphppkakojdhbaa.stateValid
open Go.ChangeShapes Go.WideShapes Go.ChangeAt Go.RowKit Go.Aiv

theorem own : ownKnob Try.prog.godebug = none := by kernel_rfl
theorem laidOut : laidOutB Try.prog = true := by kernel_rfl
theorem plain : ∀ t ∈ Try.f3.params.toList, plainT Try.prog 12 t = true := by rw [Try.params3]; simp only [List.forall_mem_cons]; exact ⟨by kernel_rfl, List.forall_mem_nil _⟩
theorem reads : ∀ t ∈ Try.f3.params.toList, Try.prog.readableRec t = true ∧ t < Try.prog.types.size := by rw [Try.params3]; simp only [List.forall_mem_cons]; exact ⟨⟨by kernel_rfl, of_decide_eq_true (by kernel_rfl)⟩, List.forall_mem_nil _⟩

set_option maxRecDepth 100000 in
theorem contract (H : Type) (enc : TypeId × Value → H) (W : World) (base : Nat) (args : Array Value) (ds gs : List (DataW H)) (before : List MemPlace)
    (hval : ∀ (j : Nat) t v, Try.f3.params[j]? = some t → args[j]? = some v → Value.okWide Try.prog W .any base t v)
    (hW : DataW.Whole enc Try.prog Try.f3.params.toList Rows.stateValidSpec.vars false W args.toList ds gs before) :
    Calls Try.prog 3 args W fun e W' => ∃ v, e = .returned v ∧ Rows.stateValidSpec.post enc Try.prog Try.f3 false true false false W args v W' := by
  obtain ⟨args⟩ := args
  dsimp only at hW
  have hW' := hW
  obtain ⟨p, q, hA, hV, rfl, hfz, hnd⟩ := hW
  have hA' := hA
  rw [Try.params3] at hA
  obtain ⟨v0', vs0, d0, ds0, p0, pr0, ha0, hd0, hp0, q0, r0⟩ := trodAll_cons hA
  obtain ⟨rfl, rfl, rfl⟩ := trodAll_nil r0
  have hds := hd0
  subst hd0
  obtain ⟨rfl, rfl⟩ := trodVars_none hV
  simp only [List.append_nil] at hW'
  have g00 : conf Try.prog (0 + 1 + 1 + 1 + 1 + 1 + 1 + 1 + 1 + 1 + 1 + 1 + 1) 24 (dwD d0) := trod_conf _ 12 24 _ _ _ (by kernel_rfl) q0.choose_spec
  obtain ⟨e0, he0⟩ : ∃ e, dwD d0 = e := ⟨_, rfl⟩
  rw [he0] at g00
  have g00s := conf_struct Try.underlying24 g00
  obtain ⟨_, _, rfl, g00s0, rfl⟩ := g00s
  obtain ⟨y0, rfl, wy0⟩ := conf_slice Try.underlying22 (p := Slot.wf) (fun _ h => conf_Slot h) g00s0
  have v0 : dwV Try.prog 24 d0 = _ := (dwV_struct Try.underlying24).trans (congrArg (fun e => V.agg (ofData e)) he0)
  have hrep := args_rep (F := Chk.F) (n := 12) plain (fun j t v h1 h2 => hval j t v (by simpa using h1) (by simpa using h2)) hA'
  rw [Try.params3] at hrep
  have hvs : dwVs Try.prog (#[24] : Array TypeId).toList [d0] = [dwV Try.prog 24 d0] := rfl
  rw [hvs, v0] at hrep
  obtain ⟨m, hm⟩ := WR_all (wp_of ((f0_eq y0).trans (congrArg (fun w => Go.Aiv.W.bind w _) (law_StateValid y0  wy0))))
  refine (calls_true (f' := 3) (f := 0) Chk.ok rfl hrep hm).mono fun e W' ⟨he, hB⟩ => ?_
  subst he
  exact ⟨_, rfl, post_true (tb := 4) laidOut reads rfl Try.underlying4 rfl hW' hA' rfl rfl hB⟩

set_option maxRecDepth 100000 in
theorem lifted (os : Os) (started : os.Started) (H : Type) (enc : TypeId × Value → H) :
    ReturnsInHanded {} Try.checked os 3 .any (Rows.stateValidSpec.pre6 enc Try.prog Try.f3 Rows.stateValidRow.domain false) (Rows.stateValidSpec.post enc Try.prog Try.f3 false true false false) := by
  refine returnsInHanded_of_change (C := Try.checked) own started (by kernel_rfl) Try.func3
    (ChangeSpec.witness6 (enc := enc) (C := Try.checked) false ⟨#[], #[.agg #[.slice none 0 0]], []⟩ 8 (by kernel_rfl) (by kernel_rfl) (by kernel_rfl) (by kernel_rfl)) ?_
  intro W base args ds gs before hval hW _ _
  exact contract H enc W base args ds gs before hval hW

theorem proved : Rows.StateValidSaid :=
  OpenClaim.holds_of_wide 3 Try.f3 rfl rfl rfl rfl rfl rfl rfl ⟨rfl, rfl, rfl, rfl, rfl⟩ rfl rfl rfl rfl rfl (by kernel_rfl) Try.func3 (by kernel_rfl)
    (of_decide_eq_true (by kernel_rfl)) (by unfold Func.isWrapper; first | (rw [if_pos (by decide +kernel)]; kernel_rfl) | (rw [if_neg (by decide +kernel)]; exact ⟨rfl, rfl⟩))
    (fun os started H enc _ => lifted os started H enc)
#print axioms proved
end Go.Proofs.Ytphppkakojdhbaa.stateValid
