/- Plain functions: predicate transformers, and the laws by which the interpreter's code is one of them. -/
import Derived.Test.YtphppkakojdhbaaWBase
set_option linter.unusedSimpArgs false
set_option linter.unusedVariables false
namespace Go.Aiv
open W

/-! What is behind, by name. -/
section
variable (P : SProg) {ρ : Type}
def keepW (ks : List Nat) (K : Ex × St → W ρ) (s : St) : W ρ := K (.normal, s.keep ks)
def seqW (b : SCode) (K : Ex × St → W ρ) (r : Ex × St) : W ρ := match r.1 with | .normal => XK P b r.2 K | e => K (e, r.2)
def blockW (id : Nat) (K : Ex × St → W ρ) (r : Ex × St) : W ρ := match r.1 with | .exit j => if j = id then K (.normal, r.2) else K (.exit j, r.2) | e => K (e, r.2)
def opsW (ops : List SOper) (K : St → W ρ) (s : St) : W ρ := OK P ops s K
def treeW (t : DTree) (K : St → W ρ) (s : St) : W ρ := TK P t s K
def putW (s : St) (dst : Option Nat) (K : St → W ρ) (v : AV) : W ρ := K (s.put dst v)
def condW (c : AV) (a b : W ρ) : W ρ := match boolOf c with | some true => a | some false => b | none => .fail
def finW (rs : List SRes) (d : Bool) (K : Ret → W ρ) (r : Ex × St) : W ρ := match r.1 with | .exit _ => .fail | _ => (ofM (finish ⟨0, rs, d, .skip⟩ r.2)).bind K
/-- The end of a round. -/
def endW (nrm : St → St) (K : Ex × St → W ρ) (r : Ex × St) : W (St ⊕ ρ) := match r.1 with | .normal => .pure (.inl (nrm r.2)) | e => (K (e, r.2)).bind fun x => .pure (.inr x)
def LK (b : SCode) (lv : List Nat) (g : List (Nat × Option Nat × Nat)) (s : St) (K : Ex × St → W ρ) : W ρ := run (fun s => XK P b s (endW (norm lv g) K)) (norm lv g s)
end

section
variable {P : SProg} {ρ : Type} {s : St} {K : Ex × St → W ρ} {K' : St → W ρ}

theorem condW_b {b : Bool} {x y : W ρ} : condW (.v (.c (.d (.bool b)))) x y = cond b x y := by cases b <;> rfl
theorem condW_d {b : Bool} {x y : W ρ} : condW (.d (.bool b)) x y = cond b x y := by cases b <;> rfl
theorem seqW_n {b : SCode} : seqW P b K (.normal, s) = XK P b s K := rfl
theorem seqW_e {b : SCode} {id : Nat} : seqW P b K (.exit id, s) = K (.exit id, s) := rfl
theorem seqW_r {b : SCode} : seqW P b K (.ret, s) = K (.ret, s) := rfl
theorem blockW_n {id : Nat} : blockW id K (.normal, s) = K (.normal, s) := rfl
theorem blockW_e {id j : Nat} : blockW id K (.exit j, s) = if j = id then K (.normal, s) else K (.exit j, s) := rfl
theorem blockW_r {id : Nat} : blockW id K (.ret, s) = K (.ret, s) := rfl
theorem keepW_a {ks : List Nat} : keepW ks K s = K (.normal, s.keep ks) := rfl
theorem opsW_a {ops : List SOper} : opsW P ops K' s = OK P ops s K' := rfl
theorem treeW_a {t : DTree} : treeW P t K' s = TK P t s K' := rfl
theorem putW_a {dst : Option Nat} {v : AV} : putW s dst K' v = K' (s.put dst v) := rfl
theorem endW_n {nrm : St → St} : endW nrm K (.normal, s) = .pure (.inl (nrm s)) := rfl
theorem endW_e {nrm : St → St} {id : Nat} : endW nrm K (.exit id, s) = (K (.exit id, s)).bind fun x => .pure (.inr x) := rfl
theorem endW_r {nrm : St → St} : endW nrm K (.ret, s) = (K (.ret, s)).bind fun x => .pure (.inr x) := rfl
theorem finW_n {rs : List SRes} {d : Bool} {k : Ret → W ρ} : finW rs d k (.normal, s) = (ofM (finish ⟨0, rs, d, .skip⟩ s)).bind k := rfl
theorem finW_r {rs : List SRes} {d : Bool} {k : Ret → W ρ} : finW rs d k (.ret, s) = (ofM (finish ⟨0, rs, d, .skip⟩ s)).bind k := rfl

theorem XK_skip : XK P .skip s K = K (.normal, s) := by
  unfold XK; simp only [aexec]; rw [lim_const]; rfl
theorem XK_exit {id : Nat} : XK P (.exit id) s K = K (.exit id, s) := by
  unfold XK; simp only [aexec]; rw [lim_const]; rfl
theorem XK_ret : XK P .ret s K = K (.ret, s) := by
  unfold XK; simp only [aexec]; rw [lim_const]; rfl
theorem XK_reg {ops : List SOper} {ks : List Nat} : XK P (.reg ops ks) s K = OK P ops s (keepW ks K) := by
  refine (congrArg (W.bind · K) (lim_bind (up_ops P ops s) (k := fun _ s' => .ret (Ex.normal, s'.keep ks)) (fun _ => Up.const _))).trans ?_
  rw [bind_assoc]
  show (lim _).bind _ = (lim _).bind _
  congr; funext s'
  rw [lim_const]; rfl
theorem XK_draw {t : DTree} {ks : List Nat} : XK P (.draw t ks) s K = TK P t s (keepW ks K) := by
  refine (congrArg (W.bind · K) (lim_bind (up_tree P t s) (k := fun _ s' => .ret (Ex.normal, s'.keep ks)) (fun _ => Up.const _))).trans ?_
  rw [bind_assoc]
  show (lim _).bind _ = (lim _).bind _
  congr; funext s'
  rw [lim_const]; rfl
theorem XK_seq {a b : SCode} : XK P (.seq a b) s K = XK P a s (seqW P b K) := by
  refine (congrArg (W.bind · K) (lim_bind (up_exec P a s) (k := fun n r => match r.1 with | .normal => aexec (arun P n) n b r.2 | e => .ret (e, r.2)) (fun r => by
    rcases r with ⟨_ | _ | _, s⟩
    · exact up_exec P b s
    · exact Up.const _
    · exact Up.const _))).trans ?_
  rw [bind_assoc]
  show (lim _).bind _ = (lim _).bind _
  congr; funext r
  rcases r with ⟨_ | _ | _, s⟩
  · rfl
  · dsimp only; rw [lim_const]; rfl
  · dsimp only; rw [lim_const]; rfl
theorem XK_cond {c : Opd} {a b : SCode} : XK P (.cond c a b) s K = condW (s.opd c) (XK P a s K) (XK P b s K) := by
  unfold XK condW; simp only [aexec]
  cases boolOf (s.opd c) with
  | none => dsimp only; rw [lim_const]; rfl
  | some t => cases t <;> rfl
def blockM (id : Nat) (r : Ex × St) : M (Ex × St) := match r.1 with | .exit j => if j = id then .ret (.normal, r.2) else .ret (.exit j, r.2) | e => .ret (e, r.2)
theorem blockM_W {id : Nat} (r : Ex × St) : (ofM (blockM id r)).bind K = blockW id K r := by
  rcases r with ⟨_ | j | _, s⟩
  · rfl
  · unfold blockM blockW
    by_cases h : j = id
    · simp only [if_pos h]; rfl
    · simp only [if_neg h]; rfl
  · rfl
theorem XK_block {id : Nat} {b : SCode} : XK P (.block id b) s K = XK P b s (blockW id K) := by
  have h : (lim fun n => aexec (arun P n) n (.block id b) s) = (lim fun n => aexec (arun P n) n b s).bind fun r => ofM (blockM id r) := by
    have := lim_bind (up_exec P b s) (k := fun _ r => blockM id r) (fun _ => Up.const _)
    simp only [lim_const] at this
    exact this
  unfold XK
  rw [h, bind_assoc]
  congr; funext r
  exact blockM_W r

theorem iter_up {b : SCode} {nrm : St → St} (s : St) : Up fun n => iterM (aexec (arun P n) n b) nrm n s :=
  fun n => iterM_le (fun s => aexec_le (arun_le n) (by omega) b s) nrm (by omega) s

theorem XK_loop {b : SCode} {lv : List Nat} {g : List (Nat × Option Nat × Nat)} : XK P (.loop lv g b) s K = LK P b lv g s K := by
  refine W.eq_of fun Q => ⟨fun h => ?_, fun h => ?_⟩
  · obtain ⟨n, hn⟩ := h
    simp only [aexec] at hn
    have : ∀ k s, (iterM (aexec (arun P n) n b) (norm lv g) k s).All (fun a => (K a).wp Q) → (LK P b lv g s K).wp Q := by
      intro k
      induction k with
      | zero => exact fun _ h => h.elim
      | succ k ih =>
        intro s h
        unfold LK
        rw [run_eq]
        refine ⟨n, (M.all_bind h).mono fun r hr => ?_⟩
        rcases r with ⟨_ | _ | _, s'⟩
        · exact ih s' hr
        · exact hr
        · exact hr
    exact this n s hn
  · have key : ∀ t, t = norm lv g s → (run (fun s => XK P b s (endW (norm lv g) K)) t).wp Q → ∀ s', norm lv g s' = t → (XK P (.loop lv g b) s' K).wp Q := by
      intro t _ h
      refine run_ind (fun t => ∀ s', norm lv g s' = t → (XK P (.loop lv g b) s' K).wp Q) ?_ h
      intro t ht s' hs'
      show ∃ n, (iterM (aexec (arun P n) n b) (norm lv g) n s').All fun a => (K a).wp Q
      obtain ⟨n, hn⟩ := ht
      obtain ⟨n', hn'⟩ := M.All.room (R := fun (r : Ex × St) j => match r.1 with | .normal => (iterM (aexec (arun P j) j b) (norm lv g) j r.2).All fun a => (K a).wp Q | e => (K (e, r.2)).wp Q)
        (fun r i j hij => by
          rcases r with ⟨_ | _ | _, s⟩
          · exact fun h => ((iter_up s).le hij).all h
          · exact id
          · exact id)
        (hn.mono (R := fun r => ∃ j, _) fun r hr => by
          rcases r with ⟨_ | _ | _, s''⟩
          · obtain ⟨j, hj⟩ := hr s'' rfl
            exact ⟨j, hj⟩
          · exact ⟨0, hr⟩
          · exact ⟨0, hr⟩)
      refine ⟨max n n' + 1, ?_⟩
      rw [iterM]
      refine M.All.of_bind ?_
      rw [hs']
      refine ((aexec_le (c' := arun P (max n n' + 1)) (fun f vs out => (up_run P f vs out).le (by omega)) (by omega) b t).all hn').mono fun r hr => ?_
      rcases r with ⟨_ | _ | _, s⟩
      · exact (iterM_le (fun s => aexec_le (fun f vs out => (up_run P f vs out).le (by omega)) (by omega) b s) (norm lv g) (by omega) s).all hr
      · exact hr
      · exact hr
    exact key _ rfl h s rfl

/-- A loop by its rounds. -/
theorem LK_run {σ : Type} {b : SCode} {lv : List Nat} {g : List (Nat × Option Nat × Nat)} {S : σ → St} {step : σ → W (σ ⊕ ρ)} {x : σ}
    (h : ∀ x, XK P b (S x) (endW (norm lv g) K) = (step x).bind (Sum.elim (fun y => .pure (.inl (S y))) (fun r => .pure (.inr r)))) (h0 : norm lv g s = S x) :
    LK P b lv g s K = run step x := by
  unfold LK
  rw [h0]
  refine W.eq_of fun Q => ⟨fun h' => ?_, fun h' => ?_⟩
  · refine run_ind (fun t => ∀ y, t = S y → (run step y).wp Q) ?_ h' x rfl
    rintro t ht y rfl
    rw [run_eq]
    rw [h] at ht
    refine (step y).mono _ _ (fun r hr => ?_) ht
    cases r with
    | inl z => exact hr z rfl
    | inr z => exact hr
  · refine run_ind (fun y => (run (fun s => XK P b s (endW (norm lv g) K)) (S y)).wp Q) ?_ h'
    intro y hy
    rw [run_eq]
    show (XK P b (S y) (endW (norm lv g) K)).wp _
    rw [h]
    refine (step y).mono _ _ (fun r hr => ?_) hy
    cases r <;> exact hr

/-! Regions. -/
/-- The first entry of a name gets another value. -/
def reget (t : Nat) (v : AV) : List (Nat × AV) → List (Nat × AV)
  | [] => []
  | (i, u) :: r => if i = t then (i, v) :: r else (i, u) :: reget t v r
theorem reget_same {t : Nat} : ∀ {e : List (Nat × AV)}, reget t (get t e) e = e
  | [] => rfl
  | (i, u) :: r => by
    unfold reget get
    by_cases h : i = t
    · rw [if_pos h, if_pos h]
    · rw [if_neg h, if_neg h, reget_same]
def St.re (s : St) (t : Nat) (v : AV) : St := { s with env := reget t v s.env }
def St.reo (s : St) (x : Opd) (v : AV) : St := match x with | .tmp t => s.re t v | _ => s

/-- A branch knows what it was taken on. -/
theorem XK_cond' {c : Opd} {a b : SCode} : XK P (.cond c a b) s K = condW (s.opd c) (XK P a (s.reo c (.v (.c (.d (.bool true))))) K) (XK P b (s.reo c (.v (.c (.d (.bool false))))) K) := by
  rw [XK_cond]
  cases c with
  | tmp t =>
    show condW (get t s.env) _ _ = condW (get t s.env) _ _
    have key : ∀ v, get t s.env = v → s.re t v = s := by rintro v rfl; unfold St.re; rw [reget_same]
    unfold condW boolOf
    split
    · rename_i h
      split at h
      · cases h; rename_i he; show XK P a s K = XK P a (s.re t _) K; rw [key _ he]
      · cases h
    · rename_i h
      split at h
      · cases h; rename_i he; show XK P b s K = XK P b (s.re t _) K; rw [key _ he]
      · cases h
    · rfl
  | con x => rfl
  | fn f => rfl

def guardW (o : SOper) (s : St) (t : Nat) (want : Bool) (v : AV) (step : St → W ρ) (K : St → W ρ) : W ρ :=
  match v with
  | .un => K (s.put o.dst .un)
  | .v (.c (.d (.bool b))) => cond b (cond want (step (s.re t (.v (.c (.d (.bool true)))))) (K ((s.re t (.v (.c (.d (.bool true))))).put o.dst .un)))
      (cond want (K ((s.re t (.v (.c (.d (.bool false))))).put o.dst .un)) (step (s.re t (.v (.c (.d (.bool false)))))))
  | _ => .fail

theorem guardW_un {o : SOper} {t : Nat} {want : Bool} {step : St → W ρ} : guardW o s t want .un step K' = K' (s.put o.dst .un) := rfl
theorem guardW_b {o : SOper} {t : Nat} {want : Bool} {b : Bool} {step : St → W ρ} : guardW o s t want (.v (.c (.d (.bool b)))) step K' = cond b (cond want (step (s.re t (.v (.c (.d (.bool true)))))) (K' ((s.re t (.v (.c (.d (.bool true))))).put o.dst .un)))
      (cond want (K' ((s.re t (.v (.c (.d (.bool false))))).put o.dst .un)) (step (s.re t (.v (.c (.d (.bool false))))))) := rfl

theorem OK_nil : OK P [] s K' = K' s := by unfold OK; simp only [runOps]; rw [lim_const]; rfl
theorem lim_guard {m : Nat → St → M St} {o : SOper} (hm : ∀ s, Up fun n => m n s) (f : St → W ρ) :
    (lim fun n => runG (m n) o s).bind f = match o.guard with | none => (lim fun n => m n s).bind f | some (t, want) => guardW o s t want (get t s.env) (fun s => (lim fun n => m n s).bind f) f := by
  unfold runG
  cases o.guard with
  | none => rfl
  | some g =>
    obtain ⟨t, want⟩ := g
    have key : ∀ v, get t s.env = v → s.re t v = s := by rintro v rfl; unfold St.re; rw [reget_same]
    dsimp only
    cases hv : get t s.env with
    | un => dsimp only; rw [lim_const]; rfl
    | v x =>
      cases x with
      | c x =>
        cases x with
        | d x =>
          cases x with
          | bool b =>
            dsimp only
            rw [lim_ite, guardW_b]
            rw [hv] at key
            cases b <;> cases want <;> simp only [key _ rfl, cond_true, cond_false, if_true, if_false, reduceCtorEq, lim_const] <;> rfl
          | _ => dsimp only; rw [lim_const]; rfl
        | _ => dsimp only; rw [lim_const]; rfl
      | agg cs => dsimp only; rw [lim_const]; rfl
    | _ => dsimp only; rw [lim_const]; rfl

theorem OK_cons {o : SOper} {r : List SOper} : OK P (o :: r) s K' = match o.guard with
    | none => AK P s o.dst o.op (opsW P r K')
    | some (t, want) => guardW o s t want (get t s.env) (fun s => AK P s o.dst o.op (opsW P r K')) (opsW P r K') := by
  unfold OK; simp only [runOps]
  rw [lim_bind (m := fun n => runG (fun s => aop (arun P n) s o.dst o.op) o s) (k := fun n => runOps (arun P n) r) (fun n => runG_le (fun s => up_aop P s _ _ n) o s) (fun s => up_ops P r s)]
  rw [bind_assoc, lim_guard (m := fun n s => aop (arun P n) s o.dst o.op) (fun s => up_aop P s _ _)]
  rfl
theorem OK_0 {d : Option Nat} {op : SOp} {r : List SOper} : OK P (⟨d, none, op⟩ :: r) s K' = AK P s d op (opsW P r K') := OK_cons
theorem OK_1 {d : Option Nat} {t : Nat} {want : Bool} {op : SOp} {r : List SOper} : OK P (⟨d, some (t, want), op⟩ :: r) s K' = guardW ⟨d, some (t, want), op⟩ s t want (get t s.env) (fun s => AK P s d op (opsW P r K')) (opsW P r K') := OK_cons

/-! Regions in many orders. -/
def DKW (P : SProg) (k : DK) (s : St) (dst : Option Nat) (op : SOp) (K : St → W ρ) : W ρ := match k with
  | .quiet => ofO (aq s op) (putW s dst K)
  | .pure => ofO (aq s.bare op) (putW s dst K)
  | .mild => cond (mildOk s op) (AK P s dst op K) .fail
  | .heavy => AK P s dst op K
theorem TK_done : TK P .done s K' = K' s := by unfold TK; simp only [runTree]; rw [lim_const]; rfl
theorem TK_fork {a b : DTree} : TK P (.fork a b) s K' = amb (TK P a s K') (TK P b s K') := by
  unfold TK; simp only [runTree]
  rw [lim_ask (k := fun n i => if i = 0 then runTree (arun P n) a s else runTree (arun P n) b s) (fun i => by
    by_cases h : i = 0
    · simp only [if_pos h]; exact up_tree P a s
    · simp only [if_neg h]; exact up_tree P b s), any_bind, any_two]
  rfl
theorem TK_cons {k : DK} {o : SOper} {t : DTree} : TK P (.step k o t) s K' = match o.guard with
    | none => DKW P k s o.dst o.op (treeW P t K')
    | some (i, want) => guardW o s i want (get i s.env) (fun s => DKW P k s o.dst o.op (treeW P t K')) (treeW P t K') := by
  unfold TK; simp only [runTree]
  rw [lim_bind (m := fun n => runD (arun P n) k o s) (k := fun n => runTree (arun P n) t) (fun n => runD_le (arun_le n) k o s) (fun s => up_tree P t s)]
  rw [bind_assoc]
  have e : ∀ (f : St → W ρ) (s : St), (lim fun n => match k with
    | .quiet => match aq s o.op with
      | some r => M.ret (s.put o.dst r)
      | none => .fail
    | .pure => match aq s.bare o.op with
      | some r => .ret (s.put o.dst r)
      | none => .fail
    | .mild => if mildOk s o.op then aop (arun P n) s o.dst o.op else .fail
    | .heavy => aop (arun P n) s o.dst o.op).bind f = DKW P k s o.dst o.op f := by
    intro f s
    cases k with
    | quiet => dsimp only [DKW]; rw [lim_const]; cases aq s o.op <;> rfl
    | pure => dsimp only [DKW]; rw [lim_const]; cases aq s.bare o.op <;> rfl
    | mild =>
      dsimp only [DKW]; rw [lim_ite, lim_const]
      cases mildOk s o.op <;> rfl
    | heavy => rfl
  unfold runD
  rw [lim_guard (fun s => by
    cases k with
    | quiet => exact Up.const _
    | pure => exact Up.const _
    | mild =>
      dsimp only
      by_cases h : mildOk s o.op = true
      · simp only [if_pos h]; exact up_aop P s _ _
      · simp only [if_neg h]; exact Up.const _
    | heavy => exact up_aop P s _ _)]
  cases o.guard with
  | none => exact e _ _
  | some g => exact congrArg (fun x => guardW o s g.1 g.2 (get g.1 s.env) x (treeW P t K')) (funext fun s => e _ s)
theorem TK_0 {k : DK} {d : Option Nat} {op : SOp} {t : DTree} : TK P (.step k ⟨d, none, op⟩ t) s K' = DKW P k s d op (treeW P t K') := TK_cons
theorem TK_1 {k : DK} {d : Option Nat} {i : Nat} {want : Bool} {op : SOp} {t : DTree} : TK P (.step k ⟨d, some (i, want), op⟩ t) s K' = guardW ⟨d, some (i, want), op⟩ s i want (get i s.env) (fun s => DKW P k s d op (treeW P t K')) (treeW P t K') := TK_cons

/-! Functions. -/
theorem WR_code {f : Nat} {sf : SFunc} {vs : List V} {out : List O} (hf : P.fn f = some sf) (hl : vs.length = sf.nparams) :
    WR P f vs out = XK P sf.body ⟨enter vs, [], out⟩ (finW sf.results sf.asData .pure) := by
  have h : WR P f vs out = lim fun n => (aexec (arun P n) n sf.body ⟨enter vs, [], out⟩).bind fun r => match r.1 with
      | .exit _ => .fail
      | _ => finish sf r.2 := by
    unfold WR
    refine W.eq_of fun Q => ⟨fun ⟨n, hn⟩ => ?_, fun ⟨n, hn⟩ => ⟨n + 1, by simp only [arun, hf, if_pos hl]; exact hn⟩⟩
    cases n with
    | zero => exact hn.elim
    | succ n => simp only [arun, hf, if_pos hl] at hn; exact ⟨n, hn⟩
  rw [h, lim_bind (up_exec P _ _) (k := fun _ r => match r.1 with | .exit _ => .fail | _ => finish sf r.2) (fun _ => Up.const _)]
  unfold XK
  congr; funext r
  rw [lim_const]
  rcases r with ⟨_ | _ | _, s⟩ <;> rfl

/-- From answers to what the interpreter shows. -/
theorem WR_all {f : Nat} {vs : List V} {out : List O} {Q : Ret → Prop} (h : (WR P f vs out).wp Q) : ∃ n, (arun P n f vs out).All Q := h
end
end Go.Aiv

