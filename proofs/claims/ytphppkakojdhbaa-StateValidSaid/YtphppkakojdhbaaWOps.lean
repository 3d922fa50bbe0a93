/- Plain functions: predicate transformers, and the laws by which the interpreter's code is one of them. -/
import Derived.Test.YtphppkakojdhbaaWStep
set_option linter.unusedSimpArgs false
set_option linter.unusedVariables false
namespace Go.Aiv
open W

section
variable {P : SProg} {ρ : Type} {s : St} {dst : Option Nat} {K : St → W ρ} {k : AV → W ρ}

def noC : Nat → List V → List O → M Ret := fun _ _ _ => .fail
theorem AK_m {op : SOp} (h : ∀ c, aop c s dst op = aop noC s dst op) : AK P s dst op K = (ofM (aop noC s dst op)).bind K := by
  unfold AK; simp only [h]; rw [lim_const]
theorem ofM_ret {α β : Type} {a : α} {f : α → W β} : (ofM (.ret a)).bind f = f a := rfl
theorem ofM_fail {α β : Type} {f : α → W β} : (ofM (.fail : M α)).bind f = .fail := rfl
theorem ofM_ite {α β : Type} {c : Prop} [Decidable c] {m : M α} {f : α → W β} : (ofM (if c then m else .fail)).bind f = need c ((ofM m).bind f) := by
  by_cases h : c
  · rw [if_pos h, need_pos h]
  · rw [if_neg h]; exact eq_of fun _ => ⟨fun h' => h'.elim, fun h' => h h'.1⟩

/-- A step that gives a value. -/
def QW (s : St) (op : SOp) (k : AV → W ρ) : W ρ := ofO (evQ s op) k
def aqW (s : St) (op : SOp) (k : AV → W ρ) : W ρ := ofO (aq s op) k
theorem AK_q {op : SOp} (h : ∀ c, aop c s dst op = match evQ s op with | some v => .ret (s.put dst v) | none => .fail) : AK P s dst op K = QW s op (putW s dst K) := by
  unfold AK QW; simp only [h]; rw [lim_const]
  cases evQ s op <;> rfl

theorem DKW_quiet {op : SOp} : DKW P .quiet s dst op K = aqW s op (putW s dst K) := rfl
theorem DKW_pure {op : SOp} : DKW P .pure s dst op K = aqW s.bare op (putW s dst K) := rfl
theorem DKW_mild {op : SOp} : DKW P .mild s dst op K = cond (mildOk s op) (AK P s dst op K) .fail := rfl
theorem DKW_heavy {op : SOp} : DKW P .heavy s dst op K = AK P s dst op K := rfl

section
variable {x y z : Opd} {n m : Nat} {b : Bool} {zs : List C} {ps : List (Nat × Nat × Opd)} {op : BinOp} {uo : UnOp} {ks : List Kd} {ik : IntKind} {lo hi mx : Option Opd} {kd : Kd} {v : V} {xs : List Opd}
theorem AK_mov : AK P s dst (.mov x) K = QW s (.mov x) (putW s dst K) := AK_q fun _ => rfl
theorem AK_pick : AK P s dst (.pick x y z) K = QW s (.pick x y z) (putW s dst K) := AK_q fun _ => rfl
theorem AK_build : AK P s dst (.build zs ps) K = QW s (.build zs ps) (putW s dst K) := AK_q fun _ => rfl
theorem AK_load : AK P s dst (.load b n x) K = QW s (.load b n x) (putW s dst K) := AK_q fun _ => rfl
theorem AK_nilchk : AK P s dst (.nilchk x) K = QW s (.nilchk x) (putW s dst K) := AK_q fun _ => rfl
theorem AK_bin : AK P s dst (.bin op x y) K = QW s (.bin op x y) (putW s dst K) := AK_q fun _ => rfl
theorem AK_beq : AK P s dst (.beq b x y) K = QW s (.beq b x y) (putW s dst K) := AK_q fun _ => rfl
theorem AK_eqa : AK P s dst (.eqa b ks x y) K = QW s (.eqa b ks x y) (putW s dst K) := AK_q fun _ => rfl
theorem AK_un : AK P s dst (.un uo x) K = QW s (.un uo x) (putW s dst K) := AK_q fun _ => rfl
theorem AK_cint : AK P s dst (.cint ik x) K = QW s (.cint ik x) (putW s dst K) := AK_q fun _ => rfl
theorem AK_cstr : AK P s dst (.cstr x) K = QW s (.cstr x) (putW s dst K) := AK_q fun _ => rfl
theorem AK_b2s : AK P s dst (.b2s x) K = QW s (.b2s x) (putW s dst K) := AK_q fun _ => rfl
theorem AK_i2s : AK P s dst (.i2s x) K = QW s (.i2s x) (putW s dst K) := AK_q fun _ => rfl
theorem AK_mkfn : AK P s dst (.mkfn n xs) K = QW s (.mkfn n xs) (putW s dst K) := AK_q fun _ => rfl
theorem AK_sslice : AK P s dst (.sslice x lo hi) K = QW s (.sslice x lo hi) (putW s dst K) := AK_q fun _ => rfl
theorem AK_vslice : AK P s dst (.vslice n x lo hi mx) K = QW s (.vslice n x lo hi mx) (putW s dst K) := AK_q fun _ => rfl
theorem AK_faddr : AK P s dst (.faddr n x) K = QW s (.faddr n x) (putW s dst K) := AK_q fun _ => rfl
theorem AK_iaddr : AK P s dst (.iaddr n x y) K = QW s (.iaddr n x y) (putW s dst K) := AK_q fun _ => rfl
theorem AK_sidx : AK P s dst (.sidx x y) K = QW s (.sidx x y) (putW s dst K) := AK_q fun _ => rfl
theorem AK_field : AK P s dst (.field b n m x) K = QW s (.field b n m x) (putW s dst K) := AK_q fun _ => rfl
theorem AK_look : AK P s dst (.look kd v x y b) K = QW s (.look kd v x y b) (putW s dst K) := AK_q fun _ => rfl
theorem AK_slen : AK P s dst (.slen x) K = QW s (.slen x) (putW s dst K) := AK_q fun _ => rfl
theorem AK_vlen : AK P s dst (.vlen x) K = QW s (.vlen x) (putW s dst K) := AK_q fun _ => rfl
theorem AK_mlen : AK P s dst (.mlen x) K = QW s (.mlen x) (putW s dst K) := AK_q fun _ => rfl
theorem AK_max : AK P s dst (.max xs) K = QW s (.max xs) (putW s dst K) := AK_q fun _ => rfl
theorem AK_min : AK P s dst (.min xs) K = QW s (.min xs) (putW s dst K) := AK_q fun _ => rfl
theorem AK_extract : AK P s dst (.extract x n) K = QW s (.extract x n) (putW s dst K) := AK_q fun _ => rfl
theorem AK_entry : AK P s dst (.entry x) K = QW s (.entry x) (putW s dst K) := AK_q fun _ => rfl

theorem aqW_mov : aqW s (.mov x) k = QW s (.mov x) k := rfl
theorem aqW_pick : aqW s (.pick x y z) k = QW s (.pick x y z) k := rfl
theorem aqW_build : aqW s (.build zs ps) k = QW s (.build zs ps) k := rfl
theorem aqW_load : aqW s (.load b n x) k = QW s (.load b n x) k := rfl
theorem aqW_nilchk : aqW s (.nilchk x) k = QW s (.nilchk x) k := rfl
theorem aqW_bin : aqW s (.bin op x y) k = QW s (.bin op x y) k := rfl
theorem aqW_beq : aqW s (.beq b x y) k = QW s (.beq b x y) k := rfl
theorem aqW_eqa : aqW s (.eqa b ks x y) k = QW s (.eqa b ks x y) k := rfl
theorem aqW_un : aqW s (.un uo x) k = QW s (.un uo x) k := rfl
theorem aqW_cint : aqW s (.cint ik x) k = QW s (.cint ik x) k := rfl
theorem aqW_cstr : aqW s (.cstr x) k = QW s (.cstr x) k := rfl
theorem aqW_b2s : aqW s (.b2s x) k = QW s (.b2s x) k := rfl
theorem aqW_i2s : aqW s (.i2s x) k = QW s (.i2s x) k := rfl
theorem aqW_mkfn : aqW s (.mkfn n xs) k = QW s (.mkfn n xs) k := rfl
theorem aqW_sslice : aqW s (.sslice x lo hi) k = QW s (.sslice x lo hi) k := rfl
theorem aqW_vslice : aqW s (.vslice n x lo hi mx) k = QW s (.vslice n x lo hi mx) k := rfl
theorem aqW_faddr : aqW s (.faddr n x) k = QW s (.faddr n x) k := rfl
theorem aqW_iaddr : aqW s (.iaddr n x y) k = QW s (.iaddr n x y) k := rfl
theorem aqW_sidx : aqW s (.sidx x y) k = QW s (.sidx x y) k := rfl
theorem aqW_field : aqW s (.field b n m x) k = QW s (.field b n m x) k := rfl
theorem aqW_look : aqW s (.look kd v x y b) k = QW s (.look kd v x y b) k := rfl
theorem aqW_slen : aqW s (.slen x) k = QW s (.slen x) k := rfl
theorem aqW_vlen : aqW s (.vlen x) k = QW s (.vlen x) k := rfl
theorem aqW_mlen : aqW s (.mlen x) k = QW s (.mlen x) k := rfl
theorem aqW_max : aqW s (.max xs) k = QW s (.max xs) k := rfl
theorem aqW_min : aqW s (.min xs) k = QW s (.min xs) k := rfl
theorem aqW_extract : aqW s (.extract x n) k = QW s (.extract x n) k := rfl
theorem aqW_entry : aqW s (.entry x) k = QW s (.entry x) k := rfl
theorem aqW_bslice {own : Bool} {zd : List D} {pp : List (Nat × Opd)} : aqW s (.bslice own n zd m pp) k = ofO (aq s (.bslice own n zd m pp)) k := rfl

/-! Values that come of the state alone. -/
theorem QW_mov : QW s (.mov x) k = k (s.opd x) := rfl
theorem QW_pick : QW s (.pick x y z) k = condW (s.opd x) (k (s.opd y)) (k (s.opd z)) := by
  unfold QW condW; simp only [evQ]
  cases boolOf (s.opd x) with
  | none => rfl
  | some t => cases t <;> rfl
theorem QW_build : QW s (.build zs ps) k = ofO (evQ s (.build zs ps)) k := rfl
theorem QW_nilchk : QW s (.nilchk x) k = ofO (evQ s (.nilchk x)) k := rfl
theorem QW_bin : QW s (.bin op x y) k = ofO (binD op (s.opd x) (s.opd y)) k := rfl
theorem QW_beq : QW s (.beq b x y) k = ofO (evQ s (.beq b x y)) k := rfl
theorem QW_eqa : QW s (.eqa b ks x y) k = ofO (evQ s (.eqa b ks x y)) k := rfl
theorem QW_un : QW s (.un uo x) k = ofO (evQ s (.un uo x)) k := rfl
theorem QW_cint : QW s (.cint ik x) k = ofO (evQ s (.cint ik x)) k := rfl
theorem QW_cstr : QW s (.cstr x) k = ofO (evQ s (.cstr x)) k := rfl
theorem QW_mkfn : QW s (.mkfn n xs) k = ofO (evQ s (.mkfn n xs)) k := rfl
theorem QW_faddr : QW s (.faddr n x) k = ofO (evQ s (.faddr n x)) k := rfl
theorem QW_slen : QW s (.slen x) k = ofO (evQ s (.slen x)) k := rfl
theorem QW_vlen : QW s (.vlen x) k = ofO (evQ s (.vlen x)) k := rfl
theorem QW_mlen : QW s (.mlen x) k = ofO (evQ s (.mlen x)) k := rfl
theorem QW_max : QW s (.max xs) k = ofO (evQ s (.max xs)) k := rfl
theorem QW_min : QW s (.min xs) k = ofO (evQ s (.min xs)) k := rfl
theorem QW_extract : QW s (.extract x n) k = ofO (evQ s (.extract x n)) k := rfl
theorem QW_entry : QW s (.entry x) k = ofO (evQ s (.entry x)) k := rfl
theorem QW_i2s : QW s (.i2s x) k = ofO (evQ s (.i2s x)) k := rfl
end

/-! Arithmetic. -/
theorem map_ite {α β : Type} {c : Prop} [Decidable c] {o : Option α} {f : α → β} : Option.map f (if c then none else o) = if c then none else o.map f := by
  by_cases h : c <;> simp only [h, if_true, if_false] <;> rfl
theorem map_ite' {α β : Type} {c : Prop} [Decidable c] {o : Option α} {f : α → β} : Option.map f (if c then o else none) = if c then o.map f else none := by
  by_cases h : c <;> simp only [h, if_true, if_false] <;> rfl

/-- Numbers as Go's int holds them. -/
def w64 (n : Int) : Int := IntKind.i64.wrap n
theorem wrap64 {n : Int} : IntKind.i64.wrap n = w64 n := rfl
def and64 (a b : Int) : Int := IntKind.i64.wrap ((BitVec.ofInt 64 a &&& BitVec.ofInt 64 b).toNat : Int)
def or64 (a b : Int) : Int := IntKind.i64.wrap ((BitVec.ofInt 64 a ||| BitVec.ofInt 64 b).toNat : Int)
def xor64 (a b : Int) : Int := IntKind.i64.wrap ((BitVec.ofInt 64 a ^^^ BitVec.ofInt 64 b).toNat : Int)
section
variable {ik : IntKind} {a b : Int} {t u : List UInt8}
theorem bd_add : binD .add (.v (.c (.d (.int ik a)))) (.v (.c (.d (.int ik b)))) = some (.v (.c (.d (.int ik (ik.wrap (a + b)))))) := by simp [binD, binInt, AV.d]
theorem bd_sub : binD .sub (.v (.c (.d (.int ik a)))) (.v (.c (.d (.int ik b)))) = some (.v (.c (.d (.int ik (ik.wrap (a - b)))))) := by simp [binD, binInt, AV.d]
theorem bd_mul : binD .mul (.v (.c (.d (.int ik a)))) (.v (.c (.d (.int ik b)))) = some (.v (.c (.d (.int ik (ik.wrap (a * b)))))) := by simp [binD, binInt, AV.d]
theorem bd_quo : binD .quo (.v (.c (.d (.int ik a)))) (.v (.c (.d (.int ik b)))) = if b = 0 then none else some (.v (.c (.d (.int ik (ik.wrap (a.tdiv b)))))) := by
  by_cases h : b = 0 <;> simp [binD, binInt, AV.d, h]
theorem bd_rem : binD .rem (.v (.c (.d (.int ik a)))) (.v (.c (.d (.int ik b)))) = if b = 0 then none else some (.v (.c (.d (.int ik (a.tmod b))))) := by
  by_cases h : b = 0 <;> simp [binD, binInt, AV.d, h]
theorem bd_and : binD .and (.v (.c (.d (.int .i64 a)))) (.v (.c (.d (.int .i64 b)))) = some (.v (.c (.d (.int .i64 (and64 a b))))) := by rfl
theorem bd_or : binD .or (.v (.c (.d (.int .i64 a)))) (.v (.c (.d (.int .i64 b)))) = some (.v (.c (.d (.int .i64 (or64 a b))))) := by rfl
theorem bd_xor : binD .xor (.v (.c (.d (.int .i64 a)))) (.v (.c (.d (.int .i64 b)))) = some (.v (.c (.d (.int .i64 (xor64 a b))))) := by rfl
theorem bd_shl {jk : IntKind} : binD .shl (.v (.c (.d (.int ik a)))) (.v (.c (.d (.int jk b)))) = if b < 0 then none else some (.v (.c (.d (.int ik (ik.wrap (a * 2 ^ (min b.toNat ik.bits))))))) := by simp [binD, AV.d]
theorem bd_shr {jk : IntKind} : binD .shr (.v (.c (.d (.int ik a)))) (.v (.c (.d (.int jk b)))) = if b < 0 then none else some (.v (.c (.d (.int ik (a.fdiv (2 ^ (min b.toNat ik.bits))))))) := by simp [binD, AV.d]
theorem bd_eql : binD .eql (.v (.c (.d (.int ik a)))) (.v (.c (.d (.int ik b)))) = some (.v (.c (.d (.bool (a == b))))) := by simp [binD, binInt, AV.d]
theorem bd_neq : binD .neq (.v (.c (.d (.int ik a)))) (.v (.c (.d (.int ik b)))) = some (.v (.c (.d (.bool (a != b))))) := by simp [binD, binInt, AV.d]
theorem bd_lss : binD .lss (.v (.c (.d (.int ik a)))) (.v (.c (.d (.int ik b)))) = some (.v (.c (.d (.bool (decide (a < b)))))) := by simp [binD, binInt, AV.d]
theorem bd_leq : binD .leq (.v (.c (.d (.int ik a)))) (.v (.c (.d (.int ik b)))) = some (.v (.c (.d (.bool (decide (a ≤ b)))))) := by simp [binD, binInt, AV.d]
theorem bd_gtr : binD .gtr (.v (.c (.d (.int ik a)))) (.v (.c (.d (.int ik b)))) = some (.v (.c (.d (.bool (decide (b < a)))))) := by simp [binD, binInt, AV.d]
theorem bd_geq : binD .geq (.v (.c (.d (.int ik a)))) (.v (.c (.d (.int ik b)))) = some (.v (.c (.d (.bool (decide (b ≤ a)))))) := by simp [binD, binInt, AV.d]
theorem bd_sadd : binD .add (.v (.c (.d (.str t)))) (.v (.c (.d (.str u)))) = if t.length + u.length ≤ 4294967296 then some (.v (.c (.d (.str (t ++ u))))) else none := by
  by_cases h : t.length + u.length ≤ 4294967296 <;> simp [binD, binStr, AV.d, maxRow, h]
theorem bd_seql : binD .eql (.v (.c (.d (.str t)))) (.v (.c (.d (.str u)))) = some (.v (.c (.d (.bool (t == u))))) := by simp [binD, binStr, AV.d]
theorem bd_sneq : binD .neq (.v (.c (.d (.str t)))) (.v (.c (.d (.str u)))) = some (.v (.c (.d (.bool (!(t == u)))))) := by simp [binD, binStr, AV.d]
theorem bd_slss : binD .lss (.v (.c (.d (.str t)))) (.v (.c (.d (.str u)))) = some (.v (.c (.d (.bool (Op.bytesLess t u))))) := by simp [binD, binStr, AV.d]
theorem bd_sleq : binD .leq (.v (.c (.d (.str t)))) (.v (.c (.d (.str u)))) = some (.v (.c (.d (.bool (Op.bytesLess t u || t == u))))) := by simp [binD, binStr, AV.d]
theorem bd_sgtr : binD .gtr (.v (.c (.d (.str t)))) (.v (.c (.d (.str u)))) = some (.v (.c (.d (.bool (!(Op.bytesLess t u || t == u)))))) := by simp [binD, binStr, AV.d]
theorem bd_sgeq : binD .geq (.v (.c (.d (.str t)))) (.v (.c (.d (.str u)))) = some (.v (.c (.d (.bool (!(Op.bytesLess t u)))))) := by simp [binD, binStr, AV.d]
end

/-! Reading. -/
def cellsW (agg : Bool) (off n : Nat) (e : List C) (k : AV → W ρ) : W ρ := match takeN off n e with | some r => ofO (ofCells agg r) k | none => .fail
def loadW (s : St) (agg : Bool) (n : Nat) (v : AV) (k : AV → W ρ) : W ρ := match v with
  | .v (.c (.ptr id off)) => match s.obj? id with
    | some (.box cs) => cellsW agg off n cs k
    | _ => .fail
  | .sptr e off => cellsW agg off n (ofData e) k
  | .rptr id i off => match s.rowOf id with
    | some (_, es) => at' es i fun e => cellsW agg off n (ofData e) k
    | none => .fail
  | _ => .fail
theorem takeN_data {off n : Nat} {e : List D} : takeN off n (ofData e) = (takeN off n e).map ofData := by
  unfold takeN ofData
  simp only [List.length_map]
  by_cases h : off + n ≤ e.length
  · simp only [if_pos h, Option.map_some, List.map_take, List.map_drop]
  · simp only [if_neg h, Option.map_none]
theorem QW_load {agg : Bool} {n : Nat} {x : Opd} : QW s (.load agg n x) k = loadW s agg n (s.opd x) k := by
  unfold QW loadW cellsW; simp only [evQ, takeN_data]
  cases s.opd x with
  | v y =>
    cases y with
    | c y =>
      cases y with
      | ptr id off =>
        dsimp only
        cases s.obj? id with
        | none => rfl
        | some o => cases o with
          | box cs => dsimp only; cases takeN off n cs <;> rfl
          | _ => rfl
      | _ => rfl
    | agg _ => rfl
  | sptr e off => dsimp only; cases takeN off n e <;> rfl
  | rptr id i off =>
    dsimp only
    cases s.rowOf id with
    | none => rfl
    | some p =>
      dsimp only [at']
      cases p.2[i]? with
      | none => rfl
      | some e => dsimp only [ofO]; cases takeN off n e <;> rfl
  | _ => rfl

theorem cellsW_0 {agg : Bool} {k : AV → W ρ} {e : List C} : cellsW agg 0 0 e k = ofO (ofCells agg []) k := by
  unfold cellsW takeN; simp
def cells1 (e : List C) (n : Nat) (acc : List C) (agg : Bool) (k : AV → W ρ) : W ρ := match n, e with
  | 0, _ => ofO (ofCells agg acc) k
  | n + 1, x :: r => cells1 r n (acc ++ [x]) agg k
  | _ + 1, [] => .fail
theorem cells1_eq {agg : Bool} {k : AV → W ρ} : ∀ {n : Nat} {e acc : List C}, cells1 e n acc agg k = match takeN 0 n e with | some r => ofO (ofCells agg (acc ++ r)) k | none => .fail
  | 0, e, acc => by unfold cells1 takeN; simp
  | n + 1, [], acc => by unfold cells1 takeN; simp
  | n + 1, x :: r, acc => by
    unfold cells1
    rw [cells1_eq]
    unfold takeN
    by_cases h : n ≤ r.length
    · have h' : n + 1 ≤ r.length + 1 := by omega
      simp [h, h']
    · have h' : ¬ n + 1 ≤ r.length + 1 := by omega
      simp [h, h']
theorem cellsW_take {agg : Bool} {k : AV → W ρ} {n : Nat} {e : List C} : cellsW agg 0 n e k = cells1 e n [] agg k := by
  rw [cells1_eq]; rfl
theorem cellsW_skip {agg : Bool} {k : AV → W ρ} {n off : Nat} {x : C} {r : List C} : cellsW agg (off + 1) n (x :: r) k = cellsW agg off n r k := by
  unfold cellsW takeN
  have : off + 1 + n ≤ (x :: r).length ↔ off + n ≤ r.length := by simp only [List.length_cons]; omega
  simp only [this, List.drop_succ_cons]
theorem cells1_z {agg : Bool} {k : AV → W ρ} {e acc : List C} : cells1 e 0 acc agg k = ofO (ofCells agg acc) k := by unfold cells1; rfl
theorem cells1_s {agg : Bool} {k : AV → W ρ} {n : Nat} {x : C} {e acc : List C} : cells1 (x :: e) (n + 1) acc agg k = cells1 e n (acc ++ [x]) agg k := by rw [cells1]

theorem QW_field {b : Bool} {n m : Nat} {x : Opd} : QW s (.field b n m x) k = (match s.opd x with | .v (.agg cs) => cellsW b n m cs k | _ => .fail) := by
  unfold QW cellsW; simp only [evQ]
  cases s.opd x with
  | v y => cases y with
    | c _ => rfl
    | agg cs => dsimp only; cases takeN n m cs <;> rfl
  | _ => rfl

def iaddrW (s : St) (sz : Nat) (v i : AV) (k : AV → W ρ) : W ρ := match intOf i with
  | none => .fail
  | some n => match v with
    | .v (.c (.d (.vec es))) => idx es n fun e => need (e.length = sz) (k (.sptr e 0))
    | .v (.c (.sl id off len)) => need (0 ≤ n ∧ n < len) (match s.rowOf id with | some (sz', _) => need (sz' = sz) (k (.rptr id (off + n.toNat) 0)) | none => .fail)
    | _ => .fail
theorem QW_iaddr {sz : Nat} {x i : Opd} : QW s (.iaddr sz x i) k = iaddrW s sz (s.opd x) (s.opd i) k := by
  unfold QW iaddrW; simp only [evQ]
  cases intOf (s.opd i) with
  | none => dsimp only; cases s.opd x with
    | v y => cases y with
      | c y => cases y with
        | d y => cases y <;> rfl
        | _ => rfl
      | agg _ => rfl
    | _ => rfl
  | some n =>
    dsimp only
    cases s.opd x with
    | v y => cases y with
      | c y => cases y with
        | d y => cases y with
          | vec es =>
            dsimp only [idx, at']
            rw [ofO_ite]
            refine congrArg (need _) ?_
            cases es[n.toNat]? with
            | none => rfl
            | some e => exact ofO_ite
          | _ => rfl
        | sl id off len =>
          dsimp only
          rw [ofO_ite]
          refine congrArg (need _) ?_
          cases s.rowOf id with
          | none => rfl
          | some p => exact ofO_ite
        | _ => rfl
      | agg _ => rfl
    | _ => rfl

def sidxW (v i : AV) (k : AV → W ρ) : W ρ := match strOf v, intOf i with
  | some b, some n => idx b n fun c => k (.v (.c (.d (.int .u8 c.toNat))))
  | _, _ => .fail
theorem QW_sidx {x i : Opd} : QW s (.sidx x i) k = sidxW (s.opd x) (s.opd i) k := by
  unfold QW sidxW; simp only [evQ]
  cases strOf (s.opd x) with
  | none => rfl
  | some b => cases intOf (s.opd i) with
    | none => rfl
    | some n =>
      dsimp only [idx, at']
      rw [ofO_ite]
      refine congrArg (need _) ?_
      cases b[n.toNat]? <;> rfl

def bndW (y : Nat) (v : AV) (k : Nat → W ρ) : W ρ := match v with
  | .v (.c (.d (.int _ n))) => need (0 ≤ n ∧ n ≤ y) (k n.toNat)
  | _ => .fail
theorem ofO_bound {y : Nat} {v : AV} {k : Nat → W ρ} : ofO (bound y v) k = bndW y v k := by
  unfold bound bndW
  cases v with
  | v x => cases x with
    | c x => cases x with
      | d x => cases x with
        | int _ n => exact ofO_ite
        | _ => rfl
      | _ => rfl
    | agg _ => rfl
  | _ => rfl
def bndO (s : St) (y dflt : Nat) (x : Option Opd) (k : Nat → W ρ) : W ρ := match x with
  | none => k dflt
  | some x => bndW y (s.opd x) k
theorem ofO_boundO {y d : Nat} {x : Option Opd} {k : Nat → W ρ} : ofO (boundO s y d x) k = bndO s y d x k := by
  cases x with
  | none => rfl
  | some x => exact ofO_bound
theorem QW_sslice {x : Opd} {lo hi : Option Opd} : QW s (.sslice x lo hi) k = ofO (strOf (s.opd x)) fun b => bndO s b.length b.length hi fun h => bndO s h 0 lo fun l => k (.v (.c (.d (.str ((b.drop l).take (h - l)))))) := by
  unfold QW; simp only [evQ]
  cases strOf (s.opd x) with
  | none => rfl
  | some b =>
    dsimp only [ofO_some]
    rw [← ofO_boundO]
    cases boundO s b.length b.length hi with
    | none => rfl
    | some h =>
      dsimp only [ofO_some]
      rw [← ofO_boundO]
      cases boundO s h 0 lo <;> rfl
theorem QW_vslice {sz : Nat} {x : Opd} {lo hi : Option Opd} : QW s (.vslice sz x lo hi none) k = (match s.opd x with
    | .v (.c c) => ofO (s.lenOf c) fun n => bndO s n n hi fun h => bndO s h 0 lo fun l => ofO (sliceC s sz l h c) fun r => k (.v (.c r))
    | _ => .fail) := by
  unfold QW; simp only [evQ]
  cases s.opd x with
  | v y => cases y with
    | c c =>
      dsimp only [sliceV]
      cases s.lenOf c with
      | none => rfl
      | some n =>
        dsimp only [ofO_some]
        rw [← ofO_boundO]
        cases boundO s n n hi with
        | none => rfl
        | some h =>
          dsimp only [ofO_some]
          rw [← ofO_boundO]
          cases boundO s h 0 lo with
          | none => rfl
          | some l => dsimp only [ofO_some]; cases sliceC s sz l h c <;> rfl
    | agg _ => rfl
  | _ => rfl
theorem QW_vslice3 {sz : Nat} {x m : Opd} {lo hi : Option Opd} : QW s (.vslice sz x lo hi (some m)) k = ofO (evQ s (.vslice sz x lo hi (some m))) k := rfl

/-- Bytes of a row. -/
def bytesW : Row → (List UInt8 → W ρ) → W ρ
  | [], k => k []
  | [.int .u8 n] :: r, k => need (0 ≤ n ∧ n < 256) (bytesW r fun bs => k (UInt8.ofNat n.toNat :: bs))
  | _, _ => .fail
def byteO (e : List D) : Option UInt8 := match e with | [.int .u8 n] => if 0 ≤ n ∧ n < 256 then some (UInt8.ofNat n.toNat) else none | _ => none
theorem bytesW_eq : ∀ {es : Row} {k : List UInt8 → W ρ}, ofO (mapO byteO es) k = bytesW es k
  | [], _ => rfl
  | e :: r, k => by
    simp only [mapO]
    have ih := fun k => bytesW_eq (es := r) (k := k)
    by_cases he : ∃ n, e = [.int .u8 n]
    · obtain ⟨n, rfl⟩ := he
      rw [bytesW, ← ih]
      by_cases h : 0 ≤ n ∧ n < 256
      · have hb : byteO [.int .u8 n] = some (UInt8.ofNat n.toNat) := if_pos h
        rw [hb, need_pos h]
        cases mapO byteO r <;> rfl
      · have hb : byteO [.int .u8 n] = none := if_neg h
        rw [hb]
        exact eq_of fun _ => ⟨fun h' => h'.elim, fun h' => h h'.1⟩
    · have h1 : byteO e = none := by
        unfold byteO
        split
        · exact (he ⟨_, rfl⟩).elim
        · rfl
      rw [h1]
      rw [bytesW.eq_3]
      · rfl
      · intro h; cases h
      · intro n r' h; cases h; exact he ⟨_, rfl⟩
theorem QW_b2s {x : Opd} : QW s (.b2s x) k = (match s.opd x with | .v (.c c) => ofO (s.view c) fun es => bytesW es fun b => k (.v (.c (.d (.str b)))) | _ => .fail) := by
  unfold QW; simp only [evQ]
  cases s.opd x with
  | v y => cases y with
    | c c =>
      dsimp only
      cases s.view c with
      | none => rfl
      | some es =>
        dsimp only [ofO_some]
        rw [← bytesW_eq]
        show ofO (match mapO byteO es with | some b => _ | none => none) k = _
        cases mapO byteO es <;> rfl
    | agg _ => rfl
  | _ => rfl

/-- A look-up: found, or not. -/
def optW {α : Type} (o : Option α) (a : W ρ) (b : α → W ρ) : W ρ := match o with | none => a | some x => b x
theorem optW_map {α β : Type} {o : Option α} {f : α → β} {a : W ρ} {b : β → W ρ} : optW (o.map f) a b = optW o a fun x => b (f x) := by cases o <;> rfl
theorem optW_some {α : Type} {x : α} {a : W ρ} {b : α → W ρ} : optW (some x) a b = b x := rfl
theorem optW_none {α : Type} {a : W ρ} {b : α → W ρ} : optW none a b = a := rfl
theorem optW_bind {α β : Type} {o : Option α} {a : W ρ} {b : α → W ρ} {f : ρ → W β} : (optW o a b).bind f = optW o (a.bind f) fun x => (b x).bind f := by cases o <;> rfl
def lookW (s : St) (kk : Kd) (zero : V) (ok : Bool) (m x : AV) (k : AV → W ρ) : W ρ := match m, x with
  | .v (.c (.map id)), .v kv => match s.toDV kv, s.kvsOf id with
    | some kd, some kvs => ofO (findKV kk kd kvs) fun r => optW r (k (if ok then .tup [zero, .c (.d (.bool false))] else .v zero)) fun d => k (if ok then .tup [d.toV, .c (.d (.bool true))] else .v d.toV)
    | _, _ => .fail
  | _, _ => .fail
theorem QW_look {kk : Kd} {zero : V} {m x : Opd} {ok : Bool} : QW s (.look kk zero m x ok) k = lookW s kk zero ok (s.opd m) (s.opd x) k := by
  unfold QW lookW; simp only [evQ]
  cases s.opd m with
  | v y => cases y with
    | c y => cases y with
      | map id => cases s.opd x with
        | v kv =>
          dsimp only
          cases s.toDV kv with
          | none => rfl
          | some kd => cases s.kvsOf id with
            | none => rfl
            | some kvs =>
              dsimp only
              cases findKV kk kd kvs with
              | none => rfl
              | some r => cases r <;> rfl
        | _ => rfl
      | _ => rfl
    | agg _ => rfl
  | _ => rfl

/-! Steps that turn the state. -/
theorem AK_alloc {z : List C} : AK P s dst (.alloc z) K = K ((newObj s (.box z)).put dst (.v (.c (.ptr (.l s.loc.length) 0)))) := AK_m fun _ => rfl
theorem AK_box {n : Nat} {x : Opd} : AK P s dst (.box n x) K = (ofM (aop noC s dst (.box n x))).bind K := AK_m fun _ => rfl
theorem AK_bslice {own : Bool} {sz m : Nat} {zd : List D} {pp : List (Nat × Opd)} : AK P s dst (.bslice own sz zd m pp) K = (ofM (aop noC s dst (.bslice own sz zd m pp))).bind K := AK_m fun _ => rfl
theorem AK_mkmap {r : Option Opd} : AK P s dst (.mkmap r) K = (ofM (aop noC s dst (.mkmap r))).bind K := AK_m fun _ => rfl
theorem AK_mkslice {sz bytes : Nat} {zd : List D} {x y : Opd} : AK P s dst (.mkslice sz bytes zd x y) K = (ofM (aop noC s dst (.mkslice sz bytes zd x y))).bind K := AK_m fun _ => rfl
theorem AK_range {x : Opd} : AK P s dst (.range x) K = (ofM (aop noC s dst (.range x))).bind K := AK_m fun _ => rfl

def storeW (s : St) (dst : Option Nat) (n : Nat) (a : AV) (v : Option V) (K : St → W ρ) : W ρ := match v with
  | none => .fail
  | some v => match a with
    | .v (.c (.ptr id off)) => match s.obj? id with
      | some (.box cs) => need (v.cells.length = n ∧ off + n ≤ cs.length) (K ((s.setObj id (.box (setAt off v.cells cs))).put dst .un))
      | _ => .fail
    | .rptr id i off => match (frzV s v).obj? id, (frzV s v).toDs v with
      | some (.row sz es), some ds => at' es i fun e => need (ds.length = n ∧ off + n ≤ e.length) (K (((frzV s v).setObj id (.row sz (es.set i (setAt off ds e)))).put dst .un))
      | _, _ => .fail
    | _ => .fail
theorem AK_store {n : Nat} {a x : Opd} : AK P s dst (.store n a x) K = storeW s dst n (s.opd a) (opdV s x) K := by
  rw [AK_m fun _ => rfl]; simp only [aop]; unfold storeW
  cases opdV s x with
  | none => cases s.opd a with
    | v y => cases y with
      | c y => cases y <;> rfl
      | agg _ => rfl
    | _ => rfl
  | some v =>
    cases s.opd a with
    | v y => cases y with
      | c y => cases y with
        | ptr id off =>
          dsimp only
          cases s.obj? id with
          | none => rfl
          | some o => cases o with
            | box cs => exact ofM_ite
            | _ => rfl
        | _ => rfl
      | agg _ => rfl
    | rptr id i off =>
      dsimp only
      cases (frzV s v).obj? id with
      | none => rfl
      | some o => cases o with
        | row sz es =>
          cases (frzV s v).toDs v with
          | none => rfl
          | some ds =>
            dsimp only [at']
            cases es[i]? with
            | none => rfl
            | some e => exact ofM_ite
        | _ => rfl
    | _ => rfl

def mupdW (s : St) (dst : Option Nat) (kk : Kd) (m : AV) (k x : Option V) (K : St → W ρ) : W ρ := match m, k, x with
  | .v (.c (.map id)), some kv, some xv => match ([kv, xv].foldl frzV s).obj? id, ([kv, xv].foldl frzV s).toDV kv, ([kv, xv].foldl frzV s).toDV xv with
    | some (.map kvs), some kd, some xd => ofO (updKV kk kd xd kvs) fun kvs' => K ((([kv, xv].foldl frzV s).setObj id (.map kvs')).put dst .un)
    | _, _, _ => .fail
  | _, _, _ => .fail
theorem AK_mupd {kk : Kd} {m x y : Opd} : AK P s dst (.mupd kk m x y) K = mupdW s dst kk (s.opd m) (opdV s x) (opdV s y) K := by
  rw [AK_m fun _ => rfl]; simp only [aop]; unfold mupdW
  cases s.opd m with
  | v z => cases z with
    | c z => cases z with
      | map id => cases opdV s x with
        | none => rfl
        | some kv => cases opdV s y with
          | none => rfl
          | some xv =>
            dsimp only
            cases ([kv, xv].foldl frzV s).obj? id with
            | none => rfl
            | some o => cases o with
              | map kvs => cases ([kv, xv].foldl frzV s).toDV kv with
                | none => rfl
                | some kd => cases ([kv, xv].foldl frzV s).toDV xv with
                  | none => rfl
                  | some xd => dsimp only; cases updKV kk kd xd kvs <;> rfl
              | _ => rfl
      | _ => rfl
    | agg _ => rfl
  | _ => rfl
def mdelW (s : St) (dst : Option Nat) (kk : Kd) (m : AV) (k : Option V) (K : St → W ρ) : W ρ := match m, k with
  | .v (.c (.map id)), some kv => match s.obj? id, s.toDV kv with
    | some (.map kvs), some kd => ofO (delKV kk kd kvs) fun kvs' => K ((s.setObj id (.map kvs')).put dst (.tup []))
    | _, _ => .fail
  | _, _ => .fail
theorem AK_mdel {kk : Kd} {m x : Opd} : AK P s dst (.mdel kk m x) K = mdelW s dst kk (s.opd m) (opdV s x) K := by
  rw [AK_m fun _ => rfl]; simp only [aop]; unfold mdelW
  cases s.opd m with
  | v z => cases z with
    | c z => cases z with
      | map id => cases opdV s x with
        | none => rfl
        | some kv =>
          dsimp only
          cases s.obj? id with
          | none => rfl
          | some o => cases o with
            | map kvs => cases s.toDV kv with
              | none => rfl
              | some kd => dsimp only; cases delKV kk kd kvs <;> rfl
            | _ => rfl
      | _ => rfl
    | agg _ => rfl
  | _ => rfl

theorem eraseIdx_map' {α β : Type} {f : α → β} : ∀ {l : List α} {i : Nat}, (l.map f).eraseIdx i = (l.eraseIdx i).map f
  | [], _ => rfl
  | _ :: _, 0 => rfl
  | a :: r, i + 1 => by
    simp only [List.map_cons, List.eraseIdx_cons_succ]
    rw [eraseIdx_map']
def nextW {α : Type} (l : List α) (a : W ρ) (b : α → List α → W ρ) : W ρ := match l with | [] => a | _ :: _ => W.pick l b
theorem nextW_map {α β : Type} {l : List α} {f : α → β} {a : W ρ} {b : β → List β → W ρ} : nextW (l.map f) a b = nextW l a fun x r => b (f x) (r.map f) := by
  cases l with
  | nil => rfl
  | cons x r =>
    show W.pick ((x :: r).map f) b = W.pick (x :: r) fun x r => b (f x) (r.map f)
    unfold W.pick
    rw [List.length_map]
    congr; funext i
    rw [at_map]
    congr; funext y
    rw [eraseIdx_map']
theorem nextW_bind {α β : Type} {l : List α} {a : W ρ} {b : α → List α → W ρ} {f : ρ → W β} : (nextW l a b).bind f = nextW l (a.bind f) fun x r => (b x r).bind f := by
  cases l with
  | nil => rfl
  | cons x r => exact pick_bind
def itrW (s : St) (dst : Option Nat) (x : AV) (K : St → W ρ) : W ρ := match x with
  | .v (.c (.itr id)) => match s.obj? id with
    | some (.iter m left _) => match s.obj? m with
      | some (.lock _) => nextW left (K (s.put dst (.tup [.c (.d (.bool false))]))) fun kv r => K ((s.setObj id (.iter m r (some kv))).put dst (.tup [.c (.d (.bool true))]))
      | _ => .fail
    | _ => .fail
  | _ => .fail
theorem AK_next {x : Opd} : AK P s dst (.next x) K = itrW s dst (s.opd x) K := by
  rw [AK_m fun _ => rfl]; simp only [aop]; unfold itrW
  cases s.opd x with
  | v z => cases z with
    | c z => cases z with
      | itr id =>
        dsimp only
        cases s.obj? id with
        | none => rfl
        | some o => cases o with
          | iter m left cur =>
            dsimp only
            cases s.obj? m with
            | none => rfl
            | some o => cases o with
              | lock _ => cases left with
                | nil => rfl
                | cons kv r =>
                  dsimp only [nextW, W.pick, ofM]
                  rw [any_bind]
                  congr; funext i
                  unfold at'
                  cases (kv :: r)[i]? <;> rfl
              | _ => rfl
          | _ => rfl
      | _ => rfl
    | agg _ => rfl
  | _ => rfl

def isnilW (s : St) (dst : Option Nat) (neg : Bool) (x : Option V) (K : St → W ρ) : W ρ := match x with
  | some (.c c) => match s.nilLen c with
    | some n => cond (n == 0) (amb (K (s.put dst (.v (.c (.d (.bool true)))))) (K (s.put dst (.v (.c (.d (.bool false))))))) (K (s.put dst (.v (.c (.d (.bool neg))))))
    | none => .fail
  | _ => .fail
theorem AK_isnil {neg : Bool} {x : Opd} : AK P s dst (.isnil neg x) K = isnilW s dst neg (opdV s x) K := by
  rw [AK_m fun _ => rfl]; simp only [aop]; unfold isnilW
  cases opdV s x with
  | none => rfl
  | some v => cases v with
    | c c =>
      dsimp only
      cases s.nilLen c with
      | none => rfl
      | some n => cases n with
        | zero => exact any_two
        | succ n => rfl
    | agg _ => rfl

def appW (s : St) (dst : Option Nat) (sz bytes : Nat) (a : Option V) (x : AV) (K : St → W ρ) : W ρ := match a with
  | some (.c c) => ofO (newsOf s x) fun news => ofO (s.view c) fun es => need (es.length + news.length ≤ 4294967296 ∧ bytes ≤ 4096 ∧ okSz sz es = true ∧ okSz sz news = true ∧ 0 < sz)
      (match c with
      | .nils => K ((newObj s (.row sz news)).put dst (.v (.c (.sl (.l s.loc.length) 0 news.length))))
      | .sl id 0 len => match s.obj? id with
        | some (.row sz' _) => need (sz' = sz) (K ((newObj (s.setObj id .dead) (.row sz (es ++ news))).put dst (.v (.c (.sl (.l s.loc.length) 0 (len + news.length))))))
        | _ => .fail
      | _ => .fail)
  | _ => .fail
theorem AK_append {sz bytes : Nat} {a x : Opd} : AK P s dst (.append sz bytes a x) K = appW s dst sz bytes (opdV s a) (s.opd x) K := by
  rw [AK_m fun _ => rfl]; simp only [aop]; unfold appW
  cases opdV s a with
  | none => rfl
  | some v => cases v with
    | agg _ => rfl
    | c c =>
      dsimp only
      cases newsOf s (s.opd x) with
      | none => rfl
      | some news =>
        dsimp only [ofO_some]
        cases s.view c with
        | none => rfl
        | some es =>
          dsimp only [ofO_some, maxRow]
          refine ofM_ite.trans (congrArg (need _) ?_)
          cases c with
          | nils => rfl
          | sl id off len => cases off with
            | zero =>
              show (ofM (match s.obj? id with | some (.row sz' _) => if sz' = sz then _ else _ | _ => _)).bind K = (match s.obj? id with | some (.row sz' _) => need (sz' = sz) _ | _ => _)
              cases s.obj? id with
              | none => rfl
              | some o => cases o with
                | row sz' _ => exact ofM_ite
                | _ => rfl
            | succ _ => rfl
          | _ => rfl

def copyW (s : St) (dst : Option Nat) (sz : Nat) (a : Option V) (x : AV) (K : St → W ρ) : W ρ := match a with
  | some (.c (.sl id off len)) => ofO (newsOf s x) fun src => match s.obj? id with
    | some (.row sz' es) => need (sz' = sz ∧ off + len ≤ es.length ∧ okSz sz src = true) (K ((s.setObj id (.row sz (setAt off (src.take (Nat.min src.length len)) es))).put dst (.v (.c (.d (.int .i64 (Nat.min src.length len)))))))
    | _ => .fail
  | _ => .fail
theorem AK_copy {sz : Nat} {a x : Opd} : AK P s dst (.copy sz a x) K = copyW s dst sz (opdV s a) (s.opd x) K := by
  rw [AK_m fun _ => rfl]; simp only [aop]; unfold copyW
  cases opdV s a with
  | none => rfl
  | some v => cases v with
    | agg _ => rfl
    | c c => cases c with
      | sl id off len =>
        dsimp only
        cases newsOf s (s.opd x) with
        | none => rfl
        | some src =>
          dsimp only [ofO_some]
          cases s.obj? id with
          | none => rfl
          | some o => cases o with
            | row sz' es => exact ofM_ite
            | _ => rfl
      | _ => rfl

/-! Calls. -/
def lendRW (s : St) (dst : Option Nat) (K : St → W ρ) (r : Ret) : W ρ := if scalarAV r.res = true then K (s.put dst r.res) else .fail
def dataRW (s : St) (dst : Option Nat) (K : St → W ρ) (r : Ret) : W ρ := K (St.put { s with loc := s.loc ++ r.loc.map (relO (shiftL s.loc.length)) } dst (relAV (shiftL s.loc.length) r.res))
def refRW (s : St) (dst : Option Nat) (K : St → W ρ) (r : Ret) : W ρ := K (St.put { env := s.env, loc := (r.out.map (relO (fromCall s.out.length s.loc.length))).drop s.out.length ++ r.loc.map (relO (fromCall s.out.length s.loc.length)), out := (r.out.map (relO (fromCall s.out.length s.loc.length))).take s.out.length } dst (relAV (fromCall s.out.length s.loc.length) r.res))
def refW (P : SProg) (s : St) (dst : Option Nat) (f : Nat) (args : List V) (K : St → W ρ) : W ρ := (WR P f (args.map (relV (intoCall s.out.length))) ((s.out ++ s.loc).map (relO (intoCall s.out.length)))).bind (refRW s dst K)
def callW (P : SProg) (s : St) (dst : Option Nat) (lend : Bool) (f : Nat) (args : List V) (K : St → W ρ) : W ρ := match lend with
  | true => match mapO (lendV s) args with
    | some vs => (WR P f vs []).bind (lendRW s dst K)
    | none => refW P s dst f args K
  | false => match mapO (asDataV (args.foldl frzV s)) args with
    | some vs => (WR P f vs []).bind (dataRW (args.foldl frzV s) dst K)
    | none => refW P s dst f args K
theorem lim_call {f : Nat} {vs : List V} {out : List O} {g : Ret → M St} {F : Ret → W ρ} (h : ∀ r, (ofM (g r)).bind K = F r) :
    (lim fun n => (arun P n f vs out).bind g).bind K = (WR P f vs out).bind F := by
  refine (congrArg (W.bind · K) (lim_bind (up_run P f vs out) (k := fun _ => g) (fun _ => Up.const _))).trans ?_
  rw [bind_assoc]
  show (lim _).bind _ = (lim _).bind _
  congr; funext r
  rw [lim_const]; exact h r
theorem doCall_W {lend : Bool} {f : Nat} {args : List V} : (lim fun n => doCall (arun P n) s dst lend f args).bind K = callW P s dst lend f args K := by
  cases lend with
  | true =>
    simp only [doCall, callW, if_true]
    cases mapO (lendV s) args with
    | none => exact lim_call fun r => rfl
    | some vs =>
      refine lim_call fun r => ?_
      unfold lendRW
      by_cases h : scalarAV r.res = true
      · simp only [if_pos h]; rfl
      · simp only [if_neg h]; rfl
  | false =>
    simp only [doCall, callW, Bool.false_eq_true, if_false]
    cases mapO (asDataV (args.foldl frzV s)) args with
    | none => exact lim_call fun r => rfl
    | some vs => exact lim_call fun r => rfl
def callK (P : SProg) (s : St) (dst : Option Nat) (lend : Bool) (f : Nat) (K : St → W ρ) (args : List V) : W ρ := callW P s dst lend f args K
theorem AK_call {lend : Bool} {f : Nat} {args : List Opd} : AK P s dst (.call lend f args) K = ofO (mapO (opdV s) args) (callK P s dst lend f K) := by
  unfold AK; simp only [aop]
  cases mapO (opdV s) args with
  | none => rw [lim_const]; rfl
  | some vs => exact doCall_W
def callvW (P : SProg) (s : St) (dst : Option Nat) (fv : AV) (args : Option (List V)) (K : St → W ρ) : W ρ := match fv, args with
  | .v (.c (.fn f caps)), some vs => callW P s dst false f (vs ++ caps.map .c) K
  | _, _ => .fail
theorem AK_callv {fv : Opd} {args : List Opd} : AK P s dst (.callv fv args) K = callvW P s dst (s.opd fv) (mapO (opdV s) args) K := by
  unfold AK callvW; simp only [aop]
  cases s.opd fv with
  | v z => cases z with
    | c z => cases z with
      | fn f caps => cases mapO (opdV s) args with
        | none => dsimp only; rw [lim_const]; rfl
        | some vs => exact doCall_W
      | _ => dsimp only; rw [lim_const]; rfl
    | agg _ => dsimp only; rw [lim_const]; rfl
  | _ => dsimp only; rw [lim_const]; rfl
end
end Go.Aiv

