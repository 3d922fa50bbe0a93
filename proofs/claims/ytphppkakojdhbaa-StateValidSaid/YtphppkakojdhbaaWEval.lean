/- Plain functions: predicate transformers, and the laws by which the interpreter's code is one of them. -/
import Derived.Test.YtphppkakojdhbaaWLib
set_option linter.unusedSimpArgs false
set_option linter.unusedVariables false
namespace Go.Aiv
open W

section
variable {P : SProg} {ρ τ : Type} {s s' : St} {dst : Option Nat} {K : St → W ρ} {k : AV → W ρ} {KE : Ex × St → W ρ} {f : ρ → W τ}

/-! Where 'simp' looks. -/
theorem c_XK {x : SCode} (h : s = s') : XK P x s KE = XK P x s' KE := by rw [h]
theorem c_OK {x : List SOper} (h : s = s') : OK P x s K = OK P x s' K := by rw [h]
theorem c_TK {x : DTree} (h : s = s') : TK P x s K = TK P x s' K := by rw [h]
theorem c_AK {x : SOp} (h : s = s') : AK P s dst x K = AK P s' dst x K := by rw [h]
theorem c_DKW {kd : DK} {x : SOp} (h : s = s') : DKW P kd s dst x K = DKW P kd s' dst x K := by rw [h]
theorem c_QW {x : SOp} (h : s = s') : QW s x k = QW s' x k := by rw [h]
theorem c_aqW {x : SOp} (h : s = s') : aqW s x k = aqW s' x k := by rw [h]
theorem c_LN {x : SCode} {lv : List Nat} {g : List (Nat × Option Nat × Nat)} (h : s = s') : LN P x lv g s KE = LN P x lv g s' KE := by rw [h]
theorem c_ofO {α : Type} {o o' : Option α} {k : α → W ρ} (h : o = o') : ofO o k = ofO o' k := by rw [h]
theorem c_putW {v v' : AV} (h : v = v') : putW s dst K v = putW s dst K v' := by rw [h]
theorem c_seqW {b : SCode} {r r' : Ex × St} (h : r = r') : seqW P b KE r = seqW P b KE r' := by rw [h]
theorem c_blockW {b : Nat} {r r' : Ex × St} (h : r = r') : blockW b KE r = blockW b KE r' := by rw [h]
theorem c_keepW {ks : List Nat} (h : s = s') : keepW ks KE s = keepW ks KE s' := by rw [h]
theorem c_opsW {ops : List SOper} (h : s = s') : opsW P ops K s = opsW P ops K s' := by rw [h]
theorem c_treeW {t : DTree} (h : s = s') : treeW P t K s = treeW P t K s' := by rw [h]
theorem c_endW {nrm : St → St} {r r' : Ex × St} (h : r = r') : endW nrm KE r = endW nrm KE r' := by rw [h]
theorem c_finW {rs : List SRes} {d : Bool} {kr : Ret → W ρ} {r r' : Ex × St} (h : r = r') : finW rs d kr r = finW rs d kr r' := by rw [h]
theorem c_condW {c c' : AV} {a b : W ρ} (h : c = c') : condW c a b = condW c' a b := by rw [h]

/-! What is behind goes inwards. -/
def bindW (KE : Ex × St → W ρ) (f : ρ → W τ) (r : Ex × St) : W τ := (KE r).bind f
theorem c_bindW {r r' : Ex × St} (h : r = r') : bindW KE f r = bindW KE f r' := by rw [h]
theorem bindW_a {r : Ex × St} : bindW KE f r = (KE r).bind f := rfl
theorem XK_b {x : SCode} : (XK P x s KE).bind f = XK P x s (bindW KE f) := rfl
theorem seqW_b {b : SCode} {r : Ex × St} : (seqW P b KE r).bind f = seqW P b (bindW KE f) r := by rcases r with ⟨_ | _ | _, _⟩ <;> rfl
theorem blockW_b {b : Nat} {r : Ex × St} : (blockW b KE r).bind f = blockW b (bindW KE f) r := by
  rcases r with ⟨_ | j | _, _⟩
  · rfl
  · unfold blockW bindW
    by_cases h : j = b
    · simp only [if_pos h]
    · simp only [if_neg h]
  · rfl
def bindR {τ : Type} (kr : Ret → W ρ) (f : ρ → W τ) (r : Ret) : W τ := (kr r).bind f
theorem bindR_a {kr : Ret → W ρ} {r : Ret} : bindR kr f r = (kr r).bind f := rfl
theorem finW_b {rs : List SRes} {d : Bool} {kr : Ret → W ρ} {r : Ex × St} : (finW rs d kr r).bind f = finW rs d (bindR kr f) r := by rcases r with ⟨_ | _ | _, _⟩ <;> rfl

/-! Guards. -/
def guardO (P : SProg) (d : Option Nat) (t : Nat) (want : Bool) (op : SOp) (r : List SOper) (K : St → W ρ) (s : St) (v : AV) : W ρ := guardW ⟨d, some (t, want), op⟩ s t want v (fun s => AK P s d op (opsW P r K)) (opsW P r K)
theorem c_guardO {d : Option Nat} {t : Nat} {want : Bool} {op : SOp} {r : List SOper} {v v' : AV} (h : v = v') : guardO P d t want op r K s v = guardO P d t want op r K s v' := by rw [h]
theorem OK_g {d : Option Nat} {t : Nat} {want : Bool} {op : SOp} {r : List SOper} : OK P (⟨d, some (t, want), op⟩ :: r) s K = guardO P d t want op r K s (get t s.env) := OK_cons
section
variable {d : Option Nat} {t : Nat} {want : Bool} {op : SOp} {r : List SOper} {b : Bool}
theorem guardO_un : guardO P d t want op r K s .un = opsW P r K (s.put d .un) := rfl
theorem guardO_t : guardO P d t true op r K s (.v (.c (.d (.bool b)))) = cond b (AK P (s.re t (.v (.c (.d (.bool true))))) d op (opsW P r K)) (opsW P r K ((s.re t (.v (.c (.d (.bool false))))).put d .un)) := rfl
theorem guardO_f : guardO P d t false op r K s (.v (.c (.d (.bool b)))) = cond b (opsW P r K ((s.re t (.v (.c (.d (.bool true))))).put d .un)) (AK P (s.re t (.v (.c (.d (.bool false))))) d op (opsW P r K)) := rfl
end
def guardT (P : SProg) (kd : DK) (d : Option Nat) (t : Nat) (want : Bool) (op : SOp) (r : DTree) (K : St → W ρ) (s : St) (v : AV) : W ρ := guardW ⟨d, some (t, want), op⟩ s t want v (fun s => DKW P kd s d op (treeW P r K)) (treeW P r K)
theorem c_guardT {kd : DK} {d : Option Nat} {t : Nat} {want : Bool} {op : SOp} {r : DTree} {v v' : AV} (h : v = v') : guardT P kd d t want op r K s v = guardT P kd d t want op r K s v' := by rw [h]
theorem TK_g {kd : DK} {d : Option Nat} {t : Nat} {want : Bool} {op : SOp} {r : DTree} : TK P (.step kd ⟨d, some (t, want), op⟩ r) s K = guardT P kd d t want op r K s (get t s.env) := TK_cons
section
variable {kd : DK} {d : Option Nat} {t : Nat} {want : Bool} {op : SOp} {r : DTree} {b : Bool}
theorem guardT_un : guardT P kd d t want op r K s .un = treeW P r K (s.put d .un) := rfl
theorem guardT_t : guardT P kd d t true op r K s (.v (.c (.d (.bool b)))) = cond b (DKW P kd (s.re t (.v (.c (.d (.bool true))))) d op (treeW P r K)) (treeW P r K ((s.re t (.v (.c (.d (.bool false))))).put d .un)) := rfl
theorem guardT_f : guardT P kd d t false op r K s (.v (.c (.d (.bool b)))) = cond b (treeW P r K ((s.re t (.v (.c (.d (.bool true))))).put d .un)) (DKW P kd (s.re t (.v (.c (.d (.bool false))))) d op (treeW P r K)) := rfl
end
def mildW (P : SProg) (s : St) (dst : Option Nat) (op : SOp) (K : St → W ρ) (b : Bool) : W ρ := cond b (AK P s dst op K) .fail
theorem c_mildW {op : SOp} {b b' : Bool} (h : b = b') : mildW P s dst op K b = mildW P s dst op K b' := by rw [h]
theorem mildW_t {op : SOp} : mildW P s dst op K true = AK P s dst op K := rfl
theorem DKW_m {op : SOp} : DKW P .mild s dst op K = mildW P s dst op K (mildOk s op) := rfl

/-! Conditions. -/
def needE (c : Prop) (x : W ρ) : W ρ := need c x
theorem c_needE {c c' : Prop} {x : W ρ} (h : c = c') : needE c x = needE c' x := by rw [h]
theorem needE_t {x : W ρ} : needE True x = x := need_true
theorem needE_f {x : W ρ} : needE False x = .fail := need_false
theorem needE_go {c : Prop} {x : W ρ} : needE c x = need c x := rfl
theorem ofO_ifE {α : Type} {c : Prop} [Decidable c] {o : Option α} {k : α → W ρ} : ofO (if c then o else none) k = needE c (ofO o k) := ofO_ite
theorem ofO_ifE' {α : Type} {c : Prop} [Decidable c] {o : Option α} {k : α → W ρ} : ofO (if c then none else o) k = needE (¬ c) (ofO o k) := ofO_ite'
theorem ofM_ifE {α β : Type} {c : Prop} [Decidable c] {m : M α} {f : α → W β} : (ofM (if c then m else .fail)).bind f = needE c ((ofM m).bind f) := ofM_ite

/-! Elements. -/
def atE {α : Type} (es : List α) (i : Nat) (k : α → W ρ) : W ρ := at' es i k
theorem c_atE {α : Type} {es es' : List α} {i i' : Nat} {k : α → W ρ} (h : es = es') (h' : i = i') : atE es i k = atE es' i' k := by rw [h, h']
theorem atE_map {α β : Type} {es : List α} {g : α → β} {i : Nat} {k : β → W ρ} : atE (es.map g) i k = at' es i fun a => k (g a) := at_map
theorem atE_0 {α : Type} {e : α} {r : List α} {k : α → W ρ} : atE (e :: r) 0 k = k e := rfl
theorem atE_s {α : Type} {e : α} {r : List α} {i : Nat} {k : α → W ρ} : atE (e :: r) (i + 1) k = atE r i k := rfl
theorem atE_n {α : Type} {i : Nat} {k : α → W ρ} : atE [] i k = .fail := rfl
def idxE {α : Type} (es : List α) (i : Int) (k : α → W ρ) : W ρ := idx es i k
theorem c_idxE {α : Type} {es es' : List α} {i i' : Int} {k : α → W ρ} (h : es = es') (h' : i = i') : idxE es i k = idxE es' i' k := by rw [h, h']
theorem idxE_map {α β : Type} {es : List α} {g : α → β} {i : Int} {k : β → W ρ} : idxE (es.map g) i k = idx es i fun a => k (g a) := idx_map
theorem idxE_cons {α : Type} {e : α} {r : List α} {i : Int} {k : α → W ρ} : idxE (e :: r) i k = if i = 0 then k e else idxE r (i - 1) k := idx_cons
theorem idxE_nil {α : Type} {i : Int} {k : α → W ρ} : idxE [] i k = .fail := idx_nil

/-! Reading. -/
theorem c_cellsW {agg : Bool} {off n : Nat} {e e' : List C} (h : e = e') : cellsW agg off n e k = cellsW agg off n e' k := by rw [h]
theorem c_cells1 {agg : Bool} {n : Nat} {e e' acc acc' : List C} (h : e = e') (h' : acc = acc') : cells1 e n acc agg k = cells1 e' n acc' agg k := by rw [h, h']
def cellK (agg : Bool) (off n : Nat) (k : AV → W ρ) (e : List D) : W ρ := cellsW agg off n (ofData e) k
theorem c_cellK {agg : Bool} {off n : Nat} {e e' : List D} (h : e = e') : cellK agg off n k e = cellK agg off n k e' := by rw [h]
theorem cellK_n {agg : Bool} {off n : Nat} : cellK agg off n k [] = cellsW agg off n [] k := rfl
theorem cellK_c {agg : Bool} {off n : Nat} {x : D} {e : List D} : cellK agg off n k (x :: e) = cellsW agg off n (ofData (x :: e)) k := rfl
theorem c_loadW {agg : Bool} {n : Nat} {v v' : AV} (h : v = v') : loadW s agg n v k = loadW s agg n v' k := by rw [h]
def boxE (agg : Bool) (off n : Nat) (k : AV → W ρ) (o : Option O) : W ρ := match o with | some (.box cs) => cellsW agg off n cs k | _ => .fail
theorem c_boxE {agg : Bool} {off n : Nat} {o o' : Option O} (h : o = o') : boxE agg off n k o = boxE agg off n k o' := by rw [h]
theorem boxE_a {agg : Bool} {off n : Nat} {cs : List C} : boxE agg off n k (some (.box cs)) = cellsW agg off n cs k := rfl
theorem loadW_p {agg : Bool} {n off : Nat} {id : Id} : loadW s agg n (.v (.c (.ptr id off))) k = boxE agg off n k (s.obj? id) := by
  unfold loadW boxE
  dsimp only
  cases s.obj? id with
  | none => rfl
  | some o => cases o <;> rfl
theorem loadW_s {agg : Bool} {n off : Nat} {e : List D} : loadW s agg n (.sptr e off) k = cellsW agg off n (ofData e) k := rfl
def rowE (i : Nat) (kk : List D → W ρ) (o : Option (Nat × Row)) : W ρ := match o with | some (_, es) => atE es i kk | none => .fail
theorem c_rowE {i : Nat} {kk : List D → W ρ} {o o' : Option (Nat × Row)} (h : o = o') : rowE i kk o = rowE i kk o' := by rw [h]
theorem rowE_a {i sz : Nat} {kk : List D → W ρ} {es : Row} : rowE i kk (some (sz, es)) = atE es i kk := rfl
theorem loadW_r {agg : Bool} {n i off : Nat} {id : Id} : loadW s agg n (.rptr id i off) k = rowE i (cellK agg off n k) (s.rowOf id) := by
  unfold loadW rowE
  dsimp only
  cases s.rowOf id <;> rfl
def fieldW (b : Bool) (n m : Nat) (k : AV → W ρ) (v : AV) : W ρ := match v with | .v (.agg cs) => cellsW b n m cs k | _ => .fail
theorem c_fieldW {b : Bool} {n m : Nat} {v v' : AV} (h : v = v') : fieldW b n m k v = fieldW b n m k v' := by rw [h]
theorem fieldW_a {b : Bool} {n m : Nat} {cs : List C} : fieldW b n m k (.v (.agg cs)) = cellsW b n m cs k := rfl
theorem QW_fieldE {b : Bool} {n m : Nat} {x : Opd} : QW s (.field b n m x) k = fieldW b n m k (s.opd x) := by
  rw [QW_field]; unfold fieldW
  cases s.opd x with
  | v y => cases y <;> rfl
  | _ => rfl

def eltK (sz : Nat) (k : AV → W ρ) (e : List D) : W ρ := needE (e.length = sz) (k (.sptr e 0))
theorem eltK_c {sz : Nat} {x : D} {e : List D} : eltK sz k (x :: e) = needE ((x :: e).length = sz) (k (.sptr (x :: e) 0)) := rfl
theorem c_eltK {sz : Nat} {e e' : List D} (h : e = e') : eltK sz k e = eltK sz k e' := by rw [h]
theorem c_iaddrW {sz : Nat} {v v' i i' : AV} (h : v = v') (h' : i = i') : iaddrW s sz v i k = iaddrW s sz v' i' k := by rw [h, h']
theorem iaddrW_v {sz : Nat} {es : Row} {ik : IntKind} {n : Int} : iaddrW s sz (.v (.c (.d (.vec es)))) (.v (.c (.d (.int ik n)))) k = idxE es n (eltK sz k) := rfl
def radrE (sz i : Nat) (id : Id) (k : AV → W ρ) (o : Option (Nat × Row)) : W ρ := match o with | some (sz', _) => needE (sz' = sz) (k (.rptr id i 0)) | none => .fail
theorem c_radrE {sz i : Nat} {id : Id} {o o' : Option (Nat × Row)} (h : o = o') : radrE sz i id k o = radrE sz i id k o' := by rw [h]
theorem radrE_a {sz sz' i : Nat} {id : Id} {es : Row} : radrE sz i id k (some (sz', es)) = needE (sz' = sz) (k (.rptr id i 0)) := rfl
theorem iaddrW_s {sz off len : Nat} {id : Id} {ik : IntKind} {n : Int} : iaddrW s sz (.v (.c (.sl id off len))) (.v (.c (.d (.int ik n)))) k = needE (0 ≤ n ∧ n < len) (radrE sz (off + n.toNat) id k (s.rowOf id)) := by
  unfold iaddrW radrE
  dsimp only [intOf]
  cases s.rowOf id <;> rfl
theorem c_sidxW {v v' i i' : AV} (h : v = v') (h' : i = i') : sidxW v i k = sidxW v' i' k := by rw [h, h']
def byteK (k : AV → W ρ) (c : UInt8) : W ρ := k (.v (.c (.d (.int .u8 c.toNat))))
theorem sidxW_a {b : List UInt8} {ik : IntKind} {n : Int} : sidxW (.v (.c (.d (.str b)))) (.v (.c (.d (.int ik n)))) k = idx b n fun c => k (.v (.c (.d (.int .u8 c.toNat)))) := rfl

theorem c_bndW {y y' : Nat} {v v' : AV} {kn : Nat → W ρ} (h : y = y') (h' : v = v') : bndW y v kn = bndW y' v' kn := by rw [h, h']
theorem bndW_a {y : Nat} {ik : IntKind} {n : Int} {kn : Nat → W ρ} : bndW y (.v (.c (.d (.int ik n)))) kn = needE (0 ≤ n ∧ n ≤ y) (kn n.toNat) := rfl
/-- A part of a string, or of a slice: upper bound first. -/
def hiE (s : St) (lo hi : Option Opd) (kk : Nat → Nat → W ρ) (y : Nat) : W ρ := bndO s y y hi fun h => bndO s h 0 lo fun l => kk l h
theorem c_hiE {lo hi : Option Opd} {kk : Nat → Nat → W ρ} {y y' : Nat} (h : y = y') : hiE s lo hi kk y = hiE s lo hi kk y' := by rw [h]
theorem hiE_nn {kk : Nat → Nat → W ρ} {y : Nat} : hiE s none none kk y = kk 0 y := rfl
def hiE1 (kk : Nat → Nat → W ρ) (y : Nat) (v : AV) : W ρ := bndW y v fun h => kk 0 h
theorem c_hiE1 {kk : Nat → Nat → W ρ} {y : Nat} {v v' : AV} (h : v = v') : hiE1 kk y v = hiE1 kk y v' := by rw [h]
theorem hiE1_a {kk : Nat → Nat → W ρ} {y : Nat} {ik : IntKind} {n : Int} : hiE1 kk y (.v (.c (.d (.int ik n)))) = needE (0 ≤ n ∧ n ≤ y) (kk 0 n.toNat) := rfl
theorem hiE_nh {kk : Nat → Nat → W ρ} {y : Nat} {x : Opd} : hiE s none (some x) kk y = hiE1 kk y (s.opd x) := rfl
def loE1 (kk : Nat → Nat → W ρ) (y : Nat) (v : AV) : W ρ := bndW y v fun l => kk l y
theorem c_loE1 {kk : Nat → Nat → W ρ} {y y' : Nat} {v v' : AV} (h : y = y') (h' : v = v') : loE1 kk y v = loE1 kk y' v' := by rw [h, h']
theorem loE1_a {kk : Nat → Nat → W ρ} {y : Nat} {ik : IntKind} {n : Int} : loE1 kk y (.v (.c (.d (.int ik n)))) = needE (0 ≤ n ∧ n ≤ y) (kk n.toNat y) := rfl
theorem hiE_ln {kk : Nat → Nat → W ρ} {y : Nat} {x : Opd} : hiE s (some x) none kk y = loE1 kk y (s.opd x) := rfl
def hiE2 (kk : Nat → Nat → W ρ) (y : Nat) (v w : AV) : W ρ := bndW y v fun h => loE1 kk h w
theorem c_hiE2 {kk : Nat → Nat → W ρ} {y : Nat} {v v' w w' : AV} (h : v = v') (h' : w = w') : hiE2 kk y v w = hiE2 kk y v' w' := by rw [h, h']
theorem hiE2_a {kk : Nat → Nat → W ρ} {y : Nat} {ik : IntKind} {n : Int} {w : AV} : hiE2 kk y (.v (.c (.d (.int ik n)))) w = needE (0 ≤ n ∧ n ≤ y) (loE1 kk n.toNat w) := rfl
theorem hiE_lh {kk : Nat → Nat → W ρ} {y : Nat} {x z : Opd} : hiE s (some z) (some x) kk y = hiE2 kk y (s.opd x) (s.opd z) := rfl
def strK (b : List UInt8) (k : AV → W ρ) (l h : Nat) : W ρ := k (.v (.c (.d (.str ((b.drop l).take (h - l))))))
def sslE (s : St) (lo hi : Option Opd) (k : AV → W ρ) (v : AV) : W ρ := ofO (strOf v) fun b => hiE s lo hi (strK b k) b.length
theorem c_sslE {lo hi : Option Opd} {v v' : AV} (h : v = v') : sslE s lo hi k v = sslE s lo hi k v' := by rw [h]
theorem sslE_a {lo hi : Option Opd} {b : List UInt8} : sslE s lo hi k (.v (.c (.d (.str b)))) = hiE s lo hi (strK b k) b.length := rfl
theorem QW_ssliceE {x : Opd} {lo hi : Option Opd} : QW s (.sslice x lo hi) k = sslE s lo hi k (s.opd x) := QW_sslice
def vecK (s : St) (sz : Nat) (c : C) (k : AV → W ρ) (l h : Nat) : W ρ := ofO (sliceC s sz l h c) fun r => k (.v (.c r))
theorem vecK_a {sz : Nat} {c : C} {l h : Nat} : vecK s sz c k l h = ofO (sliceC s sz l h c) fun r => k (.v (.c r)) := rfl
def vslE (s : St) (sz : Nat) (lo hi : Option Opd) (k : AV → W ρ) (v : AV) : W ρ := match v with | .v (.c c) => ofO (s.lenOf c) (hiE s lo hi (vecK s sz c k)) | _ => .fail
theorem c_vslE {sz : Nat} {lo hi : Option Opd} {v v' : AV} (h : v = v') : vslE s sz lo hi k v = vslE s sz lo hi k v' := by rw [h]
theorem vslE_a {sz : Nat} {lo hi : Option Opd} {c : C} : vslE s sz lo hi k (.v (.c c)) = ofO (s.lenOf c) (hiE s lo hi (vecK s sz c k)) := rfl
theorem QW_vsliceE {sz : Nat} {x : Opd} {lo hi : Option Opd} : QW s (.vslice sz x lo hi none) k = vslE s sz lo hi k (s.opd x) := by
  rw [QW_vslice]; unfold vslE
  cases s.opd x with
  | v y => cases y <;> rfl
  | _ => rfl
def b2sE (s : St) (k : AV → W ρ) (v : AV) : W ρ := match v with | .v (.c c) => ofO (s.view c) fun es => bytesW es fun b => k (.v (.c (.d (.str b)))) | _ => .fail
theorem c_b2sE {v v' : AV} (h : v = v') : b2sE s k v = b2sE s k v' := by rw [h]
theorem b2sE_a {c : C} : b2sE s k (.v (.c c)) = ofO (s.view c) fun es => bytesW es fun b => k (.v (.c (.d (.str b)))) := rfl
theorem QW_b2sE {x : Opd} : QW s (.b2s x) k = b2sE s k (s.opd x) := by
  rw [QW_b2s]; unfold b2sE
  cases s.opd x with
  | v y => cases y <;> rfl
  | _ => rfl
theorem c_bytesW {es es' : Row} {kb : List UInt8 → W ρ} (h : es = es') : bytesW es kb = bytesW es' kb := by rw [h]
theorem bytesW_n {kb : List UInt8 → W ρ} : bytesW [] kb = kb [] := by rw [bytesW]
theorem bytesW_c {n : Int} {r : Row} {kb : List UInt8 → W ρ} : bytesW ([.int .u8 n] :: r) kb = needE (0 ≤ n ∧ n < 256) (bytesW r fun bs => kb (UInt8.ofNat n.toNat :: bs)) := by rw [bytesW]; rfl

def optE {α : Type} (o : Option α) (a : W ρ) (b : α → W ρ) : W ρ := optW o a b
theorem c_optE {α : Type} {o o' : Option α} {a : W ρ} {b : α → W ρ} (h : o = o') : optE o a b = optE o' a b := by rw [h]
theorem optE_map {α β : Type} {o : Option α} {g : α → β} {a : W ρ} {b : β → W ρ} : optE (o.map g) a b = optW o a fun x => b (g x) := optW_map
theorem optE_n {α : Type} {a : W ρ} {b : α → W ρ} : optE none a b = a := rfl
theorem optE_s {α : Type} {x : α} {a : W ρ} {b : α → W ρ} : optE (some x) a b = b x := rfl
def lookE (kk : Kd) (zero : V) (ok : Bool) (k : AV → W ρ) (kd : Option DV) (m : Option KVs) : W ρ := match kd, m with
  | some kd, some kvs => ofO (findKV kk kd kvs) fun r => optE r (k (if ok then .tup [zero, .c (.d (.bool false))] else .v zero)) fun d => k (if ok then .tup [d.toV, .c (.d (.bool true))] else .v d.toV)
  | _, _ => .fail
theorem c_lookE {kk : Kd} {zero : V} {ok : Bool} {kd kd' : Option DV} {m m' : Option KVs} (h : kd = kd') (h' : m = m') : lookE kk zero ok k kd m = lookE kk zero ok k kd' m' := by rw [h, h']
theorem lookE_a {kk : Kd} {zero : V} {ok : Bool} {kd : DV} {kvs : KVs} : lookE kk zero ok k (some kd) (some kvs) = ofO (findKV kk kd kvs) fun r => optE r (k (if ok then .tup [zero, .c (.d (.bool false))] else .v zero)) fun d => k (if ok then .tup [d.toV, .c (.d (.bool true))] else .v d.toV) := rfl
theorem c_lookW {kk : Kd} {zero : V} {ok : Bool} {m m' x x' : AV} (h : m = m') (h' : x = x') : lookW s kk zero ok m x k = lookW s kk zero ok m' x' k := by rw [h, h']
theorem lookW_a {kk : Kd} {zero : V} {ok : Bool} {id : Id} {kv : V} : lookW s kk zero ok (.v (.c (.map id))) (.v kv) k = lookE kk zero ok k (s.toDV kv) (s.kvsOf id) := by
  unfold lookW lookE
  dsimp only
  cases s.toDV kv with
  | none => rfl
  | some kd => cases s.kvsOf id <;> rfl

/-! Turning. -/
def stoE (s : St) (dst : Option Nat) (n off : Nat) (id : Id) (v : V) (K : St → W ρ) (o : Option O) : W ρ := match o with
  | some (.box cs) => needE (v.cells.length = n ∧ off + n ≤ cs.length) (K ((s.setObj id (.box (setAt off v.cells cs))).put dst .un))
  | _ => .fail
theorem c_stoE {n off : Nat} {id : Id} {v : V} {o o' : Option O} (h : o = o') : stoE s dst n off id v K o = stoE s dst n off id v K o' := by rw [h]
theorem stoE_a {n off : Nat} {id : Id} {v : V} {cs : List C} : stoE s dst n off id v K (some (.box cs)) = needE (v.cells.length = n ∧ off + n ≤ cs.length) (K ((s.setObj id (.box (setAt off v.cells cs))).put dst .un)) := rfl
theorem c_storeW {n : Nat} {a a' : AV} {v v' : Option V} (h : a = a') (h' : v = v') : storeW s dst n a v K = storeW s dst n a' v' K := by rw [h, h']
theorem storeW_p {n off : Nat} {id : Id} {v : V} : storeW s dst n (.v (.c (.ptr id off))) (some v) K = stoE s dst n off id v K (s.obj? id) := by
  unfold storeW stoE
  dsimp only
  cases s.obj? id with
  | none => rfl
  | some o => cases o <;> rfl
def storK (s1 : St) (dst : Option Nat) (n i off sz : Nat) (id : Id) (es : Row) (ds : List D) (K : St → W ρ) (e : List D) : W ρ := needE (ds.length = n ∧ off + n ≤ e.length) (K ((s1.setObj id (.row sz (es.set i (setAt off ds e)))).put dst .un))
theorem storK_c {s1 : St} {n i off sz : Nat} {id : Id} {es : Row} {ds : List D} {x : D} {e : List D} : storK s1 dst n i off sz id es ds K (x :: e) = needE (ds.length = n ∧ off + n ≤ (x :: e).length) (K ((s1.setObj id (.row sz (es.set i (setAt off ds (x :: e))))).put dst .un)) := rfl
theorem c_storK {s1 : St} {n i off sz : Nat} {id : Id} {es : Row} {ds : List D} {e e' : List D} (h : e = e') : storK s1 dst n i off sz id es ds K e = storK s1 dst n i off sz id es ds K e' := by rw [h]
def storE (s1 : St) (dst : Option Nat) (n i off : Nat) (id : Id) (K : St → W ρ) (o : Option O) (ds : Option (List D)) : W ρ := match o, ds with
  | some (.row sz es), some ds => atE es i (storK s1 dst n i off sz id es ds K)
  | _, _ => .fail
theorem c_storE {s1 s1' : St} {n i off : Nat} {id : Id} {o o' : Option O} {ds ds' : Option (List D)} (h0 : s1 = s1') (h : o = o') (h' : ds = ds') : storE s1 dst n i off id K o ds = storE s1' dst n i off id K o' ds' := by rw [h0, h, h']
theorem storE_a {s1 : St} {n i off sz : Nat} {id : Id} {es : Row} {ds : List D} : storE s1 dst n i off id K (some (.row sz es)) (some ds) = atE es i (storK s1 dst n i off sz id es ds K) := rfl
theorem storeW_r {n i off : Nat} {id : Id} {v : V} : storeW s dst n (.rptr id i off) (some v) K = storE (frzV s v) dst n i off id K ((frzV s v).obj? id) ((frzV s v).toDs v) := by
  unfold storeW storE
  dsimp only
  cases (frzV s v).obj? id with
  | none => rfl
  | some o => cases o with
    | row sz es => cases (frzV s v).toDs v <;> rfl
    | _ => rfl
def mupE (s1 : St) (dst : Option Nat) (kk : Kd) (id : Id) (K : St → W ρ) (o : Option O) (kd xd : Option DV) : W ρ := match o, kd, xd with
  | some (.map kvs), some kd, some xd => ofO (updKV kk kd xd kvs) fun kvs' => K ((s1.setObj id (.map kvs')).put dst .un)
  | _, _, _ => .fail
theorem c_mupE {s1 s1' : St} {kk : Kd} {id : Id} {o o' : Option O} {kd kd' xd xd' : Option DV} (h0 : s1 = s1') (h : o = o') (h1 : kd = kd') (h2 : xd = xd') : mupE s1 dst kk id K o kd xd = mupE s1' dst kk id K o' kd' xd' := by rw [h0, h, h1, h2]
theorem mupE_a {s1 : St} {kk : Kd} {id : Id} {kvs : KVs} {kd xd : DV} : mupE s1 dst kk id K (some (.map kvs)) (some kd) (some xd) = ofO (updKV kk kd xd kvs) fun kvs' => K ((s1.setObj id (.map kvs')).put dst .un) := rfl
theorem c_mupdW {kk : Kd} {m m' : AV} {x x' y y' : Option V} (h : m = m') (h1 : x = x') (h2 : y = y') : mupdW s dst kk m x y K = mupdW s dst kk m' x' y' K := by rw [h, h1, h2]
theorem mupdW_a {kk : Kd} {id : Id} {kv xv : V} : mupdW s dst kk (.v (.c (.map id))) (some kv) (some xv) K = mupE ([kv, xv].foldl frzV s) dst kk id K (([kv, xv].foldl frzV s).obj? id) (([kv, xv].foldl frzV s).toDV kv) (([kv, xv].foldl frzV s).toDV xv) := by
  unfold mupdW mupE
  dsimp only
  cases ([kv, xv].foldl frzV s).obj? id with
  | none => rfl
  | some o => cases o with
    | map kvs => cases ([kv, xv].foldl frzV s).toDV kv with
      | none => rfl
      | some kd => cases ([kv, xv].foldl frzV s).toDV xv <;> rfl
    | _ => rfl
def mdeE (s : St) (dst : Option Nat) (kk : Kd) (id : Id) (K : St → W ρ) (o : Option O) (kd : Option DV) : W ρ := match o, kd with
  | some (.map kvs), some kd => ofO (delKV kk kd kvs) fun kvs' => K ((s.setObj id (.map kvs')).put dst (.tup []))
  | _, _ => .fail
theorem c_mdeE {kk : Kd} {id : Id} {o o' : Option O} {kd kd' : Option DV} (h : o = o') (h1 : kd = kd') : mdeE s dst kk id K o kd = mdeE s dst kk id K o' kd' := by rw [h, h1]
theorem mdeE_a {kk : Kd} {id : Id} {kvs : KVs} {kd : DV} : mdeE s dst kk id K (some (.map kvs)) (some kd) = ofO (delKV kk kd kvs) fun kvs' => K ((s.setObj id (.map kvs')).put dst (.tup [])) := rfl
theorem c_mdelW {kk : Kd} {m m' : AV} {x x' : Option V} (h : m = m') (h1 : x = x') : mdelW s dst kk m x K = mdelW s dst kk m' x' K := by rw [h, h1]
theorem mdelW_a {kk : Kd} {id : Id} {kv : V} : mdelW s dst kk (.v (.c (.map id))) (some kv) K = mdeE s dst kk id K (s.obj? id) (s.toDV kv) := by
  unfold mdelW mdeE
  dsimp only
  cases s.obj? id with
  | none => rfl
  | some o => cases o with
    | map kvs => cases s.toDV kv <;> rfl
    | _ => rfl
def nextE {α : Type} (l : List α) (a : W ρ) (b : α → List α → W ρ) : W ρ := nextW l a b
theorem c_nextE {α : Type} {l l' : List α} {a : W ρ} {b : α → List α → W ρ} (h : l = l') : nextE l a b = nextE l' a b := by rw [h]
theorem nextE_map {α β : Type} {l : List α} {g : α → β} {a : W ρ} {b : β → List β → W ρ} : nextE (l.map g) a b = nextW l a fun x r => b (g x) (r.map g) := nextW_map
theorem nextE_n {α : Type} {a : W ρ} {b : α → List α → W ρ} : nextE [] a b = a := rfl
def itE (s : St) (dst : Option Nat) (id m : Id) (left : KVs) (K : St → W ρ) (o : Option O) : W ρ := match o with
  | some (.lock _) => nextE left (K (s.put dst (.tup [.c (.d (.bool false))]))) fun kv r => K ((s.setObj id (.iter m r (some kv))).put dst (.tup [.c (.d (.bool true))]))
  | _ => .fail
theorem c_itE {id m : Id} {left : KVs} {o o' : Option O} (h : o = o') : itE s dst id m left K o = itE s dst id m left K o' := by rw [h]
theorem itE_a {id m : Id} {left kvs : KVs} : itE s dst id m left K (some (.lock kvs)) = nextE left (K (s.put dst (.tup [.c (.d (.bool false))]))) fun kv r => K ((s.setObj id (.iter m r (some kv))).put dst (.tup [.c (.d (.bool true))])) := rfl
def itE0 (s : St) (dst : Option Nat) (id : Id) (K : St → W ρ) (o : Option O) : W ρ := match o with
  | some (.iter m left _) => itE s dst id m left K (s.obj? m)
  | _ => .fail
theorem c_itE0 {id : Id} {o o' : Option O} (h : o = o') : itE0 s dst id K o = itE0 s dst id K o' := by rw [h]
theorem itE0_a {id m : Id} {left : KVs} {cur : Option (DV × DV)} : itE0 s dst id K (some (.iter m left cur)) = itE s dst id m left K (s.obj? m) := rfl
theorem c_itrW {x x' : AV} (h : x = x') : itrW s dst x K = itrW s dst x' K := by rw [h]
theorem itrW_a {id : Id} : itrW s dst (.v (.c (.itr id))) K = itE0 s dst id K (s.obj? id) := by
  unfold itrW itE0
  dsimp only
  cases s.obj? id with
  | none => rfl
  | some o => cases o with
    | iter m left cur =>
      dsimp only [itE]
      cases s.obj? m with
      | none => rfl
      | some o => cases o <;> rfl
    | _ => rfl
def nilE (s : St) (dst : Option Nat) (neg : Bool) (K : St → W ρ) (n : Option Nat) : W ρ := match n with
  | some n => cond (n == 0) (amb (K (s.put dst (.v (.c (.d (.bool true)))))) (K (s.put dst (.v (.c (.d (.bool false))))))) (K (s.put dst (.v (.c (.d (.bool neg))))))
  | none => .fail
theorem c_nilE {neg : Bool} {n n' : Option Nat} (h : n = n') : nilE s dst neg K n = nilE s dst neg K n' := by rw [h]
theorem nilE_0 {neg : Bool} : nilE s dst neg K (some 0) = amb (K (s.put dst (.v (.c (.d (.bool true)))))) (K (s.put dst (.v (.c (.d (.bool false)))))) := rfl
theorem nilE_s {neg : Bool} {n : Nat} : nilE s dst neg K (some (n + 1)) = K (s.put dst (.v (.c (.d (.bool neg))))) := rfl
theorem nilE_a {neg : Bool} {n : Nat} : nilE s dst neg K (some n) = cond (n == 0) (amb (K (s.put dst (.v (.c (.d (.bool true)))))) (K (s.put dst (.v (.c (.d (.bool false))))))) (K (s.put dst (.v (.c (.d (.bool neg)))))) := rfl
theorem c_isnilW {neg : Bool} {x x' : Option V} (h : x = x') : isnilW s dst neg x K = isnilW s dst neg x' K := by rw [h]
theorem isnilW_a {neg : Bool} {c : C} : isnilW s dst neg (some (.c c)) K = nilE s dst neg K (s.nilLen c) := rfl

def appN (s : St) (dst : Option Nat) (sz : Nat) (c : C) (news es : Row) (K : St → W ρ) : W ρ := match c with
  | .nils => K ((newObj s (.row sz news)).put dst (.v (.c (.sl (.l s.loc.length) 0 news.length))))
  | .sl id 0 len => match s.obj? id with
    | some (.row sz' _) => needE (sz' = sz) (K ((newObj (s.setObj id .dead) (.row sz (es ++ news))).put dst (.v (.c (.sl (.l s.loc.length) 0 (len + news.length))))))
    | _ => .fail
  | _ => .fail
theorem appN_n {sz : Nat} {news es : Row} : appN s dst sz .nils news es K = K ((newObj s (.row sz news)).put dst (.v (.c (.sl (.l s.loc.length) 0 news.length)))) := rfl
def appO (s : St) (dst : Option Nat) (sz len : Nat) (id : Id) (news es : Row) (K : St → W ρ) (o : Option O) : W ρ := match o with
  | some (.row sz' _) => needE (sz' = sz) (K ((newObj (s.setObj id .dead) (.row sz (es ++ news))).put dst (.v (.c (.sl (.l s.loc.length) 0 (len + news.length))))))
  | _ => .fail
theorem c_appO {sz len : Nat} {id : Id} {news es : Row} {o o' : Option O} (h : o = o') : appO s dst sz len id news es K o = appO s dst sz len id news es K o' := by rw [h]
theorem appO_a {sz sz' len : Nat} {id : Id} {news es r : Row} : appO s dst sz len id news es K (some (.row sz' r)) = needE (sz' = sz) (K ((newObj (s.setObj id .dead) (.row sz (es ++ news))).put dst (.v (.c (.sl (.l s.loc.length) 0 (len + news.length)))))) := rfl
theorem appN_s {sz len : Nat} {id : Id} {news es : Row} : appN s dst sz (.sl id 0 len) news es K = appO s dst sz len id news es K (s.obj? id) := by
  show (match s.obj? id with | some (.row sz' _) => _ | _ => _) = _
  unfold appO
  cases s.obj? id with
  | none => rfl
  | some o => cases o <;> rfl
def appE (s : St) (dst : Option Nat) (sz bytes : Nat) (c : C) (K : St → W ρ) (news es : Option Row) : W ρ := ofO news fun news => ofO es fun es => needE (es.length + news.length ≤ 4294967296 ∧ bytes ≤ 4096 ∧ okSz sz es = true ∧ okSz sz news = true ∧ 0 < sz) (appN s dst sz c news es K)
theorem c_appE {sz bytes : Nat} {c : C} {n n' e e' : Option Row} (h : n = n') (h' : e = e') : appE s dst sz bytes c K n e = appE s dst sz bytes c K n' e' := by rw [h, h']
theorem appE_a {sz bytes : Nat} {c : C} {news es : Row} : appE s dst sz bytes c K (some news) (some es) = needE (es.length + news.length ≤ 4294967296 ∧ bytes ≤ 4096 ∧ okSz sz es = true ∧ okSz sz news = true ∧ 0 < sz) (appN s dst sz c news es K) := rfl
theorem appE_if {sz bytes : Nat} {c : C} {news es : Row} {q : Prop} [Decidable q] : appE s dst sz bytes c K (some news) (if q then some es else none) = needE q (appE s dst sz bytes c K (some news) (some es)) := ofO_ite
theorem appE_if' {sz bytes : Nat} {c : C} {news : Row} {es : Option Row} {q : Prop} [Decidable q] : appE s dst sz bytes c K (if q then some news else none) es = needE q (appE s dst sz bytes c K (some news) es) := ofO_ite
theorem c_appW {sz bytes : Nat} {a a' : Option V} {x x' : AV} (h : a = a') (h' : x = x') : appW s dst sz bytes a x K = appW s dst sz bytes a' x' K := by rw [h, h']
theorem appW_a {sz bytes : Nat} {c : C} {x : AV} : appW s dst sz bytes (some (.c c)) x K = appE s dst sz bytes c K (newsOf s x) (s.view c) := by
  unfold appW appE
  dsimp only
  refine congrArg (ofO _) (funext fun news => congrArg (ofO _) (funext fun es => congrArg (need _) ?_))
  unfold appN
  cases c with
  | sl id off len => cases off with
    | zero =>
      show (match s.obj? id with | some (.row sz' _) => _ | _ => _) = (match s.obj? id with | some (.row sz' _) => _ | _ => _)
      cases s.obj? id with
      | none => rfl
      | some o => cases o <;> rfl
    | succ _ => rfl
  | _ => rfl

/-! Calls. -/
def callE (m : W Ret) (k : Ret → W ρ) : W ρ := m.bind k
theorem c_callE {m m' : W Ret} {k : Ret → W ρ} (h : m = m') : callE m k = callE m' k := by rw [h]
theorem callE_a {α : Type} {w : W α} {F : α → Ret} {k : Ret → W ρ} : callE (w.bind fun r => .pure (F r)) k = w.bind fun r => k (F r) := rfl
def argsL (P : SProg) (s : St) (dst : Option Nat) (f : Nat) (args : List V) (K : St → W ρ) (o : Option (List V)) : W ρ := match o with
  | some vs => callE (WR P f vs []) (lendRW s dst K)
  | none => refW P s dst f args K
theorem c_argsL {f : Nat} {args : List V} {o o' : Option (List V)} (h : o = o') : argsL P s dst f args K o = argsL P s dst f args K o' := by rw [h]
theorem argsL_a {f : Nat} {args vs : List V} : argsL P s dst f args K (some vs) = callE (WR P f vs []) (lendRW s dst K) := rfl
theorem argsL_n {f : Nat} {args : List V} : argsL P s dst f args K none = refW P s dst f args K := rfl
theorem callK_t {f : Nat} {args : List V} : callK P s dst true f K args = argsL P s dst f args K (mapO (lendV s) args) := by
  unfold callK callW argsL callE
  dsimp only
  cases mapO (lendV s) args <;> rfl
def argsD (P : SProg) (s s1 : St) (dst : Option Nat) (f : Nat) (args : List V) (K : St → W ρ) (o : Option (List V)) : W ρ := match o with
  | some vs => callE (WR P f vs []) (dataRW s1 dst K)
  | none => refW P s dst f args K
theorem c_argsD {s1 s1' : St} {f : Nat} {args : List V} {o o' : Option (List V)} (h0 : s1 = s1') (h : o = o') : argsD P s s1 dst f args K o = argsD P s s1' dst f args K o' := by rw [h0, h]
theorem argsD_a {s1 : St} {f : Nat} {args vs : List V} : argsD P s s1 dst f args K (some vs) = callE (WR P f vs []) (dataRW s1 dst K) := rfl
theorem argsD_n {s1 : St} {f : Nat} {args : List V} : argsD P s s1 dst f args K none = refW P s dst f args K := rfl
theorem callK_f {f : Nat} {args : List V} : callK P s dst false f K args = argsD P s (args.foldl frzV s) dst f args K (mapO (asDataV (args.foldl frzV s)) args) := by
  unfold callK callW argsD callE
  dsimp only
  cases mapO (asDataV (args.foldl frzV s)) args <;> rfl
theorem c_callK {lend : Bool} {f : Nat} {args args' : List V} (h : args = args') : callK P s dst lend f K args = callK P s dst lend f K args' := by rw [h]
theorem c_lendRW {r r' : Ret} (h : r = r') : lendRW s dst K r = lendRW s dst K r' := by rw [h]
theorem lendRW_a {v : AV} {l o : List O} : lendRW s dst K ⟨v, l, o⟩ = needE (scalarAV v = true) (K (s.put dst v)) := by
  unfold lendRW needE
  by_cases h : scalarAV v = true
  · simp only [if_pos h, need_pos h]
  · simp only [if_neg h]; exact eq_of fun _ => ⟨fun h' => h'.elim, fun h' => h h'.1⟩
theorem c_dataRW {r r' : Ret} (h : r = r') : dataRW s dst K r = dataRW s dst K r' := by rw [h]
theorem dataRW_a {v : AV} {l o : List O} : dataRW s dst K ⟨v, l, o⟩ = K (St.put { s with loc := s.loc ++ l.map (relO (shiftL s.loc.length)) } dst (relAV (shiftL s.loc.length) v)) := rfl
def refE (P : SProg) (s : St) (dst : Option Nat) (f : Nat) (K : St → W ρ) (args : List V) (out : List O) : W ρ := callE (WR P f args out) (refRW s dst K)
theorem c_refE {f : Nat} {args args' : List V} {out out' : List O} (h : args = args') (h' : out = out') : refE P s dst f K args out = refE P s dst f K args' out' := by rw [h, h']
theorem refW_a {f : Nat} {args : List V} : refW P s dst f args K = refE P s dst f K (args.map (relV (intoCall s.out.length))) ((s.out ++ s.loc).map (relO (intoCall s.out.length))) := rfl
theorem refE_c {f : Nat} {a : V} {args : List V} {out : List O} : refE P s dst f K (a :: args) out = callE (WR P f (a :: args) out) (refRW s dst K) := rfl
theorem refE_n {f : Nat} {out : List O} : refE P s dst f K [] out = callE (WR P f [] out) (refRW s dst K) := rfl
theorem c_refRW {r r' : Ret} (h : r = r') : refRW s dst K r = refRW s dst K r' := by rw [h]
theorem refRW_a {v : AV} {l o : List O} : refRW s dst K ⟨v, l, o⟩ = K (St.put { env := s.env, loc := (o.map (relO (fromCall s.out.length s.loc.length))).drop s.out.length ++ l.map (relO (fromCall s.out.length s.loc.length)), out := (o.map (relO (fromCall s.out.length s.loc.length))).take s.out.length } dst (relAV (fromCall s.out.length s.loc.length) v)) := rfl
theorem c_callvW {fv fv' : AV} {args args' : Option (List V)} (h : fv = fv') (h' : args = args') : callvW P s dst fv args K = callvW P s dst fv' args' K := by rw [h, h']
theorem callvW_a {f : Nat} {caps : List C} {vs : List V} : callvW P s dst (.v (.c (.fn f caps))) (some vs) K = callK P s dst false f K (vs ++ caps.map .c) := rfl

/-! The environment. -/
theorem get_hit {t : Nat} {v : AV} {r : List (Nat × AV)} : get t ((t, v) :: r) = v := by simp [get]
end
end Go.Aiv

