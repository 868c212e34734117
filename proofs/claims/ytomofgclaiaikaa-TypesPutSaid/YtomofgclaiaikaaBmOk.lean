/-
  OUR OWN: tables out of lists; that a table fits the program, by computing.
-/
import Derived.Test.YtomofgclaiaikaaBmLaw
import Derived.Laws.StructEq
namespace Go.Bm
set_option linter.unusedVariables false
set_option linter.unusedSimpArgs false

def coB : Leaf → Value → Bool
  | .int k x, .int k' x' => decide (k = k') && decide (x = x')
  | .bool b, .bool b' => b == b'
  | .str x, .string s => decide (s.data.toList = x)
  | .nils, .slice none 0 0 => true
  | .nilp, .pointer none => true
  | .nilf, .nilFunc => true
  | .nili, .nilIface => true
  | .nilm, .map none => true
  | .undef, _ => true
  | _, _ => false
def coBs : List Leaf → List Value → Bool
  | [], [] => true
  | l :: ls, v :: vs => coB l v && coBs ls vs
  | _, _ => false

theorem coB_spec {l : Leaf} {v : Value} (h : coB l v = true) : CoR l v := by
  unfold coB at h
  split at h
  · simp only [Bool.and_eq_true, decide_eq_true_eq] at h; obtain ⟨rfl, rfl⟩ := h; rfl
  · have := eq_of_beq h; subst this; rfl
  · exact ⟨_, rfl, of_decide_eq_true h⟩
  · rfl
  · rfl
  · rfl
  · rfl
  · rfl
  · trivial
  · cases h

theorem coBs_spec : ∀ {l : List Leaf} {v : List Value}, coBs l v = true → CoRs l v
  | [], [], _ => rfl
  | [], _ :: _, h => by cases h
  | _ :: _, [], h => by cases h
  | l :: ls, v :: vs, h => by
    simp only [coBs, Bool.and_eq_true] at h
    exact ⟨v, vs, rfl, coB_spec h.1, coBs_spec h.2⟩

def zeroAtB (P : Program) (t : TypeId) (zs : List Leaf) : Bool := match P.info? t with
  | some i => match i.zero with
    | some z => Nat.beq i.size zs.length && coBs zs z.cells.toList
    | none => false
  | none => false

theorem zeroAtB_spec {P : Program} {t : TypeId} {zs : List Leaf} (h : zeroAtB P t zs = true) : zeroAt P t zs := by
  unfold zeroAtB at h
  split at h
  case h_2 => cases h
  rename_i i hi
  split at h
  case h_2 => cases h
  rename_i z hz
  simp only [Bool.and_eq_true] at h
  exact ⟨i, z, hi, Nat.eq_of_beq_eq_true h.1, hz, coBs_spec h.2⟩

def leafB : Leaf → TypeDesc → Bool
  | .int k _, d => match d with
    | .int k' => decide (k' = k)
    | _ => false
  | .str _, d => match d with
    | .string => true
    | _ => false
  | .bool _, d => match d with
    | .bool => true
    | _ => false
  | _, _ => true

def keyB : CT → TypeDesc → Bool
  | .int k, .int k' => decide (k' = k)
  | .bool, .bool => true
  | .str, .string => true
  | _, _ => false
def aggB (agg : Bool) : Value → Bool
  | .agg _ => agg
  | _ => !agg
def tdOkB (P : Program) (t : TypeId) : TD → Bool
  | .leaf z => zeroAtB P t [z] && (match P.underlying t with
    | some d => !isAggD d && leafB z d
    | none => false)
  | .struct fs zs => zeroAtB P t zs && (match P.underlying t with
    | some (.struct fields) => decide (fields.toList.map (fieldOf P) = fs.map some) && fs.all fun f => !Nat.beq f.2.1 0
    | _ => false)
  | .slice e en => zeroAtB P t [.nils] && (match P.underlying t with
    | some (.slice en') => Nat.beq en' en && (match P.info? en with
      | some i => match i.zero with
        | some z => Nat.ble i.bytes 512 && (if e = .unit then Nat.beq i.size 1 else Nat.beq i.size e.size && (e.wf && (Nat.blt 0 e.size && (coBs (zerosOf e) z.cells.toList && Nat.beq z.cells.size e.size))))
        | none => false
      | none => false)
    | _ => false)
  | .arr e n agg zs => zeroAtB P t zs && (Nat.beq zs.length (n * e.size) && (Nat.blt 0 e.size && (match P.underlying t with
    | some (.array n' en) => Nat.beq n' n && ((match P.underlying en with
      | some d => isAggD d == agg
      | none => false) && (match P.info? en with
      | some i => Nat.beq i.size e.size
      | none => false))
    | _ => false)))
  | .map k v agg => zeroAtB P t [.nilm] && (match P.underlying t with
    | some (.map kt et) => (match P.underlying kt with
      | some d => keyB k d
      | none => false) && (match P.info? et with
      | some i => match i.zero with
        | some z => v.wf && (coBs (zerosOf v) z.cells.toList && (aggB agg z && (agg || Nat.beq v.size 1)))
        | none => false
      | none => false)
    | _ => false)

theorem keyB_spec {c : CT} {d : TypeDesc} (h : keyB c d = true) : keyD c d := by
  unfold keyB at h
  split at h
  · rw [← of_decide_eq_true h]; rfl
  · rfl
  · rfl
  · cases h

theorem aggB_spec {agg : Bool} {z : Value} (h : aggB agg z = true) : z = valOf agg z.cells.toList := by
  unfold aggB at h
  cases z <;> cases agg <;> first | (cases h; done) | simp [valOf, Value.cells]

theorem tdOkB_spec {P : Program} {t : TypeId} : ∀ {td : TD}, tdOkB P t td = true → TdOk P t td
  | .leaf z, h => by
    simp only [tdOkB, Bool.and_eq_true] at h
    obtain ⟨h1, h2⟩ := h
    split at h2
    · rename_i d hd
      simp only [Bool.and_eq_true, Bool.not_eq_true'] at h2
      refine ⟨zeroAtB_spec h1, d, hd, h2.1, fun k x e => ?_, fun x e => ?_, fun x e => ?_⟩
      · subst e
        have h3 := h2.2
        simp only [leafB] at h3
        split at h3
        · rw [of_decide_eq_true h3]
        · cases h3
      · subst e
        have h3 := h2.2
        simp only [leafB] at h3
        split at h3
        · rfl
        · cases h3
      · subst e
        have h3 := h2.2
        simp only [leafB] at h3
        split at h3
        · rfl
        · cases h3
    · cases h2
  | .struct fs zs, h => by
    simp only [tdOkB, Bool.and_eq_true] at h
    obtain ⟨h1, h2⟩ := h
    split at h2
    · rename_i fields hu
      simp only [Bool.and_eq_true, decide_eq_true_eq] at h2
      refine ⟨zeroAtB_spec h1, fields, hu, h2.1, fun f hf e => ?_⟩
      have := List.all_eq_true.1 h2.2 f hf
      rw [e] at this
      cases this
    · cases h2
  | .slice e en, h => by
    simp only [tdOkB, Bool.and_eq_true] at h
    obtain ⟨h1, h2⟩ := h
    split at h2
    case h_2 => cases h2
    rename_i en' hu
    simp only [Bool.and_eq_true] at h2
    have he := Nat.eq_of_beq_eq_true h2.1
    subst he
    have h3 := h2.2
    split at h3
    case h_2 => cases h3
    rename_i i hi
    split at h3
    case h_2 => cases h3
    rename_i z hz
    simp only [Bool.and_eq_true] at h3
    refine ⟨zeroAtB_spec h1, hu, i, z, hi, hz, Nat.le_of_ble_eq_true h3.1, fun e1 => ?_, fun e1 => ?_⟩
    · have h4 := h3.2
      rw [if_pos e1] at h4
      exact Nat.eq_of_beq_eq_true h4
    · have h4 := h3.2
      rw [if_neg e1] at h4
      simp only [Bool.and_eq_true] at h4
      obtain ⟨k1, k2, k3, k4, k5⟩ := h4
      exact ⟨Nat.eq_of_beq_eq_true k1, k2, by rw [← Nat.blt_eq]; exact k3, coBs_spec k4, Nat.eq_of_beq_eq_true k5⟩

  | .arr e n agg zs, h => by
    simp only [tdOkB, Bool.and_eq_true] at h
    obtain ⟨h1, h2, h3, h4⟩ := h
    split at h4
    case h_2 => cases h4
    rename_i n' en hu
    simp only [Bool.and_eq_true] at h4
    obtain ⟨h5, h6, h7⟩ := h4
    have he := Nat.eq_of_beq_eq_true h5
    subst he
    split at h6
    case h_2 => cases h6
    rename_i d hd
    split at h7
    case h_2 => cases h7
    rename_i i hi
    exact ⟨zeroAtB_spec h1, Nat.eq_of_beq_eq_true h2, by rw [← Nat.blt_eq]; exact h3, en, hu, ⟨d, hd, eq_of_beq h6⟩, i, hi, Nat.eq_of_beq_eq_true h7⟩
  | .map k v agg, h => by
    simp only [tdOkB, Bool.and_eq_true] at h
    obtain ⟨h1, h2⟩ := h
    split at h2
    case h_2 => cases h2
    rename_i kt et hu
    simp only [Bool.and_eq_true] at h2
    obtain ⟨h3, h4⟩ := h2
    split at h3
    case h_2 => cases h3
    rename_i d hd
    split at h4
    case h_2 => cases h4
    rename_i i hi
    split at h4
    case h_2 => cases h4
    rename_i z hz
    simp only [Bool.and_eq_true, Bool.or_eq_true] at h4
    obtain ⟨k1, k2, k3, k4⟩ := h4
    exact ⟨zeroAtB_spec h1, kt, et, hu, ⟨d, hd, keyB_spec h3⟩, i, z, hi, hz, k1, coBs_spec k2, aggB_spec k3, fun e => by
      rcases k4 with g | g
      · rw [e] at g; cases g
      · exact Nat.eq_of_beq_eq_true g⟩

/-! ### Structs that are compared cell by cell -/
def fieldsB (P : Program) : Nat → List Leaf → List Field → Bool
  | _, [], [] => true
  | i, z :: zs, f :: r => Nat.beq f.offset i && (decide (f.name ≠ "_") && ((match P.underlying f.type with
    | some d => !isAggD d && (match z, d with
      | .int k _, .int k' => decide (k' = k)
      | .bool _, .bool => true
      | .str _, .string => true
      | _, _ => false)
    | none => false) && fieldsB P (i + 1) zs r))
  | _, _, _ => false
def eqOkB (P : Program) (t : TypeId) (zs : List Leaf) : Bool := match P.underlying t with
  | some (.struct fs) => !P.stoodInHeld t && (!P.eqGuardType P.depth t && fieldsB P 0 zs fs.toList)
  | _ => false

section
variable {P : Program} {w : World}

theorem run_part_basic {t : TypeId} {d : TypeDesc} (hu : P.underlying t = some d) (hd : isAggD d = false) {cs : Array Value} {off : Nat} {v : Value} (h : cs[off]? = some v) : (part t cs off).run P w = .ok v w := by
  have ha : (isAgg t).run P w = .ok false w := by
    rw [← hd]
    simp only [isAgg, Sem.run_bind, run_underlying hu, Result.andThen_ok]
    cases d <;> rfl
  simp [part, ha, h]

theorem eqLeaves_cons {x y : Leaf} {xs ys : List Leaf} {b : Bool} (h : eqLeaves (x :: xs) (y :: ys) = some b) : ∃ b1 b2, eqLeaf x y = some b1 ∧ eqLeaves xs ys = some b2 ∧ b = (b1 && b2) := by
  cases xs with
  | nil =>
    cases ys with
    | nil => simp only [eqLeaves] at h; exact ⟨b, true, h, rfl, by simp⟩
    | cons y' ys' =>
      simp only [eqLeaves] at h
      split at h
      · rename_i a c h1 h2; cases h; exact ⟨a, c, h1, h2, rfl⟩
      · cases h
  | cons x' xs' =>
    simp only [eqLeaves] at h
    split at h
    · rename_i a c h1 h2; cases h; exact ⟨a, c, h1, h2, rfl⟩
    · cases h

theorem run_eqFields (d : Nat) : ∀ (fs : List Field) (zs : List Leaf) (i : Nat) (xs ys : List Leaf) (vx vy : Array Value) (b : Bool), fieldsB P i zs fs = true → likes zs xs = true → eqLeaves xs ys = some b → CoRs xs (vx.toList.drop i) → CoRs ys (vy.toList.drop i) →
    (Op.eqFields (d + 1) vx vy fs).run P w = .ok b w
  | [], [], i, xs, ys, vx, vy, b, _, hl, he, _, _ => by
    cases xs with
    | nil =>
      cases ys with
      | nil => simp [eqLeaves] at he; subst he; simp [Op.eqFields]
      | cons y ys => simp [eqLeaves] at he
    | cons x xs => simp [likes] at hl
  | [], _ :: _, i, xs, ys, vx, vy, b, hf, _, _, _, _ => by simp [fieldsB] at hf
  | _ :: _, [], i, xs, ys, vx, vy, b, hf, _, _, _, _ => by simp [fieldsB] at hf
  | f :: fs, z :: zs, i, xs, ys, vx, vy, b, hf, hl, he, hx, hy => by
    simp only [fieldsB, Bool.and_eq_true, decide_eq_true_eq] at hf
    obtain ⟨h1, h2, h3, h4⟩ := hf
    have hoff := Nat.eq_of_beq_eq_true h1
    cases xs with
    | nil => cases z <;> simp [likes] at hl
    | cons x xs =>
    cases ys with
    | nil => cases xs <;> simp [eqLeaves] at he
    | cons y ys =>
    obtain ⟨b1, b2, e1, e2, e3⟩ := eqLeaves_cons he
    obtain ⟨u, us, hu, hcu, hcus⟩ := hx
    obtain ⟨v, vs, hv, hcv, hcvs⟩ := hy
    have hux : vx[i]? = some u := by
      have : (vx.toList.drop i)[0]? = some u := by rw [hu]; rfl
      simpa using this
    have hvy : vy[i]? = some v := by
      have : (vy.toList.drop i)[0]? = some v := by rw [hv]; rfl
      simpa using this
    have hus : vx.toList.drop (i + 1) = us := by rw [← List.tail_drop, hu]; rfl
    have hvs : vy.toList.drop (i + 1) = vs := by rw [← List.tail_drop, hv]; rfl
    split at h3
    case h_2 => cases h3
    rename_i dd hdd
    simp only [Bool.and_eq_true, Bool.not_eq_true'] at h3
    have hone : (Op.equalIn (d + 1) f.type u v).run P w = .ok b1 w ∧ likes zs xs = true := by
      have h32 := h3.2
      split at h32
      · rename_i k n k'
        have hk := of_decide_eq_true h32
        subst hk
        cases x <;> simp [likes] at hl
        cases y <;> simp [eqLeaf] at e1
        obtain ⟨rfl, hl⟩ := hl
        obtain ⟨rfl, rfl⟩ := e1
        have hu' : u = _ := hcu
        have hv' : v = _ := hcv
        subst hu'; subst hv'
        exact ⟨run_equalIn_int w d f.type _ _ _ _ hdd, hl⟩
      · cases x <;> simp [likes] at hl
        cases y <;> simp [eqLeaf] at e1
        subst e1
        have hu' : u = _ := hcu
        have hv' : v = _ := hcv
        subst hu'; subst hv'
        exact ⟨run_equalIn_bool w d f.type _ _ hdd, hl⟩
      · cases x <;> simp [likes] at hl
        cases y <;> simp [eqLeaf] at e1
        subst e1
        obtain ⟨s1, k1, k2⟩ := hcu
        obtain ⟨s2, m1, m2⟩ := hcv
        subst k1; subst m1
        exact ⟨by rw [run_equalIn_string w d f.type _ _ hdd, ByteArray.toList_eq, ByteArray.toList_eq, k2, m2], hl⟩
      · cases h32
    have ih := run_eqFields d fs zs (i + 1) xs ys vx vy b2 h4 hone.2 e2 (by rw [hus]; exact hcus) (by rw [hvs]; exact hcvs)
    simp only [Op.eqFields]
    rw [if_pos h2]
    rw [hoff]
    simp only [Sem.run_bind, run_part_basic hdd h3.1 hux, run_part_basic hdd h3.1 hvy, hone.1, Result.andThen_ok]
    subst e3
    cases b1
    · simp
    · simpa using ih

theorem eqOkB_spec {t : TypeId} {zs : List Leaf} (h : eqOkB P t zs = true) : EqOk P t zs := by
  unfold eqOkB at h
  split at h
  case h_2 => cases h
  rename_i fs hu
  simp only [Bool.and_eq_true, Bool.not_eq_true'] at h
  intro w xs ys vx vy b hl he hx hy
  refine ⟨fun op x y => ?_, ?_⟩
  · unfold eqGuard
    have hg : P.eqGuardType P.depth t = false := h.2.1
    cases op <;> simp [hg]
  · have hf : P.fieldsOf t = fs := by simp [Program.fieldsOf, hu]
    have := run_equalIn_struct (P := P) w 9999 t vx vy (by rw [hf]; exact hu) h.1
    show (Op.equalIn (9999 + 1) t (.agg vx) (.agg vy)).run P w = _
    rw [this, hf]
    exact run_eqFields 9998 fs.toList zs 0 xs ys vx vy b h.2.2 hl he (by simpa using hx) (by simpa using hy)
end

/-! ### A table out of lists -/
structure Tabs where
  tabL : List (Nat × TD)
  eqtL : List Nat
  keysL : List (Nat × List Nat)
  lendL : List Nat := []
  kinL : List Tm
  koutsL : List (List Tm)
  bkL : List Blk
  lkL : List (Nat × List (Nat × Nat))
  tkL : List (Nat × List (Nat × Nat))
  dkL : List (Nat × List (Nat × (List Nat × OrdT)))
  fnumL : List Nat
  fnL : List Func
  placeL : List (Nat × List Bool)
  alL : List (Nat × Nat) := []

def getL {α : Type} (d : α) (l : List α) (i : Nat) : α := match nth l i with
  | some x => x
  | none => d
def look2 {α : Type} (l : List (Nat × List (Nat × α))) (i j : Nat) : Option α := match look l i with
  | some r => look r j
  | none => none
def listsL (l : List (Nat × List Nat)) (i : Nat) : List Nat := match look l i with
  | some r => r
  | none => []
def noTm : Tm := ⟨[], []⟩
def noBlk : Blk := ⟨[], noTm, [], []⟩

def Tabs.tb (t : Tabs) : Tb := ⟨look t.tabL, has t.eqtL, listsL t.keysL, has t.lendL, getL noTm t.kinL, getL [] t.koutsL, getL noBlk t.bkL⟩
def Tabs.tbl (t : Tabs) (xf : t.tb.RF) : Tbl :=
  { t.tb with lk := look2 t.lkL, tk := look2 t.tkL, dk := look2 t.dkL, al := look t.alL, fnum := getL 0 t.fnumL, fn := nth t.fnL, place := nth t.placeL, xf := xf }

def keysB (t : Tabs) : Bool := t.keysL.all fun p => p.2.all fun φ => Nat.beq (getL 0 t.fnumL φ) p.1
def eqtB (P : Program) (t : Tabs) : Bool := t.eqtL.all fun ty => match look t.tabL ty with
  | some (.struct _ zs) => eqOkB P ty zs
  | _ => true

def FnsOk (P : Program) (T : Tbl) : Nat → List Func → Prop
  | _, [] => True
  | φ, fn :: r => (P.funcs[T.fnum φ]? = some fn ∧ (fn.name == "runtime.NumGoroutine") = false ∧ ∃ c, fn.body = some c ∧ fnB T φ fn c = true) ∧ FnsOk P T (φ + 1) r

theorem FnsOk.get {P : Program} {T : Tbl} : ∀ {l : List Func} {φ j : Nat} {fn : Func}, FnsOk P T φ l → nth l j = some fn → P.funcs[T.fnum (φ + j)]? = some fn ∧ (fn.name == "runtime.NumGoroutine") = false ∧ ∃ c, fn.body = some c ∧ fnB T (φ + j) fn c = true
  | [], φ, j, fn, _, h => by cases h
  | f :: r, φ, 0, fn, h, hj => by cases hj; exact h.1
  | f :: r, φ, j + 1, fn, h, hj => by
    have := FnsOk.get (j := j) h.2 hj
    rwa [show φ + 1 + j = φ + (j + 1) by omega] at this

/-- What a way to call a function of another text is worth. -/
def ExtOk (P : Program) (T : Tbl) : Prop := ∀ φ d y, T.fn φ = none → T.xf φ d = some y → (∃ fn : Func, P.funcs[T.fnum φ]? = some fn ∧ (fn.name == "runtime.NumGoroutine") = false ∧ fn.body.isNone = false) ∧
    ∀ (w : World) (Φ : Nat → Prop) (vs : List Value) (γ : Loc), InstR w Φ (T.kin φ) (fromD (T.kin φ).cts d) vs γ →
      Calls P (T.fnum φ) vs.toArray w fun e w' => ∃ Φ' γ' rs, e = .returned (retVal rs) ∧ OutR (fun T' ds' => InstR w' Φ' T' ds' rs γ' ∧ PostR w Φ γ (T.kin φ) (fromD (T.kin φ).cts d) w' Φ' γ' T' ds') (T.kouts φ) y

theorem Tabs.ok {P : Program} (t : Tabs) {xf : t.tb.RF} (h1 : t.tabL.all (fun p => tdOkB P p.1 p.2) = true) (h2 : eqtB P t = true) (h3 : P.follows .mixedOrders = true) (h4 : keysB t = true) (h5 : FnsOk P (t.tbl xf) 0 t.fnL)
    (h6 : (List.range t.placeL.length).all (blkOkB (t.tbl xf)) = true) (h7 : ExtOk P (t.tbl xf)) : (t.tbl xf).Ok P := {
  tab := fun ty td h => tdOkB_spec (List.all_eq_true.1 h1 (ty, td) (look_mem h))
  eqt := fun ty fs zs he ht => by
    have := List.all_eq_true.1 h2 ty (has_mem.1 he)
    have ht' : look t.tabL ty = some (.struct fs zs) := ht
    rw [ht'] at this
    exact eqOkB_spec this
  mixed := h3
  keys := fun f φ hφ => by
    have hφ' : φ ∈ listsL t.keysL f := hφ
    unfold listsL at hφ'
    split at hφ'
    · rename_i r hr
      have := List.all_eq_true.1 (List.all_eq_true.1 h4 (f, r) (look_mem hr)) φ hφ'
      exact Nat.eq_of_beq_eq_true this
    · cases hφ'
  fn := fun φ fn h => by
    have := FnsOk.get (j := φ) h5 h
    rwa [Nat.zero_add] at this
  blk := Tbl.ok_blk t.placeL.length (fun κ hκ => by
    show nth t.placeL κ = none
    rw [nth_getElem?]; exact List.getElem?_eq_none hκ) h6
  ext := h7 }

end Go.Bm
