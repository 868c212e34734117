/-
  OUR OWN: a program's functions together: what they come to within so many steps down, and at last; all of it sound.
-/
import Derived.Test.YtjphmcfifncgnaaBmLim
import Derived.Test.YtjphmcfifncgnaaBmLoop
namespace Go.Bm
set_option linter.unusedVariables false
set_option linter.unusedSimpArgs false

def cut : List Bool → Code → Option Code
  | [], c => some c
  | b :: p, .seq x y => match b with
    | true => Bm.cut p y
    | false => Bm.cut p x
  | b :: p, .cond _ x y => match b with
    | true => Bm.cut p y
    | false => Bm.cut p x
  | _ :: p, .block _ c => Bm.cut p c
  | _ :: p, .loop c => Bm.cut p c
  | _, _ => none

def bcode : Code → BCode
  | .block id (.loop c) => .loop id c
  | c => .tail c

structure Tbl extends Tb where
  lk : Nat → Nat → Option Nat
  tk : Nat → Nat → Option Nat
  fn : Nat → Option Func
  place : Nat → Option (Nat × List Bool)
  xf : toTb.RF

def Tbl.stepF (T : Tbl) (rf : T.RF) (rb : T.RB) : T.RF := fun f d => match T.fn f with
  | some fn => match fn.body with
    | some c => evFn (T.cx rf rb) (T.lk f) (T.tk f) f c fn.results.toList d
    | none => none
  | none => T.xf f d

def Tbl.codeAt (T : Tbl) (κ : Nat) : Option (Nat × Code) := match T.place κ with
  | some (f, p) => match T.fn f with
    | some fn => match fn.body with
      | some c => match Bm.cut p c with
        | some c' => some (f, c')
        | none => none
      | none => none
    | none => none
  | none => none

def Tbl.stepB (T : Tbl) (rf : T.RF) (rb : T.RB) : T.RB := fun κ d => match T.codeAt κ with
  | some (f, c) => evBlk (T.cx rf rb) (T.lk f) (T.tk f) κ (bcode c) d
  | none => none

def Tbl.F (T : Tbl) : Nat → T.RF × T.RB
  | 0 => (fun _ _ => none, fun _ _ => none)
  | n + 1 => (T.stepF (T.F n).1 (T.F n).2, T.stepB (T.F n).1 (T.F n).2)

/-- What a function, a piece comes to at last. -/
noncomputable def lim {A : Type} (g : Nat → Option A) : Option A := by
  classical exact if h : ∃ y, Evt fun n => g n = some y then some h.choose else none

theorem lim_some {A : Type} {g : Nat → Option A} {y : A} (h : lim g = some y) : Evt fun n => g n = some y := by
  unfold lim at h
  split at h
  · rename_i hh; cases h; exact hh.choose_spec
  · cases h

theorem lim_of {A : Type} {g : Nat → Option A} {y : A} (h : Evt fun n => g n = some y) : lim g = some y := by
  have hh : ∃ y, Evt fun n => g n = some y := ⟨y, h⟩
  unfold lim
  rw [dif_pos hh]
  obtain ⟨N, h⟩ := h
  obtain ⟨M, k⟩ := hh.choose_spec
  have h1 : g (max N M) = some y := h (max N M) (by omega)
  have h2 : g (max N M) = some hh.choose := k (max N M) (by omega)
  rw [← h1, ← h2]

noncomputable def Tbl.rf (T : Tbl) : T.RF := fun f d => lim fun n => (T.F n).1 f d
noncomputable def Tbl.rb (T : Tbl) : T.RB := fun κ d => lim fun n => (T.F n).2 κ d

theorem Tbl.nearF (T : Tbl) : NearF T.rf fun n => (T.F n).1 := fun f d y h => lim_some h
theorem Tbl.nearB (T : Tbl) : NearB T.rb fun n => (T.F n).2 := fun κ d y h => lim_some h

theorem Evt.shift {A : Type} {g : Nat → Option A} {y : A} (h : Evt fun n => g (n + 1) = some y) : Evt fun n => g n = some y := by
  obtain ⟨N, h⟩ := h
  refine ⟨N + 1, fun n hn => ?_⟩
  have : g (n - 1 + 1) = some y := h (n - 1) (by omega)
  rw [show n - 1 + 1 = n by omega] at this
  exact this

/-- A function is what its code says. -/
theorem Tbl.rf_of (T : Tbl) {f : Nat} {d : (prods (shCts (T.fins f))).denote} {y : (prods (shCts (T.fouts f ++ refs (T.fins f)))).denote} (h : T.stepF T.rf T.rb f d = some y) : T.rf f d = some y := by
  refine lim_of (Evt.shift ?_)
  show Evt fun n => T.stepF (T.F n).1 (T.F n).2 f d = some y
  unfold Tbl.stepF at h ⊢
  cases hf : T.fn f with
  | none => simp only [hf] at h ⊢; exact Evt.all fun n => h
  | some fn =>
    simp only [hf] at h ⊢
    cases hc : fn.body with
    | none => rw [hc] at h; cases h
    | some c => simp only [hc] at h ⊢; exact evFn_lim T.nearF T.nearB h

theorem Tbl.rb_of (T : Tbl) {κ : Nat} {d : (prods (shCts (T.bk κ).ins)).denote} {y : (exitsT (T.bk κ).exits).denote} (h : T.stepB T.rf T.rb κ d = some y) : T.rb κ d = some y := by
  refine lim_of (Evt.shift ?_)
  show Evt fun n => T.stepB (T.F n).1 (T.F n).2 κ d = some y
  unfold Tbl.stepB at h ⊢
  cases hc : T.codeAt κ with
  | none => rw [hc] at h; cases h
  | some p => simp only [hc] at h ⊢; exact evBlk_lim T.nearF T.nearB h

def isAt : Option (Nat × List Bool) → Nat → List Bool → Bool
  | some (g, q), f, p => Nat.beq g f && (q == p)
  | none, _, _ => false

/-- The pieces lie where they are said to lie. -/
def hintsB (T : Tbl) (f : Nat) : (p : List Bool) → Code → Bool
  | p, .seq a b => hintsB T f (p ++ [false]) a && (match (firstRegion b).bind (T.tk f) with
    | some κ => isAt (T.place κ) f (p ++ [true])
    | none => hintsB T f (p ++ [true]) b)
  | p, .block id c => match T.lk f id with
    | some κ => isAt (T.place κ) f p
    | none => hintsB T f (p ++ [false]) c
  | p, .cond _ a b => hintsB T f (p ++ [false]) a && hintsB T f (p ++ [true]) b
  | p, .loop c => hintsB T f (p ++ [false]) c
  | _, _ => true

def fnB (T : Tbl) (f : Nat) (fn : Func) (c : Code) : Bool :=
  Nat.ble (T.fins f).length fn.ntmps && (Bound (ptrSlots 0 (T.fins f)) fn.ntmps c && hintsB T f [] c)

def blkB (T : Tbl) (f : Nat) (fn : Func) (p : List Bool) (c : Code) : Bool :=
  match bcode c with
  | .loop _ b => Bound [] fn.ntmps b && hintsB T f (p ++ [false, false]) b
  | .tail c => Bound [] fn.ntmps c && hintsB T f p c

/-- What is to be shown of a table. -/
structure Tbl.Ok (P : Program) (T : Tbl) : Prop where
  tab : TabOk P T.tab
  eqt : ∀ t, T.eqt t = true → EqOk P t
  fn : ∀ f fn, T.fn f = some fn → P.funcs[f]? = some fn ∧ (fn.name == "runtime.NumGoroutine") = false ∧ ∃ c, fn.body = some c ∧ fnB T f fn c = true
  blk : ∀ κ f p fn c c', T.place κ = some (f, p) → T.fn f = some fn → fn.body = some c → Bm.cut p c = some c' → blkB T f fn p c' = true
  ext : ∀ f d y, T.fn f = none → T.xf f d = some y → (∃ fn : Func, P.funcs[f]? = some fn ∧ (fn.name == "runtime.NumGoroutine") = false ∧ fn.body.isNone = false) ∧
    ∀ (w : World) (Φ : Nat → Prop) (vs : List Value) (bs : List Nat), ShVs w Φ vs (T.fins f) d vs bs → bs.Nodup → (∀ b, b ∈ bs → ¬ Φ b ∧ b < w.heap.size) → (∀ b, Φ b → b < w.heap.size) →
      Calls P f vs.toArray w fun e w' => ∃ Φ' rs bs', e = .returned (retVal rs) ∧ rs.length = (T.fouts f).length ∧
        ShVs w' Φ' (rs ++ ptrVals (T.fins f) vs) (T.fouts f ++ refs (T.fins f)) y (rs ++ ptrVals (T.fins f) vs) bs' ∧ Post w Φ bs w' Φ' bs'

theorem cut_app : ∀ (p q : List Bool) (c : Code), Bm.cut (p ++ q) c = (Bm.cut p c).bind (Bm.cut q)
  | [], q, c => rfl
  | b :: p, q, c => by
    cases c <;> first | rfl | (cases b <;> exact cut_app p q _) | exact cut_app p q _

section
variable {P : Program} {T : Tbl} (hT : T.Ok P)

/-- What is kept from step to step. -/
structure Tbl.At (P : Program) (T : Tbl) (n : Nat) : Prop where
  all : AllOk P (T.cx (T.F n).1 (T.F n).2)
  blk : ∀ κ f p fn c c', T.place κ = some (f, p) → T.fn f = some fn → fn.body = some c → Bm.cut p c = some c' → match bcode c' with
    | .loop id b => RunOk (T.cx (T.F n).1 (T.F n).2) fn.ntmps κ c' fun Q a w => Code.rounds P b (Exit.inBlock id Q) n a w
    | .tail c => BlkOk P (T.cx (T.F n).1 (T.F n).2) fn.ntmps κ c'

theorem bcode_loop {c b : Code} {id : Nat} (h : bcode c = .loop id b) : c = .block id (.loop b) := by
  unfold bcode at h
  split at h
  · cases h; rfl
  · cases h
theorem bcode_tail {c b : Code} (h : bcode c = .tail b) : c = b := by
  unfold bcode at h
  split at h
  · cases h
  · cases h; rfl

theorem Tbl.At.blkOk {n : Nat} (h : T.At P n) {κ f : Nat} {p : List Bool} {fn : Func} {c c' : Code} (h1 : T.place κ = some (f, p)) (h2 : T.fn f = some fn) (h3 : fn.body = some c) (h4 : Bm.cut p c = some c') :
    BlkOk P (T.cx (T.F n).1 (T.F n).2) fn.ntmps κ c' := by
  have := h.blk κ f p fn c c' h1 h2 h3 h4
  cases hb : bcode c' with
  | tail b => rw [hb] at this; exact this
  | loop id b =>
    rw [hb] at this
    have e := bcode_loop hb
    intro d y hy w Φ a bs fix k1 k2 k3 k4 k5 k6 k7 k8
    have g := this d y hy w Φ a bs fix k1 k2 k3 k4 k5 k6 k7 k8
    rw [e]
    exact wp_block (wp_loop_rounds n g)

theorem isAt_spec {o : Option (Nat × List Bool)} {f : Nat} {p : List Bool} (h : isAt o f p = true) : o = some (f, p) := by
  cases o with
  | none => cases h
  | some x =>
    obtain ⟨g, q⟩ := x
    simp only [isAt, Bool.and_eq_true] at h
    rw [Nat.eq_of_beq_eq_true h.1, eq_of_beq h.2]

theorem hints_of {n : Nat} (h : T.At P n) {f : Nat} {fn : Func} {c0 : Code} (h2 : T.fn f = some fn) (h3 : fn.body = some c0) : ∀ (c : Code) (p : List Bool), Bm.cut p c0 = some c → hintsB T f p c = true →
    Hints P (T.cx (T.F n).1 (T.F n).2) fn.ntmps (T.lk f) (T.tk f) c
  | .seq a b, p, hs, hb => by
    simp only [hintsB, Bool.and_eq_true] at hb
    have sa : Bm.cut (p ++ [false]) c0 = some a := by rw [cut_app, hs]; rfl
    have sb : Bm.cut (p ++ [true]) c0 = some b := by rw [cut_app, hs]; rfl
    refine ⟨hints_of h h2 h3 a _ sa hb.1, ?_⟩
    have hb2 := hb.2
    split
    · rename_i κ hκ
      rw [hκ] at hb2
      exact h.blkOk (isAt_spec hb2) h2 h3 sb
    · rename_i hκ
      rw [hκ] at hb2
      exact hints_of h h2 h3 b _ sb hb2
  | .block id c, p, hs, hb => by
    simp only [hintsB] at hb
    simp only [Hints]
    split
    · rename_i κ hκ
      rw [hκ] at hb
      exact h.blkOk (isAt_spec hb) h2 h3 hs
    · rename_i hκ
      rw [hκ] at hb
      exact hints_of h h2 h3 c _ (by rw [cut_app, hs]; rfl) hb
  | .cond _ a b, p, hs, hb => by
    simp only [hintsB, Bool.and_eq_true] at hb
    exact ⟨hints_of h h2 h3 a _ (by rw [cut_app, hs]; rfl) hb.1, hints_of h h2 h3 b _ (by rw [cut_app, hs]; rfl) hb.2⟩
  | .loop c, p, hs, hb => hints_of h h2 h3 c _ (by rw [cut_app, hs]; rfl) hb
  | .skip, _, _, _ => trivial
  | .region _ _ _, _, _, _ => trivial
  | .exit _, _, _, _ => trivial
  | .ret, _, _, _ => trivial
  | .rangeFunc _ _ _ _, _, _, _ => trivial
  | .scope _, _, _, _ => trivial
  | .label _, _, _, _ => trivial
  | .goto _, _, _, _ => trivial
  | .refuse _, _, _, _ => trivial

theorem codeAt_spec {κ f : Nat} {c : Code} (h : T.codeAt κ = some (f, c)) : ∃ p fn c0, T.place κ = some (f, p) ∧ T.fn f = some fn ∧ fn.body = some c0 ∧ Bm.cut p c0 = some c := by
  unfold Tbl.codeAt at h
  split at h
  case h_2 => cases h
  rename_i g p h1
  split at h
  case h_2 => cases h
  rename_i fn h2
  split at h
  case h_2 => cases h
  rename_i c0 h3
  split at h
  case h_2 => cases h
  rename_i c' h4
  cases h
  exact ⟨p, fn, c0, h1, h2, h3, h4⟩

include hT in
theorem Tbl.at : ∀ n, T.At P n
  | 0 => ⟨⟨⟨hT.tab, hT.eqt⟩, fun f d y h => (by cases h), fun f d y h => (by cases h)⟩, fun κ f p fn c c' _ _ _ _ => by
      cases bcode c' with
      | tail b => intro d y h; cases h
      | loop id b => intro d y h; cases h⟩
  | n + 1 => by
    have ih := Tbl.at n
    have hokn : AllOk P (T.cx (T.F n).1 (T.F n).2) := ih.all
    refine ⟨⟨⟨hT.tab, hT.eqt⟩, fun f d y h => ?_, fun f d y h => ?_⟩, fun κ f p fn c c' h1 h2 h3 h4 => ?_⟩
    · change T.stepF (T.F n).1 (T.F n).2 f d = some y at h
      unfold Tbl.stepF at h
      cases hf : T.fn f with
      | none => rw [hf] at h; exact (hT.ext f d y hf h).2
      | some fn =>
        obtain ⟨k1, k2, c, k3, k4⟩ := hT.fn f fn hf
        simp only [hf, k3] at h
        simp only [fnB, Bool.and_eq_true] at k4
        exact fn_sound hokn k1 k3 (Nat.le_of_ble_eq_true k4.1) k4.2.1 (hints_of ih hf k3 c [] rfl k4.2.2) d y h
    · change T.stepF (T.F n).1 (T.F n).2 f d = some y at h
      unfold Tbl.stepF at h
      cases hf : T.fn f with
      | none => rw [hf] at h; exact (hT.ext f d y hf h).1
      | some fn =>
        obtain ⟨k1, k2, c, k3, k4⟩ := hT.fn f fn hf
        exact ⟨fn, k1, k2, by rw [k3]; rfl⟩
    · have hB := hT.blk κ f p fn c c' h1 h2 h3 h4
      have hca : T.codeAt κ = some (f, c') := by simp only [Tbl.codeAt, h1, h2, h3, h4]
      unfold blkB at hB
      cases hb : bcode c' with
      | tail b =>
        rw [hb] at hB
        simp only [Bool.and_eq_true] at hB
        have e := bcode_tail hb
        subst e
        intro d y hy w Φ a bs fix k1 k2 k3 k4 k5 k6 k7 k8
        change T.stepB (T.F n).1 (T.F n).2 κ d = some y at hy
        simp only [Tbl.stepB, hca, hb] at hy
        exact tail_sound hokn hB.1 (hints_of ih h2 h3 c' p h4 hB.2) hy k1 k2 k3 k4 k5 k6 k7 k8
      | loop id b =>
        rw [hb] at hB
        simp only [Bool.and_eq_true] at hB
        have e := bcode_loop hb
        intro d y hy w Φ a bs fix k1 k2 k3 k4 k5 k6 k7 k8
        change T.stepB (T.F n).1 (T.F n).2 κ d = some y at hy
        simp only [Tbl.stepB, hca, hb] at hy
        have ihl := ih.blk κ f p fn c c' h1 h2 h3 h4
        rw [hb] at ihl
        have k1' : ∀ t v, fix t = some v → Bound [t] fn.ntmps b = true := fun t v hv => by have := k1 t v hv; rw [e] at this; exact this
        refine loop_sound hokn hB.1 (hints_of ih h2 h3 b (p ++ [false, false]) (by rw [cut_app, h4, e]; rfl) hB.2) (fun d' y' hy' w' Φ' a' bs' fix' g1 => ihl d' y' hy' w' Φ' a' bs' fix' (fun t v hv => by rw [e]; exact g1 t v hv)) hy k1' k2 k3 k4 k5 k6 k7 k8

include hT in
/-- **What a function comes to, it does.** -/
theorem Tbl.sound {f : Nat} {d : (prods (shCts (T.fins f))).denote} {y : (prods (shCts (T.fouts f ++ refs (T.fins f)))).denote} (h : T.rf f d = some y)
    {w : World} {Φ : Nat → Prop} {vs : List Value} {bs : List Nat} (h1 : ShVs w Φ vs (T.fins f) d vs bs) (h2 : bs.Nodup) (h3 : ∀ b, b ∈ bs → ¬ Φ b ∧ b < w.heap.size) (h4 : ∀ b, Φ b → b < w.heap.size) :
    Calls P f vs.toArray w fun e w' => ∃ Φ' rs bs', e = .returned (retVal rs) ∧ rs.length = (T.fouts f).length ∧
      ShVs w' Φ' (rs ++ ptrVals (T.fins f) vs) (T.fouts f ++ refs (T.fins f)) y (rs ++ ptrVals (T.fins f) vs) bs' ∧ Post w Φ bs w' Φ' bs' := by
  obtain ⟨N, hN⟩ := lim_some h
  exact (Tbl.at hT N).all.fn f d y (hN N (Nat.le_refl _)) w Φ vs bs h1 h2 h3 h4

end
end Go.Bm
