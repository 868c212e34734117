import Derived.Test.YtlobhcgbmpcdlaaGreatDoorBmX2
import Derived.Test.YtlobhcgbmpcdlaaGreatDoorBmFn
open Bool (and_eq_true)
namespace Go.Bm
set_option linter.unusedVariables false
set_option linter.unusedSimpArgs false
def cut : List Bool → Code → Option Code
 | [], c => some c
 | b :: p, .seq x y => match b with
   | true => Bm.cut p y
   | false => Bm.cut p x
 | b :: p, .cond _ x y => match b with
   | true => Bm.cut p y
   | false => Bm.cut p x
 | _ :: p, .block _ c => Bm.cut p c
 | _ :: p, .loop c => Bm.cut p c
 | _, _ => none
def bcode : Code → BCode
 | .block id (.loop c) => .loop id c
 | c => .tail c
structure Tbl extends Tb where
 lk : Nat → Nat → Option Nat
 tk : Nat → Nat → Option Nat
 dk : Nat → Nat → Option (List Nat × OrdT)
 al : Nat → Option Nat
 fnum : Nat → Nat
 fn : Nat → Option Func
 place : Nat → Option (Nat × List Bool)
 xf : toTb.RF
def Tbl.hn (T : Tbl) (φ : Nat) : Hn := ⟨T.lk φ, T.tk φ, T.dk φ, T.al⟩
noncomputable def Tbl.stepF (T : Tbl) (rf : T.RF) (rb : T.RB) : T.RF := fun f d => match T.fn f with
 | some fn => match fn.body with
   | some c => evFn (T.cx rf rb) (T.hn f) f c fn.results.toList d
   | none => none
 | none => T.xf f d
def Tbl.codeAt (T : Tbl) (κ : Nat) : Option (Nat × Code) := match T.place κ with
 | some (f, p) => match T.fn f with
   | some fn => match fn.body with
     | some c => match Bm.cut p c with
       | some c' => some (f, c')
       | none => none
     | none => none
   | none => none
 | none => none
noncomputable def Tbl.stepB (T : Tbl) (rf : T.RF) (rb : T.RB) : T.RB := fun κ d => match T.codeAt κ with
 | some (f, c) => evBlk (T.cx rf rb) (T.hn f) κ (bcode c) d
 | none => none
noncomputable def Tbl.F (T : Tbl) : Nat → T.RF × T.RB
 | 0 => (fun _ _ => none, fun _ _ => none)
 | n + 1 => (T.stepF (T.F n).1 (T.F n).2, T.stepB (T.F n).1 (T.F n).2)
noncomputable def lim {A : Type} (g : Nat → Option A) : Option A := by
 classical exact if h : ∃ y, Evt fun n => g n = some y then some h.choose else none
theorem lim_some {A : Type} {g : Nat → Option A} {y : A} (h : lim g = some y) : Evt fun n => g n = some y := by
 unfold lim at h
 split at h
 · rename_i hh; cases h; exact hh.choose_spec
 · cases h
theorem lim_of {A : Type} {g : Nat → Option A} {y : A} (h : Evt fun n => g n = some y) : lim g = some y := by
 have hh : ∃ y, Evt fun n => g n = some y := ⟨y, h⟩
 unfold lim
 rw [dif_pos hh]
 obtain ⟨N, h⟩ := h
 obtain ⟨M, k⟩ := hh.choose_spec
 have h1 : g (max N M) = some y := h (max N M) (by omega)
 have h2 : g (max N M) = some hh.choose := k (max N M) (by omega)
 rw [← h1, ← h2]
noncomputable def Tbl.rf (T : Tbl) : T.RF := fun f d => lim fun n => (T.F n).1 f d
noncomputable def Tbl.rb (T : Tbl) : T.RB := fun κ d => lim fun n => (T.F n).2 κ d
theorem Tbl.nearF (T : Tbl) : NearF T.rf fun n => (T.F n).1 := fun f d y h => lim_some h
theorem Tbl.nearB (T : Tbl) : NearB T.rb fun n => (T.F n).2 := fun κ d y h => lim_some h
theorem Evt.shift {A : Type} {g : Nat → Option A} {y : A} (h : Evt fun n => g (n + 1) = some y) : Evt fun n => g n = some y := by
 obtain ⟨N, h⟩ := h
 refine ⟨N + 1, fun n hn => ?_⟩
 have : g (n - 1 + 1) = some y := h (n - 1) (by omega)
 rw [show n - 1 + 1 = n by omega] at this
 exact this
theorem Tbl.rf_of (T : Tbl) {f : Nat} {d : (T.kin f).ct.denote} {y : (outsT (T.kouts f)).denote} (h : T.stepF T.rf T.rb f d = some y) : T.rf f d = some y := by
 refine lim_of (Evt.shift ?_)
 show Evt fun n => T.stepF (T.F n).1 (T.F n).2 f d = some y
 unfold Tbl.stepF at h ⊢
 cases hf : T.fn f with
 | none => simp only [hf] at h ⊢; exact Evt.all fun n => h
 | some fn =>
   simp only [hf] at h ⊢
   cases hc : fn.body with
   | none => rw [hc] at h; cases h
   | some c => simp only [hc] at h ⊢; exact evFn_lim T.nearF T.nearB h
theorem Tbl.rb_of (T : Tbl) {κ : Nat} {d : (T.bk κ).ins.ct.denote} {y : (exitsT (T.bk κ).exits).denote} (h : T.stepB T.rf T.rb κ d = some y) : T.rb κ d = some y := by
 refine lim_of (Evt.shift ?_)
 show Evt fun n => T.stepB (T.F n).1 (T.F n).2 κ d = some y
 unfold Tbl.stepB at h ⊢
 cases hc : T.codeAt κ with
 | none => rw [hc] at h; cases h
 | some p => simp only [hc] at h ⊢; exact evBlk_lim T.nearF T.nearB h
def isAt : Option (Nat × List Bool) → Nat → List Bool → Bool
 | some (g, q), f, p => Nat.beq g f && (q == p)
 | none, _, _ => false
def depsM (ops : Array Oper) : List (List Nat) := ops.toList.map fun o => (o.after.toList.filter fun e => Region.binds .any e).map (·.on)
def blksM (ops : Array Oper) : List (List Nat) := (List.range ops.size).map fun i => match ops[i]? with
 | some oi => (List.range ops.size).filter fun j => !(j == i || (match ops[j]? with
    | some oj => oj.after.any (fun e => Region.binds .any e && e.on == i) || oi.apart ops oj
    | none => true))
 | none => []
def allM (m : Nat) (o : Option (List Nat)) : Bool := match o with
 | some l => l.all fun j => m.testBit j
 | none => false
def rdyM (D : List (List Nat)) (m i : Nat) : Bool := !m.testBit i && allM m (nth D i)
def rdysM (D : List (List Nat)) (n m : Nat) : List Nat := (List.range n).filter fun i => rdyM D m i
def ordM (N : Nat) (D B : List (List Nat)) : Bool → Nat → Nat → OrdT → Bool
 | m, _, l, .done => m && (rdysM D N l).isEmpty
 | m, n + 1, l, .take i t => m && (allM l (nth B i) && (rdyM D l i && ordM N D B true n (l ||| 2 ^ i) t))
 | m, n + 1, l, .only i t => Nat.blt i N && ((!m || (rdyM D l i && (rdysM D N l).all fun j => Nat.beq j i)) && ordM N D B true n (l ||| 2 ^ i) t)
 | m, n + 1, l, .alt i t r => Nat.blt i N && ((!m || (rdyM D l i && (rdysM D N l).all fun j => has (heads (.alt i t r)) j)) && (ordM N D B true n (l ||| 2 ^ i) t && ordM N D B false (n + 1) l r))
 | _, 0, _, _ => false
structure BitsM (n : Nat) (listed : Array Bool) (m : Nat) : Prop where
 size : listed.size = n
 t : ∀ i, listed.getD i true = (m.testBit i || decide (n ≤ i))
 f : ∀ i, listed.getD i false = m.testBit i
theorem BitsM.zero (n : Nat) : BitsM n (Array.replicate n false) 0 :=
 ⟨by simp, fun i => by by_cases h : i < n <;> simp [Array.getD, h] <;> omega, fun i => by by_cases h : i < n <;> simp [Array.getD, h]⟩
theorem BitsM.set {n : Nat} {listed : Array Bool} {m : Nat} (h : BitsM n listed m) {i : Nat} (hi : i < n) : BitsM n (listed.setIfInBounds i true) (m ||| 2 ^ i) := by
 have hs := h.size
 refine ⟨by simp [hs], fun j => ?_, fun j => ?_⟩
 · have ht := h.t j
   rw [Nat.testBit_or, Nat.testBit_two_pow]
   by_cases hj : i = j
   · subst hj
     simp [Array.getD, hs, hi]
   · rw [decide_eq_false hj, Bool.or_false, ← ht]
     by_cases hjn : j < n <;> simp [Array.getD, hs, hjn, Array.getElem_setIfInBounds, hj]
 · have hf := h.f j
   rw [Nat.testBit_or, Nat.testBit_two_pow]
   by_cases hj : i = j
   · subst hj
     simp [Array.getD, hs, hi]
   · rw [decide_eq_false hj, Bool.or_false, ← hf]
     by_cases hjn : j < n <;> simp [Array.getD, hs, hjn, Array.getElem_setIfInBounds, hj]
theorem nth_depsM (ops : Array Oper) (i : Nat) : nth (depsM ops) i = (ops[i]?).map fun o => (o.after.toList.filter fun e => Region.binds .any e).map (·.on) := by
 rw [nth_getElem?, depsM, List.getElem?_map, Array.getElem?_toList]
theorem rdyM_eq {ops : Array Oper} {listed : Array Bool} {m : Nat} (h : BitsM ops.size listed m) {i : Nat} (hi : i < ops.size) :
  (!listed.getD i true && ((ops[i]?).map (·.after.all fun e => !Region.binds .any e || listed.getD e.on false)).getD false) = rdyM (depsM ops) m i := by
 unfold rdyM
 rw [h.t i, decide_eq_false (by omega), Bool.or_false, nth_depsM]
 congr 1
 cases ho : ops[i]? with
 | none => rfl
 | some o =>
   simp only [Option.map_some, Option.getD_some, allM]
   rw [← Array.all_toList, List.all_map, List.all_filter]
   apply List.all_congr rfl
   intro e
   simp only [Function.comp, h.f]
theorem readyM_eq {ops : Array Oper} {listed : Array Bool} {m : Nat} (h : BitsM ops.size listed m) : Region.ready .any ops listed = rdysM (depsM ops) ops.size m := by
 unfold Region.ready rdysM
 apply List.filter_congr
 intro i hi
 exact rdyM_eq h (List.mem_range.1 hi)
theorem rdyM_lt {ops : Array Oper} {m i : Nat} (h : rdyM (depsM ops) m i = true) : i < ops.size := by
 unfold rdyM at h
 rw [and_eq_true, nth_depsM] at h
 cases ho : ops[i]? with
 | none => rw [ho] at h; exact absurd (show false = true from h.2) (by decide)
 | some o => exact (Array.getElem?_eq_some_iff.1 ho).1
theorem rdyM_mem {ops : Array Oper} {m i : Nat} (h : rdyM (depsM ops) m i = true) : (rdysM (depsM ops) ops.size m).contains i = true := by
 rw [List.contains_iff_mem]
 exact List.mem_filter.2 ⟨List.mem_range.2 (rdyM_lt h), h⟩
theorem freeM {ops : Array Oper} {listed : Array Bool} {m i : Nat} (h : BitsM ops.size listed m) (hi : i < ops.size) (hb : allM m (nth (blksM ops) i) = true) : Region.free .any ops listed i = true := by
 have hn : nth (blksM ops) i = some (match ops[i]? with
   | some oi => (List.range ops.size).filter fun j => !(j == i || (match ops[j]? with
      | some oj => oj.after.any (fun e => Region.binds .any e && e.on == i) || oi.apart ops oj
      | none => true))
   | none => []) := by
  rw [nth_getElem?, blksM, List.getElem?_map, List.getElem?_range hi]; rfl
 rw [hn] at hb
 have ho : ops[i]? = some ops[i] := Array.getElem?_eq_getElem hi
 unfold Region.free
 rw [ho] at hb ⊢
 simp only [allM, List.all_eq_true] at hb
 simp only [List.all_eq_true]
 intro j hj
 cases hx : (j == i || listed.getD j true || match ops[j]? with
  | some oj => oj.after.any (fun e => Region.binds .any e && e.on == i) || ops[i].apart ops oj
  | none => true) with
 | true => rfl
 | false =>
   simp only [Bool.or_eq_false_iff] at hx
   have h2 := hb j (List.mem_filter.2 ⟨hj, by
    simp only [Bool.not_eq_true', Bool.or_eq_false_iff]
    exact ⟨hx.1.1, hx.2⟩⟩)
   rw [h.t j, h2, Bool.true_or] at hx
   exact absurd hx.1.2 (by decide)
theorem ordM_ordB {ops : Array Oper} : ∀ (t : OrdT) (b : Bool) (n : Nat) (listed : Array Bool) (m : Nat), BitsM ops.size listed m → ordM ops.size (depsM ops) (blksM ops) b n m t = true → ordB ops b n listed t = true
 | .done, b, n, listed, m, h, ho => by
   cases n <;> (simp only [ordM, ordB, readyM_eq h] at ho ⊢; exact ho)
 | .take i t, b, 0, listed, m, h, ho => by simp [ordM] at ho
 | .only i t, b, 0, listed, m, h, ho => by simp [ordM] at ho
 | .alt i t r, b, 0, listed, m, h, ho => by simp [ordM] at ho
 | .take i t, b, n + 1, listed, m, h, ho => by
   simp only [ordM, and_eq_true] at ho
   have hi := rdyM_lt ho.2.2.1
   simp only [ordB, and_eq_true]
   exact ⟨ho.1, freeM h hi ho.2.1, by rw [readyM_eq h]; exact rdyM_mem ho.2.2.1, ordM_ordB t true n _ _ (h.set hi) ho.2.2.2⟩
 | .only i t, b, n + 1, listed, m, h, ho => by
   simp only [ordM, and_eq_true, Bool.or_eq_true] at ho
   simp only [ordB, and_eq_true, Bool.or_eq_true, readyM_eq h]
   have hi : i < ops.size := by have := ho.1; rw [Nat.blt_eq] at this; exact this
   exact ⟨ho.2.1.imp id fun g => ⟨rdyM_mem g.1, g.2⟩, ordM_ordB t true n _ _ (h.set hi) ho.2.2⟩
 | .alt i t r, b, n + 1, listed, m, h, ho => by
   simp only [ordM, and_eq_true, Bool.or_eq_true] at ho
   simp only [ordB, and_eq_true, Bool.or_eq_true, readyM_eq h]
   have hi : i < ops.size := by have := ho.1; rw [Nat.blt_eq] at this; exact this
   exact ⟨ho.2.1.imp id fun g => ⟨rdyM_mem g.1, g.2⟩, ordM_ordB t true n _ _ (h.set hi) ho.2.2.1, ordM_ordB r false (n + 1) _ _ h ho.2.2.2⟩
def hintsB (T : Tbl) (f n : Nat) : (p : List Bool) → Code → Bool
 | p, .seq a b => hintsB T f n (p ++ [false]) a && (match (firstRegion b).bind (T.tk f) with
   | some κ => isAt (T.place κ) f (p ++ [true]) && ((T.bk κ).keep.all fun t => Bound [t] n b)
   | none => hintsB T f n (p ++ [true]) b)
 | p, .block id c => match T.lk f id with
   | some κ => isAt (T.place κ) f p && ((T.bk κ).keep.all fun t => Bound [t] n c)
   | none => hintsB T f n (p ++ [false]) c
 | _, .region id ops true => match T.dk f id with
   | some (_, t) => Region.noSelect ops && ordM ops.size (depsM ops) (blksM ops) true ops.size 0 t
   | none => true
 | p, .cond _ a b => hintsB T f n (p ++ [false]) a && hintsB T f n (p ++ [true]) b
 | p, .loop c => hintsB T f n (p ++ [false]) c
 | _, _ => true
def fnB (T : Tbl) (f : Nat) (fn : Func) (c : Code) : Bool :=
 Nat.ble (T.kin f).slots.length fn.ntmps && (Bound [] fn.ntmps c && hintsB T f fn.ntmps [] c)
def blkB (T : Tbl) (κ f : Nat) (fn : Func) (p : List Bool) (c : Code) : Bool :=
 match bcode c with
 | .loop _ b => Bound [] fn.ntmps b && (hintsB T f fn.ntmps (p ++ [false, false]) b && (match T.al κ with
   | some κ2 => isAt (T.place κ2) f p && (T.bk κ2).keep.all fun t => Bound [t] fn.ntmps b
   | none => true))
 | .tail c => Bound [] fn.ntmps c && hintsB T f fn.ntmps p c
structure Tbl.Ok (P : Program) (T : Tbl) : Prop where
 tab : TabOk P T.tab
 eqt : ∀ t fs zs, T.eqt t = true → T.tab t = some (.struct fs zs) → EqOk P t zs
 mt : ∀ t name f how, T.mt t name = some (f, how) → MethOk P t name f how
 mixed : P.follows .mixedOrders = true
 gpm : GpMono T.gp
 gvo : ∀ w Φ, T.gp w Φ → GvR T.gv w Φ
 keys : ∀ f φ, φ ∈ T.keys f → T.fnum φ = f
 fn : ∀ φ fn, T.fn φ = some fn → P.funcs[T.fnum φ]? = some fn ∧ (fn.name == "runtime.NumGoroutine") = false ∧ ∃ c, fn.body = some c ∧ fnB T φ fn c = true
 blk : ∀ κ f p fn c c', T.place κ = some (f, p) → T.fn f = some fn → fn.body = some c → Bm.cut p c = some c' → blkB T κ f fn p c' = true
 ext : ∀ φ d y, T.fn φ = none → T.xf φ d = some y → (∃ fn : Func, P.funcs[T.fnum φ]? = some fn ∧ (fn.name == "runtime.NumGoroutine") = false ∧ fn.body.isNone = false) ∧
  ∀ (w : World) (Φ : Nat → Prop) (vs : List Value) (γ : Loc), T.gp w Φ → InstR w Φ (T.kin φ) (fromD (T.kin φ).cts d) vs γ →
   Calls P (T.fnum φ) vs.toArray w fun e w' => ∃ Φ' γ' rs, e = .returned (retVal rs) ∧ OutR (fun T' ds' => InstR w' Φ' T' ds' rs γ' ∧ PostR w Φ γ (T.kin φ) (fromD (T.kin φ).cts d) w' Φ' γ' T' ds') (T.kouts φ) y
theorem cut_app : ∀ (p q : List Bool) (c : Code), Bm.cut (p ++ q) c = (Bm.cut p c).bind (Bm.cut q)
 | [], q, c => rfl
 | b :: p, q, c => by
   cases c <;> first | rfl | (cases b <;> exact cut_app p q _) | exact cut_app p q _
section
variable {P : Program} {T : Tbl} (hT : T.Ok P)
structure Tbl.At (P : Program) (T : Tbl) (n : Nat) : Prop where
 all : AllOk P (T.cx (T.F n).1 (T.F n).2)
 blk : ∀ κ f p fn c c', T.place κ = some (f, p) → T.fn f = some fn → fn.body = some c → Bm.cut p c = some c' → match bcode c' with
  | .loop id b => RunOk (T.cx (T.F n).1 (T.F n).2) fn.ntmps κ c' fun Q a w => Code.rounds P b (Exit.inBlock id Q) n a w
  | .tail c => BlkOk P (T.cx (T.F n).1 (T.F n).2) fn.ntmps κ c'
theorem bcode_loop {c b : Code} {id : Nat} (h : bcode c = .loop id b) : c = .block id (.loop b) := by
 unfold bcode at h
 split at h
 · cases h; rfl
 · cases h
theorem bcode_tail {c b : Code} (h : bcode c = .tail b) : c = b := by
 unfold bcode at h
 split at h
 · cases h
 · cases h; rfl
theorem Tbl.At.blkOk {n : Nat} (h : T.At P n) {κ f : Nat} {p : List Bool} {fn : Func} {c c' : Code} (h1 : T.place κ = some (f, p)) (h2 : T.fn f = some fn) (h3 : fn.body = some c) (h4 : Bm.cut p c = some c') :
  BlkOk P (T.cx (T.F n).1 (T.F n).2) fn.ntmps κ c' := by
 have := h.blk κ f p fn c c' h1 h2 h3 h4
 cases hb : bcode c' with
 | tail b => rw [hb] at this; exact this
 | loop id b =>
   rw [hb] at this
   have e := bcode_loop hb
   intro d y hy w Φ a bs fix k1 k2 k3 k4 k5 k6
   have g := this d y hy w Φ a bs fix k1 k2 k3 k4 k5 k6
   rw [e]
   exact wp_block (wp_loop_rounds n g)
theorem isAt_spec {o : Option (Nat × List Bool)} {f : Nat} {p : List Bool} (h : isAt o f p = true) : o = some (f, p) := by
 cases o with
 | none => cases h
 | some x =>
   obtain ⟨g, q⟩ := x
   simp only [isAt, and_eq_true] at h
   rw [Nat.eq_of_beq_eq_true h.1, eq_of_beq h.2]
theorem hints_of {n : Nat} (h : T.At P n) {f : Nat} {fn : Func} {c0 : Code} (h2 : T.fn f = some fn) (h3 : fn.body = some c0) : ∀ (c : Code) (p : List Bool), Bm.cut p c0 = some c → hintsB T f fn.ntmps p c = true →
  Hints P (T.cx (T.F n).1 (T.F n).2) fn.ntmps (T.hn f) c
 | .seq a b, p, hs, hb => by
   simp only [hintsB, and_eq_true] at hb
   have sa : Bm.cut (p ++ [false]) c0 = some a := by rw [cut_app, hs]; rfl
   have sb : Bm.cut (p ++ [true]) c0 = some b := by rw [cut_app, hs]; rfl
   refine ⟨hints_of h h2 h3 a _ sa hb.1, ?_⟩
   have hb2 := hb.2
   show (match (firstRegion b).bind (T.tk f) with
    | some κ => BlkOk P (T.cx (T.F n).1 (T.F n).2) fn.ntmps κ b ∧ ∀ t ∈ (T.bk κ).keep, Bound [t] fn.ntmps b = true
    | none => Hints P (T.cx (T.F n).1 (T.F n).2) fn.ntmps (T.hn f) b)
   cases hκ : (firstRegion b).bind (T.tk f) with
   | some κ =>
     rw [hκ] at hb2
     simp only [and_eq_true] at hb2
     exact ⟨h.blkOk (isAt_spec hb2.1) h2 h3 sb, fun t ht => List.all_eq_true.1 hb2.2 t ht⟩
   | none =>
     rw [hκ] at hb2
     exact hints_of h h2 h3 b _ sb hb2
 | .block id c, p, hs, hb => by
   simp only [hintsB] at hb
   show (match T.lk f id with
    | some κ => BlkOk P (T.cx (T.F n).1 (T.F n).2) fn.ntmps κ (.block id c) ∧ ∀ t ∈ (T.bk κ).keep, Bound [t] fn.ntmps c = true
    | none => Hints P (T.cx (T.F n).1 (T.F n).2) fn.ntmps (T.hn f) c)
   cases hκ : T.lk f id with
   | some κ =>
     rw [hκ] at hb
     simp only [and_eq_true] at hb
     exact ⟨h.blkOk (isAt_spec hb.1) h2 h3 hs, fun t ht => List.all_eq_true.1 hb.2 t ht⟩
   | none =>
     rw [hκ] at hb
     exact hints_of h h2 h3 c _ (by rw [cut_app, hs]; rfl) hb
 | .cond _ a b, p, hs, hb => by
   simp only [hintsB, and_eq_true] at hb
   exact ⟨hints_of h h2 h3 a _ (by rw [cut_app, hs]; rfl) hb.1, hints_of h h2 h3 b _ (by rw [cut_app, hs]; rfl) hb.2⟩
 | .loop c, p, hs, hb => hints_of h h2 h3 c _ (by rw [cut_app, hs]; rfl) hb
 | .region id ops true, p, hs, hb => by
   simp only [hintsB] at hb
   intro slots t ht
   have ht' : T.dk f id = some (slots, t) := ht
   rw [ht'] at hb
   simp only [and_eq_true] at hb
   exact ⟨hb.1, ordM_ordB t true _ _ _ (BitsM.zero _) hb.2⟩
 | .skip, _, _, _ => trivial
 | .region _ _ false, _, _, _ => trivial
 | .exit _, _, _, _ => trivial
 | .ret, _, _, _ => trivial
 | .rangeFunc _ _ _ _, _, _, _ => trivial
 | .scope _, _, _, _ => trivial
 | .label _, _, _, _ => trivial
 | .goto _, _, _, _ => trivial
 | .refuse _, _, _, _ => trivial
include hT in
theorem Tbl.at : ∀ n, T.At P n
 | 0 => ⟨⟨⟨hT.mt, hT.tab, hT.eqt⟩, fun f φ _ d y h => (by cases h), hT.mixed, hT.gpm, hT.gvo⟩, fun κ f p fn c c' _ _ _ _ => by
    cases bcode c' with
    | tail b => intro d y h; cases h
    | loop id b => intro d y h; cases h⟩
 | n + 1 => by
   have ih := Tbl.at n
   have hokn : AllOk P (T.cx (T.F n).1 (T.F n).2) := ih.all
   refine ⟨⟨⟨hT.mt, hT.tab, hT.eqt⟩, fun f φ hφ d y h => ?_, hT.mixed, hT.gpm, hT.gvo⟩, fun κ f p fn c c' h1 h2 h3 h4 => ?_⟩
   · change T.stepF (T.F n).1 (T.F n).2 φ d = some y at h
     have hfe := hT.keys f φ hφ
     subst hfe
     unfold Tbl.stepF at h
     cases hf : T.fn φ with
     | none => rw [hf] at h; exact hT.ext φ d y hf h
     | some fn =>
       obtain ⟨k1, k2, c, k3, k4⟩ := hT.fn φ fn hf
       simp only [hf, k3] at h
       simp only [fnB, and_eq_true] at k4
       exact ⟨⟨fn, k1, k2, by rw [k3]; rfl⟩, fn_sound hokn k1 k3 (Nat.le_of_ble_eq_true k4.1) k4.2.1 (hints_of ih hf k3 c [] rfl k4.2.2) d y h⟩
   · have hB := hT.blk κ f p fn c c' h1 h2 h3 h4
     have hca : T.codeAt κ = some (f, c') := by simp only [Tbl.codeAt, h1, h2, h3, h4]
     unfold blkB at hB
     cases hb : bcode c' with
     | tail b =>
       rw [hb] at hB
       simp only [and_eq_true] at hB
       have e := bcode_tail hb
       subst e
       intro d y hy w Φ a γ fix k1 k2 k3 k4 k5 k6
       change T.stepB (T.F n).1 (T.F n).2 κ d = some y at hy
       simp only [Tbl.stepB, hca, hb] at hy
       exact tail_sound hokn hB.1 (hints_of ih h2 h3 c' p h4 hB.2) hy k1 k2 k3 k4 k5 k6
     | loop id b =>
       rw [hb] at hB
       simp only [and_eq_true] at hB
       have e := bcode_loop hb
       intro d y hy w Φ a γ fix k1 k2 k3 k4 k5 k6
       change T.stepB (T.F n).1 (T.F n).2 κ d = some y at hy
       simp only [Tbl.stepB, hca, hb] at hy
       have ihl := ih.blk κ f p fn c c' h1 h2 h3 h4
       rw [hb] at ihl
       have k1' : ∀ t v, fix t = some v → Bound [t] fn.ntmps b = true := fun t v hv => by have := k1 t v hv; rw [e] at this; exact this
       refine loop_sound hokn hB.1 (hints_of ih h2 h3 b (p ++ [false, false]) (by rw [cut_app, h4, e]; rfl) hB.2.1) (fun d' y' hy' w' Φ' a' γ' fix' g1 => ihl d' y' hy' w' Φ' a' γ' fix' (fun t v hv => by rw [e]; exact g1 t v hv)) (fun κ2 hκ2 => ?_) hy k1' k2 k3 k4 k5 k6
       have hκ2' : T.al κ = some κ2 := hκ2
       have h6 := hB.2.2
       rw [hκ2'] at h6
       simp only [and_eq_true] at h6
       have ih2 := ih.blk κ2 f p fn c c' (isAt_spec h6.1) h2 h3 h4
       rw [hb] at ih2
       exact ⟨fun d' y' hy' w' Φ' a' γ' fix' g1 => ih2 d' y' hy' w' Φ' a' γ' fix' (fun t v hv => by rw [e]; exact g1 t v hv), fun t ht => List.all_eq_true.1 h6.2 t ht⟩
include hT in
theorem Tbl.sound {φ f : Nat} {d : (T.kin φ).ct.denote} {y : (outsT (T.kouts φ)).denote} (h : T.rf φ d = some y) (hφ : φ ∈ T.keys f)
  {w : World} {Φ : Nat → Prop} {vs : List Value} {γ : Loc} (hg : T.gp w Φ) (h1 : InstR w Φ (T.kin φ) (fromD (T.kin φ).cts d) vs γ) :
  Calls P f vs.toArray w fun e w' => ∃ Φ' γ' rs, e = .returned (retVal rs) ∧ OutR (fun T' ds' => InstR w' Φ' T' ds' rs γ' ∧ PostR w Φ γ (T.kin φ) (fromD (T.kin φ).cts d) w' Φ' γ' T' ds') (T.kouts φ) y := by
 obtain ⟨N, hN⟩ := lim_some h
 exact ((Tbl.at hT N).all.fn f φ hφ d y (hN N (Nat.le_refl _))).2 w Φ vs γ hg h1
end
end Go.Bm
