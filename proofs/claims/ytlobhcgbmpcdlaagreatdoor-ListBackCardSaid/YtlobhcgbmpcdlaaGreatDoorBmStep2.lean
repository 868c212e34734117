import Derived.Test.YtlobhcgbmpcdlaaGreatDoorBmStep1
import Derived.Laws.Small
import Derived.Laws.Strings
import Derived.Laws.StructEq
namespace Go.Bm
set_option linter.unusedVariables false
set_option linter.unusedSimpArgs false
def EqOk (P : Program) (t : TypeId) (zs : List Leaf) : Prop := ∀ (w : World) (xs ys : List Leaf) (vx vy : Array Value) (b : Bool), likes zs xs = true → eqLeaves xs ys = some b → CoRs xs vx.toList → CoRs ys vy.toList →
 (∀ op x y, (eqGuard op t x y (.agg vx) (.agg vy)).run P w = .ok () w) ∧ (Op.equal t (.agg vx) (.agg vy)).run P w = .ok b w
def MethOk (P : Program) (t : TypeId) (name : String) (f : Nat) (how : Option (Nat × Nat)) : Prop := ∀ (w : World) (b off : Nat), match how with
 | none => (method (P.types.size + Made.depth) t (.pointer (some ⟨b, off, none⟩)) name).run P w = .ok (f, .pointer (some ⟨b, off, none⟩)) w
 | some (ty, o) => ∀ v, (loadVar ty ⟨b, off + o, none⟩).run P w = .ok v w → (method (P.types.size + Made.depth) t (.pointer (some ⟨b, off, none⟩)) name).run P w = .ok (f, v) w
theorem ltB_eq : ∀ (x y : List UInt8), Op.bytesLess x y = ltB x y
 | x, [] => by cases x <;> rfl
 | [], _ :: _ => rfl
 | a :: x, b :: y => by simp only [Op.bytesLess, ltB, ltB_eq x y]
structure CxOk (P : Program) (cx : Cx) : Prop where
 mt : ∀ t name f how, cx.mt t name = some (f, how) → MethOk P t name f how
 tab : TabOk P cx.tab
 eqt : ∀ t fs zs, cx.eqt t = true → cx.tab t = some (.struct fs zs) → EqOk P t zs
section
variable {P : Program} {R : Type} {w0 : World} {Φ0 own0 : Nat → Prop} {N : Frm} {w : World} {Φ : Nat → Prop} {β : Loc} {s : St} {a : Act} {hp : List (Nat × SObj)}
variable {cx : Cx} {o : Oper} {next : Act → World → Prop} {Q : Exit → Act → World → Prop} {k : St → Option R} {r : R}
theorem pstep_move (hr : Rel w0 Φ0 own0 N w Φ β s a)
  {x : Operand} (ho : o.op = .move x ∨ o.op = .assign x) (h : stepK cx o s k = some r) : PStep P R (fun _ => True) w Φ β s a o k r := by
 rcases ho with ho | ho <;> (
  simp only [stepK, ho] at h
  split at h
  · rename_i v e
    exact pstep h (x := v) (v := a.eval x) (fun w _ => by simp [execOp, ho]) (hr.eval e)
  · cases h)
theorem step_move (hr : Rel w0 Φ0 own0 N w Φ β s a) (hN : ∀ d, o.dst = some d → N.ok d) (hk : ∀ s' a' w' Φ' β', Rel w0 Φ0 own0 N w' Φ' β' s' a' → k s' = some r → next a' w')
  {x : Operand} (ho : o.op = .move x ∨ o.op = .assign x) (h : stepK cx o s k = some r) : o.wp P a w next Q :=
 (pstep_move hr ho h).wp hr trivial hN hk
theorem pstep_pick (hr : Rel w0 Φ0 own0 N w Φ β s a)
  {c x y : Operand} (ho : o.op = .pick c x y) (h : stepK cx o s k = some r) : PStep P R (fun _ => True) w Φ β s a o k r := by
 simp only [stepK, ho] at h
 split at h
 · rename_i t hc
   have hcv := hr.eval hc
   simp only [SVR, LfR] at hcv
   cases t with
   | true =>
     simp only [cond_true] at h
     split at h
     · rename_i v hx
       exact pstep h (x := v) (v := a.eval x) (fun w _ => by simp [execOp, ho, hcv, asBool]) (hr.eval hx)
     · cases h
   | false =>
     simp only [cond_false] at h
     split at h
     · rename_i v hx
       exact pstep h (x := v) (v := a.eval y) (fun w _ => by simp [execOp, ho, hcv, asBool]) (hr.eval hx)
     · cases h
 · cases h
theorem step_pick (hr : Rel w0 Φ0 own0 N w Φ β s a) (hN : ∀ d, o.dst = some d → N.ok d) (hk : ∀ s' a' w' Φ' β', Rel w0 Φ0 own0 N w' Φ' β' s' a' → k s' = some r → next a' w')
  {c x y : Operand} (ho : o.op = .pick c x y) (h : stepK cx o s k = some r) : o.wp P a w next Q :=
 (pstep_pick hr ho h).wp hr trivial hN hk
theorem eqGuard_other {op : BinOp} {t : TypeId} {x y : Operand} {u v : Value} (h1 : ¬ (u = .nilIface ∧ v = .nilIface)) (h2 : ∀ c d, ¬ (u = .agg c ∧ v = .agg d)) : (eqGuard op t x y u v).run P w = .ok () w := by
 unfold eqGuard
 cases u <;> cases v <;> first | (cases op <;> simp; done) | (exact absurd ⟨rfl, rfl⟩ h1) | (exact absurd ⟨rfl, rfl⟩ (h2 _ _))
theorem run_bin {op : BinOp} {t t' : TypeId} {x y : Operand} {v : Value} (ho : o.op = .binOp op t x y t') (hg : (eqGuard op t x y (a.eval x) (a.eval y)).run P w = .ok () w)
  (hb : (binOp op t (a.eval x) (a.eval y)).run P w = .ok v w) : (execOp a.eval o).run P w = .ok (.value v) w := by
 simp [execOp, ho, hg, hb]
theorem run_eql_bool {t : TypeId} (hd : P.underlying t = some .bool) (p q : Bool) : (Op.equal t (.bool p) (.bool q)).run P w = .ok (p == q) w := by
 show (Op.equalIn (9999 + 1) t _ _).run P w = _
 unfold Op.equalIn
 simp [run_underlying hd]
theorem run_bin_eql {t : TypeId} {u v : Value} {b : Bool} (hg : (Op.equal t u v).run P w = .ok b w) (h : binOp .eql t u v = (do pure (.bool (← Op.equal t u v)))) : (binOp .eql t u v).run P w = .ok (.bool b) w := by
 rw [h]; simp only [Sem.run_bind, hg, Result.andThen_ok, Sem.run_pure]
theorem run_bin_neq {t : TypeId} {u v : Value} {b : Bool} (hg : (Op.equal t u v).run P w = .ok b w) (h : binOp .neq t u v = (do pure (.bool (!(← Op.equal t u v))))) : (binOp .neq t u v).run P w = .ok (.bool !b) w := by
 rw [h]; simp only [Sem.run_bind, hg, Result.andThen_ok, Sem.run_pure]
theorem pstep_bin (hcx : CxOk P cx) (hr : Rel w0 Φ0 own0 N w Φ β s a)
  {op : BinOp} {t t' : TypeId} {x y : Operand} (ho : o.op = .binOp op t x y t') (h : stepK cx o s k = some r) : PStep P R (fun _ => True) w Φ β s a o k r := by
 simp only [stepK, ho] at h
 split at h
 case h_2 => cases h
 rename_i u v hx hy
 have h1 := hr.eval hx
 have h2 := hr.eval hy
 unfold binK at h
 split at h
 ·
  rename_i j p j' q
  simp only [SVR, LfR] at h1 h2
  have hg : ∀ w, (eqGuard op t x y (a.eval x) (a.eval y)).run P w = .ok () w := fun w => by
   rw [h1, h2]; exact eqGuard_other (by simp) (by simp)
  split at h
  case isFalse =>
   cases op <;> simp only [reduceCtorEq] at h
   all_goals
    obtain ⟨hq, h⟩ := cond_none' h
    have hq' : ¬ q < 0 := by simpa using hq
    refine pstep h (fun w _ => run_bin ho (hg w) (by rw [h1, h2]; simp [binOp, Op.shift, hq']; rfl)) (by rfl)
  rename_i hj
  subst hj
  cases op <;> simp only [reduceCtorEq] at h
  all_goals first
   | (refine pstep h (fun w _ => run_bin ho (hg w) (by rw [h1, h2]; simp [binOp, Op.intBits]; rfl)) (by rfl); done)
   | (obtain ⟨hq, h⟩ := cond_none' h
      have hq' : ¬ q < 0 := by simpa using hq
      refine pstep h (fun w _ => run_bin ho (hg w) (by rw [h1, h2]; simp [binOp, Op.shift, hq']; rfl)) (by rfl); done)
   | (refine pstep h (fun w _ => run_bin ho (hg w) (by rw [h1, h2]; simp [binOp, Op.intArith, Op.intCmp]; rfl)) (by rfl); done)
   | (obtain ⟨hq, h⟩ := cond_none' h
      have hq' : q ≠ 0 := by simpa using hq
      refine pstep h (fun w _ => run_bin ho (hg w) (by rw [h1, h2]; simp [binOp, Op.intDiv, hq']; rfl)) (by rfl); done)
   | (cases h; done)
 ·
  rename_i p q
  simp only [SVR, LfR] at h1 h2
  have hg : ∀ w, (eqGuard op t x y (a.eval x) (a.eval y)).run P w = .ok () w := fun w => by
   rw [h1, h2]; exact eqGuard_other (by simp) (by simp)
  split at h
  · rename_i z htd
    obtain ⟨_, d, hd, _, _, _, hb⟩ := hcx.tab t _ htd
    have := hb.1 _ rfl; subst this
    refine pstep h (fun w _ => run_bin ho (hg w) (by rw [h1, h2]; exact run_bin_eql (run_eql_bool hd p q) rfl)) (by rfl)
  · rename_i z htd
    obtain ⟨_, d, hd, _, _, _, hb⟩ := hcx.tab t _ htd
    have := hb.1 _ rfl; subst this
    refine pstep h (fun w _ => run_bin ho (hg w) (by rw [h1, h2]; exact run_bin_neq (run_eql_bool hd p q) rfl)) (by rfl)
  · cases h
 ·
  rename_i p q
  obtain ⟨sx, ex, ex'⟩ := h1
  obtain ⟨sy, ey, ey'⟩ := h2
  have hg : ∀ w, (eqGuard op t x y (a.eval x) (a.eval y)).run P w = .ok () w := fun w => by
   rw [ex, ey]; exact eqGuard_other (by simp) (by simp)
  have tl : ∀ b : ByteArray, b.toList = b.data.toList := fun b => ByteArray.toList_eq b
  split at h
  · refine pstep h (fun w _ => run_bin ho (hg w) (by rw [ex, ey]; simp [binOp, Op.stringOp]; rfl)) ?_
    simp [SVR, LfR, tl, ex', ey']
  · refine pstep h (fun w _ => run_bin ho (hg w) (by rw [ex, ey]; simp [binOp, Op.stringOp]; rfl)) ?_
    simp [SVR, LfR, tl, ex', ey']
  · obtain ⟨hm, h⟩ := cond_none h
    have hm' : p.length + q.length ≤ most := Nat.le_of_ble_eq_true hm
    have hsz : ∀ b : ByteArray, b.size = b.data.toList.length := fun b => (Array.length_toList (xs := b.data)).symm
    have : ¬ (((sx.size + sy.size : Nat) : Int) > IntKind.i64.max) := by
     rw [hsz, hsz, ex', ey']
     have : IntKind.i64.max = 9223372036854775807 := by decide
     rw [this]; unfold most at hm'; omega
    refine pstep h (fun w _ => run_bin ho (hg w) (v := .string (sx ++ sy)) (by rw [ex, ey]; simp only [binOp, Op.stringOp, this, if_false, Sem.run_pure])) ?_
    exact ⟨_, rfl, by simp [ex', ey']⟩
  · refine pstep h (fun w _ => run_bin ho (hg w) (by rw [ex, ey]; simp only [binOp, Op.stringOp, Sem.run_pure]; rfl)) ?_
    simp [SVR, LfR, tl, ex', ey', ltB_eq]
  · refine pstep h (fun w _ => run_bin ho (hg w) (by rw [ex, ey]; simp only [binOp, Op.stringOp, Sem.run_pure]; rfl)) ?_
    simp [SVR, LfR, tl, ex', ey', ltB_eq]
  · refine pstep h (fun w _ => run_bin ho (hg w) (by rw [ex, ey]; simp only [binOp, Op.stringOp, Sem.run_pure]; rfl)) ?_
    simp [SVR, LfR, tl, ex', ey', ltB_eq]
  · refine pstep h (fun w _ => run_bin ho (hg w) (by rw [ex, ey]; simp only [binOp, Op.stringOp, Sem.run_pure]; rfl)) ?_
    simp [SVR, LfR, tl, ex', ey', ltB_eq]
  · cases h
 ·
  rename_i e l
  have hnil : a.eval y = .slice none 0 0 := h2
  obtain ⟨aa, cap, ev, hlc, hrow⟩ := h1
  simp only [List.cons.injEq, and_true] at ev
  have hg : ∀ w, (eqGuard op t x y (a.eval x) (a.eval y)).run P w = .ok () w := fun w => by
   rw [ev, hnil]; exact eqGuard_other (by simp) (by simp)
  have heq : ∀ {en : TypeId}, P.underlying t = some (.slice en) → ∀ w, (Op.equal t (.slice aa l.length cap) (.slice none 0 0)).run P w = .ok aa.isNone w := fun hd w => by
   show (Op.equalIn (9999 + 1) t _ _).run P w = _
   unfold Op.equalIn
   cases aa <;> simp [run_underlying hd]
  have hsome : l.isEmpty = false → aa.isNone = false := fun hl => by
   rcases hrow with hrow | ⟨b, ob, e1, _⟩
   · rw [hrow] at hl; cases hl
   · rw [e1]; rfl
  split at h
  · rename_i e' en htd
    have hd := (hcx.tab t _ htd).2.1
    cases hl : l.isEmpty with
    | true =>
      rw [hl] at h
      exact pstep h (v := .bool aa.isNone) (fun w _ => run_bin ho (hg w) (by rw [ev, hnil]; exact run_bin_eql (heq hd w) rfl)) ⟨_, rfl⟩
    | false =>
      rw [hl] at h
      refine pstep h (v := .bool aa.isNone) (fun w _ => run_bin ho (hg w) (by rw [ev, hnil]; exact run_bin_eql (heq hd w) rfl)) ?_
      rw [hsome hl]; rfl
  · rename_i e' en htd
    have hd := (hcx.tab t _ htd).2.1
    cases hl : l.isEmpty with
    | true =>
      rw [hl] at h
      exact pstep h (v := .bool !aa.isNone) (fun w _ => run_bin ho (hg w) (by rw [ev, hnil]; exact run_bin_neq (heq hd w) rfl)) ⟨_, rfl⟩
    | false =>
      rw [hl] at h
      refine pstep h (v := .bool !aa.isNone) (fun w _ => run_bin ho (hg w) (by rw [ev, hnil]; exact run_bin_neq (heq hd w) rfl)) ?_
      rw [hsome hl]; rfl
  · cases h
 ·
  rename_i p q
  obtain ⟨vx, ex, hxr⟩ := h1
  obtain ⟨vy, ey, hyr⟩ := h2
  have co : ∀ {ls ms : List Leaf} {b : Bool} {vs us : List Value}, eqLeaves ls ms = some b → LfRs w Φ β s.heap ls vs → LfRs w Φ β s.heap ms us → CoRs ls vs ∧ CoRs ms us := by
   have one : ∀ {l m : Leaf} {b : Bool} {v u : Value}, eqLeaf l m = some b → LfR w Φ β s.heap l v → LfR w Φ β s.heap m u → CoR l v ∧ CoR m u := by
    intro l m b v u he hl hm
    unfold eqLeaf at he
    split at he
    · exact ⟨hl, hm⟩
    · exact ⟨hl, hm⟩
    · exact ⟨hl, hm⟩
    · cases he
   intro ls
   induction ls with
   | nil =>
     intro ms b vs us he hl hm
     cases ms with
     | nil => exact ⟨hl, hm⟩
     | cons m ms => simp [eqLeaves] at he
   | cons l ls ih =>
     intro ms b vs us he hl hm
     obtain ⟨v, vs', rfl, hl1, hl2⟩ := hl
     cases ms with
     | nil => cases ls <;> simp [eqLeaves] at he
     | cons m ms =>
       obtain ⟨u, us', rfl, hm1, hm2⟩ := hm
       have key : ∃ b1, eqLeaf l m = some b1 ∧ (ls = [] ∧ ms = [] ∨ ∃ b2, eqLeaves ls ms = some b2) := by
        cases ls with
        | nil =>
          cases ms with
          | nil => simp only [eqLeaves] at he; exact ⟨b, he, .inl ⟨rfl, rfl⟩⟩
          | cons m' ms' =>
            simp only [eqLeaves] at he
            split at he
            · rename_i h1 h2; exact ⟨_, h1, .inr ⟨_, h2⟩⟩
            · cases he
        | cons l' ls' =>
          simp only [eqLeaves] at he
          split at he
          · rename_i h1 h2; exact ⟨_, h1, .inr ⟨_, h2⟩⟩
          · cases he
       obtain ⟨b1, e1, e2⟩ := key
       obtain ⟨c1, c2⟩ := one e1 hl1 hm1
       rcases e2 with ⟨rfl, rfl⟩ | ⟨b2, e2⟩
       · cases hl2; cases hm2; exact ⟨⟨v, [], rfl, c1, rfl⟩, ⟨u, [], rfl, c2, rfl⟩⟩
       · obtain ⟨d1, d2⟩ := ih e2 hl2 hm2
         exact ⟨⟨v, vs', rfl, c1, d1⟩, ⟨u, us', rfl, c2, d2⟩⟩
  split at h
  case h_2 => cases h
  rename_i fs zs htd
  have h2 := cond_none h
  clear h
  obtain ⟨hlk, h⟩ := h2
  simp only [Bool.and_eq_true] at hlk
  obtain ⟨heq, hlk⟩ := hlk
  have eqok := hcx.eqt t fs zs heq htd
  split at h
  · rename_i tt he
    obtain ⟨c1, c2⟩ := co he hxr hyr
    refine pstep h (fun w _ => run_bin ho (by rw [ex, ey]; exact (eqok w _ _ vx vy _ hlk he c1 c2).1 _ _ _) (by rw [ex, ey]; exact run_bin_eql (eqok w _ _ vx vy _ hlk he c1 c2).2 rfl)) (by rfl)
  · rename_i tt he
    obtain ⟨c1, c2⟩ := co he hxr hyr
    refine pstep h (fun w _ => run_bin ho (by rw [ex, ey]; exact (eqok w _ _ vx vy _ hlk he c1 c2).1 _ _ _) (by rw [ex, ey]; exact run_bin_neq (eqok w _ _ vx vy _ hlk he c1 c2).2 rfl)) (by rfl)
  · cases h
 · cases h
theorem step_bin (hcx : CxOk P cx) (hr : Rel w0 Φ0 own0 N w Φ β s a) (hN : ∀ d, o.dst = some d → N.ok d) (hk : ∀ s' a' w' Φ' β', Rel w0 Φ0 own0 N w' Φ' β' s' a' → k s' = some r → next a' w')
  {op : BinOp} {t t' : TypeId} {x y : Operand} (ho : o.op = .binOp op t x y t') (h : stepK cx o s k = some r) : o.wp P a w next Q :=
 (pstep_bin hcx hr ho h).wp hr trivial hN hk
end
end Go.Bm
