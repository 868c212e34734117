/-
  OUR OWN: the interpreter's step is sound: function values; a call.
-/
import Derived.Test.YtomofgclaiaikaaBmBack
namespace Go.Bm
set_option linter.unusedVariables false
set_option linter.unusedSimpArgs false

def retVal : List Value → Value
  | [v] => v
  | vs => .tuple vs.toArray

/-- One of several templates has come back. -/
def OutR (K : Tm → List Dyn → Prop) : (l : List Tm) → (outsT l).denote → Prop
  | [], _ => False
  | [T'], y => K T' (fromD T'.cts y)
  | T' :: b :: r, y => match y with
    | .inl a => K T' (fromD T'.cts a)
    | .inr c => OutR K (b :: r) c

theorem OutR.mono {K K' : Tm → List Dyn → Prop} (h : ∀ T ds, K T ds → K' T ds) : ∀ {l : List Tm} {y : (outsT l).denote}, OutR K l y → OutR K' l y
  | [], _, g => g
  | [T'], y, g => h _ _ g
  | T' :: b :: r, .inl a, g => h _ _ g
  | T' :: b :: r, .inr c, g => OutR.mono h (l := b :: r) g

/-- What is claimed of a way to call a function. -/
def FnOk (P : Program) (cx : Cx) (f φ : Nat) : Prop := ∀ d y, cx.rf φ d = some y → (∃ fn : Func, P.funcs[f]? = some fn ∧ (fn.name == "runtime.NumGoroutine") = false ∧ fn.body.isNone = false) ∧
  ∀ (w : World) (Φ : Nat → Prop) (vs : List Value) (γ : Loc), InstR w Φ (cx.kin φ) (fromD (cx.kin φ).cts d) vs γ →
    Calls P f vs.toArray w fun e w' => ∃ Φ' γ' rs, e = .returned (retVal rs) ∧ OutR (fun T' ds' => InstR w' Φ' T' ds' rs γ' ∧ PostR w Φ γ (cx.kin φ) (fromD (cx.kin φ).cts d) w' Φ' γ' T' ds') (cx.kouts φ) y

section
variable {P : Program} {R : Type} {w0 : World} {Φ0 own0 : Nat → Prop} {N : Frm} {w w' : World} {Φ Φ' : Nat → Prop} {β : Loc} {s s' : St} {a : Act} {hp : List (Nat × SObj)}
variable {cx : Cx} {o : Oper} {next : Act → World → Prop} {Q : Exit → Act → World → Prop} {k : St → Option R} {r : R}

theorem SVRs_len : ∀ {l : List SVal} {u : List Value}, SVRs w Φ β hp l u → u.length = l.length
  | [], _, h => by cases h; rfl
  | x :: l, _, ⟨v, vs, e, _, h⟩ => by subst e; simp [SVRs_len h]

theorem partsOf_sound : ∀ {vs : List SVal} {us : List Value} {ps : List (List Leaf × Bool)}, partsOf vs = some ps → SVRs w Φ β hp vs us → PartsR w Φ β hp ps us
  | [], us, ps, h, hv => by simp [partsOf] at h; subst h; exact hv
  | v :: vs, us, ps, h, ⟨u, us', e, h1, h2⟩ => by
    subst e
    simp only [partsOf] at h
    split at h
    case h_2 => cases h
    rename_i p ps' hp' hps
    cases h
    refine ⟨u, us', rfl, ?_, partsOf_sound hps h2⟩
    cases v with
    | one l => cases hp'; show PartR _ _ _ _ _ _; unfold PartR; simp only [Bool.false_eq_true, if_false]; exact ⟨u, [], rfl, h1, rfl⟩
    | agg cs => cases hp'; unfold PartR; simp only [if_true]; exact h1
    | tup _ => cases hp'
    | skip => cases hp'

theorem resultVal_sound {vs : List SVal} {us : List Value} {v : SVal} (h : resultVal vs = some v) (hv : SVRs w Φ β hp vs us) : SVR w Φ β hp v (retVal us) := by
  unfold resultVal at h
  split at h
  · cases h
    obtain ⟨u, us', e, h1, h2⟩ := hv
    cases h2; subst e; exact h1
  · rename_i hne
    split at h
    case h_2 => cases h
    rename_i ps hps
    cases h
    have : retVal us = .tuple us.toArray := by
      unfold retVal
      split
      · rename_i v'
        have := SVRs_len hv
        match vs, this, hne with
        | [x], _, hne => exact absurd rfl (hne x)
      · rfl
    rw [this]
    exact ⟨us.toArray, rfl, by simpa using partsOf_sound hps hv⟩

theorem leafIds_sound : ∀ {vs : List SVal} {us : List Value} {l : List (Option Nat)}, SVRs w Φ β hp vs us → leafIds vs = some l → IdsR β l us
  | [], us, l, h, hl => by simp [leafIds] at hl; subst hl; exact h
  | v :: vs, us, l, ⟨u, us', e, h1, h2⟩, hl => by
    subst e
    unfold leafIds at hl
    split at hl
    · rename_i heq; cases heq
    · rename_i id r heq
      cases heq
      split at hl
      case h_2 => cases hl
      rename_i l' hl'
      cases hl
      obtain ⟨b, g1, g2⟩ := h1
      exact ⟨u, us', rfl, ⟨b, g1, g2⟩, leafIds_sound h2 hl'⟩
    · rename_i r heq
      cases heq
      split at hl
      case h_2 => cases hl
      rename_i l' hl'
      cases hl
      exact ⟨u, us', rfl, h1, leafIds_sound h2 hl'⟩
    · cases hl

theorem idVals_sound : ∀ {l : List (Option Nat)} {us : List Value}, IdsR β l us → SVRs w Φ β hp (idVals l) us
  | [], _, h => h
  | none :: r, _, ⟨v, vs', e, h1, h2⟩ => ⟨v, vs', e, h1, idVals_sound h2⟩
  | some id :: r, _, ⟨v, vs', e, ⟨b, h1, h3⟩, h2⟩ => ⟨v, vs', e, ⟨b, h1, h3⟩, idVals_sound h2⟩

theorem SVRs_app : ∀ {l m : List SVal} {u v : List Value}, SVRs w Φ β hp l u → SVRs w Φ β hp m v → SVRs w Φ β hp (l ++ m) (u ++ v)
  | [], m, u, v, h, k => by cases h; exact k
  | x :: l, m, u, v, ⟨a, us, e, h1, h2⟩, k => by subst e; exact ⟨a, us ++ v, rfl, h1, SVRs_app h2 k⟩

/-- A function's value is made. -/
theorem pstep_makeFunc (hr : Rel w0 Φ0 own0 N w Φ β s a) {f : Nat} {x y : Array Operand} (ho : o.op = .makeFunc (.func f) x y) (h : stepK cx o s k = some r) : PStep P R (fun _ => True) w Φ β s a o k r := by
  simp only [stepK, ho] at h
  split at h
  case h_2 => cases h
  rename_i l m hl hm
  obtain ⟨v1, e1, e2⟩ := Option.bind_eq_some_iff.1 hl
  obtain ⟨v2, f1, f2⟩ := Option.bind_eq_some_iff.1 hm
  have g1 := leafIds_sound (evalAll_sound hr _ _ e1) e2
  have g2 := leafIds_sound (evalAll_sound hr _ _ f1) f2
  refine pstep h (v := .func (.func f) (x.map a.eval) (y.map a.eval)) (fun w _ => by simp [execOp, ho, Instr.makeFunc]) ⟨_, _, rfl, ?_, ?_⟩
  · simpa using g1
  · simpa using g2

theorem step_makeFunc (hr : Rel w0 Φ0 own0 N w Φ β s a) (hN : ∀ d, o.dst = some d → N.ok d) (hk : ∀ s' a' w' Φ' β', Rel w0 Φ0 own0 N w' Φ' β' s' a' → k s' = some r → next a' w')
    {f : Nat} {x y : Array Operand} (ho : o.op = .makeFunc (.func f) x y) (h : stepK cx o s k = some r) : o.wp P a w next Q :=
  (pstep_makeFunc hr ho h).wp hr trivial hN hk

theorem leaveF_sound {T : Tm} {ρ : Rho} {K : Tm → List Dyn → Prop} {k : SVal → St → Option R} : ∀ {l : List Tm} {y : (outsT l).denote}, OutR K l y → leaveF T ρ s l y k = some r →
    ∃ T' ds', K T' ds' ∧ ∃ v, resultVal (backVals T ρ T' ds' s) = some v ∧ k v (backSt T ρ T' ds' s) = some r
  | [], _, g, _ => g.elim
  | [T'], y, g, h => by
    simp only [leaveF] at h
    split at h
    · rename_i v hv; exact ⟨_, _, g, v, hv, h⟩
    · cases h
  | T' :: b :: r', .inl x, g, h => by
    simp only [leaveF] at h
    split at h
    · rename_i v hv; exact ⟨_, _, g, v, hv, h⟩
    · cases h
  | T' :: b :: r', .inr x, g, h => leaveF_sound (l := b :: r') g (by simpa only [leaveF] using h)

theorem leaveN_sound {K : Tm → List Dyn → Prop} {k : SVal → St → Option R} : ∀ {l : List Tm} {y : (outsT l).denote}, OutR K l y → leaveN s l y k = some r →
    ∃ T' ds', K T' ds' ∧ T'.objs = [] ∧ (T'.vals ds').all SVal.flat = true ∧ ∃ v, resultVal (T'.vals ds') = some v ∧ k v s = some r
  | [], _, g, _ => g.elim
  | [T'], y, g, h => by
    simp only [leaveN] at h
    obtain ⟨hb, h⟩ := cond_none h
    simp only [Bool.and_eq_true, List.isEmpty_iff] at hb
    split at h
    · rename_i v hv; exact ⟨_, _, g, hb.1, hb.2, v, hv, h⟩
    · cases h
  | T' :: b :: r', .inl x, g, h => by
    simp only [leaveN] at h
    obtain ⟨hb, h⟩ := cond_none h
    simp only [Bool.and_eq_true, List.isEmpty_iff] at hb
    split at h
    · rename_i v hv; exact ⟨_, _, g, hb.1, hb.2, v, hv, h⟩
    · cases h
  | T' :: b :: r', .inr x, g, h => leaveN_sound (l := b :: r') g (by simpa only [leaveN] using h)

theorem flatL_SVR {β' : Loc} {hp' : List (Nat × SObj)} : ∀ {l : Leaf} {u : Value}, l.flat = true → LfR w Φ β hp l u → LfR w' Φ' β' hp' l u
  | .int _ _, _, _, h => h
  | .bool _, _, _, h => h
  | .str _, _, _, h => h
  | .undef, _, h, _ => by cases h
  | .list _ _, _, h, _ => by cases h
  | .clist _ _, _, h, _ => by cases h
  | .nils, _, h, _ => by cases h
  | .ptr _ _, _, h, _ => by cases h
  | .eptr _ _ _, _, h, _ => by cases h
  | .vptr _ _ _, _, h, _ => by cases h
  | .sl _ _, _, h, _ => by cases h
  | .fn _ _ _, _, h, _ => by cases h
  | .ifp _ _ _, _, h, _ => by cases h
  | .ifi _ _ _, _, h, _ => by cases h
  | .mp _, _, h, _ => by cases h
  | .nilp, _, h, _ => by cases h
  | .nilf, _, h, _ => by cases h
  | .nili, _, h, _ => by cases h
  | .nilm, _, h, _ => by cases h
  | .anyb, _, h, _ => by cases h
theorem flatLs_SVR {β' : Loc} {hp' : List (Nat × SObj)} : ∀ {l : List Leaf} {u : List Value}, l.all Leaf.flat = true → LfRs w Φ β hp l u → LfRs w' Φ' β' hp' l u
  | [], _, _, h => h
  | x :: l, _, hf, ⟨v, vs, e, h1, h2⟩ => by
    simp only [List.all_cons, Bool.and_eq_true] at hf
    exact ⟨v, vs, e, flatL_SVR hf.1 h1, flatLs_SVR hf.2 h2⟩
theorem flat_SVRs {β' : Loc} {hp' : List (Nat × SObj)} : ∀ {l : List SVal} {u : List Value}, l.all SVal.flat = true → SVRs w Φ β hp l u → SVRs w' Φ' β' hp' l u
  | [], _, _, h => h
  | x :: l, _, hf, ⟨v, vs, e, h1, h2⟩ => by
    simp only [List.all_cons, Bool.and_eq_true] at hf
    refine ⟨v, vs, e, ?_, flat_SVRs hf.2 h2⟩
    cases x with
    | one y => exact flatL_SVR (l := y) hf.1 h1
    | agg cs => obtain ⟨us, e1, h3⟩ := h1; exact ⟨us, e1, flatLs_SVR hf.1 h3⟩
    | tup _ => cases hf.1
    | skip => cases hf.1

/-- A world that has grown, and is what it was below. -/
theorem Rel.grown (hr : Rel w0 Φ0 own0 N w Φ β s a) (h : Same w (fun _ => False) w') : Rel w0 Φ0 own0 N w' Φ β s a := by
  have hblk : ∀ b, b < w.heap.size → w'.heap[b]? = w.heap[b]? := fun b hb => h.block b hb (fun h => h)
  have m : Mono w Φ β s.heap w' Φ β s.heap := ⟨fun b hb => hblk b (hr.hp.flt b hb), fun _ h => h, fun _ _ h => h, fun _ _ _ _ h => h, fun id b o r hb _ => by
    unfold blockSize; rw [hblk b (hr.hp.blt id b o hb)]⟩
  refine ⟨fun t v hv => SVR_mono m v _ (hr.env t v hv), ⟨fun id o ho => ObR_mono m (fun b p hb => hblk b (hr.hp.blt id b p hb)) (fun _ _ _ _ h => h) (hr.hp.ob id o ho), hr.hp.lt, hr.hp.hlt, hr.hp.inj, fun id b p hb => Nat.lt_of_lt_of_le (hr.hp.blt id b p hb) h.size, fun b hb => Nat.lt_of_lt_of_le (hr.hp.flt b hb) h.size⟩,
    hr.own, ?_, hr.fri, hr.fro, hr.size, hr.fix, hr.defers, hr.hold, hr.keep' m⟩
  refine ⟨h.os.trans hr.same.os, h.tape.trans hr.same.tape, h.output.trans hr.same.output, Nat.le_trans hr.same.size h.size, fun b hb hn => ?_⟩
  rw [hblk b (Nat.lt_of_lt_of_le hb hr.same.size)]
  exact hr.same.block b hb hn

theorem callTry_sound {args : List SVal} {k : SVal → St → Option R} : ∀ {l : List Nat}, callTry cx args s k l = some r → ∃ φ ∈ l, ∃ d ρ s1 y, packIn (cx.kin φ) args s = some (d, ρ, s1) ∧ cx.rf φ d = some y ∧ (leaveF (cx.kin φ) ρ s1 (cx.kouts φ) y k = some r ∨ ((cx.kin φ).objs = [] ∧ leaveN s (cx.kouts φ) y k = some r))
  | [], h => by cases h
  | φ :: l, h => by
    simp only [callTry] at h
    split at h
    · rename_i d ρ s1 hp
      obtain ⟨y, h1, h2⟩ := Option.bind_eq_some_iff.1 h
      cases hl : cx.lend φ with
      | false => rw [hl] at h2; exact ⟨φ, by simp, d, ρ, s1, y, hp, h1, .inl h2⟩
      | true =>
        rw [hl] at h2
        obtain ⟨hb, h2⟩ := cond_none h2
        exact ⟨φ, by simp, d, ρ, s1, y, hp, h1, .inr ⟨List.isEmpty_iff.1 hb, h2⟩⟩
    · obtain ⟨φ', h1, h2⟩ := callTry_sound h
      exact ⟨φ', List.mem_cons_of_mem _ h1, h2⟩

/-- A call. -/
theorem step_call (hf : ∀ f, ∀ φ ∈ cx.keys f, FnOk P cx f φ) (hr : Rel w0 Φ0 own0 N w Φ β s a) (hN : ∀ d, o.dst = some d → N.ok d) (hk : ∀ s' a' w' Φ' β', Rel w0 Φ0 own0 N w' Φ' β' s' a' → k s' = some r → next a' w')
    {c : Call} (ho : o.op = .call c) {x : Operand} (hc : c.callee = .value x) (h : stepK cx o s k = some r) : o.wp P a w next Q := by
  simp only [stepK, ho, hc] at h
  split at h
  case h_2 => cases h
  rename_i fv args hfv hev
  have hargs := evalAll_sound hr _ _ hev
  have hfr := hr.eval hfv
  unfold callK at h
  split at h
  case h_2 => cases h
  rename_i f xs ys
  obtain ⟨us, vs, e1, hxs, hys⟩ := hfr
  obtain ⟨φ, hφ, d, ρ, s1, y, hpk, hy, hlv⟩ := callTry_sound h
  unfold packIn at hpk
  obtain ⟨hng, hpk⟩ := cond_none hpk
  have hall : SVRs w Φ β s.heap (idVals xs ++ (args ++ idVals ys)) (us.toList ++ (c.args.toList.map a.eval ++ vs.toList)) := SVRs_app (idVals_sound hxs) (SVRs_app hargs (idVals_sound hys))
  obtain ⟨Φ1, β1, hP⟩ := packD_sound hr hall hpk
  obtain ⟨⟨fn, hfn1, hfn2, hfn3⟩, hcalls⟩ := hf f φ hφ d y hy
  have hcalls := hcalls w Φ1 _ _ hP.inst
  have hexec : (execOp a.eval o).run P w = .ok (.enter f (us.toList ++ (c.args.toList.map a.eval ++ vs.toList)).toArray) w := by
    have : us ++ c.args.map a.eval ++ vs = (us.toList ++ (c.args.toList.map a.eval ++ vs.toList)).toArray := by rw [← Array.toList_inj]; simp
    simp only [execOp, ho, resolve, hc, e1, Deferred.ofValue, Sem.run_bind, Sem.run_pure, Result.andThen_ok, invoke, callFunc, run_program, hfn1, hfn2, hfn3, this, Bool.false_eq_true, if_false]
  unfold Oper.wp
  rw [hexec, Oper.upon_enter]
  refine hcalls.mono fun e w' hpost => ?_
  obtain ⟨Φ', γ', rs, he, hout⟩ := hpost
  subst he
  rcases hlv with hlv | ⟨hno, hlv⟩
  case inr =>
    obtain ⟨T', ds', ⟨hi, hpst⟩, hobj, hflat, v, hres, hkk⟩ := leaveN_sound hout hlv
    have hown : ∀ b, ¬ OwnH (fun k => (ρ.at k).bind β1) ((cx.kin φ).heap (fromD (cx.kin φ).cts d)) b := by
      rintro b ⟨id, ob, p, h1, _⟩
      simp [Tm.heap, hno, instObs, look] at h1
    have hsame : Same w (fun _ => False) w' := ⟨hpst.same.os, hpst.same.tape, hpst.same.output, hpst.same.size, fun b hb _ => hpst.same.block b hb (hown b)⟩
    show next (a.put o.dst (retVal rs)) w'
    exact hk _ _ _ _ _ ((hr.grown hsame).set (resultVal_sound hres (flat_SVRs hflat hi.vals)) hN) hkk
  obtain ⟨T', ds', ⟨hi, hpst⟩, v, hres, hkk⟩ := leaveF_sound hout hlv
  obtain ⟨β', k1, k2, k3⟩ := Rel.back hP hng hi hpst
  show next (a.put o.dst (retVal rs)) w'
  exact hk _ _ _ _ _ (k1.set (resultVal_sound hres k3) hN) hkk

/-- The blocks that are the run's to give away: those of what was handed over, and new ones. -/
theorem out_post {T T' : Tm} {ds ds' : List Dyn} {w1 : World} {Φ1 Φ2 : Nat → Prop} {γ β2 : Loc} {us : List Value} {ρ : Rho} {s1 : St} (hkid : N.kid = Stays T) (hkw : N.kw = w) (hkβ : N.kβ = γ) (hkh : N.kh = T.heap ds)
    (hP : PackR w Φ (OwnH γ (T.heap ds)) N w1 Φ1 β s a T' (stayRho 0 T.objs) us ds' ρ s1 Φ2 β2) : PostR w Φ γ T ds w1 Φ2 (fun k => (ρ.at k).bind β2) T' ds' := by
  have hr := hP.rel
  refine ⟨hr.same, fun b hb => ?_, hr.fri, hr.fro, fun k hk => ?_⟩
  · obtain ⟨k, o', p, h1, h2, h3⟩ := hb
    obtain ⟨_, bo, _, h4⟩ := hP.obj k o' h1
    rcases h4 with ⟨_, h4⟩ | ⟨id, ob, g1, g2, g3, g4⟩
    · subst h4; cases h2
    · exact hr.mine (hP.free id (rho_mem g1)) g2 g3 (by simpa [g1] using h3)
  · have hst : (stayRho 0 T.objs).at k = some k := by
      obtain ⟨o, ho⟩ := hk
      have : ∀ (l : List (Bool × ObT)) (i j : Nat), nth l i = some (true, o) → (stayRho j l).at i = some (j + i) := by
        intro l
        induction l with
        | nil => intro i j h; cases h
        | cons x l ih =>
          intro i j h
          obtain ⟨b, q⟩ := x
          cases i with
          | zero => simp [nth] at h; obtain ⟨rfl, rfl⟩ := h; simp [stayRho, Rho.at, nth]
          | succ i =>
            have := ih i (j + 1) (by simpa [nth] using h)
            cases b
            · simpa [stayRho, Rho.at, nth, Nat.add_assoc, Nat.add_comm 1 i] using this
            · simpa [stayRho, Rho.at, nth, Nat.add_assoc, Nat.add_comm 1 i] using this
      have := this T.objs k 0 ho
      rwa [Nat.zero_add] at this
    have hk' := hP.rho k k hst
    have hkept := hr.keep k (by rw [hkid]; exact hk)
    rw [hkw, hkβ, hkh] at hkept
    refine ⟨fun x hx => ?_, fun x hx r hrw => ?_, fun b o r hb hrw => ?_⟩
    · simp [hk', hkept.loc x hx]
    · exact hkept.row x hx r (hP.row k k hk' r hrw)
    · exact hkept.bs b o r hb (hP.row k k hk' r hrw)

theorem look_zip {vs : List SVal} : ∀ {slots : List Nat} {vs : List SVal}, SVRs w Φ β hp vs (slots.map fun t => a.tmps.getD t undef) → ∀ t v, look (slots.zip vs) t = some v → SVR w Φ β hp v (a.tmps.getD t undef)
  | [], vs, _, t, v, h => by simp [look] at h
  | n :: r, [], _, t, v, h => by simp [look] at h
  | n :: r, x :: vs, ⟨u, us, e, h1, h2⟩, t, v, h => by
    simp only [List.map_cons, List.cons.injEq] at e
    obtain ⟨rfl, rfl⟩ := e
    simp only [List.zip_cons_cons, look_cons] at h
    split at h
    · rename_i e; subst e; cases h; exact h1
    · exact look_zip (vs := vs) h2 t v h

/-- The state that a template makes, as a run begins. -/
theorem inst_base {T : Tm} {ds : List Dyn} {γ : Loc} {slots : List Nat} {n : Nat} {fix : Nat → Option Value} (hi : InstR w Φ T ds (slots.map fun t => a.tmps.getD t undef) γ) (hsz : a.tmps.size = n) (hfix : ∀ t v, fix t = some v → a.tmps.getD t undef = v) (hd : a.defers = []) :
    Rel w Φ (OwnH γ (T.heap ds)) ⟨n, fix, fun _ _ => False, Stays T, w, γ, T.heap ds⟩ w Φ γ (inSt slots T ds) a := {
  env := look_zip (vs := T.vals ds) hi.vals
  hp := ⟨hi.hp.ob, hi.hp.lt, hi.hp.hlt, hi.hp.inj, hi.hp.blt, hi.hp.flt⟩
  own := fun id o b p h1 h2 h3 => .inl ⟨id, o, p, h1, h2, h3⟩
  same := .refl _ _
  fri := fun _ h => h
  fro := fun _ h => .inl h
  size := hsz
  fix := hfix
  defers := hd
  hold := fun _ _ h => h.elim
  keep := fun id _ => .refl .. }

end
end Go.Bm
