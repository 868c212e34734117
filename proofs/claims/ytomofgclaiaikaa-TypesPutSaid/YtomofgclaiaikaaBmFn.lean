/-
  OUR OWN: the interpreter is sound: code; a function; a loop; a tail.
-/
import Derived.Test.YtomofgclaiaikaaBmDraw
namespace Go.Bm
set_option linter.unusedVariables false
set_option linter.unusedSimpArgs false

section
variable {P : Program} {R : Type} {w0 : World} {Φ0 own0 : Nat → Prop} {N : Frm} {w w' w2 : World} {Φ Φ' Φ2 : Nat → Prop} {β γ γ' γ2 : Loc} {s s' : St} {a : Act} {hp : List (Nat × SObj)}
variable {cx : Cx} {H : Hn}

theorem ev_sound (hok : AllOk P cx) (hno : ∀ id b, ¬ N.held id b) : ∀ (c : Code) {k : Ex → St → Option R} {r : R} {Q : Exit → Act → World → Prop} {w : World} {Φ : Nat → Prop} {β : Loc} {s : St} {a : Act}, Bound [] N.n c = true → FixOk N c → Hints P cx N.n H c →
    Rel w0 Φ0 own0 N w Φ β s a → (∀ e s' a' w' Φ' β', Rel w0 Φ0 own0 N w' Φ' β' s' a' → k e s' = some r → Q e.toExit a' w') → ev cx H c s k = some r → c.wp P Q a w
  | .skip, k, r, Q, w, Φ, β, s, a, _, _, _, hr, hk, h => wp_skip (hk .norm _ _ _ _ _ hr h)
  | .region id ops false, k, r, Q, w, Φ, β, s, a, hb, hf, _, hr, hk, h => by
    refine wp_region ?_
    have := evOps_sound (Q := Q) hok (ops := ops) (fun o ho d hd => by
      have := List.all_eq_true.1 hb o ho
      simp only [hd, Bool.and_eq_true] at this
      refine ⟨by rw [← Nat.blt_eq]; exact this.1, ?_⟩
      cases hfd : N.fix d with
      | none => rfl
      | some v =>
        have := List.all_eq_true.1 (hf d v hfd) o ho
        simp [hd, fresh] at this) (fun s' a' w' Φ' β' hr' h' => hk .norm s' a' w' Φ' β' hr' h') ops.toList 0 (fun j => by simp) hr h
    rwa [Array.length_toList, ← List.range_eq_range'] at this
  | .region id ops true, k, r, Q, w, Φ, β, s, a, hb, hf, hh, hr, hk, h => by
    simp only [ev] at h
    split at h
    · rename_i slots t hd
      refine evDraw_sound hok hno (fun o ho d hd => ?_) (hh slots t hd) hr (fun s' a' w' Φ' β' hr' h' => hk .norm s' a' w' Φ' β' hr' h') h
      have := List.all_eq_true.1 hb o ho
      simp only [hd, Bool.and_eq_true] at this
      refine ⟨by rw [← Nat.blt_eq]; exact this.1, ?_⟩
      cases hfd : N.fix d with
      | none => rfl
      | some v =>
        have := List.all_eq_true.1 (hf d v hfd) o ho
        simp [hd, fresh] at this
    · cases h
  | .seq x y, k, r, Q, w, Φ, β, s, a, hb, hf, hh, hr, hk, h => by
    simp only [Bound, Bool.and_eq_true] at hb
    simp only [ev] at h
    refine wp_seq (ev_sound hok hno x hb.1 (fun t v h => (Bound_seq (hf t v h)).1) hh.1 hr (fun e s' a' w' Φ' β' hr' h' => ?_) h)
    cases e with
    | norm =>
      have hh2 := hh.2
      show y.wp P Q a' w'
      simp only at h'
      split at h'
      · rename_i κ hκ
        rw [hκ] at hh2
        exact enterBlk_sound hh2.1 hh2.2 (fun t v h => (Bound_seq (hf t v h)).2) hr' hk h'
      · rename_i hκ
        rw [hκ] at hh2
        exact ev_sound hok hno y hb.2 (fun t v h => (Bound_seq (hf t v h)).2) hh2 hr' hk h'
    | out id => exact hk (.out id) s' a' w' Φ' β' hr' h'
    | ret => exact hk .ret s' a' w' Φ' β' hr' h'
  | .cond c x y, k, r, Q, w, Φ, β, s, a, hb, hf, hh, hr, hk, h => by
    simp only [Bound, Bool.and_eq_true] at hb
    simp only [ev] at h
    split at h
    case h_3 => cases h
    case h_2 =>
      rename_i hc
      obtain ⟨t, hcv⟩ : ∃ t, a.eval c = .bool t := hr.eval hc
      obtain ⟨h1, h2⟩ := agree_some h
      refine wp_cond hcv ?_
      cases t with
      | true => exact ev_sound hok hno x hb.1 (fun t v h => (Bound_cond (hf t v h)).1) hh.1 hr hk h1
      | false => exact ev_sound hok hno y hb.2 (fun t v h => (Bound_cond (hf t v h)).2) hh.2 hr hk h2
    rename_i t hc
    have hcv : a.eval c = .bool t := hr.eval hc
    refine wp_cond hcv ?_
    cases t with
    | true => exact ev_sound hok hno x hb.1 (fun t v h => (Bound_cond (hf t v h)).1) hh.1 hr hk h
    | false => exact ev_sound hok hno y hb.2 (fun t v h => (Bound_cond (hf t v h)).2) hh.2 hr hk h
  | .block id c, k, r, Q, w, Φ, β, s, a, hb, hf, hh, hr, hk, h => by
    simp only [ev] at h
    simp only [Hints] at hh
    split at h
    · rename_i κ hκ
      rw [hκ] at hh
      exact enterBlk_sound hh.1 hh.2 hf hr hk h
    · rename_i hκ
      rw [hκ] at hh
      refine wp_block (ev_sound hok hno c hb hf hh hr (fun e s' a' w' Φ' β' hr' h' => ?_) h)
      cases e with
      | norm => exact hk .norm s' a' w' Φ' β' hr' h'
      | ret => exact hk .ret s' a' w' Φ' β' hr' h'
      | out id' =>
        show (if id' = id then Q .normal a' w' else Q (.exit id') a' w')
        simp only at h'
        cases hbq : Nat.beq id' id with
        | true => rw [hbq] at h'; rw [if_pos (Nat.eq_of_beq_eq_true hbq)]; exact hk .norm s' a' w' Φ' β' hr' h'
        | false => rw [hbq] at h'; rw [if_neg (fun e => by rw [e, Nat.beq_refl] at hbq; cases hbq)]; exact hk (.out id') s' a' w' Φ' β' hr' h'
  | .loop c, k, r, Q, w, Φ, β, s, a, hb, hf, hh, hr, hk, h => by
    simp only [ev] at h
    exact wp_loop_rounds 16 (loopU_sound (fun k Q {w Φ β s a} hr hk h => ev_sound hok hno c hb hf hh hr hk h) hk 16 hr h)
  | .exit id, k, r, Q, w, Φ, β, s, a, _, _, _, hr, hk, h => wp_exit (hk (.out id) _ _ _ _ _ hr h)
  | .ret, k, r, Q, w, Φ, β, s, a, _, _, _, hr, hk, h => wp_ret (hk .ret _ _ _ _ _ hr h)
  | .rangeFunc _ _ _ _, k, r, Q, w, Φ, β, s, a, _, _, _, hr, hk, h => by simp [ev] at h
  | .scope _, k, r, Q, w, Φ, β, s, a, _, _, _, hr, hk, h => by simp [ev] at h
  | .label _, k, r, Q, w, Φ, β, s, a, _, _, _, hr, hk, h => by simp [ev] at h
  | .goto _, k, r, Q, w, Φ, β, s, a, _, _, _, hr, hk, h => by simp [ev] at h
  | .refuse _, k, r, Q, w, Φ, β, s, a, _, _, _, hr, hk, h => by simp [ev] at h

theorem loadK_run {t : TypeId} {td : TD} (hok : TdOk P t td) (hr : Rel w0 Φ0 own0 N w Φ β s a) {v : SVal} {u : Value} (hv : SVR w Φ β s.heap v u) {k : SVal → Option R} {r : R} (h : loadK s td v k = some r) :
    ∃ x b p val, u = .pointer (some ⟨b, p, none⟩) ∧ (loadVar t ⟨b, p, none⟩).run P w = .ok val w ∧ SVR w Φ β s.heap x val ∧ k x = some r := by
  have key : ∀ (b p : Nat) (us : List Value) (ls : List Leaf) (off : Nat), u = .pointer (some ⟨b, p + off, none⟩) → cellsAt w b p us → LfRs w Φ β s.heap ls us →
      cutK td ls off k = some r → ∃ x b p val, u = .pointer (some ⟨b, p, none⟩) ∧ (loadVar t ⟨b, p, none⟩).run P w = .ok val w ∧ SVR w Φ β s.heap x val ∧ k x = some r := by
    intro b p us ls off hv hc hl hkk
    obtain ⟨hle, hkk⟩ := cond_none hkk
    have hle := Nat.le_of_ble_eq_true hle
    split at hkk
    case h_2 => cases hkk
    rename_i v hval
    have hR := LfRs_take td.size (LfRs_drop off hl)
    have hl2 : ((us.drop off).take td.size).length = td.size := by
      rw [LfRs_len hR]; simp; omega
    exact ⟨v, b, p + off, valOf td.agg ((us.drop off).take td.size), hv, run_loadVar (P := P) hok (drop_take_cellsAt hc off td.size) hl2, asVal_SVR hval hR, hkk⟩
  unfold loadK at h
  split at h
  · rename_i id off
    obtain ⟨b, hb, hv⟩ := hv
    split at h
    case h_3 => cases h
    · rename_i cs hl
      obtain ⟨b', vs, hb', hn, hfz, hc, hls⟩ := hr.hp.ob id _ hl
      rw [hb] at hb'; cases hb'
      exact key b 0 vs cs off (by rw [Nat.zero_add]; exact hv) hc hls h
    · rename_i cs hl
      obtain ⟨b', vs, hb', hn, hfz, hc, hls⟩ := hr.hp.ob id _ hl
      rw [hb] at hb'; cases hb'
      exact key b 0 vs cs off (by rw [Nat.zero_add]; exact hv) hc hls h
  · rename_i e y off
    obtain ⟨b, ob, us, h2, h3, h4, h5⟩ := hv
    exact key b ob us _ off h5 h3 (unpackL_LfRs e y us h4) h
  · rename_i id i off
    obtain ⟨loc, hb, ⟨q, hq⟩, hrow⟩ := hv
    have row : ∀ (e : CT) (l : List e.denote) (y : e.denote), rowOf (look s.heap id) = some (e.size, l.length) → nth l i = some y → (∀ b p, loc = some (b, p) → RowAt w Φ e b p l) →
        cutK td (unpackL e y) off k = some r → ∃ x b p val, u = .pointer (some ⟨b, p, none⟩) ∧ (loadVar t ⟨b, p, none⟩).run P w = .ok val w ∧ SVR w Φ β s.heap x val ∧ k x = some r := by
      intro e l y hrw hn hat hkk
      obtain ⟨b, ob, e1, e2⟩ := hrow _ _ hrw
      subst e1
      obtain ⟨us, hu1, hu2⟩ := hat b ob rfl i y hn
      exact key b (ob + i * e.size) us _ off e2 hu1 (unpackL_LfRs e y us hu2) hkk
    split at h
    · rename_i e l hl
      cases hn : nth l i with
      | none => rw [hn] at h; cases h
      | some y =>
        rw [hn] at h
        refine row e l y (by rw [hl]; rfl) hn (fun b p hbp => ?_) h
        rcases hr.hp.ob id _ hl with ⟨h3, _⟩ | ⟨b', p', h3, _, _, h6⟩
        · rw [hb] at h3; cases h3; cases hbp
        · rw [hb] at h3; cases h3; cases hbp; exact h6
    · rename_i e l hl
      cases hn : nth l i with
      | none => rw [hn] at h; cases h
      | some y =>
        rw [hn] at h
        refine row e l y (by rw [hl]; rfl) hn (fun b p hbp => ?_) h
        rcases hr.hp.ob id _ hl with ⟨h3, _⟩ | ⟨b', p', h3, _, h6⟩
        · rw [hb] at h3; cases h3; cases hbp
        · rw [hb] at h3; cases h3; cases hbp; exact h6
    · cases h
  · cases h

def resRun (tmps : Array Value) : ResultVar → Sem Value
  | .tmp t => pure (tmps.getD t undef)
  | .cell a t => do loadVar t (← asAddr (tmps.getD a undef))

theorem results_run (hok : AllOk P cx) (hr : Rel w0 Φ0 own0 N w Φ β s a) : ∀ (rs : List ResultVar) (vs : List SVal), resultsOf cx s rs = some vs → ∃ us, (rs.mapM (resRun a.tmps)).run P w = .ok us w ∧ SVRs w Φ β s.heap vs us
  | [], vs, h => by simp [resultsOf] at h; subst h; exact ⟨[], by simp, rfl⟩
  | x :: rs, vs, h => by
    simp only [resultsOf] at h
    split at h
    case h_2 => cases h
    rename_i v vs' hx hxs
    cases h
    obtain ⟨us, g1, g2⟩ := results_run hok hr rs vs' hxs
    cases x with
    | tmp t =>
      simp only [resultOf] at hx
      exact ⟨a.tmps.getD t undef :: us, by simp [List.mapM_cons, resRun, g1], _, _, rfl, hr.env t v hx, g2⟩
    | cell t ty =>
      simp only [resultOf] at hx
      split at hx
      case h_2 => cases hx
      rename_i td p htd hp'
      obtain ⟨x, b, o, val, k1, k2, k3, k4⟩ := loadK_run (hok.ok.tab ty _ htd) hr (hr.env t p hp') hx
      cases k4
      exact ⟨val :: us, by simp [List.mapM_cons, resRun, k1, asAddr, k2, g1], val, us, rfl, k3, g2⟩

theorem retVal_eq (us : List Value) : (if h : us.toArray.size = 1 then us.toArray[0] else .tuple us.toArray) = retVal us := by
  match us with
  | [] => rfl
  | [v] => rfl
  | _ :: _ :: _ => rfl

theorem run_results (fn : Func) (tmps : Array Value) {us : List Value} (h : (fn.results.toList.mapM (resRun tmps)).run P w = .ok us w) : (results fn tmps).run P w = .ok (retVal us) w := by
  have e : results fn tmps = (do let vs ← fn.results.mapM (resRun tmps); pure (if h : vs.size = 1 then vs[0] else .tuple vs)) := by
    unfold results
    congr 1
  rw [e, Array.mapM_eq_mapM_toList]
  simp only [Sem.run_bind, Sem.run_map, h, Result.andThen_ok, Sem.run_pure]
  rw [retVal_eq]

/-- One of several templates is given out. -/
theorem packOut_sound {K : Tm → List Dyn → Prop} {ρ0 : Rho} {vs : List SVal} (hK : ∀ T' d ρ s1, packD T' ρ0 vs s = some (d, ρ, s1) → K T' (fromD T'.cts d)) : ∀ {l : List Tm} {y : (outsT l).denote}, packOut ρ0 l vs s = some y → OutR K l y
  | [], y, h => by cases h
  | [T'], y, h => by
    simp only [packOut] at h
    split at h
    · rename_i d ρ s1 hd; cases h; exact hK _ _ _ _ hd
    · cases h
  | T' :: b :: r, y, h => by
    simp only [packOut] at h
    split at h
    · rename_i d ρ s1 hd; cases h; exact hK _ _ _ _ hd
    · split at h
      · rename_i d hd; cases h; exact packOut_sound hK (l := b :: r) hd
      · cases h

theorem InstR_len {T : Tm} {ds : List Dyn} {vs : List Value} (h : InstR w Φ T ds vs γ) : vs.length = T.slots.length := by
  have h1 := SVRs_len h.vals
  have : ∀ (l : List SlT) (ds : List Dyn), (instSls l ds).1.length = l.length := by
    intro l
    induction l with
    | nil => intro ds; rfl
    | cons x l ih => intro ds; simp [instSls, ih]
  rw [h1]; exact this _ _

theorem fn_sound (hok : AllOk P cx) {f φ : Nat} {fn : Func} {c : Code} (hfn : P.funcs[f]? = some fn) (hb : fn.body = some c) (hlen : (cx.kin φ).slots.length ≤ fn.ntmps) (hB : Bound [] fn.ntmps c = true)
    (hH : Hints P cx fn.ntmps H c) : ∀ d y, evFn cx H φ c fn.results.toList d = some y → ∀ (w : World) (Φ : Nat → Prop) (vs : List Value) (γ : Loc), InstR w Φ (cx.kin φ) (fromD (cx.kin φ).cts d) vs γ →
    Calls P f vs.toArray w fun e w' => ∃ Φ' γ' rs, e = .returned (retVal rs) ∧ OutR (fun T' ds' => InstR w' Φ' T' ds' rs γ' ∧ PostR w Φ γ (cx.kin φ) (fromD (cx.kin φ).cts d) w' Φ' γ' T' ds') (cx.kouts φ) y := by
  intro d y h w Φ vs γ hi
  have hvl := InstR_len hi
  refine calls_of_wp hfn hb ?_
  let a0 : Act := { tmps := vs.toArray ++ Array.replicate (fn.ntmps - vs.toArray.size) undef, defers := [] }
  have hsz : a0.tmps.size = fn.ntmps := by simp [a0]; omega
  have hget : ∀ t v, vs[t]? = some v → a0.tmps.getD t undef = v := by
    intro t v ht
    have hlt := (List.getElem?_eq_some_iff.1 ht).1
    have : a0.tmps[t]? = some v := by
      simp only [a0]
      rw [Array.getElem?_append_left (by simpa using hlt)]
      simpa using ht
    rw [Array.getD_eq_getD_getElem?, this]; rfl
  have hslots : ((List.range (cx.kin φ).slots.length).map fun t => a0.tmps.getD t undef) = vs := by
    apply List.ext_getElem?
    intro i
    simp only [List.getElem?_map]
    by_cases hi : i < (cx.kin φ).slots.length
    · rw [List.getElem?_range hi]
      have hv : vs[i]? = some vs[i] := List.getElem?_eq_getElem (by omega)
      rw [hv]; simp only [Option.map_some]; rw [hget i _ hv]
    · rw [List.getElem?_eq_none (by simpa using hi), List.getElem?_eq_none (by omega)]; rfl
  have hr0 := inst_base (a := a0) (slots := List.range (cx.kin φ).slots.length) (fix := fun _ => none) (by rw [hslots]; exact hi) hsz (fun t v h => by cases h) rfl
  unfold evFn at h
  refine ev_sound (Q := bodyPost P fn _) hok (N := ⟨fn.ntmps, fun _ => none, fun _ _ => False, Stays (cx.kin φ), w, γ, (cx.kin φ).heap (fromD (cx.kin φ).cts d)⟩) (fun _ _ h => h) c hB (fun t v hv => by cases hv) hH hr0 (fun e s' a' w' Φ' β' hr' h' => ?_) h
  have fin : (match resultsOf cx s' fn.results.toList with
      | some vs => packOut (stayRho 0 (cx.kin φ).objs) (cx.kouts φ) vs s'
      | none => none) = some y → a'.defers = [] ∧ ∃ v, (results fn a'.tmps).run P w' = .ok v w' ∧ ∃ Φ' γ' rs, Ending.returned v = .returned (retVal rs) ∧
      OutR (fun T' ds' => InstR w' Φ' T' ds' rs γ' ∧ PostR w Φ γ (cx.kin φ) (fromD (cx.kin φ).cts d) w' Φ' γ' T' ds') (cx.kouts φ) y := by
    intro h'
    split at h'
    case h_2 => cases h'
    rename_i rv hrv
    obtain ⟨us, g1, g2⟩ := results_run hok hr' _ _ hrv
    -- one of the ways out
    have : ∀ (l : List Tm) (y : (outsT l).denote), packOut (stayRho 0 (cx.kin φ).objs) l rv s' = some y → ∃ Φ2 γ2, OutR (fun T' ds' => InstR w' Φ2 T' ds' us γ2 ∧ PostR w Φ γ (cx.kin φ) (fromD (cx.kin φ).cts d) w' Φ2 γ2 T' ds') l y := by
      intro l
      induction l with
      | nil => intro y h; cases h
      | cons T' l ih =>
        intro y h
        have one : ∀ d' ρ s1, packD T' (stayRho 0 (cx.kin φ).objs) rv s' = some (d', ρ, s1) → ∃ Φ2 γ2, InstR w' Φ2 T' (fromD T'.cts d') us γ2 ∧ PostR w Φ γ (cx.kin φ) (fromD (cx.kin φ).cts d) w' Φ2 γ2 T' (fromD T'.cts d') := by
          intro d' ρ s1 hd
          obtain ⟨Φ2, β2, hP⟩ := packD_sound hr' g2 hd
          exact ⟨Φ2, _, hP.inst, out_post rfl rfl rfl rfl hP⟩
        cases l with
        | nil =>
          simp only [packOut] at h
          split at h
          · rename_i d' ρ s1 hd; cases h; exact one _ _ _ hd
          · cases h
        | cons T2 l =>
          simp only [packOut] at h
          split at h
          · rename_i d' ρ s1 hd; cases h; exact one _ _ _ hd
          · split at h
            · rename_i d' hd; cases h; exact ih _ hd
            · cases h
    obtain ⟨Φ2, γ2, h2⟩ := this _ _ h'
    exact ⟨hr'.defers, _, run_results fn _ g1, Φ2, γ2, us, rfl, h2⟩
  cases e with
  | norm => exact fin h'
  | ret => exact fin h'
  | out id => cases h'

theorem Kept.trans' {hp hp' hp2 : List (Nat × SObj)} {id : Nat} (h : Kept w γ hp w' γ' hp' id) (k : Kept w' γ' hp' w2 γ2 hp2 id) : Kept w γ hp w2 γ2 hp2 id := h.trans k

theorem PostR.trans {T T' : Tm} {ds d1 ds' : List Dyn} (h : PostR w Φ γ T ds w' Φ' γ' T d1) (k : PostR w' Φ' γ' T d1 w2 Φ2 γ2 T' ds') : PostR w Φ γ T ds w2 Φ2 γ2 T' ds' := {
  same := ⟨k.same.os.trans h.same.os, k.same.tape.trans h.same.tape, k.same.output.trans h.same.output, Nat.le_trans h.same.size k.same.size, fun b h1 h2 => by
    rw [k.same.block b (Nat.lt_of_lt_of_le h1 h.same.size) (fun hm => by
      rcases h.mem b hm with g | g
      · exact h2 g
      · omega), h.same.block b h1 h2]⟩
  mem := fun b hb => by
    rcases k.mem b hb with g | g
    · exact h.mem b g
    · exact .inr (Nat.le_trans h.same.size g)
  sub := fun b hb => k.sub b (h.sub b hb)
  fro := fun b hb => by
    rcases k.fro b hb with g | g | g
    · exact h.fro b g
    · exact .inr (h.mem b g)
    · exact .inr (.inr (Nat.le_trans h.same.size g))
  keep := fun i hi => (h.keep i hi).trans (k.keep i hi) }

theorem rounds_mono {c : Code} {Q Q' : Exit → Act → World → Prop} (hq : ∀ e a w, Q e a w → Q' e a w) : ∀ (n : Nat) {a : Act} {w : World}, Code.rounds P c Q n a w → Code.rounds P c Q' n a w
  | 0, _, _, h => h
  | n + 1, a, w, h => by
    rw [rounds_succ] at *
    refine wp_mono h fun e a w g => ?_
    cases e with
    | normal => exact rounds_mono hq n g
    | _ => exact hq _ _ _ g

/-- What a piece gives out. -/
theorem packExit_sound {T : Tm} {ds : List Dyn} (hkid : N.kid = Stays T) (hkw : N.kw = w) (hkβ : N.kβ = γ) (hkh : N.kh = T.heap ds) {a : Act} (hr : Rel w Φ (OwnH γ (T.heap ds)) N w' Φ' β s a) {e : Ex} : ∀ {l : List (Ex × List Nat × Tm)} {y : (exitsT l).denote}, packExit (stayRho 0 T.objs) l e s = some y →
    ∃ Φ2 γ2, ExR (fun e' slots T' ds' => e.toExit = e'.toExit ∧ InstR w' Φ2 T' ds' (slotVals a slots) γ2 ∧ PostR w Φ γ T ds w' Φ2 γ2 T' ds') l y
  | [], y, h => by simp [packExit] at h
  | [(e1, slots, T')], y, h => by
    simp only [packExit] at h
    split at h
    case isFalse => cases h
    rename_i he
    split at h
    case h_2 => cases h
    rename_i vs hvs
    split at h
    case h_2 => cases h
    rename_i d ρ s1 hpk
    cases h
    obtain ⟨Φ2, β2, hP⟩ := packD_sound hr (lookAll_sound hr hvs) hpk
    exact ⟨Φ2, _, by rw [he], hP.inst, out_post hkid hkw hkβ hkh hP⟩
  | (e1, slots, T') :: b :: r, y, h => by
    simp only [packExit] at h
    split at h
    · rename_i d ρ s1 hd
      split at hd
      case isFalse => cases hd
      rename_i he
      split at hd
      case h_2 => cases hd
      rename_i vs hvs
      cases h
      obtain ⟨Φ2, β2, hP⟩ := packD_sound hr (lookAll_sound hr hvs) hd
      exact ⟨Φ2, _, by rw [he], hP.inst, out_post hkid hkw hkβ hkh hP⟩
    · split at h
      case h_2 => cases h
      rename_i d hd
      cases h
      obtain ⟨Φ2, γ2, g⟩ := packExit_sound hkid hkw hkβ hkh hr (l := b :: r) hd
      exact ⟨Φ2, γ2, g⟩

theorem bend_of {κ n : Nat} {fix : Nat → Option Value} {ds : List Dyn} {y : (exitsT (cx.bk κ).exits).denote} {e : Ex} {a : Act} (hr : Rel w Φ (OwnH γ ((cx.bk κ).ins.heap ds)) ⟨n, fix, fun _ _ => False, Stays (cx.bk κ).ins, w, γ, (cx.bk κ).ins.heap ds⟩ w' Φ' β s a)
    (h : packExit (stayRho 0 (cx.bk κ).ins.objs) (cx.bk κ).exits e s = some y) : BEnd cx κ n fix w Φ γ ds y e.toExit a w' := by
  obtain ⟨Φ2, γ2, g⟩ := packExit_sound (N := ⟨n, fix, fun _ _ => False, Stays (cx.bk κ).ins, w, γ, (cx.bk κ).ins.heap ds⟩) (w := w) (γ := γ) (ds := ds) rfl rfl rfl rfl hr h
  exact ⟨hr.size, hr.fix, hr.defers, Φ2, γ2, g⟩

theorem tail_sound (hok : AllOk P cx) {n κ : Nat} {c : Code} {fix : Nat → Option Value} (hb : Bound [] n c = true) (hh : Hints P cx n H c) {d : (cx.bk κ).ins.ct.denote}
    {y : (exitsT (cx.bk κ).exits).denote} (h : evBlk cx H κ (.tail c) d = some y) (hf : ∀ t v, fix t = some v → Bound [t] n c = true) (h1 : ∀ t v, fix t = some v → a.tmps.getD t undef = v) (h2 : a.tmps.size = n) (h3 : a.defers = [])
    (hi : InstR w Φ (cx.bk κ).ins (fromD (cx.bk κ).ins.cts d) (slotVals a (cx.bk κ).slots) γ) : c.wp P (BEnd cx κ n fix w Φ γ (fromD (cx.bk κ).ins.cts d) y) a w := by
  have hr0 := inst_base (a := a) (slots := (cx.bk κ).slots) (fix := fix) hi h2 h1 h3
  refine ev_sound (N := ⟨n, fix, fun _ _ => False, Stays (cx.bk κ).ins, w, γ, (cx.bk κ).ins.heap (fromD (cx.bk κ).ins.cts d)⟩) hok (fun _ _ h => h) c hb hf hh hr0 (fun e s' a' w' Φ' β' hr' h' => bend_of hr' h') h

/-- One more round of a loop. -/
theorem loop_sound (hok : AllOk P cx) {n κ m id : Nat} {c : Code} {fix : Nat → Option Value} (hb : Bound [] n c = true) (hh : Hints P cx n H c)
    (ih : RunOk cx n κ c (fun Q a w => Code.rounds P c (Exit.inBlock id Q) m a w))
    (halt : ∀ κ2, H.al κ = some κ2 → RunOk cx n κ2 c (fun Q a w => Code.rounds P c (Exit.inBlock id Q) m a w) ∧ ∀ t ∈ (cx.bk κ2).keep, Bound [t] n c = true) {d : (cx.bk κ).ins.ct.denote}
    {y : (exitsT (cx.bk κ).exits).denote} (h : evBlk cx H κ (.loop id c) d = some y) (hf : ∀ t v, fix t = some v → Bound [t] n c = true) (h1 : ∀ t v, fix t = some v → a.tmps.getD t undef = v) (h2 : a.tmps.size = n) (h3 : a.defers = [])
    (hi : InstR w Φ (cx.bk κ).ins (fromD (cx.bk κ).ins.cts d) (slotVals a (cx.bk κ).slots) γ) : Code.rounds P c (Exit.inBlock id (BEnd cx κ n fix w Φ γ (fromD (cx.bk κ).ins.cts d) y)) (m + 1) a w := by
  have hr0 := inst_base (a := a) (slots := (cx.bk κ).slots) (fix := fix) hi h2 h1 h3
  rw [rounds_succ]
  refine ev_sound (N := ⟨n, fix, fun _ _ => False, Stays (cx.bk κ).ins, w, γ, (cx.bk κ).ins.heap (fromD (cx.bk κ).ins.cts d)⟩) hok (fun _ _ h => h) c hb hf hh hr0 (fun e s' a' w' Φ' β' hr' h' => ?_) h
  cases e with
  | ret => exact bend_of (e := .ret) hr' h'
  | out id' =>
    show (if id' = id then BEnd cx κ n fix w Φ γ _ y .normal a' w' else BEnd cx κ n fix w Φ γ _ y (.exit id') a' w')
    simp only at h'
    cases hbq : Nat.beq id' id with
    | true => rw [hbq] at h'; rw [if_pos (Nat.eq_of_beq_eq_true hbq)]; exact bend_of (e := .norm) hr' h'
    | false => rw [hbq] at h'; rw [if_neg (fun e => by rw [e, Nat.beq_refl] at hbq; cases hbq)]; exact bend_of (e := .out id') hr' h'
  | norm =>
    simp only at h'
    split at h'
    case h_2 => cases h'
    rename_i vs hvs
    split at h'
    case h_2 =>
      split at h'
      case h_2 => cases h'
      rename_i κ2 hκ2
      obtain ⟨hrun, hkeep⟩ := halt κ2 hκ2
      show Code.rounds P c (Exit.inBlock id (BEnd cx κ n fix w Φ γ _ y)) m a' w'
      refine enterBlk_run (N := ⟨n, fix, fun _ _ => False, Stays (cx.bk κ).ins, w, γ, (cx.bk κ).ins.heap (fromD (cx.bk κ).ins.cts d)⟩) (run := fun Q a w => Code.rounds P c (Exit.inBlock id Q) m a w) (fun {Q Q'} hq a w g => rounds_mono (fun e a w g => ?_) m g) hrun hkeep hf hr' (fun e s2 a2 w2 Φ2 β2 hr2 hk2 => bend_of hr2 hk2) h'
      cases e with
      | exit id' =>
        simp only [Exit.inBlock] at g ⊢
        split at g
        · rename_i he; rw [if_pos he]; exact hq _ _ _ g
        · rename_i he; rw [if_neg he]; exact hq _ _ _ g
      | _ => exact hq _ _ _ g
    rename_i d' ρ s1 hpk
    obtain ⟨Φ2, β2, hP⟩ := packD_sound hr' (lookAll_sound hr' hvs) hpk
    have hpost := out_post (N := ⟨n, fix, fun _ _ => False, Stays (cx.bk κ).ins, w, γ, (cx.bk κ).ins.heap (fromD (cx.bk κ).ins.cts d)⟩) (w := w) (γ := γ) (T := (cx.bk κ).ins) (ds := fromD (cx.bk κ).ins.cts d) rfl rfl rfl rfl hP
    show Code.rounds P c (Exit.inBlock id (BEnd cx κ n fix w Φ γ _ y)) m a' w'
    have := ih d' y h' w' Φ2 a' _ fix hf hr'.fix hr'.size hr'.defers hP.inst
    refine rounds_mono (fun e a w2 g => ?_) m this
    have tr : ∀ {ex a w2}, BEnd cx κ n fix w' Φ2 (fun k => (ρ.at k).bind β2) (fromD (cx.bk κ).ins.cts d') y ex a w2 → BEnd cx κ n fix w Φ γ (fromD (cx.bk κ).ins.cts d) y ex a w2 :=
      fun ⟨k1, k2, k3, Φ3, γ3, k4⟩ => ⟨k1, k2, k3, Φ3, γ3, ExR.mono (fun e l T ds ⟨m1, m2, m3⟩ => ⟨m1, m2, hpost.trans m3⟩) k4⟩
    cases e with
    | exit id' =>
      simp only [Exit.inBlock] at g ⊢
      split at g
      · rename_i he; rw [if_pos he]; exact tr g
      · rename_i he; rw [if_neg he]; exact tr g
    | _ => exact tr g

end
end Go.Bm
