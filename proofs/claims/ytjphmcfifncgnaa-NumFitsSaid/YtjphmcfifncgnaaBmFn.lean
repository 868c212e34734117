/-
  OUR OWN: the interpreter is sound: a function; a loop; a tail.
-/
import Derived.Test.YtjphmcfifncgnaaBmEv
namespace Go.Bm
set_option linter.unusedVariables false
set_option linter.unusedSimpArgs false

section
variable {P : Program} {R : Type} {w0 : World} {Φ0 own0 : Nat → Prop} {N : Frm} {w w' : World} {Φ Φ' : Nat → Prop} {β : Loc} {s s' : St} {a : Act} {hp : List (Nat × SObj)}
variable {cx : Cx} {lk tk : Nat → Option Nat}

theorem loadK_run {t : TypeId} {td : TD} (hok : TdOk P t td) (hr : Rel w0 Φ0 own0 N w Φ β s a) {v : SVal} {u : Value} (hv : SVR w Φ β s.heap v u) {k : SVal → Option R} {r : R} (h : loadK s td v k = some r) :
    ∃ x b p val, u = .pointer (some ⟨b, p, none⟩) ∧ (loadVar t ⟨b, p, none⟩).run P w = .ok val w ∧ SVR w Φ β s.heap x val ∧ k x = some r := by
  have key : ∀ (b p : Nat) (us : List Value) (ls : List Leaf) (off : Nat), u = .pointer (some ⟨b, p + off, none⟩) → cellsAt w b p us → LfRs w Φ β s.heap ls us →
      cutK td ls off k = some r → ∃ x b p val, u = .pointer (some ⟨b, p, none⟩) ∧ (loadVar t ⟨b, p, none⟩).run P w = .ok val w ∧ SVR w Φ β s.heap x val ∧ k x = some r := by
    intro b p us ls off hv hc hl hkk
    obtain ⟨hle, hkk⟩ := cond_none hkk
    have hle := Nat.le_of_ble_eq_true hle
    split at hkk
    case h_2 => cases hkk
    rename_i v hval
    have hR := LfRs_take td.size (LfRs_drop off hl)
    have hl2 : ((us.drop off).take td.size).length = td.size := by
      rw [LfRs_len hR]; simp; omega
    exact ⟨v, b, p + off, valOf td.agg ((us.drop off).take td.size), hv, run_loadVar (P := P) hok (drop_take_cellsAt hc off td.size) hl2, asVal_SVR hval hR, hkk⟩
  unfold loadK at h
  split at h
  · rename_i id off
    obtain ⟨b, hb, hv⟩ := hv
    split at h
    case h_3 => cases h
    · rename_i cs hl
      obtain ⟨b', vs, hb', hn, hfz, hc, hls⟩ := hr.hp.ob id _ hl
      rw [hb] at hb'; cases hb'
      exact key b 0 vs cs off (by rw [Nat.zero_add]; exact hv) hc hls h
    · rename_i cs hl
      obtain ⟨b', vs, hb', hn, hfz, hc, hls⟩ := hr.hp.ob id _ hl
      rw [hb] at hb'; cases hb'
      exact key b 0 vs cs off (by rw [Nat.zero_add]; exact hv) hc hls h
  · rename_i e y off
    obtain ⟨b, ob, us, h2, h3, h4, h5⟩ := hv
    exact key b ob us _ off h5 h3 (unpackL_LfRs e y us h4) h
  · rename_i id i off
    obtain ⟨loc, hb, ⟨q, hq⟩, hrow⟩ := hv
    have row : ∀ (e : CT) (l : List e.denote) (y : e.denote), rowOf (look s.heap id) = some (e.size, l.length) → nth l i = some y → (∀ b p, loc = some (b, p) → RowAt w Φ e b p l) →
        cutK td (unpackL e y) off k = some r → ∃ x b p val, u = .pointer (some ⟨b, p, none⟩) ∧ (loadVar t ⟨b, p, none⟩).run P w = .ok val w ∧ SVR w Φ β s.heap x val ∧ k x = some r := by
      intro e l y hrw hn hat hkk
      obtain ⟨b, ob, e1, e2⟩ := hrow _ _ hrw
      subst e1
      obtain ⟨us, hu1, hu2⟩ := hat b ob rfl i y hn
      exact key b (ob + i * e.size) us _ off e2 hu1 (unpackL_LfRs e y us hu2) hkk
    split at h
    · rename_i e l hl
      cases hn : nth l i with
      | none => rw [hn] at h; cases h
      | some y =>
        rw [hn] at h
        refine row e l y (by rw [hl]; rfl) hn (fun b p hbp => ?_) h
        rcases hr.hp.ob id _ hl with ⟨h3, _⟩ | ⟨b', p', h3, _, _, h6⟩
        · rw [hb] at h3; cases h3; cases hbp
        · rw [hb] at h3; cases h3; cases hbp; exact h6
    · rename_i e l hl
      cases hn : nth l i with
      | none => rw [hn] at h; cases h
      | some y =>
        rw [hn] at h
        refine row e l y (by rw [hl]; rfl) hn (fun b p hbp => ?_) h
        rcases hr.hp.ob id _ hl with ⟨h3, _⟩ | ⟨b', p', h3, _, h6⟩
        · rw [hb] at h3; cases h3; cases hbp
        · rw [hb] at h3; cases h3; cases hbp; exact h6
    · cases h
  · cases h

def resRun (tmps : Array Value) : ResultVar → Sem Value
  | .tmp t => pure (tmps.getD t undef)
  | .cell a t => do loadVar t (← asAddr (tmps.getD a undef))

theorem results_run (hok : AllOk P cx) (hr : Rel w0 Φ0 own0 N w Φ β s a) : ∀ (rs : List ResultVar) (vs : List SVal), resultsOf cx s rs = some vs → ∃ us, (rs.mapM (resRun a.tmps)).run P w = .ok us w ∧ SVRs w Φ β s.heap vs us
  | [], vs, h => by simp [resultsOf] at h; subst h; exact ⟨[], by simp, rfl⟩
  | x :: rs, vs, h => by
    simp only [resultsOf] at h
    split at h
    case h_2 => cases h
    rename_i v vs' hx hxs
    cases h
    obtain ⟨us, g1, g2⟩ := results_run hok hr rs vs' hxs
    cases x with
    | tmp t =>
      simp only [resultOf] at hx
      exact ⟨a.tmps.getD t undef :: us, by simp [List.mapM_cons, resRun, g1], _, _, rfl, hr.env t v hx, g2⟩
    | cell t ty =>
      simp only [resultOf] at hx
      split at hx
      case h_2 => cases hx
      rename_i td p htd hp'
      obtain ⟨x, b, o, val, k1, k2, k3, k4⟩ := loadK_run (hok.ok.tab ty _ htd) hr (hr.env t p hp') hx
      cases k4
      exact ⟨val :: us, by simp [List.mapM_cons, resRun, k1, asAddr, k2, g1], val, us, rfl, k3, g2⟩

theorem retVal_eq (us : List Value) : (if h : us.toArray.size = 1 then us.toArray[0] else .tuple us.toArray) = retVal us := by
  match us with
  | [] => rfl
  | [v] => rfl
  | _ :: _ :: _ => rfl

theorem run_results (fn : Func) (tmps : Array Value) {us : List Value} (h : (fn.results.toList.mapM (resRun tmps)).run P w = .ok us w) : (results fn tmps).run P w = .ok (retVal us) w := by
  have e : results fn tmps = (do let vs ← fn.results.mapM (resRun tmps); pure (if h : vs.size = 1 then vs[0] else .tuple vs)) := by
    unfold results
    congr 1
  rw [e, Array.mapM_eq_mapM_toList]
  simp only [Sem.run_bind, Sem.run_map, h, Result.andThen_ok, Sem.run_pure]
  rw [retVal_eq]

theorem ShVs_len : ∀ {xs : List Sh} {al : List Value} {d : (prods (shCts xs)).denote} {vs : List Value} {bs : List Nat}, ShVs w Φ al xs d vs bs → vs.length = xs.length
  | [], _, _, _, _, ⟨h, _⟩ => by rw [h]; rfl
  | x :: r, _, _, _, _, ⟨v, vs', b1, b2, e, _, _, h⟩ => by rw [e]; simp [ShVs_len h]

theorem ptrVals_len : ∀ (xs : List Sh) (vs : List Value), vs.length = xs.length → (ptrVals xs vs).length = (refs xs).length
  | [], [], _ => rfl
  | [], _ :: _, h => by simp at h
  | _ :: _, [], h => by simp at h
  | .ptr _ :: r, v :: vs, h => by simp [ptrVals, refs, ptrVals_len r vs (by simpa using h)]
  | .c _ :: r, v :: vs, h => by simp [ptrVals, refs, ptrVals_len r vs (by simpa using h)]
  | .agg _ :: r, v :: vs, h => by simp [ptrVals, refs, ptrVals_len r vs (by simpa using h)]
  | .same _ :: r, v :: vs, h => by simp [ptrVals, refs, ptrVals_len r vs (by simpa using h)]

theorem ptrSlots_vals (g : Nat → Value) : ∀ (xs : List Sh) (i : Nat) (vs : List Value), vs.length = xs.length → (∀ j v, vs[j]? = some v → i + j ∈ ptrSlots i xs → g (i + j) = v) → (ptrSlots i xs).map g = ptrVals xs vs
  | [], i, vs, h, _ => by cases vs <;> simp at h; rfl
  | x :: r, i, [], h, _ => by simp at h
  | x :: r, i, v :: vs, h, hg => by
    have ih := ptrSlots_vals g r (i + 1) vs (by simpa using h) (fun j u hj hm => by
      have := hg (j + 1) u (by simpa using hj)
      rw [show i + (j + 1) = i + 1 + j by omega] at this
      apply this
      cases x <;> simp [ptrSlots, hm])
    cases x with
    | ptr cs => simp only [ptrSlots, ptrVals, List.map_cons, ih]; rw [show g i = v from hg 0 v (by simp) (by simp [ptrSlots])]
    | c x => simp only [ptrSlots, ptrVals, ih]
    | agg x => simp only [ptrSlots, ptrVals, ih]
    | same x => simp only [ptrSlots, ptrVals, ih]

theorem ptrSlots_lt : ∀ (xs : List Sh) (i t : Nat), t ∈ ptrSlots i xs → i ≤ t ∧ t < i + xs.length
  | [], i, t, h => by simp [ptrSlots] at h
  | x :: r, i, t, h => by
    have ih := ptrSlots_lt r (i + 1) t
    cases x with
    | ptr cs =>
      simp only [ptrSlots, List.mem_cons] at h
      rcases h with h | h
      · simp; omega
      · have := ih h; simp; omega
    | c x => have := ih h; simp; omega
    | agg x => have := ih h; simp; omega
    | same x => have := ih h; simp; omega

theorem SVRs_app {β hp} : ∀ {l m : List SVal} {u v : List Value}, SVRs w Φ β hp l u → SVRs w Φ β hp m v → SVRs w Φ β hp (l ++ m) (u ++ v)
  | [], m, u, v, h, k => by cases h; exact k
  | x :: l, m, u, v, ⟨a, us, e, h1, h2⟩, k => by subst e; exact ⟨a, us ++ v, rfl, h1, SVRs_app h2 k⟩

/-- The post of what is handed out at last. -/
theorem post_of {bs bs' : List Nat} (hr : Rel w Φ (· ∈ bs) N w' Φ' β s a) {Φ2 : Nat → Prop} {s2 : St} (h2 : Rel w Φ (· ∈ bs) N w' Φ2 β s2 a) (ht : Took w' Φ' β s Φ2 s2 bs') : Post w Φ bs w' Φ2 bs' :=
  ⟨h2.same, ht.nodup, fun b hb => by
    obtain ⟨id, ob, p, k1, k2, k3⟩ := ht.mem b hb
    exact hr.own id ob b p k1 k2 k3, fun b hb => ⟨ht.nf b hb, by
    obtain ⟨id, ob, p, k1, k2, k3⟩ := ht.mem b hb
    exact hr.hp.blt _ _ _ k3⟩, h2.fri, fun b hb => ⟨h2.hp.flt b hb, h2.fro b hb⟩⟩

theorem fn_sound (hok : AllOk P cx) {f : Nat} {fn : Func} {c : Code} (hfn : P.funcs[f]? = some fn) (hb : fn.body = some c) (hlen : (cx.fins f).length ≤ fn.ntmps) (hB : Bound (ptrSlots 0 (cx.fins f)) fn.ntmps c = true)
    (hH : Hints P cx fn.ntmps lk tk c) : ∀ d y, evFn cx lk tk f c fn.results.toList d = some y → ∀ (w : World) (Φ : Nat → Prop) (vs : List Value) (bs : List Nat),
    ShVs w Φ vs (cx.fins f) d vs bs → bs.Nodup → (∀ b, b ∈ bs → ¬ Φ b ∧ b < w.heap.size) → (∀ b, Φ b → b < w.heap.size) →
    Calls P f vs.toArray w fun e w' => ∃ Φ' rs bs', e = .returned (retVal rs) ∧ rs.length = (cx.fouts f).length ∧
      ShVs w' Φ' (rs ++ ptrVals (cx.fins f) vs) (cx.fouts f ++ refs (cx.fins f)) y (rs ++ ptrVals (cx.fins f) vs) bs' ∧ Post w Φ bs w' Φ' bs' := by
  intro d y h w Φ vs bs hsh hnd hbs hflt
  have hvl := ShVs_len hsh
  refine calls_of_wp hfn hb ?_
  let N : Frm := ⟨fn.ntmps, fun t => if t ∈ ptrSlots 0 (cx.fins f) then vs[t]? else none⟩
  let a0 : Act := { tmps := vs.toArray ++ Array.replicate (fn.ntmps - vs.toArray.size) undef, defers := [] }
  have hsz : a0.tmps.size = fn.ntmps := by simp [a0]; omega
  have hget : ∀ t v, vs[t]? = some v → a0.tmps.getD t undef = v := by
    intro t v ht
    have hlt := (List.getElem?_eq_some_iff.1 ht).1
    have : a0.tmps[t]? = some v := by
      simp only [a0]
      rw [Array.getElem?_append_left (by simpa using hlt)]
      simpa using ht
    rw [Array.getD_eq_getD_getElem?, this]; rfl
  have hfix : ∀ t v, N.fix t = some v → t ∈ ptrSlots 0 (cx.fins f) ∧ vs[t]? = some v := by
    intro t v hv
    simp only [N] at hv
    split at hv
    · rename_i hm; exact ⟨hm, hv⟩
    · cases hv
  have hbase : Rel w Φ (· ∈ bs) N w Φ (fun _ => none) .empty a0 :=
    { env := fun t v h => by cases h
      hp := { ob := fun id o h => by cases h
              lt := fun id x h => by cases h
              hlt := fun id o h => by cases h
              inj := fun id id' o o' b p p' h => by cases h
              blt := fun id b p h => by cases h
              flt := hflt }
      own := fun id o b p h => by cases h
      same := .refl _ _
      fri := fun _ h => h
      fro := fun _ h => .inl h
      size := hsz
      fix := fun t v hv => hget t v (hfix t v hv).2
      defers := rfl }
  have hslots : slotVals a0 (List.range (cx.fins f).length) = vs := by
    apply List.ext_getElem?
    intro i
    simp only [slotVals, List.getElem?_map]
    by_cases hi : i < (cx.fins f).length
    · rw [List.getElem?_range hi]
      have hv : vs[i]? = some vs[i] := List.getElem?_eq_getElem (by omega)
      rw [hv]; simp only [Option.map_some]; rw [hget i _ hv]
    · rw [List.getElem?_eq_none (by simpa using hi), List.getElem?_eq_none (by omega)]; rfl
  obtain ⟨β0, hr0⟩ := mkSt_sound (slots := List.range (cx.fins f).length) (shs := cx.fins f) (d := d) (bs := bs) hbase (by rw [hslots]; exact hsh) hnd (fun b hb => .inl hb)
  unfold evFn at h
  refine ev_sound (Q := bodyPost P fn _) hok (N := N) c (Bound_nil c hB) (fun t v hv => Bound_mem (hfix t v hv).1 c hB) hH hr0 (fun e s' a' w' Φ' β' hr' h' => ?_) h
  have fin : (match resultsOf cx s' fn.results.toList, lookAll s'.env (ptrSlots 0 (cx.fins f)) with
      | some vs, some ps => match packAll (cx.fouts f ++ refs (cx.fins f)) (vs ++ ps) s' with
        | some (y, _, _) => some y
        | none => none
      | _, _ => none) = some y → a'.defers = [] ∧ ∃ v, (results fn a'.tmps).run P w' = .ok v w' ∧ ∃ Φ' rs bs', Ending.returned v = .returned (retVal rs) ∧ rs.length = (cx.fouts f).length ∧
      ShVs w' Φ' (rs ++ ptrVals (cx.fins f) vs) (cx.fouts f ++ refs (cx.fins f)) y (rs ++ ptrVals (cx.fins f) vs) bs' ∧ Post w Φ bs w' Φ' bs' := by
    intro h'
    split at h'
    case h_2 => cases h'
    rename_i rv ps hrv hps
    split at h'
    case h_2 => cases h'
    rename_i y' s2 ids hpk
    cases h'
    obtain ⟨us, g1, g2⟩ := results_run hok hr' _ _ hrv
    have hpv : slotVals a' (ptrSlots 0 (cx.fins f)) = ptrVals (cx.fins f) vs := by
      refine ptrSlots_vals (fun t => a'.tmps.getD t undef) (cx.fins f) 0 vs hvl (fun j v hj hm => ?_)
      rw [Nat.zero_add] at hm ⊢
      exact hr'.fix j v (by simp only [N]; rw [if_pos hm]; exact hj)
    have g3 := lookAll_sound hr' hps
    rw [hpv] at g3
    obtain ⟨Φ2, bs', k1, k2, k3⟩ := packAll_sound hr' (SVRs_app g2 g3) hpk
    refine ⟨hr'.defers, _, run_results fn _ g1, Φ2, us, bs', rfl, ?_, k3, post_of hr' k1 k2⟩
    have := ShVs_len k3
    have h4 := ptrVals_len (cx.fins f) vs hvl
    simp only [List.length_append] at this
    omega
  cases e with
  | norm => exact fin h'
  | ret => exact fin h'
  | out id => cases h'

end
end Go.Bm
