import Derived.Test.YtlobhcgbmpcdlaaGreatDoorBmStep2
namespace Go.Bm
set_option linter.unusedVariables false
set_option linter.unusedSimpArgs false
section
variable {P : Program} {R : Type} {w0 : World} {Φ0 own0 : Nat → Prop} {N : Frm} {w : World} {Φ : Nat → Prop} {β : Loc} {s : St} {a : Act} {hp : List (Nat × SObj)}
variable {cx : Cx} {o : Oper} {next : Act → World → Prop} {Q : Exit → Act → World → Prop} {k : St → Option R} {r : R}
theorem pstep_un (hr : Rel w0 Φ0 own0 N w Φ β s a)
  {op : UnOp} {t : TypeId} {x : Operand} (ho : o.op = .unOp op t x) (h : stepK cx o s k = some r) : PStep P R (fun _ => True) w Φ β s a o k r := by
 simp only [stepK, ho] at h
 split at h
 case h_2 => cases h
 rename_i u hx
 have h1 := hr.eval hx
 unfold unK at h
 split at h
 · simp only [SVR, LfR] at h1
   exact pstep h (fun w _ => by simp only [execOp, ho, h1, Op.unary, Op.intArith]; rfl) (by rfl)
 · simp only [SVR, LfR] at h1
   exact pstep h (fun w _ => by simp only [execOp, ho, h1, Op.unary]; rfl) (by rfl)
 · cases h
theorem step_un (hr : Rel w0 Φ0 own0 N w Φ β s a) (hN : ∀ d, o.dst = some d → N.ok d) (hk : ∀ s' a' w' Φ' β', Rel w0 Φ0 own0 N w' Φ' β' s' a' → k s' = some r → next a' w')
  {op : UnOp} {t : TypeId} {x : Operand} (ho : o.op = .unOp op t x) (h : stepK cx o s k = some r) : o.wp P a w next Q :=
 (pstep_un hr ho h).wp hr trivial hN hk
theorem convK_int {tab : Nat → Option TD} {td dd : TD} {b : Bool} {s : St} {j : IntKind} {n : Int} {k : SVal → St → Option R} : convK tab td dd b s (.one (.int j n)) k = none := rfl
theorem pstep_convert (hcx : CxOk P cx) (hr : Rel w0 Φ0 own0 N w Φ β s a)
  {t d : TypeId} {x : Operand} (ho : o.op = .convert t d x) (hst : stableOp o s = true) (h : stepK cx o s k = some r) : PStep P R (fun _ => True) w Φ β s a o k r := by
 simp only [stepK, ho] at h
 split at h
 · rename_i td j z k' n htd hd hx
   obtain ⟨u, hu, _⟩ := (hcx.tab t _ htd).und
   have h1 := hr.eval hx
   simp only [SVR, LfR] at h1
   obtain ⟨_, dd, hdd, _, hi, _⟩ := hcx.tab d _ hd
   have := hi _ _ rfl; subst this
   refine pstep h (v := .int j (j.wrap n)) (fun w _ => ?_) (by rfl)
   simp only [execOp, ho, h1, Sem.run_bind, convert, run_underlying hu, run_underlying hdd, Result.andThen_ok]
   cases u <;> simp [Conv.intToInt]
 · rename_i td z b htd hd hx
   simp [stableOp, ho, hx] at hst
 · rename_i td dd v _ _ htd hd hx
   simp only [stableOp, ho, hx] at hst
   split at hst
   · rename_i v' j n hv
     cases hv
     rw [convK_int] at h; cases h
   · cases hst
 · cases h
theorem PartsR_nth : ∀ {l : List (List Leaf × Bool)} {v : List Value}, PartsR w Φ β hp l v → ∀ i x, nth l i = some x → ∃ u, v[i]? = some u ∧ PartR w Φ β hp x u
 | [], _, h, i, x, hx => by simp [nth] at hx
 | l :: ls, _, ⟨v, vs', e, h1, h2⟩, 0, x, hx => by subst e; simp [nth] at hx; subst hx; exact ⟨v, by simp, h1⟩
 | l :: ls, _, ⟨v, vs', e, h1, h2⟩, i + 1, x, hx => by subst e; simp [nth] at hx; simpa using PartsR_nth h2 i x hx
theorem PartR_SVR {cs : List Leaf} {agg : Bool} {x : SVal} {u : Value} (h : asVal agg cs = some x) (hr : PartR w Φ β hp (cs, agg) u) : SVR w Φ β hp x u := by
 unfold PartR at hr
 unfold asVal at h
 split at h
 · cases h; simp only [if_true] at hr; exact hr
 · cases h; simp only [Bool.false_eq_true, if_false] at hr; obtain ⟨v, vs', e, h1, h2⟩ := hr; cases e; exact h1
 · cases h
theorem pstep_extract (hr : Rel w0 Φ0 own0 N w Φ β s a)
  {x : Operand} {i : Nat} (ho : o.op = .extract x i) (h : stepK cx o s k = some r) : PStep P R (fun _ => True) w Φ β s a o k r := by
 simp only [stepK, ho] at h
 split at h
 case h_2 => cases h
 rename_i u hx
 have h1 := hr.eval hx
 unfold extractK at h
 split at h
 case h_2 => cases h
 rename_i ps
 obtain ⟨vs, ev, hps⟩ := h1
 split at h
 case h_2 => cases h
 rename_i cs agg hn
 split at h
 case h_2 => cases h
 rename_i v hv
 obtain ⟨y, hy, hpr⟩ := PartsR_nth hps i _ hn
 have hy' : vs[i]? = some y := by simpa using hy
 exact pstep h (v := y) (fun w _ => by simp [execOp, ho, ev, Instr.extract, hy']) (PartR_SVR hv hpr)
theorem step_extract (hr : Rel w0 Φ0 own0 N w Φ β s a) (hN : ∀ d, o.dst = some d → N.ok d) (hk : ∀ s' a' w' Φ' β', Rel w0 Φ0 own0 N w' Φ' β' s' a' → k s' = some r → next a' w')
  {x : Operand} {i : Nat} (ho : o.op = .extract x i) (h : stepK cx o s k = some r) : o.wp P a w next Q :=
 (pstep_extract hr ho h).wp hr trivial hN hk
theorem fields_nth {fields : List Field} {fs : List (Nat × Nat × Bool)} (h : fields.map (fieldOf P) = fs.map some) {i : Nat} {x : Nat × Nat × Bool} (hx : nth fs i = some x) :
  ∃ f, fields[i]? = some f ∧ fieldOf P f = some x := by
 rw [nth_getElem?] at hx
 have : (fields.map (fieldOf P))[i]? = some (some x) := by rw [h]; simp [hx]
 simpa using this
theorem pstep_fieldAddr (hcx : CxOk P cx) (hr : Rel w0 Φ0 own0 N w Φ β s a)
  {t : TypeId} {x : Operand} {i : Nat} (ho : o.op = .fieldAddr t x i) (h : stepK cx o s k = some r) : PStep P R (fun _ => True) w Φ β s a o k r := by
 simp only [stepK, ho] at h
 split at h
 case h_2 => cases h
 rename_i td u htd hx
 have h1 := hr.eval hx
 unfold fieldAddrK at h
 split at h
 case h_2 => cases h
 rename_i fs zs
 obtain ⟨_, fields, hu, hf, hne⟩ := hcx.tab t _ htd
 have key : ∀ (off n : Nat) (agg : Bool) (q : Addr), nth fs i = some (off, n, agg) → a.eval x = .pointer (some q) → ∀ w, True → (execOp a.eval o).run P w = .ok (.value (.pointer (some (q.add off)))) w := by
  intro off n agg q hn hv w _
  obtain ⟨f, hfi, hfo⟩ := fields_nth hf hn
  have hfi' : fields[i]? = some f := by simpa using hfi
  unfold fieldOf at hfo
  split at hfo
  case h_2 => cases hfo
  rename_i inf dd hinf hdd
  simp only [Option.some.injEq, Prod.mk.injEq] at hfo
  obtain ⟨e1, e2, e3⟩ := hfo
  have hmem : (off, n, agg) ∈ fs := by rw [nth_getElem?] at hn; exact List.mem_of_getElem? hn
  have hn0 : inf.size ≠ 0 := by rw [e2]; exact hne _ hmem
  simp [execOp, ho, hv, Instr.fieldAt, run_underlying hu, hfi', Instr.sureAddr, fieldPlace, sizeOf, run_info hinf, hn0, e1]
 split at h
 · rename_i off n agg id p hn
   obtain ⟨b, hb, hv⟩ := h1
   exact pstep h (key _ _ _ _ hn hv) ⟨b, hb, by rw [Addr.add0]⟩
 · rename_i off n agg id j p hn
   obtain ⟨loc, hb, ⟨q, hv⟩, hrow⟩ := h1
   refine pstep h (key _ _ _ _ hn hv) ⟨loc, hb, ⟨_, rfl⟩, fun sz' m' h' => ?_⟩
   obtain ⟨b, ob, e1, e2⟩ := hrow sz' m' h'
   rw [hv] at e2
   simp only [Value.pointer.injEq, Option.some.injEq] at e2
   subst e2
   exact ⟨b, ob, e1, by rw [Addr.add0, Nat.add_assoc]⟩
 · rename_i off n agg e y p hn
   obtain ⟨b, ob, us, h2, h3, h4, h5⟩ := h1
   exact pstep h (key _ _ _ _ hn h5) ⟨b, ob, us, h2, h3, h4, by rw [Addr.add0, Nat.add_assoc]⟩
 · cases h
theorem step_fieldAddr (hcx : CxOk P cx) (hr : Rel w0 Φ0 own0 N w Φ β s a) (hN : ∀ d, o.dst = some d → N.ok d) (hk : ∀ s' a' w' Φ' β', Rel w0 Φ0 own0 N w' Φ' β' s' a' → k s' = some r → next a' w')
  {t : TypeId} {x : Operand} {i : Nat} (ho : o.op = .fieldAddr t x i) (h : stepK cx o s k = some r) : o.wp P a w next Q :=
 (pstep_fieldAddr hcx hr ho h).wp hr trivial hN hk
theorem pstep_field (hcx : CxOk P cx) (hr : Rel w0 Φ0 own0 N w Φ β s a)
  {t : TypeId} {x : Operand} {i : Nat} (ho : o.op = .field t x i) (h : stepK cx o s k = some r) : PStep P R (fun _ => True) w Φ β s a o k r := by
 simp only [stepK, ho] at h
 split at h
 case h_2 => cases h
 rename_i td u htd hx
 have h1 := hr.eval hx
 unfold fieldK at h
 split at h
 case h_2 => cases h
 rename_i fs zs
 obtain ⟨_, fields, hu, hf, hne⟩ := hcx.tab t _ htd
 split at h
 case h_2 => cases h
 rename_i off n agg cs hn
 obtain ⟨vs, hv, hcs⟩ := h1
 split at h
 case h_2 => cases h
 rename_i v hval
 obtain ⟨f, hfi, hfo⟩ := fields_nth hf hn
 have hfi' : fields[i]? = some f := by simpa using hfi
 unfold fieldOf at hfo
 split at hfo
 case h_2 => cases hfo
 rename_i inf dd hinf hdd
 simp only [Option.some.injEq, Prod.mk.injEq] at hfo
 obtain ⟨e1, e2, e3⟩ := hfo
 have hR := LfRs_take n (LfRs_drop off hcs)
 refine pstep h (v := valOf agg ((vs.toList.drop off).take n)) (fun w _ => ?_) (asVal_SVR hval hR)
 have hagg : (isAgg f.type).run P w = .ok agg w := by
  rw [← e3]; simp [isAgg, run_underlying hdd]; cases dd <;> rfl
 cases agg with
 | true =>
   simp only [execOp, ho, hv, Instr.field, Sem.run_bind, run_underlying hu, Result.andThen_ok, hfi', asAgg, Sem.run_pure, part, hagg, if_true, sizeOf, run_info hinf, e1, e2, valOf]
   congr 4
   rw [← Array.toList_inj]; simp [List.extract_eq_take_drop]
 | false =>
   unfold asVal at hval
   split at hval
   · contradiction
   · rename_i y heq
     rw [heq] at hR
     obtain ⟨z, zs', ez, hz1, hz2⟩ := hR
     have hz : vs[off]? = some z := by
      have : ((vs.toList.drop off).take n)[0]? = some z := by rw [ez]; rfl
      rw [List.getElem?_take] at this
      split at this
      · simpa using this
      · cases this
     simp only [execOp, ho, hv, Instr.field, Sem.run_bind, run_underlying hu, Result.andThen_ok, hfi', asAgg, Sem.run_pure, part, hagg, sizeOf, run_info hinf, e1, e2, valOf, hz, ez]
     rfl
   · cases hval
theorem step_field (hcx : CxOk P cx) (hr : Rel w0 Φ0 own0 N w Φ β s a) (hN : ∀ d, o.dst = some d → N.ok d) (hk : ∀ s' a' w' Φ' β', Rel w0 Φ0 own0 N w' Φ' β' s' a' → k s' = some r → next a' w')
  {t : TypeId} {x : Operand} {i : Nat} (ho : o.op = .field t x i) (h : stepK cx o s k = some r) : o.wp P a w next Q :=
 (pstep_field hcx hr ho h).wp hr trivial hN hk
theorem drop_take_cellsAt {b p : Nat} {us : List Value} (h : cellsAt w b p us) (off n : Nat) : cellsAt w b (p + off) ((us.drop off).take n) := by
 refine cellsAt_of _ _ _ fun j v hj => ?_
 rw [List.getElem?_take] at hj
 split at hj
 · simp only [List.getElem?_drop] at hj
   have := cellsAt_get us p b h (off + j) v hj
   rwa [show p + (off + j) = p + off + j by omega] at this
 · cases hj
def LoadsIn (Φ : Nat → Prop) (β : Loc) (K : Nat → Prop) : SVal → Prop
 | .one (.ptr id _) => ∀ b p, β id = some (some (b, p)) → K b
 | .one (.eptr id _ _) => ∀ b p, β id = some (some (b, p)) → K b
 | .one (.vptr _ _ _) => ∀ b, Φ b → K b
 | _ => True
theorem loadS_cases {td : TD} {v : SVal} {k : SVal → St → Option R} (h : loadS s td v k = some r) : loadK s td v (fun x => k x s) = some r ∨
 ∃ id i e l n row, v = .one (.eptr id i 0) ∧ look s.heap id = some (.rows e l none) ∧ td = .slice e n ∧ nth l i = some row ∧ takeK s id (.rows e l (some i)) e row k = some r := .inl h
theorem pstep_loadK (hcx : CxOk P cx) (hr : Rel w0 Φ0 own0 N w Φ β s a) {S : World → Prop} {K : Nat → Prop} (hS : ∀ w', S w' → ∀ b, K b → w'.heap[b]? = w.heap[b]?)
  {t : TypeId} {x : Operand} (ho : o.op = .load t x) {td : TD} {u : SVal} (hK : LoadsIn Φ β K u) (htd : cx.tab t = some td) (h1 : SVR w Φ β s.heap u (a.eval x)) (h : loadK s td u (fun r => k (s.set o.dst r)) = some r) : PStep P R S w Φ β s a o k r := by
 have hok := hcx.tab t _ htd
 have key : ∀ (b p : Nat) (us : List Value) (ls : List Leaf) (off : Nat), K b → a.eval x = .pointer (some ⟨b, p + off, none⟩) → cellsAt w b p us → LfRs w Φ β s.heap ls us →
   cutK td ls off (fun r => k (s.set o.dst r)) = some r → PStep P R S w Φ β s a o k r := by
  intro b p us ls off hb hv hc hl hkk
  obtain ⟨hle, hkk⟩ := cond_none hkk
  have hle := Nat.le_of_ble_eq_true hle
  split at hkk
  case h_2 => cases hkk
  rename_i v hval
  have hR := LfRs_take td.size (LfRs_drop off hl)
  have hl2 : ((us.drop off).take td.size).length = td.size := by
   rw [LfRs_len hR]; simp; omega
  refine pstep hkk (v := valOf td.agg ((us.drop off).take td.size)) (fun w1 h1 => ?_) (asVal_SVR hval hR)
  have := run_loadVar (P := P) hok (drop_take_cellsAt (cellsAt_of_heap (hS w1 h1 b hb) us p hc) off td.size) hl2
  simp [execOp, ho, Instr.loadAt, hv, Instr.sureAddr, this]
 unfold loadK at h
 split at h
 · rename_i id off
   obtain ⟨b, hb, hv⟩ := h1
   split at h
   case h_3 => cases h
   · rename_i cs hl
     obtain ⟨b', vs, hb', hn, hfz, hc, hls⟩ := hr.hp.ob id _ hl
     rw [hb] at hb'; cases hb'
     exact key b 0 vs cs off (hK b 0 hb) (by rw [Nat.zero_add]; exact hv) hc hls h
   · rename_i cs hl
     obtain ⟨b', vs, hb', hn, hfz, hc, hls⟩ := hr.hp.ob id _ hl
     rw [hb] at hb'; cases hb'
     exact key b 0 vs cs off (hK b 0 hb) (by rw [Nat.zero_add]; exact hv) hc hls h
 · rename_i e y off
   obtain ⟨b, ob, us, h2, h3, h4, h5⟩ := h1
   exact key b ob us _ off (hK b h2) h5 h3 (unpackL_LfRs e y us h4) h
 · rename_i id i off
   obtain ⟨loc, hb, ⟨q, hq⟩, hrow⟩ := h1
   have row : ∀ (e : CT) (l : List e.denote) (y : e.denote), rowOf (look s.heap id) = some (e.size, l.length) → nth l i = some y → (∀ b p, loc = some (b, p) → RowAt w Φ e b p l) →
     cutK td (unpackL e y) off (fun r => k (s.set o.dst r)) = some r → PStep P R S w Φ β s a o k r := by
    intro e l y hrw hn hat hkk
    obtain ⟨b, ob, e1, e2⟩ := hrow _ _ hrw
    subst e1
    obtain ⟨us, hu1, hu2⟩ := hat b ob rfl i y hn
    exact key b (ob + i * e.size) us _ off (hK b ob hb) e2 hu1 (unpackL_LfRs e y us hu2) hkk
   split at h
   · rename_i e l hl
     cases hn : nth l i with
     | none => rw [hn] at h; cases h
     | some y =>
       rw [hn] at h
       refine row e l y (by rw [hl]; rfl) hn (fun b p hbp => ?_) h
       rcases hr.hp.ob id _ hl with ⟨h3, _⟩ | ⟨b', p', h3, _, _, h6⟩
       · rw [hb] at h3; cases h3; cases hbp
       · rw [hb] at h3; cases h3; cases hbp; exact h6
   · rename_i e l hl
     cases hn : nth l i with
     | none => rw [hn] at h; cases h
     | some y =>
       rw [hn] at h
       refine row e l y (by rw [hl]; rfl) hn (fun b p hbp => ?_) h
       rcases hr.hp.ob id _ hl with ⟨h3, _⟩ | ⟨b', p', h3, _, h6⟩
       · rw [hb] at h3; cases h3; cases hbp
       · rw [hb] at h3; cases h3; cases hbp; exact h6
   · rename_i e l cs m hl
     replace h := cond_none h
     obtain ⟨hbi, h⟩ := h
     have hi : i = l.length := Nat.eq_of_beq_eq_true hbi
     subst hi
     obtain ⟨b', p', us, h3, _, _, _, h5, h6, _, _⟩ := hr.hp.ob id _ hl
     rw [hb] at h3; cases h3
     obtain ⟨b2, o2, e1, e2⟩ := hrow e.size _ (by rw [hl]; rfl)
     cases e1
     exact key b' (p' + l.length * e.size) us cs off (hK b' p' hb) e2 h5 h6 h
   · cases h
 · cases h
theorem pstep_load (hcx : CxOk P cx) (hr : Rel w0 Φ0 own0 N w Φ β s a) {S : World → Prop} {K : Nat → Prop} (hS : ∀ w', S w' → ∀ b, K b → w'.heap[b]? = w.heap[b]?)
  {t : TypeId} {x : Operand} (ho : o.op = .load t x) (hK : ∀ v, evalO s.env x = some v → LoadsIn Φ β K v) (hnt : ∀ id i e l, evalO s.env x = some (.one (.eptr id i 0)) → look s.heap id = some (.rows e l none) → s.held id = true) (hng : gOp cx.gv x = none) (h : stepK cx o s k = some r) : PStep P R S w Φ β s a o k r := by
 simp only [stepK, ho, hng] at h
 split at h
 case h_2 => cases h
 rename_i td u htd hx
 rcases loadS_cases h with h | ⟨id, i, e, l, n, row, e1, e2, e3, e4, e5⟩
 · exact pstep_loadK hcx hr hS ho (hK u hx) htd (hr.eval hx) h
 · subst e1
   have := hnt id i e l hx e2
   unfold takeK at e5
   rw [this] at e5
   cases e5
theorem step_loadK (hcx : CxOk P cx) (hr : Rel w0 Φ0 own0 N w Φ β s a) (hN : ∀ d, o.dst = some d → N.ok d) (hk : ∀ s' a' w' Φ' β', Rel w0 Φ0 own0 N w' Φ' β' s' a' → k s' = some r → next a' w')
  {t : TypeId} {x : Operand} (ho : o.op = .load t x) {td : TD} {u : SVal} (htd : cx.tab t = some td) (hx : SVR w Φ β s.heap u (a.eval x)) (h : loadK s td u (fun r => k (s.set o.dst r)) = some r) : o.wp P a w next Q :=
 (pstep_loadK (S := fun w' => w' = w) (K := fun _ => True) hcx hr (fun w' e b _ => by rw [e]) ho (by unfold LoadsIn; split <;> intros <;> trivial) htd hx h).wp hr rfl hN hk
theorem loadK_run {t : TypeId} {td : TD} (hok : TdOk P t td) (hr : Rel w0 Φ0 own0 N w Φ β s a) {v : SVal} {u : Value} (hv : SVR w Φ β s.heap v u) {k : SVal → Option R} {r : R} (h : loadK s td v k = some r) :
  ∃ x b p val, u = .pointer (some ⟨b, p, none⟩) ∧ (loadVar t ⟨b, p, none⟩).run P w = .ok val w ∧ SVR w Φ β s.heap x val ∧ k x = some r := by
 have key : ∀ (b p : Nat) (us : List Value) (ls : List Leaf) (off : Nat), u = .pointer (some ⟨b, p + off, none⟩) → cellsAt w b p us → LfRs w Φ β s.heap ls us →
   cutK td ls off k = some r → ∃ x b p val, u = .pointer (some ⟨b, p, none⟩) ∧ (loadVar t ⟨b, p, none⟩).run P w = .ok val w ∧ SVR w Φ β s.heap x val ∧ k x = some r := by
  intro b p us ls off hv hc hl hkk
  obtain ⟨hle, hkk⟩ := cond_none hkk
  have hle := Nat.le_of_ble_eq_true hle
  split at hkk
  case h_2 => cases hkk
  rename_i v hval
  have hR := LfRs_take td.size (LfRs_drop off hl)
  have hl2 : ((us.drop off).take td.size).length = td.size := by
   rw [LfRs_len hR]; simp; omega
  exact ⟨v, b, p + off, valOf td.agg ((us.drop off).take td.size), hv, run_loadVar (P := P) hok (drop_take_cellsAt hc off td.size) hl2, asVal_SVR hval hR, hkk⟩
 unfold loadK at h
 split at h
 · rename_i id off
   obtain ⟨b, hb, hv⟩ := hv
   split at h
   case h_3 => cases h
   · rename_i cs hl
     obtain ⟨b', vs, hb', hn, hfz, hc, hls⟩ := hr.hp.ob id _ hl
     rw [hb] at hb'; cases hb'
     exact key b 0 vs cs off (by rw [Nat.zero_add]; exact hv) hc hls h
   · rename_i cs hl
     obtain ⟨b', vs, hb', hn, hfz, hc, hls⟩ := hr.hp.ob id _ hl
     rw [hb] at hb'; cases hb'
     exact key b 0 vs cs off (by rw [Nat.zero_add]; exact hv) hc hls h
 · rename_i e y off
   obtain ⟨b, ob, us, h2, h3, h4, h5⟩ := hv
   exact key b ob us _ off h5 h3 (unpackL_LfRs e y us h4) h
 · rename_i id i off
   obtain ⟨loc, hb, ⟨q, hq⟩, hrow⟩ := hv
   have row : ∀ (e : CT) (l : List e.denote) (y : e.denote), rowOf (look s.heap id) = some (e.size, l.length) → nth l i = some y → (∀ b p, loc = some (b, p) → RowAt w Φ e b p l) →
     cutK td (unpackL e y) off k = some r → ∃ x b p val, u = .pointer (some ⟨b, p, none⟩) ∧ (loadVar t ⟨b, p, none⟩).run P w = .ok val w ∧ SVR w Φ β s.heap x val ∧ k x = some r := by
    intro e l y hrw hn hat hkk
    obtain ⟨b, ob, e1, e2⟩ := hrow _ _ hrw
    subst e1
    obtain ⟨us, hu1, hu2⟩ := hat b ob rfl i y hn
    exact key b (ob + i * e.size) us _ off e2 hu1 (unpackL_LfRs e y us hu2) hkk
   split at h
   · rename_i e l hl
     cases hn : nth l i with
     | none => rw [hn] at h; cases h
     | some y =>
       rw [hn] at h
       refine row e l y (by rw [hl]; rfl) hn (fun b p hbp => ?_) h
       rcases hr.hp.ob id _ hl with ⟨h3, _⟩ | ⟨b', p', h3, _, _, h6⟩
       · rw [hb] at h3; cases h3; cases hbp
       · rw [hb] at h3; cases h3; cases hbp; exact h6
   · rename_i e l hl
     cases hn : nth l i with
     | none => rw [hn] at h; cases h
     | some y =>
       rw [hn] at h
       refine row e l y (by rw [hl]; rfl) hn (fun b p hbp => ?_) h
       rcases hr.hp.ob id _ hl with ⟨h3, _⟩ | ⟨b', p', h3, _, h6⟩
       · rw [hb] at h3; cases h3; cases hbp
       · rw [hb] at h3; cases h3; cases hbp; exact h6
   · rename_i e l cs m hl
     replace h := cond_none h
     obtain ⟨hbi, h⟩ := h
     have hi : i = l.length := Nat.eq_of_beq_eq_true hbi
     subst hi
     obtain ⟨b', p', us, h3, _, _, _, h5, h6, _, _⟩ := hr.hp.ob id _ hl
     rw [hb] at h3; cases h3
     obtain ⟨b2, o2, e1, e2⟩ := hrow e.size _ (by rw [hl]; rfl)
     cases e1
     exact key b' (p' + l.length * e.size) us cs off e2 h5 h6 h
   · cases h
 · cases h
theorem pstep_nilCheck (hr : Rel w0 Φ0 own0 N w Φ β s a)
  {x : Operand} (ho : o.op = .nilCheck x) (h : stepK cx o s k = some r) : PStep P R (fun _ => True) w Φ β s a o k r := by
 simp only [stepK, ho] at h
 split at h
 · rename_i id off hx
   have h1 := hr.eval hx
   have h2 := h1
   obtain ⟨b, hb, hv⟩ := h1
   exact pstep h (v := a.eval x) (fun w _ => by simp [execOp, ho, hv]) h2
 · rename_i id i off hx
   have h1 := hr.eval hx
   have h2 := h1
   obtain ⟨loc, hb, ⟨q, hv⟩, _⟩ := h1
   exact pstep h (v := a.eval x) (fun w _ => by simp [execOp, ho, hv]) h2
 · rename_i e y off hx
   have h1 := hr.eval hx
   have h2 := h1
   obtain ⟨b, ob, us, _, _, _, hv⟩ := h1
   exact pstep h (v := a.eval x) (fun w _ => by simp [execOp, ho, hv]) h2
 · cases h
theorem step_nilCheck (hr : Rel w0 Φ0 own0 N w Φ β s a) (hN : ∀ d, o.dst = some d → N.ok d) (hk : ∀ s' a' w' Φ' β', Rel w0 Φ0 own0 N w' Φ' β' s' a' → k s' = some r → next a' w')
  {x : Operand} (ho : o.op = .nilCheck x) (h : stepK cx o s k = some r) : o.wp P a w next Q :=
 (pstep_nilCheck hr ho h).wp hr trivial hN hk
theorem ints_LfRs : ∀ {e : CT} {ls : List Leaf} {x : e.denote} {us : List Value}, ints e ls = some x → LfRs w Φ β hp ls us → LfRs w Φ β hp (unpackL e x) us
 | .int k, [.int k' x], y, us, h, hv => by
   simp only [ints] at h
   split at h
   · rename_i hk; subst hk; cases h; exact hv
   · cases h
 | .prod (.int k) b, .int k' x :: r, y, us, h, hv => by
   simp only [ints] at h
   split at h
   case isFalse => cases h
   rename_i hk
   subst hk
   split at h
   case h_2 => cases h
   rename_i z hz
   cases h
   obtain ⟨v, vs', e1, h1, h2⟩ := hv
   exact ⟨v, vs', e1, h1, ints_LfRs hz h2⟩
 | .str, [.str x], y, us, h, hv => by
   simp only [ints] at h
   cases h; exact hv
 | .prod .str b, .str x :: r, y, us, h, hv => by
   simp only [ints] at h
   split at h
   case h_2 => cases h
   rename_i z hz
   cases h
   obtain ⟨v, vs', e1, h1, h2⟩ := hv
   exact ⟨v, vs', e1, h1, ints_LfRs hz h2⟩
 | .unit, _, _, _, h, _ => by simp [ints] at h
 | .bool, _, _, _, h, _ => by simp [ints] at h
 | .str, [], _, _, h, _ => by simp [ints] at h
 | .str, l :: m :: r, _, _, h, _ => by cases l <;> simp [ints] at h
 | .prod .str _, [], _, _, h, _ => by simp [ints] at h
 | .list _, _, _, _, h, _ => by simp [ints] at h
 | .sum _ _, _, _, _, h, _ => by simp [ints] at h
 | .int _, [], _, _, h, _ => by simp [ints] at h
 | .int _, l :: m :: r, _, _, h, _ => by cases l <;> simp [ints] at h
 | .prod (.int _) _, [], _, _, h, _ => by simp [ints] at h
theorem intRows_at : ∀ {n : Nat} {e : CT} {cs : List Leaf} {l : List e.denote} {i : Nat} {x : e.denote} {us : List Value}, intRows e (chunks e.size n cs) = some l → nth l i = some x → LfRs w Φ β hp cs us →
  LfRs w Φ β hp (unpackL e x) ((us.drop (i * e.size)).take e.size)
 | 0, e, cs, l, i, x, us, h, hn, hv => by simp [chunks, intRows] at h; subst h; cases hn
 | n + 1, e, cs, l, i, x, us, h, hn, hv => by
   simp only [chunks, intRows] at h
   split at h
   case h_2 => cases h
   rename_i y ys hy hys
   cases h
   cases i with
   | zero =>
     cases hn
     have := LfRs_take e.size hv
     simpa using ints_LfRs hy this
   | succ i =>
     have := intRows_at (i := i) hys hn (LfRs_drop e.size hv)
     rwa [List.drop_drop, show e.size + i * e.size = (i + 1) * e.size by rw [Nat.add_mul]; omega] at this
theorem pstep_index (hcx : CxOk P cx) (hr : Rel w0 Φ0 own0 N w Φ β s a)
  {t : TypeId} {x i : Operand} (ho : o.op = .index t x i) (h : stepK cx o s k = some r) : PStep P R (fun _ => True) w Φ β s a o k r := by
 simp only [stepK, ho] at h
 split at h
 case h_3 => cases h
 case h_2 =>
  rename_i e n agg zs cs kk j htd hx hi
  obtain ⟨vs, hv, hcs⟩ := hr.eval hx
  obtain ⟨_, hzs, hpos, en, hu, ⟨dd, hdd, hdagg⟩, inf, hinf, hsz⟩ := hcx.tab t _ htd
  have hj := hr.eval hi
  simp only [SVR, LfR] at hj
  unfold arrK at h
  split at h
  case h_2 => cases h
  rename_i l hl
  obtain ⟨hin, h⟩ := cond_none h
  obtain ⟨h0, hlt⟩ := inb_iff.1 hin
  cases hn : nth l j.toNat with
  | none => rw [hn] at h; cases h
  | some y =>
    rw [hn] at h
    simp only [Option.bind_some] at h
    split at h
    case h_2 => cases h
    rename_i v hval
    have hR := intRows_at hl hn hcs
    have hlen := LfRs_len hR
    refine pstep h (v := valOf agg ((vs.toList.drop (j.toNat * e.size)).take e.size)) (fun w _ => ?_) (asVal_SVR hval hR)
    have hagg : (isAgg en).run P w = .ok agg w := by
     rw [← hdagg]; simp [isAgg, run_underlying hdd]; cases dd <;> rfl
    have hcond : 0 ≤ j ∧ j < (n : Int) := ⟨h0, hlt⟩
    cases agg with
    | true =>
      simp only [execOp, ho, hv, hj, Instr.index, asIntOf, Sem.run_bind, Sem.run_pure, run_underlying hu, Result.andThen_ok, hcond, and_self, if_true, part, hagg, sizeOf, run_info hinf, hsz, valOf]
      congr 4
      rw [← Array.toList_inj]; simp [List.extract_eq_take_drop]
    | false =>
      unfold asVal at hval
      split at hval
      · contradiction
      · rename_i y2 heq
        rw [heq] at hR
        obtain ⟨z, zs', ez, hz1, hz2⟩ := hR
        have hz : vs[j.toNat * e.size]? = some z := by
         have : ((vs.toList.drop (j.toNat * e.size)).take e.size)[0]? = some z := by rw [ez]; rfl
         rw [List.getElem?_take, if_pos hpos] at this
         simpa using this
        simp only [execOp, ho, hv, hj, Instr.index, asIntOf, Sem.run_bind, Sem.run_pure, run_underlying hu, Result.andThen_ok, hcond, and_self, if_true, part, hagg, sizeOf, run_info hinf, hsz, valOf, hz, ez]
        rfl
      · cases hval
 rename_i zz p kk j htd hx hi
 obtain ⟨sx, ex, ex'⟩ := hr.eval hx
 obtain ⟨_, dd, ht, _, _, hst, _⟩ := hcx.tab t _ htd
 have := hst _ rfl; subst this
 have hj := hr.eval hi
 simp only [SVR, LfR] at hj
 obtain ⟨hin, h⟩ := cond_none h
 obtain ⟨h0, hlt⟩ := inb_iff.1 hin
 cases hn : nth p j.toNat with
 | none => rw [hn] at h; cases h
 | some b =>
   rw [hn] at h
   rw [nth_getElem?] at hn
   have hb : sx[j.toNat]? = some b := by
    have : sx[j.toNat]? = sx.data.toList[j.toNat]? := by
     rw [Array.getElem?_toList]
     simp only [getElem?_def]
     rfl
    rw [this, ex', hn]
   refine pstep h (v := .int .u8 b.toNat) (fun w _ => ?_) (by rfl)
   simp [execOp, ho, ex, hj, Instr.index, asIntOf, run_underlying ht, h0, hb]
theorem step_index (hcx : CxOk P cx) (hr : Rel w0 Φ0 own0 N w Φ β s a) (hN : ∀ d, o.dst = some d → N.ok d) (hk : ∀ s' a' w' Φ' β', Rel w0 Φ0 own0 N w' Φ' β' s' a' → k s' = some r → next a' w')
  {t : TypeId} {x i : Operand} (ho : o.op = .index t x i) (h : stepK cx o s k = some r) : o.wp P a w next Q :=
 (pstep_index hcx hr ho h).wp hr trivial hN hk
theorem SlR_len {loc : Option (Nat × Nat)} {sz n : Nat} {rr : Option (Nat × Nat)} {v : Value} (h : SlR w loc sz n rr v) : ∃ b cap, v = .slice b (rr.getD (0, n)).2 cap := by
 unfold SlR at h
 cases loc with
 | none => obtain ⟨⟨z, h1⟩, h2, h3⟩ := h; exact ⟨z, 0, by rw [h1, h3]⟩
 | some bo => obtain ⟨o', cap, h1, _⟩ := h; exact ⟨_, cap, h1⟩
theorem pstep_len (hcx : CxOk P cx) (hr : Rel w0 Φ0 own0 N w Φ β s a)
  {c : Call} (ho : o.op = .call c) (hc : c.callee = .builtin .len) (hnm : ∀ x id, c.args.toList = [x] → evalO s.env x ≠ some (.one (.mp id))) (h : stepK cx o s k = some r) : PStep P R (fun _ => True) w Φ β s a o k r := by
 simp only [stepK, ho, hc] at h
 split at h
 case h_2 => cases h
 rename_i x t ts hargs hty
 split at h
 case h_2 => cases h
 rename_i td v htd hx
 have hmp : lenMpK td s v = none := rfl
 rw [hmp] at h
 simp only at h
 split at h
 case h_2 => cases h
 rename_i n hl
 have h1 := hr.eval hx
 have hargs' : c.args = #[x] := by rw [← Array.toList_inj]; simpa using hargs
 have ht : c.argTypes[0]? = some t := by rw [← Array.getElem?_toList, hty]; rfl
 have run : (∀ w, (Builtin.len_ c.argTypes o.type #[a.eval x]).run P w = .ok (.int .i64 n) w) → PStep P R (fun _ => True) w Φ β s a o k r := by
  intro hrun
  refine pstep h (v := .int .i64 n) (fun w _ => ?_) (by rfl)
  simp [execOp, ho, resolve, hc, invoke, builtin, hargs', hrun]
 apply run
 intro w1
 have slc : ∀ (e : CT) (en : Nat) (b : Option Addr) (m c' : Nat), td = .slice e en → a.eval x = .slice b m c' → (Builtin.len_ c.argTypes o.type #[a.eval x]).run P w1 = .ok (.int .i64 m) w1 := by
  intro e en b m c' etd ex
  subst etd
  have hu := (hcx.tab t _ htd).2.1
  simp [Builtin.len_, ht, ex, run_underlying hu, goInt]
 unfold lenOf at hl
 split at hl
 · cases hl
   obtain ⟨sx, ex, ex'⟩ := h1
   obtain ⟨_, dd, hdd, _, _, hi, _⟩ := hcx.tab t _ htd
   have := hi _ rfl; subst this
   have hsz : sx.size = sx.data.toList.length := (Array.length_toList (xs := sx.data)).symm
   simp [Builtin.len_, ht, ex, run_underlying hdd, goInt, hsz, ex']
 · cases hl
   obtain ⟨b, cap, ev, _⟩ := h1
   exact slc _ _ b _ cap rfl (by simpa using ev)
 · cases hl
   obtain ⟨⟨b, cap, ev, _⟩, _⟩ := h1
   exact slc _ _ b _ cap rfl (by simpa using ev)
 · cases hl; exact slc _ _ none _ 0 rfl h1
 · rename_i e en id
   split at hl
   · rename_i sz m hrow
     obtain ⟨_, hl⟩ := cond_none hl
     cases hl
     obtain ⟨loc, hb, _, hs⟩ := h1
     obtain ⟨b, cap, ev⟩ := SlR_len (hs _ _ hrow)
     exact slc _ _ b _ cap rfl ev
   · cases hl
 · rename_i e en id off m
   split at hl
   · rename_i sz m' hrow
     obtain ⟨_, hl⟩ := cond_none hl
     cases hl
     obtain ⟨loc, hb, _, hs⟩ := h1
     obtain ⟨b, cap, ev⟩ := SlR_len (hs _ _ hrow)
     exact slc _ _ b _ cap rfl ev
   · cases hl
 · cases hl
end
end Go.Bm
