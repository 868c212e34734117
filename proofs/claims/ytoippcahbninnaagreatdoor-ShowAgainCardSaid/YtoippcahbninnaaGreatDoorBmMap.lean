/-
  OUR OWN: the interpreter's step is sound: maps.
-/
import Derived.Test.YtoippcahbninnaaGreatDoorBmConv
import Derived.MapKept
namespace Go.Bm
set_option linter.unusedVariables false
set_option linter.unusedSimpArgs false

section
variable {P : Program} {R : Type} {w0 : World} {Φ0 own0 : Nat → Prop} {N : Frm} {w : World} {Φ : Nat → Prop} {β : Loc} {s : St} {a : Act} {hp : List (Nat × SObj)}
variable {cx : Cx} {o : Oper} {next : Act → World → Prop} {Q : Exit → Act → World → Prop} {k : St → Option R} {r : R}

theorem keyD_isKey {c : CT} {d : TypeDesc} {x : c.denote} {v : Value} (h : keyD c d) (hv : VC w Φ c x [v]) : MapKept.IsKey d v := by
  cases c <;> first | exact h.elim | (cases h; cases hv; rfl) | (cases h; cases hv; trivial) | (cases h; obtain ⟨s, e, _⟩ := hv; cases e; trivial)

theorem same_eqK {c : CT} {d : TypeDesc} {x y : c.denote} {u v : Value} (h : keyD c d) (hu : VC w Φ c x [u]) (hv : VC w Φ c y [v]) : Instr.sameNow d u v = some (c.eqK x y) := by
  cases c with
  | int k => cases h; cases hu; cases hv; simp [Instr.sameNow, CT.eqK]
  | bool => cases h; cases hu; cases hv; simp [Instr.sameNow, CT.eqK]
  | str =>
    cases h
    obtain ⟨s1, e1, h1⟩ := hu
    obtain ⟨s2, e2, h2⟩ := hv
    cases e1; cases e2
    show some (s1 == s2) = some (@BEq.beq (List UInt8) _ x y)
    congr 1
    rw [Bool.eq_iff_iff, MapKept.bytes_beq, beq_iff_eq, ← h1, ← h2]
    constructor
    · rintro rfl; rfl
    · intro e
      obtain ⟨⟨l1⟩⟩ := s1
      obtain ⟨⟨l2⟩⟩ := s2
      simp only at e
      rw [e]
  | _ => exact h.elim

theorem eqK_same {c : CT} {d : TypeDesc} {x y : c.denote} {u v : Value} (h : keyD c d) (hu : VC w Φ c x [u]) (hv : VC w Φ c y [v]) (e : c.eqK x y = true) : u = v := by
  obtain ⟨r, h1, h2⟩ := MapKept.sameNow_of_keys (keyD_isKey h hu) (keyD_isKey h hv)
  rw [same_eqK h hu hv] at h1
  cases h1
  exact h2.1 e

theorem sameBits_key {d : TypeDesc} {v : Value} (h : MapKept.IsKey d v) : Instr.sameBits 10000 v v = true := by
  cases d <;> cases v <;> simp_all [MapKept.IsKey, Instr.sameBits, MapKept.bytes_beq]

/-- A key among a map's entries; the entries behind it is laid. -/
theorem find_spec {c v : CT} {agg : Bool} {d : TypeDesc} (hd : keyD c d) {x : c.denote} {kv : Value} (hx : VC w Φ c x [kv]) : ∀ (l : List (c.denote × v.denote)) (es : List MapEntry) (i : Nat), EntR w Φ c v agg l es →
    (assoc c.eqK l x = none ∧ Instr.findNow d kv es i = some none ∧ ∀ (z : v.denote) (us : List Value) (e : MapEntry), VC w Φ v z us → e.key = kv → e.val = valOf agg us → EntR w Φ c v agg (assocSet c.eqK l x z) (es ++ [e])) ∨
    ∃ y j e, assoc c.eqK l x = some y ∧ Instr.findNow d kv es i = some (some (i + j, e.val)) ∧ es[j]? = some e ∧ e.key = kv ∧ (∃ us, VC w Φ v y us ∧ e.val = valOf agg us) ∧
      ∀ (z : v.denote) (us : List Value) (f : MapEntry → MapEntry), VC w Φ v z us → (f e).key = kv → (f e).val = valOf agg us → EntR w Φ c v agg (assocSet c.eqK l x z) (es.modify j f)
  | [], es, i, h => by
    cases h
    exact .inl ⟨rfl, rfl, fun z us e h1 h2 h3 => ⟨e, [], rfl, by rw [h2]; exact hx, ⟨us, h1, h3⟩, rfl⟩⟩
  | p :: l, es, i, ⟨e, es', e1, e2, ⟨us, e3, e4⟩, e5⟩ => by
    subst e1
    have hs := same_eqK hd hx e2
    cases hb : c.eqK x p.1 with
    | true =>
      rw [hb] at hs
      have hk : kv = e.key := eqK_same hd hx e2 hb
      refine .inr ⟨p.2, 0, e, by simp [assoc, hb], by simp [Instr.findNow, hs], rfl, hk.symm, ⟨us, e3, e4⟩, fun z us' f h1 h2 h3 => ?_⟩
      simp only [assocSet, hb, cond_true, List.modify_zero_cons]
      exact ⟨_, _, rfl, by rw [h2]; exact hx, ⟨us', h1, h3⟩, e5⟩
    | false =>
      rw [hb] at hs
      rcases find_spec hd hx l es' (i + 1) e5 with ⟨g1, g2, g3⟩ | ⟨y, j, e', g1, g2, g3, g4, g5, g6⟩
      · refine .inl ⟨by simp [assoc, hb, g1], by simp [Instr.findNow, hs, g2], fun z us' e' h1 h2 h3 => ?_⟩
        simp only [assocSet, hb, cond_false, List.cons_append]
        exact ⟨_, _, rfl, e2, ⟨us, e3, e4⟩, g3 z us' e' h1 h2 h3⟩
      · refine .inr ⟨y, j + 1, e', by simp [assoc, hb, g1], by simp [Instr.findNow, hs, g2]; omega, by simpa using g3, g4, g5, fun z us' f h1 h2 h3 => ?_⟩
        simp only [assocSet, hb, cond_false, List.modify_succ_cons]
        exact ⟨_, _, rfl, e2, ⟨us, e3, e4⟩, g6 z us' f h1 h2 h3⟩

theorem keyOf_VC {c : CT} {l : Leaf} {v : Value} {x : c.denote} (h : keyOf c l = some x) (hv : LfR w Φ β hp l v) : VC w Φ c x [v] := by
  unfold keyOf at h
  split at h
  · split at h
    · rename_i e; cases h; subst e; cases hv; rfl
    · cases h
  · cases h; cases hv; rfl
  · cases h; obtain ⟨s, e, h⟩ := hv; subst e; exact ⟨s, rfl, h⟩
  · cases h

theorem step_makeMap (hcx : CxOk P cx) (hr : Rel w0 Φ0 own0 N w Φ β s a) (hN : ∀ d, o.dst = some d → N.ok d) (hk : ∀ s' a' w' Φ' β', Rel w0 Φ0 own0 N w' Φ' β' s' a' → k s' = some r → next a' w')
    {t : TypeId} (ho : o.op = .makeMap t none) (h : stepK cx o s k = some r) : o.wp P a w next Q := by
  simp only [stepK, ho] at h
  split at h
  case h_2 => cases h
  rename_i kt vt agg htd
  by_cases hmk : ∃ e, cx.mkr t = true ∧ vt = .list e ∧ agg = false
  · obtain ⟨e, hm1, rfl, rfl⟩ := hmk
    rw [hm1] at h
    refine alloc_step (v := .map (some w.heap.size)) hN hk h (hr.new (.map #[] 0) (.mrows kt e [] none) 0 ?_ ?_) (by simp [execOp, ho, Instr.makeMap]) ?_
    · rintro c ⟨hs, g, ⟨_, b, es, cl, hb, hc, e1⟩, i, v, hv, _⟩
      simp only [Loc.at, if_true, Option.some.injEq, Prod.mk.injEq] at hb
      obtain ⟨rfl, _⟩ := hb
      rw [(MapKept.heap_alloc w _).1] at hc
      cases hc
      subst e1
      simp at hv
    · exact ⟨w.heap.size, #[], 0, by simp [Loc.at], fun h => absurd (hr.hp.flt _ h) (by omega), (MapKept.heap_alloc w _).1, rfl, ⟨fun e he => by simp at he, by simp⟩, rfl, fun i v r h1 => by simp at h1, fun i j v v' c h1 => by simp at h1⟩
    · exact ⟨w.heap.size, by simp [Loc.at], rfl⟩
  have hmade : madeM (cx.mkr t) kt vt agg = .map kt vt agg [] := by
    cases hmr : cx.mkr t with
    | false => unfold madeM; rfl
    | true => cases vt <;> first | rfl | (cases agg <;> first | rfl | exact absurd ⟨_, hmr, rfl, rfl⟩ hmk)
  rw [hmade] at h
  refine alloc_step (v := .map (some w.heap.size)) hN hk h (hr.new (.map #[] 0) (.map kt vt agg []) 0 (fun _ => RowB_none rfl) ?_) (by simp [execOp, ho, Instr.makeMap]) ?_
  · exact ⟨w.heap.size, #[], 0, by simp [Loc.at], fun h => absurd (hr.hp.flt _ h) (by omega), (MapKept.heap_alloc w _).1, rfl, ⟨fun e he => by simp at he, by simp⟩⟩
  · exact ⟨w.heap.size, by simp [Loc.at], rfl⟩

/-- A look takes nothing out, or it takes a row out. -/
theorem lookupS_cases {td : TD} {x i : SVal} {ok : Bool} {k : SVal → St → Option R} (h : lookupS td s x i ok k = some r) : lookupK td s x i ok (fun y => k y s) = some r ∨
    ∃ id kt e l lf y, x = .one (.mp id) ∧ look s.heap id = some (.mrows kt e l none) ∧ td = .map kt (.list e) false ∧ ok = false ∧ i = .one lf ∧ keyOf kt lf = some y ∧ takeK s id (.mrows kt e l (assocIx kt.eqK l y 0)) e (assocGet kt.eqK [] l y) k = some r := by
  unfold lookupS at h
  split at h
  · rename_i id
    split at h
    · rename_i kt e l hl
      split at h
      · rename_i kt' vt agg lf
        split at h
        case isFalse => cases h
        rename_i hc
        obtain ⟨rfl, rfl, rfl⟩ := hc
        split at h
        · rename_i y hy; exact .inr ⟨id, _, e, l, lf, y, rfl, hl, rfl, rfl, rfl, hy, h⟩
        · cases h
      · cases h
    · exact .inl h
  · exact .inl h

theorem pstep_lookupK (hcx : CxOk P cx) (hr : Rel w0 Φ0 own0 N w Φ β s a) {S : World → Prop} {K : Nat → Prop} (hS : ∀ w', S w' → ∀ b, K b → w'.heap[b]? = w.heap[b]?)
    {t : TypeId} {x i : Operand} {ok : Bool} (ho : o.op = .lookup t x i ok) (hK : ∀ id, evalO s.env x = some (.one (.mp id)) → ∀ b p, β id = some (some (b, p)) → (∃ c v g l, look s.heap id = some (.map c v g l)) → K b)
    {td : TD} {v j : SVal} (htd : cx.tab t = some td) (hx : evalO s.env x = some v) (hi : evalO s.env i = some j) (h : lookupK td s v j ok (fun r => k (s.set o.dst r)) = some r) : PStep P R S w Φ β s a o k r := by
  have h1 := hr.eval hx
  have h2 := hr.eval hi
  unfold lookupK at h
  split at h
  case h_2 => cases h
  rename_i kt vt agg id l
  split at h
  case h_2 => cases h
  rename_i k' v' agg' es hl
  split at h
  case isFalse => cases h
  rename_i hc
  obtain ⟨rfl, rfl, rfl⟩ := hc
  split at h
  case h_2 => cases h
  rename_i y hy
  obtain ⟨_, kt, et, hu, ⟨d, hkd, hkk⟩, inf, z, hinf, hz, hwf, hco, hzz, hone⟩ := hcx.tab t _ htd
  obtain ⟨b, es', clock, hb, hnΦ, hblk, hent, hborn⟩ := hr.hp.ob id _ hl
  obtain ⟨b', hb', hxv⟩ := h1
  rw [hb] at hb'; cases hb'
  have hyv : VC w Φ k' y [a.eval i] := keyOf_VC hy h2
  have hKb := hK id hx b 0 hb ⟨_, _, _, _, hl⟩
  have hfk := find_spec (w := w) (Φ := Φ) hkk hyv es es'.toList 0 hent
  -- the value
  obtain ⟨u, us, g1, g2, g3⟩ : ∃ u us, VC w Φ v' (assocGet k'.eqK v'.zero es y) us ∧ u = valOf agg' us ∧ ∀ w', w'.heap[b]? = w.heap[b]? → (Instr.lookup t (a.eval x) (a.eval i) ok).run P w' = .ok (if ok then .tuple #[u, .bool (assocHas k'.eqK es y)] else u) w' := by
    have hrun : ∀ (w' : World) (q : Option (Nat × Value)), w'.heap[b]? = w.heap[b]? → Instr.findNow d (a.eval i) es'.toList 0 = some q → (Instr.lookup t (a.eval x) (a.eval i) ok).run P w' = (match q with
        | some (_, v) => .ok (if ok then .tuple #[v, .bool true] else v) w'
        | none => .ok (if ok then .tuple #[z, .bool false] else z) w') := by
      intro w' q he hq
      have hb' : w'.heap[b]? = some (.map es' clock) := by rw [he]; exact hblk
      rw [hxv]
      unfold Instr.lookup
      simp only [Sem.run_bind, run_underlying hu, Result.andThen_ok, MapKept.run_getObj_map hb', Sem.run_pure, MapKept.run_checkKey hkd (keyD_isKey hkk hyv), MapKept.run_findKey hkd hq]
      cases q with
      | none => simp [zeroValue, run_info hinf, hz]
      | some p => obtain ⟨p1, p2⟩ := p; simp
    rcases hfk with ⟨f1, f2, _⟩ | ⟨yy, jj, e, f1, f2, f3, f4, ⟨us, f5, f6⟩, _⟩
    · refine ⟨z, z.cells.toList, ?_, hzz, fun w' he => ?_⟩
      · simp only [assocGet, f1]; exact zero_VC v' _ hwf hco
      · rw [hrun w' none he f2]; simp [assocHas, f1]
    · refine ⟨e.val, us, ?_, f6, fun w' he => ?_⟩
      · simp only [assocGet, f1]; exact f5
      · rw [hrun w' _ he f2]; simp [assocHas, f1]
  have hun := unpackL_LfRs (β := β) (hp := s.heap) v' _ us g1
  split at h
  · refine pstep h (v := .tuple #[u, .bool (assocHas k'.eqK es y)]) (fun w' hw' => ?_) ?_
    · have := g3 w' (hS w' hw' b hKb)
      simp [execOp, ho, this]
    · refine ⟨_, rfl, u, [.bool _], rfl, ?_, .bool _, [], rfl, ?_, rfl⟩
      · unfold PartR
        cases agg' with
        | true => rw [if_pos rfl]; exact ⟨us.toArray, by rw [g2]; rfl, by simpa using hun⟩
        | false =>
          simp only [Bool.false_eq_true, if_false]
          have hl1 := VC_len _ _ _ g1
          have hz1 : v'.size = 1 := hone rfl
          match us, hl1 with
          | [u0], _ => rw [g2]; exact hun
          | [], hl1 => simp [hz1] at hl1
          | _ :: _ :: _, hl1 => simp [hz1] at hl1
      · show LfRs w Φ β s.heap [.bool _] [.bool _]
        exact ⟨_, _, rfl, rfl, rfl⟩
  · split at h
    case h_2 => cases h
    rename_i rr hrr
    refine pstep h (v := u) (fun w' hw' => ?_) (by rw [g2]; exact asVal_SVR hrr hun)
    have := g3 w' (hS w' hw' b hKb)
    simp [execOp, ho, this]

theorem pstep_lookup (hcx : CxOk P cx) (hr : Rel w0 Φ0 own0 N w Φ β s a) {S : World → Prop} {K : Nat → Prop} (hS : ∀ w', S w' → ∀ b, K b → w'.heap[b]? = w.heap[b]?)
    {t : TypeId} {x i : Operand} {ok : Bool} (ho : o.op = .lookup t x i ok) (hK : ∀ id, evalO s.env x = some (.one (.mp id)) → ∀ b p, β id = some (some (b, p)) → (∃ c v g l, look s.heap id = some (.map c v g l)) → K b)
    (hnt : ∀ id kt e l, evalO s.env x = some (.one (.mp id)) → look s.heap id = some (.mrows kt e l none) → s.held id = true) (h : stepK cx o s k = some r) : PStep P R S w Φ β s a o k r := by
  simp only [stepK, ho] at h
  split at h
  case h_2 => cases h
  rename_i td v j htd hx hi
  rcases lookupS_cases h with h | ⟨id, kt, e, l, lf, y, e1, e2, e3, e4, e5, e6, e7⟩
  · exact pstep_lookupK hcx hr hS ho hK htd hx hi h
  · subst e1
    have := hnt id kt e l hx e2
    unfold takeK at e7
    rw [this] at e7
    cases e7

theorem step_lookupK (hcx : CxOk P cx) (hr : Rel w0 Φ0 own0 N w Φ β s a) (hN : ∀ d, o.dst = some d → N.ok d) (hk : ∀ s' a' w' Φ' β', Rel w0 Φ0 own0 N w' Φ' β' s' a' → k s' = some r → next a' w')
    {t : TypeId} {x i : Operand} {ok : Bool} (ho : o.op = .lookup t x i ok) {td : TD} {v j : SVal} (htd : cx.tab t = some td) (hx : evalO s.env x = some v) (hi : evalO s.env i = some j) (h : lookupK td s v j ok (fun r => k (s.set o.dst r)) = some r) : o.wp P a w next Q :=
  (pstep_lookupK (S := fun w' => w' = w) (K := fun _ => True) hcx hr (fun w' e b _ => by rw [e]) ho (fun _ _ _ _ _ _ => trivial) htd hx hi h).wp hr rfl hN hk

theorem step_mapUpdateK (hcx : CxOk P cx) (hr : Rel w0 Φ0 own0 N w Φ β s a) (hN : ∀ d, o.dst = some d → N.ok d) (hk : ∀ s' a' w' Φ' β', Rel w0 Φ0 own0 N w' Φ' β' s' a' → k s' = some r → next a' w')
    {t : TypeId} {x i y : Operand} (ho : o.op = .mapUpdate t x i y ∨ o.op = .insert t x i y) {td : TD} {v j u : SVal} (htd : cx.tab t = some td) (hx : evalO s.env x = some v) (hi : evalO s.env i = some j) (hy : evalO s.env y = some u)
    (h' : updateK td s v j u (fun s' => k (s'.set o.dst (.one .undef))) = some r) : o.wp P a w next Q := by
  have hex : ∀ w', (Instr.mapUpdate t (a.eval x) (a.eval i) (a.eval y)).run P w = .ok () w' → (execOp a.eval o).run P w = .ok .skip w' := by
    intro w' hh
    rcases ho with ho | ho <;> simp [execOp, ho, hh]
  have h1 := hr.eval hx
  have h2 := hr.eval hi
  have h3 := hr.eval hy
  unfold updateK at h'
  split at h'
  case h_2 => cases h'
  rename_i kt vt agg id l vs hvs
  obtain ⟨hc, h⟩ := cond_none h'
  clear h'
  simp only [Bool.and_eq_true] at hc
  split at h
  case h_2 => cases h
  rename_i q z s' hq hz
  split at h
  case h_2 => cases h
  rename_i k' v' agg' es hl
  split at h
  case isFalse => cases h
  rename_i e1
  subst e1
  split at h
  case isFalse => cases h
  rename_i e2
  subst e2
  have h4 := cond_none h
  clear h
  obtain ⟨hg, h⟩ := h4
  simp only [Bool.and_eq_true, Bool.not_eq_true'] at hg
  have hagg := eq_of_beq hg.1
  subst hagg
  have hh := hg.2
  have hisagg := eq_of_beq hc.2
  have hdf : vs.all Leaf.def = true ∨ ∃ cs, u = .agg cs := by
    have := hc.1
    simp only [Bool.or_eq_true] at this
    rcases this with g | g
    · exact .inl g
    · cases u <;> first | exact .inr ⟨_, rfl⟩ | cases g
  have hls := leaves_SVR hvs h3 hdf
  obtain ⟨Φ', p1, p2, p3⟩ := packL_sound hr hls hz
  obtain ⟨_, ktt, et, hu, ⟨d, hkd, hkk⟩, inf, zz, hinf, hzz, hwf, hco, _, _⟩ := hcx.tab t _ htd
  obtain ⟨b, es', clock, hb, hnΦ, hblk, hent, hborn⟩ := p1.hp.ob id _ hl
  obtain ⟨b', hb', hxv⟩ := h1
  rw [hb] at hb'; cases hb'
  have hqv : VC w Φ' k' q [a.eval i] := VC_mono p2.mono.frz p2.mono.sub _ _ _ (keyOf_VC hq h2)
  have hval : a.eval y = valOf agg' (a.eval y).cells.toList := by
    cases u with
    | one lf =>
      have ha : agg' = false := by rw [← hisagg]; rfl
      subst ha
      cases hvs
      have := LfR_oneCell h3 (by rcases hdf with g | ⟨_, g⟩; · simpa using g
                                 · cases g)
      have hc : (a.eval y).cells = #[a.eval y] := by cases hv : a.eval y <;> first | rfl | (rw [hv] at this; cases this)
      rw [hc]; rfl
    | agg cs =>
      have ha : agg' = true := by rw [← hisagg]; rfl
      subst ha
      obtain ⟨us, e, _⟩ := h3
      rw [e]; simp [valOf, Value.cells]
    | tup _ => cases hvs
    | skip => cases hvs
  have hcast : castE rfl rfl es = es := rfl
  rw [hcast] at h
  have hfk := find_spec (w := w) (Φ := Φ') hkk hqv es es'.toList 0 hent
  -- the world behind it
  have fin : ∀ (es2 : Array MapEntry) (clock2 : Nat), EntR w Φ' k' v' agg' (assocSet k'.eqK es q z) es2.toList → BornOk es2.toList clock2 →
      (Instr.mapUpdate t (a.eval x) (a.eval i) (a.eval y)).run P w = .ok () { w with heap := w.heap.setIfInBounds b (.map es2 clock2) } → o.wp P a w next Q := by
    intro es2 clock2 f1 f2 f3
    obtain ⟨q1, q2⟩ := MapKept.heap_set (o' := Obj.map es2 clock2) hblk
    have hmine := p1.mine hh hl rfl hb
    have m : Mono w Φ' β s'.heap { w with heap := w.heap.setIfInBounds b (.map es2 clock2) } Φ' β (s'.put id (.map k' v' agg' (assocSet k'.eqK es q z))).heap := by
      refine ⟨fun b' hb' => q2 b' (fun e => hnΦ (e ▸ hb')), fun _ h => h, fun _ _ h => h, ?_, ?_⟩
      · intro j x hx r hr
        simp only [St.put, look_cons] at hr
        split at hr
        · cases hr
        · exact hr
      · intro j b' o' r hj hr
        unfold blockSize
        by_cases e : b' = b
        · subst e; rw [hblk, q1]
        · rw [q2 b' e]
    refine upon_skip (hex _ f3) (hk _ _ _ Φ' β ((p1.turn (o' := .map k' v' agg' (assocSet k'.eqK es q z)) rfl rfl hl (.inl rfl) hh _ Φ' ?_ (by simp) (fun _ h => h) (fun _ h => .inl h) ?_ (fun b' hb' => q2 b' (fun e => hnΦ (e ▸ hb'))) ?_ (.inr rfl) ?_).set (sv := .one .undef) (v := undef) trivial hN) h)
    · refine ⟨p1.same.os, p1.same.tape, p1.same.output, by simpa using p1.same.size, fun b' hb' hn => ?_⟩
      rw [q2 b' (fun e => ?_)]
      · exact p1.same.block b' hb' hn
      · subst e
        rcases hmine with g | g
        · exact hn g
        · omega
    · intro b' hb' hne
      exact q2 b' (fun e => by subst e; exact hne rfl 0 hb)
    · intro b' hb'
      unfold blockSize
      by_cases e : b' = b
      · subst e; rw [hblk]; simp only [q1]
      · rw [q2 b' e]
    · exact ⟨b, es2, clock2, hb, hnΦ, q1, EntR_mono m.frz m.sub _ _ f1, f2⟩
  have hck : ∀ n, (Instr.checkKey false (n + 1) ktt (a.eval i)).run P w = .ok () w := fun n => MapKept.run_checkKey hkd (keyD_isKey hkk hqv) false n
  rcases hfk with ⟨f1, f2, f3⟩ | ⟨yy, jj, e, f1, f2, f3, f4, _, f6⟩
  · refine fin (es'.push { key := a.eval i, val := a.eval y, born := clock }) (clock + 1) (by rw [Array.toList_push]; exact f3 z _ _ p3 rfl hval) ?_ ?_
    · rw [Array.toList_push]
      refine ⟨fun e he => ?_, List.pairwise_append.2 ⟨hborn.2, by simp, fun x hx y hy => ?_⟩⟩
      · rcases List.mem_append.1 he with g | g
        · have := hborn.1 e g; omega
        · simp at g; subst g; exact Nat.lt_succ_self _
      · simp at hy; subst hy; have := hborn.1 x hx; simp only; omega
    · rw [hxv]
      unfold Instr.mapUpdate
      simp only [Sem.run_bind, run_underlying hu, Result.andThen_ok, MapKept.run_getObj_map hblk, hck, MapKept.run_findKey hkd f2, MapKept.run_setObj_map _ hblk]
  · rw [Nat.zero_add] at f2
    have hsb : Instr.sameBits 10000 (a.eval i) (a.eval i) = true := sameBits_key (keyD_isKey hkk hqv)
    have hje : es'[jj]? = some e := by simpa using f3
    refine fin (es'.modify jj fun e => { e with key := a.eval i, val := a.eval y }) clock ?_ ?_ ?_
    · rw [Array.toList_modify]
      exact f6 z _ _ p3 rfl hval
    · have hbm : (es'.modify jj fun e => { e with key := a.eval i, val := a.eval y }).toList.map (·.born) = es'.toList.map (·.born) := by
        apply List.ext_getElem?
        intro j
        simp only [List.getElem?_map, Array.getElem?_toList, Array.getElem?_modify]
        by_cases hij : jj = j
        · subst hij
          cases es'[jj]? <;> simp
        · simp [hij]
      have hp2 : (es'.toList.map (·.born)).Pairwise (· ≠ ·) := List.pairwise_map.2 hborn.2
      refine ⟨fun x hx => ?_, ?_⟩
      · have : x.born ∈ (es'.modify jj fun e => { e with key := a.eval i, val := a.eval y }).toList.map (·.born) := List.mem_map.2 ⟨x, hx, rfl⟩
        rw [hbm] at this
        obtain ⟨x', hx', e'⟩ := List.mem_map.1 this
        rw [← e']; exact hborn.1 x' hx'
      · rw [← hbm] at hp2
        exact List.pairwise_map.1 hp2
    · rw [hxv]
      unfold Instr.mapUpdate
      have hkts : (Instr.keyThatStays (((es'[jj]?).map (·.key)).getD (a.eval i)) (a.eval i)).run P w = .ok (a.eval i) w := by
        rw [hje]
        simp only [Option.map_some, Option.getD_some, f4]
        unfold Instr.keyThatStays
        rw [if_pos hsb]; simp
      simp only [Sem.run_bind, run_underlying hu, Result.andThen_ok, MapKept.run_getObj_map hblk, hck, MapKept.run_findKey hkd f2, hkts, MapKept.run_setObj_map _ hblk]

end
end Go.Bm
