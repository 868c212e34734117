/-
  OUR OWN: the interpreter's step is sound: how long a map is; an entry is taken away.
-/
import Derived.Test.YtoippcahbninnaaGreatDoorBmMap
namespace Go.Bm
set_option linter.unusedVariables false
set_option linter.unusedSimpArgs false

section
variable {P : Program} {R : Type} {w0 : World} {Φ0 own0 : Nat → Prop} {N : Frm} {w : World} {Φ : Nat → Prop} {β : Loc} {s : St} {a : Act} {hp : List (Nat × SObj)}
variable {cx : Cx} {o : Oper} {next : Act → World → Prop} {Q : Exit → Act → World → Prop} {k : St → Option R} {r : R}

theorem EntR_len {c v : CT} {agg : Bool} : ∀ {l : List (c.denote × v.denote)} {es : List MapEntry}, EntR w Φ c v agg l es → es.length = l.length
  | [], es, h => by rw [show es = [] from h]; rfl
  | p :: l, es, ⟨e, es', e1, _, _, e5⟩ => by rw [e1, List.length_cons, List.length_cons, EntR_len e5]

theorem step_len (hcx : CxOk P cx) (hr : Rel w0 Φ0 own0 N w Φ β s a) (hN : ∀ d, o.dst = some d → N.ok d) (hk : ∀ s' a' w' Φ' β', Rel w0 Φ0 own0 N w' Φ' β' s' a' → k s' = some r → next a' w')
    {c : Call} (ho : o.op = .call c) (hc : c.callee = .builtin .len) (h : stepK cx o s k = some r) : o.wp P a w next Q := by
  by_cases hnm : ∀ x id, c.args.toList = [x] → evalO s.env x ≠ some (.one (.mp id))
  · exact (pstep_len hcx hr ho hc hnm h).wp hr trivial hN hk
  · have hnm2 : ∃ x id, c.args.toList = [x] ∧ evalO s.env x = some (.one (.mp id)) := by
      refine Classical.byContradiction fun hx => hnm fun x id h1 h2 => hx ⟨x, id, h1, h2⟩
    obtain ⟨x0, id, hx0, he⟩ := hnm2
    simp only [stepK, ho, hc] at h
    split at h
    case h_2 => cases h
    rename_i x t ts hargs hty
    rw [hx0] at hargs
    cases hargs
    rw [he] at h
    split at h
    case h_2 => cases h
    rename_i td v htd hv
    cases hv
    have hargs' : c.args = #[x0] := by rw [← Array.toList_inj]; simpa using hx0
    have ht : c.argTypes[0]? = some t := by rw [← Array.getElem?_toList, hty]; rfl
    have h1 := hr.eval he
    obtain ⟨b', hb', hxv⟩ := h1
    cases hmp : lenMpK td s (.mp id) with
    | none =>
      rw [hmp] at h
      simp only at h
      have : lenOf td s (.mp id) = none := by
        cases td with
        | leaf z => cases z <;> rfl
        | _ => rfl
      rw [this] at h
      cases h
    | some m =>
      rw [hmp] at h
      unfold lenMpK at hmp
      split at hmp
      case h_2 => cases hmp
      rename_i kt vt agg id2 hid
      cases hid
      split at hmp
      case h_2 => cases hmp
      rename_i k' v' agg' l hl
      cases hmp
      obtain ⟨b, es', clock, hb, hnΦ, hblk, hent, hborn⟩ := hr.hp.ob id _ hl
      rw [hb] at hb'; cases hb'
      obtain ⟨_, ktt, et, hu, _⟩ := hcx.tab t _ htd
      have hlen : es'.size = l.length := by rw [← Array.length_toList]; exact EntR_len hent
      have hrun : (Builtin.len_ c.argTypes o.type #[a.eval x0]).run P w = .ok (.int .i64 l.length) w := by
        simp [Builtin.len_, ht, hxv, run_underlying hu, MapKept.run_getObj_map hblk, goInt, hlen]
      refine alloc_step (x := .one (.int .i64 l.length)) (v := .int .i64 l.length) hN hk h hr ?_ rfl
      simp [execOp, ho, resolve, hc, invoke, builtin, hargs', hrun]

theorem del_spec {c v : CT} {agg : Bool} {d : TypeDesc} (hd : keyD c d) {x : c.denote} {kv : Value} (hx : VC w Φ c x [kv]) : ∀ (l : List (c.denote × v.denote)) (es : List MapEntry) (i : Nat), EntR w Φ c v agg l es →
    (Instr.findNow d kv es i = some none ∧ assocDel c.eqK l x = l) ∨
    ∃ j e, Instr.findNow d kv es i = some (some (i + j, e)) ∧ EntR w Φ c v agg (assocDel c.eqK l x) (es.eraseIdx j)
  | [], es, i, h => by
    cases h
    exact .inl ⟨rfl, rfl⟩
  | p :: l, es, i, ⟨e, es', e1, e2, ⟨us, e3, e4⟩, e5⟩ => by
    subst e1
    have hs := same_eqK hd hx e2
    cases hb : c.eqK x p.1 with
    | true =>
      rw [hb] at hs
      exact .inr ⟨0, e.val, by simp [Instr.findNow, hs], by simp only [assocDel, hb, cond_true, List.eraseIdx_cons_zero]; exact e5⟩
    | false =>
      rw [hb] at hs
      rcases del_spec hd hx l es' (i + 1) e5 with ⟨g1, g2⟩ | ⟨j, e', g1, g2⟩
      · exact .inl ⟨by simp [Instr.findNow, hs, g1], by simp only [assocDel, hb, cond_false, g2]⟩
      · refine .inr ⟨j + 1, e', by simp [Instr.findNow, hs, g1]; omega, ?_⟩
        simp only [assocDel, hb, cond_false, List.eraseIdx_cons_succ]
        exact ⟨_, _, rfl, e2, ⟨us, e3, e4⟩, g2⟩

theorem step_delete (hcx : CxOk P cx) (hr : Rel w0 Φ0 own0 N w Φ β s a) (hN : ∀ d, o.dst = some d → N.ok d) (hk : ∀ s' a' w' Φ' β', Rel w0 Φ0 own0 N w' Φ' β' s' a' → k s' = some r → next a' w')
    {c : Call} (ho : o.op = .call c) (hc : c.callee = .builtin .delete) (h : stepK cx o s k = some r) : o.wp P a w next Q := by
  simp only [stepK, ho, hc] at h
  split at h
  case h_2 => cases h
  rename_i x y t ts hargs hty
  split at h
  case h_2 => cases h
  rename_i td v u htd hx hy
  have ha : c.args = #[x, y] := by rw [← Array.toList_inj]; simpa using hargs
  have hat : c.argTypes[0]? = some t := by rw [← Array.getElem?_toList, hty]; rfl
  have h1 := hr.eval hx
  have h2 := hr.eval hy
  unfold deleteK at h
  split at h
  case h_2 => cases h
  rename_i kt vt ag id lf
  split at h
  case h_2 => cases h
  rename_i k' v' agg' es hl
  split at h
  case isFalse => cases h
  rename_i hkt
  subst hkt
  split at h
  case h_2 => cases h
  rename_i q hq
  obtain ⟨hh0, h⟩ := cond_none h
  have hh : s.held id = false := by simpa using hh0
  obtain ⟨_, ktt, et, hu, ⟨d, hkd, hkk⟩, inf, zz, hinf, hzz, hwf, hco, _, _⟩ := hcx.tab t _ htd
  obtain ⟨b, es', clock, hb, hnΦ, hblk, hent, hborn⟩ := hr.hp.ob id _ hl
  obtain ⟨b', hb', hxv⟩ := h1
  rw [hb] at hb'; cases hb'
  have hqv : VC w Φ k' q [a.eval y] := keyOf_VC hq h2
  have fin : ∀ (es2 : Array MapEntry), EntR w Φ k' v' agg' (assocDel k'.eqK es q) es2.toList → BornOk es2.toList clock →
      (Builtin.delete_ c.argTypes o.type #[a.eval x, a.eval y]).run P w = .ok (.tuple #[]) { w with heap := w.heap.setIfInBounds b (.map es2 clock) } → o.wp P a w next Q := by
    intro es2 f1 f2 f3
    obtain ⟨q1, q2⟩ := MapKept.heap_set (o' := Obj.map es2 clock) hblk
    have hmine := hr.mine hh hl rfl hb
    have m : Mono w Φ β s.heap { w with heap := w.heap.setIfInBounds b (.map es2 clock) } Φ β (s.put id (.map k' v' agg' (assocDel k'.eqK es q))).heap := by
      refine ⟨fun b' hb' => q2 b' (fun e => hnΦ (e ▸ hb')), fun _ h => h, fun _ _ h => h, ?_, ?_⟩
      · intro j x hx r hr
        simp only [St.put, look_cons] at hr
        split at hr
        · cases hr
        · exact hr
      · intro j b' o' r hj hr
        unfold blockSize
        by_cases e : b' = b
        · subst e; rw [hblk, q1]
        · rw [q2 b' e]
    refine alloc_step (x := .one .undef) (v := .tuple #[]) (w' := { w with heap := w.heap.setIfInBounds b (.map es2 clock) }) (Φ' := Φ) (β' := β) hN hk h (hr.turn (o' := .map k' v' agg' (assocDel k'.eqK es q)) rfl rfl hl (.inl rfl) hh _ Φ ?_ (by simp) (fun _ h => h) (fun _ h => .inl h) ?_ (fun b' hb' => q2 b' (fun e => hnΦ (e ▸ hb'))) ?_ (.inr rfl) ?_) ?_ trivial
    · refine ⟨hr.same.os, hr.same.tape, hr.same.output, by simpa using hr.same.size, fun b' hb' hn => ?_⟩
      rw [q2 b' (fun e => ?_)]
      · exact hr.same.block b' hb' hn
      · subst e
        rcases hmine with g | g
        · exact hn g
        · omega
    · intro b' hb' hne
      exact q2 b' (fun e => by subst e; exact hne rfl 0 hb)
    · intro b' hb'
      unfold blockSize
      by_cases e : b' = b
      · subst e; rw [hblk]; simp only [q1]
      · rw [q2 b' e]
    · exact ⟨b, es2, clock, hb, hnΦ, q1, EntR_mono m.frz m.sub _ _ f1, f2⟩
    · simp [execOp, ho, resolve, hc, invoke, builtin, ha, f3]
  have hck : ∀ bb n, (Instr.checkKey bb (n + 1) ktt (a.eval y)).run P w = .ok () w := fun bb n => MapKept.run_checkKey hkd (keyD_isKey hkk hqv) bb n
  rcases del_spec (w := w) (Φ := Φ) hkk hqv es es'.toList 0 hent with ⟨f1, f2⟩ | ⟨j, e, f1, f2⟩
  · refine fin es' (by rw [f2]; exact hent) hborn ?_
    rw [hxv]
    unfold Builtin.delete_
    simp [hat, run_underlying hu, MapKept.run_getObj_map hblk, hck, MapKept.run_findKey hkd f1, MapKept.run_setObj_map _ hblk]
  · rw [Nat.zero_add] at f1
    refine fin (es'.eraseIdxIfInBounds j) (by rw [Array.toList_eraseIdxIfInBounds]; exact f2) ?_ ?_
    · rw [Array.toList_eraseIdxIfInBounds]
      exact ⟨fun e he => hborn.1 e ((List.eraseIdx_sublist _ _).subset he), hborn.2.sublist (List.eraseIdx_sublist _ _)⟩
    · rw [hxv]
      unfold Builtin.delete_
      simp [hat, run_underlying hu, MapKept.run_getObj_map hblk, hck, MapKept.run_findKey hkd f1, MapKept.run_setObj_map _ hblk]

end
end Go.Bm
