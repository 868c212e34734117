/-
  OUR OWN: the interpreter's step is sound: a part of a row is turned (clear, copy).
-/
import Derived.Test.YtoippcahbninnaaGreatDoorBmStep8
namespace Go.Bm
set_option linter.unusedVariables false
set_option linter.unusedSimpArgs false

theorem splice_gen {α : Type} {l xs : List α} {off : Nat} (h : off + xs.length ≤ l.length) (i : Nat) :
    nth (l.take off ++ xs ++ l.drop (off + xs.length)) i = if off ≤ i ∧ i < off + xs.length then nth xs (i - off) else nth l i := by
  simp only [nth_getElem?]
  by_cases h1 : i < off
  · rw [if_neg (by omega), List.append_assoc, List.getElem?_append_left (by simp; omega), List.getElem?_take, if_pos h1]
  · by_cases h2 : i < off + xs.length
    · rw [if_pos (by omega), List.append_assoc, List.getElem?_append_right (by simp; omega), List.getElem?_append_left (by simp; omega)]
      simp [Nat.min_eq_left (show off ≤ l.length by omega)]
    · rw [if_neg (by omega), List.getElem?_append_right (by simp; omega)]
      simp [Nat.min_eq_left (show off ≤ l.length by omega)]
      congr 1; omega
theorem splice_glen {α : Type} {l xs : List α} {off : Nat} (h : off + xs.length ≤ l.length) : (l.take off ++ xs ++ l.drop (off + xs.length)).length = l.length := by
  simp; omega

section
variable {P : Program} {R : Type} {w0 : World} {Φ0 own0 : Nat → Prop} {N : Frm} {w : World} {Φ : Nat → Prop} {β : Loc} {s : St} {a : Act}
variable {cx : Cx} {o : Oper} {next : Act → World → Prop} {Q : Exit → Act → World → Prop} {k : St → Option R} {r : R}

/-- An object that is put where it is. -/
theorem Rel.reput (hr : Rel w0 Φ0 own0 N w Φ β s a) {id : Nat} {e : CT} {l : List e.denote} (hl : look s.heap id = some (.arr e l)) (hh : s.held id = false) : Rel w0 Φ0 own0 N w Φ β (s.put id (.arr e l)) a :=
  hr.turn rfl rfl hl (.inl rfl) hh w Φ hr.same rfl (fun _ h => h) (fun _ h => .inl h) (fun _ _ _ => rfl) (fun _ _ => rfl) (fun _ _ => rfl) (.inl rfl) (hr.hp.ob id _ hl)

theorem splice_write (hr : Rel w0 Φ0 own0 N w Φ β s a) {id : Nat} {e : CT} {l xs : List e.denote} {b ob off : Nat} {vs : List Value} (hpos : 0 < e.size)
    (hl : look s.heap id = some (.arr e l)) (hloc : β id = some (some (b, ob))) (hh : s.held id = false) (hle : off + xs.length ≤ l.length) (hfl : Flat w Φ e xs vs) :
    ∃ w', (storeCells ⟨b, ob + off * e.size, none⟩ vs 0).run P w = .ok () w' ∧ Rel w0 Φ0 own0 N w' Φ β (s.put id (.arr e (l.take off ++ xs ++ l.drop (off + xs.length)))) a := by
  rcases hr.hp.ob id _ hl with ⟨h3, _⟩ | ⟨b', ob', h3, hnΦ, hfz, hrow⟩
  · rw [hloc] at h3; cases h3
  rw [hloc] at h3; cases h3
  have hlen := hfl.1
  have hsl := splice_glen hle
  obtain ⟨w', g1, g2⟩ := run_storeCells (P := P) vs b (ob + off * e.size) 0 w hfl.2.1 (fun j hj => by
    have hdm := Nat.div_add_mod j e.size
    have hm := Nat.mod_lt j hpos
    have hj2 : j / e.size < xs.length := Nat.div_lt_of_lt_mul (by rw [hlen, Nat.mul_comm] at hj; exact hj)
    have hj3 : off + j / e.size < l.length := by omega
    obtain ⟨us, hu1, hu2⟩ := hrow (off + j / e.size) l[off + j / e.size] (by rw [nth_getElem?]; simp [hj3])
    have hul := VC_len _ _ _ hu2
    have := cellsAt_get us _ b hu1 (j % e.size) us[j % e.size] (by simp [hul, hm])
    rw [show ob + off * e.size + 0 + j = ob + (off + j / e.size) * e.size + j % e.size from by
      rw [Nat.add_mul]
      have h5 : j / e.size * e.size + j % e.size = j := by rw [Nat.mul_comm]; exact hdm
      omega]
    rw [this]; rfl) hfz
  rw [Nat.add_zero] at g2
  have m := g2.mono hr.hp hnΦ (id := id) (ob' := .arr e (l.take off ++ xs ++ l.drop (off + xs.length))) hl (by simp only [rowOf]; rw [hsl])
  refine ⟨w', g1, hr.write rfl rfl hl rfl rfl hloc hh g2 (by simp only [rowOf]; rw [hsl]) hnΦ (.inr ⟨b, ob, hloc, hnΦ, g2.fz hfz, fun j xx hj => ?_⟩)⟩
  rw [splice_gen hle] at hj
  split at hj
  · rename_i hc
    refine ⟨(vs.drop ((j - off) * e.size)).take e.size, ?_, VC_mono m.frz m.sub _ _ _ (hfl.2.2 _ _ hj)⟩
    refine cellsAt_of _ _ _ fun i v hv => ?_
    rw [List.getElem?_take] at hv
    split at hv
    case isFalse => cases hv
    rename_i hi
    rw [List.getElem?_drop] at hv
    have h6 : (j - off + 1) * e.size ≤ xs.length * e.size := Nat.mul_le_mul_right _ (by omega)
    have h7 : j * e.size = off * e.size + (j - off) * e.size := by rw [← Nat.add_mul]; congr 1; omega
    rw [Nat.add_mul] at h6
    rw [g2.cell, if_pos (by omega), ← hv]
    congr 1; omega
  · rename_i hc
    obtain ⟨us', hu1, hu2⟩ := hrow j xx hj
    have hul' := VC_len _ _ _ hu2
    refine ⟨us', g2.apart hu1 ?_, VC_mono m.frz m.sub _ _ _ hu2⟩
    by_cases hlt : j < off
    · left
      have : (j + 1) * e.size ≤ off * e.size := Nat.mul_le_mul_right _ hlt
      rw [Nat.add_mul] at this; omega
    · right
      have : (off + xs.length) * e.size ≤ j * e.size := Nat.mul_le_mul_right _ (by omega)
      rw [Nat.add_mul] at this; omega

theorem spliceK_some {id : Nat} {e : CT} {p : Option (Nat × Nat)} {xs : List e.denote} {k : St → Option R} (h : spliceK s id e p xs k = some r) :
    ∃ l : List e.denote, look s.heap id = some (.arr e l) ∧ s.held id = false ∧ (p.getD (0, l.length)).1 + xs.length ≤ l.length ∧
      k (s.put id (.arr e (l.take (p.getD (0, l.length)).1 ++ xs ++ l.drop ((p.getD (0, l.length)).1 + xs.length)))) = some r := by
  unfold spliceK at h
  split at h
  case h_2 => cases h
  rename_i e' l hl
  split at h
  case isFalse => cases h
  rename_i he; subst he
  obtain ⟨hb, h⟩ := cond_none h
  simp only [Bool.and_eq_true] at hb
  exact ⟨l, hl, by simpa using hb.1, Nat.le_of_ble_eq_true hb.2, h⟩

/-- The cells that a part's row lies in are written. -/
theorem part_write (hr : Rel w0 Φ0 own0 N w Φ β s a) {id : Nat} {e : CT} {p : Option (Nat × Nat)} {l xs : List e.denote} {v : Value} {vs : List Value} (hpos : 0 < e.size) (hv : LfR w Φ β s.heap (.sl id p) v)
    (hl : look s.heap id = some (.arr e l)) (hh : s.held id = false) (hle : (p.getD (0, l.length)).1 + xs.length ≤ l.length) (hfl : Flat w Φ e xs vs) (hx : xs.length ≤ partLen s id p) :
    ∃ base cap w', v = .slice base (partLen s id p) cap ∧ Rel w0 Φ0 own0 N w' Φ β (s.put id (.arr e (l.take (p.getD (0, l.length)).1 ++ xs ++ l.drop ((p.getD (0, l.length)).1 + xs.length)))) a ∧
      (match base with
        | some q => (storeCells q vs 0).run P w = .ok () w'
        | none => vs = [] ∧ w' = w) := by
  obtain ⟨loc, hloc, _, hs⟩ := hv
  have hrw : rowOf (look s.heap id) = some (e.size, l.length) := by rw [hl]; rfl
  have hsl := hs _ _ hrw
  have hpl : partLen s id p = (p.getD (0, l.length)).2 := by
    unfold partLen
    cases p with
    | none => rw [hrw]; rfl
    | some q => rfl
  have hnil : xs = [] → vs = [] := fun e1 => by subst e1; exact List.eq_nil_of_length_eq_zero (by rw [hfl.1]; simp)
  have hsame : xs = [] → l.take (p.getD (0, l.length)).1 ++ xs ++ l.drop ((p.getD (0, l.length)).1 + xs.length) = l := fun e1 => by subst e1; simp
  cases loc with
  | none =>
    obtain ⟨⟨z, e1⟩, e2, e3⟩ := hsl
    have hx0 : xs = [] := List.eq_nil_of_length_eq_zero (by omega)
    refine ⟨z, 0, w, by rw [e1, hpl, e3], by rw [hsame hx0]; exact hr.reput hl hh, ?_⟩
    rw [hnil hx0]
    cases z with
    | none => exact ⟨rfl, rfl⟩
    | some q => simp [storeCells]
  | some bo =>
    obtain ⟨b, ob⟩ := bo
    obtain ⟨o', cap, e1, e2, e3, e4, _, _⟩ := hsl
    by_cases hx0 : xs = []
    · refine ⟨some ⟨b, o', none⟩, cap, w, by rw [e1, hpl], by rw [hsame hx0]; exact hr.reput hl hh, ?_⟩
      rw [hnil hx0]; simp [storeCells]
    · have hxp := List.length_pos_iff.2 hx0
      have ho : o' = ob + (p.getD (0, l.length)).1 * e.size := by
        rcases e3 with e3 | e3
        · exact e3
        · omega
      obtain ⟨w', g1, g2⟩ := splice_write (P := P) hr hpos hl hloc hh hle hfl
      exact ⟨some ⟨b, o', none⟩, cap, w', by rw [e1, hpl], g2, by rw [ho]; exact g1⟩


theorem zero_flat {kd : IntKind} {z : Array Value} (hz : z.toList = [.int kd 0]) (n : Nat) : Flat w Φ (.int kd) (List.replicate n (0 : Int)) (Builtin.zeroCells z n).toList := by
  have hsz : z.size = 1 := by have := congrArg List.length hz; simpa using this
  have h0 : z[0]! = .int kd 0 := by
    have : z[0]? = some (.int kd 0) := by rw [← Array.getElem?_toList, hz]; rfl
    simp [getElem!_def, this]
  have hrep : (Builtin.zeroCells z n).toList = List.replicate n (.int kd 0) := by
    refine List.ext_getElem? fun i => ?_
    rw [List.getElem?_replicate, Builtin.zeroCells, hsz, Nat.mul_one, Array.toList_map, List.getElem?_map, Array.toList_range]
    by_cases h : i < n
    · rw [if_pos h, List.getElem?_range h, Option.map_some, Nat.mod_one, h0]
    · rw [if_neg h, List.getElem?_eq_none (by simp; omega)]; rfl
  rw [hrep]
  refine ⟨by simp [CT.size], fun v hv => by rw [(List.mem_replicate.1 hv).2]; rfl, fun i x hx => ?_⟩
  have hi : i < n := by
    rw [nth_getElem?, List.getElem?_replicate] at hx
    by_cases h : i < n
    · exact h
    · rw [if_neg h] at hx; cases hx
  rw [nth_getElem?, List.getElem?_replicate, if_pos hi] at hx
  cases hx
  have : ((List.replicate n (Value.int kd 0)).drop (i * (CT.int kd).size)).take (CT.int kd).size = [.int kd 0] := by
    simp only [CT.size, Nat.mul_one, List.drop_replicate, List.take_replicate]
    rw [Nat.min_eq_left (by omega)]; rfl
  rw [this]; exact rfl

theorem step_clear (hcx : CxOk P cx) (hr : Rel w0 Φ0 own0 N w Φ β s a) (hN : ∀ d, o.dst = some d → N.ok d) (hk : ∀ s' a' w' Φ' β', Rel w0 Φ0 own0 N w' Φ' β' s' a' → k s' = some r → next a' w')
    {c : Call} (ho : o.op = .call c) (hc : c.callee = .builtin .clear) (h : stepK cx o s k = some r) : o.wp P a w next Q := by
  simp only [stepK, ho, hc] at h
  split at h
  case h_2 => cases h
  rename_i x t hargs hty
  split at h
  case h_2 => cases h
  rename_i kd en id p htd hx
  have ha : c.args = #[x] := by rw [← Array.toList_inj]; simpa using hargs
  have hat : c.argTypes = #[t] := by rw [← Array.toList_inj]; simpa using hty
  obtain ⟨_, hu, i, z, hi, hz, hby, _, g2⟩ := hcx.tab t _ htd
  obtain ⟨hsz, hwf, _, hco, hzs⟩ := g2 (by simp)
  have hz1 : z.cells.toList = [.int kd 0] := by
    obtain ⟨v, vs, e1, e2, e3⟩ := hco
    cases e3
    rw [e1, show v = _ from e2]
  obtain ⟨l, hl, hh, hle, h⟩ := spliceK_some h
  obtain ⟨base, cap, w', ev, hr', hst⟩ := part_write (P := P) hr (by simp [CT.size]) (hr.eval hx) hl hh hle (zero_flat hz1 _) (by simp)
  refine alloc_step (x := .one .undef) (v := .tuple #[]) hN hk h hr' ?_ trivial
  have hrun : (Builtin.clear_ #[t] o.type #[a.eval x]).run P w = .ok (.tuple #[]) w' := by
    rw [ev]
    cases base with
    | none =>
      obtain ⟨e1, rfl⟩ := hst
      cases hn : partLen s id p <;> simp [Builtin.clear_, run_underlying hu, hn]
    | some q =>
      cases hn : partLen s id p with
      | zero =>
        rw [hn] at hst
        have : (Builtin.zeroCells z.cells 0).toList = [] := List.eq_nil_of_length_eq_zero (by simp [Builtin.zeroCells])
        rw [this] at hst
        simp [storeCells] at hst
        subst hst
        simp [Builtin.clear_, run_underlying hu]
      | succ n =>
        rw [hn] at hst
        have hzv : (zeroValue en).run P w = .ok z w := by simp [zeroValue, run_info hi, hz]
        simp [Builtin.clear_, run_underlying hu, hzv, hst]
  simp [execOp, ho, resolve, hc, invoke, builtin, ha, hat, hrun]

theorem Flat.take {e : CT} {l : List e.denote} {vs : List Value} (h : Flat w Φ e l vs) (n : Nat) : Flat w Φ e (l.take n) (vs.take (min l.length n * e.size)) := by
  refine ⟨?_, fun v hv => h.2.1 v (List.mem_of_mem_take hv), fun i x hx => ?_⟩
  · have : min l.length n * e.size ≤ vs.length := by rw [h.1]; exact Nat.mul_le_mul_right _ (Nat.min_le_left _ _)
    rw [List.length_take, Nat.min_eq_left this, List.length_take, Nat.min_comm n]
  · rw [nth_getElem?, List.getElem?_take] at hx
    split at hx
    case isFalse => cases hx
    rename_i hi
    have hil : i < l.length := (List.getElem?_eq_some_iff.1 hx).1
    have h2 := h.2.2 i x (by rw [nth_getElem?]; exact hx)
    have h3 : (i + 1) * e.size ≤ min l.length n * e.size := Nat.mul_le_mul_right _ (by omega)
    rw [Nat.add_mul] at h3
    rw [List.drop_take, List.take_take, Nat.min_eq_left (by omega)]
    exact h2

theorem step_copy (hcx : CxOk P cx) (hr : Rel w0 Φ0 own0 N w Φ β s a) (hN : ∀ d, o.dst = some d → N.ok d) (hk : ∀ s' a' w' Φ' β', Rel w0 Φ0 own0 N w' Φ' β' s' a' → k s' = some r → next a' w')
    {c : Call} (ho : o.op = .call c) (hc : c.callee = .builtin .copy) (h : stepK cx o s k = some r) : o.wp P a w next Q := by
  simp only [stepK, ho, hc] at h
  split at h
  case h_2 => cases h
  rename_i x y t ts hargs hty
  split at h
  case h_2 => cases h
  rename_i e en id p u htd hx hy
  obtain ⟨hpos, h⟩ := cond_none h
  rw [Nat.blt_eq] at hpos
  split at h
  case h_2 => cases h
  rename_i b hsrc
  have ha : c.args = #[x, y] := by rw [← Array.toList_inj]; simpa using hargs
  have hat : c.argTypes[0]? = some t := by rw [← Array.getElem?_toList, hty]; rfl
  obtain ⟨_, hu, i, z, hi, hz, hby, _, g2⟩ := hcx.tab t _ htd
  obtain ⟨hsz, hwf, _, hco, hzs⟩ := g2 (fun e' => by subst e'; exact absurd hpos (by decide))
  obtain ⟨aa, cy, ev, hsrc'⟩ := src_sound hr (hr.eval hy) hsrc
  obtain ⟨l, hl, hh, hle, h⟩ := spliceK_some h
  have hfl : ∃ vs, Flat w Φ e (b.take (partLen s id p)) vs ∧ (Builtin.firstCells e.size (min b.length (partLen s id p)) (a.eval y)).run P w = .ok vs.toArray w := by
    rcases hsrc' with hb | ⟨blk, oo, news, f1, f2, f3⟩
    · subst hb
      refine ⟨[], ⟨by simp, by simp, fun i x hx => by simp [nth_getElem?] at hx⟩, ?_⟩
      rw [ev]
      cases aa <;> simp [Builtin.firstCells, loadCells, loadCellsFrom]
    · refine ⟨_, f3.take _, ?_⟩
      rw [ev, f1]
      have hcut : cellsAt w blk oo (news.take (min b.length (partLen s id p) * e.size)) := cellsAt_of _ _ _ fun j v hv => by
        rw [List.getElem?_take] at hv
        split at hv
        · exact cellsAt_get _ _ _ f2 j v hv
        · cases hv
      have hln : (news.take (min b.length (partLen s id p) * e.size)).length = min b.length (partLen s id p) * e.size := by
        rw [List.length_take, Nat.min_eq_left]
        rw [f3.1]; exact Nat.mul_le_mul_right _ (Nat.min_le_left _ _)
      have := run_loadCells_at (P := P) hcut
      rw [hln] at this
      simpa [Builtin.firstCells] using this
  obtain ⟨vs, hfl, hfc⟩ := hfl
  obtain ⟨base, cap, w', ev1, hr', hst⟩ := part_write (P := P) hr hpos (hr.eval hx) hl hh hle hfl (by rw [List.length_take]; omega)
  refine alloc_step (x := .one (.int .i64 (min b.length (partLen s id p) : Nat))) (v := .int .i64 (min b.length (partLen s id p) : Nat)) hN hk h hr' ?_ rfl
  have hrun : (Builtin.copy_ c.argTypes o.type #[a.eval x, a.eval y]).run P w = .ok (.int .i64 (min b.length (partLen s id p) : Nat)) w' := by
    have hlen : (Builtin.lenOf (a.eval y)).run P w = .ok b.length w := by rw [ev]; simp [Builtin.lenOf]
    have hso : (sizeOf en).run P w = .ok e.size w := by simp [sizeOf, run_info hi, hsz]
    rw [ev1]
    cases base with
    | none =>
      obtain ⟨e1, rfl⟩ := hst
      simp [Builtin.copy_, hat, run_underlying hu, hlen, hso, hfc, goInt]
    | some q =>
      simp [Builtin.copy_, hat, run_underlying hu, hlen, hso, hfc, hst, goInt]
  simp [execOp, ho, resolve, hc, invoke, builtin, ha, hrun]

end
end Go.Bm
