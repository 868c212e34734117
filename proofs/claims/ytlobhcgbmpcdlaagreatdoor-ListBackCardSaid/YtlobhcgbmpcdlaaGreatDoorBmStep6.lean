import Derived.Test.YtlobhcgbmpcdlaaGreatDoorBmStep5
open Bool (and_eq_true)
namespace Go.Bm
set_option linter.unusedVariables false
set_option linter.unusedSimpArgs false
section
variable {P : Program} {R : Type} {w0 : World} {Φ0 own0 : Nat → Prop} {N : Frm} {w : World} {Φ : Nat → Prop} {β : Loc} {s : St} {a : Act} {hp : List (Nat × SObj)}
variable {cx : Cx} {o : Oper} {next : Act → World → Prop} {Q : Exit → Act → World → Prop} {k : St → Option R} {r : R}
theorem run_sliceBound {kd : IntKind} {i : Int} {y : Nat} {code : BoundsCode} (h : inb' i y = true) : (Instr.sliceBound (.int kd i) y code).run P w = .ok i.toNat w := by
 obtain ⟨h0, h1⟩ := inb'_iff.1 h
 simp [Instr.sliceBound, asIntOf, h0, h1]
theorem bounds_sound (hr : Rel w0 Φ0 own0 N w Φ β s a) {isS : Bool} {lo hi : Option Operand} {lov hiv : Option SVal} {len cap : Nat} {k : Nat → Nat → Option R}
  (hlo : (match lo with | none => some none | some l => (evalO s.env l).map some) = some lov) (hhi : (match hi with | none => some none | some h => (evalO s.env h).map some) = some hiv) (hlc : len ≤ cap)
  (h : boundK lov hiv len k = some r) : ∃ l h', l ≤ h' ∧ h' ≤ len ∧ k l h' = some r ∧ ∀ w, (Instr.sliceBounds isS len cap (lo.map a.eval) (hi.map a.eval) none).run P w = .ok (l, h', cap) w := by
 have ev : ∀ (x : Operand) (kd : IntKind) (i : Int), evalO s.env x = some (.one (.int kd i)) → a.eval x = .int kd i := fun x kd i hx => hr.eval hx
 have mono : ∀ {i : Int} {m n : Nat}, m ≤ n → inb' i m = true → inb' i n = true := by
  intro i m n hmn hi
  obtain ⟨h0, h1⟩ := inb'_iff.1 hi
  exact inb'_iff.2 ⟨h0, by omega⟩
 unfold boundK at h
 split at h
 · cases lo <;> cases hi <;> simp at hlo hhi
   exact ⟨0, len, Nat.zero_le _, Nat.le_refl _, h, fun w => by simp [Instr.sliceBounds]⟩
 · rename_i kd i
   cases lo <;> cases hi <;> simp at hlo hhi
   rename_i y
   obtain ⟨hb, h⟩ := cond_none h
   obtain ⟨h0, h1⟩ := inb'_iff.1 hb
   refine ⟨0, i.toNat, Nat.zero_le _, by omega, h, fun w => ?_⟩
   simp [Instr.sliceBounds, ev y kd i hhi, run_sliceBound (mono hlc hb)]
 · rename_i kd i
   cases lo <;> cases hi <;> simp at hlo hhi
   rename_i y
   obtain ⟨hb, h⟩ := cond_none h
   obtain ⟨h0, h1⟩ := inb'_iff.1 hb
   refine ⟨i.toNat, len, by omega, Nat.le_refl _, h, fun w => ?_⟩
   simp [Instr.sliceBounds, ev y kd i hlo, run_sliceBound hb]
 · rename_i kd i kd' j
   cases lo <;> cases hi <;> simp at hlo hhi
   rename_i x y
   obtain ⟨hb, h⟩ := cond_none h
   obtain ⟨hb', h⟩ := cond_none h
   obtain ⟨h0, h1⟩ := inb'_iff.1 hb
   obtain ⟨h2, h3⟩ := inb'_iff.1 hb'
   refine ⟨i.toNat, j.toNat, by omega, by omega, h, fun w => ?_⟩
   simp [Instr.sliceBounds, ev x kd i hlo, ev y kd' j hhi, run_sliceBound (mono hlc hb), run_sliceBound hb']
 · cases h
theorem run_sliceAt {t : TypeId} {d : TypeDesc} (hd : P.underlying t = some d) (ha : isAggD d = false) (x : Value) (lo hi : Option Value) : (Instr.sliceAt t x lo hi none).run P w = (Instr.slice t x lo hi none).run P w := by
 simp only [Instr.sliceAt, Sem.run_bind, run_underlying hd, Result.andThen_ok]
 cases d <;> first | rfl | cases ha
theorem pstep_slice3 (hcx : CxOk P cx) (hr : Rel w0 Φ0 own0 N w Φ β s a)
  {t : TypeId} {x hi mx : Operand} (ho : o.op = .slice t x none (some hi) (some mx)) (h : stepK cx o s k = some r) : PStep P R (fun _ => True) w Φ β s a o k r := by
 simp only [stepK, ho] at h
 split at h
 case h_2 => cases h
 rename_i v hv mv td hx hhi hmx htd
 have h1 := hr.eval hx
 have h2 := hr.eval hhi
 have h3 := hr.eval hmx
 unfold slice3K at h
 split at h
 case h_2 => cases h
 rename_i e en e' p kd y kd' m
 obtain ⟨hb, h⟩ := cond_none h
 simp only [and_eq_true, beq_iff_eq] at hb
 obtain ⟨hb1, hb2, hb3⟩ := hb
 have hb1 := Nat.eq_of_beq_eq_true hb1
 have h2 : a.eval hi = .int kd y := h2
 have h3 : a.eval mx = .int kd' m := h3
 obtain ⟨aa, cap, ev, hlc, hrow⟩ := h1
 simp only [List.cons.injEq, and_true] at ev
 obtain ⟨_, hu, i, z, hi', hz, _, g1, g2⟩ := hcx.tab t _ htd
 have hsz : i.size = e.sz := by
  by_cases he : e = .unit
  · subst he; exact g1 rfl
  · rw [(g2 he).1]; cases e <;> first | rfl | exact absurd rfl he
 refine pstep h (v := .slice aa p.length p.length) (fun w _ => ?_) ⟨⟨aa, p.length, rfl, Nat.le_refl _, hrow⟩, aa, rfl⟩
 have b1 : (Instr.sliceBounds true p.length cap none (some (.int kd y)) (some (.int kd' m))).run P w = .ok (0, p.length, p.length) w := by
  subst hb2; subst hb3
  simp [Instr.sliceBounds, run_sliceBound (P := P) (w := w) (show inb' ((p.length : Nat) : Int) cap = true from inb'_iff.2 ⟨by omega, by omega⟩), run_sliceBound (P := P) (w := w) (show inb' ((p.length : Nat) : Int) p.length = true from inb'_iff.2 ⟨by omega, by omega⟩)]
 have e1 : (Instr.sliceAt t (a.eval x) none (some (a.eval hi)) (some (a.eval mx))).run P w = .ok (.slice aa p.length p.length) w := by
  simp only [Instr.sliceAt, Sem.run_bind, run_underlying hu, Result.andThen_ok]
  rw [ev, h2, h3]
  simp only [Instr.slice, Sem.run_bind, run_underlying hu, Result.andThen_ok, b1, sizeOf, run_info hi', Sem.run_pure, hsz]
  by_cases hp : p.length = 0
  · simp [hp]
  · rw [if_neg hp]
    cases aa <;> simp [Addr.add0, Addr.add]
 simp [execOp, ho, e1]
theorem sub_sub {α : Type} (l : List α) (i j : Nat) : sub l (some (i, j)) = (l.drop i).take j := rfl
theorem splitN_some {R : Type} {k : Nat → Option R} {r : R} : ∀ {n i : Nat}, splitN n i k = some r → k i = some r
 | 0, i, h => by
   obtain ⟨h1, h2⟩ := cond_none h
   rw [Nat.eq_of_beq_eq_true h1]; exact h2
 | n + 1, i, h => by
   unfold splitN at h
   cases hb : Nat.beq i (n + 1) with
   | true => rw [hb] at h; rw [Nat.eq_of_beq_eq_true hb]; exact h
   | false => rw [hb] at h; exact splitN_some h
theorem cellsN_some {R : Type} {s : St} {id n h : Nat} {k : Nat → Option R} {r : R} (g : cellsN s id n h k = some r) : k h = some r := by
 unfold cellsN at g
 split at g
 · exact splitN_some g
 · exact g
theorem pstep_slice (hcx : CxOk P cx) (hr : Rel w0 Φ0 own0 N w Φ β s a)
  {t : TypeId} {x : Operand} {lo hi : Option Operand} (ho : o.op = .slice t x lo hi none) (h : stepK cx o s k = some r) : PStep P R (fun _ => True) w Φ β s a o k r := by
 simp only [stepK, ho] at h
 split at h
 case h_2 => cases h
 rename_i v lov hiv hx hlo hhi
 split at h
 case h_2 => cases h
 rename_i td htd
 have h1 := hr.eval hx
 obtain ⟨d, hd, hagg⟩ := (hcx.tab t _ htd).und
 have hrun : ∀ res w, (Instr.slice t (a.eval x) (lo.map a.eval) (hi.map a.eval) none).run P w = .ok res w → td.agg = false → (execOp a.eval o).run P w = .ok (.value res) w := by
  intro res w hres htag
  simp [execOp, ho, run_sliceAt hd (hagg.trans htag), hres]
 have slc : ∀ (e : CT) (en : Nat) (aa : Option Addr) (len cap l h' : Nat), td = .slice e en → a.eval x = .slice aa len cap → l ≤ h' → h' ≤ len → len ≤ cap →
   (∀ w, (Instr.sliceBounds true len cap (lo.map a.eval) (hi.map a.eval) none).run P w = .ok (l, h', cap) w) → ∀ w, True → (execOp a.eval o).run P w = .ok (.value (.slice (if cap = l then aa else aa.map (·.add (l * e.sz))) (h' - l) (cap - l))) w := by
  intro e en aa len cap l h' etd ev h2 h3 h4 hb w _
  subst etd
  obtain ⟨_, hu, i, z, hi', hz, _, g1, g2⟩ := hcx.tab t _ htd
  have hsz : i.size = e.sz := by
   by_cases he : e = .unit
   · subst he; exact g1 rfl
   · rw [(g2 he).1]; cases e <;> first | rfl | exact absurd rfl he
  refine hrun _ w ?_ rfl
  simp [Instr.slice, run_underlying hu, ev, hb, sizeOf, run_info hi', hsz]
 unfold sliceK at h
 split at h
 ·
  rename_i z p
  obtain ⟨sx, ex, ex'⟩ := h1
  obtain ⟨_, dd, hdd, _, _, hst, _⟩ := hcx.tab t _ htd
  have := hst _ rfl; subst this
  have hsz : sx.size = p.length := by rw [← ex']; exact (Array.length_toList (xs := sx.data)).symm
  obtain ⟨l, h', g1, g2, g3, g4⟩ := bounds_sound (P := P) (isS := false) hr hlo hhi (Nat.le_refl _) h
  refine pstep g3 (v := .string (sx.extract l h')) (fun w _ => hrun _ w ?_ rfl) ⟨_, rfl, ?_⟩
  · rw [← hsz] at g4
    simp [Instr.slice, run_underlying hdd, ex, g4]
  · rw [sub_sub, ← ex']
    simp [ByteArray.data_extract, List.extract_eq_take_drop]
 ·
  rename_i e en e' p
  obtain ⟨hb, h⟩ := cond_none h
  have hb := Nat.eq_of_beq_eq_true hb
  obtain ⟨aa, cap, ev, hlc, hrow⟩ := h1
  simp only [List.cons.injEq, and_true] at ev
  obtain ⟨l, h', g1, g2, g3, g4⟩ := bounds_sound (P := P) (isS := true) hr hlo hhi hlc h
  refine pstep g3 (slc _ _ aa _ cap l h' rfl ev g1 g2 hlc g4) ?_
  have hlen : (sub p (some (l, h' - l))).length = h' - l := by simp only [sub, List.length_take, List.length_drop]; omega
  refine ⟨_, cap - l, by rw [hlen], by rw [hlen]; omega, ?_⟩
  by_cases hn : sub p (some (l, h' - l)) = []
  · exact .inl hn
  · right
    have hlt : l < h' := by
     rcases Nat.lt_or_ge l h' with hh | hh
     · exact hh
     · exfalso; apply hn; apply List.eq_nil_of_length_eq_zero; simp [sub]; omega
    rcases hrow with hrow | ⟨b, ob, e1, e2, e3⟩
    · exfalso; rw [hrow] at g2; simp at g2; omega
    · refine ⟨b, ob + l * e.sz, ?_, e2, fun i x hx => ?_⟩
      · rw [if_neg (by omega), e1]; simp [Addr.add0]
      · obtain ⟨us, hu, hv⟩ := e3 (l + i) x (by have := sub_nth p (some (l, h' - l)) i x hx; simpa using this)
        refine ⟨us, ?_, hv⟩
        rw [← hb]
        rwa [show ob + l * e'.size + i * e'.size = ob + (l + i) * e'.size by rw [Nat.add_mul]; omega]
 ·
  rename_i e en
  obtain ⟨l, h', g1, g2, g3, g4⟩ := bounds_sound (P := P) (isS := true) hr hlo hhi (Nat.le_refl 0) h
  have e1 : l = 0 := by omega
  have e2 : h' = 0 := by omega
  subst e1; subst e2
  refine pstep g3 (slc _ _ none 0 0 0 0 rfl h1 g1 g2 (Nat.le_refl _) g4) ?_
  simp [SVR, LfR]
 ·
  rename_i e en id
  obtain ⟨loc, hb, ⟨aa, len, cap, ev⟩, hs⟩ := h1
  split at h
  case h_2 => cases h
  rename_i sz n hrw
  obtain ⟨hbq, h⟩ := cond_none h
  have hbq := Nat.eq_of_beq_eq_true hbq
  have hsl := hs sz n hrw
  cases loc with
  | none =>
    obtain ⟨⟨zz, e1⟩, e2, e3⟩ := hsl
    rw [ev] at e1; cases e1
    subst e2
    obtain ⟨l, h', g1, g2, g3, g4⟩ := bounds_sound (P := P) (isS := true) hr hlo hhi (Nat.le_refl 0) h
    have e1 : l = 0 := by omega
    have e2 : h' = 0 := by omega
    subst e1; subst e2
    refine pstep (cellsN_some g3) (slc _ _ aa 0 0 0 0 rfl ev g1 g2 (Nat.le_refl _) g4) ⟨none, hb, ⟨_, _, _, rfl⟩, fun sz' n' hrw' => ?_⟩
    rw [hrw] at hrw'; cases hrw'
    exact ⟨⟨aa, by simp⟩, rfl, by simp⟩
  | some bo =>
    obtain ⟨b, ob⟩ := bo
    obtain ⟨o', cap', e1, e2, e3, e4, e5, _⟩ := hsl
    rw [ev] at e1; cases e1
    simp only [Option.getD_none] at *
    obtain ⟨l, h', g1, g2, g3, g4⟩ := bounds_sound (P := P) (isS := true) hr hlo hhi e2 h
    refine pstep (cellsN_some g3) (slc _ _ _ n cap l h' rfl ev g1 g2 e2 g4) ⟨some (b, ob), hb, ⟨_, _, _, rfl⟩, fun sz' n' hrw' => ?_⟩
    rw [hrw] at hrw'; cases hrw'
    by_cases hc : cap = l
    · refine ⟨o', cap - l, by rw [if_pos hc]; simp, by simp; omega, .inr (by omega), by simp; omega, .inr (by omega), fun h => by cases h⟩
    · refine ⟨o' + l * sz, cap - l, by rw [if_neg hc, hbq]; simp [Addr.add0], by simp; omega, ?_, by simp; omega, ?_, fun h => by cases h⟩
      · left
        rcases e3 with e3 | e3
        · rw [e3]; simp
        · exfalso; omega
      · left
        have : (cap - l) * sz + l * sz = cap * sz := by rw [← Nat.add_mul]; congr 1; omega
        rcases e5 with e5 | e5
        · omega
        · exfalso; omega
 ·
  rename_i e en id off m
  obtain ⟨loc, hb, ⟨aa, len, cap, ev⟩, hs⟩ := h1
  split at h
  case h_2 => cases h
  rename_i sz n hrw
  obtain ⟨hbq, h⟩ := cond_none h
  have hbq := Nat.eq_of_beq_eq_true hbq
  have hsl := hs sz n hrw
  cases loc with
  | none =>
    obtain ⟨⟨zz, e1⟩, e2, e3⟩ := hsl
    rw [ev] at e1; cases e1
    simp only [Option.getD_some] at e3
    subst e2; subst e3
    obtain ⟨l, h', g1, g2, g3, g4⟩ := bounds_sound (P := P) (isS := true) hr hlo hhi (Nat.le_refl 0) h
    have e1 : l = 0 := by omega
    have e2 : h' = 0 := by omega
    subst e1; subst e2
    refine pstep g3 (slc _ _ aa 0 0 0 0 rfl ev g1 g2 (Nat.le_refl _) g4) ⟨none, hb, ⟨_, _, _, rfl⟩, fun sz' n' hrw' => ?_⟩
    rw [hrw] at hrw'; cases hrw'
    exact ⟨⟨aa, by simp⟩, rfl, by simp⟩
  | some bo =>
    obtain ⟨b, ob⟩ := bo
    obtain ⟨o', cap', e1, e2, e3, e4, e5, _⟩ := hsl
    rw [ev] at e1; cases e1
    simp only [Option.getD_some] at *
    obtain ⟨l, h', g1, g2, g3, g4⟩ := bounds_sound (P := P) (isS := true) hr hlo hhi e2 h
    refine pstep g3 (slc _ _ _ m cap l h' rfl ev g1 g2 e2 g4) ⟨some (b, ob), hb, ⟨_, _, _, rfl⟩, fun sz' n' hrw' => ?_⟩
    rw [hrw] at hrw'; cases hrw'
    by_cases hc : cap = l
    · refine ⟨o', cap - l, by rw [if_pos hc]; simp, by simp; omega, .inr (by omega), by simp; omega, .inr (by omega), fun h => by cases h⟩
    · refine ⟨o' + l * sz, cap - l, by rw [if_neg hc, hbq]; simp [Addr.add0], by simp; omega, ?_, by simp; omega, ?_, fun h => by cases h⟩
      · left
        rcases e3 with e3 | e3
        · rw [e3]; simp [Nat.add_mul]; omega
        · exfalso; omega
      · left
        have : (cap - l) * sz + l * sz = cap * sz := by rw [← Nat.add_mul]; congr 1; omega
        rcases e5 with e5 | e5
        · omega
        · exfalso; omega
 · cases h
theorem step_slice (hcx : CxOk P cx) (hr : Rel w0 Φ0 own0 N w Φ β s a) (hN : ∀ d, o.dst = some d → N.ok d) (hk : ∀ s' a' w' Φ' β', Rel w0 Φ0 own0 N w' Φ' β' s' a' → k s' = some r → next a' w')
  {t : TypeId} {x : Operand} {lo hi : Option Operand} (ho : o.op = .slice t x lo hi none) (h : stepK cx o s k = some r) : o.wp P a w next Q :=
 (pstep_slice hcx hr ho h).wp hr trivial hN hk
theorem ptrK_some {R : Type} {s : St} {id i : Nat} {k : SVal → Option R} {r : R} (h : ptrK s id i k = some r) : k (.one (rowPtr s id i)) = some r := by
 unfold ptrK at h
 unfold rowPtr
 split at h
 · rename_i cs hl
   exact splitN_some (k := fun i' => k (.one (.ptr id i'))) h
 · exact h
theorem pstep_indexAddr (hcx : CxOk P cx) (hr : Rel w0 Φ0 own0 N w Φ β s a)
  {t : TypeId} {x i : Operand} (ho : o.op = .indexAddr t x i) (h : stepK cx o s k = some r) : PStep P R (fun _ => True) w Φ β s a o k r := by
 simp only [stepK, ho] at h
 split at h
 case h_2 => cases h
 rename_i td v j htd hx hi
 have h1 := hr.eval hx
 have h2 := hr.eval hi
 have run : ∀ (e : CT) (en : Nat) (q : Addr) (len cap : Nat) (kd : IntKind) (z : Int), td = .slice e en → a.eval x = .slice (some q) len cap → a.eval i = .int kd z → 0 ≤ z → z < len →
   ∀ w, True → (execOp a.eval o).run P w = .ok (.value (.pointer (some (q.add (z.toNat * e.sz))))) w := by
  intro e en q len cap kd z etd ev ei h0 hlt w _
  subst etd
  obtain ⟨_, hu, ii, zz, hi', hz, _, g1, g2⟩ := hcx.tab t _ htd
  have hsz : ii.size = e.sz := by
   by_cases he : e = .unit
   · subst he; exact g1 rfl
   · rw [(g2 he).1]; cases e <;> first | rfl | exact absurd rfl he
  simp [execOp, ho, ev, ei, Instr.indexAt, asIntOf, run_underlying hu, sizeOf, run_info hi', hsz, h0, hlt]
 have row : ∀ (e : CT) (en id sz n off m : Nat) (b ob o' len cap : Nat) (kd : IntKind) (z : Int), td = .slice e en → rowOf (look s.heap id) = some (sz, n) → sz = e.sz → β id = some (some (b, ob)) →
   a.eval x = .slice (some ⟨b, o', none⟩) len cap → len ≤ cap → (o' = ob + off * sz ∨ cap = 0) → a.eval i = .int kd z → 0 ≤ z → z < len → k (s.set o.dst (.one (rowPtr s id (off + z.toNat)))) = some r → PStep P R (fun _ => True) w Φ β s a o k r := by
  intro e en id sz n off m b ob o' len cap kd z etd hrw hsz hb ev hlc ho' ei h0 hlt hkk
  have ho'' : o' = ob + off * sz := by
   rcases ho' with ho' | ho'
   · exact ho'
   · exfalso; omega
  refine pstep hkk (run e en _ len cap kd z etd ev ei h0 hlt) ?_
  rw [Addr.add0, ← hsz, ho'', show ob + off * sz + z.toNat * sz = ob + (off + z.toNat) * sz by rw [Nat.add_mul]; omega]
  have ept : rowPtr s id (off + z.toNat) = .eptr id (off + z.toNat) 0 → SVR w Φ β s.heap (.one (rowPtr s id (off + z.toNat))) (.pointer (some ⟨b, ob + (off + z.toNat) * sz, none⟩)) := by
   intro e1
   rw [e1]
   refine ⟨some (b, ob), hb, ⟨_, rfl⟩, fun sz' n' h' => ?_⟩
   rw [hrw] at h'; cases h'
   exact ⟨b, ob, rfl, by rw [Nat.add_zero]⟩
  cases hl : look s.heap id with
  | none => exact ept (by simp [rowPtr, hl])
  | some ob2 =>
    cases ob2 with
    | dead => exact ept (by simp [rowPtr, hl])
    | box cs => exact ept (by simp [rowPtr, hl])
    | arr e l => exact ept (by simp [rowPtr, hl])
    | frz e l => exact ept (by simp [rowPtr, hl])
    | map _ _ _ l => exact ept (by simp [rowPtr, hl])
    | rows _ _ _ => exact ept (by simp [rowPtr, hl])
    | mrows _ _ _ _ => exact ept (by simp [rowPtr, hl])
    | zip _ _ _ _ => exact ept (by simp [rowPtr, hl])
    | cells cs =>
      obtain ⟨b', vs, hb', _⟩ := hr.hp.ob id _ hl
      rw [hb] at hb'; cases hb'
      rw [hl] at hrw; cases hrw
      rw [show rowPtr s id (off + z.toNat) = .ptr id (off + z.toNat) by simp [rowPtr, hl]]
      exact ⟨b, by rw [hb], by simp⟩
 unfold indexAddrK at h
 split at h
 · rename_i e' en e l kd z
   obtain ⟨hb, h⟩ := cond_none h
   simp only [and_eq_true] at hb
   have hsz := Nat.eq_of_beq_eq_true hb.1
   obtain ⟨h0, hlt⟩ := inb_iff.1 hb.2
   obtain ⟨aa, cap, ev, hlc, hrow⟩ := h1
   simp only [List.cons.injEq, and_true] at ev
   cases hn : nth l z.toNat with
   | none => rw [hn] at h; cases h
   | some y =>
     rw [hn] at h
     rcases hrow with hrow | ⟨b, ob, e1, e2, e3⟩
     · subst hrow; simp at hlt; omega
     · subst e1
       refine pstep h (run e' en _ _ cap kd z rfl ev h2 h0 hlt) ?_
       obtain ⟨us, hu, hv⟩ := e3 _ y hn
       exact ⟨b, ob + z.toNat * e.size, us, e2, hu, hv, by rw [Addr.add0, ← hsz, Nat.add_zero]⟩
 · rename_i e' en e l kd z
   obtain ⟨hb, h⟩ := cond_none h
   simp only [and_eq_true] at hb
   have hsz := Nat.eq_of_beq_eq_true hb.1
   obtain ⟨h0, hlt⟩ := inb_iff.1 hb.2
   obtain ⟨⟨aa, cap, ev, hlc, hrow⟩, _⟩ := h1
   simp only [List.cons.injEq, and_true] at ev
   cases hn : nth l z.toNat with
   | none => rw [hn] at h; cases h
   | some y =>
     rw [hn] at h
     rcases hrow with hrow | ⟨b, ob, e1, e2, e3⟩
     · subst hrow; simp at hlt; omega
     · subst e1
       refine pstep h (run e' en _ _ cap kd z rfl ev h2 h0 hlt) ?_
       obtain ⟨us, hu, hv⟩ := e3 _ y hn
       exact ⟨b, ob + z.toNat * e.size, us, e2, hu, hv, by rw [Addr.add0, ← hsz, Nat.add_zero]⟩
 · rename_i e' en id kd z
   obtain ⟨loc, hb, ⟨aa, len, cap, ev⟩, hs⟩ := h1
   split at h
   case h_2 => cases h
   rename_i sz n hrw
   obtain ⟨hbq, h⟩ := cond_none h
   simp only [and_eq_true] at hbq
   have hsz := Nat.eq_of_beq_eq_true hbq.1
   obtain ⟨h0, hlt⟩ := inb_iff.1 hbq.2
   have hsl := hs sz n hrw
   cases loc with
   | none => obtain ⟨_, e2, _⟩ := hsl; omega
   | some bo =>
     obtain ⟨b, ob⟩ := bo
     obtain ⟨o', cap', e1, e2, e3, e4, e5, _⟩ := hsl
     simp only [Option.getD_none] at *
     exact row e' en id sz n 0 0 b ob o' n cap' kd z rfl hrw hsz hb e1 e2 e3 h2 h0 hlt (by rw [Nat.zero_add]; exact ptrK_some h)
 · rename_i e' en id off m kd z
   obtain ⟨loc, hb, ⟨aa, len, cap, ev⟩, hs⟩ := h1
   split at h
   case h_2 => cases h
   rename_i sz n hrw
   obtain ⟨hbq, h⟩ := cond_none h
   simp only [and_eq_true] at hbq
   have hsz := Nat.eq_of_beq_eq_true hbq.1
   obtain ⟨h0, hlt⟩ := inb_iff.1 hbq.2
   have hsl := hs sz n hrw
   cases loc with
   | none => obtain ⟨_, _, e2⟩ := hsl; simp only [Option.getD_some] at e2; omega
   | some bo =>
     obtain ⟨b, ob⟩ := bo
     obtain ⟨o', cap', e1, e2, e3, e4, e5, _⟩ := hsl
     simp only [Option.getD_some] at *
     exact row e' en id sz n off m b ob o' m cap' kd z rfl hrw hsz hb e1 e2 e3 h2 h0 hlt (ptrK_some h)
 · cases h
theorem step_indexAddr (hcx : CxOk P cx) (hr : Rel w0 Φ0 own0 N w Φ β s a) (hN : ∀ d, o.dst = some d → N.ok d) (hk : ∀ s' a' w' Φ' β', Rel w0 Φ0 own0 N w' Φ' β' s' a' → k s' = some r → next a' w')
  {t : TypeId} {x i : Operand} (ho : o.op = .indexAddr t x i) (h : stepK cx o s k = some r) : o.wp P a w next Q :=
 (pstep_indexAddr hcx hr ho h).wp hr trivial hN hk
def SVRs (w : World) (Φ : Nat → Prop) (β : Loc) (hp : List (Nat × SObj)) : List SVal → List Value → Prop
 | [], vs => vs = []
 | l :: ls, vs => ∃ v vs', vs = v :: vs' ∧ SVR w Φ β hp l v ∧ SVRs w Φ β hp ls vs'
theorem evalAll_sound (hr : Rel w0 Φ0 own0 N w Φ β s a) : ∀ (xs : List Operand) (vs : List SVal), evalAll s.env xs = some vs → SVRs w Φ β s.heap vs (xs.map a.eval)
 | [], vs, h => by simp [evalAll] at h; subst h; rfl
 | x :: xs, vs, h => by
   simp only [evalAll] at h
   split at h
   · rename_i v vs' h1 h2; cases h; exact ⟨_, _, rfl, hr.eval h1, evalAll_sound hr xs vs' h2⟩
   · cases h
theorem run_max : ∀ (vs : List SVal) (xs : List Value) (j : IntKind) (z : Int) (k : SVal → Option R), SVRs w Φ β hp vs xs → maxK k j z vs = some r →
  ∃ q, k (.one (.int j q)) = some r ∧ ∀ w, (xs.foldlM Builtin.max2 (.int j z)).run P w = .ok (.int j q) w
 | [], xs, j, z, k, h, hk => by cases h; exact ⟨z, by simpa [maxK] using hk, fun w => by simp⟩
 | .one (.int j' b) :: vs, xs, j, z, k, ⟨u, us, e, h1, h2⟩, hk => by
   subst e
   simp only [maxK] at hk
   obtain ⟨q, g1, g2⟩ := run_max vs us j _ k h2 hk
   have hu : u = .int j' b := h1
   subst hu
   exact ⟨q, g1, fun w => by simpa [Builtin.max2] using g2 w⟩
 | .one .undef :: vs, _, _, _, _, _, hk => by simp [maxK] at hk
 | .one (.bool _) :: vs, _, _, _, _, _, hk => by simp [maxK] at hk
 | .one (.str _) :: vs, _, _, _, _, _, hk => by simp [maxK] at hk
 | .one (.list _ _) :: vs, _, _, _, _, _, hk => by simp [maxK] at hk
 | .one .nils :: vs, _, _, _, _, _, hk => by simp [maxK] at hk
 | .one (.clist _ _) :: vs, _, _, _, _, _, hk => by simp [maxK] at hk
 | .one (.ptr _ _) :: vs, _, _, _, _, _, hk => by simp [maxK] at hk
 | .one (.eptr _ _ _) :: vs, _, _, _, _, _, hk => by simp [maxK] at hk
 | .one (.vptr _ _ _) :: vs, _, _, _, _, _, hk => by simp [maxK] at hk
 | .one (.sl _ _) :: vs, _, _, _, _, _, hk => by simp [maxK] at hk
 | .agg _ :: vs, _, _, _, _, _, hk => by simp [maxK] at hk
 | .tup _ :: vs, _, _, _, _, _, hk => by simp [maxK] at hk
 | .skip :: vs, _, _, _, _, _, hk => by simp [maxK] at hk
theorem run_min : ∀ (vs : List SVal) (xs : List Value) (j : IntKind) (z : Int) (k : SVal → Option R), SVRs w Φ β hp vs xs → minK k j z vs = some r →
  ∃ q, k (.one (.int j q)) = some r ∧ ∀ w, (xs.foldlM Builtin.min2 (.int j z)).run P w = .ok (.int j q) w
 | [], xs, j, z, k, h, hk => by cases h; exact ⟨z, by simpa [minK] using hk, fun w => by simp⟩
 | .one (.int j' b) :: vs, xs, j, z, k, ⟨u, us, e, h1, h2⟩, hk => by
   subst e
   simp only [minK] at hk
   obtain ⟨q, g1, g2⟩ := run_min vs us j _ k h2 hk
   have hu : u = .int j' b := h1
   subst hu
   exact ⟨q, g1, fun w => by simpa [Builtin.min2] using g2 w⟩
 | .one .undef :: vs, _, _, _, _, _, hk => by simp [minK] at hk
 | .one (.bool _) :: vs, _, _, _, _, _, hk => by simp [minK] at hk
 | .one (.str _) :: vs, _, _, _, _, _, hk => by simp [minK] at hk
 | .one (.list _ _) :: vs, _, _, _, _, _, hk => by simp [minK] at hk
 | .one .nils :: vs, _, _, _, _, _, hk => by simp [minK] at hk
 | .one (.clist _ _) :: vs, _, _, _, _, _, hk => by simp [minK] at hk
 | .one (.ptr _ _) :: vs, _, _, _, _, _, hk => by simp [minK] at hk
 | .one (.eptr _ _ _) :: vs, _, _, _, _, _, hk => by simp [minK] at hk
 | .one (.vptr _ _ _) :: vs, _, _, _, _, _, hk => by simp [minK] at hk
 | .one (.sl _ _) :: vs, _, _, _, _, _, hk => by simp [minK] at hk
 | .agg _ :: vs, _, _, _, _, _, hk => by simp [minK] at hk
 | .tup _ :: vs, _, _, _, _, _, hk => by simp [minK] at hk
 | .skip :: vs, _, _, _, _, _, hk => by simp [minK] at hk
theorem pstep_max (hr : Rel w0 Φ0 own0 N w Φ β s a)
  {c : Call} (ho : o.op = .call c) (hc : c.callee = .builtin .max ∨ c.callee = .builtin .min) (h : stepK cx o s k = some r) : PStep P R (fun _ => True) w Φ β s a o k r := by
 rcases hc with hc | hc
 · simp only [stepK, ho, hc] at h
   split at h
   case h_2 => cases h
   rename_i j z vs hev
   obtain ⟨u, us, e1, e2, e3⟩ := evalAll_sound hr _ _ hev
   have hu : u = .int j z := e2
   subst hu
   obtain ⟨q, g1, g2⟩ := run_max (P := P) vs us j z _ e3 h
   refine pstep g1 (v := .int j q) (fun w _ => ?_) (by rfl)
   have hargs : (c.args.map a.eval).toList = .int j z :: us := by rw [Array.toList_map]; exact e1
   have hm : (Builtin.max_ c.argTypes o.type (c.args.map a.eval)).run P w = .ok (.int j q) w := by
    unfold Builtin.max_; rw [hargs]; exact g2 w
   simp [execOp, ho, resolve, hc, invoke, builtin, hm]
 · simp only [stepK, ho, hc] at h
   split at h
   case h_2 => cases h
   rename_i j z vs hev
   obtain ⟨u, us, e1, e2, e3⟩ := evalAll_sound hr _ _ hev
   have hu : u = .int j z := e2
   subst hu
   obtain ⟨q, g1, g2⟩ := run_min (P := P) vs us j z _ e3 h
   refine pstep g1 (v := .int j q) (fun w _ => ?_) (by rfl)
   have hargs : (c.args.map a.eval).toList = .int j z :: us := by rw [Array.toList_map]; exact e1
   have hm : (Builtin.min_ c.argTypes o.type (c.args.map a.eval)).run P w = .ok (.int j q) w := by
    unfold Builtin.min_; rw [hargs]; exact g2 w
   simp [execOp, ho, resolve, hc, invoke, builtin, hm]
theorem step_max (hr : Rel w0 Φ0 own0 N w Φ β s a) (hN : ∀ d, o.dst = some d → N.ok d) (hk : ∀ s' a' w' Φ' β', Rel w0 Φ0 own0 N w' Φ' β' s' a' → k s' = some r → next a' w')
  {c : Call} (ho : o.op = .call c) (hc : c.callee = .builtin .max ∨ c.callee = .builtin .min) (h : stepK cx o s k = some r) : o.wp P a w next Q :=
 (pstep_max hr ho hc h).wp hr trivial hN hk
theorem LfRs_oneCell : ∀ {ls : List Leaf} {vs : List Value}, LfRs w Φ β hp ls vs → ls.all Leaf.def = true → ∀ v ∈ vs, v.oneCell' = true
 | [], _, h, _, v, hv => by cases h; cases hv
 | l :: ls, _, ⟨u, us, e, h1, h2⟩, hd, v, hv => by
   subst e
   simp only [List.all_cons, and_eq_true] at hd
   cases hv with
   | head => exact LfR_oneCell h1 hd.1
   | tail _ hm => exact LfRs_oneCell h2 hd.2 v hm
theorem VC_oneCell : ∀ (t : CT) (x : t.denote) (vs : List Value), VC w Φ t x vs → ∀ v ∈ vs, v.oneCell' = true
 | .unit, _, _, h, v, hv => by cases h; cases hv
 | .int _, _, _, h, v, hv => by cases h; simp at hv; subst hv; rfl
 | .bool, _, _, h, v, hv => by cases h; simp at hv; subst hv; rfl
 | .str, _, _, ⟨s, h, _⟩, v, hv => by cases h; simp at hv; subst hv; rfl
 | .list _, _, _, ⟨_, _, h, _⟩, v, hv => by cases h; simp at hv; subst hv; rfl
 | .prod a b, x, _, ⟨u, us, e, h1, h2⟩, v, hv => by
   subst e
   cases hv with
   | head => exact VC_oneCell a x.1 [u] h1 u (by simp)
   | tail _ hm => exact VC_oneCell b x.2 us h2 v hm
 | .sum _ _, _, _, h, _, _ => h.elim
theorem Wrote.cells {w' : World} {b o : Nat} {xs vs : List Value} (hw : Wrote w w' b o xs) {p : Nat} (h : cellsAt w b p vs) (vs' : List Value) (hl : vs'.length = vs.length)
  (hv : ∀ i, i < vs.length → vs'[i]? = if o ≤ p + i ∧ p + i < o + xs.length then xs[p + i - o]? else vs[i]?) : cellsAt w' b p vs' := by
 refine cellsAt_of _ _ _ fun j v hj => ?_
 rw [hw.cell]
 rw [hv j (by have := (List.getElem?_eq_some_iff.1 hj).1; omega)] at hj
 split
 · rename_i hc; rw [if_pos hc] at hj; exact hj
 · rename_i hc; rw [if_neg hc] at hj; exact cellsAt_get _ _ _ h j v hj
theorem Wrote.apart {w' : World} {b o : Nat} {xs vs : List Value} (hw : Wrote w w' b o xs) {p : Nat} (h : cellsAt w b p vs) (hd : p + vs.length ≤ o ∨ o + xs.length ≤ p) : cellsAt w' b p vs :=
 hw.cells h vs rfl fun i hi => by rw [if_neg (by omega)]
end
end Go.Bm
