import Derived.Test.YtlobhcgbmpcdlaaGreatDoorBmStep6
namespace Go.Bm
set_option linter.unusedVariables false
set_option linter.unusedSimpArgs false
section
variable {P : Program} {R : Type} {w0 : World} {Φ0 own0 : Nat → Prop} {N : Frm} {w : World} {Φ : Nat → Prop} {β : Loc} {s : St} {a : Act} {hp : List (Nat × SObj)}
variable {cx : Cx} {o : Oper} {next : Act → World → Prop} {Q : Exit → Act → World → Prop} {k : St → Option R} {r : R}
theorem Wrote.mono {w' : World} {b p : Nat} {xs : List Value} (hr : HpR w Φ β s) (hw : Wrote w w' b p xs) (hb : ¬ Φ b) {id : Nat} {ob ob' : SObj} (hl : look s.heap id = some ob) (hrow : rowOf (some ob') = rowOf (some ob)) :
  Mono w Φ β s.heap w' Φ β (s.put id ob').heap := by
 refine ⟨fun b' hb' => hw.other b' (fun e => hb (e ▸ hb')), fun _ h => h, fun _ _ h => h, ?_, ?_⟩
 · intro j x hx r hr
   simp only [St.put, look_cons] at hr
   split at hr
   · rename_i e; subst e; rw [hl, ← hrow]; exact hr
   · exact hr
 · intro j b' q r hb' hr
   by_cases e : b' = b
   · subst e; rw [hw.bs]
   · unfold blockSize; rw [hw.other b' e]
theorem Rel.write (hr : Rel w0 Φ0 own0 N w Φ β s a) {w' : World} {b p q : Nat} {xs : List Value} {id : Nat} {ob ob' : SObj} (hnr : ob.isRows = false) (hnr' : ob'.isRows = false) (hl : look s.heap id = some ob) (hown : ob.owned = true) (hown' : ob'.owned = true)
  (hb : β id = some (some (b, q))) (hh : s.held id = false) (hw : Wrote w w' b p xs) (hrow : rowOf (some ob') = rowOf (some ob)) (hΦ : ¬ Φ b) (hob : ObR w' Φ β (s.put id ob').heap id ob') : Rel w0 Φ0 own0 N w' Φ β (s.put id ob') a := by
 refine hr.turn hnr hnr' hl (.inl hown) hh w' Φ (hw.same hr.same (hr.mine hh hl hown hb)) hw.size (fun _ h => h) (fun _ h => .inl h) ?_ (fun b' hb' => hw.other b' (fun e => hΦ (e ▸ hb'))) ?_ (.inl hrow) hob
 · intro b' hb' hne
   exact hw.other b' (fun e => by subst e; exact hne hown q hb)
 · intro b' hb'
   by_cases e : b' = b
   · subst e; exact hw.bs
   · unfold blockSize; rw [hw.other b' e]
theorem splice_get {vs xs : List Value} {off : Nat} (h : off + xs.length ≤ vs.length) (i : Nat) :
  (vs.take off ++ xs ++ vs.drop (off + xs.length))[i]? = if off ≤ i ∧ i < off + xs.length then xs[i - off]? else vs[i]? := by
 by_cases h1 : i < off
 · rw [if_neg (by omega), List.append_assoc, List.getElem?_append_left (by simp; omega), List.getElem?_take, if_pos h1]
 · by_cases h2 : i < off + xs.length
   · rw [if_pos (by omega), List.append_assoc, List.getElem?_append_right (by simp; omega), List.getElem?_append_left (by simp; omega)]
     simp [Nat.min_eq_left (show off ≤ vs.length by omega)]
   · rw [if_neg (by omega), List.getElem?_append_right (by simp; omega)]
     simp [Nat.min_eq_left (show off ≤ vs.length by omega)]
     congr 1; omega
theorem splice_len {vs xs : List Value} {off : Nat} (h : off + xs.length ≤ vs.length) : (vs.take off ++ xs ++ vs.drop (off + xs.length)).length = vs.length := by
 simp; omega
theorem row_apart {w' : World} {b p o : Nat} {xs : List Value} (hw : Wrote w w' b p xs) (hΦ : ¬ Φ b) {e : CT} {l : List e.denote} (h : RowAt w Φ e b o l) (hd : ∀ i, i < l.length → o + i * e.size + e.size ≤ p ∨ p + xs.length ≤ o + i * e.size) : RowAt w' Φ e b o l := by
 intro i x hx
 obtain ⟨us, h1, h2⟩ := h i x hx
 have hi : i < l.length := by rw [nth_getElem?] at hx; exact (List.getElem?_eq_some_iff.1 hx).1
 have hl := VC_len _ _ _ h2
 exact ⟨us, hw.apart h1 (by rw [hl]; exact hd i hi), VC_mono (fun b' hb' => hw.other b' (fun e => hΦ (e ▸ hb'))) (fun _ h => h) _ _ _ h2⟩
theorem mul_lt_le {i j n : Nat} (h : i < j) : i * n + n ≤ j * n := by
 have : (i + 1) * n ≤ j * n := Nat.mul_le_mul_right _ h
 rwa [Nat.add_mul, Nat.one_mul] at this
theorem step_storeK (hcx : CxOk P cx) (hr : Rel w0 Φ0 own0 N w Φ β s a) (hN : ∀ d, o.dst = some d → N.ok d) (hk : ∀ s' a' w' Φ' β', Rel w0 Φ0 own0 N w' Φ' β' s' a' → k s' = some r → next a' w')
  {t : TypeId} {x y : Operand} (ho : o.op = .store t x y) {td : TD} {v u : SVal} (htd : cx.tab t = some td) (hx : evalO s.env x = some v) (hy : evalO s.env y = some u) (h : storeK s td v u (fun s' => k (s'.set o.dst (.one .undef))) = some r) : o.wp P a w next Q := by
 have h1 := hr.eval hx
 have h2 := hr.eval hy
 have hok := hcx.tab t _ htd
 have fin : ∀ {w' : World} {Φ' : Nat → Prop} {s' : St}, Rel w0 Φ0 own0 N w' Φ' β s' a → (execOp a.eval o).run P w = .ok .skip w' → k (s'.set o.dst (.one .undef)) = some r → o.wp P a w next Q := by
  intro w' Φ' s' hr' hrun hkk
  exact upon_skip hrun (hk _ _ _ _ _ (hr'.set (sv := .one .undef) (v := undef) trivial hN) hkk)
 have hrun : ∀ {b p : Nat} {w' : World}, a.eval x = .pointer (some ⟨b, p, none⟩) → (storeVar t ⟨b, p, none⟩ (a.eval y)).run P w = .ok () w' → (execOp a.eval o).run P w = .ok .skip w' := by
  intro b p w' ev hst
  simp [execOp, ho, Instr.storeAt, ev, Instr.sureAddr, hst]
 unfold storeK at h
 split at h
 ·
  rename_i id off vs hvs
  split at h
  case h_2 => cases h
  rename_i cs hl
  obtain ⟨hb, h⟩ := cond_none h
  simp only [Bool.and_eq_true] at hb
  have hb1 : vs.length = td.size := Nat.eq_of_beq_eq_true hb.1
  have hb2 : off + vs.length ≤ cs.length := Nat.le_of_ble_eq_true hb.2.1
  have hdf := hb.2.2.1
  have hh : s.held id = false := by simpa using hb.2.2.2
  have hls := leaves_SVR hvs h2 (.inl hdf)
  have hlen := LfRs_len hls
  obtain ⟨b, hbb, ev⟩ := h1
  obtain ⟨b', us, hb', hnΦ, hfz, hc, hcs⟩ := hr.hp.ob id _ hl
  rw [hbb] at hb'; cases hb'
  have hul := LfRs_len hcs
  have hcl : (a.eval y).cells.size = vs.length := by simpa using hlen
  obtain ⟨w', g1, g2⟩ := run_storeVar (P := P) (w := w) hok (b := b) (o := off) (v := a.eval y) (by omega) (LfRs_oneCell hls hdf)
   (fun j hj => by
     have hj' : off + j < us.length := by omega
     have := cellsAt_get us 0 b hc (off + j) us[off + j] (by simp [hj'])
     rw [Nat.zero_add] at this
     rw [this]; rfl) hfz
  have hle : off + (a.eval y).cells.toList.length ≤ us.length := by simp; omega
  have m := g2.mono hr.hp hnΦ (id := id) (ob' := .box (setMany cs off vs)) hl (by simp [rowOf, setMany_len])
  refine fin (hr.write rfl rfl hl rfl rfl hbb hh g2 (by simp [rowOf, setMany_len]) hnΦ ?_) (hrun ev g1) h
  refine ⟨b, _, hbb, hnΦ, g2.fz hfz, g2.cells hc (us.take off ++ (a.eval y).cells.toList ++ us.drop (off + (a.eval y).cells.toList.length)) (splice_len hle) (fun i _ => ?_), ?_⟩
  · rw [splice_get hle]; simp only [Nat.zero_add]
  · exact LfRs_mono m _ _ (LfRs_set hcs hls hb2 (splice_len hle) (fun i => splice_get hle i))
 ·
  rename_i id i off vs hvs
  split at h
  case h_3 => cases h
  ·
   rename_i e l cs m hl
   replace h := cond_none h
   obtain ⟨hb, h⟩ := h
   simp only [Bool.and_eq_true] at hb
   have hi : i = l.length := Nat.eq_of_beq_eq_true hb.1
   subst hi
   have hb1 : vs.length = td.size := Nat.eq_of_beq_eq_true hb.2.1
   have hb2 : off + vs.length ≤ cs.length := Nat.le_of_ble_eq_true hb.2.2.1
   have hdf := hb.2.2.2.1
   have hh : s.held id = false := by simpa using hb.2.2.2.2
   have hls := leaves_SVR hvs h2 (.inl hdf)
   have hlen := LfRs_len hls
   have hcl : (a.eval y).cells.toList.length = vs.length := hlen
   obtain ⟨loc, hloc, ⟨q, hq⟩, hrw⟩ := h1
   obtain ⟨b, ob, e1, ev⟩ := hrw e.size _ (by rw [hl]; rfl)
   subst e1
   obtain ⟨b', p', us, hb', hnΦ, hfz, hpre, hc, hcs, husl, hpost⟩ := hr.hp.ob id _ hl
   rw [hloc] at hb'; cases hb'
   have hul := LfRs_len hcs
   obtain ⟨w', g1, g2⟩ := run_storeVar (P := P) (w := w) hok (b := b) (o := ob + l.length * e.size + off) (v := a.eval y) (by rw [← Array.length_toList]; omega) (LfRs_oneCell hls hdf)
    (fun j hj => by
      have hj' : off + j < us.length := by rw [← Array.length_toList] at hj; omega
      have := cellsAt_get us _ b hc (off + j) us[off + j] (by simp [hj'])
      rw [← Nat.add_assoc] at this
      rw [this]; rfl) hfz
   have hle : off + (a.eval y).cells.toList.length ≤ us.length := by omega
   have mm := g2.mono hr.hp hnΦ (id := id) (ob' := .zip e l (setMany cs off vs) m) hl rfl
   refine fin (hr.write (ob' := .zip e l (setMany cs off vs) m) rfl rfl hl rfl rfl hloc hh g2 rfl hnΦ ⟨b, ob, _, hloc, hnΦ, g2.fz hfz, ?_, g2.cells hc (us.take off ++ (a.eval y).cells.toList ++ us.drop (off + (a.eval y).cells.toList.length)) (splice_len hle) (fun i _ => ?_), ?_, by rw [splice_len hle]; exact husl, ?_⟩) (hrun ev g1) h
   · refine row_apart g2 hnΦ hpre fun j hj => .inl ?_
     have := mul_lt_le (n := e.size) hj
     omega
   · rw [splice_get hle]
     by_cases hc2 : off ≤ i ∧ i < off + (a.eval y).cells.toList.length
     · rw [if_pos hc2, if_pos (by omega)]; congr 1; omega
     · rw [if_neg hc2, if_neg (by omega)]
   · exact LfRs_mono mm _ _ (LfRs_set hcs hls hb2 (splice_len hle) (fun i => splice_get hle i))
   · refine row_apart g2 hnΦ hpost fun j hj => .inr ?_
     rw [Nat.add_mul]
     omega
  rename_i e l hl
  cases hzb : zipB s e.size vs
  case true =>
   rw [hzb, cond_true] at h
   replace h := cond_none h
   obtain ⟨hb, h⟩ := h
   simp only [Bool.and_eq_true] at hb
   have hb1 : vs.length = td.size := Nat.eq_of_beq_eq_true hb.1
   have hb2 : off + vs.length ≤ e.size := Nat.le_of_ble_eq_true hb.2.1
   have hdf := hb.2.2.1
   have hh : s.held id = false := by simpa using hb.2.2.2
   have hls := leaves_SVR hvs h2 (.inl hdf)
   have hlen := LfRs_len hls
   have hcl : (a.eval y).cells.toList.length = vs.length := hlen
   cases hn : nth l i with
   | none => rw [hn] at h; cases h
   | some xx =>
   rw [hn, Option.bind_some] at h
   have hil : i < l.length := by rw [nth_getElem?] at hn; exact (List.getElem?_eq_some_iff.1 hn).1
   obtain ⟨loc, hloc, ⟨q, hq⟩, hrw⟩ := h1
   obtain ⟨b, ob, e1, ev⟩ := hrw e.size l.length (by rw [hl]; rfl)
   subst e1
   rcases hr.hp.ob id _ hl with ⟨h3, _⟩ | ⟨b', p', h3, hnΦ, hfz, hrow⟩
   · rw [hloc] at h3; cases h3
   rw [hloc] at h3; cases h3
   obtain ⟨us, hc, hvx⟩ := hrow i xx hn
   have husl := VC_len _ _ _ hvx
   have hun := unpackL_LfRs (β := β) (hp := s.heap) e xx us hvx
   have hunl := LfRs_len hun
   have hle : off + (a.eval y).cells.toList.length ≤ us.length := by omega
   obtain ⟨w', g1, g2⟩ := run_storeVar (P := P) (w := w) hok (b := b) (o := ob + i * e.size + off) (v := a.eval y) (by rw [← Array.length_toList]; omega) (LfRs_oneCell hls hdf)
    (fun j hj => by
      have hj' : off + j < us.length := by rw [← Array.length_toList] at hj; omega
      have := cellsAt_get us _ b hc (off + j) us[off + j] (by simp [hj'])
      rw [← Nat.add_assoc] at this
      rw [this]; rfl) hfz
   have hrowq : rowOf (some (.zip e (l.take i) (setMany (unpackL e xx) off vs) (l.drop (i + 1)))) = rowOf (some (.arr e l)) := by
    simp only [rowOf, List.length_take, List.length_drop]
    congr 2; omega
   have hti : (l.take i).length = i := by rw [List.length_take]; omega
   have mm := g2.mono hr.hp hnΦ (id := id) (ob' := .zip e (l.take i) (setMany (unpackL e xx) off vs) (l.drop (i + 1))) hl hrowq
   refine fin (hr.write rfl rfl hl rfl rfl hloc hh g2 hrowq hnΦ ⟨b, ob, us.take off ++ (a.eval y).cells.toList ++ us.drop (off + (a.eval y).cells.toList.length), hloc, hnΦ, g2.fz hfz, ?_, ?_, ?_, by rw [splice_len hle]; exact husl, ?_⟩) (hrun ev g1) h
   · have hpre : RowAt w Φ e b ob (l.take i) := fun j x hx => hrow j x (by
      rw [nth_getElem?] at hx ⊢
      rw [List.getElem?_take] at hx
      split at hx
      · exact hx
      · cases hx)
     refine row_apart g2 hnΦ hpre fun j hj => .inl ?_
     have := mul_lt_le (n := e.size) (show j < i by omega)
     omega
   · rw [hti]
     refine g2.cells hc _ (splice_len hle) (fun i _ => ?_)
     rw [splice_get hle]
     by_cases hc2 : off ≤ i ∧ i < off + (a.eval y).cells.toList.length
     · rw [if_pos hc2, if_pos (by omega)]; congr 1; omega
     · rw [if_neg hc2, if_neg (by omega)]
   · exact LfRs_mono mm _ _ (LfRs_set hun hls (by omega) (splice_len hle) (fun i => splice_get hle i))
   · rw [hti]
     have hpost : RowAt w Φ e b (ob + (i + 1) * e.size) (l.drop (i + 1)) := fun j x hx => by
      rw [nth_getElem?, List.getElem?_drop] at hx
      obtain ⟨us', k1, k2⟩ := hrow (i + 1 + j) x (by rw [nth_getElem?]; exact hx)
      exact ⟨us', by rw [Nat.add_assoc ob, ← Nat.add_mul]; exact k1, k2⟩
     refine row_apart g2 hnΦ hpost fun j hj => .inr ?_
     rw [Nat.add_mul]
     omega
  rw [hzb, cond_false] at h
  unfold storeA at h
  replace h := cond_none h
  obtain ⟨hb, h⟩ := h
  simp only [Bool.and_eq_true] at hb
  have hb1 : vs.length = td.size := Nat.eq_of_beq_eq_true hb.1
  have hb2 : off + vs.length ≤ e.size := Nat.le_of_ble_eq_true hb.2.1
  have hls := leaves_SVR hvs h2 (.inl hb.2.2)
  have hlen := LfRs_len hls
  have hcl : (a.eval y).cells.toList.length = vs.length := hlen
  obtain ⟨loc, hloc, ⟨q, hq⟩, hrw⟩ := h1
  obtain ⟨b, ob, e1, ev⟩ := hrw e.size l.length (by rw [hl]; rfl)
  subst e1
  have go : ∀ (z old : e.denote) (us : List Value) (Φ' : Nat → Prop) (s' : St), nth l i = some old → cellsAt w b (ob + i * e.size) us → us.length = e.size →
    Rel w0 Φ0 own0 N w Φ' β s' a → Packed w Φ β s Φ' s' → VC w Φ' e z (us.take off ++ (a.eval y).cells.toList ++ us.drop (off + (a.eval y).cells.toList.length)) →
    setK id i e z s' (fun s' => k (s'.set o.dst (.one .undef))) = some r → o.wp P a w next Q := by
   intro z old us Φ' s' hold hus hul hr' hpk hz hset
   unfold setK at hset
   split at hset
   case h_2 => cases hset
   rename_i e' l' hl'
   have := hpk.look id _ hl' rfl
   rw [hl] at this; cases this
   rw [dif_pos rfl] at hset
   cases hh : s'.held id with
   | true => rw [hh] at hset; cases hset
   | false =>
   rw [hh] at hset
   simp only [cond_false] at hset
   rcases hr'.hp.ob id _ hl' with ⟨h3, _⟩ | ⟨b', ob', h3, hnΦ, hfz, hrow⟩
   · rw [hloc] at h3; cases h3
   · rw [hloc] at h3; cases h3
     have hle : off + (a.eval y).cells.toList.length ≤ us.length := by omega
     obtain ⟨w', g1, g2⟩ := run_storeVar (P := P) (w := w) hok (b := b) (o := ob + i * e.size + off) (v := a.eval y) (by rw [← Array.length_toList]; omega) (LfRs_oneCell hls hb.2.2)
      (fun j hj => by
        have hj' : off + j < us.length := by rw [← Array.length_toList] at hj; omega
        have := cellsAt_get us _ b hus (off + j) us[off + j] (by simp [hj'])
        rw [← Nat.add_assoc] at this
        rw [this]; rfl) hfz
     have m := g2.mono hr'.hp hnΦ (id := id) (ob' := .arr e (setNth l i z)) hl' (by simp [rowOf, setNth_len])
     refine fin (hr'.write (ob' := .arr e (setNth l i z)) rfl rfl hl' rfl rfl hloc hh g2 (by simp [rowOf, setNth_len]) hnΦ (.inr ⟨b, ob, hloc, hnΦ, g2.fz hfz, fun j xx hj => ?_⟩)) (hrun ev g1) hset
     rw [nth_getElem?, setNth_getElem?] at hj
     split at hj
     · rename_i hc
       obtain ⟨rfl, hlt⟩ := hc
       cases hj
       refine ⟨_, g2.cells hus _ (splice_len hle) (fun m _ => ?_), VC_mono m.frz m.sub _ _ _ hz⟩
       rw [splice_get hle]
       by_cases hc : off ≤ m ∧ m < off + (a.eval y).cells.toList.length
       · rw [if_pos hc, if_pos (by omega)]; congr 1; omega
       · rw [if_neg hc, if_neg (by omega)]
     · rename_i hc
       obtain ⟨us', hu1, hu2⟩ := hrow j xx (by rw [nth_getElem?]; exact hj)
       have hul' := VC_len _ _ _ hu2
       have hjl : j < l.length := (List.getElem?_eq_some_iff.1 hj).1
       have hil : i < l.length := by rw [nth_getElem?] at hold; exact (List.getElem?_eq_some_iff.1 hold).1
       have hne : j ≠ i := fun e => hc ⟨e, hil⟩
       refine ⟨us', g2.apart hu1 ?_, VC_mono m.frz m.sub _ _ _ hu2⟩
       rcases Nat.lt_or_gt_of_ne hne with hlt | hgt
       · left
         have : (j + 1) * e.size ≤ i * e.size := Nat.mul_le_mul_right _ hlt
         rw [Nat.add_mul] at this; omega
       · right
         have : (i + 1) * e.size ≤ j * e.size := Nat.mul_le_mul_right _ hgt
         rw [Nat.add_mul] at this; omega
  have old : ∀ {xx : e.denote}, nth l i = some xx → ∃ us, cellsAt w b (ob + i * e.size) us ∧ VC w Φ e xx us := by
   intro xx hxx
   rcases hr.hp.ob id _ hl with ⟨h3, _⟩ | ⟨b', ob', h3, _, _, hrow⟩
   · rw [hloc] at h3; cases h3
   · rw [hloc] at h3; cases h3; exact hrow i xx hxx
  cases hcc : (Nat.beq off 0 && Nat.beq vs.length e.size)
  case true =>
   rw [hcc] at h
   simp only [cond_true] at h
   simp only [Bool.and_eq_true] at hcc
   have h0 := Nat.eq_of_beq_eq_true hcc.1
   subst h0
   have hsz := Nat.eq_of_beq_eq_true hcc.2
   split at h
   case h_2 => cases h
   rename_i z s' hpz
   obtain ⟨hlt, h⟩ := cond_none h
   rw [Nat.blt_eq] at hlt
   obtain ⟨Φ', p1, p2, p3⟩ := packL_sound hr hls hpz
   obtain ⟨us, hu1, hu2⟩ := old (xx := l[i]) (by rw [nth_getElem?]; simp [hlt])
   have hul := VC_len _ _ _ hu2
   refine go z l[i] us Φ' s' (by rw [nth_getElem?]; simp [hlt]) hu1 hul p1 p2 ?_ h
   have : us.take 0 ++ (a.eval y).cells.toList ++ us.drop (0 + (a.eval y).cells.toList.length) = (a.eval y).cells.toList := by
    rw [List.drop_eq_nil_of_le (by omega)]; simp
   rw [this]; exact p3
  case false =>
   rw [hcc] at h
   simp only [cond_false] at h
   cases hn : nth l i with
   | none => rw [hn] at h; cases h
   | some xx =>
     rw [hn] at h
     simp only [Option.bind_some] at h
     split at h
     case h_2 => cases h
     rename_i z s' hpz
     obtain ⟨us, hu1, hu2⟩ := old hn
     have hul := VC_len _ _ _ hu2
     have hle : off + (a.eval y).cells.toList.length ≤ us.length := by omega
     have hun := unpackL_LfRs (β := β) (hp := s.heap) e xx us hu2
     have hunl := LfRs_len hun
     obtain ⟨Φ', p1, p2, p3⟩ := packL_sound hr (LfRs_set hun hls (by omega) (splice_len hle) (fun i => splice_get hle i)) hpz
     exact go z xx us Φ' s' hn hu1 hul p1 p2 p3 h
 · cases h
end
end Go.Bm
