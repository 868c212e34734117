import Derived.Test.YtlobhcgbmpcdlaaGreatDoorBmStep4
namespace Go.Bm
set_option linter.unusedVariables false
set_option linter.unusedSimpArgs false
section
variable {P : Program} {R : Type} {w0 : World} {Φ0 own0 : Nat → Prop} {N : Frm} {w : World} {Φ : Nat → Prop} {β : Loc} {s : St} {a : Act} {hp : List (Nat × SObj)}
variable {cx : Cx} {o : Oper} {next : Act → World → Prop} {Q : Exit → Act → World → Prop} {k : St → Option R} {r : R}
theorem blockSize_new (w : World) (cs : Array Value) (t : TypeId) : blockSize (w.alloc (.cells cs t)) w.heap.size = cs.size := by
 unfold blockSize; rw [heap_alloc_new]
theorem Rel.newArr (hr : Rel w0 Φ0 own0 N w Φ β s a) {e : CT} {l : List e.denote} {cs : Array Value} (t : TypeId) (cap : Nat)
  (hrow : ∀ i x, nth l i = some x → VC w Φ e x ((cs.toList.drop (i * e.size)).take e.size)) (hcap : cap * e.size = cs.size) (hle : l.length ≤ cap) (hpos : 0 < e.size) :
  Rel w0 Φ0 own0 N (w.alloc (.cells cs t)) Φ (β.at s.next (some (w.heap.size, 0))) (s.new (.arr e l)) a ∧
   LfR (w.alloc (.cells cs t)) Φ (β.at s.next (some (w.heap.size, 0))) (s.new (.arr e l)).heap (.sl s.next none) (.slice (some ⟨w.heap.size, 0, none⟩) l.length cap) := by
 refine ⟨hr.new _ _ 0 (fun _ => RowB_none rfl) (.inr ⟨w.heap.size, 0, by simp [Loc.at], fun h => absurd (hr.hp.flt _ h) (by omega), Fz.new _ _ _, fun i x hx => ?_⟩), some (w.heap.size, 0), by simp [Loc.at], ⟨_, _, _, rfl⟩, ?_⟩
 · refine ⟨_, ?_, VC_mono (mono_alloc hr.hp (Obj.cells cs t) (.arr e l) (some (w.heap.size, 0))).frz (fun _ h => h) _ _ _ (hrow i x hx)⟩
   have := drop_take_cellsAt (cellsAt_new w cs t) (i * e.size) e.size
   simpa using this
 · intro sz n hrw
   simp only [St.new, look_cons, if_true, rowOf] at hrw
   cases hrw
   exact ⟨0, cap, rfl, hle, .inl (by simp), by simp, by rw [blockSize_new]; left; simp; omega, fun _ => ⟨rfl, by rw [blockSize_new]; omega, hpos⟩⟩
theorem Rel.newRows (hr : Rel w0 Φ0 own0 N w Φ β s a) (e : CT) {n : Nat} {cs : Array Value} (t : TypeId) (hall : ∀ j, j < n → cs.toList[j]? = some (.slice none 0 0)) (hle : n ≤ cs.size) :
  Rel w0 Φ0 own0 N (w.alloc (.cells cs t)) Φ (β.at s.next (some (w.heap.size, 0))) (s.new (.rows e (List.replicate n []) none)) a ∧
   LfR (w.alloc (.cells cs t)) Φ (β.at s.next (some (w.heap.size, 0))) (s.new (.rows e (List.replicate n []) none)).heap (.sl s.next none) (.slice (some ⟨w.heap.size, 0, none⟩) n cs.size) := by
 have hcell : ∀ j, j < n → (w.alloc (.cells cs t)).cell? ⟨w.heap.size, j, none⟩ = some (.slice none 0 0) := fun j hj => by
  rw [World.cell?_alloc_new]; have := hall j hj; rwa [Array.getElem?_toList] at this
 have hnil : ∀ {hs : List Value} {i : Nat} {v : Value}, hs.length = n → cellsAt (w.alloc (.cells cs t)) w.heap.size 0 hs → hs[i]? = some v → v = .slice none 0 0 := by
  intro hs i v hl hc hv
  have hi := (List.getElem?_eq_some_iff.1 hv).1
  have h1 := cellsAt_get hs 0 _ hc i v hv
  rw [Nat.zero_add, hcell i (by omega)] at h1
  exact (Option.some.inj h1).symm
 refine ⟨hr.new _ _ 0 ?_ ?_, some (w.heap.size, 0), by simp [Loc.at], ⟨_, _, _, rfl⟩, ?_⟩
 · rintro c ⟨hs, g, ⟨_, hl, b, o, hb, hc⟩, i, v, hv, _, o', n', cap', e1, _⟩
   simp only [Loc.at, if_true, Option.some.injEq, Prod.mk.injEq] at hb
   obtain ⟨rfl, rfl⟩ := hb
   have := hnil (by simpa using hl) hc hv
   rw [e1] at this
   cases this
 · have hc0 : cellsAt (w.alloc (.cells cs t)) w.heap.size 0 (List.replicate n (.slice none 0 0)) := cellsAt_of _ _ _ fun j v hj => by
    have hi := (List.getElem?_eq_some_iff.1 hj).1
    simp only [List.length_replicate] at hi
    rw [Nat.zero_add, hcell j hi]
    rw [List.getElem?_replicate, if_pos hi] at hj
    exact hj
   refine ⟨w.heap.size, 0, List.replicate n (.slice none 0 0), by simp [Loc.at], fun h => absurd (hr.hp.flt _ h) (by omega), Fz.new _ _ _, hc0, by simp, fun i v r h1 h2 _ => ?_, fun i j v v' c h1 _ _ _ h3 _ => ?_⟩
   · have hv := hnil (by simp) hc0 h1
     have hi := (List.getElem?_eq_some_iff.1 h2).1
     simp only [List.length_replicate] at hi
     rw [List.getElem?_replicate, if_pos hi] at h2
     exact .inl ⟨⟨none, hv⟩, (Option.some.inj h2).symm⟩
   · have hv := hnil (by simp) hc0 h1
     obtain ⟨o', n', cap', e1, _⟩ := h3
     rw [hv] at e1
     cases e1
 · intro sz m hrw
   simp only [St.new, look_cons, if_true, rowOf, List.length_replicate] at hrw
   cases hrw
   exact ⟨0, cs.size, rfl, hle, .inl (by simp), by simp, by rw [blockSize_new]; left; simp, fun _ => ⟨rfl, by rw [blockSize_new]; simp, by decide⟩⟩
theorem repeatL_len (n : Nat) (zs : List Leaf) : (repeatL n zs).length = n * zs.length := by
 induction n with
 | zero => simp [repeatL]
 | succ n ih => simp [repeatL, ih, Nat.add_mul]; omega
theorem repeatL_get (n : Nat) (zs : List Leaf) : ∀ i, i < n * zs.length → (repeatL n zs)[i]? = zs[i % zs.length]? := by
 induction n with
 | zero => intro i h; simp at h
 | succ n ih =>
   intro i h
   simp only [repeatL]
   by_cases hi : i < zs.length
   · rw [List.getElem?_append_left hi, Nat.mod_eq_of_lt hi]
   · have e1 : i % zs.length = (i - zs.length) % zs.length := Nat.mod_eq_sub_mod (by omega)
     have e2 : (n + 1) * zs.length = n * zs.length + zs.length := Nat.succ_mul n zs.length
     rw [List.getElem?_append_right (by omega), ih (i - zs.length) (by omega), e1]
theorem zeros_rel {zs : List Leaf} {z : Array Value} (h : CoRs zs z.toList) (n : Nat) (hz : 0 < zs.length) :
  LfRs w Φ β hp (repeatL n zs) ((Array.range (n * zs.length)).map (fun j => z[j % z.size]!)).toList := by
 have hl : z.size = zs.length := by simpa using LfRs_len (w := w) (Φ := Φ) (β := β) (hp := hp) (CoRs_LfRs h)
 obtain ⟨_, h2⟩ := LfRs_iff.1 (CoRs_LfRs (w := w) (Φ := Φ) (β := β) (hp := hp) h)
 refine LfRs_iff.2 ⟨by simp [repeatL_len], fun i l v hi hv => ?_⟩
 have hlt : i < n * zs.length := by
  have := (List.getElem?_eq_some_iff.1 hi).1
  rwa [repeatL_len] at this
 rw [repeatL_get n zs i hlt] at hi
 have hm : i % zs.length < z.size := by rw [hl]; exact Nat.mod_lt _ hz
 simp [hlt, hl] at hv
 refine h2 _ l v hi ?_
 rw [← hv]
 simp [hm]
theorem packRows_sound {e : CT} : ∀ (n : Nat) (cs : List Leaf) (us : List Value) (Φ : Nat → Prop) (s s' : St) (l : List e.denote), Rel w0 Φ0 own0 N w Φ β s a → LfRs w Φ β s.heap cs us →
  packRows e (chunks e.size n cs) s = some (l, s') → ∃ Φ', Rel w0 Φ0 own0 N w Φ' β s' a ∧ Packed w Φ β s Φ' s' ∧ l.length = n ∧ ∀ i x, nth l i = some x → VC w Φ' e x ((us.drop (i * e.size)).take e.size)
 | 0, cs, us, Φ, s, s', l, hr, hc, h => by
   simp [chunks, packRows] at h; obtain ⟨rfl, rfl⟩ := h
   exact ⟨Φ, hr, .refl .., rfl, fun i x hx => by simp [nth] at hx⟩
 | n + 1, cs, us, Φ, s, s', l, hr, hc, h => by
   simp only [chunks, packRows] at h
   split at h
   case h_2 => cases h
   rename_i x s1 hx
   split at h
   case h_2 => cases h
   rename_i y s2 hy
   cases h
   obtain ⟨Φ1, g1, g2, g3⟩ := packL_sound hr (LfRs_take e.size hc) hx
   obtain ⟨Φ2, k1, k2, k3, k4⟩ := packRows_sound n _ _ _ _ _ _ g1 (LfRs_mono g2.mono _ _ (LfRs_drop e.size hc)) hy
   refine ⟨Φ2, k1, g2.trans k2, by simp [k3], fun i z hz => ?_⟩
   cases i with
   | zero => simp [nth] at hz; subst hz; simpa using VC_mono k2.mono.frz k2.mono.sub _ _ _ g3
   | succ i =>
     have := k4 i z (by simpa [nth] using hz)
     rw [List.drop_drop] at this
     rwa [show e.size + i * e.size = (i + 1) * e.size by rw [Nat.add_mul]; omega] at this
theorem run_buildSlice {t en : TypeId} {i : TypeInfo} {z : Value} (hu : P.underlying t = some (.slice en)) (hi : P.info? en = some i) (hz : i.zero = some z) (n : Nat) (ps : Array (Nat × Value)) (us : Array Value)
  (hn : n * i.size ≤ 16777216) (h0 : n * i.size = 0 → Instr.fill (fun j => some (j * i.size, i.size)) #[] ps.toList = some us)
  (h : n * i.size ≠ 0 → Instr.fill (fun j => some (j * i.size, i.size)) ((Array.range (n * i.size)).map (fun j => z.cells[j % z.cells.size]!)) ps.toList = some us) :
  (Instr.buildSlice t n ps).run P w = .ok (.slice (some ⟨w.heap.size, 0, none⟩) n n) (w.alloc (.cells us en)) := by
 have hn' : ¬ (n * i.size > 2 ^ 24) := by omega
 by_cases hc : n * i.size = 0
 · have h0' := h0 hc
   have e0 : (Array.range 0).map (fun _ => (default : Value)) = #[] := Array.eq_empty_of_size_eq_zero (by simp)
   simp [Instr.buildSlice, run_underlying hu, sizeOf, run_info hi, hc]
   rw [e0, h0']; simp [newRow]
 · have h' := h hc
   have hc' := hc
   rw [Nat.mul_eq_zero, not_or] at hc'
   simp [Instr.buildSlice, run_underlying hu, sizeOf, run_info hi, zeroValue, hz, hn', hc'.1, hc'.2, h', newRow]
   intro h; exact absurd h hc
theorem step_buildSlice (hcx : CxOk P cx) (hr : Rel w0 Φ0 own0 N w Φ β s a) (hN : ∀ d, o.dst = some d → N.ok d) (hk : ∀ s' a' w' Φ' β', Rel w0 Φ0 own0 N w' Φ' β' s' a' → k s' = some r → next a' w')
  {t : TypeId} {n : Nat} {ps : Array (Nat × Operand)} (ho : o.op = .buildSlice t n ps) (h : stepK cx o s k = some r) : o.wp P a w next Q := by
 simp only [stepK, ho] at h
 have hmap : (ps.map fun x => (x.1, a.eval x.2)).toList = ps.toList.map fun x => (x.1, a.eval x.2) := by simp
 split at h
 case h_3 => cases h
 ·
  rename_i en htd
  obtain ⟨_, hu, i, z, hi, hz, _, h1, _⟩ := hcx.tab t _ htd
  have hsz := h1 rfl
  replace h := cond_none h
  obtain ⟨hb, h⟩ := h
  have hb := Nat.le_of_ble_eq_true hb
  split at h
  case h_2 => cases h
  rename_i cs hf
  by_cases hn : n = 0
  · subst hn
    obtain ⟨us, g1, g2⟩ := fill_sound hr _ ps.toList (repeatL 0 [.undef]) #[] cs rfl hf
    have hus : us.size = 0 := by
     have h1 := LfRs_len g2
     have : ∀ (ps : List (Nat × Operand)) (cs out : List Leaf) , fillK s.env (fun i => some (i, 1)) cs ps = some out → out.length = cs.length := by
      intro ps
      induction ps with
      | nil => intro cs out h; simp [fillK] at h; rw [h]
      | cons p ps ih =>
        intro cs out h
        obtain ⟨i, x⟩ := p
        simp only [fillK] at h
        split at h
        case h_2 => cases h
        split at h
        case h_2 => cases h
        obtain ⟨_, h⟩ := cond_none h
        rw [ih _ _ h, setMany_len]
     have h2 := this _ _ _ hf
     simp [repeatL] at h2
     simpa [h2] using h1
    obtain ⟨k1, k2⟩ := hr.newCells (cs := us) en g2
    refine alloc_step hN hk h k1 (v := .slice (some ⟨w.heap.size, 0, none⟩) 0 0) ?_ ?_
    · have := run_buildSlice (P := P) (w := w) hu hi hz 0 (ps.map fun x => (x.1, a.eval x.2)) us (by simp) (fun _ => by rw [hsz, hmap]; simpa using g1) (fun h => absurd (by simp) h)
      simp [execOp, ho, this]
    · refine ⟨some (w.heap.size, 0), by simp [Loc.at], ⟨_, _, _, rfl⟩, fun sz m hrw => ?_⟩
      simp only [St.new, look_cons, if_true, rowOf] at hrw
      have hm : cs.length = 0 := by have := LfRs_len g2; simp at this; omega
      simp only [Option.some.injEq, Prod.mk.injEq] at hrw
      obtain ⟨rfl, rfl⟩ := hrw
      exact ⟨0, 0, by simp [hm], by simp [hm], .inr rfl, by simp, .inr rfl, fun _ => ⟨rfl, by rw [blockSize_new, hus], Nat.one_pos⟩⟩
  · have hz0 : LfRs w Φ β s.heap (repeatL n [.undef]) ((Array.range (n * i.size)).map (fun j => z.cells[j % z.cells.size]!)).toList := by
     refine LfRs_iff.2 ⟨by simp [repeatL_len, hsz], fun j l v hj _ => ?_⟩
     have hlt := (List.getElem?_eq_some_iff.1 hj).1
     rw [repeatL_get n [.undef] j (by rw [repeatL_len] at hlt; exact hlt)] at hj
     simp [Nat.mod_one] at hj
     subst hj; trivial
    obtain ⟨us, g1, g2⟩ := fill_sound hr _ ps.toList _ _ cs hz0 hf
    have hcs : cs.length = n := by
     have : ∀ (ps : List (Nat × Operand)) (cs out : List Leaf) , fillK s.env (fun i => some (i, 1)) cs ps = some out → out.length = cs.length := by
      intro ps
      induction ps with
      | nil => intro cs out h; simp [fillK] at h; rw [h]
      | cons p ps ih =>
        intro cs out h
        obtain ⟨i, x⟩ := p
        simp only [fillK] at h
        split at h
        case h_2 => cases h
        split at h
        case h_2 => cases h
        obtain ⟨_, h⟩ := cond_none h
        rw [ih _ _ h, setMany_len]
     rw [this _ _ _ hf, repeatL_len]; simp
    have hus : us.size = n := by have := LfRs_len g2; simp at this; omega
    obtain ⟨k1, k2⟩ := hr.newCells (cs := us) en g2
    refine alloc_step hN hk h k1 (v := .slice (some ⟨w.heap.size, 0, none⟩) n n) ?_ ?_
    · have := run_buildSlice (P := P) (w := w) hu hi hz n (ps.map fun x => (x.1, a.eval x.2)) us (by rw [hsz]; omega) (fun h => absurd h (by rw [hsz]; omega)) (fun _ => by rw [hmap]; rw [hsz] at *; simpa using g1)
      simp [execOp, ho, this]
    · refine ⟨some (w.heap.size, 0), by simp [Loc.at], ⟨_, _, _, rfl⟩, fun sz m hrw => ?_⟩
      simp only [St.new, look_cons, if_true, rowOf] at hrw
      simp only [Option.some.injEq, Prod.mk.injEq] at hrw
      obtain ⟨rfl, rfl⟩ := hrw
      exact ⟨0, n, by simp [hcs], by simp [hcs], .inl (by simp), by simp, .inl (by rw [blockSize_new, hus]; simp), fun _ => ⟨rfl, by rw [blockSize_new, hus]; simp, Nat.one_pos⟩⟩
 · rename_i e en hne htd
   obtain ⟨_, hu, i, z, hi, hz, _, _, h1⟩ := hcx.tab t _ htd
   obtain ⟨hsz, hwf, hpos, hco, hzs⟩ := h1 (fun e' => hne (by rw [e']))
   replace h := cond_none h
   obtain ⟨hb, h⟩ := h
   have hb := Nat.le_of_ble_eq_true hb
   split at h
   case h_2 => cases h
   rename_i cs hf
   split at h
   case h_2 => cases h
   rename_i l s' hp
   have hzl : (zerosOf e).length = e.size := by have := LfRs_len (w := w) (Φ := Φ) (β := β) (hp := s.heap) (CoRs_LfRs hco); simp at this; omega
   have hz0 : LfRs w Φ β s.heap (repeatL n (zerosOf e)) ((Array.range (n * i.size)).map (fun j => z.cells[j % z.cells.size]!)).toList := by
    have := zeros_rel (w := w) (Φ := Φ) (β := β) (hp := s.heap) hco n (by omega)
    rwa [hzl, ← hsz] at this
   obtain ⟨us, g1, g2⟩ := fill_sound hr _ ps.toList _ _ cs hz0 hf
   have hcs : cs.length = n * e.size := by
    have : ∀ (ps : List (Nat × Operand)) (cs out : List Leaf) , fillK s.env (fun i => some (i * e.size, e.size)) cs ps = some out → out.length = cs.length := by
     intro ps
     induction ps with
     | nil => intro cs out h; simp [fillK] at h; rw [h]
     | cons p ps ih =>
       intro cs out h
       obtain ⟨i, x⟩ := p
       simp only [fillK] at h
       split at h
       case h_2 => cases h
       split at h
       case h_2 => cases h
       obtain ⟨_, h⟩ := cond_none h
       rw [ih _ _ h, setMany_len]
    rw [this _ _ _ hf, repeatL_len, hzl]
   have hus : us.size = n * e.size := by have := LfRs_len g2; simp at this; omega
   obtain ⟨Φ', p1, p2, p3, p4⟩ := packRows_sound n cs us.toList Φ s s' l hr g2 hp
   obtain ⟨k1, k2⟩ := p1.newArr (cs := us) en n p4 (by omega) (by omega) hpos
   rw [p3] at k2
   refine alloc_step hN hk h k1 (v := .slice (some ⟨w.heap.size, 0, none⟩) n n) ?_ k2
   have := run_buildSlice (P := P) (w := w) hu hi hz n (ps.map fun x => (x.1, a.eval x.2)) us (by rw [hsz]; omega)
    (fun h => by
      rw [hsz] at h
      rw [hmap, hsz]; rw [hsz, h] at g1
      rw [← g1]; congr 1; exact (Array.eq_empty_of_size_eq_zero (by simp)).symm)
    (fun _ => by rw [hmap]; rw [hsz] at *; exact g1)
   simp [execOp, ho, this]
theorem zero_VC : ∀ (t : CT) (vs : List Value), t.wf = true → CoRs (zerosOf t) vs → VC w Φ t t.zero vs
 | .int k, vs, _, ⟨v, vs', e, h1, h2⟩ => by cases h2; subst e; rw [show v = _ from h1]; rfl
 | .bool, vs, _, ⟨v, vs', e, h1, h2⟩ => by cases h2; subst e; rw [show v = _ from h1]; rfl
 | .str, vs, _, ⟨v, vs', e, ⟨sx, h1, h3⟩, h2⟩ => by cases h2; subst e; exact ⟨sx, by rw [h1], h3⟩
 | .list e, vs, _, ⟨v, vs', e', h1, h2⟩ => by cases h2; subst e'; exact ⟨none, 0, by rw [show v = _ from h1]; rfl, Nat.le_refl _, .inl rfl⟩
 | .prod a b, vs, hw, ⟨v, vs', e, h1, h2⟩ => by
   simp only [CT.wf, Bool.and_eq_true] at hw
   refine ⟨v, vs', e, ?_, zero_VC b vs' hw.2 h2⟩
   cases a with
   | int k => rw [show v = _ from h1]; rfl
   | bool => rw [show v = _ from h1]; rfl
   | str => obtain ⟨sx, h1, h3⟩ := h1; exact ⟨sx, by rw [h1], h3⟩
   | list e => exact ⟨none, 0, by rw [show v = _ from h1]; rfl, Nat.le_refl _, .inl rfl⟩
   | unit => cases hw.1
   | prod _ _ => cases hw.1
   | sum _ _ => cases hw.1
 | .unit, _, hw, _ => by cases hw
 | .sum _ _, _, hw, _ => by cases hw
theorem madeCells_cut {z : Array Value} {sz n i : Nat} (hz : z.size = sz) (hi : i < n) : ((madeCells z (n * sz)).toList.drop (i * sz)).take sz = z.toList := by
 have h1 : i * sz + sz ≤ n * sz := by
  have : (i + 1) * sz ≤ n * sz := Nat.mul_le_mul_right _ hi
  rw [Nat.add_mul] at this; omega
 apply List.ext_getElem?
 intro j
 rw [List.getElem?_take]
 by_cases hj : j < sz
 · rw [if_pos hj, List.getElem?_drop]
   have h2 : i * sz + j < n * sz := by omega
   have h3 : (i * sz + j) % sz = j := by rw [Nat.mul_comm, Nat.mul_add_mod, Nat.mod_eq_of_lt hj]
   simp [madeCells, h2, hz, h3, hj]
 · rw [if_neg hj, List.getElem?_eq_none (by simp; omega)]
theorem step_makeSlice (hcx : CxOk P cx) (hr : Rel w0 Φ0 own0 N w Φ β s a) (hN : ∀ d, o.dst = some d → N.ok d) (hk : ∀ s' a' w' Φ' β', Rel w0 Φ0 own0 N w' Φ' β' s' a' → k s' = some r → next a' w')
  {t : TypeId} {x y : Operand} (ho : o.op = .makeSlice t x y) (h : stepK cx o s k = some r) : o.wp P a w next Q := by
 simp only [stepK, ho] at h
 split at h
 case h_2 => cases h
 rename_i e en k1 n k2 m htd hx hy
 obtain ⟨_, hu, i, z, hi, hz, hby, hun, h1⟩ := hcx.tab t _ htd
 replace h := cond_none h
 obtain ⟨hm, h⟩ := h
 replace h := cond_none h
 obtain ⟨hn, h⟩ := h
 simp only [Bool.and_eq_true] at hm
 have hpos : 0 < e.size := by have := hm.1; rw [Nat.blt_eq] at this; exact this
 obtain ⟨hm0, hm1⟩ := inb'_iff.1 hm.2
 obtain ⟨hn0, hn1⟩ := inb'_iff.1 hn
 have hx' := hr.eval hx
 have hy' := hr.eval hy
 simp only [SVR, LfR] at hx' hy'
 have hne : e ≠ .unit := by intro e'; subst e'; exact absurd hpos (by decide)
 obtain ⟨hsz, hwf, _, hco, hzs⟩ := h1 hne
 have hnm : n ≤ m := by omega
 have hm2 : m ≤ 274877906944 := hm1
 have hrun := run_make (P := P) w t en i z hu hi hz k1 k2 n m hn0 hnm (by
  have h1 : (i.bytes : Int) ≤ 512 := by omega
  have h2 : (i.bytes : Int) * m ≤ 512 * m := Int.mul_le_mul_of_nonneg_right h1 hm0
  omega) (by omega)
 rw [hsz] at hrun
 by_cases hmk : ∃ e', cx.mkr t = true ∧ e = .list e'
 · obtain ⟨e', hm1', rfl⟩ := hmk
   have hz1 : z.cells.toList = [.slice none 0 0] := by
    obtain ⟨v, vs, e1, e2, e3⟩ := hco
    cases e3
    rw [e1, show v = _ from e2]
   rw [hm1'] at h
   have hsz1 : madeCells z.cells (m.toNat * 1) = madeCells z.cells (m.toNat * (CT.list e').size) := rfl
   obtain ⟨g1, g2⟩ := hr.newRows e' (n := n.toNat) (cs := madeCells z.cells (m.toNat * (CT.list e').size)) en (fun j hj => by
    have hcut := madeCells_cut (z := z.cells) (sz := 1) (n := m.toNat) (i := j) hzs (by omega)
    rw [hz1] at hcut
    have := congrArg (fun l => l[0]?) hcut
    simpa [CT.size] using this) (by rw [size_madeCells]; simp [CT.size]; omega)
   have e1 : (madeCells z.cells (m.toNat * (CT.list e').size)).size = m.toNat := by rw [size_madeCells]; exact Nat.mul_one _
   have g3 := g2
   rw [e1] at g3
   exact alloc_step hN hk h g1 (by simp [execOp, ho, hx', hy', hrun]) g3
 have hmade : madeS (cx.mkr t) e n.toNat = .arr e (List.replicate n.toNat e.zero) := by
  cases hmr : cx.mkr t with
  | false => unfold madeS; rfl
  | true => cases e <;> first | rfl | exact absurd ⟨_, hmr, rfl⟩ hmk
 rw [hmade] at h
 obtain ⟨g1, g2⟩ := hr.newArr (e := e) (l := List.replicate n.toNat e.zero) (cs := madeCells z.cells (m.toNat * e.size)) en m.toNat
  (fun j x hj => by
    rw [nth_getElem?] at hj
    obtain ⟨hlt, hx⟩ := List.getElem?_eq_some_iff.1 hj
    simp only [List.length_replicate] at hlt
    simp only [List.getElem_replicate] at hx
    subst hx
    rw [madeCells_cut hzs (by omega)]
    exact zero_VC e _ hwf hco) (by rw [size_madeCells]) (by simp; omega) hpos
 simp only [List.length_replicate] at g2
 exact alloc_step hN hk h g1 (by simp [execOp, ho, hx', hy', hrun]) g2
end
end Go.Bm
