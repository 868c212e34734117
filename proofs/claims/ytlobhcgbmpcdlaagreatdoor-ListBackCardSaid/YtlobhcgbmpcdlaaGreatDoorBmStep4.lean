import Derived.Test.YtlobhcgbmpcdlaaGreatDoorBmPack
import Derived.Laws.Tables
namespace Go.Bm
set_option linter.unusedVariables false
set_option linter.unusedSimpArgs false
section
variable {P : Program} {R : Type} {w0 : World} {Φ0 own0 : Nat → Prop} {N : Frm} {w : World} {Φ : Nat → Prop} {β : Loc} {s : St} {a : Act} {hp : List (Nat × SObj)}
variable {cx : Cx} {o : Oper} {next : Act → World → Prop} {Q : Exit → Act → World → Prop} {k : St → Option R} {r : R}
theorem Fz.new (w : World) (cs : Array Value) (t : TypeId) : Fz (w.alloc (.cells cs t)) w.heap.size := fun c t' f hc => by
 rw [heap_alloc_new] at hc
 cases hc
 exact Or.inl rfl
theorem cellsAt_new (w : World) (cs : Array Value) (t : TypeId) : cellsAt (w.alloc (.cells cs t)) w.heap.size 0 cs.toList :=
 cellsAt_of _ _ _ fun j v hj => by rw [Nat.zero_add, World.cell?_alloc_new]; simpa using hj
theorem Rel.newCells (hr : Rel w0 Φ0 own0 N w Φ β s a) {ls : List Leaf} {cs : Array Value} (t : TypeId) (h : LfRs w Φ β s.heap ls cs.toList) :
  Rel w0 Φ0 own0 N (w.alloc (.cells cs t)) Φ (β.at s.next (some (w.heap.size, 0))) (s.new (.cells ls)) a ∧
   LfR (w.alloc (.cells cs t)) Φ (β.at s.next (some (w.heap.size, 0))) (s.new (.cells ls)).heap (.ptr s.next 0) (.pointer (some ⟨w.heap.size, 0, none⟩)) := by
 refine ⟨hr.new _ _ 0 (fun _ => RowB_none rfl) ?_, w.heap.size, by simp [Loc.at], rfl⟩
 exact ⟨w.heap.size, cs.toList, by simp [Loc.at], fun h => absurd (hr.hp.flt _ h) (by omega), Fz.new _ _ _, cellsAt_new w cs t, LfRs_mono (mono_alloc hr.hp _ _ _) _ _ h⟩
theorem Rel.newBox (hr : Rel w0 Φ0 own0 N w Φ β s a) {ls : List Leaf} {cs : Array Value} (t : TypeId) (h : LfRs w Φ β s.heap ls cs.toList) :
  Rel w0 Φ0 own0 N (w.alloc (.cells cs t)) Φ (β.at s.next (some (w.heap.size, 0))) (s.new (.box ls)) a ∧
   LfR (w.alloc (.cells cs t)) Φ (β.at s.next (some (w.heap.size, 0))) (s.new (.box ls)).heap (.ptr s.next 0) (.pointer (some ⟨w.heap.size, 0, none⟩)) := by
 refine ⟨hr.new _ _ 0 (fun _ => RowB_none rfl) ?_, w.heap.size, by simp [Loc.at], rfl⟩
 exact ⟨w.heap.size, cs.toList, by simp [Loc.at], fun h => absurd (hr.hp.flt _ h) (by omega), Fz.new _ _ _, cellsAt_new w cs t, LfRs_mono (mono_alloc hr.hp _ _ _) _ _ h⟩
theorem alloc_step {o : Oper} {w' : World} {Φ' : Nat → Prop} {β' : Loc} {s' : St} (hN : ∀ d, o.dst = some d → N.ok d)
  (hk : ∀ s' a' w' Φ' β', Rel w0 Φ0 own0 N w' Φ' β' s' a' → k s' = some r → next a' w')
  {x : SVal} {v : Value} (hx : k (s'.set o.dst x) = some r) (hr' : Rel w0 Φ0 own0 N w' Φ' β' s' a) (he : (execOp a.eval o).run P w = .ok (.value v) w') (hv : SVR w' Φ' β' s'.heap x v) : o.wp P a w next Q :=
 upon_ok he (hk _ _ _ _ _ (hr'.set hv hN) hx)
theorem step_alloc (hcx : CxOk P cx) (hr : Rel w0 Φ0 own0 N w Φ β s a) (hN : ∀ d, o.dst = some d → N.ok d) (hk : ∀ s' a' w' Φ' β', Rel w0 Φ0 own0 N w' Φ' β' s' a' → k s' = some r → next a' w')
  {t : TypeId} (ho : o.op = .alloc t) (h : stepK cx o s k = some r) : o.wp P a w next Q := by
 simp only [stepK, ho] at h
 split at h
 case h_2 => cases h
 rename_i td htd
 obtain ⟨z, hz, hc⟩ := (hcx.tab t _ htd).run_zero (w := w)
 obtain ⟨h1, h2⟩ := hr.newBox (cs := z.cells) t (CoRs_LfRs hc)
 exact alloc_step hN hk h h1 (by simp [execOp, ho, Instr.alloc, hz, run_newVar]) h2
theorem leaves_SVR {v : SVal} {vs : List Leaf} {u : Value} (h : v.leaves = some vs) (hv : SVR w Φ β hp v u) (hd : vs.all Leaf.def = true ∨ ∃ cs, v = .agg cs) : LfRs w Φ β hp vs u.cells.toList := by
 cases v with
 | one l =>
   cases h
   rcases hd with hd | ⟨cs, e⟩
   · have := LfR_oneCell hv (by simpa using hd)
     have hc : u.cells = #[u] := by cases u <;> first | rfl | cases this
     rw [hc]; exact ⟨u, [], rfl, hv, rfl⟩
   · cases e
 | agg cs => cases h; obtain ⟨us, e, hl⟩ := hv; subst e; exact hl
 | tup ps => cases h
 | skip => cases h
theorem step_box (hcx : CxOk P cx) (hr : Rel w0 Φ0 own0 N w Φ β s a) (hN : ∀ d, o.dst = some d → N.ok d) (hk : ∀ s' a' w' Φ' β', Rel w0 Φ0 own0 N w' Φ' β' s' a' → k s' = some r → next a' w')
  {t : TypeId} {x : Operand} (ho : o.op = .box t x) (h : stepK cx o s k = some r) : o.wp P a w next Q := by
 simp only [stepK, ho] at h
 split at h
 case h_2 => cases h
 rename_i td v htd hx
 split at h
 case h_2 => cases h
 rename_i vs hl
 obtain ⟨hb, h⟩ := cond_none h
 have hd : vs.all Leaf.def = true ∨ ∃ cs, v = .agg cs := by
  simp only [Bool.and_eq_true, Bool.or_eq_true] at hb
  rcases hb.2 with hb | hb
  · exact .inl hb
  · cases v <;> first | exact .inr ⟨_, rfl⟩ | cases hb
 obtain ⟨h1, h2⟩ := hr.newBox (cs := (a.eval x).cells) t (leaves_SVR hl (hr.eval hx) hd)
 exact alloc_step hN hk h h1 (by simp [execOp, ho, Instr.box, run_newVar]) h2
theorem setNth_getElem? {α : Type} : ∀ (l : List α) (n : Nat) (y : α) (i : Nat), (setNth l n y)[i]? = if i = n ∧ n < l.length then some y else l[i]?
 | [], n, y, i => by simp [setNth]
 | x :: l, 0, y, i => by cases i <;> simp [setNth]
 | x :: l, n + 1, y, 0 => by simp [setNth]
 | x :: l, n + 1, y, i + 1 => by simp [setNth, setNth_getElem? l n y i]
theorem setNth_len {α : Type} : ∀ (l : List α) (n : Nat) (y : α), (setNth l n y).length = l.length
 | [], _, _ => rfl
 | _ :: _, 0, _ => rfl
 | _ :: l, n + 1, y => by simp [setNth, setNth_len l n y]
theorem setMany_len : ∀ (vs l : List Leaf) (off : Nat), (setMany l off vs).length = l.length
 | [], l, off => rfl
 | v :: vs, l, off => by rw [setMany, setMany_len vs, setNth_len]
theorem setMany_getElem? : ∀ (vs l : List Leaf) (off : Nat) (i : Nat), off + vs.length ≤ l.length → (setMany l off vs)[i]? = if off ≤ i ∧ i < off + vs.length then vs[i - off]? else l[i]?
 | [], l, off, i, h => by simp [setMany]; intro h1 h2; omega
 | v :: vs, l, off, i, h => by
   rw [setMany, setMany_getElem? vs _ _ _ (by rw [setNth_len]; simp at h; omega), setNth_getElem?]
   by_cases h1 : off + 1 ≤ i ∧ i < off + 1 + vs.length
   · rw [if_pos h1, if_pos (by simp; omega)]
     obtain ⟨j, rfl⟩ : ∃ j, i = off + 1 + j := ⟨i - (off + 1), by omega⟩
     simp [show off + 1 + j - (off + 1) = j by omega, show off + 1 + j - off = j + 1 by omega]
   · rw [if_neg h1]
     by_cases h2 : i = off
     · subst h2; rw [if_pos ⟨rfl, by simp at h; omega⟩, if_pos (by simp)]; simp
     · rw [if_neg (by rintro ⟨h3, _⟩; exact h2 h3), if_neg (by simp; omega)]
theorem LfRs_iff {ls : List Leaf} {vs : List Value} : LfRs w Φ β hp ls vs ↔ vs.length = ls.length ∧ ∀ (i : Nat) (l : Leaf) (v : Value), ls[i]? = some l → vs[i]? = some v → LfR w Φ β hp l v := by
 induction ls generalizing vs with
 | nil => constructor
          · intro h; cases h; simp
          · intro ⟨h, _⟩; exact List.eq_nil_of_length_eq_zero h
 | cons l ls ih =>
   constructor
   · rintro ⟨v, vs', rfl, h1, h2⟩
     obtain ⟨g1, g2⟩ := ih.1 h2
     refine ⟨by simp [g1], fun i m u hm hu => ?_⟩
     cases i with
     | zero => simp at hm hu; subst hm; subst hu; exact h1
     | succ i => exact g2 i m u (by simpa using hm) (by simpa using hu)
   · intro ⟨h1, h2⟩
     cases vs with
     | nil => simp at h1
     | cons v vs => exact ⟨v, vs, rfl, h2 0 l v (by simp) (by simp), ih.2 ⟨by simpa using h1, fun i m u hm hu => h2 (i + 1) m u (by simpa using hm) (by simpa using hu)⟩⟩
theorem LfRs_set {ls : List Leaf} {vs : List Value} {off : Nat} {xs : List Leaf} {us : List Value} (h : LfRs w Φ β hp ls vs) (hx : LfRs w Φ β hp xs us) (hle : off + xs.length ≤ ls.length)
  {vs' : List Value} (hl : vs'.length = vs.length) (hg : ∀ i, vs'[i]? = if off ≤ i ∧ i < off + us.length then us[i - off]? else vs[i]?) : LfRs w Φ β hp (setMany ls off xs) vs' := by
 have hxl := LfRs_len hx
 obtain ⟨h1, h2⟩ := LfRs_iff.1 h
 obtain ⟨x1, x2⟩ := LfRs_iff.1 hx
 refine LfRs_iff.2 ⟨by rw [setMany_len, hl, h1], fun i l v hi hv => ?_⟩
 rw [setMany_getElem? _ _ _ _ hle] at hi
 rw [hg i, hxl] at hv
 split at hi
 · rename_i hc; rw [if_pos hc] at hv; exact x2 _ l v hi hv
 · rename_i hc; rw [if_neg hc] at hv; exact h2 _ l v hi hv
theorem foldl_set : ∀ (us : List Value) (j : Nat) (cs : Array Value) (off : Nat), let r := (us.zipIdx j).foldl (fun cs (x : Value × Nat) => cs.setIfInBounds (off + x.2) x.1) cs
  r.size = cs.size ∧ ∀ i, r[i]? = if off + j ≤ i ∧ i < off + j + us.length ∧ i < cs.size then us[i - (off + j)]? else cs[i]?
 | [], j, cs, off => by simp; intro i h1 h2; omega
 | u :: us, j, cs, off => by
   simp only [List.zipIdx_cons, List.foldl_cons]
   obtain ⟨h1, h2⟩ := foldl_set us (j + 1) (cs.setIfInBounds (off + j) u) off
   refine ⟨by rw [h1]; simp, fun i => ?_⟩
   rw [h2 i]
   simp only [Array.size_setIfInBounds]
   by_cases h : off + (j + 1) ≤ i ∧ i < off + (j + 1) + us.length ∧ i < cs.size
   · rw [if_pos h, if_pos (by simp; omega)]
     obtain ⟨m, rfl⟩ : ∃ m, i = off + j + 1 + m := ⟨i - (off + j + 1), by omega⟩
     simp [show off + j + 1 + m - (off + (j + 1)) = m by omega, show off + j + 1 + m - (off + j) = m + 1 by omega]
   · rw [if_neg h]
     by_cases hi : i = off + j
     · subst hi
       by_cases hc : off + j < cs.size
       · rw [if_pos (by simp; exact hc)]; simp [hc]
       · rw [if_neg (fun h => hc h.2.2)]
         rw [Array.getElem?_eq_none (by simp; omega), Array.getElem?_eq_none (by omega)]
     · rw [Array.getElem?_setIfInBounds_ne (by omega), if_neg (by simp; omega)]
theorem fill_sound (hr : Rel w0 Φ0 own0 N w Φ β s a) (place : Nat → Option (Nat × Nat)) : ∀ (ps : List (Nat × Operand)) (cs : List Leaf) (vs : Array Value) (out : List Leaf), LfRs w Φ β s.heap cs vs.toList →
  fillK s.env place cs ps = some out → ∃ us, Instr.fill place vs (ps.map fun x => (x.1, a.eval x.2)) = some us ∧ LfRs w Φ β s.heap out us.toList
 | [], cs, vs, out, hv, h => by simp [fillK] at h; subst h; exact ⟨vs, by simp [Instr.fill], hv⟩
 | (i, x) :: ps, cs, vs, out, hv, h => by
   simp only [fillK] at h
   split at h
   case h_2 => cases h
   rename_i off size v hpl hx
   split at h
   case h_2 => cases h
   rename_i ls hl
   obtain ⟨hb, h⟩ := cond_none h
   simp only [Bool.and_eq_true] at hb
   obtain ⟨⟨hb1, hb2⟩, hb3⟩ := hb
   have hb1 : ls.length = size := Nat.eq_of_beq_eq_true hb1
   have hb2 : off + size ≤ cs.length := Nat.le_of_ble_eq_true hb2
   have hd : ls.all Leaf.def = true ∨ ∃ cs, v = .agg cs := by
    simp only [Bool.or_eq_true] at hb3
    rcases hb3 with hb | hb
    · exact .inl hb
    · cases v <;> first | exact .inr ⟨_, rfl⟩ | cases hb
   have hls := leaves_SVR hl (hr.eval hx) hd
   have hlen := LfRs_len hls
   have hvl := LfRs_len hv
   obtain ⟨f1, f2⟩ := foldl_set (a.eval x).cells.toList 0 vs off
   have hzip : (a.eval x).cells.zipIdx.foldl (fun cs (x : Value × Nat) => cs.setIfInBounds (off + x.2) x.1) vs = ((a.eval x).cells.toList.zipIdx 0).foldl (fun cs (x : Value × Nat) => cs.setIfInBounds (off + x.2) x.1) vs := by
    rw [← Array.foldl_toList]; simp
   rw [← hzip] at f1 f2
   have hvs : vs.size = cs.length := by simpa using hvl
   have hcl : (a.eval x).cells.size = ls.length := by simpa using hlen
   obtain ⟨us, g1, g2⟩ := fill_sound hr place ps (setMany cs off ls) _ out
    (LfRs_set hv hls (by omega) (vs' := ((a.eval x).cells.zipIdx.foldl (fun cs (x : Value × Nat) => cs.setIfInBounds (off + x.2) x.1) vs).toList) (by simpa using f1) (fun i => by
      have := f2 i
      simp only [Nat.add_zero, Array.length_toList] at this
      rw [Array.getElem?_toList, this]
      by_cases hc : off ≤ i ∧ i < off + (a.eval x).cells.size
      · rw [if_pos ⟨hc.1, hc.2, by omega⟩, if_pos (by simpa using hc)]
      · rw [if_neg (fun h => hc ⟨h.1, h.2.1⟩), if_neg (by simpa using hc)]; simp)) h
   refine ⟨us, ?_, g2⟩
   simp only [List.map_cons, Instr.fill, hpl]
   have hc1 : ((a.eval x).cells.size ≠ size || decide (off + (a.eval x).cells.size > vs.size)) = false := by
    simp; omega
   rw [if_neg (by simpa using hc1)]
   exact g1
theorem pstep_build (hcx : CxOk P cx) (hr : Rel w0 Φ0 own0 N w Φ β s a)
  {t : TypeId} {ps : Array (Nat × Operand)} (ho : o.op = .build t ps) (h : stepK cx o s k = some r) : PStep P R (fun _ => True) w Φ β s a o k r := by
 simp only [stepK, ho] at h
 split at h
 case h_3 => cases h
 case h_2 =>
  rename_i e n agg zs htd
  split at h
  case h_2 => cases h
  rename_i cs hf
  obtain ⟨⟨i, z, hi, hsz, hz, hco⟩, _, _, en, hu, _, inf, hinf, hsz2⟩ := hcx.tab t _ htd
  obtain ⟨us, g1, g2⟩ := fill_sound hr _ ps.toList zs z.cells cs (CoRs_LfRs hco) hf
  have hb : P.built t (ps.map fun x => (x.1, a.eval x.2)).toList = some us := by
   unfold Program.built
   simp only [hi, hu, hz, hinf, hsz2]
   rw [Array.toList_map]
   exact g1
  refine pstep h (v := .agg us) (fun w _ => ?_) ⟨us, rfl, g2⟩
  have := run_build (P := P) w t (ps.map fun x => (x.1, a.eval x.2)) us hb
  simp [execOp, ho, this]
 rename_i fs zs htd
 split at h
 case h_2 => cases h
 rename_i cs hf
 obtain ⟨⟨i, z, hi, hsz, hz, hco⟩, fields, hu, hfs, _⟩ := hcx.tab t _ htd
 obtain ⟨us, g1, g2⟩ := fill_sound hr _ ps.toList zs z.cells cs (CoRs_LfRs hco) hf
 have hplaces : fields.toList.mapM (fun f => (P.info? f.type).map fun i => (f.offset, i.size)) = some (fs.map fun x => (x.1, x.2.1)) := by
  have : ∀ (l : List Field) (fs : List (Nat × Nat × Bool)), l.map (fieldOf P) = fs.map some → l.mapM (fun f => (P.info? f.type).map fun i => (f.offset, i.size)) = some (fs.map fun x => (x.1, x.2.1)) := by
   intro l
   induction l with
   | nil => intro fs h; cases fs <;> simp at h ⊢
   | cons f l ih =>
     intro fs h
     cases fs with
     | nil => simp at h
     | cons x fs =>
       simp only [List.map_cons, List.cons.injEq] at h
       have hx := h.1
       unfold fieldOf at hx
       split at hx
       case h_2 => cases hx
       rename_i inf dd hinf hdd
       simp only [Option.some.injEq] at hx
       subst hx
       simp [List.mapM_cons, hinf, ih fs h.2]
  exact this _ _ hfs
 have hb : P.built t (ps.map fun x => (x.1, a.eval x.2)).toList = some us := by
  unfold Program.built
  simp only [hi, hu, hz, hplaces]
  rw [Array.toList_map]
  refine Eq.trans ?_ g1
  congr 1
  funext i
  simp [nth_getElem?]
 refine pstep h (v := .agg us) (fun w _ => ?_) ⟨us, rfl, g2⟩
 have := run_build (P := P) w t (ps.map fun x => (x.1, a.eval x.2)) us hb
 simp [execOp, ho, this]
theorem step_build (hcx : CxOk P cx) (hr : Rel w0 Φ0 own0 N w Φ β s a) (hN : ∀ d, o.dst = some d → N.ok d) (hk : ∀ s' a' w' Φ' β', Rel w0 Φ0 own0 N w' Φ' β' s' a' → k s' = some r → next a' w')
  {t : TypeId} {ps : Array (Nat × Operand)} (ho : o.op = .build t ps) (h : stepK cx o s k = some r) : o.wp P a w next Q :=
 (pstep_build hcx hr ho h).wp hr trivial hN hk
end
end Go.Bm
