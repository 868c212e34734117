import Derived.Test.YtlobhcgbmpcdlaaGreatDoorBmStep7
namespace Go.Bm
set_option linter.unusedVariables false
set_option linter.unusedSimpArgs false
section
variable {P : Program} {R : Type} {w0 : World} {Φ0 own0 : Nat → Prop} {N : Frm} {w : World} {Φ : Nat → Prop} {β : Loc} {s : St} {a : Act} {hp : List (Nat × SObj)}
variable {cx : Cx} {o : Oper} {next : Act → World → Prop} {Q : Exit → Act → World → Prop} {k : St → Option R} {r : R}
theorem mono_adopt (h : HpR w Φ β s) (so : SObj) (x : Option (Nat × Nat)) : Mono w Φ β s.heap w Φ (β.at s.next x) (s.new so).heap := by
 refine ⟨fun b hb => rfl, fun _ h => h, ?_, ?_, fun _ _ _ _ _ _ => rfl⟩
 · intro id y hy
   have : id ≠ s.next := fun e => by subst e; rw [h.none_next] at hy; cases hy
   simp [Loc.at, this, hy]
 · intro id y hy r hr
   have : s.next ≠ id := fun e => by subst e; rw [h.none_next] at hy; cases hy
   simpa [St.new, look_cons, this] using hr
theorem Rel.adopt (h : Rel w0 Φ0 own0 N w Φ β s a) (so : SObj) (hso : so.isRows = false) (x : Option (Nat × Nat))
  (hx : ∀ b p, x = some (b, p) → (∀ id ob q, look s.heap id = some ob → ob.owned = true → β id ≠ some (some (b, q))) ∧ b < w.heap.size ∧ (own0 b ∨ w0.heap.size ≤ b) ∧ ∀ id ob, look s.heap id = some ob → ¬ RowB w β id ob b)
  (ho : ObR w Φ (β.at s.next x) (s.new so).heap s.next so) : Rel w0 Φ0 own0 N w Φ (β.at s.next x) (s.new so) a := by
 have m := mono_adopt h.hp so x
 have hat : ∀ id, id ≠ s.next → (β.at s.next x) id = β id := fun id e => by simp [Loc.at, e]
 have hnew : (β.at s.next x) s.next = some x := by simp [Loc.at]
 have hlk : ∀ id ob, look (s.new so).heap id = some ob → (id = s.next ∧ ob = so) ∨ (id ≠ s.next ∧ look s.heap id = some ob) := by
  intro id ob hl
  simp only [St.new, look_cons] at hl
  split at hl
  · rename_i e; exact .inl ⟨e.symm, by cases hl; rfl⟩
  · rename_i e; exact .inr ⟨fun e' => e e'.symm, hl⟩
 have hrl : ∀ id ob c, look (s.new so).heap id = some ob → RowB w (β.at s.next x) id ob c → id ≠ s.next ∧ look s.heap id = some ob ∧ RowB w β id ob c := by
  intro id ob c hl hc
  rcases hlk id ob hl with ⟨rfl, rfl⟩ | ⟨hne, hl⟩
  · exact absurd hc (RowB_none hso)
  · exact ⟨hne, hl, RowB_of (w := w) (w' := w) (hat id hne) (fun _ _ _ => rfl) hc⟩
 refine ⟨fun t v hv => SVR_mono m _ _ (h.env t v hv), ⟨?_, ?_, ?_, ?_, ?_, h.hp.flt, ?_, ?_⟩, ?_, h.same, h.fri, h.fro, h.size, h.fix, h.defers, fun id y hy => ⟨(h.hold id y hy).1, by rw [hat id (fun e => by have := h.hp.lt id y (h.hold id y hy).2; omega)]; exact (h.hold id y hy).2⟩, h.keep' m, fun id ob c hl hc => by
  obtain ⟨_, hl, hc⟩ := hrl id ob c hl hc
  exact h.rown id ob c hl hc⟩
 · intro id ob hl
   rcases hlk id ob hl with ⟨rfl, rfl⟩ | ⟨hne, hl⟩
   · exact ho
   · exact ObR_mono m (fun b q hb => rfl) (fun _ _ _ _ h => h) (fun _ _ => ⟨rfl, fun h => h⟩) (h.hp.ob id ob hl)
 · intro id y hy
   by_cases e : id = s.next
   · subst e; simp [St.new]
   · rw [hat id e] at hy; have := h.hp.lt id y hy; simp [St.new]; omega
 · intro id ob hl
   rcases hlk id ob hl with ⟨rfl, rfl⟩ | ⟨hne, hl⟩
   · simp [St.new]
   · have := h.hp.hlt id ob hl; simp [St.new]; omega
 · intro id id' ob ob' b q q' hl hl' ho1 ho2 hb hb'
   rcases hlk id ob hl with ⟨rfl, rfl⟩ | ⟨hne, hl2⟩ <;> rcases hlk id' ob' hl' with ⟨rfl, rfl⟩ | ⟨hne', hl2'⟩
   · rfl
   · rw [hnew] at hb; simp only [Option.some.injEq] at hb
     rw [hat id' hne'] at hb'; exact absurd hb' ((hx b q hb).1 id' ob' q' hl2' ho2)
   · rw [hnew] at hb'; simp only [Option.some.injEq] at hb'
     rw [hat id hne] at hb; exact absurd hb ((hx b q' hb').1 id ob q hl2 ho1)
   · rw [hat id hne] at hb; rw [hat id' hne'] at hb'; exact h.hp.inj id id' ob ob' b q q' hl2 hl2' ho1 ho2 hb hb'
 · intro id b q hb
   by_cases e : id = s.next
   · subst e; rw [hnew] at hb; simp only [Option.some.injEq] at hb; exact (hx b q hb).2.1
   · rw [hat id e] at hb; exact h.hp.blt id b q hb
 · intro id ob c hl hc
   obtain ⟨_, hl2, hc2⟩ := hrl id ob c hl hc
   obtain ⟨g1, g2, g3⟩ := h.hp.rin id ob c hl2 hc2
   refine ⟨g1, g2, fun id' ob' q hl' ho' hb => ?_⟩
   rcases hlk id' ob' hl' with ⟨e1, _⟩ | ⟨hne', hl3⟩
   · rw [e1, hnew] at hb; simp only [Option.some.injEq] at hb
     exact (hx c q hb).2.2.2 id ob hl2 hc2
   · rw [hat id' hne'] at hb; exact g3 id' ob' q hl3 ho' hb
 · intro id id' ob ob' c hl hl' hc hc'
   obtain ⟨_, hl, hc⟩ := hrl id ob c hl hc
   obtain ⟨_, hl', hc'⟩ := hrl id' ob' c hl' hc'
   exact h.hp.rinj id id' ob ob' c hl hl' hc hc'
 · intro id ob b q hl ho1 hb
   rcases hlk id ob hl with ⟨rfl, rfl⟩ | ⟨hne, hl⟩
   · rw [hnew] at hb; simp only [Option.some.injEq] at hb; exact (hx b q hb).2.2.1.elim .inl (fun h => .inr (.inl h))
   · rw [hat id hne] at hb; exact h.own id ob b q hl ho1 hb
theorem Rel.give (hr : Rel w0 Φ0 own0 N w Φ β s a) {id : Nat} {ob : SObj} (hnr : ob.isRows = false) (hl : look s.heap id = some ob) (hown : ob.owned = true) (hh : s.held id = false) : Rel w0 Φ0 own0 N w Φ β (s.put id .dead) a :=
 hr.turn hnr rfl hl (.inl hown) hh w Φ hr.same rfl (fun _ h => h) (fun _ h => .inl h) (fun _ _ _ => rfl) (fun _ _ => rfl) (fun _ _ => rfl) (.inr rfl) trivial
theorem norow (hr : Rel w0 Φ0 own0 N w Φ β s a) {w' : World} {id b p : Nat} {ob : SObj} (hl : look s.heap id = some ob) (hown : ob.owned = true) (hb : β id = some (some (b, p))) (hw : ∀ b', b' ≠ b → w'.heap[b']? = w.heap[b']?) :
  ∀ id' ob', look (s.put id .dead).heap id' = some ob' → ¬ RowB w' β id' ob' b := by
 intro id' ob' hl' hc
 simp only [St.put, look_cons] at hl'
 split at hl'
 · cases hl'; exact RowB_none rfl hc
 · rename_i hne
   have hown' : ob'.owned = true := by
    cases ho : ob'.isRows with
    | false => exact absurd hc (RowB_none ho)
    | true => cases ob' <;> first | rfl | cases ho
   have hc2 := RowB_of (w := w) rfl (fun b2 q hb2 => hw b2 (fun e => by subst e; exact hne (hr.hp.inj id id' ob ob' _ p q hl hl' hown hown' hb hb2))) hc
   exact (hr.hp.rin id' ob' b hl' hc2).2.2 id ob p hl hown hb
theorem cellsAt_append : ∀ (us vs : List Value) (b o : Nat), cellsAt w b o us → cellsAt w b (o + us.length) vs → cellsAt w b o (us ++ vs)
 | [], vs, b, o, _, h => by simpa using h
 | u :: us, vs, b, o, ⟨h1, h2⟩, h => ⟨h1, cellsAt_append us vs b (o + 1) h2 (by simpa [Nat.add_assoc, Nat.add_comm 1] using h)⟩
def Flat (w : World) (Φ : Nat → Prop) (e : CT) (l : List e.denote) (vs : List Value) : Prop :=
 vs.length = l.length * e.size ∧ (∀ v ∈ vs, v.oneCell' = true) ∧ ∀ i x, nth l i = some x → VC w Φ e x ((vs.drop (i * e.size)).take e.size)
theorem RowAt_flat {e : CT} : ∀ (l : List e.denote) (b o : Nat), RowAt w Φ e b o l → ∃ vs, Flat w Φ e l vs ∧ cellsAt w b o vs
 | [], b, o, h => ⟨[], ⟨by simp, by simp, fun i x hx => by simp [nth] at hx⟩, trivial⟩
 | x :: l, b, o, h => by
   obtain ⟨us, hu, hv⟩ := h 0 x rfl
   rw [Nat.zero_mul, Nat.add_zero] at hu
   have hul := VC_len _ _ _ hv
   obtain ⟨vs, ⟨f1, f2, f3⟩, f4⟩ := RowAt_flat l b (o + e.size) fun i y hy => by
    obtain ⟨us', h1, h2⟩ := h (i + 1) y (by simpa [nth] using hy)
    exact ⟨us', by rwa [show o + e.size + i * e.size = o + (i + 1) * e.size by rw [Nat.add_mul]; omega], h2⟩
   refine ⟨us ++ vs, ⟨by simp [f1, hul, Nat.add_mul]; omega, fun v hv' => ?_, fun i y hy => ?_⟩, cellsAt_append us vs b o hu (by rw [hul]; exact f4)⟩
   · rcases List.mem_append.1 hv' with h | h
     · exact VC_oneCell _ _ _ hv v h
     · exact f2 v h
   · cases i with
     | zero => simp [nth] at hy; subst hy; rw [Nat.zero_mul, List.drop_zero, ← hul, List.take_left]; exact hv
     | succ i =>
       have := f3 i y (by simpa [nth] using hy)
       rw [show (i + 1) * e.size = us.length + i * e.size by rw [Nat.add_mul, hul]; omega, ← List.drop_drop, List.drop_left]
       exact this
theorem Flat.rowAt {e : CT} {l : List e.denote} {vs : List Value} {w' : World} {Φ' : Nat → Prop} (h : Flat w Φ e l vs) {b o : Nat} (hc : cellsAt w' b o vs) (hΦ : ∀ b, Φ b → w'.heap[b]? = w.heap[b]?) (hs : ∀ b, Φ b → Φ' b) : RowAt w' Φ' e b o l :=
 fun i x hx => ⟨_, drop_take_cellsAt hc (i * e.size) e.size, VC_mono hΦ hs _ _ _ (h.2.2 i x hx)⟩
theorem nth_append {α : Type} (l m : List α) (i : Nat) : nth (l ++ m) i = if i < l.length then nth l i else nth m (i - l.length) := by
 simp only [nth_getElem?]
 split
 · rename_i h; exact List.getElem?_append_left h
 · rename_i h; exact List.getElem?_append_right (by omega)
theorem Flat.append {e : CT} {l m : List e.denote} {vs us : List Value} (h : Flat w Φ e l vs) (k : Flat w Φ e m us) : Flat w Φ e (l ++ m) (vs ++ us) := by
 refine ⟨by simp [h.1, k.1, Nat.add_mul], fun v hv => ?_, fun i x hx => ?_⟩
 · rcases List.mem_append.1 hv with g | g
   · exact h.2.1 v g
   · exact k.2.1 v g
 · rw [nth_append] at hx
   split at hx
   · rename_i hi
     have h1 : (i + 1) * e.size ≤ l.length * e.size := Nat.mul_le_mul_right _ hi
     rw [Nat.add_mul] at h1
     rw [List.drop_append_of_le_length (by rw [h.1]; omega), List.take_append_of_le_length (by simp [h.1]; omega)]
     exact h.2.2 i x hx
   · rename_i hi
     have h1 : vs.length ≤ i * e.size := by rw [h.1]; exact Nat.mul_le_mul_right _ (by omega)
     have h2 : vs.drop (i * e.size) = [] := List.drop_eq_nil_of_le h1
     rw [List.drop_append, h2, List.nil_append]
     have h3 : i * e.size - vs.length = (i - l.length) * e.size := by rw [h.1, ← Nat.sub_mul]
     rw [h3]
     exact k.2.2 _ x hx
theorem src_sound (hr : Rel w0 Φ0 own0 N w Φ β s a) {e : CT} {y : SVal} {v : Value} {b : List e.denote} (hy : SVR w Φ β s.heap y v) (h : srcK e s y = some b) :
  ∃ aa cap, v = .slice aa b.length cap ∧ (b = [] ∨ ∃ blk o news, aa = some ⟨blk, o, none⟩ ∧ cellsAt w blk o news ∧ Flat w Φ e b news) := by
 have row : ∀ {id : Nat} {r : Option (Nat × Nat)} {l : List e.denote}, LfR w Φ β s.heap (.sl id r) v → rowOf (look s.heap id) = some (e.size, l.length) → (∀ blk p, β id = some (some (blk, p)) → RowAt w Φ e blk p l) → b = sub l r →
   ∃ aa cap, v = .slice aa b.length cap ∧ (b = [] ∨ ∃ blk o news, aa = some ⟨blk, o, none⟩ ∧ cellsAt w blk o news ∧ Flat w Φ e b news) := by
  intro id r l hlf hrw hat hbl
  obtain ⟨loc, hb, _, hs⟩ := hlf
  have hsl := hs _ _ hrw
  cases loc with
  | none =>
    obtain ⟨⟨z, e1⟩, e2, e3⟩ := hsl
    have : l = [] := List.eq_nil_of_length_eq_zero e2
    subst this
    have : b = [] := by rw [hbl]; cases r <;> simp [sub]
    exact ⟨z, 0, by rw [e1, this]; rfl, .inl this⟩
  | some bo =>
    obtain ⟨blk, ob⟩ := bo
    obtain ⟨o', cap, e1, e2, e3, e4, e5, _⟩ := hsl
    refine ⟨_, cap, by rw [e1, hbl, sub_len l r e4], ?_⟩
    by_cases hn : b = []
    · exact .inl hn
    · right
      have hpos : 0 < (r.getD (0, l.length)).2 := by
       rw [← sub_len l r e4, ← hbl]; exact List.length_pos_iff.2 hn
      have ho : o' = ob + (r.getD (0, l.length)).1 * e.size := by
       rcases e3 with e3 | e3
       · exact e3
       · omega
      have : RowAt w Φ e blk o' b := by
       intro i x hx
       rw [hbl] at hx
       obtain ⟨us, h1, h2⟩ := hat blk ob hb _ x (sub_nth l r i x hx)
       exact ⟨us, by rw [ho]; rwa [show ob + (r.getD (0, l.length)).1 * e.size + i * e.size = ob + ((r.getD (0, l.length)).1 + i) * e.size by rw [Nat.add_mul]; omega], h2⟩
      obtain ⟨news, f1, f2⟩ := RowAt_flat b blk o' this
      exact ⟨blk, o', news, rfl, f2, f1⟩
 unfold srcK at h
 split at h
 · cases h; exact ⟨none, 0, hy, .inl rfl⟩
 · rename_i e' l
   split at h
   case isFalse => cases h
   rename_i he; subst he; cases h
   obtain ⟨aa, cap, ev, hlc, hrow⟩ := hy
   simp only [List.cons.injEq, and_true] at ev
   refine ⟨aa, cap, ev, ?_⟩
   rcases hrow with hrow | ⟨blk, ob, e1, e2, e3⟩
   · exact .inl hrow
   · obtain ⟨news, f1, f2⟩ := RowAt_flat l blk ob e3
     exact .inr ⟨blk, ob, news, e1, f2, f1⟩
 · rename_i e' l
   split at h
   case isFalse => cases h
   rename_i he; subst he; cases h
   obtain ⟨⟨aa, cap, ev, hlc, hrow⟩, _⟩ := hy
   simp only [List.cons.injEq, and_true] at ev
   refine ⟨aa, cap, ev, ?_⟩
   rcases hrow with hrow | ⟨blk, ob, e1, e2, e3⟩
   · exact .inl hrow
   · obtain ⟨news, f1, f2⟩ := RowAt_flat l blk ob e3
     exact .inr ⟨blk, ob, news, e1, f2, f1⟩
 · rename_i id rr
   split at h
   · rename_i e' l hl
     split at h
     case isFalse => cases h
     rename_i he; subst he
     simp only [Option.some.injEq] at h
     refine row hy (by rw [hl]; rfl) (fun blk p hbp => ?_) h.symm
     rcases hr.hp.ob id _ hl with ⟨h3, _⟩ | ⟨b', p', h3, _, _, h6⟩
     · rw [hbp] at h3; cases h3
     · rw [hbp] at h3; cases h3; exact h6
   · rename_i e' l hl
     split at h
     case isFalse => cases h
     rename_i he; subst he
     simp only [Option.some.injEq] at h
     refine row hy (by rw [hl]; rfl) (fun blk p hbp => ?_) h.symm
     rcases hr.hp.ob id _ hl with ⟨h3, _⟩ | ⟨b', p', h3, _, h6⟩
     · rw [hbp] at h3; cases h3
     · rw [hbp] at h3; cases h3; exact h6
   · cases h
 · cases h
theorem most_fits {n by' : Nat} (h : n ≤ most) (hb : by' ≤ 512) : n * by' ≤ 140737488355328 :=
 Nat.le_trans (Nat.mul_le_mul (show n ≤ 274877906944 from h) hb) (by decide)
theorem zeros_size (z : Array Value) (n : Nat) : (Builtin.zeroCells z n).size = n * z.size := by simp [Builtin.zeroCells]
theorem run_append_here {t ty en : TypeId} {i : TypeInfo} (ht : P.underlying t = some (.slice en)) (hi : P.info? en = some i) {blk o' len cap : Nat} {q : Addr} {m c : Nat} {news : List Value}
  (hl : news.length = m * i.size) (hnews : (loadCells q (m * i.size)).run P w = .ok news.toArray w) (hroom : len + m ≤ cap) {w' : World} (hst : (storeCells ⟨blk, o' + len * i.size, none⟩ news 0).run P w = .ok () w') :
  (Builtin.append_ #[t, t] ty #[.slice (some ⟨blk, o', none⟩) len cap, .slice (some q) m c]).run P w = .ok (.slice (some ⟨blk, o', none⟩) (len + m) cap) w' := by
 have hadd : (⟨blk, o', none⟩ : Addr).add (len * i.size) = ⟨blk, o' + len * i.size, none⟩ := Addr.add0 _ _ _
 simp [Builtin.append_, run_underlying ht, sizeOf, run_info hi, Builtin.lenOf, hroom, Builtin.firstCells, hnews, hadd, hst]
theorem run_append_none {t ty en : TypeId} {i : TypeInfo} (ht : P.underlying t = some (.slice en)) (hi : P.info? en = some i) (x : Option Addr) (len cap : Nat) (hlc : len ≤ cap) (aa : Option Addr) (c : Nat) :
  (Builtin.append_ #[t, t] ty #[.slice x len cap, .slice aa 0 c]).run P w = .ok (.slice x len cap) w := by
 cases x <;> cases aa <;> simp [Builtin.append_, run_underlying ht, sizeOf, run_info hi, Builtin.lenOf, hlc, Builtin.firstCells, loadCells, loadCellsFrom, storeCells]
theorem run_append_zero (w : World) (t ty e : TypeId) (i : TypeInfo) (z : Value) (ht : P.underlying t = some (.slice e)) (hi : P.info? e = some i) (hz : i.zero = some z) (z0 : Option Addr)
  (q : Addr) (n c : Nat) (news : List Value) (hl : news.length = n * i.size) (hnews : ∀ j v, news[j]? = some v → w.cell? (q.add j) = some v)
  (h0 : 0 < n) (h63 : (n : Int) ≤ 9223372036854775807) (h48 : n * i.bytes ≤ 281474976710656) :
  (Builtin.append_ #[t, t] ty #[.slice z0 0 0, .slice (some q) n c]).run P w =
    .ok (.slice (some ⟨w.heap.size, 0, none⟩) n (grownCap w n 0 e)) (w.drew.alloc (.cells (news.toArray ++ Builtin.zeroCells z.cells (grownCap w n 0 e - n)) e)) := by
 cases z0 with
 | none => exact run_append_nil w t ty e i z ht hi hz q n c news hl hnews h0 h63 h48
 | some b =>
   have := run_append_grow (P := P) w t ty e i z ht hi hz b 0 0 [] (by simp) (fun j v h => by simp at h) q n c news hl hnews (by omega) (by simpa using h63) (by rw [Nat.zero_add, nextslicecap_zero h0]; exact h48)
   simpa using this
theorem append_run {c : Call} (ho : o.op = .call c) (hc : c.callee = .builtin .append) {x y : Operand} (ha : c.args = #[x, y]) {t : TypeId} (hat : c.argTypes = #[t, t]) {v : Value} {w' : World}
  (h : (Builtin.append_ #[t, t] o.type #[a.eval x, a.eval y]).run P w = .ok v w') : (execOp a.eval o).run P w = .ok (.value v) w' := by
 simp [execOp, ho, resolve, hc, invoke, builtin, ha, hat, h]
theorem step_append (hcx : CxOk P cx) (hr : Rel w0 Φ0 own0 N w Φ β s a) (hN : ∀ d, o.dst = some d → N.ok d) (hk : ∀ s' a' w' Φ' β', Rel w0 Φ0 own0 N w' Φ' β' s' a' → k s' = some r → next a' w')
  {c : Call} (ho : o.op = .call c) (hc : c.callee = .builtin .append) (h : stepK cx o s k = some r) : o.wp P a w next Q := by
 simp only [stepK, ho, hc] at h
 split at h
 case h_2 => cases h
 rename_i x y t t' hargs hty
 replace h := cond_none h
 obtain ⟨htt, h⟩ := h
 have htt := Nat.eq_of_beq_eq_true htt
 subst htt
 split at h
 case h_2 => cases h
 rename_i e en v u htd hx hy
 replace h := cond_none h
 obtain ⟨hpos, h⟩ := h
 rw [Nat.blt_eq] at hpos
 have ha : c.args = #[x, y] := by rw [← Array.toList_inj]; simpa using hargs
 have hat : c.argTypes = #[t, t] := by rw [← Array.toList_inj]; simpa using hty
 obtain ⟨_, hu, i, z, hi, hz, hby, _, g2⟩ := hcx.tab t _ htd
 obtain ⟨hsz, hwf, _, hco, hzs⟩ := g2 (fun e' => by subst e'; exact absurd hpos (by decide))
 have h1 := hr.eval hx
 have h2 := hr.eval hy
 unfold appendK at h
 split at h
 case h_2 => cases h
 rename_i b hsrc
 obtain ⟨aa, cy, ev, hsrc'⟩ := src_sound hr h2 hsrc
 have fin : ∀ {v' : Value} {w' : World} {β' : Loc} {s' : St} {Φ' : Nat → Prop} {sv : SVal}, Rel w0 Φ0 own0 N w' Φ' β' s' a → (Builtin.append_ #[t, t] o.type #[a.eval x, a.eval y]).run P w = .ok v' w' → SVR w' Φ' β' s'.heap sv v' → k (s'.set o.dst sv) = some r → o.wp P a w next Q :=
  fun hr' hrun hsv hkk => alloc_step hN hk hkk hr' (append_run ho hc ha hat hrun) hsv
 have fresh : ∀ {s1 : St} {l : List e.denote} {olds news : List Value} {cap : Nat}, Rel w0 Φ0 own0 N w Φ β s1 a → Flat w Φ e l (olds ++ news) → l.length ≤ cap →
   (Builtin.append_ #[t, t] o.type #[a.eval x, a.eval y]).run P w = .ok (.slice (some ⟨w.heap.size, 0, none⟩) l.length cap) (w.drew.alloc (.cells (olds.toArray ++ news.toArray ++ Builtin.zeroCells z.cells (cap - l.length)) en)) →
   k ((s1.new (.arr e l)).set o.dst (.one (.sl s1.next none))) = some r → o.wp P a w next Q := by
  intro s1 l olds news cap hr1 hfl hcap hrun hkk
  have hsize : (olds.toArray ++ news.toArray ++ Builtin.zeroCells z.cells (cap - l.length)).size = cap * e.size := by
   have := hfl.1
   simp only [List.length_append] at this
   simp only [Array.size_append, List.size_toArray, zeros_size, hzs, this, ← Nat.add_mul]
   congr 1; omega
  obtain ⟨k1, k2⟩ := hr1.drew.newArr (e := e) (l := l) (cs := olds.toArray ++ news.toArray ++ Builtin.zeroCells z.cells (cap - l.length)) en cap
   (fun j xx hj => by
     have hj' : j < l.length := by rw [nth_getElem?] at hj; exact (List.getElem?_eq_some_iff.1 hj).1
     have h3 : (j + 1) * e.size ≤ l.length * e.size := Nat.mul_le_mul_right _ hj'
     rw [Nat.add_mul] at h3
     have h4 := hfl.1
     simp only [Array.toList_append]
     rw [List.drop_append_of_le_length (by simp at h4 ⊢; omega), List.take_append_of_le_length (by simp at h4 ⊢; omega)]
     exact VC_mono (w := w) (w' := w.drew) (fun _ _ => rfl) (fun _ h => h) _ _ _ (hfl.2.2 j xx hj)) (by rw [hsize]) hcap hpos
  exact fin (sv := .one (.sl s1.next none)) k1 hrun k2 hkk
 have hgc : ∀ (need old : Nat), need ≤ grownCap w need old en := fun need old => grownCap_ge w need old en
 split at h
 ·
  rename_i hv
  have hxv : a.eval x = .slice none 0 0 := h1
  replace h := cond_none h
  obtain ⟨hm, h⟩ := h
  have hm := Nat.le_of_ble_eq_true hm
  rcases hsrc' with hb | ⟨blk, oo, news, e1, e2, e3⟩
  · subst hb
    refine fin (hr.adopt (.arr e []) rfl none (fun _ _ h => by cases h) (.inl ⟨by simp [Loc.at], rfl⟩)) (v' := .slice none 0 0) (by rw [hxv, ev]; exact run_append_none hu hi none 0 0 (Nat.le_refl _) aa cy) ?_ h
    refine ⟨none, by simp [Loc.at], ⟨_, _, _, rfl⟩, fun sz n hrw => ?_⟩
    simp only [St.new, look_cons, if_true, rowOf] at hrw
    cases hrw
    exact ⟨⟨_, rfl⟩, rfl, rfl⟩
  · by_cases hb : b = []
    · subst hb
      refine fin (hr.adopt (.arr e []) rfl none (fun _ _ h => by cases h) (.inl ⟨by simp [Loc.at], rfl⟩)) (v' := .slice none 0 0) (by rw [hxv, ev]; exact run_append_none hu hi none 0 0 (Nat.le_refl _) aa cy) ?_ h
      refine ⟨none, by simp [Loc.at], ⟨_, _, _, rfl⟩, fun sz n hrw => ?_⟩
      simp only [St.new, look_cons, if_true, rowOf] at hrw
      cases hrw
      exact ⟨⟨_, rfl⟩, rfl, rfl⟩
    · have hbl : 0 < b.length := List.length_pos_iff.2 hb
      have hfit := most_fits hm hby
      have hmm : b.length ≤ 274877906944 := hm
      have hrun := run_append_nil (P := P) w t o.type en i z hu hi hz ⟨blk, oo, none⟩ b.length cy news (by rw [hsz]; exact e3.1) (fun j vv hj => by rw [Addr.add0]; exact cellsAt_get _ _ _ e2 j vv hj) hbl (by omega) (by omega)
      refine fresh (s1 := s) (l := b) (olds := []) (news := news) (cap := grownCap w b.length 0 en) hr (by simpa using e3) (hgc _ _) ?_ h
      rw [hxv, ev, e1]; simpa using hrun
 ·
  rename_i e' l
  split at h
  case isFalse => cases h
  rename_i he; subst he
  replace h := cond_none h
  obtain ⟨hm, h⟩ := h
  simp only [Bool.and_eq_true] at hm
  obtain ⟨hm, hbl⟩ := hm
  have hm := Nat.le_of_ble_eq_true hm
  rw [Nat.blt_eq] at hbl
  obtain ⟨⟨a0, cap0, ev0, hlc0, hrow0⟩, a1, ev1⟩ := h1
  rcases hsrc' with hb' | ⟨blk, oo, news, f1, f2, f3⟩
  · rw [hb'] at hbl; exact absurd hbl (Nat.lt_irrefl _)
  have hfit := most_fits hm hby
  have hmm : l.length + b.length ≤ 274877906944 := hm
  by_cases hl0 : l = []
  · subst hl0
    have hfit0 : b.length * i.bytes ≤ 281474976710656 ∨ True := .inr trivial
    have hm0 : b.length ≤ most := by simpa using hm
    have hfit1 := most_fits hm0 hby
    have hrun := run_append_zero (P := P) w t o.type en i z hu hi hz a1 ⟨blk, oo, none⟩ b.length cy news (by rw [hsz]; exact f3.1) (fun j vv hj => by rw [Addr.add0]; exact cellsAt_get _ _ _ f2 j vv hj) hbl (by omega) (by omega)
    refine fresh (s1 := s) (l := [] ++ b) (olds := []) (news := news) (cap := grownCap w b.length 0 en) hr (by simpa using f3) (by simp [hgc]) ?_ h
    rw [ev1, ev, f1]; simpa using hrun
  · rcases hrow0 with h0 | ⟨b0, o0, e1, e2, e3⟩
    · exact absurd h0 hl0
    simp only [List.cons.injEq, and_true] at ev0
    rw [ev1] at ev0
    simp only [Value.slice.injEq] at ev0
    rw [e1] at ev0
    obtain ⟨olds, fo, co⟩ := RowAt_flat l b0 o0 e3
    have hrun := run_append_grow (P := P) w t o.type en i z hu hi hz ⟨b0, o0, none⟩ l.length l.length olds (by rw [hsz]; exact fo.1) (fun j vv hj => by rw [Addr.add0]; exact cellsAt_get _ _ _ co j vv hj)
     ⟨blk, oo, none⟩ b.length cy news (by rw [hsz]; exact f3.1) (fun j vv hj => by rw [Addr.add0]; exact cellsAt_get _ _ _ f2 j vv hj) (by omega) (by omega) (growslice_fits (by omega) hfit)
    refine fresh (s1 := s) (l := l ++ b) (olds := olds) (news := news) (cap := grownCap w (l.length + b.length) l.length en) hr (fo.append f3) (by simp [hgc]) ?_ h
    rw [ev1, ev0.1, ev, f1, hrun]
    simp
 ·
  rename_i id rr
  split at h
  case h_2 => cases h
  rename_i e' l hl
  split at h
  case isFalse => cases h
  rename_i he; subst he
  replace h := cond_none h
  obtain ⟨hm, h⟩ := h
  simp only [Bool.and_eq_true, Bool.or_eq_true] at hm
  obtain ⟨hm, hrb, hh0⟩ := hm
  have hh : s.held id = false := by simpa using hh0
  have hm := Nat.le_of_ble_eq_true hm
  obtain ⟨loc, hloc, _, hs⟩ := h1
  have hsl := hs e'.size l.length (by rw [hl]; rfl)
  have hgive := hr.give rfl hl rfl hh
  have hfree : ∀ b' p, β id = some (some (b', p)) → (∀ id' ob q, look (s.put id .dead).heap id' = some ob → ob.owned = true → β id' ≠ some (some (b', q))) ∧ b' < w.heap.size ∧ (own0 b' ∨ w0.heap.size ≤ b') := by
   intro b' p hp
   refine ⟨fun id' ob q hl' ho' hq => ?_, hr.hp.blt id b' p hp, hr.mine hh hl rfl hp⟩
   simp only [St.put, look_cons] at hl'
   split at hl'
   · cases hl'; cases ho'
   · rename_i hne; exact hne (hr.hp.inj id id' _ _ b' p q hl hl' rfl ho' hp hq)
  have hnx : (s.put id .dead).next = s.next := rfl
  cases loc with
  | none =>
    obtain ⟨⟨z0, e1⟩, e2, e3⟩ := hsl
    have hl0 : l = [] := List.eq_nil_of_length_eq_zero e2
    subst hl0
    have hsub : sub ([] : List e'.denote) rr = [] := by cases rr <;> simp [sub]
    simp only [hsub, List.nil_append] at h
    by_cases hb : b = []
    · subst hb
      refine fin (hgive.adopt (.arr e' []) rfl none (fun _ _ h => by cases h) (.inl ⟨by simp [Loc.at, St.put], rfl⟩)) (v' := .slice z0 0 0) (by rw [e1, ev]; exact run_append_none hu hi z0 0 0 (Nat.le_refl _) aa cy) ?_ h
      refine ⟨none, by simp [Loc.at, St.put], ⟨_, _, _, rfl⟩, fun sz n hrw => ?_⟩
      simp only [St.new, St.put, look_cons, if_true, rowOf] at hrw
      cases hrw
      exact ⟨⟨_, rfl⟩, rfl, rfl⟩
    · rcases hsrc' with hb' | ⟨blk, oo, news, f1, f2, f3⟩
      · exact absurd hb' hb
      · have hbl : 0 < b.length := List.length_pos_iff.2 hb
        rw [hsub] at hm
        have hm' : b.length ≤ most := by simpa using hm
        have hfit := most_fits hm' hby
        have hmm : b.length ≤ 274877906944 := hm'
        have hrun := run_append_zero (P := P) w t o.type en i z hu hi hz z0 ⟨blk, oo, none⟩ b.length cy news (by rw [hsz]; exact f3.1) (fun j vv hj => by rw [Addr.add0]; exact cellsAt_get _ _ _ f2 j vv hj) hbl (by omega) (by omega)
        refine fresh (s1 := s.put id .dead) (l := b) (olds := []) (news := news) (cap := grownCap w b.length 0 en) hgive (by simpa using f3) (hgc _ _) ?_ h
        rw [e1, ev, f1]; simpa using hrun
  | some bo =>
    obtain ⟨blk0, ob⟩ := bo
    obtain ⟨o', cap, e1, e2, e3, e4, e5, e6⟩ := hsl
    rcases hr.hp.ob id _ hl with ⟨h3, _⟩ | ⟨b', p', h3, hnΦ, hfz, hrow⟩
    · rw [hloc] at h3; cases h3
    rw [hloc] at h3; cases h3
    have hlen := sub_len l rr e4
    have hrow' : RowAt w Φ e' blk0 o' (sub l rr) := by
     intro j xx hj
     have hj' : j < (sub l rr).length := by rw [nth_getElem?] at hj; exact (List.getElem?_eq_some_iff.1 hj).1
     obtain ⟨us, k1, k2⟩ := hrow _ xx (sub_nth l rr j xx hj)
     refine ⟨us, ?_, k2⟩
     rcases e3 with e3 | e3
     · rw [e3]; rwa [show ob + (rr.getD (0, l.length)).1 * e'.size + j * e'.size = ob + ((rr.getD (0, l.length)).1 + j) * e'.size by rw [Nat.add_mul]; omega]
     · omega
    obtain ⟨olds, fo, co⟩ := RowAt_flat (sub l rr) blk0 o' hrow'
    have hsame : ∀ {w' : World} {xs : List Value} {p : Nat}, Wrote w w' blk0 p xs → RowAt w' Φ e' blk0 o' (sub l rr ++ b) →
      (Builtin.append_ #[t, t] o.type #[a.eval x, a.eval y]).run P w = .ok (.slice (some ⟨blk0, o', none⟩) ((sub l rr).length + b.length) cap) w' → (sub l rr).length + b.length ≤ cap → o.wp P a w next Q := by
     intro w' xs p hw hat' hrun hcap
     have hr1 : Rel w0 Φ0 own0 N w' Φ β (s.put id .dead) a := by
      refine hr.turn rfl rfl hl (.inl rfl) hh w' Φ (hw.same hr.same (hr.mine hh hl rfl hloc)) hw.size (fun _ h => h) (fun _ h => .inl h) ?_ (fun b' hb' => hw.other b' (fun e => hnΦ (e ▸ hb'))) ?_ (.inr rfl) trivial
      · intro b' hb' hne
        exact hw.other b' (fun e => by subst e; exact hne rfl ob hloc)
      · intro b' hb'
        by_cases e : b' = blk0
        · subst e; exact hw.bs
        · unfold blockSize; rw [hw.other b' e]
     have hr2 := hr1.adopt (.arr e' (sub l rr ++ b)) rfl (some (blk0, o')) (fun b' p hbp => by
      cases hbp
      obtain ⟨g1, g2, g3⟩ := hfree blk0 ob hloc
      exact ⟨g1, by rw [hw.size]; exact g2, g3, norow hr hl rfl hloc (fun b'' hne => hw.other b'' hne)⟩) (.inr ⟨blk0, o', by simp [Loc.at, St.put], hnΦ, hw.fz hfz, hat'⟩)
     refine fin hr2 hrun ?_ h
     refine ⟨some (blk0, o'), by simp [Loc.at, St.put], ⟨_, _, _, rfl⟩, fun sz n hrw => ?_⟩
     simp only [St.new, St.put, look_cons, if_true, rowOf] at hrw
     cases hrw
     have hbs : o' + cap * e'.size = blockSize w blk0 := by
      rcases hrb with hrb | hrb
      · have := e6 (by simpa using hrb); rw [this.1]; exact this.2.1
      · rw [Nat.blt_eq] at hrb
        rcases e5 with e5 | e5
        · exact e5
        · omega
     exact ⟨o', cap, by simp, by simp; omega, .inl (by simp), by simp, .inl (by rw [hw.bs]; exact hbs), fun _ => ⟨rfl, by rw [hw.bs]; exact hbs, hpos⟩⟩
    by_cases hb : b = []
    · subst hb
      refine hsame (Wrote.nil w blk0 0) (by simpa using hrow') ?_ (by simp; omega)
      rw [e1, ev, hlen]
      simpa using run_append_none hu hi (some ⟨blk0, o', none⟩) _ cap e2 aa cy
    · rcases hsrc' with hb' | ⟨blk, oo, news, f1, f2, f3⟩
      · exact absurd hb' hb
      have hbl : 0 < b.length := List.length_pos_iff.2 hb
      have hfit := most_fits hm hby
      have hmm : (sub l rr).length + b.length ≤ 274877906944 := hm
      by_cases hroom : (sub l rr).length + b.length ≤ cap
      ·
       have hnl := f3.1
       have holdl := fo.1
       obtain ⟨w', g1, g2⟩ := run_storeCells (P := P) news blk0 (o' + (sub l rr).length * e'.size) 0 w f3.2.1 (fun j hj => by
        have h5 : o' + ((sub l rr).length + b.length) * e'.size ≤ blockSize w blk0 := by
         rcases e5 with e5 | e5
         · rw [← e5]; exact Nat.add_le_add_left (Nat.mul_le_mul_right _ hroom) _
         · omega
        rw [Nat.add_mul] at h5
        have hlt : o' + (sub l rr).length * e'.size + 0 + j < blockSize w blk0 := by omega
        unfold blockSize at hlt
        cases hbk : w.heap[blk0]? with
        | none => rw [hbk] at hlt; exact absurd hlt (by simp)
        | some obj =>
          rw [hbk] at hlt
          cases obj with
          | cells cc ct cf =>
            simp only [World.cell?, hbk]
            simp; exact hlt
          | _ => exact absurd hlt (Nat.not_lt_zero _)) hfz
       simp only [Nat.add_zero] at g2
       refine hsame g2 ?_ ?_ hroom
       · have c1 := g2.apart co (.inl (by rw [holdl]; exact Nat.le_refl _))
         have c2 : cellsAt w' blk0 (o' + olds.length) news := cellsAt_of _ _ _ fun j vv hj => by
          have hjl := (List.getElem?_eq_some_iff.1 hj).1
          have hix : o' + olds.length + j - (o' + (sub l rr).length * e'.size) = j := by rw [holdl]; omega
          rw [g2.cell, if_pos ⟨by rw [holdl]; omega, by rw [holdl]; omega⟩, hix]; exact hj
         exact (fo.append f3).rowAt (cellsAt_append _ _ _ _ c1 c2) (fun b' hb' => g2.other b' (fun e => hnΦ (e ▸ hb'))) (fun _ h => h)
       · rw [e1, ev, f1, ← hlen]
         have hld : (loadCells ⟨blk, oo, none⟩ (b.length * i.size)).run P w = .ok news.toArray w := by
          have := run_loadCells_at (P := P) f2
          rwa [hnl, ← hsz] at this
         rw [← hsz] at g1
         exact run_append_here hu hi (by rw [hsz]; exact hnl) hld hroom g1
      ·
       have hrun := run_append_grow (P := P) w t o.type en i z hu hi hz ⟨blk0, o', none⟩ (sub l rr).length cap olds (by rw [hsz]; exact fo.1) (fun j vv hj => by rw [Addr.add0]; exact cellsAt_get _ _ _ co j vv hj)
        ⟨blk, oo, none⟩ b.length cy news (by rw [hsz]; exact f3.1) (fun j vv hj => by rw [Addr.add0]; exact cellsAt_get _ _ _ f2 j vv hj) (by omega) (by omega) (growslice_fits (by omega) hfit)
       refine fresh (s1 := s.put id .dead) (l := sub l rr ++ b) (olds := olds) (news := news) (cap := grownCap w ((sub l rr).length + b.length) cap en) hgive (fo.append f3) (by simp [hgc]) ?_ h
       rw [e1, ev, f1, ← hlen, hrun]
       simp
 · cases h
end
end Go.Bm
