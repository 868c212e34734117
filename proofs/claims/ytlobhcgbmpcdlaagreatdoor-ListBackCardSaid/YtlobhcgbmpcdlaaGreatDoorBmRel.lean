import Derived.Test.YtlobhcgbmpcdlaaGreatDoorBmEval
import Derived.Calls
import Derived.Laws.World
import Derived.Laws.AppendOwn
namespace Go.Bm
set_option linter.unusedVariables false
def cellsAt (w : World) (b o : Nat) : List Value → Prop
 | [] => True
 | v :: vs => w.cell? ⟨b, o, none⟩ = some v ∧ cellsAt w b (o + 1) vs
def VC (w : World) (Φ : Nat → Prop) : (t : CT) → t.denote → List Value → Prop
 | .unit, _, vs => vs = []
 | .int k, x, vs => vs = [.int k x]
 | .bool, x, vs => vs = [.bool x]
 | .str, x, vs => ∃ s : ByteArray, vs = [.string s] ∧ s.data.toList = x
 | .list e, l, vs => ∃ a cap, vs = [.slice a l.length cap] ∧ l.length ≤ cap ∧ (l = [] ∨ ∃ b o, a = some ⟨b, o, none⟩ ∧ Φ b ∧ ∀ i x, nth l i = some x → ∃ us, cellsAt w b (o + i * e.size) us ∧ VC w Φ e x us)
 | .prod a r, x, vs => ∃ v vs', vs = v :: vs' ∧ VC w Φ a x.1 [v] ∧ VC w Φ r x.2 vs'
 | .sum _ _, _, _ => False
theorem cellsAt_of_heap {w w' : World} {b : Nat} (h : w'.heap[b]? = w.heap[b]?) : ∀ (vs : List Value) (o : Nat), cellsAt w b o vs → cellsAt w' b o vs
 | [], _, _ => trivial
 | v :: vs, o, ⟨h1, h2⟩ => ⟨by rw [World.cell?_of_block (w := w) h]; exact h1, cellsAt_of_heap h vs (o + 1) h2⟩
theorem VC_mono {w w' : World} {Φ Φ' : Nat → Prop} (h : ∀ b, Φ b → w'.heap[b]? = w.heap[b]?) (hΦ : ∀ b, Φ b → Φ' b) :
  ∀ (t : CT) (x : t.denote) (vs : List Value), VC w Φ t x vs → VC w' Φ' t x vs
 | .unit, _, _, hv => hv
 | .int _, _, _, hv => hv
 | .bool, _, _, hv => hv
 | .str, _, _, hv => hv
 | .list e, l, vs, hv => by
   obtain ⟨a, cap, h1, h2, h3⟩ := hv
   refine ⟨a, cap, h1, h2, ?_⟩
   rcases h3 with h3 | ⟨b, o, ha, hb, hc⟩
   · exact .inl h3
   · refine .inr ⟨b, o, ha, hΦ b hb, fun i x hx => ?_⟩
     obtain ⟨us, hu, hvc⟩ := hc i x hx
     exact ⟨us, cellsAt_of_heap (h b hb) us _ hu, VC_mono h hΦ e x us hvc⟩
 | .prod a r, x, vs, ⟨v, vs', e1, e2, e3⟩ => ⟨v, vs', e1, VC_mono h hΦ a x.1 [v] e2, VC_mono h hΦ r x.2 vs' e3⟩
 | .sum _ _, _, _, hv => hv
theorem VC_len {w : World} {Φ : Nat → Prop} : ∀ (t : CT) (x : t.denote) (vs : List Value), VC w Φ t x vs → vs.length = t.size
 | .unit, _, _, hv => by cases hv; rfl
 | .int _, _, _, hv => by cases hv; rfl
 | .bool, _, _, hv => by cases hv; rfl
 | .str, _, _, ⟨s, hv, _⟩ => by cases hv; rfl
 | .list e, l, vs, ⟨a, cap, h1, _⟩ => by cases h1; rfl
 | .prod a r, x, vs, ⟨v, vs', e1, e2, e3⟩ => by subst e1; simp [CT.size, VC_len r x.2 vs' e3]; omega
 | .sum _ _, _, _, hv => hv.elim
def blockSize (w : World) (b : Nat) : Nat :=
 match w.heap[b]? with
 | some (.cells c _ _) => c.size
 | _ => 0
def Fz (w : World) (b : Nat) : Prop := ∀ c t f, w.heap[b]? = some (.cells c t f) → f.1 = f.2 ∨ c.size ≤ f.1
theorem Fz.of_block {w w' : World} {b : Nat} (hb : w'.heap[b]? = w.heap[b]?) (h : Fz w b) : Fz w' b := fun c t f hc => h c t f (by rw [← hb]; exact hc)
theorem Fz.no {w : World} {b i : Nat} {u : Value} (h : Fz w b) (hc : w.cell? ⟨b, i, none⟩ = some u) : w.frozen? ⟨b, i, none⟩ = false := by
 unfold World.cell? at hc
 unfold World.frozen?
 cases hb : w.heap[b]? with
 | none => rfl
 | some ob =>
   cases ob with
   | cells c t f =>
     simp only [hb] at hc
     have hi : i < c.size := by
      rcases Nat.lt_or_ge i c.size with g | g
      · exact g
      · simp [Array.getElem?_eq_none g] at hc
     obtain ⟨lo, hi2⟩ := f
     have := h c t (lo, hi2) hb
     simp only at this
     simp only [Bool.and_eq_false_iff, decide_eq_false_iff_not]
     omega
   | _ => rfl
def SlR (w : World) (loc : Option (Nat × Nat)) (sz n : Nat) (r : Option (Nat × Nat)) (v : Value) : Prop :=
 match loc with
 | none => (∃ a, v = .slice a 0 0) ∧ n = 0 ∧ (r.getD (0, n)).2 = 0
 | some (b, o) => ∃ o' cap, v = .slice (some ⟨b, o', none⟩) (r.getD (0, n)).2 cap ∧ (r.getD (0, n)).2 ≤ cap ∧ (o' = o + (r.getD (0, n)).1 * sz ∨ cap = 0) ∧
    (r.getD (0, n)).1 + (r.getD (0, n)).2 ≤ n ∧ (o' + cap * sz = blockSize w b ∨ cap = 0) ∧ (r = none → o' = o ∧ o + cap * sz = blockSize w b ∧ 0 < sz)
abbrev Loc := Nat → Option (Option (Nat × Nat))
def IdR (β : Loc) : Option Nat → Value → Prop
 | none, v => v = .pointer none
 | some id, v => ∃ b, β id = some (some (b, 0)) ∧ v = .pointer (some ⟨b, 0, none⟩)
def IdsR (β : Loc) : List (Option Nat) → List Value → Prop
 | [], vs => vs = []
 | x :: r, vs => ∃ v vs', vs = v :: vs' ∧ IdR β x v ∧ IdsR β r vs'
def LfR (w : World) (Φ : Nat → Prop) (β : Loc) (hp : List (Nat × SObj)) : Leaf → Value → Prop
 | .undef, _ => True
 | .int k x, v => v = .int k x
 | .bool b, v => v = .bool b
 | .str x, v => ∃ s : ByteArray, v = .string s ∧ s.data.toList = x
 | .list e l, v => VC w Φ (.list e) l [v]
 | .clist e l, v => VC w Φ (.list e) l [v] ∧ ∃ a, v = .slice a l.length l.length
 | .nils, v => v = .slice none 0 0
 | .ptr id off, v => ∃ b, β id = some (some (b, 0)) ∧ v = .pointer (some ⟨b, off, none⟩)
 | .eptr id i off, v => ∃ loc, β id = some loc ∧ (∃ p : Addr, v = .pointer (some p)) ∧ ∀ sz n, rowOf (look hp id) = some (sz, n) → ∃ b o, loc = some (b, o) ∧ v = .pointer (some ⟨b, o + i * sz + off, none⟩)
 | .vptr e x off, v => ∃ b o us, Φ b ∧ cellsAt w b o us ∧ VC w Φ e x us ∧ v = .pointer (some ⟨b, o + off, none⟩)
 | .sl id r, v => ∃ loc, β id = some loc ∧ (∃ a l c, v = .slice a l c) ∧ ∀ sz n, rowOf (look hp id) = some (sz, n) → SlR w loc sz n r v
 | .fn f xs ys, v => ∃ us vs, v = .func (.func f) us vs ∧ IdsR β xs us.toList ∧ IdsR β ys vs.toList
 | .ifp t id off, v => ∃ b, β id = some (some (b, 0)) ∧ v = .iface t (.pointer (some ⟨b, off, none⟩))
 | .ifi t k x, v => v = .iface t (.int k x)
 | .mp id, v => ∃ b, β id = some (some (b, 0)) ∧ v = .map (some b)
 | .nilp, v => v = .pointer none
 | .nilf, v => v = .nilFunc
 | .nili, v => v = .nilIface
 | .nilm, v => v = .map none
 | .anyb, v => ∃ b, v = .bool b
def LfRs (w : World) (Φ : Nat → Prop) (β : Loc) (hp : List (Nat × SObj)) : List Leaf → List Value → Prop
 | [], vs => vs = []
 | l :: ls, vs => ∃ v vs', vs = v :: vs' ∧ LfR w Φ β hp l v ∧ LfRs w Φ β hp ls vs'
def PartR (w : World) (Φ : Nat → Prop) (β : Loc) (hp : List (Nat × SObj)) (p : List Leaf × Bool) (v : Value) : Prop :=
 if p.2 then ∃ vs, v = .agg vs ∧ LfRs w Φ β hp p.1 vs.toList else LfRs w Φ β hp p.1 [v]
def PartsR (w : World) (Φ : Nat → Prop) (β : Loc) (hp : List (Nat × SObj)) : List (List Leaf × Bool) → List Value → Prop
 | [], vs => vs = []
 | l :: ls, vs => ∃ v vs', vs = v :: vs' ∧ PartR w Φ β hp l v ∧ PartsR w Φ β hp ls vs'
def SVR (w : World) (Φ : Nat → Prop) (β : Loc) (hp : List (Nat × SObj)) : SVal → Value → Prop
 | .one l, v => LfR w Φ β hp l v
 | .agg cs, v => ∃ vs, v = .agg vs ∧ LfRs w Φ β hp cs vs.toList
 | .tup ps, v => ∃ vs, v = .tuple vs ∧ PartsR w Φ β hp ps vs.toList
 | .skip, v => v = undef
def RowAt (w : World) (Φ : Nat → Prop) (e : CT) (b o : Nat) (l : List e.denote) : Prop :=
 ∀ i x, nth l i = some x → ∃ us, cellsAt w b (o + i * e.size) us ∧ VC w Φ e x us
def valOf (agg : Bool) (vs : List Value) : Value := if agg then .agg vs.toArray else vs.headD undef
def EntR (w : World) (Φ : Nat → Prop) (k v : CT) (agg : Bool) : List (k.denote × v.denote) → List MapEntry → Prop
 | [], es => es = []
 | x :: r, es => ∃ e es', es = e :: es' ∧ VC w Φ k x.1 [e.key] ∧ (∃ vs, VC w Φ v x.2 vs ∧ e.val = valOf agg vs) ∧ EntR w Φ k v agg r es'
theorem EntR_mono {w w' : World} {Φ Φ' : Nat → Prop} (h : ∀ b, Φ b → w'.heap[b]? = w.heap[b]?) (hΦ : ∀ b, Φ b → Φ' b) {k v : CT} {agg : Bool} : ∀ (l : List (k.denote × v.denote)) (es : List MapEntry), EntR w Φ k v agg l es → EntR w' Φ' k v agg l es
 | [], _, h => h
 | x :: r, _, ⟨e, es', e1, e2, ⟨vs, e3, e4⟩, e5⟩ => ⟨e, es', e1, VC_mono h hΦ _ _ _ e2, ⟨vs, VC_mono h hΦ _ _ _ e3, e4⟩, EntR_mono h hΦ r es' e5⟩
def BornOk (es : List MapEntry) (clock : Nat) : Prop := (∀ e ∈ es, e.born < clock) ∧ es.Pairwise (fun a b => a.born ≠ b.born)
def PtB (v : Value) (c : Nat) : Prop := ∃ o n cap, v = .slice (some ⟨c, o, none⟩) n cap ∧ 0 < cap
def RowV (w : World) (Φ : Nat → Prop) (e : CT) (v : Value) (row : List e.denote) : Prop :=
 ((∃ z, v = .slice z 0 0) ∧ row = []) ∨ ∃ c o cap, v = .slice (some ⟨c, o, none⟩) row.length cap ∧ 0 < cap ∧ row.length ≤ cap ∧ o + cap * e.size = blockSize w c ∧ 0 < e.size ∧ ¬ Φ c ∧ Fz w c ∧ RowAt w Φ e c o row
structure RowsV (w : World) (Φ : Nat → Prop) (e : CT) (hs : List Value) (rows : List (List e.denote)) (g : Option Nat) : Prop where
 len : hs.length = rows.length
 row : ∀ i v r, hs[i]? = some v → rows[i]? = some r → g ≠ some i → RowV w Φ e v r
 dis : ∀ i j v v' c, hs[i]? = some v → hs[j]? = some v' → g ≠ some i → g ≠ some j → PtB v c → PtB v' c → i = j
def HdR (w : World) (β : Loc) (id : Nat) : SObj → List Value → Option Nat → Prop
 | .rows e l g, hs, g' => g' = g ∧ hs.length = l.length ∧ ∃ b o, β id = some (some (b, o)) ∧ cellsAt w b o hs
 | .mrows k e l g, hs, g' => g' = g ∧ ∃ b es clock, β id = some (some (b, 0)) ∧ w.heap[b]? = some (.map es clock) ∧ hs = es.toList.map (·.val)
 | _, _, _ => False
def RowB (w : World) (β : Loc) (id : Nat) (o : SObj) (c : Nat) : Prop := ∃ hs g, HdR w β id o hs g ∧ ∃ i v, hs[i]? = some v ∧ g ≠ some i ∧ PtB v c
def SObj.isRows : SObj → Bool
 | .rows _ _ _ => true
 | .mrows _ _ _ _ => true
 | _ => false
theorem RowB_none {w : World} {β : Loc} {id : Nat} {o : SObj} {c : Nat} (h : o.isRows = false) : ¬ RowB w β id o c := by
 rintro ⟨hs, g, h1, _⟩
 cases o <;> first | exact h1.elim | cases h
theorem cellsAt_fun : ∀ {w : World} {us vs : List Value} {b o : Nat}, cellsAt w b o us → cellsAt w b o vs → us.length = vs.length → us = vs
 | _, [], [], _, _, _, _, _ => rfl
 | _, [], _ :: _, _, _, _, _, h => by simp at h
 | _, _ :: _, [], _, _, _, _, h => by simp at h
 | _, u :: us, v :: vs, b, o, ⟨h1, h2⟩, ⟨k1, k2⟩, h => by
   rw [h1] at k1; cases k1
   rw [cellsAt_fun h2 k2 (by simpa using h)]
theorem HdR_of {w w' : World} {β β' : Loc} {id id' : Nat} {o : SObj} {hs : List Value} {g : Option Nat} (hβ : β' id' = β id) (hb : ∀ b p, β id = some (some (b, p)) → w'.heap[b]? = w.heap[b]?) (h : HdR w' β' id' o hs g) : HdR w β id o hs g := by
 cases o with
 | rows e l g0 =>
   obtain ⟨h1, h2, b, o, h3, h4⟩ := h
   rw [hβ] at h3
   exact ⟨h1, h2, b, o, h3, cellsAt_of_heap (hb b o h3).symm _ _ h4⟩
 | mrows k e l g0 =>
   obtain ⟨h1, b, es, cl, h3, h4, h5⟩ := h
   rw [hβ] at h3
   exact ⟨h1, b, es, cl, h3, by rw [← hb b 0 h3]; exact h4, h5⟩
 | _ => exact h.elim
theorem RowB_of {w w' : World} {β β' : Loc} {id id' : Nat} {o : SObj} {c : Nat} (hβ : β' id' = β id) (hb : ∀ b p, β id = some (some (b, p)) → w'.heap[b]? = w.heap[b]?) (h : RowB w' β' id' o c) : RowB w β id o c := by
 obtain ⟨hs, g, h1, h2⟩ := h
 exact ⟨hs, g, HdR_of hβ hb h1, h2⟩
def KeysR (w : World) (Φ : Nat → Prop) (k : CT) : List k.denote → List MapEntry → Prop
 | [], es => es = []
 | x :: r, es => ∃ e es', es = e :: es' ∧ VC w Φ k x [e.key] ∧ KeysR w Φ k r es'
theorem KeysR_mono {w w' : World} {Φ Φ' : Nat → Prop} (h : ∀ b, Φ b → w'.heap[b]? = w.heap[b]?) (hΦ : ∀ b, Φ b → Φ' b) {k : CT} : ∀ (l : List k.denote) (es : List MapEntry), KeysR w Φ k l es → KeysR w' Φ' k l es
 | [], _, h => h
 | x :: r, _, ⟨e, es', e1, e2, e5⟩ => ⟨e, es', e1, VC_mono h hΦ _ _ _ e2, KeysR_mono h hΦ r es' e5⟩
def ObR (w : World) (Φ : Nat → Prop) (β : Loc) (hp : List (Nat × SObj)) (id : Nat) : SObj → Prop
 | .dead => True
 | .box cs => ∃ b vs, β id = some (some (b, 0)) ∧ ¬ Φ b ∧ Fz w b ∧ cellsAt w b 0 vs ∧ LfRs w Φ β hp cs vs
 | .cells cs => ∃ b vs, β id = some (some (b, 0)) ∧ ¬ Φ b ∧ Fz w b ∧ cellsAt w b 0 vs ∧ LfRs w Φ β hp cs vs
 | .arr e l => (β id = some none ∧ l = []) ∨ ∃ b o, β id = some (some (b, o)) ∧ ¬ Φ b ∧ Fz w b ∧ RowAt w Φ e b o l
 | .frz e l => (β id = some none ∧ l = []) ∨ ∃ b o, β id = some (some (b, o)) ∧ Φ b ∧ RowAt w Φ e b o l
 | .map k v agg l => ∃ b es clock, β id = some (some (b, 0)) ∧ ¬ Φ b ∧ w.heap[b]? = some (.map es clock) ∧ EntR w Φ k v agg l es.toList ∧ BornOk es.toList clock
 | .zip e l cs m => ∃ b o vs, β id = some (some (b, o)) ∧ ¬ Φ b ∧ Fz w b ∧ RowAt w Φ e b o l ∧ cellsAt w b (o + l.length * e.size) vs ∧ LfRs w Φ β hp cs vs ∧ vs.length = e.size ∧ RowAt w Φ e b (o + (l.length + 1) * e.size) m
 | .rows e l g => ∃ b o hs, β id = some (some (b, o)) ∧ ¬ Φ b ∧ Fz w b ∧ cellsAt w b o hs ∧ RowsV w Φ e hs l g
 | .mrows k e l g => ∃ b es clock, β id = some (some (b, 0)) ∧ ¬ Φ b ∧ w.heap[b]? = some (.map es clock) ∧ KeysR w Φ k (l.map (·.1)) es.toList ∧ BornOk es.toList clock ∧ RowsV w Φ e (es.toList.map (·.val)) (l.map (·.2)) g
def SObj.owned : SObj → Bool
 | .box _ => true
 | .cells _ => true
 | .arr _ _ => true
 | .map _ _ _ _ => true
 | .rows _ _ _ => true
 | .mrows _ _ _ _ => true
 | .zip _ _ _ _ => true
 | _ => false
structure Same (w0 : World) (own : Nat → Prop) (w : World) : Prop where
 os : w.os = w0.os
 tape : w.tape = w0.tape
 output : w.output = w0.output
 size : w0.heap.size ≤ w.heap.size
 block : ∀ b, b < w0.heap.size → ¬ own b → w.heap[b]? = w0.heap[b]?
structure HpR (w : World) (Φ : Nat → Prop) (β : Loc) (s : St) : Prop where
 ob : ∀ id o, look s.heap id = some o → ObR w Φ β s.heap id o
 lt : ∀ id x, β id = some x → id < s.next
 hlt : ∀ id o, look s.heap id = some o → id < s.next
 inj : ∀ id id' o o' b p p', look s.heap id = some o → look s.heap id' = some o' → o.owned = true → o'.owned = true → β id = some (some (b, p)) → β id' = some (some (b, p')) → id = id'
 blt : ∀ id b p, β id = some (some (b, p)) → b < w.heap.size
 flt : ∀ b, Φ b → b < w.heap.size
 rin : ∀ id o c, look s.heap id = some o → RowB w β id o c → ¬ Φ c ∧ c < w.heap.size ∧ ∀ id' o' p, look s.heap id' = some o' → o'.owned = true → β id' ≠ some (some (c, p))
 rinj : ∀ id id' o o' c, look s.heap id = some o → look s.heap id' = some o' → RowB w β id o c → RowB w β id' o' c → id = id'
structure Kept (w : World) (β : Loc) (hp : List (Nat × SObj)) (w' : World) (β' : Loc) (hp' : List (Nat × SObj)) (id : Nat) : Prop where
 loc : ∀ x, β id = some x → β' id = some x
 row : ∀ x, β id = some x → ∀ r, rowOf (look hp' id) = some r → rowOf (look hp id) = some r
 bs : ∀ b o r, β id = some (some (b, o)) → rowOf (look hp' id) = some r → blockSize w' b = blockSize w b
theorem Kept.refl (w : World) (β : Loc) (hp : List (Nat × SObj)) (id : Nat) : Kept w β hp w β hp id := ⟨fun _ h => h, fun _ _ _ h => h, fun _ _ _ _ _ => rfl⟩
structure Frm where
 n : Nat
 fix : Nat → Option Value
 held : Nat → Option (Nat × Nat) → Prop
 kid : Nat → Prop
 kw : World
 kβ : Loc
 kh : List (Nat × SObj)
def Frm.ok (N : Frm) (d : Nat) : Prop := d < N.n ∧ N.fix d = none
structure Rel (w0 : World) (Φ0 : Nat → Prop) (own0 : Nat → Prop) (N : Frm) (w : World) (Φ : Nat → Prop) (β : Loc) (s : St) (a : Act) : Prop where
 env : ∀ t v, look s.env t = some v → SVR w Φ β s.heap v (a.tmps.getD t undef)
 hp : HpR w Φ β s
 own : ∀ id o b p, look s.heap id = some o → o.owned = true → β id = some (some (b, p)) → own0 b ∨ w0.heap.size ≤ b ∨ ∃ p, N.held id (some (b, p))
 same : Same w0 own0 w
 fri : ∀ b, Φ0 b → Φ b
 fro : ∀ b, Φ b → Φ0 b ∨ own0 b ∨ w0.heap.size ≤ b
 size : a.tmps.size = N.n
 fix : ∀ t v, N.fix t = some v → a.tmps.getD t undef = v
 defers : a.defers = []
 hold : ∀ id x, N.held id x → s.held id = true ∧ β id = some x
 keep : ∀ id, N.kid id → Kept N.kw N.kβ N.kh w β s.heap id
 rown : ∀ id o c, look s.heap id = some o → RowB w β id o c → own0 c ∨ w0.heap.size ≤ c
def GpMono (gp : World → (Nat → Prop) → Prop) : Prop := ∀ (w w' : World) (Φ Φ' : Nat → Prop), (∀ b, Φ b → w'.heap[b]? = w.heap[b]?) → (∀ b, Φ b → Φ' b) → gp w Φ → gp w' Φ'
class GlobR (gp : World → (Nat → Prop) → Prop) (w0 : World) (Φ0 own0 : Nat → Prop) : Prop where
 mono : GpMono gp
 at0 : gp w0 Φ0
 out : ∀ b, Φ0 b → ¬ own0 b ∧ b < w0.heap.size
theorem GlobR.get {gp : World → (Nat → Prop) → Prop} {w0 : World} {Φ0 own0 : Nat → Prop} {N : Frm} {w : World} {Φ : Nat → Prop} {β : Loc} {s : St} {a : Act} (hG : GlobR gp w0 Φ0 own0) (hr : Rel w0 Φ0 own0 N w Φ β s a) : gp w Φ :=
 hG.mono _ _ _ _ (fun b hb => hr.same.block b (hG.out b hb).2 (hG.out b hb).1) hr.fri hG.at0
def GvR (gv : Nat → Option Dyn) (w : World) (Φ : Nat → Prop) : Prop := ∀ g d, gv g = some d → Φ g ∧ ∃ us, cellsAt w g 0 us ∧ VC w Φ d.t d.x us
theorem GvR.none {w : World} {Φ : Nat → Prop} {gv : Nat → Option Dyn} (h : ∀ g, gv g = .none) : GvR gv w Φ := fun g d hg => by rw [h] at hg; cases hg
theorem gOp_sound {gv : Nat → Option Dyn} {w : World} {Φ : Nat → Prop} {β : Loc} {hp : List (Nat × SObj)} {a : Act} {x : Operand} {u : SVal} (hg : GvR gv w Φ) (h : gOp gv x = some u) : SVR w Φ β hp u (a.eval x) := by
 cases x <;> simp only [gOp, reduceCtorEq] at h
 rename_i g
 split at h
 case h_2 => cases h
 rename_i d hd
 cases h
 obtain ⟨h1, us, h2, h3⟩ := hg g d hd
 exact ⟨g, 0, us, h1, h2, h3, rfl⟩
theorem Same.refl (w : World) (own : Nat → Prop) : Same w own w := ⟨rfl, rfl, rfl, Nat.le_refl _, fun _ _ _ => rfl⟩
structure Mono (w : World) (Φ : Nat → Prop) (β : Loc) (hp : List (Nat × SObj)) (w' : World) (Φ' : Nat → Prop) (β' : Loc) (hp' : List (Nat × SObj)) : Prop where
 frz : ∀ b, Φ b → w'.heap[b]? = w.heap[b]?
 sub : ∀ b, Φ b → Φ' b
 loc : ∀ id x, β id = some x → β' id = some x
 row : ∀ id x, β id = some x → ∀ r, rowOf (look hp' id) = some r → rowOf (look hp id) = some r
 bs : ∀ id b o r, β id = some (some (b, o)) → rowOf (look hp' id) = some r → blockSize w' b = blockSize w b
theorem Mono.kept {w w' : World} {Φ Φ' : Nat → Prop} {β β' : Loc} {hp hp' : List (Nat × SObj)} (m : Mono w Φ β hp w' Φ' β' hp') (id : Nat) : Kept w β hp w' β' hp' id :=
 ⟨fun x h => m.loc id x h, fun x h r hr => m.row id x h r hr, fun b o r h hr => m.bs id b o r h hr⟩
theorem Kept.trans {w w' w2 : World} {β β' β2 : Loc} {hp hp' hp2 : List (Nat × SObj)} {id : Nat} (h : Kept w β hp w' β' hp' id) (k : Kept w' β' hp' w2 β2 hp2 id) : Kept w β hp w2 β2 hp2 id :=
 ⟨fun x hx => k.loc x (h.loc x hx), fun x hx r hr => h.row x hx r (k.row x (h.loc x hx) r hr), fun b o r hb hr => (k.bs b o r (h.loc _ hb) hr).trans (h.bs b o r hb (k.row _ (h.loc _ hb) r hr))⟩
theorem Rel.keep' {w0 : World} {Φ0 own0 : Nat → Prop} {N : Frm} {w : World} {Φ : Nat → Prop} {β : Loc} {s : St} {a : Act} (h : Rel w0 Φ0 own0 N w Φ β s a) {w' : World} {Φ' : Nat → Prop} {β' : Loc} {hp' : List (Nat × SObj)}
 (m : Mono w Φ β s.heap w' Φ' β' hp') : ∀ id, N.kid id → Kept N.kw N.kβ N.kh w' β' hp' id := fun id hid => (h.keep id hid).trans (m.kept id)
section mono
variable {w w' : World} {Φ Φ' : Nat → Prop} {β β' : Loc} {hp hp' : List (Nat × SObj)}
theorem IdsR_mono {β β' : Loc} (h : ∀ id x, β id = some x → β' id = some x) : ∀ (l : List (Option Nat)) (vs : List Value), IdsR β l vs → IdsR β' l vs
 | [], _, g => g
 | none :: r, _, ⟨v, vs', e, g1, g2⟩ => ⟨v, vs', e, g1, IdsR_mono h r vs' g2⟩
 | some id :: r, _, ⟨v, vs', e, ⟨b, g1, g3⟩, g2⟩ => ⟨v, vs', e, ⟨b, h _ _ g1, g3⟩, IdsR_mono h r vs' g2⟩
theorem LfR_mono (m : Mono w Φ β hp w' Φ' β' hp') : ∀ (l : Leaf) (v : Value), LfR w Φ β hp l v → LfR w' Φ' β' hp' l v
 | .undef, _, h => h
 | .int _ _, _, h => h
 | .bool _, _, h => h
 | .str _, _, h => h
 | .list e l, v, h => VC_mono m.frz m.sub _ _ _ h
 | .clist e l, v, h => ⟨VC_mono m.frz m.sub _ _ _ h.1, h.2⟩
 | .nils, _, h => h
 | .ptr id off, v, ⟨b, h1, h2⟩ => ⟨b, m.loc _ _ h1, h2⟩
 | .eptr id i off, v, ⟨loc, h1, hp, h2⟩ => ⟨loc, m.loc _ _ h1, hp, fun sz n hr => h2 sz n (m.row _ _ h1 _ hr)⟩
 | .vptr e x off, v, ⟨b, o, us, h1, h2, h3, h4⟩ => ⟨b, o, us, m.sub _ h1, cellsAt_of_heap (m.frz b h1) _ _ h2, VC_mono m.frz m.sub _ _ _ h3, h4⟩
 | .sl id r, v, ⟨loc, h1, hs, h2⟩ => ⟨loc, m.loc _ _ h1, hs, fun sz n hr => by
    have := h2 sz n (m.row _ _ h1 _ hr)
    revert this
    unfold SlR
    cases loc with
    | none => exact fun h => h
    | some bo =>
      obtain ⟨b, o⟩ := bo
      rintro ⟨o', cap, e1, e2, e3, e4, e5, e6⟩
      have hb := m.bs _ _ _ _ h1 hr
      exact ⟨o', cap, e1, e2, e3, e4, by rw [hb]; exact e5, fun h => by rw [hb]; exact e6 h⟩⟩
 | .fn f xs ys, v, ⟨us, vs, h1, h2, h3⟩ => ⟨us, vs, h1, IdsR_mono m.loc _ _ h2, IdsR_mono m.loc _ _ h3⟩
 | .ifp t id off, v, ⟨b, h1, h2⟩ => ⟨b, m.loc _ _ h1, h2⟩
 | .ifi _ _ _, _, h => h
 | .mp id, v, ⟨b, h1, h2⟩ => ⟨b, m.loc _ _ h1, h2⟩
 | .nilp, _, h => h
 | .nilf, _, h => h
 | .nili, _, h => h
 | .nilm, _, h => h
 | .anyb, _, h => h
theorem LfRs_mono (m : Mono w Φ β hp w' Φ' β' hp') : ∀ (l : List Leaf) (v : List Value), LfRs w Φ β hp l v → LfRs w' Φ' β' hp' l v
 | [], _, h => h
 | l :: ls, _, ⟨v, vs', e, h1, h2⟩ => ⟨v, vs', e, LfR_mono m l v h1, LfRs_mono m ls vs' h2⟩
theorem PartR_mono (m : Mono w Φ β hp w' Φ' β' hp') (p : List Leaf × Bool) (v : Value) (h : PartR w Φ β hp p v) : PartR w' Φ' β' hp' p v := by
 unfold PartR at *
 split
 · rename_i hb; simp only [hb, if_true] at h; obtain ⟨vs, e, h⟩ := h; exact ⟨vs, e, LfRs_mono m _ _ h⟩
 · rename_i hb; simp only [hb] at h; exact LfRs_mono m _ _ h
theorem PartsR_mono (m : Mono w Φ β hp w' Φ' β' hp') : ∀ (l : List (List Leaf × Bool)) (v : List Value), PartsR w Φ β hp l v → PartsR w' Φ' β' hp' l v
 | [], _, h => h
 | l :: ls, _, ⟨v, vs', e, h1, h2⟩ => ⟨v, vs', e, PartR_mono m l v h1, PartsR_mono m ls vs' h2⟩
theorem SVR_mono (m : Mono w Φ β hp w' Φ' β' hp') (x : SVal) (v : Value) (h : SVR w Φ β hp x v) : SVR w' Φ' β' hp' x v := by
 cases x with
 | one l => exact LfR_mono m l v h
 | agg cs => obtain ⟨vs, e, h⟩ := h; exact ⟨vs, e, LfRs_mono m _ _ h⟩
 | tup ps => obtain ⟨vs, e, h⟩ := h; exact ⟨vs, e, PartsR_mono m _ _ h⟩
 | skip => exact h
theorem RowAt_mono (m : Mono w Φ β hp w' Φ' β' hp') {e : CT} {b o : Nat} {l : List e.denote} (hb : w'.heap[b]? = w.heap[b]?) (h : RowAt w Φ e b o l) : RowAt w' Φ' e b o l := by
 intro i x hx
 obtain ⟨us, h1, h2⟩ := h i x hx
 exact ⟨us, cellsAt_of_heap hb _ _ h1, VC_mono m.frz m.sub _ _ _ h2⟩
theorem RowV_mono (m : Mono w Φ β hp w' Φ' β' hp') {e : CT} {v : Value} {r : List e.denote} (hc : ∀ c, PtB v c → w'.heap[c]? = w.heap[c]? ∧ (¬ Φ c → ¬ Φ' c)) (h : RowV w Φ e v r) : RowV w' Φ' e v r := by
 rcases h with h | ⟨c, o, cap, h1, h2, h3, h4, h5, h6, h7, h8⟩
 · exact .inl h
 · obtain ⟨g1, g2⟩ := hc c ⟨o, _, cap, h1, h2⟩
   exact .inr ⟨c, o, cap, h1, h2, h3, by unfold blockSize; rw [g1]; exact h4, h5, g2 h6, Fz.of_block g1 h7, RowAt_mono m g1 h8⟩
theorem RowsV_mono (m : Mono w Φ β hp w' Φ' β' hp') {e : CT} {hs : List Value} {l : List (List e.denote)} {g : Option Nat} (hc : ∀ i v c, hs[i]? = some v → g ≠ some i → PtB v c → w'.heap[c]? = w.heap[c]? ∧ (¬ Φ c → ¬ Φ' c)) (h : RowsV w Φ e hs l g) : RowsV w' Φ' e hs l g :=
 ⟨h.len, fun i v r h1 h2 h3 => RowV_mono m (fun c => hc i v c h1 h3) (h.row i v r h1 h2 h3), h.dis⟩
theorem ObR_mono (m : Mono w Φ β hp w' Φ' β' hp') {id : Nat} {o : SObj} (hb : ∀ b p, β id = some (some (b, p)) → w'.heap[b]? = w.heap[b]?)
  (hΦ : o.owned = true → ∀ b p, β id = some (some (b, p)) → ¬ Φ b → ¬ Φ' b) (hc : ∀ c, RowB w β id o c → w'.heap[c]? = w.heap[c]? ∧ (¬ Φ c → ¬ Φ' c)) (h : ObR w Φ β hp id o) : ObR w' Φ' β' hp' id o := by
 cases o with
 | dead => trivial
 | box cs =>
   obtain ⟨b, vs, h1, h2, h3, h4, h5⟩ := h
   exact ⟨b, vs, m.loc _ _ h1, hΦ rfl b 0 h1 h2, Fz.of_block (hb b 0 h1) h3, cellsAt_of_heap (hb b 0 h1) _ _ h4, LfRs_mono m _ _ h5⟩
 | cells cs =>
   obtain ⟨b, vs, h1, h2, h3, h4, h5⟩ := h
   exact ⟨b, vs, m.loc _ _ h1, hΦ rfl b 0 h1 h2, Fz.of_block (hb b 0 h1) h3, cellsAt_of_heap (hb b 0 h1) _ _ h4, LfRs_mono m _ _ h5⟩
 | arr e l =>
   rcases h with ⟨h1, h2⟩ | ⟨b, o, h1, h2, h3, h4⟩
   · exact .inl ⟨m.loc _ _ h1, h2⟩
   · exact .inr ⟨b, o, m.loc _ _ h1, hΦ rfl b o h1 h2, Fz.of_block (hb b o h1) h3, RowAt_mono m (hb b o h1) h4⟩
 | frz e l =>
   rcases h with ⟨h1, h2⟩ | ⟨b, o, h1, h2, h4⟩
   · exact .inl ⟨m.loc _ _ h1, h2⟩
   · exact .inr ⟨b, o, m.loc _ _ h1, m.sub _ h2, RowAt_mono m (hb b o h1) h4⟩
 | map k v agg l =>
   obtain ⟨b, es, clock, h1, h2, h3, h4, h5⟩ := h
   exact ⟨b, es, clock, m.loc _ _ h1, hΦ rfl b 0 h1 h2, by rw [hb b 0 h1]; exact h3, EntR_mono m.frz m.sub _ _ h4, h5⟩
 | zip e l cs q =>
   obtain ⟨b, o, vs, h1, h2, h3, h4, h5, h6, h7, h8⟩ := h
   exact ⟨b, o, vs, m.loc _ _ h1, hΦ rfl b o h1 h2, Fz.of_block (hb b o h1) h3, RowAt_mono m (hb b o h1) h4, cellsAt_of_heap (hb b o h1) _ _ h5, LfRs_mono m _ _ h6, h7, RowAt_mono m (hb b o h1) h8⟩
 | rows e l g =>
   obtain ⟨b, o, hs, h1, h2, h3, h4, h5⟩ := h
   exact ⟨b, o, hs, m.loc _ _ h1, hΦ rfl b o h1 h2, Fz.of_block (hb b o h1) h3, cellsAt_of_heap (hb b o h1) _ _ h4,
    RowsV_mono m (fun i v c k1 k2 k3 => hc c ⟨hs, g, ⟨rfl, h5.len, b, o, h1, h4⟩, i, v, k1, k2, k3⟩) h5⟩
 | mrows k e l g =>
   obtain ⟨b, es, clock, h1, h2, h3, h4, h5, h6⟩ := h
   exact ⟨b, es, clock, m.loc _ _ h1, hΦ rfl b 0 h1 h2, by rw [hb b 0 h1]; exact h3, KeysR_mono m.frz m.sub _ _ h4, h5,
    RowsV_mono m (fun i v c k1 k2 k3 => hc c ⟨_, g, ⟨rfl, b, es, clock, h1, h3, rfl⟩, i, v, k1, k2, k3⟩) h6⟩
end mono
end Go.Bm
