import Derived.Test.YtlobhcgbmpcdlaaGreatDoorBmFuel
import Derived.ProofKit
import Derived.Carry
namespace Go.Bm
open Go.ChangeShapes Go.WideShapes Go.ChangeAt Go.RowKit
set_option linter.unusedVariables false
set_option linter.unusedSimpArgs false
def CT.fits : (t : CT) → t.denote → Prop
 | .int k, x => k.min ≤ x ∧ x ≤ k.max
 | .str, s => List.length (α := UInt8) s ≤ maxLen
 | .list e, l => List.length (α := e.denote) l ≤ maxLen ∧ ∀ y ∈ (l : List e.denote), e.fits y
 | .prod a b, x => a.fits x.1 ∧ b.fits x.2
 | _, _ => True
def fieldsOf (P : Program) (g : TypeId → Option (List CT)) : Nat → List Field → Option (List CT)
 | _, [] => some []
 | off, f :: r => match g f.type with
   | some l => match fieldsOf P g (off + l.length) r with
     | some m => if f.offset = off ∧ P.cellsOf f.type = l.length then some (l ++ m) else none
     | none => none
   | none => none
def ctOf (P : Program) : Nat → TypeId → Option (List CT)
 | 0, _ => none
 | n + 1, t => match P.underlying t with
   | some (.int k) => some [.int k]
   | some .bool => some [.bool]
   | some .string => some [.str]
   | some (.slice e) => match ctOf P n e with
     | some (a :: l) => if P.cellsOf e = l.length + 1 then some [.list (prods (a :: l))] else none
     | _ => none
   | some (.struct fs) => match fieldsOf P (ctOf P n) 0 fs.toList with
     | some l => if P.cellsOf t = l.length then some l else none
     | none => none
   | _ => none
section
variable {H : Type} {enc : TypeId × Value → H} {P : Program} {W W' : World} {base : Nat} {spare : Nat → Bool} {held : Bool}
theorem fieldsOf_leaf {g : TypeId → Option (List CT)} (hg : ∀ t l, g t = some l → ∀ c ∈ l, c.size = 1 ∧ c.leaf = true) : ∀ {fs : List Field} {off : Nat} {l : List CT}, fieldsOf P g off fs = some l → ∀ c ∈ l, c.size = 1 ∧ c.leaf = true
 | [], off, l, h, c, hc => by simp [fieldsOf] at h; subst h; cases hc
 | f :: r, off, l, h, c, hc => by
   simp only [fieldsOf] at h
   split at h
   case h_2 => cases h
   rename_i l1 h1
   split at h
   case h_2 => cases h
   rename_i m h2
   split at h
   case isFalse => cases h
   cases h
   rcases List.mem_append.1 hc with hc | hc
   · exact hg _ _ h1 c hc
   · exact fieldsOf_leaf hg h2 c hc
theorem ctOf_leaf : ∀ {n : Nat} {t : TypeId} {l : List CT}, ctOf P n t = some l → ∀ c ∈ l, c.size = 1 ∧ c.leaf = true
 | 0, t, l, h, c, hc => by cases h
 | n + 1, t, l, h, c, hc => by
   simp only [ctOf] at h
   split at h
   · cases h; simp at hc; subst hc; exact ⟨rfl, rfl⟩
   · cases h; simp at hc; subst hc; exact ⟨rfl, rfl⟩
   · cases h; simp at hc; subst hc; exact ⟨rfl, rfl⟩
   · split at h
     · split at h
       · cases h; simp at hc; subst hc; exact ⟨rfl, rfl⟩
       · cases h
     · cases h
   · split at h
     · rename_i l' hl
       split at h
       · cases h; exact fieldsOf_leaf (fun t l h => ctOf_leaf h) hl c hc
       · cases h
     · cases h
   · cases h
theorem prods_size : ∀ {l : List CT}, (∀ c ∈ l, c.size = 1) → (prods l).size = l.length
 | [], _ => rfl
 | [a], h => h a (by simp)
 | a :: b :: r, h => by
   have := prods_size (l := b :: r) (fun c hc => h c (List.mem_cons_of_mem _ hc))
   show 1 + (prods (b :: r)).size = _
   rw [this]; simp; omega
def CellOk (W : World) (c : CT) (v : Value) : Prop := ∃ y : c.denote, VC W (fun b => b < W.heap.size) c y [v] ∧ c.fits y
theorem join_cells : ∀ {l : List CT} {cs : List Value}, cs.length = l.length → (∀ (i : Nat) (c : CT) (v : Value), l[i]? = some c → cs[i]? = some v → CellOk W c v) → ∃ x : (prods l).denote, VC W (fun b => b < W.heap.size) (prods l) x cs ∧ (prods l).fits x
 | [], cs, hl, _ => ⟨(), List.eq_nil_of_length_eq_zero (by simpa using hl), trivial⟩
 | [a], cs, hl, h => by
   match cs, hl with
   | [v], _ => exact h 0 a v rfl rfl
 | a :: b :: r, cs, hl, h => by
   match cs, hl with
   | v :: vs, hl =>
     obtain ⟨x, h1, h2⟩ := h 0 a v rfl rfl
     obtain ⟨y, h3, h4⟩ := join_cells (l := b :: r) (cs := vs) (by simpa using hl) (fun i c u hi hu => h (i + 1) c u (by simpa using hi) (by simpa using hu))
     exact ⟨(x, y), ⟨v, vs, rfl, h1, h3⟩, h2, h4⟩
theorem finite_choice {α : Type} {p : Nat → α → Prop} : ∀ (n : Nat), (∀ i, i < n → ∃ x, p i x) → ∃ l : List α, l.length = n ∧ ∀ i x, nth l i = some x → p i x
 | 0, _ => ⟨[], rfl, fun i x h => by simp [nth] at h⟩
 | n + 1, h => by
   obtain ⟨l, h1, h2⟩ := finite_choice n (fun i hi => h i (by omega))
   obtain ⟨y, hy⟩ := h n (by omega)
   refine ⟨l ++ [y], by simp [h1], fun i x hx => ?_⟩
   rw [nth_getElem?] at hx
   rcases Nat.lt_or_ge i l.length with hi | hi
   · rw [List.getElem?_append_left hi] at hx
     exact h2 i x (by rw [nth_getElem?]; exact hx)
   · rw [List.getElem?_append_right hi] at hx
     have : i - l.length = 0 := by
      have := (List.getElem?_eq_some_iff.1 hx).1
      simp at this; omega
     rw [this] at hx
     simp at hx
     subst hx
     have : i = n := by omega
     subst this
     exact hy
theorem cells_at {a : Addr} {n : Nat} {cs : List Value} (h : W.cells? base a n = some cs) : cs.length = n ∧ ∀ i, i < n → W.cell? (a.add i) = cs[i]? := by
 unfold World.cells? at h
 split at h
 · refine ⟨by have := mapM_some_length h; simpa using this, fun i hi => ?_⟩
   exact mapM_some_get h i i (by simp [hi])
 · cases h
theorem cell_spot {a : Addr} {v : Value} (h : W.cell? a = some v) : a.spot = none ∧ a.block < W.heap.size := by
 unfold World.cell? at h
 split at h
 · rename_i c t f hb
   split at h
   · cases h
   · rename_i hs
     exact ⟨by cases hsp : a.spot <;> simp [hsp] at hs ⊢, (Array.getElem?_eq_some_iff.1 hb).1⟩
 · cases h
theorem read_cells : ∀ {n : Nat} {t : TypeId} {l : List CT} {fuel : Nat} {cs : List Value} {x : DataW H × List MemPlace}, ctOf P n t = some l → DataW.trod enc P W base spare held fuel t cs = some x →
  cs.length = l.length ∧ ∀ (i : Nat) (c : CT) (v : Value), l[i]? = some c → cs[i]? = some v → CellOk W c v
 | 0, t, l, fuel, cs, x, h, _ => by cases h
 | n + 1, t, l, fuel, cs, x, h, hx => by
   simp only [ctOf] at h
   split at h
   · rename_i k ht
     cases h
     obtain ⟨z, rfl, _, hw⟩ := DataW.trod_int ht hx
     refine ⟨rfl, fun i c v hi hv => ?_⟩
     match i, hi, hv with
     | 0, hi, hv =>
       simp at hi hv; subst hi; subst hv
       simp only [Lit.wf, Bool.and_eq_true, decide_eq_true_eq] at hw
       exact ⟨z, rfl, hw⟩
     | i + 1, hi, _ => simp at hi
   · rename_i ht
     cases h
     obtain ⟨z, rfl, _⟩ := DataW.trod_bool ht hx
     refine ⟨rfl, fun i c v hi hv => ?_⟩
     match i, hi, hv with
     | 0, hi, hv => simp at hi hv; subst hi; subst hv; exact ⟨z, rfl, trivial⟩
     | i + 1, hi, _ => simp at hi
   · rename_i ht
     cases h
     obtain ⟨z, rfl, _, hw⟩ := DataW.trod_string ht hx
     refine ⟨rfl, fun i c v hi hv => ?_⟩
     match i, hi, hv with
     | 0, hi, hv => simp at hi hv; subst hi; subst hv; exact ⟨z.data.toList, ⟨z, rfl, rfl⟩, by simpa [CT.fits] using hw⟩
     | i + 1, hi, _ => simp at hi
   · rename_i e ht
     split at h
     case h_2 => cases h
     rename_i a' l' hl
     split at h
     case isFalse => cases h
     rename_i hce
     cases h
     have hleaf := ctOf_leaf hl
     have hsz : (prods (a' :: l')).size = l'.length + 1 := by rw [prods_size (fun c hc => (hleaf c hc).1)]; rfl
     rcases DataW.trod_slice ht hx with ⟨rfl, _⟩ | ⟨a, len, cap, elems, rest, m, _, rfl, _, hb, hlc, hcm, hel, hels, _⟩
     · refine ⟨rfl, fun i c v hi hv => ?_⟩
       match i, hi, hv with
       | 0, hi, hv => simp at hi hv; subst hi; subst hv; exact ⟨[], ⟨none, 0, rfl, Nat.le_refl _, .inl rfl⟩, by simp [CT.fits]⟩
       | i + 1, hi, _ => simp at hi
     · refine ⟨rfl, fun i c v hi hv => ?_⟩
       match i, hi, hv with
       | i + 1, hi, _ => simp at hi
       | 0, hi, hv =>
       simp at hi hv; subst hi; subst hv
       have each : ∀ i, i < len → ∃ y : (prods (a' :: l')).denote, (∃ us, cellsAt W a.block (a.off + i * (l'.length + 1)) us ∧ VC W (fun b => b < W.heap.size) (prods (a' :: l')) y us) ∧ (prods (a' :: l')).fits y ∧ a.spot = none ∧ a.block < W.heap.size := by
        intro i hi
        have he := hels i hi
        have : elems[i]? = some elems[i] := List.getElem?_eq_getElem (by omega)
        rw [this] at he
        obtain ⟨cs, hcs, htr⟩ := Option.bind_eq_some_iff.1 he
        obtain ⟨h1, h2⟩ := cells_at hcs
        obtain ⟨h3, h4⟩ := read_cells hl htr
        obtain ⟨y, h5, h6⟩ := join_cells h3 h4
        rw [hce] at h1
        have h0 : W.cell? ((a.add (i * P.cellsOf e)).add 0) = cs[0]? := h2 0 (by omega)
        have h00 : cs[0]? = some cs[0] := List.getElem?_eq_getElem (by omega)
        rw [h00] at h0
        have hadd0 : (a.add (i * P.cellsOf e)).add 0 = a.add (i * P.cellsOf e) := by simp [Addr.add]
        rw [hadd0] at h0
        obtain ⟨k1, k2⟩ := cell_spot h0
        have hspot : a.spot = none ∨ i * P.cellsOf e ≠ 0 := by
         by_cases hz : i * P.cellsOf e = 0
         · left; rw [hz] at k1; simpa [Addr.add] using k1
         · right; exact hz
        have hbk : (a.add (i * P.cellsOf e)).block = a.block := by unfold Addr.add; split <;> rfl
        rw [hbk] at k2
        have hsp0 : a.spot = none := by
         rcases hspot with g | g
         · exact g
         · have he0 := hels 0 (by omega)
           have : elems[0]? = some elems[0] := List.getElem?_eq_getElem (by omega)
           rw [this] at he0
           obtain ⟨cs0, hcs0, _⟩ := Option.bind_eq_some_iff.1 he0
           obtain ⟨q1, q2⟩ := cells_at hcs0
           have q3 := q2 0 (by omega)
           have : cs0[0]? = some (cs0[0]'(by omega)) := List.getElem?_eq_getElem (by omega)
           rw [this] at q3
           have := (cell_spot q3).1
           simpa [Addr.add] using this
        refine ⟨y, ⟨cs, ?_, h5⟩, h6, hsp0, k2⟩
        refine cellsAt_of _ _ _ fun j v hj => ?_
        have hjl : j < l'.length + 1 := by have := (List.getElem?_eq_some_iff.1 hj).1; omega
        have := h2 j (by omega)
        rw [hj] at this
        obtain ⟨ab, ao, as⟩ := a
        simp only at hsp0
        subst hsp0
        rw [Addr.add0, Addr.add0] at this
        rw [← this, hce]
       obtain ⟨ys, g1, g2⟩ := finite_choice len each
       refine ⟨ys, ⟨some a, cap, by rw [g1], by omega, ?_⟩, show List.length ys ≤ maxLen by rw [g1]; omega, fun y hy => ?_⟩
       · by_cases h0 : len = 0
         · left; exact List.eq_nil_of_length_eq_zero (by omega)
         · right
           obtain ⟨_, _, _, k1, k2⟩ := each 0 (by omega)
           refine ⟨a.block, a.off, ?_, k2, fun i x hx => ?_⟩
           · obtain ⟨ab, ao, as⟩ := a; simp only at k1; subst k1; rfl
           · obtain ⟨⟨us, u1, u2⟩, _⟩ := g2 i x hx
             exact ⟨us, by rw [hsz]; exact u1, u2⟩
       · obtain ⟨i, hi⟩ := List.mem_iff_getElem?.1 hy
         exact (g2 i y (by rw [nth_getElem?]; exact hi)).2.1
   · rename_i fs ht
     split at h
     case h_2 => cases h
     rename_i l' hl
     split at h
     case isFalse => cases h
     rename_i hce
     cases h
     obtain ⟨xs, m, _, _, hlen, hxl, hfs⟩ := DataW.trod_struct ht hx
     refine ⟨by omega, ?_⟩
     have go : ∀ (fl : List Field) (off j : Nat) (l : List CT), (∀ (i : Nat) (f : Field), fl[i]? = some f → fs[j + i]? = some f) → fieldsOf P (ctOf P n) off fl = some l → off + l.length ≤ cs.length → ∀ (i : Nat) (c : CT) (v : Value), l[i]? = some c → cs[off + i]? = some v → CellOk W c v := by
      intro fl
      induction fl with
      | nil => intro off j l _ h _ i c v hi; simp [fieldsOf] at h; subst h; simp at hi
      | cons f r ih =>
        intro off j l hfl h hle i c v hi hv
        simp only [fieldsOf] at h
        split at h
        case h_2 => cases h
        rename_i l1 h1
        split at h
        case h_2 => cases h
        rename_i l2 h2
        split at h
        case isFalse => cases h
        rename_i hc
        cases h
        simp only [List.length_append] at hle
        by_cases hil : i < l1.length
        · rw [List.getElem?_append_left hil] at hi
          have hf0 := hfl 0 f rfl
          have hjx : j < fs.size := (Array.getElem?_eq_some_iff.1 hf0).1
          have htr := hfs j f hf0
          have : xs[j]? = some xs[j] := List.getElem?_eq_getElem (by omega)
          rw [this] at htr
          refine (read_cells h1 htr).2 i c v hi ?_
          rw [List.getElem?_take, if_pos (by omega), List.getElem?_drop, hc.1]
          exact hv
        · rw [List.getElem?_append_right (by omega)] at hi
          refine ih (off + l1.length) (j + 1) l2 (fun i f hf => ?_) h2 (by omega) (i - l1.length) c v hi ?_
          · have := hfl (i + 1) f (by simpa using hf)
            rwa [show j + (i + 1) = j + 1 + i by omega] at this
          · rw [show off + l1.length + (i - l1.length) = off + i by omega]; exact hv
     intro i c v hi hv
     exact go fs.toList 0 0 _ (fun i f hf => by rw [Nat.zero_add]; simpa using hf) hl (by omega) i c v hi (by rw [Nat.zero_add]; exact hv)
   · cases h
def argS (P : Program) (t : TypeId) : Option SlT := match ctOf P 12 t with
 | some l => match P.underlying t with
   | some (.struct _) => some (.agg [.pl (prods l)])
   | some _ => match l with
     | [c] => some (.one (.pl c))
     | _ => none
   | none => none
 | none => none
def argSs (P : Program) : List TypeId → Option (List SlT)
 | [] => some []
 | t :: r => match argS P t, argSs P r with
   | some a, some b => some (a :: b)
   | _, _ => none
def DsFit : List Dyn → Prop
 | [] => True
 | d :: r => d.t.fits d.x ∧ DsFit r
theorem unpack1_one {c : CT} (h : c.leaf = true) (y : c.denote) : unpackL c y = [unpack1 c y] := by
 cases c <;> first | rfl | cases h
theorem arg_sound {γ : Loc} {r : Reach} {b0 : Nat} {t : TypeId} {v : Value} {d : DataW H} {ps : List MemPlace} {sl : SlT} (hs : argS P t = some sl) (hv : Value.okWide P W r b0 t v) (h : DataW.Trod enc P W base spare held t v d ps) :
  ∃ dy : Dyn, sl.cts = [dy.t] ∧ dy.t.fits dy.x ∧ ∀ rest, (instSl sl (dy :: rest)).2 = rest ∧ SVR W (fun b => b < W.heap.size) γ [] (instSl sl (dy :: rest)).1 v := by
 unfold argS at hs
 split at hs
 case h_2 => cases hs
 rename_i l hl
 obtain ⟨fuel, hf⟩ := h
 obtain ⟨h1, h2⟩ := read_cells hl hf
 split at hs
 · rename_i fs hu
   cases hs
   obtain ⟨cs, rfl, hcs⟩ := okWide_struct hu hv
   obtain ⟨x, g1, g2⟩ := join_cells h1 h2
   exact ⟨⟨prods l, x⟩, rfl, g2, fun rest => ⟨rfl, cs, rfl, by simpa [instSl, instLs, instL, Value.cells] using unpackL_LfRs (β := γ) (hp := []) (prods l) x _ g1⟩⟩
 · rename_i td hne hu
   split at hs
   case h_2 => cases hs
   rename_i c
   cases hs
   have hleaf := (ctOf_leaf hl c (by simp)).2
   have hone : v.cells.toList = [v] := by
    have hl' := hl
    simp only [ctOf, hu] at hl'
    cases td with
    | int k => obtain ⟨n, rfl⟩ := okWide_int hu hv; rfl
    | bool => obtain ⟨n, rfl⟩ := okWide_bool hu hv; rfl
    | string => obtain ⟨n, rfl⟩ := okWide_string hu hv; rfl
    | slice e => obtain ⟨a, len, cap, rfl⟩ := okWide_slice hu hv; rfl
    | struct fs => exact (hne fs rfl).elim
    | _ => simp at hl'
   rw [hone] at h2
   obtain ⟨y, g1, g2⟩ := h2 0 c v rfl rfl
   refine ⟨⟨c, y⟩, rfl, g2, fun rest => ⟨rfl, ?_⟩⟩
   have := unpack1_LfR (β := γ) (hp := []) c y v g1
   simp only [instSl, instL, unpack1_one hleaf, headL]
   exact this
 · cases hs
theorem args_sound {γ : Loc} {r : Reach} {b0 : Nat} : ∀ {ts : List TypeId} {vs : List Value} {ds : List (DataW H)} {ps : List MemPlace} {sls : List SlT}, argSs P ts = some sls → (∀ (j : Nat) t v, ts[j]? = some t → vs[j]? = some v → Value.okWide P W r b0 t v) → DataW.TrodAll enc P W base spare held ts vs ds ps →
  ∃ dys : List Dyn, slCts sls = dys.map (·.t) ∧ DsFit dys ∧ SVRs W (fun b => b < W.heap.size) γ [] (instSls sls dys).1 vs
 | [], [], [], ps, sls, hs, _, h => by simp [argSs] at hs; subst hs; exact ⟨[], rfl, trivial, rfl⟩
 | [], [], _ :: _, ps, sls, hs, _, h => h.elim
 | t :: ts, v :: vs, d :: ds, ps, sls, hs, hv, h => by
   obtain ⟨p, q, h1, h2, rfl⟩ := h
   simp only [argSs] at hs
   split at hs
   case h_2 => cases hs
   rename_i sl sls' hsl hsls
   cases hs
   obtain ⟨dy, e1, e2, e3⟩ := arg_sound (γ := γ) hsl (hv 0 t v rfl rfl) h1
   obtain ⟨dys, f1, f2, f3⟩ := args_sound (γ := γ) hsls (fun j t v ht hv' => hv (j + 1) t v (by simpa using ht) (by simpa using hv')) h2
   refine ⟨dy :: dys, by simp [slCts, e1, f1], ⟨e2, f2⟩, ?_⟩
   obtain ⟨k1, k2⟩ := e3 dys
   simp only [instSls, k1]
   exact ⟨v, vs, rfl, k2, f3⟩
 | [], _ :: _, ds, ps, sls, _, _, h => h.elim
 | _ :: _, [], ds, ps, sls, _, _, h => h.elim
 | _ :: _, _ :: _, [], ps, sls, _, _, h => h.elim
theorem toD_some : ∀ {ts : List CT} {ds : List Dyn}, ts = ds.map (·.t) → ∃ d, toD ts ds = some d
 | [], [], _ => ⟨(), rfl⟩
 | [], _ :: _, h => by simp at h
 | [a], [], h => by simp at h
 | [a], [x], h => by simp at h; subst h; exact ⟨x.x, by simp [toD]⟩
 | [a], _ :: _ :: _, h => by simp at h
 | a :: b :: r, [], h => by simp at h
 | a :: b :: r, x :: ds, h => by
   simp only [List.map_cons, List.cons.injEq] at h
   obtain ⟨rfl, h⟩ := h
   obtain ⟨d, hd⟩ := toD_some h
   exact ⟨(x.x, d), by simp only [toD, dite_true, hd]⟩
def LawOk (T : Tbl) (φ : Nat) : Prop := ∀ d : (T.kin φ).ct.denote, DsFit (fromD (T.kin φ).cts d) → ∃ y, T.rf φ d = some y ∧ OutR (fun T' ds' => T'.objs = [] ∧ T'.slots = [.one (.pl .bool)] ∧ ds' = [⟨.bool, true⟩]) (T.kouts φ) y
theorem law_run {T : Tbl} (hT : T.Ok P) {f φ : Nat} (hφ : φ ∈ T.keys f) (hl : LawOk T φ) {ts : List TypeId} {vs : List Value} {ds : List (DataW H)} {ps : List MemPlace} (hs : argSs P ts = some (T.kin φ).slots) (ho : (T.kin φ).objs = []) {r : Reach} {b0 : Nat}
  (hv : ∀ (j : Nat) t v, ts[j]? = some t → vs[j]? = some v → Value.okWide P W r b0 t v) (h : DataW.TrodAll enc P W base spare held ts vs ds ps) (hg : T.gp W (fun b => b < W.heap.size) := by exact trivial) :
  Calls P f vs.toArray W fun e W' => e = .returned (.bool true) ∧ Same W (fun _ => False) W' := by
 obtain ⟨dys, e1, e2, e3⟩ := args_sound (γ := fun _ => none) hs hv h
 have hcts : (T.kin φ).cts = dys.map (·.t) := by simp [Tm.cts, ho, obCts, e1]
 obtain ⟨d, hd⟩ := toD_some hcts
 have hfd := toD_from hd
 obtain ⟨y, hy, hout⟩ := hl d (by rw [hfd]; exact e2)
 have hi : InstR W (fun b => b < W.heap.size) (T.kin φ) (fromD (T.kin φ).cts d) vs (fun _ => none) := by
  have hheap : (T.kin φ).heap (fromD (T.kin φ).cts d) = [] := by simp [Tm.heap, ho, instObs]
  refine ⟨?_, ?_⟩
  · rw [hheap, hfd]
    simpa [Tm.vals, ho, instObs] using e3
  · rw [hheap]
    exact ⟨fun _ _ h => (by cases h), fun _ _ h => (by cases h), fun _ _ h => (by cases h), fun _ _ _ _ _ _ _ h => (by cases h), fun _ _ _ h => (by cases h), fun _ h => h, fun _ _ _ h => (by cases h), fun _ _ _ _ _ h => (by cases h)⟩
 refine (Tbl.sound hT hy hφ hg hi).mono fun e W' ⟨Φ', γ', rs, he, ho'⟩ => ?_
 have both : ∀ (l : List Tm) (y : (outsT l).denote), OutR (fun T' ds' => InstR W' Φ' T' ds' rs γ' ∧ PostR W (fun b => b < W.heap.size) (fun _ => none) (T.kin φ) (fromD (T.kin φ).cts d) W' Φ' γ' T' ds') l y →
   OutR (fun T' ds' => T'.objs = [] ∧ T'.slots = [.one (.pl .bool)] ∧ ds' = [⟨.bool, true⟩]) l y → retVal rs = .bool true ∧ Same W (fun _ => False) W' := by
  intro l
  have one : ∀ T' ds', InstR W' Φ' T' ds' rs γ' ∧ PostR W (fun b => b < W.heap.size) (fun _ => none) (T.kin φ) (fromD (T.kin φ).cts d) W' Φ' γ' T' ds' → (T'.objs = [] ∧ T'.slots = [.one (.pl .bool)] ∧ ds' = [⟨.bool, true⟩]) → retVal rs = .bool true ∧ Same W (fun _ => False) W' := by
   rintro T' ds' ⟨h1, h2⟩ ⟨k1, k2, k3⟩
   subst k3
   have hvals := h1.vals
   simp only [Tm.vals, k1, k2, instObs] at hvals
   obtain ⟨v, vs', e, g1, g2⟩ := hvals
   cases g2
   subst e
   refine ⟨g1, h2.same.os, h2.same.tape, h2.same.output, h2.same.size, fun b hb _ => h2.same.block b hb ?_⟩
   rintro (⟨id, ob, p, _, _, h⟩ | ⟨id, ob, h, _⟩)
   · cases h
   · simp [Tm.heap, ho, instObs, look] at h
  induction l with
  | nil => intro y h; exact h.elim
  | cons T' l ih =>
    cases l with
    | nil => intro y h k; exact one _ _ h k
    | cons T2 l =>
      intro y h k
      cases y with
      | inl a => exact one _ _ h k
      | inr c => exact ih c h k
 obtain ⟨g1, g2⟩ := both _ _ ho' hout
 exact ⟨by rw [he, g1], g2⟩
theorem trodAll_len : ∀ {ts : List TypeId} {vs : List Value} {ds : List (DataW H)} {ps : List MemPlace}, DataW.TrodAll enc P W base spare held ts vs ds ps → ds.length = ts.length
 | [], [], [], ps, h => rfl
 | [], [], _ :: _, ps, h => h.elim
 | t :: ts, v :: vs, d :: ds, ps, h => by
   obtain ⟨p, q, h1, h2, rfl⟩ := h
   simp [trodAll_len h2]
 | [], _ :: _, ds, ps, h => h.elim
 | _ :: _, [], ds, ps, h => h.elim
 | _ :: _, _ :: _, [], ps, h => h.elim
theorem Same.below {own : Nat → Prop} (h : Same W own W') (ho : ∀ b, ¬ own b) : Below W.heap.size W W' :=
 ⟨h.os, h.tape, h.output, h.size, fun b hb => h.block b hb (ho b)⟩
theorem trodAll_below (hl : laidOutB P = true) (hb : Below W.heap.size W W') : ∀ {ts : List TypeId} {vs : List Value} {ds : List (DataW H)} {ps : List MemPlace}, (ts.all fun t => P.readableRec t && Nat.blt t P.types.size) = true →
  DataW.TrodAll enc P W 0 (fun _ => true) true ts vs ds ps → (∀ x ∈ ps, x.block < W.heap.size) → DataW.TrodAll enc P W' 0 (fun b => decide (b < W.heap.size)) true ts vs ds ps
 | [], [], [], ps, _, h, _ => h
 | [], [], _ :: _, ps, _, h, _ => h.elim
 | t :: ts, v :: vs, d :: ds, ps, hr, h, hlt => by
   simp only [List.all_cons, Bool.and_eq_true] at hr
   obtain ⟨p, q, h1, h2, rfl⟩ := h
   exact ⟨p, q, Below.trod hl hr.1.1 (by rw [← Nat.blt_eq]; exact hr.1.2) h1 hb (fun x hx => hlt x (List.mem_append_left _ hx)), trodAll_below hl hb hr.2 h2 (fun x hx => hlt x (List.mem_append_right _ hx)), rfl⟩
 | [], _ :: _, ds, ps, _, h, _ => h.elim
 | _ :: _, [], ds, ps, _, h, _ => h.elim
 | _ :: _, _ :: _, [], ps, _, h, _ => h.elim
theorem post_true {f : Func} {s : ChangeSpec} {args : Array Value} {ds gs : List (DataW H)} {before : List MemPlace} {tb : TypeId} (hl : laidOutB P = true)
  (hr : (f.params.toList.all fun t => P.readableRec t && Nat.blt t P.types.size) = true) (hrt : f.resultTypes.toList = [tb]) (htb : P.underlying tb = some .bool) (hv : s.vars = [])
  (hW : DataW.Whole enc P f.params.toList s.vars false W args.toList ds gs before)
  (hfn : s.fn H (ds ++ gs) = { results := [.lit (.bool true)], args := ds }) {own : Nat → Prop} (hs : Same W own W') (ho : ∀ b, ¬ own b) :
  s.post enc P f false true false false W args (.bool true) W' := by
 have hlt : ∀ p ∈ before, p.block < W.heap.size := fun p hp => by simpa using hW.lt p hp
 have hW' := hW
 obtain ⟨p, q, hA, hV, rfl, hfz, hnd⟩ := hW
 rw [hv] at hV
 obtain ⟨hg, hq⟩ := trodVars_none hV
 subst hq
 simp only [List.append_nil] at hlt
 have hbel := hs.below ho
 have hrl : f.resultTypes.size = 1 := by rw [← Array.length_toList, hrt]; rfl
 refine ⟨ds, gs, _, [], p, [], hW', ?_, ?_, ?_, ?_, fun h => by cases h⟩
 · rw [hfn, hrt, hrl]
   exact trodAll_mk1 ⟨1, by simp [DataW.trod, Value.cells, htb]⟩
 · rw [hfn]
   exact trodAll_below hl hbel hr hA hlt
 · rw [hfn, hv]
   rfl
 · refine ⟨hbel.os, hbel.output, fun i hi => ?_⟩
   rw [hbel.block i hi]
   cases W.heap[i]? with
   | none => trivial
   | some o => cases o <;> simp
end
def blkOkB (T : Tbl) (κ : Nat) : Bool := match T.place κ with
 | some (f, p) => match T.fn f with
   | some fn => match fn.body with
     | some c => match cut p c with
       | some c' => blkB T κ f fn p c'
       | none => true
     | none => true
   | none => true
 | none => true
theorem Tbl.ok_blk {T : Tbl} (n : Nat) (h0 : ∀ κ, n ≤ κ → T.place κ = none) (h : (List.range n).all (blkOkB T) = true) :
  ∀ κ f p fn c c', T.place κ = some (f, p) → T.fn f = some fn → fn.body = some c → cut p c = some c' → blkB T κ f fn p c' = true := by
 intro κ f p fn c c' h1 h2 h3 h4
 by_cases hκ : n ≤ κ
 · rw [h0 κ hκ] at h1; cases h1
 · have := List.all_eq_true.1 h κ (List.mem_range.2 (by omega))
   simpa only [blkOkB, h1, h2, h3, h4] using this
def fnOkB (T : Tbl) (f : Nat) (fn : Func) : Bool := match fn.body with
 | some c => fnB T f fn c && !(fn.name == "runtime.NumGoroutine")
 | none => false
theorem fn_ok {P : Program} {T : Tbl} {f g : Nat} {fn : Func} (h1 : P.funcs[g]? = some fn) (h2 : fnOkB T f fn = true) : P.funcs[g]? = some fn ∧ (fn.name == "runtime.NumGoroutine") = false ∧ ∃ c, fn.body = some c ∧ fnB T f fn c = true := by
 unfold fnOkB at h2
 split at h2
 · rename_i c hc
   simp only [Bool.and_eq_true, Bool.not_eq_true'] at h2
   exact ⟨h1, h2.2, c, hc, h2.1⟩
 · cases h2
end Go.Bm
