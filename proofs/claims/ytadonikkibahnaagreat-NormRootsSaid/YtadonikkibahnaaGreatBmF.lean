import Derived.Test.YtadonikkibahnaaGreatBmG
import Derived.ProofKit
import Derived.Carry
import Derived.Laws.StructEq
import Derived.IntWalk
section
namespace Go.Bm
open Go.ChangeShapes Go.WideShapes Go.ChangeAt Go.RowKit
set_option linter.unusedVariables false
set_option linter.unusedSimpArgs false
def CT.fits : (t : CT) → t.denote → Prop
 | .int k, x => k.min ≤ x ∧ x ≤ k.max
 | .str, s => List.length (α := UInt8) s ≤ maxLen
 | .list e, l => List.length (α := e.denote) l ≤ maxLen ∧ ∀ y ∈ (l : List e.denote), e.fits y
 | .prod a b, x => a.fits x.1 ∧ b.fits x.2
 | _, _ => True
def fieldsOf (P : Program) (g : TypeId → Option (List CT)) : Nat → List Field → Option (List CT)
 | _, [] => some []
 | off, f :: r => match g f.type with
   | some l => match fieldsOf P g (off + l.length) r with
     | some m => if f.offset = off ∧ P.cellsOf f.type = l.length then some (l ++ m) else none
     | none => none
   | none => none
def ctOf (P : Program) : Nat → TypeId → Option (List CT)
 | 0, _ => none
 | n + 1, t => match P.underlying t with
   | some (.int k) => some [.int k]
   | some .bool => some [.bool]
   | some .string => some [.str]
   | some (.slice e) => match ctOf P n e with
     | some (a :: l) => if P.cellsOf e = l.length + 1 then some [.list (prods (a :: l))] else none
     | _ => none
   | some (.struct fs) => match fieldsOf P (ctOf P n) 0 fs.toList with
     | some l => if P.cellsOf t = l.length then some l else none
     | none => none
   | _ => none
section
variable {H : Type} {enc : TypeId × Value → H} {P : Program} {W W' : World} {base : Nat} {spare : Nat → Bool} {held : Bool}
theorem fieldsOf_leaf {g : TypeId → Option (List CT)} (hg : ∀ t l, g t = some l → ∀ c ∈ l, c.size = 1 ∧ c.leaf = true) : ∀ {fs : List Field} {off : Nat} {l : List CT}, fieldsOf P g off fs = some l → ∀ c ∈ l, c.size = 1 ∧ c.leaf = true
 | [], off, l, h, c, hc => by simp [fieldsOf] at h; subst h; cases hc
 | f :: r, off, l, h, c, hc => by
   simp only [fieldsOf] at h
   split at h
   case h_2 => cases h
   rename_i l1 h1
   split at h
   case h_2 => cases h
   rename_i m h2
   split at h
   case isFalse => cases h
   cases h
   rcases List.mem_append.1 hc with hc | hc
   · exact hg _ _ h1 c hc
   · exact fieldsOf_leaf hg h2 c hc
theorem ctOf_leaf : ∀ {n : Nat} {t : TypeId} {l : List CT}, ctOf P n t = some l → ∀ c ∈ l, c.size = 1 ∧ c.leaf = true
 | 0, t, l, h, c, hc => by cases h
 | n + 1, t, l, h, c, hc => by
   simp only [ctOf] at h
   split at h
   · cases h; simp at hc; subst hc; exact ⟨rfl, rfl⟩
   · cases h; simp at hc; subst hc; exact ⟨rfl, rfl⟩
   · cases h; simp at hc; subst hc; exact ⟨rfl, rfl⟩
   · split at h
     · split at h
       · cases h; simp at hc; subst hc; exact ⟨rfl, rfl⟩
       · cases h
     · cases h
   · split at h
     · rename_i l' hl
       split at h
       · cases h; exact fieldsOf_leaf (fun t l h => ctOf_leaf h) hl c hc
       · cases h
     · cases h
   · cases h
theorem prods_size : ∀ {l : List CT}, (∀ c ∈ l, c.size = 1) → (prods l).size = l.length
 | [], _ => rfl
 | [a], h => h a (by simp)
 | a :: b :: r, h => by
   have := prods_size (l := b :: r) (fun c hc => h c (List.mem_cons_of_mem _ hc))
   show 1 + (prods (b :: r)).size = _
   rw [this]; simp; omega
def CellOk (W : World) (c : CT) (v : Value) : Prop := ∃ y : c.denote, VC W (fun b => b < W.heap.size) c y [v] ∧ c.fits y
theorem join_cells : ∀ {l : List CT} {cs : List Value}, cs.length = l.length → (∀ (i : Nat) (c : CT) (v : Value), l[i]? = some c → cs[i]? = some v → CellOk W c v) → ∃ x : (prods l).denote, VC W (fun b => b < W.heap.size) (prods l) x cs ∧ (prods l).fits x
 | [], cs, hl, _ => ⟨(), List.eq_nil_of_length_eq_zero (by simpa using hl), trivial⟩
 | [a], cs, hl, h => by
   match cs, hl with
   | [v], _ => exact h 0 a v rfl rfl
 | a :: b :: r, cs, hl, h => by
   match cs, hl with
   | v :: vs, hl =>
     obtain ⟨x, h1, h2⟩ := h 0 a v rfl rfl
     obtain ⟨y, h3, h4⟩ := join_cells (l := b :: r) (cs := vs) (by simpa using hl) (fun i c u hi hu => h (i + 1) c u (by simpa using hi) (by simpa using hu))
     exact ⟨(x, y), ⟨v, vs, rfl, h1, h3⟩, h2, h4⟩
theorem finite_choice {α : Type} {p : Nat → α → Prop} : ∀ (n : Nat), (∀ i, i < n → ∃ x, p i x) → ∃ l : List α, l.length = n ∧ ∀ i x, nth l i = some x → p i x
 | 0, _ => ⟨[], rfl, fun i x h => by simp [nth] at h⟩
 | n + 1, h => by
   obtain ⟨l, h1, h2⟩ := finite_choice n (fun i hi => h i (by omega))
   obtain ⟨y, hy⟩ := h n (by omega)
   refine ⟨l ++ [y], by simp [h1], fun i x hx => ?_⟩
   rw [nth_getElem?] at hx
   rcases Nat.lt_or_ge i l.length with hi | hi
   · rw [List.getElem?_append_left hi] at hx
     exact h2 i x (by rw [nth_getElem?]; exact hx)
   · rw [List.getElem?_append_right hi] at hx
     have : i - l.length = 0 := by
      have := (List.getElem?_eq_some_iff.1 hx).1
      simp at this; omega
     rw [this] at hx
     simp at hx
     subst hx
     have : i = n := by omega
     subst this
     exact hy
theorem cells_at {a : Addr} {n : Nat} {cs : List Value} (h : W.cells? base a n = some cs) : cs.length = n ∧ ∀ i, i < n → W.cell? (a.add i) = cs[i]? := by
 unfold World.cells? at h
 split at h
 · refine ⟨by have := mapM_some_length h; simpa using this, fun i hi => ?_⟩
   exact mapM_some_get h i i (by simp [hi])
 · cases h
theorem cell_spot {a : Addr} {v : Value} (h : W.cell? a = some v) : a.spot = none ∧ a.block < W.heap.size := by
 unfold World.cell? at h
 split at h
 · rename_i c t f hb
   split at h
   · cases h
   · rename_i hs
     exact ⟨by cases hsp : a.spot <;> simp [hsp] at hs ⊢, (Array.getElem?_eq_some_iff.1 hb).1⟩
 · cases h
theorem read_cells : ∀ {n : Nat} {t : TypeId} {l : List CT} {fuel : Nat} {cs : List Value} {x : DataW H × List MemPlace}, ctOf P n t = some l → DataW.trod enc P W base spare held fuel t cs = some x →
  cs.length = l.length ∧ ∀ (i : Nat) (c : CT) (v : Value), l[i]? = some c → cs[i]? = some v → CellOk W c v
 | 0, t, l, fuel, cs, x, h, _ => by cases h
 | n + 1, t, l, fuel, cs, x, h, hx => by
   simp only [ctOf] at h
   split at h
   · rename_i k ht
     cases h
     obtain ⟨z, rfl, _, hw⟩ := DataW.trod_int ht hx
     refine ⟨rfl, fun i c v hi hv => ?_⟩
     match i, hi, hv with
     | 0, hi, hv =>
       simp at hi hv; subst hi; subst hv
       simp only [Lit.wf, Bool.and_eq_true, decide_eq_true_eq] at hw
       exact ⟨z, rfl, hw⟩
     | i + 1, hi, _ => simp at hi
   · rename_i ht
     cases h
     obtain ⟨z, rfl, _⟩ := DataW.trod_bool ht hx
     refine ⟨rfl, fun i c v hi hv => ?_⟩
     match i, hi, hv with
     | 0, hi, hv => simp at hi hv; subst hi; subst hv; exact ⟨z, rfl, trivial⟩
     | i + 1, hi, _ => simp at hi
   · rename_i ht
     cases h
     obtain ⟨z, rfl, _, hw⟩ := DataW.trod_string ht hx
     refine ⟨rfl, fun i c v hi hv => ?_⟩
     match i, hi, hv with
     | 0, hi, hv => simp at hi hv; subst hi; subst hv; exact ⟨z.data.toList, ⟨z, rfl, rfl⟩, by simpa [CT.fits] using hw⟩
     | i + 1, hi, _ => simp at hi
   · rename_i e ht
     split at h
     case h_2 => cases h
     rename_i a' l' hl
     split at h
     case isFalse => cases h
     rename_i hce
     cases h
     have hleaf := ctOf_leaf hl
     have hsz : (prods (a' :: l')).size = l'.length + 1 := by rw [prods_size (fun c hc => (hleaf c hc).1)]; rfl
     rcases DataW.trod_slice ht hx with ⟨rfl, _⟩ | ⟨a, len, cap, elems, rest, m, _, rfl, _, hb, hlc, hcm, hel, hels, _⟩
     · refine ⟨rfl, fun i c v hi hv => ?_⟩
       match i, hi, hv with
       | 0, hi, hv => simp at hi hv; subst hi; subst hv; exact ⟨[], ⟨none, 0, rfl, Nat.le_refl _, .inl rfl⟩, by simp [CT.fits]⟩
       | i + 1, hi, _ => simp at hi
     · refine ⟨rfl, fun i c v hi hv => ?_⟩
       match i, hi, hv with
       | i + 1, hi, _ => simp at hi
       | 0, hi, hv =>
       simp at hi hv; subst hi; subst hv
       have each : ∀ i, i < len → ∃ y : (prods (a' :: l')).denote, (∃ us, cellsAt W a.block (a.off + i * (l'.length + 1)) us ∧ VC W (fun b => b < W.heap.size) (prods (a' :: l')) y us) ∧ (prods (a' :: l')).fits y ∧ a.spot = none ∧ a.block < W.heap.size := by
        intro i hi
        have he := hels i hi
        have : elems[i]? = some elems[i] := List.getElem?_eq_getElem (by omega)
        rw [this] at he
        obtain ⟨cs, hcs, htr⟩ := Option.bind_eq_some_iff.1 he
        obtain ⟨h1, h2⟩ := cells_at hcs
        obtain ⟨h3, h4⟩ := read_cells hl htr
        obtain ⟨y, h5, h6⟩ := join_cells h3 h4
        rw [hce] at h1
        have h0 : W.cell? ((a.add (i * P.cellsOf e)).add 0) = cs[0]? := h2 0 (by omega)
        have h00 : cs[0]? = some cs[0] := List.getElem?_eq_getElem (by omega)
        rw [h00] at h0
        have hadd0 : (a.add (i * P.cellsOf e)).add 0 = a.add (i * P.cellsOf e) := by simp [Addr.add]
        rw [hadd0] at h0
        obtain ⟨k1, k2⟩ := cell_spot h0
        have hspot : a.spot = none ∨ i * P.cellsOf e ≠ 0 := by
         by_cases hz : i * P.cellsOf e = 0
         · left; rw [hz] at k1; simpa [Addr.add] using k1
         · right; exact hz
        have hbk : (a.add (i * P.cellsOf e)).block = a.block := by unfold Addr.add; split <;> rfl
        rw [hbk] at k2
        have hsp0 : a.spot = none := by
         rcases hspot with g | g
         · exact g
         · have he0 := hels 0 (by omega)
           have : elems[0]? = some elems[0] := List.getElem?_eq_getElem (by omega)
           rw [this] at he0
           obtain ⟨cs0, hcs0, _⟩ := Option.bind_eq_some_iff.1 he0
           obtain ⟨q1, q2⟩ := cells_at hcs0
           have q3 := q2 0 (by omega)
           have : cs0[0]? = some (cs0[0]'(by omega)) := List.getElem?_eq_getElem (by omega)
           rw [this] at q3
           have := (cell_spot q3).1
           simpa [Addr.add] using this
        refine ⟨y, ⟨cs, ?_, h5⟩, h6, hsp0, k2⟩
        refine cellsAt_of _ _ _ fun j v hj => ?_
        have hjl : j < l'.length + 1 := by have := (List.getElem?_eq_some_iff.1 hj).1; omega
        have := h2 j (by omega)
        rw [hj] at this
        obtain ⟨ab, ao, as⟩ := a
        simp only at hsp0
        subst hsp0
        rw [Addr.add0, Addr.add0] at this
        rw [← this, hce]
       obtain ⟨ys, g1, g2⟩ := finite_choice len each
       refine ⟨ys, ⟨some a, cap, by rw [g1], by omega, ?_⟩, show List.length ys ≤ maxLen by rw [g1]; omega, fun y hy => ?_⟩
       · by_cases h0 : len = 0
         · left; exact List.eq_nil_of_length_eq_zero (by omega)
         · right
           obtain ⟨_, _, _, k1, k2⟩ := each 0 (by omega)
           refine ⟨a.block, a.off, ?_, k2, fun i x hx => ?_⟩
           · obtain ⟨ab, ao, as⟩ := a; simp only at k1; subst k1; rfl
           · obtain ⟨⟨us, u1, u2⟩, _⟩ := g2 i x hx
             exact ⟨us, by rw [hsz]; exact u1, u2⟩
       · obtain ⟨i, hi⟩ := List.mem_iff_getElem?.1 hy
         exact (g2 i y (by rw [nth_getElem?]; exact hi)).2.1
   · rename_i fs ht
     split at h
     case h_2 => cases h
     rename_i l' hl
     split at h
     case isFalse => cases h
     rename_i hce
     cases h
     obtain ⟨xs, m, _, _, hlen, hxl, hfs⟩ := DataW.trod_struct ht hx
     refine ⟨by omega, ?_⟩
     have go : ∀ (fl : List Field) (off j : Nat) (l : List CT), (∀ (i : Nat) (f : Field), fl[i]? = some f → fs[j + i]? = some f) → fieldsOf P (ctOf P n) off fl = some l → off + l.length ≤ cs.length → ∀ (i : Nat) (c : CT) (v : Value), l[i]? = some c → cs[off + i]? = some v → CellOk W c v := by
      intro fl
      induction fl with
      | nil => intro off j l _ h _ i c v hi; simp [fieldsOf] at h; subst h; simp at hi
      | cons f r ih =>
        intro off j l hfl h hle i c v hi hv
        simp only [fieldsOf] at h
        split at h
        case h_2 => cases h
        rename_i l1 h1
        split at h
        case h_2 => cases h
        rename_i l2 h2
        split at h
        case isFalse => cases h
        rename_i hc
        cases h
        simp only [List.length_append] at hle
        by_cases hil : i < l1.length
        · rw [List.getElem?_append_left hil] at hi
          have hf0 := hfl 0 f rfl
          have hjx : j < fs.size := (Array.getElem?_eq_some_iff.1 hf0).1
          have htr := hfs j f hf0
          have : xs[j]? = some xs[j] := List.getElem?_eq_getElem (by omega)
          rw [this] at htr
          refine (read_cells h1 htr).2 i c v hi ?_
          rw [List.getElem?_take, if_pos (by omega), List.getElem?_drop, hc.1]
          exact hv
        · rw [List.getElem?_append_right (by omega)] at hi
          refine ih (off + l1.length) (j + 1) l2 (fun i f hf => ?_) h2 (by omega) (i - l1.length) c v hi ?_
          · have := hfl (i + 1) f (by simpa using hf)
            rwa [show j + (i + 1) = j + 1 + i by omega] at this
          · rw [show off + l1.length + (i - l1.length) = off + i by omega]; exact hv
     intro i c v hi hv
     exact go fs.toList 0 0 _ (fun i f hf => by rw [Nat.zero_add]; simpa using hf) hl (by omega) i c v hi (by rw [Nat.zero_add]; exact hv)
   · cases h
def argS (P : Program) (t : TypeId) : Option SlT := match ctOf P 12 t with
 | some l => match P.underlying t with
   | some (.struct _) => some (.agg [.pl (prods l)])
   | some _ => match l with
     | [c] => some (.one (.pl c))
     | _ => none
   | none => none
 | none => none
def argSs (P : Program) : List TypeId → Option (List SlT)
 | [] => some []
 | t :: r => match argS P t, argSs P r with
   | some a, some b => some (a :: b)
   | _, _ => none
def DsFit : List Dyn → Prop
 | [] => True
 | d :: r => d.t.fits d.x ∧ DsFit r
theorem unpack1_one {c : CT} (h : c.leaf = true) (y : c.denote) : unpackL c y = [unpack1 c y] := by
 cases c <;> first | rfl | cases h
theorem arg_sound {γ : Loc} {r : Reach} {b0 : Nat} {t : TypeId} {v : Value} {d : DataW H} {ps : List MemPlace} {sl : SlT} (hs : argS P t = some sl) (hv : Value.okWide P W r b0 t v) (h : DataW.Trod enc P W base spare held t v d ps) :
  ∃ dy : Dyn, sl.cts = [dy.t] ∧ dy.t.fits dy.x ∧ ∀ rest, (instSl sl (dy :: rest)).2 = rest ∧ SVR W (fun b => b < W.heap.size) γ [] (instSl sl (dy :: rest)).1 v := by
 unfold argS at hs
 split at hs
 case h_2 => cases hs
 rename_i l hl
 obtain ⟨fuel, hf⟩ := h
 obtain ⟨h1, h2⟩ := read_cells hl hf
 split at hs
 · rename_i fs hu
   cases hs
   obtain ⟨cs, rfl, hcs⟩ := okWide_struct hu hv
   obtain ⟨x, g1, g2⟩ := join_cells h1 h2
   exact ⟨⟨prods l, x⟩, rfl, g2, fun rest => ⟨rfl, cs, rfl, by simpa [instSl, instLs, instL, Value.cells] using unpackL_LfRs (β := γ) (hp := []) (prods l) x _ g1⟩⟩
 · rename_i td hne hu
   split at hs
   case h_2 => cases hs
   rename_i c
   cases hs
   have hleaf := (ctOf_leaf hl c (by simp)).2
   have hone : v.cells.toList = [v] := by
    have hl' := hl
    simp only [ctOf, hu] at hl'
    cases td with
    | int k => obtain ⟨n, rfl⟩ := okWide_int hu hv; rfl
    | bool => obtain ⟨n, rfl⟩ := okWide_bool hu hv; rfl
    | string => obtain ⟨n, rfl⟩ := okWide_string hu hv; rfl
    | slice e => obtain ⟨a, len, cap, rfl⟩ := okWide_slice hu hv; rfl
    | struct fs => exact (hne fs rfl).elim
    | _ => simp at hl'
   rw [hone] at h2
   obtain ⟨y, g1, g2⟩ := h2 0 c v rfl rfl
   refine ⟨⟨c, y⟩, rfl, g2, fun rest => ⟨rfl, ?_⟩⟩
   have := unpack1_LfR (β := γ) (hp := []) c y v g1
   simp only [instSl, instL, unpack1_one hleaf, headL]
   exact this
 · cases hs
theorem args_sound {γ : Loc} {r : Reach} {b0 : Nat} : ∀ {ts : List TypeId} {vs : List Value} {ds : List (DataW H)} {ps : List MemPlace} {sls : List SlT}, argSs P ts = some sls → (∀ (j : Nat) t v, ts[j]? = some t → vs[j]? = some v → Value.okWide P W r b0 t v) → DataW.TrodAll enc P W base spare held ts vs ds ps →
  ∃ dys : List Dyn, slCts sls = dys.map (·.t) ∧ DsFit dys ∧ SVRs W (fun b => b < W.heap.size) γ [] (instSls sls dys).1 vs
 | [], [], [], ps, sls, hs, _, h => by simp [argSs] at hs; subst hs; exact ⟨[], rfl, trivial, rfl⟩
 | [], [], _ :: _, ps, sls, hs, _, h => h.elim
 | t :: ts, v :: vs, d :: ds, ps, sls, hs, hv, h => by
   obtain ⟨p, q, h1, h2, rfl⟩ := h
   simp only [argSs] at hs
   split at hs
   case h_2 => cases hs
   rename_i sl sls' hsl hsls
   cases hs
   obtain ⟨dy, e1, e2, e3⟩ := arg_sound (γ := γ) hsl (hv 0 t v rfl rfl) h1
   obtain ⟨dys, f1, f2, f3⟩ := args_sound (γ := γ) hsls (fun j t v ht hv' => hv (j + 1) t v (by simpa using ht) (by simpa using hv')) h2
   refine ⟨dy :: dys, by simp [slCts, e1, f1], ⟨e2, f2⟩, ?_⟩
   obtain ⟨k1, k2⟩ := e3 dys
   simp only [instSls, k1]
   exact ⟨v, vs, rfl, k2, f3⟩
 | [], _ :: _, ds, ps, sls, _, _, h => h.elim
 | _ :: _, [], ds, ps, sls, _, _, h => h.elim
 | _ :: _, _ :: _, [], ps, sls, _, _, h => h.elim
theorem toD_some : ∀ {ts : List CT} {ds : List Dyn}, ts = ds.map (·.t) → ∃ d, toD ts ds = some d
 | [], [], _ => ⟨(), rfl⟩
 | [], _ :: _, h => by simp at h
 | [a], [], h => by simp at h
 | [a], [x], h => by simp at h; subst h; exact ⟨x.x, by simp [toD]⟩
 | [a], _ :: _ :: _, h => by simp at h
 | a :: b :: r, [], h => by simp at h
 | a :: b :: r, x :: ds, h => by
   simp only [List.map_cons, List.cons.injEq] at h
   obtain ⟨rfl, h⟩ := h
   obtain ⟨d, hd⟩ := toD_some h
   exact ⟨(x.x, d), by simp only [toD, dite_true, hd]⟩
def LawOk (T : Tbl) (φ : Nat) : Prop := ∀ d : (T.kin φ).ct.denote, DsFit (fromD (T.kin φ).cts d) → ∃ y, T.rf φ d = some y ∧ OutR (fun T' ds' => T'.objs = [] ∧ T'.slots = [.one (.pl .bool)] ∧ ds' = [⟨.bool, true⟩]) (T.kouts φ) y
theorem law_run {T : Tbl} (hT : T.Ok P) {f φ : Nat} (hφ : φ ∈ T.keys f) (hl : LawOk T φ) {ts : List TypeId} {vs : List Value} {ds : List (DataW H)} {ps : List MemPlace} (hs : argSs P ts = some (T.kin φ).slots) (ho : (T.kin φ).objs = []) {r : Reach} {b0 : Nat}
  (hv : ∀ (j : Nat) t v, ts[j]? = some t → vs[j]? = some v → Value.okWide P W r b0 t v) (h : DataW.TrodAll enc P W base spare held ts vs ds ps) (hg : T.gp W (fun b => b < W.heap.size) := by exact trivial) :
  Calls P f vs.toArray W fun e W' => e = .returned (.bool true) ∧ Same W (fun _ => False) W' := by
 obtain ⟨dys, e1, e2, e3⟩ := args_sound (γ := fun _ => none) hs hv h
 have hcts : (T.kin φ).cts = dys.map (·.t) := by simp [Tm.cts, ho, obCts, e1]
 obtain ⟨d, hd⟩ := toD_some hcts
 have hfd := toD_from hd
 obtain ⟨y, hy, hout⟩ := hl d (by rw [hfd]; exact e2)
 have hi : InstR W (fun b => b < W.heap.size) (T.kin φ) (fromD (T.kin φ).cts d) vs (fun _ => none) := by
  have hheap : (T.kin φ).heap (fromD (T.kin φ).cts d) = [] := by simp [Tm.heap, ho, instObs]
  refine ⟨?_, ?_⟩
  · rw [hheap, hfd]
    simpa [Tm.vals, ho, instObs] using e3
  · rw [hheap]
    exact ⟨fun _ _ h => (by cases h), fun _ _ h => (by cases h), fun _ _ h => (by cases h), fun _ _ _ _ _ _ _ h => (by cases h), fun _ _ _ h => (by cases h), fun _ h => h, fun _ _ _ h => (by cases h), fun _ _ _ _ _ h => (by cases h)⟩
 refine (Tbl.sound hT hy hφ hg hi).mono fun e W' ⟨Φ', γ', rs, he, ho'⟩ => ?_
 have both : ∀ (l : List Tm) (y : (outsT l).denote), OutR (fun T' ds' => InstR W' Φ' T' ds' rs γ' ∧ PostR W (fun b => b < W.heap.size) (fun _ => none) (T.kin φ) (fromD (T.kin φ).cts d) W' Φ' γ' T' ds') l y →
   OutR (fun T' ds' => T'.objs = [] ∧ T'.slots = [.one (.pl .bool)] ∧ ds' = [⟨.bool, true⟩]) l y → retVal rs = .bool true ∧ Same W (fun _ => False) W' := by
  intro l
  have one : ∀ T' ds', InstR W' Φ' T' ds' rs γ' ∧ PostR W (fun b => b < W.heap.size) (fun _ => none) (T.kin φ) (fromD (T.kin φ).cts d) W' Φ' γ' T' ds' → (T'.objs = [] ∧ T'.slots = [.one (.pl .bool)] ∧ ds' = [⟨.bool, true⟩]) → retVal rs = .bool true ∧ Same W (fun _ => False) W' := by
   rintro T' ds' ⟨h1, h2⟩ ⟨k1, k2, k3⟩
   subst k3
   have hvals := h1.vals
   simp only [Tm.vals, k1, k2, instObs] at hvals
   obtain ⟨v, vs', e, g1, g2⟩ := hvals
   cases g2
   subst e
   refine ⟨g1, h2.same.os, h2.same.tape, h2.same.output, h2.same.size, fun b hb _ => h2.same.block b hb ?_⟩
   rintro (⟨id, ob, p, _, _, h⟩ | ⟨id, ob, h, _⟩)
   · cases h
   · simp [Tm.heap, ho, instObs, look] at h
  induction l with
  | nil => intro y h; exact h.elim
  | cons T' l ih =>
    cases l with
    | nil => intro y h k; exact one _ _ h k
    | cons T2 l =>
      intro y h k
      cases y with
      | inl a => exact one _ _ h k
      | inr c => exact ih c h k
 obtain ⟨g1, g2⟩ := both _ _ ho' hout
 exact ⟨by rw [he, g1], g2⟩
theorem trodAll_len : ∀ {ts : List TypeId} {vs : List Value} {ds : List (DataW H)} {ps : List MemPlace}, DataW.TrodAll enc P W base spare held ts vs ds ps → ds.length = ts.length
 | [], [], [], ps, h => rfl
 | [], [], _ :: _, ps, h => h.elim
 | t :: ts, v :: vs, d :: ds, ps, h => by
   obtain ⟨p, q, h1, h2, rfl⟩ := h
   simp [trodAll_len h2]
 | [], _ :: _, ds, ps, h => h.elim
 | _ :: _, [], ds, ps, h => h.elim
 | _ :: _, _ :: _, [], ps, h => h.elim
theorem Same.below {own : Nat → Prop} (h : Same W own W') (ho : ∀ b, ¬ own b) : Below W.heap.size W W' :=
 ⟨h.os, h.tape, h.output, h.size, fun b hb => h.block b hb (ho b)⟩
theorem trodAll_below (hl : laidOutB P = true) (hb : Below W.heap.size W W') : ∀ {ts : List TypeId} {vs : List Value} {ds : List (DataW H)} {ps : List MemPlace}, (ts.all fun t => P.readableRec t && Nat.blt t P.types.size) = true →
  DataW.TrodAll enc P W 0 (fun _ => true) true ts vs ds ps → (∀ x ∈ ps, x.block < W.heap.size) → DataW.TrodAll enc P W' 0 (fun b => decide (b < W.heap.size)) true ts vs ds ps
 | [], [], [], ps, _, h, _ => h
 | [], [], _ :: _, ps, _, h, _ => h.elim
 | t :: ts, v :: vs, d :: ds, ps, hr, h, hlt => by
   simp only [List.all_cons, Bool.and_eq_true] at hr
   obtain ⟨p, q, h1, h2, rfl⟩ := h
   exact ⟨p, q, Below.trod hl hr.1.1 (by rw [← Nat.blt_eq]; exact hr.1.2) h1 hb (fun x hx => hlt x (List.mem_append_left _ hx)), trodAll_below hl hb hr.2 h2 (fun x hx => hlt x (List.mem_append_right _ hx)), rfl⟩
 | [], _ :: _, ds, ps, _, h, _ => h.elim
 | _ :: _, [], ds, ps, _, h, _ => h.elim
 | _ :: _, _ :: _, [], ps, _, h, _ => h.elim
theorem post_true {f : Func} {s : ChangeSpec} {args : Array Value} {ds gs : List (DataW H)} {before : List MemPlace} {tb : TypeId} (hl : laidOutB P = true)
  (hr : (f.params.toList.all fun t => P.readableRec t && Nat.blt t P.types.size) = true) (hrt : f.resultTypes.toList = [tb]) (htb : P.underlying tb = some .bool) (hv : s.vars = [])
  (hW : DataW.Whole enc P f.params.toList s.vars false W args.toList ds gs before)
  (hfn : s.fn H (ds ++ gs) = { results := [.lit (.bool true)], args := ds }) {own : Nat → Prop} (hs : Same W own W') (ho : ∀ b, ¬ own b) :
  s.post enc P f false true false false W args (.bool true) W' := by
 have hlt : ∀ p ∈ before, p.block < W.heap.size := fun p hp => by simpa using hW.lt p hp
 have hW' := hW
 obtain ⟨p, q, hA, hV, rfl, hfz, hnd⟩ := hW
 rw [hv] at hV
 obtain ⟨hg, hq⟩ := trodVars_none hV
 subst hq
 simp only [List.append_nil] at hlt
 have hbel := hs.below ho
 have hrl : f.resultTypes.size = 1 := by rw [← Array.length_toList, hrt]; rfl
 refine ⟨ds, gs, _, [], p, [], hW', ?_, ?_, ?_, ?_, fun h => by cases h⟩
 · rw [hfn, hrt, hrl]
   exact trodAll_mk1 ⟨1, by simp [DataW.trod, Value.cells, htb]⟩
 · rw [hfn]
   exact trodAll_below hl hbel hr hA hlt
 · rw [hfn, hv]
   rfl
 · refine ⟨hbel.os, hbel.output, fun i hi => ?_⟩
   rw [hbel.block i hi]
   cases W.heap[i]? with
   | none => trivial
   | some o => cases o <;> simp
end
def blkOkB (T : Tbl) (κ : Nat) : Bool := match T.place κ with
 | some (f, p) => match T.fn f with
   | some fn => match fn.body with
     | some c => match cut p c with
       | some c' => blkB T κ f fn p c'
       | none => true
     | none => true
   | none => true
 | none => true
theorem Tbl.ok_blk {T : Tbl} (n : Nat) (h0 : ∀ κ, n ≤ κ → T.place κ = none) (h : (List.range n).all (blkOkB T) = true) :
  ∀ κ f p fn c c', T.place κ = some (f, p) → T.fn f = some fn → fn.body = some c → cut p c = some c' → blkB T κ f fn p c' = true := by
 intro κ f p fn c c' h1 h2 h3 h4
 by_cases hκ : n ≤ κ
 · rw [h0 κ hκ] at h1; cases h1
 · have := List.all_eq_true.1 h κ (List.mem_range.2 (by omega))
   simpa only [blkOkB, h1, h2, h3, h4] using this
def fnOkB (T : Tbl) (f : Nat) (fn : Func) : Bool := match fn.body with
 | some c => fnB T f fn c && !(fn.name == "runtime.NumGoroutine")
 | none => false
theorem fn_ok {P : Program} {T : Tbl} {f g : Nat} {fn : Func} (h1 : P.funcs[g]? = some fn) (h2 : fnOkB T f fn = true) : P.funcs[g]? = some fn ∧ (fn.name == "runtime.NumGoroutine") = false ∧ ∃ c, fn.body = some c ∧ fnB T f fn c = true := by
 unfold fnOkB at h2
 split at h2
 · rename_i c hc
   simp only [Bool.and_eq_true, Bool.not_eq_true'] at h2
   exact ⟨h1, h2.2, c, hc, h2.1⟩
 · cases h2
end Go.Bm
end
section
open Bool (and_eq_true)
namespace Go.Bm
set_option linter.unusedVariables false
set_option linter.unusedSimpArgs false
def coB : Leaf → Value → Bool
 | .int k x, .int k' x' => decide (k = k') && decide (x = x')
 | .bool b, .bool b' => b == b'
 | .str x, .string s => decide (s.data.toList = x)
 | .nils, .slice none 0 0 => true
 | .nilp, .pointer none => true
 | .nilf, .nilFunc => true
 | .nili, .nilIface => true
 | .nilm, .map none => true
 | .undef, _ => true
 | _, _ => false
def coBs : List Leaf → List Value → Bool
 | [], [] => true
 | l :: ls, v :: vs => coB l v && coBs ls vs
 | _, _ => false
theorem coB_spec {l : Leaf} {v : Value} (h : coB l v = true) : CoR l v := by
 unfold coB at h
 split at h
 · simp only [and_eq_true, decide_eq_true_eq] at h; obtain ⟨rfl, rfl⟩ := h; rfl
 · have := eq_of_beq h; subst this; rfl
 · exact ⟨_, rfl, of_decide_eq_true h⟩
 · rfl
 · rfl
 · rfl
 · rfl
 · rfl
 · trivial
 · cases h
theorem coBs_spec : ∀ {l : List Leaf} {v : List Value}, coBs l v = true → CoRs l v
 | [], [], _ => rfl
 | [], _ :: _, h => by cases h
 | _ :: _, [], h => by cases h
 | l :: ls, v :: vs, h => by
   simp only [coBs, and_eq_true] at h
   exact ⟨v, vs, rfl, coB_spec h.1, coBs_spec h.2⟩
def zeroAtB (P : Program) (t : TypeId) (zs : List Leaf) : Bool := match P.info? t with
 | some i => match i.zero with
   | some z => Nat.beq i.size zs.length && coBs zs z.cells.toList
   | none => false
 | none => false
theorem zeroAtB_spec {P : Program} {t : TypeId} {zs : List Leaf} (h : zeroAtB P t zs = true) : zeroAt P t zs := by
 unfold zeroAtB at h
 split at h
 case h_2 => cases h
 rename_i i hi
 split at h
 case h_2 => cases h
 rename_i z hz
 simp only [and_eq_true] at h
 exact ⟨i, z, hi, Nat.eq_of_beq_eq_true h.1, hz, coBs_spec h.2⟩
def leafB : Leaf → TypeDesc → Bool
 | .int k _, d => match d with
   | .int k' => decide (k' = k)
   | _ => false
 | .str _, d => match d with
   | .string => true
   | _ => false
 | .bool _, d => match d with
   | .bool => true
   | _ => false
 | .nilp, d => match d with
   | .interface _ => false
   | _ => true
 | _, _ => true
def keyB : CT → TypeDesc → Bool
 | .int k, .int k' => decide (k' = k)
 | .bool, .bool => true
 | .str, .string => true
 | _, _ => false
def aggB (agg : Bool) : Value → Bool
 | .agg _ => agg
 | _ => !agg
def tdOkB (P : Program) (t : TypeId) : TD → Bool
 | .leaf z => zeroAtB P t [z] && (match P.underlying t with
   | some d => !isAggD d && leafB z d
   | none => false)
 | .struct fs zs => zeroAtB P t zs && (match P.underlying t with
   | some (.struct fields) => decide (fields.toList.map (fieldOf P) = fs.map some) && fs.all fun f => !Nat.beq f.2.1 0
   | _ => false)
 | .slice e en => zeroAtB P t [.nils] && (match P.underlying t with
   | some (.slice en') => Nat.beq en' en && (match P.info? en with
     | some i => match i.zero with
       | some z => Nat.ble i.bytes 512 && (if e = .unit then Nat.beq i.size 1 else Nat.beq i.size e.size && (e.wf && (Nat.blt 0 e.size && (coBs (zerosOf e) z.cells.toList && Nat.beq z.cells.size e.size))))
       | none => false
     | none => false)
   | _ => false)
 | .arr e n agg zs => zeroAtB P t zs && (Nat.beq zs.length (n * e.size) && (Nat.blt 0 e.size && (match P.underlying t with
   | some (.array n' en) => Nat.beq n' n && ((match P.underlying en with
     | some d => isAggD d == agg
     | none => false) && (match P.info? en with
     | some i => Nat.beq i.size e.size
     | none => false))
   | _ => false)))
 | .map k v agg => zeroAtB P t [.nilm] && (match P.underlying t with
   | some (.map kt et) => (match P.underlying kt with
     | some d => keyB k d
     | none => false) && (match P.info? et with
     | some i => match i.zero with
       | some z => v.wf && (coBs (zerosOf v) z.cells.toList && (aggB agg z && (agg || Nat.beq v.size 1)))
       | none => false
     | none => false)
   | _ => false)
theorem keyB_spec {c : CT} {d : TypeDesc} (h : keyB c d = true) : keyD c d := by
 unfold keyB at h
 split at h
 · rw [← of_decide_eq_true h]; rfl
 · rfl
 · rfl
 · cases h
theorem aggB_spec {agg : Bool} {z : Value} (h : aggB agg z = true) : z = valOf agg z.cells.toList := by
 unfold aggB at h
 cases z <;> cases agg <;> first | (cases h; done) | simp [valOf, Value.cells]
theorem tdOkB_spec {P : Program} {t : TypeId} : ∀ {td : TD}, tdOkB P t td = true → TdOk P t td
 | .leaf z, h => by
   simp only [tdOkB, and_eq_true] at h
   obtain ⟨h1, h2⟩ := h
   split at h2
   · rename_i d hd
     simp only [and_eq_true, Bool.not_eq_true'] at h2
     refine ⟨zeroAtB_spec h1, d, hd, h2.1, fun k x e => ?_, fun x e => ?_, fun x e => ?_, fun e ms e2 => ?_⟩
     · subst e
       have h3 := h2.2
       simp only [leafB] at h3
       split at h3
       · rw [of_decide_eq_true h3]
       · cases h3
     · subst e
       have h3 := h2.2
       simp only [leafB] at h3
       split at h3
       · rfl
       · cases h3
     · subst e
       have h3 := h2.2
       simp only [leafB] at h3
       split at h3
       · rfl
       · cases h3
     · subst e; subst e2
       have h3 := h2.2
       simp [leafB] at h3
   · cases h2
 | .struct fs zs, h => by
   simp only [tdOkB, and_eq_true] at h
   obtain ⟨h1, h2⟩ := h
   split at h2
   · rename_i fields hu
     simp only [and_eq_true, decide_eq_true_eq] at h2
     refine ⟨zeroAtB_spec h1, fields, hu, h2.1, fun f hf e => ?_⟩
     have := List.all_eq_true.1 h2.2 f hf
     rw [e] at this
     cases this
   · cases h2
 | .slice e en, h => by
   simp only [tdOkB, and_eq_true] at h
   obtain ⟨h1, h2⟩ := h
   split at h2
   case h_2 => cases h2
   rename_i en' hu
   simp only [and_eq_true] at h2
   have he := Nat.eq_of_beq_eq_true h2.1
   subst he
   have h3 := h2.2
   split at h3
   case h_2 => cases h3
   rename_i i hi
   split at h3
   case h_2 => cases h3
   rename_i z hz
   simp only [and_eq_true] at h3
   refine ⟨zeroAtB_spec h1, hu, i, z, hi, hz, Nat.le_of_ble_eq_true h3.1, fun e1 => ?_, fun e1 => ?_⟩
   · have h4 := h3.2
     rw [if_pos e1] at h4
     exact Nat.eq_of_beq_eq_true h4
   · have h4 := h3.2
     rw [if_neg e1] at h4
     simp only [and_eq_true] at h4
     obtain ⟨k1, k2, k3, k4, k5⟩ := h4
     exact ⟨Nat.eq_of_beq_eq_true k1, k2, by rw [← Nat.blt_eq]; exact k3, coBs_spec k4, Nat.eq_of_beq_eq_true k5⟩
 | .arr e n agg zs, h => by
   simp only [tdOkB, and_eq_true] at h
   obtain ⟨h1, h2, h3, h4⟩ := h
   split at h4
   case h_2 => cases h4
   rename_i n' en hu
   simp only [and_eq_true] at h4
   obtain ⟨h5, h6, h7⟩ := h4
   have he := Nat.eq_of_beq_eq_true h5
   subst he
   split at h6
   case h_2 => cases h6
   rename_i d hd
   split at h7
   case h_2 => cases h7
   rename_i i hi
   exact ⟨zeroAtB_spec h1, Nat.eq_of_beq_eq_true h2, by rw [← Nat.blt_eq]; exact h3, en, hu, ⟨d, hd, eq_of_beq h6⟩, i, hi, Nat.eq_of_beq_eq_true h7⟩
 | .map k v agg, h => by
   simp only [tdOkB, and_eq_true] at h
   obtain ⟨h1, h2⟩ := h
   split at h2
   case h_2 => cases h2
   rename_i kt et hu
   simp only [and_eq_true] at h2
   obtain ⟨h3, h4⟩ := h2
   split at h3
   case h_2 => cases h3
   rename_i d hd
   split at h4
   case h_2 => cases h4
   rename_i i hi
   split at h4
   case h_2 => cases h4
   rename_i z hz
   simp only [and_eq_true, Bool.or_eq_true] at h4
   obtain ⟨k1, k2, k3, k4⟩ := h4
   exact ⟨zeroAtB_spec h1, kt, et, hu, ⟨d, hd, keyB_spec h3⟩, i, z, hi, hz, k1, coBs_spec k2, aggB_spec k3, fun e => by
    rcases k4 with g | g
    · rw [e] at g; cases g
    · exact Nat.eq_of_beq_eq_true g⟩
def fieldsB (P : Program) : Nat → List Leaf → List Field → Bool
 | _, [], [] => true
 | i, z :: zs, f :: r => Nat.beq f.offset i && (decide (f.name ≠ "_") && ((match P.underlying f.type with
   | some d => !isAggD d && (match z, d with
     | .int k _, .int k' => decide (k' = k)
     | .bool _, .bool => true
     | .str _, .string => true
     | _, _ => false)
   | none => false) && fieldsB P (i + 1) zs r))
 | _, _, _ => false
def eqOkB (P : Program) (t : TypeId) (zs : List Leaf) : Bool := match P.underlying t with
 | some (.struct fs) => !P.stoodInHeld t && (!P.eqGuardType P.depth t && fieldsB P 0 zs fs.toList)
 | _ => false
section
variable {P : Program} {w : World}
theorem run_part_basic {t : TypeId} {d : TypeDesc} (hu : P.underlying t = some d) (hd : isAggD d = false) {cs : Array Value} {off : Nat} {v : Value} (h : cs[off]? = some v) : (part t cs off).run P w = .ok v w := by
 have ha : (isAgg t).run P w = .ok false w := by
  rw [← hd]
  simp only [isAgg, Sem.run_bind, run_underlying hu, Result.andThen_ok]
  cases d <;> rfl
 simp [part, ha, h]
theorem eqLeaves_cons {x y : Leaf} {xs ys : List Leaf} {b : Bool} (h : eqLeaves (x :: xs) (y :: ys) = some b) : ∃ b1 b2, eqLeaf x y = some b1 ∧ eqLeaves xs ys = some b2 ∧ b = (b1 && b2) := by
 cases xs with
 | nil =>
   cases ys with
   | nil => simp only [eqLeaves] at h; exact ⟨b, true, h, rfl, by simp⟩
   | cons y' ys' =>
     simp only [eqLeaves] at h
     split at h
     · rename_i a c h1 h2; cases h; exact ⟨a, c, h1, h2, rfl⟩
     · cases h
 | cons x' xs' =>
   simp only [eqLeaves] at h
   split at h
   · rename_i a c h1 h2; cases h; exact ⟨a, c, h1, h2, rfl⟩
   · cases h
theorem run_eqFields (d : Nat) : ∀ (fs : List Field) (zs : List Leaf) (i : Nat) (xs ys : List Leaf) (vx vy : Array Value) (b : Bool), fieldsB P i zs fs = true → likes zs xs = true → eqLeaves xs ys = some b → CoRs xs (vx.toList.drop i) → CoRs ys (vy.toList.drop i) →
  (Op.eqFields (d + 1) vx vy fs).run P w = .ok b w
 | [], [], i, xs, ys, vx, vy, b, _, hl, he, _, _ => by
   cases xs with
   | nil =>
     cases ys with
     | nil => simp [eqLeaves] at he; subst he; simp [Op.eqFields]
     | cons y ys => simp [eqLeaves] at he
   | cons x xs => simp [likes] at hl
 | [], _ :: _, i, xs, ys, vx, vy, b, hf, _, _, _, _ => by simp [fieldsB] at hf
 | _ :: _, [], i, xs, ys, vx, vy, b, hf, _, _, _, _ => by simp [fieldsB] at hf
 | f :: fs, z :: zs, i, xs, ys, vx, vy, b, hf, hl, he, hx, hy => by
   simp only [fieldsB, and_eq_true, decide_eq_true_eq] at hf
   obtain ⟨h1, h2, h3, h4⟩ := hf
   have hoff := Nat.eq_of_beq_eq_true h1
   cases xs with
   | nil => cases z <;> simp [likes] at hl
   | cons x xs =>
   cases ys with
   | nil => cases xs <;> simp [eqLeaves] at he
   | cons y ys =>
   obtain ⟨b1, b2, e1, e2, e3⟩ := eqLeaves_cons he
   obtain ⟨u, us, hu, hcu, hcus⟩ := hx
   obtain ⟨v, vs, hv, hcv, hcvs⟩ := hy
   have hux : vx[i]? = some u := by
    have : (vx.toList.drop i)[0]? = some u := by rw [hu]; rfl
    simpa using this
   have hvy : vy[i]? = some v := by
    have : (vy.toList.drop i)[0]? = some v := by rw [hv]; rfl
    simpa using this
   have hus : vx.toList.drop (i + 1) = us := by rw [← List.tail_drop, hu]; rfl
   have hvs : vy.toList.drop (i + 1) = vs := by rw [← List.tail_drop, hv]; rfl
   split at h3
   case h_2 => cases h3
   rename_i dd hdd
   simp only [and_eq_true, Bool.not_eq_true'] at h3
   have hone : (Op.equalIn (d + 1) f.type u v).run P w = .ok b1 w ∧ likes zs xs = true := by
    have h32 := h3.2
    split at h32
    · rename_i k n k'
      have hk := of_decide_eq_true h32
      subst hk
      cases x <;> simp [likes] at hl
      cases y <;> simp [eqLeaf] at e1
      obtain ⟨rfl, hl⟩ := hl
      obtain ⟨rfl, rfl⟩ := e1
      have hu' : u = _ := hcu
      have hv' : v = _ := hcv
      subst hu'; subst hv'
      exact ⟨run_equalIn_int w d f.type _ _ _ _ hdd, hl⟩
    · cases x <;> simp [likes] at hl
      cases y <;> simp [eqLeaf] at e1
      subst e1
      have hu' : u = _ := hcu
      have hv' : v = _ := hcv
      subst hu'; subst hv'
      exact ⟨run_equalIn_bool w d f.type _ _ hdd, hl⟩
    · cases x <;> simp [likes] at hl
      cases y <;> simp [eqLeaf] at e1
      subst e1
      obtain ⟨s1, k1, k2⟩ := hcu
      obtain ⟨s2, m1, m2⟩ := hcv
      subst k1; subst m1
      exact ⟨by rw [run_equalIn_string w d f.type _ _ hdd, ByteArray.toList_eq, ByteArray.toList_eq, k2, m2], hl⟩
    · cases h32
   have ih := run_eqFields d fs zs (i + 1) xs ys vx vy b2 h4 hone.2 e2 (by rw [hus]; exact hcus) (by rw [hvs]; exact hcvs)
   simp only [Op.eqFields]
   rw [if_pos h2]
   rw [hoff]
   simp only [Sem.run_bind, run_part_basic hdd h3.1 hux, run_part_basic hdd h3.1 hvy, hone.1, Result.andThen_ok]
   subst e3
   cases b1
   · simp
   · simpa using ih
theorem eqOkB_spec {t : TypeId} {zs : List Leaf} (h : eqOkB P t zs = true) : EqOk P t zs := by
 unfold eqOkB at h
 split at h
 case h_2 => cases h
 rename_i fs hu
 simp only [and_eq_true, Bool.not_eq_true'] at h
 intro w xs ys vx vy b hl he hx hy
 refine ⟨fun op x y => ?_, ?_⟩
 · unfold eqGuard
   have hg : P.eqGuardType P.depth t = false := h.2.1
   cases op <;> simp [hg]
 · have hf : P.fieldsOf t = fs := by simp [Program.fieldsOf, hu]
   have := run_equalIn_struct (P := P) w 9999 t vx vy (by rw [hf]; exact hu) h.1
   show (Op.equalIn (9999 + 1) t (.agg vx) (.agg vy)).run P w = _
   rw [this, hf]
   exact run_eqFields 9998 fs.toList zs 0 xs ys vx vy b h.2.2 hl he (by simpa using hx) (by simpa using hy)
end
def notPtrB : Option TypeDesc → Bool
 | some (.pointer _) => false
 | some _ => true
 | none => false
def methHowB (P : Program) (t : TypeId) : List FieldStep → Bool → Option (Nat × Nat) → Bool
 | [], true, none => match P.underlying t with
   | some (.pointer _) => true
   | _ => false
 | [], false, some (ty, o) => match P.underlying t with
   | some (.pointer elem) => Nat.beq elem ty && Nat.beq o 0
   | _ => false
 | [st], false, some (ty, o) => st.deref && (match P.underlying st.struct with
   | some (.struct fields) => match fields[st.index]? with
     | some fd => Nat.beq fd.type ty && (Nat.beq fd.offset o && (notPtrB (P.underlying ty) && (match P.info? ty with
       | some i => !Nat.beq i.size 0
       | none => false)))
     | none => false
   | _ => false)
 | _, _, _ => false
def methB (P : Program) (t : TypeId) (name : String) (f : Nat) (how : Option (Nat × Nat)) : Bool := match P.info? t with
 | some i => match i.methods.find? (·.name == name) with
   | some m => match m.func with
     | some (f', pr) => Nat.beq f' f && methHowB P t m.path.toList pr how
     | none => false
   | none => false
 | none => false
theorem methB_spec {P : Program} {t : TypeId} {name : String} {f : Nat} {how : Option (Nat × Nat)} (h : methB P t name f how = true) : MethOk P t name f how := by
 unfold methB at h
 split at h
 case h_2 => cases h
 rename_i inf hinf
 split at h
 case h_2 => cases h
 rename_i m hm
 split at h
 case h_2 => cases h
 rename_i f' pr hfun
 simp only [and_eq_true] at h
 obtain ⟨hf, hh⟩ := h
 have hf := Nat.eq_of_beq_eq_true hf
 subst hf
 intro w b off
 have hti : (typeInfo t).run P w = .ok inf w := run_info hinf
 have hstep : ∀ {xt : TypeId} {x : Place} {v : Value}, (follow m.path.toList t (.val (.pointer (some ⟨b, off, none⟩)))).run P w = .ok (xt, x) w → (∀ nm, (receiverAt xt x pr nm).run P w = .ok v w) →
   (method (P.types.size + Made.depth) t (.pointer (some ⟨b, off, none⟩)) name).run P w = .ok (f', v) w := by
  intro xt x v h1 h2
  have hd : P.types.size + Made.depth = (P.types.size + (Made.depth - 1)) + 1 := rfl
  rw [hd]
  simp only [method, Sem.run_bind, hti, Result.andThen_ok, hm, h1, hfun, h2, Sem.run_pure]
 unfold methHowB at hh
 split at hh
 · rename_i hp
   split at hh
   case h_2 => cases hh
   rename_i elem hu
   show (method _ _ _ _).run P w = _
   refine hstep (xt := t) (x := .val (.pointer (some ⟨b, off, none⟩))) (by rw [hp]; simp [follow]) (fun nm => ?_)
   simp [receiverAt, run_underlying hu, Place.get]
 · rename_i ty o hp
   split at hh
   case h_2 => cases hh
   rename_i elem hu
   simp only [and_eq_true] at hh
   have h1 := Nat.eq_of_beq_eq_true hh.1
   have h2 := Nat.eq_of_beq_eq_true hh.2
   subst h1; subst h2
   intro v hv
   refine hstep (xt := t) (x := .val (.pointer (some ⟨b, off, none⟩))) (by rw [hp]; simp [follow]) (fun nm => ?_)
   rw [Nat.add_zero] at hv
   cases nm with
   | none => simp [receiverAt, run_underlying hu, Place.get, asAddr, hv]
   | some n =>
     have hw : (Builtin.ssaWrapNilChk_ #[t] t #[.pointer (some ⟨b, off, none⟩), strVal "", strVal n]).run P w = .ok (.pointer (some ⟨b, off, none⟩)) w := rfl
     simp only [receiverAt, Sem.run_bind, run_underlying hu, Result.andThen_ok, Place.get, Sem.run_pure, hw, asAddr, hv]
 · rename_i st ty o hp
   simp only [and_eq_true] at hh
   obtain ⟨hder, hh⟩ := hh
   split at hh
   case h_2 => cases hh
   rename_i fields hu
   split at hh
   case h_2 => cases hh
   rename_i fd hfd
   simp only [and_eq_true] at hh
   obtain ⟨k1, k2, k3, k4⟩ := hh
   have k1 := Nat.eq_of_beq_eq_true k1
   have k2 := Nat.eq_of_beq_eq_true k2
   subst k1; subst k2
   split at k4
   case h_2 => cases k4
   rename_i i2 hi2
   have hsz : i2.size ≠ 0 := fun e => by rw [e] at k4; cases k4
   intro v hv
   refine hstep (xt := fd.type) (x := .var ⟨b, off + fd.offset, none⟩) ?_ (fun nm => ?_)
   · rw [hp]
     simp [follow, run_underlying hu, hfd, hder, Place.get, asAddr, fieldPlace, sizeOf, run_info hi2, hsz, Addr.add0]
   · cases hty : P.underlying fd.type with
     | none => rw [hty] at k3; cases k3
     | some d =>
       rw [hty] at k3
       cases d <;> first | (cases k3; done) | (cases nm <;> simp [receiverAt, run_underlying hty, Place.get, hv])
 · cases hh
structure Tabs where
 tabL : List (Nat × TD)
 eqtL : List Nat
 keysL : List (Nat × List Nat)
 lendL : List Nat := []
 mkrL : List Nat := []
 mtL : List (Nat × List (String × (Nat × Option (Nat × Nat)))) := []
 kinL : List Tm
 koutsL : List (List Tm)
 bkL : List Blk
 lkL : List (Nat × List (Nat × Nat))
 tkL : List (Nat × List (Nat × Nat))
 dkL : List (Nat × List (Nat × (List Nat × OrdT)))
 fnumL : List Nat
 fnL : List Func
 placeL : List (Nat × List Bool)
 alL : List (Nat × Nat) := []
 gp : World → (Nat → Prop) → Prop := fun _ _ => True
 gvL : List (Nat × Dyn) := []
 itL : List (Nat × (CT × Bool)) := []
 extL : List Nat := []
def getL {α : Type} (d : α) (l : List α) (i : Nat) : α := match nth l i with
 | some x => x
 | none => d
def look2 {α : Type} (l : List (Nat × List (Nat × α))) (i j : Nat) : Option α := match look l i with
 | some r => look r j
 | none => none
def listsL (l : List (Nat × List Nat)) (i : Nat) : List Nat := match look l i with
 | some r => r
 | none => []
def lookS {α : Type} : List (String × α) → String → Option α
 | [], _ => none
 | (k, v) :: r, n => if k = n then some v else lookS r n
def methsL (l : List (Nat × List (String × (Nat × Option (Nat × Nat))))) (t : Nat) (n : String) : Option (Nat × Option (Nat × Nat)) := match look l t with
 | some r => lookS r n
 | none => none
theorem lookS_mem {α : Type} : ∀ {l : List (String × α)} {n : String} {v : α}, lookS l n = some v → (n, v) ∈ l
 | [], n, v, h => by cases h
 | (k, x) :: r, n, v, h => by
   unfold lookS at h
   split at h
   · rename_i e; subst e; cases h; simp
   · exact List.mem_cons_of_mem _ (lookS_mem h)
def noTm : Tm := ⟨[], []⟩
def noBlk : Blk := ⟨[], noTm, [], []⟩
def Tabs.tb (t : Tabs) : Tb := ⟨look t.tabL, has t.eqtL, listsL t.keysL, has t.lendL, has t.mkrL, methsL t.mtL, t.gp, look t.gvL, look t.itL, getL noTm t.kinL, getL [] t.koutsL, getL noBlk t.bkL⟩
def Tabs.tbl (t : Tabs) (xf : t.tb.RF) : Tbl :=
 { t.tb with lk := look2 t.lkL, tk := look2 t.tkL, dk := look2 t.dkL, al := look t.alL, fnum := getL 0 t.fnumL, fn := fun φ => bif has t.extL φ then none else nth t.fnL φ, place := nth t.placeL, xf := xf }
def keysB (t : Tabs) : Bool := t.keysL.all fun p => p.2.all fun φ => Nat.beq (getL 0 t.fnumL φ) p.1
def eqtB (P : Program) (t : Tabs) : Bool := t.eqtL.all fun ty => match look t.tabL ty with
 | some (.struct _ zs) => eqOkB P ty zs
 | _ => true
def mtB (P : Program) (t : Tabs) : Bool := t.mtL.all fun p => p.2.all fun q => methB P p.1 q.1 q.2.1 q.2.2
def FnsOk (P : Program) (T : Tbl) : Nat → List Func → Prop
 | _, [] => True
 | φ, fn :: r => (P.funcs[T.fnum φ]? = some fn ∧ (fn.name == "runtime.NumGoroutine") = false ∧ ∃ c, fn.body = some c ∧ fnB T φ fn c = true) ∧ FnsOk P T (φ + 1) r
theorem FnsOk.get {P : Program} {T : Tbl} : ∀ {l : List Func} {φ j : Nat} {fn : Func}, FnsOk P T φ l → nth l j = some fn → P.funcs[T.fnum (φ + j)]? = some fn ∧ (fn.name == "runtime.NumGoroutine") = false ∧ ∃ c, fn.body = some c ∧ fnB T (φ + j) fn c = true
 | [], φ, j, fn, _, h => by cases h
 | f :: r, φ, 0, fn, h, hj => by cases hj; exact h.1
 | f :: r, φ, j + 1, fn, h, hj => by
   have := FnsOk.get (j := j) h.2 hj
   rwa [show φ + 1 + j = φ + (j + 1) by omega] at this
def ExtOk (P : Program) (T : Tbl) : Prop := ∀ φ d y, T.fn φ = none → T.xf φ d = some y → (∃ fn : Func, P.funcs[T.fnum φ]? = some fn ∧ (fn.name == "runtime.NumGoroutine") = false ∧ fn.body.isNone = false) ∧
 ∀ (w : World) (Φ : Nat → Prop) (vs : List Value) (γ : Loc), T.gp w Φ → InstR w Φ (T.kin φ) (fromD (T.kin φ).cts d) vs γ →
  Calls P (T.fnum φ) vs.toArray w fun e w' => ∃ Φ' γ' rs, e = .returned (retVal rs) ∧ OutR (fun T' ds' => InstR w' Φ' T' ds' rs γ' ∧ PostR w Φ γ (T.kin φ) (fromD (T.kin φ).cts d) w' Φ' γ' T' ds') (T.kouts φ) y
theorem Tabs.ok {P : Program} (t : Tabs) {xf : t.tb.RF} (h1 : t.tabL.all (fun p => tdOkB P p.1 p.2) = true) (h2 : eqtB P t = true) (h3 : P.follows .mixedOrders = true) (h4 : keysB t = true) (h5 : FnsOk P (t.tbl xf) 0 t.fnL)
  (h6 : (List.range t.placeL.length).all (blkOkB (t.tbl xf)) = true) (h7 : ExtOk P (t.tbl xf)) (h8 : mtB P t = true) (h9 : GpMono t.gp := by exact fun _ _ _ _ _ _ h => h) (h10 : ∀ w Φ, t.gp w Φ → GvR (look t.gvL) w Φ := by exact fun _ _ _ => GvR.none fun _ => rfl) (h11 : ∀ f e agg, look t.itL f = some (e, agg) → BackOk P f e agg := by exact fun _ _ _ h => by cases h) : (t.tbl xf).Ok P := {
 mt := fun ty name f how h => by
  have h' : methsL t.mtL ty name = some (f, how) := h
  unfold methsL at h'
  split at h'
  · rename_i r hr
    exact methB_spec (List.all_eq_true.1 (List.all_eq_true.1 h8 (ty, r) (look_mem hr)) (name, (f, how)) (lookS_mem h'))
  · cases h'
 tab := fun ty td h => tdOkB_spec (List.all_eq_true.1 h1 (ty, td) (look_mem h))
 eqt := fun ty fs zs he ht => by
  have := List.all_eq_true.1 h2 ty (has_mem.1 he)
  have ht' : look t.tabL ty = some (.struct fs zs) := ht
  rw [ht'] at this
  exact eqOkB_spec this
 mixed := h3
 gpm := h9
 gvo := h10
 it := h11
 keys := fun f φ hφ => by
  have hφ' : φ ∈ listsL t.keysL f := hφ
  unfold listsL at hφ'
  split at hφ'
  · rename_i r hr
    have := List.all_eq_true.1 (List.all_eq_true.1 h4 (f, r) (look_mem hr)) φ hφ'
    exact Nat.eq_of_beq_eq_true this
  · cases hφ'
 fn := fun φ fn h => by
  have h : (bif has t.extL φ then none else nth t.fnL φ) = some fn := h
  have := FnsOk.get (j := φ) h5 (cond_none' h).2
  rwa [Nat.zero_add] at this
 blk := Tbl.ok_blk t.placeL.length (fun κ hκ => by
  show nth t.placeL κ = none
  rw [nth_getElem?]; exact List.getElem?_eq_none hκ) h6
 ext := h7 }
end Go.Bm
end
section
namespace Go.Bm
theorem agree_swap {A B R : Type} (x : Option A) (y : Option B) (k : A → B → Option R) : agree (x.bind fun a => y.bind fun b => k a b) (y.bind fun b => x.bind fun a => k a b) = x.bind fun a => y.bind fun b => k a b := by
 cases x <;> cases y <;> simp only [Option.bind_some, Option.bind_none, agree_self]
theorem guard_and {R : Type} (a b : Bool) (x : Option R) : (bif a then (bif b then x else none) else none) = bif a && b then x else none := by
 cases a <;> cases b <;> rfl
theorem agree_guard {R : Type} (a b : Bool) (x : Option R) : agree (bif a then x else none) (bif b then x else none) = bif a && b then x else none := by
 cases a <;> cases b <;> first | exact agree_self _ | (cases x with | none => exact agree_self _ | some y => (show agree _ _ = none; unfold agree; rw [if_neg (by intro h; cases h)]))
theorem Tbl.approx {T : Tbl} {g : T.RF → T.RB → T.RF} {k : T.RF → T.RB → T.RB} (hg : ∀ rf rb φ d y, g rf rb φ d = some y → T.stepF rf rb φ d = some y) (hk : ∀ rf rb κ d y, k rf rb κ d = some y → T.stepB rf rb κ d = some y)
  {G : Nat → T.RF × T.RB} (h0 : G 0 = (fun _ _ => none, fun _ _ => none)) (hs : ∀ n, G (n + 1) = (g (G n).1 (G n).2, k (G n).1 (G n).2)) :
  ∀ n, (∀ φ d y, (G n).1 φ d = some y → T.rf φ d = some y) ∧ ∀ κ d y, (G n).2 κ d = some y → T.rb κ d = some y
 | 0 => by
   rw [h0]
   exact ⟨fun _ _ _ h => (by cases h), fun _ _ _ h => (by cases h)⟩
 | n + 1 => by
   obtain ⟨ih1, ih2⟩ := Tbl.approx hg hk h0 hs n
   have hf : NearF (G n).1 fun _ => T.rf := fun f d y h => Evt.all fun _ => ih1 f d y h
   have hb : NearB (G n).2 fun _ => T.rb := fun f d y h => Evt.all fun _ => ih2 f d y h
   rw [hs n]
   refine ⟨fun φ d y h => T.rf_of ?_, fun κ d y h => T.rb_of ?_⟩
   · have h := hg _ _ _ _ _ h
     unfold Tbl.stepF at h ⊢
     cases hf' : T.fn φ with
     | none => simp only [hf'] at h ⊢; exact h
     | some fn =>
       simp only [hf'] at h ⊢
       cases hc : fn.body with
       | none => rw [hc] at h; cases h
       | some c =>
         simp only [hc] at h ⊢
         obtain ⟨N, hN⟩ := evFn_lim hf hb h
         exact hN N (Nat.le_refl _)
   · have h := hk _ _ _ _ _ h
     unfold Tbl.stepB at h ⊢
     cases hc : T.codeAt κ with
     | none => rw [hc] at h; cases h
     | some p =>
       simp only [hc] at h ⊢
       obtain ⟨N, hN⟩ := evBlk_lim hf hb h
       exact hN N (Nat.le_refl _)
end Go.Bm
end
section
namespace Go.Bm
set_option linter.unusedVariables false
set_option linter.unusedSimpArgs false
theorem wr {x : Int} (h : -9223372036854775808 ≤ x ∧ x ≤ 9223372036854775807) : IntKind.i64.wrap x = x := IntWalk.i64_in x h
theorem wr_succ {i : Nat} (h : i < 4611686018427387904) : IntKind.i64.wrap ((i : Int) + 1) = ((i + 1 : Nat) : Int) := by rw [wr (by omega)]; omega
theorem wr_pred {i : Nat} (h : i < 4611686018427387904) : IntKind.i64.wrap ((i : Int) - 1) = (i : Int) - 1 := wr (by omega)
theorem inb_nat (i n : Nat) : inb (i : Int) n = decide (i < n) := by
 cases h : inb (i : Int) n
 · have : ¬ (inb (i : Int) n = true) := by rw [h]; decide
   rw [inb_iff] at this
   exact (decide_eq_false (by omega)).symm
 · rw [inb_iff] at h; exact (decide_eq_true (by omega)).symm
theorem inb'_nat (i n : Nat) : inb' (i : Int) n = decide (i ≤ n) := by
 cases h : inb' (i : Int) n
 · have : ¬ (inb' (i : Int) n = true) := by rw [h]; decide
   rw [inb'_iff] at this
   exact (decide_eq_false (by omega)).symm
 · rw [inb'_iff] at h; exact (decide_eq_true (by omega)).symm
theorem inb_t {x : Int} {n : Nat} (h : 0 ≤ x) (h2 : x < n) : inb x n = true := inb_iff.2 ⟨h, h2⟩
theorem inb'_t {x : Int} {n : Nat} (h : 0 ≤ x) (h2 : x ≤ n) : inb' x n = true := inb'_iff.2 ⟨h, h2⟩
theorem ble_t {a b : Nat} (h : a ≤ b) : Nat.ble a b = true := Nat.ble_eq_true_of_le h
theorem blt_t {a b : Nat} (h : a < b) : Nat.blt a b = true := by rw [Nat.blt_eq]; exact h
theorem ble_most {a : Nat} (h : a ≤ 274877906944) : Nat.ble a most = true := ble_t h
theorem dt {p : Prop} [Decidable p] (h : p) : decide p = true := decide_eq_true h
theorem df {p : Prop} [Decidable p] (h : ¬ p) : decide p = false := decide_eq_false h
theorem bt {a b : Int} (h : a = b) : (a == b) = true := beq_iff_eq.2 h
theorem bf {a b : Int} (h : a ≠ b) : (a == b) = false := beq_eq_false_iff_ne.2 h
theorem nbt {a b : Int} (h : a = b) : (a != b) = false := by rw [bne, bt h]; rfl
theorem nbf {a b : Int} (h : a ≠ b) : (a != b) = true := by rw [bne, bf h]; rfl
theorem setNth_set {α : Type} : ∀ (l : List α) (i : Nat) (y : α), setNth l i y = l.set i y
 | [], _, _ => rfl
 | _ :: _, 0, _ => rfl
 | x :: l, i + 1, y => by simp [setNth, setNth_set l i y]
theorem sub_zero {α : Type} (l : List α) (n : Nat) : sub l (some (0, n)) = l.take n := rfl
section
variable {α : Type}
theorem nth_t {l : List α} {i : Nat} (h : i < l.length) : nth l i = some l[i] := by rw [nth_getElem?]; exact List.getElem?_eq_getElem h
theorem nth_mid (pre : List α) (x : α) (suf : List α) : nth (pre ++ x :: suf) (pre.length : Int).toNat = some x := by
 rw [nth_getElem?, Int.toNat_natCast]; simp
theorem inb_mid (pre : List α) (x : α) (suf : List α) : inb (pre.length : Int) (pre ++ x :: suf).length = true := by rw [inb_nat]; exact dt (by simp)
theorem lt_mid (pre : List α) (x : α) (suf : List α) : decide ((pre.length : Int) < ((pre ++ x :: suf).length : Nat)) = true := dt (by simp; omega)
theorem lt_end (pre : List α) : decide ((pre.length : Int) < ((pre ++ []).length : Nat)) = false := df (by simp)
theorem lt_self (n : Nat) : decide ((n : Int) < (n : Int)) = false := df (by omega)
theorem next_mid (pre : List α) (x : α) (h : pre.length < 4611686018427387904) : IntKind.i64.wrap ((pre.length : Int) + 1) = ((pre ++ [x]).length : Nat) := by rw [wr_succ h]; simp
end
abbrev Nd : Type := Int × Int × Int × Int × Int × List UInt8
instance decNd : DecidableEq Nd := @instDecidableEqProd Int (Int × Int × Int × Int × List UInt8) inferInstance inferInstance
instance decNds : DecidableEq (List Nd) := @instDecidableEqList Nd decNd
def kids (n : Nd) : List Int :=
 if n.1 = 26 then [n.2.1, n.2.2.1, n.2.2.2.1] else
 if n.1 = 28 ∧ n.2.2.1 ≠ -1 then [n.2.2.1, n.2.1] else
 if n.1 = 27 ∧ n.2.1 = -1 then [] else
 if 6 ≤ n.1 ∧ n.1 ≤ 20 then [n.2.1, n.2.2.1] else
 if n.1 = 4 ∨ n.1 = 5 ∨ (21 ≤ n.1 ∧ n.1 ≤ 28) then [n.2.1] else []
def shift (by_ : Int) (x : Int) : Int := if 0 ≤ x then IntKind.i64.wrap (x + by_) else x
def mv (by_ : Int) (n : Nd) : Nd := (n.1, shift by_ n.2.1, shift by_ n.2.2.1, shift by_ n.2.2.2.1, n.2.2.2.2)
def place {α : Type} [DecidableEq α] (x : α) : List α → Nat → Option Nat
 | [], _ => none
 | y :: r, i => if x = y then some i else place x r (i + 1)
end Go.Bm
end
