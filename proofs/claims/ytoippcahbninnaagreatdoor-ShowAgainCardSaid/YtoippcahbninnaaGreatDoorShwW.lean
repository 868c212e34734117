/-
  OUR OWN: whatever the reader reads is a tree that may be written.
-/
import Derived.Test.YtoippcahbninnaaGreatDoorShwV
namespace Go.Proofs.YtoippcahbninnaaGreatDoor.R
open Go Go.Bm Go.Proofs
set_option linter.unusedVariables false
set_option linter.unusedSimpArgs false
set_option maxRecDepth 4000

/-! ### Trees that are put together -/
theorem val_leaf {op n : Int} {nm : Str} (h : op = 1 ∨ op = 2 ∨ op = 3) (hn : 0 ≤ n ∧ n ≤ mostN op) (hs : nm ≠ [] ↔ op = 3) : Valid (.mk (op, -1, -1, -1, n, nm) []) := by
  refine ⟨rfl, fun l hl _ => ?_, by simp, ⟨by show 1 ≤ op; omega, by show op ≤ 28; omega, hn.1, hn.2, by show nm ≠ [] ↔ op = 3 ∨ op = 27; rw [hs]; omega⟩, rfl, trivial⟩
  have : l = [] := List.length_eq_zero_iff.1 hl
  subst this
  show kids (op, -1, -1, -1, n, nm) = []
  rcases h with rfl | rfl | rfl <;> rfl
theorem argT_no {op n : Int} {nm : Str} (h27 : op ≠ 27) (h28 : op ≠ 28) (m a : Nat) {x : Int} (hx : x ≠ 28) : argT (op, -1, -1, -1, n, nm) m a x = true := by
  unfold argT
  rw [df hx, df (show ¬ op = 27 from h27), df (show ¬ op = 28 from h28)]; rfl
theorem val_un {op n : Int} {t : Tr} (h : op = 4 ∨ op = 5 ∨ op = 21 ∨ op = 22 ∨ op = 23 ∨ op = 24 ∨ op = 25) (hn : 0 ≤ n ∧ n ≤ mostN op) (hv : Valid t) (ho : t.op ≠ 28) : Valid (.mk (op, -1, -1, -1, n, []) [t]) := by
  refine ⟨rfl, fun l hl _ => ?_, by simp, ⟨by show 1 ≤ op; omega, by show op ≤ 28; omega, hn.1, hn.2, ?_⟩, ?_, hv, trivial⟩
  · match l, hl with
    | [x], _ => exact kids1 (by omega) x n []
  · show ([] : Str) ≠ [] ↔ op = 3 ∨ op = 27
    constructor
    · intro h; exact absurd rfl h
    · intro h; omega
  · rw [argsT, argsT, argT_no (by omega) (by omega) _ _ ho]; rfl
theorem val_bin {op : Int} {t u : Tr} (h : 6 ≤ op ∧ op ≤ 20) (hv : Valid t) (ho : t.op ≠ 28) (hu : Valid u) (hou : u.op ≠ 28) : Valid (.mk (op, -1, -1, -1, 0, []) [t, u]) := by
  have hm : mostN op = 0 := by unfold mostN; rw [if_neg (by omega), if_neg (by omega), if_neg (by omega)]
  refine ⟨rfl, fun l hl _ => ?_, by simp, ⟨by show 1 ≤ op; omega, by show op ≤ 28; omega, by show (0 : Int) ≤ 0; omega, by show (0 : Int) ≤ mostN op; omega, ?_⟩, ?_, hv, hu, trivial⟩
  · match l, hl with
    | [x, y], _ =>
      have e : aim (op, -1, -1, -1, 0, []) [x, y] = (op, x, y, -1, 0, []) := by
        show (if op = 28 then ((op, y, x, -1, 0, []) : Nd) else (op, x, y, -1, 0, [])) = _
        rw [if_neg (by omega)]
      rw [e]
      simp only [kids]
      rw [if_neg (by omega), if_neg (by omega), if_neg (by omega), if_pos h]
  · show ([] : Str) ≠ [] ↔ op = 3 ∨ op = 27
    constructor
    · intro h; exact absurd rfl h
    · intro h; omega
  · rw [argsT, argsT, argsT, argT_no (by omega) (by omega) _ _ ho, argT_no (by omega) (by omega) _ _ hou]; rfl
theorem val_ite {t u v : Tr} (hv : Valid t) (ho : t.op ≠ 28) (hu : Valid u) (hou : u.op ≠ 28) (hw : Valid v) (how : v.op ≠ 28) : Valid (.mk (26, -1, -1, -1, 0, []) [t, u, v]) := by
  refine ⟨rfl, fun l hl _ => ?_, by simp, ⟨by decide, by decide, by decide, by decide, by decide⟩, ?_, hv, hu, hw, trivial⟩
  · match l, hl with
    | [x, y, z], _ => simp [aim, kids]
  · rw [argsT, argsT, argsT, argsT, argT_no (by omega) (by omega) _ _ ho, argT_no (by omega) (by omega) _ _ hou, argT_no (by omega) (by omega) _ _ how]; rfl
theorem val_arg1 {u : Tr} (hv : Valid u) (ho : u.op ≠ 28) : Valid (.mk (28, -1, -1, -1, 0, []) [u]) := by
  refine ⟨rfl, fun l hl _ => ?_, by simp, ⟨by decide, by decide, by decide, by decide, by decide⟩, ?_, hv, trivial⟩
  · match l, hl with
    | [x], _ => simp [aim, kids]
  · simp [argsT, argT, ho]
theorem val_arg2 {c u : Tr} (hc : Valid c) (hco : c.op = 28) (hv : Valid u) (ho : u.op ≠ 28) : Valid (.mk (28, -1, -1, -1, 0, []) [c, u]) := by
  refine ⟨rfl, fun l hl hx => ?_, by simp, ⟨by decide, by decide, by decide, by decide, by decide⟩, ?_, hc, hv, trivial⟩
  · match l, hl with
    | [x, y], _ =>
      have : x ≠ -1 := hx x (by simp)
      simp [aim, kids, this]
  · simp [argsT, argT, ho, hco]
theorem val_call0 {nm : Str} (h : nm ≠ []) : Valid (.mk (27, -1, -1, -1, 0, nm) []) := by
  refine ⟨rfl, fun l hl _ => ?_, by simp, ⟨by show (1 : Int) ≤ 27; decide, by show (27 : Int) ≤ 28; decide, by show (0 : Int) ≤ 0; omega, by show (0 : Int) ≤ mostN 27; decide, ?_⟩, rfl, trivial⟩
  · have : l = [] := List.length_eq_zero_iff.1 hl
    subst this; simp [aim, kids]
  · show nm ≠ [] ↔ (27 : Int) = 3 ∨ (27 : Int) = 27
    exact ⟨fun _ => .inr rfl, fun _ => h⟩
theorem val_call1 {nm : Str} {c : Tr} (h : nm ≠ []) (hc : Valid c) (hco : c.op = 28) : Valid (.mk (27, -1, -1, -1, 0, nm) [c]) := by
  refine ⟨rfl, fun l hl hx => ?_, by simp, ⟨by show (1 : Int) ≤ 27; decide, by show (27 : Int) ≤ 28; decide, by show (0 : Int) ≤ 0; omega, by show (0 : Int) ≤ mostN 27; decide, ?_⟩, ?_, hc, trivial⟩
  · match l, hl with
    | [x], _ =>
      have : x ≠ -1 := hx x (by simp)
      simp [aim, kids, this]
  · show nm ≠ [] ↔ (27 : Int) = 3 ∨ (27 : Int) = 27
    exact ⟨fun _ => .inr rfl, fun _ => h⟩
  · simp [argsT, argT, hco]

/-- What an operand of a tree that is read is. -/
structure Fine (t : Tr) : Prop where
  v : Valid t
  o : t.op ≠ 28
  n : namesT t = true
theorem nameN_nil (op a b c n : Int) : nameN (op, a, b, c, n, []) = true := rfl
theorem nameN_of {op a b c n : Int} {nm : Str} (h : nameB nm = true) : nameN (op, a, b, c, n, nm) = true := by
  rw [nameN, Bool.or_eq_true]; exact .inr h
theorem nameB_ne {nm : Str} (h : nameB nm = true) : nm ≠ [] := by
  intro hs; subst hs; exact absurd h (by decide)
theorem fine_leaf {op n : Int} (h : op = 1 ∨ op = 2) (hn : 0 ≤ n ∧ n ≤ mostN op) : Fine (.mk (op, -1, -1, -1, n, []) []) :=
  ⟨val_leaf (by omega) hn (by constructor; · intro h; exact absurd rfl h
                              · intro h; omega), by show op ≠ 28; omega, by rw [namesT, nameN_nil, namesL]; rfl⟩
theorem fine_var {nm : Str} (h : nameB nm = true) : Fine (.mk (3, -1, -1, -1, 0, nm) []) :=
  ⟨val_leaf (by omega) ⟨by omega, by decide⟩ ⟨fun _ => rfl, fun _ => nameB_ne h⟩, by show (3 : Int) ≠ 28; decide, by rw [namesT, nameN_of h, namesL]; rfl⟩
theorem fine_un {op n : Int} {t : Tr} (h : op = 4 ∨ op = 5 ∨ op = 21 ∨ op = 22 ∨ op = 23 ∨ op = 24 ∨ op = 25) (hn : 0 ≤ n ∧ n ≤ mostN op) (ht : Fine t) : Fine (.mk (op, -1, -1, -1, n, []) [t]) :=
  ⟨val_un h hn ht.v ht.o, by show op ≠ 28; omega, by rw [namesT, nameN_nil, namesL, namesL, ht.n]; rfl⟩
theorem fine_bin {op : Int} {t u : Tr} (h : 6 ≤ op ∧ op ≤ 20) (ht : Fine t) (hu : Fine u) : Fine (.mk (op, -1, -1, -1, 0, []) [t, u]) :=
  ⟨val_bin h ht.v ht.o hu.v hu.o, by show op ≠ 28; omega, by rw [namesT, nameN_nil, namesL, namesL, namesL, ht.n, hu.n]; rfl⟩
theorem fine_ite {t u v : Tr} (ht : Fine t) (hu : Fine u) (hv : Fine v) : Fine (.mk (26, -1, -1, -1, 0, []) [t, u, v]) :=
  ⟨val_ite ht.v ht.o hu.v hu.o hv.v hv.o, by show (26 : Int) ≠ 28; decide, by rw [namesT, nameN_nil, namesL, namesL, namesL, namesL, ht.n, hu.n, hv.n]; rfl⟩
theorem chn_fine : ∀ (ts acc : List Tr), (∀ t ∈ ts, Fine t) → (acc = [] ∨ ∃ c, acc = [c] ∧ Valid c ∧ c.op = 28 ∧ namesT c = true) →
    (chn acc ts = [] ∨ ∃ c, chn acc ts = [c] ∧ Valid c ∧ c.op = 28 ∧ namesT c = true) ∧ sizes (chn acc ts) = sizes acc + sizes ts + ts.length
  | [], acc, _, ha => ⟨by rw [chn]; exact ha, by rw [chn]; simp [sizes]⟩
  | u :: r, acc, ht, ha => by
    have hu := ht u (by simp)
    have hh : (∃ c, [Tr.mk (28, -1, -1, -1, 0, []) (acc ++ [u])] = [c] ∧ Valid c ∧ c.op = 28 ∧ namesT c = true) ∧ sizes [Tr.mk (28, -1, -1, -1, 0, []) (acc ++ [u])] = sizes acc + u.size + 1 := by
      rcases ha with rfl | ⟨c, rfl, h1, h2, h3⟩
      · exact ⟨⟨_, rfl, val_arg1 hu.v hu.o, rfl, by rw [List.nil_append, namesT, nameN_nil, namesL, namesL, hu.n]; rfl⟩, by simp [sizes, Tr.size]⟩
      · exact ⟨⟨_, rfl, val_arg2 h1 h2 hu.v hu.o, rfl, by rw [List.singleton_append, namesT, nameN_nil, namesL, namesL, namesL, h3, hu.n]; rfl⟩, by simp [sizes, Tr.size]⟩
    obtain ⟨g1, g2⟩ := chn_fine r _ (fun t h => ht t (List.mem_cons_of_mem _ h)) (.inr hh.1)
    rw [chn]
    refine ⟨g1, ?_⟩
    rw [g2, hh.2]
    simp only [sizes, List.length_cons]; omega
theorem valids_of : ∀ {ts : List Tr}, (∀ t ∈ ts, Fine t) → Valids ts
  | [], _ => trivial
  | t :: r, h => ⟨(h t (by simp)).v, valids_of fun u hu => h u (List.mem_cons_of_mem _ hu)⟩
theorem fine_call {nm : Str} {ts : List Tr} (h : nameB nm = true) (ht : ∀ t ∈ ts, Fine t) : Fine (callT nm ts) ∧ (callT nm ts).size = sizes ts + ts.length + 1 := by
  obtain ⟨g1, g2⟩ := chn_fine ts [] ht (.inl rfl)
  refine ⟨⟨?_, by show (27 : Int) ≠ 28; decide, ?_⟩, by rw [callT, Tr.size, g2]; simp [sizes]⟩
  · rcases g1 with g1 | ⟨c, g1, h1, h2, h3⟩
    · rw [callT, g1]; exact val_call0 (nameB_ne h)
    · rw [callT, g1]; exact val_call1 (nameB_ne h) h1 h2
  · rcases g1 with g1 | ⟨c, g1, h1, h2, h3⟩
    · rw [callT, g1, namesT, nameN_of h, namesL]; rfl
    · rw [callT, g1, namesT, nameN_of h, namesL, namesL, h3]; rfl

/-! ### What the reader comes to -/
def Bad (r : RS) : Prop := r.2.2.2.1 ≠ 0
def Good (L : List Tok3) (i : Nat) (o : Int) (y : RV) : Prop := Bad y.1 ∨ ∃ (j : Nat) (t : Tr), y = (((L, ((j : Nat) : Int), o, (0 : Int), (0 : Int)) : RS), flat t 0) ∧ i < j ∧ j ≤ L.length ∧ Fine t ∧ t.size + i ≤ j

theorem isB_len {L : List Tok3} {i : Nat} {s : Str} (h : isB L i s = true) : i < L.length := by
  unfold isB at h
  split at h
  · rename_i x hx; exact nth_lt hx
  · cases h
theorem opq_some {l : Nat} (hl : LA l) {L : List Tok3} {i : Nat} {op : Int} (h : opq l L i = some op) : 6 ≤ op ∧ op ≤ 20 ∧ i < L.length := by
  rcases hl with rfl | rfl | rfl | rfl | rfl <;> simp only [opq] at h
  · cases h1 : isB L i [115, 105, 110, 99, 101] <;> rw [h1] at h <;> cases h
    exact ⟨by decide, by decide, isB_len h1⟩
  · cases h1 : isB L i [120, 111, 114] <;> rw [h1] at h
    · cases h2 : isB L i [111, 114] <;> rw [h2] at h <;> cases h
      exact ⟨by decide, by decide, isB_len h2⟩
    · cases h
      exact ⟨by decide, by decide, isB_len h1⟩
  · cases h1 : isB L i [97, 110, 100] <;> rw [h1] at h <;> cases h
    exact ⟨by decide, by decide, isB_len h1⟩
  · cases h1 : isB L i [45] <;> rw [h1] at h
    · cases h2 : isB L i [43] <;> rw [h2] at h <;> cases h
      exact ⟨by decide, by decide, isB_len h2⟩
    · cases h
      exact ⟨by decide, by decide, isB_len h1⟩
  · cases h1 : isB L i [109, 111, 100] <;> rw [h1] at h
    · cases h2 : isB L i [100, 105, 118] <;> rw [h2] at h
      · cases h3 : isB L i [42] <;> rw [h3] at h <;> cases h
        exact ⟨by decide, by decide, isB_len h3⟩
      · cases h
        exact ⟨by decide, by decide, isB_len h2⟩
    · cases h
      exact ⟨by decide, by decide, isB_len h1⟩
theorem opq1_some {p : Nat} (hp : p = 1 ∨ p = 2) {L : List Tok3} {i : Nat} {op : Int} (h : opq1 p L i = some op) : 6 ≤ op ∧ op ≤ 20 ∧ i < L.length := by
  rcases hp with rfl | rfl <;> simp only [opq1] at h
  · cases h1 : isB L i [45, 62] <;> rw [h1] at h <;> cases h
    exact ⟨by decide, by decide, isB_len h1⟩
  · cases h1 : isB L i [61, 62] <;> rw [h1] at h <;> cases h
    exact ⟨by decide, by decide, isB_len h1⟩
theorem opq6_some {L : List Tok3} {i : Nat} {x : Int × Bool} (h : opq6 L i = some x) : 6 ≤ x.1 ∧ x.1 ≤ 20 ∧ i < L.length := by
  simp only [opq6] at h
  cases h1 : isB L i [61] <;> rw [h1] at h
  case true => cases h; exact ⟨by decide, by decide, isB_len h1⟩
  rw [cond_false] at h
  cases h2 : isB L i [60, 62] <;> rw [h2] at h
  case true => cases h; exact ⟨by decide, by decide, isB_len h2⟩
  rw [cond_false] at h
  cases h3 : isB L i [60] <;> rw [h3] at h
  case true => cases h; exact ⟨by decide, by decide, isB_len h3⟩
  rw [cond_false] at h
  cases h4 : isB L i [60, 61] <;> rw [h4] at h
  case true => cases h; exact ⟨by decide, by decide, isB_len h4⟩
  rw [cond_false] at h
  cases h5 : isB L i [62] <;> rw [h5] at h
  case true => cases h; exact ⟨by decide, by decide, isB_len h5⟩
  rw [cond_false] at h
  cases h6 : isB L i [62, 61] <;> rw [h6] at h
  case true => cases h; exact ⟨by decide, by decide, isB_len h6⟩
  cases h

theorem rd12_bad {p : Nat} (hp : p = 1 ∨ p = 2) {r : RS} {y : RV} (h1 : rd (p + 1) r = some y) (hb : Bad y.1) : rd p r = some y := by
  rcases hp with rfl | rfl
  · simp only [rd] at h1
    exact or15 (by simp only [r15, h1, Option.bind_some, take_bad hb, cond_false])
  · simp only [rd] at h1
    exact or16 (by simp only [r16, h1, Option.bind_some, take_bad hb, cond_false])
theorem rd6_bad {r : RS} {y : RV} (h1 : rd 7 r = some y) (hb : Bad y.1) : rd 6 r = some y := by
  simp only [rd] at h1
  exact or20 (by simp only [r20, h1, Option.bind_some, take_bad hb, cond_false])

section
variable {L : List Tok3} (hL : L.length ≤ 100000)
include hL

/-- What is so of all that begins behind a place. -/
def IH (L : List Tok3) (i : Nat) : Prop := ∀ (p j : Nat) (o : Int), 1 ≤ p → p ≤ 9 → i < j → j ≤ L.length → 0 ≤ o → o ≤ 200 → ∃ y, rd p ((L, ((j : Nat) : Int), o, (0 : Int), (0 : Int)) : RS) = some y ∧ Good L j o y

theorem loop_good {i : Nat} (ih : IH L i) {l : Nat} (hl : LA l) {o : Int} (h0 : 0 ≤ o) (ho : o ≤ 200) : ∀ (m j : Nat) (v : Tr), L.length - j ≤ m → i < j → j ≤ L.length → Fine v → v.size + i ≤ j → ∃ y, lp l ((L, ((j : Nat) : Int), o, (0 : Int), (0 : Int)) : RS) (flat v 0) = some y ∧ Good L i o y := by
  intro m
  induction m with
  | zero =>
    intro j v hm hij hj hv hs
    have : opq l L j = none := by
      cases h : opq l L j with
      | none => rfl
      | some op => have := (opq_some hl h).2.2; omega
    exact ⟨_, lp_step hl (by omega) (by rw [this]), .inr ⟨j, v, rfl, hij, hj, hv, hs⟩⟩
  | succ m ihm =>
    intro j v hm hij hj hv hs
    cases h : opq l L j with
    | none => exact ⟨_, lp_step hl (by omega) (by rw [h]), .inr ⟨j, v, rfl, hij, hj, hv, hs⟩⟩
    | some op =>
      obtain ⟨q1, q2, q3⟩ := opq_some hl h
      obtain ⟨y, hy, hg⟩ := ih (l + 1) (j + 1) o (by omega) (by unfold LA at hl; omega) (by omega) (by omega) h0 ho
      rcases hg with hb | ⟨j', t, rfl, g1, g2, g3, g4⟩
      · refine ⟨(y.1, []), lp_step hl (by omega) ?_, .inl hb⟩
        rw [h]
        simp only [hy, Option.bind_some, join_bad hb, lp_bad hl hb]
      · have hvs := v.size_pos
        obtain ⟨z, hz, hgz⟩ := ihm j' (.mk (op, -1, -1, -1, 0, []) [v, t]) (by omega) (by omega) g2 (fine_bin ⟨q1, q2⟩ hv g3) (by rw [size2]; omega)
        refine ⟨z, lp_step hl (by omega) ?_, hgz⟩
        rw [h]
        simp only [hy, Option.bind_some, join_eq L j' o op (a := flat v 0) (b := flat t 0) (by rw [flat_len]; omega) (by rw [flat_len]; omega), jn2' ⟨q1, q2⟩ hv.v (show v.size ≤ 100000 by omega) g3.v (show t.size ≤ 100000 by omega), hz]

theorem down_good {i : Nat} (ih : IH L i) (hi : i ≤ L.length) {o : Int} (h0 : 0 ≤ o) (ho : o ≤ 200) (h9 : ∃ y, rd 9 ((L, ((i : Nat) : Int), o, (0 : Int), (0 : Int)) : RS) = some y ∧ Good L i o y) : ∀ p, 1 ≤ p → p ≤ 9 → ∃ y, rd p ((L, ((i : Nat) : Int), o, (0 : Int), (0 : Int)) : RS) = some y ∧ Good L i o y := by
  have step : ∀ p, 1 ≤ p → p ≤ 8 → (∃ y, rd (p + 1) ((L, ((i : Nat) : Int), o, (0 : Int), (0 : Int)) : RS) = some y ∧ Good L i o y) → ∃ y, rd p ((L, ((i : Nat) : Int), o, (0 : Int), (0 : Int)) : RS) = some y ∧ Good L i o y := by
    rintro p p1 p8 ⟨y, hy, hg⟩
    by_cases h12 : p = 1 ∨ p = 2
    · rcases hg with hb | ⟨j, v, rfl, g1, g2, g3, g4⟩
      · exact ⟨y, rd12_bad h12 hy hb, .inl hb⟩
      · cases h : opq1 p L j with
        | none => exact ⟨_, rd12 h12 (by omega) hy (by rw [h]), .inr ⟨j, v, rfl, g1, g2, g3, g4⟩⟩
        | some op =>
          obtain ⟨q1, q2, q3⟩ := opq1_some h12 h
          obtain ⟨z, hz, hgz⟩ := ih p (j + 1) o p1 (by omega) (by omega) (by omega) h0 ho
          rcases hgz with hb | ⟨j', t, rfl, k1, k2, k3, k4⟩
          · refine ⟨(z.1, []), rd12 h12 (by omega) hy ?_, .inl hb⟩
            rw [h]
            simp only [hz, Option.bind_some, join_bad hb]
          · refine ⟨_, rd12 h12 (by omega) hy ?_, .inr ⟨j', .mk (op, -1, -1, -1, 0, []) [v, t], rfl, by omega, k2, fine_bin ⟨q1, q2⟩ g3 k3, by rw [size2]; omega⟩⟩
            rw [h]
            simp only [hz, Option.bind_some, join_eq L j' o op (a := flat v 0) (b := flat t 0) (by rw [flat_len]; omega) (by rw [flat_len]; omega), jn2' ⟨q1, q2⟩ g3.v (show v.size ≤ 100000 by omega) k3.v (show t.size ≤ 100000 by omega)]
    by_cases h6 : p = 6
    · subst h6
      rcases hg with hb | ⟨j, v, rfl, g1, g2, g3, g4⟩
      · exact ⟨y, rd6_bad hy hb, .inl hb⟩
      · cases h : opq6 L j with
        | none => exact ⟨_, rd6 (by omega) hy (by rw [h]), .inr ⟨j, v, rfl, g1, g2, g3, g4⟩⟩
        | some x =>
          obtain ⟨op, sw⟩ := x
          obtain ⟨q1, q2, q3⟩ := opq6_some h
          obtain ⟨z, hz, hgz⟩ := ih 7 (j + 1) o (by omega) (by omega) (by omega) (by omega) h0 ho
          rcases hgz with hb | ⟨j', t, rfl, k1, k2, k3, k4⟩
          · refine ⟨(z.1, []), rd6 (by omega) hy ?_, .inl hb⟩
            rw [h]
            simp only [hz, Option.bind_some, join_bad hb]
          · cases sw with
            | false =>
              refine ⟨_, rd6 (by omega) hy ?_, .inr ⟨j', .mk (op, -1, -1, -1, 0, []) [v, t], rfl, by omega, k2, fine_bin ⟨q1, q2⟩ g3 k3, by rw [size2]; omega⟩⟩
              rw [h]
              simp only [hz, Option.bind_some, cond_false, join_eq L j' o op (a := flat v 0) (b := flat t 0) (by rw [flat_len]; omega) (by rw [flat_len]; omega), jn2' ⟨q1, q2⟩ g3.v (show v.size ≤ 100000 by omega) k3.v (show t.size ≤ 100000 by omega)]
            | true =>
              refine ⟨_, rd6 (by omega) hy ?_, .inr ⟨j', .mk (op, -1, -1, -1, 0, []) [t, v], rfl, by omega, k2, fine_bin ⟨q1, q2⟩ k3 g3, by rw [size2]; omega⟩⟩
              rw [h]
              simp only [hz, Option.bind_some, cond_true, join_eq L j' o op (a := flat t 0) (b := flat v 0) (by rw [flat_len]; omega) (by rw [flat_len]; omega), jn2' ⟨q1, q2⟩ k3.v (show t.size ≤ 100000 by omega) g3.v (show v.size ≤ 100000 by omega)]
    have hl : LA p := by unfold LA; omega
    rcases hg with hb | ⟨j, v, rfl, g1, g2, g3, g4⟩
    · exact ⟨y, rd_lp hl hy (lp_bad hl hb y.2), .inl hb⟩
    · obtain ⟨z, hz, hgz⟩ := loop_good hL ih hl h0 ho L.length j v (by omega) g1 g2 g3 g4
      exact ⟨z, rd_lp hl hy hz, hgz⟩
  have go : ∀ m p, 9 ≤ p + m → 1 ≤ p → p ≤ 9 → ∃ y, rd p ((L, ((i : Nat) : Int), o, (0 : Int), (0 : Int)) : RS) = some y ∧ Good L i o y := by
    intro m
    induction m with
    | zero => intro p h1 h2 h3; have : p = 9 := by omega
              subst this; exact h9
    | succ m ihm =>
      intro p h1 h2 h3
      by_cases hp : p = 9
      · subst hp; exact h9
      · exact step p h2 (by omega) (ihm (p + 1) (by omega) (by omega) (by omega))
  intro p p1 p9
  exact go 9 p (by omega) p1 p9

/-! ### Operands -/
theorem need_any {j : Nat} (hj : j ≤ L.length) (o : Int) (s : Str) : ∃ r', c37 T.rf ((L, ((j : Nat) : Int), o, (0 : Int), (0 : Int)) : RS) s = some r' ∧ (Bad r' ∨ (r' = ((L, ((j + 1 : Nat) : Int), o, (0 : Int), (0 : Int)) : RS) ∧ j + 1 ≤ L.length)) := by
  cases h : isB L j s with
  | true => exact ⟨_, need_eq (by omega) o h, .inr ⟨rfl, isB_len h⟩⟩
  | false => obtain ⟨r', h1, h2⟩ := need_not (show j ≤ 2000000 by omega) o h
             exact ⟨r', h1, .inl h2⟩

/-- Arguments. -/
theorem args_good {i : Nat} (ih : IH L i) {o : Int} (h0 : 0 ≤ o) (ho : o ≤ 200) {j0 : Nat} : ∀ (m j : Nat) (ts : List Tr), L.length - j ≤ m → i < j → j ≤ L.length → (∀ t ∈ ts, Fine t) → sizes ts + ts.length + j0 ≤ j →
    ∃ z, k16 T.rb ((L, ((j : Nat) : Int), o, (0 : Int), (0 : Int)) : RS) (ts.map fun t => flat t 0) = some z ∧
      ((∃ r' out, z = .inl (r', out) ∧ Bad r') ∨ (∃ r', z = .inr r' ∧ Bad r') ∨ ∃ (j' : Nat) (us : List Tr), z = .inl (((L, ((j' : Nat) : Int), o, (0 : Int), (0 : Int)) : RS), us.map fun t => flat t 0) ∧ j < j' ∧ j' ≤ L.length ∧ (∀ t ∈ us, Fine t) ∧ sizes us + us.length + j0 ≤ j') := by
  intro m
  induction m with
  | zero =>
    intro j ts hm hij hj hts hs
    obtain ⟨y, hy, hg⟩ := ih 1 j o (by omega) (by omega) hij hj h0 ho
    simp only [rd] at hy
    rcases hg with hb | ⟨j', t, rfl, g1, g2, g3, g4⟩
    · refine ⟨.inr y.1, args_step (r' := y.1) (v := y.2) rfl hy (by rw [List.length_map]; omega) ?_, .inr (.inl ⟨_, rfl, hb⟩)⟩
      simp only [tailA, take_bad hb, Option.bind_some, cond_false, need_bad hb]
      exact ob16 (by simp only [b16, bf hb, cond_false])
    · omega
  | succ m ihm =>
    intro j ts hm hij hj hts hs
    obtain ⟨y, hy, hg⟩ := ih 1 j o (by omega) (by omega) hij hj h0 ho
    simp only [rd] at hy
    have badL : ∀ (r' : RS) (out : List (List Nd)), Bad r' → k16 T.rb r' out = some (.inr r') := fun r' out hb =>
      ob16 (by simp only [b16, bf hb, cond_false])
    rcases hg with hb | ⟨j', t, rfl, g1, g2, g3, g4⟩
    · refine ⟨.inr y.1, args_step (r' := y.1) (v := y.2) rfl hy (by rw [List.length_map]; omega) ?_, .inr (.inl ⟨_, rfl, hb⟩)⟩
      simp only [tailA, take_bad hb, Option.bind_some, cond_false, need_bad hb]
      exact badL _ _ hb
    · have hfs : ∀ u ∈ ts ++ [t], Fine u := fun u hu => (List.mem_append.1 hu).elim (hts u) fun h => by rw [List.mem_singleton.1 h]; exact g3
      have sapp : ∀ (a : List Tr) (b : Tr), sizes (a ++ [b]) = sizes a + b.size := by
        intro a
        induction a with
        | nil => intro b; simp [sizes]
        | cons x a iha => intro b; rw [List.cons_append, sizes, sizes, iha b]; omega
      have em : (ts.map fun t => flat t 0) ++ [flat t 0] = (ts ++ [t]).map fun t => flat t 0 := by rw [List.map_append]; rfl
      cases hc : isB L j' [41] with
      | true =>
        have hjl := isB_len hc
        refine ⟨_, args_step rfl hy (by rw [List.length_map]; omega) (y := .inl (((L, ((j' + 1 : Nat) : Int), o, (0 : Int), (0 : Int)) : RS), (ts ++ [t]).map fun t => flat t 0)) ?_, .inr (.inr ⟨j' + 1, ts ++ [t], rfl, by omega, hjl, hfs, by rw [sapp, List.length_append]; simp only [List.length_cons, List.length_nil]; omega⟩)⟩
        rw [em]
        simp only [tailA, take_eq L (show j' ≤ 2000000 by omega), hc, cond_true, Option.bind_some]
      | false =>
        obtain ⟨r', n1, n2⟩ := need_any hL g2 o [44]
        rcases n2 with n2 | ⟨rfl, n3⟩
        · refine ⟨.inr r', args_step rfl hy (by rw [List.length_map]; omega) ?_, .inr (.inl ⟨_, rfl, n2⟩)⟩
          simp only [tailA, take_eq L (show j' ≤ 2000000 by omega), hc, cond_false, Option.bind_some, n1]
          exact badL _ _ n2
        · obtain ⟨z, hz, hgz⟩ := ihm (j' + 1) (ts ++ [t]) (by omega) (by omega) n3 hfs (by rw [sapp, List.length_append]; simp only [List.length_cons, List.length_nil]; omega)
          refine ⟨z, args_step rfl hy (by rw [List.length_map]; omega) ?_, ?_⟩
          · rw [em]
            simp only [tailA, take_eq L (show j' ≤ 2000000 by omega), hc, cond_false, Option.bind_some, n1]
            exact hz
          · rcases hgz with h | h | ⟨j2, us, h1, h2, h3⟩
            · exact .inl h
            · exact .inr (.inl h)
            · exact .inr (.inr ⟨j2, us, h1, by omega, h3⟩)

theorem named_good {i : Nat} (ih : IH L i) (hi : i < L.length) {o : Int} (h0 : 0 ≤ o) (ho : o ≤ 200) {nm : Str} (hn : nameB nm = true) : ∃ y, c33 T.rf ((L, ((i : Nat) : Int), o, (0 : Int), (0 : Int)) : RS) nm = some y ∧ Good L i o y := by
  have hw := wr_succ (show i < 4611686018427387904 by omega)
  cases hp : isB L (i + 1) [40] with
  | false =>
    exact ⟨_, or33 (by simp only [r33, hw, take_eq L (show i + 1 ≤ 2000000 by omega), hp, cond_false, Option.bind_some, Bool.not_false, cond_true, jn0 (op := 3) (n := 0) (nm := nm) (by decide) (by decide) rfl]),
      .inr ⟨i + 1, _, rfl, by omega, by omega, fine_var hn, by rw [size0]; omega⟩⟩
  | true =>
    have hp1 := isB_len hp
    have fin : ∀ (A : RS × List (List Nd)), c36 T.rf ((L, ((i + 1 + 1 : Nat) : Int), o, (0 : Int), (0 : Int)) : RS) = some A → (Bad A.1 ∨ ∃ (j' : Nat) (us : List Tr), A = (((L, ((j' : Nat) : Int), o, (0 : Int), (0 : Int)) : RS), us.map fun t => flat t 0) ∧ i < j' ∧ j' ≤ L.length ∧ (∀ t ∈ us, Fine t) ∧ sizes us + us.length + (i + 1 + 1) ≤ j') →
        ∃ y, c33 T.rf ((L, ((i : Nat) : Int), o, (0 : Int), (0 : Int)) : RS) nm = some y ∧ Good L i o y := by
      intro A hA hg
      rcases hg with hb | ⟨j', us, rfl, g1, g2, g3, g4⟩
      · exact ⟨(A.1, []), or33 (by simp only [r33, hw, take_eq L (show i + 1 ≤ 2000000 by omega), hp, cond_true, Option.bind_some, Bool.not_true, cond_false, hA, nbf hb]), .inl hb⟩
      · obtain ⟨f1, f2⟩ := fine_call (nm := nm) hn g3
        exact ⟨(((L, ((j' : Nat) : Int), o, (0 : Int), (0 : Int)) : RS), flat (callT nm us) 0), or33 (by simp only [r33, hw, take_eq L (show i + 1 ≤ 2000000 by omega), hp, cond_true, Option.bind_some, Bool.not_true, cond_false, hA, z0, jnC (nm := nm) (valids_of g3) (show sizes us + us.length ≤ 1000000 by omega)]),
          .inr ⟨j', _, rfl, g1, g2, f1, by rw [f2]; omega⟩⟩
    cases hc : isB L (i + 1 + 1) [41] with
    | true =>
      have := isB_len hc
      exact fin _ (or36 (by simp only [r36, take_eq L (show i + 1 + 1 ≤ 2000000 by omega), hc, cond_true, Option.bind_some]; rfl)) (.inr ⟨i + 1 + 1 + 1, [], rfl, by omega, by omega, fun t ht => (by cases ht), by simp [sizes]⟩)
    | false =>
      obtain ⟨z, hz, hg⟩ := args_good hL ih h0 ho (j0 := i + 1 + 1) L.length (i + 1 + 1) [] (by omega) (by omega) (by omega) (fun t ht => by cases ht) (by simp [sizes])
      rw [List.map_nil] at hz
      rcases hg with ⟨r', out, rfl, hb⟩ | ⟨r', rfl, hb⟩ | ⟨j', us, rfl, g1, g2, g3, g4⟩
      · exact fin (r', out) (or36 (by simp only [r36, take_eq L (show i + 1 + 1 ≤ 2000000 by omega), hc, cond_false, Option.bind_some, hz])) (.inl hb)
      · exact fin (r', []) (or36 (by simp only [r36, take_eq L (show i + 1 + 1 ≤ 2000000 by omega), hc, cond_false, Option.bind_some, hz])) (.inl hb)
      · exact fin _ (or36 (by simp only [r36, take_eq L (show i + 1 + 1 ≤ 2000000 by omega), hc, cond_false, Option.bind_some, hz])) (.inr ⟨j', us, rfl, by omega, g2, g3, g4⟩)

theorem within_good (hok : ∀ x ∈ L, Okk x) {i : Nat} (ih : IH L i) (hi : i < L.length) {o : Int} (h0 : 0 ≤ o) (ho : o ≤ 200) : ∃ y, c39 T.rf ((L, ((i : Nat) : Int), o, (0 : Int), (0 : Int)) : RS) = some y ∧ Good L i o y := by
  have hw1 := wr_succ (show i < 4611686018427387904 by omega)
  have hw2 := wr_succ (show i + 1 < 4611686018427387904 by omega)
  obtain ⟨r', f1, f2⟩ := fail_any ((L, ((i + 1 : Nat) : Int), o, (0 : Int), (0 : Int)) : RS) (e := 5) (by decide)
  by_cases hlen : i + 1 < L.length
  case neg =>
    exact ⟨(r', []), or39 (by simp only [r39, hw1, dt (show ((i + 1 : Nat) : Int) ≥ ((L.length : Nat) : Int) by omega), cond_true, f1, Option.bind_some]), .inl f2⟩
  have hx := nth_t hlen
  have hm : L[i + 1] ∈ L := List.getElem_mem hlen
  have hok1 := hok _ hm
  generalize L[i + 1] = x at *
  by_cases hk : x.1 = 2
  case neg =>
    exact ⟨(r', []), or39 (by simp only [r39, hw1, df (show ¬ ((i + 1 : Nat) : Int) ≥ ((L.length : Nat) : Int) by omega), cond_false, inb_t (show (0 : Int) ≤ ((i + 1 : Nat) : Int) by omega) (show ((i + 1 : Nat) : Int) < ((L.length : Nat) : Int) by omega), cond_true, Int.toNat_natCast, hx, Option.bind_some, nbf hk, f1]), .inl f2⟩
  have hv : 0 ≤ valF 0 x.2.1 ∧ valF 0 x.2.1 ≤ 2147483647 ∧ x.2.1.length ≤ 1000000 := by
    rcases hok1 with h | h | h | h
    · omega
    · exact h.2
    · omega
    · omega
  by_cases h1000 : valF 0 x.2.1 ≤ 1000
  case neg =>
    exact ⟨(r', []), or39 (by simp only [r39, hw1, df (show ¬ ((i + 1 : Nat) : Int) ≥ ((L.length : Nat) : Int) by omega), cond_false, inb_t (show (0 : Int) ≤ ((i + 1 : Nat) : Int) by omega) (show ((i + 1 : Nat) : Int) < ((L.length : Nat) : Int) by omega), cond_true, Int.toNat_natCast, hx, Option.bind_some, nbt hk, value_eq hv.2.2, dt (show valF 0 x.2.1 > 1000 by omega), f1]), .inl f2⟩
  obtain ⟨y, hy, hg⟩ := ih 9 (i + 1 + 1) o (by omega) (by omega) (by omega) (by omega) h0 ho
  simp only [rd] at hy
  rcases hg with hb | ⟨j', t, rfl, g1, g2, g3, g4⟩
  · exact ⟨(y.1, []), or39 (by simp only [r39, hw1, hw2, df (show ¬ ((i + 1 : Nat) : Int) ≥ ((L.length : Nat) : Int) by omega), cond_false, inb_t (show (0 : Int) ≤ ((i + 1 : Nat) : Int) by omega) (show ((i + 1 : Nat) : Int) < ((L.length : Nat) : Int) by omega), cond_true, Int.toNat_natCast, hx, Option.bind_some, nbt hk, value_eq hv.2.2, df (show ¬ valF 0 x.2.1 > 1000 by omega), hy, nbf hb]), .inl hb⟩
  · exact ⟨(((L, ((j' : Nat) : Int), o, (0 : Int), (0 : Int)) : RS), flat (.mk (25, -1, -1, -1, valF 0 x.2.1, []) [t]) 0), or39 (by simp only [r39, hw1, hw2, df (show ¬ ((i + 1 : Nat) : Int) ≥ ((L.length : Nat) : Int) by omega), cond_false, inb_t (show (0 : Int) ≤ ((i + 1 : Nat) : Int) by omega) (show ((i + 1 : Nat) : Int) < ((L.length : Nat) : Int) by omega), cond_true, Int.toNat_natCast, hx, Option.bind_some, nbt hk, value_eq hv.2.2, df (show ¬ valF 0 x.2.1 > 1000 by omega), hy, z0, jn1 (op := 25) (n := valF 0 x.2.1) (by decide) g3.v (show t.size ≤ 100000 by omega)]),
      .inr ⟨j', _, rfl, by omega, g2, fine_un (by decide) ⟨hv.1, by show valF 0 x.2.1 ≤ 1000; omega⟩ g3, by rw [size1]; omega⟩⟩

theorem choice_good {i : Nat} (ih : IH L i) (hi : i + 1 ≤ L.length) {o : Int} (h0 : 0 ≤ o) (ho : o ≤ 200) : ∃ y, c40 T.rf ((L, ((i + 1 : Nat) : Int), o, (0 : Int), (0 : Int)) : RS) = some y ∧ Good L i o y := by
  obtain ⟨y1, e1, g1⟩ := ih 1 (i + 1) o (by omega) (by omega) (by omega) hi h0 ho
  simp only [rd] at e1
  have arrow_bad : ∀ {r : RS}, Bad r → c15 T.rf r = some (r, []) := fun {r} hb => rd_bad hb 1 (by omega) (by omega)
  have b1 : Bad y1.1 → ∃ y, c40 T.rf ((L, ((i + 1 : Nat) : Int), o, (0 : Int), (0 : Int)) : RS) = some y ∧ Good L i o y := fun hb =>
    ⟨(y1.1, []), or40 (by simp only [r40, e1, Option.bind_some, need_bad hb, arrow_bad hb, nbf hb, cond_true]), .inl hb⟩
  rcases g1 with hb | ⟨j1, t, rfl, k1, k2, k3, k4⟩
  · exact b1 hb
  obtain ⟨r1, n1, m1⟩ := need_any hL k2 o [116, 104, 101, 110]
  rcases m1 with hb | ⟨rfl, m1⟩
  · exact ⟨(r1, []), or40 (by simp only [r40, e1, Option.bind_some, n1, need_bad hb, arrow_bad hb, nbf hb, cond_true]), .inl hb⟩
  obtain ⟨y2, e2, g2⟩ := ih 1 (j1 + 1) o (by omega) (by omega) (by omega) m1 h0 ho
  simp only [rd] at e2
  rcases g2 with hb | ⟨j2, u, rfl, l1, l2, l3, l4⟩
  · exact ⟨(y2.1, []), or40 (by simp only [r40, e1, Option.bind_some, n1, e2, need_bad hb, arrow_bad hb, nbf hb, cond_true]), .inl hb⟩
  obtain ⟨r2, n2, m2⟩ := need_any hL l2 o [101, 108, 115, 101]
  rcases m2 with hb | ⟨rfl, m2⟩
  · exact ⟨(r2, []), or40 (by simp only [r40, e1, Option.bind_some, n1, e2, n2, arrow_bad hb, nbf hb, cond_true]), .inl hb⟩
  obtain ⟨y3, e3, g3⟩ := ih 1 (j2 + 1) o (by omega) (by omega) (by omega) m2 h0 ho
  simp only [rd] at e3
  rcases g3 with hb | ⟨j3, v, rfl, p1, p2, p3, p4⟩
  · exact ⟨(y3.1, []), or40 (by simp only [r40, e1, Option.bind_some, n1, e2, n2, e3, nbf hb, cond_true]), .inl hb⟩
  exact ⟨(((L, ((j3 : Nat) : Int), o, (0 : Int), (0 : Int)) : RS), flat (.mk (26, -1, -1, -1, 0, []) [t, u, v]) 0), or40 (by simp only [r40, e1, Option.bind_some, n1, e2, n2, e3, z0, cond_false, jn3 k3.v (show t.size ≤ 100000 by omega) l3.v (show u.size ≤ 100000 by omega) p3.v (show v.size ≤ 100000 by omega)]),
    .inr ⟨j3, _, rfl, by omega, p2, fine_ite k3 l3 p3, by rw [size3]; omega⟩⟩

omit hL in
theorem pre_any (u : Str) : ∃ z, c38 T.rf u = some z ∧ (z = 0 ∨ z = 4 ∨ z = 5 ∨ z = 21 ∨ z = 22 ∨ z = 23 ∨ z = 24 ∨ z = 25) := by
  have h : ∃ z, r38 T.rf T.rb u = some z ∧ (z = 0 ∨ z = 4 ∨ z = 5 ∨ z = 21 ∨ z = 22 ∨ z = 23 ∨ z = 24 ∨ z = 25) := by
    simp only [r38]
    cases u == ([110, 111, 116] : Str)
    case true => exact ⟨4, rfl, by decide⟩
    cases u == ([45] : Str)
    case true => exact ⟨5, rfl, by decide⟩
    cases u == ([112, 114, 101] : Str)
    case true => exact ⟨21, rfl, by decide⟩
    cases u == ([111, 110, 99, 101] : Str)
    case true => exact ⟨22, rfl, by decide⟩
    cases u == ([104, 105, 115, 116] : Str)
    case true => exact ⟨23, rfl, by decide⟩
    cases u == ([112, 114, 101, 118] : Str)
    case true => exact ⟨24, rfl, by decide⟩
    cases u == ([119, 105, 116, 104, 105, 110] : Str)
    case true => exact ⟨25, rfl, by decide⟩
    exact ⟨0, rfl, by decide⟩
  obtain ⟨z, h1, h2⟩ := h
  exact ⟨z, or38 h1, h2⟩

theorem begW_good (hok : ∀ x ∈ L, Okk x) {i : Nat} (ih : IH L i) (hi : i < L.length) {o : Int} (h0 : 0 ≤ o) (ho : o ≤ 200) (u : Str) : ∃ y, begW L i o u = some y ∧ Good L i o y := by
  obtain ⟨z, hz, hzz⟩ := pre_any u
  unfold begW
  rw [hz, Option.bind_some]
  by_cases h25 : z = 25
  · rw [bt h25, cond_true]
    exact within_good hL hok ih hi h0 ho
  rw [bf h25, cond_false]
  by_cases hz0 : z = 0
  case neg =>
    rw [dt (show z > 0 by omega), cond_true]
    obtain ⟨y, hy, hg⟩ := ih 9 (i + 1) o (by omega) (by omega) (by omega) hi h0 ho
    simp only [rd] at hy
    rw [hy, Option.bind_some]
    rcases hg with hb | ⟨j', t, rfl, g1, g2, g3, g4⟩
    · rw [nbf hb, cond_true]
      exact ⟨_, rfl, .inl hb⟩
    · refine ⟨(((L, ((j' : Nat) : Int), o, (0 : Int), (0 : Int)) : RS), flat (.mk (z, -1, -1, -1, 0, []) [t]) 0), ?_, .inr ⟨j', _, rfl, by omega, g2, fine_un (by omega) ⟨by omega, ?_⟩ g3, by rw [size1]; omega⟩⟩
      · simp only [z0, cond_false, jn1 (op := z) (n := 0) (by omega) g3.v (show t.size ≤ 100000 by omega), Option.bind_some]
      · have : mostN z = 0 := by unfold mostN; rw [if_neg (by omega), if_neg (by omega), if_neg h25]
        omega
  rw [df (show ¬ z > 0 by omega), cond_false]
  have lf : ∀ n : Int, (n = 0 ∨ n = 1) → join 2 n [] [] = flat (.mk (2, -1, -1, -1, n, []) []) 0 := fun n hn => join_flat (op := 2) (n := n) (nm := []) (ts := []) (by decide) (by decide) rfl trivial (by simp [sizes])
  have m2 : mostN 2 = 1 := rfl
  cases isB L i [116, 114, 117, 101] with
  | true => exact ⟨_, rfl, .inr ⟨i + 1, .mk (2, -1, -1, -1, 1, []) [], by rw [lf 1 (.inr rfl)], by omega, hi, fine_leaf (.inr rfl) ⟨by omega, by omega⟩, by rw [size0]; omega⟩⟩
  | false =>
  rw [cond_false]
  cases isB L i [102, 97, 108, 115, 101] with
  | true => exact ⟨_, rfl, .inr ⟨i + 1, .mk (2, -1, -1, -1, 0, []) [], by rw [lf 0 (.inl rfl)], by omega, hi, fine_leaf (.inr rfl) ⟨by omega, by omega⟩, by rw [size0]; omega⟩⟩
  | false =>
  rw [cond_false]
  cases isB L i [40] with
  | true =>
    rw [cond_true]
    obtain ⟨y, hy, hg⟩ := ih 1 (i + 1) o (by omega) (by omega) (by omega) hi h0 ho
    simp only [rd] at hy
    rw [hy, Option.bind_some]
    rcases hg with hb | ⟨j', t, rfl, g1, g2, g3, g4⟩
    · rw [need_bad hb]
      exact ⟨_, rfl, .inl hb⟩
    · obtain ⟨r', n1, n2⟩ := need_any hL g2 o [41]
      simp only [n1, Option.bind_some]
      rcases n2 with n2 | ⟨rfl, n3⟩
      · exact ⟨_, rfl, .inl n2⟩
      · exact ⟨_, rfl, .inr ⟨j' + 1, t, rfl, by omega, n3, g3, by omega⟩⟩
  | false =>
  rw [cond_false]
  cases isB L i [105, 102] with
  | true => exact choice_good hL ih hi h0 ho
  | false =>
    obtain ⟨r', f1, f2⟩ := fail_any ((L, ((i : Nat) : Int), o, (0 : Int), (0 : Int)) : RS) (e := 5) (by decide)
    exact ⟨(r', []), f1, .inl f2⟩

theorem operand_good (hok : ∀ x ∈ L, Okk x) {i : Nat} (ih : IH L i) (hi : i ≤ L.length) {o : Int} (h0 : 0 ≤ o) (ho : o ≤ 200) : ∃ y, rd 9 ((L, ((i : Nat) : Int), o, (0 : Int), (0 : Int)) : RS) = some y ∧ Good L i o y := by
  by_cases h200 : o ≥ 200
  · obtain ⟨r', f1, f2⟩ := fail_any ((L, ((i : Nat) : Int), o, (0 : Int), (0 : Int)) : RS) (e := 6) (by decide)
    exact ⟨(r', []), or23 (by simp only [r23, z0, cond_false, dt h200, cond_true, f1, Option.bind_some]), .inl f2⟩
  by_cases hlt : i < L.length
  case neg =>
    obtain ⟨r', f1, f2⟩ := fail_any ((L, ((i : Nat) : Int), o, (0 : Int), (0 : Int)) : RS) (e := 5) (by decide)
    exact ⟨(r', []), or23 (by simp only [r23, z0, cond_false, df h200, dt (show ((i : Nat) : Int) ≥ ((L.length : Nat) : Int) by omega), cond_true, f1, Option.bind_some]), .inl f2⟩
  have hx := nth_t hlt
  have hok1 := hok _ (List.getElem_mem hlt)
  generalize L[i] = x at *
  have hw := wr_succ (show i < 4611686018427387904 by omega)
  have hbeg : ∃ y, c26 T.rf ((L, ((i : Nat) : Int), o + 1, (0 : Int), (0 : Int)) : RS) x = some y ∧ Good L i (o + 1) y := by
    rcases hok1 with ⟨h1, h2⟩ | ⟨h1, h2, h3, h4⟩ | h1 | h1
    · obtain ⟨y, hy, hg⟩ := named_good hL ih hlt (o := o + 1) (by omega) (by omega) h2
      exact ⟨y, or26 (by simp only [r26, bf (show x.1 ≠ 2 by omega), bt h1, cond_true, cond_false, hy, Option.bind_some]), hg⟩
    · exact ⟨(((L, ((i + 1 : Nat) : Int), o + 1, (0 : Int), (0 : Int)) : RS), flat (.mk (1, -1, -1, -1, valF 0 x.2.1, []) []) 0), or26 (by simp only [r26, bt h1, cond_true, value_eq h4, Option.bind_some, jn0 (op := 1) (n := valF 0 x.2.1) (nm := []) (by decide) (by decide) rfl, hw]),
        .inr ⟨i + 1, _, rfl, by omega, hlt, fine_leaf (.inl rfl) ⟨h2, h3⟩, by rw [size0]; omega⟩⟩
    · obtain ⟨y, hy, hg⟩ := begW_good hL hok ih hlt (o := o + 1) (by omega) (by omega) x.2.1
      exact ⟨y, begun_word (by omega) (.inr h1) hy, hg⟩
    · obtain ⟨y, hy, hg⟩ := begW_good hL hok ih hlt (o := o + 1) (by omega) (by omega) x.2.1
      exact ⟨y, begun_word (by omega) (.inl h1) hy, hg⟩
  obtain ⟨y, hy, hg⟩ := hbeg
  have e1 : IntKind.i64.wrap (o + 1) = o + 1 := wr (by omega)
  rcases hg with hb | ⟨j', t, rfl, g⟩
  · exact ⟨((y.1.1, y.1.2.1, IntKind.i64.wrap (y.1.2.2.1 - 1), y.1.2.2.2), y.2), or23 (by
      simp only [r23, z0, cond_false, df h200, df (show ¬ ((i : Nat) : Int) ≥ ((L.length : Nat) : Int) by omega), inb_t (show (0 : Int) ≤ ((i : Nat) : Int) by omega) (show ((i : Nat) : Int) < ((L.length : Nat) : Int) by omega), cond_true, Int.toNat_natCast, hx, Option.bind_some, e1, hy]), .inl hb⟩
  · exact ⟨_, operand_of hx h0 (by omega) hy, .inr ⟨j', t, rfl, g⟩⟩

/-- **Whatever is read.** -/
theorem all_good (hok : ∀ x ∈ L, Okk x) : ∀ (m i : Nat), L.length - i ≤ m → i ≤ L.length → ∀ (p : Nat) (o : Int), 1 ≤ p → p ≤ 9 → 0 ≤ o → o ≤ 200 → ∃ y, rd p ((L, ((i : Nat) : Int), o, (0 : Int), (0 : Int)) : RS) = some y ∧ Good L i o y := by
  intro m
  induction m with
  | zero =>
    intro i h1 h2 p o p1 p9 h0 ho
    have ih : IH L i := fun p j o _ _ h3 h4 => by omega
    exact down_good hL ih h2 h0 ho (operand_good hL hok ih h2 h0 ho) p p1 p9
  | succ m ihm =>
    intro i h1 h2 p o p1 p9 h0 ho
    have ih : IH L i := fun p j o p1 p9 h3 h4 h5 h6 => ihm j (by omega) h4 p o p1 p9 h5 h6
    exact down_good hL ih h2 h0 ho (operand_good hL hok ih h2 h0 ho) p p1 p9
end

end Go.Proofs.YtoippcahbninnaaGreatDoor.R
