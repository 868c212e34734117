import Derived.Test.YtlobhcgbmpcdlaaGreatDoorShwV
open Option (bind_some)
namespace Go.Proofs.YtlobhcgbmpcdlaaGreatDoor.R
open Go Go.Bm Go.Proofs
set_option linter.unusedVariables false
set_option linter.unusedSimpArgs false
set_option maxRecDepth 4000
theorem b3t {op n : Int} {nm : Str} (h : op = 1 ∨ op = 2 ∨ op = 3) (hn : 0 ≤ n ∧ n ≤ F2 op) (hs : nm ≠ [] ↔ op = 3) : Valid (.mk (op, -1, -1, -1, n, nm) []) := by
 refine ⟨rfl, fun l hl _ => ?_, by simp, ⟨by show 1 ≤ op; omega, by show op ≤ 28; omega, hn.1, hn.2, by show nm ≠ [] ↔ op = 3 ∨ op = 27; rw [hs]; omega⟩, rfl, trivial⟩
 have : l = [] := List.length_eq_zero_iff.1 hl
 subst this
 show kids (op, -1, -1, -1, n, nm) = []
 rcases h with rfl | rfl | rfl <;> rfl
theorem a2G {op n : Int} {nm : Str} (h27 : op ≠ 27) (h28 : op ≠ 28) (m a : Nat) {x : Int} (hx : x ≠ 28) : a5h (op, -1, -1, -1, n, nm) m a x = true := by
 unfold a5h
 rw [df hx, df (show ¬ op = 27 from h27), df (show ¬ op = 28 from h28)]; rfl
theorem c6D {op n : Int} {t : Tr} (h : op = 4 ∨ op = 5 ∨ op = 21 ∨ op = 22 ∨ op = 23 ∨ op = 24 ∨ op = 25) (hn : 0 ≤ n ∧ n ≤ F2 op) (hv : Valid t) (ho : t.op ≠ 28) : Valid (.mk (op, -1, -1, -1, n, []) [t]) := by
 refine ⟨rfl, fun l hl _ => ?_, by simp, ⟨by show 1 ≤ op; omega, by show op ≤ 28; omega, hn.1, hn.2, ?_⟩, ?_, hv, trivial⟩
 · match l, hl with
   | [x], _ => exact c3M (by omega) x n []
 · show ([] : Str) ≠ [] ↔ op = 3 ∨ op = 27
   constructor
   · intro h; exact absurd rfl h
   · intro h; omega
 · rw [K9, K9, a2G (by omega) (by omega) _ _ ho]; rfl
theorem c2d {op : Int} {t u : Tr} (h : 6 ≤ op ∧ op ≤ 20) (hv : Valid t) (ho : t.op ≠ 28) (hu : Valid u) (hou : u.op ≠ 28) : Valid (.mk (op, -1, -1, -1, 0, []) [t, u]) := by
 have hm : F2 op = 0 := by unfold F2; rw [if_neg (by omega), if_neg (by omega), if_neg (by omega)]
 refine ⟨rfl, fun l hl _ => ?_, by simp, ⟨by show 1 ≤ op; omega, by show op ≤ 28; omega, by show (0 : Int) ≤ 0; omega, by show (0 : Int) ≤ F2 op; omega, ?_⟩, ?_, hv, hu, trivial⟩
 · match l, hl with
   | [x, y], _ =>
     have e : aim (op, -1, -1, -1, 0, []) [x, y] = (op, x, y, -1, 0, []) := by
      show (if op = 28 then ((op, y, x, -1, 0, []) : Nd) else (op, x, y, -1, 0, [])) = _
      rw [if_neg (by omega)]
     rw [e]
     simp only [kids]
     rw [if_neg (by omega), if_neg (by omega), if_neg (by omega), if_pos h]
 · show ([] : Str) ≠ [] ↔ op = 3 ∨ op = 27
   constructor
   · intro h; exact absurd rfl h
   · intro h; omega
 · rw [K9, K9, K9, a2G (by omega) (by omega) _ _ ho, a2G (by omega) (by omega) _ _ hou]; rfl
theorem c2e {t u v : Tr} (hv : Valid t) (ho : t.op ≠ 28) (hu : Valid u) (hou : u.op ≠ 28) (hw : Valid v) (how : v.op ≠ 28) : Valid (.mk (26, -1, -1, -1, 0, []) [t, u, v]) := by
 refine ⟨rfl, fun l hl _ => ?_, by simp, ⟨by decide, by decide, by decide, by decide, by decide⟩, ?_, hv, hu, hw, trivial⟩
 · match l, hl with
   | [x, y, z], _ => simp [aim, kids]
 · rw [K9, K9, K9, K9, a2G (by omega) (by omega) _ _ ho, a2G (by omega) (by omega) _ _ hou, a2G (by omega) (by omega) _ _ how]; rfl
theorem c0b {u : Tr} (hv : Valid u) (ho : u.op ≠ 28) : Valid (.mk (28, -1, -1, -1, 0, []) [u]) := by
 refine ⟨rfl, fun l hl _ => ?_, by simp, ⟨by decide, by decide, by decide, by decide, by decide⟩, ?_, hv, trivial⟩
 · match l, hl with
   | [x], _ => simp [aim, kids]
 · simp [K9, a5h, ho]
theorem c0c {c u : Tr} (hc : Valid c) (hco : c.op = 28) (hv : Valid u) (ho : u.op ≠ 28) : Valid (.mk (28, -1, -1, -1, 0, []) [c, u]) := by
 refine ⟨rfl, fun l hl hx => ?_, by simp, ⟨by decide, by decide, by decide, by decide, by decide⟩, ?_, hc, hv, trivial⟩
 · match l, hl with
   | [x, y], _ =>
     have : x ≠ -1 := hx x (by simp)
     simp [aim, kids, this]
 · simp [K9, a5h, ho, hco]
theorem b7h {nm : Str} (h : nm ≠ []) : Valid (.mk (27, -1, -1, -1, 0, nm) []) := by
 refine ⟨rfl, fun l hl _ => ?_, by simp, ⟨by show (1 : Int) ≤ 27; decide, by show (27 : Int) ≤ 28; decide, by show (0 : Int) ≤ 0; omega, by show (0 : Int) ≤ F2 27; decide, ?_⟩, rfl, trivial⟩
 · have : l = [] := List.length_eq_zero_iff.1 hl
   subst this; simp [aim, kids]
 · show nm ≠ [] ↔ (27 : Int) = 3 ∨ (27 : Int) = 27
   exact ⟨fun _ => .inr rfl, fun _ => h⟩
theorem b7i {nm : Str} {c : Tr} (h : nm ≠ []) (hc : Valid c) (hco : c.op = 28) : Valid (.mk (27, -1, -1, -1, 0, nm) [c]) := by
 refine ⟨rfl, fun l hl hx => ?_, by simp, ⟨by show (1 : Int) ≤ 27; decide, by show (27 : Int) ≤ 28; decide, by show (0 : Int) ≤ 0; omega, by show (0 : Int) ≤ F2 27; decide, ?_⟩, ?_, hc, trivial⟩
 · match l, hl with
   | [x], _ =>
     have : x ≠ -1 := hx x (by simp)
     simp [aim, kids, this]
 · show nm ≠ [] ↔ (27 : Int) = 3 ∨ (27 : Int) = 27
   exact ⟨fun _ => .inr rfl, fun _ => h⟩
 · simp [K9, a5h, hco]
structure Fine (t : Tr) : Prop where
 v : Valid t
 o : t.op ≠ 28
 n : o5 t = true
theorem X4 (op a b c n : Int) : E8 (op, a, b, c, n, []) = true := rfl
theorem a8q {op a b c n : Int} {nm : Str} (h : u9 nm = true) : E8 (op, a, b, c, n, nm) = true := by
 rw [E8, Bool.or_eq_true]; exact .inr h
theorem a4E {nm : Str} (h : u9 nm = true) : nm ≠ [] := by
 intro hs; subst hs; exact absurd h (by decide)
theorem a5u {op n : Int} (h : op = 1 ∨ op = 2) (hn : 0 ≤ n ∧ n ≤ F2 op) : Fine (.mk (op, -1, -1, -1, n, []) []) :=
 ⟨b3t (by omega) hn (by constructor; · intro h; exact absurd rfl h
                        · intro h; omega), by show op ≠ 28; omega, by rw [o5, X4, j7]; rfl⟩
theorem b8e {nm : Str} (h : u9 nm = true) : Fine (.mk (3, -1, -1, -1, 0, nm) []) :=
 ⟨b3t (by omega) ⟨by omega, by decide⟩ ⟨fun _ => rfl, fun _ => a4E h⟩, by show (3 : Int) ≠ 28; decide, by rw [o5, a8q h, j7]; rfl⟩
theorem b4X {op n : Int} {t : Tr} (h : op = 4 ∨ op = 5 ∨ op = 21 ∨ op = 22 ∨ op = 23 ∨ op = 24 ∨ op = 25) (hn : 0 ≤ n ∧ n ≤ F2 op) (ht : Fine t) : Fine (.mk (op, -1, -1, -1, n, []) [t]) :=
 ⟨c6D h hn ht.v ht.o, by show op ≠ 28; omega, by rw [o5, X4, j7, j7, ht.n]; rfl⟩
theorem a4n {op : Int} {t u : Tr} (h : 6 ≤ op ∧ op ≤ 20) (ht : Fine t) (hu : Fine u) : Fine (.mk (op, -1, -1, -1, 0, []) [t, u]) :=
 ⟨c2d h ht.v ht.o hu.v hu.o, by show op ≠ 28; omega, by rw [o5, X4, j7, j7, j7, ht.n, hu.n]; rfl⟩
theorem b8d {t u v : Tr} (ht : Fine t) (hu : Fine u) (hv : Fine v) : Fine (.mk (26, -1, -1, -1, 0, []) [t, u, v]) :=
 ⟨c2e ht.v ht.o hu.v hu.o hv.v hv.o, by show (26 : Int) ≠ 28; decide, by rw [o5, X4, j7, j7, j7, j7, ht.n, hu.n, hv.n]; rfl⟩
theorem b1Z : ∀ (ts acc : List Tr), (∀ t ∈ ts, Fine t) → (acc = [] ∨ ∃ c, acc = [c] ∧ Valid c ∧ c.op = 28 ∧ o5 c = true) →
  (chn acc ts = [] ∨ ∃ c, chn acc ts = [c] ∧ Valid c ∧ c.op = 28 ∧ o5 c = true) ∧ l7 (chn acc ts) = l7 acc + l7 ts + ts.length
 | [], acc, _, ha => ⟨by rw [chn]; exact ha, by rw [chn]; simp [l7]⟩
 | u :: r, acc, ht, ha => by
   have hu := ht u (by simp)
   have hh : (∃ c, [Tr.mk (28, -1, -1, -1, 0, []) (acc ++ [u])] = [c] ∧ Valid c ∧ c.op = 28 ∧ o5 c = true) ∧ l7 [Tr.mk (28, -1, -1, -1, 0, []) (acc ++ [u])] = l7 acc + u.size + 1 := by
    rcases ha with rfl | ⟨c, rfl, h1, h2, h3⟩
    · exact ⟨⟨_, rfl, c0b hu.v hu.o, rfl, by rw [List.nil_append, o5, X4, j7, j7, hu.n]; rfl⟩, by simp [l7, Tr.size]⟩
    · exact ⟨⟨_, rfl, c0c h1 h2 hu.v hu.o, rfl, by rw [List.singleton_append, o5, X4, j7, j7, j7, h3, hu.n]; rfl⟩, by simp [l7, Tr.size]⟩
   obtain ⟨g1, g2⟩ := b1Z r _ (fun t h => ht t (List.mem_cons_of_mem _ h)) (.inr hh.1)
   rw [chn]
   refine ⟨g1, ?_⟩
   rw [g2, hh.2]
   simp only [l7, List.length_cons]; omega
theorem b0F : ∀ {ts : List Tr}, (∀ t ∈ ts, Fine t) → L9 ts
 | [], _ => trivial
 | t :: r, h => ⟨(h t (by simp)).v, b0F fun u hu => h u (List.mem_cons_of_mem _ hu)⟩
theorem b6o {nm : Str} {ts : List Tr} (h : u9 nm = true) (ht : ∀ t ∈ ts, Fine t) : Fine (a0z nm ts) ∧ (a0z nm ts).size = l7 ts + ts.length + 1 := by
 obtain ⟨g1, g2⟩ := b1Z ts [] ht (.inl rfl)
 refine ⟨⟨?_, by show (27 : Int) ≠ 28; decide, ?_⟩, by rw [a0z, Tr.size, g2]; simp [l7]⟩
 · rcases g1 with g1 | ⟨c, g1, h1, h2, h3⟩
   · rw [a0z, g1]; exact b7h (a4E h)
   · rw [a0z, g1]; exact b7i (a4E h) h1 h2
 · rcases g1 with g1 | ⟨c, g1, h1, h2, h3⟩
   · rw [a0z, g1, o5, a8q h, j7]; rfl
   · rw [a0z, g1, o5, a8q h, j7, j7, h3]; rfl
def Bad (r : RS) : Prop := r.2.2.2.1 ≠ 0
def Good (L : List m7) (i : Nat) (o : Int) (y : RV) : Prop := Bad y.1 ∨ ∃ (j : Nat) (t : Tr), y = (((L, ((j : Nat) : Int), o, (0 : Int), (0 : Int)) : RS), flat t 0) ∧ i < j ∧ j ≤ L.length ∧ Fine t ∧ t.size + i ≤ j
theorem n9 {L : List m7} {i : Nat} {s : Str} (h : isB L i s = true) : i < L.length := by
 unfold isB at h
 split at h
 · rename_i x hx; exact C0 hx
 · cases h
theorem b2L {l : Nat} (hl : LA l) {L : List m7} {i : Nat} {op : Int} (h : opq l L i = some op) : 6 ≤ op ∧ op ≤ 20 ∧ i < L.length := by
 rcases hl with rfl | rfl | rfl | rfl | rfl <;> simp only [opq] at h
 · cases h1 : isB L i [115, 105, 110, 99, 101] <;> rw [h1] at h <;> cases h
   exact ⟨by decide, by decide, n9 h1⟩
 · cases h1 : isB L i [120, 111, 114] <;> rw [h1] at h
   · cases h2 : isB L i [111, 114] <;> rw [h2] at h <;> cases h
     exact ⟨by decide, by decide, n9 h2⟩
   · cases h
     exact ⟨by decide, by decide, n9 h1⟩
 · cases h1 : isB L i [97, 110, 100] <;> rw [h1] at h <;> cases h
   exact ⟨by decide, by decide, n9 h1⟩
 · cases h1 : isB L i [45] <;> rw [h1] at h
   · cases h2 : isB L i [43] <;> rw [h2] at h <;> cases h
     exact ⟨by decide, by decide, n9 h2⟩
   · cases h
     exact ⟨by decide, by decide, n9 h1⟩
 · cases h1 : isB L i [109, 111, 100] <;> rw [h1] at h
   · cases h2 : isB L i [100, 105, 118] <;> rw [h2] at h
     · cases h3 : isB L i [42] <;> rw [h3] at h <;> cases h
       exact ⟨by decide, by decide, n9 h3⟩
     · cases h
       exact ⟨by decide, by decide, n9 h2⟩
   · cases h
     exact ⟨by decide, by decide, n9 h1⟩
theorem b6H {p : Nat} (hp : p = 1 ∨ p = 2) {L : List m7} {i : Nat} {op : Int} (h : a6G p L i = some op) : 6 ≤ op ∧ op ≤ 20 ∧ i < L.length := by
 rcases hp with rfl | rfl <;> simp only [a6G] at h
 · cases h1 : isB L i [45, 62] <;> rw [h1] at h <;> cases h
   exact ⟨by decide, by decide, n9 h1⟩
 · cases h1 : isB L i [61, 62] <;> rw [h1] at h <;> cases h
   exact ⟨by decide, by decide, n9 h1⟩
theorem b6I {L : List m7} {i : Nat} {x : Int × Bool} (h : a6H L i = some x) : 6 ≤ x.1 ∧ x.1 ≤ 20 ∧ i < L.length := by
 simp only [a6H] at h
 cases h1 : isB L i [61] <;> rw [h1] at h
 case true => cases h; exact ⟨by decide, by decide, n9 h1⟩
 rw [cond_false] at h
 cases h2 : isB L i [60, 62] <;> rw [h2] at h
 case true => cases h; exact ⟨by decide, by decide, n9 h2⟩
 rw [cond_false] at h
 cases h3 : isB L i [60] <;> rw [h3] at h
 case true => cases h; exact ⟨by decide, by decide, n9 h3⟩
 rw [cond_false] at h
 cases h4 : isB L i [60, 61] <;> rw [h4] at h
 case true => cases h; exact ⟨by decide, by decide, n9 h4⟩
 rw [cond_false] at h
 cases h5 : isB L i [62] <;> rw [h5] at h
 case true => cases h; exact ⟨by decide, by decide, n9 h5⟩
 rw [cond_false] at h
 cases h6 : isB L i [62, 61] <;> rw [h6] at h
 case true => cases h; exact ⟨by decide, by decide, n9 h6⟩
 cases h
theorem b9E {p : Nat} (hp : p = 1 ∨ p = 2) {r : RS} {y : RV} (h1 : rd (p + 1) r = some y) (hb : Bad y.1) : rd p r = some y := by
 rcases hp with rfl | rfl
 · simp only [rd] at h1
   exact c5V (by simp only [r36, h1, bind_some, K4 hb, cond_false])
 · simp only [rd] at h1
   exact c5W (by simp only [r37, h1, bind_some, K4 hb, cond_false])
theorem c1U {r : RS} {y : RV} (h1 : rd 7 r = some y) (hb : Bad y.1) : rd 6 r = some y := by
 simp only [rd] at h1
 exact c5X (by simp only [r41, h1, bind_some, K4 hb, cond_false])
section
variable {L : List m7} (hL : L.length ≤ 100000)
include hL
def IH (L : List m7) (i : Nat) : Prop := ∀ (p j : Nat) (o : Int), 1 ≤ p → p ≤ 9 → i < j → j ≤ L.length → 0 ≤ o → o ≤ 200 → ∃ y, rd p ((L, ((j : Nat) : Int), o, (0 : Int), (0 : Int)) : RS) = some y ∧ Good L j o y
theorem b6F {i : Nat} (ih : IH L i) {l : Nat} (hl : LA l) {o : Int} (h0 : 0 ≤ o) (ho : o ≤ 200) : ∀ (m j : Nat) (v : Tr), L.length - j ≤ m → i < j → j ≤ L.length → Fine v → v.size + i ≤ j → ∃ y, lp l ((L, ((j : Nat) : Int), o, (0 : Int), (0 : Int)) : RS) (flat v 0) = some y ∧ Good L i o y := by
 intro m
 induction m with
 | zero =>
   intro j v hm hij hj hv hs
   have : opq l L j = none := by
    cases h : opq l L j with
    | none => rfl
    | some op => have := (b2L hl h).2.2; omega
   exact ⟨_, a1j hl (by omega) (by rw [this]), .inr ⟨j, v, rfl, hij, hj, hv, hs⟩⟩
 | succ m ihm =>
   intro j v hm hij hj hv hs
   cases h : opq l L j with
   | none => exact ⟨_, a1j hl (by omega) (by rw [h]), .inr ⟨j, v, rfl, hij, hj, hv, hs⟩⟩
   | some op =>
     obtain ⟨q1, q2, q3⟩ := b2L hl h
     obtain ⟨y, hy, hg⟩ := ih (l + 1) (j + 1) o (by omega) (by unfold LA at hl; omega) (by omega) (by omega) h0 ho
     rcases hg with hb | ⟨j', t, rfl, g1, g2, g3, g4⟩
     · refine ⟨(y.1, []), a1j hl (by omega) ?_, .inl hb⟩
       rw [h]
       simp only [hy, bind_some, a8b hb, a3P hl hb]
     · have hvs := v.size_pos
       obtain ⟨z, hz, hgz⟩ := ihm j' (.mk (op, -1, -1, -1, 0, []) [v, t]) (by omega) (by omega) g2 (a4n ⟨q1, q2⟩ hv g3) (by rw [Q1]; omega)
       refine ⟨z, a1j hl (by omega) ?_, hgz⟩
       rw [h]
       simp only [hy, bind_some, join_eq L j' o op (a := flat v 0) (b := flat t 0) (by rw [n6]; omega) (by rw [n6]; omega), b8s ⟨q1, q2⟩ hv.v (show v.size ≤ 100000 by omega) g3.v (show t.size ≤ 100000 by omega), hz]
theorem a9G {i : Nat} (ih : IH L i) (hi : i ≤ L.length) {o : Int} (h0 : 0 ≤ o) (ho : o ≤ 200) (h9 : ∃ y, rd 9 ((L, ((i : Nat) : Int), o, (0 : Int), (0 : Int)) : RS) = some y ∧ Good L i o y) : ∀ p, 1 ≤ p → p ≤ 9 → ∃ y, rd p ((L, ((i : Nat) : Int), o, (0 : Int), (0 : Int)) : RS) = some y ∧ Good L i o y := by
 have step : ∀ p, 1 ≤ p → p ≤ 8 → (∃ y, rd (p + 1) ((L, ((i : Nat) : Int), o, (0 : Int), (0 : Int)) : RS) = some y ∧ Good L i o y) → ∃ y, rd p ((L, ((i : Nat) : Int), o, (0 : Int), (0 : Int)) : RS) = some y ∧ Good L i o y := by
  rintro p p1 p8 ⟨y, hy, hg⟩
  by_cases h12 : p = 1 ∨ p = 2
  · rcases hg with hb | ⟨j, v, rfl, g1, g2, g3, g4⟩
    · exact ⟨y, b9E h12 hy hb, .inl hb⟩
    · cases h : a6G p L j with
      | none => exact ⟨_, b9D h12 (by omega) hy (by rw [h]), .inr ⟨j, v, rfl, g1, g2, g3, g4⟩⟩
      | some op =>
        obtain ⟨q1, q2, q3⟩ := b6H h12 h
        obtain ⟨z, hz, hgz⟩ := ih p (j + 1) o p1 (by omega) (by omega) (by omega) h0 ho
        rcases hgz with hb | ⟨j', t, rfl, k1, k2, k3, k4⟩
        · refine ⟨(z.1, []), b9D h12 (by omega) hy ?_, .inl hb⟩
          rw [h]
          simp only [hz, bind_some, a8b hb]
        · refine ⟨_, b9D h12 (by omega) hy ?_, .inr ⟨j', .mk (op, -1, -1, -1, 0, []) [v, t], rfl, by omega, k2, a4n ⟨q1, q2⟩ g3 k3, by rw [Q1]; omega⟩⟩
          rw [h]
          simp only [hz, bind_some, join_eq L j' o op (a := flat v 0) (b := flat t 0) (by rw [n6]; omega) (by rw [n6]; omega), b8s ⟨q1, q2⟩ g3.v (show v.size ≤ 100000 by omega) k3.v (show t.size ≤ 100000 by omega)]
  by_cases h6 : p = 6
  · subst h6
    rcases hg with hb | ⟨j, v, rfl, g1, g2, g3, g4⟩
    · exact ⟨y, c1U hy hb, .inl hb⟩
    · cases h : a6H L j with
      | none => exact ⟨_, rd6 (by omega) hy (by rw [h]), .inr ⟨j, v, rfl, g1, g2, g3, g4⟩⟩
      | some x =>
        obtain ⟨op, sw⟩ := x
        obtain ⟨q1, q2, q3⟩ := b6I h
        obtain ⟨z, hz, hgz⟩ := ih 7 (j + 1) o (by omega) (by omega) (by omega) (by omega) h0 ho
        rcases hgz with hb | ⟨j', t, rfl, k1, k2, k3, k4⟩
        · refine ⟨(z.1, []), rd6 (by omega) hy ?_, .inl hb⟩
          rw [h]
          simp only [hz, bind_some, a8b hb]
        · cases sw with
          | false =>
            refine ⟨_, rd6 (by omega) hy ?_, .inr ⟨j', .mk (op, -1, -1, -1, 0, []) [v, t], rfl, by omega, k2, a4n ⟨q1, q2⟩ g3 k3, by rw [Q1]; omega⟩⟩
            rw [h]
            simp only [hz, bind_some, cond_false, join_eq L j' o op (a := flat v 0) (b := flat t 0) (by rw [n6]; omega) (by rw [n6]; omega), b8s ⟨q1, q2⟩ g3.v (show v.size ≤ 100000 by omega) k3.v (show t.size ≤ 100000 by omega)]
          | true =>
            refine ⟨_, rd6 (by omega) hy ?_, .inr ⟨j', .mk (op, -1, -1, -1, 0, []) [t, v], rfl, by omega, k2, a4n ⟨q1, q2⟩ k3 g3, by rw [Q1]; omega⟩⟩
            rw [h]
            simp only [hz, bind_some, cond_true, join_eq L j' o op (a := flat t 0) (b := flat v 0) (by rw [n6]; omega) (by rw [n6]; omega), b8s ⟨q1, q2⟩ k3.v (show t.size ≤ 100000 by omega) g3.v (show v.size ≤ 100000 by omega)]
  have hl : LA p := by unfold LA; omega
  rcases hg with hb | ⟨j, v, rfl, g1, g2, g3, g4⟩
  · exact ⟨y, a4N hl hy (a3P hl hb y.2), .inl hb⟩
  · obtain ⟨z, hz, hgz⟩ := b6F hL ih hl h0 ho L.length j v (by omega) g1 g2 g3 g4
    exact ⟨z, a4N hl hy hz, hgz⟩
 have go : ∀ m p, 9 ≤ p + m → 1 ≤ p → p ≤ 9 → ∃ y, rd p ((L, ((i : Nat) : Int), o, (0 : Int), (0 : Int)) : RS) = some y ∧ Good L i o y := by
  intro m
  induction m with
  | zero => intro p h1 h2 h3; have : p = 9 := by omega
            subst this; exact h9
  | succ m ihm =>
    intro p h1 h2 h3
    by_cases hp : p = 9
    · subst hp; exact h9
    · exact step p h2 (by omega) (ihm (p + 1) (by omega) (by omega) (by omega))
 intro p p1 p9
 exact go 9 p (by omega) p1 p9
theorem a4F {j : Nat} (hj : j ≤ L.length) (o : Int) (s : Str) : ∃ r', c57 T.rf ((L, ((j : Nat) : Int), o, (0 : Int), (0 : Int)) : RS) s = some r' ∧ (Bad r' ∨ (r' = ((L, ((j + 1 : Nat) : Int), o, (0 : Int), (0 : Int)) : RS) ∧ j + 1 ≤ L.length)) := by
 cases h : isB L j s with
 | true => exact ⟨_, a4G (by omega) o h, .inr ⟨rfl, n9 h⟩⟩
 | false => obtain ⟨r', h1, h2⟩ := b8W (show j ≤ 2000000000 by omega) o h
            exact ⟨r', h1, .inl h2⟩
theorem b5Y {i : Nat} (ih : IH L i) {o : Int} (h0 : 0 ≤ o) (ho : o ≤ 200) {j0 : Nat} : ∀ (m j : Nat) (ts : List Tr), L.length - j ≤ m → i < j → j ≤ L.length → (∀ t ∈ ts, Fine t) → l7 ts + ts.length + j0 ≤ j →
  ∃ z, k25 T.rb ((L, ((j : Nat) : Int), o, (0 : Int), (0 : Int)) : RS) (ts.map fun t => flat t 0) = some z ∧
   ((∃ r' out, z = .inl (r', out) ∧ Bad r') ∨ (∃ r', z = .inr r' ∧ Bad r') ∨ ∃ (j' : Nat) (us : List Tr), z = .inl (((L, ((j' : Nat) : Int), o, (0 : Int), (0 : Int)) : RS), us.map fun t => flat t 0) ∧ j < j' ∧ j' ≤ L.length ∧ (∀ t ∈ us, Fine t) ∧ l7 us + us.length + j0 ≤ j') := by
 intro m
 induction m with
 | zero =>
   intro j ts hm hij hj hts hs
   obtain ⟨y, hy, hg⟩ := ih 1 j o (by omega) (by omega) hij hj h0 ho
   simp only [rd] at hy
   rcases hg with hb | ⟨j', t, rfl, g1, g2, g3, g4⟩
   · refine ⟨.inr y.1, Q3 (r' := y.1) (v := y.2) rfl hy (by rw [List.length_map]; omega) ?_, .inr (.inl ⟨_, rfl, hb⟩)⟩
     simp only [a4W, K4 hb, bind_some, cond_false, a0K hb]
     exact c5F (by simp only [b25, bf hb, cond_false])
   · omega
 | succ m ihm =>
   intro j ts hm hij hj hts hs
   obtain ⟨y, hy, hg⟩ := ih 1 j o (by omega) (by omega) hij hj h0 ho
   simp only [rd] at hy
   have badL : ∀ (r' : RS) (out : List (List Nd)), Bad r' → k25 T.rb r' out = some (.inr r') := fun r' out hb =>
    c5F (by simp only [b25, bf hb, cond_false])
   rcases hg with hb | ⟨j', t, rfl, g1, g2, g3, g4⟩
   · refine ⟨.inr y.1, Q3 (r' := y.1) (v := y.2) rfl hy (by rw [List.length_map]; omega) ?_, .inr (.inl ⟨_, rfl, hb⟩)⟩
     simp only [a4W, K4 hb, bind_some, cond_false, a0K hb]
     exact badL _ _ hb
   · have hfs : ∀ u ∈ ts ++ [t], Fine u := fun u hu => (List.mem_append.1 hu).elim (hts u) fun h => by rw [List.mem_singleton.1 h]; exact g3
     have sapp : ∀ (a : List Tr) (b : Tr), l7 (a ++ [b]) = l7 a + b.size := by
      intro a
      induction a with
      | nil => intro b; simp [l7]
      | cons x a iha => intro b; rw [List.cons_append, l7, l7, iha b]; omega
     have em : (ts.map fun t => flat t 0) ++ [flat t 0] = (ts ++ [t]).map fun t => flat t 0 := by rw [List.map_append]; rfl
     cases hc : isB L j' [41] with
     | true =>
       have hjl := n9 hc
       refine ⟨_, Q3 rfl hy (by rw [List.length_map]; omega) (y := .inl (((L, ((j' + 1 : Nat) : Int), o, (0 : Int), (0 : Int)) : RS), (ts ++ [t]).map fun t => flat t 0)) ?_, .inr (.inr ⟨j' + 1, ts ++ [t], rfl, by omega, hjl, hfs, by rw [sapp, List.length_append]; simp only [List.length_cons, List.length_nil]; omega⟩)⟩
       rw [em]
       simp only [a4W, s7 L (show j' ≤ 2000000000 by omega), hc, cond_true, bind_some]
     | false =>
       obtain ⟨r', n1, n2⟩ := a4F hL g2 o [44]
       rcases n2 with n2 | ⟨rfl, n3⟩
       · refine ⟨.inr r', Q3 rfl hy (by rw [List.length_map]; omega) ?_, .inr (.inl ⟨_, rfl, n2⟩)⟩
         simp only [a4W, s7 L (show j' ≤ 2000000000 by omega), hc, cond_false, bind_some, n1]
         exact badL _ _ n2
       · obtain ⟨z, hz, hgz⟩ := ihm (j' + 1) (ts ++ [t]) (by omega) (by omega) n3 hfs (by rw [sapp, List.length_append]; simp only [List.length_cons, List.length_nil]; omega)
         refine ⟨z, Q3 rfl hy (by rw [List.length_map]; omega) ?_, ?_⟩
         · rw [em]
           simp only [a4W, s7 L (show j' ≤ 2000000000 by omega), hc, cond_false, bind_some, n1]
           exact hz
         · rcases hgz with h | h | ⟨j2, us, h1, h2, h3⟩
           · exact .inl h
           · exact .inr (.inl h)
           · exact .inr (.inr ⟨j2, us, h1, by omega, h3⟩)
theorem b4a {i : Nat} (ih : IH L i) (hi : i < L.length) {o : Int} (h0 : 0 ≤ o) (ho : o ≤ 200) {nm : Str} (hn : u9 nm = true) : ∃ y, c53 T.rf ((L, ((i : Nat) : Int), o, (0 : Int), (0 : Int)) : RS) nm = some y ∧ Good L i o y := by
 have hw := C6 (show i < 4611686018427387904 by omega)
 cases hp : isB L (i + 1) [40] with
 | false =>
   exact ⟨_, b6J (by simp only [r53, hw, s7 L (show i + 1 ≤ 2000000000 by omega), hp, cond_false, bind_some, Bool.not_false, cond_true, jn0 (op := 3) (n := 0) (nm := nm) (by decide) (by decide) rfl]),
    .inr ⟨i + 1, _, rfl, by omega, by omega, b8e hn, by rw [a3C]; omega⟩⟩
 | true =>
   have hp1 := n9 hp
   have fin : ∀ (A : RS × List (List Nd)), c56 T.rf ((L, ((i + 1 + 1 : Nat) : Int), o, (0 : Int), (0 : Int)) : RS) = some A → (Bad A.1 ∨ ∃ (j' : Nat) (us : List Tr), A = (((L, ((j' : Nat) : Int), o, (0 : Int), (0 : Int)) : RS), us.map fun t => flat t 0) ∧ i < j' ∧ j' ≤ L.length ∧ (∀ t ∈ us, Fine t) ∧ l7 us + us.length + (i + 1 + 1) ≤ j') →
     ∃ y, c53 T.rf ((L, ((i : Nat) : Int), o, (0 : Int), (0 : Int)) : RS) nm = some y ∧ Good L i o y := by
    intro A hA hg
    rcases hg with hb | ⟨j', us, rfl, g1, g2, g3, g4⟩
    · exact ⟨(A.1, []), b6J (by simp only [r53, hw, s7 L (show i + 1 ≤ 2000000000 by omega), hp, cond_true, bind_some, Bool.not_true, cond_false, hA, nbf hb]), .inl hb⟩
    · obtain ⟨f1, f2⟩ := b6o (nm := nm) hn g3
      exact ⟨(((L, ((j' : Nat) : Int), o, (0 : Int), (0 : Int)) : RS), flat (a0z nm us) 0), b6J (by simp only [r53, hw, s7 L (show i + 1 ≤ 2000000000 by omega), hp, cond_true, bind_some, Bool.not_true, cond_false, hA, z0, jnC (nm := nm) (b0F g3) (show l7 us + us.length ≤ 1000000 by omega)]),
       .inr ⟨j', _, rfl, g1, g2, f1, by rw [f2]; omega⟩⟩
   cases hc : isB L (i + 1 + 1) [41] with
   | true =>
     have := n9 hc
     exact fin _ (b6K (by simp only [r56, s7 L (show i + 1 + 1 ≤ 2000000000 by omega), hc, cond_true, bind_some]; rfl)) (.inr ⟨i + 1 + 1 + 1, [], rfl, by omega, by omega, fun t ht => (by cases ht), by simp [l7]⟩)
   | false =>
     obtain ⟨z, hz, hg⟩ := b5Y hL ih h0 ho (j0 := i + 1 + 1) L.length (i + 1 + 1) [] (by omega) (by omega) (by omega) (fun t ht => by cases ht) (by simp [l7])
     rw [List.map_nil] at hz
     rcases hg with ⟨r', out, rfl, hb⟩ | ⟨r', rfl, hb⟩ | ⟨j', us, rfl, g1, g2, g3, g4⟩
     · exact fin (r', out) (b6K (by simp only [r56, s7 L (show i + 1 + 1 ≤ 2000000000 by omega), hc, cond_false, bind_some, hz])) (.inl hb)
     · exact fin (r', []) (b6K (by simp only [r56, s7 L (show i + 1 + 1 ≤ 2000000000 by omega), hc, cond_false, bind_some, hz])) (.inl hb)
     · exact fin _ (b6K (by simp only [r56, s7 L (show i + 1 + 1 ≤ 2000000000 by omega), hc, cond_false, bind_some, hz])) (.inr ⟨j', us, rfl, by omega, g2, g3, g4⟩)
theorem b3w (hok : ∀ x ∈ L, Okk x) {i : Nat} (ih : IH L i) (hi : i < L.length) {o : Int} (h0 : 0 ≤ o) (ho : o ≤ 200) : ∃ y, c59 T.rf ((L, ((i : Nat) : Int), o, (0 : Int), (0 : Int)) : RS) = some y ∧ Good L i o y := by
 have hw1 := C6 (show i < 4611686018427387904 by omega)
 have hw2 := C6 (show i + 1 < 4611686018427387904 by omega)
 obtain ⟨r', f1, f2⟩ := a1W ((L, ((i + 1 : Nat) : Int), o, (0 : Int), (0 : Int)) : RS) (e := 5) (by decide)
 by_cases hlen : i + 1 < L.length
 case neg =>
  exact ⟨(r', []), b6M (by simp only [r59, hw1, dt (show ((i + 1 : Nat) : Int) ≥ ((L.length : Nat) : Int) by omega), cond_true, f1, bind_some]), .inl f2⟩
 have hx := a3u hlen
 have hm : L[i + 1] ∈ L := List.getElem_mem hlen
 have hok1 := hok _ hm
 generalize L[i + 1] = x at *
 by_cases hk : x.1 = 2
 case neg =>
  exact ⟨(r', []), b6M (by simp only [r59, hw1, df (show ¬ ((i + 1 : Nat) : Int) ≥ ((L.length : Nat) : Int) by omega), cond_false, D2 (show (0 : Int) ≤ ((i + 1 : Nat) : Int) by omega) (show ((i + 1 : Nat) : Int) < ((L.length : Nat) : Int) by omega), cond_true, Int.toNat_natCast, hx, bind_some, nbf hk, f1]), .inl f2⟩
 have hv : 0 ≤ F9 0 x.2.1 ∧ F9 0 x.2.1 ≤ 2147483647 ∧ x.2.1.length ≤ 1000000 := by
  rcases hok1 with h | h | h | h
  · omega
  · exact h.2
  · omega
  · omega
 by_cases h1000 : F9 0 x.2.1 ≤ 1000
 case neg =>
  exact ⟨(r', []), b6M (by simp only [r59, hw1, df (show ¬ ((i + 1 : Nat) : Int) ≥ ((L.length : Nat) : Int) by omega), cond_false, D2 (show (0 : Int) ≤ ((i + 1 : Nat) : Int) by omega) (show ((i + 1 : Nat) : Int) < ((L.length : Nat) : Int) by omega), cond_true, Int.toNat_natCast, hx, bind_some, nbt hk, a0a hv.2.2, dt (show F9 0 x.2.1 > 1000 by omega), f1]), .inl f2⟩
 obtain ⟨y, hy, hg⟩ := ih 9 (i + 1 + 1) o (by omega) (by omega) (by omega) (by omega) h0 ho
 simp only [rd] at hy
 rcases hg with hb | ⟨j', t, rfl, g1, g2, g3, g4⟩
 · exact ⟨(y.1, []), b6M (by simp only [r59, hw1, hw2, df (show ¬ ((i + 1 : Nat) : Int) ≥ ((L.length : Nat) : Int) by omega), cond_false, D2 (show (0 : Int) ≤ ((i + 1 : Nat) : Int) by omega) (show ((i + 1 : Nat) : Int) < ((L.length : Nat) : Int) by omega), cond_true, Int.toNat_natCast, hx, bind_some, nbt hk, a0a hv.2.2, df (show ¬ F9 0 x.2.1 > 1000 by omega), hy, nbf hb]), .inl hb⟩
 · exact ⟨(((L, ((j' : Nat) : Int), o, (0 : Int), (0 : Int)) : RS), flat (.mk (25, -1, -1, -1, F9 0 x.2.1, []) [t]) 0), b6M (by simp only [r59, hw1, hw2, df (show ¬ ((i + 1 : Nat) : Int) ≥ ((L.length : Nat) : Int) by omega), cond_false, D2 (show (0 : Int) ≤ ((i + 1 : Nat) : Int) by omega) (show ((i + 1 : Nat) : Int) < ((L.length : Nat) : Int) by omega), cond_true, Int.toNat_natCast, hx, bind_some, nbt hk, a0a hv.2.2, df (show ¬ F9 0 x.2.1 > 1000 by omega), hy, z0, jn1 (op := 25) (n := F9 0 x.2.1) (by decide) g3.v (show t.size ≤ 100000 by omega)]),
    .inr ⟨j', _, rfl, by omega, g2, b4X (by decide) ⟨hv.1, by show F9 0 x.2.1 ≤ 1000; omega⟩ g3, by rw [P1]; omega⟩⟩
theorem b2a {i : Nat} (ih : IH L i) (hi : i + 1 ≤ L.length) {o : Int} (h0 : 0 ≤ o) (ho : o ≤ 200) : ∃ y, c60 T.rf ((L, ((i + 1 : Nat) : Int), o, (0 : Int), (0 : Int)) : RS) = some y ∧ Good L i o y := by
 obtain ⟨y1, e1, g1⟩ := ih 1 (i + 1) o (by omega) (by omega) (by omega) hi h0 ho
 simp only [rd] at e1
 have arrow_bad : ∀ {r : RS}, Bad r → c36 T.rf r = some (r, []) := fun {r} hb => c6w hb 1 (by omega) (by omega)
 have b1 : Bad y1.1 → ∃ y, c60 T.rf ((L, ((i + 1 : Nat) : Int), o, (0 : Int), (0 : Int)) : RS) = some y ∧ Good L i o y := fun hb =>
  ⟨(y1.1, []), b4i (by simp only [r60, e1, bind_some, a0K hb, arrow_bad hb, nbf hb, cond_true]), .inl hb⟩
 rcases g1 with hb | ⟨j1, t, rfl, k1, k2, k3, k4⟩
 · exact b1 hb
 obtain ⟨r1, n1, m1⟩ := a4F hL k2 o [116, 104, 101, 110]
 rcases m1 with hb | ⟨rfl, m1⟩
 · exact ⟨(r1, []), b4i (by simp only [r60, e1, bind_some, n1, a0K hb, arrow_bad hb, nbf hb, cond_true]), .inl hb⟩
 obtain ⟨y2, e2, g2⟩ := ih 1 (j1 + 1) o (by omega) (by omega) (by omega) m1 h0 ho
 simp only [rd] at e2
 rcases g2 with hb | ⟨j2, u, rfl, l1, l2, l3, l4⟩
 · exact ⟨(y2.1, []), b4i (by simp only [r60, e1, bind_some, n1, e2, a0K hb, arrow_bad hb, nbf hb, cond_true]), .inl hb⟩
 obtain ⟨r2, n2, m2⟩ := a4F hL l2 o [101, 108, 115, 101]
 rcases m2 with hb | ⟨rfl, m2⟩
 · exact ⟨(r2, []), b4i (by simp only [r60, e1, bind_some, n1, e2, n2, arrow_bad hb, nbf hb, cond_true]), .inl hb⟩
 obtain ⟨y3, e3, g3⟩ := ih 1 (j2 + 1) o (by omega) (by omega) (by omega) m2 h0 ho
 simp only [rd] at e3
 rcases g3 with hb | ⟨j3, v, rfl, p1, p2, p3, p4⟩
 · exact ⟨(y3.1, []), b4i (by simp only [r60, e1, bind_some, n1, e2, n2, e3, nbf hb, cond_true]), .inl hb⟩
 exact ⟨(((L, ((j3 : Nat) : Int), o, (0 : Int), (0 : Int)) : RS), flat (.mk (26, -1, -1, -1, 0, []) [t, u, v]) 0), b4i (by simp only [r60, e1, bind_some, n1, e2, n2, e3, z0, cond_false, jn3 k3.v (show t.size ≤ 100000 by omega) l3.v (show u.size ≤ 100000 by omega) p3.v (show v.size ≤ 100000 by omega)]),
  .inr ⟨j3, _, rfl, by omega, p2, b8d k3 l3 p3, by rw [b0x]; omega⟩⟩
omit hL in
theorem c1v (u : Str) : ∃ z, c58 T.rf u = some z ∧ (z = 0 ∨ z = 4 ∨ z = 5 ∨ z = 21 ∨ z = 22 ∨ z = 23 ∨ z = 24 ∨ z = 25) := by
 have h : ∃ z, r58 T.rf T.rb u = some z ∧ (z = 0 ∨ z = 4 ∨ z = 5 ∨ z = 21 ∨ z = 22 ∨ z = 23 ∨ z = 24 ∨ z = 25) := by
  simp only [r58]
  cases u == ([110, 111, 116] : Str)
  case true => exact ⟨4, rfl, by decide⟩
  cases u == ([45] : Str)
  case true => exact ⟨5, rfl, by decide⟩
  cases u == ([112, 114, 101] : Str)
  case true => exact ⟨21, rfl, by decide⟩
  cases u == ([111, 110, 99, 101] : Str)
  case true => exact ⟨22, rfl, by decide⟩
  cases u == ([104, 105, 115, 116] : Str)
  case true => exact ⟨23, rfl, by decide⟩
  cases u == ([112, 114, 101, 118] : Str)
  case true => exact ⟨24, rfl, by decide⟩
  cases u == ([119, 105, 116, 104, 105, 110] : Str)
  case true => exact ⟨25, rfl, by decide⟩
  exact ⟨0, rfl, by decide⟩
 obtain ⟨z, h1, h2⟩ := h
 exact ⟨z, b6L h1, h2⟩
theorem a9x (hok : ∀ x ∈ L, Okk x) {i : Nat} (ih : IH L i) (hi : i < L.length) {o : Int} (h0 : 0 ≤ o) (ho : o ≤ 200) (u : Str) : ∃ y, a3L L i o u = some y ∧ Good L i o y := by
 obtain ⟨z, hz, hzz⟩ := c1v u
 unfold a3L
 rw [hz, bind_some]
 by_cases h25 : z = 25
 · rw [bt h25, cond_true]
   exact b3w hL hok ih hi h0 ho
 rw [bf h25, cond_false]
 by_cases hz0 : z = 0
 case neg =>
  rw [dt (show z > 0 by omega), cond_true]
  obtain ⟨y, hy, hg⟩ := ih 9 (i + 1) o (by omega) (by omega) (by omega) hi h0 ho
  simp only [rd] at hy
  rw [hy, bind_some]
  rcases hg with hb | ⟨j', t, rfl, g1, g2, g3, g4⟩
  · rw [nbf hb, cond_true]
    exact ⟨_, rfl, .inl hb⟩
  · refine ⟨(((L, ((j' : Nat) : Int), o, (0 : Int), (0 : Int)) : RS), flat (.mk (z, -1, -1, -1, 0, []) [t]) 0), ?_, .inr ⟨j', _, rfl, by omega, g2, b4X (by omega) ⟨by omega, ?_⟩ g3, by rw [P1]; omega⟩⟩
    · simp only [z0, cond_false, jn1 (op := z) (n := 0) (by omega) g3.v (show t.size ≤ 100000 by omega), bind_some]
    · have : F2 z = 0 := by unfold F2; rw [if_neg (by omega), if_neg (by omega), if_neg h25]
      omega
 rw [df (show ¬ z > 0 by omega), cond_false]
 have lf : ∀ n : Int, (n = 0 ∨ n = 1) → join 2 n [] [] = flat (.mk (2, -1, -1, -1, n, []) []) 0 := fun n hn => Q9 (op := 2) (n := n) (nm := []) (ts := []) (by decide) (by decide) rfl trivial (by simp [l7])
 have m2 : F2 2 = 1 := rfl
 cases isB L i [116, 114, 117, 101] with
 | true => exact ⟨_, rfl, .inr ⟨i + 1, .mk (2, -1, -1, -1, 1, []) [], by rw [lf 1 (.inr rfl)], by omega, hi, a5u (.inr rfl) ⟨by omega, by omega⟩, by rw [a3C]; omega⟩⟩
 | false =>
 rw [cond_false]
 cases isB L i [102, 97, 108, 115, 101] with
 | true => exact ⟨_, rfl, .inr ⟨i + 1, .mk (2, -1, -1, -1, 0, []) [], by rw [lf 0 (.inl rfl)], by omega, hi, a5u (.inr rfl) ⟨by omega, by omega⟩, by rw [a3C]; omega⟩⟩
 | false =>
 rw [cond_false]
 cases isB L i [40] with
 | true =>
   rw [cond_true]
   obtain ⟨y, hy, hg⟩ := ih 1 (i + 1) o (by omega) (by omega) (by omega) hi h0 ho
   simp only [rd] at hy
   rw [hy, bind_some]
   rcases hg with hb | ⟨j', t, rfl, g1, g2, g3, g4⟩
   · rw [a0K hb]
     exact ⟨_, rfl, .inl hb⟩
   · obtain ⟨r', n1, n2⟩ := a4F hL g2 o [41]
     simp only [n1, bind_some]
     rcases n2 with n2 | ⟨rfl, n3⟩
     · exact ⟨_, rfl, .inl n2⟩
     · exact ⟨_, rfl, .inr ⟨j' + 1, t, rfl, by omega, n3, g3, by omega⟩⟩
 | false =>
 rw [cond_false]
 cases isB L i [105, 102] with
 | true => exact b2a hL ih hi h0 ho
 | false =>
   obtain ⟨r', f1, f2⟩ := a1W ((L, ((i : Nat) : Int), o, (0 : Int), (0 : Int)) : RS) (e := 5) (by decide)
   exact ⟨(r', []), f1, .inl f2⟩
theorem a4I (hok : ∀ x ∈ L, Okk x) {i : Nat} (ih : IH L i) (hi : i ≤ L.length) {o : Int} (h0 : 0 ≤ o) (ho : o ≤ 200) : ∃ y, rd 9 ((L, ((i : Nat) : Int), o, (0 : Int), (0 : Int)) : RS) = some y ∧ Good L i o y := by
 by_cases h200 : o ≥ 200
 · obtain ⟨r', f1, f2⟩ := a1W ((L, ((i : Nat) : Int), o, (0 : Int), (0 : Int)) : RS) (e := 6) (by decide)
   exact ⟨(r', []), b9i (by simp only [r44, z0, cond_false, dt h200, cond_true, f1, bind_some]), .inl f2⟩
 by_cases hlt : i < L.length
 case neg =>
  obtain ⟨r', f1, f2⟩ := a1W ((L, ((i : Nat) : Int), o, (0 : Int), (0 : Int)) : RS) (e := 5) (by decide)
  exact ⟨(r', []), b9i (by simp only [r44, z0, cond_false, df h200, dt (show ((i : Nat) : Int) ≥ ((L.length : Nat) : Int) by omega), cond_true, f1, bind_some]), .inl f2⟩
 have hx := a3u hlt
 have hok1 := hok _ (List.getElem_mem hlt)
 generalize L[i] = x at *
 have hw := C6 (show i < 4611686018427387904 by omega)
 have hbeg : ∃ y, c46 T.rf ((L, ((i : Nat) : Int), o + 1, (0 : Int), (0 : Int)) : RS) x = some y ∧ Good L i (o + 1) y := by
  rcases hok1 with ⟨h1, h2⟩ | ⟨h1, h2, h3, h4⟩ | h1 | h1
  · obtain ⟨y, hy, hg⟩ := b4a hL ih hlt (o := o + 1) (by omega) (by omega) h2
    exact ⟨y, b4h (by simp only [r46, bf (show x.1 ≠ 2 by omega), bt h1, cond_true, cond_false, hy, bind_some]), hg⟩
  · exact ⟨(((L, ((i + 1 : Nat) : Int), o + 1, (0 : Int), (0 : Int)) : RS), flat (.mk (1, -1, -1, -1, F9 0 x.2.1, []) []) 0), b4h (by simp only [r46, bt h1, cond_true, a0a h4, bind_some, jn0 (op := 1) (n := F9 0 x.2.1) (nm := []) (by decide) (by decide) rfl, hw]),
     .inr ⟨i + 1, _, rfl, by omega, hlt, a5u (.inl rfl) ⟨h2, h3⟩, by rw [a3C]; omega⟩⟩
  · obtain ⟨y, hy, hg⟩ := a9x hL hok ih hlt (o := o + 1) (by omega) (by omega) x.2.1
    exact ⟨y, J3 (by omega) (.inr h1) hy, hg⟩
  · obtain ⟨y, hy, hg⟩ := a9x hL hok ih hlt (o := o + 1) (by omega) (by omega) x.2.1
    exact ⟨y, J3 (by omega) (.inl h1) hy, hg⟩
 obtain ⟨y, hy, hg⟩ := hbeg
 have e1 : IntKind.i64.wrap (o + 1) = o + 1 := wr (by omega)
 rcases hg with hb | ⟨j', t, rfl, g⟩
 · exact ⟨((y.1.1, y.1.2.1, IntKind.i64.wrap (y.1.2.2.1 - 1), y.1.2.2.2), y.2), b9i (by
    simp only [r44, z0, cond_false, df h200, df (show ¬ ((i : Nat) : Int) ≥ ((L.length : Nat) : Int) by omega), D2 (show (0 : Int) ≤ ((i : Nat) : Int) by omega) (show ((i : Nat) : Int) < ((L.length : Nat) : Int) by omega), cond_true, Int.toNat_natCast, hx, bind_some, e1, hy]), .inl hb⟩
 · exact ⟨_, K0 hx h0 (by omega) hy, .inr ⟨j', t, rfl, g⟩⟩
theorem b7w (hok : ∀ x ∈ L, Okk x) : ∀ (m i : Nat), L.length - i ≤ m → i ≤ L.length → ∀ (p : Nat) (o : Int), 1 ≤ p → p ≤ 9 → 0 ≤ o → o ≤ 200 → ∃ y, rd p ((L, ((i : Nat) : Int), o, (0 : Int), (0 : Int)) : RS) = some y ∧ Good L i o y := by
 intro m
 induction m with
 | zero =>
   intro i h1 h2 p o p1 p9 h0 ho
   have ih : IH L i := fun p j o _ _ h3 h4 => by omega
   exact a9G hL ih h2 h0 ho (a4I hL hok ih h2 h0 ho) p p1 p9
 | succ m ihm =>
   intro i h1 h2 p o p1 p9 h0 ho
   have ih : IH L i := fun p j o p1 p9 h3 h4 h5 h6 => ihm j (by omega) h4 p o p1 p9 h5 h6
   exact a9G hL ih h2 h0 ho (a4I hL hok ih h2 h0 ho) p p1 p9
end
end Go.Proofs.YtlobhcgbmpcdlaaGreatDoor.R
