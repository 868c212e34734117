/-
  OUR OWN: expressions that may be are trees; what is in order is a tree laid flat.
-/
import Derived.Test.YtifoobdekbjmdaaGreatTreeF
namespace Go.Proofs.YtifoobdekbjmdaaGreat.R
open Go Go.Bm Go.Proofs
set_option linter.unusedVariables false
set_option linter.unusedSimpArgs false
set_option maxRecDepth 4000

/-- A tree: a node without its operands' numbers, and the operands. -/
inductive Tr where
  | mk (b : Nd) (ks : List Tr)

mutual
def Tr.size : Tr → Nat
  | .mk b ks => sizes ks + 1
def sizes : List Tr → Nat
  | [] => 0
  | t :: r => t.size + sizes r
end
def roots : List Tr → Nat → List Int
  | [], _ => []
  | t :: r, o => ((o + t.size - 1 : Nat) : Int) :: roots r (o + t.size)
mutual
/-- A tree laid flat, behind so many nodes. -/
def flat : Tr → Nat → List Nd
  | .mk b ks, o => flats ks o ++ [aim b (roots ks o)]
def flats : List Tr → Nat → List Nd
  | [], _ => []
  | t :: r, o => flat t o ++ flats r (o + t.size)
end
mutual
def dep : Tr → Int
  | .mk b ks => deps ks 0 + 1
def deps : List Tr → Int → Int
  | [], m => m
  | t :: r, m => deps r (if dep t > m then dep t else m)
end
def Tr.op : Tr → Int
  | .mk b _ => b.1
def blank (n : Nd) : Nd := (n.1, -1, -1, -1, n.2.2.2.2)

mutual
/-- A node of a list stands for a tree. -/
def Emb (e : List Nd) : Nat → Tr → Prop
  | i, .mk b ks => ∃ n, nth e i = some n ∧ b = blank n ∧ n = aim b (kids n) ∧ Embs e i (kids n) ks
def Embs (e : List Nd) (i : Nat) : List Int → List Tr → Prop
  | [], [] => True
  | k :: r, t :: ts => 0 ≤ k ∧ k < i ∧ Emb e k.toNat t ∧ Embs e i r ts
  | _, _ => False
end

theorem Tr.size_pos : ∀ t : Tr, 0 < t.size
  | .mk b ks => by rw [Tr.size]; omega

theorem roots_len : ∀ (ks : List Tr) (o : Nat), (roots ks o).length = ks.length
  | [], _ => rfl
  | t :: r, o => by simp [roots, roots_len r]

mutual
theorem flat_len : ∀ (t : Tr) (o : Nat), (flat t o).length = t.size
  | .mk b ks, o => by rw [flat, List.length_append, flats_len ks o, Tr.size]; simp
theorem flats_len : ∀ (ks : List Tr) (o : Nat), (flats ks o).length = sizes ks
  | [], o => rfl
  | t :: r, o => by rw [flats, List.length_append, flat_len t o, flats_len r _, sizes]
end

theorem Embs_len {e : List Nd} {i : Nat} : ∀ {l : List Int} {ts : List Tr}, Embs e i l ts → l.length = ts.length
  | [], [], _ => rfl
  | k :: r, t :: ts, ⟨_, _, _, h⟩ => by simp [Embs_len h]
  | [], _ :: _, h => by simp [Embs] at h
  | _ :: _, [], h => by simp [Embs] at h

theorem aim_aim (b : Nd) : ∀ (l m : List Int), l.length = m.length → aim (aim b l) m = aim b m
  | [], [], _ => rfl
  | [a], [x], _ => rfl
  | [a, b'], [x, y], _ => by
    by_cases h : b.1 = 28
    · simp [aim, h]
    · simp [aim, h]
  | a :: b' :: c :: r, x :: y :: z :: s, _ => rfl
  | [], _ :: _, h => by simp at h
  | [_], [], h => by simp at h
  | [_], _ :: _ :: _, h => by simp at h
  | [_, _], [], h => by simp at h
  | [_, _], [_], h => by simp at h
  | [_, _], _ :: _ :: _ :: _, h => by simp at h
  | _ :: _ :: _ :: _, [], h => by simp at h
  | _ :: _ :: _ :: _, [_], h => by simp at h
  | _ :: _ :: _ :: _, [_, _], h => by simp at h

theorem aim_op (b : Nd) (l : List Int) : (aim b l).1 = b.1 := by
  match l with
  | [] => rfl
  | [a] => rfl
  | [a, c] => by_cases h : b.1 = 28 <;> simp [aim, h]
  | _ :: _ :: _ :: _ => rfl
theorem aim_rest (b : Nd) (l : List Int) : (aim b l).2.2.2.2 = b.2.2.2.2 := by
  match l with
  | [] => rfl
  | [a] => rfl
  | [a, c] => by_cases h : b.1 = 28 <;> simp [aim, h]
  | _ :: _ :: _ :: _ => rfl
theorem blank_aim (b : Nd) (l : List Int) : blank (aim b l) = blank b := by
  simp only [blank, aim_op, aim_rest]

/-- Each node of what may be stands for a tree. -/
theorem may_emb {e : List Nd} (hM : MayP e) : ∀ (m i : Nat), i < m → i < e.length → ∃ t, Emb e i t
  | 0, i, h, _ => by omega
  | m + 1, i, h, hi => by
    have hni := getD_nth hi
    have hal := hM.ahead i _ hni
    have hno := hM.node i _ hni
    have each : ∀ l : List Int, (∀ k ∈ l, 0 ≤ k ∧ k < i) → ∃ ts, Embs e i l ts := by
      intro l
      induction l with
      | nil => exact fun _ => ⟨[], trivial⟩
      | cons k l ih =>
        intro hl
        obtain ⟨ts, hts⟩ := ih fun q hq => hl q (List.mem_cons_of_mem _ hq)
        have hk := hl k List.mem_cons_self
        obtain ⟨t, ht⟩ := may_emb hM m k.toNat (by omega) (by omega)
        exact ⟨t :: ts, hk.1, hk.2, ht, hts⟩
    obtain ⟨ts, hts⟩ := each _ hal
    have := (of_decide_eq_true hno).2.2.1
    exact ⟨.mk (blank (e.getD i nd0)) ts, _, hni, rfl, this, hts⟩

mutual
theorem ord_emb (e : List Nd) : ∀ (t : Tr) (f i : Nat) (o : List Nd), Emb e i t → i < f → ord e f (i : Nat) o = o ++ flat t o.length
  | .mk b ks, 0, i, o, _, h => by omega
  | .mk b ks, f + 1, i, o, ⟨n, hn, hb, hna, hks⟩, h => by
    have hil : i < e.length := by rw [nth_getElem?] at hn; exact (List.getElem?_eq_some_iff.1 hn).1
    have hg : e.getD i nd0 = n := by have := getD_nth hil; rw [hn] at this; exact (Option.some.inj this).symm
    rw [ord, Int.toNat_natCast, hg, flat]
    have := ordL_emb e ks f i (kids n) o [] hks (by omega)
    rw [this]
    simp only [List.nil_append, List.append_assoc]
    congr 2
    have hl := Embs_len hks
    have e1 : aim n (roots ks o.length) = aim b (roots ks o.length) := by
      conv => lhs; rw [hna]
      exact aim_aim b _ _ (by rw [roots_len, hl])
    rw [e1]
theorem ordL_emb (e : List Nd) : ∀ (ts : List Tr) (f i : Nat) (l : List Int) (o : List Nd) (q : List Int), Embs e i l ts → i ≤ f → ordL (ord e f) l o q = (o ++ flats ts o.length, q ++ roots ts o.length)
  | [], f, i, l, o, q, h, hf => by
    cases l with
    | nil => simp [ordL, flats, roots]
    | cons k l => simp [Embs] at h
  | t :: ts, f, i, l, o, q, h, hf => by
    cases l with
    | nil => simp [Embs] at h
    | cons k l =>
      obtain ⟨h1, h2, h3, h4⟩ := h
      have hk : ((k.toNat : Nat) : Int) = k := by omega
      have ho := ord_emb e t f k.toNat o h3 (by omega)
      rw [hk] at ho
      rw [ordL, ho, ordL_emb e ts f i l _ _ h4 hf]
      have hsz := t.size_pos
      have hl : (o ++ flat t o.length).length = o.length + t.size := by rw [List.length_append, flat_len]
      rw [hl, flats, roots]
      simp only [List.append_assoc, List.singleton_append]
      congr 3
      omega
end

/-- What may be, in order: its tree laid flat. -/
theorem subE_flat {e : List Nd} {i : Nat} {t : Tr} (hM : mayB e = true) (hi : i < e.length) (h : Emb e i t) : subE e (i : Nat) = flat t 0 := by
  unfold subE
  rw [if_pos ⟨by omega, by omega, hM⟩, Int.toNat_natCast, ord_emb e t (i + 1) i [] h (by omega)]
  simp

/-! ### Trees that may be -/
/-- So many operands may the node have. -/
def Arity (b : Nd) (m : Nat) : Prop := ∀ l : List Int, l.length = m → (∀ x ∈ l, x ≠ -1) → kids (aim b l) = l
def argT (b : Nd) (m a : Nat) (op : Int) : Bool := decide (op = 28) == (decide (b.1 = 27) || (decide (b.1 = 28) && (decide (m = 2) && decide (a = 0))))
def argsT (b : Nd) (m : Nat) : List Tr → Nat → Bool
  | [], _ => true
  | t :: r, a => argT b m a t.op && argsT b m r (a + 1)
mutual
def Valid : Tr → Prop
  | .mk b ks => b = blank b ∧ Arity b ks.length ∧ ks.length ≤ 3 ∧ (1 ≤ b.1 ∧ b.1 ≤ 28 ∧ 0 ≤ b.2.2.2.2.1 ∧ b.2.2.2.2.1 ≤ mostN b.1 ∧ (b.2.2.2.2.2 ≠ [] ↔ (b.1 = 3 ∨ b.1 = 27))) ∧ argsT b ks.length ks 0 = true ∧ Valids ks
def Valids : List Tr → Prop
  | [] => True
  | t :: r => Valid t ∧ Valids r
end

theorem kids_aim (n : Nd) (h : n = aim (blank n) (kids n)) (hneg : ∀ x ∈ kids n, x ≠ -1) : Arity (blank n) (kids n).length := by
  intro l hl hx
  obtain ⟨op, a, b, c, k, nm⟩ := n
  by_cases h26 : op = 26
  · subst h26
    have hk : kids (26, a, b, c, k, nm) = [a, b, c] := by simp [kids]
    rw [hk] at hl
    match l, hl with
    | [x, y, z], _ => simp [blank, aim, kids]
  by_cases h28 : op = 28
  · subst h28
    by_cases hb : b = -1
    · have hk : kids (28, a, b, c, k, nm) = [a] := by subst hb; simp [kids]
      rw [hk] at hl
      match l, hl with
      | [x], _ => simp [blank, aim, kids]
    · have hk : kids (28, a, b, c, k, nm) = [b, a] := by simp [kids, hb]
      rw [hk] at hl
      match l, hl with
      | [x, y], _ =>
        have : x ≠ -1 := hx x (by simp)
        simp [blank, aim, kids, this]
  by_cases h27 : op = 27
  · subst h27
    by_cases ha : a = -1
    · have hk : kids (27, a, b, c, k, nm) = [] := by subst ha; simp [kids]
      rw [hk] at hl
      match l, hl with
      | [], _ => simp [blank, aim, kids]
    · have hk : kids (27, a, b, c, k, nm) = [a] := by simp [kids, ha]
      rw [hk] at hl
      match l, hl with
      | [x], _ =>
        have : x ≠ -1 := hx x (by simp)
        simp [blank, aim, kids, this]
  by_cases h6 : 6 ≤ op ∧ op ≤ 20
  · have hk : kids (op, a, b, c, k, nm) = [a, b] := by
      simp only [kids]; rw [if_neg h26, if_neg (fun h => h28 h.1), if_neg (fun h => h27 h.1), if_pos h6]
    rw [hk] at hl
    match l, hl with
    | [x, y], _ =>
      have ha : aim (blank (op, a, b, c, k, nm)) [x, y] = (op, x, y, -1, k, nm) := by
        show (if op = 28 then ((op, y, x, -1, k, nm) : Nd) else (op, x, y, -1, k, nm)) = _
        rw [if_neg h28]
      rw [ha]
      simp only [kids]
      rw [if_neg h26, if_neg (fun h => h28 h.1), if_neg (fun h => h27 h.1), if_pos h6]
  by_cases h4 : op = 4 ∨ op = 5 ∨ (21 ≤ op ∧ op ≤ 28)
  · have hk : kids (op, a, b, c, k, nm) = [a] := by
      simp only [kids]; rw [if_neg h26, if_neg (fun h => h28 h.1), if_neg (fun h => h27 h.1), if_neg h6, if_pos h4]
    rw [hk] at hl
    match l, hl with
    | [x], _ =>
      show kids (op, x, -1, -1, k, nm) = [x]
      simp only [kids]
      rw [if_neg h26, if_neg (fun h => h28 h.1), if_neg (fun h => h27 h.1), if_neg h6, if_pos h4]
  · have hk : kids (op, a, b, c, k, nm) = [] := by
      simp only [kids]; rw [if_neg h26, if_neg (fun h => h28 h.1), if_neg (fun h => h27 h.1), if_neg h6, if_neg h4]
    rw [hk] at hl
    match l, hl with
    | [], _ =>
      show kids (op, -1, -1, -1, k, nm) = []
      simp only [kids]
      rw [if_neg h26, if_neg (fun h => h28 h.1), if_neg (fun h => h27 h.1), if_neg h6, if_neg h4]

end Go.Proofs.YtifoobdekbjmdaaGreat.R
