/-
  OUR OWN: the law TreeVars comes to true.
-/
import Derived.Test.YtcmdngadpplodaaTreeM
import Derived.Test.YtcmdngadpplodaaResOk
namespace Go.Proofs.Ytcmdngadpplodaa.R
open Go Go.Bm Go.Proofs
set_option linter.unusedVariables false
set_option linter.unusedSimpArgs false
set_option maxRecDepth 4000

theorem vars_len (e : List Nd) : (vars e).length ≤ 5001 := by
  have h1 := varsL_len (norm e) []
  have h2 := norm_len (e := e)
  simp only [vars, List.length_nil] at h1 ⊢; omega

theorem V_loop0 (a : List Nd) (ha : mayB a = true) (hl : a.length ≤ 1000000) : ∀ (suf pre : List Nd), a = pre ++ suf → k73 T.rb a (vars a) (pre.length : Nat) = some (.inr ())
  | [], pre, h => ob73 (by
    have e : pre.length = a.length := by rw [h]; simp
    simp only [b73, e, lt_self, cond_false])
  | n :: suf, pre, h => ob73 (by
    have ih := V_loop0 a ha hl suf (pre ++ [n]) (by rw [h]; simp)
    have hlt : pre.length < a.length := by rw [h]; simp
    have a1 : decide (((pre.length : Nat) : Int) < ((a.length : Nat) : Int)) = true := dt (by omega)
    have a2 : inb ((pre.length : Nat) : Int) a.length = true := inb_t (by omega) (by omega)
    have a3' : nth a pre.length = some n := by rw [h, nth_getElem?]; simp
    have a3 : nth a ((pre.length : Nat) : Int).toNat = some n := by rw [Int.toNat_natCast]; exact a3'
    have a4 : IntKind.i64.wrap (((pre.length : Nat) : Int) + 1) = ((pre ++ [n]).length : Nat) := next_mid pre n (by omega)
    have hv := vars_len a
    by_cases h3 : n.1 = 3
    · have hc := nod_one (vars_nodup a) (var_in ha a3' h3)
      simp only [b73, a1, a2, a3, a4, cond_true, Option.bind_some, bt h3, count_eq n.2.2.2.2.2 (show (vars a).length ≤ 1000000 by omega), hc, nbt (show (((1 : Nat) : Int) = 1) from rfl), cond_false]
      exact ih
    · simp only [b73, a1, a2, a3, a4, cond_true, Option.bind_some, bf h3, cond_false]
      exact ih)

theorem V_loop2 (b : List Nd) (hb : b.length ≤ 1000000) (l : List (List UInt8)) (hl : l.length ≤ 1000000) : ∀ (suf pre : List (List UInt8)), pre.length + suf.length ≤ 1000000 → (∀ x ∈ suf, (vars b).count x = 1 ∧ l.count x = 0) →
    k74 T.rb b l (pre ++ suf) (pre.length : Nat) = some (.inr ())
  | [], pre, h, hx => ob74 (by simp only [b74, lt_end, lt_self, List.append_nil, cond_false])
  | x :: suf, pre, h, hx => ob74 (by
    simp only [List.length_cons] at h
    have ih := V_loop2 b hb l hl suf (pre ++ [x]) (by simp; omega) (fun q hq => hx q (List.mem_cons_of_mem _ hq))
    simp only [List.append_assoc, List.singleton_append] at ih
    obtain ⟨h1, h2⟩ := hx x List.mem_cons_self
    have hv := vars_len b
    simp only [b74, lt_mid, inb_mid, nth_mid, cond_true, Option.bind_some, Vars_eq hb, count_eq x (show (vars b).length ≤ 1000000 by omega), h1, count_eq x hl, h2, nbt (show (((1 : Nat) : Int) = 1) from rfl), nbt (show (((0 : Nat) : Int) = 0) from rfl), cond_false, next_mid pre x (by omega)]
    exact ih)

theorem TreeVars_eq (a b : List Nd) : c48 T.rf a b = some true := or48 (by
  have live_eq : c2 T.rf = some true := live_run
  simp only [r48, few_eq, live_eq, Option.bind_some]
  by_cases la : a.length ≤ 100
  case neg => rw [df (by omega)]; rfl
  rw [dt (by omega), Bool.not_true, cond_false]
  by_cases lb : b.length ≤ 100
  case neg => rw [df (by omega)]; rfl
  have h1 : a.length ≤ 1000000 := by omega
  have h2 : b.length ≤ 1000000 := by omega
  rw [dt (by omega), Bool.not_true, cond_false]
  simp only [May_eq h1, May_eq h2, Option.bind_some]
  cases ha : mayB a
  · rfl
  cases hb : mayB b
  · rfl
  rw [Bool.not_true, cond_false, cond_false]
  obtain ⟨ta, ea, va, sa, oa, da, _, _⟩ := may_tree ha
  obtain ⟨tb, eb, vb, sb, ob, db, _, _⟩ := may_tree hb
  have pa := List.length_pos_iff.2 (may_P ha).ne
  have pb := List.length_pos_iff.2 (may_P hb).ne
  have hj := join2 (op := 7) (n := 0) (nm := []) (by omega) ha hb
  obtain ⟨e1, e2, e3⟩ := join2_tree (op := 7) (n := 0) (nm := []) (by omega) ea eb (by omega) (by omega)
  generalize he : a ++ (b.map (mv a.length) ++ [((7 : Int), (a.length : Int) - 1, ((a.length + b.length : Nat) : Int) - 1, (-1 : Int), (0 : Int), ([] : List UInt8))]) = e at hj e1 e2 e3
  have hel : e.length = a.length + b.length + 1 := by rw [← he]; simp; omega
  have hle : e.length ≤ 1000000 := by omega
  have hl0 := V_loop0 a ha h1 a [] rfl
  rw [List.length_nil, show ((0 : Nat) : Int) = (0 : Int) from rfl] at hl0
  rw [Vars_eq h1, Option.bind_some, hl0, Option.bind_some]
  simp only [Join_eq (op := 7) (n := 0) (nm := []) (ps := [a, b]) (by simp [total]; omega) (by simp), hj, Option.bind_some, May_eq hle]
  cases hm : mayB e
  · rfl
  rw [Bool.not_true, cond_false, Vars_eq hle, Option.bind_some]
  have hva := vars_labs ha ea
  have hvb := vars_labs hb eb
  have hve : vars e = varsL (labs tb) (vars a) := by
    rw [vars_labs hm e3, labs, labss, labss, labss, varsL_app, varsL_app, List.append_nil, hva]
    rw [varsL, if_neg (by intro hh; exact absurd hh.1 (by decide)), varsL]
  obtain ⟨r, hr⟩ := varsL_pre (labs tb) (vars a)
  rw [hr] at hve
  have hnd := vars_nodup e
  rw [hve] at hnd
  have hlen := vars_len e
  have hlena := vars_len a
  have hl2 : (vars e).length = (vars a).length + r.length := by rw [hve]; simp
  have hrx : ∀ x ∈ r, (vars b).count x = 1 ∧ (vars a).count x = 0 := by
    intro x hx
    have hxa : x ∉ vars a := fun hh => (List.nodup_append.1 hnd).2.2 _ hh _ hx rfl
    refine ⟨nod_one (vars_nodup b) ?_, List.count_eq_zero.2 hxa⟩
    have hxm : x ∈ varsL (labs tb) (vars a) := by rw [hr]; exact List.mem_append_right _ hx
    rcases (varsL_mem _ _ _).1 hxm with h | h
    · exact absurd h hxa
    · rw [hvb, varsL_mem]; exact .inr h
  have hloop := V_loop2 b h2 (vars a) (by omega) r (vars a) (by omega) hrx
  rw [← hve] at hloop
  have hsub : sub (vars e) (some (0, (vars a).length - 0)) = vars a := by
    rw [sub_zero, hve, Nat.sub_zero, List.take_left']; rfl
  rw [df (by omega), cond_false, inb'_nat, dt (by omega), cond_true, hsub, Texts_eq (show (vars a).length < 4611686018427387904 by omega), Option.bind_some, dt rfl, Bool.not_true, cond_false, hloop]
  rfl)

theorem lawTreeVars : LawOk T 48 := fun d _ => ⟨true, TreeVars_eq d.1 d.2, rfl, rfl, rfl⟩

end Go.Proofs.Ytcmdngadpplodaa.R
