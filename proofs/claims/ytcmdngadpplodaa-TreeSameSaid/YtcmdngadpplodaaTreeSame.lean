/-
  OUR OWN: the law TreeSame comes to true.
-/
import Derived.Test.YtcmdngadpplodaaTreeN
import Derived.Test.YtcmdngadpplodaaResOk
namespace Go.Proofs.Ytcmdngadpplodaa.R
open Go Go.Bm Go.Proofs
set_option linter.unusedVariables false
set_option linter.unusedSimpArgs false
set_option maxRecDepth 4000

theorem join_var (s : List UInt8) : join 3 0 s [] = [varN s] := by
  simp [join, kids, joinL, keptK, aim, varN]

theorem Same_loop0 : ∀ (suf pre : List (List UInt8)) (out : List (List Nd)), pre.length + suf.length ≤ 1000000 → out.length + suf.length ≤ 1000000 →
    k70 T.rb (pre ++ suf) out (pre.length : Nat) = some (pre ++ suf, out ++ suf.map fun s => [varN s])
  | [], pre, out, h, h2 => ob70 (by simp only [b70, lt_end, lt_self, List.append_nil, cond_false, List.map_nil])
  | s :: suf, pre, out, h, h2 => ob70 (by
    simp only [List.length_cons] at h h2
    have ih := Same_loop0 suf (pre ++ [s]) (out ++ [[varN s]]) (by simp; omega) (by simp; omega)
    simp only [List.append_assoc, List.singleton_append] at ih
    simp only [b70, lt_mid, inb_mid, nth_mid, cond_true, Option.bind_some, Join_eq (op := 3) (n := 0) (ps := []) (by simp [total]) (by simp), join_var, ble_most (show out.length + 1 ≤ 274877906944 by omega), Bool.and_true, next_mid pre s (by omega), List.map_cons]
    exact ih)

theorem vars_len' (e : List Nd) : (vars e).length ≤ e.length + 1 ∨ mayB e = false := by
  cases h : mayB e
  · exact .inr rfl
  · left
    have h1 := varsL_len (norm e) []
    have h2 := (norm_may h).2.1
    simp only [vars, List.length_nil] at h1 ⊢; omega

theorem TreeSame_eq (e : List Nd) : c47 T.rf e = some true := or47 (by
  have live_eq : c2 T.rf = some true := live_run
  simp only [r47, few_eq, live_eq, Option.bind_some]
  by_cases le : e.length ≤ 100
  case neg => rw [df (by omega)]; rfl
  have h1 : e.length ≤ 1000000 := by omega
  rw [dt (by omega), Bool.not_true, cond_false]
  simp only [May_eq h1, Option.bind_some]
  cases hm : mayB e
  · rfl
  have hvl : (vars e).length ≤ 101 := by
    rcases vars_len' e with h | h
    · omega
    · rw [hm] at h; cases h
  have hl := Same_loop0 (vars e) [] [] (by simp; omega) (by simp; omega)
  simp only [List.nil_append, List.length_nil] at hl
  rw [show ((0 : Nat) : Int) = (0 : Int) from rfl] at hl
  have hnodes : ∀ s ∈ vars e, s ≠ [] := fun s hs => by
    obtain ⟨n, hn, h3, hns⟩ := vars_in hm hs
    obtain ⟨i, hi⟩ := List.mem_iff_getElem?.1 hn
    rw [← nth_getElem?] at hi
    have := var_node ((may_P hm).node i n hi) h3
    rw [← hns]; exact this.2
  have hall : ((vars e).map fun s => [varN s]).all mayB = true := List.all_eq_true.2 fun x hx => by
    obtain ⟨s, hs, rfl⟩ := List.mem_map.1 hx
    exact (varN_may (hnodes s hs)).1
  have hput : put e (vars e) ((vars e).map fun s => [varN s]) = norm e := by
    unfold put
    rw [if_pos ⟨hm, by simp, hall⟩]
    refine putL_norm hm fun n hn h3 hp p => ?_
    have hv := var_node (norm_nodes hm n hn).2 h3
    obtain ⟨j, hj, hg⟩ := placeI_get _ _ _ hp
    have : ((vars e).map fun s => [varN s]).getD (placeI n.2.2.2.2.2 (vars e) 0).toNat [] = [varN n.2.2.2.2.2] := by
      rw [hj, Int.toNat_natCast, Nat.zero_add, List.getD_eq_getElem?_getD, List.getElem?_map, hg]; rfl
    rw [this, (varN_may hv.2).2, List.map_cons, List.map_nil, varN_mv, ← hv.1]
  have hby : ∀ x ∈ ((vars e).map fun s => [varN s]), x.length ≤ 1000000 := fun x hx => by
    obtain ⟨s, _, rfl⟩ := List.mem_map.1 hx; simp
  have hn := norm_len (e := e)
  have hs : ∀ x : List Nd, subE x ((x.length : Int) - 1) = norm x := fun _ => rfl
  simp only [Bool.not_true, cond_false, Vars_eq h1, Option.bind_some, hl, Put_eq h1 (show (vars e).length ≤ 1000 by omega) (show ((vars e).map fun s => [varN s]).length ≤ 1000 by simp; omega) hby, hput, pred_i h1, Sub_eq h1, hs, Same_eq (show (norm e).length < 4611686018427387904 by omega) (show (norm e).length < 4611686018427387904 by omega), decide_true, cond_true])

theorem lawTreeSame : LawOk T 47 := fun d _ => ⟨true, TreeSame_eq d, rfl, rfl, rfl⟩

end Go.Proofs.Ytcmdngadpplodaa.R
