/-
  OUR OWN: the law TreeApart comes to true.
-/
import Derived.Test.YtcmdngadpplodaaTreeL
import Derived.Test.YtcmdngadpplodaaResOk
namespace Go.Proofs.Ytcmdngadpplodaa.R
open Go Go.Bm Go.Proofs
set_option linter.unusedVariables false
set_option linter.unusedSimpArgs false
set_option maxRecDepth 4000

theorem TreeApart_eq (a b : List Nd) : c46 T.rf a b = some true := or46 (by
  have live_eq : c2 T.rf = some true := live_run
  simp only [r46, few_eq, live_eq, Option.bind_some]
  by_cases la : a.length ≤ 100
  case neg => rw [df (by omega)]; rfl
  rw [dt (by omega), Bool.not_true, cond_false]
  by_cases lb : b.length ≤ 100
  case neg => rw [df (by omega)]; rfl
  have h1 : a.length ≤ 1000000 := by omega
  have h2 : b.length ≤ 1000000 := by omega
  rw [dt (by omega), Bool.not_true, cond_false]
  simp only [May_eq h1, May_eq h2, Option.bind_some]
  cases ha : mayB a
  · rfl
  cases hb : mayB b
  · rfl
  rw [Bool.not_true, cond_false, cond_false]
  obtain ⟨ta, ea, va, sa, oa, da, _, _⟩ := may_tree ha
  obtain ⟨tb, eb, vb, sb, ob, db, _, _⟩ := may_tree hb
  have pa := List.length_pos_iff.2 (may_P ha).ne
  have pb := List.length_pos_iff.2 (may_P hb).ne
  have hj := join2 (op := 6) (n := 0) (nm := []) (by omega) ha hb
  have hjm := join2_may (op := 6) (by omega) ha hb
  obtain ⟨e1, e2, e3⟩ := join2_tree (op := 6) (n := 0) (nm := []) (by omega) ea eb (by omega) (by omega)
  generalize he : a ++ (b.map (mv a.length) ++ [((6 : Int), (a.length : Int) - 1, ((a.length + b.length : Nat) : Int) - 1, (-1 : Int), (0 : Int), ([] : List UInt8))]) = e at hj hjm e1 e2 e3
  have hel : e.length = a.length + b.length + 1 := by rw [← he]; simp; omega
  have hlast : nth e (e.length - 1) = some (6, (a.length : Int) - 1, ((a.length + b.length : Nat) : Int) - 1, -1, 0, []) := by
    rw [hel, nth_getElem?, ← he, List.getElem?_append_right (by omega), List.getElem?_append_right (by rw [List.length_map]; omega), List.length_map, show a.length + b.length + 1 - 1 - a.length - b.length = 0 by omega]; rfl
  have hle : e.length ≤ 1000000 := by omega
  have hde := depth_emb e3
  have pda := dep_pos ta
  have pdb := dep_pos tb
  have hd : dep (.mk ((6 : Int), (-1 : Int), (-1 : Int), (-1 : Int), (0 : Int), ([] : List UInt8)) [ta, tb]) = (if dep tb > dep ta then dep tb else dep ta) + 1 := by
    have h0 : (if dep ta > 0 then dep ta else 0) = dep ta := if_pos (by omega)
    simp only [dep, deps]
    rw [h0]
  have hw : IntKind.i64.wrap (IntKind.i64.wrap ((a.length : Int) + (b.length : Int)) + 1) = ((e.length : Nat) : Int) := by
    rw [wr (x := (a.length : Int) + b.length) (by omega), wr (by omega), hel]; omega
  rw [Join_eq (by simp [total]; omega) (by simp), hj, Option.bind_some, hw, nbt rfl, cond_false, Depth_eq h1, Option.bind_some]
  simp only [Depth_eq h2, May_eq hle, Option.bind_some]
  by_cases d1 : depth a ≥ 40
  · rw [dt d1, cond_true]
    have : mayB e = false := by
      cases hm : mayB e
      · rfl
      · have := (may_P hm).deep
        rw [hde, hd] at this
        split at this <;> omega
    rw [this]; rfl
  rw [df d1, cond_false]
  by_cases d2 : depth b ≥ 40
  · rw [dt d2, cond_true]
    have : mayB e = false := by
      cases hm : mayB e
      · rfl
      · have := (may_P hm).deep
        rw [hde, hd] at this
        split at this <;> omega
    rw [this]; rfl
  rw [df d2, cond_false]
  have hm : mayB e = true := by
    rw [hjm, dt (by omega), dt (by rw [hde, hd]; split <;> omega)]; rfl
  have hne : e ≠ [] := (may_P hm).ne
  have hxa : subE e ((a.length : Int) - 1) = norm a := by
    rw [show (a.length : Int) - 1 = ((a.length - 1 : Nat) : Int) by omega, subE_flat hm (by omega) e1, norm_flat ha ea]
  have hxb : subE e (((a.length + b.length : Nat) : Int) - 1) = norm b := by
    rw [show ((a.length + b.length : Nat) : Int) - 1 = ((a.length + b.length - 1 : Nat) : Int) by omega, subE_flat hm (by omega) e2, norm_flat hb eb]
  have hs : ∀ x : List Nd, subE x ((x.length : Int) - 1) = norm x := fun _ => rfl
  have na := norm_len (e := a)
  have nb := norm_len (e := b)
  rw [last_i hne (by omega), inb_nat, dt (by omega), cond_true, Int.toNat_natCast, hlast, Option.bind_some]
  simp only [Sub_eq hle, Sub_eq h1, Sub_eq h2, Option.bind_some, cond_true, pred_i h1, pred_i h2, hs, hxa, hxb, hm, Same_eq (show (norm a).length < 4611686018427387904 by omega) (show (norm a).length < 4611686018427387904 by omega), Same_eq (show (norm b).length < 4611686018427387904 by omega) (show (norm b).length < 4611686018427387904 by omega), decide_true])

theorem lawTreeApart : LawOk T 46 := fun d _ => ⟨true, TreeApart_eq d.1 d.2, rfl, rfl, rfl⟩

end Go.Proofs.Ytcmdngadpplodaa.R
