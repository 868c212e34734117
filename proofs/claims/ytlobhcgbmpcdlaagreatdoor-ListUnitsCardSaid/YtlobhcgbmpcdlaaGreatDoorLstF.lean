import Derived.Test.YtlobhcgbmpcdlaaGreatDoorLstE
namespace Go.Proofs.YtlobhcgbmpcdlaaGreatDoor.R
open Go Go.Bm Go.Proofs
set_option linter.unusedVariables false
set_option linter.unusedSimpArgs false
set_option maxRecDepth 4000
theorem ListUnits_eq (p : Prg) : c158 T.rf p = some true := or158 (by
 have live_eq : c2 T.rf = some true := live_run
 obtain ⟨s, h1, h2⟩ := Small_eq p
 simp only [r158, h1, Option.bind_some, live_eq]
 cases s with
 | false => rfl
 | true =>
   have hs := h2 rfl
   have hj : prgB p = true → (J (wPg p)).length ≤ 200000000000 := fun h => Nat.le_trans (wPg_J hs h) (by decide)
   rw [Bool.not_true, cond_false, May_list hs (by decide) (by decide), Option.bind_some]
   cases hp : prgB p with
   | false => rfl
   | true =>
     rw [Bool.not_true, cond_false]
     obtain ⟨us, mn, bk⟩ := p
     cases us with
     | nil => rfl
     | cons u us =>
       have hlen : ¬ ((((u :: us).length : Nat) : Int) < 1) := by simp only [List.length_cons]; omega
       have hin : inb' 1 (u :: us).length = true := inb'_t (by omega) (by simp only [List.length_cons]; omega)
       have hsub : sub (u :: us) (some (1, (u :: us).length - 1)) = us := by
        show ((u :: us).drop 1).take ((u :: us).length - 1) = us
        simp
       have H := pgF hp
       have hq : prgB (us, mn, bk) = true := by
        unfold prgB at hp ⊢
        simp only [Bool.and_eq_true, decide_eq_true_eq, List.all_cons, List.length_cons] at hp ⊢
        exact ⟨hp.1, hp.2.1, by omega, hp.2.2.2.2⟩
       have hsq : SzP 30 200 (us, mn, bk) := ⟨by have := hs.c; simp only [List.length_cons] at this ⊢; omega, fun v hv => hs.u v (List.mem_cons_of_mem _ hv)⟩
       have hjq : prgB (us, mn, bk) = true → (J (wPg (us, mn, bk))).length ≤ 200000000000 := fun h => Nat.le_trans (wPg_J hsq h) (by decide)
       have e : txt (wPg (u :: us, mn, bk)) = K (wUn u) ++ txt (wPg (us, mn, bk)) := by
        have e1 : wPg (u :: us, mn, bk) = wUn u ++ wPg (us, mn, bk) := by rw [wPg, wPg]; simp [wUns]
        rw [e1, txt_K (by rw [wPg, List.length_append]; unfold wEnd; split <;> simp only [List.length_cons, List.length_nil] <;> omega)]
       have hK : 1 ≤ (K (wUn u)).length := by
        unfold wUn; split <;> rw [K_cons] <;> simp
       have hb := hj hp
       have ht := txt_le (wPg (u :: us, mn, bk))
       have hl : (txt (wPg (u :: us, mn, bk))).length = (K (wUn u)).length + (txt (wPg (us, mn, bk))).length := by rw [e, List.length_append]
       have hw : IntKind.i64.wrap (((txt (wPg (u :: us, mn, bk))).length : Int) - ((txt (wPg (us, mn, bk))).length : Int)) = (((K (wUn u)).length : Nat) : Int) := by rw [Go.Bm.wr (by omega)]; omega
       have hsb : sub (txt (wPg (u :: us, mn, bk))) (some ((K (wUn u)).length, (txt (wPg (u :: us, mn, bk))).length - (K (wUn u)).length)) = txt (wPg (us, mn, bk)) := by
        show ((txt (wPg (u :: us, mn, bk))).drop _).take _ = _
        rw [hl, e, List.drop_left, Nat.add_sub_cancel_left, List.take_length]
       simp only [df hlen, cond_false, hin, cond_true, hsub, Write_list hs (by decide) (by decide) hj, Write_list hsq (by decide) (by decide) hjq, Option.bind_some, May_list hsq (by decide) (by decide), hq, hp, if_true]
       rw [dt (by omega), cond_true, hw, inb'_t (by omega) (by omega), cond_true, Int.toNat_natCast, hsb, beq_self_eq_true]
       rfl)
theorem lawListUnits : LawOk T 158 := fun d _ => ⟨true, ListUnits_eq d, rfl, rfl, rfl⟩
end Go.Proofs.YtlobhcgbmpcdlaaGreatDoor.R
