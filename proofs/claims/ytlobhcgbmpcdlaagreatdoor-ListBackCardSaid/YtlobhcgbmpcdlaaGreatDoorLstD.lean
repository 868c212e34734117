import Derived.Test.YtlobhcgbmpcdlaaGreatDoorLstC
open Option (bind_some)
open List (length_append length_cons length_nil)
open Bool (and_eq_true)
namespace Go.Proofs.YtlobhcgbmpcdlaaGreatDoor.R
open Go Go.Bm Go.Proofs
set_option linter.unusedVariables false
set_option linter.unusedSimpArgs false
set_option maxRecDepth 4000
theorem wrl (out : List Tok3) (G : List (List Str)) : (out ++ wrG G).length = out.length + G.length := by rw [length_append, wr_len]
theorem sgl (l : List Str) : (sg l).length = l.length := by simp [sg]
theorem gsep_len {α : Type} {g : α → List (List Str)} (s : Str) (B : Nat) : ∀ l : List α, (∀ x ∈ l, (g x).length ≤ B) → (gtail s (l.map g)).length ≤ l.length * (B + 1) ∧ (gsep s (l.map g)).length ≤ l.length * (B + 1)
 | [], _ => by simp [gtail, gsep]
 | x :: r, h => by
   have hx := h x (by simp)
   have ih := gsep_len s B r fun y hy => h y (List.mem_cons_of_mem _ hy)
   have hmul : (r.length + 1) * (B + 1) = r.length * (B + 1) + (B + 1) := Nat.succ_mul _ _
   simp only [List.map_cons, gtail, gsep, length_cons, length_append, hmul]
   omega
theorem gEs_len (s : Str) (l : List (List Nd)) : (gsep s (l.map gE)).length ≤ l.length * 2 := (gsep_len s 1 l fun x _ => by simp [gE]).2
theorem gPs_len (s : Str) (l : List Pm) : (gsep s (l.map gPm)).length ≤ l.length * 4 := (gsep_len s 3 l fun x _ => by simp [gPm, sg, wPm]).2
theorem gE_len (e : List Nd) : (gE e).length = 1 := rfl
theorem gPm_len (p : Pm) : (gPm p).length = 3 := rfl
theorem gIn_len (l : List Pm) : (gIn l).length ≤ l.length * 4 + 2 := by
 have := gPs_len [59] l
 simp only [gIn, length_append, sgl, length_cons, length_nil]; omega
inductive ItF (x : Itm) : Prop
 | ag (k : x.1 = 1 ∨ x.1 = 2) (nm : x.2.1 = []) (ty : x.2.2.1 = 0) (e : mayS x.2.2.2.1 = true) (f : x.2.2.2.2.1 = []) (a : x.2.2.2.2.2 = [])
 | gh (k : x.1 = 3) (nm : nameB x.2.1 = true) (ty : x.2.2.1 = 1 ∨ x.2.2.1 = 2) (e : mayS x.2.2.2.1 = true) (f : x.2.2.2.2.1 = []) (a : x.2.2.2.2.2 = [])
 | md (k : x.1 = 4) (nm : nameB x.2.1 = true) (ty : x.2.2.1 = 0) (e : mayS x.2.2.2.1 = true) (f : mayS x.2.2.2.2.1 = true) (a : x.2.2.2.2.2 = [])
 | im (k : x.1 = 5) (nm : nameB x.2.1 = true) (ty : x.2.2.1 = 0) (e : x.2.2.2.1 = []) (f : x.2.2.2.2.1 = []) (l : x.2.2.2.2.2.length ≤ 200) (a : ∀ y ∈ x.2.2.2.2.2, mayS y = true)
theorem itF {x : Itm} (h : itmB x = true) : ItF x := by
 unfold itmB at h
 split at h
 · rename_i k
   simp only [and_eq_true, beq_iff_eq, decide_eq_true_eq, List.length_eq_zero_iff] at h
   exact .ag k h.1 h.2.1 h.2.2.1 h.2.2.2.1 h.2.2.2.2
 split at h
 · rename_i k
   simp only [and_eq_true, Bool.or_eq_true, beq_iff_eq, decide_eq_true_eq, List.length_eq_zero_iff] at h
   exact .gh k h.1 h.2.1 h.2.2.1 h.2.2.2.1 h.2.2.2.2
 split at h
 · rename_i k
   simp only [and_eq_true, beq_iff_eq, decide_eq_true_eq, List.length_eq_zero_iff] at h
   exact .md k h.1 h.2.1 h.2.2.1 h.2.2.2.1 h.2.2.2.2
 split at h
 · rename_i k
   simp only [and_eq_true, beq_iff_eq, decide_eq_true_eq, List.length_eq_zero_iff, List.all_eq_true] at h
   exact .im k h.1 h.2.1 h.2.2.1 h.2.2.2.1 h.2.2.2.2.1 h.2.2.2.2.2
 · cases h
structure UnF (u : Unt) : Prop where
 nm : nameB u.2.1 = true
 i : u.2.2.1.length ≤ 200
 ib : ∀ p ∈ u.2.2.1, prmB p = true
 v : u.2.2.2.2.2.1.length ≤ 200
 vb : ∀ p ∈ u.2.2.2.2.2.1, prmB p = true
 q : u.2.2.2.2.2.2.1.length ≤ 200
 qb : ∀ p ∈ u.2.2.2.2.2.2.1, eqnB p = true
 x : u.2.2.2.2.2.2.2.length ≤ 200
 xb : ∀ p ∈ u.2.2.2.2.2.2.2, itmB p = true
 k : u.1 = true → u.2.2.2.1 = [] ∧ u.2.2.2.2.1 = 0 ∧ u.2.2.2.2.2.1 = [] ∧ u.2.2.2.2.2.2.1 = []
 o : u.1 = false → prmB (u.2.2.2.1, u.2.2.2.2.1) = true
theorem unF {u : Unt} (h : untB u = true) : UnF u := by
 unfold untB prmsB at h
 simp only [and_eq_true, decide_eq_true_eq, List.all_eq_true] at h
 obtain ⟨h1, ⟨h2, h3⟩, ⟨h4, h5⟩, ⟨h6, h7⟩, ⟨h8, h9⟩, h10⟩ := h
 refine ⟨h1, h2, h3, h4, h5, h6, h7, h8, h9, fun k => ?_, fun k => ?_⟩
 · rw [k, cond_true] at h10
   simp only [and_eq_true, beq_iff_eq, decide_eq_true_eq, List.length_eq_zero_iff] at h10
   exact ⟨h10.1.1, h10.1.2, h10.2.1, h10.2.2⟩
 · rw [k, cond_false] at h10; exact h10
structure PgF (p : Prg) : Prop where
 mn : nameB p.2.1 = true
 bk : p.2.2 = [] ∨ nameB p.2.2 = true
 n : p.1.length ≤ 200
 u : ∀ u ∈ p.1, untB u = true
theorem pgF {p : Prg} (h : prgB p = true) : PgF p := by
 unfold prgB at h
 simp only [and_eq_true, Bool.or_eq_true, beq_iff_eq, decide_eq_true_eq, List.all_eq_true] at h
 exact ⟨h.1, h.2.1, h.2.2.1, h.2.2.2⟩
theorem eqF {q : Eqn} (h : eqnB q = true) : nameB q.1 = true ∧ mayS q.2 = true := by rw [eqnB, and_eq_true] at h; exact h
theorem gIt_len {x : Itm} (h : itmB x = true) : (gIt x).length ≤ 410 := by
 have hE := gEs_len [44] x.2.2.2.2.2
 have hl : x.2.2.2.2.2.length ≤ 200 := by
  cases itF h with
  | ag k nm ty e f a => rw [a]; simp
  | gh k nm ty e f a => rw [a]; simp
  | md k nm ty e f a => rw [a]; simp
  | im k nm ty e f l a => exact l
 unfold gIt
 split
 · simp only [length_append, sgl, gE_len, length_cons, length_nil]; omega
 split
 · simp only [length_append, sgl, gE_len, length_cons, length_nil]; omega
 split
 · simp only [length_append, sgl, gE_len, gPm_len, length_cons, length_nil]; omega
 split
 · simp only [length_append, sgl, gE_len, length_cons, length_nil]; omega
 · simp only [length_append, sgl, length_cons, length_nil]; omega
theorem gIts_len : ∀ l : List Itm, (∀ x ∈ l, itmB x = true) → (gIts l).length ≤ l.length * 410
 | [], _ => by simp [gIts]
 | x :: l, h => by
   have h1 := gIt_len (h x (by simp))
   have h2 := gIts_len l fun y hy => h y (List.mem_cons_of_mem _ hy)
   have e : gIts (x :: l) = gIt x ++ gIts l := rfl
   rw [e, length_append, length_cons]; omega
theorem gEqs_len : ∀ l : List Eqn, (gEqs l).length = l.length * 4
 | [] => by simp [gEqs]
 | x :: l => by
   have h2 := gEqs_len l
   have e : gEqs (x :: l) = gEq x ++ gEqs l := rfl
   have e2 : (gEq x).length = 4 := rfl
   rw [e, length_append, length_cons]; omega
theorem gVars_len (l : List Pm) : (gVars l).length ≤ l.length * 4 + 2 := by
 have := gPs_len [59] l
 unfold gVars; split
 · simp only [length_append, sgl, length_cons, length_nil]; omega
 · simp
theorem gUn_len {u : Unt} (h : untB u = true) : (gUn u).length ≤ 90000 := by
 have H := unF h
 have h1 := gIn_len u.2.2.1
 have h2 := gIn_len [(u.2.2.2.1, u.2.2.2.2.1)]
 have h3 := gIts_len _ H.xb
 have h4 := gVars_len u.2.2.2.2.2.1
 have h5 := gEqs_len u.2.2.2.2.2.2.1
 have a := H.i; have b := H.v; have c := H.q; have d := H.x
 simp only [length_cons, length_nil] at h2
 unfold gUn
 split
 · simp only [length_append, sgl, length_cons, length_nil]; omega
 · split
   · simp only [length_append, sgl, length_cons, length_nil]; omega
   · simp only [length_append, sgl, length_cons, length_nil]; omega
theorem gE_full {e : List Nd} (he : mayS e = true) : Full (gE e) := fun g hg => by
 have : g = etoks e := by simpa [gE] using hg
 rw [this]; exact (ef he).len
theorem gIt_full {x : Itm} (h : itmB x = true) : Full (gIt x) := by
 have fe : ∀ {e : List Nd}, mayS e = true → Full (gE e) := fun he => gE_full he
 have S : ∀ l, Full (sg l) := Full.sg
 cases itF h with
 | ag k nm ty e f a =>
   unfold gIt
   rcases k with k | k
   · rw [if_pos k]; exact (S _).app ((fe e).app (S _))
   · rw [if_neg (by omega), if_pos k]; exact (S _).app ((fe e).app (S _))
 | gh k nm ty e f a =>
   unfold gIt
   rw [if_neg (by omega), if_neg (by omega), if_pos k]
   exact (S _).app ((S _).app ((S _).app ((fe e).app (S _))))
 | md k nm ty e f a =>
   unfold gIt
   rw [if_neg (by omega), if_neg (by omega), if_neg (by omega), if_pos k]
   exact (S _).app ((fe e).app ((S _).app ((fe f).app (S _))))
 | im k nm ty e f l a =>
   unfold gIt
   rw [if_neg (by omega), if_neg (by omega), if_neg (by omega), if_neg (by omega)]
   refine (S _).app ((gsep_full _ _ fun G hG => ?_).app ((S _).app (S _)))
   obtain ⟨y, hy, rfl⟩ := List.mem_map.1 hG
   exact fe (a y hy)
theorem full_flat {α : Type} {g : α → List (List Str)} : ∀ l : List α, (∀ x ∈ l, Full (g x)) → Full (l.map g).flatten
 | [], _ => fun x hx => by cases hx
 | x :: l, h => by
   rw [List.map_cons, List.flatten_cons]
   exact (h x (by simp)).app (full_flat l fun y hy => h y (List.mem_cons_of_mem _ hy))
theorem gIn_full (l : List Pm) : Full (gIn l) := (Full.sg _).app ((gsep_full _ _ fun G hG => by obtain ⟨y, _, rfl⟩ := List.mem_map.1 hG; exact Full.sg _).app (Full.sg _))
theorem gUn_full {u : Unt} (h : untB u = true) : Full (gUn u) := by
 have H := unF h
 have S : ∀ l, Full (sg l) := Full.sg
 have hx : Full (gIts u.2.2.2.2.2.2.2) := full_flat _ fun x hx => gIt_full (H.xb x hx)
 have hq : Full (gEqs u.2.2.2.2.2.2.1) := full_flat _ fun q hq => (S _).app ((gE_full (eqF (H.qb q hq)).2).app (S _))
 have hv : Full (gVars u.2.2.2.2.2.1) := by
  unfold gVars; split
  · exact (S _).app ((gsep_full _ _ fun G hG => by obtain ⟨y, _, rfl⟩ := List.mem_map.1 hG; exact S _).app (S _))
  · intro g hg; cases hg
 unfold gUn
 split
 · exact (S _).app ((gIn_full _).app (hx.app (S _)))
 · refine (S _).app ((gIn_full _).app ((S _).app ((gIn_full _).app (Full.app ?_ (hv.app ((S _).app (hq.app (S _))))))))
   split
   · exact (S _).app (hx.app (S _))
   · intro g hg; cases hg
theorem linputs_eq {out : List Tok3} {l : List Pm} (hl : l.length ≤ 1000) (h : out.length ≤ 100000000) : c114 T.rf out l = some (out ++ wrG (gIn l)) := or114 (by
 have hg := gPs_len [59] l
 simp only [r114]
 rw [lput_eq (by simp only [length_cons, length_nil]; omega) (by simp), bind_some, lmanyP_eq _ (by omega) (by simp only [wrl, sgl, length_cons, length_nil]; omega), bind_some,
  lput_eq (by simp only [wrl, sgl, length_cons, length_nil]; omega) (by simp), bind_some]
 simp only [gIn, wr_app, List.append_assoc])
theorem litem_eq {out : List Tok3} {x : Itm} (hx : itmB x = true) (h : out.length ≤ 100000000) : c117 T.rf out x = some (out ++ wrG (gIt x)) := or117 (by
 have b1 : ∀ k : Int, k ≠ x.1 → (x.1 == k) = false := fun k hk => bf (fun h => hk h.symm)
 cases itF hx with
 | ag k nm ty e f a =>
   rcases k with k | k
   · simp only [r117, bt k, cond_true]
     rw [lput_eq (by simp only [length_cons, length_nil]; omega) (by simp), bind_some, lexpr_eq e (by simp only [wrl, sgl, length_cons, length_nil]; omega), bind_some, lput_eq (by simp only [wrl, sgl, gE_len, length_cons, length_nil]; omega) (by simp), bind_some]
     simp only [gIt, if_pos k, wr_app, List.append_assoc]
   · simp only [r117, bf (show x.1 ≠ 1 by omega), bt k, cond_true, cond_false]
     rw [lput_eq (by simp only [length_cons, length_nil]; omega) (by simp), bind_some, lexpr_eq e (by simp only [wrl, sgl, length_cons, length_nil]; omega), bind_some, lput_eq (by simp only [wrl, sgl, gE_len, length_cons, length_nil]; omega) (by simp), bind_some]
     simp only [gIt, if_neg (show ¬ x.1 = 1 by omega), if_pos k, wr_app, List.append_assoc]
 | gh k nm ty e f a =>
   simp only [r117, bf (show x.1 ≠ 1 by omega), bf (show x.1 ≠ 2 by omega), bt k, cond_true, cond_false]
   rw [lput_eq (by simp only [length_cons, length_nil]; omega) (by simp), bind_some, lparam_eq _ (by simp only [wrl, sgl, length_cons, length_nil]; omega), bind_some, lput_eq (by simp only [wrl, sgl, gPm_len, length_cons, length_nil]; omega) (by simp), bind_some, lexpr_eq e (by simp only [wrl, sgl, gPm_len, length_cons, length_nil]; omega), bind_some, lput_eq (by simp only [wrl, sgl, gE_len, gPm_len, length_cons, length_nil]; omega) (by simp), bind_some]
   simp only [gIt, if_neg (show ¬ x.1 = 1 by omega), if_neg (show ¬ x.1 = 2 by omega), if_pos k, wr_app, List.append_assoc]
 | md k nm ty e f a =>
   simp only [r117, bf (show x.1 ≠ 1 by omega), bf (show x.1 ≠ 2 by omega), bf (show x.1 ≠ 3 by omega), bt k, cond_true, cond_false]
   rw [lput_eq (by simp only [length_cons, length_nil]; omega) (by simp), bind_some, lexpr_eq e (by simp only [wrl, sgl, length_cons, length_nil]; omega), bind_some, lput_eq (by simp only [wrl, sgl, gE_len, length_cons, length_nil]; omega) (by simp), bind_some, lexpr_eq f (by simp only [wrl, sgl, gE_len, length_cons, length_nil]; omega), bind_some, lput_eq (by simp only [wrl, sgl, gE_len, length_cons, length_nil]; omega) (by simp), bind_some]
   simp only [gIt, if_neg (show ¬ x.1 = 1 by omega), if_neg (show ¬ x.1 = 2 by omega), if_neg (show ¬ x.1 = 3 by omega), if_pos k, wr_app, List.append_assoc]
 | im k nm ty e f l a =>
   have hg := gEs_len [44] x.2.2.2.2.2
   simp only [r117, bf (show x.1 ≠ 1 by omega), bf (show x.1 ≠ 2 by omega), bf (show x.1 ≠ 3 by omega), bf (show x.1 ≠ 4 by omega), bt k, cond_true, cond_false]
   rw [lput_eq (by simp only [length_cons, length_nil]; omega) (by simp), bind_some, lmanyE_eq _ a (by omega) (by simp only [wrl, sgl, length_cons, length_nil]; omega), bind_some, lput_eq (by simp only [wrl, sgl, length_cons, length_nil]; omega) (by simp), bind_some, lput_eq (by simp only [wrl, sgl, length_cons, length_nil]; omega) (by simp), bind_some]
   simp only [gIt, if_neg (show ¬ x.1 = 1 by omega), if_neg (show ¬ x.1 = 2 by omega), if_neg (show ¬ x.1 = 3 by omega), if_neg (show ¬ x.1 = 4 by omega), wr_app, List.append_assoc])
theorem lun0 (N : Nat) (hN : N ≤ 1000) : ∀ (suf pre : List Itm) (out : List Tok3), N = (pre ++ suf).length → (∀ x ∈ suf, itmB x = true) → out.length + suf.length * 410 ≤ 100000000 →
  k107 T.rb out (pre ++ suf) ((N : Nat) : Int) (pre.length : Nat) = some (out ++ wrG (gIts suf))
 | [], pre, out, h, _, _ => ob107 (by simp only [b107, lt_endN pre h, cond_false]; simp [gIts, wrG])
 | x :: suf, pre, out, h, hx, hl => ob107 (by
   simp only [length_cons] at hl
   have h1 := gIt_len (hx x (by simp))
   have hp : pre.length < 4611686018427387904 := by simp at h; omega
   have ih := lun0 N hN suf (pre ++ [x]) (out ++ wrG (gIt x)) (by simpa using h) (fun y hy => hx y (List.mem_cons_of_mem _ hy)) (by rw [wrl]; omega)
   simp only [List.append_assoc, List.singleton_append] at ih
   simp only [b107, lt_midN pre x suf h, inb_mid, nth_mid, cond_true, bind_some, litem_eq (out := out) (hx x (by simp)) (by omega), next_mid pre x hp, ih]
   rw [show gIts (x :: suf) = gIt x ++ gIts suf from rfl, wr_app])
theorem lun2 (N : Nat) (hN : N ≤ 1000) : ∀ (suf pre : List Eqn) (out : List Tok3), N = (pre ++ suf).length → (∀ x ∈ suf, eqnB x = true) → out.length + suf.length * 4 ≤ 100000000 →
  k109 T.rb out (pre ++ suf) ((N : Nat) : Int) (pre.length : Nat) = some (out ++ wrG (gEqs suf))
 | [], pre, out, h, _, _ => ob109 (by simp only [b109, lt_endN pre h, cond_false]; simp [gEqs, wrG])
 | x :: suf, pre, out, h, hx, hl => ob109 (by
   simp only [length_cons] at hl
   have hp : pre.length < 4611686018427387904 := by simp at h; omega
   have he := (eqF (hx x (by simp))).2
   have ih := lun2 N hN suf (pre ++ [x]) (out ++ wrG (gEq x)) (by simpa using h) (fun y hy => hx y (List.mem_cons_of_mem _ hy)) (by rw [wrl, show (gEq x).length = 4 from rfl]; omega)
   simp only [List.append_assoc, List.singleton_append] at ih
   simp only [b109, lt_midN pre x suf h, inb_mid, nth_mid, cond_true, bind_some, next_mid pre x hp]
   rw [lput_eq (by simp only [length_cons, length_nil]; omega) (by simp), bind_some, lexpr_eq he (by simp only [wrl, sgl, length_cons, length_nil]; omega), bind_some, lput_eq (by simp only [wrl, sgl, gE_len, length_cons, length_nil]; omega) (by simp), bind_some]
   rw [show out ++ wrG (sg [x.1, [61]]) ++ wrG (gE x.2) ++ wrG (sg [[59]]) = out ++ wrG (gEq x) by simp only [gEq, wr_app, List.append_assoc], ih]
   rw [show gEqs (x :: suf) = gEq x ++ gEqs suf from rfl, wr_app])
theorem lun17 {u : Unt} (hu : untB u = true) {out : List Tok3} (h : out.length ≤ 60000000) :
  ∃ z, k108 T.rb u out = some z ∧ (z = .inl (u, out ++ wrG (if u.1 = true then [] else gVars u.2.2.2.2.2.1 ++ (sg [[108, 101, 116]] ++ (gEqs u.2.2.2.2.2.2.1 ++ sg [[116, 101, 108]])))) ∨ z = .inr (u, out ++ wrG (if u.1 = true then [] else gVars u.2.2.2.2.2.1 ++ (sg [[108, 101, 116]] ++ (gEqs u.2.2.2.2.2.2.1 ++ sg [[116, 101, 108]]))))) := by
 have H := unF hu
 cases hk : u.1 with
 | true =>
   exact ⟨.inl (u, out), ob108 (by simp only [b108, hk, cond_true]), .inl (by rw [if_pos rfl]; simp [wrG])⟩
 | false =>
   simp only [if_neg (show ¬ (false = true) by decide)]
   have hg := gPs_len [59] u.2.2.2.2.2.1
   have hq := gEqs_len u.2.2.2.2.2.2.1
   have hv := H.v
   have hqq := H.q
   have loop : ∀ o : List Tok3, o.length ≤ 60001000 → k109 T.rb o u.2.2.2.2.2.2.1 ((u.2.2.2.2.2.2.1.length : Nat) : Int) 0 = some (o ++ wrG (gEqs u.2.2.2.2.2.2.1)) := fun o ho => by
    have := lun2 u.2.2.2.2.2.2.1.length (by omega) u.2.2.2.2.2.2.1 [] o rfl H.qb (by omega)
    simpa using this
   by_cases hvl : u.2.2.2.2.2.1.length > 0
   · refine ⟨.inr (u, out ++ wrG (gVars u.2.2.2.2.2.1 ++ (sg [[108, 101, 116]] ++ (gEqs u.2.2.2.2.2.2.1 ++ sg [[116, 101, 108]])))), ob108 ?_, .inr rfl⟩
     simp only [b108, hk, cond_false, dt (show ((u.2.2.2.2.2.1.length : Nat) : Int) > 0 by omega), cond_true]
     rw [lput_eq (by simp only [length_cons, length_nil]; omega) (by simp), bind_some, lmanyP_eq _ (by omega) (by simp only [wrl, sgl, length_cons, length_nil]; omega), bind_some, lput_eq (by simp only [wrl, sgl, length_cons, length_nil]; omega) (by simp), bind_some, lput_eq (by simp only [wrl, sgl, length_cons, length_nil]; omega) (by simp), bind_some,
      loop _ (by simp only [wrl, sgl, length_cons, length_nil]; omega), bind_some, lput_eq (by simp only [wrl, sgl, length_cons, length_nil]; omega) (by simp), bind_some]
     simp only [gVars, if_pos hvl, wr_app, List.append_assoc]
   · refine ⟨.inr (u, out ++ wrG (gVars u.2.2.2.2.2.1 ++ (sg [[108, 101, 116]] ++ (gEqs u.2.2.2.2.2.2.1 ++ sg [[116, 101, 108]])))), ob108 ?_, .inr rfl⟩
     simp only [b108, hk, cond_false, df (show ¬ ((u.2.2.2.2.2.1.length : Nat) : Int) > 0 by omega)]
     rw [lput_eq (by simp only [length_cons, length_nil]; omega) (by simp), bind_some, loop _ (by simp only [wrl, sgl, length_cons, length_nil]; omega), bind_some, lput_eq (by simp only [wrl, sgl, length_cons, length_nil]; omega) (by simp), bind_some]
     simp only [gVars, if_neg hvl, wr_app, List.append_assoc]
     simp [wrG]
theorem lun10 {u : Unt} (hu : untB u = true) {out : List Tok3} (h : out.length ≤ 50000000) {R : List Tok3}
  (hR : R = out ++ wrG (gIts u.2.2.2.2.2.2.2 ++ ((if u.1 = true ∨ u.2.2.2.2.2.2.2.length > 0 then sg [[101, 110, 100]] else []) ++ (if u.1 = true then [] else gVars u.2.2.2.2.2.1 ++ (sg [[108, 101, 116]] ++ (gEqs u.2.2.2.2.2.2.1 ++ sg [[116, 101, 108]])))))) :
  ∃ z, k106 T.rb u out = some z ∧ (z = .inl (u, R) ∨ z = .inr (u, R)) := by
 have H := unF hu
 have hx := gIts_len _ H.xb
 have hxl := H.x
 have loop : k107 T.rb out u.2.2.2.2.2.2.2 ((u.2.2.2.2.2.2.2.length : Nat) : Int) 0 = some (out ++ wrG (gIts u.2.2.2.2.2.2.2)) := by
  have := lun0 u.2.2.2.2.2.2.2.length (by omega) u.2.2.2.2.2.2.2 [] out rfl H.xb (by omega)
  simpa using this
 have fin : ∀ (o : List Tok3), o.length ≤ 60000000 → o ++ wrG (if u.1 = true then [] else gVars u.2.2.2.2.2.1 ++ (sg [[108, 101, 116]] ++ (gEqs u.2.2.2.2.2.2.1 ++ sg [[116, 101, 108]]))) = R → ∃ z, k108 T.rb u o = some z ∧ (z = .inl (u, R) ∨ z = .inr (u, R)) := fun o ho hr => by
  obtain ⟨z, h1, h2⟩ := lun17 hu ho
  exact ⟨z, h1, by rw [hr] at h2; exact h2⟩
 by_cases hc : u.1 = true ∨ u.2.2.2.2.2.2.2.length > 0
 · rw [if_pos hc] at hR
   obtain ⟨z, h1, h2⟩ := fin (out ++ wrG (gIts u.2.2.2.2.2.2.2) ++ wrG (sg [[101, 110, 100]])) (by simp only [wrl, sgl, length_cons, length_nil]; omega) (by rw [hR]; simp only [wr_app, List.append_assoc])
   refine ⟨z, ob106 ?_, h2⟩
   simp only [b106, loop, bind_some]
   have hp := lput_eq (out := out ++ wrG (gIts u.2.2.2.2.2.2.2)) (l := [[101, 110, 100]]) (by simp only [wrl, sgl, length_cons, length_nil]; omega) (by simp)
   cases hk : u.1 with
   | true =>
     rw [cond_true, hp, bind_some, h1, bind_some]
     rcases h2 with rfl | rfl <;> rfl
   | false =>
     rw [hk] at hc
     have hl : u.2.2.2.2.2.2.2.length > 0 := hc.resolve_left (by decide)
     rw [cond_false, dt (show ((u.2.2.2.2.2.2.2.length : Nat) : Int) > 0 by omega), cond_true, hp, bind_some, h1, bind_some]
     rcases h2 with rfl | rfl <;> rfl
 · rw [if_neg hc] at hR
   have hk : u.1 = false := by
    cases hk : u.1 with
    | true => exact absurd (.inl hk) hc
    | false => rfl
   have hl : ¬ u.2.2.2.2.2.2.2.length > 0 := fun h => hc (.inr h)
   obtain ⟨z, h1, h2⟩ := fin (out ++ wrG (gIts u.2.2.2.2.2.2.2)) (by simp only [wrl]; omega) (by rw [hR]; simp only [wr_app, List.append_assoc, List.nil_append])
   refine ⟨z, ob106 ?_, h2⟩
   simp only [b106, loop, bind_some, hk, cond_false, df (show ¬ ((u.2.2.2.2.2.2.2.length : Nat) : Int) > 0 by omega)]
   rw [h1, bind_some]
   rcases h2 with rfl | rfl <;> rfl
theorem lunit_eq {u : Unt} (hu : untB u = true) {out : List Tok3} (h : out.length ≤ 40000000) : c112 T.rf out u = some (out ++ wrG (gUn u)) := or112 (by
 have H := unF hu
 have hi := H.i
 have hI := gIn_len u.2.2.1
 have hO := gIn_len [(u.2.2.2.1, u.2.2.2.2.1)]
 simp only [length_cons, length_nil] at hO
 simp only [r112]
 cases hk : u.1 with
 | true =>
   rw [cond_true, lput_eq (by simp only [length_cons, length_nil]; omega) (by simp), bind_some, linputs_eq (by omega) (by simp only [wrl, sgl, length_cons, length_nil]; omega), bind_some]
   obtain ⟨z, h1, h2⟩ := lun10 hu (out := out ++ wrG (sg [[99, 111, 110, 116, 114, 97, 99, 116], u.2.1]) ++ wrG (gIn u.2.2.1)) (by simp only [wrl, sgl, length_cons, length_nil]; omega) rfl
   rw [h1, bind_some]
   have e : out ++ wrG (sg [[99, 111, 110, 116, 114, 97, 99, 116], u.2.1]) ++ wrG (gIn u.2.2.1) ++ wrG (gIts u.2.2.2.2.2.2.2 ++ ((if u.1 = true ∨ u.2.2.2.2.2.2.2.length > 0 then sg [[101, 110, 100]] else []) ++ (if u.1 = true then [] else gVars u.2.2.2.2.2.1 ++ (sg [[108, 101, 116]] ++ (gEqs u.2.2.2.2.2.2.1 ++ sg [[116, 101, 108]]))))) = out ++ wrG (gUn u) := by
    rw [if_pos (.inl hk), if_pos hk, List.append_nil, gUn, if_pos hk]
    simp only [wr_app, List.append_assoc]
   rw [e] at h2
   rcases h2 with rfl | rfl <;> rfl
 | false =>
   rw [cond_false, lput_eq (by simp only [length_cons, length_nil]; omega) (by simp), bind_some, linputs_eq (by omega) (by simp only [wrl, sgl, length_cons, length_nil]; omega), bind_some, lput_eq (by simp only [wrl, sgl, length_cons, length_nil]; omega) (by simp), bind_some,
    linputs_eq (by simp) (by simp only [wrl, sgl, length_cons, length_nil]; omega), bind_some]
   have hnt : ¬ (u.1 = true) := by rw [hk]; decide
   by_cases hl : u.2.2.2.2.2.2.2.length > 0
   · rw [dt (show ((u.2.2.2.2.2.2.2.length : Nat) : Int) > 0 by omega), cond_true, lput_eq (by simp only [wrl, sgl, length_cons, length_nil]; omega) (by simp), bind_some]
     obtain ⟨z, h1, h2⟩ := lun10 hu (out := out ++ wrG (sg [[110, 111, 100, 101], u.2.1]) ++ wrG (gIn u.2.2.1) ++ wrG (sg [[114, 101, 116, 117, 114, 110, 115]]) ++ wrG (gIn [(u.2.2.2.1, u.2.2.2.2.1)]) ++ wrG (sg [[99, 111, 110, 116, 114, 97, 99, 116]])) (by simp only [wrl, sgl, length_cons, length_nil]; omega) rfl
     rw [h1, bind_some]
     rw [if_pos (.inr hl), if_neg hnt] at h2
     have e : out ++ wrG (sg [[110, 111, 100, 101], u.2.1]) ++ wrG (gIn u.2.2.1) ++ wrG (sg [[114, 101, 116, 117, 114, 110, 115]]) ++ wrG (gIn [(u.2.2.2.1, u.2.2.2.2.1)]) ++ wrG (sg [[99, 111, 110, 116, 114, 97, 99, 116]]) ++ wrG (gIts u.2.2.2.2.2.2.2 ++ (sg [[101, 110, 100]] ++ (gVars u.2.2.2.2.2.1 ++ (sg [[108, 101, 116]] ++ (gEqs u.2.2.2.2.2.2.1 ++ sg [[116, 101, 108]]))))) = out ++ wrG (gUn u) := by
      rw [gUn, if_neg hnt, if_pos hl]
      simp only [wr_app, List.append_assoc]
     rw [e] at h2
     rcases h2 with rfl | rfl <;> rfl
   · rw [df (show ¬ ((u.2.2.2.2.2.2.2.length : Nat) : Int) > 0 by omega), cond_false]
     obtain ⟨z, h1, h2⟩ := lun10 hu (out := out ++ wrG (sg [[110, 111, 100, 101], u.2.1]) ++ wrG (gIn u.2.2.1) ++ wrG (sg [[114, 101, 116, 117, 114, 110, 115]]) ++ wrG (gIn [(u.2.2.2.1, u.2.2.2.2.1)])) (by simp only [wrl, sgl, length_cons, length_nil]; omega) rfl
     rw [h1, bind_some]
     rw [if_neg (fun h => h.elim hnt hl), if_neg hnt] at h2
     have hx0 : u.2.2.2.2.2.2.2 = [] := List.length_eq_zero_iff.1 (by omega)
     have e : out ++ wrG (sg [[110, 111, 100, 101], u.2.1]) ++ wrG (gIn u.2.2.1) ++ wrG (sg [[114, 101, 116, 117, 114, 110, 115]]) ++ wrG (gIn [(u.2.2.2.1, u.2.2.2.2.1)]) ++ wrG (gIts u.2.2.2.2.2.2.2 ++ ([] ++ (gVars u.2.2.2.2.2.1 ++ (sg [[108, 101, 116]] ++ (gEqs u.2.2.2.2.2.2.1 ++ sg [[116, 101, 108]]))))) = out ++ wrG (gUn u) := by
      rw [gUn, if_neg hnt, if_neg hl, hx0]
      simp only [wr_app, List.append_assoc]
      simp [gIts, wrG]
     rw [e] at h2
     rcases h2 with rfl | rfl <;> rfl)
theorem lwrite0 (N : Nat) (hN : N ≤ 1000) : ∀ (suf pre : List Unt) (out : List Tok3), N = (pre ++ suf).length → (∀ x ∈ suf, untB x = true) → out.length + suf.length * 90000 ≤ 40000000 →
  k110 T.rb out (pre ++ suf) ((N : Nat) : Int) (pre.length : Nat) = some (out ++ wrG (gUns suf))
 | [], pre, out, h, _, _ => ob110 (by simp only [b110, lt_endN pre h, cond_false]; simp [gUns, wrG])
 | x :: suf, pre, out, h, hx, hl => ob110 (by
   simp only [length_cons] at hl
   have h1 := gUn_len (hx x (by simp))
   have hp : pre.length < 4611686018427387904 := by simp at h; omega
   have e : gUns (x :: suf) = gUn x ++ gUns suf := rfl
   have ih := lwrite0 N hN suf (pre ++ [x]) (out ++ wrG (gUn x)) (by simpa using h) (fun y hy => hx y (List.mem_cons_of_mem _ hy)) (by rw [wrl]; omega)
   simp only [List.append_assoc, List.singleton_append] at ih
   simp only [b110, lt_midN pre x suf h, inb_mid, nth_mid, cond_true, bind_some, lunit_eq (out := out) (hx x (by simp)) (by omega), next_mid pre x hp, ih]
   rw [e, wr_app])
theorem gUns_len : ∀ l : List Unt, (∀ u ∈ l, untB u = true) → (gUns l).length ≤ l.length * 90000
 | [], _ => by simp [gUns]
 | x :: l, h => by
   have h1 := gUn_len (h x (by simp))
   have h2 := gUns_len l fun y hy => h y (List.mem_cons_of_mem _ hy)
   have e : gUns (x :: l) = gUn x ++ gUns l := rfl
   rw [e, length_append, length_cons]; omega
theorem Write_list {n m : Nat} {p : Prg} (h : SzP n m p) (hn : n ≤ 1000000) (hm : m ≤ 1000000) (hj : prgB p = true → (J (wPg p)).length ≤ 200000000000) : c66 T.rf p = some (if prgB p = true then txt (wPg p) else []) := or66 (by
 simp only [r66, May_list h hn hm, bind_some]
 cases hp : prgB p with
 | false => rfl
 | true =>
   have H := pgF hp
   have hnl := H.n
   have hgl := gUns_len _ H.u
   have loop : k110 T.rb [] p.1 ((p.1.length : Nat) : Int) 0 = some (wrG (gUns p.1)) := by
    have := lwrite0 p.1.length (by omega) p.1 [] [] rfl H.u (by simp only [length_nil]; omega)
    simpa using this
   have full : Full (gPg p) := (full_flat _ fun u hu => gUn_full (H.u u hu)).app (Full.sg _)
   have join : ∀ l, l = wrG (gPg p) → c130 T.rf l = some (txt (wPg p)) := fun l hl => or130 (by
    have hlen : (txt (wPg p)).length ≤ 274877906944 := by
     have := hj hp
     unfold txt; rw [List.length_drop]; omega
    subst hl
    simp only [r130, joinX_wr full, gPg_flat, ble_most hlen, cond_true])
   rw [Bool.not_true, cond_false, loop, bind_some, lput_eq (by rw [wr_len]; simp only [length_cons, length_nil]; omega) (by simp), bind_some, if_pos rfl]
   by_cases hb : p.2.2 = []
   · rw [beq_iff_eq.2 hb, Bool.not_true, cond_false, join _ (by rw [gPg, wr_app, wEnd, if_pos hb]), bind_some]
   · rw [beq_eq_false_iff_ne.2 hb, Bool.not_false, cond_true, lput_eq (by rw [wrl, wr_len]; simp only [sgl, length_cons, length_nil]; omega) (by simp), bind_some, join _ (by
      rw [gPg, wr_app, wEnd, if_neg hb, List.append_assoc, ← wr_app]; rfl), bind_some])
end Go.Proofs.YtlobhcgbmpcdlaaGreatDoor.R
