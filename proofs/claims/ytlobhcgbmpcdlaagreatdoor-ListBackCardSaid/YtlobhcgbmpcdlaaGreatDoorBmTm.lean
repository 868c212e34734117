import Derived.Test.YtlobhcgbmpcdlaaGreatDoorBmX1
open Bool (and_eq_true)
namespace Go.Bm
set_option linter.unusedVariables false
set_option linter.unusedSimpArgs false
section
variable {w w' : World} {Φ Φ' : Nat → Prop} {β γ : Loc} {hp hp' : List (Nat × SObj)} {ρ : Rho}
theorem toD_from : ∀ {ts : List CT} {ds : List Dyn} {d : (prods ts).denote}, toD ts ds = some d → fromD ts d = ds
 | [], [], d, h => rfl
 | [], _ :: _, d, h => by simp [toD] at h
 | [a], [], d, h => by simp [toD] at h
 | [a], [x], d, h => by
   obtain ⟨t, x⟩ := x
   simp only [toD] at h
   split at h
   · rename_i e; subst e; cases h; rfl
   · cases h
 | [a], _ :: _ :: _, d, h => by simp [toD] at h
 | a :: b :: r, [], d, h => by simp [toD] at h
 | a :: b :: r, x :: ds, d, h => by
   obtain ⟨t, x⟩ := x
   simp only [toD] at h
   split at h
   case isFalse => cases h
   rename_i e
   subst e
   split at h
   case h_2 => cases h
   rename_i y hy
   cases h
   show _ :: fromD (b :: r) y = _
   rw [toD_from hy]
theorem ext1_VC (hob : ∀ id e l, look hp id = some (.frz e l) → ObR w Φ β hp id (.frz e l)) {t : CT} {l : Leaf} {v : Value} {x : t.denote} (hv : LfR w Φ β hp l v) (h : ext1 hp t l = some x) : VC w Φ t x [v] := by
 unfold ext1 at h
 split at h
 · rename_i k k' y
   split at h
   · rename_i hk; cases h; subst hk; rw [show v = _ from hv]; rfl
   · cases h
 · cases h; rw [show v = _ from hv]; rfl
 · cases h; obtain ⟨sx, e1, e2⟩ := hv; exact ⟨sx, by rw [e1], e2⟩
 · rename_i e e' l'
   split at h
   · rename_i he; subst he; cases h; exact hv
   · cases h
 · rename_i e e' l'
   split at h
   · rename_i he; subst he; cases h; exact hv.1
   · cases h
 · cases h; exact ⟨none, 0, by rw [show v = _ from hv]; rfl, Nat.le_refl _, .inl rfl⟩
 · rename_i e id rr
   obtain ⟨loc, hloc, _, hs⟩ := hv
   split at h
   · rename_i e' l' hl
     split at h
     case isFalse => cases h
     rename_i he; subst he; cases h
     refine row_VC (hs _ _ (by rw [hl]; rfl)) fun b o hb => ?_
     rcases hob id _ _ hl with ⟨h1, _⟩ | ⟨b', o', h1, h2, h4⟩
     · rw [hloc, hb] at h1; cases h1
     · rw [hloc, hb] at h1; cases h1; exact ⟨h2, h4⟩
   · cases h
 · cases h
theorem extP_VC (hob : ∀ id e l, look hp id = some (.frz e l) → ObR w Φ β hp id (.frz e l)) : ∀ {t : CT} {ls : List Leaf} {vs : List Value} {x : t.denote}, LfRs w Φ β hp ls vs → extP hp t ls = some x → VC w Φ t x vs
 | .prod p q, [], vs, x, hv, h => by simp [extP] at h
 | .prod p q, l :: ls, vs, x, ⟨v, vs', e, h1, h2⟩, h => by
   subst e
   simp only [extP] at h
   split at h
   case h_2 => cases h
   rename_i y hy
   split at h
   case h_2 => cases h
   rename_i z hz
   cases h
   exact ⟨v, vs', rfl, ext1_VC hob h1 hy, extP_VC hob h2 hz⟩
 | .unit, ls, vs, x, hv, h => by
   cases ls with
   | nil => exact hv
   | cons l ls => simp [extP] at h
 | .int k, ls, vs, x, hv, h => by
   match ls, hv with
   | [], _ => simp [extP] at h
   | [l], ⟨v, vs', e, h1, h2⟩ => cases h2; subst e; exact ext1_VC hob h1 h
   | _ :: _ :: _, _ => simp [extP] at h
 | .bool, ls, vs, x, hv, h => by
   match ls, hv with
   | [], _ => simp [extP] at h
   | [l], ⟨v, vs', e, h1, h2⟩ => cases h2; subst e; exact ext1_VC hob h1 h
   | _ :: _ :: _, _ => simp [extP] at h
 | .str, ls, vs, x, hv, h => by
   match ls, hv with
   | [], _ => simp [extP] at h
   | [l], ⟨v, vs', e, h1, h2⟩ => cases h2; subst e; exact ext1_VC hob h1 h
   | _ :: _ :: _, _ => simp [extP] at h
 | .list e, ls, vs, x, hv, h => by
   match ls, hv with
   | [], _ => simp [extP] at h
   | [l], ⟨v, vs', e, h1, h2⟩ => cases h2; subst e; exact ext1_VC hob h1 h
   | _ :: _ :: _, _ => simp [extP] at h
 | .sum _ _, ls, vs, x, hv, h => by simp [extP] at h
theorem extP_len : ∀ {t : CT} {ls : List Leaf} {x : t.denote}, extP hp t ls = some x → ls.length = t.size ∧ (unpackL t x).length = t.size
 | .prod p q, [], x, h => by simp [extP] at h
 | .prod p q, l :: ls, x, h => by
   simp only [extP] at h
   split at h
   case h_2 => cases h
   split at h
   case h_2 => cases h
   rename_i z hz
   cases h
   obtain ⟨h1, h2⟩ := extP_len hz
   simp [unpackL, CT.size, h1, h2]; omega
 | .unit, ls, x, h => by
   cases ls with
   | nil => simp [unpackL, CT.size]
   | cons l ls => simp [extP] at h
 | .int k, ls, x, h => by
   match ls with
   | [] => simp [extP] at h
   | [l] => simp [unpackL, CT.size]
   | _ :: _ :: _ => simp [extP] at h
 | .bool, ls, x, h => by
   match ls with
   | [] => simp [extP] at h
   | [l] => simp [unpackL, CT.size]
   | _ :: _ :: _ => simp [extP] at h
 | .str, ls, x, h => by
   match ls with
   | [] => simp [extP] at h
   | [l] => simp [unpackL, CT.size]
   | _ :: _ :: _ => simp [extP] at h
 | .list e, ls, x, h => by
   match ls with
   | [] => simp [extP] at h
   | [l] => simp [unpackL, CT.size]
   | _ :: _ :: _ => simp [extP] at h
 | .sum _ _, ls, x, h => by simp [extP] at h
theorem eqId_spec {k id : Nat} (h : eqId ρ k id = true) : ρ.at k = some id := by
 unfold eqId at h
 split at h
 · rename_i j hj; rw [hj, Nat.eq_of_beq_eq_true h]
 · cases h
structure Corr (ρ : Rho) (β γ : Loc) (hp hp' : List (Nat × SObj)) : Prop where
 loc : ∀ k id, ρ.at k = some id → γ k = β id
 row : ∀ k id, ρ.at k = some id → ∀ r, rowOf (look hp' k) = some r → rowOf (look hp id) = some r
theorem eqIds_IdsR (c : Corr ρ β γ hp hp') : ∀ {xs ys : List (Option Nat)} {vs : List Value}, eqIds ρ xs ys = true → IdsR β ys vs → IdsR γ xs vs
 | [], [], _, _, h => h
 | [], _ :: _, _, h, _ => by simp [eqIds] at h
 | none :: _, [], _, h, _ => by simp [eqIds] at h
 | some _ :: _, [], _, h, _ => by simp [eqIds] at h
 | none :: r, none :: s, vs, h, ⟨v, vs', e, h1, h2⟩ => ⟨v, vs', e, h1, eqIds_IdsR c (by simpa [eqIds] using h) h2⟩
 | some k :: r, some id :: s, vs, h, ⟨v, vs', e, ⟨b, h1, h3⟩, h2⟩ => by
   simp only [eqIds, and_eq_true] at h
   exact ⟨v, vs', e, ⟨b, by rw [c.loc k id (eqId_spec h.1)]; exact h1, h3⟩, eqIds_IdsR c h.2 h2⟩
 | none :: _, some _ :: _, _, h, _ => by simp [eqIds] at h
 | some _ :: _, none :: _, _, h, _ => by simp [eqIds] at h
theorem extL_sound (c : Corr ρ β γ hp hp') {lt : LT} {l : Leaf} {u : Value} {ds : List Dyn} (hv : LfR w Φ β hp l u) (h : extL ρ lt l = some ds) (rest : List Dyn) :
  ∃ l', instL lt (ds ++ rest) = ([l'], rest) ∧ LfR w Φ γ hp' l' u := by
 unfold extL at h
 split at h
 · rename_i k off id off'
   obtain ⟨hb, h⟩ := cond_none h
   cases h
   simp only [and_eq_true] at hb
   have e2 := Nat.eq_of_beq_eq_true hb.2
   subst e2
   obtain ⟨b, h1, h2⟩ := hv
   exact ⟨_, rfl, b, by rw [c.loc k id (eqId_spec hb.1)]; exact h1, h2⟩
 · rename_i k off id i off'
   obtain ⟨hb, h⟩ := cond_none h
   cases h
   simp only [and_eq_true] at hb
   have e2 := Nat.eq_of_beq_eq_true hb.2
   subst e2
   obtain ⟨loc, h1, h2, h3⟩ := hv
   refine ⟨.eptr k (i : Int).toNat off, rfl, loc, by rw [c.loc k id (eqId_spec hb.1)]; exact h1, h2, fun sz n hr => ?_⟩
   rw [Int.toNat_natCast]
   exact h3 sz n (c.row k id (eqId_spec hb.1) _ hr)
 · rename_i k id
   obtain ⟨hb, h⟩ := cond_none h
   cases h
   obtain ⟨loc, h1, h2, h3⟩ := hv
   exact ⟨_, rfl, loc, by rw [c.loc k id (eqId_spec hb)]; exact h1, h2, fun sz n hr => h3 sz n (c.row k id (eqId_spec hb) _ hr)⟩
 · rename_i k off n id r
   obtain ⟨hb, h⟩ := cond_none h
   cases h
   simp only [and_eq_true] at hb
   have e1 := Nat.eq_of_beq_eq_true hb.2.1
   have e2 := Nat.eq_of_beq_eq_true hb.2.2
   obtain ⟨r1, r2⟩ := r
   subst e1; subst e2
   obtain ⟨loc, h1, h2, h3⟩ := hv
   exact ⟨_, rfl, loc, by rw [c.loc k id (eqId_spec hb.1)]; exact h1, h2, fun sz n hr => h3 sz n (c.row k id (eqId_spec hb.1) _ hr)⟩
 · cases h; exact ⟨_, rfl, hv⟩
 · rename_i f a b f' a' b'
   obtain ⟨hb, h⟩ := cond_none h
   cases h
   simp only [and_eq_true] at hb
   have e2 := Nat.eq_of_beq_eq_true hb.1
   subst e2
   obtain ⟨us, vs, h1, h2, h3⟩ := hv
   exact ⟨_, rfl, us, vs, h1, eqIds_IdsR c hb.2.1 h2, eqIds_IdsR c hb.2.2 h3⟩
 · rename_i t k off t' id off'
   obtain ⟨hb, h⟩ := cond_none h
   cases h
   simp only [and_eq_true] at hb
   have e1 := Nat.eq_of_beq_eq_true hb.1
   have e2 := Nat.eq_of_beq_eq_true hb.2.2
   subst e1; subst e2
   obtain ⟨b, h1, h2⟩ := hv
   exact ⟨_, rfl, b, by rw [c.loc k id (eqId_spec hb.2.1)]; exact h1, h2⟩
 · rename_i t j t' j' x
   split at h
   case isFalse => cases h
   obtain ⟨hb, h⟩ := cond_none h
   cases h
   have e1 := Nat.eq_of_beq_eq_true hb
   subst e1
   exact ⟨_, rfl, hv⟩
 · rename_i e e' l
   split at h
   case isFalse => cases h
   cases h
   exact ⟨_, rfl, hv⟩
 · rename_i k id
   obtain ⟨hb, h⟩ := cond_none h
   cases h
   obtain ⟨b, h1, h2⟩ := hv
   exact ⟨_, rfl, b, by rw [c.loc k id (eqId_spec hb)]; exact h1, h2⟩
 · cases h; exact ⟨_, rfl, hv⟩
 · cases h; exact ⟨_, rfl, hv⟩
 · cases h; exact ⟨_, rfl, hv⟩
 · cases h; exact ⟨_, rfl, hv⟩
 · cases h; exact ⟨_, rfl, trivial⟩
 · cases h
theorem extL_one {lt : LT} {l : Leaf} {ds : List Dyn} (h : extL ρ lt l = some ds) (rest : List Dyn) : ∃ l', instL lt (ds ++ rest) = ([l'], rest) := by
 unfold extL at h
 split at h
 all_goals first
  | (cases h; done)
  | (cases h; exact ⟨_, rfl⟩)
  | (split at h
     · obtain ⟨hb, h⟩ := cond_none h; cases h; exact ⟨_, rfl⟩
     · cases h)
  | (split at h
     · cases h; exact ⟨_, rfl⟩
     · cases h)
  | (obtain ⟨hb, h⟩ := cond_none h; cases h; exact ⟨_, rfl⟩)
theorem extL_fst {lt : LT} {l : Leaf} {ds : List Dyn} (h : extL ρ lt l = some ds) (rest : List Dyn) : (instL lt (ds ++ rest)).1 = (instL lt ds).1 := by
 unfold extL at h
 split at h
 all_goals first
  | (cases h; done)
  | (cases h; rfl)
  | (split at h
     · obtain ⟨hb, h⟩ := cond_none h; cases h; rfl
     · cases h)
  | (split at h
     · cases h; rfl
     · cases h)
  | (obtain ⟨hb, h⟩ := cond_none h; cases h; rfl)
theorem LfRs_app : ∀ {l m : List Leaf} {u v : List Value}, LfRs w Φ β hp l u → LfRs w Φ β hp m v → LfRs w Φ β hp (l ++ m) (u ++ v)
 | [], m, u, v, h, k => by cases h; exact k
 | x :: l, m, u, v, ⟨a, us, e, h1, h2⟩, k => by subst e; exact ⟨a, us ++ v, rfl, h1, LfRs_app h2 k⟩
theorem plain_eq {l : LT} {t : CT} (h : l.plain = some t) : l = .pl t := by
 cases l <;> simp [LT.plain] at h
 subst h; rfl
theorem extLs_form : ∀ {lts : List LT} {ls : List Leaf} {ds : List Dyn}, extLs ρ hp lts ls = some ds → ∀ rest, (instLs lts (ds ++ rest)).2 = rest ∧ (instLs lts (ds ++ rest)).1 = (instLs lts ds).1 ∧ (instLs lts ds).1.length = ls.length
 | [], [], ds, h, rest => by simp [extLs] at h; subst h; simp [instLs]
 | [], _ :: _, ds, h, rest => by simp [extLs] at h
 | lt :: r, ls, ds, h, rest => by
   simp only [extLs] at h
   split at h
   · rename_i t ht
     have := plain_eq ht
     subst this
     split at h
     case h_2 => cases h
     rename_i x ds' hx hds
     cases h
     obtain ⟨h1, h2, h3⟩ := extLs_form hds rest
     obtain ⟨h4, h5⟩ := extP_len hx
     refine ⟨by simp [instLs, instL, h1], by simp [instLs, instL, h2], ?_⟩
     simp only [instLs, instL, List.length_append, h3, h5, List.length_drop]
     simp only [List.length_take] at h4
     omega
   · split at h
     · cases h
     · rename_i v vs
       split at h
       case h_2 => cases h
       rename_i d ds' hd hds
       cases h
       obtain ⟨l', e1⟩ := extL_one hd (ds' ++ rest)
       obtain ⟨l2, e2⟩ := extL_one hd ds'
       obtain ⟨h1, h2, h3⟩ := extLs_form hds rest
       have e3 : l' = l2 := by
        have a1 := extL_fst hd (ds' ++ rest)
        have a2 := extL_fst hd ds'
        rw [e1] at a1; rw [e2] at a2
        simpa using a1.trans a2.symm
       subst e3
       simp only [instLs, List.append_assoc, e1, e2, h1, h2, List.length_append, List.length_cons, List.length_nil, h3]
       refine ⟨trivial, trivial, by omega⟩
theorem extLs_sound (hob : ∀ id e l, look hp id = some (.frz e l) → ObR w Φ β hp id (.frz e l)) (c : Corr ρ β γ hp hp') : ∀ {lts : List LT} {ls : List Leaf} {us : List Value} {ds : List Dyn}, LfRs w Φ β hp ls us → extLs ρ hp lts ls = some ds →
  LfRs w Φ γ hp' (instLs lts ds).1 us
 | [], [], us, ds, hv, h => by simp [extLs] at h; subst h; exact hv
 | [], _ :: _, us, ds, hv, h => by simp [extLs] at h
 | lt :: r, ls, us, ds, hv, h => by
   simp only [extLs] at h
   split at h
   · rename_i t ht
     have := plain_eq ht
     subst this
     split at h
     case h_2 => cases h
     rename_i x ds' hx hds
     cases h
     have h1 := extP_VC hob (LfRs_take t.size hv) hx
     have h2 := extLs_sound hob c (LfRs_drop t.size hv) hds
     have := LfRs_app (unpackL_LfRs (β := γ) (hp := hp') t x _ h1) h2
     simpa [instLs, instL] using this
   · split at h
     · cases h
     · rename_i v vs
       split at h
       case h_2 => cases h
       rename_i d ds' hd hds
       cases h
       obtain ⟨u, us', e, g1, g2⟩ := hv
       subst e
       obtain ⟨l', e1, e2⟩ := extL_sound c g1 hd ds'
       simp only [instLs, e1, List.cons_append, List.nil_append]
       exact ⟨u, us', rfl, e2, extLs_sound hob c g2 hds⟩
def CorO (ρ : Rho) (hp : List (Nat × SObj)) (ob o' : SObj) : Prop :=
 (∃ cs lts d, ob = .box cs ∧ extLs ρ hp lts cs = some d ∧ o' = .box (instLs lts d).1) ∨ (∃ cs lts d, ob = .cells cs ∧ extLs ρ hp lts cs = some d ∧ o' = .cells (instLs lts d).1) ∨
   (∃ e l, ob = .arr e l ∧ o' = .arr e l) ∨ (∃ k v a l, ob = .map k v a l ∧ o' = .map k v a l) ∨ (ob.isRows = true ∧ o' = ob) ∨
   ∃ e pre cs post lts d, ob = .zip e pre cs post ∧ extLs ρ hp lts cs = some d ∧ o' = .zip e pre (instLs lts d).1 post
theorem CorO.row {ob o' : SObj} (h : CorO ρ hp ob o') : rowOf (some o') = rowOf (some ob) := by
 rcases h with ⟨cs, lts, d, rfl, h2, rfl⟩ | ⟨cs, lts, d, rfl, h2, rfl⟩ | ⟨e, l, rfl, rfl⟩ | ⟨k, v, a, l, rfl, rfl⟩ | ⟨_, rfl⟩ | ⟨e, pre, cs, post, lts, d, rfl, _, rfl⟩
 · rfl
 · simp [rowOf, (extLs_form h2 []).2.2]
 · rfl
 · rfl
 · rfl
 · rfl
theorem CorO.owned {ob o' : SObj} (h : CorO ρ hp ob o') : o'.owned = true ∧ ob.owned = true := by
 rcases h with ⟨cs, lts, d, rfl, h2, rfl⟩ | ⟨cs, lts, d, rfl, h2, rfl⟩ | ⟨e, l, rfl, rfl⟩ | ⟨k, v, a, l, rfl, rfl⟩ | ⟨h1, rfl⟩ | ⟨e, pre, cs, post, lts, d, rfl, _, rfl⟩
 · exact ⟨rfl, rfl⟩
 · exact ⟨rfl, rfl⟩
 · exact ⟨rfl, rfl⟩
 · exact ⟨rfl, rfl⟩
 · cases o' <;> first | exact ⟨rfl, rfl⟩ | cases h1
 · exact ⟨rfl, rfl⟩
theorem CorO.rows {ob o' : SObj} (h : CorO ρ hp ob o') (hr : o'.isRows = true) : o' = ob := by
 rcases h with ⟨cs, lts, d, rfl, h2, rfl⟩ | ⟨cs, lts, d, rfl, h2, rfl⟩ | ⟨e, l, rfl, rfl⟩ | ⟨k, v, a, l, rfl, rfl⟩ | ⟨h1, rfl⟩ | ⟨e, pre, cs, post, lts, d, rfl, _, rfl⟩ <;> first | rfl | cases hr
theorem extOb_form {k : Nat} {o : ObT} {ds : List Dyn} (h : extOb ρ hp k o = some ds) (rest : List Dyn) : (instOb o (ds ++ rest)).2 = rest ∧ (instOb o (ds ++ rest)).1 = (instOb o ds).1 ∧
  (o = .gone ∧ (instOb o ds).1 = .dead ∨ ∃ id ob, ρ.at k = some id ∧ look hp id = some ob ∧ CorO ρ hp ob (instOb o ds).1) := by
 unfold extOb at h
 split at h
 · cases h; exact ⟨rfl, rfl, .inl ⟨rfl, rfl⟩⟩
 · split at h
   case h_2 => cases h
   rename_i id hid
   split at h
   · rename_i ls cs hl hne
     obtain ⟨h1, h2, h3⟩ := extLs_form h rest
     exact ⟨h1, by simp only [instOb, h2], .inr ⟨id, _, hid, hl, .inl ⟨cs, ls, ds, rfl, h, rfl⟩⟩⟩
   · rename_i ls cs hl hne
     obtain ⟨h1, h2, h3⟩ := extLs_form h rest
     exact ⟨h1, by simp only [instOb, h2], .inr ⟨id, _, hid, hl, .inr (.inl ⟨cs, ls, ds, rfl, h, rfl⟩)⟩⟩
   · rename_i e e' l hl hne
     split at h
     case isFalse => cases h
     cases h
     exact ⟨rfl, rfl, .inr ⟨id, _, hid, hl, .inr (.inr (.inl ⟨e', l, rfl, rfl⟩))⟩⟩
   · rename_i k v a k' v' a' l hl hne
     split at h
     case isFalse => cases h
     rename_i hc
     cases h
     obtain ⟨rfl, rfl, rfl⟩ := hc
     exact ⟨rfl, rfl, .inr ⟨id, _, hid, hl, .inr (.inr (.inr (.inl ⟨_, _, _, l, rfl, rfl⟩)))⟩⟩
   · rename_i e e' l hl hne
     split at h
     case isFalse => cases h
     rename_i hc
     subst hc
     cases h
     exact ⟨rfl, rfl, .inr ⟨id, _, hid, hl, .inr (.inr (.inr (.inr (.inl ⟨rfl, rfl⟩))))⟩⟩
   · rename_i k e k' e' l hl hne
     split at h
     case isFalse => cases h
     rename_i hc
     obtain ⟨rfl, rfl⟩ := hc
     cases h
     exact ⟨rfl, rfl, .inr ⟨id, _, hid, hl, .inr (.inr (.inr (.inr (.inl ⟨rfl, rfl⟩))))⟩⟩
   · rename_i e ls e' pre cs post hl hne
     split at h
     case isFalse => cases h
     split at h
     case h_2 => cases h
     rename_i d hd
     cases h
     have up : ∀ rest, instOb (.zip e ls) ((⟨.list e', pre⟩ :: (d ++ [⟨.list e', post⟩])) ++ rest) = (.zip e' pre (instLs ls d).1 post, rest) := by
      intro rest
      obtain ⟨h1, h2, h3⟩ := extLs_form hd (⟨.list e', post⟩ :: rest)
      have hp : instLs ls (d ++ (⟨.list e', post⟩ :: rest)) = ((instLs ls d).1, ⟨.list e', post⟩ :: rest) := Prod.ext h2 h1
      show zipUp e' pre (instLs ls ((d ++ [⟨.list e', post⟩]) ++ rest)) = _
      rw [List.append_assoc]
      show zipUp e' pre (instLs ls (d ++ (⟨.list e', post⟩ :: rest))) = _
      rw [hp]
      simp only [zipUp, dif_pos]
     have up0 := up []
     rw [List.append_nil] at up0
     exact ⟨by rw [up], by rw [up, up0], .inr ⟨id, _, hid, hl, .inr (.inr (.inr (.inr (.inr ⟨e', pre, cs, post, ls, d, rfl, hd, by rw [up0]⟩))))⟩⟩
   · cases h
theorem extObs_form : ∀ {objs : List (Bool × ObT)} {k : Nat} {ds : List Dyn}, extObs ρ hp k objs = some ds → ∀ rest, (instObs k objs (ds ++ rest)).2 = rest ∧ (instObs k objs (ds ++ rest)).1 = (instObs k objs ds).1 ∧
  ∀ j o', look (instObs k objs ds).1 j = some o' → k ≤ j ∧ j < k + objs.length ∧ ∃ bo, objs[j - k]? = some bo ∧ (bo.2 = .gone ∧ o' = .dead ∨ ∃ id ob, ρ.at j = some id ∧ look hp id = some ob ∧ CorO ρ hp ob o')
 | [], k, ds, h, rest => by simp [extObs] at h; subst h; simp [instObs, look]
 | o :: r, k, ds, h, rest => by
   simp only [extObs] at h
   split at h
   case h_2 => cases h
   rename_i d ds' hd hds
   cases h
   obtain ⟨h1, h2, h3⟩ := extOb_form hd (ds' ++ rest)
   obtain ⟨g1, g2, g3⟩ := extOb_form hd ds'
   obtain ⟨k1, k2, k3⟩ := extObs_form hds rest
   refine ⟨by simp [instObs, h1, k1], by simp [instObs, h1, h2, g1, g2, k2], fun j o' hj => ?_⟩
   simp only [instObs, g1, g2, look_cons] at hj
   split at hj
   · rename_i e
     subst e
     cases hj
     exact ⟨Nat.le_refl _, by simp, o, by simp, h3⟩
   · obtain ⟨a1, a2, bo, a3, a4⟩ := k3 j o' hj
     refine ⟨by omega, by simp; omega, bo, ?_, a4⟩
     rw [show j - k = (j - (k + 1)) + 1 by omega]
     simpa using a3
theorem extSls_sound (hob : ∀ id e l, look hp id = some (.frz e l) → ObR w Φ β hp id (.frz e l)) (c : Corr ρ β γ hp hp') : ∀ {sts : List SlT} {vs : List SVal} {us : List Value} {ds : List Dyn}, SVRs w Φ β hp vs us → extSls ρ hp sts vs = some ds →
  ∀ rest, (instSls sts (ds ++ rest)).2 = rest ∧ SVRs w Φ γ hp' (instSls sts (ds ++ rest)).1 us
 | [], [], us, ds, hv, h, rest => by simp [extSls] at h; subst h; exact ⟨rfl, hv⟩
 | [], _ :: _, us, ds, hv, h, rest => by simp [extSls] at h
 | _ :: _, [], us, ds, hv, h, rest => by simp [extSls] at h
 | st :: r, v :: vs, us, ds, ⟨u, us', e, h1, h2⟩, h, rest => by
   subst e
   simp only [extSls] at h
   split at h
   case h_2 => cases h
   rename_i d ds' hd hds
   cases h
   have one : (instSl st (d ++ (ds' ++ rest))).2 = ds' ++ rest ∧ SVR w Φ γ hp' (instSl st (d ++ (ds' ++ rest))).1 u := by
    unfold extSl at hd
    split at hd
    · rename_i l x
      obtain ⟨a1, a2, a3⟩ := extLs_form hd (ds' ++ rest)
      have a4 := extLs_sound hob c (lts := [l]) (ls := [x]) (us := [u]) ⟨u, [], rfl, h1, rfl⟩ hd
      rw [← a2] at a4
      simp only [instLs, List.append_nil] at a1 a4
      refine ⟨by simp [instSl, a1], ?_⟩
      simp only [instSl]
      have hl := LfRs_len a4
      match hh : (instL l (d ++ (ds' ++ rest))).1, hl, a4 with
      | [y], _, a4 => obtain ⟨q, qs, e, g1, g2⟩ := a4; cases e; exact g1
    · rename_i ls xs
      obtain ⟨vs', e, h1⟩ := h1
      obtain ⟨a1, a2, a3⟩ := extLs_form hd (ds' ++ rest)
      have a4 := extLs_sound hob c h1 hd
      rw [← a2] at a4
      exact ⟨by simp [instSl, a1], vs', e, by simpa [instSl] using a4⟩
    · cases hd
      exact ⟨rfl, trivial⟩
    · cases hd
   obtain ⟨k1, k2⟩ := extSls_sound hob c h2 hds rest
   simp only [instSls, List.append_assoc, one.1]
   exact ⟨k1, u, us', rfl, one.2, k2⟩
def OwnH (w : World) (γ : Loc) (hp : List (Nat × SObj)) (b : Nat) : Prop := (∃ id ob p, look hp id = some ob ∧ ob.owned = true ∧ γ id = some (some (b, p))) ∨ ∃ id ob, look hp id = some ob ∧ RowB w γ id ob b
structure InstR (w : World) (Φ : Nat → Prop) (T : Tm) (ds : List Dyn) (vals : List Value) (γ : Loc) : Prop where
 vals : SVRs w Φ γ (T.heap ds) (T.vals ds) vals
 hp : HpR w Φ γ ⟨[], T.heap ds, T.objs.length, []⟩
theorem has_mem : ∀ {l : List Nat} {x : Nat}, has l x = true ↔ x ∈ l
 | [], x => by simp [has]
 | k :: r, x => by
   simp only [has]
   cases hb : Nat.beq k x with
   | true => simp [Nat.eq_of_beq_eq_true hb]
   | false =>
     have : x ≠ k := fun e => by subst e; rw [Nat.beq_refl] at hb; cases hb
     simp [has_mem (l := r), this]
theorem nodupB_spec : ∀ {l : List Nat}, nodupB l = true → l.Nodup
 | [], _ => List.nodup_nil
 | x :: r, h => by
   simp only [nodupB, and_eq_true, Bool.not_eq_true'] at h
   refine List.nodup_cons.2 ⟨fun hm => ?_, nodupB_spec h.2⟩
   rw [has_mem.2 hm] at h; cases h.1
theorem freeB_spec {s : St} : ∀ {l : List Nat}, freeB s l = true → ∀ id ∈ l, s.held id = false
 | [], _, id, h => by cases h
 | x :: r, h, id, hm => by
   simp only [freeB, and_eq_true, Bool.not_eq_true'] at h
   rcases List.mem_cons.1 hm with e | hm
   · subst e; exact h.1
   · exact freeB_spec h.2 id hm
theorem rho_mem : ∀ {ρ : Rho} {k id : Nat}, ρ.at k = some id → id ∈ rhoIds ρ
 | [], k, id, h => by simp [Rho.at, nth] at h
 | some x :: r, 0, id, h => by simp [Rho.at, nth] at h; subst h; simp [rhoIds]
 | none :: r, 0, id, h => by simp [Rho.at, nth] at h
 | some x :: r, k + 1, id, h => List.mem_cons_of_mem _ (rho_mem (ρ := r) (k := k) (by simpa [Rho.at, nth] using h))
 | none :: r, k + 1, id, h => rho_mem (ρ := r) (k := k) (by simpa [Rho.at, nth] using h)
theorem rho_inj : ∀ {ρ : Rho} {k j id : Nat}, (rhoIds ρ).Nodup → ρ.at k = some id → ρ.at j = some id → k = j
 | [], k, j, id, _, h, _ => by simp [Rho.at, nth] at h
 | x :: r, 0, 0, id, _, _, _ => rfl
 | some x :: r, 0, j + 1, id, hn, h, h' => by
   simp [Rho.at, nth] at h
   subst h
   exact absurd (rho_mem (ρ := r) (k := j) (by simpa [Rho.at, nth] using h')) (List.nodup_cons.1 hn).1
 | some x :: r, k + 1, 0, id, hn, h', h => by
   simp [Rho.at, nth] at h
   subst h
   exact absurd (rho_mem (ρ := r) (k := k) (by simpa [Rho.at, nth] using h')) (List.nodup_cons.1 hn).1
 | none :: r, 0, j + 1, id, hn, h, h' => by simp [Rho.at, nth] at h
 | none :: r, k + 1, 0, id, hn, h, h' => by simp [Rho.at, nth] at h'
 | some x :: r, k + 1, j + 1, id, hn, h, h' => by
   have := rho_inj (ρ := r) (k := k) (j := j) (List.nodup_cons.1 hn).2 (by simpa [Rho.at, nth] using h) (by simpa [Rho.at, nth] using h')
   omega
 | none :: r, k + 1, j + 1, id, hn, h, h' => by
   have := rho_inj (ρ := r) (k := k) (j := j) hn (by simpa [Rho.at, nth] using h) (by simpa [Rho.at, nth] using h')
   omega
theorem rho_lt : ∀ {ρ : Rho} {k id : Nat}, ρ.at k = some id → k < ρ.length
 | [], k, id, h => by simp [Rho.at, nth] at h
 | x :: r, 0, id, h => by simp
 | x :: r, k + 1, id, h => by have := rho_lt (ρ := r) (k := k) (by simpa [Rho.at, nth] using h); simp; omega
theorem ext_inst {s : St} {T : Tm} {vs : List SVal} {us : List Value} {a b : List Dyn} (hh : HpR w Φ β s) (hv : SVRs w Φ β s.heap vs us) (ha : extObs ρ s.heap 0 T.objs = some a) (hb : extSls ρ s.heap T.slots vs = some b)
  (hn : (rhoIds ρ).Nodup) (hl : ρ.length ≤ T.objs.length) : InstR w Φ T (a ++ b) us (fun k => (ρ.at k).bind β) ∧
    (∀ k id, ρ.at k = some id → ∀ r, rowOf (look (T.heap (a ++ b)) k) = some r → rowOf (look s.heap id) = some r) ∧
    (∀ k o', look (T.heap (a ++ b)) k = some o' → k < T.objs.length ∧ ∃ bo, T.objs[k]? = some bo ∧ (bo.2 = .gone ∧ o' = .dead ∨ ∃ id ob, ρ.at k = some id ∧ look s.heap id = some ob ∧ ob.owned = true ∧ o'.owned = true ∧ (o'.isRows = true → o' = ob))) := by
 obtain ⟨h1, h2, h3⟩ := extObs_form ha b
 have hheap : T.heap (a ++ b) = (instObs 0 T.objs a).1 := h2
 have hvals : T.vals (a ++ b) = (instSls T.slots b).1 := by unfold Tm.vals; rw [h1]
 have hob : ∀ id e l, look s.heap id = some (.frz e l) → ObR w Φ β s.heap id (.frz e l) := fun id e l h => hh.ob id _ h
 have hγ : ∀ k id, ρ.at k = some id → (fun k => (ρ.at k).bind β) k = β id := fun k id h => by simp [h]
 have hrow : ∀ k id, ρ.at k = some id → ∀ r, rowOf (look (T.heap (a ++ b)) k) = some r → rowOf (look s.heap id) = some r := by
  intro k id hk r hr
  rw [hheap] at hr
  cases hlk : look (instObs 0 T.objs a).1 k with
  | none => rw [hlk] at hr; cases hr
  | some o' =>
    rw [hlk] at hr
    obtain ⟨_, _, bo, _, hc⟩ := h3 k o' hlk
    rcases hc with ⟨_, hd⟩ | ⟨id', ob, g1, g2, g3⟩
    · subst hd; cases hr
    · rw [hk] at g1; cases g1; rw [g2, ← g3.row]; exact hr
 have c : Corr ρ β (fun k => (ρ.at k).bind β) s.heap (T.heap (a ++ b)) := ⟨hγ, hrow⟩
 have hinfo : ∀ k o', look (T.heap (a ++ b)) k = some o' → k < T.objs.length ∧ ∃ bo, T.objs[k]? = some bo ∧ (bo.2 = .gone ∧ o' = .dead ∨ ∃ id ob, ρ.at k = some id ∧ look s.heap id = some ob ∧ CorO ρ s.heap ob o') := by
  intro k o' hk
  rw [hheap] at hk
  obtain ⟨_, g2, bo, g3, g4⟩ := h3 k o' hk
  exact ⟨by omega, bo, by simpa using g3, g4⟩
 have hrl : ∀ k o' c, look (T.heap (a ++ b)) k = some o' → RowB w (fun k => (ρ.at k).bind β) k o' c → ∃ id ob, ρ.at k = some id ∧ look s.heap id = some ob ∧ RowB w β id ob c := by
  intro k o' c hk hc
  obtain ⟨_, bo, _, h4⟩ := hinfo k o' hk
  rcases h4 with ⟨_, hd⟩ | ⟨id, ob, g1, g2, g3⟩
  · subst hd; exact absurd hc (RowB_none rfl)
  · cases hir : o'.isRows with
    | false => exact absurd hc (RowB_none hir)
    | true =>
      have := g3.rows hir
      subst this
      exact ⟨id, _, g1, g2, RowB_of (w := w) (w' := w) (by simp [g1]) (fun _ _ _ => rfl) hc⟩
 refine ⟨⟨?_, ⟨?_, ?_, ?_, ?_, ?_, hh.flt, ?_, ?_⟩⟩, hrow, fun k o' hk => ?_⟩
 · rw [hvals]
   have := (extSls_sound hob c hv hb []).2
   simpa using this
 · intro k o' hk
   obtain ⟨_, bo, _, hc⟩ := hinfo k o' hk
   rcases hc with ⟨_, hd⟩ | ⟨id, ob, g1, g2, g3⟩
   · subst hd; trivial
   · have ho := hh.ob id ob g2
     rcases g3 with ⟨cs, lts, d, rfl, e2, rfl⟩ | ⟨cs, lts, d, rfl, e2, rfl⟩ | ⟨e, l, rfl, rfl⟩ | ⟨kk, v, ag, l, rfl, rfl⟩ | ⟨hir, rfl⟩ | ⟨e, pre, cs, post, lts, d, rfl, e2, rfl⟩
     · obtain ⟨b, vs, k1, k2, k3, k4, k5⟩ := ho
       exact ⟨b, vs, by simp [g1, k1], k2, k3, k4, extLs_sound hob c k5 e2⟩
     · obtain ⟨b, vs, k1, k2, k3, k4, k5⟩ := ho
       exact ⟨b, vs, by simp [g1, k1], k2, k3, k4, extLs_sound hob c k5 e2⟩
     · rcases ho with ⟨k1, k2⟩ | ⟨b, o, k1, k2, k3, k4⟩
       · exact .inl ⟨by simp [g1, k1], k2⟩
       · exact .inr ⟨b, o, by simp [g1, k1], k2, k3, k4⟩
     · obtain ⟨b, es, cl, k1, k2⟩ := ho
       exact ⟨b, es, cl, by simp [g1, k1], k2⟩
     · cases o' with
       | rows e l g => obtain ⟨b, o, hs, k1, k2⟩ := ho; exact ⟨b, o, hs, by simp [g1, k1], k2⟩
       | mrows k e l g => obtain ⟨b, es, cl, k1, k2⟩ := ho; exact ⟨b, es, cl, by simp [g1, k1], k2⟩
       | _ => cases hir
     · obtain ⟨b, o, vs, k1, k2, k3, k4, k5, k6, k7, k8⟩ := ho
       exact ⟨b, o, vs, by simp [g1, k1], k2, k3, k4, k5, extLs_sound hob c k6 e2, k7, k8⟩
 · intro k x hk
   cases hr : ρ.at k with
   | none => simp [hr] at hk
   | some id => exact Nat.lt_of_lt_of_le (rho_lt hr) hl
 · intro k o' hk
   exact (hinfo k o' hk).1
 · intro k k' o o' b p p' hk hk' ho ho' hb hb'
   obtain ⟨_, bo, _, hc⟩ := hinfo k o hk
   obtain ⟨_, bo', _, hc'⟩ := hinfo k' o' hk'
   rcases hc with ⟨_, hd⟩ | ⟨id, ob, g1, g2, g3⟩
   · subst hd; cases ho
   rcases hc' with ⟨_, hd⟩ | ⟨id', ob', g1', g2', g3'⟩
   · subst hd; cases ho'
   simp only [g1, g1', Option.bind_some] at hb hb'
   have := hh.inj id id' ob ob' b p p' g2 g2' g3.owned.2 g3'.owned.2 hb hb'
   subst this
   exact rho_inj hn g1 g1'
 · intro k b p hk
   cases hr : ρ.at k with
   | none => simp [hr] at hk
   | some id => exact hh.blt id b p (by simpa [hr] using hk)
 · intro k o' c hk hc
   obtain ⟨id, ob, g1, g2, g3⟩ := hrl k o' c hk hc
   obtain ⟨k1, k2, k3⟩ := hh.rin id ob c g2 g3
   refine ⟨k1, k2, fun k' o2 p hk' ho' hb => ?_⟩
   obtain ⟨_, bo', _, hc'⟩ := hinfo k' o2 hk'
   rcases hc' with ⟨_, hd⟩ | ⟨id', ob', g1', g2', g3'⟩
   · subst hd; cases ho'
   · exact k3 id' ob' p g2' g3'.owned.2 (by simpa [g1'] using hb)
 · intro k k' o o' c hk hk' hc hc'
   obtain ⟨id, ob, g1, g2, g3⟩ := hrl k o c hk hc
   obtain ⟨id', ob', g1', g2', g3'⟩ := hrl k' o' c hk' hc'
   have := hh.rinj id id' ob ob' c g2 g2' g3 g3'
   subst this
   exact rho_inj hn g1 g1'
 · obtain ⟨g1, bo, g2, hc⟩ := hinfo k o' hk
   refine ⟨g1, bo, g2, ?_⟩
   rcases hc with hc | ⟨id, ob, e1, e2, e3⟩
   · exact .inl hc
   · exact .inr ⟨id, ob, e1, e2, e3.owned.2, e3.owned.1, e3.rows⟩
end
end Go.Bm
