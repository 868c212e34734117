/-
  OUR OWN: the interpreter's step is sound: a call.
-/
import Derived.Test.YtjphmcfifncgnaaBmHand2
namespace Go.Bm
set_option linter.unusedVariables false
set_option linter.unusedSimpArgs false

def retVal : List Value → Value
  | [v] => v
  | vs => .tuple vs.toArray

/-- The values at the places of pointers. -/
def ptrVals : List Sh → List Value → List Value
  | .ptr _ :: r, v :: vs => v :: ptrVals r vs
  | .c _ :: r, _ :: vs => ptrVals r vs
  | .agg _ :: r, _ :: vs => ptrVals r vs
  | .same _ :: r, _ :: vs => ptrVals r vs
  | _, _ => []

/-- What a call does, seen from outside: what it may turn is what was handed over. -/
structure Post (w : World) (Φ : Nat → Prop) (bs : List Nat) (w' : World) (Φ' : Nat → Prop) (bs' : List Nat) : Prop where
  same : Same w (· ∈ bs) w'
  nodup : bs'.Nodup
  mem : ∀ b, b ∈ bs' → (b ∈ bs ∨ w.heap.size ≤ b)
  nf : ∀ b, b ∈ bs' → ¬ Φ' b ∧ b < w'.heap.size
  sub : ∀ b, Φ b → Φ' b
  fro : ∀ b, Φ' b → b < w'.heap.size ∧ (Φ b ∨ b ∈ bs ∨ w.heap.size ≤ b)

/-- What is claimed of a function. -/
def FnOk (P : Program) (cx : Cx) (f : Nat) : Prop := ∀ d y, cx.rf f d = some y → ∀ (w : World) (Φ : Nat → Prop) (vs : List Value) (bs : List Nat),
  ShVs w Φ vs (cx.fins f) d vs bs → bs.Nodup → (∀ b, b ∈ bs → ¬ Φ b ∧ b < w.heap.size) → (∀ b, Φ b → b < w.heap.size) →
  Calls P f vs.toArray w fun e w' => ∃ Φ' rs bs', e = .returned (retVal rs) ∧ rs.length = (cx.fouts f).length ∧
    ShVs w' Φ' (rs ++ ptrVals (cx.fins f) vs) (cx.fouts f ++ refs (cx.fins f)) y (rs ++ ptrVals (cx.fins f) vs) bs' ∧ Post w Φ bs w' Φ' bs'

section
variable {P : Program} {R : Type} {w0 : World} {Φ0 own0 : Nat → Prop} {N : Frm} {w w' : World} {Φ Φ' : Nat → Prop} {β : Loc} {s s' : St} {a : Act} {hp : List (Nat × SObj)}
variable {cx : Cx} {o : Oper} {next : Act → World → Prop} {Q : Exit → Act → World → Prop} {k : St → Option R} {r : R}

/-- What stands while a call runs, stands behind it. -/
theorem Rel.behind (hr : Rel w0 Φ0 own0 N w Φ β s a) {bs bs' : List Nat} (hp : Post w Φ bs w' Φ' bs') (hout : ∀ b, b ∈ bs → ¬ Own β s b) (hnf : ∀ b, b ∈ bs → ¬ Φ b) (hbs : ∀ b, b ∈ bs → own0 b ∨ w0.heap.size ≤ b) :
    Rel w0 Φ0 own0 N w' Φ' β s a := by
  have hblk : ∀ b, b < w.heap.size → b ∉ bs → w'.heap[b]? = w.heap[b]? := fun b h1 h2 => hp.same.block b h1 h2
  have hΦ : ∀ b, Φ b → w'.heap[b]? = w.heap[b]? := fun b hb => hblk b (hr.hp.flt b hb) (fun hm => hnf b hm hb)
  have hown : ∀ id ob b p, look s.heap id = some ob → ob.owned = true → β id = some (some (b, p)) → w'.heap[b]? = w.heap[b]? := fun id ob b p h1 h2 h3 =>
    hblk b (hr.hp.blt _ _ _ h3) (fun hm => hout b hm ⟨id, ob, p, h1, h2, h3⟩)
  have hlive : ∀ id b p r, β id = some (some (b, p)) → rowOf (look s.heap id) = some r → w'.heap[b]? = w.heap[b]? := by
    intro id b p r h1 h2
    cases hl : look s.heap id with
    | none => rw [hl] at h2; cases h2
    | some ob =>
      cases ob with
      | dead => rw [hl] at h2; cases h2
      | box cs => exact hown id _ b p hl rfl h1
      | cells cs => exact hown id _ b p hl rfl h1
      | arr e l => exact hown id _ b p hl rfl h1
      | frz e l =>
        rcases hr.hp.ob id _ hl with ⟨g1, _⟩ | ⟨b', p', g1, g2, _⟩
        · rw [h1] at g1; cases g1
        · rw [h1] at g1; cases g1; exact hΦ _ g2
  have m : Mono w Φ β s.heap w' Φ' β s.heap := ⟨hΦ, hp.sub, fun _ _ h => h, fun _ _ _ _ h => h, fun id b o r h1 h2 => by unfold blockSize; rw [hlive id b o r h1 h2]⟩
  refine ⟨fun t v hv => SVR_mono m _ _ (hr.env t v hv), ⟨?_, hr.hp.lt, hr.hp.hlt, hr.hp.inj, fun id b p h => Nat.lt_of_lt_of_le (hr.hp.blt id b p h) hp.same.size, fun b hb => (hp.fro b hb).1⟩, hr.own, ?_, fun b hb => hp.sub b (hr.fri b hb), ?_, hr.size, hr.fix, hr.defers⟩
  · intro id ob hl
    cases ho : ob.owned with
    | true =>
      refine ObR_mono m (fun b p hb => hown id ob b p hl ho hb) (fun _ b p hb hn hn' => ?_) (hr.hp.ob id ob hl)
      rcases (hp.fro b hn').2 with g | g | g
      · exact hn g
      · exact hout b g ⟨id, ob, p, hl, ho, hb⟩
      · exact absurd (hr.hp.blt _ _ _ hb) (by omega)
    | false =>
      cases ob with
      | dead => trivial
      | box cs => cases ho
      | cells cs => cases ho
      | arr e l => cases ho
      | frz e l =>
        rcases hr.hp.ob id _ hl with ⟨g1, g2⟩ | ⟨b, p, g1, g2, g3⟩
        · exact .inl ⟨g1, g2⟩
        · exact .inr ⟨b, p, g1, hp.sub b g2, RowAt_mono m (hΦ b g2) g3⟩
  · refine ⟨hp.same.os.trans hr.same.os, hp.same.tape.trans hr.same.tape, hp.same.output.trans hr.same.output, Nat.le_trans hr.same.size hp.same.size, fun b hb hn => ?_⟩
    rw [hblk b (Nat.lt_of_lt_of_le hb hr.same.size) (fun hm => by rcases hbs b hm with g | g; exact hn g; omega)]
    exact hr.same.block b hb hn
  · intro b hb
    rcases (hp.fro b hb).2 with g | g | g
    · exact hr.fro b g
    · rcases hbs b g with g | g
      · exact .inr (.inl g)
      · exact .inr (.inr g)
    · exact .inr (.inr (Nat.le_trans hr.same.size g))

theorem SVRs_len : ∀ {l : List SVal} {u : List Value}, SVRs w Φ β hp l u → u.length = l.length
  | [], _, h => by cases h; rfl
  | x :: l, _, ⟨v, vs, e, _, h⟩ => by subst e; simp [SVRs_len h]

theorem SVRs_append : ∀ {l : List SVal} {u1 u2 : List Value}, SVRs w Φ β hp l (u1 ++ u2) → SVRs w Φ β hp (l.take u1.length) u1 ∧ SVRs w Φ β hp (l.drop u1.length) u2
  | l, [], u2, h => ⟨by simp [SVRs], by simpa using h⟩
  | [], u :: u1, u2, h => by cases h
  | x :: l, u :: u1, u2, ⟨v, vs, e, h1, h2⟩ => by
    simp only [List.cons_append, List.cons.injEq] at e
    obtain ⟨rfl, e⟩ := e
    subst e
    obtain ⟨g1, g2⟩ := SVRs_append h2
    exact ⟨by simp only [List.length_cons, List.take_succ_cons]; exact ⟨u, u1, rfl, h1, g1⟩, by simpa using g2⟩

theorem partsOf_sound : ∀ {vs : List SVal} {us : List Value} {ps : List (List Leaf × Bool)}, partsOf vs = some ps → SVRs w Φ β hp vs us → PartsR w Φ β hp ps us
  | [], us, ps, h, hv => by simp [partsOf] at h; subst h; exact hv
  | v :: vs, us, ps, h, ⟨u, us', e, h1, h2⟩ => by
    subst e
    simp only [partsOf] at h
    split at h
    case h_2 => cases h
    rename_i p ps' hp' hps
    cases h
    refine ⟨u, us', rfl, ?_, partsOf_sound hps h2⟩
    cases v with
    | one l => cases hp'; show PartR _ _ _ _ _ _; unfold PartR; simp only [Bool.false_eq_true, if_false]; exact ⟨u, [], rfl, h1, rfl⟩
    | agg cs => cases hp'; unfold PartR; simp only [if_true]; exact h1
    | tup _ => cases hp'
    | skip => cases hp'

theorem resultVal_sound {vs : List SVal} {us : List Value} {v : SVal} (h : resultVal vs = some v) (hv : SVRs w Φ β hp vs us) : SVR w Φ β hp v (retVal us) := by
  unfold resultVal at h
  split at h
  · cases h
    obtain ⟨u, us', e, h1, h2⟩ := hv
    cases h2; subst e; exact h1
  · rename_i hne
    split at h
    case h_2 => cases h
    rename_i ps hps
    cases h
    have : retVal us = .tuple us.toArray := by
      unfold retVal
      split
      · rename_i v'
        have := SVRs_len hv
        match vs, this, hne with
        | [x], _, hne => exact absurd rfl (hne x)
      · rfl
    rw [this]
    exact ⟨us.toArray, rfl, by simpa using partsOf_sound hps hv⟩

/-- A variable that had been given away is there again. -/
theorem Rel.revive (hr : Rel w0 Φ0 own0 N w Φ β s a) {id : Nat} {b : Nat} {ls : List Leaf} (hb : β id = some (some (b, 0))) (hno : ∀ b', Own β s b' → b' ≠ b) (ho : own0 b ∨ w0.heap.size ≤ b)
    (hob : ∀ hp', Mono w Φ β s.heap w Φ β hp' → ObR w Φ β hp' id (.box ls)) : Rel w0 Φ0 own0 N w Φ β (s.put id (.box ls)) a ∧ Mono w Φ β s.heap w Φ β (s.put id (.box ls)).heap := by
  have m : Mono w Φ β s.heap w Φ β (s.put id (.box ls)).heap := by
    refine ⟨fun _ _ => rfl, fun _ h => h, fun _ _ h => h, ?_, fun _ _ _ _ _ _ => rfl⟩
    intro j x hx r hrr
    simp only [St.put, look_cons] at hrr
    split at hrr
    · cases hrr
    · exact hrr
  have hlk : ∀ j ob, look (s.put id (.box ls)).heap j = some ob → (j = id ∧ ob = .box ls) ∨ (j ≠ id ∧ look s.heap j = some ob) := by
    intro j ob hj
    simp only [St.put, look_cons] at hj
    split at hj
    · rename_i e; exact .inl ⟨e.symm, by cases hj; rfl⟩
    · rename_i e; exact .inr ⟨fun e' => e e'.symm, hj⟩
  refine ⟨⟨fun t v hv => SVR_mono m _ _ (hr.env t v hv), ⟨?_, hr.hp.lt, ?_, ?_, hr.hp.blt, hr.hp.flt⟩, ?_, hr.same, hr.fri, hr.fro, hr.size, hr.fix, hr.defers⟩, m⟩
  · intro j ob hj
    rcases hlk j ob hj with ⟨rfl, rfl⟩ | ⟨hne, hj2⟩
    · exact hob _ m
    · exact ObR_mono m (fun _ _ _ => rfl) (fun _ _ _ _ h => h) (hr.hp.ob j ob hj2)
  · intro j ob hj
    rcases hlk j ob hj with ⟨rfl, rfl⟩ | ⟨hne, hj2⟩
    · exact hr.hp.lt _ _ hb
    · exact hr.hp.hlt j ob hj2
  · intro j j' ob ob' c q q' hj hj' h1 h2 hc hc'
    rcases hlk j ob hj with ⟨rfl, rfl⟩ | ⟨hne, hj2⟩ <;> rcases hlk j' ob' hj' with ⟨rfl, rfl⟩ | ⟨hne', hj2'⟩
    · rfl
    · rw [hb] at hc; cases hc; exact absurd rfl (hno _ ⟨j', ob', q', hj2', h2, hc'⟩)
    · rw [hb] at hc'; cases hc'; exact absurd rfl (hno _ ⟨j, ob, q, hj2, h1, hc⟩)
    · exact hr.hp.inj j j' ob ob' c q q' hj2 hj2' h1 h2 hc hc'
  · intro j ob c q hj h1 hc
    rcases hlk j ob hj with ⟨rfl, rfl⟩ | ⟨hne, hj2⟩
    · rw [hb] at hc; cases hc; exact ho
    · exact hr.own j ob c q hj2 h1 hc

def IdsOk (β : Loc) : List Nat → List Value → Prop
  | [], vs => vs = []
  | id :: ids, vs => ∃ b vs', vs = .pointer (some ⟨b, 0, none⟩) :: vs' ∧ β id = some (some (b, 0)) ∧ IdsOk β ids vs'

theorem putBack_sound : ∀ {ids : List Nat} {vs : List SVal} {us : List Value} {s s' : St}, Rel w0 Φ0 own0 N w Φ β s a → SVRs w Φ β s.heap vs us → IdsOk β ids us → putBack ids vs s = some s' → Rel w0 Φ0 own0 N w Φ β s' a ∧ Mono w Φ β s.heap w Φ β s'.heap
  | [], [], us, s, s', hr, _, _, h => by simp [putBack] at h; subst h; exact ⟨hr, (Packed.refl w Φ β s).mono⟩
  | [], v :: vs, us, s, s', hr, _, _, h => by simp [putBack] at h
  | id :: ids, [], us, s, s', hr, _, _, h => by simp [putBack] at h
  | id :: ids, .one (.ptr j 0) :: vs, us, s, s', hr, ⟨u, us', e, h1, h2⟩, ⟨b, us'', e', hb, hid⟩, h => by
    subst e
    simp only [List.cons.injEq] at e'
    obtain ⟨rfl, rfl⟩ := e'
    simp only [putBack] at h
    split at h
    case h_2 => cases h
    rename_i ls hl
    obtain ⟨b', hj, hp'⟩ := h1
    simp only [Value.pointer.injEq, Option.some.injEq, Addr.mk.injEq] at hp'
    obtain ⟨rfl, _, _⟩ := hp'
    have hob := hr.hp.ob j _ hl
    have hgive := hr.give hl rfl
    have ht : Took w Φ β s Φ (s.put j .dead) [b] := by
      obtain ⟨b2, us2, hb2, hn2, _⟩ := hob
      rw [hj] at hb2; cases hb2
      exact give_took hr hl rfl [b] (fun c => ⟨fun h => ⟨0, by simp at h; subst h; exact hj⟩, fun ⟨p, hp⟩ => by rw [hj] at hp; cases hp; simp⟩) (by simp) (fun c h => by simp at h; subst h; exact hn2)
    obtain ⟨g1, g2⟩ := hgive.revive (id := id) (ls := ls) hb (fun b' ho' e => by subst e; exact ht.out _ (by simp) ho') (hr.own j _ b 0 hl rfl hj) (fun hp' m => by
      obtain ⟨b2, us2, hb2, hn2, hf2, hc2, hl2⟩ := hob
      rw [hj] at hb2; cases hb2
      exact ⟨b, us2, hb, hn2, hf2, hc2, LfRs_mono (ht.mono.trans m) _ _ hl2⟩)
    obtain ⟨k1, k2⟩ := putBack_sound g1 (SVRs_mono (ht.mono.trans g2) h2) hid h
    exact ⟨k1, (ht.mono.trans g2).trans k2⟩
  | id :: ids, .one (.ptr j (q + 1)) :: vs, us, s, s', hr, _, _, h => by simp [putBack] at h
  | id :: ids, .one .undef :: vs, us, s, s', hr, _, _, h => by simp [putBack] at h
  | id :: ids, .one (.int _ _) :: vs, us, s, s', hr, _, _, h => by simp [putBack] at h
  | id :: ids, .one (.bool _) :: vs, us, s, s', hr, _, _, h => by simp [putBack] at h
  | id :: ids, .one (.str _) :: vs, us, s, s', hr, _, _, h => by simp [putBack] at h
  | id :: ids, .one (.list _ _) :: vs, us, s, s', hr, _, _, h => by simp [putBack] at h
  | id :: ids, .one .nils :: vs, us, s, s', hr, _, _, h => by simp [putBack] at h
  | id :: ids, .one (.eptr _ _ _) :: vs, us, s, s', hr, _, _, h => by simp [putBack] at h
  | id :: ids, .one (.vptr _ _ _) :: vs, us, s, s', hr, _, _, h => by simp [putBack] at h
  | id :: ids, .one (.sl _ _) :: vs, us, s, s', hr, _, _, h => by simp [putBack] at h
  | id :: ids, .agg _ :: vs, us, s, s', hr, _, _, h => by simp [putBack] at h
  | id :: ids, .tup _ :: vs, us, s, s', hr, _, _, h => by simp [putBack] at h
  | id :: ids, .skip :: vs, us, s, s', hr, _, _, h => by simp [putBack] at h

theorem packSh_ids (hr : Rel w0 Φ0 own0 N w Φ β s a) {x : Sh} {sv : SVal} {v : Value} {d : x.ct.denote} {s' : St} {ids : List Nat} (hv : SVR w Φ β s.heap sv v) (h : packSh x sv s = some (d, s', ids)) (rest : List Nat) (r : List Sh) (vs : List Value)
    (hrest : IdsOk β rest (ptrVals r vs)) : IdsOk β (ids ++ rest) (ptrVals (x :: r) (v :: vs)) := by
  cases x with
  | c x =>
    simp only [packSh] at h
    split at h
    case h_2 => cases h
    split at h
    case h_2 => cases h
    cases h; exact hrest
  | agg t =>
    simp only [packSh] at h
    split at h
    case h_2 => cases h
    split at h
    case h_2 => cases h
    cases h; exact hrest
  | ptr xs =>
    simp only [packSh] at h
    split at h
    case h_2 => cases h
    rename_i id
    split at h
    case h_2 => cases h
    split at h
    case h_2 => cases h
    cases h
    obtain ⟨b, hb, ev⟩ := hv
    exact ⟨b, ptrVals r vs, by rw [ptrVals, ev], hb, hrest⟩
  | same j => simp only [packSh] at h; cases h; exact hrest

theorem packShs_ids {al : List Value} : ∀ {xs : List Sh} {vs : List SVal} {us : List Value} {Φ : Nat → Prop} {s s' : St} {d : (prods (shCts xs)).denote} {ids : List Nat}, Rel w0 Φ0 own0 N w Φ β s a → SVRs w Φ β s.heap vs us → SameOk al xs us → packShs xs vs s = some (d, s', ids) → IdsOk β ids (ptrVals xs us)
  | [], vs, us, Φ, s, s', d, ids, hr, hv, hs, h => by
    cases vs with
    | nil => simp [packShs] at h; obtain ⟨rfl, rfl, rfl⟩ := h; cases hv; rfl
    | cons l ls => simp [packShs] at h
  | x :: r, [], us, Φ, s, s', d, ids, hr, hv, hs, h => by simp [packShs] at h
  | x :: r, v :: vs, us, Φ, s, s', d, ids, hr, ⟨u, us', e, h1, h2⟩, hs, h => by
    subst e
    simp only [packShs] at h
    split at h
    case h_2 => cases h
    rename_i y s1 is hy
    split at h
    case h_2 => cases h
    rename_i z s2 js hz
    cases h
    obtain ⟨Φ1, b1, g1, g2, g3⟩ := packSh_sound hr h1 hs.1 hy
    exact packSh_ids hr h1 hy js r us' (packShs_ids g1 (SVRs_mono g2.mono h2) hs.2 hz)

theorem IdsOk_mono {β' : Loc} (h : ∀ id x, β id = some x → β' id = some x) : ∀ {ids : List Nat} {vs : List Value}, IdsOk β ids vs → IdsOk β' ids vs
  | [], _, g => g
  | id :: ids, _, ⟨b, vs', e, g1, g2⟩ => ⟨b, vs', e, h _ _ g1, IdsOk_mono h g2⟩

/-- A call. -/
theorem step_call (hf : ∀ f, FnOk P cx f) (hr : Rel w0 Φ0 own0 N w Φ β s a) (hN : ∀ d, o.dst = some d → N.ok d) (hk : ∀ s' a' w' Φ' β', Rel w0 Φ0 own0 N w' Φ' β' s' a' → k s' = some r → next a' w')
    {c : Call} (ho : o.op = .call c) {f : Nat} (hc : c.callee = .value (.func f)) (hfun : ∀ f d y, cx.rf f d = some y → ∃ fn : Func, P.funcs[f]? = some fn ∧ (fn.name == "runtime.NumGoroutine") = false ∧ fn.body.isNone = false) (h : stepK cx o s k = some r) : o.wp P a w next Q := by
  simp only [stepK, ho, hc] at h
  split at h
  case h_2 => cases h
  rename_i args hev
  have hargs := evalAll_sound hr _ _ hev
  unfold callK at h
  split at h
  case h_2 => cases h
  rename_i d s1 ids hpk
  cases hy : cx.rf f d with
  | none => rw [hy] at h; cases h
  | some y =>
  rw [hy] at h
  simp only [Option.bind_some] at h
  split at h
  case h_2 => cases h
  rename_i v hres
  split at h
  case h_2 => cases h
  rename_i s2 hpb
  have hpk' := hpk
  unfold packAll at hpk'
  obtain ⟨hsame, hpk'⟩ := cond_none hpk'
  have hsok := sameK_ok hr hargs _ _ _ hargs hsame
  obtain ⟨Φ1, bs, g1, g2, g3⟩ := packShs_sound hr hargs hsok hpk'
  have hids := packShs_ids hr hargs hsok hpk'
  have hbs : ∀ b, b ∈ bs → own0 b ∨ w0.heap.size ≤ b := fun b hb => by
    obtain ⟨id, ob, p, k1, k2, k3⟩ := g2.mem b hb
    exact hr.own id ob b p k1 k2 k3
  have hblt : ∀ b, b ∈ bs → b < w.heap.size := fun b hb => by
    obtain ⟨id, ob, p, k1, k2, k3⟩ := g2.mem b hb
    exact hr.hp.blt _ _ _ k3
  have hcalls := hf f d y hy w Φ1 (c.args.toList.map a.eval) bs g3 g2.nodup (fun b hb => ⟨g2.nf b hb, hblt b hb⟩) g1.hp.flt
  obtain ⟨fn, hfn1, hfn2, hfn3⟩ := hfun f d y hy
  have hexec : (execOp a.eval o).run P w = .ok (.enter f (c.args.toList.map a.eval).toArray) w := by
    have : (c.args.map a.eval) = (c.args.toList.map a.eval).toArray := by rw [← Array.toList_inj]; simp
    have hev' : a.eval (.func f) = .func (.func f) #[] #[] := rfl
    simp only [execOp, ho, resolve, hc, hev', Deferred.ofValue, Sem.run_bind, Sem.run_pure, Result.andThen_ok, invoke, callFunc, run_program, hfn1, hfn2, hfn3, this, Bool.false_eq_true, if_false, Array.empty_append, Array.append_empty]
  unfold Oper.wp
  rw [hexec, Oper.upon_enter]
  refine hcalls.mono fun e w' hpost => ?_
  obtain ⟨Φ', rs, bs', he, hlen, hsh, hp⟩ := hpost
  subst he
  have hb := g1.behind hp g2.out g2.nf hbs
  obtain ⟨β2, k1, k2, k3⟩ := unpackShs_sound (done := []) (pre := []) hb rfl rfl hsh hp.nodup (fun b hb' ho' => by
    rcases hp.mem b hb' with g | g
    · exact g2.out b g ho'
    · obtain ⟨id, ob, p, _, _, m3⟩ := ho'
      exact absurd (g1.hp.blt _ _ _ m3) (by omega)) (fun b hb' => by
    rcases hp.mem b hb' with g | g
    · exact hbs b g
    · exact .inr (Nat.le_trans hr.same.size g))
  obtain ⟨m1, m2⟩ := SVRs_append (u1 := rs) (u2 := ptrVals (cx.fins f) (c.args.toList.map a.eval)) k3
  rw [hlen] at m1 m2
  obtain ⟨n1, n2⟩ := putBack_sound k1 m2 (IdsOk_mono k2.mono.loc hids) hpb
  show next (a.put o.dst (retVal rs)) w'
  exact hk _ _ _ _ _ (n1.set (SVR_mono n2 _ _ (resultVal_sound hres m1)) hN) h

end
end Go.Bm
