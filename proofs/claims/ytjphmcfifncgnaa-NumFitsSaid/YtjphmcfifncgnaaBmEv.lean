/-
  OUR OWN: the interpreter is sound: operations in a row, code, pieces with a name, functions.
-/
import Derived.Test.YtjphmcfifncgnaaBmCallS
import Derived.LoopN
namespace Go.Bm
set_option linter.unusedVariables false
set_option linter.unusedSimpArgs false

def Ex.toExit : Ex → Exit
  | .norm => .normal
  | .out id => .exit id
  | .ret => .ret

def slotVals (a : Act) (slots : List Nat) : List Value := slots.map fun t => a.tmps.getD t undef

/-- What a piece's exit has left in its slots. -/
def ExitV (w : World) (Φ : Nat → Prop) (ex : Exit) (a : Act) (bs : List Nat) : (l : List (Ex × List Nat × List Sh)) → (exitsT l).denote → Prop
  | [], _ => False
  | [(e, slots, shs)], y => ex = e.toExit ∧ ShVs w Φ (slotVals a slots) shs y (slotVals a slots) bs
  | (e, slots, shs) :: b :: r, y => match y with
    | .inl d => ex = e.toExit ∧ ShVs w Φ (slotVals a slots) shs d (slotVals a slots) bs
    | .inr y' => ExitV w Φ ex a bs (b :: r) y'

def fresh (fx : List Nat) (d : Nat) : Bool := fx.all fun t => !Nat.beq t d

/-- All slots that a code writes are there, and none of some. -/
def Bound (fx : List Nat) (n : Nat) : Code → Bool
  | .region _ ops _ => ops.toList.all fun o => match o.dst with
    | some d => Nat.blt d n && fresh fx d
    | none => true
  | .seq a b => Bound fx n a && Bound fx n b
  | .cond _ a b => Bound fx n a && Bound fx n b
  | .block _ c => Bound fx n c
  | .loop c => Bound fx n c
  | _ => true

/-- What is claimed of a piece of code with a name. -/
def BlkOk (P : Program) (cx : Cx) (n κ : Nat) (c : Code) : Prop := ∀ d y, cx.rb κ d = some y → ∀ (w : World) (Φ : Nat → Prop) (a : Act) (bs : List Nat) (fix : Nat → Option Value),
  (∀ t v, fix t = some v → Bound [t] n c = true) → (∀ t v, fix t = some v → a.tmps.getD t undef = v) → a.tmps.size = n → a.defers = [] →
  ShVs w Φ (slotVals a (cx.bk κ).slots) (cx.bk κ).ins d (slotVals a (cx.bk κ).slots) bs → bs.Nodup → (∀ b, b ∈ bs → ¬ Φ b ∧ b < w.heap.size) → (∀ b, Φ b → b < w.heap.size) →
  c.wp P (fun ex a' w' => a'.tmps.size = n ∧ (∀ t v, fix t = some v → a'.tmps.getD t undef = v) ∧ a'.defers = [] ∧ ∃ Φ' bs', ExitV w' Φ' ex a' bs' (cx.bk κ).exits y ∧ Post w Φ bs w' Φ' bs') a w

/-- The named pieces of a code are what they are said to be. -/
def Hints (P : Program) (cx : Cx) (n : Nat) (lk tk : Nat → Option Nat) : Code → Prop
  | .seq a b => Hints P cx n lk tk a ∧ (match (firstRegion b).bind tk with
    | some κ => BlkOk P cx n κ b
    | none => Hints P cx n lk tk b)
  | .block id c => match lk id with
    | some κ => BlkOk P cx n κ (.block id c)
    | none => Hints P cx n lk tk c
  | .cond _ a b => Hints P cx n lk tk a ∧ Hints P cx n lk tk b
  | .loop c => Hints P cx n lk tk c
  | _ => True

theorem fresh_mem {fx : List Nat} {d t : Nat} (h : fresh fx d = true) (ht : t ∈ fx) : fresh [t] d = true := by
  have := List.all_eq_true.1 h t ht
  simpa [fresh] using this

theorem Bound_mem {fx : List Nat} {n t : Nat} (ht : t ∈ fx) : ∀ (c : Code), Bound fx n c = true → Bound [t] n c = true
  | .region _ ops _, h => by
    simp only [Bound, List.all_eq_true] at *
    intro o ho
    have := h o ho
    cases hd : o.dst with
    | none => rfl
    | some d =>
      rw [hd] at this
      simp only [Bool.and_eq_true] at *
      exact ⟨this.1, fresh_mem this.2 ht⟩
  | .seq a b, h => by simp only [Bound, Bool.and_eq_true] at *; exact ⟨Bound_mem ht a h.1, Bound_mem ht b h.2⟩
  | .cond _ a b, h => by simp only [Bound, Bool.and_eq_true] at *; exact ⟨Bound_mem ht a h.1, Bound_mem ht b h.2⟩
  | .block _ c, h => Bound_mem ht c h
  | .loop c, h => Bound_mem ht c h
  | .skip, _ => rfl
  | .exit _, _ => rfl
  | .ret, _ => rfl
  | .rangeFunc _ _ _ _, _ => rfl
  | .scope _, _ => rfl
  | .label _, _ => rfl
  | .goto _, _ => rfl
  | .refuse _, _ => rfl

/-- All that the interpreter leans on. -/
structure AllOk (P : Program) (cx : Cx) : Prop where
  ok : CxOk P cx
  fn : ∀ f, FnOk P cx f
  fun' : ∀ f d y, cx.rf f d = some y → ∃ fn : Func, P.funcs[f]? = some fn ∧ (fn.name == "runtime.NumGoroutine") = false ∧ fn.body.isNone = false

section
variable {P : Program} {R : Type} {w0 : World} {Φ0 own0 : Nat → Prop} {N : Frm} {w w' : World} {Φ Φ' : Nat → Prop} {β : Loc} {s s' : St} {a : Act} {hp : List (Nat × SObj)}
variable {cx : Cx} {lk tk : Nat → Option Nat}

theorem stepK_sound (hok : AllOk P cx) {o : Oper} {next : Act → World → Prop} {Q : Exit → Act → World → Prop} {k : St → Option R} {r : R} (hr : Rel w0 Φ0 own0 N w Φ β s a) (hN : ∀ d, o.dst = some d → N.ok d)
    (hk : ∀ s' a' w' Φ' β', Rel w0 Φ0 own0 N w' Φ' β' s' a' → k s' = some r → next a' w') (h : stepK cx o s k = some r) : o.wp P a w next Q := by
  cases ho : o.op with
  | move x => exact step_move hr hN hk (.inl ho) h
  | assign x => exact step_move hr hN hk (.inr ho) h
  | pick c x y => exact step_pick hr hN hk ho h
  | alloc t => exact step_alloc hok.ok hr hN hk ho h
  | box t x => exact step_box hok.ok hr hN hk ho h
  | build t ps => exact step_build hok.ok hr hN hk ho h
  | buildSlice t n ps => exact step_buildSlice hok.ok hr hN hk ho h
  | load t x => exact step_load hok.ok hr hN hk ho h
  | store t x y => exact step_store hok.ok hr hN hk ho h
  | nilCheck x => exact step_nilCheck hr hN hk ho h
  | binOp op t x y t' => exact step_bin hok.ok hr hN hk ho h
  | unOp op t x => exact step_un hr hN hk ho h
  | convert t d x => exact step_convert hok.ok hr hN hk ho h
  | makeSlice t l c => exact step_makeSlice hok.ok hr hN hk ho h
  | slice t x lo hi mx =>
    cases mx with
    | none => exact step_slice hok.ok hr hN hk ho h
    | some m => simp [stepK, ho] at h
  | fieldAddr t x f => exact step_fieldAddr hok.ok hr hN hk ho h
  | field t x f => exact step_field hok.ok hr hN hk ho h
  | indexAddr t x i => exact step_indexAddr hok.ok hr hN hk ho h
  | index t x i => exact step_index hok.ok hr hN hk ho h
  | extract x i => exact step_extract hr hN hk ho h
  | call c =>
    cases hc : c.callee with
    | value x =>
      cases x with
      | func f => exact step_call hok.fn hr hN hk ho hc hok.fun' h
      | _ => simp [stepK, ho, hc] at h
    | invoke r m => simp [stepK, ho, hc] at h
    | builtin b =>
      cases b with
      | len => exact step_len hok.ok hr hN hk ho hc h
      | append => exact step_append hok.ok hr hN hk ho hc h
      | max => exact step_max hr hN hk ho (.inl hc) h
      | min => exact step_max hr hN hk ho (.inr hc) h
      | _ => simp [stepK, ho, hc] at h
  | _ => simp [stepK, ho] at h

theorem getD_some {a : Act} {d : Nat} {v : Value} (h : a.tmps.getD d undef = v) (hd : d < a.tmps.size) : a.tmps[d]? = some v := by
  simp [Array.getD, hd] at h
  simp [hd, h]

theorem set_same (hr : Rel w0 Φ0 own0 N w Φ β s a) {d : Nat} {v : SVal} (hv : SVR w Φ β s.heap v (a.tmps.getD d undef)) : Rel w0 Φ0 own0 N w Φ β (s.set (some d) v) a := by
  refine ⟨fun t u hu => ?_, ⟨hr.hp.ob, hr.hp.lt, hr.hp.hlt, hr.hp.inj, hr.hp.blt, hr.hp.flt⟩, hr.own, hr.same, hr.fri, hr.fro, hr.size, hr.fix, hr.defers⟩
  simp only [St.set, look_cons] at hu
  split at hu
  · rename_i e; subst e; cases hu; exact hv
  · exact hr.env t u hu

theorem evOps_sound (hok : AllOk P cx) {ops : Array Oper} {Q : Exit → Act → World → Prop} {k : St → Option R} {r : R} (hN : ∀ o ∈ ops.toList, ∀ d, o.dst = some d → N.ok d)
    (hk : ∀ s' a' w' Φ' β', Rel w0 Φ0 own0 N w' Φ' β' s' a' → k s' = some r → Q .normal a' w') : ∀ (l : List Oper) (i : Nat) {w : World} {Φ : Nat → Prop} {β : Loc} {s : St} {a : Act}, (∀ j, l[j]? = ops[i + j]?) →
    Rel w0 Φ0 own0 N w Φ β s a → evOps cx ops.toList l s k = some r → wpOps P ops Q (List.range' i l.length) a w
  | [], i, w, Φ, β, s, a, _, hr, h => by simp only [evOps] at h; simpa [wpOps] using hk _ _ _ _ _ hr h
  | o :: l, i, w, Φ, β, s, a, hl, hr, h => by
    have hoi : ops[i]? = some o := by have := hl 0; simpa using this.symm
    have hl' : ∀ j, l[j]? = ops[i + 1 + j]? := fun j => by have := hl (j + 1); rw [show i + 1 + j = i + (j + 1) by omega]; simpa using this
    have hmem : o ∈ ops.toList := by rw [← Array.getElem?_toList] at hoi; exact List.mem_of_getElem? hoi
    have hoN := hN o hmem
    have yes : ∀ {s1 : St}, Rel w0 Φ0 own0 N w Φ β s1 a → (stepK cx o s1 fun s' => evOps cx ops.toList l s' k) = some r → o.wp P a w (wpOps P ops Q (List.range' (i + 1) l.length)) Q := fun hr1 h1 =>
      stepK_sound hok hr1 hoN (fun s' a' w' Φ' β' hr' h' => evOps_sound hok hN hk l (i + 1) hl' hr' h') h1
    have no : ∀ {s1 : St}, Rel w0 Φ0 own0 N w Φ β s1 a → evOps cx ops.toList l (s1.set o.dst .skip) k = some r → wpOps P ops Q (List.range' (i + 1) l.length) (a.put o.dst undef) w := fun hr1 h1 =>
      evOps_sound hok hN hk l (i + 1) hl' (hr1.set (sv := .skip) (v := undef) rfl hoN) h1
    simp only [List.length_cons, List.range'_succ, wpOps, hoi]
    simp only [evOps] at h
    split at h
    · rename_i hg
      have hw : Region.wanted o (yielded ops a.tmps) = true := by simp [Region.wanted, hg]
      rw [if_pos hw]
      exact .inl (yes hr h)
    · rename_i j want hg
      split at h
      case h_2 => cases h
      rename_i d hd
      rw [nth_getElem?, Array.getElem?_toList] at hd
      split at h
      · rename_i b hb
        have hv : a.tmps.getD d undef = .bool b := hr.env d _ hb
        have hdl : d < a.tmps.size := by
          rcases Nat.lt_or_ge d a.tmps.size with g | g
          · exact g
          · have : a.tmps.getD d undef = undef := by simp [Array.getD, Nat.not_lt.2 g]
            rw [this] at hv; cases hv
        have hy : yielded ops a.tmps j = some b := by
          simp only [yielded, hd, Option.bind_some, getD_some hv hdl]
        have hw : Region.wanted o (yielded ops a.tmps) = (some b == some want) := by simp only [Region.wanted, hg, hy]
        have hs1 : Rel w0 Φ0 own0 N w Φ β (s.set (some d) (.one (.bool b))) a := set_same hr (by rw [hv]; rfl)
        cases b <;> cases want <;> simp only [guardK, cond_true, cond_false] at h <;> rw [hw]
        · rw [if_pos (by rfl)]; exact .inl (yes hs1 h)
        · rw [if_neg (by decide)]; exact no hs1 h
        · rw [if_neg (by decide)]; exact no hs1 h
        · rw [if_pos (by rfl)]; exact .inl (yes hs1 h)
      · rename_i hb
        have hv : a.tmps.getD d undef = undef := hr.env d _ hb
        have hy : yielded ops a.tmps j = none := by
          simp only [yielded, hd, Option.bind_some]
          rcases Nat.lt_or_ge d a.tmps.size with g | g
          · rw [getD_some hv g]; rfl
          · rw [Array.getElem?_eq_none g]
        have hw : Region.wanted o (yielded ops a.tmps) = false := by simp only [Region.wanted, hg, hy]; rfl
        rw [hw]
        exact no hr h
      · cases h

/-- The same run, with nothing held. -/
theorem Rel.bare (hr : Rel w0 Φ0 own0 N w Φ β s a) {a' : Act} (h1 : a'.tmps.size = N.n) (hfx : ∀ t v, N.fix t = some v → a'.tmps.getD t undef = v) (h2 : a'.defers = []) : Rel w0 Φ0 own0 N w Φ (fun _ => none) .empty a' :=
  { env := fun t v h => by cases h
    hp := { ob := fun id o h => by cases h
            lt := fun id x h => by cases h
            hlt := fun id o h => by cases h
            inj := fun id id' o o' b p p' h => by cases h
            blt := fun id b p h => by cases h
            flt := hr.hp.flt }
    own := fun id o b p h => by cases h
    same := hr.same
    fri := hr.fri
    fro := hr.fro
    size := h1
    fix := hfx
    defers := h2 }

theorem lookAll_sound (hr : Rel w0 Φ0 own0 N w Φ β s a) : ∀ {slots : List Nat} {vs : List SVal}, lookAll s.env slots = some vs → SVRs w Φ β s.heap vs (slotVals a slots)
  | [], vs, h => by simp [lookAll] at h; subst h; rfl
  | n :: r, vs, h => by
    simp only [lookAll] at h
    split at h
    · rename_i x y h1 h2; cases h; exact ⟨_, _, rfl, hr.env n x h1, lookAll_sound hr h2⟩
    · cases h

theorem look_zip {vs : List SVal} {slots : List Nat} (hv : SVRs w Φ β hp vs (slotVals a slots)) : ∀ t v, look (slots.zip vs) t = some v → SVR w Φ β hp v (a.tmps.getD t undef) := by
  induction slots generalizing vs with
  | nil => intro t v h; simp [look] at h
  | cons n r ih =>
    intro t v h
    cases vs with
    | nil => simp [look] at h
    | cons x vs =>
      obtain ⟨u, us, e, h1, h2⟩ := hv
      simp only [slotVals, List.map_cons, List.cons.injEq] at e
      obtain ⟨rfl, rfl⟩ := e
      simp only [List.zip_cons_cons, look_cons] at h
      split at h
      · rename_i e; subst e; cases h; exact h1
      · exact ih h2 t v h

/-- The state that a list of slots makes. -/
theorem mkSt_sound (hr : Rel w0 Φ0 own0 N w Φ (fun _ => none) .empty a) {slots : List Nat} {shs : List Sh} {d : (prods (shCts shs)).denote} {bs : List Nat} (h : ShVs w Φ (slotVals a slots) shs d (slotVals a slots) bs) (hnd : bs.Nodup)
    (hown : ∀ b, b ∈ bs → own0 b ∨ w0.heap.size ≤ b) : ∃ β', Rel w0 Φ0 own0 N w Φ β' (mkSt slots (unpackShs shs [] d .empty)) a := by
  obtain ⟨β', h1, h2, h3⟩ := unpackShs_sound (done := []) (pre := []) hr rfl rfl h hnd (fun b hb ho => by obtain ⟨id, ob, p, h, _⟩ := ho; cases h) hown
  exact ⟨β', look_zip h3, ⟨h1.hp.ob, h1.hp.lt, h1.hp.hlt, h1.hp.inj, h1.hp.blt, h1.hp.flt⟩, h1.own, h1.same, h1.fri, h1.fro, h1.size, h1.fix, h1.defers⟩

theorem leaveBlk_sound (hr : Rel w0 Φ0 own0 N w Φ (fun _ => none) .empty a) {ex : Exit} {bs : List Nat} (hnd : bs.Nodup) (hown : ∀ b, b ∈ bs → own0 b ∨ w0.heap.size ≤ b) {k : Ex → St → Option R} {r : R} {Q : Prop}
    (hk : ∀ e s β, Rel w0 Φ0 own0 N w Φ β s a → k e s = some r → ex = e.toExit → Q) : ∀ {l : List (Ex × List Nat × List Sh)} {y : (exitsT l).denote}, ExitV w Φ ex a bs l y → leaveBlk l y k = some r → Q
  | [], y, h, _ => h.elim
  | [(e, slots, shs)], y, ⟨h1, h2⟩, h => by
    obtain ⟨β', g⟩ := mkSt_sound hr h2 hnd hown
    exact hk e _ β' g h h1
  | (e, slots, shs) :: b :: r', y, hv, h => by
    cases y with
    | inl d =>
      obtain ⟨h1, h2⟩ := hv
      obtain ⟨β', g⟩ := mkSt_sound hr h2 hnd hown
      exact hk e _ β' g h h1
    | inr y' => exact leaveBlk_sound hr hnd hown hk (l := b :: r') hv h

theorem enterBlk_sound {κ : Nat} {c : Code} (hb : BlkOk P cx N.n κ c) (hfx : ∀ t v, N.fix t = some v → Bound [t] N.n c = true) {k : Ex → St → Option R} {r : R} {Q : Exit → Act → World → Prop} (hr : Rel w0 Φ0 own0 N w Φ β s a)
    (hk : ∀ e s' a' w' Φ' β', Rel w0 Φ0 own0 N w' Φ' β' s' a' → k e s' = some r → Q e.toExit a' w') (h : enterBlk cx κ s k = some r) : c.wp P Q a w := by
  unfold enterBlk at h
  split at h
  case h_2 => cases h
  rename_i vs hvs
  split at h
  case h_2 => cases h
  rename_i d s1 ids hpk
  cases hy : cx.rb κ d with
  | none => rw [hy] at h; cases h
  | some y =>
  rw [hy] at h
  simp only [Option.bind_some] at h
  obtain ⟨Φ1, bs, g1, g2, g3⟩ := packAll_sound hr (lookAll_sound hr hvs) hpk
  have hbs : ∀ b, b ∈ bs → own0 b ∨ w0.heap.size ≤ b := fun b hb => by
    obtain ⟨id, ob, p, k1, k2, k3⟩ := g2.mem b hb
    exact hr.own id ob b p k1 k2 k3
  have hblt : ∀ b, b ∈ bs → b < w.heap.size := fun b hb => by
    obtain ⟨id, ob, p, k1, k2, k3⟩ := g2.mem b hb
    exact hr.hp.blt _ _ _ k3
  refine wp_mono (hb d y hy w Φ1 a bs N.fix hfx g1.fix g1.size g1.defers g3 g2.nodup (fun b hb => ⟨g2.nf b hb, hblt b hb⟩) g1.hp.flt) fun ex a' w' ⟨h1, hf1, h2, Φ', bs', h3, h4⟩ => ?_
  have hB := (g1.behind h4 g2.out g2.nf hbs).bare h1 hf1 h2
  exact leaveBlk_sound hB h4.nodup (fun b hb => by
    rcases h4.mem b hb with g | g
    · exact hbs b g
    · exact .inr (Nat.le_trans hr.same.size g)) (fun e s β' hr' hk' he => by rw [he]; exact hk e s a' w' Φ' β' hr' hk') h3 h

theorem loopU_sound {c : Code} {k : Ex → St → Option R} {r : R} {Q : Exit → Act → World → Prop}
    (hbody : ∀ (k : Ex → St → Option R) (Q : Exit → Act → World → Prop) {w : World} {Φ : Nat → Prop} {β : Loc} {s : St} {a : Act}, Rel w0 Φ0 own0 N w Φ β s a →
      (∀ e s' a' w' Φ' β', Rel w0 Φ0 own0 N w' Φ' β' s' a' → k e s' = some r → Q e.toExit a' w') → ev cx lk tk c s k = some r → c.wp P Q a w)
    (hk : ∀ e s' a' w' Φ' β', Rel w0 Φ0 own0 N w' Φ' β' s' a' → k e s' = some r → Q e.toExit a' w') : ∀ (n : Nat) {w : World} {Φ : Nat → Prop} {β : Loc} {s : St} {a : Act}, Rel w0 Φ0 own0 N w Φ β s a →
    loopU (ev cx lk tk c) n s k = some r → Code.rounds P c Q n a w
  | 0, w, Φ, β, s, a, hr, h => by simp [loopU] at h
  | n + 1, w, Φ, β, s, a, hr, h => by
    simp only [loopU] at h
    rw [rounds_succ]
    refine hbody _ _ hr (fun e s' a' w' Φ' β' hr' h' => ?_) h
    cases e with
    | norm => exact loopU_sound hbody hk n hr' h'
    | out id => exact hk (.out id) s' a' w' Φ' β' hr' h'
    | ret => exact hk .ret s' a' w' Φ' β' hr' h'

def FixOk (N : Frm) (c : Code) : Prop := ∀ t v, N.fix t = some v → Bound [t] N.n c = true

theorem Bound_seq {fx : List Nat} {n : Nat} {x y : Code} (h : Bound fx n (.seq x y) = true) : Bound fx n x = true ∧ Bound fx n y = true := by simpa [Bound] using h
theorem Bound_cond {fx : List Nat} {n : Nat} {o : Operand} {x y : Code} (h : Bound fx n (.cond o x y) = true) : Bound fx n x = true ∧ Bound fx n y = true := by simpa [Bound] using h
theorem Bound_nil {fx : List Nat} {n : Nat} : ∀ (c : Code), Bound fx n c = true → Bound [] n c = true
  | .region _ ops _, h => by
    simp only [Bound, List.all_eq_true] at *
    intro o ho
    have := h o ho
    cases hd : o.dst with
    | none => rfl
    | some d =>
      rw [hd] at this
      simp only [Bool.and_eq_true] at *
      exact ⟨this.1, rfl⟩
  | .seq a b, h => by simp only [Bound, Bool.and_eq_true] at *; exact ⟨Bound_nil a h.1, Bound_nil b h.2⟩
  | .cond _ a b, h => by simp only [Bound, Bool.and_eq_true] at *; exact ⟨Bound_nil a h.1, Bound_nil b h.2⟩
  | .block _ c, h => Bound_nil c h
  | .loop c, h => Bound_nil c h
  | .skip, _ => rfl
  | .exit _, _ => rfl
  | .ret, _ => rfl
  | .rangeFunc _ _ _ _, _ => rfl
  | .scope _, _ => rfl
  | .label _, _ => rfl
  | .goto _, _ => rfl
  | .refuse _, _ => rfl

theorem ev_sound (hok : AllOk P cx) : ∀ (c : Code) {k : Ex → St → Option R} {r : R} {Q : Exit → Act → World → Prop} {w : World} {Φ : Nat → Prop} {β : Loc} {s : St} {a : Act}, Bound [] N.n c = true → FixOk N c → Hints P cx N.n lk tk c →
    Rel w0 Φ0 own0 N w Φ β s a → (∀ e s' a' w' Φ' β', Rel w0 Φ0 own0 N w' Φ' β' s' a' → k e s' = some r → Q e.toExit a' w') → ev cx lk tk c s k = some r → c.wp P Q a w
  | .skip, k, r, Q, w, Φ, β, s, a, _, _, _, hr, hk, h => wp_skip (hk .norm _ _ _ _ _ hr h)
  | .region id ops false, k, r, Q, w, Φ, β, s, a, hb, hf, _, hr, hk, h => by
    refine wp_region ?_
    have := evOps_sound (Q := Q) hok (ops := ops) (fun o ho d hd => by
      have := List.all_eq_true.1 hb o ho
      simp only [hd, Bool.and_eq_true] at this
      refine ⟨by rw [← Nat.blt_eq]; exact this.1, ?_⟩
      cases hfd : N.fix d with
      | none => rfl
      | some v =>
        have := List.all_eq_true.1 (hf d v hfd) o ho
        simp [hd, fresh] at this) (fun s' a' w' Φ' β' hr' h' => hk .norm s' a' w' Φ' β' hr' h') ops.toList 0 (fun j => by simp) hr h
    rwa [Array.length_toList, ← List.range_eq_range'] at this
  | .region id ops true, k, r, Q, w, Φ, β, s, a, hb, hf, _, hr, hk, h => by simp [ev] at h
  | .seq x y, k, r, Q, w, Φ, β, s, a, hb, hf, hh, hr, hk, h => by
    simp only [Bound, Bool.and_eq_true] at hb
    simp only [ev] at h
    refine wp_seq (ev_sound hok x hb.1 (fun t v h => (Bound_seq (hf t v h)).1) hh.1 hr (fun e s' a' w' Φ' β' hr' h' => ?_) h)
    cases e with
    | norm =>
      have hh2 := hh.2
      show y.wp P Q a' w'
      simp only at h'
      split at h'
      · rename_i κ hκ
        rw [hκ] at hh2
        exact enterBlk_sound hh2 (fun t v h => (Bound_seq (hf t v h)).2) hr' hk h'
      · rename_i hκ
        rw [hκ] at hh2
        exact ev_sound hok y hb.2 (fun t v h => (Bound_seq (hf t v h)).2) hh2 hr' hk h'
    | out id => exact hk (.out id) s' a' w' Φ' β' hr' h'
    | ret => exact hk .ret s' a' w' Φ' β' hr' h'
  | .cond c x y, k, r, Q, w, Φ, β, s, a, hb, hf, hh, hr, hk, h => by
    simp only [Bound, Bool.and_eq_true] at hb
    simp only [ev] at h
    split at h
    case h_2 => cases h
    rename_i t hc
    have hcv : a.eval c = .bool t := hr.eval hc
    refine wp_cond hcv ?_
    cases t with
    | true => exact ev_sound hok x hb.1 (fun t v h => (Bound_cond (hf t v h)).1) hh.1 hr hk h
    | false => exact ev_sound hok y hb.2 (fun t v h => (Bound_cond (hf t v h)).2) hh.2 hr hk h
  | .block id c, k, r, Q, w, Φ, β, s, a, hb, hf, hh, hr, hk, h => by
    simp only [ev] at h
    simp only [Hints] at hh
    split at h
    · rename_i κ hκ
      rw [hκ] at hh
      exact enterBlk_sound hh hf hr hk h
    · rename_i hκ
      rw [hκ] at hh
      refine wp_block (ev_sound hok c hb hf hh hr (fun e s' a' w' Φ' β' hr' h' => ?_) h)
      cases e with
      | norm => exact hk .norm s' a' w' Φ' β' hr' h'
      | ret => exact hk .ret s' a' w' Φ' β' hr' h'
      | out id' =>
        show (if id' = id then Q .normal a' w' else Q (.exit id') a' w')
        simp only at h'
        cases hbq : Nat.beq id' id with
        | true => rw [hbq] at h'; rw [if_pos (Nat.eq_of_beq_eq_true hbq)]; exact hk .norm s' a' w' Φ' β' hr' h'
        | false => rw [hbq] at h'; rw [if_neg (fun e => by rw [e, Nat.beq_refl] at hbq; cases hbq)]; exact hk (.out id') s' a' w' Φ' β' hr' h'
  | .loop c, k, r, Q, w, Φ, β, s, a, hb, hf, hh, hr, hk, h => by
    simp only [ev] at h
    exact wp_loop_rounds 16 (loopU_sound (fun k Q {w Φ β s a} hr hk h => ev_sound hok c hb hf hh hr hk h) hk 16 hr h)
  | .exit id, k, r, Q, w, Φ, β, s, a, _, _, _, hr, hk, h => wp_exit (hk (.out id) _ _ _ _ _ hr h)
  | .ret, k, r, Q, w, Φ, β, s, a, _, _, _, hr, hk, h => wp_ret (hk .ret _ _ _ _ _ hr h)
  | .rangeFunc _ _ _ _, k, r, Q, w, Φ, β, s, a, _, _, _, hr, hk, h => by simp [ev] at h
  | .scope _, k, r, Q, w, Φ, β, s, a, _, _, _, hr, hk, h => by simp [ev] at h
  | .label _, k, r, Q, w, Φ, β, s, a, _, _, _, hr, hk, h => by simp [ev] at h
  | .goto _, k, r, Q, w, Φ, β, s, a, _, _, _, hr, hk, h => by simp [ev] at h
  | .refuse _, k, r, Q, w, Φ, β, s, a, _, _, _, hr, hk, h => by simp [ev] at h

end
end Go.Bm
