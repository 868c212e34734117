import Derived.Test.YtlobhcgbmpcdlaaGreatDoorBmD
import Derived.LoopN
import Derived.OrdersHeld
import Derived.Test.YtlobhcgbmpcdlaaGreatDoorBmA
import Derived.Test.YtlobhcgbmpcdlaaGreatDoorBmB
section
open Option (bind_some)
open Bool (and_eq_true)
namespace Go.Bm
set_option linter.unusedVariables false
set_option linter.unusedSimpArgs false
def Ex.a0m : Ex → Exit
 | .norm => .normal
 | .out id => .exit id
 | .ret => .ret
def Y4 (a : Act) (slots : List Nat) : List Value := slots.map fun t => a.tmps.getD t undef
def ExR (K : Ex → List Nat → Tm → List Dyn → Prop) : (l : List (Ex × List Nat × Tm)) → (G7 l).denote → Prop
 | [], _ => False
 | [(e, slots, T')], y => K e slots T' (m4 T'.cts y)
 | (e, slots, T') :: b :: r, y => match y with
   | .inl a => K e slots T' (m4 T'.cts a)
   | .inr c => ExR K (b :: r) c
theorem ExR.mono {K K' : Ex → List Nat → Tm → List Dyn → Prop} (h : ∀ e l T ds, K e l T ds → K' e l T ds) : ∀ {l : List (Ex × List Nat × Tm)} {y : (G7 l).denote}, ExR K l y → ExR K' l y
 | [], _, g => g
 | [(e, slots, T')], y, g => h _ _ _ _ g
 | (e, slots, T') :: b :: r, .inl a, g => h _ _ _ _ g
 | (e, slots, T') :: b :: r, .inr c, g => ExR.mono h (l := b :: r) g
def fresh (fx : List Nat) (d : Nat) : Bool := fx.all fun t => !Nat.beq t d
def p7 (fx : List Nat) (n : Nat) : Code → Bool
 | .region _ ops _ => ops.toList.all fun o => match o.dst with
   | some d => Nat.blt d n && fresh fx d
   | none => true
 | .seq a b => p7 fx n a && p7 fx n b
 | .cond _ a b => p7 fx n a && p7 fx n b
 | .block _ c => p7 fx n c
 | .loop c => p7 fx n c
 | _ => true
def a7N (cx : Cx) (κ n : Nat) (fix : Nat → Option Value) (w : World) (Φ : Nat → Prop) (γ : Loc) (ds : List Dyn) (y : (G7 (cx.bk κ).exits).denote) (ex : Exit) (a' : Act) (w' : World) : Prop :=
 a'.tmps.size = n ∧ (∀ t v, fix t = some v → a'.tmps.getD t undef = v) ∧ a'.defers = [] ∧
  ∃ Φ' γ', ExR (fun e slots T' ds' => ex = e.a0m ∧ InstR w' Φ' T' ds' (Y4 a' slots) γ' ∧ PostR w Φ γ (cx.bk κ).ins ds w' Φ' γ' T' ds') (cx.bk κ).exits y
def b0q (cx : Cx) (n κ : Nat) (c : Code) (run : (Exit → Act → World → Prop) → Act → World → Prop) : Prop := ∀ d y, cx.rb κ d = some y → ∀ (w : World) (Φ : Nat → Prop) (a : Act) (γ : Loc) (fix : Nat → Option Value),
 (∀ t v, fix t = some v → p7 [t] n c = true) → (∀ t v, fix t = some v → a.tmps.getD t undef = v) → a.tmps.size = n → a.defers = [] →
 cx.gp w Φ → InstR w Φ (cx.bk κ).ins (m4 (cx.bk κ).ins.cts d) (Y4 a (cx.bk κ).slots) γ → run (a7N cx κ n fix w Φ γ (m4 (cx.bk κ).ins.cts d) y) a w
def a5O (P : Program) (cx : Cx) (n κ : Nat) (c : Code) : Prop := b0q cx n κ c (fun Q a w => c.wp P Q a w)
def a6L : OrdT → List Nat
 | .only i _ => [i]
 | .alt i _ r => i :: a6L r
 | _ => []
def M8 (ops : Array Oper) : Bool → Nat → Array Bool → OrdT → Bool
 | m, _, listed, .done => m && (Region.ready .any ops listed).isEmpty
 | m, n + 1, listed, .take i t => m && (Region.free .any ops listed i && ((Region.ready .any ops listed).contains i && M8 ops true n (listed.setIfInBounds i true) t))
 | m, n + 1, listed, .only i t => (!m || ((Region.ready .any ops listed).contains i && (Region.ready .any ops listed).all fun j => Nat.beq j i)) && M8 ops true n (listed.setIfInBounds i true) t
 | m, n + 1, listed, .alt i t r => (!m || ((Region.ready .any ops listed).contains i && (Region.ready .any ops listed).all fun j => has (a6L (.alt i t r)) j)) &&
    (M8 ops true n (listed.setIfInBounds i true) t && M8 ops false (n + 1) listed r)
 | _, 0, _, _ => false
def Hints (P : Program) (cx : Cx) (n : Nat) (H : Hn) : Code → Prop
 | .seq a b => Hints P cx n H a ∧ (match (B6 b).bind H.tk with
   | some κ => a5O P cx n κ b ∧ ∀ t ∈ (cx.bk κ).keep, p7 [t] n b = true
   | none => Hints P cx n H b)
 | .block id c => match H.lk id with
   | some κ => a5O P cx n κ (.block id c) ∧ ∀ t ∈ (cx.bk κ).keep, p7 [t] n c = true
   | none => Hints P cx n H c
 | .cond _ a b => Hints P cx n H a ∧ Hints P cx n H b
 | .loop c => Hints P cx n H c
 | .region id ops true => ∀ slots t, H.dk id = some (slots, t) → Region.noSelect ops = true ∧ M8 ops true ops.size (Array.replicate ops.size false) t = true
 | _ => True
structure AllOk (P : Program) (cx : Cx) : Prop where
 ok : CxOk P cx
 fn : ∀ f, ∀ φ ∈ cx.keys f, b9a P cx f φ
 mixed : P.follows .mixedOrders = true
 gpm : a3W cx.gp
 gvo : ∀ w Φ, cx.gp w Φ → GvR cx.gv w Φ
section
variable {P : Program} {R : Type} {w0 : World} {Φ0 own0 : Nat → Prop} {N : Frm} {w w' : World} {Φ Φ' : Nat → Prop} {β β' : Loc} {s s' : St} {a a' : Act} {hp : List (Nat × SObj)}
variable {cx : Cx} {H : Hn}
theorem a5v [hG : GlobR cx.gp w0 Φ0 own0] (hok : AllOk P cx) {o : Oper} {next : Act → World → Prop} {Q : Exit → Act → World → Prop} {k : St → Option R} {r : R} (hr : Rel w0 Φ0 own0 N w Φ β s a) (hN : ∀ d, o.dst = some d → N.ok d)
  (hk : ∀ s' a' w' Φ' β', Rel w0 Φ0 own0 N w' Φ' β' s' a' → k s' = some r → next a' w') (h : j0 cx o s k = some r) : o.wp P a w next Q := by
 cases ho : o.op with
 | move x => exact a9k hr hN hk (.inl ho) h
 | assign x => exact a9k hr hN hk (.inr ho) h
 | pick c x y => exact b5w hr hN hk ho h
 | alloc t => exact b2P hok.ok hr hN hk ho h
 | box t x => exact b8Q hok.ok hr hN hk ho h
 | build t ps => exact b2Q hok.ok hr hN hk ho h
 | buildSlice t n ps => exact a5E hok.ok hr hN hk ho h
 | load t x => exact b5v hok.ok hr hN hk ho (hok.gvo _ _ (hG.get hr)) h
 | store t x y => exact b2V hok.ok hr hN hk ho h
 | nilCheck x => exact a8f hr hN hk ho h
 | binOp op t x y t' => exact b8P hok.ok hr hN hk ho h
 | unOp op t x => exact c1B hr hN hk ho h
 | convert t d x => exact b0d hok.ok hr hN hk ho h
 | makeSlice t l c => exact a7C hok.ok hr hN hk ho h
 | slice t x lo hi mx =>
   cases mx with
   | none => exact b2U hok.ok hr hN hk ho h
   | some m =>
     cases lo with
     | some _ => simp [j0, ho] at h
     | none =>
       cases hi with
       | none => simp [j0, ho] at h
       | some y => exact (a9U hok.ok hr ho h).wp hr trivial hN hk
 | fieldAddr t x f => exact a7z hok.ok hr hN hk ho h
 | field t x f => exact b2S hok.ok hr hN hk ho h
 | indexAddr t x i => exact a7A hok.ok hr hN hk ho h
 | index t x i => exact b2T hok.ok hr hN hk ho h
 | extract x i => exact b0e hr hN hk ho h
 | makeMap t m =>
   cases m with
   | none => exact b0f hok.ok hr hN hk ho h
   | some m => simp [j0, ho] at h
 | lookup t x i b => exact b1J hok.ok hr hN hk ho h
 | mapUpdate t x i y => exact a1x hok.ok hr hN hk (.inl ho) h
 | insert t x i y => exact a1x hok.ok hr hN hk (.inr ho) h
 | makeFunc fn x y =>
   cases fn with
   | func f => exact a8e hr hN hk ho h
   | _ => simp [j0, ho] at h
 | makeInterface t x => exact (a5A hok.ok hr ho h).wp hr trivial hN hk
 | typeAssert x t2 t b =>
   cases b with
   | false => exact (a9S hok.ok hr ho h).wp hr trivial hN hk
   | true => simp [j0, ho] at h
 | call c =>
   cases hc : c.callee with
   | value x => exact b5t hok.fn hr hN hk ho hc h
   | invoke r m => exact b1I hok.ok hok.fn hr hN hk ho hc h
   | builtin b =>
     cases b with
     | len => exact b8R hok.ok hr hN hk ho hc h
     | append => exact step_append hok.ok hr hN hk ho hc h
     | clear => exact b2R hok.ok hr hN hk ho hc h
     | delete => exact b1H hok.ok hr hN hk ho hc h
     | copy => exact b5u hok.ok hr hN hk ho hc h
     | max => exact b1K hr hN hk ho (.inl hc) h
     | min => exact b1K hr hN hk ho (.inr hc) h
     | _ => simp [j0, ho, hc] at h
 | _ => simp [j0, ho] at h
theorem getD_some {a : Act} {d : Nat} {v : Value} (h : a.tmps.getD d undef = v) (hd : d < a.tmps.size) : a.tmps[d]? = some v := by
 simp [Array.getD, hd] at h
 simp [hd, h]
theorem a7v (hr : Rel w0 Φ0 own0 N w Φ β s a) {d : Nat} {v : SVal} (hv : SVR w Φ β s.heap v (a.tmps.getD d undef)) : Rel w0 Φ0 own0 N w Φ β (s.set (some d) v) a := by
 refine ⟨fun t u hu => ?_, ⟨hr.hp.ob, hr.hp.lt, hr.hp.hlt, hr.hp.inj, hr.hp.blt, hr.hp.flt, hr.hp.rin, hr.hp.rinj⟩, hr.own, hr.same, hr.fri, hr.fro, hr.size, hr.fix, hr.defers, hr.hold, hr.keep, hr.rown⟩
 simp only [St.set, j5] at hu
 split at hu
 · rename_i e; subst e; cases hu; exact hv
 · exact hr.env t u hu
theorem a0T [hG : GlobR cx.gp w0 Φ0 own0] (hok : AllOk P cx) {ops : Array Oper} {Q : Exit → Act → World → Prop} {k : St → Option R} {r : R} (hN : ∀ o ∈ ops.toList, ∀ d, o.dst = some d → N.ok d)
  (hk : ∀ s' a' w' Φ' β', Rel w0 Φ0 own0 N w' Φ' β' s' a' → k s' = some r → Q .normal a' w') : ∀ (l : List Oper) (i : Nat) {w : World} {Φ : Nat → Prop} {β : Loc} {s : St} {a : Act}, (∀ j, l[j]? = ops[i + j]?) →
  Rel w0 Φ0 own0 N w Φ β s a → H9 cx ops.toList l s k = some r → wpOps P ops Q (List.range' i l.length) a w
 | [], i, w, Φ, β, s, a, _, hr, h => by simp only [H9] at h; simpa [wpOps] using hk _ _ _ _ _ hr h
 | o :: l, i, w, Φ, β, s, a, hl, hr, h => by
   have hoi : ops[i]? = some o := by have := hl 0; simpa using this.symm
   have hl' : ∀ j, l[j]? = ops[i + 1 + j]? := fun j => by have := hl (j + 1); rw [show i + 1 + j = i + (j + 1) by omega]; simpa using this
   have hmem : o ∈ ops.toList := by rw [← Array.getElem?_toList] at hoi; exact List.mem_of_getElem? hoi
   have hoN := hN o hmem
   have yes : ∀ {s1 : St}, Rel w0 Φ0 own0 N w Φ β s1 a → (j0 cx o s1 fun s' => H9 cx ops.toList l s' k) = some r → o.wp P a w (wpOps P ops Q (List.range' (i + 1) l.length)) Q := fun hr1 h1 =>
    a5v hok hr1 hoN (fun s' a' w' Φ' β' hr' h' => a0T hok hN hk l (i + 1) hl' hr' h') h1
   have no : ∀ {s1 : St}, Rel w0 Φ0 own0 N w Φ β s1 a → H9 cx ops.toList l (s1.set o.dst .skip) k = some r → wpOps P ops Q (List.range' (i + 1) l.length) (a.put o.dst undef) w := fun hr1 h1 =>
    a0T hok hN hk l (i + 1) hl' (hr1.set (sv := .skip) (v := undef) rfl hoN) h1
   simp only [List.length_cons, List.range'_succ, wpOps, hoi]
   simp only [H9] at h
   split at h
   · rename_i hg
     have hw : Region.wanted o (yielded ops a.tmps) = true := by simp [Region.wanted, hg]
     rw [if_pos hw]
     exact .inl (yes hr h)
   · rename_i j want hg
     split at h
     case h_2 => cases h
     rename_i d hd
     rw [nth_getElem?, Array.getElem?_toList] at hd
     split at h
     · rename_i b hb
       have hv : a.tmps.getD d undef = .bool b := hr.env d _ hb
       have hdl : d < a.tmps.size := by
        rcases Nat.lt_or_ge d a.tmps.size with g | g
        · exact g
        · have : a.tmps.getD d undef = undef := by simp [Array.getD, Nat.not_lt.2 g]
          rw [this] at hv; cases hv
       have hy : yielded ops a.tmps j = some b := by
        simp only [yielded, hd, bind_some, getD_some hv hdl]
       have hw : Region.wanted o (yielded ops a.tmps) = (some b == some want) := by simp only [Region.wanted, hg, hy]
       have hs1 : Rel w0 Φ0 own0 N w Φ β (s.set (some d) (.one (.bool b))) a := a7v hr (by rw [hv]; rfl)
       cases b <;> cases want <;> simp only [R9, cond_true, cond_false] at h <;> rw [hw]
       · rw [if_pos (by rfl)]; exact .inl (yes hs1 h)
       · rw [if_neg (by decide)]; exact no hs1 h
       · rw [if_neg (by decide)]; exact no hs1 h
       · rw [if_pos (by rfl)]; exact .inl (yes hs1 h)
     · rename_i hb
       have hv : a.tmps.getD d undef = undef := hr.env d _ hb
       have hy : yielded ops a.tmps j = none := by
        simp only [yielded, hd, bind_some]
        rcases Nat.lt_or_ge d a.tmps.size with g | g
        · rw [getD_some hv g]; rfl
        · rw [Array.getElem?_eq_none g]
       have hw : Region.wanted o (yielded ops a.tmps) = false := by simp only [Region.wanted, hg, hy]; rfl
       rw [hw]
       exact no hr h
     · cases h
theorem I4 (hr : Rel w0 Φ0 own0 N w Φ β s a) : ∀ {slots : List Nat} {vs : List SVal}, N9 s.env slots = some vs → F2 w Φ β s.heap vs (Y4 a slots)
 | [], vs, h => by simp [N9] at h; subst h; rfl
 | n :: r, vs, h => by
   simp only [N9] at h
   split at h
   · rename_i x y h1 h2; cases h; exact ⟨_, _, rfl, hr.env n x h1, I4 hr h2⟩
   · cases h
theorem a1a {T : Tm} {ρ : Rho} {keep : List Nat} {K : Ex → List Nat → Tm → List Dyn → Prop} {k : Ex → St → Option R} {r : R} : ∀ {l : List (Ex × List Nat × Tm)} {y : (G7 l).denote}, ExR K l y → X2 T ρ keep s l y k = some r →
  ∃ e slots T' ds', K e slots T' ds' ∧ k e (a2V T ρ keep slots T' ds' s) = some r
 | [], _, g, _ => g.elim
 | [(e, slots, T')], y, g, h => ⟨_, _, _, _, g, h⟩
 | (e, slots, T') :: b :: r', .inl x, g, h => ⟨_, _, _, _, g, h⟩
 | (e, slots, T') :: b :: r', .inr x, g, h => a1a (l := b :: r') g (by simpa only [X2] using h)
theorem Z9 {env : List (Nat × SVal)} : ∀ {l : List Nat} {t : Nat} {v : SVal}, look (a3q env l) t = some v → t ∈ l ∧ look env t = some v
 | [], t, v, h => by cases h
 | x :: r, t, v, h => by
   simp only [a3q] at h
   split at h
   · rename_i u hu
     rw [j5] at h
     split at h
     · rename_i e; subst e; cases h; exact ⟨by simp, hu⟩
     · obtain ⟨h1, h2⟩ := Z9 h; exact ⟨List.mem_cons_of_mem _ h1, h2⟩
   · obtain ⟨h1, h2⟩ := Z9 h; exact ⟨List.mem_cons_of_mem _ h1, h2⟩
theorem a3h [hG : GlobR cx.gp w0 Φ0 own0] {κ : Nat} {c : Code} {run : (Exit → Act → World → Prop) → Act → World → Prop} (hmono : ∀ {Q Q' : Exit → Act → World → Prop}, (∀ e a w, Q e a w → Q' e a w) → ∀ a w, run Q a w → run Q' a w) (hb : b0q cx N.n κ c run) (hkeep : ∀ t ∈ (cx.bk κ).keep, p7 [t] N.n c = true) (hfx : ∀ t v, N.fix t = some v → p7 [t] N.n c = true) {k : Ex → St → Option R} {r : R} {Q : Exit → Act → World → Prop} (hr : Rel w0 Φ0 own0 N w Φ β s a)
  (hk : ∀ e s' a' w' Φ' β', Rel w0 Φ0 own0 N w' Φ' β' s' a' → k e s' = some r → Q e.a0m a' w') (h : I2 cx κ s k = some r) : run Q a w := by
 unfold I2 at h
 split at h
 case h_2 => cases h
 rename_i vs hvs
 split at h
 case h_2 => cases h
 rename_i d ρ s1 hpk
 obtain ⟨y, hy, h⟩ := Option.bind_eq_some_iff.1 h
 unfold a2G at hpk
 obtain ⟨hng, hpk⟩ := g8 hpk
 obtain ⟨Φ1, β1, hP⟩ := J5 hr (I4 hr hvs) hpk
 let fix : Nat → Option Value := fun t => if t ∈ (cx.bk κ).keep then some (a.tmps.getD t undef) else N.fix t
 have hfix : ∀ t v, fix t = some v → p7 [t] N.n c = true := by
  intro t v hv
  simp only [fix] at hv
  split at hv
  · rename_i hm; exact hkeep t hm
  · exact hfx t v hv
 have hfix2 : ∀ t v, fix t = some v → a.tmps.getD t undef = v := by
  intro t v hv
  simp only [fix] at hv
  split at hv
  · cases hv; rfl
  · exact hr.fix t v hv
 refine hmono (fun ex a' w' ⟨h1, hf1, h2, Φ', γ', h3⟩ => ?_) _ _ (hb d y hy w Φ1 a _ fix hfix hfix2 hr.size hr.defers (hG.get hP.rel) hP.inst)
 obtain ⟨e, slots, T', ds', ⟨he, hi, hpost⟩, hkk⟩ := a1a h3 h
 obtain ⟨β', k1, k2, k3⟩ := Rel.back hP hng hi hpost
 have ha : ∀ t, t ∈ (cx.bk κ).keep → a'.tmps.getD t undef = a.tmps.getD t undef := fun t ht => hf1 t _ (by simp only [fix]; rw [if_pos ht])
 have hfin : ∀ t v, N.fix t = some v → a'.tmps.getD t undef = v := by
  intro t v hv
  by_cases ht : t ∈ (cx.bk κ).keep
  · rw [ha t ht]; exact hr.fix t v hv
  · exact hf1 t v (by simp only [fix]; rw [if_neg ht]; exact hv)
 rw [he]
 refine hk e (a2V (cx.bk κ).ins ρ (cx.bk κ).keep slots T' ds' s1) a' w' Φ' β' ⟨?_, ⟨k1.hp.ob, k1.hp.lt, k1.hp.hlt, k1.hp.inj, k1.hp.blt, k1.hp.flt, k1.hp.rin, k1.hp.rinj⟩, k1.own, k1.same, k1.fri, k1.fro, h1, hfin, h2, k1.hold, k1.keep, k1.rown⟩ hkk
 intro t v hv
 simp only [a2V, S5] at hv
 split at hv
 · rename_i x hx
   cases hv
   exact a6W (vs := []) k3 t _ hx
 · obtain ⟨g1, g2⟩ := Z9 hv
   rw [ha t g1]
   exact k1.env t v g2
theorem a5b {c : Code} {k : Ex → St → Option R} {r : R} {Q : Exit → Act → World → Prop}
  (hbody : ∀ (k : Ex → St → Option R) (Q : Exit → Act → World → Prop) {w : World} {Φ : Nat → Prop} {β : Loc} {s : St} {a : Act}, Rel w0 Φ0 own0 N w Φ β s a →
    (∀ e s' a' w' Φ' β', Rel w0 Φ0 own0 N w' Φ' β' s' a' → k e s' = some r → Q e.a0m a' w') → ev cx H c s k = some r → c.wp P Q a w)
  (hk : ∀ e s' a' w' Φ' β', Rel w0 Φ0 own0 N w' Φ' β' s' a' → k e s' = some r → Q e.a0m a' w') : ∀ (n : Nat) {w : World} {Φ : Nat → Prop} {β : Loc} {s : St} {a : Act}, Rel w0 Φ0 own0 N w Φ β s a →
  a3v (ev cx H c) n s k = some r → Code.rounds P c Q n a w
 | 0, w, Φ, β, s, a, hr, h => by simp [a3v] at h
 | n + 1, w, Φ, β, s, a, hr, h => by
   simp only [a3v] at h
   rw [rounds_succ]
   refine hbody _ _ hr (fun e s' a' w' Φ' β' hr' h' => ?_) h
   cases e with
   | norm => exact a5b hbody hk n hr' h'
   | out id => exact hk (.out id) s' a' w' Φ' β' hr' h'
   | ret => exact hk .ret s' a' w' Φ' β' hr' h'
def c6A (N : Frm) (c : Code) : Prop := ∀ t v, N.fix t = some v → p7 [t] N.n c = true
theorem a3V {fx : List Nat} {n : Nat} {x y : Code} (h : p7 fx n (.seq x y) = true) : p7 fx n x = true ∧ p7 fx n y = true := by simpa [p7] using h
theorem Z0 {fx : List Nat} {n : Nat} {o : Operand} {x y : Code} (h : p7 fx n (.cond o x y) = true) : p7 fx n x = true ∧ p7 fx n y = true := by simpa [p7] using h
theorem a0S [hG : GlobR cx.gp w0 Φ0 own0] {κ : Nat} {c : Code} (hb : a5O P cx N.n κ c) (hkeep : ∀ t ∈ (cx.bk κ).keep, p7 [t] N.n c = true) (hfx : ∀ t v, N.fix t = some v → p7 [t] N.n c = true) {k : Ex → St → Option R} {r : R} {Q : Exit → Act → World → Prop} (hr : Rel w0 Φ0 own0 N w Φ β s a)
  (hk : ∀ e s' a' w' Φ' β', Rel w0 Φ0 own0 N w' Φ' β' s' a' → k e s' = some r → Q e.a0m a' w') (h : I2 cx κ s k = some r) : c.wp P Q a w :=
 a3h (run := fun Q a w => c.wp P Q a w) (fun hq _ _ g => wp_mono g hq) hb hkeep hfx hr hk h
end
def b4f (w : World) (β : Loc) (s : St) (b : Nat) : Prop := (∃ id ob p, look s.heap id = some ob ∧ ob.owned = true ∧ β id = some (some (b, p)) ∧ s.held id = false) ∨ ∃ id ob, look s.heap id = some ob ∧ E2 w β id ob b ∧ s.held id = false
def Fut (w : World) (β : Loc) (s : St) (w' : World) : Prop := Same w (b4f w β s) w'
section
variable {P : Program} {R : Type} {w0 : World} {Φ0 own0 : Nat → Prop} {N : Frm} {w w' : World} {Φ Φ' : Nat → Prop} {β β' : Loc} {s s' : St} {a a' : Act}
variable {cx : Cx}
theorem a4S [hG : GlobR cx.gp w0 Φ0 own0] (hok : AllOk P cx) {ops : Array Oper} {i : Nat} {o : Oper} (hoi : ops[i]? = some o) (hN : ∀ d, o.dst = some d → N.ok d) {K : Act → World → Prop} {Q : Exit → Act → World → Prop} {k : St → Option R} {r : R}
  (hr : Rel w0 Φ0 own0 N w Φ β s a) (hk : ∀ s' a' w' Φ' β', Rel w0 Φ0 own0 N w' Φ' β' s' a' → k s' = some r → K a' w') (h : a4R cx ops.toList o s k = some r) : wpOp P ops Q i K a w := by
 have yes : ∀ {s1 : St}, Rel w0 Φ0 own0 N w Φ β s1 a → j0 cx o s1 k = some r → o.wp P a w K Q := fun hr1 h1 => a5v hok hr1 hN hk h1
 have no : ∀ {s1 : St}, Rel w0 Φ0 own0 N w Φ β s1 a → k (s1.set o.dst .skip) = some r → K (a.put o.dst undef) w := fun hr1 h1 => hk _ _ _ _ _ (hr1.set (sv := .skip) (v := undef) rfl hN) h1
 unfold wpOp
 simp only [hoi]
 unfold a4R at h
 split at h
 · rename_i hg
   have hw : Region.wanted o (yielded ops a.tmps) = true := by simp [Region.wanted, hg]
   rw [if_pos hw]
   exact .inl (yes hr h)
 · rename_i j want hg
   split at h
   case h_2 => cases h
   rename_i d hd
   rw [nth_getElem?, Array.getElem?_toList] at hd
   split at h
   · rename_i b hb
     have hv : a.tmps.getD d undef = .bool b := hr.env d _ hb
     have hdl : d < a.tmps.size := by
      rcases Nat.lt_or_ge d a.tmps.size with g | g
      · exact g
      · have : a.tmps.getD d undef = undef := by simp [Array.getD, Nat.not_lt.2 g]
        rw [this] at hv; cases hv
     have hy : yielded ops a.tmps j = some b := by
      simp only [yielded, hd, bind_some, getD_some hv hdl]
     have hw : Region.wanted o (yielded ops a.tmps) = (some b == some want) := by simp only [Region.wanted, hg, hy]
     have hs1 : Rel w0 Φ0 own0 N w Φ β (s.set (some d) (.one (.bool b))) a := a7v hr (by rw [hv]; rfl)
     cases b <;> cases want <;> simp only [R9, cond_true, cond_false] at h <;> rw [hw]
     · rw [if_pos (by rfl)]; exact .inl (yes hs1 h)
     · rw [if_neg (by decide)]; exact no hs1 h
     · rw [if_neg (by decide)]; exact no hs1 h
     · rw [if_pos (by rfl)]; exact .inl (yes hs1 h)
   · rename_i hb
     have hv : a.tmps.getD d undef = undef := hr.env d _ hb
     have hy : yielded ops a.tmps j = none := by
      simp only [yielded, hd, bind_some]
      rcases Nat.lt_or_ge d a.tmps.size with g | g
      · rw [getD_some hv g]; rfl
      · rw [Array.getElem?_eq_none g]
     have hw : Region.wanted o (yielded ops a.tmps) = false := by simp only [Region.wanted, hg, hy]; rfl
     rw [hw]
     exact no hr h
   · cases h
theorem a4o (hr : Rel w0 Φ0 own0 N w Φ β s a) {id : Nat} {ob : SObj} {b p : Nat} (hl : look s.heap id = some ob) (ho : (ob.owned = true ∧ s.held id = true) ∨ ∃ e l, ob = .frz e l) (hb : β id = some (some (b, p))) (hw : Fut w β s w') : w'.heap[b]? = w.heap[b]? := by
 refine hw.block b (hr.hp.blt _ _ _ hb) ?_
 rintro (⟨id', ob', q, h1, h2, h3, h4⟩ | ⟨id', ob', h1, h2, h4⟩)
 · rcases ho with ⟨ho, hh⟩ | ⟨e, l, rfl⟩
   · have := hr.hp.inj id id' ob ob' b p q hl h1 ho h2 hb h3
     subst this
     rw [hh] at h4; cases h4
   · rcases hr.hp.ob id _ hl with ⟨k1, _⟩ | ⟨b', o', k1, k2, _⟩
     · rw [hb] at k1; cases k1
     · rw [hb] at k1; cases k1
       exact a0L (hr.hp.ob id' ob' h1) h2 h3 k2
 · obtain ⟨g1, g2, g3⟩ := hr.hp.rin id' ob' b h1 h2
   rcases ho with ⟨ho, hh⟩ | ⟨e, l, rfl⟩
   · exact g3 id ob p hl ho hb
   · rcases hr.hp.ob id _ hl with ⟨k1, _⟩ | ⟨b', o', k1, k2, _⟩
     · rw [hb] at k1; cases k1
     · rw [hb] at k1; cases k1
       exact g1 k2
theorem b9V (hr : Rel w0 Φ0 own0 N w Φ β s a) {b : Nat} (hb : Φ b) (hw : Fut w β s w') : w'.heap[b]? = w.heap[b]? := by
 refine hw.block b (hr.hp.flt b hb) ?_
 rintro (⟨id', ob', q, h1, h2, h3, h4⟩ | ⟨id', ob', h1, h2, h4⟩)
 · exact a0L (hr.hp.ob id' ob' h1) h2 h3 hb
 · exact (hr.hp.rin id' ob' b h1 h2).1 hb
theorem b0c (hok : AllOk P cx) {o : Oper} {k : St → Option R} {r : R} {s0 : St} (hh : s0.hold = s.hold) (hhp : s0.heap = s.heap) (hr : Rel w0 Φ0 own0 N w Φ β s0 a) (hst : C1 o s0 = true) (h : j0 cx o s0 k = some r) : B5 P R (Fut w β s) w Φ β s0 a o k r := by
 have up : B5 P R (fun _ => True) w Φ β s0 a o k r → B5 P R (Fut w β s) w Φ β s0 a o k r := fun ⟨x, v, h1, h2, h3⟩ => ⟨x, v, fun w' _ => h1 w' trivial, h2, h3⟩
 have hfut : ∀ w', Fut w β s w' → Fut w β s0 w' := fun w' h => by
  refine ⟨h.os, h.tape, h.output, h.size, fun b hb hn => h.block b hb ?_⟩
  rintro (⟨id, ob, p, h1, h2, h3, h4⟩ | ⟨id, ob, h1, h2, h4⟩)
  · exact hn (.inl ⟨id, ob, p, by rw [hhp]; exact h1, h2, h3, by unfold St.held at *; rw [hh]; exact h4⟩)
  · exact hn (.inr ⟨id, ob, by rw [hhp]; exact h1, h2, by unfold St.held at *; rw [hh]; exact h4⟩)
 cases ho : o.op with
 | move x => exact up (a2H hr (.inl ho) h)
 | assign x => exact up (a2H hr (.inr ho) h)
 | pick c x y => exact up (a7k hr ho h)
 | build t ps => exact up (a5h hok.ok hr ho h)
 | makeFunc fn x y =>
   cases fn with
   | func f => exact up (a1i hr ho h)
   | _ => simp [j0, ho] at h
 | load t x =>
   have hng : gOp cx.gv x = none := by
    cases x <;> first | rfl | (simp [C1, ho, l7] at hst; done)
   have hnt : ∀ id i e l, l7 s0.env x = some (.one (.eptr id i 0)) → look s0.heap id = some (.rows e l none) → s0.held id = true := by
    intro id i e l hv hl
    simp only [C1, ho, hv, hl, Bool.or_false] at hst
    exact hst
   refine b2D (K := fun b => ∀ w', Fut w β s w' → w'.heap[b]? = w.heap[b]?) hok.ok hr (fun w' h b hb => hb w' h) ho (fun v hv => ?_) hnt hng h
   simp only [C1, ho, hv] at hst
   have hld : ∃ td, J4 s0 td v (fun r => k (s0.set o.dst r)) = some r := by
    simp only [j0, ho, hng] at h
    split at h
    · rename_i td u htd hx
      rw [hv] at hx; cases hx
      rcases a4Z h with h | ⟨id, i, e, l, n, row, e1, e2, e3, e4, e5⟩
      · exact ⟨td, h⟩
      · subst e1
        have := hnt id i e l hv e2
        unfold b8U at e5
        rw [this] at e5
        cases e5
    · cases h
   obtain ⟨td, hld⟩ := hld
   unfold a5F
   split
   · rename_i id off
     intro b p hb w' hw'
     simp only at hst
     cases hl : look s0.heap id with
     | none => simp [J4, hl] at hld
     | some ob =>
       have hown : ob.owned = true := by
        cases ob with
        | dead => simp [J4, hl] at hld
        | frz _ _ => simp [J4, hl] at hld
        | _ => rfl
       exact a4o hr hl (.inl ⟨hown, hst⟩) hb (hfut w' hw')
   · rename_i id i off
     intro b p hb w' hw'
     simp only [Bool.or_eq_true] at hst
     cases hl : look s0.heap id with
     | none => simp [J4, hl] at hld
     | some ob =>
       refine a4o hr hl ?_ hb (hfut w' hw')
       cases ob with
       | dead => simp [J4, hl] at hld
       | frz e l => exact .inr ⟨e, l, rfl⟩
       | _ =>
         rcases hst with g | g
         · exact .inl ⟨rfl, g⟩
         · rw [hl] at g; cases g
   · intro b hb w' hw'
     exact b9V hr hb (hfut w' hw')
   · trivial
 | lookup t x i b =>
   refine a9T (K := fun b => ∀ w', Fut w β s w' → w'.heap[b]? = w.heap[b]?) hok.ok hr (fun w' h b hb => hb w' h) ho (fun id hv b p hb hm w' hw' => ?_) (fun id kt e l hv hl => by simp only [C1, ho, hv] at hst; exact hst) h
   obtain ⟨c, v, g, l, hm⟩ := hm
   simp only [C1, ho, hv] at hst
   exact a4o hr hm (.inl ⟨rfl, hst⟩) hb (hfut w' hw')
 | nilCheck x => exact up (a1j hr ho h)
 | binOp op t x y t' => exact up (a8Z hok.ok hr ho h)
 | unOp op t x => exact up (b1i hr ho h)
 | convert t d x => exact up (a2n hok.ok hr ho hst h)
 | slice t x lo hi mx =>
   cases mx with
   | none => exact up (a5l hok.ok hr ho h)
   | some m => simp [C1, ho] at hst
 | fieldAddr t x f => exact up (a0w hok.ok hr ho h)
 | field t x f => exact up (a5i hok.ok hr ho h)
 | indexAddr t x i => exact up (a0x hok.ok hr ho h)
 | index t x i => exact up (a5j hok.ok hr ho h)
 | extract x i => exact up (a2o hr ho h)
 | call c =>
   simp only [C1, ho] at hst
   split at hst
   · rename_i hc
     refine up (a9a hok.ok hr ho hc (fun x id hx he => ?_) h)
     rw [hx] at hst
     simp only [he] at hst
     cases hst
   · rename_i hc; exact up (a4A hr ho (.inl hc) h)
   · rename_i hc; exact up (a4A hr ho (.inr hc) h)
   · cases hst
 | _ => simp [C1, ho] at hst
theorem a8d (hok : AllOk P cx) {ops : Array Oper} {o : Oper} {k : St → Option R} {r : R} (hN : ∀ d, o.dst = some d → N.ok d) (hr : Rel w0 Φ0 own0 N w Φ β s a)
  (h : a8B cx ops.toList o s k = some r) : ∃ v s', YieldsIf P ops (Fut w β s) o v a ∧ Rel w0 Φ0 own0 N w Φ β s' (a.put o.dst v) ∧ s'.heap = s.heap ∧ s'.hold = s.hold ∧ k s' = some r := by
 have yes : ∀ {s1 : St}, Rel w0 Φ0 own0 N w Φ β s1 a → s1.hold = s.hold → s1.heap = s.heap → stepT cx o s1 k = some r → Region.wanted o (yielded ops a.tmps) = true →
   ∃ v s', YieldsIf P ops (Fut w β s) o v a ∧ Rel w0 Φ0 own0 N w Φ β s' (a.put o.dst v) ∧ s'.heap = s.heap ∧ s'.hold = s.hold ∧ k s' = some r := by
  intro s1 hr1 hh hhp h2 hw
  unfold stepT at h2
  obtain ⟨h1, h2⟩ := g8 h2
  obtain ⟨x, v, g1, g2, g3⟩ := b0c hok hh hhp hr1 h1 h2
  exact ⟨v, _, .inl ⟨hw, g1⟩, hr1.set g2 hN, by cases o.dst <;> exact hhp, by cases o.dst <;> exact hh, g3⟩
 have no : ∀ {s1 : St}, Rel w0 Φ0 own0 N w Φ β s1 a → s1.heap = s.heap → s1.hold = s.hold → k (s1.set o.dst .skip) = some r → Region.wanted o (yielded ops a.tmps) = false → ∃ v s', YieldsIf P ops (Fut w β s) o v a ∧ Rel w0 Φ0 own0 N w Φ β s' (a.put o.dst v) ∧ s'.heap = s.heap ∧ s'.hold = s.hold ∧ k s' = some r :=
  fun hr1 h2 h3 h1 hw => ⟨undef, _, .inr ⟨hw, rfl⟩, hr1.set (sv := .skip) (v := undef) rfl hN, by cases o.dst <;> exact h2, by cases o.dst <;> exact h3, h1⟩
 unfold a8B at h
 split at h
 · rename_i hg
   exact yes hr rfl rfl h (by simp [Region.wanted, hg])
 · rename_i j want hg
   split at h
   case h_2 => cases h
   rename_i d hd
   rw [nth_getElem?, Array.getElem?_toList] at hd
   split at h
   · rename_i b hb
     have hv : a.tmps.getD d undef = .bool b := hr.env d _ hb
     have hdl : d < a.tmps.size := by
      rcases Nat.lt_or_ge d a.tmps.size with g | g
      · exact g
      · have : a.tmps.getD d undef = undef := by simp [Array.getD, Nat.not_lt.2 g]
        rw [this] at hv; cases hv
     have hy : yielded ops a.tmps j = some b := by
      simp only [yielded, hd, bind_some, getD_some hv hdl]
     have hw : Region.wanted o (yielded ops a.tmps) = (some b == some want) := by simp only [Region.wanted, hg, hy]
     have hs1 : Rel w0 Φ0 own0 N w Φ β (s.set (some d) (.one (.bool b))) a := a7v hr (by rw [hv]; rfl)
     cases b <;> cases want <;> simp only [R9, cond_true, cond_false] at h
     · exact yes hs1 rfl rfl h (by rw [hw]; rfl)
     · exact no hs1 rfl rfl h (by rw [hw]; decide)
     · exact no hs1 rfl rfl h (by rw [hw]; decide)
     · exact yes hs1 rfl rfl h (by rw [hw]; rfl)
   · rename_i hb
     have hv : a.tmps.getD d undef = undef := hr.env d _ hb
     have hy : yielded ops a.tmps j = none := by
      simp only [yielded, hd, bind_some]
      rcases Nat.lt_or_ge d a.tmps.size with g | g
      · rw [getD_some hv g]; rfl
      · rw [Array.getElem?_eq_none g]
     exact no hr rfl rfl h (by simp only [Region.wanted, hg, hy]; rfl)
   · cases h
theorem V8 {md : Region.Mode} {ops : Array Oper} {Q : Exit → Act → World → Prop} {S S' : World → Prop} (h : ∀ w, S w → S' w) : ∀ (n : Nat) (listed : Array Bool) (a : Act) (w : World), wpAnyH P md ops Q S n listed a w → wpAnyH P md ops Q S' n listed a w
 | 0, _, _, _, g => g
 | n + 1, listed, a, w, g => ⟨g.1, fun i hi => wpOp_mono (fun a' w' g' => ⟨h _ g'.1, V8 h n _ a' w' g'.2⟩) (g.2 i hi)⟩
def b0E (own0 : Nat → Prop) (w0 : World) (N : Frm) (w : World) (β : Loc) (s : St) : Frm :=
 ⟨N.n, N.fix, fun id x => s.held id = true ∧ β id = some x ∧ ∀ b p, x = some (b, p) → own0 b ∨ w0.heap.size ≤ b ∨ ∃ p, N.held id (some (b, p)), N.kid, w, β, s.heap⟩
theorem a8c {s : St} (h : a1u s = true) {id : Nat} {o : SObj} (hl : look s.heap id = some o) (hr : o.B2 = true) : s.held id = false := by
 have mem : ∀ (l : List (Nat × SObj)), look l id = some o → id ∈ a6Q l := by
  intro l
  induction l with
  | nil => intro h; cases h
  | cons x l ih =>
    obtain ⟨j, y⟩ := x
    intro h
    rw [j5] at h
    simp only [a6Q, List.mem_cons]
    split at h
    · rename_i e; exact .inl e.symm
    · exact .inr (ih h)
 have := List.all_eq_true.1 h id (mem _ hl)
 rw [hl] at this
 cases o <;> first | simpa using this | cases hr
theorem Rel.a7n (hr : Rel w0 Φ0 own0 N w Φ β s a) (hrf : a1u s = true) : Rel w Φ (b4f w β s) (b0E own0 w0 N w β s) w Φ β s a := {
 rown := fun id o c h1 h2 => .inl (.inr ⟨id, o, h1, h2, by
  cases hir : o.B2 with
  | false => exact absurd h2 (o3 hir)
  | true => exact a8c hrf h1 hir⟩)
 env := hr.env
 hp := hr.hp
 own := fun id o b p h1 h2 h3 => by
  cases hh : s.held id with
  | false => exact .inl (.inl ⟨id, o, p, h1, h2, h3, hh⟩)
  | true => exact .inr (.inr ⟨p, hh, h3, fun b' p' e => by cases e; exact hr.own id o b p h1 h2 h3⟩)
 same := .refl _ _
 fri := fun _ h => h
 fro := fun _ h => .inl h
 size := hr.size
 fix := hr.fix
 defers := hr.defers
 hold := fun id x h => ⟨h.1, h.2.1⟩
 keep := fun id _ => .refl .. }
theorem Rel.W9 (hr : Rel w0 Φ0 own0 N w Φ β s a) {b : Nat} (h : b4f w β s b) : own0 b ∨ w0.heap.size ≤ b := by
 rcases h with ⟨id, ob, p, h1, h2, h3, h4⟩ | ⟨id, ob, h1, h2, _⟩
 · exact hr.b0W h4 h1 h2 h3
 · exact hr.rown id ob b h1 h2
theorem Rel.b8Y (hr : Rel w0 Φ0 own0 N w Φ β s a) (h : Rel w Φ (b4f w β s) (b0E own0 w0 N w β s) w' Φ' β' s' a') : Rel w0 Φ0 own0 N w' Φ' β' s' a' := {
 rown := fun id o c h1 h2 => by
  rcases h.rown id o c h1 h2 with g | g
  · exact hr.W9 g
  · exact .inr (Nat.le_trans hr.same.size g)
 env := h.env
 hp := h.hp
 own := fun id o b p h1 h2 h3 => by
  rcases h.own id o b p h1 h2 h3 with g | g | ⟨q, g⟩
  · exact (hr.W9 g).elim .inl (fun g => .inr (.inl g))
  · exact .inr (.inl (Nat.le_trans hr.same.size g))
  · exact g.2.2 b q rfl
 same := ⟨h.same.os.trans hr.same.os, h.same.tape.trans hr.same.tape, h.same.output.trans hr.same.output, Nat.le_trans hr.same.size h.same.size, fun b h1 h2 => by
  rw [h.same.block b (Nat.lt_of_lt_of_le h1 hr.same.size) (fun g => by rcases hr.W9 g with g | g; exact h2 g; omega), hr.same.block b h1 h2]⟩
 fri := fun b hb => h.fri b (hr.fri b hb)
 fro := fun b hb => by
  rcases h.fro b hb with g | g | g
  · exact hr.fro b g
  · exact .inr (hr.W9 g)
  · exact .inr (.inr (Nat.le_trans hr.same.size g))
 size := h.size
 fix := h.fix
 defers := h.defers
 hold := fun id x hx => h.hold id x ⟨(hr.hold id x hx).1, (hr.hold id x hx).2, fun b p e => by subst e; exact .inr (.inr ⟨p, hx⟩)⟩
 keep := fun id hid => (hr.keep id hid).trans (h.keep id hid) }
theorem b3q (hr : Rel w Φ (b4f w β s) (b0E own0 w0 N w β s) w' Φ' β' s' a') {w2 : World} (h : Fut w' β' s' w2) : Fut w β s w2 :=
 ⟨h.os.trans hr.same.os, h.tape.trans hr.same.tape, h.output.trans hr.same.output, Nat.le_trans hr.same.size h.size, fun b h1 h2 => by
  rw [h.block b (Nat.lt_of_lt_of_le h1 hr.same.size) (fun g => by rcases hr.W9 g with g | g; exact h2 g; omega), hr.same.block b h1 h2]⟩
theorem GlobR.a7n {gp : World → (Nat → Prop) → Prop} (hG : GlobR gp w0 Φ0 own0) (hr : Rel w0 Φ0 own0 N w Φ β s a) : GlobR gp w Φ (b4f w β s) := {
 mono := hG.mono
 at0 := hG.get hr
 out := fun b hb => ⟨by
  rintro (⟨id', ob', q, h1, h2, h3, h4⟩ | ⟨id', ob', h1, h2, h4⟩)
  · exact a0L (hr.hp.ob id' ob' h1) h2 h3 hb
  · exact (hr.hp.rin id' ob' b h1 h2).1 hb, hr.hp.flt b hb⟩ }
theorem O3 [hG : GlobR cx.gp w0 Φ0 own0] (hok : AllOk P cx) {ops : Array Oper} {Q : Act → World → Prop} {k : St → Option R} {r : R} (hsel : Region.noSelect ops = true) (hN : ∀ (i : Nat) (o : Oper), ops[i]? = some o → ∀ d, o.dst = some d → N.ok d)
  (hk : ∀ s' a' w' Φ' β', Rel w0 Φ0 own0 N w' Φ' β' s' a' → k s' = some r → Q a' w') : ∀ (t : OrdT) (n : Nat) (listed : Array Bool) {w : World} {Φ : Nat → Prop} {β : Loc} {s : St} {a : Act}, Rel w0 Φ0 own0 N w Φ β s a → J3 cx ops.toList t s k = some r →
  (M8 ops true n listed t = true → wpAnyH P .any ops (fun e a w => e = .normal ∧ Q a w) (Fut w β s) n listed a w) ∧
  (∀ m, n = m + 1 → M8 ops false n listed t = true → ∀ i ∈ a6L t, wpOp P ops (fun e a w => e = .normal ∧ Q a w) i (fun a' w' => Fut w β s w' ∧ wpAnyH P .any ops (fun e a w => e = .normal ∧ Q a w) (Fut w β s) m (listed.setIfInBounds i true) a' w') a w)
 | .done, n, listed, w, Φ, β, s, a, hr, h => by
   simp only [J3] at h
   refine ⟨fun hb => ?_, fun m _ hb => by simp [M8] at hb⟩
   simp only [M8, Bool.true_and, List.isEmpty_iff] at hb
   exact wpAnyH_done hb ⟨rfl, hk _ _ _ _ _ hr h⟩ n
 | .take i t, n, listed, w, Φ, β, s, a, hr, h => by
   refine ⟨fun hb => ?_, fun m e hb => by subst e; simp [M8] at hb⟩
   cases n with
   | zero => simp [M8] at hb
   | succ n =>
     simp only [M8, Bool.true_and, and_eq_true] at hb
     simp only [J3] at h
     split at h
     case h_2 => cases h
     rename_i o ho
     have hoi : ops[i]? = some o := by rw [nth_getElem?, Array.getElem?_toList] at ho; exact ho
     obtain ⟨v, s', g1, g2, g3, g4, g5⟩ := a8d hok (hN i o hoi) hr h
     have ih := (O3 hok hsel hN hk t n _ g2 g5).1 hb.2.2
     refine wpAnyH_take hoi hsel hb.1 hb.2.1 (fun c a w h => by cases h.1) g1 (.refl _ _) ?_
     refine V8 (fun w' hw' => ?_) n _ _ _ ih
     exact ⟨hw'.os, hw'.tape, hw'.output, hw'.size, fun b hb hn => hw'.block b hb (fun hF => hn (by
      rcases hF with ⟨id, ob, p, a1, a2, a3, a4⟩ | ⟨id, ob, a1, a2, a4⟩
      · exact .inl ⟨id, ob, p, by rw [← g3]; exact a1, a2, a3, by unfold St.held at *; rw [← g4]; exact a4⟩
      · exact .inr ⟨id, ob, by rw [← g3]; exact a1, a2, by unfold St.held at *; rw [← g4]; exact a4⟩))⟩
 | .only i t, n, listed, w, Φ, β, s, a, hr, h => by
   have step : ∀ m, n = m + 1 → M8 ops true m (listed.setIfInBounds i true) t = true → wpOp P ops (fun e a w => e = .normal ∧ Q a w) i (fun a' w' => Fut w β s w' ∧ wpAnyH P .any ops (fun e a w => e = .normal ∧ Q a w) (Fut w β s) m (listed.setIfInBounds i true) a' w') a w := by
    intro m e hb
    simp only [J3] at h
    split at h
    case h_2 => cases h
    rename_i o ho
    have hoi : ops[i]? = some o := by rw [nth_getElem?, Array.getElem?_toList] at ho; exact ho
    obtain ⟨hrf, h⟩ := g8 h
    haveI := hG.a7n hr
    refine a4S (N := b0E own0 w0 N w β s) hok hoi (hN i o hoi) (hr.a7n hrf) (fun s' a' w' Φ' β' hr' h' => ⟨hr'.same, ?_⟩) h
    exact V8 (fun w2 h2 => b3q hr' h2) m _ _ _ ((O3 hok hsel hN hk t m _ (hr.b8Y hr') h').1 hb)
   refine ⟨fun hb => ?_, fun m e hb j hj => ?_⟩
   · cases n with
     | zero => simp [M8] at hb
     | succ n =>
       simp only [M8, Bool.not_true, Bool.false_or, and_eq_true] at hb
       refine wpAnyH_all (rs := Region.ready .any ops listed) rfl (fun e => by rw [e] at hb; simp at hb) fun j hj => ?_
       have := List.all_eq_true.1 hb.1.2 j hj
       have := Nat.eq_of_beq_eq_true this
       subst this
       exact step n rfl hb.2
   · subst e
     simp only [M8, Bool.not_false, Bool.true_or, Bool.true_and] at hb
     simp only [a6L, List.mem_singleton] at hj
     subst hj
     exact step m rfl hb
 | .alt i t q, n, listed, w, Φ, β, s, a, hr, h => by
   have parts : a1u s = true ∧ ∃ o, ops[i]? = some o ∧ a4R cx ops.toList o s (fun s' => J3 cx ops.toList t s' k) = some r ∧ J3 cx ops.toList q s k = some r := by
    simp only [J3] at h
    split at h
    case h_2 => cases h
    rename_i o ho
    have hoi : ops[i]? = some o := by rw [nth_getElem?, Array.getElem?_toList] at ho; exact ho
    obtain ⟨hrf, h⟩ := g8 h
    obtain ⟨h1, h2⟩ := Z1 h
    exact ⟨hrf, o, hoi, h1, h2⟩
   obtain ⟨hrf, o, hoi, h1, h2⟩ := parts
   have all : ∀ m, n = m + 1 → M8 ops true m (listed.setIfInBounds i true) t = true → M8 ops false (m + 1) listed q = true → ∀ j ∈ a6L (.alt i t q), wpOp P ops (fun e a w => e = .normal ∧ Q a w) j (fun a' w' => Fut w β s w' ∧ wpAnyH P .any ops (fun e a w => e = .normal ∧ Q a w) (Fut w β s) m (listed.setIfInBounds j true) a' w') a w := by
    intro m e b1 b2 j hj
    subst e
    simp only [a6L, List.mem_cons] at hj
    rcases hj with hj | hj
    · subst hj
      haveI := hG.a7n hr
      refine a4S (N := b0E own0 w0 N w β s) hok hoi (hN j o hoi) (hr.a7n hrf) (fun s' a' w' Φ' β' hr' h' => ⟨hr'.same, ?_⟩) h1
      exact V8 (fun w2 h2 => b3q hr' h2) m _ _ _ ((O3 hok hsel hN hk t m _ (hr.b8Y hr') h').1 b1)
    · exact (O3 hok hsel hN hk q (m + 1) listed hr h2).2 m rfl b2 j hj
   refine ⟨fun hb => ?_, fun m e hb j hj => ?_⟩
   · cases n with
     | zero => simp [M8] at hb
     | succ n =>
       simp only [M8, Bool.not_true, Bool.false_or, and_eq_true] at hb
       refine wpAnyH_all (rs := Region.ready .any ops listed) rfl (fun e => by rw [e] at hb; simp at hb) fun j hj => ?_
       exact all n rfl hb.2.1 hb.2.2 j (a1J.1 (List.all_eq_true.1 hb.1.2 j hj))
   · subst e
     simp only [M8, Bool.not_false, Bool.true_or, Bool.true_and, and_eq_true] at hb
     exact all m rfl hb.1 hb.2 j hj
theorem Rel.b0O (hr : Rel w0 Φ0 own0 N w Φ β s a) (hno : ∀ id b, ¬ N.held id b) (l : List Nat) : Rel w0 Φ0 own0 N w Φ β { s with hold := l } a :=
 ⟨hr.env, ⟨hr.hp.ob, hr.hp.lt, hr.hp.hlt, hr.hp.inj, hr.hp.blt, hr.hp.flt, hr.hp.rin, hr.hp.rinj⟩, hr.own, hr.same, hr.fri, hr.fro, hr.size, hr.fix, hr.defers, fun id x h => absurd h (hno id x), hr.keep, hr.rown⟩
theorem a9D [hG : GlobR cx.gp w0 Φ0 own0] (hok : AllOk P cx) (hno : ∀ id b, ¬ N.held id b) {id : Nat} {ops : Array Oper} {Q : Exit → Act → World → Prop} {k : St → Option R} {r : R} {slots : List Nat} {t : OrdT} (hN : ∀ o ∈ ops.toList, ∀ d, o.dst = some d → N.ok d)
  (hc : Region.noSelect ops = true ∧ M8 ops true ops.size (Array.replicate ops.size false) t = true) (hr : Rel w0 Φ0 own0 N w Φ β s a)
  (hk : ∀ s' a' w' Φ' β', Rel w0 Φ0 own0 N w' Φ' β' s' a' → k s' = some r → Q .normal a' w') (h : b2i cx slots t ops.toList s k = some r) : (Code.region id ops true).wp P Q a w := by
 unfold b2i at h
 have h1 := (O3 (Q := fun a w => Q .normal a w) hok hc.1 (fun i o hi d hd => hN o (by rw [← Array.getElem?_toList] at hi; exact List.mem_of_getElem? hi) d hd)
  (fun s' a' w' Φ' β' hr' h' => hk _ a' w' Φ' β' (hr'.b0O hno []) h') t ops.size (Array.replicate ops.size false) ((hr.b0O hno _).drew) h).1 hc.2
 refine wp_mono (wp_region_held hok.mixed h1) fun e a w h => ?_
 rw [h.1]; exact h.2
end
section
variable {P : Program} {R : Type} {w0 : World} {Φ0 own0 : Nat → Prop} {N : Frm} {w w' w2 : World} {Φ Φ' Φ2 : Nat → Prop} {β γ γ' γ2 : Loc} {s s' : St} {a : Act} {hp : List (Nat × SObj)}
variable {cx : Cx} {H : Hn}
theorem G6 [hG : GlobR cx.gp w0 Φ0 own0] (hok : AllOk P cx) (hno : ∀ id b, ¬ N.held id b) : ∀ (c : Code) {k : Ex → St → Option R} {r : R} {Q : Exit → Act → World → Prop} {w : World} {Φ : Nat → Prop} {β : Loc} {s : St} {a : Act}, p7 [] N.n c = true → c6A N c → Hints P cx N.n H c →
  Rel w0 Φ0 own0 N w Φ β s a → (∀ e s' a' w' Φ' β', Rel w0 Φ0 own0 N w' Φ' β' s' a' → k e s' = some r → Q e.a0m a' w') → ev cx H c s k = some r → c.wp P Q a w
 | .skip, k, r, Q, w, Φ, β, s, a, _, _, _, hr, hk, h => wp_skip (hk .norm _ _ _ _ _ hr h)
 | .region id ops false, k, r, Q, w, Φ, β, s, a, hb, hf, _, hr, hk, h => by
   refine wp_region ?_
   have := a0T (Q := Q) hok (ops := ops) (fun o ho d hd => by
    have := List.all_eq_true.1 hb o ho
    simp only [hd, and_eq_true] at this
    refine ⟨by rw [← Nat.blt_eq]; exact this.1, ?_⟩
    cases hfd : N.fix d with
    | none => rfl
    | some v =>
      have := List.all_eq_true.1 (hf d v hfd) o ho
      simp [hd, fresh] at this) (fun s' a' w' Φ' β' hr' h' => hk .norm s' a' w' Φ' β' hr' h') ops.toList 0 (fun j => by simp) hr h
   rwa [Array.length_toList, ← List.range_eq_range'] at this
 | .region id ops true, k, r, Q, w, Φ, β, s, a, hb, hf, hh, hr, hk, h => by
   simp only [ev] at h
   split at h
   · rename_i slots t hd
     refine a9D hok hno (fun o ho d hd => ?_) (hh slots t hd) hr (fun s' a' w' Φ' β' hr' h' => hk .norm s' a' w' Φ' β' hr' h') h
     have := List.all_eq_true.1 hb o ho
     simp only [hd, and_eq_true] at this
     refine ⟨by rw [← Nat.blt_eq]; exact this.1, ?_⟩
     cases hfd : N.fix d with
     | none => rfl
     | some v =>
       have := List.all_eq_true.1 (hf d v hfd) o ho
       simp [hd, fresh] at this
   · cases h
 | .seq x y, k, r, Q, w, Φ, β, s, a, hb, hf, hh, hr, hk, h => by
   simp only [p7, and_eq_true] at hb
   simp only [ev] at h
   refine wp_seq (G6 hok hno x hb.1 (fun t v h => (a3V (hf t v h)).1) hh.1 hr (fun e s' a' w' Φ' β' hr' h' => ?_) h)
   cases e with
   | norm =>
     have hh2 := hh.2
     show y.wp P Q a' w'
     simp only at h'
     split at h'
     · rename_i κ hκ
       rw [hκ] at hh2
       exact a0S hh2.1 hh2.2 (fun t v h => (a3V (hf t v h)).2) hr' hk h'
     · rename_i hκ
       rw [hκ] at hh2
       exact G6 hok hno y hb.2 (fun t v h => (a3V (hf t v h)).2) hh2 hr' hk h'
   | out id => exact hk (.out id) s' a' w' Φ' β' hr' h'
   | ret => exact hk .ret s' a' w' Φ' β' hr' h'
 | .cond c x y, k, r, Q, w, Φ, β, s, a, hb, hf, hh, hr, hk, h => by
   simp only [p7, and_eq_true] at hb
   simp only [ev] at h
   split at h
   case h_3 => cases h
   case h_2 =>
    rename_i hc
    obtain ⟨t, hcv⟩ : ∃ t, a.eval c = .bool t := hr.eval hc
    obtain ⟨h1, h2⟩ := Z1 h
    refine wp_cond hcv ?_
    cases t with
    | true => exact G6 hok hno x hb.1 (fun t v h => (Z0 (hf t v h)).1) hh.1 hr hk h1
    | false => exact G6 hok hno y hb.2 (fun t v h => (Z0 (hf t v h)).2) hh.2 hr hk h2
   rename_i t hc
   have hcv : a.eval c = .bool t := hr.eval hc
   refine wp_cond hcv ?_
   cases t with
   | true => exact G6 hok hno x hb.1 (fun t v h => (Z0 (hf t v h)).1) hh.1 hr hk h
   | false => exact G6 hok hno y hb.2 (fun t v h => (Z0 (hf t v h)).2) hh.2 hr hk h
 | .block id c, k, r, Q, w, Φ, β, s, a, hb, hf, hh, hr, hk, h => by
   simp only [ev] at h
   simp only [Hints] at hh
   split at h
   · rename_i κ hκ
     rw [hκ] at hh
     exact a0S hh.1 hh.2 hf hr hk h
   · rename_i hκ
     rw [hκ] at hh
     refine wp_block (G6 hok hno c hb hf hh hr (fun e s' a' w' Φ' β' hr' h' => ?_) h)
     cases e with
     | norm => exact hk .norm s' a' w' Φ' β' hr' h'
     | ret => exact hk .ret s' a' w' Φ' β' hr' h'
     | out id' =>
       show (if id' = id then Q .normal a' w' else Q (.exit id') a' w')
       simp only at h'
       cases hbq : Nat.beq id' id with
       | true => rw [hbq] at h'; rw [if_pos (Nat.eq_of_beq_eq_true hbq)]; exact hk .norm s' a' w' Φ' β' hr' h'
       | false => rw [hbq] at h'; rw [if_neg (fun e => by rw [e, Nat.beq_refl] at hbq; cases hbq)]; exact hk (.out id') s' a' w' Φ' β' hr' h'
 | .loop c, k, r, Q, w, Φ, β, s, a, hb, hf, hh, hr, hk, h => by
   simp only [ev] at h
   exact wp_loop_rounds 16 (a5b (fun k Q {w Φ β s a} hr hk h => G6 hok hno c hb hf hh hr hk h) hk 16 hr h)
 | .exit id, k, r, Q, w, Φ, β, s, a, _, _, _, hr, hk, h => wp_exit (hk (.out id) _ _ _ _ _ hr h)
 | .ret, k, r, Q, w, Φ, β, s, a, _, _, _, hr, hk, h => wp_ret (hk .ret _ _ _ _ _ hr h)
 | .rangeFunc _ _ _ _, k, r, Q, w, Φ, β, s, a, _, _, _, hr, hk, h => by simp [ev] at h
 | .scope _, k, r, Q, w, Φ, β, s, a, _, _, _, hr, hk, h => by simp [ev] at h
 | .label _, k, r, Q, w, Φ, β, s, a, _, _, _, hr, hk, h => by simp [ev] at h
 | .goto _, k, r, Q, w, Φ, β, s, a, _, _, _, hr, hk, h => by simp [ev] at h
 | .refuse _, k, r, Q, w, Φ, β, s, a, _, _, _, hr, hk, h => by simp [ev] at h
def a7p (tmps : Array Value) : ResultVar → Sem Value
 | .tmp t => pure (tmps.getD t undef)
 | .cell a t => do loadVar t (← asAddr (tmps.getD a undef))
theorem a5q (hok : AllOk P cx) (hr : Rel w0 Φ0 own0 N w Φ β s a) : ∀ (rs : List ResultVar) (vs : List SVal), F1 cx s rs = some vs → ∃ us, (rs.mapM (a7p a.tmps)).run P w = .ok us w ∧ F2 w Φ β s.heap vs us
 | [], vs, h => by simp [F1] at h; subst h; exact ⟨[], by simp, rfl⟩
 | x :: rs, vs, h => by
   simp only [F1] at h
   split at h
   case h_2 => cases h
   rename_i v vs' hx hxs
   cases h
   obtain ⟨us, g1, g2⟩ := a5q hok hr rs vs' hxs
   cases x with
   | tmp t =>
     simp only [a7q] at hx
     exact ⟨a.tmps.getD t undef :: us, by simp [List.mapM_cons, a7p, g1], _, _, rfl, hr.env t v hx, g2⟩
   | cell t ty =>
     simp only [a7q] at hx
     split at hx
     case h_2 => cases hx
     rename_i td p htd hp'
     obtain ⟨x, b, o, val, k1, k2, k3, k4⟩ := b5g (hok.ok.tab ty _ htd) hr (hr.env t p hp') hx
     cases k4
     exact ⟨val :: us, by simp [List.mapM_cons, a7p, k1, asAddr, k2, g1], val, us, rfl, k3, g2⟩
theorem b5r (us : List Value) : (if h : us.toArray.size = 1 then us.toArray[0] else .tuple us.toArray) = I0 us := by
 match us with
 | [] => rfl
 | [v] => rfl
 | _ :: _ :: _ => rfl
theorem b1x (fn : Func) (tmps : Array Value) {us : List Value} (h : (fn.results.toList.mapM (a7p tmps)).run P w = .ok us w) : (results fn tmps).run P w = .ok (I0 us) w := by
 have e : results fn tmps = (do let vs ← fn.results.mapM (a7p tmps); pure (if h : vs.size = 1 then vs[0] else .tuple vs)) := by
  unfold results
  congr 1
 rw [e, Array.mapM_eq_mapM_toList]
 simp only [Sem.run_bind, Sem.run_map, h, Result.andThen_ok, Sem.run_pure]
 rw [b5r]
theorem b4g {T : Tm} {ds : List Dyn} {vs : List Value} (h : InstR w Φ T ds vs γ) : vs.length = T.slots.length := by
 have h1 := a5X h.I9
 have : ∀ (l : List SlT) (ds : List Dyn), (D3 l ds).1.length = l.length := by
  intro l
  induction l with
  | nil => intro ds; rfl
  | cons x l ih => intro ds; simp [D3, ih]
 rw [h1]; exact this _ _
theorem b6I (hok : AllOk P cx) {f φ : Nat} {fn : Func} {c : Code} (hfn : P.funcs[f]? = some fn) (hb : fn.body = some c) (hlen : (cx.kin φ).slots.length ≤ fn.ntmps) (hB : p7 [] fn.ntmps c = true)
  (hH : Hints P cx fn.ntmps H c) : ∀ d y, b4N cx H φ c fn.results.toList d = some y → ∀ (w : World) (Φ : Nat → Prop) (vs : List Value) (γ : Loc), cx.gp w Φ → InstR w Φ (cx.kin φ) (m4 (cx.kin φ).cts d) vs γ →
  Calls P f vs.toArray w fun e w' => ∃ Φ' γ' rs, e = .returned (I0 rs) ∧ a0B (fun T' ds' => InstR w' Φ' T' ds' rs γ' ∧ PostR w Φ γ (cx.kin φ) (m4 (cx.kin φ).cts d) w' Φ' γ' T' ds') (cx.kouts φ) y := by
 intro d y h w Φ vs γ hg hi
 haveI := GlobR.enter hok.gpm hg hi
 have hvl := b4g hi
 refine calls_of_wp hfn hb ?_
 let a0 : Act := { tmps := vs.toArray ++ Array.replicate (fn.ntmps - vs.toArray.size) undef, defers := [] }
 have hsz : a0.tmps.size = fn.ntmps := by simp [a0]; omega
 have hget : ∀ t v, vs[t]? = some v → a0.tmps.getD t undef = v := by
  intro t v ht
  have hlt := (List.getElem?_eq_some_iff.1 ht).1
  have : a0.tmps[t]? = some v := by
   simp only [a0]
   rw [Array.getElem?_append_left (by simpa using hlt)]
   simpa using ht
  rw [Array.getD_eq_getD_getElem?, this]; rfl
 have hslots : ((List.range (cx.kin φ).slots.length).map fun t => a0.tmps.getD t undef) = vs := by
  apply List.ext_getElem?
  intro i
  simp only [List.getElem?_map]
  by_cases hi : i < (cx.kin φ).slots.length
  · rw [List.getElem?_range hi]
    have hv : vs[i]? = some vs[i] := List.getElem?_eq_getElem (by omega)
    rw [hv]; simp only [Option.map_some]; rw [hget i _ hv]
  · rw [List.getElem?_eq_none (by simpa using hi), List.getElem?_eq_none (by omega)]; rfl
 have hr0 := a4s (a := a0) (slots := List.range (cx.kin φ).slots.length) (fix := fun _ => none) (by rw [hslots]; exact hi) hsz (fun t v h => by cases h) rfl
 unfold b4N at h
 refine G6 (Q := bodyPost P fn _) hok (N := ⟨fn.ntmps, fun _ => none, fun _ _ => False, E1 (cx.kin φ), w, γ, (cx.kin φ).heap (m4 (cx.kin φ).cts d)⟩) (fun _ _ h => h) c hB (fun t v hv => by cases hv) hH hr0 (fun e s' a' w' Φ' β' hr' h' => ?_) h
 have fin : (match F1 cx s' fn.results.toList with
   | some vs => a1P (u0 0 (cx.kin φ).objs) (cx.kouts φ) vs s'
   | none => none) = some y → a'.defers = [] ∧ ∃ v, (results fn a'.tmps).run P w' = .ok v w' ∧ ∃ Φ' γ' rs, Ending.returned v = .returned (I0 rs) ∧
   a0B (fun T' ds' => InstR w' Φ' T' ds' rs γ' ∧ PostR w Φ γ (cx.kin φ) (m4 (cx.kin φ).cts d) w' Φ' γ' T' ds') (cx.kouts φ) y := by
  intro h'
  split at h'
  case h_2 => cases h'
  rename_i rv hrv
  obtain ⟨us, g1, g2⟩ := a5q hok hr' _ _ hrv
  have : ∀ (l : List Tm) (y : (L8 l).denote), a1P (u0 0 (cx.kin φ).objs) l rv s' = some y → ∃ Φ2 γ2, a0B (fun T' ds' => InstR w' Φ2 T' ds' us γ2 ∧ PostR w Φ γ (cx.kin φ) (m4 (cx.kin φ).cts d) w' Φ2 γ2 T' ds') l y := by
   intro l
   induction l with
   | nil => intro y h; cases h
   | cons T' l ih =>
     intro y h
     have one : ∀ d' ρ s1, a2k T' (u0 0 (cx.kin φ).objs) rv s' = some (d', ρ, s1) → ∃ Φ2 γ2, InstR w' Φ2 T' (m4 T'.cts d') us γ2 ∧ PostR w Φ γ (cx.kin φ) (m4 (cx.kin φ).cts d) w' Φ2 γ2 T' (m4 T'.cts d') := by
      intro d' ρ s1 hd
      obtain ⟨Φ2, β2, hP⟩ := J5 hr' g2 hd
      exact ⟨Φ2, _, hP.inst, a3B rfl rfl rfl rfl hP⟩
     cases l with
     | nil =>
       simp only [a1P] at h
       split at h
       · rename_i d' ρ s1 hd; cases h; exact one _ _ _ hd
       · cases h
     | cons T2 l =>
       simp only [a1P] at h
       split at h
       · rename_i d' ρ s1 hd; cases h; exact one _ _ _ hd
       · split at h
         · rename_i d' hd; cases h; exact ih _ hd
         · cases h
  obtain ⟨Φ2, γ2, h2⟩ := this _ _ h'
  exact ⟨hr'.defers, _, b1x fn _ g1, Φ2, γ2, us, rfl, h2⟩
 cases e with
 | norm => exact fin h'
 | ret => exact fin h'
 | out id => cases h'
theorem PostR.trans {T T' : Tm} {ds d1 ds' : List Dyn} (h : PostR w Φ γ T ds w' Φ' γ' T d1) (k : PostR w' Φ' γ' T d1 w2 Φ2 γ2 T' ds') : PostR w Φ γ T ds w2 Φ2 γ2 T' ds' := {
 same := ⟨k.same.os.trans h.same.os, k.same.tape.trans h.same.tape, k.same.output.trans h.same.output, Nat.le_trans h.same.size k.same.size, fun b h1 h2 => by
  rw [k.same.block b (Nat.lt_of_lt_of_le h1 h.same.size) (fun hm => by
   rcases h.mem b hm with g | g
   · exact h2 g
   · omega), h.same.block b h1 h2]⟩
 mem := fun b hb => by
  rcases k.mem b hb with g | g
  · exact h.mem b g
  · exact .inr (Nat.le_trans h.same.size g)
 sub := fun b hb => k.sub b (h.sub b hb)
 fro := fun b hb => by
  rcases k.fro b hb with g | g | g
  · exact h.fro b g
  · exact .inr (h.mem b g)
  · exact .inr (.inr (Nat.le_trans h.same.size g))
 keep := fun i hi => (h.keep i hi).trans (k.keep i hi) }
theorem a1s {c : Code} {Q Q' : Exit → Act → World → Prop} (hq : ∀ e a w, Q e a w → Q' e a w) : ∀ (n : Nat) {a : Act} {w : World}, Code.rounds P c Q n a w → Code.rounds P c Q' n a w
 | 0, _, _, h => h
 | n + 1, a, w, h => by
   rw [rounds_succ] at *
   refine wp_mono h fun e a w g => ?_
   cases e with
   | normal => exact a1s hq n g
   | _ => exact hq _ _ _ g
theorem a1d {T : Tm} {ds : List Dyn} (hkid : N.kid = E1 T) (hkw : N.kw = w) (hkβ : N.kβ = γ) (hkh : N.kh = T.heap ds) {a : Act} (hr : Rel w Φ (a1W w γ (T.heap ds)) N w' Φ' β s a) {e : Ex} : ∀ {l : List (Ex × List Nat × Tm)} {y : (G7 l).denote}, D7 (u0 0 T.objs) l e s = some y →
  ∃ Φ2 γ2, ExR (fun e' slots T' ds' => e.a0m = e'.a0m ∧ InstR w' Φ2 T' ds' (Y4 a slots) γ2 ∧ PostR w Φ γ T ds w' Φ2 γ2 T' ds') l y
 | [], y, h => by simp [D7] at h
 | [(e1, slots, T')], y, h => by
   simp only [D7] at h
   split at h
   case isFalse => cases h
   rename_i he
   split at h
   case h_2 => cases h
   rename_i vs hvs
   split at h
   case h_2 => cases h
   rename_i d ρ s1 hpk
   cases h
   obtain ⟨Φ2, β2, hP⟩ := J5 hr (I4 hr hvs) hpk
   exact ⟨Φ2, _, by rw [he], hP.inst, a3B hkid hkw hkβ hkh hP⟩
 | (e1, slots, T') :: b :: r, y, h => by
   simp only [D7] at h
   split at h
   · rename_i d ρ s1 hd
     split at hd
     case isFalse => cases hd
     rename_i he
     split at hd
     case h_2 => cases hd
     rename_i vs hvs
     cases h
     obtain ⟨Φ2, β2, hP⟩ := J5 hr (I4 hr hvs) hd
     exact ⟨Φ2, _, by rw [he], hP.inst, a3B hkid hkw hkβ hkh hP⟩
   · split at h
     case h_2 => cases h
     rename_i d hd
     cases h
     obtain ⟨Φ2, γ2, g⟩ := a1d hkid hkw hkβ hkh hr (l := b :: r) hd
     exact ⟨Φ2, γ2, g⟩
theorem a2X {κ n : Nat} {fix : Nat → Option Value} {ds : List Dyn} {y : (G7 (cx.bk κ).exits).denote} {e : Ex} {a : Act} (hr : Rel w Φ (a1W w γ ((cx.bk κ).ins.heap ds)) ⟨n, fix, fun _ _ => False, E1 (cx.bk κ).ins, w, γ, (cx.bk κ).ins.heap ds⟩ w' Φ' β s a)
  (h : D7 (u0 0 (cx.bk κ).ins.objs) (cx.bk κ).exits e s = some y) : a7N cx κ n fix w Φ γ ds y e.a0m a w' := by
 obtain ⟨Φ2, γ2, g⟩ := a1d (N := ⟨n, fix, fun _ _ => False, E1 (cx.bk κ).ins, w, γ, (cx.bk κ).ins.heap ds⟩) (w := w) (γ := γ) (ds := ds) rfl rfl rfl rfl hr h
 exact ⟨hr.size, hr.fix, hr.defers, Φ2, γ2, g⟩
theorem b3a (hok : AllOk P cx) {n κ : Nat} {c : Code} {fix : Nat → Option Value} (hb : p7 [] n c = true) (hh : Hints P cx n H c) {d : (cx.bk κ).ins.ct.denote}
  {y : (G7 (cx.bk κ).exits).denote} (h : a6t cx H κ (.tail c) d = some y) (hf : ∀ t v, fix t = some v → p7 [t] n c = true) (h1 : ∀ t v, fix t = some v → a.tmps.getD t undef = v) (h2 : a.tmps.size = n) (h3 : a.defers = []) (hg : cx.gp w Φ)
  (hi : InstR w Φ (cx.bk κ).ins (m4 (cx.bk κ).ins.cts d) (Y4 a (cx.bk κ).slots) γ) : c.wp P (a7N cx κ n fix w Φ γ (m4 (cx.bk κ).ins.cts d) y) a w := by
 haveI := GlobR.enter hok.gpm hg hi
 have hr0 := a4s (a := a) (slots := (cx.bk κ).slots) (fix := fix) hi h2 h1 h3
 refine G6 (N := ⟨n, fix, fun _ _ => False, E1 (cx.bk κ).ins, w, γ, (cx.bk κ).ins.heap (m4 (cx.bk κ).ins.cts d)⟩) hok (fun _ _ h => h) c hb hf hh hr0 (fun e s' a' w' Φ' β' hr' h' => a2X hr' h') h
theorem b2v (hok : AllOk P cx) {n κ m id : Nat} {c : Code} {fix : Nat → Option Value} (hb : p7 [] n c = true) (hh : Hints P cx n H c)
  (ih : b0q cx n κ c (fun Q a w => Code.rounds P c (Exit.inBlock id Q) m a w))
  (halt : ∀ κ2, H.al κ = some κ2 → b0q cx n κ2 c (fun Q a w => Code.rounds P c (Exit.inBlock id Q) m a w) ∧ ∀ t ∈ (cx.bk κ2).keep, p7 [t] n c = true) {d : (cx.bk κ).ins.ct.denote}
  {y : (G7 (cx.bk κ).exits).denote} (h : a6t cx H κ (.loop id c) d = some y) (hf : ∀ t v, fix t = some v → p7 [t] n c = true) (h1 : ∀ t v, fix t = some v → a.tmps.getD t undef = v) (h2 : a.tmps.size = n) (h3 : a.defers = []) (hg : cx.gp w Φ)
  (hi : InstR w Φ (cx.bk κ).ins (m4 (cx.bk κ).ins.cts d) (Y4 a (cx.bk κ).slots) γ) : Code.rounds P c (Exit.inBlock id (a7N cx κ n fix w Φ γ (m4 (cx.bk κ).ins.cts d) y)) (m + 1) a w := by
 haveI := GlobR.enter hok.gpm hg hi
 have hr0 := a4s (a := a) (slots := (cx.bk κ).slots) (fix := fix) hi h2 h1 h3
 rw [rounds_succ]
 refine G6 (N := ⟨n, fix, fun _ _ => False, E1 (cx.bk κ).ins, w, γ, (cx.bk κ).ins.heap (m4 (cx.bk κ).ins.cts d)⟩) hok (fun _ _ h => h) c hb hf hh hr0 (fun e s' a' w' Φ' β' hr' h' => ?_) h
 cases e with
 | ret => exact a2X (e := .ret) hr' h'
 | out id' =>
   show (if id' = id then a7N cx κ n fix w Φ γ _ y .normal a' w' else a7N cx κ n fix w Φ γ _ y (.exit id') a' w')
   simp only at h'
   cases hbq : Nat.beq id' id with
   | true => rw [hbq] at h'; rw [if_pos (Nat.eq_of_beq_eq_true hbq)]; exact a2X (e := .norm) hr' h'
   | false => rw [hbq] at h'; rw [if_neg (fun e => by rw [e, Nat.beq_refl] at hbq; cases hbq)]; exact a2X (e := .out id') hr' h'
 | norm =>
   simp only at h'
   split at h'
   case h_2 => cases h'
   rename_i vs hvs
   split at h'
   case h_2 =>
    split at h'
    case h_2 => cases h'
    rename_i κ2 hκ2
    obtain ⟨hrun, hkeep⟩ := halt κ2 hκ2
    show Code.rounds P c (Exit.inBlock id (a7N cx κ n fix w Φ γ _ y)) m a' w'
    refine a3h (N := ⟨n, fix, fun _ _ => False, E1 (cx.bk κ).ins, w, γ, (cx.bk κ).ins.heap (m4 (cx.bk κ).ins.cts d)⟩) (run := fun Q a w => Code.rounds P c (Exit.inBlock id Q) m a w) (fun {Q Q'} hq a w g => a1s (fun e a w g => ?_) m g) hrun hkeep hf hr' (fun e s2 a2 w2 Φ2 β2 hr2 hk2 => a2X hr2 hk2) h'
    cases e with
    | exit id' =>
      simp only [Exit.inBlock] at g ⊢
      split at g
      · rename_i he; rw [if_pos he]; exact hq _ _ _ g
      · rename_i he; rw [if_neg he]; exact hq _ _ _ g
    | _ => exact hq _ _ _ g
   rename_i d' ρ s1 hpk
   obtain ⟨Φ2, β2, hP⟩ := J5 hr' (I4 hr' hvs) hpk
   have hpost := a3B (N := ⟨n, fix, fun _ _ => False, E1 (cx.bk κ).ins, w, γ, (cx.bk κ).ins.heap (m4 (cx.bk κ).ins.cts d)⟩) (w := w) (γ := γ) (T := (cx.bk κ).ins) (ds := m4 (cx.bk κ).ins.cts d) rfl rfl rfl rfl hP
   show Code.rounds P c (Exit.inBlock id (a7N cx κ n fix w Φ γ _ y)) m a' w'
   have := ih d' y h' w' Φ2 a' _ fix hf hr'.fix hr'.size hr'.defers (GlobR.get this hP.rel) hP.inst
   refine a1s (fun e a w2 g => ?_) m this
   have tr : ∀ {ex a w2}, a7N cx κ n fix w' Φ2 (fun k => (ρ.at k).bind β2) (m4 (cx.bk κ).ins.cts d') y ex a w2 → a7N cx κ n fix w Φ γ (m4 (cx.bk κ).ins.cts d) y ex a w2 :=
    fun ⟨k1, k2, k3, Φ3, γ3, k4⟩ => ⟨k1, k2, k3, Φ3, γ3, ExR.mono (fun e l T ds ⟨m1, m2, m3⟩ => ⟨m1, m2, hpost.trans m3⟩) k4⟩
   cases e with
   | exit id' =>
     simp only [Exit.inBlock] at g ⊢
     split at g
     · rename_i he; rw [if_pos he]; exact tr g
     · rename_i he; rw [if_neg he]; exact tr g
   | _ => exact tr g
end
variable {R S : Type}
theorem n3 {b : Bool} {x y : Option R} {k : R → Option S} : (bif b then x else y).bind k = bif b then x.bind k else y.bind k := by cases b <;> rfl
theorem b0y (e : Bool) (td : Option TD) (op : BinOp) (x y : SVal) (k : SVal → Option R) : b6t e td op x y k = (b6t e td op x y some).bind k := by
 unfold b6t
 repeat' split
 all_goals (first | rfl | (simp only [n3, bind_some, Option.bind_none]))
theorem b3V (op : UnOp) (x : SVal) (k : SVal → Option R) : unK op x k = (unK op x some).bind k := by
 unfold unK
 split <;> rfl
theorem a6g {A : Type} (lo hi : Option SVal) (len : Nat) (f : Nat → Nat → Option A) (k : A → Option R) : V9 lo hi len (fun a b => (f a b).bind k) = (V9 lo hi len f).bind k := by
 unfold V9
 split <;> simp only [n3, Option.bind_none]
theorem a2M {A R : Type} (kk : Nat → Option A) (k : A → Option R) : ∀ (n i : Nat), a0k n i (fun j => (kk j).bind k) = (a0k n i kk).bind k
 | 0, i => by simp only [a0k, n3, Option.bind_none]
 | n + 1, i => by simp only [a0k, n3, a2M kk k n i]
theorem b2e {A R : Type} (s : St) (id n h : Nat) (kk : Nat → Option A) (k : A → Option R) : a4g s id n h (fun j => (kk j).bind k) = (a4g s id n h kk).bind k := by
 unfold a4g
 split
 · exact a2M kk k _ _
 · rfl
theorem a7x (td : TD) (s : St) (x : SVal) (lo hi : Option SVal) (k : SVal → Option R) : a7w td s x lo hi k = (a7w td s x lo hi some).bind k := by
 unfold a7w
 repeat' split
 all_goals (first | rfl | (simp only [n3, ← a6g, bind_some, Option.bind_none]; done) | (simp only [n3, ← a6g, Option.bind_none, ← b2e, bind_some]))
theorem a8t (tab : Nat → Option TD) (td dd : TD) (b : Bool) (s : St) (v : SVal) (k : SVal → St → Option R) : a8s tab td dd b s v k = (a8s tab td dd b s v fun r s => some (r, s)).bind fun p => k p.1 p.2 := by
 unfold a8s
 repeat' split
 all_goals (first | rfl | (simp only [n3, bind_some, Option.bind_none]; done) | (simp only [n3, Option.bind_none]; congr 1; split <;> rfl))
theorem a5u (td : TD) (x hi mx : SVal) (k : SVal → Option R) : a3P td x hi mx k = (a3P td x hi mx some).bind k := by
 unfold a3P
 split
 · simp only [n3, bind_some, Option.bind_none]
 · rfl
theorem b0w (e : CT) (n : Nat) (agg : Bool) (cs : List Leaf) (j : Int) (k : SVal → Option R) : b5Q e n agg cs j k = (b5Q e n agg cs j some).bind k := by
 unfold b5Q
 split
 · simp only [n3, Option.bind_none, Option.bind_assoc]
   congr 1
   congr 1
   funext x
   split <;> rfl
 · rfl
theorem a6o (td : TD) (cs : List Leaf) (off : Nat) (k : SVal → Option R) : a4i td cs off k = (a4i td cs off some).bind k := by
 unfold a4i
 cases Nat.ble (off + td.size) cs.length
 · rfl
 · simp only [cond_true]; split <;> rfl
theorem a1L (s : St) (td : TD) (a : SVal) (k : SVal → Option R) : J4 s td a k = (J4 s td a some).bind k := by
 unfold J4
 repeat' split
 all_goals (first | rfl | exact a6o _ _ _ _ | (simp only [Option.bind_assoc]; congr 1; funext x; exact a6o _ _ _ _) | (simp only [n3, Option.bind_none]; congr 1; exact a6o _ _ _ _))
theorem b1D (id i : Nat) (e : CT) (y : e.denote) (s : St) (k : St → Option R) : b2M id i e y s k = (b2M id i e y s some).bind k := by
 unfold b2M
 repeat' split
 all_goals (first | rfl | (simp only [n3, bind_some, Option.bind_none]))
theorem b2W (s : St) (td : TD) (id i off : Nat) (e : CT) (l : List e.denote) (vs : List Leaf) (k : St → Option R) : a7D s td id i off e l vs k = (a7D s td id i off e l vs some).bind k := by
 unfold a7D
 repeat' split
 all_goals (first | rfl | (simp only [n3, bind_some, Option.bind_none, Option.bind_assoc]))
 all_goals
  congr 1
  congr 1
  all_goals first
   | rfl
   | (congr 1; exact b1D _ _ _ _ _ _)
   | (congr 1; funext x; split <;> first | rfl | exact b1D _ _ _ _ _ _)
theorem b2X (s : St) (td : TD) (a v : SVal) (k : St → Option R) : a4F s td a v k = (a4F s td a v some).bind k := by
 unfold a4F
 repeat' split
 all_goals (first | rfl | (simp only [n3, bind_some, Option.bind_none, Option.bind_assoc]; done) | (simp only [n3, bind_some, Option.bind_none, Option.bind_assoc]; rw [← b2W]))
theorem b7Y (s : St) (id i : Nat) (k : SVal → Option R) : b2E s id i k = (b2E s id i some).bind k := by
 unfold b2E
 split
 · exact a2M (fun i' => some (.one (.ptr id i'))) k _ _
 · rfl
theorem a4O (td : TD) (s : St) (x i : SVal) (k : St → Option R) : a9A td s x i k = (a9A td s x i some).bind k := by
 rfl
theorem a0Y (td : TD) (s : St) (x i : SVal) (k : SVal → Option R) : S1 td s x i k = (S1 td s x i some).bind k := by
 unfold S1
 repeat' split
 all_goals (first | rfl | (simp only [n3, bind_some, Option.bind_none, Option.bind_assoc]; done) | (simp only [n3, Option.bind_none]; rw [← b7Y]))
theorem V6 (s : St) (id : Nat) (e : CT) (p : Option (Nat × Nat)) (xs : List e.denote) (k : St → Option R) : a5M s id e p xs k = (a5M s id e p xs some).bind k := by
 rfl
theorem a4K (e : CT) (s : St) (x y : SVal) (k : SVal → St → Option R) : a2W e s x y k = (a2W e s x y fun v s => some (v, s)).bind fun p => k p.1 p.2 := by
 unfold a2W
 repeat' split
 all_goals (first | rfl | (simp only [n3, bind_some, Option.bind_none, Option.bind_assoc]))
theorem a6Z (k : SVal → Option R) : ∀ (j : IntKind) (a : Int) (l : List SVal), X3 k j a l = (X3 some j a l).bind k
 | j, a, [] => rfl
 | j, a, x :: r => by
   cases x with
   | one l => cases l <;> first | rfl | exact a6Z k j _ r
   | _ => rfl
theorem a7c (k : SVal → Option R) : ∀ (j : IntKind) (a : Int) (l : List SVal), X4 k j a l = (X4 some j a l).bind k
 | j, a, [] => rfl
 | j, a, x :: r => by
   cases x with
   | one l => cases l <;> first | rfl | exact a7c k j _ r
   | _ => rfl
theorem a3l (x : SVal) (i : Nat) (k : SVal → Option R) : a0V x i k = (a0V x i some).bind k := by
 unfold a0V
 repeat' split
 all_goals rfl
theorem a8M (s : St) (td : TD) (a : SVal) (k : SVal → St → Option R) : b3D s td a k = (b3D s td a fun v s => some (v, s)).bind fun p => k p.1 p.2 := by
 have hl : J4 s td a (fun r => k r s) = (J4 s td a fun r => some (r, s)).bind fun p => k p.1 p.2 := by
  rw [a1L]
  conv => rhs; rw [a1L]
  simp only [Option.bind_assoc, bind_some]
 exact hl
theorem a7E (s : St) (td : TD) (a v : SVal) (k : St → Option R) : b2Y s td a v k = (b2Y s td a v some).bind k := by
 exact b2X _ _ _ _ _
theorem a5a (td : TD) (s : St) (x i : SVal) (b : Bool) (k : SVal → St → Option R) : a9J td s x i b k = (a9J td s x i b fun v s => some (v, s)).bind fun p => k p.1 p.2 := by
 rfl
theorem V7 (td : TD) (s : St) (x i y : SVal) (k : St → Option R) : b0k td s x i y k = (b0k td s x i y some).bind k := by
 rfl
theorem a0W (td : TD) (x : SVal) (i : Nat) (k : SVal → Option R) : R6 td x i k = (R6 td x i some).bind k := by
 unfold R6
 repeat' split
 all_goals rfl
theorem a6y (td : TD) (x : SVal) (i : Nat) (k : SVal → Option R) : a6x td x i k = (a6x td x i some).bind k := by
 unfold a6x
 repeat' split
 all_goals rfl
end Go.Bm
end
section
open Option (bind_some)
namespace Go.Bm
set_option linter.unusedVariables false
set_option linter.unusedSimpArgs false
structure Tb where
 tab : Nat → Option TD
 eqt : Nat → Bool
 keys : Nat → List Nat
 lend : Nat → Bool
 mkr : Nat → Bool
 mt : Nat → String → Option (Nat × Option (Nat × Nat))
 gp : World → (Nat → Prop) → Prop
 gv : Nat → Option Dyn
 kin : Nat → Tm
 kouts : Nat → List Tm
 bk : Nat → Blk
abbrev Tb.RF (T : Tb) : Type := (φ : Nat) → (T.kin φ).ct.denote → Option (L8 (T.kouts φ)).denote
abbrev Tb.RB (T : Tb) : Type := (κ : Nat) → (T.bk κ).ins.ct.denote → Option (G7 (T.bk κ).exits).denote
abbrev Tb.cx (T : Tb) (rf : T.RF) (rb : T.RB) : Cx := ⟨T.tab, T.eqt, T.keys, T.lend, T.mkr, T.mt, T.gp, T.gv, T.kin, T.kouts, T.bk, rf, rb⟩
variable {R A : Type} {T : Tb}
theorem a0E {X : (A → Option R) → Option R} {X' : (A → Option St) → Option St} {Y : Option A} (h : ∀ k, X k = Y.bind k) (h' : ∀ k, X' k = Y.bind k) (g : A → St) (k : St → Option R) :
  X (fun r => k (g r)) = (X' fun r => some (g r)).bind k := by
 rw [h, h', Option.bind_assoc]; rfl
def a4v (o : Oper) : Option (Option String × Operand) := match o.op with
 | .call c => match c.callee with
   | .value f => some (none, f)
   | .invoke x name => some (some name, x)
   | _ => none
 | _ => none
def b6x (cx : Cx) : Option String → SVal → List SVal → St → (SVal → St → Option R) → Option R
 | none => a8r cx
 | some name => b3v cx name
theorem c6b {X : (A → St → Option R) → Option R} {X' : (A → St → Option St) → Option St} {Y : Option (A × St)} (h : ∀ k, X k = Y.bind fun p => k p.1 p.2) (h' : ∀ k, X' k = Y.bind fun p => k p.1 p.2) (g : A → St → St) (k : St → Option R) :
  X (fun r s => k (g r s)) = (X' fun r s => some (g r s)).bind k := by
 rw [h, h', Option.bind_assoc]; rfl
theorem a9j (rf rf' : T.RF) (rb rb' : T.RB) (o : Oper) (s : St) (k : St → Option R) (hc : a4v o = none) : j0 (T.cx rf rb) o s k = (j0 (T.cx rf' rb') o s some).bind k := by
 unfold j0
 dsimp only [Tb.cx]
 split
 · split <;> rfl
 · split <;> rfl
 · repeat' split
   all_goals (first | rfl | simp only [n3, bind_some, Option.bind_none])
   all_goals (congr 1 <;> split <;> rfl)
 · split <;> rfl
 · repeat' split
   all_goals (first | rfl | simp only [n3, bind_some, Option.bind_none])
 · repeat' split
   all_goals rfl
 · repeat' split
   all_goals (first | rfl | (simp only [n3, bind_some, Option.bind_none]; done) | (simp only [n3, bind_some, Option.bind_none]; congr 1; (repeat' split) <;> rfl))
 · split
   · split
     · exact a0E (fun k => a1L _ _ _ k) (fun k => a1L _ _ _ k) _ k
     · rfl
   · split
     · exact c6b (fun k => a8M _ _ _ k) (fun k => a8M _ _ _ k) _ k
     · rfl
 · split
   · exact a0E (fun k => a7E _ _ _ _ k) (fun k => a7E _ _ _ _ k) _ k
   · rfl
 · split <;> rfl
 · split
   · exact a0E (fun k => b0y _ _ _ _ _ k) (fun k => b0y _ _ _ _ _ k) _ k
   · rfl
 · split
   · exact a0E (fun k => b3V _ _ k) (fun k => b3V _ _ k) _ k
   · rfl
 · split
   · rfl
   · rfl
   · exact c6b (fun k => a8t _ _ _ _ _ _ k) (fun k => a8t _ _ _ _ _ _ k) _ k
   · rfl
 · repeat' split
   all_goals (first | rfl | simp only [n3, bind_some, Option.bind_none])
 · split
   · split
     · exact a0E (fun k => a7x _ _ _ _ _ k) (fun k => a7x _ _ _ _ _ k) _ k
     · rfl
   · rfl
 · split
   · exact a0E (fun k => a5u _ _ _ _ k) (fun k => a5u _ _ _ _ k) _ k
   · rfl
 · split
   · exact a0E (fun k => a0W _ _ _ k) (fun k => a0W _ _ _ k) _ k
   · rfl
 · split
   · exact a0E (fun k => a6y _ _ _ k) (fun k => a6y _ _ _ k) _ k
   · rfl
 · split
   · exact a0E (fun k => a0Y _ _ _ _ k) (fun k => a0Y _ _ _ _ k) _ k
   · rfl
 · split
   · simp only [n3, bind_some, Option.bind_none, Option.bind_assoc]
   · exact a0E (fun k => b0w _ _ _ _ _ k) (fun k => b0w _ _ _ _ _ k) _ k
   · rfl
 · split
   · exact a0E (fun k => a3l _ _ k) (fun k => a3l _ _ k) _ k
   · rfl
 · split <;> rfl
 · split
   · exact c6b (fun k => a5a _ _ _ _ _ k) (fun k => a5a _ _ _ _ _ k) _ k
   · rfl
 · split
   · exact a0E (fun k => V7 _ _ _ _ _ k) (fun k => V7 _ _ _ _ _ k) _ k
   · rfl
 · split
   · exact a0E (fun k => V7 _ _ _ _ _ k) (fun k => V7 _ _ _ _ _ k) _ k
   · rfl
 · split <;> rfl
 · rename_i c ho
   split
   · repeat' split
     all_goals rfl
   · split
     · cases Nat.beq _ _
       · rfl
       · simp only [cond_true]
         split
         · simp only [n3]
           congr 1
           rw [a4K]
           conv => rhs; rw [a4K]
           simp only [Option.bind_assoc, bind_some, Option.bind_none]
         · rfl
     · rfl
   · split
     · split
       · exact a0E (fun k => V6 _ _ _ _ _ k) (fun k => V6 _ _ _ _ _ k) _ k
       · rfl
     · rfl
   · split
     · split
       · exact a0E (fun k => a4O _ _ _ _ k) (fun k => a4O _ _ _ _ k) _ k
       · rfl
     · rfl
   · split
     · split
       · simp only [n3, Option.bind_none]
         congr 1
         split
         · exact a0E (fun k => V6 _ _ _ _ _ k) (fun k => V6 _ _ _ _ _ k) _ k
         · rfl
       · rfl
     · rfl
   · split
     · exact a0E (fun k => a6Z k _ _ _) (fun k => a6Z k _ _ _) _ k
     · rfl
   · split
     · exact a0E (fun k => a7c k _ _ _) (fun k => a7c k _ _ _) _ k
     · rfl
   · rename_i f hf
     simp [a4v, ho, hf] at hc
   · rename_i x nm hf
     simp [a4v, ho, hf] at hc
   · rfl
 · split <;> rfl
 · split
   · simp only [n3, bind_some, Option.bind_none]
   · rfl
 · rfl
theorem a7y (cx : Cx) {o : Oper} {f : Option String × Operand} (hc : a4v o = some f) (s : St) (k : St → Option R) : ∃ c : Call, o.op = .call c ∧ j0 cx o s k = match l7 s.env f.2, K5 s.env c.args.toList with
   | some v, some vs => b6x cx f.1 v vs s fun r s' => k (s'.set o.dst r)
   | _, _ => none := by
 unfold a4v at hc
 split at hc
 · rename_i c ho
   split at hc
   · rename_i f' hf
     cases hc
     exact ⟨c, ho, by simp only [j0, ho, hf]; rfl⟩
   · rename_i f' nm hf
     cases hc
     exact ⟨c, ho, by simp only [j0, ho, hf]; rfl⟩
   · cases hc
 · cases hc
end Go.Bm
end
section
namespace Go.Bm
set_option linter.unusedVariables false
set_option linter.unusedSimpArgs false
def Evt (p : Nat → Prop) : Prop := ∃ N, ∀ n, N ≤ n → p n
theorem Evt.all {p : Nat → Prop} (h : ∀ n, p n) : Evt p := ⟨0, fun n _ => h n⟩
theorem Evt.mono {p q : Nat → Prop} (h : Evt p) (g : ∀ n, p n → q n) : Evt q := by obtain ⟨N, h⟩ := h; exact ⟨N, fun n hn => g n (h n hn)⟩
theorem Evt.and {p q : Nat → Prop} (h : Evt p) (g : Evt q) : Evt fun n => p n ∧ q n := by
 obtain ⟨N, h⟩ := h; obtain ⟨M, g⟩ := g
 exact ⟨max N M, fun n hn => ⟨h n (by omega), g n (by omega)⟩⟩
variable {R : Type} {T : Tb} {rfi : T.RF} {rbi : T.RB} {rf : Nat → T.RF} {rb : Nat → T.RB}
def T9 (rfi : T.RF) (rf : Nat → T.RF) : Prop := ∀ f d y, rfi f d = some y → Evt fun n => rf n f d = some y
def a8l (rbi : T.RB) (rb : Nat → T.RB) : Prop := ∀ κ d y, rbi κ d = some y → Evt fun n => rb n κ d = some y
theorem a6S {T' : Tm} {ρ : Rho} {s : St} {ki : SVal → St → Option R} {k : Nat → SVal → St → Option R} {r : R} (hk : ∀ v s', ki v s' = some r → Evt fun n => k n v s' = some r) : ∀ {l : List Tm} {y : (L8 l).denote},
  P1 T' ρ s l y ki = some r → Evt fun n => P1 T' ρ s l y (k n) = some r
 | [], y, h => by cases h
 | [T2], y, h => by
   simp only [P1] at h ⊢
   cases hv : C5 (R0 T' ρ T2 (m4 T2.cts y) s) with
   | none => rw [hv] at h; cases h
   | some v => rw [hv] at h; exact hk _ _ h
 | T2 :: b :: r', .inl y, h => by
   simp only [P1] at h ⊢
   cases hv : C5 (R0 T' ρ T2 (m4 T2.cts y) s) with
   | none => rw [hv] at h; cases h
   | some v => rw [hv] at h; exact hk _ _ h
 | T2 :: b :: r', .inr y, h => by
   simp only [P1] at h ⊢
   exact a6S hk (l := b :: r') h
theorem a6T {s : St} {ki : SVal → St → Option R} {k : Nat → SVal → St → Option R} {r : R} (hk : ∀ v s', ki v s' = some r → Evt fun n => k n v s' = some r) : ∀ {l : List Tm} {y : (L8 l).denote},
  P2 s l y ki = some r → Evt fun n => P2 s l y (k n) = some r
 | [], y, h => by cases h
 | [T2], y, h => by
   simp only [P2] at h ⊢
   cases hb : T2.objs.isEmpty && (T2.I9 (m4 T2.cts y)).all SVal.flat with
   | false => rw [hb] at h; cases h
   | true =>
     rw [hb] at h
     cases hv : C5 (T2.I9 (m4 T2.cts y)) with
     | none => rw [hv] at h; cases h
     | some v => rw [hv] at h; exact hk _ _ h
 | T2 :: b :: r', .inl y, h => by
   simp only [P2] at h ⊢
   cases hb : T2.objs.isEmpty && (T2.I9 (m4 T2.cts y)).all SVal.flat with
   | false => rw [hb] at h; cases h
   | true =>
     rw [hb] at h
     cases hv : C5 (T2.I9 (m4 T2.cts y)) with
     | none => rw [hv] at h; cases h
     | some v => rw [hv] at h; exact hk _ _ h
 | T2 :: b :: r', .inr y, h => by
   simp only [P2] at h ⊢
   exact a6T hk (l := b :: r') h
theorem a4M (hf : T9 rfi rf) {args : List SVal} {s : St} {ki : SVal → St → Option R} {k : Nat → SVal → St → Option R} {r : R} (hk : ∀ v s', ki v s' = some r → Evt fun n => k n v s' = some r) : ∀ (l : List Nat),
  U1 (T.cx rfi rbi) args s ki l = some r → Evt fun n => U1 (T.cx (rf n) (rb n)) args s (k n) l = some r
 | [], h => by cases h
 | φ :: l, h => by
   simp only [U1] at h ⊢
   dsimp only [Tb.cx] at h ⊢
   cases hp : a2G (T.kin φ) args s with
   | none => rw [hp] at h; exact a4M hf hk l h
   | some p =>
     obtain ⟨d, ρ, s1⟩ := p
     rw [hp] at h
     obtain ⟨y, h1, h2⟩ := Option.bind_eq_some_iff.1 h
     cases hl : T.lend φ with
     | false =>
       rw [hl] at h2
       exact ((hf φ d y h1).and (a6S hk h2)).mono fun n hn => by simp only [hn.1, Option.bind_some, cond_false]; exact hn.2
     | true =>
       rw [hl] at h2
       cases hb : (T.kin φ).objs.isEmpty with
       | false => rw [hb] at h2; cases h2
       | true =>
         rw [hb] at h2
         exact ((hf φ d y h1).and (a6T hk h2)).mono fun n hn => by simp only [hn.1, Option.bind_some, cond_true]; exact hn.2
theorem b4H (hf : T9 rfi rf) {v : SVal} {args : List SVal} {s : St} {ki : SVal → St → Option R} {k : Nat → SVal → St → Option R} {r : R} (hk : ∀ v s', ki v s' = some r → Evt fun n => k n v s' = some r)
  (h : a8r (T.cx rfi rbi) v args s ki = some r) : Evt fun n => a8r (T.cx (rf n) (rb n)) v args s (k n) = some r := by
 unfold a8r at h ⊢
 split at h
 · exact a4M hf hk _ h
 · cases h
theorem b4I (hf : T9 rfi rf) {m : Option String} {v : SVal} {args : List SVal} {s : St} {ki : SVal → St → Option R} {k : Nat → SVal → St → Option R} {r : R} (hk : ∀ v s', ki v s' = some r → Evt fun n => k n v s' = some r)
  (h : b6x (T.cx rfi rbi) m v args s ki = some r) : Evt fun n => b6x (T.cx (rf n) (rb n)) m v args s (k n) = some r := by
 cases m with
 | none => exact b4H hf hk h
 | some name => exact absurd (show (none : Option R) = some r from h) (by simp)
theorem Y5 (hf : T9 rfi rf) {o : Oper} {s : St} {ki : St → Option R} {k : Nat → St → Option R} {r : R} (hk : ∀ s', ki s' = some r → Evt fun n => k n s' = some r)
  (h : j0 (T.cx rfi rbi) o s ki = some r) : Evt fun n => j0 (T.cx (rf n) (rb n)) o s (k n) = some r := by
 cases hc : a4v o with
 | none =>
   rw [a9j rfi rfi rbi rbi o s ki hc] at h
   obtain ⟨s', h1, h2⟩ := Option.bind_eq_some_iff.1 h
   exact (hk s' h2).mono fun n hn => by rw [a9j (rf n) rfi (rb n) rbi o s (k n) hc, h1]; exact hn
 | some f =>
   obtain ⟨c, ho, e⟩ := a7y (T.cx rfi rbi) hc s ki
   rw [e] at h
   split at h
   case h_2 => cases h
   rename_i v vs hv hvs
   refine (b4I (rb := rb) (k := fun n r s' => k n (s'.set o.dst r)) hf (fun v s' h' => hk _ h') h).mono fun n hn => ?_
   obtain ⟨c', ho', e'⟩ := a7y (T.cx (rf n) (rb n)) hc s (k n)
   rw [ho] at ho'; cases ho'
   rw [e', hv, hvs]
   exact hn
theorem M5 {b want : Bool} {d : Nat} {dst : Option Nat} {s : St} {yi ni : St → Option R} {y n : Nat → St → Option R} {r : R} (hy : ∀ s', yi s' = some r → Evt fun i => y i s' = some r) (hn : ∀ s', ni s' = some r → Evt fun i => n i s' = some r)
  (h : R9 b want d dst s yi ni = some r) : Evt fun i => R9 b want d dst s (y i) (n i) = some r := by
 cases b <;> cases want <;> first | exact hy _ h | exact hn _ h
theorem a8C (hf : T9 rfi rf) {all : List Oper} {ki : St → Option R} {k : Nat → St → Option R} {r : R} (hk : ∀ s', ki s' = some r → Evt fun n => k n s' = some r) : ∀ (l : List Oper) (s : St),
  H9 (T.cx rfi rbi) all l s ki = some r → Evt fun n => H9 (T.cx (rf n) (rb n)) all l s (k n) = some r
 | [], s, h => hk s h
 | o :: l, s, h => by
   have ih := a8C (all := all) hf hk l
   simp only [H9] at h ⊢
   have yes : ∀ s', j0 (T.cx rfi rbi) o s' (fun s'' => H9 (T.cx rfi rbi) all l s'' ki) = some r → Evt fun n => j0 (T.cx (rf n) (rb n)) o s' (fun s'' => H9 (T.cx (rf n) (rb n)) all l s'' (k n)) = some r :=
    fun s' h' => Y5 (k := fun n s'' => H9 (T.cx (rf n) (rb n)) all l s'' (k n)) hf (fun s'' h'' => ih s'' h'') h'
   cases hg : o.guard with
   | none =>
     rw [hg] at h
     exact (yes s h).mono fun n hn => hn
   | some jw =>
     obtain ⟨j, want⟩ := jw
     rw [hg] at h
     cases hd : (nth all j).bind (·.dst) with
     | none => simp only [hd] at h; cases h
     | some d =>
       simp only [hd] at h ⊢
       cases hl : look s.env d with
       | none => rw [hl] at h; cases h
       | some v =>
         rw [hl] at h
         cases v with
         | one l' =>
           cases l' with
           | bool b =>
             cases b
             · exact M5 (b := false) (y := fun n s => j0 (T.cx (rf n) (rb n)) o s fun s' => H9 (T.cx (rf n) (rb n)) all l s' (k n)) (n := fun n s => H9 (T.cx (rf n) (rb n)) all l s (k n)) yes ih h
             · exact M5 (b := true) (y := fun n s => j0 (T.cx (rf n) (rb n)) o s fun s' => H9 (T.cx (rf n) (rb n)) all l s' (k n)) (n := fun n s => H9 (T.cx (rf n) (rb n)) all l s (k n)) yes ih h
           | _ => cases h
         | skip => exact ih _ h
         | _ => cases h
theorem a8A (hf : T9 rfi rf) {all : List Oper} {o : Oper} {s : St} {ki : St → Option R} {k : Nat → St → Option R} {r : R} (hk : ∀ s', ki s' = some r → Evt fun n => k n s' = some r)
  (h : a4R (T.cx rfi rbi) all o s ki = some r) : Evt fun n => a4R (T.cx (rf n) (rb n)) all o s (k n) = some r := by
 unfold a4R at h ⊢
 cases hg : o.guard with
 | none => rw [hg] at h; exact Y5 hf hk h
 | some jw =>
   obtain ⟨j, want⟩ := jw
   rw [hg] at h
   cases hd : (nth all j).bind (·.dst) with
   | none => simp only [hd] at h; cases h
   | some d =>
     simp only [hd] at h ⊢
     cases hl : look s.env d with
     | none => rw [hl] at h; cases h
     | some v =>
       rw [hl] at h
       cases v with
       | one l' =>
         cases l' with
         | bool b =>
           cases b
           · exact M5 (b := false) (y := fun n s => j0 (T.cx (rf n) (rb n)) o s (k n)) (n := fun n s => k n s) (fun s' h' => Y5 hf hk h') hk h
           · exact M5 (b := true) (y := fun n s => j0 (T.cx (rf n) (rb n)) o s (k n)) (n := fun n s => k n s) (fun s' h' => Y5 hf hk h') hk h
         | _ => cases h
       | skip => exact hk _ h
       | _ => cases h
theorem a4E (hf : T9 rfi rf) {o : Oper} {s : St} {ki : St → Option R} {k : Nat → St → Option R} {r : R} (hk : ∀ s', ki s' = some r → Evt fun n => k n s' = some r)
  (h : stepT (T.cx rfi rbi) o s ki = some r) : Evt fun n => stepT (T.cx (rf n) (rb n)) o s (k n) = some r := by
 unfold stepT at h ⊢
 cases hs : C1 o s with
 | false => rw [hs] at h; cases h
 | true => rw [hs] at h; exact Y5 hf hk h
theorem b4O (hf : T9 rfi rf) {all : List Oper} {o : Oper} {s : St} {ki : St → Option R} {k : Nat → St → Option R} {r : R} (hk : ∀ s', ki s' = some r → Evt fun n => k n s' = some r)
  (h : a8B (T.cx rfi rbi) all o s ki = some r) : Evt fun n => a8B (T.cx (rf n) (rb n)) all o s (k n) = some r := by
 unfold a8B at h ⊢
 cases hg : o.guard with
 | none => rw [hg] at h; exact a4E hf hk h
 | some jw =>
   obtain ⟨j, want⟩ := jw
   rw [hg] at h
   cases hd : (nth all j).bind (·.dst) with
   | none => simp only [hd] at h; cases h
   | some d =>
     simp only [hd] at h ⊢
     cases hl : look s.env d with
     | none => rw [hl] at h; cases h
     | some v =>
       rw [hl] at h
       cases v with
       | one l' =>
         cases l' with
         | bool b =>
           cases b
           · exact M5 (b := false) (y := fun n s => stepT (T.cx (rf n) (rb n)) o s (k n)) (n := fun n s => k n s) (fun s' h' => a4E hf hk h') hk h
           · exact M5 (b := true) (y := fun n s => stepT (T.cx (rf n) (rb n)) o s (k n)) (n := fun n s => k n s) (fun s' h' => a4E hf hk h') hk h
         | _ => cases h
       | skip => exact hk _ h
       | _ => cases h
theorem b5N {x y : Option R} {r : R} (h1 : x = some r) (h2 : y = some r) : j8 x y = some r := by rw [h1, h2, l0]
theorem W7 (hf : T9 rfi rf) {all : List Oper} {ki : St → Option R} {k : Nat → St → Option R} {r : R} (hk : ∀ s', ki s' = some r → Evt fun n => k n s' = some r) : ∀ (t : OrdT) (s : St),
  J3 (T.cx rfi rbi) all t s ki = some r → Evt fun n => J3 (T.cx (rf n) (rb n)) all t s (k n) = some r
 | .done, s, h => hk s h
 | .take i t, s, h => by
   simp only [J3] at h ⊢
   cases ho : nth all i with
   | none => rw [ho] at h; cases h
   | some o =>
     rw [ho] at h
     exact b4O (k := fun n s' => J3 (T.cx (rf n) (rb n)) all t s' (k n)) hf (fun s' h' => W7 hf hk t s' h') h
 | .only i t, s, h => by
   simp only [J3] at h ⊢
   cases ho : nth all i with
   | none => rw [ho] at h; cases h
   | some o =>
     rw [ho] at h
     obtain ⟨hrf, h⟩ := g8 h
     simp only [hrf, cond_true]
     exact a8A (k := fun n s' => J3 (T.cx (rf n) (rb n)) all t s' (k n)) hf (fun s' h' => W7 hf hk t s' h') h
 | .alt i t q, s, h => by
   simp only [J3] at h ⊢
   cases ho : nth all i with
   | none => rw [ho] at h; cases h
   | some o =>
     rw [ho] at h
     obtain ⟨hrf, h⟩ := g8 h
     simp only [hrf, cond_true]
     obtain ⟨h1, h2⟩ := Z1 h
     exact ((a8A (k := fun n s' => J3 (T.cx (rf n) (rb n)) all t s' (k n)) hf (fun s' h' => W7 hf hk t s' h') h1).and (W7 hf hk q s h2)).mono fun n hn => b5N hn.1 hn.2
theorem a3r {T' : Tm} {ρ : Rho} {keep : List Nat} {s : St} {ki : Ex → St → Option R} {k : Nat → Ex → St → Option R} {r : R} (hk : ∀ e s', ki e s' = some r → Evt fun n => k n e s' = some r) : ∀ {l : List (Ex × List Nat × Tm)} {y : (G7 l).denote},
  X2 T' ρ keep s l y ki = some r → Evt fun n => X2 T' ρ keep s l y (k n) = some r
 | [], y, h => by cases h
 | [(e, slots, T2)], y, h => hk _ _ h
 | (e, slots, T2) :: b :: r', .inl y, h => hk _ _ h
 | (e, slots, T2) :: b :: r', .inr y, h => a3r hk (l := b :: r') h
theorem Z5 (hb : a8l rbi rb) {κ : Nat} {s : St} {ki : Ex → St → Option R} {k : Nat → Ex → St → Option R} {r : R} (hk : ∀ e s', ki e s' = some r → Evt fun n => k n e s' = some r)
  (h : I2 (T.cx rfi rbi) κ s ki = some r) : Evt fun n => I2 (T.cx (rf n) (rb n)) κ s (k n) = some r := by
 unfold I2 at h ⊢
 dsimp only [Tb.cx] at h ⊢
 cases hl : N9 s.env (T.bk κ).slots with
 | none => rw [hl] at h; cases h
 | some vs =>
   simp only [hl] at h ⊢
   cases hp : a2G (T.bk κ).ins vs s with
   | none => rw [hp] at h; cases h
   | some p =>
     obtain ⟨d, ρ, s1⟩ := p
     simp only [hp] at h ⊢
     obtain ⟨y, h1, h2⟩ := Option.bind_eq_some_iff.1 h
     exact ((hb κ _ y h1).and (a3r hk h2)).mono fun n hn => by rw [hn.1]; exact hn.2
theorem a8Q {bi : St → (Ex → St → Option R) → Option R} {b : Nat → St → (Ex → St → Option R) → Option R} {r : R}
  (hbd : ∀ (ki : Ex → St → Option R) (k : Nat → Ex → St → Option R) (s : St), (∀ e s', ki e s' = some r → Evt fun n => k n e s' = some r) → bi s ki = some r → Evt fun n => b n s (k n) = some r)
  {ki : Ex → St → Option R} {k : Nat → Ex → St → Option R} (hk : ∀ e s', ki e s' = some r → Evt fun n => k n e s' = some r) : ∀ (m : Nat) (s : St), a3v bi m s ki = some r → Evt fun n => a3v (b n) m s (k n) = some r
 | 0, s, h => by cases h
 | m + 1, s, h => by
   simp only [a3v] at h ⊢
   refine hbd _ (fun n e s' => match e with
    | .norm => a3v (b n) m s' (k n)
    | .out id => k n (.out id) s'
    | .ret => k n .ret s') s (fun e s' h' => ?_) h
   cases e with
   | norm => exact a8Q hbd hk m s' h'
   | out id => exact hk _ _ h'
   | ret => exact hk _ _ h'
theorem R5 (hf : T9 rfi rf) (hb : a8l rbi rb) {H : Hn} {r : R} : ∀ (c : Code) (ki : Ex → St → Option R) (k : Nat → Ex → St → Option R) (s : St), (∀ e s', ki e s' = some r → Evt fun n => k n e s' = some r) →
  ev (T.cx rfi rbi) H c s ki = some r → Evt fun n => ev (T.cx (rf n) (rb n)) H c s (k n) = some r
 | .skip, ki, k, s, hk, h => hk _ _ h
 | .region _ ops false, ki, k, s, hk, h => a8C (k := fun n => k n .norm) hf (fun s' h' => hk _ _ h') _ s h
 | .region id ops true, ki, k, s, hk, h => by
   simp only [ev] at h ⊢
   cases hd : H.dk id with
   | none => rw [hd] at h; cases h
   | some p =>
     obtain ⟨slots, t⟩ := p
     rw [hd] at h
     exact W7 (k := fun n s' => k n .norm { s' with hold := [] }) hf (fun s' h' => hk _ _ h') t _ h
 | .seq a b, ki, k, s, hk, h => by
   simp only [ev] at h ⊢
   refine R5 hf hb a _ (fun n e s' => match e with
    | .norm => match (B6 b).bind H.tk with
      | some κ => I2 (T.cx (rf n) (rb n)) κ s' (k n)
      | none => ev (T.cx (rf n) (rb n)) H b s' (k n)
    | .out id => k n (.out id) s'
    | .ret => k n .ret s') s (fun e s' h' => ?_) h
   cases e with
   | norm =>
     simp only at h' ⊢
     cases ht : (B6 b).bind H.tk with
     | none => rw [ht] at h'; exact R5 hf hb b ki k s' hk h'
     | some κ => rw [ht] at h'; exact Z5 hb hk h'
   | out id => exact hk _ _ h'
   | ret => exact hk _ _ h'
 | .cond c a b, ki, k, s, hk, h => by
   simp only [ev] at h ⊢
   cases hc : l7 s.env c with
   | none => rw [hc] at h; cases h
   | some v =>
     rw [hc] at h
     cases v with
     | one l =>
       cases l with
       | bool t =>
         cases t
         · exact R5 hf hb b ki k s hk h
         · exact R5 hf hb a ki k s hk h
       | anyb =>
         obtain ⟨h1, h2⟩ := Z1 h
         refine ((R5 hf hb a ki k s hk h1).and (R5 hf hb b ki k s hk h2)).mono fun n hn => ?_
         show j8 _ _ = some r
         rw [hn.1, hn.2]; exact l0 _
       | _ => cases h
     | _ => cases h
 | .block id c, ki, k, s, hk, h => by
   simp only [ev] at h ⊢
   cases hl : H.lk id with
   | some κ => rw [hl] at h; exact Z5 hb hk h
   | none =>
     rw [hl] at h
     refine R5 hf hb c _ (fun n e s' => match e with
      | .out id' => bif Nat.beq id' id then k n .norm s' else k n (.out id') s'
      | .norm => k n .norm s'
      | .ret => k n .ret s') s (fun e s' h' => ?_) h
     cases e with
     | norm => exact hk _ _ h'
     | ret => exact hk _ _ h'
     | out id' =>
       simp only at h' ⊢
       cases hq : Nat.beq id' id with
       | true => rw [hq] at h'; exact hk _ _ h'
       | false => rw [hq] at h'; exact hk _ _ h'
 | .loop c, ki, k, s, hk, h => a8Q (b := fun n => ev (T.cx (rf n) (rb n)) H c) (fun ki k s hk h => R5 hf hb c ki k s hk h) hk 16 s h
 | .exit id, ki, k, s, hk, h => hk _ _ h
 | .ret, ki, k, s, hk, h => hk _ _ h
 | .rangeFunc _ _ _ _, ki, k, s, hk, h => by simp [ev] at h
 | .scope _, ki, k, s, hk, h => by simp [ev] at h
 | .label _, ki, k, s, hk, h => by simp [ev] at h
 | .goto _, ki, k, s, hk, h => by simp [ev] at h
 | .refuse _, ki, k, s, hk, h => by simp [ev] at h
theorem a3K (rf rf' : T.RF) (rb rb' : T.RB) (s : St) : ∀ (rs : List ResultVar), F1 (T.cx rf rb) s rs = F1 (T.cx rf' rb') s rs
 | [] => rfl
 | r :: rs => by
   simp only [F1, a3K rf rf' rb rb' s rs]
   cases r <;> rfl
theorem b0I (hf : T9 rfi rf) (hb : a8l rbi rb) {H : Hn} {φ : Nat} {c : Code} {rs : List ResultVar} {d : (T.kin φ).ct.denote} {y : (L8 (T.kouts φ)).denote}
  (h : b4N (T.cx rfi rbi) H φ c rs d = some y) : Evt fun n => b4N (T.cx (rf n) (rb n)) H φ c rs d = some y := by
 unfold b4N at h ⊢
 dsimp only [Tb.cx] at h ⊢
 refine R5 hf hb c _ _ _ (fun e s' h' => ?_) h
 refine Evt.all fun n => ?_
 cases e with
 | out id => cases h'
 | _ =>
   simp only at h' ⊢
   split at h'
   case h_2 => cases h'
   rename_i vs h1
   have h1' : F1 (T.cx (rf n) (rb n)) s' rs = some vs := by rw [a3K (rf n) rfi (rb n) rbi]; exact h1
   simp only [h1']; exact h'
theorem a8z (hf : T9 rfi rf) (hb : a8l rbi rb) {H : Hn} {κ : Nat} {c : BCode} {d : (T.bk κ).ins.ct.denote} {y : (G7 (T.bk κ).exits).denote}
  (h : a6t (T.cx rfi rbi) H κ c d = some y) : Evt fun n => a6t (T.cx (rf n) (rb n)) H κ c d = some y := by
 cases c with
 | tail c =>
   simp only [a6t] at h ⊢
   exact R5 hf hb c _ (fun n e s => D7 (u0 0 (T.bk κ).ins.objs) (T.bk κ).exits e s) _ (fun e s' h' => Evt.all fun n => h') h
 | loop id c =>
   simp only [a6t] at h ⊢
   dsimp only [Tb.cx] at h ⊢
   refine R5 hf hb c _ _ _ (fun e s' h' => ?_) h
   cases e with
   | ret => exact Evt.all fun n => h'
   | out id' => exact Evt.all fun n => h'
   | norm =>
     simp only at h' ⊢
     cases hl : N9 s'.env (T.bk κ).slots with
     | none => rw [hl] at h'; cases h'
     | some vs =>
       simp only [hl] at h' ⊢
       cases hp : a2k (T.bk κ).ins (u0 0 (T.bk κ).ins.objs) vs s' with
       | none =>
         simp only [hp] at h' ⊢
         cases ha : H.al κ with
         | none => rw [ha] at h'; cases h'
         | some κ2 =>
           simp only [ha] at h' ⊢
           exact Z5 (T := T) (k := fun _ e' s' => D7 (u0 0 (T.bk κ).ins.objs) (T.bk κ).exits e' s') hb (fun e s' h'' => Evt.all fun n => h'') h'
       | some p =>
         obtain ⟨d', ρ, s1⟩ := p
         simp only [hp] at h' ⊢
         exact hb κ _ y h'
end Go.Bm
end
section
open Bool (and_eq_true)
namespace Go.Bm
set_option linter.unusedVariables false
set_option linter.unusedSimpArgs false
def cut : List Bool → Code → Option Code
 | [], c => some c
 | b :: p, .seq x y => match b with
   | true => Bm.cut p y
   | false => Bm.cut p x
 | b :: p, .cond _ x y => match b with
   | true => Bm.cut p y
   | false => Bm.cut p x
 | _ :: p, .block _ c => Bm.cut p c
 | _ :: p, .loop c => Bm.cut p c
 | _, _ => none
def a2b : Code → BCode
 | .block id (.loop c) => .loop id c
 | c => .tail c
structure Tbl extends Tb where
 lk : Nat → Nat → Option Nat
 tk : Nat → Nat → Option Nat
 dk : Nat → Nat → Option (List Nat × OrdT)
 al : Nat → Option Nat
 fnum : Nat → Nat
 fn : Nat → Option Func
 place : Nat → Option (Nat × List Bool)
 xf : toTb.RF
def Tbl.hn (T : Tbl) (φ : Nat) : Hn := ⟨T.lk φ, T.tk φ, T.dk φ, T.al⟩
noncomputable def Tbl.a2r (T : Tbl) (rf : T.RF) (rb : T.RB) : T.RF := fun f d => match T.fn f with
 | some fn => match fn.body with
   | some c => b4N (T.cx rf rb) (T.hn f) f c fn.results.toList d
   | none => none
 | none => T.xf f d
def Tbl.a6n (T : Tbl) (κ : Nat) : Option (Nat × Code) := match T.place κ with
 | some (f, p) => match T.fn f with
   | some fn => match fn.body with
     | some c => match Bm.cut p c with
       | some c' => some (f, c')
       | none => none
     | none => none
   | none => none
 | none => none
noncomputable def Tbl.a0A (T : Tbl) (rf : T.RF) (rb : T.RB) : T.RB := fun κ d => match T.a6n κ with
 | some (f, c) => a6t (T.cx rf rb) (T.hn f) κ (a2b c) d
 | none => none
noncomputable def Tbl.F (T : Tbl) : Nat → T.RF × T.RB
 | 0 => (fun _ _ => none, fun _ _ => none)
 | n + 1 => (T.a2r (T.F n).1 (T.F n).2, T.a0A (T.F n).1 (T.F n).2)
noncomputable def lim {A : Type} (g : Nat → Option A) : Option A := by
 classical exact if h : ∃ y, Evt fun n => g n = some y then some h.choose else none
theorem a6V {A : Type} {g : Nat → Option A} {y : A} (h : lim g = some y) : Evt fun n => g n = some y := by
 unfold lim at h
 split at h
 · rename_i hh; cases h; exact hh.choose_spec
 · cases h
theorem b7q {A : Type} {g : Nat → Option A} {y : A} (h : Evt fun n => g n = some y) : lim g = some y := by
 have hh : ∃ y, Evt fun n => g n = some y := ⟨y, h⟩
 unfold lim
 rw [dif_pos hh]
 obtain ⟨N, h⟩ := h
 obtain ⟨M, k⟩ := hh.choose_spec
 have h1 : g (max N M) = some y := h (max N M) (by omega)
 have h2 : g (max N M) = some hh.choose := k (max N M) (by omega)
 rw [← h1, ← h2]
noncomputable def Tbl.rf (T : Tbl) : T.RF := fun f d => lim fun n => (T.F n).1 f d
noncomputable def Tbl.rb (T : Tbl) : T.RB := fun κ d => lim fun n => (T.F n).2 κ d
theorem Tbl.c4c (T : Tbl) : T9 T.rf fun n => (T.F n).1 := fun f d y h => a6V h
theorem Tbl.c4b (T : Tbl) : a8l T.rb fun n => (T.F n).2 := fun κ d y h => a6V h
theorem Evt.shift {A : Type} {g : Nat → Option A} {y : A} (h : Evt fun n => g (n + 1) = some y) : Evt fun n => g n = some y := by
 obtain ⟨N, h⟩ := h
 refine ⟨N + 1, fun n hn => ?_⟩
 have : g (n - 1 + 1) = some y := h (n - 1) (by omega)
 rw [show n - 1 + 1 = n by omega] at this
 exact this
theorem Tbl.c4V (T : Tbl) {f : Nat} {d : (T.kin f).ct.denote} {y : (L8 (T.kouts f)).denote} (h : T.a2r T.rf T.rb f d = some y) : T.rf f d = some y := by
 refine b7q (Evt.shift ?_)
 show Evt fun n => T.a2r (T.F n).1 (T.F n).2 f d = some y
 unfold Tbl.a2r at h ⊢
 cases hf : T.fn f with
 | none => simp only [hf] at h ⊢; exact Evt.all fun n => h
 | some fn =>
   simp only [hf] at h ⊢
   cases hc : fn.body with
   | none => rw [hc] at h; cases h
   | some c => simp only [hc] at h ⊢; exact b0I T.c4c T.c4b h
theorem Tbl.c4P (T : Tbl) {κ : Nat} {d : (T.bk κ).ins.ct.denote} {y : (G7 (T.bk κ).exits).denote} (h : T.a0A T.rf T.rb κ d = some y) : T.rb κ d = some y := by
 refine b7q (Evt.shift ?_)
 show Evt fun n => T.a0A (T.F n).1 (T.F n).2 κ d = some y
 unfold Tbl.a0A at h ⊢
 cases hc : T.a6n κ with
 | none => rw [hc] at h; cases h
 | some p => simp only [hc] at h ⊢; exact a8z T.c4c T.c4b h
def b6S : Option (Nat × List Bool) → Nat → List Bool → Bool
 | some (g, q), f, p => Nat.beq g f && (q == p)
 | none, _, _ => false
def a3c (ops : Array Oper) : List (List Nat) := ops.toList.map fun o => (o.after.toList.filter fun e => Region.binds .any e).map (·.on)
def b0z (ops : Array Oper) : List (List Nat) := (List.range ops.size).map fun i => match ops[i]? with
 | some oi => (List.range ops.size).filter fun j => !(j == i || (match ops[j]? with
    | some oj => oj.after.any (fun e => Region.binds .any e && e.on == i) || oi.apart ops oj
    | none => true))
 | none => []
def allM (m : Nat) (o : Option (List Nat)) : Bool := match o with
 | some l => l.all fun j => m.testBit j
 | none => false
def a9V (D : List (List Nat)) (m i : Nat) : Bool := !m.testBit i && allM m (nth D i)
def a9c (D : List (List Nat)) (n m : Nat) : List Nat := (List.range n).filter fun i => a9V D m i
def a4z (N : Nat) (D B : List (List Nat)) : Bool → Nat → Nat → OrdT → Bool
 | m, _, l, .done => m && (a9c D N l).isEmpty
 | m, n + 1, l, .take i t => m && (allM l (nth B i) && (a9V D l i && a4z N D B true n (l ||| 2 ^ i) t))
 | m, n + 1, l, .only i t => Nat.blt i N && ((!m || (a9V D l i && (a9c D N l).all fun j => Nat.beq j i)) && a4z N D B true n (l ||| 2 ^ i) t)
 | m, n + 1, l, .alt i t r => Nat.blt i N && ((!m || (a9V D l i && (a9c D N l).all fun j => has (a6L (.alt i t r)) j)) && (a4z N D B true n (l ||| 2 ^ i) t && a4z N D B false (n + 1) l r))
 | _, 0, _, _ => false
structure BitsM (n : Nat) (listed : Array Bool) (m : Nat) : Prop where
 size : listed.size = n
 t : ∀ i, listed.getD i true = (m.testBit i || decide (n ≤ i))
 f : ∀ i, listed.getD i false = m.testBit i
theorem BitsM.zero (n : Nat) : BitsM n (Array.replicate n false) 0 :=
 ⟨by simp, fun i => by by_cases h : i < n <;> simp [Array.getD, h] <;> omega, fun i => by by_cases h : i < n <;> simp [Array.getD, h]⟩
theorem BitsM.set {n : Nat} {listed : Array Bool} {m : Nat} (h : BitsM n listed m) {i : Nat} (hi : i < n) : BitsM n (listed.setIfInBounds i true) (m ||| 2 ^ i) := by
 have hs := h.size
 refine ⟨by simp [hs], fun j => ?_, fun j => ?_⟩
 · have ht := h.t j
   rw [Nat.testBit_or, Nat.testBit_two_pow]
   by_cases hj : i = j
   · subst hj
     simp [Array.getD, hs, hi]
   · rw [decide_eq_false hj, Bool.or_false, ← ht]
     by_cases hjn : j < n <;> simp [Array.getD, hs, hjn, Array.getElem_setIfInBounds, hj]
 · have hf := h.f j
   rw [Nat.testBit_or, Nat.testBit_two_pow]
   by_cases hj : i = j
   · subst hj
     simp [Array.getD, hs, hi]
   · rw [decide_eq_false hj, Bool.or_false, ← hf]
     by_cases hjn : j < n <;> simp [Array.getD, hs, hjn, Array.getElem_setIfInBounds, hj]
theorem a8W (ops : Array Oper) (i : Nat) : nth (a3c ops) i = (ops[i]?).map fun o => (o.after.toList.filter fun e => Region.binds .any e).map (·.on) := by
 rw [nth_getElem?, a3c, List.getElem?_map, Array.getElem?_toList]
theorem c1z {ops : Array Oper} {listed : Array Bool} {m : Nat} (h : BitsM ops.size listed m) {i : Nat} (hi : i < ops.size) :
  (!listed.getD i true && ((ops[i]?).map (·.after.all fun e => !Region.binds .any e || listed.getD e.on false)).getD false) = a9V (a3c ops) m i := by
 unfold a9V
 rw [h.t i, decide_eq_false (by omega), Bool.or_false, a8W]
 congr 1
 cases ho : ops[i]? with
 | none => rfl
 | some o =>
   simp only [Option.map_some, Option.getD_some, allM]
   rw [← Array.all_toList, List.all_map, List.all_filter]
   apply List.all_congr rfl
   intro e
   simp only [Function.comp, h.f]
theorem a1Q {ops : Array Oper} {listed : Array Bool} {m : Nat} (h : BitsM ops.size listed m) : Region.ready .any ops listed = a9c (a3c ops) ops.size m := by
 unfold Region.ready a9c
 apply List.filter_congr
 intro i hi
 exact c1z h (List.mem_range.1 hi)
theorem b3M {ops : Array Oper} {m i : Nat} (h : a9V (a3c ops) m i = true) : i < ops.size := by
 unfold a9V at h
 rw [and_eq_true, a8W] at h
 cases ho : ops[i]? with
 | none => rw [ho] at h; exact absurd (show false = true from h.2) (by decide)
 | some o => exact (Array.getElem?_eq_some_iff.1 ho).1
theorem a7m {ops : Array Oper} {m i : Nat} (h : a9V (a3c ops) m i = true) : (a9c (a3c ops) ops.size m).contains i = true := by
 rw [List.contains_iff_mem]
 exact List.mem_filter.2 ⟨List.mem_range.2 (b3M h), h⟩
theorem d0i {ops : Array Oper} {listed : Array Bool} {m i : Nat} (h : BitsM ops.size listed m) (hi : i < ops.size) (hb : allM m (nth (b0z ops) i) = true) : Region.free .any ops listed i = true := by
 have hn : nth (b0z ops) i = some (match ops[i]? with
   | some oi => (List.range ops.size).filter fun j => !(j == i || (match ops[j]? with
      | some oj => oj.after.any (fun e => Region.binds .any e && e.on == i) || oi.apart ops oj
      | none => true))
   | none => []) := by
  rw [nth_getElem?, b0z, List.getElem?_map, List.getElem?_range hi]; rfl
 rw [hn] at hb
 have ho : ops[i]? = some ops[i] := Array.getElem?_eq_getElem hi
 unfold Region.free
 rw [ho] at hb ⊢
 simp only [allM, List.all_eq_true] at hb
 simp only [List.all_eq_true]
 intro j hj
 cases hx : (j == i || listed.getD j true || match ops[j]? with
  | some oj => oj.after.any (fun e => Region.binds .any e && e.on == i) || ops[i].apart ops oj
  | none => true) with
 | true => rfl
 | false =>
   simp only [Bool.or_eq_false_iff] at hx
   have h2 := hb j (List.mem_filter.2 ⟨hj, by
    simp only [Bool.not_eq_true', Bool.or_eq_false_iff]
    exact ⟨hx.1.1, hx.2⟩⟩)
   rw [h.t j, h2, Bool.true_or] at hx
   exact absurd hx.1.2 (by decide)
theorem Y0 {ops : Array Oper} : ∀ (t : OrdT) (b : Bool) (n : Nat) (listed : Array Bool) (m : Nat), BitsM ops.size listed m → a4z ops.size (a3c ops) (b0z ops) b n m t = true → M8 ops b n listed t = true
 | .done, b, n, listed, m, h, ho => by
   cases n <;> (simp only [a4z, M8, a1Q h] at ho ⊢; exact ho)
 | .take i t, b, 0, listed, m, h, ho => by simp [a4z] at ho
 | .only i t, b, 0, listed, m, h, ho => by simp [a4z] at ho
 | .alt i t r, b, 0, listed, m, h, ho => by simp [a4z] at ho
 | .take i t, b, n + 1, listed, m, h, ho => by
   simp only [a4z, and_eq_true] at ho
   have hi := b3M ho.2.2.1
   simp only [M8, and_eq_true]
   exact ⟨ho.1, d0i h hi ho.2.1, by rw [a1Q h]; exact a7m ho.2.2.1, Y0 t true n _ _ (h.set hi) ho.2.2.2⟩
 | .only i t, b, n + 1, listed, m, h, ho => by
   simp only [a4z, and_eq_true, Bool.or_eq_true] at ho
   simp only [M8, and_eq_true, Bool.or_eq_true, a1Q h]
   have hi : i < ops.size := by have := ho.1; rw [Nat.blt_eq] at this; exact this
   exact ⟨ho.2.1.imp id fun g => ⟨a7m g.1, g.2⟩, Y0 t true n _ _ (h.set hi) ho.2.2⟩
 | .alt i t r, b, n + 1, listed, m, h, ho => by
   simp only [a4z, and_eq_true, Bool.or_eq_true] at ho
   simp only [M8, and_eq_true, Bool.or_eq_true, a1Q h]
   have hi : i < ops.size := by have := ho.1; rw [Nat.blt_eq] at this; exact this
   exact ⟨ho.2.1.imp id fun g => ⟨a7m g.1, g.2⟩, Y0 t true n _ _ (h.set hi) ho.2.2.1, Y0 r false (n + 1) _ _ h ho.2.2.2⟩
def K6 (T : Tbl) (f n : Nat) : (p : List Bool) → Code → Bool
 | p, .seq a b => K6 T f n (p ++ [false]) a && (match (B6 b).bind (T.tk f) with
   | some κ => b6S (T.place κ) f (p ++ [true]) && ((T.bk κ).keep.all fun t => p7 [t] n b)
   | none => K6 T f n (p ++ [true]) b)
 | p, .block id c => match T.lk f id with
   | some κ => b6S (T.place κ) f p && ((T.bk κ).keep.all fun t => p7 [t] n c)
   | none => K6 T f n (p ++ [false]) c
 | _, .region id ops true => match T.dk f id with
   | some (_, t) => Region.noSelect ops && a4z ops.size (a3c ops) (b0z ops) true ops.size 0 t
   | none => true
 | p, .cond _ a b => K6 T f n (p ++ [false]) a && K6 T f n (p ++ [true]) b
 | p, .loop c => K6 T f n (p ++ [false]) c
 | _, _ => true
def fnB (T : Tbl) (f : Nat) (fn : Func) (c : Code) : Bool :=
 Nat.ble (T.kin f).slots.length fn.ntmps && (p7 [] fn.ntmps c && K6 T f fn.ntmps [] c)
def b9p (T : Tbl) (κ f : Nat) (fn : Func) (p : List Bool) (c : Code) : Bool :=
 match a2b c with
 | .loop _ b => p7 [] fn.ntmps b && (K6 T f fn.ntmps (p ++ [false, false]) b && (match T.al κ with
   | some κ2 => b6S (T.place κ2) f p && (T.bk κ2).keep.all fun t => p7 [t] fn.ntmps b
   | none => true))
 | .tail c => p7 [] fn.ntmps c && K6 T f fn.ntmps p c
structure Tbl.Ok (P : Program) (T : Tbl) : Prop where
 tab : c1G P T.tab
 eqt : ∀ t fs zs, T.eqt t = true → T.tab t = some (.struct fs zs) → c5j P t zs
 mt : ∀ t name f how, T.mt t name = some (f, how) → b1S P t name f how
 mixed : P.follows .mixedOrders = true
 gpm : a3W T.gp
 gvo : ∀ w Φ, T.gp w Φ → GvR T.gv w Φ
 keys : ∀ f φ, φ ∈ T.keys f → T.fnum φ = f
 fn : ∀ φ fn, T.fn φ = some fn → P.funcs[T.fnum φ]? = some fn ∧ (fn.name == "runtime.NumGoroutine") = false ∧ ∃ c, fn.body = some c ∧ fnB T φ fn c = true
 blk : ∀ κ f p fn c c', T.place κ = some (f, p) → T.fn f = some fn → fn.body = some c → Bm.cut p c = some c' → b9p T κ f fn p c' = true
 ext : ∀ φ d y, T.fn φ = none → T.xf φ d = some y → (∃ fn : Func, P.funcs[T.fnum φ]? = some fn ∧ (fn.name == "runtime.NumGoroutine") = false ∧ fn.body.isNone = false) ∧
  ∀ (w : World) (Φ : Nat → Prop) (vs : List Value) (γ : Loc), T.gp w Φ → InstR w Φ (T.kin φ) (m4 (T.kin φ).cts d) vs γ →
   Calls P (T.fnum φ) vs.toArray w fun e w' => ∃ Φ' γ' rs, e = .returned (I0 rs) ∧ a0B (fun T' ds' => InstR w' Φ' T' ds' rs γ' ∧ PostR w Φ γ (T.kin φ) (m4 (T.kin φ).cts d) w' Φ' γ' T' ds') (T.kouts φ) y
theorem P8 : ∀ (p q : List Bool) (c : Code), Bm.cut (p ++ q) c = (Bm.cut p c).bind (Bm.cut q)
 | [], q, c => rfl
 | b :: p, q, c => by
   cases c <;> first | rfl | (cases b <;> exact P8 p q _) | exact P8 p q _
section
variable {P : Program} {T : Tbl} (hT : T.Ok P)
structure Tbl.At (P : Program) (T : Tbl) (n : Nat) : Prop where
 all : AllOk P (T.cx (T.F n).1 (T.F n).2)
 blk : ∀ κ f p fn c c', T.place κ = some (f, p) → T.fn f = some fn → fn.body = some c → Bm.cut p c = some c' → match a2b c' with
  | .loop id b => b0q (T.cx (T.F n).1 (T.F n).2) fn.ntmps κ c' fun Q a w => Code.rounds P b (Exit.inBlock id Q) n a w
  | .tail c => a5O P (T.cx (T.F n).1 (T.F n).2) fn.ntmps κ c'
theorem a6f {c b : Code} {id : Nat} (h : a2b c = .loop id b) : c = .block id (.loop b) := by
 unfold a2b at h
 split at h
 · cases h; rfl
 · cases h
theorem b2a {c b : Code} (h : a2b c = .tail b) : c = b := by
 unfold a2b at h
 split at h
 · cases h
 · cases h; rfl
theorem Tbl.At.c1H {n : Nat} (h : T.At P n) {κ f : Nat} {p : List Bool} {fn : Func} {c c' : Code} (h1 : T.place κ = some (f, p)) (h2 : T.fn f = some fn) (h3 : fn.body = some c) (h4 : Bm.cut p c = some c') :
  a5O P (T.cx (T.F n).1 (T.F n).2) fn.ntmps κ c' := by
 have := h.blk κ f p fn c c' h1 h2 h3 h4
 cases hb : a2b c' with
 | tail b => rw [hb] at this; exact this
 | loop id b =>
   rw [hb] at this
   have e := a6f hb
   intro d y hy w Φ a bs fix k1 k2 k3 k4 k5 k6
   have g := this d y hy w Φ a bs fix k1 k2 k3 k4 k5 k6
   rw [e]
   exact wp_block (wp_loop_rounds n g)
theorem a4u {o : Option (Nat × List Bool)} {f : Nat} {p : List Bool} (h : b6S o f p = true) : o = some (f, p) := by
 cases o with
 | none => cases h
 | some x =>
   obtain ⟨g, q⟩ := x
   simp only [b6S, and_eq_true] at h
   rw [Nat.eq_of_beq_eq_true h.1, eq_of_beq h.2]
theorem K7 {n : Nat} (h : T.At P n) {f : Nat} {fn : Func} {c0 : Code} (h2 : T.fn f = some fn) (h3 : fn.body = some c0) : ∀ (c : Code) (p : List Bool), Bm.cut p c0 = some c → K6 T f fn.ntmps p c = true →
  Hints P (T.cx (T.F n).1 (T.F n).2) fn.ntmps (T.hn f) c
 | .seq a b, p, hs, hb => by
   simp only [K6, and_eq_true] at hb
   have sa : Bm.cut (p ++ [false]) c0 = some a := by rw [P8, hs]; rfl
   have sb : Bm.cut (p ++ [true]) c0 = some b := by rw [P8, hs]; rfl
   refine ⟨K7 h h2 h3 a _ sa hb.1, ?_⟩
   have hb2 := hb.2
   show (match (B6 b).bind (T.tk f) with
    | some κ => a5O P (T.cx (T.F n).1 (T.F n).2) fn.ntmps κ b ∧ ∀ t ∈ (T.bk κ).keep, p7 [t] fn.ntmps b = true
    | none => Hints P (T.cx (T.F n).1 (T.F n).2) fn.ntmps (T.hn f) b)
   cases hκ : (B6 b).bind (T.tk f) with
   | some κ =>
     rw [hκ] at hb2
     simp only [and_eq_true] at hb2
     exact ⟨h.c1H (a4u hb2.1) h2 h3 sb, fun t ht => List.all_eq_true.1 hb2.2 t ht⟩
   | none =>
     rw [hκ] at hb2
     exact K7 h h2 h3 b _ sb hb2
 | .block id c, p, hs, hb => by
   simp only [K6] at hb
   show (match T.lk f id with
    | some κ => a5O P (T.cx (T.F n).1 (T.F n).2) fn.ntmps κ (.block id c) ∧ ∀ t ∈ (T.bk κ).keep, p7 [t] fn.ntmps c = true
    | none => Hints P (T.cx (T.F n).1 (T.F n).2) fn.ntmps (T.hn f) c)
   cases hκ : T.lk f id with
   | some κ =>
     rw [hκ] at hb
     simp only [and_eq_true] at hb
     exact ⟨h.c1H (a4u hb.1) h2 h3 hs, fun t ht => List.all_eq_true.1 hb.2 t ht⟩
   | none =>
     rw [hκ] at hb
     exact K7 h h2 h3 c _ (by rw [P8, hs]; rfl) hb
 | .cond _ a b, p, hs, hb => by
   simp only [K6, and_eq_true] at hb
   exact ⟨K7 h h2 h3 a _ (by rw [P8, hs]; rfl) hb.1, K7 h h2 h3 b _ (by rw [P8, hs]; rfl) hb.2⟩
 | .loop c, p, hs, hb => K7 h h2 h3 c _ (by rw [P8, hs]; rfl) hb
 | .region id ops true, p, hs, hb => by
   simp only [K6] at hb
   intro slots t ht
   have ht' : T.dk f id = some (slots, t) := ht
   rw [ht'] at hb
   simp only [and_eq_true] at hb
   exact ⟨hb.1, Y0 t true _ _ _ (BitsM.zero _) hb.2⟩
 | .skip, _, _, _ => trivial
 | .region _ _ false, _, _, _ => trivial
 | .exit _, _, _, _ => trivial
 | .ret, _, _, _ => trivial
 | .rangeFunc _ _ _ _, _, _, _ => trivial
 | .scope _, _, _, _ => trivial
 | .label _, _, _, _ => trivial
 | .goto _, _, _, _ => trivial
 | .refuse _, _, _, _ => trivial
include hT in
theorem Tbl.at : ∀ n, T.At P n
 | 0 => ⟨⟨⟨hT.mt, hT.tab, hT.eqt⟩, fun f φ _ d y h => (by cases h), hT.mixed, hT.gpm, hT.gvo⟩, fun κ f p fn c c' _ _ _ _ => by
    cases a2b c' with
    | tail b => intro d y h; cases h
    | loop id b => intro d y h; cases h⟩
 | n + 1 => by
   have ih := Tbl.at n
   have hokn : AllOk P (T.cx (T.F n).1 (T.F n).2) := ih.all
   refine ⟨⟨⟨hT.mt, hT.tab, hT.eqt⟩, fun f φ hφ d y h => ?_, hT.mixed, hT.gpm, hT.gvo⟩, fun κ f p fn c c' h1 h2 h3 h4 => ?_⟩
   · change T.a2r (T.F n).1 (T.F n).2 φ d = some y at h
     have hfe := hT.keys f φ hφ
     subst hfe
     unfold Tbl.a2r at h
     cases hf : T.fn φ with
     | none => rw [hf] at h; exact hT.ext φ d y hf h
     | some fn =>
       obtain ⟨k1, k2, c, k3, k4⟩ := hT.fn φ fn hf
       simp only [hf, k3] at h
       simp only [fnB, and_eq_true] at k4
       exact ⟨⟨fn, k1, k2, by rw [k3]; rfl⟩, b6I hokn k1 k3 (Nat.le_of_ble_eq_true k4.1) k4.2.1 (K7 ih hf k3 c [] rfl k4.2.2) d y h⟩
   · have hB := hT.blk κ f p fn c c' h1 h2 h3 h4
     have hca : T.a6n κ = some (f, c') := by simp only [Tbl.a6n, h1, h2, h3, h4]
     unfold b9p at hB
     cases hb : a2b c' with
     | tail b =>
       rw [hb] at hB
       simp only [and_eq_true] at hB
       have e := b2a hb
       subst e
       intro d y hy w Φ a γ fix k1 k2 k3 k4 k5 k6
       change T.a0A (T.F n).1 (T.F n).2 κ d = some y at hy
       simp only [Tbl.a0A, hca, hb] at hy
       exact b3a hokn hB.1 (K7 ih h2 h3 c' p h4 hB.2) hy k1 k2 k3 k4 k5 k6
     | loop id b =>
       rw [hb] at hB
       simp only [and_eq_true] at hB
       have e := a6f hb
       intro d y hy w Φ a γ fix k1 k2 k3 k4 k5 k6
       change T.a0A (T.F n).1 (T.F n).2 κ d = some y at hy
       simp only [Tbl.a0A, hca, hb] at hy
       have ihl := ih.blk κ f p fn c c' h1 h2 h3 h4
       rw [hb] at ihl
       have k1' : ∀ t v, fix t = some v → p7 [t] fn.ntmps b = true := fun t v hv => by have := k1 t v hv; rw [e] at this; exact this
       refine b2v hokn hB.1 (K7 ih h2 h3 b (p ++ [false, false]) (by rw [P8, h4, e]; rfl) hB.2.1) (fun d' y' hy' w' Φ' a' γ' fix' g1 => ihl d' y' hy' w' Φ' a' γ' fix' (fun t v hv => by rw [e]; exact g1 t v hv)) (fun κ2 hκ2 => ?_) hy k1' k2 k3 k4 k5 k6
       have hκ2' : T.al κ = some κ2 := hκ2
       have h6 := hB.2.2
       rw [hκ2'] at h6
       simp only [and_eq_true] at h6
       have ih2 := ih.blk κ2 f p fn c c' (a4u h6.1) h2 h3 h4
       rw [hb] at ih2
       exact ⟨fun d' y' hy' w' Φ' a' γ' fix' g1 => ih2 d' y' hy' w' Φ' a' γ' fix' (fun t v hv => by rw [e]; exact g1 t v hv), fun t ht => List.all_eq_true.1 h6.2 t ht⟩
include hT in
theorem Tbl.sound {φ f : Nat} {d : (T.kin φ).ct.denote} {y : (L8 (T.kouts φ)).denote} (h : T.rf φ d = some y) (hφ : φ ∈ T.keys f)
  {w : World} {Φ : Nat → Prop} {vs : List Value} {γ : Loc} (hg : T.gp w Φ) (h1 : InstR w Φ (T.kin φ) (m4 (T.kin φ).cts d) vs γ) :
  Calls P f vs.toArray w fun e w' => ∃ Φ' γ' rs, e = .returned (I0 rs) ∧ a0B (fun T' ds' => InstR w' Φ' T' ds' rs γ' ∧ PostR w Φ γ (T.kin φ) (m4 (T.kin φ).cts d) w' Φ' γ' T' ds') (T.kouts φ) y := by
 obtain ⟨N, hN⟩ := a6V h
 exact ((Tbl.at hT N).all.fn f φ hφ d y (hN N (Nat.le_refl _))).2 w Φ vs γ hg h1
end
end Go.Bm
end
