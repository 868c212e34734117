import Derived.Test.YtlobhcgbmpcdlaaGreatDoorBmD
import Derived.LoopN
import Derived.OrdersHeld
import Derived.Test.YtlobhcgbmpcdlaaGreatDoorBmA
import Derived.Test.YtlobhcgbmpcdlaaGreatDoorBmB
section
open Option (bind_some)
open Bool (and_eq_true)
namespace Go.Bm
set_option linter.unusedVariables false
set_option linter.unusedSimpArgs false
def Ex.a1s : Ex → Exit
 | .norm => .normal
 | .out id => .exit id
 | .ret => .ret
def a0Q (a : Act) (slots : List Nat) : List Value := slots.map fun t => a.tmps.getD t undef
def ExR (K : Ex → List Nat → Tm → List Dyn → Prop) : (l : List (Ex × List Nat × Tm)) → (J6 l).denote → Prop
 | [], _ => False
 | [(e, slots, T')], y => K e slots T' (o7 T'.cts y)
 | (e, slots, T') :: b :: r, y => match y with
   | .inl a => K e slots T' (o7 T'.cts a)
   | .inr c => ExR K (b :: r) c
theorem ExR.mono {K K' : Ex → List Nat → Tm → List Dyn → Prop} (h : ∀ e l T ds, K e l T ds → K' e l T ds) : ∀ {l : List (Ex × List Nat × Tm)} {y : (J6 l).denote}, ExR K l y → ExR K' l y
 | [], _, g => g
 | [(e, slots, T')], y, g => h _ _ _ _ g
 | (e, slots, T') :: b :: r, .inl a, g => h _ _ _ _ g
 | (e, slots, T') :: b :: r, .inr c, g => ExR.mono h (l := b :: r) g
def fresh (fx : List Nat) (d : Nat) : Bool := fx.all fun t => !Nat.beq t d
def B7 (fx : List Nat) (n : Nat) : Code → Bool
 | .region _ ops _ => ops.toList.all fun o => match o.dst with
   | some d => Nat.blt d n && fresh fx d
   | none => true
 | .seq a b => B7 fx n a && B7 fx n b
 | .cond _ a b => B7 fx n a && B7 fx n b
 | .block _ c => B7 fx n c
 | .loop c => B7 fx n c
 | _ => true
def a9c (cx : Cx) (κ n : Nat) (fix : Nat → Option Value) (w : World) (Φ : Nat → Prop) (γ : Loc) (ds : List Dyn) (y : (J6 (cx.bk κ).exits).denote) (ex : Exit) (a' : Act) (w' : World) : Prop :=
 a'.tmps.size = n ∧ (∀ t v, fix t = some v → a'.tmps.getD t undef = v) ∧ a'.defers = [] ∧
  ∃ Φ' γ', ExR (fun e slots T' ds' => ex = e.a1s ∧ InstR w' Φ' T' ds' (a0Q a' slots) γ' ∧ PostR w Φ γ (cx.bk κ).ins ds w' Φ' γ' T' ds') (cx.bk κ).exits y
def b1M (cx : Cx) (n κ : Nat) (c : Code) (run : (Exit → Act → World → Prop) → Act → World → Prop) : Prop := ∀ d y, cx.rb κ d = some y → ∀ (w : World) (Φ : Nat → Prop) (a : Act) (γ : Loc) (fix : Nat → Option Value),
 (∀ t v, fix t = some v → B7 [t] n c = true) → (∀ t v, fix t = some v → a.tmps.getD t undef = v) → a.tmps.size = n → a.defers = [] →
 cx.gp w Φ → InstR w Φ (cx.bk κ).ins (o7 (cx.bk κ).ins.cts d) (a0Q a (cx.bk κ).slots) γ → run (a9c cx κ n fix w Φ γ (o7 (cx.bk κ).ins.cts d) y) a w
def a6X (P : Program) (cx : Cx) (n κ : Nat) (c : Code) : Prop := b1M cx n κ c (fun Q a w => c.wp P Q a w)
def a7R : OrdT → List Nat
 | .only i _ => [i]
 | .alt i _ r => i :: a7R r
 | _ => []
def R2 (ops : Array Oper) : Bool → Nat → Array Bool → OrdT → Bool
 | m, _, listed, .done => m && (Region.ready .any ops listed).isEmpty
 | m, n + 1, listed, .take i t => m && (Region.free .any ops listed i && ((Region.ready .any ops listed).contains i && R2 ops true n (listed.setIfInBounds i true) t))
 | m, n + 1, listed, .only i t => (!m || ((Region.ready .any ops listed).contains i && (Region.ready .any ops listed).all fun j => Nat.beq j i)) && R2 ops true n (listed.setIfInBounds i true) t
 | m, n + 1, listed, .alt i t r => (!m || ((Region.ready .any ops listed).contains i && (Region.ready .any ops listed).all fun j => has (a7R (.alt i t r)) j)) &&
    (R2 ops true n (listed.setIfInBounds i true) t && R2 ops false (n + 1) listed r)
 | _, 0, _, _ => false
def Hints (P : Program) (cx : Cx) (n : Nat) (H : Hn) : Code → Prop
 | .seq a b => Hints P cx n H a ∧ (match (E0 b).bind H.tk with
   | some κ => a6X P cx n κ b ∧ ∀ t ∈ (cx.bk κ).keep, B7 [t] n b = true
   | none => Hints P cx n H b)
 | .block id c => match H.lk id with
   | some κ => a6X P cx n κ (.block id c) ∧ ∀ t ∈ (cx.bk κ).keep, B7 [t] n c = true
   | none => Hints P cx n H c
 | .cond _ a b => Hints P cx n H a ∧ Hints P cx n H b
 | .loop c => Hints P cx n H c
 | .region id ops true => ∀ slots t, H.dk id = some (slots, t) → Region.noSelect ops = true ∧ R2 ops true ops.size (Array.replicate ops.size false) t = true
 | _ => True
structure AllOk (P : Program) (cx : Cx) : Prop where
 ok : CxOk P cx
 fn : ∀ f, ∀ φ ∈ cx.keys f, c0i P cx f φ
 mixed : P.follows .mixedOrders = true
 gpm : a5b cx.gp
 gvo : ∀ w Φ, cx.gp w Φ → GvR cx.gv w Φ
section
variable {P : Program} {R : Type} {w0 : World} {Φ0 own0 : Nat → Prop} {N : Frm} {w w' : World} {Φ Φ' : Nat → Prop} {β β' : Loc} {s s' : St} {a a' : Act} {hp : List (Nat × SObj)}
variable {cx : Cx} {H : Hn}
theorem a6B [hG : GlobR cx.gp w0 Φ0 own0] (hok : AllOk P cx) {o : Oper} {next : Act → World → Prop} {Q : Exit → Act → World → Prop} {k : St → Option R} {r : R} (hr : Rel w0 Φ0 own0 N w Φ β s a) (hN : ∀ d, o.dst = some d → N.ok d)
  (hk : ∀ s' a' w' Φ' β', Rel w0 Φ0 own0 N w' Φ' β' s' a' → k s' = some r → next a' w') (h : j5 cx o s k = some r) : o.wp P a w next Q := by
 cases ho : o.op with
 | move x => exact b0z hr hN hk (.inl ho) h
 | assign x => exact b0z hr hN hk (.inr ho) h
 | pick c x y => exact b6Y hr hN hk ho h
 | alloc t => exact b4s hok.ok hr hN hk ho h
 | box t x => exact b9J hok.ok hr hN hk ho h
 | build t ps => exact b4t hok.ok hr hN hk ho h
 | buildSlice t n ps => exact a6L hok.ok hr hN hk ho h
 | load t x => exact b6X hok.ok hr hN hk ho (hok.gvo _ _ (hG.get hr)) h
 | store t x y => exact b4y hok.ok hr hN hk ho h
 | nilCheck x => exact a9q hr hN hk ho h
 | binOp op t x y t' => exact b9I hok.ok hr hN hk ho h
 | unOp op t x => exact c1Z hr hN hk ho h
 | convert t d x => exact b1B hok.ok hr hN hk ho h
 | makeSlice t l c => exact a8P hok.ok hr hN hk ho h
 | slice t x lo hi mx =>
   cases mx with
   | none => exact b4x hok.ok hr hN hk ho h
   | some m =>
     cases lo with
     | some _ => simp [j5, ho] at h
     | none =>
       cases hi with
       | none => simp [j5, ho] at h
       | some y => exact (b1u hok.ok hr ho h).wp hr trivial hN hk
 | fieldAddr t x f => exact a8M hok.ok hr hN hk ho h
 | field t x f => exact b4v hok.ok hr hN hk ho h
 | indexAddr t x i => exact a8N hok.ok hr hN hk ho h
 | index t x i => exact b4w hok.ok hr hN hk ho h
 | extract x i => exact b1C hr hN hk ho h
 | makeMap t m =>
   cases m with
   | none => exact b1D hok.ok hr hN hk ho h
   | some m => simp [j5, ho] at h
 | lookup t x i b => exact b3j hok.ok hr hN hk ho h
 | mapUpdate t x i y => exact a2A hok.ok hr hN hk (.inl ho) h
 | insert t x i y => exact a2A hok.ok hr hN hk (.inr ho) h
 | makeFunc fn x y =>
   cases fn with
   | func f => exact a9p hr hN hk ho h
   | _ => simp [j5, ho] at h
 | makeInterface t x => exact (a6I hok.ok hr ho h).wp hr trivial hN hk
 | typeAssert x t2 t b =>
   cases b with
   | false => exact (b1s hok.ok hr ho h).wp hr trivial hN hk
   | true => simp [j5, ho] at h
 | call c =>
   cases hc : c.callee with
   | value x => exact b6V hok.fn hr hN hk ho hc h
   | invoke r m => exact b3i hok.ok hok.fn hr hN hk ho hc h
   | builtin b =>
     cases b with
     | len => exact b9K hok.ok hr hN hk ho hc h
     | append => exact step_append hok.ok hr hN hk ho hc h
     | clear => exact b4u hok.ok hr hN hk ho hc h
     | delete => exact b3h hok.ok hr hN hk ho hc h
     | copy => exact b6W hok.ok hr hN hk ho hc h
     | max => exact b3k hr hN hk ho (.inl hc) h
     | min => exact b3k hr hN hk ho (.inr hc) h
     | _ => simp [j5, ho, hc] at h
 | _ => simp [j5, ho] at h
theorem getD_some {a : Act} {d : Nat} {v : Value} (h : a.tmps.getD d undef = v) (hd : d < a.tmps.size) : a.tmps[d]? = some v := by
 simp [Array.getD, hd] at h
 simp [hd, h]
theorem a8H (hr : Rel w0 Φ0 own0 N w Φ β s a) {d : Nat} {v : SVal} (hv : SVR w Φ β s.heap v (a.tmps.getD d undef)) : Rel w0 Φ0 own0 N w Φ β (s.set (some d) v) a := by
 refine ⟨fun t u hu => ?_, ⟨hr.hp.ob, hr.hp.lt, hr.hp.hlt, hr.hp.inj, hr.hp.blt, hr.hp.flt, hr.hp.rin, hr.hp.rinj⟩, hr.own, hr.same, hr.fri, hr.fro, hr.size, hr.fix, hr.defers, hr.hold, hr.keep, hr.rown⟩
 simp only [St.set, j9] at hu
 split at hu
 · rename_i e; subst e; cases hu; exact hv
 · exact hr.env t u hu
theorem a1T [hG : GlobR cx.gp w0 Φ0 own0] (hok : AllOk P cx) {ops : Array Oper} {Q : Exit → Act → World → Prop} {k : St → Option R} {r : R} (hN : ∀ o ∈ ops.toList, ∀ d, o.dst = some d → N.ok d)
  (hk : ∀ s' a' w' Φ' β', Rel w0 Φ0 own0 N w' Φ' β' s' a' → k s' = some r → Q .normal a' w') : ∀ (l : List Oper) (i : Nat) {w : World} {Φ : Nat → Prop} {β : Loc} {s : St} {a : Act}, (∀ j, l[j]? = ops[i + j]?) →
  Rel w0 Φ0 own0 N w Φ β s a → L0 cx ops.toList l s k = some r → wpOps P ops Q (List.range' i l.length) a w
 | [], i, w, Φ, β, s, a, _, hr, h => by simp only [L0] at h; simpa [wpOps] using hk _ _ _ _ _ hr h
 | o :: l, i, w, Φ, β, s, a, hl, hr, h => by
   have hoi : ops[i]? = some o := by have := hl 0; simpa using this.symm
   have hl' : ∀ j, l[j]? = ops[i + 1 + j]? := fun j => by have := hl (j + 1); rw [show i + 1 + j = i + (j + 1) by omega]; simpa using this
   have hmem : o ∈ ops.toList := by rw [← Array.getElem?_toList] at hoi; exact List.mem_of_getElem? hoi
   have hoN := hN o hmem
   have yes : ∀ {s1 : St}, Rel w0 Φ0 own0 N w Φ β s1 a → (j5 cx o s1 fun s' => L0 cx ops.toList l s' k) = some r → o.wp P a w (wpOps P ops Q (List.range' (i + 1) l.length)) Q := fun hr1 h1 =>
    a6B hok hr1 hoN (fun s' a' w' Φ' β' hr' h' => a1T hok hN hk l (i + 1) hl' hr' h') h1
   have no : ∀ {s1 : St}, Rel w0 Φ0 own0 N w Φ β s1 a → L0 cx ops.toList l (s1.set o.dst .skip) k = some r → wpOps P ops Q (List.range' (i + 1) l.length) (a.put o.dst undef) w := fun hr1 h1 =>
    a1T hok hN hk l (i + 1) hl' (hr1.set (sv := .skip) (v := undef) rfl hoN) h1
   simp only [List.length_cons, List.range'_succ, wpOps, hoi]
   simp only [L0] at h
   split at h
   · rename_i hg
     have hw : Region.wanted o (yielded ops a.tmps) = true := by simp [Region.wanted, hg]
     rw [if_pos hw]
     exact .inl (yes hr h)
   · rename_i j want hg
     split at h
     case h_2 => cases h
     rename_i d hd
     rw [nth_getElem?, Array.getElem?_toList] at hd
     split at h
     · rename_i b hb
       have hv : a.tmps.getD d undef = .bool b := hr.env d _ hb
       have hdl : d < a.tmps.size := by
        rcases Nat.lt_or_ge d a.tmps.size with g | g
        · exact g
        · have : a.tmps.getD d undef = undef := by simp [Array.getD, Nat.not_lt.2 g]
          rw [this] at hv; cases hv
       have hy : yielded ops a.tmps j = some b := by
        simp only [yielded, hd, bind_some, getD_some hv hdl]
       have hw : Region.wanted o (yielded ops a.tmps) = (some b == some want) := by simp only [Region.wanted, hg, hy]
       have hs1 : Rel w0 Φ0 own0 N w Φ β (s.set (some d) (.one (.bool b))) a := a8H hr (by rw [hv]; rfl)
       cases b <;> cases want <;> simp only [Z0, cond_true, cond_false] at h <;> rw [hw]
       · rw [if_pos (by rfl)]; exact .inl (yes hs1 h)
       · rw [if_neg (by decide)]; exact no hs1 h
       · rw [if_neg (by decide)]; exact no hs1 h
       · rw [if_pos (by rfl)]; exact .inl (yes hs1 h)
     · rename_i hb
       have hv : a.tmps.getD d undef = undef := hr.env d _ hb
       have hy : yielded ops a.tmps j = none := by
        simp only [yielded, hd, bind_some]
        rcases Nat.lt_or_ge d a.tmps.size with g | g
        · rw [getD_some hv g]; rfl
        · rw [Array.getElem?_eq_none g]
       have hw : Region.wanted o (yielded ops a.tmps) = false := by simp only [Region.wanted, hg, hy]; rfl
       rw [hw]
       exact no hr h
     · cases h
theorem L6 (hr : Rel w0 Φ0 own0 N w Φ β s a) : ∀ {slots : List Nat} {vs : List SVal}, S5 s.env slots = some vs → I4 w Φ β s.heap vs (a0Q a slots)
 | [], vs, h => by simp [S5] at h; subst h; rfl
 | n :: r, vs, h => by
   simp only [S5] at h
   split at h
   · rename_i x y h1 h2; cases h; exact ⟨_, _, rfl, hr.env n x h1, L6 hr h2⟩
   · cases h
theorem a2e {T : Tm} {ρ : Rho} {keep : List Nat} {K : Ex → List Nat → Tm → List Dyn → Prop} {k : Ex → St → Option R} {r : R} : ∀ {l : List (Ex × List Nat × Tm)} {y : (J6 l).denote}, ExR K l y → a0G T ρ keep s l y k = some r →
  ∃ e slots T' ds', K e slots T' ds' ∧ k e (a4b T ρ keep slots T' ds' s) = some r
 | [], _, g, _ => g.elim
 | [(e, slots, T')], y, g, h => ⟨_, _, _, _, g, h⟩
 | (e, slots, T') :: b :: r', .inl x, g, h => ⟨_, _, _, _, g, h⟩
 | (e, slots, T') :: b :: r', .inr x, g, h => a2e (l := b :: r') g (by simpa only [a0G] using h)
theorem a1h {env : List (Nat × SVal)} : ∀ {l : List Nat} {t : Nat} {v : SVal}, look (a4u env l) t = some v → t ∈ l ∧ look env t = some v
 | [], t, v, h => by cases h
 | x :: r, t, v, h => by
   simp only [a4u] at h
   split at h
   · rename_i u hu
     rw [j9] at h
     split at h
     · rename_i e; subst e; cases h; exact ⟨by simp, hu⟩
     · obtain ⟨h1, h2⟩ := a1h h; exact ⟨List.mem_cons_of_mem _ h1, h2⟩
   · obtain ⟨h1, h2⟩ := a1h h; exact ⟨List.mem_cons_of_mem _ h1, h2⟩
theorem a4j [hG : GlobR cx.gp w0 Φ0 own0] {κ : Nat} {c : Code} {run : (Exit → Act → World → Prop) → Act → World → Prop} (hmono : ∀ {Q Q' : Exit → Act → World → Prop}, (∀ e a w, Q e a w → Q' e a w) → ∀ a w, run Q a w → run Q' a w) (hb : b1M cx N.n κ c run) (hkeep : ∀ t ∈ (cx.bk κ).keep, B7 [t] N.n c = true) (hfx : ∀ t v, N.fix t = some v → B7 [t] N.n c = true) {k : Ex → St → Option R} {r : R} {Q : Exit → Act → World → Prop} (hr : Rel w0 Φ0 own0 N w Φ β s a)
  (hk : ∀ e s' a' w' Φ' β', Rel w0 Φ0 own0 N w' Φ' β' s' a' → k e s' = some r → Q e.a1s a' w') (h : L5 cx κ s k = some r) : run Q a w := by
 unfold L5 at h
 split at h
 case h_2 => cases h
 rename_i vs hvs
 split at h
 case h_2 => cases h
 rename_i d ρ s1 hpk
 obtain ⟨y, hy, h⟩ := Option.bind_eq_some_iff.1 h
 unfold a3S at hpk
 obtain ⟨hng, hpk⟩ := a8 hpk
 obtain ⟨Φ1, β1, hP⟩ := N4 hr (L6 hr hvs) hpk
 let fix : Nat → Option Value := fun t => if t ∈ (cx.bk κ).keep then some (a.tmps.getD t undef) else N.fix t
 have hfix : ∀ t v, fix t = some v → B7 [t] N.n c = true := by
  intro t v hv
  simp only [fix] at hv
  split at hv
  · rename_i hm; exact hkeep t hm
  · exact hfx t v hv
 have hfix2 : ∀ t v, fix t = some v → a.tmps.getD t undef = v := by
  intro t v hv
  simp only [fix] at hv
  split at hv
  · cases hv; rfl
  · exact hr.fix t v hv
 refine hmono (fun ex a' w' ⟨h1, hf1, h2, Φ', γ', h3⟩ => ?_) _ _ (hb d y hy w Φ1 a _ fix hfix hfix2 hr.size hr.defers (hG.get hP.rel) hP.inst)
 obtain ⟨e, slots, T', ds', ⟨he, hi, hpost⟩, hkk⟩ := a2e h3 h
 obtain ⟨β', k1, k2, k3⟩ := Rel.back hP hng hi hpost
 have ha : ∀ t, t ∈ (cx.bk κ).keep → a'.tmps.getD t undef = a.tmps.getD t undef := fun t ht => hf1 t _ (by simp only [fix]; rw [if_pos ht])
 have hfin : ∀ t v, N.fix t = some v → a'.tmps.getD t undef = v := by
  intro t v hv
  by_cases ht : t ∈ (cx.bk κ).keep
  · rw [ha t ht]; exact hr.fix t v hv
  · exact hf1 t v (by simp only [fix]; rw [if_neg ht]; exact hv)
 rw [he]
 refine hk e (a4b (cx.bk κ).ins ρ (cx.bk κ).keep slots T' ds' s1) a' w' Φ' β' ⟨?_, ⟨k1.hp.ob, k1.hp.lt, k1.hp.hlt, k1.hp.inj, k1.hp.blt, k1.hp.flt, k1.hp.rin, k1.hp.rinj⟩, k1.own, k1.same, k1.fri, k1.fro, h1, hfin, h2, k1.hold, k1.keep, k1.rown⟩ hkk
 intro t v hv
 simp only [a4b, Z5] at hv
 split at hv
 · rename_i x hx
   cases hv
   exact a8j (vs := []) k3 t _ hx
 · obtain ⟨g1, g2⟩ := a1h hv
   rw [ha t g1]
   exact k1.env t v g2
theorem a6l {c : Code} {k : Ex → St → Option R} {r : R} {Q : Exit → Act → World → Prop}
  (hbody : ∀ (k : Ex → St → Option R) (Q : Exit → Act → World → Prop) {w : World} {Φ : Nat → Prop} {β : Loc} {s : St} {a : Act}, Rel w0 Φ0 own0 N w Φ β s a →
    (∀ e s' a' w' Φ' β', Rel w0 Φ0 own0 N w' Φ' β' s' a' → k e s' = some r → Q e.a1s a' w') → ev cx H c s k = some r → c.wp P Q a w)
  (hk : ∀ e s' a' w' Φ' β', Rel w0 Φ0 own0 N w' Φ' β' s' a' → k e s' = some r → Q e.a1s a' w') : ∀ (n : Nat) {w : World} {Φ : Nat → Prop} {β : Loc} {s : St} {a : Act}, Rel w0 Φ0 own0 N w Φ β s a →
  a4A (ev cx H c) n s k = some r → Code.rounds P c Q n a w
 | 0, w, Φ, β, s, a, hr, h => by simp [a4A] at h
 | n + 1, w, Φ, β, s, a, hr, h => by
   simp only [a4A] at h
   rw [rounds_succ]
   refine hbody _ _ hr (fun e s' a' w' Φ' β' hr' h' => ?_) h
   cases e with
   | norm => exact a6l hbody hk n hr' h'
   | out id => exact hk (.out id) s' a' w' Φ' β' hr' h'
   | ret => exact hk .ret s' a' w' Φ' β' hr' h'
def c6E (N : Frm) (c : Code) : Prop := ∀ t v, N.fix t = some v → B7 [t] N.n c = true
theorem a5a {fx : List Nat} {n : Nat} {x y : Code} (h : B7 fx n (.seq x y) = true) : B7 fx n x = true ∧ B7 fx n y = true := by simpa [B7] using h
theorem a0W {fx : List Nat} {n : Nat} {o : Operand} {x y : Code} (h : B7 fx n (.cond o x y) = true) : B7 fx n x = true ∧ B7 fx n y = true := by simpa [B7] using h
theorem a1S [hG : GlobR cx.gp w0 Φ0 own0] {κ : Nat} {c : Code} (hb : a6X P cx N.n κ c) (hkeep : ∀ t ∈ (cx.bk κ).keep, B7 [t] N.n c = true) (hfx : ∀ t v, N.fix t = some v → B7 [t] N.n c = true) {k : Ex → St → Option R} {r : R} {Q : Exit → Act → World → Prop} (hr : Rel w0 Φ0 own0 N w Φ β s a)
  (hk : ∀ e s' a' w' Φ' β', Rel w0 Φ0 own0 N w' Φ' β' s' a' → k e s' = some r → Q e.a1s a' w') (h : L5 cx κ s k = some r) : c.wp P Q a w :=
 a4j (run := fun Q a w => c.wp P Q a w) (fun hq _ _ g => wp_mono g hq) hb hkeep hfx hr hk h
end
def b5N (w : World) (β : Loc) (s : St) (b : Nat) : Prop := (∃ id ob p, look s.heap id = some ob ∧ ob.owned = true ∧ β id = some (some (b, p)) ∧ s.held id = false) ∨ ∃ id ob, look s.heap id = some ob ∧ H4 w β id ob b ∧ s.held id = false
def Fut (w : World) (β : Loc) (s : St) (w' : World) : Prop := Same w (b5N w β s) w'
section
variable {P : Program} {R : Type} {w0 : World} {Φ0 own0 : Nat → Prop} {N : Frm} {w w' : World} {Φ Φ' : Nat → Prop} {β β' : Loc} {s s' : St} {a a' : Act}
variable {cx : Cx}
theorem a6b [hG : GlobR cx.gp w0 Φ0 own0] (hok : AllOk P cx) {ops : Array Oper} {i : Nat} {o : Oper} (hoi : ops[i]? = some o) (hN : ∀ d, o.dst = some d → N.ok d) {K : Act → World → Prop} {Q : Exit → Act → World → Prop} {k : St → Option R} {r : R}
  (hr : Rel w0 Φ0 own0 N w Φ β s a) (hk : ∀ s' a' w' Φ' β', Rel w0 Φ0 own0 N w' Φ' β' s' a' → k s' = some r → K a' w') (h : a6a cx ops.toList o s k = some r) : wpOp P ops Q i K a w := by
 have yes : ∀ {s1 : St}, Rel w0 Φ0 own0 N w Φ β s1 a → j5 cx o s1 k = some r → o.wp P a w K Q := fun hr1 h1 => a6B hok hr1 hN hk h1
 have no : ∀ {s1 : St}, Rel w0 Φ0 own0 N w Φ β s1 a → k (s1.set o.dst .skip) = some r → K (a.put o.dst undef) w := fun hr1 h1 => hk _ _ _ _ _ (hr1.set (sv := .skip) (v := undef) rfl hN) h1
 unfold wpOp
 simp only [hoi]
 unfold a6a at h
 split at h
 · rename_i hg
   have hw : Region.wanted o (yielded ops a.tmps) = true := by simp [Region.wanted, hg]
   rw [if_pos hw]
   exact .inl (yes hr h)
 · rename_i j want hg
   split at h
   case h_2 => cases h
   rename_i d hd
   rw [nth_getElem?, Array.getElem?_toList] at hd
   split at h
   · rename_i b hb
     have hv : a.tmps.getD d undef = .bool b := hr.env d _ hb
     have hdl : d < a.tmps.size := by
      rcases Nat.lt_or_ge d a.tmps.size with g | g
      · exact g
      · have : a.tmps.getD d undef = undef := by simp [Array.getD, Nat.not_lt.2 g]
        rw [this] at hv; cases hv
     have hy : yielded ops a.tmps j = some b := by
      simp only [yielded, hd, bind_some, getD_some hv hdl]
     have hw : Region.wanted o (yielded ops a.tmps) = (some b == some want) := by simp only [Region.wanted, hg, hy]
     have hs1 : Rel w0 Φ0 own0 N w Φ β (s.set (some d) (.one (.bool b))) a := a8H hr (by rw [hv]; rfl)
     cases b <;> cases want <;> simp only [Z0, cond_true, cond_false] at h <;> rw [hw]
     · rw [if_pos (by rfl)]; exact .inl (yes hs1 h)
     · rw [if_neg (by decide)]; exact no hs1 h
     · rw [if_neg (by decide)]; exact no hs1 h
     · rw [if_pos (by rfl)]; exact .inl (yes hs1 h)
   · rename_i hb
     have hv : a.tmps.getD d undef = undef := hr.env d _ hb
     have hy : yielded ops a.tmps j = none := by
      simp only [yielded, hd, bind_some]
      rcases Nat.lt_or_ge d a.tmps.size with g | g
      · rw [getD_some hv g]; rfl
      · rw [Array.getElem?_eq_none g]
     have hw : Region.wanted o (yielded ops a.tmps) = false := by simp only [Region.wanted, hg, hy]; rfl
     rw [hw]
     exact no hr h
   · cases h
theorem a5w (hr : Rel w0 Φ0 own0 N w Φ β s a) {id : Nat} {ob : SObj} {b p : Nat} (hl : look s.heap id = some ob) (ho : (ob.owned = true ∧ s.held id = true) ∨ ∃ e l, ob = .frz e l) (hb : β id = some (some (b, p))) (hw : Fut w β s w') : w'.heap[b]? = w.heap[b]? := by
 refine hw.block b (hr.hp.blt _ _ _ hb) ?_
 rintro (⟨id', ob', q, h1, h2, h3, h4⟩ | ⟨id', ob', h1, h2, h4⟩)
 · rcases ho with ⟨ho, hh⟩ | ⟨e, l, rfl⟩
   · have := hr.hp.inj id id' ob ob' b p q hl h1 ho h2 hb h3
     subst this
     rw [hh] at h4; cases h4
   · rcases hr.hp.ob id _ hl with ⟨k1, _⟩ | ⟨b', o', k1, k2, _⟩
     · rw [hb] at k1; cases k1
     · rw [hb] at k1; cases k1
       exact a1M (hr.hp.ob id' ob' h1) h2 h3 k2
 · obtain ⟨g1, g2, g3⟩ := hr.hp.rin id' ob' b h1 h2
   rcases ho with ⟨ho, hh⟩ | ⟨e, l, rfl⟩
   · exact g3 id ob p hl ho hb
   · rcases hr.hp.ob id _ hl with ⟨k1, _⟩ | ⟨b', o', k1, k2, _⟩
     · rw [hb] at k1; cases k1
     · rw [hb] at k1; cases k1
       exact g1 k2
theorem c0M (hr : Rel w0 Φ0 own0 N w Φ β s a) {b : Nat} (hb : Φ b) (hw : Fut w β s w') : w'.heap[b]? = w.heap[b]? := by
 refine hw.block b (hr.hp.flt b hb) ?_
 rintro (⟨id', ob', q, h1, h2, h3, h4⟩ | ⟨id', ob', h1, h2, h4⟩)
 · exact a1M (hr.hp.ob id' ob' h1) h2 h3 hb
 · exact (hr.hp.rin id' ob' b h1 h2).1 hb
theorem b1A (hok : AllOk P cx) {o : Oper} {k : St → Option R} {r : R} {s0 : St} (hh : s0.hold = s.hold) (hhp : s0.heap = s.heap) (hr : Rel w0 Φ0 own0 N w Φ β s0 a) (hst : E6 o s0 = true) (h : j5 cx o s0 k = some r) : D9 P R (Fut w β s) w Φ β s0 a o k r := by
 have up : D9 P R (fun _ => True) w Φ β s0 a o k r → D9 P R (Fut w β s) w Φ β s0 a o k r := fun ⟨x, v, h1, h2, h3⟩ => ⟨x, v, fun w' _ => h1 w' trivial, h2, h3⟩
 have hfut : ∀ w', Fut w β s w' → Fut w β s0 w' := fun w' h => by
  refine ⟨h.os, h.tape, h.output, h.size, fun b hb hn => h.block b hb ?_⟩
  rintro (⟨id, ob, p, h1, h2, h3, h4⟩ | ⟨id, ob, h1, h2, h4⟩)
  · exact hn (.inl ⟨id, ob, p, by rw [hhp]; exact h1, h2, h3, by unfold St.held at *; rw [hh]; exact h4⟩)
  · exact hn (.inr ⟨id, ob, by rw [hhp]; exact h1, h2, by unfold St.held at *; rw [hh]; exact h4⟩)
 cases ho : o.op with
 | move x => exact up (a3T hr (.inl ho) h)
 | assign x => exact up (a3T hr (.inr ho) h)
 | pick c x y => exact up (a8w hr ho h)
 | build t ps => exact up (a6p hok.ok hr ho h)
 | makeFunc fn x y =>
   cases fn with
   | func f => exact up (a2l hr ho h)
   | _ => simp [j5, ho] at h
 | load t x =>
   have hng : gOp cx.gv x = none := by
    cases x <;> first | rfl | (simp [E6, ho, n7] at hst; done)
   have hnt : ∀ id i e l, n7 s0.env x = some (.one (.eptr id i 0)) → look s0.heap id = some (.rows e l none) → s0.held id = true := by
    intro id i e l hv hl
    simp only [E6, ho, hv, hl, Bool.or_false] at hst
    exact hst
   refine b4l (K := fun b => ∀ w', Fut w β s w' → w'.heap[b]? = w.heap[b]?) hok.ok hr (fun w' h b hb => hb w' h) ho (fun v hv => ?_) hnt hng h
   simp only [E6, ho, hv] at hst
   have hld : ∃ td, N1 s0 td v (fun r => k (s0.set o.dst r)) = some r := by
    simp only [j5, ho, hng] at h
    split at h
    · rename_i td u htd hx
      rw [hv] at hx; cases hx
      rcases a6j h with h | ⟨id, i, e, l, n, row, e1, e2, e3, e4, e5⟩
      · exact ⟨td, h⟩
      · subst e1
        have := hnt id i e l hv e2
        unfold b9P at e5
        rw [this] at e5
        cases e5
    · cases h
   obtain ⟨td, hld⟩ := hld
   unfold a6M
   split
   · rename_i id off
     intro b p hb w' hw'
     simp only at hst
     cases hl : look s0.heap id with
     | none => simp [N1, hl] at hld
     | some ob =>
       have hown : ob.owned = true := by
        cases ob with
        | dead => simp [N1, hl] at hld
        | frz _ _ => simp [N1, hl] at hld
        | _ => rfl
       exact a5w hr hl (.inl ⟨hown, hst⟩) hb (hfut w' hw')
   · rename_i id i off
     intro b p hb w' hw'
     simp only [Bool.or_eq_true] at hst
     cases hl : look s0.heap id with
     | none => simp [N1, hl] at hld
     | some ob =>
       refine a5w hr hl ?_ hb (hfut w' hw')
       cases ob with
       | dead => simp [N1, hl] at hld
       | frz e l => exact .inr ⟨e, l, rfl⟩
       | _ =>
         rcases hst with g | g
         · exact .inl ⟨rfl, g⟩
         · rw [hl] at g; cases g
   · intro b hb w' hw'
     exact c0M hr hb (hfut w' hw')
   · trivial
 | lookup t x i b =>
   refine b1t (K := fun b => ∀ w', Fut w β s w' → w'.heap[b]? = w.heap[b]?) hok.ok hr (fun w' h b hb => hb w' h) ho (fun id hv b p hb hm w' hw' => ?_) (fun id kt e l hv hl => by simp only [E6, ho, hv] at hst; exact hst) h
   obtain ⟨c, v, g, l, hm⟩ := hm
   simp only [E6, ho, hv] at hst
   exact a5w hr hm (.inl ⟨rfl, hst⟩) hb (hfut w' hw')
 | nilCheck x => exact up (a2m hr ho h)
 | binOp op t x y t' => exact up (b0p hok.ok hr ho h)
 | unOp op t x => exact up (b2T hr ho h)
 | convert t d x => exact up (a3z hok.ok hr ho hst h)
 | slice t x lo hi mx =>
   cases mx with
   | none => exact up (a6t hok.ok hr ho h)
   | some m => simp [E6, ho] at hst
 | fieldAddr t x f => exact up (a1z hok.ok hr ho h)
 | field t x f => exact up (a6q hok.ok hr ho h)
 | indexAddr t x i => exact up (a1A hok.ok hr ho h)
 | index t x i => exact up (a6r hok.ok hr ho h)
 | extract x i => exact up (a3A hr ho h)
 | call c =>
   simp only [E6, ho] at hst
   split at hst
   · rename_i hc
     refine up (b0q hok.ok hr ho hc (fun x id hx he => ?_) h)
     rw [hx] at hst
     simp only [he] at hst
     cases hst
   · rename_i hc; exact up (a5K hr ho (.inl hc) h)
   · rename_i hc; exact up (a5K hr ho (.inr hc) h)
   · cases hst
 | _ => simp [E6, ho] at hst
theorem a9o (hok : AllOk P cx) {ops : Array Oper} {o : Oper} {k : St → Option R} {r : R} (hN : ∀ d, o.dst = some d → N.ok d) (hr : Rel w0 Φ0 own0 N w Φ β s a)
  (h : a9L cx ops.toList o s k = some r) : ∃ v s', YieldsIf P ops (Fut w β s) o v a ∧ Rel w0 Φ0 own0 N w Φ β s' (a.put o.dst v) ∧ s'.heap = s.heap ∧ s'.hold = s.hold ∧ k s' = some r := by
 have yes : ∀ {s1 : St}, Rel w0 Φ0 own0 N w Φ β s1 a → s1.hold = s.hold → s1.heap = s.heap → stepT cx o s1 k = some r → Region.wanted o (yielded ops a.tmps) = true →
   ∃ v s', YieldsIf P ops (Fut w β s) o v a ∧ Rel w0 Φ0 own0 N w Φ β s' (a.put o.dst v) ∧ s'.heap = s.heap ∧ s'.hold = s.hold ∧ k s' = some r := by
  intro s1 hr1 hh hhp h2 hw
  unfold stepT at h2
  obtain ⟨h1, h2⟩ := a8 h2
  obtain ⟨x, v, g1, g2, g3⟩ := b1A hok hh hhp hr1 h1 h2
  exact ⟨v, _, .inl ⟨hw, g1⟩, hr1.set g2 hN, by cases o.dst <;> exact hhp, by cases o.dst <;> exact hh, g3⟩
 have no : ∀ {s1 : St}, Rel w0 Φ0 own0 N w Φ β s1 a → s1.heap = s.heap → s1.hold = s.hold → k (s1.set o.dst .skip) = some r → Region.wanted o (yielded ops a.tmps) = false → ∃ v s', YieldsIf P ops (Fut w β s) o v a ∧ Rel w0 Φ0 own0 N w Φ β s' (a.put o.dst v) ∧ s'.heap = s.heap ∧ s'.hold = s.hold ∧ k s' = some r :=
  fun hr1 h2 h3 h1 hw => ⟨undef, _, .inr ⟨hw, rfl⟩, hr1.set (sv := .skip) (v := undef) rfl hN, by cases o.dst <;> exact h2, by cases o.dst <;> exact h3, h1⟩
 unfold a9L at h
 split at h
 · rename_i hg
   exact yes hr rfl rfl h (by simp [Region.wanted, hg])
 · rename_i j want hg
   split at h
   case h_2 => cases h
   rename_i d hd
   rw [nth_getElem?, Array.getElem?_toList] at hd
   split at h
   · rename_i b hb
     have hv : a.tmps.getD d undef = .bool b := hr.env d _ hb
     have hdl : d < a.tmps.size := by
      rcases Nat.lt_or_ge d a.tmps.size with g | g
      · exact g
      · have : a.tmps.getD d undef = undef := by simp [Array.getD, Nat.not_lt.2 g]
        rw [this] at hv; cases hv
     have hy : yielded ops a.tmps j = some b := by
      simp only [yielded, hd, bind_some, getD_some hv hdl]
     have hw : Region.wanted o (yielded ops a.tmps) = (some b == some want) := by simp only [Region.wanted, hg, hy]
     have hs1 : Rel w0 Φ0 own0 N w Φ β (s.set (some d) (.one (.bool b))) a := a8H hr (by rw [hv]; rfl)
     cases b <;> cases want <;> simp only [Z0, cond_true, cond_false] at h
     · exact yes hs1 rfl rfl h (by rw [hw]; rfl)
     · exact no hs1 rfl rfl h (by rw [hw]; decide)
     · exact no hs1 rfl rfl h (by rw [hw]; decide)
     · exact yes hs1 rfl rfl h (by rw [hw]; rfl)
   · rename_i hb
     have hv : a.tmps.getD d undef = undef := hr.env d _ hb
     have hy : yielded ops a.tmps j = none := by
      simp only [yielded, hd, bind_some]
      rcases Nat.lt_or_ge d a.tmps.size with g | g
      · rw [getD_some hv g]; rfl
      · rw [Array.getElem?_eq_none g]
     exact no hr rfl rfl h (by simp only [Region.wanted, hg, hy]; rfl)
   · cases h
theorem a0p {md : Region.Mode} {ops : Array Oper} {Q : Exit → Act → World → Prop} {S S' : World → Prop} (h : ∀ w, S w → S' w) : ∀ (n : Nat) (listed : Array Bool) (a : Act) (w : World), wpAnyH P md ops Q S n listed a w → wpAnyH P md ops Q S' n listed a w
 | 0, _, _, _, g => g
 | n + 1, listed, a, w, g => ⟨g.1, fun i hi => wpOp_mono (fun a' w' g' => ⟨h _ g'.1, a0p h n _ a' w' g'.2⟩) (g.2 i hi)⟩
def b2f (own0 : Nat → Prop) (w0 : World) (N : Frm) (w : World) (β : Loc) (s : St) : Frm :=
 ⟨N.n, N.fix, fun id x => s.held id = true ∧ β id = some x ∧ ∀ b p, x = some (b, p) → own0 b ∨ w0.heap.size ≤ b ∨ ∃ p, N.held id (some (b, p)), N.kid, w, β, s.heap⟩
theorem a9n {s : St} (h : a2w s = true) {id : Nat} {o : SObj} (hl : look s.heap id = some o) (hr : o.D6 = true) : s.held id = false := by
 have mem : ∀ (l : List (Nat × SObj)), look l id = some o → id ∈ a8d l := by
  intro l
  induction l with
  | nil => intro h; cases h
  | cons x l ih =>
    obtain ⟨j, y⟩ := x
    intro h
    rw [j9] at h
    simp only [a8d, List.mem_cons]
    split at h
    · rename_i e; exact .inl e.symm
    · exact .inr (ih h)
 have := List.all_eq_true.1 h id (mem _ hl)
 rw [hl] at this
 cases o <;> first | simpa using this | cases hr
theorem Rel.a8z (hr : Rel w0 Φ0 own0 N w Φ β s a) (hrf : a2w s = true) : Rel w Φ (b5N w β s) (b2f own0 w0 N w β s) w Φ β s a := {
 rown := fun id o c h1 h2 => .inl (.inr ⟨id, o, h1, h2, by
  cases hir : o.D6 with
  | false => exact absurd h2 (B1 hir)
  | true => exact a9n hrf h1 hir⟩)
 env := hr.env
 hp := hr.hp
 own := fun id o b p h1 h2 h3 => by
  cases hh : s.held id with
  | false => exact .inl (.inl ⟨id, o, p, h1, h2, h3, hh⟩)
  | true => exact .inr (.inr ⟨p, hh, h3, fun b' p' e => by cases e; exact hr.own id o b p h1 h2 h3⟩)
 same := .refl _ _
 fri := fun _ h => h
 fro := fun _ h => .inl h
 size := hr.size
 fix := hr.fix
 defers := hr.defers
 hold := fun id x h => ⟨h.1, h.2.1⟩
 keep := fun id _ => .refl .. }
theorem Rel.a0E (hr : Rel w0 Φ0 own0 N w Φ β s a) {b : Nat} (h : b5N w β s b) : own0 b ∨ w0.heap.size ≤ b := by
 rcases h with ⟨id, ob, p, h1, h2, h3, h4⟩ | ⟨id, ob, h1, h2, _⟩
 · exact hr.b2F h4 h1 h2 h3
 · exact hr.rown id ob b h1 h2
theorem Rel.b9Z (hr : Rel w0 Φ0 own0 N w Φ β s a) (h : Rel w Φ (b5N w β s) (b2f own0 w0 N w β s) w' Φ' β' s' a') : Rel w0 Φ0 own0 N w' Φ' β' s' a' := {
 rown := fun id o c h1 h2 => by
  rcases h.rown id o c h1 h2 with g | g
  · exact hr.a0E g
  · exact .inr (Nat.le_trans hr.same.size g)
 env := h.env
 hp := h.hp
 own := fun id o b p h1 h2 h3 => by
  rcases h.own id o b p h1 h2 h3 with g | g | ⟨q, g⟩
  · exact (hr.a0E g).elim .inl (fun g => .inr (.inl g))
  · exact .inr (.inl (Nat.le_trans hr.same.size g))
  · exact g.2.2 b q rfl
 same := ⟨h.same.os.trans hr.same.os, h.same.tape.trans hr.same.tape, h.same.output.trans hr.same.output, Nat.le_trans hr.same.size h.same.size, fun b h1 h2 => by
  rw [h.same.block b (Nat.lt_of_lt_of_le h1 hr.same.size) (fun g => by rcases hr.a0E g with g | g; exact h2 g; omega), hr.same.block b h1 h2]⟩
 fri := fun b hb => h.fri b (hr.fri b hb)
 fro := fun b hb => by
  rcases h.fro b hb with g | g | g
  · exact hr.fro b g
  · exact .inr (hr.a0E g)
  · exact .inr (.inr (Nat.le_trans hr.same.size g))
 size := h.size
 fix := h.fix
 defers := h.defers
 hold := fun id x hx => h.hold id x ⟨(hr.hold id x hx).1, (hr.hold id x hx).2, fun b p e => by subst e; exact .inr (.inr ⟨p, hx⟩)⟩
 keep := fun id hid => (hr.keep id hid).trans (h.keep id hid) }
theorem b5b (hr : Rel w Φ (b5N w β s) (b2f own0 w0 N w β s) w' Φ' β' s' a') {w2 : World} (h : Fut w' β' s' w2) : Fut w β s w2 :=
 ⟨h.os.trans hr.same.os, h.tape.trans hr.same.tape, h.output.trans hr.same.output, Nat.le_trans hr.same.size h.size, fun b h1 h2 => by
  rw [h.block b (Nat.lt_of_lt_of_le h1 hr.same.size) (fun g => by rcases hr.a0E g with g | g; exact h2 g; omega), hr.same.block b h1 h2]⟩
theorem GlobR.a8z {gp : World → (Nat → Prop) → Prop} (hG : GlobR gp w0 Φ0 own0) (hr : Rel w0 Φ0 own0 N w Φ β s a) : GlobR gp w Φ (b5N w β s) := {
 mono := hG.mono
 at0 := hG.get hr
 out := fun b hb => ⟨by
  rintro (⟨id', ob', q, h1, h2, h3, h4⟩ | ⟨id', ob', h1, h2, h4⟩)
  · exact a1M (hr.hp.ob id' ob' h1) h2 h3 hb
  · exact (hr.hp.rin id' ob' b h1 h2).1 hb, hr.hp.flt b hb⟩ }
theorem S8 [hG : GlobR cx.gp w0 Φ0 own0] (hok : AllOk P cx) {ops : Array Oper} {Q : Act → World → Prop} {k : St → Option R} {r : R} (hsel : Region.noSelect ops = true) (hN : ∀ (i : Nat) (o : Oper), ops[i]? = some o → ∀ d, o.dst = some d → N.ok d)
  (hk : ∀ s' a' w' Φ' β', Rel w0 Φ0 own0 N w' Φ' β' s' a' → k s' = some r → Q a' w') : ∀ (t : OrdT) (n : Nat) (listed : Array Bool) {w : World} {Φ : Nat → Prop} {β : Loc} {s : St} {a : Act}, Rel w0 Φ0 own0 N w Φ β s a → M9 cx ops.toList t s k = some r →
  (R2 ops true n listed t = true → wpAnyH P .any ops (fun e a w => e = .normal ∧ Q a w) (Fut w β s) n listed a w) ∧
  (∀ m, n = m + 1 → R2 ops false n listed t = true → ∀ i ∈ a7R t, wpOp P ops (fun e a w => e = .normal ∧ Q a w) i (fun a' w' => Fut w β s w' ∧ wpAnyH P .any ops (fun e a w => e = .normal ∧ Q a w) (Fut w β s) m (listed.setIfInBounds i true) a' w') a w)
 | .done, n, listed, w, Φ, β, s, a, hr, h => by
   simp only [M9] at h
   refine ⟨fun hb => ?_, fun m _ hb => by simp [R2] at hb⟩
   simp only [R2, Bool.true_and, List.isEmpty_iff] at hb
   exact wpAnyH_done hb ⟨rfl, hk _ _ _ _ _ hr h⟩ n
 | .take i t, n, listed, w, Φ, β, s, a, hr, h => by
   refine ⟨fun hb => ?_, fun m e hb => by subst e; simp [R2] at hb⟩
   cases n with
   | zero => simp [R2] at hb
   | succ n =>
     simp only [R2, Bool.true_and, and_eq_true] at hb
     simp only [M9] at h
     split at h
     case h_2 => cases h
     rename_i o ho
     have hoi : ops[i]? = some o := by rw [nth_getElem?, Array.getElem?_toList] at ho; exact ho
     obtain ⟨v, s', g1, g2, g3, g4, g5⟩ := a9o hok (hN i o hoi) hr h
     have ih := (S8 hok hsel hN hk t n _ g2 g5).1 hb.2.2
     refine wpAnyH_take hoi hsel hb.1 hb.2.1 (fun c a w h => by cases h.1) g1 (.refl _ _) ?_
     refine a0p (fun w' hw' => ?_) n _ _ _ ih
     exact ⟨hw'.os, hw'.tape, hw'.output, hw'.size, fun b hb hn => hw'.block b hb (fun hF => hn (by
      rcases hF with ⟨id, ob, p, a1, a2, a3, a4⟩ | ⟨id, ob, a1, a2, a4⟩
      · exact .inl ⟨id, ob, p, by rw [← g3]; exact a1, a2, a3, by unfold St.held at *; rw [← g4]; exact a4⟩
      · exact .inr ⟨id, ob, by rw [← g3]; exact a1, a2, by unfold St.held at *; rw [← g4]; exact a4⟩))⟩
 | .only i t, n, listed, w, Φ, β, s, a, hr, h => by
   have step : ∀ m, n = m + 1 → R2 ops true m (listed.setIfInBounds i true) t = true → wpOp P ops (fun e a w => e = .normal ∧ Q a w) i (fun a' w' => Fut w β s w' ∧ wpAnyH P .any ops (fun e a w => e = .normal ∧ Q a w) (Fut w β s) m (listed.setIfInBounds i true) a' w') a w := by
    intro m e hb
    simp only [M9] at h
    split at h
    case h_2 => cases h
    rename_i o ho
    have hoi : ops[i]? = some o := by rw [nth_getElem?, Array.getElem?_toList] at ho; exact ho
    obtain ⟨hrf, h⟩ := a8 h
    haveI := hG.a8z hr
    refine a6b (N := b2f own0 w0 N w β s) hok hoi (hN i o hoi) (hr.a8z hrf) (fun s' a' w' Φ' β' hr' h' => ⟨hr'.same, ?_⟩) h
    exact a0p (fun w2 h2 => b5b hr' h2) m _ _ _ ((S8 hok hsel hN hk t m _ (hr.b9Z hr') h').1 hb)
   refine ⟨fun hb => ?_, fun m e hb j hj => ?_⟩
   · cases n with
     | zero => simp [R2] at hb
     | succ n =>
       simp only [R2, Bool.not_true, Bool.false_or, and_eq_true] at hb
       refine wpAnyH_all (rs := Region.ready .any ops listed) rfl (fun e => by rw [e] at hb; simp at hb) fun j hj => ?_
       have := List.all_eq_true.1 hb.1.2 j hj
       have := Nat.eq_of_beq_eq_true this
       subst this
       exact step n rfl hb.2
   · subst e
     simp only [R2, Bool.not_false, Bool.true_or, Bool.true_and] at hb
     simp only [a7R, List.mem_singleton] at hj
     subst hj
     exact step m rfl hb
 | .alt i t q, n, listed, w, Φ, β, s, a, hr, h => by
   have parts : a2w s = true ∧ ∃ o, ops[i]? = some o ∧ a6a cx ops.toList o s (fun s' => M9 cx ops.toList t s' k) = some r ∧ M9 cx ops.toList q s k = some r := by
    simp only [M9] at h
    split at h
    case h_2 => cases h
    rename_i o ho
    have hoi : ops[i]? = some o := by rw [nth_getElem?, Array.getElem?_toList] at ho; exact ho
    obtain ⟨hrf, h⟩ := a8 h
    obtain ⟨h1, h2⟩ := a0X h
    exact ⟨hrf, o, hoi, h1, h2⟩
   obtain ⟨hrf, o, hoi, h1, h2⟩ := parts
   have all : ∀ m, n = m + 1 → R2 ops true m (listed.setIfInBounds i true) t = true → R2 ops false (m + 1) listed q = true → ∀ j ∈ a7R (.alt i t q), wpOp P ops (fun e a w => e = .normal ∧ Q a w) j (fun a' w' => Fut w β s w' ∧ wpAnyH P .any ops (fun e a w => e = .normal ∧ Q a w) (Fut w β s) m (listed.setIfInBounds j true) a' w') a w := by
    intro m e b1 b2 j hj
    subst e
    simp only [a7R, List.mem_cons] at hj
    rcases hj with hj | hj
    · subst hj
      haveI := hG.a8z hr
      refine a6b (N := b2f own0 w0 N w β s) hok hoi (hN j o hoi) (hr.a8z hrf) (fun s' a' w' Φ' β' hr' h' => ⟨hr'.same, ?_⟩) h1
      exact a0p (fun w2 h2 => b5b hr' h2) m _ _ _ ((S8 hok hsel hN hk t m _ (hr.b9Z hr') h').1 b1)
    · exact (S8 hok hsel hN hk q (m + 1) listed hr h2).2 m rfl b2 j hj
   refine ⟨fun hb => ?_, fun m e hb j hj => ?_⟩
   · cases n with
     | zero => simp [R2] at hb
     | succ n =>
       simp only [R2, Bool.not_true, Bool.false_or, and_eq_true] at hb
       refine wpAnyH_all (rs := Region.ready .any ops listed) rfl (fun e => by rw [e] at hb; simp at hb) fun j hj => ?_
       exact all n rfl hb.2.1 hb.2.2 j (a2M.1 (List.all_eq_true.1 hb.1.2 j hj))
   · subst e
     simp only [R2, Bool.not_false, Bool.true_or, Bool.true_and, and_eq_true] at hb
     exact all m rfl hb.1 hb.2 j hj
theorem Rel.b2s (hr : Rel w0 Φ0 own0 N w Φ β s a) (hno : ∀ id b, ¬ N.held id b) (l : List Nat) : Rel w0 Φ0 own0 N w Φ β { s with hold := l } a :=
 ⟨hr.env, ⟨hr.hp.ob, hr.hp.lt, hr.hp.hlt, hr.hp.inj, hr.hp.blt, hr.hp.flt, hr.hp.rin, hr.hp.rinj⟩, hr.own, hr.same, hr.fri, hr.fro, hr.size, hr.fix, hr.defers, fun id x h => absurd h (hno id x), hr.keep, hr.rown⟩
theorem b0R [hG : GlobR cx.gp w0 Φ0 own0] (hok : AllOk P cx) (hno : ∀ id b, ¬ N.held id b) {id : Nat} {ops : Array Oper} {Q : Exit → Act → World → Prop} {k : St → Option R} {r : R} {slots : List Nat} {t : OrdT} (hN : ∀ o ∈ ops.toList, ∀ d, o.dst = some d → N.ok d)
  (hc : Region.noSelect ops = true ∧ R2 ops true ops.size (Array.replicate ops.size false) t = true) (hr : Rel w0 Φ0 own0 N w Φ β s a)
  (hk : ∀ s' a' w' Φ' β', Rel w0 Φ0 own0 N w' Φ' β' s' a' → k s' = some r → Q .normal a' w') (h : b3K cx slots t ops.toList s k = some r) : (Code.region id ops true).wp P Q a w := by
 unfold b3K at h
 have h1 := (S8 (Q := fun a w => Q .normal a w) hok hc.1 (fun i o hi d hd => hN o (by rw [← Array.getElem?_toList] at hi; exact List.mem_of_getElem? hi) d hd)
  (fun s' a' w' Φ' β' hr' h' => hk _ a' w' Φ' β' (hr'.b2s hno []) h') t ops.size (Array.replicate ops.size false) ((hr.b2s hno _).drew) h).1 hc.2
 refine wp_mono (wp_region_held hok.mixed h1) fun e a w h => ?_
 rw [h.1]; exact h.2
end
section
variable {P : Program} {R : Type} {w0 : World} {Φ0 own0 : Nat → Prop} {N : Frm} {w w' w2 : World} {Φ Φ' Φ2 : Nat → Prop} {β γ γ' γ2 : Loc} {s s' : St} {a : Act} {hp : List (Nat × SObj)}
variable {cx : Cx} {H : Hn}
theorem J5 [hG : GlobR cx.gp w0 Φ0 own0] (hok : AllOk P cx) (hno : ∀ id b, ¬ N.held id b) : ∀ (c : Code) {k : Ex → St → Option R} {r : R} {Q : Exit → Act → World → Prop} {w : World} {Φ : Nat → Prop} {β : Loc} {s : St} {a : Act}, B7 [] N.n c = true → c6E N c → Hints P cx N.n H c →
  Rel w0 Φ0 own0 N w Φ β s a → (∀ e s' a' w' Φ' β', Rel w0 Φ0 own0 N w' Φ' β' s' a' → k e s' = some r → Q e.a1s a' w') → ev cx H c s k = some r → c.wp P Q a w
 | .skip, k, r, Q, w, Φ, β, s, a, _, _, _, hr, hk, h => wp_skip (hk .norm _ _ _ _ _ hr h)
 | .region id ops false, k, r, Q, w, Φ, β, s, a, hb, hf, _, hr, hk, h => by
   refine wp_region ?_
   have := a1T (Q := Q) hok (ops := ops) (fun o ho d hd => by
    have := List.all_eq_true.1 hb o ho
    simp only [hd, and_eq_true] at this
    refine ⟨by rw [← Nat.blt_eq]; exact this.1, ?_⟩
    cases hfd : N.fix d with
    | none => rfl
    | some v =>
      have := List.all_eq_true.1 (hf d v hfd) o ho
      simp [hd, fresh] at this) (fun s' a' w' Φ' β' hr' h' => hk .norm s' a' w' Φ' β' hr' h') ops.toList 0 (fun j => by simp) hr h
   rwa [Array.length_toList, ← List.range_eq_range'] at this
 | .region id ops true, k, r, Q, w, Φ, β, s, a, hb, hf, hh, hr, hk, h => by
   simp only [ev] at h
   split at h
   · rename_i slots t hd
     refine b0R hok hno (fun o ho d hd => ?_) (hh slots t hd) hr (fun s' a' w' Φ' β' hr' h' => hk .norm s' a' w' Φ' β' hr' h') h
     have := List.all_eq_true.1 hb o ho
     simp only [hd, and_eq_true] at this
     refine ⟨by rw [← Nat.blt_eq]; exact this.1, ?_⟩
     cases hfd : N.fix d with
     | none => rfl
     | some v =>
       have := List.all_eq_true.1 (hf d v hfd) o ho
       simp [hd, fresh] at this
   · cases h
 | .seq x y, k, r, Q, w, Φ, β, s, a, hb, hf, hh, hr, hk, h => by
   simp only [B7, and_eq_true] at hb
   simp only [ev] at h
   refine wp_seq (J5 hok hno x hb.1 (fun t v h => (a5a (hf t v h)).1) hh.1 hr (fun e s' a' w' Φ' β' hr' h' => ?_) h)
   cases e with
   | norm =>
     have hh2 := hh.2
     show y.wp P Q a' w'
     simp only at h'
     split at h'
     · rename_i κ hκ
       rw [hκ] at hh2
       exact a1S hh2.1 hh2.2 (fun t v h => (a5a (hf t v h)).2) hr' hk h'
     · rename_i hκ
       rw [hκ] at hh2
       exact J5 hok hno y hb.2 (fun t v h => (a5a (hf t v h)).2) hh2 hr' hk h'
   | out id => exact hk (.out id) s' a' w' Φ' β' hr' h'
   | ret => exact hk .ret s' a' w' Φ' β' hr' h'
 | .cond c x y, k, r, Q, w, Φ, β, s, a, hb, hf, hh, hr, hk, h => by
   simp only [B7, and_eq_true] at hb
   simp only [ev] at h
   split at h
   case h_3 => cases h
   case h_2 =>
    rename_i hc
    obtain ⟨t, hcv⟩ : ∃ t, a.eval c = .bool t := hr.eval hc
    obtain ⟨h1, h2⟩ := a0X h
    refine wp_cond hcv ?_
    cases t with
    | true => exact J5 hok hno x hb.1 (fun t v h => (a0W (hf t v h)).1) hh.1 hr hk h1
    | false => exact J5 hok hno y hb.2 (fun t v h => (a0W (hf t v h)).2) hh.2 hr hk h2
   rename_i t hc
   have hcv : a.eval c = .bool t := hr.eval hc
   refine wp_cond hcv ?_
   cases t with
   | true => exact J5 hok hno x hb.1 (fun t v h => (a0W (hf t v h)).1) hh.1 hr hk h
   | false => exact J5 hok hno y hb.2 (fun t v h => (a0W (hf t v h)).2) hh.2 hr hk h
 | .block id c, k, r, Q, w, Φ, β, s, a, hb, hf, hh, hr, hk, h => by
   simp only [ev] at h
   simp only [Hints] at hh
   split at h
   · rename_i κ hκ
     rw [hκ] at hh
     exact a1S hh.1 hh.2 hf hr hk h
   · rename_i hκ
     rw [hκ] at hh
     refine wp_block (J5 hok hno c hb hf hh hr (fun e s' a' w' Φ' β' hr' h' => ?_) h)
     cases e with
     | norm => exact hk .norm s' a' w' Φ' β' hr' h'
     | ret => exact hk .ret s' a' w' Φ' β' hr' h'
     | out id' =>
       show (if id' = id then Q .normal a' w' else Q (.exit id') a' w')
       simp only at h'
       cases hbq : Nat.beq id' id with
       | true => rw [hbq] at h'; rw [if_pos (Nat.eq_of_beq_eq_true hbq)]; exact hk .norm s' a' w' Φ' β' hr' h'
       | false => rw [hbq] at h'; rw [if_neg (fun e => by rw [e, Nat.beq_refl] at hbq; cases hbq)]; exact hk (.out id') s' a' w' Φ' β' hr' h'
 | .loop c, k, r, Q, w, Φ, β, s, a, hb, hf, hh, hr, hk, h => by
   simp only [ev] at h
   exact wp_loop_rounds 16 (a6l (fun k Q {w Φ β s a} hr hk h => J5 hok hno c hb hf hh hr hk h) hk 16 hr h)
 | .exit id, k, r, Q, w, Φ, β, s, a, _, _, _, hr, hk, h => wp_exit (hk (.out id) _ _ _ _ _ hr h)
 | .ret, k, r, Q, w, Φ, β, s, a, _, _, _, hr, hk, h => wp_ret (hk .ret _ _ _ _ _ hr h)
 | .rangeFunc _ _ _ _, k, r, Q, w, Φ, β, s, a, _, _, _, hr, hk, h => by simp [ev] at h
 | .scope _, k, r, Q, w, Φ, β, s, a, _, _, _, hr, hk, h => by simp [ev] at h
 | .label _, k, r, Q, w, Φ, β, s, a, _, _, _, hr, hk, h => by simp [ev] at h
 | .goto _, k, r, Q, w, Φ, β, s, a, _, _, _, hr, hk, h => by simp [ev] at h
 | .refuse _, k, r, Q, w, Φ, β, s, a, _, _, _, hr, hk, h => by simp [ev] at h
def a8C (tmps : Array Value) : ResultVar → Sem Value
 | .tmp t => pure (tmps.getD t undef)
 | .cell a t => do loadVar t (← asAddr (tmps.getD a undef))
theorem a6w (hok : AllOk P cx) (hr : Rel w0 Φ0 own0 N w Φ β s a) : ∀ (rs : List ResultVar) (vs : List SVal), I3 cx s rs = some vs → ∃ us, (rs.mapM (a8C a.tmps)).run P w = .ok us w ∧ I4 w Φ β s.heap vs us
 | [], vs, h => by simp [I3] at h; subst h; exact ⟨[], by simp, rfl⟩
 | x :: rs, vs, h => by
   simp only [I3] at h
   split at h
   case h_2 => cases h
   rename_i v vs' hx hxs
   cases h
   obtain ⟨us, g1, g2⟩ := a6w hok hr rs vs' hxs
   cases x with
   | tmp t =>
     simp only [a8D] at hx
     exact ⟨a.tmps.getD t undef :: us, by simp [List.mapM_cons, a8C, g1], _, _, rfl, hr.env t v hx, g2⟩
   | cell t ty =>
     simp only [a8D] at hx
     split at hx
     case h_2 => cases hx
     rename_i td p htd hp'
     obtain ⟨x, b, o, val, k1, k2, k3, k4⟩ := b6E (hok.ok.tab ty _ htd) hr (hr.env t p hp') hx
     cases k4
     exact ⟨val :: us, by simp [List.mapM_cons, a8C, k1, asAddr, k2, g1], val, us, rfl, k3, g2⟩
theorem b6R (us : List Value) : (if h : us.toArray.size = 1 then us.toArray[0] else .tuple us.toArray) = L3 us := by
 match us with
 | [] => rfl
 | [v] => rfl
 | _ :: _ :: _ => rfl
theorem b2Z (fn : Func) (tmps : Array Value) {us : List Value} (h : (fn.results.toList.mapM (a8C tmps)).run P w = .ok us w) : (results fn tmps).run P w = .ok (L3 us) w := by
 have e : results fn tmps = (do let vs ← fn.results.mapM (a8C tmps); pure (if h : vs.size = 1 then vs[0] else .tuple vs)) := by
  unfold results
  congr 1
 rw [e, Array.mapM_eq_mapM_toList]
 simp only [Sem.run_bind, Sem.run_map, h, Result.andThen_ok, Sem.run_pure]
 rw [b6R]
theorem b5O {T : Tm} {ds : List Dyn} {vs : List Value} (h : InstR w Φ T ds vs γ) : vs.length = T.slots.length := by
 have h1 := a7g h.M5
 have : ∀ (l : List SlT) (ds : List Dyn), (G1 l ds).1.length = l.length := by
  intro l
  induction l with
  | nil => intro ds; rfl
  | cons x l ih => intro ds; simp [G1, ih]
 rw [h1]; exact this _ _
theorem b8f (hok : AllOk P cx) {f φ : Nat} {fn : Func} {c : Code} (hfn : P.funcs[f]? = some fn) (hb : fn.body = some c) (hlen : (cx.kin φ).slots.length ≤ fn.ntmps) (hB : B7 [] fn.ntmps c = true)
  (hH : Hints P cx fn.ntmps H c) : ∀ d y, b6m cx H φ c fn.results.toList d = some y → ∀ (w : World) (Φ : Nat → Prop) (vs : List Value) (γ : Loc), cx.gp w Φ → InstR w Φ (cx.kin φ) (o7 (cx.kin φ).cts d) vs γ →
  Calls P f vs.toArray w fun e w' => ∃ Φ' γ' rs, e = .returned (L3 rs) ∧ a1E (fun T' ds' => InstR w' Φ' T' ds' rs γ' ∧ PostR w Φ γ (cx.kin φ) (o7 (cx.kin φ).cts d) w' Φ' γ' T' ds') (cx.kouts φ) y := by
 intro d y h w Φ vs γ hg hi
 haveI := GlobR.enter hok.gpm hg hi
 have hvl := b5O hi
 refine calls_of_wp hfn hb ?_
 let a0 : Act := { tmps := vs.toArray ++ Array.replicate (fn.ntmps - vs.toArray.size) undef, defers := [] }
 have hsz : a0.tmps.size = fn.ntmps := by simp [a0]; omega
 have hget : ∀ t v, vs[t]? = some v → a0.tmps.getD t undef = v := by
  intro t v ht
  have hlt := (List.getElem?_eq_some_iff.1 ht).1
  have : a0.tmps[t]? = some v := by
   simp only [a0]
   rw [Array.getElem?_append_left (by simpa using hlt)]
   simpa using ht
  rw [Array.getD_eq_getD_getElem?, this]; rfl
 have hslots : ((List.range (cx.kin φ).slots.length).map fun t => a0.tmps.getD t undef) = vs := by
  apply List.ext_getElem?
  intro i
  simp only [List.getElem?_map]
  by_cases hi : i < (cx.kin φ).slots.length
  · rw [List.getElem?_range hi]
    have hv : vs[i]? = some vs[i] := List.getElem?_eq_getElem (by omega)
    rw [hv]; simp only [Option.map_some]; rw [hget i _ hv]
  · rw [List.getElem?_eq_none (by simpa using hi), List.getElem?_eq_none (by omega)]; rfl
 have hr0 := a5A (a := a0) (slots := List.range (cx.kin φ).slots.length) (fix := fun _ => none) (by rw [hslots]; exact hi) hsz (fun t v h => by cases h) rfl
 unfold b6m at h
 refine J5 (Q := bodyPost P fn _) hok (N := ⟨fn.ntmps, fun _ => none, fun _ _ => False, H3 (cx.kin φ), w, γ, (cx.kin φ).heap (o7 (cx.kin φ).cts d)⟩) (fun _ _ h => h) c hB (fun t v hv => by cases hv) hH hr0 (fun e s' a' w' Φ' β' hr' h' => ?_) h
 have fin : (match I3 cx s' fn.results.toList with
   | some vs => a2V (C4 0 (cx.kin φ).objs) (cx.kouts φ) vs s'
   | none => none) = some y → a'.defers = [] ∧ ∃ v, (results fn a'.tmps).run P w' = .ok v w' ∧ ∃ Φ' γ' rs, Ending.returned v = .returned (L3 rs) ∧
   a1E (fun T' ds' => InstR w' Φ' T' ds' rs γ' ∧ PostR w Φ γ (cx.kin φ) (o7 (cx.kin φ).cts d) w' Φ' γ' T' ds') (cx.kouts φ) y := by
  intro h'
  split at h'
  case h_2 => cases h'
  rename_i rv hrv
  obtain ⟨us, g1, g2⟩ := a6w hok hr' _ _ hrv
  have : ∀ (l : List Tm) (y : (P9 l).denote), a2V (C4 0 (cx.kin φ).objs) l rv s' = some y → ∃ Φ2 γ2, a1E (fun T' ds' => InstR w' Φ2 T' ds' us γ2 ∧ PostR w Φ γ (cx.kin φ) (o7 (cx.kin φ).cts d) w' Φ2 γ2 T' ds') l y := by
   intro l
   induction l with
   | nil => intro y h; cases h
   | cons T' l ih =>
     intro y h
     have one : ∀ d' ρ s1, a3w T' (C4 0 (cx.kin φ).objs) rv s' = some (d', ρ, s1) → ∃ Φ2 γ2, InstR w' Φ2 T' (o7 T'.cts d') us γ2 ∧ PostR w Φ γ (cx.kin φ) (o7 (cx.kin φ).cts d) w' Φ2 γ2 T' (o7 T'.cts d') := by
      intro d' ρ s1 hd
      obtain ⟨Φ2, β2, hP⟩ := N4 hr' g2 hd
      exact ⟨Φ2, _, hP.inst, a4L rfl rfl rfl rfl hP⟩
     cases l with
     | nil =>
       simp only [a2V] at h
       split at h
       · rename_i d' ρ s1 hd; cases h; exact one _ _ _ hd
       · cases h
     | cons T2 l =>
       simp only [a2V] at h
       split at h
       · rename_i d' ρ s1 hd; cases h; exact one _ _ _ hd
       · split at h
         · rename_i d' hd; cases h; exact ih _ hd
         · cases h
  obtain ⟨Φ2, γ2, h2⟩ := this _ _ h'
  exact ⟨hr'.defers, _, b2Z fn _ g1, Φ2, γ2, us, rfl, h2⟩
 cases e with
 | norm => exact fin h'
 | ret => exact fin h'
 | out id => cases h'
theorem PostR.trans {T T' : Tm} {ds d1 ds' : List Dyn} (h : PostR w Φ γ T ds w' Φ' γ' T d1) (k : PostR w' Φ' γ' T d1 w2 Φ2 γ2 T' ds') : PostR w Φ γ T ds w2 Φ2 γ2 T' ds' := {
 same := ⟨k.same.os.trans h.same.os, k.same.tape.trans h.same.tape, k.same.output.trans h.same.output, Nat.le_trans h.same.size k.same.size, fun b h1 h2 => by
  rw [k.same.block b (Nat.lt_of_lt_of_le h1 h.same.size) (fun hm => by
   rcases h.mem b hm with g | g
   · exact h2 g
   · omega), h.same.block b h1 h2]⟩
 mem := fun b hb => by
  rcases k.mem b hb with g | g
  · exact h.mem b g
  · exact .inr (Nat.le_trans h.same.size g)
 sub := fun b hb => k.sub b (h.sub b hb)
 fro := fun b hb => by
  rcases k.fro b hb with g | g | g
  · exact h.fro b g
  · exact .inr (h.mem b g)
  · exact .inr (.inr (Nat.le_trans h.same.size g))
 keep := fun i hi => (h.keep i hi).trans (k.keep i hi) }
theorem a2u {c : Code} {Q Q' : Exit → Act → World → Prop} (hq : ∀ e a w, Q e a w → Q' e a w) : ∀ (n : Nat) {a : Act} {w : World}, Code.rounds P c Q n a w → Code.rounds P c Q' n a w
 | 0, _, _, h => h
 | n + 1, a, w, h => by
   rw [rounds_succ] at *
   refine wp_mono h fun e a w g => ?_
   cases e with
   | normal => exact a2u hq n g
   | _ => exact hq _ _ _ g
theorem a2g {T : Tm} {ds : List Dyn} (hkid : N.kid = H3 T) (hkw : N.kw = w) (hkβ : N.kβ = γ) (hkh : N.kh = T.heap ds) {a : Act} (hr : Rel w Φ (a3d w γ (T.heap ds)) N w' Φ' β s a) {e : Ex} : ∀ {l : List (Ex × List Nat × Tm)} {y : (J6 l).denote}, G6 (C4 0 T.objs) l e s = some y →
  ∃ Φ2 γ2, ExR (fun e' slots T' ds' => e.a1s = e'.a1s ∧ InstR w' Φ2 T' ds' (a0Q a slots) γ2 ∧ PostR w Φ γ T ds w' Φ2 γ2 T' ds') l y
 | [], y, h => by simp [G6] at h
 | [(e1, slots, T')], y, h => by
   simp only [G6] at h
   split at h
   case isFalse => cases h
   rename_i he
   split at h
   case h_2 => cases h
   rename_i vs hvs
   split at h
   case h_2 => cases h
   rename_i d ρ s1 hpk
   cases h
   obtain ⟨Φ2, β2, hP⟩ := N4 hr (L6 hr hvs) hpk
   exact ⟨Φ2, _, by rw [he], hP.inst, a4L hkid hkw hkβ hkh hP⟩
 | (e1, slots, T') :: b :: r, y, h => by
   simp only [G6] at h
   split at h
   · rename_i d ρ s1 hd
     split at hd
     case isFalse => cases hd
     rename_i he
     split at hd
     case h_2 => cases hd
     rename_i vs hvs
     cases h
     obtain ⟨Φ2, β2, hP⟩ := N4 hr (L6 hr hvs) hd
     exact ⟨Φ2, _, by rw [he], hP.inst, a4L hkid hkw hkβ hkh hP⟩
   · split at h
     case h_2 => cases h
     rename_i d hd
     cases h
     obtain ⟨Φ2, γ2, g⟩ := a2g hkid hkw hkβ hkh hr (l := b :: r) hd
     exact ⟨Φ2, γ2, g⟩
theorem a4d {κ n : Nat} {fix : Nat → Option Value} {ds : List Dyn} {y : (J6 (cx.bk κ).exits).denote} {e : Ex} {a : Act} (hr : Rel w Φ (a3d w γ ((cx.bk κ).ins.heap ds)) ⟨n, fix, fun _ _ => False, H3 (cx.bk κ).ins, w, γ, (cx.bk κ).ins.heap ds⟩ w' Φ' β s a)
  (h : G6 (C4 0 (cx.bk κ).ins.objs) (cx.bk κ).exits e s = some y) : a9c cx κ n fix w Φ γ ds y e.a1s a w' := by
 obtain ⟨Φ2, γ2, g⟩ := a2g (N := ⟨n, fix, fun _ _ => False, H3 (cx.bk κ).ins, w, γ, (cx.bk κ).ins.heap ds⟩) (w := w) (γ := γ) (ds := ds) rfl rfl rfl rfl hr h
 exact ⟨hr.size, hr.fix, hr.defers, Φ2, γ2, g⟩
theorem b4E (hok : AllOk P cx) {n κ : Nat} {c : Code} {fix : Nat → Option Value} (hb : B7 [] n c = true) (hh : Hints P cx n H c) {d : (cx.bk κ).ins.ct.denote}
  {y : (J6 (cx.bk κ).exits).denote} (h : a7z cx H κ (.tail c) d = some y) (hf : ∀ t v, fix t = some v → B7 [t] n c = true) (h1 : ∀ t v, fix t = some v → a.tmps.getD t undef = v) (h2 : a.tmps.size = n) (h3 : a.defers = []) (hg : cx.gp w Φ)
  (hi : InstR w Φ (cx.bk κ).ins (o7 (cx.bk κ).ins.cts d) (a0Q a (cx.bk κ).slots) γ) : c.wp P (a9c cx κ n fix w Φ γ (o7 (cx.bk κ).ins.cts d) y) a w := by
 haveI := GlobR.enter hok.gpm hg hi
 have hr0 := a5A (a := a) (slots := (cx.bk κ).slots) (fix := fix) hi h2 h1 h3
 refine J5 (N := ⟨n, fix, fun _ _ => False, H3 (cx.bk κ).ins, w, γ, (cx.bk κ).ins.heap (o7 (cx.bk κ).ins.cts d)⟩) hok (fun _ _ h => h) c hb hf hh hr0 (fun e s' a' w' Φ' β' hr' h' => a4d hr' h') h
theorem b3X (hok : AllOk P cx) {n κ m id : Nat} {c : Code} {fix : Nat → Option Value} (hb : B7 [] n c = true) (hh : Hints P cx n H c)
  (ih : b1M cx n κ c (fun Q a w => Code.rounds P c (Exit.inBlock id Q) m a w))
  (halt : ∀ κ2, H.al κ = some κ2 → b1M cx n κ2 c (fun Q a w => Code.rounds P c (Exit.inBlock id Q) m a w) ∧ ∀ t ∈ (cx.bk κ2).keep, B7 [t] n c = true) {d : (cx.bk κ).ins.ct.denote}
  {y : (J6 (cx.bk κ).exits).denote} (h : a7z cx H κ (.loop id c) d = some y) (hf : ∀ t v, fix t = some v → B7 [t] n c = true) (h1 : ∀ t v, fix t = some v → a.tmps.getD t undef = v) (h2 : a.tmps.size = n) (h3 : a.defers = []) (hg : cx.gp w Φ)
  (hi : InstR w Φ (cx.bk κ).ins (o7 (cx.bk κ).ins.cts d) (a0Q a (cx.bk κ).slots) γ) : Code.rounds P c (Exit.inBlock id (a9c cx κ n fix w Φ γ (o7 (cx.bk κ).ins.cts d) y)) (m + 1) a w := by
 haveI := GlobR.enter hok.gpm hg hi
 have hr0 := a5A (a := a) (slots := (cx.bk κ).slots) (fix := fix) hi h2 h1 h3
 rw [rounds_succ]
 refine J5 (N := ⟨n, fix, fun _ _ => False, H3 (cx.bk κ).ins, w, γ, (cx.bk κ).ins.heap (o7 (cx.bk κ).ins.cts d)⟩) hok (fun _ _ h => h) c hb hf hh hr0 (fun e s' a' w' Φ' β' hr' h' => ?_) h
 cases e with
 | ret => exact a4d (e := .ret) hr' h'
 | out id' =>
   show (if id' = id then a9c cx κ n fix w Φ γ _ y .normal a' w' else a9c cx κ n fix w Φ γ _ y (.exit id') a' w')
   simp only at h'
   cases hbq : Nat.beq id' id with
   | true => rw [hbq] at h'; rw [if_pos (Nat.eq_of_beq_eq_true hbq)]; exact a4d (e := .norm) hr' h'
   | false => rw [hbq] at h'; rw [if_neg (fun e => by rw [e, Nat.beq_refl] at hbq; cases hbq)]; exact a4d (e := .out id') hr' h'
 | norm =>
   simp only at h'
   split at h'
   case h_2 => cases h'
   rename_i vs hvs
   split at h'
   case h_2 =>
    split at h'
    case h_2 => cases h'
    rename_i κ2 hκ2
    obtain ⟨hrun, hkeep⟩ := halt κ2 hκ2
    show Code.rounds P c (Exit.inBlock id (a9c cx κ n fix w Φ γ _ y)) m a' w'
    refine a4j (N := ⟨n, fix, fun _ _ => False, H3 (cx.bk κ).ins, w, γ, (cx.bk κ).ins.heap (o7 (cx.bk κ).ins.cts d)⟩) (run := fun Q a w => Code.rounds P c (Exit.inBlock id Q) m a w) (fun {Q Q'} hq a w g => a2u (fun e a w g => ?_) m g) hrun hkeep hf hr' (fun e s2 a2 w2 Φ2 β2 hr2 hk2 => a4d hr2 hk2) h'
    cases e with
    | exit id' =>
      simp only [Exit.inBlock] at g ⊢
      split at g
      · rename_i he; rw [if_pos he]; exact hq _ _ _ g
      · rename_i he; rw [if_neg he]; exact hq _ _ _ g
    | _ => exact hq _ _ _ g
   rename_i d' ρ s1 hpk
   obtain ⟨Φ2, β2, hP⟩ := N4 hr' (L6 hr' hvs) hpk
   have hpost := a4L (N := ⟨n, fix, fun _ _ => False, H3 (cx.bk κ).ins, w, γ, (cx.bk κ).ins.heap (o7 (cx.bk κ).ins.cts d)⟩) (w := w) (γ := γ) (T := (cx.bk κ).ins) (ds := o7 (cx.bk κ).ins.cts d) rfl rfl rfl rfl hP
   show Code.rounds P c (Exit.inBlock id (a9c cx κ n fix w Φ γ _ y)) m a' w'
   have := ih d' y h' w' Φ2 a' _ fix hf hr'.fix hr'.size hr'.defers (GlobR.get this hP.rel) hP.inst
   refine a2u (fun e a w2 g => ?_) m this
   have tr : ∀ {ex a w2}, a9c cx κ n fix w' Φ2 (fun k => (ρ.at k).bind β2) (o7 (cx.bk κ).ins.cts d') y ex a w2 → a9c cx κ n fix w Φ γ (o7 (cx.bk κ).ins.cts d) y ex a w2 :=
    fun ⟨k1, k2, k3, Φ3, γ3, k4⟩ => ⟨k1, k2, k3, Φ3, γ3, ExR.mono (fun e l T ds ⟨m1, m2, m3⟩ => ⟨m1, m2, hpost.trans m3⟩) k4⟩
   cases e with
   | exit id' =>
     simp only [Exit.inBlock] at g ⊢
     split at g
     · rename_i he; rw [if_pos he]; exact tr g
     · rename_i he; rw [if_neg he]; exact tr g
   | _ => exact tr g
end
variable {R S : Type}
theorem y0 {b : Bool} {x y : Option R} {k : R → Option S} : (bif b then x else y).bind k = bif b then x.bind k else y.bind k := by cases b <;> rfl
theorem b1T (e : Bool) (td : Option TD) (op : BinOp) (x y : SVal) (k : SVal → Option R) : b7M e td op x y k = (b7M e td op x y some).bind k := by
 unfold b7M
 repeat' split
 all_goals (first | rfl | (simp only [y0, bind_some, Option.bind_none]))
theorem b5I (op : UnOp) (x : SVal) (k : SVal → Option R) : unK op x k = (unK op x some).bind k := by
 unfold unK
 split <;> rfl
theorem a7o {A : Type} (lo hi : Option SVal) (len : Nat) (f : Nat → Nat → Option A) (k : A → Option R) : a0r lo hi len (fun a b => (f a b).bind k) = (a0r lo hi len f).bind k := by
 unfold a0r
 split <;> simp only [y0, Option.bind_none]
theorem a3W {A R : Type} (kk : Nat → Option A) (k : A → Option R) : ∀ (n i : Nat), a1q n i (fun j => (kk j).bind k) = (a1q n i kk).bind k
 | 0, i => by simp only [a1q, y0, Option.bind_none]
 | n + 1, i => by simp only [a1q, y0, a3W kk k n i]
theorem b3H {A R : Type} (s : St) (id n h : Nat) (kk : Nat → Option A) (k : A → Option R) : a5m s id n h (fun j => (kk j).bind k) = (a5m s id n h kk).bind k := by
 unfold a5m
 split
 · exact a3W kk k _ _
 · rfl
theorem a8K (td : TD) (s : St) (x : SVal) (lo hi : Option SVal) (k : SVal → Option R) : a8J td s x lo hi k = (a8J td s x lo hi some).bind k := by
 unfold a8J
 repeat' split
 all_goals (first | rfl | (simp only [y0, ← a7o, bind_some, Option.bind_none]; done) | (simp only [y0, ← a7o, Option.bind_none, ← b3H, bind_some]))
theorem a9A (tab : Nat → Option TD) (td dd : TD) (b : Bool) (s : St) (v : SVal) (k : SVal → St → Option R) : b4R tab td dd b s v k = (b4R tab td dd b s v fun r s => some (r, s)).bind fun p => k p.1 p.2 := rfl
theorem a6A (td : TD) (x hi mx : SVal) (k : SVal → Option R) : a4T td x hi mx k = (a4T td x hi mx some).bind k := by
 unfold a4T
 split
 · simp only [y0, bind_some, Option.bind_none]
 · rfl
theorem b1R (e : CT) (n : Nat) (agg : Bool) (cs : List Leaf) (j : Int) (k : SVal → Option R) : b7y e n agg cs j k = (b7y e n agg cs j some).bind k := by
 unfold b7y
 split
 · simp only [y0, Option.bind_none, Option.bind_assoc]
   congr 1
   congr 1
   funext x
   split <;> rfl
 · rfl
theorem a7t (td : TD) (cs : List Leaf) (off : Nat) (k : SVal → Option R) : a5o td cs off k = (a5o td cs off some).bind k := by
 unfold a5o
 cases Nat.ble (off + td.size) cs.length
 · rfl
 · simp only [cond_true]; split <;> rfl
theorem a2Q (s : St) (td : TD) (a : SVal) (k : SVal → Option R) : N1 s td a k = (N1 s td a some).bind k := by
 unfold N1
 repeat' split
 all_goals (first | rfl | exact a7t _ _ _ _ | (simp only [Option.bind_assoc]; congr 1; funext x; exact a7t _ _ _ _) | (simp only [y0, Option.bind_none]; congr 1; exact a7t _ _ _ _))
theorem b3e (id i : Nat) (e : CT) (y : e.denote) (s : St) (k : St → Option R) : b4q id i e y s k = (b4q id i e y s some).bind k := by
 unfold b4q
 repeat' split
 all_goals (first | rfl | (simp only [y0, bind_some, Option.bind_none]))
theorem b4z (s : St) (td : TD) (id i off : Nat) (e : CT) (l : List e.denote) (vs : List Leaf) (k : St → Option R) : a8Q s td id i off e l vs k = (a8Q s td id i off e l vs some).bind k := by
 unfold a8Q
 repeat' split
 all_goals (first | rfl | (simp only [y0, bind_some, Option.bind_none, Option.bind_assoc]))
 all_goals
  congr 1
  congr 1
  all_goals first
   | rfl
   | (congr 1; exact b3e _ _ _ _ _ _)
   | (congr 1; funext x; split <;> first | rfl | exact b3e _ _ _ _ _ _)
theorem b4A (s : St) (td : TD) (a v : SVal) (k : St → Option R) : a5Q s td a v k = (a5Q s td a v some).bind k := by
 unfold a5Q
 repeat' split
 all_goals (first | rfl | (simp only [y0, bind_some, Option.bind_none, Option.bind_assoc]; done) | (simp only [y0, bind_some, Option.bind_none, Option.bind_assoc]; rw [← b4z]))
theorem b9n (s : St) (id i : Nat) (k : SVal → Option R) : b4m s id i k = (b4m s id i some).bind k := by
 unfold b4m
 split
 · exact a3W (fun i' => some (.one (.ptr id i'))) k _ _
 · rfl
theorem a5Y (td : TD) (s : St) (x i : SVal) (k : St → Option R) : b0P td s x i k = (b0P td s x i some).bind k := by
 rfl
theorem a2b (td : TD) (s : St) (x i : SVal) (k : SVal → Option R) : Z1 td s x i k = (Z1 td s x i some).bind k := by
 unfold Z1
 repeat' split
 all_goals (first | rfl | (simp only [y0, bind_some, Option.bind_none, Option.bind_assoc]; done) | (simp only [y0, Option.bind_none]; rw [← b9n]))
theorem a0n (s : St) (id : Nat) (e : CT) (p : Option (Nat × Nat)) (xs : List e.denote) (k : St → Option R) : a6U s id e p xs k = (a6U s id e p xs some).bind k := by
 rfl
theorem a5V (e : CT) (s : St) (x y : SVal) (k : SVal → St → Option R) : a4c e s x y k = (a4c e s x y fun v s => some (v, s)).bind fun p => k p.1 p.2 := by
 unfold a4c
 repeat' split
 all_goals (first | rfl | (simp only [y0, bind_some, Option.bind_none, Option.bind_assoc]))
theorem a8m (k : SVal → Option R) : ∀ (j : IntKind) (a : Int) (l : List SVal), a0H k j a l = (a0H some j a l).bind k
 | j, a, [] => rfl
 | j, a, x :: r => by
   cases x with
   | one l => cases l <;> first | rfl | exact a8m k j _ r
   | _ => rfl
theorem a8p (k : SVal → Option R) : ∀ (j : IntKind) (a : Int) (l : List SVal), a0I k j a l = (a0I some j a l).bind k
 | j, a, [] => rfl
 | j, a, x :: r => by
   cases x with
   | one l => cases l <;> first | rfl | exact a8p k j _ r
   | _ => rfl
theorem a4m (x : SVal) (i : Nat) (k : SVal → Option R) : a1V x i k = (a1V x i some).bind k := by
 unfold a1V
 repeat' split
 all_goals rfl
theorem b0c (s : St) (td : TD) (a : SVal) (k : SVal → St → Option R) : b5r s td a k = (b5r s td a fun v s => some (v, s)).bind fun p => k p.1 p.2 := by
 have hl : N1 s td a (fun r => k r s) = (N1 s td a fun r => some (r, s)).bind fun p => k p.1 p.2 := by
  rw [a2Q]
  conv => rhs; rw [a2Q]
  simp only [Option.bind_assoc, bind_some]
 exact hl
theorem a8R (s : St) (td : TD) (a v : SVal) (k : St → Option R) : b4B s td a v k = (b4B s td a v some).bind k := by
 exact b4A _ _ _ _ _
theorem a6k (td : TD) (s : St) (x i : SVal) (b : Bool) (k : SVal → St → Option R) : b1d td s x i b k = (b1d td s x i b fun v s => some (v, s)).bind fun p => k p.1 p.2 := by
 rfl
theorem a0o (td : TD) (s : St) (x i y : SVal) (k : St → Option R) : b1I td s x i y k = (b1I td s x i y some).bind k := by
 rfl
theorem a1X (td : TD) (x : SVal) (i : Nat) (k : SVal → Option R) : Y8 td x i k = (Y8 td x i some).bind k := by
 unfold Y8
 repeat' split
 all_goals rfl
theorem a7E (td : TD) (x : SVal) (i : Nat) (k : SVal → Option R) : a7D td x i k = (a7D td x i some).bind k := by
 unfold a7D
 repeat' split
 all_goals rfl
end Go.Bm
end
section
open Option (bind_some)
namespace Go.Bm
set_option linter.unusedVariables false
set_option linter.unusedSimpArgs false
structure Tb where
 tab : Nat → Option TD
 eqt : Nat → Bool
 keys : Nat → List Nat
 lend : Nat → Bool
 mkr : Nat → Bool
 mt : Nat → String → Option (Nat × Option (Nat × Nat))
 gp : World → (Nat → Prop) → Prop
 gv : Nat → Option Dyn
 kin : Nat → Tm
 kouts : Nat → List Tm
 bk : Nat → Blk
abbrev Tb.RF (T : Tb) : Type := (φ : Nat) → (T.kin φ).ct.denote → Option (P9 (T.kouts φ)).denote
abbrev Tb.RB (T : Tb) : Type := (κ : Nat) → (T.bk κ).ins.ct.denote → Option (J6 (T.bk κ).exits).denote
abbrev Tb.cx (T : Tb) (rf : T.RF) (rb : T.RB) : Cx := ⟨T.tab, T.eqt, T.keys, T.lend, T.mkr, T.mt, T.gp, T.gv, T.kin, T.kouts, T.bk, rf, rb⟩
variable {R A : Type} {T : Tb}
theorem a1I {X : (A → Option R) → Option R} {X' : (A → Option St) → Option St} {Y : Option A} (h : ∀ k, X k = Y.bind k) (h' : ∀ k, X' k = Y.bind k) (g : A → St) (k : St → Option R) :
  X (fun r => k (g r)) = (X' fun r => some (g r)).bind k := by
 rw [h, h', Option.bind_assoc]; rfl
def a5D (o : Oper) : Option (Option String × Operand) := match o.op with
 | .call c => match c.callee with
   | .value f => some (none, f)
   | .invoke x name => some (some name, x)
   | _ => none
 | _ => none
def b7Q (cx : Cx) : Option String → SVal → List SVal → St → (SVal → St → Option R) → Option R
 | none => a9z cx
 | some name => b5g cx name
theorem c5C {X : (A → St → Option R) → Option R} {X' : (A → St → Option St) → Option St} {Y : Option (A × St)} (h : ∀ k, X k = Y.bind fun p => k p.1 p.2) (h' : ∀ k, X' k = Y.bind fun p => k p.1 p.2) (g : A → St → St) (k : St → Option R) :
  X (fun r s => k (g r s)) = (X' fun r s => some (g r s)).bind k := by
 rw [h, h', Option.bind_assoc]; rfl
theorem b0y (rf rf' : T.RF) (rb rb' : T.RB) (o : Oper) (s : St) (k : St → Option R) (hc : a5D o = none) : j5 (T.cx rf rb) o s k = (j5 (T.cx rf' rb') o s some).bind k := by
 unfold j5
 dsimp only [Tb.cx]
 split
 · split <;> rfl
 · split <;> rfl
 · repeat' split
   all_goals (first | rfl | simp only [y0, bind_some, Option.bind_none])
   all_goals (congr 1 <;> split <;> rfl)
 · split <;> rfl
 · repeat' split
   all_goals (first | rfl | simp only [y0, bind_some, Option.bind_none])
 · repeat' split
   all_goals rfl
 · repeat' split
   all_goals (first | rfl | (simp only [y0, bind_some, Option.bind_none]; done) | (simp only [y0, bind_some, Option.bind_none]; congr 1; (repeat' split) <;> rfl))
 · split
   · split
     · exact a1I (fun k => a2Q _ _ _ k) (fun k => a2Q _ _ _ k) _ k
     · rfl
   · split
     · exact c5C (fun k => b0c _ _ _ k) (fun k => b0c _ _ _ k) _ k
     · rfl
 · split
   · exact a1I (fun k => a8R _ _ _ _ k) (fun k => a8R _ _ _ _ k) _ k
   · rfl
 · split <;> rfl
 · split
   · exact a1I (fun k => b1T _ _ _ _ _ k) (fun k => b1T _ _ _ _ _ k) _ k
   · rfl
 · split
   · exact a1I (fun k => b5I _ _ k) (fun k => b5I _ _ k) _ k
   · rfl
 · split
   · rfl
   · rfl
   · exact c5C (fun k => a9A _ _ _ _ _ _ k) (fun k => a9A _ _ _ _ _ _ k) _ k
   · rfl
 · repeat' split
   all_goals (first | rfl | simp only [y0, bind_some, Option.bind_none])
 · split
   · split
     · exact a1I (fun k => a8K _ _ _ _ _ k) (fun k => a8K _ _ _ _ _ k) _ k
     · rfl
   · rfl
 · split
   · exact a1I (fun k => a6A _ _ _ _ k) (fun k => a6A _ _ _ _ k) _ k
   · rfl
 · split
   · exact a1I (fun k => a1X _ _ _ k) (fun k => a1X _ _ _ k) _ k
   · rfl
 · split
   · exact a1I (fun k => a7E _ _ _ k) (fun k => a7E _ _ _ k) _ k
   · rfl
 · split
   · exact a1I (fun k => a2b _ _ _ _ k) (fun k => a2b _ _ _ _ k) _ k
   · rfl
 · split
   · simp only [y0, bind_some, Option.bind_none, Option.bind_assoc]
   · exact a1I (fun k => b1R _ _ _ _ _ k) (fun k => b1R _ _ _ _ _ k) _ k
   · rfl
 · split
   · exact a1I (fun k => a4m _ _ k) (fun k => a4m _ _ k) _ k
   · rfl
 · split <;> rfl
 · split
   · exact c5C (fun k => a6k _ _ _ _ _ k) (fun k => a6k _ _ _ _ _ k) _ k
   · rfl
 · split
   · exact a1I (fun k => a0o _ _ _ _ _ k) (fun k => a0o _ _ _ _ _ k) _ k
   · rfl
 · split
   · exact a1I (fun k => a0o _ _ _ _ _ k) (fun k => a0o _ _ _ _ _ k) _ k
   · rfl
 · split <;> rfl
 · rename_i c ho
   split
   · repeat' split
     all_goals rfl
   · split
     · cases Nat.beq _ _
       · rfl
       · simp only [cond_true]
         split
         · simp only [y0]
           congr 1
           rw [a5V]
           conv => rhs; rw [a5V]
           simp only [Option.bind_assoc, bind_some, Option.bind_none]
         · rfl
     · rfl
   · split
     · split
       · exact a1I (fun k => a0n _ _ _ _ _ k) (fun k => a0n _ _ _ _ _ k) _ k
       · rfl
     · rfl
   · split
     · split
       · exact a1I (fun k => a5Y _ _ _ _ k) (fun k => a5Y _ _ _ _ k) _ k
       · rfl
     · rfl
   · split
     · split
       · simp only [y0, Option.bind_none]
         congr 1
         split
         · exact a1I (fun k => a0n _ _ _ _ _ k) (fun k => a0n _ _ _ _ _ k) _ k
         · rfl
       · rfl
     · rfl
   · split
     · exact a1I (fun k => a8m k _ _ _) (fun k => a8m k _ _ _) _ k
     · rfl
   · split
     · exact a1I (fun k => a8p k _ _ _) (fun k => a8p k _ _ _) _ k
     · rfl
   · rename_i f hf
     simp [a5D, ho, hf] at hc
   · rename_i x nm hf
     simp [a5D, ho, hf] at hc
   · rfl
 · split <;> rfl
 · split
   · simp only [y0, bind_some, Option.bind_none]
   · rfl
 · rfl
theorem a8L (cx : Cx) {o : Oper} {f : Option String × Operand} (hc : a5D o = some f) (s : St) (k : St → Option R) : ∃ c : Call, o.op = .call c ∧ j5 cx o s k = match n7 s.env f.2, O3 s.env c.args.toList with
   | some v, some vs => b7Q cx f.1 v vs s fun r s' => k (s'.set o.dst r)
   | _, _ => none := by
 unfold a5D at hc
 split at hc
 · rename_i c ho
   split at hc
   · rename_i f' hf
     cases hc
     exact ⟨c, ho, by simp only [j5, ho, hf]; rfl⟩
   · rename_i f' nm hf
     cases hc
     exact ⟨c, ho, by simp only [j5, ho, hf]; rfl⟩
   · cases hc
 · cases hc
end Go.Bm
end
section
namespace Go.Bm
set_option linter.unusedVariables false
set_option linter.unusedSimpArgs false
def Evt (p : Nat → Prop) : Prop := ∃ N, ∀ n, N ≤ n → p n
theorem Evt.all {p : Nat → Prop} (h : ∀ n, p n) : Evt p := ⟨0, fun n _ => h n⟩
theorem Evt.mono {p q : Nat → Prop} (h : Evt p) (g : ∀ n, p n → q n) : Evt q := by obtain ⟨N, h⟩ := h; exact ⟨N, fun n hn => g n (h n hn)⟩
theorem Evt.and {p q : Nat → Prop} (h : Evt p) (g : Evt q) : Evt fun n => p n ∧ q n := by
 obtain ⟨N, h⟩ := h; obtain ⟨M, g⟩ := g
 exact ⟨max N M, fun n hn => ⟨h n (by omega), g n (by omega)⟩⟩
variable {R : Type} {T : Tb} {rfi : T.RF} {rbi : T.RB} {rf : Nat → T.RF} {rb : Nat → T.RB}
def a0c (rfi : T.RF) (rf : Nat → T.RF) : Prop := ∀ f d y, rfi f d = some y → Evt fun n => rf n f d = some y
def a9v (rbi : T.RB) (rb : Nat → T.RB) : Prop := ∀ κ d y, rbi κ d = some y → Evt fun n => rb n κ d = some y
theorem a8f {T' : Tm} {ρ : Rho} {s : St} {ki : SVal → St → Option R} {k : Nat → SVal → St → Option R} {r : R} (hk : ∀ v s', ki v s' = some r → Evt fun n => k n v s' = some r) : ∀ {l : List Tm} {y : (P9 l).denote},
  T7 T' ρ s l y ki = some r → Evt fun n => T7 T' ρ s l y (k n) = some r
 | [], y, h => by cases h
 | [T2], y, h => by
   simp only [T7] at h ⊢
   cases hv : F0 (Y1 T' ρ T2 (o7 T2.cts y) s) with
   | none => rw [hv] at h; cases h
   | some v => rw [hv] at h; exact hk _ _ h
 | T2 :: b :: r', .inl y, h => by
   simp only [T7] at h ⊢
   cases hv : F0 (Y1 T' ρ T2 (o7 T2.cts y) s) with
   | none => rw [hv] at h; cases h
   | some v => rw [hv] at h; exact hk _ _ h
 | T2 :: b :: r', .inr y, h => by
   simp only [T7] at h ⊢
   exact a8f hk (l := b :: r') h
theorem a8g {s : St} {ki : SVal → St → Option R} {k : Nat → SVal → St → Option R} {r : R} (hk : ∀ v s', ki v s' = some r → Evt fun n => k n v s' = some r) : ∀ {l : List Tm} {y : (P9 l).denote},
  T8 s l y ki = some r → Evt fun n => T8 s l y (k n) = some r
 | [], y, h => by cases h
 | [T2], y, h => by
   simp only [T8] at h ⊢
   cases hb : T2.objs.isEmpty && (T2.M5 (o7 T2.cts y)).all SVal.flat with
   | false => rw [hb] at h; cases h
   | true =>
     rw [hb] at h
     cases hv : F0 (T2.M5 (o7 T2.cts y)) with
     | none => rw [hv] at h; cases h
     | some v => rw [hv] at h; exact hk _ _ h
 | T2 :: b :: r', .inl y, h => by
   simp only [T8] at h ⊢
   cases hb : T2.objs.isEmpty && (T2.M5 (o7 T2.cts y)).all SVal.flat with
   | false => rw [hb] at h; cases h
   | true =>
     rw [hb] at h
     cases hv : F0 (T2.M5 (o7 T2.cts y)) with
     | none => rw [hv] at h; cases h
     | some v => rw [hv] at h; exact hk _ _ h
 | T2 :: b :: r', .inr y, h => by
   simp only [T8] at h ⊢
   exact a8g hk (l := b :: r') h
theorem a5W (hf : a0c rfi rf) {args : List SVal} {s : St} {ki : SVal → St → Option R} {k : Nat → SVal → St → Option R} {r : R} (hk : ∀ v s', ki v s' = some r → Evt fun n => k n v s' = some r) : ∀ (l : List Nat),
  a0d (T.cx rfi rbi) args s ki l = some r → Evt fun n => a0d (T.cx (rf n) (rb n)) args s (k n) l = some r
 | [], h => by cases h
 | φ :: l, h => by
   simp only [a0d] at h ⊢
   dsimp only [Tb.cx] at h ⊢
   cases hp : a3S (T.kin φ) args s with
   | none => rw [hp] at h; exact a5W hf hk l h
   | some p =>
     obtain ⟨d, ρ, s1⟩ := p
     rw [hp] at h
     obtain ⟨y, h1, h2⟩ := Option.bind_eq_some_iff.1 h
     cases hl : T.lend φ with
     | false =>
       rw [hl] at h2
       exact ((hf φ d y h1).and (a8f hk h2)).mono fun n hn => by simp only [hn.1, Option.bind_some, cond_false]; exact hn.2
     | true =>
       rw [hl] at h2
       cases hb : (T.kin φ).objs.isEmpty with
       | false => rw [hb] at h2; cases h2
       | true =>
         rw [hb] at h2
         exact ((hf φ d y h1).and (a8g hk h2)).mono fun n hn => by simp only [hn.1, Option.bind_some, cond_true]; exact hn.2
theorem b6h (hf : a0c rfi rf) {v : SVal} {args : List SVal} {s : St} {ki : SVal → St → Option R} {k : Nat → SVal → St → Option R} {r : R} (hk : ∀ v s', ki v s' = some r → Evt fun n => k n v s' = some r)
  (h : a9z (T.cx rfi rbi) v args s ki = some r) : Evt fun n => a9z (T.cx (rf n) (rb n)) v args s (k n) = some r := by
 unfold a9z at h ⊢
 split at h
 · exact a5W hf hk _ h
 · cases h
theorem b6i (hf : a0c rfi rf) {m : Option String} {v : SVal} {args : List SVal} {s : St} {ki : SVal → St → Option R} {k : Nat → SVal → St → Option R} {r : R} (hk : ∀ v s', ki v s' = some r → Evt fun n => k n v s' = some r)
  (h : b7Q (T.cx rfi rbi) m v args s ki = some r) : Evt fun n => b7Q (T.cx (rf n) (rb n)) m v args s (k n) = some r := by
 cases m with
 | none => exact b6h hf hk h
 | some name => exact absurd (show (none : Option R) = some r from h) (by simp)
theorem a0R (hf : a0c rfi rf) {o : Oper} {s : St} {ki : St → Option R} {k : Nat → St → Option R} {r : R} (hk : ∀ s', ki s' = some r → Evt fun n => k n s' = some r)
  (h : j5 (T.cx rfi rbi) o s ki = some r) : Evt fun n => j5 (T.cx (rf n) (rb n)) o s (k n) = some r := by
 cases hc : a5D o with
 | none =>
   rw [b0y rfi rfi rbi rbi o s ki hc] at h
   obtain ⟨s', h1, h2⟩ := Option.bind_eq_some_iff.1 h
   exact (hk s' h2).mono fun n hn => by rw [b0y (rf n) rfi (rb n) rbi o s (k n) hc, h1]; exact hn
 | some f =>
   obtain ⟨c, ho, e⟩ := a8L (T.cx rfi rbi) hc s ki
   rw [e] at h
   split at h
   case h_2 => cases h
   rename_i v vs hv hvs
   refine (b6i (rb := rb) (k := fun n r s' => k n (s'.set o.dst r)) hf (fun v s' h' => hk _ h') h).mono fun n hn => ?_
   obtain ⟨c', ho', e'⟩ := a8L (T.cx (rf n) (rb n)) hc s (k n)
   rw [ho] at ho'; cases ho'
   rw [e', hv, hvs]
   exact hn
theorem Q8 {b want : Bool} {d : Nat} {dst : Option Nat} {s : St} {yi ni : St → Option R} {y n : Nat → St → Option R} {r : R} (hy : ∀ s', yi s' = some r → Evt fun i => y i s' = some r) (hn : ∀ s', ni s' = some r → Evt fun i => n i s' = some r)
  (h : Z0 b want d dst s yi ni = some r) : Evt fun i => Z0 b want d dst s (y i) (n i) = some r := by
 cases b <;> cases want <;> first | exact hy _ h | exact hn _ h
theorem a9M (hf : a0c rfi rf) {all : List Oper} {ki : St → Option R} {k : Nat → St → Option R} {r : R} (hk : ∀ s', ki s' = some r → Evt fun n => k n s' = some r) : ∀ (l : List Oper) (s : St),
  L0 (T.cx rfi rbi) all l s ki = some r → Evt fun n => L0 (T.cx (rf n) (rb n)) all l s (k n) = some r
 | [], s, h => hk s h
 | o :: l, s, h => by
   have ih := a9M (all := all) hf hk l
   simp only [L0] at h ⊢
   have yes : ∀ s', j5 (T.cx rfi rbi) o s' (fun s'' => L0 (T.cx rfi rbi) all l s'' ki) = some r → Evt fun n => j5 (T.cx (rf n) (rb n)) o s' (fun s'' => L0 (T.cx (rf n) (rb n)) all l s'' (k n)) = some r :=
    fun s' h' => a0R (k := fun n s'' => L0 (T.cx (rf n) (rb n)) all l s'' (k n)) hf (fun s'' h'' => ih s'' h'') h'
   cases hg : o.guard with
   | none =>
     rw [hg] at h
     exact (yes s h).mono fun n hn => hn
   | some jw =>
     obtain ⟨j, want⟩ := jw
     rw [hg] at h
     cases hd : (nth all j).bind (·.dst) with
     | none => simp only [hd] at h; cases h
     | some d =>
       simp only [hd] at h ⊢
       cases hl : look s.env d with
       | none => rw [hl] at h; cases h
       | some v =>
         rw [hl] at h
         cases v with
         | one l' =>
           cases l' with
           | bool b =>
             cases b
             · exact Q8 (b := false) (y := fun n s => j5 (T.cx (rf n) (rb n)) o s fun s' => L0 (T.cx (rf n) (rb n)) all l s' (k n)) (n := fun n s => L0 (T.cx (rf n) (rb n)) all l s (k n)) yes ih h
             · exact Q8 (b := true) (y := fun n s => j5 (T.cx (rf n) (rb n)) o s fun s' => L0 (T.cx (rf n) (rb n)) all l s' (k n)) (n := fun n s => L0 (T.cx (rf n) (rb n)) all l s (k n)) yes ih h
           | _ => cases h
         | skip => exact ih _ h
         | _ => cases h
theorem a9K (hf : a0c rfi rf) {all : List Oper} {o : Oper} {s : St} {ki : St → Option R} {k : Nat → St → Option R} {r : R} (hk : ∀ s', ki s' = some r → Evt fun n => k n s' = some r)
  (h : a6a (T.cx rfi rbi) all o s ki = some r) : Evt fun n => a6a (T.cx (rf n) (rb n)) all o s (k n) = some r := by
 unfold a6a at h ⊢
 cases hg : o.guard with
 | none => rw [hg] at h; exact a0R hf hk h
 | some jw =>
   obtain ⟨j, want⟩ := jw
   rw [hg] at h
   cases hd : (nth all j).bind (·.dst) with
   | none => simp only [hd] at h; cases h
   | some d =>
     simp only [hd] at h ⊢
     cases hl : look s.env d with
     | none => rw [hl] at h; cases h
     | some v =>
       rw [hl] at h
       cases v with
       | one l' =>
         cases l' with
         | bool b =>
           cases b
           · exact Q8 (b := false) (y := fun n s => j5 (T.cx (rf n) (rb n)) o s (k n)) (n := fun n s => k n s) (fun s' h' => a0R hf hk h') hk h
           · exact Q8 (b := true) (y := fun n s => j5 (T.cx (rf n) (rb n)) o s (k n)) (n := fun n s => k n s) (fun s' h' => a0R hf hk h') hk h
         | _ => cases h
       | skip => exact hk _ h
       | _ => cases h
theorem a5P (hf : a0c rfi rf) {o : Oper} {s : St} {ki : St → Option R} {k : Nat → St → Option R} {r : R} (hk : ∀ s', ki s' = some r → Evt fun n => k n s' = some r)
  (h : stepT (T.cx rfi rbi) o s ki = some r) : Evt fun n => stepT (T.cx (rf n) (rb n)) o s (k n) = some r := by
 unfold stepT at h ⊢
 cases hs : E6 o s with
 | false => rw [hs] at h; cases h
 | true => rw [hs] at h; exact a0R hf hk h
theorem b6n (hf : a0c rfi rf) {all : List Oper} {o : Oper} {s : St} {ki : St → Option R} {k : Nat → St → Option R} {r : R} (hk : ∀ s', ki s' = some r → Evt fun n => k n s' = some r)
  (h : a9L (T.cx rfi rbi) all o s ki = some r) : Evt fun n => a9L (T.cx (rf n) (rb n)) all o s (k n) = some r := by
 unfold a9L at h ⊢
 cases hg : o.guard with
 | none => rw [hg] at h; exact a5P hf hk h
 | some jw =>
   obtain ⟨j, want⟩ := jw
   rw [hg] at h
   cases hd : (nth all j).bind (·.dst) with
   | none => simp only [hd] at h; cases h
   | some d =>
     simp only [hd] at h ⊢
     cases hl : look s.env d with
     | none => rw [hl] at h; cases h
     | some v =>
       rw [hl] at h
       cases v with
       | one l' =>
         cases l' with
         | bool b =>
           cases b
           · exact Q8 (b := false) (y := fun n s => stepT (T.cx (rf n) (rb n)) o s (k n)) (n := fun n s => k n s) (fun s' h' => a5P hf hk h') hk h
           · exact Q8 (b := true) (y := fun n s => stepT (T.cx (rf n) (rb n)) o s (k n)) (n := fun n s => k n s) (fun s' h' => a5P hf hk h') hk h
         | _ => cases h
       | skip => exact hk _ h
       | _ => cases h
theorem b7u {x y : Option R} {r : R} (h1 : x = some r) (h2 : y = some r) : l8 x y = some r := by rw [h1, h2, m9]
theorem a0C (hf : a0c rfi rf) {all : List Oper} {ki : St → Option R} {k : Nat → St → Option R} {r : R} (hk : ∀ s', ki s' = some r → Evt fun n => k n s' = some r) : ∀ (t : OrdT) (s : St),
  M9 (T.cx rfi rbi) all t s ki = some r → Evt fun n => M9 (T.cx (rf n) (rb n)) all t s (k n) = some r
 | .done, s, h => hk s h
 | .take i t, s, h => by
   simp only [M9] at h ⊢
   cases ho : nth all i with
   | none => rw [ho] at h; cases h
   | some o =>
     rw [ho] at h
     exact b6n (k := fun n s' => M9 (T.cx (rf n) (rb n)) all t s' (k n)) hf (fun s' h' => a0C hf hk t s' h') h
 | .only i t, s, h => by
   simp only [M9] at h ⊢
   cases ho : nth all i with
   | none => rw [ho] at h; cases h
   | some o =>
     rw [ho] at h
     obtain ⟨hrf, h⟩ := a8 h
     simp only [hrf, cond_true]
     exact a9K (k := fun n s' => M9 (T.cx (rf n) (rb n)) all t s' (k n)) hf (fun s' h' => a0C hf hk t s' h') h
 | .alt i t q, s, h => by
   simp only [M9] at h ⊢
   cases ho : nth all i with
   | none => rw [ho] at h; cases h
   | some o =>
     rw [ho] at h
     obtain ⟨hrf, h⟩ := a8 h
     simp only [hrf, cond_true]
     obtain ⟨h1, h2⟩ := a0X h
     exact ((a9K (k := fun n s' => M9 (T.cx (rf n) (rb n)) all t s' (k n)) hf (fun s' h' => a0C hf hk t s' h') h1).and (a0C hf hk q s h2)).mono fun n hn => b7u hn.1 hn.2
theorem a4w {T' : Tm} {ρ : Rho} {keep : List Nat} {s : St} {ki : Ex → St → Option R} {k : Nat → Ex → St → Option R} {r : R} (hk : ∀ e s', ki e s' = some r → Evt fun n => k n e s' = some r) : ∀ {l : List (Ex × List Nat × Tm)} {y : (J6 l).denote},
  a0G T' ρ keep s l y ki = some r → Evt fun n => a0G T' ρ keep s l y (k n) = some r
 | [], y, h => by cases h
 | [(e, slots, T2)], y, h => hk _ _ h
 | (e, slots, T2) :: b :: r', .inl y, h => hk _ _ h
 | (e, slots, T2) :: b :: r', .inr y, h => a4w hk (l := b :: r') h
theorem a1c (hb : a9v rbi rb) {κ : Nat} {s : St} {ki : Ex → St → Option R} {k : Nat → Ex → St → Option R} {r : R} (hk : ∀ e s', ki e s' = some r → Evt fun n => k n e s' = some r)
  (h : L5 (T.cx rfi rbi) κ s ki = some r) : Evt fun n => L5 (T.cx (rf n) (rb n)) κ s (k n) = some r := by
 unfold L5 at h ⊢
 dsimp only [Tb.cx] at h ⊢
 cases hl : S5 s.env (T.bk κ).slots with
 | none => rw [hl] at h; cases h
 | some vs =>
   simp only [hl] at h ⊢
   cases hp : a3S (T.bk κ).ins vs s with
   | none => rw [hp] at h; cases h
   | some p =>
     obtain ⟨d, ρ, s1⟩ := p
     simp only [hp] at h ⊢
     obtain ⟨y, h1, h2⟩ := Option.bind_eq_some_iff.1 h
     exact ((hb κ _ y h1).and (a4w hk h2)).mono fun n hn => by rw [hn.1]; exact hn.2
theorem b0g {bi : St → (Ex → St → Option R) → Option R} {b : Nat → St → (Ex → St → Option R) → Option R} {r : R}
  (hbd : ∀ (ki : Ex → St → Option R) (k : Nat → Ex → St → Option R) (s : St), (∀ e s', ki e s' = some r → Evt fun n => k n e s' = some r) → bi s ki = some r → Evt fun n => b n s (k n) = some r)
  {ki : Ex → St → Option R} {k : Nat → Ex → St → Option R} (hk : ∀ e s', ki e s' = some r → Evt fun n => k n e s' = some r) : ∀ (m : Nat) (s : St), a4A bi m s ki = some r → Evt fun n => a4A (b n) m s (k n) = some r
 | 0, s, h => by cases h
 | m + 1, s, h => by
   simp only [a4A] at h ⊢
   refine hbd _ (fun n e s' => match e with
    | .norm => a4A (b n) m s' (k n)
    | .out id => k n (.out id) s'
    | .ret => k n .ret s') s (fun e s' h' => ?_) h
   cases e with
   | norm => exact b0g hbd hk m s' h'
   | out id => exact hk _ _ h'
   | ret => exact hk _ _ h'
theorem Y7 (hf : a0c rfi rf) (hb : a9v rbi rb) {H : Hn} {r : R} : ∀ (c : Code) (ki : Ex → St → Option R) (k : Nat → Ex → St → Option R) (s : St), (∀ e s', ki e s' = some r → Evt fun n => k n e s' = some r) →
  ev (T.cx rfi rbi) H c s ki = some r → Evt fun n => ev (T.cx (rf n) (rb n)) H c s (k n) = some r
 | .skip, ki, k, s, hk, h => hk _ _ h
 | .region _ ops false, ki, k, s, hk, h => a9M (k := fun n => k n .norm) hf (fun s' h' => hk _ _ h') _ s h
 | .region id ops true, ki, k, s, hk, h => by
   simp only [ev] at h ⊢
   cases hd : H.dk id with
   | none => rw [hd] at h; cases h
   | some p =>
     obtain ⟨slots, t⟩ := p
     rw [hd] at h
     exact a0C (k := fun n s' => k n .norm { s' with hold := [] }) hf (fun s' h' => hk _ _ h') t _ h
 | .seq a b, ki, k, s, hk, h => by
   simp only [ev] at h ⊢
   refine Y7 hf hb a _ (fun n e s' => match e with
    | .norm => match (E0 b).bind H.tk with
      | some κ => L5 (T.cx (rf n) (rb n)) κ s' (k n)
      | none => ev (T.cx (rf n) (rb n)) H b s' (k n)
    | .out id => k n (.out id) s'
    | .ret => k n .ret s') s (fun e s' h' => ?_) h
   cases e with
   | norm =>
     simp only at h' ⊢
     cases ht : (E0 b).bind H.tk with
     | none => rw [ht] at h'; exact Y7 hf hb b ki k s' hk h'
     | some κ => rw [ht] at h'; exact a1c hb hk h'
   | out id => exact hk _ _ h'
   | ret => exact hk _ _ h'
 | .cond c a b, ki, k, s, hk, h => by
   simp only [ev] at h ⊢
   cases hc : n7 s.env c with
   | none => rw [hc] at h; cases h
   | some v =>
     rw [hc] at h
     cases v with
     | one l =>
       cases l with
       | bool t =>
         cases t
         · exact Y7 hf hb b ki k s hk h
         · exact Y7 hf hb a ki k s hk h
       | anyb =>
         obtain ⟨h1, h2⟩ := a0X h
         refine ((Y7 hf hb a ki k s hk h1).and (Y7 hf hb b ki k s hk h2)).mono fun n hn => ?_
         show l8 _ _ = some r
         rw [hn.1, hn.2]; exact m9 _
       | _ => cases h
     | _ => cases h
 | .block id c, ki, k, s, hk, h => by
   simp only [ev] at h ⊢
   cases hl : H.lk id with
   | some κ => rw [hl] at h; exact a1c hb hk h
   | none =>
     rw [hl] at h
     refine Y7 hf hb c _ (fun n e s' => match e with
      | .out id' => bif Nat.beq id' id then k n .norm s' else k n (.out id') s'
      | .norm => k n .norm s'
      | .ret => k n .ret s') s (fun e s' h' => ?_) h
     cases e with
     | norm => exact hk _ _ h'
     | ret => exact hk _ _ h'
     | out id' =>
       simp only at h' ⊢
       cases hq : Nat.beq id' id with
       | true => rw [hq] at h'; exact hk _ _ h'
       | false => rw [hq] at h'; exact hk _ _ h'
 | .loop c, ki, k, s, hk, h => b0g (b := fun n => ev (T.cx (rf n) (rb n)) H c) (fun ki k s hk h => Y7 hf hb c ki k s hk h) hk 16 s h
 | .exit id, ki, k, s, hk, h => hk _ _ h
 | .ret, ki, k, s, hk, h => hk _ _ h
 | .rangeFunc _ _ _ _, ki, k, s, hk, h => by simp [ev] at h
 | .scope _, ki, k, s, hk, h => by simp [ev] at h
 | .label _, ki, k, s, hk, h => by simp [ev] at h
 | .goto _, ki, k, s, hk, h => by simp [ev] at h
 | .refuse _, ki, k, s, hk, h => by simp [ev] at h
theorem a4P (rf rf' : T.RF) (rb rb' : T.RB) (s : St) : ∀ (rs : List ResultVar), I3 (T.cx rf rb) s rs = I3 (T.cx rf' rb') s rs
 | [] => rfl
 | r :: rs => by
   simp only [I3, a4P rf rf' rb rb' s rs]
   cases r <;> rfl
theorem b2k (hf : a0c rfi rf) (hb : a9v rbi rb) {H : Hn} {φ : Nat} {c : Code} {rs : List ResultVar} {d : (T.kin φ).ct.denote} {y : (P9 (T.kouts φ)).denote}
  (h : b6m (T.cx rfi rbi) H φ c rs d = some y) : Evt fun n => b6m (T.cx (rf n) (rb n)) H φ c rs d = some y := by
 unfold b6m at h ⊢
 dsimp only [Tb.cx] at h ⊢
 refine Y7 hf hb c _ _ _ (fun e s' h' => ?_) h
 refine Evt.all fun n => ?_
 cases e with
 | out id => cases h'
 | _ =>
   simp only at h' ⊢
   split at h'
   case h_2 => cases h'
   rename_i vs h1
   have h1' : I3 (T.cx (rf n) (rb n)) s' rs = some vs := by rw [a4P (rf n) rfi (rb n) rbi]; exact h1
   simp only [h1']; exact h'
theorem a9J (hf : a0c rfi rf) (hb : a9v rbi rb) {H : Hn} {κ : Nat} {c : BCode} {d : (T.bk κ).ins.ct.denote} {y : (J6 (T.bk κ).exits).denote}
  (h : a7z (T.cx rfi rbi) H κ c d = some y) : Evt fun n => a7z (T.cx (rf n) (rb n)) H κ c d = some y := by
 cases c with
 | tail c =>
   simp only [a7z] at h ⊢
   exact Y7 hf hb c _ (fun n e s => G6 (C4 0 (T.bk κ).ins.objs) (T.bk κ).exits e s) _ (fun e s' h' => Evt.all fun n => h') h
 | loop id c =>
   simp only [a7z] at h ⊢
   dsimp only [Tb.cx] at h ⊢
   refine Y7 hf hb c _ _ _ (fun e s' h' => ?_) h
   cases e with
   | ret => exact Evt.all fun n => h'
   | out id' => exact Evt.all fun n => h'
   | norm =>
     simp only at h' ⊢
     cases hl : S5 s'.env (T.bk κ).slots with
     | none => rw [hl] at h'; cases h'
     | some vs =>
       simp only [hl] at h' ⊢
       cases hp : a3w (T.bk κ).ins (C4 0 (T.bk κ).ins.objs) vs s' with
       | none =>
         simp only [hp] at h' ⊢
         cases ha : H.al κ with
         | none => rw [ha] at h'; cases h'
         | some κ2 =>
           simp only [ha] at h' ⊢
           exact a1c (T := T) (k := fun _ e' s' => G6 (C4 0 (T.bk κ).ins.objs) (T.bk κ).exits e' s') hb (fun e s' h'' => Evt.all fun n => h'') h'
       | some p =>
         obtain ⟨d', ρ, s1⟩ := p
         simp only [hp] at h' ⊢
         exact hb κ _ y h'
end Go.Bm
end
section
open Bool (and_eq_true)
namespace Go.Bm
set_option linter.unusedVariables false
set_option linter.unusedSimpArgs false
def cut : List Bool → Code → Option Code
 | [], c => some c
 | b :: p, .seq x y => match b with
   | true => Bm.cut p y
   | false => Bm.cut p x
 | b :: p, .cond _ x y => match b with
   | true => Bm.cut p y
   | false => Bm.cut p x
 | _ :: p, .block _ c => Bm.cut p c
 | _ :: p, .loop c => Bm.cut p c
 | _, _ => none
def a3k : Code → BCode
 | .block id (.loop c) => .loop id c
 | c => .tail c
structure Tbl extends Tb where
 lk : Nat → Nat → Option Nat
 tk : Nat → Nat → Option Nat
 dk : Nat → Nat → Option (List Nat × OrdT)
 al : Nat → Option Nat
 fnum : Nat → Nat
 fn : Nat → Option Func
 place : Nat → Option (Nat × List Bool)
 xf : toTb.RF
def Tbl.hn (T : Tbl) (φ : Nat) : Hn := ⟨T.lk φ, T.tk φ, T.dk φ, T.al⟩
noncomputable def Tbl.a3D (T : Tbl) (rf : T.RF) (rb : T.RB) : T.RF := fun f d => match T.fn f with
 | some fn => match fn.body with
   | some c => b6m (T.cx rf rb) (T.hn f) f c fn.results.toList d
   | none => none
 | none => T.xf f d
def Tbl.a7s (T : Tbl) (κ : Nat) : Option (Nat × Code) := match T.place κ with
 | some (f, p) => match T.fn f with
   | some fn => match fn.body with
     | some c => match Bm.cut p c with
       | some c' => some (f, c')
       | none => none
     | none => none
   | none => none
 | none => none
noncomputable def Tbl.a1D (T : Tbl) (rf : T.RF) (rb : T.RB) : T.RB := fun κ d => match T.a7s κ with
 | some (f, c) => a7z (T.cx rf rb) (T.hn f) κ (a3k c) d
 | none => none
noncomputable def Tbl.F (T : Tbl) : Nat → T.RF × T.RB
 | 0 => (fun _ _ => none, fun _ _ => none)
 | n + 1 => (T.a3D (T.F n).1 (T.F n).2, T.a1D (T.F n).1 (T.F n).2)
noncomputable def lim {A : Type} (g : Nat → Option A) : Option A := by
 classical exact if h : ∃ y, Evt fun n => g n = some y then some h.choose else none
theorem a8i {A : Type} {g : Nat → Option A} {y : A} (h : lim g = some y) : Evt fun n => g n = some y := by
 unfold lim at h
 split at h
 · rename_i hh; cases h; exact hh.choose_spec
 · cases h
theorem b8J {A : Type} {g : Nat → Option A} {y : A} (h : Evt fun n => g n = some y) : lim g = some y := by
 have hh : ∃ y, Evt fun n => g n = some y := ⟨y, h⟩
 unfold lim
 rw [dif_pos hh]
 obtain ⟨N, h⟩ := h
 obtain ⟨M, k⟩ := hh.choose_spec
 have h1 : g (max N M) = some y := h (max N M) (by omega)
 have h2 : g (max N M) = some hh.choose := k (max N M) (by omega)
 rw [← h1, ← h2]
noncomputable def Tbl.rf (T : Tbl) : T.RF := fun f d => lim fun n => (T.F n).1 f d
noncomputable def Tbl.rb (T : Tbl) : T.RB := fun κ d => lim fun n => (T.F n).2 κ d
theorem Tbl.c3P (T : Tbl) : a0c T.rf fun n => (T.F n).1 := fun f d y h => a8i h
theorem Tbl.c3O (T : Tbl) : a9v T.rb fun n => (T.F n).2 := fun κ d y h => a8i h
theorem Evt.shift {A : Type} {g : Nat → Option A} {y : A} (h : Evt fun n => g (n + 1) = some y) : Evt fun n => g n = some y := by
 obtain ⟨N, h⟩ := h
 refine ⟨N + 1, fun n hn => ?_⟩
 have : g (n - 1 + 1) = some y := h (n - 1) (by omega)
 rw [show n - 1 + 1 = n by omega] at this
 exact this
theorem Tbl.c4c (T : Tbl) {f : Nat} {d : (T.kin f).ct.denote} {y : (P9 (T.kouts f)).denote} (h : T.a3D T.rf T.rb f d = some y) : T.rf f d = some y := by
 refine b8J (Evt.shift ?_)
 show Evt fun n => T.a3D (T.F n).1 (T.F n).2 f d = some y
 unfold Tbl.a3D at h ⊢
 cases hf : T.fn f with
 | none => simp only [hf] at h ⊢; exact Evt.all fun n => h
 | some fn =>
   simp only [hf] at h ⊢
   cases hc : fn.body with
   | none => rw [hc] at h; cases h
   | some c => simp only [hc] at h ⊢; exact b2k T.c3P T.c3O h
theorem Tbl.c4b (T : Tbl) {κ : Nat} {d : (T.bk κ).ins.ct.denote} {y : (J6 (T.bk κ).exits).denote} (h : T.a1D T.rf T.rb κ d = some y) : T.rb κ d = some y := by
 refine b8J (Evt.shift ?_)
 show Evt fun n => T.a1D (T.F n).1 (T.F n).2 κ d = some y
 unfold Tbl.a1D at h ⊢
 cases hc : T.a7s κ with
 | none => rw [hc] at h; cases h
 | some p => simp only [hc] at h ⊢; exact a9J T.c3P T.c3O h
def b8o : Option (Nat × List Bool) → Nat → List Bool → Bool
 | some (g, q), f, p => Nat.beq g f && (q == p)
 | none, _, _ => false
def a4g (ops : Array Oper) : List (List Nat) := ops.toList.map fun o => (o.after.toList.filter fun e => Region.binds .any e).map (·.on)
def b1U (ops : Array Oper) : List (List Nat) := (List.range ops.size).map fun i => match ops[i]? with
 | some oi => (List.range ops.size).filter fun j => !(j == i || (match ops[j]? with
    | some oj => oj.after.any (fun e => Region.binds .any e && e.on == i) || oi.apart ops oj
    | none => true))
 | none => []
def allM (m : Nat) (o : Option (List Nat)) : Bool := match o with
 | some l => l.all fun j => m.testBit j
 | none => false
def b1v (D : List (List Nat)) (m i : Nat) : Bool := !m.testBit i && allM m (nth D i)
def b0s (D : List (List Nat)) (n m : Nat) : List Nat := (List.range n).filter fun i => b1v D m i
def a5J (N : Nat) (D B : List (List Nat)) : Bool → Nat → Nat → OrdT → Bool
 | m, _, l, .done => m && (b0s D N l).isEmpty
 | m, n + 1, l, .take i t => m && (allM l (nth B i) && (b1v D l i && a5J N D B true n (l ||| 2 ^ i) t))
 | m, n + 1, l, .only i t => Nat.blt i N && ((!m || (b1v D l i && (b0s D N l).all fun j => Nat.beq j i)) && a5J N D B true n (l ||| 2 ^ i) t)
 | m, n + 1, l, .alt i t r => Nat.blt i N && ((!m || (b1v D l i && (b0s D N l).all fun j => has (a7R (.alt i t r)) j)) && (a5J N D B true n (l ||| 2 ^ i) t && a5J N D B false (n + 1) l r))
 | _, 0, _, _ => false
structure BitsM (n : Nat) (listed : Array Bool) (m : Nat) : Prop where
 size : listed.size = n
 t : ∀ i, listed.getD i true = (m.testBit i || decide (n ≤ i))
 f : ∀ i, listed.getD i false = m.testBit i
theorem BitsM.zero (n : Nat) : BitsM n (Array.replicate n false) 0 :=
 ⟨by simp, fun i => by by_cases h : i < n <;> simp [Array.getD, h] <;> omega, fun i => by by_cases h : i < n <;> simp [Array.getD, h]⟩
theorem BitsM.set {n : Nat} {listed : Array Bool} {m : Nat} (h : BitsM n listed m) {i : Nat} (hi : i < n) : BitsM n (listed.setIfInBounds i true) (m ||| 2 ^ i) := by
 have hs := h.size
 refine ⟨by simp [hs], fun j => ?_, fun j => ?_⟩
 · have ht := h.t j
   rw [Nat.testBit_or, Nat.testBit_two_pow]
   by_cases hj : i = j
   · subst hj
     simp [Array.getD, hs, hi]
   · rw [decide_eq_false hj, Bool.or_false, ← ht]
     by_cases hjn : j < n <;> simp [Array.getD, hs, hjn, Array.getElem_setIfInBounds, hj]
 · have hf := h.f j
   rw [Nat.testBit_or, Nat.testBit_two_pow]
   by_cases hj : i = j
   · subst hj
     simp [Array.getD, hs, hi]
   · rw [decide_eq_false hj, Bool.or_false, ← hf]
     by_cases hjn : j < n <;> simp [Array.getD, hs, hjn, Array.getElem_setIfInBounds, hj]
theorem b0m (ops : Array Oper) (i : Nat) : nth (a4g ops) i = (ops[i]?).map fun o => (o.after.toList.filter fun e => Region.binds .any e).map (·.on) := by
 rw [nth_getElem?, a4g, List.getElem?_map, Array.getElem?_toList]
theorem c1X {ops : Array Oper} {listed : Array Bool} {m : Nat} (h : BitsM ops.size listed m) {i : Nat} (hi : i < ops.size) :
  (!listed.getD i true && ((ops[i]?).map (·.after.all fun e => !Region.binds .any e || listed.getD e.on false)).getD false) = b1v (a4g ops) m i := by
 unfold b1v
 rw [h.t i, decide_eq_false (by omega), Bool.or_false, b0m]
 congr 1
 cases ho : ops[i]? with
 | none => rfl
 | some o =>
   simp only [Option.map_some, Option.getD_some, allM]
   rw [← Array.all_toList, List.all_map, List.all_filter]
   apply List.all_congr rfl
   intro e
   simp only [Function.comp, h.f]
theorem a2W {ops : Array Oper} {listed : Array Bool} {m : Nat} (h : BitsM ops.size listed m) : Region.ready .any ops listed = b0s (a4g ops) ops.size m := by
 unfold Region.ready b0s
 apply List.filter_congr
 intro i hi
 exact c1X h (List.mem_range.1 hi)
theorem b5z {ops : Array Oper} {m i : Nat} (h : b1v (a4g ops) m i = true) : i < ops.size := by
 unfold b1v at h
 rw [and_eq_true, b0m] at h
 cases ho : ops[i]? with
 | none => rw [ho] at h; exact absurd (show false = true from h.2) (by decide)
 | some o => exact (Array.getElem?_eq_some_iff.1 ho).1
theorem a8y {ops : Array Oper} {m i : Nat} (h : b1v (a4g ops) m i = true) : (b0s (a4g ops) ops.size m).contains i = true := by
 rw [List.contains_iff_mem]
 exact List.mem_filter.2 ⟨List.mem_range.2 (b5z h), h⟩
theorem d1k {ops : Array Oper} {listed : Array Bool} {m i : Nat} (h : BitsM ops.size listed m) (hi : i < ops.size) (hb : allM m (nth (b1U ops) i) = true) : Region.free .any ops listed i = true := by
 have hn : nth (b1U ops) i = some (match ops[i]? with
   | some oi => (List.range ops.size).filter fun j => !(j == i || (match ops[j]? with
      | some oj => oj.after.any (fun e => Region.binds .any e && e.on == i) || oi.apart ops oj
      | none => true))
   | none => []) := by
  rw [nth_getElem?, b1U, List.getElem?_map, List.getElem?_range hi]; rfl
 rw [hn] at hb
 have ho : ops[i]? = some ops[i] := Array.getElem?_eq_getElem hi
 unfold Region.free
 rw [ho] at hb ⊢
 simp only [allM, List.all_eq_true] at hb
 simp only [List.all_eq_true]
 intro j hj
 cases hx : (j == i || listed.getD j true || match ops[j]? with
  | some oj => oj.after.any (fun e => Region.binds .any e && e.on == i) || ops[i].apart ops oj
  | none => true) with
 | true => rfl
 | false =>
   simp only [Bool.or_eq_false_iff] at hx
   have h2 := hb j (List.mem_filter.2 ⟨hj, by
    simp only [Bool.not_eq_true', Bool.or_eq_false_iff]
    exact ⟨hx.1.1, hx.2⟩⟩)
   rw [h.t j, h2, Bool.true_or] at hx
   exact absurd hx.1.2 (by decide)
theorem a0N {ops : Array Oper} : ∀ (t : OrdT) (b : Bool) (n : Nat) (listed : Array Bool) (m : Nat), BitsM ops.size listed m → a5J ops.size (a4g ops) (b1U ops) b n m t = true → R2 ops b n listed t = true
 | .done, b, n, listed, m, h, ho => by
   cases n <;> (simp only [a5J, R2, a2W h] at ho ⊢; exact ho)
 | .take i t, b, 0, listed, m, h, ho => by simp [a5J] at ho
 | .only i t, b, 0, listed, m, h, ho => by simp [a5J] at ho
 | .alt i t r, b, 0, listed, m, h, ho => by simp [a5J] at ho
 | .take i t, b, n + 1, listed, m, h, ho => by
   simp only [a5J, and_eq_true] at ho
   have hi := b5z ho.2.2.1
   simp only [R2, and_eq_true]
   exact ⟨ho.1, d1k h hi ho.2.1, by rw [a2W h]; exact a8y ho.2.2.1, a0N t true n _ _ (h.set hi) ho.2.2.2⟩
 | .only i t, b, n + 1, listed, m, h, ho => by
   simp only [a5J, and_eq_true, Bool.or_eq_true] at ho
   simp only [R2, and_eq_true, Bool.or_eq_true, a2W h]
   have hi : i < ops.size := by have := ho.1; rw [Nat.blt_eq] at this; exact this
   exact ⟨ho.2.1.imp id fun g => ⟨a8y g.1, g.2⟩, a0N t true n _ _ (h.set hi) ho.2.2⟩
 | .alt i t r, b, n + 1, listed, m, h, ho => by
   simp only [a5J, and_eq_true, Bool.or_eq_true] at ho
   simp only [R2, and_eq_true, Bool.or_eq_true, a2W h]
   have hi : i < ops.size := by have := ho.1; rw [Nat.blt_eq] at this; exact this
   exact ⟨ho.2.1.imp id fun g => ⟨a8y g.1, g.2⟩, a0N t true n _ _ (h.set hi) ho.2.2.1, a0N r false (n + 1) _ _ h ho.2.2.2⟩
def O4 (T : Tbl) (f n : Nat) : (p : List Bool) → Code → Bool
 | p, .seq a b => O4 T f n (p ++ [false]) a && (match (E0 b).bind (T.tk f) with
   | some κ => b8o (T.place κ) f (p ++ [true]) && ((T.bk κ).keep.all fun t => B7 [t] n b)
   | none => O4 T f n (p ++ [true]) b)
 | p, .block id c => match T.lk f id with
   | some κ => b8o (T.place κ) f p && ((T.bk κ).keep.all fun t => B7 [t] n c)
   | none => O4 T f n (p ++ [false]) c
 | _, .region id ops true => match T.dk f id with
   | some (_, t) => Region.noSelect ops && a5J ops.size (a4g ops) (b1U ops) true ops.size 0 t
   | none => true
 | p, .cond _ a b => O4 T f n (p ++ [false]) a && O4 T f n (p ++ [true]) b
 | p, .loop c => O4 T f n (p ++ [false]) c
 | _, _ => true
def fnB (T : Tbl) (f : Nat) (fn : Func) (c : Code) : Bool :=
 Nat.ble (T.kin f).slots.length fn.ntmps && (B7 [] fn.ntmps c && O4 T f fn.ntmps [] c)
def c0z (T : Tbl) (κ f : Nat) (fn : Func) (p : List Bool) (c : Code) : Bool :=
 match a3k c with
 | .loop _ b => B7 [] fn.ntmps b && (O4 T f fn.ntmps (p ++ [false, false]) b && (match T.al κ with
   | some κ2 => b8o (T.place κ2) f p && (T.bk κ2).keep.all fun t => B7 [t] fn.ntmps b
   | none => true))
 | .tail c => B7 [] fn.ntmps c && O4 T f fn.ntmps p c
structure Tbl.Ok (P : Program) (T : Tbl) : Prop where
 tab : c2l P T.tab
 eqt : ∀ t fs zs, T.eqt t = true → T.tab t = some (.struct fs zs) → c4o P t zs
 mt : ∀ t name f how, T.mt t name = some (f, how) → b3A P t name f how
 mixed : P.follows .mixedOrders = true
 gpm : a5b T.gp
 gvo : ∀ w Φ, T.gp w Φ → GvR T.gv w Φ
 keys : ∀ f φ, φ ∈ T.keys f → T.fnum φ = f
 fn : ∀ φ fn, T.fn φ = some fn → P.funcs[T.fnum φ]? = some fn ∧ (fn.name == "runtime.NumGoroutine") = false ∧ ∃ c, fn.body = some c ∧ fnB T φ fn c = true
 blk : ∀ κ f p fn c c', T.place κ = some (f, p) → T.fn f = some fn → fn.body = some c → Bm.cut p c = some c' → c0z T κ f fn p c' = true
 ext : ∀ φ d y, T.fn φ = none → T.xf φ d = some y → (∃ fn : Func, P.funcs[T.fnum φ]? = some fn ∧ (fn.name == "runtime.NumGoroutine") = false ∧ fn.body.isNone = false) ∧
  ∀ (w : World) (Φ : Nat → Prop) (vs : List Value) (γ : Loc), T.gp w Φ → InstR w Φ (T.kin φ) (o7 (T.kin φ).cts d) vs γ →
   Calls P (T.fnum φ) vs.toArray w fun e w' => ∃ Φ' γ' rs, e = .returned (L3 rs) ∧ a1E (fun T' ds' => InstR w' Φ' T' ds' rs γ' ∧ PostR w Φ γ (T.kin φ) (o7 (T.kin φ).cts d) w' Φ' γ' T' ds') (T.kouts φ) y
theorem V7 : ∀ (p q : List Bool) (c : Code), Bm.cut (p ++ q) c = (Bm.cut p c).bind (Bm.cut q)
 | [], q, c => rfl
 | b :: p, q, c => by
   cases c <;> first | rfl | (cases b <;> exact V7 p q _) | exact V7 p q _
section
variable {P : Program} {T : Tbl} (hT : T.Ok P)
structure Tbl.At (P : Program) (T : Tbl) (n : Nat) : Prop where
 all : AllOk P (T.cx (T.F n).1 (T.F n).2)
 blk : ∀ κ f p fn c c', T.place κ = some (f, p) → T.fn f = some fn → fn.body = some c → Bm.cut p c = some c' → match a3k c' with
  | .loop id b => b1M (T.cx (T.F n).1 (T.F n).2) fn.ntmps κ c' fun Q a w => Code.rounds P b (Exit.inBlock id Q) n a w
  | .tail c => a6X P (T.cx (T.F n).1 (T.F n).2) fn.ntmps κ c'
theorem a7n {c b : Code} {id : Nat} (h : a3k c = .loop id b) : c = .block id (.loop b) := by
 unfold a3k at h
 split at h
 · cases h; rfl
 · cases h
theorem b3G {c b : Code} (h : a3k c = .tail b) : c = b := by
 unfold a3k at h
 split at h
 · cases h
 · cases h; rfl
theorem Tbl.At.c2m {n : Nat} (h : T.At P n) {κ f : Nat} {p : List Bool} {fn : Func} {c c' : Code} (h1 : T.place κ = some (f, p)) (h2 : T.fn f = some fn) (h3 : fn.body = some c) (h4 : Bm.cut p c = some c') :
  a6X P (T.cx (T.F n).1 (T.F n).2) fn.ntmps κ c' := by
 have := h.blk κ f p fn c c' h1 h2 h3 h4
 cases hb : a3k c' with
 | tail b => rw [hb] at this; exact this
 | loop id b =>
   rw [hb] at this
   have e := a7n hb
   intro d y hy w Φ a bs fix k1 k2 k3 k4 k5 k6
   have g := this d y hy w Φ a bs fix k1 k2 k3 k4 k5 k6
   rw [e]
   exact wp_block (wp_loop_rounds n g)
theorem a5C {o : Option (Nat × List Bool)} {f : Nat} {p : List Bool} (h : b8o o f p = true) : o = some (f, p) := by
 cases o with
 | none => cases h
 | some x =>
   obtain ⟨g, q⟩ := x
   simp only [b8o, and_eq_true] at h
   rw [Nat.eq_of_beq_eq_true h.1, eq_of_beq h.2]
theorem O5 {n : Nat} (h : T.At P n) {f : Nat} {fn : Func} {c0 : Code} (h2 : T.fn f = some fn) (h3 : fn.body = some c0) : ∀ (c : Code) (p : List Bool), Bm.cut p c0 = some c → O4 T f fn.ntmps p c = true →
  Hints P (T.cx (T.F n).1 (T.F n).2) fn.ntmps (T.hn f) c
 | .seq a b, p, hs, hb => by
   simp only [O4, and_eq_true] at hb
   have sa : Bm.cut (p ++ [false]) c0 = some a := by rw [V7, hs]; rfl
   have sb : Bm.cut (p ++ [true]) c0 = some b := by rw [V7, hs]; rfl
   refine ⟨O5 h h2 h3 a _ sa hb.1, ?_⟩
   have hb2 := hb.2
   show (match (E0 b).bind (T.tk f) with
    | some κ => a6X P (T.cx (T.F n).1 (T.F n).2) fn.ntmps κ b ∧ ∀ t ∈ (T.bk κ).keep, B7 [t] fn.ntmps b = true
    | none => Hints P (T.cx (T.F n).1 (T.F n).2) fn.ntmps (T.hn f) b)
   cases hκ : (E0 b).bind (T.tk f) with
   | some κ =>
     rw [hκ] at hb2
     simp only [and_eq_true] at hb2
     exact ⟨h.c2m (a5C hb2.1) h2 h3 sb, fun t ht => List.all_eq_true.1 hb2.2 t ht⟩
   | none =>
     rw [hκ] at hb2
     exact O5 h h2 h3 b _ sb hb2
 | .block id c, p, hs, hb => by
   simp only [O4] at hb
   show (match T.lk f id with
    | some κ => a6X P (T.cx (T.F n).1 (T.F n).2) fn.ntmps κ (.block id c) ∧ ∀ t ∈ (T.bk κ).keep, B7 [t] fn.ntmps c = true
    | none => Hints P (T.cx (T.F n).1 (T.F n).2) fn.ntmps (T.hn f) c)
   cases hκ : T.lk f id with
   | some κ =>
     rw [hκ] at hb
     simp only [and_eq_true] at hb
     exact ⟨h.c2m (a5C hb.1) h2 h3 hs, fun t ht => List.all_eq_true.1 hb.2 t ht⟩
   | none =>
     rw [hκ] at hb
     exact O5 h h2 h3 c _ (by rw [V7, hs]; rfl) hb
 | .cond _ a b, p, hs, hb => by
   simp only [O4, and_eq_true] at hb
   exact ⟨O5 h h2 h3 a _ (by rw [V7, hs]; rfl) hb.1, O5 h h2 h3 b _ (by rw [V7, hs]; rfl) hb.2⟩
 | .loop c, p, hs, hb => O5 h h2 h3 c _ (by rw [V7, hs]; rfl) hb
 | .region id ops true, p, hs, hb => by
   simp only [O4] at hb
   intro slots t ht
   have ht' : T.dk f id = some (slots, t) := ht
   rw [ht'] at hb
   simp only [and_eq_true] at hb
   exact ⟨hb.1, a0N t true _ _ _ (BitsM.zero _) hb.2⟩
 | .skip, _, _, _ => trivial
 | .region _ _ false, _, _, _ => trivial
 | .exit _, _, _, _ => trivial
 | .ret, _, _, _ => trivial
 | .rangeFunc _ _ _ _, _, _, _ => trivial
 | .scope _, _, _, _ => trivial
 | .label _, _, _, _ => trivial
 | .goto _, _, _, _ => trivial
 | .refuse _, _, _, _ => trivial
include hT in
theorem Tbl.at : ∀ n, T.At P n
 | 0 => ⟨⟨⟨hT.mt, hT.tab, hT.eqt⟩, fun f φ _ d y h => (by cases h), hT.mixed, hT.gpm, hT.gvo⟩, fun κ f p fn c c' _ _ _ _ => by
    cases a3k c' with
    | tail b => intro d y h; cases h
    | loop id b => intro d y h; cases h⟩
 | n + 1 => by
   have ih := Tbl.at n
   have hokn : AllOk P (T.cx (T.F n).1 (T.F n).2) := ih.all
   refine ⟨⟨⟨hT.mt, hT.tab, hT.eqt⟩, fun f φ hφ d y h => ?_, hT.mixed, hT.gpm, hT.gvo⟩, fun κ f p fn c c' h1 h2 h3 h4 => ?_⟩
   · change T.a3D (T.F n).1 (T.F n).2 φ d = some y at h
     have hfe := hT.keys f φ hφ
     subst hfe
     unfold Tbl.a3D at h
     cases hf : T.fn φ with
     | none => rw [hf] at h; exact hT.ext φ d y hf h
     | some fn =>
       obtain ⟨k1, k2, c, k3, k4⟩ := hT.fn φ fn hf
       simp only [hf, k3] at h
       simp only [fnB, and_eq_true] at k4
       exact ⟨⟨fn, k1, k2, by rw [k3]; rfl⟩, b8f hokn k1 k3 (Nat.le_of_ble_eq_true k4.1) k4.2.1 (O5 ih hf k3 c [] rfl k4.2.2) d y h⟩
   · have hB := hT.blk κ f p fn c c' h1 h2 h3 h4
     have hca : T.a7s κ = some (f, c') := by simp only [Tbl.a7s, h1, h2, h3, h4]
     unfold c0z at hB
     cases hb : a3k c' with
     | tail b =>
       rw [hb] at hB
       simp only [and_eq_true] at hB
       have e := b3G hb
       subst e
       intro d y hy w Φ a γ fix k1 k2 k3 k4 k5 k6
       change T.a1D (T.F n).1 (T.F n).2 κ d = some y at hy
       simp only [Tbl.a1D, hca, hb] at hy
       exact b4E hokn hB.1 (O5 ih h2 h3 c' p h4 hB.2) hy k1 k2 k3 k4 k5 k6
     | loop id b =>
       rw [hb] at hB
       simp only [and_eq_true] at hB
       have e := a7n hb
       intro d y hy w Φ a γ fix k1 k2 k3 k4 k5 k6
       change T.a1D (T.F n).1 (T.F n).2 κ d = some y at hy
       simp only [Tbl.a1D, hca, hb] at hy
       have ihl := ih.blk κ f p fn c c' h1 h2 h3 h4
       rw [hb] at ihl
       have k1' : ∀ t v, fix t = some v → B7 [t] fn.ntmps b = true := fun t v hv => by have := k1 t v hv; rw [e] at this; exact this
       refine b3X hokn hB.1 (O5 ih h2 h3 b (p ++ [false, false]) (by rw [V7, h4, e]; rfl) hB.2.1) (fun d' y' hy' w' Φ' a' γ' fix' g1 => ihl d' y' hy' w' Φ' a' γ' fix' (fun t v hv => by rw [e]; exact g1 t v hv)) (fun κ2 hκ2 => ?_) hy k1' k2 k3 k4 k5 k6
       have hκ2' : T.al κ = some κ2 := hκ2
       have h6 := hB.2.2
       rw [hκ2'] at h6
       simp only [and_eq_true] at h6
       have ih2 := ih.blk κ2 f p fn c c' (a5C h6.1) h2 h3 h4
       rw [hb] at ih2
       exact ⟨fun d' y' hy' w' Φ' a' γ' fix' g1 => ih2 d' y' hy' w' Φ' a' γ' fix' (fun t v hv => by rw [e]; exact g1 t v hv), fun t ht => List.all_eq_true.1 h6.2 t ht⟩
include hT in
theorem Tbl.sound {φ f : Nat} {d : (T.kin φ).ct.denote} {y : (P9 (T.kouts φ)).denote} (h : T.rf φ d = some y) (hφ : φ ∈ T.keys f)
  {w : World} {Φ : Nat → Prop} {vs : List Value} {γ : Loc} (hg : T.gp w Φ) (h1 : InstR w Φ (T.kin φ) (o7 (T.kin φ).cts d) vs γ) :
  Calls P f vs.toArray w fun e w' => ∃ Φ' γ' rs, e = .returned (L3 rs) ∧ a1E (fun T' ds' => InstR w' Φ' T' ds' rs γ' ∧ PostR w Φ γ (T.kin φ) (o7 (T.kin φ).cts d) w' Φ' γ' T' ds') (T.kouts φ) y := by
 obtain ⟨N, hN⟩ := a8i h
 exact ((Tbl.at hT N).all.fn f φ hφ d y (hN N (Nat.le_refl _))).2 w Φ vs γ hg h1
end
end Go.Bm
end
