import Derived.Test.YtlobhcgbmpcdlaaGreatDoorBmCallS
import Derived.Test.YtlobhcgbmpcdlaaGreatDoorBmX1
import Derived.LoopN
import Derived.OrdersHeld
namespace Go.Bm
set_option linter.unusedVariables false
set_option linter.unusedSimpArgs false
def Ex.toExit : Ex → Exit
 | .norm => .normal
 | .out id => .exit id
 | .ret => .ret
def slotVals (a : Act) (slots : List Nat) : List Value := slots.map fun t => a.tmps.getD t undef
def ExR (K : Ex → List Nat → Tm → List Dyn → Prop) : (l : List (Ex × List Nat × Tm)) → (exitsT l).denote → Prop
 | [], _ => False
 | [(e, slots, T')], y => K e slots T' (fromD T'.cts y)
 | (e, slots, T') :: b :: r, y => match y with
   | .inl a => K e slots T' (fromD T'.cts a)
   | .inr c => ExR K (b :: r) c
theorem ExR.mono {K K' : Ex → List Nat → Tm → List Dyn → Prop} (h : ∀ e l T ds, K e l T ds → K' e l T ds) : ∀ {l : List (Ex × List Nat × Tm)} {y : (exitsT l).denote}, ExR K l y → ExR K' l y
 | [], _, g => g
 | [(e, slots, T')], y, g => h _ _ _ _ g
 | (e, slots, T') :: b :: r, .inl a, g => h _ _ _ _ g
 | (e, slots, T') :: b :: r, .inr c, g => ExR.mono h (l := b :: r) g
def fresh (fx : List Nat) (d : Nat) : Bool := fx.all fun t => !Nat.beq t d
def Bound (fx : List Nat) (n : Nat) : Code → Bool
 | .region _ ops _ => ops.toList.all fun o => match o.dst with
   | some d => Nat.blt d n && fresh fx d
   | none => true
 | .seq a b => Bound fx n a && Bound fx n b
 | .cond _ a b => Bound fx n a && Bound fx n b
 | .block _ c => Bound fx n c
 | .loop c => Bound fx n c
 | _ => true
def BEnd (cx : Cx) (κ n : Nat) (fix : Nat → Option Value) (w : World) (Φ : Nat → Prop) (γ : Loc) (ds : List Dyn) (y : (exitsT (cx.bk κ).exits).denote) (ex : Exit) (a' : Act) (w' : World) : Prop :=
 a'.tmps.size = n ∧ (∀ t v, fix t = some v → a'.tmps.getD t undef = v) ∧ a'.defers = [] ∧
  ∃ Φ' γ', ExR (fun e slots T' ds' => ex = e.toExit ∧ InstR w' Φ' T' ds' (slotVals a' slots) γ' ∧ PostR w Φ γ (cx.bk κ).ins ds w' Φ' γ' T' ds') (cx.bk κ).exits y
def RunOk (cx : Cx) (n κ : Nat) (c : Code) (run : (Exit → Act → World → Prop) → Act → World → Prop) : Prop := ∀ d y, cx.rb κ d = some y → ∀ (w : World) (Φ : Nat → Prop) (a : Act) (γ : Loc) (fix : Nat → Option Value),
 (∀ t v, fix t = some v → Bound [t] n c = true) → (∀ t v, fix t = some v → a.tmps.getD t undef = v) → a.tmps.size = n → a.defers = [] →
 cx.gp w Φ → InstR w Φ (cx.bk κ).ins (fromD (cx.bk κ).ins.cts d) (slotVals a (cx.bk κ).slots) γ → run (BEnd cx κ n fix w Φ γ (fromD (cx.bk κ).ins.cts d) y) a w
def BlkOk (P : Program) (cx : Cx) (n κ : Nat) (c : Code) : Prop := RunOk cx n κ c (fun Q a w => c.wp P Q a w)
def heads : OrdT → List Nat
 | .only i _ => [i]
 | .alt i _ r => i :: heads r
 | _ => []
def ordB (ops : Array Oper) : Bool → Nat → Array Bool → OrdT → Bool
 | m, _, listed, .done => m && (Region.ready .any ops listed).isEmpty
 | m, n + 1, listed, .take i t => m && (Region.free .any ops listed i && ((Region.ready .any ops listed).contains i && ordB ops true n (listed.setIfInBounds i true) t))
 | m, n + 1, listed, .only i t => (!m || ((Region.ready .any ops listed).contains i && (Region.ready .any ops listed).all fun j => Nat.beq j i)) && ordB ops true n (listed.setIfInBounds i true) t
 | m, n + 1, listed, .alt i t r => (!m || ((Region.ready .any ops listed).contains i && (Region.ready .any ops listed).all fun j => has (heads (.alt i t r)) j)) &&
    (ordB ops true n (listed.setIfInBounds i true) t && ordB ops false (n + 1) listed r)
 | _, 0, _, _ => false
def Hints (P : Program) (cx : Cx) (n : Nat) (H : Hn) : Code → Prop
 | .seq a b => Hints P cx n H a ∧ (match (firstRegion b).bind H.tk with
   | some κ => BlkOk P cx n κ b ∧ ∀ t ∈ (cx.bk κ).keep, Bound [t] n b = true
   | none => Hints P cx n H b)
 | .block id c => match H.lk id with
   | some κ => BlkOk P cx n κ (.block id c) ∧ ∀ t ∈ (cx.bk κ).keep, Bound [t] n c = true
   | none => Hints P cx n H c
 | .cond _ a b => Hints P cx n H a ∧ Hints P cx n H b
 | .loop c => Hints P cx n H c
 | .region id ops true => ∀ slots t, H.dk id = some (slots, t) → Region.noSelect ops = true ∧ ordB ops true ops.size (Array.replicate ops.size false) t = true
 | _ => True
structure AllOk (P : Program) (cx : Cx) : Prop where
 ok : CxOk P cx
 fn : ∀ f, ∀ φ ∈ cx.keys f, FnOk P cx f φ
 mixed : P.follows .mixedOrders = true
 gpm : GpMono cx.gp
 gvo : ∀ w Φ, cx.gp w Φ → GvR cx.gv w Φ
section
variable {P : Program} {R : Type} {w0 : World} {Φ0 own0 : Nat → Prop} {N : Frm} {w w' : World} {Φ Φ' : Nat → Prop} {β β' : Loc} {s s' : St} {a a' : Act} {hp : List (Nat × SObj)}
variable {cx : Cx} {H : Hn}
theorem stepK_sound [hG : GlobR cx.gp w0 Φ0 own0] (hok : AllOk P cx) {o : Oper} {next : Act → World → Prop} {Q : Exit → Act → World → Prop} {k : St → Option R} {r : R} (hr : Rel w0 Φ0 own0 N w Φ β s a) (hN : ∀ d, o.dst = some d → N.ok d)
  (hk : ∀ s' a' w' Φ' β', Rel w0 Φ0 own0 N w' Φ' β' s' a' → k s' = some r → next a' w') (h : stepK cx o s k = some r) : o.wp P a w next Q := by
 cases ho : o.op with
 | move x => exact step_move hr hN hk (.inl ho) h
 | assign x => exact step_move hr hN hk (.inr ho) h
 | pick c x y => exact step_pick hr hN hk ho h
 | alloc t => exact step_alloc hok.ok hr hN hk ho h
 | box t x => exact step_box hok.ok hr hN hk ho h
 | build t ps => exact step_build hok.ok hr hN hk ho h
 | buildSlice t n ps => exact step_buildSlice hok.ok hr hN hk ho h
 | load t x => exact step_load hok.ok hr hN hk ho (hok.gvo _ _ (hG.get hr)) h
 | store t x y => exact step_store hok.ok hr hN hk ho h
 | nilCheck x => exact step_nilCheck hr hN hk ho h
 | binOp op t x y t' => exact step_bin hok.ok hr hN hk ho h
 | unOp op t x => exact step_un hr hN hk ho h
 | convert t d x => exact step_convert hok.ok hr hN hk ho h
 | makeSlice t l c => exact step_makeSlice hok.ok hr hN hk ho h
 | slice t x lo hi mx =>
   cases mx with
   | none => exact step_slice hok.ok hr hN hk ho h
   | some m =>
     cases lo with
     | some _ => simp [stepK, ho] at h
     | none =>
       cases hi with
       | none => simp [stepK, ho] at h
       | some y => exact (pstep_slice3 hok.ok hr ho h).wp hr trivial hN hk
 | fieldAddr t x f => exact step_fieldAddr hok.ok hr hN hk ho h
 | field t x f => exact step_field hok.ok hr hN hk ho h
 | indexAddr t x i => exact step_indexAddr hok.ok hr hN hk ho h
 | index t x i => exact step_index hok.ok hr hN hk ho h
 | extract x i => exact step_extract hr hN hk ho h
 | makeMap t m =>
   cases m with
   | none => exact step_makeMap hok.ok hr hN hk ho h
   | some m => simp [stepK, ho] at h
 | lookup t x i b => exact step_lookup hok.ok hr hN hk ho h
 | mapUpdate t x i y => exact step_mapUpdate hok.ok hr hN hk (.inl ho) h
 | insert t x i y => exact step_mapUpdate hok.ok hr hN hk (.inr ho) h
 | makeFunc fn x y =>
   cases fn with
   | func f => exact step_makeFunc hr hN hk ho h
   | _ => simp [stepK, ho] at h
 | makeInterface t x => exact (pstep_makeIface hok.ok hr ho h).wp hr trivial hN hk
 | typeAssert x t2 t b =>
   cases b with
   | false => exact (pstep_assert hok.ok hr ho h).wp hr trivial hN hk
   | true => simp [stepK, ho] at h
 | call c =>
   cases hc : c.callee with
   | value x => exact step_call hok.fn hr hN hk ho hc h
   | invoke r m => exact step_invoke hok.ok hok.fn hr hN hk ho hc h
   | builtin b =>
     cases b with
     | len => exact step_len hok.ok hr hN hk ho hc h
     | append => exact step_append hok.ok hr hN hk ho hc h
     | clear => exact step_clear hok.ok hr hN hk ho hc h
     | delete => exact step_delete hok.ok hr hN hk ho hc h
     | copy => exact step_copy hok.ok hr hN hk ho hc h
     | max => exact step_max hr hN hk ho (.inl hc) h
     | min => exact step_max hr hN hk ho (.inr hc) h
     | _ => simp [stepK, ho, hc] at h
 | _ => simp [stepK, ho] at h
theorem getD_some {a : Act} {d : Nat} {v : Value} (h : a.tmps.getD d undef = v) (hd : d < a.tmps.size) : a.tmps[d]? = some v := by
 simp [Array.getD, hd] at h
 simp [hd, h]
theorem set_same (hr : Rel w0 Φ0 own0 N w Φ β s a) {d : Nat} {v : SVal} (hv : SVR w Φ β s.heap v (a.tmps.getD d undef)) : Rel w0 Φ0 own0 N w Φ β (s.set (some d) v) a := by
 refine ⟨fun t u hu => ?_, ⟨hr.hp.ob, hr.hp.lt, hr.hp.hlt, hr.hp.inj, hr.hp.blt, hr.hp.flt, hr.hp.rin, hr.hp.rinj⟩, hr.own, hr.same, hr.fri, hr.fro, hr.size, hr.fix, hr.defers, hr.hold, hr.keep, hr.rown⟩
 simp only [St.set, look_cons] at hu
 split at hu
 · rename_i e; subst e; cases hu; exact hv
 · exact hr.env t u hu
theorem evOps_sound [hG : GlobR cx.gp w0 Φ0 own0] (hok : AllOk P cx) {ops : Array Oper} {Q : Exit → Act → World → Prop} {k : St → Option R} {r : R} (hN : ∀ o ∈ ops.toList, ∀ d, o.dst = some d → N.ok d)
  (hk : ∀ s' a' w' Φ' β', Rel w0 Φ0 own0 N w' Φ' β' s' a' → k s' = some r → Q .normal a' w') : ∀ (l : List Oper) (i : Nat) {w : World} {Φ : Nat → Prop} {β : Loc} {s : St} {a : Act}, (∀ j, l[j]? = ops[i + j]?) →
  Rel w0 Φ0 own0 N w Φ β s a → evOps cx ops.toList l s k = some r → wpOps P ops Q (List.range' i l.length) a w
 | [], i, w, Φ, β, s, a, _, hr, h => by simp only [evOps] at h; simpa [wpOps] using hk _ _ _ _ _ hr h
 | o :: l, i, w, Φ, β, s, a, hl, hr, h => by
   have hoi : ops[i]? = some o := by have := hl 0; simpa using this.symm
   have hl' : ∀ j, l[j]? = ops[i + 1 + j]? := fun j => by have := hl (j + 1); rw [show i + 1 + j = i + (j + 1) by omega]; simpa using this
   have hmem : o ∈ ops.toList := by rw [← Array.getElem?_toList] at hoi; exact List.mem_of_getElem? hoi
   have hoN := hN o hmem
   have yes : ∀ {s1 : St}, Rel w0 Φ0 own0 N w Φ β s1 a → (stepK cx o s1 fun s' => evOps cx ops.toList l s' k) = some r → o.wp P a w (wpOps P ops Q (List.range' (i + 1) l.length)) Q := fun hr1 h1 =>
    stepK_sound hok hr1 hoN (fun s' a' w' Φ' β' hr' h' => evOps_sound hok hN hk l (i + 1) hl' hr' h') h1
   have no : ∀ {s1 : St}, Rel w0 Φ0 own0 N w Φ β s1 a → evOps cx ops.toList l (s1.set o.dst .skip) k = some r → wpOps P ops Q (List.range' (i + 1) l.length) (a.put o.dst undef) w := fun hr1 h1 =>
    evOps_sound hok hN hk l (i + 1) hl' (hr1.set (sv := .skip) (v := undef) rfl hoN) h1
   simp only [List.length_cons, List.range'_succ, wpOps, hoi]
   simp only [evOps] at h
   split at h
   · rename_i hg
     have hw : Region.wanted o (yielded ops a.tmps) = true := by simp [Region.wanted, hg]
     rw [if_pos hw]
     exact .inl (yes hr h)
   · rename_i j want hg
     split at h
     case h_2 => cases h
     rename_i d hd
     rw [nth_getElem?, Array.getElem?_toList] at hd
     split at h
     · rename_i b hb
       have hv : a.tmps.getD d undef = .bool b := hr.env d _ hb
       have hdl : d < a.tmps.size := by
        rcases Nat.lt_or_ge d a.tmps.size with g | g
        · exact g
        · have : a.tmps.getD d undef = undef := by simp [Array.getD, Nat.not_lt.2 g]
          rw [this] at hv; cases hv
       have hy : yielded ops a.tmps j = some b := by
        simp only [yielded, hd, Option.bind_some, getD_some hv hdl]
       have hw : Region.wanted o (yielded ops a.tmps) = (some b == some want) := by simp only [Region.wanted, hg, hy]
       have hs1 : Rel w0 Φ0 own0 N w Φ β (s.set (some d) (.one (.bool b))) a := set_same hr (by rw [hv]; rfl)
       cases b <;> cases want <;> simp only [guardK, cond_true, cond_false] at h <;> rw [hw]
       · rw [if_pos (by rfl)]; exact .inl (yes hs1 h)
       · rw [if_neg (by decide)]; exact no hs1 h
       · rw [if_neg (by decide)]; exact no hs1 h
       · rw [if_pos (by rfl)]; exact .inl (yes hs1 h)
     · rename_i hb
       have hv : a.tmps.getD d undef = undef := hr.env d _ hb
       have hy : yielded ops a.tmps j = none := by
        simp only [yielded, hd, Option.bind_some]
        rcases Nat.lt_or_ge d a.tmps.size with g | g
        · rw [getD_some hv g]; rfl
        · rw [Array.getElem?_eq_none g]
       have hw : Region.wanted o (yielded ops a.tmps) = false := by simp only [Region.wanted, hg, hy]; rfl
       rw [hw]
       exact no hr h
     · cases h
theorem lookAll_sound (hr : Rel w0 Φ0 own0 N w Φ β s a) : ∀ {slots : List Nat} {vs : List SVal}, lookAll s.env slots = some vs → SVRs w Φ β s.heap vs (slotVals a slots)
 | [], vs, h => by simp [lookAll] at h; subst h; rfl
 | n :: r, vs, h => by
   simp only [lookAll] at h
   split at h
   · rename_i x y h1 h2; cases h; exact ⟨_, _, rfl, hr.env n x h1, lookAll_sound hr h2⟩
   · cases h
theorem leaveBlk_sound {T : Tm} {ρ : Rho} {keep : List Nat} {K : Ex → List Nat → Tm → List Dyn → Prop} {k : Ex → St → Option R} {r : R} : ∀ {l : List (Ex × List Nat × Tm)} {y : (exitsT l).denote}, ExR K l y → leaveBlk T ρ keep s l y k = some r →
  ∃ e slots T' ds', K e slots T' ds' ∧ k e (afterSt T ρ keep slots T' ds' s) = some r
 | [], _, g, _ => g.elim
 | [(e, slots, T')], y, g, h => ⟨_, _, _, _, g, h⟩
 | (e, slots, T') :: b :: r', .inl x, g, h => ⟨_, _, _, _, g, h⟩
 | (e, slots, T') :: b :: r', .inr x, g, h => leaveBlk_sound (l := b :: r') g (by simpa only [leaveBlk] using h)
theorem keepEnv_look {env : List (Nat × SVal)} : ∀ {l : List Nat} {t : Nat} {v : SVal}, look (keepEnv env l) t = some v → t ∈ l ∧ look env t = some v
 | [], t, v, h => by cases h
 | x :: r, t, v, h => by
   simp only [keepEnv] at h
   split at h
   · rename_i u hu
     rw [look_cons] at h
     split at h
     · rename_i e; subst e; cases h; exact ⟨by simp, hu⟩
     · obtain ⟨h1, h2⟩ := keepEnv_look h; exact ⟨List.mem_cons_of_mem _ h1, h2⟩
   · obtain ⟨h1, h2⟩ := keepEnv_look h; exact ⟨List.mem_cons_of_mem _ h1, h2⟩
theorem enterBlk_run [hG : GlobR cx.gp w0 Φ0 own0] {κ : Nat} {c : Code} {run : (Exit → Act → World → Prop) → Act → World → Prop} (hmono : ∀ {Q Q' : Exit → Act → World → Prop}, (∀ e a w, Q e a w → Q' e a w) → ∀ a w, run Q a w → run Q' a w) (hb : RunOk cx N.n κ c run) (hkeep : ∀ t ∈ (cx.bk κ).keep, Bound [t] N.n c = true) (hfx : ∀ t v, N.fix t = some v → Bound [t] N.n c = true) {k : Ex → St → Option R} {r : R} {Q : Exit → Act → World → Prop} (hr : Rel w0 Φ0 own0 N w Φ β s a)
  (hk : ∀ e s' a' w' Φ' β', Rel w0 Φ0 own0 N w' Φ' β' s' a' → k e s' = some r → Q e.toExit a' w') (h : enterBlk cx κ s k = some r) : run Q a w := by
 unfold enterBlk at h
 split at h
 case h_2 => cases h
 rename_i vs hvs
 split at h
 case h_2 => cases h
 rename_i d ρ s1 hpk
 obtain ⟨y, hy, h⟩ := Option.bind_eq_some_iff.1 h
 unfold packIn at hpk
 obtain ⟨hng, hpk⟩ := cond_none hpk
 obtain ⟨Φ1, β1, hP⟩ := packD_sound hr (lookAll_sound hr hvs) hpk
 let fix : Nat → Option Value := fun t => if t ∈ (cx.bk κ).keep then some (a.tmps.getD t undef) else N.fix t
 have hfix : ∀ t v, fix t = some v → Bound [t] N.n c = true := by
  intro t v hv
  simp only [fix] at hv
  split at hv
  · rename_i hm; exact hkeep t hm
  · exact hfx t v hv
 have hfix2 : ∀ t v, fix t = some v → a.tmps.getD t undef = v := by
  intro t v hv
  simp only [fix] at hv
  split at hv
  · cases hv; rfl
  · exact hr.fix t v hv
 refine hmono (fun ex a' w' ⟨h1, hf1, h2, Φ', γ', h3⟩ => ?_) _ _ (hb d y hy w Φ1 a _ fix hfix hfix2 hr.size hr.defers (hG.get hP.rel) hP.inst)
 obtain ⟨e, slots, T', ds', ⟨he, hi, hpost⟩, hkk⟩ := leaveBlk_sound h3 h
 obtain ⟨β', k1, k2, k3⟩ := Rel.back hP hng hi hpost
 have ha : ∀ t, t ∈ (cx.bk κ).keep → a'.tmps.getD t undef = a.tmps.getD t undef := fun t ht => hf1 t _ (by simp only [fix]; rw [if_pos ht])
 have hfin : ∀ t v, N.fix t = some v → a'.tmps.getD t undef = v := by
  intro t v hv
  by_cases ht : t ∈ (cx.bk κ).keep
  · rw [ha t ht]; exact hr.fix t v hv
  · exact hf1 t v (by simp only [fix]; rw [if_neg ht]; exact hv)
 rw [he]
 refine hk e (afterSt (cx.bk κ).ins ρ (cx.bk κ).keep slots T' ds' s1) a' w' Φ' β' ⟨?_, ⟨k1.hp.ob, k1.hp.lt, k1.hp.hlt, k1.hp.inj, k1.hp.blt, k1.hp.flt, k1.hp.rin, k1.hp.rinj⟩, k1.own, k1.same, k1.fri, k1.fro, h1, hfin, h2, k1.hold, k1.keep, k1.rown⟩ hkk
 intro t v hv
 simp only [afterSt, look_app] at hv
 split at hv
 · rename_i x hx
   cases hv
   exact look_zip (vs := []) k3 t _ hx
 · obtain ⟨g1, g2⟩ := keepEnv_look hv
   rw [ha t g1]
   exact k1.env t v g2
theorem loopU_sound {c : Code} {k : Ex → St → Option R} {r : R} {Q : Exit → Act → World → Prop}
  (hbody : ∀ (k : Ex → St → Option R) (Q : Exit → Act → World → Prop) {w : World} {Φ : Nat → Prop} {β : Loc} {s : St} {a : Act}, Rel w0 Φ0 own0 N w Φ β s a →
    (∀ e s' a' w' Φ' β', Rel w0 Φ0 own0 N w' Φ' β' s' a' → k e s' = some r → Q e.toExit a' w') → ev cx H c s k = some r → c.wp P Q a w)
  (hk : ∀ e s' a' w' Φ' β', Rel w0 Φ0 own0 N w' Φ' β' s' a' → k e s' = some r → Q e.toExit a' w') : ∀ (n : Nat) {w : World} {Φ : Nat → Prop} {β : Loc} {s : St} {a : Act}, Rel w0 Φ0 own0 N w Φ β s a →
  loopU (ev cx H c) n s k = some r → Code.rounds P c Q n a w
 | 0, w, Φ, β, s, a, hr, h => by simp [loopU] at h
 | n + 1, w, Φ, β, s, a, hr, h => by
   simp only [loopU] at h
   rw [rounds_succ]
   refine hbody _ _ hr (fun e s' a' w' Φ' β' hr' h' => ?_) h
   cases e with
   | norm => exact loopU_sound hbody hk n hr' h'
   | out id => exact hk (.out id) s' a' w' Φ' β' hr' h'
   | ret => exact hk .ret s' a' w' Φ' β' hr' h'
def FixOk (N : Frm) (c : Code) : Prop := ∀ t v, N.fix t = some v → Bound [t] N.n c = true
theorem Bound_seq {fx : List Nat} {n : Nat} {x y : Code} (h : Bound fx n (.seq x y) = true) : Bound fx n x = true ∧ Bound fx n y = true := by simpa [Bound] using h
theorem Bound_cond {fx : List Nat} {n : Nat} {o : Operand} {x y : Code} (h : Bound fx n (.cond o x y) = true) : Bound fx n x = true ∧ Bound fx n y = true := by simpa [Bound] using h
theorem enterBlk_sound [hG : GlobR cx.gp w0 Φ0 own0] {κ : Nat} {c : Code} (hb : BlkOk P cx N.n κ c) (hkeep : ∀ t ∈ (cx.bk κ).keep, Bound [t] N.n c = true) (hfx : ∀ t v, N.fix t = some v → Bound [t] N.n c = true) {k : Ex → St → Option R} {r : R} {Q : Exit → Act → World → Prop} (hr : Rel w0 Φ0 own0 N w Φ β s a)
  (hk : ∀ e s' a' w' Φ' β', Rel w0 Φ0 own0 N w' Φ' β' s' a' → k e s' = some r → Q e.toExit a' w') (h : enterBlk cx κ s k = some r) : c.wp P Q a w :=
 enterBlk_run (run := fun Q a w => c.wp P Q a w) (fun hq _ _ g => wp_mono g hq) hb hkeep hfx hr hk h
end
end Go.Bm
