import Derived.Test.YtlobhcgbmpcdlaaGreatDoorBmStep8
import Derived.Laws.BytesArg
import Derived.Lib.ConvBytes
import Derived.MapKept
section
namespace Go.Bm
set_option linter.unusedVariables false
set_option linter.unusedSimpArgs false
section
variable {P : Program} {R : Type} {w0 : World} {Φ0 own0 : Nat → Prop} {N : Frm} {w : World} {Φ : Nat → Prop} {β : Loc} {s : St} {a : Act}
variable {cx : Cx} {o : Oper} {next : Act → World → Prop} {Q : Exit → Act → World → Prop} {k : St → Option R} {r : R}
theorem step_clear (hcx : CxOk P cx) (hr : Rel w0 Φ0 own0 N w Φ β s a) (hN : ∀ d, o.dst = some d → N.ok d) (hk : ∀ s' a' w' Φ' β', Rel w0 Φ0 own0 N w' Φ' β' s' a' → k s' = some r → next a' w')
  {c : Call} (ho : o.op = .call c) (hc : c.callee = .builtin .clear) (h : stepK cx o s k = some r) : o.wp P a w next Q := by
 simp only [stepK, ho, hc] at h
 split at h
 case h_2 => cases h
 split at h
 · cases h
 · cases h
theorem Flat.take {e : CT} {l : List e.denote} {vs : List Value} (h : Flat w Φ e l vs) (n : Nat) : Flat w Φ e (l.take n) (vs.take (min l.length n * e.size)) := by
 refine ⟨?_, fun v hv => h.2.1 v (List.mem_of_mem_take hv), fun i x hx => ?_⟩
 · have : min l.length n * e.size ≤ vs.length := by rw [h.1]; exact Nat.mul_le_mul_right _ (Nat.min_le_left _ _)
   rw [List.length_take, Nat.min_eq_left this, List.length_take, Nat.min_comm n]
 · rw [nth_getElem?, List.getElem?_take] at hx
   split at hx
   case isFalse => cases hx
   rename_i hi
   have hil : i < l.length := (List.getElem?_eq_some_iff.1 hx).1
   have h2 := h.2.2 i x (by rw [nth_getElem?]; exact hx)
   have h3 : (i + 1) * e.size ≤ min l.length n * e.size := Nat.mul_le_mul_right _ (by omega)
   rw [Nat.add_mul] at h3
   rw [List.drop_take, List.take_take, Nat.min_eq_left (by omega)]
   exact h2
theorem step_copy (hcx : CxOk P cx) (hr : Rel w0 Φ0 own0 N w Φ β s a) (hN : ∀ d, o.dst = some d → N.ok d) (hk : ∀ s' a' w' Φ' β', Rel w0 Φ0 own0 N w' Φ' β' s' a' → k s' = some r → next a' w')
  {c : Call} (ho : o.op = .call c) (hc : c.callee = .builtin .copy) (h : stepK cx o s k = some r) : o.wp P a w next Q := by
 simp only [stepK, ho, hc] at h
 split at h
 case h_2 => cases h
 split at h
 case h_2 => cases h
 obtain ⟨_, h⟩ := cond_none h
 split at h
 · cases h
 · cases h
end
section
variable {P : Program} {R : Type} {w0 : World} {Φ0 own0 : Nat → Prop} {N : Frm} {w : World} {Φ : Nat → Prop} {β : Loc} {s : St} {a : Act}
variable {cx : Cx} {o : Oper} {next : Act → World → Prop} {Q : Exit → Act → World → Prop} {k : St → Option R} {r : R}
theorem step_convert (hcx : CxOk P cx) (hr : Rel w0 Φ0 own0 N w Φ β s a) (hN : ∀ d, o.dst = some d → N.ok d) (hk : ∀ s' a' w' Φ' β', Rel w0 Φ0 own0 N w' Φ' β' s' a' → k s' = some r → next a' w')
  {t d : TypeId} {x : Operand} (ho : o.op = .convert t d x) (h : stepK cx o s k = some r) : o.wp P a w next Q := by
 have h0 := h
 simp only [stepK, ho] at h
 split at h
 · rename_i td j z k' n htd hd hx
   exact (pstep_convert hcx hr ho (by simp only [stableOp, ho, hx]) h0).wp hr trivial hN hk
 · rename_i td z b htd hd hx
   obtain ⟨u, hu, _⟩ := (hcx.tab t _ htd).und
   obtain ⟨sx, ex, ex'⟩ := hr.eval hx
   obtain ⟨_, dd, hdd, _, _, hi, _⟩ := hcx.tab d _ hd
   have := hi _ rfl; subst this
   refine alloc_step hN hk h hr (v := .string sx) ?_ ⟨sx, rfl, ex'⟩
   simp only [execOp, ho, ex, Sem.run_bind, convert, run_underlying hu, run_underlying hdd, Result.andThen_ok]
   cases u <;> simp
 · cases h
 · cases h
end
section
variable {P : Program} {R : Type} {w0 : World} {Φ0 own0 : Nat → Prop} {N : Frm} {w : World} {Φ : Nat → Prop} {β : Loc} {s : St} {a : Act} {hp : List (Nat × SObj)}
variable {cx : Cx} {o : Oper} {next : Act → World → Prop} {Q : Exit → Act → World → Prop} {k : St → Option R} {r : R}
theorem step_makeMap (hcx : CxOk P cx) (hr : Rel w0 Φ0 own0 N w Φ β s a) (hN : ∀ d, o.dst = some d → N.ok d) (hk : ∀ s' a' w' Φ' β', Rel w0 Φ0 own0 N w' Φ' β' s' a' → k s' = some r → next a' w')
  {t : TypeId} (ho : o.op = .makeMap t none) (h : stepK cx o s k = some r) : o.wp P a w next Q := by
 simp only [stepK, ho] at h
 split at h
 case h_2 => cases h
 rename_i kt vt agg htd
 by_cases hmk : ∃ e, cx.mkr t = true ∧ vt = .list e ∧ agg = false
 · obtain ⟨e, hm1, rfl, rfl⟩ := hmk
   rw [hm1] at h
   refine alloc_step (v := .map (some w.heap.size)) hN hk h (hr.new (.map #[] 0) (.mrows kt e [] none) 0 ?_ ?_) (by simp [execOp, ho, Instr.makeMap]) ?_
   · rintro c ⟨hs, g, ⟨_, b, es, cl, hb, hc, e1⟩, i, v, hv, _⟩
     simp only [Loc.at, if_true, Option.some.injEq, Prod.mk.injEq] at hb
     obtain ⟨rfl, _⟩ := hb
     rw [(MapKept.heap_alloc w _).1] at hc
     cases hc
     subst e1
     simp at hv
   · exact ⟨w.heap.size, #[], 0, by simp [Loc.at], fun h => absurd (hr.hp.flt _ h) (by omega), (MapKept.heap_alloc w _).1, rfl, ⟨fun e he => by simp at he, by simp⟩, rfl, fun i v r h1 => by simp at h1, fun i j v v' c h1 => by simp at h1⟩
   · exact ⟨w.heap.size, by simp [Loc.at], rfl⟩
 have hmade : madeM (cx.mkr t) kt vt agg = .map kt vt agg [] := by
  cases hmr : cx.mkr t with
  | false => unfold madeM; rfl
  | true => cases vt <;> first | rfl | (cases agg <;> first | rfl | exact absurd ⟨_, hmr, rfl, rfl⟩ hmk)
 rw [hmade] at h
 refine alloc_step (v := .map (some w.heap.size)) hN hk h (hr.new (.map #[] 0) (.map kt vt agg []) 0 (fun _ => RowB_none rfl) ?_) (by simp [execOp, ho, Instr.makeMap]) ?_
 · exact ⟨w.heap.size, #[], 0, by simp [Loc.at], fun h => absurd (hr.hp.flt _ h) (by omega), (MapKept.heap_alloc w _).1, rfl, ⟨fun e he => by simp at he, by simp⟩⟩
 · exact ⟨w.heap.size, by simp [Loc.at], rfl⟩
theorem pstep_lookup (hcx : CxOk P cx) (hr : Rel w0 Φ0 own0 N w Φ β s a) {S : World → Prop} {K : Nat → Prop} (hS : ∀ w', S w' → ∀ b, K b → w'.heap[b]? = w.heap[b]?)
  {t : TypeId} {x i : Operand} {ok : Bool} (ho : o.op = .lookup t x i ok) (hK : ∀ id, evalO s.env x = some (.one (.mp id)) → ∀ b p, β id = some (some (b, p)) → (∃ c v g l, look s.heap id = some (.map c v g l)) → K b)
  (hnt : ∀ id kt e l, evalO s.env x = some (.one (.mp id)) → look s.heap id = some (.mrows kt e l none) → s.held id = true) (h : stepK cx o s k = some r) : PStep P R S w Φ β s a o k r := by
 simp only [stepK, ho] at h
 split at h
 · cases h
 · cases h
end
section
variable {P : Program} {R : Type} {w0 : World} {Φ0 own0 : Nat → Prop} {N : Frm} {w : World} {Φ : Nat → Prop} {β : Loc} {s : St} {a : Act} {hp : List (Nat × SObj)}
variable {cx : Cx} {o : Oper} {next : Act → World → Prop} {Q : Exit → Act → World → Prop} {k : St → Option R} {r : R}
theorem step_len (hcx : CxOk P cx) (hr : Rel w0 Φ0 own0 N w Φ β s a) (hN : ∀ d, o.dst = some d → N.ok d) (hk : ∀ s' a' w' Φ' β', Rel w0 Φ0 own0 N w' Φ' β' s' a' → k s' = some r → next a' w')
  {c : Call} (ho : o.op = .call c) (hc : c.callee = .builtin .len) (h : stepK cx o s k = some r) : o.wp P a w next Q := by
 by_cases hnm : ∀ x id, c.args.toList = [x] → evalO s.env x ≠ some (.one (.mp id))
 · exact (pstep_len hcx hr ho hc hnm h).wp hr trivial hN hk
 · have hnm2 : ∃ x id, c.args.toList = [x] ∧ evalO s.env x = some (.one (.mp id)) := by
    refine Classical.byContradiction fun hx => hnm fun x id h1 h2 => hx ⟨x, id, h1, h2⟩
   obtain ⟨x0, id, hx0, he⟩ := hnm2
   simp only [stepK, ho, hc] at h
   split at h
   case h_2 => cases h
   rename_i x t ts hargs hty
   rw [hx0] at hargs
   cases hargs
   rw [he] at h
   split at h
   case h_2 => cases h
   rename_i td v htd hv
   cases hv
   have hargs' : c.args = #[x0] := by rw [← Array.toList_inj]; simpa using hx0
   have ht : c.argTypes[0]? = some t := by rw [← Array.getElem?_toList, hty]; rfl
   have h1 := hr.eval he
   obtain ⟨b', hb', hxv⟩ := h1
   simp only [lenMpK] at h
   have : lenOf td s (.mp id) = none := by
    cases td with
    | leaf z => cases z <;> rfl
    | _ => rfl
   rw [this] at h
   cases h
theorem step_delete (hcx : CxOk P cx) (hr : Rel w0 Φ0 own0 N w Φ β s a) (hN : ∀ d, o.dst = some d → N.ok d) (hk : ∀ s' a' w' Φ' β', Rel w0 Φ0 own0 N w' Φ' β' s' a' → k s' = some r → next a' w')
  {c : Call} (ho : o.op = .call c) (hc : c.callee = .builtin .delete) (h : stepK cx o s k = some r) : o.wp P a w next Q := by
 simp only [stepK, ho, hc] at h
 split at h
 case h_2 => cases h
 split at h
 · cases h
 · cases h
end
section
variable {P : Program} {R : Type} {w0 : World} {Φ0 own0 : Nat → Prop} {N : Frm} {w : World} {Φ : Nat → Prop} {β : Loc} {s : St} {a : Act} {hp : List (Nat × SObj)}
variable {cx : Cx} {o : Oper} {next : Act → World → Prop} {Q : Exit → Act → World → Prop} {k : St → Option R} {r : R}
theorem step_load (hcx : CxOk P cx) (hr : Rel w0 Φ0 own0 N w Φ β s a) (hN : ∀ d, o.dst = some d → N.ok d) (hk : ∀ s' a' w' Φ' β', Rel w0 Φ0 own0 N w' Φ' β' s' a' → k s' = some r → next a' w')
  {t : TypeId} {x : Operand} (ho : o.op = .load t x) (hg : GvR cx.gv w Φ) (h : stepK cx o s k = some r) : o.wp P a w next Q := by
 simp only [stepK, ho] at h
 split at h
 · rename_i u hu
   split at h
   case h_2 => cases h
   rename_i td htd
   exact step_loadK hcx hr hN hk ho htd (gOp_sound hg hu) h
 split at h
 case h_2 => cases h
 rename_i td u htd hx
 exact step_loadK hcx hr hN hk ho htd (hr.eval hx) h
theorem step_store (hcx : CxOk P cx) (hr : Rel w0 Φ0 own0 N w Φ β s a) (hN : ∀ d, o.dst = some d → N.ok d) (hk : ∀ s' a' w' Φ' β', Rel w0 Φ0 own0 N w' Φ' β' s' a' → k s' = some r → next a' w')
  {t : TypeId} {x y : Operand} (ho : o.op = .store t x y) (h : stepK cx o s k = some r) : o.wp P a w next Q := by
 simp only [stepK, ho] at h
 split at h
 case h_2 => cases h
 rename_i td v u htd hx hy
 exact step_storeK hcx hr hN hk ho htd hx hy h
theorem step_lookup (hcx : CxOk P cx) (hr : Rel w0 Φ0 own0 N w Φ β s a) (hN : ∀ d, o.dst = some d → N.ok d) (hk : ∀ s' a' w' Φ' β', Rel w0 Φ0 own0 N w' Φ' β' s' a' → k s' = some r → next a' w')
  {t : TypeId} {x i : Operand} {ok : Bool} (ho : o.op = .lookup t x i ok) (h : stepK cx o s k = some r) : o.wp P a w next Q := by
 simp only [stepK, ho] at h
 split at h
 · cases h
 · cases h
theorem step_mapUpdate (hcx : CxOk P cx) (hr : Rel w0 Φ0 own0 N w Φ β s a) (hN : ∀ d, o.dst = some d → N.ok d) (hk : ∀ s' a' w' Φ' β', Rel w0 Φ0 own0 N w' Φ' β' s' a' → k s' = some r → next a' w')
  {t : TypeId} {x i y : Operand} (ho : o.op = .mapUpdate t x i y ∨ o.op = .insert t x i y) (h : stepK cx o s k = some r) : o.wp P a w next Q := by
 rcases ho with ho | ho
 · simp only [stepK, ho] at h
   split at h
   · cases h
   · cases h
 · simp only [stepK, ho] at h
   split at h
   · cases h
   · cases h
theorem pstep_makeIface (hcx : CxOk P cx) (hr : Rel w0 Φ0 own0 N w Φ β s a) {t : TypeId} {x : Operand} (ho : o.op = .makeInterface t x) (h : stepK cx o s k = some r) : PStep P R (fun _ => True) w Φ β s a o k r := by
 simp only [stepK, ho] at h
 split at h
 · rename_i j z j' n htd hx
   have hv := hr.eval hx
   obtain ⟨_, d, hd, _, hi, _⟩ := hcx.tab t _ htd
   have hd' := hi _ _ rfl
   subst hd'
   refine pstep h (v := .iface t (a.eval x)) (fun w _ => by simp [execOp, ho, Instr.makeInterface, run_underlying hd]) ?_
   have hv' : a.eval x = .int j' n := hv
   rw [hv']; rfl
 · rename_i id off htd hx
   obtain ⟨b, hb, hv⟩ := hr.eval hx
   obtain ⟨_, d, hd, _, _, _, _, hp⟩ := hcx.tab t _ htd
   refine pstep h (v := .iface t (a.eval x)) (fun w _ => ?_) ⟨b, hb, by rw [hv]⟩
   have := hp rfl
   simp only [execOp, ho, Instr.makeInterface, Sem.run_bind, run_underlying hd, Result.andThen_ok]
   cases d <;> first | rfl | exact absurd rfl (this _)
 · cases h
theorem pstep_assert (hcx : CxOk P cx) (hr : Rel w0 Φ0 own0 N w Φ β s a) {t t2 : TypeId} {x : Operand} (ho : o.op = .typeAssert x t2 t false) (h : stepK cx o s k = some r) : PStep P R (fun _ => True) w Φ β s a o k r := by
 simp only [stepK, ho] at h
 split at h
 · rename_i j z t' j' n htd hx
   have hv : a.eval x = .iface t' (.int j' n) := hr.eval hx
   obtain ⟨_, d, hd, _, hi, _⟩ := hcx.tab t _ htd
   have hd' := hi _ _ rfl
   subst hd'
   obtain ⟨hc, h2⟩ := cond_none h
   have ht := Nat.eq_of_beq_eq_true hc
   subst ht
   exact pstep h2 (v := .int j' n) (fun w _ => by simp [execOp, ho, Instr.typeAssert, run_underlying hd, hv]) rfl
 · cases h
end
end Go.Bm
end
