/-
  OUR OWN: from a run of the interpreter's table to what a law's row asks: the law returns true, and each argument reads as it did.
-/
import Derived.Test.YtjphmcfifncgnaaBmFuel
import Derived.ProofKit
import Derived.Carry
namespace Go.Bm
open Go.ChangeShapes Go.WideShapes Go.ChangeAt Go.RowKit
set_option linter.unusedVariables false
set_option linter.unusedSimpArgs false

section
variable {H : Type} {enc : TypeId × Value → H} {P : Program} {W W' : World}

theorem Same.below {own : Nat → Prop} (h : Same W own W') (ho : ∀ b, ¬ own b) : Below W.heap.size W W' :=
  ⟨h.os, h.tape, h.output, h.size, fun b hb => h.block b hb (ho b)⟩

theorem trodAll_below (hl : laidOutB P = true) (hb : Below W.heap.size W W') : ∀ {ts : List TypeId} {vs : List Value} {ds : List (DataW H)} {ps : List MemPlace}, (ts.all fun t => P.readableRec t && Nat.blt t P.types.size) = true →
    DataW.TrodAll enc P W 0 (fun _ => true) true ts vs ds ps → (∀ x ∈ ps, x.block < W.heap.size) → DataW.TrodAll enc P W' 0 (fun b => decide (b < W.heap.size)) true ts vs ds ps
  | [], [], [], ps, _, h, _ => h
  | [], [], _ :: _, ps, _, h, _ => h.elim
  | t :: ts, v :: vs, d :: ds, ps, hr, h, hlt => by
    simp only [List.all_cons, Bool.and_eq_true] at hr
    obtain ⟨p, q, h1, h2, rfl⟩ := h
    exact ⟨p, q, Below.trod hl hr.1.1 (by rw [← Nat.blt_eq]; exact hr.1.2) h1 hb (fun x hx => hlt x (List.mem_append_left _ hx)), trodAll_below hl hb hr.2 h2 (fun x hx => hlt x (List.mem_append_right _ hx)), rfl⟩
  | [], _ :: _, ds, ps, _, h, _ => h.elim
  | _ :: _, [], ds, ps, _, h, _ => h.elim
  | _ :: _, _ :: _, [], ps, _, h, _ => h.elim

theorem post_true {f : Func} {s : ChangeSpec} {args : Array Value} {ds gs : List (DataW H)} {before : List MemPlace} {tb : TypeId} (hl : laidOutB P = true)
    (hr : (f.params.toList.all fun t => P.readableRec t && Nat.blt t P.types.size) = true) (hrt : f.resultTypes.toList = [tb]) (htb : P.underlying tb = some .bool) (hv : s.vars = [])
    (hW : DataW.Whole enc P f.params.toList s.vars false W args.toList ds gs before)
    (hfn : s.fn H (ds ++ gs) = { results := [.lit (.bool true)], args := ds }) {own : Nat → Prop} (hs : Same W own W') (ho : ∀ b, ¬ own b) :
    s.post enc P f false true false false W args (.bool true) W' := by
  have hlt : ∀ p ∈ before, p.block < W.heap.size := fun p hp => by simpa using hW.lt p hp
  have hW' := hW
  obtain ⟨p, q, hA, hV, rfl, hfz, hnd⟩ := hW
  rw [hv] at hV
  obtain ⟨hg, hq⟩ := trodVars_none hV
  subst hq
  simp only [List.append_nil] at hlt
  have hbel := hs.below ho
  have hrl : f.resultTypes.size = 1 := by rw [← Array.length_toList, hrt]; rfl
  refine ⟨ds, gs, _, [], p, [], hW', ?_, ?_, ?_, ?_, fun h => by cases h⟩
  · rw [hfn, hrt, hrl]
    exact trodAll_mk1 ⟨1, by simp [DataW.trod, Value.cells, htb]⟩
  · rw [hfn]
    exact trodAll_below hl hbel hr hA hlt
  · rw [hfn, hv]
    rfl
  · refine ⟨hbel.os, hbel.output, fun i hi => ?_⟩
    rw [hbel.block i hi]
    cases W.heap[i]? with
    | none => trivial
    | some o => cases o <;> simp

theorem ret_true {Φ' : Nat → Prop} {rs : List Value} {bs' : List Nat} (hl : rs.length = 1) (h : ShVs W' Φ' (rs ++ []) [.c (.pl .bool)] true (rs ++ []) bs') : retVal rs = .bool true := by
  obtain ⟨v, vs', b1, b2, e, _, h1, h2⟩ := h
  match rs, hl with
  | [u], _ =>
    simp only [List.cons_append, List.nil_append, List.cons.injEq] at e
    obtain ⟨rfl, _⟩ := e
    have h3 := h1.1
    simp only [VC, headD] at h3
    cases h3
    rfl

end
/-- A piece's own check. -/
def blkOkB (T : Tbl) (κ : Nat) : Bool := match T.place κ with
  | some (f, p) => match T.fn f with
    | some fn => match fn.body with
      | some c => match cut p c with
        | some c' => blkB T f fn p c'
        | none => true
      | none => true
    | none => true
  | none => true

theorem Tbl.ok_blk {T : Tbl} (n : Nat) (h0 : ∀ κ, n ≤ κ → T.place κ = none) (h : (List.range n).all (blkOkB T) = true) :
    ∀ κ f p fn c c', T.place κ = some (f, p) → T.fn f = some fn → fn.body = some c → cut p c = some c' → blkB T f fn p c' = true := by
  intro κ f p fn c c' h1 h2 h3 h4
  by_cases hκ : n ≤ κ
  · rw [h0 κ hκ] at h1; cases h1
  · have := List.all_eq_true.1 h κ (List.mem_range.2 (by omega))
    simpa only [blkOkB, h1, h2, h3, h4] using this

/-- A function's own check. -/
def fnOkB (T : Tbl) (f : Nat) (fn : Func) : Bool := match fn.body with
  | some c => fnB T f fn c && !(fn.name == "runtime.NumGoroutine")
  | none => false

theorem fn_ok {P : Program} {T : Tbl} {f : Nat} {fn : Func} (h1 : P.funcs[f]? = some fn) (h2 : fnOkB T f fn = true) : P.funcs[f]? = some fn ∧ (fn.name == "runtime.NumGoroutine") = false ∧ ∃ c, fn.body = some c ∧ fnB T f fn c = true := by
  unfold fnOkB at h2
  split at h2
  · rename_i c hc
    simp only [Bool.and_eq_true, Bool.not_eq_true'] at h2
    exact ⟨h1, h2.2, c, hc, h2.1⟩
  · cases h2

end Go.Bm
