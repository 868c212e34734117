import Derived.Test.YtlobhcgbmpcdlaaGreatDoorBmSet
import Derived.Laws.Append
import Derived.Laws.Cells
import Derived.Laws.MakeOwn
namespace Go.Bm
set_option linter.unusedVariables false
def CoR : Leaf → Value → Prop
 | .int k x, v => v = .int k x
 | .bool b, v => v = .bool b
 | .str x, v => ∃ s : ByteArray, v = .string s ∧ s.data.toList = x
 | .nils, v => v = .slice none 0 0
 | .nilp, v => v = .pointer none
 | .nilf, v => v = .nilFunc
 | .nili, v => v = .nilIface
 | .nilm, v => v = .map none
 | .undef, _ => True
 | _, _ => False
def CoRs : List Leaf → List Value → Prop
 | [], vs => vs = []
 | l :: ls, vs => ∃ v vs', vs = v :: vs' ∧ CoR l v ∧ CoRs ls vs'
def isAggD : TypeDesc → Bool
 | .struct _ | .array _ _ => true
 | _ => false
def fieldOf (P : Program) (f : Field) : Option (Nat × Nat × Bool) :=
 match P.info? f.type, P.underlying f.type with
 | some i, some d => some (f.offset, i.size, isAggD d)
 | _, _ => none
def zeroAt (P : Program) (t : TypeId) (zs : List Leaf) : Prop :=
 ∃ i z, P.info? t = some i ∧ i.size = zs.length ∧ i.zero = some z ∧ CoRs zs z.cells.toList
def keyD : CT → TypeDesc → Prop
 | .int k, d => d = .int k
 | .bool, d => d = .bool
 | .str, d => d = .string
 | _, _ => False
def TdOk (P : Program) (t : TypeId) : TD → Prop
 | .leaf z => zeroAt P t [z] ∧ ∃ d, P.underlying t = some d ∧ isAggD d = false ∧ (∀ k x, z = .int k x → d = .int k) ∧ (∀ x, z = .str x → d = .string) ∧ (∀ x, z = .bool x → d = .bool) ∧ (z = .nilp → ∀ ms, d ≠ .interface ms)
 | .struct fs zs => zeroAt P t zs ∧ ∃ fields, P.underlying t = some (.struct fields) ∧ fields.toList.map (fieldOf P) = fs.map some ∧ ∀ f ∈ fs, f.2.1 ≠ 0
 | .slice e en => zeroAt P t [.nils] ∧ P.underlying t = some (.slice en) ∧
    ∃ i z, P.info? en = some i ∧ i.zero = some z ∧ i.bytes ≤ 512 ∧ (e = .unit → i.size = 1) ∧ (e ≠ .unit → i.size = e.size ∧ e.wf = true ∧ 0 < e.size ∧ CoRs (zerosOf e) z.cells.toList ∧ z.cells.size = e.size)
 | .arr e n agg zs => zeroAt P t zs ∧ zs.length = n * e.size ∧ 0 < e.size ∧ ∃ en, P.underlying t = some (.array n en) ∧ (∃ d, P.underlying en = some d ∧ isAggD d = agg) ∧ ∃ i, P.info? en = some i ∧ i.size = e.size
 | .map k v agg => zeroAt P t [.nilm] ∧ ∃ kt et, P.underlying t = some (.map kt et) ∧ (∃ d, P.underlying kt = some d ∧ keyD k d) ∧
    ∃ i z, P.info? et = some i ∧ i.zero = some z ∧ v.wf = true ∧ CoRs (zerosOf v) z.cells.toList ∧ z = valOf agg z.cells.toList ∧ (agg = false → v.size = 1)
def TabOk (P : Program) (tab : Nat → Option TD) : Prop := ∀ t td, tab t = some td → TdOk P t td
section
variable {P : Program} {w : World}
theorem TdOk.zero {t : TypeId} {td : TD} (h : TdOk P t td) : zeroAt P t td.zeros := by
 cases td with
 | leaf z => exact h.1
 | struct fs zs => exact h.1
 | slice e en => exact h.1
 | arr e n agg zs => exact h.1
 | map k v agg => exact h.1
theorem TdOk.und {t : TypeId} {td : TD} (h : TdOk P t td) : ∃ d, P.underlying t = some d ∧ isAggD d = td.agg := by
 cases td with
 | leaf z => obtain ⟨_, d, h1, h2, _⟩ := h; exact ⟨d, h1, h2⟩
 | struct fs zs => obtain ⟨_, f, h1, _⟩ := h; exact ⟨_, h1, rfl⟩
 | slice e en => exact ⟨_, h.2.1, rfl⟩
 | arr e n agg zs => obtain ⟨_, _, _, en, h1, _⟩ := h; exact ⟨_, h1, rfl⟩
 | map k v agg => obtain ⟨_, kt, et, h1, _⟩ := h; exact ⟨_, h1, rfl⟩
theorem TD.size_zeros (td : TD) : td.zeros.length = td.size := by cases td <;> rfl
theorem run_info {t : TypeId} {i : TypeInfo} (h : P.info? t = some i) : (typeInfo t).run P w = .ok i w := by
 simp [typeInfo, h]
theorem TdOk.run_size {t : TypeId} {td : TD} (h : TdOk P t td) : (sizeOf t).run P w = .ok td.size w := by
 obtain ⟨i, z, hi, hs, _⟩ := h.zero
 simp [sizeOf, run_info hi, hs, TD.size_zeros]
theorem TdOk.run_zero {t : TypeId} {td : TD} (h : TdOk P t td) : ∃ z, (zeroValue t).run P w = .ok z w ∧ CoRs td.zeros z.cells.toList := by
 obtain ⟨i, z, hi, hs, hz, hc⟩ := h.zero
 exact ⟨z, by simp [zeroValue, run_info hi, hz], hc⟩
theorem TdOk.run_agg {t : TypeId} {td : TD} (h : TdOk P t td) : (isAgg t).run P w = .ok td.agg w := by
 obtain ⟨d, hd, ha⟩ := h.und
 rw [← ha]
 simp [isAgg, run_underlying hd]
 cases d <;> rfl
theorem Addr.add0 (b o j : Nat) : (⟨b, o, none⟩ : Addr).add j = ⟨b, o + j, none⟩ := by
 unfold Addr.add; split <;> simp_all
theorem cellsAt_get : ∀ (vs : List Value) (o : Nat) (b : Nat), cellsAt w b o vs → ∀ j v, vs[j]? = some v → w.cell? ⟨b, o + j, none⟩ = some v
 | [], _, _, _, j, v, h => by simp at h
 | x :: vs, o, b, ⟨h1, h2⟩, 0, v, h => by simp at h; subst h; exact h1
 | x :: vs, o, b, ⟨h1, h2⟩, j + 1, v, h => by
   have := cellsAt_get vs (o + 1) b h2 j v (by simpa using h)
   rwa [show o + 1 + j = o + (j + 1) by omega] at this
theorem cellsAt_of : ∀ (vs : List Value) (o : Nat) (b : Nat), (∀ j v, vs[j]? = some v → w.cell? ⟨b, o + j, none⟩ = some v) → cellsAt w b o vs
 | [], _, _, _ => trivial
 | x :: vs, o, b, h => ⟨by simpa using h 0 x (by simp), cellsAt_of vs (o + 1) b fun j v hj => by
    have := h (j + 1) v (by simpa using hj)
    rwa [show o + (j + 1) = o + 1 + j by omega] at this⟩
theorem run_loadCells_at {b o : Nat} {vs : List Value} (h : cellsAt w b o vs) : (loadCells ⟨b, o, none⟩ vs.length).run P w = .ok vs.toArray w :=
 run_loadCells_list (P := P) w ⟨b, o, none⟩ vs fun j v hv => by rw [Addr.add0]; exact cellsAt_get vs o b h j v hv
theorem run_loadVar {t : TypeId} {td : TD} (h : TdOk P t td) {b o : Nat} {vs : List Value} (hc : cellsAt w b o vs) (hl : vs.length = td.size) :
  (loadVar t ⟨b, o, none⟩).run P w = .ok (valOf td.agg vs) w := by
 cases ha : td.agg with
 | true =>
   have := run_loadCells_at (P := P) hc
   rw [hl] at this
   simp [loadVar, h.run_agg, ha, h.run_size, this, valOf]
 | false =>
   have h1 : td.size = 1 := by cases td <;> first | rfl | cases ha
   rw [h1] at hl
   match vs, hl, hc with
   | [v], _, ⟨h2, _⟩ => simp [loadVar, h.run_agg, ha, h2, valOf]
structure Wrote (w w' : World) (b o : Nat) (vs : List Value) : Prop where
 os : w'.os = w.os
 tape : w'.tape = w.tape
 output : w'.output = w.output
 size : w'.heap.size = w.heap.size
 other : ∀ k, k ≠ b → w'.heap[k]? = w.heap[k]?
 fz : Fz w b → Fz w' b
 bs : blockSize w' b = blockSize w b
 cell : ∀ j, w'.cell? ⟨b, j, none⟩ = if o ≤ j ∧ j < o + vs.length then vs[j - o]? else w.cell? ⟨b, j, none⟩
theorem Wrote.nil (w : World) (b o : Nat) : Wrote w w b o [] := ⟨rfl, rfl, rfl, rfl, fun _ _ => rfl, fun h => h, rfl, fun j => by rw [if_neg (by simp)]⟩
theorem blockSize_setCell (w : World) (a : Addr) (v : Value) (b : Nat) : blockSize (w.setCell a v) b = blockSize w b := by
 unfold blockSize World.setCell
 simp only [Array.getElem?_modify]
 by_cases h : a.block = b
 · simp only [h, if_true]
   cases w.heap[b]? with
   | none => rfl
   | some o => cases o <;> simp <;> (try split) <;> simp
 · simp [h]
theorem Fz.setCell {w : World} {b : Nat} (h : Fz w b) (a : Addr) (v : Value) : Fz (w.setCell a v) b := by
 intro c t f hc
 unfold World.setCell at hc
 simp only [Array.getElem?_modify] at hc
 by_cases e : a.block = b
 · simp only [e, if_true] at hc
   cases hb : w.heap[b]? with
   | none => simp [hb] at hc
   | some ob =>
     rw [hb] at hc
     cases ob with
     | cells c0 t0 f0 =>
       have h0 := h c0 t0 f0 hb
       simp only [Option.map_some, Option.some.injEq] at hc
       split at hc
       all_goals first
        | (cases hc; simpa using h0)
        | (simp only [Obj.cells.injEq] at hc; obtain ⟨rfl, rfl, rfl⟩ := hc; simpa using h0)
     | _ => simp at hc
 · simp only [e, if_false] at hc
   exact h c t f hc
theorem run_storeCells : ∀ (vs : List Value) (b o i : Nat) (w : World), (∀ v ∈ vs, v.oneCell' = true) → (∀ j, j < vs.length → (w.cell? ⟨b, o + i + j, none⟩).isSome = true) → Fz w b →
  ∃ w', (storeCells ⟨b, o, none⟩ vs i).run P w = .ok () w' ∧ Wrote w w' b (o + i) vs
 | [], b, o, i, w, _, _, _ => ⟨w, by simp [storeCells], Wrote.nil w b _⟩
 | v :: vs, b, o, i, w, h1, h2, h3 => by
   have hc := h2 0 (by simp)
   simp only [Nat.add_zero] at hc
   obtain ⟨u, hu⟩ := Option.isSome_iff_exists.1 hc
   have hst : (store ((⟨b, o, none⟩ : Addr).add i) v).run P w = .ok () (w.setCell ⟨b, o + i, none⟩ v) := by
    rw [run_store P w _ v .plain (h1 v (by simp)), Addr.add0, hu]
    simp [h3.no hu]
   have hcell : ∀ j, (w.setCell ⟨b, o + i, none⟩ v).cell? ⟨b, j, none⟩ = if j = o + i then some v else w.cell? ⟨b, j, none⟩ := by
    intro j
    by_cases hj : j = o + i
    · subst hj; rw [if_pos rfl]; exact World.cell?_setCell_same w ⟨b, o + i, none⟩ v hu
    · rw [if_neg hj]; exact World.cell?_setCell_other w ⟨b, o + i, none⟩ ⟨b, j, none⟩ v (by intro e; cases e; exact hj rfl)
   obtain ⟨w', hr, hw⟩ := run_storeCells vs b o (i + 1) (w.setCell ⟨b, o + i, none⟩ v) (fun u hu => h1 u (List.mem_cons_of_mem _ hu))
    (fun j hj => by
      have := h2 (j + 1) (by simp; omega)
      rw [hcell]
      split
      · rfl
      · rwa [show o + i + (j + 1) = o + (i + 1) + j by omega] at this)
    (h3.setCell _ _)
   refine ⟨w', by simp [storeCells, hst, hr], ?_⟩
   refine ⟨hw.os, hw.tape, hw.output, by rw [hw.size]; simp, fun k hk => ?_, ?_, ?_, fun j => ?_⟩
   · rw [hw.other k hk]; simp only [World.setCell, Array.getElem?_modify]; rw [if_neg (fun e => hk e.symm)]
   · exact fun hf => hw.fz (hf.setCell _ _)
   · rw [hw.bs, blockSize_setCell]
   · rw [hw.cell j, hcell]
     by_cases h : o + (i + 1) ≤ j ∧ j < o + (i + 1) + vs.length
     · rw [if_pos h, if_pos (by simp; omega)]
       obtain ⟨k, rfl⟩ : ∃ k, j = o + i + 1 + k := ⟨j - (o + i + 1), by omega⟩
       simp [show o + i + 1 + k - (o + (i + 1)) = k by omega, show o + i + 1 + k - (o + i) = k + 1 by omega]
     · rw [if_neg h]
       by_cases hj : j = o + i
       · rw [if_pos hj, if_pos (by simp; omega)]; subst hj; simp
       · rw [if_neg hj, if_neg (by simp; omega)]
theorem run_storeVar {t : TypeId} {td : TD} (h : TdOk P t td) {b o : Nat} {v : Value} (hl : v.cells.size = td.size) (h1 : ∀ u ∈ v.cells.toList, u.oneCell' = true)
  (h2 : ∀ j, j < v.cells.size → (w.cell? ⟨b, o + j, none⟩).isSome = true) (h3 : Fz w b) :
  ∃ w', (storeVar t ⟨b, o, none⟩ v).run P w = .ok () w' ∧ Wrote w w' b o v.cells.toList := by
 obtain ⟨w', hr, hw⟩ := run_storeCells (P := P) v.cells.toList b o 0 w h1 (fun j hj => by simpa using h2 j (by simpa using hj)) h3
 refine ⟨w', ?_, by simpa using hw⟩
 simp [storeVar, h.run_size, hl, hr]
theorem run_newVar (t : TypeId) (v : Value) : (newVar t v).run P w = .ok ⟨w.heap.size, 0, none⟩ (w.alloc (.cells v.cells t)) := by
 simp [newVar, newRow]
theorem Wrote.same {w0 : World} {own0 : Nat → Prop} {w' : World} {b o : Nat} {vs : List Value} (h : Same w0 own0 w) (hw : Wrote w w' b o vs) (hb : own0 b ∨ w0.heap.size ≤ b) : Same w0 own0 w' :=
 ⟨hw.os.trans h.os, hw.tape.trans h.tape, hw.output.trans h.output, by rw [hw.size]; exact h.size, fun k hk hn => by
  rw [hw.other k (fun e => by subst e; rcases hb with hb | hb; exact hn hb; omega)]; exact h.block k hk hn⟩
end
end Go.Bm
