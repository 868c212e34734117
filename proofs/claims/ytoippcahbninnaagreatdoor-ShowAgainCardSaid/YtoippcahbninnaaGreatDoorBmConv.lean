/-
  OUR OWN: the interpreter's step is sound: numbers turned, texts as bytes, bytes as text.
-/
import Derived.Test.YtoippcahbninnaaGreatDoorBmCopy
import Derived.Laws.BytesArg
import Derived.Lib.ConvBytes
namespace Go.Bm
set_option linter.unusedVariables false
set_option linter.unusedSimpArgs false

theorem heap_freeze (w : World) (a : Addr) (b : Nat) : (w.freeze a 1).heap[b]? = if a.block = b then (w.heap[b]?).map (fun
      | .cells c elem (lo, hi) => .cells c elem (if lo == hi then (a.off, a.off + 1) else (min lo a.off, max hi (a.off + 1)))
      | o => o) else w.heap[b]? := by
  unfold World.freeze
  rw [if_neg (by decide)]
  simp only [Array.getElem?_modify]
  rfl

/-- A mark behind a block's cells. -/
theorem Wrote.mark (w : World) (b n : Nat) (hs : ∃ c t f, w.heap[b]? = some (.cells c t f) ∧ c.size = n) (o : Nat) : Wrote w (w.freeze ⟨b, n, none⟩ 1) b o [] := by
  obtain ⟨c, t, ⟨lo, hi⟩, hb, hn⟩ := hs
  have hb' : (w.freeze ⟨b, n, none⟩ 1).heap[b]? = some (.cells c t (if lo == hi then (n, n + 1) else (min lo n, max hi (n + 1)))) := by
    rw [heap_freeze, if_pos rfl, hb]; rfl
  refine ⟨rfl, rfl, rfl, ?_, fun k hk => ?_, fun hf => ?_, ?_, fun j => ?_⟩
  · unfold World.freeze; rw [if_neg (by decide)]; simp
  · rw [heap_freeze, if_neg (fun e => hk e.symm)]
  · intro c' t' f' hc
    rw [hb'] at hc
    have h0 := hf c t (lo, hi) hb
    simp only [Option.some.injEq, Obj.cells.injEq] at hc
    obtain ⟨rfl, rfl, rfl⟩ := hc
    right
    by_cases e : lo = hi
    · rw [if_pos (by simpa using e)]; exact Nat.le_of_eq hn
    · rw [if_neg (by simpa using e)]
      show c.size ≤ min lo n
      simp only at h0
      omega
  · unfold blockSize; rw [hb', hb]
  · rw [if_neg (by simp)]
    unfold World.cell?
    rw [hb', hb]

section
variable {P : Program} {R : Type} {w0 : World} {Φ0 own0 : Nat → Prop} {N : Frm} {w : World} {Φ : Nat → Prop} {β : Loc} {s : St} {a : Act}
variable {cx : Cx} {o : Oper} {next : Act → World → Prop} {Q : Exit → Act → World → Prop} {k : St → Option R} {r : R}

theorem byteT_ok (hcx : CxOk P cx) {en : Nat} (h : byteT cx.tab en = true) : P.underlying en = some (.int .u8) := by
  unfold byteT at h
  split at h
  · rename_i x htd
    obtain ⟨_, dd, hdd, _, hi, _⟩ := hcx.tab en _ htd
    rw [hdd, hi _ _ rfl]
  · cases h

theorem bytesWorld_eq (w : World) (e : TypeId) (s : ByteArray) : Go.Lib.bytesWorld w e s = w.drew.alloc (.cells (Go.Lib.bytesCells w e s) e ((Go.Lib.bytesCells w e s).size, (Go.Lib.bytesCells w e s).size + 1)) := by
  unfold Go.Lib.bytesWorld World.freeze
  rw [if_neg (by decide)]
  show ({ (w.drew.alloc _) with heap := _ } : World) = _
  have : (w.drew.alloc (.cells (Go.Lib.bytesCells w e s) e)).heap.modify w.heap.size (fun
      | .cells c elem (lo, hi) => .cells c elem (if lo == hi then ((Go.Lib.bytesCells w e s).size, (Go.Lib.bytesCells w e s).size + 1) else (min lo (Go.Lib.bytesCells w e s).size, max hi ((Go.Lib.bytesCells w e s).size + 1)))
      | o => o) = (w.drew.alloc (.cells (Go.Lib.bytesCells w e s) e ((Go.Lib.bytesCells w e s).size, (Go.Lib.bytesCells w e s).size + 1))).heap := by
    refine Array.ext_getElem? fun i => ?_
    rw [Array.getElem?_modify]
    show (if w.heap.size = i then ((w.heap.push _)[i]?).map _ else (w.heap.push _)[i]?) = (w.heap.push _)[i]?
    rw [Array.getElem?_push, Array.getElem?_push]
    by_cases hi : i = w.heap.size
    · subst hi; rw [if_pos rfl, if_pos rfl, if_pos rfl]; rfl
    · rw [if_neg (fun e => hi e.symm), if_neg hi, if_neg hi]
  exact congrArg (fun hp => ({ (w.drew.alloc (.cells (Go.Lib.bytesCells w e s) e)) with heap := hp } : World)) this

/-- A new row of bytes, with a mark behind it. -/
theorem Rel.newBytes (hr : Rel w0 Φ0 own0 N w Φ β s a) {l : List Int} {cs : Array Value} (t : TypeId) (f : Nat × Nat) (hf : cs.size ≤ f.1)
    (hrow : ∀ (i : Nat) (x : Int), nth l i = some x → cs[i]? = some (.int .u8 x)) (hle : l.length ≤ cs.size) :
    Rel w0 Φ0 own0 N (w.alloc (.cells cs t f)) Φ (β.at s.next (some (w.heap.size, 0))) (s.new (.arr (.int .u8) l)) a ∧
      LfR (w.alloc (.cells cs t f)) Φ (β.at s.next (some (w.heap.size, 0))) (s.new (.arr (.int .u8) l)).heap (.sl s.next none) (.slice (some ⟨w.heap.size, 0, none⟩) l.length cs.size) := by
  have hnew := heap_alloc_new w (.cells cs t f)
  refine ⟨hr.new _ _ 0 (fun _ => RowB_none rfl) (.inr ⟨w.heap.size, 0, by simp [Loc.at], fun h => absurd (hr.hp.flt _ h) (by omega), fun c t' f' hc => ?_, fun i x hx => ?_⟩), some (w.heap.size, 0), by simp [Loc.at], ⟨_, _, _, rfl⟩, ?_⟩
  · rw [hnew] at hc; cases hc; exact .inr hf
  · refine ⟨[.int .u8 x], ⟨?_, trivial⟩, rfl⟩
    have := hrow i x hx
    unfold World.cell?
    rw [hnew]
    simpa [CT.size] using this
  · intro sz n hrw
    simp only [St.new, look_cons, if_true, rowOf] at hrw
    cases hrw
    have hbs : blockSize (w.alloc (.cells cs t f)) w.heap.size = cs.size := by unfold blockSize; rw [hnew]
    exact ⟨0, cs.size, rfl, hle, .inl (by simp), by simp, by rw [hbs]; left; simp [CT.size], fun _ => ⟨rfl, by rw [hbs]; simp [CT.size], by decide⟩⟩

theorem step_convert (hcx : CxOk P cx) (hr : Rel w0 Φ0 own0 N w Φ β s a) (hN : ∀ d, o.dst = some d → N.ok d) (hk : ∀ s' a' w' Φ' β', Rel w0 Φ0 own0 N w' Φ' β' s' a' → k s' = some r → next a' w')
    {t d : TypeId} {x : Operand} (ho : o.op = .convert t d x) (h : stepK cx o s k = some r) : o.wp P a w next Q := by
  have h0 := h
  simp only [stepK, ho] at h
  split at h
  · rename_i td j z k' n htd hd hx
    exact (pstep_convert hcx hr ho (by simp only [stableOp, ho, hx]) h0).wp hr trivial hN hk
  · rename_i td z b htd hd hx
    obtain ⟨u, hu, _⟩ := (hcx.tab t _ htd).und
    obtain ⟨sx, ex, ex'⟩ := hr.eval hx
    obtain ⟨_, dd, hdd, _, _, hi, _⟩ := hcx.tab d _ hd
    have := hi _ rfl; subst this
    refine alloc_step hN hk h hr (v := .string sx) ?_ ⟨sx, rfl, ex'⟩
    simp only [execOp, ho, ex, Sem.run_bind, convert, run_underlying hu, run_underlying hdd, Result.andThen_ok]
    cases u <;> simp
  · rename_i td dd v hn1 hn2 htd hd hx
    clear hn1 hn2
    have hv := hr.eval hx
    obtain ⟨u, hu, _⟩ := (hcx.tab t _ htd).und
    unfold convK at h
    split at h
    · -- a text as bytes
      rename_i en str
      obtain ⟨hbt, h⟩ := cond_none h
      have he := byteT_ok hcx hbt
      obtain ⟨_, hd2, _⟩ := hcx.tab d _ hd
      obtain ⟨sx, ex, ex'⟩ := hv
      have hrun := Go.Lib.run_convert_string_bytes (P := P) w t d en sx hu hd2 he
      rw [bytesWorld_eq] at hrun
      have hsz : (Go.Lib.bytesCells w en sx).size = grownCap w sx.size 0 en := by
        have hg := grownCap_ge w sx.size 0 en
        unfold Go.Lib.bytesCells
        have : sx.data.size = sx.size := rfl
        simp only [Array.size_append, Array.size_map, Array.size_replicate]
        omega
      have hlen : (bytesOf str).length = sx.size := by
        rw [bytesOf, List.length_map, ← ex']; exact Array.length_toList
      obtain ⟨g1, g2⟩ := hr.drew.newBytes (l := bytesOf str) (cs := Go.Lib.bytesCells w en sx) en ((Go.Lib.bytesCells w en sx).size, (Go.Lib.bytesCells w en sx).size + 1) (Nat.le_refl _) (fun i y hy => by
        rw [nth_getElem?, bytesOf, List.getElem?_map, ← ex', Array.getElem?_toList] at hy
        cases hq : sx.data[i]? with
        | none => rw [hq] at hy; cases hy
        | some b =>
          rw [hq] at hy
          cases hy
          have hi : i < sx.data.size := (Array.getElem?_eq_some_iff.1 hq).1
          unfold Go.Lib.bytesCells
          rw [Array.getElem?_append, if_pos (by simpa using hi), Array.getElem?_map, hq]; rfl) (by rw [hlen, hsz]; exact grownCap_ge w sx.size 0 en)
      rw [hlen, hsz] at g2
      rw [hsz] at g1 hrun
      refine alloc_step hN hk h g1 ?_ g2
      simp only [execOp, ho, Sem.run_bind]
      rw [show a.eval x = .string sx from ex, hrun]
      simp
    · -- bytes as the same bytes
      rename_i en id
      split at h
      case h_2 => cases h
      rename_i l hl
      replace h := cond_none h
      obtain ⟨hc, h⟩ := h
      simp only [Bool.and_eq_true, Bool.not_eq_true'] at hc
      obtain ⟨hbt, hsame, hpos, hh⟩ := hc
      have htd' := Nat.eq_of_beq_eq_true hsame
      subst htd'
      have he := byteT_ok hcx hbt
      obtain ⟨_, hd2, _⟩ := hcx.tab t _ hd
      rw [Nat.blt_eq] at hpos
      obtain ⟨loc, hb, _, hs⟩ := hv
      have hsl := hs _ _ (by rw [hl]; rfl)
      rcases hr.hp.ob id _ hl with ⟨q1, q2⟩ | ⟨b, ob, q1, hnΦ, hfz, hrow⟩
      · subst q2; exact absurd hpos (Nat.lt_irrefl _)
      rw [hb] at q1; cases q1
      obtain ⟨o', cap, e1, e2, e3, e4, e5, e6⟩ := hsl
      -- the block's cells
      obtain ⟨c, tt, f, hblk⟩ : ∃ c tt f, w.heap[b]? = some (.cells c tt f) := by
        obtain ⟨us, hu1, hu2⟩ := hrow 0 (l[0]'hpos) (by rw [nth_getElem?]; simp [hpos])
        cases hu2
        have := hu1.1
        unfold World.cell? at this
        cases hq : w.heap[b]? with
        | none => rw [hq] at this; cases this
        | some oo =>
          cases oo with
          | cells c tt f => exact ⟨c, tt, f, rfl⟩
          | _ => rw [hq] at this; cases this
      have hw := Wrote.mark w b c.size ⟨c, tt, f, hblk, rfl⟩ 0
      have m := hw.mono hr.hp hnΦ (id := id) (ob' := .arr (.int .u8) l) hl rfl
      have hr' := hr.write (ob' := .arr (.int .u8) l) rfl rfl hl rfl rfl hb hh hw rfl hnΦ (.inr ⟨b, ob, hb, hnΦ, hw.fz hfz, fun j xx hj => by
        obtain ⟨us, hu1, hu2⟩ := hrow j xx hj
        refine ⟨us, cellsAt_of _ _ _ fun i v hv => ?_, VC_mono m.frz m.sub _ _ _ hu2⟩
        rw [hw.cell, if_neg (by simp)]
        exact cellsAt_get _ _ _ hu1 i v hv⟩)
      refine alloc_step hN hk h hr' (v := a.eval x) ?_ ⟨some (b, ob), hb, ⟨_, _, _, e1⟩, fun sz n hrw => ?_⟩
      · have hmark : (markStringish ⟨b, o', none⟩).run P w = .ok () (w.freeze ⟨b, c.size, none⟩ 1) := by
          simp [markStringish, World.shape?, hblk]
        have hue := Option.some.inj (hu.symm.trans hd2)
        subst hue
        simp only [execOp, ho, Sem.run_bind]
        rw [e1]
        simp [convert, run_underlying hu, run_underlying he, hmark]
      · simp only [St.put, look_cons, if_true, rowOf] at hrw
        cases hrw
        exact ⟨o', cap, e1, e2, e3, e4, by rw [hw.bs]; exact e5, fun hh => by rw [hw.bs]; exact e6 hh⟩
    · -- bytes as a text
      rename_i z v
      split at h
      case h_2 => cases h
      rename_i en e2
      obtain ⟨hbt, h⟩ := cond_none h
      split at h
      case h_2 => cases h
      rename_i l hsrc
      have he := byteT_ok hcx hbt
      obtain ⟨_, hu2, _⟩ := hcx.tab t _ htd
      obtain ⟨_, dd, hdd, _, _, hi, _⟩ := hcx.tab d _ hd
      have := hi _ rfl; subst this
      obtain ⟨aa, cap, ev, hsrc'⟩ := src_sound hr hv hsrc
      refine alloc_step hN hk h hr (v := .string (strOfNums l)) ?_ ⟨strOfNums l, rfl, strOfNums_data l⟩
      have hrun : (convert t d (.slice aa l.length cap)).run P w = .ok (.string (strOfNums l)) w := by
        rcases hsrc' with h0 | ⟨blk, oo, news, f1, f2, f3⟩
        · subst h0
          rw [run_convert_bytes_string w t d en aa _ cap hu2 he hdd]
          cases aa with
          | none => simp [Conv.bytesToString]; rfl
          | some q =>
            rw [show ([] : List Int).length = 0 from rfl, run_bytesToString w q 0 cap [] (by simp [loadCells, loadCellsFrom])]
            rfl
        · subst f1
          refine run_convert_bytes_arg w t en hu2 he blk oo l.length cap l rfl (fun i hi => ?_) d hdd
          have h3 := f3.2.2 i l[i] (by rw [nth_getElem?]; simp [hi])
          have h4 : news[i]? = some (.int .u8 l[i]) := by
            have := congrArg (fun q => q[0]?) (show (news.drop (i * 1)).take 1 = [.int .u8 l[i]] from h3)
            simpa using this
          rw [cellsAt_get _ _ _ f2 i _ h4]
          simp [List.getD_eq_getElem?_getD, List.getElem?_eq_getElem hi]
      simp only [execOp, ho, Sem.run_bind]
      rw [ev, hrun]
      simp
    · cases h
  · cases h

end
end Go.Bm
